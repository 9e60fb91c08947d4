/-
  What is proved: BitsPlaysUptoCardSaid: for every start, all threads, every schedule and every bound whose bulk is at most 1048576, bits.Play answers as the document's answer does. Conditions: those of the given row and card (the variable that is listed reads as its table; bulk at most 1048576).
  Part 4 of 6.
-/
import Derived.Test.YtlcgkpapnpdfpaaDoorZC
import Derived.ProofKit
import Derived.Conc.LeavingOf
import Derived.Deep.DrawnRows
import Derived.BigQuiet
import Derived.Deep.QuietTactic
import Derived.StillTailTactics
import Derived.Deep.RegionLaw
set_option linter.unusedSimpArgs false
set_option linter.unusedVariables false
set_option linter.unusedSectionVars false
set_option maxRecDepth 100000
set_option maxHeartbeats 8000000
namespace Go.Proofs.YtlcgkpapnpdfpaaDoor
open Go Go.Conc Go.RowKit Go.Proofs
section
variable{An:G3}{w w':World}{L:l8}
theorem x8.alloc{N:Nat→Prop}{n tb o tl:Nat}{ta:Option Addr}{oa:Nat→Option Addr}{ol oc:Nat→Nat}{ops:Nat→List P3}{S:List Int}{sa:Option Addr}(h:x8 w N n tb o tl ta oa ol oc ops S sa)(ob:Obj):x8 (w.alloc ob) N n tb o tl ta oa ol oc ops S sa:=by
 refine⟨h.hn,h.hta,fun hp=>by have:=h.htb hp;simp;omega,fun j hj=>?_,h.hlen,fun j hj k x hx=>?_,h.hsl,fun hp=>?_⟩
 ·obtain⟨h1,h2,h3⟩:=h.hth j hj
  exact⟨(O0 h1 ob).1,(O0 h1 ob).2.trans h2,h3⟩
 ·obtain⟨opb,oo,h1,h2,f0,f1,f2,f3,g0,g1,g2,g3⟩:=h.hop j hj k x hx
  exact⟨opb,oo,h1,h2,(O0 f0 ob).1,(O0 f1 ob).1,(O0 f2 ob).1,(O0 f3 ob).1,(O0 f0 ob).2.trans g0,(O0 f1 ob).2.trans g1,(O0 f2 ob).2.trans g2,(O0 f3 ob).2.trans g3⟩
 ·obtain⟨sb,so,c,e,z,h1,h2,h3,h4⟩:=h.hS hp
  exact⟨sb,so,c,e,z,h1,h2,(D0 _ _ (Q3 h3)).trans h3,h4⟩
def T9.re(p:T9)(I:Nat→Option Obj):T9:=⟨p.n,p.aa,p.av,p.db,p.ib,p.ob,p.ops,p.oa,p.oc,I⟩
theorem f0C.re{p:T9}{I:Nat→Option Obj}{st i:Nat}{t:D9 L}(h:f0C L p st i t w):f0C L (p.re I) st i t w:=⟨h.row,h.au,h.al,h.kl,h.ar,h.call⟩
theorem OU.re{p:T9}{g:M1}{x:OX L}(h:OU L p g x w){I:Nat→Option Obj}(hI:∀r o,I r=some o→p.I r=some o):OU L (p.re I) g x w:=
 ⟨fun r o e=>h.fix r o (hI r o e),h.su,h.arr,fun i hi=>(h.thr i hi).re,h.ts,h.sa,h.jj,h.tt,fun r hr=>by
  cases e:I r with
  | none=>exact e
  | some o=>
    have:=h.inone r hr
    rw[hI r o e]at this
    cases this⟩
theorem o0w(hL:L.Ok){s0:L.S}(hsu:L.SU s0 w){n tb o tl tc sc M:Nat}{mo:Int}{ta sa:Option Addr}{oa:Nat→Option Addr}{ol oc:Nat→Nat}{ops:Nat→List P3}{S:List Int}(hI:x8 w (L.SR s0) n tb o tl ta oa ol oc ops S sa)(hM:min (max mo 0) 1048576=(M:Int)){c:Frame}{cs:List Frame}{Stop:Goroutine→World→Prop}
 (hk:∀(g:M1) (p p':T9) (t:OX L×List Nat) (w':World) (oa':Option Addr) (oc':Nat),g.n=n→p.n=n→p.ops=ops→(U2 L p g).Ok g→d0X (U2 L p g) n M S (x00 s0) t→p'.n=n→p'.ops=ops→p'.aa=p.aa→OU L p' g t.1 w'→
   w'.ownsRow w.heap.size 3 1 (.slice oa' t.2.length oc') t.2.length (t.2.map fun i:Nat=>Value.int .i64 i)→(∀y,oa'=some y→¬OR L p' t.1 y.block)→w.heap.size≤w'.heap.size→(∀r c e z,w.heap[r]? =some (.cells c e z)→¬L.SR s0 r→w'.heap[r]? =some (.cells c e z))→(∀r c e z,w.heap[r]? =some (.cells c e z)→¬L.SR s0 r→p'.I r≠none)→
   Q4 An Tryd.prog Stop (G (c.finish (.agg #[vL p.aa 0 n n,.slice oa' t.2.length oc',.slice none 0 0,.bool (decide (0<L5 ((U2 L p g).liv t.1) n))])) cs) w'):
 Q4 An Tryd.prog Stop (G (Frame.enter Tryd.prog 28 #[.slice ta tl tc,.func (.func L.df) L.first L.capt,.slice sa S.length sc,vI mo] .normal) (c::cs)) w:=by
 have hw0:∀r,r<w.heap.size→(w.alloc (.cells #[.slice none 0 0,.slice none 0 0,.slice none 0 0,.bool false] 29)).heap[r]? =w.heap[r]?:=fun r hr=>D0 _ _ hr
 have hs0:(w.alloc (.cells #[.slice none 0 0,.slice none 0 0,.slice none 0 0,.bool false] 29)).heap.size=w.heap.size+1:=by simp
 have htr:S7 (w.alloc (.cells #[.slice none 0 0,.slice none 0 0,.slice none 0 0,.bool false] 29)) w.heap.size (.slice none 0 0) (.slice none 0 0) (.slice none 0 0) (.bool false):=⟨heap_alloc_new _ _⟩
 have hI0:=hI.alloc (.cells #[.slice none 0 0,.slice none 0 0,.slice none 0 0,.bool false] 29)
 refine Z6 (F:=F0) (Stop:=fun a u=>∃A l ib ob db aa av,a=G (Frame.enter Tryd.prog 54 #[l,.slice sa S.length sc,vI mo] .normal) ((bA 28 A [.inRegion (oC n0K) [3,4,5,6,7,8,9,10],.code s0F])::c::cs)∧
  DI (w.alloc (.cells #[.slice none 0 0,.slice none 0 0,.slice none 0 0,.bool false] 29)) n n db aa av (.func (.func L.df) L.first L.capt) oa (fun j=>(ops j).length) oc ib ob l u∧G0 32 A [(8,vP w.heap.size 0),(10,vL aa 0 n n)])
  (E0P J1 (Nat.zero_le _) fun A hA=>n0P hI0.hn hI0.htb (fun j hj=>⟨(hI0.hth j hj).1,(hI0.hth j hj).2.1,(hI0.hth j hj).2.2,(hI0.hlen j hj).symm⟩) hI0.hta fun w1 l ib ob db aa av hD=>E0Q hA fun A2 hA2=>.stop fun d=>⟨A2,l,ib,ob,db,aa,av,rfl,hD.same (Nat.le_refl _) fun _ _=>rfl,hA2⟩) fun a W hS=>?_
 obtain⟨A,l,ib,ob,db,aa,av,rfl,hD,hA⟩:=hS
 generalize w.alloc (.cells #[.slice none 0 0,.slice none 0 0,.slice none 0 0,.bool false] 29)=w0 at hw0 hs0 htr hI0 hD
 have hsu0:L.SU s0 w0:=hL.sS _ _ _ hsu (by omega) fun r hr=>hw0 r (hL.lS _ _ _ hsu hr)
 have hpok:=y0h hL hsu0 hI0 hD
 have hn64:n≤64:=by have:=hI.hn;omega
 have hU1:∀g,OU L (o9 L s0 W n db aa av ib ob oa oc ops) g (x00 s0) W:=fun g=>p0E hL hsu0 hD
 have hsrlt:∀r,L.SR s0 r→r<w.heap.size:=fun r hr=>hL.lS _ _ _ hsu hr
 have hDs:=hD.size
 have hDn:=hD.new
 obtain⟨la,lc,rfl,hla⟩:∃la lc,l= .slice la n lc∧(0<n→∃lb cur,la=some ⟨lb,0,none⟩∧w0.heap.size≤lb∧W.heap[lb]? =some (.cells cur 108 (0,0))∧cur.toList.take n=(List.range n).map fun j=>c0o (ob j) db (ib j) av):=by
  rcases hD.row.2 with⟨h1,h2⟩|⟨b,cap,cur,h1,h2,h3,h4,h5,h6,h7⟩
  ·exact⟨none,0,by rw[h1,h2],fun h=>by omega⟩
  ·exact⟨_,cap,h1,fun _=>⟨b,cur,rfl,h2,h3,by simpa using h7⟩⟩
 have hnm:∀r c e z,W.heap[r]? =some (.cells c e z)→e≠55→¬L.SR s0 r→(o9 L s0 W n db aa av ib ob oa oc ops).I r=some (.cells c e z):=fun r c e z h1 h2 h3=>E6 (by
  rintro(rfl|h)
  ·rw[hD.haa]at h1
   cases h1
   exact h2 rfl
  ·exact h3 h) h1
 have hnA:∀r c e z,W.heap[r]? =some (.cells c e z)→r≠aa→¬L.SR s0 r→(o9 L s0 W n db aa av ib ob oa oc ops).I r=some (.cells c e z):=fun r c e z h1 h2 h3=>E6 (fun h=>h.elim h2 h3) h1
 have hnewS:∀r,w0.heap.size≤r→¬L.SR s0 r:=fun r hr h=>by have:=hsrlt r h;omega
 have hthr:∃lb,(0<n→la=some ⟨lb,0,none⟩)∧∀g:M1,d0i (U2 L (o9 L s0 W n db aa av ib ob oa oc ops) g) lb 0 ((List.range n).map fun j=>.func (.func 63) #[] ((U2 L (o9 L s0 W n db aa av ib ob oa oc ops) g).cap j)):=by
  by_cases h0:0<n
  ·obtain⟨lb,cur,h1,h2,h3,h4⟩:=hla h0
   refine⟨lb,fun _=>h1,fun g=>⟨cur,108,(0,0),hnm lb _ _ _ h3 (by decide) (hnewS lb h2),fun k u hku=>⟨?_,by simp⟩⟩⟩
   have hku:((List.range n).map fun j=>c0o (ob j) db (ib j) av)[k]? =some u:=hku
   rw[← h4]at hku
   have hkn:k<n:=by
    have:=(List.getElem?_eq_some_iff.1 hku).1
    rw[List.length_take]at this
    omega
   rw[List.getElem?_take_of_lt hkn]at hku
   simpa using hku
  ·refine⟨av,fun h=>absurd h h0,fun g=>⟨_,_,_,hnm av _ _ _ hD.hav (by decide) (hnewS av hDn.2.2),fun k u hku=>?_⟩⟩
   have:n=0:=by omega
   rw[this]at hku
   simp at hku
 obtain⟨lb,hlb,hrow⟩:=hthr
 have hsch:∃sb so,(0<S.length→sa=some ⟨sb,so,none⟩)∧∀g:M1,d0i (U2 L (o9 L s0 W n db aa av ib ob oa oc ops) g) sb so (S.map fun i:Int=>Value.int .i64 i):=by
  by_cases h0:0<S.length
  ·obtain⟨sb,so,cc,e,z,h1,h2,h3,h4⟩:=hI0.hS h0
   have hlt:=(Q3 h3)
   refine⟨sb,so,fun _=>h1,fun g=>⟨cc,e,z,hnA sb _ _ _ ((hD.old sb hlt).trans h3) (by omega) h2,h4⟩⟩
  ·refine⟨av,0,fun h=>absurd h h0,fun g=>⟨_,_,_,hnm av _ _ _ hD.hav (by decide) (hnewS av hDn.2.2),fun k u hku=>?_⟩⟩
   have:S=[]:=List.length_eq_zero_iff.1 (by omega)
   rw[this]at hku
   simp at hku
 obtain⟨sb,so,hsb,hsrow⟩:=hsch
 have htrI:(o9 L s0 W n db aa av ib ob oa oc ops).I w.heap.size=some (.cells #[.slice none 0 0,.slice none 0 0,.slice none 0 0,.bool false] 29 (0,0)):=
  hnm _ _ _ _ ((hD.old _ (by omega)).trans htr.o) (by decide) fun h=>by have:=hsrlt _ h;omega
 refine o0x (Z:=fun g=>U2 L (o9 L s0 W n db aa av ib ob oa oc ops) g) (x0:=fun g=>x00 s0) (tb:=lb) (so:=so) (sb:=sb) hn64 hM hI.hsl (fun g hg _=>p0D hL hpok hg) (fun g w2 _ h1 h2=>OU.stable hL (hU1 g) h1 fun r hr=>?_) (fun g hg j hj=>⟨rfl,rfl⟩) (fun g r hr=>OU.low (g:=g) hL (hU1 g) hr) (fun g r hr=>⟨K9 (p:=o9 L s0 W n db aa av ib ob oa oc ops) (hU1 g).fix hr,fun h=>hr ((hU1 g).inone r h)⟩) hlb (fun g _=>hrow g) hsb (fun g _=>hsrow g) ?_
 ·have hlt:r<W.heap.size:=hr.elim (OU.low hL (hU1 g)) (K9 (hU1 g).fix)
  rw[h2 r _ (Array.getElem?_eq_getElem hlt),Array.getElem?_eq_getElem hlt]
 ·intro g t u oa' oc' bv hg hrel hU hord hnR hsz
  have hU:OU L (o9 L s0 W n db aa av ib ob oa oc ops) g t.1 u:=hU
  have hT:S7 u w.heap.size (.slice none 0 0) (.slice none 0 0) (.slice none 0 0) (.bool false):=⟨hU.fix _ _ htrI⟩
  refine Z6 (F:=F0) (Stop:=fun a u2=>a=G (c.finish (.agg #[vL aa 0 n n,.slice oa' t.2.length oc',.slice none 0 0,.bool (decide (0<L5 ((U2 L (o9 L s0 W n db aa av ib ob oa oc ops) g).liv t.1) n))])) cs∧∃d,u2=(trW u w.heap.size (vL aa 0 n n) (.slice oa' t.2.length oc') (.slice none 0 0) (.bool (decide (0<L5 ((U2 L (o9 L s0 W n db aa av ib ob oa oc ops) g).liv t.1) n)))).at d)
   (E0R hT (fun k h=>by obtain⟨z,hz,_⟩:=h;cases hz) hA (.stop fun d=>⟨rfl,d,rfl⟩)) fun a u2 ⟨ha,d,hu2⟩=>?_
  subst ha
  subst hu2
  have hne:∀r,r≠w.heap.size→((trW u w.heap.size (vL aa 0 n n) (.slice oa' t.2.length oc') (.slice none 0 0) (.bool (decide (0<L5 ((U2 L (o9 L s0 W n db aa av ib ob oa oc ops) g).liv t.1) n)))).at d).heap[r]? =u.heap[r]?:=fun r hr=>by
   show(trW _ _ _ _ _ _).heap[r]? =_
   unfold trW
   rw[I0 _ _ _ hr,I0 _ _ _ hr,I0 _ _ _ hr,I0 _ _ _ hr]
  have hsz2:((trW u w.heap.size (vL aa 0 n n) (.slice oa' t.2.length oc') (.slice none 0 0) (.bool (decide (0<L5 ((U2 L (o9 L s0 W n db aa av ib ob oa oc ops) g).liv t.1) n)))).at d).heap.size=u.heap.size:=by
   show(trW _ _ _ _ _ _).heap.size=_
   unfold trW
   simp
  generalize (trW u w.heap.size (vL aa 0 n n) (.slice oa' t.2.length oc') (.slice none 0 0) (.bool (decide (0<L5 ((U2 L (o9 L s0 W n db aa av ib ob oa oc ops) g).liv t.1) n)))).at d=V at hne hsz2 ⊢
  let I':Nat→Option Obj:=fun r=>if r=w.heap.size then none else(o9 L s0 W n db aa av ib ob oa oc ops).I r
  have hI':∀r o,I' r=some o→r≠w.heap.size∧(o9 L s0 W n db aa av ib ob oa oc ops).I r=some o:=fun r o h=>by
   by_cases e:r=w.heap.size
   ·simp[I',e]at h
   ·exact⟨e,by simpa [I',e]using h⟩
  have htrR:¬OR L (o9 L s0 W n db aa av ib ob oa oc ops) t.1 w.heap.size:=fun h=>by
   have:=hU.inone _ h
   rw[htrI]at this
   cases this
  have hU2:OU L ((o9 L s0 W n db aa av ib ob oa oc ops).re I') g t.1 u:=hU.re fun r o h=>(hI' r o h).2
  refine hk g (o9 L s0 W n db aa av ib ob oa oc ops) ((o9 L s0 W n db aa av ib ob oa oc ops).re I') t V oa' oc' hg rfl rfl (p0D hL hpok hg) hrel rfl rfl rfl (hU2.stable hL (by omega) fun r hr=>hne r ?_) ?_ hnR (by omega) (fun r cc e z hr hnS=>?_) fun r cc e z hr hnS=>?_
  ·rintro rfl
   rcases hr with hr|hr
   ·exact htrR hr
   ·cases e:I' w.heap.size with
    | none=>exact hr e
    | some o=>exact(hI' _ _ e).1 rfl
  ·refine j4 (by omega) (G1 hord fun b hb hbn=>hne b (by omega))
  ·have hlt:=(Q3 hr)
   rw[hne r (by omega)]
   exact hU.fix _ _ (hnA r _ _ _ ((hD.old r (by omega)).trans ((hw0 r hlt).trans hr)) (by omega) hnS)
  ·have hlt:=(Q3 hr)
   have h1:=hnA r _ _ _ ((hD.old r (by omega)).trans ((hw0 r hlt).trans hr)) (by omega) hnS
   show I' r≠none
   simp only[I']
   rw[if_neg (by omega),h1]
   simp
end
section
variable{F:Fz}{w:World}
theorem neq_nn106(w:World):(binOp .neq 106 .nilIface .nilIface).run Tryd.prog w= .ok (.bool false) w:=by kernel_rfl
theorem neq_nn106e(w:World)(es:Array Event):(binOp .neq 106 .nilIface .nilIface).events Tryd.prog w es=es:=by kernel_rfl
attribute [go_sem] neq_nn106 neq_nn106e
theorem a08{c:Frame}{cs:List Frame}{main:Bool}{Stop:Goroutine→World→Prop}
 (h:J0 Tryd.prog main F Stop (G (c.finish (.tuple #[])) cs) w):
 J0 Tryd.prog main F Stop (G (Frame.enter Tryd.prog 48 #[.nilIface] .normal) (c::cs)) w:=by
 rw[g0G]
 walk_nrm
 refine ogW l05 t0r ?_
 simp only[oC,l05,pC,a0L,Tryd.f48,Option.getD_some,List.size_toArray,List.length_cons,List.length_nil,Nat.reduceAdd,Nat.zero_add,List.range,List.range.loop]
 iterate 2 refine oT ?_
 refine D1<|ogGn .skip<|ogK ?_
 refine M0 rfl (fun d=>stepG_end) ?_
 refine M0 rfl (fun d=>stepG_leave (fn:=Tryd.f48) (v:=.tuple #[]) rfl rfl Tryd.func48 (by simp[results,Tryd.f48]) (by simp[results,Tryd.f48,go_sem])) ?_
 exact h
end
section
variable{F:Fz}{w w':World}
theorem r0q{x:BitVec 64}{i:Nat}(h:x.getLsbD (i % 64)=true):x ||| bitI i=x:=by
 apply BitVec.eq_of_getLsbD_eq
 intro j hj
 rw[BitVec.getLsbD_or,U8]
 by_cases e:j=i % 64
 ·subst e;simp[h]
 ·simp[e]
theorem v0G{x:BitVec 64}{i:Nat}(h:x.getLsbD (i % 64)=false):x ^^^ bitI i=x ||| bitI i:=by
 apply BitVec.eq_of_getLsbD_eq
 intro j hj
 rw[BitVec.getLsbD_or,BitVec.getLsbD_xor,U8]
 by_cases e:j=i % 64
 ·subst e;simp[h]
 ·simp[e]
def c0m(w:World)(wb:Nat)(ws:List (BitVec 64)):Prop:=w.heap[wb]? =some (.cells ((ws.map fun x=>wV x).toArray) 113 (0,0))
theorem c0m.c{wb:Nat}{ws:List (BitVec 64)}(h:c0m w wb ws){k:Nat}(hk:k<ws.length):w.cell? ⟨wb,k,none⟩=some (wV (ws.getD k 0#64)):=by
 have h:w.heap[wb]? =_:=h
 simp[World.cell?,h,hk]
theorem c0m.z{wb:Nat}{ws:List (BitVec 64)}(h:c0m w wb ws)(k:Nat):w.frozen? ⟨wb,k,none⟩=false:=by
 have h:w.heap[wb]? =_:=h
 simp[World.frozen?,h]
theorem c0m.set{wb:Nat}{ws:List (BitVec 64)}(h:c0m w wb ws)(k:Nat)(z:BitVec 64):c0m (w.setCell ⟨wb,k,none⟩ (wV z)) wb (ws.set k z):=by
 show(w.setCell ⟨wb,k,none⟩ (wV z)).heap[wb]? =_
 rw[U1 (o:=k) h (wV z)]
 congr 2
 simp[List.map_set]
theorem i0a{n m lb wb i:Nat}{ws:List (BitVec 64)}(hs:BH lb wb n m w)(hw:c0m w wb ws)(hl:ws.length=m)(hi:i<n)(hnh:∀k,¬held F ⟨wb,k,none⟩){c:Frame}{cs:List Frame}{main:Bool}{Stop:Goroutine→World→Prop}
 (K:∀b w',w'.heap.size=w.heap.size→(∀r,r≠wb→w'.heap[r]? =w.heap[r]?)→c0m w' wb (ws.set (i / 64) (ws.getD (i / 64) 0#64 ||| bitI i))→J0 Tryd.prog main F Stop (G (c.finish (.tuple #[.bool b,vI 0])) cs) w'):
 J0 Tryd.prog main F Stop (G (Frame.enter Tryd.prog 18 #[vP lb 0,.nilIface,vI (i:Nat)] .normal) (c::cs)) w:=by
 have hk:i / 64<ws.length:=by rw[hl,hs.hm];omega
 have hc:=hw.c hk
 refine t0q fun A1 hA1=>?_
 refine u0I hs hi fun A hA=>a08 ?_
 cases e:(ws.getD (i / 64) 0#64).getLsbD (i % 64)with
 | true=>
   refine o0O hc ((b0s _ _).trans e) rfl hA (g0R hA1 (K false w rfl (fun _ _=>rfl) ?_))
   rw[r0q e]
   have:ws.set (i / 64) (ws.getD (i / 64) 0#64)=ws:=by
    rw[List.getD_eq_getElem?_getD,List.getElem?_eq_getElem hk]
    simp
   rw[this]
   exact hw
 | false=>
   refine o0P hc ((b0s _ _).trans e) rfl hA fun A' hA'=>a08 ?_
   refine o0S (c0i _ (bitI i)) ((b0X _ _).trans (decide_eq_true rfl)) hc (hw.z _) (hnh _) hA' (g0R hA1 (K true _ (by simp) (fun r hr=>I0 _ _ _ hr) ?_))
   rw[v0G e]
   exact hw.set _ _
end
noncomputable section
variable{F:Fz}{w:World}
theorem l0F:∃i z,Tryd.prog.info? 113=some i∧i.zero=some z∧i.size=1∧i.bytes=8∧z.cells= #[.int .u64 0]:=by
 obtain⟨i,hi,h⟩:=Option.map_eq_some_iff.1 (show(Tryd.prog.info? 113).map (fun i=>(i.zero.map Value.cells,i.size,i.bytes))=some (some #[.int .u64 0],1,8)by kernel_rfl)
 simp only[Prod.mk.injEq]at h
 obtain⟨z,hz,hc⟩:=Option.map_eq_some_iff.1 h.1
 exact⟨i,z,hi,hz,h.2.1,h.2.2,hc⟩
theorem y03{m:Nat}(hm:m≤1024)(w:World):(Instr.makeSlice 60 (vI (m:Nat)) (vI (m:Nat))).run Tryd.prog w= .ok (vL w.heap.size 0 m m) (w.alloc (.cells (madeCells #[.int .u64 0] m) 113)):=by
 obtain⟨i,z,hi,hz,hs,hb,hc⟩:=l0F
 have:=run_make (P:=Tryd.prog) w 60 113 i _ Tryd.underlying60 hi hz .i64 .i64 m m (by omega) (by omega) (by rw[hb];omega) (by omega)
 rw[hs,hc]at this
 simpa using this
theorem t0p{m:Nat}(hm:m≤1024)(w:World)(es:Array Event):(Instr.makeSlice 60 (vI (m:Nat)) (vI (m:Nat))).events Tryd.prog w es=es:=by
 obtain⟨i,z,hi,hz,hs,hb,hc⟩:=l0F
 exact events_make (P:=Tryd.prog) w 60 113 i _ Tryd.underlying60 hi hz .i64 .i64 m m (by omega) (by omega) (by rw[hb];omega) (by omega) (by rw[hb];simp;omega) es
theorem h0W(n:Int)(a:Option Addr)(l c:Nat):Tryd.prog.built 62 [(0,vI n),(1,.slice a l c)]=some #[vI n,.slice a l c]:=by kernel_rfl
@[go_sem] theorem t0s(n:Int)(a:Option Addr)(l c:Nat)(w:World):(Instr.build 62 #[(0,vI n),(1,.slice a l c)]).run Tryd.prog w= .ok (.agg #[vI n,.slice a l c]) w:=run_build w _ _ _ (h0W n a l c)
@[go_sem] theorem v0l(n:Int)(a:Option Addr)(l c:Nat)(w:World)(es:Array Event):(Instr.build 62 #[(0,vI n),(1,.slice a l c)]).events Tryd.prog w es=es:=l6 w es _ _ _ _ Tryd.underlying62 (h0W n a l c)
def a0w:Code:=Tryd.f11.body.getD .skip
def w0m:=pC [] a0w
def s0v:=pC [zt] a0w
def o0i:=pC [zf] a0w
def s0z:=pC [zt] o0i
def s0w:=pC [zf,zt,zt] a0w
def s0u:=pC [zf] s0z
def z0k:=pC [zt] s0u
def w0n:=pC [zf] o0i
def s0x:=pC [zf,zf,zt] a0w
theorem m0r(args:Array Value):Frame.enter Tryd.prog 11 args .normal=(Go.Conc.base 11).at {tmps:=args++Array.replicate (17 - args.size) undef,defers:=[]} [.code w0m]:=enter_at args Tryd.func11 rfl
theorem f0g:O1 11:=G2 Tryd.func11 rfl rfl
theorem p04{n m nn:Nat}(hU:D3 F nn)(hn:nn≤w.heap.size)(hn6:n≤65536)(hm:m=(n+63) / 64){c:Frame}{cs:List Frame}{main:Bool}{Stop:Goroutine→World→Prop}
 (h:J0 Tryd.prog main F Stop (G (c.finish (.tuple #[vP (w.heap.size+1) 0,vI 0])) cs) ((w.alloc (.cells (madeCells #[.int .u64 0] m) 113)).alloc (.cells #[vI (n:Nat),vL w.heap.size 0 m m] 62))):
 J0 Tryd.prog main F Stop (G (Frame.enter Tryd.prog 11 #[vI (n:Nat)] .normal) (c::cs)) w:=by
 have hm1:m≤1024:=by omega
 have e0:decide ((n:Int)<0)=false:=decide_eq_false (by omega)
 have e1:decide ((65536:Int)<(n:Int))=false:=decide_eq_false (by omega)
 have e2:decide (65536<n)=false:=decide_eq_false (by omega)
 have w1:IntKind.i64.wrap ((n:Int)+63)=(n:Int)+63:=IntWalk.i64_in _ (by omega)
 have w2:IntKind.i64.wrap (((n:Int)+63).tdiv 64)=(m:Int):=by
  rw[Int.tdiv_eq_ediv_of_nonneg (by omega),IntWalk.i64_in _ (by omega)]
  omega
 clear hm
 have hk:=y03 hm1
 have hke:=t0p hm1
 rw[m0r]
 walk_nrm
 refine ogW s0v o0i ?_
 simp only[oC,s0v,pC,a0w,Tryd.f11,Option.getD_some,List.size_toArray,List.length_cons,List.length_nil,Nat.reduceAdd,Nat.zero_add,List.range,List.range.loop]
 iterate 2 refine oT ?_
 refine D1<|ogV s0z w0n<|ogW s0w s0u ?_
 simp only[oC,s0w,pC,a0w,Tryd.f11,Option.getD_some,List.size_toArray,List.length_cons,List.length_nil,Nat.reduceAdd,Nat.zero_add,List.range,List.range.loop]
 iterate 6 refine oT ?_
 refine D1<|ogGn .skip<|ogK<|ogW s0x .ret ?_
 simp only[oC,s0x,pC,a0w,Tryd.f11,Option.getD_some,List.size_toArray,List.length_cons,List.length_nil,Nat.reduceAdd,Nat.zero_add,List.range,List.range.loop]
 iterate 4 refine oT ?_
 (refine oW fun dd K hK=>?_;go_simp;refine hK _ _ ⟨⟨⟨0,Y0 hU (by first|(simp[go_sem];done)|(simp[go_sem];omega)) _⟩,fun e he=>by(have hm:=mem_listed he;clear he hK;simp[go_sem,t0p hm1,storedEv]at hm)⟩,?_⟩;clear hK K;rw[alloc_at'];refine J0.at ?_ dd)
 refine oT ?_
 refine oA hU ?_
 iterate 2 refine oT ?_
 refine D1<|ogX ?_
 refine M0 rfl (fun d=>stepG_leave (fn:=Tryd.f11) (v:=.tuple #[vP (w.heap.size+1) 0,vI 0]) rfl rfl Tryd.func11 (by simp[results,Tryd.f11]) (by simp[results,Tryd.f11,go_sem])) ?_
 exact h
end
noncomputable section
variable{F:Fz}{w:World}
theorem s05:∃i,Tryd.prog.info? 2=some i∧i.size=1:=by
 obtain⟨i,hi,h⟩:=Option.map_eq_some_iff.1 (show(Tryd.prog.info? 2).map (·.size)=some 1 by kernel_rfl)
 exact⟨i,hi,h⟩
theorem v0V{b o l vc:Nat}(h:l+1≤vc)(w:World):(Instr.sliceAt 22 (vL b o (l+1) vc) (some (vI 1)) none none).run Tryd.prog w= .ok (vL b (if vc=1 then o else o+1) l (vc - 1)) w:=by
 obtain⟨i,hi,hs⟩:=s05
 have hu:Tryd.prog.underlying 22=some (.slice 2):=Tryd.underlying22
 have h1:(1:Int)≤(l:Int)+1:=by omega
 have h2:(l:Int)+1≤(vc:Int):=by omega
 simp[Instr.sliceAt,Instr.slice,run_underlying hu,Instr.sliceBounds,run_sliceBound,sizeOf,typeInfo,hi,hs,h,h1,h2,Addr.add]
 by_cases e:vc=1<;>simp[e]
theorem r0D{b o l vc:Nat}(h:l+1≤vc)(w:World)(es:Array Event):(Instr.sliceAt 22 (vL b o (l+1) vc) (some (vI 1)) none none).events Tryd.prog w es=es:=by
 obtain⟨i,hi,hs⟩:=s05
 have hu:Tryd.prog.underlying 22=some (.slice 2):=Tryd.underlying22
 have h1:(1:Int)≤(l:Int)+1:=by omega
 have h2:(l:Int)+1≤(vc:Int):=by omega
 simp[Instr.sliceAt,Instr.slice,run_underlying hu,Instr.sliceBounds,Instr.sliceBound,asIntOf,run_sliceBound,sizeOf,typeInfo,hi,hs,h,h1,h2]
def X1:Code:=Tryd.f27.body.getD .skip
def w0k:=pC [] X1
def k08:=pC [zt] X1
def n08:=pC [zf] X1
def l0d:=pC [zf,zt] X1
def l0g:=pC [zf] n08
def o0a:=pC [zt] l0g
def l0e:=pC [zf,zf,zt,zt] X1
def j0l:=pC [zf] o0a
def w0l:=pC [zt] j0l
def s0r:=pC [zf,zf,zt,zf,zt,zt] X1
def l0f:=pC [zf,zf,zt,zf,zt,zf] X1
def o0f:=pC [zf] l0g
def c0z:=pC [zf,zf,zf,zt] X1
def d0O:=pC [zf] o0f
def s0t:=pC [zt] d0O
def s0s:=pC [zf,zf,zf,zf,zt,zt] X1
def n0Y:=pC [zf] s0t
def n02:=pC [zt] n0Y
def S9:=pC [zt] n02
def i6:=pC [zf,zf,zf,zf,zt,zf,zt,zt,zt] X1
def n6:=pC [zf] S9
def f0a:=pC [zt] n6
def c06:=pC [zf] n6
def h0O:=pC [zt] c06
def j0m:=pC [zt] h0O
def d0K:=pC [zf,zf,zf,zf,zt,zf,zt,zt,zf,zf,zt,zt,zt] X1
def f0d:=pC [zf] j0m
def d0N:=pC [zf,zf,zf,zf,zt,zf,zt,zt,zf,zf,zt,zt,zf,zt] X1
def h0s:=pC [zf] f0d
def b0r:=pC [zf,zf,zf,zf,zt,zf,zt,zt,zf,zf,zt,zt,zf,zf,zt] X1
def a0S:=pC [zf,zf,zf,zf,zt,zf,zt,zt,zf,zf,zf] X1
def W7:=pC [zf] d0O
def n03:=pC [zf,zf,zf,zf,zf,zt] X1
def u0w:=pC [zf] W7
def n06:=pC [zf,zf,zf,zf,zf,zf,zt] X1
theorem u0s:l0f= .region 4 (oC l0f) false:=by kernel_rfl
theorem u0q:n0Y= .block 0 n02:=by kernel_rfl
theorem u0r:n02= .loop S9:=by kernel_rfl
theorem u0x:S9= .seq i6 n6:=by kernel_rfl
theorem u0t:i6= .region 7 (oC i6) false:=by kernel_rfl
theorem q0P:n6= .seq f0a c06:=by kernel_rfl
theorem q0M:f0a= .cond (.tmp 28) .skip (.exit 0):=by kernel_rfl
theorem q0R:c06= .seq h0O a0S:=by kernel_rfl
theorem j0k:h0O= .block 1 j0m:=by kernel_rfl
theorem q0S:j0m= .seq d0K f0d:=by kernel_rfl
theorem u0u:d0K= .region 8 (oC d0K) false:=by kernel_rfl
theorem q0T:f0d= .seq d0N h0s:=by kernel_rfl
theorem u0v:d0N= .region 9 (oC d0N) false:=by kernel_rfl
theorem q0N:h0s= .cond (.tmp 37) b0r .skip:=by kernel_rfl
theorem q0O:b0r= .region 10 (oC b0r) false:=by kernel_rfl
theorem h0t:a0S= .region 11 (oC a0S) false:=by kernel_rfl
theorem g0E(args:Array Value):Frame.enter Tryd.prog 27 args .normal=(Go.Conc.base 27).at {tmps:=args++Array.replicate (51 - args.size) undef,defers:=[]} [.code w0k]:=enter_at args Tryd.func27 rfl
theorem e0p:O1 27:=G2 Tryd.func27 rfl rfl
def e0b(s:Nat→Value):Array Value:= #[s 0,s 1,s 2,s 3,s 4,s 5,s 6,s 7,s 8,s 9,s 10,s 11,s 12,s 13,s 14,s 15,s 16,s 17,s 18,s 19,s 20,s 21,s 22,s 23,s 24,s 25,s 26,s 27,s 28,s 29,s 30,s 31,s 32,s 33,s 34,s 35,s 36,s 37,s 38,s 39,s 40,s 41,s 42,s 43,s 44,s 45,s 46,s 47,s 48,s 49,s 50]
theorem q0L{A:Array Value}(h:A.size=51):∃s,A=e0b s:=by
 obtain⟨s,hs,_⟩:=Y4 A h
 exact⟨s,hs⟩
theorem x0x{va:Option Addr}{vc:Nat}{cs:List Frame}{main:Bool}{Stop:Goroutine→World→Prop}
 (h:∀A,G0 51 A [(0,.slice va 0 vc),(4,vI 0)]→J0 Tryd.prog main F Stop (G (Frame.enter Tryd.prog 11 #[vI 0] .normal) ((bA 27 A [.inRegion (oC c0z) [1,2,3,4,5,6,7],.code d0O])::cs)) w):
 J0 Tryd.prog main F Stop (G (Frame.enter Tryd.prog 27 #[.slice va 0 vc] .normal) cs) w:=by
 rw[g0E]
 walk_nrm
 refine ogW k08 n08 ?_
 simp only[oC,k08,pC,X1,Tryd.f27,Option.getD_some,List.size_toArray,List.length_cons,List.length_nil,Nat.reduceAdd,Nat.zero_add,List.range,List.range.loop]
 iterate 2 refine oT ?_
 refine D1<|ogW l0d l0g ?_
 simp only[oC,l0d,pC,X1,Tryd.f27,Option.getD_some,List.size_toArray,List.length_cons,List.length_nil,Nat.reduceAdd,Nat.zero_add,List.range,List.range.loop]
 refine oT ?_
 refine D1<|ogV o0a o0f<|ogW l0e j0l ?_
 simp only[oC,l0e,pC,X1,Tryd.f27,Option.getD_some,List.size_toArray,List.length_cons,List.length_nil,Nat.reduceAdd,Nat.zero_add,List.range,List.range.loop]
 iterate 3 refine oT ?_
 refine D1<|ogGn .skip<|ogK<|ogW c0z d0O ?_
 simp only[oC,c0z,pC,X1,Tryd.f27,Option.getD_some,List.size_toArray,List.length_cons,List.length_nil,Nat.reduceAdd,Nat.zero_add,List.range,List.range.loop]
 refine oT ?_
 refine oc f0g #[vI 0] ?_
 refine h _ ?_
 exact⟨rfl,rfl,rfl,trivial⟩
theorem y0Y{vb vo l vc n:Nat}{v0:Int}(hc:w.cell? ⟨vb,vo,none⟩=some (vI v0))(hl:l+1≤vc)(hn:(if 65536<if v0<0 then 0 else v0 then 65536 else if v0<0 then 0 else v0)=(n:Int)){cs:List Frame}{main:Bool}{Stop:Goroutine→World→Prop}
 (h:∀A,G0 51 A [(0,vL vb (if vc=1 then vo else vo+1) l (vc - 1)),(4,vI (n:Nat))]→J0 Tryd.prog main F Stop (G (Frame.enter Tryd.prog 11 #[vI (n:Nat)] .normal) ((bA 27 A [.inRegion (oC c0z) [1,2,3,4,5,6,7],.code d0O])::cs)) w):
 J0 Tryd.prog main F Stop (G (Frame.enter Tryd.prog 27 #[vL vb vo (l+1) vc] .normal) cs) w:=by
 have hd:decide ((0:Int)<(l:Int)+1)=true:=decide_eq_true (by omega)
 have hsl:=fun w=>v0V (b:=vb) (o:=vo) (l:=l) hl w
 have hsle:=fun w es=>r0D (b:=vb) (o:=vo) (l:=l) hl w es
 rw[g0E]
 walk_nrm
 refine ogW k08 n08 ?_
 simp only[oC,k08,pC,X1,Tryd.f27,Option.getD_some,List.size_toArray,List.length_cons,List.length_nil,Nat.reduceAdd,Nat.zero_add,List.range,List.range.loop]
 iterate 2 refine oT ?_
 refine D1<|ogW l0d l0g ?_
 simp only[oC,l0d,pC,X1,Tryd.f27,Option.getD_some,List.size_toArray,List.length_cons,List.length_nil,Nat.reduceAdd,Nat.zero_add,List.range,List.range.loop]
 refine oT ?_
 refine D1<|ogV o0a o0f<|ogW l0e j0l ?_
 simp only[oC,l0e,pC,X1,Tryd.f27,Option.getD_some,List.size_toArray,List.length_cons,List.length_nil,Nat.reduceAdd,Nat.zero_add,List.range,List.range.loop]
 iterate 3 refine oT ?_
 refine D1<|ogYn w0l<|ogW s0r l0f ?_
 simp only[oC,s0r,pC,X1,Tryd.f27,Option.getD_some,List.size_toArray,List.length_cons,List.length_nil,Nat.reduceAdd,Nat.zero_add,List.range,List.range.loop]
 refine oT ?_
 refine oX ?_
 refine oL ?_
 iterate 3 refine oT ?_
 refine D1 ?_
 rw[u0s]
 refine ogR ?_
 simp only[oC,l0f,pC,X1,Tryd.f27,Option.getD_some,List.size_toArray,List.length_cons,List.length_nil,Nat.reduceAdd,Nat.zero_add,List.range,List.range.loop]
 refine oT ?_
 (refine oW fun dd K hK=>?_;go_simp;refine hK _ _ ⟨⟨⟨0,V3.refl _ _⟩,fun e he=>by(have hm:=mem_listed he;clear he hK;simp[go_sem,hsle]at hm)⟩,J0.at ?_ dd⟩;clear hK K)
 refine oT ?_
 refine D1<|ogW c0z d0O ?_
 simp only[oC,c0z,pC,X1,Tryd.f27,Option.getD_some,List.size_toArray,List.length_cons,List.length_nil,Nat.reduceAdd,Nat.zero_add,List.range,List.range.loop]
 refine oT ?_
 refine oc f0g #[vI (n:Nat)] ?_
 refine h _ ?_
 exact⟨rfl,rfl,rfl,trivial⟩
end
section
variable{F:Fz}{w:World}
theorem m0O(X:World)(u v:Value):(X.alloc (.cells #[u] 33)).setCell ⟨X.heap.size,0,none⟩ v=X.alloc (.cells #[v] 33):=by go_simp
theorem y0Z{lb n l sc nn:Nat}{sa:Option Addr}(hU:D3 F nn)(hn:nn≤w.heap.size){A:Array Value}(hA:G0 51 A [(0,.slice sa l sc),(4,vI (n:Nat))]){cs:List Frame}{main:Bool}{Stop:Goroutine→World→Prop}
 (h:∀A,G0 51 A [(0,.slice sa l sc),(4,vI (n:Nat)),(5,vP w.heap.size 0),(25,.slice sa l sc),(26,vI (l:Nat)),(27,vI (0:Nat))]→J0 Tryd.prog main F Stop (G (bA 27 A [.inRegion (oC i6) [0],.code n6,.inLoop S9,.inBlock 0,.code W7]) cs) (w.alloc (.cells #[vP lb 0] 33))):
 J0 Tryd.prog main F Stop (G ((bA 27 A [.inRegion (oC c0z) [1,2,3,4,5,6,7],.code d0O]).finish (.tuple #[vP lb 0,vI 0])) cs) w:=by
 obtain⟨s,rfl,h0,h4,_⟩:=Y3 e0b hA
 simp only[e0b,h0,h4]
 clear h0 h4
 rw[Frame.finish_at]
 simp only[oC,c0z,pC,X1,Tryd.f27,Option.getD_some,List.size_toArray,List.length_cons,List.length_nil,Nat.reduceAdd,Nat.zero_add,List.range,List.range.loop]
 walk_nrm
 iterate 3 refine oT ?_
 refine oA hU ?_
 (refine oW fun dd K hK=>?_;go_simp;refine qS hK hU ?_;clear hK K)
 rw[m0O]
 refine oT ?_
 refine D1<|ogV s0t W7<|ogW s0s n0Y ?_
 simp only[oC,s0s,pC,X1,Tryd.f27,Option.getD_some,List.size_toArray,List.length_cons,List.length_nil,Nat.reduceAdd,Nat.zero_add,List.range,List.range.loop]
 iterate 3 refine oT ?_
 refine D1 ?_
 rw[u0q]
 refine L7 ?_
 rw[u0r]
 refine ogP<|ogW i6 n6 ?_
 simp only[oC,i6,pC,X1,Tryd.f27,Option.getD_some,List.size_toArray,List.length_cons,List.length_nil,Nat.reduceAdd,Nat.zero_add,List.range,List.range.loop]
 refine h _ ?_
 exact⟨rfl,rfl,rfl,rfl,rfl,rfl,rfl,trivial⟩
end
section
variable{F:Fz}{w:World}
theorem y00{vb vo l sc n xb lb i q:Nat}(hi:i<l)(hl:l<9223372036854775808)(hc:w.cell? ⟨vb,vo+i,none⟩=some (vI (q:Nat)))(hq:q<n)(hx:w.cell? ⟨xb,0,none⟩=some (vP lb 0)){A:Array Value}(hA:G0 51 A [(0,vL vb vo l sc),(4,vI (n:Nat)),(5,vP xb 0),(25,vL vb vo l sc),(26,vI (l:Nat)),(27,vI (i:Nat))]){cs:List Frame}{main:Bool}{Stop:Goroutine→World→Prop}
 (h:∀A,G0 51 A [(0,vL vb vo l sc),(4,vI (n:Nat)),(5,vP xb 0),(25,vL vb vo l sc),(26,vI (l:Nat)),(27,vI (i:Nat))]→J0 Tryd.prog main F Stop (G (Frame.enter Tryd.prog 18 #[vP lb 0,.nilIface,vI (q:Nat)] .normal) ((bA 27 A [.inRegion (oC b0r) [2],.inBlock 1,.code a0S,.inLoop S9,.inBlock 0,.code W7])::cs)) w):
 J0 Tryd.prog main F Stop (G (bA 27 A [.inRegion (oC i6) [0],.code n6,.inLoop S9,.inBlock 0,.code W7]) cs) w:=by
 obtain⟨s,rfl,h0,h4,h5,h25,h26,h27,_⟩:=Y3 e0b hA
 simp only[e0b,h0,h4,h5,h25,h26,h27]
 clear h0 h4 h5 h25 h26 h27
 have hd:decide ((i:Int)<(l:Int))=true:=by simp;omega
 have hd2:decide (i<l)=true:=by simp;omega
 have hin:(i:Int)<(l:Int):=by omega
 have hk64:IntKind.i64.wrap ((i:Int)+1)=(i:Int)+1:=IntWalk.i64_in _ (by omega)
 have e1:decide ((0:Int)≤(q:Int))=true:=decide_eq_true (by omega)
 have e2:decide (q<n)=true:=decide_eq_true hq
 simp only[oC,i6,pC,X1,Tryd.f27,Option.getD_some,List.size_toArray,List.length_cons,List.length_nil,Nat.reduceAdd,Nat.zero_add,List.range,List.range.loop]
 refine oT ?_
 refine D1<|ogV f0a c06<|ogYn .skip<|ogK<|ogV h0O a0S ?_
 rw[j0k]
 refine L7<|ogW d0K f0d ?_
 simp only[oC,d0K,pC,X1,Tryd.f27,Option.getD_some,List.size_toArray,List.length_cons,List.length_nil,Nat.reduceAdd,Nat.zero_add,List.range,List.range.loop]
 refine oX ?_
 refine oL ?_
 refine oT ?_
 refine D1<|ogW d0N h0s ?_
 simp only[oC,d0N,pC,X1,Tryd.f27,Option.getD_some,List.size_toArray,List.length_cons,List.length_nil,Nat.reduceAdd,Nat.zero_add,List.range,List.range.loop]
 iterate 7 refine oT ?_
 refine D1<|ogYn b0r ?_
 rw[q0O]
 refine ogR ?_
 simp only[oC,b0r,pC,X1,Tryd.f27,Option.getD_some,List.size_toArray,List.length_cons,List.length_nil,Nat.reduceAdd,Nat.zero_add,List.range,List.range.loop]
 refine oL ?_
 refine oT ?_
 refine oc e0o #[vP lb 0,.nilIface,vI (q:Nat)] ?_
 refine h _ ?_
 exact⟨rfl,rfl,rfl,rfl,rfl,rfl,rfl,trivial⟩
theorem y01{vb vo l sc n xb i:Nat}{b:Bool}(hi:i<l)(hl:l<9223372036854775808){A:Array Value}(hA:G0 51 A [(0,vL vb vo l sc),(4,vI (n:Nat)),(5,vP xb 0),(25,vL vb vo l sc),(26,vI (l:Nat)),(27,vI (i:Nat))]){cs:List Frame}{main:Bool}{Stop:Goroutine→World→Prop}
 (h:∀A,G0 51 A [(0,vL vb vo l sc),(4,vI (n:Nat)),(5,vP xb 0),(25,vL vb vo l sc),(26,vI (l:Nat)),(27,vI (i+1:Nat))]→J0 Tryd.prog main F Stop (G (bA 27 A [.inRegion (oC i6) [0],.code n6,.inLoop S9,.inBlock 0,.code W7]) cs) w):
 J0 Tryd.prog main F Stop (G ((bA 27 A [.inRegion (oC b0r) [2],.inBlock 1,.code a0S,.inLoop S9,.inBlock 0,.code W7]).finish (.tuple #[.bool b,vI 0])) cs) w:=by
 obtain⟨s,rfl,h0,h4,h5,h25,h26,h27,_⟩:=Y3 e0b hA
 simp only[e0b,h0,h4,h5,h25,h26,h27]
 clear h0 h4 h5 h25 h26 h27
 have hd:decide ((i:Int)<(l:Int))=true:=by simp;omega
 have hd2:decide (i<l)=true:=by simp;omega
 have hin:(i:Int)<(l:Int):=by omega
 have hk64:IntKind.i64.wrap ((i:Int)+1)=(i:Int)+1:=IntWalk.i64_in _ (by omega)
 rw[Frame.finish_at]
 simp only[oC,b0r,pC,X1,Tryd.f27,Option.getD_some,List.size_toArray,List.length_cons,List.length_nil,Nat.reduceAdd,Nat.zero_add,List.range,List.range.loop]
 walk_nrm
 refine D1<|ogI ?_
 rw[h0t]
 refine ogR ?_
 simp only[oC,a0S,pC,X1,Tryd.f27,Option.getD_some,List.size_toArray,List.length_cons,List.length_nil,Nat.reduceAdd,Nat.zero_add,List.range,List.range.loop]
 iterate 2 refine oT ?_
 refine D1<|ogL<|ogW i6 n6 ?_
 simp only[oC,i6,pC,X1,Tryd.f27,Option.getD_some,List.size_toArray,List.length_cons,List.length_nil,Nat.reduceAdd,Nat.zero_add,List.range,List.range.loop]
 refine h _ ?_
 exact⟨rfl,rfl,rfl,rfl,rfl,rfl,rfl,trivial⟩
end
section
variable{F:Fz}{w:World}
theorem x0y{vb vo l sc n xb i:Nat}{v:Int}(hi:i<l)(hl:l<9223372036854775808)(hc:w.cell? ⟨vb,vo+i,none⟩=some (.int .i64 v))(hq:v<0){A:Array Value}(hA:G0 51 A [(0,.slice (some ⟨vb,vo,none⟩) l sc),(4,.int .i64 (n:Nat)),(5,.pointer (some ⟨xb,0,none⟩)),(25,.slice (some ⟨vb,vo,none⟩) l sc),(26,.int .i64 (l:Nat)),(27,.int .i64 (i:Nat))]){cs:List Frame}{main:Bool}{Stop:Goroutine→World→Prop}
 (h:∀A,G0 51 A [(0,.slice (some ⟨vb,vo,none⟩) l sc),(4,.int .i64 (n:Nat)),(5,.pointer (some ⟨xb,0,none⟩)),(25,.slice (some ⟨vb,vo,none⟩) l sc),(26,.int .i64 (l:Nat)),(27,.int .i64 (i+1:Nat))]→J0 Tryd.prog main F Stop (G ((Go.Conc.base 27).at ⟨A,[]⟩ [.inRegion (oC i6) [0],.code n6,.inLoop S9,.inBlock 0,.code W7]) cs) w):
 J0 Tryd.prog main F Stop (G ((Go.Conc.base 27).at ⟨A,[]⟩ [.inRegion (oC i6) [0],.code n6,.inLoop S9,.inBlock 0,.code W7]) cs) w:=by
 obtain⟨hsz,h0,h4,h5,h25,h26,h27,_⟩:=hA
 obtain⟨s,rfl⟩:=q0L hsz
 change s 0=_ at h0
 change s 4=_ at h4
 change s 5=_ at h5
 change s 25=_ at h25
 change s 26=_ at h26
 change s 27=_ at h27
 clear hsz
 simp only[e0b,h0,h4,h5,h25,h26,h27]
 clear h0 h4 h5 h25 h26 h27
 have hd:decide ((i:Int)<(l:Int))=true:=by simp;omega
 have hd2:decide (i<l)=true:=by simp;omega
 have hin:(i:Int)<(l:Int):=by omega
 have hk64:IntKind.i64.wrap ((i:Int)+1)=(i:Int)+1:=IntWalk.i64_in _ (by omega)
 have e1:decide ((0:Int)≤v)=false:=decide_eq_false (by omega)
 simp only[oC,i6,pC,X1,Tryd.f27,Option.getD_some,List.size_toArray,List.length_cons,List.length_nil,Nat.reduceAdd,Nat.zero_add,List.range,List.range.loop]
 (refine oW fun dd K hK=>?_;go_simp;refine qT hK ?_;clear hK K)
 refine D1 ?_
 refine F0v q0P ?_
 rw[q0M]
 refine ogT ?_
 simp only[if_true]
 refine ogK ?_
 refine F0v q0R ?_
 rw[j0k]
 refine L7 ?_
 refine ogSR q0S u0u ?_
 simp only[oC,d0K,pC,X1,Tryd.f27,Option.getD_some,List.size_toArray,List.length_cons,List.length_nil,Nat.reduceAdd,Nat.zero_add,List.range,List.range.loop]
 (refine oW fun dd K hK=>?_;go_simp;refine qX hK ?_;clear hK K)
 (refine oW fun dd K hK=>?_;go_simp;refine qL hK ?_;clear hK K)
 (refine oW fun dd K hK=>?_;go_simp;refine qT hK ?_;clear hK K)
 refine D1 ?_
 refine ogSR q0T u0v ?_
 simp only[oC,d0N,pC,X1,Tryd.f27,Option.getD_some,List.size_toArray,List.length_cons,List.length_nil,Nat.reduceAdd,Nat.zero_add,List.range,List.range.loop]
 iterate 3 (refine oW fun dd K hK=>?_;go_simp;refine qT hK ?_;clear hK K)
 iterate 3 refine ogU rfl rfl ?_
 (refine oW fun dd K hK=>?_;go_simp;refine qT hK ?_;clear hK K)
 refine D1 ?_
 rw[q0N]
 refine ogF ?_
 simp only[Bool.false_eq_true,if_false]
 refine ogK ?_
 refine ogI ?_
 rw[h0t]
 refine ogR ?_
 simp only[oC,a0S,pC,X1,Tryd.f27,Option.getD_some,List.size_toArray,List.length_cons,List.length_nil,Nat.reduceAdd,Nat.zero_add,List.range,List.range.loop]
 iterate 2 (refine oW fun dd K hK=>?_;go_simp;refine qT hK ?_;clear hK K)
 refine D1 ?_
 refine ogL ?_
 refine ogSR u0x u0t ?_
 simp only[oC,i6,pC,X1,Tryd.f27,Option.getD_some,List.size_toArray,List.length_cons,List.length_nil,Nat.reduceAdd,Nat.zero_add,List.range,List.range.loop]
 refine h _ ?_
 exact⟨rfl,rfl,rfl,rfl,rfl,rfl,rfl,trivial⟩
theorem x0z{vb vo l sc n xb i:Nat}{v:Int}(hi:i<l)(hl:l<9223372036854775808)(hc:w.cell? ⟨vb,vo+i,none⟩=some (vI v))(h0:0≤v)(hq:(n:Int)≤v){A:Array Value}(hA:G0 51 A [(0,vL vb vo l sc),(4,vI (n:Nat)),(5,vP xb 0),(25,vL vb vo l sc),(26,vI (l:Nat)),(27,vI (i:Nat))]){cs:List Frame}{main:Bool}{Stop:Goroutine→World→Prop}
 (h:∀A,G0 51 A [(0,vL vb vo l sc),(4,vI (n:Nat)),(5,vP xb 0),(25,vL vb vo l sc),(26,vI (l:Nat)),(27,vI (i+1:Nat))]→J0 Tryd.prog main F Stop (G (bA 27 A [.inRegion (oC i6) [0],.code n6,.inLoop S9,.inBlock 0,.code W7]) cs) w):
 J0 Tryd.prog main F Stop (G (bA 27 A [.inRegion (oC i6) [0],.code n6,.inLoop S9,.inBlock 0,.code W7]) cs) w:=by
 obtain⟨s,rfl,h0,h4,h5,h25,h26,h27,_⟩:=Y3 e0b hA
 simp only[e0b,h0,h4,h5,h25,h26,h27]
 clear h0 h4 h5 h25 h26 h27
 have hd:decide ((i:Int)<(l:Int))=true:=by simp;omega
 have hd2:decide (i<l)=true:=by simp;omega
 have hin:(i:Int)<(l:Int):=by omega
 have hk64:IntKind.i64.wrap ((i:Int)+1)=(i:Int)+1:=IntWalk.i64_in _ (by omega)
 have e1:decide ((0:Int)≤v)=true:=decide_eq_true h0
 have e2:decide (v<(n:Int))=false:=decide_eq_false (by omega)
 simp only[oC,i6,pC,X1,Tryd.f27,Option.getD_some,List.size_toArray,List.length_cons,List.length_nil,Nat.reduceAdd,Nat.zero_add,List.range,List.range.loop]
 refine oT ?_
 refine D1<|ogV f0a c06<|ogYn .skip<|ogK<|ogV h0O a0S ?_
 rw[j0k]
 refine L7<|ogW d0K f0d ?_
 simp only[oC,d0K,pC,X1,Tryd.f27,Option.getD_some,List.size_toArray,List.length_cons,List.length_nil,Nat.reduceAdd,Nat.zero_add,List.range,List.range.loop]
 refine oX ?_
 refine oL ?_
 refine oT ?_
 refine D1<|ogW d0N h0s ?_
 simp only[oC,d0N,pC,X1,Tryd.f27,Option.getD_some,List.size_toArray,List.length_cons,List.length_nil,Nat.reduceAdd,Nat.zero_add,List.range,List.range.loop]
 iterate 7 refine oT ?_
 refine D1<|ogGn .skip<|ogK<|ogI ?_
 rw[h0t]
 refine ogR ?_
 simp only[oC,a0S,pC,X1,Tryd.f27,Option.getD_some,List.size_toArray,List.length_cons,List.length_nil,Nat.reduceAdd,Nat.zero_add,List.range,List.range.loop]
 iterate 2 refine oT ?_
 refine D1<|ogL<|ogW i6 n6 ?_
 simp only[oC,i6,pC,X1,Tryd.f27,Option.getD_some,List.size_toArray,List.length_cons,List.length_nil,Nat.reduceAdd,Nat.zero_add,List.range,List.range.loop]
 refine h _ ?_
 exact⟨rfl,rfl,rfl,rfl,rfl,rfl,rfl,trivial⟩
end
noncomputable section
variable{F:Fz}{w:World}
theorem j0L(X:World)(u v:Value):(X.alloc (.cells #[u] 116)).setCell ⟨X.heap.size,0,none⟩ v=X.alloc (.cells #[v] 116):=by go_simp
def fMa(A:Array Value):Frame:=(bA 27 A [.inRegion (oC c0z) [1,2,3,4,5,6,7],.code d0O])
theorem y02{lb n l sc xb nn:Nat}{sa:Option Addr}(hU:D3 F nn)(hn:nn≤w.heap.size)(hx:w.cell? ⟨xb,0,none⟩=some (vP lb 0)){A:Array Value}(hA:G0 51 A [(0,.slice sa l sc),(4,vI (n:Nat)),(5,vP xb 0),(25,.slice sa l sc),(26,vI (l:Nat)),(27,vI (l:Nat))]){c:Frame}{cs:List Frame}{main:Bool}{Stop:Goroutine→World→Prop}
 (h:J0 Tryd.prog main F Stop (G (c.finish (.tuple #[vP lb 0,.func (.func 51) #[] #[vP (w.heap.size+1) 0,vP xb 0]])) cs) ((w.alloc (.cells #[.func (.func 18) #[vP lb 0] #[],.func (.func 19) #[vP lb 0] #[],.func (.func 20) #[vP lb 0] #[]] 58)).alloc (.cells #[vL w.heap.size 0 3 3] 116))):
 J0 Tryd.prog main F Stop (G (bA 27 A [.inRegion (oC i6) [0],.code n6,.inLoop S9,.inBlock 0,.code W7]) (c::cs)) w:=by
 obtain⟨s,rfl,h0,h4,h5,h25,h26,h27,_⟩:=Y3 e0b hA
 simp only[e0b,h0,h4,h5,h25,h26,h27]
 clear h0 h4 h5 h25 h26 h27
 have hd:decide ((l:Int)<(l:Int))=false:=by simp
 have hd2:decide (l<l)=false:=by simp
 have hxl:=I9 hx
 simp only[oC,i6,pC,X1,Tryd.f27,Option.getD_some,List.size_toArray,List.length_cons,List.length_nil,Nat.reduceAdd,Nat.zero_add,List.range,List.range.loop]
 refine oT ?_
 refine D1<|ogV f0a c06<|ogGn (.exit 0) ?_
 refine M0 rfl (fun d=>stepG_exit rfl) ?_
 refine ogW n03 u0w ?_
 simp only[oC,n03,pC,X1,Tryd.f27,Option.getD_some,List.size_toArray,List.length_cons,List.length_nil,Nat.reduceAdd,Nat.zero_add,List.range,List.range.loop]
 refine oL ?_
 refine oT ?_
 refine oL ?_
 refine oT ?_
 refine oL ?_
 refine oT ?_
 iterate 2 refine oA hU ?_
 (refine oW fun dd K hK=>?_;go_simp;refine qS hK hU ?_;clear hK K)
 have e1:=j0L (w.alloc (.cells #[.func (.func 18) #[vP lb 0] #[],.func (.func 19) #[vP lb 0] #[],.func (.func 20) #[vP lb 0] #[]] 58)) (.slice none 0 0) (vL w.heap.size 0 3 3)
 have e2:(w.alloc (.cells #[.func (.func 18) #[vP lb 0] #[],.func (.func 19) #[vP lb 0] #[],.func (.func 20) #[vP lb 0] #[]] 58)).heap.size=w.heap.size+1:=by simp
 rw[e2]at e1
 rw[e1]
 clear e1 e2
 have hx2:((w.alloc (.cells #[.func (.func 18) #[vP lb 0] #[],.func (.func 19) #[vP lb 0] #[],.func (.func 20) #[vP lb 0] #[]] 58)).alloc (.cells #[vL w.heap.size 0 3 3] 116)).cell? ⟨xb,0,none⟩=some (vP lb 0):=by rw[b0Z _ _ _ (by simp;omega),b0Z _ _ _ hxl];exact hx
 generalize ((w.alloc (.cells #[.func (.func 18) #[vP lb 0] #[],.func (.func 19) #[vP lb 0] #[],.func (.func 20) #[vP lb 0] #[]] 58)).alloc (.cells #[vL w.heap.size 0 3 3] 116))=W at hx2 h ⊢
 refine D1<|ogW n06 .ret ?_
 simp only[oC,n06,pC,X1,Tryd.f27,Option.getD_some,List.size_toArray,List.length_cons,List.length_nil,Nat.reduceAdd,Nat.zero_add,List.range,List.range.loop]
 refine oL ?_
 iterate 3 refine oT ?_
 refine D1<|ogX ?_
 refine M0 rfl (fun d=>stepG_leave (fn:=Tryd.f27) (v:=.tuple #[vP lb 0,.func (.func 51) #[] #[vP (w.heap.size+1) 0,vP xb 0]]) rfl rfl Tryd.func27 (by simp[results,Tryd.f27]) (by simp[results,Tryd.f27,go_sem])) ?_
 exact h
end
noncomputable section
variable {cs:List Frame}{main:Bool}{Stop:Goroutine→World→Prop}
variable{F:Fz}{w:World}
theorem m0V(X:World)(x y z u x' y' z' u':Value):((((X.alloc (.cells #[x,y,z,u] 29)).setCell ⟨X.heap.size,0,none⟩ x').setCell ⟨X.heap.size,1,none⟩ y').setCell ⟨X.heap.size,2,none⟩ z').setCell ⟨X.heap.size,3,none⟩ u'=X.alloc (.cells #[x',y',z',u'] 29):=by go_simp
def G5:Code:=Tryd.f9.body.getD .skip
def w0t:=pC [] G5
def s0A:=pC [zt] G5
def s0G:=pC [zf] G5
def h0S:=pC [zf,zt] G5
def l0l:=pC [zf] s0G
def g0v:=pC [zf,zf,zt] G5
def h0T:=pC [zf] l0l
def d0R:=pC [zf,zf,zf,zt] G5
def h0U:=pC [zf] h0T
def s0B:=pC [zf,zf,zf,zf,zt] G5
theorem m0t(args:Array Value):Frame.enter Tryd.prog 9 args .normal=(Go.Conc.base 9).at {tmps:=args++Array.replicate (27 - args.size) undef,defers:=[]} [.code w0t]:=enter_at args Tryd.func9 rfl
theorem g0z:O1 9:=G2 Tryd.func9 rfl rfl
def h0u(s:Nat→Value):Array Value:= #[s 0,s 1,s 2,s 3,s 4,s 5,s 6,s 7,s 8,s 9,s 10,s 11,s 12,s 13,s 14,s 15,s 16,s 17,s 18,s 19,s 20,s 21,s 22,s 23,s 24,s 25,s 26]
theorem y0E{A:Array Value}(h:A.size=27):∃s,A=h0u s:=by
 obtain⟨s,hs,_⟩:=Y4 A h
 exact⟨s,hs⟩
theorem w0o{n:Nat}(hU:D3 F n)(hn:n≤w.heap.size){mo:Int}{va ta sa:Option Addr}{vl vc tl tc sl sc:Nat}
 (h:∀A,G0 27 A [(0,.slice va vl vc),(1,.slice ta tl tc),(2,.slice sa sl sc),(3,vI mo),(8,vP w.heap.size 0)]→J0 Tryd.prog main F Stop (G (Frame.enter Tryd.prog 27 #[.slice va vl vc] .normal) ((bA 9 A [.inRegion (oC h0S) [1,2,3,4,5,6],.code l0l])::cs)) (w.alloc (.cells #[.slice none 0 0,.slice none 0 0,.slice none 0 0,.bool false] 29))):
 J0 Tryd.prog main F Stop (G (Frame.enter Tryd.prog 9 #[.slice va vl vc,.slice ta tl tc,.slice sa sl sc,vI mo] .normal) cs) w:=by
 rw[m0t]
 walk_nrm
 refine ogW s0A s0G ?_
 simp only[oC,s0A,pC,G5,Tryd.f9,Option.getD_some,List.size_toArray,List.length_cons,List.length_nil,Nat.reduceAdd,Nat.zero_add,List.range,List.range.loop]
 refine oA hU ?_
 refine D1<|ogW h0S l0l ?_
 simp only[oC,h0S,pC,G5,Tryd.f9,Option.getD_some,List.size_toArray,List.length_cons,List.length_nil,Nat.reduceAdd,Nat.zero_add,List.range,List.range.loop]
 refine oT ?_
 refine oc e0p #[.slice va vl vc] ?_
 refine h _ ?_
 exact⟨rfl,rfl,rfl,rfl,rfl,rfl,trivial⟩
theorem w0p{kb cb xb rb:Nat}{mo:Int}{va ta sa:Option Addr}{vl vc tl tc sl sc:Nat}{A:Array Value}(hA:G0 27 A [(0,.slice va vl vc),(1,.slice ta tl tc),(2,.slice sa sl sc),(3,vI mo),(8,vP rb 0)])
 (h:∀A,G0 27 A [(8,vP rb 0),(9,vP kb 0)]→J0 Tryd.prog main F Stop (G (Frame.enter Tryd.prog 28 #[.slice ta tl tc,.func (.func 51) #[] #[vP cb 0,vP xb 0],.slice sa sl sc,vI mo] .normal) ((bA 9 A [.inRegion (oC g0v) [4,5,6],.code h0T])::cs)) w):
 J0 Tryd.prog main F Stop (G ((bA 9 A [.inRegion (oC h0S) [1,2,3,4,5,6],.code l0l]).finish (.tuple #[vP kb 0,.func (.func 51) #[] #[vP cb 0,vP xb 0]])) cs) w:=by
 obtain⟨s,rfl,h0,h1,h2,h3,h8,_⟩:=Y3 h0u hA
 simp only[h0u,h0,h1,h2,h3,h8]
 clear h0 h1 h2 h3 h8
 rw[Frame.finish_at]
 simp only[oC,h0S,pC,G5,Tryd.f9,Option.getD_some,List.size_toArray,List.length_cons,List.length_nil,Nat.reduceAdd,Nat.zero_add,List.range,List.range.loop]
 walk_nrm
 iterate 5 refine oT ?_
 refine D1<|ogW g0v h0T ?_
 simp only[oC,g0v,pC,G5,Tryd.f9,Option.getD_some,List.size_toArray,List.length_cons,List.length_nil,Nat.reduceAdd,Nat.zero_add,List.range,List.range.loop]
 iterate 4 refine oT ?_
 refine oc Z9 #[.slice ta tl tc,.func (.func 51) #[] #[vP cb 0,vP xb 0],.slice sa sl sc,vI mo] ?_
 refine h _ ?_
 exact⟨rfl,rfl,rfl,trivial⟩
theorem w0q{n:Nat}(hU:D3 F n)(hn:n≤w.heap.size){kb rb:Nat}{aa oa:Option Addr}{al ac ol oz:Nat}{st:Bool}{A:Array Value}(hA:G0 27 A [(8,vP rb 0),(9,vP kb 0)])
 (h:∀A,G0 27 A [(8,vP rb 0),(11,vP w.heap.size 0)]→J0 Tryd.prog main F Stop (G (Frame.enter Tryd.prog 30 #[vP kb 0,.nilIface] .normal) ((bA 9 A [.inRegion (oC d0R) [1,2,3,4],.code h0U])::cs)) (w.alloc (.cells #[.slice aa al ac,.slice oa ol oz,.slice none 0 0,.bool st] 29))):
 J0 Tryd.prog main F Stop (G ((bA 9 A [.inRegion (oC g0v) [4,5,6],.code h0T]).finish (.agg #[.slice aa al ac,.slice oa ol oz,.slice none 0 0,.bool st])) cs) w:=by
 obtain⟨s,rfl,h8,h9,_⟩:=Y3 h0u hA
 simp only[h0u,h8,h9]
 clear h8 h9
 rw[Frame.finish_at]
 simp only[oC,g0v,pC,G5,Tryd.f9,Option.getD_some,List.size_toArray,List.length_cons,List.length_nil,Nat.reduceAdd,Nat.zero_add,List.range,List.range.loop]
 walk_nrm
 refine oA hU ?_
 (refine oW fun dd K hK=>?_;go_simp;refine hK _ _ ⟨⟨⟨0,e0L (fun k=>O4 hU (show n≤w.heap.size by omega)) _ _ _ _⟩,fun e he=>by(have hm:=mem_listed he;clear he hK;simp[go_sem,storedEv]at hm;rcases hm with rfl|rfl|rfl|rfl<;>exact U0 _ _ ((fun k=>O4 hU (show n≤w.heap.size by omega)) _))⟩,?_⟩;clear hK K;simp only[setCell_at'];refine J0.at ?_ dd)
 have e1:=m0V w (.slice none 0 0) (.slice none 0 0) (.slice none 0 0) (.bool false) (.slice aa al ac) (.slice oa ol oz) (.slice none 0 0) (.bool st)
 rw[e1]
 clear e1
 refine D1<|ogW d0R h0U ?_
 simp only[oC,d0R,pC,G5,Tryd.f9,Option.getD_some,List.size_toArray,List.length_cons,List.length_nil,Nat.reduceAdd,Nat.zero_add,List.range,List.range.loop]
 refine oT ?_
 refine oc c0a #[vP kb 0,.nilIface] ?_
 refine h _ ?_
 exact⟨rfl,rfl,rfl,trivial⟩
theorem w0r{rb tb:Nat}{lv:Value}{A:Array Value}(hA:G0 27 A [(8,vP rb 0),(11,vP tb 0)])
 (h:∀A,G0 27 A [(8,vP rb 0),(11,vP tb 0)]→J0 Tryd.prog main F Stop (G (Frame.enter Tryd.prog 29 #[lv] .normal) ((bA 9 A [.inRegion (oC d0R) [2,3,4],.code h0U])::cs)) w):
 J0 Tryd.prog main F Stop (G ((bA 9 A [.inRegion (oC d0R) [1,2,3,4],.code h0U]).finish lv) cs) w:=by
 obtain⟨s,rfl,h8,h11,_⟩:=Y3 h0u hA
 simp only[h0u,h8,h11]
 clear h8 h11
 rw[Frame.finish_at]
 simp only[oC,d0R,pC,G5,Tryd.f9,Option.getD_some,List.size_toArray,List.length_cons,List.length_nil,Nat.reduceAdd,Nat.zero_add,List.range,List.range.loop]
 walk_nrm
 refine oc f0h #[lv] ?_
 refine h _ ?_
 exact⟨rfl,rfl,rfl,trivial⟩
theorem w0s{rb tb:Nat}{aa oa:Option Addr}{al ac ol oz xl xc:Nat}{xa:Option Addr}{st:Bool}{y0 y1 y2 y3:Value}(hne:rb≠tb)(hR:S7 w rb y0 y1 y2 y3)(hT:S7 w tb (.slice aa al ac) (.slice oa ol oz) (.slice none 0 0) (.bool st))(hnr:∀k,¬held F ⟨rb,k,none⟩)(hnt:∀k,¬held F ⟨tb,k,none⟩){A:Array Value}(hA:G0 27 A [(8,vP rb 0),(11,vP tb 0)]){c:Frame}
 (h:J0 Tryd.prog main F Stop (G (c.finish (.agg #[.slice aa al ac,.slice oa ol oz,.slice xa xl xc,.bool st])) cs) (trW (w.setCell ⟨tb,2,none⟩ (.slice xa xl xc)) rb (.slice aa al ac) (.slice oa ol oz) (.slice xa xl xc) (.bool st))):
 J0 Tryd.prog main F Stop (G ((bA 9 A [.inRegion (oC d0R) [2,3,4],.code h0U]).finish (.slice xa xl xc)) (c::cs)) w:=by
 obtain⟨s,rfl,h8,h11,_⟩:=Y3 h0u hA
 simp only[h0u,h8,h11]
 clear h8 h11
 rw[Frame.finish_at]
 simp only[oC,d0R,pC,G5,Tryd.f9,Option.getD_some,List.size_toArray,List.length_cons,List.length_nil,Nat.reduceAdd,Nat.zero_add,List.range,List.range.loop]
 walk_nrm
 refine oT ?_
 (refine oW fun dd K hK=>?_;have hc2:=(hT.at dd).c2;have hz0:=(hT.at dd).z;go_simp;refine hK _ _ ⟨⟨⟨0,E0 rfl (hnt 2) _⟩,fun e he=>by(have hm:=mem_listed he;clear he hK;simp[go_sem,storedEv,hc2,hz0]at hm;subst hm;exact U0 _ _ (hnt 2))⟩,?_⟩;clear hK K hc2 hz0;rw[setCell_at'];refine J0.at ?_ dd)
 have hT2:S7 (w.setCell ⟨tb,2,none⟩ (.slice xa xl xc)) tb (.slice aa al ac) (.slice oa ol oz) (.slice xa xl xc) (.bool st):=⟨by rw[U1 hT.o];rfl⟩
 have hR2:S7 (w.setCell ⟨tb,2,none⟩ (.slice xa xl xc)) rb y0 y1 y2 y3:=⟨(I0 _ _ _ hne).trans hR.o⟩
 generalize w.setCell ⟨tb,2,none⟩ (.slice xa xl xc)=W at hT2 hR2 h ⊢
 refine D1<|ogW s0B .ret ?_
 simp only[oC,s0B,pC,G5,Tryd.f9,Option.getD_some,List.size_toArray,List.length_cons,List.length_nil,Nat.reduceAdd,Nat.zero_add,List.range,List.range.loop]
 (refine oW fun dd K hK=>?_;have hc0:=(hT2.at dd).c0;have hc1:=(hT2.at dd).c1;have hc2:=(hT2.at dd).c2;have hc3:=(hT2.at dd).c3;have hz0:=(hT2.at dd).z;go_simp;refine hK _ _ ⟨⟨⟨0,V3.refl _ _⟩,fun e he=>by(have hm:=mem_listed he;clear he hK;simp[go_sem,hc0,hc1,hc2,hc3,hz0]at hm;rcases hm with rfl|rfl|rfl|rfl<;>exact I1 _ _)⟩,J0.at ?_ dd⟩;clear hK K hc0 hc1 hc2 hc3 hz0)
 (refine oW fun dd K hK=>?_;have hc0:=(hR2.at dd).c0;have hc1:=(hR2.at dd).c1;have hc2:=(hR2.at dd).c2;have hc3:=(hR2.at dd).c3;have hz0:=(hR2.at dd).z;go_simp;refine hK _ _ ⟨⟨⟨0,e0L hnr _ _ _ _⟩,fun e he=>by(have hm:=mem_listed he;clear he hK;simp[go_sem,storedEv,hc0,hc1,hc2,hc3,hz0]at hm;rcases hm with rfl|rfl|rfl|rfl<;>exact U0 _ _ (hnr _))⟩,?_⟩;clear hK K hc0 hc1 hc2 hc3 hz0;simp only[setCell_at'];refine J0.at ?_ dd)
 refine D1<|ogX ?_
 have hT3:=hR2.put (.slice aa al ac) (.slice oa ol oz) (.slice xa xl xc) (.bool st)
 change J0 _ _ _ _ _ (trW W rb (.slice aa al ac) (.slice oa ol oz) (.slice xa xl xc) (.bool st))
 generalize (trW W rb (.slice aa al ac) (.slice oa ol oz) (.slice xa xl xc) (.bool st))=V at hT3 h ⊢
 have hc0:=hT3.c0
 have hc1:=hT3.c1
 have hc2:=hT3.c2
 have hc3:=hT3.c3
 have hz0:=hT3.z
 refine p4 (fn:=Tryd.f9) (v:=.agg #[.slice aa al ac,.slice oa ol oz,.slice xa xl xc,.bool st]) rfl rfl Tryd.func9 (fun d=>by simp[results,Tryd.f9,go_sem,hc0,hc1,hc2,hc3,hz0]) (fun d e he=>by simp[results,Tryd.f9,go_sem,hc0,hc1,hc2,hc3,hz0]at he;rcases he with rfl|rfl|rfl|rfl<;>exact I1 _ _) ?_
 exact h
end
section
variable{F:Fz}{w w' w0:World}{lb cb fb xb wb n:Nat}
theorem o0j(n:Nat)(ws:List (BitVec 64))(i:Int):(Y8 n ws i).length=ws.length:=by
 unfold Y8;split<;>simp
theorem b0K(n:Nat)(xs:List Int):∀ws:List (BitVec 64),(xs.foldl (Y8 n) ws).length=ws.length:=by
 induction xs with
 | nil=>intro ws;rfl
 | cons x xs ih=>intro ws;rw[List.foldl_cons,ih,o0j]
def HiW(n:Nat)(ws:List (BitVec 64)):Prop:=∀k j,n≤k*64+j→(ws.getD k 0#64).getLsbD j=false
theorem q04(n m:Nat):HiW n (List.replicate m 0#64):=fun k j _=>by
 rw[List.getD_eq_getElem?_getD,List.getElem?_replicate]
 split<;>simp
theorem h0y{ws:List (BitVec 64)}(h:HiW n ws){k:Nat}{z:BitVec 64}(hz:∀j,n≤k*64+j→z.getLsbD j=false):HiW n (ws.set k z):=fun i j hj=>by
 rw[List.getD_eq_getElem?_getD,List.getElem?_set]
 split
 ·rename_i e
  subst e
  split
  ·exact hz j hj
  ·simp
 ·have:=h i j hj
  rwa [List.getD_eq_getElem?_getD]at this
theorem q03{ws:List (BitVec 64)}(h:HiW n ws)(i:Int):HiW n (Y8 n ws i):=by
 unfold Y8
 split
 ·rename_i e
  refine h0y h fun j hj=>?_
  rw[BitVec.getLsbD_or,h _ _ hj,U8]
  simp
  omega
 ·exact h
theorem p0k(xs:List Int):∀ws:List (BitVec 64),HiW n ws→HiW n (xs.foldl (Y8 n) ws):=by
 induction xs with
 | nil=>exact fun ws h=>h
 | cons x xs ih=>exact fun ws h=>ih _ (q03 h x)
theorem o0l(vs:List Int):B6 vs≤65536:=by unfold B6;omega
def c0K(w:World)(va:Option Addr)(xs:List Int):Prop:=∀i x,xs[i]? =some x→∃b o,va=some ⟨b,o,none⟩∧w.cell? ⟨b,o+i,none⟩=some (vI x)
theorem c0K.same{va:Option Addr}{xs:List Int}(h:c0K w va xs)(hs:∀r,r<w.heap.size→w'.heap[r]? =w.heap[r]?):c0K w' va xs:=fun i x hx=>by
 obtain⟨b,o,e,h2⟩:=h i x hx
 refine⟨b,o,e,?_⟩
 rw[← h2]
 unfold World.cell?
 rw[hs b (I9 h2)]
theorem r0k{sa:Option Addr}{sc:Nat}{xs:List Int}{N0 m:Nat}(hl:xs.length<9223372036854775808)(hlo:∀b o,sa=some ⟨b,o,none⟩→0<xs.length→b<N0)(hr:c0K w0 sa xs)(hwb:N0≤wb)(hlb:wb≠lb)(hxb:wb≠xb)(hnh:∀k,¬held F ⟨wb,k,none⟩){cs:List Frame}{main:Bool}{Stop:Goroutine→World→Prop}
 (ws0:List (BitVec 64)) (hm:ws0.length=m)
 (K:∀w A,BH lb wb n m w→w.cell? ⟨xb,0,none⟩=some (vP lb 0)→w.heap.size=w0.heap.size→(∀r,r≠wb→w.heap[r]? =w0.heap[r]?)→c0m w wb (xs.foldl (Y8 n) ws0)→G0 51 A [(0,.slice sa xs.length sc),(4,vI (n:Nat)),(5,vP xb 0),(25,.slice sa xs.length sc),(26,vI (xs.length:Nat)),(27,vI (xs.length:Nat))]→J0 Tryd.prog main F Stop (G (bA 27 A [.inRegion (oC i6) [0],.code n6,.inLoop S9,.inBlock 0,.code W7]) cs) w):
 ∀(k i:Nat) (w:World) (A:Array Value) (ws:List (BitVec 64)),i+k=xs.length→ws.length=m→(xs.drop i).foldl (Y8 n) ws=xs.foldl (Y8 n) ws0→BH lb wb n m w→w.cell? ⟨xb,0,none⟩=some (vP lb 0)→w.heap.size=w0.heap.size→(∀r,r≠wb→w.heap[r]? =w0.heap[r]?)→c0m w wb ws→G0 51 A [(0,.slice sa xs.length sc),(4,vI (n:Nat)),(5,vP xb 0),(25,.slice sa xs.length sc),(26,vI (xs.length:Nat)),(27,vI (i:Nat))]→J0 Tryd.prog main F Stop (G (bA 27 A [.inRegion (oC i6) [0],.code n6,.inLoop S9,.inBlock 0,.code W7]) cs) w:=by
 intro k
 induction k with
 | zero=>
   intro i w A ws hk hw hf hB hx hs ho hW hA
   obtain rfl:i=xs.length:=by omega
   rw[List.drop_length]at hf
   simp only[List.foldl_nil]at hf
   subst hf
   exact K w A hB hx hs ho hW hA
 | succ k ih=>
   intro i w A ws hk hw hf hB hx hs ho hW hA
   have hi:i<xs.length:=by omega
   have hxi:xs[i]? =some xs[i]:=List.getElem?_eq_getElem hi
   obtain⟨b,o,rfl,hc⟩:=hr i _ hxi
   have hb:=hlo b o rfl (by omega)
   have hc2:w.cell? ⟨b,o+i,none⟩=some (vI xs[i]):=by
    rw[← hc]
    unfold World.cell?
    rw[ho b (by omega)]
   have hd:xs.drop i=xs[i]::xs.drop (i+1):=List.drop_eq_getElem_cons hi
   rw[hd,List.foldl_cons]at hf
   generalize xs[i]=x at hc2 hf
   by_cases hq:0≤x∧x<n
   ·obtain⟨q,rfl⟩:∃q:Nat,x=(q:Int):=⟨x.toNat,by omega⟩
    have hqn:q<n:=by omega
    refine y00 hi hl hc2 hqn hx hA fun A2 hA2=>?_
    have hp:Y8 n ws (q:Int)=ws.set (q / 64) (ws.getD (q / 64) 0#64 ||| bitI q):=by
     unfold Y8;rw[if_pos hq];rfl
    refine i0a hB hW hw hqn hnh fun bb w2 h1 h2 h3=>y01 hi hl hA2 fun A3 hA3=>?_
    refine ih (i+1) w2 A3 _ (by omega) ?_ (by rw[← hp];exact hf) ⟨?_,?_,hB.hm,hB.hn⟩ ?_ (h1.trans hs) (fun r hr=>(h2 r hr).trans (ho r hr)) h3 hA3
    ·simp[hw]
    ·rw[← hB.c0];unfold World.cell?;rw[h2 _ (Ne.symm hlb)]
    ·rw[← hB.c1];unfold World.cell?;rw[h2 _ (Ne.symm hlb)]
    ·rw[← hx];unfold World.cell?;rw[h2 _ (Ne.symm hxb)]
   ·have hp:Y8 n ws x=ws:=by unfold Y8;rw[if_neg hq]
    rw[hp]at hf
    by_cases h0:x<0
    ·exact x0y hi hl hc2 h0 hA fun A2 hA2=>ih (i+1) w A2 ws (by omega) hw hf hB hx hs ho hW hA2
    ·exact x0z hi hl hc2 (by omega) (by omega) hA fun A2 hA2=>ih (i+1) w A2 ws (by omega) hw hf hB hx hs ho hW hA2
end
section
variable{w w' w0:World}{lb wb:Nat}
theorem y05(a:Addr):¬held F0 a:=fun h=>by obtain⟨z,hz,_⟩:=h;cases hz
structure R7(sv:Value)(main:Bool)(sb:Option Nat)(X:Nat→World→Prop):Prop where
 tick:∀(m:Nat) (w:World) (c:Frame) (cs:List Frame) (Stop:Goroutine→World→Prop),X m w→m<4611686018427387904→(∀w',X (m+1) w'→w'.heap.size=w.heap.size→(∀r,some r≠sb→w'.heap[r]? =w.heap[r]?)→J0 Tryd.prog main F0 Stop (G (c.finish (.tuple #[])) cs) w')→
  J0 Tryd.prog main F0 Stop (G (Frame.enter Tryd.prog 48 #[sv] .normal) (c::cs)) w
 keep:∀(m:Nat) (w w':World),X m w→(∀b,sb=some b→b<w.heap.size→w'.heap[b]? =w.heap[b]?)→X m w'
theorem e0W(main:Bool):R7 .nilIface main none fun _ _=>True where
 tick:=fun m w c cs Stop _ _ h=>a08 (h w trivial rfl fun _ _=>rfl)
 keep:=fun _ _ _ _ _=>trivial
structure WU(lb wb:Nat)(k:V0)(w:World):Prop where
 wf:BWf k
 o:w.heap[lb]? =some (.cells #[vI (k.n:Nat),vL wb 0 k.ws.length k.ws.length] 62 (0,0))
 ws:c0m w wb k.ws
 t:Tab w
 ne:wb≠lb
 z:wb≠0
theorem WU.bh{k:V0}(h:WU lb wb k w):BH lb wb k.n k.ws.length w:=⟨by simp[World.cell?,h.o],by simp[World.cell?,h.o],h.wf.l,h.wf.n⟩
theorem WU.same{k:V0}(h:WU lb wb k w)(h1:w'.heap[lb]? =w.heap[lb]?)(h2:w'.heap[wb]? =w.heap[wb]?)(h3:w'.heap[0]? =w.heap[0]?):WU lb wb k w':=⟨h.wf,h1.trans h.o,h2.trans h.ws,h.t.same h3,h.ne,h.z⟩
theorem WU.low{k:V0}(h:WU lb wb k w):lb<w.heap.size∧wb<w.heap.size∧0<w.heap.size:=by
 have h1:=(Array.getElem?_eq_some_iff.1 h.o).1
 exact⟨h1,(Array.getElem?_eq_some_iff.1 (show w.heap[wb]? =_ from h.ws)).1,by omega⟩
theorem WU.wc{k:V0}(h:WU lb wb k w){i:Nat}(hi:i<k.ws.length):w.cell? ⟨wb,i,none⟩=some (wV (k.wd i)):=h.ws.c hi
theorem WU.hz{k:V0}(h:WU lb wb k w)(i:Nat):HiZ k.n i (k.wd i):=fun j _ hj=>h.wf.hi _ _ hj
theorem WU.setW{k:V0}(h:WU lb wb k w){i:Nat}{z:BitVec 64}(hz:∀j,k.n≤i*64+j→z.getLsbD j=false):WU lb wb {k with ws:=k.ws.set i z} (w.setCell ⟨wb,i,none⟩ (wV z)):=by
 refine⟨⟨by simpa using h.wf.l,h.wf.n,h0y (n:=k.n) h.wf.hi hz⟩,?_,h.ws.set _ _,h.t.same (I0 _ _ _ (Ne.symm h.z)),h.ne,h.z⟩
 rw[I0 _ _ _ (Ne.symm h.ne)]
 have:=h.o
 simpa using this
structure n8(lb wb:Nat)(sb:Option Nat)(X:Nat→World→Prop)(w0:World)(k:V0)(m:Nat)(w:World):Prop where
 u:WU lb wb k w
 x:X m w
 sz:w0.heap.size≤w.heap.size
 o:∀r,r<w0.heap.size→some r≠sb→r≠wb→w.heap[r]? =w0.heap[r]?
def Apt(lb wb:Nat)(sb:Option Nat):Prop:=∀b,sb=some b→b≠lb∧b≠wb∧b≠0
section
variable{sv:Value}{main:Bool}{sb:Option Nat}{m:Nat}{X:Nat→World→Prop}{k:V0}
theorem n8.tick(h:n8 lb wb sb X w0 k m w)(hsb:Apt lb wb sb)(hx:X (m+1) w')(hs:w'.heap.size=w.heap.size)(ho:∀r,some r≠sb→w'.heap[r]? =w.heap[r]?):n8 lb wb sb X w0 k (m+1) w':=
 ⟨h.u.same (ho _ fun e=>(hsb _ e.symm).1 rfl) (ho _ fun e=>(hsb _ e.symm).2.1 rfl) (ho _ fun e=>(hsb _ e.symm).2.2 rfl),hx,by rw[hs];exact h.sz,fun r hr h1 h2=>(ho r h1).trans (h.o r hr h1 h2)⟩
theorem n8.grow(S:R7 sv main sb X)(h:n8 lb wb sb X w0 k m w)(hsb:Apt lb wb sb)(hsz:w.heap.size≤w'.heap.size)(ho:∀r,r<w0.heap.size→w'.heap[r]? =w.heap[r]?)(h1:w'.heap[lb]? =w.heap[lb]?)(h2:w'.heap[wb]? =w.heap[wb]?)(h3:w'.heap[0]? =w.heap[0]?)(hb:∀b,sb=some b→b<w.heap.size→w'.heap[b]? =w.heap[b]?):n8 lb wb sb X w0 k m w':=
 ⟨h.u.same h1 h2 h3,S.keep m _ _ h.x hb,Nat.le_trans h.sz hsz,fun r hr h1 h2=>(ho r hr).trans (h.o r hr h1 h2)⟩
theorem n8.setW(S:R7 sv main sb X)(h:n8 lb wb sb X w0 k m w)(hsb:Apt lb wb sb){i:Nat}{z:BitVec 64}(hz:∀j,k.n≤i*64+j→z.getLsbD j=false):n8 lb wb sb X w0 {k with ws:=k.ws.set i z} m (w.setCell ⟨wb,i,none⟩ (wV z)):=
 ⟨h.u.setW hz,S.keep m _ _ h.x fun b hb _=>I0 _ _ _ (hsb b hb).2.1,by rw[World.size_setCell];exact h.sz,fun r hr h1 h2=>(I0 _ _ _ h2).trans (h.o r hr h1 h2)⟩
def V0.numsTo(s:V0)(i:Nat):List Int:=(List.range i).flatMap fun k=>X3 s.n k (s.wd k)
theorem a0F(s:V0)(i:Nat):s.numsTo (i+1)=s.numsTo i++X3 s.n i (s.wd i):=by simp[V0.numsTo,List.range_succ]
theorem W9(s:V0):s.numsTo s.ws.length=s.nums:=rfl
theorem m0H(n k:Nat)(x:BitVec 64):(X3 n k x).length≤64:=by
 unfold X3
 rw[List.length_map]
 exact Nat.le_trans (List.length_filter_le _ _) (by simp)
theorem a06(s:V0)(i:Nat):(s.numsTo i).length≤64*i:=by
 induction i with
 | zero=>simp[V0.numsTo]
 | succ i ih=>
   rw[a0F,List.length_append]
   have:=m0H s.n i (s.wd i)
   omega
theorem f0Z(S:R7 sv main sb X)(hsb:Apt lb wb sb){w1:World}(hlow:lb<w1.heap.size∧wb<w1.heap.size∧0<w1.heap.size)(hsl:w0.heap.size≤w1.heap.size)(hsbl:∀b,sb=some b→b<w1.heap.size)(hm:m+2000<4611686018427387904){c:Frame}{cs:List Frame}{Stop:Goroutine→World→Prop}
 (K:∀w' ov,n8 lb wb sb X w0 k (m+k.ws.length) w'→w'.ownsRow 0 3 1 ov k.nums.length (k.nums.map fun v=>vI v)→(∀b,ov.ownBlock=some b→w1.heap.size≤b)→w1.heap.size≤w'.heap.size→(∀r,r<w1.heap.size→some r≠sb→w'.heap[r]? =w1.heap[r]?)→J0 Tryd.prog main F0 Stop (G (c.finish ov) cs) w'):
 ∀(j i:Nat) (w:World) (A:Array Value) (ov:Value),i+j+1=k.ws.length→n8 lb wb sb X w0 k (m+i) w→w.ownsRow 0 3 1 ov (k.numsTo i).length ((k.numsTo i).map fun v=>vI v)→(∀b,ov.ownBlock=some b→w1.heap.size≤b)→w1.heap.size≤w.heap.size→(∀r,r<w1.heap.size→some r≠sb→w.heap[r]? =w1.heap[r]?)→
  G0 40 A [(0,vP lb 0),(1,sv),(5,ov),(6,vI (i:Nat)),(11,vI (k.ws.length:Nat)),(12,vI (i:Nat))]→
  J0 Tryd.prog main F0 Stop (G (Frame.enter Tryd.prog 48 #[sv] .normal) ((bA 30 A [.inRegion (oC b0W) [1],.code b0q,.inBlock 1,.code f6,.inLoop a0v,.inBlock 0,.code J7])::c::cs)) w:=by
 intro j
 induction j with
 | zero=>
   intro i w A ov hi h hrow hnew hs ho hA
   have hl:=h.u.wf.l
   have hn:=h.u.wf.n
   refine S.tick _ _ _ _ _ h.x (by omega) fun w2 hx hz hq=>?_
   have h2:=h.tick hsb hx hz hq
   have hrow2:w2.ownsRow 0 3 1 ov (k.numsTo i).length ((k.numsTo i).map fun v=>vI v):=G1 hrow fun b hb _=>hq b fun e=>by have:=hsbl b e.symm;have:=hnew b hb;omega
   have hw:i<k.ws.length:=by omega
   have hlen:=a06 k i
   have hbl:=f0l (k.wd i)
   have hnum:=b0T (h.u.hz i)
   refine r0g h2.u.bh hw (h2.u.wc hw) hA fun A' hA'=>?_
   refine e0d (w0:=w2) (ov0:=ov) (ys:=k.numsTo (i+1)) J1 (Nat.zero_le _) (by omega) h2.u.low.2.2 h2.u.t (fun e=>by have:=hnew 0 e.symm;omega) (fun q _=>rfl) (fun ov' w' A3 hrow3 hwf' hm' hA3=>?_) (H8 (k.wd i)) (k.wd i) (k.numsTo i) ov w2 A' rfl (by rw[a0F,hnum]) (by omega) hrow2 (g0J _) (P6.refl _ _) hA'
   have hnw:∀r,r<w1.heap.size→w'.heap[r]? =w2.heap[r]?:=fun r hr=>hm'.old r (by omega) fun e=>by have:=hnew r e.symm;omega
   have h3:n8 lb wb sb X w0 k (m+i+1) w':=h2.grow S hsb hm'.size (fun r hr=>hnw r (by omega)) (hnw _ hlow.1) (hnw _ hlow.2.1) (hnw _ hlow.2.2) fun b hb _=>hnw b (hsbl b hb)
   have hnew':∀b,ov'.ownBlock=some b→w1.heap.size≤b:=fun b hb=>by
    rcases hm'.blk with h1|⟨q,h1,h2⟩
    ·exact hnew b (h1 ▸ hb)
    ·rw[h1]at hb;cases hb;omega
   have hms:=hm'.size
   have ho':∀r,r<w1.heap.size→some r≠sb→w'.heap[r]? =w1.heap[r]?:=fun r hr hrs=>(hnw r hr).trans ((hq r hrs).trans (ho r hr hrs))
   refine p0s (by omega) (by omega) hA3 (K w' ov' ?_ ?_ hnew' (by omega) ho')
   ·have e:m+i+1=m+k.ws.length:=by omega
    rw[← e];exact h3
   ·have e:i+1=k.ws.length:=by omega
    rw[e,W9]at hrow3
    exact hrow3
 | succ j ih=>
   intro i w A ov hi h hrow hnew hs ho hA
   have hl:=h.u.wf.l
   have hn:=h.u.wf.n
   refine S.tick _ _ _ _ _ h.x (by omega) fun w2 hx hz hq=>?_
   have h2:=h.tick hsb hx hz hq
   have hrow2:w2.ownsRow 0 3 1 ov (k.numsTo i).length ((k.numsTo i).map fun v=>vI v):=G1 hrow fun b hb _=>hq b fun e=>by have:=hsbl b e.symm;have:=hnew b hb;omega
   have hw:i<k.ws.length:=by omega
   have hlen:=a06 k i
   have hbl:=f0l (k.wd i)
   have hnum:=b0T (h.u.hz i)
   refine r0g h2.u.bh hw (h2.u.wc hw) hA fun A' hA'=>?_
   refine e0d (w0:=w2) (ov0:=ov) (ys:=k.numsTo (i+1)) J1 (Nat.zero_le _) (by omega) h2.u.low.2.2 h2.u.t (fun e=>by have:=hnew 0 e.symm;omega) (fun q _=>rfl) (fun ov' w' A3 hrow3 hwf' hm' hA3=>?_) (H8 (k.wd i)) (k.wd i) (k.numsTo i) ov w2 A' rfl (by rw[a0F,hnum]) (by omega) hrow2 (g0J _) (P6.refl _ _) hA'
   have hnw:∀r,r<w1.heap.size→w'.heap[r]? =w2.heap[r]?:=fun r hr=>hm'.old r (by omega) fun e=>by have:=hnew r e.symm;omega
   have h3:n8 lb wb sb X w0 k (m+i+1) w':=h2.grow S hsb hm'.size (fun r hr=>hnw r (by omega)) (hnw _ hlow.1) (hnw _ hlow.2.1) (hnw _ hlow.2.2) fun b hb _=>hnw b (hsbl b hb)
   have hnew':∀b,ov'.ownBlock=some b→w1.heap.size≤b:=fun b hb=>by
    rcases hm'.blk with h1|⟨q,h1,h2⟩
    ·exact hnew b (h1 ▸ hb)
    ·rw[h1]at hb;cases hb;omega
   have hms:=hm'.size
   have ho':∀r,r<w1.heap.size→some r≠sb→w'.heap[r]? =w1.heap[r]?:=fun r hr hrs=>(hnw r hr).trans ((hq r hrs).trans (ho r hr hrs))
   refine p0r (by omega) (by omega) hA3 fun A4 hA4=>ih (i+1) w' A4 ov' (by omega) h3 hrow3 hnew' (by omega) ho' hA4
theorem h09(S:R7 sv main sb X)(hsb:Apt lb wb sb)(h:n8 lb wb sb X w0 k m w)(hsbl:∀b,sb=some b→b<w.heap.size)(hm:m+2000<4611686018427387904){c:Frame}{cs:List Frame}{Stop:Goroutine→World→Prop}
 (K:∀w' ov,n8 lb wb sb X w0 k (m+k.ws.length) w'→w'.ownsRow 0 3 1 ov k.nums.length (k.nums.map fun v=>vI v)→(∀b,ov.ownBlock=some b→w.heap.size≤b)→w.heap.size≤w'.heap.size→(∀r,r<w.heap.size→some r≠sb→w'.heap[r]? =w.heap[r]?)→J0 Tryd.prog main F0 Stop (G (c.finish ov) cs) w'):
 J0 Tryd.prog main F0 Stop (G (Frame.enter Tryd.prog 30 #[vP lb 0,sv] .normal) (c::cs)) w:=by
 by_cases h0:k.ws.length=0
 ·refine p0q h.u.bh h0 (K w _ (by rw[h0];exact h) ?_ (fun b hb=>by simp[Value.ownBlock]at hb) (Nat.le_refl _) fun _ _ _=>rfl)
  have e:k.nums=[]:=by rw[← W9,h0];rfl
  rw[e]
  exact World.ownsRow_nil _ _ _ _
 ·refine v0q h.u.bh (by omega) fun A hA=>?_
  exact f0Z S hsb h.u.low h.sz hsbl hm K (k.ws.length - 1) 0 w A _ (by omega) h (World.ownsRow_nil _ _ _ _) (fun b hb=>by simp[Value.ownBlock]at hb) (Nat.le_refl _) (fun _ _ _=>rfl) hA
theorem i0e{lv:Value}{xs:List Int}(hl:xs.length≤70000)(hrow:w.ownsRow 0 3 1 lv xs.length (xs.map fun v=>vI v)){c:Frame}{cs:List Frame}{Stop:Goroutine→World→Prop}
 (K:∀w' ov,w'.ownsRow 0 2 1 ov xs.length (xs.map fun v=>vI v)→(∀b,ov.ownBlock=some b→w.heap.size≤b)→w.heap.size≤w'.heap.size→(∀r,r<w.heap.size→w'.heap[r]? =w.heap[r]?)→J0 Tryd.prog main F0 Stop (G (c.finish ov) cs) w'):
 J0 Tryd.prog main F0 Stop (G (Frame.enter Tryd.prog 29 #[lv] .normal) (c::cs)) w:=by
 obtain⟨la,lc,rfl⟩:=d0f hrow
 by_cases h0:xs.length=0
 ·refine q0t fun A6 hA6=>?_
  have hA7:G0 18 A6 [(3,.slice none 0 0),(6,.slice la xs.length lc),(7,vI (xs.length:Nat)),(8,vI (xs.length:Nat))]:=by rw[h0]at hA6 ⊢;exact hA6
  refine q0u hA7 (K w _ ?_ (fun b hb=>by simp[Value.ownBlock]at hb) (Nat.le_refl _) fun _ _=>rfl)
  have hy0:xs=[]:=List.length_eq_zero_iff.1 h0
  rw[hy0]
  exact World.ownsRow_nil _ _ _ _
 ·rcases hrow.2 with⟨e,_⟩|⟨gb,lc,cur,e,q1,q2,q3,q4,q5,q6⟩
  ·simp only[Value.slice.injEq]at e
   omega
  ·simp only[Value.slice.injEq]at e
   obtain⟨rfl,_,rfl⟩:=e
   refine q0t fun A6 hA6=>?_
   refine l08 (w0:=w) (xs:=xs) J1 (Nat.zero_le _) (by omega) (fun j x hj=>?_) (fun lv w2 A7 hr2 hwf2 hm2 hA7=>?_) xs.length 0 _ w A6 (by omega) (World.ownsRow_nil _ _ _ _) (g0J _) (P6.refl _ _) hA6
   ·obtain⟨b2,cap2,a1,a2⟩:=M5 hrow (k:=j) (x:=vI x) (by rw[List.getElem?_map,hj];rfl)
    cases a1
    exact a2.c
   ·refine q0u hA7 (K w2 lv hr2 (fun b hb=>?_) hm2.size fun r hr=>hm2.old r hr (by simp[Value.ownBlock]))
    rcases hm2.blk with h1|⟨g,h1,h2⟩
    ·rw[h1]at hb;simp[Value.ownBlock]at hb
    ·rw[h1]at hb;cases hb;exact h2
end
end
section
variable{F:Fz}{w w':World}
def d08(w:World):Prop:=∃c e z,w.heap[0]? =some (.cells c e z)∧∀k,k<64→c[k]? =some (.int .u8 ((deB.getD k 0:Nat):Int))
def l0h(n:Nat)(xs:List Int):V0:=⟨n,xs.foldl (Y8 n) (List.replicate ((n+63) / 64) 0#64)⟩
theorem h0R{n:Nat}(hn:n≤65536)(xs:List Int):BWf (l0h n xs) where
 l:=by simp[l0h,b0K]
 n:=hn
 hi:=p0k _ _ (q04 _ _)
theorem g0Q{sa:Option Addr}{sc n nn:Nat}{xs:List Int}(hU:D3 F nn)(hn:nn≤w.heap.size)(hr:c0K w sa xs)(hl:xs.length<9223372036854775808)(hn6:n≤65536)(hg:d08 w){A:Array Value}(hA:G0 51 A [(0,.slice sa xs.length sc),(4,vI (n:Nat))]){c:Frame}{cs:List Frame}{main:Bool}{Stop:Goroutine→World→Prop}
 (K:∀w' g,BU (w.heap.size+1) (w.heap.size+4) (w.heap.size+3) (w.heap.size+2) ⟨l0h n xs,w.heap.size,g⟩ w'→w'.heap.size=w.heap.size+5→(∀r,r<w.heap.size→w'.heap[r]? =w.heap[r]?)→J0 Tryd.prog main F Stop (G (c.finish (.tuple #[vP (w.heap.size+1) 0,.func (.func 51) #[] #[vP (w.heap.size+4) 0,vP (w.heap.size+2) 0]])) cs) w'):
 J0 Tryd.prog main F Stop (G (Frame.enter Tryd.prog 11 #[vI (n:Nat)] .normal) (fMa A::c::cs)) w:=by
 have hnew:∀q,w.heap.size≤q→∀k,¬held F ⟨q,k,none⟩:=fun q hq k=>O4 hU (show nn≤q by omega)
 refine p04 hU hn hn6 rfl ?_
 have hx0:((w.alloc (.cells (madeCells #[.int .u64 0] ((n+63) / 64)) 113)).alloc (.cells #[vI (n:Nat),vL w.heap.size 0 ((n+63) / 64) ((n+63) / 64)] 62)).heap.size=w.heap.size+2:=by simp
 have hx1:∀r,r<w.heap.size→((w.alloc (.cells (madeCells #[.int .u64 0] ((n+63) / 64)) 113)).alloc (.cells #[vI (n:Nat),vL w.heap.size 0 ((n+63) / 64) ((n+63) / 64)] 62)).heap[r]? =w.heap[r]?:=fun r hr=>by rw[D0 _ _ (by simp;omega),D0 _ _ hr]
 have hx2:((w.alloc (.cells (madeCells #[.int .u64 0] ((n+63) / 64)) 113)).alloc (.cells #[vI (n:Nat),vL w.heap.size 0 ((n+63) / 64) ((n+63) / 64)] 62)).heap[w.heap.size+1]? =some (.cells #[vI (n:Nat),vL w.heap.size 0 ((n+63) / 64) ((n+63) / 64)] 62 (0,0)):=by
  have:=heap_alloc_new (w.alloc (.cells (madeCells #[.int .u64 0] ((n+63) / 64)) 113)) (.cells #[vI (n:Nat),vL w.heap.size 0 ((n+63) / 64) ((n+63) / 64)] 62)
  simpa using this
 have hx3:c0m ((w.alloc (.cells (madeCells #[.int .u64 0] ((n+63) / 64)) 113)).alloc (.cells #[vI (n:Nat),vL w.heap.size 0 ((n+63) / 64) ((n+63) / 64)] 62)) w.heap.size (List.replicate ((n+63) / 64) 0#64):=by
  show(World.heap _)[w.heap.size]? =_
  rw[D0 _ _ (by simp),heap_alloc_new]
  congr 2
  apply Array.toList_inj.1
  rw[toList_madeCells_one]
  simp[wV]
 generalize ((w.alloc (.cells (madeCells #[.int .u64 0] ((n+63) / 64)) 113)).alloc (.cells #[vI (n:Nat),vL w.heap.size 0 ((n+63) / 64) ((n+63) / 64)] 62))=X at hx0 hx1 hx2 hx3 ⊢
 refine y0Z hU (by omega) hA fun A2 hA2=>?_
 rw[hx0]at hA2
 have hY0:(X.alloc (.cells #[vP (w.heap.size+1) 0] 33)).heap.size=w.heap.size+3:=by simp[hx0]
 have hY1:∀r,r<w.heap.size+2→(X.alloc (.cells #[vP (w.heap.size+1) 0] 33)).heap[r]? =X.heap[r]?:=fun r hr=>D0 _ _ (by omega)
 have hY2:(X.alloc (.cells #[vP (w.heap.size+1) 0] 33)).heap[w.heap.size+2]? =some (.cells #[vP (w.heap.size+1) 0] 33 (0,0)):=by
  rw[← hx0];exact heap_alloc_new _ _
 generalize X.alloc (.cells #[vP (w.heap.size+1) 0] 33)=Y at hY0 hY1 hY2 ⊢
 have hlo:∀b o,sa=some ⟨b,o,none⟩→0<xs.length→b<w.heap.size:=fun b o e hp=>by
  obtain⟨b2,o2,e2,h2⟩:=hr 0 xs[0] (List.getElem?_eq_getElem hp)
  rw[e]at e2
  simp only[Option.some.injEq,Addr.mk.injEq]at e2
  rw[e2.1]
  exact I9 h2
 have hrY:c0K Y sa xs:=hr.same fun r hr=>(hY1 r (by omega)).trans (hx1 r hr)
 have hcY:Y.cell? ⟨w.heap.size+2,0,none⟩=some (vP (w.heap.size+1) 0):=by simp[World.cell?,hY2]
 have hoY:Y.heap[w.heap.size+1]? =_:=(hY1 _ (by omega)).trans hx2
 have hBY:BH (w.heap.size+1) w.heap.size n ((n+63) / 64) Y:=⟨by simp[World.cell?,hoY],by simp[World.cell?,hoY],rfl,hn6⟩
 have hWY:c0m Y w.heap.size (List.replicate ((n+63) / 64) 0#64):=(hY1 _ (by omega)).trans hx3
 refine r0k (w0:=Y) (n:=n) (lb:=w.heap.size+1) (xb:=w.heap.size+2) (wb:=w.heap.size) (sc:=sc) (xs:=xs) hl hlo hrY (Nat.le_refl _) (by omega) (by omega) (hnew _ (Nat.le_refl _)) (List.replicate ((n+63) / 64) 0#64) (m:=(n+63) / 64) (by simp) (fun W A3 hB hc hs ho hW hA3=>?_) xs.length 0 Y A2 _ (by omega) (by simp) rfl hBY hcY rfl (fun _ _=>rfl) hWY hA2
 have hWs:W.heap.size=w.heap.size+3:=hs.trans hY0
 refine y02 hU (by omega) hc hA3 ?_
 obtain⟨tc,te,tz,hg1,hg2⟩:=hg
 have h0:0<w.heap.size:=(Q3 hg1)
 have hZ0:∀r,r<w.heap.size+3→((W.alloc (.cells #[.func (.func 18) #[vP (w.heap.size+1) 0] #[],.func (.func 19) #[vP (w.heap.size+1) 0] #[],.func (.func 20) #[vP (w.heap.size+1) 0] #[]] 58)).alloc (.cells #[vL W.heap.size 0 3 3] 116)).heap[r]? =W.heap[r]?:=fun r hr=>by
  rw[D0 _ _ (by simp;omega),D0 _ _ (by omega)]
 have hold:∀r,r<w.heap.size→W.heap[r]? =w.heap[r]?:=fun r hr=>(ho r (by omega)).trans ((hY1 r (by omega)).trans (hx1 r hr))
 have hK:=K ((W.alloc (.cells #[.func (.func 18) #[vP (w.heap.size+1) 0] #[],.func (.func 19) #[vP (w.heap.size+1) 0] #[],.func (.func 20) #[vP (w.heap.size+1) 0] #[]] 58)).alloc (.cells #[vL W.heap.size 0 3 3] 116)) (.cells tc te tz) ⟨h0R hn6 xs,?_,?_,?_,?_,?_,?_,⟨tc,te,tz,rfl,hg2⟩,by show w.heap.size≠_;omega,by show w.heap.size≠_;omega,by show w.heap.size≠_;omega,by show w.heap.size≠_;omega,by show w.heap.size≠0;omega⟩ (by simp[hWs]) fun r hr=>(hZ0 r (by omega)).trans (hold r hr)
 ·rw[hWs]at hK ⊢
  exact hK
 ·rw[hZ0 _ (by omega),ho _ (by omega),hoY]
  simp[BS.m,l0h,b0K]
 ·rw[hZ0 _ (by simp)]
  exact hW
 ·have:=heap_alloc_new (W.alloc (.cells #[.func (.func 18) #[vP (w.heap.size+1) 0] #[],.func (.func 19) #[vP (w.heap.size+1) 0] #[],.func (.func 20) #[vP (w.heap.size+1) 0] #[]] 58)) (.cells #[vL W.heap.size 0 3 3] 116)
  simpa [hWs]using this
 ·have:=heap_alloc_new W (.cells #[.func (.func 18) #[vP (w.heap.size+1) 0] #[],.func (.func 19) #[vP (w.heap.size+1) 0] #[],.func (.func 20) #[vP (w.heap.size+1) 0] #[]] 58)
  rw[hWs]at this
  rw[D0 _ _ (by simp[hWs])]
  exact this
 ·rw[hZ0 _ (by omega),ho _ (by omega),hY2]
 ·rw[hZ0 _ (by omega),hold _ h0,hg1]
theorem q0g{va:Option Addr}{vc nn:Nat}{vs:List Int}(hU:D3 F nn)(hn:nn≤w.heap.size)(hr:c0K w va vs)(hvc:vs.length≤vc)(hl:vs.length<9223372036854775808)(hg:d08 w){c:Frame}{cs:List Frame}{main:Bool}{Stop:Goroutine→World→Prop}
 (K:∀w' g,BU (w.heap.size+1) (w.heap.size+4) (w.heap.size+3) (w.heap.size+2) ⟨b09 vs,w.heap.size,g⟩ w'→w'.heap.size=w.heap.size+5→(∀r,r<w.heap.size→w'.heap[r]? =w.heap[r]?)→J0 Tryd.prog main F Stop (G (c.finish (.tuple #[vP (w.heap.size+1) 0,.func (.func 51) #[] #[vP (w.heap.size+4) 0,vP (w.heap.size+2) 0]])) cs) w'):
 J0 Tryd.prog main F Stop (G (Frame.enter Tryd.prog 27 #[.slice va vs.length vc] .normal) (c::cs)) w:=by
 cases vs with
 | nil=>
   refine x0x fun A hA=>?_
   exact g0Q (xs:=[]) (n:=0) hU hn (fun i x h=>by simp at h) (by simp) (by omega) hg hA K
 | cons v xs=>
   obtain⟨b,o,rfl,hc⟩:=hr 0 v rfl
   simp only[List.length_cons]at hvc hl ⊢
   refine y0Y (n:=B6 (v::xs)) hc hvc ?_ fun A hA=>?_
   ·have hb:=show((B6 (v::xs):Nat):Int)=min (max v 0) 65536 by unfold B6;simp only[List.headD_cons];omega
    rw[hb]
    split<;>split<;>omega
   ·refine g0Q (xs:=xs) hU hn (fun i x h=>?_) (by omega) (o0l _) hg hA K
    obtain⟨b2,o2,e2,h2⟩:=hr (i+1) x (by simpa using h)
    simp only[Option.some.injEq,Addr.mk.injEq]at e2
    obtain⟨rfl,rfl,_⟩:=e2
    have hi:i<xs.length:=(List.getElem?_eq_some_iff.1 h).1
    refine⟨b,o+1,by rw[if_neg (by omega)],?_⟩
    rw[← h2]
    congr 2
    omega
end
section
variable{An:G3}{w w':World}
theorem x8.later3{N N':Nat→Prop}{n tb o tl:Nat}{ta:Option Addr}{oa:Nat→Option Addr}{ol oc:Nat→Nat}{ops:Nat→List P3}{S:List Int}{sa:Option Addr}(h:x8 w N n tb o tl ta oa ol oc ops S sa)(hs:w.heap.size≤w'.heap.size)(hold:∀r,r<w.heap.size→w'.heap[r]? =w.heap[r]?)(hN:∀r,N' r→N r∨w.heap.size≤r):x8 w' N' n tb o tl ta oa ol oc ops S sa:=by
 have hc:∀{a:Addr} {v:Value},w.cell? a=some v→w'.cell? a=some v∧w'.frozen? a=w.frozen? a:=fun{a v} h=>by
  obtain⟨c,e,z,ho⟩:=M3 h
  have e1:=hold _ (Q3 ho)
  exact⟨by rw[← h];unfold World.cell?;simp only[e1],by unfold World.frozen?;simp only[e1]⟩
 refine⟨h.hn,h.hta,fun hp=>by have:=h.htb hp;omega,fun j hj=>?_,h.hlen,fun j hj k x hx=>?_,h.hsl,fun hp=>?_⟩
 ·obtain⟨h1,h2,h3⟩:=h.hth j hj
  exact⟨(hc h1).1,(hc h1).2.trans h2,h3⟩
 ·obtain⟨opb,oo,h1,h2,f0,f1,f2,f3,g0,g1,g2,g3⟩:=h.hop j hj k x hx
  obtain⟨c,e,z,ho⟩:=M3 f0
  have hlt:=(Q3 ho)
  exact⟨opb,oo,h1,fun hn=>by rcases hN _ hn with h3|h3;exact h2 h3;simp only at hlt;omega,(hc f0).1,(hc f1).1,(hc f2).1,(hc f3).1,(hc f0).2.trans g0,(hc f1).2.trans g1,(hc f2).2.trans g2,(hc f3).2.trans g3⟩
 ·obtain⟨sb,so,c,e,z,h1,h2,h3,h4⟩:=h.hS hp
  have hlt:=(Q3 h3)
  exact⟨sb,so,c,e,z,h1,fun hn=>by rcases hN _ hn with h5|h5;exact h2 h5;omega,(hold _ hlt).trans h3,h4⟩
theorem T5{base n size:Nat}{e:TypeId}{v:Value}{xs:List Value}(h:w.ownsRow base e size v n xs)(hs:∀b c,w.heap[b]? =some (.cells c e (0,0))→base≤b→w'.heap[b]? =w.heap[b]?):w'.ownsRow base e size v n xs:=by
 refine⟨h.1,?_⟩
 rcases h.2 with h2|⟨b,cap,cur,rfl,h3,h4,h5⟩
 ·exact .inl h2
 ·exact .inr ⟨b,cap,cur,rfl,h3,(hs b cur h4 h3).trans h4,h5⟩
def r0S(w:World)(r:Nat):Prop:=∀c e z,w.heap[r]?≠some (.cells c e z)
structure e0n(w:World)(n:Nat)(ans:Nat→List m9)(state:List Int)(order:List Nat)(aa:Nat)(rows:Nat→Value)(av:Nat→List SA)(ov sv:Value)(w':World):Prop where
 size:w.heap.size≤w'.heap.size
 old:∀(r:Nat) (c:Array Value) (e:TypeId) (z:Nat×Nat),w.heap[r]? =some (.cells c e z)→w'.heap[r]? =some (.cells c e z)
 arr:∃c,w'.heap[aa]? =some (.cells c 55 (0,0))∧c.size=n∧∀i,i<n→c[i]? =some (rows i)
 row:∀i,i<n→(av i).map SA.an=ans i∧(av i).length≤65536∧w'.ownsRow 0 49 3 (rows i) (av i).length (((av i).map fun a=>a.v.cells).flatten)∧∀a∈av i,SAU a w'
 nwa:r0S w aa
 nwr:∀i,i<n→∀r,(rows i).ownBlock=some r→r0S w r
 nwl:∀i,i<n→∀a∈av i,∀r,a.row.ownBlock=some r→r0S w r
 dj:∀i j,i<n→j<n→i≠j→∀r,(rows i).ownBlock=some r→(rows j).ownBlock≠some r
 ord:w'.ownsRow w.heap.size 3 1 ov order.length (order.map fun i:Nat=>Value.int .i64 i)
 st:w'.ownsRow w.heap.size 2 1 sv state.length (state.map fun v=>vI v)
def m0a(lb cb fb xb:Nat):Abs (O3 lb cb fb xb) BPl:=⟨BS.k,BeC.c,SA.an⟩
theorem q0E(lb cb fb xb:Nat):(m0a lb cb fb xb).Ok where
 beg:=fun s i o y h=>by
  obtain⟨y1,y2⟩:=y
  have h2:=h.2.2
  cases y2<;>exact h2
 stp:=fun s c y h=>by
  obtain⟨y1,y2⟩:=y
  have h2:=h.2.2
  cases y2<;>exact h2
theorem p0N(k:V0)(h:BWf k):k.nums.length≤65600:=by
 rw[← W9]
 have:=a06 k k.ws.length
 have:=h.l
 have:=h.n
 omega
section
variable{L:l8}{p:T9}{g:M1}{P:L.S→Prop}
theorem k0d(hb:∀s i o y,L.beg s i o y→P s→P y.1){i:Nat}{a b:L.S×D9 L}(h:Adv L p i a b):P a.1→P b.1:=by
 induction h with
 | done _ _=>exact id
 | live _ h2=>exact hb _ _ _ _ h2
 | imm _ h2 _ ih=>exact fun h=>ih (hb _ _ _ _ h2 h)
theorem r0G(hb:∀s i o y,L.beg s i o y→P s→P y.1)(hs:∀s c y,L.stp s c y→P s→P y.1){i:Nat}{a b:L.S×D9 L}(h:Stp L p i a b):P a.1→P b.1:=by
 cases h with
 | live _ h2=>exact hs _ _ _ h2
 | ans _ h2 h3=>exact fun h=>k0d hb h3 (hs _ _ _ h2 h)
theorem g0u(hb:∀s i o y,L.beg s i o y→P s→P y.1):∀(i:Nat) (x y:OX L),d0h (U2 L p g) i x y→P x.s→P y.s
 | 0,x,y,h,hp=>by
   have h:y=x:=h
   rw[h];exact hp
 | i+1,x,z,⟨y,h1,h2⟩,hp=>k0d hb h2.1 (g0u hb i x y h1 hp)
theorem q0s(hb:∀s i o y,L.beg s i o y→P s→P y.1)(hs:∀s c y,L.stp s c y→P s→P y.1){n M:Nat}{s t:OX L×List Nat}{i:Int}(h:d0T (U2 L p g) n M s i t)(hp:P s.1.s):P t.1.s:=by
 unfold d0T at h
 split at h
 ·exact r0G hb hs h.1.1 hp
 ·rw[h];exact hp
theorem d0g(hb:∀s i o y,L.beg s i o y→P s→P y.1)(hs:∀s c y,L.stp s c y→P s→P y.1){n M:Nat}:∀(l:List Int) (s t:OX L×List Nat),Q6 (U2 L p g) n M l s t→P s.1.s→P t.1.s
 | [],s,t,h,hp=>by
   have h:t=s:=h
   rw[h];exact hp
 | i::l,s,t,⟨u,h1,h2⟩,hp=>d0g hb hs l u t h2 (q0s hb hs h1 hp)
theorem j0F{Z:C4}{P:Z.X→Prop}{n M:Nat}(ht:∀l s t,Q6 Z n M l s t→P s.1→P t.1){s t:Z.X×List Nat}(h:b0Q Z n M s t):P s.1→P t.1:=by
 induction h with
 | done _=>exact id
 | more _ _ h3 _ ih=>exact fun hp=>ih (ht _ _ _ h3 hp)
theorem h08(hb:∀s i o y,L.beg s i o y→P s→P y.1)(hs:∀s c y,L.stp s c y→P s→P y.1){n M:Nat}{S:List Int}{x0:OX L}{t:OX L×List Nat}(h:d0X (U2 L p g) n M S x0 t)(hp:P x0.s):P t.1.s:=by
 obtain⟨x1,h1,s,h2,h3⟩:=h
 exact j0F (Z:=U2 L p g) (P:=fun x:OX L=>P x.s) (d0g hb hs) h3 (d0g hb hs _ _ _ h2 (g0u hb _ _ _ h1 hp))
end
theorem g0p{va:Option Addr}{vc:Nat}{vs:List Int}(hv:c0K w va vs)(hvc:vs.length≤vc)(hvl:vs.length<9223372036854775808)(hg:d08 w)
 {n tb o tl tc sc M:Nat} {mo:Int} {ta sa:Option Addr} {oa:Nat→Option Addr} {ol oc:Nat→Nat} {ops:Nat→List P3} {S:List Int} (hI:x8 w (fun r=>r=0) n tb o tl ta oa ol oc ops S sa) (hM:min (max mo 0) 1048576=(M:Int)) {c:Frame} {cs:List Frame} {Stop:Goroutine→World→Prop}
 (hP:∀(s:GS BPl) order,U9 n M (s,order)→(∃k,∀f,k≤f→a0K ops n M S f (bs0 vs)=(s,order))→
   ∀aa rows av oa' oc' xa xc w',e0n w n (fun i=>(s.th i).ans) (V0.nums s.q) order aa rows av (.slice oa' order.length oc') (.slice xa (V0.nums s.q).length xc) w'→
    Q4 An Tryd.prog Stop (G (c.finish (.agg #[vL aa 0 n n,.slice oa' order.length oc',.slice xa (V0.nums s.q).length xc,.bool (decide (0<L5 s.live n))])) cs) w'):
 Q4 An Tryd.prog Stop (G (Frame.enter Tryd.prog 9 #[.slice va vs.length vc,.slice ta tl tc,.slice sa S.length sc,vI mo] .normal) (c::cs)) w:=by
 have hF:∀a:Addr,¬held F0 a:=y05
 have hrow0:∀r,r<w.heap.size→(w.alloc (.cells #[.slice none 0 0,.slice none 0 0,.slice none 0 0,.bool false] 29)).heap[r]? =w.heap[r]?:=fun r hr=>D0 _ _ hr
 have hs0:(w.alloc (.cells #[.slice none 0 0,.slice none 0 0,.slice none 0 0,.bool false] 29)).heap.size=w.heap.size+1:=by simp
 have htr:S7 (w.alloc (.cells #[.slice none 0 0,.slice none 0 0,.slice none 0 0,.bool false] 29)) w.heap.size (.slice none 0 0) (.slice none 0 0) (.slice none 0 0) (.bool false):=⟨heap_alloc_new _ _⟩
 have h00:0<w.heap.size:=by
  obtain⟨_,_,_,h,_⟩:=hg
  exact(Q3 h)
 have hg1:d08 (w.alloc (.cells #[.slice none 0 0,.slice none 0 0,.slice none 0 0,.bool false] 29)):=by
  obtain⟨c0,e0,z0,h1,h2⟩:=hg
  exact⟨c0,e0,z0,(hrow0 0 h00).trans h1,h2⟩
 generalize hW0:w.alloc (.cells #[.slice none 0 0,.slice none 0 0,.slice none 0 0,.bool false] 29)=w0 at hrow0 hs0 htr hg1
 refine Z6 (F:=F0) (Stop:=fun a u=>∃A g,a=G (Frame.enter Tryd.prog 28 #[.slice ta tl tc,.func (.func 51) #[] #[vP (w.heap.size+5) 0,vP (w.heap.size+3) 0],.slice sa S.length sc,vI mo] .normal) ((bA 9 A [.inRegion (oC g0v) [4,5,6],.code h0T])::c::cs)∧
  G0 27 A [(8,vP w.heap.size 0),(9,vP (w.heap.size+2) 0)]∧BU (w.heap.size+2) (w.heap.size+5) (w.heap.size+4) (w.heap.size+3) ⟨b09 vs,w.heap.size+1,g⟩ u∧u.heap.size=w.heap.size+6∧(∀r,r<w.heap.size+1→u.heap[r]? =w0.heap[r]?))
  (w0o J1 (Nat.zero_le _) fun A hA=>?_) fun a W hS=>?_
 ·rw[hW0]
  refine q0g J1 (Nat.zero_le _) (hv.same hrow0) hvc hvl hg1 fun w1 g k1 k2 k3=>?_
  rw[hs0]at k1 k2 k3 ⊢
  exact w0p hA fun A2 hA2=>.stop fun d=>⟨A2,g,rfl,hA2,k1.same fun _ _=>rfl,k2,k3⟩
 obtain⟨A,g,rfl,hA,hQ,hWs,hWo⟩:=hS
 have hold1:∀r,r<w.heap.size→W.heap[r]? =w.heap[r]?:=fun r hr=>(hWo r (by omega)).trans (hrow0 r hr)
 have hrb1:W.heap[w.heap.size]? =some (.cells #[.slice none 0 0,.slice none 0 0,.slice none 0 0,.bool false] 29 (0,0)):=(hWo _ (by omega)).trans htr.o
 have hNr:∀r,BR (w.heap.size+2) (w.heap.size+5) (w.heap.size+4) (w.heap.size+3) ⟨b09 vs,w.heap.size+1,g⟩ r→r=0∨w.heap.size+1≤r:=fun r hr=>by
  rcases hr with rfl|rfl|rfl|rfl|rfl|rfl<;>first|(exact .inl rfl)|(refine .inr ?_;first|omega|exact Nat.le_refl _)
 have hI1:x8 W (BR (w.heap.size+2) (w.heap.size+5) (w.heap.size+4) (w.heap.size+3) ⟨b09 vs,w.heap.size+1,g⟩) n tb o tl ta oa ol oc ops S sa:=hI.later3 (by omega) hold1 fun r hr=>(hNr r hr).imp id (by omega)
 refine o0w (L:=O3 (w.heap.size+2) (w.heap.size+5) (w.heap.size+4) (w.heap.size+3)) (q0J _ _ _ _) (s0:=⟨b09 vs,w.heap.size+1,g⟩) hQ hI1 hM ?_
 intro gt p p' t u oa' oc' hgn hpn hpo hOk hrel hpn' hpo' hpa hU hord hnR hsz hkeep hpI
 obtain⟨hd,hover⟩:=n0N (ab:=m0a _ _ _ _) (q0E _ _ _ _) hOk (fun j hj=>⟨rfl,rfl⟩) hrel
 have htg:t.1.s.g=g:=h08 (L:=O3 (w.heap.size+2) (w.heap.size+5) (w.heap.size+4) (w.heap.size+3)) (P:=fun s:BS=>s.g=g) (fun s i o y h hp=>h.2.1.trans hp) (fun s c y h hp=>h.2.1.trans hp) hrel rfl
 have htw:t.1.s.wb=w.heap.size+1:=h08 (L:=O3 (w.heap.size+2) (w.heap.size+5) (w.heap.size+4) (w.heap.size+3)) (P:=fun s:BS=>s.wb=w.heap.size+1) (fun s i o y h hp=>h.1.trans hp) (fun s c y h hp=>h.1.trans hp) hrel rfl
 rw[hpo]at hover
 have hK:=hP _ _ hd hover
 have hQU:BU (w.heap.size+2) (w.heap.size+5) (w.heap.size+4) (w.heap.size+3) t.1.s u:=hU.su
 have hrb2:u.heap[w.heap.size]? =some (.cells #[.slice none 0 0,.slice none 0 0,.slice none 0 0,.bool false] 29 (0,0)):=hkeep _ _ _ _ hrb1 fun h=>by rcases hNr _ h with h|h<;>omega
 have hcnt:L5 ((U2 (O3 (w.heap.size+2) (w.heap.size+5) (w.heap.size+4) (w.heap.size+3)) p gt).liv t.1) n=L5 ((m0a _ _ _ _).x t.1).live n:=b0e fun j _=>e0S t.1 j
 rw[hcnt]
 have hnew:∀r,r≠0→OR (O3 (w.heap.size+2) (w.heap.size+5) (w.heap.size+4) (w.heap.size+3)) p' t.1 r→r0S w r:=fun r h0 hr c0 e0 z0 h=>by
  have hlt:=(Q3 h)
  exact hpI r c0 e0 z0 ((hold1 r hlt).trans h) (fun h2=>by rcases hNr r h2 with h3|h3<;>omega) (hU.inone r hr)
 obtain⟨ca,hca,hcs,hci⟩:=hU.arr
 have hlt:=(Q3 hca)
 have hlr:=(Q3 hrb2)
 have hSR0:BR (w.heap.size+2) (w.heap.size+5) (w.heap.size+4) (w.heap.size+3) t.1.s 0:=.inr (.inr (.inr (.inr (.inr rfl))))
 have hT0:∀i,i<n→∀r,TR (t.1.th i) r→r≠0:=fun i hi r hr e=>(hU.ts i (by rw[hpn'];exact hi) r hr).1 (by rw[e];exact hSR0)
 have ha0:p'.aa≠0:=fun e=>hU.sa (by rw[e];exact hSR0)
 obtain⟨q,hq⟩:∃q:V0,q=((m0a (w.heap.size+2) (w.heap.size+5) (w.heap.size+4) (w.heap.size+3)).x t.1).q:=⟨_,rfl⟩
 obtain⟨sb,hsb⟩:∃b:Bool,b=decide (0<L5 ((m0a (w.heap.size+2) (w.heap.size+5) (w.heap.size+4) (w.heap.size+3)).x t.1).live n):=⟨_,rfl⟩
 rw[← hsb]at hK ⊢
 rw[← hq]at hK
 have hqs:t.1.s.k=q:=hq.symm
 have htb:=heap_alloc_new u (.cells #[vL p.aa 0 n n,.slice oa' t.2.length oc',.slice none 0 0,.bool sb] 29)
 have htl:∀r,r<u.heap.size→(u.alloc (.cells #[vL p.aa 0 n n,.slice oa' t.2.length oc',.slice none 0 0,.bool sb] 29)).heap[r]? =u.heap[r]?:=fun r hr=>D0 _ _ hr
 have hts:(u.alloc (.cells #[vL p.aa 0 n n,.slice oa' t.2.length oc',.slice none 0 0,.bool sb] 29)).heap.size=u.heap.size+1:=by simp
 refine Z6 (F:=F0) (Stop:=fun a u2=>∃xa xc,a=G (c.finish (.agg #[vL p.aa 0 n n,.slice oa' t.2.length oc',.slice xa (V0.nums q).length xc,.bool sb])) cs∧
  e0n w n (fun i=>(((m0a (w.heap.size+2) (w.heap.size+5) (w.heap.size+4) (w.heap.size+3)).x t.1).th i).ans) (V0.nums q) t.2 p.aa (fun i=>(t.1.th i).row) (fun i=>(t.1.th i).ans) (.slice oa' t.2.length oc') (.slice xa (V0.nums q).length xc) u2)
  (w0q J1 (Nat.zero_le _) hA fun A2 hA2=>?_) fun a u2 ⟨xa,xc,ha,hu2⟩=>?_
 ·generalize u.alloc (.cells #[vL p.aa 0 n n,.slice oa' t.2.length oc',.slice none 0 0,.bool sb] 29)=U at htb htl hts ⊢
  have hUU:BU (w.heap.size+2) (w.heap.size+5) (w.heap.size+4) (w.heap.size+3) t.1.s U:=hQU.same fun r hr=>htl r (hQU.low hr)
  have hwf:BWf q:=hqs ▸ hQU.wf
  have hal:n8 (w.heap.size+2) t.1.s.wb none (fun _ _=>True) U q 0 U:=⟨⟨hwf,by have:=hUU.o;rw[← hqs];exact this,by have:=hUU.ws;rw[← hqs];exact this,hUU.tab,hUU.ne.1,hUU.ne.2.2.2.2⟩,trivial,Nat.le_refl _,fun _ _ _ _=>rfl⟩
  refine h09 (e0W true) (fun b h=>by cases h) hal (fun b h=>by cases h) (by omega) fun w1 lv _ hrow1 hnew1 hsz1 hold1'=>?_
  refine w0r hA2 fun A3 hA3=>?_
  refine i0e (by have:=p0N q hwf;omega) hrow1 fun w2 ov hrow2 hnew2 hsz2 hold2=>?_
  obtain⟨xa,xc,rfl⟩:=d0f hrow2
  have hw2U:∀r,r<U.heap.size→w2.heap[r]? =U.heap[r]?:=fun r hr=>(hold2 r (by omega)).trans (hold1' r hr (by simp))
  have hR:S7 w2 w.heap.size (.slice none 0 0) (.slice none 0 0) (.slice none 0 0) (.bool false):=⟨(hw2U _ (by omega)).trans ((htl _ hlr).trans hrb2)⟩
  have hT:S7 w2 u.heap.size (vL p.aa 0 n n) (.slice oa' t.2.length oc') (.slice none 0 0) (.bool sb):=⟨(hw2U _ (by omega)).trans htb⟩
  refine w0s (show w.heap.size≠u.heap.size by omega) hR hT (fun k=>hF _) (fun k=>hF _) hA3 (.stop fun d=>⟨xa,xc,rfl,?_⟩)
  have hlw:∀r,r<u.heap.size→w2.heap[r]? =u.heap[r]?:=fun r hr=>(hw2U _ (by omega)).trans (htl _ hr)
  have hne2:∀r,r≠w.heap.size→r≠u.heap.size→((trW (w2.setCell ⟨u.heap.size,2,none⟩ (.slice xa (V0.nums q).length xc)) w.heap.size (vL p.aa 0 n n) (.slice oa' t.2.length oc') (.slice xa (V0.nums q).length xc) (.bool sb)).at d).heap[r]? =w2.heap[r]?:=fun r hr hr2=>by
   show(trW _ _ _ _ _ _).heap[r]? =_
   unfold trW
   rw[I0 _ _ _ hr,I0 _ _ _ hr,I0 _ _ _ hr,I0 _ _ _ hr,I0 _ _ _ hr2]
  have hsz3:((trW (w2.setCell ⟨u.heap.size,2,none⟩ (.slice xa (V0.nums q).length xc)) w.heap.size (vL p.aa 0 n n) (.slice oa' t.2.length oc') (.slice xa (V0.nums q).length xc) (.bool sb)).at d).heap.size=w2.heap.size:=by
   show(trW _ _ _ _ _ _).heap.size=_
   unfold trW;simp
  generalize (trW (w2.setCell ⟨u.heap.size,2,none⟩ (.slice xa (V0.nums q).length xc)) w.heap.size (vL p.aa 0 n n) (.slice oa' t.2.length oc') (.slice xa (V0.nums q).length xc) (.bool sb)).at d=V at hne2 hsz3 ⊢
  have hty:∀(b:Nat) (c:Array Value) (e:TypeId) (z:Nat×Nat),u.heap[b]? =some (.cells c e z)→e≠29→V.heap[b]? =u.heap[b]?:=fun b cc e z hb he=>by
   have hbl:=(Q3 hb)
   rw[hne2 b (fun h=>by rw[h,hrb2]at hb;cases hb;exact he rfl) (by omega),hlw b hbl]
  have hth:∀i,i<n→f0C (O3 (w.heap.size+2) (w.heap.size+5) (w.heap.size+4) (w.heap.size+3)) p' (gt.st i) i (t.1.th i) u:=fun i hi=>hU.thr i (by rw[hpn'];exact hi)
  refine⟨by omega,fun r cc e z hr=>?_,⟨ca,?_,?_,fun i hi=>?_⟩,fun i hi=>⟨rfl,?_,?_,fun a ha=>?_⟩,?_,fun i hi r hr=>?_,fun i hi a ha r hr=>?_,fun i j hi hj hne r h1 h2=>?_,?_,?_⟩
  ·have hlt:=(Q3 hr)
   rw[hne2 r (by omega) (by omega),hlw r (by omega)]
   by_cases e0:r=0
   ·subst e0
    have h1:=hQ.g
    have h2:=hQU.g
    rw[htg]at h2
    rw[h2]
    have h3:=(hold1 0 hlt).symm.trans h1
    rw[hr]at h3
    exact h3.symm
   ·exact hkeep _ _ _ _ ((hold1 r hlt).trans hr) fun h=>by rcases hNr _ h with h|h<;>omega
  ·rw[hty _ _ _ _ (hpa ▸ hca) (by decide)]
   exact hpa ▸ hca
  ·rw[hcs,hpn']
  ·exact hci i (by rw[hpn'];exact hi)
  ·have ht:=hth i hi
   have h1:=ht.al
   have h2:=ht.kl
   rw[hpo',hI.hlen i hi]at h2
   exact Nat.le_trans (Nat.le_of_eq h1) (Nat.le_trans h2 (by omega))
  ·have hr:u.ownsRow 0 49 3 (t.1.th i).row (t.1.th i).ans.length (((t.1.th i).ans.map fun a=>a.v.cells).flatten):=(hth i hi).row
   exact T5 hr fun b cc hb _=>hty b cc _ _ hb (by decide)
  ·have h1:SAU a u:=(hth i hi).au a ha
   exact T5 h1 fun b cc hb _=>hty b cc _ _ hb (by decide)
  ·exact hnew _ (hpa ▸ ha0) (.inr (.inl hpa.symm))
  ·exact hnew _ (hT0 i hi r (.inl hr)) (.inr (.inr ⟨i,by rw[hpn'];exact hi,.inl hr⟩))
  ·exact hnew _ (hT0 i hi r (.inr (.inl ⟨a,ha,hr⟩))) (.inr (.inr ⟨i,by rw[hpn'];exact hi,.inr (.inl ⟨a,ha,hr⟩)⟩))
  ·exact hU.tt i j (by rw[hpn'];exact hi) (by rw[hpn'];exact hj) hne r (.inl h1) (.inl h2)
  ·exact j4 (by omega) (T5 hord fun b cc hb _=>hty b cc _ _ hb (by decide))
  ·have e2:V.ownsRow 0 2 1 (.slice xa (V0.nums q).length xc) (V0.nums q).length ((V0.nums q).map fun v=>vI v):=by
    refine G1 hrow2 fun b hb _=>?_
    have:=hnew2 b hb
    exact hne2 b (by omega) (by omega)
   refine⟨e2.1,?_⟩
   rcases e2.2 with h|⟨b,cap,cur,h1,h2,h3⟩
   ·exact .inl h
   ·refine .inr ⟨b,cap,cur,h1,?_,h3⟩
    have:=hnew2 b (by rw[h1];rfl)
    omega
 ·subst ha
  exact hK _ _ _ _ _ _ _ _ hu2
end
noncomputable section
variable{F:Fz}{w:World}
theorem r0H(X:World)(x y z u x' y' z' u':Value):((((X.alloc (.cells #[x,y,z,u] 29)).setCell ⟨X.heap.size,0,none⟩ x').setCell ⟨X.heap.size,1,none⟩ y').setCell ⟨X.heap.size,2,none⟩ z').setCell ⟨X.heap.size,3,none⟩ u'=X.alloc (.cells #[x',y',z',u'] 29):=by go_simp
theorem C0L(k:Int):Tryd.prog.built 44 [(0,vI k)]=some #[vI k,vI 0,vI 0,vI 0]:=by kernel_rfl
@[go_sem] theorem C0E(k:Int)(w:World):(Instr.build 44 #[(0,vI k)]).run Tryd.prog w= .ok (.agg #[vI k,vI 0,vI 0,vI 0]) w:=run_build w _ _ _ (C0L k)
@[go_sem] theorem D0P(k:Int)(w:World)(es:Array Event):(Instr.build 44 #[(0,vI k)]).events Tryd.prog w es=es:=l6 w es _ _ _ _ Tryd.underlying44 (C0L k)
def d9:Code:=Tryd.f7.body.getD .skip
def v07:=pC [] d9
def r0N:=pC [zt] d9
def v08:=pC [zf] d9
def f05:=pC [zf,zt] d9
def baws2:=pC [zf,zf] d9
theorem m0o(args:Array Value):Frame.enter Tryd.prog 7 args .normal=(Go.Conc.base 7).at {tmps:=args++Array.replicate (81 - args.size) undef,defers:=[]} [.code v07]:=enter_at args Tryd.func7 rfl
theorem m0g:O1 7:=G2 Tryd.func7 rfl rfl
def q0F(s:Nat→Value):Array Value:= #[s 0,s 1,s 2,s 3,s 4,s 5,s 6,s 7,s 8,s 9,s 10,s 11,s 12,s 13,s 14,s 15,s 16,s 17,s 18,s 19,s 20,s 21,s 22,s 23,s 24,s 25,s 26,s 27,s 28,s 29,s 30,s 31,s 32,s 33,s 34,s 35,s 36,s 37,s 38,s 39,s 40,s 41,s 42,s 43,s 44,s 45,s 46,s 47,s 48,s 49,s 50,s 51,s 52,s 53,s 54,s 55,s 56,s 57,s 58,s 59,s 60,s 61,s 62,s 63,s 64,s 65,s 66,s 67,s 68,s 69,s 70,s 71,s 72,s 73,s 74,s 75,s 76,s 77,s 78,s 79,s 80]
theorem q0G{A:Array Value}(h:A.size=81):∃s,A=q0F s:=by
 obtain⟨s,hs,_⟩:=Y4 A h
 exact⟨s,hs⟩
def awW(w:World):World:=(((((w.alloc (.cells #[vI 2] 2)).alloc (.cells #[vI 4,vI 0,vI 0,vI 0] 44)).alloc (.cells #[vI 4,vI 0,vI 0,vI 0] 44)).alloc (.cells #[vL (w.heap.size+1) 0 1 1,vL (w.heap.size+2) 0 1 1] 32)).alloc (.cells #[vI 0,vI 1,vI 0,vI 1,vI 1,vI 1] 3))
theorem y0N{n:Nat}(hU:D3 F n)(hn:n≤w.heap.size){cs:List Frame}{main:Bool}{Stop:Goroutine→World→Prop}
 (h:∀A,A.size=81→J0 Tryd.prog main F Stop (G (Frame.enter Tryd.prog 9 #[vL w.heap.size 0 1 1,vL (w.heap.size+3) 0 2 2,vL (w.heap.size+4) 0 6 6,vI 100] .normal) ((bA 7 A [.inRegion (oC f05) [7,8,9],.code baws2])::cs)) (awW w)):
 J0 Tryd.prog main F Stop (G (Frame.enter Tryd.prog 7 #[] .normal) cs) w:=by
 rw[m0o]
 walk_nrm
 refine ogW r0N v08 ?_
 simp only[oC,r0N,pC,d9,Tryd.f7,Option.getD_some,List.size_toArray,List.length_cons,List.length_nil,Nat.reduceAdd,Nat.zero_add,List.range,List.range.loop]
 refine oT ?_
 refine D1<|ogW f05 baws2 ?_
 simp only[oC,f05,pC,d9,Tryd.f7,Option.getD_some,List.size_toArray,List.length_cons,List.length_nil,Nat.reduceAdd,Nat.zero_add,List.range,List.range.loop]
 refine oA hU ?_
 refine oT ?_
 refine oA hU ?_
 refine oT ?_
 iterate 3 refine oA hU ?_
 refine oc g0z #[vL w.heap.size 0 1 1,vL (w.heap.size+3) 0 2 2,vL (w.heap.size+4) 0 6 6,vI 100] ?_
 exact h _ rfl
theorem y0O{n:Nat}(hU:D3 F n)(hn:n≤w.heap.size){aa oa xa:Option Addr}{al ac ol oz xl xc:Nat}{st:Bool}{A:Array Value}(hsz:A.size=81){cs:List Frame}{main:Bool}{Stop:Goroutine→World→Prop}
 (h:∀A,G0 81 A [(1,vP w.heap.size 0)]→J0 Tryd.prog main F Stop (G (bA 7 A [.code baws2]) cs) (w.alloc (.cells #[.slice aa al ac,.slice oa ol oz,.slice xa xl xc,.bool st] 29))):
 J0 Tryd.prog main F Stop (G ((bA 7 A [.inRegion (oC f05) [7,8,9],.code baws2]).finish (.agg #[.slice aa al ac,.slice oa ol oz,.slice xa xl xc,.bool st])) cs) w:=by
 obtain⟨s,rfl⟩:=q0G hsz
 clear hsz
 simp only[q0F]
 rw[Frame.finish_at]
 simp only[oC,f05,pC,d9,Tryd.f7,Option.getD_some,List.size_toArray,List.length_cons,List.length_nil,Nat.reduceAdd,Nat.zero_add,List.range,List.range.loop]
 walk_nrm
 refine oA hU ?_
 (refine oW fun dd K hK=>?_;go_simp;refine hK _ _ ⟨⟨⟨0,e0L (fun k=>O4 hU (show n≤w.heap.size by omega)) _ _ _ _⟩,fun e he=>by(have hm:=mem_listed he;clear he hK;simp[go_sem,storedEv]at hm;rcases hm with rfl|rfl|rfl|rfl<;>exact U0 _ _ ((fun k=>O4 hU (show n≤w.heap.size by omega)) _))⟩,?_⟩;clear hK K;simp only[setCell_at'];refine J0.at ?_ dd)
 have e1:=r0H w (.slice none 0 0) (.slice none 0 0) (.slice none 0 0) (.bool false) (.slice aa al ac) (.slice oa ol oz) (.slice xa xl xc) (.bool st)
 rw[e1]
 clear e1
 refine D1 ?_
 refine h _ ?_
 exact⟨rfl,rfl,trivial⟩
end
section
variable{P:Program}
theorem m0T(w:World):Wf F0 w:=⟨fun r z h=>by cases h⟩
theorem m0d{fn:Func}{t:Array Value}{w:World}{τ:Tape}{e:Nat}{v:Value}(h:(results fn t).run P (retape w τ e)= .ok v (retape w τ e))(d:Nat):
 (results fn t).run P (w.at d)= .ok v (w.at d)∧∀x∈(results fn t).events P (w.at d) #[],J9 F0 x:=by
 obtain⟨w1,es,j,hu,r1,e1,t1,g1,hw1,l1⟩:=(a0i (P:=P) (F:=F0) fn t (retape w τ e) (m0T _)).ok (by rw[p6 (fun _=>rfl)];exact h)
 rw[p6 (fun _=>rfl)]at hu
 subst hu
 have hj:j=0:=by
  have:=g1.drawn
  omega
 subst hj
 have h2:=l1 (w.at d).tape (w.at d).drawn (by intro i q hi;omega)
 rw[p6 (fun _=>rfl)]at h2
 have h3:(results fn t).run P (w.at d)= .ok v (w.at d):=h2
 refine⟨h3,fun x hx=>?_⟩
 obtain⟨w2,es2,j2,hu2,r2,e2,t2,g2,hw2,l2⟩:=(a0i (P:=P) (F:=F0) fn t (w.at d) (m0T _)).ok (by rw[p6 (fun _=>rfl)];exact h3)
 rw[e2]at hx
 exact t2 x (by simpa using hx)
theorem N7{S:FuncId→Bool}(hC:Z5 P S true)(hE:P7 P){f:Nat}{fn:Func}{c:Code}(hf:P.funcs[f]? =some fn)(hb:fn.body=some c)(hc:Q5 P S true c=true){args:Array Value}{w:World}{R:Value→World→Prop}
 (H:∀τ e,Y6 P fn args (retape w τ e) R) {cl:Frame} {cs:List Frame} {main:Bool} {Stop:Goroutine→World→Prop}
 (K:∀v w' τ e,R v (retape w' τ e)→Gd F0 w w'→J0 P main F0 Stop (G (cl.finish v) cs) w'):J0 P main F0 Stop (G (Frame.enter P f args .normal) (cl::cs)) w:=by
 let b:Frame:={(default:Frame)with fn:=f,kind:=.normal}
 have henter:Frame.enter P f args .normal=b.at {tmps:=args++Array.replicate (fn.ntmps - args.size) undef,defers:=[]} [.code c]:=by
  simp[Frame.enter,Frame.at,hf,hb,b]
 rw[henter]
 have back:∀(a':Act) (w':World) (t':List Item) (τ:Tape) (e:Nat),a'.defers=[]→(∃v,(results fn a'.tmps).run P (retape (L1 F0 w') τ e)= .ok v (retape (L1 F0 w') τ e)∧∃v',Ending.returned v= .returned v'∧R v' (retape (L1 F0 w') τ e))→Gd F0 w w'→
  J0 P main F0 Stop (G {b.at a' t' with mode:=.returning} (cl::cs)) w':=fun a' w' t' τ e hd ⟨v,h1,v',h2,h3⟩ hg=>by
  cases h2
  rw[p6 (fun _=>rfl)]at h1 h3
  exact p4 rfl hd hf (fun d=>(m0d h1 d).1) (fun d x hx=>(m0d h1 d).2 x hx) (K _ _ τ e h3 hg)
 refine x0A (Q:=bodyPost P fn fun x w'=>∃v,x= .returned v∧R v w') hC (fun _ _=>rfl) hE hc (m0T w) rfl (fun e a w hq=>?_) (fun τ e=>?_) (by simp[b]) (fun a' w' τ e hq _ hg=>?_) (fun a' w' τ e t' hq _ hg=>?_)
 ·cases e with
  | normal=>exact .inl rfl
  | ret=>exact .inr ⟨rfl,hq.1⟩
  | panic ch=>obtain⟨_,v,h,_⟩:=hq;cases h
  | outgrown=>obtain⟨v,h,_⟩:=hq;cases h
  | exit _=>exact hq.elim
  | goto _=>exact hq.elim
 ·rw[p6 (fun _=>rfl)]
  exact H τ e c hb
 ·obtain⟨hd,h⟩:=hq
  have:b.at a' []=b.at ⟨a'.tmps,[]⟩ []:=by rw[← hd]
  rw[this]
  refine M0 rfl (fun d=>stepG_end) ?_
  exact back ⟨a'.tmps,[]⟩ w' [] τ e rfl h hg
 ·obtain⟨hd,h⟩:=hq
  exact back a' w' _ τ e hd h hg
def codeOkF(P:Program)(S:FuncId→Bool)(f:FuncId):Bool:=match P.funcs[f]? with
 | some fn => !(fn.name == "runtime.NumGoroutine") && match fn.body with
   | some c=>Q5 P S true c
   | none=>false
 | none=>false
theorem k0b {P : Program} {S : FuncId → Bool} {f : FuncId} (h : codeOkF P S f = true) : ∃ fn, P.funcs[f]? = some fn ∧ (fn.name == "runtime.NumGoroutine") = false ∧ ∃ c, fn.body = some c ∧ Q5 P S true c = true := by
 unfold codeOkF at h
 split at h
 ·rename_i fn hf
  rw[Bool.and_eq_true]at h
  obtain⟨h1,h2⟩:=h
  split at h2
  ·rename_i c hc
   exact⟨fn,hf,by simpa using h1,c,hc,h2⟩
  ·cases h2
 ·cases h
theorem m0l{l:List Nat}(h:l.all (codeOkF P fun f=>l.contains f)=true):Z5 P (fun f=>l.contains f) true:=fun f hf=>by
 obtain⟨fn,h1,h2,c,h3,h4⟩:=k0b (List.all_eq_true.1 h f (List.contains_iff_mem.1 hf))
 exact⟨fn,h1,h2,.inl ⟨c,h3,h4⟩⟩
end
section
theorem o0v{An:G3}{P:Program}{Post:Value→World→Prop}{fr:Frame}{W:World}(hA:An.Holds W)
 (hB:Q4 An P (fun g w=>g.status= .running∧∀d,∃v,stepG P true g (w.at d)= .ended (.done v) (w.at d) #[]∧(An.Holds (w.at d)→Post v (w.at d))) (G fr []) W):
 ∃M last o w' t',runNT P (M+1) (solo (G fr []) W) #[]=(.ended o w',t')∧runN P M (solo (G fr []) W)= .next last∧step P last= .ended o w'∧Go.Conc.Good P Post last o w' t':=by
 rw[solo_eq_crowd]
 obtain⟨N,gs',g',w',sl',T',q',B',hr,h0',⟨hrun,hS⟩,hL',hP',hA'⟩:=hB #[G fr []] none #[] (fun _=>0) 0 rfl (leavers_one _ _) past_nil hA
 obtain⟨K,last,o,w2,t',e1,e2,e3,e4⟩:=beside_ends (P:=P) (Post:=Post) (D:=fun _ _ es=>∀e∈es,EvL a0G B' e) (sl:=sl') (n:=0) (fun _ _ _ h=>h) h0' hL' hP' (Goes.stop fun w₂ r₂=>by
  obtain⟨d,rfl⟩:=r₂
  obtain⟨v,h1,h2⟩:=hS d
  exact⟨hrun,v,#[],h1,by simp,h2 (hA'.at d)⟩)
 refine⟨N+K,last,o,w2,t',?_,?_,e3,e4⟩
 ·rw[Nat.add_assoc,runNT_add,hr];exact e1
 ·rw[runN_add,← runNT_fst P _ _ #[],hr];exact e2
theorem o0u{W w':World}(h:(⟨W.heap.size,W⟩:G3).Holds w')(hc:∀(r:Nat) (c:Array Value) (e:TypeId) (z:Nat×Nat),W.heap[r]? =some (.cells c e z)→w'.heap[r]? =some (.cells c e z)):Below W.heap.size W w':=by
 refine⟨h.os,h.tape,h.output,h.low,fun r hr=>?_⟩
 obtain⟨o,ho⟩:∃o,W.heap[r]? =some o:=⟨_,Array.getElem?_eq_getElem hr⟩
 by_cases e:∃c e z,o= .cells c e z
 ·obtain⟨c,e,z,rfl⟩:=e
  rw[hc r c e z ho,ho]
 ·rw[h.obj r o hr ho fun c e1 z e2=>e ⟨c,e1,z,e2⟩,ho]
theorem p0A{f k:Nat}{fn:Func}{A:Array Value}(h2:¬2=f)(hf:Tryd.prog.funcs[f]? =some fn)(hr:fn.results= #[.tmp k]){v:Value}(hA:A.getD k undef=v)(w:World):
 stepG Tryd.prog true (G {(base f).at ⟨A,[]⟩ [.code .ret]with mode:=.returning} []) w= .ended (.done v) w #[]:=by
 subst hA
 simp[G,stepG,unwind,doReturn,results,Frame.at,base,hf,hr,seen,GStep.after,h2]
section
variable{An:G3}{W:World}
def g0M(W:World)(v:Value)(w':World):Prop:=v= .bool true∧∀(r:Nat) (c:Array Value) (e:TypeId) (z:Nat×Nat),W.heap[r]? =some (.cells c e z)→w'.heap[r]? =some (.cells c e z)
def l0b(An:G3)(Post:Value→World→Prop)(g:Goroutine)(w:World):Prop:=g.status= .running∧∀d,∃v,stepG Tryd.prog true g (w.at d)= .ended (.done v) (w.at d) #[]∧(An.Holds (w.at d)→Post v (w.at d))
theorem q0i{f k:Nat}{fn:Func}{A:Array Value}(hf:Tryd.prog.funcs[f]? =some fn)(hr:fn.results= #[.tmp k])(h2:¬2=f)(hA:A.getD k undef= .bool true){w:World}(h:∀(r:Nat) (c:Array Value) (e:TypeId) (z:Nat×Nat),W.heap[r]? =some (.cells c e z)→w.heap[r]? =some (.cells c e z)):
 l0b An (g0M W) (G {(base f).at ⟨A,[]⟩ [.code .ret]with mode:=.returning} []) w:=
 ⟨rfl,fun d=>⟨_,p0A h2 hf hr hA _,fun _=>⟨rfl,h⟩⟩⟩
end
theorem Tryd.own:ownKnob Tryd.prog.godebug=none:=by kernel_rfl
theorem Tryd.laidOut:laidOutB Tryd.prog=true:=by kernel_rfl
end
section
structure a0E(P:Program)(f:FuncId):Prop where
 e : ∃ fn, P.funcs[f]? = some fn ∧ (fn.name == "runtime.NumGoroutine") = false ∧ fn.body = none ∧ Extern.findNext fn = none ∧ ∃ x, Extern.find fn = some x ∧ u0j P true x
theorem a0b{P:Program}{l x:List Nat}(hx:∀f∈x,a0E P f)(h:l.all (fun f=>x.contains f || codeOkF P (fun f=>l.contains f) f)=true):Z5 P (fun f=>l.contains f) true:=fun f hf=>by
 have h1:=List.all_eq_true.1 h f (List.contains_iff_mem.1 hf)
 rw[Bool.or_eq_true]at h1
 rcases h1 with h1|h1
 ·obtain⟨fn,a1,a2,a3,a4,y,a5,a6⟩:=(hx f (List.contains_iff_mem.1 h1)).e
  exact⟨fn,a1,a2,.inr ⟨a3,a4,y,a5,a6⟩⟩
 ·obtain⟨fn,a1,a2,c,a3,a4⟩:=k0b h1
  exact⟨fn,a1,a2,.inl ⟨c,a3,a4⟩⟩
theorem Y6.mono{P:Program}{fn:Func}{args:Array Value}{w:World}{R R':Value→World→Prop}(h:Y6 P fn args w R)(hr:∀v u,R v u→R' v u):Y6 P fn args w R':=fun c hc=>by
 refine Code.wp_mono (fun e a u hq=>?_) (h c hc)
 cases e with
 | normal=>obtain⟨h1,v,h2,v',h3,h4⟩:=hq;exact⟨h1,v,h2,v',h3,hr _ _ h4⟩
 | ret=>obtain⟨h1,v,h2,v',h3,h4⟩:=hq;exact⟨h1,v,h2,v',h3,hr _ _ h4⟩
 | panic ch=>obtain⟨h1,v',h3,h4⟩:=hq;exact⟨h1,v',h3,hr _ _ h4⟩
 | outgrown=>obtain⟨v',h3,h4⟩:=hq;exact⟨v',h3,hr _ _ h4⟩
 | exit _=>exact hq
 | goto _=>exact hq
end
section
variable{An:G3}{w w' w0:World}
def C9(w w':World):Prop:=w.heap.size≤w'.heap.size∧∀(r:Nat) (c:Array Value) (e:TypeId) (z:Nat×Nat),w.heap[r]? =some (.cells c e z)→w'.heap[r]? =some (.cells c e z)
theorem C9.refl(w:World):C9 w w:=⟨Nat.le_refl _,fun _ _ _ _ h=>h⟩
theorem C9.trans{a b c:World}(h1:C9 a b)(h2:C9 b c):C9 a c:=⟨Nat.le_trans h1.1 h2.1,fun r x e z h=>h2.2 r x e z (h1.2 r x e z h)⟩
theorem C9.of(h1:w.heap.size≤w'.heap.size)(h2:∀r,r<w.heap.size→w'.heap[r]? =w.heap[r]?):C9 w w':=⟨h1,fun r c e z h=>(h2 r (Q3 h)).trans h⟩
theorem d08.keep(h:d08 w)(k:C9 w w'):d08 w':=by
 obtain⟨c,e,z,h1,h2⟩:=h
 exact⟨c,e,z,k.2 _ _ _ _ h1,h2⟩
theorem f0F{m:Pl}{ops:Nat→List P3}{n M:Nat}:∀(f:Nat) (s:GS m×List Nat),U9 n M (Z3 ops n M f s)→∀e,f≤e→Z3 ops n M e s=Z3 ops n M f s:=by
 intro f
 induction f with
 | zero=>
   intro s h e _
   exact a8 h e
 | succ f ih=>
   intro s h e he
   by_cases hd:U9 n M s
   ·rw[a8 hd,a8 hd]
   ·obtain⟨e,rfl⟩:∃k,e=k+1:=⟨e - 1,by omega⟩
    simp only[Z3,if_neg hd]at h ⊢
    exact ih _ h e (by omega)
theorem i0N{m:Pl}{ops:Nat→List P3}{n M:Nat}{S:List Int}{s:GS m}{f0:Nat}(hd:U9 n M (a0K ops n M S f0 s))(t:GS m×List Nat)(h:∃k,∀f,k≤f→a0K ops n M S f s=t):t=a0K ops n M S f0 s:=by
 obtain⟨k,hk⟩:=h
 rw[← hk (max k f0) (by omega)]
 exact f0F f0 _ hd _ (by omega)
theorem V1{X:World}{k:Nat}{c:Array Value}{e:TypeId}(h:X.heap[k]? =some (.cells c e (0,0))){j:Nat}{v:Value}(hv:c[j]? =some v):X.cell? ⟨k,j,none⟩=some v∧X.frozen? ⟨k,j,none⟩=false:=⟨by simp only[World.cell?,h];simpa using hv,by simp[World.frozen?,h]⟩
theorem v06{u:World}{N:Nat→Prop}{b0 b1 bt bs:Nat}(n0:¬N b0)(n1:¬N b1)(ns:¬N bs){k1 a1 x1 y1 k2 a2 x2 y2:Int}{S:List Int}(h0:u.heap[b0]? =some (.cells #[vI k1,vI a1,vI x1,vI y1] 44 (0,0)))(h1:u.heap[b1]? =some (.cells #[vI k2,vI a2,vI x2,vI y2] 44 (0,0)))(ht:u.heap[bt]? =some (.cells #[vL b0 0 1 1,vL b1 0 1 1] 32 (0,0)))(hs:u.heap[bs]? =some (.cells (S.map fun i:Int=>Value.int .i64 i).toArray 3 (0,0)))(hl:S.length<100):
 x8 u N 2 bt 0 2 (some ⟨bt,0,none⟩) (fun i=>some ⟨if i=0 then b0 else b1,0,none⟩) (fun _=>1) (fun _=>1) (fun i=>if i=0 then[⟨k1,a1,x1,y1⟩]else if i=1 then[⟨k2,a2,x2,y2⟩]else[]) S (some ⟨bs,0,none⟩):=by
 refine⟨rfl,fun _=>rfl,fun _=>(Q3 ht),fun j hj=>?_,fun j hj=>?_,fun j hj k x hx=>?_,by omega,fun _=>⟨_,_,_,_,_,rfl,ns,hs,fun k v hv=>⟨by rw[Nat.zero_add];simpa using hv,by simp⟩⟩⟩
 ·have:j=0∨j=1:=by omega
  rcases this with rfl|rfl
  ·exact⟨(V1 ht rfl).1,(V1 (j:=0) ht rfl).2,Nat.le_refl _⟩
  ·exact⟨(V1 ht rfl).1,(V1 (j:=1) ht rfl).2,Nat.le_refl _⟩
 ·have:j=0∨j=1:=by omega
  rcases this with rfl|rfl<;>rfl
 ·have:j=0∨j=1:=by omega
  rcases this with rfl|rfl
  ·have hk:k=0:=by
    have:=(List.getElem?_eq_some_iff.1 hx).1
    simp at this
    omega
   subst hk
   obtain rfl:(⟨k1,a1,x1,y1⟩:P3)=x:=by simpa using hx
   exact⟨_,_,rfl,n0,(V1 h0 rfl).1,(V1 h0 rfl).1,(V1 h0 rfl).1,(V1 h0 rfl).1,(V1 (j:=0) h0 rfl).2,(V1 (j:=1) h0 rfl).2,(V1 (j:=2) h0 rfl).2,(V1 (j:=3) h0 rfl).2⟩
  ·have hk:k=0:=by
    have:=(List.getElem?_eq_some_iff.1 hx).1
    simp at this
    omega
   subst hk
   obtain rfl:(⟨k2,a2,x2,y2⟩:P3)=x:=by simpa using hx
   exact⟨_,_,rfl,n1,(V1 h1 rfl).1,(V1 h1 rfl).1,(V1 h1 rfl).1,(V1 h1 rfl).1,(V1 (j:=0) h1 rfl).2,(V1 (j:=1) h1 rfl).2,(V1 (j:=2) h1 rfl).2,(V1 (j:=3) h1 rfl).2⟩
theorem t0x{u:World}{vb:Nat}{vs:List Int}(h:u.heap[vb]? =some (.cells (vs.map fun i:Int=>Value.int .i64 i).toArray 2 (0,0))):c0K u (some ⟨vb,0,none⟩) vs:=fun i x hx=>⟨vb,0,rfl,by
 rw[Nat.zero_add]
 exact(V1 h (by simp[hx])).1⟩
structure AwT(u:World)(T:Nat):Prop where
 t:∃aa oa oc xa xc g0 p0 g1 p1,u.cell? ⟨T,0,none⟩=some (vL aa 0 2 2)∧u.cell? ⟨T,1,none⟩=some (.slice oa 6 oc)∧u.cell? ⟨T,2,none⟩=some (vL xa 0 2 xc)∧u.cell? ⟨T,3,none⟩=some (.bool false)∧u.cell? ⟨aa,0,none⟩=some (vL g0 0 1 p0)∧u.cell? ⟨aa,1,none⟩=some (vL g1 0 1 p1)∧u.cell? ⟨g0,1,none⟩=some (vI 0)∧u.cell? ⟨g1,1,none⟩=some (vI 1)∧u.cell? ⟨g1,0,none⟩=some (.bool true)∧u.cell? ⟨xa,1,none⟩=some (vI 1)
theorem AwT.heap{u u':World}{T:Nat}(h:AwT u T)(e:u'.heap=u.heap):AwT u' T:=by
 obtain⟨t⟩:=h
 refine⟨?_⟩
 simpa only[World.cell?,e]using t
theorem n0c{u:World}{ans:Nat→List m9}{state:List Int}{order:List Nat}{aa:Nat}{rows:Nat→Value}{av:Nat→List SA}{ov sv:Value}(h:e0n w 2 ans state order aa rows av ov sv u){i:Nat}(hi:i<2){ok:Bool}{n1:Int}(ha:ans i=[(ok,n1,[])]):∃g p,rows i=vL g 0 1 p∧u.cell? ⟨g,0,none⟩=some (.bool ok)∧u.cell? ⟨g,1,none⟩=some (vI n1):=by
 obtain⟨r1,r2,r3,r4⟩:=h.row i hi
 rw[ha]at r1
 obtain⟨sa,hsa⟩:∃sa,av i=[sa]:=by
  cases hq:av i with
  | nil=>rw[hq]at r1;cases r1
  | cons x t=>
    cases t with
    | nil=>exact⟨x,rfl⟩
    | cons y t=>rw[hq]at r1;simp at r1
 rw[hsa]at r1 r3 r4
 have r1:sa.an=(ok,n1,[]):=by simpa using r1
 obtain⟨an,la,ll,lc⟩:=sa
 simp only at r1
 subst r1
 have r3:u.ownsRow 0 49 3 (rows i) (0+1) (SA.v ⟨(ok,n1,[]),la,ll,lc⟩).cells:=by simpa using r3
 obtain⟨g,cap,hg⟩:=j5 r3
 have hcells:(SA.v ⟨(ok,n1,[]),la,ll,lc⟩).cells=[.bool ok,vI n1,.slice la ll lc]:=rfl
 rw[hcells]at r3
 obtain⟨b,cp,e1,g0⟩:=M5 (k:=0) r3 rfl
 obtain⟨b2,cp2,e2,g2⟩:=M5 (k:=1) r3 rfl
 rw[hg]at e1 e2
 cases e1
 cases e2
 exact⟨g,cap,hg,g0.c,g2.c⟩
theorem t0y{u u':World}{ans:Nat→List m9}{order:List Nat}{aa:Nat}{rows:Nat→Value}{av:Nat→List SA}{oa xa:Option Addr}{oc xc:Nat}(h:e0n w 2 ans [0,1] order aa rows av (.slice oa order.length oc) (.slice xa ([0,1]:List Int).length xc) u)(h0:ans 0=[(true,0,[])])(h1:ans 1=[(true,1,[])])(ho6:order.length=6)
 (hT:u'.heap=(u.alloc (.cells #[vL aa 0 2 2,.slice oa order.length oc,.slice xa ([0,1]:List Int).length xc,.bool false] 29)).heap):AwT u' u.heap.size:=by
 have hn:u'.heap[u.heap.size]? =some (.cells #[vL aa 0 2 2,.slice oa order.length oc,.slice xa ([0,1]:List Int).length xc,.bool false] 29 (0,0)):=by rw[hT];exact heap_alloc_new _ _
 have ho:∀r,r<u.heap.size→u'.heap[r]? =u.heap[r]?:=fun r hr=>by rw[hT];exact D0 _ _ hr
 have hc:∀{a:Addr} {v:Value},u.cell? a=some v→u'.cell? a=some v:=fun{a v} h=>by
  obtain⟨c,e,z,hb⟩:=M3 h
  rw[← h];unfold World.cell?;simp only[ho _ (Q3 hb)]
 obtain⟨c,a1,a2,a3⟩:=h.arr
 obtain⟨g0,p0,e0,c00,c01⟩:=n0c h (i:=0) (by decide) h0
 obtain⟨g1,p1,e1,c10,c11⟩:=n0c h (i:=1) (by decide) h1
 obtain⟨bx,cx,ex,x1⟩:=M5 (k:=1) h.st rfl
 cases ex
 refine⟨aa,oa,oc,bx,xc,g0,p0,g1,p1,(V1 hn rfl).1,?_,(V1 hn rfl).1,(V1 hn rfl).1,hc ?_,hc ?_,hc c01,hc c11,hc c10,hc x1.c⟩
 ·rw[← ho6];exact(V1 hn rfl).1
 ·have:=a3 0 (by decide)
  rw[e0]at this
  exact(V1 a1 this).1
 ·have:=a3 1 (by decide)
  rw[e1]at this
  exact(V1 a1 this).1
theorem q0h{P:Program}{S:FuncId→Bool}(hC:Z5 P S true)(hE:P7 P){c:Code}(hc:Q5 P S true c=true){A:Array Value}{w:World}{R:Array Value→World→Prop}{b:Frame}{k:List Item}(hk:b.kind≠.early)
 (H:∀τ e,c.wp P (fun x a w=>x= .ret∧a.defers=[]∧R a.tmps w) ⟨A,[]⟩ (retape w τ e)) {cs:List Frame} {main:Bool} {Stop:Goroutine→World→Prop}
 (K:∀A' w' τ e t',R A' (retape w' τ e)→Gd F0 w w'→J0 P main F0 Stop (G {b.at ⟨A',[]⟩ (.code .ret::t')with mode:=.returning} cs) w'):J0 P main F0 Stop (G (b.at ⟨A,[]⟩ (.code c::k)) cs) w:=by
 refine x0A (Q:=fun x a w=>x= .ret∧a.defers=[]∧R a.tmps w) hC (fun _ _=>rfl) hE hc (m0T w) rfl (fun e a w hq=>.inr ⟨hq.1,hq.2.1⟩) (fun τ e=>?_) hk (fun a' w' τ e hq _ hg=>?_) (fun a' w' τ e t' hq _ hg=>?_)
 ·rw[p6 (fun _=>rfl)]
  exact H τ e
 ·exact absurd hq.1 (by simp)
 ·obtain⟨_,hd,h⟩:=hq
  rw[p6 (fun _=>rfl)]at h
  obtain⟨tm,df⟩:=a'
  simp only at hd
  subst hd
  exact K tm w' τ e t' h hg
theorem o07:Z5 Tryd.prog (fun f=>([]:List Nat).contains f) true:=a0b (x:=[]) (fun f h=>by cases h) (by kernel_rfl)
theorem q0C{T:Nat}(h:AwT w T){A:Array Value}(hA:G0 81 A [(1,vP T 0)]):
 baws2.wp Tryd.prog (fun x a u=>x= .ret∧a.defers=[]∧(a.tmps.getD 0 undef= .bool true∧u.heap=w.heap)) ⟨A,[]⟩ w:=by
 obtain⟨s,rfl,h1,_⟩:=Y3 q0F hA
 obtain⟨aa,oa,oc,xa,xc,g0,p0,g1,p1,c1,c2,c3,c4,c5,c6,c7,c8,c9,c10⟩:=h.t
 clear h
 simp only[baws2,d9,pC,Tryd.f7,Option.getD_some,q0F,h1,List.append_eq,List.append,List.cons_append,List.nil_append]
 clear h1
 go_wp2
theorem m0f(hg:d08 w){c:Frame}{cs:List Frame}{Stop:Goroutine→World→Prop}(K:∀w',C9 w w'→Q4 An Tryd.prog Stop (G (c.finish (.bool true)) cs) w'):
 Q4 An Tryd.prog Stop (G (Frame.enter Tryd.prog 7 #[] .normal) (c::cs)) w:=by
 refine Z6 (F:=F0) (Stop:=fun a u=>∃A,A.size=81∧u.heap=(awW w).heap∧a=G (Frame.enter Tryd.prog 9 #[vL w.heap.size 0 1 1,vL (w.heap.size+3) 0 2 2,vL (w.heap.size+4) 0 6 6,vI 100] .normal) ((bA 7 A [.inRegion (oC f05) [7,8,9],.code baws2])::c::cs))
  (y0N J1 (Nat.zero_le _) fun A hA=>.stop fun d=>⟨A,hA,rfl,rfl⟩) fun a u ⟨A,hA,hu,ha⟩=>?_
 subst ha
 have h00:0<w.heap.size:=by
  obtain⟨_,_,_,h,_⟩:=hg
  exact(Q3 h)
 have k1:C9 w u:=by
  refine .of (by rw[hu];simp[awW];omega) fun r hr=>?_
  rw[hu]
  simp only[awW]
  rw[D0 _ _ (by simp;omega),D0 _ _ (by simp;omega),D0 _ _ (by simp;omega),D0 _ _ (by simp;omega),D0 _ _ hr]
 have hsz:∀(X:World) (k:Nat) (o:Obj),X.heap.size=k→(X.alloc o).heap[k]? =some o:=fun X k o e=>by rw[← e];exact heap_alloc_new _ _
 have b0:u.heap[w.heap.size]? =some (.cells (([2]:List Int).map fun i:Int=>Value.int .i64 i).toArray 2 (0,0)):=by
  rw[hu]
  simp only[awW]
  rw[D0 _ _ (by simp;try omega),D0 _ _ (by simp;try omega),D0 _ _ (by simp;try omega),D0 _ _ (by simp)]
  exact hsz _ _ _ (by simp)
 have b1:u.heap[w.heap.size+1]? =some (.cells #[vI 4,vI 0,vI 0,vI 0] 44 (0,0)):=by
  rw[hu]
  simp only[awW]
  rw[D0 _ _ (by simp;try omega),D0 _ _ (by simp;try omega),D0 _ _ (by simp;try omega)]
  exact hsz _ _ _ (by simp)
 have b2:u.heap[w.heap.size+2]? =some (.cells #[vI 4,vI 0,vI 0,vI 0] 44 (0,0)):=by
  rw[hu]
  simp only[awW]
  rw[D0 _ _ (by simp;try omega),D0 _ _ (by simp;try omega)]
  exact hsz _ _ _ (by simp)
 have b3:u.heap[w.heap.size+3]? =some (.cells #[vL (w.heap.size+1) 0 1 1,vL (w.heap.size+2) 0 1 1] 32 (0,0)):=by
  rw[hu]
  simp only[awW]
  rw[D0 _ _ (by simp;try omega)]
  exact hsz _ _ _ (by simp)
 have b4:u.heap[w.heap.size+4]? =some (.cells (([0,1,0,1,1,1]:List Int).map fun i:Int=>Value.int .i64 i).toArray 3 (0,0)):=by
  rw[hu]
  simp only[awW]
  exact hsz _ _ _ (by simp)
 clear hu
 refine g0p (va:=some ⟨w.heap.size,0,none⟩) (vs:=[2]) (S:=[0,1,0,1,1,1]) (t0x b0) (by decide) (by decide) (hg.keep k1) (v06 (by omega) (by omega) (by omega) b1 b2 b3 b4 (by decide)) (M:=100) rfl fun s order hd hk aa rows av oa' oc' xa xc u1 hP=>?_
 obtain⟨rfl,rfl⟩:s=awE.1∧order=awE.2:=by
  have:=i0N n0b (s,order) hk
  exact⟨congrArg Prod.fst this,congrArg Prod.snd this⟩
 have hl:decide (0<L5 awE.1.live 2)=false:=by decide +kernel
 rw[hl]
 rw[t0w]at hP ⊢
 have t1:∀u',u'.heap=(u1.alloc (.cells #[vL aa 0 2 2,.slice oa' awE.2.length oc',.slice xa ([0,1]:List Int).length xc,.bool false] 29)).heap→AwT u' u1.heap.size:=fun u' e=>t0y hP t0u t0v (by rw[q0B];rfl) e
 have k2:C9 u u1:=⟨hP.size,hP.old⟩
 clear hk hd b0 b1 b2 b3 b4 hP
 refine Z6 (F:=F0) (Stop:=fun a u2=>a=G (c.finish (.bool true)) cs∧u1.heap.size≤u2.heap.size∧∀r,r<u1.heap.size→u2.heap[r]? =u1.heap[r]?)
  (y0O J1 (Nat.zero_le _) hA fun A hA=>?_) fun a u2 ⟨ha,hs2,ho2⟩=>?_
 ·have q1:=t1 _ rfl
  have ho:∀r,r<u1.heap.size→(u1.alloc (.cells #[vL aa 0 2 2,.slice oa' awE.2.length oc',.slice xa ([0,1]:List Int).length xc,.bool false] 29)).heap[r]? =u1.heap[r]?:=fun r hr=>D0 _ _ hr
  have hz:(u1.alloc (.cells #[vL aa 0 2 2,.slice oa' awE.2.length oc',.slice xa ([0,1]:List Int).length xc,.bool false] 29)).heap.size=u1.heap.size+1:=by simp
  generalize u1.alloc (.cells #[vL aa 0 2 2,.slice oa' awE.2.length oc',.slice xa ([0,1]:List Int).length xc,.bool false] 29)=V at q1 ho hz ⊢
  refine q0h o07 F6 (by kernel_rfl) (by decide) (R:=fun A u=>A.getD 0 undef= .bool true∧u.heap=V.heap) (fun τ e=>q0C (w:=retape V τ e) (q1.heap rfl) hA) fun A2 w2 τ e t' hR hgd=>?_
  obtain⟨r1,r2⟩:=hR
  rw[Array.getD_eq_getD_getElem?]at r1
  have r2:w2.heap=V.heap:=r2
  refine p4 (fn:=Tryd.f7) (v:=.bool true) rfl rfl Tryd.func7 (fun d=>by simp[results,Tryd.f7,go_sem,r1]) (fun d e he=>by simp[results,Tryd.f7,go_sem,r1]at he) (.stop fun d=>⟨rfl,?_,fun r hr=>?_⟩)
  ·show _≤w2.heap.size
   rw[r2];omega
  ·show w2.heap[r]? =_
   rw[r2];exact ho r hr
 ·subst ha
  exact K u2 (k1.trans (k2.trans (.of hs2 ho2)))
end
noncomputable section
variable {cs:List Frame}{main:Bool}{Stop:Goroutine→World→Prop}
variable{F:Fz}{w:World}
theorem j0h:O1 10:=G2 Tryd.func10 rfl rfl
theorem l0Z:O1 8:=G2 Tryd.func8 rfl rfl
def N5:Code:=Tryd.f3.body.getD .skip
def y0j:=pC [] N5
def v0o:=pC [zt] N5
def o0k:=pC [zf] N5
def v0H:=pC [zt] o0k
def g0y:=pC [zf,zt,zt] N5
def f0m:=pC [zf] v0H
def z0s:=pC [zt] f0m
def j09:=pC [zf] o0k
def a04:=pC [zf,zf,zt] N5
theorem l09(args:Array Value):Frame.enter Tryd.prog 3 args .normal=(Go.Conc.base 3).at {tmps:=args++Array.replicate (22 - args.size) undef,defers:=[]} [.code y0j]:=enter_at args Tryd.func3 rfl
def h0v(s:Nat→Value):Array Value:= #[s 0,s 1,s 2,s 3,s 4,s 5,s 6,s 7,s 8,s 9,s 10,s 11,s 12,s 13,s 14,s 15,s 16,s 17,s 18,s 19,s 20,s 21]
theorem y08{A:Array Value}(h:A.size=22):∃s,A=h0v s:=by
 obtain⟨s,hs,_⟩:=Y4 A h
 exact⟨s,hs⟩
theorem y09{a b c0 d:Value}
 (h:∀A,G0 22 A [(0,a),(1,b),(2,c0),(3,d)]→J0 Tryd.prog main F Stop (G (Frame.enter Tryd.prog 7 #[] .normal) ((bA 3 A [.inRegion (oC g0y) [0,1],.code f0m,.code j09])::cs)) w):
 J0 Tryd.prog main F Stop (G (Frame.enter Tryd.prog 3 #[a,b,c0,d] .normal) cs) w:=by
 rw[l09]
 walk_nrm
 refine ogW v0o o0k ?_
 simp only[oC,v0o,pC,N5,Tryd.f3,Option.getD_some,List.size_toArray,List.length_cons,List.length_nil,Nat.reduceAdd,Nat.zero_add,List.range,List.range.loop]
 refine oT ?_
 refine D1<|ogV v0H j09<|ogW g0y f0m ?_
 simp only[oC,g0y,pC,N5,Tryd.f3,Option.getD_some,List.size_toArray,List.length_cons,List.length_nil,Nat.reduceAdd,Nat.zero_add,List.range,List.range.loop]
 refine oc m0g #[] ?_
 refine h _ ?_
 exact⟨rfl,rfl,rfl,rfl,rfl,trivial⟩
theorem z0a{a b c0 d:Value}{A:Array Value}(hA:G0 22 A [(0,a),(1,b),(2,c0),(3,d)])
 (h:∀A,G0 22 A [(0,a),(1,b),(2,c0),(3,d)]→J0 Tryd.prog main F Stop (G (Frame.enter Tryd.prog 9 #[a,b,c0,d] .normal) ((bA 3 A [.inRegion (oC a04) [4,5,6,7,8,9,10,11],.code .ret])::cs)) w):
 J0 Tryd.prog main F Stop (G ((bA 3 A [.inRegion (oC g0y) [0,1],.code f0m,.code j09]).finish (.bool true)) cs) w:=by
 obtain⟨s,rfl,h0,h1,h2,h3,_⟩:=Y3 h0v hA
 simp only[h0v,h0,h1,h2,h3]
 clear h0 h1 h2 h3
 rw[Frame.finish_at]
 simp only[oC,g0y,pC,N5,Tryd.f3,Option.getD_some,List.size_toArray,List.length_cons,List.length_nil,Nat.reduceAdd,Nat.zero_add,List.range,List.range.loop]
 walk_nrm
 refine oT ?_
 refine D1<|ogGn .skip<|ogK<|ogW a04 .ret ?_
 simp only[oC,a04,pC,N5,Tryd.f3,Option.getD_some,List.size_toArray,List.length_cons,List.length_nil,Nat.reduceAdd,Nat.zero_add,List.range,List.range.loop]
 iterate 4 refine oT ?_
 refine oc g0z #[a,b,c0,d] ?_
 refine h _ ?_
 exact⟨rfl,rfl,rfl,rfl,rfl,trivial⟩
theorem z0b{a b c0 d x:Value}{A:Array Value}(hA:G0 22 A [(0,a),(1,b),(2,c0),(3,d)])
 (h:∀A,G0 22 A [(15,x)]→J0 Tryd.prog main F Stop (G (Frame.enter Tryd.prog 10 #[a,b,c0,d] .normal) ((bA 3 A [.inRegion (oC a04) [9,10,11],.code .ret])::cs)) w):
 J0 Tryd.prog main F Stop (G ((bA 3 A [.inRegion (oC a04) [4,5,6,7,8,9,10,11],.code .ret]).finish x) cs) w:=by
 obtain⟨s,rfl,h0,h1,h2,h3,_⟩:=Y3 h0v hA
 simp only[h0v,h0,h1,h2,h3]
 clear h0 h1 h2 h3
 rw[Frame.finish_at]
 simp only[oC,a04,pC,N5,Tryd.f3,Option.getD_some,List.size_toArray,List.length_cons,List.length_nil,Nat.reduceAdd,Nat.zero_add,List.range,List.range.loop]
 walk_nrm
 iterate 4 refine oT ?_
 refine oc j0h #[a,b,c0,d] ?_
 refine h _ ?_
 exact⟨rfl,rfl,trivial⟩
theorem z0c{x y:Value}{A:Array Value}(hA:G0 22 A [(15,x)])
 (h:∀A,G0 22 A [(15,x)]→J0 Tryd.prog main F Stop (G (Frame.enter Tryd.prog 8 #[x,y] .normal) ((bA 3 A [.inRegion (oC a04) [10,11],.code .ret])::cs)) w):
 J0 Tryd.prog main F Stop (G ((bA 3 A [.inRegion (oC a04) [9,10,11],.code .ret]).finish y) cs) w:=by
 obtain⟨s,rfl,h15,_⟩:=Y3 h0v hA
 simp only[h0v,h15]
 clear h15
 rw[Frame.finish_at]
 simp only[oC,a04,pC,N5,Tryd.f3,Option.getD_some,List.size_toArray,List.length_cons,List.length_nil,Nat.reduceAdd,Nat.zero_add,List.range,List.range.loop]
 walk_nrm
 refine oc l0Z #[x,y] ?_
 refine h _ ?_
 exact⟨rfl,rfl,trivial⟩
theorem z0d{x y:Value}{A:Array Value}(hA:G0 22 A [(15,y)])
 (h:∀A,G0 22 A [(8,x)]→J0 Tryd.prog main F Stop (G {bA 3 A [.code .ret]with mode:=.returning} cs) w):
 J0 Tryd.prog main F Stop (G ((bA 3 A [.inRegion (oC a04) [10,11],.code .ret]).finish x) cs) w:=by
 obtain⟨s,rfl,h15,_⟩:=Y3 h0v hA
 simp only[h0v,h15]
 clear h15
 rw[Frame.finish_at]
 simp only[oC,a04,pC,N5,Tryd.f3,Option.getD_some,List.size_toArray,List.length_cons,List.length_nil,Nat.reduceAdd,Nat.zero_add,List.range,List.range.loop]
 walk_nrm
 refine oT ?_
 refine D1<|ogX ?_
 refine h _ ?_
 exact⟨rfl,rfl,trivial⟩
end
section
def okS(n:Nat)(e:Nat→Bool)(x:Int):Prop:=0≤x∧x<n∧e x.toNat=false
def j0N(S:List Int)(n:Nat)(e:Nat→Bool)(p0 r0:Nat)(x p1 r1:Nat):Prop:=
 (∃p,p0≤p∧(∀j y,p0≤j→j<p→S[j]? =some y→¬okS n e y)∧S[p]? =some (x:Int)∧okS n e x∧p1=p+1∧r1=r0)∨
 ((∀j y,p0≤j→S[j]? =some y→¬okS n e y)∧p1=S.length∧∃r,r0≤r∧(∀j,r0≤j→j<r→e (j % n)=true)∧e (r % n)=false∧x=r % n∧r1=x+1)
end
section
variable{w w':World}
theorem l06{aa ab:Option Addr}{ca cb:Nat}{xs:List Int}(hl:xs.length<100000000)(hA:B5 w aa (xs.map fun v=>vI v))(hB:B5 w ab (xs.map fun v=>vI v)):
 Calls Tryd.prog 26 #[.slice aa xs.length ca,.slice ab xs.length cb] w fun x w'=>x= .returned (.bool true)∧∃m,w'=w.drewN m:=by
 have E:Aside (B5 w aa (xs.map fun v=>vI v)∧B5 w ab (xs.map fun v=>vI v)):=⟨hA,hB⟩
 clear hA hB
 go_enter Tryd.func26,Tryd.ntmps26
 go_wp2
 go_loopg [5] xs.length (fun g i wr=>∃k:Nat,k≤xs.length∧i=vI k∧g=xs.length - k∧∃m,wr=w.drewN m)
 case atStart=>exact⟨0,Nat.zero_le _,rfl,rfl,0,rfl⟩
 case round=>
  obtain⟨k,hk,rfl,rfl,m0,hw⟩:=hrel
  have W:Aside (wr=w.drewN m0):=hw
  have hh:wr.heap=w.heap:=by rw[hw];rfl
  clear hw
  rcases Nat.lt_or_ge k xs.length with hlt|hge
  ·obtain⟨b1,o1,rfl,h1⟩:=(E.out.1.heap hh).c k (vI xs[k]) (by simp[hlt])
   obtain⟨b2,o2,rfl,h2⟩:=(E.out.2.heap hh).c k (vI xs[k]) (by simp[hlt])
   have hwr:IntKind.i64.wrap ((k:Int)+1)=(k:Int)+1:=IntWalk.i64_in _ (by omega)
   clear hh
   go_wp2
   go_quiet (fail)
   go_wp2
   go_roundg (xs.length - (k+1))
   case measure=>omega
   case rel=>exact⟨k+1,hlt,rfl,rfl,_,by rw[W.out,World.drewN_drewN]⟩
  ·have:k=xs.length:=by omega
   subst this
   clear hh
   go_wp2
   go_ret
   exact⟨rfl,m0,W.out⟩
def i5(l:List SA):List Value:=(l.map fun a=>a.v.cells).flatten
theorem e0i(l:List SA):∀k a,l[k]? =some a→(i5 l)[k*3]? =some (.bool a.an.1)∧(i5 l)[k*3+1]? =some (vI a.an.2.1)∧(i5 l)[k*3+2]? =some (.slice a.la a.ll a.lc):=by
 induction l with
 | nil=>intro k a h;simp at h
 | cons x t ih=>
   intro k a h
   have e:i5 (x::t)= .bool x.an.1::vI x.an.2.1:: .slice x.la x.ll x.lc::i5 t:=rfl
   rw[e]
   cases k with
   | zero=>
     simp at h
     subst h
     exact⟨rfl,rfl,rfl⟩
   | succ k=>
     have h:t[k]? =some a:=by simpa using h
     obtain⟨h1,h2,h3⟩:=ih k a h
     rw[show(k+1)*3=k*3+3 by omega]
     exact⟨by simpa using h1,by simpa [show k*3+3+1=k*3+1+3 by omega]using h2,by simpa [show k*3+3+2=k*3+2+3 by omega]using h3⟩
structure SAL(a:SA)(w:World):Prop where
 l:a.ll=a.an.2.2.length
 r:B5 w a.la (a.an.2.2.map fun v=>vI v)
theorem SAL.heap{a:SA}(h:SAL a w)(e:w'.heap=w.heap):SAL a w':=⟨h.l,h.r.heap e⟩
theorem SAL.of{a:SA}(h:SAU a w):SAL a w:=by
 obtain⟨an,la,ll,lc⟩:=a
 have h1:w.ownsRow 0 2 1 (.slice la ll lc) an.2.2.length (an.2.2.map fun v=>vI v):=h
 have hl:ll=an.2.2.length:=by
  rcases h1.2 with⟨e,h5⟩|⟨_,_,_,e,_⟩
  ·cases e;exact h5.symm
  ·cases e;rfl
 subst hl
 exact⟨rfl,c0E h1⟩
theorem r0C{aa ab:Option Addr}{ca cb:Nat}{xs ys:List SA}(hl:xs.length<100000000)(he:xs.map SA.an=ys.map SA.an)(hA:B5 w aa (i5 xs))(hB:B5 w ab (i5 ys))(hx:∀a∈xs,SAL a w∧a.an.2.2.length<100000000)(hy:∀a∈ys,SAL a w):
 Y6 Tryd.prog Tryd.f16 #[.slice aa xs.length ca,.slice ab xs.length cb] w fun x w'=>x= .bool true∧w'.heap=w.heap:=by
 have E:Aside (B5 w aa (i5 xs)∧B5 w ab (i5 ys)∧xs.map SA.an=ys.map SA.an∧(∀a∈xs,SAL a w∧a.an.2.2.length<100000000)∧∀a∈ys,SAL a w):=⟨hA,hB,he,hx,hy⟩
 clear hA hB he hx hy
 refine I8 rfl ?_
 simp only[Tryd.ntmps16,List.size_toArray,List.length_cons,List.length_nil,Nat.reduceAdd,Nat.reduceSub,Array.replicate_succ,Array.replicate_zero,List.push_toArray,List.append_toArray,List.nil_append,List.cons_append]
 go_wp2
 go_loopg [5] xs.length (fun g i wr=>∃k:Nat,k≤xs.length∧i=vI k∧g=xs.length - k∧wr.heap=w.heap)
 case atStart=>exact⟨0,Nat.zero_le _,rfl,rfl,rfl⟩
 case round=>
  obtain⟨k,hk,rfl,rfl,hw⟩:=hrel
  rcases Nat.lt_or_ge k xs.length with hlt|hge
  ·have hq:=congrArg (fun l=>l[k]?) E.out.2.2.1
   simp only[List.getElem?_map,List.getElem?_eq_getElem hlt,Option.map_some]at hq
   obtain⟨y,hyk,hya⟩:=Option.map_eq_some_iff.1 hq.symm
   obtain⟨g1,g2,g3⟩:=e0i xs k _ (List.getElem?_eq_getElem hlt)
   obtain⟨j1,j2,j3⟩:=e0i ys k _ hyk
   have hsx:=(E.out.2.2.2.1 _ (List.getElem_mem hlt))
   have hsy:=E.out.2.2.2.2 y (List.mem_of_getElem? hyk)
   rw[hya]at j1 j2
   obtain⟨sl1,sr1⟩:=hsx.1.heap hw
   obtain⟨sl2,sr2⟩:=hsy.heap hw
   have hlen:=hsx.2
   rw[hya]at sl2 sr2
   generalize xs[k]=x at g1 g2 g3 j1 j2 sl1 sr1 sl2 sr2 hlen
   obtain⟨⟨ok,n,l⟩,la,ll,lc⟩:=x
   obtain⟨an2,la2,ll2,lc2⟩:=y
   simp only at g1 g2 g3 j1 j2 j3 sl1 sr1 sl2 sr2 hlen
   subst sl1
   subst sl2
   obtain⟨b1,o1,rfl,f0⟩:=(E.out.1.heap hw).c (k*3) _ g1
   obtain⟨_,_,e1,f1⟩:=(E.out.1.heap hw).c (k*3+1) _ g2
   cases e1
   obtain⟨_,_,e1,f2⟩:=(E.out.1.heap hw).c (k*3+2) _ g3
   cases e1
   obtain⟨b2,o2,rfl,h0⟩:=(E.out.2.1.heap hw).c (k*3) _ j1
   obtain⟨_,_,e1,h1⟩:=(E.out.2.1.heap hw).c (k*3+1) _ j2
   cases e1
   obtain⟨_,_,e1,h2⟩:=(E.out.2.1.heap hw).c (k*3+2) _ j3
   cases e1
   rw[← Nat.add_assoc]at f1 f2 h1 h2
   have H:Aside (∀m,Calls Tryd.prog 26 #[.slice la l.length lc,.slice la2 l.length lc2] (wr.drewN m) fun x w''=>x= .returned (.bool true)∧∃m',w''=wr.drewN m'):=fun m=>(l06 (w:=wr.drewN m) hlen (sr1.heap rfl) (sr2.heap rfl)).mono (by
    rintro e u ⟨rfl,m',rfl⟩
    exact⟨rfl,_,World.drewN_drewN _ _ _⟩)
   have hwr:IntKind.i64.wrap ((k:Int)+1)=(k:Int)+1:=IntWalk.i64_in _ (by omega)
   have W:Aside (wr.heap=w.heap):=hw
   clear g1 g2 g3 j1 j2 j3 hw hq hyk hya hsx hsy sr1 sr2 hlen
   cases ok
   all_goals(
    go_wp2
    go_quiet ((go_at_call 26;exact H.out _))
    go_wp2
    go_roundg (xs.length - (k+1))
    case measure=>omega
    case rel=>exact⟨k+1,hlt,rfl,rfl,W.out⟩)
  ·have:k=xs.length:=by omega
   subst this
   go_wp2
   go_ret
   exact⟨_,rfl,rfl,hw⟩
theorem v0T{aa ab:Option Addr}{ca cb:Nat}{xs ys:List SA}(hl:xs.length<100000000)(he:xs.map SA.an=ys.map SA.an)(hA:B5 w aa (i5 xs))(hB:B5 w ab (i5 ys))(hx:∀a∈xs,SAL a w∧a.an.2.2.length<100000000)(hy:∀a∈ys,SAL a w):
 Calls Tryd.prog 16 #[.slice aa xs.length ca,.slice ab xs.length cb] w fun x w'=>x= .returned (.bool true)∧w'.heap=w.heap:=
 ((r0C hl he hA hB hx hy).calls Tryd.func16 rfl).mono (by rintro e u ⟨v,rfl,rfl,h⟩;exact⟨rfl,h⟩)
theorem callable16:O1 16:=G2 Tryd.func16 rfl rfl
end
section
variable{F:Fz}{w:World}
def j0Z(xv:Value)(w:World):Prop:=xv= .pointer none∨∃lb,xv=vP lb 0∧w.cell? ⟨lb,0,none⟩=some (vI 0)∧w.cell? ⟨lb,1,none⟩=some (.slice none 0 0)
theorem j0Z.heap{w w':World}{xv:Value}(h:j0Z xv w)(e:∀r,r<w.heap.size→w'.heap[r]? =w.heap[r]?):j0Z xv w':=by
 rcases h with h|⟨lb,h,h1,h2⟩
 ·exact .inl h
 ·refine .inr ⟨lb,h,?_,?_⟩
  ·rw[← h1];unfold World.cell?;rw[e lb (I9 h1)]
  ·rw[← h2];unfold World.cell?;rw[e lb (I9 h1)]
end
section
variable{F:Fz}{w:World}
end
section
variable{w w':World}
abbrev opV(o:P3):Value:=.agg #[vI o.kd,vI o.a,vI o.b,vI o.c]
end
section
variable{w w':World}
structure B4(w w':World)(b:Nat)(o:Obj):Prop where
 size:w'.heap.size=w.heap.size
 o:w'.heap[b]? =some o
 old:∀r,r≠b→w'.heap[r]? =w.heap[r]?
theorem Y1{w:World}{b k:Nat}{c:Array Value}{e:TypeId}{v:Value}(h:w.heap[b]? =some (.cells c e (0,0))):B4 w (w.setCell ⟨b,k,none⟩ v) b (.cells (c.setIfInBounds k v) e (0,0)):=
 ⟨by simp,U1 (o:=k) h v,fun r hr=>I0 _ _ _ hr⟩
theorem B4.trans{a b c:World}{p:Nat}{o1 o2:Obj}(h1:B4 a b p o1)(h2:B4 b c p o2):B4 a c p o2:=⟨h2.size.trans h1.size,h2.o,fun r hr=>(h2.old r hr).trans (h1.old r hr)⟩
structure J4 where
 kd:Int
 i:Int
 ph:Int
 w:Int
 old:BitVec 64
 done:Bool
 ok:Bool
 n:Int
 l:Value
def J4.o(c:J4):Obj:=.cells #[vI c.kd,vI c.i,vI c.ph,vI c.w,wV c.old,.bool c.done,.bool c.ok,vI c.n,c.l] 51
abbrev F3(w:World)(cb:Nat)(c:J4):Prop:=w.heap[cb]? =some c.o
structure RS(xb wb:Nat)(k:V0)(w:World):Prop where
 o:w.heap[xb]? =some (.cells #[vI (k.n:Nat),vL wb 0 k.ws.length k.ws.length] 98 (0,0))
 ws:w.heap[wb]? =some (.cells ((k.ws.map fun x=>wV x).toArray) 47 (0,0))
 ne:xb≠wb
theorem a0B{cb:Nat}{c:J4}{ok:Bool}{n:Int}(h:F3 w cb c):Calls Tryd.prog 39 #[vP cb 0,.bool ok,vI n] w fun x w'=>x= .returned (.tuple #[])∧B4 w w' cb ({c with done:=true,ok:=ok,n:=n}:J4).o:=by
 have H:Aside (F3 w cb c):=h
 have c5:=(V1 h (j:=5) rfl).1
 have c6:=(V1 h (j:=6) rfl).1
 have c7:=(V1 h (j:=7) rfl).1
 have z5:=(V1 h (j:=5) rfl).2
 have z6:=(V1 h (j:=6) rfl).2
 have z7:=(V1 h (j:=7) rfl).2
 clear h
 go_enter Tryd.func39,Tryd.ntmps39
 go_wp2
 go_end0
 refine⟨rfl,?_⟩
 exact((Y1 (k:=5) H.out).trans (Y1 (k:=6) (Y1 (k:=5) H.out).o)).trans (Y1 (k:=7) (Y1 (k:=6) (Y1 (k:=5) H.out).o).o)
theorem p0g:∃i z,Tryd.prog.info? 47=some i∧i.zero=some z∧i.size=1∧i.bytes=8∧z.cells= #[.int .u64 0]:=by
 obtain⟨i,hi,h⟩:=Option.map_eq_some_iff.1 (show(Tryd.prog.info? 47).map (fun i=>(i.zero.map Value.cells,i.size,i.bytes))=some (some #[.int .u64 0],1,8)by kernel_rfl)
 simp only[Prod.mk.injEq]at h
 obtain⟨z,hz,hc⟩:=Option.map_eq_some_iff.1 h.1
 exact⟨i,z,hi,hz,h.2.1,h.2.2,hc⟩
@[go_sem] theorem z0o{m:Nat}(hm:m≤1024)(w:World):(Instr.makeSlice 96 (vI (m:Nat)) (vI (m:Nat))).run Tryd.prog w= .ok (vL w.heap.size 0 m m) (w.alloc (.cells (madeCells #[.int .u64 0] m) 47)):=by
 obtain⟨i,z,hi,hz,hs,hb,hc⟩:=p0g
 have:=run_make (P:=Tryd.prog) w 96 47 i _ Tryd.underlying96 hi hz .i64 .i64 m m (by omega) (by omega) (by rw[hb];omega) (by omega)
 rw[hs,hc]at this
 simpa using this
theorem y0Q(n:Int)(a:Option Addr)(l c:Nat):Tryd.prog.built 98 [(0,vI n),(1,.slice a l c)]=some #[vI n,.slice a l c]:=by kernel_rfl
@[go_sem] theorem y0M(n:Int)(a:Option Addr)(l c:Nat)(w:World):(Instr.build 98 #[(0,vI n),(1,.slice a l c)]).run Tryd.prog w= .ok (.agg #[vI n,.slice a l c]) w:=run_build w _ _ _ (y0Q n a l c)
theorem y0P(k:Int):Tryd.prog.built 51 [(0,vI k),(2,vI 1)]=some #[vI k,vI 0,vI 1,vI 0,.int .u64 0,.bool false,.bool false,vI 0,.slice none 0 0]:=by kernel_rfl
@[go_sem] theorem y0L(k:Int)(w:World):(Instr.build 51 #[(0,vI k),(2,vI 1)]).run Tryd.prog w= .ok (.agg #[vI k,vI 0,vI 1,vI 0,.int .u64 0,.bool false,.bool false,vI 0,.slice none 0 0]) w:=run_build w _ _ _ (y0P k)
def X8(n:Nat):V0:=⟨n,List.replicate ((n+63) / 64) 0#64⟩
theorem m0L{n:Nat}(hn:n≤65536):Y6 Tryd.prog Tryd.f12 #[vI (n:Nat)] w fun x w'=>x= .tuple #[vP (w.heap.size+1) 0,.bool true]∧RS (w.heap.size+1) w.heap.size (X8 n) w'∧w'.heap.size=w.heap.size+2∧∀r,r<w.heap.size→w'.heap[r]? =w.heap[r]?:=by
 obtain⟨m,hm⟩:∃m,m=(n+63) / 64:=⟨_,rfl⟩
 have hm1:m≤1024:=by omega
 have e0:decide ((n:Int)<0)=false:=decide_eq_false (by omega)
 have e1:decide ((65536:Int)<(n:Int))=false:=decide_eq_false (by omega)
 have e2:decide (65536<n)=false:=decide_eq_false (by omega)
 have w1:IntKind.i64.wrap ((n:Int)+63)=(n:Int)+63:=IntWalk.i64_in _ (by omega)
 have w2:IntKind.i64.wrap (((n:Int)+63).tdiv 64)=(m:Int):=by
  rw[Int.tdiv_eq_ediv_of_nonneg (by omega),IntWalk.i64_in _ (by omega)]
  omega
 have M:Aside (m=(n+63) / 64):=hm
 clear hm
 refine I8 rfl ?_
 simp only[Tryd.ntmps12,List.size_toArray,List.length_cons,List.length_nil,Nat.reduceAdd,Nat.reduceSub,Array.replicate_succ,Array.replicate_zero,List.push_toArray,List.append_toArray,List.nil_append,List.cons_append]
 go_wp2
 go_ret2
 refine⟨_,rfl,rfl,⟨?_,?_,by omega⟩,by simp,fun r hr=>B0y _ _ _ hr⟩
 ·rw[show(X8 n).ws.length=m by rw[M.out];simp[X8]]
  exact B0t _ _ _ _
 ·rw[D0 _ _ (by simp),heap_alloc_new]
  congr 2
  apply Array.toList_inj.1
  rw[toList_madeCells_one]
  simp[X8,wV,M.out]
theorem q0p{n:Nat}(hn:n≤65536):Calls Tryd.prog 12 #[vI (n:Nat)] w fun x w'=>x= .returned (.tuple #[vP (w.heap.size+1) 0,.bool true])∧RS (w.heap.size+1) w.heap.size (X8 n) w'∧w'.heap.size=w.heap.size+2∧∀r,r<w.heap.size→w'.heap[r]? =w.heap[r]?:=
 ((m0L hn).calls Tryd.func12 rfl).mono (by rintro e u ⟨v,rfl,rfl,h⟩;exact⟨rfl,h⟩)
def M6(s:V0)(o:P3):J4:=match(s.begin o).2 with
 | .inl c=>⟨o.kd,c.i,1,c.w,0#64,false,false,0,.slice none 0 0⟩
 | .inr a=>⟨o.kd,0,1,0,0#64,true,a.1,a.2.1,.slice none 0 0⟩
theorem i0Z{xb wb:Nat}{k:V0}{o:P3}(h:RS xb wb k w)(hn:k.n≤65536):Y6 Tryd.prog Tryd.f13 #[vP xb 0,opV o] w fun x w'=>x=vP (w.heap.size+1) 0∧F3 w' (w.heap.size+1) (M6 k o)∧w'.heap.size=w.heap.size+2∧∀r,r<w.heap.size→w'.heap[r]? =w.heap[r]?:=by
 obtain⟨kd,a,b,c⟩:=o
 have c0:=(V1 h.o (j:=0) rfl).1
 have c1:=(V1 h.o (j:=1) rfl).1
 have hxl:xb<w.heap.size:=(Array.getElem?_eq_some_iff.1 h.o).1
 have E:Aside (∀(ok:Bool) (n:Int),Calls Tryd.prog 39 #[vP (w.heap.size+1) 0,.bool ok,vI n] ((w.alloc (.cells #[vI kd,vI a,vI b,vI c] 44)).alloc (.cells #[vI kd,vI 0,vI 1,vI 0,.int .u64 0,.bool false,.bool false,vI 0,.slice none 0 0] 51)) fun x w'=>x= .returned (.tuple #[])∧B4 ((w.alloc (.cells #[vI kd,vI a,vI b,vI c] 44)).alloc (.cells #[vI kd,vI 0,vI 1,vI 0,.int .u64 0,.bool false,.bool false,vI 0,.slice none 0 0] 51)) w' (w.heap.size+1) (⟨kd,0,1,0,0#64,true,ok,n,.slice none 0 0⟩:J4).o):=
  fun ok n=>a0B (c:=⟨kd,0,1,0,0#64,false,false,0,.slice none 0 0⟩) (B0t _ _ _ _)
 have E2:Aside (∀(m:Nat) (ok:Bool) (n:Int),Calls Tryd.prog 39 #[vP (w.heap.size+1) 0,.bool ok,vI n] (((w.alloc (.cells #[vI kd,vI a,vI b,vI c] 44)).alloc (.cells #[vI kd,vI 0,vI 1,vI 0,.int .u64 0,.bool false,.bool false,vI 0,.slice none 0 0] 51)).drewN m) fun x w'=>x= .returned (.tuple #[])∧B4 ((w.alloc (.cells #[vI kd,vI a,vI b,vI c] 44)).alloc (.cells #[vI kd,vI 0,vI 1,vI 0,.int .u64 0,.bool false,.bool false,vI 0,.slice none 0 0] 51)) w' (w.heap.size+1) (⟨kd,0,1,0,0#64,true,ok,n,.slice none 0 0⟩:J4).o):=
  fun m ok n=>(a0B (w:=((w.alloc (.cells #[vI kd,vI a,vI b,vI c] 44)).alloc (.cells #[vI kd,vI 0,vI 1,vI 0,.int .u64 0,.bool false,.bool false,vI 0,.slice none 0 0] 51)).drewN m) (c:=⟨kd,0,1,0,0#64,false,false,0,.slice none 0 0⟩) (B0t _ _ _ _)).mono fun x u h=>⟨h.1,h.2.size,h.2.o,h.2.old⟩
 have F:Aside (∀(ok:Bool) (n:Int) (u:World),(k.begin ⟨kd,a,b,c⟩).2= .inr (ok,n,[])→B4 ((w.alloc (.cells #[vI kd,vI a,vI b,vI c] 44)).alloc (.cells #[vI kd,vI 0,vI 1,vI 0,.int .u64 0,.bool false,.bool false,vI 0,.slice none 0 0] 51)) u (w.heap.size+1) (⟨kd,0,1,0,0#64,true,ok,n,.slice none 0 0⟩:J4).o→F3 u (w.heap.size+1) (M6 k ⟨kd,a,b,c⟩)∧u.heap.size=w.heap.size+2∧∀r,r<w.heap.size→u.heap[r]? =w.heap[r]?):=fun ok n u hb hp=>by
  refine⟨?_,hp.size.trans (d0L _ _ _),fun r hr=>(hp.old r (by omega)).trans (B0y _ _ _ hr)⟩
  unfold M6
  rw[hb]
  exact hp.o
 have hX:Aside (∀m,(((w.alloc (.cells #[vI kd,vI a,vI b,vI c] 44)).alloc (.cells #[vI kd,vI 0,vI 1,vI 0,.int .u64 0,.bool false,.bool false,vI 0,.slice none 0 0] 51)).drewN m).heap[w.heap.size+1]? =some (.cells #[vI kd,vI 0,vI 1,vI 0,.int .u64 0,.bool false,.bool false,vI 0,.slice none 0 0] 51 (0,0))):=fun m=>B0t _ _ _ _
 have hX0:Aside (((w.alloc (.cells #[vI kd,vI a,vI b,vI c] 44)).alloc (.cells #[vI kd,vI 0,vI 1,vI 0,.int .u64 0,.bool false,.bool false,vI 0,.slice none 0 0] 51)).heap[w.heap.size+1]? =some (.cells #[vI kd,vI 0,vI 1,vI 0,.int .u64 0,.bool false,.bool false,vI 0,.slice none 0 0] 51 (0,0))):=B0t _ _ _ _
 have wlen:Aside (k.ws.length=0∨¬((k.ws.length:Int)=0)):=by rcases Nat.eq_zero_or_pos k.ws.length with h|h;exact .inl h;exact .inr (by omega)
 clear h
 simp only[opV]
 by_cases k1:kd=1
 ·subst k1
  by_cases h0:a<0
  ·have B0:(k.begin ⟨1,a,b,c⟩).2= .inr (false,0,[]):=by simp[V0.begin,h0]
   have B:Aside _:=B0
   clear B0
   have e0:decide (a<0)=true:=decide_eq_true h0
   refine I8 rfl ?_
   simp only[Tryd.ntmps13,List.size_toArray,List.length_cons,List.length_nil,Nat.reduceAdd,Nat.reduceSub,Array.replicate_succ,Array.replicate_zero,List.push_toArray,List.append_toArray,List.nil_append,List.cons_append]
   go_wp2
   go_quiet (fail)
   go_wp2_with (go_at_call 39;refine(E2.out _ _ _).mono ?_;rintro e u ⟨rfl,hu⟩;have U:Aside (F3 u (w.heap.size+1) (M6 k ⟨1,a,b,c⟩)∧u.heap.size=w.heap.size+2∧∀r,r<w.heap.size→u.heap[r]? =w.heap[r]?):=F.out _ _ _ B.out hu;clear hu)
   go_ret
   exact⟨_,rfl,rfl,U.out⟩
  by_cases h1:(k.n:Int)≤a
  ·have B0:(k.begin ⟨1,a,b,c⟩).2= .inr (false,0,[]):=by simp[V0.begin,h1]
   have B:Aside _:=B0
   clear B0
   have e0:decide (a<0)=false:=decide_eq_false h0
   have e1:decide ((k.n:Int)≤a)=true:=decide_eq_true h1
   refine I8 rfl ?_
   simp only[Tryd.ntmps13,List.size_toArray,List.length_cons,List.length_nil,Nat.reduceAdd,Nat.reduceSub,Array.replicate_succ,Array.replicate_zero,List.push_toArray,List.append_toArray,List.nil_append,List.cons_append]
   go_wp2
   go_quiet (fail)
   go_wp2_with (go_at_call 39;refine(E2.out _ _ _).mono ?_;rintro e u ⟨rfl,hu⟩;have U:Aside (F3 u (w.heap.size+1) (M6 k ⟨1,a,b,c⟩)∧u.heap.size=w.heap.size+2∧∀r,r<w.heap.size→u.heap[r]? =w.heap[r]?):=F.out _ _ _ B.out hu;clear hu)
   go_ret
   exact⟨_,rfl,rfl,U.out⟩
  obtain⟨q,rfl⟩:∃q:Nat,a=(q:Int):=⟨a.toNat,by omega⟩
  have B0:(k.begin ⟨1,(q:Int),b,c⟩).2= .inl ⟨1,0,q,q / 64,0#64,[]⟩:=by
   have hq:¬k.n≤q:=by omega
   simp[V0.begin,hq]
   rw[if_neg h0]
  have B:Aside _:=B0
  clear B0
  have e0:decide ((q:Int)<0)=false:=decide_eq_false h0
  have e1:decide ((k.n:Int)≤(q:Int))=false:=decide_eq_false h1
  have e3:decide (k.n≤q)=false:=decide_eq_false (by omega)
  have w2:IntKind.i64.wrap ((q:Int).tdiv 64)=((q / 64:Nat):Int):=by
   rw[Int.tdiv_eq_ediv_of_nonneg (by omega),IntWalk.i64_in _ (by omega)]
   omega
  refine I8 rfl ?_
  simp only[Tryd.ntmps13,List.size_toArray,List.length_cons,List.length_nil,Nat.reduceAdd,Nat.reduceSub,Array.replicate_succ,Array.replicate_zero,List.push_toArray,List.append_toArray,List.nil_append,List.cons_append]
  go_wp2
  go_quiet (fail)
  go_wp2
  go_ret
  refine⟨_,rfl,rfl,?_,by simp,fun r hr=>?_⟩
  ·have hp:=((Y1 (k:=1) (v:=vI (q:Nat)) (hX.out 0)).trans (Y1 (k:=3) (v:=vI ((q / 64:Nat):Int)) (Y1 (k:=1) (v:=vI (q:Nat)) (hX.out 0)).o)).o
   unfold M6
   rw[B.out]
   exact hp
  ·rw[I0 _ _ _ (show r≠w.heap.size+1 by omega),I0 _ _ _ (show r≠w.heap.size+1 by omega)]
   exact B0y _ _ _ hr
 by_cases k2:kd=2
 ·subst k2
  by_cases h0:a<0
  ·have B0:(k.begin ⟨2,a,b,c⟩).2= .inr (false,0,[]):=by simp[V0.begin,h0]
   have B:Aside _:=B0
   clear B0
   have e0:decide (a<0)=true:=decide_eq_true h0
   refine I8 rfl ?_
   simp only[Tryd.ntmps13,List.size_toArray,List.length_cons,List.length_nil,Nat.reduceAdd,Nat.reduceSub,Array.replicate_succ,Array.replicate_zero,List.push_toArray,List.append_toArray,List.nil_append,List.cons_append]
   go_wp2
   go_quiet (fail)
   go_wp2_with (go_at_call 39;refine(E2.out _ _ _).mono ?_;rintro e u ⟨rfl,hu⟩;have U:Aside (F3 u (w.heap.size+1) (M6 k ⟨2,a,b,c⟩)∧u.heap.size=w.heap.size+2∧∀r,r<w.heap.size→u.heap[r]? =w.heap[r]?):=F.out _ _ _ B.out hu;clear hu)
   go_ret
   exact⟨_,rfl,rfl,U.out⟩
  by_cases h1:(k.n:Int)≤a
  ·have B0:(k.begin ⟨2,a,b,c⟩).2= .inr (false,0,[]):=by simp[V0.begin,h1]
   have B:Aside _:=B0
   clear B0
   have e0:decide (a<0)=false:=decide_eq_false h0
   have e1:decide ((k.n:Int)≤a)=true:=decide_eq_true h1
   refine I8 rfl ?_
   simp only[Tryd.ntmps13,List.size_toArray,List.length_cons,List.length_nil,Nat.reduceAdd,Nat.reduceSub,Array.replicate_succ,Array.replicate_zero,List.push_toArray,List.append_toArray,List.nil_append,List.cons_append]
   go_wp2
   go_quiet (fail)
   go_wp2_with (go_at_call 39;refine(E2.out _ _ _).mono ?_;rintro e u ⟨rfl,hu⟩;have U:Aside (F3 u (w.heap.size+1) (M6 k ⟨2,a,b,c⟩)∧u.heap.size=w.heap.size+2∧∀r,r<w.heap.size→u.heap[r]? =w.heap[r]?):=F.out _ _ _ B.out hu;clear hu)
   go_ret
   exact⟨_,rfl,rfl,U.out⟩
  obtain⟨q,rfl⟩:∃q:Nat,a=(q:Int):=⟨a.toNat,by omega⟩
  have B0:(k.begin ⟨2,(q:Int),b,c⟩).2= .inl ⟨2,0,q,q / 64,0#64,[]⟩:=by
   have hq:¬k.n≤q:=by omega
   simp[V0.begin,hq]
   rw[if_neg h0]
  have B:Aside _:=B0
  clear B0
  have e0:decide ((q:Int)<0)=false:=decide_eq_false h0
  have e1:decide ((k.n:Int)≤(q:Int))=false:=decide_eq_false h1
  have e3:decide (k.n≤q)=false:=decide_eq_false (by omega)
  have w2:IntKind.i64.wrap ((q:Int).tdiv 64)=((q / 64:Nat):Int):=by
   rw[Int.tdiv_eq_ediv_of_nonneg (by omega),IntWalk.i64_in _ (by omega)]
   omega
  refine I8 rfl ?_
  simp only[Tryd.ntmps13,List.size_toArray,List.length_cons,List.length_nil,Nat.reduceAdd,Nat.reduceSub,Array.replicate_succ,Array.replicate_zero,List.push_toArray,List.append_toArray,List.nil_append,List.cons_append]
  go_wp2
  go_quiet (fail)
  go_wp2
  go_ret
  refine⟨_,rfl,rfl,?_,by simp,fun r hr=>?_⟩
  ·have hp:=((Y1 (k:=1) (v:=vI (q:Nat)) (hX.out 0)).trans (Y1 (k:=3) (v:=vI ((q / 64:Nat):Int)) (Y1 (k:=1) (v:=vI (q:Nat)) (hX.out 0)).o)).o
   unfold M6
   rw[B.out]
   exact hp
  ·rw[I0 _ _ _ (show r≠w.heap.size+1 by omega),I0 _ _ _ (show r≠w.heap.size+1 by omega)]
   exact B0y _ _ _ hr
 by_cases k3:kd=3
 ·subst k3
  by_cases h0:a<0
  ·have B0:(k.begin ⟨3,a,b,c⟩).2= .inr (false,0,[]):=by simp[V0.begin,h0]
   have B:Aside _:=B0
   clear B0
   have e0:decide (a<0)=true:=decide_eq_true h0
   refine I8 rfl ?_
   simp only[Tryd.ntmps13,List.size_toArray,List.length_cons,List.length_nil,Nat.reduceAdd,Nat.reduceSub,Array.replicate_succ,Array.replicate_zero,List.push_toArray,List.append_toArray,List.nil_append,List.cons_append]
   go_wp2
   go_quiet (fail)
   go_wp2_with (go_at_call 39;refine(E2.out _ _ _).mono ?_;rintro e u ⟨rfl,hu⟩;have U:Aside (F3 u (w.heap.size+1) (M6 k ⟨3,a,b,c⟩)∧u.heap.size=w.heap.size+2∧∀r,r<w.heap.size→u.heap[r]? =w.heap[r]?):=F.out _ _ _ B.out hu;clear hu)
   go_ret
   exact⟨_,rfl,rfl,U.out⟩
  by_cases h1:(k.n:Int)≤a
  ·have B0:(k.begin ⟨3,a,b,c⟩).2= .inr (false,0,[]):=by simp[V0.begin,h1]
   have B:Aside _:=B0
   clear B0
   have e0:decide (a<0)=false:=decide_eq_false h0
   have e1:decide ((k.n:Int)≤a)=true:=decide_eq_true h1
   refine I8 rfl ?_
   simp only[Tryd.ntmps13,List.size_toArray,List.length_cons,List.length_nil,Nat.reduceAdd,Nat.reduceSub,Array.replicate_succ,Array.replicate_zero,List.push_toArray,List.append_toArray,List.nil_append,List.cons_append]
   go_wp2
   go_quiet (fail)
   go_wp2_with (go_at_call 39;refine(E2.out _ _ _).mono ?_;rintro e u ⟨rfl,hu⟩;have U:Aside (F3 u (w.heap.size+1) (M6 k ⟨3,a,b,c⟩)∧u.heap.size=w.heap.size+2∧∀r,r<w.heap.size→u.heap[r]? =w.heap[r]?):=F.out _ _ _ B.out hu;clear hu)
   go_ret
   exact⟨_,rfl,rfl,U.out⟩
  obtain⟨q,rfl⟩:∃q:Nat,a=(q:Int):=⟨a.toNat,by omega⟩
  have B0:(k.begin ⟨3,(q:Int),b,c⟩).2= .inl ⟨3,0,q,q / 64,0#64,[]⟩:=by
   have hq:¬k.n≤q:=by omega
   simp[V0.begin,hq]
   rw[if_neg h0]
  have B:Aside _:=B0
  clear B0
  have e0:decide ((q:Int)<0)=false:=decide_eq_false h0
  have e1:decide ((k.n:Int)≤(q:Int))=false:=decide_eq_false h1
  have e3:decide (k.n≤q)=false:=decide_eq_false (by omega)
  have w2:IntKind.i64.wrap ((q:Int).tdiv 64)=((q / 64:Nat):Int):=by
   rw[Int.tdiv_eq_ediv_of_nonneg (by omega),IntWalk.i64_in _ (by omega)]
   omega
  refine I8 rfl ?_
  simp only[Tryd.ntmps13,List.size_toArray,List.length_cons,List.length_nil,Nat.reduceAdd,Nat.reduceSub,Array.replicate_succ,Array.replicate_zero,List.push_toArray,List.append_toArray,List.nil_append,List.cons_append]
  go_wp2
  go_quiet (fail)
  go_wp2
  go_ret
  refine⟨_,rfl,rfl,?_,by simp,fun r hr=>?_⟩
  ·have hp:=((Y1 (k:=1) (v:=vI (q:Nat)) (hX.out 0)).trans (Y1 (k:=3) (v:=vI ((q / 64:Nat):Int)) (Y1 (k:=1) (v:=vI (q:Nat)) (hX.out 0)).o)).o
   unfold M6
   rw[B.out]
   exact hp
  ·rw[I0 _ _ _ (show r≠w.heap.size+1 by omega),I0 _ _ _ (show r≠w.heap.size+1 by omega)]
   exact B0y _ _ _ hr
 by_cases k4:kd=4
 ·subst k4
  rcases wlen.out with h0|h0
  ·have B0:(k.begin ⟨4,a,b,c⟩).2= .inr (false,0,[]):=by simp[V0.begin,h0]
   have B:Aside _:=B0
   clear B0
   rw[h0]at c1
   refine I8 rfl ?_
   simp only[Tryd.ntmps13,List.size_toArray,List.length_cons,List.length_nil,Nat.reduceAdd,Nat.reduceSub,Array.replicate_succ,Array.replicate_zero,List.push_toArray,List.append_toArray,List.nil_append,List.cons_append]
   go_wp2_with (go_at_call 39;refine(E.out _ _).mono ?_;rintro e u ⟨rfl,hu⟩;have U:Aside (F3 u (w.heap.size+1) (M6 k ⟨4,a,b,c⟩)∧u.heap.size=w.heap.size+2∧∀r,r<w.heap.size→u.heap[r]? =w.heap[r]?):=F.out _ _ _ B.out hu;clear hu)
   go_ret
   exact⟨_,rfl,rfl,U.out⟩
  ·have hq:¬k.ws.length=0:=by omega
   have B0:(k.begin ⟨4,a,b,c⟩).2= .inl ⟨4,0,0,0,0#64,[]⟩:=by simp[V0.begin,hq]
   have B:Aside _:=B0
   clear B0
   have e0:((k.ws.length:Int) == 0)=false:=beq_eq_false_iff_ne.2 h0
   refine I8 rfl ?_
   simp only[Tryd.ntmps13,List.size_toArray,List.length_cons,List.length_nil,Nat.reduceAdd,Nat.reduceSub,Array.replicate_succ,Array.replicate_zero,List.push_toArray,List.append_toArray,List.nil_append,List.cons_append]
   go_wp2
   go_ret
   refine⟨_,rfl,rfl,?_,by simp,fun r hr=>B0y _ _ _ hr⟩
   unfold M6
   rw[B.out]
   exact hX0.out
 by_cases k5:kd=5
 ·subst k5
  rcases wlen.out with h0|h0
  ·have B0:(k.begin ⟨5,a,b,c⟩).2= .inr (true,0,[]):=by simp[V0.begin,h0]
   have B:Aside _:=B0
   clear B0
   rw[h0]at c1
   refine I8 rfl ?_
   simp only[Tryd.ntmps13,List.size_toArray,List.length_cons,List.length_nil,Nat.reduceAdd,Nat.reduceSub,Array.replicate_succ,Array.replicate_zero,List.push_toArray,List.append_toArray,List.nil_append,List.cons_append]
   go_wp2_with (go_at_call 39;refine(E.out _ _).mono ?_;rintro e u ⟨rfl,hu⟩;have U:Aside (F3 u (w.heap.size+1) (M6 k ⟨5,a,b,c⟩)∧u.heap.size=w.heap.size+2∧∀r,r<w.heap.size→u.heap[r]? =w.heap[r]?):=F.out _ _ _ B.out hu;clear hu)
   go_ret
   exact⟨_,rfl,rfl,U.out⟩
  ·have hq:¬k.ws.length=0:=by omega
   have B0:(k.begin ⟨5,a,b,c⟩).2= .inl ⟨5,0,0,0,0#64,[]⟩:=by simp[V0.begin,hq]
   have B:Aside _:=B0
   clear B0
   have e0:((k.ws.length:Int) == 0)=false:=beq_eq_false_iff_ne.2 h0
   refine I8 rfl ?_
   simp only[Tryd.ntmps13,List.size_toArray,List.length_cons,List.length_nil,Nat.reduceAdd,Nat.reduceSub,Array.replicate_succ,Array.replicate_zero,List.push_toArray,List.append_toArray,List.nil_append,List.cons_append]
   go_wp2
   go_ret
   refine⟨_,rfl,rfl,?_,by simp,fun r hr=>B0y _ _ _ hr⟩
   unfold M6
   rw[B.out]
   exact hX0.out
 by_cases k6:kd=6
 ·subst k6
  rcases wlen.out with h0|h0
  ·have B0:(k.begin ⟨6,a,b,c⟩).2= .inr (true,0,[]):=by simp[V0.begin,h0]
   have B:Aside _:=B0
   clear B0
   rw[h0]at c1
   refine I8 rfl ?_
   simp only[Tryd.ntmps13,List.size_toArray,List.length_cons,List.length_nil,Nat.reduceAdd,Nat.reduceSub,Array.replicate_succ,Array.replicate_zero,List.push_toArray,List.append_toArray,List.nil_append,List.cons_append]
   go_wp2_with (go_at_call 39;refine(E.out _ _).mono ?_;rintro e u ⟨rfl,hu⟩;have U:Aside (F3 u (w.heap.size+1) (M6 k ⟨6,a,b,c⟩)∧u.heap.size=w.heap.size+2∧∀r,r<w.heap.size→u.heap[r]? =w.heap[r]?):=F.out _ _ _ B.out hu;clear hu)
   go_ret
   exact⟨_,rfl,rfl,U.out⟩
  ·have hq:¬k.ws.length=0:=by omega
   have B0:(k.begin ⟨6,a,b,c⟩).2= .inl ⟨6,0,0,0,0#64,[]⟩:=by simp[V0.begin,hq]
   have B:Aside _:=B0
   clear B0
   have e0:((k.ws.length:Int) == 0)=false:=beq_eq_false_iff_ne.2 h0
   refine I8 rfl ?_
   simp only[Tryd.ntmps13,List.size_toArray,List.length_cons,List.length_nil,Nat.reduceAdd,Nat.reduceSub,Array.replicate_succ,Array.replicate_zero,List.push_toArray,List.append_toArray,List.nil_append,List.cons_append]
   go_wp2
   go_ret
   refine⟨_,rfl,rfl,?_,by simp,fun r hr=>B0y _ _ _ hr⟩
   unfold M6
   rw[B.out]
   exact hX0.out
 have B0:(k.begin ⟨kd,a,b,c⟩).2= .inr (false,0,[]):=by simp[V0.begin,k1,k2,k3,k4,k5,k6]
 have B:Aside _:=B0
 clear B0
 have q1:(kd == 1)=false:=beq_eq_false_iff_ne.2 k1
 have q2:(kd == 2)=false:=beq_eq_false_iff_ne.2 k2
 have q3:(kd == 3)=false:=beq_eq_false_iff_ne.2 k3
 have q4:(kd == 4)=false:=beq_eq_false_iff_ne.2 k4
 have q5:(kd == 5)=false:=beq_eq_false_iff_ne.2 k5
 have q6:(kd == 6)=false:=beq_eq_false_iff_ne.2 k6
 refine I8 rfl ?_
 simp only[Tryd.ntmps13,List.size_toArray,List.length_cons,List.length_nil,Nat.reduceAdd,Nat.reduceSub,Array.replicate_succ,Array.replicate_zero,List.push_toArray,List.append_toArray,List.nil_append,List.cons_append]
 go_wp2_with (go_at_call 39;refine(E.out _ _).mono ?_;rintro e u ⟨rfl,hu⟩;have U:Aside (F3 u (w.heap.size+1) (M6 k ⟨kd,a,b,c⟩)∧u.heap.size=w.heap.size+2∧∀r,r<w.heap.size→u.heap[r]? =w.heap[r]?):=F.out _ _ _ B.out hu;clear hu)
 go_ret
 exact⟨_,rfl,rfl,U.out⟩
theorem l0n{xb wb:Nat}{k:V0}{o:P3}(h:RS xb wb k w)(hn:k.n≤65536):Calls Tryd.prog 13 #[vP xb 0,opV o] w fun x w'=>x= .returned (vP (w.heap.size+1) 0)∧F3 w' (w.heap.size+1) (M6 k o)∧w'.heap.size=w.heap.size+2∧∀r,r<w.heap.size→w'.heap[r]? =w.heap[r]?:=
 ((i0Z h hn).calls Tryd.func13 rfl).mono (by rintro e u ⟨v,rfl,rfl,h⟩;exact⟨rfl,h⟩)
end
section
variable{w w':World}
theorem n0E(i:Nat):IntKind.u64.wrap (2 ^ (i % 64))=((bitI i).toNat:Int):=by
 have:=e0e (i % 64)
 rw[Int.one_mul]at this
 exact this
theorem O6(i:Nat):Calls Tryd.prog 56 #[vI (i:Nat)] w fun x w'=>x= .returned (wV (bitI i))∧w'=w:=by
 have h1:((i:Int).tmod 64)=((i % 64:Nat):Int):=by rw[Int.tmod_eq_emod_of_nonneg (by omega)];omega
 have h2:IntKind.u64.wrap ((i % 64:Nat):Int)=((i % 64:Nat):Int):=by rw[IntKind.wrap_u64];omega
 have h3:=n0E i
 go_enter Tryd.func56,Tryd.ntmps56
 go_wp2
 go_ret
 exact⟨congrArg (fun z=>Ending.returned (Value.int .u64 z)) h3,rfl⟩
theorem b0O(x:BitVec 64)(i:Nat):(bits .and .u64 (x.toNat:Int) ((bitI i).toNat:Int) == 0)= !x.getLsbD (i % 64):=by
 have:=b0s x i
 rw[← this]
 simp[bne]
theorem q0Z{n w k:Nat}{x:BitVec 64}(hk:k<64)(hn:w*64+k<n)(hb:x.getLsbD k=false)(hl:∀j,j<k→w*64+j<n→x.getLsbD j=true):G4 n w x=some k:=by
 unfold G4
 rw[List.find?_range_eq_some]
 refine⟨by simp[hn,hb],List.mem_range.2 hk,fun j hj=>?_⟩
 by_cases h:w*64+j<n
 ·simp[hl j hj h]
 ·simp[h]
theorem l0w{n w:Nat}{x:BitVec 64}(hl:∀j,j<64→w*64+j<n→x.getLsbD j=true):G4 n w x=none:=by
 unfold G4
 rw[List.find?_eq_none]
 intro j hj
 have hj:=List.mem_range.1 hj
 by_cases h:w*64+j<n
 ·simp[hl j hj h]
 ·simp[h]
def d04(n w:Nat)(x:BitVec 64):Value:=match G4 n w x with
 | some j=>.tuple #[.int .i64 ((w*64+j:Nat):Int),.bool true]
 | none=>.tuple #[.int .i64 0,.bool false]
theorem c0H{xb wb:Nat}{k:V0}(h:RS xb wb k w)(hn:k.n≤65536)(wd:Nat)(hw:wd≤2000)(x:BitVec 64):Calls Tryd.prog 58 #[vP xb 0,vI (wd:Nat),wV x] w fun y w'=>y= .returned (d04 k.n wd x)∧w'=w:=by
 have H:Aside (RS xb wb k w):=h
 have c0:=(V1 h.o (j:=0) rfl).1
 clear h
 have w1:IntKind.i64.wrap ((wd:Int)*64)=((wd*64:Nat):Int):=by rw[IntWalk.i64_in _ (by omega)];omega
 have w2:IntKind.i64.wrap (((wd*64:Nat):Int)+64)=((wd*64+64:Nat):Int):=by rw[IntWalk.i64_in _ (by omega)];omega
 go_enter Tryd.func58,Tryd.ntmps58
 go_wp2
 go_loopg [8] 65 (fun g i u=>∃j:Nat,j≤64∧(∀q,q<j→wd*64+q<k.n→x.getLsbD q=true)∧i=vI ((wd*64+j:Nat):Int)∧g=65 - j∧u=w)
 case atStart=>exact⟨0,Nat.zero_le _,fun q hq=>by omega,rfl,rfl,rfl⟩
 case round=>
  obtain⟨j,hj,hl0,rfl,rfl,rfl⟩:=hrel
  have L:Aside (∀q,q<j→wd*64+q<k.n→x.getLsbD q=true):=hl0
  clear hl0
  have e0:IntKind.i64.wrap (((wd*64+j:Nat):Int)+1)=((wd*64+(j+1):Nat):Int):=by rw[IntWalk.i64_in _ (by omega)];omega
  by_cases hj2:j<64
  ·have d0:decide (((wd*64+j:Nat):Int)<((wd*64+64:Nat):Int))=true:=decide_eq_true (by omega)
   have d0':decide (wd*64+j<wd*64+64)=true:=decide_eq_true (by omega)
   by_cases hlt:wd*64+j<k.n
   ·have d1:decide (((wd*64+j:Nat):Int)<(k.n:Int))=true:=decide_eq_true (by omega)
    have d1':decide (wd*64+j<k.n)=true:=decide_eq_true (by omega)
    have hm:(wd*64+j) % 64=j:=by omega
    have B:Aside (Calls Tryd.prog 56 #[vI ((wd*64+j:Nat):Int)] wr fun y w'=>y= .returned (wV (bitI (wd*64+j)))∧w'=wr):=O6 _
    cases hb:x.getLsbD j with
    | false=>
      have hx:(bits .and .u64 (x.toNat:Int) ((bitI (wd*64+j)).toNat:Int) == 0)=true:=by rw[b0O,hm,hb];rfl
      have FA:Aside (G4 k.n wd x=some j):=q0Z hj2 hlt hb L.out
      go_wp2_with (go_at_call 56;refine B.out.mono ?_;rintro e u ⟨rfl,hu⟩;subst hu)
      go_ret2
      refine⟨?_,rfl⟩
      unfold d04
      rw[FA.out]
      have e:((wd*64+j:Nat):Int)=(wd:Int)*64+(j:Int):=by omega
      simp only[e]
      rfl
    | true=>
      have hx:(bits .and .u64 (x.toNat:Int) ((bitI (wd*64+j)).toNat:Int) == 0)=false:=by rw[b0O,hm,hb];rfl
      have L2:Aside (∀q,q<j+1→wd*64+q<k.n→x.getLsbD q=true):=by
       have:∀q,q<j+1→wd*64+q<k.n→x.getLsbD q=true:=fun q hq h=>by
        by_cases e:q=j
        ·subst e;exact hb
        ·exact L.out q (by omega) h
       exact this
      go_wp2_with (go_at_call 56;refine B.out.mono ?_;rintro e u ⟨rfl,hu⟩;subst hu)
      go_roundg (65 - (j+1))
      case measure=>omega
      case rel=>exact⟨j+1,by omega,L2.out,rfl,rfl,rfl⟩
   ·have d1:decide (((wd*64+j:Nat):Int)<(k.n:Int))=false:=decide_eq_false (by omega)
    have d1':decide (wd*64+j<k.n)=false:=decide_eq_false (by omega)
    have FN:Aside (G4 k.n wd x=none):=l0w fun q hq h=>L.out q (by omega) h
    go_wp2
    go_ret2
    refine⟨?_,rfl⟩
    unfold d04
    rw[FN.out]
    rfl
  ·have d0:decide (((wd*64+j:Nat):Int)<((wd*64+64:Nat):Int))=false:=decide_eq_false (by omega)
   have d0':decide (wd*64+j<wd*64+64)=false:=decide_eq_false (by omega)
   have FN:Aside (G4 k.n wd x=none):=l0w fun q hq h=>L.out q (by omega) h
   go_wp2
   go_ret2
   refine⟨?_,rfl⟩
   unfold d04
   rw[FN.out]
   rfl
end
section
variable{w w':World}
theorem RS.word{xb wb:Nat}{k:V0}(h:RS xb wb k w){i:Nat}(hi:i<k.ws.length):w.cell? ⟨wb,i,none⟩=some (wV (k.wd i))∧w.frozen? ⟨wb,i,none⟩=false:=by
 have:=V1 h.ws (j:=i) (v:=wV (k.wd i)) (by simp[V0.wd,List.getD_eq_getElem?_getD,hi])
 exact this
theorem RS.same{xb wb:Nat}{k:V0}(h:RS xb wb k w)(h1:w'.heap[xb]? =w.heap[xb]?)(h2:w'.heap[wb]? =w.heap[wb]?):RS xb wb k w':=⟨h1.trans h.o,h2.trans h.ws,h.ne⟩
theorem RS.set{xb wb:Nat}{k:V0}(h:RS xb wb k w)(i:Nat)(x:BitVec 64):RS xb wb {k with ws:=k.ws.set i x} (w.setCell ⟨wb,i,none⟩ (wV x)):=by
 refine⟨?_,?_,h.ne⟩
 ·rw[I0 _ _ _ (fun e=>h.ne e),h.o]
  simp
 ·rw[U1 (o:=i) h.ws]
  congr 2
  simp[List.map_set]
structure RP(w w':World)(xb wb cb:Nat)(k:V0)(c:J4):Prop where
 s:RS xb wb k w'
 c:F3 w' cb c
 sz:w'.heap.size=w.heap.size
 o:∀r,r≠cb→r≠wb→w'.heap[r]? =w.heap[r]?
theorem r0r{cb:Nat}{c:J4}(h:F3 w cb c)(p:Int):F3 (w.setCell ⟨cb,2,none⟩ (vI p)) cb {c with ph:=p}:=U1 (o:=2) h _
theorem x0D{x y:BitVec 64}(h:x≠y):((x.toNat:Int) == (y.toNat:Int))=false∧(x.toNat == y.toNat)=false∧(x == y)=false:=by
 have:x.toNat≠y.toNat:=fun e=>h (BitVec.eq_of_toNat_eq e)
 refine⟨?_,?_,?_⟩
 ·simp;omega
 ·simp[this]
 ·simp[h]
def SwR(w w':World)(xb wb cb:Nat)(k:V0)(wd:Nat)(old next:BitVec 64)(c1 c2:J4):Prop:=
 if k.wd wd=old then RP w w' xb wb cb {k with ws:=k.ws.set wd next} c1 else RP w w' xb wb cb k c2
theorem SwR.base{w u w':World}{xb wb cb:Nat}{k:V0}{wd:Nat}{old next:BitVec 64}{c1 c2:J4}(h:SwR w w' xb wb cb k wd old next c1 c2)(e:w.heap=u.heap):SwR u w' xb wb cb k wd old next c1 c2:=by
 unfold SwR at h ⊢
 split at h
 ·rename_i he;rw[if_pos he];exact⟨h.s,h.c,by rw[← e];exact h.sz,by rw[← e];exact h.o⟩
 ·rename_i he;rw[if_neg he];exact⟨h.s,h.c,by rw[← e];exact h.sz,by rw[← e];exact h.o⟩
theorem i0i{xb wb cb:Nat}{k:V0}{rc:J4}(h:RS xb wb k w)(hc:F3 w cb rc)(hne:cb≠wb)(hne2:cb≠xb){wd:Nat}(hw:rc.w=(wd:Int))(hl:wd<k.ws.length)(hl2:k.ws.length≤1024)(next:BitVec 64)(n:Int):
 Calls Tryd.prog 59 #[vP xb 0,vP cb 0,wV next,vI n] w fun y w'=>y= .returned (.tuple #[])∧
  SwR w w' xb wb cb k wd rc.old next {rc with done:=true,ok:=true,n:=n} {rc with ph:=1}:=by
 obtain⟨rkd,ri,rph,rw,rold,rdone,rok,rn,rl⟩:=rc
 simp only at hw
 subst hw
 have H:Aside (RS xb wb k w∧F3 w cb ⟨rkd,ri,rph,(wd:Int),rold,rdone,rok,rn,rl⟩):=⟨h,hc⟩
 have c1:=(V1 h.o (j:=1) rfl).1
 have c3:=(V1 hc (j:=3) rfl).1
 have c4:=(V1 hc (j:=4) rfl).1
 have c2:=(V1 hc (j:=2) rfl).1
 have z2:=(V1 hc (j:=2) rfl).2
 obtain⟨cw,zw⟩:=h.word hl
 have hl3:(wd:Int)<(k.ws.length:Int):=by omega
 have hwb:Aside (wb≠xb∧cb≠wb∧cb≠xb):=⟨fun e=>h.ne e.symm,hne,hne2⟩
 clear h hc
 by_cases he:k.wd wd=rold
 ·rw[he]at cw
  have e1:((rold.toNat:Int) != (rold.toNat:Int))=false:=by simp
  go_enter Tryd.func59,Tryd.ntmps59
  go_wp2
  go_quiet (fail)
  rename_i nq
  go_wp2
  have E39:Aside (∀(u:World),F3 u cb ⟨rkd,ri,rph,(wd:Int),rold,rdone,rok,rn,rl⟩→Calls Tryd.prog 39 #[vP cb 0,.bool true,vI n] u fun x w'=>x= .returned (.tuple #[])∧B4 u w' cb ({(⟨rkd,ri,rph,(wd:Int),rold,rdone,rok,rn,rl⟩:J4)with done:=true,ok:=true,n:=n}:J4).o):=fun u hu=>a0B hu
  have H2:Aside (F3 (((w.drewN nq).setCell ⟨wb,wd,none⟩ (wV next)).drew) cb ⟨rkd,ri,rph,(wd:Int),rold,rdone,rok,rn,rl⟩):=(I0 _ _ _ hne).trans H.out.2
  have f1:(w.drewN nq).cell? ⟨xb,1,none⟩=some (vL wb 0 k.ws.length k.ws.length):=c1
  have f2:(w.drewN nq).cell? ⟨cb,3,none⟩=some (vI (wd:Nat)):=c3
  have f3:(w.drewN nq).cell? ⟨wb,wd,none⟩=some (wV rold):=cw
  have f4:(w.drewN nq).frozen? ⟨wb,wd,none⟩=false:=zw
  have HW:Aside ((w.drewN nq).heap=w.heap):=by exact(rfl:(w.drewN nq).heap=w.heap)
  generalize w.drewN nq=W at f1 f2 f3 f4 H2 HW ⊢
  go_still_tail 10,(by kernel_rfl)
  change wpList _ _ _ _ _ W.drew
  go_wp2_with (go_at_call 39;refine(E39.out _ H2.out).mono ?_;rintro e u ⟨rfl,hu⟩;have U:Aside _:=hu;clear hu)
  go_end0
  refine⟨rfl,?_⟩
  unfold SwR
  rw[if_pos he]
  have hs:=H.out.1.set wd next
  have ho:∀r,r≠cb→u.heap[r]? =(W.setCell ⟨wb,wd,none⟩ (wV next)).heap[r]?:=U.out.old
  have hx:∀r,(W.setCell ⟨wb,wd,none⟩ (wV next)).heap[r]? =(w.setCell ⟨wb,wd,none⟩ (wV next)).heap[r]?:=fun r=>by
   by_cases e:r=wb
   ·subst e
    rw[U1 (o:=wd) (H.out.1.ws),U1 (o:=wd) (show W.heap[r]? =_ by rw[HW.out];exact H.out.1.ws)]
   ·rw[I0 _ _ _ e,I0 _ _ _ e,HW.out]
  refine⟨hs.same ((ho _ hwb.out.2.2.symm).trans (hx _)) ((ho _ hwb.out.2.1.symm).trans (hx _)),U.out.o,?_,fun r h1 h2=>((ho r h1).trans (hx r)).trans (I0 _ _ _ h2)⟩
  rw[U.out.size]
  show(W.setCell ⟨wb,wd,none⟩ (wV next)).heap.size=_
  rw[World.size_setCell,HW.out]
 ·obtain⟨e1,e2,e3⟩:=x0D he
  have e4:(((k.wd wd).toNat:Int) != (rold.toNat:Int))=true:=by simp[bne,e1]
  go_enter Tryd.func59,Tryd.ntmps59
  go_wp2
  go_quiet (fail)
  go_wp2
  refine bodyPost_ret (v:=.tuple #[]) (by simp[results,Tryd.f59,go_sem]) rfl ⟨rfl,?_⟩
  unfold SwR
  rw[if_neg he]
  exact⟨H.out.1.same (I0 _ _ _ (fun e=>hne2 e.symm)) (I0 _ _ _ (fun e=>hne e.symm)),r0r H.out.2 1,by rw[World.size_setCell];rfl,fun r h1 h2=>I0 _ _ _ h1⟩
end
section
variable{w w':World}
theorem RP.of{w W u:World}{xb wb cb:Nat}{k:V0}{c:J4}(h:RS xb wb k w)(hs:W.heap.size=w.heap.size)(ho:∀r,r≠cb→W.heap[r]? =w.heap[r]?)(h2:cb≠wb)(h3:cb≠xb)(hc:F3 W cb c):RP w W xb wb cb k c:=
 ⟨h.same (ho _ h3.symm) (ho _ h2.symm),hc,hs,fun r h1 _=>ho r h1⟩
theorem c0e(x:BitVec 64)(i:Nat)(b:Bool)(h:x.getLsbD (i % 64)=b):(bits .and .u64 (x.toNat:Int) ((bitI i).toNat:Int) != 0)=b:=(b0s x i).trans h
theorem z0p{P:Program}{ops:Array Oper}{o:Oper}{a:Act}{w:World}{K:Act→World→Prop}{Q:Exit→Act→World→Prop}{E:Prop}(hg:o.guard=none)(f:FuncId)(args:Array Value)(v:Value)
 (hr:(execOp a.eval o).run P w= .ok (.enter f args) w) {R:World→Prop} (hC:Calls P f args w fun e w'=>e= .returned v∧R w') (hK:∀w',R w'→K (a.put o.dst v) w'):
 if Region.wanted o (yielded ops a.tmps)=true then Oper.wp P o a w K Q else E:=by
 have hw:Region.wanted o (yielded ops a.tmps)=true:=by simp[Region.wanted,hg]
 rw[if_pos hw]
 unfold Oper.wp
 rw[hr,Oper.upon_enter]
 exact hC.mono fun e w' ⟨h1,h2⟩=>by subst h1;exact hK w' h2
theorem callable56:O1 56:=G2 Tryd.func56 rfl rfl
theorem callable59:O1 59:=G2 Tryd.func59 rfl rfl
theorem v0F{xb wb cb i:Nat}{k:V0}{rold:BitVec 64}{rdone rok:Bool}{rn:Int}{rl:Value}(h:RS xb wb k w)(hc:F3 w cb ⟨3,(i:Int),1,((i / 64:Nat):Int),rold,rdone,rok,rn,rl⟩)(hne:cb≠wb)(hne2:cb≠xb)(hl:i / 64<k.ws.length)(hl2:k.ws.length≤1024)(hb:(k.wd (i / 64)).getLsbD (i % 64)=true):
 Calls Tryd.prog 42 #[vP xb 0,vP cb 0] w fun y w'=>y= .returned (.tuple #[])∧RP w w' xb wb cb k ({(⟨3,(i:Int),1,((i / 64:Nat):Int),rold,rdone,rok,rn,rl⟩:J4)with old:=k.wd (i / 64),done:=true,ok:=true,n:=1}:J4):=by
 have H:Aside (RS xb wb k w∧F3 w cb ⟨3,(i:Int),1,((i / 64:Nat):Int),rold,rdone,rok,rn,rl⟩):=⟨h,hc⟩
 have c1:=(V1 h.o (j:=1) rfl).1
 have c2:=(V1 hc (j:=2) rfl).1
 have c3:=(V1 hc (j:=3) rfl).1
 have c4:=(V1 hc (j:=4) rfl).1
 have z4:=(V1 hc (j:=4) rfl).2
 obtain⟨cw,zw⟩:=h.word hl
 generalize hwd:i / 64=wd at*
 have hl3:(wd:Int)<(k.ws.length:Int):=by omega
 have hwb:Aside (cb≠wb∧cb≠xb):=⟨hne,hne2⟩
 have hx:Aside ((bits .and .u64 ((k.wd wd).toNat:Int) ((bitI i).toNat:Int) != 0)=true):=c0e _ _ _ hb
 clear h hc hb hwd
 go_enter Tryd.func42,Tryd.ntmps42
 go_wp2
 go_still_tail 13,(by kernel_rfl)
 change wpList _ _ _ _ _ w.drew
 go_wp2
 have q:=Y1 (w:=w) (k:=4) (v:=wV (k.wd wd)) H.out.2
 have P:Aside (B4 w ((w.setCell ⟨cb,4,none⟩ (wV (k.wd wd))).drew) cb (⟨3,(i:Int),1,(wd:Int),k.wd wd,rdone,rok,rn,rl⟩:J4).o):=⟨q.size,q.o,q.old⟩
 clear q
 generalize (w.setCell ⟨cb,4,none⟩ (wV (k.wd wd))).drew=W at P ⊢
 have d0:=(V1 P.out.o (j:=0) rfl).1
 have d1:=(V1 P.out.o (j:=1) rfl).1
 have d2:=(V1 P.out.o (j:=2) rfl).1
 have d4:=(V1 P.out.o (j:=4) rfl).1
 have y2:=(V1 P.out.o (j:=2) rfl).2
 have hx2:=hx.out
 clear c1 c2 c3 c4 z4 cw zw
 go_quiet ((go_at_call 56;exact Calls.quiet_of_same (O6 i)))
 rename_i nq
 have P2:Aside (B4 w (W.drewN nq) cb (⟨3,(i:Int),1,(wd:Int),k.wd wd,rdone,rok,rn,rl⟩:J4).o):=⟨P.out.size,P.out.o,P.out.old⟩
 have E39:Aside (∀u:World,u.heap=W.heap→Calls Tryd.prog 39 #[vP cb 0,.bool true,vI 1] u fun x w'=>x= .returned (.tuple #[])∧B4 u w' cb ({(⟨3,(i:Int),1,(wd:Int),k.wd wd,rdone,rok,rn,rl⟩:J4)with done:=true,ok:=true,n:=1}:J4).o):=by
  have:∀u:World,u.heap=W.heap→Calls Tryd.prog 39 #[vP cb 0,.bool true,vI 1] u fun x w'=>x= .returned (.tuple #[])∧B4 u w' cb ({(⟨3,(i:Int),1,(wd:Int),k.wd wd,rdone,rok,rn,rl⟩:J4)with done:=true,ok:=true,n:=1}:J4).o:=fun u hu=>a0B (c:=⟨3,(i:Int),1,(wd:Int),k.wd wd,rdone,rok,rn,rl⟩) (by show u.heap[cb]? =_;rw[hu];exact P.out.o)
  exact this
 go_wp2_with (go_at_call 39;refine(E39.out _ (by rfl)).mono ?_;rintro e u ⟨rfl,hu⟩;have U:Aside (B4 W u cb _):=⟨hu.size,hu.o,hu.old⟩;clear hu)
 go_end0
 refine⟨rfl,?_⟩
 exact RP.of (u:=w) H.out.1 (U.out.size.trans P.out.size) (fun r hr=>(U.out.old r hr).trans (P.out.old r hr)) hwb.out.1 hwb.out.2 U.out.o
theorem v0E{xb wb cb i:Nat}{k:V0}{rold:BitVec 64}{rdone rok:Bool}{rn:Int}{rl:Value}(h:RS xb wb k w)(hc:F3 w cb ⟨3,(i:Int),1,((i / 64:Nat):Int),rold,rdone,rok,rn,rl⟩)(hne:cb≠wb)(hne2:cb≠xb)(hl:i / 64<k.ws.length)(hl2:k.ws.length≤1024)(hb:(k.wd (i / 64)).getLsbD (i % 64)=false):
 Calls Tryd.prog 42 #[vP xb 0,vP cb 0] w fun y w'=>y= .returned (.tuple #[])∧RP w w' xb wb cb k ({(⟨3,(i:Int),1,((i / 64:Nat):Int),rold,rdone,rok,rn,rl⟩:J4)with old:=k.wd (i / 64),done:=true,ok:=true,n:=0}:J4):=by
 have H:Aside (RS xb wb k w∧F3 w cb ⟨3,(i:Int),1,((i / 64:Nat):Int),rold,rdone,rok,rn,rl⟩):=⟨h,hc⟩
 have c1:=(V1 h.o (j:=1) rfl).1
 have c2:=(V1 hc (j:=2) rfl).1
 have c3:=(V1 hc (j:=3) rfl).1
 have c4:=(V1 hc (j:=4) rfl).1
 have z4:=(V1 hc (j:=4) rfl).2
 obtain⟨cw,zw⟩:=h.word hl
 generalize hwd:i / 64=wd at*
 have hl3:(wd:Int)<(k.ws.length:Int):=by omega
 have hwb:Aside (cb≠wb∧cb≠xb):=⟨hne,hne2⟩
 have hx:Aside ((bits .and .u64 ((k.wd wd).toNat:Int) ((bitI i).toNat:Int) != 0)=false):=c0e _ _ _ hb
 clear h hc hb hwd
 go_enter Tryd.func42,Tryd.ntmps42
 go_wp2
 go_still_tail 13,(by kernel_rfl)
 change wpList _ _ _ _ _ w.drew
 go_wp2
 have q:=Y1 (w:=w) (k:=4) (v:=wV (k.wd wd)) H.out.2
 have P:Aside (B4 w ((w.setCell ⟨cb,4,none⟩ (wV (k.wd wd))).drew) cb (⟨3,(i:Int),1,(wd:Int),k.wd wd,rdone,rok,rn,rl⟩:J4).o):=⟨q.size,q.o,q.old⟩
 clear q
 generalize (w.setCell ⟨cb,4,none⟩ (wV (k.wd wd))).drew=W at P ⊢
 have d0:=(V1 P.out.o (j:=0) rfl).1
 have d1:=(V1 P.out.o (j:=1) rfl).1
 have d2:=(V1 P.out.o (j:=2) rfl).1
 have d4:=(V1 P.out.o (j:=4) rfl).1
 have y2:=(V1 P.out.o (j:=2) rfl).2
 have hx2:=hx.out
 clear c1 c2 c3 c4 z4 cw zw
 go_quiet ((go_at_call 56;exact Calls.quiet_of_same (O6 i)))
 rename_i nq
 have P2:Aside (B4 w (W.drewN nq) cb (⟨3,(i:Int),1,(wd:Int),k.wd wd,rdone,rok,rn,rl⟩:J4).o):=⟨P.out.size,P.out.o,P.out.old⟩
 have E39:Aside (∀u:World,u.heap=W.heap→Calls Tryd.prog 39 #[vP cb 0,.bool true,vI 0] u fun x w'=>x= .returned (.tuple #[])∧B4 u w' cb ({(⟨3,(i:Int),1,(wd:Int),k.wd wd,rdone,rok,rn,rl⟩:J4)with done:=true,ok:=true,n:=0}:J4).o):=by
  have:∀u:World,u.heap=W.heap→Calls Tryd.prog 39 #[vP cb 0,.bool true,vI 0] u fun x w'=>x= .returned (.tuple #[])∧B4 u w' cb ({(⟨3,(i:Int),1,(wd:Int),k.wd wd,rdone,rok,rn,rl⟩:J4)with done:=true,ok:=true,n:=0}:J4).o:=fun u hu=>a0B (c:=⟨3,(i:Int),1,(wd:Int),k.wd wd,rdone,rok,rn,rl⟩) (by show u.heap[cb]? =_;rw[hu];exact P.out.o)
  exact this
 go_wp2_with (go_at_call 39;refine(E39.out _ (by rfl)).mono ?_;rintro e u ⟨rfl,hu⟩;have U:Aside (B4 W u cb _):=⟨hu.size,hu.o,hu.old⟩;clear hu)
 go_end0
 refine⟨rfl,?_⟩
 exact RP.of (u:=w) H.out.1 (U.out.size.trans P.out.size) (fun r hr=>(U.out.old r hr).trans (P.out.old r hr)) hwb.out.1 hwb.out.2 U.out.o
theorem v0B{xb wb cb i:Nat}{k:V0}{rold:BitVec 64}{rdone rok:Bool}{rn:Int}{rl:Value}(h:RS xb wb k w)(hc:F3 w cb ⟨1,(i:Int),1,((i / 64:Nat):Int),rold,rdone,rok,rn,rl⟩)(hne:cb≠wb)(hne2:cb≠xb)(hl:i / 64<k.ws.length)(hl2:k.ws.length≤1024)(hb:(k.wd (i / 64)).getLsbD (i % 64)=true):
 Calls Tryd.prog 42 #[vP xb 0,vP cb 0] w fun y w'=>y= .returned (.tuple #[])∧RP w w' xb wb cb k ({(⟨1,(i:Int),1,((i / 64:Nat):Int),rold,rdone,rok,rn,rl⟩:J4)with old:=k.wd (i / 64),done:=true,ok:=true,n:=0}:J4):=by
 have H:Aside (RS xb wb k w∧F3 w cb ⟨1,(i:Int),1,((i / 64:Nat):Int),rold,rdone,rok,rn,rl⟩):=⟨h,hc⟩
 have c1:=(V1 h.o (j:=1) rfl).1
 have c2:=(V1 hc (j:=2) rfl).1
 have c3:=(V1 hc (j:=3) rfl).1
 have c4:=(V1 hc (j:=4) rfl).1
 have z4:=(V1 hc (j:=4) rfl).2
 obtain⟨cw,zw⟩:=h.word hl
 generalize hwd:i / 64=wd at*
 have hl3:(wd:Int)<(k.ws.length:Int):=by omega
 have hwb:Aside (cb≠wb∧cb≠xb):=⟨hne,hne2⟩
 have hx:Aside ((bits .and .u64 ((k.wd wd).toNat:Int) ((bitI i).toNat:Int) != 0)=true):=c0e _ _ _ hb
 clear h hc hb hwd
 go_enter Tryd.func42,Tryd.ntmps42
 go_wp2
 go_still_tail 13,(by kernel_rfl)
 change wpList _ _ _ _ _ w.drew
 go_wp2
 have q:=Y1 (w:=w) (k:=4) (v:=wV (k.wd wd)) H.out.2
 have P:Aside (B4 w ((w.setCell ⟨cb,4,none⟩ (wV (k.wd wd))).drew) cb (⟨1,(i:Int),1,(wd:Int),k.wd wd,rdone,rok,rn,rl⟩:J4).o):=⟨q.size,q.o,q.old⟩
 clear q
 generalize (w.setCell ⟨cb,4,none⟩ (wV (k.wd wd))).drew=W at P ⊢
 have d0:=(V1 P.out.o (j:=0) rfl).1
 have d1:=(V1 P.out.o (j:=1) rfl).1
 have d2:=(V1 P.out.o (j:=2) rfl).1
 have d4:=(V1 P.out.o (j:=4) rfl).1
 have y2:=(V1 P.out.o (j:=2) rfl).2
 have hx2:=hx.out
 clear c1 c2 c3 c4 z4 cw zw
 go_quiet ((go_at_call 56;exact Calls.quiet_of_same (O6 i)))
 rename_i nq
 have P2:Aside (B4 w (W.drewN nq) cb (⟨1,(i:Int),1,(wd:Int),k.wd wd,rdone,rok,rn,rl⟩:J4).o):=⟨P.out.size,P.out.o,P.out.old⟩
 have E39:Aside (∀u:World,u.heap=W.heap→Calls Tryd.prog 39 #[vP cb 0,.bool true,vI 0] u fun x w'=>x= .returned (.tuple #[])∧B4 u w' cb ({(⟨1,(i:Int),1,(wd:Int),k.wd wd,rdone,rok,rn,rl⟩:J4)with done:=true,ok:=true,n:=0}:J4).o):=by
  have:∀u:World,u.heap=W.heap→Calls Tryd.prog 39 #[vP cb 0,.bool true,vI 0] u fun x w'=>x= .returned (.tuple #[])∧B4 u w' cb ({(⟨1,(i:Int),1,(wd:Int),k.wd wd,rdone,rok,rn,rl⟩:J4)with done:=true,ok:=true,n:=0}:J4).o:=fun u hu=>a0B (c:=⟨1,(i:Int),1,(wd:Int),k.wd wd,rdone,rok,rn,rl⟩) (by show u.heap[cb]? =_;rw[hu];exact P.out.o)
  exact this
 go_wp2_with (go_at_call 39;refine(E39.out _ (by rfl)).mono ?_;rintro e u ⟨rfl,hu⟩;have U:Aside (B4 W u cb _):=⟨hu.size,hu.o,hu.old⟩;clear hu)
 go_end0
 refine⟨rfl,?_⟩
 exact RP.of (u:=w) H.out.1 (U.out.size.trans P.out.size) (fun r hr=>(U.out.old r hr).trans (P.out.old r hr)) hwb.out.1 hwb.out.2 U.out.o
theorem v0A{xb wb cb i:Nat}{k:V0}{rold:BitVec 64}{rdone rok:Bool}{rn:Int}{rl:Value}(h:RS xb wb k w)(hc:F3 w cb ⟨1,(i:Int),1,((i / 64:Nat):Int),rold,rdone,rok,rn,rl⟩)(hne:cb≠wb)(hne2:cb≠xb)(hl:i / 64<k.ws.length)(hl2:k.ws.length≤1024)(hb:(k.wd (i / 64)).getLsbD (i % 64)=false):
 Calls Tryd.prog 42 #[vP xb 0,vP cb 0] w fun y w'=>y= .returned (.tuple #[])∧RP w w' xb wb cb k ({(⟨1,(i:Int),1,((i / 64:Nat):Int),rold,rdone,rok,rn,rl⟩:J4)with old:=k.wd (i / 64),ph:=2}:J4):=by
 have H:Aside (RS xb wb k w∧F3 w cb ⟨1,(i:Int),1,((i / 64:Nat):Int),rold,rdone,rok,rn,rl⟩):=⟨h,hc⟩
 have c1:=(V1 h.o (j:=1) rfl).1
 have c2:=(V1 hc (j:=2) rfl).1
 have c3:=(V1 hc (j:=3) rfl).1
 have c4:=(V1 hc (j:=4) rfl).1
 have z4:=(V1 hc (j:=4) rfl).2
 obtain⟨cw,zw⟩:=h.word hl
 generalize hwd:i / 64=wd at*
 have hl3:(wd:Int)<(k.ws.length:Int):=by omega
 have hwb:Aside (cb≠wb∧cb≠xb):=⟨hne,hne2⟩
 have hx:Aside ((bits .and .u64 ((k.wd wd).toNat:Int) ((bitI i).toNat:Int) != 0)=false):=c0e _ _ _ hb
 clear h hc hb hwd
 go_enter Tryd.func42,Tryd.ntmps42
 go_wp2
 go_still_tail 13,(by kernel_rfl)
 change wpList _ _ _ _ _ w.drew
 go_wp2
 have q:=Y1 (w:=w) (k:=4) (v:=wV (k.wd wd)) H.out.2
 have P:Aside (B4 w ((w.setCell ⟨cb,4,none⟩ (wV (k.wd wd))).drew) cb (⟨1,(i:Int),1,(wd:Int),k.wd wd,rdone,rok,rn,rl⟩:J4).o):=⟨q.size,q.o,q.old⟩
 clear q
 generalize (w.setCell ⟨cb,4,none⟩ (wV (k.wd wd))).drew=W at P ⊢
 have d0:=(V1 P.out.o (j:=0) rfl).1
 have d1:=(V1 P.out.o (j:=1) rfl).1
 have d2:=(V1 P.out.o (j:=2) rfl).1
 have d4:=(V1 P.out.o (j:=4) rfl).1
 have y2:=(V1 P.out.o (j:=2) rfl).2
 have hx2:=hx.out
 clear c1 c2 c3 c4 z4 cw zw
 go_quiet ((go_at_call 56;exact Calls.quiet_of_same (O6 i)))
 rename_i nq
 have P2:Aside (B4 w (W.drewN nq) cb (⟨1,(i:Int),1,(wd:Int),k.wd wd,rdone,rok,rn,rl⟩:J4).o):=⟨P.out.size,P.out.o,P.out.old⟩
 go_wp2
 go_end0
 refine⟨rfl,?_⟩
 have U:B4 (W.drewN nq) ((W.drewN nq).setCell ⟨cb,2,none⟩ (vI 2)) cb _:=Y1 (w:=W.drewN nq) (k:=2) P.out.o
 exact RP.of (u:=w) H.out.1 (U.size.trans P.out.size) (fun r hr=>(U.old r hr).trans (P.out.old r hr)) hwb.out.1 hwb.out.2 U.o
theorem v0D{xb wb cb i:Nat}{k:V0}{rold:BitVec 64}{rdone rok:Bool}{rn:Int}{rl:Value}(h:RS xb wb k w)(hc:F3 w cb ⟨2,(i:Int),1,((i / 64:Nat):Int),rold,rdone,rok,rn,rl⟩)(hne:cb≠wb)(hne2:cb≠xb)(hl:i / 64<k.ws.length)(hl2:k.ws.length≤1024)(hb:(k.wd (i / 64)).getLsbD (i % 64)=true):
 Calls Tryd.prog 42 #[vP xb 0,vP cb 0] w fun y w'=>y= .returned (.tuple #[])∧RP w w' xb wb cb k ({(⟨2,(i:Int),1,((i / 64:Nat):Int),rold,rdone,rok,rn,rl⟩:J4)with old:=k.wd (i / 64),ph:=2}:J4):=by
 have H:Aside (RS xb wb k w∧F3 w cb ⟨2,(i:Int),1,((i / 64:Nat):Int),rold,rdone,rok,rn,rl⟩):=⟨h,hc⟩
 have c1:=(V1 h.o (j:=1) rfl).1
 have c2:=(V1 hc (j:=2) rfl).1
 have c3:=(V1 hc (j:=3) rfl).1
 have c4:=(V1 hc (j:=4) rfl).1
 have z4:=(V1 hc (j:=4) rfl).2
 obtain⟨cw,zw⟩:=h.word hl
 generalize hwd:i / 64=wd at*
 have hl3:(wd:Int)<(k.ws.length:Int):=by omega
 have hwb:Aside (cb≠wb∧cb≠xb):=⟨hne,hne2⟩
 have hx:Aside ((bits .and .u64 ((k.wd wd).toNat:Int) ((bitI i).toNat:Int) != 0)=true):=c0e _ _ _ hb
 clear h hc hb hwd
 go_enter Tryd.func42,Tryd.ntmps42
 go_wp2
 go_still_tail 13,(by kernel_rfl)
 change wpList _ _ _ _ _ w.drew
 go_wp2
 have q:=Y1 (w:=w) (k:=4) (v:=wV (k.wd wd)) H.out.2
 have P:Aside (B4 w ((w.setCell ⟨cb,4,none⟩ (wV (k.wd wd))).drew) cb (⟨2,(i:Int),1,(wd:Int),k.wd wd,rdone,rok,rn,rl⟩:J4).o):=⟨q.size,q.o,q.old⟩
 clear q
 generalize (w.setCell ⟨cb,4,none⟩ (wV (k.wd wd))).drew=W at P ⊢
 have d0:=(V1 P.out.o (j:=0) rfl).1
 have d1:=(V1 P.out.o (j:=1) rfl).1
 have d2:=(V1 P.out.o (j:=2) rfl).1
 have d4:=(V1 P.out.o (j:=4) rfl).1
 have y2:=(V1 P.out.o (j:=2) rfl).2
 have hx2:=hx.out
 clear c1 c2 c3 c4 z4 cw zw
 go_quiet ((go_at_call 56;exact Calls.quiet_of_same (O6 i)))
 rename_i nq
 have P2:Aside (B4 w (W.drewN nq) cb (⟨2,(i:Int),1,(wd:Int),k.wd wd,rdone,rok,rn,rl⟩:J4).o):=⟨P.out.size,P.out.o,P.out.old⟩
 go_wp2
 go_end0
 refine⟨rfl,?_⟩
 have U:B4 (W.drewN nq) ((W.drewN nq).setCell ⟨cb,2,none⟩ (vI 2)) cb _:=Y1 (w:=W.drewN nq) (k:=2) P.out.o
 exact RP.of (u:=w) H.out.1 (U.size.trans P.out.size) (fun r hr=>(U.old r hr).trans (P.out.old r hr)) hwb.out.1 hwb.out.2 U.o
theorem v0C{xb wb cb i:Nat}{k:V0}{rold:BitVec 64}{rdone rok:Bool}{rn:Int}{rl:Value}(h:RS xb wb k w)(hc:F3 w cb ⟨2,(i:Int),1,((i / 64:Nat):Int),rold,rdone,rok,rn,rl⟩)(hne:cb≠wb)(hne2:cb≠xb)(hl:i / 64<k.ws.length)(hl2:k.ws.length≤1024)(hb:(k.wd (i / 64)).getLsbD (i % 64)=false):
 Calls Tryd.prog 42 #[vP xb 0,vP cb 0] w fun y w'=>y= .returned (.tuple #[])∧RP w w' xb wb cb k ({(⟨2,(i:Int),1,((i / 64:Nat):Int),rold,rdone,rok,rn,rl⟩:J4)with old:=k.wd (i / 64),done:=true,ok:=true,n:=0}:J4):=by
 have H:Aside (RS xb wb k w∧F3 w cb ⟨2,(i:Int),1,((i / 64:Nat):Int),rold,rdone,rok,rn,rl⟩):=⟨h,hc⟩
 have c1:=(V1 h.o (j:=1) rfl).1
 have c2:=(V1 hc (j:=2) rfl).1
 have c3:=(V1 hc (j:=3) rfl).1
 have c4:=(V1 hc (j:=4) rfl).1
 have z4:=(V1 hc (j:=4) rfl).2
 obtain⟨cw,zw⟩:=h.word hl
 generalize hwd:i / 64=wd at*
 have hl3:(wd:Int)<(k.ws.length:Int):=by omega
 have hwb:Aside (cb≠wb∧cb≠xb):=⟨hne,hne2⟩
 have hx:Aside ((bits .and .u64 ((k.wd wd).toNat:Int) ((bitI i).toNat:Int) != 0)=false):=c0e _ _ _ hb
 clear h hc hb hwd
 go_enter Tryd.func42,Tryd.ntmps42
 go_wp2
 go_still_tail 13,(by kernel_rfl)
 change wpList _ _ _ _ _ w.drew
 go_wp2
 have q:=Y1 (w:=w) (k:=4) (v:=wV (k.wd wd)) H.out.2
 have P:Aside (B4 w ((w.setCell ⟨cb,4,none⟩ (wV (k.wd wd))).drew) cb (⟨2,(i:Int),1,(wd:Int),k.wd wd,rdone,rok,rn,rl⟩:J4).o):=⟨q.size,q.o,q.old⟩
 clear q
 generalize (w.setCell ⟨cb,4,none⟩ (wV (k.wd wd))).drew=W at P ⊢
 have d0:=(V1 P.out.o (j:=0) rfl).1
 have d1:=(V1 P.out.o (j:=1) rfl).1
 have d2:=(V1 P.out.o (j:=2) rfl).1
 have d4:=(V1 P.out.o (j:=4) rfl).1
 have y2:=(V1 P.out.o (j:=2) rfl).2
 have hx2:=hx.out
 clear c1 c2 c3 c4 z4 cw zw
 go_quiet ((go_at_call 56;exact Calls.quiet_of_same (O6 i)))
 rename_i nq
 have P2:Aside (B4 w (W.drewN nq) cb (⟨2,(i:Int),1,(wd:Int),k.wd wd,rdone,rok,rn,rl⟩:J4).o):=⟨P.out.size,P.out.o,P.out.old⟩
 have E39:Aside (∀u:World,u.heap=W.heap→Calls Tryd.prog 39 #[vP cb 0,.bool true,vI 0] u fun x w'=>x= .returned (.tuple #[])∧B4 u w' cb ({(⟨2,(i:Int),1,(wd:Int),k.wd wd,rdone,rok,rn,rl⟩:J4)with done:=true,ok:=true,n:=0}:J4).o):=by
  have:∀u:World,u.heap=W.heap→Calls Tryd.prog 39 #[vP cb 0,.bool true,vI 0] u fun x w'=>x= .returned (.tuple #[])∧B4 u w' cb ({(⟨2,(i:Int),1,(wd:Int),k.wd wd,rdone,rok,rn,rl⟩:J4)with done:=true,ok:=true,n:=0}:J4).o:=fun u hu=>a0B (c:=⟨2,(i:Int),1,(wd:Int),k.wd wd,rdone,rok,rn,rl⟩) (by show u.heap[cb]? =_;rw[hu];exact P.out.o)
  exact this
 go_wp2_with (go_at_call 39;refine(E39.out _ (by rfl)).mono ?_;rintro e u ⟨rfl,hu⟩;have U:Aside (B4 W u cb _):=⟨hu.size,hu.o,hu.old⟩;clear hu)
 go_end0
 refine⟨rfl,?_⟩
 exact RP.of (u:=w) H.out.1 (U.out.size.trans P.out.size) (fun r hr=>(U.out.old r hr).trans (P.out.old r hr)) hwb.out.1 hwb.out.2 U.out.o
theorem x0E{xb wb cb i:Nat}{k:V0}{rkd:Int}{rold:BitVec 64}{rdone rok:Bool}{rn:Int}{rl:Value}(h:RS xb wb k w)(hc:F3 w cb ⟨rkd,(i:Int),2,((i / 64:Nat):Int),rold,rdone,rok,rn,rl⟩)(hne:cb≠wb)(hne2:cb≠xb)(hl:i / 64<k.ws.length)(hl2:k.ws.length≤1024):
 Calls Tryd.prog 42 #[vP xb 0,vP cb 0] w fun y w'=>y= .returned (.tuple #[])∧
  SwR w w' xb wb cb k (i / 64) rold (rold ^^^ bitI i) ⟨rkd,(i:Int),2,((i / 64:Nat):Int),rold,true,true,1,rl⟩ ⟨rkd,(i:Int),1,((i / 64:Nat):Int),rold,rdone,rok,rn,rl⟩:=by
 have ES:Aside (∀u:World,u.heap=w.heap→Calls Tryd.prog 59 #[vP xb 0,vP cb 0,wV (rold ^^^ bitI i),vI 1] u fun y w'=>y= .returned (.tuple #[])∧
  SwR u w' xb wb cb k (i / 64) rold (rold ^^^ bitI i) ⟨rkd,(i:Int),2,((i / 64:Nat):Int),rold,true,true,1,rl⟩ ⟨rkd,(i:Int),1,((i / 64:Nat):Int),rold,rdone,rok,rn,rl⟩):=by
  have:∀u:World,u.heap=w.heap→Calls Tryd.prog 59 #[vP xb 0,vP cb 0,wV (rold ^^^ bitI i),vI 1] u fun y w'=>y= .returned (.tuple #[])∧
   SwR u w' xb wb cb k (i / 64) rold (rold ^^^ bitI i) ⟨rkd,(i:Int),2,((i / 64:Nat):Int),rold,true,true,1,rl⟩ ⟨rkd,(i:Int),1,((i / 64:Nat):Int),rold,rdone,rok,rn,rl⟩:=fun u hu=>
   i0i (rc:=⟨rkd,(i:Int),2,((i / 64:Nat):Int),rold,rdone,rok,rn,rl⟩) (h.same (by rw[hu]) (by rw[hu])) (by show u.heap[cb]? =_;rw[hu];exact hc) hne hne2 rfl hl hl2 _ 1
  exact this
 have c1:=(V1 hc (j:=1) rfl).1
 have c2:=(V1 hc (j:=2) rfl).1
 have c4:=(V1 hc (j:=4) rfl).1
 have hX:=c0i rold (bitI i)
 clear h hc
 go_enter Tryd.func42,Tryd.ntmps42
 go_wp2
 have B:Aside (∀u:World,Calls Tryd.prog 56 #[vI (i:Int)] u fun y w'=>y= .returned (wV (bitI i))∧w'=u):=fun u=>O6 i
 go_region_law (first
  | (refine z0p (o:={dst:=some 20,op:=_,type:=_,pos:=_,after:=_,guard:=none}) rfl 56 #[vI (i:Int)] (wV (bitI i)) (by simp[execOp,Act.eval,Act.put,resolve,invoke,Deferred.ofValue,callable56.run]) (B.out _) ?_;intro u hu;subst hu)
  | (refine z0p rfl 59 #[vP xb 0,vP cb 0,wV (rold ^^^ bitI i),vI 1] (.tuple #[]) (by simp[execOp,Act.eval,Act.put,resolve,invoke,Deferred.ofValue,callable59.run,hX]) (ES.out _ (by rfl)) ?_;intro u hu;have U:Aside (SwR _ u xb wb cb k (i / 64) rold (rold ^^^ bitI i) ⟨rkd,(i:Int),2,((i / 64:Nat):Int),rold,true,true,1,rl⟩ ⟨rkd,(i:Int),1,((i / 64:Nat):Int),rold,rdone,rok,rn,rl⟩):=hu;clear hu))
 all_goals(
  go_wp2
  refine bodyPost_ret (v:=.tuple #[]) (by simp[results,Tryd.f42,go_sem]) rfl ⟨rfl,?_⟩
  exact U.out.base rfl)
end
section
variable{w w':World}
theorem x0e{j:Nat}{xb wb cb wd:Nat}{k:V0}{ri:Int}{rold:BitVec 64}{rdone rok:Bool}{rn:Int}{rl:Value}(h:RS xb wb k w)(hc:F3 w cb ⟨4,ri,2,(wd:Int),rold,rdone,rok,rn,rl⟩)(hne:cb≠wb)(hne2:cb≠xb)(hl:wd<k.ws.length)(hl2:k.ws.length≤1024)(hn:k.n≤65536)(hf:G4 k.n wd rold=some j):
 Calls Tryd.prog 40 #[vP xb 0,vP cb 0] w fun y w'=>y= .returned (.tuple #[])∧SwR w w' xb wb cb k wd rold (rold ||| bitI (wd*64+j)) ⟨4,ri,2,(wd:Int),rold,true,true,((wd*64+j:Nat):Int),rl⟩ ⟨4,ri,1,(wd:Int),rold,rdone,rok,rn,rl⟩:=by
 have ES:Aside (∀u:World,u.heap=w.heap→Calls Tryd.prog 59 #[vP xb 0,vP cb 0,wV (rold ||| bitI (wd*64+j)),vI ((wd*64+j:Nat):Int)] u fun y w'=>y= .returned (.tuple #[])∧
  SwR u w' xb wb cb k wd rold (rold ||| bitI (wd*64+j)) ⟨4,ri,2,(wd:Int),rold,true,true,((wd*64+j:Nat):Int),rl⟩ ⟨4,ri,1,(wd:Int),rold,rdone,rok,rn,rl⟩):=by
  have:∀u:World,u.heap=w.heap→Calls Tryd.prog 59 #[vP xb 0,vP cb 0,wV (rold ||| bitI (wd*64+j)),vI ((wd*64+j:Nat):Int)] u fun y w'=>y= .returned (.tuple #[])∧
   SwR u w' xb wb cb k wd rold (rold ||| bitI (wd*64+j)) ⟨4,ri,2,(wd:Int),rold,true,true,((wd*64+j:Nat):Int),rl⟩ ⟨4,ri,1,(wd:Int),rold,rdone,rok,rn,rl⟩:=fun u hu=>
   i0i (rc:=⟨4,ri,2,(wd:Int),rold,rdone,rok,rn,rl⟩) (h.same (by rw[hu]) (by rw[hu])) (by show u.heap[cb]? =_;rw[hu];exact hc) hne hne2 rfl hl hl2 _ _
  exact this
 have EF:Aside (∀u:World,u.heap=w.heap→Calls Tryd.prog 58 #[vP xb 0,vI (wd:Nat),wV rold] u fun y w'=>y= .returned (.tuple #[vI ((wd*64+j:Nat):Int),.bool true])∧w'=u):=by
  have:∀u:World,u.heap=w.heap→Calls Tryd.prog 58 #[vP xb 0,vI (wd:Nat),wV rold] u fun y w'=>y= .returned (.tuple #[vI ((wd*64+j:Nat):Int),.bool true])∧w'=u:=fun u hu=>by
   have e:=c0H (w:=u) (h.same (by rw[hu]) (by rw[hu])) hn wd (by omega) rold
   unfold d04 at e
   rw[hf]at e
   exact e
  exact this
 have B:Aside (∀u:World,Calls Tryd.prog 56 #[vI ((wd*64+j:Nat):Int)] u fun y w'=>y= .returned (wV (bitI (wd*64+j)))∧w'=u):=fun u=>O6 _
 have c2:=(V1 hc (j:=2) rfl).1
 have c3:=(V1 hc (j:=3) rfl).1
 have c4:=(V1 hc (j:=4) rfl).1
 have hX:=l01 rold (bitI (wd*64+j))
 obtain⟨q,hq⟩:∃q,q=wd*64+j:=⟨_,rfl⟩
 rw[← hq]at ES EF B hX ⊢
 clear h hc hf hq
 go_enter Tryd.func40,Tryd.ntmps40
 go_wp2
 go_quiet ((go_at_call 58;exact Calls.quiet_of_same (EF.out _ (by rfl))))
 rename_i nq
 have d4:(w.drewN nq).cell? ⟨cb,4,none⟩=some (wV rold):=c4
 have ES2:Aside (∀u:World,u.heap=(w.drewN nq).heap→Calls Tryd.prog 59 #[vP xb 0,vP cb 0,wV (rold ||| bitI q),vI (q:Int)] u fun y w'=>y= .returned (.tuple #[])∧
  SwR w w' xb wb cb k wd rold (rold ||| bitI q) ⟨4,ri,2,(wd:Int),rold,true,true,(q:Int),rl⟩ ⟨4,ri,1,(wd:Int),rold,rdone,rok,rn,rl⟩):=by
  have:∀u:World,u.heap=(w.drewN nq).heap→Calls Tryd.prog 59 #[vP xb 0,vP cb 0,wV (rold ||| bitI q),vI (q:Int)] u fun y w'=>y= .returned (.tuple #[])∧
   SwR w w' xb wb cb k wd rold (rold ||| bitI q) ⟨4,ri,2,(wd:Int),rold,true,true,(q:Int),rl⟩ ⟨4,ri,1,(wd:Int),rold,rdone,rok,rn,rl⟩:=fun u hu=>(ES.out u hu).mono fun y w' h=>⟨h.1,h.2.base hu⟩
  exact this
 clear ES EF c2 c3 c4
 generalize w.drewN nq=W at d4 ES2 ⊢
 go_wp2
 go_region_law (first
  | (refine z0p (o:={dst:=some 33,op:=_,type:=_,pos:=_,after:=_,guard:=none}) rfl 56 #[vI (q:Int)] (wV (bitI q)) (by simp[execOp,Act.eval,Act.put,resolve,invoke,Deferred.ofValue,callable56.run]) (B.out _) ?_;intro u hu;subst hu)
  | (refine z0p rfl 59 #[vP xb 0,vP cb 0,wV (rold ||| bitI q),vI (q:Int)] (.tuple #[]) (by simp[execOp,Act.eval,Act.put,resolve,invoke,Deferred.ofValue,callable59.run,hX]) (ES2.out _ (by rfl)) ?_;intro u hu;have U:Aside (SwR w u xb wb cb k wd rold (rold ||| bitI q) ⟨4,ri,2,(wd:Int),rold,true,true,(q:Int),rl⟩ ⟨4,ri,1,(wd:Int),rold,rdone,rok,rn,rl⟩):=hu;clear hu))
 all_goals(
  go_wp2
  exact bodyPost_ret (v:=.tuple #[]) (by simp[results,Tryd.f40,go_sem]) rfl ⟨rfl,U.out⟩)
theorem u0R{j:Nat}{xb wb cb wd:Nat}{k:V0}{ri:Int}{rold:BitVec 64}{rdone rok:Bool}{rn:Int}{rl:Value}(h:RS xb wb k w)(hc:F3 w cb ⟨4,ri,1,(wd:Int),rold,rdone,rok,rn,rl⟩)(hne:cb≠wb)(hne2:cb≠xb)(hl:wd<k.ws.length)(hl2:k.ws.length≤1024)(hn:k.n≤65536)(hf:G4 k.n wd (k.wd wd)=some j):
 Calls Tryd.prog 40 #[vP xb 0,vP cb 0] w fun y w'=>y= .returned (.tuple #[])∧RP w w' xb wb cb k ⟨4,ri,2,(wd:Int),k.wd wd,rdone,rok,rn,rl⟩:=by
 have H:Aside (RS xb wb k w∧F3 w cb ⟨4,ri,1,(wd:Int),rold,rdone,rok,rn,rl⟩):=⟨h,hc⟩
 have EF:Aside (∀u:World,(∀r,r≠cb→u.heap[r]? =w.heap[r]?)→Calls Tryd.prog 58 #[vP xb 0,vI (wd:Nat),wV (k.wd wd)] u fun y w'=>y= .returned (.tuple #[vI ((wd*64+j:Nat):Int),.bool true])∧w'=u):=by
  have:∀u:World,(∀r,r≠cb→u.heap[r]? =w.heap[r]?)→Calls Tryd.prog 58 #[vP xb 0,vI (wd:Nat),wV (k.wd wd)] u fun y w'=>y= .returned (.tuple #[vI ((wd*64+j:Nat):Int),.bool true])∧w'=u:=fun u hu=>by
   have e:=c0H (w:=u) (h.same (hu _ hne2.symm) (hu _ hne.symm)) hn wd (by omega) (k.wd wd)
   unfold d04 at e
   rw[hf]at e
   exact e
  exact this
 have c1:=(V1 h.o (j:=1) rfl).1
 have c2:=(V1 hc (j:=2) rfl).1
 have c3:=(V1 hc (j:=3) rfl).1
 have c4:=(V1 hc (j:=4) rfl).1
 have z4:=(V1 hc (j:=4) rfl).2
 obtain⟨cw,zw⟩:=h.word hl
 have hl3:(wd:Int)<(k.ws.length:Int):=by omega
 have hwb:Aside (cb≠wb∧cb≠xb):=⟨hne,hne2⟩
 have hw1:IntKind.i64.wrap ((wd:Int)+1)=(wd:Int)+1:=IntWalk.i64_in _ (by omega)
 clear h hc hf
 go_enter Tryd.func40,Tryd.ntmps40
 go_wp2
 go_still_tail 13,(by kernel_rfl)
 change wpList _ _ _ _ _ w.drew
 go_wp2
 have q:=Y1 (w:=w) (k:=4) (v:=wV (k.wd wd)) H.out.2
 have P:Aside (B4 w ((w.setCell ⟨cb,4,none⟩ (wV (k.wd wd))).drew) cb (⟨4,ri,1,(wd:Int),k.wd wd,rdone,rok,rn,rl⟩:J4).o):=⟨q.size,q.o,q.old⟩
 clear q
 generalize (w.setCell ⟨cb,4,none⟩ (wV (k.wd wd))).drew=W at P ⊢
 have d2:=(V1 P.out.o (j:=2) rfl).1
 have d3:=(V1 P.out.o (j:=3) rfl).1
 have d4:=(V1 P.out.o (j:=4) rfl).1
 have y2:=(V1 P.out.o (j:=2) rfl).2
 have y3:=(V1 P.out.o (j:=3) rfl).2
 have d1:W.cell? ⟨xb,1,none⟩=some (vL wb 0 k.ws.length k.ws.length):=(V1 ((P.out.old _ hwb.out.2.symm).trans H.out.1.o) (j:=1) rfl).1
 clear c1 c2 c3 c4 z4 cw zw
 go_quiet ((go_at_call 58;exact Calls.quiet_of_same (EF.out _ (fun r hr=>P.out.old r hr))))
 rename_i nq
 go_wp2
 have U:B4 W ((W.drewN nq).setCell ⟨cb,2,none⟩ (vI 2)) cb _:=⟨(Y1 (w:=W) (k:=2) (v:=vI 2) P.out.o).size,(Y1 (w:=W) (k:=2) (v:=vI 2) P.out.o).o,(Y1 (w:=W) (k:=2) (v:=vI 2) P.out.o).old⟩
 refine bodyPost_ret (v:=.tuple #[]) (by simp[results,Tryd.f40,go_sem]) rfl ⟨rfl,?_⟩
 exact RP.of (u:=w) H.out.1 (U.size.trans P.out.size) (fun r hr=>(U.old r hr).trans (P.out.old r hr)) hwb.out.1 hwb.out.2 U.o
theorem u0J{xb wb cb wd:Nat}{k:V0}{ri:Int}{rold:BitVec 64}{rdone rok:Bool}{rn:Int}{rl:Value}(h:RS xb wb k w)(hc:F3 w cb ⟨4,ri,1,(wd:Int),rold,rdone,rok,rn,rl⟩)(hne:cb≠wb)(hne2:cb≠xb)(hl:wd<k.ws.length)(hl2:k.ws.length≤1024)(hn:k.n≤65536)(hf:G4 k.n wd (k.wd wd)=none)(he:wd+1=k.ws.length):
 Calls Tryd.prog 40 #[vP xb 0,vP cb 0] w fun y w'=>y= .returned (.tuple #[])∧RP w w' xb wb cb k ⟨4,ri,1,(wd:Int)+1,k.wd wd,true,false,0,rl⟩:=by
 have H:Aside (RS xb wb k w∧F3 w cb ⟨4,ri,1,(wd:Int),rold,rdone,rok,rn,rl⟩):=⟨h,hc⟩
 have EF:Aside (∀u:World,(∀r,r≠cb→u.heap[r]? =w.heap[r]?)→Calls Tryd.prog 58 #[vP xb 0,vI (wd:Nat),wV (k.wd wd)] u fun y w'=>y= .returned (.tuple #[vI 0,.bool false])∧w'=u):=by
  have:∀u:World,(∀r,r≠cb→u.heap[r]? =w.heap[r]?)→Calls Tryd.prog 58 #[vP xb 0,vI (wd:Nat),wV (k.wd wd)] u fun y w'=>y= .returned (.tuple #[vI 0,.bool false])∧w'=u:=fun u hu=>by
   have e:=c0H (w:=u) (h.same (hu _ hne2.symm) (hu _ hne.symm)) hn wd (by omega) (k.wd wd)
   unfold d04 at e
   rw[hf]at e
   exact e
  exact this
 have c1:=(V1 h.o (j:=1) rfl).1
 have c2:=(V1 hc (j:=2) rfl).1
 have c3:=(V1 hc (j:=3) rfl).1
 have c4:=(V1 hc (j:=4) rfl).1
 have z4:=(V1 hc (j:=4) rfl).2
 obtain⟨cw,zw⟩:=h.word hl
 have hl3:(wd:Int)<(k.ws.length:Int):=by omega
 have hwb:Aside (cb≠wb∧cb≠xb):=⟨hne,hne2⟩
 have hw1:IntKind.i64.wrap ((wd:Int)+1)=(wd:Int)+1:=IntWalk.i64_in _ (by omega)
 have he1:(((wd:Int)+1) == (k.ws.length:Int))=true:=by simp;omega
 clear h hc hf
 go_enter Tryd.func40,Tryd.ntmps40
 go_wp2
 go_still_tail 13,(by kernel_rfl)
 change wpList _ _ _ _ _ w.drew
 go_wp2
 have q:=Y1 (w:=w) (k:=4) (v:=wV (k.wd wd)) H.out.2
 have P:Aside (B4 w ((w.setCell ⟨cb,4,none⟩ (wV (k.wd wd))).drew) cb (⟨4,ri,1,(wd:Int),k.wd wd,rdone,rok,rn,rl⟩:J4).o):=⟨q.size,q.o,q.old⟩
 clear q
 generalize (w.setCell ⟨cb,4,none⟩ (wV (k.wd wd))).drew=W at P ⊢
 have d2:=(V1 P.out.o (j:=2) rfl).1
 have d3:=(V1 P.out.o (j:=3) rfl).1
 have d4:=(V1 P.out.o (j:=4) rfl).1
 have y2:=(V1 P.out.o (j:=2) rfl).2
 have y3:=(V1 P.out.o (j:=3) rfl).2
 have d1:W.cell? ⟨xb,1,none⟩=some (vL wb 0 k.ws.length k.ws.length):=(V1 ((P.out.old _ hwb.out.2.symm).trans H.out.1.o) (j:=1) rfl).1
 clear c1 c2 c3 c4 z4 cw zw
 go_quiet ((go_at_call 58;exact Calls.quiet_of_same (EF.out _ (fun r hr=>P.out.old r hr))))
 rename_i nq
 go_wp2
 have q:=Y1 (w:=W) (k:=3) (v:=vI ((wd:Int)+1)) P.out.o
 have P2:Aside (B4 w ((W.drewN nq).setCell ⟨cb,3,none⟩ (vI ((wd:Int)+1))) cb (⟨4,ri,1,(wd:Int)+1,k.wd wd,rdone,rok,rn,rl⟩:J4).o):=⟨q.size.trans P.out.size,q.o,fun r hr=>(q.old r hr).trans (P.out.old r hr)⟩
 have d1':((W.drewN nq).setCell ⟨cb,3,none⟩ (vI ((wd:Int)+1))).cell? ⟨xb,1,none⟩=some (vL wb 0 k.ws.length k.ws.length):=(V1 ((P2.out.old _ hwb.out.2.symm).trans H.out.1.o) (j:=1) rfl).1
 clear q P d1 d2 d3 d4 y2 y3
 generalize (W.drewN nq).setCell ⟨cb,3,none⟩ (vI ((wd:Int)+1))=W2 at P2 d1' ⊢
 have d3:=(V1 P2.out.o (j:=3) rfl).1
 go_quiet (fail)
 rename_i nq2
 have E39:Aside (∀u:World,u.heap=W2.heap→Calls Tryd.prog 39 #[vP cb 0,.bool false,vI 0] u fun x w'=>x= .returned (.tuple #[])∧B4 u w' cb (⟨4,ri,1,(wd:Int)+1,k.wd wd,true,false,0,rl⟩:J4).o):=by
  have:∀u:World,u.heap=W2.heap→Calls Tryd.prog 39 #[vP cb 0,.bool false,vI 0] u fun x w'=>x= .returned (.tuple #[])∧B4 u w' cb (⟨4,ri,1,(wd:Int)+1,k.wd wd,true,false,0,rl⟩:J4).o:=fun u hu=>a0B (c:=⟨4,ri,1,(wd:Int)+1,k.wd wd,rdone,rok,rn,rl⟩) (by show u.heap[cb]? =_;rw[hu];exact P2.out.o)
  exact this
 go_wp2_with (go_at_call 39;refine(E39.out _ (by rfl)).mono ?_;rintro e u ⟨rfl,hu⟩;have U:Aside (B4 W2 u cb _):=⟨hu.size,hu.o,hu.old⟩;clear hu)
 go_end0
 refine⟨rfl,?_⟩
 exact RP.of (u:=w) H.out.1 (U.out.size.trans P2.out.size) (fun r hr=>(U.out.old r hr).trans (P2.out.old r hr)) hwb.out.1 hwb.out.2 U.out.o
theorem u0Q{xb wb cb wd:Nat}{k:V0}{ri:Int}{rold:BitVec 64}{rdone rok:Bool}{rn:Int}{rl:Value}(h:RS xb wb k w)(hc:F3 w cb ⟨4,ri,1,(wd:Int),rold,rdone,rok,rn,rl⟩)(hne:cb≠wb)(hne2:cb≠xb)(hl:wd<k.ws.length)(hl2:k.ws.length≤1024)(hn:k.n≤65536)(hf:G4 k.n wd (k.wd wd)=none)(he:wd+1≠k.ws.length):
 Calls Tryd.prog 40 #[vP xb 0,vP cb 0] w fun y w'=>y= .returned (.tuple #[])∧RP w w' xb wb cb k ⟨4,ri,1,(wd:Int)+1,k.wd wd,rdone,rok,rn,rl⟩:=by
 have H:Aside (RS xb wb k w∧F3 w cb ⟨4,ri,1,(wd:Int),rold,rdone,rok,rn,rl⟩):=⟨h,hc⟩
 have EF:Aside (∀u:World,(∀r,r≠cb→u.heap[r]? =w.heap[r]?)→Calls Tryd.prog 58 #[vP xb 0,vI (wd:Nat),wV (k.wd wd)] u fun y w'=>y= .returned (.tuple #[vI 0,.bool false])∧w'=u):=by
  have:∀u:World,(∀r,r≠cb→u.heap[r]? =w.heap[r]?)→Calls Tryd.prog 58 #[vP xb 0,vI (wd:Nat),wV (k.wd wd)] u fun y w'=>y= .returned (.tuple #[vI 0,.bool false])∧w'=u:=fun u hu=>by
   have e:=c0H (w:=u) (h.same (hu _ hne2.symm) (hu _ hne.symm)) hn wd (by omega) (k.wd wd)
   unfold d04 at e
   rw[hf]at e
   exact e
  exact this
 have c1:=(V1 h.o (j:=1) rfl).1
 have c2:=(V1 hc (j:=2) rfl).1
 have c3:=(V1 hc (j:=3) rfl).1
 have c4:=(V1 hc (j:=4) rfl).1
 have z4:=(V1 hc (j:=4) rfl).2
 obtain⟨cw,zw⟩:=h.word hl
 have hl3:(wd:Int)<(k.ws.length:Int):=by omega
 have hwb:Aside (cb≠wb∧cb≠xb):=⟨hne,hne2⟩
 have hw1:IntKind.i64.wrap ((wd:Int)+1)=(wd:Int)+1:=IntWalk.i64_in _ (by omega)
 have he1:(((wd:Int)+1) == (k.ws.length:Int))=false:=by simp;omega
 clear h hc hf
 go_enter Tryd.func40,Tryd.ntmps40
 go_wp2
 go_still_tail 13,(by kernel_rfl)
 change wpList _ _ _ _ _ w.drew
 go_wp2
 have q:=Y1 (w:=w) (k:=4) (v:=wV (k.wd wd)) H.out.2
 have P:Aside (B4 w ((w.setCell ⟨cb,4,none⟩ (wV (k.wd wd))).drew) cb (⟨4,ri,1,(wd:Int),k.wd wd,rdone,rok,rn,rl⟩:J4).o):=⟨q.size,q.o,q.old⟩
 clear q
 generalize (w.setCell ⟨cb,4,none⟩ (wV (k.wd wd))).drew=W at P ⊢
 have d2:=(V1 P.out.o (j:=2) rfl).1
 have d3:=(V1 P.out.o (j:=3) rfl).1
 have d4:=(V1 P.out.o (j:=4) rfl).1
 have y2:=(V1 P.out.o (j:=2) rfl).2
 have y3:=(V1 P.out.o (j:=3) rfl).2
 have d1:W.cell? ⟨xb,1,none⟩=some (vL wb 0 k.ws.length k.ws.length):=(V1 ((P.out.old _ hwb.out.2.symm).trans H.out.1.o) (j:=1) rfl).1
 clear c1 c2 c3 c4 z4 cw zw
 go_quiet ((go_at_call 58;exact Calls.quiet_of_same (EF.out _ (fun r hr=>P.out.old r hr))))
 rename_i nq
 go_wp2
 have q:=Y1 (w:=W) (k:=3) (v:=vI ((wd:Int)+1)) P.out.o
 have P2:Aside (B4 w ((W.drewN nq).setCell ⟨cb,3,none⟩ (vI ((wd:Int)+1))) cb (⟨4,ri,1,(wd:Int)+1,k.wd wd,rdone,rok,rn,rl⟩:J4).o):=⟨q.size.trans P.out.size,q.o,fun r hr=>(q.old r hr).trans (P.out.old r hr)⟩
 have d1':((W.drewN nq).setCell ⟨cb,3,none⟩ (vI ((wd:Int)+1))).cell? ⟨xb,1,none⟩=some (vL wb 0 k.ws.length k.ws.length):=(V1 ((P2.out.old _ hwb.out.2.symm).trans H.out.1.o) (j:=1) rfl).1
 clear q P d1 d2 d3 d4 y2 y3
 generalize (W.drewN nq).setCell ⟨cb,3,none⟩ (vI ((wd:Int)+1))=W2 at P2 d1' ⊢
 have d3:=(V1 P2.out.o (j:=3) rfl).1
 go_quiet (fail)
 rename_i nq2
 go_wp2
 go_end0
 refine⟨rfl,?_⟩
 exact RP.of (u:=w) H.out.1 P2.out.size (fun r hr=>P2.out.old r hr) hwb.out.1 hwb.out.2 P2.out.o
end
section
variable{w w':World}
def R2(n w:Nat)(x:BitVec 64)(j:Nat):List Int:=((List.range j).filter fun j=>decide (w*64+j<n) && x.getLsbD j).map fun j=>((w*64+j:Nat):Int)
theorem h06(n w:Nat)(x:BitVec 64):R2 n w x 64=X3 n w x:=rfl
theorem c0g(n w:Nat)(x:BitVec 64)(j:Nat):R2 n w x (j+1)=R2 n w x j++(if w*64+j<n∧x.getLsbD j=true then[((w*64+j:Nat):Int)]else[]):=by
 unfold R2
 rw[List.range_succ,List.filter_append,List.map_append]
 congr 1
 by_cases h:w*64+j<n∧x.getLsbD j=true
 ·simp[h]
 ·rw[if_neg h]
  have:(decide (w*64+j<n) && x.getLsbD j)=false:=by
   cases e1:decide (w*64+j<n)with
   | false=>rfl
   | true=>
     cases e2:x.getLsbD j with
     | false=>rfl
     | true=>exact absurd ⟨of_decide_eq_true e1,e2⟩ h
  simp only[List.filter_cons,this,Bool.false_eq_true,if_false,List.filter_nil,List.map_nil]
theorem d0e(n w:Nat)(x:BitVec 64)(j:Nat):(R2 n w x j).length≤j:=by
 unfold R2
 rw[List.length_map]
 exact Nat.le_trans (List.length_filter_le _ _) (by simp)
theorem c0f{n w:Nat}{x:BitVec 64}{j:Nat}(h:n≤w*64+j):∀d,R2 n w x (j+d)=R2 n w x j
 | 0=>rfl
 | d+1=>by
   rw[show j+(d+1)=(j+d)+1 from rfl,c0g,c0f h d,if_neg (by omega),List.append_nil]
theorem l0G:∃i z,Tryd.prog.info? 2=some i∧i.zero=some z∧i.size=1∧i.bytes=8∧z.cells.size=1:=g03 (by kernel_rfl)
theorem v0r{xb wb cb wd c:Nat}{k:V0}{ri rph:Int}{rold:BitVec 64}{rdone rok:Bool}{rl:Value}(h:RS xb wb k w)(hc:F3 w cb ⟨5,ri,rph,(wd:Int),rold,rdone,rok,((c:Nat):Int),rl⟩)(hne:cb≠wb)(hne2:cb≠xb)(hl:wd<k.ws.length)(hl2:k.ws.length≤1024)(hn:k.n≤65536)(hcl:c≤100000):
 Calls Tryd.prog 41 #[vP xb 0,vP cb 0] w fun y w'=>y= .returned (.tuple #[])∧RP w w' xb wb cb k ⟨5,ri,rph,(wd:Int)+1,rold,(rdone || decide (wd+1=k.ws.length)),(rok || decide (wd+1=k.ws.length)),((c+(X3 k.n wd (k.wd wd)).length:Nat):Int),rl⟩:=by
 have H:Aside (RS xb wb k w∧F3 w cb ⟨5,ri,rph,(wd:Int),rold,rdone,rok,((c:Nat):Int),rl⟩):=⟨h,hc⟩
 have hwb:Aside (cb≠wb∧cb≠xb):=⟨hne,hne2⟩
 have c1:=(V1 h.o (j:=1) rfl).1
 have c3:=(V1 hc (j:=3) rfl).1
 obtain⟨cw,zw⟩:=h.word hl
 have hl3:(wd:Int)<(k.ws.length:Int):=by omega
 have w1:IntKind.i64.wrap ((wd:Int)*64)=((wd*64:Nat):Int):=by rw[IntWalk.i64_in _ (by omega)];omega
 have w2:IntKind.i64.wrap (((wd*64:Nat):Int)+64)=((wd*64+64:Nat):Int):=by rw[IntWalk.i64_in _ (by omega)];omega
 have w3:IntKind.i64.wrap ((wd:Int)+1)=(wd:Int)+1:=IntWalk.i64_in _ (by omega)
 obtain⟨x,hx⟩:∃x,x=k.wd wd:=⟨_,rfl⟩
 rw[← hx]at cw ⊢
 have S0:Aside (B4 w w cb (⟨5,ri,rph,(wd:Int),rold,rdone,rok,((c+(R2 k.n wd x 0).length:Nat):Int),rl⟩:J4).o):=⟨rfl,hc,fun _ _=>rfl⟩
 clear h hc hx
 go_enter Tryd.func41,Tryd.ntmps41
 go_wp2
 go_quiet (fail)
 have c3':(w.drewN nq).cell? ⟨cb,3,none⟩=some (vI (wd:Nat)):=c3
 have S1:Aside (B4 w (w.drewN nq) cb (⟨5,ri,rph,(wd:Int),rold,rdone,rok,((c+(R2 k.n wd x 0).length:Nat):Int),rl⟩:J4).o):=⟨rfl,S0.out.o,fun _ _=>rfl⟩
 clear S0 c1 c3 cw zw
 generalize w.drewN nq=W0 at c3' S1 ⊢
 go_wp2
 go_loopg [5] 65 (fun g i u=>∃j:Nat,j≤64∧i=vI ((wd*64+j:Nat):Int)∧g=65 - j∧B4 w u cb (⟨5,ri,rph,(wd:Int),rold,rdone,rok,((c+(R2 k.n wd x j).length:Nat):Int),rl⟩:J4).o)
 case atStart=>exact⟨0,Nat.zero_le _,rfl,rfl,S1.out⟩
 case round=>
  obtain⟨j,hj,rfl,rfl,hS⟩:=hrel
  have S:Aside (B4 w wr cb (⟨5,ri,rph,(wd:Int),rold,rdone,rok,((c+(R2 k.n wd x j).length:Nat):Int),rl⟩:J4).o):=hS
  have d0:=(V1 S.out.o (j:=0) rfl).1
  have d3:=(V1 S.out.o (j:=3) rfl).1
  have d7:=(V1 S.out.o (j:=7) rfl).1
  have y3:=(V1 S.out.o (j:=3) rfl).2
  have y5:=(V1 S.out.o (j:=5) rfl).2
  have y6:=(V1 S.out.o (j:=6) rfl).2
  have y7:=(V1 S.out.o (j:=7) rfl).2
  have d5:=(V1 S.out.o (j:=5) rfl).1
  have d6:=(V1 S.out.o (j:=6) rfl).1
  have x0:wr.cell? ⟨xb,0,none⟩=some (vI (k.n:Nat)):=(V1 ((S.out.old _ hwb.out.2.symm).trans H.out.1.o) (j:=0) rfl).1
  have x1:wr.cell? ⟨xb,1,none⟩=some (vL wb 0 k.ws.length k.ws.length):=(V1 ((S.out.old _ hwb.out.2.symm).trans H.out.1.o) (j:=1) rfl).1
  have e0:IntKind.i64.wrap (((wd*64+j:Nat):Int)+1)=((wd*64+(j+1):Nat):Int):=by rw[IntWalk.i64_in _ (by omega)];omega
  have hml:=d0e k.n wd x j
  clear hS
  have END:Aside ((R2 k.n wd x j).length=(X3 k.n wd x).length→B4 w wr cb (⟨5,ri,rph,(wd:Int),rold,rdone,rok,((c+(X3 k.n wd x).length:Nat):Int),rl⟩:J4).o):=by
   have:(R2 k.n wd x j).length=(X3 k.n wd x).length→B4 w wr cb (⟨5,ri,rph,(wd:Int),rold,rdone,rok,((c+(X3 k.n wd x).length:Nat):Int),rl⟩:J4).o:=fun e=>by rw[← e];exact S.out
   exact this
  by_cases hin:j<64∧wd*64+j<k.n
  ·obtain⟨hj2,hlt⟩:=hin
   have b0:decide (((wd*64+j:Nat):Int)<((wd*64+64:Nat):Int))=true:=decide_eq_true (by omega)
   have b0':decide (wd*64+j<wd*64+64)=true:=decide_eq_true (by omega)
   have b1:decide (((wd*64+j:Nat):Int)<(k.n:Int))=true:=decide_eq_true (by omega)
   have b1':decide (wd*64+j<k.n)=true:=decide_eq_true (by omega)
   have hm:(wd*64+j) % 64=j:=by omega
   have B:Aside (Calls Tryd.prog 56 #[vI ((wd*64+j:Nat):Int)] wr fun y w'=>y= .returned (wV (bitI (wd*64+j)))∧w'=wr):=O6 _
   have NS:Aside (R2 k.n wd x (j+1)=R2 k.n wd x j++(if wd*64+j<k.n∧x.getLsbD j=true then[((wd*64+j:Nat):Int)]else[])):=c0g _ _ _ _
   cases hb:x.getLsbD j with
   | false=>
     have hx:(bits .and .u64 (x.toNat:Int) ((bitI (wd*64+j)).toNat:Int) == 0)=true:=by rw[b0O,hm,hb];rfl
     have N2:Aside (R2 k.n wd x (j+1)=R2 k.n wd x j):=by
      have:R2 k.n wd x (j+1)=R2 k.n wd x j:=by rw[NS.out,if_neg (by rw[hb];simp),List.append_nil]
      exact this
     go_wp2_with (go_at_call 56;refine B.out.mono ?_;rintro e u ⟨rfl,hu⟩;subst hu)
     go_roundg (65 - (j+1))
     case measure=>omega
     case rel=>exact⟨j+1,by omega,rfl,rfl,by rw[N2.out];exact S.out⟩
   | true=>
     have hx:(bits .and .u64 (x.toNat:Int) ((bitI (wd*64+j)).toNat:Int) == 0)=false:=by rw[b0O,hm,hb];rfl
     have N2:Aside ((R2 k.n wd x (j+1)).length=(R2 k.n wd x j).length+1):=by
      have:(R2 k.n wd x (j+1)).length=(R2 k.n wd x j).length+1:=by rw[NS.out,if_pos ⟨hlt,hb⟩,List.length_append];rfl
      exact this
     generalize hm2:(R2 k.n wd x j).length=m at*
     have e7:IntKind.i64.wrap (((c+m:Nat):Int)+1)=((c+(m+1):Nat):Int):=by rw[IntWalk.i64_in _ (by omega)];omega
     go_wp2_with (go_at_call 56;refine B.out.mono ?_;rintro e u ⟨rfl,hu⟩;subst hu)
     go_roundg (65 - (j+1))
     case measure=>omega
     case rel=>
      refine⟨j+1,by omega,rfl,rfl,?_⟩
      rw[N2.out]
      have q:=Y1 (k:=7) (v:=vI ((c+(m+1):Nat):Int)) S.out.o
      exact⟨q.size.trans S.out.size,q.o,fun r hr=>(q.old r hr).trans (S.out.old r hr)⟩
  ·have NE:Aside ((R2 k.n wd x j).length=(X3 k.n wd x).length):=by
    have:(R2 k.n wd x j).length=(X3 k.n wd x).length:=by
     rw[← h06]
     by_cases e:j<64
     ·have:=c0f (n:=k.n) (w:=wd) (x:=x) (j:=j) (by omega) (64 - j)
      rw[show j+(64 - j)=64 by omega]at this
      rw[this]
     ·rw[show j=64 by omega]
    exact this
   have P:=END.out NE.out
   have P0:Aside _:=P
   clear P
   have b:64≤j∨(j<64∧k.n≤wd*64+j):=by omega
   have T:Aside (∀u:World,u.heap=(wr.setCell ⟨cb,3,none⟩ (vI ((wd:Int)+1))).heap→B4 w u cb (⟨5,ri,rph,(wd:Int)+1,rold,rdone,rok,((c+(X3 k.n wd x).length:Nat):Int),rl⟩:J4).o):=by
    have:∀u:World,u.heap=(wr.setCell ⟨cb,3,none⟩ (vI ((wd:Int)+1))).heap→B4 w u cb (⟨5,ri,rph,(wd:Int)+1,rold,rdone,rok,((c+(X3 k.n wd x).length:Nat):Int),rl⟩:J4).o:=fun u hu=>by
     have q:=Y1 (k:=3) (v:=vI ((wd:Int)+1)) P0.out.o
     exact⟨by rw[hu];exact q.size.trans P0.out.size,by rw[hu];exact q.o,fun r hr=>by rw[hu];exact(q.old r hr).trans (P0.out.old r hr)⟩
    exact this
   rcases b with b0|⟨b0,b1⟩
   all_goals(
    go_wp2
    have Q:Aside _:=T.out (wr.setCell ⟨cb,3,none⟩ (vI ((wd:Int)+1))) rfl
    have x1':(wr.setCell ⟨cb,3,none⟩ (vI ((wd:Int)+1))).cell? ⟨xb,1,none⟩=some (vL wb 0 k.ws.length k.ws.length):=(V1 ((Q.out.old _ hwb.out.2.symm).trans H.out.1.o) (j:=1) rfl).1
    clear d0 d3 d7 y3 y5 y6 y7 d5 d6 x0 x1 T END S P0 NE
    generalize wr.setCell ⟨cb,3,none⟩ (vI ((wd:Int)+1))=W at Q x1' ⊢
    have d3:=(V1 Q.out.o (j:=3) rfl).1
    have d5:=(V1 Q.out.o (j:=5) rfl).1
    have d6:=(V1 Q.out.o (j:=6) rfl).1
    have y5:=(V1 Q.out.o (j:=5) rfl).2
    have y6:=(V1 Q.out.o (j:=6) rfl).2
    by_cases he:wd+1=k.ws.length
    ·have he1:(((wd:Int)+1) == (k.ws.length:Int))=true:=by simp;omega
     go_quiet (fail)
     rename_i nq
     go_wp2
     go_end0
     refine⟨rfl,?_⟩
     have q:=(Y1 (k:=5) (v:=.bool true) Q.out.o).trans (Y1 (k:=6) (v:=.bool true) (Y1 (k:=5) (v:=.bool true) Q.out.o).o)
     exact RP.of (u:=w) H.out.1 (q.size.trans Q.out.size) (fun r hr=>(q.old r hr).trans (Q.out.old r hr)) hwb.out.1 hwb.out.2 q.o
    ·have he1:(((wd:Int)+1) == (k.ws.length:Int))=false:=by simp;omega
     go_quiet (fail)
     rename_i nq
     go_wp2
     go_end0
     refine⟨rfl,?_⟩
     exact RP.of (u:=w) H.out.1 Q.out.size Q.out.old hwb.out.1 hwb.out.2 Q.out.o)
end
section
def b0w(l:List m9):List Nat:=l.filterMap fun a=>if a.1=true then some a.2.1.toNat else none
def X6(f:Nat→List m9):Nat→List Nat
 | 0=>[]
 | n+1=>X6 f n++b0w (f n)
theorem d0k(l k:List m9):b0w (l++k)=b0w l++b0w k:=by simp[b0w]
theorem b0v{f g:Nat→List m9}:∀n,(∀i,i<n→g i=f i)→X6 g n=X6 f n
 | 0,_=>rfl
 | n+1,h=>by rw[X6,X6,b0v n fun i hi=>h i (by omega),h n (by omega)]
theorem d0j{f g:Nat→List m9}{i:Nat}{l:List m9}(hi:g i=f i++l)(hne:∀j,j≠i→g j=f j):∀n,i<n→(X6 g n).Perm (b0w l++X6 f n)
 | 0,h=>by omega
 | n+1,h=>by
   rw[X6,X6]
   by_cases e:i=n
   ·subst e
    rw[b0v i fun j hj=>hne j (by omega),hi,d0k]
    rw[← List.append_assoc]
    exact List.perm_append_comm
   ·rw[hne n (fun e2=>e e2.symm),← List.append_assoc]
    exact(d0j hi hne n (by omega)).append_right _
def c0Q(f:Nat→Nat):Nat→Nat
 | 0=>0
 | n+1=>c0Q f n+f n
theorem l07{f g:Nat→Nat}{d:Nat}:∀n,(∀j,j<n→g j≤f j+d)→c0Q g n≤c0Q f n+d*n
 | 0,_=>by simp[c0Q]
 | n+1,h=>by
   have h1:=l07 n fun j hj=>h j (by omega)
   have h2:=h n (by omega)
   simp only[c0Q,Nat.mul_succ]
   omega
theorem e0g{f g:Nat→Nat}{d i:Nat}:∀n,i<n→(∀j,j<n→j≠i→g j≤f j+d)→c0Q g n+f i≤c0Q f n+g i+d*n
 | 0,h,_=>by omega
 | n+1,h,hh=>by
   simp only[c0Q,Nat.mul_succ]
   by_cases e:i=n
   ·subst e
    have h1:=l07 (f:=f) (g:=g) (d:=d) i fun j hj=>hh j (by omega) (by omega)
    omega
   ·have h1:=e0g n (by omega) fun j hj hne=>hh j (by omega) hne
    have h2:=hh n (by omega) (fun e2=>e e2.symm)
    omega
def V0.has(s:V0)(x:Nat):Bool:=(s.wd (x / 64)).getLsbD (x % 64)
theorem q02{s:V0}{w j:Nat}(hw:w<s.ws.length)(hj:j<64)(x:Nat):({s with ws:=s.ws.set w (s.wd w ||| bitI j)}:V0).has x=(s.has x || decide (x=w*64+j)):=by
 unfold V0.has V0.wd
 simp only[List.getD_eq_getElem?_getD]
 by_cases e:x / 64=w
 ·rw[e,List.getElem?_set_self hw,Option.getD_some,BitVec.getLsbD_or,U8,Nat.mod_eq_of_lt hj]
  congr 1
  have:(x % 64=j)↔(x=w*64+j):=by omega
  by_cases h2:x % 64=j
  ·simp[h2,this.1 h2];omega
  ·have h3:¬x=w*64+j:=fun h=>h2 (this.2 h)
   simp[h2,h3]
 ·have h3:¬x=w*64+j:=by omega
  rw[List.getElem?_set_ne (fun e2=>e e2.symm)]
  simp[h3]
theorem m0A{s:V0}{w:Nat}(h:G4 s.n w (s.wd w)=none):∀x,x<s.n→x / 64=w→s.has x=true:=fun x hx e=>by
 unfold G4 at h
 rw[List.find?_eq_none]at h
 have:=h (x % 64) (by simp;omega)
 have e2:w*64+x % 64=x:=by omega
 rw[e2]at this
 unfold V0.has
 rw[e]
 simpa [hx]using this
structure CT(q:V0)(l:List P3)(t:GT BPl):Prop where
 k:t.k≤l.length
 al:List.length (α:=m9) t.ans=t.k
 an:∀a:m9,a∈(t.ans:List m9)→(∃x:Nat,a=(true,(x:Int),[]))∨(a=(false,0,[])∧∀x,x<q.n→q.has x=true)
 c0:t.call=none→t.k=l.length
 c1:∀c:p9,t.call=some c→t.k<l.length∧c.kd=4∧c.w<q.ws.length∧(c.ph=0∨c.ph=1∧∃j,G4 q.n c.w c.old=some j)∧∀x,x<q.n→x<64*c.w→q.has x=true
theorem CT.mono{q q':V0}{l:List P3}{t:GT BPl}(h:CT q l t)(hn:q'.n=q.n)(hl:q'.ws.length=q.ws.length)(hh:∀x,q.has x=true→q'.has x=true):CT q' l t:=
 ⟨h.k,h.al,fun a ha=>(h.an a ha).imp id fun⟨e,h2⟩=>⟨e,fun x hx=>hh x (h2 x (hn ▸ hx))⟩,h.c0,fun c hc=>by
  obtain⟨a,b,d,e,f⟩:=h.c1 c hc
  exact⟨a,b,hl ▸ d,by rw[hn];exact e,fun x hx h64=>hh x (f x (hn ▸ hx) h64)⟩⟩
def b0u(q:V0)(c:p9):Nat:=3*(q.ws.length - c.w)+(if c.ph=0 then 2 else if q.wd c.w=c.old then 1 else 3)
def Z8(q:V0)(K len:Nat)(t:GT BPl):Nat:=(len - t.k)*K+(match t.call with
 | none=>0
 | some c=>b0u q c)
theorem m06{q:V0}(hq:q.ws.length=0):∀(l:List P3) (k:Nat) (ans:List m9),(∀o∈l,o.kd=4)→K4 BPl l q ⟨k,none,ans⟩=(q,⟨k+l.length,none,ans++List.replicate l.length (false,0,[])⟩)
 | [],k,ans,_=>by
   show(q,(⟨k,none,ans⟩:GT BPl))=(q,(⟨k,none,(ans++[]:List m9)⟩:GT BPl))
   rw[List.append_nil]
 | o::l,k,ans,h=>by
   have e:BPl.beg q o=(q,.inr (false,0,[])):=by
    show V0.begin q o=_
    have h4:o.kd=4:=h o (by simp)
    simp[V0.begin,h4,hq]
    rfl
   have ih:=m06 hq l (k+1) (ans++[(false,0,[])]) fun o ho=>h o (by simp[ho])
   simp only[K4]
   rw[e]
   refine ih.trans ?_
   show(q,(⟨k+1+l.length,none,(ans++[(false,0,[])]++List.replicate l.length (false,0,[]):List m9)⟩:GT BPl))=(q,(⟨k+(o::l).length,none,(ans++List.replicate (o::l).length (false,0,[]):List m9)⟩:GT BPl))
   rw[List.length_cons,List.replicate_succ,List.append_assoc,Nat.add_right_comm]
   rfl
theorem m01{q:V0}(hwf:BWf q){l:List P3}(hl:∀o∈l,o.kd=4){k:Nat}{ans:List m9}(hk:k≤l.length)(hal:ans.length=k)(han:∀a∈ans,(∃x:Nat,a=(true,(x:Int),[]))∨(a=(false,0,[])∧∀x,x<q.n→q.has x=true))(K:Nat):
 ∃(t:GT BPl) (r:List m9),K4 BPl (l.drop k) q ⟨k,none,ans⟩=(q,t)∧CT q l t∧(t.ans:List m9)=ans++r∧b0w r=[]∧Z8 q K l.length t≤(l.length - k)*K+(3*q.ws.length+2):=by
 by_cases e:k=l.length
 ·refine⟨⟨k,none,ans⟩,[],?_,⟨hk,hal,han,fun _=>e,(fun c hc=>by cases hc)⟩,(List.append_nil ans).symm,rfl,?_⟩
  ·rw[e,List.drop_length];rfl
  ·simp[Z8]
 ·by_cases h0:q.ws.length=0
  ·have hn:q.n=0:=by have:=hwf.l;omega
   refine⟨_,List.replicate (l.length - k) (false,0,[]),m06 h0 _ _ _ fun o ho=>hl o (List.mem_of_mem_drop ho),⟨?_,?_,?_,fun _=>?_,(fun c hc=>by cases hc)⟩,?_,?_,?_⟩
   ·simp;omega
   ·show(ans++List.replicate (l.drop k).length _).length=k+(l.drop k).length
    simp[hal]
   ·intro a ha
    have ha:a∈ans++List.replicate (l.drop k).length (false,0,[]):=ha
    rcases List.mem_append.1 ha with h|h
    ·exact han a h
    ·refine .inr ⟨(List.mem_replicate.1 h).2,fun x hx=>by omega⟩
   ·show k+(l.drop k).length=l.length
    simp;omega
   ·show ans++List.replicate (l.drop k).length _=_
    simp
    rfl
   ·unfold b0w
    rw[List.filterMap_eq_nil_iff]
    intro a ha
    rw[(List.mem_replicate.1 ha).2]
    simp
   ·have:l.length - (k+(l.drop k).length)=0:=by simp;omega
    unfold Z8
    simp only[this]
    omega
  ·have hlt:k<l.length:=by omega
   refine⟨⟨k,some (⟨4,0,0,0,0#64,[]⟩:p9),ans⟩,[],?_,⟨hk,hal,han,(fun h=>by cases h),fun c hc=>?_⟩,(List.append_nil ans).symm,rfl,?_⟩
   ·rw[List.drop_eq_getElem_cons hlt]
    have e4:l[k].kd=4:=hl _ (List.getElem_mem hlt)
    have eb:BPl.beg q l[k]=(q,.inl (⟨4,0,0,0,0#64,[]⟩:p9)):=by
     show V0.begin q l[k]=_
     simp[V0.begin,e4,h0]
     try rfl
    simp only[K4]
    rw[eb]
    rfl
   ·have hc:some (⟨4,0,0,0,0#64,[]⟩:p9)=some c:=hc
    cases hc
    exact⟨hlt,rfl,by show 0<_;omega,.inl rfl,fun x _ h=>by simp at h⟩
   ·simp[Z8,b0u]
end
section
section
variable{m:Pl}{ops:Nat→List P3}{n M:Nat}{I:GS m→Nat→Prop}
end
theorem e0f{m:Pl}{ops:List P3}{q q':m.S}{t:GT m}{c c':m.C}(hc:t.call=some c)(h:m.stp q c=(q',.inl c')):stpG m ops q t=(q',⟨t.k,some c',t.ans⟩):=by simp[stpG,hc,h]
theorem h0D{m:Pl}{ops:List P3}{q q':m.S}{t:GT m}{c:m.C}{a:m.A}(hc:t.call=some c)(h:m.stp q c=(q',.inr a)):stpG m ops q t=K4 m (ops.drop (t.k+1)) q' ⟨t.k+1,none,t.ans++[a]⟩:=by simp[stpG,hc,h]
structure CI(in0:Nat→Bool)(n K B:Nat)(ops:Nat→List P3)(s:GS BPl)(t:Nat):Prop where
 wf:BWf s.q
 th:∀i,i<n→CT s.q (ops i) (s.th i)
 mem:∀x,x<(V0.n s.q)→((V0.has s.q) x=true↔in0 x=true∨x∈X6 (fun i=>(s.th i).ans) n)
 nd:(X6 (fun i=>(s.th i).ans) n).Nodup
 new:∀x∈X6 (fun i=>(s.th i).ans) n,x<(V0.n s.q)∧in0 x=false
 phi:t+c0Q (fun i=>Z8 s.q K (ops i).length (s.th i)) n≤B
theorem j0D{q q':V0}{K len:Nat}{t:GT BPl}(hl:q'.ws.length=q.ws.length):Z8 q' K len t≤Z8 q K len t+2:=by
 unfold Z8
 split
 ·omega
 ·unfold b0u
  rw[hl]
  split
  ·omega
  ·split<;>split<;>omega
theorem f0U{s:V0}{c:p9}(hp:c.ph=0)(hf:G4 s.n c.w (s.wd c.w)=none)(hw:c.w+1=s.ws.length):s.claim c=(s,.inr (false,0,[])):=by simp[V0.claim,hp,hf,hw]
theorem j0x{s:V0}{c:p9}(hp:c.ph=0)(hf:G4 s.n c.w (s.wd c.w)=none)(hw:¬c.w+1=s.ws.length):s.claim c=(s,.inl {c with w:=c.w+1}):=by simp[V0.claim,hp,hf,hw]
theorem m0j{s:V0}{c:p9}{j:Nat}(hp:c.ph=0)(hf:G4 s.n c.w (s.wd c.w)=some j):s.claim c=(s,.inl {c with ph:=1,old:=s.wd c.w}):=by simp[V0.claim,hp,hf]
theorem m0k{s:V0}{c:p9}{j:Nat}(hp:c.ph=1)(hf:G4 s.n c.w c.old=some j)(hw:s.wd c.w=c.old):s.claim c=({s with ws:=s.ws.set c.w (s.wd c.w ||| bitI j)},.inr (true,((c.w*64+j:Nat):Int),[])):=by simp[V0.claim,hp,hf,hw]
theorem j0w{s:V0}{c:p9}(hp:c.ph=1)(hw:¬s.wd c.w=c.old):s.claim c=(s,.inl {c with ph:=0}):=by simp[V0.claim,hp,hw]
theorem p0h{s:V0}{w j:Nat}(h:G4 s.n w (s.wd w)=some j):j<64∧w*64+j<s.n∧s.has (w*64+j)=false:=by
 obtain⟨h1,h2,h3,_,_⟩:=b0P h
 refine⟨h1,h2,?_⟩
 unfold V0.has
 rw[show(w*64+j) / 64=w by omega,show(w*64+j) % 64=j by omega]
 exact h3
section
variable{in0:Nat→Bool}{n K B:Nat}{ops:Nat→List P3}{s:GS BPl}{t:Nat}
theorem CI.one(h:CI in0 n K B ops s t){i:Nat}(hi:i<n){t':GT BPl}(hans:(t'.ans:List m9)=(s.th i).ans)(hct:CT s.q (ops i) t')(hphi:Z8 s.q K (ops i).length t'+1≤Z8 s.q K (ops i).length (s.th i)):CI in0 n K B ops (s.put i (s.q,t')) (t+1):=by
 have hth:∀j,(s.put i (s.q,t')).th j=if j=i then t' else s.th j:=fun j=>rfl
 have hw:X6 (fun j=>((s.put i (s.q,t')).th j).ans) n=X6 (fun j=>(s.th j).ans) n:=b0v n fun j _=>by
  rw[hth]
  split
  ·rename_i e;subst e;exact hans
  ·rfl
 refine⟨h.wf,fun j hj=>?_,fun x hx=>?_,by rw[hw];exact h.nd,fun x hx=>h.new x (hw ▸ hx),?_⟩
 ·rw[hth]
  split
  ·rename_i e;subst e;exact hct
  ·exact h.th j hj
 ·rw[hw];exact h.mem x hx
 ·have h1:=e0g (f:=fun j=>Z8 s.q K (ops j).length (s.th j)) (g:=fun j=>Z8 s.q K (ops j).length ((s.put i (s.q,t')).th j)) (d:=0) n hi fun j hj hne=>by
   simp only[hth,if_neg hne];omega
  have h2:=h.phi
  simp only[hth,if_true]at h1
  have hsum:c0Q (fun j=>Z8 (s.put i (s.q,t')).q K (ops j).length ((s.put i (s.q,t')).th j)) n=c0Q (fun j=>Z8 s.q K (ops j).length (if j=i then t' else s.th j)) n:=rfl
  rw[hsum]
  omega
theorem CI.step'{q:V0}{th:Nat→GT BPl}(hK:3*q.ws.length+2*n+3≤K)(hops:∀i,i<n→∀o∈ops i,o.kd=4)(h:CI in0 n K B ops ⟨q,th⟩ t){i:Nat}(hi:i<n){c:p9}(hc:(th i).call=some c):CI in0 n K B ops (GS.put (m:=BPl) ⟨q,th⟩ i (stpG BPl (ops i) q (th i))) (t+1):=by
 have hct:CT q (ops i) (th i):=h.th i hi
 have hwf:BWf q:=h.wf
 have hmem:∀x,x<q.n→(q.has x=true↔in0 x=true∨x∈X6 (fun i=>(th i).ans) n):=h.mem
 have hnd:(X6 (fun i=>(th i).ans) n).Nodup:=h.nd
 have hnew:∀x∈X6 (fun i=>(th i).ans) n,x<q.n∧in0 x=false:=h.new
 have hphi:t+c0Q (fun i=>Z8 q K (ops i).length (th i)) n≤B:=h.phi
 obtain⟨hk,h4,hw,hp,hbelow⟩:=hct.c1 c hc
 have hstep:BPl.stp q c=V0.claim q c:=by
  show V0.step q c=_
  unfold V0.step
  rw[if_pos h4]
 obtain⟨an,han⟩:∃an:List m9,an=(th i).ans:=⟨_,rfl⟩
 have hthi:th i=(⟨(th i).k,some c,an⟩:GT BPl):=by
  have e:th i=⟨(th i).k,(th i).call,(th i).ans⟩:=rfl
  rw[hc]at e
  exact e.trans (by rw[han];rfl)
 have hal:an.length=(th i).k:=by rw[han];exact hct.al
 have hphi0:Z8 q K (ops i).length (th i)=((ops i).length - (th i).k)*K+b0u q c:=by
  rw[hthi]
  rfl
 have hmul:((ops i).length - (th i).k)*K=((ops i).length - ((th i).k+1))*K+K:=by
  rw[show(ops i).length - (th i).k=((ops i).length - ((th i).k+1))+1 by omega,Nat.succ_mul]
 have hcan:∀a:m9,a∈an→(∃x:Nat,a=(true,(x:Int),[]))∨(a=(false,0,[])∧∀x,x<q.n→q.has x=true):=fun a ha=>hct.an a (by rw[han]at ha;exact ha)
 rcases hp with hp|⟨hp,j,hj⟩
 ·cases hf:G4 q.n c.w (q.wd c.w)with
  | none=>
    have hfull:=m0A hf
    by_cases he:c.w+1=q.ws.length
    ·-- refused
     have hs:=h0D (ops:=ops i) hc (hstep.trans (f0U hp hf he))
     have hall:∀x,x<q.n→q.has x=true:=fun x hx=>by
      rcases Nat.lt_or_ge x (64*c.w)with h1|h1
      ·exact hbelow x hx h1
      ·refine hfull x hx ?_
       have:=hwf.l
       omega
     obtain⟨t',r,e1,e2,e3,e4,e5⟩:=m01 (q:=q) hwf (hops i hi) (k:=(th i).k+1) (ans:=an++[(false,0,[])]) (by omega) (by rw[List.length_append,hal];rfl) (fun a ha=>by
      rcases List.mem_append.1 ha with ha|ha
      ·exact hcan a ha
      ·exact .inr ⟨by simpa using ha,hall⟩) K
     rw[← han]at hs
     rw[hs.trans e1]
     have hwT:b0w ([(false,0,[])]++r)=[]:=by rw[d0k,e4];rfl
     have hth:∀j,(GS.put (m:=BPl) ⟨q,th⟩ i (q,t')).th j=if j=i then t' else th j:=fun j=>rfl
     have hpw:=d0j (f:=fun j=>(th j).ans) (g:=fun j=>((GS.put (m:=BPl) ⟨q,th⟩ i (q,t')).th j).ans) (i:=i) (l:=[(false,0,[])]++r) (by rw[hth,if_pos rfl,← han];exact e3.trans (List.append_assoc _ _ _)) (fun j hj=>by rw[hth,if_neg hj]) n hi
     rw[hwT,List.nil_append]at hpw
     refine⟨hwf,fun j hj=>?_,fun x hx=>(hmem x hx).trans (or_congr Iff.rfl (hpw.mem_iff).symm),hpw.nodup_iff.2 hnd,fun x hx=>hnew x (hpw.mem_iff.1 hx),?_⟩
     ·show CT q (ops j) (if j=i then t' else th j)
      split
      ·rename_i e;subst e;exact e2
      ·exact h.th j hj
     ·have h1:=e0g (f:=fun j=>Z8 q K (ops j).length (th j)) (g:=fun j=>Z8 q K (ops j).length (if j=i then t' else th j)) (d:=0) n hi fun j hj hne=>by
       simp only[if_neg hne];omega
      simp only[if_true]at h1
      show t+1+c0Q (fun j=>Z8 q K (ops j).length (if j=i then t' else th j)) n≤B
      omega
    ·-- on to the next word
     rw[e0f (ops:=ops i) hc (hstep.trans (j0x hp hf he))]
     refine h.one hi rfl ⟨hct.k,hct.al,hct.an,(fun h=>by cases h),fun c' hc'=>?_⟩ ?_
     ·have hc':some {c with w:=c.w+1}=some c':=hc'
      cases hc'
      refine⟨hk,h4,?_,.inl hp,fun x hx h64=>?_⟩
      ·show c.w+1<q.ws.length
       omega
      ·rcases Nat.lt_or_ge x (64*c.w)with h1|h1
       ·exact hbelow x hx h1
       ·have h64:x<64*(c.w+1):=h64
        exact hfull x hx (by omega)
     ·show((ops i).length - (th i).k)*K+b0u q {c with w:=c.w+1}+1≤Z8 q K (ops i).length (th i)
      rw[hphi0]
      unfold b0u
      simp only[if_pos hp]
      omega
  | some j=>
    rw[e0f (ops:=ops i) hc (hstep.trans (m0j hp hf))]
    refine h.one hi rfl ⟨hct.k,hct.al,hct.an,(fun h=>by cases h),fun c' hc'=>?_⟩ ?_
    ·have hc':some {c with ph:=1,old:=q.wd c.w}=some c':=hc'
     cases hc'
     exact⟨hk,h4,hw,.inr ⟨rfl,j,hf⟩,hbelow⟩
    ·show((ops i).length - (th i).k)*K+b0u q {c with ph:=1,old:=q.wd c.w}+1≤Z8 q K (ops i).length (th i)
     have x0:b0u q {c with ph:=1,old:=q.wd c.w}=3*(q.ws.length - c.w)+1:=by simp[b0u]
     have x1:b0u q c=3*(q.ws.length - c.w)+2:=by simp[b0u,hp]
     rw[hphi0,x0,x1]
     omega
 ·by_cases hv:q.wd c.w=c.old
  ·-- won
   have hj':G4 q.n c.w (q.wd c.w)=some j:=by rw[hv];exact hj
   obtain⟨f1,f2,f3⟩:=p0h hj'
   have hs:=h0D (ops:=ops i) hc (hstep.trans (m0k hp hj hv))
   generalize hq':({q with ws:=q.ws.set c.w (q.wd c.w ||| bitI j)}:V0)=q' at hs
   have hhas:∀x,q'.has x=(q.has x || decide (x=c.w*64+j)):=fun x=>by
    rw[← hq'];exact q02 hw f1 x
   have hn':q'.n=q.n:=by rw[← hq']
   have hl':q'.ws.length=q.ws.length:=by rw[← hq'];simp
   have hwf':BWf q':=by
    refine⟨by rw[hl',hn'];exact hwf.l,by rw[hn'];exact hwf.n,?_⟩
    rw[← hq']
    refine h0y (n:=q.n) hwf.hi fun y hy=>?_
    rw[BitVec.getLsbD_or,hwf.hi _ _ hy,U8,Nat.mod_eq_of_lt f1]
    simp
    omega
   have hmono:∀x,q.has x=true→q'.has x=true:=fun x hx=>by rw[hhas,hx];rfl
   obtain⟨t',r,e1,e2,e3,e4,e5⟩:=m01 (q:=q') hwf' (hops i hi) (k:=(th i).k+1) (ans:=an++[(true,((c.w*64+j:Nat):Int),[])]) (by omega) (by rw[List.length_append,hal];rfl) (fun a ha=>by
    rcases List.mem_append.1 ha with ha|ha
    ·exact(hcan a ha).imp id fun⟨x1,x2⟩=>⟨x1,fun x hx=>hmono x (x2 x (hn' ▸ hx))⟩
    ·exact .inl ⟨_,List.mem_singleton.1 ha⟩) K
   rw[← han]at hs
   rw[hs.trans e1]
   have hwT:b0w ([(true,((c.w*64+j:Nat):Int),[])]++r)=[c.w*64+j]:=by
    rw[d0k,e4]
    simp only[b0w,List.filterMap_cons,if_true,List.filterMap_nil,List.append_nil,Int.toNat_natCast]
   have hth:∀j,(GS.put (m:=BPl) ⟨q,th⟩ i (q',t')).th j=if j=i then t' else th j:=fun j=>rfl
   have hpw:=d0j (f:=fun j=>(th j).ans) (g:=fun j=>((GS.put (m:=BPl) ⟨q,th⟩ i (q',t')).th j).ans) (i:=i) (l:=[(true,((c.w*64+j:Nat):Int),[])]++r) (by rw[hth,if_pos rfl,← han];exact e3.trans (List.append_assoc _ _ _)) (fun j hj=>by rw[hth,if_neg hj]) n hi
   rw[hwT,List.singleton_append]at hpw
   have hnot:c.w*64+j ∉ X6 (fun i=>(th i).ans) n:=fun hm=>by
    have:=(hmem (c.w*64+j) f2).2 (.inr hm)
    rw[f3]at this
    cases this
   have hin0:in0 (c.w*64+j)=false:=by
    cases hx:in0 (c.w*64+j)with
    | false=>rfl
    | true=>
      have:=(hmem (c.w*64+j) f2).2 (.inl hx)
      rw[f3]at this
      cases this
   refine⟨hwf',fun j' hj=>?_,fun x hx=>?_,hpw.nodup_iff.2 (List.nodup_cons.2 ⟨hnot,hnd⟩),fun x hx=>?_,?_⟩
   ·show CT q' (ops j') (if j'=i then t' else th j')
    split
    ·rename_i e;subst e;exact e2
    ·exact(h.th j' hj).mono hn' hl' hmono
   ·have hx:x<q'.n:=hx
    have h1:=hmem x (hn' ▸ hx)
    refine Iff.trans ?_ (or_congr Iff.rfl hpw.mem_iff.symm)
    show q'.has x=true↔_
    rw[hhas,Bool.or_eq_true,decide_eq_true_iff,List.mem_cons]
    constructor
    ·rintro(h2|h2)
     ·exact(h1.1 h2).imp id .inr
     ·exact .inr (.inl h2)
    ·rintro(h2|h2|h2)
     ·exact .inl (h1.2 (.inl h2))
     ·exact .inr h2
     ·exact .inl (h1.2 (.inr h2))
   ·show x<q'.n∧_
    rw[hn']
    rcases List.mem_cons.1 (hpw.mem_iff.1 hx)with rfl|h2
    ·exact⟨f2,hin0⟩
    ·exact hnew x h2
   ·have h1:=e0g (f:=fun j=>Z8 q K (ops j).length (th j)) (g:=fun j=>Z8 q' K (ops j).length (if j=i then t' else th j)) (d:=2) n hi fun j hj hne=>by
     simp only[if_neg hne];exact j0D hl'
    simp only[if_true]at h1
    show t+1+c0Q (fun j=>Z8 q' K (ops j).length (if j=i then t' else th j)) n≤B
    rw[hl']at e5
    have h0:0≤b0u q c:=Nat.zero_le _
    omega
  ·rw[e0f (ops:=ops i) hc (hstep.trans (j0w hp hv))]
   refine h.one hi rfl ⟨hct.k,hct.al,hct.an,(fun h=>by cases h),fun c' hc'=>?_⟩ ?_
   ·have hc':some {c with ph:=0}=some c':=hc'
    cases hc'
    exact⟨hk,h4,hw,.inl rfl,hbelow⟩
   ·show((ops i).length - (th i).k)*K+b0u q {c with ph:=0}+1≤Z8 q K (ops i).length (th i)
    have x0:b0u q {c with ph:=0}=3*(q.ws.length - c.w)+2:=by simp[b0u]
    have x1:b0u q c=3*(q.ws.length - c.w)+3:=by simp[b0u,hp,hv]
    rw[hphi0,x0,x1]
    omega
theorem CI.step(hK:3*(V0.ws s.q).length+2*n+3≤K)(hops:∀i,i<n→∀o∈ops i,o.kd=4)(h:CI in0 n K B ops s t){i:Nat}(hi:i<n){c:p9}(hc:(s.th i).call=some c):CI in0 n K B ops (s.put i (stpG BPl (ops i) s.q (s.th i))) (t+1):=
 CI.step' (q:=s.q) (th:=s.th) hK hops h hi hc
end
end
section
section
variable{m:Pl}{ops:Nat→List P3}{n M:Nat}
variable{I:m.S→Prop}(hb:∀s o,I s→I (m.beg s o).1)(hs:∀s c,I s→I (m.stp s c).1)
end
structure g01(N:Nat)(in0:Nat→Bool)(n:Nat)(ops:Nat→List P3)(s:GS BPl):Prop where
 live:L5 s.live n=0
 sz:V0.n s.q=N
 wf:BWf s.q
 len:∀i,i<n→List.length (α:=m9) (s.th i).ans=(ops i).length
 an:∀i,i<n→∀a:m9,a∈((s.th i).ans:List m9)→(∃x:Nat,a=(true,(x:Int),[]))∨(a=(false,0,[])∧∀x,x<N→V0.has s.q x=true)
 mem:∀x,x<N→(V0.has s.q x=true↔in0 x=true∨x∈X6 (fun i=>(s.th i).ans) n)
 nd:(X6 (fun i=>(s.th i).ans) n).Nodup
 new:∀x∈X6 (fun i=>(s.th i).ans) n,x<N∧in0 x=false
end
section
variable{w w':World}
structure Old(w w':World):Prop where
 sz:w.heap.size≤w'.heap.size
 eq:∀r,r<w.heap.size→w'.heap[r]? =w.heap[r]?
theorem Old.refl(w:World):Old w w:=⟨Nat.le_refl _,fun _ _=>rfl⟩
theorem Old.of(h:w'.heap=w.heap):Old w w':=⟨by rw[h];exact Nat.le_refl _,fun r _=>by rw[h]⟩
theorem Old.trans{u:World}(h:Old w w')(k:Old w' u):Old w u:=⟨Nat.le_trans h.sz k.sz,fun r hr=>(k.eq r (Nat.lt_of_lt_of_le hr h.sz)).trans (h.eq r hr)⟩
theorem Old.cell(h:Old w w'){a:Addr}{v:Value}(hc:w.cell? a=some v):w'.cell? a=some v:=by
 obtain⟨c,e,z,ho⟩:=M3 hc
 have:=h.eq _ (Q3 ho)
 rw[← hc]
 unfold World.cell?
 simp only[this]
theorem B5.grow{a:Option Addr}{xs:List Value}(h:B5 w a xs)(k:Old w w'):B5 w' a xs:=
 ⟨fun j x hx=>by
  obtain⟨b,o,h1,h2⟩:=h.c j x hx
  exact⟨b,o,h1,k.cell h2⟩⟩
def opC(l:List P3):List Value:=(l.map fun o=>[Value.int .i64 o.kd,vI o.a,vI o.b,vI o.c]).flatten
theorem r0m(l m:List P3):opC (l++m)=opC l++opC m:=by simp[opC]
theorem a0x(l:List P3):∀k o,l[k]? =some o→(opC l)[k*4]? =some (vI o.kd)∧(opC l)[k*4+1]? =some (vI o.a)∧(opC l)[k*4+2]? =some (vI o.b)∧(opC l)[k*4+3]? =some (vI o.c):=by
 induction l with
 | nil=>intro k o h;simp at h
 | cons x l ih=>
   intro k o h
   have e:opC (x::l)=Value.int .i64 x.kd::vI x.a::vI x.b::vI x.c::opC l:=rfl
   cases k with
   | zero=>
     simp only[List.getElem?_cons_zero,Option.some.injEq]at h
     subst h
     simp[e]
   | succ k=>
     have:=ih k o (by simpa using h)
     have e2:(k+1)*4=k*4+1+1+1+1:=by omega
     rw[e,e2]
     simpa using this
structure j01(w wr:World)(ov:Value)(l:List P3):Prop where
 row:wr.ownsRow 0 44 4 ov l.length (opC l)
 size:w.heap.size≤wr.heap.size
 old:∀r,r<w.heap.size→wr.heap[r]? =w.heap[r]?
 new:∀g,ov.ownBlock=some g→w.heap.size≤g
structure b0y(w wr:World)(ov:Value)(i:Nat)(xa:Nat→Option Addr)(xc:Nat→Nat)(ops:Nat→List P3):Prop where
 row:wr.ownsRow 0 32 1 ov i ((List.range i).map fun r=>.slice (xa r) (ops r).length (xc r))
 new:∀g,ov.ownBlock=some g→w.heap.size≤g
 old:Old w wr
 inn:∀r,r<i→wr.ownsRow 0 44 4 (.slice (xa r) (ops r).length (xc r)) (ops r).length (opC (ops r))∧∀g,(Value.slice (xa r) (ops r).length (xc r)).ownBlock=some g→w.heap.size≤g
theorem j01.app{wr w1:World}{oa:Option Addr}{oc g cap k:Nat}{l:List P3}{o:P3}{ob:Obj}(h:j01 w wr (.slice oa l.length oc) l)(hk:l.length=k)
 (hown:w1.ownsRow 0 44 4 (vL g 0 (k+1) cap) (k+1) (opC l++[vI o.kd,vI o.a,vI o.b,vI o.c])) (hgrow:(wr.alloc ob).grownBy w1 (Value.slice oa k oc).ownBlock)
 (hfr:(Value.slice (some ⟨g,0,none⟩) (k+1) cap).ownBlock=(Value.slice oa k oc).ownBlock∨∃g',(Value.slice (some ⟨g,0,none⟩) (k+1) cap).ownBlock=some g'∧wr.heap.size+1≤g'):j01 w w1 (vL g 0 (k+1) cap) (l++[o]):=by
 subst hk
 have hs:=h.size
 have hgs:=hgrow.size
 simp only[World.size_alloc]at hgs
 refine⟨?_,by omega,fun r hr=>(K3 hgrow (by omega) fun e=>?_).trans (h.old r hr),fun g' hg=>?_⟩
 ·rw[r0m,show(l++[o]).length=l.length+1 by simp]
  exact hown
 ·have:=h.new r e.symm
  omega
 ·rcases hfr with e|⟨g2,e1,e2⟩
  ·exact h.new g' (by rw[← e];exact hg)
  ·rw[hg]at e1
   cases e1
   omega
theorem p08{base n size:Nat}{e:TypeId}{v:Value}{xs:List Value}(h:w.ownsRow base e size v n xs)(hk:∀b c,v.ownBlock=some b→w.heap[b]? =some (.cells c e (0,0))→w'.heap[b]? =w.heap[b]?):w'.ownsRow base e size v n xs:=by
 refine⟨h.1,?_⟩
 rcases h.2 with h2|⟨b,cap,cur,rfl,h3,h4,h5⟩
 ·exact .inl h2
 ·exact .inr ⟨b,cap,cur,rfl,h3,(hk b cur rfl h4).trans h4,h5⟩
theorem b0y.app{w1 wr w3:World}{oa pa:Option Addr}{oc pc i j g cap:Nat}{xa:Nat→Option Addr}{xc:Nat→Nat}{ops:Nat→List P3}{ob:Obj}(h:b0y w w1 (.slice oa i oc) i xa xc ops)(p:j01 w1 wr (.slice pa j pc) (ops i))(hj:(ops i).length=j)
 (hown:w3.ownsRow 0 32 1 (vL g 0 (i+1) cap) (i+1) ((List.range i).map (fun r=>Value.slice (xa r) (ops r).length (xc r))++[.slice pa j pc])) (hgrow:(wr.alloc ob).grownBy w3 (Value.slice oa i oc).ownBlock)
 (hfr:(Value.slice (some ⟨g,0,none⟩) (i+1) cap).ownBlock=(Value.slice oa i oc).ownBlock∨∃g',(Value.slice (some ⟨g,0,none⟩) (i+1) cap).ownBlock=some g'∧wr.heap.size+1≤g'):
 b0y w w3 (vL g 0 (i+1) cap) (i+1) (fun r=>if r=i then pa else xa r) (fun r=>if r=i then pc else xc r) ops:=by
 have hs:=p.size
 have hs0:=h.old.sz
 have hgs:=hgrow.size
 simp only[World.size_alloc]at hgs
 have hrow:wr.ownsRow 0 32 1 (.slice oa i oc) i ((List.range i).map fun r=>.slice (xa r) (ops r).length (xc r)):=p08 h.row fun b c _ hb=>p.old b (Q3 hb)
 have hkeep:∀(b:Nat) (c:Array Value),wr.heap[b]? =some (Obj.cells c 44 (0,0))→w3.heap[b]? =wr.heap[b]?:=fun b c hb=>K3 hgrow (Q3 hb) (Q9 hrow hb (by decide))
 refine⟨?_,fun g' hg=>?_,⟨by omega,fun r hr=>(K3 hgrow (by omega) fun e=>?_).trans ((p.old r (by omega)).trans (h.old.eq r hr))⟩,fun r hr=>?_⟩
 ·have e:(List.range (i+1)).map (fun r=>Value.slice (if r=i then pa else xa r) (ops r).length (if r=i then pc else xc r))=(List.range i).map (fun r=>Value.slice (xa r) (ops r).length (xc r))++[.slice pa j pc]:=by
   rw[List.range_succ,List.map_append]
   congr 1
   ·refine List.map_congr_left fun r hr=>?_
    have:=List.mem_range.1 hr
    rw[if_neg (by omega),if_neg (by omega)]
   ·simp[hj]
  rw[e]
  exact hown
 ·rcases hfr with e|⟨g2,e1,e2⟩
  ·exact h.new g' (by rw[← e];exact hg)
  ·rw[hg]at e1
   cases e1
   omega
 ·have:=h.new r e.symm
  omega
 ·by_cases e:r=i
  ·subst e
   simp only[if_pos]
   rw[hj]
   have hp:=p.row
   rw[hj]at hp
   exact⟨p08 hp fun b c _ hb=>hkeep b c hb,fun g hg=>by have:=p.new g hg;omega⟩
  ·simp only[if_neg e]
   obtain⟨h1,h2⟩:=h.inn r (by omega)
   exact⟨p08 h1 fun b c _ hb=>by
    have e1:=p.old b (Q3 hb)
    exact(hkeep b c (e1.trans hb)).trans e1,h2⟩
theorem b0y.base{w0 wr:World}{ov:Value}{i:Nat}{xa:Nat→Option Addr}{xc:Nat→Nat}{ops:Nat→List P3}(h:b0y w wr ov i xa xc ops)(e:w0.heap=w.heap):b0y w0 wr ov i xa xc ops:=
 ⟨h.row,fun g hg=>by rw[e];exact h.new g hg,⟨by rw[e];exact h.old.sz,fun r hr=>by rw[e]at hr ⊢;exact h.old.eq r hr⟩,fun r hr=>⟨(h.inn r hr).1,fun g hg=>by rw[e];exact(h.inn r hr).2 g hg⟩⟩
theorem S2{base n size:Nat}{e:TypeId}{v:Value}{xs:List Value}(h:w.ownsRow base e size v n xs):∃a c,v= .slice a n c:=by
 rcases h.2 with⟨rfl,rfl⟩|⟨g,cap,cur,rfl,_⟩
 ·exact⟨_,_,rfl⟩
 ·exact⟨_,_,rfl⟩
structure t0t(w:World)(la:Option Addr)(B:List Nat):Prop where
 c:∀r x,B[r]? =some x→∃b o,la=some ⟨b,o,none⟩∧w.cell? ⟨b,o+r,none⟩=some (.int .u8 (x:Nat))∧x<256
theorem t0t.grow{la:Option Addr}{B:List Nat}(h:t0t w la B)(k:Old w w'):t0t w' la B:=⟨fun r x hx=>by
 obtain⟨b,o,h1,h2,h3⟩:=h.c r x hx
 exact⟨b,o,h1,k.cell h2,h3⟩⟩
end
section
variable{w w' u:World}
structure LK(w u:World)(cb:Nat)(rc:J4)(lv0:Value)(ys:List Int):Prop where
 c:F3 u cb rc
 row:u.ownsRow 0 2 1 rc.l ys.length (ys.map fun v=>vI v)
 sz:w.heap.size≤u.heap.size
 o:∀r,r<w.heap.size→r≠cb→lv0.ownBlock≠some r→u.heap[r]? =w.heap[r]?
 fr:rc.l.ownBlock=lv0.ownBlock∨∃g,rc.l.ownBlock=some g∧w.heap.size≤g
theorem LK.heap{u':World}{cb:Nat}{rc:J4}{lv0:Value}{ys:List Int}(h:LK w u cb rc lv0 ys)(e:u'.heap=u.heap):LK w u' cb rc lv0 ys:=
 ⟨by show u'.heap[cb]? =_;rw[e];exact h.c,p08 h.row fun b c _ _=>by rw[e],by rw[e];exact h.sz,fun r h1 h2 h3=>by rw[e];exact h.o r h1 h2 h3,h.fr⟩
theorem LK.set{cb k:Nat}{rc rc':J4}{lv0 v:Value}{ys:List Int}(h:LK w u cb rc lv0 ys)(hr:(Obj.cells ((match rc.o with| .cells c _ _=>c|_=> #[]).setIfInBounds k v) 51 (0,0))=rc'.o)(hl:rc'.l=rc.l):LK w (u.setCell ⟨cb,k,none⟩ v) cb rc' lv0 ys:=by
 have hne:∀b c,rc.l.ownBlock=some b→u.heap[b]? =some (.cells c 2 (0,0))→b≠cb:=fun b c _ hb e=>by
  have h2:u.heap[cb]? =some rc.o:=h.c
  subst e
  rw[hb]at h2
  unfold J4.o at h2
  simp at h2
 refine⟨?_,?_,by rw[World.size_setCell];exact h.sz,fun r h1 h2 h3=>(I0 _ _ _ h2).trans (h.o r h1 h2 h3),by rw[hl];exact h.fr⟩
 ·show(u.setCell ⟨cb,k,none⟩ v).heap[cb]? =_
  rw[U1 (o:=k) h.c,← hr]
  rfl
 ·rw[hl]
  exact p08 h.row fun b c hb hc=>I0 _ _ _ (hne b c hb hc)
theorem LK.app{w3:World}{cb:Nat}{rc:J4}{lv0 v:Value}{ys:List Int}{y:Int}{ob:Obj}(h:LK w u cb rc lv0 ys)(hown:w3.ownsRow 0 2 1 v (ys.length+1) (ys.map (fun v=>Value.int .i64 v)++[vI y]))(hgrow:(u.alloc ob).grownBy w3 rc.l.ownBlock)
 (hfr:v.ownBlock=rc.l.ownBlock∨∃g,v.ownBlock=some g∧u.heap.size+1≤g):LK w (w3.setCell ⟨cb,8,none⟩ v) cb {rc with l:=v} lv0 (ys++[y]):=by
 have hs:=h.sz
 have hgs:=hgrow.size
 simp only[World.size_alloc]at hgs
 have hcb:w3.heap[cb]? =some rc.o:=by
  have h1:=h.c
  exact(K3 hgrow (Q3 h1) (Q9 h.row h1 (by decide))).trans h1
 have hcl:=(Array.getElem?_eq_some_iff.1 h.c).1
 have hvc:v.ownBlock≠some cb:=fun e=>by
  obtain⟨c,hc⟩:∃c,w3.heap[cb]? =some (.cells c 2 (0,0)):=by
   rcases hown.2 with⟨rfl,_⟩|⟨b,cap,cur,rfl,_,h2,_⟩
   ·simp[Value.ownBlock]at e
   ·simp only[Value.ownBlock,Option.some.injEq]at e
    subst e
    exact⟨cur,h2⟩
  rw[hcb]at hc
  unfold J4.o at hc
  simp at hc
 refine⟨?_,?_,by rw[World.size_setCell];omega,fun r h1 h2 h3=>?_,?_⟩
 ·show(w3.setCell ⟨cb,8,none⟩ v).heap[cb]? =_
  rw[U1 (o:=8) hcb]
  rfl
 ·rw[List.map_append,List.length_append]
  exact p08 hown fun b c hb _=>I0 _ _ _ fun e=>hvc (by rw[← show b=cb from e];exact hb)
 ·rw[I0 _ _ _ h2]
  refine(K3 hgrow (by omega) fun e=>?_).trans (h.o r h1 h2 h3)
  rcases h.fr with f|⟨g,f1,f2⟩
  ·exact h3 (by rw[← f];exact e.symm)
  ·rw[f1]at e
   cases e
   omega
 ·rcases hfr with f|⟨g,f1,f2⟩
  ·rcases h.fr with k|⟨g,k1,k2⟩
   ·exact .inl (f.trans k)
   ·exact .inr ⟨g,f.trans k1,k2⟩
  ·exact .inr ⟨g,f1,by omega⟩
theorem v0s{xb wb cb wd:Nat}{k:V0}{ri rph rn:Int}{rold:BitVec 64}{rdone rok:Bool}{lv:Value}{out:List Int}(h:RS xb wb k w)(hc:F3 w cb ⟨6,ri,rph,(wd:Int),rold,rdone,rok,rn,lv⟩)(hrow:w.ownsRow 0 2 1 lv out.length (out.map fun v=>vI v))(hne:cb≠wb)(hne2:cb≠xb)(hl:wd<k.ws.length)(hl2:k.ws.length≤1024)(hn:k.n≤65536)(hol:out.length≤100000):
 Calls Tryd.prog 41 #[vP xb 0,vP cb 0] w fun y w'=>y= .returned (.tuple #[])∧RS xb wb k w'∧∃lv',LK w w' cb ⟨6,ri,rph,(wd:Int)+1,rold,(rdone || decide (wd+1=k.ws.length)),(rok || decide (wd+1=k.ws.length)),rn,lv'⟩ lv (out++X3 k.n wd (k.wd wd)):=by
 obtain⟨i0,z0,hi,hz0,hz1,hz2,hz3⟩:=l0G
 have H:Aside (RS xb wb k w):=h
 have hwb:Aside (cb≠wb∧cb≠xb∧lv.ownBlock≠some wb∧lv.ownBlock≠some xb):=⟨hne,hne2,fun e=>(Q9 hrow h.ws (by decide)) e.symm,fun e=>(Q9 hrow h.o (by decide)) e.symm⟩
 have c1:=(V1 h.o (j:=1) rfl).1
 have c3:=(V1 hc (j:=3) rfl).1
 obtain⟨cw,zw⟩:=h.word hl
 have hl3:(wd:Int)<(k.ws.length:Int):=by omega
 have w1:IntKind.i64.wrap ((wd:Int)*64)=((wd*64:Nat):Int):=by rw[IntWalk.i64_in _ (by omega)];omega
 have w2:IntKind.i64.wrap (((wd*64:Nat):Int)+64)=((wd*64+64:Nat):Int):=by rw[IntWalk.i64_in _ (by omega)];omega
 have w3:IntKind.i64.wrap ((wd:Int)+1)=(wd:Int)+1:=IntWalk.i64_in _ (by omega)
 obtain⟨x,hx⟩:∃x,x=k.wd wd:=⟨_,rfl⟩
 rw[← hx]at cw ⊢
 have S0:Aside (LK w w cb ⟨6,ri,rph,(wd:Int),rold,rdone,rok,rn,lv⟩ lv (out++R2 k.n wd x 0)):=by
  have:LK w w cb ⟨6,ri,rph,(wd:Int),rold,rdone,rok,rn,lv⟩ lv (out++R2 k.n wd x 0):=by
   rw[show R2 k.n wd x 0=[]from rfl,List.append_nil]
   exact⟨hc,hrow,Nat.le_refl _,fun _ _ _ _=>rfl,.inl rfl⟩
  exact this
 have XS:Aside (∀(u:World) (rc:J4) (ys:List Int),LK w u cb rc lv ys→RS xb wb k u):=by
  have:∀(u:World) (rc:J4) (ys:List Int),LK w u cb rc lv ys→RS xb wb k u:=fun u rc ys hh=>H.out.same (hh.o _ (Array.getElem?_eq_some_iff.1 H.out.o).1 hne2.symm hwb.out.2.2.2) (hh.o _ (Array.getElem?_eq_some_iff.1 H.out.ws).1 hne.symm hwb.out.2.2.1)
  exact this
 clear h hc hx hrow
 go_enter Tryd.func41,Tryd.ntmps41
 go_wp2
 go_quiet (fail)
 have c3':(w.drewN nq).cell? ⟨cb,3,none⟩=some (vI (wd:Nat)):=c3
 have S1:Aside (LK w (w.drewN nq) cb ⟨6,ri,rph,(wd:Int),rold,rdone,rok,rn,lv⟩ lv (out++R2 k.n wd x 0)):=S0.out.heap (by rfl)
 clear S0 c1 c3 cw zw
 generalize w.drewN nq=W0 at c3' S1 ⊢
 go_wp2
 go_loopg [5] 65 (fun g i u=>∃(j:Nat) (la:Option Addr) (lc:Nat),j≤64∧i=vI ((wd*64+j:Nat):Int)∧g=65 - j∧LK w u cb ⟨6,ri,rph,(wd:Int),rold,rdone,rok,rn,.slice la (out++R2 k.n wd x j).length lc⟩ lv (out++R2 k.n wd x j))
 case atStart=>
  obtain⟨la,lc,e⟩:=S2 S1.out.row
  have hs:=S1.out
  simp only at e
  rw[e]at hs
  refine⟨0,la,lc,Nat.zero_le _,rfl,rfl,?_⟩
  rw[e]
  exact hs
 case round=>
  obtain⟨j,la,lc,hj,rfl,rfl,hS⟩:=hrel
  have S:Aside (LK w wr cb ⟨6,ri,rph,(wd:Int),rold,rdone,rok,rn,.slice la (out++R2 k.n wd x j).length lc⟩ lv (out++R2 k.n wd x j)):=hS
  obtain⟨mm,hmm⟩:∃m,m=(out++R2 k.n wd x j).length:=⟨_,rfl⟩
  have MM:Aside (mm=(out++R2 k.n wd x j).length):=hmm
  have hc:F3 wr cb ⟨6,ri,rph,(wd:Int),rold,rdone,rok,rn,.slice la mm lc⟩:=by rw[hmm];exact hS.c
  have hml2:mm≤100064:=by
   have:=d0e k.n wd x j
   rw[hmm,List.length_append]
   omega
  have d0:=(V1 hc (j:=0) rfl).1
  have d3:=(V1 hc (j:=3) rfl).1
  have d8:=(V1 hc (j:=8) rfl).1
  have y3:=(V1 hc (j:=3) rfl).2
  have y8:=(V1 hc (j:=8) rfl).2
  have hX:=XS.out _ _ _ hS
  have x0:wr.cell? ⟨xb,0,none⟩=some (vI (k.n:Nat)):=(V1 hX.o (j:=0) rfl).1
  have hrow:wr.ownsRow 0 2 1 (.slice la mm lc) mm ((out++R2 k.n wd x j).map fun v=>vI v):=by rw[hmm];exact hS.row
  have e0:IntKind.i64.wrap (((wd*64+j:Nat):Int)+1)=((wd*64+(j+1):Nat):Int):=by rw[IntWalk.i64_in _ (by omega)];omega
  clear hS hmm hc hX
  by_cases hin:j<64∧wd*64+j<k.n
  ·obtain⟨hj2,hlt⟩:=hin
   have hm:(wd*64+j) % 64=j:=by omega
   have B:Aside (Calls Tryd.prog 56 #[vI ((wd*64+j:Nat):Int)] wr fun y w'=>y= .returned (wV (bitI (wd*64+j)))∧w'=wr):=O6 _
   have NS:Aside (R2 k.n wd x (j+1)=R2 k.n wd x j++(if wd*64+j<k.n∧x.getLsbD j=true then[((wd*64+j:Nat):Int)]else[])):=c0g _ _ _ _
   cases hb:x.getLsbD j with
   | false=>
     have hx:(bits .and .u64 (x.toNat:Int) ((bitI (wd*64+j)).toNat:Int) == 0)=true:=by rw[b0O,hm,hb];rfl
     have N2:Aside (R2 k.n wd x (j+1)=R2 k.n wd x j):=by
      have:R2 k.n wd x (j+1)=R2 k.n wd x j:=by rw[NS.out,if_neg (by rw[hb];simp),List.append_nil]
      exact this
     clear hrow
     go_wp2_with (go_at_call 56;refine B.out.mono ?_;rintro e u ⟨rfl,hu⟩;subst hu)
     go_roundg (65 - (j+1))
     case measure=>omega
     case rel=>exact⟨j+1,la,lc,by omega,rfl,rfl,by rw[N2.out];exact S.out⟩
   | true=>
     have hx:(bits .and .u64 (x.toNat:Int) ((bitI (wd*64+j)).toNat:Int) == 0)=false:=by rw[b0O,hm,hb];rfl
     have N2:Aside (R2 k.n wd x (j+1)=R2 k.n wd x j++[((wd*64+j:Nat):Int)]):=by
      have:R2 k.n wd x (j+1)=R2 k.n wd x j++[((wd*64+j:Nat):Int)]:=by rw[NS.out,if_pos ⟨hlt,hb⟩]
      exact this
     have RW:Aside (wr.ownsRow 0 2 1 (.slice la mm lc) mm ((out++R2 k.n wd x j).map fun v=>vI v)):=hrow
     clear hrow
     go_wp2_with (first
      | (go_at_call 56;refine B.out.mono ?_;rintro e u ⟨rfl,hu⟩;subst u)
      | (at_builtin;refine I3 rfl (.tmp 63) (.tmp 65) 22 rfl 2 i0 z0 1 8 Tryd.underlying22 hi hz0 hz1 hz2 hz3 (by decide) (.slice la mm lc) mm ((out++R2 k.n wd x j).map fun v=>.int .i64 v) rfl ?c0 ⟨wr.heap.size,0,none⟩ 1 1 [.int .i64 ((wd*64+j:Nat):Int)] rfl rfl ?c1 ?c2 ?c3 ?c4 ?_)
      | go_in)
     case c0=>exact World.ownsRow.alloc RW.out _
     case c1=>exact c0b (X:=wr) (l:=[vI ((wd*64+j:Nat):Int)]) rfl
     case c2=>intro u hu;simp at hu;subst hu;rfl
     case c3=>unfold maxLen;omega
     case c4=>omega
     ·intro v' w3 hown hgrow hfr
      obtain⟨g,cap,rfl⟩:=j5 hown
      have HC:w3.heap[cb]? =some (⟨6,ri,rph,(wd:Int),rold,rdone,rok,rn,.slice la mm lc⟩:J4).o:=by
       have h1:F3 wr cb ⟨6,ri,rph,(wd:Int),rold,rdone,rok,rn,.slice la mm lc⟩:=by rw[MM.out];exact S.out.c
       exact(K3 hgrow (Q3 h1) (Q9 RW.out h1 (by decide))).trans h1
      have F:Aside (LK w (w3.setCell ⟨cb,8,none⟩ (vL g 0 (mm+1) cap)) cb ⟨6,ri,rph,(wd:Int),rold,rdone,rok,rn,vL g 0 (out++R2 k.n wd x (j+1)).length cap⟩ lv (out++R2 k.n wd x (j+1))):=by
       have hh:=S.out
       rw[← MM.out]at hh
       have h1:=hh.app (v:=vL g 0 (mm+1) cap) (y:=((wd*64+j:Nat):Int)) (by rw[← MM.out,List.map_append,List.append_assoc];exact hown) hgrow hfr
       have e1:(out++R2 k.n wd x (j+1))=out++R2 k.n wd x j++[((wd*64+j:Nat):Int)]:=by rw[N2.out,List.append_assoc]
       have e2:(out++R2 k.n wd x (j+1)).length=mm+1:=by rw[e1,List.length_append,← MM.out];rfl
       rw[e2,e1]
       exact h1
      have d8:=(V1 HC (j:=8) rfl).1
      have y8:=(V1 HC (j:=8) rfl).2
      clear hown hgrow hfr HC d0 d3 x0 y3
      go_wp2
      go_roundg (65 - (j+1))
      case measure=>omega
      case rel=>exact⟨j+1,some ⟨g,0,none⟩,cap,by omega,rfl,rfl,F.out⟩
  ·have NE:Aside (R2 k.n wd x j=X3 k.n wd x):=by
    have:R2 k.n wd x j=X3 k.n wd x:=by
     rw[← h06]
     by_cases e:j<64
     ·have:=c0f (n:=k.n) (w:=wd) (x:=x) (j:=j) (by omega) (64 - j)
      rw[show j+(64 - j)=64 by omega]at this
      rw[this]
     ·rw[show j=64 by omega]
    exact this
   have b:64≤j∨(j<64∧k.n≤wd*64+j):=by omega
   have Q0:Aside (LK w (wr.setCell ⟨cb,3,none⟩ (vI ((wd:Int)+1))) cb ⟨6,ri,rph,(wd:Int)+1,rold,rdone,rok,rn,.slice la mm lc⟩ lv (out++X3 k.n wd x)):=by
    have hh:=S.out
    rw[← MM.out,NE.out]at hh
    exact hh.set (k:=3) (v:=vI ((wd:Int)+1)) rfl rfl
   rcases b with b0|⟨b0,b1⟩
   all_goals(
    go_wp2
    have x1':(wr.setCell ⟨cb,3,none⟩ (vI ((wd:Int)+1))).cell? ⟨xb,1,none⟩=some (vL wb 0 k.ws.length k.ws.length):=(V1 (XS.out _ _ _ Q0.out).o (j:=1) rfl).1
    have Q:Aside _:=Q0.out
    clear d0 d3 d8 y3 y8 x0 Q0 S MM NE hrow
    generalize wr.setCell ⟨cb,3,none⟩ (vI ((wd:Int)+1))=W at Q x1' ⊢
    have d3:=(V1 Q.out.c (j:=3) rfl).1
    have d5:=(V1 Q.out.c (j:=5) rfl).1
    have d6:=(V1 Q.out.c (j:=6) rfl).1
    have y5:=(V1 Q.out.c (j:=5) rfl).2
    have y6:=(V1 Q.out.c (j:=6) rfl).2
    by_cases he:wd+1=k.ws.length
    ·have he1:(((wd:Int)+1) == (k.ws.length:Int))=true:=by simp;omega
     go_quiet (fail)
     rename_i nq
     go_wp2
     go_end0
     refine⟨rfl,?_⟩
     have Q1:=(Q.out.heap (u':=W.drewN nq) rfl).set (k:=5) (v:=.bool true) (rc':=⟨6,ri,rph,(wd:Int)+1,rold,true,rok,rn,.slice la mm lc⟩) rfl rfl
     have Q2:=Q1.set (k:=6) (v:=.bool true) (rc':=⟨6,ri,rph,(wd:Int)+1,rold,true,true,rn,.slice la mm lc⟩) rfl rfl
     exact⟨XS.out _ _ _ Q2,_,Q2⟩
    ·have he1:(((wd:Int)+1) == (k.ws.length:Int))=false:=by simp;omega
     go_quiet (fail)
     rename_i nq
     go_wp2
     go_end0
     refine⟨rfl,?_⟩
     have Q1:=Q.out.heap (u':=W.drewN nq) rfl
     exact⟨XS.out _ _ _ Q1,_,Q1⟩)
end
section
variable{w w':World}
theorem j0P{xb cb:Nat}{rc:J4}{R:World→Prop}(hc:F3 w cb rc)(h4:rc.kd≠4)(h5:rc.kd≠5)(h6:rc.kd≠6)(h:Calls Tryd.prog 42 #[vP xb 0,vP cb 0] w fun y w'=>y= .returned (.tuple #[])∧R w'):
 Calls Tryd.prog 14 #[vP xb 0,vP cb 0] w fun y w'=>y= .returned (.tuple #[])∧R w':=by
 have c0:=(V1 hc (j:=0) rfl).1
 have q4:(rc.kd == 4)=false:=beq_eq_false_iff_ne.2 h4
 have q5:(rc.kd == 5)=false:=beq_eq_false_iff_ne.2 h5
 have q6:(rc.kd == 6)=false:=beq_eq_false_iff_ne.2 h6
 have C:Aside (Calls Tryd.prog 42 #[vP xb 0,vP cb 0] w fun y w'=>y= .returned (.tuple #[])∧R w'):=h
 clear h hc h4 h5 h6
 go_enter Tryd.func14,Tryd.ntmps14
 go_wp2_with (go_at_call 42;refine C.out.mono ?_;rintro e u ⟨rfl,hu⟩;have U:Aside (R u):=hu;clear hu)
 go_end0
 exact⟨rfl,U.out⟩
theorem h0C{xb cb:Nat}{rc:J4}{R:World→Prop}(hc:F3 w cb rc)(h4:rc.kd=4)(h:Calls Tryd.prog 40 #[vP xb 0,vP cb 0] w fun y w'=>y= .returned (.tuple #[])∧R w'):
 Calls Tryd.prog 14 #[vP xb 0,vP cb 0] w fun y w'=>y= .returned (.tuple #[])∧R w':=by
 have c0:=(V1 hc (j:=0) rfl).1
 rw[h4]at c0
 have C:Aside (Calls Tryd.prog 40 #[vP xb 0,vP cb 0] w fun y w'=>y= .returned (.tuple #[])∧R w'):=h
 clear h hc h4
 go_enter Tryd.func14,Tryd.ntmps14
 go_wp2_with (go_at_call 40;refine C.out.mono ?_;rintro e u ⟨rfl,hu⟩;have U:Aside (R u):=hu;clear hu)
 go_end0
 exact⟨rfl,U.out⟩
theorem i0h{xb cb:Nat}{rc:J4}{R:World→Prop}(hc:F3 w cb rc)(h5:rc.kd=5∨rc.kd=6)(h:Calls Tryd.prog 41 #[vP xb 0,vP cb 0] w fun y w'=>y= .returned (.tuple #[])∧R w'):
 Calls Tryd.prog 14 #[vP xb 0,vP cb 0] w fun y w'=>y= .returned (.tuple #[])∧R w':=by
 have c0:=(V1 hc (j:=0) rfl).1
 have C:Aside (Calls Tryd.prog 41 #[vP xb 0,vP cb 0] w fun y w'=>y= .returned (.tuple #[])∧R w'):=h
 clear h hc
 rcases h5 with h5|h5
 all_goals(
  rw[h5]at c0
  go_enter Tryd.func14,Tryd.ntmps14
  go_wp2_with (go_at_call 41;refine C.out.mono ?_;rintro e u ⟨rfl,hu⟩;have U:Aside (R u):=hu;clear hu)
  go_end0
  exact⟨rfl,U.out⟩)
def c0c(c:p9):List Int:=if c.kd=6 then c.out else[]
structure BDm(s:V0):Prop where
 l:s.ws.length=(s.n+63) / 64
 n:s.n≤65536
theorem BWf.dm{s:V0}(h:BWf s):BDm s:=⟨h.l,h.n⟩
theorem BDm.step{s:V0}(h:BDm s)(c:p9):BDm (s.step c).1:=⟨by rw[(x9 s c).1,(x9 s c).2];exact h.l,by rw[(x9 s c).2];exact h.n⟩
structure c0k(k:V0)(c:p9):Prop where
 w:c.w<k.ws.length
 ph:c.ph≤1
 kd:1≤c.kd∧c.kd≤6
 i:c.kd≤3→c.w=c.i / 64
 f:c.kd=4→c.ph=1→∃j,G4 k.n c.w c.old=some j
 p0:5≤c.kd→c.ph=0
 h0:c.kd=3→c.ph=0
 out:c.out.length≤64*c.w
 o4:c.kd≤4→c.out=[]
structure e0t(rc:J4)(c:p9):Prop where
 kd:rc.kd=c.kd
 done:rc.done=false
 ok:rc.ok=false
 ph:rc.ph=c.ph+1
 w:rc.w=c.w
 i:c.kd≤3→rc.i=c.i
 old:c.ph=1→rc.old=c.old
 n:rc.n=if c.kd=5 then(c.out.length:Int)else 0
structure f00(rc:J4)(a:m9):Prop where
 done:rc.done=true
 ok:rc.ok=a.1
 n:rc.n=a.2.1
def b9(w:World)(v:Value)(l:List Int):Prop:=w.ownsRow 0 2 1 v l.length (l.map fun v=>vI v)
theorem b9.keep{v:Value}{l:List Int}(h:b9 w v l)(hk:∀b c,v.ownBlock=some b→w.heap[b]? =some (.cells c 2 (0,0))→w'.heap[b]? =w.heap[b]?):b9 w' v l:=p08 h hk
structure q0z(w w':World)(cb wb:Nat)(l l':Value):Prop where
 sz:w.heap.size≤w'.heap.size
 o:∀r,r<w.heap.size→r≠cb→r≠wb→l.ownBlock≠some r→w'.heap[r]? =w.heap[r]?
 fr:l'.ownBlock=l.ownBlock∨∃g,l'.ownBlock=some g∧w.heap.size≤g
theorem RP.stp{xb wb cb:Nat}{k:V0}{c:J4}(h:RP w w' xb wb cb k c)(l:Value):q0z w w' cb wb l l:=⟨by rw[h.sz];exact Nat.le_refl _,fun r _ h1 h2 _=>h.o r h1 h2,.inl rfl⟩
theorem b9.rp{xb wb cb:Nat}{k0 k:V0}{c0 c:J4}{v:Value}{l:List Int}(hl:b9 w v l)(h:RP w w' xb wb cb k c)(h0:RS xb wb k0 w)(hc:F3 w cb c0):b9 w' v l:=
 hl.keep fun b d hb hd=>h.o b (fun e=>by subst e;exact Q9 hl hc (by decide) hb.symm) (fun e=>by subst e;exact Q9 hl h0.ws (by decide) hb.symm)
theorem LK.stp{cb wb:Nat}{rc:J4}{lv:Value}{ys:List Int}(h:LK w w' cb rc lv ys):q0z w w' cb wb lv rc.l:=⟨h.sz,fun r h1 h2 _ h3=>h.o r h1 h2 h3,h.fr⟩
def j07(w w':World)(k:V0)(rc':J4)(r:BRs):Prop:=match r with
 | .inl c'=>e0t rc' c'∧c0k k c'∧b9 w' rc'.l (c0c c')
 | .inr a=>f00 rc' a∧b9 w' rc'.l a.2.2
end
section
variable{w w':World}
def b0x(w w':World)(xb wb cb:Nat)(l0:Value)(r:V0×BRs):Prop:=
 RS xb wb r.1 w'∧∃rc',F3 w' cb rc'∧j07 w w' r.1 rc' r.2∧q0z w w' cb wb l0 rc'.l
theorem n7{xb wb cb:Nat}{k k':V0}{rc rc':J4}{lst:List Int}{r:BRs}(h:RP w w' xb wb cb k' rc')(hl:b9 w rc.l lst)(h0:RS xb wb k w)(hc:F3 w cb rc)(hle:rc'.l=rc.l)
 (he:match r with| .inl c'=>e0t rc' c'∧c0k k' c'∧c0c c'=lst| .inr a=>f00 rc' a∧a.2.2=lst):b0x w w' xb wb cb rc.l (k',r):=by
 have hl':=hl.rp h h0 hc
 have hst:=h.stp rc.l
 rw[← hle]at hl' hst
 refine⟨h.s,rc',h.c,?_,⟨hst.sz,fun r a b c d=>hst.o r a b c (by rw[hle];exact d),by rw[hle];exact .inl rfl⟩⟩
 unfold j07
 cases r with
 | inl c'=>exact⟨he.1,he.2.1,by rw[he.2.2];exact hl'⟩
 | inr a=>exact⟨he.1,by rw[he.2];exact hl'⟩
theorem r0E{k:V0}{c:p9}(h4:c.kd≠4)(h5:c.kd≠5)(h6:c.kd≠6):k.step c=k.one c:=by
 unfold V0.step
 rw[if_neg h4,if_neg (by rintro(h|h);exact h5 h;exact h6 h)]
theorem n0z(w j:Nat)(h:j<64):bitI (w*64+j)=bitI j:=by
 unfold bitI
 rw[show(w*64+j) % 64=j % 64 by omega]
theorem q0q{xb wb cb:Nat}{k:V0}{rc:J4}{c:p9}(h:RS xb wb k w)(hc:F3 w cb rc)(hr:e0t rc c)(hi:c0k k c)(hl:b9 w rc.l (c0c c))(hne:cb≠wb)(hne2:cb≠xb)(hk:k.ws.length≤1024)(h3:c.kd≤3):
 Calls Tryd.prog 14 #[vP xb 0,vP cb 0] w fun y w'=>y= .returned (.tuple #[])∧b0x w w' xb wb cb rc.l (k.step c):=by
 have hkd:=hi.kd
 have hw:=hi.i h3
 have hlt:c.i / 64<k.ws.length:=by rw[← hw];exact hi.w
 have hls:c0c c=[]:=by unfold c0c;rw[if_neg (by omega)]
 have ho:=hi.o4 (by omega)
 have en:rc.n=0:=by rw[hr.n,if_neg (by omega)]
 refine j0P hc (by rw[hr.kd];omega) (by rw[hr.kd];omega) (by rw[hr.kd];omega) ?_
 rw[r0E (by omega) (by omega) (by omega)]
 have hrel:=hr
 obtain⟨rkd,ri,rph,rw_,rold,rdone,rok,rn,rl⟩:=rc
 obtain⟨r1,r2,r3,r4,r5,r6,r7,r8⟩:=hr
 have r6':ri=(c.i:Int):=r6 h3
 clear r6
 simp only at r1 r2 r3 r4 r5 r7 r8 hl en
 rw[hw]at r5
 subst r1 r2 r3 r5 r6' en
 obtain⟨ck,cp,ci,cw,cold,cout⟩:=c
 simp only at*
 subst hw ho
 have hph:=hi.ph
 simp only at hph
 rcases Nat.eq_zero_or_pos cp with rfl|hp
 ·have r4:rph=1:=by omega
  subst r4
  cases hb:(k.wd (ci / 64)).getLsbD (ci % 64)with
  | true=>
    have:ck=1∨ck=2∨ck=3:=by omega
    rcases this with rfl|rfl|rfl
    ·refine(v0B h hc hne hne2 hlt hk hb).mono fun y u hu=>⟨hu.1,?_⟩
     have e:k.one ⟨1,0,ci,ci / 64,cold,[]⟩=(k,.inr (true,0,[])):=by simp[V0.one,hb]
     rw[e]
     exact n7 hu.2 hl h hc rfl ⟨⟨rfl,rfl,rfl⟩,rfl⟩
    ·refine(v0D h hc hne hne2 hlt hk hb).mono fun y u hu=>⟨hu.1,?_⟩
     have e:k.one ⟨2,0,ci,ci / 64,cold,[]⟩=(k,.inl ⟨2,1,ci,ci / 64,k.wd (ci / 64),[]⟩):=by simp[V0.one,hb]
     rw[e]
     exact n7 hu.2 hl h hc rfl ⟨⟨rfl,rfl,rfl,rfl,rfl,fun _=>rfl,fun _=>rfl,rfl⟩,⟨hlt,Nat.le_refl _,⟨by simp,by simp⟩,fun _=>rfl,fun h=>absurd h (by simp),fun h=>absurd h (by simp),fun h=>absurd h (by simp),Nat.zero_le _,fun _=>rfl⟩,rfl⟩
    ·refine(v0F h hc hne hne2 hlt hk hb).mono fun y u hu=>⟨hu.1,?_⟩
     have e:k.one ⟨3,0,ci,ci / 64,cold,[]⟩=(k,.inr (true,1,[])):=by simp[V0.one,hb]
     rw[e]
     exact n7 hu.2 hl h hc rfl ⟨⟨rfl,rfl,rfl⟩,rfl⟩
  | false=>
    have:ck=1∨ck=2∨ck=3:=by omega
    rcases this with rfl|rfl|rfl
    ·refine(v0A h hc hne hne2 hlt hk hb).mono fun y u hu=>⟨hu.1,?_⟩
     have e:k.one ⟨1,0,ci,ci / 64,cold,[]⟩=(k,.inl ⟨1,1,ci,ci / 64,k.wd (ci / 64),[]⟩):=by simp[V0.one,hb]
     rw[e]
     exact n7 hu.2 hl h hc rfl ⟨⟨rfl,rfl,rfl,rfl,rfl,fun _=>rfl,fun _=>rfl,rfl⟩,⟨hlt,Nat.le_refl _,⟨by simp,by simp⟩,fun _=>rfl,fun h=>absurd h (by simp),fun h=>absurd h (by simp),fun h=>absurd h (by simp),Nat.zero_le _,fun _=>rfl⟩,rfl⟩
    ·refine(v0C h hc hne hne2 hlt hk hb).mono fun y u hu=>⟨hu.1,?_⟩
     have e:k.one ⟨2,0,ci,ci / 64,cold,[]⟩=(k,.inr (true,0,[])):=by simp[V0.one,hb]
     rw[e]
     exact n7 hu.2 hl h hc rfl ⟨⟨rfl,rfl,rfl⟩,rfl⟩
    ·refine(v0E h hc hne hne2 hlt hk hb).mono fun y u hu=>⟨hu.1,?_⟩
     have e:k.one ⟨3,0,ci,ci / 64,cold,[]⟩=(k,.inr (true,0,[])):=by simp[V0.one,hb]
     rw[e]
     exact n7 hu.2 hl h hc rfl ⟨⟨rfl,rfl,rfl⟩,rfl⟩
 ·obtain rfl:cp=1:=by omega
  have r4:rph=2:=by omega
  subst r4
  have hold:rold=cold:=r7 rfl
  subst hold
  refine(x0E h hc hne hne2 hlt hk).mono fun y u hu=>⟨hu.1,?_⟩
  have hu:=hu.2
  unfold SwR at hu
  by_cases he:k.wd (ci / 64)=rold
  ·rw[if_pos he]at hu
   have e:k.one ⟨ck,1,ci,ci / 64,rold,[]⟩=({k with ws:=k.ws.set (ci / 64) (rold ^^^ bitI ci)},.inr (true,1,[])):=by simp[V0.one,he]
   rw[e]
   exact n7 hu hl h hc rfl ⟨⟨rfl,rfl,rfl⟩,hls.symm⟩
  ·rw[if_neg he]at hu
   have e:k.one ⟨ck,1,ci,ci / 64,rold,[]⟩=(k,.inl ⟨ck,0,ci,ci / 64,rold,[]⟩):=by simp[V0.one,he]
   rw[e]
   exact n7 hu hl h hc rfl ⟨⟨rfl,rfl,rfl,rfl,rfl,fun _=>rfl,fun h=>absurd h (by simp),r8⟩,⟨hlt,Nat.zero_le _,hkd,fun _=>rfl,fun _ h=>absurd h (by simp),fun _=>rfl,fun _=>rfl,Nat.zero_le _,fun _=>rfl⟩,rfl⟩
end
section
variable{w w':World}
theorem j0X{xb wb cb:Nat}{k:V0}{rc:J4}{c:p9}(h:RS xb wb k w)(hc:F3 w cb rc)(hr:e0t rc c)(hi:c0k k c)(hl:b9 w rc.l (c0c c))(hne:cb≠wb)(hne2:cb≠xb)(hk:k.ws.length≤1024)(hn:k.n≤65536)(h4:c.kd=4):
 Calls Tryd.prog 14 #[vP xb 0,vP cb 0] w fun y w'=>y= .returned (.tuple #[])∧b0x w w' xb wb cb rc.l (k.step c):=by
 have hlt:=hi.w
 have ho:=hi.o4 (by omega)
 have en:rc.n=0:=by rw[hr.n,if_neg (by omega)]
 refine h0C hc (by rw[hr.kd,h4];rfl) ?_
 have es:k.step c=k.claim c:=by unfold V0.step;rw[if_pos h4]
 rw[es]
 obtain⟨rkd,ri,rph,rw_,rold,rdone,rok,rn,rl⟩:=rc
 obtain⟨r1,r2,r3,r4,r5,r6,r7,r8⟩:=hr
 have hf:=hi.f h4
 have hph:=hi.ph
 obtain⟨ck,cp,ci,cw,cold,cout⟩:=c
 simp only at r1 r2 r3 r4 r5 r7 hl en h4 ho hlt hf hph
 subst r1 r2 r3 r5 en h4 ho
 have hls:c0c ⟨4,cp,ci,cw,cold,[]⟩=[]:=rfl
 rcases Nat.eq_zero_or_pos cp with rfl|hp
 ·have r4:rph=1:=by omega
  subst r4
  cases hx:G4 k.n cw (k.wd cw)with
  | some j=>
    refine(u0R h hc hne hne2 hlt hk hn hx).mono fun y u hu=>⟨hu.1,?_⟩
    have e:k.claim ⟨4,0,ci,cw,cold,[]⟩=(k,.inl ⟨4,1,ci,cw,k.wd cw,[]⟩):=by simp[V0.claim,hx]
    rw[e]
    exact n7 hu.2 hl h hc rfl ⟨⟨rfl,rfl,rfl,rfl,rfl,fun h=>absurd h (by simp),fun _=>rfl,rfl⟩,⟨hlt,Nat.le_refl _,⟨by simp,by simp⟩,fun h=>absurd h (by simp),fun _ _=>⟨j,hx⟩,fun h=>absurd h (by simp),fun h=>absurd h (by simp),Nat.zero_le _,fun _=>rfl⟩,rfl⟩
  | none=>
    by_cases he:cw+1=k.ws.length
    ·refine(u0J h hc hne hne2 hlt hk hn hx he).mono fun y u hu=>⟨hu.1,?_⟩
     have e:k.claim ⟨4,0,ci,cw,cold,[]⟩=(k,.inr (false,0,[])):=by simp[V0.claim,hx,he]
     rw[e]
     exact n7 hu.2 hl h hc rfl ⟨⟨rfl,rfl,rfl⟩,rfl⟩
    ·refine(u0Q h hc hne hne2 hlt hk hn hx he).mono fun y u hu=>⟨hu.1,?_⟩
     have e:k.claim ⟨4,0,ci,cw,cold,[]⟩=(k,.inl ⟨4,0,ci,cw+1,cold,[]⟩):=by simp[V0.claim,hx,he]
     rw[e]
     exact n7 hu.2 hl h hc rfl ⟨⟨rfl,rfl,rfl,rfl,rfl,fun h=>absurd h (by simp),fun h=>absurd h (by simp),rfl⟩,⟨by show cw+1<k.ws.length;omega,Nat.zero_le _,⟨by simp,by simp⟩,fun h=>absurd h (by simp),fun _ h=>absurd h (by simp),fun _=>rfl,fun _=>rfl,Nat.zero_le _,fun _=>rfl⟩,rfl⟩
 ·obtain rfl:cp=1:=by omega
  have r4:rph=2:=by omega
  subst r4
  have hold:rold=cold:=r7 rfl
  subst hold
  obtain⟨j,hj⟩:=hf rfl
  have hj64:=(b0P hj).1
  refine(x0e h hc hne hne2 hlt hk hn hj).mono fun y u hu=>⟨hu.1,?_⟩
  have hu:=hu.2
  unfold SwR at hu
  by_cases he:k.wd cw=rold
  ·rw[if_pos he,n0z _ _ hj64]at hu
   have e:k.claim ⟨4,1,ci,cw,rold,[]⟩=({k with ws:=k.ws.set cw (rold ||| bitI j)},.inr (true,((cw*64+j:Nat):Int),[])):=by simp[V0.claim,he,hj]
   rw[e]
   exact n7 hu hl h hc rfl ⟨⟨rfl,rfl,rfl⟩,rfl⟩
  ·rw[if_neg he]at hu
   have e:k.claim ⟨4,1,ci,cw,rold,[]⟩=(k,.inl ⟨4,0,ci,cw,rold,[]⟩):=by simp[V0.claim,he]
   rw[e]
   exact n7 hu hl h hc rfl ⟨⟨rfl,rfl,rfl,rfl,rfl,fun h=>absurd h (by simp),fun h=>absurd h (by simp),rfl⟩,⟨hlt,Nat.zero_le _,⟨by simp,by simp⟩,fun h=>absurd h (by simp),fun _ h=>absurd h (by simp),fun _=>rfl,fun _=>rfl,Nat.zero_le _,fun _=>rfl⟩,rfl⟩
theorem j0B(n w:Nat)(x:BitVec 64):(X3 n w x).length≤64:=d0e n w x 64
theorem m0Q{xb wb cb:Nat}{k:V0}{rc:J4}{c:p9}(h:RS xb wb k w)(hc:F3 w cb rc)(hr:e0t rc c)(hi:c0k k c)(hl:b9 w rc.l (c0c c))(hne:cb≠wb)(hne2:cb≠xb)(hk:k.ws.length≤1024)(hn:k.n≤65536)(h5:5≤c.kd):
 Calls Tryd.prog 14 #[vP xb 0,vP cb 0] w fun y w'=>y= .returned (.tuple #[])∧b0x w w' xb wb cb rc.l (k.step c):=by
 have hlt:=hi.w
 have hkd:=hi.kd
 have h56:c.kd=5∨c.kd=6:=by omega
 have es:k.step c=k.look c:=by unfold V0.step;rw[if_neg (by omega),if_pos h56]
 have hol:=hi.out
 refine i0h hc (by rw[hr.kd];omega) ?_
 rw[es]
 have hph:=hi.p0 h5
 obtain⟨rkd,ri,rph,rw_,rold,rdone,rok,rn,rl⟩:=rc
 obtain⟨r1,r2,r3,r4,r5,r6,r7,r8⟩:=hr
 obtain⟨ck,cp,ci,cw,cold,cout⟩:=c
 simp only at r1 r2 r3 r4 r5 r7 r8 hl h5 hlt hph hol h56 hkd
 subst r1 r2 r3 r5 hph
 have r4:rph=1:=by omega
 subst r4
 have hnl:=j0B k.n cw (k.wd cw)
 rcases h56 with rfl|rfl
 ·have r8:rn=(cout.length:Int):=by rw[r8];rfl
  subst r8
  refine(v0r h hc hne hne2 hlt hk hn (by omega)).mono fun y u hu=>⟨hu.1,?_⟩
  have hu:=hu.2
  by_cases he:cw+1=k.ws.length
  ·have e:k.look ⟨5,0,ci,cw,cold,cout⟩=(k,.inr (true,((cout++X3 k.n cw (k.wd cw)).length:Int),[])):=by simp[V0.look,he]
   rw[e]
   rw[decide_eq_true he]at hu
   exact n7 hu hl h hc rfl ⟨⟨rfl,rfl,by rw[List.length_append]⟩,rfl⟩
  ·have e:k.look ⟨5,0,ci,cw,cold,cout⟩=(k,.inl ⟨5,0,ci,cw+1,cold,cout++X3 k.n cw (k.wd cw)⟩):=by simp[V0.look,he]
   rw[e]
   rw[decide_eq_false he]at hu
   exact n7 hu hl h hc rfl ⟨⟨rfl,rfl,rfl,rfl,rfl,fun h=>absurd h (by simp),fun h=>absurd h (by simp),by rw[if_pos rfl,List.length_append]⟩,⟨by show cw+1<k.ws.length;omega,Nat.zero_le _,⟨by simp,by simp⟩,fun h=>absurd h (by simp),fun h=>absurd h (by simp),fun _=>rfl,fun _=>rfl,by rw[List.length_append];show _≤64*(cw+1);omega,fun h=>absurd h (by simp)⟩,rfl⟩
 ·have r8:rn=0:=by rw[r8];rfl
  subst r8
  refine(v0s h hc hl hne hne2 hlt hk hn (by show cout.length≤_;omega)).mono fun y u hu=>⟨hu.1,?_⟩
  obtain⟨hs,lv',hu⟩:=hu.2
  by_cases he:cw+1=k.ws.length
  ·have e:k.look ⟨6,0,ci,cw,cold,cout⟩=(k,.inr (true,0,cout++X3 k.n cw (k.wd cw))):=by simp[V0.look,he]
   rw[e]
   rw[decide_eq_true he]at hu
   exact⟨hs,_,hu.c,⟨⟨rfl,rfl,rfl⟩,hu.row⟩,hu.stp⟩
  ·have e:k.look ⟨6,0,ci,cw,cold,cout⟩=(k,.inl ⟨6,0,ci,cw+1,cold,cout++X3 k.n cw (k.wd cw)⟩):=by simp[V0.look,he]
   rw[e]
   rw[decide_eq_false he]at hu
   exact⟨hs,_,hu.c,⟨⟨rfl,rfl,rfl,rfl,rfl,fun h=>absurd h (by simp),fun h=>absurd h (by simp),rfl⟩,⟨by show cw+1<k.ws.length;omega,Nat.zero_le _,⟨by simp,by simp⟩,fun h=>absurd h (by simp),fun h=>absurd h (by simp),fun _=>rfl,fun _=>rfl,by rw[List.length_append];show _≤64*(cw+1);omega,fun h=>absurd h (by simp)⟩,hu.row⟩,hu.stp⟩
theorem q0r{xb wb cb:Nat}{k:V0}{rc:J4}{c:p9}(h:RS xb wb k w)(hwf:BDm k)(hc:F3 w cb rc)(hr:e0t rc c)(hi:c0k k c)(hl:b9 w rc.l (c0c c))(hne:cb≠wb)(hne2:cb≠xb):
 Calls Tryd.prog 14 #[vP xb 0,vP cb 0] w fun y w'=>y= .returned (.tuple #[])∧b0x w w' xb wb cb rc.l (k.step c):=by
 have hn:=hwf.n
 have hk:k.ws.length≤1024:=by rw[hwf.l];omega
 have hkd:=hi.kd
 rcases Nat.lt_or_ge c.kd 4 with h3|h4
 ·exact q0q h hc hr hi hl hne hne2 hk (by omega)
 ·by_cases e:c.kd=4
  ·exact j0X h hc hr hi hl hne hne2 hk hn e
  ·exact m0Q h hc hr hi hl hne hne2 hk hn (by omega)
theorem m0c{k:V0}{o:P3}(hwf:BDm k):match(k.begin o).2 with
 | .inl c=>e0t (M6 k o) c∧c0k k c∧c0c c=[]
 | .inr a=>f00 (M6 k o) a∧a.2.2=[]:=by
 have hl:=hwf.l
 unfold M6
 cases e:(k.begin o).2 with
 | inl c=>
   obtain⟨kd,a,b,d⟩:=o
   unfold V0.begin at e
   split at e
   ·rename_i hk
    split at e
    ·cases e
    ·rename_i ha
     simp only[Sum.inl.injEq]at e
     subst e
     refine⟨⟨?_,rfl,rfl,rfl,rfl,fun _=>rfl,fun h=>absurd h (by simp),?_⟩,⟨?_,Nat.zero_le _,⟨?_,?_⟩,fun _=>rfl,fun _ h=>absurd h (by simp),fun _=>rfl,fun _=>rfl,Nat.zero_le _,fun _=>rfl⟩,?_⟩
     ·simp only at hk ⊢;omega
     ·simp only at hk ⊢
      rw[if_neg (by omega)]
     ·simp only at ha ⊢
      omega
     ·simp only at hk ⊢;omega
     ·simp only at hk ⊢;omega
     ·unfold c0c
      split<;>rfl
   ·split at e
    ·rename_i hk
     split at e
     ·cases e
     ·rename_i hw
      simp only[Sum.inl.injEq]at e
      subst e
      simp only at hk
      subst hk
      exact⟨⟨rfl,rfl,rfl,rfl,rfl,fun _=>rfl,fun h=>absurd h (by simp),rfl⟩,⟨by show 0<_;omega,Nat.zero_le _,⟨by simp,by simp⟩,fun _=>rfl,fun _ h=>absurd h (by simp),fun _=>rfl,fun _=>rfl,Nat.zero_le _,fun _=>rfl⟩,rfl⟩
    ·split at e
     ·rename_i hk
      split at e
      ·cases e
      ·rename_i hw
       simp only[Sum.inl.injEq]at e
       subst e
       simp only at hk
       rcases hk with rfl|rfl
       ·exact⟨⟨rfl,rfl,rfl,rfl,rfl,fun _=>rfl,fun h=>absurd h (by simp),rfl⟩,⟨by show 0<_;omega,Nat.zero_le _,⟨by simp,by simp⟩,fun _=>rfl,fun _ h=>absurd h (by simp),fun _=>rfl,fun _=>rfl,Nat.zero_le _,fun _=>rfl⟩,rfl⟩
       ·exact⟨⟨rfl,rfl,rfl,rfl,rfl,fun _=>rfl,fun h=>absurd h (by simp),rfl⟩,⟨by show 0<_;omega,Nat.zero_le _,⟨by simp,by simp⟩,fun _=>rfl,fun _ h=>absurd h (by simp),fun _=>rfl,fun _=>rfl,Nat.zero_le _,fun _=>rfl⟩,rfl⟩
     ·cases e
 | inr a=>
   refine⟨⟨rfl,rfl,rfl⟩,?_⟩
   unfold V0.begin at e
   repeat' split at e
   all_goals first|(cases e;rfl)|(cases e)
end
section
variable{w w':World}
structure r0a(w:World)(ea:Option Addr)(n:Nat)(e:Nat→Bool):Prop where
 c:∀j,j<n→∃eb,ea=some ⟨eb,0,none⟩∧w.cell? ⟨eb,j,none⟩=some (.bool (e j))
theorem f0M{ea:Option Addr}{n ec:Nat}{e:Nat→Bool}(hn:n≤64)(hE:r0a w ea n e):
 Calls Tryd.prog 38 #[.slice ea n ec] w fun x w'=>x= .returned (.bool ((List.range n).all e))∧w'=w:=by
 have E:Aside (r0a w ea n e):=hE
 clear hE
 go_enter Tryd.func38,Tryd.ntmps38
 go_wp2
 go_loopg [3] n (fun g i wr=>∃k:Nat,k≤n∧i=vI k∧g=n - k∧wr=w∧∀j,j<k→e j=true)
 case atStart=>exact⟨0,Nat.zero_le _,rfl,rfl,rfl,fun j hj=>by omega⟩
 case round=>
  obtain⟨k,hk,rfl,rfl,rfl,hall⟩:=hrel
  have A:Aside (∀j,j<k→e j=true):=hall
  clear hall
  rcases Nat.lt_or_ge k n with hlt|hge
  ·obtain⟨eb,rfl,hc⟩:=E.out.c k hlt
   cases hek:e k with
   | true=>
     rw[hek]at hc
     go_wp2
     go_roundg (n - (k+1))
     case measure=>omega
     case rel=>exact⟨k+1,hlt,by go_num,rfl,rfl,fun j hj=>by
      rcases Nat.lt_or_ge j k with h|h
      ·exact A.out j h
      ·obtain rfl:j=k:=by omega
       exact hek⟩
   | false=>
     rw[hek]at hc
     go_wp2
     go_ret
     refine⟨?_,rfl⟩
     have:(List.range n).all e=false:=by
      rw[List.all_eq_false]
      exact⟨k,List.mem_range.2 hlt,by simp[hek]⟩
     rw[this]
     rfl
  ·have:k=n:=by omega
   subst this
   go_wp2
   go_ret
   refine⟨?_,rfl⟩
   have:(List.range k).all e=true:=by
    rw[List.all_eq_true]
    exact fun j hj=>A.out j (List.mem_range.1 hj)
   rw[this]
   rfl
structure D7(w:World)(ub:Nat)(la:Option Addr)(ll lc M at' rd:Nat)(ov:Value)(order:List Nat):Prop where
 o:w.heap[ub]? =some (.cells #[.slice la ll lc,vI M,vI at',vI rd,ov] 93 (0,0))
 row:w.ownsRow 0 3 1 ov order.length (order.map fun i:Nat=>Value.int .i64 i)
theorem p0n:∃i z,Tryd.prog.info? 3=some i∧i.zero=some z∧i.size=1∧i.bytes=8∧z.cells.size=1:=g03 (by kernel_rfl)
theorem h0w{ea:Option Addr}{n ec:Nat}{e:Nat→Bool}(h:w.ownsRow 0 4 1 (.slice ea n ec) n ((List.range n).map fun j=>.bool (e j))):r0a w ea n e:=
 ⟨fun j hj=>by
  obtain⟨b,cap,e1,h1⟩:=M5 (k:=j) h (x:=.bool (e j)) (by simp[hj])
  cases e1
  exact⟨b,rfl,h1.c⟩⟩
structure m00(w wr:World)(ub:Nat)(ov ov':Value):Prop where
 size:w.heap.size≤wr.heap.size
 old:∀r,r<w.heap.size→r≠ub→some r≠ov.ownBlock→wr.heap[r]? =w.heap[r]?
 fo:ov'.ownBlock=ov.ownBlock∨∃g,ov'.ownBlock=some g∧w.heap.size≤g
theorem m0G{ub M at' rd ll lc:Nat}{la ea:Option Addr}{n ec:Nat}{e:Nat→Bool}{ov:Value}{order:List Nat}(hn:n≤64)(hE:w.ownsRow 0 4 1 (.slice ea n ec) n ((List.range n).map fun j=>.bool (e j)))(hT:D7 w ub la ll lc M at' rd ov order)
 (hno:(List.range n).all e=true∨order.length=M) (hM:M≤1048576) (hol:order.length≤M):
 Calls Tryd.prog 36 #[vP ub 0,.slice ea n ec] w fun x w'=>x= .returned (.tuple #[vI 0,.bool false])∧w'.heap=w.heap:=by
 have hov:∀m,Calls Tryd.prog 38 #[.slice ea n ec] (w.drewN m) fun x w'=>x= .returned (.bool ((List.range n).all e))∧w'=w.drewN m:=fun m=>f0M (ec:=ec) hn ⟨(h0w hE).c⟩
 have u1:w.cell? ⟨ub,1,none⟩=some (vI M):=by simp[World.cell?,hT.o]
 obtain⟨oa,oc,rfl⟩:∃oa oc,ov= .slice oa order.length oc:=by
  rcases hT.row.2 with⟨h1,h2⟩|⟨g,cap,cur,h1,_⟩
  ·exact⟨none,0,by rw[h1,h2]⟩
  ·exact⟨_,_,h1⟩
 have u4:w.cell? ⟨ub,4,none⟩=some (.slice oa order.length oc):=by simp[World.cell?,hT.o]
 clear hE hT
 cases hall:(List.range n).all e with
 | true=>
   simp only[hall]at hov
   clear hno
   have H:Aside (∀m,Calls Tryd.prog 38 #[.slice ea n ec] (w.drewN m) fun x w'=>x= .returned (.bool true)∧w'=w.drewN m):=hov
   clear hov hall
   go_enter Tryd.func36,Tryd.ntmps36
   go_wp2
   go_quiet ((go_at_call 38;exact Calls.quiet_of_same (H.out _)))
   go_wp2
   go_ret2
   exact⟨rfl,rfl⟩
 | false=>
   simp only[hall]at hov
   rw[hall]at hno
   have hno:order.length=M:=by simpa using hno
   have H:Aside (∀m,Calls Tryd.prog 38 #[.slice ea n ec] (w.drewN m) fun x w'=>x= .returned (.bool false)∧w'=w.drewN m):=hov
   clear hov hall
   subst hno
   go_enter Tryd.func36,Tryd.ntmps36
   go_wp2
   go_quiet ((go_at_call 38;exact Calls.quiet_of_same (H.out _)))
   go_wp2
   go_ret2
   exact⟨rfl,rfl⟩
end
section
variable{w w':World}
theorem b0l{b k:Nat}{c:Array Value}{e:TypeId}{z:Nat×Nat}{v:Value}(h:w.heap[b]? =some (.cells c e z)):(w.setCell ⟨b,k,none⟩ v).heap[b]? =some (.cells (c.setIfInBounds k v) e z):=by
 rw[U1 h]
structure m0S(w wr:World)(ub:Nat)(la:Option Addr)(ll lc M p rd:Nat)(ov:Value):Prop where
 o:wr.heap[ub]? =some (.cells #[.slice la ll lc,vI M,vI p,vI rd,ov] 93 (0,0))
 old:∀r,r≠ub→wr.heap[r]? =w.heap[r]?
 size:wr.heap.size=w.heap.size
theorem m0S.setP{wr:World}{ub:Nat}{la:Option Addr}{ll lc M p rd:Nat}{ov:Value}(h:m0S w wr ub la ll lc M p rd ov){u:World}(p':Nat)(hu:u.heap=(wr.setCell ⟨ub,2,none⟩ (vI p')).heap):m0S w u ub la ll lc M p' rd ov:=
 ⟨by rw[hu,b0l h.o];rfl,fun r hr=>by rw[hu,I0 _ _ _ hr];exact h.old r hr,by rw[hu,World.size_setCell];exact h.size⟩
theorem m0S.setR{wr:World}{ub:Nat}{la:Option Addr}{ll lc M p rd:Nat}{ov:Value}(h:m0S w wr ub la ll lc M p rd ov){u:World}(r':Nat)(hu:u.heap=(wr.setCell ⟨ub,3,none⟩ (vI r')).heap):m0S w u ub la ll lc M p r' ov:=
 ⟨by rw[hu,b0l h.o];rfl,fun r hr=>by rw[hu,I0 _ _ _ hr];exact h.old r hr,by rw[hu,World.size_setCell];exact h.size⟩
theorem m0S.heap{wr:World}{ub:Nat}{la:Option Addr}{ll lc M p rd:Nat}{ov:Value}(h:m0S w wr ub la ll lc M p rd ov){u:World}(hu:u.heap=wr.heap):m0S w u ub la ll lc M p rd ov:=
 ⟨by rw[hu];exact h.o,fun r hr=>by rw[hu];exact h.old r hr,by rw[hu];exact h.size⟩
theorem i0v{wr w1 u:World}{ub:Nat}{la:Option Addr}{ll lc M p0 rd0 p rd x X:Nat}{order:List Nat}{ov v':Value}(hT:D7 w ub la ll lc M p0 rd0 ov order)(h:m0S w wr ub la ll lc M p rd ov)
 (hown:w1.ownsRow 0 3 1 v' (order.length+1) ((order.map fun i:Nat=>Value.int .i64 i)++[vI x])) (hold:∀r,r<wr.heap.size→some r≠ov.ownBlock→w1.heap[r]? =wr.heap[r]?) (hsz:wr.heap.size≤w1.heap.size)
 (hfr:v'.ownBlock=ov.ownBlock∨∃g,v'.ownBlock=some g∧X≤g) (hX:wr.heap.size≤X) (hu:u.heap=(w1.setCell ⟨ub,4,none⟩ v').heap):
 D7 u ub la ll lc M p rd v' (order++[x])∧m00 w u ub ov v':=by
 have hub:=(Array.getElem?_eq_some_iff.1 h.o).1
 have hne:some ub≠ov.ownBlock:=Q9 hT.row hT.o (by decide)
 have hs:=h.size
 have hvt:v'.ownBlock≠some ub:=by
  rcases hfr with e|⟨g,e,hg⟩
  ·rw[e];exact fun h=>hne h.symm
  ·rw[e];intro h;cases h;omega
 have hou:∀r,r≠ub→u.heap[r]? =w1.heap[r]?:=fun r hr=>by rw[hu,I0 _ _ _ hr]
 refine⟨⟨?_,?_⟩,⟨?_,fun r h1 h2 h3=>?_,?_⟩⟩
 ·rw[hu,b0l ((hold ub hub hne).trans h.o)];rfl
 ·rw[List.length_append,List.map_append]
  exact G1 hown fun b hb _=>hou b fun e=>hvt (e ▸ hb)
 ·rw[hu,World.size_setCell];omega
 ·exact(hou r h2).trans ((hold r (by omega) h3).trans (h.old r h2))
 ·rcases hfr with e|⟨g,e,hg⟩
  ·exact .inl e
  ·exact .inr ⟨g,e,by omega⟩
theorem m0I{ub M p0 rd lc n ec:Nat}{la ea:Option Addr}{S:List Int}{e:Nat→Bool}{ov:Value}{order:List Nat}(hn:n≤64)(hn0:0<n)(hE:w.ownsRow 0 4 1 (.slice ea n ec) n ((List.range n).map fun j=>.bool (e j)))(hS:w.ownsRow 0 3 1 (.slice la S.length lc) S.length (S.map fun i:Int=>Value.int .i64 i))
 (hT:D7 w ub la S.length lc M p0 rd ov order) (hp:p0≤S.length) (hrd:rd≤64) (hlive:(List.range n).all e=false) (hno:¬order.length=M) (hM:M≤1048576) (hol:order.length≤M) (hSl:S.length<10000000):
 Calls Tryd.prog 36 #[vP ub 0,.slice ea n ec] w fun x w'=>∃y p1 r1 ov',x= .returned (.tuple #[vI (y:Nat),.bool true])∧j0N S n e p0 rd y p1 r1∧D7 w' ub la S.length lc M p1 r1 ov' (order++[y])∧m00 w w' ub ov ov':=by
 obtain⟨i0,z0,hi,hz0,hz1,hz2,hz3⟩:=p0n
 have hov:∀m,Calls Tryd.prog 38 #[.slice ea n ec] (w.drewN m) fun x w'=>x= .returned (.bool false)∧w'=w.drewN m:=fun m=>by
  have:=f0M (w:=w.drewN m) (ec:=ec) hn ⟨(h0w hE).c⟩
  rw[hlive]at this
  exact this
 obtain⟨oa,oc,rfl⟩:∃oa oc,ov= .slice oa order.length oc:=by
  rcases hT.row.2 with⟨h1,h2⟩|⟨g,cap,cur,h1,_⟩
  ·exact⟨none,0,by rw[h1,h2]⟩
  ·exact⟨_,_,h1⟩
 have u1:w.cell? ⟨ub,1,none⟩=some (vI M):=by simp[World.cell?,hT.o]
 have u4:w.cell? ⟨ub,4,none⟩=some (.slice oa order.length oc):=by simp[World.cell?,hT.o]
 have hno2:¬(order.length:Int)=M:=by omega
 have H:Aside (∀m,Calls Tryd.prog 38 #[.slice ea n ec] (w.drewN m) fun x w'=>x= .returned (.bool false)∧w'=w.drewN m):=hov
 have A:Aside (w.ownsRow 0 4 1 (.slice ea n ec) n ((List.range n).map fun j=>.bool (e j))∧w.ownsRow 0 3 1 (.slice la S.length lc) S.length (S.map fun i:Int=>Value.int .i64 i)∧D7 w ub la S.length lc M p0 rd (.slice oa order.length oc) order∧(List.range n).all e=false):=⟨hE,hS,hT,hlive⟩
 clear hov hE hS hT hlive
 go_enter Tryd.func36,Tryd.ntmps36
 go_wp2
 go_quiet ((go_at_call 38;exact Calls.quiet_of_same (H.out _)))
 go_wp2
 have hb:((order.length:Int) == (M:Int))=false:=by simpa using hno2
 simp only[hb]
 clear u1 u4 hno2 hb
 go_loopg [] (S.length - p0) (fun g wr=>∃p,m0S w wr ub la S.length lc M p rd (.slice oa order.length oc)∧p0≤p∧p≤S.length∧(∀j y,p0≤j→j<p→S[j]? =some y→¬okS n e y)∧g=S.length - p)
 case atStart=>exact⟨p0,⟨A.out.2.2.1.o,fun _ _=>rfl,rfl⟩,Nat.le_refl _,hp,fun j y h1 h2=>by omega,rfl⟩
 case round=>
  obtain⟨p,hW,hp1,hp2,hskip,rfl⟩:=hrel
  have B:Aside (m0S w wr ub la S.length lc M p rd (.slice oa order.length oc)∧(∀j y,p0≤j→j<p→S[j]? =some y→¬okS n e y)):=⟨hW,hskip⟩
  have u0:wr.cell? ⟨ub,0,none⟩=some (.slice la S.length lc):=by simp[World.cell?,hW.o]
  have u2:wr.cell? ⟨ub,2,none⟩=some (vI p):=by simp[World.cell?,hW.o]
  clear hW hskip
  rcases Nat.lt_or_ge p S.length with hlt|hge
  ·go_wp2
   go_quiet (fail)
   rename_i nq
   have B2:Aside (m0S w (wr.drewN nq) ub la S.length lc M p rd (.slice oa order.length oc)):=B.out.1.heap rfl
   generalize wr.drewN nq=wd at B2 ⊢
   obtain⟨x,hx⟩:∃x,S[p]? =some x:=⟨_,List.getElem?_eq_getElem hlt⟩
   obtain⟨sb,scap,hsl,hsc⟩:=M5 (k:=p) A.out.2.1 (x:=vI x) (by simp[hx])
   simp only[Value.slice.injEq,Option.some.injEq,true_and]at hsl
   obtain⟨rfl,rfl⟩:=hsl
   have hsu:sb≠ub:=by
    rintro rfl
    have:=A.out.2.2.1.o
    rcases A.out.2.1.2 with⟨h0,_⟩|⟨g,cap,cur,h0,_,h3,_⟩
    ·cases h0
    ·cases h0
     rw[h3]at this
     simp only[Option.some.injEq,Obj.cells.injEq]at this
     exact absurd this.2.1 (by decide)
   have u0:wd.cell? ⟨ub,0,none⟩=some (vL sb 0 S.length lc):=by simp[World.cell?,B2.out.o]
   have u2:wd.cell? ⟨ub,2,none⟩=some (vI p):=by simp[World.cell?,B2.out.o]
   have ux:wd.cell? ⟨sb,p,none⟩=some (vI x):=(F1 (B2.out.old sb hsu)).1.trans hsc.c
   go_wp2
   go_quiet (fail)
   skip
   have B3:Aside (m0S w (wd.drewN nq) ub (some ⟨sb,0,none⟩) S.length lc M p rd (.slice oa order.length oc)):=B2.out.heap rfl
   generalize wd.drewN nq=we at B3 ⊢
   clear u0 u2 ux B2
   have u2:we.cell? ⟨ub,2,none⟩=some (vI p):=by simp[World.cell?,B3.out.o]
   have u4:we.cell? ⟨ub,4,none⟩=some (.slice oa order.length oc):=by simp[World.cell?,B3.out.o]
   have z2:we.frozen? ⟨ub,2,none⟩=false:=by simp[World.frozen?,B3.out.o]
   have z4:we.frozen? ⟨ub,4,none⟩=false:=by simp[World.frozen?,B3.out.o]
   have hwr:IntKind.i64.wrap ((p:Int)+1)=(p:Int)+1:=IntWalk.i64_in _ (by omega)
   by_cases hx0:0≤x
   ·obtain⟨xn,rfl⟩:∃xn:Nat,x=xn:=⟨x.toNat,by omega⟩
    by_cases hxn:xn<n
    ·obtain⟨eb,ecap,hel,hec⟩:=M5 (k:=xn) A.out.1 (x:=.bool (e xn)) (by simp[hxn])
     simp only[Value.slice.injEq,Option.some.injEq,true_and]at hel
     obtain⟨rfl,rfl⟩:=hel
     have heu:eb≠ub:=by
      rintro rfl
      have:=A.out.2.2.1.o
      rcases A.out.1.2 with⟨h0,_⟩|⟨g,cap,cur,h0,_,h3,_⟩
      ·cases h0
      ·cases h0
       rw[h3]at this
       simp only[Option.some.injEq,Obj.cells.injEq]at this
       exact absurd this.2.1 (by decide)
     have heu2:¬ub=eb:=fun h=>heu h.symm
     have ue:we.cell? ⟨eb,xn,none⟩=some (.bool (e xn)):=(F1 (B3.out.old eb heu)).1.trans hec.c
     clear hec
     cases hek:e xn with
     | true=>
       rw[hek]at ue
       go_wp2
       go_roundg (S.length - (p+1))
       case measure=>omega
       case rel=>
        refine⟨p+1,B3.out.setP (p+1) rfl,by omega,by omega,fun j y h1 h2 h3=>?_,rfl⟩
        rcases Nat.lt_or_ge j p with h|h
        ·exact B.out.2 j y h1 h h3
        ·obtain rfl:j=p:=by omega
         rw[hx]at h3
         cases h3
         exact fun h=>by have:=h.2.2;simp only[Int.toNat_natCast,hek]at this;cases this
     | false=>
       rw[hek]at ue
       have hub:=(Array.getElem?_eq_some_iff.1 B3.out.o).1
       have hsz:=B3.out.size
       have hrow:we.ownsRow 0 3 1 (.slice oa order.length oc) order.length (order.map fun i:Nat=>Value.int .i64 i):=G1 A.out.2.2.1.row fun b hb _=>B3.out.old b fun e=>Q9 A.out.2.2.1.row A.out.2.2.1.o (by decide) (by rw[← e,hb])
       have F0:Aside (m0S w (we.setCell ⟨ub,2,none⟩ (vI ((p:Int)+1))) ub (some ⟨sb,0,none⟩) S.length lc M (p+1) rd (.slice oa order.length oc)):=B3.out.setP (p+1) rfl
       clear hsz
       go_wp2_with (first
        | (at_builtin;refine I3 rfl (.tmp 68) (.tmp 70) 24 rfl 3 i0 z0 1 8 Tryd.underlying24 hi hz0 hz1 hz2 hz3 (by decide) (.slice oa order.length oc) order.length (order.map fun i:Nat=>Value.int .i64 i) rfl ?c0 ⟨we.heap.size,0,none⟩ 1 1 [.int .i64 xn] rfl rfl ?c1 ?c2 ?c3 ?c4 ?_)
        | go_in)
       case c0=>exact World.ownsRow.alloc (G1 hrow fun b hb _=>I0 _ _ _ fun e=>Q9 A.out.2.2.1.row A.out.2.2.1.o (by decide) (by rw[hb,e])) _
       case c1=>exact c0b (X:=we.setCell ⟨ub,2,none⟩ (vI ((p:Int)+1))) (l:=[vI xn]) (by simp)
       case c2=>intro u hu;simp at hu;subst hu;rfl
       case c3=>unfold maxLen;omega
       case c4=>omega
       ·intro v' w1 hown hgrow hfr
        obtain⟨g,cap,rfl⟩:=j5 hown
        have hold:∀r,r<(we.setCell ⟨ub,2,none⟩ (vI ((p:Int)+1))).heap.size→some r≠(Value.slice oa order.length oc).ownBlock→w1.heap[r]? =(we.setCell ⟨ub,2,none⟩ (vI ((p:Int)+1))).heap[r]?:=fun r h1 h2=>K3 hgrow h1 h2
        have hk1:=hold ub (by simpa using hub) (Q9 A.out.2.2.1.row A.out.2.2.1.o (by decide))
        have k0:w1.cell? ⟨ub,4,none⟩=some (.slice oa order.length oc):=by simp[World.cell?,hk1,F0.out.o]
        have k1:w1.frozen? ⟨ub,4,none⟩=false:=by simp[World.frozen?,hk1,F0.out.o]
        have G:Aside ((∀r,r<(we.setCell ⟨ub,2,none⟩ (vI ((p:Int)+1))).heap.size→some r≠(Value.slice oa order.length oc).ownBlock→w1.heap[r]? =(we.setCell ⟨ub,2,none⟩ (vI ((p:Int)+1))).heap[r]?)∧(we.setCell ⟨ub,2,none⟩ (vI ((p:Int)+1))).heap.size≤w1.heap.size∧((Value.slice (some ⟨g,0,none⟩) (order.length+1) cap).ownBlock=(Value.slice oa order.length oc).ownBlock∨∃g',(Value.slice (some ⟨g,0,none⟩) (order.length+1) cap).ownBlock=some g'∧(we.setCell ⟨ub,2,none⟩ (vI ((p:Int)+1))).heap.size≤g')):=
         ⟨hold,Nat.le_trans (by simp) hgrow.size,hfr.imp id fun⟨g',h1,h2⟩=>⟨g',h1,by simp;omega⟩⟩
        clear hold hk1 hgrow hfr hrow
        go_wp2
        go_ret2
        obtain⟨g1,g2,g3⟩:=G.out
        have:=i0v A.out.2.2.1 F0.out hown g1 g2 g3 (Nat.le_refl _) rfl
        exact⟨xn,p+1,rd,_,rfl,.inl ⟨p,hp1,B.out.2,hx,⟨hx0,by omega,by simpa using hek⟩,rfl,rfl⟩,this.1,this.2⟩
    ·have hxn2:¬((xn:Int)<n):=by omega
     go_wp2
     go_roundg (S.length - (p+1))
     case measure=>omega
     case rel=>
      refine⟨p+1,B3.out.setP (p+1) rfl,by omega,by omega,fun j y h1 h2 h3=>?_,rfl⟩
      rcases Nat.lt_or_ge j p with h|h
      ·exact B.out.2 j y h1 h h3
      ·obtain rfl:j=p:=by omega
       rw[hx]at h3
       cases h3
       exact fun h=>by have:=h.2.1;omega
   ·have hx1:x<0:=by omega
    go_wp2
    go_roundg (S.length - (p+1))
    case measure=>omega
    case rel=>
     refine⟨p+1,B3.out.setP (p+1) rfl,by omega,by omega,fun j y h1 h2 h3=>?_,rfl⟩
     rcases Nat.lt_or_ge j p with h|h
     ·exact B.out.2 j y h1 h h3
     ·obtain rfl:j=p:=by omega
      rw[hx]at h3
      cases h3
      exact fun h=>by have:=h.1;omega
  ·obtain rfl:p=S.length:=by omega
   obtain⟨yl,hyl,hyl2⟩:∃y,y<n∧e y=false:=by
    have:=A.out.2.2.2
    rw[List.all_eq_false]at this
    obtain⟨y,h1,h2⟩:=this
    exact⟨y,List.mem_range.1 h1,by simpa using h2⟩
   obtain⟨r0,hr0,hr1,hr2⟩:∃r0,rd≤r0∧e (r0 % n)=false∧r0≤10000:=by
    refine⟨yl+n*(rd+1),?_,?_,?_⟩
    ·have:=Nat.mul_le_mul_right (rd+1) hn0;omega
    ·rw[Nat.add_mul_mod_self_left,Nat.mod_eq_of_lt hyl];exact hyl2
    ·have:=Nat.mul_le_mul hn (show rd+1≤65 by omega);omega
   go_wp2
   go_quiet (fail)
   have B2:Aside (m0S w (wr.drewN nq) ub la S.length lc M S.length rd (.slice oa order.length oc)):=B.out.1.heap rfl
   generalize wr.drewN nq=wd at B2 ⊢
   clear u0 u2
   go_wp2
   go_loopg [] (r0 - rd) (fun g wr=>∃r,m0S w wr ub la S.length lc M S.length r (.slice oa order.length oc)∧rd≤r∧r≤r0∧(∀j,rd≤j→j<r→e (j % n)=true)∧g=r0 - r)
   case atStart=>exact⟨rd,B2.out,Nat.le_refl _,hr0,fun j h1 h2=>by omega,rfl⟩
   case round=>
    obtain⟨r,hW,hra,hrb,hskip,rfl⟩:=hrel
    have C:Aside (m0S w wr ub la S.length lc M S.length r (.slice oa order.length oc)∧∀j,rd≤j→j<r→e (j % n)=true):=⟨hW,hskip⟩
    have u3:wr.cell? ⟨ub,3,none⟩=some (vI r):=by simp[World.cell?,hW.o]
    have z3:wr.frozen? ⟨ub,3,none⟩=false:=by simp[World.frozen?,hW.o]
    have hmod:r % n<n:=Nat.mod_lt _ hn0
    obtain⟨eb,ecap,hel,hec⟩:=M5 (k:=r % n) A.out.1 (x:=.bool (e (r % n))) (by simp[hmod])
    simp only[Value.slice.injEq,Option.some.injEq,true_and]at hel
    obtain⟨rfl,rfl⟩:=hel
    have heu:eb≠ub:=by
     rintro rfl
     have:=A.out.2.2.1.o
     rcases A.out.1.2 with⟨h0,_⟩|⟨g,cap,cur,h0,_,h3,_⟩
     ·cases h0
     ·cases h0
      rw[h3]at this
      simp only[Option.some.injEq,Obj.cells.injEq]at this
      exact absurd this.2.1 (by decide)
    have ue:wr.cell? ⟨eb,r % n,none⟩=some (.bool (e (r % n))):=(F1 (hW.old eb heu)).1.trans hec.c
    have hwr:IntKind.i64.wrap ((r:Int)+1)=(r:Int)+1:=IntWalk.i64_in _ (by omega)
    clear hW hskip hec
    cases hek:e (r % n)with
    | true=>
      rw[hek]at ue
      go_wp2
      go_roundg (r0 - (r+1))
      case measure=>
       rcases Nat.lt_or_ge r r0 with h|h
       ·omega
       ·obtain rfl:r=r0:=by omega
        rw[hek]at hr1;cases hr1
      case rel=>
       refine⟨r+1,C.out.1.setR (r+1) rfl,by omega,?_,fun j h1 h2=>?_,rfl⟩
       ·rcases Nat.lt_or_ge r r0 with h|h
        ·omega
        ·obtain rfl:r=r0:=by omega
         rw[hek]at hr1;cases hr1
       ·rcases Nat.lt_or_ge j r with h|h
        ·exact C.out.2 j h1 h
        ·obtain rfl:j=r:=by omega
         exact hek
    | false=>
      rw[hek]at ue
      have u4:wr.cell? ⟨ub,4,none⟩=some (.slice oa order.length oc):=by simp[World.cell?,C.out.1.o]
      have z4:wr.frozen? ⟨ub,4,none⟩=false:=by simp[World.frozen?,C.out.1.o]
      have hub:=(Array.getElem?_eq_some_iff.1 C.out.1.o).1
      have hrow:wr.ownsRow 0 3 1 (.slice oa order.length oc) order.length (order.map fun i:Nat=>Value.int .i64 i):=G1 A.out.2.2.1.row fun b hb _=>C.out.1.old b fun e=>Q9 A.out.2.2.1.row A.out.2.2.1.o (by decide) (by rw[← e,hb])
      have hwm:IntKind.i64.wrap (((r % n:Nat):Int)+1)=((r % n:Nat):Int)+1:=IntWalk.i64_in _ (by omega)
      have F0:Aside (m0S w (wr.setCell ⟨ub,3,none⟩ (vI ((r:Int) % (n:Int)+1))) ub la S.length lc M S.length (r % n+1) (.slice oa order.length oc)):=C.out.1.setR (r % n+1) rfl
      go_wp2_with (first
       | (at_builtin;refine I3 rfl (.tmp 108) (.tmp 110) 24 rfl 3 i0 z0 1 8 Tryd.underlying24 hi hz0 hz1 hz2 hz3 (by decide) (.slice oa order.length oc) order.length (order.map fun i:Nat=>Value.int .i64 i) rfl ?c0 ⟨wr.heap.size,0,none⟩ 1 1 [.int .i64 ((r:Int) % (n:Int))] rfl rfl ?c1 ?c2 ?c3 ?c4 ?_)
       | go_in)
      case c0=>exact World.ownsRow.alloc (G1 hrow fun b hb _=>I0 _ _ _ fun e=>Q9 A.out.2.2.1.row A.out.2.2.1.o (by decide) (by rw[hb,e])) _
      case c1=>exact c0b (X:=wr.setCell ⟨ub,3,none⟩ (vI ((r:Int) % (n:Int)+1))) (l:=[vI ((r:Int) % (n:Int))]) (by simp)
      case c2=>intro u hu;simp at hu;subst hu;rfl
      case c3=>unfold maxLen;omega
      case c4=>omega
      ·intro v' w1 hown hgrow hfr
       obtain⟨g,cap,rfl⟩:=j5 hown
       have hold:∀b0,b0<(wr.setCell ⟨ub,3,none⟩ (vI ((r:Int) % (n:Int)+1))).heap.size→some b0≠(Value.slice oa order.length oc).ownBlock→w1.heap[b0]? =(wr.setCell ⟨ub,3,none⟩ (vI ((r:Int) % (n:Int)+1))).heap[b0]?:=fun b0 h1 h2=>K3 hgrow h1 h2
       have hk1:=hold ub (by simpa using hub) (Q9 A.out.2.2.1.row A.out.2.2.1.o (by decide))
       have k0:w1.cell? ⟨ub,4,none⟩=some (.slice oa order.length oc):=by simp[World.cell?,hk1,F0.out.o]
       have k1:w1.frozen? ⟨ub,4,none⟩=false:=by simp[World.frozen?,hk1,F0.out.o]
       have G:Aside ((∀b0,b0<(wr.setCell ⟨ub,3,none⟩ (vI ((r:Int) % (n:Int)+1))).heap.size→some b0≠(Value.slice oa order.length oc).ownBlock→w1.heap[b0]? =(wr.setCell ⟨ub,3,none⟩ (vI ((r:Int) % (n:Int)+1))).heap[b0]?)∧(wr.setCell ⟨ub,3,none⟩ (vI ((r:Int) % (n:Int)+1))).heap.size≤w1.heap.size∧((Value.slice (some ⟨g,0,none⟩) (order.length+1) cap).ownBlock=(Value.slice oa order.length oc).ownBlock∨∃g',(Value.slice (some ⟨g,0,none⟩) (order.length+1) cap).ownBlock=some g'∧(wr.setCell ⟨ub,3,none⟩ (vI ((r:Int) % (n:Int)+1))).heap.size≤g')):=
        ⟨hold,Nat.le_trans (by simp) hgrow.size,hfr.imp id fun⟨g',h1,h2⟩=>⟨g',h1,by simp;omega⟩⟩
       clear hold hk1 hgrow hfr hrow
       go_wp2
       go_ret2
       obtain⟨g1,g2,g3⟩:=G.out
       have:=i0v (x:=r % n) A.out.2.2.1 F0.out hown g1 g2 g3 (Nat.le_refl _) rfl
       exact⟨r % n,S.length,r % n+1,_,rfl,.inr ⟨fun j y h1 h2=>B.out.2 j y h1 (List.getElem?_eq_some_iff.1 h2).1 h2,rfl,r,hra,C.out.2,hek,rfl,rfl⟩,this.1,this.2⟩
end
section
variable{w w':World}
def m0Y(w:World)(S:List Int)(M:Nat)(x:Ending)(w':World):Prop:=
 ∃ub la lc,x= .returned (vP ub 0)∧D7 w' ub la S.length lc M 0 0 (.slice none 0 0) []∧w'.ownsRow 0 3 1 (.slice la S.length lc) S.length (S.map fun i:Int=>Value.int .i64 i)∧
  w.heap.size≤ub∧(∀g,(Value.slice la S.length lc).ownBlock=some g→w.heap.size≤g)∧(∀r,r<w.heap.size→w'.heap[r]? =w.heap[r]?)∧w.heap.size≤w'.heap.size
theorem h0z{sa:Option Addr}{sc M:Nat}{mo:Int}(hM:min (max mo 0) 1048576=(M:Int)):Calls Tryd.prog 35 #[.slice sa 0 sc,vI mo] w fun x w'=>m0Y w [] M x w':=by
 have hap:Sem.run Tryd.prog (pure (#[]:Array Value)) w= .ok #[] w:=rfl
 have hap2:Sem.run Tryd.prog (Sem.pure (#[]:Array Value)) w= .ok #[] w:=rfl
 rcases sa with _|ad
 all_goals go_enter Tryd.func35,Tryd.ntmps35
 all_goals go_wp2
 all_goals try (simp only[hap,hap2,Result.andThen_ok];go_wp2)
 all_goals(
  go_ret
  refine⟨w.heap.size,none,0,rfl,⟨?_,⟨rfl,.inl ⟨rfl,rfl⟩⟩⟩,⟨rfl,.inl ⟨rfl,rfl⟩⟩,Nat.le_refl _,fun g h=>(by cases h),fun r hr=>D0 _ _ hr,by simp⟩
  first
   | (rw[show(M:Int)=mo by omega];exact heap_alloc_new _ _)
   | (rw[show(M:Int)=0 by omega];exact heap_alloc_new _ _)
   | (rw[show(M:Int)=1048576 by omega];exact heap_alloc_new _ _))
theorem f09{S:List Int}{ad:Addr}{sc M:Nat}{mo:Int}(hM:min (max mo 0) 1048576=(M:Int))(hl:S.length<10000000)(h0:0<S.length)(hS:∀j u,(S.map fun i:Int=>Value.int .i64 i)[j]? =some u→w.cell? (ad.add j)=some u):
 Calls Tryd.prog 35 #[.slice (some ad) S.length sc,vI mo] w fun x w'=>m0Y w S M x w':=by
 obtain⟨i0,z0,hi,hz0,hz1,hz2,hz3⟩:=p0n
 go_enter Tryd.func35,Tryd.ntmps35
 go_wp2_with (first
  | (at_builtin;refine I3 rfl (.tmp 6) (.tmp 7) 24 rfl 3 i0 z0 1 8 Tryd.underlying24 hi hz0 hz1 hz2 hz3 (by decide) (.slice none 0 0) 0 [] rfl ?c0 ad S.length sc (S.map fun i:Int=>Value.int .i64 i) rfl ?c5 ?c1 ?c2 ?c3 ?c4 ?_)
  | go_in)
 case c0=>exact⟨rfl,.inl ⟨rfl,rfl⟩⟩
 case c5=>simp
 case c1=>exact hS
 case c2=>intro u hu;obtain⟨i,_,rfl⟩:=List.mem_map.1 hu;rfl
 case c3=>unfold maxLen;omega
 case c4=>omega
 ·intro v' w1 hown hgrow hfr
  obtain⟨n,hn⟩:∃n,S.length=n+1:=⟨S.length - 1,by omega⟩
  first|rw[Nat.zero_add,List.nil_append]at hown|skip
  rw[hn]at hown
  obtain⟨g,cap,rfl⟩:=j5 hown
  have hold:∀r,r<w.heap.size→w1.heap[r]? =w.heap[r]?:=fun r hr=>hgrow.block r hr (by simp[Value.ownBlock])
  have hsz:=hgrow.size
  have F:Aside ((∀r,r<w.heap.size→w1.heap[r]? =w.heap[r]?)∧w.heap.size≤w1.heap.size∧w1.ownsRow 0 3 1 (vL g 0 (n+1) cap) (n+1) (S.map fun i:Int=>Value.int .i64 i)∧w.heap.size≤g∧S.length=n+1):=⟨hold,hsz,hown,by
   rcases hfr with h|⟨g',h,hg⟩
   ·simp[Value.ownBlock]at h
   ·simp only[Value.ownBlock,Option.some.injEq]at h
    omega,hn⟩
  clear hown hgrow hfr hold hsz hS hn
  go_wp2
  all_goals(
   go_ret
   obtain⟨f1,f2,f3,f4,f5⟩:=F.out
   refine⟨w1.heap.size,some ⟨g,0,none⟩,cap,rfl,⟨?_,⟨rfl,.inl ⟨rfl,rfl⟩⟩⟩,?_,f2,fun g' h=>?_,fun r hr=>?_,by simp;omega⟩
   ·rw[f5]
    first
     | (rw[show(M:Int)=mo by omega];exact heap_alloc_new _ _)
     | (rw[show(M:Int)=0 by omega];exact heap_alloc_new _ _)
     | (rw[show(M:Int)=1048576 by omega];exact heap_alloc_new _ _)
   ·rw[f5]
    exact f3.alloc _
   ·simp only[Value.ownBlock,Option.some.injEq]at h
    omega
   ·rw[D0 _ _ (by omega)]
    exact f1 r hr)
end
section
variable{w w':World}
theorem B5.olds{a:Option Addr}{xs:List Value}(h:B5 w a xs)(hk:∀r,r<w.heap.size→w'.heap[r]? =w.heap[r]?):B5 w' a xs:=
 ⟨fun k x hx=>by
  obtain⟨b,o,h1,h2⟩:=h.c k x hx
  obtain⟨c,e,z,ho⟩:=M3 h2
  have:=hk b (Q3 ho)
  exact⟨b,o,h1,by rw[← h2];unfold World.cell?;simp only[this]⟩⟩
theorem SAL.olds{a:SA}(h:SAL a w)(hk:∀r,r<w.heap.size→w'.heap[r]? =w.heap[r]?):SAL a w':=⟨h.l,h.r.olds hk⟩
theorem w0B{aa ab:Option Addr}{ca cb:Nat}{xs:List Int}(hl:xs.length<100000000)(hA:B5 w aa (xs.map fun v=>vI v))(hB:B5 w ab (xs.map fun v=>vI v)):
 Calls Tryd.prog 25 #[.slice aa xs.length ca,.slice ab xs.length cb] w fun x w'=>x= .returned (.bool true)∧∃m,w'=w.drewN m:=by
 have E:Aside (B5 w aa (xs.map fun v=>vI v)∧B5 w ab (xs.map fun v=>vI v)):=⟨hA,hB⟩
 clear hA hB
 go_enter Tryd.func25,Tryd.ntmps25
 go_wp2
 go_loopg [5] xs.length (fun g i wr=>∃k:Nat,k≤xs.length∧i=vI k∧g=xs.length - k∧∃m,wr=w.drewN m)
 case atStart=>exact⟨0,Nat.zero_le _,rfl,rfl,0,rfl⟩
 case round=>
  obtain⟨k,hk,rfl,rfl,m0,hw⟩:=hrel
  have W:Aside (wr=w.drewN m0):=hw
  have hh:wr.heap=w.heap:=by rw[hw];rfl
  clear hw
  rcases Nat.lt_or_ge k xs.length with hlt|hge
  ·obtain⟨b1,o1,rfl,h1⟩:=(E.out.1.heap hh).c k (vI xs[k]) (by simp[hlt])
   obtain⟨b2,o2,rfl,h2⟩:=(E.out.2.heap hh).c k (vI xs[k]) (by simp[hlt])
   have hwr:IntKind.i64.wrap ((k:Int)+1)=(k:Int)+1:=IntWalk.i64_in _ (by omega)
   clear hh
   go_wp2
   go_quiet (fail)
   go_wp2
   go_roundg (xs.length - (k+1))
   case measure=>omega
   case rel=>exact⟨k+1,hlt,rfl,rfl,_,by rw[W.out,World.drewN_drewN]⟩
  ·have:k=xs.length:=by omega
   subst this
   clear hh
   go_wp2
   go_ret
   exact⟨rfl,m0,W.out⟩
theorem y07{aa ba oa oa' sa sa':Option Addr}{n ac bc oc oc' sc sc':Nat}{st:Bool}{os ss:List Int}{X Y:Nat→List SA}{va vb:Nat→Option Addr}{ca cb:Nat→Nat}(hn:n≤64)(hos:os.length<10000000)(hss:ss.length<20000000)(hX:∀i,i<n→(X i).length<10000000∧(X i).map SA.an=(Y i).map SA.an∧(∀a∈X i,SAL a w∧a.an.2.2.length<100000000)∧∀a∈Y i,SAL a w)
 (h1:B5 w oa (os.map fun v=>vI v)) (h1':B5 w oa' (os.map fun v=>vI v)) (h2:B5 w sa (ss.map fun v=>vI v)) (h2':B5 w sa' (ss.map fun v=>vI v))
 (h3:B5 w aa ((List.range n).map fun i=>.slice (va i) (X i).length (ca i))) (h3':B5 w ba ((List.range n).map fun i=>.slice (vb i) (Y i).length (cb i))) (h4:∀i,i<n→B5 w (va i) (i5 (X i))) (h4':∀i,i<n→B5 w (vb i) (i5 (Y i))):
 Y6 Tryd.prog Tryd.f8 #[.agg #[.slice aa n ac,.slice oa os.length oc,.slice sa ss.length sc,.bool st],.agg #[.slice ba n bc,.slice oa' os.length oc',.slice sa' ss.length sc',.bool st]] w fun v w'=>v= .bool true∧∀r,r<w.heap.size→w'.heap[r]? =w.heap[r]?:=by
 have A:Aside (B5 w oa (os.map fun v=>vI v)∧B5 w oa' (os.map fun v=>vI v)∧B5 w sa (ss.map fun v=>vI v)∧B5 w sa' (ss.map fun v=>vI v)):=⟨h1,h1',h2,h2'⟩
 have B:Aside (B5 w aa ((List.range n).map fun i=>.slice (va i) (X i).length (ca i))∧B5 w ba ((List.range n).map fun i=>.slice (vb i) (Y i).length (cb i))∧(∀i,i<n→B5 w (va i) (i5 (X i)))∧(∀i,i<n→B5 w (vb i) (i5 (Y i)))∧∀i,i<n→(X i).length<10000000∧(X i).map SA.an=(Y i).map SA.an∧(∀a∈X i,SAL a w∧a.an.2.2.length<100000000)∧∀a∈Y i,SAL a w):=⟨h3,h3',h4,h4',hX⟩
 clear h1 h1' h2 h2' h3 h3' h4 h4' hX
 refine I8 rfl ?_
 simp only[Tryd.ntmps8,List.size_toArray,List.length_cons,List.length_nil,Nat.reduceAdd,Nat.reduceSub,Array.replicate_succ,Array.replicate_zero,List.push_toArray,List.append_toArray,List.nil_append,List.cons_append]
 go_wp2_with (fail)
 generalize hW:(w.alloc (.cells #[.slice aa n ac,.slice oa os.length oc,.slice sa ss.length sc,.bool st] 29)).alloc (.cells #[.slice ba n bc,.slice oa' os.length oc',.slice sa' ss.length sc',.bool st] 29)=W2
 have hWo:∀r,r<w.heap.size→W2.heap[r]? =w.heap[r]?:=fun r hr=>by rw[← hW,D0 _ _ (by simp;omega),D0 _ _ hr]
 have b2:W2.heap[w.heap.size]? =some (.cells #[.slice aa n ac,.slice oa os.length oc,.slice sa ss.length sc,.bool st] 29 (0,0)):=by rw[← hW,D0 _ _ (by simp)];exact heap_alloc_new _ _
 have b3:W2.heap[w.heap.size+1]? =some (.cells #[.slice ba n bc,.slice oa' os.length oc',.slice sa' ss.length sc',.bool st] 29 (0,0)):=by rw[← hW];exact R5 (by simp) _
 have f2:∀u:World,u.heap=W2.heap→u.cell? ⟨w.heap.size,0,none⟩=some (.slice aa n ac)∧u.cell? ⟨w.heap.size,2,none⟩=some (.slice sa ss.length sc)∧u.cell? ⟨w.heap.size,3,none⟩=some (.bool st):=fun u hu=>by simp[World.cell?,hu,b2]
 have f3:∀u:World,u.heap=W2.heap→u.cell? ⟨w.heap.size+1,0,none⟩=some (.slice ba n bc)∧u.cell? ⟨w.heap.size+1,2,none⟩=some (.slice sa' ss.length sc')∧u.cell? ⟨w.heap.size+1,3,none⟩=some (.bool st):=fun u hu=>by simp[World.cell?,hu,b3]
 have C:Aside ((∀r,r<w.heap.size→W2.heap[r]? =w.heap[r]?)∧(∀u:World,u.heap=W2.heap→u.cell? ⟨w.heap.size,0,none⟩=some (.slice aa n ac)∧u.cell? ⟨w.heap.size,2,none⟩=some (.slice sa ss.length sc)∧u.cell? ⟨w.heap.size,3,none⟩=some (.bool st))∧∀u:World,u.heap=W2.heap→u.cell? ⟨w.heap.size+1,0,none⟩=some (.slice ba n bc)∧u.cell? ⟨w.heap.size+1,2,none⟩=some (.slice sa' ss.length sc')∧u.cell? ⟨w.heap.size+1,3,none⟩=some (.bool st)):=⟨hWo,f2,f3⟩
 clear hW hWo b2 b3 f2 f3
 go_at_call 25
 refine(w0B (by omega) (A.out.1.olds C.out.1) (A.out.2.1.olds C.out.1)).mono ?_
 rintro e w1 ⟨rfl,m1,hw1⟩
 replace hw1:w1.heap=W2.heap:=by rw[hw1];rfl
 have W1:Aside (w1.heap=W2.heap):=hw1
 obtain⟨_,g1,_⟩:=C.out.2.1 w1 hw1
 obtain⟨_,g2,_⟩:=C.out.2.2 w1 hw1
 clear hw1
 go_wp2_with (fail)
 go_at_call 26
 refine(l06 (by omega) ((A.out.2.2.1.olds C.out.1).heap W1.out) ((A.out.2.2.2.olds C.out.1).heap W1.out)).mono ?_
 rintro e w3 ⟨rfl,m3,hw3⟩
 replace hw3:w3.heap=w1.heap:=by rw[hw3];rfl
 have W3:Aside (w3.heap=W2.heap):=hw3.trans W1.out
 clear g1 g2
 obtain⟨_,_,g1⟩:=C.out.2.1 w3 W3.out
 obtain⟨_,_,g2⟩:=C.out.2.2 w3 W3.out
 clear hw3
 all_goals(
  go_wp2
  clear g1 g2
  go_loopg [5] n (fun g i wr=>∃k:Nat,k≤n∧i=vI k∧g=n - k∧wr.heap=W2.heap)
  case atStart=>exact⟨0,Nat.zero_le _,rfl,rfl,W3.out⟩
  case round=>
   obtain⟨k,hk,rfl,rfl,hw⟩:=hrel
   have WR:Aside (wr.heap=W2.heap):=hw
   obtain⟨g1,_,_⟩:=C.out.2.1 wr hw
   obtain⟨g2,_,_⟩:=C.out.2.2 wr hw
   rcases Nat.lt_or_ge k n with hlt|hge
   ·obtain⟨h3,h3',h4,h4',hX⟩:=B.out
    obtain⟨b1,o1,rfl,e1⟩:=((h3.olds C.out.1).heap hw).c k (.slice (va k) (X k).length (ca k)) (by simp[hlt])
    obtain⟨b2,o2,rfl,e2⟩:=((h3'.olds C.out.1).heap hw).c k (.slice (vb k) (Y k).length (cb k)) (by simp[hlt])
    have hwr:IntKind.i64.wrap ((k:Int)+1)=(k:Int)+1:=IntWalk.i64_in _ (by omega)
    have H:Aside (Calls Tryd.prog 16 #[.slice (va k) (X k).length (ca k),.slice (vb k) (X k).length (cb k)] wr.drew fun x w'=>x= .returned (.bool true)∧w'.heap=W2.heap):=
     (v0T (w:=wr.drew) (by have:=hX k hlt;omega) (hX k hlt).2.1 (((h4 k hlt).olds C.out.1).heap (show wr.drew.heap=W2.heap from hw)) (((h4' k hlt).olds C.out.1).heap (show wr.drew.heap=W2.heap from hw)) (fun a ha=>⟨(((hX k hlt).2.2.1 a ha).1.olds C.out.1).heap (show wr.drew.heap=W2.heap from hw),((hX k hlt).2.2.1 a ha).2⟩) (fun a ha=>(((hX k hlt).2.2.2 a ha).olds C.out.1).heap (show wr.drew.heap=W2.heap from hw))).mono fun x w' h=>⟨h.1,h.2.trans hw⟩
    have hyl:(Y k).length=(X k).length:=by have:=congrArg List.length (hX k hlt).2.1;simpa using this.symm
    rw[hyl]at e2
    clear h3 h3' h4 h4' hX hw hyl
    go_wp2
    go_region_law (refine z0p rfl 16 #[.slice (va k) (X k).length (ca k),.slice (vb k) (X k).length (cb k)] (.bool true) (by simp[execOp,Act.eval,Act.put,resolve,invoke,Deferred.ofValue,callable16.run]) H.out ?_;intro w4 hw4;have W4:Aside (w4.heap=W2.heap):=hw4;clear hw4)
    all_goals go_wp2
    all_goals(
     go_roundg (n - (k+1))
     case measure=>omega
     case rel=>exact⟨k+1,hlt,rfl,rfl,W4.out⟩)
   ·have:k=n:=by omega
    subst this
    clear hw
    go_wp2
    go_ret
    exact⟨_,rfl,rfl,fun r hr=>by rw[WR.out];exact C.out.1 r hr⟩)
end
section
variable{w w':World}
theorem i0u{t:Nat}(h:t<1000000000000):Calls Tryd.prog 32 #[vI t] w fun x w'=>x= .returned (vI (min t 64:Nat))∧w'=w:=by
 go_enter Tryd.func32,Tryd.ntmps32
 go_wp2
 all_goals(
  go_ret
  refine⟨?_,rfl⟩
  first
   | (have e:min t 64=t:=by omega
      rw[e]
      rfl)
   | (have e:min t 64=64:=by omega
      rw[e]
      rfl))
theorem r0I{b o l c:Nat}(h:l≤c)(hl:l<1000000000000):Calls Tryd.prog 33 #[vL b o l c] w fun x w'=>x= .returned (vL b o (min l 65536) c)∧w'=w:=by
 rcases Nat.lt_or_ge 65536 l with h1|h1
 ·have e:min l 65536=65536:=Nat.min_eq_right (by omega)
  rw[e]
  go_enter Tryd.func33,Tryd.ntmps33
  go_wp2
  go_ret
  exact⟨rfl,rfl⟩
 ·have e:min l 65536=l:=Nat.min_eq_left h1
  rw[e]
  go_enter Tryd.func33,Tryd.ntmps33
  go_wp2
  go_ret
  exact⟨rfl,rfl⟩
theorem r0t{c:Nat}{a:Option Addr}:Calls Tryd.prog 33 #[.slice a 0 c] w fun x w'=>x= .returned (.slice a 0 c)∧w'=w:=by
 go_enter Tryd.func33,Tryd.ntmps33
 go_wp2
 go_ret
 exact⟨rfl,rfl⟩
theorem r0s{w:World}{a:Option Addr}{l c:Nat}(h:l≤c)(hs:0<l→∃b o,a=some ⟨b,o,none⟩)(hl:l<1000000000000):Calls Tryd.prog 33 #[.slice a l c] w fun x w'=>x= .returned (.slice a (min l 65536) c)∧w'=w:=by
 rcases Nat.eq_zero_or_pos l with rfl|h0
 ·rw[Nat.zero_min]
  exact r0t
 ·obtain⟨b,o,rfl⟩:=hs h0
  exact r0I h hl
theorem v0K{xb wb:Nat}{k:V0}(h:RS xb wb k w){i:Nat}(hi:i / 64<k.ws.length)(hl:k.ws.length≤1024):Calls Tryd.prog 57 #[vP xb 0,vI (i:Nat)] w fun y w'=>y= .returned (.bool ((k.wd (i / 64)).getLsbD (i % 64)))∧∃m,w'=w.drewN m:=by
 have c1:=(V1 h.o (j:=1) rfl).1
 obtain⟨cw,zw⟩:=h.word hi
 have q1:IntKind.i64.wrap ((i:Int).tdiv 64)=((i / 64:Nat):Int):=by
  rw[Int.tdiv_eq_ediv_of_nonneg (by omega),IntWalk.i64_in _ (by omega)]
  omega
 have q2:((i / 64:Nat):Int)<(k.ws.length:Int):=by omega
 have hx:=c0e (k.wd (i / 64)) i _ rfl
 clear h
 generalize hd:i / 64=d at*
 generalize hb:(k.wd d).getLsbD (i % 64)=b at*
 go_enter Tryd.func57,Tryd.ntmps57
 go_wp2
 go_quiet ((go_at_call 56;exact Calls.quiet_of_same (O6 i)))
 go_wp2
 go_ret
 exact⟨rfl,_,rfl⟩
end
end Go.Proofs.YtlcgkpapnpdfpaaDoor
