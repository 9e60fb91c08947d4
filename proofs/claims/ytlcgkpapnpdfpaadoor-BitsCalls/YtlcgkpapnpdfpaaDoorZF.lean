/-
  What is proved: BitsCallsCardSaid: for every start, all operations and every bound, what the calls of a set answer by themselves, the steps that they take and the set behind them are the document's. Conditions: those of the given row and card (the variable that is listed reads as its table).
  Part 6 of 6.
-/
import Derived.Test.YtlcgkpapnpdfpaaDoorZE
import Derived.Lib.MinMax
import Derived.ProofKit
import Derived.Carry
import Derived.Deep.Slices
import Derived.ChangeSlices
set_option linter.unusedSimpArgs false
set_option linter.unusedVariables false
set_option linter.unusedSectionVars false
set_option maxRecDepth 100000
set_option maxHeartbeats 8000000
namespace Go.Proofs.YtlcgkpapnpdfpaaDoor
open Go Go.Conc Go.RowKit Go.Proofs
section
variable{w w':World}
def q05(n:Nat)(b:List Bool)(x:Int):List Bool:=if 0≤x∧x<n then b.set x.toNat true else b
def g00(w:World)(b:Nat)(l:List Bool):Prop:=w.heap[b]? =some (.cells (l.map Value.bool).toArray 4 (0,0))
theorem g00.c{b:Nat}{l:List Bool}(h:g00 w b l){i:Nat}{x:Bool}(hx:l[i]? =some x):w.cell? ⟨b,i,none⟩=some (.bool x):=(V1 h (by simp[hx])).1
theorem g00.z{b:Nat}{l:List Bool}(h:g00 w b l)(i:Nat):w.frozen? ⟨b,i,none⟩=false:=by
 have h:w.heap[b]? =_:=h
 simp[World.frozen?,h]
theorem g00.set{b:Nat}{l:List Bool}(h:g00 w b l)(i:Nat)(x:Bool):g00 (w.setCell ⟨b,i,none⟩ (.bool x)) b (l.set i x):=by
 show(w.setCell ⟨b,i,none⟩ (.bool x)).heap[b]? =_
 rw[U1 (o:=i) h (.bool x)]
 congr 2
 simp[List.map_set]
def g0K(vs:List Int):Nat:=(min (max (vs.headD 0) 0) 300).toNat
end
section
variable{w w':World}
def h0B(l:List Bool)(P:List Nat):List Bool:=P.foldl (fun b x=>b.set x true) l
theorem j0G(l:List Bool)(P:List Nat)(x:Nat):h0B l (P++[x])=(h0B l P).set x true:=by simp[h0B]
end
section
variable{w w':World}
structure h0E(W0:World)(E7:Nat)(l0:List Bool)(P:List Nat)(u:World):Prop where
 b:g00 u E7 (h0B l0 P)
 sz:W0.heap.size≤u.heap.size
 o:∀r,r<W0.heap.size→r≠E7→u.heap[r]? =W0.heap[r]?
theorem h0E.cell{W0 u:World}{E7:Nat}{l0:List Bool}{P:List Nat}(h:h0E W0 E7 l0 P u){b k:Nat}{v:Value}(hc:W0.cell? ⟨b,k,none⟩=some v)(hb:b≠E7):u.cell? ⟨b,k,none⟩=some v:=by
 rw[← hc]
 unfold World.cell?
 rw[h.o b (I9 hc) hb]
theorem h0E.more{W0 u v:World}{E7:Nat}{l0:List Bool}{P:List Nat}(h:h0E W0 E7 l0 P u)(hs:u.heap.size≤v.heap.size)(ho:∀r,r<u.heap.size→v.heap[r]? =u.heap[r]?):h0E W0 E7 l0 P v:=
 ⟨(ho E7 (Array.getElem?_eq_some_iff.1 (show u.heap[E7]? =_ from h.b)).1).trans h.b,Nat.le_trans h.sz hs,fun r hr hne=>(ho r (Nat.lt_of_lt_of_le hr h.sz)).trans (h.o r hr hne)⟩
theorem h0E.set{W0 u:World}{E7:Nat}{l0:List Bool}{P:List Nat}(h:h0E W0 E7 l0 P u)(x:Nat):h0E W0 E7 l0 (P++[x]) (u.setCell ⟨E7,x,none⟩ (.bool true)):=
 ⟨by rw[j0G];exact h.b.set x true,by rw[World.size_setCell];exact h.sz,fun r hr hne=>(o0 _ _ _ hne).trans (h.o r hr hne)⟩
end
section
variable{F:Fz}{w:World}
end
section

end
section
variable{An:G3}{W w w':World}
theorem Old.keep(h:Old w w'):C9 w w':=.of h.sz h.eq
structure KB(w1 u:World)(E7:Nat)(l0:List Bool)(n:Nat)(ops:Nat→List P3)(oa:Option Addr)(oc:Nat)(xa:Nat→Option Addr)(xc:Nat→Nat)(ga:Option Addr)(vs:List Int):Prop where
 old:Old w1 u
 row:u.ownsRow 0 32 1 (.slice oa n oc) n ((List.range n).map fun r=>.slice (xa r) (ops r).length (xc r))
 new:∀g,(Value.slice oa n oc).ownBlock=some g→w1.heap.size≤g
 inn:∀r,r<n→u.ownsRow 0 44 4 (.slice (xa r) (ops r).length (xc r)) (ops r).length (opC (ops r))∧∀g,(Value.slice (xa r) (ops r).length (xc r)).ownBlock=some g→w1.heap.size≤g
 bl:g00 u E7 l0
 ib:∀g,(Value.slice oa n oc).ownBlock=some g→g≠E7
 vs:c0K u ga vs
 inw:w1.heap.size≤E7
theorem KB.ops_in{w1:World}{E7 n:Nat}{l0:List Bool}{ops:Nat→List P3}{oa ga:Option Addr}{oc:Nat}{xa:Nat→Option Addr}{xc:Nat→Nat}{vs:List Int}(h:KB w1 w E7 l0 n ops oa oc xa xc ga vs)(h0:0<w1.heap.size)(hn:n≤8)(hol:∀i,i<n→(ops i).length≤11){S:List Int}{sa:Option Addr}(hsl:S.length<9223372036854775808)
 (hS:0<S.length→∃sb so c e z,sa=some ⟨sb,so,none⟩∧sb≠0∧w.heap[sb]? =some (.cells c e z)∧∀(k:Nat) (u:Value),(S.map fun i:Int=>Value.int .i64 i)[k]? =some u→c[so+k]? =some u∧(decide (z.1≤so+k) && decide (so+k<z.2))=false):
 ∃tb,x8 w (fun r=>r=0) n tb 0 n oa xa (fun i=>(ops i).length) xc ops S sa∧(0<n→oa=some ⟨tb,0,none⟩):=by
 have htop:∃tb,(0<n→oa=some ⟨tb,0,none⟩∧tb<w.heap.size)∧∀j,j<n→At w ⟨tb,j,none⟩ (.slice (xa j) (ops j).length (xc j)):=by
  rcases h.row.2 with⟨_,h0⟩|⟨g,cap,cur,e,h1,h2,_⟩
  ·exact⟨0,fun hp=>by omega,fun j hj=>by omega⟩
  ·cases e
   refine⟨g,fun _=>⟨rfl,(Q3 h2)⟩,fun j hj=>?_⟩
   obtain⟨b,cap',e,h3⟩:=M5 h.row (k:=j) (x:=.slice (xa j) (ops j).length (xc j)) (by simp[hj])
   cases e
   exact h3
 obtain⟨tb,ht1,ht2⟩:=htop
 refine⟨tb,⟨by omega,fun hp=>(ht1 hp).1,fun hp=>(ht1 hp).2,fun j hj=>?_,fun j hj=>?_,fun j hj k x hx=>?_,hsl,fun hp=>?_⟩,fun hp=>(ht1 hp).1⟩
 ·have:=ht2 j hj
  refine⟨by rw[Nat.zero_add];exact this.c,by rw[Nat.zero_add];exact this.z,?_⟩
  rcases(h.inn j hj).1.2 with⟨e,h0⟩|⟨g,cap,cur,e,_,_,h3,_⟩
  ·omega
  ·simp only[Value.slice.injEq]at e
   rw[e.2.2]
   exact h3
 ·have:=hol j hj
  omega
 ·obtain⟨f0,f1,f2,f3⟩:=a0x _ _ _ hx
  obtain⟨b,cap,e,g0⟩:=M5 (h.inn j hj).1 f0
  obtain⟨_,_,e1,g1⟩:=M5 (h.inn j hj).1 f1
  obtain⟨_,_,e2,g2⟩:=M5 (h.inn j hj).1 f2
  obtain⟨_,_,e3,g3⟩:=M5 (h.inn j hj).1 f3
  have hnew:=(h.inn j hj).2 b (by rw[e];rfl)
  rw[e]at e1 e2 e3
  cases e1
  cases e2
  cases e3
  simp only[Value.slice.injEq]at e
  refine⟨b,0,e.1,fun h=>by omega,?_,?_,?_,?_,?_,?_,?_,?_⟩<;>rw[Nat.zero_add]
  ·exact g0.c
  ·exact g1.c
  ·exact g2.c
  ·exact g3.c
  ·exact g0.z
  ·exact g1.z
  ·exact g2.z
  ·exact g3.z
 ·obtain⟨sb,so,c,e,z,h1,h1',h2,h3⟩:=hS hp
  exact⟨sb,so,c,e,z,h1,h1',h2,h3⟩
theorem g01.congr{N n:Nat}{in0 in1:Nat→Bool}{ops:Nat→List P3}{s:GS BPl}(h:g01 N in0 n ops s)(e:∀x,x<N→in1 x=in0 x):g01 N in1 n ops s:=
 ⟨h.live,h.sz,h.wf,h.len,h.an,fun x hx=>by rw[e x hx];exact h.mem x hx,h.nd,fun x hx=>by have:=h.new x hx;exact⟨this.1,(e x this.1).trans this.2⟩⟩
end
section
open Go.ChangeShapes Go.WideShapes Go.ChangeAt
theorem o0C{H:Type}(d:DataW H):1≤Rows.uptoBulk d:=by
 cases d with
 | lit l=>cases l<;>simp[Rows.uptoBulk]
 | nil=>simp[Rows.uptoBulk]
 | ptr d=>simp[Rows.uptoBulk]
 | slice elems spare=>simp[Rows.uptoBulk]
 | agg parts=>simp[Rows.uptoBulk]
 | iface t d=>simp[Rows.uptoBulk]
 | map entries=>simp[Rows.uptoBulk]
 | held h=>simp[Rows.uptoBulk]
theorem f0Y{H:Type}{d:DataW H}{l:List (DataW H)}(h:d∈l):Rows.uptoBulk d≤Rows.uptoBulkAll l:=by
 induction l with
 | nil=>cases h
 | cons x r ih=>
   simp only[Rows.uptoBulkAll]
   cases List.mem_cons.1 h with
   | inl e=>subst e;omega
   | inr e=>have:=ih e;omega
theorem i0t{H:Type}(l:List (DataW H)):l.length≤Rows.uptoBulkAll l:=by
 induction l with
 | nil=>simp[Rows.uptoBulkAll]
 | cons x r ih=>have:=o0C x;simp only[Rows.uptoBulkAll,List.length_cons];omega
theorem e0l{H:Type}(elems spare:List (DataW H)):elems.length≤Rows.uptoBulk (.slice elems spare)∧∀d∈elems,Rows.uptoBulk d≤Rows.uptoBulk (.slice elems spare):=by
 have h1:=i0t elems
 simp only[Rows.uptoBulk]
 exact⟨by omega,fun d hd=>by have:=f0Y hd;omega⟩
section
variable{H:Type}{enc:TypeId×Value→H}{W:World}
end
end
section
open Go.ChangeShapes Go.WideShapes Go.ChangeAt
set_option maxRecDepth 100000
section
variable{H:Type}{enc:TypeId×Value→H}{W:World}
theorem o0G:Tryd.prog.cellsOf 2=1:=by kernel_rfl
end
section
variable{H:Type}{enc:TypeId×Value→H}
theorem e0c{a:Assume}{C:Checked}{os:Os}{f:FuncId}{fn:Func}{s:OpenSpec}{F:Stop.Interp}{conds:List PathCond}{apart fresh handsOn again:Bool}{laid:List (String×DataW Unit)}
 (own:ownKnob C.prog.godebug=none) (started:os.Started) (hfn:C.prog.funcs[f]? =some fn)
 (witness:∃(w:World) (tape:Tape) (i:Input),w.os=os∧(w.forCall tape i).Shaped C.prog∧i.vars=[]∧Input.okWide C.prog (w.forCall tape i) .any w.heap.size f i∧
   s.preRow enc C.prog fn conds apart laid (w.forCall tape i).memory i.args∧a.holds C.prog (lone (Frame.enter C.prog f i.args .normal) [] (w.forCall tape i)))
 (runs:∀(W:World) (base:Nat) (args:Array Value) (ds gs:List (DataW H)) (before:List MemPlace),
   (∀(j:Nat) t v,fn.params[j]? =some t→args[j]? =some v→Value.okWide C.prog W .any base t v)→
   DataW.Whole enc C.prog fn.params.toList s.vars apart W args.toList ds gs before→
   (∀k,s.cond=some k→k H (ds++gs)=true)→
   laidMetH C.prog laid W→W.ShapedOpen C.prog→
   a.holds C.prog (lone (Frame.enter C.prog f args .normal) [] W)→
   ∃M last o w' t',runNT C.prog (M+1) (solo (G (Frame.enter C.prog f args .normal) []) W) #[]=(.ended o w',t')∧runN C.prog M (solo (G (Frame.enter C.prog f args .normal) []) W)= .next last∧
    step C.prog last= .ended o w'∧Conc.Good C.prog (fun v W'=>(s.at F).post enc C.prog fn apart fresh handsOn again W args v W') last o w' t'):
 ReturnsInLeavingWide a C os f .any (s.preRow enc C.prog fn conds apart laid) ((s.at F).post enc C.prog fn apart fresh handsOn again):=by
 refine returnsInLeavingWide_of_good own started witness ?_
 intro w tape i _ hsh _ hok hpre hholds
 obtain⟨_,_,_,fn',hfn',_,_,_,_,hval⟩:=hok
 have e:fn'=fn:=Option.some.inj (hfn'.symm.trans hfn)
 subst e
 obtain⟨⟨hp,hl⟩,_⟩:=hpre
 obtain⟨ds,gs,before,hw,_,hk⟩:=OpenSpec.pre_parts hp
 have hw':=DataW.Whole.of_heap (w':=w.forCall tape i) (by rfl) hw
 obtain⟨M,last,o,w',t',h1,h2,h3,h4⟩:=runs (w.forCall tape i) w.heap.size i.args ds gs before hval hw' hk (hl.of_heap (by rfl)) hsh hholds
 exact⟨M,last,o,w',t',h1,h2,h3,h4.mono fun v hp=>ChangeSpec.post_blind hp⟩
end
theorem l0u:Tryd.prog.cellsOf 3=1:=by kernel_rfl
end
section
open Go.ChangeShapes Go.WideShapes Go.ChangeAt
set_option maxRecDepth 100000
section
variable{H:Type}{enc:TypeId×Value→H}{W:World}
theorem q0V:Tryd.prog.cellsOf 44=4:=by kernel_rfl
structure o0o(W:World)(b o:Nat)(x:P3):Prop where
 f0:W.cell? ⟨b,o,none⟩=some (vI x.kd)
 f1:W.cell? ⟨b,o+1,none⟩=some (vI x.a)
 f2:W.cell? ⟨b,o+2,none⟩=some (vI x.b)
 f3:W.cell? ⟨b,o+3,none⟩=some (vI x.c)
 g0:W.frozen? ⟨b,o,none⟩=false
 g1:W.frozen? ⟨b,o+1,none⟩=false
 g2:W.frozen? ⟨b,o+2,none⟩=false
 g3:W.frozen? ⟨b,o+3,none⟩=false
instance:Inhabited P3:=⟨⟨0,0,0,0⟩⟩
theorem ops_in{v:Value}{fuel:Nat}{d:DataW H}{p:List MemPlace}(h:DataW.trod enc Tryd.prog W 0 (fun _=>true) true fuel 32 [v]=some (d,p))(hz:W.noneFrozen p):
 ∃(a:Option Addr) (l c b o:Nat) (X:Nat→P3),v= .slice a l c∧l≤c∧l≤Rows.uptoBulk d∧∀k,k<l→a=some ⟨b,o,none⟩∧o0o W b (o+k*4) (X k):=by
 rcases Deep.open_slice Tryd.underlying32 h with⟨h1,h2⟩|⟨a,len,cap,m,n,D,Pl,h1,hb,hlc,_,hm,h2,hx⟩
 ·cases h1
  exact⟨none,0,0,0,0,fun _=>default,rfl,Nat.le_refl _,Nat.zero_le _,fun k hk=>by omega⟩
 ·simp only[if_true]at hm
  subst hm
  cases h1
  simp only[Prod.mk.injEq]at h2
  obtain⟨rfl,rfl⟩:=h2
  rw[q0V]at hx hz
  have hsp:0<len→a.spot=none:=fun hp=>by
   obtain⟨cs',e1,_⟩:=hx 0 (by omega)
   obtain⟨_,_,hcell⟩:=World.cells?_some e1
   have h0:=hcell 0 (by omega)
   rw[List.getElem?_eq_getElem (by omega)]at h0
   have:=World.cell?_spot h0
   simpa [Addr.add]using this
  have each:∀k,k<len→∃x:P3,∃b o,a=⟨b,o,none⟩∧o0o W b (o+k*4) x:=fun k hk=>by
   obtain⟨cs',e1,e2⟩:=hx k (by omega)
   obtain⟨_,hlen,hcell⟩:=World.cells?_some e1
   obtain⟨xs,n',hk',hxy,_,hxl,hf⟩:=DataW.trod_struct Tryd.underlying44 e2
   match xs,hxl,cs',hlen with
   | [y0,y1,y2,y3],_,[v0,v1,v2,v3],_=>
     have q0:=hf 0 _ rfl
     have q1:=hf 1 _ rfl
     have q2:=hf 2 _ rfl
     have q3:=hf 3 _ rfl
     simp[o0G,l0u]at q0 q1 q2 q3
     obtain⟨n0,r0,_,_⟩:=DataW.trod_int Tryd.underlying3 q0
     obtain⟨n1,r1,_,_⟩:=DataW.trod_int Tryd.underlying2 q1
     obtain⟨n2,r2,_,_⟩:=DataW.trod_int Tryd.underlying2 q2
     obtain⟨n3,r3,_,_⟩:=DataW.trod_int Tryd.underlying2 q3
     cases r0
     cases r1
     cases r2
     cases r3
     obtain⟨b,o,spot⟩:=a
     have c0:=hcell 0 (by omega)
     have c1:=hcell 1 (by omega)
     have c2:=hcell 2 (by omega)
     have c3:=hcell 3 (by omega)
     have hs:spot=none:=hsp (by omega)
     subst hs
     rw[add_plain,add_plain]at c0 c1 c2 c3
     have hfr:∀j,j<m*4→W.frozen? ⟨b,o+j,none⟩=false:=fun j hj=>hz b (o+j) (List.mem_append_left _ (by simp only[MemPlace.row,List.mem_map,List.mem_range];exact⟨j,hj,rfl⟩))
     exact⟨⟨n0,n1,n2,n3⟩,b,o,rfl,c0,c1,c2,c3,hfr _ (by omega),by rw[Nat.add_assoc];exact hfr _ (by omega),by rw[Nat.add_assoc];exact hfr _ (by omega),by rw[Nat.add_assoc];exact hfr _ (by omega)⟩
  obtain⟨X,hX⟩:=Deep.choose_lt each
  refine⟨some a,len,m,a.block,a.off,X,rfl,hlc,?_,fun k hk=>?_⟩
  ·have:=(e0l (H:=H) ((List.range len).map D) ((List.range (m - len)).map fun j=>D (len+j))).1
   simpa using this
  ·obtain⟨b,o,rfl,hh⟩:=hX k hk
   exact⟨rfl,hh⟩
theorem z06{v:Value}{d:DataW H}{p:List MemPlace}(hv:Value.okWide Tryd.prog W .any W.heap.size 32 v)(h:DataW.Trod enc Tryd.prog W 0 (fun _=>true) true 32 v d p)(hz:W.noneFrozen p):
 ∃(a:Option Addr) (L:List P3) (c:Nat),v= .slice a L.length c∧s0T W a L∧L.length<9223372036854775808:=by
 obtain⟨fuel,hf⟩:=h
 obtain⟨a0,l0,c0,rfl⟩:=okWide_slice Tryd.underlying32 hv
 have hlen:l0<9223372036854775808:=by
  rcases Deep.open_slice Tryd.underlying32 hf with⟨h1,h2⟩|⟨a,len,cap,m,n,D,Pl,h1,hb,hlc,hmx,hm,h2,hx⟩
  ·simp[Value.cells]at h1
   omega
  ·simp[Value.cells]at h1
   unfold maxLen at hmx
   omega
 obtain⟨a,l,c,b,o,X,e,_,_,hX⟩:=ops_in (v:=.slice a0 l0 c0) hf hz
 cases e
 refine⟨a0,(List.range l0).map X,c0,by simp,⟨fun i x hx=>?_⟩,by simpa using hlen⟩
 have hil:=(List.getElem?_eq_some_iff.1 hx).1
 simp only[List.length_map,List.length_range]at hil
 have hx':X i=x:=by
  rw[List.getElem?_map,List.getElem?_range hil]at hx
  simpa using hx
 obtain⟨e1,e2⟩:=hX i hil
 rw[hx']at e2
 exact⟨b,o,e1,e2.f0,e2.f1,e2.f2,e2.f3⟩
theorem v0S{base:Nat}{spare:Nat→Bool}{held:Bool}{t t':TypeId}{args:Array Value}{ds:List (DataW H)}{ps:List MemPlace}(h:DataW.TrodAll enc Tryd.prog W base spare held [t,t'] args.toList ds ps):
 ∃v v' d d' p p',args= #[v,v']∧ds=[d,d']∧ps=p++p'∧DataW.Trod enc Tryd.prog W base spare held t v d p∧DataW.Trod enc Tryd.prog W base spare held t' v' d' p':=by
 obtain⟨v,vs,d,ds',p,q,hargs,rfl,rfl,hd,hrest⟩:=trodAll_cons h
 obtain⟨v',vs',d',ds'',p',q',rfl,rfl,rfl,hd',hrest'⟩:=trodAll_cons hrest
 obtain⟨rfl,rfl,rfl⟩:=trodAll_nil hrest'
 exact⟨v,v',d,d',p,p',by cases args;simp_all,rfl,by simp,hd,hd'⟩
end
section
variable{H:Type}{enc:TypeId×Value→H}
def wArgs2:Array Value:= #[vI 0,.slice none 0 0]
theorem v0O(os:Os):laidMet Tryd.prog Rows.bitsCallsRow.laid ((c09 os).forCall (fun _ _=>0) ⟨#[],wArgs2,[]⟩).memory:=
 laidMet_of_run' 8 (by kernel_rfl) (by kernel_rfl)
theorem A05(os:Os){H:Type}(enc:TypeId×Value→H):∃places,DataW.whole enc Tryd.prog ((c09 os).forCall (fun _ _=>0) ⟨#[],wArgs2,[]⟩).memory Tryd.f4.params.toList (OpenSpec.ofChange Rows.bitsCallsSpec).vars false wArgs2.toList 8=some ([.lit (.int .i64 0),.nil],[],places):=
 ⟨[],by kernel_rfl⟩
theorem i0v(os:Os)(started:os.Started)(H:Type)(enc:TypeId×Value→H)(F:Stop.Interp):
 ReturnsInLeavingWide {} Tryd.checked os 4 .any ((OpenSpec.ofChange Rows.bitsCallsSpec).preRow enc Tryd.prog Tryd.f4 Rows.bitsCallsRow.domain false Rows.bitsCallsRow.laid) (((OpenSpec.ofChange Rows.bitsCallsSpec).at F).post enc Tryd.prog Tryd.f4 false true false false):=by
 obtain⟨places,hx⟩:=A05 os enc
 refine e0c (C:=Tryd.checked) (s:=OpenSpec.ofChange Rows.bitsCallsSpec) Tryd.own started Tryd.func4
  (witness_row_at (enc:=enc) (C:=Tryd.checked) false (c09 os) wArgs2 rfl (by kernel_rfl) (by kernel_rfl) (by kernel_rfl)
    (OpenSpec.preRow_of_cond 8 hx (by kernel_rfl) (fun k hk=>by cases hk) (by kernel_rfl) (v0O os))) ?_
 intro W base args ds gs before hval0 hW _ hL _ _
 have hT:d08 W:=z0g hL
 have hval:∀(j:Nat) t v,Tryd.f4.params[j]? =some t→args[j]? =some v→Value.okWide Tryd.prog W .any base t v:=hval0
 have hW':=hW
 obtain⟨p,q,hA0,hV,rfl,hfz,_⟩:=hW
 have hA:DataW.TrodAll enc Tryd.prog W 0 (fun _=>true) true Tryd.f4.params.toList args.toList ds p:=hA0
 rw[Tryd.params4]at hA hval
 obtain⟨v0,v1,d0,d1,p0,p1,rfl,rfl,rfl,h0,h1⟩:=v0S hA
 obtain⟨rfl,rfl⟩:=trodVars_none hV
 clear hA0 hval0
 simp only[List.append_nil,List.nil_append]at hW' hfz
 have hlt:∀x∈p0++p1,x.block<W.heap.size:=fun x hx=>by simpa using hW'.lt x hx
 obtain⟨nv,hv0,_,_,_⟩:=open_int Tryd.underlying3 (hval 0 3 v0 rfl rfl) h0
 subst hv0
 obtain⟨oa,L,oq,rfl,r1,hl⟩:=z06 (hval 1 32 v1 rfl rfl) h1 (fun b o h=>hfz b o (by simp[h]))
 have hbes:=m07 (An:=⟨W.heap.size,W⟩) (W:=W) (nv:=nv) (oq:=oq) hT r1 hl
 obtain⟨N,last,o',w',t',g1,g2,g3,g4⟩:=o0v (An:=⟨W.heap.size,W⟩) (Post:=fun v w'=>g0M W v w'∧(⟨W.heap.size,W⟩:G3).Holds w') (W:=W) ⟨rfl,rfl,rfl,Nat.le_refl _,fun r o _ h _=>h⟩ (Q4.bind hbes fun g w h=>Q4.stop ⟨h.1,fun d=>by
  obtain⟨v,e1,e2⟩:=h.2 d
  exact⟨v,e1,fun hh=>⟨e2 hh,hh⟩⟩⟩)
 refine⟨N,last,o',w',t',g1,g2,g3,g4.mono fun v hF=>?_⟩
 obtain⟨⟨rfl,hk⟩,hh⟩:=hF
 have hbelow:=o0u hh hk
 have q0:=Below.trod Tryd.laidOut (by kernel_rfl) (of_decide_eq_true (by kernel_rfl)) h0 hbelow (fun x hx=>hlt x (by simp[hx]))
 have q1:=Below.trod Tryd.laidOut (by kernel_rfl) (of_decide_eq_true (by kernel_rfl)) h1 hbelow (fun x hx=>hlt x (by simp[hx]))
 refine⟨_,_,_,[],p0++(p1++[]),[],hW',?_,?_,rfl,hbelow.frame _,fun h=>by cases h⟩
 ·exact trodAll_mk1 (shut_bool Tryd.underlying4 true)
 ·exact⟨p0,_,q0,⟨p1,[],q1,trodAll_mk0,rfl⟩,rfl⟩
theorem h0A:Rows.BitsCallsSaid:=
 b04 4 Tryd.f4 rfl rfl rfl rfl rfl rfl rfl ⟨rfl,rfl,rfl,rfl,rfl⟩ rfl rfl rfl rfl rfl (by kernel_rfl) Tryd.func4 (by kernel_rfl)
  (of_decide_eq_true (by kernel_rfl)) (by unfold Func.isWrapper;first|(rw[if_pos (by decide +kernel)];kernel_rfl)|(rw[if_neg (by decide +kernel)];exact⟨rfl,rfl⟩))
  (fun os started H enc _ F=>by rw[OpenClaim.pre_eq_preRow];exact i0v os started H enc F)
theorem A02 (f : FuncId) (fn : Func) (hf : Tryd.pinned.checked.prog.funcNamed "carillon/carillonlaw04.BitsCalls" = some f) (hfn : Tryd.pinned.checked.prog.funcs[f]? = some fn) :
 true=Tryd.pinned.checked.prog.looks []∧∀(j:Nat) t,fn.params[j]? =some t→Tryd.pinned.checked.prog.wantsStandIn t=false:=by
 obtain rfl : f = 4 := Option.some.inj ((show Tryd.prog.funcNamed "carillon/carillonlaw04.BitsCalls" = some 4 by kernel_rfl).symm.trans hf) |>.symm
 obtain rfl:fn=Tryd.f4:=(Option.some.inj (Tryd.func4.symm.trans hfn)).symm
 refine⟨by kernel_rfl,fun j t ht=>?_⟩
 rw[Tryd.params4]at ht
 have hm:=Array.mem_of_getElem? ht
 have:t=3∨t=32:=by simpa using hm
 rcases this with rfl|rfl
 ·exact(show Tryd.prog.wantsStandIn 3=false by kernel_rfl)
 ·exact(show Tryd.prog.wantsStandIn 32=false by kernel_rfl)
theorem bitsCalls_holds:Rows.BitsCallsCardSaid:=
 m0i _ _ _ _ h0A (by kernel_rfl) bitsCalls_row_tie rfl ⟨rfl,rfl⟩ (by kernel_rfl) rfl A02 (by kernel_rfl)
end
end
end Go.Proofs.YtlcgkpapnpdfpaaDoor
