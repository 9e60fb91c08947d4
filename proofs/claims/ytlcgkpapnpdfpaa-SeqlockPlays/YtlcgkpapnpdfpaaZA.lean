/-
  Of SeqlockPlays: every run by a schedule is the machine's of the same steps. No condition.
  Part 1 of 6.
-/
import Derived.Test.YtlcgkpapnpdfpaaProg
import Derived.WalkKit
import Derived.OwnWalk
import Derived.Maps.AppendAt
import Derived.Deep.RegionLaw
import Derived.Deep.RegionLawGrows
import Derived.Deep.DeepAppendRoom
import Derived.ArgAppend
import Derived.Deep.LoopGhost
import Derived.StillTailTactics
import Derived.RegionTactic
import Derived.ChangeAlike
import Derived.Deep.QuietTactic
import Derived.BigQuiet
import Derived.Laws.Rows
import Derived.Conc.Token
import Derived.Conc.TokenWalk
import Derived.Conc.Beside
import Derived.Conc.Own3
import Derived.Conc.Own4
import Derived.Conc.Own5
import Derived.Conc.Listed
import Derived.Conc.CompanyDraw
import Derived.Conc.TokenAlone
import Derived.Conc.TokenWords
import Derived.Orders
import Derived.Test.YtlcgkpapnpdfpaaChecked
set_option linter.unusedSimpArgs false
set_option linter.unusedVariables false
set_option linter.unusedSectionVars false
set_option maxRecDepth 100000
set_option maxHeartbeats 8000000
namespace Go.Proofs.Ytlcgkpapnpdfpaa
section
theorem alt {α : Type} {a : Array α} {i : Nat} {x : α} (h : a[i]? = some x) : i < a.size := (Array.getElem?_eq_some_iff.1 h).1
theorem aside {P : Prop} (h : P) : Aside P := h
open Go Go.RowKit Go.Proofs
variable{w w':World}
structure Callable(f:FuncId):Prop where
 run:∀args w,(callFunc f args).run Try.prog w= .ok (.enter f args) w
 quiet:∀args w,(callFunc f args).events Try.prog w #[]= #[]
theorem callable {f : FuncId} {fn : Func} (hf : Try.prog.funcs[f]? = some fn) (hname : (fn.name == "runtime.NumGoroutine") = false) (hb : fn.body.isSome = true) : Callable f := by
 obtain⟨c,hc⟩:=Option.isSome_iff_exists.1 hb
 have h1 : ¬ fn.name = "runtime.NumGoroutine" := by simpa using hname
 exact⟨fun args w=>by simp[callFunc,hf,h1,hc],fun args w=>by simp[callFunc,hf,h1,hc]⟩
theorem heap_alloc_lt(w:World)(o:Obj){r:Nat}(h:r<w.heap.size):(w.alloc o).heap[r]? =w.heap[r]?:=Below.heap_alloc _ _ _ h
theorem heap_setCell_ne(w:World)(a:Addr)(v:Value){r:Nat}(h:r≠a.block):(w.setCell a v).heap[r]? =w.heap[r]?:=Below.heap_setCell _ _ _ _ h
theorem heap_setCell_eq{w:World}{b:Nat}{o:Nat}{c:Array Value}{e:TypeId}{z:Nat×Nat}(h:w.heap[b]? =some (.cells c e z))(v:Value):(w.setCell ⟨b,o,none⟩ v).heap[b]? =some (.cells (c.setIfInBounds o v) e z):=by
 simp[World.setCell,Array.getElem?_modify,h]
theorem own_type{base n size b:Nat}{e e':TypeId}{v:Value}{xs:List Value}{c:Array Value}{z:Nat×Nat}(h:w.ownsRow base e size v n xs)(hc:w.heap[b]? =some (.cells c e' z))(hne:e≠e'):some b≠Value.ownBlock v:=by
 rcases h.2 with⟨rfl,_⟩|⟨g,cap,cur,rfl,_,h3,_⟩
 ·simp[Value.ownBlock]
 ·intro h4
  simp only[Value.ownBlock,Option.some.injEq]at h4
  subst h4
  rw[hc]at h3
  cases h3
  exact hne rfl
theorem ownsRow_same2{W W':World}{base n size:Nat}{e:TypeId}{v:Value}{xs:List Value}(h:W.ownsRow base e size v n xs)(hb:∀b,Value.ownBlock v=some b→base≤b→W'.heap[b]? =W.heap[b]?):W'.ownsRow base e size v n xs:=by
 refine⟨h.1,?_⟩
 rcases h.2 with h2|⟨b,cap,cur,rfl,h3,h4,h5⟩
 ·exact .inl h2
 ·exact .inr ⟨b,cap,cur,rfl,h3,(hb b rfl h3).trans h4,h5⟩
theorem cell_block{u:World}{a:Addr}{v:Value}(h:u.cell? a=some v):∃c e z,u.heap[a.block]? =some (.cells c e z):=by
 unfold World.cell? at h
 split at h
 ·rename_i c e z ho
  exact⟨c,e,z,ho⟩
 ·cases h
theorem cellB_alloc{u:World}{a:Addr}{v:Value}(h:u.cell? a=some v)(o:Obj):(u.alloc o).cell? a=some v∧(u.alloc o).frozen? a=u.frozen? a:=by
 obtain⟨c,e,z,ho⟩:=cell_block h
 have e1:(u.alloc o).heap[a.block]? =u.heap[a.block]?:=heap_alloc_lt _ _ (Array.getElem?_eq_some_iff.1 ho).1
 exact⟨by rw[← h];unfold World.cell?;simp only[e1],by unfold World.frozen?;simp only[e1]⟩
theorem ownsRow_mono_base{u:World}{base base' n size:Nat}{e:TypeId}{v:Value}{xs:List Value}(hb:base≤base')(h:u.ownsRow base' e size v n xs):u.ownsRow base e size v n xs:=by
 refine⟨h.1,?_⟩
 rcases h.2 with h2|⟨b,cap,cur,h1,h2,h3⟩
 ·exact .inl h2
 ·exact .inr ⟨b,cap,cur,h1,Nat.le_trans hb h2,h3⟩
structure At(w:World)(a:Addr)(v:Value):Prop where
 c:w.cell? a=some v
 z:w.frozen? a=false
theorem new_at{X:World}{k:Nat}(h:X.heap.size=k)(o:Obj):(X.alloc o).heap[k]? =some o:=h ▸ heap_alloc_new _ _
theorem cell_of{u:World}{b k:Nat}{c:Array Value}{e:TypeId}{v:Value}(h:u.heap[b]? =some (.cells c e (0,0)))(hc:c[k]? =some v):At u ⟨b,k,none⟩ v:=by
 constructor
 ·simp only[World.cell?,h];simpa using hc
 ·simp[World.frozen?,h]
theorem row_get{u:World}{base n size k:Nat}{e:TypeId}{v x:Value}{xs:List Value}(h:u.ownsRow base e size v n xs)(hx:xs[k]? =some x):∃b cap,v= .slice (some ⟨b,0,none⟩) n cap∧At u ⟨b,k,none⟩ x:=by
 rcases h.2 with⟨rfl,rfl⟩|⟨b,cap,cur,rfl,h3,h4,h5,h6,h7,h8⟩
 ·have:=(List.getElem?_eq_some_iff.1 hx).1
  have:=h.1
  omega
 ·refine⟨b,cap,rfl,cell_of h4 ?_⟩
  have h9:=(List.getElem?_eq_some_iff.1 hx).1
  rw[← h8,List.getElem?_take_of_lt (by have:=h.1;omega)]at hx
  simpa using hx
end
open Go Go.Conc Go.RowKit Go.Proofs
section
def cnt(p:Nat→Bool):Nat→Nat
 | 0=>0
 | n+1=>cnt p n+if p n then 1 else 0
theorem cnt_le(p:Nat→Bool)(n:Nat):cnt p n≤n:=by
 induction n with
 | zero=>exact Nat.le_refl _
 | succ n ih=>simp only[cnt];split<;>omega
theorem cnt_congr{p q:Nat→Bool}{n:Nat}(h:∀j,j<n→p j=q j):cnt p n=cnt q n:=by
 induction n with
 | zero=>rfl
 | succ n ih=>simp only[cnt,ih (fun j hj=>h j (by omega)),h n (by omega)]
theorem cnt_zero{p:Nat→Bool}{n:Nat}:cnt p n=0↔∀j,j<n→p j=false:=by
 induction n with
 | zero=>simp[cnt]
 | succ n ih=>
   simp only[cnt,Nat.add_eq_zero_iff,ih]
   constructor
   ·rintro⟨h1,h2⟩ j hj
    by_cases e:j=n
    ·subst e
     cases h:p j with
     | false=>rfl
     | true=>rw[h]at h2;simp at h2
    ·exact h1 j (by omega)
   ·intro h
    exact⟨fun j hj=>h j (by omega),by rw[h n (by omega)];simp⟩
theorem cnt_upd{p q:Nat→Bool}{n i:Nat}(hi:i<n)(h:∀j,j≠i→q j=p j)(hp:p i=true):cnt q n=if q i then cnt p n else cnt p n - 1:=by
 induction n with
 | zero=>omega
 | succ n ih=>
   simp only[cnt]
   by_cases e:i=n
   ·subst e
    rw[cnt_congr (p:=q) (q:=p) (fun j hj=>h j (by omega)),hp]
    split<;>simp_all
   ·rw[ih (by omega),h n (Ne.symm e)]
    have:0<cnt p n:=by
     rcases Nat.eq_zero_or_pos (cnt p n)with h0|h0
     ·rw[cnt_zero.1 h0 i (by omega)]at hp;cases hp
     ·exact h0
    split<;>omega
structure Op4 where
 kd:Int
 a:Int
 b:Int
 c:Int
def Op4.v(o:Op4):Value:=.agg #[.int .i64 o.kd,.int .i64 o.a,.int .i64 o.b,.int .i64 o.c]
structure RQ where
 B:List (Int×Option Nat)
 hd:Nat
 tl:Nat
structure RC where
 kd:Nat
 ph:Nat
 H:Nat
 T:Nat
 N:Option Nat
 new:Nat
abbrev RR:=RC ⊕ (Bool×Int)
def RQ.nx(q:RQ)(k:Nat):Option Nat:=(q.B[k]?).bind (·.2)
def RQ.vl(q:RQ)(k:Nat):Int:=((q.B[k]?).map (·.1)).getD 0
def RQ.link(q:RQ)(t n:Nat):RQ:={q with B:=q.B.modify t fun b=>(b.1,some n)}
def RQ.help(q:RQ)(t n:Nat):RQ:=if q.tl=t then{q with tl:=n}else q
def RC.n(c:RC):Nat:=c.N.getD 0
def RQ.begin(q:RQ)(o:Op4):RQ×RR:=
 if o.kd=1 then({q with B:=q.B++[(o.a,none)]},.inl ⟨1,1,0,0,some 0,q.B.length⟩)
 else if o.kd=2 then(q,.inl ⟨2,1,0,0,some 0,0⟩)
 else if o.kd=3 then(q,.inl ⟨3,1,0,0,some 0,0⟩)
 else(q,.inr (false,0))
def RQ.put(q:RQ)(c:RC):RQ×RR:=
 match c.ph with
 | 1=>(q,.inl {c with T:=q.tl,ph:=2})
 | 2=>match q.nx c.T with
   | none=>(q,.inl {c with N:=none,ph:=4})
   | some n=>(q,.inl {c with N:=some n,ph:=3})
 | 3=>(q.help c.T c.n,.inl {c with ph:=1})
 | 4=>match q.nx c.T with
   | none=>(q.link c.T c.new,.inl {c with ph:=5})
   | some _=>(q,.inl {c with ph:=1})
 | _=>(q.help c.T c.new,.inr (true,0))
def RQ.take(q:RQ)(c:RC):RQ×RR:=
 match c.ph with
 | 1=>(q,.inl {c with H:=q.hd,ph:=2})
 | 2=>(q,.inl {c with T:=q.tl,ph:=3})
 | 3=>match q.nx c.H with
   | none=>(q,.inr (false,0))
   | some n=>(q,.inl {c with N:=some n,ph:=if c.H=c.T then 4 else 5})
 | 4=>(q.help c.T c.n,.inl {c with ph:=1})
 | _=>if q.hd=c.H then({q with hd:=c.n},.inr (true,q.vl c.n))else(q,.inl {c with ph:=1})
def RQ.emp(q:RQ)(c:RC):RQ×RR:=
 match c.ph with
 | 1=>(q,.inl {c with H:=q.hd,ph:=2})
 | _=>match q.nx c.H with
   | none=>(q,.inr (true,1))
   | some _=>(q,.inr (true,0))
def RQ.step(q:RQ)(c:RC):RQ×RR:=
 match c.kd with
 | 1=>q.put c
 | 2=>q.take c
 | _=>q.emp c
structure RT where
 k:Nat
 call:Option RC
 ans:List (Bool×Int)
structure PS where
 q:RQ
 th:Nat→RT
def PS.put(s:PS)(i:Nat)(r:RQ×RT):PS:=⟨r.1,fun j=>if j=i then r.2 else s.th j⟩
def PS.live(s:PS)(j:Nat):Bool:=(s.th j).call.isSome
def pDone(n M:Nat)(s:PS×List Nat):Prop:=cnt s.1.live n=0∨M≤s.2.length
instance(n M:Nat)(s:PS×List Nat):Decidable (pDone n M s):=by unfold pDone;infer_instance
def ansC(l:List (Bool×Int)):List Value:=(l.map fun a=>[Value.bool a.1,.int .i64 a.2,.slice none 0 0]).flatten
structure OpsIn(w:World)(N:Nat→Prop)(n:Nat)(tb o tl:Nat)(ta:Option Addr)(oa:Nat→Option Addr)(ol oc:Nat→Nat)(ops:Nat→List Op4)(S:List Int)(sa:Option Addr):Prop where
 hn:min tl 64=n
 hta:0<n→ta=some ⟨tb,o,none⟩
 htb:0<n→tb<w.heap.size
 hth:∀j,j<n→w.cell? ⟨tb,o+j,none⟩=some (.slice (oa j) (ol j) (oc j))∧w.frozen? ⟨tb,o+j,none⟩=false∧ol j≤oc j
 hlen:∀j,j<n→(ops j).length=min (ol j) 65536
 hop:∀j,j<n→∀k x,(ops j)[k]? =some x→∃opb oo,oa j=some ⟨opb,oo,none⟩∧¬N opb∧
  w.cell? ⟨opb,oo+k*4,none⟩=some (.int .i64 x.kd)∧w.cell? ⟨opb,oo+k*4+1,none⟩=some (.int .i64 x.a)∧w.cell? ⟨opb,oo+k*4+2,none⟩=some (.int .i64 x.b)∧w.cell? ⟨opb,oo+k*4+3,none⟩=some (.int .i64 x.c)∧
  w.frozen? ⟨opb,oo+k*4,none⟩=false∧w.frozen? ⟨opb,oo+k*4+1,none⟩=false∧w.frozen? ⟨opb,oo+k*4+2,none⟩=false∧w.frozen? ⟨opb,oo+k*4+3,none⟩=false
 hsl:S.length<9223372036854775808
 hS:0<S.length→∃sb so c e z,sa=some ⟨sb,so,none⟩∧¬N sb∧w.heap[sb]? =some (.cells c e z)∧∀(k:Nat) (u:Value),(S.map fun i:Int=>Value.int .i64 i)[k]? =some u→c[so+k]? =some u∧(decide (z.1≤so+k) && decide (so+k<z.2))=false
end
section
variable{P:Program}
def CallsB(P:Program)(fn:Func)(args:Array Value)(w:World)(R:Value→World→Prop):Prop:=
 ∀c,fn.body=some c→c.wp P (bodyPost P fn fun x w'=>∃v,x= .returned v∧R v w') {tmps:=args++Array.replicate (fn.ntmps - args.size) undef,defers:=[]} w
theorem CallsB.calls{f:FuncId}{fn:Func}{c:Code}(hf:P.funcs[f]? =some fn)(hb:fn.body=some c){args:Array Value}{w:World}{R:Value→World→Prop}(h:CallsB P fn args w R):Calls P f args w fun x w'=>∃v,x= .returned v∧R v w':=
 calls_of_wp hf hb (h c hb)
theorem callsB_of{fn:Func}{c:Code}(hb:fn.body=some c){args:Array Value}{w:World}{R:Value→World→Prop}(h:c.wp P (bodyPost P fn fun x w'=>∃v,x= .returned v∧R v w') {tmps:=args++Array.replicate (fn.ntmps - args.size) undef,defers:=[]} w):CallsB P fn args w R:=
 fun c' hc'=>by rw[hb]at hc';cases hc';exact h
end
section
def pC:List Bool→Code→Code
 | [],c=>c
 | true::p,.seq a _=>pC p a
 | false::p,.seq _ b=>pC p b
 | true::p,.cond _ a _=>pC p a
 | false::p,.cond _ _ b=>pC p b
 | _::p,.block _ c=>pC p c
 | _::p,.loop c=>pC p c
 | _::p,.scope c=>pC p c
 | _,c=>c
def oC:Code→Array Oper
 | .region _ o _=>o
 | _=> #[]
def Bears(A:Array Value):List (Nat×Value)→Prop
 | []=>True
 | (k,v)::l=>A.getD k undef=v∧Bears A l
def Slots(n:Nat)(A:Array Value)(l:List (Nat×Value)):Prop:=A.size=n∧Bears A l
theorem arr_lit(A:Array Value){n:Nat}(h:A.size=n):∃s:Nat→Value,A=((List.range n).map s).toArray∧∀k,A.getD k undef=(((List.range n).map s).toArray).getD k undef:=by
 have e:A=((List.range n).map (fun k=>A.getD k undef)).toArray:=by
  apply Array.ext
  ·simp[h]
  ·intro i h1 h2
   simp[h1]
 exact⟨_,e,fun k=>by rw[← e]⟩
def nrm(Q:Act→World→Prop):Exit→Act→World→Prop
 | .normal,a,w=>Q a w
 | _,_,_=>False
abbrev zt := true
abbrev zf := false
theorem zz : (∀ i o b, oC (.region i o b) = o) ∧ (∀ c, pC [] c = c) ∧ (∀ p a b, pC (true :: p) (.seq a b) = pC p a) ∧ (∀ p a b, pC (false :: p) (.seq a b) = pC p b) ∧ (∀ p c a b, pC (true :: p) (.cond c a b) = pC p a) ∧ (∀ p c a b, pC (false :: p) (.cond c a b) = pC p b) ∧ (∀ x p i c, pC (x :: p) (.block i c) = pC p c) ∧ (∀ x p c, pC (x :: p) (.loop c) = pC p c) ∧ (∀ x p c, pC (x :: p) (.scope c) = pC p c) ∧ (∀ a b : Code, (some a).getD b = a) ∧ (∀ l : List Oper, l.toArray.size = l.length) ∧ (∀ (a : Oper) l, (a :: l).length = l.length + 1) ∧ ([] : List Oper).length = 0 ∧ (∀ n, 0 + n = n) ∧ (∀ n, List.range n = List.range.loop n []) ∧ (∀ l, List.range.loop 0 l = l) ∧ (∀ n l, List.range.loop (n + 1) l = List.range.loop n (n :: l)) := by
  refine ⟨fun _ _ _ => rfl, fun c => by cases c <;> rfl, fun _ _ _ => rfl, fun _ _ _ => rfl, fun _ _ _ _ => rfl, fun _ _ _ _ => rfl, fun x p i c => by cases x <;> rfl, fun x p c => by cases x <;> rfl, fun x p c => by cases x <;> rfl, fun _ _ => rfl, fun _ => rfl, fun _ _ => rfl, rfl, Nat.zero_add, fun _ => rfl, fun _ => rfl, fun _ _ => rfl⟩
end
section
open Go Go.Conc
abbrev Fz:=Nat→Option (Nat×Nat)
def maskObj(F:Fz)(r:Nat):Obj→Obj
 | .cells c e z=>.cells c e ((F r).getD z)
 | o=>o
def held(F:Fz)(a:Addr):Prop:=∃z,F a.block=some z∧z.1≤a.off∧a.off<z.2
def mask(F:Fz)(w:World):World:={w with heap:=w.heap.mapIdx (maskObj F)}
def retape(w:World)(τ:Tape)(e:Nat):World:={w with tape:=τ,drawn:=e}
structure Wf(F:Fz)(w:World):Prop where
 own:∀(r:Nat) (z:Nat×Nat),F r=some z→∃c e z0,w.heap[r]? =some (.cells c e z0)∧∀k,z0.1≤k→k<z0.2→z.1≤k∧k<z.2
theorem mask_get(F:Fz)(w:World)(r:Nat):(mask F w).heap[r]? =(w.heap[r]?).map (maskObj F r):=by
 simp[mask,Array.getElem?_mapIdx]
@[simp] theorem mask_size(F:Fz)(w:World):(mask F w).heap.size=w.heap.size:=by simp[mask]
@[simp] theorem mask_tape(F:Fz)(w:World):(mask F w).tape=w.tape:=rfl
@[simp] theorem mask_drawn(F:Fz)(w:World):(mask F w).drawn=w.drawn:=rfl
@[simp] theorem mask_os(F:Fz)(w:World):(mask F w).os=w.os:=rfl
@[simp] theorem mask_output(F:Fz)(w:World):(mask F w).output=w.output:=rfl
@[simp] theorem retape_heap(w:World)(τ:Tape)(e:Nat):(retape w τ e).heap=w.heap:=rfl
@[simp] theorem retape_tape(w:World)(τ:Tape)(e:Nat):(retape w τ e).tape=τ:=rfl
@[simp] theorem retape_drawn(w:World)(τ:Tape)(e:Nat):(retape w τ e).drawn=e:=rfl
theorem retape_mask(F:Fz)(w:World)(τ:Tape)(e:Nat):retape (mask F w) τ e=mask F (retape w τ e):=rfl
theorem mask_cell(F:Fz)(w:World)(a:Addr):(mask F w).cell? a=w.cell? a:=by
 unfold World.cell?
 rw[mask_get]
 cases h:w.heap[a.block]? with
 | none=>rfl
 | some o=>cases o<;>simp[maskObj]
theorem mask_shape(F:Fz)(w:World)(r:Nat):(mask F w).shape? r=w.shape? r:=by
 unfold World.shape?
 rw[mask_get]
 cases h:w.heap[r]? with
 | none=>rfl
 | some o=>cases o<;>simp[maskObj]
theorem mask_frozen(F:Fz)(w:World)(a:Addr)(hw:Wf F w)(h:(mask F w).frozen? a=false):w.frozen? a=false∧¬held F a:=by
 unfold World.frozen? at h ⊢
 rw[mask_get]at h
 cases hf:F a.block with
 | none=>
   refine⟨?_,fun⟨z,hz,_⟩=>by rw[hf]at hz;cases hz⟩
   cases ho:w.heap[a.block]? with
   | none=>rfl
   | some o=>
     rw[ho]at h
     cases o<;>simp only[Option.map_some,maskObj,hf,Option.getD_none]at h ⊢
     exact h
 | some z=>
   obtain⟨c,e,z0,ho,hin⟩:=hw.own _ _ hf
   rw[ho]at h ⊢
   simp only[Option.map_some,maskObj,hf,Option.getD_some]at h
   refine⟨by
    by_cases h1:z0.1≤a.off∧a.off<z0.2
    ·have:=hin _ h1.1 h1.2
     simp[this.1,this.2]at h
    ·simp only[Bool.and_eq_false_imp,decide_eq_true_eq,decide_eq_false_iff_not]
     exact fun h2 h3=>h1 ⟨h2,h3⟩,fun⟨z',hz',h1,h2⟩=>?_⟩
   rw[hf]at hz'
   cases hz'
   simp[h1,h2]at h
theorem mask_setCell(F:Fz)(w:World)(a:Addr)(v:Value):(mask F w).setCell a v=mask F (w.setCell a v):=by
 unfold World.setCell mask
 congr 1
 apply Array.ext_getElem?
 intro i
 simp only[Array.getElem?_modify,Array.getElem?_mapIdx]
 cases h:w.heap[i]? with
 | none=>simp
 | some o=>
   by_cases hi:a.block=i
   ·simp only[hi,Option.map_some,if_true]
    cases o<;>simp[maskObj]
   ·simp[hi]
theorem mask_push(F:Fz)(w:World)(hw:Wf F w)(o:Obj):{mask F w with heap:=(mask F w).heap.push o}=mask F {w with heap:=w.heap.push o}:=by
 have hn:F w.heap.size=none:=by
  cases h:F w.heap.size with
  | none=>rfl
  | some z=>obtain⟨c,e,z0,h',_⟩:=hw.own _ _ h;simp at h'
 have ho:maskObj F w.heap.size o=o:=by cases o<;>simp[maskObj,hn]
 suffices e:(mask F w).heap.push o=(w.heap.push o).mapIdx (maskObj F)by
  show({mask F w with heap:=(mask F w).heap.push o}:World)={w with heap:=(w.heap.push o).mapIdx (maskObj F)}
  rw[e];rfl
 unfold mask
 apply Array.ext_getElem?
 intro i
 simp only[Array.getElem?_push,Array.getElem?_mapIdx,Array.size_mapIdx]
 split
 ·rename_i h;subst h;simp[ho]
 ·rfl
theorem Wf.retape{F:Fz}{w:World}(h:Wf F w)(τ:Tape)(e:Nat):Wf F (retape w τ e):=⟨h.own⟩
def EvT(F:Fz)(e:Event):Prop:=(e.write=true→∃a,e.loc= .cell a∧¬held F a)∧(∀m,e.loc= .mark m→m= .noRoom∨∃f,m= .extern f)
def Fine:Halt→Prop
 | .panic _| .stuck _| .unsupported _=>True
 | _=>False
structure Grew(F:Fz)(w w':World)(j:Nat):Prop where
 tape:w'.tape=w.tape
 drawn:w'.drawn=w.drawn+j
 os:w'.os=w.os
 output:w'.output=w.output
 size:w.heap.size≤w'.heap.size
 objs:∀(r:Nat) (o:Obj),w.heap[r]? =some o→(∃(c:Array Value) (e:TypeId) (z:Nat×Nat) (c':Array Value),o= .cells c e z∧w'.heap[r]? =some (.cells c' e z)∧c'.size=c.size)∨w'.heap[r]? =some o
 keep:∀a,held F a→w'.cell? a=w.cell? a
theorem Grew.refl(F:Fz)(w:World):Grew F w w 0:=⟨rfl,rfl,rfl,rfl,Nat.le_refl _,fun _ _ h=>.inr h,fun _ _=>rfl⟩
theorem Grew.trans{F:Fz}{a b c:World}{i j:Nat}(h:Grew F a b i)(k:Grew F b c j):Grew F a c (i+j):=by
 refine⟨k.tape.trans h.tape,by rw[k.drawn,h.drawn];omega,k.os.trans h.os,k.output.trans h.output,Nat.le_trans h.size k.size,fun r o ho=>?_,fun x hx=>(k.keep x hx).trans (h.keep x hx)⟩
 rcases h.objs r o ho with⟨c1,e1,z1,c2,rfl,h2,h3⟩|h2
 ·rcases k.objs r _ h2 with⟨c3,e3,z3,c4,he,h4,h5⟩|h4
  ·cases he
   exact .inl ⟨_,_,_,c4,rfl,h4,by omega⟩
  ·exact .inl ⟨_,_,_,c2,rfl,h4,h3⟩
 ·exact k.objs r o h2
def Agree(w:World)(j:Nat)(τ:Tape)(e:Nat):Prop:=∀i q,i<j→τ (e+i) q=w.tape (w.drawn+i) q
variable{α β:Type}
def SimAt(P:Program)(F:Fz)(s:Sem α)(w:World):Prop:=
 match s.run P (mask F w)with
 | .ok v u=>∃w' es j,u=mask F w'∧s.run P w= .ok v w'∧(∀es₀,s.events P w es₀=es₀++es)∧(∀e∈es,EvT F e)∧Grew F w w' j∧Wf F w'∧
  ∀τ e,Agree w j τ e→s.run P (retape (mask F w) τ e)= .ok v (retape u τ (e+j))
 | .halt h _=>Fine h
def Sims(P:Program)(F:Fz)(s:Sem α):Prop:=∀w,Wf F w→SimAt P F s w
theorem SimAt.ok{P:Program}{F:Fz}{s:Sem α}{w:World}{v:α}{u:World}(h:SimAt P F s w)(hr:s.run P (mask F w)= .ok v u):
 ∃w' es j,u=mask F w'∧s.run P w= .ok v w'∧(∀es₀,s.events P w es₀=es₀++es)∧(∀e∈es,EvT F e)∧Grew F w w' j∧Wf F w'∧
  ∀τ e,Agree w j τ e→s.run P (retape (mask F w) τ e)= .ok v (retape u τ (e+j)):=by
 unfold SimAt at h;rw[hr]at h;exact h
theorem Sims.pure{P:Program}{F:Fz}(a:α):Sims P F (Sem.pure a):=by
 intro w hw
 exact⟨w,#[],0,rfl,rfl,fun _=>by simp,by simp,.refl _ _,hw,fun _ _ _=>rfl⟩
theorem Sims.pure'{P:Program}{F:Fz}(a:α):Sims P F (Pure.pure a:Sem α):=Sims.pure a
theorem Sims.halt{P:Program}{F:Fz}(h:Halt)(hf:Fine h):Sims P F (Sem.halt h:Sem α):=by
 intro w hw;exact hf
theorem Sims.bind'{P:Program}{F:Fz}{s:Sem α}{f:α→Sem β}(hs:Sims P F s)(hf:∀a,Sims P F (f a)):Sims P F (s.bind f):=by
 intro w hw
 have h1:=hs w hw
 unfold SimAt at h1 ⊢
 rw[Sem.run_bind']
 cases hr:s.run P (mask F w)with
 | halt h u=>rw[hr]at h1;exact h1
 | ok a u=>
   rw[hr]at h1
   obtain⟨w1,es1,j1,rfl,r1,e1,t1,g1,hw1,l1⟩:=h1
   simp only[Result.andThen_ok]
   have h2:=hf a w1 hw1
   unfold SimAt at h2
   cases hr2:(f a).run P (mask F w1)with
   | halt h u=>rw[hr2]at h2;exact h2
   | ok b u=>
     rw[hr2]at h2
     obtain⟨w2,es2,j2,rfl,r2,e2,t2,g2,hw2,l2⟩:=h2
     refine⟨w2,es1++es2,j1+j2,rfl,by rw[Sem.run_bind',r1];exact r2,fun es₀=>?_,?_,g1.trans g2,hw2,fun τ e ha=>?_⟩
     ·rw[Sem.events_bind',r1,e1];simp only[Result.evThen_ok];rw[e2,Array.append_assoc]
     ·intro x hx
      rcases Array.mem_append.1 hx with h|h
      ·exact t1 x h
      ·exact t2 x h
     ·rw[Sem.run_bind',l1 τ e (fun i q hi=>ha i q (by omega))]
      simp only[Result.andThen_ok]
      rw[show retape (mask F w1) τ (e+j1)=retape (mask F w1) τ (e+j1)from rfl,l2 τ (e+j1) (fun i q hi=>?_)]
      ·rw[Nat.add_assoc]
      ·have:=ha (j1+i) q (by omega)
       rw[g1.tape,g1.drawn]
       rw[Nat.add_assoc,Nat.add_assoc]
       exact this
theorem Sims.bind{P:Program}{F:Fz}{s:Sem α}{f:α→Sem β}(hs:Sims P F s)(hf:∀a,Sims P F (f a)):Sims P F (s >>= f):=Sims.bind' hs hf
theorem Sims.map{P:Program}{F:Fz}{s:Sem α}{f:α→β}(hs:Sims P F s):Sims P F (f <$> s):=Sims.bind' hs fun a=>Sims.pure _
theorem Sims.ite{P:Program}{F:Fz}{c:Prop} [Decidable c] {s t:Sem α}(hs:c→Sims P F s)(ht:¬c→Sims P F t):Sims P F (if c then s else t):=by
 split
 ·exact hs ‹_›
 ·exact ht ‹_›
theorem mask_seen(P:Program)(F:Fz)(w:World)(at_:Addr)(u:TypeId)(k:Addr)(m:Bool):
 (mask F w).seen P at_ u k m=(w.seen P at_ u k m).map fun z=>(z.1,z.2.1,(F at_.block).getD z.2.2.1,z.2.2.2):=by
 unfold World.seen
 rw[mask_get]
 cases h:w.heap[at_.block]? with
 | none=>
   simp only[bind,Except.bind,pure,Except.pure,throw,throwThe,MonadExceptOf.throw,Option.map_none]
   repeat' split
   all_goals first|rfl|(simp_all [Except.map];done)|(simp_all [Except.map];all_goals rfl)
 | some o=>
   cases o<;>simp only[bind,Except.bind,pure,Except.pure,throw,throwThe,MonadExceptOf.throw,Option.map_some,maskObj]
   all_goals(repeat' split)
   all_goals first|rfl|(simp_all [Except.map];done)|(simp_all [Except.map];all_goals rfl)
theorem mask_viewLoad(P:Program)(F:Fz)(w:World)(at_:Addr)(u:TypeId)(k:Addr)(m:Bool):
 (mask F w).viewLoad P at_ u k m=w.viewLoad P at_ u k m:=by
 unfold World.viewLoad
 rw[mask_seen]
 cases w.seen P at_ u k m with
 | error e=>rfl
 | ok z=>rfl
end
section
open Go Go.Conc
variable{P:Program}{F:Fz}
theorem foldlM_ok{γ δ:Type}{g1 g2:γ→δ→Except String γ}(h:∀c x r,g1 c x= .ok r→g2 c x= .ok r):
 ∀(l:List δ) (c r:γ),l.foldlM g1 c= .ok r→l.foldlM g2 c= .ok r:=by
 intro l
 induction l with
 | nil=>intro c r hr;exact hr
 | cons x l ih=>
   intro c r hr
   rw[List.foldlM_cons]at hr ⊢
   cases h1:g1 c x with
   | error e=>rw[h1]at hr;cases hr
   | ok c'=>
     rw[h1]at hr
     rw[h c x c' h1]
     exact ih c' r hr
theorem foldlM_inv{γ δ:Type}{g:γ→δ→Except String γ}(I:γ→Prop)(J:δ→Prop)(h:∀c x r,g c x= .ok r→I c→I r∧J x):
 ∀(l:List δ) (c r:γ),l.foldlM g c= .ok r→I c→I r∧∀x∈l,J x:=by
 intro l
 induction l with
 | nil=>intro c r hr hI;cases hr;exact⟨hI,by simp⟩
 | cons x l ih=>
   intro c r hr hI
   rw[List.foldlM_cons]at hr
   cases h1:g c x with
   | error e=>rw[h1]at hr;cases hr
   | ok c'=>
     rw[h1]at hr
     obtain⟨hI',hJ⟩:=h c x c' h1 hI
     obtain⟨h2,h3⟩:=ih c' r hr hI'
     exact⟨h2,by intro y hy;rcases List.mem_cons.1 hy with rfl|hy;exact hJ;exact h3 y hy⟩
structure Wrote(F:Fz)(w w':World)(l:List Addr):Prop where
 grew:Grew F w w' 0
 wf:Wf F w'
 free:∀a∈l,¬held F a
 same:w'.tape=w.tape∧w'.drawn=w.drawn
theorem wrote_setCell(w:World)(hw:Wf F w)(a:Addr)(v:Value)(hh:¬held F a):Wrote F w (w.setCell a v) [a]:=by
 have hget:∀r,(w.setCell a v).heap[r]? =(w.heap[r]?).map fun o=>if a.block=r then(match o with| .cells c elem frozen=>.cells (if a.spot.isSome then c else c.setIfInBounds a.off v) elem frozen|o=>o)else o:=by
  intro r
  unfold World.setCell
  simp only[Array.getElem?_modify]
  split
  ·cases w.heap[r]? <;>rfl
  ·cases w.heap[r]? <;>rfl
 refine⟨⟨rfl,rfl,rfl,rfl,by simp[World.setCell],fun r o ho=>?_,fun b hb=>?_⟩,⟨fun r z hz=>?_⟩,by simpa using hh,rfl,rfl⟩
 ·rw[hget,ho]
  by_cases h:a.block=r
  ·cases o with
   | cells c e z=>exact .inl ⟨c,e,z,if a.spot.isSome then c else c.setIfInBounds a.off v,rfl,by simp[h],by split<;>simp⟩
   | _=>right;simp[h]
  ·right;simp[h]
 ·unfold World.cell?
  rw[hget]
  cases ho:w.heap[b.block]? with
  | none=>rfl
  | some o=>
    by_cases h:a.block=b.block
    ·cases o with
     | cells c e z=>
       simp only[Option.map_some,h,if_true]
       by_cases hs:a.spot.isSome=true
       ·simp[hs]
       ·by_cases hoff:a.off=b.off
        ·obtain⟨z',hz,h1,h2⟩:=hb
         exact absurd ⟨z',by rw[h];exact hz,by omega,by omega⟩ hh
        ·simp only[hs,Bool.false_eq_true,if_false]
         rw[Array.getElem?_setIfInBounds_ne hoff]
     | _=>simp[h]
    ·simp[h]
 ·obtain⟨c,e,z0,ho,hin⟩:=hw.own r z hz
  rw[hget,ho]
  by_cases h:a.block=r
  ·exact⟨if a.spot.isSome then c else c.setIfInBounds a.off v,e,z0,by simp[h],hin⟩
  ·exact⟨c,e,z0,by simp[h],hin⟩
theorem wrote_block(w:World)(hw:Wf F w)(r:Nat)(c c':Array Value)(e:TypeId)(z:Nat×Nat)(ho:w.heap[r]? =some (.cells c e z))(hc:c'.size=c.size)
 (hk:∀i,held F ⟨r,i,none⟩→c'[i]? =c[i]?) (l:List Addr) (hl:∀a∈l,¬held F a):
 Wrote F w {w with heap:=w.heap.setIfInBounds r (.cells c' e z)} l:=by
 have hlt:r<w.heap.size:=(Array.getElem?_eq_some_iff.1 ho).1
 have hget:∀i,(w.heap.setIfInBounds r (.cells c' e z))[i]? =if r=i then some (.cells c' e z)else w.heap[i]?:=by
  intro i
  rw[Array.getElem?_setIfInBounds]
  split
  ·rename_i h;subst h;simp[hlt]
  ·rfl
 refine⟨⟨rfl,rfl,rfl,rfl,by simp,fun i o hi=>?_,fun b hb=>?_⟩,⟨fun i y hy=>?_⟩,hl,rfl,rfl⟩
 ·simp only[hget]
  by_cases h:r=i
  ·subst h
   rw[ho]at hi
   cases hi
   exact .inl ⟨c,e,z,c',rfl,by simp,hc⟩
  ·exact .inr (by simp[h,hi])
 ·unfold World.cell?
  simp only[hget]
  by_cases h:r=b.block
  ·subst h
   rw[ho]
   simp only[if_true]
   split
   ·rfl
   ·obtain⟨y,h1,h2,h3⟩:=hb
    exact hk b.off ⟨y,h1,h2,h3⟩
  ·simp[h]
 ·simp only[hget]
  obtain⟨c1,e1,z1,h1,hin⟩:=hw.own i y hy
  by_cases h:r=i
  ·subst h
   rw[ho]at h1
   cases h1
   exact⟨c',e,z,by simp,hin⟩
  ·exact⟨c1,e1,z1,by simp[h,h1],hin⟩
theorem mask_setBlock(w:World)(r:Nat)(c:Array Value)(e:TypeId)(z:Nat×Nat):
 ({mask F w with heap:=(mask F w).heap.setIfInBounds r (.cells c e ((F r).getD z))}:World)=mask F {w with heap:=w.heap.setIfInBounds r (.cells c e z)}:=by
 suffices e:(mask F w).heap.setIfInBounds r (.cells c e ((F r).getD z))=(w.heap.setIfInBounds r (.cells c e z)).mapIdx (maskObj F)by
  show({mask F w with heap:=(mask F w).heap.setIfInBounds r (.cells c _ ((F r).getD z))}:World)={w with heap:=(w.heap.setIfInBounds r (.cells c _ z)).mapIdx (maskObj F)}
  rw[e];rfl
 unfold mask
 apply Array.ext_getElem?
 intro i
 simp only[Array.getElem?_setIfInBounds,Array.getElem?_mapIdx,Array.size_mapIdx]
 split
 ·rename_i h;subst h;split<;>simp[maskObj]
 ·rfl
theorem throw_ok{γ:Type}(s:String):(MonadExcept.throw s:Except String γ)= .error s:=rfl
theorem seen_obj{w:World}{at_:Addr}{u:TypeId}{k:Addr}{m:Bool}{c:Array Value}{e:TypeId}{f:Nat×Nat}{rest:Nat×Value×List (Nat×Nat×List UInt8)}
 (h:w.seen P at_ u k m= .ok (c,e,f,rest)):w.heap[at_.block]? =some (.cells c e f):=by
 unfold World.seen at h
 simp only[bind,Except.bind,pure,Except.pure,throw,throwThe,MonadExceptOf.throw,throw_ok]at h
 repeat'(split at h)
 all_goals first|(cases h;done)|(simp only[Except.ok.injEq,Prod.mk.injEq]at h;obtain⟨rfl,rfl,rfl,_⟩:=h;assumption)
theorem mask_viewStore(w:World)(hw:Wf F w)(at_:Addr)(u:TypeId)(k:Addr)(v:Value)(m:Bool)(u':World)(l:List Addr)(h:(mask F w).viewStore P at_ u k v m= .ok (u',l)):
 ∃w',u'=mask F w'∧w.viewStore P at_ u k v m= .ok (w',l)∧Wrote F w w' l:=by
 unfold World.viewStore at h ⊢
 rw[mask_seen]at h
 by_cases ht:tight P P.depth u=true
 ·simp only[ht,Bool.not_true,Bool.false_eq_true,if_false]at h ⊢
  cases hs:w.seen P at_ u k m with
  | error e=>rw[hs]at h;cases h
  | ok z=>
    obtain⟨c,e,f,first,like,cells⟩:=z
    rw[hs]at h
    simp only[Except.map]at h
    simp only[bind,Except.bind,pure,Except.pure,throw,throwThe,MonadExceptOf.throw,throw_ok]at h ⊢
    cases hb:v.bytes? with
    | none=>rw[hb]at h;cases h
    | some bytes=>
      rw[hb]at h
      simp only at h ⊢
      by_cases hz:some bytes.length≠Option.map (fun x=>x.length) like.bytes?
      ·rw[if_pos hz]at h;cases h
      ·rw[if_neg hz]at h ⊢
       have hobj:w.heap[at_.block]? =some (.cells c e f):=seen_obj hs
       have hfz:∀i,f.1≤i→i<f.2→((F at_.block).getD f).1≤i∧i<((F at_.block).getD f).2:=by
        intro i h1 h2
        cases hF:F at_.block with
        | none=>exact⟨h1,h2⟩
        | some y=>
          obtain⟨c1,e1,z1,h3,hin⟩:=hw.own _ _ hF
          rw[hobj]at h3
          cases h3
          simpa using hin i h1 h2
       split at h
       ·cases h
       ·rename_i c' hfold
        simp only[Except.ok.injEq,Prod.mk.injEq]at h
        obtain⟨rfl,rfl⟩:=h
        have hinv:=foldlM_inv (fun d=>d.size=c.size∧∀i,held F ⟨at_.block,i,none⟩→d[i]? =c[i]?) (fun x=>¬held F ⟨at_.block,x.1,none⟩) (fun d x r hr hI=>by
         split at hr
         ·cases hr
         split at hr
         ·cases hr
         rename_i hnf
         split at hr
         ·split at hr
          ·cases hr
           have hx:¬held F ⟨at_.block,x.1,none⟩:=by
            rintro⟨y,hy,h1,h2⟩
            simp only at hy h1 h2
            rw[hy]at hnf
            simp[h1,h2]at hnf
           refine⟨⟨by simp[hI.1],fun i hi=>?_⟩,hx⟩
           have hne:x.1≠i:=fun he=>hx (he ▸ hi)
           rw[Array.getElem?_setIfInBounds_ne hne]
           exact hI.2 i hi
          ·cases hr
         ·cases hr) cells c c' hfold ⟨rfl,fun _ _=>rfl⟩
        have hgo:∀(g2:Array Value→(Nat×Nat×List UInt8)→Except String (Array Value)),(∀d x r,_→g2 d x= .ok r)→List.foldlM g2 c cells= .ok c':=fun g2 hg=>foldlM_ok hg cells c c' hfold
        refine⟨{w with heap:=w.heap.setIfInBounds at_.block (.cells c' e f)},mask_setBlock w at_.block c' e f,?_,wrote_block w hw at_.block c c' e f hobj hinv.1.1 hinv.1.2 _ (fun a ha=>?_)⟩
        ·rw[hgo _ (fun d x r hr=>?_)]
         split at hr
         ·cases hr
         rename_i h1
         rw[if_neg h1]
         split at hr
         ·cases hr
         rename_i h2
         have h3:¬((decide (f.fst≤x.fst) && decide (x.fst<f.snd))=true):=by
          intro h4
          simp only[Bool.and_eq_true,decide_eq_true_eq]at h4 h2
          exact h2 (hfz _ h4.1 h4.2)
         rw[if_neg h3]
         exact hr
        ·obtain⟨x,hx,rfl⟩:=List.mem_map.1 ha
         exact hinv.2 x hx
 ·simp only[ht]at h
  cases h
end
section
open Go Go.Conc
variable{P:Program}{F:Fz}{α β:Type}
theorem noCell_fine(w:World)(a:Addr)(s:String):Fine (w.noCell a s):=by
 unfold World.noCell;split<;>trivial
theorem evT_read(a:Addr)(s:Bool):EvT F ⟨.cell a,false,s⟩:=⟨fun h=>by simp at h,fun m h=>by simp at h⟩
theorem evT_write(a:Addr)(s:Bool)(h:¬held F a):EvT F ⟨.cell a,true,s⟩:=⟨fun _=>⟨a,rfl,h⟩,fun m h=>by simp at h⟩
theorem evT_obj(r:Nat)(s:Bool):EvT F ⟨.obj r,false,s⟩:=⟨fun h=>by simp at h,fun m h=>by simp at h⟩
theorem mask_farLoad(w:World)(a:Addr)(m:Bool)(r:Value×List Addr)(h:(mask F w).farLoad P a m= .ok r):w.farLoad P a m= .ok r:=by
 unfold World.farLoad at h ⊢
 rw[mask_get]at h
 cases ho:w.heap[a.block]? with
 | none=>rw[ho]at h;cases h
 | some o=>
   rw[ho]at h
   cases o<;>simp only[Option.map_some,maskObj]at h ⊢
   case view b u=>rw[mask_viewLoad]at h;exact h
   all_goals cases h
theorem farLoad_fine(w:World)(a:Addr)(m:Bool)(e:Halt)(h:w.farLoad P a m= .error e):Fine e:=by
 unfold World.farLoad at h
 split at h
 ·split at h<;>cases h
  trivial
 ·cases h;exact noCell_fine _ _ _
theorem Sims.load(a:Addr)(m:Mode):Sims P F (Go.load a m):=by
 intro w hw
 unfold SimAt
 have hr:∀w:World,(Go.load a m).run P w=match w.cell? a with
  | some v=>.ok v w
  | none=>match w.farLoad P a (m == .atomic)with
    | .ok (v,_)=>.ok v w
    | .error h=>.halt h w:=by
  intro w;simp only[Go.load,Sem.run]
  cases w.cell? a with
  | some v=>rfl
  | none=>cases w.farLoad P a (m == .atomic)<;>rfl
 have he:∀(w:World) es,(Go.load a m).events P w es=match w.cell? a with
  | some v=>es.push ⟨.cell a,false,m == .atomic⟩
  | none=>match w.farLoad P a (m == .atomic)with
    | .ok (_,l)=>es++l.toArray.map (⟨.cell ·,false,m == .atomic⟩)
    | .error h=>es:=by
  intro w es
  simp only[Sem.events,Go.load,Sem.runT]
  cases w.cell? a with
  | some v=>rfl
  | none=>cases w.farLoad P a (m == .atomic)<;>rfl
 rw[hr,mask_cell]
 cases hc:w.cell? a with
 | some v=>
   refine⟨w,#[⟨.cell a,false,m == .atomic⟩],0,rfl,by rw[hr,hc],fun es=>by rw[he,hc];simp,fun e h=>?_,.refl _ _,hw,fun τ e _=>?_⟩
   ·simp only[List.mem_toArray,List.mem_singleton]at h;subst h;exact evT_read _ _
   ·rw[hr,retape_mask,mask_cell]
    rw[show(retape w τ e).cell? a=w.cell? a from rfl,hc]
    rfl
 | none=>
   cases hf:(mask F w).farLoad P a (m == .atomic)with
   | error h=>exact farLoad_fine _ _ _ _ hf
   | ok r=>
     have hf':=mask_farLoad _ _ _ _ hf
     refine⟨w,r.2.toArray.map (⟨.cell ·,false,m == .atomic⟩),0,rfl,by rw[hr,hc];simp only[hf'],fun es=>by rw[he,hc];simp only[hf'],fun e h=>?_,.refl _ _,hw,fun τ e _=>?_⟩
     ·obtain⟨x,_,rfl⟩:=Array.mem_map.1 h;exact evT_read _ _
     ·rw[hr,retape_mask,mask_cell]
      rw[show(retape w τ e).cell? a=w.cell? a from rfl,hc]
      have h1:(mask F (retape w τ e)).farLoad P a (m == .atomic)=(mask F w).farLoad P a (m == .atomic):=rfl
      simp only[h1,hf]
      rfl
theorem retape_viewStore(w:World)(at_:Addr)(u:TypeId)(k:Addr)(v:Value)(m:Bool)(τ:Tape)(e:Nat):
 (retape w τ e).viewStore P at_ u k v m=(w.viewStore P at_ u k v m).map fun r=>(retape r.1 τ e,r.2):=by
 unfold World.viewStore
 have hs:(retape w τ e).seen P at_ u k m=w.seen P at_ u k m:=rfl
 rw[hs]
 simp only[bind,Except.bind,pure,Except.pure,throw,throwThe,MonadExceptOf.throw,throw_ok]
 repeat' split
 all_goals first|rfl|(simp_all [Except.map];done)|(simp_all [Except.map];all_goals rfl)
theorem Sims.store(a:Addr)(v:Value)(m:Mode):Sims P F (Go.store a v m):=by
 intro w hw
 unfold SimAt
 by_cases hv:(∃cs,v= .agg cs)∨(∃vs,v= .tuple vs)
 ·have:∀w:World,∃s,(Go.store a v m).run P w= .halt (.stuck s) w:=by
   intro w
   rcases hv with⟨cs,rfl⟩|⟨vs,rfl⟩<;>exact⟨_,rfl⟩
  obtain⟨s,h⟩:=this (mask F w)
  rw[h];trivial
 have hr:∀w:World,(Go.store a v m).run P w=match w.cell? a with
  | some _ => if w.frozen? a then .halt (.unsupported (.unsafePointer "a write to bytes that a string shares")) w else .ok () (w.setCell a v)
  | none=>match w.farStore P a v (m == .atomic)with
    | .ok (w,_)=>.ok () w
    | .error h=>.halt h w:=by
  intro w
  simp only[Go.store]
  cases v<;>first|rfl|(simp at hv)
 have he:∀(w:World) es,(Go.store a v m).events P w es=match w.cell? a with
  | some _=>if w.frozen? a then es else es.push ⟨.cell a,true,m == .atomic⟩
  | none=>match w.farStore P a v (m == .atomic)with
    | .ok (_,l)=>es++l.toArray.map (⟨.cell ·,true,m == .atomic⟩)
    | .error h=>es:=by
  intro w es
  simp only[Sem.events,Go.store]
  cases v<;>first
   | (simp at hv;done)
   | (simp only[Sem.runT]
      cases w.cell? a with
      | some v=>cases w.frozen? a<;>rfl
      | none=>cases w.farStore P a _ (m == .atomic)<;>rfl)
 rw[hr,mask_cell]
 cases hc:w.cell? a with
 | some v0=>
   simp only
   cases hz:(mask F w).frozen? a with
   | true=>simp only[if_true];trivial
   | false=>
     obtain⟨hz1,hh⟩:=mask_frozen F w a hw hz
     have hW:=wrote_setCell w hw a v hh
     simp only[Bool.false_eq_true,if_false]
     refine⟨w.setCell a v,#[⟨.cell a,true,m == .atomic⟩],0,mask_setCell F w a v,by rw[hr,hc];simp[hz1],fun es=>by rw[he,hc];simp[hz1],fun e h=>?_,hW.grew,hW.wf,fun τ e _=>?_⟩
     ·simp only[List.mem_toArray,List.mem_singleton]at h;subst h;exact evT_write _ _ hh
     ·rw[hr,retape_mask,mask_cell]
      rw[show(retape w τ e).cell? a=w.cell? a from rfl,hc]
      rw[show(mask F (retape w τ e)).frozen? a=(mask F w).frozen? a from rfl,hz]
      rfl
 | none=>
   have hfs:∀r,(mask F w).farStore P a v (m == .atomic)= .ok r→∃b u w',w.heap[a.block]? =some (.view b u)∧r.1=mask F w'∧(mask F w).viewStore P b u a v (m == .atomic)= .ok r∧w.farStore P a v (m == .atomic)= .ok (w',r.2)∧Wrote F w w' r.2:=by
    intro r h
    unfold World.farStore at h ⊢
    rw[mask_get]at h
    cases ho:w.heap[a.block]? with
    | none=>rw[ho]at h;cases h
    | some o=>
      rw[ho]at h
      cases o<;>simp only[Option.map_some,maskObj]at h ⊢
      case view b u=>
       cases hvs:(mask F w).viewStore P b u a v (m == .atomic)with
       | error s=>rw[hvs]at h;cases h
       | ok r'=>
         rw[hvs]at h
         cases h
         obtain⟨w',h1,h2,h3⟩:=mask_viewStore w hw b u a v _ r.1 r.2 hvs
         exact⟨b,u,w',rfl,h1,hvs,by rw[h2],h3⟩
      all_goals cases h
   cases hf:(mask F w).farStore P a v (m == .atomic)with
   | error h=>
     simp only
     unfold World.farStore at hf
     split at hf
     ·split at hf<;>cases hf
      trivial
     ·cases hf;exact noCell_fine _ _ _
   | ok r=>
     obtain⟨b,u,w',ho,h1,h2,h3,hW⟩:=hfs r hf
     simp only
     refine⟨w',r.2.toArray.map (⟨.cell ·,true,m == .atomic⟩),0,h1,by rw[hr,hc];simp only[h3],fun es=>by rw[he,hc];simp only[h3],fun e h=>?_,hW.grew,hW.wf,fun τ e _=>?_⟩
     ·obtain⟨x,hx,rfl⟩:=Array.mem_map.1 h;exact evT_write _ _ (hW.free x (by simpa using hx))
     ·rw[hr,retape_mask,mask_cell]
      rw[show(retape w τ e).cell? a=w.cell? a from rfl,hc]
      have h4:(mask F (retape w τ e)).farStore P a v (m == .atomic)= .ok (retape r.1 τ e,r.2):=by
       unfold World.farStore
       rw[mask_get]
       rw[show(retape w τ e).heap[a.block]? =w.heap[a.block]? from rfl,ho]
       simp only[Option.map_some,maskObj]
       rw[← retape_mask,retape_viewStore,h2]
       rfl
      simp only[h4]
      rfl
theorem Sims.newObj(o:Obj):Sims P F (Go.newObj o):=by
 intro w hw
 refine⟨{w with heap:=w.heap.push o},#[],0,mask_push F w hw o,?_,fun es=>?_,by simp,⟨rfl,rfl,rfl,rfl,by simp,fun r o' h=>.inr ?_,fun a h=>?_⟩,⟨fun r z h=>?_⟩,fun τ e _=>?_⟩
 ·show Result.ok _ _=_;rw[mask_size]
 ·simp[Sem.events,Go.newObj,Sem.runT]
 ·have:=(Array.getElem?_eq_some_iff.1 h).1
  rw[Array.getElem?_push,if_neg (by omega)];exact h
 ·obtain⟨z,hz,_⟩:=h
  obtain⟨c,e,_,h1,_⟩:=hw.own _ _ hz
  have:=(Array.getElem?_eq_some_iff.1 h1).1
  simp only[World.cell?,Array.getElem?_push,if_neg (show ¬a.block=w.heap.size by omega)]
 ·obtain⟨c,e,z0,h1,hin⟩:=hw.own _ _ h
  have:=(Array.getElem?_eq_some_iff.1 h1).1
  exact⟨c,e,z0,by rw[Array.getElem?_push,if_neg (by omega)];exact h1,hin⟩
 ·rfl
theorem Sims.shape(r:Nat):Sims P F (Go.shape r):=by
 intro w hw
 exact⟨w,#[],0,rfl,by show Result.ok _ _=Result.ok _ _;rw[mask_shape],fun es=>by simp[Sem.events,Go.shape,Sem.runT],by simp,.refl _ _,hw,fun τ e _=>rfl⟩
theorem Sims.program:Sims P F Go.program:=by
 intro w hw
 exact⟨w,#[],0,rfl,rfl,fun es=>by simp[Sem.events,Go.program,Sem.runT],by simp,.refl _ _,hw,fun τ e _=>rfl⟩
theorem Sims.mark(m:Mark)(hm:m= .noRoom∨∃f,m= .extern f):Sims P F (Go.mark m):=by
 intro w hw
 refine⟨w,#[⟨.mark m,false,true⟩],0,rfl,rfl,fun es=>by simp[Sem.events,Go.mark,Sem.runT],fun e h=>?_,.refl _ _,hw,fun τ e _=>rfl⟩
 simp only[List.mem_toArray,List.mem_singleton]at h
 subst h
 exact⟨fun h=>by simp at h,fun m' h=>by cases h;exact hm⟩
theorem Sims.choose(q:Question):Sims P F (Go.choose q):=by
 intro w hw
 unfold SimAt
 have hr:∀w:World,(Go.choose q).run P w=if q.forced then .ok 0 w else .ok (q.cut (w.tape w.drawn q)) {w with drawn:=w.drawn+1}:=by
  intro w;simp only[Go.choose,Sem.run]
 have he:∀(w:World) es,(Go.choose q).events P w es=es:=by
  intro w es;simp only[Sem.events,Go.choose,Sem.runT];split<;>rfl
 rw[hr]
 by_cases hf:q.forced=true
 ·rw[if_pos hf]
  exact⟨w,#[],0,rfl,by rw[hr,if_pos hf],fun es=>by rw[he];simp,by simp,.refl _ _,hw,fun τ e _=>by rw[hr,if_pos hf];rfl⟩
 ·rw[if_neg hf]
  refine⟨{w with drawn:=w.drawn+1},#[],1,rfl,by rw[hr,if_neg hf];rfl,fun es=>by rw[he];simp,by simp,⟨rfl,rfl,rfl,rfl,Nat.le_refl _,fun _ _ h=>.inr h,fun _ _=>rfl⟩,⟨hw.own⟩,fun τ e ha=>?_⟩
  rw[hr,if_neg hf]
  have:=ha 0 q (by omega)
  simp only[Nat.add_zero]at this
  simp only[retape_tape,retape_drawn,this,mask_tape,mask_drawn]
  rfl
theorem Sims.getObj(r:Nat):Sims P F (Go.getObj r):=by
 intro w hw
 unfold SimAt
 have hr:∀w:World,(Go.getObj r).run P w=match w.heap[r]? with
  | some (.cells ..) => .halt (.stuck "getObj: a row of cells") w
  | some o=>.ok o w
  | none => .halt (.stuck "getObj: no such block") w := by
  intro w;simp only[Go.getObj,Sem.run]
  cases w.heap[r]? with
  | none=>rfl
  | some o=>cases o<;>rfl
 have he:∀(w:World) es,(Go.getObj r).events P w es=match w.heap[r]? with
  | some (.cells ..)=>es
  | some o=>es.push ⟨.obj r,false,o.isChan⟩
  | none=>es:=by
  intro w es;simp only[Sem.events,Go.getObj,Sem.runT]
  cases w.heap[r]? with
  | none=>rfl
  | some o=>cases o<;>rfl
 rw[hr,mask_get]
 cases ho:w.heap[r]? with
 | none=>trivial
 | some o=>
   cases o<;>simp only[Option.map_some,maskObj]
   case cells=>trivial
   all_goals
    refine⟨w,#[⟨.obj r,false,_⟩],0,rfl,by rw[hr,ho],fun es=>by rw[he,ho];exact Array.push_eq_append,fun e h=>?_,.refl _ _,hw,fun τ e _=>?_⟩
    ·simp only[List.mem_toArray,List.mem_singleton]at h;subst h;exact evT_obj _ _
    ·rw[hr,retape_mask,mask_get]
     rw[show(retape w τ e).heap[r]? =w.heap[r]? from rfl,ho]
     rfl
end
section
open Go Go.Conc
variable{P:Program}{F:Fz}{α β:Type}
theorem Sims.stuck(s:String):Sims P F (Go.stuck s:Sem α):=Sims.halt _ trivial
theorem Sims.unsupported(u:Unsupported):Sims P F (Go.unsupported u:Sem α):=Sims.halt _ trivial
theorem Sims.goPanic(v:Value):Sims P F (Go.goPanic v:Sem α):=Sims.halt _ trivial
theorem Sims.underlying(t:TypeId):Sims P F (Go.underlying t):=by unfold Go.underlying Go.stuck;(repeat'(first
 | exact Sims.pure' _|exact Sims.pure _|exact Sims.halt _ trivial
 | exact Sims.load _ _|exact Sims.store _ _ _|exact Sims.newObj _|exact Sims.shape _|exact Sims.program|exact Sims.choose _|exact Sims.getObj _|exact Sims.mark _ (.inl rfl)
 | assumption
 | with_reducible refine Sims.bind ?_ (fun _=>?_)
 | with_reducible refine Sims.map ?_
 | with_reducible refine Sims.ite (fun _=>?_) (fun _=>?_)
 | dsimp only
 | split))
theorem Sims.typeInfo(t:TypeId):Sims P F (Go.typeInfo t):=by unfold Go.typeInfo Go.stuck;(repeat'(first
 | exact Sims.pure' _|exact Sims.pure _|exact Sims.halt _ trivial
 | exact Sims.load _ _|exact Sims.store _ _ _|exact Sims.newObj _|exact Sims.shape _|exact Sims.program|exact Sims.choose _|exact Sims.getObj _|exact Sims.mark _ (.inl rfl)
 | assumption
 | with_reducible refine Sims.bind ?_ (fun _=>?_)
 | with_reducible refine Sims.map ?_
 | with_reducible refine Sims.ite (fun _=>?_) (fun _=>?_)
 | dsimp only
 | split))
theorem Sims.zeroValue(t:TypeId):Sims P F (Go.zeroValue t):=by
 unfold Go.zeroValue Go.unsupported
 refine Sims.bind (Sims.typeInfo _) (fun _=>?_)
 (repeat'(first
 | exact Sims.pure' _|exact Sims.pure _|exact Sims.halt _ trivial
 | exact Sims.load _ _|exact Sims.store _ _ _|exact Sims.newObj _|exact Sims.shape _|exact Sims.program|exact Sims.choose _|exact Sims.getObj _|exact Sims.mark _ (.inl rfl)
 | assumption
 | with_reducible refine Sims.bind ?_ (fun _=>?_)
 | with_reducible refine Sims.map ?_
 | with_reducible refine Sims.ite (fun _=>?_) (fun _=>?_)
 | dsimp only
 | split))
theorem Sims.sizeOf(t:TypeId):Sims P F (Go.sizeOf t):=by
 unfold Go.sizeOf
 refine Sims.bind (Sims.typeInfo _) (fun _=>?_)
 (repeat'(first
 | exact Sims.pure' _|exact Sims.pure _|exact Sims.halt _ trivial
 | exact Sims.load _ _|exact Sims.store _ _ _|exact Sims.newObj _|exact Sims.shape _|exact Sims.program|exact Sims.choose _|exact Sims.getObj _|exact Sims.mark _ (.inl rfl)
 | assumption
 | with_reducible refine Sims.bind ?_ (fun _=>?_)
 | with_reducible refine Sims.map ?_
 | with_reducible refine Sims.ite (fun _=>?_) (fun _=>?_)
 | dsimp only
 | split))
theorem Sims.isAgg(t:TypeId):Sims P F (Go.isAgg t):=by
 unfold Go.isAgg
 refine Sims.bind (Sims.underlying _) (fun _=>?_)
 (repeat'(first
 | exact Sims.pure' _|exact Sims.pure _|exact Sims.halt _ trivial
 | exact Sims.load _ _|exact Sims.store _ _ _|exact Sims.newObj _|exact Sims.shape _|exact Sims.program|exact Sims.choose _|exact Sims.getObj _|exact Sims.mark _ (.inl rfl)
 | assumption
 | with_reducible refine Sims.bind ?_ (fun _=>?_)
 | with_reducible refine Sims.map ?_
 | with_reducible refine Sims.ite (fun _=>?_) (fun _=>?_)
 | dsimp only
 | split))
theorem Sims.loadCellsFrom(a:Addr):∀(n i:Nat) (acc:Array Value),Sims P F (Go.loadCellsFrom a i n acc):=by
 intro n
 induction n with
 | zero=>intro i acc;exact Sims.pure _
 | succ n ih=>intro i acc;unfold Go.loadCellsFrom;exact Sims.bind (Sims.load _ _) fun _=>ih _ _
theorem Sims.loadCells(a:Addr)(n:Nat):Sims P F (Go.loadCells a n):=Sims.loadCellsFrom _ _ _ _
theorem Sims.storeCells(a:Addr):∀(vs:List Value) (i:Nat),Sims P F (Go.storeCells a vs i):=by
 intro vs
 induction vs with
 | nil=>intro i;exact Sims.pure _
 | cons v vs ih=>intro i;unfold Go.storeCells;exact Sims.bind (Sims.store _ _ _) fun _=>ih _
theorem Sims.loadVar(t:TypeId)(a:Addr):Sims P F (Go.loadVar t a):=by
 unfold Go.loadVar
 refine Sims.bind (Sims.isAgg _) (fun _=>?_)
 split
 ·exact Sims.bind (Sims.sizeOf _) fun _=>Sims.bind (Sims.loadCells _ _) fun _=>Sims.pure' _
 ·exact Sims.load _ _
theorem Sims.storeVar(t:TypeId)(a:Addr)(v:Value):Sims P F (Go.storeVar t a v):=by
 unfold Go.storeVar
 refine Sims.bind (Sims.sizeOf _) (fun _=>?_)
 have:=fun i=>Sims.storeCells (P:=P) (F:=F) a v.cells.toList i
 unfold Go.stuck
 split
 ·exact Sims.bind (Sims.halt _ trivial) fun _=>this _
 ·exact this _
theorem Sims.newRow(t:TypeId)(cs:Array Value):Sims P F (Go.newRow t cs):=by
 unfold Go.newRow;(repeat'(first
 | exact Sims.pure' _|exact Sims.pure _|exact Sims.halt _ trivial
 | exact Sims.load _ _|exact Sims.store _ _ _|exact Sims.newObj _|exact Sims.shape _|exact Sims.program|exact Sims.choose _|exact Sims.getObj _|exact Sims.mark _ (.inl rfl)
 | assumption
 | with_reducible refine Sims.bind ?_ (fun _=>?_)
 | with_reducible refine Sims.map ?_
 | with_reducible refine Sims.ite (fun _=>?_) (fun _=>?_)
 | dsimp only
 | split))
theorem Sims.newVar(t:TypeId)(v:Value):Sims P F (Go.newVar t v):=Sims.newRow _ _
theorem Sims.elemOf(t:TypeId):Sims P F (Go.elemOf t):=by
 unfold Go.elemOf Go.stuck
 refine Sims.bind (Sims.underlying _) (fun _=>?_)
 (repeat'(first
 | exact Sims.pure' _|exact Sims.pure _|exact Sims.halt _ trivial
 | exact Sims.load _ _|exact Sims.store _ _ _|exact Sims.newObj _|exact Sims.shape _|exact Sims.program|exact Sims.choose _|exact Sims.getObj _|exact Sims.mark _ (.inl rfl)
 | assumption
 | with_reducible refine Sims.bind ?_ (fun _=>?_)
 | with_reducible refine Sims.map ?_
 | with_reducible refine Sims.ite (fun _=>?_) (fun _=>?_)
 | dsimp only
 | split))
theorem Sims.part(t:TypeId)(cs:Array Value)(off:Nat):Sims P F (Go.part t cs off):=by
 unfold Go.part Go.stuck
 refine Sims.bind (Sims.isAgg _) (fun _=>?_)
 split
 ·exact Sims.bind (Sims.sizeOf _) fun _=>Sims.pure' _
 ·(repeat'(first
 | exact Sims.pure' _|exact Sims.pure _|exact Sims.halt _ trivial
 | exact Sims.load _ _|exact Sims.store _ _ _|exact Sims.newObj _|exact Sims.shape _|exact Sims.program|exact Sims.choose _|exact Sims.getObj _|exact Sims.mark _ (.inl rfl)
 | assumption
 | with_reducible refine Sims.bind ?_ (fun _=>?_)
 | with_reducible refine Sims.map ?_
 | with_reducible refine Sims.ite (fun _=>?_) (fun _=>?_)
 | dsimp only
 | split))
theorem Sims.runtimePanic(e:RuntimeError):Sims P F (Go.runtimePanic e:Sem α):=by
 unfold Go.runtimePanic Go.goPanic
 refine Sims.bind Sims.program (fun p=>?_)
 have h1:=fun t=>Sims.elemOf (P:=P) (F:=F) t
 have h2:=fun t v=>Sims.newVar (P:=P) (F:=F) t v
 cases e<;>dsimp only<;>(repeat'(first|exact Sims.halt _ trivial|exact h1 _|exact h2 _ _|with_reducible refine Sims.bind ?_ (fun _=>?_)|split))
theorem Sims.boundsPanic(k:IntKind)(x y:Int)(c:BoundsCode):Sims P F (Go.boundsPanic k x y c:Sem α):=by
 unfold Go.boundsPanic
 dsimp only
 split
 ·exact Sims.bind (Sims.map (Sims.choose _)) fun _=>Sims.runtimePanic _
 ·exact Sims.bind (Sims.pure' _) fun _=>Sims.runtimePanic _
theorem Sims.asIntOf(v:Value):Sims P F (Go.asIntOf v):=by unfold Go.asIntOf Go.stuck Go.unsupported;(repeat'(first
 | exact Sims.pure' _|exact Sims.pure _|exact Sims.halt _ trivial
 | exact Sims.load _ _|exact Sims.store _ _ _|exact Sims.newObj _|exact Sims.shape _|exact Sims.program|exact Sims.choose _|exact Sims.getObj _|exact Sims.mark _ (.inl rfl)
 | assumption
 | with_reducible refine Sims.bind ?_ (fun _=>?_)
 | with_reducible refine Sims.map ?_
 | with_reducible refine Sims.ite (fun _=>?_) (fun _=>?_)
 | dsimp only
 | split))
theorem Sims.asInt(v:Value):Sims P F (Go.asInt v):=by unfold Go.asInt;exact Sims.bind (Sims.asIntOf _) fun _=>Sims.pure' _
theorem Sims.asBool(v:Value):Sims P F (Go.asBool v):=by unfold Go.asBool Go.stuck;(repeat'(first
 | exact Sims.pure' _|exact Sims.pure _|exact Sims.halt _ trivial
 | exact Sims.load _ _|exact Sims.store _ _ _|exact Sims.newObj _|exact Sims.shape _|exact Sims.program|exact Sims.choose _|exact Sims.getObj _|exact Sims.mark _ (.inl rfl)
 | assumption
 | with_reducible refine Sims.bind ?_ (fun _=>?_)
 | with_reducible refine Sims.map ?_
 | with_reducible refine Sims.ite (fun _=>?_) (fun _=>?_)
 | dsimp only
 | split))
theorem Sims.asString(v:Value):Sims P F (Go.asString v):=by unfold Go.asString Go.stuck;(repeat'(first
 | exact Sims.pure' _|exact Sims.pure _|exact Sims.halt _ trivial
 | exact Sims.load _ _|exact Sims.store _ _ _|exact Sims.newObj _|exact Sims.shape _|exact Sims.program|exact Sims.choose _|exact Sims.getObj _|exact Sims.mark _ (.inl rfl)
 | assumption
 | with_reducible refine Sims.bind ?_ (fun _=>?_)
 | with_reducible refine Sims.map ?_
 | with_reducible refine Sims.ite (fun _=>?_) (fun _=>?_)
 | dsimp only
 | split))
theorem Sims.asAgg(v:Value):Sims P F (Go.asAgg v):=by unfold Go.asAgg Go.stuck;(repeat'(first
 | exact Sims.pure' _|exact Sims.pure _|exact Sims.halt _ trivial
 | exact Sims.load _ _|exact Sims.store _ _ _|exact Sims.newObj _|exact Sims.shape _|exact Sims.program|exact Sims.choose _|exact Sims.getObj _|exact Sims.mark _ (.inl rfl)
 | assumption
 | with_reducible refine Sims.bind ?_ (fun _=>?_)
 | with_reducible refine Sims.map ?_
 | with_reducible refine Sims.ite (fun _=>?_) (fun _=>?_)
 | dsimp only
 | split))
theorem Sims.asAddr(v:Value):Sims P F (Go.asAddr v):=by
 unfold Go.asAddr Go.stuck
 split<;>first|exact Sims.pure' _|exact Sims.runtimePanic _|exact Sims.halt _ trivial
theorem Sims.sureAddr(v:Value):Sims P F (Instr.sureAddr v):=by unfold Instr.sureAddr Go.stuck;(repeat'(first
 | exact Sims.pure' _|exact Sims.pure _|exact Sims.halt _ trivial
 | exact Sims.load _ _|exact Sims.store _ _ _|exact Sims.newObj _|exact Sims.shape _|exact Sims.program|exact Sims.choose _|exact Sims.getObj _|exact Sims.mark _ (.inl rfl)
 | assumption
 | with_reducible refine Sims.bind ?_ (fun _=>?_)
 | with_reducible refine Sims.map ?_
 | with_reducible refine Sims.ite (fun _=>?_) (fun _=>?_)
 | dsimp only
 | split))
theorem Sims.viewAt(r:Nat):Sims P F (Go.viewAt r):=by unfold Go.viewAt;(repeat'(first
 | exact Sims.pure' _|exact Sims.pure _|exact Sims.halt _ trivial
 | exact Sims.load _ _|exact Sims.store _ _ _|exact Sims.newObj _|exact Sims.shape _|exact Sims.program|exact Sims.choose _|exact Sims.getObj _|exact Sims.mark _ (.inl rfl)
 | assumption
 | with_reducible refine Sims.bind ?_ (fun _=>?_)
 | with_reducible refine Sims.map ?_
 | with_reducible refine Sims.ite (fun _=>?_) (fun _=>?_)
 | dsimp only
 | split))
theorem Sims.numberAt(r:Nat):Sims P F (Go.numberAt r):=by unfold Go.numberAt;(repeat'(first
 | exact Sims.pure' _|exact Sims.pure _|exact Sims.halt _ trivial
 | exact Sims.load _ _|exact Sims.store _ _ _|exact Sims.newObj _|exact Sims.shape _|exact Sims.program|exact Sims.choose _|exact Sims.getObj _|exact Sims.mark _ (.inl rfl)
 | assumption
 | with_reducible refine Sims.bind ?_ (fun _=>?_)
 | with_reducible refine Sims.map ?_
 | with_reducible refine Sims.ite (fun _=>?_) (fun _=>?_)
 | dsimp only
 | split))
theorem Sims.cellsIn(r:Nat):Sims P F (Go.cellsIn r):=by unfold Go.cellsIn;(repeat'(first
 | exact Sims.pure' _|exact Sims.pure _|exact Sims.halt _ trivial
 | exact Sims.load _ _|exact Sims.store _ _ _|exact Sims.newObj _|exact Sims.shape _|exact Sims.program|exact Sims.choose _|exact Sims.getObj _|exact Sims.mark _ (.inl rfl)
 | assumption
 | with_reducible refine Sims.bind ?_ (fun _=>?_)
 | with_reducible refine Sims.map ?_
 | with_reducible refine Sims.ite (fun _=>?_) (fun _=>?_)
 | dsimp only
 | split))
theorem Sims.asNumber(a:Addr)(l:Bool):Sims P F (Go.asNumber a l):=by unfold Go.asNumber;(repeat'(first
 | exact Sims.pure' _|exact Sims.pure _|exact Sims.halt _ trivial
 | exact Sims.load _ _|exact Sims.store _ _ _|exact Sims.newObj _|exact Sims.shape _|exact Sims.program|exact Sims.choose _|exact Sims.getObj _|exact Sims.mark _ (.inl rfl)
 | assumption
 | with_reducible refine Sims.bind ?_ (fun _=>?_)
 | with_reducible refine Sims.map ?_
 | with_reducible refine Sims.ite (fun _=>?_) (fun _=>?_)
 | dsimp only
 | split))
theorem Sims.behindNumber(a:Addr):Sims P F (Go.behindNumber a):=by
 unfold Go.behindNumber;exact Sims.bind (Sims.numberAt _) fun _=>Sims.pure' _
theorem Sims.noView(a:Addr):Sims P F (Go.noView a):=by
 unfold Go.noView Go.unsupported
 refine Sims.bind (Sims.viewAt _) (fun _=>?_)
 (repeat'(first
 | exact Sims.pure' _|exact Sims.pure _|exact Sims.halt _ trivial
 | exact Sims.load _ _|exact Sims.store _ _ _|exact Sims.newObj _|exact Sims.shape _|exact Sims.program|exact Sims.choose _|exact Sims.getObj _|exact Sims.mark _ (.inl rfl)
 | assumption
 | with_reducible refine Sims.bind ?_ (fun _=>?_)
 | with_reducible refine Sims.map ?_
 | with_reducible refine Sims.ite (fun _=>?_) (fun _=>?_)
 | dsimp only
 | split))
theorem Sims.byteOf(a:Addr):Sims P F (Go.byteOf a):=by
 unfold Go.byteOf Go.stuck
 have:=Sims.noView (P:=P) (F:=F) a
 (repeat'(first
 | exact Sims.pure' _|exact Sims.pure _|exact Sims.halt _ trivial
 | exact Sims.load _ _|exact Sims.store _ _ _|exact Sims.newObj _|exact Sims.shape _|exact Sims.program|exact Sims.choose _|exact Sims.getObj _|exact Sims.mark _ (.inl rfl)
 | assumption
 | with_reducible refine Sims.bind ?_ (fun _=>?_)
 | with_reducible refine Sims.map ?_
 | with_reducible refine Sims.ite (fun _=>?_) (fun _=>?_)
 | dsimp only
 | split))
theorem Sims.partAt(a:Addr)(c b:Nat):Sims P F (Go.partAt a c b):=by
 unfold Go.partAt
 refine Sims.bind (Sims.byteOf _) (fun _=>?_)
 dsimp only
 exact Sims.bind (Sims.byteOf _) fun _=>Sims.pure' _
theorem Sims.fieldPlace(a:Addr)(f:Field):Sims P F (Go.fieldPlace a f):=by
 unfold Go.fieldPlace
 refine Sims.bind (Sims.sizeOf _) (fun _=>?_)
 split
 ·exact Sims.partAt _ _ _
 ·exact Sims.pure' _
class SC (P:Program) (F:Fz) {α:Type} (m:Sem α):Prop where h:Sims P F m
instance(a:Addr)(m:Mode):SC P F (Go.load a m):=⟨Sims.load _ _⟩
instance(a:Addr)(v:Value)(m:Mode):SC P F (Go.store a v m):=⟨Sims.store _ _ _⟩
instance(o:Obj):SC P F (Go.newObj o):=⟨Sims.newObj _⟩
instance(r:Nat):SC P F (Go.shape r):=⟨Sims.shape _⟩
instance:SC P F Go.program:=⟨Sims.program⟩
instance(q:Question):SC P F (Go.choose q):=⟨Sims.choose _⟩
instance(r:Nat):SC P F (Go.getObj r):=⟨Sims.getObj _⟩
instance(s:String):SC P F (Go.stuck s:Sem α):=⟨Sims.stuck _⟩
instance(u:Unsupported):SC P F (Go.unsupported u:Sem α):=⟨Sims.unsupported _⟩
instance(v:Value):SC P F (Go.goPanic v:Sem α):=⟨Sims.goPanic _⟩
instance(e:RuntimeError):SC P F (Go.runtimePanic e:Sem α):=⟨Sims.runtimePanic _⟩
instance(k:IntKind)(x y:Int)(c:BoundsCode):SC P F (Go.boundsPanic k x y c:Sem α):=⟨Sims.boundsPanic _ _ _ _⟩
instance(t:TypeId):SC P F (Go.underlying t):=⟨Sims.underlying _⟩
instance(t:TypeId):SC P F (Go.typeInfo t):=⟨Sims.typeInfo _⟩
instance(t:TypeId):SC P F (Go.zeroValue t):=⟨Sims.zeroValue _⟩
instance(t:TypeId):SC P F (Go.sizeOf t):=⟨Sims.sizeOf _⟩
instance(t:TypeId):SC P F (Go.isAgg t):=⟨Sims.isAgg _⟩
instance(t:TypeId):SC P F (Go.elemOf t):=⟨Sims.elemOf _⟩
instance(a:Addr)(n:Nat):SC P F (Go.loadCells a n):=⟨Sims.loadCells _ _⟩
instance(a:Addr)(vs:List Value)(i:Nat):SC P F (Go.storeCells a vs i):=⟨.storeCells a vs i⟩
instance(t:TypeId)(a:Addr):SC P F (Go.loadVar t a):=⟨Sims.loadVar _ _⟩
instance(t:TypeId)(a:Addr)(v:Value):SC P F (Go.storeVar t a v):=⟨Sims.storeVar _ _ _⟩
instance(t:TypeId)(cs:Array Value):SC P F (Go.newRow t cs):=⟨Sims.newRow _ _⟩
instance(t:TypeId)(v:Value):SC P F (Go.newVar t v):=⟨Sims.newVar _ _⟩
instance(t:TypeId)(cs:Array Value)(off:Nat):SC P F (Go.part t cs off):=⟨Sims.part _ _ _⟩
instance(v:Value):SC P F (Go.asIntOf v):=⟨Sims.asIntOf _⟩
instance(v:Value):SC P F (Go.asInt v):=⟨Sims.asInt _⟩
instance(v:Value):SC P F (Go.asBool v):=⟨Sims.asBool _⟩
instance(v:Value):SC P F (Go.asString v):=⟨Sims.asString _⟩
instance(v:Value):SC P F (Go.asAgg v):=⟨Sims.asAgg _⟩
instance(v:Value):SC P F (Go.asAddr v):=⟨Sims.asAddr _⟩
instance(v:Value):SC P F (Instr.sureAddr v):=⟨Sims.sureAddr _⟩
instance(r:Nat):SC P F (Go.viewAt r):=⟨Sims.viewAt _⟩
instance(r:Nat):SC P F (Go.numberAt r):=⟨Sims.numberAt _⟩
instance(r:Nat):SC P F (Go.cellsIn r):=⟨Sims.cellsIn _⟩
instance(a:Addr)(l:Bool):SC P F (Go.asNumber a l):=⟨Sims.asNumber _ _⟩
instance(a:Addr):SC P F (Go.behindNumber a):=⟨Sims.behindNumber _⟩
instance(a:Addr):SC P F (Go.noView a):=⟨Sims.noView _⟩
instance(a:Addr):SC P F (Go.byteOf a):=⟨Sims.byteOf _⟩
instance(a:Addr)(c b:Nat):SC P F (Go.partAt a c b):=⟨Sims.partAt _ _ _⟩
instance(a:Addr)(f:Field):SC P F (Go.fieldPlace a f):=⟨Sims.fieldPlace _ _⟩
end
section
open Go Go.Conc
variable{P:Program}{F:Fz}{α β γ:Type}
theorem Sims.mapMList{f:α→Sem β}(hf:∀a,Sims P F (f a)):∀l:List α,Sims P F (l.mapM f):=by
 intro l
 induction l with
 | nil=>rw[List.mapM_nil];exact Sims.pure' _
 | cons x l ih=>rw[List.mapM_cons];exact Sims.bind (hf x) fun _=>Sims.bind ih fun _=>Sims.pure' _
theorem Sims.mapMArray{f:α→Sem β}(hf:∀a,Sims P F (f a))(l:Array α):Sims P F (l.mapM f):=by
 rw[Array.mapM_eq_mapM_toList];exact Sims.map (Sims.mapMList hf _)
theorem Sims.foldlMList{f:γ→α→Sem γ}(hf:∀c a,Sims P F (f c a)):∀(l:List α) (c:γ),Sims P F (l.foldlM f c):=by
 intro l
 induction l with
 | nil=>intro c;exact Sims.pure' _
 | cons x l ih=>intro c;rw[List.foldlM_cons];exact Sims.bind (hf c x) fun c'=>ih c'
theorem Sims.alloc(e:TypeId)(v:Value):Sims P F (Instr.alloc e true v):=by
 unfold Instr.alloc;(repeat'(first
 | exact Sims.pure' _|exact Sims.pure _|exact Sims.halt _ trivial|exact SC.h
 | (with_reducible first|exact Sims.mark _ (.inl rfl))
 | assumption
 | with_reducible refine Sims.bind ?_ (fun _=>?_)
 | with_reducible refine Sims.map ?_
 | with_reducible refine Sims.ite (fun _=>?_) (fun _=>?_)
 | dsimp only
 | split))
theorem Sims.box(e:TypeId)(v:Value):Sims P F (Instr.box e v):=by
 unfold Instr.box;(repeat'(first
 | exact Sims.pure' _|exact Sims.pure _|exact Sims.halt _ trivial|exact SC.h
 | (with_reducible first|exact Sims.mark _ (.inl rfl))
 | assumption
 | with_reducible refine Sims.bind ?_ (fun _=>?_)
 | with_reducible refine Sims.map ?_
 | with_reducible refine Sims.ite (fun _=>?_) (fun _=>?_)
 | dsimp only
 | split))
theorem Sims.build(t:TypeId)(parts:Array (Nat×Value)):Sims P F (Instr.build t parts):=by
 unfold Instr.build
 refine Sims.bind (Sims.zeroValue _) (fun _=>?_)
 dsimp only
 refine Sims.bind (Sims.underlying _) (fun d=>?_)
 cases d<;>dsimp only<;>first
  | exact Sims.stuck _
  | (refine Sims.bind (Sims.mapMArray (fun f=>Sims.bind (Sims.sizeOf _) fun _=>Sims.pure' _) _) (fun _=>?_);(repeat'(first
 | exact Sims.pure' _|exact Sims.pure _|exact Sims.halt _ trivial|exact SC.h
 | (with_reducible first|exact Sims.mark _ (.inl rfl))
 | assumption
 | with_reducible refine Sims.bind ?_ (fun _=>?_)
 | with_reducible refine Sims.map ?_
 | with_reducible refine Sims.ite (fun _=>?_) (fun _=>?_)
 | dsimp only
 | split));done)
   | ((repeat'(first
 | exact Sims.pure' _|exact Sims.pure _|exact Sims.halt _ trivial|exact SC.h
 | (with_reducible first|exact Sims.mark _ (.inl rfl))
 | assumption
 | with_reducible refine Sims.bind ?_ (fun _=>?_)
 | with_reducible refine Sims.map ?_
 | with_reducible refine Sims.ite (fun _=>?_) (fun _=>?_)
 | dsimp only
 | split));done)
theorem Sims.buildSlice(t:TypeId)(n:Nat)(parts:Array (Nat×Value)):Sims P F (Instr.buildSlice t n parts):=by
 unfold Instr.buildSlice;(repeat'(first
 | exact Sims.pure' _|exact Sims.pure _|exact Sims.halt _ trivial|exact SC.h
 | (with_reducible first|exact Sims.mark _ (.inl rfl))
 | assumption
 | with_reducible refine Sims.bind ?_ (fun _=>?_)
 | with_reducible refine Sims.map ?_
 | with_reducible refine Sims.ite (fun _=>?_) (fun _=>?_)
 | dsimp only
 | split))
theorem Sims.loadAt(t:TypeId)(v:Value):Sims P F (Instr.loadAt t v):=by
 unfold Instr.loadAt;(repeat'(first
 | exact Sims.pure' _|exact Sims.pure _|exact Sims.halt _ trivial|exact SC.h
 | (with_reducible first|exact Sims.mark _ (.inl rfl))
 | assumption
 | with_reducible refine Sims.bind ?_ (fun _=>?_)
 | with_reducible refine Sims.map ?_
 | with_reducible refine Sims.ite (fun _=>?_) (fun _=>?_)
 | dsimp only
 | split))
theorem Sims.storeAt(t:TypeId)(a v:Value):Sims P F (Instr.storeAt t a v):=by
 unfold Instr.storeAt;(repeat'(first
 | exact Sims.pure' _|exact Sims.pure _|exact Sims.halt _ trivial|exact SC.h
 | (with_reducible first|exact Sims.mark _ (.inl rfl))
 | assumption
 | with_reducible refine Sims.bind ?_ (fun _=>?_)
 | with_reducible refine Sims.map ?_
 | with_reducible refine Sims.ite (fun _=>?_) (fun _=>?_)
 | dsimp only
 | split))
theorem Sims.makeInterface(t:TypeId)(v:Value):Sims P F (Instr.makeInterface t v):=by
 unfold Instr.makeInterface;(repeat'(first
 | exact Sims.pure' _|exact Sims.pure _|exact Sims.halt _ trivial|exact SC.h
 | (with_reducible first|exact Sims.mark _ (.inl rfl))
 | assumption
 | with_reducible refine Sims.bind ?_ (fun _=>?_)
 | with_reducible refine Sims.map ?_
 | with_reducible refine Sims.ite (fun _=>?_) (fun _=>?_)
 | dsimp only
 | split))
theorem Sims.makeFunc(f:Fn)(a b:Array Value):Sims P F (Instr.makeFunc f a b):=Sims.pure' _
theorem Sims.askRoom(n:Nat):Sims P F (Go.askRoom n):=by
 unfold Go.askRoom;(repeat'(first
 | exact Sims.pure' _|exact Sims.pure _|exact Sims.halt _ trivial|exact SC.h
 | (with_reducible first|exact Sims.mark _ (.inl rfl))
 | assumption
 | with_reducible refine Sims.bind ?_ (fun _=>?_)
 | with_reducible refine Sims.map ?_
 | with_reducible refine Sims.ite (fun _=>?_) (fun _=>?_)
 | dsimp only
 | split))
theorem Sims.makeSlice(t:TypeId)(l c:Value):Sims P F (Instr.makeSlice t l c):=by
 unfold Instr.makeSlice
 have:=fun n=>Sims.askRoom (P:=P) (F:=F) n
 refine Sims.bind (Sims.underlying _) (fun d=>?_)
 cases d<;>dsimp only<;>first
  | exact Sims.stuck _
  | skip
 iterate 2 refine Sims.bind (Sims.asInt _) (fun _=>?_)
 refine Sims.bind (Sims.typeInfo _) (fun _=>?_)
 (repeat'(first
 | exact Sims.pure' _|exact Sims.pure _|exact Sims.halt _ trivial|exact SC.h
 | (with_reducible first|exact Sims.mark _ (.inl rfl))
 | assumption
 | with_reducible refine Sims.bind ?_ (fun _=>?_)
 | with_reducible refine Sims.map ?_
 | with_reducible refine Sims.ite (fun _=>?_) (fun _=>?_)
 | dsimp only
 | split))
 all_goals exact this _
theorem Sims.sliceBound(v:Value)(y:Nat)(c:BoundsCode):Sims P F (Instr.sliceBound v y c):=by
 unfold Instr.sliceBound;(repeat'(first
 | exact Sims.pure' _|exact Sims.pure _|exact Sims.halt _ trivial|exact SC.h
 | (with_reducible first|exact Sims.mark _ (.inl rfl))
 | assumption
 | with_reducible refine Sims.bind ?_ (fun _=>?_)
 | with_reducible refine Sims.map ?_
 | with_reducible refine Sims.ite (fun _=>?_) (fun _=>?_)
 | dsimp only
 | split))
theorem Sims.sliceBounds(b:Bool)(l c:Nat)(x y z:Option Value):Sims P F (Instr.sliceBounds b l c x y z):=by
 unfold Instr.sliceBounds
 have:=fun v y c=>Sims.sliceBound (P:=P) (F:=F) v y c
 (repeat'(first
 | exact Sims.pure' _|exact Sims.pure _|exact Sims.halt _ trivial|exact SC.h
 | (with_reducible first|exact Sims.mark _ (.inl rfl))
 | assumption
 | with_reducible refine Sims.bind ?_ (fun _=>?_)
 | with_reducible refine Sims.map ?_
 | with_reducible refine Sims.ite (fun _=>?_) (fun _=>?_)
 | dsimp only
 | split))
 all_goals exact this _ _ _
theorem Sims.slice(t:TypeId)(v:Value)(x y z:Option Value):Sims P F (Instr.slice t v x y z):=by
 unfold Instr.slice
 have hb:=fun b l c x y z=>Sims.sliceBounds (P:=P) (F:=F) b l c x y z
 refine Sims.bind (Sims.underlying _) (fun d=>?_)
 (repeat'(first
 | exact Sims.pure' _|exact Sims.pure _|exact Sims.halt _ trivial|exact SC.h
 | (with_reducible first|exact Sims.mark _ (.inl rfl))
 | assumption
 | with_reducible refine Sims.bind ?_ (fun _=>?_)
 | with_reducible refine Sims.map ?_
 | with_reducible refine Sims.ite (fun _=>?_) (fun _=>?_)
 | dsimp only
 | split))
 all_goals exact hb _ _ _ _ _ _
theorem Sims.sliceAt(t:TypeId)(v:Value)(x y z:Option Value):Sims P F (Instr.sliceAt t v x y z):=by
 unfold Instr.sliceAt
 have hb:=fun b l c x y z=>Sims.sliceBounds (P:=P) (F:=F) b l c x y z
 refine Sims.bind (Sims.underlying _) (fun d=>?_)
 cases d<;>dsimp only<;>first
  | exact Sims.slice _ _ _ _ _
  | (refine Sims.bind (Sims.sureAddr _) (fun _=>Sims.bind (hb _ _ _ _ _ _) fun _=>Sims.bind (Sims.sizeOf _) fun _=>Sims.pure' _))
theorem Sims.fieldAt(t:TypeId)(v:Value)(n:Nat):Sims P F (Instr.fieldAt t v n):=by
 unfold Instr.fieldAt;(repeat'(first
 | exact Sims.pure' _|exact Sims.pure _|exact Sims.halt _ trivial|exact SC.h
 | (with_reducible first|exact Sims.mark _ (.inl rfl))
 | assumption
 | with_reducible refine Sims.bind ?_ (fun _=>?_)
 | with_reducible refine Sims.map ?_
 | with_reducible refine Sims.ite (fun _=>?_) (fun _=>?_)
 | dsimp only
 | split))
theorem Sims.field(t:TypeId)(v:Value)(n:Nat):Sims P F (Instr.field t v n):=by
 unfold Instr.field;(repeat'(first
 | exact Sims.pure' _|exact Sims.pure _|exact Sims.halt _ trivial|exact SC.h
 | (with_reducible first|exact Sims.mark _ (.inl rfl))
 | assumption
 | with_reducible refine Sims.bind ?_ (fun _=>?_)
 | with_reducible refine Sims.map ?_
 | with_reducible refine Sims.ite (fun _=>?_) (fun _=>?_)
 | dsimp only
 | split))
theorem Sims.indexAt(t:TypeId)(v i:Value):Sims P F (Instr.indexAt t v i):=by
 unfold Instr.indexAt;(repeat'(first
 | exact Sims.pure' _|exact Sims.pure _|exact Sims.halt _ trivial|exact SC.h
 | (with_reducible first|exact Sims.mark _ (.inl rfl))
 | assumption
 | with_reducible refine Sims.bind ?_ (fun _=>?_)
 | with_reducible refine Sims.map ?_
 | with_reducible refine Sims.ite (fun _=>?_) (fun _=>?_)
 | dsimp only
 | split))
theorem Sims.index(t:TypeId)(v i:Value):Sims P F (Instr.index t v i):=by
 unfold Instr.index;(repeat'(first
 | exact Sims.pure' _|exact Sims.pure _|exact Sims.halt _ trivial|exact SC.h
 | (with_reducible first|exact Sims.mark _ (.inl rfl))
 | assumption
 | with_reducible refine Sims.bind ?_ (fun _=>?_)
 | with_reducible refine Sims.map ?_
 | with_reducible refine Sims.ite (fun _=>?_) (fun _=>?_)
 | dsimp only
 | split))
theorem Sims.extract(v:Value)(n:Nat):Sims P F (Instr.extract v n):=by
 unfold Instr.extract;(repeat'(first
 | exact Sims.pure' _|exact Sims.pure _|exact Sims.halt _ trivial|exact SC.h
 | (with_reducible first|exact Sims.mark _ (.inl rfl))
 | assumption
 | with_reducible refine Sims.bind ?_ (fun _=>?_)
 | with_reducible refine Sims.map ?_
 | with_reducible refine Sims.ite (fun _=>?_) (fun _=>?_)
 | dsimp only
 | split))
end
section
open Go Go.Conc
variable{P:Program}{F:Fz}{α β γ:Type}
def HaltsFine(P:Program)(s:Sem α):Prop:=∀w h u,s.run P w= .halt h u→Fine h
def Dead(P:Program)(s:Sem α):Prop:=∀w,∃h u,s.run P w= .halt h u∧Fine h
theorem HaltsFine.pure(a:α):HaltsFine P (Pure.pure a:Sem α):=by intro w h u e;cases e
theorem HaltsFine.frozen(a:Addr):HaltsFine P (Go.frozen a):=by intro w h u e;cases e
theorem HaltsFine.shape(r:Nat):HaltsFine P (Go.shape r):=by intro w h u e;cases e
theorem HaltsFine.mark(m:Mark):HaltsFine P (Go.mark m):=by intro w h u e;cases e
theorem HaltsFine.bind{s:Sem α}{f:α→Sem β}(hs:HaltsFine P s)(hf:∀a,HaltsFine P (f a)):HaltsFine P (s >>= f):=by
 intro w h u e
 rw[Sem.run_bind]at e
 cases hr:s.run P w with
 | ok a w'=>rw[hr]at e;exact hf a w' h u e
 | halt h' w'=>rw[hr]at e;cases e;exact hs w h u hr
theorem Dead.bind{s:Sem α}{f:α→Sem β}(hs:HaltsFine P s)(hf:∀a,Dead P (f a)):Dead P (s >>= f):=by
 intro w
 rw[Sem.run_bind]
 cases hr:s.run P w with
 | ok a w'=>exact hf a w'
 | halt h' w'=>exact⟨h',w',rfl,hs w h' w' hr⟩
theorem Dead.unsupported(u:Unsupported):Dead P (Go.unsupported u:Sem α):=fun w=>⟨_,w,rfl,trivial⟩
theorem Sims.of_dead{s:Sem α}(h:Dead P s):Sims P F s:=by
 intro w hw
 obtain⟨h',u,hr,hf⟩:=h (mask F w)
 unfold SimAt
 rw[hr];exact hf
theorem mask_none(hF:∀r,F r=none)(w:World):mask F w=w:=by
 have e:∀r o,maskObj F r o=o:=by intro r o;cases o<;>simp[maskObj,hF]
 have:w.heap.mapIdx (maskObj F)=w.heap:=by
  apply Array.ext_getElem?
  intro i
  simp only[Array.getElem?_mapIdx,show maskObj F i=id from funext (e i),Option.map_id,id]
 unfold mask;rw[this]
theorem Sims.frozen(hF:∀r,F r=none)(a:Addr):Sims P F (Go.frozen a):=by
 intro w hw
 unfold SimAt
 rw[mask_none hF]
 exact⟨w,#[],0,(mask_none hF w).symm,rfl,fun es=>by simp[Sem.events,Go.frozen,Sem.runT],by simp,.refl _ _,hw,fun τ e _=>rfl⟩
def SimF(P:Program)(F:Fz)(s:Sem Bool):Prop:=∀w,Wf F w→(∃u,s.run P (mask F w)= .ok true u)∨SimAt P F s w
theorem SimF.frozen(a:Addr):SimF P F (Go.frozen a):=by
 intro w hw
 cases hz:(mask F w).frozen? a with
 | true=>exact .inl ⟨mask F w,by show Result.ok _ _=_;rw[hz]⟩
 | false=>
   right
   obtain⟨h1,_⟩:=mask_frozen F w a hw hz
   have hr:∀w:World,(Go.frozen a).run P w= .ok (w.frozen? a) w:=fun _=>rfl
   unfold SimAt
   rw[hr,hz]
   refine⟨w,#[],0,rfl,by rw[hr,h1],fun es=>by simp[Sem.events,Go.frozen,Sem.runT],by simp,.refl _ _,hw,fun τ e _=>?_⟩
   rw[hr]
   rw[show(retape (mask F w) τ e).frozen? a=(mask F w).frozen? a from rfl,hz]
   rfl
theorem SimF.bind{s:Sem α}{f:α→Sem Bool}(hs:Sims P F s)(hf:∀a,SimF P F (f a)):SimF P F (s >>= f):=by
 intro w hw
 have h1:=hs w hw
 cases hr:s.run P (mask F w)with
 | halt h u=>
   right
   unfold SimAt at h1 ⊢
   rw[Sem.run_bind,hr]
   rw[hr]at h1
   exact h1
 | ok a u=>
   obtain⟨w1,es1,j1,rfl,r1,e1,t1,g1,hw1,l1⟩:=h1.ok hr
   rcases hf a w1 hw1 with⟨u,h2⟩|h2
   ·exact .inl ⟨u,by rw[Sem.run_bind,hr];exact h2⟩
   ·right
    unfold SimAt at h2 ⊢
    rw[Sem.run_bind,hr]
    simp only[Result.andThen_ok]
    cases hr2:(f a).run P (mask F w1)with
    | halt h u=>rw[hr2]at h2;exact h2
    | ok b u=>
      rw[hr2]at h2
      obtain⟨w2,es2,j2,rfl,r2,e2,t2,g2,hw2,l2⟩:=h2
      refine⟨w2,es1++es2,j1+j2,rfl,by rw[Sem.run_bind,r1];exact r2,fun es₀=>?_,?_,g1.trans g2,hw2,fun τ e ha=>?_⟩
      ·rw[Sem.events_bind,r1,e1];simp only[Result.evThen_ok];rw[e2,Array.append_assoc]
      ·intro x hx
       rcases Array.mem_append.1 hx with h|h
       ·exact t1 x h
       ·exact t2 x h
      ·rw[Sem.run_bind,l1 τ e (fun i q hi=>ha i q (by omega))]
       simp only[Result.andThen_ok]
       rw[l2 τ (e+j1) (fun i q hi=>?_)]
       ·rw[Nat.add_assoc]
       ·have:=ha (j1+i) q (by omega)
        rw[g1.tape,g1.drawn,Nat.add_assoc,Nat.add_assoc]
        exact this
theorem SimF.guard{s:Sem Bool}{f:Bool→Sem α}(hs:SimF P F s)(hd:Dead P (f true))(hf:Sims P F (f false)):Sims P F (s >>= f):=by
 intro w hw
 rcases hs w hw with⟨u,h⟩|h
 ·unfold SimAt
  rw[Sem.run_bind,h]
  simp only[Result.andThen_ok]
  obtain⟨h',u',hr,hfine⟩:=hd u
  rw[hr];exact hfine
 ·have h1:∀b,Sims P F (f b):=by intro b;cases b;exact hf;exact Sims.of_dead hd
  have hb:=h
  unfold SimAt at h ⊢
  rw[Sem.run_bind]
  cases hr:s.run P (mask F w)with
  | halt h' u=>rw[hr]at h;exact h
  | ok a u=>
    rw[hr]at h
    obtain⟨w1,es1,j1,rfl,r1,e1,t1,g1,hw1,l1⟩:=h
    simp only[Result.andThen_ok]
    have h2:=h1 a w1 hw1
    unfold SimAt at h2
    cases hr2:(f a).run P (mask F w1)with
    | halt h u=>rw[hr2]at h2;exact h2
    | ok b u=>
      rw[hr2]at h2
      obtain⟨w2,es2,j2,rfl,r2,e2,t2,g2,hw2,l2⟩:=h2
      refine⟨w2,es1++es2,j1+j2,rfl,by rw[Sem.run_bind,r1];exact r2,fun es₀=>?_,?_,g1.trans g2,hw2,fun τ e ha=>?_⟩
      ·rw[Sem.events_bind,r1,e1];simp only[Result.evThen_ok];rw[e2,Array.append_assoc]
      ·intro x hx
       rcases Array.mem_append.1 hx with h|h
       ·exact t1 x h
       ·exact t2 x h
      ·rw[Sem.run_bind,l1 τ e (fun i q hi=>ha i q (by omega))]
       simp only[Result.andThen_ok]
       rw[l2 τ (e+j1) (fun i q hi=>?_)]
       ·rw[Nat.add_assoc]
       ·have:=ha (j1+i) q (by omega)
        rw[g1.tape,g1.drawn,Nat.add_assoc,Nat.add_assoc]
        exact this
theorem Sims.stringish(hF:∀r,F r=none)(a:Addr):Sims P F (Go.stringish a):=by
 unfold Go.stringish
 have:=fun x=>Sims.frozen (P:=P) (F:=F) hF x
 refine Sims.bind (this _) fun _=>?_
 split
 ·exact Sims.pure' _
 ·refine Sims.bind (Sims.shape _) fun _=>?_
  split<;>first|exact this _|exact Sims.pure' _
theorem Sims.mayBeOne(hF:∀r,F r=none)(a b:Addr):Sims P F (Go.mayBeOne a b):=by
 unfold Go.mayBeOne
 refine Sims.bind (Sims.stringish hF _) fun _=>Sims.bind (Sims.stringish hF _) fun _=>?_
 (repeat'(first
 | exact Sims.pure' _|exact Sims.pure _|exact Sims.halt _ trivial|exact SC.h
 | (with_reducible first|exact Sims.mark _ (.inl rfl))
 | assumption
 | with_reducible refine Sims.bind ?_ (fun _=>?_)
 | with_reducible refine Sims.map ?_
 | with_reducible refine Sims.ite (fun _=>?_) (fun _=>?_)
 | dsimp only
 | split))
theorem Sims.sameAddr(hF:∀r,F r=none)(a b:Addr):Sims P F (Go.sameAddr a b):=by
 unfold Go.sameAddr
 have h1:=fun x=>Sims.frozen (P:=P) (F:=F) hF x
 have h2:=Sims.mayBeOne (P:=P) hF a b
 dsimp only
 split
 ·exact Sims.pure' _
 ·refine Sims.bind (h1 _) fun _=>Sims.bind (h1 _) fun _=>?_
  (repeat'(first
 | exact Sims.pure' _|exact Sims.pure _|exact Sims.halt _ trivial|exact SC.h
 | (with_reducible first|exact Sims.mark _ (.inl rfl))
 | assumption
 | with_reducible refine Sims.bind ?_ (fun _=>?_)
 | with_reducible refine Sims.map ?_
 | with_reducible refine Sims.ite (fun _=>?_) (fun _=>?_)
 | dsimp only
 | split))
theorem Sims.samePointer(hF:∀r,F r=none)(a b:Option Addr):Sims P F (Go.samePointer a b):=by
 unfold Go.samePointer
 split
 ·exact Sims.sameAddr hF _ _
 ·exact Sims.pure' _
end
section
open Go Go.Conc
variable{P:Program}{F:Fz}{α β γ:Type}
theorem Sims.congr{s s':Sem α}(hr:∀w,s.run P w=s'.run P w)(he:∀w es,s.events P w es=s'.events P w es)(h:Sims P F s'):Sims P F s:=by
 intro w hw
 have h1:=h w hw
 unfold SimAt at h1 ⊢
 rw[hr]
 cases hc:s'.run P (mask F w)with
 | halt h u=>rw[hc]at h1;exact h1
 | ok v u=>
   rw[hc]at h1
   obtain⟨w',es,j,h2,h3,h4,h5,h6,h7,h8⟩:=h1
   exact⟨w',es,j,h2,by rw[hr];exact h3,fun e=>by rw[he];exact h4 e,h5,h6,h7,fun τ e ha=>by rw[hr];exact h8 τ e ha⟩
theorem Sims.bindUnderlying{t:TypeId}{d:TypeDesc}{f:TypeDesc→Sem β}(h:P.underlying t=some d)(hf:Sims P F (f d)):Sims P F (Go.underlying t >>= f):=by
 have hr:∀w,(Go.underlying t).run P w= .ok d w:=by
  intro w;simp[Go.underlying,Go.program,Sem.run,h]
 have he:∀w es,(Go.underlying t).events P w es=es:=by
  intro w es
  have : Go.underlying t = Sem.program (fun p => (match p.underlying t with | some d => Sem.pure d | none => Go.stuck "no such type" : Sem TypeDesc)) := rfl
  rw[this];simp only[Sem.events,Sem.runT,h]
 exact Sims.congr (s':=f d) (fun w=>by rw[Sem.run_bind,hr];rfl) (fun w es=>by rw[Sem.events_bind,hr];simp only[Result.evThen_ok];rw[he]) hf
def okd(px:Bool):TypeDesc→Bool
 | .bool| .int _| .float _| .complex _| .string| .chan _ _| .slice _| .map _ _| .func _ _ _=>true
 | .pointer _| .unsafePointer=>px
 | _=>false
def eqType(P:Program)(px:Bool)(t:TypeId):Bool:=((P.underlying t).map (okd px)).getD false
def nilOperand:Operand→Bool
 | .const (.pointer none)| .const .nilIface=>true
 | _=>false
def nild:TypeDesc→Bool
 | .pointer _| .unsafePointer| .interface _=>true
 | _=>false
def nilType(P:Program)(t:TypeId):Bool:=((P.underlying t).map nild).getD false
theorem Sims.equal (px : Bool) (hpx : px = true → ∀ r, F r = none) (t : TypeId) (x y : Value) (h : eqType P px t = true) : Sims P F (Op.equal t x y) := by
  unfold Op.equal Op.maxDepth
  rw [show (10000 : Nat) = 9999 + 1 from rfl]
  unfold Op.equalIn
  unfold eqType at h
  cases hd : P.underlying t with
  | none => rw [hd] at h; cases h
  | some d =>
    rw [hd] at h
    simp only [Option.map_some, Option.getD_some] at h
    refine Sims.bindUnderlying hd ?_
    have hsa : (px = true) → ∀ a b, Sims P F (Go.sameAddr a b) := fun hp a b => Sims.sameAddr (hpx hp) a b
    have hsp : (px = true) → ∀ a b, Sims P F (Go.samePointer a b) := fun hp a b => Sims.samePointer (hpx hp) a b
    clear hd
    split
    all_goals first
      | exact Sims.pure' _
      | exact Sims.stuck _
      | exact Sims.unsupported _
      | (exfalso; simp [okd] at h; done)
      | exact hsp h _ _
      | (refine Sims.bind (Sims.sizeOf _) fun _ => ?_
         split
         · exact hsa h _ _
         · split
           · exact Sims.pure' _
           · exact Sims.bind (Sims.choose _) fun _ => Sims.pure' _)
      | ((repeat' (first
  | exact Sims.pure' _ | exact Sims.pure _ | exact Sims.halt _ trivial | exact SC.h
  | (with_reducible first | exact Sims.mark _ (.inl rfl))
  | assumption
  | with_reducible refine Sims.bind ?_ (fun _ => ?_)
  | with_reducible refine Sims.map ?_
  | with_reducible refine Sims.ite (fun _ => ?_) (fun _ => ?_)
  | dsimp only
  | split)); done)
      | skip
theorem Sims.equalNil (t : TypeId) (x y : Value) (h : nilType P t = true) (hn : (y = .pointer none ∨ y = .nilIface) ∨ (x = .pointer none ∨ x = .nilIface)) : Sims P F (Op.equal t x y) := by
  unfold Op.equal Op.maxDepth
  rw [show (10000 : Nat) = 9999 + 1 from rfl]
  unfold Op.equalIn
  unfold nilType at h
  cases hd : P.underlying t with
  | none => rw [hd] at h; cases h
  | some d =>
    rw [hd] at h
    simp only [Option.map_some, Option.getD_some] at h
    refine Sims.bindUnderlying hd ?_
    clear hd
    split
    all_goals first
      | exact Sims.pure' _
      | exact Sims.stuck _
      | exact Sims.unsupported _
      | (exfalso; simp [nild] at h; done)
      | (exfalso; simp at hn; done)
      | (unfold Go.samePointer; split <;> first | exact Sims.pure' _ | (exfalso; simp at hn; done))
      | ((repeat' (first
  | exact Sims.pure' _ | exact Sims.pure _ | exact Sims.halt _ trivial | exact SC.h
  | (with_reducible first | exact Sims.mark _ (.inl rfl))
  | assumption
  | with_reducible refine Sims.bind ?_ (fun _ => ?_)
  | with_reducible refine Sims.map ?_
  | with_reducible refine Sims.ite (fun _ => ?_) (fun _ => ?_)
  | dsimp only
  | split)); done)
      | skip
end
section
open Go Go.Conc
variable{P:Program}{F:Fz}{α β γ:Type}
def isEq:BinOp→Bool
 | .eql| .neq=>true
 | _=>false
theorem Sims.intArith(op:BinOp)(k:IntKind)(x y:Int):Sims P F (Op.intArith op k x y):=by unfold Op.intArith;(repeat'(first
 | exact Sims.pure' _|exact Sims.pure _|exact Sims.halt _ trivial|exact SC.h
 | (with_reducible first|exact Sims.mark _ (.inl rfl))
 | assumption
 | with_reducible refine Sims.bind ?_ (fun _=>?_)
 | with_reducible refine Sims.map ?_
 | with_reducible refine Sims.ite (fun _=>?_) (fun _=>?_)
 | dsimp only
 | split))
theorem Sims.intDiv(op:BinOp)(k:IntKind)(x y:Int):Sims P F (Op.intDiv op k x y):=by unfold Op.intDiv;(repeat'(first
 | exact Sims.pure' _|exact Sims.pure _|exact Sims.halt _ trivial|exact SC.h
 | (with_reducible first|exact Sims.mark _ (.inl rfl))
 | assumption
 | with_reducible refine Sims.bind ?_ (fun _=>?_)
 | with_reducible refine Sims.map ?_
 | with_reducible refine Sims.ite (fun _=>?_) (fun _=>?_)
 | dsimp only
 | split))
theorem Sims.intBits(op:BinOp)(k:IntKind)(x y:Int):Sims P F (Op.intBits op k x y):=by unfold Op.intBits;(repeat'(first
 | exact Sims.pure' _|exact Sims.pure _|exact Sims.halt _ trivial|exact SC.h
 | (with_reducible first|exact Sims.mark _ (.inl rfl))
 | assumption
 | with_reducible refine Sims.bind ?_ (fun _=>?_)
 | with_reducible refine Sims.map ?_
 | with_reducible refine Sims.ite (fun _=>?_) (fun _=>?_)
 | dsimp only
 | split))
theorem Sims.shift(op:BinOp)(k:IntKind)(x:Int)(k':IntKind)(y:Int):Sims P F (Op.shift op k x k' y):=by unfold Op.shift;(repeat'(first
 | exact Sims.pure' _|exact Sims.pure _|exact Sims.halt _ trivial|exact SC.h
 | (with_reducible first|exact Sims.mark _ (.inl rfl))
 | assumption
 | with_reducible refine Sims.bind ?_ (fun _=>?_)
 | with_reducible refine Sims.map ?_
 | with_reducible refine Sims.ite (fun _=>?_) (fun _=>?_)
 | dsimp only
 | split))
theorem Sims.intCmp(op:BinOp)(x y:Int):Sims P F (Op.intCmp op x y):=by unfold Op.intCmp;(repeat'(first
 | exact Sims.pure' _|exact Sims.pure _|exact Sims.halt _ trivial|exact SC.h
 | (with_reducible first|exact Sims.mark _ (.inl rfl))
 | assumption
 | with_reducible refine Sims.bind ?_ (fun _=>?_)
 | with_reducible refine Sims.map ?_
 | with_reducible refine Sims.ite (fun _=>?_) (fun _=>?_)
 | dsimp only
 | split))
theorem Sims.floatArith(op:BinOp)(k:FloatKind)(x y:Nat):Sims P F (Op.floatArith op k x y):=by unfold Op.floatArith;(repeat'(first
 | exact Sims.pure' _|exact Sims.pure _|exact Sims.halt _ trivial|exact SC.h
 | (with_reducible first|exact Sims.mark _ (.inl rfl))
 | assumption
 | with_reducible refine Sims.bind ?_ (fun _=>?_)
 | with_reducible refine Sims.map ?_
 | with_reducible refine Sims.ite (fun _=>?_) (fun _=>?_)
 | dsimp only
 | split))
theorem Sims.floatCmp(op:BinOp)(k:FloatKind)(x y:Nat):Sims P F (Op.floatCmp op k x y):=by unfold Op.floatCmp;(repeat'(first
 | exact Sims.pure' _|exact Sims.pure _|exact Sims.halt _ trivial|exact SC.h
 | (with_reducible first|exact Sims.mark _ (.inl rfl))
 | assumption
 | with_reducible refine Sims.bind ?_ (fun _=>?_)
 | with_reducible refine Sims.map ?_
 | with_reducible refine Sims.ite (fun _=>?_) (fun _=>?_)
 | dsimp only
 | split))
theorem Sims.stringOp(op:BinOp)(x y:ByteArray):Sims P F (Op.stringOp op x y):=by unfold Op.stringOp;(repeat'(first
 | exact Sims.pure' _|exact Sims.pure _|exact Sims.halt _ trivial|exact SC.h
 | (with_reducible first|exact Sims.mark _ (.inl rfl))
 | assumption
 | with_reducible refine Sims.bind ?_ (fun _=>?_)
 | with_reducible refine Sims.map ?_
 | with_reducible refine Sims.ite (fun _=>?_) (fun _=>?_)
 | dsimp only
 | split))
theorem Sims.f2f(s:FloatKind)(b:Nat)(d:FloatKind):Sims P F (Conv.floatToFloat s b d):=by unfold Conv.floatToFloat;(repeat'(first
 | exact Sims.pure' _|exact Sims.pure _|exact Sims.halt _ trivial|exact SC.h
 | (with_reducible first|exact Sims.mark _ (.inl rfl))
 | assumption
 | with_reducible refine Sims.bind ?_ (fun _=>?_)
 | with_reducible refine Sims.map ?_
 | with_reducible refine Sims.ite (fun _=>?_) (fun _=>?_)
 | dsimp only
 | split))
theorem Sims.carith(op:BinOp)(k:FloatKind)(x y:Nat):Sims P F (Op.Complex.arith op k x y):=by
 unfold Op.Complex.arith
 refine Sims.bind (Sims.floatArith _ _ _ _) fun _=>?_
 (repeat'(first
 | exact Sims.pure' _|exact Sims.pure _|exact Sims.halt _ trivial|exact SC.h
 | (with_reducible first|exact Sims.mark _ (.inl rfl))
 | assumption
 | with_reducible refine Sims.bind ?_ (fun _=>?_)
 | with_reducible refine Sims.map ?_
 | with_reducible refine Sims.ite (fun _=>?_) (fun _=>?_)
 | dsimp only
 | split))
theorem Sims.ccmp(op:BinOp)(k:FloatKind)(x y:Nat):Sims P F (Op.Complex.cmp op k x y):=by
 unfold Op.Complex.cmp
 exact Sims.bind (Sims.floatCmp _ _ _ _) fun _=>Sims.asBool _
theorem Sims.cconv(s:FloatKind)(x:Nat)(d:FloatKind):Sims P F (Op.Complex.conv s x d):=by
 unfold Op.Complex.conv
 split
 ·exact Sims.pure' _
 ·refine Sims.bind (Sims.f2f _ _ _) fun _=>?_
  (repeat'(first
 | exact Sims.pure' _|exact Sims.pure _|exact Sims.halt _ trivial|exact SC.h
 | (with_reducible first|exact Sims.mark _ (.inl rfl))
 | assumption
 | with_reducible refine Sims.bind ?_ (fun _=>?_)
 | with_reducible refine Sims.map ?_
 | with_reducible refine Sims.ite (fun _=>?_) (fun _=>?_)
 | dsimp only
 | split))
theorem Sims.cproduct(a b c d:Nat):Sims P F (Op.Complex.product a b c d):=by
 unfold Op.Complex.product Op.Complex.sub Op.Complex.mul Op.Complex.add
 have:=fun op k x y=>Sims.carith (P:=P) (F:=F) op k x y
 (repeat'(first|exact this _ _ _ _|exact Sims.pure' _|with_reducible refine Sims.bind ?_ (fun _=>?_)))
theorem Sims.ccorrected(s a b c d:Nat):Sims P F (Op.Complex.corrected s a b c d):=by
 unfold Op.Complex.corrected Op.Complex.sub Op.Complex.mul Op.Complex.add
 have:=fun op k x y=>Sims.carith (P:=P) (F:=F) op k x y
 (repeat'(first|exact this _ _ _ _|exact Sims.pure' _|with_reducible refine Sims.bind ?_ (fun _=>?_)))
theorem Sims.cquotient(a b c d:Nat):Sims P F (Op.Complex.quotient a b c d):=by
 unfold Op.Complex.quotient Op.Complex.quo Op.Complex.sub Op.Complex.mul Op.Complex.add
 generalize Op.Complex.inf=inf
 (repeat'(first|with_reducible exact Sims.carith _ _ _ _|with_reducible exact Sims.ccmp _ _ _ _|with_reducible exact Sims.ccorrected _ _ _ _ _|with_reducible exact Sims.pure' _|with_reducible refine Sims.bind ?_ (fun _=>?_)|with_reducible refine Sims.ite (fun _=>?_) (fun _=>?_)|dsimp only))
theorem Sims.complexOp(op:BinOp)(k:FloatKind)(a b c d:Nat):Sims P F (Op.complexOp op k a b c d):=by
 unfold Op.complexOp
 have h1:=fun op k x y=>Sims.carith (P:=P) (F:=F) op k x y
 have h2:=fun op k x y=>Sims.ccmp (P:=P) (F:=F) op k x y
 have h3:=fun a b c d=>Sims.cproduct (P:=P) (F:=F) a b c d
 have h4:=fun a b c d=>Sims.cquotient (P:=P) (F:=F) a b c d
 have h5:=fun s x d=>Sims.cconv (P:=P) (F:=F) s x d
 split
 all_goals(repeat'(first|with_reducible exact h1 _ _ _ _|with_reducible exact h2 _ _ _ _|with_reducible exact h3 _ _ _ _|with_reducible exact h4 _ _ _ _|with_reducible exact h5 _ _ _|with_reducible exact Sims.pure' _|with_reducible exact Sims.stuck _|with_reducible refine Sims.bind ?_ (fun _=>?_)|with_reducible refine Sims.ite (fun _=>?_) (fun _=>?_)|dsimp only))
theorem Sims.unsafeAdd(a:Array TypeId)(t:TypeId)(x:Array Value):Sims P F (Builtin.unsafeAdd_ a t x):=by
 unfold Builtin.unsafeAdd_
 rcases x with⟨_|⟨v,_|⟨u,_|⟨_,_⟩⟩⟩⟩
 ·exact Sims.stuck _
 ·cases v<;>exact Sims.stuck _
 ·cases v<;>first|exact Sims.stuck _|skip
  dsimp only
  refine Sims.bind (Sims.asInt _) fun _=>?_
  (repeat'(first
 | exact Sims.pure' _|exact Sims.pure _|exact Sims.halt _ trivial|exact SC.h
 | (with_reducible first|exact Sims.mark _ (.inl rfl))
 | assumption
 | with_reducible refine Sims.bind ?_ (fun _=>?_)
 | with_reducible refine Sims.map ?_
 | with_reducible refine Sims.ite (fun _=>?_) (fun _=>?_)
 | dsimp only
 | split))
 ·cases v<;>exact Sims.stuck _
theorem Sims.movedNumber(t:TypeId)(x y:Value):Sims P F (Go.movedNumber t x y):=by
 unfold Go.movedNumber
 have h1:=fun a t x=>Sims.unsafeAdd (P:=P) (F:=F) a t x
 refine Sims.bind (Sims.underlying _) fun _=>?_
 dsimp only
 (repeat'(first
 | exact Sims.pure' _|exact Sims.pure _|exact Sims.halt _ trivial|exact SC.h
 | (with_reducible first|exact Sims.mark _ (.inl rfl))
 | assumption
 | with_reducible refine Sims.bind ?_ (fun _=>?_)
 | with_reducible refine Sims.map ?_
 | with_reducible refine Sims.ite (fun _=>?_) (fun _=>?_)
 | dsimp only
 | split))
 all_goals exact h1 _ _ _
theorem Sims.movedPointer(t:TypeId)(x y:Value):Sims P F (Go.movedPointer t x y):=by
 unfold Go.movedPointer
 have h1:=fun a t x=>Sims.unsafeAdd (P:=P) (F:=F) a t x
 (repeat'(first
 | exact Sims.pure' _|exact Sims.pure _|exact Sims.halt _ trivial|exact SC.h
 | (with_reducible first|exact Sims.mark _ (.inl rfl))
 | assumption
 | with_reducible refine Sims.bind ?_ (fun _=>?_)
 | with_reducible refine Sims.map ?_
 | with_reducible refine Sims.ite (fun _=>?_) (fun _=>?_)
 | dsimp only
 | split))
 all_goals exact h1 _ _ _
theorem Sims.twoPlaces(a b:Addr):Sims P F (Op.twoPlaces a b):=by unfold Op.twoPlaces;(repeat'(first
 | exact Sims.pure' _|exact Sims.pure _|exact Sims.halt _ trivial|exact SC.h
 | (with_reducible first|exact Sims.mark _ (.inl rfl))
 | assumption
 | with_reducible refine Sims.bind ?_ (fun _=>?_)
 | with_reducible refine Sims.map ?_
 | with_reducible refine Sims.ite (fun _=>?_) (fun _=>?_)
 | dsimp only
 | split))
theorem Sims.addrSub(k:IntKind)(a b:Addr):Sims P F (Op.addrSub k a b):=by
 unfold Op.addrSub;exact Sims.bind (Sims.twoPlaces _ _) fun _=>Sims.pure' _
theorem Sims.addrCmp(op:BinOp)(a b:Addr):Sims P F (Op.addrCmp op a b):=by
 unfold Op.addrCmp
 refine Sims.bind (Sims.twoPlaces _ _) fun _=>?_
 (repeat'(first
 | exact Sims.pure' _|exact Sims.pure _|exact Sims.halt _ trivial|exact SC.h
 | (with_reducible first|exact Sims.mark _ (.inl rfl))
 | assumption
 | with_reducible refine Sims.bind ?_ (fun _=>?_)
 | with_reducible refine Sims.map ?_
 | with_reducible refine Sims.ite (fun _=>?_) (fun _=>?_)
 | dsimp only
 | split))
theorem Sims.addrMod(k:IntKind)(a:Addr)(n:Int):Sims P F (Op.addrMod k a n):=by
 unfold Op.addrMod;(repeat'(first
 | exact Sims.pure' _|exact Sims.pure _|exact Sims.halt _ trivial|exact SC.h
 | (with_reducible first|exact Sims.mark _ (.inl rfl))
 | assumption
 | with_reducible refine Sims.bind ?_ (fun _=>?_)
 | with_reducible refine Sims.map ?_
 | with_reducible refine Sims.ite (fun _=>?_) (fun _=>?_)
 | dsimp only
 | split))
theorem Sims.eqGuardIn(t:TypeId)(x y:Value)(h:(∃px,eqType P px t=true)):Sims P F (Op.eqGuardIn Op.maxDepth t x y):=by
 obtain⟨px,h⟩:=h
 unfold Op.maxDepth
 rw[show(10000:Nat)=9999+1 from rfl]
 unfold Op.eqGuardIn
 unfold eqType at h
 cases hd:P.underlying t with
 | none=>rw[hd]at h;cases h
 | some d=>
   rw[hd]at h
   simp only[Option.map_some,Option.getD_some]at h
   refine Sims.bindUnderlying hd ?_
   clear hd
   split
   all_goals first
    | exact Sims.pure' _
    | (exfalso;simp[okd]at h;done)
theorem eqGuardType_of(n:Nat)(t:TypeId)(h:(∃px,eqType P px t=true)):P.eqGuardType (n+1) t=false:=by
 obtain⟨px,h⟩:=h
 unfold eqType at h
 unfold Program.eqGuardType
 cases hd:P.underlying t with
 | none=>rfl
 | some d=>
   rw[hd]at h
   simp only[Option.map_some,Option.getD_some]at h
   cases d<;>first|rfl|(simp[okd]at h)
theorem Sims.bindProgram{f:Program→Sem β}(hf:Sims P F (f P)):Sims P F (Go.program >>= f):=
 Sims.congr (s':=f P) (fun w=>by rw[Sem.run_bind];rfl) (fun w es=>by rw[Sem.events_bind];rfl) hf
theorem Sims.eqGuard (op : BinOp) (t : TypeId) (x y : Operand) (a b : Value) (h : isEq op = true → (∃ px, eqType P px t = true) ∨ ((∃ v, x = .const v) ∨ (∃ v, y = .const v)) ∧ ∀ cs ds, ¬ (a = .agg cs ∧ b = .agg ds)) : Sims P F (Go.eqGuard op t x y a b) := by
  unfold Go.eqGuard
  cases op
  all_goals first | exact Sims.pure' () | skip
  all_goals
    have h' := h rfl
    dsimp only
    simp only [Bool.not_true, Bool.false_eq_true, if_false]
    split
    · rcases h' with h1 | ⟨h1, _⟩
      · with_reducible refine Sims.ite (fun _ => Sims.pure' _) (fun _ => ?_)
        refine Sims.bind (Sims.eqGuardIn t _ _ h1) fun _ => ?_
        (repeat' (first
  | exact Sims.pure' _ | exact Sims.pure _ | exact Sims.halt _ trivial | exact SC.h
  | (with_reducible first | exact Sims.mark _ (.inl rfl))
  | assumption
  | with_reducible refine Sims.bind ?_ (fun _ => ?_)
  | with_reducible refine Sims.map ?_
  | with_reducible refine Sims.ite (fun _ => ?_) (fun _ => ?_)
  | dsimp only
  | split))
      · with_reducible refine Sims.ite (fun _ => Sims.pure' _) (fun hc => ?_)
        exfalso
        rcases h1 with ⟨v, rfl⟩ | ⟨v, rfl⟩
        · exact hc rfl
        · exact hc (Bool.or_true _)
    · rcases h' with h1 | ⟨_, h2⟩
      · refine Sims.bindProgram ?_
        refine Sims.bindProgram ?_
        have hdp : P.depth = (2 * (P.types.size + Made.depth) + 1) + 1 := rfl
        rw [hdp, eqGuardType_of _ t h1]
        simp only [Bool.not_false, if_true]
        exact Sims.pure' _
      · exact absurd ⟨rfl, rfl⟩ (h2 _ _)
    · exact Sims.pure' _
end
section
open Go Go.Conc
variable{P:Program}{F:Fz}{α β γ:Type}
theorem Sims.binOp(op:BinOp)(t:TypeId)(x y:Value)(h:isEq op=true→Sims P F (Op.equal t x y)):Sims P F (Go.binOp op t x y):=by
 unfold Go.binOp
 split
 all_goals first
  | exact Sims.shift _ _ _ _ _
  | exact Sims.stringOp _ _ _
  | exact Sims.unsupported _
  | exact Sims.stuck _
  | exact Sims.bind (h rfl) fun _=>Sims.pure' _
  | exact Sims.movedNumber _ _ _
  | (split
     ·exact Sims.stuck _
     ·first
      | exact Sims.complexOp _ _ _ _ _ _
      | (split<;>first|exact Sims.intArith _ _ _ _|exact Sims.intDiv _ _ _ _|exact Sims.intBits _ _ _ _|exact Sims.intCmp _ _ _|exact Sims.floatArith _ _ _ _|exact Sims.floatCmp _ _ _ _))
  | (refine Sims.bind (Sims.underlying _) fun _=>?_
     split<;>first|exact Sims.movedPointer _ _ _|exact Sims.movedNumber _ _ _)
  | exact Sims.bind (Sims.behindNumber _) fun _=>Sims.bind (Sims.behindNumber _) fun _=>Sims.addrSub _ _ _
  | exact Sims.bind (Sims.behindNumber _) fun _=>Sims.bind (Sims.behindNumber _) fun _=>Sims.addrCmp _ _ _
  | exact Sims.bind (Sims.behindNumber _) fun _=>Sims.addrMod _ _ _
  | skip
theorem Sims.unary(op:UnOp)(x:Value):Sims P F (Op.unary op x):=by
 unfold Op.unary
 split
 all_goals first|exact Sims.intArith _ _ _ _|exact Sims.intBits _ _ _ _|exact Sims.pure' _|exact Sims.unsupported _|exact Sims.stuck _
def convd:TypeDesc→TypeDesc→Bool
 | .int _,.int _| .unsafePointer,.pointer _| .pointer _,.unsafePointer=>true
 | _,_=>false
def convOk(P:Program)(s d:TypeId):Bool:=
 match P.underlying s,P.underlying d with
 | some a,some b=>convd a b
 | _,_=>false
theorem Sims.seenAt(a:Addr):Sims P F (Conv.seenAt a):=by
 unfold Conv.seenAt;(repeat'(first
 | exact Sims.pure' _|exact Sims.pure _|exact Sims.halt _ trivial|exact SC.h
 | (with_reducible first|exact Sims.mark _ (.inl rfl))
 | assumption
 | with_reducible refine Sims.bind ?_ (fun _=>?_)
 | with_reducible refine Sims.map ?_
 | with_reducible refine Sims.ite (fun _=>?_) (fun _=>?_)
 | dsimp only
 | split))
theorem Sims.variablesAt(a:Addr)(u:TypeId)(n:Nat):Sims P F (Go.variablesAt a u n):=by
 unfold Go.variablesAt;(repeat'(first
 | exact Sims.pure' _|exact Sims.pure _|exact Sims.halt _ trivial|exact SC.h
 | (with_reducible first|exact Sims.mark _ (.inl rfl))
 | assumption
 | with_reducible refine Sims.bind ?_ (fun _=>?_)
 | with_reducible refine Sims.map ?_
 | with_reducible refine Sims.ite (fun _=>?_) (fun _=>?_)
 | dsimp only
 | split))
theorem Sims.convUnsafe (s d : TypeId) (x : Value) : Sims P F (Conv.unsafePointer s d x) := by
  unfold Conv.unsafePointer
  refine Sims.bind (Sims.underlying _) fun _ => Sims.bind (Sims.underlying _) fun _ => ?_
  split
  all_goals first
    | exact Sims.pure' _ | exact Sims.unsupported _ | exact Sims.stuck _ | exact Sims.asNumber _ _
    | (refine Sims.bind (Sims.seenAt _) fun _ => ?_
       first
       | (refine Sims.bind (Sims.cellsIn _) fun _ => ?_
          refine Sims.bind (Sims.sizeOf _) fun _ => ?_
          (repeat' (first
  | exact Sims.pure' _ | exact Sims.pure _ | exact Sims.halt _ trivial | exact SC.h
  | (with_reducible first | exact Sims.mark _ (.inl rfl))
  | assumption
  | with_reducible refine Sims.bind ?_ (fun _ => ?_)
  | with_reducible refine Sims.map ?_
  | with_reducible refine Sims.ite (fun _ => ?_) (fun _ => ?_)
  | dsimp only
  | split))
          done)
       | (refine Sims.bind (Sims.sizeOf _) fun _ => ?_
          refine Sims.bind (Sims.variablesAt _ _ _) fun _ => ?_
          (repeat' (first
  | exact Sims.pure' _ | exact Sims.pure _ | exact Sims.halt _ trivial | exact SC.h
  | (with_reducible first | exact Sims.mark _ (.inl rfl))
  | assumption
  | with_reducible refine Sims.bind ?_ (fun _ => ?_)
  | with_reducible refine Sims.map ?_
  | with_reducible refine Sims.ite (fun _ => ?_) (fun _ => ?_)
  | dsimp only
  | split))
          done))
    | skip
theorem Sims.convert (s d : TypeId) (x : Value) (h : convOk P s d = true) : Sims P F (Go.convert s d x) := by
  unfold Go.convert
  unfold convOk at h
  cases hs : P.underlying s with
  | none => rw [hs] at h; cases h
  | some a =>
    cases hd : P.underlying d with
    | none => rw [hs, hd] at h; cases h
    | some b =>
      rw [hs, hd] at h
      refine Sims.bindUnderlying hs (Sims.bindUnderlying hd ?_)
      simp only at h
      clear hs hd
      split
      all_goals first
        | (exfalso; simp [convd] at h; done)
        | exact Sims.pure' _
        | exact Sims.unsupported _
        | exact Sims.convUnsafe _ _ _
        | (unfold Conv.intToInt; exact Sims.pure' _)
        | (unfold Conv.floatToInt; ((repeat' (first
  | exact Sims.pure' _ | exact Sims.pure _ | exact Sims.halt _ trivial | exact SC.h
  | (with_reducible first | exact Sims.mark _ (.inl rfl))
  | assumption
  | with_reducible refine Sims.bind ?_ (fun _ => ?_)
  | with_reducible refine Sims.map ?_
  | with_reducible refine Sims.ite (fun _ => ?_) (fun _ => ?_)
  | dsimp only
  | split))); done)
        | skip
      all_goals (cases a <;> cases b <;> first | (exfalso; simp [convd] at h; done) | skip)
theorem HaltsFine.holdsCells(a:Addr)(n:Nat):HaltsFine P (Builtin.holdsCells a n):=by
 unfold Builtin.holdsCells
 refine HaltsFine.bind (HaltsFine.shape _) fun _=>?_
 split<;>exact HaltsFine.pure _
theorem HaltsFine.mayShare(a b c:Nat)(o:Option Addr)(v:Value):HaltsFine P (Builtin.mayShare a b c o v):=by
 unfold Builtin.mayShare
 have h1:=fun a n=>HaltsFine.holdsCells (P:=P) a n
 have h2:=fun a=>HaltsFine.frozen (P:=P) a
 (repeat'(first|with_reducible exact HaltsFine.pure _|with_reducible exact h1 _ _|with_reducible exact h2 _|with_reducible refine HaltsFine.bind ?_ (fun _=>?_)|dsimp only|split))
theorem Sims.shareDead(a b c:Nat)(o:Option Addr)(v:Value)(f:Bool→Sem α)(h:∀x,Dead P (f x)):Sims P F (Builtin.mayShare a b c o v >>= f):=Sims.of_dead (Dead.bind (HaltsFine.mayShare _ _ _ _ _) h)
theorem Sims.lenOf(v:Value):Sims P F (Builtin.lenOf v):=by unfold Builtin.lenOf;(repeat'(first
 | exact Sims.pure' _|exact Sims.pure _|exact Sims.halt _ trivial|exact SC.h
 | (with_reducible first|exact Sims.mark _ (.inl rfl))
 | assumption
 | with_reducible refine Sims.bind ?_ (fun _=>?_)
 | with_reducible refine Sims.map ?_
 | with_reducible refine Sims.ite (fun _=>?_) (fun _=>?_)
 | dsimp only
 | split))
theorem Sims.firstCells(s n:Nat)(v:Value):Sims P F (Builtin.firstCells s n v):=by unfold Builtin.firstCells;(repeat'(first
 | exact Sims.pure' _|exact Sims.pure _|exact Sims.halt _ trivial|exact SC.h
 | (with_reducible first|exact Sims.mark _ (.inl rfl))
 | assumption
 | with_reducible refine Sims.bind ?_ (fun _=>?_)
 | with_reducible refine Sims.map ?_
 | with_reducible refine Sims.ite (fun _=>?_) (fun _=>?_)
 | dsimp only
 | split))
theorem Sims.append(a:Array TypeId)(t:TypeId)(x:Array Value):Sims P F (Builtin.append_ a t x):=by
 unfold Builtin.append_
 (repeat'(first
   | with_reducible exact Sims.pure' _|with_reducible exact Sims.pure _
   | with_reducible exact Sims.choose _|with_reducible exact Sims.stuck _|with_reducible exact Sims.unsupported _|with_reducible exact Sims.runtimePanic _
   | with_reducible exact Sims.underlying _|with_reducible exact Sims.typeInfo _|with_reducible exact Sims.zeroValue _|with_reducible exact Sims.sizeOf _
   | with_reducible exact Sims.storeCells _ _ _|with_reducible exact Sims.newRow _ _|with_reducible exact Sims.asInt _
   | with_reducible exact Sims.lenOf _|with_reducible exact Sims.firstCells _ _ _|with_reducible exact Sims.askRoom _
   | (with_reducible refine Sims.shareDead _ _ _ _ _ _ (fun x=>?_)
      cases x
      ·exact Dead.bind (HaltsFine.mark _) fun _=>Dead.unsupported _
      ·exact Dead.unsupported _)
   | with_reducible refine Sims.bind ?_ (fun _=>?_)
   | with_reducible refine Sims.ite (fun _=>?_) (fun _=>?_)
   | dsimp only
   | split))
theorem Sims.len(a:Array TypeId)(t:TypeId)(x:Array Value):Sims P F (Builtin.len_ a t x):=by unfold Builtin.len_;(repeat'(first
 | exact Sims.pure' _|exact Sims.pure _|exact Sims.halt _ trivial|exact SC.h
 | (with_reducible first|exact Sims.mark _ (.inl rfl))
 | assumption
 | with_reducible refine Sims.bind ?_ (fun _=>?_)
 | with_reducible refine Sims.map ?_
 | with_reducible refine Sims.ite (fun _=>?_) (fun _=>?_)
 | dsimp only
 | split))
theorem Sims.cap(a:Array TypeId)(t:TypeId)(x:Array Value):Sims P F (Builtin.cap_ a t x):=by unfold Builtin.cap_;(repeat'(first
 | exact Sims.pure' _|exact Sims.pure _|exact Sims.halt _ trivial|exact SC.h
 | (with_reducible first|exact Sims.mark _ (.inl rfl))
 | assumption
 | with_reducible refine Sims.bind ?_ (fun _=>?_)
 | with_reducible refine Sims.map ?_
 | with_reducible refine Sims.ite (fun _=>?_) (fun _=>?_)
 | dsimp only
 | split))
theorem Sims.copy(a:Array TypeId)(t:TypeId)(x:Array Value):Sims P F (Builtin.copy_ a t x):=by
 unfold Builtin.copy_
 (repeat'(first
   | with_reducible exact Sims.pure' _|with_reducible exact Sims.stuck _
   | with_reducible exact Sims.underlying _|with_reducible exact Sims.sizeOf _
   | with_reducible exact Sims.storeCells _ _ _
   | with_reducible exact Sims.lenOf _|with_reducible exact Sims.firstCells _ _ _
   | with_reducible refine Sims.bind ?_ (fun _=>?_)
   | dsimp only
   | split))
theorem Sims.min2(x y:Value):Sims P F (Builtin.min2 x y):=by
 unfold Builtin.min2
 have:=fun op x y=>Sims.stringOp (P:=P) (F:=F) op x y
 (repeat'(first
 | exact Sims.pure' _|exact Sims.pure _|exact Sims.halt _ trivial|exact SC.h
 | (with_reducible first|exact Sims.mark _ (.inl rfl))
 | assumption
 | with_reducible refine Sims.bind ?_ (fun _=>?_)
 | with_reducible refine Sims.map ?_
 | with_reducible refine Sims.ite (fun _=>?_) (fun _=>?_)
 | dsimp only
 | split))
 all_goals exact this _ _ _
theorem Sims.max2(x y:Value):Sims P F (Builtin.max2 x y):=by
 unfold Builtin.max2
 have:=fun op x y=>Sims.stringOp (P:=P) (F:=F) op x y
 (repeat'(first
 | exact Sims.pure' _|exact Sims.pure _|exact Sims.halt _ trivial|exact SC.h
 | (with_reducible first|exact Sims.mark _ (.inl rfl))
 | assumption
 | with_reducible refine Sims.bind ?_ (fun _=>?_)
 | with_reducible refine Sims.map ?_
 | with_reducible refine Sims.ite (fun _=>?_) (fun _=>?_)
 | dsimp only
 | split))
 all_goals exact this _ _ _
theorem Sims.min(a:Array TypeId)(t:TypeId)(x:Array Value):Sims P F (Builtin.min_ a t x):=by
 unfold Builtin.min_
 split
 ·exact Sims.stuck _
 ·exact Sims.foldlMList (fun c a=>Sims.min2 c a) _ _
theorem Sims.max(a:Array TypeId)(t:TypeId)(x:Array Value):Sims P F (Builtin.max_ a t x):=by
 unfold Builtin.max_
 split
 ·exact Sims.stuck _
 ·exact Sims.foldlMList (fun c a=>Sims.max2 c a) _ _
end
section
open Go Go.Conc
variable{P:Program}{F:Fz}{α β γ:Type}
theorem Sims.aread(t:Extern.Atomic.T)(a:Addr):Sims P F (Extern.Atomic.read t a):=by
 unfold Extern.Atomic.read;(repeat'(first
 | exact Sims.pure' _|exact Sims.pure _|exact Sims.halt _ trivial|exact SC.h
 | (with_reducible first|exact Sims.mark _ (.inl rfl))
 | assumption
 | with_reducible refine Sims.bind ?_ (fun _=>?_)
 | with_reducible refine Sims.map ?_
 | with_reducible refine Sims.ite (fun _=>?_) (fun _=>?_)
 | dsimp only
 | split))
theorem Sims.loadT(t:Extern.Atomic.T)(x:Array Value):Sims P F (Extern.Atomic.loadT t x):=by
 unfold Extern.Atomic.loadT
 rcases x with⟨_|⟨v,_|⟨u,_⟩⟩⟩
 ·exact Sims.stuck _
 ·exact Sims.bind (Sims.asAddr _) fun _=>Sims.aread _ _
 ·exact Sims.stuck _
theorem Sims.storeT(x:Array Value):Sims P F (Extern.Atomic.storeT x):=by
 unfold Extern.Atomic.storeT
 rcases x with⟨_|⟨v,_|⟨u,_|⟨_,_⟩⟩⟩⟩
 ·exact Sims.stuck _
 ·exact Sims.stuck _
 ·exact Sims.bind (Sims.asAddr _) fun _=>Sims.bind (Sims.store _ _ _) fun _=>Sims.pure' _
 ·exact Sims.stuck _
theorem SimF.touchesFrozenNone(hF:∀r,F r=none)(a:Addr):Sims P F (Extern.Atomic.touchesFrozen a):=by
 unfold Extern.Atomic.touchesFrozen
 have h1:=fun x=>Sims.frozen (P:=P) (F:=F) hF x
 have h2:∀(l:List Nat) (f:Nat→Sem Bool),(∀i,Sims P F (f i))→Sims P F (l.anyM f):=by
  intro l f hf
  induction l with
  | nil=>exact Sims.pure' _
  | cons x l ih=>
    rw[List.anyM_cons]
    refine Sims.bind (hf x) fun b=>?_
    split
    ·exact Sims.pure' _
    ·exact ih
 refine Sims.bind (Sims.viewAt _) fun v=>?_
 split
 ·exact h1 _
 ·refine Sims.bind (Sims.typeInfo _) fun _=>?_
  dsimp only
  split
  ·exact Sims.bind (Sims.unsupported _) fun _=>h2 _ _ fun i=>h1 _
  ·exact h2 _ _ fun i=>h1 _
theorem Sims.casT(t:Extern.Atomic.T)(hF:∀r,F r=none)(x:Array Value):Sims P F (Extern.Atomic.casT t x):=by
 unfold Extern.Atomic.casT
 rcases x with⟨_|⟨v,_|⟨u,_|⟨y,_|⟨_,_⟩⟩⟩⟩⟩
 ·exact Sims.stuck _
 ·exact Sims.stuck _
 ·exact Sims.stuck _
 ·refine Sims.bind (Sims.asAddr _) fun a=>?_
  refine Sims.bind (SimF.touchesFrozenNone hF a) fun _=>?_
  have hsp:=fun x y=>Sims.samePointer (P:=P) (F:=F) hF x y
  dsimp only
  split
  ·exact Sims.bind (Sims.unsupported _) fun _=>by
    refine Sims.bind (Sims.aread _ _) fun _=>?_
    split<;>first
     | (refine Sims.bind (Sims.pure' _) fun _=>?_;split<;>first|exact Sims.bind (Sims.store _ _ _) fun _=>Sims.pure' _|exact Sims.pure' _)
     | (refine Sims.bind (hsp _ _) fun _=>?_;split<;>first|exact Sims.bind (Sims.store _ _ _) fun _=>Sims.pure' _|exact Sims.pure' _)
     | (refine Sims.bind (Sims.unsupported _) fun _=>?_;split<;>first|exact Sims.bind (Sims.store _ _ _) fun _=>Sims.pure' _|exact Sims.pure' _)
     | (refine Sims.bind (Sims.stuck _) fun _=>?_;split<;>first|exact Sims.bind (Sims.store _ _ _) fun _=>Sims.pure' _|exact Sims.pure' _)
  ·refine Sims.bind (Sims.aread _ _) fun _=>?_
   split<;>first
    | (refine Sims.bind (Sims.pure' _) fun _=>?_;split<;>first|exact Sims.bind (Sims.store _ _ _) fun _=>Sims.pure' _|exact Sims.pure' _)
    | (refine Sims.bind (hsp _ _) fun _=>?_;split<;>first|exact Sims.bind (Sims.store _ _ _) fun _=>Sims.pure' _|exact Sims.pure' _)
    | (refine Sims.bind (Sims.unsupported _) fun _=>?_;split<;>first|exact Sims.bind (Sims.store _ _ _) fun _=>Sims.pure' _|exact Sims.pure' _)
    | (refine Sims.bind (Sims.stuck _) fun _=>?_;split<;>first|exact Sims.bind (Sims.store _ _ _) fun _=>Sims.pure' _|exact Sims.pure' _)
 ·exact Sims.stuck _
end
section
open Go Go.Conc
variable{P:Program}{F:Fz}{α β γ:Type}
def builtinOk:Builtin→Bool
 | .append| .len| .cap| .min| .max| .copy=>true
 | _=>false
def calleeOk(S:FuncId→Bool):Callee→Bool
 | .value (.func f)=>S f
 | .builtin b=>builtinOk b
 | _=>false
def opOk(P:Program)(S:FuncId→Bool)(px:Bool):Op→Bool
 | .move _| .assign _| .pick .. | .alloc _| .box .. | .build .. | .buildSlice .. | .load .. | .store .. | .unOp .. | .makeInterface .. | .makeFunc .. | .makeSlice .. | .slice ..
 | .fieldAddr .. | .field .. | .indexAddr .. | .index .. | .extract .. | .nilCheck _=>true
 | .binOp op t x y _=> !isEq op || eqType P px t || (nilType P t && (nilOperand x || nilOperand y))
 | .convert s d _=>convOk P s d
 | .call c=>calleeOk S c.callee
 | _=>false
def codeOk(P:Program)(S:FuncId→Bool)(px:Bool):Code→Bool
 | .skip| .exit _| .label _| .goto _| .ret| .refuse _=>true
 | .region _ ops _=>ops.all fun o=>opOk P S px o.op
 | .seq a b| .cond _ a b=>codeOk P S px a && codeOk P S px b
 | .block _ c| .loop c| .scope c=>codeOk P S px c
 | .rangeFunc .. =>false
def Entry(P:Program)(px:Bool)(e:Array Value→Sem Value):Prop:=∀F:Fz,(px=true→∀r,F r=none)→∀args,Sims P F (e args)
def Closed(P:Program)(S:FuncId→Bool)(px:Bool):Prop:=
 ∀ f, S f = true → ∃ fn, P.funcs[f]? = some fn ∧ (fn.name == "runtime.NumGoroutine") = false ∧
   ((∃c,fn.body=some c∧codeOk P S px c=true)∨(fn.body=none∧Extern.findNext fn=none∧∃e,Extern.find fn=some e∧Entry P px e))
def NextOk(P:Program)(S:FuncId→Bool):Next→Prop
 | .value _| .skip=>True
 | .enter f _=>S f=true∧∃fn c,P.funcs[f]? =some fn∧fn.body=some c
 | _=>False
def Kind(P:Program)(S:FuncId→Bool)(s:Sem Next):Prop:=∀w n u,s.run P w= .ok n u→NextOk P S n
theorem Kind.value{S:FuncId→Bool}(s:Sem Value):Kind P S (do Pure.pure (Next.value (← s))):=by
 intro w n u h
 rw[Sem.run_bind]at h
 cases hr:s.run P w with
 | ok v w'=>rw[hr]at h;cases h;trivial
 | halt e w'=>rw[hr]at h;cases h
theorem Kind.skip{S:FuncId→Bool}(s:Sem Unit):Kind P S (do s;Pure.pure Next.skip):=by
 intro w n u h
 rw[Sem.run_bind]at h
 cases hr:s.run P w with
 | ok v w'=>rw[hr]at h;cases h;trivial
 | halt e w'=>rw[hr]at h;cases h
theorem Kind.pureValue{S:FuncId→Bool}(v:Value):Kind P S (Pure.pure (Next.value v)):=by intro w n u h;cases h;trivial
theorem Kind.bind{S:FuncId→Bool}(s:Sem α)(f:α→Sem Next)(h:∀a,Kind P S (f a)):Kind P S (s >>= f):=by
 intro w n u e
 rw[Sem.run_bind]at e
 cases hr:s.run P w with
 | ok v w'=>rw[hr]at e;exact h v w' n u e
 | halt x w'=>rw[hr]at e;cases e
theorem Kind.halt{S:FuncId→Bool}(h:Halt):Kind P S (Sem.halt h):=by intro w n u e;cases e
theorem Kind.panic{S:FuncId→Bool}(e:RuntimeError):Kind P S (Go.runtimePanic e):=by
 unfold Go.runtimePanic
 refine Kind.bind _ _ fun p=>?_
 cases e<;>dsimp only<;>(repeat'(first|exact Kind.halt _|refine Kind.bind _ _ fun _=>?_))
theorem callFunc_kind{S:FuncId→Bool}{px:Bool}(hC:Closed P S px)(f:FuncId)(args:Array Value)(hf:S f=true):Kind P S (Go.callFunc f args):=by
 obtain⟨fn,h1,h2,h3⟩:=hC f hf
 intro w n u e
 unfold Go.callFunc at e
 rw[Sem.run_bind]at e
 rw[show Go.program.run P w= .ok P w from rfl]at e
 simp only[Result.andThen_ok,h1,h2,Bool.false_eq_true,if_false]at e
 have e':=e
 clear e
 rcases h3 with⟨c,hb,_⟩|⟨hb,hn,e,he,_⟩
 ·rw[hb]at e'
  simp only[Option.isNone_some,Bool.false_eq_true,if_false]at e'
  cases e'
  exact⟨hf,fn,c,h1,hb⟩
 ·rw[hb]at e'
  simp only[Option.isNone_none,if_true,hn,he]at e'
  exact(Kind.bind (Go.mark (.extern f)) _ fun _=>Kind.value (P:=P) (S:=S) (e args)) w n u e'
theorem Sims.callFunc{S:FuncId→Bool}{px:Bool}(hC:Closed P S px)(hF:px=true→∀r,F r=none)(f:FuncId)(args:Array Value)(hf:S f=true):Sims P F (Go.callFunc f args):=by
 obtain⟨fn,h1,h2,h3⟩:=hC f hf
 unfold Go.callFunc
 refine Sims.bindProgram ?_
 simp only[h1,h2,Bool.false_eq_true,if_false]
 rcases h3 with⟨c,hb,_⟩|⟨hb,hn,e,he,hE⟩
 ·rw[hb]
  simp only[Option.isNone_some,Bool.false_eq_true,if_false]
  exact Sims.pure' _
 ·rw[hb]
  simp only[Option.isNone_none,if_true,hn,he]
  exact Sims.bind (Sims.mark _ (.inr ⟨f,rfl⟩)) fun _=>Sims.bind (hE F hF args) fun _=>Sims.pure' _
theorem Sims.followBlind:∀(l:List FieldStep) (t:TypeId) (x:Option Value),Sims P F (Go.followBlind l t x):=by
 intro l
 induction l with
 | nil=>intro t x;exact Sims.pure' _
 | cons s l ih=>
   intro t x
   unfold Go.followBlind
   refine Sims.bind (Sims.underlying _) fun _=>?_
   split
   ·split
    ·split
     all_goals first
      | exact Sims.pure' _|exact Sims.stuck _|exact ih _ _
      | exact Sims.bind (Sims.part _ _ _) fun _=>ih _ _
    ·exact Sims.stuck _
   ·exact Sims.stuck _
theorem Sims.nilAhead:∀(n:Nat) (t:TypeId) (v:Value) (s:String),Sims P F (Go.nilAhead n t v s):=by
 intro n
 induction n with
 | zero=>intro t v s;exact Sims.pure' _
 | succ n ih=>
   intro t v s
   unfold Go.nilAhead
   refine Sims.bind (Sims.typeInfo _) fun _=>?_
   split
   ·refine Sims.bind (Sims.followBlind _ _ _) fun r=>?_
    split
    ·exact Sims.pure' _
    ·split
     all_goals first
      | exact Sims.pure' _|exact Sims.stuck _|exact ih _ _ _
      | (refine Sims.bind (Sims.underlying _) fun _=>?_
         split<;>exact Sims.pure' _)
   ·exact Sims.stuck _
theorem nil_of(ρ:Operand→Value)(hρ:∀v,ρ (.const v)=v)(x:Operand)(h:nilOperand x=true):ρ x= .pointer none∨ρ x= .nilIface:=by
 unfold nilOperand at h
 split at h
 ·left;exact hρ _
 ·right;exact hρ _
 ·cases h
theorem const_of(x:Operand)(h:nilOperand x=true):∃v,x= .const v:=by
 unfold nilOperand at h
 split at h
 ·exact⟨_,rfl⟩
 ·exact⟨_,rfl⟩
 ·cases h
theorem execOp_sims{S:FuncId→Bool}{px:Bool}(hC:Closed P S px)(hF:px=true→∀r,F r=none)(ρ:Operand→Value)(hρ:∀v,ρ (.const v)=v)(hρf:∀f,ρ (.func f)= .func (.func f) #[] #[])(o:Oper)(ho:opOk P S px o.op=true):
 Sims P F (execOp ρ o):=by
 have hv:∀s:Sem Value,Sims P F s→Sims P F (do Pure.pure (Next.value (← s))):=fun s hs=>Sims.bind hs fun _=>Sims.pure' _
 have hu:∀s:Sem Unit,Sims P F s→Sims P F (do s;Pure.pure Next.skip):=fun s hs=>Sims.bind hs fun _=>Sims.pure' _
 unfold execOp
 dsimp only
 cases hop:o.op<;>rw[hop]at ho<;>simp only[opOk,Bool.false_eq_true]at ho
 case move=>exact Sims.pure' _
 case assign=>exact Sims.pure' _
 case pick=>exact Sims.bind (Sims.asBool _) fun _=>Sims.pure' _
 case alloc=>exact hv _ (Sims.alloc _ _)
 case box=>exact hv _ (Sims.box _ _)
 case build=>exact hv _ (Sims.build _ _)
 case buildSlice=>exact hv _ (Sims.buildSlice _ _ _)
 case load=>exact hv _ (Sims.loadAt _ _)
 case store=>exact hu _ (Sims.storeAt _ _ _)
 case nilCheck x=>
  try dsimp only
  split
  ·exact Sims.runtimePanic _
  ·exact Sims.runtimePanic _
  ·exact Sims.runtimePanic _
  ·split
   ·exact Sims.runtimePanic _
   ·refine Sims.bind Sims.program fun _=>Sims.bind (Sims.nilAhead _ _ _ _) fun _=>?_
    try dsimp only
    split
    ·exact Sims.bind (Sims.unsupported _) fun _=>Sims.pure' _
    ·exact Sims.pure' _
   ·exact Sims.pure' _
  ·exact Sims.pure' _
 case binOp op t x y t'=>
  refine hv _ (Sims.bind (Sims.eqGuard _ _ _ _ _ _ fun he=>?_) fun _=>Sims.binOp _ _ _ _ fun he=>?_)
  ·rw[he]at ho
   simp only[Bool.not_true,Bool.false_or,Bool.or_eq_true,Bool.and_eq_true]at ho
   rcases ho with h|⟨_,h⟩
   ·exact .inl ⟨px,h⟩
   ·right
    rcases h with h|h
    ·refine⟨.inl (const_of x h),fun cs ds hh=>?_⟩
     rcases nil_of ρ hρ x h with e|e<;>rw[e]at hh<;>cases hh.1
    ·refine⟨.inr (const_of y h),fun cs ds hh=>?_⟩
     rcases nil_of ρ hρ y h with e|e<;>rw[e]at hh<;>cases hh.2
  ·rw[he]at ho
   simp only[Bool.not_true,Bool.false_or,Bool.or_eq_true,Bool.and_eq_true]at ho
   rcases ho with h|⟨h1,h⟩
   ·exact Sims.equal px hF _ _ _ h
   ·refine Sims.equalNil _ _ _ h1 ?_
    rcases h with h|h
    ·exact .inr (nil_of ρ hρ x h)
    ·exact .inl (nil_of ρ hρ y h)
 case unOp=>exact hv _ (Sims.unary _ _)
 case convert=>exact hv _ (Sims.convert _ _ _ ho)
 case makeInterface=>exact hv _ (Sims.makeInterface _ _)
 case makeFunc=>exact hv _ (Sims.makeFunc _ _ _)
 case makeSlice=>exact hv _ (Sims.makeSlice _ _ _)
 case slice=>exact hv _ (Sims.sliceAt _ _ _ _ _)
 case fieldAddr=>exact hv _ (Sims.fieldAt _ _ _)
 case field=>exact hv _ (Sims.field _ _ _)
 case indexAddr=>exact hv _ (Sims.indexAt _ _ _)
 case index=>exact hv _ (Sims.index _ _ _)
 case extract=>exact hv _ (Sims.extract _ _)
 case call c=>
  try dsimp only
  unfold resolve
  try dsimp only
  unfold calleeOk at ho
  cases hc:c.callee with
  | invoke r n=>rw[hc]at ho;cases ho
  | value f=>
    rw[hc]at ho
    cases f with
    | func f=>
      dsimp only at ho ⊢
      rw[hρf]
      exact Sims.callFunc hC hF f _ ho
    | _=>cases ho
  | builtin b=>
    rw[hc]at ho
    dsimp only at ho ⊢
    cases b<;>simp only[builtinOk,Bool.false_eq_true]at ho
    case append=>exact hv _ (Sims.append _ _ _)
    case cap=>exact hv _ (Sims.cap _ _ _)
    case copy=>exact hv _ (Sims.copy _ _ _)
    case len=>exact hv _ (Sims.len _ _ _)
    case max=>exact hv _ (Sims.max _ _ _)
    case min=>exact hv _ (Sims.min _ _ _)
theorem execOp_kind{S:FuncId→Bool}{px:Bool}(hC:Closed P S px)(ρ:Operand→Value)(hρf:∀f,ρ (.func f)= .func (.func f) #[] #[])(o:Oper)(ho:opOk P S px o.op=true):
 Kind P S (execOp ρ o):=by
 unfold execOp
 dsimp only
 cases hop:o.op<;>rw[hop]at ho<;>simp only[opOk,Bool.false_eq_true]at ho
 case move=>exact Kind.pureValue _
 case assign=>exact Kind.pureValue _
 case nilCheck x=>
  try dsimp only
  split
  ·exact Kind.panic _
  ·exact Kind.panic _
  ·exact Kind.panic _
  ·split
   ·exact Kind.panic _
   ·refine Kind.bind _ _ fun _=>Kind.bind _ _ fun _=>?_
    try dsimp only
    split
    ·exact Kind.bind _ _ fun _=>Kind.pureValue _
    ·exact Kind.pureValue _
   ·exact Kind.pureValue _
  ·exact Kind.pureValue _
 case store=>exact Kind.skip _
 case pick=>exact Kind.bind _ _ fun _=>Kind.pureValue _
 case call c=>
  try dsimp only
  unfold resolve
  try dsimp only
  unfold calleeOk at ho
  cases hc:c.callee with
  | invoke r n=>rw[hc]at ho;cases ho
  | value f=>
    rw[hc]at ho
    cases f with
    | func f=>
      dsimp only at ho ⊢
      rw[hρf]
      exact callFunc_kind hC f _ ho
    | _=>cases ho
  | builtin b=>
    rw[hc]at ho
    dsimp only at ho ⊢
    cases b<;>simp only[builtinOk,Bool.false_eq_true]at ho
    all_goals exact Kind.value _
 all_goals exact Kind.value _
end
section
open Go Go.Conc
variable{P:Program}{F:Fz}{S:FuncId→Bool}{px:Bool}
def itemOk(P:Program)(S:FuncId→Bool)(px:Bool):Item→Prop
 | .code c| .inLoop c| .inScope c=>codeOk P S px c=true
 | .inBlock _=>True
 | .inRegion ops _=>(ops.all fun o=>opOk P S px o.op)=true
 | _=>False
def ctl(a:Act):List Item→Option (List Item)
 | .code .skip::t| .code (.label _)::t| .inBlock _::t| .inScope _::t=>some t
 | .code (.seq x y)::t=>some (.code x:: .code y::t)
 | .code (.cond c x y)::t=>
   match a.eval c with
   | .bool b=>some (.code (if b then x else y)::t)
   | _=>none
 | .code (.block id c)::t=>some (.code c:: .inBlock id::t)
 | .code (.loop c)::t| .inLoop c::t=>some (.code c:: .inLoop c::t)
 | .code (.scope c)::t=>some (.code c:: .inScope c::t)
 | .code (.exit id)::t=>exitTo id t
 | .code (.goto l)::t=>gotoIn l t
 | .code (.region _ ops false)::t=>some (.inRegion ops (List.range ops.size)::t)
 | .inRegion _ []::t=>some t
 | _=>none
theorem exitTo_append{id:Nat}{t t':List Item}(k:List Item)(h:exitTo id t=some t'):exitTo id (t++k)=some (t'++k):=by
 induction t with
 | nil=>cases h
 | cons x t ih=>
   cases x<;>simp only[exitTo,List.cons_append]at h ⊢<;>first
    | exact ih h
    | (split at h
       ·rename_i hc;cases h;simp only[hc,if_true]
       ·rename_i hc;simp only[hc,if_false];exact ih h)
theorem exitTo_append_none{id:Nat}{t:List Item}(k:List Item)(h:exitTo id t=none):exitTo id (t++k)=exitTo id k:=by
 induction t with
 | nil=>rfl
 | cons x t ih=>
   cases x<;>simp only[exitTo,List.cons_append]at h ⊢<;>first
    | exact ih h
    | (split at h
       ·cases h
       ·rename_i hc;simp only[hc,if_false];exact ih h)
theorem gotoIn_append{l:Nat}{t t':List Item}(k:List Item)(h:gotoIn l t=some t'):gotoIn l (t++k)=some (t'++k):=by
 induction t with
 | nil=>cases h
 | cons x t ih=>
   cases x with
   | inScope body=>
     simp only[gotoIn,List.cons_append]at h ⊢
     cases hf:findLabel body l with
     | some r=>rw[hf]at h;cases h;rfl
     | none=>rw[hf]at h;exact ih h
   | _=>exact ih h
theorem gotoIn_append_none{l:Nat}{t:List Item}(k:List Item)(h:gotoIn l t=none):gotoIn l (t++k)=gotoIn l k:=by
 induction t with
 | nil=>rfl
 | cons x t ih=>
   cases x with
   | inScope body=>
     simp only[gotoIn,List.cons_append]at h ⊢
     cases hf:findLabel body l with
     | some r=>rw[hf]at h;cases h
     | none=>rw[hf]at h;exact ih h
   | _=>exact ih h
theorem exitTo_mem{id:Nat}{t t':List Item}(h:exitTo id t=some t'):∀x∈t',x∈t:=by
 induction t with
 | nil=>cases h
 | cons y t ih=>
   intro x hx
   cases y<;>simp only[exitTo]at h<;>first
    | exact List.mem_cons_of_mem _ (ih h x hx)
    | (split at h
       ·cases h;exact List.mem_cons_of_mem _ hx
       ·exact List.mem_cons_of_mem _ (ih h x hx))
theorem findLabel_ok{l:Nat}:∀(c c':Code),findLabel c l=some c'→codeOk P S px c=true→codeOk P S px c'=true:=by
 intro c
 induction c with
 | seq a b iha ihb=>
   intro c' h hok
   simp only[findLabel]at h
   simp only[codeOk,Bool.and_eq_true]at hok
   split at h
   ·rename_i r hr
    cases h
    simp only[codeOk,Bool.and_eq_true]
    exact⟨iha _ hr hok.1,hok.2⟩
   ·exact ihb _ h hok.2
 | label l'=>
   intro c' h hok
   simp only[findLabel]at h
   split at h
   ·cases h;rfl
   ·cases h
 | _=>intro c' h hok;simp[findLabel]at h
theorem gotoIn_ok{l:Nat}{t t':List Item}(h:gotoIn l t=some t')(hok:∀x∈t,itemOk P S px x):∀x∈t',itemOk P S px x:=by
 induction t with
 | nil=>cases h
 | cons y t ih=>
   cases y<;>simp only[gotoIn]at h<;>first
    | exact ih h (fun x hx=>hok x (List.mem_cons_of_mem _ hx))
    | (split at h
       ·rename_i r hr
        cases h
        intro x hx
        rcases List.mem_cons.1 hx with rfl|hx
        ·exact findLabel_ok _ _ hr (hok _ (List.mem_cons_self ..))
        ·exact hok x hx
       ·exact ih h (fun x hx=>hok x (List.mem_cons_of_mem _ hx)))
theorem ctl_ok{a:Act}{t t':List Item}(h:ctl a t=some t')(hok:∀x∈t,itemOk P S px x):∀x∈t',itemOk P S px x:=by
 cases t with
 | nil=>cases h
 | cons y t=>
   have h0:=hok y (List.mem_cons_self ..)
   have h1:∀x∈t,itemOk P S px x:=fun x hx=>hok x (List.mem_cons_of_mem _ hx)
   have h2:∀{x y:Item},itemOk P S px x→itemOk P S px y→∀z∈x::y::t,itemOk P S px z:=by
    intro x y hx hy z hz
    rcases List.mem_cons.1 hz with rfl|hz
    ·exact hx
    ·rcases List.mem_cons.1 hz with rfl|hz
     ·exact hy
     ·exact h1 z hz
   have h3:∀{x:Item},itemOk P S px x→∀z∈x::t,itemOk P S px z:=by
    intro x hx z hz
    rcases List.mem_cons.1 hz with rfl|hz
    ·exact hx
    ·exact h1 z hz
   cases y with
   | code c=>
     simp only[itemOk]at h0
     cases c with
     | skip=>cases h;exact h1
     | label=>cases h;exact h1
     | seq x y=>
       cases h
       simp only[codeOk,Bool.and_eq_true]at h0
       exact h2 (x:=.code x) (y:=.code y) h0.1 h0.2
     | cond c x y=>
       simp only[ctl]at h
       simp only[codeOk,Bool.and_eq_true]at h0
       split at h
       ·rename_i b hb
        cases h
        cases b
        ·exact h3 (x:=.code _) h0.2
        ·exact h3 (x:=.code _) h0.1
       ·cases h
     | block id c=>cases h;exact h2 (x:=.code c) (y:=.inBlock id) h0 trivial
     | loop c=>cases h;exact h2 (x:=.code c) (y:=.inLoop c) h0 h0
     | scope c=>cases h;exact h2 (x:=.code c) (y:=.inScope c) h0 h0
     | exit id=>exact fun x hx=>h1 x (exitTo_mem h x hx)
     | goto l=>exact gotoIn_ok h h1
     | region id ops d=>
       cases d with
       | false=>cases h;exact h3 (x:=.inRegion ops _) h0
       | true=>cases h
     | _=>cases h
   | inBlock=>cases h;exact h1
   | inScope=>cases h;exact h1
   | inLoop c=>cases h;exact h2 (x:=.code c) (y:=.inLoop c) h0 h0
   | inRegion ops l=>
     cases l with
     | nil=>cases h;exact h1
     | cons=>cases h
   | _=>cases h
theorem ctl_step{a:Act}{t t':List Item}(h:ctl a t=some t')(main:Bool)(b:Frame)(k:List Item)(cs:List Frame)(w:World):
 stepG P main (G (b.at a (t++k)) cs) w= .go (G (b.at a (t'++k)) cs) w:=by
 cases t with
 | nil=>cases h
 | cons y t=>
   cases y with
   | code c=>
     cases c with
     | skip=>cases h;exact stepG_skip
     | label=>cases h;exact stepG_label
     | seq x y=>cases h;exact stepG_seq
     | cond c x y=>
       simp only[ctl]at h
       split at h
       ·rename_i b hb
        cases h
        exact stepG_cond hb
       ·cases h
     | block id c=>cases h;exact stepG_block
     | loop c=>cases h;exact stepG_loop
     | scope c=>cases h;simp[G,stepG,stepG.exec,Frame.at]
     | exit id=>exact stepG_exit (exitTo_append k h)
     | goto l=>
       have:=gotoIn_append k h
       simp only[ctl]at h
       simp[G,stepG,stepG.exec,Frame.at,this]
     | region id ops d=>
       cases d with
       | false=>cases h;exact stepG_region
       | true=>cases h
     | _=>cases h
   | inBlock=>cases h;exact stepG_inBlock
   | inScope=>cases h;simp[G,stepG,stepG.exec,Frame.at]
   | inLoop c=>cases h;exact stepG_inLoop
   | inRegion ops l=>
     cases l with
     | nil=>cases h;exact stepG_region_end
     | cons=>cases h
   | _=>cases h
end
section
open Go Go.Conc
variable{P:Program}{F:Fz}{S:FuncId→Bool}{px:Bool}
def NoEarly(P:Program):Prop:=∀fr cs g w,∃o u,early P fr cs none g w= .ended o u
theorem noEarly_of(h1:P.follows .staticDataAhead=true)(h2:∀g,P.stepOf g=none):NoEarly P:=by
 intro fr cs g w
 refine⟨.unsupported (.initOrder g) (fr.pos P),w,?_⟩
 unfold early
 simp only[h1,h2,Bool.not_true,Bool.false_eq_true,if_false]
def StepDead(P:Program)(fr:Frame)(cs:List Frame)(v:World):Prop:=
 (∃o u,(stepG P true (G fr cs) v).bare= .ended o u)∨(∃u chain,(stepG P true (G fr cs) v).bare= .go (G {fr with mode:=.panicking chain} cs) u)
def endK : List Item := [.code (.refuse "")]
theorem bare_go_eq{s:GStep}{g:Goroutine}{u:World}{es:Array Event}(h:s= .go g u es):s.bare= .go g u:=by rw[h];rfl
inductive FOut(P:Program)(F:Fz)(S:FuncId→Bool)(px:Bool)(fn:FuncId)(a:Act)(t:List Item)(w:World):Prop
 | dead (h:∀(b:Frame) (k:List Item) (cs:List Frame),b.fn=fn→b.kind≠.early→(k=[]∨k=endK)→StepDead P (b.at a (t++k)) cs (mask F w))
 | go (a':Act) (t':List Item) (w':World) (es:Array Event) (j:Nat) (hd:a'.defers=[]) (hok:∀x∈t',itemOk P S px x) (hw:Wf F w') (hg:Grew F w w' j) (he:∀e∈es,EvT F e)
  (hs:∀(main:Bool) (b:Frame) (k:List Item) (cs:List Frame),b.fn=fn→b.kind≠.early→stepG P main (G (b.at a (t++k)) cs) w= .go (G (b.at a' (t'++k)) cs) w' es)
  (hl:∀(τ:Tape) (e:Nat) (b:Frame) (k:List Item) (cs:List Frame),Agree w j τ e→b.fn=fn→b.kind≠.early→(stepG P true (G (b.at a (t++k)) cs) (retape (mask F w) τ e)).bare= .go (G (b.at a' (t'++k)) cs) (retape (mask F w') τ (e+j)))
 | enter (f:FuncId) (args:Array Value) (w':World) (es:Array Event) (j:Nat) (hf:S f=true) (hb:∃fn c,P.funcs[f]? =some fn∧fn.body=some c) (ht:∃ops i rest t0,t= .inRegion ops (i::rest)::t0) (hw:Wf F w') (hg:Grew F w w' j) (he:∀e∈es,EvT F e)
  (hs:∀(main:Bool) (b:Frame) (k:List Item) (cs:List Frame),b.fn=fn→b.kind≠.early→stepG P main (G (b.at a (t++k)) cs) w= .go (G (Frame.enter P f args .normal) (b.at a (t++k)::cs)) w' es)
  (hl:∀(τ:Tape) (e:Nat) (b:Frame) (k:List Item) (cs:List Frame),Agree w j τ e→b.fn=fn→b.kind≠.early→(stepG P true (G (b.at a (t++k)) cs) (retape (mask F w) τ e)).bare= .go (G (Frame.enter P f args .normal) (b.at a (t++k)::cs)) (retape (mask F w') τ (e+j)))
theorem refuse_dead(b:Frame)(a:Act)(s:String)(t:List Item)(cs:List Frame)(v:World):StepDead P (b.at a (.code (.refuse s)::t)) cs v:=
 .inl ⟨.unsupported (Unsupported.elab s) ((b.at a (.code (.refuse s)::t)).pos P),v,by simp only[G,stepG,stepG.exec,Frame.at];rfl⟩
theorem stepG_noOper{b:Frame}{a:Act}{k:List Item}{cs:List Frame}{w:World}{main:Bool}{ops:Array Oper}{i:Nat}{rest:List Nat}(ho:ops[i]? =none):
 stepG P main (G (b.at a (.inRegion ops (i::rest)::k)) cs) w= .go (G (b.at a (.inRegion ops rest::k)) cs) w #[]:=by
 have hfin:(b.at a (.inRegion ops (i::rest)::k)).finish undef=b.at a (.inRegion ops rest::k):=by rw[Frame.finish_at,ho];rfl
 rw[← hfin]
 simp[G,stepG,stepG.exec,Frame.at,ho]
theorem evT_listed{o:Oper}{a:Act}{w:World}{fn:FuncId}{es:Array Event}(h:∀es₀,(execOp a.eval o).events P w es₀=es₀++es)(he:∀e∈es,EvT F e):∀e∈listed P fn a o w,EvT F e:=by
 intro e hm
 have:=mem_listed hm
 rw[h]at this
 exact he e (by simpa using this)
theorem put_defers(a:Act)(d:Option Tmp)(v:Value):(a.put d v).defers=a.defers:=by
 cases d<;>rfl
theorem frame_step(hC:Closed P S px)(hF:px=true→∀r,F r=none)(hE:NoEarly P){a:Act}{t:List Item}(fn:FuncId)(hd:a.defers=[])(hok:∀x∈t,itemOk P S px x)(hne:t≠[])
 (hret:∀t',t≠.code .ret::t') (w:World) (hw:Wf F w):FOut P F S px fn a t w:=by
 cases hc:ctl a t with
 | some t'=>
   exact .go a t' w #[] 0 hd (ctl_ok hc hok) hw (.refl _ _) (by simp) (fun main b k cs _ _=>ctl_step hc main b k cs w) (fun τ e b k cs _ _ _=>bare_go_eq (ctl_step hc true b k cs _))
 | none=>
   cases t with
   | nil=>exact absurd rfl hne
   | cons y t=>
     have h0:=hok y (List.mem_cons_self ..)
     have h1:∀x∈t,itemOk P S px x:=fun x hx=>hok x (List.mem_cons_of_mem _ hx)
     cases y with
     | code c=>
       cases c with
       | ret=>exact absurd rfl (hret t)
       | refuse s=>exact .dead fun b k cs _ _ _=>refuse_dead _ _ _ _ _ _
       | cond c x y=>
         refine .dead fun b k cs _ _ _=>.inl ?_
         simp only[ctl]at hc
         have he:=Frame.eval_at b a (.code (.cond c x y)::(t++k)) c
         simp only[Frame.at]at he
         cases hv:a.eval c with
         | bool b=>rw[hv]at hc;cases hc
         | _ => exact ⟨.stuck "cond: bool expected" ((b.at a (.code (.cond c x y) :: (t ++ k))).pos P), mask F w, by simp only [List.cons_append, G, stepG, stepG.exec, Frame.at, he, hv]; rfl⟩
       | exit id=>
         refine .dead fun b k cs _ _ hk=>.inl ?_
         have hx:exitTo id (t++k)=none:=by
          rw[exitTo_append_none k hc]
          rcases hk with rfl|rfl<;>rfl
         exact ⟨.stuck "exit, goto: no such block or label" ((b.at a (.code (.exit id) :: (t ++ k))).pos P), mask F w, by simp only [List.cons_append, G, stepG, stepG.exec, Frame.at, hx, Option.elim]; rfl⟩
       | goto l=>
         refine .dead fun b k cs _ _ hk=>.inl ?_
         have hx:gotoIn l (t++k)=none:=by
          rw[gotoIn_append_none k hc]
          rcases hk with rfl|rfl<;>rfl
         exact ⟨.stuck "exit, goto: no such block or label" ((b.at a (.code (.goto l) :: (t ++ k))).pos P), mask F w, by simp only [List.cons_append, G, stepG, stepG.exec, Frame.at, hx, Option.elim]; rfl⟩
       | rangeFunc=>simp[itemOk,codeOk]at h0
       | region id ops d=>
         cases d with
         | false=>cases hc
         | true=>
           simp only[itemOk,codeOk]at h0
           refine .go a (.inRegion ops (Region.schedule (P.follows .mixedOrders) ops (w.tape w.drawn (.order fn id)))::t) {w with drawn:=w.drawn+1} #[] 1 hd ?_ ⟨hw.own⟩ ⟨rfl,rfl,rfl,rfl,Nat.le_refl _,fun _ _ h=>.inr h,fun _ _=>rfl⟩ (by simp) (fun main b k cs hb _=>?_) (fun τ e b k cs ha hb _=>?_)
           ·intro z hz
            rcases List.mem_cons.1 hz with rfl|hz
            ·exact h0
            ·exact h1 z hz
           ·subst hb;exact stepG_region_draw
           ·subst hb
            refine bare_go_eq (es:= #[]) ((stepG_region_draw).trans ?_)
            have:=ha 0 (.order b.fn id) (by omega)
            simp only[Nat.add_zero]at this
            simp only[retape_tape,retape_drawn,this]
            rfl
       | _=>cases hc
     | inRegion ops l=>
       cases l with
       | nil=>cases hc
       | cons i rest=>
         cases ho:ops[i]? with
         | none=>
           refine .go a (.inRegion ops rest::t) w #[] 0 hd ?_ hw (.refl _ _) (by simp) (fun main b k cs _ _=>stepG_noOper ho) (fun τ e b k cs _ _ _=>bare_go_eq (stepG_noOper ho))
           intro z hz
           rcases List.mem_cons.1 hz with rfl|hz
           ·exact h0
           ·exact h1 z hz
         | some o=>
           have hput:∀(v:Value) (z:Item),z∈Item.inRegion ops rest::t→itemOk P S px z:=by
            intro v z hz
            rcases List.mem_cons.1 hz with rfl|hz
            ·exact h0
            ·exact h1 z hz
           cases hwt:Region.wanted o (yielded ops a.tmps)with
           | false=>
             exact .go (a.put o.dst undef) (.inRegion ops rest::t) w #[] 0 (by rw[put_defers];exact hd) (hput undef) hw (.refl _ _) (by simp) (fun main b k cs _ _=>stepG_unwanted ho hwt) (fun τ e b k cs _ _ _=>bare_go_eq (stepG_unwanted ho hwt))
           | true=>
             have hoo:opOk P S px o.op=true:=by
              simp only[itemOk,Array.all_eq_true_iff_forall_mem]at h0
              exact h0 o (Array.mem_of_getElem? ho)
             have hsim:=execOp_sims hC hF a.eval (fun _=>rfl) (fun _=>rfl) o hoo w hw
             have hkind:=execOp_kind hC a.eval (fun _=>rfl) o hoo
             cases hr:(execOp a.eval o).run P (mask F w)with
             | ok n u=>
               have hn:=hkind _ _ _ hr
               obtain⟨w',es,j,rfl,r1,e1,t1,g1,hw1,l1⟩:=hsim.ok hr
               cases n with
               | value v=>
                 refine .go (a.put o.dst v) (.inRegion ops rest::t) w' (listed P fn a o w) j (by rw[put_defers];exact hd) (hput v) hw1 g1 (evT_listed e1 t1) (fun main b k cs hb hk=>?_) (fun τ e b k cs ha hb hk=>?_)
                 ·subst hb;exact stepG_value ho hwt hk r1
                 ·exact bare_go_eq (stepG_value ho hwt hk (l1 τ e ha))
               | skip=>
                 refine .go (a.put o.dst undef) (.inRegion ops rest::t) w' (listed P fn a o w) j (by rw[put_defers];exact hd) (hput undef) hw1 g1 (evT_listed e1 t1) (fun main b k cs hb hk=>?_) (fun τ e b k cs ha hb hk=>?_)
                 ·subst hb;exact stepG_none ho hwt hk r1
                 ·exact bare_go_eq (stepG_none ho hwt hk (l1 τ e ha))
               | enter f args=>
                 refine .enter f args w' (listed P fn a o w) j hn.1 hn.2 ⟨_,_,_,_,rfl⟩ hw1 g1 (evT_listed e1 t1) (fun main b k cs hb hk=>?_) (fun τ e b k cs ha hb hk=>?_)
                 ·subst hb;exact stepG_enter ho hwt hk r1
                 ·exact bare_go_eq (stepG_enter ho hwt hk (l1 τ e ha))
               | _=>exact hn.elim
             | halt h u=>
               unfold SimAt at hsim
               rw[hr]at hsim
               refine .dead fun b k cs hb hk _=>?_
               have hk':(b.kind == CallKind.early)=false:=by simpa using hk
               have hst:=stepG_oper (P:=P) (main:=true) (b:=b) (k:=t++k) (cs:=cs) (w:=mask F w) (rest:=rest) ho hwt
               cases h with
               | panic v=>
                 right
                 refine⟨u,[{v,recovered:=false}],?_⟩
                 rw[List.cons_append,hst]
                 simp only[stepG.apply,Sem.runT_eq,hr,if_true,GStep.bare_after,GStep.bare_go,Frame.raise,Frame.at]
                 rfl
               | stuck s=>
                 left
                 refine⟨.stuck s ((b.at a (.inRegion ops (i::rest)::(t++k))).pos P),u,?_⟩
                 rw[List.cons_append,hst]
                 simp only[stepG.apply,Sem.runT_eq,hr,if_true,GStep.bare_after,GStep.bare_ended]
               | unsupported x=>
                 left
                 by_cases hx:∃g,x= .initOrder g
                 ·obtain⟨g,rfl⟩:=hx
                  obtain⟨o',u',h'⟩:=hE (b.at a (.inRegion ops (i::rest)::(t++k))) cs g u
                  refine⟨o',u',?_⟩
                  rw[List.cons_append,hst]
                  simp only[stepG.apply,Sem.runT_eq,hr,if_true,h',GStep.bare_after,GStep.bare_ended]
                 ·refine⟨.unsupported x ((b.at a (.inRegion ops (i::rest)::(t++k))).pos P),u,?_⟩
                  rw[List.cons_append,hst]
                  cases x<;>first
                   | exact absurd ⟨_,rfl⟩ hx
                   | simp only[stepG.apply,Sem.runT_eq,hr,if_true,GStep.bare_after,GStep.bare_ended]
               | _=>exact hsim.elim
     | inBlock=>cases hc
     | inScope=>cases hc
     | inLoop=>cases hc
     | _=>exact h0.elim
end
section
open Go Go.Conc
variable{P:Program}{F:Fz}{S:FuncId→Bool}{px:Bool}
structure Conf where
 us:List Frame
 a:Act
 t:List Item
def embF(b:Frame)(k:List Item)(C:Conf):Frame:=
 match C.us with
 | []=>b.at C.a (C.t++k)
 | f::_=>f
def embC(b:Frame)(k:List Item)(cs:List Frame)(C:Conf):List Frame:=
 match C.us with
 | []=>cs
 | _::us=>us++b.at C.a (C.t++k)::cs
def emb(b:Frame)(k:List Item)(cs:List Frame)(C:Conf):Goroutine:=G (embF b k C) (embC b k cs C)
def Waits(t:List Item):Prop:=∃ops i rest t0,t= .inRegion ops (i::rest)::t0
def UpRun(P:Program)(S:FuncId→Bool)(px:Bool)(fr:Frame):Prop:=
 ∃(b':Frame) (tm:Array Value) (todo:List Item),fr=b'.at ⟨tm,[]⟩ todo∧b'.kind= .normal∧S b'.fn=true∧(∀x∈todo,itemOk P S px x)
def UpWait(P:Program)(S:FuncId→Bool)(px:Bool)(fr:Frame):Prop:=
 ∃(b':Frame) (tm:Array Value) (todo:List Item),fr=b'.at ⟨tm,[]⟩ todo∧b'.kind= .normal∧S b'.fn=true∧(∀x∈todo,itemOk P S px x)∧Waits todo
def UpRet(P:Program)(S:FuncId→Bool)(fr:Frame):Prop:=
 ∃(b':Frame) (tm:Array Value) (todo:List Item),fr={b'.at ⟨tm,[]⟩ todo with mode:=.returning}∧b'.kind= .normal∧S b'.fn=true
structure ConfOk(P:Program)(S:FuncId→Bool)(px:Bool)(C:Conf):Prop where
 defers:C.a.defers=[]
 items:∀x∈C.t,itemOk P S px x
 top:∀f us,C.us=f::us→(UpRun P S px f∨UpRet P S f)∧(∀g∈us,UpWait P S px g)∧Waits C.t
def Arr(C:Conf):Prop:=C.us=[]∧(C.t=[]∨∃t',C.t= .code .ret::t')
inductive COut(P:Program)(F:Fz)(S:FuncId→Bool)(px:Bool)(fn:FuncId)(C:Conf)(w:World):Prop
 | dead (h:∀(b:Frame) (cs:List Frame),b.fn=fn→b.kind≠.early→StepDead P (embF b endK C) (embC b endK cs C) (mask F w))
 | go (C':Conf) (w':World) (es:Array Event) (j:Nat) (hok:ConfOk P S px C') (hw:Wf F w') (hg:Grew F w w' j) (he:∀e∈es,EvT F e)
  (hs:∀(main:Bool) (b:Frame) (k:List Item) (cs:List Frame),b.fn=fn→b.kind≠.early→stepG P main (emb b k cs C) w= .go (emb b k cs C') w' es)
  (hl:∀(τ:Tape) (e:Nat) (b:Frame) (k:List Item) (cs:List Frame),Agree w j τ e→b.fn=fn→b.kind≠.early→(stepG P true (emb b k cs C) (retape (mask F w) τ e)).bare= .go (emb b k cs C') (retape (mask F w') τ (e+j)))
theorem upRun_enter(hC:Closed P S px){f:FuncId}{args:Array Value}(hf:S f=true)(hb:∃fn c,P.funcs[f]? =some fn∧fn.body=some c):UpRun P S px (Frame.enter P f args .normal):=by
 obtain⟨fn,c,h1,h2⟩:=hb
 obtain⟨fn',h1',_,h3⟩:=hC f hf
 rw[h1]at h1'
 cases h1'
 rcases h3 with⟨c',hb',hok⟩|⟨hb',_⟩
 ·rw[h2]at hb'
  cases hb'
  refine⟨base f,_,_,enter_at args h1 h2,rfl,hf,fun x hx=>?_⟩
  simp only[List.mem_singleton]at hx
  subst hx
  exact hok
 ·rw[h2]at hb';cases hb'
theorem results_sims(fn:Func)(tm:Array Value):Sims P F (results fn tm):=by
 unfold results
 refine Sims.bind (Sims.mapMArray (fun r=>?_) _) fun _=>?_
 ·cases r with
  | tmp t=>exact Sims.pure' _
  | cell a t=>exact Sims.bind (Sims.asAddr _) fun _=>Sims.loadVar _ _
 ·exact Sims.pure' _
theorem stepG_ret_ok{main:Bool}{b:Frame}{tm:Array Value}{todo:List Item}{c:Frame}{cs:List Frame}{w w':World}{v:Value}{fn:Func}(hn:b.kind= .normal)(hf:P.funcs[b.fn]? =some fn)
 (hr:(results fn tm).run P w= .ok v w'):stepG P main (G {b.at ⟨tm,[]⟩ todo with mode:=.returning} (c::cs)) w= .go (G (c.finish v) cs) w' (seen P b.fn ((results fn tm).events P w #[])):=by
 simp[G,stepG,unwind,doReturn,Frame.at,hn,hf,hr,GStep.after]
theorem put_nil(tm:Array Value)(d:Option Tmp)(v:Value):∃tmx,(Act.mk tm []).put d v=⟨tmx,[]⟩:=by
 cases d<;>exact⟨_,rfl⟩
theorem evT_seen{fn:FuncId}{es:Array Event}(he:∀e∈es,EvT F e):∀e∈seen P fn es,EvT F e:=fun e h=>he e (mem_seen h)
theorem conf_step(hC:Closed P S px)(hF:px=true→∀r,F r=none)(hE:NoEarly P)(fn:FuncId){C:Conf}(hok:ConfOk P S px C)(hna:¬Arr C)(w:World)(hw:Wf F w):COut P F S px fn C w:=by
 obtain⟨us,a,t⟩:=C
 cases us with
 | nil=>
   have hne:t≠[]:=fun h=>hna ⟨rfl,.inl h⟩
   have hret:∀t',t≠.code .ret::t':=fun t' h=>hna ⟨rfl,.inr ⟨t',h⟩⟩
   rcases frame_step hC hF hE fn hok.defers hok.items hne hret w hw with h|⟨a',t',w',es,j,hd,hok',hw',hg,he,hs,hl⟩|⟨f,args,w',es,j,hf,hb,ht,hw',hg,he,hs,hl⟩
   ·exact .dead fun b cs hb hk=>h b endK cs hb hk (.inr rfl)
   ·exact .go ⟨[],a',t'⟩ w' es j ⟨hd,hok',fun f us h=>by cases h⟩ hw' hg he (fun main b k cs hb hk=>hs main b k cs hb hk) (fun τ e b k cs ha hb hk=>hl τ e b k cs ha hb hk)
   ·refine .go ⟨[Frame.enter P f args .normal],a,t⟩ w' es j ⟨hok.defers,hok.items,fun g us h=>?_⟩ hw' hg he (fun main b k cs hb hk=>hs main b k cs hb hk) (fun τ e b k cs ha hb hk=>hl τ e b k cs ha hb hk)
    cases h
    exact⟨.inl (upRun_enter hC hf hb),by simp,ht⟩
 | cons f us=>
   obtain⟨hf,hus,hwt⟩:=hok.top f us rfl
   rcases hf with⟨b',tm,todo,rfl,hk',hS',hit⟩|⟨b',tm,todo,rfl,hk',hS'⟩
   ·have hke:b'.kind≠.early:=by rw[hk'];simp
    by_cases hend:todo=[]∨∃t',todo= .code .ret::t'
    ·-- the upper frame's end
     have hst:∀(main:Bool) (cs:List Frame) (w:World),stepG P main (G (b'.at ⟨tm,[]⟩ todo) cs) w= .go (G {b'.at ⟨tm,[]⟩ todo with mode:=.returning} cs) w:=by
      intro main cs w
      rcases hend with rfl|⟨t',rfl⟩
      ·exact stepG_end
      ·exact stepG_ret'
     refine .go ⟨{b'.at ⟨tm,[]⟩ todo with mode:=.returning}::us,a,t⟩ w #[] 0 ⟨hok.defers,hok.items,fun g us' h=>?_⟩ hw (.refl _ _) (by simp) (fun main b k cs _ _=>hst _ _ _) (fun τ e b k cs _ _ _=>bare_go_eq (hst _ _ _))
     cases h
     exact⟨.inr ⟨b',tm,todo,rfl,hk',hS'⟩,hus,hwt⟩
    ·have hne:todo≠[]:=fun h=>hend (.inl h)
     have hret:∀t',todo≠.code .ret::t':=fun t' h=>hend (.inr ⟨t',h⟩)
     rcases frame_step (a:=⟨tm,[]⟩) hC hF hE b'.fn rfl hit hne hret w hw with h|⟨a',t',w',es,j,hd,hok',hw',hg,he,hs,hl⟩|⟨f,args,w',es,j,hf,hb,ht,hw',hg,he,hs,hl⟩
     ·refine .dead fun b cs hb hk=>?_
      have:=h b' [] (us++b.at a (t++endK)::cs) rfl hke (.inl rfl)
      rw[List.append_nil]at this
      exact this
     ·obtain⟨tm',df'⟩:=a'
      simp only at hd
      subst hd
      refine .go ⟨b'.at ⟨tm',[]⟩ t'::us,a,t⟩ w' es j ⟨hok.defers,hok.items,fun g us' h=>?_⟩ hw' hg he (fun main b k cs hb hk=>?_) (fun τ e b k cs ha hb hk=>?_)
      ·cases h
       exact⟨.inl ⟨b',tm',t',rfl,hk',hS',hok'⟩,hus,hwt⟩
      ·have:=hs main b' [] (us++b.at a (t++k)::cs) rfl hke
       rw[List.append_nil,List.append_nil]at this
       exact this
      ·have:=hl τ e b' [] (us++b.at a (t++k)::cs) ha rfl hke
       rw[List.append_nil,List.append_nil]at this
       exact this
     ·refine .go ⟨Frame.enter P f args .normal::b'.at ⟨tm,[]⟩ todo::us,a,t⟩ w' es j ⟨hok.defers,hok.items,fun g us' h=>?_⟩ hw' hg he (fun main b k cs hb hk=>?_) (fun τ e b k cs ha hb hk=>?_)
      ·cases h
       refine⟨.inl (upRun_enter hC hf hb),fun g hg=>?_,hwt⟩
       rcases List.mem_cons.1 hg with rfl|hg
       ·exact⟨b',tm,todo,rfl,hk',hS',hit,ht⟩
       ·exact hus g hg
      ·have:=hs main b' [] (us++b.at a (t++k)::cs) rfl hke
       rw[List.append_nil]at this
       exact this
      ·have:=hl τ e b' [] (us++b.at a (t++k)::cs) ha rfl hke
       rw[List.append_nil]at this
       exact this
   ·-- the upper frame returns
    obtain⟨fn',hfn',_,_⟩:=hC b'.fn hS'
    have hsim:=results_sims (P:=P) (F:=F) fn' tm w hw
    cases hr:(results fn' tm).run P (mask F w)with
    | halt h u=>
      refine .dead fun b cs hb hk=>.inl ?_
      simp only[embF,embC]
      cases us with
      | nil=>
        cases h with
        | stuck s=>exact⟨_,u,by simp only[G,stepG,unwind,Frame.at,hfn',Sem.runT_eq,hr,GStep.bare_after,GStep.bare_ended];rfl⟩
        | _ => exact ⟨.stuck "return: the result variables cannot be read" (({ b'.at ⟨tm, []⟩ todo with mode := .returning } : Frame).pos P), u, by simp only [G, stepG, unwind, Frame.at, hfn', Sem.runT_eq, hr, GStep.bare_after, GStep.bare_ended]⟩
      | cons g us=>
        cases h with
        | stuck s=>exact⟨_,u,by simp only[G,stepG,unwind,Frame.at,hfn',Sem.runT_eq,hr,GStep.bare_after,GStep.bare_ended];rfl⟩
        | _ => exact ⟨.stuck "return: the result variables cannot be read" (({ b'.at ⟨tm, []⟩ todo with mode := .returning } : Frame).pos P), u, by simp only [G, stepG, unwind, Frame.at, hfn', Sem.runT_eq, hr, GStep.bare_after, GStep.bare_ended]⟩
    | ok v u=>
      obtain⟨w',es,j,rfl,r1,e1,t1,g1,hw1,l1⟩:=hsim.ok hr
      have hev:∀e∈seen P b'.fn ((results fn' tm).events P w #[]),EvT F e:=evT_seen fun e h=>t1 e (by rw[e1]at h;simpa using h)
      cases us with
      | nil=>
        obtain⟨ops,i,rest,t0,rfl⟩:=hwt
        refine .go ⟨[],a.put ((ops[i]?).bind (·.dst)) v,.inRegion ops rest::t0⟩ w' _ j ⟨by rw[put_defers];exact hok.defers,fun x hx=>?_,fun g us h=>by cases h⟩ hw1 g1 hev (fun main b k cs hb hk=>?_) (fun τ e b k cs ha hb hk=>?_)
        ·rcases List.mem_cons.1 hx with rfl|hx
         ·exact hok.items (.inRegion ops (i::rest)) (List.mem_cons_self ..)
         ·exact hok.items x (List.mem_cons_of_mem _ hx)
        ·refine(stepG_ret_ok hk' hfn' r1).trans ?_
         rw[List.cons_append,Frame.finish_at]
         rfl
        ·have:=stepG_ret_ok (main:=true) (todo:=todo) (c:=b.at a (.inRegion ops (i::rest)::(t0++k))) (cs:=cs) hk' hfn' (l1 τ e ha)
         rw[Frame.finish_at]at this
         exact bare_go_eq this
      | cons g us=>
        obtain⟨b'',tm'',todo'',rfl,hk'',hS'',hit'',ops,i,rest,t0,rfl⟩:=hus g (List.mem_cons_self ..)
        obtain⟨tmx,hx⟩:∃tmx,(Act.mk tm'' []).put ((ops[i]?).bind (·.dst)) v=⟨tmx,[]⟩:=put_nil _ _ _
        refine .go ⟨b''.at ⟨tmx,[]⟩ (.inRegion ops rest::t0)::us,a,t⟩ w' _ j ⟨hok.defers,hok.items,fun g us' h=>?_⟩ hw1 g1 hev (fun main b k cs hb hk=>?_) (fun τ e b k cs ha hb hk=>?_)
        ·cases h
         refine⟨.inl ⟨b'',tmx,_,rfl,hk'',hS'',fun x hx=>?_⟩,fun g hg=>hus g (List.mem_cons_of_mem _ hg),hwt⟩
         rcases List.mem_cons.1 hx with rfl|hx
         ·exact hit'' (.inRegion ops (i::rest)) (List.mem_cons_self ..)
         ·exact hit'' x (List.mem_cons_of_mem _ hx)
        ·refine(stepG_ret_ok hk' hfn' r1).trans ?_
         rw[Frame.finish_at,hx]
         rfl
        ·have:=stepG_ret_ok (main:=true) (todo:=todo) (c:=b''.at ⟨tm'',[]⟩ (.inRegion ops (i::rest)::t0)) (cs:=us++b.at a (t++k)::cs) hk' hfn' (l1 τ e ha)
         rw[Frame.finish_at,hx]at this
         exact bare_go_eq this
end
section
open Go Go.Conc
variable{P:Program}{F:Fz}{S:FuncId→Bool}{px:Bool}
def trap : Frame := { fn := 0, tmps := #[], todo := [.code (.refuse "")], defers := [{ target := .nil, args := #[] }], mode := .run, kind := .normal }
def LM(fn:FuncId)(C:Conf)(u:World):Machine:=lone (embF (base fn) endK C) (embC (base fn) endK [trap] C) u
def Fin(fn:FuncId)(Q:Exit→Act→World→Prop)(m:Machine):Prop:=
 (∃a u,m=lone ((base fn).at a endK) [trap] u∧Q .normal a u)∨(∃a u todo,m=lone {(base fn).at a todo with mode:=.returning} [trap] u∧Q .ret a u∧a.defers=[])
theorem lone_inj{fr fr':Frame}{cs cs':List Frame}{w w':World}(h:lone fr cs w=lone fr' cs' w'):fr=fr'∧cs=cs'∧w=w':=by
 unfold lone at h
 simp only[Machine.mk.injEq]at h
 have h2:=h.2.1
 simp at h2
 exact⟨h2.1,h2.2,h.1⟩
theorem embC_ne(fn:FuncId)(C:Conf):embC (base fn) endK [trap] C≠[]:=by
 unfold embC
 split
 ·simp
 ·simp
theorem embC_one{fn:FuncId}{C:Conf}{f:Frame}(h:embC (base fn) endK [trap] C=[f]):C.us=[]:=by
 unfold embC at h
 split at h
 ·assumption
 ·rename_i us hus
  exfalso
  have:=congrArg List.length h
  simp at this
theorem run_ended{m:Machine}{o:Outcome}{u:World}(h:step P m= .ended o u)(n:Nat)(m':Machine):runN P (n+1) m≠.next m':=by
 simp[runN,h]
theorem run_succ{m m1:Machine}(h:step P m= .next m1)(n:Nat):runN P (n+1) m=runN P n m1:=by
 simp[runN,h]
theorem trap_ended(u:World):∃o v,step P (lone trap [] u)= .ended o v:=by
 refine ⟨.unsupported (Unsupported.elab "") (trap.pos P), u, step_lone_ended ?_⟩
 simp only[stepG,stepG.exec,trap]
 rfl
theorem ret_step(fn:FuncId)(a:Act)(todo:List Item)(v:World)(hd:a.defers=[]):
 (∃u,step P (lone {(base fn).at a todo with mode:=.returning} [trap] v)= .next (lone trap [] u))∨∃o x,step P (lone {(base fn).at a todo with mode:=.returning} [trap] v)= .ended o x:=by
 cases hf:P.funcs[fn]? with
 | none=>
   left
   exact⟨v,step_lone_go (by simp[stepG,unwind,doReturn,Frame.at,base,hd,hf,trap,Frame.finish])⟩
 | some f=>
   cases hr:(results f a.tmps).run P v with
   | ok x u=>
     left
     exact⟨u,step_lone_go (by simp[stepG,unwind,doReturn,Frame.at,base,hd,hf,trap,Frame.finish,hr])⟩
   | halt h u=>
     right
     cases h with
     | stuck s=>exact⟨.stuck s (({(base fn).at a todo with mode:=.returning}:Frame).pos P),u,step_lone_ended (by simp[stepG,unwind,Frame.at,base,hd,hf,hr])⟩
     | _ => exact ⟨.stuck "return: the result variables cannot be read" (({ (base fn).at a todo with mode := .returning } : Frame).pos P), u, step_lone_ended (by simp [stepG, unwind, Frame.at, base, hd, hf, hr])⟩
theorem fin_stop{fn:FuncId}{Q:Exit→Act→World→Prop}{m m':Machine}(h:Fin fn Q m)(n:Nat)(hr:runN P (n+1) m= .next m'):∀C u,m'≠LM fn C u:=by
 intro C u hm
 subst hm
 rcases h with⟨a,v,rfl,_⟩|⟨a,v,todo,rfl,_,hd⟩
 ·have:∃o x,step P (lone ((base fn).at a endK) [trap] v)= .ended o x:=by
   refine ⟨.unsupported (Unsupported.elab "") (((base fn).at a endK).pos P), v, step_lone_ended ?_⟩
   simp only[stepG,stepG.exec,endK,Frame.at]
   rfl
  obtain⟨o,x,hx⟩:=this
  exact run_ended hx _ _ hr
 ·rcases ret_step (P:=P) fn a todo v hd with⟨x,hx⟩|⟨o,x,hx⟩
  ·rw[run_succ hx]at hr
   cases n with
   | zero=>
     simp only[runN,Stepped.next.injEq]at hr
     exact embC_ne fn C (lone_inj hr).2.1.symm
   | succ n=>
     obtain⟨o,y,hy⟩:=trap_ended (P:=P) x
     exact run_ended hy _ _ hr
  ·exact run_ended hx _ _ hr
def PanM(m:Machine):Prop:=
 ∃fr cs u,m=lone fr cs u∧(∃chain,fr.mode= .panicking chain)∧
  ((fr.defers=[]∧∃cs',cs=cs'++[trap]∧∀g∈cs',g.mode= .run∧g.defers=[])∨(fr.defers=trap.defers∧cs=[]))
theorem panM_step{m:Machine}(h:PanM m):(∃m',step P m= .next m'∧PanM m')∨∃o u,step P m= .ended o u:=by
 obtain⟨fr,cs,u,rfl,⟨chain,hm⟩,h⟩:=h
 obtain⟨ffn,tm,todo,df,md,kd,ro⟩:=fr
 simp only at hm h
 subst hm
 rcases h with⟨hd,cs',rfl,hcs⟩|⟨hd,rfl⟩
 ·subst hd
  by_cases hc:Frame.catches P {fn:=ffn,tmps:=tm,todo:=todo,defers:=[],mode:=.panicking chain,kind:=kd,roundOf:=ro}=true
  ·right
   exact⟨_,u,step_lone_ended (by simp only[stepG,unwind,hc,if_true,GStep.bare_ended];rfl)⟩
  ·left
   have hc':Frame.catches P {fn:=ffn,tmps:=tm,todo:=todo,defers:=[],mode:=.panicking chain,kind:=kd,roundOf:=ro}=false:=by simpa using hc
   cases cs' with
   | nil=>
     refine⟨lone (trap.raise chain) [] u,step_lone_go (by simp only[stepG,unwind,hc',List.nil_append,Bool.false_eq_true,if_false,GStep.bare_go]),_,_,_,rfl,⟨chain,rfl⟩,.inr ⟨rfl,rfl⟩⟩
   | cons g cs'=>
     obtain⟨h1,h2⟩:=hcs g (List.mem_cons_self ..)
     have hr:g.raise chain={g with mode:=.panicking chain}:=by unfold Frame.raise;rw[h1]
     refine⟨lone (g.raise chain) (cs'++[trap]) u,step_lone_go (by simp only[stepG,unwind,hc',List.cons_append,Bool.false_eq_true,if_false,GStep.bare_go]),_,_,_,rfl,⟨chain,by rw[hr]⟩,.inl ⟨by rw[hr];exact h2,cs',rfl,fun x hx=>hcs x (List.mem_cons_of_mem _ hx)⟩⟩
 ·subst hd
  right
  exact⟨_,u,step_lone_ended (by simp only[stepG,unwind,callDeferred,trap];rfl)⟩
theorem panM_fin{fn:FuncId}{Q:Exit→Act→World→Prop}{m:Machine}(h:PanM m):∀n m',runN P n m= .next m'→¬Fin fn Q m':=by
 intro n
 induction n generalizing m with
 | zero=>
   intro m' hr hf
   simp only[runN,Stepped.next.injEq]at hr
   subst hr
   obtain⟨fr,cs,u,rfl,⟨chain,hm⟩,_⟩:=h
   rcases hf with⟨a,v,h1,_⟩|⟨a,v,todo,h1,_⟩
   ·rw[(lone_inj h1).1]at hm;cases hm
   ·rw[(lone_inj h1).1]at hm;cases hm
 | succ n ih=>
   intro m' hr
   rcases panM_step (P:=P) h with⟨m1,h1,h2⟩|⟨o,u,h1⟩
   ·rw[run_succ h1]at hr;exact ih h2 m' hr
   ·exact absurd hr (run_ended h1 _ _)
theorem lm_fin{fn:FuncId}{Q:Exit→Act→World→Prop}{C:Conf}{u:World}(hok:ConfOk P S px C)(h:Fin fn Q (LM fn C u)):C.us=[]∧C.t=[]∧Q .normal C.a u:=by
 rcases h with⟨a,v,h1,hq⟩|⟨a,v,todo,h1,_⟩
 ·obtain⟨h2,h3,h4⟩:=lone_inj h1
  have hus:=embC_one h3
  unfold embF at h2
  rw[hus]at h2
  simp only[Frame.at,Frame.mk.injEq]at h2
  obtain⟨_,h5,h6,h7,_⟩:=h2
  have h8:C.t=[]:=by
   have:=congrArg List.length h6
   simp at this
   exact this
  have h9:C.a=a:=by
   cases hC:C.a
   cases a
   rw[hC]at h5 h7
   simp only at h5 h7
   rw[h5,h7]
  exact⟨hus,h8,by rw[h9,h4];exact hq⟩
 ·obtain⟨h2,h3,_⟩:=lone_inj h1
  have hus:=embC_one h3
  unfold embF at h2
  rw[hus]at h2
  simp[Frame.at]at h2
theorem dead_fin{fn:FuncId}{Q:Exit→Act→World→Prop}{C:Conf}{u:World}(hok:ConfOk P S px C)(hna:¬Arr C)(h:StepDead P (embF (base fn) endK C) (embC (base fn) endK [trap] C) u):
 ∀n m',runN P n (LM fn C u)= .next m'→¬Fin fn Q m':=by
 intro n m' hr hf
 cases n with
 | zero=>
   simp only[runN,Stepped.next.injEq]at hr
   subst hr
   obtain⟨h1,h2,_⟩:=lm_fin hok hf
   exact hna ⟨h1,.inl h2⟩
 | succ n=>
   rcases h with⟨o,v,h⟩|⟨v,chain,h⟩
   ·exact run_ended (step_lone_ended h) _ _ hr
   ·have hs:step P (LM fn C u)= .next (lone {embF (base fn) endK C with mode:=.panicking chain} (embC (base fn) endK [trap] C) v):=step_lone_go h
    rw[run_succ hs]at hr
    refine panM_fin ?_ n m' hr hf
    refine⟨_,_,_,rfl,⟨chain,rfl⟩,.inl ?_⟩
    obtain⟨us,a,t⟩:=C
    cases us with
    | nil=>exact⟨hok.defers,[],rfl,by simp⟩
    | cons f us=>
      obtain⟨hf',hus,_⟩:=hok.top f us rfl
      refine⟨?_,us++[(base fn).at a (t++endK)],by simp[embC],fun g hg=>?_⟩
      ·rcases hf' with⟨b',tm,todo,rfl,_⟩|⟨b',tm,todo,rfl,_⟩<;>rfl
      ·rcases List.mem_append.1 hg with hg|hg
       ·obtain⟨b',tm,todo,rfl,_⟩:=hus g hg
        exact⟨rfl,rfl⟩
       ·simp only[List.mem_singleton]at hg
        subst hg
        exact⟨rfl,hok.defers⟩
theorem arr_fin{fn:FuncId}{Q:Exit→Act→World→Prop}{C:Conf}{u:World}(hok:ConfOk P S px C)(ha:Arr C){n:Nat}{m':Machine}(hr:runN P n (LM fn C u)= .next m')(hf:Fin fn Q m'):
 (C.t=[]∧Q .normal C.a u)∨((∃t',C.t= .code .ret::t')∧Q .ret C.a u):=by
 obtain⟨us,a,t⟩:=C
 obtain⟨h1,h2⟩:=ha
 simp only at h1 h2
 subst h1
 cases n with
 | zero=>
   simp only[runN,Stepped.next.injEq]at hr
   subst hr
   obtain⟨_,h3,h4⟩:=lm_fin hok hf
   exact .inl ⟨h3,h4⟩
 | succ n=>
   rcases h2 with rfl|⟨t',rfl⟩
   ·exfalso
    have:∃o x,step P (LM fn ⟨[],a,[]⟩ u)= .ended o x:=by
     refine ⟨.unsupported (Unsupported.elab "") (((base fn).at a endK).pos P), u, step_lone_ended ?_⟩
     simp only[embF,embC,List.nil_append,stepG,stepG.exec,endK,Frame.at]
     rfl
    obtain⟨o,x,hx⟩:=this
    exact run_ended hx _ _ hr
   ·have hs:step P (LM fn ⟨[],a,.code .ret::t'⟩ u)= .next (lone {(base fn).at a (.code .ret::(t'++endK))with mode:=.returning} [trap] u):=step_ret
    rw[run_succ hs]at hr
    right
    refine⟨⟨t',rfl⟩,?_⟩
    cases n with
    | zero=>
      simp only[runN,Stepped.next.injEq]at hr
      subst hr
      rcases hf with⟨a',v,h3,_⟩|⟨a',v,todo,h3,hq,_⟩
      ·obtain⟨h4,_⟩:=lone_inj h3
       simp[Frame.at]at h4
      ·obtain⟨h4,_,h5⟩:=lone_inj h3
       simp only[Frame.at,Frame.mk.injEq]at h4
       obtain⟨_,h6,_,h7,_⟩:=h4
       have h9:a=a':=by cases a;cases a';simp only at h6 h7;rw[h6,h7]
       rw[h9,h5];exact hq
    | succ n=>
      exfalso
      rcases ret_step (P:=P) fn a (.code .ret::(t'++endK)) u hok.defers with⟨x,hx⟩|⟨o,x,hx⟩
      ·rw[run_succ hx]at hr
       cases n with
       | zero=>
         simp only[runN,Stepped.next.injEq]at hr
         subst hr
         rcases hf with⟨a',v,h3,_⟩|⟨a',v,todo,h3,_⟩
         ·exact absurd (lone_inj h3).2.1 (by simp)
         ·exact absurd (lone_inj h3).2.1 (by simp)
       | succ n=>
         obtain⟨o,y,hy⟩:=trap_ended (P:=P) x
         exact run_ended hy _ _ hr
      ·exact run_ended hx _ _ hr
end
section
open Go Go.Conc
variable{P:Program}{F:Fz}{S:FuncId→Bool}{px:Bool}
def GuarE(F:Fz)(w w':World)(es:Array Event):Prop:=(∃j,Grew F w w' j)∧∀e∈es,EvT F e
inductive Own(P:Program)(main:Bool)(F:Fz)(Stop:Goroutine→World→Prop):Goroutine→World→Prop
 | stop {g:Goroutine} {w:World} (h:∀d,Stop g (w.at d)):Own P main F Stop g w
 | step' {g:Goroutine} {w:World} (hr:g.status= .running) (g':Nat→Goroutine) (w':Nat→World) (es:Nat→Array Event) (hs:∀d,stepG P main g (w.at d)= .go (g' d) (w' d) (es d)) (hg:∀d,GuarE F (w.at d) (w' d) (es d))
  (h:∀d,Own P main F Stop (g' d) (w' d)):Own P main F Stop g w
theorem Own.step{main:Bool}{Stop:Goroutine→World→Prop}{g:Goroutine}{w:World}(hr:g.status= .running)(h:∀d,∃g' w' es,stepG P main g (w.at d)= .go g' w' es∧GuarE F (w.at d) w' es∧Own P main F Stop g' w'):Own P main F Stop g w:=
 .step' hr (fun d=>(h d).choose) (fun d=>(h d).choose_spec.choose) (fun d=>(h d).choose_spec.choose_spec.choose) (fun d=>(h d).choose_spec.choose_spec.choose_spec.1) (fun d=>(h d).choose_spec.choose_spec.choose_spec.2.1) (fun d=>(h d).choose_spec.choose_spec.choose_spec.2.2)
theorem Own.bind{main:Bool}{Stop Stop':Goroutine→World→Prop}{g:Goroutine}{w:World}(h:Own P main F Stop g w)(hk:∀(g:Goroutine) (w:World),(∀d,Stop g (w.at d))→Own P main F Stop' g w):Own P main F Stop' g w:=by
 induction h with
 | stop h=>exact hk _ _ h
 | step' hr g' w' es hs hg _ ih=>exact .step' hr g' w' es hs hg ih
structure St(P:Program)(F:Fz)(S:FuncId→Bool)(px:Bool)(fn:FuncId)(C:Conf)(w:World)(C':Conf)(w':World)(es:Array Event)(j:Nat):Prop where
 hok:ConfOk P S px C'
 hw:Wf F w'
 hg:Grew F w w' j
 he:∀e∈es,EvT F e
 hs:∀(main:Bool) (b:Frame) (k:List Item) (cs:List Frame),b.fn=fn→b.kind≠.early→stepG P main (emb b k cs C) w= .go (emb b k cs C') w' es
 hl:∀(τ:Tape) (e:Nat),Agree w j τ e→step P (LM fn C (retape (mask F w) τ e))= .next (LM fn C' (retape (mask F w') τ (e+j)))
theorem st_of(fn:FuncId){C:Conf}{w:World}(h:COut P F S px fn C w)(hnd:¬StepDead P (embF (base fn) endK C) (embC (base fn) endK [trap] C) (mask F w)):∃C' w' es j,St P F S px fn C w C' w' es j:=by
 cases h with
 | dead h=>exact absurd (h (base fn) [trap] rfl (by simp[base])) hnd
 | go C' w' es j hok hw hg he hs hl=>exact⟨C',w',es,j,hok,hw,hg,he,hs,fun τ e ha=>step_lone_go (hl τ e (base fn) endK [trap] ha rfl (by simp[base]))⟩
def GoalQ(Q:Exit→Act→World→Prop)(F:Fz)(C:Conf)(w:World):Prop:=
 C.us=[]∧((C.t=[]∧∃τ e,Q .normal C.a (retape (mask F w) τ e))∨((∃t',C.t= .code .ret::t')∧∃τ e,Q .ret C.a (retape (mask F w) τ e)))
inductive Tr(P:Program)(F:Fz)(S:FuncId→Bool)(px:Bool)(fn:FuncId)(Q:Exit→Act→World→Prop):Conf→World→Prop
 | arr {C:Conf} {w:World} (hok:ConfOk P S px C) (hw:Wf F w) (h:GoalQ Q F C w):Tr P F S px fn Q C w
 | step' {C:Conf} {w:World} (C':Tape→Nat→Conf) (w':Tape→Nat→World) (hs:∀τ e,∃es j,St P F S px fn C (retape w τ e) (C' τ e) (w' τ e) es j) (h:∀τ e,Tr P F S px fn Q (C' τ e) (w' τ e)):Tr P F S px fn Q C w
theorem Tr.step{fn:FuncId}{Q:Exit→Act→World→Prop}{C:Conf}{w:World}(h:∀τ e,∃C' w' es j,St P F S px fn C (retape w τ e) C' w' es j∧Tr P F S px fn Q C' w'):Tr P F S px fn Q C w:=
 .step' (fun τ e=>(h τ e).choose) (fun τ e=>(h τ e).choose_spec.choose) (fun τ e=>⟨(h τ e).choose_spec.choose_spec.choose,(h τ e).choose_spec.choose_spec.choose_spec.choose,(h τ e).choose_spec.choose_spec.choose_spec.choose_spec.1⟩)
  (fun τ e=>(h τ e).choose_spec.choose_spec.choose_spec.choose_spec.2)
structure Node(P:Program)(F:Fz)(S:FuncId→Bool)(px:Bool)(fn:FuncId)(Q:Exit→Act→World→Prop)(C0:Conf)(w0:World)where
 C:Conf
 w:World
 p:Tape
 E:Nat
 k:Nat
 ok:ConfOk P S px C
 wf:Wf F w
 bad:¬Tr P F S px fn Q C w
 run:∀τ:Tape,(∀i q,i<E→τ i q=p i q)→runN P k (LM fn C0 (retape (mask F w0) τ 0))= .next (LM fn C (retape (mask F w) τ E))
theorem runN_split{a b:Nat}{m m1 m2:Machine}(h1:runN P a m= .next m1)(h2:runN P (a+b) m= .next m2):runN P b m1= .next m2:=by
 rw[runN_add,h1]at h2;exact h2
theorem node_reach{fn:FuncId}{Q:Exit→Act→World→Prop}{C0:Conf}{w0:World}(H:∀τ,∃n m,runN P n (LM fn C0 (retape (mask F w0) τ 0))= .next m∧Fin fn Q m)(N:Node P F S px fn Q C0 w0)(τ:Tape)
 (hτ:∀i q,i<N.E→τ i q=N.p i q):∃n m,runN P n (LM fn N.C (retape (mask F N.w) τ N.E))= .next m∧Fin fn Q m:=by
 obtain⟨n,m,hn,hf⟩:=H τ
 have hk:=N.run τ hτ
 rcases Nat.lt_or_ge n N.k with h|h
 ·exfalso
  have h2:N.k=n+(N.k - n - 1+1):=by omega
  rw[h2]at hk
  exact fin_stop hf _ (runN_split hn hk) _ _ rfl
 ·have h2:n=N.k+(n - N.k):=by omega
  rw[h2]at hn
  exact⟨n - N.k,m,runN_split hk hn,hf⟩
theorem node_next(hC:Closed P S px)(hF:px=true→∀r,F r=none)(hE:NoEarly P){fn:FuncId}{Q:Exit→Act→World→Prop}{C0:Conf}{w0:World}(H:∀τ,∃n m,runN P n (LM fn C0 (retape (mask F w0) τ 0))= .next m∧Fin fn Q m)
 (N:Node P F S px fn Q C0 w0):∃N':Node P F S px fn Q C0 w0,N'.k=N.k+1∧N.E≤N'.E∧∀i q,i<N.E→N'.p i q=N.p i q:=by
 have hna:¬Arr N.C:=by
  intro ha
  obtain⟨n,m,hn,hf⟩:=node_reach H N N.p (fun _ _ _=>rfl)
  refine N.bad (.arr N.ok N.wf ⟨ha.1,?_⟩)
  rcases arr_fin N.ok ha hn hf with⟨h1,h2⟩|⟨h1,h2⟩
  ·exact .inl ⟨h1,_,_,h2⟩
  ·exact .inr ⟨h1,_,_,h2⟩
 obtain⟨σ,e0,hbad⟩:∃σ e0,∀C' w' es j,St P F S px fn N.C (retape N.w σ e0) C' w' es j→¬Tr P F S px fn Q C' w':=by
  apply Classical.byContradiction
  intro hno
  refine N.bad (.step fun τ e=>?_)
  apply Classical.byContradiction
  intro h2
  exact hno ⟨τ,e,fun C' w' es j hst htr=>h2 ⟨C',w',es,j,hst,htr⟩⟩
 have e1:∀q i,(fun i q=>if i<N.E then N.p i q else σ (e0+(i - N.E)) q:Tape) (N.E+i) q=σ (e0+i) q:=by
  intro q i
  simp only[if_neg (show ¬(N.E+i<N.E)by omega),Nat.add_sub_cancel_left]
 obtain⟨n,m,hn,hf⟩:=node_reach H N (fun i q=>if i<N.E then N.p i q else σ (e0+(i - N.E)) q) (fun i q hi=>by simp only[if_pos hi])
 generalize hτ2:(fun i q=>if i<N.E then N.p i q else σ (e0+(i - N.E)) q:Tape)=τ2 at e1 hn
 have hstep2:=conf_step hC hF hE fn N.ok hna (retape N.w τ2 N.E) (N.wf.retape _ _)
 have hnd2:¬StepDead P (embF (base fn) endK N.C) (embC (base fn) endK [trap] N.C) (mask F (retape N.w τ2 N.E)):=fun hd=>dead_fin N.ok hna hd n m hn hf
 obtain⟨C2,w2,es2,j2,hst2⟩:=st_of fn hstep2 hnd2
 have hloc:=hst2.hl σ e0 (fun i q hi=>(e1 q i).symm)
 have hstep1:=conf_step hC hF hE fn N.ok hna (retape N.w σ e0) (N.wf.retape _ _)
 have hnd1:¬StepDead P (embF (base fn) endK N.C) (embC (base fn) endK [trap] N.C) (mask F (retape N.w σ e0)):=by
  intro hd
  have hm:(LM fn N.C (retape (mask F (retape N.w τ2 N.E)) σ e0))=lone (embF (base fn) endK N.C) (embC (base fn) endK [trap] N.C) (mask F (retape N.w σ e0)):=rfl
  rw[hm]at hloc
  rcases hd with⟨o,v,h⟩|⟨v,chain,h⟩
  ·rw[step_lone_ended h]at hloc;cases hloc
  ·have h3:=(step_lone_go h).symm.trans hloc
   simp only[Stepped.next.injEq]at h3
   have h4:=(lone_inj h3).1
   have h5:=congrArg Frame.mode h4
   simp only at h5
   have h6:=hst2.hok
   unfold embF at h5
   split at h5
   ·cases h5
   ·rename_i f us hus
    rcases(h6.top f us hus).1 with⟨b',tm,todo,rfl,_⟩|⟨b',tm,todo,rfl,_⟩<;>cases h5
 obtain⟨C1,w1,es1,j1,hst1⟩:=st_of fn hstep1 hnd1
 refine⟨⟨C1,w1,τ2,N.E+j1,N.k+1,hst1.hok,hst1.hw,hbad _ _ _ _ hst1,fun τ ha=>?_⟩,rfl,Nat.le_add_right _ _,fun i q hi=>?_⟩
 ·have hk:=N.run τ (fun i q hi=>by rw[ha i q (by omega),← hτ2];simp only[if_pos hi])
  rw[runN_add,hk]
  have:=hst1.hl τ N.E (fun i q hi=>by rw[ha (N.E+i) q (by omega)];exact e1 q i)
  simp only[runN]
  rw[show LM fn N.C (retape (mask F N.w) τ N.E)=LM fn N.C (retape (mask F (retape N.w σ e0)) τ N.E)from rfl,this]
 ·show τ2 i q=_
  rw[← hτ2];simp only[if_pos hi]
open Classical in
theorem tree(hC:Closed P S px)(hF:px=true→∀r,F r=none)(hE:NoEarly P){fn:FuncId}{Q:Exit→Act→World→Prop}{C0:Conf}{w0:World}(hok:ConfOk P S px C0)(hw:Wf F w0)
 (H:∀τ,∃n m,runN P n (LM fn C0 (retape (mask F w0) τ 0))= .next m∧Fin fn Q m):Tr P F S px fn Q C0 w0:=by
 apply Classical.byContradiction
 intro hbad
 let N0:Node P F S px fn Q C0 w0:=⟨C0,w0,fun _ _=>0,0,0,hok,hw,hbad,fun τ _=>rfl⟩
 let nx:Node P F S px fn Q C0 w0→Node P F S px fn Q C0 w0:=fun N=>Classical.choose (node_next hC hF hE H N)
 have hnx:∀N,(nx N).k=N.k+1∧N.E≤(nx N).E∧∀i q,i<N.E→(nx N).p i q=N.p i q:=fun N=>Classical.choose_spec (node_next hC hF hE H N)
 let seq:Nat→Node P F S px fn Q C0 w0:=fun n=>Nat.rec N0 (fun _ N=>nx N) n
 have hk:∀n,(seq n).k=n:=by
  intro n
  induction n with
  | zero=>rfl
  | succ n ih=>have:=(hnx (seq n)).1;rw[ih]at this;exact this
 have hmono:∀d n,(seq n).E≤(seq (n+d)).E∧∀i q,i<(seq n).E→(seq (n+d)).p i q=(seq n).p i q:=by
  intro d
  induction d with
  | zero=>intro n;exact⟨Nat.le_refl _,fun _ _ _=>rfl⟩
  | succ d ih=>
    intro n
    obtain⟨h1,h2⟩:=ih n
    obtain⟨_,h3,h4⟩:=hnx (seq (n+d))
    exact⟨Nat.le_trans h1 h3,fun i q hi=>(h4 i q (by omega)).trans (h2 i q hi)⟩
 let L:Tape:=fun i q=>if h:∃m,i<(seq m).E then(seq (Classical.choose h)).p i q else 0
 have hL:∀m i q,i<(seq m).E→L i q=(seq m).p i q:=by
  intro m i q hi
  have hex:∃m,i<(seq m).E:=⟨m,hi⟩
  show(if h:∃m,i<(seq m).E then(seq (Classical.choose h)).p i q else 0)=_
  rw[dif_pos hex]
  have hc:=Classical.choose_spec hex
  generalize Classical.choose hex=m' at hc
  rcases Nat.le_total m m' with h|h
  ·obtain⟨d,rfl⟩:=Nat.exists_eq_add_of_le h
   exact(hmono d m).2 i q hi
  ·obtain⟨d,rfl⟩:=Nat.exists_eq_add_of_le h
   exact((hmono d m').2 i q hc).symm
 obtain⟨n,m,hn,hf⟩:=H L
 have hr:=(seq (n+1)).run L (hL (n+1))
 rw[hk (n+1)]at hr
 exact fin_stop hf 0 (runN_split hn hr) _ _ rfl
def Gd(F:Fz)(w w':World):Prop:=Grew F (w.at w'.drawn) w' 0
theorem Gd.refl(F:Fz)(w:World):Gd F w w:=Grew.refl F w
theorem Gd.of_grew{w w':World}{j d:Nat}(h:Grew F (w.at d) w' j):Gd F w w':=⟨h.tape,rfl,h.os,h.output,h.size,h.objs,h.keep⟩
theorem Gd.trans{a b c:World}(h:Gd F a b)(k:Gd F b c):Gd F a c:=by
 have:=Grew.trans (a:=a.at c.drawn) (b:=b.at c.drawn) (i:=0) ⟨h.tape,rfl,h.os,h.output,h.size,h.objs,h.keep⟩ k
 exact⟨this.tape,rfl,this.os,this.output,this.size,this.objs,this.keep⟩
theorem own_of_tree{fn:FuncId}{Q:Exit→Act→World→Prop}{main:Bool}{b:Frame}{k:List Item}{cs:List Frame}{Stop:Goroutine→World→Prop}(hb:b.fn=fn)(hk:b.kind≠.early){C0:Conf}{w0 w00:World}
 (hfin:∀C w,GoalQ Q F C w→ConfOk P S px C→Wf F w→Gd F w00 w→Own P main F Stop (emb b k cs C) w) (h:Tr P F S px fn Q C0 w0) (h0:Gd F w00 w0):
 Own P main F Stop (emb b k cs C0) w0:=by
 induction h with
 | @arr C w hok hw hq=>exact hfin _ _ hq hok hw h0
 | @step' C w C' w' hs _ ih=>
   refine .step rfl fun d=>?_
   obtain⟨es,j,hst⟩:=hs w.tape d
   exact⟨_,_,es,hst.hs main b k cs hb hk,⟨⟨j,hst.hg⟩,hst.he⟩,ih w.tape d (h0.trans (Gd.of_grew hst.hg))⟩
theorem arrives_fin{fn:FuncId}{Q:Exit→Act→World→Prop}(hQ:∀e a w,Q e a w→e= .normal∨(e= .ret∧a.defers=[])){a:Act}{c:Code}{u:World}(h:c.wp P Q a u):
 ∃n m,runN P n (LM fn ⟨[],a,[.code c]⟩ u)= .next m∧Fin fn Q m:=by
 obtain⟨e,a',w',hq,har⟩:=h (base fn) endK [trap]
 rcases hQ e a' w' hq with rfl|⟨rfl,hd⟩
 ·obtain⟨n,hn⟩:=har
  exact⟨n,_,hn,.inl ⟨a',w',rfl,hq⟩⟩
 ·obtain⟨todo,n,hn⟩:=har
  exact⟨n,_,hn,.inr ⟨a',w',todo,rfl,hq,hd⟩⟩
theorem lift(hC:Closed P S px)(hF:px=true→∀r,F r=none)(hE:NoEarly P){c:Code}(hc:codeOk P S px c=true){Q:Exit→Act→World→Prop}{a:Act}{w:World}(hw:Wf F w)(hd:a.defers=[])
 (hQ:∀e a w,Q e a w→e= .normal∨(e= .ret∧a.defers=[])) (H:∀τ e,c.wp P Q a (retape (mask F w) τ e)) {main:Bool} {b:Frame} {k:List Item} {cs:List Frame} {Stop:Goroutine→World→Prop} (hk:b.kind≠.early)
 (hn:∀a' w' τ e,Q .normal a' (retape (mask F w') τ e)→Wf F w'→Gd F w w'→Own P main F Stop (G (b.at a' k) cs) w')
 (hr:∀a' w' τ e t',Q .ret a' (retape (mask F w') τ e)→Wf F w'→Gd F w w'→Own P main F Stop (G {b.at a' (.code .ret::t')with mode:=.returning} cs) w'):
 Own P main F Stop (G (b.at a (.code c::k)) cs) w:=by
 have hok:ConfOk P S px ⟨[],a,[.code c]⟩:=⟨hd,fun x hx=>by simp only[List.mem_singleton]at hx;subst hx;exact hc,fun f us h=>by cases h⟩
 have ht:Tr P F S px b.fn Q ⟨[],a,[.code c]⟩ w:=tree hC hF hE hok hw fun τ=>arrives_fin hQ (H τ 0)
 refine own_of_tree (b:=b) (k:=k) (cs:=cs) rfl hk (w00:=w) (fun C w' hg hok' hw' hgd=>?_) ht (.refl _ _)
 obtain⟨us,a',t⟩:=C
 obtain⟨hus,hg⟩:=hg
 simp only at hus
 subst hus
 rcases hg with⟨h1,τ,e,h2⟩|⟨⟨t',h1⟩,τ,e,h2⟩
 ·simp only at h1
  subst h1
  exact hn a' w' τ e h2 hw' hgd
 ·simp only at h1
  subst h1
  refine .step rfl fun d=>⟨_,_,#[],stepG_ret',⟨⟨0,.refl _ _⟩,by simp⟩,?_⟩
  have h3:Gd F w' (w'.at d):=Gd.of_grew (d:=d) (Grew.refl F (w'.at d))
  exact hr a' (w'.at d) τ e _ h2 ⟨hw'.own⟩ (hgd.trans h3)
end
section
open Go Go.Conc
open Go.ConcN (sumTo upd sumTo_upd upd_ne upd_same)
variable{P:Program}{F:Fz}
theorem low_some(e:Event):∃B,(MemAct.ofEvent e).low B:=by
 cases h:MemAct.ofEvent e with
 | access e'=>
   obtain⟨loc,wr,sy⟩:=e'
   cases loc with
   | cell a=>exact⟨a.block+1,Nat.lt_succ_self _⟩
   | obj r=>exact⟨r+1,Nat.lt_succ_self _⟩
   | _=>exact⟨0,trivial⟩
 | mark m=>
   cases m with
   | acquire a=>exact⟨a.block+1,Nat.lt_succ_self _⟩
   | release a=>exact⟨a.block+1,Nat.lt_succ_self _⟩
   | releaseMerge a=>exact⟨a.block+1,Nat.lt_succ_self _⟩
   | read a=>exact⟨a.block+1,Nat.lt_succ_self _⟩
   | write a=>exact⟨a.block+1,Nat.lt_succ_self _⟩
   | _=>exact⟨0,trivial⟩
 | send c k=>exact⟨c+1,Nat.lt_succ_self _⟩
 | sendDone c k=>exact⟨c+1,Nat.lt_succ_self _⟩
 | recv c k n=>exact⟨c+1,Nat.lt_succ_self _⟩
 | recvDone c k=>exact⟨c+1,Nat.lt_succ_self _⟩
 | close c=>exact⟨c+1,Nat.lt_succ_self _⟩
 | recvClosed c=>exact⟨c+1,Nat.lt_succ_self _⟩
 | _=>exact⟨0,trivial⟩
theorem low_all(es:Array Event)(B0:Nat):∃B,B0≤B∧∀e∈es,(MemAct.ofEvent e).low B:=by
 obtain⟨l⟩:=es
 induction l with
 | nil=>exact⟨B0,Nat.le_refl _,by simp⟩
 | cons x l ih=>
   obtain⟨B1,h0,h1⟩:=ih
   obtain⟨B2,h2⟩:=low_some x
   refine⟨max B1 B2,by omega,fun e he=>?_⟩
   simp only[List.mem_toArray,List.mem_cons]at he
   rcases he with rfl|he
   ·exact MemAct.low_mono (Nat.le_max_right _ _) h2
   ·exact MemAct.low_mono (Nat.le_max_left _ _) (h1 e (by simpa using he))
theorem evT_loud{e:Event}(h:EvT F e):e.loc≠.mark .disable∧e.loc≠.mark .enable:=by
 constructor
 ·intro h1
  rcases h.2 _ h1 with h|⟨f,h⟩<;>cases h
 ·intro h1
  rcases h.2 _ h1 with h|⟨f,h⟩<;>cases h
abbrev NoShun:Loc→Prop:=fun _=>False
theorem past_own{B:Nat}{t:Trace}(h:Past NoShun B t){es:Array Event}(he:∀e∈es,EvT F e)(fn:FuncId)(pos:String):∃B',Past NoShun B' (t++MemOp.ofEvents 0 fn pos es):=by
 obtain⟨B',h1,h2⟩:=low_all es B
 exact⟨B',(h.mono h1).own fun e hm=>⟨fun _ _ hs=>hs.elim,(evT_loud (he e hm)).1,(evT_loud (he e hm)).2,h2 e hm⟩⟩
structure Anchor where
 b:Nat
 W0:World
structure Anchor.Holds(A:Anchor)(w:World):Prop where
 os:w.os=A.W0.os
 output:w.output=A.W0.output
 tape:w.tape=A.W0.tape
 low:A.b≤w.heap.size
 obj:∀(r:Nat) (o:Obj),r<A.b→A.W0.heap[r]? =some o→(∀c e z,o≠.cells c e z)→w.heap[r]? =some o
variable{A:Anchor}
theorem Anchor.Holds.at{w:World}(h:A.Holds w)(d:Nat):A.Holds (w.at d):=⟨h.os,h.output,h.tape,h.low,h.obj⟩
theorem Anchor.Holds.grew{w w':World}{j:Nat}(h:A.Holds w)(hg:Grew F w w' j):A.Holds w':=
 ⟨hg.os.trans h.os,hg.output.trans h.output,hg.tape.trans h.tape,Nat.le_trans h.low hg.size,fun r o hr ho hn=>by
  rcases hg.objs r o (h.obj r o hr ho hn)with⟨c,e,z,c',h1,_⟩|h1
  ·exact absurd h1 (hn c e z)
  ·exact h1⟩
theorem Anchor.Holds.gd{w w':World}(h:A.Holds w)(hg:Gd F w w'):A.Holds w':=(h.at w'.drawn).grew hg
theorem Anchor.Holds.setChan{w:World}(h:A.Holds w){c:Nat}(hc:A.b≤c)(cap:Nat)(buf:Array Value)(cl:Bool)(s r:Nat)(tm:Bool):A.Holds (w.setChan c cap buf cl s r tm):=
 ⟨h.os,h.output,h.tape,by have:=h.low;simpa [World.setChan]using this,fun q o hq ho hn=>by
  rw[← h.obj q o hq ho hn]
  simp[World.setChan,Array.getElem?_setIfInBounds_ne (show c≠q by omega)]⟩
def Bes(A:Anchor)(P:Program)(Stop:Goroutine→World→Prop)(g:Goroutine)(w:World):Prop:=
 ∀(gs:Array Goroutine) (sl:Option (Nat×Nat)) (T:Trace) (q:Nat→Nat) (B:Nat),gs[0]? =some g→Leavers P T gs q→Past NoShun B T→A.Holds w→
  ∃(N:Nat) (gs':Array Goroutine) (g':Goroutine) (w':World) (sl':Option (Nat×Nat)) (T':Trace) (q':Nat→Nat) (B':Nat),
   runNT P N (crowd gs w sl) T=(.next (crowd gs' w' sl'),T')∧gs'[0]? =some g'∧Stop g' w'∧Leavers P T' gs' q'∧Past NoShun B' T'∧A.Holds w'
theorem Bes.stop{Stop:Goroutine→World→Prop}{g:Goroutine}{w:World}(h:Stop g w):Bes A P Stop g w:=
 fun gs sl T q B h0 hL hP hA=>⟨0,gs,g,w,sl,T,q,B,rfl,h0,h,hL,hP,hA⟩
theorem runNT_more{N M:Nat}{m m1:Machine}{T T1:Trace}(h:runNT P N m T=(.next m1,T1)):runNT P (N+M) m T=runNT P M m1 T1:=by
 rw[runNT_add,h]
theorem Bes.bind{Stop Stop':Goroutine→World→Prop}{g:Goroutine}{w:World}(h:Bes A P Stop g w)(hk:∀g w,Stop g w→Bes A P Stop' g w):Bes A P Stop' g w:=by
 intro gs sl T q B h0 hL hP hA
 obtain⟨N,gs1,g1,w1,sl1,T1,q1,B1,hr,h01,hS,hL1,hP1,hA1⟩:=h gs sl T q B h0 hL hP hA
 obtain⟨M,gs2,g2,w2,sl2,T2,q2,B2,hr2,h02,hS2,hL2,hP2,hA2⟩:=hk g1 w1 hS gs1 sl1 T1 q1 B1 h01 hL1 hP1 hA1
 exact⟨N+M,gs2,g2,w2,sl2,T2,q2,B2,(runNT_more hr).trans hr2,h02,hS2,hL2,hP2,hA2⟩
theorem bes_assume{Stop:Goroutine→World→Prop}{g:Goroutine}{w:World}(h:A.Holds w→Bes A P Stop g w):Bes A P Stop g w:=
 fun gs sl T q B h0 hL hP hA=>h hA gs sl T q B h0 hL hP hA
theorem Own.at{main:Bool}{Stop:Goroutine→World→Prop}{g:Goroutine}{w:World}(h:Own P main F Stop g w)(d:Nat):Own P main F Stop g (w.at d):=by
 cases h with
 | stop h=>exact .stop h
 | step' hr g' w' es hs hg h=>exact .step' hr g' w' es hs hg h
theorem Own.status{main:Bool}{Stop:Goroutine→World→Prop}{g:Goroutine}{w:World}(h:Own P main F Stop g w):(∀d,Stop g (w.at d))∨g.status= .running:=by
 cases h with
 | stop h=>exact .inl h
 | step' hr g' w' es hs hg h=>exact .inr hr
theorem Bes.own{Stop:Goroutine→World→Prop}{g:Goroutine}{w:World}(h:Own P true F Stop g w):Bes A P (fun g w=>∃w0 d,w=World.at w0 d∧∀d,Stop g (w0.at d)) g w:=by
 induction h with
 | @stop g w h=>exact .stop ⟨w,w.drawn,rfl,h⟩
 | @step' g w hrun g' w' es hs hg hown ih=>
   have key:∀(M:Nat) (w1:World) (gs:Array Goroutine) (sl:Option (Nat×Nat)) (T:Trace) (q:Nat→Nat) (B:Nat),(∃d,w1=w.at d)→sumTo gs.size q≤M→gs[0]? =some g→Leavers P T gs q→Past NoShun B T→A.Holds w1→
    ∃(N:Nat) (gs':Array Goroutine) (g':Goroutine) (w':World) (sl':Option (Nat×Nat)) (T':Trace) (q':Nat→Nat) (B':Nat),
     runNT P N (crowd gs w1 sl) T=(.next (crowd gs' w' sl'),T')∧gs'[0]? =some g'∧(∃w0 d,w'=World.at w0 d∧∀d,Stop g' (w0.at d))∧Leavers P T' gs' q'∧Past NoShun B' T'∧A.Holds w':=by
    intro M
    induction M with
    | zero=>?_
    | succ M ihM=>?_
    all_goals
     intro w1 gs sl T q B hw1 hM h0 hL hP hA
     obtain⟨d0,rfl⟩:=hw1
     have haw:∀g∈gs,awake g:=by
      intro x hx
      obtain⟨i,hi,rfl⟩:=Array.mem_iff_getElem.1 hx
      rcases Nat.eq_zero_or_pos i with rfl|hpos
      ·have:gs[0]=g:=by simpa [Array.getElem?_eq_getElem hi]using h0
       rw[this];exact awake_of (.inl hrun)
      ·exact awake_of ((hL.old i _ hpos (Array.getElem?_eq_getElem hi)).status.elim .inl fun x=>.inr (.inr x))
     obtain⟨i,x,d,sl',hi,hx,hst⟩:=crowd_pick (P:=P) (w:=w.at d0) (sl:=sl) haw ⟨0,g,h0,hrun⟩
     rcases Nat.eq_zero_or_pos i with rfl|hpos
     ·obtain rfl:x=g:=by rw[h0]at hi;exact(Option.some.inj hi).symm
      have hgo:=hs d
      have hrunT:=runT_crowd_go (P:=P) (sl:=sl') (i:=0) hi (show stepG P (0 == 0) x ((w.at d0).at d)=_ from hgo)
      have hlt:0<gs.size:=(Array.getElem?_eq_some_iff.1 h0).1
      obtain⟨B1,hP1⟩:=past_own hP (hg d).2 x.frame.fn x.frame.place
      obtain⟨N,gs',a'',w'',sl'',t',q',B',hr,h0',hS,hL',hP',hA'⟩:=ih d ((gs.map (woken P x (g' d) (w' d))).setIfInBounds 0 (g' d)) sl' (T++MemOp.ofEvents 0 x.frame.fn x.frame.place (es d)) q B1 (by simp[hlt])
       ⟨fun j y hj hy=>by
        have hne:0≠j:=by omega
        rw[Array.getElem?_setIfInBounds_ne hne,Array.getElem?_map]at hy
        obtain⟨z,hz,rfl⟩:=Option.map_eq_some_iff.1 hy
        have hq:=hL.old j z hj hz
        rw[woken_quitsD hq,Deaf_other T (by omega) _ (fun op hop=>by obtain⟨e,_,rfl⟩:=Go.Conc.mem_ofEvents hop;rfl)]
        exact hq,fun j hj=>by
        rw[Deaf_other T (g':=0) (by simp at hj;omega) _ (fun op hop=>by obtain⟨e,_,rfl⟩:=Go.Conc.mem_ofEvents hop;rfl)]
        exact hL.above j (by simpa using hj)⟩ hP1 (((hA.at d).grew (hg d).1.choose_spec))
      exact⟨N+1,gs',a'',w'',sl'',t',q',B',by simp only[runNT,hst,hrunT];exact hr,h0',hS,hL',hP',hA'⟩
     ·have hq:=hL.old i x hpos hi
      have hi0:(i == 0)=false:=by simp;omega
      have hlt:i<gs.size:=(Array.getElem?_eq_some_iff.1 hi).1
      cases hqi:q i with
      | zero=>rw[hqi]at hq;rw[hq.1]at hx;cases hx
      | succ k=>
        rw[hqi]at hq
        rcases hq with⟨hf,_⟩|⟨_,x',es',hm,hstp,hq'⟩
        ·rw[hf]at hx;cases hx
        have hsum:sumTo gs.size (upd q i k)+(k+1)=sumTo gs.size q+k:=by
         have:=sumTo_upd q k id hlt
         simpa [hqi]using this
        first
        | (exfalso;omega)
        | (have hrunT:=runT_crowd_go (P:=P) (sl:=sl') (i:=i) hi (by rw[hi0];exact hstp ((w.at d0).at d))
           have hsz:((gs.map (woken P x x' ((w.at d0).at d))).setIfInBounds i x').size=gs.size:=by simp
           obtain⟨N,gs',a'',w'',sl'',t',q',B',hr,h0',hS,hL',hP',hA'⟩:=ihM ((w.at d0).at d) ((gs.map (woken P x x' ((w.at d0).at d))).setIfInBounds i x') sl' (T++MemOp.ofEvents i x.frame.fn x.frame.place es') (upd q i k) B ⟨d,rfl⟩ (by rw[hsz];omega)
            (by
              have hne:i≠0:=by omega
              rw[Array.getElem?_setIfInBounds_ne hne,Array.getElem?_map,h0]
              simp[woken_run hrun])
            ⟨fun j y hj hy=>by
             by_cases hji:i=j
             ·subst hji
              rw[Array.getElem?_setIfInBounds_self_of_lt (by simpa using hlt)]at hy
              obtain rfl:=Option.some.inj hy
              rw[upd_same,Deaf_own]
              exact hq'
             ·rw[Array.getElem?_setIfInBounds_ne hji,Array.getElem?_map]at hy
              obtain⟨z,hz,rfl⟩:=Option.map_eq_some_iff.1 hy
              have hqj:=hL.old j z hj hz
              rw[woken_quitsD hqj,upd_ne q k (Ne.symm hji),Deaf_other T hji _ (fun op hop=>by obtain⟨e,_,rfl⟩:=Go.Conc.mem_ofEvents hop;rfl)]
              exact hqj,fun j hj=>by
             rw[Deaf_other T (g':=i) (by simp at hj;omega) _ (fun op hop=>by obtain⟨e,_,rfl⟩:=Go.Conc.mem_ofEvents hop;rfl)]
             exact hL.above j (by simpa using hj)⟩
            (hP.mute (by omega) hm) (hA.at d)
           exact⟨N+1,gs',a'',w'',sl'',t',q',B',by simp only[runNT,hst,hrunT];exact hr,h0',hS,hL',hP',hA'⟩)
   exact fun gs sl T q B h0 hL hP hA=>key _ w gs sl T q B ⟨w.drawn,rfl⟩ (Nat.le_refl _) h0 hL hP hA
end
section
open Go Go.Conc
open Go.ConcN (sumTo upd sumTo_upd upd_ne upd_same)
variable{P:Program}{F:Fz}{K:World→Prop}{Still:Loc→Prop}{B:Nat}{Mem:Nat→Prop}{Inb:Nat→Option Seat}{h:Nat}{T:Trace}{gs:Array Goroutine}{w:World}{q:Nat→Nat}
theorem goes_weaken{main:Bool}{R:World→World→Prop}{D D':World→World→Array Event→Prop}{Stop Stop':Goroutine→World→Prop}(hD:∀w w' es,D w w' es→D' w w' es)(hS:∀g w,Stop g w→Stop' g w):
 ∀{n:Nat} {g:Goroutine} {w:World},Goes P main R D Stop n g w→Goes P main R D' Stop' n g w:=by
 intro n
 induction n with
 | zero=>intro g w hg;exact fun w₁ h₁=>hS _ _ (hg w₁ h₁)
 | succ n ih=>
   intro g w hg
   rcases hg with hg|⟨hs,hg⟩
   ·exact .inl fun w₁ h₁=>hS _ _ (hg w₁ h₁)
   ·refine .inr ⟨hs,fun w₁ h₁=>?_⟩
    have:=hg w₁ h₁
    revert this
    cases stepG P main g w₁<;>simp only[GStep.goes,imp_self]
    exact fun⟨d,x⟩=>⟨hD _ _ _ d,ih x⟩
theorem evC_mono{B':Nat}(hB:B≤B'){e:Event}(h:EvC Still B e):EvC Still B' e:=by
 obtain⟨a,h1,h2,h3⟩:=h
 exact⟨a,h1,h2,by omega⟩
theorem atIn_mono{main:Bool}{s:Seat}{g g₂:Goroutine}{B':Nat}(hB:B≤B')(h:AtIn P main K Still B s g g₂):AtIn P main K Still B' s g g₂:=by
 obtain⟨h1,h2,h3,h4,h5,es,h6,h7⟩:=h
 exact⟨h1,h2,h3,h4,h5,es,fun e he=>evC_mono hB (h6 e he),h7⟩
theorem sits_mono{main:Bool}{s:Seat}{n:Nat}{g:Goroutine}{B':Nat}(hB:B≤B')(h:Sits P main K Still B s n g):Sits P main K Still B' s n g:=by
 rcases h with⟨k,w₀,hn,hg⟩|⟨hn,g₀,g₂,hp,ha⟩
 ·exact .inl ⟨k,w₀,hn,goes_weaken (fun w w' es hd=>⟨hd.1,fun e he=>evC_mono hB (hd.2 e he)⟩) (fun g w ⟨g₂,ha⟩=>⟨g₂,atIn_mono hB ha⟩) hg⟩
 ·exact .inr ⟨hn,g₀,g₂,hp,atIn_mono hB ha⟩
theorem idle_mono{i n:Nat}{g:Goroutine}{o:Option Seat}{B':Nat}(hB:B≤B')(h:Idle P K Still B T i n g o):Idle P K Still B' T i n g o:=by
 cases o with
 | none=>exact h
 | some s=>exact sits_mono hB h
theorem ring_mono{B':Nat}(hB:B≤B')(C:Ring P K Still B Mem Inb h T gs w q):Ring P K Still B' Mem Inb h T gs w q:=
 ⟨fun i g hi hg=>idle_mono hB (C.idle i g hi hg),C.chans,C.wf,C.live,C.inj,C.above,fun i s e=>⟨(C.mem i s e).1,fun c hc=>Nat.lt_of_lt_of_le ((C.mem i s e).2 c hc) hB⟩,C.nomem,C.lo,
  ⟨C.past.clean,C.past.known,C.past.wrote,C.past.hears,fun op hop=>MemAct.low_mono hB (C.past.seen op hop)⟩,C.keep⟩
def Covers(F:Fz)(Still:Loc→Prop):Prop:=∀l,Still l→∃a,l= .cell a∧held F a
theorem evHd_of{e:Event}(hc:Covers F Still)(he:EvT F e){B:Nat}(hB:(MemAct.ofEvent e).low B):EvHd Still B e:=by
 refine⟨fun x hx hs=>?_,(evT_loud he).1,(evT_loud he).2,hB⟩
 obtain⟨a,hl,ha⟩:=hc _ hs
 obtain⟨loc,wr,sy⟩:=e
 have hacc:∀{m:MemAct},MemAct.ofEvent ⟨loc,wr,sy⟩=m→(∃e',m= .access e'∧e'=⟨loc,wr,sy⟩)∨(∃c,m= .close c)∨∃mk,m= .mark mk∧loc= .mark mk:=by
  intro m hm
  subst hm
  cases loc<;>cases wr<;>cases sy<;>simp[MemAct.ofEvent]
 rcases hacc rfl with⟨e',h1,h2⟩|⟨c,h1⟩|⟨mk,h1,h2⟩
 ·rw[h1]at hx
  subst h2
  simp only[MemAct.touch?,Option.some.injEq]at hx
  subst hx
  simp only at hl ⊢
  cases wr with
  | false=>rfl
  | true=>
    obtain⟨b,hb,hnb⟩:=he.1 rfl
    simp only at hb
    rw[hb]at hl
    cases hl
    exact absurd ha hnb
 ·rw[h1]at hx;cases hx
 ·rw[h1]at hx
  rcases he.2 mk h2 with rfl|⟨f,rfl⟩<;>cases hx
theorem dh_of(hc:Covers F Still)(hK:∀w w',Gd F w w'→K w→K w')(hch:∀i s c,Inb i=some s→s.has c→∃cap k,w.heap[c]? =some (.chan cap #[] false k k false)){w':World}{es:Array Event}(hg:GuarE F w w' es){B':Nat}(hB:∀e∈es,(MemAct.ofEvent e).low B'):
 DH K Still B' Inb w w' es:=by
 obtain⟨⟨j,hj⟩,he⟩:=hg
 refine⟨hK _ _ (Gd.of_grew (d:=w.drawn) hj),fun i s c hi hs=>?_,fun e hm=>evHd_of hc (he e hm) (hB e hm)⟩
 obtain⟨cap,k,hcc⟩:=hch i s c hi hs
 rcases hj.objs c _ hcc with⟨_,_,_,_,hx,_⟩|hx
 ·cases hx
 ·rw[hx,hcc]
theorem hold_own(hKat:∀w d,K w→K (w.at d))(hc:Covers F Still)(hK:∀w w',Gd F w w'→K w→K w'){Stop:Goroutine→World→Prop}{a:Goroutine}(hO:Own P (h == 0) F Stop a w):
 ∀{gs:Array Goroutine} {sl:Option (Nat×Nat)} {T:Trace} {q:Nat→Nat} {B:Nat},gs[h]? =some a→Ring P K Still B Mem Inb h T gs w q→
 ∃(N:Nat) (gs':Array Goroutine) (a':Goroutine) (w':World) (sl':Option (Nat×Nat)) (T':Trace) (q':Nat→Nat) (B':Nat),
  runNT P N (crowd gs w sl) T=(.next (crowd gs' w' sl'),T')∧gs'.size=gs.size∧gs'[h]? =some a'∧(∃w0 d,w'=World.at w0 d∧∀d,Stop a' (w0.at d))∧Ring P K Still B' Mem Inb h T' gs' w' q'∧B≤B':=by
 induction hO with
 | @stop g w hst=>exact fun{gs sl T q B} ha C=>⟨0,gs,g,w,sl,T,q,B,rfl,rfl,ha,⟨w,w.drawn,rfl,hst⟩,C,Nat.le_refl _⟩
 | @step' g w hrun g' w' es hs hg hown ih=>
   have key:∀(M:Nat) (w1:World) (gs:Array Goroutine) (sl:Option (Nat×Nat)) (T:Trace) (q:Nat→Nat) (B:Nat),(∃d,w1=w.at d)→sumTo gs.size q≤M→gs[h]? =some g→Ring P K Still B Mem Inb h T gs w1 q→
    ∃(N:Nat) (gs':Array Goroutine) (a':Goroutine) (w':World) (sl':Option (Nat×Nat)) (T':Trace) (q':Nat→Nat) (B':Nat),
     runNT P N (crowd gs w1 sl) T=(.next (crowd gs' w' sl'),T')∧gs'.size=gs.size∧gs'[h]? =some a'∧(∃w0 d,w'=World.at w0 d∧∀d,Stop a' (w0.at d))∧Ring P K Still B' Mem Inb h T' gs' w' q'∧B≤B':=by
    intro M
    induction M using Nat.strongRecOn with
    | _ M ihM=>
      intro w1 gs sl T q B hw1 hM ha C
      obtain⟨d0,rfl⟩:=hw1
      obtain⟨i,x,d,sl',hi,hx,hst⟩:=crowd_pick (P:=P) (w:=w.at d0) (sl:=sl) (C.awake ha (.inl hrun)) ⟨h,g,ha,hrun⟩
      have Cd:Ring P K Still B Mem Inb h T gs (w.at d) q:=TokCore.at hKat C d
      by_cases e:i=h
      ·subst e
       obtain rfl:x=g:=by rw[ha]at hi;exact(Option.some.inj hi).symm
       obtain⟨B1,hB1,hlow⟩:=low_all (es d) B
       have Cd1:=ring_mono hB1 Cd
       have hdh:=dh_of (B':=B1) hc hK (fun i s c hi hs=>Cd1.chans i s c (fun z=>z) hi hs) (hg d) hlow
       obtain⟨C',ha'⟩:=Cd1.own (a':=g' d) hi hdh
       have hrt:=runT_crowd_go (P:=P) (sl:=sl') (i:=i) hi (hs d)
       obtain⟨N,gs',a',w'',sl'',T',q',B',hr,hsz,h1,h2,h3,h4⟩:=ih d (sl:=sl') ha' C'
       refine⟨N+1,gs',a',w'',sl'',T',q',B',?_,by simpa using hsz,h1,h2,h3,by omega⟩
       simp only[runNT]
       rw[show stepT P (crowd gs (w.at d0) sl)=_ from hst.trans hrt]
       exact hr
      ·obtain⟨gs',ops,q',hrt,hsz',hsp,_,_,C',hlt⟩:=TokCore.by_step (sl:=sl') (fun t u i=>Knows.app u) Cd hi e hx
        (fun y gy hy hgy=>by subst hy;rw[ha]at hgy;obtain rfl:=Option.some.inj hgy;exact again_of_running (.inl hrun) _) (fun hD=>hD.elim)
        (fun s g₂ _ _=>⟨fun hD=>hD,fun y gy c hy hgy _=>by subst hy;rw[ha]at hgy;obtain rfl:=Option.some.inj hgy;exact offersAt_of_not_blocked (by rw[hrun];simp) _ _⟩)
       obtain⟨N,gs'',a',w'',sl'',T',q'',B',hr,hsz,h1,h2,h3,h4⟩:=ihM (sumTo gs'.size q') (by rw[hsz'];omega) (w.at d) gs' sl' (T++ops) q' B ⟨d,rfl⟩ (Nat.le_refl _) (by rw[hsp h rfl];exact ha) C'
       refine⟨N+1,gs'',a',w'',sl'',T',q'',B',?_,hsz.trans hsz',h1,h2,h3,h4⟩
       simp only[runNT]
       rw[show stepT P (crowd gs (w.at d0) sl)=_ from hst.trans hrt]
       exact hr
   exact fun{gs sl T q B} ha C=>key _ w gs sl T q B ⟨w.drawn,rfl⟩ (Nat.le_refl _) ha C
end
section
open Go Go.Conc
open Go.ConcN (sumTo upd sumTo_upd upd_ne upd_same)
variable{A:Anchor}{P:Program}{F:Fz}{K:World→Prop}{Still:Loc→Prop}{B B0:Nat}{Inb Inb':Nat→Option Seat}{h n:Nat}{Gl:Machine→Trace→Prop}
def Mm(Inb:Nat→Option Seat)(h:Nat):Nat→Prop:=fun i=>Inb i≠none∨i=h
theorem ring_mm{Mem:Nat→Prop}{T:Trace}{gs:Array Goroutine}{w:World}{q:Nat→Nat}(C:Ring P K Still B Mem Inb h T gs w q)(hM:Mem h):Ring P K Still B (Mm Inb h) Inb h T gs w q:=
 ⟨C.idle,C.chans,C.wf,C.live,C.inj,C.above,fun i s e=>⟨.inl (by rw[e];simp),(C.mem i s e).2⟩,fun i hi=>hi,C.lo,
  PastG.fewer C.past (fun i hi=>by
   rcases hi with hi|rfl
   ·cases e:Inb i with
    | none=>exact absurd e hi
    | some s=>exact(C.mem i s e).1
   ·exact hM),C.keep⟩
def Tok(P:Program)(K:World→Prop)(Still:Loc→Prop)(B0:Nat)(Gl:Machine→Trace→Prop)(Inb:Nat→Option Seat)(h n:Nat)(g:Goroutine)(w:World):Prop:=
 ∀(gs:Array Goroutine) (sl:Option (Nat×Nat)) (T:Trace) (q:Nat→Nat) (B:Nat),B0≤B→gs.size=n→gs[h]? =some g→Ring P K Still B (Mm Inb h) Inb h T gs w q→
  ∃(N:Nat) (m':Machine) (T':Trace),runNT P N (crowd gs w sl) T=(.next m',T')∧Gl m' T'
theorem tok_intro{g:Goroutine}{w:World}(hk:h<n→K w→(∀i s c,Inb i=some s→s.has c→∃cap k,w.heap[c]? =some (.chan cap #[] false k k false))→Tok P K Still B0 Gl Inb h n g w):Tok P K Still B0 Gl Inb h n g w:=
 fun gs sl T q B hB hn hg C=>hk (hn ▸ (Array.getElem?_eq_some_iff.1 hg).1) C.keep (fun i s c=>C.chans i s c (fun z=>z)) gs sl T q B hB hn hg C
theorem runNT_join{N M:Nat}{m m1 m2:Machine}{T T1 T2:Trace}(h:runNT P N m T=(.next m1,T1))(h2:runNT P M m1 T1=(.next m2,T2)):runNT P (N+M) m T=(.next m2,T2):=(runNT_more h).trans h2
theorem tok_own(hKat:∀w d,K w→K (w.at d))(hc:Covers F Still)(hK:∀w w',Gd F w w'→K w→K w'){Stop:Goroutine→World→Prop}{a:Goroutine}{w:World}(hO:Own P (h == 0) F Stop a w)
 (hk:∀g' w0 d,(∀d,Stop g' (World.at w0 d))→Tok P K Still B0 Gl Inb h n g' (w0.at d)):Tok P K Still B0 Gl Inb h n a w:=by
 intro gs sl T q B hB hn hg C
 obtain⟨N,gs',a',w',sl',T',q',B',hr,hsz,h1,⟨w0,d,rfl,hS⟩,C',hB'⟩:=hold_own (sl:=sl) hKat hc hK hO hg C
 obtain⟨M,m',T2,hr2,hG⟩:=hk a' w0 d hS gs' sl' T' q' B' (Nat.le_trans hB hB') (hsz.trans hn) h1 C'
 exact⟨N+M,m',T2,runNT_join hr hr2,hG⟩
theorem evHd_mono(hB:B0≤B){e:Event}(he:EvHd Still B0 e):EvHd Still B e:=⟨he.1,he.2.1,he.2.2.1,MemAct.low_mono hB he.2.2.2⟩
theorem tok_walk(hKat:∀w d,K w→K (w.at d)){Stop:Goroutine→World→Prop}{a:Goroutine}{w:World}{m:Nat}(hG:Goes P (h == 0) AtRel (DQ Still B0) Stop m a w)
 (hk:∀g' d,Stop g' (w.at d)→Tok P K Still B0 Gl Inb h n g' (w.at d)):Tok P K Still B0 Gl Inb h n a w:=by
 intro gs sl T q B hB hn hg C
 have hG':=goes_weaken (D':=DQ Still B) (Stop':=fun g' w'=>(∃d,w'=w.at d)∧Stop g' w') (fun w w' es hd=>⟨hd.1,fun e he=>evHd_mono hB (hd.2 e he)⟩) (fun _ _ h=>h) (goes_quiet' hG)
 obtain⟨N,gs',a',w',sl',T',q',hr,hsz,h1,⟨⟨d,rfl⟩,hS⟩,C'⟩:=hold_walk (sl:=sl) hKat (dq_dh (K:=K) Inb) hg C hG'
 obtain⟨M,m',T2,hr2,hGl⟩:=hk a' d hS gs' sl' T' q' B hB (hsz.trans hn) h1 C'
 exact⟨N+M,m',T2,runNT_join hr hr2,hGl⟩
theorem idle_of_after{g':Goroutine}(hB:B0≤B)(h1:(∃s' nh,Inb' h=some s'∧Sits P (h == 0) K Still B0 s' nh g')∨(Inb' h=none∧0<h∧∃nh,QuitsD P nh 0 g')):
 ∃nh,∀T':Trace,Deaf T' h=0→Idle P K Still B T' h nh g' (Inb' h):=by
 rcases h1 with⟨s',nh,e,hs⟩|⟨e,h0,nh,hq⟩
 ·exact⟨nh,fun T' _=>by rw[e];exact sits_mono hB hs⟩
 ·exact⟨nh,fun T' hd=>by rw[e];exact⟨h0,by rw[hd];exact hq⟩⟩
theorem tok_give(hKat:∀w d,K w→K (w.at d))(hKc:∀w i s c cap buf cl a b tm,Inb i=some s→s.has c→K w→K (w.setChan c cap buf cl a b tm)){a:Goroutine}{w:World}{After:Goroutine→Prop}{j c kk:Nat}{s:Seat}{v z:Value}
 (hjh:j≠h) (hjn:j<n) (hj:Inb j=some s) (hkk:s.cases[kk]? =some (rcase c z)) (hgv:AtGive P (h == 0) Still B0 c v After a w) (hI:∀x,x≠h→Inb' x=Inb x) (hIh:Inb' h=Inb h∨Inb' h=none)
 (hafter:∀g',After g'→(∃s' nh,Inb' h=some s'∧Sits P (h == 0) K Still B0 s' nh g')∨(Inb' h=none∧0<h∧∃nh,QuitsD P nh 0 g'))
 (hk:∀g₂ d k cap,s.home g₂→w.heap[c]? =some (.chan cap #[] false k k false)→Tok P K Still B0 Gl Inb' j n (Go.Conc.served g₂ (commResult s.cases s.shape kk v true)) ((w.at d).setChan c cap #[] false (k+1) (k+1) false)):
 Tok P K Still B0 Gl Inb h n a w:=by
 intro gs sl T q B hB hn hg C
 obtain⟨hrun,a₂,z',es,hes,hsend,hA⟩:=hgv
 obtain⟨nh,hid⟩:=idle_of_after (P:=P) (K:=K) (Still:=Still) hB (hafter _ hA)
 obtain⟨N,m1,T1,hr,gs',g₂,d,k,cap,sl',q',rfl,hsz,hg2,hhome,hch,C'⟩:=give (sl:=sl) hKat hKc hjh (hn ▸ hjn) hj hkk (.inr rfl) hg hrun hsend (fun e he=>evHd_mono hB (hes e he)) C hI hIh hid
 have hM:(fun g=>Mm Inb h g∧(Inb' g≠none∨g=j)) j:=⟨.inl (by rw[hj];simp),.inr rfl⟩
 obtain⟨M,m',T2,hr2,hGl⟩:=hk g₂ d k cap hhome hch gs' sl' T1 q' B hB (hsz.trans hn) hg2 (ring_mm C' hM)
 exact⟨N+M,m',T2,runNT_join hr hr2,hGl⟩
theorem tok_hire_give(hKat:∀w d,K w→K (w.at d)){a a' child:Goroutine}{w:World}{es:Array Event}(hrun:a.status= .running)(hgo:∀d,stepG P (h == 0) a (w.at d)= .spawn a' child (w.at d) es)(hes:∀e∈es,EvHd Still B0 e)
 (hnew:Inb n=none) (hI:∀x,x≠h→Inb' x=Inb x) (hIh:Inb' h=Inb h∨Inb' h=none)
 (hafter:(∃s' nh,Inb' h=some s'∧Sits P (h == 0) K Still B0 s' nh a')∨(Inb' h=none∧0<h∧∃nh,QuitsD P nh 0 a'))
 (hk:∀d,Tok P K Still B0 Gl Inb' n (n+1) child (w.at d)):Tok P K Still B0 Gl Inb h n a w:=by
 intro gs sl T q B hB hn hg C
 obtain⟨nh,hid⟩:=idle_of_after (P:=P) (K:=K) (Still:=Still) hB hafter
 obtain⟨N,gs',d,sl',T',q',hr,hsz,hg2,C'⟩:=hire_give (sl:=sl) hKat (.inr rfl) hg hrun hgo (fun e he=>evHd_mono hB (hes e he)) C (by rw[hn];exact hnew) hI hIh hid
 rw[hn]at hsz hg2 C'
 obtain⟨M,m',T2,hr2,hGl⟩:=hk d gs' sl' T' q' B hB hsz hg2 (ring_mm C' (.inr rfl))
 exact⟨N+M,m',T2,runNT_join hr hr2,hGl⟩
theorem tok_reseat{a:Goroutine}{w:World}(s:Seat)(hwf:s.Wf)(hfresh:∀i s' c,i≠h→Inb i=some s'→s'.has c→¬s.has c)(hc:∀c,s.has c→∃cap k,w.heap[c]? =some (.chan cap #[] false k k false))(hcB:∀c,s.has c→c<B0)
 (hk:Tok P K Still B0 Gl (upd Inb h (some s)) h n a w):Tok P K Still B0 Gl Inb h n a w:=by
 intro gs sl T q B hB hn hg C
 have C1:=C.reseat (.inr rfl) s hwf hfresh hc (fun c h=>Nat.lt_of_lt_of_le (hcB c h) hB)
 have C2:Ring P K Still B (Mm (upd Inb h (some s)) h) (upd Inb h (some s)) h T gs w q:=by
  have e:Mm (upd Inb h (some s)) h=Mm Inb h:=by
   funext i
   by_cases e:i=h
   ·subst e;simp[Mm]
   ·simp[Mm,upd_ne _ _ e]
  rw[e];exact C1
 exact hk gs sl T q B hB hn hg C2
def BesG(A:Anchor)(P:Program)(Stop:Goroutine→World→Prop):Machine→Trace→Prop:=fun m' T'=>
 ∃(gs':Array Goroutine) (g':Goroutine) (w':World) (sl':Option (Nat×Nat)) (q':Nat→Nat) (B':Nat),m'=crowd gs' w' sl'∧gs'[0]? =some g'∧Stop g' w'∧Leavers P T' gs' q'∧Past NoShun B' T'∧A.Holds w'
theorem bes_tok{Stop:Goroutine→World→Prop}{g:Goroutine}{w:World}(hS:∀l,Still l→l.isMemory=true)(hK:A.Holds w→K w)(h:A.Holds w→∀n,0<n→Tok P K Still B0 (BesG A P Stop) (fun _=>none) 0 n g w):Bes A P Stop g w:=by
 intro gs sl T q B h0 hL hP hA
 replace hK:=hK hA
 replace h:=h hA
 have C:Ring P K Still (max B B0) (fun g=>g=0) (fun _=>none) 0 T gs w q:=ring_begin hS hL (hP.mono (Nat.le_max_left _ _)) hK
 obtain⟨N,m',T',hr,gs',g',w',sl',q',B',rfl,hg',hS',hL',hP',hA'⟩:=h gs.size (Array.getElem?_eq_some_iff.1 h0).1 gs sl T q (max B B0) (Nat.le_max_right _ _) rfl h0 (ring_mm C rfl)
 exact⟨N,gs',g',w',sl',T',q',B',hr,hg',hS',hL',hP',hA'⟩
end
section
open Go Go.Conc
open Go.ConcN (sumTo upd sumTo_upd upd_ne upd_same)
variable{A:Anchor}{P:Program}{F:Fz}{S:FuncId→Bool}{px:Bool}{K:World→Prop}{Still:Loc→Prop}{B B0:Nat}{Inb Inb':Nat→Option Seat}{h n:Nat}{Gl:Machine→Trace→Prop}
def Ends(Q:Exit→Act→World→Prop)(F:Fz)(b:Frame)(k:List Item)(cs:List Frame)(w:World):Goroutine→World→Prop:=fun g w'=>Wf F w'∧Gd F w w'∧
 ((∃a' τ e,g=G (b.at a' k) cs∧Q .normal a' (retape (mask F w') τ e))∨(∃a' τ e t',g=G {b.at a' (.code .ret::t')with mode:=.returning} cs∧Q .ret a' (retape (mask F w') τ e)))
theorem gd_at{w w':World}(h:Gd F w w')(d:Nat):Gd F w (w'.at d):=h.trans (Gd.of_grew (d:=d) (Grew.refl F (w'.at d)))
structure Ready(P:Program)(S:FuncId→Bool):Prop where
 shut:∀px,Closed P S px
 late:NoEarly P
theorem own_lift(R:Ready P S)(px:Bool)(hF:px=true→∀r,F r=none){c:Code}(hc:codeOk P S px c=true){Q:Exit→Act→World→Prop}{a:Act}{w:World}(hw:Wf F w)(hd:a.defers=[])
 (hQ:∀e a w,Q e a w→e= .normal∨(e= .ret∧a.defers=[])) (H:∀τ e,c.wp P Q a (retape (mask F w) τ e)) {main:Bool} {b:Frame} {k:List Item} {cs:List Frame} (hk:b.kind≠.early):
 Own P main F (Ends Q F b k cs w) (G (b.at a (.code c::k)) cs) w:=
 lift (R.shut px) hF R.late hc hw hd hQ H hk (fun a' w' τ e h1 h2 h3=>.stop fun d=>⟨⟨h2.own⟩,gd_at h3 d,.inl ⟨a',τ,e,rfl,h1⟩⟩)
  (fun a' w' τ e t' h1 h2 h3=>.stop fun d=>⟨⟨h2.own⟩,gd_at h3 d,.inr ⟨a',τ,e,t',rfl,h1⟩⟩)
theorem own_mono{main:Bool}{Stop Stop':Goroutine→World→Prop}{g:Goroutine}{w:World}(h:Own P main F Stop g w)(hS:∀g w,Stop g w→Stop' g w):Own P main F Stop' g w:=
 h.bind fun _ _ hs=>.stop fun d=>hS _ _ (hs d)
theorem bes_own{Stop Stop':Goroutine→World→Prop}{g:Goroutine}{w:World}(h:Own P true F Stop g w)(hk:∀g w,Stop g w→Bes A P Stop' g w):Bes A P Stop' g w:=
 (Bes.own h).bind fun g w ⟨w0,d,e,hs⟩=>e ▸ hk _ _ (hs d)
theorem own_go{main:Bool}{Stop:Goroutine→World→Prop}{g g':Goroutine}{w:World}(hr:g.status= .running)(hs:∀d,stepG P main g (w.at d)= .go g' (w.at d) #[])(h:Own P main F Stop g' w):Own P main F Stop g w:=
 .step hr fun d=>⟨g',w.at d,#[],hs d,⟨⟨0,Grew.refl F _⟩,by simp⟩,h.at d⟩
section
variable{main:Bool}{Stop:Goroutine→World→Prop}{a:Act}{k:List Item}{b:Frame}{cs:List Frame}{w:World}
theorem ogS{x y:Code}(h:Own P main F Stop (G (b.at a (.code x:: .code y::k)) cs) w):Own P main F Stop (G (b.at a (.code (.seq x y)::k)) cs) w:=own_go rfl (fun d=>stepG_seq) h
theorem ogE{ops:Array Oper}(h:Own P main F Stop (G (b.at a k) cs) w):Own P main F Stop (G (b.at a (.inRegion ops []::k)) cs) w:=own_go rfl (fun d=>stepG_region_end) h
theorem ogR{id:Nat}{ops:Array Oper}(h:Own P main F Stop (G (b.at a (.inRegion ops (List.range ops.size)::k)) cs) w):Own P main F Stop (G (b.at a (.code (.region id ops false)::k)) cs) w:=own_go rfl (fun d=>stepG_region) h
theorem ogU{ops:Array Oper}{i:Nat}{rest:List Nat}{o:Oper}(ho:ops[i]? =some o)(hw:Region.wanted o (yielded ops a.tmps)=false)(h:Own P main F Stop (G (b.at (a.put o.dst undef) (.inRegion ops rest::k)) cs) w):Own P main F Stop (G (b.at a (.inRegion ops (i::rest)::k)) cs) w:=own_go rfl (fun d=>stepG_unwanted ho hw) h
theorem ogF{c:Operand}{x y:Code}(h:Own P main F Stop (G (b.at a (.code (if false then x else y)::k)) cs) w)(hc:a.eval c= .bool false:=by exact rfl):Own P main F Stop (G (b.at a (.code (.cond c x y)::k)) cs) w:=own_go rfl (fun d=>stepG_cond (t:=false) hc) h
theorem ogT{c:Operand}{x y:Code}(h:Own P main F Stop (G (b.at a (.code (if true then x else y)::k)) cs) w)(hc:a.eval c= .bool true:=by exact rfl):Own P main F Stop (G (b.at a (.code (.cond c x y)::k)) cs) w:=own_go rfl (fun d=>stepG_cond (t:=true) hc) h
theorem ogB{id:Nat}{c:Code}(h:Own P main F Stop (G (b.at a (.code c:: .inBlock id::k)) cs) w):Own P main F Stop (G (b.at a (.code (.block id c)::k)) cs) w:=own_go rfl (fun d=>stepG_block) h
theorem ogK(h:Own P main F Stop (G (b.at a k) cs) w):Own P main F Stop (G (b.at a (.code .skip::k)) cs) w:=own_go rfl (fun d=>stepG_skip) h
theorem ogI{id:Nat}(h:Own P main F Stop (G (b.at a k) cs) w):Own P main F Stop (G (b.at a (.inBlock id::k)) cs) w:=own_go rfl (fun d=>stepG_inBlock) h
theorem ogL{c:Code}(h:Own P main F Stop (G (b.at a (.code c:: .inLoop c::k)) cs) w):Own P main F Stop (G (b.at a (.inLoop c::k)) cs) w:=own_go rfl (fun d=>stepG_inLoop) h
theorem ogP{c:Code}(h:Own P main F Stop (G (b.at a (.code c:: .inLoop c::k)) cs) w):Own P main F Stop (G (b.at a (.code (.loop c)::k)) cs) w:=own_go rfl (fun d=>stepG_loop) h
theorem ogX(h:Own P main F Stop (G {b.at a (.code .ret::k)with mode:=.returning} cs) w):Own P main F Stop (G (b.at a (.code .ret::k)) cs) w:=own_go rfl (fun d=>stepG_ret') h
end
section
variable {main : Bool} {Stop : Goroutine → World → Prop} {a : Act} {k : List Item} {b : Frame} {cs : List Frame} {w : World}
theorem ogSR {x y s : Code} {id : Nat} {ops : Array Oper} (h1 : s = .seq x y) (h2 : x = .region id ops false) (h : Own P main F Stop (G (b.at a (.inRegion ops (List.range ops.size) :: .code y :: k)) cs) w) : Own P main F Stop (G (b.at a (.code s :: k)) cs) w := by
  subst h1 h2
  exact ogS (ogR h)
theorem ogSE {x y s : Code} (h1 : s = .seq x y) (h : Own P main F Stop (G (b.at a (.code x :: .code y :: k)) cs) w) : Own P main F Stop (G (b.at a (.code s :: k)) cs) w := by
  subst h1
  exact ogS h
end
end
section
open Go Go.Conc Go.RowKit
variable{P:Program}{F:Fz}
theorem Own.of_goes{main:Bool}{Stop:Goroutine→World→Prop}{g:Goroutine}{w:World}(hr:g.status= .running)(h:∀d,(stepG P main g (w.at d)).goes fun g' w' es=>GuarE F (w.at d) w' es∧Own P main F Stop g' w'):Own P main F Stop g w:=by
 refine .step hr fun d=>?_
 have:=h d
 cases hs:stepG P main g (w.at d)with
 | go g' w' es=>rw[hs,goes_go]at this;exact⟨g',w',es,rfl,this.1,this.2⟩
 | _=>rw[hs]at this;exact this.elim
def Under(F:Fz)(n:Nat):Prop:=∀r z,F r=some z→r<n
theorem held_lt{n:Nat}(h:Under F n){a:Addr}(ha:held F a):a.block<n:=by obtain⟨z,hz,_⟩:=ha;exact h _ _ hz
theorem cell_alloc(w:World)(o:Obj)(a:Addr)(h:a.block<w.heap.size):(w.alloc o).cell? a=w.cell? a:=by
 unfold World.cell?
 rw[Below.heap_alloc _ _ _ h]
theorem grew_alloc{n:Nat}(h:Under F n){w:World}(hn:n≤w.heap.size)(o:Obj):Grew F w (w.alloc o) 0:=by
 refine⟨rfl,rfl,rfl,rfl,by simp,fun r o' hr=>.inr ?_,fun a ha=>cell_alloc w o a (Nat.lt_of_lt_of_le (held_lt h ha) hn)⟩
 rw[Below.heap_alloc _ _ _ (by rcases Nat.lt_or_ge r w.heap.size with h1|h1;exact h1;rw[Array.getElem?_eq_none h1]at hr;cases hr)]
 exact hr
theorem grew_setCell{w:World}{a:Addr}(hs:a.spot=none)(h:¬held F a)(v:Value):Grew F w (w.setCell a v) 0:=by
 refine⟨rfl,rfl,rfl,rfl,by simp[World.setCell],fun r o hr=>?_,fun b hb=>?_⟩
 ·by_cases e:a.block=r
  ·subst e
   cases o with
   | cells c t z=>exact .inl ⟨c,t,z,c.setIfInBounds a.off v,rfl,by simp[World.setCell,Array.getElem?_modify,hr,hs],by simp⟩
   | _=>exact .inr (by simp[World.setCell,Array.getElem?_modify,hr])
  ·exact .inr (by simp[World.setCell,Array.getElem?_modify,e,hr])
 ·unfold World.cell?
  by_cases e:a.block=b.block
  ·rw[← e]
   simp only[World.setCell,Array.getElem?_modify,if_true]
   cases ho:w.heap[a.block]? with
   | none=>rfl
   | some o=>
     cases o with
     | cells c t z=>
       simp only[Option.map_some,hs,Option.isSome_none,Bool.false_eq_true,↓reduceIte]
       split
       ·rfl
       ·rw[Array.getElem?_setIfInBounds_ne]
        intro e2
        obtain⟨z',h1,h2,h3⟩:=hb
        exact h ⟨z',by rw[e];exact h1,by rw[e2];exact h2,by rw[e2];exact h3⟩
     | _=>rfl
  ·simp[World.setCell,Array.getElem?_modify,e]
section
variable(a:Addr)(m:Mode)(w:World)(es:Array Event)
@[go_sem] theorem ev_store_bool(v:Bool):(store a (.bool v) m).events P w es=storedEv P w es a (.bool v) m:=events_store P w es a _ m rfl
@[go_sem] theorem ev_store_pointer(v:Option Addr):(store a (.pointer v) m).events P w es=storedEv P w es a (.pointer v) m:=events_store P w es a _ m rfl
@[go_sem] theorem ev_store_slice(v:Option Addr)(n c:Nat):(store a (.slice v n c) m).events P w es=storedEv P w es a (.slice v n c) m:=events_store P w es a _ m rfl
@[go_sem] theorem ev_store_func(f:Fn)(x y:Array Value):(store a (.func f x y) m).events P w es=storedEv P w es a (.func f x y) m:=events_store P w es a _ m rfl
@[go_sem] theorem ev_store_nilIface:(store a .nilIface m).events P w es=storedEv P w es a .nilIface m:=events_store P w es a _ m rfl
@[go_sem] theorem ev_store_iface(t:TypeId)(v:Value):(store a (.iface t v) m).events P w es=storedEv P w es a (.iface t v) m:=events_store P w es a _ m rfl
@[go_sem] theorem run_makeFunc0(fn:Fn)(first cap:Array Value):(Instr.makeFunc fn first cap).run P w= .ok (.func fn first cap) w:=rfl
@[go_sem] theorem ev_makeFunc0(fn:Fn)(first cap:Array Value):(Instr.makeFunc fn first cap).events P w es=es:=rfl
end
theorem not_held{a:Addr}{n:Nat}(h:Under F n)(hn:n≤a.block):¬held F a:=fun ha=>absurd (held_lt h ha) (by omega)
theorem not_held'{a:Addr}(h:F a.block=none):¬held F a:=fun⟨z,hz,_⟩=>by rw[h]at hz;cases hz
section
variable{P:Program}{F:Fz}{main:Bool}{Stop:Goroutine→World→Prop}{b:Frame}{a a':Act}{k:List Item}{cs:List Frame}{w:World}{ops:Array Oper}{i n d:Nat}{rest:List Nat}{o:Oper}{K:Act→World→Prop}
theorem oW(h:∀(d:Nat) (K':Act→World→Prop),(∀a' w',GuarE F (w.at d) w' (listed P b.fn a o (w.at d))∧Own P main F Stop (G (b.at a' (.inRegion ops rest::k)) cs) w'→K' a' w')→uponK o a K' ((execOp a.eval o).run P (w.at d)))
 (ho:ops[i]? =some o:=by exact rfl) (hw:Region.wanted o (yielded ops a.tmps)=true:=by exact rfl) (hk:b.kind≠.early:=by decide):
 Own P main F Stop (G (b.at a (.inRegion ops (i::rest)::k)) cs) w:=Own.of_goes rfl fun d=>goes_oper_k ho hw hk (h d)
theorem qT(hK:∀a' w',GuarE F (w.at d) w' (listed P b.fn a o (w.at d))∧Own P main F Stop (G (b.at a' (.inRegion ops rest::k)) cs) w'→K a' w')(h:Own P main F Stop (G (b.at a' (.inRegion ops rest::k)) cs) w)
 (he:∀e∈listed P b.fn a o (w.at d),EvT F e:=by intro e he;have hm:=mem_listed he;simp[go_sem]at hm):K a' (w.at d):=hK _ _ ⟨⟨⟨0,Grew.refl _ _⟩,he⟩,h.at d⟩
theorem qX(hK:∀a' w',GuarE F (w.at d) w' (listed P b.fn a o (w.at d))∧Own P main F Stop (G (b.at a' (.inRegion ops rest::k)) cs) w'→K a' w')(h:Own P main F Stop (G (b.at a' (.inRegion ops rest::k)) cs) w)
 (he:∀e∈listed P b.fn a o (w.at d),EvT F e:=by intro e he;have hm:=mem_listed he;simp[go_sem, *]at hm):K a' (w.at d):=hK _ _ ⟨⟨⟨0,Grew.refl _ _⟩,he⟩,h.at d⟩
theorem qL(hK:∀a' w',GuarE F (w.at d) w' (listed P b.fn a o (w.at d))∧Own P main F Stop (G (b.at a' (.inRegion ops rest::k)) cs) w'→K a' w')(h:Own P main F Stop (G (b.at a' (.inRegion ops rest::k)) cs) w)
 (he:∀e∈listed P b.fn a o (w.at d),EvT F e:=by intro e he;have hm:=mem_listed he;simp[go_sem, *]at hm;subst hm;exact evT_read _ _):K a' (w.at d):=hK _ _ ⟨⟨⟨0,Grew.refl _ _⟩,he⟩,h.at d⟩
theorem qA{ob:Obj}(hK:∀a' w',GuarE F (w.at d) w' (listed P b.fn a o (w.at d))∧Own P main F Stop (G (b.at a' (.inRegion ops rest::k)) cs) w'→K a' w')(hU:Under F n)(h:Own P main F Stop (G (b.at a' (.inRegion ops rest::k)) cs) (w.alloc ob))
 (hn:n≤(w.at d).heap.size:=by first|(simp[go_sem];done)|(simp[go_sem];omega)) (he:∀e∈listed P b.fn a o (w.at d),EvT F e:=by intro e he;have hm:=mem_listed he;simp[go_sem,storedEv]at hm):K a' ((w.at d).alloc ob):=hK _ _ ⟨⟨⟨0,grew_alloc hU hn _⟩,he⟩,h.at d⟩
theorem qS{ad:Addr}{v:Value}(hK:∀a' w',GuarE F (w.at d) w' (listed P b.fn a o (w.at d))∧Own P main F Stop (G (b.at a' (.inRegion ops rest::k)) cs) w'→K a' w')(hU:Under F n)(h:Own P main F Stop (G (b.at a' (.inRegion ops rest::k)) cs) (w.setCell ad v))
 (hn:n≤ad.block:=by first|(simp[go_sem];done)|(simp[go_sem];omega)) (he:∀e∈listed P b.fn a o (w.at d),e=⟨.cell ad,true,false⟩:=by intro e he;have hm:=mem_listed he;simp[go_sem,storedEv]at hm;exact hm) (hs:ad.spot=none:=by exact rfl):K a' ((w.at d).setCell ad v):=
 hK _ _ ⟨⟨⟨0,grew_setCell hs (not_held hU hn) _⟩,fun e hm=>by rw[he e hm];exact evT_write _ _ (not_held hU hn)⟩,h.at d⟩
end
end
section
open Go Go.Conc Go.RowKit
variable{P:Program}{F:Fz}{fn:FuncId}{ops:Array Oper}{w0:World}{last:Nat}{Z:Act→Prop}
def lastLast(ops:Array Oper)(last:Nat):Bool:=
 ops.size == last+1 && (List.range ops.size).all (fun j=>(ops[j]?).all (fun o=>o.after.all fun e=> !Region.binds .any e || decide (e.on<j))) &&
 (List.range last).all (fun j=>(List.range ops.size).any fun s=>decide (j<s) && (ops[s]?).any (fun o=>o.after.any fun e=>Region.binds .any e && e.on == j))
structure LL(ops:Array Oper)(last:Nat):Prop where
 size:ops.size=last+1
 deps:∀j o,ops[j]? =some o→∀e∈o.after,Region.binds .any e=true→e.on<j
 used:∀j,j<last→∃s o e,j<s∧ops[s]? =some o∧e∈o.after∧Region.binds .any e=true∧e.on=j
theorem ll_of(h:lastLast ops last=true):LL ops last:=by
 simp only[lastLast,Bool.and_eq_true,beq_iff_eq,List.all_eq_true,List.mem_range]at h
 obtain⟨⟨h1,h2⟩,h3⟩:=h
 refine⟨h1,fun j o ho e he hb=>?_,fun j hj=>?_⟩
 ·have hlt:=(Array.getElem?_eq_some_iff.1 ho).1
  have:=h2 j hlt
  rw[ho]at this
  simp only[Option.all_some,Array.all_eq_true_iff_forall_mem]at this
  have:=this e he
  rw[hb]at this
  simpa using this
 ·have:=h3 j hj
  simp only[List.any_eq_true,List.mem_range,Bool.and_eq_true,decide_eq_true_eq]at this
  obtain⟨s,hs,hjs,hh⟩:=this
  cases ho:ops[s]? with
  | none=>rw[ho]at hh;cases hh
  | some o=>
    rw[ho]at hh
    simp only[Option.any_some]at hh
    obtain⟨e,he,hb⟩:=Array.any_eq_true'.1 hh
    simp only[Bool.and_eq_true,beq_iff_eq]at hb
    exact⟨s,o,e,hjs,ho,he,hb.1,hb.2⟩
def DownTo(ops:Array Oper)(listed:Array Bool):Prop:=∀j o,ops[j]? =some o→listed.getD j false=true→∀e∈o.after,Region.binds .any e=true→listed.getD e.on false=true
theorem getD_tf{listed:Array Bool}{j:Nat}(h:j<listed.size):listed.getD j true=listed.getD j false:=by simp[h]
theorem all_listed(L:LL ops last){listed:Array Bool}(hs:listed.size=ops.size)(hc:DownTo ops listed)(hr:last∈Region.ready .any ops listed):∀n j,last - j≤n→j<last→listed.getD j false=true:=by
 obtain⟨h0,ol,hol,hall⟩:=mem_ready.1 hr
 intro n
 induction n with
 | zero=>intro j h1 h2;omega
 | succ n ih=>
   intro j h1 h2
   obtain⟨s,o,e,hjs,ho,he,hb,rfl⟩:=L.used j h2
   have hslt:=(Array.getElem?_eq_some_iff.1 ho).1
   rw[L.size]at hslt
   rcases Nat.lt_or_ge s last with h3|h3
   ·exact hc s o ho (ih s (by omega) h3) e he hb
   ·have:s=last:=by omega
    subst this
    rw[hol]at ho
    cases ho
    exact hall e he hb
theorem some_ready(L:LL ops last){listed:Array Bool}(hs:listed.size=ops.size):∀j,listed.getD j true=false→∃i,i∈Region.ready .any ops listed:=by
 intro j
 induction j using Nat.strongRecOn with
 | _ j ih=>
   intro hj
   have hlt:j<listed.size:=by
    rcases Nat.lt_or_ge j listed.size with h|h
    ·exact h
    ·simp[Array.getElem?_eq_none h]at hj
   cases ho:ops[j]? with
   | none=>rw[Array.getElem?_eq_none_iff]at ho;omega
   | some o=>
     by_cases hall:∀e∈o.after,Region.binds .any e=true→listed.getD e.on false=true
     ·exact⟨j,mem_ready.2 ⟨hj,o,ho,hall⟩⟩
     ·have:∃e,e∈o.after∧Region.binds .any e=true∧¬listed.getD e.on false=true:=by
       apply Classical.byContradiction
       intro hn
       exact hall fun e he hb=>Classical.byContradiction fun hx=>hn ⟨e,he,hb,hx⟩
      obtain⟨e,he,hb,hx⟩:=this
      have he':=L.deps j o ho e he hb
      exact ih e.on he' (by rw[getD_tf (by omega)];simpa using hx)
def YQ(P:Program)(F:Fz)(fn:FuncId)(ops:Array Oper)(w0:World)(o:Oper)(v:Value)(a:Act):Prop:=
 (Region.wanted o (yielded ops a.tmps)=true∧∀d,(execOp a.eval o).run P (w0.at d)= .ok (.value v) (w0.at d)∧∀e∈listed P fn a o (w0.at d),EvT F e)∨
 (Region.wanted o (yielded ops a.tmps)=false∧v=undef)
theorem YQ.of_same{o:Oper}{v:Value}{a a':Act}(hy:YQ P F fn ops w0 o v a)(he:execOp a'.eval o=execOp a.eval o)(hw:Region.wanted o (yielded ops a'.tmps)=Region.wanted o (yielded ops a.tmps)):YQ P F fn ops w0 o v a':=by
 unfold YQ listed at*
 rw[he,hw]
 exact hy
def OpQ(P:Program)(F:Fz)(fn:FuncId)(ops:Array Oper)(w0:World)(i:Nat)(K:Act→Prop)(a:Act):Prop:=
 ∃o v,ops[i]? =some o∧YQ P F fn ops w0 o v a∧K (a.put o.dst v)
def AnyL(P:Program)(F:Fz)(fn:FuncId)(ops:Array Oper)(w0:World)(last:Nat)(Z:Act→Prop):Nat→Array Bool→Act→Prop
 | 0,listed,a=>((∀j∈Region.ready .any ops listed,j=last)→Z a)∧∀j∈Region.ready .any ops listed,j=last
 | fuel+1,listed,a=>((∀j∈Region.ready .any ops listed,j=last)→Z a)∧∀i∈Region.ready .any ops listed,i≠last→OpQ P F fn ops w0 i (AnyL P F fn ops w0 last Z fuel (listed.setIfInBounds i true)) a
theorem anyL_end{listed:Array Bool}{a:Act}(hr:∀j∈Region.ready .any ops listed,j=last)(h:Z a):∀fuel,AnyL P F fn ops w0 last Z fuel listed a
 | 0=>⟨fun _=>h,hr⟩
 | _+1=>⟨fun _=>h,fun i hi hne=>absurd (hr i hi) hne⟩
theorem OpQ_put{i j:Nat}{oi oj:Oper}{v:Value}(hj:ops[j]? =some oj)(hap:oi.apart ops oj=true)(hsi:∀cs b,oi.op≠.select cs b)(hsj:∀cs b,oj.op≠.select cs b){K:Act→Prop}{a:Act}
 (hy:YQ P F fn ops w0 oi v a) (h:OpQ P F fn ops w0 j K (a.put oi.dst v)):OpQ P F fn ops w0 j (fun a'=>YQ P F fn ops w0 oi v a'∧K (a'.put oi.dst v)) a:=by
 obtain⟨h1,h2,h3⟩:=Oper.apart_spec hap
 obtain⟨o,u,ho,hyj,hK⟩:=h
 rw[hj]at ho
 cases ho
 refine⟨oj,u,hj,hyj.of_same (execOp_put oj hsj a oi.dst v h1).symm (wanted_put oj a oi.dst v h1).symm,hy.of_same (execOp_put oi hsi a oj.dst u h3) (wanted_put oi a oj.dst u h3),?_⟩
 rw[← Act.put_comm a v u h2];exact hK
theorem OpQ_mono{i:Nat}{a:Act}{K K':Act→Prop}(h:∀a,K a→K' a)(hh:OpQ P F fn ops w0 i K a):OpQ P F fn ops w0 i K' a:=by
 obtain⟨o,v,h1,h2,h3⟩:=hh
 exact⟨o,v,h1,h2,h _ h3⟩
theorem anyL_first{i:Nat}{oi:Oper}{v:Value}(hi:ops[i]? =some oi)(hil:i≠last)(hsel:∀(j:Nat) (o:Oper) cs b,ops[j]? =some o→o.op≠.select cs b):
 ∀(fuel:Nat) (listed:Array Bool) (a:Act),
  (∀j oj,ops[j]? =some oj→j≠i→listed.getD j true=false→(∀e∈oj.after,Region.binds .any e=true→e.on≠i)→oi.apart ops oj=true)→
  i∈Region.ready .any ops listed→YQ P F fn ops w0 oi v a→
  AnyL P F fn ops w0 last Z fuel (listed.setIfInBounds i true) (a.put oi.dst v)→AnyL P F fn ops w0 last Z (fuel+1) listed a:=by
 intro fuel
 induction fuel with
 | zero=>
   intro listed a _ hr hy H
   refine⟨fun h=>absurd (h i hr) hil,fun j hj hjl=>?_⟩
   by_cases hji:j=i
   ·subst hji;exact⟨oi,v,hi,hy,H⟩
   ·exact absurd (H.2 j (ready_mono hj hji)) hjl
 | succ fuel ih=>
   intro listed a hfree hr hy H
   refine⟨fun h=>absurd (h i hr) hil,fun j hj hjl=>?_⟩
   by_cases hji:j=i
   ·subst hji;exact⟨oi,v,hi,hy,H⟩
   ·have h1:=H.2 j (ready_mono hj hji) hjl
    obtain⟨hjun,oj,hoj,hall⟩:=mem_ready.1 hj
    have hnot:∀e∈oj.after,Region.binds .any e=true→e.on≠i:=fun e he hb heq=>by
     have h1:=hall e he hb
     have h0:=(mem_ready.1 hr).1
     rw[heq]at h1
     rcases Nat.lt_or_ge i listed.size with h'|h'
     ·simp[h']at h0 h1;rw[h0]at h1;cases h1
     ·simp[Array.getElem?_eq_none h']at h1
    have h2:=OpQ_put (i:=i) hoj (hfree j oj hoj hji hjun hnot) (fun cs b=>hsel i oi cs b hi) (fun cs b=>hsel j oj cs b hoj) hy h1
    have hfree':∀k ok,ops[k]? =some ok→k≠i→(listed.setIfInBounds j true).getD k true=false→
     (∀e∈ok.after,Region.binds .any e=true→e.on≠i)→oi.apart ops ok=true:=fun k ok hk hki hun hno=>by
     refine hfree k ok hk hki ?_ hno
     by_cases hjk:j=k
     ·subst hjk;exact hjun
     ·rw[getD_set_ne true hjk]at hun;exact hun
    refine OpQ_mono (fun a' h3=>ih (listed.setIfInBounds j true) a' hfree' (ready_mono hr (Ne.symm hji)) h3.1 ?_) h2
    rw[Array.setIfInBounds_comm _ _ hji]
    exact h3.2
theorem anyL_take{i:Nat}{oi:Oper}{v:Value}{fuel:Nat}{listed:Array Bool}{a:Act}(hi:ops[i]? =some oi)(hil:(i != last)=true)(hs:Region.noSelect ops=true)(hf:Region.free .any ops listed i=true)
 (hr:(Region.ready .any ops listed).contains i=true) (hy:YQ P F fn ops w0 oi v a) (h:AnyL P F fn ops w0 last Z fuel (listed.setIfInBounds i true) (a.put oi.dst v)):AnyL P F fn ops w0 last Z (fuel+1) listed a:=
 anyL_first hi (by simpa using hil) (Region.noSelect_spec hs) fuel listed a (Region.free_spec hi hf) (by simpa using hr) hy h
theorem own_yq{main:Bool}{Stop:Goroutine→World→Prop}{b:Frame}{a:Act}{k:List Item}{cs:List Frame}{i:Nat}{rest:List Nat}{o:Oper}{v:Value}(hk:b.kind≠.early)(ho:ops[i]? =some o)(hy:YQ P F b.fn ops w0 o v a)
 (h:Own P main F Stop (G (b.at (a.put o.dst v) (.inRegion ops rest::k)) cs) w0):Own P main F Stop (G (b.at a (.inRegion ops (i::rest)::k)) cs) w0:=by
 rcases hy with⟨hw,hv⟩|⟨hw,rfl⟩
 ·refine .step rfl fun d=>⟨_,_,_,stepG_value ho hw hk (hv d).1,⟨⟨0,Grew.refl F _⟩,(hv d).2⟩,h.at d⟩
 ·refine .step rfl fun d=>⟨_,_,#[],stepG_unwanted ho hw,⟨⟨0,Grew.refl F _⟩,by simp⟩,h.at d⟩
theorem anyL_sound(L:LL ops last){main:Bool}{Stop:Goroutine→World→Prop}{b:Frame}{k:List Item}{cs:List Frame}(hk:b.kind≠.early):
 ∀(fuel t:Nat) (listed:Array Bool) (a:Act),listed.size=ops.size→DownTo ops listed→listed.getD last true=false→
  AnyL P F b.fn ops w0 last (fun a=>Own P main F Stop (G (b.at a (.inRegion ops [last]::k)) cs) w0) fuel listed a→
  Own P main F Stop (G (b.at a (.inRegion ops (Region.linearise.go .any ops (fuel+1) t listed [])::k)) cs) w0:=by
 intro fuel
 induction fuel with
 | zero=>?_
 | succ fuel ih=>?_
 all_goals
  intro t listed a hs hc hl H
  obtain⟨i0,hi0⟩:=some_ready L hs last hl
  have hlen:0<(Region.ready .any ops listed).length:=List.length_pos_of_mem hi0
  obtain⟨i,hi⟩:∃i,(Region.ready .any ops listed)[t % (Region.ready .any ops listed).length]? =some i:=⟨_,List.getElem?_eq_getElem (Nat.mod_lt _ hlen)⟩
  have hmem:=List.mem_of_getElem? hi
  rw[Region.linearise.go]
  change Own P main F Stop (G (b.at a (.inRegion ops (match(Region.ready .any ops listed)[t % (Region.ready .any ops listed).length]? with
   | some i=>Region.linearise.go .any ops _ (t / (Region.ready .any ops listed).length) (listed.setIfInBounds i true) [i]
   | none=>[].reverse)::k)) cs) w0
  rw[hi]
  simp only[]
  rw[linearise_go_acc,List.reverse_singleton,List.singleton_append]
 ·obtain rfl:=H.2 i hmem
  simp only[Region.linearise.go,List.reverse_nil]
  exact H.1 H.2
 ·by_cases hil:i=last
  ·subst hil
   have hall:=all_listed L hs hc hmem i
   have hre:∀j∈Region.ready .any ops listed,j=i:=by
    intro j hj
    obtain⟨h0,o,ho,_⟩:=mem_ready.1 hj
    have hlt:=(Array.getElem?_eq_some_iff.1 ho).1
    have hsz:=L.size
    rcases Nat.lt_or_ge j i with h|h
    ·have:=hall j (by omega) h
     rw[getD_tf (by omega),this]at h0;cases h0
    ·omega
   have hnil:Region.ready .any ops (listed.setIfInBounds i true)=[]:=by
    apply List.eq_nil_iff_forall_not_mem.2
    intro j hj
    obtain⟨h0,o,ho,_⟩:=mem_ready.1 hj
    have hlt:=(Array.getElem?_eq_some_iff.1 ho).1
    have hsz:=L.size
    by_cases e:i=j
    ·subst e
     rw[getD_tf (by simp;omega)]at h0
     have:i<listed.size:=by omega
     simp[this]at h0
    ·rw[getD_set_ne true e,getD_tf (by omega),hall j (by omega) (by omega)]at h0;cases h0
   have:Region.linearise.go .any ops (fuel+1) (t / (Region.ready .any ops listed).length) (listed.setIfInBounds i true) []=[]:=by
    rw[Region.linearise.go]
    change(match(Region.ready .any ops (listed.setIfInBounds i true))[(t / (Region.ready .any ops listed).length) % (Region.ready .any ops (listed.setIfInBounds i true)).length]? with
     | some i=>_
     | none=>[].reverse)=[]
    rw[hnil];rfl
   rw[this]
   exact H.1 hre
  ·obtain⟨o,v,ho,hy,hK⟩:=H.2 i hmem hil
   refine own_yq hk ho hy (ih _ _ _ (by simpa using hs) (fun j o' hj hlj e he hb=>?_) (by rw[getD_set_ne true hil];exact hl) hK)
   by_cases e2:i=j
   ·subst e2
    obtain⟨_,o2,ho2,hd⟩:=mem_ready.1 hmem
    rw[hj]at ho2
    cases ho2
    exact getD_set_true (hd e he hb)
   ·rw[getD_set_ne false e2]at hlj
    exact getD_set_true (hc j o' hj hlj e he hb)
theorem own_drawn(hm:P.follows .mixedOrders=true)(L:LL ops last){id:Nat}{main:Bool}{Stop:Goroutine→World→Prop}{b:Frame}{a:Act}{k:List Item}{cs:List Frame}(hk:b.kind≠.early)
 (h:AnyL P F b.fn ops w0 last (fun a=>Own P main F Stop (G (b.at a (.inRegion ops [last]::k)) cs) w0) last (Array.replicate ops.size false) a):
 Own P main F Stop (G (b.at a (.code (.region id ops true)::k)) cs) w0:=by
 refine .step rfl fun d=>⟨_,_,_,stepG_region_draw,⟨⟨1,?_⟩,by simp⟩,?_⟩
 ·exact⟨rfl,rfl,rfl,rfl,Nat.le_refl _,fun _ _ h=>.inr h,fun _ _=>rfl⟩
 ·have hs:=L.size
  have:=anyL_sound (cs:=cs) (k:=k) L hk last ((w0.at d).tape (w0.at d).drawn (.order b.fn id)) (Array.replicate ops.size false) a (by simp) (fun j o _ hl=>by
   simp at hl
   rcases Nat.lt_or_ge j ops.size with h1|h1<;>simp[h1]at hl) (by simp[hs]) h
  rw[← hs]at this
  simp only[Region.schedule,hm,Bool.true_or,if_true]
  exact this.at (d+1)
end
noncomputable section
open Go.ConcN (sumTo upd sumTo_upd upd_ne upd_same)
structure Lies(w:World)(a:Addr)(v:Value):Prop where
 o:∃c e,w.heap[a.block]? =some (.cells c e (0,0))∧c[a.off]? =some v
 s:a.spot=none
theorem Lies.c{w:World}{a:Addr}{v:Value}(h:Lies w a v):w.cell? a=some v:=by
 obtain⟨c,e,h1,h2⟩:=h.o
 simp[World.cell?,h1,h2,h.s]
theorem Lies.z{w:World}{a:Addr}{v:Value}(h:Lies w a v):w.frozen? a=false:=by
 obtain⟨c,e,h1,h2⟩:=h.o
 simp[World.frozen?,h1]
theorem Lies.at{w:World}{a:Addr}{v:Value}(h:Lies w a v)(d:Nat):Lies (w.at d) a v:=⟨h.o,h.s⟩
theorem Lies.same{w w':World}{a:Addr}{v:Value}(h:Lies w a v)(hw:w'.heap[a.block]? =w.heap[a.block]?):Lies w' a v:=by
 obtain⟨c,e,h1,h2⟩:=h.o
 exact⟨⟨c,e,hw.trans h1,h2⟩,h.s⟩
theorem Lies.lt{w:World}{a:Addr}{v:Value}(h:Lies w a v):a.block<w.heap.size:=by
 obtain⟨c,e,h1,h2⟩:=h.o
 exact(Array.getElem?_eq_some_iff.1 h1).1
theorem Lies.setChan{w:World}{a:Addr}{v:Value}(h:Lies w a v){c:Nat}(hc:c≠a.block)(cap:Nat)(buf:Array Value)(cl:Bool)(s r:Nat)(tm:Bool):Lies (w.setChan c cap buf cl s r tm) a v:=
 h.same (by simp[World.setChan,Array.getElem?_setIfInBounds_ne hc])
theorem Lies.alloc{w:World}{a:Addr}{v:Value}(h:Lies w a v)(o:Obj):Lies (w.alloc o) a v:=h.same (Below.heap_alloc _ _ _ h.lt)
theorem Lies.setCell{w:World}{a b:Addr}{v u:Value}(h:Lies w a v)(hb:b.block≠a.block∨b.off≠a.off)(hs:b.spot=none):Lies (w.setCell b u) a v:=by
 obtain⟨c,e,h1,h2⟩:=h.o
 by_cases hbl:b.block=a.block
 ·rcases hb with hb|hb
  ·exact absurd hbl hb
  ·exact⟨⟨c.setIfInBounds b.off u,e,by simp[World.setCell,Array.getElem?_modify,hbl,h1,hs],by rw[Array.getElem?_setIfInBounds_ne hb];exact h2⟩,h.s⟩
 ·exact h.same (Below.heap_setCell _ _ _ _ (fun e=>hbl e.symm))
theorem Lies.put{w:World}{a:Addr}{v u:Value}(h:Lies w a v):Lies (w.setCell a u) a u:=by
 obtain⟨c,e,h1,h2⟩:=h.o
 have hlt:=(Array.getElem?_eq_some_iff.1 h2).1
 exact⟨⟨c.setIfInBounds a.off u,e,by simp[World.setCell,Array.getElem?_modify,h1,h.s],by simp[hlt]⟩,h.s⟩
theorem Lies.gd{F:Fz}{w w':World}{a:Addr}{v:Value}(h:Lies w a v)(hg:Gd F w w')(hh:held F a):Lies w' a v:=by
 have hk:w'.cell? a=w.cell? a:=hg.keep a hh
 rw[h.c]at hk
 obtain⟨c,e,h1,h2⟩:=h.o
 rcases hg.objs a.block _ h1 with⟨c1,e1,z1,c',h0,h3,_⟩|h3
 ·cases h0
  exact⟨⟨c',e,h3,by simpa [World.cell?,h3,h.s]using hk⟩,h.s⟩
 ·exact⟨⟨c,e,h3,h2⟩,h.s⟩
structure Gate where
 tv:Nat
 tb:Nat
 bk:Nat
 sa:Nat
 sc:Nat
 br:Nat
 n:Nat
 sl:Value
 bl:Value
 st:Nat→Nat
 pc:Nat→Nat
 top:Nat
 an:Anchor
inductive Gate.Place(g:Gate):Addr→Value→Prop
 | tv:g.Place ⟨g.tv,0,none⟩ (.pointer (some ⟨g.tb,0,none⟩))
 | back:g.Place ⟨g.tb,0,none⟩ (.chan (some g.bk))
 | stands:g.Place ⟨g.tb,1,none⟩ g.sl
 | broken:g.Place ⟨g.tb,2,none⟩ g.bl
 | stand (i:Nat) (h:i<g.n):g.Place ⟨g.sa,i,none⟩ (.pointer (some ⟨g.st i,0,none⟩))
 | gate (i:Nat) (h:i<g.n):g.Place ⟨g.st i,0,none⟩ (.pointer (some ⟨g.tb,0,none⟩))
 | pass (i:Nat) (h:i<g.n):g.Place ⟨g.st i,1,none⟩ (.chan (some (g.pc i)))
def Gate.Still(g:Gate):Loc→Prop:=fun l=>∃a v,g.Place a v∧l= .cell a
structure Gate.K(g:Gate)(w:World):Prop where
 lies:∀a v,g.Place a v→Lies w a v
 an:g.an.Holds w
instance{g:Gate}{w:World}:CoeFun (g.K w) (fun _=>∀a v,g.Place a v→Lies w a v):=⟨Gate.K.lies⟩
theorem Anchor.Holds.alloc{A:Anchor}{w:World}(h:A.Holds w)(o:Obj):A.Holds (w.alloc o):=h.grew (F:=fun _=>none) (grew_alloc (n:=0) (fun r z hz=>by cases hz) (Nat.zero_le _) o)
theorem Anchor.Holds.setCell{A:Anchor}{w:World}(h:A.Holds w){a:Addr}(hs:a.spot=none)(v:Value):A.Holds (w.setCell a v):=h.grew (F:=fun _=>none) (grew_setCell hs (fun⟨z,hz,_⟩=>by cases hz) v)
def Gate.Chan(g:Gate)(c:Nat):Prop:=c=g.bk∨∃i,i<g.n∧c=g.pc i
structure Gate.Ok(g:Gate):Prop where
 apart:∀a v c,g.Place a v→g.Chan c→c≠a.block
 cb:∀c,g.Chan c→g.an.b≤c
 low:∀a v,g.Place a v→a.block<g.top
 clow:∀c,g.Chan c→c<g.top
 inj:∀i j,i<g.n→j<g.n→g.pc i=g.pc j→i=j
 bk:∀i,i<g.n→g.pc i≠g.bk
 sl:0<g.n→g.sl= .slice (some ⟨g.sa,0,none⟩) g.n g.sc
 bl:0<g.n→g.bl= .slice (some ⟨g.br,0,none⟩) g.n g.n
 free:∀a v,g.Place a v→g.br≠a.block
 stt:∀i a v,i<g.n→g.Place a v→g.st i=a.block→a.off<2
 brst:∀i,i<g.n→g.br≠g.st i
 brlow:0<g.n→g.br<g.top
 sinj:∀i j,i<g.n→j<g.n→g.st i=g.st j→i=j
variable{g:Gate}
theorem Gate.K.at{w:World}(h:g.K w)(d:Nat):g.K (w.at d):=⟨fun a v p=>(h a v p).at d,h.an.at d⟩
theorem Gate.K.setChan(ok:g.Ok){w:World}(h:g.K w){c:Nat}(hc:g.Chan c)(cap:Nat)(buf:Array Value)(cl:Bool)(s r:Nat)(tm:Bool):g.K (w.setChan c cap buf cl s r tm):=
 ⟨fun a v p=>(h a v p).setChan (ok.apart a v c p hc) _ _ _ _ _ _,h.an.setChan (ok.cb c hc) _ _ _ _ _ _⟩
theorem Gate.K.gd{F:Fz}(hF:∀a v,g.Place a v→held F a){w w':World}(hg:Gd F w w')(h:g.K w):g.K w':=⟨fun a v p=>(h a v p).gd hg (hF a v p),h.an.gd hg⟩
theorem Gate.covers{F:Fz}(hF:∀a v,g.Place a v→held F a):Covers F g.Still:=fun l ⟨a,v,p,e⟩=>⟨a,e,hF a v p⟩
theorem Gate.still{a:Addr}{v:Value}(h:g.Place a v):g.Still (.cell a):=⟨a,v,h,rfl⟩
class Fits (g:Gate):Prop where ok:g.Ok
class Has (g:Gate) (i:Nat):Prop where lt:i<g.n
@[simp] theorem tv_lt [h:Fits g]:g.tv<g.top:=h.ok.low _ _ .tv
@[simp] theorem tb_lt [h:Fits g]:g.tb<g.top:=h.ok.low _ _ .back
@[simp] theorem sa_lt{i:Nat} [h:Fits g] [k:Has g i]:g.sa<g.top:=h.ok.low _ _ (.stand i k.lt)
@[simp] theorem st_lt{i:Nat} [h:Fits g] [k:Has g i]:g.st i<g.top:=h.ok.low _ _ (.gate i k.lt)
theorem built56:Try.prog.built 56 []=some #[]:=by kernel_rfl
theorem zero56:(Try.prog.info? 56).bind (fun i=>i.zero.map (·.cells))=some #[]:=by kernel_rfl
@[go_sem] theorem build56(w:World):(Instr.build 56 #[]).run Try.prog w= .ok (.agg #[]) w:=run_build w 56 #[] #[] built56
@[go_sem] theorem build56e(w:World)(es:Array Event):(Instr.build 56 #[]).events Try.prog w es=es:=by
 obtain⟨i,hi,hz⟩:=Option.bind_eq_some_iff.1 zero56
 obtain⟨z,hz,hc⟩:=Option.map_eq_some_iff.1 hz
 simp[Instr.build,go_sem,zeroValue,typeInfo,hi,hz,hc,Try.underlying56]
def stepBody:Code:=Try.f133.body.getD .skip
theorem enter_step(args:Array Value):Frame.enter Try.prog 133 args .normal=(base 133).at {tmps:=args++Array.replicate (23 - args.size) undef,defers:=[]} [.code stepBody]:=
 enter_at args Try.func133 rfl
def sWait:Code:=match stepBody with| .seq _ (.seq y _)=>y|_=>.skip
def sEnd:Code:=match stepBody with| .seq _ (.seq _ z)=>z|_=>.skip
def sWaitOps:Array Oper:=match sWait with| .region _ o _=>o|_=> #[]
def atPass(g:Gate)(i:Nat)(cs:List Frame):Goroutine:=
 G ((base 133).at ⟨#[.pointer (some ⟨g.st i,0,none⟩),undef,.pointer (some ⟨g.st i,0,none⟩),.pointer (some ⟨g.st i,0,none⟩),.pointer (some ⟨g.st i,0,none⟩),.pointer (some ⟨g.tb,0,none⟩),.pointer (some ⟨g.tb,0,none⟩),.pointer (some ⟨g.tb,0,none⟩),.chan (some g.bk),.agg #[],
   .pointer (some ⟨g.st i,0,none⟩),.pointer (some ⟨g.st i,0,none⟩),.pointer (some ⟨g.st i,1,none⟩),.chan (some (g.pc i)),undef,undef,undef,undef,undef,undef,undef,undef,undef],[]⟩ [.inRegion sWaitOps [4,5],.code sEnd]) cs
def passSeat(g:Gate)(i:Nat)(cs:List Frame):Seat:=Seat.one (g.pc i) (.bool false) false (·=atPass g i cs)
theorem step_give [ok:Fits g] {i:Nat} [hi:Has g i] {cs:List Frame}{w:World}(hK:g.K w):
 Goes Try.prog false AtRel (DQ g.Still g.top) (AtGive Try.prog false g.Still g.top g.bk (.agg #[]) fun x=>Sits Try.prog false g.K g.Still g.top (passSeat g i cs) 8 x) 10 (G (Frame.enter Try.prog 133 #[.pointer (some ⟨g.st i,0,none⟩)] .normal) cs) w:=by
 rw[enter_step]
 simp only[stepBody,Try.f133,Option.getD_some]
 walk_nrm
 q_c stepG_seq
 q_reg
 q_op
 q_op
 q_op
 q_ld [((hK _ _ (.gate i hi.lt)).at dd).c,((hK _ _ (.gate i hi.lt)).at dd).z]
 q_op
 q_op
 q_ld [((hK _ _ .back).at dd).c,((hK _ _ .back).at dd).z]
 q_op
 refine fun w₁ h₁=>?_
 obtain⟨d₁,rfl⟩:=h₁
 refine atGive_of (z':=.tuple #[]) rfl rfl (by decide) (fun w=>by simp[execOp,scase,Act.eval]) (fun w=>by simp[go_sem,execOp,Act.eval]) ?_ _
 refine .inl ⟨7,w,rfl,?_⟩
 rw[served_fr,Frame.finish_at]
 walk_nrm
 k_c stepG_region_end
 k_c stepG_seq
 k_reg
 iterate 3 (k_in;refine goes_oper_k rfl rfl (by decide) (fun K hK=>?_);go_simp;refine hK _ _ ⟨⟨rfl,fun e he=>by(have hm:=mem_listed he;simp[go_sem]at hm)⟩,?_⟩;clear hK K)
 k_ld [(Gate.K.lies h₁ _ _ (.pass i hi.lt)).c,(Gate.K.lies h₁ _ _ (.pass i hi.lt)).z] (Gate.still (.pass i hi.lt))
 exact fun _ _=>⟨_,atIn_of (s:=passSeat g i cs) rfl rfl (by decide) (fun w=>by simp[go_sem,execOp,rcase,Act.eval,passSeat,Seat.one,sWaitOps,sWait,stepBody,Try.f133]) (fun w=>by simp[go_sem,execOp,Act.eval]) rfl⟩
end
noncomputable section
variable{g:Gate}{F:Fz}
def bot:Frame:={(default:Frame)with fn:=Try.prog.funcs.size,defers:=[],mode:=.panicking [goexitEntry]}
def runBody:Code:=Try.f101.body.getD .skip
def callRun(g:Gate)(i:Nat)(f:Value):Deferred:={target:=.fn (.func 101) #[],args:= #[.pointer (some ⟨g.tb,0,none⟩),.int .i64 i,f]}
theorem born_run(i:Nat)(f:Value)(w:World):stepG Try.prog false (born Try.prog (callRun g i f)) w=
 .go (G ((baseD 101).at ⟨#[.pointer (some ⟨g.tb,0,none⟩),.int .i64 i,f,undef,undef,undef,undef,undef,undef,undef,undef,undef,undef,undef,undef,undef,undef,undef,undef,undef],[]⟩ [.code runBody]) [bot]) w #[]:=by
 simp[born,callRun,stepG,unwind,callDeferred,invoke,callFunc,Try.func101,Try.f101,seen,GStep.after,G,Frame.enter,Frame.at,baseD,bot,runBody]
theorem stepG_defer'{P:Program}{main:Bool}{b:Frame}{a:Act}{k:List Item}{cs:List Frame}{w:World}{ops:Array Oper}{i:Nat}{rest:List Nat}{o:Oper}{d:Deferred}(ho:ops[i]? =some o)(hw:Region.wanted o (yielded ops a.tmps)=true)(hk:b.kind≠.early)
 (hr:(execOp a.eval o).run P w= .ok (.defer d) w) (he:(execOp a.eval o).events P w #[]= #[]):
 stepG P main (G (b.at a (.inRegion ops (i::rest)::k)) cs) w= .go (G (b.at (Act.put ⟨a.tmps,d::a.defers⟩ o.dst undef) (.inRegion ops rest::k)) cs) w #[]:=by
 have hfin:(b.at ⟨a.tmps,d::a.defers⟩ (.inRegion ops (i::rest)::k)).finish undef=b.at (Act.put ⟨a.tmps,d::a.defers⟩ o.dst undef) (.inRegion ops rest::k):=by rw[Frame.finish_at,ho];rfl
 have hk':(b.kind == CallKind.early)=false:=by simpa using hk
 rw[stepG_oper ho hw,← hfin]
 simp[stepG.apply,hr,he,G,Frame.at,hk',GStep.after,seen_none]
structure Vars where
 x:Nat
 e:Nat
 i:Nat
def runEnd(v:Vars):Deferred:={target:=.fn (.func 111) #[.pointer (some ⟨v.x,0,none⟩),.pointer (some ⟨v.e,0,none⟩),.pointer (some ⟨v.i,0,none⟩)],args:= #[]}
def runRest:Code:=match runBody with| .seq _ (.seq _ (.seq _ c))=>c|_=>.skip
def runFn(v:Vars):Value:=.func (.func 111) #[] #[.pointer (some ⟨v.x,0,none⟩),.pointer (some ⟨v.e,0,none⟩),.pointer (some ⟨v.i,0,none⟩)]
def madeRun(g:Gate)(i:Nat)(w:World):World:=((w.alloc (.cells #[.pointer (some ⟨g.tb,0,none⟩)] 168)).alloc (.cells #[.int .i64 i] 3)).alloc (.cells #[.bool false] 4)
theorem own_run [ok:Fits g] {i:Nat} [hi:Has g i] {n:Nat}(hU:Under F n){f:Value}{w:World}(hn:n≤w.heap.size){Stop:Goroutine→World→Prop}
 (h:Own Try.prog false F Stop (G ((baseD 101).at ⟨#[.pointer (some ⟨g.tb,0,none⟩),.int .i64 i,f,.pointer (some ⟨w.heap.size,0,none⟩),.pointer (some ⟨w.heap.size+1,0,none⟩),undef,.pointer (some ⟨w.heap.size+2,0,none⟩),runFn ⟨w.heap.size,w.heap.size+2,w.heap.size+1⟩,
   undef,undef,undef,undef,undef,undef,undef,undef,undef,undef,undef,undef],[runEnd ⟨w.heap.size,w.heap.size+2,w.heap.size+1⟩]⟩ [.code runRest]) [bot]) (madeRun g i w)):Own Try.prog false F Stop (born Try.prog (callRun g i f)) w:=by
 refine own_go rfl (fun d=>born_run i f _) ?_
 simp only[runBody,Try.f101,Option.getD_some]
 refine ogS ?_
 refine ogR ?_
 simp only[List.size_toArray,List.length_cons,List.length_nil,Nat.reduceAdd,Nat.zero_add,List.range,List.range.loop]
 iterate 2 (refine oW fun dd K hK=>?_;go_simp;refine qA hK hU ?_;clear hK K)
 refine ogE ?_
 refine ogS ?_
 refine ogR ?_
 simp only[List.size_toArray,List.length_cons,List.length_nil,Nat.reduceAdd,Nat.zero_add,List.range,List.range.loop]
 (refine oW fun dd K hK=>?_;go_simp;refine qA hK hU ?_;clear hK K)
 (refine oW fun dd K hK=>?_;go_simp;refine qS hK hU ?_;clear hK K)
 have e1:∀X:World,(X.alloc (Obj.cells #[Value.bool false] 4)).setCell ⟨X.heap.size,0,none⟩ (Value.bool false)=X.alloc (Obj.cells #[Value.bool false] 4):=fun X=>by go_simp
 have e2:=e1 ((w.alloc (Obj.cells #[Value.pointer (some ⟨g.tb,0,none⟩)] 168)).alloc (Obj.cells #[Value.int IntKind.i64 i] 3))
 simp only[World.size_alloc]at e2
 rw[e2]
 clear e1 e2
 refine ogE ?_
 refine ogS ?_
 refine ogR ?_
 simp only[List.size_toArray,List.length_cons,List.length_nil,Nat.reduceAdd,Nat.zero_add,List.range,List.range.loop]
 (refine oW fun dd K hK=>?_;go_simp;refine qT hK ?_;clear hK K)
 refine own_go rfl (fun d=>stepG_defer' (d:=runEnd ⟨w.heap.size,w.heap.size+1+1,w.heap.size+1⟩) rfl rfl (by decide) (by simp[go_sem,execOp,Act.eval,runEnd]) (by simp[go_sem,execOp,Act.eval])) ?_
 refine ogE ?_
 exact h
end
noncomputable section
variable{g:Gate}{F:Fz}
def runCall:Code:=match runRest with| .seq (.seq _ (.cond _ c _)) _=>c|_=>.skip
def runLast:Code:=match runRest with| .seq _ c=>c|_=>.skip
def runOps:Array Oper:=match runCall with| .region _ o _=>o|_=> #[]
def rf(g:Gate)(i:Nat)(v:Vars)(f:Value):Frame:=
 (baseD 101).at ⟨#[.pointer (some ⟨g.tb,0,none⟩),.int .i64 i,f,.pointer (some ⟨v.x,0,none⟩),.pointer (some ⟨v.i,0,none⟩),undef,.pointer (some ⟨v.e,0,none⟩),runFn v,
   f,.bool true,f,.pointer (some ⟨g.tb,0,none⟩),.pointer (some ⟨g.tb,0,none⟩),.pointer (some ⟨g.tb,1,none⟩),g.sl,.int .i64 i,.pointer (some ⟨g.sa,i,none⟩),.pointer (some ⟨g.st i,0,none⟩),.iface 173 (.pointer (some ⟨g.st i,0,none⟩)),undef],[runEnd v]⟩ [.inRegion runOps [9],.code runLast]
structure VarsOk(g:Gate)(i:Nat)(v:Vars)(w:World):Prop where
 x:Lies w ⟨v.x,0,none⟩ (.pointer (some ⟨g.tb,0,none⟩))
 i:Lies w ⟨v.i,0,none⟩ (.int .i64 i)
 e:Lies w ⟨v.e,0,none⟩ (.bool false)
 hx:g.top≤v.x
 hi:g.top≤v.i
 he:g.top≤v.e
 ex:v.e≠v.x
 ei:v.e≠v.i
theorem run_mixed:Try.prog.follows .mixedOrders=true:=by kernel_rfl
@[go_sem] theorem ev_neq_nilFunc(f:Fn)(x c:Array Value)(w:World)(es:Array Event):(binOp .neq 112 (.func f x c) .nilFunc).events Try.prog w es=es:=by
 have h:∀w es,(Op.equal 112 (.func f x c) .nilFunc).events Try.prog w es=es:=fun w es=>by
  unfold Op.equal Op.maxDepth
  rw[Op.equalIn]
  simp[go_sem,Try.underlying112]
 simp[binOp,go_sem,h]
theorem anyL_end'{P:Program}{fn:FuncId}{ops:Array Oper}{w0:World}{last:Nat}{Z:Act→Prop}{listed:Array Bool}{a:Act}(hr:Region.ready .any ops listed=[last])(h:Z a)(fuel:Nat):AnyL P F fn ops w0 last Z fuel listed a:=
 anyL_end (by rw[hr];simp) h fuel
theorem own_call{P:Program}{main:Bool}{b:Frame}{a:Act}{k:List Item}{cs:List Frame}{w:World}{ops:Array Oper}{i:Nat}{rest:List Nat}{o:Oper}{f:FuncId}{args:Array Value}{Stop:Goroutine→World→Prop}
 (ho:ops[i]? =some o) (hw:Region.wanted o (yielded ops a.tmps)=true) (hk:b.kind≠.early) (hr:∀w,(execOp a.eval o).run P w= .ok (.enter f args) w) (he:∀w,(execOp a.eval o).events P w #[]= #[])
 (h:Own P main F Stop (G (Frame.enter P f args .normal) (b.at a (.inRegion ops (i::rest)::k)::cs)) w):Own P main F Stop (G (b.at a (.inRegion ops (i::rest)::k)) cs) w:=
 own_go rfl (fun d=>by rw[stepG_enter ho hw hk (hr _),listed_none (he _)]) h
theorem oc{main:Bool}{F:Fz}{b:Frame}{a:Act}{k:List Item}{cs:List Frame}{w:World}{ops:Array Oper}{i:Nat}{rest:List Nat}{o:Oper}{f:FuncId}{Stop:Goroutine→World→Prop}(hc:Callable f)(args:Array Value)
 (h:Own Try.prog main F Stop (G (Frame.enter Try.prog f args .normal) (b.at a (.inRegion ops (i::rest)::k)::cs)) w) (ho:ops[i]? =some o:=by exact rfl) (hw:Region.wanted o (yielded ops a.tmps)=true:=by exact rfl) (hk:b.kind≠.early:=by decide)
 (hr:∀w,(execOp a.eval o).run Try.prog w=(callFunc f args).run Try.prog w:=by intros;simp[execOp,Act.eval,resolve,invoke,Deferred.ofValue]) (he:∀w,(execOp a.eval o).events Try.prog w #[]=(callFunc f args).events Try.prog w #[]:=by intros;simp[execOp,Act.eval,resolve,invoke,Deferred.ofValue]):
 Own Try.prog main F Stop (G (b.at a (.inRegion ops (i::rest)::k)) cs) w:=
 own_call ho hw hk (fun w=>(hr w).trans (hc.run _ _)) (fun w=>(he w).trans (hc.quiet _ _)) h
@[go_sem] theorem mk145(x:Value)(w:World):(Instr.makeInterface 173 x).run Try.prog w= .ok (.iface 173 x) w:=by simp[Instr.makeInterface,run_underlying Try.underlying173]
@[go_sem] theorem mk_quiet(t:TypeId)(x:Value)(w:World)(es:Array Event):(Instr.makeInterface t x).events Try.prog w es=es:=by
 unfold Instr.makeInterface
 simp only[Sem.events_bind,events_underlying]
 cases(underlying t).run Try.prog w with
 | ok d u=>cases d<;>simp[go_sem]
 | halt x u=>rfl
theorem own_run2 [ok:Fits g] {i:Nat} [hi:Has g i] {v:Vars}{fid:FuncId}{cap:Array Value}{w:World}(hc:Callable fid)(hK:g.K w)(hv:VarsOk g i v w){Stop:Goroutine→World→Prop}
 (h:Own Try.prog false F Stop (G (Frame.enter Try.prog fid (#[.iface 173 (.pointer (some ⟨g.st i,0,none⟩))]++cap) .normal) [rf g i v (.func (.func fid) #[] cap),bot]) w):
 Own Try.prog false F Stop (G ((baseD 101).at ⟨#[.pointer (some ⟨g.tb,0,none⟩),.int .i64 i,.func (.func fid) #[] cap,.pointer (some ⟨v.x,0,none⟩),.pointer (some ⟨v.i,0,none⟩),undef,.pointer (some ⟨v.e,0,none⟩),runFn v,
  undef,undef,undef,undef,undef,undef,undef,undef,undef,undef,undef,undef],[runEnd v]⟩ [.code runRest]) [bot]) w:=by
 simp only[runRest,runBody,Try.f101,Option.getD_some]
 refine ogS ?_
 refine ogS ?_
 refine ogR ?_
 simp only[List.size_toArray,List.length_cons,List.length_nil,Nat.reduceAdd,Nat.zero_add,List.range,List.range.loop]
 iterate 2 (refine oW fun dd K hK=>?_;go_simp;refine qT hK ?_;clear hK K)
 refine ogE ?_
 refine ogT ?_
 simp only[if_true]
 refine own_drawn (last:=9) run_mixed (ll_of (by kernel_rfl)) (by decide) ?_
 simp only[List.size_toArray,List.length_cons,List.length_nil,Nat.reduceAdd]
 have hsl:=ok.ok.sl (Nat.lt_of_le_of_lt (Nat.zero_le _) hi.lt)
 have hi':=hi.lt
 refine anyL_take (i:=0) (v:=.func (.func fid) #[] cap) rfl rfl (by kernel_rfl) (by kernel_rfl) (by kernel_rfl) (.inl ⟨rfl,fun d=>⟨by simp[go_sem,execOp,Act.eval],fun e he=>by have hm:=mem_listed he;simp[go_sem,execOp,Act.eval]at hm⟩⟩) ?_
 walk_nrm
 refine anyL_take (i:=1) (v:=.pointer (some ⟨g.tb,0,none⟩)) rfl rfl (by kernel_rfl) (by kernel_rfl) (by kernel_rfl) (.inl ⟨rfl,fun d=>⟨by simp[go_sem,execOp,Act.eval,hv.x.c,hv.x.z],fun e he=>by have hm:=mem_listed he;simp[go_sem,execOp,Act.eval,hv.x.c,hv.x.z]at hm;subst hm;exact evT_read _ _⟩⟩) ?_
 walk_nrm
 refine anyL_take (i:=2) (v:=.pointer (some ⟨g.tb,0,none⟩)) rfl rfl (by kernel_rfl) (by kernel_rfl) (by kernel_rfl) (.inl ⟨rfl,fun d=>⟨by simp[go_sem,execOp,Act.eval],fun e he=>by have hm:=mem_listed he;simp[go_sem,execOp,Act.eval]at hm⟩⟩) ?_
 walk_nrm
 refine anyL_take (i:=3) (v:=.pointer (some ⟨g.tb,1,none⟩)) rfl rfl (by kernel_rfl) (by kernel_rfl) (by kernel_rfl) (.inl ⟨rfl,fun d=>⟨by simp[go_sem,execOp,Act.eval],fun e he=>by have hm:=mem_listed he;simp[go_sem,execOp,Act.eval]at hm⟩⟩) ?_
 walk_nrm
 refine anyL_take (i:=4) (v:=g.sl) rfl rfl (by kernel_rfl) (by kernel_rfl) (by kernel_rfl) (.inl ⟨rfl,fun d=>⟨by simp[go_sem,execOp,Act.eval,(hK _ _ .stands).c,(hK _ _ .stands).z],fun e he=>by have hm:=mem_listed he;simp[go_sem,execOp,Act.eval,(hK _ _ .stands).c,(hK _ _ .stands).z]at hm;subst hm;exact evT_read _ _⟩⟩) ?_
 walk_nrm
 refine anyL_take (i:=5) (v:=.int .i64 i) rfl rfl (by kernel_rfl) (by kernel_rfl) (by kernel_rfl) (.inl ⟨rfl,fun d=>⟨by simp[go_sem,execOp,Act.eval,hv.i.c,hv.i.z],fun e he=>by have hm:=mem_listed he;simp[go_sem,execOp,Act.eval,hv.i.c,hv.i.z]at hm;subst hm;exact evT_read _ _⟩⟩) ?_
 walk_nrm
 refine anyL_take (i:=6) (v:=.pointer (some ⟨g.sa,i,none⟩)) rfl rfl (by kernel_rfl) (by kernel_rfl) (by kernel_rfl) (.inl ⟨rfl,fun d=>⟨by simp[go_sem,execOp,Act.eval,hsl,hi'],fun e he=>by have hm:=mem_listed he;simp[go_sem,execOp,Act.eval,hsl,hi']at hm⟩⟩) ?_
 walk_nrm
 refine anyL_take (i:=7) (v:=.pointer (some ⟨g.st i,0,none⟩)) rfl rfl (by kernel_rfl) (by kernel_rfl) (by kernel_rfl) (.inl ⟨rfl,fun d=>⟨by simp[go_sem,execOp,Act.eval,(hK _ _ (.stand i hi.lt)).c,(hK _ _ (.stand i hi.lt)).z],fun e he=>by have hm:=mem_listed he;simp[go_sem,execOp,Act.eval,(hK _ _ (.stand i hi.lt)).c,(hK _ _ (.stand i hi.lt)).z]at hm;subst hm;exact evT_read _ _⟩⟩) ?_
 walk_nrm
 refine anyL_take (i:=8) (v:=.iface 173 (.pointer (some ⟨g.st i,0,none⟩))) rfl rfl (by kernel_rfl) (by kernel_rfl) (by kernel_rfl) (.inl ⟨rfl,fun d=>⟨by simp[go_sem,execOp,Act.eval],fun e he=>by have hm:=mem_listed he;simp[go_sem,execOp,Act.eval]at hm⟩⟩) ?_
 walk_nrm
 refine anyL_end' (by kernel_rfl) ?_ _
 exact own_call rfl rfl (by decide) (fun w=>by simp[execOp,Act.eval,resolve,invoke,Deferred.ofValue,hc.run]) (fun w=>by simp[execOp,Act.eval,resolve,invoke,Deferred.ofValue,hc.run,hc.quiet]) h
end
noncomputable section
variable{g:Gate}{F:Fz}
open Classical in
def FK(g:Gate):Fz:=fun r=>if ∃i,i<g.n∧r=g.st i then some (0,2)else if ∃a v,g.Place a v∧a.block=r then some (0,g.n+3)else none
theorem fk_place(ok:g.Ok){a:Addr}{v:Value}(p:g.Place a v):held (FK g) a:=by
 by_cases h:∃i,i<g.n∧a.block=g.st i
 ·refine⟨(0,2),by simp only[FK,if_pos h],Nat.zero_le _,?_⟩
  obtain⟨i,hi,e⟩:=h
  exact ok.stt i a v hi p e.symm
 ·refine⟨(0,g.n+3),by simp only[FK,if_neg h];rw[if_pos ⟨a,v,p,rfl⟩],Nat.zero_le _,?_⟩
  cases p<;>simp<;>omega
theorem fk_none{r:Nat}(h1:∀i,i<g.n→r≠g.st i)(h2:∀a v,g.Place a v→r≠a.block):FK g r=none:=by
 simp only[FK]
 rw[if_neg (fun⟨i,hi,e⟩=>h1 i hi e),if_neg (fun⟨a,v,p,e⟩=>h2 a v p e.symm)]
theorem fk_over{i:Nat}(hi:i<g.n):¬held (FK g) ⟨g.st i,2,none⟩:=by
 rintro⟨z,h1,h2,h3⟩
 simp only[FK]at h1
 rw[if_pos ⟨i,hi,rfl⟩]at h1
 cases h1
 exact absurd h3 (by simp)
theorem fk_under(ok:g.Ok):Under (FK g) g.top:=by
 intro r z h
 simp only[FK]at h
 split at h
 ·rename_i h1
  obtain⟨i,hi,rfl⟩:=h1
  exact ok.low _ _ (.gate i hi)
 ·split at h
  ·rename_i h1
   obtain⟨a,v,p,rfl⟩:=h1
   exact ok.low _ _ p
  ·cases h
theorem stepG_no_recover{P:Program}{main:Bool}{b:Frame}{a:Act}{k:List Item}{cs:List Frame}{w:World}{ops:Array Oper}{i:Nat}{rest:List Nat}{o:Oper}(ho:ops[i]? =some o)(hw:Region.wanted o (yielded ops a.tmps)=true)(hk:b.kind≠.early)
 (hr:(execOp a.eval o).run P w= .ok .recover w) (he:(execOp a.eval o).events P w #[]= #[]) (h1:(b.at a (.inRegion ops (i::rest)::k)).roundOf=none) (h2:tryRecover (b.at a (.inRegion ops (i::rest)::k)) cs=none):
 stepG P main (G (b.at a (.inRegion ops (i::rest)::k)) cs) w= .go (G (b.at (a.put o.dst .nilIface) (.inRegion ops rest::k)) cs) w #[]:=by
 have hfin:(b.at a (.inRegion ops (i::rest)::k)).finish .nilIface=b.at (a.put o.dst .nilIface) (.inRegion ops rest::k):=by rw[Frame.finish_at,ho];rfl
 have hk':(b.kind == CallKind.early)=false:=by simpa using hk
 rw[stepG_oper ho hw,← hfin]
 simp[stepG.apply,hr,he,G,Frame.at,hk',GStep.after,seen_none]at h1 h2 ⊢
 simp[h1,h2]
theorem stepG_recovers{P:Program}{main:Bool}{b:Frame}{a:Act}{k:List Item}{cs cs':List Frame}{w:World}{ops:Array Oper}{i:Nat}{rest:List Nat}{o:Oper}{v:Value}(ho:ops[i]? =some o)(hw:Region.wanted o (yielded ops a.tmps)=true)(hk:b.kind≠.early)
 (hr:(execOp a.eval o).run P w= .ok .recover w) (he:(execOp a.eval o).events P w #[]= #[]) (h1:(b.at a (.inRegion ops (i::rest)::k)).roundOf=none) (h2:tryRecover (b.at a (.inRegion ops (i::rest)::k)) cs=some (v,cs')):
 stepG P main (G (b.at a (.inRegion ops (i::rest)::k)) cs) w= .go (G (b.at (a.put o.dst v) (.inRegion ops rest::k)) cs') w #[]:=by
 have hfin:(b.at a (.inRegion ops (i::rest)::k)).finish v=b.at (a.put o.dst v) (.inRegion ops rest::k):=by rw[Frame.finish_at,ho];rfl
 have hk':(b.kind == CallKind.early)=false:=by simpa using hk
 rw[stepG_oper ho hw,← hfin]
 simp[stepG.apply,hr,he,G,Frame.at,hk',GStep.after,seen_none]at h1 h2 ⊢
 simp[h1,h2]
theorem stepG_unwind_fn{P:Program}{main:Bool}{b:Frame}{a:Act}{cs:List Frame}{w:World}{todo:List Item}{md:FrameMode}{ds:List Deferred}{f:FuncId}{fn:Func}{cap:Array Value}{c:Code}(hd:a.defers={target:=.fn (.func f) cap,args:= #[]}::ds)
 (hf : P.funcs[f]? = some fn) (hname : (fn.name == "runtime.NumGoroutine") = false) (hb : fn.body = some c) (hm : (md matches .run) = false := by rfl) :
 stepG P main (G {b.at a todo with mode:=md} cs) w=
  .go (G ((baseD f).at {tmps:=cap++Array.replicate (fn.ntmps - cap.size) undef,defers:=[]} [.code c]) ({b.at ⟨a.tmps,ds⟩ todo with mode:=md}::cs)) w #[]:=by
 have h1 : ¬ fn.name = "runtime.NumGoroutine" := by simpa using hname
 rw[← enter_atD cap hf hb]
 cases md<;>simp[G,stepG,unwind,callDeferred,Frame.at,hd,invoke,callFunc,hf,h1,hb,GStep.after,seen_none]at hm ⊢
def endBody:Code:=Try.f111.body.getD .skip
def rfAct(g:Gate)(i:Nat)(v:Vars)(f r:Value)(ds:List Deferred):Act:=
 ⟨#[.pointer (some ⟨g.tb,0,none⟩),.int .i64 i,f,.pointer (some ⟨v.x,0,none⟩),.pointer (some ⟨v.i,0,none⟩),undef,.pointer (some ⟨v.e,0,none⟩),runFn v,
  f,.bool true,f,.pointer (some ⟨g.tb,0,none⟩),.pointer (some ⟨g.tb,0,none⟩),.pointer (some ⟨g.tb,1,none⟩),g.sl,.int .i64 i,.pointer (some ⟨g.sa,i,none⟩),.pointer (some ⟨g.st i,0,none⟩),.iface 173 (.pointer (some ⟨g.st i,0,none⟩)),r],ds⟩
def rfOut(g:Gate)(i:Nat)(v:Vars)(f r:Value)(md:FrameMode)(ds:List Deferred)(todo:List Item):Frame:={(baseD 101).at (rfAct g i v f r ds) todo with mode:=md}
theorem rf_finish(g:Gate)(i:Nat)(v:Vars)(f r:Value):(rf g i v f).finish r=(baseD 101).at (rfAct g i v f r [runEnd v]) [.inRegion runOps [],.code runLast]:=by
 unfold rf
 rw[Frame.finish_at]
 simp only[runOps,runCall,runLast,runRest,runBody,Try.f101,Option.getD_some,List.getElem?_toArray,List.getElem?_cons_succ,List.getElem?_cons_zero,Option.bind_some]
 walk_nrm
 rfl
theorem own_end1 [ok:Fits g] {i:Nat} [hi:Has g i] {v:Vars}{f r:Value}{w:World}(hv:VarsOk g i v w){Stop:Goroutine→World→Prop}
 (h:Own Try.prog false (FK g) Stop (G ((baseD 111).at ⟨#[.pointer (some ⟨v.x,0,none⟩),.pointer (some ⟨v.e,0,none⟩),.pointer (some ⟨v.i,0,none⟩)]++Array.replicate 40 undef,[]⟩ [.code endBody]) [rfOut g i v f r .returning [] [],bot]) (w.setCell ⟨v.e,0,none⟩ (.bool true))):
 Own Try.prog false (FK g) Stop (G ((rf g i v f).finish r) [bot]) w:=by
 have hnh:¬held (FK g) ⟨v.e,0,none⟩:=not_held (fk_under ok.ok) hv.he
 have hc:=hv.e.c
 have hz:=hv.e.z
 rw[rf_finish]
 unfold rfAct
 simp only[runOps,runCall,runLast,runRest,runBody,Try.f101,Option.getD_some]
 refine own_go rfl (fun d=>stepG_region_end (b:=baseD 101)) ?_
 (refine ogR ?_;simp only[List.size_toArray,List.length_cons,List.length_nil,Nat.reduceAdd,Nat.zero_add,List.range,List.range.loop])
 refine oW fun dd K hK=>?_;go_simp
 refine hK _ _ ⟨⟨⟨0,grew_setCell rfl hnh _⟩,fun e he=>by(have hm:=mem_listed he;simp[go_sem,storedEv,hc,hz]at hm;subst hm;exact evT_write _ _ hnh)⟩,?_⟩;clear hK K;rw[setCell_at'];refine Own.at ?_ dd
 refine ogE ?_
 refine own_go rfl (fun d=>stepG_end) ?_
 refine own_go rfl (fun d=>stepG_unwind_fn (fn:=Try.f111) (c:=endBody) rfl Try.func111 rfl rfl) ?_
 exact h
end
noncomputable section
variable{g:Gate}{F:Fz}
theorem zero161:(Try.prog.info? 188).bind (·.zero)=some (.agg #[.nilIface]):=by kernel_rfl
@[go_sem] theorem ta_nil(w:World):(Instr.typeAssert .nilIface 20 188 true).run Try.prog w= .ok (.tuple #[.agg #[.nilIface],.bool false]) w:=by
 obtain⟨i,hi,hz⟩:=Option.bind_eq_some_iff.1 zero161
 simp[Instr.typeAssert,run_underlying Try.underlying188,zeroValue,typeInfo,hi,hz]
@[go_sem] theorem ta_nil_ev(w:World)(es:Array Event):(Instr.typeAssert .nilIface 20 188 true).events Try.prog w es=es:=by
 obtain⟨i,hi,hz⟩:=Option.bind_eq_some_iff.1 zero161
 simp[Instr.typeAssert,run_underlying Try.underlying188,zeroValue,typeInfo,hi,hz,go_sem]
@[go_sem] theorem ta_end(v:Value)(w:World):(Instr.typeAssert (.iface 188 v) 20 188 true).run Try.prog w= .ok (.tuple #[v,.bool true]) w:=by
 simp[Instr.typeAssert,run_underlying Try.underlying188]
@[go_sem] theorem ta_end_ev(v:Value)(w:World)(es:Array Event):(Instr.typeAssert (.iface 188 v) 20 188 true).events Try.prog w es=es:=by
 simp[Instr.typeAssert,run_underlying Try.underlying188,go_sem]
def endSend:Code:=match endBody with| .seq _ (.seq _ (.seq _ c))=>c|_=>.skip
def endW(g:Gate)(i:Nat)(w:World):World:=((w.alloc (.cells #[.nilIface] 188)).setCell ⟨g.br,i,none⟩ (.bool false)).setCell ⟨g.st i,2,none⟩ (.bool true)
theorem own_end2 [ok:Fits g] {i:Nat} [hi:Has g i] {v:Vars}{w:World}{c:Frame}(hcm:c.mode= .returning)(hK:g.K w)(hvx:g.top≤v.x)(hvi:g.top≤v.i)(hve:g.top≤v.e)(hx:Lies w ⟨v.x,0,none⟩ (.pointer (some ⟨g.tb,0,none⟩)))(hi2:Lies w ⟨v.i,0,none⟩ (.int .i64 i))(he:Lies w ⟨v.e,0,none⟩ (.bool true))
 (hb:∃b,Lies w ⟨g.br,i,none⟩ (.bool b)) (ho:Lies w ⟨g.st i,2,none⟩ (.bool false)) {Stop:Goroutine→World→Prop}
 (h:∀t3 t4 t5 t6 t7 t8 t9 t10 t11 t12 t13 t14 t15 t16 t17 t18 t19 t20 t21 t22 t23 t24 t25 t26 t27 t28 t29 t30 t31 t32 t33 t34 t35 t36 t37:Value,Own Try.prog false (FK g) Stop (G ((baseD 111).at ⟨#[.pointer (some ⟨v.x,0,none⟩),.pointer (some ⟨v.e,0,none⟩),.pointer (some ⟨v.i,0,none⟩),t3,t4,t5,t6,t7,t8,t9,t10,t11,t12,t13,t14,t15,t16,t17,t18,t19,t20,t21,t22,t23,t24,t25,t26,t27,t28,t29,t30,t31,t32,t33,t34,t35,t36,t37,undef,undef,undef,undef,undef],[]⟩ [.code endSend]) [c,bot]) (endW g i w)):
 Own Try.prog false (FK g) Stop (G ((baseD 111).at ⟨#[.pointer (some ⟨v.x,0,none⟩),.pointer (some ⟨v.e,0,none⟩),.pointer (some ⟨v.i,0,none⟩)]++Array.replicate 40 undef,[]⟩ [.code endBody]) [c,bot]) w:=by
 have hU:=fk_under ok.ok
 have hi':=hi.lt
 have hsl:=ok.ok.sl (Nat.lt_of_le_of_lt (Nat.zero_le _) hi')
 have hbl:=ok.ok.bl (Nat.lt_of_le_of_lt (Nat.zero_le _) hi')
 have hnb:¬held (FK g) ⟨g.br,i,none⟩:=not_held' (fk_none (ok.ok.brst) (ok.ok.free))
 have hno:¬held (FK g) ⟨g.st i,2,none⟩:=fk_over hi'
 have hw0:g.top≤w.heap.size:=Nat.le_of_lt (Nat.lt_of_le_of_lt hvx hx.lt)
 have hbr:=ok.ok.brlow (Nat.lt_of_le_of_lt (Nat.zero_le _) hi')
 have hst:g.st i<g.top:=st_lt
 walk_nrm
 simp only[endBody,Try.f111,Option.getD_some]
 refine ogS ?_
 (refine ogR ?_;simp only[List.size_toArray,List.length_cons,List.length_nil,Nat.reduceAdd,Nat.zero_add,List.range,List.range.loop])
 refine own_go rfl (fun d=>stepG_no_recover rfl rfl (by decide) (by simp[execOp,go_sem]) (by simp[execOp,go_sem]) rfl (by simp[tryRecover,Frame.at,baseD,hcm])) ?_
 walk_nrm
 (refine oW fun dd K hK=>?_;go_simp;refine qT hK ?_;clear hK K)
 refine ogE ?_
 refine ogS ?_
 refine ogS ?_
 (refine ogR ?_;simp only[List.size_toArray,List.length_cons,List.length_nil,Nat.reduceAdd,Nat.zero_add,List.range,List.range.loop])
 iterate 5 (refine oW fun dd K hK=>?_;go_simp;refine qT hK ?_;clear hK K)
 (refine oW fun dd K hK=>?_;go_simp;refine qA hK hU ?_;clear hK K)
 (refine oW fun dd K hK=>?_;go_simp;refine qS hK hU ?_;clear hK K)
 have e1:(w.alloc (Obj.cells #[Value.nilIface] 188)).setCell ⟨w.heap.size,0,none⟩ Value.nilIface=w.alloc (Obj.cells #[Value.nilIface] 188):=by go_simp
 rw[e1]
 clear e1
 have hK1:g.K (w.alloc (.cells #[.nilIface] 188)):=⟨fun a u p=>(hK a u p).alloc _,hK.an.alloc _⟩
 have hx1:=hx.alloc (.cells #[.nilIface] 188)
 have hi1:=hi2.alloc (.cells #[.nilIface] 188)
 have he1:=he.alloc (.cells #[.nilIface] 188)
 have hb1:∃b,Lies (w.alloc (.cells #[.nilIface] 188)) ⟨g.br,i,none⟩ (.bool b):=hb.imp fun _ h=>h.alloc _
 have ho1:=ho.alloc (.cells #[.nilIface] 188)
 unfold endW at h
 clear hK hx hi2 he hb ho
 generalize w.alloc (.cells #[.nilIface] 188)=w1 at*
 (refine oW fun dd K hK=>?_;go_simp;refine qT hK ?_;clear hK K)
 refine ogE ?_
 refine ogS ?_
 (refine ogR ?_;simp only[List.size_toArray,List.length_cons,List.length_nil,Nat.reduceAdd,Nat.zero_add,List.range,List.range.loop])
 iterate 3 (refine oW fun dd K hK=>?_;go_simp;refine qT hK ?_;clear hK K)
 iterate 5 refine ogU rfl rfl ?_
 walk_nrm
 (refine oW fun dd K hK=>?_;go_simp;refine qT hK ?_;clear hK K)
 refine ogE ?_
 refine ogT ?_
 simp only[if_true]
 refine own_drawn (last:=8) run_mixed (ll_of (by kernel_rfl)) (by decide) ?_
 simp only[List.size_toArray,List.length_cons,List.length_nil,Nat.reduceAdd]
 refine anyL_take (i:=0) (v:=.pointer (some ⟨g.tb,0,none⟩)) rfl rfl (by kernel_rfl) (by kernel_rfl) (by kernel_rfl) (.inl ⟨rfl,fun d=>⟨by simp[go_sem,execOp,Act.eval,hx1.c,hx1.z],fun e he=>by have hm:=mem_listed he;simp[go_sem,execOp,Act.eval,hx1.c,hx1.z]at hm;subst hm;exact evT_read _ _⟩⟩) ?_
 walk_nrm
 refine anyL_take (i:=1) (v:=.pointer (some ⟨g.tb,0,none⟩)) rfl rfl (by kernel_rfl) (by kernel_rfl) (by kernel_rfl) (.inl ⟨rfl,fun d=>⟨by simp[go_sem,execOp,Act.eval],fun e he=>by have hm:=mem_listed he;simp[go_sem,execOp,Act.eval]at hm⟩⟩) ?_
 walk_nrm
 refine anyL_take (i:=2) (v:=.pointer (some ⟨g.tb,2,none⟩)) rfl rfl (by kernel_rfl) (by kernel_rfl) (by kernel_rfl) (.inl ⟨rfl,fun d=>⟨by simp[go_sem,execOp,Act.eval],fun e he=>by have hm:=mem_listed he;simp[go_sem,execOp,Act.eval]at hm⟩⟩) ?_
 walk_nrm
 refine anyL_take (i:=3) (v:=g.bl) rfl rfl (by kernel_rfl) (by kernel_rfl) (by kernel_rfl) (.inl ⟨rfl,fun d=>⟨by simp[go_sem,execOp,Act.eval,(hK1 _ _ .broken).c,(hK1 _ _ .broken).z],fun e he=>by have hm:=mem_listed he;simp[go_sem,execOp,Act.eval,(hK1 _ _ .broken).c,(hK1 _ _ .broken).z]at hm;subst hm;exact evT_read _ _⟩⟩) ?_
 walk_nrm
 refine anyL_take (i:=4) (v:=.int .i64 i) rfl rfl (by kernel_rfl) (by kernel_rfl) (by kernel_rfl) (.inl ⟨rfl,fun d=>⟨by simp[go_sem,execOp,Act.eval,hi1.c,hi1.z],fun e he=>by have hm:=mem_listed he;simp[go_sem,execOp,Act.eval,hi1.c,hi1.z]at hm;subst hm;exact evT_read _ _⟩⟩) ?_
 walk_nrm
 refine anyL_take (i:=5) (v:=.bool true) rfl rfl (by kernel_rfl) (by kernel_rfl) (by kernel_rfl) (.inl ⟨rfl,fun d=>⟨by simp[go_sem,execOp,Act.eval,he1.c,he1.z],fun e he=>by have hm:=mem_listed he;simp[go_sem,execOp,Act.eval,he1.c,he1.z]at hm;subst hm;exact evT_read _ _⟩⟩) ?_
 walk_nrm
 refine anyL_take (i:=6) (v:=.bool false) rfl rfl (by kernel_rfl) (by kernel_rfl) (by kernel_rfl) (.inl ⟨rfl,fun d=>⟨by simp[go_sem,execOp,Act.eval],fun e he=>by have hm:=mem_listed he;simp[go_sem,execOp,Act.eval]at hm⟩⟩) ?_
 walk_nrm
 refine anyL_take (i:=7) (v:=.pointer (some ⟨g.br,i,none⟩)) rfl rfl (by kernel_rfl) (by kernel_rfl) (by kernel_rfl) (.inl ⟨rfl,fun d=>⟨by simp[go_sem,execOp,Act.eval,hbl,hi'],fun e he=>by have hm:=mem_listed he;simp[go_sem,execOp,Act.eval,hbl,hi']at hm⟩⟩) ?_
 walk_nrm
 refine anyL_end' (by kernel_rfl) ?_ _
 refine Own.of_goes rfl (fun dd=>?_);refine goes_oper_k rfl rfl (by decide) (fun K hK=>?_)
 have hcc:=hb1.choose_spec.c;have hzz:=hb1.choose_spec.z
 go_simp
 refine hK _ _ ⟨⟨⟨0,grew_setCell rfl hnb _⟩,fun e he=>by(have hm:=mem_listed he;clear he hK;simp[go_sem,storedEv,hcc,hzz]at hm;subst hm;exact evT_write _ _ hnb)⟩,?_⟩;clear hK K hcc hzz;rw[setCell_at'];refine Own.at ?_ dd
 have hK2:g.K (w1.setCell ⟨g.br,i,none⟩ (.bool false)):=⟨fun a u p=>(hK1 a u p).setCell (.inl (ok.ok.free a u p)) rfl,hK1.an.setCell rfl _⟩
 have hx2:Lies (w1.setCell ⟨g.br,i,none⟩ (.bool false)) _ _:=hx1.setCell (.inl (by simp;omega)) rfl
 have hi2:Lies (w1.setCell ⟨g.br,i,none⟩ (.bool false)) _ _:=hi1.setCell (.inl (by simp;omega)) rfl
 have ho2:Lies (w1.setCell ⟨g.br,i,none⟩ (.bool false)) _ _:=ho1.setCell (.inl (ok.ok.brst i hi')) rfl
 clear hK1 hx1 hi1 he1 hb1 ho1
 generalize w1.setCell ⟨g.br,i,none⟩ (.bool false)=w2 at*
 refine ogE ?_
 refine ogS ?_
 refine own_drawn (last:=9) run_mixed (ll_of (by kernel_rfl)) (by decide) ?_
 simp only[List.size_toArray,List.length_cons,List.length_nil,Nat.reduceAdd]
 refine anyL_take (i:=0) (v:=.pointer (some ⟨g.tb,0,none⟩)) rfl rfl (by kernel_rfl) (by kernel_rfl) (by kernel_rfl) (.inl ⟨rfl,fun d=>⟨by simp[go_sem,execOp,Act.eval,hx2.c,hx2.z],fun e he=>by have hm:=mem_listed he;simp[go_sem,execOp,Act.eval,hx2.c,hx2.z]at hm;subst hm;exact evT_read _ _⟩⟩) ?_
 walk_nrm
 refine anyL_take (i:=1) (v:=.pointer (some ⟨g.tb,0,none⟩)) rfl rfl (by kernel_rfl) (by kernel_rfl) (by kernel_rfl) (.inl ⟨rfl,fun d=>⟨by simp[go_sem,execOp,Act.eval],fun e he=>by have hm:=mem_listed he;simp[go_sem,execOp,Act.eval]at hm⟩⟩) ?_
 walk_nrm
 refine anyL_take (i:=2) (v:=.pointer (some ⟨g.tb,1,none⟩)) rfl rfl (by kernel_rfl) (by kernel_rfl) (by kernel_rfl) (.inl ⟨rfl,fun d=>⟨by simp[go_sem,execOp,Act.eval],fun e he=>by have hm:=mem_listed he;simp[go_sem,execOp,Act.eval]at hm⟩⟩) ?_
 walk_nrm
 refine anyL_take (i:=3) (v:=g.sl) rfl rfl (by kernel_rfl) (by kernel_rfl) (by kernel_rfl) (.inl ⟨rfl,fun d=>⟨by simp[go_sem,execOp,Act.eval,(hK2 _ _ .stands).c,(hK2 _ _ .stands).z],fun e he=>by have hm:=mem_listed he;simp[go_sem,execOp,Act.eval,(hK2 _ _ .stands).c,(hK2 _ _ .stands).z]at hm;subst hm;exact evT_read _ _⟩⟩) ?_
 walk_nrm
 refine anyL_take (i:=4) (v:=.int .i64 i) rfl rfl (by kernel_rfl) (by kernel_rfl) (by kernel_rfl) (.inl ⟨rfl,fun d=>⟨by simp[go_sem,execOp,Act.eval,hi2.c,hi2.z],fun e he=>by have hm:=mem_listed he;simp[go_sem,execOp,Act.eval,hi2.c,hi2.z]at hm;subst hm;exact evT_read _ _⟩⟩) ?_
 walk_nrm
 refine anyL_take (i:=5) (v:=.pointer (some ⟨g.sa,i,none⟩)) rfl rfl (by kernel_rfl) (by kernel_rfl) (by kernel_rfl) (.inl ⟨rfl,fun d=>⟨by simp[go_sem,execOp,Act.eval,hsl,hi'],fun e he=>by have hm:=mem_listed he;simp[go_sem,execOp,Act.eval,hsl,hi']at hm⟩⟩) ?_
 walk_nrm
 refine anyL_take (i:=6) (v:=.pointer (some ⟨g.st i,0,none⟩)) rfl rfl (by kernel_rfl) (by kernel_rfl) (by kernel_rfl) (.inl ⟨rfl,fun d=>⟨by simp[go_sem,execOp,Act.eval,(hK2 _ _ (.stand i hi')).c,(hK2 _ _ (.stand i hi')).z],fun e he=>by have hm:=mem_listed he;simp[go_sem,execOp,Act.eval,(hK2 _ _ (.stand i hi')).c,(hK2 _ _ (.stand i hi')).z]at hm;subst hm;exact evT_read _ _⟩⟩) ?_
 walk_nrm
 refine anyL_take (i:=7) (v:=.pointer (some ⟨g.st i,0,none⟩)) rfl rfl (by kernel_rfl) (by kernel_rfl) (by kernel_rfl) (.inl ⟨rfl,fun d=>⟨by simp[go_sem,execOp,Act.eval],fun e he=>by have hm:=mem_listed he;simp[go_sem,execOp,Act.eval]at hm⟩⟩) ?_
 walk_nrm
 refine anyL_take (i:=8) (v:=.pointer (some ⟨g.st i,2,none⟩)) rfl rfl (by kernel_rfl) (by kernel_rfl) (by kernel_rfl) (.inl ⟨rfl,fun d=>⟨by simp[go_sem,execOp,Act.eval],fun e he=>by have hm:=mem_listed he;simp[go_sem,execOp,Act.eval]at hm⟩⟩) ?_
 walk_nrm
 refine anyL_end' (by kernel_rfl) ?_ _
 refine Own.of_goes rfl (fun dd=>?_);refine goes_oper_k rfl rfl (by decide) (fun K hK=>?_)
 have hcc:=ho2.c;have hzz:=ho2.z
 go_simp
 refine hK _ _ ⟨⟨⟨0,grew_setCell rfl hno _⟩,fun e he=>by(have hm:=mem_listed he;clear he hK;simp[go_sem,storedEv,hcc,hzz]at hm;subst hm;exact evT_write _ _ hno)⟩,?_⟩;clear hK K hcc hzz;rw[setCell_at'];refine Own.at ?_ dd
 refine ogE ?_
 exact h _ _ _ _ _ _ _ _ _ _ _ _ _ _ _ _ _ _ _ _ _ _ _ _ _ _ _ _ _ _ _ _ _ _ _
end
noncomputable section
variable{g:Gate}{F:Fz}
def endOps:Array Oper:=match endSend with| .region _ o _=>o|_=> #[]
def atLast(g:Gate)(v:Vars)(c:Frame)(t3 t4 t5 t6 t7 t8 t9 t10 t11 t12 t13 t14 t15 t16 t17 t18 t19 t20 t21 t22 t23 t24 t25 t26 t27 t28 t29 t30 t31 t32 t33 t34 t35 t36 t37:Value):Goroutine:=
 G ((baseD 111).at ⟨#[.pointer (some ⟨v.x,0,none⟩),.pointer (some ⟨v.e,0,none⟩),.pointer (some ⟨v.i,0,none⟩),t3,t4,t5,t6,t7,t8,t9,t10,t11,t12,t13,t14,t15,t16,t17,t18,t19,t20,t21,t22,t23,t24,t25,t26,t27,t28,t29,t30,t31,t32,t33,t34,t35,t36,t37,.pointer (some ⟨g.tb,0,none⟩),.pointer (some ⟨g.tb,0,none⟩),.pointer (some ⟨g.tb,0,none⟩),.chan (some g.bk),.agg #[]],[]⟩ [.inRegion endOps [5]]) [c,bot]
theorem own_end3 [ok:Fits g] {v:Vars}{w:World}{c:Frame}(hK:g.K w)(hx:Lies w ⟨v.x,0,none⟩ (.pointer (some ⟨g.tb,0,none⟩))){Stop:Goroutine→World→Prop}(t3 t4 t5 t6 t7 t8 t9 t10 t11 t12 t13 t14 t15 t16 t17 t18 t19 t20 t21 t22 t23 t24 t25 t26 t27 t28 t29 t30 t31 t32 t33 t34 t35 t36 t37:Value)
 (h:Own Try.prog false F Stop (atLast g v c t3 t4 t5 t6 t7 t8 t9 t10 t11 t12 t13 t14 t15 t16 t17 t18 t19 t20 t21 t22 t23 t24 t25 t26 t27 t28 t29 t30 t31 t32 t33 t34 t35 t36 t37) w):
 Own Try.prog false F Stop (G ((baseD 111).at ⟨#[.pointer (some ⟨v.x,0,none⟩),.pointer (some ⟨v.e,0,none⟩),.pointer (some ⟨v.i,0,none⟩),t3,t4,t5,t6,t7,t8,t9,t10,t11,t12,t13,t14,t15,t16,t17,t18,t19,t20,t21,t22,t23,t24,t25,t26,t27,t28,t29,t30,t31,t32,t33,t34,t35,t36,t37,undef,undef,undef,undef,undef],[]⟩ [.code endSend]) [c,bot]) w:=by
 have c1:=hx.c
 have z1:=hx.z
 have c2:=(hK _ _ .back).c
 have z2:=(hK _ _ .back).z
 simp only[endSend,endBody,Try.f111,Option.getD_some]
 (refine ogR ?_;simp only[List.size_toArray,List.length_cons,List.length_nil,Nat.reduceAdd,Nat.zero_add,List.range,List.range.loop])
 (refine oW fun dd K hK=>?_;go_simp;refine qL hK ?_;clear hK K)
 iterate 2 (refine oW fun dd K hK=>?_;go_simp;refine qT hK ?_;clear hK K)
 (refine oW fun dd K hK=>?_;go_simp;refine qL hK ?_;clear hK K)
 (refine oW fun dd K hK=>?_;go_simp;refine qT hK ?_;clear hK K)
 exact h
theorem out_quits{c:Frame}{todo:List Item}{T:Array Value}(hc:c.mode= .returning∨∃e,c.mode= .panicking [e]∧e.recovered=true)(hfn:c.fn=101)(hd:c.defers=[])(hk:c.kind= .deferred):
 QuitsD Try.prog 4 0 (G {(baseD 111).at ⟨T,[]⟩ todo with mode:=.returning} [c,bot]):=by
 refine QuitsD.ctl (g':=G {c with mode:=.returning} [bot]) rfl (fun w=>?_) ?_
 ·rcases hc with hc|⟨e,hc,he⟩
  ·simp[G,stepG,unwind,doReturn,results,Frame.at,baseD,Try.func111,Try.f111,seen,GStep.after,hc]
   cases c;simp_all
  ·obtain⟨e1,e2,e3⟩:=e
   simp only at he
   subst he
   simp[G,stepG,unwind,doReturn,results,Frame.at,baseD,Try.func111,Try.f111,seen,GStep.after,hc]
 refine QuitsD.ctl (g':=G bot []) rfl (fun w=>?_) ?_
 ·simp[G,stepG,unwind,doReturn,results,bot,hfn,hd,hk,Try.func101,Try.f101,seen,GStep.after,goexitEntry]
 refine QuitsD.ctl (g':={G bot []with status:=.finished}) rfl (fun w=>?_) ?_
 ·simp[G,stepG,unwind,bot,goexitEntry,Frame.catches]
  rfl
 exact .inl ⟨rfl,rfl⟩
theorem last_gives [ok:Fits g] {v:Vars}{w:World}{c:Frame}(hc:c.mode= .returning∨∃e,c.mode= .panicking [e]∧e.recovered=true)(hfn:c.fn=101)(hd:c.defers=[])(hk:c.kind= .deferred)(t3 t4 t5 t6 t7 t8 t9 t10 t11 t12 t13 t14 t15 t16 t17 t18 t19 t20 t21 t22 t23 t24 t25 t26 t27 t28 t29 t30 t31 t32 t33 t34 t35 t36 t37:Value):
 AtGive Try.prog false g.Still g.top g.bk (.agg #[]) (fun x=>QuitsD Try.prog 6 0 x) (atLast g v c t3 t4 t5 t6 t7 t8 t9 t10 t11 t12 t13 t14 t15 t16 t17 t18 t19 t20 t21 t22 t23 t24 t25 t26 t27 t28 t29 t30 t31 t32 t33 t34 t35 t36 t37) w:=by
 unfold atLast
 simp only[endOps,endSend,endBody,Try.f111,Option.getD_some]
 refine atGive_of (z':=.tuple #[]) rfl rfl (by decide) (fun w=>by simp[execOp,scase,Act.eval]) (fun w=>by simp[go_sem,execOp,Act.eval]) ?_ _
 rw[served_fr,Frame.finish_at]
 walk_nrm
 refine QuitsD.ctl rfl (fun w=>stepG_region_end) ?_
 refine QuitsD.ctl rfl (fun w=>stepG_end) ?_
 exact out_quits hc hfn hd hk
end
noncomputable section
variable{g:Gate}{F:Fz}
structure Plain(u:Frame):Prop where
 d:u.defers=[]
 m:u.mode= .run
 f:∃fn,Try.prog.funcs[u.fn]? =some fn
theorem raise_step{fr c:Frame}{rest:List Frame}{chain:List PanicEntry}{main:Bool}{w:World}(hd:fr.defers=[])(hf:∃fn,Try.prog.funcs[fr.fn]? =some fn):
 stepG Try.prog main (G {fr with mode:=.panicking chain} (c::rest)) w= .go (G (c.raise chain) rest) w #[]:=by
 obtain⟨fn,hf⟩:=hf
 simp[G,stepG,unwind,hd,Frame.catches,hf]
theorem own_raise{main:Bool}{Stop:Goroutine→World→Prop}{chain:List PanicEntry}{c:Frame}{cs:List Frame}{w:World}(h:Own Try.prog main F Stop (G (c.raise chain) cs) w)(us:List Frame):
 ∀(fr:Frame),fr.defers=[]→(∃fn,Try.prog.funcs[fr.fn]? =some fn)→(∀u∈us,Plain u)→Own Try.prog main F Stop (G {fr with mode:=.panicking chain} (us++c::cs)) w:=by
 induction us with
 | nil=>exact fun fr hd hf _=>own_go rfl (fun d=>raise_step hd hf) h
 | cons u us ih=>
   intro fr hd hf hus
   have hu:=hus u (by simp)
   refine own_go (g':=G {u with mode:=.panicking chain} (us++c::cs)) rfl (fun d=>?_) (ih u hu.d hu.f fun x hx=>hus x (by simp[hx]))
   rw[List.cons_append,raise_step hd hf]
   simp[Frame.raise,hu.m]
theorem stepG_panics{P:Program}{main:Bool}{b:Frame}{a:Act}{k:List Item}{cs:List Frame}{w:World}{ops:Array Oper}{i:Nat}{rest:List Nat}{o:Oper}{v:Value}(hm:b.mode= .run)(ho:ops[i]? =some o)(hw:Region.wanted o (yielded ops a.tmps)=true)(hk:b.kind≠.early)
 (hr:(execOp a.eval o).run P w= .halt (.panic v) w) (he:(execOp a.eval o).events P w #[]= #[]):
 stepG P main (G (b.at a (.inRegion ops (i::rest)::k)) cs) w= .go (G {b.at a (.inRegion ops (i::rest)::k)with mode:=.panicking [{v,recovered:=false}]} cs) w #[]:=by
 have hk':(b.kind == CallKind.early)=false:=by simpa using hk
 rw[stepG_oper ho hw]
 simp[stepG.apply,hr,he,G,Frame.at,hk',GStep.after,seen_none,Frame.raise]
theorem built161(a:Option Addr):Try.prog.built 188 [(0,.iface 168 (.pointer a))]=some #[.iface 168 (.pointer a)]:=by kernel_rfl
@[go_sem] theorem build161(a:Option Addr)(w:World):(Instr.build 188 #[(0,.iface 168 (.pointer a))]).run Try.prog w= .ok (.agg #[.iface 168 (.pointer a)]) w:=run_build w 188 _ _ (built161 a)
@[go_sem] theorem build161e(a:Option Addr)(w:World)(es:Array Event):(Instr.build 188 #[(0,.iface 168 (.pointer a))]).events Try.prog w es=es:=by
 obtain⟨i,hi,hz⟩:=Option.bind_eq_some_iff.1 zero161
 simp[Instr.build,go_sem,zeroValue,typeInfo,hi,hz,Try.underlying188]
@[go_sem] theorem mk140(x:Value)(w:World):(Instr.makeInterface 168 x).run Try.prog w= .ok (.iface 168 x) w:=by simp[Instr.makeInterface,run_underlying Try.underlying168]
@[go_sem] theorem mk161(x:Value)(w:World):(Instr.makeInterface 188 x).run Try.prog w= .ok (.iface 188 x) w:=by simp[Instr.makeInterface,run_underlying Try.underlying188]
def theEnd(g:Gate):Value:=.iface 188 (.agg #[.iface 168 (.pointer (some ⟨g.tb,0,none⟩))])
def rfBad(g:Gate)(i:Nat)(v:Vars)(f:Value)(b:Bool):Frame:=rfOut g i v f undef (.panicking [{v:=theEnd g,recovered:=b}]) [] [.inRegion runOps [9],.code runLast]
theorem own_kill [ok:Fits g] {i:Nat} [hi:Has g i] {v:Vars}{f:Value}{us:List Frame}{w:World}(hus:∀u∈us,Plain u)(hK:g.K w){Stop:Goroutine→World→Prop}
 (h:Own Try.prog false F Stop (G ((baseD 111).at ⟨#[.pointer (some ⟨v.x,0,none⟩),.pointer (some ⟨v.e,0,none⟩),.pointer (some ⟨v.i,0,none⟩)]++Array.replicate 40 undef,[]⟩ [.code endBody]) [rfBad g i v f false,bot]) w):
 Own Try.prog false F Stop (Go.Conc.served (atPass g i (us++[rf g i v f,bot])) (.bool false)) w:=by
 have c1:=(hK _ _ (.gate i hi.lt)).c
 have z1:=(hK _ _ (.gate i hi.lt)).z
 unfold atPass
 rw[served_fr,Frame.finish_at]
 simp only[sWaitOps,sWait,sEnd,stepBody,Try.f133,Option.getD_some]
 walk_nrm
 (refine oW fun dd K hK=>?_;go_simp;refine qT hK ?_;clear hK K)
 refine ogE ?_
 refine ogT ?_
 simp only[if_true]
 (refine ogR ?_;simp only[List.size_toArray,List.length_cons,List.length_nil,Nat.reduceAdd,Nat.zero_add,List.range,List.range.loop])
 iterate 3 (refine oW fun dd K hK=>?_;go_simp;refine qT hK ?_;clear hK K)
 (refine oW fun dd K hK=>?_;go_simp;refine qL hK ?_;clear hK K)
 iterate 3 (refine oW fun dd K hK=>?_;go_simp;refine qT hK ?_;clear hK K)
 refine own_go rfl (fun d=>stepG_panics (v:=theEnd g) rfl rfl rfl (by decide) (by simp[execOp,go_sem,Act.eval,theEnd,Instr.panic]) (by simp[execOp,go_sem,Act.eval,Instr.panic])) ?_
 refine own_raise ?_ us _ rfl ⟨_,Try.func133⟩ hus
 refine own_go rfl (fun d=>stepG_unwind_fn (fn:=Try.f111) (c:=endBody) rfl Try.func111 rfl rfl) ?_
 exact h
end
section
variable{g:Gate}{F:Fz}
theorem info168:(Try.prog.info? 168).map (·.comparable)=some true:=by kernel_rfl
theorem info172:(Try.prog.info? 172).map (·.size)=some 3:=by kernel_rfl
theorem eqPtr(n:Nat)(a:Addr)(w:World):(Op.equalIn (n+1) 168 (.pointer (some a)) (.pointer (some a))).run Try.prog w= .ok true w∧∀es,(Op.equalIn (n+1) 168 (.pointer (some a)) (.pointer (some a))).events Try.prog w es=es:=by
 obtain⟨j,hj,hs⟩:=Option.map_eq_some_iff.1 info172
 rw[Op.equalIn]
 constructor
 ·simp[go_sem,run_underlying Try.underlying168,Go.sizeOf,typeInfo,hj,hs,Go.sameAddr]
 ·intro es
  simp[go_sem,run_underlying Try.underlying168,Go.sizeOf,typeInfo,hj,hs,Go.sameAddr]
theorem eqEnd(a:Addr)(w:World):(Op.equal 20 (.iface 168 (.pointer (some a))) (.iface 168 (.pointer (some a)))).run Try.prog w= .ok true w∧∀es,(Op.equal 20 (.iface 168 (.pointer (some a))) (.iface 168 (.pointer (some a)))).events Try.prog w es=es:=by
 obtain⟨i,hi,hc⟩:=Option.map_eq_some_iff.1 info168
 unfold Op.equal Op.maxDepth
 rw[Op.equalIn]
 have h:=eqPtr 9998 a
 constructor
 ·simp[go_sem,run_underlying Try.underlying20,typeInfo,hi,hc,(h w).1]
 ·intro es
  simp[go_sem,run_underlying Try.underlying20,typeInfo,hi,hc,(h w).1,(h w).2]
@[go_sem] theorem neqEnd(a:Addr)(w:World):(binOp .neq 20 (.iface 168 (.pointer (some a))) (.iface 168 (.pointer (some a)))).run Try.prog w= .ok (.bool false) w:=by
 simp[binOp,go_sem,(eqEnd a w).1]
@[go_sem] theorem neqEnd_ev(a:Addr)(w:World)(es:Array Event):(binOp .neq 20 (.iface 168 (.pointer (some a))) (.iface 168 (.pointer (some a)))).events Try.prog w es=es:=by
 simp[binOp,go_sem,(eqEnd a w).1,(eqEnd a w).2]
def killW(g:Gate)(i:Nat)(w:World):World:=(w.alloc (.cells #[.iface 168 (.pointer (some ⟨g.tb,0,none⟩))] 188)).setCell ⟨g.st i,2,none⟩ (.bool true)
theorem own_kill2 [ok:Fits g] {i:Nat} [hi:Has g i] {v:Vars}{f:Value}{w:World}(hK:g.K w)(hv:VarsOk g i v w)(ho:Lies w ⟨g.st i,2,none⟩ (.bool false)){Stop:Goroutine→World→Prop}
 (h:∀t3 t4 t5 t6 t7 t8 t9 t10 t11 t12 t13 t14 t15 t16 t17 t18 t19 t20 t21 t22 t23 t24 t25 t26 t27 t28 t29 t30 t31 t32 t33 t34 t35 t36 t37:Value,Own Try.prog false (FK g) Stop (G ((baseD 111).at ⟨#[.pointer (some ⟨v.x,0,none⟩),.pointer (some ⟨v.e,0,none⟩),.pointer (some ⟨v.i,0,none⟩),t3,t4,t5,t6,t7,t8,t9,t10,t11,t12,t13,t14,t15,t16,t17,t18,t19,t20,t21,t22,t23,t24,t25,t26,t27,t28,t29,t30,t31,t32,t33,t34,t35,t36,t37,undef,undef,undef,undef,undef],[]⟩ [.code endSend]) [rfBad g i v f true,bot]) (killW g i w)):
 Own Try.prog false (FK g) Stop (G ((baseD 111).at ⟨#[.pointer (some ⟨v.x,0,none⟩),.pointer (some ⟨v.e,0,none⟩),.pointer (some ⟨v.i,0,none⟩)]++Array.replicate 40 undef,[]⟩ [.code endBody]) [rfBad g i v f false,bot]) w:=by
 have hU:=fk_under ok.ok
 have hi':=hi.lt
 have hvx:=hv.hx
 have hvi:=hv.hi
 have hsl:=ok.ok.sl (Nat.lt_of_le_of_lt (Nat.zero_le _) hi')
 have hno:¬held (FK g) ⟨g.st i,2,none⟩:=fk_over hi'
 have hw0:g.top≤w.heap.size:=Nat.le_of_lt (Nat.lt_of_le_of_lt hvx hv.x.lt)
 have hst:g.st i<g.top:=st_lt
 walk_nrm
 simp only[endBody,Try.f111,Option.getD_some]
 refine ogS ?_
 (refine ogR ?_;simp only[List.size_toArray,List.length_cons,List.length_nil,Nat.reduceAdd,Nat.zero_add,List.range,List.range.loop])
 refine own_go rfl (fun d=>stepG_recovers (v:=theEnd g) (cs':=[rfBad g i v f true,bot]) rfl rfl (by decide) (by simp[execOp,go_sem]) (by simp[execOp,go_sem]) rfl (by simp[tryRecover,Frame.at,baseD,rfBad,rfOut])) ?_
 unfold theEnd
 walk_nrm
 (refine oW fun dd K hK=>?_;go_simp;refine qT hK ?_;clear hK K)
 refine ogE ?_
 refine ogS ?_
 refine ogS ?_
 (refine ogR ?_;simp only[List.size_toArray,List.length_cons,List.length_nil,Nat.reduceAdd,Nat.zero_add,List.range,List.range.loop])
 iterate 5 (refine oW fun dd K hK=>?_;go_simp;refine qT hK ?_;clear hK K)
 (refine oW fun dd K hK=>?_;go_simp;refine qA hK hU ?_;clear hK K)
 (refine oW fun dd K hK=>?_;go_simp;refine qS hK hU ?_;clear hK K)
 have e1:(w.alloc (Obj.cells #[Value.nilIface] 188)).setCell ⟨w.heap.size,0,none⟩ (.iface 168 (.pointer (some ⟨g.tb,0,none⟩)))=w.alloc (Obj.cells #[.iface 168 (.pointer (some ⟨g.tb,0,none⟩))] 188):=by go_simp
 rw[e1]
 clear e1
 have hK2:g.K (w.alloc (.cells #[.iface 168 (.pointer (some ⟨g.tb,0,none⟩))] 188)):=⟨fun a u p=>(hK a u p).alloc _,hK.an.alloc _⟩
 have hx2:=hv.x.alloc (.cells #[.iface 168 (.pointer (some ⟨g.tb,0,none⟩))] 188)
 have hi2:=hv.i.alloc (.cells #[.iface 168 (.pointer (some ⟨g.tb,0,none⟩))] 188)
 have ho2:=ho.alloc (.cells #[.iface 168 (.pointer (some ⟨g.tb,0,none⟩))] 188)
 have hn2:Lies (w.alloc (.cells #[.iface 168 (.pointer (some ⟨g.tb,0,none⟩))] 188)) ⟨w.heap.size,0,none⟩ (.iface 168 (.pointer (some ⟨g.tb,0,none⟩))):=⟨⟨_,_,heap_alloc_new w _,rfl⟩,rfl⟩
 unfold killW at h
 clear hK hv ho
 generalize w.heap.size=m at*
 generalize w.alloc (.cells #[.iface 168 (.pointer (some ⟨g.tb,0,none⟩))] 188)=w2 at*
 have c1:=hn2.c
 have z1:=hn2.z
 have c2:=hx2.c
 have z2:=hx2.z
 (refine oW fun dd K hK=>?_;go_simp;refine qT hK ?_;clear hK K)
 refine ogE ?_
 refine ogS ?_
 (refine ogR ?_;simp only[List.size_toArray,List.length_cons,List.length_nil,Nat.reduceAdd,Nat.zero_add,List.range,List.range.loop])
 iterate 4 (refine oW fun dd K hK=>?_;go_simp;refine qT hK ?_;clear hK K)
 iterate 2 (refine oW fun dd K hK=>?_;go_simp;refine qL hK ?_;clear hK K)
 iterate 3 (refine oW fun dd K hK=>?_;go_simp;refine qT hK ?_;clear hK K)
 refine ogE ?_
 refine ogF ?_
 simp only[Bool.false_eq_true,if_false]
 refine ogK ?_
 refine ogS ?_
 refine own_drawn (last:=9) run_mixed (ll_of (by kernel_rfl)) (by decide) ?_
 simp only[List.size_toArray,List.length_cons,List.length_nil,Nat.reduceAdd]
 refine anyL_take (i:=0) (v:=.pointer (some ⟨g.tb,0,none⟩)) rfl rfl (by kernel_rfl) (by kernel_rfl) (by kernel_rfl) (.inl ⟨rfl,fun d=>⟨by simp[go_sem,execOp,Act.eval,hx2.c,hx2.z],fun e he=>by have hm:=mem_listed he;simp[go_sem,execOp,Act.eval,hx2.c,hx2.z]at hm;subst hm;exact evT_read _ _⟩⟩) ?_
 walk_nrm
 refine anyL_take (i:=1) (v:=.pointer (some ⟨g.tb,0,none⟩)) rfl rfl (by kernel_rfl) (by kernel_rfl) (by kernel_rfl) (.inl ⟨rfl,fun d=>⟨by simp[go_sem,execOp,Act.eval],fun e he=>by have hm:=mem_listed he;simp[go_sem,execOp,Act.eval]at hm⟩⟩) ?_
 walk_nrm
 refine anyL_take (i:=2) (v:=.pointer (some ⟨g.tb,1,none⟩)) rfl rfl (by kernel_rfl) (by kernel_rfl) (by kernel_rfl) (.inl ⟨rfl,fun d=>⟨by simp[go_sem,execOp,Act.eval],fun e he=>by have hm:=mem_listed he;simp[go_sem,execOp,Act.eval]at hm⟩⟩) ?_
 walk_nrm
 refine anyL_take (i:=3) (v:=g.sl) rfl rfl (by kernel_rfl) (by kernel_rfl) (by kernel_rfl) (.inl ⟨rfl,fun d=>⟨by simp[go_sem,execOp,Act.eval,(hK2 _ _ .stands).c,(hK2 _ _ .stands).z],fun e he=>by have hm:=mem_listed he;simp[go_sem,execOp,Act.eval,(hK2 _ _ .stands).c,(hK2 _ _ .stands).z]at hm;subst hm;exact evT_read _ _⟩⟩) ?_
 walk_nrm
 refine anyL_take (i:=4) (v:=.int .i64 i) rfl rfl (by kernel_rfl) (by kernel_rfl) (by kernel_rfl) (.inl ⟨rfl,fun d=>⟨by simp[go_sem,execOp,Act.eval,hi2.c,hi2.z],fun e he=>by have hm:=mem_listed he;simp[go_sem,execOp,Act.eval,hi2.c,hi2.z]at hm;subst hm;exact evT_read _ _⟩⟩) ?_
 walk_nrm
 refine anyL_take (i:=5) (v:=.pointer (some ⟨g.sa,i,none⟩)) rfl rfl (by kernel_rfl) (by kernel_rfl) (by kernel_rfl) (.inl ⟨rfl,fun d=>⟨by simp[go_sem,execOp,Act.eval,hsl,hi'],fun e he=>by have hm:=mem_listed he;simp[go_sem,execOp,Act.eval,hsl,hi']at hm⟩⟩) ?_
 walk_nrm
 refine anyL_take (i:=6) (v:=.pointer (some ⟨g.st i,0,none⟩)) rfl rfl (by kernel_rfl) (by kernel_rfl) (by kernel_rfl) (.inl ⟨rfl,fun d=>⟨by simp[go_sem,execOp,Act.eval,(hK2 _ _ (.stand i hi')).c,(hK2 _ _ (.stand i hi')).z],fun e he=>by have hm:=mem_listed he;simp[go_sem,execOp,Act.eval,(hK2 _ _ (.stand i hi')).c,(hK2 _ _ (.stand i hi')).z]at hm;subst hm;exact evT_read _ _⟩⟩) ?_
 walk_nrm
 refine anyL_take (i:=7) (v:=.pointer (some ⟨g.st i,0,none⟩)) rfl rfl (by kernel_rfl) (by kernel_rfl) (by kernel_rfl) (.inl ⟨rfl,fun d=>⟨by simp[go_sem,execOp,Act.eval],fun e he=>by have hm:=mem_listed he;simp[go_sem,execOp,Act.eval]at hm⟩⟩) ?_
 walk_nrm
 refine anyL_take (i:=8) (v:=.pointer (some ⟨g.st i,2,none⟩)) rfl rfl (by kernel_rfl) (by kernel_rfl) (by kernel_rfl) (.inl ⟨rfl,fun d=>⟨by simp[go_sem,execOp,Act.eval],fun e he=>by have hm:=mem_listed he;simp[go_sem,execOp,Act.eval]at hm⟩⟩) ?_
 walk_nrm
 refine anyL_end' (by kernel_rfl) ?_ _
 refine Own.of_goes rfl (fun dd=>?_);refine goes_oper_k rfl rfl (by decide) (fun K hK=>?_)
 have hcc:=ho2.c;have hzz:=ho2.z
 go_simp
 refine hK _ _ ⟨⟨⟨0,grew_setCell rfl hno _⟩,fun e he=>by(have hm:=mem_listed he;clear he hK;simp[go_sem,storedEv,hcc,hzz]at hm;subst hm;exact evT_write _ _ hno)⟩,?_⟩;clear hK K hcc hzz;rw[setCell_at'];refine Own.at ?_ dd
 refine ogE ?_
 exact h _ _ _ _ _ _ _ _ _ _ _ _ _ _ _ _ _ _ _ _ _ _ _ _ _ _ _ _ _ _ _ _ _ _ _
end
noncomputable section
open Go.ConcN (sumTo upd sumTo_upd upd_ne upd_same)
variable{g:Gate}{F:Fz}
def back(v:Value):List Frame→Goroutine
 | c::cs=>G (c.finish v) cs
 | []=>default
structure Users where
 X:Type
 U:X→World→Prop
 R:X→Nat→Prop
 I:Nat→Option Obj
 fr:X→Nat→List Frame
 stp:X→Nat→X→Prop
 bor:X→Nat→X→Prop
 liv:X→Nat→Bool
 nw:X→Nat→Prop
 fid:FuncId
 cap:Nat→Array Value
def Users.To(Z:Users)(g:Gate)(i:Nat)(x:Z.X)(S:Z.X→Prop)(w:World)(cs:List Frame)(a:Goroutine)(w':World):Prop:=
 ∃y,S y∧Z.U y w'∧(∀r,Z.R y r→Z.R x r∨w.heap.size≤r)∧
  ((Z.liv y i=true∧a=G (Frame.enter Try.prog 133 #[.pointer (some ⟨g.st i,0,none⟩)] .normal) (Z.fr y i++cs))∨(Z.liv y i=false∧∃v,a=back v cs))
structure Users.Ok(Z:Users)(g:Gate):Prop where
 call:Callable Z.fid
 plain:∀x i,Z.liv x i=true→Z.fr x i≠[]∧∀u∈Z.fr x i,Plain u
 stable:∀x w w',Z.U x w→w.heap.size≤w'.heap.size→(∀r,Z.R x r∨Z.I r≠none→w'.heap[r]? =w.heap[r]?)→Z.U x w'
 fix:∀x w r o,Z.U x w→Z.I r=some o→w.heap[r]? =some o∧∃c e z,o= .cells c e z
 low:∀x w r,Z.U x w→Z.R x r→r<w.heap.size
 stpO:∀x i y j,Z.stp x i y→j≠i→Z.liv y j=Z.liv x j∧Z.fr y j=Z.fr x j
 borO:∀x i y j,Z.bor x i y→j≠i→Z.liv y j=Z.liv x j∧Z.fr y j=Z.fr x j
 nwO:∀x i y j,Z.bor x i y→j≠i→Z.nw x j→Z.nw y j
 go:∀x i,i<g.n→Z.liv x i=true→∀(F:Fz) (w:World) (c:Frame) (cs:List Frame),Z.U x w→Wf F w→(∀r,Z.R x r→F r=none)→Own Try.prog false F (Z.To g i x (Z.stp x i) w (c::cs)) (back (.tuple #[]) (Z.fr x i++c::cs)) w
 born:∀x i,i<g.n→Z.nw x i→∀(F:Fz) (w:World) (c:Frame) (cs:List Frame),Z.U x w→Wf F w→(∀r,Z.R x r→F r=none)→
  Own Try.prog false F (Z.To g i x (Z.bor x i) w (c::cs)) (G (Frame.enter Try.prog Z.fid (#[.iface 173 (.pointer (some ⟨g.st i,0,none⟩))]++Z.cap i) .normal) (c::cs)) w
open Classical in
def FT(N:Nat→Prop)(w:World):Fz:=fun r=>match w.heap[r]? with
 | some (.cells c _ z)=>if N r then some (0,max c.size z.2)else none
 | _=>none
theorem ft_held{N:Nat→Prop}{w:World}{a:Addr}{v:Value}(h:Lies w a v)(hN:N a.block):held (FT N w) a:=by
 obtain⟨c,e,h1,h2⟩:=h.o
 refine⟨(0,max c.size 0),?_,Nat.zero_le _,by have:=(alt h2);simp only;omega⟩
 simp only[FT,h1]
 exact if_pos hN
theorem ft_none{N:Nat→Prop}{w:World}{r:Nat}(hN:¬N r):FT N w r=none:=by
 unfold FT
 split
 ·exact if_neg hN
 ·rfl
theorem ft_wf{N:Nat→Prop}(w:World):Wf (FT N w) w:=by
 constructor
 intro r z h
 unfold FT at h
 split at h
 ·rename_i c e z0 heq
  refine⟨c,e,z0,heq,fun k h1 h2=>?_⟩
  split at h
  ·cases h
   simp only
   omega
  ·cases h
 ·cases h
theorem ft_keep{N:Nat→Prop}{w w':World}(hg:Gd (FT N w) w w'){a:Addr}{v:Value}(h:Lies w a v)(hN:N a.block):Lies w' a v:=h.gd hg (ft_held h hN)
theorem ft_same{N:Nat→Prop}{w w':World}(hg:Gd (FT N w) w w'){r:Nat}(hN:N r)(hr:r<w.heap.size):w'.heap[r]? =w.heap[r]?:=by
 cases ho:w.heap[r]? with
 | none=>rw[Array.getElem?_eq_none_iff]at ho;omega
 | some o=>
   rcases hg.objs r _ ho with⟨c1,e2,z1,c',h1,h2,h3⟩|h2
   ·subst h1
    have:c'=c1:=by
     apply Array.ext h3
     intro j hj1 hj2
     have hh:held (FT N w) ⟨r,j,none⟩:=by
      refine⟨(0,max c1.size z1.2),?_,Nat.zero_le _,by simp only;omega⟩
      simp only[FT,ho]
      exact if_pos hN
     have:=hg.keep _ hh
     simp only[World.cell?,h2]at this
     have e3:(w.at w'.drawn).heap[r]? =some (.cells c1 e2 z1):=ho
     rw[e3]at this
     simpa [hj1,hj2]using this
    subst this
    exact h2
   ·exact h2
theorem chan_gd{w w':World}(hg:Gd F w w'){c cap k:Nat}(h:w.heap[c]? =some (.chan cap #[] false k k false)):w'.heap[c]? =some (.chan cap #[] false k k false):=by
 rcases hg.objs c _ h with⟨_,_,_,_,h1,_⟩|h1
 ·cases h1
 ·exact h1
def inb(Z:Users)(g:Gate)(s0:Nat)(A:Nat→Bool)(vs:Nat→Vars)(ms:Option Seat)(x:Z.X):Nat→Option Seat:=fun j=>
 if j=0 then ms else if s0≤j∧A (j - s0)=true then some (passSeat g (j - s0) (Z.fr x (j - s0)++[rf g (j - s0) (vs (j - s0)) (.func (.func Z.fid) #[] (Z.cap (j - s0))),bot]))else none
structure TI(Z:Users)(g:Gate)(A:Nat→Prop)(vs:Nat→Vars)(N:Nat→Prop)(ov:Nat→Bool)(x:Z.X)(w:World):Prop where
 u:Z.U x w
 over:∀j,j<g.n→Lies w ⟨g.st j,2,none⟩ (.bool (ov j))
 brk:∀j,j<g.n→∃b,Lies w ⟨g.br,j,none⟩ (.bool b)
 vars:∀j,A j→VarsOk g j (vs j) w
 chans:∀c,g.Chan c→∃cap k,w.heap[c]? =some (.chan cap #[] false k k false)
 apart:∀r,Z.R x r→¬N r
 nlow:∀r,N r→r<w.heap.size
 nplace:∀a v,g.Place a v→N a.block
 nst:∀j,j<g.n→N (g.st j)
 nbr:0<g.n→N g.br
 nvars:∀j,A j→N (vs j).x∧N (vs j).i∧N (vs j).e
 nchan:∀c,g.Chan c→N c
 vsep:∀j k,A j→A k→j≠k→(vs j).e≠(vs k).e∧(vs j).e≠(vs k).x∧(vs j).e≠(vs k).i
 inp:∀r,Z.I r≠none→N r∧(∀j,j<g.n→r≠g.st j)∧r≠g.br∧∀j,A j→r≠(vs j).e
variable{Z:Users}{A A':Nat→Prop}{vs:Nat→Vars}{N:Nat→Prop}{ov:Nat→Bool}{x y:Z.X}{w w':World}
theorem TI.mono(H:TI Z g A vs N ov x w)(h:∀j,A' j→A j):TI Z g A' vs N ov x w:=
 ⟨H.u,H.over,H.brk,fun j hj=>H.vars j (h j hj),H.chans,H.apart,H.nlow,H.nplace,H.nst,H.nbr,fun j hj=>H.nvars j (h j hj),H.nchan,fun j k hj hk=>H.vsep j k (h j hj) (h k hk),fun r hr=>by obtain⟨h1,h2,h3,h4⟩:=H.inp r hr;exact⟨h1,h2,h3,fun j hj=>h4 j (h j hj)⟩⟩
theorem VarsOk.of{i:Nat}{v:Vars}(h:VarsOk g i v w)(hL:∀a u,Lies w a u→(a.block=v.x∨a.block=v.i∨a.block=v.e)→Lies w' a u):VarsOk g i v w':=
 ⟨hL _ _ h.x (.inl rfl),hL _ _ h.i (.inr (.inl rfl)),hL _ _ h.e (.inr (.inr rfl)),h.hx,h.hi,h.he,h.ex,h.ei⟩
theorem TI.keep(zok:Z.Ok g)(H:TI Z g A vs N ov x w)(hs:w.heap.size≤w'.heap.size)(hR:∀r,Z.R x r∨Z.I r≠none→w'.heap[r]? =w.heap[r]?)(hL:∀a v,Lies w a v→N a.block→Lies w' a v)
 (hC:∀c,g.Chan c→∃cap k,w'.heap[c]? =some (.chan cap #[] false k k false)):TI Z g A vs N ov x w':=
 ⟨zok.stable x w w' H.u hs hR,fun j hj=>hL _ _ (H.over j hj) (H.nst j hj),fun j hj=>(H.brk j hj).imp fun b h=>hL _ _ h (H.nbr (by omega)),fun j hj=>(H.vars j hj).of fun a u h e=>hL a u h (by
  obtain⟨h1,h2,h3⟩:=H.nvars j hj
  rcases e with e|e|e<;>rw[e]<;>assumption),hC,H.apart,fun r h=>Nat.lt_of_lt_of_le (H.nlow r h) hs,H.nplace,H.nst,H.nbr,H.nvars,H.nchan,H.vsep,H.inp⟩
theorem TI.ilow(zok:Z.Ok g)(H:TI Z g A vs N ov x w){r:Nat}(h:Z.I r≠none):r<w.heap.size:=by
 obtain⟨o,ho⟩:=Option.ne_none_iff_exists'.1 h
 exact(Array.getElem?_eq_some_iff.1 (zok.fix x w r o H.u ho).1).1
theorem TI.at(zok:Z.Ok g)(H:TI Z g A vs N ov x w)(d:Nat):TI Z g A vs N ov x (w.at d):=H.keep zok (Nat.le_refl _) (fun _ _=>rfl) (fun _ _ h _=>h.at d) H.chans
theorem TI.user(H:TI Z g A vs N ov x w)(hU:Z.U y w')(hR:∀r,Z.R y r→Z.R x r∨w.heap.size≤r)(hg:Gd (FT N w) w w'):TI Z g A vs N ov y w':=
 ⟨hU,fun j hj=>ft_keep hg (H.over j hj) (H.nst j hj),fun j hj=>(H.brk j hj).imp fun b h=>ft_keep hg h (H.nbr (by omega)),fun j hj=>(H.vars j hj).of fun a u h e=>ft_keep hg h (by
  obtain⟨h1,h2,h3⟩:=H.nvars j hj
  rcases e with e|e|e<;>rw[e]<;>assumption),fun c hc=>by obtain⟨cap,k,h⟩:=H.chans c hc;exact⟨cap,k,chan_gd hg h⟩,
  fun r hr hN=>by rcases hR r hr with h|h;exact H.apart r h hN;exact absurd (H.nlow r hN) (by omega),
  fun r h=>Nat.lt_of_lt_of_le (H.nlow r h) hg.size,H.nplace,H.nst,H.nbr,H.nvars,H.nchan,H.vsep,H.inp⟩
theorem chan_ne(H:TI Z g A vs N ov x w){c:Nat}(hc:g.Chan c){a:Addr}{v:Value}(h:Lies w a v):c≠a.block:=by
 rintro rfl
 obtain⟨cap,k,h1⟩:=H.chans _ hc
 obtain⟨cc,e,h2,_⟩:=h.o
 rw[h1]at h2
 cases h2
theorem TI.chan(zok:Z.Ok g)(H:TI Z g A vs N ov x w){c:Nat}(hc:g.Chan c)(d cap k:Nat):TI Z g A vs N ov x ((w.at d).setChan c cap #[] false k k false):=
 H.keep zok (by simp[World.setChan,size_at']) (fun r hr=>by
  have:c≠r:=by
   rintro rfl
   rcases hr with hr|hr
   ·exact H.apart c hr (H.nchan c hc)
   ·obtain⟨o,ho⟩:=Option.ne_none_iff_exists'.1 hr
    obtain⟨h1,c1,e1,z1,rfl⟩:=zok.fix x w c o H.u ho
    obtain⟨cap',k',h'⟩:=H.chans c hc
    rw[h1]at h'
    cases h'
  simp only[World.setChan,Array.getElem?_setIfInBounds_ne this];rfl)
  (fun a v h _=>(h.at d).setChan (chan_ne H hc h) _ _ _ _ _ _) (fun c' hc'=>by
    obtain⟨cap',k',h'⟩:=H.chans c' hc'
    by_cases e:c=c'
    ·subst e
     refine⟨cap,k,?_⟩
     have hlt:=(Array.getElem?_eq_some_iff.1 h').1
     simp only[World.setChan,size_at']
     rw[Array.getElem?_setIfInBounds_self_of_lt (by simpa [size_at']using hlt)]
    ·exact⟨cap',k',by simp only[World.setChan,Array.getElem?_setIfInBounds_ne e];exact h'⟩)
end
section
open Go.ConcN (sumTo upd sumTo_upd upd_ne upd_same)
variable{g:Gate}{F:Fz}{Z:Users}{A A':Nat→Prop}{vs:Nat→Vars}{N:Nat→Prop}{ov:Nat→Bool}{x y:Z.X}{w w':World}
theorem TI.mark [ok:Fits g] (zok:Z.Ok g)(H:TI Z g A vs N ov x w){i:Nat}(hin:i<g.n)(hA:A i)(hs:w.heap.size≤w'.heap.size)(hR:∀r,Z.R x r∨Z.I r≠none→w'.heap[r]? =w.heap[r]?)(hC:∀c,g.Chan c→w'.heap[c]? =w.heap[c]?)
 (hL:∀a v,Lies w a v→(a.block≠g.st i∨a.off≠2)→a.block≠(vs i).e→(a.block≠g.br∨a.off≠i)→Lies w' a v) (hb:∃b,Lies w' ⟨g.br,i,none⟩ (.bool b)) (ho:Lies w' ⟨g.st i,2,none⟩ (.bool true)):
 TI Z g (fun j=>A j∧j≠i) vs N (fun j=>if j=i then true else ov j) x w':=by
 have hv:=H.vars i hA
 have hbr:=ok.ok.brlow (by omega)
 have hst:∀j,j<g.n→g.st j<g.top:=fun j hj=>ok.ok.low _ _ (.gate j hj)
 refine⟨zok.stable x w w' H.u hs hR,fun j hj=>?_,fun j hj=>?_,fun j hj=>?_,fun c hc=>?_,H.apart,fun r h=>Nat.lt_of_lt_of_le (H.nlow r h) hs,H.nplace,H.nst,H.nbr,fun j hj=>H.nvars j hj.1,H.nchan,fun j k hj hk=>H.vsep j k hj.1 hk.1,fun r hr=>by obtain⟨h1,h2,h3,h4⟩:=H.inp r hr;exact⟨h1,h2,h3,fun j hj=>h4 j hj.1⟩⟩
 ·by_cases e:j=i
  ·subst e;simpa using ho
  ·rw[if_neg e]
   exact hL _ _ (H.over j hj) (.inl fun h=>e (ok.ok.sinj j i hj hin h)) (by have:=hst j hj;have:=hv.he;simp only;omega) (.inl fun h=>ok.ok.brst j hj h.symm)
 ·by_cases e:j=i
  ·subst e;exact hb
  ·exact(H.brk j hj).imp fun b h=>hL _ _ h (.inl fun h=>ok.ok.brst i hin h) (by have:=hv.he;simp only;omega) (.inr e)
 ·have hj1:=H.vars j hj.1
  obtain⟨s1,s2,s3⟩:=H.vsep i j hA hj.1 (Ne.symm hj.2)
  have h1:=hj1.hx
  have h2:=hj1.hi
  have h3:=hj1.he
  have h4:=hst i hin
  refine hj1.of fun a u h e=>hL a u h (.inl ?_) ?_ (.inl ?_)
  ·rcases e with e|e|e<;>rw[e]<;>omega
  ·rcases e with e|e|e<;>rw[e]<;>first|exact Ne.symm s1|exact Ne.symm s2|exact Ne.symm s3
  ·rcases e with e|e|e<;>rw[e]<;>omega
 ·obtain⟨cap,k,h⟩:=H.chans c hc
  exact⟨cap,k,(hC c hc).trans h⟩
theorem TI.ended [ok:Fits g] (zok:Z.Ok g)(H:TI Z g A vs N ov x w){i:Nat}(hin:i<g.n)(hA:A i):
 TI Z g (fun j=>A j∧j≠i) vs N (fun j=>if j=i then true else ov j) x (endW g i (w.setCell ⟨(vs i).e,0,none⟩ (.bool true))):=by
 have hv:=H.vars i hA
 obtain⟨n1,n2,n3⟩:=H.nvars i hA
 have hbr:=ok.ok.brlow (by omega)
 have hst:g.st i<g.top:=ok.ok.low _ _ (.gate i hin)
 have hve:=hv.he
 have nbr:=H.nbr (by omega)
 have nst:=H.nst i hin
 have size1:∀r,r<w.heap.size→r<(w.setCell ⟨(vs i).e,0,none⟩ (.bool true)).heap.size:=fun r h=>by simpa using h
 have hh:∀r,r<w.heap.size→r≠(vs i).e→r≠g.br→r≠g.st i→(endW g i (w.setCell ⟨(vs i).e,0,none⟩ (.bool true))).heap[r]? =w.heap[r]?:=fun r h1 h2 h3 h4=>by
  unfold endW
  rw[heap_setCell_ne _ _ _ h4,heap_setCell_ne _ _ _ h3,heap_alloc_lt _ _ (size1 r h1),heap_setCell_ne _ _ _ h2]
 have hL:∀a v,Lies w a v→(a.block≠g.st i∨a.off≠2)→a.block≠(vs i).e→(a.block≠g.br∨a.off≠i)→Lies (endW g i (w.setCell ⟨(vs i).e,0,none⟩ (.bool true))) a v:=fun a v h h1 h2 h3=>by
  refine(((h.setCell (.inl (Ne.symm h2)) rfl).alloc _).setCell ?_ rfl).setCell ?_ rfl
  ·rcases h3 with h3|h3
   ·exact .inl (Ne.symm h3)
   ·exact .inr (Ne.symm h3)
  ·rcases h1 with h1|h1
   ·exact .inl (Ne.symm h1)
   ·exact .inr (Ne.symm h1)
 obtain⟨b,hb⟩:=H.brk i hin
 have hbe:(vs i).e≠g.br:=by omega
 have hse:(vs i).e≠g.st i:=by omega
 refine H.mark zok hin hA (by simp[endW]) (fun r hr=>hr.elim (fun hr=>hh r (zok.low x w r H.u hr) (fun e=>H.apart r hr (e ▸ n3)) (fun e=>H.apart r hr (e ▸ nbr)) (fun e=>H.apart r hr (e ▸ nst))) fun hr=>by obtain⟨h1,h2,h3,h4⟩:=H.inp r hr;exact hh r (H.ilow zok hr) (h4 i hA) h3 (h2 i hin)) (fun c hc=>?_) hL ?_ ?_
 ·exact hh c (H.nlow c (H.nchan c hc)) (chan_ne H hc hv.e) (chan_ne H hc hb) (chan_ne H hc (H.over i hin))
 ·exact⟨false,((((hb.setCell (.inl hbe) rfl).alloc _).put).setCell (.inl (Ne.symm (ok.ok.brst i hin))) rfl)⟩
 ·exact((((H.over i hin).setCell (.inl hse) rfl).alloc _).setCell (.inl (ok.ok.brst i hin)) rfl).put
theorem TI.killed [ok:Fits g] (zok:Z.Ok g)(H:TI Z g A vs N ov x w){i:Nat}(hin:i<g.n)(hA:A i):
 TI Z g (fun j=>A j∧j≠i) vs N (fun j=>if j=i then true else ov j) x (killW g i w):=by
 have nst:=H.nst i hin
 have hh:∀r,r<w.heap.size→r≠g.st i→(killW g i w).heap[r]? =w.heap[r]?:=fun r h1 h4=>by
  unfold killW
  rw[heap_setCell_ne _ _ _ h4,heap_alloc_lt _ _ h1]
 have hL:∀a v,Lies w a v→(a.block≠g.st i∨a.off≠2)→Lies (killW g i w) a v:=fun a v h h1=>by
  refine(h.alloc _).setCell ?_ rfl
  rcases h1 with h1|h1
  ·exact .inl (Ne.symm h1)
  ·exact .inr (Ne.symm h1)
 obtain⟨b,hb⟩:=H.brk i hin
 refine H.mark zok hin hA (by simp[killW]) (fun r hr=>hr.elim (fun hr=>hh r (zok.low x w r H.u hr) (fun e=>H.apart r hr (e ▸ nst))) fun hr=>by obtain⟨h1,h2,h3,h4⟩:=H.inp r hr;exact hh r (H.ilow zok hr) (h2 i hin)) (fun c hc=>?_) (fun a v h h1 _ _=>hL a v h h1) ⟨b,hL _ _ hb (.inl (ok.ok.brst i hin))⟩ ?_
 ·exact hh c (H.nlow c (H.nchan c hc)) (chan_ne H hc (H.over i hin))
 ·exact((H.over i hin).alloc _).put
theorem TI.made [ok:Fits g] (zok:Z.Ok g)(H:TI Z g A vs N ov x w){i:Nat}(hin:i<g.n)(hA:∀j,A j→j≠i)(ht:g.top≤w.heap.size):
 TI Z g (fun j=>A j∨j=i) (fun j=>if j=i then⟨w.heap.size,w.heap.size+2,w.heap.size+1⟩else vs j) (fun r=>N r∨r=w.heap.size∨r=w.heap.size+1∨r=w.heap.size+2) ov x (madeRun g i w):=by
 have hh:∀r,r<w.heap.size→(madeRun g i w).heap[r]? =w.heap[r]?:=fun r h=>by
  unfold madeRun
  rw[heap_alloc_lt _ _ (by simp;omega),heap_alloc_lt _ _ (by simp;omega),heap_alloc_lt _ _ h]
 have hL:∀a v,Lies w a v→Lies (madeRun g i w) a v:=fun a v h=>((h.alloc _).alloc _).alloc _
 have sz:(madeRun g i w).heap.size=w.heap.size+3:=by simp[madeRun]
 have l0:Lies (madeRun g i w) ⟨w.heap.size,0,none⟩ (.pointer (some ⟨g.tb,0,none⟩)):=
  Lies.alloc (Lies.alloc ⟨⟨_,_,heap_alloc_new w _,rfl⟩,rfl⟩ _) _
 have l1:Lies (madeRun g i w) ⟨w.heap.size+1,0,none⟩ (.int .i64 i):=
  Lies.alloc ⟨⟨_,_,by simpa using heap_alloc_new (w.alloc (.cells #[.pointer (some ⟨g.tb,0,none⟩)] 168)) (.cells #[.int .i64 i] 3),rfl⟩,rfl⟩ _
 have l2:Lies (madeRun g i w) ⟨w.heap.size+2,0,none⟩ (.bool false):=
  ⟨⟨_,_,by simpa [madeRun]using heap_alloc_new ((w.alloc (.cells #[.pointer (some ⟨g.tb,0,none⟩)] 168)).alloc (.cells #[.int .i64 i] 3)) (.cells #[.bool false] 4),rfl⟩,rfl⟩
 refine⟨zok.stable x w _ H.u (by omega) (fun r hr=>hh r (hr.elim (zok.low x w r H.u) (H.ilow zok))),fun j hj=>hL _ _ (H.over j hj),fun j hj=>(H.brk j hj).imp fun b h=>hL _ _ h,fun j hj=>?_,fun c hc=>?_,fun r hr hn=>?_,fun r hr=>?_,fun a v p=>.inl (H.nplace a v p),
  fun j hj=>.inl (H.nst j hj),fun h=>.inl (H.nbr h),fun j hj=>?_,fun c hc=>.inl (H.nchan c hc),fun j k hj hk hjk=>?_,fun r hr=>?_⟩
 ·by_cases e:j=i
  ·subst e
   simp only[if_true]
   exact⟨l0,l1,l2,ht,by simp only;omega,by simp only;omega,by simp only;omega,by simp only;omega⟩
  ·rw[if_neg e]
   have hj':=hj.resolve_right e
   exact(H.vars j hj').of fun a u h _=>hL a u h
 ·obtain⟨cap,k,h⟩:=H.chans c hc
  exact⟨cap,k,(hh c (H.nlow c (H.nchan c hc))).trans h⟩
 ·have:=zok.low x w r H.u hr
  rcases hn with hn|hn
  ·exact H.apart r hr hn
  ·omega
 ·rcases hr with hr|hr
  ·have:=H.nlow r hr;omega
  ·omega
 ·by_cases e:j=i
  ·subst e
   rw[if_pos rfl]
   exact⟨.inr (.inl rfl),.inr (.inr (.inl rfl)),.inr (.inr (.inr rfl))⟩
  ·rw[if_neg e]
   obtain⟨h1,h2,h3⟩:=H.nvars j (hj.resolve_right e)
   exact⟨.inl h1,.inl h2,.inl h3⟩
 ·have low:∀j,A j→(vs j).x<w.heap.size∧(vs j).i<w.heap.size∧(vs j).e<w.heap.size:=fun j hj=>by
   obtain⟨h1,h2,h3⟩:=H.nvars j hj
   exact⟨H.nlow _ h1,H.nlow _ h2,H.nlow _ h3⟩
  by_cases e:j=i
  ·subst e
   have hk':=hk.resolve_right (fun e=>hjk e.symm)
   obtain⟨h1,h2,h3⟩:=low k hk'
   rw[if_pos rfl,if_neg (fun e=>hjk e.symm)]
   simp only
   omega
  ·have hj':=hj.resolve_right e
   obtain⟨h1,h2,h3⟩:=low j hj'
   rw[if_neg e]
   by_cases e2:k=i
   ·subst e2
    rw[if_pos rfl]
    simp only
    omega
   ·rw[if_neg e2]
    exact H.vsep j k hj' (hk.resolve_right e2) hjk
 ·obtain⟨h1,h2,h3,h4⟩:=H.inp r hr
  refine⟨.inl h1,h2,h3,fun j hj=>?_⟩
  by_cases e:j=i
  ·subst e
   rw[if_pos rfl]
   have:=H.ilow zok hr
   simp only
   omega
  ·rw[if_neg e]
   exact h4 j (hj.resolve_right e)
end
end Go.Proofs.Ytlcgkpapnpdfpaa
