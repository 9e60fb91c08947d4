/-
  What is proved: BitsCallsCardSaid: for every start, all operations and every bound, what the calls of a set answer by themselves, the steps that they take and the set behind them are the document's. Conditions: those of the given row and card (the variable that is listed reads as its table).
  Part 1 of 6.
-/
import Derived.Test.YtlcgkpapnpdfpaaDoorProg
import Derived.WalkKit
import Derived.OwnWalk
import Derived.Maps.AppendAt
import Derived.Deep.RegionLaw
import Derived.Deep.RegionLawGrows
import Derived.Deep.DeepAppendRoom
import Derived.ArgAppend
import Derived.Deep.LoopGhost
import Derived.StillTailTactics
import Derived.RegionTactic
import Derived.ChangeAlike
import Derived.Deep.QuietTactic
import Derived.BigQuiet
import Derived.Laws.Rows
import Derived.Conc.Token
import Derived.Conc.TokenWalk
import Derived.Conc.Beside
import Derived.Conc.Own3
import Derived.Conc.Own4
import Derived.Conc.Own5
import Derived.Conc.Listed
import Derived.Conc.CompanyDraw
import Derived.Conc.TokenAlone
import Derived.Conc.TokenWords
import Derived.Orders
import Derived.Test.YtlcgkpapnpdfpaaDoorChecked
set_option linter.unusedSimpArgs false
set_option linter.unusedVariables false
set_option linter.unusedSectionVars false
set_option maxRecDepth 100000
set_option maxHeartbeats 8000000
namespace Go.Proofs.YtlcgkpapnpdfpaaDoor
section
open Go Go.Conc
abbrev vP (b o : Nat) : Value := .pointer (some ⟨b, o, none⟩)
abbrev vI (x : Int) : Value := .int .i64 x
abbrev vL (b o n c : Nat) : Value := .slice (some ⟨b, o, none⟩) n c
abbrev bA (f : FuncId) (A : Array Value) (l : List Item) : Frame := (Go.Conc.base f).at ⟨A, []⟩ l
end
section
theorem Q3 {α : Type} {a : Array α} {i : Nat} {x : α} (h : a[i]? = some x) : i < a.size := (Array.getElem?_eq_some_iff.1 h).1
theorem F0h {P : Prop} (h : P) : Aside P := h
open Go Go.RowKit Go.Proofs
variable{w w':World}
structure O1(f:FuncId):Prop where
 run:∀args w,(callFunc f args).run Tryd.prog w= .ok (.enter f args) w
 quiet:∀args w,(callFunc f args).events Tryd.prog w #[]= #[]
theorem G2 {f : FuncId} {fn : Func} (hf : Tryd.prog.funcs[f]? = some fn) (hname : (fn.name == "runtime.NumGoroutine") = false) (hb : fn.body.isSome = true) : O1 f := by
 obtain⟨c,hc⟩:=Option.isSome_iff_exists.1 hb
 have h1 : ¬ fn.name = "runtime.NumGoroutine" := by simpa using hname
 exact⟨fun args w=>by simp[callFunc,hf,h1,hc],fun args w=>by simp[callFunc,hf,h1,hc]⟩
theorem D0(w:World)(o:Obj){r:Nat}(h:r<w.heap.size):(w.alloc o).heap[r]? =w.heap[r]?:=Below.heap_alloc _ _ _ h
theorem o0(w:World)(a:Addr)(v:Value){r:Nat}(h:r≠a.block):(w.setCell a v).heap[r]? =w.heap[r]?:=Below.heap_setCell _ _ _ _ h
theorem U1{w:World}{b:Nat}{o:Nat}{c:Array Value}{e:TypeId}{z:Nat×Nat}(h:w.heap[b]? =some (.cells c e z))(v:Value):(w.setCell ⟨b,o,none⟩ v).heap[b]? =some (.cells (c.setIfInBounds o v) e z):=by
 simp[World.setCell,Array.getElem?_modify,h]
theorem Q9{base n size b:Nat}{e e':TypeId}{v:Value}{xs:List Value}{c:Array Value}{z:Nat×Nat}(h:w.ownsRow base e size v n xs)(hc:w.heap[b]? =some (.cells c e' z))(hne:e≠e'):some b≠Value.ownBlock v:=by
 rcases h.2 with⟨rfl,_⟩|⟨g,cap,cur,rfl,_,h3,_⟩
 ·simp[Value.ownBlock]
 ·intro h4
  simp only[Value.ownBlock,Option.some.injEq]at h4
  subst h4
  rw[hc]at h3
  cases h3
  exact hne rfl
theorem G1{W W':World}{base n size:Nat}{e:TypeId}{v:Value}{xs:List Value}(h:W.ownsRow base e size v n xs)(hb:∀b,Value.ownBlock v=some b→base≤b→W'.heap[b]? =W.heap[b]?):W'.ownsRow base e size v n xs:=by
 refine⟨h.1,?_⟩
 rcases h.2 with h2|⟨b,cap,cur,rfl,h3,h4,h5⟩
 ·exact .inl h2
 ·exact .inr ⟨b,cap,cur,rfl,h3,(hb b rfl h3).trans h4,h5⟩
theorem M3{u:World}{a:Addr}{v:Value}(h:u.cell? a=some v):∃c e z,u.heap[a.block]? =some (.cells c e z):=by
 unfold World.cell? at h
 split at h
 ·rename_i c e z ho
  exact⟨c,e,z,ho⟩
 ·cases h
theorem O0{u:World}{a:Addr}{v:Value}(h:u.cell? a=some v)(o:Obj):(u.alloc o).cell? a=some v∧(u.alloc o).frozen? a=u.frozen? a:=by
 obtain⟨c,e,z,ho⟩:=M3 h
 have e1:(u.alloc o).heap[a.block]? =u.heap[a.block]?:=D0 _ _ (Array.getElem?_eq_some_iff.1 ho).1
 exact⟨by rw[← h];unfold World.cell?;simp only[e1],by unfold World.frozen?;simp only[e1]⟩
theorem j4{u:World}{base base' n size:Nat}{e:TypeId}{v:Value}{xs:List Value}(hb:base≤base')(h:u.ownsRow base' e size v n xs):u.ownsRow base e size v n xs:=by
 refine⟨h.1,?_⟩
 rcases h.2 with h2|⟨b,cap,cur,h1,h2,h3⟩
 ·exact .inl h2
 ·exact .inr ⟨b,cap,cur,h1,Nat.le_trans hb h2,h3⟩
structure At(w:World)(a:Addr)(v:Value):Prop where
 c:w.cell? a=some v
 z:w.frozen? a=false
theorem R5{X:World}{k:Nat}(h:X.heap.size=k)(o:Obj):(X.alloc o).heap[k]? =some o:=h ▸ heap_alloc_new _ _
theorem r06{u:World}{b k:Nat}{c:Array Value}{e:TypeId}{v:Value}(h:u.heap[b]? =some (.cells c e (0,0)))(hc:c[k]? =some v):At u ⟨b,k,none⟩ v:=by
 constructor
 ·simp only[World.cell?,h];simpa using hc
 ·simp[World.frozen?,h]
theorem M5{u:World}{base n size k:Nat}{e:TypeId}{v x:Value}{xs:List Value}(h:u.ownsRow base e size v n xs)(hx:xs[k]? =some x):∃b cap,v=vL b 0 n cap∧At u ⟨b,k,none⟩ x:=by
 rcases h.2 with⟨rfl,rfl⟩|⟨b,cap,cur,rfl,h3,h4,h5,h6,h7,h8⟩
 ·have:=(List.getElem?_eq_some_iff.1 hx).1
  have:=h.1
  omega
 ·refine⟨b,cap,rfl,r06 h4 ?_⟩
  have h9:=(List.getElem?_eq_some_iff.1 hx).1
  rw[← h8,List.getElem?_take_of_lt (by have:=h.1;omega)]at hx
  simpa using hx
end
open Go Go.Conc Go.RowKit Go.Proofs
section
def L5(p:Nat→Bool):Nat→Nat
 | 0=>0
 | n+1=>L5 p n+if p n then 1 else 0
theorem o0I(p:Nat→Bool)(n:Nat):L5 p n≤n:=by
 induction n with
 | zero=>exact Nat.le_refl _
 | succ n ih=>simp only[L5];split<;>omega
theorem b0e{p q:Nat→Bool}{n:Nat}(h:∀j,j<n→p j=q j):L5 p n=L5 q n:=by
 induction n with
 | zero=>rfl
 | succ n ih=>simp only[L5,ih (fun j hj=>h j (by omega)),h n (by omega)]
theorem a0I{p:Nat→Bool}{n:Nat}:L5 p n=0↔∀j,j<n→p j=false:=by
 induction n with
 | zero=>simp[L5]
 | succ n ih=>
   simp only[L5,Nat.add_eq_zero_iff,ih]
   constructor
   ·rintro⟨h1,h2⟩ j hj
    by_cases e:j=n
    ·subst e
     cases h:p j with
     | false=>rfl
     | true=>rw[h]at h2;simp at h2
    ·exact h1 j (by omega)
   ·intro h
    exact⟨fun j hj=>h j (by omega),by rw[h n (by omega)];simp⟩
theorem r09{p q:Nat→Bool}{n i:Nat}(hi:i<n)(h:∀j,j≠i→q j=p j)(hp:p i=true):L5 q n=if q i then L5 p n else L5 p n - 1:=by
 induction n with
 | zero=>omega
 | succ n ih=>
   simp only[L5]
   by_cases e:i=n
   ·subst e
    rw[b0e (p:=q) (q:=p) (fun j hj=>h j (by omega)),hp]
    split<;>simp_all
   ·rw[ih (by omega),h n (Ne.symm e)]
    have:0<L5 p n:=by
     rcases Nat.eq_zero_or_pos (L5 p n)with h0|h0
     ·rw[a0I.1 h0 i (by omega)]at hp;cases hp
     ·exact h0
    split<;>omega
structure P3 where
 kd:Int
 a:Int
 b:Int
 c:Int
def P3.v(o:P3):Value:=.agg #[vI o.kd,vI o.a,vI o.b,vI o.c]
structure RQ where
 B:List (Int×Option Nat)
 hd:Nat
 tl:Nat
structure RC where
 kd:Nat
 ph:Nat
 H:Nat
 T:Nat
 N:Option Nat
 new:Nat
abbrev RR:=RC ⊕ (Bool×Int)
def RQ.nx(q:RQ)(k:Nat):Option Nat:=(q.B[k]?).bind (·.2)
def RQ.vl(q:RQ)(k:Nat):Int:=((q.B[k]?).map (·.1)).getD 0
def RQ.link(q:RQ)(t n:Nat):RQ:={q with B:=q.B.modify t fun b=>(b.1,some n)}
def RQ.help(q:RQ)(t n:Nat):RQ:=if q.tl=t then{q with tl:=n}else q
def RC.n(c:RC):Nat:=c.N.getD 0
def RQ.begin(q:RQ)(o:P3):RQ×RR:=
 if o.kd=1 then({q with B:=q.B++[(o.a,none)]},.inl ⟨1,1,0,0,some 0,q.B.length⟩)
 else if o.kd=2 then(q,.inl ⟨2,1,0,0,some 0,0⟩)
 else if o.kd=3 then(q,.inl ⟨3,1,0,0,some 0,0⟩)
 else(q,.inr (false,0))
def RQ.put(q:RQ)(c:RC):RQ×RR:=
 match c.ph with
 | 1=>(q,.inl {c with T:=q.tl,ph:=2})
 | 2=>match q.nx c.T with
   | none=>(q,.inl {c with N:=none,ph:=4})
   | some n=>(q,.inl {c with N:=some n,ph:=3})
 | 3=>(q.help c.T c.n,.inl {c with ph:=1})
 | 4=>match q.nx c.T with
   | none=>(q.link c.T c.new,.inl {c with ph:=5})
   | some _=>(q,.inl {c with ph:=1})
 | _=>(q.help c.T c.new,.inr (true,0))
def RQ.take(q:RQ)(c:RC):RQ×RR:=
 match c.ph with
 | 1=>(q,.inl {c with H:=q.hd,ph:=2})
 | 2=>(q,.inl {c with T:=q.tl,ph:=3})
 | 3=>match q.nx c.H with
   | none=>(q,.inr (false,0))
   | some n=>(q,.inl {c with N:=some n,ph:=if c.H=c.T then 4 else 5})
 | 4=>(q.help c.T c.n,.inl {c with ph:=1})
 | _=>if q.hd=c.H then({q with hd:=c.n},.inr (true,q.vl c.n))else(q,.inl {c with ph:=1})
def RQ.emp(q:RQ)(c:RC):RQ×RR:=
 match c.ph with
 | 1=>(q,.inl {c with H:=q.hd,ph:=2})
 | _=>match q.nx c.H with
   | none=>(q,.inr (true,1))
   | some _=>(q,.inr (true,0))
def RQ.step(q:RQ)(c:RC):RQ×RR:=
 match c.kd with
 | 1=>q.put c
 | 2=>q.take c
 | _=>q.emp c
structure RT where
 k:Nat
 call:Option RC
 ans:List (Bool×Int)
structure PS where
 q:RQ
 th:Nat→RT
def PS.put(s:PS)(i:Nat)(r:RQ×RT):PS:=⟨r.1,fun j=>if j=i then r.2 else s.th j⟩
def PS.live(s:PS)(j:Nat):Bool:=(s.th j).call.isSome
def v0e(n M:Nat)(s:PS×List Nat):Prop:=L5 s.1.live n=0∨M≤s.2.length
instance(n M:Nat)(s:PS×List Nat):Decidable (v0e n M s):=by unfold v0e;infer_instance
structure x8(w:World)(N:Nat→Prop)(n:Nat)(tb o tl:Nat)(ta:Option Addr)(oa:Nat→Option Addr)(ol oc:Nat→Nat)(ops:Nat→List P3)(S:List Int)(sa:Option Addr):Prop where
 hn:min tl 64=n
 hta:0<n→ta=some ⟨tb,o,none⟩
 htb:0<n→tb<w.heap.size
 hth:∀j,j<n→w.cell? ⟨tb,o+j,none⟩=some (.slice (oa j) (ol j) (oc j))∧w.frozen? ⟨tb,o+j,none⟩=false∧ol j≤oc j
 hlen:∀j,j<n→(ops j).length=min (ol j) 65536
 hop:∀j,j<n→∀k x,(ops j)[k]? =some x→∃opb oo,oa j=some ⟨opb,oo,none⟩∧¬N opb∧
  w.cell? ⟨opb,oo+k*4,none⟩=some (vI x.kd)∧w.cell? ⟨opb,oo+k*4+1,none⟩=some (vI x.a)∧w.cell? ⟨opb,oo+k*4+2,none⟩=some (vI x.b)∧w.cell? ⟨opb,oo+k*4+3,none⟩=some (vI x.c)∧
  w.frozen? ⟨opb,oo+k*4,none⟩=false∧w.frozen? ⟨opb,oo+k*4+1,none⟩=false∧w.frozen? ⟨opb,oo+k*4+2,none⟩=false∧w.frozen? ⟨opb,oo+k*4+3,none⟩=false
 hsl:S.length<9223372036854775808
 hS:0<S.length→∃sb so c e z,sa=some ⟨sb,so,none⟩∧¬N sb∧w.heap[sb]? =some (.cells c e z)∧∀(k:Nat) (u:Value),(S.map fun i:Int=>Value.int .i64 i)[k]? =some u→c[so+k]? =some u∧(decide (z.1≤so+k) && decide (so+k<z.2))=false
end
section
variable{P:Program}
def Y6(P:Program)(fn:Func)(args:Array Value)(w:World)(R:Value→World→Prop):Prop:=
 ∀c,fn.body=some c→c.wp P (bodyPost P fn fun x w'=>∃v,x= .returned v∧R v w') {tmps:=args++Array.replicate (fn.ntmps - args.size) undef,defers:=[]} w
theorem Y6.calls{f:FuncId}{fn:Func}{c:Code}(hf:P.funcs[f]? =some fn)(hb:fn.body=some c){args:Array Value}{w:World}{R:Value→World→Prop}(h:Y6 P fn args w R):Calls P f args w fun x w'=>∃v,x= .returned v∧R v w':=
 calls_of_wp hf hb (h c hb)
theorem I8{fn:Func}{c:Code}(hb:fn.body=some c){args:Array Value}{w:World}{R:Value→World→Prop}(h:c.wp P (bodyPost P fn fun x w'=>∃v,x= .returned v∧R v w') {tmps:=args++Array.replicate (fn.ntmps - args.size) undef,defers:=[]} w):Y6 P fn args w R:=
 fun c' hc'=>by rw[hb]at hc';cases hc';exact h
end
section
def pC:List Bool→Code→Code
 | [],c=>c
 | true::p,.seq a _=>pC p a
 | false::p,.seq _ b=>pC p b
 | true::p,.cond _ a _=>pC p a
 | false::p,.cond _ _ b=>pC p b
 | _::p,.block _ c=>pC p c
 | _::p,.loop c=>pC p c
 | _::p,.scope c=>pC p c
 | _,c=>c
def oC:Code→Array Oper
 | .region _ o _=>o
 | _=> #[]
def l0a(A:Array Value):List (Nat×Value)→Prop
 | []=>True
 | (k,v)::l=>A.getD k undef=v∧l0a A l
def G0(n:Nat)(A:Array Value)(l:List (Nat×Value)):Prop:=A.size=n∧l0a A l
theorem Y4(A:Array Value){n:Nat}(h:A.size=n):∃s:Nat→Value,A=((List.range n).map s).toArray∧∀k,A.getD k undef=(((List.range n).map s).toArray).getD k undef:=by
 have e:A=((List.range n).map (fun k=>A.getD k undef)).toArray:=by
  apply Array.ext
  ·simp[h]
  ·intro i h1 h2
   simp[h1]
 exact⟨_,e,fun k=>by rw[← e]⟩
def F7(Q:Act→World→Prop):Exit→Act→World→Prop
 | .normal,a,w=>Q a w
 | _,_,_=>False
abbrev zt := true
abbrev zf := false
theorem zz : (∀ i o b, oC (.region i o b) = o) ∧ (∀ c, pC [] c = c) ∧ (∀ p a b, pC (true :: p) (.seq a b) = pC p a) ∧ (∀ p a b, pC (false :: p) (.seq a b) = pC p b) ∧ (∀ p c a b, pC (true :: p) (.cond c a b) = pC p a) ∧ (∀ p c a b, pC (false :: p) (.cond c a b) = pC p b) ∧ (∀ x p i c, pC (x :: p) (.block i c) = pC p c) ∧ (∀ x p c, pC (x :: p) (.loop c) = pC p c) ∧ (∀ x p c, pC (x :: p) (.scope c) = pC p c) ∧ (∀ a b : Code, (some a).getD b = a) ∧ (∀ l : List Oper, l.toArray.size = l.length) ∧ (∀ (a : Oper) l, (a :: l).length = l.length + 1) ∧ ([] : List Oper).length = 0 ∧ (∀ n, 0 + n = n) ∧ (∀ n, List.range n = List.range.loop n []) ∧ (∀ l, List.range.loop 0 l = l) ∧ (∀ n l, List.range.loop (n + 1) l = List.range.loop n (n :: l)) := by
  refine ⟨fun _ _ _ => rfl, fun c => by cases c <;> rfl, fun _ _ _ => rfl, fun _ _ _ => rfl, fun _ _ _ _ => rfl, fun _ _ _ _ => rfl, fun x p i c => by cases x <;> rfl, fun x p c => by cases x <;> rfl, fun x p c => by cases x <;> rfl, fun _ _ => rfl, fun _ => rfl, fun _ _ => rfl, rfl, Nat.zero_add, fun _ => rfl, fun _ => rfl, fun _ _ => rfl⟩
def SlF (s : Nat → Value) : List (Nat × Value) → Prop
  | [] => True
  | (k, v) :: l => s k = v ∧ SlF s l
theorem slF {A : Array Value} : ∀ (l : List (Nat × Value)), l0a A l → SlF (fun k => A.getD k undef) l
  | [], _ => trivial
  | (_, _) :: l, h => ⟨h.1, slF l h.2⟩
theorem Y3 {A : Array Value} {n : Nat} {l : List (Nat × Value)} (T : (Nat → Value) → Array Value) (h : G0 n A l) (hT : ∀ s, T s = ((List.range n).map s).toArray := by intro s; rfl) : ∃ s : Nat → Value, A = T s ∧ SlF s l := by
  refine ⟨fun k => A.getD k undef, ?_, slF l h.2⟩
  rw [hT]
  apply Array.ext
  · simp [h.1]
  · intro i h1 h2
    simp [h1]
end
section
open Go Go.Conc
abbrev Fz:=Nat→Option (Nat×Nat)
def J3(F:Fz)(r:Nat):Obj→Obj
 | .cells c e z=>.cells c e ((F r).getD z)
 | o=>o
def held(F:Fz)(a:Addr):Prop:=∃z,F a.block=some z∧z.1≤a.off∧a.off<z.2
def L1(F:Fz)(w:World):World:={w with heap:=w.heap.mapIdx (J3 F)}
def retape(w:World)(τ:Tape)(e:Nat):World:={w with tape:=τ,drawn:=e}
structure Wf(F:Fz)(w:World):Prop where
 own:∀(r:Nat) (z:Nat×Nat),F r=some z→∃c e z0,w.heap[r]? =some (.cells c e z0)∧∀k,z0.1≤k→k<z0.2→z.1≤k∧k<z.2
theorem L4(F:Fz)(w:World)(r:Nat):(L1 F w).heap[r]? =(w.heap[r]?).map (J3 F r):=by
 simp[L1,Array.getElem?_mapIdx]
@[simp] theorem M4(F:Fz)(w:World):(L1 F w).heap.size=w.heap.size:=by simp[L1]
@[simp] theorem n0J(F:Fz)(w:World):(L1 F w).tape=w.tape:=rfl
@[simp] theorem k0o(F:Fz)(w:World):(L1 F w).drawn=w.drawn:=rfl
@[simp] theorem D0T(F:Fz)(w:World):(L1 F w).os=w.os:=rfl
@[simp] theorem u0S(F:Fz)(w:World):(L1 F w).output=w.output:=rfl
@[simp] theorem v0h(w:World)(τ:Tape)(e:Nat):(retape w τ e).heap=w.heap:=rfl
@[simp] theorem d0D(w:World)(τ:Tape)(e:Nat):(retape w τ e).tape=τ:=rfl
@[simp] theorem c0D(w:World)(τ:Tape)(e:Nat):(retape w τ e).drawn=e:=rfl
theorem i7(F:Fz)(w:World)(τ:Tape)(e:Nat):retape (L1 F w) τ e=L1 F (retape w τ e):=rfl
theorem K8(F:Fz)(w:World)(a:Addr):(L1 F w).cell? a=w.cell? a:=by
 unfold World.cell?
 rw[L4]
 cases h:w.heap[a.block]? with
 | none=>rfl
 | some o=>cases o<;>simp[J3]
theorem k0p(F:Fz)(w:World)(r:Nat):(L1 F w).shape? r=w.shape? r:=by
 unfold World.shape?
 rw[L4]
 cases h:w.heap[r]? with
 | none=>rfl
 | some o=>cases o<;>simp[J3]
theorem d0u(F:Fz)(w:World)(a:Addr)(hw:Wf F w)(h:(L1 F w).frozen? a=false):w.frozen? a=false∧¬held F a:=by
 unfold World.frozen? at h ⊢
 rw[L4]at h
 cases hf:F a.block with
 | none=>
   refine⟨?_,fun⟨z,hz,_⟩=>by rw[hf]at hz;cases hz⟩
   cases ho:w.heap[a.block]? with
   | none=>rfl
   | some o=>
     rw[ho]at h
     cases o<;>simp only[Option.map_some,J3,hf,Option.getD_none]at h ⊢
     exact h
 | some z=>
   obtain⟨c,e,z0,ho,hin⟩:=hw.own _ _ hf
   rw[ho]at h ⊢
   simp only[Option.map_some,J3,hf,Option.getD_some]at h
   refine⟨by
    by_cases h1:z0.1≤a.off∧a.off<z0.2
    ·have:=hin _ h1.1 h1.2
     simp[this.1,this.2]at h
    ·simp only[Bool.and_eq_false_imp,decide_eq_true_eq,decide_eq_false_iff_not]
     exact fun h2 h3=>h1 ⟨h2,h3⟩,fun⟨z',hz',h1,h2⟩=>?_⟩
   rw[hf]at hz'
   cases hz'
   simp[h1,h2]at h
theorem g07(F:Fz)(w:World)(a:Addr)(v:Value):(L1 F w).setCell a v=L1 F (w.setCell a v):=by
 unfold World.setCell L1
 congr 1
 apply Array.ext_getElem?
 intro i
 simp only[Array.getElem?_modify,Array.getElem?_mapIdx]
 cases h:w.heap[i]? with
 | none=>simp
 | some o=>
   by_cases hi:a.block=i
   ·simp only[hi,Option.map_some,if_true]
    cases o<;>simp[J3]
   ·simp[hi]
theorem n0I(F:Fz)(w:World)(hw:Wf F w)(o:Obj):{L1 F w with heap:=(L1 F w).heap.push o}=L1 F {w with heap:=w.heap.push o}:=by
 have hn:F w.heap.size=none:=by
  cases h:F w.heap.size with
  | none=>rfl
  | some z=>obtain⟨c,e,z0,h',_⟩:=hw.own _ _ h;simp at h'
 have ho:J3 F w.heap.size o=o:=by cases o<;>simp[J3,hn]
 suffices e:(L1 F w).heap.push o=(w.heap.push o).mapIdx (J3 F)by
  show({L1 F w with heap:=(L1 F w).heap.push o}:World)={w with heap:=(w.heap.push o).mapIdx (J3 F)}
  rw[e];rfl
 unfold L1
 apply Array.ext_getElem?
 intro i
 simp only[Array.getElem?_push,Array.getElem?_mapIdx,Array.size_mapIdx]
 split
 ·rename_i h;subst h;simp[ho]
 ·rfl
theorem Wf.retape{F:Fz}{w:World}(h:Wf F w)(τ:Tape)(e:Nat):Wf F (retape w τ e):=⟨h.own⟩
def J9(F:Fz)(e:Event):Prop:=(e.write=true→∃a,e.loc= .cell a∧¬held F a)∧(∀m,e.loc= .mark m→m= .noRoom∨∃f,m= .extern f)
def m0W:Halt→Prop
 | .panic _| .stuck _| .unsupported _=>True
 | _=>False
structure V3(F:Fz)(w w':World)(j:Nat):Prop where
 tape:w'.tape=w.tape
 drawn:w'.drawn=w.drawn+j
 os:w'.os=w.os
 output:w'.output=w.output
 size:w.heap.size≤w'.heap.size
 objs:∀(r:Nat) (o:Obj),w.heap[r]? =some o→(∃(c:Array Value) (e:TypeId) (z:Nat×Nat) (c':Array Value),o= .cells c e z∧w'.heap[r]? =some (.cells c' e z)∧c'.size=c.size)∨w'.heap[r]? =some o
 keep:∀a,held F a→w'.cell? a=w.cell? a
theorem V3.refl(F:Fz)(w:World):V3 F w w 0:=⟨rfl,rfl,rfl,rfl,Nat.le_refl _,fun _ _ h=>.inr h,fun _ _=>rfl⟩
theorem V3.trans{F:Fz}{a b c:World}{i j:Nat}(h:V3 F a b i)(k:V3 F b c j):V3 F a c (i+j):=by
 refine⟨k.tape.trans h.tape,by rw[k.drawn,h.drawn];omega,k.os.trans h.os,k.output.trans h.output,Nat.le_trans h.size k.size,fun r o ho=>?_,fun x hx=>(k.keep x hx).trans (h.keep x hx)⟩
 rcases h.objs r o ho with⟨c1,e1,z1,c2,rfl,h2,h3⟩|h2
 ·rcases k.objs r _ h2 with⟨c3,e3,z3,c4,he,h4,h5⟩|h4
  ·cases he
   exact .inl ⟨_,_,_,c4,rfl,h4,by omega⟩
  ·exact .inl ⟨_,_,_,c2,rfl,h4,h3⟩
 ·exact k.objs r o h2
def f0T(w:World)(j:Nat)(τ:Tape)(e:Nat):Prop:=∀i q,i<j→τ (e+i) q=w.tape (w.drawn+i) q
variable{α β:Type}
def J6(P:Program)(F:Fz)(s:Sem α)(w:World):Prop:=
 match s.run P (L1 F w)with
 | .ok v u=>∃w' es j,u=L1 F w'∧s.run P w= .ok v w'∧(∀es₀,s.events P w es₀=es₀++es)∧(∀e∈es,J9 F e)∧V3 F w w' j∧Wf F w'∧
  ∀τ e,f0T w j τ e→s.run P (retape (L1 F w) τ e)= .ok v (retape u τ (e+j))
 | .halt h _=>m0W h
def j0(P:Program)(F:Fz)(s:Sem α):Prop:=∀w,Wf F w→J6 P F s w
theorem J6.ok{P:Program}{F:Fz}{s:Sem α}{w:World}{v:α}{u:World}(h:J6 P F s w)(hr:s.run P (L1 F w)= .ok v u):
 ∃w' es j,u=L1 F w'∧s.run P w= .ok v w'∧(∀es₀,s.events P w es₀=es₀++es)∧(∀e∈es,J9 F e)∧V3 F w w' j∧Wf F w'∧
  ∀τ e,f0T w j τ e→s.run P (retape (L1 F w) τ e)= .ok v (retape u τ (e+j)):=by
 unfold J6 at h;rw[hr]at h;exact h
theorem j0.pure{P:Program}{F:Fz}(a:α):j0 P F (Sem.pure a):=by
 intro w hw
 exact⟨w,#[],0,rfl,rfl,fun _=>by simp,by simp,.refl _ _,hw,fun _ _ _=>rfl⟩
theorem j0.pure'{P:Program}{F:Fz}(a:α):j0 P F (Pure.pure a:Sem α):=j0.pure a
theorem j0.halt{P:Program}{F:Fz}(h:Halt)(hf:m0W h):j0 P F (Sem.halt h:Sem α):=by
 intro w hw;exact hf
theorem j0.bind'{P:Program}{F:Fz}{s:Sem α}{f:α→Sem β}(hs:j0 P F s)(hf:∀a,j0 P F (f a)):j0 P F (s.bind f):=by
 intro w hw
 have h1:=hs w hw
 unfold J6 at h1 ⊢
 rw[Sem.run_bind']
 cases hr:s.run P (L1 F w)with
 | halt h u=>rw[hr]at h1;exact h1
 | ok a u=>
   rw[hr]at h1
   obtain⟨w1,es1,j1,rfl,r1,e1,t1,g1,hw1,l1⟩:=h1
   simp only[Result.andThen_ok]
   have h2:=hf a w1 hw1
   unfold J6 at h2
   cases hr2:(f a).run P (L1 F w1)with
   | halt h u=>rw[hr2]at h2;exact h2
   | ok b u=>
     rw[hr2]at h2
     obtain⟨w2,es2,j2,rfl,r2,e2,t2,g2,hw2,l2⟩:=h2
     refine⟨w2,es1++es2,j1+j2,rfl,by rw[Sem.run_bind',r1];exact r2,fun es₀=>?_,?_,g1.trans g2,hw2,fun τ e ha=>?_⟩
     ·rw[Sem.events_bind',r1,e1];simp only[Result.evThen_ok];rw[e2,Array.append_assoc]
     ·intro x hx
      rcases Array.mem_append.1 hx with h|h
      ·exact t1 x h
      ·exact t2 x h
     ·rw[Sem.run_bind',l1 τ e (fun i q hi=>ha i q (by omega))]
      simp only[Result.andThen_ok]
      rw[show retape (L1 F w1) τ (e+j1)=retape (L1 F w1) τ (e+j1)from rfl,l2 τ (e+j1) (fun i q hi=>?_)]
      ·rw[Nat.add_assoc]
      ·have:=ha (j1+i) q (by omega)
       rw[g1.tape,g1.drawn]
       rw[Nat.add_assoc,Nat.add_assoc]
       exact this
theorem j0.bind{P:Program}{F:Fz}{s:Sem α}{f:α→Sem β}(hs:j0 P F s)(hf:∀a,j0 P F (f a)):j0 P F (s >>= f):=j0.bind' hs hf
theorem j0.map{P:Program}{F:Fz}{s:Sem α}{f:α→β}(hs:j0 P F s):j0 P F (f <$> s):=j0.bind' hs fun a=>j0.pure _
theorem j0.ite{P:Program}{F:Fz}{c:Prop} [Decidable c] {s t:Sem α}(hs:c→j0 P F s)(ht:¬c→j0 P F t):j0 P F (if c then s else t):=by
 split
 ·exact hs ‹_›
 ·exact ht ‹_›
theorem g0c(P:Program)(F:Fz)(w:World)(at_:Addr)(u:TypeId)(k:Addr)(m:Bool):
 (L1 F w).seen P at_ u k m=(w.seen P at_ u k m).map fun z=>(z.1,z.2.1,(F at_.block).getD z.2.2.1,z.2.2.2):=by
 unfold World.seen
 rw[L4]
 cases h:w.heap[at_.block]? with
 | none=>
   simp only[bind,Except.bind,pure,Except.pure,throw,throwThe,MonadExceptOf.throw,Option.map_none]
   repeat' split
   all_goals first|rfl|(simp_all [Except.map];done)|(simp_all [Except.map];all_goals rfl)
 | some o=>
   cases o<;>simp only[bind,Except.bind,pure,Except.pure,throw,throwThe,MonadExceptOf.throw,Option.map_some,J3]
   all_goals(repeat' split)
   all_goals first|rfl|(simp_all [Except.map];done)|(simp_all [Except.map];all_goals rfl)
theorem f0K(P:Program)(F:Fz)(w:World)(at_:Addr)(u:TypeId)(k:Addr)(m:Bool):
 (L1 F w).viewLoad P at_ u k m=w.viewLoad P at_ u k m:=by
 unfold World.viewLoad
 rw[g0c]
 cases w.seen P at_ u k m with
 | error e=>rfl
 | ok z=>rfl
end
section
open Go Go.Conc
variable{P:Program}{F:Fz}
theorem n0x{γ δ:Type}{g1 g2:γ→δ→Except String γ}(h:∀c x r,g1 c x= .ok r→g2 c x= .ok r):
 ∀(l:List δ) (c r:γ),l.foldlM g1 c= .ok r→l.foldlM g2 c= .ok r:=by
 intro l
 induction l with
 | nil=>intro c r hr;exact hr
 | cons x l ih=>
   intro c r hr
   rw[List.foldlM_cons]at hr ⊢
   cases h1:g1 c x with
   | error e=>rw[h1]at hr;cases hr
   | ok c'=>
     rw[h1]at hr
     rw[h c x c' h1]
     exact ih c' r hr
theorem k0i{γ δ:Type}{g:γ→δ→Except String γ}(I:γ→Prop)(J:δ→Prop)(h:∀c x r,g c x= .ok r→I c→I r∧J x):
 ∀(l:List δ) (c r:γ),l.foldlM g c= .ok r→I c→I r∧∀x∈l,J x:=by
 intro l
 induction l with
 | nil=>intro c r hr hI;cases hr;exact⟨hI,by simp⟩
 | cons x l ih=>
   intro c r hr hI
   rw[List.foldlM_cons]at hr
   cases h1:g c x with
   | error e=>rw[h1]at hr;cases hr
   | ok c'=>
     rw[h1]at hr
     obtain⟨hI',hJ⟩:=h c x c' h1 hI
     obtain⟨h2,h3⟩:=ih c' r hr hI'
     exact⟨h2,by intro y hy;rcases List.mem_cons.1 hy with rfl|hy;exact hJ;exact h3 y hy⟩
structure l0c(F:Fz)(w w':World)(l:List Addr):Prop where
 grew:V3 F w w' 0
 wf:Wf F w'
 free:∀a∈l,¬held F a
 same:w'.tape=w.tape∧w'.drawn=w.drawn
theorem f0S(w:World)(hw:Wf F w)(a:Addr)(v:Value)(hh:¬held F a):l0c F w (w.setCell a v) [a]:=by
 have hget:∀r,(w.setCell a v).heap[r]? =(w.heap[r]?).map fun o=>if a.block=r then(match o with| .cells c elem frozen=>.cells (if a.spot.isSome then c else c.setIfInBounds a.off v) elem frozen|o=>o)else o:=by
  intro r
  unfold World.setCell
  simp only[Array.getElem?_modify]
  split
  ·cases w.heap[r]? <;>rfl
  ·cases w.heap[r]? <;>rfl
 refine⟨⟨rfl,rfl,rfl,rfl,by simp[World.setCell],fun r o ho=>?_,fun b hb=>?_⟩,⟨fun r z hz=>?_⟩,by simpa using hh,rfl,rfl⟩
 ·rw[hget,ho]
  by_cases h:a.block=r
  ·cases o with
   | cells c e z=>exact .inl ⟨c,e,z,if a.spot.isSome then c else c.setIfInBounds a.off v,rfl,by simp[h],by split<;>simp⟩
   | _=>right;simp[h]
  ·right;simp[h]
 ·unfold World.cell?
  rw[hget]
  cases ho:w.heap[b.block]? with
  | none=>rfl
  | some o=>
    by_cases h:a.block=b.block
    ·cases o with
     | cells c e z=>
       simp only[Option.map_some,h,if_true]
       by_cases hs:a.spot.isSome=true
       ·simp[hs]
       ·by_cases hoff:a.off=b.off
        ·obtain⟨z',hz,h1,h2⟩:=hb
         exact absurd ⟨z',by rw[h];exact hz,by omega,by omega⟩ hh
        ·simp only[hs,Bool.false_eq_true,if_false]
         rw[Array.getElem?_setIfInBounds_ne hoff]
     | _=>simp[h]
    ·simp[h]
 ·obtain⟨c,e,z0,ho,hin⟩:=hw.own r z hz
  rw[hget,ho]
  by_cases h:a.block=r
  ·exact⟨if a.spot.isSome then c else c.setIfInBounds a.off v,e,z0,by simp[h],hin⟩
  ·exact⟨c,e,z0,by simp[h],hin⟩
theorem j0J(w:World)(hw:Wf F w)(r:Nat)(c c':Array Value)(e:TypeId)(z:Nat×Nat)(ho:w.heap[r]? =some (.cells c e z))(hc:c'.size=c.size)
 (hk:∀i,held F ⟨r,i,none⟩→c'[i]? =c[i]?) (l:List Addr) (hl:∀a∈l,¬held F a):
 l0c F w {w with heap:=w.heap.setIfInBounds r (.cells c' e z)} l:=by
 have hlt:r<w.heap.size:=(Array.getElem?_eq_some_iff.1 ho).1
 have hget:∀i,(w.heap.setIfInBounds r (.cells c' e z))[i]? =if r=i then some (.cells c' e z)else w.heap[i]?:=by
  intro i
  rw[Array.getElem?_setIfInBounds]
  split
  ·rename_i h;subst h;simp[hlt]
  ·rfl
 refine⟨⟨rfl,rfl,rfl,rfl,by simp,fun i o hi=>?_,fun b hb=>?_⟩,⟨fun i y hy=>?_⟩,hl,rfl,rfl⟩
 ·simp only[hget]
  by_cases h:r=i
  ·subst h
   rw[ho]at hi
   cases hi
   exact .inl ⟨c,e,z,c',rfl,by simp,hc⟩
  ·exact .inr (by simp[h,hi])
 ·unfold World.cell?
  simp only[hget]
  by_cases h:r=b.block
  ·subst h
   rw[ho]
   simp only[if_true]
   split
   ·rfl
   ·obtain⟨y,h1,h2,h3⟩:=hb
    exact hk b.off ⟨y,h1,h2,h3⟩
  ·simp[h]
 ·simp only[hget]
  obtain⟨c1,e1,z1,h1,hin⟩:=hw.own i y hy
  by_cases h:r=i
  ·subst h
   rw[ho]at h1
   cases h1
   exact⟨c',e,z,by simp,hin⟩
  ·exact⟨c1,e1,z1,by simp[h,h1],hin⟩
theorem f0J(w:World)(r:Nat)(c:Array Value)(e:TypeId)(z:Nat×Nat):
 ({L1 F w with heap:=(L1 F w).heap.setIfInBounds r (.cells c e ((F r).getD z))}:World)=L1 F {w with heap:=w.heap.setIfInBounds r (.cells c e z)}:=by
 suffices e:(L1 F w).heap.setIfInBounds r (.cells c e ((F r).getD z))=(w.heap.setIfInBounds r (.cells c e z)).mapIdx (J3 F)by
  show({L1 F w with heap:=(L1 F w).heap.setIfInBounds r (.cells c _ ((F r).getD z))}:World)={w with heap:=(w.heap.setIfInBounds r (.cells c _ z)).mapIdx (J3 F)}
  rw[e];rfl
 unfold L1
 apply Array.ext_getElem?
 intro i
 simp only[Array.getElem?_setIfInBounds,Array.getElem?_mapIdx,Array.size_mapIdx]
 split
 ·rename_i h;subst h;split<;>simp[J3]
 ·rfl
theorem f0u{γ:Type}(s:String):(MonadExcept.throw s:Except String γ)= .error s:=rfl
theorem q0Q{w:World}{at_:Addr}{u:TypeId}{k:Addr}{m:Bool}{c:Array Value}{e:TypeId}{f:Nat×Nat}{rest:Nat×Value×List (Nat×Nat×List UInt8)}
 (h:w.seen P at_ u k m= .ok (c,e,f,rest)):w.heap[at_.block]? =some (.cells c e f):=by
 unfold World.seen at h
 simp only[bind,Except.bind,pure,Except.pure,throw,throwThe,MonadExceptOf.throw,f0u]at h
 repeat'(split at h)
 all_goals first|(cases h;done)|(simp only[Except.ok.injEq,Prod.mk.injEq]at h;obtain⟨rfl,rfl,rfl,_⟩:=h;assumption)
theorem e0V(w:World)(hw:Wf F w)(at_:Addr)(u:TypeId)(k:Addr)(v:Value)(m:Bool)(u':World)(l:List Addr)(h:(L1 F w).viewStore P at_ u k v m= .ok (u',l)):
 ∃w',u'=L1 F w'∧w.viewStore P at_ u k v m= .ok (w',l)∧l0c F w w' l:=by
 unfold World.viewStore at h ⊢
 rw[g0c]at h
 by_cases ht:tight P P.depth u=true
 ·simp only[ht,Bool.not_true,Bool.false_eq_true,if_false]at h ⊢
  cases hs:w.seen P at_ u k m with
  | error e=>rw[hs]at h;cases h
  | ok z=>
    obtain⟨c,e,f,first,like,cells⟩:=z
    rw[hs]at h
    simp only[Except.map]at h
    simp only[bind,Except.bind,pure,Except.pure,throw,throwThe,MonadExceptOf.throw,f0u]at h ⊢
    cases hb:v.bytes? with
    | none=>rw[hb]at h;cases h
    | some bytes=>
      rw[hb]at h
      simp only at h ⊢
      by_cases hz:some bytes.length≠Option.map (fun x=>x.length) like.bytes?
      ·rw[if_pos hz]at h;cases h
      ·rw[if_neg hz]at h ⊢
       have hobj:w.heap[at_.block]? =some (.cells c e f):=q0Q hs
       have hfz:∀i,f.1≤i→i<f.2→((F at_.block).getD f).1≤i∧i<((F at_.block).getD f).2:=by
        intro i h1 h2
        cases hF:F at_.block with
        | none=>exact⟨h1,h2⟩
        | some y=>
          obtain⟨c1,e1,z1,h3,hin⟩:=hw.own _ _ hF
          rw[hobj]at h3
          cases h3
          simpa using hin i h1 h2
       split at h
       ·cases h
       ·rename_i c' hfold
        simp only[Except.ok.injEq,Prod.mk.injEq]at h
        obtain⟨rfl,rfl⟩:=h
        have hinv:=k0i (fun d=>d.size=c.size∧∀i,held F ⟨at_.block,i,none⟩→d[i]? =c[i]?) (fun x=>¬held F ⟨at_.block,x.1,none⟩) (fun d x r hr hI=>by
         split at hr
         ·cases hr
         split at hr
         ·cases hr
         rename_i hnf
         split at hr
         ·split at hr
          ·cases hr
           have hx:¬held F ⟨at_.block,x.1,none⟩:=by
            rintro⟨y,hy,h1,h2⟩
            simp only at hy h1 h2
            rw[hy]at hnf
            simp[h1,h2]at hnf
           refine⟨⟨by simp[hI.1],fun i hi=>?_⟩,hx⟩
           have hne:x.1≠i:=fun he=>hx (he ▸ hi)
           rw[Array.getElem?_setIfInBounds_ne hne]
           exact hI.2 i hi
          ·cases hr
         ·cases hr) cells c c' hfold ⟨rfl,fun _ _=>rfl⟩
        have hgo:∀(g2:Array Value→(Nat×Nat×List UInt8)→Except String (Array Value)),(∀d x r,_→g2 d x= .ok r)→List.foldlM g2 c cells= .ok c':=fun g2 hg=>n0x hg cells c c' hfold
        refine⟨{w with heap:=w.heap.setIfInBounds at_.block (.cells c' e f)},f0J w at_.block c' e f,?_,j0J w hw at_.block c c' e f hobj hinv.1.1 hinv.1.2 _ (fun a ha=>?_)⟩
        ·rw[hgo _ (fun d x r hr=>?_)]
         split at hr
         ·cases hr
         rename_i h1
         rw[if_neg h1]
         split at hr
         ·cases hr
         rename_i h2
         have h3:¬((decide (f.fst≤x.fst) && decide (x.fst<f.snd))=true):=by
          intro h4
          simp only[Bool.and_eq_true,decide_eq_true_eq]at h4 h2
          exact h2 (hfz _ h4.1 h4.2)
         rw[if_neg h3]
         exact hr
        ·obtain⟨x,hx,rfl⟩:=List.mem_map.1 ha
         exact hinv.2 x hx
 ·simp only[ht]at h
  cases h
end
section
open Go Go.Conc
variable{P:Program}{F:Fz}{α β:Type}
theorem d0v(w:World)(a:Addr)(s:String):m0W (w.noCell a s):=by
 unfold World.noCell;split<;>trivial
theorem I1(a:Addr)(s:Bool):J9 F ⟨.cell a,false,s⟩:=⟨fun h=>by simp at h,fun m h=>by simp at h⟩
theorem U0(a:Addr)(s:Bool)(h:¬held F a):J9 F ⟨.cell a,true,s⟩:=⟨fun _=>⟨a,rfl,h⟩,fun m h=>by simp at h⟩
theorem s0m(r:Nat)(s:Bool):J9 F ⟨.obj r,false,s⟩:=⟨fun h=>by simp at h,fun m h=>by simp at h⟩
theorem g06(w:World)(a:Addr)(m:Bool)(r:Value×List Addr)(h:(L1 F w).farLoad P a m= .ok r):w.farLoad P a m= .ok r:=by
 unfold World.farLoad at h ⊢
 rw[L4]at h
 cases ho:w.heap[a.block]? with
 | none=>rw[ho]at h;cases h
 | some o=>
   rw[ho]at h
   cases o<;>simp only[Option.map_some,J3]at h ⊢
   case view b u=>rw[f0K]at h;exact h
   all_goals cases h
theorem g0V(w:World)(a:Addr)(m:Bool)(e:Halt)(h:w.farLoad P a m= .error e):m0W e:=by
 unfold World.farLoad at h
 split at h
 ·split at h<;>cases h
  trivial
 ·cases h;exact d0v _ _ _
theorem j0.load(a:Addr)(m:Mode):j0 P F (Go.load a m):=by
 intro w hw
 unfold J6
 have hr:∀w:World,(Go.load a m).run P w=match w.cell? a with
  | some v=>.ok v w
  | none=>match w.farLoad P a (m == .atomic)with
    | .ok (v,_)=>.ok v w
    | .error h=>.halt h w:=by
  intro w;simp only[Go.load,Sem.run]
  cases w.cell? a with
  | some v=>rfl
  | none=>cases w.farLoad P a (m == .atomic)<;>rfl
 have he:∀(w:World) es,(Go.load a m).events P w es=match w.cell? a with
  | some v=>es.push ⟨.cell a,false,m == .atomic⟩
  | none=>match w.farLoad P a (m == .atomic)with
    | .ok (_,l)=>es++l.toArray.map (⟨.cell ·,false,m == .atomic⟩)
    | .error h=>es:=by
  intro w es
  simp only[Sem.events,Go.load,Sem.runT]
  cases w.cell? a with
  | some v=>rfl
  | none=>cases w.farLoad P a (m == .atomic)<;>rfl
 rw[hr,K8]
 cases hc:w.cell? a with
 | some v=>
   refine⟨w,#[⟨.cell a,false,m == .atomic⟩],0,rfl,by rw[hr,hc],fun es=>by rw[he,hc];simp,fun e h=>?_,.refl _ _,hw,fun τ e _=>?_⟩
   ·simp only[List.mem_toArray,List.mem_singleton]at h;subst h;exact I1 _ _
   ·rw[hr,i7,K8]
    rw[show(retape w τ e).cell? a=w.cell? a from rfl,hc]
    rfl
 | none=>
   cases hf:(L1 F w).farLoad P a (m == .atomic)with
   | error h=>exact g0V _ _ _ _ hf
   | ok r=>
     have hf':=g06 _ _ _ _ hf
     refine⟨w,r.2.toArray.map (⟨.cell ·,false,m == .atomic⟩),0,rfl,by rw[hr,hc];simp only[hf'],fun es=>by rw[he,hc];simp only[hf'],fun e h=>?_,.refl _ _,hw,fun τ e _=>?_⟩
     ·obtain⟨x,_,rfl⟩:=Array.mem_map.1 h;exact I1 _ _
     ·rw[hr,i7,K8]
      rw[show(retape w τ e).cell? a=w.cell? a from rfl,hc]
      have h1:(L1 F (retape w τ e)).farLoad P a (m == .atomic)=(L1 F w).farLoad P a (m == .atomic):=rfl
      simp only[h1,hf]
      rfl
theorem c0Y(w:World)(at_:Addr)(u:TypeId)(k:Addr)(v:Value)(m:Bool)(τ:Tape)(e:Nat):
 (retape w τ e).viewStore P at_ u k v m=(w.viewStore P at_ u k v m).map fun r=>(retape r.1 τ e,r.2):=by
 unfold World.viewStore
 have hs:(retape w τ e).seen P at_ u k m=w.seen P at_ u k m:=rfl
 rw[hs]
 simp only[bind,Except.bind,pure,Except.pure,throw,throwThe,MonadExceptOf.throw,f0u]
 repeat' split
 all_goals first|rfl|(simp_all [Except.map];done)|(simp_all [Except.map];all_goals rfl)
theorem j0.store(a:Addr)(v:Value)(m:Mode):j0 P F (Go.store a v m):=by
 intro w hw
 unfold J6
 by_cases hv:(∃cs,v= .agg cs)∨(∃vs,v= .tuple vs)
 ·have:∀w:World,∃s,(Go.store a v m).run P w= .halt (.stuck s) w:=by
   intro w
   rcases hv with⟨cs,rfl⟩|⟨vs,rfl⟩<;>exact⟨_,rfl⟩
  obtain⟨s,h⟩:=this (L1 F w)
  rw[h];trivial
 have hr:∀w:World,(Go.store a v m).run P w=match w.cell? a with
  | some _ => if w.frozen? a then .halt (.unsupported (.unsafePointer "a write to bytes that a string shares")) w else .ok () (w.setCell a v)
  | none=>match w.farStore P a v (m == .atomic)with
    | .ok (w,_)=>.ok () w
    | .error h=>.halt h w:=by
  intro w
  simp only[Go.store]
  cases v<;>first|rfl|(simp at hv)
 have he:∀(w:World) es,(Go.store a v m).events P w es=match w.cell? a with
  | some _=>if w.frozen? a then es else es.push ⟨.cell a,true,m == .atomic⟩
  | none=>match w.farStore P a v (m == .atomic)with
    | .ok (_,l)=>es++l.toArray.map (⟨.cell ·,true,m == .atomic⟩)
    | .error h=>es:=by
  intro w es
  simp only[Sem.events,Go.store]
  cases v<;>first
   | (simp at hv;done)
   | (simp only[Sem.runT]
      cases w.cell? a with
      | some v=>cases w.frozen? a<;>rfl
      | none=>cases w.farStore P a _ (m == .atomic)<;>rfl)
 rw[hr,K8]
 cases hc:w.cell? a with
 | some v0=>
   simp only
   cases hz:(L1 F w).frozen? a with
   | true=>simp only[if_true];trivial
   | false=>
     obtain⟨hz1,hh⟩:=d0u F w a hw hz
     have hW:=f0S w hw a v hh
     simp only[Bool.false_eq_true,if_false]
     refine⟨w.setCell a v,#[⟨.cell a,true,m == .atomic⟩],0,g07 F w a v,by rw[hr,hc];simp[hz1],fun es=>by rw[he,hc];simp[hz1],fun e h=>?_,hW.grew,hW.wf,fun τ e _=>?_⟩
     ·simp only[List.mem_toArray,List.mem_singleton]at h;subst h;exact U0 _ _ hh
     ·rw[hr,i7,K8]
      rw[show(retape w τ e).cell? a=w.cell? a from rfl,hc]
      rw[show(L1 F (retape w τ e)).frozen? a=(L1 F w).frozen? a from rfl,hz]
      rfl
 | none=>
   have hfs:∀r,(L1 F w).farStore P a v (m == .atomic)= .ok r→∃b u w',w.heap[a.block]? =some (.view b u)∧r.1=L1 F w'∧(L1 F w).viewStore P b u a v (m == .atomic)= .ok r∧w.farStore P a v (m == .atomic)= .ok (w',r.2)∧l0c F w w' r.2:=by
    intro r h
    unfold World.farStore at h ⊢
    rw[L4]at h
    cases ho:w.heap[a.block]? with
    | none=>rw[ho]at h;cases h
    | some o=>
      rw[ho]at h
      cases o<;>simp only[Option.map_some,J3]at h ⊢
      case view b u=>
       cases hvs:(L1 F w).viewStore P b u a v (m == .atomic)with
       | error s=>rw[hvs]at h;cases h
       | ok r'=>
         rw[hvs]at h
         cases h
         obtain⟨w',h1,h2,h3⟩:=e0V w hw b u a v _ r.1 r.2 hvs
         exact⟨b,u,w',rfl,h1,hvs,by rw[h2],h3⟩
      all_goals cases h
   cases hf:(L1 F w).farStore P a v (m == .atomic)with
   | error h=>
     simp only
     unfold World.farStore at hf
     split at hf
     ·split at hf<;>cases hf
      trivial
     ·cases hf;exact d0v _ _ _
   | ok r=>
     obtain⟨b,u,w',ho,h1,h2,h3,hW⟩:=hfs r hf
     simp only
     refine⟨w',r.2.toArray.map (⟨.cell ·,true,m == .atomic⟩),0,h1,by rw[hr,hc];simp only[h3],fun es=>by rw[he,hc];simp only[h3],fun e h=>?_,hW.grew,hW.wf,fun τ e _=>?_⟩
     ·obtain⟨x,hx,rfl⟩:=Array.mem_map.1 h;exact U0 _ _ (hW.free x (by simpa using hx))
     ·rw[hr,i7,K8]
      rw[show(retape w τ e).cell? a=w.cell? a from rfl,hc]
      have h4:(L1 F (retape w τ e)).farStore P a v (m == .atomic)= .ok (retape r.1 τ e,r.2):=by
       unfold World.farStore
       rw[L4]
       rw[show(retape w τ e).heap[a.block]? =w.heap[a.block]? from rfl,ho]
       simp only[Option.map_some,J3]
       rw[← i7,c0Y,h2]
       rfl
      simp only[h4]
      rfl
theorem j0.newObj(o:Obj):j0 P F (Go.newObj o):=by
 intro w hw
 refine⟨{w with heap:=w.heap.push o},#[],0,n0I F w hw o,?_,fun es=>?_,by simp,⟨rfl,rfl,rfl,rfl,by simp,fun r o' h=>.inr ?_,fun a h=>?_⟩,⟨fun r z h=>?_⟩,fun τ e _=>?_⟩
 ·show Result.ok _ _=_;rw[M4]
 ·simp[Sem.events,Go.newObj,Sem.runT]
 ·have:=(Array.getElem?_eq_some_iff.1 h).1
  rw[Array.getElem?_push,if_neg (by omega)];exact h
 ·obtain⟨z,hz,_⟩:=h
  obtain⟨c,e,_,h1,_⟩:=hw.own _ _ hz
  have:=(Array.getElem?_eq_some_iff.1 h1).1
  simp only[World.cell?,Array.getElem?_push,if_neg (show ¬a.block=w.heap.size by omega)]
 ·obtain⟨c,e,z0,h1,hin⟩:=hw.own _ _ h
  have:=(Array.getElem?_eq_some_iff.1 h1).1
  exact⟨c,e,z0,by rw[Array.getElem?_push,if_neg (by omega)];exact h1,hin⟩
 ·rfl
theorem j0.shape(r:Nat):j0 P F (Go.shape r):=by
 intro w hw
 exact⟨w,#[],0,rfl,by show Result.ok _ _=Result.ok _ _;rw[k0p],fun es=>by simp[Sem.events,Go.shape,Sem.runT],by simp,.refl _ _,hw,fun τ e _=>rfl⟩
theorem j0.program:j0 P F Go.program:=by
 intro w hw
 exact⟨w,#[],0,rfl,rfl,fun es=>by simp[Sem.events,Go.program,Sem.runT],by simp,.refl _ _,hw,fun τ e _=>rfl⟩
theorem j0.mark(m:Mark)(hm:m= .noRoom∨∃f,m= .extern f):j0 P F (Go.mark m):=by
 intro w hw
 refine⟨w,#[⟨.mark m,false,true⟩],0,rfl,rfl,fun es=>by simp[Sem.events,Go.mark,Sem.runT],fun e h=>?_,.refl _ _,hw,fun τ e _=>rfl⟩
 simp only[List.mem_toArray,List.mem_singleton]at h
 subst h
 exact⟨fun h=>by simp at h,fun m' h=>by cases h;exact hm⟩
theorem j0.choose(q:Question):j0 P F (Go.choose q):=by
 intro w hw
 unfold J6
 have hr:∀w:World,(Go.choose q).run P w=if q.forced then .ok 0 w else .ok (q.cut (w.tape w.drawn q)) {w with drawn:=w.drawn+1}:=by
  intro w;simp only[Go.choose,Sem.run]
 have he:∀(w:World) es,(Go.choose q).events P w es=es:=by
  intro w es;simp only[Sem.events,Go.choose,Sem.runT];split<;>rfl
 rw[hr]
 by_cases hf:q.forced=true
 ·rw[if_pos hf]
  exact⟨w,#[],0,rfl,by rw[hr,if_pos hf],fun es=>by rw[he];simp,by simp,.refl _ _,hw,fun τ e _=>by rw[hr,if_pos hf];rfl⟩
 ·rw[if_neg hf]
  refine⟨{w with drawn:=w.drawn+1},#[],1,rfl,by rw[hr,if_neg hf];rfl,fun es=>by rw[he];simp,by simp,⟨rfl,rfl,rfl,rfl,Nat.le_refl _,fun _ _ h=>.inr h,fun _ _=>rfl⟩,⟨hw.own⟩,fun τ e ha=>?_⟩
  rw[hr,if_neg hf]
  have:=ha 0 q (by omega)
  simp only[Nat.add_zero]at this
  simp only[d0D,c0D,this,n0J,k0o]
  rfl
theorem j0.getObj(r:Nat):j0 P F (Go.getObj r):=by
 intro w hw
 unfold J6
 have hr:∀w:World,(Go.getObj r).run P w=match w.heap[r]? with
  | some (.cells ..) => .halt (.stuck "getObj: a row of cells") w
  | some o=>.ok o w
  | none => .halt (.stuck "getObj: no such block") w := by
  intro w;simp only[Go.getObj,Sem.run]
  cases w.heap[r]? with
  | none=>rfl
  | some o=>cases o<;>rfl
 have he:∀(w:World) es,(Go.getObj r).events P w es=match w.heap[r]? with
  | some (.cells ..)=>es
  | some o=>es.push ⟨.obj r,false,o.isChan⟩
  | none=>es:=by
  intro w es;simp only[Sem.events,Go.getObj,Sem.runT]
  cases w.heap[r]? with
  | none=>rfl
  | some o=>cases o<;>rfl
 rw[hr,L4]
 cases ho:w.heap[r]? with
 | none=>trivial
 | some o=>
   cases o<;>simp only[Option.map_some,J3]
   case cells=>trivial
   all_goals
    refine⟨w,#[⟨.obj r,false,_⟩],0,rfl,by rw[hr,ho],fun es=>by rw[he,ho];exact Array.push_eq_append,fun e h=>?_,.refl _ _,hw,fun τ e _=>?_⟩
    ·simp only[List.mem_toArray,List.mem_singleton]at h;subst h;exact s0m _ _
    ·rw[hr,i7,L4]
     rw[show(retape w τ e).heap[r]? =w.heap[r]? from rfl,ho]
     rfl
end
section
open Go Go.Conc
variable{P:Program}{F:Fz}{α β:Type}
theorem a0o {P : Program} {F : Fz} {α : Type} {s : Sem α} (h : j0 P F s := by (repeat' (first
      | exact j0.pure' _ | exact j0.pure _ | exact j0.halt _ trivial
      | exact j0.load _ _ | exact j0.store _ _ _ | exact j0.newObj _ | exact j0.shape _ | exact j0.program | exact j0.choose _ | exact j0.getObj _ | exact j0.mark _ (.inl rfl)
      | assumption
      | with_reducible refine j0.bind ?_ (fun _ => ?_)
      | with_reducible refine j0.map ?_
      | with_reducible refine j0.ite (fun _ => ?_) (fun _ => ?_)
      | dsimp only
      | split))) : j0 P F s := h
theorem j0.stuck(s:String):j0 P F (Go.stuck s:Sem α):=j0.halt _ trivial
theorem j0.unsupported(u:Unsupported):j0 P F (Go.unsupported u:Sem α):=j0.halt _ trivial
theorem j0.goPanic(v:Value):j0 P F (Go.goPanic v:Sem α):=j0.halt _ trivial
theorem j0.underlying(t:TypeId):j0 P F (Go.underlying t):=by unfold Go.underlying Go.stuck;exact a0o
theorem j0.typeInfo(t:TypeId):j0 P F (Go.typeInfo t):=by unfold Go.typeInfo Go.stuck;exact a0o
theorem j0.zeroValue(t:TypeId):j0 P F (Go.zeroValue t):=by
 unfold Go.zeroValue Go.unsupported
 refine j0.bind (j0.typeInfo _) (fun _=>?_)
 exact a0o
theorem j0.sizeOf(t:TypeId):j0 P F (Go.sizeOf t):=by
 unfold Go.sizeOf
 refine j0.bind (j0.typeInfo _) (fun _=>?_)
 exact a0o
theorem j0.isAgg(t:TypeId):j0 P F (Go.isAgg t):=by
 unfold Go.isAgg
 refine j0.bind (j0.underlying _) (fun _=>?_)
 exact a0o
theorem j0.loadCellsFrom(a:Addr):∀(n i:Nat) (acc:Array Value),j0 P F (Go.loadCellsFrom a i n acc):=by
 intro n
 induction n with
 | zero=>intro i acc;exact j0.pure _
 | succ n ih=>intro i acc;unfold Go.loadCellsFrom;exact j0.bind (j0.load _ _) fun _=>ih _ _
theorem j0.loadCells(a:Addr)(n:Nat):j0 P F (Go.loadCells a n):=j0.loadCellsFrom _ _ _ _
theorem j0.storeCells(a:Addr):∀(vs:List Value) (i:Nat),j0 P F (Go.storeCells a vs i):=by
 intro vs
 induction vs with
 | nil=>intro i;exact j0.pure _
 | cons v vs ih=>intro i;unfold Go.storeCells;exact j0.bind (j0.store _ _ _) fun _=>ih _
theorem j0.loadVar(t:TypeId)(a:Addr):j0 P F (Go.loadVar t a):=by
 unfold Go.loadVar
 refine j0.bind (j0.isAgg _) (fun _=>?_)
 split
 ·exact j0.bind (j0.sizeOf _) fun _=>j0.bind (j0.loadCells _ _) fun _=>j0.pure' _
 ·exact j0.load _ _
theorem j0.storeVar(t:TypeId)(a:Addr)(v:Value):j0 P F (Go.storeVar t a v):=by
 unfold Go.storeVar
 refine j0.bind (j0.sizeOf _) (fun _=>?_)
 have:=fun i=>j0.storeCells (P:=P) (F:=F) a v.cells.toList i
 unfold Go.stuck
 split
 ·exact j0.bind (j0.halt _ trivial) fun _=>this _
 ·exact this _
theorem j0.newRow(t:TypeId)(cs:Array Value):j0 P F (Go.newRow t cs):=by
 unfold Go.newRow;exact a0o
theorem j0.newVar(t:TypeId)(v:Value):j0 P F (Go.newVar t v):=j0.newRow _ _
theorem j0.elemOf(t:TypeId):j0 P F (Go.elemOf t):=by
 unfold Go.elemOf Go.stuck
 refine j0.bind (j0.underlying _) (fun _=>?_)
 exact a0o
theorem j0.part(t:TypeId)(cs:Array Value)(off:Nat):j0 P F (Go.part t cs off):=by
 unfold Go.part Go.stuck
 refine j0.bind (j0.isAgg _) (fun _=>?_)
 split
 ·exact j0.bind (j0.sizeOf _) fun _=>j0.pure' _
 ·exact a0o
theorem j0.runtimePanic(e:RuntimeError):j0 P F (Go.runtimePanic e:Sem α):=by
 unfold Go.runtimePanic Go.goPanic
 refine j0.bind j0.program (fun p=>?_)
 have h1:=fun t=>j0.elemOf (P:=P) (F:=F) t
 have h2:=fun t v=>j0.newVar (P:=P) (F:=F) t v
 cases e<;>dsimp only<;>(repeat'(first|exact j0.halt _ trivial|exact h1 _|exact h2 _ _|with_reducible refine j0.bind ?_ (fun _=>?_)|split))
theorem j0.boundsPanic(k:IntKind)(x y:Int)(c:BoundsCode):j0 P F (Go.boundsPanic k x y c:Sem α):=by
 unfold Go.boundsPanic
 dsimp only
 split
 ·exact j0.bind (j0.map (j0.choose _)) fun _=>j0.runtimePanic _
 ·exact j0.bind (j0.pure' _) fun _=>j0.runtimePanic _
theorem j0.asIntOf(v:Value):j0 P F (Go.asIntOf v):=by unfold Go.asIntOf Go.stuck Go.unsupported;exact a0o
theorem j0.asInt(v:Value):j0 P F (Go.asInt v):=by unfold Go.asInt;exact j0.bind (j0.asIntOf _) fun _=>j0.pure' _
theorem j0.asBool(v:Value):j0 P F (Go.asBool v):=by unfold Go.asBool Go.stuck;exact a0o
theorem j0.asString(v:Value):j0 P F (Go.asString v):=by unfold Go.asString Go.stuck;exact a0o
theorem j0.asAgg(v:Value):j0 P F (Go.asAgg v):=by unfold Go.asAgg Go.stuck;exact a0o
theorem j0.asAddr(v:Value):j0 P F (Go.asAddr v):=by
 unfold Go.asAddr Go.stuck
 split<;>first|exact j0.pure' _|exact j0.runtimePanic _|exact j0.halt _ trivial
theorem j0.sureAddr(v:Value):j0 P F (Instr.sureAddr v):=by unfold Instr.sureAddr Go.stuck;exact a0o
theorem j0.viewAt(r:Nat):j0 P F (Go.viewAt r):=by unfold Go.viewAt;exact a0o
theorem j0.numberAt(r:Nat):j0 P F (Go.numberAt r):=by unfold Go.numberAt;exact a0o
theorem j0.cellsIn(r:Nat):j0 P F (Go.cellsIn r):=by unfold Go.cellsIn;exact a0o
theorem j0.asNumber(a:Addr)(l:Bool):j0 P F (Go.asNumber a l):=by unfold Go.asNumber;exact a0o
theorem j0.behindNumber(a:Addr):j0 P F (Go.behindNumber a):=by
 unfold Go.behindNumber;exact j0.bind (j0.numberAt _) fun _=>j0.pure' _
theorem j0.noView(a:Addr):j0 P F (Go.noView a):=by
 unfold Go.noView Go.unsupported
 refine j0.bind (j0.viewAt _) (fun _=>?_)
 exact a0o
theorem j0.byteOf(a:Addr):j0 P F (Go.byteOf a):=by
 unfold Go.byteOf Go.stuck
 have:=j0.noView (P:=P) (F:=F) a
 exact a0o
theorem j0.partAt(a:Addr)(c b:Nat):j0 P F (Go.partAt a c b):=by
 unfold Go.partAt
 refine j0.bind (j0.byteOf _) (fun _=>?_)
 dsimp only
 exact j0.bind (j0.byteOf _) fun _=>j0.pure' _
theorem j0.fieldPlace(a:Addr)(f:Field):j0 P F (Go.fieldPlace a f):=by
 unfold Go.fieldPlace
 refine j0.bind (j0.sizeOf _) (fun _=>?_)
 split
 ·exact j0.partAt _ _ _
 ·exact j0.pure' _
class SC (P:Program) (F:Fz) {α:Type} (m:Sem α):Prop where h:j0 P F m
instance(a:Addr)(m:Mode):SC P F (Go.load a m):=⟨j0.load _ _⟩
instance(a:Addr)(v:Value)(m:Mode):SC P F (Go.store a v m):=⟨j0.store _ _ _⟩
instance(o:Obj):SC P F (Go.newObj o):=⟨j0.newObj _⟩
instance(r:Nat):SC P F (Go.shape r):=⟨j0.shape _⟩
instance:SC P F Go.program:=⟨j0.program⟩
instance(q:Question):SC P F (Go.choose q):=⟨j0.choose _⟩
instance(r:Nat):SC P F (Go.getObj r):=⟨j0.getObj _⟩
instance(s:String):SC P F (Go.stuck s:Sem α):=⟨j0.stuck _⟩
instance(u:Unsupported):SC P F (Go.unsupported u:Sem α):=⟨j0.unsupported _⟩
instance(v:Value):SC P F (Go.goPanic v:Sem α):=⟨j0.goPanic _⟩
instance(e:RuntimeError):SC P F (Go.runtimePanic e:Sem α):=⟨j0.runtimePanic _⟩
instance(k:IntKind)(x y:Int)(c:BoundsCode):SC P F (Go.boundsPanic k x y c:Sem α):=⟨j0.boundsPanic _ _ _ _⟩
instance(t:TypeId):SC P F (Go.underlying t):=⟨j0.underlying _⟩
instance(t:TypeId):SC P F (Go.typeInfo t):=⟨j0.typeInfo _⟩
instance(t:TypeId):SC P F (Go.zeroValue t):=⟨j0.zeroValue _⟩
instance(t:TypeId):SC P F (Go.sizeOf t):=⟨j0.sizeOf _⟩
instance(t:TypeId):SC P F (Go.isAgg t):=⟨j0.isAgg _⟩
instance(t:TypeId):SC P F (Go.elemOf t):=⟨j0.elemOf _⟩
instance(a:Addr)(n:Nat):SC P F (Go.loadCells a n):=⟨j0.loadCells _ _⟩
instance(a:Addr)(vs:List Value)(i:Nat):SC P F (Go.storeCells a vs i):=⟨.storeCells a vs i⟩
instance(t:TypeId)(a:Addr):SC P F (Go.loadVar t a):=⟨j0.loadVar _ _⟩
instance(t:TypeId)(a:Addr)(v:Value):SC P F (Go.storeVar t a v):=⟨j0.storeVar _ _ _⟩
instance(t:TypeId)(cs:Array Value):SC P F (Go.newRow t cs):=⟨j0.newRow _ _⟩
instance(t:TypeId)(v:Value):SC P F (Go.newVar t v):=⟨j0.newVar _ _⟩
instance(t:TypeId)(cs:Array Value)(off:Nat):SC P F (Go.part t cs off):=⟨j0.part _ _ _⟩
instance(v:Value):SC P F (Go.asIntOf v):=⟨j0.asIntOf _⟩
instance(v:Value):SC P F (Go.asInt v):=⟨j0.asInt _⟩
instance(v:Value):SC P F (Go.asBool v):=⟨j0.asBool _⟩
instance(v:Value):SC P F (Go.asString v):=⟨j0.asString _⟩
instance(v:Value):SC P F (Go.asAgg v):=⟨j0.asAgg _⟩
instance(v:Value):SC P F (Go.asAddr v):=⟨j0.asAddr _⟩
instance(v:Value):SC P F (Instr.sureAddr v):=⟨j0.sureAddr _⟩
instance(r:Nat):SC P F (Go.viewAt r):=⟨j0.viewAt _⟩
instance(r:Nat):SC P F (Go.numberAt r):=⟨j0.numberAt _⟩
instance(r:Nat):SC P F (Go.cellsIn r):=⟨j0.cellsIn _⟩
instance(a:Addr)(l:Bool):SC P F (Go.asNumber a l):=⟨j0.asNumber _ _⟩
instance(a:Addr):SC P F (Go.behindNumber a):=⟨j0.behindNumber _⟩
instance(a:Addr):SC P F (Go.noView a):=⟨j0.noView _⟩
instance(a:Addr):SC P F (Go.byteOf a):=⟨j0.byteOf _⟩
instance(a:Addr)(c b:Nat):SC P F (Go.partAt a c b):=⟨j0.partAt _ _ _⟩
instance(a:Addr)(f:Field):SC P F (Go.fieldPlace a f):=⟨j0.fieldPlace _ _⟩
theorem F0x {α : Type} {s : Sem α} (h : j0 P F s := by (repeat' (first
      | exact j0.pure' _ | exact j0.pure _ | exact j0.halt _ trivial | exact SC.h
      | with_reducible exact j0.mark _ (.inl rfl)
      | assumption
      | with_reducible refine j0.bind ?_ (fun _ => ?_)
      | with_reducible refine j0.map ?_
      | with_reducible refine j0.ite (fun _ => ?_) (fun _ => ?_)
      | dsimp only
      | split))) : j0 P F s := h
end
section
open Go Go.Conc
variable{P:Program}{F:Fz}{α β γ:Type}
theorem j0.mapMList{f:α→Sem β}(hf:∀a,j0 P F (f a)):∀l:List α,j0 P F (l.mapM f):=by
 intro l
 induction l with
 | nil=>rw[List.mapM_nil];exact j0.pure' _
 | cons x l ih=>rw[List.mapM_cons];exact j0.bind (hf x) fun _=>j0.bind ih fun _=>j0.pure' _
theorem j0.mapMArray{f:α→Sem β}(hf:∀a,j0 P F (f a))(l:Array α):j0 P F (l.mapM f):=by
 rw[Array.mapM_eq_mapM_toList];exact j0.map (j0.mapMList hf _)
theorem j0.foldlMList{f:γ→α→Sem γ}(hf:∀c a,j0 P F (f c a)):∀(l:List α) (c:γ),j0 P F (l.foldlM f c):=by
 intro l
 induction l with
 | nil=>intro c;exact j0.pure' _
 | cons x l ih=>intro c;rw[List.foldlM_cons];exact j0.bind (hf c x) fun c'=>ih c'
theorem j0.alloc(e:TypeId)(v:Value):j0 P F (Instr.alloc e true v):=by
 unfold Instr.alloc;(repeat'(first
 | exact j0.pure' _|exact j0.pure _|exact j0.halt _ trivial|exact SC.h
 | (with_reducible first|exact j0.mark _ (.inl rfl))
 | assumption
 | with_reducible refine j0.bind ?_ (fun _=>?_)
 | with_reducible refine j0.map ?_
 | with_reducible refine j0.ite (fun _=>?_) (fun _=>?_)
 | dsimp only
 | split))
theorem j0.box(e:TypeId)(v:Value):j0 P F (Instr.box e v):=by
 unfold Instr.box;(repeat'(first
 | exact j0.pure' _|exact j0.pure _|exact j0.halt _ trivial|exact SC.h
 | (with_reducible first|exact j0.mark _ (.inl rfl))
 | assumption
 | with_reducible refine j0.bind ?_ (fun _=>?_)
 | with_reducible refine j0.map ?_
 | with_reducible refine j0.ite (fun _=>?_) (fun _=>?_)
 | dsimp only
 | split))
theorem j0.build(t:TypeId)(parts:Array (Nat×Value)):j0 P F (Instr.build t parts):=by
 unfold Instr.build
 refine j0.bind (j0.zeroValue _) (fun _=>?_)
 dsimp only
 refine j0.bind (j0.underlying _) (fun d=>?_)
 cases d<;>dsimp only<;>first
  | exact j0.stuck _
  | (refine j0.bind (j0.mapMArray (fun f=>j0.bind (j0.sizeOf _) fun _=>j0.pure' _) _) (fun _=>?_);(repeat'(first
 | exact j0.pure' _|exact j0.pure _|exact j0.halt _ trivial|exact SC.h
 | (with_reducible first|exact j0.mark _ (.inl rfl))
 | assumption
 | with_reducible refine j0.bind ?_ (fun _=>?_)
 | with_reducible refine j0.map ?_
 | with_reducible refine j0.ite (fun _=>?_) (fun _=>?_)
 | dsimp only
 | split));done)
   | ((repeat'(first
 | exact j0.pure' _|exact j0.pure _|exact j0.halt _ trivial|exact SC.h
 | (with_reducible first|exact j0.mark _ (.inl rfl))
 | assumption
 | with_reducible refine j0.bind ?_ (fun _=>?_)
 | with_reducible refine j0.map ?_
 | with_reducible refine j0.ite (fun _=>?_) (fun _=>?_)
 | dsimp only
 | split));done)
theorem j0.buildSlice(t:TypeId)(n:Nat)(parts:Array (Nat×Value)):j0 P F (Instr.buildSlice t n parts):=by
 unfold Instr.buildSlice;(repeat'(first
 | exact j0.pure' _|exact j0.pure _|exact j0.halt _ trivial|exact SC.h
 | (with_reducible first|exact j0.mark _ (.inl rfl))
 | assumption
 | with_reducible refine j0.bind ?_ (fun _=>?_)
 | with_reducible refine j0.map ?_
 | with_reducible refine j0.ite (fun _=>?_) (fun _=>?_)
 | dsimp only
 | split))
theorem j0.loadAt(t:TypeId)(v:Value):j0 P F (Instr.loadAt t v):=by
 unfold Instr.loadAt;(repeat'(first
 | exact j0.pure' _|exact j0.pure _|exact j0.halt _ trivial|exact SC.h
 | (with_reducible first|exact j0.mark _ (.inl rfl))
 | assumption
 | with_reducible refine j0.bind ?_ (fun _=>?_)
 | with_reducible refine j0.map ?_
 | with_reducible refine j0.ite (fun _=>?_) (fun _=>?_)
 | dsimp only
 | split))
theorem j0.storeAt(t:TypeId)(a v:Value):j0 P F (Instr.storeAt t a v):=by
 unfold Instr.storeAt;(repeat'(first
 | exact j0.pure' _|exact j0.pure _|exact j0.halt _ trivial|exact SC.h
 | (with_reducible first|exact j0.mark _ (.inl rfl))
 | assumption
 | with_reducible refine j0.bind ?_ (fun _=>?_)
 | with_reducible refine j0.map ?_
 | with_reducible refine j0.ite (fun _=>?_) (fun _=>?_)
 | dsimp only
 | split))
theorem j0.makeInterface(t:TypeId)(v:Value):j0 P F (Instr.makeInterface t v):=by
 unfold Instr.makeInterface;(repeat'(first
 | exact j0.pure' _|exact j0.pure _|exact j0.halt _ trivial|exact SC.h
 | (with_reducible first|exact j0.mark _ (.inl rfl))
 | assumption
 | with_reducible refine j0.bind ?_ (fun _=>?_)
 | with_reducible refine j0.map ?_
 | with_reducible refine j0.ite (fun _=>?_) (fun _=>?_)
 | dsimp only
 | split))
theorem j0.makeFunc(f:Fn)(a b:Array Value):j0 P F (Instr.makeFunc f a b):=j0.pure' _
theorem j0.askRoom(n:Nat):j0 P F (Go.askRoom n):=by
 unfold Go.askRoom;(repeat'(first
 | exact j0.pure' _|exact j0.pure _|exact j0.halt _ trivial|exact SC.h
 | (with_reducible first|exact j0.mark _ (.inl rfl))
 | assumption
 | with_reducible refine j0.bind ?_ (fun _=>?_)
 | with_reducible refine j0.map ?_
 | with_reducible refine j0.ite (fun _=>?_) (fun _=>?_)
 | dsimp only
 | split))
theorem j0.makeSlice(t:TypeId)(l c:Value):j0 P F (Instr.makeSlice t l c):=by
 unfold Instr.makeSlice
 have:=fun n=>j0.askRoom (P:=P) (F:=F) n
 refine j0.bind (j0.underlying _) (fun d=>?_)
 cases d<;>dsimp only<;>first
  | exact j0.stuck _
  | skip
 iterate 2 refine j0.bind (j0.asInt _) (fun _=>?_)
 refine j0.bind (j0.typeInfo _) (fun _=>?_)
 (repeat'(first
 | exact j0.pure' _|exact j0.pure _|exact j0.halt _ trivial|exact SC.h
 | (with_reducible first|exact j0.mark _ (.inl rfl))
 | assumption
 | with_reducible refine j0.bind ?_ (fun _=>?_)
 | with_reducible refine j0.map ?_
 | with_reducible refine j0.ite (fun _=>?_) (fun _=>?_)
 | dsimp only
 | split))
 all_goals exact this _
theorem j0.sliceBound(v:Value)(y:Nat)(c:BoundsCode):j0 P F (Instr.sliceBound v y c):=by
 unfold Instr.sliceBound;(repeat'(first
 | exact j0.pure' _|exact j0.pure _|exact j0.halt _ trivial|exact SC.h
 | (with_reducible first|exact j0.mark _ (.inl rfl))
 | assumption
 | with_reducible refine j0.bind ?_ (fun _=>?_)
 | with_reducible refine j0.map ?_
 | with_reducible refine j0.ite (fun _=>?_) (fun _=>?_)
 | dsimp only
 | split))
theorem j0.sliceBounds(b:Bool)(l c:Nat)(x y z:Option Value):j0 P F (Instr.sliceBounds b l c x y z):=by
 unfold Instr.sliceBounds
 have:=fun v y c=>j0.sliceBound (P:=P) (F:=F) v y c
 (repeat'(first
 | exact j0.pure' _|exact j0.pure _|exact j0.halt _ trivial|exact SC.h
 | (with_reducible first|exact j0.mark _ (.inl rfl))
 | assumption
 | with_reducible refine j0.bind ?_ (fun _=>?_)
 | with_reducible refine j0.map ?_
 | with_reducible refine j0.ite (fun _=>?_) (fun _=>?_)
 | dsimp only
 | split))
 all_goals exact this _ _ _
theorem j0.slice(t:TypeId)(v:Value)(x y z:Option Value):j0 P F (Instr.slice t v x y z):=by
 unfold Instr.slice
 have hb:=fun b l c x y z=>j0.sliceBounds (P:=P) (F:=F) b l c x y z
 refine j0.bind (j0.underlying _) (fun d=>?_)
 (repeat'(first
 | exact j0.pure' _|exact j0.pure _|exact j0.halt _ trivial|exact SC.h
 | (with_reducible first|exact j0.mark _ (.inl rfl))
 | assumption
 | with_reducible refine j0.bind ?_ (fun _=>?_)
 | with_reducible refine j0.map ?_
 | with_reducible refine j0.ite (fun _=>?_) (fun _=>?_)
 | dsimp only
 | split))
 all_goals exact hb _ _ _ _ _ _
theorem j0.sliceAt(t:TypeId)(v:Value)(x y z:Option Value):j0 P F (Instr.sliceAt t v x y z):=by
 unfold Instr.sliceAt
 have hb:=fun b l c x y z=>j0.sliceBounds (P:=P) (F:=F) b l c x y z
 refine j0.bind (j0.underlying _) (fun d=>?_)
 cases d<;>dsimp only<;>first
  | exact j0.slice _ _ _ _ _
  | (refine j0.bind (j0.sureAddr _) (fun _=>j0.bind (hb _ _ _ _ _ _) fun _=>j0.bind (j0.sizeOf _) fun _=>j0.pure' _))
theorem j0.fieldAt(t:TypeId)(v:Value)(n:Nat):j0 P F (Instr.fieldAt t v n):=by
 unfold Instr.fieldAt;(repeat'(first
 | exact j0.pure' _|exact j0.pure _|exact j0.halt _ trivial|exact SC.h
 | (with_reducible first|exact j0.mark _ (.inl rfl))
 | assumption
 | with_reducible refine j0.bind ?_ (fun _=>?_)
 | with_reducible refine j0.map ?_
 | with_reducible refine j0.ite (fun _=>?_) (fun _=>?_)
 | dsimp only
 | split))
theorem j0.field(t:TypeId)(v:Value)(n:Nat):j0 P F (Instr.field t v n):=by
 unfold Instr.field;(repeat'(first
 | exact j0.pure' _|exact j0.pure _|exact j0.halt _ trivial|exact SC.h
 | (with_reducible first|exact j0.mark _ (.inl rfl))
 | assumption
 | with_reducible refine j0.bind ?_ (fun _=>?_)
 | with_reducible refine j0.map ?_
 | with_reducible refine j0.ite (fun _=>?_) (fun _=>?_)
 | dsimp only
 | split))
theorem j0.indexAt(t:TypeId)(v i:Value):j0 P F (Instr.indexAt t v i):=by
 unfold Instr.indexAt;(repeat'(first
 | exact j0.pure' _|exact j0.pure _|exact j0.halt _ trivial|exact SC.h
 | (with_reducible first|exact j0.mark _ (.inl rfl))
 | assumption
 | with_reducible refine j0.bind ?_ (fun _=>?_)
 | with_reducible refine j0.map ?_
 | with_reducible refine j0.ite (fun _=>?_) (fun _=>?_)
 | dsimp only
 | split))
theorem j0.index(t:TypeId)(v i:Value):j0 P F (Instr.index t v i):=by
 unfold Instr.index;(repeat'(first
 | exact j0.pure' _|exact j0.pure _|exact j0.halt _ trivial|exact SC.h
 | (with_reducible first|exact j0.mark _ (.inl rfl))
 | assumption
 | with_reducible refine j0.bind ?_ (fun _=>?_)
 | with_reducible refine j0.map ?_
 | with_reducible refine j0.ite (fun _=>?_) (fun _=>?_)
 | dsimp only
 | split))
theorem j0.extract(v:Value)(n:Nat):j0 P F (Instr.extract v n):=by
 unfold Instr.extract;(repeat'(first
 | exact j0.pure' _|exact j0.pure _|exact j0.halt _ trivial|exact SC.h
 | (with_reducible first|exact j0.mark _ (.inl rfl))
 | assumption
 | with_reducible refine j0.bind ?_ (fun _=>?_)
 | with_reducible refine j0.map ?_
 | with_reducible refine j0.ite (fun _=>?_) (fun _=>?_)
 | dsimp only
 | split))
end
section
open Go Go.Conc
variable{P:Program}{F:Fz}{α β γ:Type}
def O2(P:Program)(s:Sem α):Prop:=∀w h u,s.run P w= .halt h u→m0W h
def d0Q(P:Program)(s:Sem α):Prop:=∀w,∃h u,s.run P w= .halt h u∧m0W h
theorem O2.pure(a:α):O2 P (Pure.pure a:Sem α):=by intro w h u e;cases e
theorem O2.frozen(a:Addr):O2 P (Go.frozen a):=by intro w h u e;cases e
theorem O2.shape(r:Nat):O2 P (Go.shape r):=by intro w h u e;cases e
theorem O2.mark(m:Mark):O2 P (Go.mark m):=by intro w h u e;cases e
theorem O2.bind{s:Sem α}{f:α→Sem β}(hs:O2 P s)(hf:∀a,O2 P (f a)):O2 P (s >>= f):=by
 intro w h u e
 rw[Sem.run_bind]at e
 cases hr:s.run P w with
 | ok a w'=>rw[hr]at e;exact hf a w' h u e
 | halt h' w'=>rw[hr]at e;cases e;exact hs w h u hr
theorem d0Q.bind{s:Sem α}{f:α→Sem β}(hs:O2 P s)(hf:∀a,d0Q P (f a)):d0Q P (s >>= f):=by
 intro w
 rw[Sem.run_bind]
 cases hr:s.run P w with
 | ok a w'=>exact hf a w'
 | halt h' w'=>exact⟨h',w',rfl,hs w h' w' hr⟩
theorem d0Q.unsupported(u:Unsupported):d0Q P (Go.unsupported u:Sem α):=fun w=>⟨_,w,rfl,trivial⟩
theorem j0.of_dead{s:Sem α}(h:d0Q P s):j0 P F s:=by
 intro w hw
 obtain⟨h',u,hr,hf⟩:=h (L1 F w)
 unfold J6
 rw[hr];exact hf
theorem p6(hF:∀r,F r=none)(w:World):L1 F w=w:=by
 have e:∀r o,J3 F r o=o:=by intro r o;cases o<;>simp[J3,hF]
 have:w.heap.mapIdx (J3 F)=w.heap:=by
  apply Array.ext_getElem?
  intro i
  simp only[Array.getElem?_mapIdx,show J3 F i=id from funext (e i),Option.map_id,id]
 unfold L1;rw[this]
theorem j0.frozen(hF:∀r,F r=none)(a:Addr):j0 P F (Go.frozen a):=by
 intro w hw
 unfold J6
 rw[p6 hF]
 exact⟨w,#[],0,(p6 hF w).symm,rfl,fun es=>by simp[Sem.events,Go.frozen,Sem.runT],by simp,.refl _ _,hw,fun τ e _=>rfl⟩
def g0O(P:Program)(F:Fz)(s:Sem Bool):Prop:=∀w,Wf F w→(∃u,s.run P (L1 F w)= .ok true u)∨J6 P F s w
theorem g0O.frozen(a:Addr):g0O P F (Go.frozen a):=by
 intro w hw
 cases hz:(L1 F w).frozen? a with
 | true=>exact .inl ⟨L1 F w,by show Result.ok _ _=_;rw[hz]⟩
 | false=>
   right
   obtain⟨h1,_⟩:=d0u F w a hw hz
   have hr:∀w:World,(Go.frozen a).run P w= .ok (w.frozen? a) w:=fun _=>rfl
   unfold J6
   rw[hr,hz]
   refine⟨w,#[],0,rfl,by rw[hr,h1],fun es=>by simp[Sem.events,Go.frozen,Sem.runT],by simp,.refl _ _,hw,fun τ e _=>?_⟩
   rw[hr]
   rw[show(retape (L1 F w) τ e).frozen? a=(L1 F w).frozen? a from rfl,hz]
   rfl
theorem g0O.bind{s:Sem α}{f:α→Sem Bool}(hs:j0 P F s)(hf:∀a,g0O P F (f a)):g0O P F (s >>= f):=by
 intro w hw
 have h1:=hs w hw
 cases hr:s.run P (L1 F w)with
 | halt h u=>
   right
   unfold J6 at h1 ⊢
   rw[Sem.run_bind,hr]
   rw[hr]at h1
   exact h1
 | ok a u=>
   obtain⟨w1,es1,j1,rfl,r1,e1,t1,g1,hw1,l1⟩:=h1.ok hr
   rcases hf a w1 hw1 with⟨u,h2⟩|h2
   ·exact .inl ⟨u,by rw[Sem.run_bind,hr];exact h2⟩
   ·right
    unfold J6 at h2 ⊢
    rw[Sem.run_bind,hr]
    simp only[Result.andThen_ok]
    cases hr2:(f a).run P (L1 F w1)with
    | halt h u=>rw[hr2]at h2;exact h2
    | ok b u=>
      rw[hr2]at h2
      obtain⟨w2,es2,j2,rfl,r2,e2,t2,g2,hw2,l2⟩:=h2
      refine⟨w2,es1++es2,j1+j2,rfl,by rw[Sem.run_bind,r1];exact r2,fun es₀=>?_,?_,g1.trans g2,hw2,fun τ e ha=>?_⟩
      ·rw[Sem.events_bind,r1,e1];simp only[Result.evThen_ok];rw[e2,Array.append_assoc]
      ·intro x hx
       rcases Array.mem_append.1 hx with h|h
       ·exact t1 x h
       ·exact t2 x h
      ·rw[Sem.run_bind,l1 τ e (fun i q hi=>ha i q (by omega))]
       simp only[Result.andThen_ok]
       rw[l2 τ (e+j1) (fun i q hi=>?_)]
       ·rw[Nat.add_assoc]
       ·have:=ha (j1+i) q (by omega)
        rw[g1.tape,g1.drawn,Nat.add_assoc,Nat.add_assoc]
        exact this
theorem g0O.guard{s:Sem Bool}{f:Bool→Sem α}(hs:g0O P F s)(hd:d0Q P (f true))(hf:j0 P F (f false)):j0 P F (s >>= f):=by
 intro w hw
 rcases hs w hw with⟨u,h⟩|h
 ·unfold J6
  rw[Sem.run_bind,h]
  simp only[Result.andThen_ok]
  obtain⟨h',u',hr,hfine⟩:=hd u
  rw[hr];exact hfine
 ·have h1:∀b,j0 P F (f b):=by intro b;cases b;exact hf;exact j0.of_dead hd
  have hb:=h
  unfold J6 at h ⊢
  rw[Sem.run_bind]
  cases hr:s.run P (L1 F w)with
  | halt h' u=>rw[hr]at h;exact h
  | ok a u=>
    rw[hr]at h
    obtain⟨w1,es1,j1,rfl,r1,e1,t1,g1,hw1,l1⟩:=h
    simp only[Result.andThen_ok]
    have h2:=h1 a w1 hw1
    unfold J6 at h2
    cases hr2:(f a).run P (L1 F w1)with
    | halt h u=>rw[hr2]at h2;exact h2
    | ok b u=>
      rw[hr2]at h2
      obtain⟨w2,es2,j2,rfl,r2,e2,t2,g2,hw2,l2⟩:=h2
      refine⟨w2,es1++es2,j1+j2,rfl,by rw[Sem.run_bind,r1];exact r2,fun es₀=>?_,?_,g1.trans g2,hw2,fun τ e ha=>?_⟩
      ·rw[Sem.events_bind,r1,e1];simp only[Result.evThen_ok];rw[e2,Array.append_assoc]
      ·intro x hx
       rcases Array.mem_append.1 hx with h|h
       ·exact t1 x h
       ·exact t2 x h
      ·rw[Sem.run_bind,l1 τ e (fun i q hi=>ha i q (by omega))]
       simp only[Result.andThen_ok]
       rw[l2 τ (e+j1) (fun i q hi=>?_)]
       ·rw[Nat.add_assoc]
       ·have:=ha (j1+i) q (by omega)
        rw[g1.tape,g1.drawn,Nat.add_assoc,Nat.add_assoc]
        exact this
theorem j0.stringish(hF:∀r,F r=none)(a:Addr):j0 P F (Go.stringish a):=by
 unfold Go.stringish
 have:=fun x=>j0.frozen (P:=P) (F:=F) hF x
 refine j0.bind (this _) fun _=>?_
 split
 ·exact j0.pure' _
 ·refine j0.bind (j0.shape _) fun _=>?_
  split<;>first|exact this _|exact j0.pure' _
theorem j0.mayBeOne(hF:∀r,F r=none)(a b:Addr):j0 P F (Go.mayBeOne a b):=by
 unfold Go.mayBeOne
 refine j0.bind (j0.stringish hF _) fun _=>j0.bind (j0.stringish hF _) fun _=>?_
 (repeat'(first
 | exact j0.pure' _|exact j0.pure _|exact j0.halt _ trivial|exact SC.h
 | (with_reducible first|exact j0.mark _ (.inl rfl))
 | assumption
 | with_reducible refine j0.bind ?_ (fun _=>?_)
 | with_reducible refine j0.map ?_
 | with_reducible refine j0.ite (fun _=>?_) (fun _=>?_)
 | dsimp only
 | split))
theorem j0.sameAddr(hF:∀r,F r=none)(a b:Addr):j0 P F (Go.sameAddr a b):=by
 unfold Go.sameAddr
 have h1:=fun x=>j0.frozen (P:=P) (F:=F) hF x
 have h2:=j0.mayBeOne (P:=P) hF a b
 dsimp only
 split
 ·exact j0.pure' _
 ·refine j0.bind (h1 _) fun _=>j0.bind (h1 _) fun _=>?_
  (repeat'(first
 | exact j0.pure' _|exact j0.pure _|exact j0.halt _ trivial|exact SC.h
 | (with_reducible first|exact j0.mark _ (.inl rfl))
 | assumption
 | with_reducible refine j0.bind ?_ (fun _=>?_)
 | with_reducible refine j0.map ?_
 | with_reducible refine j0.ite (fun _=>?_) (fun _=>?_)
 | dsimp only
 | split))
theorem j0.samePointer(hF:∀r,F r=none)(a b:Option Addr):j0 P F (Go.samePointer a b):=by
 unfold Go.samePointer
 split
 ·exact j0.sameAddr hF _ _
 ·exact j0.pure' _
end
section
open Go Go.Conc
variable{P:Program}{F:Fz}{α β γ:Type}
theorem j0.congr{s s':Sem α}(hr:∀w,s.run P w=s'.run P w)(he:∀w es,s.events P w es=s'.events P w es)(h:j0 P F s'):j0 P F s:=by
 intro w hw
 have h1:=h w hw
 unfold J6 at h1 ⊢
 rw[hr]
 cases hc:s'.run P (L1 F w)with
 | halt h u=>rw[hc]at h1;exact h1
 | ok v u=>
   rw[hc]at h1
   obtain⟨w',es,j,h2,h3,h4,h5,h6,h7,h8⟩:=h1
   exact⟨w',es,j,h2,by rw[hr];exact h3,fun e=>by rw[he];exact h4 e,h5,h6,h7,fun τ e ha=>by rw[hr];exact h8 τ e ha⟩
theorem j0.bindUnderlying{t:TypeId}{d:TypeDesc}{f:TypeDesc→Sem β}(h:P.underlying t=some d)(hf:j0 P F (f d)):j0 P F (Go.underlying t >>= f):=by
 have hr:∀w,(Go.underlying t).run P w= .ok d w:=by
  intro w;simp[Go.underlying,Go.program,Sem.run,h]
 have he:∀w es,(Go.underlying t).events P w es=es:=by
  intro w es
  have : Go.underlying t = Sem.program (fun p => (match p.underlying t with | some d => Sem.pure d | none => Go.stuck "no such type" : Sem TypeDesc)) := rfl
  rw[this];simp only[Sem.events,Sem.runT,h]
 exact j0.congr (s':=f d) (fun w=>by rw[Sem.run_bind,hr];rfl) (fun w es=>by rw[Sem.events_bind,hr];simp only[Result.evThen_ok];rw[he]) hf
def okd(px:Bool):TypeDesc→Bool
 | .bool| .int _| .float _| .complex _| .string| .chan _ _| .slice _| .map _ _| .func _ _ _=>true
 | .pointer _| .unsafePointer=>px
 | _=>false
def eqType(P:Program)(px:Bool)(t:TypeId):Bool:=((P.underlying t).map (okd px)).getD false
def nilOperand:Operand→Bool
 | .const (.pointer none)| .const .nilIface=>true
 | _=>false
def B0v:TypeDesc→Bool
 | .pointer _| .unsafePointer| .interface _=>true
 | _=>false
def g08(P:Program)(t:TypeId):Bool:=((P.underlying t).map B0v).getD false
theorem j0.equal (px : Bool) (hpx : px = true → ∀ r, F r = none) (t : TypeId) (x y : Value) (h : eqType P px t = true) : j0 P F (Op.equal t x y) := by
  unfold Op.equal Op.maxDepth
  rw [show (10000 : Nat) = 9999 + 1 from rfl]
  unfold Op.equalIn
  unfold eqType at h
  cases hd : P.underlying t with
  | none => rw [hd] at h; cases h
  | some d =>
    rw [hd] at h
    simp only [Option.map_some, Option.getD_some] at h
    refine j0.bindUnderlying hd ?_
    have hsa : (px = true) → ∀ a b, j0 P F (Go.sameAddr a b) := fun hp a b => j0.sameAddr (hpx hp) a b
    have hsp : (px = true) → ∀ a b, j0 P F (Go.samePointer a b) := fun hp a b => j0.samePointer (hpx hp) a b
    clear hd
    split
    all_goals first
      | exact j0.pure' _
      | exact j0.stuck _
      | exact j0.unsupported _
      | (exfalso; simp [okd] at h; done)
      | exact hsp h _ _
      | (refine j0.bind (j0.sizeOf _) fun _ => ?_
         split
         · exact hsa h _ _
         · split
           · exact j0.pure' _
           · exact j0.bind (j0.choose _) fun _ => j0.pure' _)
      | ((repeat' (first
  | exact j0.pure' _ | exact j0.pure _ | exact j0.halt _ trivial | exact SC.h
  | (with_reducible first | exact j0.mark _ (.inl rfl))
  | assumption
  | with_reducible refine j0.bind ?_ (fun _ => ?_)
  | with_reducible refine j0.map ?_
  | with_reducible refine j0.ite (fun _ => ?_) (fun _ => ?_)
  | dsimp only
  | split)); done)
      | skip
theorem j0.equalNil (t : TypeId) (x y : Value) (h : g08 P t = true) (hn : (y = .pointer none ∨ y = .nilIface) ∨ (x = .pointer none ∨ x = .nilIface)) : j0 P F (Op.equal t x y) := by
  unfold Op.equal Op.maxDepth
  rw [show (10000 : Nat) = 9999 + 1 from rfl]
  unfold Op.equalIn
  unfold g08 at h
  cases hd : P.underlying t with
  | none => rw [hd] at h; cases h
  | some d =>
    rw [hd] at h
    simp only [Option.map_some, Option.getD_some] at h
    refine j0.bindUnderlying hd ?_
    clear hd
    split
    all_goals first
      | exact j0.pure' _
      | exact j0.stuck _
      | exact j0.unsupported _
      | (exfalso; simp [B0v] at h; done)
      | (exfalso; simp at hn; done)
      | (unfold Go.samePointer; split <;> first | exact j0.pure' _ | (exfalso; simp at hn; done))
      | ((repeat' (first
  | exact j0.pure' _ | exact j0.pure _ | exact j0.halt _ trivial | exact SC.h
  | (with_reducible first | exact j0.mark _ (.inl rfl))
  | assumption
  | with_reducible refine j0.bind ?_ (fun _ => ?_)
  | with_reducible refine j0.map ?_
  | with_reducible refine j0.ite (fun _ => ?_) (fun _ => ?_)
  | dsimp only
  | split)); done)
      | skip
end
section
open Go Go.Conc
variable{P:Program}{F:Fz}{α β γ:Type}
def x0s:BinOp→Bool
 | .eql| .neq=>true
 | _=>false
theorem j0.intArith(op:BinOp)(k:IntKind)(x y:Int):j0 P F (Op.intArith op k x y):=by unfold Op.intArith;(repeat'(first
 | exact j0.pure' _|exact j0.pure _|exact j0.halt _ trivial|exact SC.h
 | (with_reducible first|exact j0.mark _ (.inl rfl))
 | assumption
 | with_reducible refine j0.bind ?_ (fun _=>?_)
 | with_reducible refine j0.map ?_
 | with_reducible refine j0.ite (fun _=>?_) (fun _=>?_)
 | dsimp only
 | split))
theorem j0.intDiv(op:BinOp)(k:IntKind)(x y:Int):j0 P F (Op.intDiv op k x y):=by unfold Op.intDiv;(repeat'(first
 | exact j0.pure' _|exact j0.pure _|exact j0.halt _ trivial|exact SC.h
 | (with_reducible first|exact j0.mark _ (.inl rfl))
 | assumption
 | with_reducible refine j0.bind ?_ (fun _=>?_)
 | with_reducible refine j0.map ?_
 | with_reducible refine j0.ite (fun _=>?_) (fun _=>?_)
 | dsimp only
 | split))
theorem j0.intBits(op:BinOp)(k:IntKind)(x y:Int):j0 P F (Op.intBits op k x y):=by unfold Op.intBits;(repeat'(first
 | exact j0.pure' _|exact j0.pure _|exact j0.halt _ trivial|exact SC.h
 | (with_reducible first|exact j0.mark _ (.inl rfl))
 | assumption
 | with_reducible refine j0.bind ?_ (fun _=>?_)
 | with_reducible refine j0.map ?_
 | with_reducible refine j0.ite (fun _=>?_) (fun _=>?_)
 | dsimp only
 | split))
theorem j0.shift(op:BinOp)(k:IntKind)(x:Int)(k':IntKind)(y:Int):j0 P F (Op.shift op k x k' y):=by unfold Op.shift;(repeat'(first
 | exact j0.pure' _|exact j0.pure _|exact j0.halt _ trivial|exact SC.h
 | (with_reducible first|exact j0.mark _ (.inl rfl))
 | assumption
 | with_reducible refine j0.bind ?_ (fun _=>?_)
 | with_reducible refine j0.map ?_
 | with_reducible refine j0.ite (fun _=>?_) (fun _=>?_)
 | dsimp only
 | split))
theorem j0.intCmp(op:BinOp)(x y:Int):j0 P F (Op.intCmp op x y):=by unfold Op.intCmp;(repeat'(first
 | exact j0.pure' _|exact j0.pure _|exact j0.halt _ trivial|exact SC.h
 | (with_reducible first|exact j0.mark _ (.inl rfl))
 | assumption
 | with_reducible refine j0.bind ?_ (fun _=>?_)
 | with_reducible refine j0.map ?_
 | with_reducible refine j0.ite (fun _=>?_) (fun _=>?_)
 | dsimp only
 | split))
theorem j0.floatArith(op:BinOp)(k:FloatKind)(x y:Nat):j0 P F (Op.floatArith op k x y):=by unfold Op.floatArith;(repeat'(first
 | exact j0.pure' _|exact j0.pure _|exact j0.halt _ trivial|exact SC.h
 | (with_reducible first|exact j0.mark _ (.inl rfl))
 | assumption
 | with_reducible refine j0.bind ?_ (fun _=>?_)
 | with_reducible refine j0.map ?_
 | with_reducible refine j0.ite (fun _=>?_) (fun _=>?_)
 | dsimp only
 | split))
theorem j0.floatCmp(op:BinOp)(k:FloatKind)(x y:Nat):j0 P F (Op.floatCmp op k x y):=by unfold Op.floatCmp;(repeat'(first
 | exact j0.pure' _|exact j0.pure _|exact j0.halt _ trivial|exact SC.h
 | (with_reducible first|exact j0.mark _ (.inl rfl))
 | assumption
 | with_reducible refine j0.bind ?_ (fun _=>?_)
 | with_reducible refine j0.map ?_
 | with_reducible refine j0.ite (fun _=>?_) (fun _=>?_)
 | dsimp only
 | split))
theorem j0.stringOp(op:BinOp)(x y:ByteArray):j0 P F (Op.stringOp op x y):=by unfold Op.stringOp;(repeat'(first
 | exact j0.pure' _|exact j0.pure _|exact j0.halt _ trivial|exact SC.h
 | (with_reducible first|exact j0.mark _ (.inl rfl))
 | assumption
 | with_reducible refine j0.bind ?_ (fun _=>?_)
 | with_reducible refine j0.map ?_
 | with_reducible refine j0.ite (fun _=>?_) (fun _=>?_)
 | dsimp only
 | split))
theorem j0.f2f(s:FloatKind)(b:Nat)(d:FloatKind):j0 P F (Conv.floatToFloat s b d):=by unfold Conv.floatToFloat;(repeat'(first
 | exact j0.pure' _|exact j0.pure _|exact j0.halt _ trivial|exact SC.h
 | (with_reducible first|exact j0.mark _ (.inl rfl))
 | assumption
 | with_reducible refine j0.bind ?_ (fun _=>?_)
 | with_reducible refine j0.map ?_
 | with_reducible refine j0.ite (fun _=>?_) (fun _=>?_)
 | dsimp only
 | split))
theorem j0.carith(op:BinOp)(k:FloatKind)(x y:Nat):j0 P F (Op.Complex.arith op k x y):=by
 unfold Op.Complex.arith
 refine j0.bind (j0.floatArith _ _ _ _) fun _=>?_
 (repeat'(first
 | exact j0.pure' _|exact j0.pure _|exact j0.halt _ trivial|exact SC.h
 | (with_reducible first|exact j0.mark _ (.inl rfl))
 | assumption
 | with_reducible refine j0.bind ?_ (fun _=>?_)
 | with_reducible refine j0.map ?_
 | with_reducible refine j0.ite (fun _=>?_) (fun _=>?_)
 | dsimp only
 | split))
theorem j0.ccmp(op:BinOp)(k:FloatKind)(x y:Nat):j0 P F (Op.Complex.cmp op k x y):=by
 unfold Op.Complex.cmp
 exact j0.bind (j0.floatCmp _ _ _ _) fun _=>j0.asBool _
theorem j0.cconv(s:FloatKind)(x:Nat)(d:FloatKind):j0 P F (Op.Complex.conv s x d):=by
 unfold Op.Complex.conv
 split
 ·exact j0.pure' _
 ·refine j0.bind (j0.f2f _ _ _) fun _=>?_
  (repeat'(first
 | exact j0.pure' _|exact j0.pure _|exact j0.halt _ trivial|exact SC.h
 | (with_reducible first|exact j0.mark _ (.inl rfl))
 | assumption
 | with_reducible refine j0.bind ?_ (fun _=>?_)
 | with_reducible refine j0.map ?_
 | with_reducible refine j0.ite (fun _=>?_) (fun _=>?_)
 | dsimp only
 | split))
theorem j0.cproduct(a b c d:Nat):j0 P F (Op.Complex.product a b c d):=by
 unfold Op.Complex.product Op.Complex.sub Op.Complex.mul Op.Complex.add
 have:=fun op k x y=>j0.carith (P:=P) (F:=F) op k x y
 (repeat'(first|exact this _ _ _ _|exact j0.pure' _|with_reducible refine j0.bind ?_ (fun _=>?_)))
theorem j0.ccorrected(s a b c d:Nat):j0 P F (Op.Complex.corrected s a b c d):=by
 unfold Op.Complex.corrected Op.Complex.sub Op.Complex.mul Op.Complex.add
 have:=fun op k x y=>j0.carith (P:=P) (F:=F) op k x y
 (repeat'(first|exact this _ _ _ _|exact j0.pure' _|with_reducible refine j0.bind ?_ (fun _=>?_)))
theorem j0.cquotient(a b c d:Nat):j0 P F (Op.Complex.quotient a b c d):=by
 unfold Op.Complex.quotient Op.Complex.quo Op.Complex.sub Op.Complex.mul Op.Complex.add
 generalize Op.Complex.inf=inf
 (repeat'(first|with_reducible exact j0.carith _ _ _ _|with_reducible exact j0.ccmp _ _ _ _|with_reducible exact j0.ccorrected _ _ _ _ _|with_reducible exact j0.pure' _|with_reducible refine j0.bind ?_ (fun _=>?_)|with_reducible refine j0.ite (fun _=>?_) (fun _=>?_)|dsimp only))
theorem j0.complexOp(op:BinOp)(k:FloatKind)(a b c d:Nat):j0 P F (Op.complexOp op k a b c d):=by
 unfold Op.complexOp
 have h1:=fun op k x y=>j0.carith (P:=P) (F:=F) op k x y
 have h2:=fun op k x y=>j0.ccmp (P:=P) (F:=F) op k x y
 have h3:=fun a b c d=>j0.cproduct (P:=P) (F:=F) a b c d
 have h4:=fun a b c d=>j0.cquotient (P:=P) (F:=F) a b c d
 have h5:=fun s x d=>j0.cconv (P:=P) (F:=F) s x d
 split
 all_goals(repeat'(first|with_reducible exact h1 _ _ _ _|with_reducible exact h2 _ _ _ _|with_reducible exact h3 _ _ _ _|with_reducible exact h4 _ _ _ _|with_reducible exact h5 _ _ _|with_reducible exact j0.pure' _|with_reducible exact j0.stuck _|with_reducible refine j0.bind ?_ (fun _=>?_)|with_reducible refine j0.ite (fun _=>?_) (fun _=>?_)|dsimp only))
theorem j0.unsafeAdd(a:Array TypeId)(t:TypeId)(x:Array Value):j0 P F (Builtin.unsafeAdd_ a t x):=by
 unfold Builtin.unsafeAdd_
 rcases x with⟨_|⟨v,_|⟨u,_|⟨_,_⟩⟩⟩⟩
 ·exact j0.stuck _
 ·cases v<;>exact j0.stuck _
 ·cases v<;>first|exact j0.stuck _|skip
  dsimp only
  refine j0.bind (j0.asInt _) fun _=>?_
  (repeat'(first
 | exact j0.pure' _|exact j0.pure _|exact j0.halt _ trivial|exact SC.h
 | (with_reducible first|exact j0.mark _ (.inl rfl))
 | assumption
 | with_reducible refine j0.bind ?_ (fun _=>?_)
 | with_reducible refine j0.map ?_
 | with_reducible refine j0.ite (fun _=>?_) (fun _=>?_)
 | dsimp only
 | split))
 ·cases v<;>exact j0.stuck _
theorem j0.movedNumber(t:TypeId)(x y:Value):j0 P F (Go.movedNumber t x y):=by
 unfold Go.movedNumber
 have h1:=fun a t x=>j0.unsafeAdd (P:=P) (F:=F) a t x
 refine j0.bind (j0.underlying _) fun _=>?_
 dsimp only
 (repeat'(first
 | exact j0.pure' _|exact j0.pure _|exact j0.halt _ trivial|exact SC.h
 | (with_reducible first|exact j0.mark _ (.inl rfl))
 | assumption
 | with_reducible refine j0.bind ?_ (fun _=>?_)
 | with_reducible refine j0.map ?_
 | with_reducible refine j0.ite (fun _=>?_) (fun _=>?_)
 | dsimp only
 | split))
 all_goals exact h1 _ _ _
theorem j0.movedPointer(t:TypeId)(x y:Value):j0 P F (Go.movedPointer t x y):=by
 unfold Go.movedPointer
 have h1:=fun a t x=>j0.unsafeAdd (P:=P) (F:=F) a t x
 (repeat'(first
 | exact j0.pure' _|exact j0.pure _|exact j0.halt _ trivial|exact SC.h
 | (with_reducible first|exact j0.mark _ (.inl rfl))
 | assumption
 | with_reducible refine j0.bind ?_ (fun _=>?_)
 | with_reducible refine j0.map ?_
 | with_reducible refine j0.ite (fun _=>?_) (fun _=>?_)
 | dsimp only
 | split))
 all_goals exact h1 _ _ _
theorem j0.twoPlaces(a b:Addr):j0 P F (Op.twoPlaces a b):=by unfold Op.twoPlaces;(repeat'(first
 | exact j0.pure' _|exact j0.pure _|exact j0.halt _ trivial|exact SC.h
 | (with_reducible first|exact j0.mark _ (.inl rfl))
 | assumption
 | with_reducible refine j0.bind ?_ (fun _=>?_)
 | with_reducible refine j0.map ?_
 | with_reducible refine j0.ite (fun _=>?_) (fun _=>?_)
 | dsimp only
 | split))
theorem j0.addrSub(k:IntKind)(a b:Addr):j0 P F (Op.addrSub k a b):=by
 unfold Op.addrSub;exact j0.bind (j0.twoPlaces _ _) fun _=>j0.pure' _
theorem j0.addrCmp(op:BinOp)(a b:Addr):j0 P F (Op.addrCmp op a b):=by
 unfold Op.addrCmp
 refine j0.bind (j0.twoPlaces _ _) fun _=>?_
 (repeat'(first
 | exact j0.pure' _|exact j0.pure _|exact j0.halt _ trivial|exact SC.h
 | (with_reducible first|exact j0.mark _ (.inl rfl))
 | assumption
 | with_reducible refine j0.bind ?_ (fun _=>?_)
 | with_reducible refine j0.map ?_
 | with_reducible refine j0.ite (fun _=>?_) (fun _=>?_)
 | dsimp only
 | split))
theorem j0.addrMod(k:IntKind)(a:Addr)(n:Int):j0 P F (Op.addrMod k a n):=by
 unfold Op.addrMod;(repeat'(first
 | exact j0.pure' _|exact j0.pure _|exact j0.halt _ trivial|exact SC.h
 | (with_reducible first|exact j0.mark _ (.inl rfl))
 | assumption
 | with_reducible refine j0.bind ?_ (fun _=>?_)
 | with_reducible refine j0.map ?_
 | with_reducible refine j0.ite (fun _=>?_) (fun _=>?_)
 | dsimp only
 | split))
theorem j0.eqGuardIn(t:TypeId)(x y:Value)(h:(∃px,eqType P px t=true)):j0 P F (Op.eqGuardIn Op.maxDepth t x y):=by
 obtain⟨px,h⟩:=h
 unfold Op.maxDepth
 rw[show(10000:Nat)=9999+1 from rfl]
 unfold Op.eqGuardIn
 unfold eqType at h
 cases hd:P.underlying t with
 | none=>rw[hd]at h;cases h
 | some d=>
   rw[hd]at h
   simp only[Option.map_some,Option.getD_some]at h
   refine j0.bindUnderlying hd ?_
   clear hd
   split
   all_goals first
    | exact j0.pure' _
    | (exfalso;simp[okd]at h;done)
theorem e0D(n:Nat)(t:TypeId)(h:(∃px,eqType P px t=true)):P.eqGuardType (n+1) t=false:=by
 obtain⟨px,h⟩:=h
 unfold eqType at h
 unfold Program.eqGuardType
 cases hd:P.underlying t with
 | none=>rfl
 | some d=>
   rw[hd]at h
   simp only[Option.map_some,Option.getD_some]at h
   cases d<;>first|rfl|(simp[okd]at h)
theorem j0.bindProgram{f:Program→Sem β}(hf:j0 P F (f P)):j0 P F (Go.program >>= f):=
 j0.congr (s':=f P) (fun w=>by rw[Sem.run_bind];rfl) (fun w es=>by rw[Sem.events_bind];rfl) hf
theorem j0.eqGuard (op : BinOp) (t : TypeId) (x y : Operand) (a b : Value) (h : x0s op = true → (∃ px, eqType P px t = true) ∨ ((∃ v, x = .const v) ∨ (∃ v, y = .const v)) ∧ ∀ cs ds, ¬ (a = .agg cs ∧ b = .agg ds)) : j0 P F (Go.eqGuard op t x y a b) := by
  unfold Go.eqGuard
  cases op
  all_goals first | exact j0.pure' () | skip
  all_goals
    have h' := h rfl
    dsimp only
    simp only [Bool.not_true, Bool.false_eq_true, if_false]
    split
    · rcases h' with h1 | ⟨h1, _⟩
      · with_reducible refine j0.ite (fun _ => j0.pure' _) (fun _ => ?_)
        refine j0.bind (j0.eqGuardIn t _ _ h1) fun _ => ?_
        (repeat' (first
  | exact j0.pure' _ | exact j0.pure _ | exact j0.halt _ trivial | exact SC.h
  | (with_reducible first | exact j0.mark _ (.inl rfl))
  | assumption
  | with_reducible refine j0.bind ?_ (fun _ => ?_)
  | with_reducible refine j0.map ?_
  | with_reducible refine j0.ite (fun _ => ?_) (fun _ => ?_)
  | dsimp only
  | split))
      · with_reducible refine j0.ite (fun _ => j0.pure' _) (fun hc => ?_)
        exfalso
        rcases h1 with ⟨v, rfl⟩ | ⟨v, rfl⟩
        · exact hc rfl
        · exact hc (Bool.or_true _)
    · rcases h' with h1 | ⟨_, h2⟩
      · refine j0.bindProgram ?_
        refine j0.bindProgram ?_
        have hdp : P.depth = (2 * (P.types.size + Made.depth) + 1) + 1 := rfl
        rw [hdp, e0D _ t h1]
        simp only [Bool.not_false, if_true]
        exact j0.pure' _
      · exact absurd ⟨rfl, rfl⟩ (h2 _ _)
    · exact j0.pure' _
end
section
open Go Go.Conc
variable{P:Program}{F:Fz}{α β γ:Type}
theorem j0.binOp(op:BinOp)(t:TypeId)(x y:Value)(h:x0s op=true→j0 P F (Op.equal t x y)):j0 P F (Go.binOp op t x y):=by
 unfold Go.binOp
 split
 all_goals first
  | exact j0.shift _ _ _ _ _
  | exact j0.stringOp _ _ _
  | exact j0.unsupported _
  | exact j0.stuck _
  | exact j0.bind (h rfl) fun _=>j0.pure' _
  | exact j0.movedNumber _ _ _
  | (split
     ·exact j0.stuck _
     ·first
      | exact j0.complexOp _ _ _ _ _ _
      | (split<;>first|exact j0.intArith _ _ _ _|exact j0.intDiv _ _ _ _|exact j0.intBits _ _ _ _|exact j0.intCmp _ _ _|exact j0.floatArith _ _ _ _|exact j0.floatCmp _ _ _ _))
  | (refine j0.bind (j0.underlying _) fun _=>?_
     split<;>first|exact j0.movedPointer _ _ _|exact j0.movedNumber _ _ _)
  | exact j0.bind (j0.behindNumber _) fun _=>j0.bind (j0.behindNumber _) fun _=>j0.addrSub _ _ _
  | exact j0.bind (j0.behindNumber _) fun _=>j0.bind (j0.behindNumber _) fun _=>j0.addrCmp _ _ _
  | exact j0.bind (j0.behindNumber _) fun _=>j0.addrMod _ _ _
  | skip
theorem j0.unary(op:UnOp)(x:Value):j0 P F (Op.unary op x):=by
 unfold Op.unary
 split
 all_goals first|exact j0.intArith _ _ _ _|exact j0.intBits _ _ _ _|exact j0.pure' _|exact j0.unsupported _|exact j0.stuck _
def o0J:TypeDesc→TypeDesc→Bool
 | .int _,.int _| .unsafePointer,.pointer _| .pointer _,.unsafePointer=>true
 | _,_=>false
def k0c(P:Program)(s d:TypeId):Bool:=
 match P.underlying s,P.underlying d with
 | some a,some b=>o0J a b
 | _,_=>false
theorem j0.seenAt(a:Addr):j0 P F (Conv.seenAt a):=by
 unfold Conv.seenAt;(repeat'(first
 | exact j0.pure' _|exact j0.pure _|exact j0.halt _ trivial|exact SC.h
 | (with_reducible first|exact j0.mark _ (.inl rfl))
 | assumption
 | with_reducible refine j0.bind ?_ (fun _=>?_)
 | with_reducible refine j0.map ?_
 | with_reducible refine j0.ite (fun _=>?_) (fun _=>?_)
 | dsimp only
 | split))
theorem j0.variablesAt(a:Addr)(u:TypeId)(n:Nat):j0 P F (Go.variablesAt a u n):=by
 unfold Go.variablesAt;(repeat'(first
 | exact j0.pure' _|exact j0.pure _|exact j0.halt _ trivial|exact SC.h
 | (with_reducible first|exact j0.mark _ (.inl rfl))
 | assumption
 | with_reducible refine j0.bind ?_ (fun _=>?_)
 | with_reducible refine j0.map ?_
 | with_reducible refine j0.ite (fun _=>?_) (fun _=>?_)
 | dsimp only
 | split))
theorem j0.convUnsafe (s d : TypeId) (x : Value) : j0 P F (Conv.unsafePointer s d x) := by
  unfold Conv.unsafePointer
  refine j0.bind (j0.underlying _) fun _ => j0.bind (j0.underlying _) fun _ => ?_
  split
  all_goals first
    | exact j0.pure' _ | exact j0.unsupported _ | exact j0.stuck _ | exact j0.asNumber _ _
    | (refine j0.bind (j0.seenAt _) fun _ => ?_
       first
       | (refine j0.bind (j0.cellsIn _) fun _ => ?_
          refine j0.bind (j0.sizeOf _) fun _ => ?_
          (repeat' (first
  | exact j0.pure' _ | exact j0.pure _ | exact j0.halt _ trivial | exact SC.h
  | (with_reducible first | exact j0.mark _ (.inl rfl))
  | assumption
  | with_reducible refine j0.bind ?_ (fun _ => ?_)
  | with_reducible refine j0.map ?_
  | with_reducible refine j0.ite (fun _ => ?_) (fun _ => ?_)
  | dsimp only
  | split))
          done)
       | (refine j0.bind (j0.sizeOf _) fun _ => ?_
          refine j0.bind (j0.variablesAt _ _ _) fun _ => ?_
          (repeat' (first
  | exact j0.pure' _ | exact j0.pure _ | exact j0.halt _ trivial | exact SC.h
  | (with_reducible first | exact j0.mark _ (.inl rfl))
  | assumption
  | with_reducible refine j0.bind ?_ (fun _ => ?_)
  | with_reducible refine j0.map ?_
  | with_reducible refine j0.ite (fun _ => ?_) (fun _ => ?_)
  | dsimp only
  | split))
          done))
    | skip
theorem j0.convert (s d : TypeId) (x : Value) (h : k0c P s d = true) : j0 P F (Go.convert s d x) := by
  unfold Go.convert
  unfold k0c at h
  cases hs : P.underlying s with
  | none => rw [hs] at h; cases h
  | some a =>
    cases hd : P.underlying d with
    | none => rw [hs, hd] at h; cases h
    | some b =>
      rw [hs, hd] at h
      refine j0.bindUnderlying hs (j0.bindUnderlying hd ?_)
      simp only at h
      clear hs hd
      split
      all_goals first
        | (exfalso; simp [o0J] at h; done)
        | exact j0.pure' _
        | exact j0.unsupported _
        | exact j0.convUnsafe _ _ _
        | (unfold Conv.intToInt; exact j0.pure' _)
        | (unfold Conv.floatToInt; ((repeat' (first
  | exact j0.pure' _ | exact j0.pure _ | exact j0.halt _ trivial | exact SC.h
  | (with_reducible first | exact j0.mark _ (.inl rfl))
  | assumption
  | with_reducible refine j0.bind ?_ (fun _ => ?_)
  | with_reducible refine j0.map ?_
  | with_reducible refine j0.ite (fun _ => ?_) (fun _ => ?_)
  | dsimp only
  | split))); done)
        | skip
      all_goals (cases a <;> cases b <;> first | (exfalso; simp [o0J] at h; done) | skip)
theorem O2.holdsCells(a:Addr)(n:Nat):O2 P (Builtin.holdsCells a n):=by
 unfold Builtin.holdsCells
 refine O2.bind (O2.shape _) fun _=>?_
 split<;>exact O2.pure _
theorem O2.mayShare(a b c:Nat)(o:Option Addr)(v:Value):O2 P (Builtin.mayShare a b c o v):=by
 unfold Builtin.mayShare
 have h1:=fun a n=>O2.holdsCells (P:=P) a n
 have h2:=fun a=>O2.frozen (P:=P) a
 (repeat'(first|with_reducible exact O2.pure _|with_reducible exact h1 _ _|with_reducible exact h2 _|with_reducible refine O2.bind ?_ (fun _=>?_)|dsimp only|split))
theorem j0.shareDead(a b c:Nat)(o:Option Addr)(v:Value)(f:Bool→Sem α)(h:∀x,d0Q P (f x)):j0 P F (Builtin.mayShare a b c o v >>= f):=j0.of_dead (d0Q.bind (O2.mayShare _ _ _ _ _) h)
theorem j0.lenOf(v:Value):j0 P F (Builtin.lenOf v):=by unfold Builtin.lenOf;(repeat'(first
 | exact j0.pure' _|exact j0.pure _|exact j0.halt _ trivial|exact SC.h
 | (with_reducible first|exact j0.mark _ (.inl rfl))
 | assumption
 | with_reducible refine j0.bind ?_ (fun _=>?_)
 | with_reducible refine j0.map ?_
 | with_reducible refine j0.ite (fun _=>?_) (fun _=>?_)
 | dsimp only
 | split))
theorem j0.firstCells(s n:Nat)(v:Value):j0 P F (Builtin.firstCells s n v):=by unfold Builtin.firstCells;(repeat'(first
 | exact j0.pure' _|exact j0.pure _|exact j0.halt _ trivial|exact SC.h
 | (with_reducible first|exact j0.mark _ (.inl rfl))
 | assumption
 | with_reducible refine j0.bind ?_ (fun _=>?_)
 | with_reducible refine j0.map ?_
 | with_reducible refine j0.ite (fun _=>?_) (fun _=>?_)
 | dsimp only
 | split))
theorem j0.append(a:Array TypeId)(t:TypeId)(x:Array Value):j0 P F (Builtin.append_ a t x):=by
 unfold Builtin.append_
 (repeat'(first
   | with_reducible exact j0.pure' _|with_reducible exact j0.pure _
   | with_reducible exact j0.choose _|with_reducible exact j0.stuck _|with_reducible exact j0.unsupported _|with_reducible exact j0.runtimePanic _
   | with_reducible exact j0.underlying _|with_reducible exact j0.typeInfo _|with_reducible exact j0.zeroValue _|with_reducible exact j0.sizeOf _
   | with_reducible exact j0.storeCells _ _ _|with_reducible exact j0.newRow _ _|with_reducible exact j0.asInt _
   | with_reducible exact j0.lenOf _|with_reducible exact j0.firstCells _ _ _|with_reducible exact j0.askRoom _
   | (with_reducible refine j0.shareDead _ _ _ _ _ _ (fun x=>?_)
      cases x
      ·exact d0Q.bind (O2.mark _) fun _=>d0Q.unsupported _
      ·exact d0Q.unsupported _)
   | with_reducible refine j0.bind ?_ (fun _=>?_)
   | with_reducible refine j0.ite (fun _=>?_) (fun _=>?_)
   | dsimp only
   | split))
theorem j0.len(a:Array TypeId)(t:TypeId)(x:Array Value):j0 P F (Builtin.len_ a t x):=by unfold Builtin.len_;(repeat'(first
 | exact j0.pure' _|exact j0.pure _|exact j0.halt _ trivial|exact SC.h
 | (with_reducible first|exact j0.mark _ (.inl rfl))
 | assumption
 | with_reducible refine j0.bind ?_ (fun _=>?_)
 | with_reducible refine j0.map ?_
 | with_reducible refine j0.ite (fun _=>?_) (fun _=>?_)
 | dsimp only
 | split))
theorem j0.cap(a:Array TypeId)(t:TypeId)(x:Array Value):j0 P F (Builtin.cap_ a t x):=by unfold Builtin.cap_;(repeat'(first
 | exact j0.pure' _|exact j0.pure _|exact j0.halt _ trivial|exact SC.h
 | (with_reducible first|exact j0.mark _ (.inl rfl))
 | assumption
 | with_reducible refine j0.bind ?_ (fun _=>?_)
 | with_reducible refine j0.map ?_
 | with_reducible refine j0.ite (fun _=>?_) (fun _=>?_)
 | dsimp only
 | split))
theorem j0.copy(a:Array TypeId)(t:TypeId)(x:Array Value):j0 P F (Builtin.copy_ a t x):=by
 unfold Builtin.copy_
 (repeat'(first
   | with_reducible exact j0.pure' _|with_reducible exact j0.stuck _
   | with_reducible exact j0.underlying _|with_reducible exact j0.sizeOf _
   | with_reducible exact j0.storeCells _ _ _
   | with_reducible exact j0.lenOf _|with_reducible exact j0.firstCells _ _ _
   | with_reducible refine j0.bind ?_ (fun _=>?_)
   | dsimp only
   | split))
theorem j0.min2(x y:Value):j0 P F (Builtin.min2 x y):=by
 unfold Builtin.min2
 have:=fun op x y=>j0.stringOp (P:=P) (F:=F) op x y
 (repeat'(first
 | exact j0.pure' _|exact j0.pure _|exact j0.halt _ trivial|exact SC.h
 | (with_reducible first|exact j0.mark _ (.inl rfl))
 | assumption
 | with_reducible refine j0.bind ?_ (fun _=>?_)
 | with_reducible refine j0.map ?_
 | with_reducible refine j0.ite (fun _=>?_) (fun _=>?_)
 | dsimp only
 | split))
 all_goals exact this _ _ _
theorem j0.max2(x y:Value):j0 P F (Builtin.max2 x y):=by
 unfold Builtin.max2
 have:=fun op x y=>j0.stringOp (P:=P) (F:=F) op x y
 (repeat'(first
 | exact j0.pure' _|exact j0.pure _|exact j0.halt _ trivial|exact SC.h
 | (with_reducible first|exact j0.mark _ (.inl rfl))
 | assumption
 | with_reducible refine j0.bind ?_ (fun _=>?_)
 | with_reducible refine j0.map ?_
 | with_reducible refine j0.ite (fun _=>?_) (fun _=>?_)
 | dsimp only
 | split))
 all_goals exact this _ _ _
theorem j0.min(a:Array TypeId)(t:TypeId)(x:Array Value):j0 P F (Builtin.min_ a t x):=by
 unfold Builtin.min_
 split
 ·exact j0.stuck _
 ·exact j0.foldlMList (fun c a=>j0.min2 c a) _ _
theorem j0.max(a:Array TypeId)(t:TypeId)(x:Array Value):j0 P F (Builtin.max_ a t x):=by
 unfold Builtin.max_
 split
 ·exact j0.stuck _
 ·exact j0.foldlMList (fun c a=>j0.max2 c a) _ _
end
section
open Go Go.Conc
variable{P:Program}{F:Fz}{α β γ:Type}
theorem j0.aread(t:Extern.Atomic.T)(a:Addr):j0 P F (Extern.Atomic.read t a):=by
 unfold Extern.Atomic.read;(repeat'(first
 | exact j0.pure' _|exact j0.pure _|exact j0.halt _ trivial|exact SC.h
 | (with_reducible first|exact j0.mark _ (.inl rfl))
 | assumption
 | with_reducible refine j0.bind ?_ (fun _=>?_)
 | with_reducible refine j0.map ?_
 | with_reducible refine j0.ite (fun _=>?_) (fun _=>?_)
 | dsimp only
 | split))
theorem j0.loadT(t:Extern.Atomic.T)(x:Array Value):j0 P F (Extern.Atomic.loadT t x):=by
 unfold Extern.Atomic.loadT
 rcases x with⟨_|⟨v,_|⟨u,_⟩⟩⟩
 ·exact j0.stuck _
 ·exact j0.bind (j0.asAddr _) fun _=>j0.aread _ _
 ·exact j0.stuck _
theorem g0O.touchesFrozenNone(hF:∀r,F r=none)(a:Addr):j0 P F (Extern.Atomic.touchesFrozen a):=by
 unfold Extern.Atomic.touchesFrozen
 have h1:=fun x=>j0.frozen (P:=P) (F:=F) hF x
 have h2:∀(l:List Nat) (f:Nat→Sem Bool),(∀i,j0 P F (f i))→j0 P F (l.anyM f):=by
  intro l f hf
  induction l with
  | nil=>exact j0.pure' _
  | cons x l ih=>
    rw[List.anyM_cons]
    refine j0.bind (hf x) fun b=>?_
    split
    ·exact j0.pure' _
    ·exact ih
 refine j0.bind (j0.viewAt _) fun v=>?_
 split
 ·exact h1 _
 ·refine j0.bind (j0.typeInfo _) fun _=>?_
  dsimp only
  split
  ·exact j0.bind (j0.unsupported _) fun _=>h2 _ _ fun i=>h1 _
  ·exact h2 _ _ fun i=>h1 _
theorem j0.casT(t:Extern.Atomic.T)(hF:∀r,F r=none)(x:Array Value):j0 P F (Extern.Atomic.casT t x):=by
 unfold Extern.Atomic.casT
 rcases x with⟨_|⟨v,_|⟨u,_|⟨y,_|⟨_,_⟩⟩⟩⟩⟩
 ·exact j0.stuck _
 ·exact j0.stuck _
 ·exact j0.stuck _
 ·refine j0.bind (j0.asAddr _) fun a=>?_
  refine j0.bind (g0O.touchesFrozenNone hF a) fun _=>?_
  have hsp:=fun x y=>j0.samePointer (P:=P) (F:=F) hF x y
  dsimp only
  split
  ·exact j0.bind (j0.unsupported _) fun _=>by
    refine j0.bind (j0.aread _ _) fun _=>?_
    split<;>first
     | (refine j0.bind (j0.pure' _) fun _=>?_;split<;>first|exact j0.bind (j0.store _ _ _) fun _=>j0.pure' _|exact j0.pure' _)
     | (refine j0.bind (hsp _ _) fun _=>?_;split<;>first|exact j0.bind (j0.store _ _ _) fun _=>j0.pure' _|exact j0.pure' _)
     | (refine j0.bind (j0.unsupported _) fun _=>?_;split<;>first|exact j0.bind (j0.store _ _ _) fun _=>j0.pure' _|exact j0.pure' _)
     | (refine j0.bind (j0.stuck _) fun _=>?_;split<;>first|exact j0.bind (j0.store _ _ _) fun _=>j0.pure' _|exact j0.pure' _)
  ·refine j0.bind (j0.aread _ _) fun _=>?_
   split<;>first
    | (refine j0.bind (j0.pure' _) fun _=>?_;split<;>first|exact j0.bind (j0.store _ _ _) fun _=>j0.pure' _|exact j0.pure' _)
    | (refine j0.bind (hsp _ _) fun _=>?_;split<;>first|exact j0.bind (j0.store _ _ _) fun _=>j0.pure' _|exact j0.pure' _)
    | (refine j0.bind (j0.unsupported _) fun _=>?_;split<;>first|exact j0.bind (j0.store _ _ _) fun _=>j0.pure' _|exact j0.pure' _)
    | (refine j0.bind (j0.stuck _) fun _=>?_;split<;>first|exact j0.bind (j0.store _ _ _) fun _=>j0.pure' _|exact j0.pure' _)
 ·exact j0.stuck _
end
section
open Go Go.Conc
variable{P:Program}{F:Fz}{α β γ:Type}
def c0P:Builtin→Bool
 | .append| .len| .cap| .min| .max| .copy=>true
 | _=>false
def e0u(S:FuncId→Bool):Callee→Bool
 | .value (.func f)=>S f
 | .builtin b=>c0P b
 | _=>false
def h0a(P:Program)(S:FuncId→Bool)(px:Bool):Op→Bool
 | .move _| .assign _| .pick .. | .alloc _| .box .. | .build .. | .buildSlice .. | .load .. | .store .. | .unOp .. | .makeInterface .. | .makeFunc .. | .makeSlice .. | .slice ..
 | .fieldAddr .. | .field .. | .indexAddr .. | .index .. | .extract .. | .nilCheck _=>true
 | .binOp op t x y _=> !x0s op || eqType P px t || (g08 P t && (nilOperand x || nilOperand y))
 | .convert s d _=>k0c P s d
 | .call c=>e0u S c.callee
 | _=>false
def Q5(P:Program)(S:FuncId→Bool)(px:Bool):Code→Bool
 | .skip| .exit _| .label _| .goto _| .ret| .refuse _=>true
 | .region _ ops _=>ops.all fun o=>h0a P S px o.op
 | .seq a b| .cond _ a b=>Q5 P S px a && Q5 P S px b
 | .block _ c| .loop c| .scope c=>Q5 P S px c
 | .rangeFunc .. =>false
def u0j(P:Program)(px:Bool)(e:Array Value→Sem Value):Prop:=∀F:Fz,(px=true→∀r,F r=none)→∀args,j0 P F (e args)
def Z5(P:Program)(S:FuncId→Bool)(px:Bool):Prop:=
 ∀ f, S f = true → ∃ fn, P.funcs[f]? = some fn ∧ (fn.name == "runtime.NumGoroutine") = false ∧
   ((∃c,fn.body=some c∧Q5 P S px c=true)∨(fn.body=none∧Extern.findNext fn=none∧∃e,Extern.find fn=some e∧u0j P px e))
def w0w(P:Program)(S:FuncId→Bool):Next→Prop
 | .value _| .skip=>True
 | .enter f _=>S f=true∧∃fn c,P.funcs[f]? =some fn∧fn.body=some c
 | _=>False
def j6(P:Program)(S:FuncId→Bool)(s:Sem Next):Prop:=∀w n u,s.run P w= .ok n u→w0w P S n
theorem j6.value{S:FuncId→Bool}(s:Sem Value):j6 P S (do Pure.pure (Next.value (← s))):=by
 intro w n u h
 rw[Sem.run_bind]at h
 cases hr:s.run P w with
 | ok v w'=>rw[hr]at h;cases h;trivial
 | halt e w'=>rw[hr]at h;cases h
theorem j6.skip{S:FuncId→Bool}(s:Sem Unit):j6 P S (do s;Pure.pure Next.skip):=by
 intro w n u h
 rw[Sem.run_bind]at h
 cases hr:s.run P w with
 | ok v w'=>rw[hr]at h;cases h;trivial
 | halt e w'=>rw[hr]at h;cases h
theorem j6.pureValue{S:FuncId→Bool}(v:Value):j6 P S (Pure.pure (Next.value v)):=by intro w n u h;cases h;trivial
theorem j6.bind{S:FuncId→Bool}(s:Sem α)(f:α→Sem Next)(h:∀a,j6 P S (f a)):j6 P S (s >>= f):=by
 intro w n u e
 rw[Sem.run_bind]at e
 cases hr:s.run P w with
 | ok v w'=>rw[hr]at e;exact h v w' n u e
 | halt x w'=>rw[hr]at e;cases e
theorem j6.halt{S:FuncId→Bool}(h:Halt):j6 P S (Sem.halt h):=by intro w n u e;cases e
theorem j6.panic{S:FuncId→Bool}(e:RuntimeError):j6 P S (Go.runtimePanic e):=by
 unfold Go.runtimePanic
 refine j6.bind _ _ fun p=>?_
 cases e<;>dsimp only<;>(repeat'(first|exact j6.halt _|refine j6.bind _ _ fun _=>?_))
theorem f0D{S:FuncId→Bool}{px:Bool}(hC:Z5 P S px)(f:FuncId)(args:Array Value)(hf:S f=true):j6 P S (Go.callFunc f args):=by
 obtain⟨fn,h1,h2,h3⟩:=hC f hf
 intro w n u e
 unfold Go.callFunc at e
 rw[Sem.run_bind]at e
 rw[show Go.program.run P w= .ok P w from rfl]at e
 simp only[Result.andThen_ok,h1,h2,Bool.false_eq_true,if_false]at e
 have e':=e
 clear e
 rcases h3 with⟨c,hb,_⟩|⟨hb,hn,e,he,_⟩
 ·rw[hb]at e'
  simp only[Option.isNone_some,Bool.false_eq_true,if_false]at e'
  cases e'
  exact⟨hf,fn,c,h1,hb⟩
 ·rw[hb]at e'
  simp only[Option.isNone_none,if_true,hn,he]at e'
  exact(j6.bind (Go.mark (.extern f)) _ fun _=>j6.value (P:=P) (S:=S) (e args)) w n u e'
theorem j0.callFunc{S:FuncId→Bool}{px:Bool}(hC:Z5 P S px)(hF:px=true→∀r,F r=none)(f:FuncId)(args:Array Value)(hf:S f=true):j0 P F (Go.callFunc f args):=by
 obtain⟨fn,h1,h2,h3⟩:=hC f hf
 unfold Go.callFunc
 refine j0.bindProgram ?_
 simp only[h1,h2,Bool.false_eq_true,if_false]
 rcases h3 with⟨c,hb,_⟩|⟨hb,hn,e,he,hE⟩
 ·rw[hb]
  simp only[Option.isNone_some,Bool.false_eq_true,if_false]
  exact j0.pure' _
 ·rw[hb]
  simp only[Option.isNone_none,if_true,hn,he]
  exact j0.bind (j0.mark _ (.inr ⟨f,rfl⟩)) fun _=>j0.bind (hE F hF args) fun _=>j0.pure' _
theorem j0.followBlind:∀(l:List FieldStep) (t:TypeId) (x:Option Value),j0 P F (Go.followBlind l t x):=by
 intro l
 induction l with
 | nil=>intro t x;exact j0.pure' _
 | cons s l ih=>
   intro t x
   unfold Go.followBlind
   refine j0.bind (j0.underlying _) fun _=>?_
   split
   ·split
    ·split
     all_goals first
      | exact j0.pure' _|exact j0.stuck _|exact ih _ _
      | exact j0.bind (j0.part _ _ _) fun _=>ih _ _
    ·exact j0.stuck _
   ·exact j0.stuck _
theorem j0.nilAhead:∀(n:Nat) (t:TypeId) (v:Value) (s:String),j0 P F (Go.nilAhead n t v s):=by
 intro n
 induction n with
 | zero=>intro t v s;exact j0.pure' _
 | succ n ih=>
   intro t v s
   unfold Go.nilAhead
   refine j0.bind (j0.typeInfo _) fun _=>?_
   split
   ·refine j0.bind (j0.followBlind _ _ _) fun r=>?_
    split
    ·exact j0.pure' _
    ·split
     all_goals first
      | exact j0.pure' _|exact j0.stuck _|exact ih _ _ _
      | (refine j0.bind (j0.underlying _) fun _=>?_
         split<;>exact j0.pure' _)
   ·exact j0.stuck _
theorem g09(ρ:Operand→Value)(hρ:∀v,ρ (.const v)=v)(x:Operand)(h:nilOperand x=true):ρ x= .pointer none∨ρ x= .nilIface:=by
 unfold nilOperand at h
 split at h
 ·left;exact hρ _
 ·right;exact hρ _
 ·cases h
theorem i0A(x:Operand)(h:nilOperand x=true):∃v,x= .const v:=by
 unfold nilOperand at h
 split at h
 ·exact⟨_,rfl⟩
 ·exact⟨_,rfl⟩
 ·cases h
theorem a0J{S:FuncId→Bool}{px:Bool}(hC:Z5 P S px)(hF:px=true→∀r,F r=none)(ρ:Operand→Value)(hρ:∀v,ρ (.const v)=v)(hρf:∀f,ρ (.func f)= .func (.func f) #[] #[])(o:Oper)(ho:h0a P S px o.op=true):
 j0 P F (execOp ρ o):=by
 have hv:∀s:Sem Value,j0 P F s→j0 P F (do Pure.pure (Next.value (← s))):=fun s hs=>j0.bind hs fun _=>j0.pure' _
 have hu:∀s:Sem Unit,j0 P F s→j0 P F (do s;Pure.pure Next.skip):=fun s hs=>j0.bind hs fun _=>j0.pure' _
 unfold execOp
 dsimp only
 cases hop:o.op<;>rw[hop]at ho<;>simp only[h0a,Bool.false_eq_true]at ho
 case move=>exact j0.pure' _
 case assign=>exact j0.pure' _
 case pick=>exact j0.bind (j0.asBool _) fun _=>j0.pure' _
 case alloc=>exact hv _ (j0.alloc _ _)
 case box=>exact hv _ (j0.box _ _)
 case build=>exact hv _ (j0.build _ _)
 case buildSlice=>exact hv _ (j0.buildSlice _ _ _)
 case load=>exact hv _ (j0.loadAt _ _)
 case store=>exact hu _ (j0.storeAt _ _ _)
 case nilCheck x=>
  try dsimp only
  split
  ·exact j0.runtimePanic _
  ·exact j0.runtimePanic _
  ·exact j0.runtimePanic _
  ·split
   ·exact j0.runtimePanic _
   ·refine j0.bind j0.program fun _=>j0.bind (j0.nilAhead _ _ _ _) fun _=>?_
    try dsimp only
    split
    ·exact j0.bind (j0.unsupported _) fun _=>j0.pure' _
    ·exact j0.pure' _
   ·exact j0.pure' _
  ·exact j0.pure' _
 case binOp op t x y t'=>
  refine hv _ (j0.bind (j0.eqGuard _ _ _ _ _ _ fun he=>?_) fun _=>j0.binOp _ _ _ _ fun he=>?_)
  ·rw[he]at ho
   simp only[Bool.not_true,Bool.false_or,Bool.or_eq_true,Bool.and_eq_true]at ho
   rcases ho with h|⟨_,h⟩
   ·exact .inl ⟨px,h⟩
   ·right
    rcases h with h|h
    ·refine⟨.inl (i0A x h),fun cs ds hh=>?_⟩
     rcases g09 ρ hρ x h with e|e<;>rw[e]at hh<;>cases hh.1
    ·refine⟨.inr (i0A y h),fun cs ds hh=>?_⟩
     rcases g09 ρ hρ y h with e|e<;>rw[e]at hh<;>cases hh.2
  ·rw[he]at ho
   simp only[Bool.not_true,Bool.false_or,Bool.or_eq_true,Bool.and_eq_true]at ho
   rcases ho with h|⟨h1,h⟩
   ·exact j0.equal px hF _ _ _ h
   ·refine j0.equalNil _ _ _ h1 ?_
    rcases h with h|h
    ·exact .inr (g09 ρ hρ x h)
    ·exact .inl (g09 ρ hρ y h)
 case unOp=>exact hv _ (j0.unary _ _)
 case convert=>exact hv _ (j0.convert _ _ _ ho)
 case makeInterface=>exact hv _ (j0.makeInterface _ _)
 case makeFunc=>exact hv _ (j0.makeFunc _ _ _)
 case makeSlice=>exact hv _ (j0.makeSlice _ _ _)
 case slice=>exact hv _ (j0.sliceAt _ _ _ _ _)
 case fieldAddr=>exact hv _ (j0.fieldAt _ _ _)
 case field=>exact hv _ (j0.field _ _ _)
 case indexAddr=>exact hv _ (j0.indexAt _ _ _)
 case index=>exact hv _ (j0.index _ _ _)
 case extract=>exact hv _ (j0.extract _ _)
 case call c=>
  try dsimp only
  unfold resolve
  try dsimp only
  unfold e0u at ho
  cases hc:c.callee with
  | invoke r n=>rw[hc]at ho;cases ho
  | value f=>
    rw[hc]at ho
    cases f with
    | func f=>
      dsimp only at ho ⊢
      rw[hρf]
      exact j0.callFunc hC hF f _ ho
    | _=>cases ho
  | builtin b=>
    rw[hc]at ho
    dsimp only at ho ⊢
    cases b<;>simp only[c0P,Bool.false_eq_true]at ho
    case append=>exact hv _ (j0.append _ _ _)
    case cap=>exact hv _ (j0.cap _ _ _)
    case copy=>exact hv _ (j0.copy _ _ _)
    case len=>exact hv _ (j0.len _ _ _)
    case max=>exact hv _ (j0.max _ _ _)
    case min=>exact hv _ (j0.min _ _ _)
theorem i0H{S:FuncId→Bool}{px:Bool}(hC:Z5 P S px)(ρ:Operand→Value)(hρf:∀f,ρ (.func f)= .func (.func f) #[] #[])(o:Oper)(ho:h0a P S px o.op=true):
 j6 P S (execOp ρ o):=by
 unfold execOp
 dsimp only
 cases hop:o.op<;>rw[hop]at ho<;>simp only[h0a,Bool.false_eq_true]at ho
 case move=>exact j6.pureValue _
 case assign=>exact j6.pureValue _
 case nilCheck x=>
  try dsimp only
  split
  ·exact j6.panic _
  ·exact j6.panic _
  ·exact j6.panic _
  ·split
   ·exact j6.panic _
   ·refine j6.bind _ _ fun _=>j6.bind _ _ fun _=>?_
    try dsimp only
    split
    ·exact j6.bind _ _ fun _=>j6.pureValue _
    ·exact j6.pureValue _
   ·exact j6.pureValue _
  ·exact j6.pureValue _
 case store=>exact j6.skip _
 case pick=>exact j6.bind _ _ fun _=>j6.pureValue _
 case call c=>
  try dsimp only
  unfold resolve
  try dsimp only
  unfold e0u at ho
  cases hc:c.callee with
  | invoke r n=>rw[hc]at ho;cases ho
  | value f=>
    rw[hc]at ho
    cases f with
    | func f=>
      dsimp only at ho ⊢
      rw[hρf]
      exact f0D hC f _ ho
    | _=>cases ho
  | builtin b=>
    rw[hc]at ho
    dsimp only at ho ⊢
    cases b<;>simp only[c0P,Bool.false_eq_true]at ho
    all_goals exact j6.value _
 all_goals exact j6.value _
end
section
open Go Go.Conc
variable{P:Program}{F:Fz}{S:FuncId→Bool}{px:Bool}
def F5(P:Program)(S:FuncId→Bool)(px:Bool):Item→Prop
 | .code c| .inLoop c| .inScope c=>Q5 P S px c=true
 | .inBlock _=>True
 | .inRegion ops _=>(ops.all fun o=>h0a P S px o.op)=true
 | _=>False
def ctl(a:Act):List Item→Option (List Item)
 | .code .skip::t| .code (.label _)::t| .inBlock _::t| .inScope _::t=>some t
 | .code (.seq x y)::t=>some (.code x:: .code y::t)
 | .code (.cond c x y)::t=>
   match a.eval c with
   | .bool b=>some (.code (if b then x else y)::t)
   | _=>none
 | .code (.block id c)::t=>some (.code c:: .inBlock id::t)
 | .code (.loop c)::t| .inLoop c::t=>some (.code c:: .inLoop c::t)
 | .code (.scope c)::t=>some (.code c:: .inScope c::t)
 | .code (.exit id)::t=>exitTo id t
 | .code (.goto l)::t=>gotoIn l t
 | .code (.region _ ops false)::t=>some (.inRegion ops (List.range ops.size)::t)
 | .inRegion _ []::t=>some t
 | _=>none
theorem f0E{id:Nat}{t t':List Item}(k:List Item)(h:exitTo id t=some t'):exitTo id (t++k)=some (t'++k):=by
 induction t with
 | nil=>cases h
 | cons x t ih=>
   cases x<;>simp only[exitTo,List.cons_append]at h ⊢<;>first
    | exact ih h
    | (split at h
       ·rename_i hc;cases h;simp only[hc,if_true]
       ·rename_i hc;simp only[hc,if_false];exact ih h)
theorem b02{id:Nat}{t:List Item}(k:List Item)(h:exitTo id t=none):exitTo id (t++k)=exitTo id k:=by
 induction t with
 | nil=>rfl
 | cons x t ih=>
   cases x<;>simp only[exitTo,List.cons_append]at h ⊢<;>first
    | exact ih h
    | (split at h
       ·cases h
       ·rename_i hc;simp only[hc,if_false];exact ih h)
theorem f0G{l:Nat}{t t':List Item}(k:List Item)(h:gotoIn l t=some t'):gotoIn l (t++k)=some (t'++k):=by
 induction t with
 | nil=>cases h
 | cons x t ih=>
   cases x with
   | inScope body=>
     simp only[gotoIn,List.cons_append]at h ⊢
     cases hf:findLabel body l with
     | some r=>rw[hf]at h;cases h;rfl
     | none=>rw[hf]at h;exact ih h
   | _=>exact ih h
theorem b03{l:Nat}{t:List Item}(k:List Item)(h:gotoIn l t=none):gotoIn l (t++k)=gotoIn l k:=by
 induction t with
 | nil=>rfl
 | cons x t ih=>
   cases x with
   | inScope body=>
     simp only[gotoIn,List.cons_append]at h ⊢
     cases hf:findLabel body l with
     | some r=>rw[hf]at h;cases h
     | none=>rw[hf]at h;exact ih h
   | _=>exact ih h
theorem k0g{id:Nat}{t t':List Item}(h:exitTo id t=some t'):∀x∈t',x∈t:=by
 induction t with
 | nil=>cases h
 | cons y t ih=>
   intro x hx
   cases y<;>simp only[exitTo]at h<;>first
    | exact List.mem_cons_of_mem _ (ih h x hx)
    | (split at h
       ·cases h;exact List.mem_cons_of_mem _ hx
       ·exact List.mem_cons_of_mem _ (ih h x hx))
theorem g0W{l:Nat}:∀(c c':Code),findLabel c l=some c'→Q5 P S px c=true→Q5 P S px c'=true:=by
 intro c
 induction c with
 | seq a b iha ihb=>
   intro c' h hok
   simp only[findLabel]at h
   simp only[Q5,Bool.and_eq_true]at hok
   split at h
   ·rename_i r hr
    cases h
    simp only[Q5,Bool.and_eq_true]
    exact⟨iha _ hr hok.1,hok.2⟩
   ·exact ihb _ h hok.2
 | label l'=>
   intro c' h hok
   simp only[findLabel]at h
   split at h
   ·cases h;rfl
   ·cases h
 | _=>intro c' h hok;simp[findLabel]at h
theorem n0A{l:Nat}{t t':List Item}(h:gotoIn l t=some t')(hok:∀x∈t,F5 P S px x):∀x∈t',F5 P S px x:=by
 induction t with
 | nil=>cases h
 | cons y t ih=>
   cases y<;>simp only[gotoIn]at h<;>first
    | exact ih h (fun x hx=>hok x (List.mem_cons_of_mem _ hx))
    | (split at h
       ·rename_i r hr
        cases h
        intro x hx
        rcases List.mem_cons.1 hx with rfl|hx
        ·exact g0W _ _ hr (hok _ (List.mem_cons_self ..))
        ·exact hok x hx
       ·exact ih h (fun x hx=>hok x (List.mem_cons_of_mem _ hx)))
theorem w0X{a:Act}{t t':List Item}(h:ctl a t=some t')(hok:∀x∈t,F5 P S px x):∀x∈t',F5 P S px x:=by
 cases t with
 | nil=>cases h
 | cons y t=>
   have h0:=hok y (List.mem_cons_self ..)
   have h1:∀x∈t,F5 P S px x:=fun x hx=>hok x (List.mem_cons_of_mem _ hx)
   have h2:∀{x y:Item},F5 P S px x→F5 P S px y→∀z∈x::y::t,F5 P S px z:=by
    intro x y hx hy z hz
    rcases List.mem_cons.1 hz with rfl|hz
    ·exact hx
    ·rcases List.mem_cons.1 hz with rfl|hz
     ·exact hy
     ·exact h1 z hz
   have h3:∀{x:Item},F5 P S px x→∀z∈x::t,F5 P S px z:=by
    intro x hx z hz
    rcases List.mem_cons.1 hz with rfl|hz
    ·exact hx
    ·exact h1 z hz
   cases y with
   | code c=>
     simp only[F5]at h0
     cases c with
     | skip=>cases h;exact h1
     | label=>cases h;exact h1
     | seq x y=>
       cases h
       simp only[Q5,Bool.and_eq_true]at h0
       exact h2 (x:=.code x) (y:=.code y) h0.1 h0.2
     | cond c x y=>
       simp only[ctl]at h
       simp only[Q5,Bool.and_eq_true]at h0
       split at h
       ·rename_i b hb
        cases h
        cases b
        ·exact h3 (x:=.code _) h0.2
        ·exact h3 (x:=.code _) h0.1
       ·cases h
     | block id c=>cases h;exact h2 (x:=.code c) (y:=.inBlock id) h0 trivial
     | loop c=>cases h;exact h2 (x:=.code c) (y:=.inLoop c) h0 h0
     | scope c=>cases h;exact h2 (x:=.code c) (y:=.inScope c) h0 h0
     | exit id=>exact fun x hx=>h1 x (k0g h x hx)
     | goto l=>exact n0A h h1
     | region id ops d=>
       cases d with
       | false=>cases h;exact h3 (x:=.inRegion ops _) h0
       | true=>cases h
     | _=>cases h
   | inBlock=>cases h;exact h1
   | inScope=>cases h;exact h1
   | inLoop c=>cases h;exact h2 (x:=.code c) (y:=.inLoop c) h0 h0
   | inRegion ops l=>
     cases l with
     | nil=>cases h;exact h1
     | cons=>cases h
   | _=>cases h
theorem i0B{a:Act}{t t':List Item}(h:ctl a t=some t')(main:Bool)(b:Frame)(k:List Item)(cs:List Frame)(w:World):
 stepG P main (G (b.at a (t++k)) cs) w= .go (G (b.at a (t'++k)) cs) w:=by
 cases t with
 | nil=>cases h
 | cons y t=>
   cases y with
   | code c=>
     cases c with
     | skip=>cases h;exact stepG_skip
     | label=>cases h;exact stepG_label
     | seq x y=>cases h;exact stepG_seq
     | cond c x y=>
       simp only[ctl]at h
       split at h
       ·rename_i b hb
        cases h
        exact stepG_cond hb
       ·cases h
     | block id c=>cases h;exact stepG_block
     | loop c=>cases h;exact stepG_loop
     | scope c=>cases h;simp[G,stepG,stepG.exec,Frame.at]
     | exit id=>exact stepG_exit (f0E k h)
     | goto l=>
       have:=f0G k h
       simp only[ctl]at h
       simp[G,stepG,stepG.exec,Frame.at,this]
     | region id ops d=>
       cases d with
       | false=>cases h;exact stepG_region
       | true=>cases h
     | _=>cases h
   | inBlock=>cases h;exact stepG_inBlock
   | inScope=>cases h;simp[G,stepG,stepG.exec,Frame.at]
   | inLoop c=>cases h;exact stepG_inLoop
   | inRegion ops l=>
     cases l with
     | nil=>cases h;exact stepG_region_end
     | cons=>cases h
   | _=>cases h
end
section
open Go Go.Conc
variable{P:Program}{F:Fz}{S:FuncId→Bool}{px:Bool}
def P7(P:Program):Prop:=∀fr cs g w,∃o u,early P fr cs none g w= .ended o u
theorem k0r(h1:P.follows .staticDataAhead=true)(h2:∀g,P.stepOf g=none):P7 P:=by
 intro fr cs g w
 refine⟨.unsupported (.initOrder g) (fr.pos P),w,?_⟩
 unfold early
 simp only[h1,h2,Bool.not_true,Bool.false_eq_true,if_false]
def M8(P:Program)(fr:Frame)(cs:List Frame)(v:World):Prop:=
 (∃o u,(stepG P true (G fr cs) v).bare= .ended o u)∨(∃u chain,(stepG P true (G fr cs) v).bare= .go (G {fr with mode:=.panicking chain} cs) u)
def S6 : List Item := [.code (.refuse "")]
theorem C5{s:GStep}{g:Goroutine}{u:World}{es:Array Event}(h:s= .go g u es):s.bare= .go g u:=by rw[h];rfl
inductive D05(P:Program)(F:Fz)(S:FuncId→Bool)(px:Bool)(fn:FuncId)(a:Act)(t:List Item)(w:World):Prop
 | dead (h:∀(b:Frame) (k:List Item) (cs:List Frame),b.fn=fn→b.kind≠.early→(k=[]∨k=S6)→M8 P (b.at a (t++k)) cs (L1 F w))
 | go (a':Act) (t':List Item) (w':World) (es:Array Event) (j:Nat) (hd:a'.defers=[]) (hok:∀x∈t',F5 P S px x) (hw:Wf F w') (hg:V3 F w w' j) (he:∀e∈es,J9 F e)
  (hs:∀(main:Bool) (b:Frame) (k:List Item) (cs:List Frame),b.fn=fn→b.kind≠.early→stepG P main (G (b.at a (t++k)) cs) w= .go (G (b.at a' (t'++k)) cs) w' es)
  (hl:∀(τ:Tape) (e:Nat) (b:Frame) (k:List Item) (cs:List Frame),f0T w j τ e→b.fn=fn→b.kind≠.early→(stepG P true (G (b.at a (t++k)) cs) (retape (L1 F w) τ e)).bare= .go (G (b.at a' (t'++k)) cs) (retape (L1 F w') τ (e+j)))
 | enter (f:FuncId) (args:Array Value) (w':World) (es:Array Event) (j:Nat) (hf:S f=true) (hb:∃fn c,P.funcs[f]? =some fn∧fn.body=some c) (ht:∃ops i rest t0,t= .inRegion ops (i::rest)::t0) (hw:Wf F w') (hg:V3 F w w' j) (he:∀e∈es,J9 F e)
  (hs:∀(main:Bool) (b:Frame) (k:List Item) (cs:List Frame),b.fn=fn→b.kind≠.early→stepG P main (G (b.at a (t++k)) cs) w= .go (G (Frame.enter P f args .normal) (b.at a (t++k)::cs)) w' es)
  (hl:∀(τ:Tape) (e:Nat) (b:Frame) (k:List Item) (cs:List Frame),f0T w j τ e→b.fn=fn→b.kind≠.early→(stepG P true (G (b.at a (t++k)) cs) (retape (L1 F w) τ e)).bare= .go (G (Frame.enter P f args .normal) (b.at a (t++k)::cs)) (retape (L1 F w') τ (e+j)))
theorem j0a(b:Frame)(a:Act)(s:String)(t:List Item)(cs:List Frame)(v:World):M8 P (b.at a (.code (.refuse s)::t)) cs v:=
 .inl ⟨.unsupported (Unsupported.elab s) ((b.at a (.code (.refuse s)::t)).pos P),v,by simp only[G,stepG,stepG.exec,Frame.at];rfl⟩
theorem c0L{b:Frame}{a:Act}{k:List Item}{cs:List Frame}{w:World}{main:Bool}{ops:Array Oper}{i:Nat}{rest:List Nat}(ho:ops[i]? =none):
 stepG P main (G (b.at a (.inRegion ops (i::rest)::k)) cs) w= .go (G (b.at a (.inRegion ops rest::k)) cs) w #[]:=by
 have hfin:(b.at a (.inRegion ops (i::rest)::k)).finish undef=b.at a (.inRegion ops rest::k):=by rw[Frame.finish_at,ho];rfl
 rw[← hfin]
 simp[G,stepG,stepG.exec,Frame.at,ho]
theorem b01{o:Oper}{a:Act}{w:World}{fn:FuncId}{es:Array Event}(h:∀es₀,(execOp a.eval o).events P w es₀=es₀++es)(he:∀e∈es,J9 F e):∀e∈listed P fn a o w,J9 F e:=by
 intro e hm
 have:=mem_listed hm
 rw[h]at this
 exact he e (by simpa using this)
theorem a0h(a:Act)(d:Option Tmp)(v:Value):(a.put d v).defers=a.defers:=by
 cases d<;>rfl
theorem e0G(hC:Z5 P S px)(hF:px=true→∀r,F r=none)(hE:P7 P){a:Act}{t:List Item}(fn:FuncId)(hd:a.defers=[])(hok:∀x∈t,F5 P S px x)(hne:t≠[])
 (hret:∀t',t≠.code .ret::t') (w:World) (hw:Wf F w):D05 P F S px fn a t w:=by
 cases hc:ctl a t with
 | some t'=>
   exact .go a t' w #[] 0 hd (w0X hc hok) hw (.refl _ _) (by simp) (fun main b k cs _ _=>i0B hc main b k cs w) (fun τ e b k cs _ _ _=>C5 (i0B hc true b k cs _))
 | none=>
   cases t with
   | nil=>exact absurd rfl hne
   | cons y t=>
     have h0:=hok y (List.mem_cons_self ..)
     have h1:∀x∈t,F5 P S px x:=fun x hx=>hok x (List.mem_cons_of_mem _ hx)
     cases y with
     | code c=>
       cases c with
       | ret=>exact absurd rfl (hret t)
       | refuse s=>exact .dead fun b k cs _ _ _=>j0a _ _ _ _ _ _
       | cond c x y=>
         refine .dead fun b k cs _ _ _=>.inl ?_
         simp only[ctl]at hc
         have he:=Frame.eval_at b a (.code (.cond c x y)::(t++k)) c
         simp only[Frame.at]at he
         cases hv:a.eval c with
         | bool b=>rw[hv]at hc;cases hc
         | _ => exact ⟨.stuck "cond: bool expected" ((b.at a (.code (.cond c x y) :: (t ++ k))).pos P), L1 F w, by simp only [List.cons_append, G, stepG, stepG.exec, Frame.at, he, hv]; rfl⟩
       | exit id=>
         refine .dead fun b k cs _ _ hk=>.inl ?_
         have hx:exitTo id (t++k)=none:=by
          rw[b02 k hc]
          rcases hk with rfl|rfl<;>rfl
         exact ⟨.stuck "exit, goto: no such block or label" ((b.at a (.code (.exit id) :: (t ++ k))).pos P), L1 F w, by simp only [List.cons_append, G, stepG, stepG.exec, Frame.at, hx, Option.elim]; rfl⟩
       | goto l=>
         refine .dead fun b k cs _ _ hk=>.inl ?_
         have hx:gotoIn l (t++k)=none:=by
          rw[b03 k hc]
          rcases hk with rfl|rfl<;>rfl
         exact ⟨.stuck "exit, goto: no such block or label" ((b.at a (.code (.goto l) :: (t ++ k))).pos P), L1 F w, by simp only [List.cons_append, G, stepG, stepG.exec, Frame.at, hx, Option.elim]; rfl⟩
       | rangeFunc=>simp[F5,Q5]at h0
       | region id ops d=>
         cases d with
         | false=>cases hc
         | true=>
           simp only[F5,Q5]at h0
           refine .go a (.inRegion ops (Region.schedule (P.follows .mixedOrders) ops (w.tape w.drawn (.order fn id)))::t) {w with drawn:=w.drawn+1} #[] 1 hd ?_ ⟨hw.own⟩ ⟨rfl,rfl,rfl,rfl,Nat.le_refl _,fun _ _ h=>.inr h,fun _ _=>rfl⟩ (by simp) (fun main b k cs hb _=>?_) (fun τ e b k cs ha hb _=>?_)
           ·intro z hz
            rcases List.mem_cons.1 hz with rfl|hz
            ·exact h0
            ·exact h1 z hz
           ·subst hb;exact stepG_region_draw
           ·subst hb
            refine C5 (es:= #[]) ((stepG_region_draw).trans ?_)
            have:=ha 0 (.order b.fn id) (by omega)
            simp only[Nat.add_zero]at this
            simp only[d0D,c0D,this]
            rfl
       | _=>cases hc
     | inRegion ops l=>
       cases l with
       | nil=>cases hc
       | cons i rest=>
         cases ho:ops[i]? with
         | none=>
           refine .go a (.inRegion ops rest::t) w #[] 0 hd ?_ hw (.refl _ _) (by simp) (fun main b k cs _ _=>c0L ho) (fun τ e b k cs _ _ _=>C5 (c0L ho))
           intro z hz
           rcases List.mem_cons.1 hz with rfl|hz
           ·exact h0
           ·exact h1 z hz
         | some o=>
           have q05:∀(v:Value) (z:Item),z∈Item.inRegion ops rest::t→F5 P S px z:=by
            intro v z hz
            rcases List.mem_cons.1 hz with rfl|hz
            ·exact h0
            ·exact h1 z hz
           cases hwt:Region.wanted o (yielded ops a.tmps)with
           | false=>
             exact .go (a.put o.dst undef) (.inRegion ops rest::t) w #[] 0 (by rw[a0h];exact hd) (q05 undef) hw (.refl _ _) (by simp) (fun main b k cs _ _=>stepG_unwanted ho hwt) (fun τ e b k cs _ _ _=>C5 (stepG_unwanted ho hwt))
           | true=>
             have hoo:h0a P S px o.op=true:=by
              simp only[F5,Array.all_eq_true_iff_forall_mem]at h0
              exact h0 o (Array.mem_of_getElem? ho)
             have hsim:=a0J hC hF a.eval (fun _=>rfl) (fun _=>rfl) o hoo w hw
             have hkind:=i0H hC a.eval (fun _=>rfl) o hoo
             cases hr:(execOp a.eval o).run P (L1 F w)with
             | ok n u=>
               have hn:=hkind _ _ _ hr
               obtain⟨w',es,j,rfl,r1,e1,t1,g1,hw1,l1⟩:=hsim.ok hr
               cases n with
               | value v=>
                 refine .go (a.put o.dst v) (.inRegion ops rest::t) w' (listed P fn a o w) j (by rw[a0h];exact hd) (q05 v) hw1 g1 (b01 e1 t1) (fun main b k cs hb hk=>?_) (fun τ e b k cs ha hb hk=>?_)
                 ·subst hb;exact stepG_value ho hwt hk r1
                 ·exact C5 (stepG_value ho hwt hk (l1 τ e ha))
               | skip=>
                 refine .go (a.put o.dst undef) (.inRegion ops rest::t) w' (listed P fn a o w) j (by rw[a0h];exact hd) (q05 undef) hw1 g1 (b01 e1 t1) (fun main b k cs hb hk=>?_) (fun τ e b k cs ha hb hk=>?_)
                 ·subst hb;exact stepG_none ho hwt hk r1
                 ·exact C5 (stepG_none ho hwt hk (l1 τ e ha))
               | enter f args=>
                 refine .enter f args w' (listed P fn a o w) j hn.1 hn.2 ⟨_,_,_,_,rfl⟩ hw1 g1 (b01 e1 t1) (fun main b k cs hb hk=>?_) (fun τ e b k cs ha hb hk=>?_)
                 ·subst hb;exact stepG_enter ho hwt hk r1
                 ·exact C5 (stepG_enter ho hwt hk (l1 τ e ha))
               | _=>exact hn.elim
             | halt h u=>
               unfold J6 at hsim
               rw[hr]at hsim
               refine .dead fun b k cs hb hk _=>?_
               have hk':(b.kind == CallKind.early)=false:=by simpa using hk
               have hst:=stepG_oper (P:=P) (main:=true) (b:=b) (k:=t++k) (cs:=cs) (w:=L1 F w) (rest:=rest) ho hwt
               cases h with
               | panic v=>
                 right
                 refine⟨u,[{v,recovered:=false}],?_⟩
                 rw[List.cons_append,hst]
                 simp only[stepG.apply,Sem.runT_eq,hr,if_true,GStep.bare_after,GStep.bare_go,Frame.raise,Frame.at]
                 rfl
               | stuck s=>
                 left
                 refine⟨.stuck s ((b.at a (.inRegion ops (i::rest)::(t++k))).pos P),u,?_⟩
                 rw[List.cons_append,hst]
                 simp only[stepG.apply,Sem.runT_eq,hr,if_true,GStep.bare_after,GStep.bare_ended]
               | unsupported x=>
                 left
                 by_cases hx:∃g,x= .initOrder g
                 ·obtain⟨g,rfl⟩:=hx
                  obtain⟨o',u',h'⟩:=hE (b.at a (.inRegion ops (i::rest)::(t++k))) cs g u
                  refine⟨o',u',?_⟩
                  rw[List.cons_append,hst]
                  simp only[stepG.apply,Sem.runT_eq,hr,if_true,h',GStep.bare_after,GStep.bare_ended]
                 ·refine⟨.unsupported x ((b.at a (.inRegion ops (i::rest)::(t++k))).pos P),u,?_⟩
                  rw[List.cons_append,hst]
                  cases x<;>first
                   | exact absurd ⟨_,rfl⟩ hx
                   | simp only[stepG.apply,Sem.runT_eq,hr,if_true,GStep.bare_after,GStep.bare_ended]
               | _=>exact hsim.elim
     | inBlock=>cases hc
     | inScope=>cases hc
     | inLoop=>cases hc
     | _=>exact h0.elim
end
section
open Go Go.Conc
variable{P:Program}{F:Fz}{S:FuncId→Bool}{px:Bool}
structure p7 where
 us:List Frame
 a:Act
 t:List Item
def c0r(b:Frame)(k:List Item)(C:p7):Frame:=
 match C.us with
 | []=>b.at C.a (C.t++k)
 | f::_=>f
def b0z(b:Frame)(k:List Item)(cs:List Frame)(C:p7):List Frame:=
 match C.us with
 | []=>cs
 | _::us=>us++b.at C.a (C.t++k)::cs
def emb(b:Frame)(k:List Item)(cs:List Frame)(C:p7):Goroutine:=G (c0r b k C) (b0z b k cs C)
def u0o(t:List Item):Prop:=∃ops i rest t0,t= .inRegion ops (i::rest)::t0
def u0n(P:Program)(S:FuncId→Bool)(px:Bool)(fr:Frame):Prop:=
 ∃(b':Frame) (tm:Array Value) (todo:List Item),fr=b'.at ⟨tm,[]⟩ todo∧b'.kind= .normal∧S b'.fn=true∧(∀x∈todo,F5 P S px x)
def w0A(P:Program)(S:FuncId→Bool)(px:Bool)(fr:Frame):Prop:=
 ∃(b':Frame) (tm:Array Value) (todo:List Item),fr=b'.at ⟨tm,[]⟩ todo∧b'.kind= .normal∧S b'.fn=true∧(∀x∈todo,F5 P S px x)∧u0o todo
def z0S(P:Program)(S:FuncId→Bool)(fr:Frame):Prop:=
 ∃(b':Frame) (tm:Array Value) (todo:List Item),fr={b'.at ⟨tm,[]⟩ todo with mode:=.returning}∧b'.kind= .normal∧S b'.fn=true
structure L8(P:Program)(S:FuncId→Bool)(px:Bool)(C:p7):Prop where
 defers:C.a.defers=[]
 items:∀x∈C.t,F5 P S px x
 top:∀f us,C.us=f::us→(u0n P S px f∨z0S P S f)∧(∀g∈us,w0A P S px g)∧u0o C.t
def Arr(C:p7):Prop:=C.us=[]∧(C.t=[]∨∃t',C.t= .code .ret::t')
inductive z0N(P:Program)(F:Fz)(S:FuncId→Bool)(px:Bool)(fn:FuncId)(C:p7)(w:World):Prop
 | dead (h:∀(b:Frame) (cs:List Frame),b.fn=fn→b.kind≠.early→M8 P (c0r b S6 C) (b0z b S6 cs C) (L1 F w))
 | go (C':p7) (w':World) (es:Array Event) (j:Nat) (hok:L8 P S px C') (hw:Wf F w') (hg:V3 F w w' j) (he:∀e∈es,J9 F e)
  (hs:∀(main:Bool) (b:Frame) (k:List Item) (cs:List Frame),b.fn=fn→b.kind≠.early→stepG P main (emb b k cs C) w= .go (emb b k cs C') w' es)
  (hl:∀(τ:Tape) (e:Nat) (b:Frame) (k:List Item) (cs:List Frame),f0T w j τ e→b.fn=fn→b.kind≠.early→(stepG P true (emb b k cs C) (retape (L1 F w) τ e)).bare= .go (emb b k cs C') (retape (L1 F w') τ (e+j)))
theorem d0P(hC:Z5 P S px){f:FuncId}{args:Array Value}(hf:S f=true)(hb:∃fn c,P.funcs[f]? =some fn∧fn.body=some c):u0n P S px (Frame.enter P f args .normal):=by
 obtain⟨fn,c,h1,h2⟩:=hb
 obtain⟨fn',h1',_,h3⟩:=hC f hf
 rw[h1]at h1'
 cases h1'
 rcases h3 with⟨c',hb',hok⟩|⟨hb',_⟩
 ·rw[h2]at hb'
  cases hb'
  refine⟨base f,_,_,enter_at args h1 h2,rfl,hf,fun x hx=>?_⟩
  simp only[List.mem_singleton]at hx
  subst hx
  exact hok
 ·rw[h2]at hb';cases hb'
theorem a0i(fn:Func)(tm:Array Value):j0 P F (results fn tm):=by
 unfold results
 refine j0.bind (j0.mapMArray (fun r=>?_) _) fun _=>?_
 ·cases r with
  | tmp t=>exact j0.pure' _
  | cell a t=>exact j0.bind (j0.asAddr _) fun _=>j0.loadVar _ _
 ·exact j0.pure' _
theorem G8{main:Bool}{b:Frame}{tm:Array Value}{todo:List Item}{c:Frame}{cs:List Frame}{w w':World}{v:Value}{fn:Func}(hn:b.kind= .normal)(hf:P.funcs[b.fn]? =some fn)
 (hr:(results fn tm).run P w= .ok v w'):stepG P main (G {b.at ⟨tm,[]⟩ todo with mode:=.returning} (c::cs)) w= .go (G (c.finish v) cs) w' (seen P b.fn ((results fn tm).events P w #[])):=by
 simp[G,stepG,unwind,doReturn,Frame.at,hn,hf,hr,GStep.after]
theorem s0Q(tm:Array Value)(d:Option Tmp)(v:Value):∃tmx,(Act.mk tm []).put d v=⟨tmx,[]⟩:=by
 cases d<;>exact⟨_,rfl⟩
theorem o0Y{fn:FuncId}{es:Array Event}(he:∀e∈es,J9 F e):∀e∈seen P fn es,J9 F e:=fun e h=>he e (mem_seen h)
theorem f02(hC:Z5 P S px)(hF:px=true→∀r,F r=none)(hE:P7 P)(fn:FuncId){C:p7}(hok:L8 P S px C)(hna:¬Arr C)(w:World)(hw:Wf F w):z0N P F S px fn C w:=by
 obtain⟨us,a,t⟩:=C
 cases us with
 | nil=>
   have hne:t≠[]:=fun h=>hna ⟨rfl,.inl h⟩
   have hret:∀t',t≠.code .ret::t':=fun t' h=>hna ⟨rfl,.inr ⟨t',h⟩⟩
   rcases e0G hC hF hE fn hok.defers hok.items hne hret w hw with h|⟨a',t',w',es,j,hd,hok',hw',hg,he,hs,hl⟩|⟨f,args,w',es,j,hf,hb,ht,hw',hg,he,hs,hl⟩
   ·exact .dead fun b cs hb hk=>h b S6 cs hb hk (.inr rfl)
   ·exact .go ⟨[],a',t'⟩ w' es j ⟨hd,hok',fun f us h=>by cases h⟩ hw' hg he (fun main b k cs hb hk=>hs main b k cs hb hk) (fun τ e b k cs ha hb hk=>hl τ e b k cs ha hb hk)
   ·refine .go ⟨[Frame.enter P f args .normal],a,t⟩ w' es j ⟨hok.defers,hok.items,fun g us h=>?_⟩ hw' hg he (fun main b k cs hb hk=>hs main b k cs hb hk) (fun τ e b k cs ha hb hk=>hl τ e b k cs ha hb hk)
    cases h
    exact⟨.inl (d0P hC hf hb),by simp,ht⟩
 | cons f us=>
   obtain⟨hf,hus,hwt⟩:=hok.top f us rfl
   rcases hf with⟨b',tm,todo,rfl,hk',hS',hit⟩|⟨b',tm,todo,rfl,hk',hS'⟩
   ·have hke:b'.kind≠.early:=by rw[hk'];simp
    by_cases hend:todo=[]∨∃t',todo= .code .ret::t'
    ·-- the upper frame's end
     have hst:∀(main:Bool) (cs:List Frame) (w:World),stepG P main (G (b'.at ⟨tm,[]⟩ todo) cs) w= .go (G {b'.at ⟨tm,[]⟩ todo with mode:=.returning} cs) w:=by
      intro main cs w
      rcases hend with rfl|⟨t',rfl⟩
      ·exact stepG_end
      ·exact stepG_ret'
     refine .go ⟨{b'.at ⟨tm,[]⟩ todo with mode:=.returning}::us,a,t⟩ w #[] 0 ⟨hok.defers,hok.items,fun g us' h=>?_⟩ hw (.refl _ _) (by simp) (fun main b k cs _ _=>hst _ _ _) (fun τ e b k cs _ _ _=>C5 (hst _ _ _))
     cases h
     exact⟨.inr ⟨b',tm,todo,rfl,hk',hS'⟩,hus,hwt⟩
    ·have hne:todo≠[]:=fun h=>hend (.inl h)
     have hret:∀t',todo≠.code .ret::t':=fun t' h=>hend (.inr ⟨t',h⟩)
     rcases e0G (a:=⟨tm,[]⟩) hC hF hE b'.fn rfl hit hne hret w hw with h|⟨a',t',w',es,j,hd,hok',hw',hg,he,hs,hl⟩|⟨f,args,w',es,j,hf,hb,ht,hw',hg,he,hs,hl⟩
     ·refine .dead fun b cs hb hk=>?_
      have:=h b' [] (us++b.at a (t++S6)::cs) rfl hke (.inl rfl)
      rw[List.append_nil]at this
      exact this
     ·obtain⟨tm',df'⟩:=a'
      simp only at hd
      subst hd
      refine .go ⟨b'.at ⟨tm',[]⟩ t'::us,a,t⟩ w' es j ⟨hok.defers,hok.items,fun g us' h=>?_⟩ hw' hg he (fun main b k cs hb hk=>?_) (fun τ e b k cs ha hb hk=>?_)
      ·cases h
       exact⟨.inl ⟨b',tm',t',rfl,hk',hS',hok'⟩,hus,hwt⟩
      ·have:=hs main b' [] (us++b.at a (t++k)::cs) rfl hke
       rw[List.append_nil,List.append_nil]at this
       exact this
      ·have:=hl τ e b' [] (us++b.at a (t++k)::cs) ha rfl hke
       rw[List.append_nil,List.append_nil]at this
       exact this
     ·refine .go ⟨Frame.enter P f args .normal::b'.at ⟨tm,[]⟩ todo::us,a,t⟩ w' es j ⟨hok.defers,hok.items,fun g us' h=>?_⟩ hw' hg he (fun main b k cs hb hk=>?_) (fun τ e b k cs ha hb hk=>?_)
      ·cases h
       refine⟨.inl (d0P hC hf hb),fun g hg=>?_,hwt⟩
       rcases List.mem_cons.1 hg with rfl|hg
       ·exact⟨b',tm,todo,rfl,hk',hS',hit,ht⟩
       ·exact hus g hg
      ·have:=hs main b' [] (us++b.at a (t++k)::cs) rfl hke
       rw[List.append_nil]at this
       exact this
      ·have:=hl τ e b' [] (us++b.at a (t++k)::cs) ha rfl hke
       rw[List.append_nil]at this
       exact this
   ·-- the upper frame returns
    obtain⟨fn',hfn',_,_⟩:=hC b'.fn hS'
    have hsim:=a0i (P:=P) (F:=F) fn' tm w hw
    cases hr:(results fn' tm).run P (L1 F w)with
    | halt h u=>
      refine .dead fun b cs hb hk=>.inl ?_
      simp only[c0r,b0z]
      cases us with
      | nil=>
        cases h with
        | stuck s=>exact⟨_,u,by simp only[G,stepG,unwind,Frame.at,hfn',Sem.runT_eq,hr,GStep.bare_after,GStep.bare_ended];rfl⟩
        | _ => exact ⟨.stuck "return: the result variables cannot be read" (({ b'.at ⟨tm, []⟩ todo with mode := .returning } : Frame).pos P), u, by simp only [G, stepG, unwind, Frame.at, hfn', Sem.runT_eq, hr, GStep.bare_after, GStep.bare_ended]⟩
      | cons g us=>
        cases h with
        | stuck s=>exact⟨_,u,by simp only[G,stepG,unwind,Frame.at,hfn',Sem.runT_eq,hr,GStep.bare_after,GStep.bare_ended];rfl⟩
        | _ => exact ⟨.stuck "return: the result variables cannot be read" (({ b'.at ⟨tm, []⟩ todo with mode := .returning } : Frame).pos P), u, by simp only [G, stepG, unwind, Frame.at, hfn', Sem.runT_eq, hr, GStep.bare_after, GStep.bare_ended]⟩
    | ok v u=>
      obtain⟨w',es,j,rfl,r1,e1,t1,g1,hw1,l1⟩:=hsim.ok hr
      have hev:∀e∈seen P b'.fn ((results fn' tm).events P w #[]),J9 F e:=o0Y fun e h=>t1 e (by rw[e1]at h;simpa using h)
      cases us with
      | nil=>
        obtain⟨ops,i,rest,t0,rfl⟩:=hwt
        refine .go ⟨[],a.put ((ops[i]?).bind (·.dst)) v,.inRegion ops rest::t0⟩ w' _ j ⟨by rw[a0h];exact hok.defers,fun x hx=>?_,fun g us h=>by cases h⟩ hw1 g1 hev (fun main b k cs hb hk=>?_) (fun τ e b k cs ha hb hk=>?_)
        ·rcases List.mem_cons.1 hx with rfl|hx
         ·exact hok.items (.inRegion ops (i::rest)) (List.mem_cons_self ..)
         ·exact hok.items x (List.mem_cons_of_mem _ hx)
        ·refine(G8 hk' hfn' r1).trans ?_
         rw[List.cons_append,Frame.finish_at]
         rfl
        ·have:=G8 (main:=true) (todo:=todo) (c:=b.at a (.inRegion ops (i::rest)::(t0++k))) (cs:=cs) hk' hfn' (l1 τ e ha)
         rw[Frame.finish_at]at this
         exact C5 this
      | cons g us=>
        obtain⟨b'',tm'',todo'',rfl,hk'',hS'',hit'',ops,i,rest,t0,rfl⟩:=hus g (List.mem_cons_self ..)
        obtain⟨tmx,hx⟩:∃tmx,(Act.mk tm'' []).put ((ops[i]?).bind (·.dst)) v=⟨tmx,[]⟩:=s0Q _ _ _
        refine .go ⟨b''.at ⟨tmx,[]⟩ (.inRegion ops rest::t0)::us,a,t⟩ w' _ j ⟨hok.defers,hok.items,fun g us' h=>?_⟩ hw1 g1 hev (fun main b k cs hb hk=>?_) (fun τ e b k cs ha hb hk=>?_)
        ·cases h
         refine⟨.inl ⟨b'',tmx,_,rfl,hk'',hS'',fun x hx=>?_⟩,fun g hg=>hus g (List.mem_cons_of_mem _ hg),hwt⟩
         rcases List.mem_cons.1 hx with rfl|hx
         ·exact hit'' (.inRegion ops (i::rest)) (List.mem_cons_self ..)
         ·exact hit'' x (List.mem_cons_of_mem _ hx)
        ·refine(G8 hk' hfn' r1).trans ?_
         rw[Frame.finish_at,hx]
         rfl
        ·have:=G8 (main:=true) (todo:=todo) (c:=b''.at ⟨tm'',[]⟩ (.inRegion ops (i::rest)::t0)) (cs:=us++b.at a (t++k)::cs) hk' hfn' (l1 τ e ha)
         rw[Frame.finish_at,hx]at this
         exact C5 this
end
section
open Go Go.Conc
variable{P:Program}{F:Fz}{S:FuncId→Bool}{px:Bool}
def trap : Frame := { fn := 0, tmps := #[], todo := [.code (.refuse "")], defers := [{ target := .nil, args := #[] }], mode := .run, kind := .normal }
def LM(fn:FuncId)(C:p7)(u:World):Machine:=lone (c0r (base fn) S6 C) (b0z (base fn) S6 [trap] C) u
def Fin(fn:FuncId)(Q:Exit→Act→World→Prop)(m:Machine):Prop:=
 (∃a u,m=lone ((base fn).at a S6) [trap] u∧Q .normal a u)∨(∃a u todo,m=lone {(base fn).at a todo with mode:=.returning} [trap] u∧Q .ret a u∧a.defers=[])
theorem U6{fr fr':Frame}{cs cs':List Frame}{w w':World}(h:lone fr cs w=lone fr' cs' w'):fr=fr'∧cs=cs'∧w=w':=by
 unfold lone at h
 simp only[Machine.mk.injEq]at h
 have h2:=h.2.1
 simp at h2
 exact⟨h2.1,h2.2,h.1⟩
theorem s0k(fn:FuncId)(C:p7):b0z (base fn) S6 [trap] C≠[]:=by
 unfold b0z
 split
 ·simp
 ·simp
theorem i0F{fn:FuncId}{C:p7}{f:Frame}(h:b0z (base fn) S6 [trap] C=[f]):C.us=[]:=by
 unfold b0z at h
 split at h
 ·assumption
 ·rename_i us hus
  exfalso
  have:=congrArg List.length h
  simp at this
theorem j7{m:Machine}{o:Outcome}{u:World}(h:step P m= .ended o u)(n:Nat)(m':Machine):runN P (n+1) m≠.next m':=by
 simp[runN,h]
theorem a0R{m m1:Machine}(h:step P m= .next m1)(n:Nat):runN P (n+1) m=runN P n m1:=by
 simp[runN,h]
theorem f0y(u:World):∃o v,step P (lone trap [] u)= .ended o v:=by
 refine ⟨.unsupported (Unsupported.elab "") (trap.pos P), u, step_lone_ended ?_⟩
 simp only[stepG,stepG.exec,trap]
 rfl
theorem j0b(fn:FuncId)(a:Act)(todo:List Item)(v:World)(hd:a.defers=[]):
 (∃u,step P (lone {(base fn).at a todo with mode:=.returning} [trap] v)= .next (lone trap [] u))∨∃o x,step P (lone {(base fn).at a todo with mode:=.returning} [trap] v)= .ended o x:=by
 cases hf:P.funcs[fn]? with
 | none=>
   left
   exact⟨v,step_lone_go (by simp[stepG,unwind,doReturn,Frame.at,base,hd,hf,trap,Frame.finish])⟩
 | some f=>
   cases hr:(results f a.tmps).run P v with
   | ok x u=>
     left
     exact⟨u,step_lone_go (by simp[stepG,unwind,doReturn,Frame.at,base,hd,hf,trap,Frame.finish,hr])⟩
   | halt h u=>
     right
     cases h with
     | stuck s=>exact⟨.stuck s (({(base fn).at a todo with mode:=.returning}:Frame).pos P),u,step_lone_ended (by simp[stepG,unwind,Frame.at,base,hd,hf,hr])⟩
     | _ => exact ⟨.stuck "return: the result variables cannot be read" (({ (base fn).at a todo with mode := .returning } : Frame).pos P), u, step_lone_ended (by simp [stepG, unwind, Frame.at, base, hd, hf, hr])⟩
theorem i0J{fn:FuncId}{Q:Exit→Act→World→Prop}{m m':Machine}(h:Fin fn Q m)(n:Nat)(hr:runN P (n+1) m= .next m'):∀C u,m'≠LM fn C u:=by
 intro C u hm
 subst hm
 rcases h with⟨a,v,rfl,_⟩|⟨a,v,todo,rfl,_,hd⟩
 ·have:∃o x,step P (lone ((base fn).at a S6) [trap] v)= .ended o x:=by
   refine ⟨.unsupported (Unsupported.elab "") (((base fn).at a S6).pos P), v, step_lone_ended ?_⟩
   simp only[stepG,stepG.exec,S6,Frame.at]
   rfl
  obtain⟨o,x,hx⟩:=this
  exact j7 hx _ _ hr
 ·rcases j0b (P:=P) fn a todo v hd with⟨x,hx⟩|⟨o,x,hx⟩
  ·rw[a0R hx]at hr
   cases n with
   | zero=>
     simp only[runN,Stepped.next.injEq]at hr
     exact s0k fn C (U6 hr).2.1.symm
   | succ n=>
     obtain⟨o,y,hy⟩:=f0y (P:=P) x
     exact j7 hy _ _ hr
  ·exact j7 hx _ _ hr
def w0z(m:Machine):Prop:=
 ∃fr cs u,m=lone fr cs u∧(∃chain,fr.mode= .panicking chain)∧
  ((fr.defers=[]∧∃cs',cs=cs'++[trap]∧∀g∈cs',g.mode= .run∧g.defers=[])∨(fr.defers=trap.defers∧cs=[]))
theorem n0U{m:Machine}(h:w0z m):(∃m',step P m= .next m'∧w0z m')∨∃o u,step P m= .ended o u:=by
 obtain⟨fr,cs,u,rfl,⟨chain,hm⟩,h⟩:=h
 obtain⟨ffn,tm,todo,df,md,kd,ro⟩:=fr
 simp only at hm h
 subst hm
 rcases h with⟨hd,cs',rfl,hcs⟩|⟨hd,rfl⟩
 ·subst hd
  by_cases hc:Frame.catches P {fn:=ffn,tmps:=tm,todo:=todo,defers:=[],mode:=.panicking chain,kind:=kd,roundOf:=ro}=true
  ·right
   exact⟨_,u,step_lone_ended (by simp only[stepG,unwind,hc,if_true,GStep.bare_ended];rfl)⟩
  ·left
   have hc':Frame.catches P {fn:=ffn,tmps:=tm,todo:=todo,defers:=[],mode:=.panicking chain,kind:=kd,roundOf:=ro}=false:=by simpa using hc
   cases cs' with
   | nil=>
     refine⟨lone (trap.raise chain) [] u,step_lone_go (by simp only[stepG,unwind,hc',List.nil_append,Bool.false_eq_true,if_false,GStep.bare_go]),_,_,_,rfl,⟨chain,rfl⟩,.inr ⟨rfl,rfl⟩⟩
   | cons g cs'=>
     obtain⟨h1,h2⟩:=hcs g (List.mem_cons_self ..)
     have hr:g.raise chain={g with mode:=.panicking chain}:=by unfold Frame.raise;rw[h1]
     refine⟨lone (g.raise chain) (cs'++[trap]) u,step_lone_go (by simp only[stepG,unwind,hc',List.cons_append,Bool.false_eq_true,if_false,GStep.bare_go]),_,_,_,rfl,⟨chain,by rw[hr]⟩,.inl ⟨by rw[hr];exact h2,cs',rfl,fun x hx=>hcs x (List.mem_cons_of_mem _ hx)⟩⟩
 ·subst hd
  right
  exact⟨_,u,step_lone_ended (by simp only[stepG,unwind,callDeferred,trap];rfl)⟩
theorem q0d{fn:FuncId}{Q:Exit→Act→World→Prop}{m:Machine}(h:w0z m):∀n m',runN P n m= .next m'→¬Fin fn Q m':=by
 intro n
 induction n generalizing m with
 | zero=>
   intro m' hr hf
   simp only[runN,Stepped.next.injEq]at hr
   subst hr
   obtain⟨fr,cs,u,rfl,⟨chain,hm⟩,_⟩:=h
   rcases hf with⟨a,v,h1,_⟩|⟨a,v,todo,h1,_⟩
   ·rw[(U6 h1).1]at hm;cases hm
   ·rw[(U6 h1).1]at hm;cases hm
 | succ n ih=>
   intro m' hr
   rcases n0U (P:=P) h with⟨m1,h1,h2⟩|⟨o,u,h1⟩
   ·rw[a0R h1]at hr;exact ih h2 m' hr
   ·exact absurd hr (j7 h1 _ _)
theorem p0x{fn:FuncId}{Q:Exit→Act→World→Prop}{C:p7}{u:World}(hok:L8 P S px C)(h:Fin fn Q (LM fn C u)):C.us=[]∧C.t=[]∧Q .normal C.a u:=by
 rcases h with⟨a,v,h1,hq⟩|⟨a,v,todo,h1,_⟩
 ·obtain⟨h2,h3,h4⟩:=U6 h1
  have hus:=i0F h3
  unfold c0r at h2
  rw[hus]at h2
  simp only[Frame.at,Frame.mk.injEq]at h2
  obtain⟨_,h5,h6,h7,_⟩:=h2
  have h8:C.t=[]:=by
   have:=congrArg List.length h6
   simp at this
   exact this
  have h9:C.a=a:=by
   cases hC:C.a
   cases a
   rw[hC]at h5 h7
   simp only at h5 h7
   rw[h5,h7]
  exact⟨hus,h8,by rw[h9,h4];exact hq⟩
 ·obtain⟨h2,h3,_⟩:=U6 h1
  have hus:=i0F h3
  unfold c0r at h2
  rw[hus]at h2
  simp[Frame.at]at h2
theorem o0Q{fn:FuncId}{Q:Exit→Act→World→Prop}{C:p7}{u:World}(hok:L8 P S px C)(hna:¬Arr C)(h:M8 P (c0r (base fn) S6 C) (b0z (base fn) S6 [trap] C) u):
 ∀n m',runN P n (LM fn C u)= .next m'→¬Fin fn Q m':=by
 intro n m' hr hf
 cases n with
 | zero=>
   simp only[runN,Stepped.next.injEq]at hr
   subst hr
   obtain⟨h1,h2,_⟩:=p0x hok hf
   exact hna ⟨h1,.inl h2⟩
 | succ n=>
   rcases h with⟨o,v,h⟩|⟨v,chain,h⟩
   ·exact j7 (step_lone_ended h) _ _ hr
   ·have hs:step P (LM fn C u)= .next (lone {c0r (base fn) S6 C with mode:=.panicking chain} (b0z (base fn) S6 [trap] C) v):=step_lone_go h
    rw[a0R hs]at hr
    refine q0d ?_ n m' hr hf
    refine⟨_,_,_,rfl,⟨chain,rfl⟩,.inl ?_⟩
    obtain⟨us,a,t⟩:=C
    cases us with
    | nil=>exact⟨hok.defers,[],rfl,by simp⟩
    | cons f us=>
      obtain⟨hf',hus,_⟩:=hok.top f us rfl
      refine⟨?_,us++[(base fn).at a (t++S6)],by simp[b0z],fun g hg=>?_⟩
      ·rcases hf' with⟨b',tm,todo,rfl,_⟩|⟨b',tm,todo,rfl,_⟩<;>rfl
      ·rcases List.mem_append.1 hg with hg|hg
       ·obtain⟨b',tm,todo,rfl,_⟩:=hus g hg
        exact⟨rfl,rfl⟩
       ·simp only[List.mem_singleton]at hg
        subst hg
        exact⟨rfl,hok.defers⟩
theorem r0X{fn:FuncId}{Q:Exit→Act→World→Prop}{C:p7}{u:World}(hok:L8 P S px C)(ha:Arr C){n:Nat}{m':Machine}(hr:runN P n (LM fn C u)= .next m')(hf:Fin fn Q m'):
 (C.t=[]∧Q .normal C.a u)∨((∃t',C.t= .code .ret::t')∧Q .ret C.a u):=by
 obtain⟨us,a,t⟩:=C
 obtain⟨h1,h2⟩:=ha
 simp only at h1 h2
 subst h1
 cases n with
 | zero=>
   simp only[runN,Stepped.next.injEq]at hr
   subst hr
   obtain⟨_,h3,h4⟩:=p0x hok hf
   exact .inl ⟨h3,h4⟩
 | succ n=>
   rcases h2 with rfl|⟨t',rfl⟩
   ·exfalso
    have:∃o x,step P (LM fn ⟨[],a,[]⟩ u)= .ended o x:=by
     refine ⟨.unsupported (Unsupported.elab "") (((base fn).at a S6).pos P), u, step_lone_ended ?_⟩
     simp only[c0r,b0z,List.nil_append,stepG,stepG.exec,S6,Frame.at]
     rfl
    obtain⟨o,x,hx⟩:=this
    exact j7 hx _ _ hr
   ·have hs:step P (LM fn ⟨[],a,.code .ret::t'⟩ u)= .next (lone {(base fn).at a (.code .ret::(t'++S6))with mode:=.returning} [trap] u):=step_ret
    rw[a0R hs]at hr
    right
    refine⟨⟨t',rfl⟩,?_⟩
    cases n with
    | zero=>
      simp only[runN,Stepped.next.injEq]at hr
      subst hr
      rcases hf with⟨a',v,h3,_⟩|⟨a',v,todo,h3,hq,_⟩
      ·obtain⟨h4,_⟩:=U6 h3
       simp[Frame.at]at h4
      ·obtain⟨h4,_,h5⟩:=U6 h3
       simp only[Frame.at,Frame.mk.injEq]at h4
       obtain⟨_,h6,_,h7,_⟩:=h4
       have h9:a=a':=by cases a;cases a';simp only at h6 h7;rw[h6,h7]
       rw[h9,h5];exact hq
    | succ n=>
      exfalso
      rcases j0b (P:=P) fn a (.code .ret::(t'++S6)) u hok.defers with⟨x,hx⟩|⟨o,x,hx⟩
      ·rw[a0R hx]at hr
       cases n with
       | zero=>
         simp only[runN,Stepped.next.injEq]at hr
         subst hr
         rcases hf with⟨a',v,h3,_⟩|⟨a',v,todo,h3,_⟩
         ·exact absurd (U6 h3).2.1 (by simp)
         ·exact absurd (U6 h3).2.1 (by simp)
       | succ n=>
         obtain⟨o,y,hy⟩:=f0y (P:=P) x
         exact j7 hy _ _ hr
      ·exact j7 hx _ _ hr
end
section
open Go Go.Conc
variable{P:Program}{F:Fz}{S:FuncId→Bool}{px:Bool}
def H7(F:Fz)(w w':World)(es:Array Event):Prop:=(∃j,V3 F w w' j)∧∀e∈es,J9 F e
inductive J0(P:Program)(main:Bool)(F:Fz)(Stop:Goroutine→World→Prop):Goroutine→World→Prop
 | stop {g:Goroutine} {w:World} (h:∀d,Stop g (w.at d)):J0 P main F Stop g w
 | step' {g:Goroutine} {w:World} (hr:g.status= .running) (g':Nat→Goroutine) (w':Nat→World) (es:Nat→Array Event) (hs:∀d,stepG P main g (w.at d)= .go (g' d) (w' d) (es d)) (hg:∀d,H7 F (w.at d) (w' d) (es d))
  (h:∀d,J0 P main F Stop (g' d) (w' d)):J0 P main F Stop g w
theorem J0.step{main:Bool}{Stop:Goroutine→World→Prop}{g:Goroutine}{w:World}(hr:g.status= .running)(h:∀d,∃g' w' es,stepG P main g (w.at d)= .go g' w' es∧H7 F (w.at d) w' es∧J0 P main F Stop g' w'):J0 P main F Stop g w:=
 .step' hr (fun d=>(h d).choose) (fun d=>(h d).choose_spec.choose) (fun d=>(h d).choose_spec.choose_spec.choose) (fun d=>(h d).choose_spec.choose_spec.choose_spec.1) (fun d=>(h d).choose_spec.choose_spec.choose_spec.2.1) (fun d=>(h d).choose_spec.choose_spec.choose_spec.2.2)
theorem J0.bind{main:Bool}{Stop Stop':Goroutine→World→Prop}{g:Goroutine}{w:World}(h:J0 P main F Stop g w)(hk:∀(g:Goroutine) (w:World),(∀d,Stop g (w.at d))→J0 P main F Stop' g w):J0 P main F Stop' g w:=by
 induction h with
 | stop h=>exact hk _ _ h
 | step' hr g' w' es hs hg _ ih=>exact .step' hr g' w' es hs hg ih
structure St(P:Program)(F:Fz)(S:FuncId→Bool)(px:Bool)(fn:FuncId)(C:p7)(w:World)(C':p7)(w':World)(es:Array Event)(j:Nat):Prop where
 hok:L8 P S px C'
 hw:Wf F w'
 hg:V3 F w w' j
 he:∀e∈es,J9 F e
 hs:∀(main:Bool) (b:Frame) (k:List Item) (cs:List Frame),b.fn=fn→b.kind≠.early→stepG P main (emb b k cs C) w= .go (emb b k cs C') w' es
 hl:∀(τ:Tape) (e:Nat),f0T w j τ e→step P (LM fn C (retape (L1 F w) τ e))= .next (LM fn C' (retape (L1 F w') τ (e+j)))
theorem w0d(fn:FuncId){C:p7}{w:World}(h:z0N P F S px fn C w)(hnd:¬M8 P (c0r (base fn) S6 C) (b0z (base fn) S6 [trap] C) (L1 F w)):∃C' w' es j,St P F S px fn C w C' w' es j:=by
 cases h with
 | dead h=>exact absurd (h (base fn) [trap] rfl (by simp[base])) hnd
 | go C' w' es j hok hw hg he hs hl=>exact⟨C',w',es,j,hok,hw,hg,he,hs,fun τ e ha=>step_lone_go (hl τ e (base fn) S6 [trap] ha rfl (by simp[base]))⟩
def u0k(Q:Exit→Act→World→Prop)(F:Fz)(C:p7)(w:World):Prop:=
 C.us=[]∧((C.t=[]∧∃τ e,Q .normal C.a (retape (L1 F w) τ e))∨((∃t',C.t= .code .ret::t')∧∃τ e,Q .ret C.a (retape (L1 F w) τ e)))
inductive Tr(P:Program)(F:Fz)(S:FuncId→Bool)(px:Bool)(fn:FuncId)(Q:Exit→Act→World→Prop):p7→World→Prop
 | arr {C:p7} {w:World} (hok:L8 P S px C) (hw:Wf F w) (h:u0k Q F C w):Tr P F S px fn Q C w
 | step' {C:p7} {w:World} (C':Tape→Nat→p7) (w':Tape→Nat→World) (hs:∀τ e,∃es j,St P F S px fn C (retape w τ e) (C' τ e) (w' τ e) es j) (h:∀τ e,Tr P F S px fn Q (C' τ e) (w' τ e)):Tr P F S px fn Q C w
theorem Tr.step{fn:FuncId}{Q:Exit→Act→World→Prop}{C:p7}{w:World}(h:∀τ e,∃C' w' es j,St P F S px fn C (retape w τ e) C' w' es j∧Tr P F S px fn Q C' w'):Tr P F S px fn Q C w:=
 .step' (fun τ e=>(h τ e).choose) (fun τ e=>(h τ e).choose_spec.choose) (fun τ e=>⟨(h τ e).choose_spec.choose_spec.choose,(h τ e).choose_spec.choose_spec.choose_spec.choose,(h τ e).choose_spec.choose_spec.choose_spec.choose_spec.1⟩)
  (fun τ e=>(h τ e).choose_spec.choose_spec.choose_spec.choose_spec.2)
structure j0O(P:Program)(F:Fz)(S:FuncId→Bool)(px:Bool)(fn:FuncId)(Q:Exit→Act→World→Prop)(C0:p7)(w0:World)where
 C:p7
 w:World
 p:Tape
 E:Nat
 k:Nat
 ok:L8 P S px C
 wf:Wf F w
 bad:¬Tr P F S px fn Q C w
 run:∀τ:Tape,(∀i q,i<E→τ i q=p i q)→runN P k (LM fn C0 (retape (L1 F w0) τ 0))= .next (LM fn C (retape (L1 F w) τ E))
theorem b08{a b:Nat}{m m1 m2:Machine}(h1:runN P a m= .next m1)(h2:runN P (a+b) m= .next m2):runN P b m1= .next m2:=by
 rw[runN_add,h1]at h2;exact h2
theorem e0X{fn:FuncId}{Q:Exit→Act→World→Prop}{C0:p7}{w0:World}(H:∀τ,∃n m,runN P n (LM fn C0 (retape (L1 F w0) τ 0))= .next m∧Fin fn Q m)(N:j0O P F S px fn Q C0 w0)(τ:Tape)
 (hτ:∀i q,i<N.E→τ i q=N.p i q):∃n m,runN P n (LM fn N.C (retape (L1 F N.w) τ N.E))= .next m∧Fin fn Q m:=by
 obtain⟨n,m,hn,hf⟩:=H τ
 have hk:=N.run τ hτ
 rcases Nat.lt_or_ge n N.k with h|h
 ·exfalso
  have h2:N.k=n+(N.k - n - 1+1):=by omega
  rw[h2]at hk
  exact i0J hf _ (b08 hn hk) _ _ rfl
 ·have h2:n=N.k+(n - N.k):=by omega
  rw[h2]at hn
  exact⟨n - N.k,m,b08 hk hn,hf⟩
theorem g0d(hC:Z5 P S px)(hF:px=true→∀r,F r=none)(hE:P7 P){fn:FuncId}{Q:Exit→Act→World→Prop}{C0:p7}{w0:World}(H:∀τ,∃n m,runN P n (LM fn C0 (retape (L1 F w0) τ 0))= .next m∧Fin fn Q m)
 (N:j0O P F S px fn Q C0 w0):∃N':j0O P F S px fn Q C0 w0,N'.k=N.k+1∧N.E≤N'.E∧∀i q,i<N.E→N'.p i q=N.p i q:=by
 have hna:¬Arr N.C:=by
  intro ha
  obtain⟨n,m,hn,hf⟩:=e0X H N N.p (fun _ _ _=>rfl)
  refine N.bad (.arr N.ok N.wf ⟨ha.1,?_⟩)
  rcases r0X N.ok ha hn hf with⟨h1,h2⟩|⟨h1,h2⟩
  ·exact .inl ⟨h1,_,_,h2⟩
  ·exact .inr ⟨h1,_,_,h2⟩
 obtain⟨σ,e0,hbad⟩:∃σ e0,∀C' w' es j,St P F S px fn N.C (retape N.w σ e0) C' w' es j→¬Tr P F S px fn Q C' w':=by
  apply Classical.byContradiction
  intro hno
  refine N.bad (.step fun τ e=>?_)
  apply Classical.byContradiction
  intro h2
  exact hno ⟨τ,e,fun C' w' es j hst htr=>h2 ⟨C',w',es,j,hst,htr⟩⟩
 have e1:∀q i,(fun i q=>if i<N.E then N.p i q else σ (e0+(i - N.E)) q:Tape) (N.E+i) q=σ (e0+i) q:=by
  intro q i
  simp only[if_neg (show ¬(N.E+i<N.E)by omega),Nat.add_sub_cancel_left]
 obtain⟨n,m,hn,hf⟩:=e0X H N (fun i q=>if i<N.E then N.p i q else σ (e0+(i - N.E)) q) (fun i q hi=>by simp only[if_pos hi])
 generalize hτ2:(fun i q=>if i<N.E then N.p i q else σ (e0+(i - N.E)) q:Tape)=τ2 at e1 hn
 have hstep2:=f02 hC hF hE fn N.ok hna (retape N.w τ2 N.E) (N.wf.retape _ _)
 have hnd2:¬M8 P (c0r (base fn) S6 N.C) (b0z (base fn) S6 [trap] N.C) (L1 F (retape N.w τ2 N.E)):=fun hd=>o0Q N.ok hna hd n m hn hf
 obtain⟨C2,w2,es2,j2,hst2⟩:=w0d fn hstep2 hnd2
 have hloc:=hst2.hl σ e0 (fun i q hi=>(e1 q i).symm)
 have hstep1:=f02 hC hF hE fn N.ok hna (retape N.w σ e0) (N.wf.retape _ _)
 have hnd1:¬M8 P (c0r (base fn) S6 N.C) (b0z (base fn) S6 [trap] N.C) (L1 F (retape N.w σ e0)):=by
  intro hd
  have hm:(LM fn N.C (retape (L1 F (retape N.w τ2 N.E)) σ e0))=lone (c0r (base fn) S6 N.C) (b0z (base fn) S6 [trap] N.C) (L1 F (retape N.w σ e0)):=rfl
  rw[hm]at hloc
  rcases hd with⟨o,v,h⟩|⟨v,chain,h⟩
  ·rw[step_lone_ended h]at hloc;cases hloc
  ·have h3:=(step_lone_go h).symm.trans hloc
   simp only[Stepped.next.injEq]at h3
   have h4:=(U6 h3).1
   have h5:=congrArg Frame.mode h4
   simp only at h5
   have h6:=hst2.hok
   unfold c0r at h5
   split at h5
   ·cases h5
   ·rename_i f us hus
    rcases(h6.top f us hus).1 with⟨b',tm,todo,rfl,_⟩|⟨b',tm,todo,rfl,_⟩<;>cases h5
 obtain⟨C1,w1,es1,j1,hst1⟩:=w0d fn hstep1 hnd1
 refine⟨⟨C1,w1,τ2,N.E+j1,N.k+1,hst1.hok,hst1.hw,hbad _ _ _ _ hst1,fun τ ha=>?_⟩,rfl,Nat.le_add_right _ _,fun i q hi=>?_⟩
 ·have hk:=N.run τ (fun i q hi=>by rw[ha i q (by omega),← hτ2];simp only[if_pos hi])
  rw[runN_add,hk]
  have:=hst1.hl τ N.E (fun i q hi=>by rw[ha (N.E+i) q (by omega)];exact e1 q i)
  simp only[runN]
  rw[show LM fn N.C (retape (L1 F N.w) τ N.E)=LM fn N.C (retape (L1 F (retape N.w σ e0)) τ N.E)from rfl,this]
 ·show τ2 i q=_
  rw[← hτ2];simp only[if_pos hi]
open Classical in
theorem F0e(hC:Z5 P S px)(hF:px=true→∀r,F r=none)(hE:P7 P){fn:FuncId}{Q:Exit→Act→World→Prop}{C0:p7}{w0:World}(hok:L8 P S px C0)(hw:Wf F w0)
 (H:∀τ,∃n m,runN P n (LM fn C0 (retape (L1 F w0) τ 0))= .next m∧Fin fn Q m):Tr P F S px fn Q C0 w0:=by
 apply Classical.byContradiction
 intro hbad
 let N0:j0O P F S px fn Q C0 w0:=⟨C0,w0,fun _ _=>0,0,0,hok,hw,hbad,fun τ _=>rfl⟩
 let nx:j0O P F S px fn Q C0 w0→j0O P F S px fn Q C0 w0:=fun N=>Classical.choose (g0d hC hF hE H N)
 have hnx:∀N,(nx N).k=N.k+1∧N.E≤(nx N).E∧∀i q,i<N.E→(nx N).p i q=N.p i q:=fun N=>Classical.choose_spec (g0d hC hF hE H N)
 let seq:Nat→j0O P F S px fn Q C0 w0:=fun n=>Nat.rec N0 (fun _ N=>nx N) n
 have hk:∀n,(seq n).k=n:=by
  intro n
  induction n with
  | zero=>rfl
  | succ n ih=>have:=(hnx (seq n)).1;rw[ih]at this;exact this
 have hmono:∀d n,(seq n).E≤(seq (n+d)).E∧∀i q,i<(seq n).E→(seq (n+d)).p i q=(seq n).p i q:=by
  intro d
  induction d with
  | zero=>intro n;exact⟨Nat.le_refl _,fun _ _ _=>rfl⟩
  | succ d ih=>
    intro n
    obtain⟨h1,h2⟩:=ih n
    obtain⟨_,h3,h4⟩:=hnx (seq (n+d))
    exact⟨Nat.le_trans h1 h3,fun i q hi=>(h4 i q (by omega)).trans (h2 i q hi)⟩
 let L:Tape:=fun i q=>if h:∃m,i<(seq m).E then(seq (Classical.choose h)).p i q else 0
 have hL:∀m i q,i<(seq m).E→L i q=(seq m).p i q:=by
  intro m i q hi
  have hex:∃m,i<(seq m).E:=⟨m,hi⟩
  show(if h:∃m,i<(seq m).E then(seq (Classical.choose h)).p i q else 0)=_
  rw[dif_pos hex]
  have hc:=Classical.choose_spec hex
  generalize Classical.choose hex=m' at hc
  rcases Nat.le_total m m' with h|h
  ·obtain⟨d,rfl⟩:=Nat.exists_eq_add_of_le h
   exact(hmono d m).2 i q hi
  ·obtain⟨d,rfl⟩:=Nat.exists_eq_add_of_le h
   exact((hmono d m').2 i q hc).symm
 obtain⟨n,m,hn,hf⟩:=H L
 have hr:=(seq (n+1)).run L (hL (n+1))
 rw[hk (n+1)]at hr
 exact i0J hf 0 (b08 hn hr) _ _ rfl
def Gd(F:Fz)(w w':World):Prop:=V3 F (w.at w'.drawn) w' 0
theorem Gd.refl(F:Fz)(w:World):Gd F w w:=V3.refl F w
theorem Gd.of_grew{w w':World}{j d:Nat}(h:V3 F (w.at d) w' j):Gd F w w':=⟨h.tape,rfl,h.os,h.output,h.size,h.objs,h.keep⟩
theorem Gd.trans{a b c:World}(h:Gd F a b)(k:Gd F b c):Gd F a c:=by
 have:=V3.trans (a:=a.at c.drawn) (b:=b.at c.drawn) (i:=0) ⟨h.tape,rfl,h.os,h.output,h.size,h.objs,h.keep⟩ k
 exact⟨this.tape,rfl,this.os,this.output,this.size,this.objs,this.keep⟩
theorem i04{fn:FuncId}{Q:Exit→Act→World→Prop}{main:Bool}{b:Frame}{k:List Item}{cs:List Frame}{Stop:Goroutine→World→Prop}(hb:b.fn=fn)(hk:b.kind≠.early){C0:p7}{w0 w00:World}
 (hfin:∀C w,u0k Q F C w→L8 P S px C→Wf F w→Gd F w00 w→J0 P main F Stop (emb b k cs C) w) (h:Tr P F S px fn Q C0 w0) (h0:Gd F w00 w0):
 J0 P main F Stop (emb b k cs C0) w0:=by
 induction h with
 | @arr C w hok hw hq=>exact hfin _ _ hq hok hw h0
 | @step' C w C' w' hs _ ih=>
   refine .step rfl fun d=>?_
   obtain⟨es,j,hst⟩:=hs w.tape d
   exact⟨_,_,es,hst.hs main b k cs hb hk,⟨⟨j,hst.hg⟩,hst.he⟩,ih w.tape d (h0.trans (Gd.of_grew hst.hg))⟩
theorem i0o{fn:FuncId}{Q:Exit→Act→World→Prop}(hQ:∀e a w,Q e a w→e= .normal∨(e= .ret∧a.defers=[])){a:Act}{c:Code}{u:World}(h:c.wp P Q a u):
 ∃n m,runN P n (LM fn ⟨[],a,[.code c]⟩ u)= .next m∧Fin fn Q m:=by
 obtain⟨e,a',w',hq,har⟩:=h (base fn) S6 [trap]
 rcases hQ e a' w' hq with rfl|⟨rfl,hd⟩
 ·obtain⟨n,hn⟩:=har
  exact⟨n,_,hn,.inl ⟨a',w',rfl,hq⟩⟩
 ·obtain⟨todo,n,hn⟩:=har
  exact⟨n,_,hn,.inr ⟨a',w',todo,rfl,hq,hd⟩⟩
theorem x0A(hC:Z5 P S px)(hF:px=true→∀r,F r=none)(hE:P7 P){c:Code}(hc:Q5 P S px c=true){Q:Exit→Act→World→Prop}{a:Act}{w:World}(hw:Wf F w)(hd:a.defers=[])
 (hQ:∀e a w,Q e a w→e= .normal∨(e= .ret∧a.defers=[])) (H:∀τ e,c.wp P Q a (retape (L1 F w) τ e)) {main:Bool} {b:Frame} {k:List Item} {cs:List Frame} {Stop:Goroutine→World→Prop} (hk:b.kind≠.early)
 (hn:∀a' w' τ e,Q .normal a' (retape (L1 F w') τ e)→Wf F w'→Gd F w w'→J0 P main F Stop (G (b.at a' k) cs) w')
 (hr:∀a' w' τ e t',Q .ret a' (retape (L1 F w') τ e)→Wf F w'→Gd F w w'→J0 P main F Stop (G {b.at a' (.code .ret::t')with mode:=.returning} cs) w'):
 J0 P main F Stop (G (b.at a (.code c::k)) cs) w:=by
 have hok:L8 P S px ⟨[],a,[.code c]⟩:=⟨hd,fun x hx=>by simp only[List.mem_singleton]at hx;subst hx;exact hc,fun f us h=>by cases h⟩
 have ht:Tr P F S px b.fn Q ⟨[],a,[.code c]⟩ w:=F0e hC hF hE hok hw fun τ=>i0o hQ (H τ 0)
 refine i04 (b:=b) (k:=k) (cs:=cs) rfl hk (w00:=w) (fun C w' hg hok' hw' hgd=>?_) ht (.refl _ _)
 obtain⟨us,a',t⟩:=C
 obtain⟨hus,hg⟩:=hg
 simp only at hus
 subst hus
 rcases hg with⟨h1,τ,e,h2⟩|⟨⟨t',h1⟩,τ,e,h2⟩
 ·simp only at h1
  subst h1
  exact hn a' w' τ e h2 hw' hgd
 ·simp only at h1
  subst h1
  refine .step rfl fun d=>⟨_,_,#[],stepG_ret',⟨⟨0,.refl _ _⟩,by simp⟩,?_⟩
  have h3:Gd F w' (w'.at d):=Gd.of_grew (d:=d) (V3.refl F (w'.at d))
  exact hr a' (w'.at d) τ e _ h2 ⟨hw'.own⟩ (hgd.trans h3)
end
section
open Go Go.Conc
open Go.ConcN (sumTo upd sumTo_upd upd_ne upd_same)
variable{P:Program}{F:Fz}
theorem p0y(e:Event):∃B,(MemAct.ofEvent e).low B:=by
 cases h:MemAct.ofEvent e with
 | access e'=>
   obtain⟨loc,wr,sy⟩:=e'
   cases loc with
   | cell a=>exact⟨a.block+1,Nat.lt_succ_self _⟩
   | obj r=>exact⟨r+1,Nat.lt_succ_self _⟩
   | _=>exact⟨0,trivial⟩
 | mark m=>
   cases m with
   | acquire a=>exact⟨a.block+1,Nat.lt_succ_self _⟩
   | release a=>exact⟨a.block+1,Nat.lt_succ_self _⟩
   | releaseMerge a=>exact⟨a.block+1,Nat.lt_succ_self _⟩
   | read a=>exact⟨a.block+1,Nat.lt_succ_self _⟩
   | write a=>exact⟨a.block+1,Nat.lt_succ_self _⟩
   | _=>exact⟨0,trivial⟩
 | send c k=>exact⟨c+1,Nat.lt_succ_self _⟩
 | sendDone c k=>exact⟨c+1,Nat.lt_succ_self _⟩
 | recv c k n=>exact⟨c+1,Nat.lt_succ_self _⟩
 | recvDone c k=>exact⟨c+1,Nat.lt_succ_self _⟩
 | close c=>exact⟨c+1,Nat.lt_succ_self _⟩
 | recvClosed c=>exact⟨c+1,Nat.lt_succ_self _⟩
 | _=>exact⟨0,trivial⟩
theorem l0J(es:Array Event)(B0:Nat):∃B,B0≤B∧∀e∈es,(MemAct.ofEvent e).low B:=by
 obtain⟨l⟩:=es
 induction l with
 | nil=>exact⟨B0,Nat.le_refl _,by simp⟩
 | cons x l ih=>
   obtain⟨B1,h0,h1⟩:=ih
   obtain⟨B2,h2⟩:=p0y x
   refine⟨max B1 B2,by omega,fun e he=>?_⟩
   simp only[List.mem_toArray,List.mem_cons]at he
   rcases he with rfl|he
   ·exact MemAct.low_mono (Nat.le_max_right _ _) h2
   ·exact MemAct.low_mono (Nat.le_max_left _ _) (h1 e (by simpa using he))
theorem c0t{e:Event}(h:J9 F e):e.loc≠.mark .disable∧e.loc≠.mark .enable:=by
 constructor
 ·intro h1
  rcases h.2 _ h1 with h|⟨f,h⟩<;>cases h
 ·intro h1
  rcases h.2 _ h1 with h|⟨f,h⟩<;>cases h
abbrev a0G:Loc→Prop:=fun _=>False
theorem q0e{B:Nat}{t:Trace}(h:Past a0G B t){es:Array Event}(he:∀e∈es,J9 F e)(fn:FuncId)(pos:String):∃B',Past a0G B' (t++MemOp.ofEvents 0 fn pos es):=by
 obtain⟨B',h1,h2⟩:=l0J es B
 exact⟨B',(h.mono h1).own fun e hm=>⟨fun _ _ hs=>hs.elim,(c0t (he e hm)).1,(c0t (he e hm)).2,h2 e hm⟩⟩
structure G3 where
 b:Nat
 W0:World
structure G3.Holds(A:G3)(w:World):Prop where
 os:w.os=A.W0.os
 output:w.output=A.W0.output
 tape:w.tape=A.W0.tape
 low:A.b≤w.heap.size
 obj:∀(r:Nat) (o:Obj),r<A.b→A.W0.heap[r]? =some o→(∀c e z,o≠.cells c e z)→w.heap[r]? =some o
variable{A:G3}
theorem G3.Holds.at{w:World}(h:A.Holds w)(d:Nat):A.Holds (w.at d):=⟨h.os,h.output,h.tape,h.low,h.obj⟩
theorem G3.Holds.grew{w w':World}{j:Nat}(h:A.Holds w)(hg:V3 F w w' j):A.Holds w':=
 ⟨hg.os.trans h.os,hg.output.trans h.output,hg.tape.trans h.tape,Nat.le_trans h.low hg.size,fun r o hr ho hn=>by
  rcases hg.objs r o (h.obj r o hr ho hn)with⟨c,e,z,c',h1,_⟩|h1
  ·exact absurd h1 (hn c e z)
  ·exact h1⟩
theorem G3.Holds.gd{w w':World}(h:A.Holds w)(hg:Gd F w w'):A.Holds w':=(h.at w'.drawn).grew hg
theorem G3.Holds.setChan{w:World}(h:A.Holds w){c:Nat}(hc:A.b≤c)(cap:Nat)(buf:Array Value)(cl:Bool)(s r:Nat)(tm:Bool):A.Holds (w.setChan c cap buf cl s r tm):=
 ⟨h.os,h.output,h.tape,by have:=h.low;simpa [World.setChan]using this,fun q o hq ho hn=>by
  rw[← h.obj q o hq ho hn]
  simp[World.setChan,Array.getElem?_setIfInBounds_ne (show c≠q by omega)]⟩
def Q4(A:G3)(P:Program)(Stop:Goroutine→World→Prop)(g:Goroutine)(w:World):Prop:=
 ∀(gs:Array Goroutine) (sl:Option (Nat×Nat)) (T:Trace) (q:Nat→Nat) (B:Nat),gs[0]? =some g→Leavers P T gs q→Past a0G B T→A.Holds w→
  ∃(N:Nat) (gs':Array Goroutine) (g':Goroutine) (w':World) (sl':Option (Nat×Nat)) (T':Trace) (q':Nat→Nat) (B':Nat),
   runNT P N (crowd gs w sl) T=(.next (crowd gs' w' sl'),T')∧gs'[0]? =some g'∧Stop g' w'∧Leavers P T' gs' q'∧Past a0G B' T'∧A.Holds w'
theorem Q4.stop{Stop:Goroutine→World→Prop}{g:Goroutine}{w:World}(h:Stop g w):Q4 A P Stop g w:=
 fun gs sl T q B h0 hL hP hA=>⟨0,gs,g,w,sl,T,q,B,rfl,h0,h,hL,hP,hA⟩
theorem f0b{N M:Nat}{m m1:Machine}{T T1:Trace}(h:runNT P N m T=(.next m1,T1)):runNT P (N+M) m T=runNT P M m1 T1:=by
 rw[runNT_add,h]
theorem Q4.bind{Stop Stop':Goroutine→World→Prop}{g:Goroutine}{w:World}(h:Q4 A P Stop g w)(hk:∀g w,Stop g w→Q4 A P Stop' g w):Q4 A P Stop' g w:=by
 intro gs sl T q B h0 hL hP hA
 obtain⟨N,gs1,g1,w1,sl1,T1,q1,B1,hr,h01,hS,hL1,hP1,hA1⟩:=h gs sl T q B h0 hL hP hA
 obtain⟨M,gs2,g2,w2,sl2,T2,q2,B2,hr2,h02,hS2,hL2,hP2,hA2⟩:=hk g1 w1 hS gs1 sl1 T1 q1 B1 h01 hL1 hP1 hA1
 exact⟨N+M,gs2,g2,w2,sl2,T2,q2,B2,(f0b hr).trans hr2,h02,hS2,hL2,hP2,hA2⟩
theorem j0Y{Stop:Goroutine→World→Prop}{g:Goroutine}{w:World}(h:A.Holds w→Q4 A P Stop g w):Q4 A P Stop g w:=
 fun gs sl T q B h0 hL hP hA=>h hA gs sl T q B h0 hL hP hA
theorem J0.at{main:Bool}{Stop:Goroutine→World→Prop}{g:Goroutine}{w:World}(h:J0 P main F Stop g w)(d:Nat):J0 P main F Stop g (w.at d):=by
 cases h with
 | stop h=>exact .stop h
 | step' hr g' w' es hs hg h=>exact .step' hr g' w' es hs hg h
theorem J0.status{main:Bool}{Stop:Goroutine→World→Prop}{g:Goroutine}{w:World}(h:J0 P main F Stop g w):(∀d,Stop g (w.at d))∨g.status= .running:=by
 cases h with
 | stop h=>exact .inl h
 | step' hr g' w' es hs hg h=>exact .inr hr
theorem Q4.own{Stop:Goroutine→World→Prop}{g:Goroutine}{w:World}(h:J0 P true F Stop g w):Q4 A P (fun g w=>∃w0 d,w=World.at w0 d∧∀d,Stop g (w0.at d)) g w:=by
 induction h with
 | @stop g w h=>exact .stop ⟨w,w.drawn,rfl,h⟩
 | @step' g w hrun g' w' es hs hg hown ih=>
   have key:∀(M:Nat) (w1:World) (gs:Array Goroutine) (sl:Option (Nat×Nat)) (T:Trace) (q:Nat→Nat) (B:Nat),(∃d,w1=w.at d)→sumTo gs.size q≤M→gs[0]? =some g→Leavers P T gs q→Past a0G B T→A.Holds w1→
    ∃(N:Nat) (gs':Array Goroutine) (g':Goroutine) (w':World) (sl':Option (Nat×Nat)) (T':Trace) (q':Nat→Nat) (B':Nat),
     runNT P N (crowd gs w1 sl) T=(.next (crowd gs' w' sl'),T')∧gs'[0]? =some g'∧(∃w0 d,w'=World.at w0 d∧∀d,Stop g' (w0.at d))∧Leavers P T' gs' q'∧Past a0G B' T'∧A.Holds w':=by
    intro M
    induction M with
    | zero=>?_
    | succ M ihM=>?_
    all_goals
     intro w1 gs sl T q B hw1 hM h0 hL hP hA
     obtain⟨d0,rfl⟩:=hw1
     have haw:∀g∈gs,awake g:=by
      intro x hx
      obtain⟨i,hi,rfl⟩:=Array.mem_iff_getElem.1 hx
      rcases Nat.eq_zero_or_pos i with rfl|hpos
      ·have:gs[0]=g:=by simpa [Array.getElem?_eq_getElem hi]using h0
       rw[this];exact awake_of (.inl hrun)
      ·exact awake_of ((hL.old i _ hpos (Array.getElem?_eq_getElem hi)).status.elim .inl fun x=>.inr (.inr x))
     obtain⟨i,x,d,sl',hi,hx,hst⟩:=crowd_pick (P:=P) (w:=w.at d0) (sl:=sl) haw ⟨0,g,h0,hrun⟩
     rcases Nat.eq_zero_or_pos i with rfl|hpos
     ·obtain rfl:x=g:=by rw[h0]at hi;exact(Option.some.inj hi).symm
      have hgo:=hs d
      have hrunT:=runT_crowd_go (P:=P) (sl:=sl') (i:=0) hi (show stepG P (0 == 0) x ((w.at d0).at d)=_ from hgo)
      have hlt:0<gs.size:=(Array.getElem?_eq_some_iff.1 h0).1
      obtain⟨B1,hP1⟩:=q0e hP (hg d).2 x.frame.fn x.frame.place
      obtain⟨N,gs',a'',w'',sl'',t',q',B',hr,h0',hS,hL',hP',hA'⟩:=ih d ((gs.map (woken P x (g' d) (w' d))).setIfInBounds 0 (g' d)) sl' (T++MemOp.ofEvents 0 x.frame.fn x.frame.place (es d)) q B1 (by simp[hlt])
       ⟨fun j y hj hy=>by
        have hne:0≠j:=by omega
        rw[Array.getElem?_setIfInBounds_ne hne,Array.getElem?_map]at hy
        obtain⟨z,hz,rfl⟩:=Option.map_eq_some_iff.1 hy
        have hq:=hL.old j z hj hz
        rw[woken_quitsD hq,Deaf_other T (by omega) _ (fun op hop=>by obtain⟨e,_,rfl⟩:=Go.Conc.mem_ofEvents hop;rfl)]
        exact hq,fun j hj=>by
        rw[Deaf_other T (g':=0) (by simp at hj;omega) _ (fun op hop=>by obtain⟨e,_,rfl⟩:=Go.Conc.mem_ofEvents hop;rfl)]
        exact hL.above j (by simpa using hj)⟩ hP1 (((hA.at d).grew (hg d).1.choose_spec))
      exact⟨N+1,gs',a'',w'',sl'',t',q',B',by simp only[runNT,hst,hrunT];exact hr,h0',hS,hL',hP',hA'⟩
     ·have hq:=hL.old i x hpos hi
      have hi0:(i == 0)=false:=by simp;omega
      have hlt:i<gs.size:=(Array.getElem?_eq_some_iff.1 hi).1
      cases hqi:q i with
      | zero=>rw[hqi]at hq;rw[hq.1]at hx;cases hx
      | succ k=>
        rw[hqi]at hq
        rcases hq with⟨hf,_⟩|⟨_,x',es',hm,hstp,hq'⟩
        ·rw[hf]at hx;cases hx
        have hsum:sumTo gs.size (upd q i k)+(k+1)=sumTo gs.size q+k:=by
         have:=sumTo_upd q k id hlt
         simpa [hqi]using this
        first
        | (exfalso;omega)
        | (have hrunT:=runT_crowd_go (P:=P) (sl:=sl') (i:=i) hi (by rw[hi0];exact hstp ((w.at d0).at d))
           have hsz:((gs.map (woken P x x' ((w.at d0).at d))).setIfInBounds i x').size=gs.size:=by simp
           obtain⟨N,gs',a'',w'',sl'',t',q',B',hr,h0',hS,hL',hP',hA'⟩:=ihM ((w.at d0).at d) ((gs.map (woken P x x' ((w.at d0).at d))).setIfInBounds i x') sl' (T++MemOp.ofEvents i x.frame.fn x.frame.place es') (upd q i k) B ⟨d,rfl⟩ (by rw[hsz];omega)
            (by
              have hne:i≠0:=by omega
              rw[Array.getElem?_setIfInBounds_ne hne,Array.getElem?_map,h0]
              simp[woken_run hrun])
            ⟨fun j y hj hy=>by
             by_cases hji:i=j
             ·subst hji
              rw[Array.getElem?_setIfInBounds_self_of_lt (by simpa using hlt)]at hy
              obtain rfl:=Option.some.inj hy
              rw[upd_same,Deaf_own]
              exact hq'
             ·rw[Array.getElem?_setIfInBounds_ne hji,Array.getElem?_map]at hy
              obtain⟨z,hz,rfl⟩:=Option.map_eq_some_iff.1 hy
              have hqj:=hL.old j z hj hz
              rw[woken_quitsD hqj,upd_ne q k (Ne.symm hji),Deaf_other T hji _ (fun op hop=>by obtain⟨e,_,rfl⟩:=Go.Conc.mem_ofEvents hop;rfl)]
              exact hqj,fun j hj=>by
             rw[Deaf_other T (g':=i) (by simp at hj;omega) _ (fun op hop=>by obtain⟨e,_,rfl⟩:=Go.Conc.mem_ofEvents hop;rfl)]
             exact hL.above j (by simpa using hj)⟩
            (hP.mute (by omega) hm) (hA.at d)
           exact⟨N+1,gs',a'',w'',sl'',t',q',B',by simp only[runNT,hst,hrunT];exact hr,h0',hS,hL',hP',hA'⟩)
   exact fun gs sl T q B h0 hL hP hA=>key _ w gs sl T q B ⟨w.drawn,rfl⟩ (Nat.le_refl _) h0 hL hP hA
end
section
open Go Go.Conc
open Go.ConcN (sumTo upd sumTo_upd upd_ne upd_same)
variable{P:Program}{F:Fz}{K:World→Prop}{Still:Loc→Prop}{B:Nat}{Mem:Nat→Prop}{Inb:Nat→Option Seat}{h:Nat}{T:Trace}{gs:Array Goroutine}{w:World}{q:Nat→Nat}
theorem d0t{main:Bool}{R:World→World→Prop}{D D':World→World→Array Event→Prop}{Stop Stop':Goroutine→World→Prop}(hD:∀w w' es,D w w' es→D' w w' es)(hS:∀g w,Stop g w→Stop' g w):
 ∀{n:Nat} {g:Goroutine} {w:World},Goes P main R D Stop n g w→Goes P main R D' Stop' n g w:=by
 intro n
 induction n with
 | zero=>intro g w hg;exact fun w₁ h₁=>hS _ _ (hg w₁ h₁)
 | succ n ih=>
   intro g w hg
   rcases hg with hg|⟨hs,hg⟩
   ·exact .inl fun w₁ h₁=>hS _ _ (hg w₁ h₁)
   ·refine .inr ⟨hs,fun w₁ h₁=>?_⟩
    have:=hg w₁ h₁
    revert this
    cases stepG P main g w₁<;>simp only[GStep.goes,imp_self]
    exact fun⟨d,x⟩=>⟨hD _ _ _ d,ih x⟩
theorem i0G{B':Nat}(hB:B≤B'){e:Event}(h:EvC Still B e):EvC Still B' e:=by
 obtain⟨a,h1,h2,h3⟩:=h
 exact⟨a,h1,h2,by omega⟩
theorem f0W{main:Bool}{s:Seat}{g g₂:Goroutine}{B':Nat}(hB:B≤B')(h:AtIn P main K Still B s g g₂):AtIn P main K Still B' s g g₂:=by
 obtain⟨h1,h2,h3,h4,h5,es,h6,h7⟩:=h
 exact⟨h1,h2,h3,h4,h5,es,fun e he=>i0G hB (h6 e he),h7⟩
theorem g0w{main:Bool}{s:Seat}{n:Nat}{g:Goroutine}{B':Nat}(hB:B≤B')(h:Sits P main K Still B s n g):Sits P main K Still B' s n g:=by
 rcases h with⟨k,w₀,hn,hg⟩|⟨hn,g₀,g₂,hp,ha⟩
 ·exact .inl ⟨k,w₀,hn,d0t (fun w w' es hd=>⟨hd.1,fun e he=>i0G hB (hd.2 e he)⟩) (fun g w ⟨g₂,ha⟩=>⟨g₂,f0W hB ha⟩) hg⟩
 ·exact .inr ⟨hn,g₀,g₂,hp,f0W hB ha⟩
theorem n0D{i n:Nat}{g:Goroutine}{o:Option Seat}{B':Nat}(hB:B≤B')(h:Idle P K Still B T i n g o):Idle P K Still B' T i n g o:=by
 cases o with
 | none=>exact h
 | some s=>exact g0w hB h
theorem n00{B':Nat}(hB:B≤B')(C:Ring P K Still B Mem Inb h T gs w q):Ring P K Still B' Mem Inb h T gs w q:=
 ⟨fun i g hi hg=>n0D hB (C.idle i g hi hg),C.chans,C.wf,C.live,C.inj,C.above,fun i s e=>⟨(C.mem i s e).1,fun c hc=>Nat.lt_of_lt_of_le ((C.mem i s e).2 c hc) hB⟩,C.nomem,C.lo,
  ⟨C.past.clean,C.past.known,C.past.wrote,C.past.hears,fun op hop=>MemAct.low_mono hB (C.past.seen op hop)⟩,C.keep⟩
def c0N(F:Fz)(Still:Loc→Prop):Prop:=∀l,Still l→∃a,l= .cell a∧held F a
theorem s0l{e:Event}(hc:c0N F Still)(he:J9 F e){B:Nat}(hB:(MemAct.ofEvent e).low B):EvHd Still B e:=by
 refine⟨fun x hx hs=>?_,(c0t he).1,(c0t he).2,hB⟩
 obtain⟨a,hl,ha⟩:=hc _ hs
 obtain⟨loc,wr,sy⟩:=e
 have hacc:∀{m:MemAct},MemAct.ofEvent ⟨loc,wr,sy⟩=m→(∃e',m= .access e'∧e'=⟨loc,wr,sy⟩)∨(∃c,m= .close c)∨∃mk,m= .mark mk∧loc= .mark mk:=by
  intro m hm
  subst hm
  cases loc<;>cases wr<;>cases sy<;>simp[MemAct.ofEvent]
 rcases hacc rfl with⟨e',h1,h2⟩|⟨c,h1⟩|⟨mk,h1,h2⟩
 ·rw[h1]at hx
  subst h2
  simp only[MemAct.touch?,Option.some.injEq]at hx
  subst hx
  simp only at hl ⊢
  cases wr with
  | false=>rfl
  | true=>
    obtain⟨b,hb,hnb⟩:=he.1 rfl
    simp only at hb
    rw[hb]at hl
    cases hl
    exact absurd ha hnb
 ·rw[h1]at hx;cases hx
 ·rw[h1]at hx
  rcases he.2 mk h2 with rfl|⟨f,rfl⟩<;>cases hx
theorem A0r(hc:c0N F Still)(hK:∀w w',Gd F w w'→K w→K w')(hch:∀i s c,Inb i=some s→s.has c→∃cap k,w.heap[c]? =some (.chan cap #[] false k k false)){w':World}{es:Array Event}(hg:H7 F w w' es){B':Nat}(hB:∀e∈es,(MemAct.ofEvent e).low B'):
 DH K Still B' Inb w w' es:=by
 obtain⟨⟨j,hj⟩,he⟩:=hg
 refine⟨hK _ _ (Gd.of_grew (d:=w.drawn) hj),fun i s c hi hs=>?_,fun e hm=>s0l hc (he e hm) (hB e hm)⟩
 obtain⟨cap,k,hcc⟩:=hch i s c hi hs
 rcases hj.objs c _ hcc with⟨_,_,_,_,hx,_⟩|hx
 ·cases hx
 ·rw[hx,hcc]
theorem p0c(hKat:∀w d,K w→K (w.at d))(hc:c0N F Still)(hK:∀w w',Gd F w w'→K w→K w'){Stop:Goroutine→World→Prop}{a:Goroutine}(hO:J0 P (h == 0) F Stop a w):
 ∀{gs:Array Goroutine} {sl:Option (Nat×Nat)} {T:Trace} {q:Nat→Nat} {B:Nat},gs[h]? =some a→Ring P K Still B Mem Inb h T gs w q→
 ∃(N:Nat) (gs':Array Goroutine) (a':Goroutine) (w':World) (sl':Option (Nat×Nat)) (T':Trace) (q':Nat→Nat) (B':Nat),
  runNT P N (crowd gs w sl) T=(.next (crowd gs' w' sl'),T')∧gs'.size=gs.size∧gs'[h]? =some a'∧(∃w0 d,w'=World.at w0 d∧∀d,Stop a' (w0.at d))∧Ring P K Still B' Mem Inb h T' gs' w' q'∧B≤B':=by
 induction hO with
 | @stop g w hst=>exact fun{gs sl T q B} ha C=>⟨0,gs,g,w,sl,T,q,B,rfl,rfl,ha,⟨w,w.drawn,rfl,hst⟩,C,Nat.le_refl _⟩
 | @step' g w hrun g' w' es hs hg hown ih=>
   have key:∀(M:Nat) (w1:World) (gs:Array Goroutine) (sl:Option (Nat×Nat)) (T:Trace) (q:Nat→Nat) (B:Nat),(∃d,w1=w.at d)→sumTo gs.size q≤M→gs[h]? =some g→Ring P K Still B Mem Inb h T gs w1 q→
    ∃(N:Nat) (gs':Array Goroutine) (a':Goroutine) (w':World) (sl':Option (Nat×Nat)) (T':Trace) (q':Nat→Nat) (B':Nat),
     runNT P N (crowd gs w1 sl) T=(.next (crowd gs' w' sl'),T')∧gs'.size=gs.size∧gs'[h]? =some a'∧(∃w0 d,w'=World.at w0 d∧∀d,Stop a' (w0.at d))∧Ring P K Still B' Mem Inb h T' gs' w' q'∧B≤B':=by
    intro M
    induction M using Nat.strongRecOn with
    | _ M ihM=>
      intro w1 gs sl T q B hw1 hM ha C
      obtain⟨d0,rfl⟩:=hw1
      obtain⟨i,x,d,sl',hi,hx,hst⟩:=crowd_pick (P:=P) (w:=w.at d0) (sl:=sl) (C.awake ha (.inl hrun)) ⟨h,g,ha,hrun⟩
      have Cd:Ring P K Still B Mem Inb h T gs (w.at d) q:=TokCore.at hKat C d
      by_cases e:i=h
      ·subst e
       obtain rfl:x=g:=by rw[ha]at hi;exact(Option.some.inj hi).symm
       obtain⟨B1,hB1,hlow⟩:=l0J (es d) B
       have Cd1:=n00 hB1 Cd
       have hdh:=A0r (B':=B1) hc hK (fun i s c hi hs=>Cd1.chans i s c (fun z=>z) hi hs) (hg d) hlow
       obtain⟨C',ha'⟩:=Cd1.own (a':=g' d) hi hdh
       have hrt:=runT_crowd_go (P:=P) (sl:=sl') (i:=i) hi (hs d)
       obtain⟨N,gs',a',w'',sl'',T',q',B',hr,hsz,h1,h2,h3,h4⟩:=ih d (sl:=sl') ha' C'
       refine⟨N+1,gs',a',w'',sl'',T',q',B',?_,by simpa using hsz,h1,h2,h3,by omega⟩
       simp only[runNT]
       rw[show stepT P (crowd gs (w.at d0) sl)=_ from hst.trans hrt]
       exact hr
      ·obtain⟨gs',ops,q',hrt,hsz',hsp,_,_,C',hlt⟩:=TokCore.by_step (sl:=sl') (fun t u i=>Knows.app u) Cd hi e hx
        (fun y gy hy hgy=>by subst hy;rw[ha]at hgy;obtain rfl:=Option.some.inj hgy;exact again_of_running (.inl hrun) _) (fun hD=>hD.elim)
        (fun s g₂ _ _=>⟨fun hD=>hD,fun y gy c hy hgy _=>by subst hy;rw[ha]at hgy;obtain rfl:=Option.some.inj hgy;exact offersAt_of_not_blocked (by rw[hrun];simp) _ _⟩)
       obtain⟨N,gs'',a',w'',sl'',T',q'',B',hr,hsz,h1,h2,h3,h4⟩:=ihM (sumTo gs'.size q') (by rw[hsz'];omega) (w.at d) gs' sl' (T++ops) q' B ⟨d,rfl⟩ (Nat.le_refl _) (by rw[hsp h rfl];exact ha) C'
       refine⟨N+1,gs'',a',w'',sl'',T',q'',B',?_,hsz.trans hsz',h1,h2,h3,h4⟩
       simp only[runNT]
       rw[show stepT P (crowd gs (w.at d0) sl)=_ from hst.trans hrt]
       exact hr
   exact fun{gs sl T q B} ha C=>key _ w gs sl T q B ⟨w.drawn,rfl⟩ (Nat.le_refl _) ha C
end
section
open Go Go.Conc
open Go.ConcN (sumTo upd sumTo_upd upd_ne upd_same)
variable{A:G3}{P:Program}{F:Fz}{K:World→Prop}{Still:Loc→Prop}{B B0:Nat}{Inb Inb':Nat→Option Seat}{h n:Nat}{Gl:Machine→Trace→Prop}
def Mm(Inb:Nat→Option Seat)(h:Nat):Nat→Prop:=fun i=>Inb i≠none∨i=h
theorem h0P{Mem:Nat→Prop}{T:Trace}{gs:Array Goroutine}{w:World}{q:Nat→Nat}(C:Ring P K Still B Mem Inb h T gs w q)(hM:Mem h):Ring P K Still B (Mm Inb h) Inb h T gs w q:=
 ⟨C.idle,C.chans,C.wf,C.live,C.inj,C.above,fun i s e=>⟨.inl (by rw[e];simp),(C.mem i s e).2⟩,fun i hi=>hi,C.lo,
  PastG.fewer C.past (fun i hi=>by
   rcases hi with hi|rfl
   ·cases e:Inb i with
    | none=>exact absurd e hi
    | some s=>exact(C.mem i s e).1
   ·exact hM),C.keep⟩
def e8(P:Program)(K:World→Prop)(Still:Loc→Prop)(B0:Nat)(Gl:Machine→Trace→Prop)(Inb:Nat→Option Seat)(h n:Nat)(g:Goroutine)(w:World):Prop:=
 ∀(gs:Array Goroutine) (sl:Option (Nat×Nat)) (T:Trace) (q:Nat→Nat) (B:Nat),B0≤B→gs.size=n→gs[h]? =some g→Ring P K Still B (Mm Inb h) Inb h T gs w q→
  ∃(N:Nat) (m':Machine) (T':Trace),runNT P N (crowd gs w sl) T=(.next m',T')∧Gl m' T'
theorem U3{g:Goroutine}{w:World}(hk:h<n→K w→(∀i s c,Inb i=some s→s.has c→∃cap k,w.heap[c]? =some (.chan cap #[] false k k false))→e8 P K Still B0 Gl Inb h n g w):e8 P K Still B0 Gl Inb h n g w:=
 fun gs sl T q B hB hn hg C=>hk (hn ▸ (Array.getElem?_eq_some_iff.1 hg).1) C.keep (fun i s c=>C.chans i s c (fun z=>z)) gs sl T q B hB hn hg C
theorem a0k{N M:Nat}{m m1 m2:Machine}{T T1 T2:Trace}(h:runNT P N m T=(.next m1,T1))(h2:runNT P M m1 T1=(.next m2,T2)):runNT P (N+M) m T=(.next m2,T2):=(f0b h).trans h2
theorem I6(hKat:∀w d,K w→K (w.at d))(hc:c0N F Still)(hK:∀w w',Gd F w w'→K w→K w'){Stop:Goroutine→World→Prop}{a:Goroutine}{w:World}(hO:J0 P (h == 0) F Stop a w)
 (hk:∀g' w0 d,(∀d,Stop g' (World.at w0 d))→e8 P K Still B0 Gl Inb h n g' (w0.at d)):e8 P K Still B0 Gl Inb h n a w:=by
 intro gs sl T q B hB hn hg C
 obtain⟨N,gs',a',w',sl',T',q',B',hr,hsz,h1,⟨w0,d,rfl,hS⟩,C',hB'⟩:=p0c (sl:=sl) hKat hc hK hO hg C
 obtain⟨M,m',T2,hr2,hG⟩:=hk a' w0 d hS gs' sl' T' q' B' (Nat.le_trans hB hB') (hsz.trans hn) h1 C'
 exact⟨N+M,m',T2,a0k hr hr2,hG⟩
theorem c0T(hB:B0≤B){e:Event}(he:EvHd Still B0 e):EvHd Still B e:=⟨he.1,he.2.1,he.2.2.1,MemAct.low_mono hB he.2.2.2⟩
theorem f0x(hKat:∀w d,K w→K (w.at d)){Stop:Goroutine→World→Prop}{a:Goroutine}{w:World}{m:Nat}(hG:Goes P (h == 0) AtRel (DQ Still B0) Stop m a w)
 (hk:∀g' d,Stop g' (w.at d)→e8 P K Still B0 Gl Inb h n g' (w.at d)):e8 P K Still B0 Gl Inb h n a w:=by
 intro gs sl T q B hB hn hg C
 have hG':=d0t (D':=DQ Still B) (Stop':=fun g' w'=>(∃d,w'=w.at d)∧Stop g' w') (fun w w' es hd=>⟨hd.1,fun e he=>c0T hB (hd.2 e he)⟩) (fun _ _ h=>h) (goes_quiet' hG)
 obtain⟨N,gs',a',w',sl',T',q',hr,hsz,h1,⟨⟨d,rfl⟩,hS⟩,C'⟩:=hold_walk (sl:=sl) hKat (dq_dh (K:=K) Inb) hg C hG'
 obtain⟨M,m',T2,hr2,hGl⟩:=hk a' d hS gs' sl' T' q' B hB (hsz.trans hn) h1 C'
 exact⟨N+M,m',T2,a0k hr hr2,hGl⟩
theorem b0D{g':Goroutine}(hB:B0≤B)(h1:(∃s' nh,Inb' h=some s'∧Sits P (h == 0) K Still B0 s' nh g')∨(Inb' h=none∧0<h∧∃nh,QuitsD P nh 0 g')):
 ∃nh,∀T':Trace,Deaf T' h=0→Idle P K Still B T' h nh g' (Inb' h):=by
 rcases h1 with⟨s',nh,e,hs⟩|⟨e,h0,nh,hq⟩
 ·exact⟨nh,fun T' _=>by rw[e];exact g0w hB hs⟩
 ·exact⟨nh,fun T' hd=>by rw[e];exact⟨h0,by rw[hd];exact hq⟩⟩
theorem a09(hKat:∀w d,K w→K (w.at d))(hKc:∀w i s c cap buf cl a b tm,Inb i=some s→s.has c→K w→K (w.setChan c cap buf cl a b tm)){a:Goroutine}{w:World}{After:Goroutine→Prop}{j c kk:Nat}{s:Seat}{v z:Value}
 (hjh:j≠h) (hjn:j<n) (hj:Inb j=some s) (hkk:s.cases[kk]? =some (rcase c z)) (hgv:AtGive P (h == 0) Still B0 c v After a w) (hI:∀x,x≠h→Inb' x=Inb x) (hIh:Inb' h=Inb h∨Inb' h=none)
 (hafter:∀g',After g'→(∃s' nh,Inb' h=some s'∧Sits P (h == 0) K Still B0 s' nh g')∨(Inb' h=none∧0<h∧∃nh,QuitsD P nh 0 g'))
 (hk:∀g₂ d k cap,s.home g₂→w.heap[c]? =some (.chan cap #[] false k k false)→e8 P K Still B0 Gl Inb' j n (Go.Conc.served g₂ (commResult s.cases s.shape kk v true)) ((w.at d).setChan c cap #[] false (k+1) (k+1) false)):
 e8 P K Still B0 Gl Inb h n a w:=by
 intro gs sl T q B hB hn hg C
 obtain⟨hrun,a₂,z',es,hes,hsend,hA⟩:=hgv
 obtain⟨nh,hid⟩:=b0D (P:=P) (K:=K) (Still:=Still) hB (hafter _ hA)
 obtain⟨N,m1,T1,hr,gs',g₂,d,k,cap,sl',q',rfl,hsz,hg2,hhome,hch,C'⟩:=give (sl:=sl) hKat hKc hjh (hn ▸ hjn) hj hkk (.inr rfl) hg hrun hsend (fun e he=>c0T hB (hes e he)) C hI hIh hid
 have hM:(fun g=>Mm Inb h g∧(Inb' g≠none∨g=j)) j:=⟨.inl (by rw[hj];simp),.inr rfl⟩
 obtain⟨M,m',T2,hr2,hGl⟩:=hk g₂ d k cap hhome hch gs' sl' T1 q' B hB (hsz.trans hn) hg2 (h0P C' hM)
 exact⟨N+M,m',T2,a0k hr hr2,hGl⟩
theorem f0R(hKat:∀w d,K w→K (w.at d)){a a' child:Goroutine}{w:World}{es:Array Event}(hrun:a.status= .running)(hgo:∀d,stepG P (h == 0) a (w.at d)= .spawn a' child (w.at d) es)(hes:∀e∈es,EvHd Still B0 e)
 (hnew:Inb n=none) (hI:∀x,x≠h→Inb' x=Inb x) (hIh:Inb' h=Inb h∨Inb' h=none)
 (hafter:(∃s' nh,Inb' h=some s'∧Sits P (h == 0) K Still B0 s' nh a')∨(Inb' h=none∧0<h∧∃nh,QuitsD P nh 0 a'))
 (hk:∀d,e8 P K Still B0 Gl Inb' n (n+1) child (w.at d)):e8 P K Still B0 Gl Inb h n a w:=by
 intro gs sl T q B hB hn hg C
 obtain⟨nh,hid⟩:=b0D (P:=P) (K:=K) (Still:=Still) hB hafter
 obtain⟨N,gs',d,sl',T',q',hr,hsz,hg2,C'⟩:=hire_give (sl:=sl) hKat (.inr rfl) hg hrun hgo (fun e he=>c0T hB (hes e he)) C (by rw[hn];exact hnew) hI hIh hid
 rw[hn]at hsz hg2 C'
 obtain⟨M,m',T2,hr2,hGl⟩:=hk d gs' sl' T' q' B hB hsz hg2 (h0P C' (.inr rfl))
 exact⟨N+M,m',T2,a0k hr hr2,hGl⟩
theorem f0w{a:Goroutine}{w:World}(s:Seat)(hwf:s.Wf)(hfresh:∀i s' c,i≠h→Inb i=some s'→s'.has c→¬s.has c)(hc:∀c,s.has c→∃cap k,w.heap[c]? =some (.chan cap #[] false k k false))(hcB:∀c,s.has c→c<B0)
 (hk:e8 P K Still B0 Gl (upd Inb h (some s)) h n a w):e8 P K Still B0 Gl Inb h n a w:=by
 intro gs sl T q B hB hn hg C
 have C1:=C.reseat (.inr rfl) s hwf hfresh hc (fun c h=>Nat.lt_of_lt_of_le (hcB c h) hB)
 have C2:Ring P K Still B (Mm (upd Inb h (some s)) h) (upd Inb h (some s)) h T gs w q:=by
  have e:Mm (upd Inb h (some s)) h=Mm Inb h:=by
   funext i
   by_cases e:i=h
   ·subst e;simp[Mm]
   ·simp[Mm,upd_ne _ _ e]
  rw[e];exact C1
 exact hk gs sl T q B hB hn hg C2
def o0m(A:G3)(P:Program)(Stop:Goroutine→World→Prop):Machine→Trace→Prop:=fun m' T'=>
 ∃(gs':Array Goroutine) (g':Goroutine) (w':World) (sl':Option (Nat×Nat)) (q':Nat→Nat) (B':Nat),m'=crowd gs' w' sl'∧gs'[0]? =some g'∧Stop g' w'∧Leavers P T' gs' q'∧Past a0G B' T'∧A.Holds w'
theorem r01{Stop:Goroutine→World→Prop}{g:Goroutine}{w:World}(hS:∀l,Still l→l.isMemory=true)(hK:A.Holds w→K w)(h:A.Holds w→∀n,0<n→e8 P K Still B0 (o0m A P Stop) (fun _=>none) 0 n g w):Q4 A P Stop g w:=by
 intro gs sl T q B h0 hL hP hA
 replace hK:=hK hA
 replace h:=h hA
 have C:Ring P K Still (max B B0) (fun g=>g=0) (fun _=>none) 0 T gs w q:=ring_begin hS hL (hP.mono (Nat.le_max_left _ _)) hK
 obtain⟨N,m',T',hr,gs',g',w',sl',q',B',rfl,hg',hS',hL',hP',hA'⟩:=h gs.size (Array.getElem?_eq_some_iff.1 h0).1 gs sl T q (max B B0) (Nat.le_max_right _ _) rfl h0 (h0P C rfl)
 exact⟨N,gs',g',w',sl',T',q',B',hr,hg',hS',hL',hP',hA'⟩
end
section
open Go Go.Conc
open Go.ConcN (sumTo upd sumTo_upd upd_ne upd_same)
variable{A:G3}{P:Program}{F:Fz}{S:FuncId→Bool}{px:Bool}{K:World→Prop}{Still:Loc→Prop}{B B0:Nat}{Inb Inb':Nat→Option Seat}{h n:Nat}{Gl:Machine→Trace→Prop}
def D04(Q:Exit→Act→World→Prop)(F:Fz)(b:Frame)(k:List Item)(cs:List Frame)(w:World):Goroutine→World→Prop:=fun g w'=>Wf F w'∧Gd F w w'∧
 ((∃a' τ e,g=G (b.at a' k) cs∧Q .normal a' (retape (L1 F w') τ e))∨(∃a' τ e t',g=G {b.at a' (.code .ret::t')with mode:=.returning} cs∧Q .ret a' (retape (L1 F w') τ e)))
theorem p0b{w w':World}(h:Gd F w w')(d:Nat):Gd F w (w'.at d):=h.trans (Gd.of_grew (d:=d) (V3.refl F (w'.at d)))
structure u0l(P:Program)(S:FuncId→Bool):Prop where
 shut:∀px,Z5 P S px
 late:P7 P
theorem q0a(R:u0l P S)(px:Bool)(hF:px=true→∀r,F r=none){c:Code}(hc:Q5 P S px c=true){Q:Exit→Act→World→Prop}{a:Act}{w:World}(hw:Wf F w)(hd:a.defers=[])
 (hQ:∀e a w,Q e a w→e= .normal∨(e= .ret∧a.defers=[])) (H:∀τ e,c.wp P Q a (retape (L1 F w) τ e)) {main:Bool} {b:Frame} {k:List Item} {cs:List Frame} (hk:b.kind≠.early):
 J0 P main F (D04 Q F b k cs w) (G (b.at a (.code c::k)) cs) w:=
 x0A (R.shut px) hF R.late hc hw hd hQ H hk (fun a' w' τ e h1 h2 h3=>.stop fun d=>⟨⟨h2.own⟩,p0b h3 d,.inl ⟨a',τ,e,rfl,h1⟩⟩)
  (fun a' w' τ e t' h1 h2 h3=>.stop fun d=>⟨⟨h2.own⟩,p0b h3 d,.inr ⟨a',τ,e,t',rfl,h1⟩⟩)
theorem q0b{main:Bool}{Stop Stop':Goroutine→World→Prop}{g:Goroutine}{w:World}(h:J0 P main F Stop g w)(hS:∀g w,Stop g w→Stop' g w):J0 P main F Stop' g w:=
 h.bind fun _ _ hs=>.stop fun d=>hS _ _ (hs d)
theorem Z6{Stop Stop':Goroutine→World→Prop}{g:Goroutine}{w:World}(h:J0 P true F Stop g w)(hk:∀g w,Stop g w→Q4 A P Stop' g w):Q4 A P Stop' g w:=
 (Q4.own h).bind fun g w ⟨w0,d,e,hs⟩=>e ▸ hk _ _ (hs d)
theorem M0{main:Bool}{Stop:Goroutine→World→Prop}{g g':Goroutine}{w:World}(hr:g.status= .running)(hs:∀d,stepG P main g (w.at d)= .go g' (w.at d) #[])(h:J0 P main F Stop g' w):J0 P main F Stop g w:=
 .step hr fun d=>⟨g',w.at d,#[],hs d,⟨⟨0,V3.refl F _⟩,by simp⟩,h.at d⟩
section
variable{main:Bool}{Stop:Goroutine→World→Prop}{a:Act}{k:List Item}{b:Frame}{cs:List Frame}{w:World}
theorem ogS{x y:Code}(h:J0 P main F Stop (G (b.at a (.code x:: .code y::k)) cs) w):J0 P main F Stop (G (b.at a (.code (.seq x y)::k)) cs) w:=M0 rfl (fun d=>stepG_seq) h
theorem ogE{ops:Array Oper}(h:J0 P main F Stop (G (b.at a k) cs) w):J0 P main F Stop (G (b.at a (.inRegion ops []::k)) cs) w:=M0 rfl (fun d=>stepG_region_end) h
theorem ogR{id:Nat}{ops:Array Oper}(h:J0 P main F Stop (G (b.at a (.inRegion ops (List.range ops.size)::k)) cs) w):J0 P main F Stop (G (b.at a (.code (.region id ops false)::k)) cs) w:=M0 rfl (fun d=>stepG_region) h
theorem ogU{ops:Array Oper}{i:Nat}{rest:List Nat}{o:Oper}(ho:ops[i]? =some o)(hw:Region.wanted o (yielded ops a.tmps)=false)(h:J0 P main F Stop (G (b.at (a.put o.dst undef) (.inRegion ops rest::k)) cs) w):J0 P main F Stop (G (b.at a (.inRegion ops (i::rest)::k)) cs) w:=M0 rfl (fun d=>stepG_unwanted ho hw) h
theorem ogF{c:Operand}{x y:Code}(h:J0 P main F Stop (G (b.at a (.code (if false then x else y)::k)) cs) w)(hc:a.eval c= .bool false:=by exact rfl):J0 P main F Stop (G (b.at a (.code (.cond c x y)::k)) cs) w:=M0 rfl (fun d=>stepG_cond (t:=false) hc) h
theorem ogT{c:Operand}{x y:Code}(h:J0 P main F Stop (G (b.at a (.code (if true then x else y)::k)) cs) w)(hc:a.eval c= .bool true:=by exact rfl):J0 P main F Stop (G (b.at a (.code (.cond c x y)::k)) cs) w:=M0 rfl (fun d=>stepG_cond (t:=true) hc) h
theorem L7{id:Nat}{c:Code}(h:J0 P main F Stop (G (b.at a (.code c:: .inBlock id::k)) cs) w):J0 P main F Stop (G (b.at a (.code (.block id c)::k)) cs) w:=M0 rfl (fun d=>stepG_block) h
theorem ogK(h:J0 P main F Stop (G (b.at a k) cs) w):J0 P main F Stop (G (b.at a (.code .skip::k)) cs) w:=M0 rfl (fun d=>stepG_skip) h
theorem ogI{id:Nat}(h:J0 P main F Stop (G (b.at a k) cs) w):J0 P main F Stop (G (b.at a (.inBlock id::k)) cs) w:=M0 rfl (fun d=>stepG_inBlock) h
theorem ogL{c:Code}(h:J0 P main F Stop (G (b.at a (.code c:: .inLoop c::k)) cs) w):J0 P main F Stop (G (b.at a (.inLoop c::k)) cs) w:=M0 rfl (fun d=>stepG_inLoop) h
theorem ogP{c:Code}(h:J0 P main F Stop (G (b.at a (.code c:: .inLoop c::k)) cs) w):J0 P main F Stop (G (b.at a (.code (.loop c)::k)) cs) w:=M0 rfl (fun d=>stepG_loop) h
theorem ogX(h:J0 P main F Stop (G {b.at a (.code .ret::k)with mode:=.returning} cs) w):J0 P main F Stop (G (b.at a (.code .ret::k)) cs) w:=M0 rfl (fun d=>stepG_ret') h
end
section
variable {main : Bool} {Stop : Goroutine → World → Prop} {a : Act} {k : List Item} {b : Frame} {cs : List Frame} {w : World}
theorem ogSR {x y s : Code} {id : Nat} {ops : Array Oper} (h1 : s = .seq x y) (h2 : x = .region id ops false) (h : J0 P main F Stop (G (b.at a (.inRegion ops (List.range ops.size) :: .code y :: k)) cs) w) : J0 P main F Stop (G (b.at a (.code s :: k)) cs) w := by
  subst h1 h2
  exact ogS (ogR h)
theorem F0v {x y s : Code} (h1 : s = .seq x y) (h : J0 P main F Stop (G (b.at a (.code x :: .code y :: k)) cs) w) : J0 P main F Stop (G (b.at a (.code s :: k)) cs) w := by
  subst h1
  exact ogS h
end
section
variable {main : Bool} {Stop : Goroutine → World → Prop} {a : Act} {k : List Item} {b : Frame} {cs : List Frame} {w : World}
theorem ogG {c : Operand} {x y : Code} (h : J0 P main F Stop (G (b.at a (.code y :: k)) cs) w) (hc : a.eval c = .bool false := by exact rfl) : J0 P main F Stop (G (b.at a (.code (.cond c x y) :: k)) cs) w := ogF h hc
theorem ogY {c : Operand} {x y : Code} (h : J0 P main F Stop (G (b.at a (.code x :: k)) cs) w) (hc : a.eval c = .bool true := by exact rfl) : J0 P main F Stop (G (b.at a (.code (.cond c x y) :: k)) cs) w := ogT h hc
end
end
section
open Go Go.Conc Go.RowKit
variable{P:Program}{F:Fz}
theorem J0.of_goes{main:Bool}{Stop:Goroutine→World→Prop}{g:Goroutine}{w:World}(hr:g.status= .running)(h:∀d,(stepG P main g (w.at d)).goes fun g' w' es=>H7 F (w.at d) w' es∧J0 P main F Stop g' w'):J0 P main F Stop g w:=by
 refine .step hr fun d=>?_
 have:=h d
 cases hs:stepG P main g (w.at d)with
 | go g' w' es=>rw[hs,goes_go]at this;exact⟨g',w',es,rfl,this.1,this.2⟩
 | _=>rw[hs]at this;exact this.elim
def i2(F:Fz)(n:Nat):Prop:=∀r z,F r=some z→r<n
theorem l0C{n:Nat}(h:i2 F n){a:Addr}(ha:held F a):a.block<n:=by obtain⟨z,hz,_⟩:=ha;exact h _ _ hz
theorem b0Z(w:World)(o:Obj)(a:Addr)(h:a.block<w.heap.size):(w.alloc o).cell? a=w.cell? a:=by
 unfold World.cell?
 rw[Below.heap_alloc _ _ _ h]
theorem Y0{n:Nat}(h:i2 F n){w:World}(hn:n≤w.heap.size)(o:Obj):V3 F w (w.alloc o) 0:=by
 refine⟨rfl,rfl,rfl,rfl,by simp,fun r o' hr=>.inr ?_,fun a ha=>b0Z w o a (Nat.lt_of_lt_of_le (l0C h ha) hn)⟩
 rw[Below.heap_alloc _ _ _ (by rcases Nat.lt_or_ge r w.heap.size with h1|h1;exact h1;rw[Array.getElem?_eq_none h1]at hr;cases hr)]
 exact hr
theorem E0{w:World}{a:Addr}(hs:a.spot=none)(h:¬held F a)(v:Value):V3 F w (w.setCell a v) 0:=by
 refine⟨rfl,rfl,rfl,rfl,by simp[World.setCell],fun r o hr=>?_,fun b hb=>?_⟩
 ·by_cases e:a.block=r
  ·subst e
   cases o with
   | cells c t z=>exact .inl ⟨c,t,z,c.setIfInBounds a.off v,rfl,by simp[World.setCell,Array.getElem?_modify,hr,hs],by simp⟩
   | _=>exact .inr (by simp[World.setCell,Array.getElem?_modify,hr])
  ·exact .inr (by simp[World.setCell,Array.getElem?_modify,e,hr])
 ·unfold World.cell?
  by_cases e:a.block=b.block
  ·rw[← e]
   simp only[World.setCell,Array.getElem?_modify,if_true]
   cases ho:w.heap[a.block]? with
   | none=>rfl
   | some o=>
     cases o with
     | cells c t z=>
       simp only[Option.map_some,hs,Option.isSome_none,Bool.false_eq_true,↓reduceIte]
       split
       ·rfl
       ·rw[Array.getElem?_setIfInBounds_ne]
        intro e2
        obtain⟨z',h1,h2,h3⟩:=hb
        exact h ⟨z',by rw[e];exact h1,by rw[e2];exact h2,by rw[e2];exact h3⟩
     | _=>rfl
  ·simp[World.setCell,Array.getElem?_modify,e]
section
variable(a:Addr)(m:Mode)(w:World)(es:Array Event)
@[go_sem] theorem r0O(v:Bool):(store a (.bool v) m).events P w es=storedEv P w es a (.bool v) m:=events_store P w es a _ m rfl
@[go_sem] theorem n0u(v:Option Addr):(store a (.pointer v) m).events P w es=storedEv P w es a (.pointer v) m:=events_store P w es a _ m rfl
@[go_sem] theorem o01(v:Option Addr)(n c:Nat):(store a (.slice v n c) m).events P w es=storedEv P w es a (.slice v n c) m:=events_store P w es a _ m rfl
@[go_sem] theorem r0P(f:Fn)(x y:Array Value):(store a (.func f x y) m).events P w es=storedEv P w es a (.func f x y) m:=events_store P w es a _ m rfl
@[go_sem] theorem l0x:(store a .nilIface m).events P w es=storedEv P w es a .nilIface m:=events_store P w es a _ m rfl
@[go_sem] theorem o00(t:TypeId)(v:Value):(store a (.iface t v) m).events P w es=storedEv P w es a (.iface t v) m:=events_store P w es a _ m rfl
@[go_sem] theorem r0Q(fn:Fn)(first cap:Array Value):(Instr.makeFunc fn first cap).run P w= .ok (.func fn first cap) w:=rfl
@[go_sem] theorem s0n(fn:Fn)(first cap:Array Value):(Instr.makeFunc fn first cap).events P w es=es:=rfl
end
theorem O4{a:Addr}{n:Nat}(h:i2 F n)(hn:n≤a.block):¬held F a:=fun ha=>absurd (l0C h ha) (by omega)
theorem O9{a:Addr}(h:F a.block=none):¬held F a:=fun⟨z,hz,_⟩=>by rw[h]at hz;cases hz
section
variable{P:Program}{F:Fz}{main:Bool}{Stop:Goroutine→World→Prop}{b:Frame}{a a':Act}{k:List Item}{cs:List Frame}{w:World}{ops:Array Oper}{i n d:Nat}{rest:List Nat}{o:Oper}{K:Act→World→Prop}
theorem oW(h:∀(d:Nat) (K':Act→World→Prop),(∀a' w',H7 F (w.at d) w' (listed P b.fn a o (w.at d))∧J0 P main F Stop (G (b.at a' (.inRegion ops rest::k)) cs) w'→K' a' w')→uponK o a K' ((execOp a.eval o).run P (w.at d)))
 (ho:ops[i]? =some o:=by exact rfl) (hw:Region.wanted o (yielded ops a.tmps)=true:=by exact rfl) (hk:b.kind≠.early:=by decide):
 J0 P main F Stop (G (b.at a (.inRegion ops (i::rest)::k)) cs) w:=J0.of_goes rfl fun d=>goes_oper_k ho hw hk (h d)
theorem qT(hK:∀a' w',H7 F (w.at d) w' (listed P b.fn a o (w.at d))∧J0 P main F Stop (G (b.at a' (.inRegion ops rest::k)) cs) w'→K a' w')(h:J0 P main F Stop (G (b.at a' (.inRegion ops rest::k)) cs) w)
 (he:∀e∈listed P b.fn a o (w.at d),J9 F e:=by intro e he;have hm:=mem_listed he;simp[go_sem]at hm):K a' (w.at d):=hK _ _ ⟨⟨⟨0,V3.refl _ _⟩,he⟩,h.at d⟩
theorem qX(hK:∀a' w',H7 F (w.at d) w' (listed P b.fn a o (w.at d))∧J0 P main F Stop (G (b.at a' (.inRegion ops rest::k)) cs) w'→K a' w')(h:J0 P main F Stop (G (b.at a' (.inRegion ops rest::k)) cs) w)
 (he:∀e∈listed P b.fn a o (w.at d),J9 F e:=by intro e he;have hm:=mem_listed he;simp[go_sem, *]at hm):K a' (w.at d):=hK _ _ ⟨⟨⟨0,V3.refl _ _⟩,he⟩,h.at d⟩
theorem qL(hK:∀a' w',H7 F (w.at d) w' (listed P b.fn a o (w.at d))∧J0 P main F Stop (G (b.at a' (.inRegion ops rest::k)) cs) w'→K a' w')(h:J0 P main F Stop (G (b.at a' (.inRegion ops rest::k)) cs) w)
 (he:∀e∈listed P b.fn a o (w.at d),J9 F e:=by intro e he;have hm:=mem_listed he;simp[go_sem, *]at hm;subst hm;exact I1 _ _):K a' (w.at d):=hK _ _ ⟨⟨⟨0,V3.refl _ _⟩,he⟩,h.at d⟩
theorem qA{ob:Obj}(hK:∀a' w',H7 F (w.at d) w' (listed P b.fn a o (w.at d))∧J0 P main F Stop (G (b.at a' (.inRegion ops rest::k)) cs) w'→K a' w')(hU:i2 F n)(h:J0 P main F Stop (G (b.at a' (.inRegion ops rest::k)) cs) (w.alloc ob))
 (hn:n≤(w.at d).heap.size:=by first|(simp[go_sem];done)|(simp[go_sem];omega)) (he:∀e∈listed P b.fn a o (w.at d),J9 F e:=by intro e he;have hm:=mem_listed he;simp[go_sem,storedEv]at hm):K a' ((w.at d).alloc ob):=hK _ _ ⟨⟨⟨0,Y0 hU hn _⟩,he⟩,h.at d⟩
theorem qS{ad:Addr}{v:Value}(hK:∀a' w',H7 F (w.at d) w' (listed P b.fn a o (w.at d))∧J0 P main F Stop (G (b.at a' (.inRegion ops rest::k)) cs) w'→K a' w')(hU:i2 F n)(h:J0 P main F Stop (G (b.at a' (.inRegion ops rest::k)) cs) (w.setCell ad v))
 (hn:n≤ad.block:=by first|(simp[go_sem];done)|(simp[go_sem];omega)) (he:∀e∈listed P b.fn a o (w.at d),e=⟨.cell ad,true,false⟩:=by intro e he;have hm:=mem_listed he;simp[go_sem,storedEv]at hm;exact hm) (hs:ad.spot=none:=by exact rfl):K a' ((w.at d).setCell ad v):=
 hK _ _ ⟨⟨⟨0,E0 hs (O4 hU hn) _⟩,fun e hm=>by rw[he e hm];exact U0 _ _ (O4 hU hn)⟩,h.at d⟩
end
section
variable {P : Program} {main : Bool} {F : Fz} {b : Frame} {a a' : Act} {k : List Item} {cs : List Frame} {w : World} {ops : Array Oper} {i : Nat} {rest : List Nat} {o : Oper} {Stop : Goroutine → World → Prop}
theorem oT (h : J0 P main F Stop (G (b.at a' (.inRegion ops rest :: k)) cs) w) (ho : ops[i]? = some o := by exact rfl) (hw : Region.wanted o (yielded ops a.tmps) = true := by exact rfl) (hk : b.kind ≠ .early := by decide)
    (hs : ∀ (d : Nat) (K' : Act → World → Prop), (∀ a' w', H7 F (w.at d) w' (listed P b.fn a o (w.at d)) ∧ J0 P main F Stop (G (b.at a' (.inRegion ops rest :: k)) cs) w' → K' a' w') → J0 P main F Stop (G (b.at a' (.inRegion ops rest :: k)) cs) w → uponK o a K' ((execOp a.eval o).run P (w.at d)) := by intro d K hK h; go_simp; exact qT hK h) :
    J0 P main F Stop (G (b.at a (.inRegion ops (i :: rest) :: k)) cs) w := oW (fun d K hK => hs d K hK h) ho hw hk
theorem oX (h : J0 P main F Stop (G (b.at a' (.inRegion ops rest :: k)) cs) w) (ho : ops[i]? = some o := by exact rfl) (hw : Region.wanted o (yielded ops a.tmps) = true := by exact rfl) (hk : b.kind ≠ .early := by decide)
    (hs : ∀ (d : Nat) (K' : Act → World → Prop), (∀ a' w', H7 F (w.at d) w' (listed P b.fn a o (w.at d)) ∧ J0 P main F Stop (G (b.at a' (.inRegion ops rest :: k)) cs) w' → K' a' w') → J0 P main F Stop (G (b.at a' (.inRegion ops rest :: k)) cs) w → uponK o a K' ((execOp a.eval o).run P (w.at d)) := by intro d K hK h; go_simp; exact qX hK h) :
    J0 P main F Stop (G (b.at a (.inRegion ops (i :: rest) :: k)) cs) w := oW (fun d K hK => hs d K hK h) ho hw hk
theorem oL (h : J0 P main F Stop (G (b.at a' (.inRegion ops rest :: k)) cs) w) (ho : ops[i]? = some o := by exact rfl) (hw : Region.wanted o (yielded ops a.tmps) = true := by exact rfl) (hk : b.kind ≠ .early := by decide)
    (hs : ∀ (d : Nat) (K' : Act → World → Prop), (∀ a' w', H7 F (w.at d) w' (listed P b.fn a o (w.at d)) ∧ J0 P main F Stop (G (b.at a' (.inRegion ops rest :: k)) cs) w' → K' a' w') → J0 P main F Stop (G (b.at a' (.inRegion ops rest :: k)) cs) w → uponK o a K' ((execOp a.eval o).run P (w.at d)) := by intro d K hK h; go_simp; exact qL hK h) :
    J0 P main F Stop (G (b.at a (.inRegion ops (i :: rest) :: k)) cs) w := oW (fun d K hK => hs d K hK h) ho hw hk
theorem oA {n : Nat} {ob : Obj} (hU : i2 F n) (h : J0 P main F Stop (G (b.at a' (.inRegion ops rest :: k)) cs) (w.alloc ob)) (ho : ops[i]? = some o := by exact rfl) (hw : Region.wanted o (yielded ops a.tmps) = true := by exact rfl) (hk : b.kind ≠ .early := by decide)
    (hs : ∀ (d : Nat) (K' : Act → World → Prop), (∀ a' w', H7 F (w.at d) w' (listed P b.fn a o (w.at d)) ∧ J0 P main F Stop (G (b.at a' (.inRegion ops rest :: k)) cs) w' → K' a' w') → J0 P main F Stop (G (b.at a' (.inRegion ops rest :: k)) cs) (w.alloc ob) → uponK o a K' ((execOp a.eval o).run P (w.at d)) := by intro d K hK h; go_simp; exact qA hK hU h) :
    J0 P main F Stop (G (b.at a (.inRegion ops (i :: rest) :: k)) cs) w := oW (fun d K hK => hs d K hK h) ho hw hk
end
end
section
open Go Go.Conc Go.RowKit
variable{P:Program}{F:Fz}{fn:FuncId}{ops:Array Oper}{w0:World}{last:Nat}{Z:Act→Prop}
def i0Q(ops:Array Oper)(last:Nat):Bool:=
 ops.size == last+1 && (List.range ops.size).all (fun j=>(ops[j]?).all (fun o=>o.after.all fun e=> !Region.binds .any e || decide (e.on<j))) &&
 (List.range last).all (fun j=>(List.range ops.size).any fun s=>decide (j<s) && (ops[s]?).any (fun o=>o.after.any fun e=>Region.binds .any e && e.on == j))
structure LL(ops:Array Oper)(last:Nat):Prop where
 size:ops.size=last+1
 deps:∀j o,ops[j]? =some o→∀e∈o.after,Region.binds .any e=true→e.on<j
 used:∀j,j<last→∃s o e,j<s∧ops[s]? =some o∧e∈o.after∧Region.binds .any e=true∧e.on=j
theorem z8(h:i0Q ops last=true):LL ops last:=by
 simp only[i0Q,Bool.and_eq_true,beq_iff_eq,List.all_eq_true,List.mem_range]at h
 obtain⟨⟨h1,h2⟩,h3⟩:=h
 refine⟨h1,fun j o ho e he hb=>?_,fun j hj=>?_⟩
 ·have hlt:=(Array.getElem?_eq_some_iff.1 ho).1
  have:=h2 j hlt
  rw[ho]at this
  simp only[Option.all_some,Array.all_eq_true_iff_forall_mem]at this
  have:=this e he
  rw[hb]at this
  simpa using this
 ·have:=h3 j hj
  simp only[List.any_eq_true,List.mem_range,Bool.and_eq_true,decide_eq_true_eq]at this
  obtain⟨s,hs,hjs,hh⟩:=this
  cases ho:ops[s]? with
  | none=>rw[ho]at hh;cases hh
  | some o=>
    rw[ho]at hh
    simp only[Option.any_some]at hh
    obtain⟨e,he,hb⟩:=Array.any_eq_true'.1 hh
    simp only[Bool.and_eq_true,beq_iff_eq]at hb
    exact⟨s,o,e,hjs,ho,he,hb.1,hb.2⟩
def g0L(ops:Array Oper)(listed:Array Bool):Prop:=∀j o,ops[j]? =some o→listed.getD j false=true→∀e∈o.after,Region.binds .any e=true→listed.getD e.on false=true
theorem Q7{listed:Array Bool}{j:Nat}(h:j<listed.size):listed.getD j true=listed.getD j false:=by simp[h]
theorem b0R(L:LL ops last){listed:Array Bool}(hs:listed.size=ops.size)(hc:g0L ops listed)(hr:last∈Region.ready .any ops listed):∀n j,last - j≤n→j<last→listed.getD j false=true:=by
 obtain⟨h0,ol,hol,hall⟩:=mem_ready.1 hr
 intro n
 induction n with
 | zero=>intro j h1 h2;omega
 | succ n ih=>
   intro j h1 h2
   obtain⟨s,o,e,hjs,ho,he,hb,rfl⟩:=L.used j h2
   have hslt:=(Array.getElem?_eq_some_iff.1 ho).1
   rw[L.size]at hslt
   rcases Nat.lt_or_ge s last with h3|h3
   ·exact hc s o ho (ih s (by omega) h3) e he hb
   ·have:s=last:=by omega
    subst this
    rw[hol]at ho
    cases ho
    exact hall e he hb
theorem c0d(L:LL ops last){listed:Array Bool}(hs:listed.size=ops.size):∀j,listed.getD j true=false→∃i,i∈Region.ready .any ops listed:=by
 intro j
 induction j using Nat.strongRecOn with
 | _ j ih=>
   intro hj
   have hlt:j<listed.size:=by
    rcases Nat.lt_or_ge j listed.size with h|h
    ·exact h
    ·simp[Array.getElem?_eq_none h]at hj
   cases ho:ops[j]? with
   | none=>rw[Array.getElem?_eq_none_iff]at ho;omega
   | some o=>
     by_cases hall:∀e∈o.after,Region.binds .any e=true→listed.getD e.on false=true
     ·exact⟨j,mem_ready.2 ⟨hj,o,ho,hall⟩⟩
     ·have:∃e,e∈o.after∧Region.binds .any e=true∧¬listed.getD e.on false=true:=by
       apply Classical.byContradiction
       intro hn
       exact hall fun e he hb=>Classical.byContradiction fun hx=>hn ⟨e,he,hb,hx⟩
      obtain⟨e,he,hb,hx⟩:=this
      have he':=L.deps j o ho e he hb
      exact ih e.on he' (by rw[Q7 (by omega)];simpa using hx)
def YQ(P:Program)(F:Fz)(fn:FuncId)(ops:Array Oper)(w0:World)(o:Oper)(v:Value)(a:Act):Prop:=
 (Region.wanted o (yielded ops a.tmps)=true∧∀d,(execOp a.eval o).run P (w0.at d)= .ok (.value v) (w0.at d)∧∀e∈listed P fn a o (w0.at d),J9 F e)∨
 (Region.wanted o (yielded ops a.tmps)=false∧v=undef)
theorem YQ.of_same{o:Oper}{v:Value}{a a':Act}(hy:YQ P F fn ops w0 o v a)(he:execOp a'.eval o=execOp a.eval o)(hw:Region.wanted o (yielded ops a'.tmps)=Region.wanted o (yielded ops a.tmps)):YQ P F fn ops w0 o v a':=by
 unfold YQ listed at*
 rw[he,hw]
 exact hy
def OpQ(P:Program)(F:Fz)(fn:FuncId)(ops:Array Oper)(w0:World)(i:Nat)(K:Act→Prop)(a:Act):Prop:=
 ∃o v,ops[i]? =some o∧YQ P F fn ops w0 o v a∧K (a.put o.dst v)
def b0L(P:Program)(F:Fz)(fn:FuncId)(ops:Array Oper)(w0:World)(last:Nat)(Z:Act→Prop):Nat→Array Bool→Act→Prop
 | 0,listed,a=>((∀j∈Region.ready .any ops listed,j=last)→Z a)∧∀j∈Region.ready .any ops listed,j=last
 | fuel+1,listed,a=>((∀j∈Region.ready .any ops listed,j=last)→Z a)∧∀i∈Region.ready .any ops listed,i≠last→OpQ P F fn ops w0 i (b0L P F fn ops w0 last Z fuel (listed.setIfInBounds i true)) a
theorem o0s{listed:Array Bool}{a:Act}(hr:∀j∈Region.ready .any ops listed,j=last)(h:Z a):∀fuel,b0L P F fn ops w0 last Z fuel listed a
 | 0=>⟨fun _=>h,hr⟩
 | _+1=>⟨fun _=>h,fun i hi hne=>absurd (hr i hi) hne⟩
theorem r0V{i j:Nat}{oi oj:Oper}{v:Value}(hj:ops[j]? =some oj)(hap:oi.apart ops oj=true)(hsi:∀cs b,oi.op≠.select cs b)(hsj:∀cs b,oj.op≠.select cs b){K:Act→Prop}{a:Act}
 (hy:YQ P F fn ops w0 oi v a) (h:OpQ P F fn ops w0 j K (a.put oi.dst v)):OpQ P F fn ops w0 j (fun a'=>YQ P F fn ops w0 oi v a'∧K (a'.put oi.dst v)) a:=by
 obtain⟨h1,h2,h3⟩:=Oper.apart_spec hap
 obtain⟨o,u,ho,hyj,hK⟩:=h
 rw[hj]at ho
 cases ho
 refine⟨oj,u,hj,hyj.of_same (execOp_put oj hsj a oi.dst v h1).symm (wanted_put oj a oi.dst v h1).symm,hy.of_same (execOp_put oi hsi a oj.dst u h3) (wanted_put oi a oj.dst u h3),?_⟩
 rw[← Act.put_comm a v u h2];exact hK
theorem o0p{i:Nat}{a:Act}{K K':Act→Prop}(h:∀a,K a→K' a)(hh:OpQ P F fn ops w0 i K a):OpQ P F fn ops w0 i K' a:=by
 obtain⟨o,v,h1,h2,h3⟩:=hh
 exact⟨o,v,h1,h2,h _ h3⟩
theorem j0S{i:Nat}{oi:Oper}{v:Value}(hi:ops[i]? =some oi)(hil:i≠last)(hsel:∀(j:Nat) (o:Oper) cs b,ops[j]? =some o→o.op≠.select cs b):
 ∀(fuel:Nat) (listed:Array Bool) (a:Act),
  (∀j oj,ops[j]? =some oj→j≠i→listed.getD j true=false→(∀e∈oj.after,Region.binds .any e=true→e.on≠i)→oi.apart ops oj=true)→
  i∈Region.ready .any ops listed→YQ P F fn ops w0 oi v a→
  b0L P F fn ops w0 last Z fuel (listed.setIfInBounds i true) (a.put oi.dst v)→b0L P F fn ops w0 last Z (fuel+1) listed a:=by
 intro fuel
 induction fuel with
 | zero=>
   intro listed a _ hr hy H
   refine⟨fun h=>absurd (h i hr) hil,fun j hj hjl=>?_⟩
   by_cases hji:j=i
   ·subst hji;exact⟨oi,v,hi,hy,H⟩
   ·exact absurd (H.2 j (ready_mono hj hji)) hjl
 | succ fuel ih=>
   intro listed a hfree hr hy H
   refine⟨fun h=>absurd (h i hr) hil,fun j hj hjl=>?_⟩
   by_cases hji:j=i
   ·subst hji;exact⟨oi,v,hi,hy,H⟩
   ·have h1:=H.2 j (ready_mono hj hji) hjl
    obtain⟨hjun,oj,hoj,hall⟩:=mem_ready.1 hj
    have hnot:∀e∈oj.after,Region.binds .any e=true→e.on≠i:=fun e he hb heq=>by
     have h1:=hall e he hb
     have h0:=(mem_ready.1 hr).1
     rw[heq]at h1
     rcases Nat.lt_or_ge i listed.size with h'|h'
     ·simp[h']at h0 h1;rw[h0]at h1;cases h1
     ·simp[Array.getElem?_eq_none h']at h1
    have h2:=r0V (i:=i) hoj (hfree j oj hoj hji hjun hnot) (fun cs b=>hsel i oi cs b hi) (fun cs b=>hsel j oj cs b hoj) hy h1
    have hfree':∀k ok,ops[k]? =some ok→k≠i→(listed.setIfInBounds j true).getD k true=false→
     (∀e∈ok.after,Region.binds .any e=true→e.on≠i)→oi.apart ops ok=true:=fun k ok hk hki hun hno=>by
     refine hfree k ok hk hki ?_ hno
     by_cases hjk:j=k
     ·subst hjk;exact hjun
     ·rw[getD_set_ne true hjk]at hun;exact hun
    refine o0p (fun a' h3=>ih (listed.setIfInBounds j true) a' hfree' (ready_mono hr (Ne.symm hji)) h3.1 ?_) h2
    rw[Array.setIfInBounds_comm _ _ hji]
    exact h3.2
theorem w5{i:Nat}{oi:Oper}{v:Value}{fuel:Nat}{listed:Array Bool}{a:Act}(hi:ops[i]? =some oi)(hil:(i != last)=true)(hs:Region.noSelect ops=true)(hf:Region.free .any ops listed i=true)
 (hr:(Region.ready .any ops listed).contains i=true) (hy:YQ P F fn ops w0 oi v a) (h:b0L P F fn ops w0 last Z fuel (listed.setIfInBounds i true) (a.put oi.dst v)):b0L P F fn ops w0 last Z (fuel+1) listed a:=
 j0S hi (by simpa using hil) (Region.noSelect_spec hs) fuel listed a (Region.free_spec hi hf) (by simpa using hr) hy h
theorem y0g{main:Bool}{Stop:Goroutine→World→Prop}{b:Frame}{a:Act}{k:List Item}{cs:List Frame}{i:Nat}{rest:List Nat}{o:Oper}{v:Value}(hk:b.kind≠.early)(ho:ops[i]? =some o)(hy:YQ P F b.fn ops w0 o v a)
 (h:J0 P main F Stop (G (b.at (a.put o.dst v) (.inRegion ops rest::k)) cs) w0):J0 P main F Stop (G (b.at a (.inRegion ops (i::rest)::k)) cs) w0:=by
 rcases hy with⟨hw,hv⟩|⟨hw,rfl⟩
 ·refine .step rfl fun d=>⟨_,_,_,stepG_value ho hw hk (hv d).1,⟨⟨0,V3.refl F _⟩,(hv d).2⟩,h.at d⟩
 ·refine .step rfl fun d=>⟨_,_,#[],stepG_unwanted ho hw,⟨⟨0,V3.refl F _⟩,by simp⟩,h.at d⟩
theorem j0T(L:LL ops last){main:Bool}{Stop:Goroutine→World→Prop}{b:Frame}{k:List Item}{cs:List Frame}(hk:b.kind≠.early):
 ∀(fuel t:Nat) (listed:Array Bool) (a:Act),listed.size=ops.size→g0L ops listed→listed.getD last true=false→
  b0L P F b.fn ops w0 last (fun a=>J0 P main F Stop (G (b.at a (.inRegion ops [last]::k)) cs) w0) fuel listed a→
  J0 P main F Stop (G (b.at a (.inRegion ops (Region.linearise.go .any ops (fuel+1) t listed [])::k)) cs) w0:=by
 intro fuel
 induction fuel with
 | zero=>?_
 | succ fuel ih=>?_
 all_goals
  intro t listed a hs hc hl H
  obtain⟨i0,hi0⟩:=c0d L hs last hl
  have hlen:0<(Region.ready .any ops listed).length:=List.length_pos_of_mem hi0
  obtain⟨i,hi⟩:∃i,(Region.ready .any ops listed)[t % (Region.ready .any ops listed).length]? =some i:=⟨_,List.getElem?_eq_getElem (Nat.mod_lt _ hlen)⟩
  have hmem:=List.mem_of_getElem? hi
  rw[Region.linearise.go]
  change J0 P main F Stop (G (b.at a (.inRegion ops (match(Region.ready .any ops listed)[t % (Region.ready .any ops listed).length]? with
   | some i=>Region.linearise.go .any ops _ (t / (Region.ready .any ops listed).length) (listed.setIfInBounds i true) [i]
   | none=>[].reverse)::k)) cs) w0
  rw[hi]
  simp only[]
  rw[linearise_go_acc,List.reverse_singleton,List.singleton_append]
 ·obtain rfl:=H.2 i hmem
  simp only[Region.linearise.go,List.reverse_nil]
  exact H.1 H.2
 ·by_cases hil:i=last
  ·subst hil
   have hall:=b0R L hs hc hmem i
   have hre:∀j∈Region.ready .any ops listed,j=i:=by
    intro j hj
    obtain⟨h0,o,ho,_⟩:=mem_ready.1 hj
    have hlt:=(Array.getElem?_eq_some_iff.1 ho).1
    have hsz:=L.size
    rcases Nat.lt_or_ge j i with h|h
    ·have:=hall j (by omega) h
     rw[Q7 (by omega),this]at h0;cases h0
    ·omega
   have hnil:Region.ready .any ops (listed.setIfInBounds i true)=[]:=by
    apply List.eq_nil_iff_forall_not_mem.2
    intro j hj
    obtain⟨h0,o,ho,_⟩:=mem_ready.1 hj
    have hlt:=(Array.getElem?_eq_some_iff.1 ho).1
    have hsz:=L.size
    by_cases e:i=j
    ·subst e
     rw[Q7 (by simp;omega)]at h0
     have:i<listed.size:=by omega
     simp[this]at h0
    ·rw[getD_set_ne true e,Q7 (by omega),hall j (by omega) (by omega)]at h0;cases h0
   have:Region.linearise.go .any ops (fuel+1) (t / (Region.ready .any ops listed).length) (listed.setIfInBounds i true) []=[]:=by
    rw[Region.linearise.go]
    change(match(Region.ready .any ops (listed.setIfInBounds i true))[(t / (Region.ready .any ops listed).length) % (Region.ready .any ops (listed.setIfInBounds i true)).length]? with
     | some i=>_
     | none=>[].reverse)=[]
    rw[hnil];rfl
   rw[this]
   exact H.1 hre
  ·obtain⟨o,v,ho,hy,hK⟩:=H.2 i hmem hil
   refine y0g hk ho hy (ih _ _ _ (by simpa using hs) (fun j o' hj hlj e he hb=>?_) (by rw[getD_set_ne true hil];exact hl) hK)
   by_cases e2:i=j
   ·subst e2
    obtain⟨_,o2,ho2,hd⟩:=mem_ready.1 hmem
    rw[hj]at ho2
    cases ho2
    exact getD_set_true (hd e he hb)
   ·rw[getD_set_ne false e2]at hlj
    exact getD_set_true (hc j o' hj hlj e he hb)
theorem P9(hm:P.follows .mixedOrders=true)(L:LL ops last){id:Nat}{main:Bool}{Stop:Goroutine→World→Prop}{b:Frame}{a:Act}{k:List Item}{cs:List Frame}(hk:b.kind≠.early)
 (h:b0L P F b.fn ops w0 last (fun a=>J0 P main F Stop (G (b.at a (.inRegion ops [last]::k)) cs) w0) last (Array.replicate ops.size false) a):
 J0 P main F Stop (G (b.at a (.code (.region id ops true)::k)) cs) w0:=by
 refine .step rfl fun d=>⟨_,_,_,stepG_region_draw,⟨⟨1,?_⟩,by simp⟩,?_⟩
 ·exact⟨rfl,rfl,rfl,rfl,Nat.le_refl _,fun _ _ h=>.inr h,fun _ _=>rfl⟩
 ·have hs:=L.size
  have:=j0T (cs:=cs) (k:=k) L hk last ((w0.at d).tape (w0.at d).drawn (.order b.fn id)) (Array.replicate ops.size false) a (by simp) (fun j o _ hl=>by
   simp at hl
   rcases Nat.lt_or_ge j ops.size with h1|h1<;>simp[h1]at hl) (by simp[hs]) h
  rw[← hs]at this
  simp only[Region.schedule,hm,Bool.true_or,if_true]
  exact this.at (d+1)
section
variable {fuel : Nat} {listed : Array Bool} {a : Act} {oi : Oper}
theorem tkL (i : Nat) (v : Value) (h : b0L P F fn ops w0 last Z fuel (listed.setIfInBounds i true) (a.put oi.dst v)) (hi : ops[i]? = some oi := by exact rfl) (hil : (i != last) = true := by exact rfl) (hs : Region.noSelect ops = true := by kernel_rfl) (hf : Region.free .any ops listed i = true := by kernel_rfl) (hr : (Region.ready .any ops listed).contains i = true := by kernel_rfl) (hy : YQ P F fn ops w0 oi v a := by exact .inl ⟨rfl, fun d => ⟨by simp [go_sem, execOp, Act.eval], fun e he => by have hm := mem_listed he; simp [go_sem, execOp, Act.eval] at hm⟩⟩) : b0L P F fn ops w0 last Z (fuel + 1) listed a := w5 hi hil hs hf hr hy h
theorem u0a {Q : Prop} (i : Nat) (v : Value) (f : Q) (h : b0L P F fn ops w0 last Z fuel (listed.setIfInBounds i true) (a.put oi.dst v)) (hi : ops[i]? = some oi := by exact rfl) (hil : (i != last) = true := by exact rfl) (hs : Region.noSelect ops = true := by kernel_rfl) (hf : Region.free .any ops listed i = true := by kernel_rfl) (hr : (Region.ready .any ops listed).contains i = true := by kernel_rfl) (hy : Q → YQ P F fn ops w0 oi v a := by intro f; exact .inl ⟨rfl, fun d => ⟨by simp [go_sem, execOp, Act.eval, f], fun e he => by have hm := mem_listed he; simp [go_sem, execOp, Act.eval, f] at hm⟩⟩) : b0L P F fn ops w0 last Z (fuel + 1) listed a := w5 hi hil hs hf hr (hy f) h
theorem b0B {Q : Prop} (i : Nat) (v : Value) (f : Q) (h : b0L P F fn ops w0 last Z fuel (listed.setIfInBounds i true) (a.put oi.dst v)) (hi : ops[i]? = some oi := by exact rfl) (hil : (i != last) = true := by exact rfl) (hs : Region.noSelect ops = true := by kernel_rfl) (hf : Region.free .any ops listed i = true := by kernel_rfl) (hr : (Region.ready .any ops listed).contains i = true := by kernel_rfl) (hy : Q → YQ P F fn ops w0 oi v a := by intro f; exact .inl ⟨rfl, fun d => ⟨by simp [go_sem, execOp, Act.eval, f], fun e he => by have hm := mem_listed he; simp [go_sem, execOp, Act.eval, f] at hm; first | (subst hm; exact I1 _ _) | (rcases hm with rfl | rfl | rfl <;> exact I1 _ _) | (rcases hm with rfl | rfl | rfl | rfl <;> exact I1 _ _)⟩⟩) : b0L P F fn ops w0 last Z (fuel + 1) listed a := w5 hi hil hs hf hr (hy f) h
end
end
noncomputable section
open Go.ConcN (sumTo upd sumTo_upd upd_ne upd_same)
structure Z1(w:World)(a:Addr)(v:Value):Prop where
 o:∃c e,w.heap[a.block]? =some (.cells c e (0,0))∧c[a.off]? =some v
 s:a.spot=none
theorem Z1.c{w:World}{a:Addr}{v:Value}(h:Z1 w a v):w.cell? a=some v:=by
 obtain⟨c,e,h1,h2⟩:=h.o
 simp[World.cell?,h1,h2,h.s]
theorem Z1.z{w:World}{a:Addr}{v:Value}(h:Z1 w a v):w.frozen? a=false:=by
 obtain⟨c,e,h1,h2⟩:=h.o
 simp[World.frozen?,h1]
theorem Z1.at{w:World}{a:Addr}{v:Value}(h:Z1 w a v)(d:Nat):Z1 (w.at d) a v:=⟨h.o,h.s⟩
theorem Z1.same{w w':World}{a:Addr}{v:Value}(h:Z1 w a v)(hw:w'.heap[a.block]? =w.heap[a.block]?):Z1 w' a v:=by
 obtain⟨c,e,h1,h2⟩:=h.o
 exact⟨⟨c,e,hw.trans h1,h2⟩,h.s⟩
theorem Z1.lt{w:World}{a:Addr}{v:Value}(h:Z1 w a v):a.block<w.heap.size:=by
 obtain⟨c,e,h1,h2⟩:=h.o
 exact(Array.getElem?_eq_some_iff.1 h1).1
theorem Z1.setChan{w:World}{a:Addr}{v:Value}(h:Z1 w a v){c:Nat}(hc:c≠a.block)(cap:Nat)(buf:Array Value)(cl:Bool)(s r:Nat)(tm:Bool):Z1 (w.setChan c cap buf cl s r tm) a v:=
 h.same (by simp[World.setChan,Array.getElem?_setIfInBounds_ne hc])
theorem Z1.alloc{w:World}{a:Addr}{v:Value}(h:Z1 w a v)(o:Obj):Z1 (w.alloc o) a v:=h.same (Below.heap_alloc _ _ _ h.lt)
theorem Z1.setCell{w:World}{a b:Addr}{v u:Value}(h:Z1 w a v)(hb:b.block≠a.block∨b.off≠a.off)(hs:b.spot=none):Z1 (w.setCell b u) a v:=by
 obtain⟨c,e,h1,h2⟩:=h.o
 by_cases hbl:b.block=a.block
 ·rcases hb with hb|hb
  ·exact absurd hbl hb
  ·exact⟨⟨c.setIfInBounds b.off u,e,by simp[World.setCell,Array.getElem?_modify,hbl,h1,hs],by rw[Array.getElem?_setIfInBounds_ne hb];exact h2⟩,h.s⟩
 ·exact h.same (Below.heap_setCell _ _ _ _ (fun e=>hbl e.symm))
theorem Z1.put{w:World}{a:Addr}{v u:Value}(h:Z1 w a v):Z1 (w.setCell a u) a u:=by
 obtain⟨c,e,h1,h2⟩:=h.o
 have hlt:=(Array.getElem?_eq_some_iff.1 h2).1
 exact⟨⟨c.setIfInBounds a.off u,e,by simp[World.setCell,Array.getElem?_modify,h1,h.s],by simp[hlt]⟩,h.s⟩
theorem Z1.gd{F:Fz}{w w':World}{a:Addr}{v:Value}(h:Z1 w a v)(hg:Gd F w w')(hh:held F a):Z1 w' a v:=by
 have hk:w'.cell? a=w.cell? a:=hg.keep a hh
 rw[h.c]at hk
 obtain⟨c,e,h1,h2⟩:=h.o
 rcases hg.objs a.block _ h1 with⟨c1,e1,z1,c',h0,h3,_⟩|h3
 ·cases h0
  exact⟨⟨c',e,h3,by simpa [World.cell?,h3,h.s]using hk⟩,h.s⟩
 ·exact⟨⟨c,e,h3,h2⟩,h.s⟩
structure M1 where
 tv:Nat
 tb:Nat
 bk:Nat
 sa:Nat
 sc:Nat
 br:Nat
 n:Nat
 sl:Value
 bl:Value
 st:Nat→Nat
 pc:Nat→Nat
 top:Nat
 an:G3
inductive M1.Place(g:M1):Addr→Value→Prop
 | tv:g.Place ⟨g.tv,0,none⟩ (vP g.tb 0)
 | back:g.Place ⟨g.tb,0,none⟩ (.chan (some g.bk))
 | stands:g.Place ⟨g.tb,1,none⟩ g.sl
 | broken:g.Place ⟨g.tb,2,none⟩ g.bl
 | stand (i:Nat) (h:i<g.n):g.Place ⟨g.sa,i,none⟩ (vP (g.st i) 0)
 | gate (i:Nat) (h:i<g.n):g.Place ⟨g.st i,0,none⟩ (vP g.tb 0)
 | pass (i:Nat) (h:i<g.n):g.Place ⟨g.st i,1,none⟩ (.chan (some (g.pc i)))
def M1.Still(g:M1):Loc→Prop:=fun l=>∃a v,g.Place a v∧l= .cell a
structure M1.K(g:M1)(w:World):Prop where
 lies:∀a v,g.Place a v→Z1 w a v
 an:g.an.Holds w
instance{g:M1}{w:World}:CoeFun (g.K w) (fun _=>∀a v,g.Place a v→Z1 w a v):=⟨M1.K.lies⟩
theorem G3.Holds.alloc{A:G3}{w:World}(h:A.Holds w)(o:Obj):A.Holds (w.alloc o):=h.grew (F:=fun _=>none) (Y0 (n:=0) (fun r z hz=>by cases hz) (Nat.zero_le _) o)
theorem G3.Holds.setCell{A:G3}{w:World}(h:A.Holds w){a:Addr}(hs:a.spot=none)(v:Value):A.Holds (w.setCell a v):=h.grew (F:=fun _=>none) (E0 hs (fun⟨z,hz,_⟩=>by cases hz) v)
def M1.Chan(g:M1)(c:Nat):Prop:=c=g.bk∨∃i,i<g.n∧c=g.pc i
structure M1.Ok(g:M1):Prop where
 apart:∀a v c,g.Place a v→g.Chan c→c≠a.block
 cb:∀c,g.Chan c→g.an.b≤c
 low:∀a v,g.Place a v→a.block<g.top
 clow:∀c,g.Chan c→c<g.top
 inj:∀i j,i<g.n→j<g.n→g.pc i=g.pc j→i=j
 bk:∀i,i<g.n→g.pc i≠g.bk
 sl:0<g.n→g.sl=vL g.sa 0 g.n g.sc
 bl:0<g.n→g.bl=vL g.br 0 g.n g.n
 free:∀a v,g.Place a v→g.br≠a.block
 stt:∀i a v,i<g.n→g.Place a v→g.st i=a.block→a.off<2
 brst:∀i,i<g.n→g.br≠g.st i
 brlow:0<g.n→g.br<g.top
 sinj:∀i j,i<g.n→j<g.n→g.st i=g.st j→i=j
variable{g:M1}
theorem M1.K.at{w:World}(h:g.K w)(d:Nat):g.K (w.at d):=⟨fun a v p=>(h a v p).at d,h.an.at d⟩
theorem M1.K.setChan(ok:g.Ok){w:World}(h:g.K w){c:Nat}(hc:g.Chan c)(cap:Nat)(buf:Array Value)(cl:Bool)(s r:Nat)(tm:Bool):g.K (w.setChan c cap buf cl s r tm):=
 ⟨fun a v p=>(h a v p).setChan (ok.apart a v c p hc) _ _ _ _ _ _,h.an.setChan (ok.cb c hc) _ _ _ _ _ _⟩
theorem M1.K.gd{F:Fz}(hF:∀a v,g.Place a v→held F a){w w':World}(hg:Gd F w w')(h:g.K w):g.K w':=⟨fun a v p=>(h a v p).gd hg (hF a v p),h.an.gd hg⟩
theorem M1.covers{F:Fz}(hF:∀a v,g.Place a v→held F a):c0N F g.Still:=fun l ⟨a,v,p,e⟩=>⟨a,e,hF a v p⟩
theorem M1.still{a:Addr}{v:Value}(h:g.Place a v):g.Still (.cell a):=⟨a,v,h,rfl⟩
class Fits (g:M1):Prop where ok:g.Ok
class Has (g:M1) (i:Nat):Prop where lt:i<g.n
@[simp] theorem F0t [h:Fits g]:g.tv<g.top:=h.ok.low _ _ .tv
@[simp] theorem F0s [h:Fits g]:g.tb<g.top:=h.ok.low _ _ .back
@[simp] theorem F0l{i:Nat} [h:Fits g] [k:Has g i]:g.sa<g.top:=h.ok.low _ _ (.stand i k.lt)
@[simp] theorem w0c{i:Nat} [h:Fits g] [k:Has g i]:g.st i<g.top:=h.ok.low _ _ (.gate i k.lt)
theorem r02:Tryd.prog.built 109 []=some #[]:=by kernel_rfl
theorem z0C:(Tryd.prog.info? 109).bind (fun i=>i.zero.map (·.cells))=some #[]:=by kernel_rfl
@[go_sem] theorem D0K(w:World):(Instr.build 109 #[]).run Tryd.prog w= .ok (.agg #[]) w:=run_build w 109 #[] #[] r02
@[go_sem] theorem z01(w:World)(es:Array Event):(Instr.build 109 #[]).events Tryd.prog w es=es:=by
 obtain⟨i,hi,hz⟩:=Option.bind_eq_some_iff.1 z0C
 obtain⟨z,hz,hc⟩:=Option.map_eq_some_iff.1 hz
 simp[Instr.build,go_sem,zeroValue,typeInfo,hi,hz,hc,Tryd.underlying109]
def W8:Code:=Tryd.f87.body.getD .skip
theorem k0f(args:Array Value):Frame.enter Tryd.prog 87 args .normal=(base 87).at {tmps:=args++Array.replicate (23 - args.size) undef,defers:=[]} [.code W8]:=
 enter_at args Tryd.func87 rfl
def m0e:Code:=match W8 with| .seq _ (.seq y _)=>y|_=>.skip
def y04:Code:=match W8 with| .seq _ (.seq _ z)=>z|_=>.skip
def c0G:Array Oper:=match m0e with| .region _ o _=>o|_=> #[]
def b0S(g:M1)(i:Nat)(cs:List Frame):Goroutine:=
 G ((base 87).at ⟨#[vP (g.st i) 0,undef,vP (g.st i) 0,vP (g.st i) 0,vP (g.st i) 0,vP g.tb 0,vP g.tb 0,vP g.tb 0,.chan (some g.bk),.agg #[],
   vP (g.st i) 0,vP (g.st i) 0,vP (g.st i) 1,.chan (some (g.pc i)),undef,undef,undef,undef,undef,undef,undef,undef,undef],[]⟩ [.inRegion c0G [4,5],.code y04]) cs
def Z7(g:M1)(i:Nat)(cs:List Frame):Seat:=Seat.one (g.pc i) (.bool false) false (·=b0S g i cs)
theorem n09 [ok:Fits g] {i:Nat} [hi:Has g i] {cs:List Frame}{w:World}(hK:g.K w):
 Goes Tryd.prog false AtRel (DQ g.Still g.top) (AtGive Tryd.prog false g.Still g.top g.bk (.agg #[]) fun x=>Sits Tryd.prog false g.K g.Still g.top (Z7 g i cs) 8 x) 10 (G (Frame.enter Tryd.prog 87 #[vP (g.st i) 0] .normal) cs) w:=by
 rw[k0f]
 simp only[W8,Tryd.f87,Option.getD_some]
 walk_nrm
 q_c stepG_seq
 q_reg
 q_op
 q_op
 q_op
 q_ld [((hK _ _ (.gate i hi.lt)).at dd).c,((hK _ _ (.gate i hi.lt)).at dd).z]
 q_op
 q_op
 q_ld [((hK _ _ .back).at dd).c,((hK _ _ .back).at dd).z]
 q_op
 refine fun w₁ h₁=>?_
 obtain⟨d₁,rfl⟩:=h₁
 refine atGive_of (z':=.tuple #[]) rfl rfl (by decide) (fun w=>by simp[execOp,scase,Act.eval]) (fun w=>by simp[go_sem,execOp,Act.eval]) ?_ _
 refine .inl ⟨7,w,rfl,?_⟩
 rw[served_fr,Frame.finish_at]
 walk_nrm
 k_c stepG_region_end
 k_c stepG_seq
 k_reg
 iterate 3 (k_in;refine goes_oper_k rfl rfl (by decide) (fun K hK=>?_);go_simp;refine hK _ _ ⟨⟨rfl,fun e he=>by(have hm:=mem_listed he;simp[go_sem]at hm)⟩,?_⟩;clear hK K)
 k_ld [(M1.K.lies h₁ _ _ (.pass i hi.lt)).c,(M1.K.lies h₁ _ _ (.pass i hi.lt)).z] (M1.still (.pass i hi.lt))
 exact fun _ _=>⟨_,atIn_of (s:=Z7 g i cs) rfl rfl (by decide) (fun w=>by simp[go_sem,execOp,rcase,Act.eval,Z7,Seat.one,c0G,m0e,W8,Tryd.f87]) (fun w=>by simp[go_sem,execOp,Act.eval]) rfl⟩
end
noncomputable section
variable{g:M1}{F:Fz}
def w9:Frame:={(default:Frame)with fn:=Tryd.prog.funcs.size,defers:=[],mode:=.panicking [goexitEntry]}
def a0j:Code:=Tryd.f65.body.getD .skip
def C8(g:M1)(i:Nat)(f:Value):Deferred:={target:=.fn (.func 65) #[],args:= #[vP g.tb 0,vI i,f]}
theorem o0z(i:Nat)(f:Value)(w:World):stepG Tryd.prog false (born Tryd.prog (C8 g i f)) w=
 .go (G ((baseD 65).at ⟨#[vP g.tb 0,vI i,f,undef,undef,undef,undef,undef,undef,undef,undef,undef,undef,undef,undef,undef,undef,undef,undef,undef],[]⟩ [.code a0j]) [w9]) w #[]:=by
 simp[born,C8,stepG,unwind,callDeferred,invoke,callFunc,Tryd.func65,Tryd.f65,seen,GStep.after,G,Frame.enter,Frame.at,baseD,w9,a0j]
theorem i0b{P:Program}{main:Bool}{b:Frame}{a:Act}{k:List Item}{cs:List Frame}{w:World}{ops:Array Oper}{i:Nat}{rest:List Nat}{o:Oper}{d:Deferred}(ho:ops[i]? =some o)(hw:Region.wanted o (yielded ops a.tmps)=true)(hk:b.kind≠.early)
 (hr:(execOp a.eval o).run P w= .ok (.defer d) w) (he:(execOp a.eval o).events P w #[]= #[]):
 stepG P main (G (b.at a (.inRegion ops (i::rest)::k)) cs) w= .go (G (b.at (Act.put ⟨a.tmps,d::a.defers⟩ o.dst undef) (.inRegion ops rest::k)) cs) w #[]:=by
 have hfin:(b.at ⟨a.tmps,d::a.defers⟩ (.inRegion ops (i::rest)::k)).finish undef=b.at (Act.put ⟨a.tmps,d::a.defers⟩ o.dst undef) (.inRegion ops rest::k):=by rw[Frame.finish_at,ho];rfl
 have hk':(b.kind == CallKind.early)=false:=by simpa using hk
 rw[stepG_oper ho hw,← hfin]
 simp[stepG.apply,hr,he,G,Frame.at,hk',GStep.after,seen_none]
structure V5 where
 x:Nat
 e:Nat
 i:Nat
def a0Q(v:V5):Deferred:={target:=.fn (.func 69) #[vP v.x 0,vP v.e 0,vP v.i 0],args:= #[]}
def F8:Code:=match a0j with| .seq _ (.seq _ (.seq _ c))=>c|_=>.skip
def g0l(v:V5):Value:=.func (.func 69) #[] #[vP v.x 0,vP v.e 0,vP v.i 0]
def R4(g:M1)(i:Nat)(w:World):World:=((w.alloc (.cells #[vP g.tb 0] 133)).alloc (.cells #[vI i] 3)).alloc (.cells #[.bool false] 4)
theorem s0O [ok:Fits g] {i:Nat} [hi:Has g i] {n:Nat}(hU:i2 F n){f:Value}{w:World}(hn:n≤w.heap.size){Stop:Goroutine→World→Prop}
 (h:J0 Tryd.prog false F Stop (G ((baseD 65).at ⟨#[vP g.tb 0,vI i,f,vP w.heap.size 0,vP (w.heap.size+1) 0,undef,vP (w.heap.size+2) 0,g0l ⟨w.heap.size,w.heap.size+2,w.heap.size+1⟩,
   undef,undef,undef,undef,undef,undef,undef,undef,undef,undef,undef,undef],[a0Q ⟨w.heap.size,w.heap.size+2,w.heap.size+1⟩]⟩ [.code F8]) [w9]) (R4 g i w)):J0 Tryd.prog false F Stop (born Tryd.prog (C8 g i f)) w:=by
 refine M0 rfl (fun d=>o0z i f _) ?_
 simp only[a0j,Tryd.f65,Option.getD_some]
 refine ogS<|ogR ?_
 simp only[List.size_toArray,List.length_cons,List.length_nil,Nat.reduceAdd,Nat.zero_add,List.range,List.range.loop]
 iterate 2 refine oA hU ?_
 refine ogE<|ogS<|ogR ?_
 simp only[List.size_toArray,List.length_cons,List.length_nil,Nat.reduceAdd,Nat.zero_add,List.range,List.range.loop]
 refine oA hU ?_
 (refine oW fun dd K hK=>?_;go_simp;refine qS hK hU ?_;clear hK K)
 have e1:∀X:World,(X.alloc (Obj.cells #[Value.bool false] 4)).setCell ⟨X.heap.size,0,none⟩ (Value.bool false)=X.alloc (Obj.cells #[Value.bool false] 4):=fun X=>by go_simp
 have e2:=e1 ((w.alloc (Obj.cells #[Value.pointer (some ⟨g.tb,0,none⟩)] 133)).alloc (Obj.cells #[Value.int IntKind.i64 i] 3))
 simp only[World.size_alloc]at e2
 rw[e2]
 clear e1 e2
 refine ogE<|ogS<|ogR ?_
 simp only[List.size_toArray,List.length_cons,List.length_nil,Nat.reduceAdd,Nat.zero_add,List.range,List.range.loop]
 refine oT ?_
 refine M0 rfl (fun d=>i0b (d:=a0Q ⟨w.heap.size,w.heap.size+1+1,w.heap.size+1⟩) rfl rfl (by decide) (by simp[go_sem,execOp,Act.eval,a0Q]) (by simp[go_sem,execOp,Act.eval])) ?_
 refine ogE ?_
 exact h
end
noncomputable section
variable{g:M1}{F:Fz}
def h0Q:Code:=match F8 with| .seq (.seq _ (.cond _ c _)) _=>c|_=>.skip
def c0F:Code:=match F8 with| .seq _ c=>c|_=>.skip
def f0c:Array Oper:=match h0Q with| .region _ o _=>o|_=> #[]
def rf(g:M1)(i:Nat)(v:V5)(f:Value):Frame:=
 (baseD 65).at ⟨#[vP g.tb 0,vI i,f,vP v.x 0,vP v.i 0,undef,vP v.e 0,g0l v,
   f,.bool true,f,vP g.tb 0,vP g.tb 0,vP g.tb 1,g.sl,vI i,vP g.sa i,vP (g.st i) 0,.iface 138 (vP (g.st i) 0),undef],[a0Q v]⟩ [.inRegion f0c [9],.code c0F]
structure a0H(g:M1)(i:Nat)(v:V5)(w:World):Prop where
 x:Z1 w ⟨v.x,0,none⟩ (vP g.tb 0)
 i:Z1 w ⟨v.i,0,none⟩ (vI i)
 e:Z1 w ⟨v.e,0,none⟩ (.bool false)
 hx:g.top≤v.x
 hi:g.top≤v.i
 he:g.top≤v.e
 ex:v.e≠v.x
 ei:v.e≠v.i
theorem S3:Tryd.prog.follows .mixedOrders=true:=by kernel_rfl
@[go_sem] theorem o0Z(f:Fn)(x c:Array Value)(w:World)(es:Array Event):(binOp .neq 108 (.func f x c) .nilFunc).events Tryd.prog w es=es:=by
 have h:∀w es,(Op.equal 108 (.func f x c) .nilFunc).events Tryd.prog w es=es:=fun w es=>by
  unfold Op.equal Op.maxDepth
  rw[Op.equalIn]
  simp[go_sem,Tryd.underlying108]
 simp[binOp,go_sem,h]
theorem H9{P:Program}{fn:FuncId}{ops:Array Oper}{w0:World}{last:Nat}{Z:Act→Prop}{listed:Array Bool}{a:Act}(hr:Region.ready .any ops listed=[last])(h:Z a)(fuel:Nat):b0L P F fn ops w0 last Z fuel listed a:=
 o0s (by rw[hr];simp) h fuel
theorem Y7{P:Program}{main:Bool}{b:Frame}{a:Act}{k:List Item}{cs:List Frame}{w:World}{ops:Array Oper}{i:Nat}{rest:List Nat}{o:Oper}{f:FuncId}{args:Array Value}{Stop:Goroutine→World→Prop}
 (ho:ops[i]? =some o) (hw:Region.wanted o (yielded ops a.tmps)=true) (hk:b.kind≠.early) (hr:∀w,(execOp a.eval o).run P w= .ok (.enter f args) w) (he:∀w,(execOp a.eval o).events P w #[]= #[])
 (h:J0 P main F Stop (G (Frame.enter P f args .normal) (b.at a (.inRegion ops (i::rest)::k)::cs)) w):J0 P main F Stop (G (b.at a (.inRegion ops (i::rest)::k)) cs) w:=
 M0 rfl (fun d=>by rw[stepG_enter ho hw hk (hr _),listed_none (he _)]) h
theorem oc{main:Bool}{F:Fz}{b:Frame}{a:Act}{k:List Item}{cs:List Frame}{w:World}{ops:Array Oper}{i:Nat}{rest:List Nat}{o:Oper}{f:FuncId}{Stop:Goroutine→World→Prop}(hc:O1 f)(args:Array Value)
 (h:J0 Tryd.prog main F Stop (G (Frame.enter Tryd.prog f args .normal) (b.at a (.inRegion ops (i::rest)::k)::cs)) w) (ho:ops[i]? =some o:=by exact rfl) (hw:Region.wanted o (yielded ops a.tmps)=true:=by exact rfl) (hk:b.kind≠.early:=by decide)
 (hr:∀w,(execOp a.eval o).run Tryd.prog w=(callFunc f args).run Tryd.prog w:=by intros;simp[execOp,Act.eval,resolve,invoke,Deferred.ofValue]) (he:∀w,(execOp a.eval o).events Tryd.prog w #[]=(callFunc f args).events Tryd.prog w #[]:=by intros;simp[execOp,Act.eval,resolve,invoke,Deferred.ofValue]):
 J0 Tryd.prog main F Stop (G (b.at a (.inRegion ops (i::rest)::k)) cs) w:=
 Y7 ho hw hk (fun w=>(hr w).trans (hc.run _ _)) (fun w=>(he w).trans (hc.quiet _ _)) h
@[go_sem] theorem F0j(x:Value)(w:World):(Instr.makeInterface 138 x).run Tryd.prog w= .ok (.iface 138 x) w:=by simp[Instr.makeInterface,run_underlying Tryd.underlying138]
@[go_sem] theorem B0r(t:TypeId)(x:Value)(w:World)(es:Array Event):(Instr.makeInterface t x).events Tryd.prog w es=es:=by
 unfold Instr.makeInterface
 simp only[Sem.events_bind,events_underlying]
 cases(underlying t).run Tryd.prog w with
 | ok d u=>cases d<;>simp[go_sem]
 | halt x u=>rfl
theorem q0c [ok:Fits g] {i:Nat} [hi:Has g i] {v:V5}{fid:FuncId}{cap:Array Value}{w:World}(hc:O1 fid)(hK:g.K w)(hv:a0H g i v w){Stop:Goroutine→World→Prop}
 (h:J0 Tryd.prog false F Stop (G (Frame.enter Tryd.prog fid (#[.iface 138 (vP (g.st i) 0)]++cap) .normal) [rf g i v (.func (.func fid) #[] cap),w9]) w):
 J0 Tryd.prog false F Stop (G ((baseD 65).at ⟨#[vP g.tb 0,vI i,.func (.func fid) #[] cap,vP v.x 0,vP v.i 0,undef,vP v.e 0,g0l v,
  undef,undef,undef,undef,undef,undef,undef,undef,undef,undef,undef,undef],[a0Q v]⟩ [.code F8]) [w9]) w:=by
 simp only[F8,a0j,Tryd.f65,Option.getD_some]
 refine ogS<|ogS<|ogR ?_
 simp only[List.size_toArray,List.length_cons,List.length_nil,Nat.reduceAdd,Nat.zero_add,List.range,List.range.loop]
 iterate 2 refine oT ?_
 refine ogE<|ogY ?_
 refine P9 (last:=9) S3 (z8 (by kernel_rfl)) (by decide) ?_
 simp only[List.size_toArray,List.length_cons,List.length_nil,Nat.reduceAdd]
 have hsl:=ok.ok.sl (Nat.lt_of_le_of_lt (Nat.zero_le _) hi.lt)
 have hi':=hi.lt
 refine tkL 0 (.func (.func fid) #[] cap) ?_
 walk_nrm
 refine b0B 1 (vP g.tb 0) (And.intro hv.x.c hv.x.z) ?_
 walk_nrm
 refine tkL 2 (vP g.tb 0) ?_
 walk_nrm
 refine tkL 3 (vP g.tb 1) ?_
 walk_nrm
 refine b0B 4 g.sl (And.intro ((hK _ _ .stands).c) ((hK _ _ .stands).z)) ?_
 walk_nrm
 refine b0B 5 (vI i) (And.intro hv.i.c hv.i.z) ?_
 walk_nrm
 refine u0a 6 (vP g.sa i) (And.intro hsl hi') ?_
 walk_nrm
 refine b0B 7 (vP (g.st i) 0) (And.intro ((hK _ _ (.stand i hi.lt)).c) ((hK _ _ (.stand i hi.lt)).z)) ?_
 walk_nrm
 refine tkL 8 (.iface 138 (vP (g.st i) 0)) ?_
 walk_nrm
 refine H9 (by kernel_rfl) ?_ _
 exact Y7 rfl rfl (by decide) (fun w=>by simp[execOp,Act.eval,resolve,invoke,Deferred.ofValue,hc.run]) (fun w=>by simp[execOp,Act.eval,resolve,invoke,Deferred.ofValue,hc.run,hc.quiet]) h
end
noncomputable section
variable{g:M1}{F:Fz}
open Classical in
def FK(g:M1):Fz:=fun r=>if ∃i,i<g.n∧r=g.st i then some (0,2)else if ∃a v,g.Place a v∧a.block=r then some (0,g.n+3)else none
theorem L9(ok:g.Ok){a:Addr}{v:Value}(p:g.Place a v):held (FK g) a:=by
 by_cases h:∃i,i<g.n∧a.block=g.st i
 ·refine⟨(0,2),by simp only[FK,if_pos h],Nat.zero_le _,?_⟩
  obtain⟨i,hi,e⟩:=h
  exact ok.stt i a v hi p e.symm
 ·refine⟨(0,g.n+3),by simp only[FK,if_neg h];rw[if_pos ⟨a,v,p,rfl⟩],Nat.zero_le _,?_⟩
  cases p<;>simp<;>omega
theorem g0X{r:Nat}(h1:∀i,i<g.n→r≠g.st i)(h2:∀a v,g.Place a v→r≠a.block):FK g r=none:=by
 simp only[FK]
 rw[if_neg (fun⟨i,hi,e⟩=>h1 i hi e),if_neg (fun⟨a,v,p,e⟩=>h2 a v p e.symm)]
theorem l0z{i:Nat}(hi:i<g.n):¬held (FK g) ⟨g.st i,2,none⟩:=by
 rintro⟨z,h1,h2,h3⟩
 simp only[FK]at h1
 rw[if_pos ⟨i,hi,rfl⟩]at h1
 cases h1
 exact absurd h3 (by simp)
theorem e0E(ok:g.Ok):i2 (FK g) g.top:=by
 intro r z h
 simp only[FK]at h
 split at h
 ·rename_i h1
  obtain⟨i,hi,rfl⟩:=h1
  exact ok.low _ _ (.gate i hi)
 ·split at h
  ·rename_i h1
   obtain⟨a,v,p,rfl⟩:=h1
   exact ok.low _ _ p
  ·cases h
theorem d0d{P:Program}{main:Bool}{b:Frame}{a:Act}{k:List Item}{cs:List Frame}{w:World}{ops:Array Oper}{i:Nat}{rest:List Nat}{o:Oper}(ho:ops[i]? =some o)(hw:Region.wanted o (yielded ops a.tmps)=true)(hk:b.kind≠.early)
 (hr:(execOp a.eval o).run P w= .ok .recover w) (he:(execOp a.eval o).events P w #[]= #[]) (h1:(b.at a (.inRegion ops (i::rest)::k)).roundOf=none) (h2:tryRecover (b.at a (.inRegion ops (i::rest)::k)) cs=none):
 stepG P main (G (b.at a (.inRegion ops (i::rest)::k)) cs) w= .go (G (b.at (a.put o.dst .nilIface) (.inRegion ops rest::k)) cs) w #[]:=by
 have hfin:(b.at a (.inRegion ops (i::rest)::k)).finish .nilIface=b.at (a.put o.dst .nilIface) (.inRegion ops rest::k):=by rw[Frame.finish_at,ho];rfl
 have hk':(b.kind == CallKind.early)=false:=by simpa using hk
 rw[stepG_oper ho hw,← hfin]
 simp[stepG.apply,hr,he,G,Frame.at,hk',GStep.after,seen_none]at h1 h2 ⊢
 simp[h1,h2]
theorem f0p{P:Program}{main:Bool}{b:Frame}{a:Act}{k:List Item}{cs cs':List Frame}{w:World}{ops:Array Oper}{i:Nat}{rest:List Nat}{o:Oper}{v:Value}(ho:ops[i]? =some o)(hw:Region.wanted o (yielded ops a.tmps)=true)(hk:b.kind≠.early)
 (hr:(execOp a.eval o).run P w= .ok .recover w) (he:(execOp a.eval o).events P w #[]= #[]) (h1:(b.at a (.inRegion ops (i::rest)::k)).roundOf=none) (h2:tryRecover (b.at a (.inRegion ops (i::rest)::k)) cs=some (v,cs')):
 stepG P main (G (b.at a (.inRegion ops (i::rest)::k)) cs) w= .go (G (b.at (a.put o.dst v) (.inRegion ops rest::k)) cs') w #[]:=by
 have hfin:(b.at a (.inRegion ops (i::rest)::k)).finish v=b.at (a.put o.dst v) (.inRegion ops rest::k):=by rw[Frame.finish_at,ho];rfl
 have hk':(b.kind == CallKind.early)=false:=by simpa using hk
 rw[stepG_oper ho hw,← hfin]
 simp[stepG.apply,hr,he,G,Frame.at,hk',GStep.after,seen_none]at h1 h2 ⊢
 simp[h1,h2]
theorem a0C{P:Program}{main:Bool}{b:Frame}{a:Act}{cs:List Frame}{w:World}{todo:List Item}{md:FrameMode}{ds:List Deferred}{f:FuncId}{fn:Func}{cap:Array Value}{c:Code}(hd:a.defers={target:=.fn (.func f) cap,args:= #[]}::ds)
 (hf : P.funcs[f]? = some fn) (hname : (fn.name == "runtime.NumGoroutine") = false) (hb : fn.body = some c) (hm : (md matches .run) = false := by rfl) :
 stepG P main (G {b.at a todo with mode:=md} cs) w=
  .go (G ((baseD f).at {tmps:=cap++Array.replicate (fn.ntmps - cap.size) undef,defers:=[]} [.code c]) ({b.at ⟨a.tmps,ds⟩ todo with mode:=md}::cs)) w #[]:=by
 have h1 : ¬ fn.name = "runtime.NumGoroutine" := by simpa using hname
 rw[← enter_atD cap hf hb]
 cases md<;>simp[G,stepG,unwind,callDeferred,Frame.at,hd,invoke,callFunc,hf,h1,hb,GStep.after,seen_none]at hm ⊢
def E4:Code:=Tryd.f69.body.getD .skip
def q0x(g:M1)(i:Nat)(v:V5)(f r:Value)(ds:List Deferred):Act:=
 ⟨#[vP g.tb 0,vI i,f,vP v.x 0,vP v.i 0,undef,vP v.e 0,g0l v,
  f,.bool true,f,vP g.tb 0,vP g.tb 0,vP g.tb 1,g.sl,vI i,vP g.sa i,vP (g.st i) 0,.iface 138 (vP (g.st i) 0),r],ds⟩
def q0y(g:M1)(i:Nat)(v:V5)(f r:Value)(md:FrameMode)(ds:List Deferred)(todo:List Item):Frame:={(baseD 65).at (q0x g i v f r ds) todo with mode:=md}
theorem n0Z(g:M1)(i:Nat)(v:V5)(f r:Value):(rf g i v f).finish r=(baseD 65).at (q0x g i v f r [a0Q v]) [.inRegion f0c [],.code c0F]:=by
 unfold rf
 rw[Frame.finish_at]
 simp only[f0c,h0Q,c0F,F8,a0j,Tryd.f65,Option.getD_some,List.getElem?_toArray,List.getElem?_cons_succ,List.getElem?_cons_zero,Option.bind_some]
 walk_nrm
 rfl
theorem p05 [ok:Fits g] {i:Nat} [hi:Has g i] {v:V5}{f r:Value}{w:World}(hv:a0H g i v w){Stop:Goroutine→World→Prop}
 (h:J0 Tryd.prog false (FK g) Stop (G ((baseD 69).at ⟨#[vP v.x 0,vP v.e 0,vP v.i 0]++Array.replicate 40 undef,[]⟩ [.code E4]) [q0y g i v f r .returning [] [],w9]) (w.setCell ⟨v.e,0,none⟩ (.bool true))):
 J0 Tryd.prog false (FK g) Stop (G ((rf g i v f).finish r) [w9]) w:=by
 have hnh:¬held (FK g) ⟨v.e,0,none⟩:=O4 (e0E ok.ok) hv.he
 have hc:=hv.e.c
 have hz:=hv.e.z
 rw[n0Z]
 unfold q0x
 simp only[f0c,h0Q,c0F,F8,a0j,Tryd.f65,Option.getD_some]
 refine M0 rfl (fun d=>stepG_region_end (b:=baseD 65)) ?_
 (refine ogR ?_;simp only[List.size_toArray,List.length_cons,List.length_nil,Nat.reduceAdd,Nat.zero_add,List.range,List.range.loop])
 refine oW fun dd K hK=>?_;go_simp
 refine hK _ _ ⟨⟨⟨0,E0 rfl hnh _⟩,fun e he=>by(have hm:=mem_listed he;simp[go_sem,storedEv,hc,hz]at hm;subst hm;exact U0 _ _ hnh)⟩,?_⟩;clear hK K;rw[setCell_at'];refine J0.at ?_ dd
 refine ogE ?_
 refine M0 rfl (fun d=>stepG_end) ?_
 refine M0 rfl (fun d=>a0C (fn:=Tryd.f69) (c:=E4) rfl Tryd.func69 rfl rfl) ?_
 exact h
end
noncomputable section
variable{g:M1}{F:Fz}
theorem i0k:(Tryd.prog.info? 149).bind (·.zero)=some (.agg #[.nilIface]):=by kernel_rfl
@[go_sem] theorem F0d(w:World):(Instr.typeAssert .nilIface 20 149 true).run Tryd.prog w= .ok (.tuple #[.agg #[.nilIface],.bool false]) w:=by
 obtain⟨i,hi,hz⟩:=Option.bind_eq_some_iff.1 i0k
 simp[Instr.typeAssert,run_underlying Tryd.underlying149,zeroValue,typeInfo,hi,hz]
@[go_sem] theorem z0L(w:World)(es:Array Event):(Instr.typeAssert .nilIface 20 149 true).events Tryd.prog w es=es:=by
 obtain⟨i,hi,hz⟩:=Option.bind_eq_some_iff.1 i0k
 simp[Instr.typeAssert,run_underlying Tryd.underlying149,zeroValue,typeInfo,hi,hz,go_sem]
@[go_sem] theorem F0c(v:Value)(w:World):(Instr.typeAssert (.iface 149 v) 20 149 true).run Tryd.prog w= .ok (.tuple #[v,.bool true]) w:=by
 simp[Instr.typeAssert,run_underlying Tryd.underlying149]
@[go_sem] theorem z0K(v:Value)(w:World)(es:Array Event):(Instr.typeAssert (.iface 149 v) 20 149 true).events Tryd.prog w es=es:=by
 simp[Instr.typeAssert,run_underlying Tryd.underlying149,go_sem]
def b0g:Code:=match E4 with| .seq _ (.seq _ (.seq _ c))=>c|_=>.skip
def d0V(g:M1)(i:Nat)(w:World):World:=((w.alloc (.cells #[.nilIface] 149)).setCell ⟨g.br,i,none⟩ (.bool false)).setCell ⟨g.st i,2,none⟩ (.bool true)
theorem p06 [ok:Fits g] {i:Nat} [hi:Has g i] {v:V5}{w:World}{c:Frame}(hcm:c.mode= .returning)(hK:g.K w)(hvx:g.top≤v.x)(hvi:g.top≤v.i)(hve:g.top≤v.e)(hx:Z1 w ⟨v.x,0,none⟩ (vP g.tb 0))(hi2:Z1 w ⟨v.i,0,none⟩ (vI i))(he:Z1 w ⟨v.e,0,none⟩ (.bool true))
 (hb:∃b,Z1 w ⟨g.br,i,none⟩ (.bool b)) (ho:Z1 w ⟨g.st i,2,none⟩ (.bool false)) {Stop:Goroutine→World→Prop}
 (h:∀t3 t4 t5 t6 t7 t8 t9 t10 t11 t12 t13 t14 t15 t16 t17 t18 t19 t20 t21 t22 t23 t24 t25 t26 t27 t28 t29 t30 t31 t32 t33 t34 t35 t36 t37:Value,J0 Tryd.prog false (FK g) Stop (G ((baseD 69).at ⟨#[vP v.x 0,vP v.e 0,vP v.i 0,t3,t4,t5,t6,t7,t8,t9,t10,t11,t12,t13,t14,t15,t16,t17,t18,t19,t20,t21,t22,t23,t24,t25,t26,t27,t28,t29,t30,t31,t32,t33,t34,t35,t36,t37,undef,undef,undef,undef,undef],[]⟩ [.code b0g]) [c,w9]) (d0V g i w)):
 J0 Tryd.prog false (FK g) Stop (G ((baseD 69).at ⟨#[vP v.x 0,vP v.e 0,vP v.i 0]++Array.replicate 40 undef,[]⟩ [.code E4]) [c,w9]) w:=by
 have hU:=e0E ok.ok
 have hi':=hi.lt
 have hsl:=ok.ok.sl (Nat.lt_of_le_of_lt (Nat.zero_le _) hi')
 have hbl:=ok.ok.bl (Nat.lt_of_le_of_lt (Nat.zero_le _) hi')
 have hnb:¬held (FK g) ⟨g.br,i,none⟩:=O9 (g0X (ok.ok.brst) (ok.ok.free))
 have hno:¬held (FK g) ⟨g.st i,2,none⟩:=l0z hi'
 have hw0:g.top≤w.heap.size:=Nat.le_of_lt (Nat.lt_of_le_of_lt hvx hx.lt)
 have hbr:=ok.ok.brlow (Nat.lt_of_le_of_lt (Nat.zero_le _) hi')
 have hst:g.st i<g.top:=w0c
 walk_nrm
 simp only[E4,Tryd.f69,Option.getD_some]
 refine ogS ?_
 (refine ogR ?_;simp only[List.size_toArray,List.length_cons,List.length_nil,Nat.reduceAdd,Nat.zero_add,List.range,List.range.loop])
 refine M0 rfl (fun d=>d0d rfl rfl (by decide) (by simp[execOp,go_sem]) (by simp[execOp,go_sem]) rfl (by simp[tryRecover,Frame.at,baseD,hcm])) ?_
 walk_nrm
 refine oT ?_
 refine ogE<|ogS<|ogS ?_
 (refine ogR ?_;simp only[List.size_toArray,List.length_cons,List.length_nil,Nat.reduceAdd,Nat.zero_add,List.range,List.range.loop])
 iterate 5 refine oT ?_
 refine oA hU ?_
 (refine oW fun dd K hK=>?_;go_simp;refine qS hK hU ?_;clear hK K)
 have e1:(w.alloc (Obj.cells #[Value.nilIface] 149)).setCell ⟨w.heap.size,0,none⟩ Value.nilIface=w.alloc (Obj.cells #[Value.nilIface] 149):=by go_simp
 rw[e1]
 clear e1
 have hK1:g.K (w.alloc (.cells #[.nilIface] 149)):=⟨fun a u p=>(hK a u p).alloc _,hK.an.alloc _⟩
 have hx1:=hx.alloc (.cells #[.nilIface] 149)
 have hi1:=hi2.alloc (.cells #[.nilIface] 149)
 have he1:=he.alloc (.cells #[.nilIface] 149)
 have hb1:∃b,Z1 (w.alloc (.cells #[.nilIface] 149)) ⟨g.br,i,none⟩ (.bool b):=hb.imp fun _ h=>h.alloc _
 have ho1:=ho.alloc (.cells #[.nilIface] 149)
 unfold d0V at h
 clear hK hx hi2 he hb ho
 generalize w.alloc (.cells #[.nilIface] 149)=w1 at*
 refine oT ?_
 refine ogE<|ogS ?_
 (refine ogR ?_;simp only[List.size_toArray,List.length_cons,List.length_nil,Nat.reduceAdd,Nat.zero_add,List.range,List.range.loop])
 iterate 3 refine oT ?_
 refine ogU rfl rfl<|ogU rfl rfl<|ogU rfl rfl<|ogU rfl rfl<|ogU rfl rfl ?_
 walk_nrm
 refine oT ?_
 refine ogE<|ogY ?_
 refine P9 (last:=8) S3 (z8 (by kernel_rfl)) (by decide) ?_
 simp only[List.size_toArray,List.length_cons,List.length_nil,Nat.reduceAdd]
 refine b0B 0 (vP g.tb 0) (And.intro hx1.c hx1.z) ?_
 walk_nrm
 refine tkL 1 (vP g.tb 0) ?_
 walk_nrm
 refine tkL 2 (vP g.tb 2) ?_
 walk_nrm
 refine b0B 3 g.bl (And.intro ((hK1 _ _ .broken).c) ((hK1 _ _ .broken).z)) ?_
 walk_nrm
 refine b0B 4 (vI i) (And.intro hi1.c hi1.z) ?_
 walk_nrm
 refine b0B 5 (.bool true) (And.intro he1.c he1.z) ?_
 walk_nrm
 refine tkL 6 (.bool false) ?_
 walk_nrm
 refine u0a 7 (vP g.br i) (And.intro hbl hi') ?_
 walk_nrm
 refine H9 (by kernel_rfl) ?_ _
 refine J0.of_goes rfl (fun dd=>?_);refine goes_oper_k rfl rfl (by decide) (fun K hK=>?_)
 have hcc:=hb1.choose_spec.c;have hzz:=hb1.choose_spec.z
 go_simp
 refine hK _ _ ⟨⟨⟨0,E0 rfl hnb _⟩,fun e he=>by(have hm:=mem_listed he;clear he hK;simp[go_sem,storedEv,hcc,hzz]at hm;subst hm;exact U0 _ _ hnb)⟩,?_⟩;clear hK K hcc hzz;rw[setCell_at'];refine J0.at ?_ dd
 have hK2:g.K (w1.setCell ⟨g.br,i,none⟩ (.bool false)):=⟨fun a u p=>(hK1 a u p).setCell (.inl (ok.ok.free a u p)) rfl,hK1.an.setCell rfl _⟩
 have hx2:Z1 (w1.setCell ⟨g.br,i,none⟩ (.bool false)) _ _:=hx1.setCell (.inl (by simp;omega)) rfl
 have hi2:Z1 (w1.setCell ⟨g.br,i,none⟩ (.bool false)) _ _:=hi1.setCell (.inl (by simp;omega)) rfl
 have ho2:Z1 (w1.setCell ⟨g.br,i,none⟩ (.bool false)) _ _:=ho1.setCell (.inl (ok.ok.brst i hi')) rfl
 clear hK1 hx1 hi1 he1 hb1 ho1
 generalize w1.setCell ⟨g.br,i,none⟩ (.bool false)=w2 at*
 refine ogE<|ogS ?_
 refine P9 (last:=9) S3 (z8 (by kernel_rfl)) (by decide) ?_
 simp only[List.size_toArray,List.length_cons,List.length_nil,Nat.reduceAdd]
 refine b0B 0 (vP g.tb 0) (And.intro hx2.c hx2.z) ?_
 walk_nrm
 refine tkL 1 (vP g.tb 0) ?_
 walk_nrm
 refine tkL 2 (vP g.tb 1) ?_
 walk_nrm
 refine b0B 3 g.sl (And.intro ((hK2 _ _ .stands).c) ((hK2 _ _ .stands).z)) ?_
 walk_nrm
 refine b0B 4 (vI i) (And.intro hi2.c hi2.z) ?_
 walk_nrm
 refine u0a 5 (vP g.sa i) (And.intro hsl hi') ?_
 walk_nrm
 refine b0B 6 (vP (g.st i) 0) (And.intro ((hK2 _ _ (.stand i hi')).c) ((hK2 _ _ (.stand i hi')).z)) ?_
 walk_nrm
 refine tkL 7 (vP (g.st i) 0) ?_
 walk_nrm
 refine tkL 8 (vP (g.st i) 2) ?_
 walk_nrm
 refine H9 (by kernel_rfl) ?_ _
 refine J0.of_goes rfl (fun dd=>?_);refine goes_oper_k rfl rfl (by decide) (fun K hK=>?_)
 have hcc:=ho2.c;have hzz:=ho2.z
 go_simp
 refine hK _ _ ⟨⟨⟨0,E0 rfl hno _⟩,fun e he=>by(have hm:=mem_listed he;clear he hK;simp[go_sem,storedEv,hcc,hzz]at hm;subst hm;exact U0 _ _ hno)⟩,?_⟩;clear hK K hcc hzz;rw[setCell_at'];refine J0.at ?_ dd
 refine ogE ?_
 exact h _ _ _ _ _ _ _ _ _ _ _ _ _ _ _ _ _ _ _ _ _ _ _ _ _ _ _ _ _ _ _ _ _ _ _
end
noncomputable section
variable{g:M1}{F:Fz}
def o0T:Array Oper:=match b0g with| .region _ o _=>o|_=> #[]
def j0W(g:M1)(v:V5)(c:Frame)(t3 t4 t5 t6 t7 t8 t9 t10 t11 t12 t13 t14 t15 t16 t17 t18 t19 t20 t21 t22 t23 t24 t25 t26 t27 t28 t29 t30 t31 t32 t33 t34 t35 t36 t37:Value):Goroutine:=
 G ((baseD 69).at ⟨#[vP v.x 0,vP v.e 0,vP v.i 0,t3,t4,t5,t6,t7,t8,t9,t10,t11,t12,t13,t14,t15,t16,t17,t18,t19,t20,t21,t22,t23,t24,t25,t26,t27,t28,t29,t30,t31,t32,t33,t34,t35,t36,t37,vP g.tb 0,vP g.tb 0,vP g.tb 0,.chan (some g.bk),.agg #[]],[]⟩ [.inRegion o0T [5]]) [c,w9]
theorem i02 [ok:Fits g] {v:V5}{w:World}{c:Frame}(hK:g.K w)(hx:Z1 w ⟨v.x,0,none⟩ (vP g.tb 0)){Stop:Goroutine→World→Prop}(t3 t4 t5 t6 t7 t8 t9 t10 t11 t12 t13 t14 t15 t16 t17 t18 t19 t20 t21 t22 t23 t24 t25 t26 t27 t28 t29 t30 t31 t32 t33 t34 t35 t36 t37:Value)
 (h:J0 Tryd.prog false F Stop (j0W g v c t3 t4 t5 t6 t7 t8 t9 t10 t11 t12 t13 t14 t15 t16 t17 t18 t19 t20 t21 t22 t23 t24 t25 t26 t27 t28 t29 t30 t31 t32 t33 t34 t35 t36 t37) w):
 J0 Tryd.prog false F Stop (G ((baseD 69).at ⟨#[vP v.x 0,vP v.e 0,vP v.i 0,t3,t4,t5,t6,t7,t8,t9,t10,t11,t12,t13,t14,t15,t16,t17,t18,t19,t20,t21,t22,t23,t24,t25,t26,t27,t28,t29,t30,t31,t32,t33,t34,t35,t36,t37,undef,undef,undef,undef,undef],[]⟩ [.code b0g]) [c,w9]) w:=by
 have c1:=hx.c
 have z1:=hx.z
 have c2:=(hK _ _ .back).c
 have z2:=(hK _ _ .back).z
 simp only[b0g,E4,Tryd.f69,Option.getD_some]
 (refine ogR ?_;simp only[List.size_toArray,List.length_cons,List.length_nil,Nat.reduceAdd,Nat.zero_add,List.range,List.range.loop])
 refine oL ?_
 iterate 2 refine oT ?_
 refine oL ?_
 refine oT ?_
 exact h
theorem n0L{c:Frame}{todo:List Item}{T:Array Value}(hc:c.mode= .returning∨∃e,c.mode= .panicking [e]∧e.recovered=true)(hfn:c.fn=65)(hd:c.defers=[])(hk:c.kind= .deferred):
 QuitsD Tryd.prog 4 0 (G {(baseD 69).at ⟨T,[]⟩ todo with mode:=.returning} [c,w9]):=by
 refine QuitsD.ctl (g':=G {c with mode:=.returning} [w9]) rfl (fun w=>?_) ?_
 ·rcases hc with hc|⟨e,hc,he⟩
  ·simp[G,stepG,unwind,doReturn,results,Frame.at,baseD,Tryd.func69,Tryd.f69,seen,GStep.after,hc]
   cases c;simp_all
  ·obtain⟨e1,e2,e3⟩:=e
   simp only at he
   subst he
   simp[G,stepG,unwind,doReturn,results,Frame.at,baseD,Tryd.func69,Tryd.f69,seen,GStep.after,hc]
 refine QuitsD.ctl (g':=G w9 []) rfl (fun w=>?_) ?_
 ·simp[G,stepG,unwind,doReturn,results,w9,hfn,hd,hk,Tryd.func65,Tryd.f65,seen,GStep.after,goexitEntry]
 refine QuitsD.ctl (g':={G w9 []with status:=.finished}) rfl (fun w=>?_) ?_
 ·simp[G,stepG,unwind,w9,goexitEntry,Frame.catches]
  rfl
 exact .inl ⟨rfl,rfl⟩
theorem e0P [ok:Fits g] {v:V5}{w:World}{c:Frame}(hc:c.mode= .returning∨∃e,c.mode= .panicking [e]∧e.recovered=true)(hfn:c.fn=65)(hd:c.defers=[])(hk:c.kind= .deferred)(t3 t4 t5 t6 t7 t8 t9 t10 t11 t12 t13 t14 t15 t16 t17 t18 t19 t20 t21 t22 t23 t24 t25 t26 t27 t28 t29 t30 t31 t32 t33 t34 t35 t36 t37:Value):
 AtGive Tryd.prog false g.Still g.top g.bk (.agg #[]) (fun x=>QuitsD Tryd.prog 6 0 x) (j0W g v c t3 t4 t5 t6 t7 t8 t9 t10 t11 t12 t13 t14 t15 t16 t17 t18 t19 t20 t21 t22 t23 t24 t25 t26 t27 t28 t29 t30 t31 t32 t33 t34 t35 t36 t37) w:=by
 unfold j0W
 simp only[o0T,b0g,E4,Tryd.f69,Option.getD_some]
 refine atGive_of (z':=.tuple #[]) rfl rfl (by decide) (fun w=>by simp[execOp,scase,Act.eval]) (fun w=>by simp[go_sem,execOp,Act.eval]) ?_ _
 rw[served_fr,Frame.finish_at]
 walk_nrm
 refine QuitsD.ctl rfl (fun w=>stepG_region_end) ?_
 refine QuitsD.ctl rfl (fun w=>stepG_end) ?_
 exact n0L hc hfn hd hk
end
noncomputable section
variable{g:M1}{F:Fz}
structure f0V(u:Frame):Prop where
 d:u.defers=[]
 m:u.mode= .run
 f:∃fn,Tryd.prog.funcs[u.fn]? =some fn
theorem e09{fr c:Frame}{rest:List Frame}{chain:List PanicEntry}{main:Bool}{w:World}(hd:fr.defers=[])(hf:∃fn,Tryd.prog.funcs[fr.fn]? =some fn):
 stepG Tryd.prog main (G {fr with mode:=.panicking chain} (c::rest)) w= .go (G (c.raise chain) rest) w #[]:=by
 obtain⟨fn,hf⟩:=hf
 simp[G,stepG,unwind,hd,Frame.catches,hf]
theorem n0S{main:Bool}{Stop:Goroutine→World→Prop}{chain:List PanicEntry}{c:Frame}{cs:List Frame}{w:World}(h:J0 Tryd.prog main F Stop (G (c.raise chain) cs) w)(us:List Frame):
 ∀(fr:Frame),fr.defers=[]→(∃fn,Tryd.prog.funcs[fr.fn]? =some fn)→(∀u∈us,f0V u)→J0 Tryd.prog main F Stop (G {fr with mode:=.panicking chain} (us++c::cs)) w:=by
 induction us with
 | nil=>exact fun fr hd hf _=>M0 rfl (fun d=>e09 hd hf) h
 | cons u us ih=>
   intro fr hd hf hus
   have hu:=hus u (by simp)
   refine M0 (g':=G {u with mode:=.panicking chain} (us++c::cs)) rfl (fun d=>?_) (ih u hu.d hu.f fun x hx=>hus x (by simp[hx]))
   rw[List.cons_append,e09 hd hf]
   simp[Frame.raise,hu.m]
theorem i0d{P:Program}{main:Bool}{b:Frame}{a:Act}{k:List Item}{cs:List Frame}{w:World}{ops:Array Oper}{i:Nat}{rest:List Nat}{o:Oper}{v:Value}(hm:b.mode= .run)(ho:ops[i]? =some o)(hw:Region.wanted o (yielded ops a.tmps)=true)(hk:b.kind≠.early)
 (hr:(execOp a.eval o).run P w= .halt (.panic v) w) (he:(execOp a.eval o).events P w #[]= #[]):
 stepG P main (G (b.at a (.inRegion ops (i::rest)::k)) cs) w= .go (G {b.at a (.inRegion ops (i::rest)::k)with mode:=.panicking [{v,recovered:=false}]} cs) w #[]:=by
 have hk':(b.kind == CallKind.early)=false:=by simpa using hk
 rw[stepG_oper ho hw]
 simp[stepG.apply,hr,he,G,Frame.at,hk',GStep.after,seen_none,Frame.raise]
theorem o0B(a:Option Addr):Tryd.prog.built 149 [(0,.iface 133 (.pointer a))]=some #[.iface 133 (.pointer a)]:=by kernel_rfl
@[go_sem] theorem z00(a:Option Addr)(w:World):(Instr.build 149 #[(0,.iface 133 (.pointer a))]).run Tryd.prog w= .ok (.agg #[.iface 133 (.pointer a)]) w:=run_build w 149 _ _ (o0B a)
@[go_sem] theorem z0D(a:Option Addr)(w:World)(es:Array Event):(Instr.build 149 #[(0,.iface 133 (.pointer a))]).events Tryd.prog w es=es:=by
 obtain⟨i,hi,hz⟩:=Option.bind_eq_some_iff.1 i0k
 simp[Instr.build,go_sem,zeroValue,typeInfo,hi,hz,Tryd.underlying149]
@[go_sem] theorem F0i(x:Value)(w:World):(Instr.makeInterface 133 x).run Tryd.prog w= .ok (.iface 133 x) w:=by simp[Instr.makeInterface,run_underlying Tryd.underlying133]
@[go_sem] theorem F0k(x:Value)(w:World):(Instr.makeInterface 149 x).run Tryd.prog w= .ok (.iface 149 x) w:=by simp[Instr.makeInterface,run_underlying Tryd.underlying149]
def f0t(g:M1):Value:=.iface 149 (.agg #[.iface 133 (vP g.tb 0)])
def j0c(g:M1)(i:Nat)(v:V5)(f:Value)(b:Bool):Frame:=q0y g i v f undef (.panicking [{v:=f0t g,recovered:=b}]) [] [.inRegion f0c [9],.code c0F]
theorem p09 [ok:Fits g] {i:Nat} [hi:Has g i] {v:V5}{f:Value}{us:List Frame}{w:World}(hus:∀u∈us,f0V u)(hK:g.K w){Stop:Goroutine→World→Prop}
 (h:J0 Tryd.prog false F Stop (G ((baseD 69).at ⟨#[vP v.x 0,vP v.e 0,vP v.i 0]++Array.replicate 40 undef,[]⟩ [.code E4]) [j0c g i v f false,w9]) w):
 J0 Tryd.prog false F Stop (Go.Conc.served (b0S g i (us++[rf g i v f,w9])) (.bool false)) w:=by
 have c1:=(hK _ _ (.gate i hi.lt)).c
 have z1:=(hK _ _ (.gate i hi.lt)).z
 unfold b0S
 rw[served_fr,Frame.finish_at]
 simp only[c0G,m0e,y04,W8,Tryd.f87,Option.getD_some]
 walk_nrm
 refine oT ?_
 refine ogE<|ogY ?_
 (refine ogR ?_;simp only[List.size_toArray,List.length_cons,List.length_nil,Nat.reduceAdd,Nat.zero_add,List.range,List.range.loop])
 iterate 3 refine oT ?_
 refine oL ?_
 iterate 3 refine oT ?_
 refine M0 rfl (fun d=>i0d (v:=f0t g) rfl rfl rfl (by decide) (by simp[execOp,go_sem,Act.eval,f0t,Instr.panic]) (by simp[execOp,go_sem,Act.eval,Instr.panic])) ?_
 refine n0S ?_ us _ rfl ⟨_,Tryd.func87⟩ hus
 refine M0 rfl (fun d=>a0C (fn:=Tryd.f69) (c:=E4) rfl Tryd.func69 rfl rfl) ?_
 exact h
end
section
variable{g:M1}{F:Fz}
theorem q07:(Tryd.prog.info? 133).map (·.comparable)=some true:=by kernel_rfl
theorem q08:(Tryd.prog.info? 137).map (·.size)=some 3:=by kernel_rfl
theorem A0P(n:Nat)(a:Addr)(w:World):(Op.equalIn (n+1) 133 (.pointer (some a)) (.pointer (some a))).run Tryd.prog w= .ok true w∧∀es,(Op.equalIn (n+1) 133 (.pointer (some a)) (.pointer (some a))).events Tryd.prog w es=es:=by
 obtain⟨j,hj,hs⟩:=Option.map_eq_some_iff.1 q08
 rw[Op.equalIn]
 constructor
 ·simp[go_sem,run_underlying Tryd.underlying133,Go.sizeOf,typeInfo,hj,hs,Go.sameAddr]
 ·intro es
  simp[go_sem,run_underlying Tryd.underlying133,Go.sizeOf,typeInfo,hj,hs,Go.sameAddr]
theorem o0X(a:Addr)(w:World):(Op.equal 20 (.iface 133 (.pointer (some a))) (.iface 133 (.pointer (some a)))).run Tryd.prog w= .ok true w∧∀es,(Op.equal 20 (.iface 133 (.pointer (some a))) (.iface 133 (.pointer (some a)))).events Tryd.prog w es=es:=by
 obtain⟨i,hi,hc⟩:=Option.map_eq_some_iff.1 q07
 unfold Op.equal Op.maxDepth
 rw[Op.equalIn]
 have h:=A0P 9998 a
 constructor
 ·simp[go_sem,run_underlying Tryd.underlying20,typeInfo,hi,hc,(h w).1]
 ·intro es
  simp[go_sem,run_underlying Tryd.underlying20,typeInfo,hi,hc,(h w).1,(h w).2]
@[go_sem] theorem E0K(a:Addr)(w:World):(binOp .neq 20 (.iface 133 (.pointer (some a))) (.iface 133 (.pointer (some a)))).run Tryd.prog w= .ok (.bool false) w:=by
 simp[binOp,go_sem,(o0X a w).1]
@[go_sem] theorem z0H(a:Addr)(w:World)(es:Array Event):(binOp .neq 20 (.iface 133 (.pointer (some a))) (.iface 133 (.pointer (some a)))).events Tryd.prog w es=es:=by
 simp[binOp,go_sem,(o0X a w).1,(o0X a w).2]
def a0y(g:M1)(i:Nat)(w:World):World:=(w.alloc (.cells #[.iface 133 (vP g.tb 0)] 149)).setCell ⟨g.st i,2,none⟩ (.bool true)
theorem n0Q [ok:Fits g] {i:Nat} [hi:Has g i] {v:V5}{f:Value}{w:World}(hK:g.K w)(hv:a0H g i v w)(ho:Z1 w ⟨g.st i,2,none⟩ (.bool false)){Stop:Goroutine→World→Prop}
 (h:∀t3 t4 t5 t6 t7 t8 t9 t10 t11 t12 t13 t14 t15 t16 t17 t18 t19 t20 t21 t22 t23 t24 t25 t26 t27 t28 t29 t30 t31 t32 t33 t34 t35 t36 t37:Value,J0 Tryd.prog false (FK g) Stop (G ((baseD 69).at ⟨#[vP v.x 0,vP v.e 0,vP v.i 0,t3,t4,t5,t6,t7,t8,t9,t10,t11,t12,t13,t14,t15,t16,t17,t18,t19,t20,t21,t22,t23,t24,t25,t26,t27,t28,t29,t30,t31,t32,t33,t34,t35,t36,t37,undef,undef,undef,undef,undef],[]⟩ [.code b0g]) [j0c g i v f true,w9]) (a0y g i w)):
 J0 Tryd.prog false (FK g) Stop (G ((baseD 69).at ⟨#[vP v.x 0,vP v.e 0,vP v.i 0]++Array.replicate 40 undef,[]⟩ [.code E4]) [j0c g i v f false,w9]) w:=by
 have hU:=e0E ok.ok
 have hi':=hi.lt
 have hvx:=hv.hx
 have hvi:=hv.hi
 have hsl:=ok.ok.sl (Nat.lt_of_le_of_lt (Nat.zero_le _) hi')
 have hno:¬held (FK g) ⟨g.st i,2,none⟩:=l0z hi'
 have hw0:g.top≤w.heap.size:=Nat.le_of_lt (Nat.lt_of_le_of_lt hvx hv.x.lt)
 have hst:g.st i<g.top:=w0c
 walk_nrm
 simp only[E4,Tryd.f69,Option.getD_some]
 refine ogS ?_
 (refine ogR ?_;simp only[List.size_toArray,List.length_cons,List.length_nil,Nat.reduceAdd,Nat.zero_add,List.range,List.range.loop])
 refine M0 rfl (fun d=>f0p (v:=f0t g) (cs':=[j0c g i v f true,w9]) rfl rfl (by decide) (by simp[execOp,go_sem]) (by simp[execOp,go_sem]) rfl (by simp[tryRecover,Frame.at,baseD,j0c,q0y])) ?_
 unfold f0t
 walk_nrm
 refine oT ?_
 refine ogE<|ogS<|ogS ?_
 (refine ogR ?_;simp only[List.size_toArray,List.length_cons,List.length_nil,Nat.reduceAdd,Nat.zero_add,List.range,List.range.loop])
 iterate 5 refine oT ?_
 refine oA hU ?_
 (refine oW fun dd K hK=>?_;go_simp;refine qS hK hU ?_;clear hK K)
 have e1:(w.alloc (Obj.cells #[Value.nilIface] 149)).setCell ⟨w.heap.size,0,none⟩ (.iface 133 (vP g.tb 0))=w.alloc (Obj.cells #[.iface 133 (vP g.tb 0)] 149):=by go_simp
 rw[e1]
 clear e1
 have hK2:g.K (w.alloc (.cells #[.iface 133 (vP g.tb 0)] 149)):=⟨fun a u p=>(hK a u p).alloc _,hK.an.alloc _⟩
 have hx2:=hv.x.alloc (.cells #[.iface 133 (vP g.tb 0)] 149)
 have hi2:=hv.i.alloc (.cells #[.iface 133 (vP g.tb 0)] 149)
 have ho2:=ho.alloc (.cells #[.iface 133 (vP g.tb 0)] 149)
 have hn2:Z1 (w.alloc (.cells #[.iface 133 (vP g.tb 0)] 149)) ⟨w.heap.size,0,none⟩ (.iface 133 (vP g.tb 0)):=⟨⟨_,_,heap_alloc_new w _,rfl⟩,rfl⟩
 unfold a0y at h
 clear hK hv ho
 generalize w.heap.size=m at*
 generalize w.alloc (.cells #[.iface 133 (vP g.tb 0)] 149)=w2 at*
 have c1:=hn2.c
 have z1:=hn2.z
 have c2:=hx2.c
 have z2:=hx2.z
 refine oT ?_
 refine ogE<|ogS ?_
 (refine ogR ?_;simp only[List.size_toArray,List.length_cons,List.length_nil,Nat.reduceAdd,Nat.zero_add,List.range,List.range.loop])
 iterate 4 refine oT ?_
 iterate 2 refine oL ?_
 iterate 3 refine oT ?_
 refine ogE<|ogG<|ogK<|ogS ?_
 refine P9 (last:=9) S3 (z8 (by kernel_rfl)) (by decide) ?_
 simp only[List.size_toArray,List.length_cons,List.length_nil,Nat.reduceAdd]
 refine b0B 0 (vP g.tb 0) (And.intro hx2.c hx2.z) ?_
 walk_nrm
 refine tkL 1 (vP g.tb 0) ?_
 walk_nrm
 refine tkL 2 (vP g.tb 1) ?_
 walk_nrm
 refine b0B 3 g.sl (And.intro ((hK2 _ _ .stands).c) ((hK2 _ _ .stands).z)) ?_
 walk_nrm
 refine b0B 4 (vI i) (And.intro hi2.c hi2.z) ?_
 walk_nrm
 refine u0a 5 (vP g.sa i) (And.intro hsl hi') ?_
 walk_nrm
 refine b0B 6 (vP (g.st i) 0) (And.intro ((hK2 _ _ (.stand i hi')).c) ((hK2 _ _ (.stand i hi')).z)) ?_
 walk_nrm
 refine tkL 7 (vP (g.st i) 0) ?_
 walk_nrm
 refine tkL 8 (vP (g.st i) 2) ?_
 walk_nrm
 refine H9 (by kernel_rfl) ?_ _
 refine J0.of_goes rfl (fun dd=>?_);refine goes_oper_k rfl rfl (by decide) (fun K hK=>?_)
 have hcc:=ho2.c;have hzz:=ho2.z
 go_simp
 refine hK _ _ ⟨⟨⟨0,E0 rfl hno _⟩,fun e he=>by(have hm:=mem_listed he;clear he hK;simp[go_sem,storedEv,hcc,hzz]at hm;subst hm;exact U0 _ _ hno)⟩,?_⟩;clear hK K hcc hzz;rw[setCell_at'];refine J0.at ?_ dd
 refine ogE ?_
 exact h _ _ _ _ _ _ _ _ _ _ _ _ _ _ _ _ _ _ _ _ _ _ _ _ _ _ _ _ _ _ _ _ _ _ _
end
noncomputable section
open Go.ConcN (sumTo upd sumTo_upd upd_ne upd_same)
variable{g:M1}{F:Fz}
def back(v:Value):List Frame→Goroutine
 | c::cs=>G (c.finish v) cs
 | []=>default
structure C4 where
 X:Type
 U:X→World→Prop
 R:X→Nat→Prop
 I:Nat→Option Obj
 fr:X→Nat→List Frame
 stp:X→Nat→X→Prop
 bor:X→Nat→X→Prop
 liv:X→Nat→Bool
 nw:X→Nat→Prop
 fid:FuncId
 cap:Nat→Array Value
def C4.To(Z:C4)(g:M1)(i:Nat)(x:Z.X)(S:Z.X→Prop)(w:World)(cs:List Frame)(a:Goroutine)(w':World):Prop:=
 ∃y,S y∧Z.U y w'∧(∀r,Z.R y r→Z.R x r∨w.heap.size≤r)∧
  ((Z.liv y i=true∧a=G (Frame.enter Tryd.prog 87 #[vP (g.st i) 0] .normal) (Z.fr y i++cs))∨(Z.liv y i=false∧∃v,a=back v cs))
structure C4.Ok(Z:C4)(g:M1):Prop where
 call:O1 Z.fid
 plain:∀x i,Z.liv x i=true→Z.fr x i≠[]∧∀u∈Z.fr x i,f0V u
 stable:∀x w w',Z.U x w→w.heap.size≤w'.heap.size→(∀r,Z.R x r∨Z.I r≠none→w'.heap[r]? =w.heap[r]?)→Z.U x w'
 fix:∀x w r o,Z.U x w→Z.I r=some o→w.heap[r]? =some o∧∃c e z,o= .cells c e z
 low:∀x w r,Z.U x w→Z.R x r→r<w.heap.size
 stpO:∀x i y j,Z.stp x i y→j≠i→Z.liv y j=Z.liv x j∧Z.fr y j=Z.fr x j
 borO:∀x i y j,Z.bor x i y→j≠i→Z.liv y j=Z.liv x j∧Z.fr y j=Z.fr x j
 nwO:∀x i y j,Z.bor x i y→j≠i→Z.nw x j→Z.nw y j
 go:∀x i,i<g.n→Z.liv x i=true→∀(F:Fz) (w:World) (c:Frame) (cs:List Frame),Z.U x w→Wf F w→(∀r,Z.R x r→F r=none)→J0 Tryd.prog false F (Z.To g i x (Z.stp x i) w (c::cs)) (back (.tuple #[]) (Z.fr x i++c::cs)) w
 born:∀x i,i<g.n→Z.nw x i→∀(F:Fz) (w:World) (c:Frame) (cs:List Frame),Z.U x w→Wf F w→(∀r,Z.R x r→F r=none)→
  J0 Tryd.prog false F (Z.To g i x (Z.bor x i) w (c::cs)) (G (Frame.enter Tryd.prog Z.fid (#[.iface 138 (vP (g.st i) 0)]++Z.cap i) .normal) (c::cs)) w
open Classical in
def FT(N:Nat→Prop)(w:World):Fz:=fun r=>match w.heap[r]? with
 | some (.cells c _ z)=>if N r then some (0,max c.size z.2)else none
 | _=>none
theorem b0h{N:Nat→Prop}{w:World}{a:Addr}{v:Value}(h:Z1 w a v)(hN:N a.block):held (FT N w) a:=by
 obtain⟨c,e,h1,h2⟩:=h.o
 refine⟨(0,max c.size 0),?_,Nat.zero_le _,by have:=(Q3 h2);simp only;omega⟩
 simp only[FT,h1]
 exact if_pos hN
theorem d0Z{N:Nat→Prop}{w:World}{r:Nat}(hN:¬N r):FT N w r=none:=by
 unfold FT
 split
 ·exact if_neg hN
 ·rfl
theorem l0A{N:Nat→Prop}(w:World):Wf (FT N w) w:=by
 constructor
 intro r z h
 unfold FT at h
 split at h
 ·rename_i c e z0 heq
  refine⟨c,e,z0,heq,fun k h1 h2=>?_⟩
  split at h
  ·cases h
   simp only
   omega
  ·cases h
 ·cases h
theorem s7{N:Nat→Prop}{w w':World}(hg:Gd (FT N w) w w'){a:Addr}{v:Value}(h:Z1 w a v)(hN:N a.block):Z1 w' a v:=h.gd hg (b0h h hN)
theorem g0Y{N:Nat→Prop}{w w':World}(hg:Gd (FT N w) w w'){r:Nat}(hN:N r)(hr:r<w.heap.size):w'.heap[r]? =w.heap[r]?:=by
 cases ho:w.heap[r]? with
 | none=>rw[Array.getElem?_eq_none_iff]at ho;omega
 | some o=>
   rcases hg.objs r _ ho with⟨c1,e2,z1,c',h1,h2,h3⟩|h2
   ·subst h1
    have:c'=c1:=by
     apply Array.ext h3
     intro j hj1 hj2
     have hh:held (FT N w) ⟨r,j,none⟩:=by
      refine⟨(0,max c1.size z1.2),?_,Nat.zero_le _,by simp only;omega⟩
      simp only[FT,ho]
      exact if_pos hN
     have:=hg.keep _ hh
     simp only[World.cell?,h2]at this
     have e3:(w.at w'.drawn).heap[r]? =some (.cells c1 e2 z1):=ho
     rw[e3]at this
     simpa [hj1,hj2]using this
    subst this
    exact h2
   ·exact h2
theorem l0m{w w':World}(hg:Gd F w w'){c cap k:Nat}(h:w.heap[c]? =some (.chan cap #[] false k k false)):w'.heap[c]? =some (.chan cap #[] false k k false):=by
 rcases hg.objs c _ h with⟨_,_,_,_,h1,_⟩|h1
 ·cases h1
 ·exact h1
def E7(Z:C4)(g:M1)(s0:Nat)(A:Nat→Bool)(vs:Nat→V5)(ms:Option Seat)(x:Z.X):Nat→Option Seat:=fun j=>
 if j=0 then ms else if s0≤j∧A (j - s0)=true then some (Z7 g (j - s0) (Z.fr x (j - s0)++[rf g (j - s0) (vs (j - s0)) (.func (.func Z.fid) #[] (Z.cap (j - s0))),w9]))else none
structure TI(Z:C4)(g:M1)(A:Nat→Prop)(vs:Nat→V5)(N:Nat→Prop)(ov:Nat→Bool)(x:Z.X)(w:World):Prop where
 u:Z.U x w
 over:∀j,j<g.n→Z1 w ⟨g.st j,2,none⟩ (.bool (ov j))
 brk:∀j,j<g.n→∃b,Z1 w ⟨g.br,j,none⟩ (.bool b)
 vars:∀j,A j→a0H g j (vs j) w
 chans:∀c,g.Chan c→∃cap k,w.heap[c]? =some (.chan cap #[] false k k false)
 apart:∀r,Z.R x r→¬N r
 nlow:∀r,N r→r<w.heap.size
 nplace:∀a v,g.Place a v→N a.block
 nst:∀j,j<g.n→N (g.st j)
 nbr:0<g.n→N g.br
 nvars:∀j,A j→N (vs j).x∧N (vs j).i∧N (vs j).e
 nchan:∀c,g.Chan c→N c
 vsep:∀j k,A j→A k→j≠k→(vs j).e≠(vs k).e∧(vs j).e≠(vs k).x∧(vs j).e≠(vs k).i
 inp:∀r,Z.I r≠none→N r∧(∀j,j<g.n→r≠g.st j)∧r≠g.br∧∀j,A j→r≠(vs j).e
variable{Z:C4}{A A':Nat→Prop}{vs:Nat→V5}{N:Nat→Prop}{ov:Nat→Bool}{x y:Z.X}{w w':World}
theorem TI.mono(H:TI Z g A vs N ov x w)(h:∀j,A' j→A j):TI Z g A' vs N ov x w:=
 ⟨H.u,H.over,H.brk,fun j hj=>H.vars j (h j hj),H.chans,H.apart,H.nlow,H.nplace,H.nst,H.nbr,fun j hj=>H.nvars j (h j hj),H.nchan,fun j k hj hk=>H.vsep j k (h j hj) (h k hk),fun r hr=>by obtain⟨h1,h2,h3,h4⟩:=H.inp r hr;exact⟨h1,h2,h3,fun j hj=>h4 j (h j hj)⟩⟩
theorem a0H.of{i:Nat}{v:V5}(h:a0H g i v w)(hL:∀a u,Z1 w a u→(a.block=v.x∨a.block=v.i∨a.block=v.e)→Z1 w' a u):a0H g i v w':=
 ⟨hL _ _ h.x (.inl rfl),hL _ _ h.i (.inr (.inl rfl)),hL _ _ h.e (.inr (.inr rfl)),h.hx,h.hi,h.he,h.ex,h.ei⟩
theorem TI.keep(zok:Z.Ok g)(H:TI Z g A vs N ov x w)(hs:w.heap.size≤w'.heap.size)(hR:∀r,Z.R x r∨Z.I r≠none→w'.heap[r]? =w.heap[r]?)(hL:∀a v,Z1 w a v→N a.block→Z1 w' a v)
 (hC:∀c,g.Chan c→∃cap k,w'.heap[c]? =some (.chan cap #[] false k k false)):TI Z g A vs N ov x w':=
 ⟨zok.stable x w w' H.u hs hR,fun j hj=>hL _ _ (H.over j hj) (H.nst j hj),fun j hj=>(H.brk j hj).imp fun b h=>hL _ _ h (H.nbr (by omega)),fun j hj=>(H.vars j hj).of fun a u h e=>hL a u h (by
  obtain⟨h1,h2,h3⟩:=H.nvars j hj
  rcases e with e|e|e<;>rw[e]<;>assumption),hC,H.apart,fun r h=>Nat.lt_of_lt_of_le (H.nlow r h) hs,H.nplace,H.nst,H.nbr,H.nvars,H.nchan,H.vsep,H.inp⟩
theorem TI.ilow(zok:Z.Ok g)(H:TI Z g A vs N ov x w){r:Nat}(h:Z.I r≠none):r<w.heap.size:=by
 obtain⟨o,ho⟩:=Option.ne_none_iff_exists'.1 h
 exact(Array.getElem?_eq_some_iff.1 (zok.fix x w r o H.u ho).1).1
theorem TI.at(zok:Z.Ok g)(H:TI Z g A vs N ov x w)(d:Nat):TI Z g A vs N ov x (w.at d):=H.keep zok (Nat.le_refl _) (fun _ _=>rfl) (fun _ _ h _=>h.at d) H.chans
theorem TI.user(H:TI Z g A vs N ov x w)(hU:Z.U y w')(hR:∀r,Z.R y r→Z.R x r∨w.heap.size≤r)(hg:Gd (FT N w) w w'):TI Z g A vs N ov y w':=
 ⟨hU,fun j hj=>s7 hg (H.over j hj) (H.nst j hj),fun j hj=>(H.brk j hj).imp fun b h=>s7 hg h (H.nbr (by omega)),fun j hj=>(H.vars j hj).of fun a u h e=>s7 hg h (by
  obtain⟨h1,h2,h3⟩:=H.nvars j hj
  rcases e with e|e|e<;>rw[e]<;>assumption),fun c hc=>by obtain⟨cap,k,h⟩:=H.chans c hc;exact⟨cap,k,l0m hg h⟩,
  fun r hr hN=>by rcases hR r hr with h|h;exact H.apart r h hN;exact absurd (H.nlow r hN) (by omega),
  fun r h=>Nat.lt_of_lt_of_le (H.nlow r h) hg.size,H.nplace,H.nst,H.nbr,H.nvars,H.nchan,H.vsep,H.inp⟩
theorem b0d(H:TI Z g A vs N ov x w){c:Nat}(hc:g.Chan c){a:Addr}{v:Value}(h:Z1 w a v):c≠a.block:=by
 rintro rfl
 obtain⟨cap,k,h1⟩:=H.chans _ hc
 obtain⟨cc,e,h2,_⟩:=h.o
 rw[h1]at h2
 cases h2
theorem TI.chan(zok:Z.Ok g)(H:TI Z g A vs N ov x w){c:Nat}(hc:g.Chan c)(d cap k:Nat):TI Z g A vs N ov x ((w.at d).setChan c cap #[] false k k false):=
 H.keep zok (by simp[World.setChan,size_at']) (fun r hr=>by
  have:c≠r:=by
   rintro rfl
   rcases hr with hr|hr
   ·exact H.apart c hr (H.nchan c hc)
   ·obtain⟨o,ho⟩:=Option.ne_none_iff_exists'.1 hr
    obtain⟨h1,c1,e1,z1,rfl⟩:=zok.fix x w c o H.u ho
    obtain⟨cap',k',h'⟩:=H.chans c hc
    rw[h1]at h'
    cases h'
  simp only[World.setChan,Array.getElem?_setIfInBounds_ne this];rfl)
  (fun a v h _=>(h.at d).setChan (b0d H hc h) _ _ _ _ _ _) (fun c' hc'=>by
    obtain⟨cap',k',h'⟩:=H.chans c' hc'
    by_cases e:c=c'
    ·subst e
     refine⟨cap,k,?_⟩
     have hlt:=(Array.getElem?_eq_some_iff.1 h').1
     simp only[World.setChan,size_at']
     rw[Array.getElem?_setIfInBounds_self_of_lt (by simpa [size_at']using hlt)]
    ·exact⟨cap',k',by simp only[World.setChan,Array.getElem?_setIfInBounds_ne e];exact h'⟩)
end
section
open Go.ConcN (sumTo upd sumTo_upd upd_ne upd_same)
variable{g:M1}{F:Fz}{Z:C4}{A A':Nat→Prop}{vs:Nat→V5}{N:Nat→Prop}{ov:Nat→Bool}{x y:Z.X}{w w':World}
theorem TI.mark [ok:Fits g] (zok:Z.Ok g)(H:TI Z g A vs N ov x w){i:Nat}(hin:i<g.n)(hA:A i)(hs:w.heap.size≤w'.heap.size)(hR:∀r,Z.R x r∨Z.I r≠none→w'.heap[r]? =w.heap[r]?)(hC:∀c,g.Chan c→w'.heap[c]? =w.heap[c]?)
 (hL:∀a v,Z1 w a v→(a.block≠g.st i∨a.off≠2)→a.block≠(vs i).e→(a.block≠g.br∨a.off≠i)→Z1 w' a v) (hb:∃b,Z1 w' ⟨g.br,i,none⟩ (.bool b)) (ho:Z1 w' ⟨g.st i,2,none⟩ (.bool true)):
 TI Z g (fun j=>A j∧j≠i) vs N (fun j=>if j=i then true else ov j) x w':=by
 have hv:=H.vars i hA
 have hbr:=ok.ok.brlow (by omega)
 have hst:∀j,j<g.n→g.st j<g.top:=fun j hj=>ok.ok.low _ _ (.gate j hj)
 refine⟨zok.stable x w w' H.u hs hR,fun j hj=>?_,fun j hj=>?_,fun j hj=>?_,fun c hc=>?_,H.apart,fun r h=>Nat.lt_of_lt_of_le (H.nlow r h) hs,H.nplace,H.nst,H.nbr,fun j hj=>H.nvars j hj.1,H.nchan,fun j k hj hk=>H.vsep j k hj.1 hk.1,fun r hr=>by obtain⟨h1,h2,h3,h4⟩:=H.inp r hr;exact⟨h1,h2,h3,fun j hj=>h4 j hj.1⟩⟩
 ·by_cases e:j=i
  ·subst e;simpa using ho
  ·rw[if_neg e]
   exact hL _ _ (H.over j hj) (.inl fun h=>e (ok.ok.sinj j i hj hin h)) (by have:=hst j hj;have:=hv.he;simp only;omega) (.inl fun h=>ok.ok.brst j hj h.symm)
 ·by_cases e:j=i
  ·subst e;exact hb
  ·exact(H.brk j hj).imp fun b h=>hL _ _ h (.inl fun h=>ok.ok.brst i hin h) (by have:=hv.he;simp only;omega) (.inr e)
 ·have hj1:=H.vars j hj.1
  obtain⟨s1,s2,s3⟩:=H.vsep i j hA hj.1 (Ne.symm hj.2)
  have h1:=hj1.hx
  have h2:=hj1.hi
  have h3:=hj1.he
  have h4:=hst i hin
  refine hj1.of fun a u h e=>hL a u h (.inl ?_) ?_ (.inl ?_)
  ·rcases e with e|e|e<;>rw[e]<;>omega
  ·rcases e with e|e|e<;>rw[e]<;>first|exact Ne.symm s1|exact Ne.symm s2|exact Ne.symm s3
  ·rcases e with e|e|e<;>rw[e]<;>omega
 ·obtain⟨cap,k,h⟩:=H.chans c hc
  exact⟨cap,k,(hC c hc).trans h⟩
theorem TI.ended [ok:Fits g] (zok:Z.Ok g)(H:TI Z g A vs N ov x w){i:Nat}(hin:i<g.n)(hA:A i):
 TI Z g (fun j=>A j∧j≠i) vs N (fun j=>if j=i then true else ov j) x (d0V g i (w.setCell ⟨(vs i).e,0,none⟩ (.bool true))):=by
 have hv:=H.vars i hA
 obtain⟨n1,n2,n3⟩:=H.nvars i hA
 have hbr:=ok.ok.brlow (by omega)
 have hst:g.st i<g.top:=ok.ok.low _ _ (.gate i hin)
 have hve:=hv.he
 have nbr:=H.nbr (by omega)
 have nst:=H.nst i hin
 have size1:∀r,r<w.heap.size→r<(w.setCell ⟨(vs i).e,0,none⟩ (.bool true)).heap.size:=fun r h=>by simpa using h
 have hh:∀r,r<w.heap.size→r≠(vs i).e→r≠g.br→r≠g.st i→(d0V g i (w.setCell ⟨(vs i).e,0,none⟩ (.bool true))).heap[r]? =w.heap[r]?:=fun r h1 h2 h3 h4=>by
  unfold d0V
  rw[o0 _ _ _ h4,o0 _ _ _ h3,D0 _ _ (size1 r h1),o0 _ _ _ h2]
 have hL:∀a v,Z1 w a v→(a.block≠g.st i∨a.off≠2)→a.block≠(vs i).e→(a.block≠g.br∨a.off≠i)→Z1 (d0V g i (w.setCell ⟨(vs i).e,0,none⟩ (.bool true))) a v:=fun a v h h1 h2 h3=>by
  refine(((h.setCell (.inl (Ne.symm h2)) rfl).alloc _).setCell ?_ rfl).setCell ?_ rfl
  ·rcases h3 with h3|h3
   ·exact .inl (Ne.symm h3)
   ·exact .inr (Ne.symm h3)
  ·rcases h1 with h1|h1
   ·exact .inl (Ne.symm h1)
   ·exact .inr (Ne.symm h1)
 obtain⟨b,hb⟩:=H.brk i hin
 have hbe:(vs i).e≠g.br:=by omega
 have hse:(vs i).e≠g.st i:=by omega
 refine H.mark zok hin hA (by simp[d0V]) (fun r hr=>hr.elim (fun hr=>hh r (zok.low x w r H.u hr) (fun e=>H.apart r hr (e ▸ n3)) (fun e=>H.apart r hr (e ▸ nbr)) (fun e=>H.apart r hr (e ▸ nst))) fun hr=>by obtain⟨h1,h2,h3,h4⟩:=H.inp r hr;exact hh r (H.ilow zok hr) (h4 i hA) h3 (h2 i hin)) (fun c hc=>?_) hL ?_ ?_
 ·exact hh c (H.nlow c (H.nchan c hc)) (b0d H hc hv.e) (b0d H hc hb) (b0d H hc (H.over i hin))
 ·exact⟨false,((((hb.setCell (.inl hbe) rfl).alloc _).put).setCell (.inl (Ne.symm (ok.ok.brst i hin))) rfl)⟩
 ·exact((((H.over i hin).setCell (.inl hse) rfl).alloc _).setCell (.inl (ok.ok.brst i hin)) rfl).put
theorem TI.killed [ok:Fits g] (zok:Z.Ok g)(H:TI Z g A vs N ov x w){i:Nat}(hin:i<g.n)(hA:A i):
 TI Z g (fun j=>A j∧j≠i) vs N (fun j=>if j=i then true else ov j) x (a0y g i w):=by
 have nst:=H.nst i hin
 have hh:∀r,r<w.heap.size→r≠g.st i→(a0y g i w).heap[r]? =w.heap[r]?:=fun r h1 h4=>by
  unfold a0y
  rw[o0 _ _ _ h4,D0 _ _ h1]
 have hL:∀a v,Z1 w a v→(a.block≠g.st i∨a.off≠2)→Z1 (a0y g i w) a v:=fun a v h h1=>by
  refine(h.alloc _).setCell ?_ rfl
  rcases h1 with h1|h1
  ·exact .inl (Ne.symm h1)
  ·exact .inr (Ne.symm h1)
 obtain⟨b,hb⟩:=H.brk i hin
 refine H.mark zok hin hA (by simp[a0y]) (fun r hr=>hr.elim (fun hr=>hh r (zok.low x w r H.u hr) (fun e=>H.apart r hr (e ▸ nst))) fun hr=>by obtain⟨h1,h2,h3,h4⟩:=H.inp r hr;exact hh r (H.ilow zok hr) (h2 i hin)) (fun c hc=>?_) (fun a v h h1 _ _=>hL a v h h1) ⟨b,hL _ _ hb (.inl (ok.ok.brst i hin))⟩ ?_
 ·exact hh c (H.nlow c (H.nchan c hc)) (b0d H hc (H.over i hin))
 ·exact((H.over i hin).alloc _).put
theorem TI.made [ok:Fits g] (zok:Z.Ok g)(H:TI Z g A vs N ov x w){i:Nat}(hin:i<g.n)(hA:∀j,A j→j≠i)(ht:g.top≤w.heap.size):
 TI Z g (fun j=>A j∨j=i) (fun j=>if j=i then⟨w.heap.size,w.heap.size+2,w.heap.size+1⟩else vs j) (fun r=>N r∨r=w.heap.size∨r=w.heap.size+1∨r=w.heap.size+2) ov x (R4 g i w):=by
 have hh:∀r,r<w.heap.size→(R4 g i w).heap[r]? =w.heap[r]?:=fun r h=>by
  unfold R4
  rw[D0 _ _ (by simp;omega),D0 _ _ (by simp;omega),D0 _ _ h]
 have hL:∀a v,Z1 w a v→Z1 (R4 g i w) a v:=fun a v h=>((h.alloc _).alloc _).alloc _
 have sz:(R4 g i w).heap.size=w.heap.size+3:=by simp[R4]
 have l0:Z1 (R4 g i w) ⟨w.heap.size,0,none⟩ (vP g.tb 0):=
  Z1.alloc (Z1.alloc ⟨⟨_,_,heap_alloc_new w _,rfl⟩,rfl⟩ _) _
 have l1:Z1 (R4 g i w) ⟨w.heap.size+1,0,none⟩ (vI i):=
  Z1.alloc ⟨⟨_,_,by simpa using heap_alloc_new (w.alloc (.cells #[vP g.tb 0] 133)) (.cells #[vI i] 3),rfl⟩,rfl⟩ _
 have l2:Z1 (R4 g i w) ⟨w.heap.size+2,0,none⟩ (.bool false):=
  ⟨⟨_,_,by simpa [R4]using heap_alloc_new ((w.alloc (.cells #[vP g.tb 0] 133)).alloc (.cells #[vI i] 3)) (.cells #[.bool false] 4),rfl⟩,rfl⟩
 refine⟨zok.stable x w _ H.u (by omega) (fun r hr=>hh r (hr.elim (zok.low x w r H.u) (H.ilow zok))),fun j hj=>hL _ _ (H.over j hj),fun j hj=>(H.brk j hj).imp fun b h=>hL _ _ h,fun j hj=>?_,fun c hc=>?_,fun r hr hn=>?_,fun r hr=>?_,fun a v p=>.inl (H.nplace a v p),
  fun j hj=>.inl (H.nst j hj),fun h=>.inl (H.nbr h),fun j hj=>?_,fun c hc=>.inl (H.nchan c hc),fun j k hj hk hjk=>?_,fun r hr=>?_⟩
 ·by_cases e:j=i
  ·subst e
   simp only[if_true]
   exact⟨l0,l1,l2,ht,by simp only;omega,by simp only;omega,by simp only;omega,by simp only;omega⟩
  ·rw[if_neg e]
   have hj':=hj.resolve_right e
   exact(H.vars j hj').of fun a u h _=>hL a u h
 ·obtain⟨cap,k,h⟩:=H.chans c hc
  exact⟨cap,k,(hh c (H.nlow c (H.nchan c hc))).trans h⟩
 ·have:=zok.low x w r H.u hr
  rcases hn with hn|hn
  ·exact H.apart r hr hn
  ·omega
 ·rcases hr with hr|hr
  ·have:=H.nlow r hr;omega
  ·omega
 ·by_cases e:j=i
  ·subst e
   rw[if_pos rfl]
   exact⟨.inr (.inl rfl),.inr (.inr (.inl rfl)),.inr (.inr (.inr rfl))⟩
  ·rw[if_neg e]
   obtain⟨h1,h2,h3⟩:=H.nvars j (hj.resolve_right e)
   exact⟨.inl h1,.inl h2,.inl h3⟩
 ·have low:∀j,A j→(vs j).x<w.heap.size∧(vs j).i<w.heap.size∧(vs j).e<w.heap.size:=fun j hj=>by
   obtain⟨h1,h2,h3⟩:=H.nvars j hj
   exact⟨H.nlow _ h1,H.nlow _ h2,H.nlow _ h3⟩
  by_cases e:j=i
  ·subst e
   have hk':=hk.resolve_right (fun e=>hjk e.symm)
   obtain⟨h1,h2,h3⟩:=low k hk'
   rw[if_pos rfl,if_neg (fun e=>hjk e.symm)]
   simp only
   omega
  ·have hj':=hj.resolve_right e
   obtain⟨h1,h2,h3⟩:=low j hj'
   rw[if_neg e]
   by_cases e2:k=i
   ·subst e2
    rw[if_pos rfl]
    simp only
    omega
   ·rw[if_neg e2]
    exact H.vsep j k hj' (hk.resolve_right e2) hjk
 ·obtain⟨h1,h2,h3,h4⟩:=H.inp r hr
  refine⟨.inl h1,h2,h3,fun j hj=>?_⟩
  by_cases e:j=i
  ·subst e
   rw[if_pos rfl]
   have:=H.ilow zok hr
   simp only
   omega
  ·rw[if_neg e]
   exact h4 j (hj.resolve_right e)
end
section
open Go.ConcN (sumTo upd sumTo_upd upd_ne upd_same)
variable{g:M1}{F:Fz}{Z:C4}{A:Nat→Bool}{Al:Nat→Prop}{vs:Nat→V5}{N:Nat→Prop}{ov:Nat→Bool}{x y:Z.X}{w w':World}{s0 nn:Nat}{Gl:Machine→Trace→Prop}
theorem k0v{i:Nat}{u:Frame}{cs:List Frame}{main:Bool}{Stop:Goroutine→World→Prop}(h:J0 Tryd.prog main F Stop (G (u.finish (.tuple #[])) cs) w):
 J0 Tryd.prog main F Stop (Go.Conc.served (b0S g i (u::cs)) (.bool true)) w:=by
 unfold b0S
 rw[served_fr,Frame.finish_at]
 simp only[c0G,m0e,y04,W8,Tryd.f87,Option.getD_some]
 walk_nrm
 refine oT ?_
 refine ogE<|ogG<|ogK ?_
 refine M0 rfl (fun d=>stepG_end) ?_
 refine M0 rfl (fun d=>stepG_leave (fn:=Tryd.f87) (v:=.tuple #[]) rfl rfl Tryd.func87 (by simp[results,Tryd.f87]) (by simp[results,Tryd.f87,go_sem])) ?_
 exact h
def R1(g:M1)(gm:Goroutine):Seat:=Seat.one g.bk (.agg #[]) false (·=gm)
structure Z4(g:M1)(N:Nat→Prop)(vs:Nat→V5)(i:Nat)(w w':World):Prop where
 size:w.heap.size≤w'.heap.size
 lies:∀a v,Z1 w a v→N a.block→(a.block≠g.st i∨a.off≠2)→a.block≠(vs i).e→(a.block≠g.br∨a.off≠i)→Z1 w' a v
 same:∀r c e z,w.heap[r]? =some (.cells c e z)→N r→r≠g.st i→r≠(vs i).e→r≠g.br→w'.heap[r]? =w.heap[r]?
theorem Z4.at{i:Nat}(w:World)(d:Nat):Z4 g N vs i w (w.at d):=⟨Nat.le_refl _,fun a v h _ _ _ _=>h.at d,fun _ _ _ _ _ _ _ _ _=>rfl⟩
theorem Z4.trans{w1:World}{i:Nat}(h:Z4 g N vs i w w1)(k:Z4 g N vs i w1 w'):Z4 g N vs i w w':=
 ⟨Nat.le_trans h.size k.size,fun a v h1 h2 h3 h4 h5=>k.lies a v (h.lies a v h1 h2 h3 h4 h5) h2 h3 h4 h5,fun r c e z h1 h2 h3 h4 h5=>by
  have e1:=h.same r c e z h1 h2 h3 h4 h5
  exact(k.same r c e z (e1.trans h1) h2 h3 h4 h5).trans e1⟩
theorem Z4.gd{i:Nat}(hg:Gd (FT N w) w w'):Z4 g N vs i w w':=
 ⟨hg.size,fun a v h1 h2 _ _ _=>s7 hg h1 h2,fun r c e z h1 h2 _ _ _=>g0Y hg h2 (Q3 h1)⟩
theorem o0H{Al:Nat→Prop}(H:TI Z g Al vs N ov x w){c:Nat}(hc:g.Chan c){r:Nat}{cc:Array Value}{e:TypeId}{z:Nat×Nat}(h:w.heap[r]? =some (.cells cc e z)):c≠r:=by
 rintro rfl
 obtain⟨cap,k,h1⟩:=H.chans _ hc
 rw[h1]at h
 cases h
theorem Z4.chan(H:TI Z g Al vs N ov x w){i c:Nat}(hc:g.Chan c)(d cap k:Nat):Z4 g N vs i w ((w.at d).setChan c cap #[] false k k false):=
 ⟨by simp[World.setChan,size_at'],fun a v h _ _ _ _=>(h.at d).setChan (b0d H hc h) _ _ _ _ _ _,fun r cc e z h _ _ _ _=>by
  simp only[World.setChan,Array.getElem?_setIfInBounds_ne (o0H H hc h)];rfl⟩
theorem Z4.ended(H:TI Z g Al vs N ov x w){i:Nat}(hA:Al i):Z4 g N vs i w (d0V g i (w.setCell ⟨(vs i).e,0,none⟩ (.bool true))):=by
 refine⟨by simp[d0V],fun a v h _ h1 h2 h3=>(((h.setCell (.inl (Ne.symm h2)) rfl).alloc _).setCell ?_ rfl).setCell ?_ rfl,fun r c e z h _ h1 h2 h3=>?_⟩
 ·rcases h3 with h3|h3
  ·exact .inl (Ne.symm h3)
  ·exact .inr (Ne.symm h3)
 ·rcases h1 with h1|h1
  ·exact .inl (Ne.symm h1)
  ·exact .inr (Ne.symm h1)
 ·have hlt:=(Q3 h)
  unfold d0V
  rw[o0 _ _ _ h1,o0 _ _ _ h3,D0 _ _ (by simpa using hlt),o0 _ _ _ h2]
theorem Z4.killed{i:Nat}:Z4 g N vs i w (a0y g i w):=by
 refine⟨by simp[a0y],fun a v h _ h1 h2 h3=>(h.alloc _).setCell ?_ rfl,fun r c e z h _ h1 h2 h3=>?_⟩
 ·rcases h1 with h1|h1
  ·exact .inl (Ne.symm h1)
  ·exact .inr (Ne.symm h1)
 ·unfold a0y
  rw[o0 _ _ _ h1,D0 _ _ (Q3 h)]
theorem e0Y{c:Nat}{z:Value}{f:Bool}{home:Goroutine→Prop}:(Seat.one c z f home).cases[0]? =some (rcase c z):=rfl
theorem c0u(hAn:∀j,A j=true→j<g.n){ms:Option Seat}(hms:∀s,ms=some s→∀c,s.has c→c=g.bk){j:Nat}{s:Seat}(h:E7 Z g s0 A vs ms x j=some s):
 (j=0∧ms=some s)∨(j≠0∧s0≤j∧j - s0<g.n∧∀c,s.has c→c=g.pc (j - s0)):=by
 unfold E7 at h
 split at h
 ·exact .inl ⟨‹_›,h⟩
 ·split at h
  ·rename_i h0 h1
   cases h
   exact .inr ⟨h0,h1.1,hAn _ h1.2,fun c hc=>Seat.one_has.1 hc⟩
  ·cases h
theorem b0M [ok:Fits g] {c:Nat}(hc:g.Chan c):∀w cap buf cl a b tm,g.K w→g.K (w.setChan c cap buf cl a b tm):=fun w cap buf cl a b tm h=>h.setChan ok.ok hc _ _ _ _ _ _
theorem j0H [ok:Fits g] (zok:Z.Ok g)(hs0:0<s0){i:Nat}(hin:i<g.n)(hAn:∀j,A j=true→j<g.n){Inb:Nat→Option Seat}{gm:Goroutine}(hI:∀j,j≠s0+i→Inb j=E7 Z g s0 A vs (some (R1 g gm)) y j)(hIh:∀s c,Inb (s0+i)=some s→s.has c→c=g.pc i)
 (H:TI Z g (fun j=>A j=true) vs N ov y w) (hA:A i=true) (hov:ov i=false) {a:Goroutine}
 (ha:(Z.liv y i=true∧a=G (Frame.enter Tryd.prog 87 #[vP (g.st i) 0] .normal) (Z.fr y i++[rf g i (vs i) (.func (.func Z.fid) #[] (Z.cap i)),w9]))∨(Z.liv y i=false∧∃v,a=back v [rf g i (vs i) (.func (.func Z.fid) #[] (Z.cap i)),w9]))
 (hk:∀w',TI Z g (fun j=>(A j && (j != i || Z.liv y i))=true) vs N (fun j=>if j=i then !Z.liv y i else ov j) y w'→Z4 g N vs i w w'→e8 Tryd.prog g.K g.Still g.top Gl (E7 Z g s0 (fun j=>A j && (j != i || Z.liv y i)) vs (some (R1 g gm)) y) 0 nn (Go.Conc.served gm (.agg #[])) w'):
 e8 Tryd.prog g.K g.Still g.top Gl Inb (s0+i) nn a w:=by
 have hiH:Has g i:=⟨hin⟩
 have hne:s0+i≠0:=by omega
 have hbool:(s0+i == 0)=false:=by simp;omega
 have hms:∀s,some (R1 g gm)=some s→∀c,s.has c→c=g.bk:=fun s e c hc=>by cases e;exact Seat.one_has.1 hc
 have hKat:∀w d,g.K w→g.K (w.at d):=fun w d h=>h.at d
 rcases ha with⟨hl,rfl⟩|⟨hl,v,rfl⟩
 ·-- it comes to its next step
  have eA:(fun j=>A j && (j != i || Z.liv y i))=A:=by funext j;simp[hl]
  rw[eA]at hk
  refine U3 fun hlt hK hch=>?_
  refine f0w (Z7 g i (Z.fr y i++[rf g i (vs i) (.func (.func Z.fid) #[] (Z.cap i)),w9])) (Seat.one_wf _ _ _ _) (fun j s' c hj e hc hc2=>?_) (fun c hc=>?_) (fun c hc=>?_) ?_
  ·obtain rfl:=Seat.one_has.1 hc2
   rw[hI j hj]at e
   rcases c0u hAn hms e with⟨rfl,e2⟩|⟨h0,h1,h2,h3⟩
   ·exact ok.ok.bk i hin (hms _ e2 _ hc)
   ·have:=ok.ok.inj _ _ hin (by omega) (h3 _ hc)
    omega
  ·obtain rfl:=Seat.one_has.1 hc
   exact H.chans _ (.inr ⟨i,hin,rfl⟩)
  ·obtain rfl:=Seat.one_has.1 hc
   exact ok.ok.clow _ (.inr ⟨i,hin,rfl⟩)
  have hup:upd Inb (s0+i) (some (Z7 g i (Z.fr y i++[rf g i (vs i) (.func (.func Z.fid) #[] (Z.cap i)),w9])))=E7 Z g s0 A vs (some (R1 g gm)) y:=by
   funext j
   by_cases e:j=s0+i
   ·subst e
    rw[upd_same]
    unfold E7
    rw[if_neg hne,if_pos ⟨by omega,by simpa using hA⟩]
    simp
   ·rw[upd_ne _ _ e,hI j e]
  rw[hup]
  refine f0x hKat (by rw[hbool];exact n09 hK) fun g' d hgv=>?_
  refine a09 (Inb':=E7 Z g s0 A vs (some (R1 g gm)) y) (j:=0) (s:=R1 g gm) (kk:=0) hKat (fun w j s c cap buf cl a b tm e hc h=>?_) (by omega) (by omega) rfl e0Y (by rw[hbool];exact hgv) (fun _ _=>rfl) (.inl rfl) (fun g' hS=>?_) (fun g₂ d2 k cap hh hc=>?_)
  ·rcases c0u hAn hms e with⟨rfl,e2⟩|⟨h0,h1,h2,h3⟩
   ·exact b0M (.inl (hms _ e2 _ hc)) _ _ _ _ _ _ _ h
   ·exact b0M (.inr ⟨j - s0,by omega,h3 _ hc⟩) _ _ _ _ _ _ _ h
  ·refine .inl ⟨Z7 g i (Z.fr y i++[rf g i (vs i) (.func (.func Z.fid) #[] (Z.cap i)),w9]),_,?_,by rw[hbool];exact hS⟩
   unfold E7
   rw[if_neg hne,if_pos ⟨by omega,by simpa using hA⟩]
   simp
  ·obtain rfl:g₂=gm:=hh
   have H1:=(H.at zok d).chan zok (.inl rfl:g.Chan g.bk) d2 cap (k+1)
   refine hk _ ?_ ?_
   ·have e1:(fun j=>if j=i then !Z.liv y i else ov j)=ov:=by funext j;by_cases e:j=i<;>simp[e,hl,hov]
    rw[e1]
    exact H1.mono fun j hj=>by simpa [hl]using hj
   ·exact Z4.chan H (.inl rfl) d2 cap (k+1)
 ·-- it has come to its end
  have eI:∀j,E7 Z g s0 (fun j=>A j && (j != i || Z.liv y i)) vs (some (R1 g gm)) y j=if j=s0+i then none else E7 Z g s0 A vs (some (R1 g gm)) y j:=fun j=>by
   unfold E7
   by_cases e:j=s0+i
   ·subst e
    rw[if_neg hne,if_neg (fun h=>by have:=h.2;simp[hl]at this),if_pos rfl]
   ·rw[if_neg e]
    by_cases h0:j=0
    ·simp[h0]
    ·rw[if_neg h0,if_neg h0]
     by_cases h1:s0≤j
     ·have:(j - s0 != i)=true:=by simp;omega
      simp[this]
     ·rw[if_neg (fun h=>h1 h.1),if_neg (fun h=>h1 h.1)]
  refine U3 fun hlt hK hch=>?_
  have hv:=H.vars i hA
  have cv:=M1.covers (F:=FK g) (fun a v p=>L9 ok.ok p)
  have hgK:∀w w',Gd (FK g) w w'→g.K w→g.K w':=fun w w' hg h=>h.gd (fun a v p=>L9 ok.ok p) hg
  refine I6 (F:=FK g) (Stop:=fun a' w'=>(∃d,w'=(d0V g i (w.setCell ⟨(vs i).e,0,none⟩ (.bool true))).at d)∧AtGive Tryd.prog false g.Still g.top g.bk (.agg #[]) (fun x=>QuitsD Tryd.prog 6 0 x) a' w') hKat cv hgK ?_ fun g' w0 d hS=>?_
  ·rw[hbool]
   have hK1:g.K (w.setCell ⟨(vs i).e,0,none⟩ (.bool true)):=⟨fun a u p=>(hK a u p).setCell (.inl (by have:=ok.ok.low a u p;have:=hv.he;simp only;omega)) rfl,hK.an.setCell rfl _⟩
   have hbr:=ok.ok.brlow (by omega)
   have hst:g.st i<g.top:=ok.ok.low _ _ (.gate i hin)
   have h1:=hv.he
   refine p05 hv (p06 rfl hK1 hv.hx hv.hi hv.he (hv.x.setCell (.inl hv.ex) rfl) (hv.i.setCell (.inl hv.ei) rfl) hv.e.put ((H.brk i hin).imp fun b h=>h.setCell (.inl (by simp only;omega)) rfl) ?_ ?_)
   ·have:=H.over i hin
    rw[hov]at this
    exact this.setCell (.inl (by simp only;omega)) rfl
   ·intro t3 t4 t5 t6 t7 t8 t9 t10 t11 t12 t13 t14 t15 t16 t17 t18 t19 t20 t21 t22 t23 t24 t25 t26 t27 t28 t29 t30 t31 t32 t33 t34 t35 t36 t37
    have H2:=H.ended zok hin hA
    have hK2:g.K (d0V g i (w.setCell ⟨(vs i).e,0,none⟩ (.bool true))):=⟨fun a u p=>(Z4.ended H hA).lies a u (hK a u p) (H.nplace a u p) (by
     by_cases e:a.block=g.st i
     ·exact .inr (by have:=ok.ok.stt i a u hin p e.symm;omega)
     ·exact .inl e) (by have:=ok.ok.low a u p;omega) (.inl fun e=>ok.ok.free a u p e.symm),(((hK.an.setCell rfl _).alloc _).setCell rfl _).setCell rfl _⟩
    have hx2:=(Z4.ended H hA).lies _ _ hv.x (H.nvars i hA).1 (.inl (by have:=hv.hx;simp only;omega)) (by have:=hv.ex;simp only;omega) (.inl (by have:=hv.hx;simp only;omega))
    refine i02 hK2 hx2 _ _ _ _ _ _ _ _ _ _ _ _ _ _ _ _ _ _ _ _ _ _ _ _ _ _ _ _ _ _ _ _ _ _ _ (.stop fun d=>⟨⟨d,rfl⟩,?_⟩)
    exact e0P (.inl rfl) rfl rfl rfl _ _ _ _ _ _ _ _ _ _ _ _ _ _ _ _ _ _ _ _ _ _ _ _ _ _ _ _ _ _ _ _ _ _ _
  ·obtain⟨⟨d1,e1⟩,hgv⟩:=hS d
   rw[e1]at hgv ⊢
   refine a09 (Inb':=E7 Z g s0 (fun j=>A j && (j != i || Z.liv y i)) vs (some (R1 g gm)) y) (j:=0) (s:=R1 g gm) (kk:=0) hKat (fun w j s c cap buf cl a b tm e hc h=>?_) (by omega) (by omega) (by rw[hI 0 (by omega)];rfl) e0Y (by rw[hbool];exact hgv) (fun j hj=>by rw[eI,if_neg hj,hI j hj]) (.inr ?_) (fun g' hS=>?_) (fun g₂ d2 k cap hh hc=>?_)
   ·by_cases ej:j=s0+i
    ·subst ej
     exact b0M (.inr ⟨i,hin,hIh _ _ e hc⟩) _ _ _ _ _ _ _ h
    ·rw[hI j ej]at e
     rcases c0u hAn hms e with⟨rfl,e2⟩|⟨h0,h1,h2,h3⟩
     ·exact b0M (.inl (hms _ e2 _ hc)) _ _ _ _ _ _ _ h
     ·exact b0M (.inr ⟨j - s0,by omega,h3 _ hc⟩) _ _ _ _ _ _ _ h
   ·rw[eI,if_pos rfl]
   ·exact .inr ⟨by rw[eI,if_pos rfl],by omega,_,hS⟩
   ·obtain rfl:g₂=gm:=hh
    have H1:=(((H.ended zok hin hA).at zok d1).chan zok (.inl rfl:g.Chan g.bk) d2 cap (k+1))
    refine hk _ ?_ ?_
    ·have e1:(fun j=>if j=i then !Z.liv y i else ov j)=(fun j=>if j=i then true else ov j):=by funext j;by_cases e:j=i<;>simp[e,hl]
     rw[e1]
     exact H1.mono fun j hj=>by simpa [hl]using hj
    ·exact(Z4.ended H hA).trans (Z4.chan (H.ended zok hin hA) (.inl rfl) d2 cap (k+1))
end
section
open Go.ConcN (sumTo upd sumTo_upd upd_ne upd_same)
variable{g:M1}{F:Fz}{Z:C4}{A:Nat→Bool}{vs:Nat→V5}{N:Nat→Prop}{ov:Nat→Bool}{x y:Z.X}{w w':World}{s0 nn:Nat}{Gl:Machine→Trace→Prop}
theorem s0M{P:Program}{main:Bool}{Stop:Goroutine→World→Prop}{a:Goroutine}{w00 w:World}(h:J0 P main F Stop a w):Gd F w00 w→J0 P main F (fun g' w'=>Gd F w00 w'∧Stop g' w') a w:=by
 induction h with
 | stop h=>exact fun hg=>.stop fun d=>⟨p0b hg d,h d⟩
 | step' hr g' w' es hs hg _ ih=>exact fun h0=>.step' hr g' w' es hs hg fun d=>ih d (h0.trans (by obtain⟨j,hj⟩:=(hg d).1;exact Gd.of_grew hj))
theorem e05{P:Program}{main:Bool}{Stop:Goroutine→World→Prop}{a:Goroutine}{w:World}(h:J0 P main F Stop a w):J0 P main F (fun g' w'=>Gd F w w'∧Stop g' w') a w:=s0M h (Gd.refl F w)
theorem a0D:∀w d,g.K w→g.K (w.at d):=fun w d h=>h.at d
theorem g0a{ms:Option Seat}{x y:Z.X}{vs vs':Nat→V5}{A A':Nat→Bool}{i:Nat}(h:∀j,j≠i→A j=A' j∧Z.fr x j=Z.fr y j∧vs j=vs' j):∀j,j≠s0+i→E7 Z g s0 A vs ms x j=E7 Z g s0 A' vs' ms y j:=by
 intro j hj
 unfold E7
 by_cases h0:j=0
 ·rw[if_pos h0,if_pos h0]
 ·rw[if_neg h0,if_neg h0]
  by_cases h1:s0≤j
  ·obtain⟨e1,e2,e3⟩:=h (j - s0) (by omega)
   rw[e1,e2,e3]
  ·rw[if_neg (fun h=>h1 h.1),if_neg (fun h=>h1 h.1)]
theorem e0O{ms:Option Seat}{i:Nat}(hs0:0<s0)(hA:A i=true):E7 Z g s0 A vs ms x (s0+i)=some (Z7 g i (Z.fr x i++[rf g i (vs i) (.func (.func Z.fid) #[] (Z.cap i)),w9])):=by
 unfold E7
 rw[if_neg (by omega),if_pos ⟨by omega,by simpa using hA⟩]
 simp
theorem r0Y{v:Value}{us cs:List Frame}(h:us≠[]):∃u us',us=u::us'∧back v (us++cs)=G (u.finish v) (us'++cs):=by
 cases us with
 | nil=>exact absurd rfl h
 | cons u us'=>exact⟨u,us',rfl,rfl⟩
theorem p0d [ok:Fits g] (hAn:∀j,A j=true→j<g.n){gm:Goroutine}:∀w i s c cap buf cl a b tm,E7 Z g s0 A vs (some (R1 g gm)) x i=some s→s.has c→g.K w→g.K (w.setChan c cap buf cl a b tm):=by
 intro w j s c cap buf cl a b tm e hc h
 rcases c0u hAn (fun s e c hc=>by cases e;exact Seat.one_has.1 hc) e with⟨rfl,e2⟩|⟨h0,h1,h2,h3⟩
 ·cases e2
  exact b0M (.inl (Seat.one_has.1 hc)) _ _ _ _ _ _ _ h
 ·exact b0M (.inr ⟨j - s0,by omega,h3 _ hc⟩) _ _ _ _ _ _ _ h
theorem f0v [ok:Fits g] (hAn:∀j,A j=true→j<g.n)(hs0:0<s0){Al:Nat→Prop}(H:TI Z g Al vs N ov x w){ms:Option Seat}{gm a:Goroutine}
 (h:e8 Tryd.prog g.K g.Still g.top Gl (E7 Z g s0 A vs (some (R1 g gm)) x) 0 nn a w):e8 Tryd.prog g.K g.Still g.top Gl (E7 Z g s0 A vs ms x) 0 nn a w:=by
 refine f0w (R1 g gm) (Seat.one_wf _ _ _ _) (fun j s' c hj e hc hc2=>?_) (fun c hc=>?_) (fun c hc=>?_) ?_
 ·obtain rfl:=Seat.one_has.1 hc2
  unfold E7 at e
  rw[if_neg hj]at e
  split at e
  ·rename_i h1
   cases e
   exact ok.ok.bk _ (hAn _ h1.2) (Seat.one_has.1 hc).symm
  ·cases e
 ·obtain rfl:=Seat.one_has.1 hc
  exact H.chans _ (.inl rfl)
 ·obtain rfl:=Seat.one_has.1 hc
  exact ok.ok.clow _ (.inl rfl)
 ·have e:upd (E7 Z g s0 A vs ms x) 0 (some (R1 g gm))=E7 Z g s0 A vs (some (R1 g gm)) x:=by
   funext j
   by_cases e:j=0
   ·subst e;rw[upd_same];rfl
   ·rw[upd_ne _ _ e];unfold E7;rw[if_neg e,if_neg e]
  rw[e];exact h
theorem r0A [ok:Fits g] (zok:Z.Ok g)(hs0:0<s0)(hAn:∀j,A j=true→j<g.n∧s0+j<nn){i:Nat}(hA:A i=true)(hl:Z.liv x i=true)(H:TI Z g (fun j=>A j=true) vs N ov x w)(hov:ov i=false){ms:Option Seat}{gm a:Goroutine}{nh:Nat}
 (hgv:AtGive Tryd.prog true g.Still g.top (g.pc i) (.bool true) (fun b=>Sits Tryd.prog true g.K g.Still g.top (R1 g gm) nh b) a w)
 (hk:∀y w',Z.stp x i y→TI Z g (fun j=>(A j && (j != i || Z.liv y i))=true) vs N (fun j=>if j=i then !Z.liv y i else ov j) y w'→Z4 g N vs i w w'→
   e8 Tryd.prog g.K g.Still g.top Gl (E7 Z g s0 (fun j=>A j && (j != i || Z.liv y i)) vs (some (R1 g gm)) y) 0 nn (Go.Conc.served gm (.agg #[])) w'):
 e8 Tryd.prog g.K g.Still g.top Gl (E7 Z g s0 A vs ms x) 0 nn a w:=by
 have hAn':∀j,A j=true→j<g.n:=fun j h=>(hAn j h).1
 obtain⟨hin,hnn⟩:=hAn i hA
 have hiH:Has g i:=⟨hin⟩
 refine f0v (gm:=gm) hAn' hs0 H ?_
 refine a09 (Inb':=E7 Z g s0 A vs (some (R1 g gm)) x) (j:=s0+i) (kk:=0) a0D (p0d hAn') (by omega) hnn (e0O hs0 hA) e0Y hgv (fun _ _=>rfl) (.inl rfl) (fun g' hS=>.inl ⟨R1 g gm,nh,rfl,hS⟩) (fun g₂ d k cap hh hc=>?_)
 obtain rfl:g₂=_:=hh
 have hc1:g.Chan (g.pc i):=.inr ⟨i,hin,rfl⟩
 have H1:=H.chan zok hc1 d cap (k+1)
 have k1:Z4 g N vs i w ((w.at d).setChan (g.pc i) cap #[] false (k+1) (k+1) false):=Z4.chan H hc1 d cap (k+1)
 refine U3 fun _ hK1 _=>?_
 clear hK1
 generalize (w.at d).setChan (g.pc i) cap #[] false (k+1) (k+1) false=w1 at*
 show e8 _ _ _ _ _ _ _ _ (Go.Conc.served (b0S g i (Z.fr x i++[rf g i (vs i) (.func (.func Z.fid) #[] (Z.cap i)),w9])) (.bool true)) w1
 obtain⟨hne,hpl⟩:=zok.plain x i hl
 have hgo:=zok.go x i hin hl (FT N w1) w1 (rf g i (vs i) (.func (.func Z.fid) #[] (Z.cap i))) [w9] H1.u (l0A w1) (fun r hr=>d0Z (H1.apart r hr))
 obtain⟨u,us',e1,e2⟩:=r0Y (v:=.tuple #[]) (cs:=[rf g i (vs i) (.func (.func Z.fid) #[] (Z.cap i)),w9]) hne
 rw[e2]at hgo
 rw[e1]
 have hfalse:(s0+i == 0)=false:=by simp;omega
 refine U3 fun _ hK1 _=>?_
 have hpl1:∀a v,g.Place a v→held (FT N w1) a:=fun a v p=>b0h (hK1 a v p) (H1.nplace a v p)
 refine I6 (F:=FT N w1) a0D (M1.covers hpl1) (fun w w' hg h=>h.gd hpl1 hg) (by rw[hfalse];exact e05 (k0v hgo)) fun g' w0 d' hS=>?_
 obtain⟨hg,y,hsy,hU,hR,hto⟩:=hS d'
 have H2:=H1.user hU hR hg
 refine j0H zok hs0 hin hAn' (gm:=gm) (g0a fun j hj=>⟨rfl,(zok.stpO x i y j hsy hj).2.symm,rfl⟩) (fun s c e hc=>?_) H2 hA hov hto fun w' H3 k3=>hk y w' hsy H3 ((k1.trans (Z4.gd hg)).trans k3)
 rw[e0O hs0 hA]at e
 cases e
 exact Seat.one_has.1 hc
theorem r0y [ok:Fits g] (zok:Z.Ok g)(hs0:0<s0)(hAn:∀j,A j=true→j<g.n∧s0+j<nn){i:Nat}(hA:A i=true)(hl:Z.liv x i=true)(H:TI Z g (fun j=>A j=true) vs N ov x w)(hov:ov i=false){ms:Option Seat}{gm a:Goroutine}{nh:Nat}
 (hgv:AtGive Tryd.prog true g.Still g.top (g.pc i) (.bool false) (fun b=>Sits Tryd.prog true g.K g.Still g.top (R1 g gm) nh b) a w)
 (hk:∀w',TI Z g (fun j=>(A j && j != i)=true) vs N (fun j=>if j=i then true else ov j) x w'→Z4 g N vs i w w'→
   e8 Tryd.prog g.K g.Still g.top Gl (E7 Z g s0 (fun j=>A j && j != i) vs (some (R1 g gm)) x) 0 nn (Go.Conc.served gm (.agg #[])) w'):
 e8 Tryd.prog g.K g.Still g.top Gl (E7 Z g s0 A vs ms x) 0 nn a w:=by
 have hAn':∀j,A j=true→j<g.n:=fun j h=>(hAn j h).1
 obtain⟨hin,hnn⟩:=hAn i hA
 have hiH:Has g i:=⟨hin⟩
 refine f0v (gm:=gm) hAn' hs0 H ?_
 refine a09 (Inb':=E7 Z g s0 A vs (some (R1 g gm)) x) (j:=s0+i) (kk:=0) a0D (p0d hAn') (by omega) hnn (e0O hs0 hA) e0Y hgv (fun _ _=>rfl) (.inl rfl) (fun g' hS=>.inl ⟨R1 g gm,nh,rfl,hS⟩) (fun g₂ d k cap hh hc=>?_)
 obtain rfl:g₂=_:=hh
 have hc1:g.Chan (g.pc i):=.inr ⟨i,hin,rfl⟩
 have H1:=H.chan zok hc1 d cap (k+1)
 have k1:Z4 g N vs i w ((w.at d).setChan (g.pc i) cap #[] false (k+1) (k+1) false):=Z4.chan H hc1 d cap (k+1)
 generalize (w.at d).setChan (g.pc i) cap #[] false (k+1) (k+1) false=w1 at*
 show e8 _ _ _ _ _ _ _ _ (Go.Conc.served (b0S g i (Z.fr x i++[rf g i (vs i) (.func (.func Z.fid) #[] (Z.cap i)),w9])) (.bool false)) w1
 obtain⟨hne,hpl⟩:=zok.plain x i hl
 have hfalse:(s0+i == 0)=false:=by simp;omega
 refine U3 fun _ hK1 _=>?_
 have hv:=H1.vars i hA
 have cv:=M1.covers (F:=FK g) (fun a v p=>L9 ok.ok p)
 have hgK:∀w w',Gd (FK g) w w'→g.K w→g.K w':=fun w w' hg h=>h.gd (fun a v p=>L9 ok.ok p) hg
 have H2:=H1.killed zok hin hA
 have hst:g.st i<g.top:=ok.ok.low _ _ (.gate i hin)
 have hbr:=ok.ok.brlow (by omega)
 have eI:∀j,E7 Z g s0 (fun j=>A j && j != i) vs (some (R1 g gm)) x j=if j=s0+i then none else E7 Z g s0 A vs (some (R1 g gm)) x j:=fun j=>by
  unfold E7
  by_cases e:j=s0+i
  ·subst e
   rw[if_neg (by omega),if_neg (fun h=>by have:=h.2;simp at this),if_pos rfl]
  ·rw[if_neg e]
   by_cases h0:j=0
   ·simp[h0]
   ·rw[if_neg h0,if_neg h0]
    by_cases h1:s0≤j
    ·have:(j - s0 != i)=true:=by simp;omega
     simp[this]
    ·rw[if_neg (fun h=>h1 h.1),if_neg (fun h=>h1 h.1)]
 refine I6 (F:=FK g) (Stop:=fun a' w'=>(∃d,w'=(a0y g i w1).at d)∧AtGive Tryd.prog false g.Still g.top g.bk (.agg #[]) (fun x=>QuitsD Tryd.prog 6 0 x) a' w') a0D cv hgK ?_ fun g' w0 d' hS=>?_
 ·rw[hfalse]
  have ho:=H1.over i hin
  rw[hov]at ho
  refine p09 hpl hK1 (n0Q hK1 hv ho ?_)
  intro t3 t4 t5 t6 t7 t8 t9 t10 t11 t12 t13 t14 t15 t16 t17 t18 t19 t20 t21 t22 t23 t24 t25 t26 t27 t28 t29 t30 t31 t32 t33 t34 t35 t36 t37
  have hK2:g.K (a0y g i w1):=⟨fun a u p=>(Z4.killed (g:=g) (vs:=vs) (N:=N) (i:=i) (w:=w1)).lies a u (hK1 a u p) (H1.nplace a u p) (by
   by_cases e:a.block=g.st i
   ·exact .inr (by have:=ok.ok.stt i a u hin p e.symm;omega)
   ·exact .inl e) (by have:=ok.ok.low a u p;have:=hv.he;omega) (.inl fun e=>ok.ok.free a u p e.symm),(hK1.an.alloc _).setCell rfl _⟩
  have hx2:=(Z4.killed (g:=g) (vs:=vs) (N:=N) (i:=i) (w:=w1)).lies _ _ hv.x (H1.nvars i hA).1 (.inl (by have:=hv.hx;simp only;omega)) (by have:=hv.ex;simp only;omega) (.inl (by have:=hv.hx;simp only;omega))
  refine i02 hK2 hx2 _ _ _ _ _ _ _ _ _ _ _ _ _ _ _ _ _ _ _ _ _ _ _ _ _ _ _ _ _ _ _ _ _ _ _ (.stop fun d=>⟨⟨d,rfl⟩,?_⟩)
  exact e0P (.inr ⟨_,rfl,rfl⟩) rfl rfl rfl _ _ _ _ _ _ _ _ _ _ _ _ _ _ _ _ _ _ _ _ _ _ _ _ _ _ _ _ _ _ _ _ _ _ _
 ·obtain⟨⟨d1,e1⟩,hgv⟩:=hS d'
  rw[e1]at hgv ⊢
  refine a09 (Inb':=E7 Z g s0 (fun j=>A j && j != i) vs (some (R1 g gm)) x) (j:=0) (s:=R1 g gm) (kk:=0) a0D (p0d hAn') (by omega) (by omega) rfl e0Y (by rw[hfalse];exact hgv) (fun j hj=>by rw[eI,if_neg hj]) (.inr (by rw[eI,if_pos rfl])) (fun g' hS=>.inr ⟨by rw[eI,if_pos rfl],by omega,_,hS⟩) (fun g₂ d2 k cap hh hc=>?_)
  obtain rfl:g₂=gm:=hh
  have H3:=((H2.at zok d1).chan zok (.inl rfl:g.Chan g.bk) d2 cap (k+1))
  exact hk _ (H3.mono fun j hj=>by simpa using hj) ((k1.trans Z4.killed).trans (Z4.chan H2 (.inl rfl) d2 cap (k+1)))
end
section
open Go.ConcN (sumTo upd sumTo_upd upd_ne upd_same)
variable{g:M1}{F:Fz}{Z:C4}{A:Nat→Bool}{vs:Nat→V5}{N:Nat→Prop}{ov:Nat→Bool}{x y:Z.X}{w w':World}{s0 nn:Nat}{Gl:Machine→Trace→Prop}
theorem i0K(N:Nat→Prop)(w:World):i2 (FT N w) w.heap.size:=by
 intro r z h
 unfold FT at h
 split at h
 ·rename_i c e heq
  exact(Q3 heq)
 ·cases h
def N9(N:Nat→Prop)(w:World):Nat→Prop:=fun r=>N r∨r=w.heap.size∨r=w.heap.size+1∨r=w.heap.size+2
def v6(vs:Nat→V5)(i:Nat)(w:World):Nat→V5:=fun j=>if j=i then⟨w.heap.size,w.heap.size+2,w.heap.size+1⟩else vs j
theorem o0b [ok:Fits g] (zok:Z.Ok g)(hs0:0<s0){i:Nat}(hin:i<g.n)(hnw:Z.nw x i)(hnn:nn=s0+i)(hAn:∀j,A j=true→j<i)(H:TI Z g (fun j=>A j=true) vs N ov x w)(hov:ov i=false)(ht:g.top≤w.heap.size){ms:Option Seat}{gm a a':Goroutine}{nh:Nat}(hrun:a.status= .running)
 (hgo:∀d,stepG Tryd.prog true a (w.at d)= .spawn a' (born Tryd.prog (C8 g i (.func (.func Z.fid) #[] (Z.cap i)))) (w.at d) #[]) (hsit:Sits Tryd.prog true g.K g.Still g.top (R1 g gm) nh a')
 (hk:∀y w',Z.bor x i y→TI Z g (fun j=>((A j || j == i) && (j != i || Z.liv y i))=true) (v6 vs i w) (N9 N w) (fun j=>if j=i then !Z.liv y i else ov j) y w'→Z4 g (N9 N w) (v6 vs i w) i w w'→
   e8 Tryd.prog g.K g.Still g.top Gl (E7 Z g s0 (fun j=>(A j || j == i) && (j != i || Z.liv y i)) (v6 vs i w) (some (R1 g gm)) y) 0 (nn+1) (Go.Conc.served gm (.agg #[])) w'):
 e8 Tryd.prog g.K g.Still g.top Gl (E7 Z g s0 A vs ms x) 0 nn a w:=by
 have hAn':∀j,A j=true→j<g.n:=fun j h=>by have:=hAn j h;omega
 have hAi:A i=false:=by
  cases e:A i with
  | false=>rfl
  | true=>have:=hAn i e;omega
 have hiH:Has g i:=⟨hin⟩
 have hfalse:(s0+i == 0)=false:=by simp;omega
 refine f0v (gm:=gm) hAn' hs0 H ?_
 have hnone:E7 Z g s0 A vs (some (R1 g gm)) x (s0+i)=none:=by
  unfold E7
  rw[if_neg (by omega),if_neg (fun h=>by have:=h.2;simp[hAi]at this)]
 refine f0R (Inb':=E7 Z g s0 A vs (some (R1 g gm)) x) a0D hrun hgo (by simp) (by rw[hnn];exact hnone) (fun _ _=>rfl) (.inl rfl) (.inl ⟨R1 g gm,nh,rfl,hsit⟩) (fun d=>?_)
 subst hnn
 have Hd:=H.at zok d
 have htd:g.top≤(w.at d).heap.size:=ht
 have esz:(w.at d).heap.size=w.heap.size:=rfl
 have k0:Z4 g (N9 N w) (v6 vs i w) i w (w.at d):=Z4.at _ _
 have eN:N9 N w=N9 N (w.at d):=rfl
 have eV:v6 vs i w=v6 vs i (w.at d):=rfl
 rw[eN,eV]at hk k0
 clear eN eV esz
 suffices hmain:∀w1:World,TI Z g (fun j=>A j=true) vs N ov x w1→g.top≤w1.heap.size→(∀y w',Z.bor x i y→TI Z g (fun j=>((A j || j == i) && (j != i || Z.liv y i))=true) (v6 vs i w1) (N9 N w1) (fun j=>if j=i then !Z.liv y i else ov j) y w'→Z4 g (N9 N w1) (v6 vs i w1) i w1 w'→
  e8 Tryd.prog g.K g.Still g.top Gl (E7 Z g s0 (fun j=>(A j || j == i) && (j != i || Z.liv y i)) (v6 vs i w1) (some (R1 g gm)) y) 0 (s0+i+1) (Go.Conc.served gm (.agg #[])) w')→
  e8 Tryd.prog g.K g.Still g.top Gl (E7 Z g s0 A vs (some (R1 g gm)) x) (s0+i) (s0+i+1) (born Tryd.prog (C8 g i (.func (.func Z.fid) #[] (Z.cap i)))) w1 from
  hmain (w.at d) Hd htd fun y w' h0 h1 h2=>hk y w' h0 h1 (k0.trans h2)
 clear hk k0 Hd htd hgo hrun hsit H ht
 intro w1 H ht hk
 refine U3 fun _ hK1 _=>?_
 have hpl1:∀a v,g.Place a v→held (FT N w1) a:=fun a v p=>b0h (hK1 a v p) (H.nplace a v p)
 refine I6 (F:=FT N w1) (Stop:=fun b w2=>b=G ((baseD 65).at ⟨#[vP g.tb 0,vI i,.func (.func Z.fid) #[] (Z.cap i),vP w1.heap.size 0,vP (w1.heap.size+1) 0,undef,vP (w1.heap.size+2) 0,g0l ⟨w1.heap.size,w1.heap.size+2,w1.heap.size+1⟩,
  undef,undef,undef,undef,undef,undef,undef,undef,undef,undef,undef,undef],[a0Q ⟨w1.heap.size,w1.heap.size+2,w1.heap.size+1⟩]⟩ [.code F8]) [w9]∧∃d,w2=(R4 g i w1).at d) a0D (M1.covers hpl1) (fun w w' hg h=>h.gd hpl1 hg)
  (by rw[hfalse];exact s0O (i0K N w1) (Nat.le_refl _) (.stop fun d=>⟨rfl,d,rfl⟩)) fun g' w0 d' hS=>?_
 obtain⟨rfl,d2,e2⟩:=hS d'
 rw[e2]
 have H2:=((H.made zok hin (fun j hj e=>by subst e;rw[hAi]at hj;cases hj) ht).at zok d2)
 have k2:Z4 g (N9 N w1) (v6 vs i w1) i w1 ((R4 g i w1).at d2):=⟨by simp[R4,size_at'];omega,fun a v h _ _ _ _=>(((h.alloc _).alloc _).alloc _).at d2,fun r c e z h _ _ _ _=>by
  have hlt:=(Q3 h)
  show(R4 g i w1).heap[r]? =_
  unfold R4
  rw[D0 _ _ (by simp;omega),D0 _ _ (by simp;omega),D0 _ _ hlt]⟩
 have hv:a0H g i (v6 vs i w1 i) ((R4 g i w1).at d2):=H2.vars i (.inr rfl)
 have evi:v6 vs i w1 i=⟨w1.heap.size,w1.heap.size+2,w1.heap.size+1⟩:=if_pos rfl
 change TI Z g (fun j=>A j=true∨j=i) (v6 vs i w1) (N9 N w1) ov x ((R4 g i w1).at d2)at H2
 generalize (R4 g i w1).at d2=w3 at*
 rw[← evi]
 show e8 _ _ _ _ _ _ _ _ (G ((baseD 65).at ⟨#[vP g.tb 0,vI i,.func (.func Z.fid) #[] (Z.cap i),vP w1.heap.size 0,vP (w1.heap.size+1) 0,undef,vP (w1.heap.size+2) 0,g0l (v6 vs i w1 i),
  undef,undef,undef,undef,undef,undef,undef,undef,undef,undef,undef,undef],[a0Q (v6 vs i w1 i)]⟩ [.code F8]) [w9]) w3
 have ex:w1.heap.size=(v6 vs i w1 i).x:=by rw[evi]
 have ei:w1.heap.size+1=(v6 vs i w1 i).i:=by rw[evi]
 have ee:w1.heap.size+2=(v6 vs i w1 i).e:=by rw[evi]
 rw[ei,ee,ex]
 generalize hNN:N9 N w1=NN at*
 generalize hVV:v6 vs i w1=VV at*
 refine U3 fun _ hK3 _=>?_
 have hpl3:∀a v,g.Place a v→held (FT NN w3) a:=fun a v p=>b0h (hK3 a v p) (H2.nplace a v p)
 have hborn:=zok.born x i hin hnw (FT NN w3) w3 (rf g i (VV i) (.func (.func Z.fid) #[] (Z.cap i))) [w9] H2.u (l0A w3) (fun r hr=>d0Z (H2.apart r hr))
 refine I6 (F:=FT NN w3) a0D (M1.covers hpl3) (fun w w' hg h=>h.gd hpl3 hg) (by rw[hfalse];exact e05 (q0c zok.call hK3 hv hborn)) fun g' w0 d' hS=>?_
 obtain⟨hg,y,hby,hU,hR,hto⟩:=hS d'
 have H3:=H2.user hU hR hg
 refine j0H (A:=fun j=>A j || j == i) zok hs0 hin (fun j hj=>?_) (gm:=gm) (g0a fun j hj=>⟨by simp[hj],(zok.borO x i y j hby hj).2.symm,?_⟩) (fun s c e hc=>by rw[hnone]at e;cases e) (H3.mono fun j hj=>by simpa using hj) (by simp) hov hto fun w' H4 k4=>hk y w' hby H4 ((k2.trans (Z4.gd hg)).trans k4)
 ·simp only[Bool.or_eq_true,beq_iff_eq]at hj
  rcases hj with hj|rfl
  ·exact hAn' j hj
  ·exact hin
 ·rw[← hVV];simp[v6,hj]
end
end Go.Proofs.YtlcgkpapnpdfpaaDoor
