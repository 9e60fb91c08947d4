/-
  BitsClaims: whatever the schedule, a number is claimed by one thread alone
  Part 3 of 4.
-/
import Derived.Test.YtlcgkpapnpdfpaaDoorZB
import Derived.Deep.RegionLaw
import Derived.Deep.RegionLawGrows
import Derived.Deep.DeepAppendRoom
import Derived.ArgAppend
set_option linter.unusedSimpArgs false
set_option linter.unusedVariables false
set_option linter.unusedSectionVars false
set_option maxRecDepth 100000
set_option maxHeartbeats 8000000
namespace Go.Proofs.YtlcgkpapnpdfpaaDoor
open Go Go.Conc Go.RowKit Go.Proofs
noncomputable section
variable{F:Fz}{w:World}
structure BH(lb wb n m:Nat)(w:World):Prop where
 c0:w.cell? ⟨lb,0,none⟩=some (vI (n:Nat))
 c1:w.cell? ⟨lb,1,none⟩=some (vL wb 0 m m)
 hm:m=(n+63) / 64
 hn:n≤65536
theorem BH.at{lb wb n m:Nat}{w:World}(h:BH lb wb n m w)(d:Nat):BH lb wb n m (w.at d):=⟨h.c0,h.c1,h.hm,h.hn⟩
@[go_sem] theorem s03(a:Addr)(w:World)(es:Array Event):(binOp .eql 33 (.pointer (some a)) (.pointer none)).events Tryd.prog w es=es:=by kernel_rfl
@[go_sem] theorem r0k(w:World)(es:Array Event):(binOp .eql 33 (.pointer none) (.pointer none)).events Tryd.prog w es=es:=by kernel_rfl
@[go_sem] theorem x0Z(b c:Bool)(w:World)(es:Array Event):(binOp .eql 4 (.bool b) (.bool c)).events Tryd.prog w es=es:=by
 cases b<;>cases c<;>kernel_rfl
def i4:Code:=Tryd.f17.body.getD .skip
def v0f:=pC [] i4
def e0X:=pC [zt] i4
def g0G:=pC [zf] i4
def j0y:=pC [zt] g0G
def e0Y:=pC [zf,zt,zt] i4
def j0w:=pC [zf] j0y
def v0g:=pC [zt] j0w
def m0x:=pC [zf] g0G
def j0x:=pC [zf,zf,zt] i4
theorem b0K(args:Array Value):Frame.enter Tryd.prog 17 args .normal=(Go.Conc.base 17).at {tmps:=args++Array.replicate (9 - args.size) undef,defers:=[]} [.code v0f]:=enter_at args Tryd.func17 rfl
theorem X6:X0 17:=G1 Tryd.func17 rfl rfl
theorem Y7{lb wb n m:Nat}(hs:BH lb wb n m w){c:Frame}{cs:List Frame}{main:Bool}{Stop:Goroutine→World→Prop}
 (h:E0 Tryd.prog main F Stop (G (c.finish (vI (n:Nat))) cs) w):
 E0 Tryd.prog main F Stop (G (Frame.enter Tryd.prog 17 #[vP lb 0] .normal) (c::cs)) w:=by
 have c0:=hs.c0
 rw[b0K]
 walk_nrm
 refine ogW e0X g0G ?_
 simp only[e0X,i4,Tryd.f17,zz,Nat.reduceAdd]
 refine oT ?_
 refine I0<|ogV j0y m0x<|ogW e0Y j0w ?_
 simp only[e0Y,i4,Tryd.f17,zz,Nat.reduceAdd]
 iterate 2 refine oT ?_
 refine I0<|ogGn .skip<|ogK<|ogW j0x .ret ?_
 simp only[j0x,i4,Tryd.f17,zz,Nat.reduceAdd]
 iterate 3 refine oT ?_
 refine oL ?_
 refine oT ?_
 refine I0<|ogX ?_
 refine G0 rfl (fun d=>stepG_leave (fn:=Tryd.f17) (v:=vI (n:Nat)) rfl rfl Tryd.func17 (by simp[results,Tryd.f17]) (by simp[results,Tryd.f17,go_sem])) ?_
 exact h
end
section
variable{P:Program}{main:Bool}{F:Fz}{fn:FuncId}{ops:Array Oper}{S:World→Prop}{last:Nat}{Z:Act→World→Prop}
def Callee(P:Program)(main:Bool)(F:Fz)(f:FuncId)(args:Array Value)(Post:Value→World→Prop)(w:World):Prop:=
 ∀(c:Frame) (cs:List Frame) (Stop:Goroutine→World→Prop),(∀v w',Post v w'→E0 P main F Stop (G (c.finish v) cs) w')→E0 P main F Stop (G (Frame.enter P f args .normal) (c::cs)) w
def OpC(P:Program)(main:Bool)(F:Fz)(fn:FuncId)(ops:Array Oper)(i:Nat)(K:Act→World→Prop)(a:Act)(w:World):Prop:=
 ∃o,ops[i]? =some o∧((Region.wanted o (yielded ops a.tmps)=true∧∀d,uponK o a (fun a' w'=>H5 F (w.at d) w' (listed P fn a o (w.at d))∧K a' w') ((execOp a.eval o).run P (w.at d)))∨
  (Region.wanted o (yielded ops a.tmps)=false∧K (a.put o.dst undef) w)∨
  (Region.wanted o (yielded ops a.tmps)=true∧∃f args Post,(∀w,(execOp a.eval o).run P w= .ok (.enter f args) w)∧(∀w,(execOp a.eval o).events P w #[]= #[])∧Callee P main F f args Post w∧∀v w',Post v w'→K (a.put o.dst v) w'))
def E5(P:Program)(main:Bool)(F:Fz)(fn:FuncId)(ops:Array Oper)(S:World→Prop)(last:Nat)(Z:Act→World→Prop):Nat→Array Bool→Act→World→Prop
 | 0,listed,a,w=>((∀j∈Region.ready .any ops listed,j=last)→Z a w)∧∀j∈Region.ready .any ops listed,j=last
 | fuel+1,listed,a,w=>((∀j∈Region.ready .any ops listed,j=last)→Z a w)∧∀i∈Region.ready .any ops listed,i≠last→OpC P main F fn ops i (fun a w=>S w∧E5 P main F fn ops S last Z fuel (listed.setIfInBounds i true) a w) a w
theorem c0P{i:Nat}{a:Act}{w:World}{K K':Act→World→Prop}(h:∀a w,K a w→K' a w)(hh:OpC P main F fn ops i K a w):OpC P main F fn ops i K' a w:=by
 obtain⟨o,h1,⟨h2,h3⟩|⟨h2,h3⟩|⟨h2,f,args,Post,r1,r2,r3,r4⟩⟩:=hh
 ·exact⟨o,h1,.inl ⟨h2,fun d=>e0b (fun u w ⟨x,y⟩=>⟨x,h _ _ y⟩) (h3 d)⟩⟩
 ·exact⟨o,h1,.inr (.inl ⟨h2,h _ _ h3⟩)⟩
 ·exact⟨o,h1,.inr (.inr ⟨h2,f,args,Post,r1,r2,r3,fun v w' hp=>h _ _ (r4 v w' hp)⟩)⟩
theorem r01{i:Nat}{a:Act}{w:World}{K:Act→World→Prop}(hK:∀a w d,K a w→K a (World.at w d))(h:OpC P main F fn ops i K a w)(d:Nat):OpC P main F fn ops i K a (w.at d):=by
 obtain⟨o,h1,⟨h2,h3⟩|⟨h2,h3⟩|⟨h2,f,args,Post,r1,r2,r3,r4⟩⟩:=h
 ·exact⟨o,h1,.inl ⟨h2,fun d'=>by rw[at_at'];exact h3 d'⟩⟩
 ·exact⟨o,h1,.inr (.inl ⟨h2,hK _ _ _ h3⟩)⟩
 ·exact⟨o,h1,.inr (.inr ⟨h2,f,args,Post,r1,r2,fun c cs Stop k=>(r3 c cs Stop k).at d,r4⟩)⟩
theorem D9(hS:∀w d,S w→S (World.at w d))(hZ:∀a w d,Z a w→Z a (World.at w d)):∀(fuel:Nat) (listed:Array Bool) (a:Act) (w:World),E5 P main F fn ops S last Z fuel listed a w→∀d,E5 P main F fn ops S last Z fuel listed a (w.at d):=by
 intro fuel
 induction fuel with
 | zero=>exact fun listed a w h d=>⟨fun x=>hZ _ _ _ (h.1 x),h.2⟩
 | succ fuel ih=>exact fun listed a w h d=>⟨fun x=>hZ _ _ _ (h.1 x),fun i hi hl=>r01 (fun a w d ⟨x,y⟩=>⟨hS _ _ x,ih _ _ _ y d⟩) (h.2 i hi hl) d⟩
theorem o0K{i j:Nat}{oi oj:Oper}{v:Value}(hj:ops[j]? =some oj)(hap:oi.apart ops oj=true)(hsj:∀cs b,oj.op≠.select cs b){K:Act→World→Prop}{a:Act}{w:World}
 (h:OpC P main F fn ops j K (a.put oi.dst v) w):OpC P main F fn ops j (fun a' w'=>∃u,a'=a.put oj.dst u∧K (a'.put oi.dst v) w') a w:=by
 obtain⟨h1,h2,h3⟩:=Oper.apart_spec hap
 obtain⟨o,ho,hh⟩:=h
 rw[hj]at ho
 cases ho
 have e1:execOp (a.put oi.dst v).eval oj=execOp a.eval oj:=execOp_put oj hsj a oi.dst v h1
 have e2:=wanted_put oj a oi.dst v h1
 refine⟨oj,hj,?_⟩
 unfold listed at*
 rw[e1,e2]at hh
 rcases hh with⟨hw,hh⟩|⟨hw,hh⟩|⟨hw,f,args,Post,r1,r2,r3,r4⟩
 ·refine .inl ⟨hw,fun d=>?_⟩
  have:=hh d
  cases hr:(execOp a.eval oj).run P (w.at d)with
  | halt _ _=>rw[hr]at this;exact this
  | ok x w'=>
    rw[hr]at this
    cases x with
    | value u=>exact⟨this.1,u,rfl,by rw[← Act.put_comm a v u h2];exact this.2⟩
    | skip=>exact⟨this.1,undef,rfl,by rw[← Act.put_comm a v undef h2];exact this.2⟩
    | _=>exact this
 ·exact .inr (.inl ⟨hw,undef,rfl,by rw[← Act.put_comm a v undef h2];exact hh⟩)
 ·exact .inr (.inr ⟨hw,f,args,Post,r1,r2,r3,fun u w' hp=>⟨u,rfl,by rw[← Act.put_comm a v u h2];exact r4 u w' hp⟩⟩)
theorem h0z(hS:∀w d,S w→S (World.at w d))(hZ:∀a w d,Z a w→Z a (World.at w d)){i:Nat}{oi:Oper}{v:Value}(hi:ops[i]? =some oi)(hil:i≠last)(hsel:∀(j:Nat) (o:Oper) cs b,ops[j]? =some o→o.op≠.select cs b):
 ∀(fuel:Nat) (listed:Array Bool) (a:Act) (w:World),S w→
  (∀j oj,ops[j]? =some oj→j≠i→listed.getD j true=false→(∀e∈oj.after,Region.binds .any e=true→e.on≠i)→oi.apart ops oj=true)→
  i∈Region.ready .any ops listed→(∀w,S w→YQ P F fn ops w oi v a)→
  E5 P main F fn ops S last Z fuel (listed.setIfInBounds i true) (a.put oi.dst v) w→E5 P main F fn ops S last Z (fuel+1) listed a w:=by
 have self:∀(fuel:Nat) (listed:Array Bool) (a:Act) (w:World),S w→(∀w,S w→YQ P F fn ops w oi v a)→E5 P main F fn ops S last Z fuel (listed.setIfInBounds i true) (a.put oi.dst v) w→
  OpC P main F fn ops i (fun a w=>S w∧E5 P main F fn ops S last Z fuel (listed.setIfInBounds i true) a w) a w:=by
  intro fuel listed a w hw hy H
  rcases hy w hw with⟨h1,h2⟩|⟨h1,rfl⟩
  ·exact⟨oi,hi,.inl ⟨h1,fun d=>by rw[(h2 d).1];exact⟨⟨⟨0,i3.refl F _⟩,(h2 d).2⟩,hS _ _ hw,D9 hS hZ _ _ _ _ H d⟩⟩⟩
  ·exact⟨oi,hi,.inr (.inl ⟨h1,hw,H⟩)⟩
 intro fuel
 induction fuel with
 | zero=>
   intro listed a w hw _ hr hy H
   refine⟨fun h=>absurd (h i hr) hil,fun j hj hjl=>?_⟩
   by_cases hji:j=i
   ·subst hji;exact self _ _ _ _ hw hy H
   ·exact absurd (H.2 j (ready_mono hj hji)) hjl
 | succ fuel ih=>
   intro listed a w hw hfree hr hy H
   refine⟨fun h=>absurd (h i hr) hil,fun j hj hjl=>?_⟩
   by_cases hji:j=i
   ·subst hji;exact self _ _ _ _ hw hy H
   ·have h1:=H.2 j (ready_mono hj hji) hjl
    obtain⟨hjun,oj,hoj,hall⟩:=mem_ready.1 hj
    have hnot:∀e∈oj.after,Region.binds .any e=true→e.on≠i:=fun e he hb heq=>by
     have h1:=hall e he hb
     have h0:=(mem_ready.1 hr).1
     rw[heq]at h1
     rcases Nat.lt_or_ge i listed.size with h'|h'
     ·simp[h']at h0 h1;rw[h0]at h1;cases h1
     ·simp[Array.getElem?_eq_none h']at h1
    have hap:=hfree j oj hoj hji hjun hnot
    obtain⟨p1,p2,p3⟩:=Oper.apart_spec hap
    have h2:=o0K (i:=i) (oi:=oi) hoj hap (fun cs b=>hsel j oj cs b hoj) h1
    have hfree':∀k ok,ops[k]? =some ok→k≠i→(listed.setIfInBounds j true).getD k true=false→
     (∀e∈ok.after,Region.binds .any e=true→e.on≠i)→oi.apart ops ok=true:=fun k ok hk hki hun hno=>by
     refine hfree k ok hk hki ?_ hno
     by_cases hjk:j=k
     ·subst hjk;exact hjun
     ·rw[getD_set_ne true hjk]at hun;exact hun
    refine c0P (fun a' w' h3=>?_) h2
    obtain⟨u,rfl,hw',h4⟩:=h3
    refine⟨hw',ih (listed.setIfInBounds j true) _ _ hw' hfree' (ready_mono hr (Ne.symm hji)) (fun w hw=>(hy w hw).of_same (execOp_put oi (fun cs b=>hsel i oi cs b hi) a oj.dst u p3) (wanted_put oi a oj.dst u p3)) ?_⟩
    rw[Array.setIfInBounds_comm _ _ hji]
    exact h4
theorem U0(hS:∀w d,S w→S (World.at w d))(hZ:∀a w d,Z a w→Z a (World.at w d)){i:Nat}{oi:Oper}{v:Value}{fuel:Nat}{listed:Array Bool}{a:Act}{w:World}(hw:S w)(hi:ops[i]? =some oi)(hil:(i != last)=true)(hs:Region.noSelect ops=true)(hf:Region.free .any ops listed i=true)
 (hr:(Region.ready .any ops listed).contains i=true) (hy:∀w,S w→YQ P F fn ops w oi v a) (h:E5 P main F fn ops S last Z fuel (listed.setIfInBounds i true) (a.put oi.dst v) w):E5 P main F fn ops S last Z (fuel+1) listed a w:=
 h0z hS hZ hi (by simpa using hil) (Region.noSelect_spec hs) fuel listed a w hw (Region.free_spec hi hf) (by simpa using hr) hy h
theorem L6{listed:Array Bool}{a:Act}{w:World}(hr:Region.ready .any ops listed=[last])(h:Z a w):∀fuel,E5 P main F fn ops S last Z fuel listed a w
 | 0=>⟨fun _=>h,by rw[hr];simp⟩
 | _+1=>⟨fun _=>h,fun i hi hne=>absurd (by rw[hr]at hi;simpa using hi) hne⟩
theorem k0f{Stop:Goroutine→World→Prop}{b:Frame}{a:Act}{w:World}{k:List Item}{cs:List Frame}{i:Nat}{rest:List Nat}(hk:b.kind≠.early)
 (h:OpC P main F b.fn ops i (fun a w=>E0 P main F Stop (G (b.at a (.inRegion ops rest::k)) cs) w) a w):E0 P main F Stop (G (b.at a (.inRegion ops (i::rest)::k)) cs) w:=by
 obtain⟨o,ho,⟨hw,hh⟩|⟨hw,hh⟩|⟨hw,f,args,Post,r1,r2,r3,r4⟩⟩:=h
 ·refine .step rfl fun d=>?_
  have:=hh d
  cases hr:(execOp a.eval o).run P (w.at d)with
  | halt _ _=>rw[hr]at this;exact this.elim
  | ok x w'=>
    rw[hr]at this
    cases x with
    | value u=>exact⟨_,_,_,stepG_value ho hw hk hr,this.1,this.2⟩
    | skip=>exact⟨_,_,_,stepG_none ho hw hk hr,this.1,this.2⟩
    | _=>exact this.elim
 ·exact .step rfl fun d=>⟨_,_,#[],stepG_unwanted ho hw,⟨⟨0,i3.refl F _⟩,by simp⟩,hh.at d⟩
 ·refine j6 ho hw hk r1 r2 (r3 _ _ _ fun v w' hp=>?_)
  have hfin:(b.at a (.inRegion ops (i::rest)::k)).finish v=b.at (a.put o.dst v) (.inRegion ops rest::k):=by rw[Frame.finish_at,ho];rfl
  rw[hfin]
  exact r4 v w' hp
theorem h0A(L:LL ops last){Stop:Goroutine→World→Prop}{b:Frame}{k:List Item}{cs:List Frame}(hk:b.kind≠.early):
 ∀(fuel t:Nat) (listed:Array Bool) (a:Act) (w:World),listed.size=ops.size→a8 ops listed→listed.getD last true=false→
  E5 P main F b.fn ops S last (fun a w=>E0 P main F Stop (G (b.at a (.inRegion ops [last]::k)) cs) w) fuel listed a w→
  E0 P main F Stop (G (b.at a (.inRegion ops (Region.linearise.go .any ops (fuel+1) t listed [])::k)) cs) w:=by
 intro fuel
 induction fuel with
 | zero=>?_
 | succ fuel ih=>?_
 all_goals
  intro t listed a w hs hc hl H
  obtain⟨i0,hi0⟩:=a0N L hs last hl
  have hlen:0<(Region.ready .any ops listed).length:=List.length_pos_of_mem hi0
  obtain⟨i,hi⟩:∃i,(Region.ready .any ops listed)[t % (Region.ready .any ops listed).length]? =some i:=⟨_,List.getElem?_eq_getElem (Nat.mod_lt _ hlen)⟩
  have hmem:=List.mem_of_getElem? hi
  rw[Region.linearise.go]
  change E0 P main F Stop (G (b.at a (.inRegion ops (match(Region.ready .any ops listed)[t % (Region.ready .any ops listed).length]? with
   | some i=>Region.linearise.go .any ops _ (t / (Region.ready .any ops listed).length) (listed.setIfInBounds i true) [i]
   | none=>[].reverse)::k)) cs) w
  rw[hi]
  simp only[]
  rw[linearise_go_acc,List.reverse_singleton,List.singleton_append]
 ·obtain rfl:=H.2 i hmem
  simp only[Region.linearise.go,List.reverse_nil]
  exact H.1 H.2
 ·by_cases hil:i=last
  ·subst hil
   have hall:=a0o L hs hc hmem i
   have hre:∀j∈Region.ready .any ops listed,j=i:=by
    intro j hj
    obtain⟨h0,o,ho,_⟩:=mem_ready.1 hj
    have hlt:=(D4 ho)
    have hsz:=L.size
    rcases Nat.lt_or_ge j i with h|h
    ·have:=hall j (by omega) h
     rw[y4 (by omega),this]at h0;cases h0
    ·omega
   have hnil:Region.ready .any ops (listed.setIfInBounds i true)=[]:=by
    apply List.eq_nil_iff_forall_not_mem.2
    intro j hj
    obtain⟨h0,o,ho,_⟩:=mem_ready.1 hj
    have hlt:=(D4 ho)
    have hsz:=L.size
    by_cases e:i=j
    ·subst e
     rw[y4 (by simp;omega)]at h0
     have:i<listed.size:=by omega
     simp[this]at h0
    ·rw[getD_set_ne true e,y4 (by omega),hall j (by omega) (by omega)]at h0;cases h0
   have:Region.linearise.go .any ops (fuel+1) (t / (Region.ready .any ops listed).length) (listed.setIfInBounds i true) []=[]:=by
    rw[Region.linearise.go]
    change(match(Region.ready .any ops (listed.setIfInBounds i true))[(t / (Region.ready .any ops listed).length) % (Region.ready .any ops (listed.setIfInBounds i true)).length]? with
     | some i=>_
     | none=>[].reverse)=[]
    rw[hnil];rfl
   rw[this]
   exact H.1 hre
  ·refine k0f hk (c0P (fun a' w' ⟨_,hK⟩=>ih _ _ _ _ (by simpa using hs) (fun j o' hj hlj e he hb=>?_) (by rw[getD_set_ne true hil];exact hl) hK) (H.2 i hmem hil))
   by_cases e2:i=j
   ·subst e2
    obtain⟨_,o2,ho2,hd⟩:=mem_ready.1 hmem
    rw[hj]at ho2
    cases ho2
    exact getD_set_true (hd e he hb)
   ·rw[getD_set_ne false e2]at hlj
    exact getD_set_true (hc j o' hj hlj e he hb)
theorem B8(S:World→Prop)(hm:P.follows .mixedOrders=true)(L:LL ops last){id:Nat}{Stop:Goroutine→World→Prop}{b:Frame}{a:Act}{w:World}{k:List Item}{cs:List Frame}(hk:b.kind≠.early)
 (h:E5 P main F b.fn ops S last (fun a w=>E0 P main F Stop (G (b.at a (.inRegion ops [last]::k)) cs) w) last (Array.replicate ops.size false) a w):
 E0 P main F Stop (G (b.at a (.code (.region id ops true)::k)) cs) w:=by
 refine .step rfl fun d=>⟨_,_,_,stepG_region_draw,⟨⟨1,?_⟩,by simp⟩,?_⟩
 ·exact⟨rfl,rfl,rfl,rfl,Nat.le_refl _,fun _ _ h=>.inr h,fun _ _=>rfl⟩
 ·have hs:=L.size
  have:=h0A (S:=S) (cs:=cs) (k:=k) L hk last ((w.at d).tape (w.at d).drawn (.order b.fn id)) (Array.replicate ops.size false) a w (by simp) (fun j o _ hl=>by
   simp at hl
   rcases Nat.lt_or_ge j ops.size with h1|h1<;>simp[h1]at hl) (by simp[hs]) h
  rw[← hs]at this
  simp only[Region.schedule,hm,Bool.true_or,if_true]
  exact this.at (d+1)
section
variable {fuel : Nat} {listed : Array Bool} {a : Act} {w : World} {oi : Oper}
theorem tkC (i : Nat) (v : Value) (hS : ∀ w d, S w → S (World.at w d)) (hw : S w) (h : E5 P main F fn ops S last Z fuel (listed.setIfInBounds i true) (a.put oi.dst v) w) (hZ : ∀ a w d, Z a w → Z a (World.at w d) := by exact fun _ _ d h => h.at d) (hi : ops[i]? = some oi := by exact rfl) (hil : (i != last) = true := by exact rfl) (hs : Region.noSelect ops = true := by kernel_rfl) (hf : Region.free .any ops listed i = true := by kernel_rfl) (hr : (Region.ready .any ops listed).contains i = true := by kernel_rfl) (hy : ∀ w, S w → YQ P F fn ops w oi v a := by exact fun u hu => .inl ⟨rfl, fun d => ⟨by simp [go_sem, execOp, Act.eval], fun e he => by have hm := mem_listed he; simp [go_sem, execOp, Act.eval] at hm⟩⟩) : E5 P main F fn ops S last Z (fuel + 1) listed a w := U0 hS hZ hw hi hil hs hf hr hy h
theorem c0E {Q : World → Prop} (i : Nat) (v : Value) (f : ∀ u, S u → Q u) (hS : ∀ w d, S w → S (World.at w d)) (hw : S w) (h : E5 P main F fn ops S last Z fuel (listed.setIfInBounds i true) (a.put oi.dst v) w) (hZ : ∀ a w d, Z a w → Z a (World.at w d) := by exact fun _ _ d h => h.at d) (hi : ops[i]? = some oi := by exact rfl) (hil : (i != last) = true := by exact rfl) (hs : Region.noSelect ops = true := by kernel_rfl) (hf : Region.free .any ops listed i = true := by kernel_rfl) (hr : (Region.ready .any ops listed).contains i = true := by kernel_rfl) (hy : (∀ u, S u → Q u) → ∀ w, S w → YQ P F fn ops w oi v a := by intro f0; exact fun u hu => (fun f => .inl ⟨rfl, fun d => ⟨by simp [go_sem, execOp, Act.eval, f], fun e he => by have hm := mem_listed he; simp [go_sem, execOp, Act.eval, f] at hm⟩⟩) (f0 u hu)) : E5 P main F fn ops S last Z (fuel + 1) listed a w := U0 hS hZ hw hi hil hs hf hr (hy f) h
theorem i0P {Q : World → Prop} (i : Nat) (v : Value) (f : ∀ u, S u → Q u) (hS : ∀ w d, S w → S (World.at w d)) (hw : S w) (h : E5 P main F fn ops S last Z fuel (listed.setIfInBounds i true) (a.put oi.dst v) w) (hZ : ∀ a w d, Z a w → Z a (World.at w d) := by exact fun _ _ d h => h.at d) (hi : ops[i]? = some oi := by exact rfl) (hil : (i != last) = true := by exact rfl) (hs : Region.noSelect ops = true := by kernel_rfl) (hf : Region.free .any ops listed i = true := by kernel_rfl) (hr : (Region.ready .any ops listed).contains i = true := by kernel_rfl) (hy : (∀ u, S u → Q u) → ∀ w, S w → YQ P F fn ops w oi v a := by intro f0; exact fun u hu => (fun f => .inl ⟨rfl, fun d => ⟨by simp [go_sem, execOp, Act.eval, f], fun e he => by have hm := mem_listed he; simp [go_sem, execOp, Act.eval, f] at hm; first | (subst hm; exact M0 _ _) | (rcases hm with rfl | rfl | rfl <;> exact M0 _ _) | (rcases hm with rfl | rfl | rfl | rfl <;> exact M0 _ _)⟩⟩) (f0 u hu)) : E5 P main F fn ops S last Z (fuel + 1) listed a w := U0 hS hZ hw hi hil hs hf hr (hy f) h
end
end
noncomputable section
variable {cs:List Frame}{main:Bool}{Stop:Goroutine→World→Prop}
variable{F:Fz}{w:World}
def P1:Code:=Tryd.f47.body.getD .skip
def u0D:=pC [] P1
def a0a:=pC [zt] P1
def c0Y:=pC [zf] P1
def e0z:=pC [zt] c0Y
def a0b:=pC [zf,zt,zt] P1
def b0s:=pC [zf] e0z
def i01:=pC [zt] b0s
def b03:=pC [zf,zt,zf,zt,zt] P1
def e0A:=pC [zf] c0Y
def i0X:=pC [zf,zf,zt] P1
def l0R:=pC [zf] e0A
def l0T:=pC [zt] l0R
def O8:=pC [zt] l0T
def q0f:=pC [zt] O8
def j9:=pC [zf,zf,zf,zt,zt,zt,zt] P1
def b05:=pC [zf] q0f
def i0Y:=pC [zf,zf,zf,zt,zt,zt,zf,zt] P1
def i02:=pC [zf] b05
def l0V:=pC [zt] i02
def i0Z:=pC [zf,zf,zf,zt,zt,zt,zf,zf,zt,zt] P1
def h0O:=pC [zf] l0V
def s0n:=pC [zt] h0O
def q0e:=pC [zf,zf,zf,zt,zt,zt,zf,zf,zt,zf,zt,zt] P1
def h0Q:=pC [zf] i02
def b04:=pC [zf,zf,zf,zt,zt,zt,zf,zf,zf,zt] P1
def b0t:=pC [zf] h0Q
def i00:=pC [zf,zf,zf,zt,zt,zt,zf,zf,zf,zf,zt] P1
def h0P:=pC [zf] b0t
def s0o:=pC [zt] h0P
def l0U:=pC [zf,zf,zf,zt,zt,zt,zf,zf,zf,zf,zf,zt,zt] P1
theorem z0l:u0D= .seq a0a c0Y:=by kernel_rfl
theorem z0i:a0a= .region 0 (oC a0a) false:=by kernel_rfl
theorem z0m:c0Y= .seq e0z e0A:=by kernel_rfl
theorem z0n:e0z= .seq a0b b0s:=by kernel_rfl
theorem z0j:a0b= .region 1 (oC a0b) false:=by kernel_rfl
theorem z0h:b0s= .cond (.tmp 20) i01 .skip:=by kernel_rfl
theorem z0o:i01= .seq b03 .ret:=by kernel_rfl
theorem z0k:b03= .region 2 (oC b03) false:=by kernel_rfl
theorem s0m:i0X= .region 3 (oC i0X) true:=by kernel_rfl
theorem s0k:l0R= .block 0 l0T:=by kernel_rfl
theorem s0l:l0T= .loop O8:=by kernel_rfl
theorem l0S:O8= .block 1 q0f:=by kernel_rfl
theorem P7(args:Array Value):Frame.enter Tryd.prog 47 args .normal=(Go.Conc.base 47).at {tmps:=args++Array.replicate (49 - args.size) undef,defers:=[]} [.code u0D]:=enter_at args Tryd.func47 rfl
theorem d0o:X0 47:=G1 Tryd.func47 rfl rfl
def f0A(s:Nat→Value):Array Value:= #[s 0,s 1,s 2,s 3,s 4,s 5,s 6,s 7,s 8,s 9,s 10,s 11,s 12,s 13,s 14,s 15,s 16,s 17,s 18,s 19,s 20,s 21,s 22,s 23,s 24,s 25,s 26,s 27,s 28,s 29,s 30,s 31,s 32,s 33,s 34,s 35,s 36,s 37,s 38,s 39,s 40,s 41,s 42,s 43,s 44,s 45,s 46,s 47,s 48]
theorem x0M{A:Array Value}(h:A.size=49):∃s,A=f0A s:=by
 obtain⟨s,hs,_⟩:=F3 A h
 exact⟨s,hs⟩
theorem m0P{lb:Nat}{sv:Value}{inn:Bool}{i:Int}(hi:i<0){c:Frame}
 (h:E0 Tryd.prog main F Stop (G (c.finish (.tuple #[.bool false,.int .i64 1])) cs) w):
 E0 Tryd.prog main F Stop (G (Frame.enter Tryd.prog 47 #[.pointer (some ⟨lb,0,none⟩),sv,.int .i64 i,.bool inn] .normal) (c::cs)) w:=by
 have e0:decide (i<0)=true:=decide_eq_true hi
 rw[P7]
 walk_nrm
 refine ogSR z0l z0i ?_
 simp only[a0a,P1,Tryd.f47,zz,Nat.reduceAdd]
 iterate 2 (refine oW fun dd K hK=>?_;go_simp;refine qT hK ?_;clear hK K)
 refine I0 ?_
 refine z0f z0m ?_
 refine ogSR z0n z0j ?_
 simp only[a0b,P1,Tryd.f47,zz,Nat.reduceAdd]
 iterate 3 (refine oW fun dd K hK=>?_;go_simp;refine qT hK ?_;clear hK K)
 iterate 4 refine ogU rfl rfl ?_
 (refine oW fun dd K hK=>?_;go_simp;refine qT hK ?_;clear hK K)
 refine I0 ?_
 rw[z0h]
 refine ogT ?_
 simp only[if_true]
 refine ogSR z0o z0k ?_
 simp only[b03,P1,Tryd.f47,zz,Nat.reduceAdd]
 iterate 2 (refine oW fun dd K hK=>?_;go_simp;refine qT hK ?_;clear hK K)
 refine I0 ?_
 refine ogX ?_
 refine G0 rfl (fun d=>stepG_leave (fn:=Tryd.f47) (v:=.tuple #[.bool false,.int .i64 1]) rfl rfl Tryd.func47 (by simp[results,Tryd.f47]) (by simp[results,Tryd.f47,go_sem])) ?_
 exact h
theorem m0O{lb wb n m:Nat}{sv:Value}{inn:Bool}{i:Int}(hs:BH lb wb n m w)(h0:¬i<0)(hi:(n:Int)≤i){c:Frame}
 (h:E0 Tryd.prog main F Stop (G (c.finish (.tuple #[.bool false,vI 1])) cs) w):
 E0 Tryd.prog main F Stop (G (Frame.enter Tryd.prog 47 #[vP lb 0,sv,vI i,.bool inn] .normal) (c::cs)) w:=by
 have e0:decide (i<0)=false:=decide_eq_false h0
 have e1:decide ((n:Int)≤i)=true:=decide_eq_true hi
 rw[P7]
 walk_nrm
 refine ogW a0a c0Y ?_
 simp only[a0a,P1,Tryd.f47,zz,Nat.reduceAdd]
 iterate 2 refine oT ?_
 refine I0<|ogV e0z e0A<|ogW a0b b0s ?_
 simp only[a0b,P1,Tryd.f47,zz,Nat.reduceAdd]
 iterate 5 refine oT ?_
 refine oc X6 #[vP lb 0] ?_
 refine Y7 hs ?_
 rw[Frame.finish_at]
 walk_nrm
 iterate 2 refine oT ?_
 refine I0<|ogYn i01<|ogW b03 .ret ?_
 simp only[b03,P1,Tryd.f47,zz,Nat.reduceAdd]
 iterate 2 refine oT ?_
 refine I0<|ogX ?_
 refine G0 rfl (fun d=>stepG_leave (fn:=Tryd.f47) (v:=.tuple #[.bool false,vI 1]) rfl rfl Tryd.func47 (by simp[results,Tryd.f47]) (by simp[results,Tryd.f47,go_sem])) ?_
 exact h
theorem s0P{lb wb n m:Nat}{sv:Value}{inn:Bool}{i:Nat}(hs:BH lb wb n m w)(hi:i<n)
 (h:∀A,D0 49 A [(1,sv),(3,.bool inn),(10,vP wb (i / 64)),(11,wV (bitI i))]→E0 Tryd.prog main F Stop (G (Frame.enter Tryd.prog 48 #[sv] .normal) ((bA 47 A [.inRegion (oC j9) [1],.code b05,.inBlock 1,.inLoop O8,.inBlock 0])::cs)) w):
 E0 Tryd.prog main F Stop (G (Frame.enter Tryd.prog 47 #[vP lb 0,sv,vI (i:Nat),.bool inn] .normal) cs) w:=by
 have hS:∀w d,BH lb wb n m w→BH lb wb n m (World.at w d):=fun w d h=>h.at d
 have hn:=hs.hn
 have e0:decide ((i:Int)<0)=false:=decide_eq_false (by omega)
 have e1:decide (n≤i)=false:=decide_eq_false (by omega)
 have hq:IntKind.i64.wrap ((i:Int) / 64)=(i:Int) / 64:=IntWalk.i64_in _ (by omega)
 have hd:0≤(i:Int) / 64∧(i:Int) / 64<(m:Int):=by have:=hs.hm;omega
 have ht:((i:Int) / 64).toNat=i / 64:=by omega
 have hm:(i:Int).tmod 64=(i:Int) % 64:=Int.tmod_eq_emod_of_nonneg (by omega)
 have hsh:IntKind.u64.wrap (2 ^ ((i:Int) % 64).toNat)=((bitI i).toNat:Int):=by
  have e:((i:Int) % 64).toNat=i % 64:=by omega
  have h:=g0b (i % 64)
  rw[Int.one_mul]at h
  rw[e]
  exact h
 rw[P7]
 walk_nrm
 refine ogW a0a c0Y ?_
 simp only[a0a,P1,Tryd.f47,zz,Nat.reduceAdd]
 iterate 2 refine oT ?_
 refine I0<|ogV e0z e0A<|ogW a0b b0s ?_
 simp only[a0b,P1,Tryd.f47,zz,Nat.reduceAdd]
 iterate 5 refine oT ?_
 refine oc X6 #[vP lb 0] ?_
 refine Y7 hs ?_
 rw[Frame.finish_at]
 walk_nrm
 iterate 2 refine oT ?_
 refine I0<|ogGn .skip<|ogK<|ogV i0X l0R ?_
 rw[s0m]
 refine B8 (BH lb wb n m) (last:=11) K2 (Q6 (by kernel_rfl)) (by decide) ?_
 simp only[i0X,P1,Tryd.f47,zz,Nat.reduceAdd]
 refine tkC 0 (vP lb 0) hS hs ?_
 walk_nrm
 refine tkC 1 (vP lb 0) hS hs ?_
 walk_nrm
 refine tkC 2 (vP lb 1) hS hs ?_
 walk_nrm
 refine i0P 3 (vL wb 0 m m) (fun u hu=>hu.c1) hS hs ?_
 walk_nrm
 refine tkC 4 (vI (i:Nat)) hS hs ?_
 walk_nrm
 refine c0E 5 (vI ((i / 64:Nat):Int)) (fun u hu=>hq) hS hs ?_
 walk_nrm
 refine c0E 6 (vP wb (i / 64)) (fun u hu=>(And.intro hd ht)) hS hs ?_
 walk_nrm
 refine tkC 10 (vP wb (i / 64)) hS hs ?_
 walk_nrm
 refine tkC 7 (vI (i:Nat)) hS hs ?_
 walk_nrm
 refine c0E 8 (vI ((i % 64:Nat):Int)) (fun u hu=>hm) hS hs ?_
 walk_nrm
 refine c0E 9 (wV (bitI i)) (fun u hu=>hsh) hS hs ?_
 walk_nrm
 refine L6 (by kernel_rfl) ?_ _
 refine oT ?_
 refine I0 ?_
 rw[s0k]
 refine K5 ?_
 rw[s0l]
 refine ogP ?_
 rw[l0S]
 refine K5<|ogW j9 b05 ?_
 simp only[j9,P1,Tryd.f47,zz,Nat.reduceAdd]
 refine oT ?_
 refine oc O3 #[sv] ?_
 refine h _ ?_
 exact⟨rfl,rfl,rfl,rfl,rfl,trivial⟩
theorem m0L{wb i:Nat}{sv:Value}{inn b:Bool}{x:BitVec 64}(hc:w.cell? ⟨wb,i / 64,none⟩=some (wV x))(hx:(bits .and .u64 (x.toNat:Int) ((bitI i).toNat:Int) != 0)=b)(hb:(b == inn)=true){A:Array Value}(hA:D0 49 A [(1,sv),(3,.bool inn),(10,vP wb (i / 64)),(11,wV (bitI i))]){c:Frame}
 (h:E0 Tryd.prog main F Stop (G (c.finish (.tuple #[.bool false,vI 0])) cs) w):
 E0 Tryd.prog main F Stop (G ((bA 47 A [.inRegion (oC j9) [1],.code b05,.inBlock 1,.inLoop O8,.inBlock 0]).finish (.tuple #[])) (c::cs)) w:=by
 obtain⟨s,rfl,h1,h3,h10,h11,_⟩:=D5 f0A hA
 simp only[f0A,h1,h3,h10,h11]
 clear h1 h3 h10 h11
 rw[Frame.finish_at]
 simp only[j9,P1,Tryd.f47,zz,Nat.reduceAdd]
 walk_nrm
 refine I0<|ogW i0Y i02 ?_
 simp only[i0Y,P1,Tryd.f47,zz,Nat.reduceAdd]
 refine oT ?_
 refine oc V4 #[vP wb (i / 64)] ?_
 refine C8 hc rfl ?_
 rw[Frame.finish_at]
 walk_nrm
 refine oT ?_
 refine I0<|ogV l0V h0Q<|ogW i0Z h0O ?_
 simp only[i0Z,P1,Tryd.f47,zz,Nat.reduceAdd]
 iterate 6 refine oT ?_
 refine I0<|ogYn s0n<|ogW q0e .ret ?_
 simp only[q0e,P1,Tryd.f47,zz,Nat.reduceAdd]
 iterate 2 refine oT ?_
 refine I0<|ogX ?_
 refine G0 rfl (fun d=>stepG_leave (fn:=Tryd.f47) (v:=.tuple #[.bool false,vI 0]) rfl rfl Tryd.func47 (by simp[results,Tryd.f47]) (by simp[results,Tryd.f47,go_sem])) ?_
 exact h
theorem m0M{wb i:Nat}{sv:Value}{inn b:Bool}{x:BitVec 64}(hc:w.cell? ⟨wb,i / 64,none⟩=some (wV x))(hx:(bits .and .u64 (x.toNat:Int) ((bitI i).toNat:Int) != 0)=b)(hb:(b == inn)=false){A:Array Value}(hA:D0 49 A [(1,sv),(3,.bool inn),(10,vP wb (i / 64)),(11,wV (bitI i))])
 (h:∀A,D0 49 A [(1,sv),(3,.bool inn),(10,vP wb (i / 64)),(11,wV (bitI i)),(12,wV x)]→E0 Tryd.prog main F Stop (G (Frame.enter Tryd.prog 48 #[sv] .normal) ((bA 47 A [.inRegion (oC b04) [1],.code b0t,.inBlock 1,.inLoop O8,.inBlock 0])::cs)) w):
 E0 Tryd.prog main F Stop (G ((bA 47 A [.inRegion (oC j9) [1],.code b05,.inBlock 1,.inLoop O8,.inBlock 0]).finish (.tuple #[])) (cs)) w:=by
 obtain⟨s,rfl,h1,h3,h10,h11,_⟩:=D5 f0A hA
 simp only[f0A,h1,h3,h10,h11]
 clear h1 h3 h10 h11
 rw[Frame.finish_at]
 simp only[j9,P1,Tryd.f47,zz,Nat.reduceAdd]
 walk_nrm
 refine I0<|ogW i0Y i02 ?_
 simp only[i0Y,P1,Tryd.f47,zz,Nat.reduceAdd]
 refine oT ?_
 refine oc V4 #[vP wb (i / 64)] ?_
 refine C8 hc rfl ?_
 rw[Frame.finish_at]
 walk_nrm
 refine oT ?_
 refine I0<|ogV l0V h0Q<|ogW i0Z h0O ?_
 simp only[i0Z,P1,Tryd.f47,zz,Nat.reduceAdd]
 iterate 6 refine oT ?_
 refine I0<|ogGn .skip<|ogK<|ogW b04 b0t ?_
 simp only[b04,P1,Tryd.f47,zz,Nat.reduceAdd]
 refine oT ?_
 refine oc O3 #[sv] ?_
 refine h _ ?_
 exact⟨rfl,rfl,rfl,rfl,rfl,rfl,trivial⟩
theorem m0N{wb i:Nat}{sv:Value}{inn:Bool}{x y z:BitVec 64}(hxor:bits .xor .u64 (x.toNat:Int) ((bitI i).toNat:Int)=(z.toNat:Int))(hq:((y.toNat:Int) == (x.toNat:Int))=true)(hc:w.cell? ⟨wb,i / 64,none⟩=some (wV y))(hz:w.frozen? ⟨wb,i / 64,none⟩=false)(hnh:¬held F ⟨wb,i / 64,none⟩){A:Array Value}(hA:D0 49 A [(1,sv),(3,.bool inn),(10,vP wb (i / 64)),(11,wV (bitI i)),(12,wV x)]){c:Frame}
 (h:E0 Tryd.prog main F Stop (G (c.finish (.tuple #[.bool true,vI 0])) cs) (w.setCell ⟨wb,i / 64,none⟩ (wV z))):
 E0 Tryd.prog main F Stop (G ((bA 47 A [.inRegion (oC b04) [1],.code b0t,.inBlock 1,.inLoop O8,.inBlock 0]).finish (.tuple #[])) (c::cs)) w:=by
 obtain⟨s,rfl,h1,h3,h10,h11,h12,_⟩:=D5 f0A hA
 simp only[f0A,h1,h3,h10,h11,h12]
 clear h1 h3 h10 h11 h12
 rw[Frame.finish_at]
 simp only[b04,P1,Tryd.f47,zz,Nat.reduceAdd]
 walk_nrm
 refine I0<|ogW i00 h0P ?_
 simp only[i00,P1,Tryd.f47,zz,Nat.reduceAdd]
 iterate 5 refine oT ?_
 refine oc x8 #[vP wb (i / 64),wV x,wV z] ?_
 refine b0f (t:=true) hq hc rfl hz hnh ?_
 rw[Frame.finish_at]
 walk_nrm
 simp only[if_true]
 refine I0<|ogYn s0o<|ogW l0U .ret ?_
 simp only[l0U,P1,Tryd.f47,zz,Nat.reduceAdd]
 iterate 2 refine oT ?_
 refine I0<|ogX ?_
 refine G0 rfl (fun d=>stepG_leave (fn:=Tryd.f47) (v:=.tuple #[.bool true,vI 0]) rfl rfl Tryd.func47 (by simp[results,Tryd.f47]) (by simp[results,Tryd.f47,go_sem])) ?_
 exact h
theorem r0d{wb i:Nat}{sv:Value}{inn:Bool}{x y z:BitVec 64}(hxor:bits .xor .u64 (x.toNat:Int) ((bitI i).toNat:Int)=(z.toNat:Int))(hq:((y.toNat:Int) == (x.toNat:Int))=false)(hc:w.cell? ⟨wb,i / 64,none⟩=some (wV y))(hz:w.frozen? ⟨wb,i / 64,none⟩=false)(hnh:¬held F ⟨wb,i / 64,none⟩){A:Array Value}(hA:D0 49 A [(1,sv),(3,.bool inn),(10,vP wb (i / 64)),(11,wV (bitI i)),(12,wV x)])
 (h:∀A,D0 49 A [(1,sv),(3,.bool inn),(10,vP wb (i / 64)),(11,wV (bitI i))]→E0 Tryd.prog main F Stop (G (Frame.enter Tryd.prog 48 #[sv] .normal) ((bA 47 A [.inRegion (oC j9) [1],.code b05,.inBlock 1,.inLoop O8,.inBlock 0])::cs)) w):
 E0 Tryd.prog main F Stop (G ((bA 47 A [.inRegion (oC b04) [1],.code b0t,.inBlock 1,.inLoop O8,.inBlock 0]).finish (.tuple #[])) (cs)) w:=by
 obtain⟨s,rfl,h1,h3,h10,h11,h12,_⟩:=D5 f0A hA
 simp only[f0A,h1,h3,h10,h11,h12]
 clear h1 h3 h10 h11 h12
 rw[Frame.finish_at]
 simp only[b04,P1,Tryd.f47,zz,Nat.reduceAdd]
 walk_nrm
 refine I0<|ogW i00 h0P ?_
 simp only[i00,P1,Tryd.f47,zz,Nat.reduceAdd]
 iterate 5 refine oT ?_
 refine oc x8 #[vP wb (i / 64),wV x,wV z] ?_
 refine b0f (t:=false) hq hc rfl hz hnh ?_
 rw[Frame.finish_at]
 walk_nrm
 simp only[Bool.false_eq_true,if_false]
 refine I0<|ogGn .skip<|ogK<|ogI<|ogL ?_
 rw[l0S]
 refine K5<|ogW j9 b05 ?_
 simp only[j9,P1,Tryd.f47,zz,Nat.reduceAdd]
 refine oT ?_
 refine oc O3 #[sv] ?_
 refine h _ ?_
 exact⟨rfl,rfl,rfl,rfl,rfl,trivial⟩
end
noncomputable section
variable{F:Fz}{w:World}
@[go_sem] theorem y0Z{k:Nat}(hk:k<64)(w:World)(es:Array Event):(Instr.indexAt 145 (vP 0 0) (.int .u64 (k:Nat))).events Tryd.prog w es=es:=
 events_indexAt_array 145 5 64 ⟨0,0,none⟩ .u64 (k:Nat) Tryd.underlying145 (by omega)
def u7:Code:=Tryd.f55.body.getD .skip
def v0k:=pC [] u7
def q0Y:=pC [zt] u7
def m0z:=pC [zf] u7
def q01:=pC [zt] m0z
def q0Z:=pC [zf,zt,zt] u7
def q0X:=pC [zf] q01
def y06:=pC [zt] q0X
def v0l:=pC [zf] m0z
def q00:=pC [zf,zf,zt] u7
theorem k0T(args:Array Value):Frame.enter Tryd.prog 55 args .normal=(Go.Conc.base 55).at {tmps:=args++Array.replicate (14 - args.size) undef,defers:=[]} [.code v0k]:=enter_at args Tryd.func55 rfl
theorem d0p:X0 55:=G1 Tryd.func55 rfl rfl
theorem y0n{x nx y z:BitVec 64}{k v:Nat}(hx:((x.toNat:Int) == 0)=false)(hneg:IntKind.u64.wrap (-(x.toNat:Int))=(nx.toNat:Int))(hand:bits .and .u64 (x.toNat:Int) (nx.toNat:Int)=(y.toNat:Int))(hmul:IntKind.u64.wrap ((y.toNat:Int)*285870213051353865)=(z.toNat:Int))(hsh:(z.toNat:Int) / 288230376151711744=(k:Int))(hk:k<64)(hv:v<65)(hT:w.cell? ⟨0,k,none⟩=some (.int .u8 (v:Nat))){c:Frame}{cs:List Frame}{main:Bool}{Stop:Goroutine→World→Prop}
 (h:E0 Tryd.prog main F Stop (G (c.finish (vI (v:Nat))) cs) w):
 E0 Tryd.prog main F Stop (G (Frame.enter Tryd.prog 55 #[wV x] .normal) (c::cs)) w:=by
 have hk2:(k:Int)<64:=by omega
 have hw64:IntKind.i64.wrap (v:Int)=(v:Int):=IntWalk.i64_in _ (by omega)
 rw[k0T]
 walk_nrm
 refine ogW q0Y m0z ?_
 simp only[q0Y,u7,Tryd.f55,zz,Nat.reduceAdd]
 refine oT ?_
 refine I0<|ogV q01 v0l<|ogW q0Z q0X ?_
 simp only[q0Z,u7,Tryd.f55,zz,Nat.reduceAdd]
 iterate 2 refine oT ?_
 refine I0<|ogGn .skip<|ogK<|ogW q00 .ret ?_
 simp only[q00,u7,Tryd.f55,zz,Nat.reduceAdd]
 iterate 6 refine oT ?_
 refine oX ?_
 refine oL ?_
 iterate 2 refine oT ?_
 refine I0<|ogX ?_
 refine G0 rfl (fun d=>stepG_leave (fn:=Tryd.f55) (v:=vI (v:Nat)) rfl rfl Tryd.func55 (by simp[results,Tryd.f55]) (by simp[results,Tryd.f55,go_sem])) ?_
 exact h
def deB:List Nat:=[0,1,56,2,57,49,28,3,61,58,42,50,38,29,17,4,62,47,59,36,45,43,51,22,53,39,33,30,24,18,12,5,63,55,48,27,60,41,37,16,46,35,44,21,52,32,23,11,54,26,40,15,34,20,31,10,25,14,19,9,13,8,7,6]
structure Tab(w:World):Prop where
 c:∀k,k<64→w.cell? ⟨0,k,none⟩=some (.int .u8 ((deB.getD k 0:Nat):Int))
theorem o07:∀j:_root_.Fin 64,(((1#64 <<< j.val)*285870213051353865#64) >>> 58).toNat<64∧deB.getD (((1#64 <<< j.val)*285870213051353865#64) >>> 58).toNat 0=j.val:=by decide +kernel
theorem t0p(x:BitVec 64):IntKind.u64.wrap ((x.toNat:Int)*285870213051353865)=((x*285870213051353865#64).toNat:Int):=by
 rw[IntKind.wrap_u64,BitVec.toNat_mul]
 simp only[BitVec.toNat_ofNat]
 omega
theorem k0e{x:BitVec 64}(hT:Tab w)(h0:x≠0#64){c:Frame}{cs:List Frame}{main:Bool}{Stop:Goroutine→World→Prop}
 (h:E0 Tryd.prog main F Stop (G (c.finish (vI (O7 x:Nat))) cs) w):
 E0 Tryd.prog main F Stop (G (Frame.enter Tryd.prog 55 #[wV x] .normal) (c::cs)) w:=by
 have hj:=(s9 h0).1
 have e:=p0w h0
 obtain⟨h1,h2⟩:=o07 ⟨O7 x,hj⟩
 simp only[← e]at h1 h2
 have hne:((x.toNat:Int) == 0)=false:=by
  have:x.toNat≠0:=fun e=>h0 (BitVec.eq_of_toNat_eq e)
  simp;omega
 have hneg:=t0q x
 rw[Int.zero_sub]at hneg
 have hsh:=o0q ((x &&& -x)*285870213051353865#64) 58
 rw[show((2:Int) ^ 58)=288230376151711744 by decide]at hsh
 have hc:=hT.c _ h1
 rw[h2]at hc
 exact y0n hne hneg (f0w x (-x)) (t0p (x &&& -x)) hsh h1 (by omega) hc h
end
noncomputable section
variable {cs:List Frame}{main:Bool}{Stop:Goroutine→World→Prop}
variable{F:Fz}{w:World}
def f4:Code:=Tryd.f60.body.getD .skip
def u0M:=pC [] f4
def i09:=pC [zt] f4
def j0c:=pC [zf] f4
def l07:=pC [zt] j0c
def j0a:=pC [zf,zt,zt] f4
def l08:=pC [zf] l07
def j0b:=pC [zf,zt,zf,zt] f4
def h04:=pC [zf] l08
def u0N:=pC [zt] h04
def q0m:=pC [zf,zt,zf,zf,zt,zt] f4
def q0o:=pC [zf] j0c
def q0n:=pC [zf,zf,zt] f4
theorem e02(args:Array Value):Frame.enter Tryd.prog 60 args .normal=(Go.Conc.base 60).at {tmps:=args++Array.replicate (18 - args.size) undef,defers:=[]} [.code u0M]:=enter_at args Tryd.func60 rfl
theorem a0A:X0 60:=G1 Tryd.func60 rfl rfl
theorem s07{lb wb n m:Nat}{k:Nat}{z z1:BitVec 64}(hs:BH lb wb n m w)(hk:k<m)(hl:n<64*k+64)(hz:IntKind.u64.wrap (2 ^ ((n:Int) - 64*(k:Int)).toNat)=(z.toNat:Int))(hz1:IntKind.u64.wrap ((z.toNat:Int) - 1)=(z1.toNat:Int)){c:Frame}
 (h:E0 Tryd.prog main F Stop (G (c.finish (wV z1)) cs) w):
 E0 Tryd.prog main F Stop (G (Frame.enter Tryd.prog 60 #[vP lb 0,vI (k:Nat)] .normal) (c::cs)) w:=by
 have c0:=hs.c0
 have hn:=hs.hn
 have hm:=hs.hm
 have w1:IntKind.i64.wrap (64*(k:Int))=64*(k:Int):=IntWalk.i64_in _ (by omega)
 have w2:IntKind.i64.wrap ((n:Int) - 64*(k:Int))=(n:Int) - 64*(k:Int):=IntWalk.i64_in _ (by omega)
 have hd:decide ((n:Int) - 64*(k:Int)<64)=true:=decide_eq_true (by omega)
 have h0:0≤(n:Int) - 64*(k:Int):=by omega
 have h64:(n:Int) - 64*(k:Int)≤64:=by omega
 rw[e02]
 walk_nrm
 refine ogW i09 j0c ?_
 simp only[i09,f4,Tryd.f60,zz,Nat.reduceAdd]
 refine oT ?_
 refine I0<|ogV l07 q0o<|ogW j0a l08 ?_
 simp only[j0a,f4,Tryd.f60,zz,Nat.reduceAdd]
 iterate 3 refine oT ?_
 refine oL ?_
 iterate 4 refine oT ?_
 refine I0<|ogW j0b h04 ?_
 simp only[j0b,f4,Tryd.f60,zz,Nat.reduceAdd]
 iterate 2 refine oT ?_
 refine I0<|ogYn u0N<|ogW q0m .ret ?_
 simp only[q0m,f4,Tryd.f60,zz,Nat.reduceAdd]
 iterate 4 refine oT ?_
 refine I0<|ogX ?_
 refine G0 rfl (fun d=>stepG_leave (fn:=Tryd.f60) (v:=wV z1) rfl rfl Tryd.func60 (by simp[results,Tryd.f60]) (by simp[results,Tryd.f60,go_sem])) ?_
 exact h
theorem s08{lb wb n m:Nat}{k:Nat}(hs:BH lb wb n m w)(hk:k<m)(hl:64*k+64≤n){c:Frame}
 (h:E0 Tryd.prog main F Stop (G (c.finish (wV (BitVec.allOnes 64))) cs) w):
 E0 Tryd.prog main F Stop (G (Frame.enter Tryd.prog 60 #[vP lb 0,vI (k:Nat)] .normal) (c::cs)) w:=by
 have c0:=hs.c0
 have hn:=hs.hn
 have hm:=hs.hm
 have w1:IntKind.i64.wrap (64*(k:Int))=64*(k:Int):=IntWalk.i64_in _ (by omega)
 have w2:IntKind.i64.wrap ((n:Int) - 64*(k:Int))=(n:Int) - 64*(k:Int):=IntWalk.i64_in _ (by omega)
 have hd:decide ((n:Int) - 64*(k:Int)<64)=false:=decide_eq_false (by omega)
 rw[e02]
 walk_nrm
 refine ogW i09 j0c ?_
 simp only[i09,f4,Tryd.f60,zz,Nat.reduceAdd]
 refine oT ?_
 refine I0<|ogV l07 q0o<|ogW j0a l08 ?_
 simp only[j0a,f4,Tryd.f60,zz,Nat.reduceAdd]
 iterate 3 refine oT ?_
 refine oL ?_
 iterate 4 refine oT ?_
 refine I0<|ogW j0b h04 ?_
 simp only[j0b,f4,Tryd.f60,zz,Nat.reduceAdd]
 iterate 2 refine oT ?_
 refine I0<|ogGn .skip<|ogK<|ogW q0n .ret ?_
 simp only[q0n,f4,Tryd.f60,zz,Nat.reduceAdd]
 refine oT ?_
 refine I0<|ogX ?_
 refine G0 rfl (fun d=>stepG_leave (fn:=Tryd.f60) (v:=wV (BitVec.allOnes 64)) rfl rfl Tryd.func60 (by simp[results,Tryd.f60]) (by simp[results,Tryd.f60,go_sem])) ?_
 exact h
def a09(n k:Nat):BitVec 64:=if n<64*k+64 then(1#64 <<< (n - 64*k)) - 1#64 else BitVec.allOnes 64
theorem d0U{lb wb n m:Nat}{k:Nat}(hs:BH lb wb n m w)(hk:k<m){c:Frame}
 (h:E0 Tryd.prog main F Stop (G (c.finish (wV (a09 n k))) cs) w):
 E0 Tryd.prog main F Stop (G (Frame.enter Tryd.prog 60 #[vP lb 0,vI (k:Nat)] .normal) (c::cs)) w:=by
 unfold a09 at h
 have hm:=hs.hm
 by_cases hl:n<64*k+64
 ·rw[if_pos hl]at h
  have e:=g0b (n - 64*k)
  rw[Int.one_mul,show n - 64*k=((n:Int) - 64*(k:Int)).toNat by omega]at e
  rw[show n - 64*k=((n:Int) - 64*(k:Int)).toNat by omega]at h
  exact s07 hs hk hl e (k0j _) h
 ·rw[if_neg hl]at h
  exact s08 hs hk (by omega) h
def s8:Code:=Tryd.f18.body.getD .skip
def u04:=pC [] s8
def q0O:=pC [zt] s8
def u05:=pC [zf] s8
def e0W:=pC [zf,zt] s8
theorem k0R(args:Array Value):Frame.enter Tryd.prog 18 args .normal=(Go.Conc.base 18).at {tmps:=args++Array.replicate (14 - args.size) undef,defers:=[]} [.code u04]:=enter_at args Tryd.func18 rfl
theorem a0w:X0 18:=G1 Tryd.func18 rfl rfl
def s0I(s:Nat→Value):Array Value:= #[s 0,s 1,s 2,s 3,s 4,s 5,s 6,s 7,s 8,s 9,s 10,s 11,s 12,s 13]
theorem x0W{A:Array Value}(h:A.size=14):∃s,A=s0I s:=by
 obtain⟨s,hs,_⟩:=F3 A h
 exact⟨s,hs⟩
theorem o0m{xv sv iv:Value}
 (h:∀A,D0 14 A [(0,xv)]→E0 Tryd.prog main F Stop (G (Frame.enter Tryd.prog 47 #[xv,sv,iv,.bool true] .normal) ((bA 18 A [.inRegion (oC e0W) [3,4,5,6,7],.code .ret])::cs)) w):
 E0 Tryd.prog main F Stop (G (Frame.enter Tryd.prog 18 #[xv,sv,iv] .normal) cs) w:=by
 rw[k0R]
 walk_nrm
 refine ogW q0O u05 ?_
 simp only[q0O,s8,Tryd.f18,zz,Nat.reduceAdd]
 iterate 2 refine oT ?_
 refine I0<|ogW e0W .ret ?_
 simp only[e0W,s8,Tryd.f18,zz,Nat.reduceAdd]
 iterate 3 refine oT ?_
 refine oc d0o #[xv,sv,iv,.bool true] ?_
 refine h _ ?_
 exact⟨rfl,rfl,trivial⟩
theorem c0w{xv u v:Value}{A:Array Value}(hA:D0 14 A [(0,xv)]){c:Frame}
 (h:E0 Tryd.prog main F Stop (G (c.finish (.tuple #[u,v])) cs) w):
 E0 Tryd.prog main F Stop (G ((bA 18 A [.inRegion (oC e0W) [3,4,5,6,7],.code .ret]).finish (.tuple #[u,v])) (c::cs)) w:=by
 obtain⟨s,rfl,h0,_⟩:=D5 s0I hA
 simp only[s0I,h0]
 clear h0
 rw[Frame.finish_at]
 simp only[e0W,s8,Tryd.f18,zz,Nat.reduceAdd]
 walk_nrm
 iterate 4 refine oT ?_
 refine I0<|ogX ?_
 refine G0 rfl (fun d=>stepG_leave (fn:=Tryd.f18) (v:=.tuple #[u,v]) rfl rfl Tryd.func18 (by simp[results,Tryd.f18]) (by simp[results,Tryd.f18,go_sem])) ?_
 exact h
def l8:Code:=Tryd.f19.body.getD .skip
def u0J:=pC [] l8
def q0l:=pC [zt] l8
def u0K:=pC [zf] l8
def e0I:=pC [zf,zt] l8
theorem k0M(args:Array Value):Frame.enter Tryd.prog 19 args .normal=(Go.Conc.base 19).at {tmps:=args++Array.replicate (14 - args.size) undef,defers:=[]} [.code u0J]:=enter_at args Tryd.func19 rfl
theorem d0j:X0 19:=G1 Tryd.func19 rfl rfl
def s0t(s:Nat→Value):Array Value:= #[s 0,s 1,s 2,s 3,s 4,s 5,s 6,s 7,s 8,s 9,s 10,s 11,s 12,s 13]
theorem x0Q{A:Array Value}(h:A.size=14):∃s,A=s0t s:=by
 obtain⟨s,hs,_⟩:=F3 A h
 exact⟨s,hs⟩
theorem m06{xv sv iv:Value}
 (h:∀A,D0 14 A [(0,xv)]→E0 Tryd.prog main F Stop (G (Frame.enter Tryd.prog 47 #[xv,sv,iv,.bool false] .normal) ((bA 19 A [.inRegion (oC e0I) [3,4,5,6,7],.code .ret])::cs)) w):
 E0 Tryd.prog main F Stop (G (Frame.enter Tryd.prog 19 #[xv,sv,iv] .normal) cs) w:=by
 rw[k0M]
 walk_nrm
 refine ogW q0l u0K ?_
 simp only[q0l,l8,Tryd.f19,zz,Nat.reduceAdd]
 iterate 2 refine oT ?_
 refine I0<|ogW e0I .ret ?_
 simp only[e0I,l8,Tryd.f19,zz,Nat.reduceAdd]
 iterate 3 refine oT ?_
 refine oc d0o #[xv,sv,iv,.bool false] ?_
 refine h _ ?_
 exact⟨rfl,rfl,trivial⟩
theorem b0I{xv u v:Value}{A:Array Value}(hA:D0 14 A [(0,xv)]){c:Frame}
 (h:E0 Tryd.prog main F Stop (G (c.finish (.tuple #[u,v])) cs) w):
 E0 Tryd.prog main F Stop (G ((bA 19 A [.inRegion (oC e0I) [3,4,5,6,7],.code .ret]).finish (.tuple #[u,v])) (c::cs)) w:=by
 obtain⟨s,rfl,h0,_⟩:=D5 s0t hA
 simp only[s0t,h0]
 clear h0
 rw[Frame.finish_at]
 simp only[e0I,l8,Tryd.f19,zz,Nat.reduceAdd]
 walk_nrm
 iterate 4 refine oT ?_
 refine I0<|ogX ?_
 refine G0 rfl (fun d=>stepG_leave (fn:=Tryd.f19) (v:=.tuple #[u,v]) rfl rfl Tryd.func19 (by simp[results,Tryd.f19]) (by simp[results,Tryd.f19,go_sem])) ?_
 exact h
def N2:Code:=Tryd.f20.body.getD .skip
def u0O:=pC [] N2
def a0c:=pC [zt] N2
def d0a:=pC [zf] N2
def e0L:=pC [zt] d0a
def a0d:=pC [zf,zt,zt] N2
def b0C:=pC [zf] e0L
def j0d:=pC [zt] b0C
def c0d:=pC [zf,zt,zf,zt,zt] N2
def e0M:=pC [zf] d0a
def e0K:=pC [zf,zf,zt] N2
def j0e:=pC [zf] e0M
def q0p:=pC [zf,zf,zf,zt] N2
theorem z0t:u0O= .seq a0c d0a:=by kernel_rfl
theorem z0q:a0c= .region 0 (oC a0c) false:=by kernel_rfl
theorem z0u:d0a= .seq e0L e0M:=by kernel_rfl
theorem z0v:e0L= .seq a0d b0C:=by kernel_rfl
theorem z0r:a0d= .region 1 (oC a0d) false:=by kernel_rfl
theorem z0p:b0C= .cond (.tmp 15) j0d .skip:=by kernel_rfl
theorem z0w:j0d= .seq c0d .ret:=by kernel_rfl
theorem z0s:c0d= .region 2 (oC c0d) false:=by kernel_rfl
theorem Q7(args:Array Value):Frame.enter Tryd.prog 20 args .normal=(Go.Conc.base 20).at {tmps:=args++Array.replicate (31 - args.size) undef,defers:=[]} [.code u0O]:=enter_at args Tryd.func20 rfl
theorem d0k:X0 20:=G1 Tryd.func20 rfl rfl
def s0u(s:Nat→Value):Array Value:= #[s 0,s 1,s 2,s 3,s 4,s 5,s 6,s 7,s 8,s 9,s 10,s 11,s 12,s 13,s 14,s 15,s 16,s 17,s 18,s 19,s 20,s 21,s 22,s 23,s 24,s 25,s 26,s 27,s 28,s 29,s 30]
theorem x0R{A:Array Value}(h:A.size=31):∃s,A=s0u s:=by
 obtain⟨s,hs,_⟩:=F3 A h
 exact⟨s,hs⟩
theorem p0j{lb:Nat}{sv:Value}{i:Int}(hi:i<0){c:Frame}
 (h:E0 Tryd.prog main F Stop (G (c.finish (.tuple #[.bool false,.int .i64 1])) cs) w):
 E0 Tryd.prog main F Stop (G (Frame.enter Tryd.prog 20 #[.pointer (some ⟨lb,0,none⟩),sv,.int .i64 i] .normal) (c::cs)) w:=by
 have e0:decide (i<0)=true:=decide_eq_true hi
 rw[Q7]
 walk_nrm
 refine ogSR z0t z0q ?_
 simp only[a0c,N2,Tryd.f20,zz,Nat.reduceAdd]
 iterate 2 (refine oW fun dd K hK=>?_;go_simp;refine qT hK ?_;clear hK K)
 refine I0 ?_
 refine z0f z0u ?_
 refine ogSR z0v z0r ?_
 simp only[a0d,N2,Tryd.f20,zz,Nat.reduceAdd]
 iterate 3 (refine oW fun dd K hK=>?_;go_simp;refine qT hK ?_;clear hK K)
 iterate 4 refine ogU rfl rfl ?_
 (refine oW fun dd K hK=>?_;go_simp;refine qT hK ?_;clear hK K)
 refine I0 ?_
 rw[z0p]
 refine ogT ?_
 simp only[if_true]
 refine ogSR z0w z0s ?_
 simp only[c0d,N2,Tryd.f20,zz,Nat.reduceAdd]
 iterate 2 (refine oW fun dd K hK=>?_;go_simp;refine qT hK ?_;clear hK K)
 refine I0 ?_
 refine ogX ?_
 refine G0 rfl (fun d=>stepG_leave (fn:=Tryd.f20) (v:=.tuple #[.bool false,.int .i64 1]) rfl rfl Tryd.func20 (by simp[results,Tryd.f20]) (by simp[results,Tryd.f20,go_sem])) ?_
 exact h
theorem p0i{lb wb n m:Nat}{sv:Value}{i:Int}(hs:BH lb wb n m w)(h0:¬i<0)(hi:(n:Int)≤i){c:Frame}
 (h:E0 Tryd.prog main F Stop (G (c.finish (.tuple #[.bool false,vI 1])) cs) w):
 E0 Tryd.prog main F Stop (G (Frame.enter Tryd.prog 20 #[vP lb 0,sv,vI i] .normal) (c::cs)) w:=by
 have e0:decide (i<0)=false:=decide_eq_false h0
 have e1:decide ((n:Int)≤i)=true:=decide_eq_true hi
 rw[Q7]
 walk_nrm
 refine ogW a0c d0a ?_
 simp only[a0c,N2,Tryd.f20,zz,Nat.reduceAdd]
 iterate 2 refine oT ?_
 refine I0<|ogV e0L e0M<|ogW a0d b0C ?_
 simp only[a0d,N2,Tryd.f20,zz,Nat.reduceAdd]
 iterate 5 refine oT ?_
 refine oc X6 #[vP lb 0] ?_
 refine Y7 hs ?_
 rw[Frame.finish_at]
 walk_nrm
 iterate 2 refine oT ?_
 refine I0<|ogYn j0d<|ogW c0d .ret ?_
 simp only[c0d,N2,Tryd.f20,zz,Nat.reduceAdd]
 iterate 2 refine oT ?_
 refine I0<|ogX ?_
 refine G0 rfl (fun d=>stepG_leave (fn:=Tryd.f20) (v:=.tuple #[.bool false,vI 1]) rfl rfl Tryd.func20 (by simp[results,Tryd.f20]) (by simp[results,Tryd.f20,go_sem])) ?_
 exact h
theorem w0B{lb wb n m:Nat}{sv:Value}{i:Nat}(hs:BH lb wb n m w)(hi:i<n)
 (h:∀A,D0 31 A [(0,vP lb 0),(1,sv),(2,vI (i:Nat))]→E0 Tryd.prog main F Stop (G (Frame.enter Tryd.prog 48 #[sv] .normal) ((bA 20 A [.inRegion (oC e0K) [1],.code j0e])::cs)) w):
 E0 Tryd.prog main F Stop (G (Frame.enter Tryd.prog 20 #[vP lb 0,sv,vI (i:Nat)] .normal) cs) w:=by
 have e0:decide ((i:Int)<0)=false:=decide_eq_false (by omega)
 have e1:decide (n≤i)=false:=decide_eq_false (by omega)
 rw[Q7]
 walk_nrm
 refine ogW a0c d0a ?_
 simp only[a0c,N2,Tryd.f20,zz,Nat.reduceAdd]
 iterate 2 refine oT ?_
 refine I0<|ogV e0L e0M<|ogW a0d b0C ?_
 simp only[a0d,N2,Tryd.f20,zz,Nat.reduceAdd]
 iterate 5 refine oT ?_
 refine oc X6 #[vP lb 0] ?_
 refine Y7 hs ?_
 rw[Frame.finish_at]
 walk_nrm
 iterate 2 refine oT ?_
 refine I0<|ogGn .skip<|ogK<|ogW e0K j0e ?_
 simp only[e0K,N2,Tryd.f20,zz,Nat.reduceAdd]
 refine oT ?_
 refine oc O3 #[sv] ?_
 refine h _ ?_
 exact⟨rfl,rfl,rfl,rfl,trivial⟩
theorem r0s{lb wb n m:Nat}{sv:Value}{i:Nat}{b:Bool}{x:BitVec 64}(hs:BH lb wb n m w)(hi:i<n)(hc:w.cell? ⟨wb,i / 64,none⟩=some (wV x))(hx:(bits .and .u64 ((x.toNat:Int) / 2 ^ ((i:Int) % 64).toNat) 1 == 1)=b){A:Array Value}(hA:D0 31 A [(0,vP lb 0),(1,sv),(2,vI (i:Nat))]){c:Frame}
 (h:E0 Tryd.prog main F Stop (G (c.finish (.tuple #[.bool b,vI 0])) cs) w):
 E0 Tryd.prog main F Stop (G ((bA 20 A [.inRegion (oC e0K) [1],.code j0e]).finish (.tuple #[])) (c::cs)) w:=by
 obtain⟨s,rfl,h0,h1,h2,_⟩:=D5 s0u hA
 simp only[s0u,h0,h1,h2]
 clear h0 h1 h2
 have hn:=hs.hn
 have c1:=hs.c1
 have hq:IntKind.i64.wrap ((i:Int) / 64)=(i:Int) / 64:=IntWalk.i64_in _ (by omega)
 have hd:0≤(i:Int) / 64∧(i:Int) / 64<(m:Int):=by have:=hs.hm;omega
 have ht:((i:Int) / 64).toNat=i / 64:=by omega
 have hm:(i:Int).tmod 64=(i:Int) % 64:=Int.tmod_eq_emod_of_nonneg (by omega)
 have h0:0≤(i:Int) % 64:=by omega
 have h64:(i:Int) % 64≤64:=by omega
 rw[Frame.finish_at]
 simp only[e0K,N2,Tryd.f20,zz,Nat.reduceAdd]
 walk_nrm
 refine I0<|ogW q0p .ret ?_
 simp only[q0p,N2,Tryd.f20,zz,Nat.reduceAdd]
 iterate 3 refine oT ?_
 refine oL ?_
 iterate 2 refine oT ?_
 refine oX ?_
 refine oc V4 #[vP wb (i / 64)] ?_
 refine C8 hc rfl ?_
 rw[Frame.finish_at]
 walk_nrm
 iterate 7 refine oT ?_
 refine I0<|ogX ?_
 refine G0 rfl (fun d=>stepG_leave (fn:=Tryd.f20) (v:=.tuple #[.bool b,vI 0]) rfl rfl Tryd.func20 (by simp[results,Tryd.f20]) (by simp[results,Tryd.f20,go_sem])) ?_
 exact h
end
noncomputable section
variable {cs:List Frame}{main:Bool}{Stop:Goroutine→World→Prop}
variable{F:Fz}{w:World}
def O0:Code:=Tryd.f45.body.getD .skip
def u0E:=pC [] O0
def b07:=pC [zt] O0
def e0E:=pC [zf] O0
def g0s:=pC [zt] e0E
def b08:=pC [zf,zt,zt] O0
def c02:=pC [zf] g0s
def u0F:=pC [zt] c02
def e0F:=pC [zf] e0E
def i05:=pC [zt] e0F
def e0B:=pC [zf,zf,zt,zt] O0
def g0q:=pC [zf] i05
def l0W:=pC [zt] g0q
def a7:=pC [zt] l0W
def c04:=pC [zt] a7
def P8:=pC [zf,zf,zt,zf,zt,zt,zt,zt] O0
def b0u:=pC [zf] c04
def b06:=pC [zf] a7
def q0i:=pC [zt] b06
def u6:=pC [zf,zf,zt,zf,zt,zt,zf,zt,zt] O0
def M6:=pC [zf] q0i
def e0C:=pC [zf,zf,zt,zf,zt,zt,zf,zt,zf,zt] O0
def c03:=pC [zf] M6
def f0C:=pC [zt] c03
def e0D:=pC [zf,zf,zt,zf,zt,zt,zf,zt,zf,zf,zt,zt] O0
def f0B:=pC [zf] f0C
def h0V:=pC [zt] f0B
def g0r:=pC [zf,zf,zt,zf,zt,zt,zf,zt,zf,zf,zt,zf,zt,zt] O0
def f0D:=pC [zf] c03
def q0h:=pC [zf,zf,zt,zf,zt,zt,zf,zt,zf,zf,zf,zt] O0
def l0Z:=pC [zf] f0D
def l9:=pC [zf,zf,zt,zf,zt,zt,zf,zt,zf,zf,zf,zf,zt] O0
def b0x:=pC [zf] l0Z
def b0v:=pC [zf,zf,zt,zf,zt,zt,zf,zt,zf,zf,zf,zf,zf,zt] O0
def h0T:=pC [zf] b0x
def s0p:=pC [zt] h0T
def l0X:=pC [zf,zf,zt,zf,zt,zt,zf,zt,zf,zf,zf,zf,zf,zf,zt,zt] O0
def v5:=pC [zf] e0F
def b0w:=pC [zf,zf,zf,zt] O0
theorem h0R:g0q= .block 0 l0W:=by kernel_rfl
theorem h0U:l0W= .loop a7:=by kernel_rfl
theorem h0S:b06= .block 1 q0i:=by kernel_rfl
theorem i04:h0V= .seq g0r (.exit 1):=by kernel_rfl
theorem l0Y:g0r= .region 8 (oC g0r) false:=by kernel_rfl
theorem i03:b0v= .region 11 (oC b0v) true:=by kernel_rfl
theorem P9(args:Array Value):Frame.enter Tryd.prog 45 args .normal=(Go.Conc.base 45).at {tmps:=args++Array.replicate (55 - args.size) undef,defers:=[]} [.code u0E]:=enter_at args Tryd.func45 rfl
theorem d0m:X0 45:=G1 Tryd.func45 rfl rfl
def c0Z(s:Nat→Value):Array Value:= #[s 0,s 1,s 2,s 3,s 4,s 5,s 6,s 7,s 8,s 9,s 10,s 11,s 12,s 13,s 14,s 15,s 16,s 17,s 18,s 19,s 20,s 21,s 22,s 23,s 24,s 25,s 26,s 27,s 28,s 29,s 30,s 31,s 32,s 33,s 34,s 35,s 36,s 37,s 38,s 39,s 40,s 41,s 42,s 43,s 44,s 45,s 46,s 47,s 48,s 49,s 50,s 51,s 52,s 53,s 54]
theorem x0N{A:Array Value}(h:A.size=55):∃s,A=c0Z s:=by
 obtain⟨s,hs,_⟩:=F3 A h
 exact⟨s,hs⟩
theorem v0M{lb wb n m:Nat}{sv:Value}(hs:BH lb wb n m w)(h0:m=0){c:Frame}
 (h:E0 Tryd.prog main F Stop (G (c.finish (.tuple #[vI 0,vI 3])) cs) w):
 E0 Tryd.prog main F Stop (G (Frame.enter Tryd.prog 45 #[vP lb 0,sv] .normal) (c::cs)) w:=by
 have c1:=hs.c1
 have hd:decide (0<m)=false:=decide_eq_false (by omega)
 rw[P9]
 walk_nrm
 refine ogW b07 e0E ?_
 simp only[b07,O0,Tryd.f45,zz,Nat.reduceAdd]
 iterate 2 refine oT ?_
 refine I0<|ogV g0s e0F<|ogW b08 c02 ?_
 simp only[b08,O0,Tryd.f45,zz,Nat.reduceAdd]
 iterate 2 refine oT ?_
 refine I0<|ogGn .skip<|ogK<|ogV i05 v5<|ogW e0B g0q ?_
 simp only[e0B,O0,Tryd.f45,zz,Nat.reduceAdd]
 refine oT ?_
 refine I0 ?_
 rw[h0R]
 refine K5 ?_
 rw[h0U]
 refine ogP<|ogV c04 b06<|ogW P8 b0u ?_
 simp only[P8,O0,Tryd.f45,zz,Nat.reduceAdd]
 iterate 4 refine oT ?_
 refine oL ?_
 iterate 2 refine oT ?_
 refine I0<|ogGn (.exit 0) ?_
 refine G0 rfl (fun d=>stepG_exit rfl) ?_
 refine ogW b0w .ret ?_
 simp only[b0w,O0,Tryd.f45,zz,Nat.reduceAdd]
 iterate 2 refine oT ?_
 refine I0<|ogX ?_
 refine G0 rfl (fun d=>stepG_leave (fn:=Tryd.f45) (v:=.tuple #[vI 0,vI 3]) rfl rfl Tryd.func45 (by simp[results,Tryd.f45]) (by simp[results,Tryd.f45,go_sem])) ?_
 exact h
theorem y0m{lb wb n m:Nat}{sv:Value}(hs:BH lb wb n m w)(h0:0<m)
 (h:∀A,D0 55 A [(0,vP lb 0),(1,sv),(6,vI (0:Nat))]→E0 Tryd.prog main F Stop (G (Frame.enter Tryd.prog 48 #[sv] .normal) ((bA 45 A [.inRegion (oC u6) [1],.code M6,.inBlock 1,.inLoop a7,.inBlock 0,.code v5])::cs)) w):
 E0 Tryd.prog main F Stop (G (Frame.enter Tryd.prog 45 #[vP lb 0,sv] .normal) cs) w:=by
 have c1:=hs.c1
 have hd:decide (0<m)=true:=decide_eq_true h0
 rw[P9]
 walk_nrm
 refine ogW b07 e0E ?_
 simp only[b07,O0,Tryd.f45,zz,Nat.reduceAdd]
 iterate 2 refine oT ?_
 refine I0<|ogV g0s e0F<|ogW b08 c02 ?_
 simp only[b08,O0,Tryd.f45,zz,Nat.reduceAdd]
 iterate 2 refine oT ?_
 refine I0<|ogGn .skip<|ogK<|ogV i05 v5<|ogW e0B g0q ?_
 simp only[e0B,O0,Tryd.f45,zz,Nat.reduceAdd]
 refine oT ?_
 refine I0 ?_
 rw[h0R]
 refine K5 ?_
 rw[h0U]
 refine ogP<|ogV c04 b06<|ogW P8 b0u ?_
 simp only[P8,O0,Tryd.f45,zz,Nat.reduceAdd]
 iterate 4 refine oT ?_
 refine oL ?_
 iterate 2 refine oT ?_
 refine I0<|ogYn .skip<|ogK ?_
 rw[h0S]
 refine K5<|ogW u6 M6 ?_
 simp only[u6,O0,Tryd.f45,zz,Nat.reduceAdd]
 refine oT ?_
 refine oc O3 #[sv] ?_
 refine h _ ?_
 exact⟨rfl,rfl,rfl,rfl,trivial⟩
theorem v0N{lb wb n m:Nat}{k:Nat}{sv:Value}{x:BitVec 64}(hs:BH lb wb n m w)(hk:k<m)(hc:w.cell? ⟨wb,k,none⟩=some (wV x))(he:((x.toNat:Int) == ((a09 n k).toNat:Int))=true)(hl:k+1<m){A:Array Value}(hA:D0 55 A [(0,vP lb 0),(1,sv),(6,vI (k:Nat))])
 (h:∀A,D0 55 A [(0,vP lb 0),(1,sv),(6,vI (k+1:Nat))]→E0 Tryd.prog main F Stop (G (Frame.enter Tryd.prog 48 #[sv] .normal) ((bA 45 A [.inRegion (oC u6) [1],.code M6,.inBlock 1,.inLoop a7,.inBlock 0,.code v5])::cs)) w):
 E0 Tryd.prog main F Stop (G ((bA 45 A [.inRegion (oC u6) [1],.code M6,.inBlock 1,.inLoop a7,.inBlock 0,.code v5]).finish (.tuple #[])) (cs)) w:=by
 obtain⟨s,rfl,h0,h1,h6,_⟩:=D5 c0Z hA
 simp only[c0Z,h0,h1,h6]
 clear h0 h1 h6
 have c1:=hs.c1
 have hm1k:m≤1024:=by have:=hs.hm;have:=hs.hn;omega
 have hki:(k:Int)<(m:Int):=by omega
 have hw64:IntKind.i64.wrap ((k:Int)+1)=(k:Int)+1:=IntWalk.i64_in _ (by omega)
 have hd:decide ((k:Int)+1<(m:Int))=true:=decide_eq_true (by omega)
 have hd2:decide (k+1<m)=true:=decide_eq_true hl
 rw[Frame.finish_at]
 simp only[u6,O0,Tryd.f45,zz,Nat.reduceAdd]
 walk_nrm
 refine I0<|ogW e0C c03 ?_
 simp only[e0C,O0,Tryd.f45,zz,Nat.reduceAdd]
 iterate 3 refine oT ?_
 refine oL ?_
 refine oT ?_
 refine oX ?_
 refine oc V4 #[vP wb k] ?_
 refine C8 hc rfl ?_
 rw[Frame.finish_at]
 walk_nrm
 refine oT ?_
 refine I0<|ogV f0C f0D<|ogW e0D f0B ?_
 simp only[e0D,O0,Tryd.f45,zz,Nat.reduceAdd]
 iterate 3 refine oT ?_
 refine oc a0A #[vP lb 0,vI (k:Nat)] ?_
 refine d0U hs hk ?_
 rw[Frame.finish_at]
 walk_nrm
 refine oT ?_
 refine I0<|ogYn h0V<|ogSR i04 l0Y ?_
 simp only[g0r,O0,Tryd.f45,zz,Nat.reduceAdd]
 iterate 3 refine oT ?_
 refine I0 ?_
 refine G0 rfl (fun d=>stepG_exit rfl) ?_
 refine ogL<|ogV c04 b06<|ogW P8 b0u ?_
 simp only[P8,O0,Tryd.f45,zz,Nat.reduceAdd]
 iterate 4 refine oT ?_
 refine oL ?_
 iterate 2 refine oT ?_
 refine I0<|ogYn .skip<|ogK ?_
 rw[h0S]
 refine K5<|ogW u6 M6 ?_
 simp only[u6,O0,Tryd.f45,zz,Nat.reduceAdd]
 refine oT ?_
 refine oc O3 #[sv] ?_
 refine h _ ?_
 exact⟨rfl,rfl,rfl,rfl,trivial⟩
theorem v0O{lb wb n m:Nat}{k:Nat}{sv:Value}{x:BitVec 64}(hs:BH lb wb n m w)(hk:k<m)(hc:w.cell? ⟨wb,k,none⟩=some (wV x))(he:((x.toNat:Int) == ((a09 n k).toNat:Int))=true)(hl:k+1=m){A:Array Value}(hA:D0 55 A [(0,vP lb 0),(1,sv),(6,vI (k:Nat))]){c:Frame}
 (h:E0 Tryd.prog main F Stop (G (c.finish (.tuple #[vI 0,vI 3])) cs) w):
 E0 Tryd.prog main F Stop (G ((bA 45 A [.inRegion (oC u6) [1],.code M6,.inBlock 1,.inLoop a7,.inBlock 0,.code v5]).finish (.tuple #[])) (c::cs)) w:=by
 obtain⟨s,rfl,h0,h1,h6,_⟩:=D5 c0Z hA
 simp only[c0Z,h0,h1,h6]
 clear h0 h1 h6
 have c1:=hs.c1
 have hm1k:m≤1024:=by have:=hs.hm;have:=hs.hn;omega
 have hki:(k:Int)<(m:Int):=by omega
 have hw64:IntKind.i64.wrap ((k:Int)+1)=(k:Int)+1:=IntWalk.i64_in _ (by omega)
 have hd:decide ((k:Int)+1<(m:Int))=false:=decide_eq_false (by omega)
 have hd2:decide (k+1<m)=false:=decide_eq_false (by omega)
 rw[Frame.finish_at]
 simp only[u6,O0,Tryd.f45,zz,Nat.reduceAdd]
 walk_nrm
 refine I0<|ogW e0C c03 ?_
 simp only[e0C,O0,Tryd.f45,zz,Nat.reduceAdd]
 iterate 3 refine oT ?_
 refine oL ?_
 refine oT ?_
 refine oX ?_
 refine oc V4 #[vP wb k] ?_
 refine C8 hc rfl ?_
 rw[Frame.finish_at]
 walk_nrm
 refine oT ?_
 refine I0<|ogV f0C f0D<|ogW e0D f0B ?_
 simp only[e0D,O0,Tryd.f45,zz,Nat.reduceAdd]
 iterate 3 refine oT ?_
 refine oc a0A #[vP lb 0,vI (k:Nat)] ?_
 refine d0U hs hk ?_
 rw[Frame.finish_at]
 walk_nrm
 refine oT ?_
 refine I0<|ogYn h0V<|ogSR i04 l0Y ?_
 simp only[g0r,O0,Tryd.f45,zz,Nat.reduceAdd]
 iterate 3 refine oT ?_
 refine I0 ?_
 refine G0 rfl (fun d=>stepG_exit rfl) ?_
 refine ogL<|ogV c04 b06<|ogW P8 b0u ?_
 simp only[P8,O0,Tryd.f45,zz,Nat.reduceAdd]
 iterate 4 refine oT ?_
 refine oL ?_
 iterate 2 refine oT ?_
 refine I0<|ogGn (.exit 0) ?_
 refine G0 rfl (fun d=>stepG_exit rfl) ?_
 refine ogW b0w .ret ?_
 simp only[b0w,O0,Tryd.f45,zz,Nat.reduceAdd]
 iterate 2 refine oT ?_
 refine I0<|ogX ?_
 refine G0 rfl (fun d=>stepG_leave (fn:=Tryd.f45) (v:=.tuple #[vI 0,vI 3]) rfl rfl Tryd.func45 (by simp[results,Tryd.f45]) (by simp[results,Tryd.f45,go_sem])) ?_
 exact h
theorem v0P{lb wb n m:Nat}{k:Nat}{sv:Value}{x:BitVec 64}(hs:BH lb wb n m w)(hk:k<m)(hc:w.cell? ⟨wb,k,none⟩=some (wV x))(he:((x.toNat:Int) == ((a09 n k).toNat:Int))=false){nx:BitVec 64}(hT:Tab w)(hnx:nx≠0#64)(hxo:bits .xor .u64 (if IntKind.u64.signed=true then -1 else IntKind.u64.max) (x.toNat:Int)=(nx.toNat:Int)){A:Array Value}(hA:D0 55 A [(0,vP lb 0),(1,sv),(6,vI (k:Nat))])
 (h:∀A,D0 55 A [(0,vP lb 0),(1,sv),(6,vI (k:Nat)),(7,wV x),(8,vI (O7 nx:Nat))]→E0 Tryd.prog main F Stop (G (Frame.enter Tryd.prog 48 #[sv] .normal) ((bA 45 A [.inRegion (oC l9) [1],.code b0x,.inBlock 1,.inLoop a7,.inBlock 0,.code v5])::cs)) w):
 E0 Tryd.prog main F Stop (G ((bA 45 A [.inRegion (oC u6) [1],.code M6,.inBlock 1,.inLoop a7,.inBlock 0,.code v5]).finish (.tuple #[])) (cs)) w:=by
 obtain⟨s,rfl,h0,h1,h6,_⟩:=D5 c0Z hA
 simp only[c0Z,h0,h1,h6]
 clear h0 h1 h6
 have c1:=hs.c1
 have hm1k:m≤1024:=by have:=hs.hm;have:=hs.hn;omega
 have hki:(k:Int)<(m:Int):=by omega
 have hw64:IntKind.i64.wrap ((k:Int)+1)=(k:Int)+1:=IntWalk.i64_in _ (by omega)
 rw[Frame.finish_at]
 simp only[u6,O0,Tryd.f45,zz,Nat.reduceAdd]
 walk_nrm
 refine I0<|ogW e0C c03 ?_
 simp only[e0C,O0,Tryd.f45,zz,Nat.reduceAdd]
 iterate 3 refine oT ?_
 refine oL ?_
 refine oT ?_
 refine oX ?_
 refine oc V4 #[vP wb k] ?_
 refine C8 hc rfl ?_
 rw[Frame.finish_at]
 walk_nrm
 refine oT ?_
 refine I0<|ogV f0C f0D<|ogW e0D f0B ?_
 simp only[e0D,O0,Tryd.f45,zz,Nat.reduceAdd]
 iterate 3 refine oT ?_
 refine oc a0A #[vP lb 0,vI (k:Nat)] ?_
 refine d0U hs hk ?_
 rw[Frame.finish_at]
 walk_nrm
 refine oT ?_
 refine I0<|ogGn .skip<|ogK<|ogW q0h l0Z ?_
 simp only[q0h,O0,Tryd.f45,zz,Nat.reduceAdd]
 iterate 2 refine oT ?_
 refine oc d0p #[wV nx] ?_
 refine k0e hT hnx ?_
 rw[Frame.finish_at]
 walk_nrm
 refine oT ?_
 refine I0<|ogW l9 b0x ?_
 simp only[l9,O0,Tryd.f45,zz,Nat.reduceAdd]
 refine oT ?_
 refine oc O3 #[sv] ?_
 refine h _ ?_
 exact⟨rfl,rfl,rfl,rfl,rfl,rfl,trivial⟩
theorem v0Q{lb wb n m:Nat}{k i:Nat}{sv:Value}{x y z bb:BitVec 64}(hs:BH lb wb n m w)(hk:k<m)(hi:i<64)(hbb:IntKind.u64.wrap (2 ^ i)=(bb.toNat:Int))(hor:bits .or .u64 (x.toNat:Int) (bb.toNat:Int)=(z.toNat:Int))(hq:((y.toNat:Int) == (x.toNat:Int))=true)(hc:w.cell? ⟨wb,k,none⟩=some (wV y))(hz:w.frozen? ⟨wb,k,none⟩=false)(hnh:¬held F ⟨wb,k,none⟩){A:Array Value}(hA:D0 55 A [(0,vP lb 0),(1,sv),(6,vI (k:Nat)),(7,wV x),(8,vI (i:Nat))]){c:Frame}
 (h:E0 Tryd.prog main F Stop (G (c.finish (.tuple #[vI (64*(k:Int)+(i:Int)),vI 0])) cs) (w.setCell ⟨wb,k,none⟩ (wV z))):
 E0 Tryd.prog main F Stop (G ((bA 45 A [.inRegion (oC l9) [1],.code b0x,.inBlock 1,.inLoop a7,.inBlock 0,.code v5]).finish (.tuple #[])) (c::cs)) w:=by
 obtain⟨s,rfl,h0,h1,h6,h7,h8,_⟩:=D5 c0Z hA
 simp only[c0Z,h0,h1,h6,h7,h8]
 clear h0 h1 h6 h7 h8
 have hS:∀w d,BH lb wb n m w→BH lb wb n m (World.at w d):=fun w d h=>h.at d
 have c1:=hs.c1
 have hm1k:m≤1024:=by have:=hs.hm;have:=hs.hn;omega
 have hki:(k:Int)<(m:Int):=by omega
 have hw64:IntKind.i64.wrap ((k:Int)+1)=(k:Int)+1:=IntWalk.i64_in _ (by omega)
 have hi64:(i:Int)≤64:=by omega
 have hm1:IntKind.i64.wrap (64*(k:Int))=64*(k:Int):=IntWalk.i64_in _ (by omega)
 have hm2:IntKind.i64.wrap (64*(k:Int)+(i:Int))=64*(k:Int)+(i:Int):=IntWalk.i64_in _ (by omega)
 rw[Frame.finish_at]
 simp only[l9,O0,Tryd.f45,zz,Nat.reduceAdd]
 walk_nrm
 refine I0<|ogV b0v h0T ?_
 rw[i03]
 refine B8 (BH lb wb n m) (last:=11) K2 (Q6 (by kernel_rfl)) (by decide) ?_
 simp only[b0v,O0,Tryd.f45,zz,Nat.reduceAdd]
 refine tkC 0 (vP lb 0) hS hs ?_
 walk_nrm
 refine tkC 1 (vP lb 0) hS hs ?_
 walk_nrm
 refine tkC 2 (vP lb 1) hS hs ?_
 walk_nrm
 refine i0P 3 (vL wb 0 m m) (fun u hu=>hu.c1) hS hs ?_
 walk_nrm
 refine tkC 4 (vI (k:Nat)) hS hs ?_
 walk_nrm
 refine c0E 5 (vP wb k) (fun u hu=>(And.intro hki hk)) hS hs ?_
 walk_nrm
 refine tkC 6 (wV x) hS hs ?_
 walk_nrm
 refine tkC 7 (wV x) hS hs ?_
 walk_nrm
 refine tkC 8 (vI (i:Nat)) hS hs ?_
 walk_nrm
 refine c0E 9 (wV bb) (fun u hu=>(And.intro hi (And.intro hbb hi64))) hS hs ?_
 walk_nrm
 refine c0E 10 (wV z) (fun u hu=>hor) hS hs ?_
 walk_nrm
 refine L6 (by kernel_rfl) ?_ _
 refine oc x8 #[vP wb k,wV x,wV z] ?_
 refine b0f (t:=true) hq hc rfl hz hnh ?_
 rw[Frame.finish_at]
 walk_nrm
 simp only[if_true]
 refine I0<|ogYn s0p<|ogW l0X .ret ?_
 simp only[l0X,O0,Tryd.f45,zz,Nat.reduceAdd]
 iterate 6 refine oT ?_
 refine I0<|ogX ?_
 refine G0 rfl (fun d=>stepG_leave (fn:=Tryd.f45) (v:=.tuple #[vI (64*(k:Int)+(i:Int)),vI 0]) rfl rfl Tryd.func45 (by simp[results,Tryd.f45]) (by simp[results,Tryd.f45,go_sem])) ?_
 exact h
theorem v0R{lb wb n m:Nat}{k i:Nat}{sv:Value}{x y z bb:BitVec 64}(hs:BH lb wb n m w)(hk:k<m)(hi:i<64)(hbb:IntKind.u64.wrap (2 ^ i)=(bb.toNat:Int))(hor:bits .or .u64 (x.toNat:Int) (bb.toNat:Int)=(z.toNat:Int))(hq:((y.toNat:Int) == (x.toNat:Int))=false)(hc:w.cell? ⟨wb,k,none⟩=some (wV y))(hz:w.frozen? ⟨wb,k,none⟩=false)(hnh:¬held F ⟨wb,k,none⟩){A:Array Value}(hA:D0 55 A [(0,vP lb 0),(1,sv),(6,vI (k:Nat)),(7,wV x),(8,vI (i:Nat))])
 (h:∀A,D0 55 A [(0,vP lb 0),(1,sv),(6,vI (k:Nat))]→E0 Tryd.prog main F Stop (G (Frame.enter Tryd.prog 48 #[sv] .normal) ((bA 45 A [.inRegion (oC u6) [1],.code M6,.inBlock 1,.inLoop a7,.inBlock 0,.code v5])::cs)) w):
 E0 Tryd.prog main F Stop (G ((bA 45 A [.inRegion (oC l9) [1],.code b0x,.inBlock 1,.inLoop a7,.inBlock 0,.code v5]).finish (.tuple #[])) (cs)) w:=by
 obtain⟨s,rfl,h0,h1,h6,h7,h8,_⟩:=D5 c0Z hA
 simp only[c0Z,h0,h1,h6,h7,h8]
 clear h0 h1 h6 h7 h8
 have hS:∀w d,BH lb wb n m w→BH lb wb n m (World.at w d):=fun w d h=>h.at d
 have c1:=hs.c1
 have hm1k:m≤1024:=by have:=hs.hm;have:=hs.hn;omega
 have hki:(k:Int)<(m:Int):=by omega
 have hw64:IntKind.i64.wrap ((k:Int)+1)=(k:Int)+1:=IntWalk.i64_in _ (by omega)
 have hi64:(i:Int)≤64:=by omega
 have hm1:IntKind.i64.wrap (64*(k:Int))=64*(k:Int):=IntWalk.i64_in _ (by omega)
 have hm2:IntKind.i64.wrap (64*(k:Int)+(i:Int))=64*(k:Int)+(i:Int):=IntWalk.i64_in _ (by omega)
 have hd:decide ((k:Int)<(m:Int))=true:=decide_eq_true (by omega)
 have hd2:decide (k<m)=true:=decide_eq_true hk
 rw[Frame.finish_at]
 simp only[l9,O0,Tryd.f45,zz,Nat.reduceAdd]
 walk_nrm
 refine I0<|ogV b0v h0T ?_
 rw[i03]
 refine B8 (BH lb wb n m) (last:=11) K2 (Q6 (by kernel_rfl)) (by decide) ?_
 simp only[b0v,O0,Tryd.f45,zz,Nat.reduceAdd]
 refine tkC 0 (vP lb 0) hS hs ?_
 walk_nrm
 refine tkC 1 (vP lb 0) hS hs ?_
 walk_nrm
 refine tkC 2 (vP lb 1) hS hs ?_
 walk_nrm
 refine i0P 3 (vL wb 0 m m) (fun u hu=>hu.c1) hS hs ?_
 walk_nrm
 refine tkC 4 (vI (k:Nat)) hS hs ?_
 walk_nrm
 refine c0E 5 (vP wb k) (fun u hu=>(And.intro hki hk)) hS hs ?_
 walk_nrm
 refine tkC 6 (wV x) hS hs ?_
 walk_nrm
 refine tkC 7 (wV x) hS hs ?_
 walk_nrm
 refine tkC 8 (vI (i:Nat)) hS hs ?_
 walk_nrm
 refine c0E 9 (wV bb) (fun u hu=>(And.intro hi (And.intro hbb hi64))) hS hs ?_
 walk_nrm
 refine c0E 10 (wV z) (fun u hu=>hor) hS hs ?_
 walk_nrm
 refine L6 (by kernel_rfl) ?_ _
 refine oc x8 #[vP wb k,wV x,wV z] ?_
 refine b0f (t:=false) hq hc rfl hz hnh ?_
 rw[Frame.finish_at]
 walk_nrm
 simp only[Bool.false_eq_true,if_false]
 refine I0<|ogGn .skip<|ogK<|ogI<|ogL<|ogV c04 b06<|ogW P8 b0u ?_
 simp only[P8,O0,Tryd.f45,zz,Nat.reduceAdd]
 iterate 4 refine oT ?_
 refine oL ?_
 iterate 2 refine oT ?_
 refine I0<|ogYn .skip<|ogK ?_
 rw[h0S]
 refine K5<|ogW u6 M6 ?_
 simp only[u6,O0,Tryd.f45,zz,Nat.reduceAdd]
 refine oT ?_
 refine oc O3 #[sv] ?_
 refine h _ ?_
 exact⟨rfl,rfl,rfl,rfl,trivial⟩
end
section
variable{w w':World}
theorem l0j{base n size cap g:Nat}{e:TypeId}{xs:List Value}(h:w.ownsRow base e size (vL g 0 n cap) n xs):∀j u,xs[j]? =some u→w.cell? ((⟨g,0,none⟩:Addr).add j)=some u:=by
 intro j u hj
 obtain⟨b,c,e1,h1⟩:=G8 h hj
 cases e1
 have e1:(⟨g,0,none⟩:Addr).add j=⟨g,j,none⟩:=by
  unfold Addr.add
  split
  ·subst_vars;rfl
  ·simp
 rw[e1]
 exact h1.c
theorem b0T{P:Program}{w:World}(t ty e:TypeId)(i:TypeInfo)(z:Value)(size bytes:Nat)(ht:P.underlying t=some (.slice e))(hi:P.info? e=some i)(hz:i.zero=some z)
 (P5:i.size=size) (hby:i.bytes=bytes) (hzs:z.cells.size=size) (hsz:0<size)
 (v:Value) (n:Nat) (xs:List Value) (hown:w.ownsRow 0 e size v n xs)
 (a:Addr) (m c:Nat) (news:List Value) (hl:news.length=m*size) (hnews:∀j u,news[j]? =some u→w.cell? (a.add j)=some u) (h1:∀u∈news,u.oneCell'=true)
 (h63:n+m≤maxLen) (hbytes:(n+m)*bytes≤140737488355328):
 ∃v' w',(Builtin.append_ #[t,t] ty #[v,.slice (some a) m c]).run P w= .ok v' w'∧w'.ownsRow 0 e size v' (n+m) (xs++news)∧w.grownBy w' v.ownBlock∧(v'.ownBlock=v.ownBlock∨∃g,v'.ownBlock=some g∧w.heap.size≤g):=by
 rcases hown.2 with⟨rfl,rfl⟩|⟨g,cap,cur,rfl,h2,h3,h4,h5,h6,h7⟩
 ·have hxs:xs=[]:=List.eq_nil_of_length_eq_zero (by have:=hown.1;simpa using this)
  subst hxs
  obtain⟨v',w',hrun,r1,r2,_⟩:=run_append_own (P:=P) w w.heap.size t ty e i z size bytes ht hi hz P5 hby hzs hsz (.slice none 0 0) 0 [] (World.ownsRow_nil w _ e size) a m c news hl hnews h1 h63 hbytes (Nat.le_refl _)
  refine⟨v',w',hrun,C4 (Nat.zero_le _) r1,r2,?_⟩
  rcases r1.2 with⟨rfl,_⟩|⟨g',cap',cur',rfl,h2,_⟩
  ·exact .inl rfl
  ·exact .inr ⟨g',rfl,h2⟩
 ·by_cases hroom:n+m≤cap
  ·obtain⟨w',hr,r1,r2⟩:=run_append_own_spare (P:=P) w 0 t ty e i size ht hi P5 g n cap xs hown a m c news hl hnews h1 hroom
   exact⟨_,w',hr,r1,r2,.inl rfl⟩
  ·obtain⟨v',w',hrun,r1,r2⟩:=run_append_arg_grows (P:=P) w t ty e i z size bytes ht hi hz P5 hby hzs hsz ⟨g,0,none⟩ n cap xs hown.1 (l0j hown) a m c news hl hnews (by omega) h63 hbytes
   refine⟨v',w',hrun,C4 (Nat.zero_le _) r1,⟨r2.os,r2.tape,r2.output,r2.size,fun k hk _=>r2.block k hk (by simp)⟩,?_⟩
   rcases r1.2 with⟨rfl,h0⟩|⟨g',cap',cur',rfl,h2,_⟩
   ·omega
   ·exact .inr ⟨g',rfl,h2⟩
theorem G7{P:Program}{ops:Array Oper}{rest:List Oper}{o:Oper}{a:Act}{w:World}{Q:Exit→Act→World→Prop}(hgd:o.guard=none)(s x:Operand)(t:TypeId)
 (ho:o.op= .call {callee:=.builtin .append,args:= #[s,x],argTypes:= #[t,t]})
 (e:TypeId) (i:TypeInfo) (z:Value) (size bytes:Nat) (h1:P.underlying t=some (.slice e)) (h2:P.info? e=some i) (h3:i.zero=some z) (h4:i.size=size) (h5:i.bytes=bytes) (h6:z.cells.size=size) (h7:0<size)
 (v:Value) (n:Nat) (olds:List Value) (hs:a.eval s=v) (hown:w.ownsRow 0 e size v n olds)
 (ad:Addr) (m c:Nat) (news:List Value) (hx:a.eval x= .slice (some ad) m c) (hn:news.length=m*size) (hc:∀j u,news[j]? =some u→w.cell? (ad.add j)=some u) (h1c:∀u∈news,u.oneCell'=true)
 (b1:n+m≤maxLen) (b2:(n+m)*bytes≤140737488355328)
 (h:∀v' w',w'.ownsRow 0 e size v' (n+m) (olds++news)→w.grownBy w' v.ownBlock→(v'.ownBlock=v.ownBlock∨∃g,v'.ownBlock=some g∧w.heap.size≤g)→wpList P ops Q rest (a.put o.dst v') w'):wpList P ops Q (o::rest) a w:=
 wpList_plain hgd fun _ hK=>by
  obtain⟨v',w',hrun,r1,r2,r3⟩:=b0T (P:=P) (w:=w) t o.type e i z size bytes h1 h2 h3 h4 h5 h6 h7 v n olds hown ad m c news hn hc h1c b1 b2
  unfold Oper.wp execOp
  simp only[ho,resolve,invoke,builtin,Sem.run_bind,Sem.run_pure,Result.andThen_ok,List.map_toArray,List.map_cons,List.map_nil,hs,hx,hrun]
  exact hK _ _ (h v' w' r1 r2 r3)
theorem n0r{P:Program}{t:TypeId}{s b:Nat}(h:(P.info? t).map (fun i=>(i.zero.map (·.cells.size),i.size,i.bytes))=some (some s,s,b)):∃i z,P.info? t=some i∧i.zero=some z∧i.size=s∧i.bytes=b∧z.cells.size=s:=by
 obtain⟨i,hi,h1⟩:=Option.map_eq_some_iff.1 h
 simp only[Prod.mk.injEq]at h1
 obtain⟨z,hz,h2⟩:=Option.map_eq_some_iff.1 h1.1
 exact⟨i,z,hi,hz,h1.2.1,h1.2.2,h2⟩
theorem t0f:∃i z,Tryd.prog.info? 3=some i∧i.zero=some z∧i.size=1∧i.bytes=8∧z.cells.size=1:=n0r (by kernel_rfl)
theorem t0e:∃i z,Tryd.prog.info? 2=some i∧i.zero=some z∧i.size=1∧i.bytes=8∧z.cells.size=1:=n0r (by kernel_rfl)
theorem f0f{X:World}{l:List Value}{e:TypeId}{z:Nat}(hz:X.heap.size=z):∀(j:Nat) (u:Value),l[j]? =some u→(X.alloc (.cells l.toArray e)).cell? ((⟨z,0,none⟩:Addr).add j)=some u:=by
 intro j u h
 subst hz
 have hb:=heap_alloc_new X (.cells l.toArray e)
 have e1:(⟨X.heap.size,0,none⟩:Addr).add j=⟨X.heap.size,j,none⟩:=by
  unfold Addr.add
  split
  ·subst_vars;rfl
  ·simp
 rw[e1]
 simp only[World.cell?,hb]
 simpa using h
theorem l0e{v:Value}{base n size:Nat}{e:TypeId}{xs:List Value}(h:w.ownsRow base e size v (n+1) xs):∃g cap,v=vL g 0 (n+1) cap:=by
 rcases h.2 with⟨_,h⟩|⟨g,cap,_,h,_⟩
 ·omega
 ·exact⟨g,cap,h⟩
theorem b0p{W w1:World}{o:Obj}{row:Option Nat}(hg:(W.alloc o).grownBy w1 row){r:Nat}(hr:r<W.heap.size)(hne:some r≠row):w1.heap[r]? =W.heap[r]?:=
 (hg.block r (by simp;omega) hne).trans (o0 _ _ hr)
structure T9(w:World)(a:Option Addr)(xs:List Value):Prop where
 c:∀k x,xs[k]? =some x→∃b o,a=some ⟨b,o,none⟩∧w.cell? ⟨b,o+k,none⟩=some x
theorem T9.heap{a:Option Addr}{xs:List Value}(h:T9 w a xs)(e:w'.heap=w.heap):T9 w' a xs:=
 ⟨fun k x hx=>by
  obtain⟨b,o,h1,h2⟩:=h.c k x hx
  exact⟨b,o,h1,by simpa only[World.cell?,e]using h2⟩⟩
theorem p0N{base n size c:Nat}{e:TypeId}{a:Option Addr}{xs:List Value}(h:w.ownsRow base e size (.slice a n c) n xs):T9 w a xs:=
 ⟨fun k x hx=>by
  obtain⟨b,cap,e1,h1⟩:=G8 h hx
  cases e1
  exact⟨b,0,rfl,by rw[Nat.zero_add];exact h1.c⟩⟩
def s0E(v:Value):Option Addr:=match v with| .slice a _ _=>a|_=>none
def s0F(v:Value):Nat:=match v with| .slice _ _ c=>c|_=>0
theorem q0C{base n size:Nat}{e:TypeId}{v:Value}{xs:List Value}(h:w.ownsRow base e size v n xs):v= .slice (s0E v) n (s0F v):=by
 rcases h.2 with⟨rfl,rfl⟩|⟨g,cap,cur,rfl,_⟩<;>rfl
end
section
variable{F:Fz}{w:World}
theorem h0e{b:Frame}{a:Act}{k:List Item}{cs:List Frame}{ops:Array Oper}{i:Nat}{rest:List Nat}{o:Oper}{main:Bool}{Stop:Goroutine→World→Prop}(ho:ops[i]? =some o)(hwn:Region.wanted o (yielded ops a.tmps)=true)(hk:b.kind≠.early)(hok:f00 Tryd.prog (fun _=>false) false o.op=true)(hw:Wf F w)
 (H:∀d,∃v u,(execOp a.eval o).run Tryd.prog (T0 F (w.at d))= .ok (.value v) u∧∀w',u=T0 F w'→(∃j,i3 F (w.at d) w' j)→Wf F w'→E0 Tryd.prog main F Stop (G (b.at (a.put o.dst v) (.inRegion ops rest::k)) cs) w'):
 E0 Tryd.prog main F Stop (G (b.at a (.inRegion ops (i::rest)::k)) cs) w:=by
 refine oW (fun d K hK=>?_) ho hwn hk
 obtain⟨v,u,hr,hc⟩:=H d
 have hs:=u9 (P:=Tryd.prog) (F:=F) (S:=fun _=>false) (px:=false) (fun f h=>by cases h) (fun h=>by cases h) a.eval (fun _=>rfl) (fun _=>rfl) o hok (w.at d) ⟨hw.own⟩
 obtain⟨w',es,j,hu,r1,e1,t1,g1,hw1,_⟩:=hs.ok hr
 rw[r1]
 refine hK _ _ ⟨⟨⟨j,g1⟩,fun e he=>?_⟩,hc w' hu ⟨j,g1⟩ hw1⟩
 have hm:=mem_listed he
 rw[e1]at hm
 exact t1 e (by simpa using hm)
theorem d0S{t e:TypeId}{sz bytes:Nat}(ht:Tryd.prog.underlying t=some (.slice e))(hi:∃i z,Tryd.prog.info? e=some i∧i.zero=some z∧i.size=sz∧i.bytes=bytes∧z.cells.size=sz)(hsz:0<sz)
 {b:Frame} {a:Act} {k:List Item} {cs:List Frame} {ops:Array Oper} {i:Nat} {rest:List Nat} {o:Oper} {main:Bool} {Stop:Goroutine→World→Prop} {s x:Operand} (ho:ops[i]? =some o) (hwn:Region.wanted o (yielded ops a.tmps)=true) (hk:b.kind≠.early)
 (hop:o.op= .call {callee:=.builtin .append,args:= #[s,x],argTypes:= #[t,t]}) (hw:Wf F w) {v:Value} {n m c:Nat} {xs news:List Value} {ad:Addr} (hs:a.eval s=v) (hx:a.eval x= .slice (some ad) m c) (hrow:w.ownsRow 0 e sz v n xs) (hF:∀b,v.ownBlock=some b→F b=none)
 (hl:news.length=m*sz) (hc:∀j u,news[j]? =some u→w.cell? (ad.add j)=some u) (h1:∀u∈news,u.oneCell'=true) (b1:n+m≤maxLen) (b2:(n+m)*bytes≤140737488355328)
 (K:∀v' w',w'.ownsRow 0 e sz v' (n+m) (xs++news)→Wf F w'→w.heap.size≤w'.heap.size→(∀r,r<w.heap.size→some r≠v.ownBlock→w'.heap[r]? =w.heap[r]?)→(v'.ownBlock=v.ownBlock∨∃g,v'.ownBlock=some g∧w.heap.size≤g)→E0 Tryd.prog main F Stop (G (b.at (a.put o.dst v') (.inRegion ops rest::k)) cs) w'):
 E0 Tryd.prog main F Stop (G (b.at a (.inRegion ops (i::rest)::k)) cs) w:=by
 obtain⟨i0,z0,q1,q2,q3,q4,q5⟩:=hi
 refine h0e ho hwn hk (by rw[hop];rfl) hw fun d=>?_
 have hrowm:(T0 F (w.at d)).ownsRow 0 e sz v n xs:=E1 hrow fun b hb _=>by rw[D1 (hF b hb)];rfl
 obtain⟨v',u,hr,r1,r2,r3⟩:=b0T (P:=Tryd.prog) (w:=T0 F (w.at d)) t o.type e i0 z0 sz bytes ht q1 q2 q3 q4 q5 hsz v n xs hrowm ad m c news hl (fun j u hu=>(C6 _).trans (hc j u hu)) h1 b1 b2
 refine⟨v',u,Y5 s x t hop hs hx hr,fun w' hu hg hw'=>?_⟩
 subst hu
 obtain⟨j,hg⟩:=hg
 have hsm:(T0 F (w.at d)).heap.size=w.heap.size:=by rw[J3];rfl
 have hs2:w.heap.size≤w'.heap.size:=by
  have:=r2.size
  rw[hsm,J3]at this
  exact this
 have hn:∀b,v'.ownBlock=some b→F b=none:=fun b hb=>by
  rcases r3 with e|⟨g,e,h⟩
  ·exact hF b (by rw[← e];exact hb)
  ·have hbg:b=g:=by rw[e]at hb;exact(Option.some.inj hb).symm
   rw[hsm]at h
   rw[hbg]
   cases hz:F g with
   | none=>rfl
   | some z=>
     obtain⟨c,e,z0,h2,_⟩:=hw.own g z hz
     have:=(D4 h2)
     omega
 refine K v' w' (E1 r1 fun b hb _=>(D1 (hn b hb)).symm) hw' hs2 (fun r hr hne=>?_) (r3.imp_right fun⟨g,h1,h2⟩=>⟨g,h1,by rw[hsm]at h2;exact h2⟩)
 exact f0d (w:=w.at d) hg (r2.block r (by rw[hsm];exact hr) hne) hr
structure c0O(e:TypeId)(F:Fz)(w w':World)(ov ov':Value)(xs:List Int)(u:Int):Prop where
 row:w'.ownsRow 0 e 1 ov' (xs.length+1) ((xs++[u]).map fun v=>vI v)
 wf:Wf F w'
 size:w.heap.size≤w'.heap.size
 old:∀r,r<w.heap.size→some r≠ov.ownBlock→w'.heap[r]? =w.heap[r]?
 blk:ov'.ownBlock=ov.ownBlock∨∃g,ov'.ownBlock=some g∧w.heap.size≤g
end
noncomputable section
variable {cs:List Frame}{main:Bool}{Stop:Goroutine→World→Prop}
variable{F:Fz}{w:World}
def J1:Code:=Tryd.f30.body.getD .skip
def u0R:=pC [] J1
def e0N:=pC [zt] J1
def j0l:=pC [zf] J1
def e0O:=pC [zf,zt] J1
def g0w:=pC [zf] j0l
def j0m:=pC [zt] g0w
def e0P:=pC [zf,zf,zt,zt] J1
def g0v:=pC [zf] j0m
def m0b:=pC [zt] g0v
def l7:=pC [zt] m0b
def a0e:=pC [zf,zf,zt,zf,zt,zt,zt] J1
def d0c:=pC [zf] l7
def d0b:=pC [zt] d0c
def e0Q:=pC [zf] d0c
def j0g:=pC [zt] e0Q
def q0u:=pC [zt] j0g
def j0i:=pC [zf,zf,zt,zf,zt,zt,zf,zf,zt,zt,zt] J1
def m0c:=pC [zf] q0u
def a0f:=pC [zf,zf,zt,zf,zt,zt,zf,zf,zt,zt,zf,zt] J1
def o9:=pC [zf] m0c
def q0t:=pC [zf,zf,zt,zf,zt,zt,zf,zf,zt,zt,zf,zf,zt] J1
def m0a:=pC [zf] o9
def h06:=pC [zt] m0a
def D7:=pC [zt] h06
def h08:=pC [zt] D7
def j7:=pC [zf,zf,zt,zf,zt,zt,zf,zf,zt,zt,zf,zf,zf,zt,zt,zt,zt] J1
def p8:=pC [zf] h08
def E7:=pC [zf] D7
def q0s:=pC [zt] E7
def j0k:=pC [zf,zf,zt,zf,zt,zt,zf,zf,zt,zt,zf,zf,zf,zt,zt,zf,zt,zt] J1
def j0j:=pC [zf,zf,zt,zf,zt,zt,zf,zf,zt,zt,zf,zf,zf,zt,zt,zf,zf] J1
def x4:=pC [zf,zf,zt,zf,zt,zt,zf,zf,zf] J1
def U4:=pC [zf] g0w
def b0D:=pC [zf,zf,zf,zt] J1
theorem h05:g0v= .block 0 m0b:=by kernel_rfl
theorem h07:m0b= .loop l7:=by kernel_rfl
theorem l09:j0g= .block 1 q0u:=by kernel_rfl
theorem s0w:m0a= .block 2 h06:=by kernel_rfl
theorem o0Y:h06= .loop D7:=by kernel_rfl
theorem s0x:q0s= .block 3 j0k:=by kernel_rfl
theorem s0z:j0k= .region 9 (oC j0k) false:=by kernel_rfl
theorem s0y:j0j= .region 8 (oC j0j) false:=by kernel_rfl
theorem j0h:x4= .region 10 (oC x4) false:=by kernel_rfl
theorem b0J(args:Array Value):Frame.enter Tryd.prog 30 args .normal=(Go.Conc.base 30).at {tmps:=args++Array.replicate (40 - args.size) undef,defers:=[]} [.code u0R]:=enter_at args Tryd.func30 rfl
theorem w8:X0 30:=G1 Tryd.func30 rfl rfl
def f0H(s:Nat→Value):Array Value:= #[s 0,s 1,s 2,s 3,s 4,s 5,s 6,s 7,s 8,s 9,s 10,s 11,s 12,s 13,s 14,s 15,s 16,s 17,s 18,s 19,s 20,s 21,s 22,s 23,s 24,s 25,s 26,s 27,s 28,s 29,s 30,s 31,s 32,s 33,s 34,s 35,s 36,s 37,s 38,s 39]
theorem x0S{A:Array Value}(h:A.size=40):∃s,A=f0H s:=by
 obtain⟨s,hs,_⟩:=F3 A h
 exact⟨s,hs⟩
theorem n0w{lb wb n m:Nat}{sv:Value}(hs:BH lb wb n m w)(h0:m=0){c:Frame}
 (h:E0 Tryd.prog main F Stop (G (c.finish (.slice none 0 0)) cs) w):
 E0 Tryd.prog main F Stop (G (Frame.enter Tryd.prog 30 #[vP lb 0,sv] .normal) (c::cs)) w:=by
 have hn:=hs.hn
 have hmm:=hs.hm
 have w1:IntKind.i64.wrap ((n:Int)+63)=(n:Int)+63:=IntWalk.i64_in _ (by omega)
 have w2:IntKind.i64.wrap (((n:Int)+63).tdiv 64)=(m:Int):=by
  rw[Int.tdiv_eq_ediv_of_nonneg (by omega),IntWalk.i64_in _ (by omega)]
  omega
 clear hmm
 have hd:decide (0<m)=false:=decide_eq_false (by omega)
 have hd2:decide (0<(m:Int))=false:=decide_eq_false (by omega)
 rw[b0J]
 walk_nrm
 refine ogW e0N j0l ?_
 simp only[e0N,J1,Tryd.f30,zz,Nat.reduceAdd]
 refine oT ?_
 refine I0<|ogW e0O g0w ?_
 simp only[e0O,J1,Tryd.f30,zz,Nat.reduceAdd]
 refine oT ?_
 refine I0<|ogV j0m U4<|ogW e0P g0v ?_
 simp only[e0P,J1,Tryd.f30,zz,Nat.reduceAdd]
 refine oT ?_
 refine oc X6 #[vP lb 0] ?_
 refine Y7 hs ?_
 rw[Frame.finish_at]
 walk_nrm
 iterate 3 refine oT ?_
 refine I0 ?_
 rw[h05]
 refine K5 ?_
 rw[h07]
 refine ogP<|ogW a0e d0c ?_
 simp only[a0e,J1,Tryd.f30,zz,Nat.reduceAdd]
 refine oT ?_
 refine I0<|ogV d0b e0Q<|ogGn (.exit 0) ?_
 refine G0 rfl (fun d=>stepG_exit rfl) ?_
 refine ogW b0D .ret ?_
 simp only[b0D,J1,Tryd.f30,zz,Nat.reduceAdd]
 iterate 2 refine oT ?_
 refine I0<|ogX ?_
 refine G0 rfl (fun d=>stepG_leave (fn:=Tryd.f30) (v:=.slice none 0 0) rfl rfl Tryd.func30 (by simp[results,Tryd.f30]) (by simp[results,Tryd.f30,go_sem])) ?_
 exact h
theorem t0i{lb wb n m:Nat}{sv:Value}(hs:BH lb wb n m w)(h0:0<m)
 (h:∀A,D0 40 A [(0,vP lb 0),(1,sv),(5,.slice none 0 0),(6,vI (0:Nat)),(11,vI (m:Nat)),(12,vI (0:Nat))]→E0 Tryd.prog main F Stop (G (Frame.enter Tryd.prog 48 #[sv] .normal) ((bA 30 A [.inRegion (oC a0f) [1],.code o9,.inBlock 1,.code x4,.inLoop l7,.inBlock 0,.code U4])::cs)) w):
 E0 Tryd.prog main F Stop (G (Frame.enter Tryd.prog 30 #[vP lb 0,sv] .normal) cs) w:=by
 have hn:=hs.hn
 have hmm:=hs.hm
 have w1:IntKind.i64.wrap ((n:Int)+63)=(n:Int)+63:=IntWalk.i64_in _ (by omega)
 have w2:IntKind.i64.wrap (((n:Int)+63).tdiv 64)=(m:Int):=by
  rw[Int.tdiv_eq_ediv_of_nonneg (by omega),IntWalk.i64_in _ (by omega)]
  omega
 clear hmm
 have hd:decide (0<m)=true:=decide_eq_true (by omega)
 have hd2:decide (0<(m:Int))=true:=decide_eq_true (by omega)
 rw[b0J]
 walk_nrm
 refine ogW e0N j0l ?_
 simp only[e0N,J1,Tryd.f30,zz,Nat.reduceAdd]
 refine oT ?_
 refine I0<|ogW e0O g0w ?_
 simp only[e0O,J1,Tryd.f30,zz,Nat.reduceAdd]
 refine oT ?_
 refine I0<|ogV j0m U4<|ogW e0P g0v ?_
 simp only[e0P,J1,Tryd.f30,zz,Nat.reduceAdd]
 refine oT ?_
 refine oc X6 #[vP lb 0] ?_
 refine Y7 hs ?_
 rw[Frame.finish_at]
 walk_nrm
 iterate 3 refine oT ?_
 refine I0 ?_
 rw[h05]
 refine K5 ?_
 rw[h07]
 refine ogP<|ogW a0e d0c ?_
 simp only[a0e,J1,Tryd.f30,zz,Nat.reduceAdd]
 refine oT ?_
 refine I0<|ogV d0b e0Q<|ogYn .skip<|ogK<|ogV j0g x4 ?_
 rw[l09]
 refine K5<|ogW j0i m0c ?_
 simp only[j0i,J1,Tryd.f30,zz,Nat.reduceAdd]
 iterate 2 refine oT ?_
 refine I0<|ogW a0f o9 ?_
 simp only[a0f,J1,Tryd.f30,zz,Nat.reduceAdd]
 refine oT ?_
 refine oc O3 #[sv] ?_
 refine h _ ?_
 exact⟨rfl,rfl,rfl,rfl,rfl,rfl,rfl,trivial⟩
theorem p0t{lb wb n m:Nat}{k:Nat}{sv ov:Value}{x:BitVec 64}(hs:BH lb wb n m w)(hk:k<m)(hc:w.cell? ⟨wb,k,none⟩=some (wV x)){A:Array Value}(hA:D0 40 A [(0,vP lb 0),(1,sv),(5,ov),(6,vI (k:Nat)),(11,vI (m:Nat)),(12,vI (k:Nat))])
 (h:∀A,D0 40 A [(0,vP lb 0),(1,sv),(5,ov),(6,vI (k:Nat)),(7,wV x),(11,vI (m:Nat)),(12,vI (k:Nat))]→E0 Tryd.prog main F Stop (G (bA 30 A [.inRegion (oC j7) [0,1],.code p8,.code E7,.inLoop D7,.inBlock 2,.inBlock 1,.code x4,.inLoop l7,.inBlock 0,.code U4]) cs) w):
 E0 Tryd.prog main F Stop (G ((bA 30 A [.inRegion (oC a0f) [1],.code o9,.inBlock 1,.code x4,.inLoop l7,.inBlock 0,.code U4]).finish (.tuple #[])) (cs)) w:=by
 obtain⟨s,rfl,h0,h1,h5,h6,h11,h12,_⟩:=D5 f0H hA
 simp only[f0H,h0,h1,h5,h6,h11,h12]
 clear h0 h1 h5 h6 h11 h12
 have c1:=hs.c1
 have hki:(k:Int)<(m:Int):=by omega
 rw[Frame.finish_at]
 simp only[a0f,J1,Tryd.f30,zz,Nat.reduceAdd]
 walk_nrm
 refine I0<|ogW q0t m0a ?_
 simp only[q0t,J1,Tryd.f30,zz,Nat.reduceAdd]
 iterate 3 refine oT ?_
 refine oL ?_
 refine oT ?_
 refine oX ?_
 refine oc V4 #[vP wb k] ?_
 refine C8 hc rfl ?_
 rw[Frame.finish_at]
 walk_nrm
 refine oT ?_
 refine I0 ?_
 rw[s0w]
 refine K5 ?_
 rw[o0Y]
 refine ogP<|ogV h08 E7<|ogW j7 p8 ?_
 simp only[j7,J1,Tryd.f30,zz,Nat.reduceAdd]
 refine h _ ?_
 exact⟨rfl,rfl,rfl,rfl,rfl,rfl,rfl,rfl,trivial⟩
theorem n0x{lb m k:Nat}{sv ov:Value}(hm:m≤1024)(hl:k+1<m){A:Array Value}(hA:D0 40 A [(0,vP lb 0),(1,sv),(5,ov),(6,vI (k:Nat)),(7,wV 0#64),(11,vI (m:Nat)),(12,vI (k:Nat))])
 (h:∀A,D0 40 A [(0,vP lb 0),(1,sv),(5,ov),(6,vI (k+1:Nat)),(11,vI (m:Nat)),(12,vI (k+1:Nat))]→E0 Tryd.prog main F Stop (G (Frame.enter Tryd.prog 48 #[sv] .normal) ((bA 30 A [.inRegion (oC a0f) [1],.code o9,.inBlock 1,.code x4,.inLoop l7,.inBlock 0,.code U4])::cs)) w):
 E0 Tryd.prog main F Stop (G (bA 30 A [.inRegion (oC j7) [0,1],.code p8,.code E7,.inLoop D7,.inBlock 2,.inBlock 1,.code x4,.inLoop l7,.inBlock 0,.code U4]) cs) w:=by
 obtain⟨s,rfl,h0,h1,h5,h6,h7,h11,h12,_⟩:=D5 f0H hA
 simp only[f0H,h0,h1,h5,h6,h7,h11,h12]
 clear h0 h1 h5 h6 h7 h11 h12
 have hk64:IntKind.i64.wrap ((k:Int)+1)=(k:Int)+1:=IntWalk.i64_in _ (by omega)
 have hd:decide ((k:Int)+1<(m:Int))=true:=by simp;omega
 have hd2:decide (k+1<m)=true:=by simp;omega
 simp only[j7,J1,Tryd.f30,zz,Nat.reduceAdd]
 iterate 2 refine oT ?_
 refine I0<|ogGn (.exit 2) ?_
 refine G0 rfl (fun d=>stepG_exit rfl) ?_
 refine ogI ?_
 rw[j0h]
 refine ogR ?_
 simp only[x4,J1,Tryd.f30,zz,Nat.reduceAdd]
 iterate 2 refine oT ?_
 refine I0<|ogL<|ogW a0e d0c ?_
 simp only[a0e,J1,Tryd.f30,zz,Nat.reduceAdd]
 refine oT ?_
 refine I0<|ogV d0b e0Q<|ogYn .skip<|ogK<|ogV j0g x4 ?_
 rw[l09]
 refine K5<|ogW j0i m0c ?_
 simp only[j0i,J1,Tryd.f30,zz,Nat.reduceAdd]
 iterate 2 refine oT ?_
 refine I0<|ogW a0f o9 ?_
 simp only[a0f,J1,Tryd.f30,zz,Nat.reduceAdd]
 refine oT ?_
 refine oc O3 #[sv] ?_
 refine h _ ?_
 exact⟨rfl,rfl,rfl,rfl,rfl,rfl,rfl,trivial⟩
theorem n0y{lb m k:Nat}{sv ov:Value}(hm:m≤1024)(hl:k+1=m){A:Array Value}(hA:D0 40 A [(0,vP lb 0),(1,sv),(5,ov),(6,vI (k:Nat)),(7,wV 0#64),(11,vI (m:Nat)),(12,vI (k:Nat))]){c:Frame}
 (h:E0 Tryd.prog main F Stop (G (c.finish ov) cs) w):
 E0 Tryd.prog main F Stop (G (bA 30 A [.inRegion (oC j7) [0,1],.code p8,.code E7,.inLoop D7,.inBlock 2,.inBlock 1,.code x4,.inLoop l7,.inBlock 0,.code U4]) (c::cs)) w:=by
 obtain⟨s,rfl,h0,h1,h5,h6,h7,h11,h12,_⟩:=D5 f0H hA
 simp only[f0H,h0,h1,h5,h6,h7,h11,h12]
 clear h0 h1 h5 h6 h7 h11 h12
 have hk64:IntKind.i64.wrap ((k:Int)+1)=(k:Int)+1:=IntWalk.i64_in _ (by omega)
 have hd:decide ((k:Int)+1<(m:Int))=false:=by simp;omega
 have hd2:decide (k+1<m)=false:=by simp;omega
 simp only[j7,J1,Tryd.f30,zz,Nat.reduceAdd]
 iterate 2 refine oT ?_
 refine I0<|ogGn (.exit 2) ?_
 refine G0 rfl (fun d=>stepG_exit rfl) ?_
 refine ogI ?_
 rw[j0h]
 refine ogR ?_
 simp only[x4,J1,Tryd.f30,zz,Nat.reduceAdd]
 iterate 2 refine oT ?_
 refine I0<|ogL<|ogW a0e d0c ?_
 simp only[a0e,J1,Tryd.f30,zz,Nat.reduceAdd]
 refine oT ?_
 refine I0<|ogV d0b e0Q<|ogGn (.exit 0) ?_
 refine G0 rfl (fun d=>stepG_exit rfl) ?_
 refine ogW b0D .ret ?_
 simp only[b0D,J1,Tryd.f30,zz,Nat.reduceAdd]
 iterate 2 refine oT ?_
 refine I0<|ogX ?_
 refine G0 rfl (fun d=>stepG_leave (fn:=Tryd.f30) (v:=ov) rfl rfl Tryd.func30 (by simp[results,Tryd.f30]) (by simp[results,Tryd.f30,go_sem])) ?_
 exact h
theorem y0G{lb m k:Nat}{sv ov:Value}{y y1 y2:BitVec 64}{xs:List Int}{nn:Nat}(hU:Q1 F nn)(hn:nn≤w.heap.size)(hwf:Wf F w)(hT:Tab w)(hy:y≠0#64)(hyd:((y.toNat:Int) != 0)=true)(hp:IntKind.u64.wrap ((y.toNat:Int) - 1)=(y1.toNat:Int))(ha:bits .and .u64 (y.toNat:Int) (y1.toNat:Int)=(y2.toNat:Int))(hx:xs.length≤65536)(hkb:k≤1024)(hrow:w.ownsRow 0 3 1 ov xs.length (xs.map fun v=>vI v))(hF:∀b,ov.ownBlock=some b→F b=none){A:Array Value}(hA:D0 40 A [(0,vP lb 0),(1,sv),(5,ov),(6,vI (k:Nat)),(7,wV y),(11,vI (m:Nat)),(12,vI (k:Nat))])
 (h:∀ov' w' A,c0O 3 F w w' ov ov' xs (64*(k:Int)+(O7 y:Nat))→D0 40 A [(0,vP lb 0),(1,sv),(5,ov'),(6,vI (k:Nat)),(7,wV y2),(11,vI (m:Nat)),(12,vI (k:Nat))]→E0 Tryd.prog main F Stop (G (bA 30 A [.inRegion (oC j7) [0,1],.code p8,.code E7,.inLoop D7,.inBlock 2,.inBlock 1,.code x4,.inLoop l7,.inBlock 0,.code U4]) cs) w'):
 E0 Tryd.prog main F Stop (G (bA 30 A [.inRegion (oC j7) [0,1],.code p8,.code E7,.inLoop D7,.inBlock 2,.inBlock 1,.code x4,.inLoop l7,.inBlock 0,.code U4]) cs) w:=by
 obtain⟨s,rfl,h0,h1,h5,h6,h7,h11,h12,_⟩:=D5 f0H hA
 simp only[f0H,h0,h1,h5,h6,h7,h11,h12]
 clear h0 h1 h5 h6 h7 h11 h12
 have hj:=(s9 hy).1
 have w1:IntKind.i64.wrap (64*(k:Int))=64*(k:Int):=IntWalk.i64_in _ (by omega)
 have w2:IntKind.i64.wrap (64*(k:Int)+(O7 y:Nat))=64*(k:Int)+(O7 y:Nat):=IntWalk.i64_in _ (by omega)
 simp only[j7,J1,Tryd.f30,zz,Nat.reduceAdd]
 iterate 2 refine oT ?_
 refine I0<|ogYn .skip<|ogK<|ogV q0s j0j ?_
 rw[s0x]
 refine K5 ?_
 rw[s0z]
 refine ogR ?_
 simp only[j0k,J1,Tryd.f30,zz,Nat.reduceAdd]
 iterate 4 refine oT ?_
 refine oc d0p #[wV y] ?_
 refine k0e hT hy ?_
 rw[Frame.finish_at]
 walk_nrm
 refine oT ?_
 refine oA hU ?_
 refine d0S (s:=.tmp 30) (x:=.tmp 36) (t:=24) (e:=3) (sz:=1) (bytes:=8) (news:=[vI (64*(k:Int)+(O7 y:Nat))]) (m:=1) (c:=1) (ad:=⟨w.heap.size,0,none⟩) Tryd.underlying24 t0f (by decide) rfl rfl (by decide) rfl (hwf.of_grew (L0 hU hn _)) (v:=ov) rfl rfl (hrow.alloc _) hF rfl (f0f (X:=w) (l:=[vI (64*(k:Int)+(O7 y:Nat))]) rfl) (by intro q hq;simp at hq;subst hq;rfl) (by unfold maxLen;omega) (by omega) fun ov' w' g1 g2 g3 g4 g5=>?_
 have hg:c0O 3 F w w' ov ov' xs (64*(k:Int)+(O7 y:Nat)):=⟨by rw[List.map_append];exact g1,g2,by simp at g3;omega,fun q hq hne=>by rw[g4 q (by simp;omega) hne,o0 _ _ hq],g5.imp_right fun⟨g,h1,h2⟩=>⟨g,h1,by simp at h2;omega⟩⟩
 clear g1 g2 g3 g4 g5 hrow hwf
 walk_nrm
 refine oT ?_
 refine I0<|ogI ?_
 rw[s0y]
 refine ogR ?_
 simp only[j0j,J1,Tryd.f30,zz,Nat.reduceAdd]
 iterate 5 refine oT ?_
 refine I0<|ogL<|ogV h08 E7<|ogW j7 p8 ?_
 simp only[j7,J1,Tryd.f30,zz,Nat.reduceAdd]
 refine h ov' w' _ hg ?_
 exact⟨rfl,rfl,rfl,rfl,rfl,rfl,rfl,rfl,trivial⟩
end
noncomputable section
variable {cs:List Frame}{main:Bool}{Stop:Goroutine→World→Prop}
variable{F:Fz}{w:World}
def i8:Code:=Tryd.f46.body.getD .skip
def u0G:=pC [] i8
def q0j:=pC [zt] i8
def u0H:=pC [zf] i8
def e0G:=pC [zf,zt] i8
theorem k0L(args:Array Value):Frame.enter Tryd.prog 46 args .normal=(Go.Conc.base 46).at {tmps:=args++Array.replicate (9 - args.size) undef,defers:=[]} [.code u0G]:=enter_at args Tryd.func46 rfl
theorem d0n:X0 46:=G1 Tryd.func46 rfl rfl
def s0q(s:Nat→Value):Array Value:= #[s 0,s 1,s 2,s 3,s 4,s 5,s 6,s 7,s 8]
theorem x0O{A:Array Value}(h:A.size=9):∃s,A=s0q s:=by
 obtain⟨s,hs,_⟩:=F3 A h
 exact⟨s,hs⟩
theorem j0I{xv sv:Value}
 (h:∀A,D0 9 A [(0,xv)]→E0 Tryd.prog main F Stop (G (Frame.enter Tryd.prog 30 #[xv,sv] .normal) ((bA 46 A [.inRegion (oC e0G) [2,3,4],.code .ret])::cs)) w):
 E0 Tryd.prog main F Stop (G (Frame.enter Tryd.prog 46 #[xv,sv] .normal) cs) w:=by
 rw[k0L]
 walk_nrm
 refine ogW q0j u0H ?_
 simp only[q0j,i8,Tryd.f46,zz,Nat.reduceAdd]
 refine oT ?_
 refine I0<|ogW e0G .ret ?_
 simp only[e0G,i8,Tryd.f46,zz,Nat.reduceAdd]
 iterate 2 refine oT ?_
 refine oc w8 #[xv,sv] ?_
 refine h _ ?_
 exact⟨rfl,rfl,trivial⟩
theorem f0M{xv:Value}{a:Option Addr}{l c0:Nat}{A:Array Value}(hA:D0 9 A [(0,xv)]){c:Frame}
 (h:E0 Tryd.prog main F Stop (G (c.finish (vI (l:Nat))) cs) w):
 E0 Tryd.prog main F Stop (G ((bA 46 A [.inRegion (oC e0G) [2,3,4],.code .ret]).finish (.slice a l c0)) (c::cs)) w:=by
 obtain⟨s,rfl,h0,_⟩:=D5 s0q hA
 simp only[s0q,h0]
 clear h0
 rw[Frame.finish_at]
 simp only[e0G,i8,Tryd.f46,zz,Nat.reduceAdd]
 walk_nrm
 iterate 2 refine oT ?_
 refine I0<|ogX ?_
 refine G0 rfl (fun d=>stepG_leave (fn:=Tryd.f46) (v:=vI (l:Nat)) rfl rfl Tryd.func46 (by simp[results,Tryd.f46]) (by simp[results,Tryd.f46,go_sem])) ?_
 exact h
def T4:Code:=Tryd.f52.body.getD .skip
def v0q:=pC [] T4
def j0E:=pC [zt] T4
def j0G:=pC [zf] T4
def m0J:=pC [zt] j0G
def j0F:=pC [zf,zt,zt] T4
def m0I:=pC [zf] m0J
def v0r:=pC [zt] m0I
def r0a:=pC [zf,zt,zf,zt,zt] T4
def r0c:=pC [zf] j0G
def r0b:=pC [zf,zf,zt] T4
theorem e04(args:Array Value):Frame.enter Tryd.prog 52 args .normal=(Go.Conc.base 52).at {tmps:=args++Array.replicate (4 - args.size) undef,defers:=[]} [.code v0q]:=enter_at args Tryd.func52 rfl
theorem a0z:X0 52:=G1 Tryd.func52 rfl rfl
theorem o0E{c:Frame}
 (h:E0 Tryd.prog main F Stop (G (c.finish (vI 1)) cs) w):
 E0 Tryd.prog main F Stop (G (Frame.enter Tryd.prog 52 #[.bool true] .normal) (c::cs)) w:=by
 rw[e04]
 walk_nrm
 refine ogW j0E j0G ?_
 simp only[j0E,T4,Tryd.f52,zz,Nat.reduceAdd]
 refine oT ?_
 refine I0<|ogV m0J r0c<|ogW j0F m0I ?_
 simp only[j0F,T4,Tryd.f52,zz,Nat.reduceAdd]
 refine oT ?_
 refine I0<|ogYn v0r<|ogW r0a .ret ?_
 simp only[r0a,T4,Tryd.f52,zz,Nat.reduceAdd]
 refine oT ?_
 refine I0<|ogX ?_
 refine G0 rfl (fun d=>stepG_leave (fn:=Tryd.f52) (v:=vI 1) rfl rfl Tryd.func52 (by simp[results,Tryd.f52]) (by simp[results,Tryd.f52,go_sem])) ?_
 exact h
theorem f0r{c:Frame}
 (h:E0 Tryd.prog main F Stop (G (c.finish (vI 0)) cs) w):
 E0 Tryd.prog main F Stop (G (Frame.enter Tryd.prog 52 #[.bool false] .normal) (c::cs)) w:=by
 rw[e04]
 walk_nrm
 refine ogW j0E j0G ?_
 simp only[j0E,T4,Tryd.f52,zz,Nat.reduceAdd]
 refine oT ?_
 refine I0<|ogV m0J r0c<|ogW j0F m0I ?_
 simp only[j0F,T4,Tryd.f52,zz,Nat.reduceAdd]
 refine oT ?_
 refine I0<|ogGn .skip<|ogK<|ogW r0b .ret ?_
 simp only[r0b,T4,Tryd.f52,zz,Nat.reduceAdd]
 refine oT ?_
 refine I0<|ogX ?_
 refine G0 rfl (fun d=>stepG_leave (fn:=Tryd.f52) (v:=vI 0) rfl rfl Tryd.func52 (by simp[results,Tryd.f52]) (by simp[results,Tryd.f52,go_sem])) ?_
 exact h
def X2:Code:=Tryd.f29.body.getD .skip
def v0o:=pC [] X2
def q03:=pC [zt] X2
def q08:=pC [zf] X2
def q04:=pC [zf,zt] X2
def m0G:=pC [zf] q08
def q09:=pC [zt] m0G
def q05:=pC [zf,zf,zt,zt] X2
def m0D:=pC [zf] q09
def m0F:=pC [zt] m0D
def c0j:=pC [zt] m0F
def S8:=pC [zf,zf,zt,zf,zt,zt,zt] X2
def a0h:=pC [zf] c0j
def q02:=pC [zt] a0h
def m0H:=pC [zf] a0h
def m0E:=pC [zt] m0H
def v0p:=pC [zt] m0E
def q06:=pC [zf,zf,zt,zf,zt,zt,zf,zf,zt,zt,zt] X2
def j0C:=pC [zf,zf,zt,zf,zt,zt,zf,zf,zt,zt,zf] X2
def j0D:=pC [zf,zf,zt,zf,zt,zt,zf,zf,zf] X2
def d0h:=pC [zf] m0G
def q07:=pC [zf,zf,zf,zt] X2
theorem s0J:m0D= .block 0 m0F:=by kernel_rfl
theorem s0L:m0F= .loop c0j:=by kernel_rfl
theorem s0K:m0E= .block 1 v0p:=by kernel_rfl
theorem s0M:j0C= .region 5 (oC j0C) false:=by kernel_rfl
theorem s0N:j0D= .region 6 (oC j0D) false:=by kernel_rfl
theorem k0U(args:Array Value):Frame.enter Tryd.prog 29 args .normal=(Go.Conc.base 29).at {tmps:=args++Array.replicate (18 - args.size) undef,defers:=[]} [.code v0o]:=enter_at args Tryd.func29 rfl
theorem d0l:X0 29:=G1 Tryd.func29 rfl rfl
def m0C(s:Nat→Value):Array Value:= #[s 0,s 1,s 2,s 3,s 4,s 5,s 6,s 7,s 8,s 9,s 10,s 11,s 12,s 13,s 14,s 15,s 16,s 17]
theorem x0Y{A:Array Value}(h:A.size=18):∃s,A=m0C s:=by
 obtain⟨s,hs,_⟩:=F3 A h
 exact⟨s,hs⟩
theorem o0C{la:Option Addr}{l lc:Nat}
 (h:∀A,D0 18 A [(3,.slice none 0 0),(6,.slice la l lc),(7,vI (l:Nat)),(8,vI (0:Nat))]→E0 Tryd.prog main F Stop (G (bA 29 A [.inRegion (oC S8) [0],.code a0h,.inLoop c0j,.inBlock 0,.code d0h]) cs) w):
 E0 Tryd.prog main F Stop (G (Frame.enter Tryd.prog 29 #[.slice la l lc] .normal) cs) w:=by
 rw[k0U]
 walk_nrm
 refine ogW q03 q08 ?_
 simp only[q03,X2,Tryd.f29,zz,Nat.reduceAdd]
 refine oT ?_
 refine I0<|ogW q04 m0G ?_
 simp only[q04,X2,Tryd.f29,zz,Nat.reduceAdd]
 refine oT ?_
 refine I0<|ogV q09 d0h<|ogW q05 m0D ?_
 simp only[q05,X2,Tryd.f29,zz,Nat.reduceAdd]
 iterate 3 refine oT ?_
 refine I0 ?_
 rw[s0J]
 refine K5 ?_
 rw[s0L]
 refine ogP<|ogW S8 a0h ?_
 simp only[S8,X2,Tryd.f29,zz,Nat.reduceAdd]
 refine h _ ?_
 exact⟨rfl,rfl,rfl,rfl,rfl,trivial⟩
theorem o0D{la:Option Addr}{l lc:Nat}{ov:Value}{A:Array Value}(hA:D0 18 A [(3,ov),(6,.slice la l lc),(7,vI (l:Nat)),(8,vI (l:Nat))]){c:Frame}
 (h:E0 Tryd.prog main F Stop (G (c.finish ov) cs) w):
 E0 Tryd.prog main F Stop (G (bA 29 A [.inRegion (oC S8) [0],.code a0h,.inLoop c0j,.inBlock 0,.code d0h]) (c::cs)) w:=by
 obtain⟨s,rfl,h3,h6,h7,h8,_⟩:=D5 m0C hA
 simp only[m0C,h3,h6,h7,h8]
 clear h3 h6 h7 h8
 have hd:decide ((l:Int)<(l:Int))=false:=by simp
 have hd2:decide (l<l)=false:=by simp
 simp only[S8,X2,Tryd.f29,zz,Nat.reduceAdd]
 refine oT ?_
 refine I0<|ogV q02 m0H<|ogGn (.exit 0) ?_
 refine G0 rfl (fun d=>stepG_exit rfl) ?_
 refine ogW q07 .ret ?_
 simp only[q07,X2,Tryd.f29,zz,Nat.reduceAdd]
 iterate 2 refine oT ?_
 refine I0<|ogX ?_
 refine G0 rfl (fun d=>stepG_leave (fn:=Tryd.f29) (v:=ov) rfl rfl Tryd.func29 (by simp[results,Tryd.f29]) (by simp[results,Tryd.f29,go_sem])) ?_
 exact h
theorem y02{gb go l lc i:Nat}{ov:Value}{u:Int}{xs:List Int}{nn:Nat}(hU:Q1 F nn)(hn:nn≤w.heap.size)(hwf:Wf F w)(hc:w.cell? ⟨gb,go+i,none⟩=some (vI u))(hi:i<l)(hl:l≤70000)(hx:xs.length≤70000)(hrow:w.ownsRow 0 2 1 ov xs.length (xs.map fun v=>vI v))(hF:∀b,ov.ownBlock=some b→F b=none){A:Array Value}(hA:D0 18 A [(3,ov),(6,vL gb go l lc),(7,vI (l:Nat)),(8,vI (i:Nat))])
 (h:∀ov' w' A,c0O 2 F w w' ov ov' xs u→D0 18 A [(3,ov'),(6,vL gb go l lc),(7,vI (l:Nat)),(8,vI (i+1:Nat))]→E0 Tryd.prog main F Stop (G (bA 29 A [.inRegion (oC S8) [0],.code a0h,.inLoop c0j,.inBlock 0,.code d0h]) cs) w'):
 E0 Tryd.prog main F Stop (G (bA 29 A [.inRegion (oC S8) [0],.code a0h,.inLoop c0j,.inBlock 0,.code d0h]) cs) w:=by
 obtain⟨s,rfl,h3,h6,h7,h8,_⟩:=D5 m0C hA
 simp only[m0C,h3,h6,h7,h8]
 clear h3 h6 h7 h8
 have hd:decide ((i:Int)<(l:Int))=true:=by simp;omega
 have hd2:decide (i<l)=true:=by simp;omega
 have hin:(i:Int)<(l:Int):=by omega
 have hk64:IntKind.i64.wrap ((i:Int)+1)=(i:Int)+1:=IntWalk.i64_in _ (by omega)
 simp only[S8,X2,Tryd.f29,zz,Nat.reduceAdd]
 refine oT ?_
 refine I0<|ogV q02 m0H<|ogYn .skip<|ogK<|ogV m0E j0D ?_
 rw[s0K]
 refine K5<|ogW q06 j0C ?_
 simp only[q06,X2,Tryd.f29,zz,Nat.reduceAdd]
 refine oX ?_
 refine oL ?_
 refine oT ?_
 refine I0 ?_
 rw[s0M]
 refine ogR ?_
 simp only[j0C,X2,Tryd.f29,zz,Nat.reduceAdd]
 iterate 2 refine oT ?_
 refine oA hU ?_
 refine d0S (s:=.tmp 12) (x:=.tmp 14) (t:=22) (e:=2) (sz:=1) (bytes:=8) (news:=[vI u]) (m:=1) (c:=1) (ad:=⟨w.heap.size,0,none⟩) Tryd.underlying22 t0e (by decide) rfl rfl (by decide) rfl (hwf.of_grew (L0 hU hn _)) (v:=ov) rfl rfl (hrow.alloc _) hF rfl (f0f (X:=w) (l:=[vI u]) rfl) (by intro q hq;simp at hq;subst hq;rfl) (by unfold maxLen;omega) (by omega) fun ov' w' g1 g2 g3 g4 g5=>?_
 have hg:c0O 2 F w w' ov ov' xs u:=⟨by rw[List.map_append];exact g1,g2,by simp at g3;omega,fun q hq hne=>by rw[g4 q (by simp;omega) hne,o0 _ _ hq],g5.imp_right fun⟨g,h1,h2⟩=>⟨g,h1,by simp at h2;omega⟩⟩
 clear g1 g2 g3 g4 g5 hrow hwf
 walk_nrm
 refine oT ?_
 refine I0<|ogI ?_
 rw[s0N]
 refine ogR ?_
 simp only[j0D,X2,Tryd.f29,zz,Nat.reduceAdd]
 iterate 2 refine oT ?_
 refine I0<|ogL<|ogW S8 a0h ?_
 simp only[S8,X2,Tryd.f29,zz,Nat.reduceAdd]
 refine h ov' w' _ hg ?_
 exact⟨rfl,rfl,rfl,rfl,rfl,trivial⟩
end
section
variable{P:Program}{main:Bool}{F:Fz}{ops:Array Oper}{S:World→Prop}{mid:Nat}
structure g0g(ops:Array Oper)(mid:Nat):Prop where
 size:mid<ops.size
 deps:∀j o,ops[j]? =some o→∀e∈o.after,Region.binds .any e=true→e.on<j
 used:∀j,j<mid→∃s o e,j<s∧s≤mid∧ops[s]? =some o∧e∈o.after∧Region.binds .any e=true∧e.on=j
 late:∀j o,ops[j]? =some o→mid<j→∃e∈o.after,Region.binds .any e=true∧mid≤e.on
def j0Y(ops:Array Oper)(mid:Nat):Bool:=
 decide (mid<ops.size) && (List.range ops.size).all (fun j=>(ops[j]?).all fun o=>o.after.all fun e=> !Region.binds .any e || decide (e.on<j)) &&
 (List.range mid).all (fun j=>(List.range (mid+1)).any fun s=>decide (j<s) && (ops[s]?).any (fun o=>o.after.any fun e=>Region.binds .any e && e.on == j)) &&
 (List.range ops.size).all (fun j=> !decide (mid<j) || (ops[j]?).all fun o=>o.after.any fun e=>Region.binds .any e && decide (mid≤e.on))
theorem n0B(h:j0Y ops mid=true):g0g ops mid:=by
 simp only[j0Y,Bool.and_eq_true,decide_eq_true_eq,List.all_eq_true,List.mem_range]at h
 obtain⟨⟨⟨h1,h2⟩,h3⟩,h4⟩:=h
 refine⟨h1,fun j o ho e he hb=>?_,fun j hj=>?_,fun j o ho hj=>?_⟩
 ·have hlt:=(D4 ho)
  have:=h2 j hlt
  rw[ho]at this
  simp only[Option.all_some,Array.all_eq_true_iff_forall_mem]at this
  have:=this e he
  rw[hb]at this
  simpa using this
 ·have:=h3 j hj
  simp only[List.any_eq_true,List.mem_range,Bool.and_eq_true,decide_eq_true_eq]at this
  obtain⟨s,hs,hjs,h5⟩:=this
  cases ho:ops[s]? with
  | none=>rw[ho]at h5;cases h5
  | some o=>
    rw[ho]at h5
    simp only[Option.any_some,Array.any_eq_true']at h5
    obtain⟨e,he,h6⟩:=h5
    simp only[Bool.and_eq_true,beq_iff_eq]at h6
    exact⟨s,o,e,hjs,by omega,ho,he,h6.1,h6.2⟩
 ·have hlt:=(D4 ho)
  have:=h4 j hlt
  rw[ho]at this
  simp only[hj,decide_true,Bool.not_true,Bool.false_or,Option.all_some,Array.any_eq_true']at this
  obtain⟨e,he,h6⟩:=this
  simp only[Bool.and_eq_true,decide_eq_true_eq]at h6
  exact⟨e,he,h6.1,h6.2⟩
theorem n0z(L:g0g ops mid){listed:Array Bool}(hs:listed.size=ops.size)(hc:a8 ops listed)(hr:mid∈Region.ready .any ops listed):∀n j,mid - j≤n→j<mid→listed.getD j false=true:=by
 obtain⟨h0,ol,hol,hall⟩:=mem_ready.1 hr
 intro n
 induction n with
 | zero=>intro j h1 h2;omega
 | succ n ih=>
   intro j h1 h2
   obtain⟨s,o,e,hjs,hsm,ho,he,hb,rfl⟩:=L.used j h2
   rcases Nat.lt_or_ge s mid with h3|h3
   ·exact hc s o ho (ih s (by omega) h3) e he hb
   ·have:s=mid:=by omega
    subst this
    rw[hol]at ho
    cases ho
    exact hall e he hb
theorem j0V(L:g0g ops mid){listed:Array Bool}(hs:listed.size=ops.size)(hc:a8 ops listed)(hr:listed.getD mid true=false):∀j,mid<j→listed.getD j false=false:=by
 intro j
 induction j using Nat.strongRecOn with
 | _ j ih=>
   intro hj
   cases hl:listed.getD j false with
   | false=>rfl
   | true=>
     have hlt:j<ops.size:=by
      rcases Nat.lt_or_ge j ops.size with h|h
      ·exact h
      ·rw[Array.getD_eq_getD_getElem?,Array.getElem?_eq_none (by omega)]at hl;cases hl
     obtain⟨e,he,hb,hm⟩:=L.late j _ (Array.getElem?_eq_getElem hlt) hj
     have h1:=hc j _ (Array.getElem?_eq_getElem hlt) hl e he hb
     have h2:=L.deps j _ (Array.getElem?_eq_getElem hlt) e he hb
     rcases Nat.lt_or_ge mid e.on with h3|h3
     ·rw[ih e.on h2 h3]at h1;cases h1
     ·have h4:e.on=mid:=by omega
      rw[h4,← y4 (by have:=L.size;omega),hr]at h1
      cases h1
def lmA(ops:Array Oper)(mid:Nat):Array Bool:=(Array.range ops.size).map fun j=>decide (j≤mid)
theorem f0b(L:g0g ops mid){listed:Array Bool}(hs:listed.size=ops.size)(hc:a8 ops listed)(hr:mid∈Region.ready .any ops listed):listed.setIfInBounds mid true=lmA ops mid:=by
 have hm0:=(mem_ready.1 hr).1
 refine Array.ext (by simp[lmA,hs]) fun j h1 h2=>?_
 have hj:j<ops.size:=by simpa [hs]using h1
 have hl:=L.size
 simp only[lmA,Array.getElem_map,Array.getElem_range]
 rw[Array.getElem_setIfInBounds]
 by_cases e:mid=j
 ·simp[e]
 ·rw[if_neg e]
  rcases Nat.lt_or_ge j mid with h|h
  ·have:=n0z L hs hc hr mid j (by omega) h
   rw[Array.getD_eq_getD_getElem?,Array.getElem?_eq_getElem (by omega)]at this
   simp only[Option.getD_some]at this
   rw[this];simp;omega
  ·have:=j0V L hs hc hm0 j (by omega)
   rw[Array.getD_eq_getD_getElem?,Array.getElem?_eq_getElem (by omega)]at this
   simp only[Option.getD_some]at this
   rw[this];simp;omega
 omega
theorem p0v(L:g0g ops mid){listed:Array Bool}(hs:listed.size=ops.size):∀j,listed.getD j true=false→∃i,i∈Region.ready .any ops listed:=by
 intro j
 induction j using Nat.strongRecOn with
 | _ j ih=>
   intro hj
   have hlt:j<listed.size:=by
    rcases Nat.lt_or_ge j listed.size with h|h
    ·exact h
    ·simp[Array.getElem?_eq_none h]at hj
   cases ho:ops[j]? with
   | none=>rw[Array.getElem?_eq_none_iff]at ho;omega
   | some o=>
     by_cases hall:∀e∈o.after,Region.binds .any e=true→listed.getD e.on false=true
     ·exact⟨j,mem_ready.2 ⟨hj,o,ho,hall⟩⟩
     ·have:∃e,e∈o.after∧Region.binds .any e=true∧¬listed.getD e.on false=true:=by
       apply Classical.byContradiction
       intro hn
       exact hall fun e he hb=>Classical.byContradiction fun hx=>hn ⟨e,he,hb,hx⟩
      obtain⟨e,he,hb,hx⟩:=this
      have he':=L.deps j o ho e he hb
      exact ih e.on he' (by rw[y4 (by omega)];simpa using hx)
theorem p0u(L:g0g ops mid){listed:Array Bool}(hs:listed.size=ops.size)(hc:a8 ops listed)(hr:mid∈Region.ready .any ops listed):∀j∈Region.ready .any ops listed,j=mid:=by
 intro j hj
 obtain⟨h0,o,ho,hd⟩:=mem_ready.1 hj
 have hlt:=(D4 ho)
 have hm:=L.size
 rcases Nat.lt_trichotomy j mid with h|h|h
 ·have:=n0z L hs hc hr mid j (by omega) h
  rw[y4 (by omega),this]at h0;cases h0
 ·exact h
 ·obtain⟨e,he,hb,hme⟩:=L.late j o ho h
  have h1:=hd e he hb
  have h2:=L.deps j o ho e he hb
  have h0m:=(mem_ready.1 hr).1
  rcases Nat.lt_or_ge mid e.on with h3|h3
  ·rw[j0V L hs hc h0m _ h3]at h1;cases h1
  ·have h4:e.on=mid:=by omega
   rw[h4,← y4 (by omega),h0m]at h1;cases h1
theorem n0C(L:g0g ops mid){Stop:Goroutine→World→Prop}{b:Frame}{k:List Item}{cs:List Frame}(hk:b.kind≠.early)(R:Nat){Q:List Nat→Prop}(hQ:∀t f,R≤f→Q (Region.linearise.go .any ops f t (lmA ops mid) [])):
 ∀(fuel t:Nat) (listed:Array Bool) (a:Act) (w:World),listed.size=ops.size→a8 ops listed→listed.getD mid true=false→
  E5 P main F b.fn ops S mid (fun a w=>∀rest,Q rest→E0 P main F Stop (G (b.at a (.inRegion ops (mid::rest)::k)) cs) w) fuel listed a w→
  E0 P main F Stop (G (b.at a (.inRegion ops (Region.linearise.go .any ops (fuel+1+R) t listed [])::k)) cs) w:=by
 intro fuel
 induction fuel with
 | zero=>?_
 | succ fuel ih=>?_
 all_goals
  intro t listed a w hs hc hl H
  obtain⟨i0,hi0⟩:=p0v L hs mid hl
  have hlen:0<(Region.ready .any ops listed).length:=List.length_pos_of_mem hi0
  obtain⟨i,hi⟩:∃i,(Region.ready .any ops listed)[t % (Region.ready .any ops listed).length]? =some i:=⟨_,List.getElem?_eq_getElem (Nat.mod_lt _ hlen)⟩
  have hmem:=List.mem_of_getElem? hi
 ·rw[show 0+1+R=R+1 by omega,Region.linearise.go]
  change E0 P main F Stop (G (b.at a (.inRegion ops (match(Region.ready .any ops listed)[t % (Region.ready .any ops listed).length]? with
   | some i=>Region.linearise.go .any ops _ (t / (Region.ready .any ops listed).length) (listed.setIfInBounds i true) [i]
   | none=>[].reverse)::k)) cs) w
  rw[hi]
  simp only[]
  rw[linearise_go_acc,List.reverse_singleton,List.singleton_append]
  obtain rfl:=H.2 i hmem
  rw[f0b L hs hc hmem]
  exact H.1 H.2 _ (hQ _ _ (Nat.le_refl _))
 ·rw[show fuel+1+1+R=(fuel+1+R)+1 by omega,Region.linearise.go]
  change E0 P main F Stop (G (b.at a (.inRegion ops (match(Region.ready .any ops listed)[t % (Region.ready .any ops listed).length]? with
   | some i=>Region.linearise.go .any ops _ (t / (Region.ready .any ops listed).length) (listed.setIfInBounds i true) [i]
   | none=>[].reverse)::k)) cs) w
  rw[hi]
  simp only[]
  rw[linearise_go_acc,List.reverse_singleton,List.singleton_append]
  by_cases hil:i=mid
  ·subst hil
   rw[f0b L hs hc hmem]
   exact H.1 (p0u L hs hc hmem) _ (hQ _ _ (by omega))
  ·refine k0f hk (c0P (fun a' w' ⟨_,hK⟩=>ih _ _ _ _ (by simpa using hs) (fun j o' hj hlj e he hb=>?_) (by rw[getD_set_ne true hil];exact hl) hK) (H.2 i hmem hil))
   by_cases e2:i=j
   ·subst e2
    obtain⟨_,o2,ho2,hd⟩:=mem_ready.1 hmem
    rw[hj]at ho2
    cases ho2
    exact getD_set_true (hd e he hb)
   ·rw[getD_set_ne false e2]at hlj
    exact getD_set_true (hc j o' hj hlj e he hb)
theorem a0K(S:World→Prop)(hm:P.follows .mixedOrders=true)(L:g0g ops mid){Q:List Nat→Prop}(hQ:∀t f,ops.size - mid - 1≤f→Q (Region.linearise.go .any ops f t (lmA ops mid) [])){id:Nat}{Stop:Goroutine→World→Prop}{b:Frame}{a:Act}{w:World}{k:List Item}{cs:List Frame}(hk:b.kind≠.early)
 (h:E5 P main F b.fn ops S mid (fun a w=>∀rest,Q rest→E0 P main F Stop (G (b.at a (.inRegion ops (mid::rest)::k)) cs) w) mid (Array.replicate ops.size false) a w):
 E0 P main F Stop (G (b.at a (.code (.region id ops true)::k)) cs) w:=by
 refine .step rfl fun d=>⟨_,_,_,stepG_region_draw,⟨⟨1,?_⟩,by simp⟩,?_⟩
 ·exact⟨rfl,rfl,rfl,rfl,Nat.le_refl _,fun _ _ h=>.inr h,fun _ _=>rfl⟩
 ·have hs:=L.size
  have:=n0C (S:=S) (cs:=cs) (k:=k) L hk (ops.size - mid - 1) hQ mid ((w.at d).tape (w.at d).drawn (.order b.fn id)) (Array.replicate ops.size false) a w (by simp) (fun j o _ hl=>by
   simp at hl
   rcases Nat.lt_or_ge j ops.size with h1|h1<;>simp[h1]at hl) (by simp[hs]) h
  rw[show mid+1+(ops.size - mid - 1)=ops.size by omega]at this
  simp only[Region.schedule,hm,Bool.true_or,if_true]
  exact this.at (d+1)
end
noncomputable section
variable {cs:List Frame}{main:Bool}{Stop:Goroutine→World→Prop}
variable{F:Fz}{w:World}
structure CH(cb fb xb lb:Nat)(w:World):Prop where
 c:w.cell? ⟨cb,0,none⟩=some (vL fb 0 3 3)
 f0:w.cell? ⟨fb,0,none⟩=some (.func (.func 18) #[vP lb 0] #[])
 f1:w.cell? ⟨fb,1,none⟩=some (.func (.func 19) #[vP lb 0] #[])
 f2:w.cell? ⟨fb,2,none⟩=some (.func (.func 20) #[vP lb 0] #[])
 x:w.cell? ⟨xb,0,none⟩=some (vP lb 0)
theorem g0J(b:Bool)(a:Option Addr)(l c:Nat):Tryd.prog.built 49 [(0,.bool b),(2,.slice a l c)]=some #[.bool b,vI 0,.slice a l c]:=by kernel_rfl
@[go_sem] theorem p0Q(b:Bool)(a:Option Addr)(l c:Nat)(w:World):(Instr.build 49 #[(0,.bool b),(2,.slice a l c)]).run Tryd.prog w= .ok (.agg #[.bool b,vI 0,.slice a l c]) w:=run_build w _ _ _ (g0J b a l c)
@[go_sem] theorem r0n(b:Bool)(a:Option Addr)(l c:Nat)(w:World)(es:Array Event):(Instr.build 49 #[(0,.bool b),(2,.slice a l c)]).events Tryd.prog w es=es:=E4 w es _ _ _ _ Tryd.underlying49 (g0J b a l c)
def g0k(w:World)(ab:Nat)(b:Bool)(v:Value):World:=((w.setCell ⟨ab,0,none⟩ (.bool b)).setCell ⟨ab,1,none⟩ (vI 0)).setCell ⟨ab,2,none⟩ v
def K0:Code:=Tryd.f51.body.getD .skip
def u0I:=pC [] K0
def d7:=pC [zt] K0
def a0Y:=pC [zf] K0
def c0b:=pC [zt] a0Y
def g7:=pC [zf,zt,zt] K0
def a0X:=pC [zf] c0b
def l01:=pC [zt] a0X
def c0c:=pC [zt] l01
def i7:=pC [zf,zt,zf,zt,zt,zt] K0
def n9:=pC [zf] c0c
def c08:=pC [zf] n9
def Q8:=pC [zf,zt,zf,zt,zt,zf,zf,zt] K0
def H9:=pC [zf] c08
def R8:=pC [zf,zt,zf,zt,zt,zf,zf,zf,zf] K0
def Q5:=pC [zf] l01
def i07:=pC [zt] Q5
def G2:=pC [zf,zt,zf,zt,zf,zt,zt] K0
def i08:=pC [zf] i07
def e0H:=pC [zf,zt,zf,zt,zf,zt,zf,zt] K0
def g0t:=pC [zf] Q5
def b09:=pC [zf,zt,zf,zt,zf,zf,zt] K0
def b0z:=pC [zf] g0t
def q0k:=pC [zt] b0z
def c0a:=pC [zf,zt,zf,zt,zf,zf,zf,zt,zt] K0
def c07:=pC [zf] q0k
def i06:=pC [zf,zt,zf,zt,zf,zf,zf,zt,zf,zt] K0
def f0F:=pC [zf] b0z
def b0A:=pC [zf,zt,zf,zt,zf,zf,zf,zf,zt] K0
def c05:=pC [zf] f0F
def s0r:=pC [zt] c05
def b0B:=pC [zf,zt,zf,zt,zf,zf,zf,zf,zf,zt,zt] K0
def h0Y:=pC [zf] c05
def f0E:=pC [zf,zt,zf,zt,zf,zf,zf,zf,zf,zf,zt] K0
def h0W:=pC [zf] h0Y
def s0s:=pC [zt] h0W
def j8:=pC [zf,zt,zf,zt,zf,zf,zf,zf,zf,zf,zf,zt,zt] K0
def U3:=pC [zf] a0Y
def l00:=pC [zf,zf,zt] K0
theorem a0s:a0X= .block 0 l01:=by kernel_rfl
theorem c06:R8= .region 4 (oC R8) false:=by kernel_rfl
theorem h0X:G2= .region 5 (oC G2) true:=by kernel_rfl
theorem R5(args:Array Value):Frame.enter Tryd.prog 51 args .normal=(Go.Conc.base 51).at {tmps:=args++Array.replicate (63 - args.size) undef,defers:=[]} [.code u0I]:=enter_at args Tryd.func51 rfl
theorem i0j:X0 51:=G1 Tryd.func51 rfl rfl
def m9(s:Nat→Value):Array Value:= #[s 0,s 1,s 2,s 3,s 4,s 5,s 6,s 7,s 8,s 9,s 10,s 11,s 12,s 13,s 14,s 15,s 16,s 17,s 18,s 19,s 20,s 21,s 22,s 23,s 24,s 25,s 26,s 27,s 28,s 29,s 30,s 31,s 32,s 33,s 34,s 35,s 36,s 37,s 38,s 39,s 40,s 41,s 42,s 43,s 44,s 45,s 46,s 47,s 48,s 49,s 50,s 51,s 52,s 53,s 54,s 55,s 56,s 57,s 58,s 59,s 60,s 61,s 62]
theorem x0P{A:Array Value}(h:A.size=63):∃s,A=m9 s:=by
 obtain⟨s,hs,_⟩:=F3 A h
 exact⟨s,hs⟩
theorem m01{nn:Nat}(hU:Q1 F nn)(hn:nn≤w.heap.size){sv:Value}{cb xb j:Nat}{kd a b c0:Int}(k1:(kd == 1)=false)(k2:(kd == 2)=false)(k3:(kd == 3)=false)(k4:(kd == 4)=false)(k5:(kd == 5)=false)(k6:(kd == 6)=false){c:Frame}
 (h:E0 Tryd.prog main F Stop (G (c.finish (.agg #[.bool false,vI 0,.slice none 0 0])) cs) (d8 ((w.alloc (.cells #[vI kd,vI a,vI b,vI c0] 44)).alloc (.cells #[.bool false,vI 0,.slice none 0 0] 49)) (w.heap.size+1) false 0)):
 E0 Tryd.prog main F Stop (G (Frame.enter Tryd.prog 51 #[sv,vI j,.agg #[vI kd,vI a,vI b,vI c0],vP cb 0,vP xb 0] .normal) (c::cs)) w:=by
 rw[R5]
 walk_nrm
 refine ogW d7 a0Y ?_
 simp only[d7,K0,Tryd.f51,zz,Nat.reduceAdd]
 iterate 2 refine oA hU ?_
 refine I0<|ogV c0b U3<|ogW g7 a0X ?_
 simp only[g7,K0,Tryd.f51,zz,Nat.reduceAdd]
 refine oT ?_
 refine oL ?_
 refine I0 ?_
 rw[a0s]
 refine K5<|ogV c0c Q5<|ogW i7 n9 ?_
 simp only[i7,K0,Tryd.f51,zz,Nat.reduceAdd]
 iterate 2 refine oT ?_
 refine I0<|ogGn c08<|ogW Q8 H9 ?_
 simp only[Q8,K0,Tryd.f51,zz,Nat.reduceAdd]
 iterate 2 refine oT ?_
 refine I0<|ogGn R8 ?_
 rw[c06]
 refine ogR ?_
 simp only[R8,K0,Tryd.f51,zz,Nat.reduceAdd]
 iterate 2 refine oT ?_
 refine I0<|ogGn g0t<|ogW b09 b0z ?_
 simp only[b09,K0,Tryd.f51,zz,Nat.reduceAdd]
 iterate 2 refine oT ?_
 refine I0<|ogGn f0F<|ogW b0A c05 ?_
 simp only[b0A,K0,Tryd.f51,zz,Nat.reduceAdd]
 iterate 2 refine oT ?_
 refine I0<|ogGn h0Y<|ogW f0E h0W ?_
 simp only[f0E,K0,Tryd.f51,zz,Nat.reduceAdd]
 iterate 2 refine oT ?_
 refine I0<|ogGn .skip<|ogK<|ogI<|ogW l00 .ret ?_
 simp only[l00,K0,Tryd.f51,zz,Nat.reduceAdd]
 refine oT ?_
 (refine oW fun dd K hK=>?_;go_simp;refine hK _ _ ⟨⟨⟨0,I5 (fun k=>P2 hU (show nn≤w.heap.size+1 by omega)) _ _ _⟩,fun e he=>by(have hm:=mem_listed he;clear he hK;simp[go_sem,storedEv]at hm;rcases hm with rfl|rfl|rfl<;>exact V0 _ _ ((fun k=>P2 hU (show nn≤w.heap.size+1 by omega)) _))⟩,?_⟩;clear hK K;simp only[setCell_at'];refine E0.at ?_ dd)
 refine I0<|ogX ?_
 refine i2 (fn:=Tryd.f51) (v:=.agg #[.bool false,vI 0,.slice none 0 0]) rfl rfl Tryd.func51 (fun d=>by simp[results,Tryd.f51,go_sem]) (fun d e he=>by(simp[results,Tryd.f51,go_sem]at he;rcases he with rfl|rfl|rfl<;>exact M0 _ _)) ?_
 exact h
theorem CH.kept{cb fb xb lb:Nat}{w u:World}(h:CH cb fb xb lb w)(k:∀r,r<w.heap.size→u.heap[r]? =w.heap[r]?):CH cb fb xb lb u:=by
 have key:∀{a:Addr} {v:Value},w.cell? a=some v→u.cell? a=some v:=fun{a v} hc=>by
  have hl:a.block<w.heap.size:=by
   rcases Nat.lt_or_ge a.block w.heap.size with h|h
   ·exact h
   ·simp[World.cell?,Array.getElem?_eq_none h]at hc
  rw[← hc];unfold World.cell?;simp only[k _ hl]
 exact⟨key h.c,key h.f0,key h.f1,key h.f2,key h.x⟩
structure DoS(cb fb xb lb ob:Nat)(kd a b c0:Int)(u:World):Prop where
 h:CH cb fb xb lb u
 o:u.heap[ob]? =some (.cells #[vI kd,vI a,vI b,vI c0] 44 (0,0))
theorem DoS.at{cb fb xb lb ob:Nat}{kd a b c0:Int}{u:World}(h:DoS cb fb xb lb ob kd a b c0 u)(d:Nat):DoS cb fb xb lb ob kd a b c0 (u.at d):=⟨⟨h.h.c,h.h.f0,h.h.f1,h.h.f2,h.h.x⟩,h.o⟩
theorem DoS.k0{cb fb xb lb ob:Nat}{kd a b c0:Int}{u:World}(h:DoS cb fb xb lb ob kd a b c0 u):u.cell? ⟨ob,0,none⟩=some (vI kd):=by simp[World.cell?,h.o]
theorem DoS.k1{cb fb xb lb ob:Nat}{kd a b c0:Int}{u:World}(h:DoS cb fb xb lb ob kd a b c0 u):u.cell? ⟨ob,1,none⟩=some (vI a):=by simp[World.cell?,h.o]
theorem b0y(t f:Nat)(hf:5≤f):Region.linearise.go .any (oC G2) f t (lmA (oC G2) 9) []=[10,11,12,13,14]∨Region.linearise.go .any (oC G2) f t (lmA (oC G2) 9) []=[10,11,13,12,14]∨Region.linearise.go .any (oC G2) f t (lmA (oC G2) 9) []=[10,12,11,13,14]:=by
 have hA:lmA (oC G2) 9= #[true,true,true,true,true,true,true,true,true,true,false,false,false,false,false]:=by kernel_rfl
 have r1:Region.ready .any (oC G2) #[true,true,true,true,true,true,true,true,true,true,false,false,false,false,false]=[10]:=by kernel_rfl
 have r2:Region.ready .any (oC G2) #[true,true,true,true,true,true,true,true,true,true,true,false,false,false,false]=[11,12]:=by kernel_rfl
 have r3:Region.ready .any (oC G2) #[true,true,true,true,true,true,true,true,true,true,true,true,false,false,false]=[12,13]:=by kernel_rfl
 have r8:Region.ready .any (oC G2) #[true,true,true,true,true,true,true,true,true,true,true,true,false,true,false]=[12]:=by kernel_rfl
 have r4:Region.ready .any (oC G2) #[true,true,true,true,true,true,true,true,true,true,true,false,true,false,false]=[11]:=by kernel_rfl
 have r5:Region.ready .any (oC G2) #[true,true,true,true,true,true,true,true,true,true,true,true,true,false,false]=[13]:=by kernel_rfl
 have r6:Region.ready .any (oC G2) #[true,true,true,true,true,true,true,true,true,true,true,true,true,true,false]=[14]:=by kernel_rfl
 have r7:Region.ready .any (oC G2) #[true,true,true,true,true,true,true,true,true,true,true,true,true,true,true]=[]:=by kernel_rfl
 have step:∀(f t:Nat) (l:Array Bool) (acc:List Nat),Region.linearise.go .any (oC G2) (f+1) t l acc=match(Region.ready .any (oC G2) l)[t % (Region.ready .any (oC G2) l).length]? with
  | some i=>Region.linearise.go .any (oC G2) f (t / (Region.ready .any (oC G2) l).length) (l.setIfInBounds i true) (i::acc)
  | none=>acc.reverse:=fun f t l acc=>by rw[Region.linearise.go];rfl
 have endd:∀(f t:Nat) (acc:List Nat),Region.linearise.go .any (oC G2) f t #[true,true,true,true,true,true,true,true,true,true,true,true,true,true,true] acc=acc.reverse:=fun f t acc=>by
  cases f with
  | zero=>rfl
  | succ f=>rw[step,r7];rfl
 obtain⟨f,rfl⟩:∃g,f=g+5:=⟨f - 5,by omega⟩
 rw[hA,step,r1]
 simp only[List.length_singleton,Nat.mod_one,List.getElem?_cons_zero,Nat.div_one]
 change Region.linearise.go .any (oC G2) (f+4) t #[true,true,true,true,true,true,true,true,true,true,true,false,false,false,false] [10]=_∨Region.linearise.go .any (oC G2) (f+4) t #[true,true,true,true,true,true,true,true,true,true,true,false,false,false,false] [10]=_∨Region.linearise.go .any (oC G2) (f+4) t #[true,true,true,true,true,true,true,true,true,true,true,false,false,false,false] [10]=_
 rw[step,r2]
 simp only[List.length_cons,List.length_nil]
 rcases Nat.mod_two_eq_zero_or_one t with h|h
 ·rw[show(0+1+1)=2 from rfl,h]
  simp only[List.getElem?_cons_zero]
  rw[← or_assoc]
  left
  change Region.linearise.go .any (oC G2) (f+3) _ #[true,true,true,true,true,true,true,true,true,true,true,true,false,false,false] [11,10]=_∨Region.linearise.go .any (oC G2) (f+3) _ #[true,true,true,true,true,true,true,true,true,true,true,true,false,false,false] [11,10]=_
  rw[step,r3]
  simp only[List.length_cons,List.length_nil]
  generalize t / 2=t1
  rcases Nat.mod_two_eq_zero_or_one t1 with h|h
  ·left
   rw[show(0+1+1)=2 from rfl,h]
   simp only[List.getElem?_cons_zero]
   change Region.linearise.go .any (oC G2) (f+2) _ #[true,true,true,true,true,true,true,true,true,true,true,true,true,false,false] [12,11,10]=_
   rw[step,r5]
   simp only[List.length_singleton,Nat.mod_one,List.getElem?_cons_zero,Nat.div_one]
   change Region.linearise.go .any (oC G2) (f+1) _ #[true,true,true,true,true,true,true,true,true,true,true,true,true,true,false] [13,12,11,10]=_
   rw[step,r6]
   simp only[List.length_singleton,Nat.mod_one,List.getElem?_cons_zero,Nat.div_one]
   exact endd _ _ _
  ·right
   rw[show(0+1+1)=2 from rfl,h]
   simp only[List.getElem?_cons_succ,List.getElem?_cons_zero]
   change Region.linearise.go .any (oC G2) (f+2) _ #[true,true,true,true,true,true,true,true,true,true,true,true,false,true,false] [13,11,10]=_
   rw[step,r8]
   simp only[List.length_singleton,Nat.mod_one,List.getElem?_cons_zero,Nat.div_one]
   change Region.linearise.go .any (oC G2) (f+1) _ #[true,true,true,true,true,true,true,true,true,true,true,true,true,true,false] [12,13,11,10]=_
   rw[step,r6]
   simp only[List.length_singleton,Nat.mod_one,List.getElem?_cons_zero,Nat.div_one]
   exact endd _ _ _
 ·right
  right
  rw[show(0+1+1)=2 from rfl,h]
  simp only[List.getElem?_cons_succ,List.getElem?_cons_zero]
  change Region.linearise.go .any (oC G2) (f+3) _ #[true,true,true,true,true,true,true,true,true,true,true,false,true,false,false] [12,10]=_
  rw[step,r4]
  simp only[List.length_singleton,Nat.mod_one,List.getElem?_cons_zero,Nat.div_one]
  change Region.linearise.go .any (oC G2) (f+2) _ #[true,true,true,true,true,true,true,true,true,true,true,true,true,false,false] [11,12,10]=_
  rw[step,r5]
  simp only[List.length_singleton,Nat.mod_one,List.getElem?_cons_zero,Nat.div_one]
  change Region.linearise.go .any (oC G2) (f+1) _ #[true,true,true,true,true,true,true,true,true,true,true,true,true,true,false] [13,11,12,10]=_
  rw[step,r6]
  simp only[List.length_singleton,Nat.mod_one,List.getElem?_cons_zero,Nat.div_one]
  exact endd _ _ _
def W6(r:List Nat):Prop:=r=[10,11,12,13,14]∨r=[10,11,13,12,14]∨r=[10,12,11,13,14]
def a05(A:Array Value)(r:List Nat):Frame:=bA 51 A [.inRegion (oC G2) (9::r),.code i08,.inBlock 0,.code U3]
theorem o0r:(oC G2).size=15:=by kernel_rfl
theorem w0q{nn:Nat}(hU:Q1 F nn)(hn:nn≤w.heap.size){sv:Value}{cb fb xb lb j:Nat}{a b c0:Int}(hC:CH cb fb xb lb w)
 (h:∀A rest,W6 rest→D0 63 A [(8,vP (w.heap.size+1) 0)]→E0 Tryd.prog main F Stop (G (Frame.enter Tryd.prog 18 #[vP lb 0,sv,vI a] .normal) (a05 A rest::cs)) ((w.alloc (.cells #[vI 1,vI a,vI b,vI c0] 44)).alloc (.cells #[.bool false,vI 0,.slice none 0 0] 49))):
 E0 Tryd.prog main F Stop (G (Frame.enter Tryd.prog 51 #[sv,vI j,.agg #[vI 1,vI a,vI b,vI c0],vP cb 0,vP xb 0] .normal) cs) w:=by
 have hw:IntKind.i64.wrap 0=0:=by decide
 have hs:DoS cb fb xb lb w.heap.size 1 a b c0 ((w.alloc (.cells #[vI 1,vI a,vI b,vI c0] 44)).alloc (.cells #[.bool false,vI 0,.slice none 0 0] 49)):=⟨hC.kept fun r hr=>by rw[o0 _ _ (by simp;omega),o0 _ _ hr],by rw[o0 _ _ (by simp)];exact heap_alloc_new _ _⟩
 have hS:∀u d,DoS cb fb xb lb w.heap.size 1 a b c0 u→DoS cb fb xb lb w.heap.size 1 a b c0 (World.at u d):=fun u d h=>h.at d
 rw[R5]
 walk_nrm
 refine ogW d7 a0Y ?_
 simp only[d7,K0,Tryd.f51,zz,Nat.reduceAdd]
 iterate 2 refine oA hU ?_
 refine I0<|ogV c0b U3<|ogW g7 a0X ?_
 simp only[g7,K0,Tryd.f51,zz,Nat.reduceAdd]
 refine oT ?_
 refine oL ?_
 refine I0 ?_
 rw[a0s]
 refine K5<|ogV c0c Q5<|ogW i7 n9 ?_
 simp only[i7,K0,Tryd.f51,zz,Nat.reduceAdd]
 iterate 2 refine oT ?_
 refine I0<|ogYn .skip<|ogK<|ogYn i07<|ogV G2 i08 ?_
 rw[h0X]
 refine a0K (DoS cb fb xb lb w.heap.size 1 a b c0) (mid:=9) K2 (n0B (by kernel_rfl)) (Q:=W6) (fun t f hf=>b0y t f (by rw[o0r]at hf;omega)) (by decide) ?_
 have ho5:∃o,o=(oC G2):=⟨_,rfl⟩
 simp only[G2,K0,Tryd.f51,zz,Nat.reduceAdd]
 refine U0 hS (fun _ _ d h r hr=>(h r hr).at d) (i:=0) (v:=vL fb 0 3 3) hs rfl rfl (by kernel_rfl) (by kernel_rfl) (by kernel_rfl) (fun u hu=>.inl ⟨rfl,fun d=>⟨by simp[go_sem,execOp,Act.eval,hu.h.c],fun e he=>by have hm:=mem_listed he;simp[go_sem,execOp,Act.eval,hu.h.c]at hm;subst hm;exact M0 _ _⟩⟩) ?_
 walk_nrm
 refine U0 hS (fun _ _ d h r hr=>(h r hr).at d) (i:=1) (v:=vP w.heap.size 0) hs rfl rfl (by kernel_rfl) (by kernel_rfl) (by kernel_rfl) (fun u hu=>.inl ⟨rfl,fun d=>⟨by simp[go_sem,execOp,Act.eval],fun e he=>by have hm:=mem_listed he;simp[go_sem,execOp,Act.eval]at hm⟩⟩) ?_
 walk_nrm
 refine U0 hS (fun _ _ d h r hr=>(h r hr).at d) (i:=2) (v:=vI 1) hs rfl rfl (by kernel_rfl) (by kernel_rfl) (by kernel_rfl) (fun u hu=>.inl ⟨rfl,fun d=>⟨by simp[go_sem,execOp,Act.eval,hu.k0],fun e he=>by have hm:=mem_listed he;simp[go_sem,execOp,Act.eval,hu.k0]at hm;subst hm;exact M0 _ _⟩⟩) ?_
 walk_nrm
 refine U0 hS (fun _ _ d h r hr=>(h r hr).at d) (i:=3) (v:=vI 0) hs rfl rfl (by kernel_rfl) (by kernel_rfl) (by kernel_rfl) (fun u hu=>.inl ⟨rfl,fun d=>⟨by simp[go_sem,execOp,Act.eval,hw],fun e he=>by have hm:=mem_listed he;simp[go_sem,execOp,Act.eval,hw]at hm⟩⟩) ?_
 walk_nrm
 refine U0 hS (fun _ _ d h r hr=>(h r hr).at d) (i:=4) (v:=vP fb 0) hs rfl rfl (by kernel_rfl) (by kernel_rfl) (by kernel_rfl) (fun u hu=>.inl ⟨rfl,fun d=>⟨by simp[go_sem,execOp,Act.eval],fun e he=>by have hm:=mem_listed he;simp[go_sem,execOp,Act.eval]at hm⟩⟩) ?_
 walk_nrm
 refine U0 hS (fun _ _ d h r hr=>(h r hr).at d) (i:=5) (v:=.func (.func 18) #[vP lb 0] #[]) hs rfl rfl (by kernel_rfl) (by kernel_rfl) (by kernel_rfl) (fun u hu=>.inl ⟨rfl,fun d=>⟨by simp[go_sem,execOp,Act.eval,hu.h.f0],fun e he=>by have hm:=mem_listed he;simp[go_sem,execOp,Act.eval,hu.h.f0]at hm;subst hm;exact M0 _ _⟩⟩) ?_
 walk_nrm
 refine U0 hS (fun _ _ d h r hr=>(h r hr).at d) (i:=6) (v:=sv) hs rfl rfl (by kernel_rfl) (by kernel_rfl) (by kernel_rfl) (fun u hu=>.inl ⟨rfl,fun d=>⟨by simp[go_sem,execOp,Act.eval],fun e he=>by have hm:=mem_listed he;simp[go_sem,execOp,Act.eval]at hm⟩⟩) ?_
 walk_nrm
 refine U0 hS (fun _ _ d h r hr=>(h r hr).at d) (i:=7) (v:=vP w.heap.size 1) hs rfl rfl (by kernel_rfl) (by kernel_rfl) (by kernel_rfl) (fun u hu=>.inl ⟨rfl,fun d=>⟨by simp[go_sem,execOp,Act.eval],fun e he=>by have hm:=mem_listed he;simp[go_sem,execOp,Act.eval]at hm⟩⟩) ?_
 walk_nrm
 refine U0 hS (fun _ _ d h r hr=>(h r hr).at d) (i:=8) (v:=vI a) hs rfl rfl (by kernel_rfl) (by kernel_rfl) (by kernel_rfl) (fun u hu=>.inl ⟨rfl,fun d=>⟨by simp[go_sem,execOp,Act.eval,hu.k1],fun e he=>by have hm:=mem_listed he;simp[go_sem,execOp,Act.eval,hu.k1]at hm;subst hm;exact M0 _ _⟩⟩) ?_
 walk_nrm
 refine L6 (by kernel_rfl) (fun rest hr=>?_) _
 refine oc a0w #[vP lb 0,sv,vI a] ?_
 refine h _ rest hr ?_
 exact⟨rfl,rfl,trivial⟩
theorem w0r{nn:Nat}(hU:Q1 F nn)(hn:nn≤w.heap.size){sv:Value}{cb fb xb lb j:Nat}{a b c0:Int}(hC:CH cb fb xb lb w)
 (h:∀A rest,W6 rest→D0 63 A [(8,vP (w.heap.size+1) 0)]→E0 Tryd.prog main F Stop (G (Frame.enter Tryd.prog 19 #[vP lb 0,sv,vI a] .normal) (a05 A rest::cs)) ((w.alloc (.cells #[vI 2,vI a,vI b,vI c0] 44)).alloc (.cells #[.bool false,vI 0,.slice none 0 0] 49))):
 E0 Tryd.prog main F Stop (G (Frame.enter Tryd.prog 51 #[sv,vI j,.agg #[vI 2,vI a,vI b,vI c0],vP cb 0,vP xb 0] .normal) cs) w:=by
 have hw:IntKind.i64.wrap 1=1:=by decide
 have hs:DoS cb fb xb lb w.heap.size 2 a b c0 ((w.alloc (.cells #[vI 2,vI a,vI b,vI c0] 44)).alloc (.cells #[.bool false,vI 0,.slice none 0 0] 49)):=⟨hC.kept fun r hr=>by rw[o0 _ _ (by simp;omega),o0 _ _ hr],by rw[o0 _ _ (by simp)];exact heap_alloc_new _ _⟩
 have hS:∀u d,DoS cb fb xb lb w.heap.size 2 a b c0 u→DoS cb fb xb lb w.heap.size 2 a b c0 (World.at u d):=fun u d h=>h.at d
 rw[R5]
 walk_nrm
 refine ogW d7 a0Y ?_
 simp only[d7,K0,Tryd.f51,zz,Nat.reduceAdd]
 iterate 2 refine oA hU ?_
 refine I0<|ogV c0b U3<|ogW g7 a0X ?_
 simp only[g7,K0,Tryd.f51,zz,Nat.reduceAdd]
 refine oT ?_
 refine oL ?_
 refine I0 ?_
 rw[a0s]
 refine K5<|ogV c0c Q5<|ogW i7 n9 ?_
 simp only[i7,K0,Tryd.f51,zz,Nat.reduceAdd]
 iterate 2 refine oT ?_
 refine I0<|ogGn c08<|ogW Q8 H9 ?_
 simp only[Q8,K0,Tryd.f51,zz,Nat.reduceAdd]
 iterate 2 refine oT ?_
 refine I0<|ogYn .skip<|ogK<|ogYn i07<|ogV G2 i08 ?_
 rw[h0X]
 refine a0K (DoS cb fb xb lb w.heap.size 2 a b c0) (mid:=9) K2 (n0B (by kernel_rfl)) (Q:=W6) (fun t f hf=>b0y t f (by rw[o0r]at hf;omega)) (by decide) ?_
 have ho5:∃o,o=(oC G2):=⟨_,rfl⟩
 simp only[G2,K0,Tryd.f51,zz,Nat.reduceAdd]
 refine U0 hS (fun _ _ d h r hr=>(h r hr).at d) (i:=0) (v:=vL fb 0 3 3) hs rfl rfl (by kernel_rfl) (by kernel_rfl) (by kernel_rfl) (fun u hu=>.inl ⟨rfl,fun d=>⟨by simp[go_sem,execOp,Act.eval,hu.h.c],fun e he=>by have hm:=mem_listed he;simp[go_sem,execOp,Act.eval,hu.h.c]at hm;subst hm;exact M0 _ _⟩⟩) ?_
 walk_nrm
 refine U0 hS (fun _ _ d h r hr=>(h r hr).at d) (i:=1) (v:=vP w.heap.size 0) hs rfl rfl (by kernel_rfl) (by kernel_rfl) (by kernel_rfl) (fun u hu=>.inl ⟨rfl,fun d=>⟨by simp[go_sem,execOp,Act.eval],fun e he=>by have hm:=mem_listed he;simp[go_sem,execOp,Act.eval]at hm⟩⟩) ?_
 walk_nrm
 refine U0 hS (fun _ _ d h r hr=>(h r hr).at d) (i:=2) (v:=vI 2) hs rfl rfl (by kernel_rfl) (by kernel_rfl) (by kernel_rfl) (fun u hu=>.inl ⟨rfl,fun d=>⟨by simp[go_sem,execOp,Act.eval,hu.k0],fun e he=>by have hm:=mem_listed he;simp[go_sem,execOp,Act.eval,hu.k0]at hm;subst hm;exact M0 _ _⟩⟩) ?_
 walk_nrm
 refine U0 hS (fun _ _ d h r hr=>(h r hr).at d) (i:=3) (v:=vI 1) hs rfl rfl (by kernel_rfl) (by kernel_rfl) (by kernel_rfl) (fun u hu=>.inl ⟨rfl,fun d=>⟨by simp[go_sem,execOp,Act.eval,hw],fun e he=>by have hm:=mem_listed he;simp[go_sem,execOp,Act.eval,hw]at hm⟩⟩) ?_
 walk_nrm
 refine U0 hS (fun _ _ d h r hr=>(h r hr).at d) (i:=4) (v:=vP fb 1) hs rfl rfl (by kernel_rfl) (by kernel_rfl) (by kernel_rfl) (fun u hu=>.inl ⟨rfl,fun d=>⟨by simp[go_sem,execOp,Act.eval],fun e he=>by have hm:=mem_listed he;simp[go_sem,execOp,Act.eval]at hm⟩⟩) ?_
 walk_nrm
 refine U0 hS (fun _ _ d h r hr=>(h r hr).at d) (i:=5) (v:=.func (.func 19) #[vP lb 0] #[]) hs rfl rfl (by kernel_rfl) (by kernel_rfl) (by kernel_rfl) (fun u hu=>.inl ⟨rfl,fun d=>⟨by simp[go_sem,execOp,Act.eval,hu.h.f1],fun e he=>by have hm:=mem_listed he;simp[go_sem,execOp,Act.eval,hu.h.f1]at hm;subst hm;exact M0 _ _⟩⟩) ?_
 walk_nrm
 refine U0 hS (fun _ _ d h r hr=>(h r hr).at d) (i:=6) (v:=sv) hs rfl rfl (by kernel_rfl) (by kernel_rfl) (by kernel_rfl) (fun u hu=>.inl ⟨rfl,fun d=>⟨by simp[go_sem,execOp,Act.eval],fun e he=>by have hm:=mem_listed he;simp[go_sem,execOp,Act.eval]at hm⟩⟩) ?_
 walk_nrm
 refine U0 hS (fun _ _ d h r hr=>(h r hr).at d) (i:=7) (v:=vP w.heap.size 1) hs rfl rfl (by kernel_rfl) (by kernel_rfl) (by kernel_rfl) (fun u hu=>.inl ⟨rfl,fun d=>⟨by simp[go_sem,execOp,Act.eval],fun e he=>by have hm:=mem_listed he;simp[go_sem,execOp,Act.eval]at hm⟩⟩) ?_
 walk_nrm
 refine U0 hS (fun _ _ d h r hr=>(h r hr).at d) (i:=8) (v:=vI a) hs rfl rfl (by kernel_rfl) (by kernel_rfl) (by kernel_rfl) (fun u hu=>.inl ⟨rfl,fun d=>⟨by simp[go_sem,execOp,Act.eval,hu.k1],fun e he=>by have hm:=mem_listed he;simp[go_sem,execOp,Act.eval,hu.k1]at hm;subst hm;exact M0 _ _⟩⟩) ?_
 walk_nrm
 refine L6 (by kernel_rfl) (fun rest hr=>?_) _
 refine oc d0j #[vP lb 0,sv,vI a] ?_
 refine h _ rest hr ?_
 exact⟨rfl,rfl,trivial⟩
theorem w0s{nn:Nat}(hU:Q1 F nn)(hn:nn≤w.heap.size){sv:Value}{cb fb xb lb j:Nat}{a b c0:Int}(hC:CH cb fb xb lb w)
 (h:∀A rest,W6 rest→D0 63 A [(8,vP (w.heap.size+1) 0)]→E0 Tryd.prog main F Stop (G (Frame.enter Tryd.prog 20 #[vP lb 0,sv,vI a] .normal) (a05 A rest::cs)) ((w.alloc (.cells #[vI 3,vI a,vI b,vI c0] 44)).alloc (.cells #[.bool false,vI 0,.slice none 0 0] 49))):
 E0 Tryd.prog main F Stop (G (Frame.enter Tryd.prog 51 #[sv,vI j,.agg #[vI 3,vI a,vI b,vI c0],vP cb 0,vP xb 0] .normal) cs) w:=by
 have hw:IntKind.i64.wrap 2=2:=by decide
 have hs:DoS cb fb xb lb w.heap.size 3 a b c0 ((w.alloc (.cells #[vI 3,vI a,vI b,vI c0] 44)).alloc (.cells #[.bool false,vI 0,.slice none 0 0] 49)):=⟨hC.kept fun r hr=>by rw[o0 _ _ (by simp;omega),o0 _ _ hr],by rw[o0 _ _ (by simp)];exact heap_alloc_new _ _⟩
 have hS:∀u d,DoS cb fb xb lb w.heap.size 3 a b c0 u→DoS cb fb xb lb w.heap.size 3 a b c0 (World.at u d):=fun u d h=>h.at d
 rw[R5]
 walk_nrm
 refine ogW d7 a0Y ?_
 simp only[d7,K0,Tryd.f51,zz,Nat.reduceAdd]
 iterate 2 refine oA hU ?_
 refine I0<|ogV c0b U3<|ogW g7 a0X ?_
 simp only[g7,K0,Tryd.f51,zz,Nat.reduceAdd]
 refine oT ?_
 refine oL ?_
 refine I0 ?_
 rw[a0s]
 refine K5<|ogV c0c Q5<|ogW i7 n9 ?_
 simp only[i7,K0,Tryd.f51,zz,Nat.reduceAdd]
 iterate 2 refine oT ?_
 refine I0<|ogGn c08<|ogW Q8 H9 ?_
 simp only[Q8,K0,Tryd.f51,zz,Nat.reduceAdd]
 iterate 2 refine oT ?_
 refine I0<|ogGn R8 ?_
 rw[c06]
 refine ogR ?_
 simp only[R8,K0,Tryd.f51,zz,Nat.reduceAdd]
 iterate 2 refine oT ?_
 refine I0<|ogYn i07<|ogV G2 i08 ?_
 rw[h0X]
 refine a0K (DoS cb fb xb lb w.heap.size 3 a b c0) (mid:=9) K2 (n0B (by kernel_rfl)) (Q:=W6) (fun t f hf=>b0y t f (by rw[o0r]at hf;omega)) (by decide) ?_
 have ho5:∃o,o=(oC G2):=⟨_,rfl⟩
 simp only[G2,K0,Tryd.f51,zz,Nat.reduceAdd]
 refine U0 hS (fun _ _ d h r hr=>(h r hr).at d) (i:=0) (v:=vL fb 0 3 3) hs rfl rfl (by kernel_rfl) (by kernel_rfl) (by kernel_rfl) (fun u hu=>.inl ⟨rfl,fun d=>⟨by simp[go_sem,execOp,Act.eval,hu.h.c],fun e he=>by have hm:=mem_listed he;simp[go_sem,execOp,Act.eval,hu.h.c]at hm;subst hm;exact M0 _ _⟩⟩) ?_
 walk_nrm
 refine U0 hS (fun _ _ d h r hr=>(h r hr).at d) (i:=1) (v:=vP w.heap.size 0) hs rfl rfl (by kernel_rfl) (by kernel_rfl) (by kernel_rfl) (fun u hu=>.inl ⟨rfl,fun d=>⟨by simp[go_sem,execOp,Act.eval],fun e he=>by have hm:=mem_listed he;simp[go_sem,execOp,Act.eval]at hm⟩⟩) ?_
 walk_nrm
 refine U0 hS (fun _ _ d h r hr=>(h r hr).at d) (i:=2) (v:=vI 3) hs rfl rfl (by kernel_rfl) (by kernel_rfl) (by kernel_rfl) (fun u hu=>.inl ⟨rfl,fun d=>⟨by simp[go_sem,execOp,Act.eval,hu.k0],fun e he=>by have hm:=mem_listed he;simp[go_sem,execOp,Act.eval,hu.k0]at hm;subst hm;exact M0 _ _⟩⟩) ?_
 walk_nrm
 refine U0 hS (fun _ _ d h r hr=>(h r hr).at d) (i:=3) (v:=vI 2) hs rfl rfl (by kernel_rfl) (by kernel_rfl) (by kernel_rfl) (fun u hu=>.inl ⟨rfl,fun d=>⟨by simp[go_sem,execOp,Act.eval,hw],fun e he=>by have hm:=mem_listed he;simp[go_sem,execOp,Act.eval,hw]at hm⟩⟩) ?_
 walk_nrm
 refine U0 hS (fun _ _ d h r hr=>(h r hr).at d) (i:=4) (v:=vP fb 2) hs rfl rfl (by kernel_rfl) (by kernel_rfl) (by kernel_rfl) (fun u hu=>.inl ⟨rfl,fun d=>⟨by simp[go_sem,execOp,Act.eval],fun e he=>by have hm:=mem_listed he;simp[go_sem,execOp,Act.eval]at hm⟩⟩) ?_
 walk_nrm
 refine U0 hS (fun _ _ d h r hr=>(h r hr).at d) (i:=5) (v:=.func (.func 20) #[vP lb 0] #[]) hs rfl rfl (by kernel_rfl) (by kernel_rfl) (by kernel_rfl) (fun u hu=>.inl ⟨rfl,fun d=>⟨by simp[go_sem,execOp,Act.eval,hu.h.f2],fun e he=>by have hm:=mem_listed he;simp[go_sem,execOp,Act.eval,hu.h.f2]at hm;subst hm;exact M0 _ _⟩⟩) ?_
 walk_nrm
 refine U0 hS (fun _ _ d h r hr=>(h r hr).at d) (i:=6) (v:=sv) hs rfl rfl (by kernel_rfl) (by kernel_rfl) (by kernel_rfl) (fun u hu=>.inl ⟨rfl,fun d=>⟨by simp[go_sem,execOp,Act.eval],fun e he=>by have hm:=mem_listed he;simp[go_sem,execOp,Act.eval]at hm⟩⟩) ?_
 walk_nrm
 refine U0 hS (fun _ _ d h r hr=>(h r hr).at d) (i:=7) (v:=vP w.heap.size 1) hs rfl rfl (by kernel_rfl) (by kernel_rfl) (by kernel_rfl) (fun u hu=>.inl ⟨rfl,fun d=>⟨by simp[go_sem,execOp,Act.eval],fun e he=>by have hm:=mem_listed he;simp[go_sem,execOp,Act.eval]at hm⟩⟩) ?_
 walk_nrm
 refine U0 hS (fun _ _ d h r hr=>(h r hr).at d) (i:=8) (v:=vI a) hs rfl rfl (by kernel_rfl) (by kernel_rfl) (by kernel_rfl) (fun u hu=>.inl ⟨rfl,fun d=>⟨by simp[go_sem,execOp,Act.eval,hu.k1],fun e he=>by have hm:=mem_listed he;simp[go_sem,execOp,Act.eval,hu.k1]at hm;subst hm;exact M0 _ _⟩⟩) ?_
 walk_nrm
 refine L6 (by kernel_rfl) (fun rest hr=>?_) _
 refine oc d0k #[vP lb 0,sv,vI a] ?_
 refine h _ rest hr ?_
 exact⟨rfl,rfl,trivial⟩
end
section
variable {cs:List Frame}{main:Bool}{Stop:Goroutine→World→Prop}
variable{F:Fz}{w:World}
theorem m05{ab:Nat}(ha:C9 w ab)(hnh:∀k,¬held F ⟨ab,k,none⟩){A:Array Value}{rest:List Nat}(hr:W6 rest)(hA:D0 63 A [(8,vP ab 0)]){c:Frame}
 (h:E0 Tryd.prog main F Stop (G (c.finish (.agg #[.bool true,vI 1,.slice none 0 0])) cs) (d8 w ab true 1)):
 E0 Tryd.prog main F Stop (G ((a05 A rest).finish (.tuple #[.bool true,vI 0])) (c::cs)) w:=by
 obtain⟨s,rfl,h8,_⟩:=D5 m9 hA
 simp only[m9,h8]
 clear h8
 obtain⟨x0,x1,x2,c0,c1,c2⟩:=ha.c
 have z0:=ha.z 0
 have z1:=ha.z 1
 have z2:=ha.z 2
 unfold a05
 rcases hr with rfl|rfl|rfl
 all_goals
  rw[Frame.finish_at]
  simp only[G2,K0,Tryd.f51,zz,Nat.reduceAdd]
  walk_nrm
  iterate 5 refine oT ?_
  refine I0<|ogW e0H .ret ?_
  simp only[e0H,K0,Tryd.f51,zz,Nat.reduceAdd]
  iterate 3 refine oT ?_
  refine oc a0z #[.bool true] ?_
  refine o0E ?_
  rw[Frame.finish_at]
  walk_nrm
  refine oT ?_
  (refine oW fun dd K hK=>?_;go_simp;refine hK _ _ ⟨⟨⟨0,I5 hnh _ _ _⟩,fun e he=>by(have hm:=mem_listed he;clear he hK;simp[go_sem,storedEv,c0,c1,c2,z0,z1,z2]at hm;rcases hm with rfl|rfl|rfl<;>exact V0 _ _ (hnh _))⟩,?_⟩;clear hK K;simp only[setCell_at'];refine E0.at ?_ dd)
  refine I0<|ogX ?_
  refine i2 (fn:=Tryd.f51) (v:=.agg #[.bool true,vI 1,.slice none 0 0]) rfl rfl Tryd.func51 (fun d=>by simp[results,Tryd.f51,go_sem,c0,c1,c2,z0,z1,z2]) (fun d e he=>by(simp[results,Tryd.f51,go_sem,c0,c1,c2,z0,z1,z2]at he;rcases he with rfl|rfl|rfl<;>exact M0 _ _)) ?_
  exact h
theorem m04{ab:Nat}(ha:C9 w ab)(hnh:∀k,¬held F ⟨ab,k,none⟩){A:Array Value}{rest:List Nat}(hr:W6 rest)(hA:D0 63 A [(8,vP ab 0)]){c:Frame}
 (h:E0 Tryd.prog main F Stop (G (c.finish (.agg #[.bool true,vI 0,.slice none 0 0])) cs) (d8 w ab true 0)):
 E0 Tryd.prog main F Stop (G ((a05 A rest).finish (.tuple #[.bool false,vI 0])) (c::cs)) w:=by
 obtain⟨s,rfl,h8,_⟩:=D5 m9 hA
 simp only[m9,h8]
 clear h8
 obtain⟨x0,x1,x2,c0,c1,c2⟩:=ha.c
 have z0:=ha.z 0
 have z1:=ha.z 1
 have z2:=ha.z 2
 unfold a05
 rcases hr with rfl|rfl|rfl
 all_goals
  rw[Frame.finish_at]
  simp only[G2,K0,Tryd.f51,zz,Nat.reduceAdd]
  walk_nrm
  iterate 5 refine oT ?_
  refine I0<|ogW e0H .ret ?_
  simp only[e0H,K0,Tryd.f51,zz,Nat.reduceAdd]
  iterate 3 refine oT ?_
  refine oc a0z #[.bool false] ?_
  refine f0r ?_
  rw[Frame.finish_at]
  walk_nrm
  refine oT ?_
  (refine oW fun dd K hK=>?_;go_simp;refine hK _ _ ⟨⟨⟨0,I5 hnh _ _ _⟩,fun e he=>by(have hm:=mem_listed he;clear he hK;simp[go_sem,storedEv,c0,c1,c2,z0,z1,z2]at hm;rcases hm with rfl|rfl|rfl<;>exact V0 _ _ (hnh _))⟩,?_⟩;clear hK K;simp only[setCell_at'];refine E0.at ?_ dd)
  refine I0<|ogX ?_
  refine i2 (fn:=Tryd.f51) (v:=.agg #[.bool true,vI 0,.slice none 0 0]) rfl rfl Tryd.func51 (fun d=>by simp[results,Tryd.f51,go_sem,c0,c1,c2,z0,z1,z2]) (fun d e he=>by(simp[results,Tryd.f51,go_sem,c0,c1,c2,z0,z1,z2]at he;rcases he with rfl|rfl|rfl<;>exact M0 _ _)) ?_
  exact h
theorem e01{ab:Nat}(ha:C9 w ab)(hnh:∀k,¬held F ⟨ab,k,none⟩){A:Array Value}{rest:List Nat}(hr:W6 rest)(hA:D0 63 A [(8,vP ab 0)]){c:Frame}
 (h:E0 Tryd.prog main F Stop (G (c.finish (.agg #[.bool false,vI 0,.slice none 0 0])) cs) (d8 w ab false 0)):
 E0 Tryd.prog main F Stop (G ((a05 A rest).finish (.tuple #[.bool false,vI 1])) (c::cs)) w:=by
 obtain⟨s,rfl,h8,_⟩:=D5 m9 hA
 simp only[m9,h8]
 clear h8
 obtain⟨x0,x1,x2,c0,c1,c2⟩:=ha.c
 have z0:=ha.z 0
 have z1:=ha.z 1
 have z2:=ha.z 2
 unfold a05
 rcases hr with rfl|rfl|rfl
 all_goals
  rw[Frame.finish_at]
  simp only[G2,K0,Tryd.f51,zz,Nat.reduceAdd]
  walk_nrm
  iterate 5 refine oT ?_
  refine I0<|ogW e0H .ret ?_
  simp only[e0H,K0,Tryd.f51,zz,Nat.reduceAdd]
  iterate 3 refine oT ?_
  refine oc a0z #[.bool false] ?_
  refine f0r ?_
  rw[Frame.finish_at]
  walk_nrm
  refine oT ?_
  (refine oW fun dd K hK=>?_;go_simp;refine hK _ _ ⟨⟨⟨0,I5 hnh _ _ _⟩,fun e he=>by(have hm:=mem_listed he;clear he hK;simp[go_sem,storedEv,c0,c1,c2,z0,z1,z2]at hm;rcases hm with rfl|rfl|rfl<;>exact V0 _ _ (hnh _))⟩,?_⟩;clear hK K;simp only[setCell_at'];refine E0.at ?_ dd)
  refine I0<|ogX ?_
  refine i2 (fn:=Tryd.f51) (v:=.agg #[.bool false,vI 0,.slice none 0 0]) rfl rfl Tryd.func51 (fun d=>by simp[results,Tryd.f51,go_sem,c0,c1,c2,z0,z1,z2]) (fun d e he=>by(simp[results,Tryd.f51,go_sem,c0,c1,c2,z0,z1,z2]at he;rcases he with rfl|rfl|rfl<;>exact M0 _ _)) ?_
  exact h
end
section
variable {cs:List Frame}{main:Bool}{Stop:Goroutine→World→Prop}
variable{F:Fz}{w:World}
theorem w0t{nn:Nat}(hU:Q1 F nn)(hn:nn≤w.heap.size){sv:Value}{cb fb xb lb j:Nat}{a b c0:Int}(hC:CH cb fb xb lb w)
 (h:∀A,D0 63 A [(8,vP (w.heap.size+1) 0)]→E0 Tryd.prog main F Stop (G (Frame.enter Tryd.prog 45 #[vP lb 0,sv] .normal) ((bA 51 A [.inRegion (oC c0a) [2,3,4,5,6,7],.code c07,.inBlock 0,.code U3])::cs)) ((w.alloc (.cells #[vI 4,vI a,vI b,vI c0] 44)).alloc (.cells #[.bool false,vI 0,.slice none 0 0] 49))):
 E0 Tryd.prog main F Stop (G (Frame.enter Tryd.prog 51 #[sv,vI j,.agg #[vI 4,vI a,vI b,vI c0],vP cb 0,vP xb 0] .normal) cs) w:=by
 have hx:((w.alloc (.cells #[vI 4,vI a,vI b,vI c0] 44)).alloc (.cells #[.bool false,vI 0,.slice none 0 0] 49)).cell? ⟨xb,0,none⟩=some (vP lb 0):=(hC.kept (u:=((w.alloc (.cells #[vI 4,vI a,vI b,vI c0] 44)).alloc (.cells #[.bool false,vI 0,.slice none 0 0] 49))) fun r hr=>by rw[o0 _ _ (by simp;omega),o0 _ _ hr]).x
 rw[R5]
 walk_nrm
 refine ogW d7 a0Y ?_
 simp only[d7,K0,Tryd.f51,zz,Nat.reduceAdd]
 iterate 2 refine oA hU ?_
 refine I0<|ogV c0b U3<|ogW g7 a0X ?_
 simp only[g7,K0,Tryd.f51,zz,Nat.reduceAdd]
 refine oT ?_
 refine oL ?_
 refine I0 ?_
 rw[a0s]
 refine K5<|ogV c0c Q5<|ogW i7 n9 ?_
 simp only[i7,K0,Tryd.f51,zz,Nat.reduceAdd]
 iterate 2 refine oT ?_
 refine I0<|ogGn c08<|ogW Q8 H9 ?_
 simp only[Q8,K0,Tryd.f51,zz,Nat.reduceAdd]
 iterate 2 refine oT ?_
 refine I0<|ogGn R8 ?_
 rw[c06]
 refine ogR ?_
 simp only[R8,K0,Tryd.f51,zz,Nat.reduceAdd]
 iterate 2 refine oT ?_
 refine I0<|ogGn g0t<|ogW b09 b0z ?_
 simp only[b09,K0,Tryd.f51,zz,Nat.reduceAdd]
 iterate 2 refine oT ?_
 refine I0<|ogYn q0k<|ogW c0a c07 ?_
 simp only[c0a,K0,Tryd.f51,zz,Nat.reduceAdd]
 refine oL ?_
 refine oT ?_
 refine oc d0m #[vP lb 0,sv] ?_
 refine h _ ?_
 exact⟨rfl,rfl,trivial⟩
theorem w0u{nn:Nat}(hU:Q1 F nn)(hn:nn≤w.heap.size){sv:Value}{cb fb xb lb j:Nat}{a b c0:Int}(hC:CH cb fb xb lb w)
 (h:∀A,D0 63 A [(8,vP (w.heap.size+1) 0)]→E0 Tryd.prog main F Stop (G (Frame.enter Tryd.prog 46 #[vP lb 0,sv] .normal) ((bA 51 A [.inRegion (oC b0B) [2,3,4],.code .ret,.inBlock 0,.code U3])::cs)) ((w.alloc (.cells #[vI 5,vI a,vI b,vI c0] 44)).alloc (.cells #[.bool false,vI 0,.slice none 0 0] 49))):
 E0 Tryd.prog main F Stop (G (Frame.enter Tryd.prog 51 #[sv,vI j,.agg #[vI 5,vI a,vI b,vI c0],vP cb 0,vP xb 0] .normal) cs) w:=by
 have hx:((w.alloc (.cells #[vI 5,vI a,vI b,vI c0] 44)).alloc (.cells #[.bool false,vI 0,.slice none 0 0] 49)).cell? ⟨xb,0,none⟩=some (vP lb 0):=(hC.kept (u:=((w.alloc (.cells #[vI 5,vI a,vI b,vI c0] 44)).alloc (.cells #[.bool false,vI 0,.slice none 0 0] 49))) fun r hr=>by rw[o0 _ _ (by simp;omega),o0 _ _ hr]).x
 rw[R5]
 walk_nrm
 refine ogW d7 a0Y ?_
 simp only[d7,K0,Tryd.f51,zz,Nat.reduceAdd]
 iterate 2 refine oA hU ?_
 refine I0<|ogV c0b U3<|ogW g7 a0X ?_
 simp only[g7,K0,Tryd.f51,zz,Nat.reduceAdd]
 refine oT ?_
 refine oL ?_
 refine I0 ?_
 rw[a0s]
 refine K5<|ogV c0c Q5<|ogW i7 n9 ?_
 simp only[i7,K0,Tryd.f51,zz,Nat.reduceAdd]
 iterate 2 refine oT ?_
 refine I0<|ogGn c08<|ogW Q8 H9 ?_
 simp only[Q8,K0,Tryd.f51,zz,Nat.reduceAdd]
 iterate 2 refine oT ?_
 refine I0<|ogGn R8 ?_
 rw[c06]
 refine ogR ?_
 simp only[R8,K0,Tryd.f51,zz,Nat.reduceAdd]
 iterate 2 refine oT ?_
 refine I0<|ogGn g0t<|ogW b09 b0z ?_
 simp only[b09,K0,Tryd.f51,zz,Nat.reduceAdd]
 iterate 2 refine oT ?_
 refine I0<|ogGn f0F<|ogW b0A c05 ?_
 simp only[b0A,K0,Tryd.f51,zz,Nat.reduceAdd]
 iterate 2 refine oT ?_
 refine I0<|ogYn s0r<|ogW b0B .ret ?_
 simp only[b0B,K0,Tryd.f51,zz,Nat.reduceAdd]
 refine oL ?_
 refine oT ?_
 refine oc d0n #[vP lb 0,sv] ?_
 refine h _ ?_
 exact⟨rfl,rfl,trivial⟩
theorem w0v{nn:Nat}(hU:Q1 F nn)(hn:nn≤w.heap.size){sv:Value}{cb fb xb lb j:Nat}{a b c0:Int}(hC:CH cb fb xb lb w)
 (h:∀A,D0 63 A [(8,vP (w.heap.size+1) 0)]→E0 Tryd.prog main F Stop (G (Frame.enter Tryd.prog 30 #[vP lb 0,sv] .normal) ((bA 51 A [.inRegion (oC j8) [2,3,4,5],.code .ret,.inBlock 0,.code U3])::cs)) ((w.alloc (.cells #[vI 6,vI a,vI b,vI c0] 44)).alloc (.cells #[.bool false,vI 0,.slice none 0 0] 49))):
 E0 Tryd.prog main F Stop (G (Frame.enter Tryd.prog 51 #[sv,vI j,.agg #[vI 6,vI a,vI b,vI c0],vP cb 0,vP xb 0] .normal) cs) w:=by
 have hx:((w.alloc (.cells #[vI 6,vI a,vI b,vI c0] 44)).alloc (.cells #[.bool false,vI 0,.slice none 0 0] 49)).cell? ⟨xb,0,none⟩=some (vP lb 0):=(hC.kept (u:=((w.alloc (.cells #[vI 6,vI a,vI b,vI c0] 44)).alloc (.cells #[.bool false,vI 0,.slice none 0 0] 49))) fun r hr=>by rw[o0 _ _ (by simp;omega),o0 _ _ hr]).x
 rw[R5]
 walk_nrm
 refine ogW d7 a0Y ?_
 simp only[d7,K0,Tryd.f51,zz,Nat.reduceAdd]
 iterate 2 refine oA hU ?_
 refine I0<|ogV c0b U3<|ogW g7 a0X ?_
 simp only[g7,K0,Tryd.f51,zz,Nat.reduceAdd]
 refine oT ?_
 refine oL ?_
 refine I0 ?_
 rw[a0s]
 refine K5<|ogV c0c Q5<|ogW i7 n9 ?_
 simp only[i7,K0,Tryd.f51,zz,Nat.reduceAdd]
 iterate 2 refine oT ?_
 refine I0<|ogGn c08<|ogW Q8 H9 ?_
 simp only[Q8,K0,Tryd.f51,zz,Nat.reduceAdd]
 iterate 2 refine oT ?_
 refine I0<|ogGn R8 ?_
 rw[c06]
 refine ogR ?_
 simp only[R8,K0,Tryd.f51,zz,Nat.reduceAdd]
 iterate 2 refine oT ?_
 refine I0<|ogGn g0t<|ogW b09 b0z ?_
 simp only[b09,K0,Tryd.f51,zz,Nat.reduceAdd]
 iterate 2 refine oT ?_
 refine I0<|ogGn f0F<|ogW b0A c05 ?_
 simp only[b0A,K0,Tryd.f51,zz,Nat.reduceAdd]
 iterate 2 refine oT ?_
 refine I0<|ogGn h0Y<|ogW f0E h0W ?_
 simp only[f0E,K0,Tryd.f51,zz,Nat.reduceAdd]
 iterate 2 refine oT ?_
 refine I0<|ogYn s0s<|ogW j8 .ret ?_
 simp only[j8,K0,Tryd.f51,zz,Nat.reduceAdd]
 refine oL ?_
 refine oT ?_
 refine oc w8 #[vP lb 0,sv] ?_
 refine h _ ?_
 exact⟨rfl,rfl,trivial⟩
theorem s02{ab:Nat}(ha:C9 w ab)(hnh:∀k,¬held F ⟨ab,k,none⟩){v:Int}{A:Array Value}(hA:D0 63 A [(8,vP ab 0)]){c:Frame}
 (h:E0 Tryd.prog main F Stop (G (c.finish (.agg #[.bool true,vI v,.slice none 0 0])) cs) (d8 w ab true v)):
 E0 Tryd.prog main F Stop (G ((bA 51 A [.inRegion (oC c0a) [2,3,4,5,6,7],.code c07,.inBlock 0,.code U3]).finish (.tuple #[vI v,vI 0])) (c::cs)) w:=by
 obtain⟨s,rfl,h8,_⟩:=D5 m9 hA
 simp only[m9,h8]
 clear h8
 obtain⟨x0,x1,x2,c0,c1,c2⟩:=ha.c
 have z0:=ha.z 0
 have z1:=ha.z 1
 have z2:=ha.z 2
 rw[Frame.finish_at]
 simp only[c0a,K0,Tryd.f51,zz,Nat.reduceAdd]
 walk_nrm
 iterate 5 refine oT ?_
 refine I0<|ogW i06 .ret ?_
 simp only[i06,K0,Tryd.f51,zz,Nat.reduceAdd]
 iterate 4 refine oT ?_
 (refine oW fun dd K hK=>?_;go_simp;refine hK _ _ ⟨⟨⟨0,I5 hnh _ _ _⟩,fun e he=>by(have hm:=mem_listed he;clear he hK;simp[go_sem,storedEv,c0,c1,c2,z0,z1,z2]at hm;rcases hm with rfl|rfl|rfl<;>exact V0 _ _ (hnh _))⟩,?_⟩;clear hK K;simp only[setCell_at'];refine E0.at ?_ dd)
 refine I0<|ogX ?_
 refine i2 (fn:=Tryd.f51) (v:=.agg #[.bool true,vI v,.slice none 0 0]) rfl rfl Tryd.func51 (fun d=>by simp[results,Tryd.f51,go_sem,c0,c1,c2,z0,z1,z2]) (fun d e he=>by(simp[results,Tryd.f51,go_sem,c0,c1,c2,z0,z1,z2]at he;rcases he with rfl|rfl|rfl<;>exact M0 _ _)) ?_
 exact h
theorem m02{ab:Nat}(ha:C9 w ab)(hnh:∀k,¬held F ⟨ab,k,none⟩){A:Array Value}(hA:D0 63 A [(8,vP ab 0)]){c:Frame}
 (h:E0 Tryd.prog main F Stop (G (c.finish (.agg #[.bool false,vI 0,.slice none 0 0])) cs) (d8 w ab false 0)):
 E0 Tryd.prog main F Stop (G ((bA 51 A [.inRegion (oC c0a) [2,3,4,5,6,7],.code c07,.inBlock 0,.code U3]).finish (.tuple #[vI 0,vI 3])) (c::cs)) w:=by
 obtain⟨s,rfl,h8,_⟩:=D5 m9 hA
 simp only[m9,h8]
 clear h8
 obtain⟨x0,x1,x2,c0,c1,c2⟩:=ha.c
 have z0:=ha.z 0
 have z1:=ha.z 1
 have z2:=ha.z 2
 rw[Frame.finish_at]
 simp only[c0a,K0,Tryd.f51,zz,Nat.reduceAdd]
 walk_nrm
 iterate 5 refine oT ?_
 refine I0<|ogW i06 .ret ?_
 simp only[i06,K0,Tryd.f51,zz,Nat.reduceAdd]
 iterate 4 refine oT ?_
 (refine oW fun dd K hK=>?_;go_simp;refine hK _ _ ⟨⟨⟨0,I5 hnh _ _ _⟩,fun e he=>by(have hm:=mem_listed he;clear he hK;simp[go_sem,storedEv,c0,c1,c2,z0,z1,z2]at hm;rcases hm with rfl|rfl|rfl<;>exact V0 _ _ (hnh _))⟩,?_⟩;clear hK K;simp only[setCell_at'];refine E0.at ?_ dd)
 refine I0<|ogX ?_
 refine i2 (fn:=Tryd.f51) (v:=.agg #[.bool false,vI 0,.slice none 0 0]) rfl rfl Tryd.func51 (fun d=>by simp[results,Tryd.f51,go_sem,c0,c1,c2,z0,z1,z2]) (fun d e he=>by(simp[results,Tryd.f51,go_sem,c0,c1,c2,z0,z1,z2]at he;rcases he with rfl|rfl|rfl<;>exact M0 _ _)) ?_
 exact h
theorem r0i{ab:Nat}(ha:C9 w ab)(hnh:∀k,¬held F ⟨ab,k,none⟩){v:Int}{A:Array Value}(hA:D0 63 A [(8,vP ab 0)]){c:Frame}
 (h:E0 Tryd.prog main F Stop (G (c.finish (.agg #[.bool true,vI v,.slice none 0 0])) cs) (d8 w ab true v)):
 E0 Tryd.prog main F Stop (G ((bA 51 A [.inRegion (oC b0B) [2,3,4],.code .ret,.inBlock 0,.code U3]).finish (vI v)) (c::cs)) w:=by
 obtain⟨s,rfl,h8,_⟩:=D5 m9 hA
 simp only[m9,h8]
 clear h8
 obtain⟨x0,x1,x2,c0,c1,c2⟩:=ha.c
 have z0:=ha.z 0
 have z1:=ha.z 1
 have z2:=ha.z 2
 rw[Frame.finish_at]
 simp only[b0B,K0,Tryd.f51,zz,Nat.reduceAdd]
 walk_nrm
 refine oT ?_
 (refine oW fun dd K hK=>?_;go_simp;refine hK _ _ ⟨⟨⟨0,I5 hnh _ _ _⟩,fun e he=>by(have hm:=mem_listed he;clear he hK;simp[go_sem,storedEv,c0,c1,c2,z0,z1,z2]at hm;rcases hm with rfl|rfl|rfl<;>exact V0 _ _ (hnh _))⟩,?_⟩;clear hK K;simp only[setCell_at'];refine E0.at ?_ dd)
 refine I0<|ogX ?_
 refine i2 (fn:=Tryd.f51) (v:=.agg #[.bool true,vI v,.slice none 0 0]) rfl rfl Tryd.func51 (fun d=>by simp[results,Tryd.f51,go_sem,c0,c1,c2,z0,z1,z2]) (fun d e he=>by(simp[results,Tryd.f51,go_sem,c0,c1,c2,z0,z1,z2]at he;rcases he with rfl|rfl|rfl<;>exact M0 _ _)) ?_
 exact h
theorem r0j{ab:Nat}{lv:Value}{A:Array Value}(hA:D0 63 A [(8,vP ab 0)])
 (h:∀A,D0 63 A [(8,vP ab 0)]→E0 Tryd.prog main F Stop (G (Frame.enter Tryd.prog 29 #[lv] .normal) ((bA 51 A [.inRegion (oC j8) [3,4,5],.code .ret,.inBlock 0,.code U3])::cs)) w):
 E0 Tryd.prog main F Stop (G ((bA 51 A [.inRegion (oC j8) [2,3,4,5],.code .ret,.inBlock 0,.code U3]).finish lv) cs) w:=by
 obtain⟨s,rfl,h8,_⟩:=D5 m9 hA
 simp only[m9,h8]
 clear h8
 rw[Frame.finish_at]
 simp only[j8,K0,Tryd.f51,zz,Nat.reduceAdd]
 walk_nrm
 refine oc d0l #[lv] ?_
 refine h _ ?_
 exact⟨rfl,rfl,trivial⟩
theorem m03{ab:Nat}(ha:C9 w ab)(hnh:∀k,¬held F ⟨ab,k,none⟩){la:Option Addr}{ll lc:Nat}{A:Array Value}(hA:D0 63 A [(8,vP ab 0)]){c:Frame}
 (h:E0 Tryd.prog main F Stop (G (c.finish (.agg #[.bool true,vI 0,.slice la ll lc])) cs) (g0k w ab true (.slice la ll lc))):
 E0 Tryd.prog main F Stop (G ((bA 51 A [.inRegion (oC j8) [3,4,5],.code .ret,.inBlock 0,.code U3]).finish (.slice la ll lc)) (c::cs)) w:=by
 obtain⟨s,rfl,h8,_⟩:=D5 m9 hA
 simp only[m9,h8]
 clear h8
 obtain⟨x0,x1,x2,c0,c1,c2⟩:=ha.c
 have z0:=ha.z 0
 have z1:=ha.z 1
 have z2:=ha.z 2
 rw[Frame.finish_at]
 simp only[j8,K0,Tryd.f51,zz,Nat.reduceAdd]
 walk_nrm
 refine oT ?_
 (refine oW fun dd K hK=>?_;go_simp;refine hK _ _ ⟨⟨⟨0,I5 hnh _ _ _⟩,fun e he=>by(have hm:=mem_listed he;clear he hK;simp[go_sem,storedEv,c0,c1,c2,z0,z1,z2]at hm;rcases hm with rfl|rfl|rfl<;>exact V0 _ _ (hnh _))⟩,?_⟩;clear hK K;simp only[setCell_at'];refine E0.at ?_ dd)
 refine I0<|ogX ?_
 refine i2 (fn:=Tryd.f51) (v:=.agg #[.bool true,vI 0,.slice la ll lc]) rfl rfl Tryd.func51 (fun d=>by simp[results,Tryd.f51,go_sem,c0,c1,c2,z0,z1,z2]) (fun d e he=>by(simp[results,Tryd.f51,go_sem,c0,c1,c2,z0,z1,z2]at he;rcases he with rfl|rfl|rfl<;>exact M0 _ _)) ?_
 exact h
end
section
theorem m0B(z:BitVec 64):((z.toNat:Int) != 0)=decide (z≠0#64):=by
 have h:(z.toNat:Int)=0↔z=0#64:=by
  rw[← BitVec.toNat_inj]
  simp
 by_cases e:z=0#64
 ·simp[e]
 ·have:¬(z.toNat:Int)=0:=fun h1=>e (h.1 h1)
  rw[decide_eq_true e]
  exact bne_iff_ne.2 this
theorem a0g(y x:BitVec 64):((y.toNat:Int) == (x.toNat:Int))=decide (y=x):=by
 by_cases e:y=x
 ·simp[e]
 ·have:¬(y.toNat:Int)=(x.toNat:Int):=fun h1=>e (BitVec.eq_of_toNat_eq (by exact_mod_cast h1))
  simp[e,this]
theorem j0f(x:BitVec 64){j:Nat}(hj:j<64):x &&& (1#64 <<< j)=if x.getLsbD j then 1#64 <<< j else 0#64:=BitVec.and_twoPow x j
theorem s0v(j:Nat)(hj:j<64):(1#64 <<< j)≠0#64:=fun h=>by
 have:=congrArg (fun z:BitVec 64=>z.getLsbD j) h
 simp[BitVec.getLsbD_shiftLeft,hj]at this
theorem b0H(x:BitVec 64)(i:Nat):(bits .and .u64 (x.toNat:Int) ((bitI i).toNat:Int) != 0)=x.getLsbD (i % 64):=by
 have hj:i % 64<64:=Nat.mod_lt _ (by decide)
 rw[f0w,m0B]
 unfold bitI
 rw[j0f x hj]
 cases h:x.getLsbD (i % 64)
 ·simp
 ·simp only[if_true]
  exact decide_eq_true (s0v _ hj)
theorem j0O(x:BitVec 64)(i:Nat):(bits .and .u64 ((x.toNat:Int) / 2 ^ ((i:Int) % 64).toNat) 1 == 1)=x.getLsbD (i % 64):=by
 rw[show((i:Int) % 64).toNat=i % 64 by omega,o0q,o0N]
 have h:=j0f (x >>> (i % 64)) (j:=0) (by decide)
 rw[show(1#64 <<< 0)=1#64 by decide]at h
 rw[h,BitVec.getLsbD_ushiftRight,Nat.add_zero]
 cases x.getLsbD (i % 64)<;>decide
theorem g0X{n k:Nat}(hk:64*k≤n){j:Nat}(hj:j<64):(a09 n k).getLsbD j=decide (k*64+j<n):=by
 unfold a09
 by_cases hl:n<64*k+64
 ·rw[if_pos hl]
  have hd:n - 64*k<64:=by omega
  have e:((1#64 <<< (n - 64*k)) - 1#64).toNat=2 ^ (n - 64*k) - 1:=by
   have hp:2 ^ (n - 64*k)<2 ^ 64:=Nat.pow_lt_pow_right (by decide) hd
   have h1:0<2 ^ (n - 64*k):=Nat.two_pow_pos _
   rw[BitVec.toNat_sub,BitVec.toNat_shiftLeft,Nat.shiftLeft_eq]
   simp only[BitVec.toNat_ofNat]
   omega
  rw[BitVec.getLsbD,e,Nat.testBit_two_pow_sub_one]
  exact decide_eq_decide.2 (by omega)
 ·rw[if_neg hl,BitVec.getLsbD_allOnes]
  exact decide_eq_decide.2 (by omega)
def HiZ(n k:Nat)(x:BitVec 64):Prop:=∀j,j<64→n≤k*64+j→x.getLsbD j=false
theorem e07{n k:Nat}{x:BitVec 64}(hk:64*k≤n)(hz:HiZ n k x):x=a09 n k↔a08 n k x=none:=by
 unfold a08
 rw[List.find?_eq_none]
 constructor
 ·intro h j hj
  have hj':=List.mem_range.1 hj
  rw[h,g0X hk hj']
  simp
 ·intro h
  apply BitVec.eq_of_getLsbD_eq
  intro j hj
  rw[g0X hk hj]
  by_cases hn:k*64+j<n
  ·have:=h j (List.mem_range.2 hj)
   simp only[hn,decide_true,Bool.true_and,Bool.not_eq_true,Bool.not_eq_false']at this
   rw[this];simp[hn]
  ·rw[hz j hj (by omega)];simp[hn]
theorem s0R{x:BitVec 64}{j:Nat}(hj:j<64)(h1:x.getLsbD j=true)(h2:∀i,i<j→x.getLsbD i=false):O7 x=j:=by
 have h0:x≠0#64:=fun e=>by rw[e]at h1;simp at h1
 obtain⟨a,b,c⟩:=s9 h0
 rcases Nat.lt_trichotomy (O7 x) j with h|h|h
 ·rw[h2 _ h]at b;cases b
 ·exact h
 ·rw[c _ h]at h1;cases h1
theorem e08{n k:Nat}{x:BitVec 64}{j:Nat}(h:a08 n k x=some j):j<64∧k*64+j<n∧x.getLsbD j=false∧O7 (~~~x)=j∧~~~x≠0#64:=by
 unfold a08 at h
 rw[List.find?_range_eq_some]at h
 obtain⟨h1,h2,h3⟩:=h
 have hj:=List.mem_range.1 h2
 simp only[Bool.and_eq_true,decide_eq_true_eq,Bool.not_eq_true']at h1
 have hb:(~~~x).getLsbD j=true:=by rw[BitVec.getLsbD_not,h1.2];simp[hj]
 refine⟨hj,h1.1,h1.2,s0R hj hb fun i hi=>?_,fun e=>by rw[e]at hb;simp at hb⟩
 have:=h3 i hi
 rw[BitVec.getLsbD_not]
 simp only[Bool.not_eq_true',Bool.and_eq_false_iff,decide_eq_false_iff_not,Bool.not_eq_false']at this
 rcases this with h|h
 ·omega
 ·simp[h]
def O5(y:BitVec 64):List Nat:=(List.range 64).filter fun j=>y.getLsbD j
theorem R9{n k:Nat}{x:BitVec 64}(hz:HiZ n k x):J5 n k x=(O5 x).map fun j=>(64*(k:Int)+(j:Nat)):=by
 unfold J5 O5
 have e:(List.range 64).filter (fun j=>decide (k*64+j<n) && x.getLsbD j)=(List.range 64).filter fun j=>x.getLsbD j:=List.filter_congr fun j hj=>by
  have hj':=List.mem_range.1 hj
  by_cases hn:k*64+j<n
  ·simp[hn]
  ·simp[hn,hz j hj' (by omega)]
 rw[e]
 exact List.map_congr_left fun j _=>by push_cast;omega
theorem g0u:O5 0#64=[]:=by decide
theorem c0e{y:BitVec 64}(h:y≠0#64):O5 y=O7 y::O5 (y &&& (y - 1#64)):=by
 obtain⟨h1,h2,h3⟩:=s9 h
 have hclr:∀j,(y &&& (y - 1#64)).getLsbD j=(y.getLsbD j && decide (j≠O7 y)):=fun j=>by
  rw[t0l]
  cases hj:y.getLsbD j with
  | false=>simp
  | true=>
    simp only[Bool.true_and]
    refine decide_eq_decide.2 ⟨fun⟨i,hi,hb⟩ e=>?_,fun e=>⟨O7 y,?_,h2⟩⟩
    ·subst e;rw[h3 i hi]at hb;cases hb
    ·rcases Nat.lt_trichotomy (O7 y) j with h|h|h
     ·exact h
     ·exact absurd h.symm e
     ·rw[h3 j h]at hj;cases hj
 unfold O5
 have e:List.range 64=List.range (O7 y)++O7 y::(List.range (64 - O7 y - 1)).map fun i=>O7 y+1+i:=by
  have e1:64=O7 y+(1+(64 - O7 y - 1)):=by omega
  rw[show List.range 64=List.range (O7 y+(1+(64 - O7 y - 1)))by rw[← e1],List.range_add,List.range_add]
  simp[List.range_succ,Nat.add_assoc]
 rw[e]
 simp only[List.filter_append,List.filter_cons,h2,if_true]
 have f1:(List.range (O7 y)).filter (fun j=>y.getLsbD j)=[]:=List.filter_eq_nil_iff.2 fun j hj=>by simp[h3 j (List.mem_range.1 hj)]
 have f2:(List.range (O7 y)).filter (fun j=>(y &&& (y - 1#64)).getLsbD j)=[]:=List.filter_eq_nil_iff.2 fun j hj=>by rw[hclr];simp[h3 j (List.mem_range.1 hj)]
 have f3:(y &&& (y - 1#64)).getLsbD (O7 y)=false:=by rw[hclr];simp
 rw[f1,f2,f3]
 simp only[List.nil_append,Bool.false_eq_true,if_false]
 congr 1
 refine List.filter_congr fun j hj=>?_
 obtain⟨i,_,rfl⟩:=List.mem_map.1 hj
 rw[hclr]
 have:O7 y+1+i≠O7 y:=by omega
 simp[this]
end
section
variable{F:Fz}{w w':World}
theorem J2{b:Nat}(h:F b=none)(k:Nat):¬held F ⟨b,k,none⟩:=by
 rintro⟨z,hz,_⟩
 rw[h]at hz
 cases hz
theorem M5{ab:Nat}{b:Bool}{n:Int}{r:Nat}(hr:r≠ab):(d8 w ab b n).heap[r]? =w.heap[r]?:=by
 unfold d8
 rw[m0 _ _ _ hr,m0 _ _ _ hr,m0 _ _ _ hr]
theorem R3{f:FuncId}(h:∃fn,Tryd.prog.funcs[f]? =some fn)(A:Array Value)(k:List Item):e0u ((Go.Conc.base f).at ⟨A,[]⟩ k):=⟨rfl,rfl,h⟩
theorem V6(w:World)(a b:Obj){r:Nat}(h:r<w.heap.size):((w.alloc a).alloc b).heap[r]? =w.heap[r]?:=by
 rw[o0 _ _ (by simp;omega),o0 _ _ h]
theorem f0X(w:World)(a:Obj)(c:Array Value)(t:TypeId):((w.alloc a).alloc (.cells c t)).heap[w.heap.size+1]? =some (.cells c t (0,0)):=by
 have:=heap_alloc_new (w.alloc a) (.cells c t)
 simpa using this
end
noncomputable section
variable{F:Fz}{w w':World}{lb cb fb xb st:Nat}
theorem O6{w:World}{b k:Nat}{v:Value}(h:w.cell? ⟨b,k,none⟩=some v):b<w.heap.size:=by
 obtain⟨c,e,z,h1⟩:=X4 h
 exact(D4 h1)
structure BS where
 k:Z1
 wb:Nat
 g:Obj
abbrev BS.m(s:BS):Nat:=s.k.ws.length
structure BU(lb cb fb xb:Nat)(s:BS)(w:World):Prop where
 wf:BWf s.k
 o:w.heap[lb]? =some (.cells #[vI (s.k.n:Nat),vL s.wb 0 s.m s.m] 62 (0,0))
 ws:w.heap[s.wb]? =some (.cells ((s.k.ws.map fun x=>wV x).toArray) 113 (0,0))
 c:w.heap[cb]? =some (.cells #[vL fb 0 3 3] 116 (0,0))
 f:w.heap[fb]? =some (.cells #[.func (.func 18) #[vP lb 0] #[],.func (.func 19) #[vP lb 0] #[],.func (.func 20) #[vP lb 0] #[]] 58 (0,0))
 x:w.heap[xb]? =some (.cells #[vP lb 0] 33 (0,0))
 g:w.heap[0]? =some s.g
 t:∃c e z,s.g= .cells c e z∧∀k,k<64→c[k]? =some (.int .u8 ((deB.getD k 0:Nat):Int))
 ne:s.wb≠lb∧s.wb≠cb∧s.wb≠fb∧s.wb≠xb∧s.wb≠0
def BR(lb cb fb xb:Nat)(s:BS)(r:Nat):Prop:=r=lb∨r=s.wb∨r=cb∨r=fb∨r=xb∨r=0
section
variable{s:BS}
theorem BU.low(h:BU lb cb fb xb s w){r:Nat}(hr:BR lb cb fb xb s r):r<w.heap.size:=by
 rcases hr with rfl|rfl|rfl|rfl|rfl|rfl
 ·exact(Array.getElem?_eq_some_iff.1 h.o).1
 ·exact(Array.getElem?_eq_some_iff.1 h.ws).1
 ·exact(Array.getElem?_eq_some_iff.1 h.c).1
 ·exact(Array.getElem?_eq_some_iff.1 h.f).1
 ·exact(Array.getElem?_eq_some_iff.1 h.x).1
 ·exact(Array.getElem?_eq_some_iff.1 h.g).1
theorem BU.same(h:BU lb cb fb xb s w)(hs:∀r,BR lb cb fb xb s r→w'.heap[r]? =w.heap[r]?):BU lb cb fb xb s w':=
 ⟨h.wf,(hs _ (.inl rfl)).trans h.o,(hs _ (.inr (.inl rfl))).trans h.ws,(hs _ (.inr (.inr (.inl rfl)))).trans h.c,(hs _ (.inr (.inr (.inr (.inl rfl))))).trans h.f,(hs _ (.inr (.inr (.inr (.inr (.inl rfl)))))).trans h.x,(hs _ (.inr (.inr (.inr (.inr (.inr rfl)))))).trans h.g,h.t,h.ne⟩
theorem BU.bh(h:BU lb cb fb xb s w):BH lb s.wb s.k.n s.m w:=⟨by simp[World.cell?,h.o],by simp[World.cell?,h.o],h.wf.l,h.wf.n⟩
theorem BU.ch(h:BU lb cb fb xb s w):CH cb fb xb lb w:=⟨by simp[World.cell?,h.c],by simp[World.cell?,h.f],by simp[World.cell?,h.f],by simp[World.cell?,h.f],by simp[World.cell?,h.x]⟩
theorem BU.tab(h:BU lb cb fb xb s w):Tab w:=⟨fun k hk=>by
 obtain⟨c,e,z,e1,e2⟩:=h.t
 have:=h.g
 rw[e1]at this
 simp[World.cell?,this,e2 k hk]⟩
theorem BU.wc(h:BU lb cb fb xb s w){k:Nat}(hk:k<s.m):w.cell? ⟨s.wb,k,none⟩=some (wV (s.k.wd k)):=by
 simp[World.cell?,h.ws,Z1.wd,hk]
theorem BU.wz(h:BU lb cb fb xb s w)(k:Nat):w.frozen? ⟨s.wb,k,none⟩=false:=by simp[World.frozen?,h.ws]
theorem BU.setW(h:BU lb cb fb xb s w){k:Nat}{z:BitVec 64}(hz:∀j,s.k.n≤k*64+j→z.getLsbD j=false):BU lb cb fb xb {s with k:={s.k with ws:=s.k.ws.set k z}} (w.setCell ⟨s.wb,k,none⟩ (wV z)):=by
 obtain⟨n1,n2,n3,n4,n5⟩:=h.ne
 refine⟨⟨by simpa using h.wf.l,h.wf.n,fun i j hj=>?_⟩,?_,?_,?_,?_,?_,?_,h.t,h.ne⟩
 ·have hj:s.k.n≤i*64+j:=hj
  show((s.k.ws.set k z).getD i 0#64).getLsbD j=false
  rw[List.getD_eq_getElem?_getD,List.getElem?_set]
  split
  ·rename_i e
   subst e
   split
   ·exact hz j hj
   ·simp
  ·have:=h.wf.hi i j hj
   rwa [Z1.wd,List.getD_eq_getElem?_getD]at this
 ·rw[m0 _ _ _ (Ne.symm n1)]
  have:=h.o
  simpa [BS.m]using this
 ·have:=Y1 (o:=k) h.ws (wV z)
  rw[this]
  congr 2
  simp[List.map_set]
 ·rw[m0 _ _ _ (Ne.symm n2)];exact h.c
 ·rw[m0 _ _ _ (Ne.symm n3)];exact h.f
 ·rw[m0 _ _ _ (Ne.symm n4)];exact h.x
 ·rw[m0 _ _ _ (Ne.symm n5)];exact h.g
end
def w0x(A:Array Value):Frame:=(bA 47 A [.inRegion (oC j9) [1],.code b05,.inBlock 1,.inLoop O8,.inBlock 0])
def w0y(A:Array Value):Frame:=(bA 47 A [.inRegion (oC b04) [1],.code b0t,.inBlock 1,.inLoop O8,.inBlock 0])
def fPu(A:Array Value):Frame:=(bA 18 A [.inRegion (oC e0W) [3,4,5,6,7],.code .ret])
def fDr(A:Array Value):Frame:=(bA 19 A [.inRegion (oC e0I) [3,4,5,6,7],.code .ret])
def fHa(A:Array Value):Frame:=(bA 20 A [.inRegion (oC e0K) [1],.code j0e])
def y0C(A:Array Value):Frame:=(bA 45 A [.inRegion (oC u6) [1],.code M6,.inBlock 1,.inLoop a7,.inBlock 0,.code v5])
def y0D(A:Array Value):Frame:=(bA 45 A [.inRegion (oC l9) [1],.code b0x,.inBlock 1,.inLoop a7,.inBlock 0,.code v5])
def fLi(A:Array Value):Frame:=(bA 30 A [.inRegion (oC a0f) [1],.code o9,.inBlock 1,.code x4,.inLoop l7,.inBlock 0,.code U4])
def fCo(A:Array Value):Frame:=(bA 46 A [.inRegion (oC e0G) [2,3,4],.code .ret])
def w0z(A:Array Value):Frame:=(bA 51 A [.inRegion (oC c0a) [2,3,4,5,6,7],.code c07,.inBlock 0,.code U3])
def y0E(A:Array Value):Frame:=(bA 51 A [.inRegion (oC b0B) [2,3,4],.code .ret,.inBlock 0,.code U3])
def y0F(A:Array Value):Frame:=(bA 51 A [.inRegion (oC j8) [2,3,4,5],.code .ret,.inBlock 0,.code U3])
structure BeC where
 c:BCl
 A:Array Value
 A1:Array Value
 A2:Array Value
 rest:List Nat
 ab:Nat
 ov:Value
abbrev BCl.pc(c:BCl):Nat:=c.kd*10+c.ph
def BeC.fr(c:BeC):List Frame:=match c.c.pc with
 | 10=>[w0x c.A,fPu c.A1,a05 c.A2 c.rest]
 | 11=>[w0y c.A,fPu c.A1,a05 c.A2 c.rest]
 | 20=>[w0x c.A,fDr c.A1,a05 c.A2 c.rest]
 | 21=>[w0y c.A,fDr c.A1,a05 c.A2 c.rest]
 | 30=>[fHa c.A,a05 c.A2 c.rest]
 | 40=>[y0C c.A,w0z c.A2]
 | 41=>[y0D c.A,w0z c.A2]
 | 50=>[fLi c.A,fCo c.A1,y0E c.A2]
 | _=>[fLi c.A,y0F c.A2]
def e0q(lb:Nat):Value:=vP lb 0
def chS(st wb:Nat)(c:BCl):List (Nat×Value):=[(1,P0 st),(3,.bool (decide (c.kd=1))),(10,vP wb (c.i / 64)),(11,wV (bitI c.i))]
def v0L(st wb:Nat)(c:BCl):List (Nat×Value):=[(1,P0 st),(3,.bool (decide (c.kd=1))),(10,vP wb (c.i / 64)),(11,wV (bitI c.i)),(12,wV c.old)]
def haS(lb st:Nat)(c:BCl):List (Nat×Value):=[(0,e0q lb),(1,P0 st),(2,vI (c.i:Nat))]
def clS(lb st:Nat)(c:BCl):List (Nat×Value):=[(0,e0q lb),(1,P0 st),(6,vI (c.w:Nat))]
def y0l(lb st:Nat)(c:BCl):List (Nat×Value):=[(0,e0q lb),(1,P0 st),(6,vI (c.w:Nat)),(7,wV c.old),(8,vI (O7 (~~~c.old):Nat))]
def liS(lb st m:Nat)(c:BeC):List (Nat×Value):=[(0,e0q lb),(1,P0 st),(5,c.ov),(6,vI (c.c.w:Nat)),(11,vI (m:Nat)),(12,vI (c.c.w:Nat))]
def BSl(lb st wb m:Nat)(c:BeC):Prop:=match c.c.pc with
 | 10=>D0 49 c.A (chS st wb c.c)∧D0 14 c.A1 [(0,e0q lb)]∧W6 c.rest
 | 20=>D0 49 c.A (chS st wb c.c)∧D0 14 c.A1 [(0,e0q lb)]∧W6 c.rest
 | 11=>D0 49 c.A (v0L st wb c.c)∧D0 14 c.A1 [(0,e0q lb)]∧W6 c.rest
 | 21=>D0 49 c.A (v0L st wb c.c)∧D0 14 c.A1 [(0,e0q lb)]∧W6 c.rest
 | 30=>D0 31 c.A (haS lb st c.c)∧W6 c.rest
 | 40=>D0 55 c.A (clS lb st c.c)
 | 41=>D0 55 c.A (y0l lb st c.c)
 | 50=>D0 40 c.A (liS lb st m c)∧D0 9 c.A1 [(0,e0q lb)]
 | 60=>D0 40 c.A (liS lb st m c)
 | _=>False
structure BeV(n m:Nat)(c:BCl):Prop where
 pc:(c.kd,c.ph)∈[(1,0),(1,1),(2,0),(2,1),(3,0),(4,0),(4,1),(5,0),(6,0)]
 i:c.kd≤3→c.i<n∧c.w=c.i / 64
 w:c.w<m
 f:(c.kd,c.ph)=(4,1)→∃j,a08 n c.w c.old=some j
 out:c.out.length≤64*c.w
structure BJ(lb st wb n m:Nat)(c:BeC):Prop where
 v:BeV n m c.c
 s:BSl lb st wb m c
 a:D0 63 c.A2 [(8,vP c.ab 0)]
structure BCU(c:BeC)(w:World):Prop where
 a:C9 w c.ab
 ov:w.ownsRow 0 3 1 c.ov c.c.out.length (c.c.out.map fun v=>vI v)
 on:c.ov.ownBlock≠some c.ab
def I7(c:BeC)(r:Nat):Prop:=r=c.ab∨c.ov.ownBlock=some r
structure SA where
 an:s7
 la:Option Addr
 ll:Nat
 lc:Nat
def SA.row(a:SA):Value:=.slice a.la a.ll a.lc
def SA.v(a:SA):h0w:=⟨a.an.1,a.an.2.1,a.la,a.ll,a.lc⟩
def SAU(a:SA)(w:World):Prop:=w.ownsRow 0 2 1 a.row a.an.2.2.length (a.an.2.2.map fun v=>vI v)
def u0q(y:BeC ⊕ SA):BRs:=match y with
 | .inl c=>.inl c.c
 | .inr a=>.inr a.an
def L2(lb cb fb xb:Nat):X9 where
 S:=BS
 C:=BeC
 A:=SA
 SU:=BU lb cb fb xb
 SR:=BR lb cb fb xb
 CU:=BCU
 CR:=I7
 AV:=SA.v
 AU:=SAU
 AR:=fun a r=>a.row.ownBlock=some r
 cf:=fun st c=>d03 stK ⟨st,0,none⟩::c.fr
 df:=51
 first:= #[]
 capt:= #[vP cb 0,vP xb 0]
 beg:=fun s _ o y=>y.1.wb=s.wb∧y.1.g=s.g∧(y.1.k,u0q y.2)=s.k.begin o
 stp:=fun s c y=>y.1.wb=s.wb∧y.1.g=s.g∧(y.1.k,u0q y.2)=s.k.step c.c
 J:=fun st s c=>BJ lb st s.wb s.k.n s.m c
end
section
variable{F:Fz}{w w':World}{lb cb fb xb st:Nat}
theorem h0r{e:TypeId}{n:Nat}{v:Value}{xs:List Value}(h:w.ownsRow 0 e 1 v n xs){r:Nat}(hr:v.ownBlock=some r):r<w.heap.size:=by
 rcases h.2 with⟨rfl,_⟩|⟨b,cap,cur,rfl,_,h4,_⟩
 ·simp[Value.ownBlock]at hr
 ·simp only[Value.ownBlock,Option.some.injEq]at hr
  subst hr
  exact(D4 h4)
theorem BCU.low{c:BeC}(h:BCU c w){r:Nat}(hr:I7 c r):r<w.heap.size:=by
 rcases hr with rfl|hr
 ·obtain⟨_,_,_,h1⟩:=h.a.o
  exact(D4 h1)
 ·exact h0r h.ov hr
theorem BCU.same{c:BeC}(h:BCU c w)(hs:∀r,I7 c r→w'.heap[r]? =w.heap[r]?):BCU c w':=
 ⟨u5 h.a (hs _ (.inl rfl)),E1 h.ov fun b hb _=>hs b (.inr hb),h.on⟩
section
variable{s:BS}{c c':BeC}{k':Z1}{cs:List Frame}
theorem f8{fs:List Frame}(hf:fs=(L2 lb cb fb xb).cf st c'++cs)(hU:BU lb cb fb xb ⟨k',s.wb,s.g⟩ w')(hr:(k',.inl c'.c)=s.k.step c.c)(hJ:BJ lb st s.wb k'.n k'.ws.length c')(hcu:BCU c' w')(hcr:∀q,I7 c' q→I7 c q∨w.heap.size≤q)(hs:BU lb cb fb xb s w)(hdis:∀q,I7 c q→¬BR lb cb fb xb s q)(d:Nat):
 (L2 lb cb fb xb).Out st s (I7 c) ((L2 lb cb fb xb).stp s c) w cs (G (Frame.enter Tryd.prog 87 #[vP st 0] .normal) fs) (w'.at d):=by
 subst hf
 refine⟨⟨k',s.wb,s.g⟩,.inl c',⟨rfl,rfl,hr⟩,hU.same fun _ _=>rfl,fun q h=>.inl h,hJ,hcu.same fun _ _=>rfl,hcr,fun q h h2=>?_,rfl⟩
 rcases hcr q h with h3|h3
 ·exact hdis q h3 h2
 ·exact absurd (hs.low (r:=q) h2) (by omega)
theorem Y9{a:SA}(hU:BU lb cb fb xb ⟨k',s.wb,s.g⟩ w')(hr:(k',.inr a.an)=s.k.step c.c)(hau:SAU a w')(har:∀q,a.row.ownBlock=some q→I7 c q∨w.heap.size≤q)(hs:BU lb cb fb xb s w)(hdis:∀q,I7 c q→¬BR lb cb fb xb s q)(d:Nat):
 (L2 lb cb fb xb).Out st s (I7 c) ((L2 lb cb fb xb).stp s c) w cs (back (.agg #[.bool a.an.1,vI a.an.2.1,.slice a.la a.ll a.lc]) cs) (w'.at d):=by
 refine⟨⟨k',s.wb,s.g⟩,.inr a,⟨rfl,rfl,hr⟩,hU.same fun _ _=>rfl,fun q h=>.inl h,?_,har,fun q h h2=>?_,rfl⟩
 ·exact E1 (W':=w'.at d) hau fun _ _ _=>rfl
 ·rcases har q h with h3|h3
  ·exact hdis q h3 h2
  ·exact absurd (hs.low (r:=q) h2) (by omega)
theorem e0w{o:I6}{i:Nat}{fs:List Frame}(hf:fs=(L2 lb cb fb xb).cf st c'++cs)(hs:BU lb cb fb xb s w)(hU:∀r,r<w.heap.size→w'.heap[r]? =w.heap[r]?)(hr:(s.k,.inl c'.c)=s.k.begin o)(hJ:BJ lb st s.wb s.k.n s.m c')(hcu:BCU c' w')(hcr:∀q,I7 c' q→w.heap.size≤q)(d:Nat):
 (L2 lb cb fb xb).Out st s (fun _=>False) ((L2 lb cb fb xb).beg s i o) w cs (G (Frame.enter Tryd.prog 87 #[vP st 0] .normal) fs) (w'.at d):=by
 subst hf
 refine⟨s,.inl c',⟨rfl,rfl,hr⟩,hs.same fun r h=>hU r (hs.low h),fun q h=>.inl h,hJ,hcu.same fun _ _=>rfl,fun q h=>.inr (hcr q h),fun q h h2=>?_,rfl⟩
 exact absurd (hs.low (r:=q) h2) (by have:=hcr q h;omega)
theorem p4{o:I6}{i:Nat}{ok:Bool}{v:Int}(hs:BU lb cb fb xb s w)(hU:∀r,r<w.heap.size→w'.heap[r]? =w.heap[r]?)(hr:(s.k,.inr (ok,v,[]))=s.k.begin o)(d:Nat):
 (L2 lb cb fb xb).Out st s (fun _=>False) ((L2 lb cb fb xb).beg s i o) w cs (back (.agg #[.bool ok,vI v,.slice none 0 0]) cs) (w'.at d):=by
 refine⟨s,.inr ⟨(ok,v,[]),none,0,0⟩,⟨rfl,rfl,hr⟩,hs.same fun r h=>hU r (hs.low h),fun q h=>.inl h,World.ownsRow_nil _ _ _ _,fun q h=>?_,fun q h=>?_,rfl⟩
 ·simp[L2,SA.row,Value.ownBlock]at h
 ·simp[L2,SA.row,Value.ownBlock]at h
end
section
variable{s:BS}{kd a b0 c0:Int}{i:Nat}
def c09(w:World)(kd a b0 c0:Int):World:=(w.alloc (.cells #[vI kd,vI a,vI b0,vI c0] 44)).alloc (.cells #[.bool false,vI 0,.slice none 0 0] 49)
theorem V3{r:Nat}(hr:r<w.heap.size):(c09 w kd a b0 c0).heap[r]? =w.heap[r]?:=V6 _ _ _ hr
theorem P4:C9 (c09 w kd a b0 c0) (w.heap.size+1):=⟨_,_,_,f0X _ _ _ _⟩
theorem L7(hwf:Wf F w)(k:Nat):¬held F ⟨w.heap.size+1,k,none⟩:=P2 (o4 hwf) (by simp only;omega)
theorem s4{ok:Bool}{v:Int}{r:Nat}(hr:r<w.heap.size):(d8 (c09 w kd a b0 c0) (w.heap.size+1) ok v).heap[r]? =w.heap[r]?:=by
 rw[M5 (by omega),V3 hr]
theorem J9{c:BCl}(ho:c.out=[]){A A1 A2:Array Value}{rest:List Nat}:BCU ⟨c,A,A1,A2,rest,w.heap.size+1,.slice none 0 0⟩ (c09 w kd a b0 c0):=
 ⟨P4,by show World.ownsRow _ 0 3 1 _ c.out.length _;rw[ho];exact World.ownsRow_nil _ _ _ _,by simp[Value.ownBlock]⟩
theorem I9{c:BCl}{A A1 A2:Array Value}{rest:List Nat}(q:Nat)(h:I7 ⟨c,A,A1,A2,rest,w.heap.size+1,.slice none 0 0⟩ q):w.heap.size≤q:=by
 rcases h with rfl|h
 ·simp only;omega
 ·simp[Value.ownBlock]at h
theorem s0c(hs:BU lb cb fb xb s w)(hwf:Wf F w)(b:Frame)(cs:List Frame):
 E0 Tryd.prog false F ((L2 lb cb fb xb).Out st s (fun _=>False) ((L2 lb cb fb xb).beg s i ⟨1,a,b0,c0⟩) w (b::cs)) (G (Frame.enter Tryd.prog 51 #[P0 st,vI i,.agg #[vI 1,vI a,vI b0,vI c0],vP cb 0,vP xb 0] .normal) (b::cs)) w:=by
 have hs2:BU lb cb fb xb s (c09 w 1 a b0 c0):=hs.same fun r hr=>V3 (hs.low hr)
 refine w0q (sv:=P0 st) (o4 hwf) (Nat.le_refl _) hs.ch fun A2 rest hr hA2=>?_
 refine o0m fun A1 hA1=>?_
 by_cases h0:a<0
 ·refine m0P h0 (c0w hA1 (e01 P4 (L7 hwf) hr hA2 (.stop fun d=>?_)))
  exact p4 hs (fun r hr=>s4 hr) (by simp[Z1.begin,h0]) d
 ·by_cases h1:(s.k.n:Int)≤a
  ·refine m0O hs2.bh h0 h1 (c0w hA1 (e01 P4 (L7 hwf) hr hA2 (.stop fun d=>?_)))
   exact p4 hs (fun r hr=>s4 hr) (by simp[Z1.begin,h1]) d
  ·obtain⟨k,rfl⟩:∃k:Nat,a=(k:Int):=⟨a.toNat,by omega⟩
   have hk:k<s.k.n:=by omega
   refine s0P hs2.bh hk fun A hA=>?_
   refine R1 (K:=stK) (.stop fun d=>?_)
   have hl:=hs.wf.l
   refine e0w (st:=st) (c':=⟨⟨1,0,k,k / 64,0#64,[]⟩,A,A1,A2,rest,w.heap.size+1,.slice none 0 0⟩) (by rfl) hs (fun r hr=>V3 hr) ?_ ⟨⟨by simp,fun _=>⟨hk,rfl⟩,by simp only[BS.m];omega,fun h=>by simp at h,by simp⟩,(by exact⟨hA,hA1,hr⟩),hA2⟩ (J9 rfl) I9 d
   simp[Z1.begin,h0,hk]
theorem s0d(hs:BU lb cb fb xb s w)(hwf:Wf F w)(b:Frame)(cs:List Frame):
 E0 Tryd.prog false F ((L2 lb cb fb xb).Out st s (fun _=>False) ((L2 lb cb fb xb).beg s i ⟨2,a,b0,c0⟩) w (b::cs)) (G (Frame.enter Tryd.prog 51 #[P0 st,vI i,.agg #[vI 2,vI a,vI b0,vI c0],vP cb 0,vP xb 0] .normal) (b::cs)) w:=by
 have hs2:BU lb cb fb xb s (c09 w 2 a b0 c0):=hs.same fun r hr=>V3 (hs.low hr)
 refine w0r (sv:=P0 st) (o4 hwf) (Nat.le_refl _) hs.ch fun A2 rest hr hA2=>?_
 refine m06 fun A1 hA1=>?_
 by_cases h0:a<0
 ·refine m0P h0 (b0I hA1 (e01 P4 (L7 hwf) hr hA2 (.stop fun d=>?_)))
  exact p4 hs (fun r hr=>s4 hr) (by simp[Z1.begin,h0]) d
 ·by_cases h1:(s.k.n:Int)≤a
  ·refine m0O hs2.bh h0 h1 (b0I hA1 (e01 P4 (L7 hwf) hr hA2 (.stop fun d=>?_)))
   exact p4 hs (fun r hr=>s4 hr) (by simp[Z1.begin,h1]) d
  ·obtain⟨k,rfl⟩:∃k:Nat,a=(k:Int):=⟨a.toNat,by omega⟩
   have hk:k<s.k.n:=by omega
   refine s0P hs2.bh hk fun A hA=>?_
   refine R1 (K:=stK) (.stop fun d=>?_)
   have hl:=hs.wf.l
   refine e0w (st:=st) (c':=⟨⟨2,0,k,k / 64,0#64,[]⟩,A,A1,A2,rest,w.heap.size+1,.slice none 0 0⟩) (by rfl) hs (fun r hr=>V3 hr) ?_ ⟨⟨by simp,fun _=>⟨hk,rfl⟩,by simp only[BS.m];omega,fun h=>by simp at h,by simp⟩,(by exact⟨hA,hA1,hr⟩),hA2⟩ (J9 rfl) I9 d
   simp[Z1.begin,h0,hk]
theorem s0e(hs:BU lb cb fb xb s w)(hwf:Wf F w)(b:Frame)(cs:List Frame):
 E0 Tryd.prog false F ((L2 lb cb fb xb).Out st s (fun _=>False) ((L2 lb cb fb xb).beg s i ⟨3,a,b0,c0⟩) w (b::cs)) (G (Frame.enter Tryd.prog 51 #[P0 st,vI i,.agg #[vI 3,vI a,vI b0,vI c0],vP cb 0,vP xb 0] .normal) (b::cs)) w:=by
 have hs2:BU lb cb fb xb s (c09 w 3 a b0 c0):=hs.same fun r hr=>V3 (hs.low hr)
 refine w0s (sv:=P0 st) (o4 hwf) (Nat.le_refl _) hs.ch fun A2 rest hr hA2=>?_
 by_cases h0:a<0
 ·refine p0j h0 (e01 P4 (L7 hwf) hr hA2 (.stop fun d=>?_))
  exact p4 hs (fun r hr=>s4 hr) (by simp[Z1.begin,h0]) d
 ·by_cases h1:(s.k.n:Int)≤a
  ·refine p0i hs2.bh h0 h1 (e01 P4 (L7 hwf) hr hA2 (.stop fun d=>?_))
   exact p4 hs (fun r hr=>s4 hr) (by simp[Z1.begin,h1]) d
  ·obtain⟨k,rfl⟩:∃k:Nat,a=(k:Int):=⟨a.toNat,by omega⟩
   have hk:k<s.k.n:=by omega
   refine w0B hs2.bh hk fun A hA=>?_
   refine R1 (K:=stK) (.stop fun d=>?_)
   have hl:=hs.wf.l
   refine e0w (st:=st) (c':=⟨⟨3,0,k,k / 64,0#64,[]⟩,A,A,A2,rest,w.heap.size+1,.slice none 0 0⟩) (by rfl) hs (fun r hr=>V3 hr) ?_ ⟨⟨by simp,fun _=>⟨hk,rfl⟩,by simp only[BS.m];omega,fun h=>by simp at h,by simp⟩,(by exact⟨hA,hr⟩),hA2⟩ (J9 rfl) I9 d
   simp[Z1.begin,h0,hk]
theorem s0f(hs:BU lb cb fb xb s w)(hwf:Wf F w)(b:Frame)(cs:List Frame):
 E0 Tryd.prog false F ((L2 lb cb fb xb).Out st s (fun _=>False) ((L2 lb cb fb xb).beg s i ⟨4,a,b0,c0⟩) w (b::cs)) (G (Frame.enter Tryd.prog 51 #[P0 st,vI i,.agg #[vI 4,vI a,vI b0,vI c0],vP cb 0,vP xb 0] .normal) (b::cs)) w:=by
 have hs2:BU lb cb fb xb s (c09 w 4 a b0 c0):=hs.same fun r hr=>V3 (hs.low hr)
 refine w0t (sv:=P0 st) (o4 hwf) (Nat.le_refl _) hs.ch fun A2 hA2=>?_
 by_cases h0:s.m=0
 ·refine v0M hs2.bh h0 (m02 P4 (L7 hwf) hA2 (.stop fun d=>?_))
  exact p4 hs (fun r hr=>s4 hr) (by simp only[BS.m]at h0;simp[Z1.begin,h0]) d
 ·refine y0m hs2.bh (by omega) fun A hA=>?_
  refine R1 (K:=stK) (.stop fun d=>?_)
  refine e0w (st:=st) (c':=⟨⟨4,0,0,0,0#64,[]⟩,A,A,A2,[],w.heap.size+1,.slice none 0 0⟩) (by rfl) hs (fun r hr=>V3 hr) ?_ ⟨⟨by simp,fun h=>absurd h (by simp),by simp only;omega,fun h=>by simp at h,by simp⟩,(by exact hA),hA2⟩ (J9 rfl) I9 d
  simp only[BS.m]at h0
  simp[Z1.begin,h0]
theorem s0g(hs:BU lb cb fb xb s w)(hwf:Wf F w)(b:Frame)(cs:List Frame):
 E0 Tryd.prog false F ((L2 lb cb fb xb).Out st s (fun _=>False) ((L2 lb cb fb xb).beg s i ⟨5,a,b0,c0⟩) w (b::cs)) (G (Frame.enter Tryd.prog 51 #[P0 st,vI i,.agg #[vI 5,vI a,vI b0,vI c0],vP cb 0,vP xb 0] .normal) (b::cs)) w:=by
 have hs2:BU lb cb fb xb s (c09 w 5 a b0 c0):=hs.same fun r hr=>V3 (hs.low hr)
 refine w0u (sv:=P0 st) (o4 hwf) (Nat.le_refl _) hs.ch fun A2 hA2=>?_
 refine j0I fun A1 hA1=>?_
 by_cases h0:s.m=0
 ·refine n0w hs2.bh h0 (f0M hA1 (r0i P4 (L7 hwf) hA2 (.stop fun d=>?_)))
  exact p4 hs (fun r hr=>s4 hr) (by simp only[BS.m]at h0;simp[Z1.begin,h0]) d
 ·refine t0i hs2.bh (by omega) fun A hA=>?_
  refine R1 (K:=stK) (.stop fun d=>?_)
  refine e0w (st:=st) (c':=⟨⟨5,0,0,0,0#64,[]⟩,A,A1,A2,[],w.heap.size+1,.slice none 0 0⟩) (by rfl) hs (fun r hr=>V3 hr) ?_ ⟨⟨by simp,fun h=>absurd h (by simp),by simp only;omega,fun h=>by simp at h,by simp⟩,(by exact⟨hA,hA1⟩),hA2⟩ (J9 rfl) I9 d
  simp only[BS.m]at h0
  simp[Z1.begin,h0]
theorem s0h(hs:BU lb cb fb xb s w)(hwf:Wf F w)(b:Frame)(cs:List Frame):
 E0 Tryd.prog false F ((L2 lb cb fb xb).Out st s (fun _=>False) ((L2 lb cb fb xb).beg s i ⟨6,a,b0,c0⟩) w (b::cs)) (G (Frame.enter Tryd.prog 51 #[P0 st,vI i,.agg #[vI 6,vI a,vI b0,vI c0],vP cb 0,vP xb 0] .normal) (b::cs)) w:=by
 have hs2:BU lb cb fb xb s (c09 w 6 a b0 c0):=hs.same fun r hr=>V3 (hs.low hr)
 refine w0v (sv:=P0 st) (o4 hwf) (Nat.le_refl _) hs.ch fun A2 hA2=>?_
 by_cases h0:s.m=0
 ·refine n0w hs2.bh h0 (r0j hA2 fun A2 hA2=>o0C fun A hA=>o0D hA (m03 P4 (L7 hwf) hA2 (.stop fun d=>?_)))
  exact p4 hs (fun r hr=>s4 hr) (by simp only[BS.m]at h0;simp[Z1.begin,h0]) d
 ·refine t0i hs2.bh (by omega) fun A hA=>?_
  refine R1 (K:=stK) (.stop fun d=>?_)
  refine e0w (st:=st) (c':=⟨⟨6,0,0,0,0#64,[]⟩,A,A,A2,[],w.heap.size+1,.slice none 0 0⟩) (by rfl) hs (fun r hr=>V3 hr) ?_ ⟨⟨by simp,fun h=>absurd h (by simp),by simp only;omega,fun h=>by simp at h,by simp⟩,(by exact hA),hA2⟩ (J9 rfl) I9 d
  simp only[BS.m]at h0
  simp[Z1.begin,h0]
theorem h0G(h1:kd≠1)(h2:kd≠2)(h3:kd≠3)(h4:kd≠4)(h5:kd≠5)(h6:kd≠6)(hs:BU lb cb fb xb s w)(hwf:Wf F w)(b:Frame)(cs:List Frame):
 E0 Tryd.prog false F ((L2 lb cb fb xb).Out st s (fun _=>False) ((L2 lb cb fb xb).beg s i ⟨kd,a,b0,c0⟩) w (b::cs)) (G (Frame.enter Tryd.prog 51 #[P0 st,vI i,.agg #[vI kd,vI a,vI b0,vI c0],vP cb 0,vP xb 0] .normal) (b::cs)) w:=by
 refine m01 (sv:=P0 st) (o4 hwf) (Nat.le_refl _) (by simpa using h1) (by simpa using h2) (by simpa using h3) (by simpa using h4) (by simpa using h5) (by simpa using h6) (.stop fun d=>?_)
 exact p4 (w':=d8 (c09 w kd a b0 c0) (w.heap.size+1) false 0) hs (fun r hr=>s4 hr) (by simp[Z1.begin,h1,h2,h3,h4,h5,h6]) d
end
end
section
variable{F:Fz}{w w':World}{lb cb fb xb st:Nat}
theorem N7(i j:Nat):(bitI i).getLsbD j=decide (j=i % 64):=by
 have hi:i % 64<64:=Nat.mod_lt _ (by decide)
 unfold bitI
 rw[BitVec.getLsbD_shiftLeft]
 by_cases e:j=i % 64
 ·subst e;simp[hi]
 ·by_cases l:j<i % 64
  ·simp[l,e]
  ·have hne:¬(j - i % 64=0):=by omega
   simp[e,l,BitVec.getLsbD_one,hne]
section
variable{s:BS}{i cw:Nat}{old:BitVec 64}{out:List Int}{A A1 A2:Array Value}{rest:List Nat}{ab:Nat}{ov:Value}
theorem v8(hU:BU lb cb fb xb s w)(hne:¬BR lb cb fb xb s ab){ok:Bool}{v:Int}:BU lb cb fb xb s (d8 w ab ok v):=hU.same fun q hq=>M5 (fun e=>hne (e ▸ hq))
theorem f0x{b k:Nat}{v:Value}(h:C9 w ab)(hne:b≠ab):C9 (w.setCell ⟨b,k,none⟩ v) ab:=u5 h (m0 _ _ _ (Ne.symm hne))
theorem u06(hJ:BJ lb st s.wb s.k.n s.m ⟨⟨1,0,i,cw,old,out⟩,A,A1,A2,rest,ab,ov⟩)(hs:BU lb cb fb xb s w)(hc:BCU ⟨⟨1,0,i,cw,old,out⟩,A,A1,A2,rest,ab,ov⟩ w)(hdis:∀q,I7 ⟨⟨1,0,i,cw,old,out⟩,A,A1,A2,rest,ab,ov⟩ q→¬BR lb cb fb xb s q)(hwf:Wf F w)(hF:∀r,BR lb cb fb xb s r∨I7 ⟨⟨1,0,i,cw,old,out⟩,A,A1,A2,rest,ab,ov⟩ r→F r=none)(b:Frame)(cs:List Frame):
 E0 Tryd.prog false F ((L2 lb cb fb xb).Out st s (I7 ⟨⟨1,0,i,cw,old,out⟩,A,A1,A2,rest,ab,ov⟩) ((L2 lb cb fb xb).stp s ⟨⟨1,0,i,cw,old,out⟩,A,A1,A2,rest,ab,ov⟩) w (b::cs)) (back (.tuple #[]) ((L2 lb cb fb xb).cf st ⟨⟨1,0,i,cw,old,out⟩,A,A1,A2,rest,ab,ov⟩++b::cs)) w:=by
 have hans:∀k,¬held F ⟨ab,k,none⟩:=fun k=>J2 (hF _ (.inr (.inl rfl))) k
 have hwb:∀k,¬held F ⟨s.wb,k,none⟩:=fun k=>J2 (hF _ (.inl (.inr (.inl rfl)))) k
 have hab:¬BR lb cb fb xb s ab:=hdis _ (.inl rfl)
 have hne:s.wb≠ab:=fun e=>hab (.inr (.inl e.symm))
 have hS:=hJ.s
 have hw:=hJ.v.w
 refine Y2 (K:=stK) (sa:=⟨st,0,none⟩) ?_
 obtain⟨hi,hcw⟩:=hJ.v.i (by simp)
 simp only at hi hw hcw
 subst hcw
 have hc0:=hs.wc hw
 by_cases e:(s.k.wd (i / 64)).getLsbD (i % 64)=true
 ·refine m0L (sv:=P0 st) (inn:=decide (1=1)) hc0 (b0H _ _) (by rw[e];rfl) hS.1 (c0w hS.2.1 (m04 hc.a hans hS.2.2 hJ.a (.stop fun d=>?_)))
  exact Y9 (st:=st) (c:=⟨⟨1,0,i,i / 64,old,out⟩,A,A1,A2,rest,ab,ov⟩) (a:=⟨(true,0,[]),none,0,0⟩) (k':=s.k) (v8 hs hab) (by simp[Z1.step,Z1.one,e]) (World.ownsRow_nil _ _ _ _) (fun q h=>by simp[SA.row,Value.ownBlock]at h) hs hdis d
 ·have e':(s.k.wd (i / 64)).getLsbD (i % 64)= !true:=by simpa using e
  refine m0M (sv:=P0 st) (inn:=decide (1=1)) hc0 (b0H _ _) (by rw[e'];rfl) hS.1 fun A' hA'=>R1 (K:=stK) (.stop fun d=>?_)
  exact f8 (st:=st) (c:=⟨⟨1,0,i,i / 64,old,out⟩,A,A1,A2,rest,ab,ov⟩) (c':=⟨⟨1,1,i,i / 64,s.k.wd (i / 64),out⟩,A',A1,A2,rest,ab,ov⟩) (k':=s.k) (by rfl) hs (by simp[Z1.step,Z1.one,e']) ⟨⟨by simp,fun _=>⟨hi,rfl⟩,hw,fun h=>by simp at h,hJ.v.out⟩,(by exact⟨hA',hS.2.1,hS.2.2⟩),hJ.a⟩ ⟨hc.a,hc.ov,hc.on⟩ (fun q h=>.inl h) hs hdis d
theorem u07(hJ:BJ lb st s.wb s.k.n s.m ⟨⟨1,1,i,cw,old,out⟩,A,A1,A2,rest,ab,ov⟩)(hs:BU lb cb fb xb s w)(hc:BCU ⟨⟨1,1,i,cw,old,out⟩,A,A1,A2,rest,ab,ov⟩ w)(hdis:∀q,I7 ⟨⟨1,1,i,cw,old,out⟩,A,A1,A2,rest,ab,ov⟩ q→¬BR lb cb fb xb s q)(hwf:Wf F w)(hF:∀r,BR lb cb fb xb s r∨I7 ⟨⟨1,1,i,cw,old,out⟩,A,A1,A2,rest,ab,ov⟩ r→F r=none)(b:Frame)(cs:List Frame):
 E0 Tryd.prog false F ((L2 lb cb fb xb).Out st s (I7 ⟨⟨1,1,i,cw,old,out⟩,A,A1,A2,rest,ab,ov⟩) ((L2 lb cb fb xb).stp s ⟨⟨1,1,i,cw,old,out⟩,A,A1,A2,rest,ab,ov⟩) w (b::cs)) (back (.tuple #[]) ((L2 lb cb fb xb).cf st ⟨⟨1,1,i,cw,old,out⟩,A,A1,A2,rest,ab,ov⟩++b::cs)) w:=by
 have hans:∀k,¬held F ⟨ab,k,none⟩:=fun k=>J2 (hF _ (.inr (.inl rfl))) k
 have hwb:∀k,¬held F ⟨s.wb,k,none⟩:=fun k=>J2 (hF _ (.inl (.inr (.inl rfl)))) k
 have hab:¬BR lb cb fb xb s ab:=hdis _ (.inl rfl)
 have hne:s.wb≠ab:=fun e=>hab (.inr (.inl e.symm))
 have hS:=hJ.s
 have hw:=hJ.v.w
 refine Y2 (K:=stK) (sa:=⟨st,0,none⟩) ?_
 obtain⟨hi,hcw⟩:=hJ.v.i (by simp)
 simp only at hi hw hcw
 subst hcw
 have hc0:=hs.wc hw
 by_cases e:s.k.wd (i / 64)=old
 ·refine m0N (sv:=P0 st) (inn:=decide (1=1)) (b0Z old (bitI i)) ((a0g _ _).trans (decide_eq_true e)) hc0 (hs.wz _) (hwb _) hS.1 (c0w hS.2.1 (m05 (f0x hc.a hne) hans hS.2.2 hJ.a (.stop fun d=>?_)))
  have hz:∀j,s.k.n≤i / 64*64+j→(old ^^^ bitI i).getLsbD j=false:=fun j hj=>by
   rw[BitVec.getLsbD_xor,← e,hs.wf.hi _ _ hj,N7]
   simp;omega
  exact Y9 (st:=st) (c:=⟨⟨1,1,i,i / 64,old,out⟩,A,A1,A2,rest,ab,ov⟩) (a:=⟨(true,1,[]),none,0,0⟩) (k':={s.k with ws:=s.k.ws.set (i / 64) (old ^^^ bitI i)}) (v8 (s:=⟨_,s.wb,s.g⟩) (hs.setW hz) hab) (by simp[Z1.step,Z1.one,e]) (World.ownsRow_nil _ _ _ _) (fun q h=>by simp[SA.row,Value.ownBlock]at h) hs hdis d
 ·refine r0d (sv:=P0 st) (inn:=decide (1=1)) (b0Z old (bitI i)) ((a0g _ _).trans (decide_eq_false e)) hc0 (hs.wz _) (hwb _) hS.1 fun A' hA'=>R1 (K:=stK) (.stop fun d=>?_)
  exact f8 (st:=st) (c:=⟨⟨1,1,i,i / 64,old,out⟩,A,A1,A2,rest,ab,ov⟩) (c':=⟨⟨1,0,i,i / 64,old,out⟩,A',A1,A2,rest,ab,ov⟩) (k':=s.k) (by rfl) hs (by simp[Z1.step,Z1.one,e]) ⟨⟨by simp,fun _=>⟨hi,rfl⟩,hw,fun h=>by simp at h,hJ.v.out⟩,(by exact⟨hA',hS.2.1,hS.2.2⟩),hJ.a⟩ ⟨hc.a,hc.ov,hc.on⟩ (fun q h=>.inl h) hs hdis d
theorem u08(hJ:BJ lb st s.wb s.k.n s.m ⟨⟨2,0,i,cw,old,out⟩,A,A1,A2,rest,ab,ov⟩)(hs:BU lb cb fb xb s w)(hc:BCU ⟨⟨2,0,i,cw,old,out⟩,A,A1,A2,rest,ab,ov⟩ w)(hdis:∀q,I7 ⟨⟨2,0,i,cw,old,out⟩,A,A1,A2,rest,ab,ov⟩ q→¬BR lb cb fb xb s q)(hwf:Wf F w)(hF:∀r,BR lb cb fb xb s r∨I7 ⟨⟨2,0,i,cw,old,out⟩,A,A1,A2,rest,ab,ov⟩ r→F r=none)(b:Frame)(cs:List Frame):
 E0 Tryd.prog false F ((L2 lb cb fb xb).Out st s (I7 ⟨⟨2,0,i,cw,old,out⟩,A,A1,A2,rest,ab,ov⟩) ((L2 lb cb fb xb).stp s ⟨⟨2,0,i,cw,old,out⟩,A,A1,A2,rest,ab,ov⟩) w (b::cs)) (back (.tuple #[]) ((L2 lb cb fb xb).cf st ⟨⟨2,0,i,cw,old,out⟩,A,A1,A2,rest,ab,ov⟩++b::cs)) w:=by
 have hans:∀k,¬held F ⟨ab,k,none⟩:=fun k=>J2 (hF _ (.inr (.inl rfl))) k
 have hwb:∀k,¬held F ⟨s.wb,k,none⟩:=fun k=>J2 (hF _ (.inl (.inr (.inl rfl)))) k
 have hab:¬BR lb cb fb xb s ab:=hdis _ (.inl rfl)
 have hne:s.wb≠ab:=fun e=>hab (.inr (.inl e.symm))
 have hS:=hJ.s
 have hw:=hJ.v.w
 refine Y2 (K:=stK) (sa:=⟨st,0,none⟩) ?_
 obtain⟨hi,hcw⟩:=hJ.v.i (by simp)
 simp only at hi hw hcw
 subst hcw
 have hc0:=hs.wc hw
 by_cases e:(s.k.wd (i / 64)).getLsbD (i % 64)=false
 ·refine m0L (sv:=P0 st) (inn:=decide (2=1)) hc0 (b0H _ _) (by rw[e];rfl) hS.1 (b0I hS.2.1 (m04 hc.a hans hS.2.2 hJ.a (.stop fun d=>?_)))
  exact Y9 (st:=st) (c:=⟨⟨2,0,i,i / 64,old,out⟩,A,A1,A2,rest,ab,ov⟩) (a:=⟨(true,0,[]),none,0,0⟩) (k':=s.k) (v8 hs hab) (by simp[Z1.step,Z1.one,e]) (World.ownsRow_nil _ _ _ _) (fun q h=>by simp[SA.row,Value.ownBlock]at h) hs hdis d
 ·have e':(s.k.wd (i / 64)).getLsbD (i % 64)= !false:=by simpa using e
  refine m0M (sv:=P0 st) (inn:=decide (2=1)) hc0 (b0H _ _) (by rw[e'];rfl) hS.1 fun A' hA'=>R1 (K:=stK) (.stop fun d=>?_)
  exact f8 (st:=st) (c:=⟨⟨2,0,i,i / 64,old,out⟩,A,A1,A2,rest,ab,ov⟩) (c':=⟨⟨2,1,i,i / 64,s.k.wd (i / 64),out⟩,A',A1,A2,rest,ab,ov⟩) (k':=s.k) (by rfl) hs (by simp[Z1.step,Z1.one,e']) ⟨⟨by simp,fun _=>⟨hi,rfl⟩,hw,fun h=>by simp at h,hJ.v.out⟩,(by exact⟨hA',hS.2.1,hS.2.2⟩),hJ.a⟩ ⟨hc.a,hc.ov,hc.on⟩ (fun q h=>.inl h) hs hdis d
theorem u09(hJ:BJ lb st s.wb s.k.n s.m ⟨⟨2,1,i,cw,old,out⟩,A,A1,A2,rest,ab,ov⟩)(hs:BU lb cb fb xb s w)(hc:BCU ⟨⟨2,1,i,cw,old,out⟩,A,A1,A2,rest,ab,ov⟩ w)(hdis:∀q,I7 ⟨⟨2,1,i,cw,old,out⟩,A,A1,A2,rest,ab,ov⟩ q→¬BR lb cb fb xb s q)(hwf:Wf F w)(hF:∀r,BR lb cb fb xb s r∨I7 ⟨⟨2,1,i,cw,old,out⟩,A,A1,A2,rest,ab,ov⟩ r→F r=none)(b:Frame)(cs:List Frame):
 E0 Tryd.prog false F ((L2 lb cb fb xb).Out st s (I7 ⟨⟨2,1,i,cw,old,out⟩,A,A1,A2,rest,ab,ov⟩) ((L2 lb cb fb xb).stp s ⟨⟨2,1,i,cw,old,out⟩,A,A1,A2,rest,ab,ov⟩) w (b::cs)) (back (.tuple #[]) ((L2 lb cb fb xb).cf st ⟨⟨2,1,i,cw,old,out⟩,A,A1,A2,rest,ab,ov⟩++b::cs)) w:=by
 have hans:∀k,¬held F ⟨ab,k,none⟩:=fun k=>J2 (hF _ (.inr (.inl rfl))) k
 have hwb:∀k,¬held F ⟨s.wb,k,none⟩:=fun k=>J2 (hF _ (.inl (.inr (.inl rfl)))) k
 have hab:¬BR lb cb fb xb s ab:=hdis _ (.inl rfl)
 have hne:s.wb≠ab:=fun e=>hab (.inr (.inl e.symm))
 have hS:=hJ.s
 have hw:=hJ.v.w
 refine Y2 (K:=stK) (sa:=⟨st,0,none⟩) ?_
 obtain⟨hi,hcw⟩:=hJ.v.i (by simp)
 simp only at hi hw hcw
 subst hcw
 have hc0:=hs.wc hw
 by_cases e:s.k.wd (i / 64)=old
 ·refine m0N (sv:=P0 st) (inn:=decide (2=1)) (b0Z old (bitI i)) ((a0g _ _).trans (decide_eq_true e)) hc0 (hs.wz _) (hwb _) hS.1 (b0I hS.2.1 (m05 (f0x hc.a hne) hans hS.2.2 hJ.a (.stop fun d=>?_)))
  have hz:∀j,s.k.n≤i / 64*64+j→(old ^^^ bitI i).getLsbD j=false:=fun j hj=>by
   rw[BitVec.getLsbD_xor,← e,hs.wf.hi _ _ hj,N7]
   simp;omega
  exact Y9 (st:=st) (c:=⟨⟨2,1,i,i / 64,old,out⟩,A,A1,A2,rest,ab,ov⟩) (a:=⟨(true,1,[]),none,0,0⟩) (k':={s.k with ws:=s.k.ws.set (i / 64) (old ^^^ bitI i)}) (v8 (s:=⟨_,s.wb,s.g⟩) (hs.setW hz) hab) (by simp[Z1.step,Z1.one,e]) (World.ownsRow_nil _ _ _ _) (fun q h=>by simp[SA.row,Value.ownBlock]at h) hs hdis d
 ·refine r0d (sv:=P0 st) (inn:=decide (2=1)) (b0Z old (bitI i)) ((a0g _ _).trans (decide_eq_false e)) hc0 (hs.wz _) (hwb _) hS.1 fun A' hA'=>R1 (K:=stK) (.stop fun d=>?_)
  exact f8 (st:=st) (c:=⟨⟨2,1,i,i / 64,old,out⟩,A,A1,A2,rest,ab,ov⟩) (c':=⟨⟨2,0,i,i / 64,old,out⟩,A',A1,A2,rest,ab,ov⟩) (k':=s.k) (by rfl) hs (by simp[Z1.step,Z1.one,e]) ⟨⟨by simp,fun _=>⟨hi,rfl⟩,hw,fun h=>by simp at h,hJ.v.out⟩,(by exact⟨hA',hS.2.1,hS.2.2⟩),hJ.a⟩ ⟨hc.a,hc.ov,hc.on⟩ (fun q h=>.inl h) hs hdis d
theorem v0a(hJ:BJ lb st s.wb s.k.n s.m ⟨⟨3,0,i,cw,old,out⟩,A,A1,A2,rest,ab,ov⟩)(hs:BU lb cb fb xb s w)(hc:BCU ⟨⟨3,0,i,cw,old,out⟩,A,A1,A2,rest,ab,ov⟩ w)(hdis:∀q,I7 ⟨⟨3,0,i,cw,old,out⟩,A,A1,A2,rest,ab,ov⟩ q→¬BR lb cb fb xb s q)(hwf:Wf F w)(hF:∀r,BR lb cb fb xb s r∨I7 ⟨⟨3,0,i,cw,old,out⟩,A,A1,A2,rest,ab,ov⟩ r→F r=none)(b:Frame)(cs:List Frame):
 E0 Tryd.prog false F ((L2 lb cb fb xb).Out st s (I7 ⟨⟨3,0,i,cw,old,out⟩,A,A1,A2,rest,ab,ov⟩) ((L2 lb cb fb xb).stp s ⟨⟨3,0,i,cw,old,out⟩,A,A1,A2,rest,ab,ov⟩) w (b::cs)) (back (.tuple #[]) ((L2 lb cb fb xb).cf st ⟨⟨3,0,i,cw,old,out⟩,A,A1,A2,rest,ab,ov⟩++b::cs)) w:=by
 have hans:∀k,¬held F ⟨ab,k,none⟩:=fun k=>J2 (hF _ (.inr (.inl rfl))) k
 have hwb:∀k,¬held F ⟨s.wb,k,none⟩:=fun k=>J2 (hF _ (.inl (.inr (.inl rfl)))) k
 have hab:¬BR lb cb fb xb s ab:=hdis _ (.inl rfl)
 have hne:s.wb≠ab:=fun e=>hab (.inr (.inl e.symm))
 have hS:=hJ.s
 have hw:=hJ.v.w
 refine Y2 (K:=stK) (sa:=⟨st,0,none⟩) ?_
 obtain⟨hi,hcw⟩:=hJ.v.i (by simp)
 simp only at hi hw hcw
 subst hcw
 have hc0:=hs.wc hw
 cases e:(s.k.wd (i / 64)).getLsbD (i % 64)with
 | true=>
   refine r0s (sv:=P0 st) hs.bh hi hc0 ((j0O _ _).trans e) hS.1 (m05 hc.a hans hS.2 hJ.a (.stop fun d=>?_))
   exact Y9 (st:=st) (c:=⟨⟨3,0,i,i / 64,old,out⟩,A,A1,A2,rest,ab,ov⟩) (a:=⟨(true,1,[]),none,0,0⟩) (k':=s.k) (v8 hs hab) (by simp[Z1.step,Z1.one,e]) (World.ownsRow_nil _ _ _ _) (fun q h=>by simp[SA.row,Value.ownBlock]at h) hs hdis d
 | false=>
   refine r0s (sv:=P0 st) hs.bh hi hc0 ((j0O _ _).trans e) hS.1 (m04 hc.a hans hS.2 hJ.a (.stop fun d=>?_))
   exact Y9 (st:=st) (c:=⟨⟨3,0,i,i / 64,old,out⟩,A,A1,A2,rest,ab,ov⟩) (a:=⟨(true,0,[]),none,0,0⟩) (k':=s.k) (v8 hs hab) (by simp[Z1.step,Z1.one,e]) (World.ownsRow_nil _ _ _ _) (fun q h=>by simp[SA.row,Value.ownBlock]at h) hs hdis d
end
end
section
variable{F:Fz}{w w':World}{lb cb fb xb st:Nat}
section
variable{s:BS}{i cw:Nat}{old:BitVec 64}{out:List Int}{A A1 A2:Array Value}{rest:List Nat}{ab:Nat}{ov:Value}
theorem t0s(x:BitVec 64):bits .xor .u64 (if IntKind.u64.signed=true then -1 else IntKind.u64.max) (x.toNat:Int)=((~~~x).toNat:Int):=by
 rw[show(if IntKind.u64.signed=true then(-1:Int)else IntKind.u64.max)=18446744073709551615 by decide]
 exact t0r x
theorem v0b(hJ:BJ lb st s.wb s.k.n s.m ⟨⟨4,0,i,cw,old,out⟩,A,A1,A2,rest,ab,ov⟩)(hs:BU lb cb fb xb s w)(hc:BCU ⟨⟨4,0,i,cw,old,out⟩,A,A1,A2,rest,ab,ov⟩ w)(hdis:∀q,I7 ⟨⟨4,0,i,cw,old,out⟩,A,A1,A2,rest,ab,ov⟩ q→¬BR lb cb fb xb s q)(hwf:Wf F w)(hF:∀r,BR lb cb fb xb s r∨I7 ⟨⟨4,0,i,cw,old,out⟩,A,A1,A2,rest,ab,ov⟩ r→F r=none)(b:Frame)(cs:List Frame):
 E0 Tryd.prog false F ((L2 lb cb fb xb).Out st s (I7 ⟨⟨4,0,i,cw,old,out⟩,A,A1,A2,rest,ab,ov⟩) ((L2 lb cb fb xb).stp s ⟨⟨4,0,i,cw,old,out⟩,A,A1,A2,rest,ab,ov⟩) w (b::cs)) (back (.tuple #[]) ((L2 lb cb fb xb).cf st ⟨⟨4,0,i,cw,old,out⟩,A,A1,A2,rest,ab,ov⟩++b::cs)) w:=by
 have hans:∀k,¬held F ⟨ab,k,none⟩:=fun k=>J2 (hF _ (.inr (.inl rfl))) k
 have hwb:∀k,¬held F ⟨s.wb,k,none⟩:=fun k=>J2 (hF _ (.inl (.inr (.inl rfl)))) k
 have hab:¬BR lb cb fb xb s ab:=hdis _ (.inl rfl)
 have hne:s.wb≠ab:=fun e=>hab (.inr (.inl e.symm))
 have hS:=hJ.s
 have hw:=hJ.v.w
 refine Y2 (K:=stK) (sa:=⟨st,0,none⟩) ?_
 simp only at hw
 have hl:=hs.wf.l
 have hc0:=hs.wc hw
 have hk:64*cw≤s.k.n:=by simp only[BS.m]at hw;omega
 have hz:HiZ s.k.n cw (s.k.wd cw):=fun j _ h=>hs.wf.hi _ _ h
 have ho:=hJ.v.out
 simp only at ho
 cases e:a08 s.k.n cw (s.k.wd cw)with
 | none=>
   have hf:=(e07 hk hz).2 e
   by_cases hm:cw+1=s.m
   ·refine v0O (sv:=P0 st) hs.bh hw hc0 ((a0g _ _).trans (decide_eq_true hf)) hm hS (m02 hc.a hans hJ.a (.stop fun d=>?_))
    simp only[BS.m]at hm
    exact Y9 (st:=st) (c:=⟨⟨4,0,i,cw,old,out⟩,A,A1,A2,rest,ab,ov⟩) (a:=⟨(false,0,[]),none,0,0⟩) (k':=s.k) (v8 hs hab) (by simp[Z1.step,Z1.claim,e,hm]) (World.ownsRow_nil _ _ _ _) (fun q h=>by simp[SA.row,Value.ownBlock]at h) hs hdis d
   ·refine v0N (sv:=P0 st) hs.bh hw hc0 ((a0g _ _).trans (decide_eq_true hf)) (by omega) hS fun A' hA'=>R1 (K:=stK) (.stop fun d=>?_)
    have hm2:cw+1<s.m:=by omega
    simp only[BS.m]at hm
    exact f8 (st:=st) (c:=⟨⟨4,0,i,cw,old,out⟩,A,A1,A2,rest,ab,ov⟩) (c':=⟨⟨4,0,i,cw+1,old,out⟩,A',A1,A2,rest,ab,ov⟩) (k':=s.k) (by rfl) hs (by simp[Z1.step,Z1.claim,e,hm]) ⟨⟨by simp,fun h=>absurd h (by simp),hm2,fun h=>by simp at h,by simp only;omega⟩,(by exact hA'),hJ.a⟩ ⟨hc.a,hc.ov,hc.on⟩ (fun q h=>.inl h) hs hdis d
 | some j=>
   obtain⟨h1,h2,h3,h4,h5⟩:=e08 e
   have hf:s.k.wd cw≠a09 s.k.n cw:=fun h=>by rw[(e07 hk hz).1 h]at e;cases e
   refine v0P (sv:=P0 st) hs.bh hw hc0 ((a0g _ _).trans (decide_eq_false hf)) hs.tab h5 (t0s _) hS fun A' hA'=>R1 (K:=stK) (.stop fun d=>?_)
   exact f8 (st:=st) (c:=⟨⟨4,0,i,cw,old,out⟩,A,A1,A2,rest,ab,ov⟩) (c':=⟨⟨4,1,i,cw,s.k.wd cw,out⟩,A',A1,A2,rest,ab,ov⟩) (k':=s.k) (by rfl) hs (by simp[Z1.step,Z1.claim,e]) ⟨⟨by simp,fun h=>absurd h (by simp),hw,fun _=>⟨j,e⟩,ho⟩,(by exact hA'),hJ.a⟩ ⟨hc.a,hc.ov,hc.on⟩ (fun q h=>.inl h) hs hdis d
theorem v0c(hJ:BJ lb st s.wb s.k.n s.m ⟨⟨4,1,i,cw,old,out⟩,A,A1,A2,rest,ab,ov⟩)(hs:BU lb cb fb xb s w)(hc:BCU ⟨⟨4,1,i,cw,old,out⟩,A,A1,A2,rest,ab,ov⟩ w)(hdis:∀q,I7 ⟨⟨4,1,i,cw,old,out⟩,A,A1,A2,rest,ab,ov⟩ q→¬BR lb cb fb xb s q)(hwf:Wf F w)(hF:∀r,BR lb cb fb xb s r∨I7 ⟨⟨4,1,i,cw,old,out⟩,A,A1,A2,rest,ab,ov⟩ r→F r=none)(b:Frame)(cs:List Frame):
 E0 Tryd.prog false F ((L2 lb cb fb xb).Out st s (I7 ⟨⟨4,1,i,cw,old,out⟩,A,A1,A2,rest,ab,ov⟩) ((L2 lb cb fb xb).stp s ⟨⟨4,1,i,cw,old,out⟩,A,A1,A2,rest,ab,ov⟩) w (b::cs)) (back (.tuple #[]) ((L2 lb cb fb xb).cf st ⟨⟨4,1,i,cw,old,out⟩,A,A1,A2,rest,ab,ov⟩++b::cs)) w:=by
 have hans:∀k,¬held F ⟨ab,k,none⟩:=fun k=>J2 (hF _ (.inr (.inl rfl))) k
 have hwb:∀k,¬held F ⟨s.wb,k,none⟩:=fun k=>J2 (hF _ (.inl (.inr (.inl rfl)))) k
 have hab:¬BR lb cb fb xb s ab:=hdis _ (.inl rfl)
 have hne:s.wb≠ab:=fun e=>hab (.inr (.inl e.symm))
 have hS:=hJ.s
 have hw:=hJ.v.w
 refine Y2 (K:=stK) (sa:=⟨st,0,none⟩) ?_
 simp only at hw
 have hl:=hs.wf.l
 have hc0:=hs.wc hw
 have ho:=hJ.v.out
 simp only at ho
 obtain⟨j,e⟩:=hJ.v.f rfl
 simp only at e
 obtain⟨h1,h2,h3,h4,h5⟩:=e08 e
 have hS1:D0 55 A [(0,e0q lb),(1,P0 st),(6,vI (cw:Nat)),(7,wV old),(8,vI (j:Nat))]:=by
  have:=hS
  rw[← h4]
  exact this
 have hb:bitI j=1#64 <<< j:=by unfold bitI;rw[Nat.mod_eq_of_lt h1]
 have hbb:IntKind.u64.wrap (2 ^ j)=((bitI j).toNat:Int):=by
  have:=g0b j
  rw[Int.one_mul]at this
  rw[hb];exact this
 by_cases ey:s.k.wd cw=old
 ·refine v0Q (sv:=P0 st) hs.bh hw h1 hbb (r0x old (bitI j)) ((a0g _ _).trans (decide_eq_true ey)) hc0 (hs.wz _) (hwb _) hS1 (s02 (f0x hc.a hne) hans hJ.a (.stop fun d=>?_))
  have hz:∀q,s.k.n≤cw*64+q→(old ||| bitI j).getLsbD q=false:=fun q hq=>by
   rw[BitVec.getLsbD_or,← ey,hs.wf.hi _ _ hq,N7,Nat.mod_eq_of_lt h1]
   simp;omega
  exact Y9 (st:=st) (c:=⟨⟨4,1,i,cw,old,out⟩,A,A1,A2,rest,ab,ov⟩) (a:=⟨(true,64*(cw:Int)+(j:Int),[]),none,0,0⟩) (k':={s.k with ws:=s.k.ws.set cw (old ||| bitI j)}) (v8 (s:=⟨_,s.wb,s.g⟩) (hs.setW hz) hab) (by simp[Z1.step,Z1.claim,e,ey];omega) (World.ownsRow_nil _ _ _ _) (fun q h=>by simp[SA.row,Value.ownBlock]at h) hs hdis d
 ·refine v0R (sv:=P0 st) hs.bh hw h1 hbb (r0x old (bitI j)) ((a0g _ _).trans (decide_eq_false ey)) hc0 (hs.wz _) (hwb _) hS1 fun A' hA'=>R1 (K:=stK) (.stop fun d=>?_)
  exact f8 (st:=st) (c:=⟨⟨4,1,i,cw,old,out⟩,A,A1,A2,rest,ab,ov⟩) (c':=⟨⟨4,0,i,cw,old,out⟩,A',A1,A2,rest,ab,ov⟩) (k':=s.k) (by rfl) hs (by simp[Z1.step,Z1.claim,ey]) ⟨⟨by simp,fun h=>absurd h (by simp),hw,fun h=>by simp at h,ho⟩,(by exact hA'),hJ.a⟩ ⟨hc.a,hc.ov,hc.on⟩ (fun q h=>.inl h) hs hdis d
end
end
section
variable{F:Fz}{w w' w0:World}{lb cb fb xb st:Nat}
structure L4(w0 w:World)(ov0 ov:Value):Prop where
 size:w0.heap.size≤w.heap.size
 old:∀r,r<w0.heap.size→some r≠ov0.ownBlock→w.heap[r]? =w0.heap[r]?
 blk:ov.ownBlock=ov0.ownBlock∨∃g,ov.ownBlock=some g∧w0.heap.size≤g
theorem L4.refl(w:World)(ov:Value):L4 w w ov ov:=⟨Nat.le_refl _,fun _ _ _=>rfl,.inl rfl⟩
theorem L4.step{e:TypeId}{ov0 ov ov':Value}{xs:List Int}{u:Int}(h:L4 w0 w ov0 ov)(g:c0O e F w w' ov ov' xs u):L4 w0 w' ov0 ov':=by
 refine⟨Nat.le_trans h.size g.size,fun r hr hne=>?_,?_⟩
 ·rw[g.old r (Nat.lt_of_lt_of_le hr h.size) fun e=>?_,h.old r hr hne]
  rcases h.blk with h1|⟨q,h1,h2⟩
  ·exact hne (e.trans h1)
  ·rw[h1]at e;cases e;omega
 ·rcases g.blk with h1|⟨q,h1,h2⟩
  ·rw[h1];exact h.blk
  ·exact .inr ⟨q,h1,Nat.le_trans h.size h2⟩
theorem L4.free{ov0 ov:Value}{nn:Nat}(h:L4 w0 w ov0 ov)(hU:Q1 F nn)(hn:nn≤w0.heap.size)(hF:∀b,ov0.ownBlock=some b→F b=none):∀b,ov.ownBlock=some b→F b=none:=fun b hb=>by
 rcases h.blk with h1|⟨q,h1,h2⟩
 ·exact hF b (h1 ▸ hb)
 ·rw[h1]at hb
  cases hb
  cases hz:F b with
  | none=>rfl
  | some z=>have:=hU b z hz;omega
theorem Tab.same(h:Tab w)(hs:w'.heap[0]? =w.heap[0]?):Tab w':=⟨fun k hk=>by rw[← h.c k hk];unfold World.cell?;simp only[hs]⟩
theorem c0I{m k nn:Nat}{sv ov0:Value}{ys:List Int}(hU:Q1 F nn)(hn:nn≤w0.heap.size)(hkb:k≤1024)(h0:0<w0.heap.size)(hT:Tab w0)(ht:some 0≠ov0.ownBlock)(hF:∀b,ov0.ownBlock=some b→F b=none){cs:List Frame}{main:Bool}{Stop:Goroutine→World→Prop}
 (K:∀ov w A,w.ownsRow 0 3 1 ov ys.length (ys.map fun v=>vI v)→Wf F w→L4 w0 w ov0 ov→D0 40 A [(0,vP lb 0),(1,sv),(5,ov),(6,vI (k:Nat)),(7,wV 0#64),(11,vI (m:Nat)),(12,vI (k:Nat))]→E0 Tryd.prog main F Stop (G (bA 30 A [.inRegion (oC j7) [0,1],.code p8,.code E7,.inLoop D7,.inBlock 2,.inBlock 1,.code x4,.inLoop l7,.inBlock 0,.code U4]) cs) w):
 ∀(L:List Nat) (y:BitVec 64) (xs:List Int) (ov:Value) (w:World) (A:Array Value),O5 y=L→xs++L.map (fun j=>64*(k:Int)+(j:Nat))=ys→xs.length+L.length≤65536→w.ownsRow 0 3 1 ov xs.length (xs.map fun v=>vI v)→Wf F w→L4 w0 w ov0 ov→D0 40 A [(0,vP lb 0),(1,sv),(5,ov),(6,vI (k:Nat)),(7,wV y),(11,vI (m:Nat)),(12,vI (k:Nat))]→E0 Tryd.prog main F Stop (G (bA 30 A [.inRegion (oC j7) [0,1],.code p8,.code E7,.inLoop D7,.inBlock 2,.inBlock 1,.code x4,.inLoop l7,.inBlock 0,.code U4]) cs) w:=by
 intro L
 induction L with
 | nil=>
   intro y xs ov w A hy hx hl hrow hwf hm hA
   have e:y=0#64:=Classical.byContradiction fun h=>by rw[c0e h]at hy;cases hy
   subst e
   simp only[List.map_nil,List.append_nil]at hx
   subst hx
   exact K ov w A hrow hwf hm hA
 | cons j L ih=>
   intro y xs ov w A hy hx hl hrow hwf hm hA
   have e:y≠0#64:=fun h=>by rw[h,g0u]at hy;cases hy
   rw[c0e e]at hy
   simp only[List.cons.injEq]at hy
   obtain⟨rfl,hy⟩:=hy
   have hT':Tab w:=hT.same (hm.old 0 h0 ht)
   simp only[List.length_cons]at hl
   have hs:=hm.size
   refine y0G (sv:=sv) hU (by omega) hwf hT' e ((m0B y).trans (decide_eq_true e)) (k0j y) (f0w y (y - 1#64)) (by omega) hkb hrow (hm.free hU hn hF) hA fun ov' w' A' g hA'=>?_
   refine ih _ (xs++[64*(k:Int)+(O7 y:Nat)]) ov' w' A' hy ?_ ?_ ?_ g.wf (hm.step g) hA'
   ·rw[← hx];simp
   ·simp;omega
   ·have:=g.row
    simpa using this
section
variable{s:BS}{i cw:Nat}{old:BitVec 64}{out:List Int}{A A1 A2:Array Value}{rest:List Nat}{ab:Nat}{ov:Value}
theorem a0Z(y:BitVec 64):(O5 y).length≤64:=by
 have:=List.length_filter_le (fun j=>y.getLsbD j) (List.range 64)
 simpa [O5]using this
theorem j0z{ov':Value}(hs:BU lb cb fb xb s w)(hm:L4 w w' ov ov')(hd:∀q,ov.ownBlock=some q→¬BR lb cb fb xb s q):BU lb cb fb xb s w':=hs.same fun q hq=>hm.old q (hs.low hq) fun e=>hd q e.symm hq
theorem b0R{e:TypeId}{n:Nat}{v:Value}{xs:List Value}(h:w.ownsRow 0 e 1 v n xs):∃a c,v= .slice a n c:=by
 rcases h.2 with⟨rfl,h1⟩|⟨b,cap,cur,rfl,_⟩
 ·exact⟨none,0,by rw[h1]⟩
 ·exact⟨_,_,rfl⟩
theorem v0d(hJ:BJ lb st s.wb s.k.n s.m ⟨⟨5,0,i,cw,old,out⟩,A,A1,A2,rest,ab,ov⟩)(hs:BU lb cb fb xb s w)(hc:BCU ⟨⟨5,0,i,cw,old,out⟩,A,A1,A2,rest,ab,ov⟩ w)(hdis:∀q,I7 ⟨⟨5,0,i,cw,old,out⟩,A,A1,A2,rest,ab,ov⟩ q→¬BR lb cb fb xb s q)(hwf:Wf F w)(hF:∀r,BR lb cb fb xb s r∨I7 ⟨⟨5,0,i,cw,old,out⟩,A,A1,A2,rest,ab,ov⟩ r→F r=none)(b:Frame)(cs:List Frame):
 E0 Tryd.prog false F ((L2 lb cb fb xb).Out st s (I7 ⟨⟨5,0,i,cw,old,out⟩,A,A1,A2,rest,ab,ov⟩) ((L2 lb cb fb xb).stp s ⟨⟨5,0,i,cw,old,out⟩,A,A1,A2,rest,ab,ov⟩) w (b::cs)) (back (.tuple #[]) ((L2 lb cb fb xb).cf st ⟨⟨5,0,i,cw,old,out⟩,A,A1,A2,rest,ab,ov⟩++b::cs)) w:=by
 have hans:∀k,¬held F ⟨ab,k,none⟩:=fun k=>J2 (hF _ (.inr (.inl rfl))) k
 have hwb:∀k,¬held F ⟨s.wb,k,none⟩:=fun k=>J2 (hF _ (.inl (.inr (.inl rfl)))) k
 have hab:¬BR lb cb fb xb s ab:=hdis _ (.inl rfl)
 have hne:s.wb≠ab:=fun e=>hab (.inr (.inl e.symm))
 have hS:=hJ.s
 have hw:=hJ.v.w
 refine Y2 (K:=stK) (sa:=⟨st,0,none⟩) ?_
 simp only at hw
 have hl:=hs.wf.l
 have hln:=hs.wf.n
 have hc0:=hs.wc hw
 have hz:HiZ s.k.n cw (s.k.wd cw):=fun j _ h=>hs.wf.hi _ _ h
 have ho:=hJ.v.out
 simp only at ho
 have hm1k:s.m≤1024:=by simp only[BS.m];omega
 have hnum:=R9 hz
 have hb64:=a0Z (s.k.wd cw)
 have hd:∀q,ov.ownBlock=some q→¬BR lb cb fb xb s q:=fun q hq=>hdis q (.inr hq)
 have habl:ab<w.heap.size:=hc.low (.inl rfl)
 refine p0t (sv:=P0 st) hs.bh hw hc0 hS.1 fun A' hA'=>?_
 refine c0I (w0:=w) (sv:=P0 st) (ov0:=ov) (ys:=out++J5 s.k.n cw (s.k.wd cw)) (o4 hwf) (Nat.le_refl _) (by omega) (hs.low (.inr (.inr (.inr (.inr (.inr rfl)))))) hs.tab (fun e=>hd 0 e.symm (.inr (.inr (.inr (.inr (.inr rfl)))))) (fun q hq=>hF q (.inr (.inr hq))) (fun ov' w' A3 hrow hwf' hm hA3=>?_) (O5 (s.k.wd cw)) (s.k.wd cw) out ov w A' rfl (by rw[hnum]) (by omega) hc.ov hwf (L4.refl _ _) hA'
 have hU':BU lb cb fb xb s w':=j0z hs hm hd
 have hon:ov'.ownBlock≠some ab:=fun e=>by
  rcases hm.blk with h1|⟨q,h1,h2⟩
  ·exact hc.on (h1 ▸ e)
  ·rw[h1]at e;cases e;omega
 have ha':C9 w' ab:=u5 hc.a (hm.old ab habl fun e=>hc.on e.symm)
 have hcr':∀q,ov'.ownBlock=some q→I7 ⟨⟨5,0,i,cw,old,out⟩,A,A1,A2,rest,ab,ov⟩ q∨w.heap.size≤q:=fun q hq=>by
  rcases hm.blk with h1|⟨g,h1,h2⟩
  ·exact .inl (.inr (h1 ▸ hq))
  ·rw[h1]at hq;cases hq;exact .inr h2
 have hlen:(out++J5 s.k.n cw (s.k.wd cw)).length≤64*(cw+1):=by rw[hnum];simp;omega
 by_cases hx:cw+1=s.m
 ·refine n0y (sv:=P0 st) hm1k hx hA3 ?_
  obtain⟨la,lc,rfl⟩:=b0R hrow
  refine f0M hS.2 (r0i ha' hans hJ.a (.stop fun d=>?_))
  simp only[BS.m]at hx
  exact Y9 (st:=st) (c:=⟨⟨5,0,i,cw,old,out⟩,A,A1,A2,rest,ab,ov⟩) (a:=⟨(true,((out++J5 s.k.n cw (s.k.wd cw)).length:Int),[]),none,0,0⟩) (k':=s.k) (v8 hU' hab) (by simp[Z1.step,Z1.look,hx]) (World.ownsRow_nil _ _ _ _) (fun q h=>by simp[SA.row,Value.ownBlock]at h) hs hdis d
 ·refine n0x (sv:=P0 st) hm1k (by omega) hA3 fun A4 hA4=>R1 (K:=stK) (.stop fun d=>?_)
  have hm2:cw+1<s.m:=by omega
  simp only[BS.m]at hx
  exact f8 (st:=st) (c:=⟨⟨5,0,i,cw,old,out⟩,A,A1,A2,rest,ab,ov⟩) (c':=⟨⟨5,0,i,cw+1,old,out++J5 s.k.n cw (s.k.wd cw)⟩,A4,A1,A2,rest,ab,ov'⟩) (k':=s.k) (by rfl) hU' (by simp[Z1.step,Z1.look,hx]) ⟨⟨by simp,fun h=>absurd h (by simp),hm2,fun h=>by simp at h,hlen⟩,(by exact⟨hA4,hS.2⟩),hJ.a⟩ ⟨ha',hrow,hon⟩ (fun q h=>h.elim (fun e=>.inl (.inl e)) (hcr' q)) hs hdis d
end
end
section
variable{F:Fz}{w w' w0:World}{lb cb fb xb st:Nat}
theorem k0t{gb lc nn:Nat}{xs:List Int}(hU:Q1 F nn)(hn:nn≤w0.heap.size)(hl:xs.length≤70000)(hc:∀j x,xs[j]? =some x→w0.cell? ⟨gb,j,none⟩=some (vI x)){cs:List Frame}{main:Bool}{Stop:Goroutine→World→Prop}
 (K:∀ov w A,w.ownsRow 0 2 1 ov xs.length (xs.map fun v=>vI v)→Wf F w→L4 w0 w (.slice none 0 0) ov→D0 18 A [(3,ov),(6,vL gb 0 xs.length lc),(7,vI (xs.length:Nat)),(8,vI (xs.length:Nat))]→E0 Tryd.prog main F Stop (G (bA 29 A [.inRegion (oC S8) [0],.code a0h,.inLoop c0j,.inBlock 0,.code d0h]) cs) w):
 ∀(n i:Nat) (ov:Value) (w:World) (A:Array Value),i+n=xs.length→w.ownsRow 0 2 1 ov (xs.take i).length ((xs.take i).map fun v=>vI v)→Wf F w→L4 w0 w (.slice none 0 0) ov→D0 18 A [(3,ov),(6,vL gb 0 xs.length lc),(7,vI (xs.length:Nat)),(8,vI (i:Nat))]→E0 Tryd.prog main F Stop (G (bA 29 A [.inRegion (oC S8) [0],.code a0h,.inLoop c0j,.inBlock 0,.code d0h]) cs) w:=by
 intro n
 induction n with
 | zero=>
   intro i ov w A hi hrow hwf hm hA
   obtain rfl:i=xs.length:=by omega
   rw[List.take_length]at hrow
   exact K ov w A hrow hwf hm hA
 | succ n ih=>
   intro i ov w A hi hrow hwf hm hA
   have hx:xs[i]? =some xs[i]:=List.getElem?_eq_getElem (by omega)
   have hc0:=hc i _ hx
   have hlt:gb<w0.heap.size:=O6 hc0
   have hci:w.cell? ⟨gb,0+i,none⟩=some (vI xs[i]):=by
    rw[Nat.zero_add,← hc0]
    unfold World.cell?
    simp only[hm.old gb hlt (by simp[Value.ownBlock])]
   have hs:=hm.size
   have htl:(xs.take i).length=i:=by rw[List.length_take];omega
   refine y02 hU (by omega) hwf hci (by omega) hl (by omega) hrow (hm.free hU hn fun b hb=>by simp[Value.ownBlock]at hb) hA fun ov' w' A' g hA'=>?_
   have hsnoc:xs.take (i+1)=xs.take i++[xs[i]]:=by rw[List.take_add_one,hx];rfl
   refine ih (i+1) ov' w' A' (by omega) ?_ g.wf (hm.step g) hA'
   have h2:=g.row
   have e2:(xs.take i++[xs[i]]).length=(xs.take i).length+1:=by rw[List.length_append];rfl
   rw[hsnoc,e2]
   exact h2
section
variable{s:BS}{i cw:Nat}{old:BitVec 64}{out:List Int}{A A1 A2:Array Value}{rest:List Nat}{ab:Nat}{ov:Value}
theorem b0n{ok:Bool}{v:Value}{r:Nat}(hr:r≠ab):(g0k w ab ok v).heap[r]? =w.heap[r]?:=by
 unfold g0k
 rw[m0 _ _ _ hr,m0 _ _ _ hr,m0 _ _ _ hr]
theorem v0e(hJ:BJ lb st s.wb s.k.n s.m ⟨⟨6,0,i,cw,old,out⟩,A,A1,A2,rest,ab,ov⟩)(hs:BU lb cb fb xb s w)(hc:BCU ⟨⟨6,0,i,cw,old,out⟩,A,A1,A2,rest,ab,ov⟩ w)(hdis:∀q,I7 ⟨⟨6,0,i,cw,old,out⟩,A,A1,A2,rest,ab,ov⟩ q→¬BR lb cb fb xb s q)(hwf:Wf F w)(hF:∀r,BR lb cb fb xb s r∨I7 ⟨⟨6,0,i,cw,old,out⟩,A,A1,A2,rest,ab,ov⟩ r→F r=none)(b:Frame)(cs:List Frame):
 E0 Tryd.prog false F ((L2 lb cb fb xb).Out st s (I7 ⟨⟨6,0,i,cw,old,out⟩,A,A1,A2,rest,ab,ov⟩) ((L2 lb cb fb xb).stp s ⟨⟨6,0,i,cw,old,out⟩,A,A1,A2,rest,ab,ov⟩) w (b::cs)) (back (.tuple #[]) ((L2 lb cb fb xb).cf st ⟨⟨6,0,i,cw,old,out⟩,A,A1,A2,rest,ab,ov⟩++b::cs)) w:=by
 have hans:∀k,¬held F ⟨ab,k,none⟩:=fun k=>J2 (hF _ (.inr (.inl rfl))) k
 have hwb:∀k,¬held F ⟨s.wb,k,none⟩:=fun k=>J2 (hF _ (.inl (.inr (.inl rfl)))) k
 have hab:¬BR lb cb fb xb s ab:=hdis _ (.inl rfl)
 have hne:s.wb≠ab:=fun e=>hab (.inr (.inl e.symm))
 have hS:=hJ.s
 have hw:=hJ.v.w
 refine Y2 (K:=stK) (sa:=⟨st,0,none⟩) ?_
 simp only at hw
 have hl:=hs.wf.l
 have hln:=hs.wf.n
 have hc0:=hs.wc hw
 have hz:HiZ s.k.n cw (s.k.wd cw):=fun j _ h=>hs.wf.hi _ _ h
 have ho:=hJ.v.out
 simp only at ho
 have hm1k:s.m≤1024:=by simp only[BS.m];omega
 have hnum:=R9 hz
 have hb64:=a0Z (s.k.wd cw)
 have hd:∀q,ov.ownBlock=some q→¬BR lb cb fb xb s q:=fun q hq=>hdis q (.inr hq)
 have habl:ab<w.heap.size:=hc.low (.inl rfl)
 refine p0t (sv:=P0 st) hs.bh hw hc0 hS fun A' hA'=>?_
 refine c0I (w0:=w) (sv:=P0 st) (ov0:=ov) (ys:=out++J5 s.k.n cw (s.k.wd cw)) (o4 hwf) (Nat.le_refl _) (by omega) (hs.low (.inr (.inr (.inr (.inr (.inr rfl)))))) hs.tab (fun e=>hd 0 e.symm (.inr (.inr (.inr (.inr (.inr rfl)))))) (fun q hq=>hF q (.inr (.inr hq))) (fun ov' w' A3 hrow hwf' hm hA3=>?_) (O5 (s.k.wd cw)) (s.k.wd cw) out ov w A' rfl (by rw[hnum]) (by omega) hc.ov hwf (L4.refl _ _) hA'
 have hU':BU lb cb fb xb s w':=j0z hs hm hd
 have hon:ov'.ownBlock≠some ab:=fun e=>by
  rcases hm.blk with h1|⟨q,h1,h2⟩
  ·exact hc.on (h1 ▸ e)
  ·rw[h1]at e;cases e;omega
 have ha':C9 w' ab:=u5 hc.a (hm.old ab habl fun e=>hc.on e.symm)
 have hcr':∀q,ov'.ownBlock=some q→I7 ⟨⟨6,0,i,cw,old,out⟩,A,A1,A2,rest,ab,ov⟩ q∨w.heap.size≤q:=fun q hq=>by
  rcases hm.blk with h1|⟨g,h1,h2⟩
  ·exact .inl (.inr (h1 ▸ hq))
  ·rw[h1]at hq;cases hq;exact .inr h2
 have hlen:(out++J5 s.k.n cw (s.k.wd cw)).length≤64*(cw+1):=by rw[hnum];simp;omega
 by_cases hx:cw+1=s.m
 ·refine n0y (sv:=P0 st) hm1k hx hA3 (r0j hJ.a fun A5 hA5=>?_)
  simp only[BS.m]at hx
  generalize hys:out++J5 s.k.n cw (s.k.wd cw)=ys at hrow hlen
  have hfin:∀lv w2 A6,w2.ownsRow 0 2 1 lv ys.length (ys.map fun v=>vI v)→L4 w' w2 (.slice none 0 0) lv→D0 63 A6 [(8,vP ab 0)]→∀la lc,lv= .slice la ys.length lc→∀d,(L2 lb cb fb xb).Out st s (I7 ⟨⟨6,0,i,cw,old,out⟩,A,A1,A2,rest,ab,ov⟩) ((L2 lb cb fb xb).stp s ⟨⟨6,0,i,cw,old,out⟩,A,A1,A2,rest,ab,ov⟩) w (b::cs) (back (.agg #[.bool true,vI 0,.slice la ys.length lc]) (b::cs)) ((g0k w2 ab true (.slice la ys.length lc)).at d):=fun lv w2 A6 hr2 hm2 hA6 la lc e d=>by
   subst e
   have hb2:BU lb cb fb xb s w2:=hU'.same fun q hq=>hm2.old q (hU'.low hq) (by simp[Value.ownBlock])
   have hnew:∀q,(Value.slice la ys.length lc).ownBlock=some q→w'.heap.size≤q:=fun q hq=>by
    rcases hm2.blk with h1|⟨g,h1,h2⟩
    ·rw[h1]at hq;simp[Value.ownBlock]at hq
    ·rw[h1]at hq;cases hq;exact h2
   have hsz:=hm.size
   have hrow2:(g0k w2 ab true (.slice la ys.length lc)).ownsRow 0 2 1 (.slice la ys.length lc) ys.length (ys.map fun v=>vI v):=E1 hr2 fun q hq _=>b0n (by have:=hnew q hq;omega)
   exact Y9 (st:=st) (c:=⟨⟨6,0,i,cw,old,out⟩,A,A1,A2,rest,ab,ov⟩) (a:=⟨(true,0,ys),la,ys.length,lc⟩) (k':=s.k) (hb2.same fun q hq=>b0n (ab:=ab) fun e=>hab (by rw[← e];exact hq)) (by rw[← hys];simp[Z1.step,Z1.look,hx]) hrow2 (fun q h=>.inr (Nat.le_trans hsz (hnew q h))) hs hdis d
  have haw:∀{w2 lv},L4 w' w2 (.slice none 0 0) lv→C9 w2 ab:=fun{w2 lv} hm2=>u5 ha' (hm2.old ab (by have:=hm.size;omega) (by simp[Value.ownBlock]))
  by_cases h0:ys.length=0
  ·obtain⟨la,lc,rfl⟩:=b0R hrow
   refine o0C fun A6 hA6=>?_
   have hA7:D0 18 A6 [(3,.slice none 0 0),(6,.slice la ys.length lc),(7,vI (ys.length:Nat)),(8,vI (ys.length:Nat))]:=by rw[h0]at hA6 ⊢;exact hA6
   refine o0D hA7 (m03 (haw (L4.refl _ _)) hans hA5 (.stop fun d=>?_))
   have hy0:ys=[]:=List.length_eq_zero_iff.1 h0
   have:=hfin (.slice none 0 0) w' A5 (by rw[hy0];exact World.ownsRow_nil _ _ _ _) (L4.refl _ _) hA5 none 0 (by rw[h0]) d
   rw[h0]at this
   exact this
  ·rcases hrow.2 with⟨e,_⟩|⟨gb,lc,cur,e,q1,q2,q3,q4,q5,q6⟩
   ·obtain⟨la,lc,e2⟩:=b0R hrow
    rw[e]at e2
    simp only[Value.slice.injEq]at e2
    omega
   ·subst e
    refine o0C fun A6 hA6=>?_
    refine k0t (w0:=w') (xs:=ys) (o4 hwf) hm.size (by omega) (fun j x hj=>?_) (fun lv w2 A7 hr2 hwf2 hm2 hA7=>?_) ys.length 0 _ w' A6 (by omega) (World.ownsRow_nil _ _ _ _) hwf' (L4.refl _ _) hA6
    ·obtain⟨b2,cap2,a1,a2⟩:=G8 hrow (k:=j) (x:=vI x) (by rw[List.getElem?_map,hj];rfl)
     cases a1
     exact a2.c
    ·obtain⟨la,lc2,e2⟩:=b0R hr2
     subst e2
     refine o0D hA7 (m03 (haw hm2) hans hA5 (.stop fun d=>?_))
     exact hfin _ w2 A5 hr2 hm2 hA5 la lc2 rfl d
 ·refine n0x (sv:=P0 st) hm1k (by omega) hA3 fun A4 hA4=>R1 (K:=stK) (.stop fun d=>?_)
  have hm2:cw+1<s.m:=by omega
  simp only[BS.m]at hx
  exact f8 (st:=st) (c:=⟨⟨6,0,i,cw,old,out⟩,A,A1,A2,rest,ab,ov⟩) (c':=⟨⟨6,0,i,cw+1,old,out++J5 s.k.n cw (s.k.wd cw)⟩,A4,A1,A2,rest,ab,ov'⟩) (k':=s.k) (by rfl) hU' (by simp[Z1.step,Z1.look,hx]) ⟨⟨by simp,fun h=>absurd h (by simp),hm2,fun h=>by simp at h,hlen⟩,(by exact hA4),hJ.a⟩ ⟨ha',hrow,hon⟩ (fun q h=>h.elim (fun e=>.inl (.inl e)) (hcr' q)) hs hdis d
end
end
section
variable{F:Fz}{w w':World}{st:Nat}
theorem o0X(lb cb fb xb:Nat):(L2 lb cb fb xb).Ok where
 call:=i0j
 jb:=fun st s s' c i o r h hb=>by
  obtain⟨e1,e2,e3⟩:=hb
  have e:s'.k=s.k:=(congrArg (fun x:Z1×BRs=>x.1) e3).trans (g0n _ _)
  show BJ lb st s'.wb s'.k.n s'.k.ws.length c
  rw[e,e1]
  exact h
 js:=fun st s s' c c1 r h hb=>by
  obtain⟨e1,e2,e3⟩:=hb
  obtain⟨l1,l2⟩:=k0B s.k c1.c
  have e:s'.k.ws.length=s.k.ws.length:=(congrArg (fun x:Z1×BRs=>x.1.ws.length) e3).trans l1
  have e':s'.k.n=s.k.n:=(congrArg (fun x:Z1×BRs=>x.1.n) e3).trans l2
  show BJ lb st s'.wb s'.k.n s'.k.ws.length c
  rw[e,e',e1]
  exact h
 plain:=by
  intro st c
  refine⟨by simp[L2],fun u hu=>?_⟩
  have hu:u∈d03 stK ⟨st,0,none⟩::c.fr:=hu
  rcases List.mem_cons.1 hu with rfl|hu
  ·exact R3 ⟨_,Tryd.func48⟩ _ _
  ·unfold BeC.fr at hu
   split at hu<;>
   ·simp only[List.mem_cons,List.mem_nil_iff,or_false,List.not_mem_nil]at hu
    repeat'(rcases hu with rfl|hu)
    all_goals first
     | exact R3 ⟨_,Tryd.func47⟩ _ _
     | exact R3 ⟨_,Tryd.func18⟩ _ _
     | exact R3 ⟨_,Tryd.func19⟩ _ _
     | exact R3 ⟨_,Tryd.func20⟩ _ _
     | exact R3 ⟨_,Tryd.func45⟩ _ _
     | exact R3 ⟨_,Tryd.func30⟩ _ _
     | exact R3 ⟨_,Tryd.func46⟩ _ _
     | exact R3 ⟨_,Tryd.func51⟩ _ _
     | (subst hu
        exact R3 ⟨_,Tryd.func51⟩ _ _)
 sS:=fun s w w' h _ hs=>BU.same h hs
 sC:=fun c w w' h _ hs=>BCU.same h hs
 sA:=fun a w w' h _ hs=>E1 h fun q hq _=>hs q hq
 lS:=fun s w r h hr=>BU.low h hr
 lC:=fun c w r h hr=>BCU.low h hr
 lA:=fun a w r h hr=>h0r h hr
 beg:=by
  intro s i o st F w c cs hs hwf hF
  obtain⟨kd,a,b0,c0⟩:=o
  by_cases h1:kd=1
  ·subst h1
   exact s0c hs hwf c cs
  by_cases h2:kd=2
  ·subst h2
   exact s0d hs hwf c cs
  by_cases h3:kd=3
  ·subst h3
   exact s0e hs hwf c cs
  by_cases h4:kd=4
  ·subst h4
   exact s0f hs hwf c cs
  by_cases h5:kd=5
  ·subst h5
   exact s0g hs hwf c cs
  by_cases h6:kd=6
  ·subst h6
   exact s0h hs hwf c cs
  exact h0G h1 h2 h3 h4 h5 h6 hs hwf c cs
 stp:=by
  intro s c st F w b cs hJ hs hc hdis hwf hF
  obtain⟨⟨kd,ph,i,cw,old,out⟩,A,A1,A2,rest,ab,ov⟩:=c
  have hJ:BJ lb st s.wb s.k.n s.m ⟨⟨kd,ph,i,cw,old,out⟩,A,A1,A2,rest,ab,ov⟩:=hJ
  have hpc:=hJ.v.pc
  simp only[List.mem_cons,Prod.mk.injEq,List.not_mem_nil,or_false]at hpc
  rcases hpc with⟨rfl,rfl⟩|⟨rfl,rfl⟩|⟨rfl,rfl⟩|⟨rfl,rfl⟩|⟨rfl,rfl⟩|⟨rfl,rfl⟩|⟨rfl,rfl⟩|⟨rfl,rfl⟩|⟨rfl,rfl⟩
  ·exact u06 hJ hs hc hdis hwf hF b cs
  ·exact u07 hJ hs hc hdis hwf hF b cs
  ·exact u08 hJ hs hc hdis hwf hF b cs
  ·exact u09 hJ hs hc hdis hwf hF b cs
  ·exact v0a hJ hs hc hdis hwf hF b cs
  ·exact v0b hJ hs hc hdis hwf hF b cs
  ·exact v0c hJ hs hc hdis hwf hF b cs
  ·exact v0d hJ hs hc hdis hwf hF b cs
  ·exact v0e hJ hs hc hdis hwf hF b cs
end
noncomputable section
variable {cs:List Frame}{main:Bool}{Stop:Goroutine→World→Prop}
variable{F:Fz}{w:World}
def V2:Code:=Tryd.f53.body.getD .skip
def y0B:=pC [] V2
def w0e:=pC [zt] V2
def w0n:=pC [zf] V2
def w0f:=pC [zf,zt] V2
def p0b:=pC [zf] w0n
def w0g:=pC [zf,zf,zt] V2
def w0o:=pC [zf] p0b
def w0h:=pC [zf,zf,zf,zt] V2
def s00:=pC [zf] w0o
def w0p:=pC [zt] s00
def w0i:=pC [zf,zf,zf,zf,zt,zt] V2
def s0W:=pC [zf] w0p
def s0Y:=pC [zt] s0W
def a04:=pC [zt] s0Y
def p0a:=pC [zf,zf,zf,zf,zt,zf,zt,zt,zt] V2
def p0c:=pC [zf] a04
def r0f:=pC [zt] p0c
def s01:=pC [zf] p0c
def s0X:=pC [zt] s01
def r0g:=pC [zt] s0X
def w0j:=pC [zf,zf,zf,zf,zt,zf,zt,zt,zf,zf,zt,zt,zt] V2
def r0h:=pC [zf] r0g
def g0R:=pC [zf,zf,zf,zf,zt,zf,zt,zt,zf,zf,zt,zt,zf,zt] V2
def m00:=pC [zf,zf,zf,zf,zt,zf,zt,zt,zf,zf,zt,zt,zf,zf] V2
def k0H:=pC [zf,zf,zf,zf,zt,zf,zt,zt,zf,zf,zf] V2
def c0k:=pC [zf] s00
def a03:=pC [zf,zf,zf,zf,zf,zt] V2
theorem w0b:s0W= .block 0 s0Y:=by kernel_rfl
theorem w0d:s0Y= .loop a04:=by kernel_rfl
theorem w0c:s0X= .block 1 r0g:=by kernel_rfl
theorem w0k:g0R= .region 7 (oC g0R) true:=by kernel_rfl
theorem w0l:m00= .region 8 (oC m00) false:=by kernel_rfl
theorem w0m:k0H= .region 9 (oC k0H) false:=by kernel_rfl
theorem s0Z:a03= .region 10 (oC a03) true:=by kernel_rfl
theorem m09(args:Array Value):Frame.enter Tryd.prog 53 args .normal=(Go.Conc.base 53).at {tmps:=args++Array.replicate (38 - args.size) undef,defers:=[]} [.code y0B]:=enter_at args Tryd.func53 rfl
theorem i0k:X0 53:=G1 Tryd.func53 rfl rfl
def diT(s:Nat→Value):Array Value:= #[s 0,s 1,s 2,s 3,s 4,s 5,s 6,s 7,s 8,s 9,s 10,s 11,s 12,s 13,s 14,s 15,s 16,s 17,s 18,s 19,s 20,s 21,s 22,s 23,s 24,s 25,s 26,s 27,s 28,s 29,s 30,s 31,s 32,s 33,s 34,s 35,s 36,s 37]
theorem y0t{A:Array Value}(h:A.size=38):∃s,A=diT s:=by
 obtain⟨s,hs,_⟩:=F3 A h
 exact⟨s,hs⟩
theorem n0q:∃i,Tryd.prog.info? 55=some i∧i.zero=some (.slice none 0 0)∧i.size=1∧i.bytes=24:=by
 have h:(Tryd.prog.info? 55).map (fun i=>(i.size,i.bytes))=some (1,24):=by kernel_rfl
 have h0:(Tryd.prog.info? 55).bind (·.zero)=some (.slice none 0 0):=by kernel_rfl
 obtain⟨i,hi,h1⟩:=Option.map_eq_some_iff.1 h
 rw[hi]at h0
 simp only[Prod.mk.injEq]at h1
 exact⟨i,hi,h0,h1.1,h1.2⟩
section
variable{n:Nat}{es:Array Event}
@[go_sem] theorem u0g(h:n≤64):(Instr.makeSlice 27 (vI n) (vI n)).run Tryd.prog w= .ok (vL w.heap.size 0 n n) (w.alloc (.cells (madeCells #[.slice none 0 0] n) 55)):=by
 obtain⟨i,hi,hz,hs,hb⟩:=n0q
 have:=run_make (P:=Tryd.prog) w 27 55 i (.slice none 0 0) Tryd.underlying27 hi hz .i64 .i64 n n (by omega) (by omega) (by rw[hb];omega) (by omega)
 rw[hs]at this
 simpa [Value.cells]using this
@[go_sem] theorem i0B(h:n≤64):(Instr.makeSlice 27 (vI n) (vI n)).events Tryd.prog w es=es:=by
 obtain⟨i,hi,hz,hs,hb⟩:=n0q
 exact events_make (P:=Tryd.prog) w 27 55 i (.slice none 0 0) Tryd.underlying27 hi hz .i64 .i64 n n (by omega) (by omega) (by rw[hb];omega) (by omega) (by rw[hb];omega) es
end
theorem l0l(X:World)(u v:Value):(X.alloc (.cells #[u] 27)).setCell ⟨X.heap.size,0,none⟩ v=X.alloc (.cells #[v] 27):=by go_simp
theorem y0u{nn:Nat}(hU:Q1 F nn)(hn:nn≤w.heap.size){ta:Option Addr}{tl tc n df:Nat}{first capt:Array Value}(hn1:min tl 64=n)
 (h:∀A,D0 38 A [(0,.slice ta tl tc),(3,vP w.heap.size 0),(6,vI n)]→E0 Tryd.prog main F Stop (G (bA 53 A [.code p0b]) cs) (w.alloc (.cells #[.func (.func df) first capt] 74))):
 E0 Tryd.prog main F Stop (G (Frame.enter Tryd.prog 53 #[.slice ta tl tc,.func (.func df) first capt] .normal) cs) w:=by
 have hn2:(if(64:Int)<(tl:Int)then(64:Int)else tl)=(n:Int):=by split<;>omega
 rw[m09]
 walk_nrm
 refine ogW w0e w0n ?_
 simp only[w0e,V2,Tryd.f53,zz,Nat.reduceAdd]
 refine oA hU ?_
 iterate 2 refine oT ?_
 refine I0<|ogW w0f p0b ?_
 simp only[w0f,V2,Tryd.f53,zz,Nat.reduceAdd]
 iterate 4 refine oT ?_
 refine I0 ?_
 refine h _ ?_
 exact⟨rfl,rfl,rfl,rfl,trivial⟩
theorem y0v{nn:Nat}(hU:Q1 F nn)(hn:nn≤w.heap.size){ta:Option Addr}{tl tc n db:Nat}(hn64:n≤64){A:Array Value}(hA:D0 38 A [(0,.slice ta tl tc),(3,vP db 0),(6,vI n)])
 (h:∀A,D0 38 A [(0,.slice ta tl tc),(3,vP db 0),(6,vI n),(7,vP (w.heap.size+1) 0),(8,.slice none 0 0),(16,vI n),(17,vI (0:Nat))]→E0 Tryd.prog main F Stop (G (bA 53 A [.code a04,.inLoop a04,.inBlock 0,.code c0k]) cs) ((w.alloc (.cells (madeCells #[.slice none 0 0] n) 55)).alloc (.cells #[vL w.heap.size 0 n n] 27))):
 E0 Tryd.prog main F Stop (G (bA 53 A [.code p0b]) cs) w:=by
 obtain⟨s,rfl,h0,h3,h6,_⟩:=D5 diT hA
 simp only[diT,h0,h3,h6]
 clear h0 h3 h6
 refine ogW w0g w0o ?_
 simp only[w0g,V2,Tryd.f53,zz,Nat.reduceAdd]
 refine oT ?_
 (refine oW fun dd K hK=>?_;go_simp;refine hK _ _ ⟨⟨⟨0,L0 hU (by first|(simp[go_sem];done)|(simp[go_sem];omega)) _⟩,fun e he=>by(have hm:=mem_listed he;clear he hK;simp[go_sem,storedEv,i0B hn64]at hm)⟩,?_⟩;clear hK K;rw[alloc_at'];refine E0.at ?_ dd)
 refine oA hU ?_
 (refine oW fun dd K hK=>?_;go_simp;refine qS hK hU ?_;clear hK K)
 have e1:=l0l (w.alloc (.cells (madeCells #[.slice none 0 0] n) 55)) (.slice none 0 0) (vL w.heap.size 0 n n)
 simp only[World.size_alloc]at e1
 rw[e1]
 clear e1
 refine I0<|ogW w0h s00 ?_
 simp only[w0h,V2,Tryd.f53,zz,Nat.reduceAdd]
 refine oT ?_
 refine I0<|ogV w0p c0k<|ogW w0i s0W ?_
 simp only[w0i,V2,Tryd.f53,zz,Nat.reduceAdd]
 iterate 2 refine oT ?_
 refine I0 ?_
 rw[w0b]
 refine K5 ?_
 rw[w0d]
 refine ogP ?_
 refine h _ ?_
 exact⟨rfl,rfl,rfl,rfl,rfl,rfl,rfl,rfl,trivial⟩
theorem y0z{ta:Option Addr}{tl tc n db av:Nat}{l:Value}{A:Array Value}(hA:D0 38 A [(0,.slice ta tl tc),(3,vP db 0),(6,vI n),(7,vP av 0),(8,l),(16,vI n),(17,vI n)])
 (h:∀A,D0 38 A [(0,.slice ta tl tc),(3,vP db 0),(6,vI n),(7,vP av 0),(8,l),(16,vI n),(17,vI n)]→E0 Tryd.prog main F Stop (G (bA 53 A [.code a03,.code .ret]) cs) w):
 E0 Tryd.prog main F Stop (G (bA 53 A [.code a04,.inLoop a04,.inBlock 0,.code c0k]) cs) w:=by
 obtain⟨s,rfl,h0,h3,h6,h7,h8,h16,h17,_⟩:=D5 diT hA
 simp only[diT,h0,h3,h6,h7,h8,h16,h17]
 clear h0 h3 h6 h7 h8 h16 h17
 have hlt:decide ((n:Int)<(n:Int))=false:=by simp
 refine ogW p0a p0c ?_
 simp only[p0a,V2,Tryd.f53,zz,Nat.reduceAdd]
 refine oT ?_
 refine I0<|ogV r0f s01<|ogGn (.exit 0) ?_
 refine G0 rfl (fun d=>stepG_exit rfl) ?_
 refine ogV a03 .ret ?_
 refine h _ ?_
 exact⟨rfl,rfl,rfl,rfl,rfl,rfl,rfl,rfl,trivial⟩
theorem y0w{nn:Nat}(hU:Q1 F nn)(hn:nn≤w.heap.size){ta:Option Addr}{tl tc n db av k:Nat}{l:Value}(hk:k<n){A:Array Value}(hA:D0 38 A [(0,.slice ta tl tc),(3,vP db 0),(6,vI n),(7,vP av 0),(8,l),(16,vI n),(17,vI k)])
 (h:∀A,D0 38 A ((9,vP w.heap.size 0)::[(0,.slice ta tl tc),(3,vP db 0),(6,vI n),(7,vP av 0),(8,l),(16,vI n),(17,vI k)])→E0 Tryd.prog main F Stop (G (bA 53 A [.code r0h,.inBlock 1,.code k0H,.inLoop a04,.inBlock 0,.code c0k]) cs) (w.alloc (.cells #[vI k] 3))):
 E0 Tryd.prog main F Stop (G (bA 53 A [.code a04,.inLoop a04,.inBlock 0,.code c0k]) cs) w:=by
 obtain⟨s,rfl,h0,h3,h6,h7,h8,h16,h17,_⟩:=D5 diT hA
 simp only[diT,h0,h3,h6,h7,h8,h16,h17]
 clear h0 h3 h6 h7 h8 h16 h17
 have hlt:decide ((k:Int)<(n:Int))=true:=by simp;omega
 have hlt2:decide (k<n)=true:=by simp;omega
 refine ogW p0a p0c ?_
 simp only[p0a,V2,Tryd.f53,zz,Nat.reduceAdd]
 refine oT ?_
 refine I0<|ogV r0f s01<|ogYn .skip<|ogK<|ogV s0X k0H ?_
 rw[w0c]
 refine K5<|ogW w0j r0h ?_
 simp only[w0j,V2,Tryd.f53,zz,Nat.reduceAdd]
 refine oT ?_
 refine oA hU ?_
 (refine oW fun dd K hK=>?_;go_simp;refine qS hK hU ?_;clear hK K)
 rw[c0K]
 refine I0 ?_
 refine h _ ?_
 exact⟨rfl,rfl,rfl,rfl,rfl,rfl,rfl,rfl,rfl,trivial⟩
end
section
variable{F:Fz}{w:World}
structure SD(nn ib tb o k ol oc:Nat)(oa:Option Addr)(u:World):Prop where
 top:nn≤u.heap.size
 il:ib<u.heap.size
 tl:tb<u.heap.size
 ci:u.cell? ⟨ib,0,none⟩=some (vI k)
 zi:u.frozen? ⟨ib,0,none⟩=false
 ct:u.cell? ⟨tb,o+k,none⟩=some (.slice oa ol oc)
 zt:u.frozen? ⟨tb,o+k,none⟩=false
section
variable{nn ib tb o k ol oc:Nat}{oa:Option Addr}{u:World}
theorem SD.at(h:SD nn ib tb o k ol oc oa u)(d:Nat):SD nn ib tb o k ol oc oa (u.at d):=⟨h.top,h.il,h.tl,h.ci,h.zi,h.ct,h.zt⟩
theorem SD.alloc(h:SD nn ib tb o k ol oc oa u)(ob:Obj):SD nn ib tb o k ol oc oa (u.alloc ob):=by
 have e1:(u.alloc ob).heap[ib]? =u.heap[ib]?:=o0 _ _ h.il
 have e2:(u.alloc ob).heap[tb]? =u.heap[tb]?:=o0 _ _ h.tl
 refine⟨by simp;have:=h.top;omega,by simp;have:=h.il;omega,by simp;have:=h.tl;omega,?_,?_,?_,?_⟩
 ·rw[← h.ci];unfold World.cell?;simp only[e1]
 ·rw[← h.zi];unfold World.frozen?;simp only[e1]
 ·rw[← h.ct];unfold World.cell?;simp only[e2]
 ·rw[← h.zt];unfold World.frozen?;simp only[e2]
end
theorem l0m(X:World)(u v:Value):(X.alloc (.cells #[u] 32)).setCell ⟨X.heap.size,0,none⟩ v=X.alloc (.cells #[v] 32):=by go_simp
theorem n0p:∃i,Tryd.prog.info? 44=some i∧i.size=4:=by
 have h:(Tryd.prog.info? 44).map (fun i=>i.size)=some 4:=by kernel_rfl
 obtain⟨i,hi,h1⟩:=Option.map_eq_some_iff.1 h
 exact⟨i,hi,h1⟩
theorem k0o{w:World}{a:Option Addr}{ol oc m:Nat}(hmc:m≤oc):(Instr.sliceAt 32 (.slice a ol oc) none (some (vI m)) none).run Tryd.prog w= .ok (.slice a m oc) w:=by
 obtain⟨i,hi,hs⟩:=n0p
 have hu:Tryd.prog.underlying 32=some (.slice 44):=Tryd.underlying32
 have e:a.map (fun x:Addr=>x.add 0)=a:=by
  cases a with
  | none=>rfl
  | some x=>simp[Addr.add]
 have hm:(m:Int)≤oc:=by omega
 simp[Instr.sliceAt,Instr.slice,run_underlying hu,Instr.sliceBounds,run_sliceBound,sizeOf,typeInfo,hi,hs,hmc,hm,e]
theorem h0s{w:World}{es:Array Event}{a:Option Addr}{ol oc m:Nat}(hmc:m≤oc):(Instr.sliceAt 32 (.slice a ol oc) none (some (vI m)) none).events Tryd.prog w es=es:=by
 obtain⟨i,hi,hs⟩:=n0p
 have hu:Tryd.prog.underlying 32=some (.slice 44):=Tryd.underlying32
 have hm:(m:Int)≤oc:=by omega
 simp[Instr.sliceAt,Instr.slice,run_underlying hu,Instr.sliceBounds,Instr.sliceBound,asIntOf,run_sliceBound,sizeOf,typeInfo,hi,hs,hmc,hm]
theorem y0x {nn : Nat} (hU : Q1 F nn) {tb o tl tc n db av ib k ol oc m : Nat} {oa : Option Addr} {l : Value} (hkt : k < tl) (hm0 : min ol 65536 = m) (hoc : ol ≤ oc) (hs : SD nn ib tb o k ol oc oa w) {A : Array Value} (hA : D0 38 A ((9, vP ib 0) :: [(0, vL tb o tl tc), (3, vP db 0), (6, vI n), (7, vP av 0), (8, l), (16, vI n), (17, vI k)])) {cs : List Frame} {main : Bool} {Stop : Goroutine → World → Prop} {kk : List Item}
    (h : ∀ A, D0 38 A ((9, vP ib 0) :: (10, vP w.heap.size 0) :: [(0, vL tb o tl tc), (3, vP db 0), (6, vI n), (7, vP av 0), (8, l), (16, vI n), (17, vI k)]) → E0 Tryd.prog main F Stop (G (bA 53 A kk) cs) (w.alloc (.cells #[.slice oa m oc] 32))) :
    E0 Tryd.prog main F Stop (G (bA 53 A (.code g0R :: kk)) cs) w := by
  obtain ⟨s, rfl, h9, h0, h3, h6, h7, h8, h16, h17, _⟩ := D5 diT hA
  simp only [diT, h9, h0, h3, h6, h7, h8, h16, h17]
  clear h9 h0 h3 h6 h7 h8 h16 h17
  have hmc : m ≤ oc := by omega
  have hm2 : (if (65536 : Int) < (ol : Int) then (65536 : Int) else ol) = (m : Int) := by split <;> omega
  have hS : ∀ u d, SD nn ib tb o k ol oc oa u → SD nn ib tb o k ol oc oa (World.at u d) := fun u d h => h.at d
  rw [w0k]
  refine U5 (SD nn ib tb o k ol oc oa) (last := 12) K2 (Q6 (by kernel_rfl)) (by decide) ?_
  simp only [g0R, V2, Tryd.f53, zz, Nat.reduceAdd]
  have hZ : ∀ a u d, E0 Tryd.prog main F Stop (G ((Go.Conc.base 53).at a (.inRegion (oC g0R) [12] :: kk)) cs) u → E0 Tryd.prog main F Stop (G ((Go.Conc.base 53).at a (.inRegion (oC g0R) [12] :: kk)) cs) (World.at u d) := fun a u d h => h.at d
  simp only [g0R, V2, Tryd.f53, zz, Nat.reduceAdd] at hZ
  refine tkM 0 (vL tb o tl tc) hS hs ?_ hZ
  walk_nrm
  refine M8 1 (vI k) (fun u hu => (And.intro hu.ci hu.zi)) hS hs ?_ hZ
  walk_nrm
  refine o0u 2 (vP tb (o + k)) (fun u hu => hkt) hS hs ?_ hZ
  walk_nrm
  refine M8 3 (.slice oa ol oc) (fun u hu => (And.intro hu.ct hu.zt)) hS hs ?_ hZ
  walk_nrm
  refine tkM 4 (vL tb o tl tc) hS hs ?_ hZ
  walk_nrm
  refine M8 5 (vI k) (fun u hu => (And.intro hu.ci hu.zi)) hS hs ?_ hZ
  walk_nrm
  refine o0u 6 (vP tb (o + k)) (fun u hu => hkt) hS hs ?_ hZ
  walk_nrm
  refine M8 7 (.slice oa ol oc) (fun u hu => (And.intro hu.ct hu.zt)) hS hs ?_ hZ
  walk_nrm
  refine tkM 8 (vI ol) hS hs ?_ hZ
  walk_nrm
  refine o0u 9 (vI m) (fun u hu => hm2) hS hs ?_ hZ
  walk_nrm
  refine E9 hS hZ (i := 10) (v := .slice oa m oc) hs rfl rfl (by kernel_rfl) (by kernel_rfl) (by kernel_rfl) (fun u hu => .inl ⟨rfl, fun d => ⟨by simp [go_sem, execOp, Act.eval, k0o hmc, h0s hmc], fun e he => by have hm := mem_listed he; simp [go_sem, execOp, Act.eval, k0o hmc, h0s hmc] at hm⟩⟩) ?_
  walk_nrm
  refine V1 (r := [11]) (by kernel_rfl) (by kernel_rfl) (fun i hi hil => ?_)
  simp only [List.mem_cons, List.not_mem_nil, or_false] at hi
  subst hi
  refine D3 rfl rfl (fun d K' hK' => ?_)
  go_simp
  refine hK' _ _ ⟨⟨⟨0, L0 hU (show nn ≤ (w.at d).heap.size from hs.top) _⟩, fun e he => by (have hm := mem_listed he; simp [go_sem] at hm)⟩, (hs.at d).alloc _, ?_⟩
  clear hK' K'
  rw [alloc_at']
  refine U1 hS hZ _ _ _ _ ?_ d
  refine T3 (by kernel_rfl) ?_ _
  have hn := hs.top
  (refine oW fun dd K hK => ?_; go_simp; refine qS hK hU ?_; clear hK K)
  rw [l0m]
  refine I0 ?_
  refine h _ ?_
  exact ⟨rfl, rfl, rfl, rfl, rfl, rfl, rfl, rfl, rfl, rfl, trivial⟩
end
section
variable{w:World}
theorem j0X(w:World):T0 F0 w=w:=by
 have e:(T0 F0 w).heap=w.heap:=by
  apply Array.ext_getElem?
  intro r
  rw[Z2]
  cases h:w.heap[r]? with
  | none=>rfl
  | some o=>cases o<;>rfl
 calc T0 F0 w={w with heap:=(T0 F0 w).heap}:=rfl
  _=w:=by rw[e]
theorem K1:Q1 F0 0:=fun r z h=>by cases h
theorem k0r(w:World):Wf F0 w:=⟨fun r z h=>by cases h⟩
theorem p0o:∃i,Tryd.prog.info? 108=some i∧i.zero=some .nilFunc∧i.size=1∧i.bytes=8:=by
 have h:(Tryd.prog.info? 108).map (fun i=>(i.size,i.bytes))=some (1,8):=by kernel_rfl
 have h0:(Tryd.prog.info? 108).bind (·.zero)=some .nilFunc:=by kernel_rfl
 obtain⟨i,hi,h1⟩:=Option.map_eq_some_iff.1 h
 rw[hi]at h0
 simp only[Prod.mk.injEq]at h1
 exact⟨i,hi,h0,h1.1,h1.2⟩
def a02(ob db ib av:Nat):Value:=.func (.func 63) #[] #[vP ob 0,vP db 0,vP ib 0,vP av 0]
theorem y0y{ta:Option Addr}{tl tc n db av ib ob k base:Nat}{l:Value}{xs:List Value}(hk:k<64)(hb:base≤w.heap.size)(hrow:w.ownsRow base 108 1 l k xs){A:Array Value}(hA:D0 38 A ((9,vP ib 0)::(10,vP ob 0)::[(0,.slice ta tl tc),(3,vP db 0),(6,vI n),(7,vP av 0),(8,l),(16,vI n),(17,vI k)])){cs:List Frame}{main:Bool}{Stop:Goroutine→World→Prop}
 (h:∀(w':World) (l':Value) (A:Array Value),w'.ownsRow base 108 1 l' (k+1) (xs++[a02 ob db ib av])→w.heap.size≤w'.heap.size→(∀r,r<w.heap.size→some r≠Value.ownBlock l→w'.heap[r]? =w.heap[r]?)→D0 38 A [(0,.slice ta tl tc),(3,vP db 0),(6,vI n),(7,vP av 0),(8,l'),(16,vI n),(17,vI (k+1:Nat))]→E0 Tryd.prog main F0 Stop (G (bA 53 A [.code a04,.inLoop a04,.inBlock 0,.code c0k]) cs) w'):
 E0 Tryd.prog main F0 Stop (G (bA 53 A [.code m00,.inBlock 1,.code k0H,.inLoop a04,.inBlock 0,.code c0k]) cs) w:=by
 have hU:=K1
 have hn:0≤w.heap.size:=Nat.zero_le _
 have hk64:IntKind.i64.wrap ((k:Int)+1)=(k:Int)+1:=IntWalk.i64_in _ (by omega)
 obtain⟨s,rfl,h9,h10,h0,h3,h6,h7,h8,h16,h17,_⟩:=D5 diT hA
 simp only[diT,h9,h10,h0,h3,h6,h7,h8,h16,h17]
 clear h9 h10 h0 h3 h6 h7 h8 h16 h17
 rw[w0l]
 refine ogR ?_
 simp only[m00,V2,Tryd.f53,zz,Nat.reduceAdd]
 iterate 2 refine oT ?_
 refine oA hU ?_
 have hrow2:=hrow.alloc (.cells #[a02 ob db ib av] 108)
 have hcell:=cell_one_new w (a02 ob db ib av) 108
 have hsz:(w.alloc (.cells #[a02 ob db ib av] 108)).heap.size=w.heap.size+1:=by simp
 have hold:∀r,r<w.heap.size→(w.alloc (.cells #[a02 ob db ib av] 108)).heap[r]? =w.heap[r]?:=fun r hr=>o0 _ _ hr
 change E0 _ _ _ _ _ (w.alloc (.cells #[a02 ob db ib av] 108))
 generalize w.alloc (.cells #[a02 ob db ib av] 108)=W at hrow2 hcell hsz hold ⊢
 obtain⟨i0,hi0,hz0,hz1,hz2⟩:=p0o
 refine k0g (by decide) ?_
 refine d0N (S':=fun _=>false) (px:=false) (ready0.shut false) (by simp) rfl rfl rfl (k0r _) (fun d=>?_)
 rw[j0X]
 obtain⟨l',u,hr,hown,hgrow,_⟩:=run_append_own (P:=Tryd.prog) (W.at d) base 118 118 108 i0 _ 1 8 Tryd.underlying118 hi0 hz0 hz1 hz2 rfl (by decide) l k xs hrow2 ⟨w.heap.size,0,none⟩ 1 1 [a02 ob db ib av] rfl
  hcell (fun q hq=>by simp at hq;subst hq;rfl) (by unfold maxLen;omega) (by omega) (by show base≤W.heap.size;omega)
 refine⟨l',u,Y5 (.tmp 31) (.tmp 33) 118 rfl rfl rfl hr,fun w' hu hg hwf'=>?_⟩
 rw[j0X]at hu
 subst hu
 have hsz2:W.heap.size≤u.heap.size:=hgrow.size
 have hold2:∀r,r<w.heap.size→some r≠Value.ownBlock l→u.heap[r]? =w.heap[r]?:=fun r h1 h2=>(hgrow.block r (by show r<W.heap.size;omega) h2).trans (hold r h1)
 have hsz3:w.heap.size≤u.heap.size:=by omega
 clear hrow2 hcell hsz hold hr hgrow hsz2 hg hwf' hz0 hz1 hz2 hi0
 walk_nrm
 refine oT ?_
 refine I0<|ogI ?_
 rw[w0m]
 refine ogR ?_
 simp only[k0H,V2,Tryd.f53,zz,Nat.reduceAdd]
 iterate 2 refine oT ?_
 refine I0<|ogL ?_
 refine h _ l' _ hown hsz3 hold2 ?_
 exact⟨rfl,rfl,rfl,rfl,rfl,rfl,rfl,rfl,trivial⟩
end
section
variable{w:World}
structure SV(av:Nat)(v:Value)(u:World):Prop where
 c:u.cell? ⟨av,0,none⟩=some v
 z:u.frozen? ⟨av,0,none⟩=false
theorem y0A{ta:Option Addr}{tl tc n db av:Nat}{l x:Value}(hs:SV av x w){A:Array Value}(hA:D0 38 A [(0,.slice ta tl tc),(3,vP db 0),(6,vI n),(7,vP av 0),(8,l),(16,vI n),(17,vI n)]){c:Frame}{cs:List Frame}{Stop:Goroutine→World→Prop}
 (h:E0 Tryd.prog true F0 Stop (G (c.finish (.tuple #[l,x])) cs) w):
 E0 Tryd.prog true F0 Stop (G (bA 53 A [.code a03,.code .ret]) (c::cs)) w:=by
 obtain⟨s,rfl,h0,h3,h6,h7,h8,h16,h17,_⟩:=D5 diT hA
 simp only[diT,h0,h3,h6,h7,h8,h16,h17]
 clear h0 h3 h6 h7 h8 h16 h17
 have hS:∀u d,SV av x u→SV av x (World.at u d):=fun u d h=>⟨h.c,h.z⟩
 rw[s0Z]
 refine U5 (SV av x) (last:=3) K2 (Q6 (by kernel_rfl)) (by decide) ?_
 simp only[a03,V2,Tryd.f53,zz,Nat.reduceAdd]
 have hZ:∀a u d,E0 Tryd.prog true F0 Stop (G ((Go.Conc.base 53).at a [.inRegion (oC a03) [3],.code .ret]) (c::cs)) u→E0 Tryd.prog true F0 Stop (G ((Go.Conc.base 53).at a [.inRegion (oC a03) [3],.code .ret]) (c::cs)) (World.at u d):=fun a u d h=>h.at d
 simp only[a03,V2,Tryd.f53,zz,Nat.reduceAdd]at hZ
 refine tkM 0 l hS hs ?_ hZ
 walk_nrm
 refine M8 1 x (fun u hu=>(And.intro hu.c hu.z)) hS hs ?_ hZ
 walk_nrm
 refine tkM 2 l hS hs ?_ hZ
 walk_nrm
 refine T3 (by kernel_rfl) ?_ _
 refine oT ?_
 refine I0<|ogX ?_
 refine G0 rfl (fun d=>stepG_leave (fn:=Tryd.f53) (v:=.tuple #[l,x]) rfl rfl Tryd.func53 (by simp[results,Tryd.f53,go_sem]) (by simp[results,Tryd.f53,go_sem])) ?_
 exact h
structure DI(w0:World)(n k db aa av:Nat)(dv:Value)(oa:Nat→Option Addr)(m oc ib ob:Nat→Nat)(l:Value)(w:World):Prop where
 size:w0.heap.size≤w.heap.size
 old:∀r,r<w0.heap.size→w.heap[r]? =w0.heap[r]?
 hdb:w.heap[db]? =some (.cells #[dv] 74 (0,0))
 haa:w.heap[aa]? =some (.cells (madeCells #[.slice none 0 0] n) 55 (0,0))
 hav:w.heap[av]? =some (.cells #[vL aa 0 n n] 27 (0,0))
 hib:∀j,j<k→w.heap[ib j]? =some (.cells #[vI j] 3 (0,0))
 hob:∀j,j<k→w.heap[ob j]? =some (.cells #[.slice (oa j) (m j) (oc j)] 32 (0,0))
 lo:∀j,j<k→w0.heap.size≤ib j∧w0.heap.size≤ob j
 new:w0.heap.size≤db∧w0.heap.size≤aa∧w0.heap.size≤av
 row:w.ownsRow w0.heap.size 108 1 l k ((List.range k).map fun j=>a02 (ob j) db (ib j) av)
theorem DI.same{w0 w w':World}{n k db aa av:Nat}{dv:Value}{oa:Nat→Option Addr}{m oc ib ob:Nat→Nat}{l:Value}(h:DI w0 n k db aa av dv oa m oc ib ob l w)(hsz:w.heap.size≤w'.heap.size)(hs:∀r,r<w.heap.size→w'.heap[r]? =w.heap[r]?):DI w0 n k db aa av dv oa m oc ib ob l w':=by
 have lt:∀{r:Nat} {o:Obj},w.heap[r]? =some o→w'.heap[r]? =some o:=fun hr=>(hs _ (D4 hr)).trans hr
 exact⟨Nat.le_trans h.size hsz,fun r hr=>(hs r (Nat.lt_of_lt_of_le hr h.size)).trans (h.old r hr),lt h.hdb,lt h.haa,lt h.hav,fun j hj=>lt (h.hib j hj),fun j hj=>lt (h.hob j hj),h.lo,h.new,E1 h.row fun b hb _=>hs b (h.row.lt b hb).2⟩
theorem d0T{w0:World}{tb o tl tc n db aa av:Nat}{dv:Value}(hntl:n≤tl)(hn64:n≤64){oa:Nat→Option Addr}{ol m oc:Nat→Nat}(htb:0<n→tb<w0.heap.size)(hth:∀j,j<n→w0.cell? ⟨tb,o+j,none⟩=some (.slice (oa j) (ol j) (oc j))∧w0.frozen? ⟨tb,o+j,none⟩=false∧ol j≤oc j∧min (ol j) 65536=m j){ta:Option Addr}(hta:0<n→ta=some ⟨tb,o,none⟩){c:Frame}{cs:List Frame}{Stop:Goroutine→World→Prop}
 (K:∀w' l ib ob,DI w0 n n db aa av dv oa m oc ib ob l w'→E0 Tryd.prog true F0 Stop (G (c.finish (.tuple #[l,vL aa 0 n n])) cs) w'):
 ∀(q k:Nat),k+q=n→∀(w:World) (l:Value) (ib ob:Nat→Nat) (A:Array Value),DI w0 n k db aa av dv oa m oc ib ob l w→D0 38 A [(0,.slice ta tl tc),(3,vP db 0),(6,vI n),(7,vP av 0),(8,l),(16,vI n),(17,vI k)]→
  E0 Tryd.prog true F0 Stop (G (bA 53 A [.code a04,.inLoop a04,.inBlock 0,.code c0k]) (c::cs)) w:=by
 intro q
 induction q with
 | zero=>
   intro k hk w l ib ob A hD hA
   obtain rfl:k=n:=by omega
   refine y0z hA fun A2 hA2=>?_
   refine y0A (x:=vL aa 0 k k) ⟨by simp[World.cell?,hD.hav],by simp[World.frozen?,hD.hav]⟩ hA2 ?_
   exact K w l ib ob hD
 | succ q ih=>
   intro k hk w l ib ob A hD hA
   have hkn:k<n:=by omega
   obtain rfl:=hta (by omega)
   obtain⟨t1,t2,t3,t4⟩:=hth k hkn
   have htl:=htb (by omega)
   have htb2:=hD.old tb htl
   have hsz0:=hD.size
   refine y0w K1 (Nat.zero_le _) hkn hA fun A2 hA2=>?_
   have e1:∀r,r<w.heap.size→(w.alloc (.cells #[vI k] 3)).heap[r]? =w.heap[r]?:=fun r hr=>o0 _ _ hr
   have e2:=heap_alloc_new w (.cells #[vI k] 3)
   have e3:(w.alloc (.cells #[vI k] 3)).heap.size=w.heap.size+1:=by simp
   generalize w.alloc (.cells #[vI k] 3)=W1 at e1 e2 e3 ⊢
   refine ogV g0R m00 ?_
   have htb3:W1.heap[tb]? =w0.heap[tb]?:=(e1 tb (by omega)).trans htb2
   refine y0x (nn:=0) (m:=m k) K1 (by omega) t4 t3 ⟨Nat.zero_le _,by omega,by omega,by simp[World.cell?,e2],by simp[World.frozen?,e2],by rw[← t1];unfold World.cell?;simp only[htb3],by rw[← t2];unfold World.frozen?;simp only[htb3]⟩ hA2 fun A3 hA3=>?_
   have f1:∀r,r<W1.heap.size→(W1.alloc (.cells #[.slice (oa k) (m k) (oc k)] 32)).heap[r]? =W1.heap[r]?:=fun r hr=>o0 _ _ hr
   have f2:=heap_alloc_new W1 (.cells #[.slice (oa k) (m k) (oc k)] 32)
   have f3:(W1.alloc (.cells #[.slice (oa k) (m k) (oc k)] 32)).heap.size=W1.heap.size+1:=by simp
   generalize W1.alloc (.cells #[.slice (oa k) (m k) (oc k)] 32)=W2 at f1 f2 f3 ⊢
   have hD2:DI w0 n k db aa av dv oa m oc ib ob l W2:=hD.same (by omega) fun r hr=>(f1 r (by omega)).trans (e1 r hr)
   refine y0y (base:=w0.heap.size) (by omega) (by omega) hD2.row hA3 fun w' l' A4 g1 g2 g3 hA4=>?_
   have hne:∀{r:Nat} {cc:Array Value} {t:TypeId},W2.heap[r]? =some (.cells cc t (0,0))→t≠108→w'.heap[r]? =some (.cells cc t (0,0)):=fun hr ht=>(g3 _ (D4 hr) (x9 hD2.row hr (fun e=>ht e.symm))).trans hr
   have hold:∀r,r<w0.heap.size→w'.heap[r]? =w0.heap[r]?:=fun r hr=>(g3 r (by omega) (fun e=>by
    have:=(hD2.row.lt r e.symm).1;omega)).trans (hD2.old r hr)
   refine ih (k+1) (by omega) w' l' (fun j=>if j=k then w.heap.size else ib j) (fun j=>if j=k then W1.heap.size else ob j) A4 ⟨by omega,hold,hne hD2.hdb (by decide),hne hD2.haa (by decide),hne hD2.hav (by decide),fun j hj=>?_,fun j hj=>?_,fun j hj=>?_,hD.new,?_⟩ hA4
   ·by_cases e:j=k
    ·subst e
     simp only[if_true]
     exact hne ((f1 _ (by omega)).trans e2) (by decide)
    ·simp only[if_neg e]
     exact hne (hD2.hib j (by omega)) (by decide)
   ·by_cases e:j=k
    ·subst e
     simp only[if_true]
     exact hne f2 (by decide)
    ·simp only[if_neg e]
     exact hne (hD2.hob j (by omega)) (by decide)
   ·by_cases e:j=k
    ·subst e
     simp only[if_true]
     omega
    ·simp only[if_neg e]
     exact hD.lo j (by omega)
   ·have e5:((List.range (k+1)).map fun j=>a02 (if j=k then W1.heap.size else ob j) db (if j=k then w.heap.size else ib j) av)=((List.range k).map fun j=>a02 (ob j) db (ib j) av)++[a02 W1.heap.size db w.heap.size av]:=by
     rw[List.range_succ,List.map_append]
     congr 1
     ·apply List.map_congr_left
      intro j hj
      have:j<k:=List.mem_range.1 hj
      simp only[if_neg (show ¬j=k by omega)]
     ·simp
    rw[e5]
    exact g1
theorem l0b{tb o tl tc n df:Nat}{first capt:Array Value}(hn1:min tl 64=n){oa:Nat→Option Addr}{ol m oc:Nat→Nat}(htb:0<n→tb<w.heap.size)(hth:∀j,j<n→w.cell? ⟨tb,o+j,none⟩=some (.slice (oa j) (ol j) (oc j))∧w.frozen? ⟨tb,o+j,none⟩=false∧ol j≤oc j∧min (ol j) 65536=m j){ta:Option Addr}(hta:0<n→ta=some ⟨tb,o,none⟩){c:Frame}{cs:List Frame}{Stop:Goroutine→World→Prop}
 (K:∀w' l ib ob db aa av,DI w n n db aa av (.func (.func df) first capt) oa m oc ib ob l w'→E0 Tryd.prog true F0 Stop (G (c.finish (.tuple #[l,vL aa 0 n n])) cs) w'):
 E0 Tryd.prog true F0 Stop (G (Frame.enter Tryd.prog 53 #[.slice ta tl tc,.func (.func df) first capt] .normal) (c::cs)) w:=by
 refine y0u K1 (Nat.zero_le _) hn1 fun A hA=>?_
 refine y0v K1 (Nat.zero_le _) (by omega) hA fun A2 hA2=>?_
 have e1:∀r,r<w.heap.size→(((w.alloc (.cells #[.func (.func df) first capt] 74)).alloc (.cells (madeCells #[.slice none 0 0] n) 55)).alloc (.cells #[vL ((w.alloc (.cells #[.func (.func df) first capt] 74)).heap.size) 0 n n] 27)).heap[r]? =w.heap[r]?:=fun r hr=>by
  rw[o0 _ _ (by simp;omega),o0 _ _ (by simp;omega),o0 _ _ hr]
 refine d0T (w0:=w) (n:=n) (tl:=tl) (dv:=.func (.func df) first capt) (oa:=oa) (ol:=ol) (m:=m) (oc:=oc) (tb:=tb) (o:=o) (db:=w.heap.size) (aa:=w.heap.size+1) (av:=w.heap.size+2) (by omega) (by omega) htb hth hta (fun w' l ib ob hD=>K w' l ib ob _ _ _ hD) n 0 (by omega) _ (.slice none 0 0) (fun _=>0) (fun _=>0) A2 ⟨by simp;omega,e1,?_,?_,?_,fun j hj=>by omega,fun j hj=>by omega,fun j hj=>by omega,⟨by omega,by omega,by omega⟩,World.ownsRow_nil _ _ _ _⟩ (by simpa using hA2)
 ·rw[o0 _ _ (by simp;omega),o0 _ _ (by simp)]
  exact heap_alloc_new _ _
 ·have:=heap_alloc_new (w.alloc (.cells #[.func (.func df) first capt] 74)) (.cells (madeCells #[.slice none 0 0] n) 55)
  rw[o0 _ _ (by simp)]
  simpa using this
 ·have:=heap_alloc_new ((w.alloc (.cells #[.func (.func df) first capt] 74)).alloc (.cells (madeCells #[.slice none 0 0] n) 55)) (.cells #[vL ((w.alloc (.cells #[.func (.func df) first capt] 74)).heap.size) 0 n n] 27)
  simpa using this
end
noncomputable section
variable {cs:List Frame}{main:Bool}{Stop:Goroutine→World→Prop}
variable{F:Fz}{w:World}
theorem j0A(a b c:Option Addr)(n m k l:Nat)(s:Bool):Tryd.prog.built 29 [(0,.slice a n m),(1,.slice b k l),(3,.bool s)]=some #[.slice a n m,.slice b k l,.slice none 0 0,.bool s]:=by kernel_rfl
@[go_sem] theorem r0V(a b:Option Addr)(n m k l:Nat)(s:Bool)(w:World):(Instr.build 29 #[(0,.slice a n m),(1,.slice b k l),(3,.bool s)]).run Tryd.prog w= .ok (.agg #[.slice a n m,.slice b k l,.slice none 0 0,.bool s]) w:=run_build w _ _ _ (j0A a b a n m k l s)
@[go_sem] theorem s04(a b:Option Addr)(n m k l:Nat)(s:Bool)(w:World)(es:Array Event):(Instr.build 29 #[(0,.slice a n m),(1,.slice b k l),(3,.bool s)]).events Tryd.prog w es=es:=E4 w es _ _ _ _ Tryd.underlying29 (j0A a b a n m k l s)
def trW(w:World)(tb:Nat)(a b c d:Value):World:=(((w.setCell ⟨tb,0,none⟩ a).setCell ⟨tb,1,none⟩ b).setCell ⟨tb,2,none⟩ c).setCell ⟨tb,3,none⟩ d
structure d6(w:World)(tb:Nat)(a b c d:Value):Prop where
 o:w.heap[tb]? =some (.cells #[a,b,c,d] 29 (0,0))
section
variable{tb:Nat}{a b c d:Value}
theorem d6.at(h:d6 w tb a b c d)(e:Nat):d6 (w.at e) tb a b c d:=⟨h.o⟩
theorem d6.c0(h:d6 w tb a b c d):w.cell? ⟨tb,0,none⟩=some a:=by simp[World.cell?,h.o]
theorem d6.c1(h:d6 w tb a b c d):w.cell? ⟨tb,1,none⟩=some b:=by simp[World.cell?,h.o]
theorem d6.c2(h:d6 w tb a b c d):w.cell? ⟨tb,2,none⟩=some c:=by simp[World.cell?,h.o]
theorem d6.c3(h:d6 w tb a b c d):w.cell? ⟨tb,3,none⟩=some d:=by simp[World.cell?,h.o]
theorem d6.z(h:d6 w tb a b c d)(k:Nat):w.frozen? ⟨tb,k,none⟩=false:=by simp[World.frozen?,h.o]
theorem d6.put(h:d6 w tb a b c d)(a' b' c' d':Value):d6 (trW w tb a' b' c' d') tb a' b' c' d':=by
 constructor
 unfold trW
 rw[Y1 (Y1 (Y1 (Y1 h.o _) _) _) _]
 rfl
end
def s6:Code:=Tryd.f28.body.getD .skip
def y0T:=pC [] s6
def w0P:=pC [zt] s6
def w0R:=pC [zf] s6
def n0H:=pC [zf,zt] s6
def p0B:=pC [zf] w0R
def k05:=pC [zf,zf,zt] s6
def p0C:=pC [zf] p0B
def w0Q:=pC [zf,zf,zf,zt] s6
theorem n0a(args:Array Value):Frame.enter Tryd.prog 28 args .normal=(Go.Conc.base 28).at {tmps:=args++Array.replicate (32 - args.size) undef,defers:=[]} [.code y0T]:=enter_at args Tryd.func28 rfl
theorem i0i:X0 28:=G1 Tryd.func28 rfl rfl
def opT(s:Nat→Value):Array Value:= #[s 0,s 1,s 2,s 3,s 4,s 5,s 6,s 7,s 8,s 9,s 10,s 11,s 12,s 13,s 14,s 15,s 16,s 17,s 18,s 19,s 20,s 21,s 22,s 23,s 24,s 25,s 26,s 27,s 28,s 29,s 30,s 31]
theorem y0P{A:Array Value}(h:A.size=32):∃s,A=opT s:=by
 obtain⟨s,hs,_⟩:=F3 A h
 exact⟨s,hs⟩
theorem y0Q{n:Nat}(hU:Q1 F n)(hn:n≤w.heap.size){ta sa:Option Addr}{tl tc sl sc:Nat}{dv:Value}{mo:Int}
 (h:∀A,D0 32 A [(0,.slice ta tl tc),(1,dv),(2,.slice sa sl sc),(3,vI mo),(8,vP w.heap.size 0)]→E0 Tryd.prog main F Stop (G (Frame.enter Tryd.prog 53 #[.slice ta tl tc,dv] .normal) ((bA 28 A [.inRegion (oC n0H) [2,3,4,5,6,7],.code p0B])::cs)) (w.alloc (.cells #[.slice none 0 0,.slice none 0 0,.slice none 0 0,.bool false] 29))):
 E0 Tryd.prog main F Stop (G (Frame.enter Tryd.prog 28 #[.slice ta tl tc,dv,.slice sa sl sc,vI mo] .normal) cs) w:=by
 rw[n0a]
 walk_nrm
 refine ogW w0P w0R ?_
 simp only[w0P,s6,Tryd.f28,zz,Nat.reduceAdd]
 refine oA hU ?_
 refine I0<|ogW n0H p0B ?_
 simp only[n0H,s6,Tryd.f28,zz,Nat.reduceAdd]
 iterate 2 refine oT ?_
 refine oc i0k #[.slice ta tl tc,dv] ?_
 refine h _ ?_
 exact⟨rfl,rfl,rfl,rfl,rfl,rfl,trivial⟩
theorem y0R{ta sa:Option Addr}{tl tc sl sc tb:Nat}{dv l an:Value}{mo:Int}{A:Array Value}(hA:D0 32 A [(0,.slice ta tl tc),(1,dv),(2,.slice sa sl sc),(3,vI mo),(8,vP tb 0)])
 (h:∀A,D0 32 A [(8,vP tb 0),(10,an)]→E0 Tryd.prog main F Stop (G (Frame.enter Tryd.prog 54 #[l,.slice sa sl sc,vI mo] .normal) ((bA 28 A [.inRegion (oC k05) [3,4,5,6,7,8,9,10],.code p0C])::cs)) w):
 E0 Tryd.prog main F Stop (G ((bA 28 A [.inRegion (oC n0H) [2,3,4,5,6,7],.code p0B]).finish (.tuple #[l,an])) cs) w:=by
 obtain⟨s,rfl,h0,h1,h2,h3,h8,_⟩:=D5 opT hA
 simp only[opT,h0,h1,h2,h3,h8]
 clear h0 h1 h2 h3 h8
 rw[Frame.finish_at]
 simp only[n0H,s6,Tryd.f28,zz,Nat.reduceAdd]
 walk_nrm
 iterate 5 refine oT ?_
 refine I0<|ogW k05 p0C ?_
 simp only[k05,s6,Tryd.f28,zz,Nat.reduceAdd]
 iterate 3 refine oT ?_
 refine oc i0l #[l,.slice sa sl sc,vI mo] ?_
 refine h _ ?_
 exact⟨rfl,rfl,rfl,trivial⟩
theorem y0S{tb:Nat}{x0 x1 x2 x3:Value}(hT:d6 w tb x0 x1 x2 x3)(hnh:∀k,¬held F ⟨tb,k,none⟩){aa oa:Option Addr}{al ac ol oc:Nat}{st:Bool}{bv:Value}{A:Array Value}(hA:D0 32 A [(8,vP tb 0),(10,.slice aa al ac)]){c:Frame}
 (h:E0 Tryd.prog main F Stop (G (c.finish (.agg #[.slice aa al ac,.slice oa ol oc,.slice none 0 0,.bool st])) cs) (trW w tb (.slice aa al ac) (.slice oa ol oc) (.slice none 0 0) (.bool st))):
 E0 Tryd.prog main F Stop (G ((bA 28 A [.inRegion (oC k05) [3,4,5,6,7,8,9,10],.code p0C]).finish (.tuple #[.slice oa ol oc,.bool st,bv])) (c::cs)) w:=by
 obtain⟨s,rfl,h8,h10,_⟩:=D5 opT hA
 simp only[opT,h8,h10]
 clear h8 h10
 rw[Frame.finish_at]
 simp only[k05,s6,Tryd.f28,zz,Nat.reduceAdd]
 walk_nrm
 iterate 7 refine oT ?_
 refine I0<|ogW w0Q .ret ?_
 simp only[w0Q,s6,Tryd.f28,zz,Nat.reduceAdd]
 iterate 4 refine oT ?_
 (refine oW fun dd K hK=>?_;have hc0:=(hT.at dd).c0;have hc1:=(hT.at dd).c1;have hc2:=(hT.at dd).c2;have hc3:=(hT.at dd).c3;have hz0:=(hT.at dd).z;go_simp;refine hK _ _ ⟨⟨⟨0,g0Y (fun k=>hnh k) _ _ _ _⟩,fun e he=>by(have hm:=mem_listed he;clear he hK;simp[go_sem,storedEv,hc0,hc1,hc2,hc3,hz0]at hm;rcases hm with rfl|rfl|rfl|rfl<;>exact V0 _ _ ((fun k=>hnh k) _))⟩,?_⟩;clear hK K hc0 hc1 hc2 hc3 hz0;simp only[setCell_at'];refine E0.at ?_ dd)
 refine I0<|ogX ?_
 have hT2:=hT.put (.slice aa al ac) (.slice oa ol oc) (.slice none 0 0) (.bool st)
 change E0 _ _ _ _ _ (trW w tb (.slice aa al ac) (.slice oa ol oc) (.slice none 0 0) (.bool st))
 generalize trW w tb (.slice aa al ac) (.slice oa ol oc) (.slice none 0 0) (.bool st)=W at hT2 h ⊢
 have hc0:=hT2.c0
 have hc1:=hT2.c1
 have hc2:=hT2.c2
 have hc3:=hT2.c3
 have hz0:=hT2.z
 refine i2 (fn:=Tryd.f28) (v:=.agg #[.slice aa al ac,.slice oa ol oc,.slice none 0 0,.bool st]) rfl rfl Tryd.func28 (fun d=>by simp[results,Tryd.f28,go_sem,hc0,hc1,hc2,hc3,hz0]) (fun d e he=>by simp[results,Tryd.f28,go_sem,hc0,hc1,hc2,hc3,hz0]at he;rcases he with rfl|rfl|rfl|rfl<;>exact M0 _ _) ?_
 exact h
end
noncomputable section
variable{w w':World}{L:X9}
open Classical in
def IW(w:World)(N:Nat→Prop):Nat→Option Obj:=fun r=>if N r then none else match w.heap[r]? with
 | some (.cells c e z)=>some (.cells c e z)
 | _=>none
theorem t0h{N:Nat→Prop}{r:Nat}(h:N r):IW w N r=none:=if_pos h
theorem n0s{N:Nat→Prop}{r:Nat}{c:Array Value}{e:TypeId}{z:Nat×Nat}(h:¬N r)(ho:w.heap[r]? =some (.cells c e z)):IW w N r=some (.cells c e z):=by
 unfold IW
 rw[if_neg h,ho]
theorem p0s{N:Nat→Prop}{r:Nat}{o:Obj}(h:IW w N r=some o):¬N r∧w.heap[r]? =some o∧∃c e z,o= .cells c e z:=by
 unfold IW at h
 split at h
 ·cases h
 ·rename_i hm
  split at h
  ·rename_i c e z ho
   cases h
   exact⟨hm,ho,c,e,z,rfl⟩
  ·cases h
theorem e0k(n j:Nat)(h:j<n):(madeCells #[Value.slice none 0 0] n)[j]? =some (.slice none 0 0):=by
 simp[madeCells,h,Nat.mod_one]
theorem d0H(n:Nat)(v:Value):(madeCells #[v] n).size=n:=by
 simp[madeCells]
def x00(s0:L.S):OX L:=⟨s0,fun _=>⟨0,none,[],.slice none 0 0⟩⟩
theorem u0b{r:Nat}:¬TR (⟨0,none,[],.slice none 0 0⟩:Thr L) r:=by
 rintro(h|⟨a,ha,_⟩|⟨c,A,ab,h,_⟩)
 ·cases h
 ·cases ha
 ·cases h
def pOf(L:X9)(s0:L.S)(W:World)(n db aa av:Nat)(ib ob:Nat→Nat)(oa:Nat→Option Addr)(oc:Nat→Nat)(ops:Nat→List I6):Par:=
 ⟨n,aa,av,db,ib,ob,ops,oa,oc,IW W (fun r=>r=aa∨L.SR s0 r)⟩
theorem J4{s0:L.S}{W:World}{n db aa av:Nat}{ib ob:Nat→Nat}{oa:Nat→Option Addr}{oc:Nat→Nat}{ops:Nat→List I6}{r:Nat}{c:Array Value}{e:TypeId}{z:Nat×Nat}(h:¬(r=aa∨L.SR s0 r))(ho:W.heap[r]? =some (.cells c e z)):(pOf L s0 W n db aa av ib ob oa oc ops).I r=some (.cells c e z):=by
 exact n0s (w:=W) (N:=fun r=>r=aa∨L.SR s0 r) h ho
theorem h0h{s0:L.S}{W:World}{n db aa av:Nat}{ib ob:Nat→Nat}{oa:Nat→Option Addr}{oc:Nat→Nat}{ops:Nat→List I6}{r:Nat}{o:Obj}(h:(pOf L s0 W n db aa av ib ob oa oc ops).I r=some o):¬(r=aa∨L.SR s0 r)∧W.heap[r]? =some o∧∃c e z,o= .cells c e z:=by
 exact p0s (w:=W) (N:=fun r=>r=aa∨L.SR s0 r) h
theorem k0i{s0:L.S}{W:World}{n db aa av:Nat}{ib ob:Nat→Nat}{oa:Nat→Option Addr}{oc:Nat→Nat}{ops:Nat→List I6}{r:Nat}(h:r=aa∨L.SR s0 r):(pOf L s0 W n db aa av ib ob oa oc ops).I r=none:=by
 exact t0h (w:=W) (N:=fun r=>r=aa∨L.SR s0 r) h
section
variable{s0:L.S}{W w0:World}{n db aa av tb o tl:Nat}{ib ob:Nat→Nat}{oa:Nat→Option Addr}{ol oc m:Nat→Nat}{ops:Nat→List I6}{ta sa:Option Addr}{S:List Int}{l:Value}
theorem N9{dv:Value}(hL:L.Ok)(hsu:L.SU s0 w0)(hD:DI w0 n n db aa av dv oa m oc ib ob l W){r:Nat}{c:Array Value}{e:TypeId}{z:Nat×Nat}(ho:W.heap[r]? =some (.cells c e z))(h84:e≠55)(hr:w0.heap.size≤r):¬(r=aa∨L.SR s0 r):=by
 rintro(rfl|h)
 ·rw[hD.haa]at ho
  cases ho
  exact h84 rfl
 ·have:=hL.lS _ _ _ hsu h
  omega
theorem t05(hL:L.Ok)(hsu:L.SU s0 w0)(hI:Z8 w0 (L.SR s0) n tb o tl ta oa ol oc ops S sa)(hD:DI w0 n n db aa av (.func (.func L.df) L.first L.capt) oa (fun j=>(ops j).length) oc ib ob l W):(pOf L s0 W n db aa av ib ob oa oc ops).Ok L where
 cells:=fun r o h=>(h0h h).2.2
 len:=fun i hi=>by
  have:(ops i).length=min (ol i) 65536:=hI.hlen i hi
  show(ops i).length≤65536
  omega
 inI:=⟨by
  show(pOf L s0 W n db aa av ib ob oa oc ops).I av≠none
  rw[J4 (N9 hL hsu hD hD.hav (by decide) hD.new.2.2) hD.hav];simp,fun i hi=>by
  show(pOf L s0 W n db aa av ib ob oa oc ops).I (ib i)≠none
  rw[J4 (N9 hL hsu hD (hD.hib i hi) (by decide) (hD.lo i hi).1) (hD.hib i hi)];simp⟩
 av:=fun u hu=>⟨⟨_,_,hu _ _ (J4 (N9 hL hsu hD hD.hav (by decide) hD.new.2.2) hD.hav),rfl⟩,rfl⟩
 db:=fun u hu=>⟨⟨_,_,hu _ _ (J4 (N9 hL hsu hD hD.hdb (by decide) hD.new.1) hD.hdb),rfl⟩,rfl⟩
 ib:=fun u hu i hi=>⟨⟨_,_,hu _ _ (J4 (N9 hL hsu hD (hD.hib i hi) (by decide) (hD.lo i hi).1) (hD.hib i hi)),rfl⟩,rfl⟩
 ob:=fun u hu i hi=>⟨⟨_,_,hu _ _ (J4 (N9 hL hsu hD (hD.hob i hi) (by decide) (hD.lo i hi).2) (hD.hob i hi)),rfl⟩,rfl⟩
 op:=fun u hu i hi k x hx=>by
  obtain⟨opb,oo,h1,h2,f0,f1,f2,f3,g0,g1,g2,g3⟩:=hI.hop i hi k x hx
  obtain⟨c,e,z,ho⟩:=X4 f0
  simp only at ho
  have hlt:=(D4 ho)
  have hW:=(hD.old opb hlt).trans ho
  have hN:¬(opb=aa∨L.SR s0 opb):=by
   rintro(h|h)
   ·have:=hD.new.2.1;omega
   ·exact h2 h
  have hU:=hu _ _ (J4 hN hW)
  have e1:u.heap[opb]? =w0.heap[opb]?:=hU.trans ho.symm
  have ec:∀k,u.cell? ⟨opb,k,none⟩=w0.cell? ⟨opb,k,none⟩:=fun k=>by unfold World.cell?;simp only[e1]
  have ez:∀k,u.frozen? ⟨opb,k,none⟩=w0.frozen? ⟨opb,k,none⟩:=fun k=>by unfold World.frozen?;simp only[e1]
  exact⟨opb,oo,h1,(ec _).trans f0,(ec _).trans f1,(ec _).trans f2,(ec _).trans f3,(ez _).trans g0,(ez _).trans g1,(ez _).trans g2,(ez _).trans g3⟩
theorem n0J{g:S0}(hL:L.Ok)(hsu:L.SU s0 w0)(hD:DI w0 n n db aa av (.func (.func L.df) L.first L.capt) oa (fun j=>(ops j).length) oc ib ob l W):OU L (pOf L s0 W n db aa av ib ob oa oc ops) g (x00 s0) W where
 fix:=fun r o h=>(h0h h).2.1
 su:=hL.sS _ _ _ hsu hD.size fun r hr=>hD.old r (hL.lS _ _ _ hsu hr)
 arr:=⟨_,hD.haa,d0H _ _,fun i hi=>e0k _ _ hi⟩
 thr:=fun i hi=>⟨World.ownsRow_nil _ _ _ _,fun a ha=>(by cases ha),rfl,Nat.zero_le _,fun a ha=>(by cases ha),fun c A ab h=>(by cases h)⟩
 ts:=fun i hi r hr=>absurd hr u0b
 sa:=fun h=>by
  have:=hL.lS _ _ _ hsu h
  have h2:=hD.new.2.1
  show False
  have h3:(pOf L s0 W n db aa av ib ob oa oc ops).aa=aa:=rfl
  omega
 jj:=fun i hi c A ab h=>(by cases h)
 tt:=fun i j hi hj hne r hr=>absurd hr u0b
 inone:=by
  rintro r (h|h|⟨i,hi,h⟩)
  ·exact k0i (.inr h)
  ·exact k0i (.inl h)
  ·exact absurd h u0b
end
end
section
variable{An:O2}{w w':World}{L:X9}
theorem Z8.alloc{N:Nat→Prop}{n tb o tl:Nat}{ta:Option Addr}{oa:Nat→Option Addr}{ol oc:Nat→Nat}{ops:Nat→List I6}{S:List Int}{sa:Option Addr}(h:Z8 w N n tb o tl ta oa ol oc ops S sa)(ob:Obj):Z8 (w.alloc ob) N n tb o tl ta oa ol oc ops S sa:=by
 refine⟨h.hn,h.hta,fun hp=>by have:=h.htb hp;simp;omega,fun j hj=>?_,h.hlen,fun j hj k x hx=>?_,h.hsl,fun hp=>?_⟩
 ·obtain⟨h1,h2,h3⟩:=h.hth j hj
  exact⟨(C3 h1 ob).1,(C3 h1 ob).2.trans h2,h3⟩
 ·obtain⟨opb,oo,h1,h2,f0,f1,f2,f3,g0,g1,g2,g3⟩:=h.hop j hj k x hx
  exact⟨opb,oo,h1,h2,(C3 f0 ob).1,(C3 f1 ob).1,(C3 f2 ob).1,(C3 f3 ob).1,(C3 f0 ob).2.trans g0,(C3 f1 ob).2.trans g1,(C3 f2 ob).2.trans g2,(C3 f3 ob).2.trans g3⟩
 ·obtain⟨sb,so,c,e,z,h1,h2,h3,h4⟩:=h.hS hp
  exact⟨sb,so,c,e,z,h1,h2,(o0 _ _ (D4 h3)).trans h3,h4⟩
def Par.re(p:Par)(I:Nat→Option Obj):Par:=⟨p.n,p.aa,p.av,p.db,p.ib,p.ob,p.ops,p.oa,p.oc,I⟩
theorem e0e.re{p:Par}{I:Nat→Option Obj}{st i:Nat}{t:Thr L}(h:e0e L p st i t w):e0e L (p.re I) st i t w:=⟨h.row,h.au,h.al,h.kl,h.ar,h.call⟩
theorem OU.re{p:Par}{g:S0}{x:OX L}(h:OU L p g x w){I:Nat→Option Obj}(hI:∀r o,I r=some o→p.I r=some o):OU L (p.re I) g x w:=
 ⟨fun r o e=>h.fix r o (hI r o e),h.su,h.arr,fun i hi=>(h.thr i hi).re,h.ts,h.sa,h.jj,h.tt,fun r hr=>by
  cases e:I r with
  | none=>exact e
  | some o=>
    have:=h.inone r hr
    rw[hI r o e]at this
    cases this⟩
theorem l05(hL:L.Ok){s0:L.S}(hsu:L.SU s0 w){n tb o tl tc sc M:Nat}{mo:Int}{ta sa:Option Addr}{oa:Nat→Option Addr}{ol oc:Nat→Nat}{ops:Nat→List I6}{S:List Int}(hI:Z8 w (L.SR s0) n tb o tl ta oa ol oc ops S sa)(hM:min (max mo 0) 1048576=(M:Int)){c:Frame}{cs:List Frame}{Stop:Goroutine→World→Prop}
 (hk:∀(g:S0) (p p':Par) (t:OX L×List Nat) (w':World) (oa':Option Addr) (oc':Nat),g.n=n→p.n=n→p.ops=ops→(I1 L p g).Ok g→a0S (I1 L p g) n M S (x00 s0) t→p'.n=n→p'.ops=ops→p'.aa=p.aa→OU L p' g t.1 w'→
   w'.ownsRow w.heap.size 3 1 (.slice oa' t.2.length oc') t.2.length (t.2.map fun i:Nat=>Value.int .i64 i)→(∀y,oa'=some y→¬OR L p' t.1 y.block)→w.heap.size≤w'.heap.size→(∀r c e z,w.heap[r]? =some (.cells c e z)→¬L.SR s0 r→w'.heap[r]? =some (.cells c e z))→(∀r c e z,w.heap[r]? =some (.cells c e z)→¬L.SR s0 r→p'.I r≠none)→
   Bes An Tryd.prog Stop (G (c.finish (.agg #[vL p.aa 0 n n,.slice oa' t.2.length oc',.slice none 0 0,.bool (decide (0<y5 ((I1 L p g).liv t.1) n))])) cs) w'):
 Bes An Tryd.prog Stop (G (Frame.enter Tryd.prog 28 #[.slice ta tl tc,.func (.func L.df) L.first L.capt,.slice sa S.length sc,vI mo] .normal) (c::cs)) w:=by
 have hw0:∀r,r<w.heap.size→(w.alloc (.cells #[.slice none 0 0,.slice none 0 0,.slice none 0 0,.bool false] 29)).heap[r]? =w.heap[r]?:=fun r hr=>o0 _ _ hr
 have hs0:(w.alloc (.cells #[.slice none 0 0,.slice none 0 0,.slice none 0 0,.bool false] 29)).heap.size=w.heap.size+1:=by simp
 have htr:d6 (w.alloc (.cells #[.slice none 0 0,.slice none 0 0,.slice none 0 0,.bool false] 29)) w.heap.size (.slice none 0 0) (.slice none 0 0) (.slice none 0 0) (.bool false):=⟨heap_alloc_new _ _⟩
 have hI0:=hI.alloc (.cells #[.slice none 0 0,.slice none 0 0,.slice none 0 0,.bool false] 29)
 refine W5 (F:=F0) (Stop:=fun a u=>∃A l ib ob db aa av,a=G (Frame.enter Tryd.prog 54 #[l,.slice sa S.length sc,vI mo] .normal) ((bA 28 A [.inRegion (oC k05) [3,4,5,6,7,8,9,10],.code p0C])::c::cs)∧
  DI (w.alloc (.cells #[.slice none 0 0,.slice none 0 0,.slice none 0 0,.bool false] 29)) n n db aa av (.func (.func L.df) L.first L.capt) oa (fun j=>(ops j).length) oc ib ob l u∧D0 32 A [(8,vP w.heap.size 0),(10,vL aa 0 n n)])
  (y0Q K1 (Nat.zero_le _) fun A hA=>l0b hI0.hn hI0.htb (fun j hj=>⟨(hI0.hth j hj).1,(hI0.hth j hj).2.1,(hI0.hth j hj).2.2,(hI0.hlen j hj).symm⟩) hI0.hta fun w1 l ib ob db aa av hD=>y0R hA fun A2 hA2=>.stop fun d=>⟨A2,l,ib,ob,db,aa,av,rfl,hD.same (Nat.le_refl _) fun _ _=>rfl,hA2⟩) fun a W hS=>?_
 obtain⟨A,l,ib,ob,db,aa,av,rfl,hD,hA⟩:=hS
 generalize w.alloc (.cells #[.slice none 0 0,.slice none 0 0,.slice none 0 0,.bool false] 29)=w0 at hw0 hs0 htr hI0 hD
 have hsu0:L.SU s0 w0:=hL.sS _ _ _ hsu (by omega) fun r hr=>hw0 r (hL.lS _ _ _ hsu hr)
 have hpok:=t05 hL hsu0 hI0 hD
 have hn64:n≤64:=by have:=hI.hn;omega
 have hU1:∀g,OU L (pOf L s0 W n db aa av ib ob oa oc ops) g (x00 s0) W:=fun g=>n0J hL hsu0 hD
 have hsrlt:∀r,L.SR s0 r→r<w.heap.size:=fun r hr=>hL.lS _ _ _ hsu hr
 have hDs:=hD.size
 have hDn:=hD.new
 obtain⟨la,lc,rfl,hla⟩:∃la lc,l= .slice la n lc∧(0<n→∃lb cur,la=some ⟨lb,0,none⟩∧w0.heap.size≤lb∧W.heap[lb]? =some (.cells cur 108 (0,0))∧cur.toList.take n=(List.range n).map fun j=>a02 (ob j) db (ib j) av):=by
  rcases hD.row.2 with⟨h1,h2⟩|⟨b,cap,cur,h1,h2,h3,h4,h5,h6,h7⟩
  ·exact⟨none,0,by rw[h1,h2],fun h=>by omega⟩
  ·exact⟨_,cap,h1,fun _=>⟨b,cur,rfl,h2,h3,by simpa using h7⟩⟩
 have hnm:∀r c e z,W.heap[r]? =some (.cells c e z)→e≠55→¬L.SR s0 r→(pOf L s0 W n db aa av ib ob oa oc ops).I r=some (.cells c e z):=fun r c e z h1 h2 h3=>J4 (by
  rintro(rfl|h)
  ·rw[hD.haa]at h1
   cases h1
   exact h2 rfl
  ·exact h3 h) h1
 have hnA:∀r c e z,W.heap[r]? =some (.cells c e z)→r≠aa→¬L.SR s0 r→(pOf L s0 W n db aa av ib ob oa oc ops).I r=some (.cells c e z):=fun r c e z h1 h2 h3=>J4 (fun h=>h.elim h2 h3) h1
 have hnewS:∀r,w0.heap.size≤r→¬L.SR s0 r:=fun r hr h=>by have:=hsrlt r h;omega
 have hthr:∃lb,(0<n→la=some ⟨lb,0,none⟩)∧∀g:S0,b00 (I1 L (pOf L s0 W n db aa av ib ob oa oc ops) g) lb 0 ((List.range n).map fun j=>.func (.func 63) #[] ((I1 L (pOf L s0 W n db aa av ib ob oa oc ops) g).cap j)):=by
  by_cases h0:0<n
  ·obtain⟨lb,cur,h1,h2,h3,h4⟩:=hla h0
   refine⟨lb,fun _=>h1,fun g=>⟨cur,108,(0,0),hnm lb _ _ _ h3 (by decide) (hnewS lb h2),fun k u hku=>⟨?_,by simp⟩⟩⟩
   have hku:((List.range n).map fun j=>a02 (ob j) db (ib j) av)[k]? =some u:=hku
   rw[← h4]at hku
   have hkn:k<n:=by
    have:=(List.getElem?_eq_some_iff.1 hku).1
    rw[List.length_take]at this
    omega
   rw[List.getElem?_take_of_lt hkn]at hku
   simpa using hku
  ·refine⟨av,fun h=>absurd h h0,fun g=>⟨_,_,_,hnm av _ _ _ hD.hav (by decide) (hnewS av hDn.2.2),fun k u hku=>?_⟩⟩
   have:n=0:=by omega
   rw[this]at hku
   simp at hku
 obtain⟨lb,hlb,hrow⟩:=hthr
 have hsch:∃sb so,(0<S.length→sa=some ⟨sb,so,none⟩)∧∀g:S0,b00 (I1 L (pOf L s0 W n db aa av ib ob oa oc ops) g) sb so (S.map fun i:Int=>Value.int .i64 i):=by
  by_cases h0:0<S.length
  ·obtain⟨sb,so,cc,e,z,h1,h2,h3,h4⟩:=hI0.hS h0
   have hlt:=(D4 h3)
   refine⟨sb,so,fun _=>h1,fun g=>⟨cc,e,z,hnA sb _ _ _ ((hD.old sb hlt).trans h3) (by omega) h2,h4⟩⟩
  ·refine⟨av,0,fun h=>absurd h h0,fun g=>⟨_,_,_,hnm av _ _ _ hD.hav (by decide) (hnewS av hDn.2.2),fun k u hku=>?_⟩⟩
   have:S=[]:=List.length_eq_zero_iff.1 (by omega)
   rw[this]at hku
   simp at hku
 obtain⟨sb,so,hsb,hsrow⟩:=hsch
 have htrI:(pOf L s0 W n db aa av ib ob oa oc ops).I w.heap.size=some (.cells #[.slice none 0 0,.slice none 0 0,.slice none 0 0,.bool false] 29 (0,0)):=
  hnm _ _ _ _ ((hD.old _ (by omega)).trans htr.o) (by decide) fun h=>by have:=hsrlt _ h;omega
 refine l06 (Z:=fun g=>I1 L (pOf L s0 W n db aa av ib ob oa oc ops) g) (x0:=fun g=>x00 s0) (tb:=lb) (so:=so) (sb:=sb) hn64 hM hI.hsl (fun g hg _=>n0I hL hpok hg) (fun g w2 _ h1 h2=>OU.stable hL (hU1 g) h1 fun r hr=>?_) (fun g hg j hj=>⟨rfl,rfl⟩) (fun g r hr=>OU.low (g:=g) hL (hU1 g) hr) (fun g r hr=>⟨R7 (p:=pOf L s0 W n db aa av ib ob oa oc ops) (hU1 g).fix hr,fun h=>hr ((hU1 g).inone r h)⟩) hlb (fun g _=>hrow g) hsb (fun g _=>hsrow g) ?_
 ·have hlt:r<W.heap.size:=hr.elim (OU.low hL (hU1 g)) (R7 (hU1 g).fix)
  rw[h2 r _ (Array.getElem?_eq_getElem hlt),Array.getElem?_eq_getElem hlt]
 ·intro g t u oa' oc' bv hg hrel hU hord hnR hsz
  have hU:OU L (pOf L s0 W n db aa av ib ob oa oc ops) g t.1 u:=hU
  have hT:d6 u w.heap.size (.slice none 0 0) (.slice none 0 0) (.slice none 0 0) (.bool false):=⟨hU.fix _ _ htrI⟩
  refine W5 (F:=F0) (Stop:=fun a u2=>a=G (c.finish (.agg #[vL aa 0 n n,.slice oa' t.2.length oc',.slice none 0 0,.bool (decide (0<y5 ((I1 L (pOf L s0 W n db aa av ib ob oa oc ops) g).liv t.1) n))])) cs∧∃d,u2=(trW u w.heap.size (vL aa 0 n n) (.slice oa' t.2.length oc') (.slice none 0 0) (.bool (decide (0<y5 ((I1 L (pOf L s0 W n db aa av ib ob oa oc ops) g).liv t.1) n)))).at d)
   (y0S hT (fun k h=>by obtain⟨z,hz,_⟩:=h;cases hz) hA (.stop fun d=>⟨rfl,d,rfl⟩)) fun a u2 ⟨ha,d,hu2⟩=>?_
  subst ha
  subst hu2
  have hne:∀r,r≠w.heap.size→((trW u w.heap.size (vL aa 0 n n) (.slice oa' t.2.length oc') (.slice none 0 0) (.bool (decide (0<y5 ((I1 L (pOf L s0 W n db aa av ib ob oa oc ops) g).liv t.1) n)))).at d).heap[r]? =u.heap[r]?:=fun r hr=>by
   show(trW _ _ _ _ _ _).heap[r]? =_
   unfold trW
   rw[m0 _ _ _ hr,m0 _ _ _ hr,m0 _ _ _ hr,m0 _ _ _ hr]
  have hsz2:((trW u w.heap.size (vL aa 0 n n) (.slice oa' t.2.length oc') (.slice none 0 0) (.bool (decide (0<y5 ((I1 L (pOf L s0 W n db aa av ib ob oa oc ops) g).liv t.1) n)))).at d).heap.size=u.heap.size:=by
   show(trW _ _ _ _ _ _).heap.size=_
   unfold trW
   simp
  generalize (trW u w.heap.size (vL aa 0 n n) (.slice oa' t.2.length oc') (.slice none 0 0) (.bool (decide (0<y5 ((I1 L (pOf L s0 W n db aa av ib ob oa oc ops) g).liv t.1) n)))).at d=V at hne hsz2 ⊢
  let I':Nat→Option Obj:=fun r=>if r=w.heap.size then none else(pOf L s0 W n db aa av ib ob oa oc ops).I r
  have hI':∀r o,I' r=some o→r≠w.heap.size∧(pOf L s0 W n db aa av ib ob oa oc ops).I r=some o:=fun r o h=>by
   by_cases e:r=w.heap.size
   ·simp[I',e]at h
   ·exact⟨e,by simpa [I',e]using h⟩
  have htrR:¬OR L (pOf L s0 W n db aa av ib ob oa oc ops) t.1 w.heap.size:=fun h=>by
   have:=hU.inone _ h
   rw[htrI]at this
   cases this
  have hU2:OU L ((pOf L s0 W n db aa av ib ob oa oc ops).re I') g t.1 u:=hU.re fun r o h=>(hI' r o h).2
  refine hk g (pOf L s0 W n db aa av ib ob oa oc ops) ((pOf L s0 W n db aa av ib ob oa oc ops).re I') t V oa' oc' hg rfl rfl (n0I hL hpok hg) hrel rfl rfl rfl (hU2.stable hL (by omega) fun r hr=>hne r ?_) ?_ hnR (by omega) (fun r cc e z hr hnS=>?_) fun r cc e z hr hnS=>?_
  ·rintro rfl
   rcases hr with hr|hr
   ·exact htrR hr
   ·cases e:I' w.heap.size with
    | none=>exact hr e
    | some o=>exact(hI' _ _ e).1 rfl
  ·refine C4 (by omega) (E1 hord fun b hb hbn=>hne b (by omega))
  ·have hlt:=(D4 hr)
   rw[hne r (by omega)]
   exact hU.fix _ _ (hnA r _ _ _ ((hD.old r (by omega)).trans ((hw0 r hlt).trans hr)) (by omega) hnS)
  ·have hlt:=(D4 hr)
   have h1:=hnA r _ _ _ ((hD.old r (by omega)).trans ((hw0 r hlt).trans hr)) (by omega) hnS
   show I' r≠none
   simp only[I']
   rw[if_neg (by omega),h1]
   simp
end
section
variable{F:Fz}{w:World}
theorem neq_nn106(w:World):(binOp .neq 106 .nilIface .nilIface).run Tryd.prog w= .ok (.bool false) w:=by kernel_rfl
theorem neq_nn106e(w:World)(es:Array Event):(binOp .neq 106 .nilIface .nilIface).events Tryd.prog w es=es:=by kernel_rfl
attribute [go_sem] neq_nn106 neq_nn106e
theorem D8{c:Frame}{cs:List Frame}{main:Bool}{Stop:Goroutine→World→Prop}
 (h:E0 Tryd.prog main F Stop (G (c.finish (.tuple #[])) cs) w):
 E0 Tryd.prog main F Stop (G (Frame.enter Tryd.prog 48 #[.nilIface] .normal) (c::cs)) w:=by
 rw[e05]
 walk_nrm
 refine ogW k0k r0T ?_
 simp only[k0k,x7,Tryd.f48,zz,Nat.reduceAdd]
 iterate 2 refine oT ?_
 refine I0<|ogGn .skip<|ogK ?_
 refine G0 rfl (fun d=>stepG_end) ?_
 refine G0 rfl (fun d=>stepG_leave (fn:=Tryd.f48) (v:=.tuple #[]) rfl rfl Tryd.func48 (by simp[results,Tryd.f48]) (by simp[results,Tryd.f48,go_sem])) ?_
 exact h
end
section
variable{F:Fz}{w w':World}
theorem p0D{x:BitVec 64}{i:Nat}(h:x.getLsbD (i % 64)=true):x ||| bitI i=x:=by
 apply BitVec.eq_of_getLsbD_eq
 intro j hj
 rw[BitVec.getLsbD_or,N7]
 by_cases e:j=i % 64
 ·subst e;simp[h]
 ·simp[e]
theorem t0t{x:BitVec 64}{i:Nat}(h:x.getLsbD (i % 64)=false):x ^^^ bitI i=x ||| bitI i:=by
 apply BitVec.eq_of_getLsbD_eq
 intro j hj
 rw[BitVec.getLsbD_or,BitVec.getLsbD_xor,N7]
 by_cases e:j=i % 64
 ·subst e;simp[h]
 ·simp[e]
def a0U(w:World)(wb:Nat)(ws:List (BitVec 64)):Prop:=w.heap[wb]? =some (.cells ((ws.map fun x=>wV x).toArray) 113 (0,0))
theorem a0U.c{wb:Nat}{ws:List (BitVec 64)}(h:a0U w wb ws){k:Nat}(hk:k<ws.length):w.cell? ⟨wb,k,none⟩=some (wV (ws.getD k 0#64)):=by
 have h:w.heap[wb]? =_:=h
 simp[World.cell?,h,hk]
theorem a0U.z{wb:Nat}{ws:List (BitVec 64)}(h:a0U w wb ws)(k:Nat):w.frozen? ⟨wb,k,none⟩=false:=by
 have h:w.heap[wb]? =_:=h
 simp[World.frozen?,h]
theorem a0U.set{wb:Nat}{ws:List (BitVec 64)}(h:a0U w wb ws)(k:Nat)(z:BitVec 64):a0U (w.setCell ⟨wb,k,none⟩ (wV z)) wb (ws.set k z):=by
 show(w.setCell ⟨wb,k,none⟩ (wV z)).heap[wb]? =_
 rw[Y1 (o:=k) h (wV z)]
 congr 2
 simp[List.map_set]
theorem h0f{n m lb wb i:Nat}{ws:List (BitVec 64)}(hs:BH lb wb n m w)(hw:a0U w wb ws)(hl:ws.length=m)(hi:i<n)(hnh:∀k,¬held F ⟨wb,k,none⟩){c:Frame}{cs:List Frame}{main:Bool}{Stop:Goroutine→World→Prop}
 (K:∀b w',w'.heap.size=w.heap.size→(∀r,r≠wb→w'.heap[r]? =w.heap[r]?)→a0U w' wb (ws.set (i / 64) (ws.getD (i / 64) 0#64 ||| bitI i))→E0 Tryd.prog main F Stop (G (c.finish (.tuple #[.bool b,vI 0])) cs) w'):
 E0 Tryd.prog main F Stop (G (Frame.enter Tryd.prog 18 #[vP lb 0,.nilIface,vI (i:Nat)] .normal) (c::cs)) w:=by
 have hk:i / 64<ws.length:=by rw[hl,hs.hm];omega
 have hc:=hw.c hk
 refine o0m fun A1 hA1=>?_
 refine s0P hs hi fun A hA=>D8 ?_
 cases e:(ws.getD (i / 64) 0#64).getLsbD (i % 64)with
 | true=>
   refine m0L hc ((b0H _ _).trans e) rfl hA (c0w hA1 (K false w rfl (fun _ _=>rfl) ?_))
   rw[p0D e]
   have:ws.set (i / 64) (ws.getD (i / 64) 0#64)=ws:=by
    rw[List.getD_eq_getElem?_getD,List.getElem?_eq_getElem hk]
    simp
   rw[this]
   exact hw
 | false=>
   refine m0M hc ((b0H _ _).trans e) rfl hA fun A' hA'=>D8 ?_
   refine m0N (b0Z _ (bitI i)) ((a0g _ _).trans (decide_eq_true rfl)) hc (hw.z _) (hnh _) hA' (c0w hA1 (K true _ (by simp) (fun r hr=>m0 _ _ _ hr) ?_))
   rw[t0t e]
   exact hw.set _ _
end
noncomputable section
variable{F:Fz}{w:World}
theorem j0S:∃i z,Tryd.prog.info? 113=some i∧i.zero=some z∧i.size=1∧i.bytes=8∧z.cells= #[.int .u64 0]:=by
 obtain⟨i,hi,h⟩:=Option.map_eq_some_iff.1 (show(Tryd.prog.info? 113).map (fun i=>(i.zero.map Value.cells,i.size,i.bytes))=some (some #[.int .u64 0],1,8)by kernel_rfl)
 simp only[Prod.mk.injEq]at h
 obtain⟨z,hz,hc⟩:=Option.map_eq_some_iff.1 h.1
 exact⟨i,z,hi,hz,h.2.1,h.2.2,hc⟩
theorem y0M{m:Nat}(hm:m≤1024)(w:World):(Instr.makeSlice 60 (vI (m:Nat)) (vI (m:Nat))).run Tryd.prog w= .ok (vL w.heap.size 0 m m) (w.alloc (.cells (madeCells #[.int .u64 0] m) 113)):=by
 obtain⟨i,z,hi,hz,hs,hb,hc⟩:=j0S
 have:=run_make (P:=Tryd.prog) w 60 113 i _ Tryd.underlying60 hi hz .i64 .i64 m m (by omega) (by omega) (by rw[hb];omega) (by omega)
 rw[hs,hc]at this
 simpa using this
theorem r0v{m:Nat}(hm:m≤1024)(w:World)(es:Array Event):(Instr.makeSlice 60 (vI (m:Nat)) (vI (m:Nat))).events Tryd.prog w es=es:=by
 obtain⟨i,z,hi,hz,hs,hb,hc⟩:=j0S
 exact events_make (P:=Tryd.prog) w 60 113 i _ Tryd.underlying60 hi hz .i64 .i64 m m (by omega) (by omega) (by rw[hb];omega) (by omega) (by rw[hb];simp;omega) es
theorem g0M(n:Int)(a:Option Addr)(l c:Nat):Tryd.prog.built 62 [(0,vI n),(1,.slice a l c)]=some #[vI n,.slice a l c]:=by kernel_rfl
@[go_sem] theorem r0X(n:Int)(a:Option Addr)(l c:Nat)(w:World):(Instr.build 62 #[(0,vI n),(1,.slice a l c)]).run Tryd.prog w= .ok (.agg #[vI n,.slice a l c]) w:=run_build w _ _ _ (g0M n a l c)
@[go_sem] theorem s06(n:Int)(a:Option Addr)(l c:Nat)(w:World)(es:Array Event):(Instr.build 62 #[(0,vI n),(1,.slice a l c)]).events Tryd.prog w es=es:=E4 w es _ _ _ _ Tryd.underlying62 (g0M n a l c)
def p7:Code:=Tryd.f11.body.getD .skip
def u0W:=pC [] p7
def q0H:=pC [zt] p7
def m0t:=pC [zf] p7
def q0K:=pC [zt] m0t
def q0I:=pC [zf,zt,zt] p7
def q0G:=pC [zf] q0K
def y05:=pC [zt] q0G
def u0X:=pC [zf] m0t
def q0J:=pC [zf,zf,zt] p7
theorem k0P(args:Array Value):Frame.enter Tryd.prog 11 args .normal=(Go.Conc.base 11).at {tmps:=args++Array.replicate (17 - args.size) undef,defers:=[]} [.code u0W]:=enter_at args Tryd.func11 rfl
theorem d0i:X0 11:=G1 Tryd.func11 rfl rfl
theorem n08{n m nn:Nat}(hU:Q1 F nn)(hn:nn≤w.heap.size)(hn6:n≤65536)(hm:m=(n+63) / 64){c:Frame}{cs:List Frame}{main:Bool}{Stop:Goroutine→World→Prop}
 (h:E0 Tryd.prog main F Stop (G (c.finish (.tuple #[vP (w.heap.size+1) 0,vI 0])) cs) ((w.alloc (.cells (madeCells #[.int .u64 0] m) 113)).alloc (.cells #[vI (n:Nat),vL w.heap.size 0 m m] 62))):
 E0 Tryd.prog main F Stop (G (Frame.enter Tryd.prog 11 #[vI (n:Nat)] .normal) (c::cs)) w:=by
 have hm1:m≤1024:=by omega
 have e0:decide ((n:Int)<0)=false:=decide_eq_false (by omega)
 have e1:decide ((65536:Int)<(n:Int))=false:=decide_eq_false (by omega)
 have e2:decide (65536<n)=false:=decide_eq_false (by omega)
 have w1:IntKind.i64.wrap ((n:Int)+63)=(n:Int)+63:=IntWalk.i64_in _ (by omega)
 have w2:IntKind.i64.wrap (((n:Int)+63).tdiv 64)=(m:Int):=by
  rw[Int.tdiv_eq_ediv_of_nonneg (by omega),IntWalk.i64_in _ (by omega)]
  omega
 clear hm
 have hk:=y0M hm1
 have hke:=r0v hm1
 rw[k0P]
 walk_nrm
 refine ogW q0H m0t ?_
 simp only[q0H,p7,Tryd.f11,zz,Nat.reduceAdd]
 iterate 2 refine oT ?_
 refine I0<|ogV q0K u0X<|ogW q0I q0G ?_
 simp only[q0I,p7,Tryd.f11,zz,Nat.reduceAdd]
 iterate 6 refine oT ?_
 refine I0<|ogGn .skip<|ogK<|ogW q0J .ret ?_
 simp only[q0J,p7,Tryd.f11,zz,Nat.reduceAdd]
 iterate 4 refine oT ?_
 (refine oW fun dd K hK=>?_;go_simp;refine hK _ _ ⟨⟨⟨0,L0 hU (by first|(simp[go_sem];done)|(simp[go_sem];omega)) _⟩,fun e he=>by(have hm:=mem_listed he;clear he hK;simp[go_sem,r0v hm1,storedEv]at hm)⟩,?_⟩;clear hK K;rw[alloc_at'];refine E0.at ?_ dd)
 refine oT ?_
 refine oA hU ?_
 iterate 2 refine oT ?_
 refine I0<|ogX ?_
 refine G0 rfl (fun d=>stepG_leave (fn:=Tryd.f11) (v:=.tuple #[vP (w.heap.size+1) 0,vI 0]) rfl rfl Tryd.func11 (by simp[results,Tryd.f11]) (by simp[results,Tryd.f11,go_sem])) ?_
 exact h
end
noncomputable section
variable{F:Fz}{w:World}
theorem r0t:∃i,Tryd.prog.info? 2=some i∧i.size=1:=by
 obtain⟨i,hi,h⟩:=Option.map_eq_some_iff.1 (show(Tryd.prog.info? 2).map (·.size)=some 1 by kernel_rfl)
 exact⟨i,hi,h⟩
theorem u0a{b o l vc:Nat}(h:l+1≤vc)(w:World):(Instr.sliceAt 22 (vL b o (l+1) vc) (some (vI 1)) none none).run Tryd.prog w= .ok (vL b (if vc=1 then o else o+1) l (vc - 1)) w:=by
 obtain⟨i,hi,hs⟩:=r0t
 have hu:Tryd.prog.underlying 22=some (.slice 2):=Tryd.underlying22
 have h1:(1:Int)≤(l:Int)+1:=by omega
 have h2:(l:Int)+1≤(vc:Int):=by omega
 simp[Instr.sliceAt,Instr.slice,run_underlying hu,Instr.sliceBounds,run_sliceBound,sizeOf,typeInfo,hi,hs,h,h1,h2,Addr.add]
 by_cases e:vc=1<;>simp[e]
theorem p0V{b o l vc:Nat}(h:l+1≤vc)(w:World)(es:Array Event):(Instr.sliceAt 22 (vL b o (l+1) vc) (some (vI 1)) none none).events Tryd.prog w es=es:=by
 obtain⟨i,hi,hs⟩:=r0t
 have hu:Tryd.prog.underlying 22=some (.slice 2):=Tryd.underlying22
 have h1:(1:Int)≤(l:Int)+1:=by omega
 have h2:(l:Int)+1≤(vc:Int):=by omega
 simp[Instr.sliceAt,Instr.slice,run_underlying hu,Instr.sliceBounds,Instr.sliceBound,asIntOf,run_sliceBound,sizeOf,typeInfo,hi,hs,h,h1,h2]
def Z0:Code:=Tryd.f27.body.getD .skip
def u0S:=pC [] Z0
def j0n:=pC [zt] Z0
def m0h:=pC [zf] Z0
def j0o:=pC [zf,zt] Z0
def j0r:=pC [zf] m0h
def m0j:=pC [zt] j0r
def j0p:=pC [zf,zf,zt,zt] Z0
def i0a:=pC [zf] m0j
def u0T:=pC [zt] i0a
def q0v:=pC [zf,zf,zt,zf,zt,zt] Z0
def j0q:=pC [zf,zf,zt,zf,zt,zf] Z0
def m0k:=pC [zf] j0r
def a00:=pC [zf,zf,zf,zt] Z0
def c0f:=pC [zf] m0k
def q0x:=pC [zt] c0f
def q0w:=pC [zf,zf,zf,zf,zt,zt] Z0
def m0d:=pC [zf] q0x
def m0e:=pC [zt] m0d
def n7:=pC [zt] m0e
def M4:=pC [zf,zf,zf,zf,zt,zf,zt,zt,zt] Z0
def N4:=pC [zf] n7
def f0I:=pC [zt] N4
def d0d:=pC [zf] N4
def g0x:=pC [zt] d0d
def m0i:=pC [zt] g0x
def e0R:=pC [zf,zf,zf,zf,zt,zf,zt,zt,zf,zf,zt,zt,zt] Z0
def f0K:=pC [zf] m0i
def e0S:=pC [zf,zf,zf,zf,zt,zf,zt,zt,zf,zf,zt,zt,zf,zt] Z0
def i0b:=pC [zf] f0K
def a0t:=pC [zf,zf,zf,zf,zt,zf,zt,zt,zf,zf,zt,zt,zf,zf,zt] Z0
def F7:=pC [zf,zf,zf,zf,zt,zf,zt,zt,zf,zf,zf] Z0
def e6:=pC [zf] c0f
def m0f:=pC [zf,zf,zf,zf,zf,zt] Z0
def s0D:=pC [zf] e6
def m0g:=pC [zf,zf,zf,zf,zf,zf,zt] Z0
theorem s0C:j0q= .region 4 (oC j0q) false:=by kernel_rfl
theorem s0A:m0d= .block 0 m0e:=by kernel_rfl
theorem s0B:m0e= .loop n7:=by kernel_rfl
theorem z0G:n7= .seq M4 N4:=by kernel_rfl
theorem z0D:M4= .region 7 (oC M4) false:=by kernel_rfl
theorem z0z:N4= .seq f0I d0d:=by kernel_rfl
theorem z0x:f0I= .cond (.tmp 28) .skip (.exit 0):=by kernel_rfl
theorem z0A:d0d= .seq g0x F7:=by kernel_rfl
theorem h09:g0x= .block 1 m0i:=by kernel_rfl
theorem z0B:m0i= .seq e0R f0K:=by kernel_rfl
theorem z0E:e0R= .region 8 (oC e0R) false:=by kernel_rfl
theorem z0C:f0K= .seq e0S i0b:=by kernel_rfl
theorem z0F:e0S= .region 9 (oC e0S) false:=by kernel_rfl
theorem z0y:i0b= .cond (.tmp 37) a0t .skip:=by kernel_rfl
theorem o0Z:a0t= .region 10 (oC a0t) false:=by kernel_rfl
theorem f0J:F7= .region 11 (oC F7) false:=by kernel_rfl
theorem e03(args:Array Value):Frame.enter Tryd.prog 27 args .normal=(Go.Conc.base 27).at {tmps:=args++Array.replicate (51 - args.size) undef,defers:=[]} [.code u0S]:=enter_at args Tryd.func27 rfl
theorem i0h:X0 27:=G1 Tryd.func27 rfl rfl
def b0E(s:Nat→Value):Array Value:= #[s 0,s 1,s 2,s 3,s 4,s 5,s 6,s 7,s 8,s 9,s 10,s 11,s 12,s 13,s 14,s 15,s 16,s 17,s 18,s 19,s 20,s 21,s 22,s 23,s 24,s 25,s 26,s 27,s 28,s 29,s 30,s 31,s 32,s 33,s 34,s 35,s 36,s 37,s 38,s 39,s 40,s 41,s 42,s 43,s 44,s 45,s 46,s 47,s 48,s 49,s 50]
theorem x0T{A:Array Value}(h:A.size=51):∃s,A=b0E s:=by
 obtain⟨s,hs,_⟩:=F3 A h
 exact⟨s,hs⟩
theorem w0D{va:Option Addr}{vc:Nat}{cs:List Frame}{main:Bool}{Stop:Goroutine→World→Prop}
 (h:∀A,D0 51 A [(0,.slice va 0 vc),(4,vI 0)]→E0 Tryd.prog main F Stop (G (Frame.enter Tryd.prog 11 #[vI 0] .normal) ((bA 27 A [.inRegion (oC a00) [1,2,3,4,5,6,7],.code c0f])::cs)) w):
 E0 Tryd.prog main F Stop (G (Frame.enter Tryd.prog 27 #[.slice va 0 vc] .normal) cs) w:=by
 rw[e03]
 walk_nrm
 refine ogW j0n m0h ?_
 simp only[j0n,Z0,Tryd.f27,zz,Nat.reduceAdd]
 iterate 2 refine oT ?_
 refine I0<|ogW j0o j0r ?_
 simp only[j0o,Z0,Tryd.f27,zz,Nat.reduceAdd]
 refine oT ?_
 refine I0<|ogV m0j m0k<|ogW j0p i0a ?_
 simp only[j0p,Z0,Tryd.f27,zz,Nat.reduceAdd]
 iterate 3 refine oT ?_
 refine I0<|ogGn .skip<|ogK<|ogW a00 c0f ?_
 simp only[a00,Z0,Tryd.f27,zz,Nat.reduceAdd]
 refine oT ?_
 refine oc d0i #[vI 0] ?_
 refine h _ ?_
 exact⟨rfl,rfl,rfl,trivial⟩
theorem y0H{vb vo l vc n:Nat}{v0:Int}(hc:w.cell? ⟨vb,vo,none⟩=some (vI v0))(hl:l+1≤vc)(hn:(if 65536<if v0<0 then 0 else v0 then 65536 else if v0<0 then 0 else v0)=(n:Int)){cs:List Frame}{main:Bool}{Stop:Goroutine→World→Prop}
 (h:∀A,D0 51 A [(0,vL vb (if vc=1 then vo else vo+1) l (vc - 1)),(4,vI (n:Nat))]→E0 Tryd.prog main F Stop (G (Frame.enter Tryd.prog 11 #[vI (n:Nat)] .normal) ((bA 27 A [.inRegion (oC a00) [1,2,3,4,5,6,7],.code c0f])::cs)) w):
 E0 Tryd.prog main F Stop (G (Frame.enter Tryd.prog 27 #[vL vb vo (l+1) vc] .normal) cs) w:=by
 have hd:decide ((0:Int)<(l:Int)+1)=true:=decide_eq_true (by omega)
 have hsl:=fun w=>u0a (b:=vb) (o:=vo) (l:=l) hl w
 have hsle:=fun w es=>p0V (b:=vb) (o:=vo) (l:=l) hl w es
 rw[e03]
 walk_nrm
 refine ogW j0n m0h ?_
 simp only[j0n,Z0,Tryd.f27,zz,Nat.reduceAdd]
 iterate 2 refine oT ?_
 refine I0<|ogW j0o j0r ?_
 simp only[j0o,Z0,Tryd.f27,zz,Nat.reduceAdd]
 refine oT ?_
 refine I0<|ogV m0j m0k<|ogW j0p i0a ?_
 simp only[j0p,Z0,Tryd.f27,zz,Nat.reduceAdd]
 iterate 3 refine oT ?_
 refine I0<|ogYn u0T<|ogW q0v j0q ?_
 simp only[q0v,Z0,Tryd.f27,zz,Nat.reduceAdd]
 refine oT ?_
 refine oX ?_
 refine oL ?_
 iterate 3 refine oT ?_
 refine I0 ?_
 rw[s0C]
 refine ogR ?_
 simp only[j0q,Z0,Tryd.f27,zz,Nat.reduceAdd]
 refine oT ?_
 (refine oW fun dd K hK=>?_;go_simp;refine hK _ _ ⟨⟨⟨0,i3.refl _ _⟩,fun e he=>by(have hm:=mem_listed he;clear he hK;simp[go_sem,hsle]at hm)⟩,E0.at ?_ dd⟩;clear hK K)
 refine oT ?_
 refine I0<|ogW a00 c0f ?_
 simp only[a00,Z0,Tryd.f27,zz,Nat.reduceAdd]
 refine oT ?_
 refine oc d0i #[vI (n:Nat)] ?_
 refine h _ ?_
 exact⟨rfl,rfl,rfl,trivial⟩
end
section
variable{F:Fz}{w:World}
theorem l0n(X:World)(u v:Value):(X.alloc (.cells #[u] 33)).setCell ⟨X.heap.size,0,none⟩ v=X.alloc (.cells #[v] 33):=by go_simp
theorem y0I{lb n l sc nn:Nat}{sa:Option Addr}(hU:Q1 F nn)(hn:nn≤w.heap.size){A:Array Value}(hA:D0 51 A [(0,.slice sa l sc),(4,vI (n:Nat))]){cs:List Frame}{main:Bool}{Stop:Goroutine→World→Prop}
 (h:∀A,D0 51 A [(0,.slice sa l sc),(4,vI (n:Nat)),(5,vP w.heap.size 0),(25,.slice sa l sc),(26,vI (l:Nat)),(27,vI (0:Nat))]→E0 Tryd.prog main F Stop (G (bA 27 A [.inRegion (oC M4) [0],.code N4,.inLoop n7,.inBlock 0,.code e6]) cs) (w.alloc (.cells #[vP lb 0] 33))):
 E0 Tryd.prog main F Stop (G ((bA 27 A [.inRegion (oC a00) [1,2,3,4,5,6,7],.code c0f]).finish (.tuple #[vP lb 0,vI 0])) cs) w:=by
 obtain⟨s,rfl,h0,h4,_⟩:=D5 b0E hA
 simp only[b0E,h0,h4]
 clear h0 h4
 rw[Frame.finish_at]
 simp only[a00,Z0,Tryd.f27,zz,Nat.reduceAdd]
 walk_nrm
 iterate 3 refine oT ?_
 refine oA hU ?_
 (refine oW fun dd K hK=>?_;go_simp;refine qS hK hU ?_;clear hK K)
 rw[l0n]
 refine oT ?_
 refine I0<|ogV q0x e6<|ogW q0w m0d ?_
 simp only[q0w,Z0,Tryd.f27,zz,Nat.reduceAdd]
 iterate 3 refine oT ?_
 refine I0 ?_
 rw[s0A]
 refine K5 ?_
 rw[s0B]
 refine ogP<|ogW M4 N4 ?_
 simp only[M4,Z0,Tryd.f27,zz,Nat.reduceAdd]
 refine h _ ?_
 exact⟨rfl,rfl,rfl,rfl,rfl,rfl,rfl,trivial⟩
end
section
variable{F:Fz}{w:World}
theorem y0J{vb vo l sc n xb lb i q:Nat}(hi:i<l)(hl:l<9223372036854775808)(hc:w.cell? ⟨vb,vo+i,none⟩=some (vI (q:Nat)))(hq:q<n)(hx:w.cell? ⟨xb,0,none⟩=some (vP lb 0)){A:Array Value}(hA:D0 51 A [(0,vL vb vo l sc),(4,vI (n:Nat)),(5,vP xb 0),(25,vL vb vo l sc),(26,vI (l:Nat)),(27,vI (i:Nat))]){cs:List Frame}{main:Bool}{Stop:Goroutine→World→Prop}
 (h:∀A,D0 51 A [(0,vL vb vo l sc),(4,vI (n:Nat)),(5,vP xb 0),(25,vL vb vo l sc),(26,vI (l:Nat)),(27,vI (i:Nat))]→E0 Tryd.prog main F Stop (G (Frame.enter Tryd.prog 18 #[vP lb 0,.nilIface,vI (q:Nat)] .normal) ((bA 27 A [.inRegion (oC a0t) [2],.inBlock 1,.code F7,.inLoop n7,.inBlock 0,.code e6])::cs)) w):
 E0 Tryd.prog main F Stop (G (bA 27 A [.inRegion (oC M4) [0],.code N4,.inLoop n7,.inBlock 0,.code e6]) cs) w:=by
 obtain⟨s,rfl,h0,h4,h5,h25,h26,h27,_⟩:=D5 b0E hA
 simp only[b0E,h0,h4,h5,h25,h26,h27]
 clear h0 h4 h5 h25 h26 h27
 have hd:decide ((i:Int)<(l:Int))=true:=by simp;omega
 have hd2:decide (i<l)=true:=by simp;omega
 have hin:(i:Int)<(l:Int):=by omega
 have hk64:IntKind.i64.wrap ((i:Int)+1)=(i:Int)+1:=IntWalk.i64_in _ (by omega)
 have e1:decide ((0:Int)≤(q:Int))=true:=decide_eq_true (by omega)
 have e2:decide (q<n)=true:=decide_eq_true hq
 simp only[M4,Z0,Tryd.f27,zz,Nat.reduceAdd]
 refine oT ?_
 refine I0<|ogV f0I d0d<|ogYn .skip<|ogK<|ogV g0x F7 ?_
 rw[h09]
 refine K5<|ogW e0R f0K ?_
 simp only[e0R,Z0,Tryd.f27,zz,Nat.reduceAdd]
 refine oX ?_
 refine oL ?_
 refine oT ?_
 refine I0<|ogW e0S i0b ?_
 simp only[e0S,Z0,Tryd.f27,zz,Nat.reduceAdd]
 iterate 7 refine oT ?_
 refine I0<|ogYn a0t ?_
 rw[o0Z]
 refine ogR ?_
 simp only[a0t,Z0,Tryd.f27,zz,Nat.reduceAdd]
 refine oL ?_
 refine oT ?_
 refine oc a0w #[vP lb 0,.nilIface,vI (q:Nat)] ?_
 refine h _ ?_
 exact⟨rfl,rfl,rfl,rfl,rfl,rfl,rfl,trivial⟩
theorem y0K{vb vo l sc n xb i:Nat}{b:Bool}(hi:i<l)(hl:l<9223372036854775808){A:Array Value}(hA:D0 51 A [(0,vL vb vo l sc),(4,vI (n:Nat)),(5,vP xb 0),(25,vL vb vo l sc),(26,vI (l:Nat)),(27,vI (i:Nat))]){cs:List Frame}{main:Bool}{Stop:Goroutine→World→Prop}
 (h:∀A,D0 51 A [(0,vL vb vo l sc),(4,vI (n:Nat)),(5,vP xb 0),(25,vL vb vo l sc),(26,vI (l:Nat)),(27,vI (i+1:Nat))]→E0 Tryd.prog main F Stop (G (bA 27 A [.inRegion (oC M4) [0],.code N4,.inLoop n7,.inBlock 0,.code e6]) cs) w):
 E0 Tryd.prog main F Stop (G ((bA 27 A [.inRegion (oC a0t) [2],.inBlock 1,.code F7,.inLoop n7,.inBlock 0,.code e6]).finish (.tuple #[.bool b,vI 0])) cs) w:=by
 obtain⟨s,rfl,h0,h4,h5,h25,h26,h27,_⟩:=D5 b0E hA
 simp only[b0E,h0,h4,h5,h25,h26,h27]
 clear h0 h4 h5 h25 h26 h27
 have hd:decide ((i:Int)<(l:Int))=true:=by simp;omega
 have hd2:decide (i<l)=true:=by simp;omega
 have hin:(i:Int)<(l:Int):=by omega
 have hk64:IntKind.i64.wrap ((i:Int)+1)=(i:Int)+1:=IntWalk.i64_in _ (by omega)
 rw[Frame.finish_at]
 simp only[a0t,Z0,Tryd.f27,zz,Nat.reduceAdd]
 walk_nrm
 refine I0<|ogI ?_
 rw[f0J]
 refine ogR ?_
 simp only[F7,Z0,Tryd.f27,zz,Nat.reduceAdd]
 iterate 2 refine oT ?_
 refine I0<|ogL<|ogW M4 N4 ?_
 simp only[M4,Z0,Tryd.f27,zz,Nat.reduceAdd]
 refine h _ ?_
 exact⟨rfl,rfl,rfl,rfl,rfl,rfl,rfl,trivial⟩
end
section
variable{F:Fz}{w:World}
theorem w0E{vb vo l sc n xb i:Nat}{v:Int}(hi:i<l)(hl:l<9223372036854775808)(hc:w.cell? ⟨vb,vo+i,none⟩=some (.int .i64 v))(hq:v<0){A:Array Value}(hA:D0 51 A [(0,.slice (some ⟨vb,vo,none⟩) l sc),(4,.int .i64 (n:Nat)),(5,.pointer (some ⟨xb,0,none⟩)),(25,.slice (some ⟨vb,vo,none⟩) l sc),(26,.int .i64 (l:Nat)),(27,.int .i64 (i:Nat))]){cs:List Frame}{main:Bool}{Stop:Goroutine→World→Prop}
 (h:∀A,D0 51 A [(0,.slice (some ⟨vb,vo,none⟩) l sc),(4,.int .i64 (n:Nat)),(5,.pointer (some ⟨xb,0,none⟩)),(25,.slice (some ⟨vb,vo,none⟩) l sc),(26,.int .i64 (l:Nat)),(27,.int .i64 (i+1:Nat))]→E0 Tryd.prog main F Stop (G ((Go.Conc.base 27).at ⟨A,[]⟩ [.inRegion (oC M4) [0],.code N4,.inLoop n7,.inBlock 0,.code e6]) cs) w):
 E0 Tryd.prog main F Stop (G ((Go.Conc.base 27).at ⟨A,[]⟩ [.inRegion (oC M4) [0],.code N4,.inLoop n7,.inBlock 0,.code e6]) cs) w:=by
 obtain⟨hsz,h0,h4,h5,h25,h26,h27,_⟩:=hA
 obtain⟨s,rfl⟩:=x0T hsz
 change s 0=_ at h0
 change s 4=_ at h4
 change s 5=_ at h5
 change s 25=_ at h25
 change s 26=_ at h26
 change s 27=_ at h27
 clear hsz
 simp only[b0E,h0,h4,h5,h25,h26,h27]
 clear h0 h4 h5 h25 h26 h27
 have hd:decide ((i:Int)<(l:Int))=true:=by simp;omega
 have hd2:decide (i<l)=true:=by simp;omega
 have hin:(i:Int)<(l:Int):=by omega
 have hk64:IntKind.i64.wrap ((i:Int)+1)=(i:Int)+1:=IntWalk.i64_in _ (by omega)
 have e1:decide ((0:Int)≤v)=false:=decide_eq_false (by omega)
 simp only[M4,Z0,Tryd.f27,zz,Nat.reduceAdd]
 (refine oW fun dd K hK=>?_;go_simp;refine qT hK ?_;clear hK K)
 refine I0 ?_
 refine z0f z0z ?_
 rw[z0x]
 refine ogT ?_
 simp only[if_true]
 refine ogK ?_
 refine z0f z0A ?_
 rw[h09]
 refine K5 ?_
 refine ogSR z0B z0E ?_
 simp only[e0R,Z0,Tryd.f27,zz,Nat.reduceAdd]
 (refine oW fun dd K hK=>?_;go_simp;refine qX hK ?_;clear hK K)
 (refine oW fun dd K hK=>?_;go_simp;refine qL hK ?_;clear hK K)
 (refine oW fun dd K hK=>?_;go_simp;refine qT hK ?_;clear hK K)
 refine I0 ?_
 refine ogSR z0C z0F ?_
 simp only[e0S,Z0,Tryd.f27,zz,Nat.reduceAdd]
 iterate 3 (refine oW fun dd K hK=>?_;go_simp;refine qT hK ?_;clear hK K)
 iterate 3 refine ogU rfl rfl ?_
 (refine oW fun dd K hK=>?_;go_simp;refine qT hK ?_;clear hK K)
 refine I0 ?_
 rw[z0y]
 refine ogF ?_
 simp only[Bool.false_eq_true,if_false]
 refine ogK ?_
 refine ogI ?_
 rw[f0J]
 refine ogR ?_
 simp only[F7,Z0,Tryd.f27,zz,Nat.reduceAdd]
 iterate 2 (refine oW fun dd K hK=>?_;go_simp;refine qT hK ?_;clear hK K)
 refine I0 ?_
 refine ogL ?_
 refine ogSR z0G z0D ?_
 simp only[M4,Z0,Tryd.f27,zz,Nat.reduceAdd]
 refine h _ ?_
 exact⟨rfl,rfl,rfl,rfl,rfl,rfl,rfl,trivial⟩
theorem w0F{vb vo l sc n xb i:Nat}{v:Int}(hi:i<l)(hl:l<9223372036854775808)(hc:w.cell? ⟨vb,vo+i,none⟩=some (vI v))(h0:0≤v)(hq:(n:Int)≤v){A:Array Value}(hA:D0 51 A [(0,vL vb vo l sc),(4,vI (n:Nat)),(5,vP xb 0),(25,vL vb vo l sc),(26,vI (l:Nat)),(27,vI (i:Nat))]){cs:List Frame}{main:Bool}{Stop:Goroutine→World→Prop}
 (h:∀A,D0 51 A [(0,vL vb vo l sc),(4,vI (n:Nat)),(5,vP xb 0),(25,vL vb vo l sc),(26,vI (l:Nat)),(27,vI (i+1:Nat))]→E0 Tryd.prog main F Stop (G (bA 27 A [.inRegion (oC M4) [0],.code N4,.inLoop n7,.inBlock 0,.code e6]) cs) w):
 E0 Tryd.prog main F Stop (G (bA 27 A [.inRegion (oC M4) [0],.code N4,.inLoop n7,.inBlock 0,.code e6]) cs) w:=by
 obtain⟨s,rfl,h0,h4,h5,h25,h26,h27,_⟩:=D5 b0E hA
 simp only[b0E,h0,h4,h5,h25,h26,h27]
 clear h0 h4 h5 h25 h26 h27
 have hd:decide ((i:Int)<(l:Int))=true:=by simp;omega
 have hd2:decide (i<l)=true:=by simp;omega
 have hin:(i:Int)<(l:Int):=by omega
 have hk64:IntKind.i64.wrap ((i:Int)+1)=(i:Int)+1:=IntWalk.i64_in _ (by omega)
 have e1:decide ((0:Int)≤v)=true:=decide_eq_true h0
 have e2:decide (v<(n:Int))=false:=decide_eq_false (by omega)
 simp only[M4,Z0,Tryd.f27,zz,Nat.reduceAdd]
 refine oT ?_
 refine I0<|ogV f0I d0d<|ogYn .skip<|ogK<|ogV g0x F7 ?_
 rw[h09]
 refine K5<|ogW e0R f0K ?_
 simp only[e0R,Z0,Tryd.f27,zz,Nat.reduceAdd]
 refine oX ?_
 refine oL ?_
 refine oT ?_
 refine I0<|ogW e0S i0b ?_
 simp only[e0S,Z0,Tryd.f27,zz,Nat.reduceAdd]
 iterate 7 refine oT ?_
 refine I0<|ogGn .skip<|ogK<|ogI ?_
 rw[f0J]
 refine ogR ?_
 simp only[F7,Z0,Tryd.f27,zz,Nat.reduceAdd]
 iterate 2 refine oT ?_
 refine I0<|ogL<|ogW M4 N4 ?_
 simp only[M4,Z0,Tryd.f27,zz,Nat.reduceAdd]
 refine h _ ?_
 exact⟨rfl,rfl,rfl,rfl,rfl,rfl,rfl,trivial⟩
end
noncomputable section
variable{F:Fz}{w:World}
theorem i0I(X:World)(u v:Value):(X.alloc (.cells #[u] 116)).setCell ⟨X.heap.size,0,none⟩ v=X.alloc (.cells #[v] 116):=by go_simp
def fMa(A:Array Value):Frame:=(bA 27 A [.inRegion (oC a00) [1,2,3,4,5,6,7],.code c0f])
theorem y0L{lb n l sc xb nn:Nat}{sa:Option Addr}(hU:Q1 F nn)(hn:nn≤w.heap.size)(hx:w.cell? ⟨xb,0,none⟩=some (vP lb 0)){A:Array Value}(hA:D0 51 A [(0,.slice sa l sc),(4,vI (n:Nat)),(5,vP xb 0),(25,.slice sa l sc),(26,vI (l:Nat)),(27,vI (l:Nat))]){c:Frame}{cs:List Frame}{main:Bool}{Stop:Goroutine→World→Prop}
 (h:E0 Tryd.prog main F Stop (G (c.finish (.tuple #[vP lb 0,.func (.func 51) #[] #[vP (w.heap.size+1) 0,vP xb 0]])) cs) ((w.alloc (.cells #[.func (.func 18) #[vP lb 0] #[],.func (.func 19) #[vP lb 0] #[],.func (.func 20) #[vP lb 0] #[]] 58)).alloc (.cells #[vL w.heap.size 0 3 3] 116))):
 E0 Tryd.prog main F Stop (G (bA 27 A [.inRegion (oC M4) [0],.code N4,.inLoop n7,.inBlock 0,.code e6]) (c::cs)) w:=by
 obtain⟨s,rfl,h0,h4,h5,h25,h26,h27,_⟩:=D5 b0E hA
 simp only[b0E,h0,h4,h5,h25,h26,h27]
 clear h0 h4 h5 h25 h26 h27
 have hd:decide ((l:Int)<(l:Int))=false:=by simp
 have hd2:decide (l<l)=false:=by simp
 have hxl:=O6 hx
 simp only[M4,Z0,Tryd.f27,zz,Nat.reduceAdd]
 refine oT ?_
 refine I0<|ogV f0I d0d<|ogGn (.exit 0) ?_
 refine G0 rfl (fun d=>stepG_exit rfl) ?_
 refine ogW m0f s0D ?_
 simp only[m0f,Z0,Tryd.f27,zz,Nat.reduceAdd]
 refine oL ?_
 refine oT ?_
 refine oL ?_
 refine oT ?_
 refine oL ?_
 refine oT ?_
 iterate 2 refine oA hU ?_
 (refine oW fun dd K hK=>?_;go_simp;refine qS hK hU ?_;clear hK K)
 have e1:=i0I (w.alloc (.cells #[.func (.func 18) #[vP lb 0] #[],.func (.func 19) #[vP lb 0] #[],.func (.func 20) #[vP lb 0] #[]] 58)) (.slice none 0 0) (vL w.heap.size 0 3 3)
 have e2:(w.alloc (.cells #[.func (.func 18) #[vP lb 0] #[],.func (.func 19) #[vP lb 0] #[],.func (.func 20) #[vP lb 0] #[]] 58)).heap.size=w.heap.size+1:=by simp
 rw[e2]at e1
 rw[e1]
 clear e1 e2
 have hx2:((w.alloc (.cells #[.func (.func 18) #[vP lb 0] #[],.func (.func 19) #[vP lb 0] #[],.func (.func 20) #[vP lb 0] #[]] 58)).alloc (.cells #[vL w.heap.size 0 3 3] 116)).cell? ⟨xb,0,none⟩=some (vP lb 0):=by rw[N6 _ _ _ (by simp;omega),N6 _ _ _ hxl];exact hx
 generalize ((w.alloc (.cells #[.func (.func 18) #[vP lb 0] #[],.func (.func 19) #[vP lb 0] #[],.func (.func 20) #[vP lb 0] #[]] 58)).alloc (.cells #[vL w.heap.size 0 3 3] 116))=W at hx2 h ⊢
 refine I0<|ogW m0g .ret ?_
 simp only[m0g,Z0,Tryd.f27,zz,Nat.reduceAdd]
 refine oL ?_
 iterate 3 refine oT ?_
 refine I0<|ogX ?_
 refine G0 rfl (fun d=>stepG_leave (fn:=Tryd.f27) (v:=.tuple #[vP lb 0,.func (.func 51) #[] #[vP (w.heap.size+1) 0,vP xb 0]]) rfl rfl Tryd.func27 (by simp[results,Tryd.f27]) (by simp[results,Tryd.f27,go_sem])) ?_
 exact h
end
section
variable{F:Fz}{w w' w0:World}{lb cb fb xb wb n:Nat}
theorem m0v(n:Nat)(ws:List (BitVec 64))(i:Int):(a0v n ws i).length=ws.length:=by
 unfold a0v;split<;>simp
theorem e0J(n:Nat)(xs:List Int):∀ws:List (BitVec 64),(xs.foldl (a0v n) ws).length=ws.length:=by
 induction xs with
 | nil=>intro ws;rfl
 | cons x xs ih=>intro ws;rw[List.foldl_cons,ih,m0v]
def HiW(n:Nat)(ws:List (BitVec 64)):Prop:=∀k j,n≤k*64+j→(ws.getD k 0#64).getLsbD j=false
theorem p0n(n m:Nat):HiW n (List.replicate m 0#64):=fun k j _=>by
 rw[List.getD_eq_getElem?_getD,List.getElem?_replicate]
 split<;>simp
theorem j0Q{ws:List (BitVec 64)}(h:HiW n ws){k:Nat}{z:BitVec 64}(hz:∀j,n≤k*64+j→z.getLsbD j=false):HiW n (ws.set k z):=fun i j hj=>by
 rw[List.getD_eq_getElem?_getD,List.getElem?_set]
 split
 ·rename_i e
  subst e
  split
  ·exact hz j hj
  ·simp
 ·have:=h i j hj
  rwa [List.getD_eq_getElem?_getD]at this
theorem p0m{ws:List (BitVec 64)}(h:HiW n ws)(i:Int):HiW n (a0v n ws i):=by
 unfold a0v
 split
 ·rename_i e
  refine j0Q h fun j hj=>?_
  rw[BitVec.getLsbD_or,h _ _ hj,N7]
  simp
  omega
 ·exact h
theorem n0m(xs:List Int):∀ws:List (BitVec 64),HiW n ws→HiW n (xs.foldl (a0v n) ws):=by
 induction xs with
 | nil=>exact fun ws h=>h
 | cons x xs ih=>exact fun ws h=>ih _ (p0m h x)
theorem m0w(vs:List Int):c0i vs≤65536:=by unfold c0i;omega
theorem l0M(vs:List Int):BWf (k0z vs) where
 l:=by simp[k0z,e0J]
 n:=m0w vs
 hi:=n0m _ _ (p0n _ _)
def a0R(w:World)(va:Option Addr)(xs:List Int):Prop:=∀i x,xs[i]? =some x→∃b o,va=some ⟨b,o,none⟩∧w.cell? ⟨b,o+i,none⟩=some (vI x)
theorem a0R.same{va:Option Addr}{xs:List Int}(h:a0R w va xs)(hs:∀r,r<w.heap.size→w'.heap[r]? =w.heap[r]?):a0R w' va xs:=fun i x hx=>by
 obtain⟨b,o,e,h2⟩:=h i x hx
 refine⟨b,o,e,?_⟩
 rw[← h2]
 unfold World.cell?
 rw[hs b (O6 h2)]
theorem p0x{sa:Option Addr}{sc:Nat}{xs:List Int}{N0 m:Nat}(hl:xs.length<9223372036854775808)(hlo:∀b o,sa=some ⟨b,o,none⟩→0<xs.length→b<N0)(hr:a0R w0 sa xs)(hwb:N0≤wb)(hlb:wb≠lb)(hxb:wb≠xb)(hnh:∀k,¬held F ⟨wb,k,none⟩){cs:List Frame}{main:Bool}{Stop:Goroutine→World→Prop}
 (ws0:List (BitVec 64)) (hm:ws0.length=m)
 (K:∀w A,BH lb wb n m w→w.cell? ⟨xb,0,none⟩=some (vP lb 0)→w.heap.size=w0.heap.size→(∀r,r≠wb→w.heap[r]? =w0.heap[r]?)→a0U w wb (xs.foldl (a0v n) ws0)→D0 51 A [(0,.slice sa xs.length sc),(4,vI (n:Nat)),(5,vP xb 0),(25,.slice sa xs.length sc),(26,vI (xs.length:Nat)),(27,vI (xs.length:Nat))]→E0 Tryd.prog main F Stop (G (bA 27 A [.inRegion (oC M4) [0],.code N4,.inLoop n7,.inBlock 0,.code e6]) cs) w):
 ∀(k i:Nat) (w:World) (A:Array Value) (ws:List (BitVec 64)),i+k=xs.length→ws.length=m→(xs.drop i).foldl (a0v n) ws=xs.foldl (a0v n) ws0→BH lb wb n m w→w.cell? ⟨xb,0,none⟩=some (vP lb 0)→w.heap.size=w0.heap.size→(∀r,r≠wb→w.heap[r]? =w0.heap[r]?)→a0U w wb ws→D0 51 A [(0,.slice sa xs.length sc),(4,vI (n:Nat)),(5,vP xb 0),(25,.slice sa xs.length sc),(26,vI (xs.length:Nat)),(27,vI (i:Nat))]→E0 Tryd.prog main F Stop (G (bA 27 A [.inRegion (oC M4) [0],.code N4,.inLoop n7,.inBlock 0,.code e6]) cs) w:=by
 intro k
 induction k with
 | zero=>
   intro i w A ws hk hw hf hB hx hs ho hW hA
   obtain rfl:i=xs.length:=by omega
   rw[List.drop_length]at hf
   simp only[List.foldl_nil]at hf
   subst hf
   exact K w A hB hx hs ho hW hA
 | succ k ih=>
   intro i w A ws hk hw hf hB hx hs ho hW hA
   have hi:i<xs.length:=by omega
   have hxi:xs[i]? =some xs[i]:=List.getElem?_eq_getElem hi
   obtain⟨b,o,rfl,hc⟩:=hr i _ hxi
   have hb:=hlo b o rfl (by omega)
   have hc2:w.cell? ⟨b,o+i,none⟩=some (vI xs[i]):=by
    rw[← hc]
    unfold World.cell?
    rw[ho b (by omega)]
   have hd:xs.drop i=xs[i]::xs.drop (i+1):=List.drop_eq_getElem_cons hi
   rw[hd,List.foldl_cons]at hf
   generalize xs[i]=x at hc2 hf
   by_cases hq:0≤x∧x<n
   ·obtain⟨q,rfl⟩:∃q:Nat,x=(q:Int):=⟨x.toNat,by omega⟩
    have hqn:q<n:=by omega
    refine y0J hi hl hc2 hqn hx hA fun A2 hA2=>?_
    have hp:a0v n ws (q:Int)=ws.set (q / 64) (ws.getD (q / 64) 0#64 ||| bitI q):=by
     unfold a0v;rw[if_pos hq];rfl
    refine h0f hB hW hw hqn hnh fun bb w2 h1 h2 h3=>y0K hi hl hA2 fun A3 hA3=>?_
    refine ih (i+1) w2 A3 _ (by omega) ?_ (by rw[← hp];exact hf) ⟨?_,?_,hB.hm,hB.hn⟩ ?_ (h1.trans hs) (fun r hr=>(h2 r hr).trans (ho r hr)) h3 hA3
    ·simp[hw]
    ·rw[← hB.c0];unfold World.cell?;rw[h2 _ (Ne.symm hlb)]
    ·rw[← hB.c1];unfold World.cell?;rw[h2 _ (Ne.symm hlb)]
    ·rw[← hx];unfold World.cell?;rw[h2 _ (Ne.symm hxb)]
   ·have hp:a0v n ws x=ws:=by unfold a0v;rw[if_neg hq]
    rw[hp]at hf
    by_cases h0:x<0
    ·exact w0E hi hl hc2 h0 hA fun A2 hA2=>ih (i+1) w A2 ws (by omega) hw hf hB hx hs ho hW hA2
    ·exact w0F hi hl hc2 (by omega) (by omega) hA fun A2 hA2=>ih (i+1) w A2 ws (by omega) hw hf hB hx hs ho hW hA2
end
section
def j3(l:List s7):List Nat:=l.filterMap fun a=>if a.1=true then some a.2.1.toNat else none
def F1(f:Nat→List s7):Nat→List Nat
 | 0=>[]
 | n+1=>F1 f n++j3 (f n)
theorem e9(l k:List s7):j3 (l++k)=j3 l++j3 k:=by simp[j3]
theorem S9{f g:Nat→List s7}:∀n,(∀i,i<n→g i=f i)→F1 g n=F1 f n
 | 0,_=>rfl
 | n+1,h=>by rw[F1,F1,S9 n fun i hi=>h i (by omega),h n (by omega)]
theorem b0r{f g:Nat→List s7}{i:Nat}{l:List s7}(hi:g i=f i++l)(hne:∀j,j≠i→g j=f j):∀n,i<n→(F1 g n).Perm (j3 l++F1 f n)
 | 0,h=>by omega
 | n+1,h=>by
   rw[F1,F1]
   by_cases e:i=n
   ·subst e
    rw[S9 i fun j hj=>hne j (by omega),hi,e9]
    rw[← List.append_assoc]
    exact List.perm_append_comm
   ·rw[hne n (fun e2=>e e2.symm),← List.append_assoc]
    exact(b0r hi hne n (by omega)).append_right _
def f5(f:Nat→Nat):Nat→Nat
 | 0=>0
 | n+1=>f5 f n+f n
theorem l03{f g:Nat→Nat}{d:Nat}:∀n,(∀j,j<n→g j≤f j+d)→f5 g n≤f5 f n+d*n
 | 0,_=>by simp[f5]
 | n+1,h=>by
   have h1:=l03 n fun j hj=>h j (by omega)
   have h2:=h n (by omega)
   simp only[f5,Nat.mul_succ]
   omega
theorem c0z{f g:Nat→Nat}{d i:Nat}:∀n,i<n→(∀j,j<n→j≠i→g j≤f j+d)→f5 g n+f i≤f5 f n+g i+d*n
 | 0,h,_=>by omega
 | n+1,h,hh=>by
   simp only[f5,Nat.mul_succ]
   by_cases e:i=n
   ·subst e
    have h1:=l03 (f:=f) (g:=g) (d:=d) i fun j hj=>hh j (by omega) (by omega)
    omega
   ·have h1:=c0z n (by omega) fun j hj hne=>hh j (by omega) hne
    have h2:=hh n (by omega) (fun e2=>e e2.symm)
    omega
def Z1.has(s:Z1)(x:Nat):Bool:=(s.wd (x / 64)).getLsbD (x % 64)
theorem l0P{s:Z1}{w j:Nat}(hw:w<s.ws.length)(hj:j<64)(x:Nat):({s with ws:=s.ws.set w (s.wd w ||| bitI j)}:Z1).has x=(s.has x || decide (x=w*64+j)):=by
 unfold Z1.has Z1.wd
 simp only[List.getD_eq_getElem?_getD]
 by_cases e:x / 64=w
 ·rw[e,List.getElem?_set_self hw,Option.getD_some,BitVec.getLsbD_or,N7,Nat.mod_eq_of_lt hj]
  congr 1
  have:(x % 64=j)↔(x=w*64+j):=by omega
  by_cases h2:x % 64=j
  ·simp[h2,this.1 h2];omega
  ·have h3:¬x=w*64+j:=fun h=>h2 (this.2 h)
   simp[h2,h3]
 ·have h3:¬x=w*64+j:=by omega
  rw[List.getElem?_set_ne (fun e2=>e e2.symm)]
  simp[h3]
theorem m0q{s:Z1}{w:Nat}(h:a08 s.n w (s.wd w)=none):∀x,x<s.n→x / 64=w→s.has x=true:=fun x hx e=>by
 unfold a08 at h
 rw[List.find?_eq_none]at h
 have:=h (x % 64) (by simp;omega)
 have e2:w*64+x % 64=x:=by omega
 rw[e2]at this
 unfold Z1.has
 rw[e]
 simpa [hx]using this
structure CT(q:Z1)(l:List I6)(t:GT BPl):Prop where
 k:t.k≤l.length
 al:List.length (α:=s7) t.ans=t.k
 an:∀a:s7,a∈(t.ans:List s7)→(∃x:Nat,a=(true,(x:Int),[]))∨(a=(false,0,[])∧∀x,x<q.n→q.has x=true)
 c0:t.call=none→t.k=l.length
 c1:∀c:BCl,t.call=some c→t.k<l.length∧c.kd=4∧c.w<q.ws.length∧(c.ph=0∨c.ph=1∧∃j,a08 q.n c.w c.old=some j)∧∀x,x<q.n→x<64*c.w→q.has x=true
theorem CT.mono{q q':Z1}{l:List I6}{t:GT BPl}(h:CT q l t)(hn:q'.n=q.n)(hl:q'.ws.length=q.ws.length)(hh:∀x,q.has x=true→q'.has x=true):CT q' l t:=
 ⟨h.k,h.al,fun a ha=>(h.an a ha).imp id fun⟨e,h2⟩=>⟨e,fun x hx=>hh x (h2 x (hn ▸ hx))⟩,h.c0,fun c hc=>by
  obtain⟨a,b,d,e,f⟩:=h.c1 c hc
  exact⟨a,b,hl ▸ d,by rw[hn];exact e,fun x hx h64=>hh x (f x (hn ▸ hx) h64)⟩⟩
def K9(q:Z1)(c:BCl):Nat:=3*(q.ws.length - c.w)+(if c.ph=0 then 2 else if q.wd c.w=c.old then 1 else 3)
def Z6(q:Z1)(K len:Nat)(t:GT BPl):Nat:=(len - t.k)*K+(match t.call with
 | none=>0
 | some c=>K9 q c)
theorem o00{q:Z1}(hq:q.ws.length=0):∀(l:List I6) (k:Nat) (ans:List s7),(∀o∈l,o.kd=4)→f0v BPl l q ⟨k,none,ans⟩=(q,⟨k+l.length,none,ans++List.replicate l.length (false,0,[])⟩)
 | [],k,ans,_=>by
   show(q,(⟨k,none,ans⟩:GT BPl))=(q,(⟨k,none,(ans++[]:List s7)⟩:GT BPl))
   rw[List.append_nil]
 | o::l,k,ans,h=>by
   have e:BPl.beg q o=(q,.inr (false,0,[])):=by
    show Z1.begin q o=_
    have h4:o.kd=4:=h o (by simp)
    simp[Z1.begin,h4,hq]
    rfl
   have ih:=o00 hq l (k+1) (ans++[(false,0,[])]) fun o ho=>h o (by simp[ho])
   simp only[f0v]
   rw[e]
   refine ih.trans ?_
   show(q,(⟨k+1+l.length,none,(ans++[(false,0,[])]++List.replicate l.length (false,0,[]):List s7)⟩:GT BPl))=(q,(⟨k+(o::l).length,none,(ans++List.replicate (o::l).length (false,0,[]):List s7)⟩:GT BPl))
   rw[List.length_cons,List.replicate_succ,List.append_assoc,Nat.add_right_comm]
   rfl
theorem j0J{q:Z1}(hwf:BWf q){l:List I6}(hl:∀o∈l,o.kd=4){k:Nat}{ans:List s7}(hk:k≤l.length)(hal:ans.length=k)(han:∀a∈ans,(∃x:Nat,a=(true,(x:Int),[]))∨(a=(false,0,[])∧∀x,x<q.n→q.has x=true))(K:Nat):
 ∃(t:GT BPl) (r:List s7),f0v BPl (l.drop k) q ⟨k,none,ans⟩=(q,t)∧CT q l t∧(t.ans:List s7)=ans++r∧j3 r=[]∧Z6 q K l.length t≤(l.length - k)*K+(3*q.ws.length+2):=by
 by_cases e:k=l.length
 ·refine⟨⟨k,none,ans⟩,[],?_,⟨hk,hal,han,fun _=>e,(fun c hc=>by cases hc)⟩,(List.append_nil ans).symm,rfl,?_⟩
  ·rw[e,List.drop_length];rfl
  ·simp[Z6]
 ·by_cases h0:q.ws.length=0
  ·have hn:q.n=0:=by have:=hwf.l;omega
   refine⟨_,List.replicate (l.length - k) (false,0,[]),o00 h0 _ _ _ fun o ho=>hl o (List.mem_of_mem_drop ho),⟨?_,?_,?_,fun _=>?_,(fun c hc=>by cases hc)⟩,?_,?_,?_⟩
   ·simp;omega
   ·show(ans++List.replicate (l.drop k).length _).length=k+(l.drop k).length
    simp[hal]
   ·intro a ha
    have ha:a∈ans++List.replicate (l.drop k).length (false,0,[]):=ha
    rcases List.mem_append.1 ha with h|h
    ·exact han a h
    ·refine .inr ⟨(List.mem_replicate.1 h).2,fun x hx=>by omega⟩
   ·show k+(l.drop k).length=l.length
    simp;omega
   ·show ans++List.replicate (l.drop k).length _=_
    simp
    rfl
   ·unfold j3
    rw[List.filterMap_eq_nil_iff]
    intro a ha
    rw[(List.mem_replicate.1 ha).2]
    simp
   ·have:l.length - (k+(l.drop k).length)=0:=by simp;omega
    unfold Z6
    simp only[this]
    omega
  ·have hlt:k<l.length:=by omega
   refine⟨⟨k,some (⟨4,0,0,0,0#64,[]⟩:BCl),ans⟩,[],?_,⟨hk,hal,han,(fun h=>by cases h),fun c hc=>?_⟩,(List.append_nil ans).symm,rfl,?_⟩
   ·rw[List.drop_eq_getElem_cons hlt]
    have e4:l[k].kd=4:=hl _ (List.getElem_mem hlt)
    have eb:BPl.beg q l[k]=(q,.inl (⟨4,0,0,0,0#64,[]⟩:BCl)):=by
     show Z1.begin q l[k]=_
     simp[Z1.begin,e4,h0]
     try rfl
    simp only[f0v]
    rw[eb]
    rfl
   ·have hc:some (⟨4,0,0,0,0#64,[]⟩:BCl)=some c:=hc
    cases hc
    exact⟨hlt,rfl,by show 0<_;omega,.inl rfl,fun x _ h=>by simp at h⟩
   ·simp[Z6,K9]
end
end Go.Proofs.YtlcgkpapnpdfpaaDoor
