/-
  What is proved: BitsCallsCardSaid: for every start, all operations and every bound, what the calls of a set answer by themselves, the steps that they take and the set behind them are the document's. Conditions: those of the given row and card (the variable that is listed reads as its table).
  Part 2 of 6.
-/
import Derived.Test.YtlcgkpapnpdfpaaDoorZA
import Derived.WalkKit
import Derived.OwnWalk
import Derived.Maps.AppendAt
import Derived.IntWalk
import Derived.Conc.AppendWalk
import Derived.Conc.AppendEvents3
set_option linter.unusedSimpArgs false
set_option linter.unusedVariables false
set_option linter.unusedSectionVars false
set_option maxRecDepth 100000
set_option maxHeartbeats 8000000
namespace Go.Proofs.YtlcgkpapnpdfpaaDoor
open Go Go.Conc Go.RowKit Go.Proofs
noncomputable section
open Go.ConcN (sumTo upd sumTo_upd upd_ne upd_same)
variable{g:M1}{F:Fz}
def c0y:Code:=Tryd.f67.body.getD .skip
def g05:Code:=match c0y with| .seq _ y=>y|_=>.skip
def k0n:Array Oper:=match g05 with| .region _ o _=>o|_=> #[]
theorem m09(args:Array Value):Frame.enter Tryd.prog 67 args .normal=(base 67).at {tmps:=args++Array.replicate (22 - args.size) undef,defers:=[]} [.code c0y]:=
 enter_at args Tryd.func67 rfl
def c0w(g:M1)(i:Nat)(b:Bool)(cs:List Frame):Goroutine:=
 G ((base 67).at ⟨#[vP g.tb 0,vI i,.bool b,undef,undef,undef,vP g.tb 0,vP g.tb 0,vP g.tb 1,vL g.sa 0 g.n g.sc,vI i,vP g.sa i,vP (g.st i) 0,vP (g.st i) 0,vP (g.st i) 1,
   .chan (some (g.pc i)),.bool b,vP g.tb 0,vP g.tb 0,vP g.tb 0,.chan (some g.bk),undef],[]⟩ [.inRegion k0n [4]]) cs
theorem i0S [ok:Fits g] {i:Nat} [hi:Has g i] {b:Bool}{cs:List Frame}{w:World}(hK:g.K w):
 Goes Tryd.prog true AtRel (DQ g.Still g.top) (AtGive Tryd.prog true g.Still g.top (g.pc i) (.bool b) fun x=>Sits Tryd.prog true g.K g.Still g.top (R1 g (c0w g i b cs)) 7 x) 13 (G (Frame.enter Tryd.prog 67 #[vP g.tb 0,vI i,.bool b] .normal) cs) w:=by
 have hi':=hi.lt
 have hsl:=ok.ok.sl (Nat.lt_of_le_of_lt (Nat.zero_le _) hi')
 have hsa:g.sa<g.top:=ok.ok.low _ _ (.stand i hi')
 rw[m09]
 simp only[c0y,Tryd.f67,Option.getD_some]
 walk_nrm
 q_c stepG_seq
 q_reg
 q_op
 q_op
 q_op
 q_ld [((hK _ _ .stands).at dd).c,((hK _ _ .stands).at dd).z]
 q_op
 (q_in;refine goes_oper_k rfl rfl (by decide) (fun K hK'=>?_);go_simp;refine hK' _ _ ⟨⟨rfl,fun e he=>?_⟩,?_⟩)
 ·have hm:=mem_listed he
  simp[go_sem, *]at hm
 clear hK' K
 (q_in;refine goes_oper_k rfl rfl (by decide) (fun K hK'=>?_)
  have h1:=((hK _ _ (.stand i hi')).at dd).c
  have h2:=((hK _ _ (.stand i hi')).at dd).z
  go_simp;refine hK' _ _ ⟨⟨rfl,fun e he=>by(have hm:=mem_listed he;simp[go_sem, *]at hm;subst hm;exact evHd_read _ hsa)⟩,?_⟩;clear hK' K)
 q_op
 q_op
 q_ld [((hK _ _ (.pass i hi')).at dd).c,((hK _ _ (.pass i hi')).at dd).z]
 q_op
 refine fun w₁ h₁=>?_
 obtain⟨d₁,rfl⟩:=h₁
 refine atGive_of (z':=.tuple #[]) rfl rfl (by decide) (fun w=>by simp[execOp,scase,Act.eval]) (fun w=>by simp[go_sem,execOp,Act.eval]) ?_ _
 refine .inl ⟨6,w,rfl,?_⟩
 rw[served_fr,Frame.finish_at]
 walk_nrm
 k_c stepG_region_end
 k_reg
 iterate 3 (k_in;refine goes_oper_k rfl rfl (by decide) (fun K hK=>?_);go_simp;refine hK _ _ ⟨⟨rfl,fun e he=>by(have hm:=mem_listed he;simp[go_sem]at hm)⟩,?_⟩;clear hK K)
 k_ld [(M1.K.lies h₁ _ _ .back).c,(M1.K.lies h₁ _ _ .back).z] (M1.still .back)
 exact fun _ _=>⟨_,atIn_of (s:=R1 g (c0w g i b cs)) rfl rfl (by decide) (fun w=>by simp[go_sem,execOp,rcase,Act.eval,R1,Seat.one]) (fun w=>by simp[go_sem,execOp,Act.eval]) (by simp[c0w,k0n,g05,c0y,Tryd.f67,R1,Seat.one])⟩
theorem i0R{i:Nat}{b:Bool}{c:Frame}{cs:List Frame}{w:World}{Stop:Goroutine→World→Prop}(h:J0 Tryd.prog true F Stop (G (c.finish (.tuple #[])) cs) w):
 J0 Tryd.prog true F Stop (Go.Conc.served (c0w g i b (c::cs)) (.agg #[])) w:=by
 unfold c0w
 rw[served_fr,Frame.finish_at]
 simp only[k0n,g05,c0y,Tryd.f67,Option.getD_some]
 walk_nrm
 refine ogE ?_
 refine M0 rfl (fun d=>stepG_end) ?_
 refine M0 rfl (fun d=>stepG_leave (fn:=Tryd.f67) (v:=.tuple #[]) rfl rfl Tryd.func67 (by simp[results,Tryd.f67]) (by simp[results,Tryd.f67,go_sem])) ?_
 exact h
end
section
open Go.ConcN (sumTo upd sumTo_upd upd_ne upd_same)
variable{g:M1}{F:Fz}{Z:C4}{A:Nat→Bool}{vs:Nat→V5}{N:Nat→Prop}{ov:Nat→Bool}{x y:Z.X}{w w':World}{s0 nn:Nat}{Gl:Machine→Trace→Prop}{Inb:Nat→Option Seat}{h:Nat}
theorem K7 [ok:Fits g]:c0N (FK g) g.Still:=M1.covers fun a v p=>L9 ok.ok p
theorem k0h [ok:Fits g]:∀w w',Gd (FK g) w w'→g.K w→g.K w':=fun w w' hg h=>h.gd (fun a v p=>L9 ok.ok p) hg
theorem C6 [ok:Fits g] {a b:Goroutine}(ho:J0 Tryd.prog (h == 0) (FK g) (fun c u=>c=b∧∃d,u=w.at d) a w)(hk:∀d,e8 Tryd.prog g.K g.Still g.top Gl Inb h nn b (w.at d)):e8 Tryd.prog g.K g.Still g.top Gl Inb h nn a w:=by
 refine I6 (F:=FK g) a0D K7 k0h ho fun g' w0 d hS=>?_
 obtain⟨rfl,d',e⟩:=hS d
 rw[e]
 exact hk d'
theorem u0b [ok:Fits g] (zok:Z.Ok g)(hs0:0<s0)(hAn:∀j,A j=true→j<g.n∧s0+j<nn){i:Nat}(hA:A i=true)(hl:Z.liv x i=true)(H:TI Z g (fun j=>A j=true) vs N ov x w)(hov:ov i=false){ms:Option Seat}{c:Frame}{cs:List Frame}
 (hk:∀y w',Z.stp x i y→TI Z g (fun j=>(A j && (j != i || Z.liv y i))=true) vs N (fun j=>if j=i then !Z.liv y i else ov j) y w'→Z4 g N vs i w w'→
   e8 Tryd.prog g.K g.Still g.top Gl (E7 Z g s0 (fun j=>A j && (j != i || Z.liv y i)) vs (some (R1 g (c0w g i true (c::cs)))) y) 0 nn (G (c.finish (.tuple #[])) cs) w'):
 e8 Tryd.prog g.K g.Still g.top Gl (E7 Z g s0 A vs ms x) 0 nn (G (Frame.enter Tryd.prog 67 #[vP g.tb 0,vI i,.bool true] .normal) (c::cs)) w:=by
 have hiH:Has g i:=⟨(hAn i hA).1⟩
 refine U3 fun _ hK _=>?_
 refine f0x a0D (i0S (cs:=c::cs) hK) fun g' d hgv=>?_
 refine r0A zok hs0 hAn hA hl (H.at zok d) hov hgv fun y w' hy H' k'=>?_
 refine C6 (i0R (.stop fun d=>⟨rfl,d,rfl⟩)) fun d'=>hk y _ hy (H'.at zok d') ?_
 exact(Z4.at w d).trans (k'.trans (Z4.at _ d'))
theorem j0I [ok:Fits g] (zok:Z.Ok g)(hs0:0<s0)(hAn:∀j,A j=true→j<g.n∧s0+j<nn){i:Nat}(hA:A i=true)(hl:Z.liv x i=true)(H:TI Z g (fun j=>A j=true) vs N ov x w)(hov:ov i=false){ms:Option Seat}{c:Frame}{cs:List Frame}
 (hk:∀w',TI Z g (fun j=>(A j && j != i)=true) vs N (fun j=>if j=i then true else ov j) x w'→Z4 g N vs i w w'→
   e8 Tryd.prog g.K g.Still g.top Gl (E7 Z g s0 (fun j=>A j && j != i) vs (some (R1 g (c0w g i false (c::cs)))) x) 0 nn (G (c.finish (.tuple #[])) cs) w'):
 e8 Tryd.prog g.K g.Still g.top Gl (E7 Z g s0 A vs ms x) 0 nn (G (Frame.enter Tryd.prog 67 #[vP g.tb 0,vI i,.bool false] .normal) (c::cs)) w:=by
 have hiH:Has g i:=⟨(hAn i hA).1⟩
 refine U3 fun _ hK _=>?_
 refine f0x a0D (i0S (cs:=c::cs) hK) fun g' d hgv=>?_
 refine r0y zok hs0 hAn hA hl (H.at zok d) hov hgv fun w' H' k'=>?_
 refine C6 (i0R (.stop fun d=>⟨rfl,d,rfl⟩)) fun d'=>hk _ (H'.at zok d') ?_
 exact(Z4.at w d).trans (k'.trans (Z4.at _ d'))
end
noncomputable section
variable {cs:List Frame}{main:Bool}{Stop:Goroutine→World→Prop}
open Go.ConcN (sumTo upd sumTo_upd upd_ne upd_same)
variable{g:M1}{F:Fz}{w:World}
structure y4 where
 mo:Nat
 od:Nat
 n:Nat
 lf:Nat
def l5:Code:=Tryd.f66.body.getD .skip
theorem T7(args:Array Value):Frame.enter Tryd.prog 66 args .normal=(base 66).at {tmps:=args++Array.replicate (51 - args.size) undef,defers:=[]} [.code l5]:=
 enter_at args Tryd.func66 rfl
def C3(g:M1)(v:y4)(i:Int):Array Value:= #[vI i,vP v.n 0,vP g.tv 0,vP v.od 0,vP v.mo 0,vP v.lf 0]
theorem n07{v:y4}{i:Int}(hi:i<0){c:Frame}(h:J0 Tryd.prog main F Stop (G (c.finish (.tuple #[])) cs) w):
 J0 Tryd.prog main F Stop (G (Frame.enter Tryd.prog 66 (C3 g v i) .normal) (c::cs)) w:=by
 have hd:decide (i<0)=true:=by simpa using hi
 unfold C3
 rw[T7]
 simp only[l5,Tryd.f66,Option.getD_some]
 walk_nrm
 refine ogS<|ogS ?_
 (refine ogR ?_;simp only[List.size_toArray,List.length_cons,List.length_nil,Nat.reduceAdd,Nat.zero_add,List.range,List.range.loop])
 iterate 3 refine oT ?_
 refine ogU rfl rfl<|ogU rfl rfl ?_
 walk_nrm
 refine ogU rfl rfl ?_
 walk_nrm
 iterate 2 refine oT ?_
 refine ogU rfl rfl<|ogU rfl rfl ?_
 walk_nrm
 refine ogU rfl rfl<|ogU rfl rfl ?_
 walk_nrm
 refine ogU rfl rfl<|ogU rfl rfl ?_
 walk_nrm
 refine ogU rfl rfl<|ogU rfl rfl ?_
 walk_nrm
 refine ogU rfl rfl<|ogU rfl rfl ?_
 walk_nrm
 iterate 2 refine oT ?_
 refine ogU rfl rfl<|ogU rfl rfl ?_
 walk_nrm
 refine ogU rfl rfl<|ogU rfl rfl ?_
 walk_nrm
 refine oT ?_
 refine ogE<|ogY<|ogX ?_
 refine M0 rfl (fun d=>stepG_leave (fn:=Tryd.f66) (v:=.tuple #[]) rfl rfl Tryd.func66 (by simp[results,Tryd.f66]) (by simp[results,Tryd.f66,go_sem])) ?_
 exact h
theorem k0Z{v:y4}{i:Int}(hi:0≤i)(hn:(g.n:Int)≤i)(hl:Z1 w ⟨v.n,0,none⟩ (vI g.n)){c:Frame}(h:J0 Tryd.prog main F Stop (G (c.finish (.tuple #[])) cs) w):
 J0 Tryd.prog main F Stop (G (Frame.enter Tryd.prog 66 (C3 g v i) .normal) (c::cs)) w:=by
 have hd:decide (i<0)=false:=by simpa using hi
 have hd2:decide ((g.n:Int)≤i)=true:=by simpa using hn
 have c1:=hl.c
 have z1:=hl.z
 unfold C3
 rw[T7]
 simp only[l5,Tryd.f66,Option.getD_some]
 walk_nrm
 refine ogS<|ogS ?_
 (refine ogR ?_;simp only[List.size_toArray,List.length_cons,List.length_nil,Nat.reduceAdd,Nat.zero_add,List.range,List.range.loop])
 iterate 4 refine oT ?_
 refine oL ?_
 iterate 3 refine oT ?_
 refine ogU rfl rfl<|ogU rfl rfl ?_
 walk_nrm
 refine ogU rfl rfl<|ogU rfl rfl ?_
 walk_nrm
 refine ogU rfl rfl<|ogU rfl rfl ?_
 walk_nrm
 refine ogU rfl rfl<|ogU rfl rfl ?_
 walk_nrm
 refine ogU rfl rfl<|ogU rfl rfl ?_
 walk_nrm
 iterate 2 refine oT ?_
 refine ogU rfl rfl<|ogU rfl rfl ?_
 walk_nrm
 refine ogU rfl rfl<|ogU rfl rfl ?_
 walk_nrm
 refine oT ?_
 refine ogE<|ogY<|ogX ?_
 refine M0 rfl (fun d=>stepG_leave (fn:=Tryd.f66) (v:=.tuple #[]) rfl rfl Tryd.func66 (by simp[results,Tryd.f66]) (by simp[results,Tryd.f66,go_sem])) ?_
 exact h
theorem k02 [ok:Fits g] {v:y4}{i:Nat} [hi:Has g i] (hK:g.K w)(hl:Z1 w ⟨v.n,0,none⟩ (vI g.n))(ho:Z1 w ⟨g.st i,2,none⟩ (.bool true)){c:Frame}(h:J0 Tryd.prog main F Stop (G (c.finish (.tuple #[])) cs) w):
 J0 Tryd.prog main F Stop (G (Frame.enter Tryd.prog 66 (C3 g v i) .normal) (c::cs)) w:=by
 have hin:=hi.lt
 have hd:decide ((i:Int)<0)=false:=by simp
 have hd2:decide ((g.n:Int)≤(i:Int))=false:=by simp;omega
 have hd3:decide (g.n≤i)=false:=by simp;omega
 have hsl:=ok.ok.sl (Nat.lt_of_le_of_lt (Nat.zero_le _) hin)
 have c1:=hl.c
 have z1:=hl.z
 have c2:=(hK _ _ .tv).c
 have z2:=(hK _ _ .tv).z
 have c3:=(hK _ _ .stands).c
 have z3:=(hK _ _ .stands).z
 have c4:=(hK _ _ (.stand i hin)).c
 have z4:=(hK _ _ (.stand i hin)).z
 have c5:=ho.c
 have z5:=ho.z
 rw[hsl]at c3
 unfold C3
 rw[T7]
 simp only[l5,Tryd.f66,Option.getD_some]
 walk_nrm
 refine ogS<|ogS ?_
 (refine ogR ?_;simp only[List.size_toArray,List.length_cons,List.length_nil,Nat.reduceAdd,Nat.zero_add,List.range,List.range.loop])
 iterate 4 refine oT ?_
 refine oL ?_
 iterate 3 refine oT ?_
 refine oL ?_
 iterate 2 refine oT ?_
 refine oL ?_
 refine oT ?_
 (refine oW fun dd K hK=>?_;go_simp;refine hK _ _ ⟨⟨⟨0,V3.refl _ _⟩,fun e he=>by(have hm:=mem_listed he;simp[go_sem, *]at hm)⟩,J0.at ?_ dd⟩;clear hK K)
 refine oL ?_
 iterate 2 refine oT ?_
 refine oL ?_
 iterate 2 refine oT ?_
 refine ogU rfl rfl<|ogU rfl rfl ?_
 walk_nrm
 refine ogU rfl rfl<|ogU rfl rfl ?_
 walk_nrm
 refine oT ?_
 refine ogE<|ogY<|ogX ?_
 refine M0 rfl (fun d=>stepG_leave (fn:=Tryd.f66) (v:=.tuple #[]) rfl rfl Tryd.func66 (by simp[results,Tryd.f66]) (by simp[results,Tryd.f66,go_sem])) ?_
 exact h
theorem k0Y [ok:Fits g] {v:y4}{i:Nat} [hi:Has g i] (hK:g.K w)(hl:Z1 w ⟨v.n,0,none⟩ (vI g.n))(ho:Z1 w ⟨g.st i,2,none⟩ (.bool false)){oa:Option Addr}{ol oc M:Nat}(lo:Z1 w ⟨v.od,0,none⟩ (.slice oa ol oc))(lm:Z1 w ⟨v.mo,0,none⟩ (vI M))(hM:ol=M)
 {c:Frame} {cs:List Frame} {main:Bool} {Stop:Goroutine→World→Prop} (h:J0 Tryd.prog main F Stop (G (c.finish (.tuple #[])) cs) w):
 J0 Tryd.prog main F Stop (G (Frame.enter Tryd.prog 66 (C3 g v i) .normal) (c::cs)) w:=by
 subst hM
 have hin:=hi.lt
 have hd:decide ((i:Int)<0)=false:=by simp
 have hd2:decide ((g.n:Int)≤(i:Int))=false:=by simp;omega
 have hd3:decide (g.n≤i)=false:=by simp;omega
 have hsl:=ok.ok.sl (Nat.lt_of_le_of_lt (Nat.zero_le _) hin)
 have c1:=hl.c
 have z1:=hl.z
 have c2:=(hK _ _ .tv).c
 have z2:=(hK _ _ .tv).z
 have c3:=(hK _ _ .stands).c
 have z3:=(hK _ _ .stands).z
 have c4:=(hK _ _ (.stand i hin)).c
 have z4:=(hK _ _ (.stand i hin)).z
 have c5:=ho.c
 have z5:=ho.z
 rw[hsl]at c3
 have c6:=lo.c
 have z6:=lo.z
 have c7:=lm.c
 have z7:=lm.z
 unfold C3
 rw[T7]
 simp only[l5,Tryd.f66,Option.getD_some]
 walk_nrm
 refine ogS<|ogS ?_
 (refine ogR ?_;simp only[List.size_toArray,List.length_cons,List.length_nil,Nat.reduceAdd,Nat.zero_add,List.range,List.range.loop])
 iterate 4 refine oT ?_
 refine oL ?_
 iterate 3 refine oT ?_
 refine oL ?_
 iterate 2 refine oT ?_
 refine oL ?_
 refine oT ?_
 (refine oW fun dd K hK=>?_;go_simp;refine hK _ _ ⟨⟨⟨0,V3.refl _ _⟩,fun e he=>by(have hm:=mem_listed he;simp[go_sem, *]at hm)⟩,J0.at ?_ dd⟩;clear hK K)
 refine oL ?_
 iterate 2 refine oT ?_
 refine oL ?_
 iterate 2 refine oT ?_
 refine oL ?_
 refine oT ?_
 refine oL ?_
 iterate 2 refine oT ?_
 refine ogE<|ogY<|ogX ?_
 refine M0 rfl (fun d=>stepG_leave (fn:=Tryd.f66) (v:=.tuple #[]) rfl rfl Tryd.func66 (by simp[results,Tryd.f66]) (by simp[results,Tryd.f66,go_sem])) ?_
 exact h
def step1App:Code:=match l5 with| .seq _ (.seq a _)=>a|_=>.skip
def U5:Code:=match l5 with| .seq _ (.seq _ a)=>a|_=>.skip
def a0p(g:M1)(v:y4)(i:Nat)(oa:Option Addr)(ol oc M:Nat):Act:=
 ⟨#[vI i,vP v.n 0,vP g.tv 0,vP v.od 0,vP v.mo 0,vP v.lf 0,undef,vI i,.bool false,.bool false,vI i,vI g.n,.bool false,.bool false,.bool false,
  vP g.tb 0,vP g.tb 0,vP g.tb 1,vL g.sa 0 g.n g.sc,vI i,vP g.sa i,vP (g.st i) 0,vP (g.st i) 0,vP (g.st i) 2,.bool false,.bool false,.bool false,
  .slice oa ol oc,vI ol,vI M,.bool false,.bool false,undef,undef,undef,undef,undef,undef,undef,undef,undef,undef,undef,undef,undef,undef,undef,undef,undef,undef,undef],[]⟩
theorem r0c [ok:Fits g] {v:y4}{i:Nat} [hi:Has g i] (hK:g.K w)(hl:Z1 w ⟨v.n,0,none⟩ (vI g.n))(ho:Z1 w ⟨g.st i,2,none⟩ (.bool false)){oa:Option Addr}{ol oc M:Nat}(lo:Z1 w ⟨v.od,0,none⟩ (.slice oa ol oc))(lm:Z1 w ⟨v.mo,0,none⟩ (vI M))(hM:ol≠M)
 {cs:List Frame} {main:Bool} {Stop:Goroutine→World→Prop} (h:J0 Tryd.prog main F Stop (G ((base 66).at (a0p g v i oa ol oc M) [.code step1App,.code U5]) cs) w):
 J0 Tryd.prog main F Stop (G (Frame.enter Tryd.prog 66 (C3 g v i) .normal) cs) w:=by
 have hM2:((ol:Int) == (M:Int))=false:=by simp;omega
 have hM3:(ol == M)=false:=by simp;omega
 have hin:=hi.lt
 have hd:decide ((i:Int)<0)=false:=by simp
 have hd2:decide ((g.n:Int)≤(i:Int))=false:=by simp;omega
 have hd3:decide (g.n≤i)=false:=by simp;omega
 have hsl:=ok.ok.sl (Nat.lt_of_le_of_lt (Nat.zero_le _) hin)
 have c1:=hl.c
 have z1:=hl.z
 have c2:=(hK _ _ .tv).c
 have z2:=(hK _ _ .tv).z
 have c3:=(hK _ _ .stands).c
 have z3:=(hK _ _ .stands).z
 have c4:=(hK _ _ (.stand i hin)).c
 have z4:=(hK _ _ (.stand i hin)).z
 have c5:=ho.c
 have z5:=ho.z
 rw[hsl]at c3
 have c6:=lo.c
 have z6:=lo.z
 have c7:=lm.c
 have z7:=lm.z
 unfold C3
 rw[T7]
 simp only[l5,Tryd.f66,Option.getD_some]
 walk_nrm
 refine ogS<|ogS ?_
 (refine ogR ?_;simp only[List.size_toArray,List.length_cons,List.length_nil,Nat.reduceAdd,Nat.zero_add,List.range,List.range.loop])
 iterate 4 refine oT ?_
 refine oL ?_
 iterate 3 refine oT ?_
 refine oL ?_
 iterate 2 refine oT ?_
 refine oL ?_
 refine oT ?_
 (refine oW fun dd K hK=>?_;go_simp;refine hK _ _ ⟨⟨⟨0,V3.refl _ _⟩,fun e he=>by(have hm:=mem_listed he;simp[go_sem, *]at hm)⟩,J0.at ?_ dd⟩;clear hK K)
 refine oL ?_
 iterate 2 refine oT ?_
 refine oL ?_
 iterate 2 refine oT ?_
 refine oL ?_
 refine oT ?_
 refine oL ?_
 iterate 2 refine oT ?_
 refine ogE<|ogG<|ogK<|ogS ?_
 exact h
end
section
theorem k0B:Tryd.prog.follows .staticDataAhead=true:=by kernel_rfl
theorem h0j:Tryd.prog.funcs.all (fun f=>((f.body.map readies).map (fun l=>l.isEmpty)).getD true)=true:=by kernel_rfl
theorem i07(g:Nat):Tryd.prog.stepOf g=none:=by
 unfold Program.stepOf
 rw[Array.findIdx?_eq_none_iff]
 intro f hf
 have h:=Array.all_eq_true_iff_forall_mem.1 h0j f hf
 cases hb:f.body with
 | none=>rfl
 | some c=>
   rw[hb]at h
   simp only[Option.map_some,Option.getD_some,List.isEmpty_iff]at h
   simp[h]
theorem F6:P7 Tryd.prog:=k0r k0B i07
theorem ready0:u0l Tryd.prog (fun _=>false):=⟨fun px f hf=>(by cases hf),F6⟩
end
noncomputable section
variable{g:M1}
theorem A0X:∃i,Tryd.prog.info? 3=some i∧i.zero=some (vI 0)∧i.size=1∧i.bytes=8:=by
 have h:(Tryd.prog.info? 3).map (fun i=>(i.zero.map (·.cells),i.size,i.bytes))=some (some #[vI 0],1,8):=by kernel_rfl
 have h0:(Tryd.prog.info? 3).bind (·.zero)=some (vI 0):=by kernel_rfl
 obtain⟨i,hi,h1⟩:=Option.map_eq_some_iff.1 h
 rw[hi]at h0
 simp only[Prod.mk.injEq]at h1
 exact⟨i,hi,h0,h1.2.1,h1.2.2⟩
def a05(g:M1)(v:y4)(i:Nat)(oa:Option Addr)(ol oc M:Nat)(b nv:Value):Act:=
 ⟨((((a0p g v i oa ol oc M).tmps.setIfInBounds 32 (.slice oa ol oc)).setIfInBounds 33 (vI i)).setIfInBounds 34 b).setIfInBounds 35 nv,[]⟩
def k09(g:M1)(v:y4)(i:Nat)(oa:Option Addr)(ol oc M base:Nat)(xs:List Value)(W:World)(e:Exit)(a:Act)(w:World):Prop:=
 e= .normal∧∃nv w1,a=a05 g v i oa ol oc M (vL W.heap.size 0 1 1) nv∧w1.ownsRow base 3 1 nv (ol+1) (xs++[vI i])∧(W.alloc (.cells #[vI i] 3)).grownBy w1 (Value.ownBlock (.slice oa ol oc))∧w=w1.setCell ⟨v.od,0,none⟩ nv
theorem y0f{w:World}{base:Nat}{a:Option Addr}{n c:Nat}{xs:List Value}(h:w.ownsRow base 3 1 (.slice a n c) n xs){b:Nat}(hb:∀x,a=some x→x.block≠b):Value.ownBlock (.slice a n c)≠some b:=by
 cases a with
 | none=>simp[Value.ownBlock]
 | some x=>simp only[Value.ownBlock,ne_eq,Option.some.injEq];exact hb x rfl
theorem f0j{w:World}{base n:Nat}{v:Value}{xs:List Value}(h:w.ownsRow base 3 1 v (n+1) xs):∃g cap,v=vL g 0 (n+1) cap:=by
 rcases h.2 with⟨_,h⟩|⟨g,cap,_,h,_⟩
 ·omega
 ·exact⟨g,cap,h⟩
theorem e0N{W w1:World}{base b:Nat}{oa:Option Addr}{ol oc:Nat}{xs:List Value}{o:Obj}(hlt:b<W.heap.size)(hown:W.ownsRow base 3 1 (.slice oa ol oc) ol xs)(hne:∀x,oa=some x→x.block≠b)(hg:(W.alloc o).grownBy w1 (Value.ownBlock (.slice oa ol oc))):
 w1.cell? ⟨b,0,none⟩=W.cell? ⟨b,0,none⟩∧w1.frozen? ⟨b,0,none⟩=W.frozen? ⟨b,0,none⟩:=by
 have hb:w1.heap[b]? =W.heap[b]?:=(hg.block b (by simp;omega) (fun e=>y0f hown hne e.symm)).trans (D0 W _ hlt)
 exact⟨by unfold World.cell?;simp only[hb],by unfold World.frozen?;simp only[hb]⟩
theorem w0E(v:y4)(i:Nat)(oa:Option Addr)(ol oc M:Nat)(W:World)(xs:List Value)(base:Nat)(hbase:base≤W.heap.size)
 (hc:W.cell? ⟨v.od,0,none⟩=some (.slice oa ol oc)) (hz:W.frozen? ⟨v.od,0,none⟩=false) (hown:W.ownsRow base 3 1 (.slice oa ol oc) ol xs) (hne:∀x,oa=some x→x.block≠v.od) (hol:ol<2000000):
 step1App.wp Tryd.prog (k09 g v i oa ol oc M base xs W) (a0p g v i oa ol oc M) W:=by
 obtain⟨i0,hi,hz0,hz1,hz2⟩:=A0X
 have hlt:v.od<W.heap.size:=by
  unfold World.cell? at hc
  rcases Nat.lt_or_ge v.od W.heap.size with h|h
  ·exact h
  ·simp[Array.getElem?_eq_none h]at hc
 simp only[step1App,l5,Tryd.f66,Option.getD_some,a0p]
 go_wp2_with (at_builtin;refine wpList_append_own _ rfl _ _ 24 rfl base 3 i0 (vI 0) 1 8 Tryd.underlying24 hi hz0 hz1 hz2 rfl (by decide) _ _ _ rfl (hown.alloc _) ⟨W.heap.size,0,none⟩ 1 1 [vI i] rfl rfl (cell_one_new _ _ _) (fun x hx=>by simp at hx;subst hx;rfl) (by unfold maxLen;omega) (by omega) (by simp;omega) ?_;intro nv w1 ho1 hg1 _;obtain⟨g3,cap3,hg3⟩:=f0j ho1;subst hg3;have hc1:=(e0N hlt hown hne hg1).1.trans hc;have hz1:=(e0N hlt hown hne hg1).2.trans hz;clear hz2)
 exact⟨rfl,_,w1,rfl,ho1,hg1,rfl⟩
end
section
variable{g:M1}{F:Fz}{N:Nat→Prop}{w w':World}
theorem I2{r:Nat}(h:F r=none):(L1 F w).heap[r]? =w.heap[r]?:=by
 rw[L4]
 cases ho:w.heap[r]? with
 | none=>rfl
 | some o=>cases o<;>simp[J3,h]
theorem l9(a:Addr):(L1 F w).cell? a=w.cell? a:=by
 unfold World.cell?
 rw[L4]
 cases ho:w.heap[a.block]? with
 | none=>rfl
 | some o=>cases o<;>rfl
theorem e0U{a:Addr}(h:F a.block=none):(L1 F w).frozen? a=w.frozen? a:=by
 unfold World.frozen?
 rw[I2 h]
theorem g0b(hg:Gd (FT N w) w w'){r:Nat}{cur:Array Value}{e:TypeId}(h:(L1 (FT N w) w').heap[r]? =some (.cells cur e (0,0)))(hc:0<cur.size):FT N w r=none:=by
 cases hF:FT N w r with
 | none=>rfl
 | some z=>
   exfalso
   have h0:=hF
   unfold FT at h0
   split at h0
   ·rename_i c e1 z0 heq
    split at h0
    ·cases h0
     rcases hg.objs r _ heq with⟨c1,e2,z1,c',h1,h2,h3⟩|h2
     ·cases h1
      rw[L4,h2]at h
      simp only[Option.map_some,J3,hF,Option.getD_some,Option.some.injEq,Obj.cells.injEq,Prod.mk.injEq]at h
      obtain⟨rfl,_,_,h4⟩:=h
      omega
     ·rw[L4,h2]at h
      simp only[Option.map_some,J3,hF,Option.getD_some,Option.some.injEq,Obj.cells.injEq,Prod.mk.injEq]at h
      obtain⟨rfl,_,_,h4⟩:=h
      omega
    ·cases h0
   ·cases h0
theorem p0z(hg:Gd (FT N w) w w'){r:Nat}{cur:Array Value}{e:TypeId}(h:(L1 (FT N w) w').heap[r]? =some (.cells cur e (0,0)))(hc:0<cur.size):w'.heap[r]? =some (.cells cur e (0,0)):=by
 rw[I2 (g0b hg h hc)]at h
 exact h
theorem k0j{r:Nat}(h:FT N w r=none){a:Addr}{v:Value}(hl:Z1 w a v)(hN:N a.block):a.block≠r:=by
 rintro rfl
 obtain⟨z,hz,_⟩:=b0h hl hN
 rw[h]at hz
 cases hz
theorem E8{W W':World}{base n:Nat}{v:Value}{xs:List Value}(h:W.ownsRow base 3 1 v n xs)(hb:∀b,Value.ownBlock v=some b→W'.heap[b]? =W.heap[b]?):W'.ownsRow base 3 1 v n xs:=by
 refine⟨h.1,?_⟩
 rcases h.2 with h2|⟨b,cap,cur,rfl,h3,h4,h5⟩
 ·exact .inl h2
 ·exact .inr ⟨b,cap,cur,rfl,h3,(hb b rfl).trans h4,h5⟩
theorem e08(hg:Gd (FT N w) w w'){base n:Nat}{v:Value}{xs:List Value}(h:(L1 (FT N w) w').ownsRow base 3 1 v (n+1) xs):w'.ownsRow base 3 1 v (n+1) xs∧∀b,Value.ownBlock v=some b→FT N w b=none:=by
 rcases h.2 with h2|⟨b,cap,cur,rfl,h3,h4,h5,h6,h7,h8⟩
 ·omega
 ·refine⟨⟨h.1,.inr ⟨b,cap,cur,rfl,h3,p0z hg h4 (by omega),h5,h6,h7,h8⟩⟩,fun b' hb=>?_⟩
  simp only[Value.ownBlock,Option.some.injEq]at hb
  subst hb
  exact g0b hg h4 (by omega)
end
section
variable{g:M1}{w w':World}
def W3(v:y4)(oa:Option Addr):Nat→Prop:=fun r=>r≠v.od∧∀x,oa=some x→x.block≠r
def o0n(g:M1)(v:y4)(i:Nat)(oa:Option Addr)(ol oc M base:Nat)(xs:List Value)(cs:List Frame)(w:World)(a:Goroutine)(w':World):Prop:=
 Gd (FT (W3 v oa) w) w w'∧∃b nv,a=G ((Go.Conc.base 66).at (a05 g v i oa ol oc M b nv) [.code U5]) cs∧(w'.ownsRow base 3 1 nv (ol+1) (xs++[vI i])∧∀b,Value.ownBlock nv=some b→FT (W3 v oa) w b=none)∧(∃c,w'.heap[v.od]? =some (.cells c 24 (0,0))∧c[0]? =some nv)
theorem w0D:Q5 Tryd.prog (fun _=>false) false step1App=true:=by kernel_rfl
theorem s0L{v:y4}{i:Nat}{oa:Option Addr}{ol oc M base:Nat}{xs:List Value}(hbase:base≤w.heap.size)(hod:∃c,w.heap[v.od]? =some (.cells c 24 (0,0))∧c[0]? =some (.slice oa ol oc))(hown:w.ownsRow base 3 1 (.slice oa ol oc) ol xs)(hol:ol<2000000){cs:List Frame}:
 J0 Tryd.prog true (FT (W3 v oa) w) (o0n g v i oa ol oc M base xs cs w) (G ((Go.Conc.base 66).at (a0p g v i oa ol oc M) [.code step1App,.code U5]) cs) w:=by
 obtain⟨c,ho1,ho2⟩:=hod
 have hne:∀x,oa=some x→x.block≠v.od:=by
  rintro x rfl e
  rcases hown.2 with⟨h,_⟩|⟨b,cap,cur,h,_,h4,_⟩
  ·cases h
  ·cases h
   simp only at e
   rw[e,ho1]at h4
   cases h4
 have hFo:FT (W3 v oa) w v.od=none:=d0Z fun h=>h.1 rfl
 have hFr:∀x,oa=some x→FT (W3 v oa) w x.block=none:=fun x hx=>d0Z fun h=>h.2 x hx rfl
 refine q0b (q0a (Q:=fun e a' W'=>∃W,W.heap=(L1 (FT (W3 v oa) w) w).heap∧k09 g v i oa ol oc M base xs W e a' W') ready0 false (by simp) w0D (l0A w) rfl (fun e a w h=>by obtain⟨_,_,h,_⟩:=h;exact .inl h) (fun τ e=>?_) (by decide)) fun a' w' hE=>?_
 ·refine Code.wp_mono (fun e1 a1 w1 h=>⟨retape (L1 (FT (W3 v oa) w) w) τ e,rfl,h⟩) (w0E v i oa ol oc M _ xs base (by simpa [retape]using hbase) ?_ ?_ (E8 hown fun b hb=>?_) hne hol)
  ·have:=l9 (F:=FT (W3 v oa) w) (w:=w) ⟨v.od,0,none⟩
   refine(show _=_ from this).trans ?_
   simp[World.cell?,ho1,ho2]
  ·refine(show _=_ from e0U (F:=FT (W3 v oa) w) (w:=w) (a:=⟨v.od,0,none⟩) hFo).trans ?_
   simp[World.frozen?,ho1]
  ·cases oa with
   | none=>cases hb
   | some x=>cases hb;exact I2 (hFr x rfl)
 ·obtain⟨hwf,hg,⟨a1,τ,e,rfl,W,hW,h0,nv,w1,h1,h2,h3,h4⟩|⟨_,_,_,_,_,_,_,h0,_⟩⟩:=hE
  ·refine⟨hg,_,nv,by rw[h1],?_,?_⟩
   ·refine e08 hg ?_
    have:(retape (L1 (FT (W3 v oa) w) w') τ e).ownsRow base 3 1 nv (ol+1) (xs++[vI i]):=by
     rw[h4]
     refine E8 h2 fun b hb=>o0 _ _ _ ?_
     rintro rfl
     have e1:w1.heap[v.od]? =some (.cells c 24 (0,0)):=by
      have hlt:v.od<W.heap.size:=by rw[hW,M4];exact(Q3 ho1)
      rw[h3.block v.od (by simp;omega) (fun e=>by
       cases oa with
       | none=>cases e
       | some x=>simp only[Value.ownBlock,Option.some.injEq]at e;exact hne x rfl e.symm),D0 _ _ hlt,hW,I2 hFo]
      exact ho1
     rcases h2.2 with⟨_,h⟩|⟨b,cap,cur,hv,_,h5,_⟩
     ·omega
     ·subst hv
      simp only[Value.ownBlock,Option.some.injEq]at hb
      rw[hb,e1]at h5
      cases h5
    exact this
   ·have hlt:v.od<W.heap.size:=by rw[hW,M4];exact(Q3 ho1)
    have e1:w1.heap[v.od]? =some (.cells c 24 (0,0)):=by
     rw[h3.block v.od (by simp;omega) (fun e=>by
      cases oa with
      | none=>cases e
      | some x=>simp only[Value.ownBlock,Option.some.injEq]at e;exact hne x rfl e.symm),D0 _ _ hlt,hW,I2 hFo]
     exact ho1
    have e2:(retape (L1 (FT (W3 v oa) w) w') τ e).heap[v.od]? =w'.heap[v.od]?:=I2 hFo
    rw[h4]at e2
    have hc0:0<c.size:=(Q3 ho2)
    exact⟨c.setIfInBounds 0 nv,by rw[← e2];simp[World.setCell,Array.getElem?_modify,e1],by simp[hc0]⟩
  ·cases h0
end
noncomputable section
variable {cs:List Frame}{main:Bool}{Stop:Goroutine→World→Prop}
variable{g:M1}{F:Fz}{w w':World}
def d0a:Code:=match U5 with| .seq c _=>c|_=>.skip
def a0q:Array Oper:=match d0a with| .region _ o _=>o|_=> #[]
def d0b:Code:=match U5 with| .seq _ c=>c|_=>.skip
def r9(g:M1)(v:y4)(i:Nat)(oa:Option Addr)(ol oc M:Nat)(b nv:Value):Frame:=
 (Go.Conc.base 66).at ⟨#[vI i,vP v.n 0,vP g.tv 0,vP v.od 0,vP v.mo 0,vP v.lf 0,undef,vI i,.bool false,.bool false,vI i,vI g.n,.bool false,.bool false,.bool false,
   vP g.tb 0,vP g.tb 0,vP g.tb 1,vL g.sa 0 g.n g.sc,vI i,vP g.sa i,vP (g.st i) 0,vP (g.st i) 0,vP (g.st i) 2,.bool false,.bool false,.bool false,
   .slice oa ol oc,vI ol,vI M,.bool false,.bool false,.slice oa ol oc,vI i,b,nv,vP g.tb 0,vI i,undef,undef,undef,undef,undef,undef,undef,undef,undef,undef,undef,undef,undef],[]⟩ [.inRegion a0q [2],.code d0b]
theorem f0k:O1 67:=G2 Tryd.func67 rfl rfl
theorem k0X{v:y4}{i:Nat}{oa:Option Addr}{ol oc M:Nat}{b nv:Value}(hK:g.K w)
 (h:J0 Tryd.prog main F Stop (G (Frame.enter Tryd.prog 67 #[vP g.tb 0,vI i,.bool true] .normal) (r9 g v i oa ol oc M b nv::cs)) w):
 J0 Tryd.prog main F Stop (G ((Go.Conc.base 66).at (a05 g v i oa ol oc M b nv) [.code U5]) cs) w:=by
 have c1:=(hK _ _ .tv).c
 have z1:=(hK _ _ .tv).z
 have hc:=f0k
 simp only[U5,l5,Tryd.f66,Option.getD_some,a05,a0p]
 walk_nrm
 refine ogS ?_
 (refine ogR ?_;simp only[List.size_toArray,List.length_cons,List.length_nil,Nat.reduceAdd,Nat.zero_add,List.range,List.range.loop])
 refine oL ?_
 refine oT ?_
 refine Y7 (f:=67) (args:= #[vP g.tb 0,vI i,.bool true]) rfl rfl (by decide) (fun w=>by simp[execOp,Act.eval,resolve,invoke,Deferred.ofValue,hc.run]) (fun w=>by simp[execOp,Act.eval,resolve,invoke,Deferred.ofValue,hc.run,hc.quiet]) ?_
 exact h
theorem h0M [ok:Fits g] {v:y4}{i:Nat} [hi:Has g i] {oa:Option Addr}{ol oc M:Nat}{b nv:Value}(hK:g.K w)(ho:Z1 w ⟨g.st i,2,none⟩ (.bool false)){c:Frame}
 (h:J0 Tryd.prog main F Stop (G (c.finish (.tuple #[])) cs) w):
 J0 Tryd.prog main F Stop (G ((r9 g v i oa ol oc M b nv).finish (.tuple #[])) (c::cs)) w:=by
 have hin:=hi.lt
 have hsl:=ok.ok.sl (Nat.lt_of_le_of_lt (Nat.zero_le _) hin)
 have c2:=(hK _ _ .tv).c
 have z2:=(hK _ _ .tv).z
 have c3:=(hK _ _ .stands).c
 have z3:=(hK _ _ .stands).z
 have c4:=(hK _ _ (.stand i hin)).c
 have z4:=(hK _ _ (.stand i hin)).z
 have c5:=ho.c
 have z5:=ho.z
 rw[hsl]at c3
 unfold r9
 rw[Frame.finish_at]
 simp only[a0q,d0a,d0b,U5,l5,Tryd.f66,Option.getD_some]
 walk_nrm
 refine ogE<|ogS ?_
 (refine ogR ?_;simp only[List.size_toArray,List.length_cons,List.length_nil,Nat.reduceAdd,Nat.zero_add,List.range,List.range.loop])
 refine oL ?_
 iterate 2 refine oT ?_
 refine oL ?_
 refine oT ?_
 refine oX ?_
 refine oL ?_
 iterate 2 refine oT ?_
 refine oL ?_
 refine ogE<|ogG<|ogK ?_
 refine M0 rfl (fun d=>stepG_end) ?_
 refine M0 rfl (fun d=>stepG_leave (fn:=Tryd.f66) (v:=.tuple #[]) rfl rfl Tryd.func66 (by simp[results,Tryd.f66]) (by simp[results,Tryd.f66,go_sem])) ?_
 exact h
theorem k00 [ok:Fits g] {v:y4}{i:Nat} [hi:Has g i] {oa:Option Addr}{ol oc M:Nat}{b nv:Value}(hK:g.K w)(ho:Z1 w ⟨g.st i,2,none⟩ (.bool true)){lf:Nat}(hl:Z1 w ⟨v.lf,0,none⟩ (vI (lf+1:Nat)))(hlf:lf<1000000)(hnh:¬held F ⟨v.lf,0,none⟩){c:Frame}
 (h:J0 Tryd.prog main F Stop (G (c.finish (.tuple #[])) cs) (w.setCell ⟨v.lf,0,none⟩ (vI lf))):
 J0 Tryd.prog main F Stop (G ((r9 g v i oa ol oc M b nv).finish (.tuple #[])) (c::cs)) w:=by
 have hin:=hi.lt
 have hsl:=ok.ok.sl (Nat.lt_of_le_of_lt (Nat.zero_le _) hin)
 have c2:=(hK _ _ .tv).c
 have z2:=(hK _ _ .tv).z
 have c3:=(hK _ _ .stands).c
 have z3:=(hK _ _ .stands).z
 have c4:=(hK _ _ (.stand i hin)).c
 have z4:=(hK _ _ (.stand i hin)).z
 have c5:=ho.c
 have z5:=ho.z
 have c6:=hl.c
 have z6:=hl.z
 rw[hsl]at c3
 have hw:IntKind.i64.wrap (((lf+1:Nat):Int) - 1)=(lf:Int):=by
  rw[show(((lf+1:Nat):Int) - 1)=(lf:Int)by omega]
  exact IntWalk.i64_in _ (by omega)
 have hw2:IntKind.i64.wrap ((lf:Int)+1 - 1)=(lf:Int):=by
  rw[show((lf:Int)+1 - 1)=(lf:Int)by omega]
  exact IntWalk.i64_in _ (by omega)
 unfold r9
 rw[Frame.finish_at]
 simp only[a0q,d0a,d0b,U5,l5,Tryd.f66,Option.getD_some]
 walk_nrm
 refine ogE<|ogS ?_
 (refine ogR ?_;simp only[List.size_toArray,List.length_cons,List.length_nil,Nat.reduceAdd,Nat.zero_add,List.range,List.range.loop])
 refine oL ?_
 iterate 2 refine oT ?_
 refine oL ?_
 refine oT ?_
 refine oX ?_
 refine oL ?_
 iterate 2 refine oT ?_
 refine oL ?_
 refine ogE<|ogY ?_
 (refine ogR ?_;simp only[List.size_toArray,List.length_cons,List.length_nil,Nat.reduceAdd,Nat.zero_add,List.range,List.range.loop])
 refine oL ?_
 refine oT ?_
 refine J0.of_goes rfl (fun dd=>?_);refine goes_oper_k rfl rfl (by decide) (fun K hK=>?_)
 go_simp
 refine hK _ _ ⟨⟨⟨0,E0 rfl hnh _⟩,fun e he=>by(have hm:=mem_listed he;clear he hK;simp[go_sem,storedEv,c6,z6]at hm;subst hm;exact U0 _ _ hnh)⟩,?_⟩;clear hK K;rw[setCell_at'];refine J0.at ?_ dd
 refine ogE ?_
 refine M0 rfl (fun d=>stepG_end) ?_
 refine M0 rfl (fun d=>stepG_leave (fn:=Tryd.f66) (v:=.tuple #[]) rfl rfl Tryd.func66 (by simp[results,Tryd.f66]) (by simp[results,Tryd.f66,go_sem])) ?_
 rw[IntWalk.i64_in (lf:Int) (by omega)]
 exact h
end
section
variable{g:M1}{F:Fz}{Z:C4}{vs:Nat→V5}{N:Nat→Prop}{ov:Nat→Bool}{x:Z.X}{w w':World}
structure G7(Z:C4)(g:M1)(vs:Nat→V5)(Al N:Nat→Prop)(b:Nat):Prop where
 n:N b
 st:∀j,j<g.n→b≠g.st j
 br:b≠g.br
 place:∀a u,g.Place a u→b≠a.block
 vars:∀j,Al j→b≠(vs j).x∧b≠(vs j).i∧b≠(vs j).e
 inp:Z.I b=none
theorem G7.mono{Al Al' N:Nat→Prop}{b:Nat}(h:G7 Z g vs Al N b)(hA:∀j,Al' j→Al j):G7 Z g vs Al' N b:=⟨h.n,h.st,h.br,h.place,fun j hj=>h.vars j (hA j hj),h.inp⟩
structure MI(Z:C4)(g:M1)(vs:Nat→V5)(Al N:Nat→Prop)(v:y4)(base M:Nat)(oa:Option Addr)(ol oc:Nat)(xs:List Value)(lf:Nat)(w:World):Prop where
 n:Z1 w ⟨v.n,0,none⟩ (vI g.n)
 mo:Z1 w ⟨v.mo,0,none⟩ (vI M)
 lf:Z1 w ⟨v.lf,0,none⟩ (vI lf)
 od:∃c,w.heap[v.od]? =some (.cells c 24 (0,0))∧c[0]? =some (.slice oa ol oc)
 row:w.ownsRow base 3 1 (.slice oa ol oc) ol xs
 an:G7 Z g vs Al N v.n
 amo:G7 Z g vs Al N v.mo
 alf:G7 Z g vs Al N v.lf
 aod:G7 Z g vs Al N v.od
 arow:∀y,oa=some y→G7 Z g vs Al N y.block
 dn:v.n≠v.od∧v.mo≠v.od∧v.lf≠v.od∧v.lf≠v.n∧v.lf≠v.mo
 drow:∀y,oa=some y→y.block≠v.n∧y.block≠v.mo∧y.block≠v.lf
 base:base≤w.heap.size
variable{Al Al':Nat→Prop}{v:y4}{base M:Nat}{oa:Option Addr}{ol oc:Nat}{xs:List Value}{lf:Nat}
theorem MI.mono(h:MI Z g vs Al N v base M oa ol oc xs lf w)(hA:∀j,Al' j→Al j):MI Z g vs Al' N v base M oa ol oc xs lf w:=
 ⟨h.n,h.mo,h.lf,h.od,h.row,h.an.mono hA,h.amo.mono hA,h.alf.mono hA,h.aod.mono hA,fun y hy=>(h.arow y hy).mono hA,h.dn,h.drow,h.base⟩
theorem MI.kept(h:MI Z g vs Al N v base M oa ol oc xs lf w){i:Nat}(hi:i<g.n)(hA:Al i)(k:Z4 g N vs i w w'):MI Z g vs Al N v base M oa ol oc xs lf w':=by
 have lk:∀b u,Z1 w ⟨b,0,none⟩ u→G7 Z g vs Al N b→Z1 w' ⟨b,0,none⟩ u:=fun b u hl ha=>k.lies _ _ hl ha.n (.inl (ha.st i hi)) (ha.vars i hA).2.2 (.inl ha.br)
 obtain⟨c,h1,h2⟩:=h.od
 have hs:∀b c e,w.heap[b]? =some (.cells c e (0,0))→G7 Z g vs Al N b→w'.heap[b]? =w.heap[b]?:=fun b c e hb ha=>k.same b c e _ hb ha.n (ha.st i hi) (ha.vars i hA).2.2 ha.br
 refine⟨lk _ _ h.n h.an,lk _ _ h.mo h.amo,lk _ _ h.lf h.alf,⟨c,(hs _ _ _ h1 h.aod).trans h1,h2⟩,E8 h.row fun b hb=>?_,h.an,h.amo,h.alf,h.aod,h.arow,h.dn,h.drow,Nat.le_trans h.base k.size⟩
 cases oa with
 | none=>cases hb
 | some y=>
   simp only[Value.ownBlock,Option.some.injEq]at hb
   subst hb
   rcases h.row.2 with⟨h3,_⟩|⟨b,cap,cur,h3,_,h4,_⟩
   ·cases h3
   ·cases h3
    exact hs _ _ _ h4 (h.arow _ rfl)
end
section
variable{g:M1}{F:Fz}{Z:C4}{vs:Nat→V5}{N:Nat→Prop}{ov:Nat→Bool}{x:Z.X}{w w':World}{Al Al':Nat→Prop}{v:y4}{base M:Nat}{oa:Option Addr}{ol oc:Nat}{xs:List Value}{lf:Nat}
theorem n01(hg:Gd (FT (W3 v oa) w) w w'){b:Nat}{cur:Array Value}(h:w'.heap[b]? =some (.cells cur 3 (0,0)))(hf:FT (W3 v oa) w b=none)(hod:∃c,w.heap[v.od]? =some (.cells c 24 (0,0))):(∃y,oa=some y∧y.block=b)∨w.heap.size≤b:=by
 rcases Nat.lt_or_ge b w.heap.size with hlt|hge
 ·refine .inl (Classical.byContradiction fun hno=>?_)
  have hne:∀y,oa=some y→y.block≠b:=fun y hy e=>hno ⟨y,hy,e⟩
  obtain⟨o,ho⟩:∃o,w.heap[b]? =some o:=⟨_,Array.getElem?_eq_getElem hlt⟩
  rcases hg.objs b o ho with⟨c1,e1,z1,c',rfl,h2,_⟩|h2
  ·rw[h]at h2
   cases h2
   by_cases e:b=v.od
   ·subst e
    obtain⟨c,hc⟩:=hod
    rw[hc]at ho
    cases ho
   ·unfold FT at hf
    rw[ho]at hf
    simp only at hf
    rw[if_pos ⟨e,hne⟩]at hf
    cases hf
  ·rw[h]at h2
   cases h2
   by_cases e:b=v.od
   ·subst e
    obtain⟨c,hc⟩:=hod
    rw[hc]at ho
    cases ho
   ·unfold FT at hf
    rw[ho]at hf
    simp only at hf
    rw[if_pos ⟨e,hne⟩]at hf
    cases hf
 ·exact .inr hge
def e0M(N:Nat→Prop)(w w':World):Nat→Prop:=fun r=>N r∨(w.heap.size≤r∧r<w'.heap.size)
theorem TI.grown(zok:Z.Ok g)(H0:TI Z g Al vs N ov x w)(H:TI Z g Al vs N ov x w'):TI Z g Al vs (e0M N w w') ov x w':=
 ⟨H.u,H.over,H.brk,H.vars,H.chans,fun r hr hn=>by
  rcases hn with hn|hn
  ·exact H.apart r hr hn
  ·have:=zok.low x w r H0.u hr;omega,
  fun r hr=>by rcases hr with hr|hr;exact H.nlow r hr;exact hr.2,fun a u p=>.inl (H.nplace a u p),fun j hj=>.inl (H.nst j hj),fun h=>.inl (H.nbr h),fun j hj=>by obtain⟨h1,h2,h3⟩:=H.nvars j hj;exact⟨.inl h1,.inl h2,.inl h3⟩,fun c hc=>.inl (H.nchan c hc),H.vsep,fun r hr=>by obtain⟨h1,h2⟩:=H.inp r hr;exact⟨.inl h1,h2⟩⟩
theorem G7.grown{b:Nat}(h:G7 Z g vs Al N b)(w w':World):G7 Z g vs Al (e0M N w w') b:=⟨.inl h.n,h.st,h.br,h.place,h.vars,h.inp⟩
theorem MI.noted(zok:Z.Ok g)(H:TI Z g Al vs N ov x w)(hn:0<g.n)(hK:g.K w)(h:MI Z g vs Al N v base M oa ol oc xs lf w){i:Nat}{cs:List Frame}{a:Goroutine}(hN:o0n g v i oa ol oc M base xs cs w a w'):
 ∃b nv oa' oc',nv= .slice oa' (ol+1) oc'∧a=G ((Go.Conc.base 66).at (a05 g v i oa ol oc M b nv) [.code U5]) cs∧MI Z g vs Al (e0M N w w') v base M oa' (ol+1) oc' (xs++[vI i]) lf w':=by
 obtain⟨hg,b,nv,rfl,⟨hrow,hfree⟩,c',hod1,hod2⟩:=hN
 obtain⟨b1,oc',hnv⟩:=f0j hrow
 subst hnv
 refine⟨b,_,some ⟨b1,0,none⟩,oc',rfl,rfl,?_⟩
 obtain⟨cod,hod,_⟩:=h.od
 have hf:FT (W3 v oa) w b1=none:=hfree b1 rfl
 have hb1:∃cur,w'.heap[b1]? =some (.cells cur 3 (0,0)):=by
  rcases hrow.2 with⟨h3,_⟩|⟨b2,cap,cur,h3,_,h4,_⟩
  ·cases h3
  ·cases h3;exact⟨cur,h4⟩
 obtain⟨cur,hb1⟩:=hb1
 have hwh:=n01 hg hb1 hf ⟨cod,hod⟩
 have hkeep:∀{a u},Z1 w a u→a.block≠v.od→(∀y,oa=some y→y.block≠a.block)→Z1 w' a u:=fun hl h1 h2=>s7 hg hl ⟨h1,h2⟩
 have hsep:∀{a u},Z1 w a u→a.block≠v.od→(∀y,oa=some y→y.block≠a.block)→b1≠a.block:=fun hl h1 h2=>(k0j hf hl ⟨h1,h2⟩).symm
 obtain⟨d1,d2,d3,d4,d5⟩:=h.dn
 have r1:=fun y hy=>(h.drow y hy).1
 have r2:=fun y hy=>(h.drow y hy).2.1
 have r3:=fun y hy=>(h.drow y hy).2.2
 refine⟨hkeep h.n d1 r1,hkeep h.mo d2 r2,hkeep h.lf d3 r3,⟨c',hod1,hod2⟩,hrow,h.an.grown _ _,h.amo.grown _ _,h.alf.grown _ _,h.aod.grown _ _,fun y hy=>?_,h.dn,fun y hy=>?_,Nat.le_trans h.base hg.size⟩
 ·cases hy
  have hb1lt:b1<w'.heap.size:=(Q3 hb1)
  rcases hwh with⟨y,hy,e⟩|hge
  ·have:=(h.arow y hy).grown w w'
   rw[e]at this
   exact this
  ·refine⟨.inr ⟨hge,hb1lt⟩,fun j hj e=>?_,fun e=>?_,fun a u p e=>?_,fun j hj=>?_,?_⟩
   ·have:=(H.over j hj).lt;simp only at this e;omega
   ·obtain⟨bb,hbb⟩:=H.brk 0 hn;have:=hbb.lt;simp only at this e;omega
   ·have:=(hK a u p).lt;simp only at e;omega
   ·have q1:=(H.vars j hj).x.lt
    have q2:=(H.vars j hj).i.lt
    have q3:=(H.vars j hj).e.lt
    simp only at q1 q2 q3 ⊢
    omega
   ·cases e:Z.I b1 with
    | none=>rfl
    | some o=>have:=H.ilow zok (r:=b1) (by rw[e];simp);omega
 ·cases hy
  exact⟨hsep h.n d1 r1,hsep h.mo d2 r2,hsep h.lf d3 r3⟩
end
section
variable{g:M1}{F:Fz}{Z:C4}{vs:Nat→V5}{N B:Nat→Prop}{ov:Nat→Bool}{x:Z.X}{w w':World}{Al Al':Nat→Prop}{v:y4}{base M:Nat}{oa:Option Addr}{ol oc:Nat}{xs:List Value}{lf:Nat}
theorem TI.gd(zok:Z.Ok g)(H:TI Z g Al vs N ov x w)(hg:Gd (FT B w) w w')(hst:∀j,j<g.n→B (g.st j))(hbr:0<g.n→B g.br)(hvars:∀j,Al j→B (vs j).x∧B (vs j).i∧B (vs j).e)(hR:∀r,Z.R x r∨Z.I r≠none→B r):TI Z g Al vs N ov x w':=
 ⟨zok.stable x w w' H.u hg.size fun r hr=>g0Y hg (hR r hr) (hr.elim (zok.low x w r H.u) (H.ilow zok)),fun j hj=>s7 hg (H.over j hj) (hst j hj),fun j hj=>(H.brk j hj).imp fun b h=>s7 hg h (hbr (by omega)),fun j hj=>(H.vars j hj).of fun a u h e=>s7 hg h (by
  obtain⟨h1,h2,h3⟩:=hvars j hj
  rcases e with e|e|e<;>rw[e]<;>assumption),fun c hc=>by obtain⟨cap,k,h⟩:=H.chans c hc;exact⟨cap,k,l0m hg h⟩,
  H.apart,fun r h=>Nat.lt_of_lt_of_le (H.nlow r h) hg.size,H.nplace,H.nst,H.nbr,H.nvars,H.nchan,H.vsep,H.inp⟩
theorem TI.noted(zok:Z.Ok g)(H:TI Z g Al vs N ov x w)(h:MI Z g vs Al N v base M oa ol oc xs lf w){i:Nat}{cs:List Frame}{a:Goroutine}(hN:o0n g v i oa ol oc M base xs cs w a w'):
 TI Z g Al vs (e0M N w w') ov x w':=by
 have hR:∀r,Z.R x r∨Z.I r≠none→W3 v oa r:=fun r hr=>hr.elim (fun hr=>⟨fun e=>H.apart r hr (e ▸ h.aod.n),fun y hy e=>H.apart r hr (e ▸ (h.arow y hy).n)⟩) fun hr=>⟨fun e=>hr (e ▸ h.aod.inp),fun y hy e=>hr (e ▸ (h.arow y hy).inp)⟩
 have h1:=H.gd zok hN.1 (fun j hj=>⟨(h.aod.st j hj).symm,fun y hy=>(h.arow y hy).st j hj⟩) (fun hn=>⟨h.aod.br.symm,fun y hy=>(h.arow y hy).br⟩)
  (fun j hj=>⟨⟨(h.aod.vars j hj).1.symm,fun y hy=>((h.arow y hy).vars j hj).1⟩,⟨(h.aod.vars j hj).2.1.symm,fun y hy=>((h.arow y hy).vars j hj).2.1⟩,⟨(h.aod.vars j hj).2.2.symm,fun y hy=>((h.arow y hy).vars j hj).2.2⟩⟩) hR
 exact H.grown zok h1
theorem r0R(H:TI Z g Al vs N ov x w)(hK:g.K w)(h:MI Z g vs Al N v base M oa ol oc xs lf w)(hg:Gd (FT (W3 v oa) w) w w'):g.K w':=
 ⟨fun a u p=>s7 hg (hK a u p) ⟨(h.aod.place a u p).symm,fun y hy=>(h.arow y hy).place a u p⟩,hK.an.gd hg⟩
theorem l0i(hK:g.K w)(h:MI Z g vs Al N v base M oa ol oc xs lf w):∀a u,g.Place a u→held (FT (W3 v oa) w) a:=
 fun a u p=>b0h (hK a u p) ⟨(h.aod.place a u p).symm,fun y hy=>(h.arow y hy).place a u p⟩
end
section
open Go.ConcN (sumTo upd sumTo_upd upd_ne upd_same)
variable{g:M1}{F:Fz}{Z:C4}{A:Nat→Bool}{vs:Nat→V5}{N B:Nat→Prop}{ov:Nat→Bool}{x:Z.X}{w w':World}{s0 nn:Nat}{Gl:Machine→Trace→Prop}{v:y4}{base M:Nat}{oa:Option Addr}{ol oc:Nat}{xs:List Value}{lf:Nat}
theorem MI.at{Al:Nat→Prop}(h:MI Z g vs Al N v base M oa ol oc xs lf w)(d:Nat):MI Z g vs Al N v base M oa ol oc xs lf (w.at d):=
 ⟨h.n.at d,h.mo.at d,h.lf.at d,h.od,h.row,h.an,h.amo,h.alf,h.aod,h.arow,h.dn,h.drow,h.base⟩
theorem TI.setLf{Al:Nat→Prop}{b:Nat}{u:Value}(zok:Z.Ok g)(H:TI Z g Al vs N ov x w)(ha:G7 Z g vs Al N b):TI Z g Al vs N ov x (w.setCell ⟨b,0,none⟩ u):=by
 have hL:∀a v,Z1 w a v→a.block≠b→Z1 (w.setCell ⟨b,0,none⟩ u) a v:=fun a v h h1=>h.setCell (.inl (Ne.symm h1)) rfl
 refine⟨zok.stable x w _ H.u (by simp) (fun r hr=>o0 _ _ _ (hr.elim (fun hr e=>H.apart r hr (e ▸ ha.n)) fun hr e=>hr (e ▸ ha.inp))),fun j hj=>hL _ _ (H.over j hj) (ha.st j hj).symm,fun j hj=>(H.brk j hj).imp fun _ h=>hL _ _ h (Ne.symm ha.br),fun j hj=>(H.vars j hj).of fun a u h e=>hL a u h ?_,
  fun c hc=>?_,H.apart,fun r h=>by simpa using H.nlow r h,H.nplace,H.nst,H.nbr,H.nvars,H.nchan,H.vsep,H.inp⟩
 ·obtain⟨h1,h2,h3⟩:=ha.vars j hj
  rcases e with e|e|e<;>rw[e]<;>first|exact Ne.symm h1|exact Ne.symm h2|exact Ne.symm h3
 ·obtain⟨cap,k,h⟩:=H.chans c hc
  by_cases e:c=b
  ·subst e
   exact⟨cap,k,by simp[World.setCell,Array.getElem?_modify,h]⟩
  ·exact⟨cap,k,(o0 _ _ _ e).trans h⟩
theorem MI.setLf{Al:Nat→Prop}{l1:Nat}(h:MI Z g vs Al N v base M oa ol oc xs lf w):MI Z g vs Al N v base M oa ol oc xs l1 (w.setCell ⟨v.lf,0,none⟩ (vI l1)):=by
 obtain⟨d1,d2,d3,d4,d5⟩:=h.dn
 obtain⟨c,h1,h2⟩:=h.od
 refine⟨h.n.setCell (.inl d4) rfl,h.mo.setCell (.inl d5) rfl,h.lf.put,⟨c,(o0 _ _ _ (Ne.symm d3)).trans h1,h2⟩,E8 h.row fun b hb=>o0 _ _ _ ?_,h.an,h.amo,h.alf,h.aod,h.arow,h.dn,h.drow,by simpa using h.base⟩
 cases oa with
 | none=>cases hb
 | some y=>
   simp only[Value.ownBlock,Option.some.injEq]at hb
   subst hb
   exact(h.drow _ rfl).2.2
theorem r0z [ok:Fits g] (zok:Z.Ok g)(hs0:0<s0)(hAn:∀j,A j=true→j<g.n∧s0+j<nn){i:Nat}(hA:A i=true)(hl:Z.liv x i=true)(H:TI Z g (fun j=>A j=true) vs N ov x w)(hov:ov i=false)
 (HM:MI Z g vs (fun j=>A j=true) N v base M oa ol oc xs lf w) (hM:ol≠M) (hol:ol<2000000) (hlf:0<lf) (hlf2:lf<1000000) {ms:Option Seat} {c:Frame} {cs:List Frame}
 (hk:∀y w' N' oa' oc' ms',Z.stp x i y→TI Z g (fun j=>(A j && (j != i || Z.liv y i))=true) vs N' (fun j=>if j=i then !Z.liv y i else ov j) y w'→
   MI Z g vs (fun j=>(A j && (j != i || Z.liv y i))=true) N' v base M oa' (ol+1) oc' (xs++[vI i]) (if Z.liv y i then lf else lf - 1) w'→
   e8 Tryd.prog g.K g.Still g.top Gl (E7 Z g s0 (fun j=>A j && (j != i || Z.liv y i)) vs ms' y) 0 nn (G (c.finish (.tuple #[])) cs) w'):
 e8 Tryd.prog g.K g.Still g.top Gl (E7 Z g s0 A vs ms x) 0 nn (G (Frame.enter Tryd.prog 66 (C3 g v i) .normal) (c::cs)) w:=by
 obtain⟨hin,hnn⟩:=hAn i hA
 have hiH:Has g i:=⟨hin⟩
 have hn0:0<g.n:=by omega
 refine U3 fun _ hK _=>?_
 have ho:=H.over i hin
 rw[hov]at ho
 obtain⟨cod,hod1,hod2⟩:=HM.od
 refine I6 (F:=FK g) (Stop:=fun a u=>a=G ((Go.Conc.base 66).at (a0p g v i oa ol oc M) [.code step1App,.code U5]) (c::cs)∧∃d,u=w.at d) a0D K7 k0h
  (r0c hK HM.n ho ⟨⟨cod,_,hod1,hod2⟩,rfl⟩ HM.mo hM (.stop fun d=>⟨rfl,d,rfl⟩)) fun g' w0 d hS=>?_
 obtain⟨rfl,d',e⟩:=hS d
 rw[e]
 have H0:=H.at zok d'
 have HM0:MI Z g vs (fun j=>A j=true) N v base M oa ol oc xs lf (w.at d'):=HM.kept hin hA (Z4.at w d')
 have hK0:=hK.at d'
 clear e hK ho H HM hod1 hod2 hS
 generalize w.at d'=w at*
 refine I6 (F:=FT (W3 v oa) w) a0D (M1.covers (l0i hK0 HM0)) (fun w1 w2 hg h=>h.gd (l0i hK0 HM0) hg) (s0L HM0.base HM0.od HM0.row hol (cs:=c::cs)) fun g' w0 d hS=>?_
 have hN:=hS d
 generalize w0.at d=w1 at*
 obtain⟨b,nv,oa',oc',rfl,rfl,HM1⟩:=MI.noted zok H0 hn0 hK0 HM0 hN
 have H1:=H0.noted zok HM0 hN
 have hK1:=r0R H0 hK0 HM0 hN.1
 clear hS hN H0 HM0 hK0
 generalize e0M N w w1=N1 at*
 refine C6 (b:=G (Frame.enter Tryd.prog 67 #[vP g.tb 0,vI i,.bool true] .normal) (r9 g v i oa ol oc M b (.slice oa' (ol+1) oc')::c::cs)) (k0X hK1 (.stop fun d=>⟨rfl,d,rfl⟩)) fun d=>?_
 have H2:=H1.at zok d
 have HM2:=HM1.kept hin hA (Z4.at w1 d)
 clear H1 HM1 hK1
 generalize w1.at d=w2 at*
 refine u0b zok hs0 hAn hA hl H2 hov fun y w3 hy H3 k3=>?_
 have HM3:=(HM2.kept hin hA k3).mono (Al':=fun j=>(A j && (j != i || Z.liv y i))=true) fun j hj=>by
  simp only[Bool.and_eq_true]at hj;exact hj.1
 refine U3 fun _ hK3 _=>?_
 have ho3:=H3.over i hin
 rw[if_pos rfl]at ho3
 rcases Bool.eq_false_or_eq_true (Z.liv y i)with hlv|hlv
 ·skip
  rw[hlv]at ho3
  refine C6 (b:=G (c.finish (.tuple #[])) cs) (h0M hK3 ho3 (.stop fun d=>⟨rfl,d,rfl⟩)) fun d=>?_
  have:=hk y (w3.at d) N1 oa' oc' (some (R1 g (c0w g i true (r9 g v i oa ol oc M b (.slice oa' (ol+1) oc')::c::cs)))) hy (H3.at zok d)
  refine this ?_
  rw[if_pos hlv]
  exact HM3.at d
 ·rw[hlv]at ho3
  obtain⟨l1,rfl⟩:∃l1,lf=l1+1:=⟨lf - 1,by omega⟩
  have hnh:¬held (FK g) ⟨v.lf,0,none⟩:=O9 (g0X (fun j hj=>HM3.alf.st j hj) fun a u p=>HM3.alf.place a u p)
  refine I6 (F:=FK g) (Stop:=fun a u=>a=G (c.finish (.tuple #[])) cs∧∃d,u=(w3.setCell ⟨v.lf,0,none⟩ (vI l1)).at d) a0D K7 k0h
   (k00 hK3 ho3 HM3.lf (by omega) hnh (.stop fun d=>⟨rfl,d,rfl⟩)) fun g' w0 d hS=>?_
  obtain⟨rfl,d',e⟩:=hS d
  rw[e]
  have:=hk y ((w3.setCell ⟨v.lf,0,none⟩ (vI l1)).at d') N1 oa' oc' (some (R1 g (c0w g i true (r9 g v i oa ol oc M b (.slice oa' (ol+1) oc')::c::cs)))) hy ((H3.setLf zok HM3.alf).at zok d')
  refine this ?_
  rw[if_neg (by simp[hlv])]
  exact HM3.setLf.at d'
end
section
def idR : Code → Nat
  | .region i _ _ => i
  | .block i _ => i
  | _ => 0
section
variable {P : Program} {F : Fz} {main : Bool} {Stop : Goroutine → World → Prop} {a : Act} {k : List Item} {b : Frame} {cs : List Frame} {w : World}
theorem ogW (x y : Code) {s : Code} (h : J0 P main F Stop (G (b.at a (.inRegion (oC x) (List.range (oC x).size) :: .code y :: k)) cs) w) (h1 : s = .seq x y := by kernel_rfl) (h2 : x = .region (idR x) (oC x) false := by kernel_rfl) : J0 P main F Stop (G (b.at a (.code s :: k)) cs) w := by
  rw [h1]
  refine M0 rfl (fun d => stepG_seq) ?_
  have h3 : ∀ (z : Code) (i : Nat) (o : Array Oper), z = .region i o false → J0 P main F Stop (G (b.at a (.inRegion o (List.range o.size) :: .code y :: k)) cs) w → J0 P main F Stop (G (b.at a (.code z :: .code y :: k)) cs) w := fun z i o e h => by subst e; exact M0 rfl (fun d => stepG_region) h
  exact h3 x _ _ h2 h
theorem ogV (x y : Code) {s : Code} (h : J0 P main F Stop (G (b.at a (.code x :: .code y :: k)) cs) w) (h1 : s = .seq x y := by kernel_rfl) : J0 P main F Stop (G (b.at a (.code s :: k)) cs) w := by
  subst h1
  exact M0 rfl (fun d => stepG_seq) h
theorem F0u (c : Code) {x : Code} (h : J0 P main F Stop (G (b.at a (.code c :: .inBlock (idR x) :: k)) cs) w) (h1 : x = .block (idR x) c := by kernel_rfl) : J0 P main F Stop (G (b.at a (.code x :: k)) cs) w := by
  have h3 : ∀ (z : Code) (i : Nat), z = .block i c → J0 P main F Stop (G (b.at a (.code c :: .inBlock i :: k)) cs) w → J0 P main F Stop (G (b.at a (.code z :: k)) cs) w := fun z i e h => by subst e; exact M0 rfl (fun d => stepG_block) h
  exact h3 x _ h1 h
def cO : Code → Operand
  | .cond c _ _ => c
  | _ => .tmp 0
def tO : Code → Code
  | .cond _ x _ => x
  | x => x
def eO : Code → Code
  | .cond _ _ x => x
  | x => x
theorem ogGn (y : Code) {x : Code} (h : J0 P main F Stop (G (b.at a (.code y :: k)) cs) w) (h1 : x = .cond (cO x) (tO x) y := by kernel_rfl) (hc : a.eval (cO x) = .bool false := by exact rfl) : J0 P main F Stop (G (b.at a (.code x :: k)) cs) w := by
  have h3 : ∀ (z : Code) (c : Operand) (t : Code), z = .cond c t y → a.eval c = .bool false → J0 P main F Stop (G (b.at a (.code y :: k)) cs) w → J0 P main F Stop (G (b.at a (.code z :: k)) cs) w := fun z c t e hc h => by subst e; exact ogG h hc
  exact h3 x _ _ h1 hc h
theorem ogYn (y : Code) {x : Code} (h : J0 P main F Stop (G (b.at a (.code y :: k)) cs) w) (h1 : x = .cond (cO x) y (eO x) := by kernel_rfl) (hc : a.eval (cO x) = .bool true := by exact rfl) : J0 P main F Stop (G (b.at a (.code x :: k)) cs) w := by
  have h3 : ∀ (z : Code) (c : Operand) (t : Code), z = .cond c y t → a.eval c = .bool true → J0 P main F Stop (G (b.at a (.code y :: k)) cs) w → J0 P main F Stop (G (b.at a (.code z :: k)) cs) w := fun z c t e hc h => by subst e; exact ogY h hc
  exact h3 x _ _ h1 hc h
end
section
variable{P:Program}(w:World)(es:Array Event)
@[go_sem] theorem u0O(ts:Array TypeId)(t:TypeId)(k k':IntKind)(x y:Int):(Builtin.max_ ts t #[.int k x,.int k' y]).events P w es=es:=by simp[Builtin.max_,Builtin.max2]
@[go_sem] theorem u0P(ts:Array TypeId)(t:TypeId)(k k':IntKind)(x y:Int):(Builtin.min_ ts t #[.int k x,.int k' y]).events P w es=es:=by simp[Builtin.min_,Builtin.min2]
end
end
noncomputable section
def X0:Code:=Tryd.f54.body.getD .skip
def E0U:=pC [] X0
def B08:=pC [zt] X0
def C0h:=pC [zf] X0
def B09:=pC [zf,zt] X0
def C0i:=pC [zf] C0h
def C0a:=pC [zf,zf,zt] X0
def s0J:=pC [zf] C0i
def i0W:=pC [zf,zf,zf,zt] X0
def p01:=pC [zf] s0J
def C0m:=pC [zt] p01
def C0c:=pC [zf,zf,zf,zf,zt,zt] X0
def x0O:=pC [zf] C0m
def x03:=pC [zt] x0O
def b0A:=pC [zt] x03
def s0I:=pC [zf,zf,zf,zf,zt,zf,zt,zt,zt] X0
def s0K:=pC [zf] b0A
def u0U:=pC [zt] s0K
def y0e:=pC [zf] s0K
def B0X:=pC [zt] y0e
def h0c:=pC [zf,zf,zf,zf,zt,zf,zt,zt,zf,zf,zt,zt] X0
def n0O:=pC [zf,zf,zf,zf,zt,zf,zt,zt,zf,zf,zf] X0
def b0F:=pC [zf] p01
def C0f:=pC [zf,zf,zf,zf,zf,zt] X0
def p0V:=pC [zf] b0F
def u07:=pC [zt] p0V
def C0g:=pC [zf,zf,zf,zf,zf,zf,zt,zt] X0
def x0Q:=pC [zf] u07
def p0O:=pC [zt] x0Q
def p5:=pC [zt] p0O
def l0M:=pC [zf,zf,zf,zf,zf,zf,zt,zf,zt,zt,zt] X0
def l0T:=pC [zf] p5
def u0V:=pC [zt] l0T
def p0W:=pC [zf] l0T
def x0R:=pC [zt] p0W
def u08:=pC [zt] x0R
def u0Z:=pC [zf,zf,zf,zf,zf,zf,zt,zf,zt,zt,zf,zf,zt,zt,zt] X0
def u09:=pC [zf] u08
def b0E:=pC [zf,zf,zf,zf,zf,zf,zt,zf,zt,zt,zf,zf,zt,zt,zf,zt] X0
def g0h:=pC [zf] u09
def e00:=pC [zf,zf,zf,zf,zf,zf,zt,zf,zt,zt,zf,zf,zt,zt,zf,zf,zt] X0
def p0X:=pC [zf] g0h
def l0N:=pC [zf,zf,zf,zf,zf,zf,zt,zf,zt,zt,zf,zf,zt,zt,zf,zf,zf,zt] X0
def u0W:=pC [zf] p0X
def l0O:=pC [zf,zf,zf,zf,zf,zf,zt,zf,zt,zt,zf,zf,zt,zt,zf,zf,zf,zf,zt] X0
def c0A:=pC [zf,zf,zf,zf,zf,zf,zt,zf,zt,zt,zf,zf,zf] X0
def I7:=pC [zf] p0V
def u00:=pC [zf,zf,zf,zf,zf,zf,zf,zt] X0
def p0Y:=pC [zf] I7
def v0a:=pC [zt] p0Y
def u01:=pC [zf,zf,zf,zf,zf,zf,zf,zf,zt,zt] X0
def x0S:=pC [zf] v0a
def p0P:=pC [zt] x0S
def P8:=pC [zt] p0P
def l0P:=pC [zf,zf,zf,zf,zf,zf,zf,zf,zt,zf,zt,zt,zt] X0
def l0U:=pC [zf] P8
def u0X:=pC [zt] l0U
def p0Z:=pC [zf] l0U
def x0T:=pC [zt] p0Z
def C0j:=pC [zt] x0T
def u02:=pC [zf,zf,zf,zf,zf,zf,zf,zf,zt,zf,zt,zt,zf,zf,zt,zt,zt] X0
def d0w:=pC [zf,zf,zf,zf,zf,zf,zf,zf,zt,zf,zt,zt,zf,zf,zt,zt,zf] X0
def e01:=pC [zf,zf,zf,zf,zf,zf,zf,zf,zt,zf,zt,zt,zf,zf,zf] X0
def a0N:=pC [zf] p0Y
def x0U:=pC [zt] a0N
def p0Q:=pC [zt] x0U
def S5:=pC [zt] p0Q
def l0V:=pC [zt] S5
def g0f:=pC [zf,zf,zf,zf,zf,zf,zf,zf,zf,zt,zt,zt,zt,zt] X0
def p0M:=pC [zf] l0V
def p0K:=pC [zf] S5
def v0b:=pC [zt] p0K
def u03:=pC [zf,zf,zf,zf,zf,zf,zf,zf,zf,zt,zt,zt,zf,zt,zt] X0
def x0V:=pC [zf] v0b
def p0R:=pC [zt] x0V
def Q8:=pC [zt] p0R
def l0Q:=pC [zf,zf,zf,zf,zf,zf,zf,zf,zf,zt,zt,zt,zf,zt,zf,zt,zt,zt] X0
def l0W:=pC [zf] Q8
def u0Y:=pC [zt] l0W
def p00:=pC [zf] l0W
def x0W:=pC [zt] p00
def C0l:=pC [zt] x0W
def u04:=pC [zf,zf,zf,zf,zf,zf,zf,zf,zf,zt,zt,zt,zf,zt,zf,zt,zt,zf,zf,zt,zt,zt] X0
def d0x:=pC [zf,zf,zf,zf,zf,zf,zf,zf,zf,zt,zt,zt,zf,zt,zf,zt,zt,zf,zf,zt,zt,zf] X0
def e02:=pC [zf,zf,zf,zf,zf,zf,zf,zf,zf,zt,zt,zt,zf,zt,zf,zt,zt,zf,zf,zf] X0
def L6:=pC [zf] a0N
def u05:=pC [zf,zf,zf,zf,zf,zf,zf,zf,zf,zf,zt] X0
def p02:=pC [zf] L6
def v0c:=pC [zt] p02
def u06:=pC [zf,zf,zf,zf,zf,zf,zf,zf,zf,zf,zf,zt,zt] X0
def p0I:=pC [zf] v0c
def p0S:=pC [zt] p0I
def B7:=pC [zt] p0S
def g0g:=pC [zf,zf,zf,zf,zf,zf,zf,zf,zf,zf,zf,zt,zf,zt,zt,zt] X0
def i0X:=pC [zf] B7
def k0t:=pC [zt] i0X
def l0X:=pC [zf] i0X
def l0L:=pC [zt] l0X
def v0d:=pC [zt] l0L
def l0R:=pC [zf,zf,zf,zf,zf,zf,zf,zf,zf,zf,zf,zt,zf,zt,zt,zf,zf,zt,zt,zt] X0
def p03:=pC [zf] v0d
def l0S:=pC [zf,zf,zf,zf,zf,zf,zf,zf,zf,zf,zf,zt,zf,zt,zt,zf,zf,zt,zt,zf,zt] X0
def p0L:=pC [zf] p03
def d0y:=pC [zf,zf,zf,zf,zf,zf,zf,zf,zf,zf,zf,zt,zf,zt,zt,zf,zf,zt,zt,zf,zf,zt] X0
def c0B:=pC [zf,zf,zf,zf,zf,zf,zf,zf,zf,zf,zf,zt,zf,zt,zt,zf,zf,zf] X0
def R8:=pC [zf] p02
def e03:=pC [zf,zf,zf,zf,zf,zf,zf,zf,zf,zf,zf,zf,zt] X0
theorem C0k:s0J= .seq i0W p01:=by kernel_rfl
theorem C0b:i0W= .region 3 (oC i0W) true:=by kernel_rfl
theorem B0W:x0O= .block 0 x03:=by kernel_rfl
theorem B07:x03= .loop b0A:=by kernel_rfl
theorem B0Y:B0X= .block 1 h0c:=by kernel_rfl
theorem C0d:h0c= .region 6 (oC h0c) true:=by kernel_rfl
theorem C0e:n0O= .region 7 (oC n0O) false:=by kernel_rfl
theorem B0Z:x0Q= .block 2 p0O:=by kernel_rfl
theorem x0X:p0O= .loop p5:=by kernel_rfl
theorem B00:x0R= .block 3 u08:=by kernel_rfl
theorem x04:b0E= .region 12 (oC b0E) true:=by kernel_rfl
theorem y0d:g0h= .seq e00 p0X:=by kernel_rfl
theorem x05:e00= .region 13 (oC e00) false:=by kernel_rfl
theorem x06:l0O= .region 15 (oC l0O) false:=by kernel_rfl
theorem p0T:c0A= .region 16 (oC c0A) false:=by kernel_rfl
theorem B01:x0S= .block 4 p0P:=by kernel_rfl
theorem x0Y:p0P= .loop P8:=by kernel_rfl
theorem B02:x0T= .block 5 C0j:=by kernel_rfl
theorem x07:d0w= .region 21 (oC d0w) false:=by kernel_rfl
theorem x08:e01= .region 22 (oC e01) false:=by kernel_rfl
theorem B03:x0U= .block 6 p0Q:=by kernel_rfl
theorem x0Z:p0Q= .loop S5:=by kernel_rfl
theorem B04:p0K= .block 7 v0b:=by kernel_rfl
theorem B05:x0V= .block 8 p0R:=by kernel_rfl
theorem x01:p0R= .loop Q8:=by kernel_rfl
theorem B06:x0W= .block 9 C0l:=by kernel_rfl
theorem x09:d0x= .region 27 (oC d0x) false:=by kernel_rfl
theorem y0a:e02= .region 28 (oC e02) false:=by kernel_rfl
theorem x0P:p0I= .block 10 p0S:=by kernel_rfl
theorem x02:p0S= .loop B7:=by kernel_rfl
theorem p0J:l0L= .block 11 v0d:=by kernel_rfl
theorem y0b:d0y= .region 34 (oC d0y) false:=by kernel_rfl
theorem p0U:c0B= .region 35 (oC c0B) false:=by kernel_rfl
theorem y0c:e03= .region 36 (oC e03) true:=by kernel_rfl
end
noncomputable section
variable {cs:List Frame}{main:Bool}{Stop:Goroutine→World→Prop}
open Go.ConcN (sumTo upd sumTo_upd upd_ne upd_same)
variable{g:M1}{F:Fz}{w w':World}
def X7(s:Nat→Value):Array Value:= #[s 0,s 1,s 2,s 3,s 4,s 5,s 6,s 7,s 8,s 9,s 10,s 11,s 12,s 13,s 14,s 15,s 16,s 17,s 18,s 19,s 20,s 21,s 22,s 23,s 24,s 25,s 26,s 27,s 28,s 29,s 30,s 31,s 32,s 33,s 34,s 35,s 36,s 37,s 38,s 39,s 40,s 41,s 42,s 43,s 44,s 45,s 46,s 47,s 48,s 49,s 50,s 51,s 52,s 53,s 54,s 55,s 56,s 57,s 58,s 59,s 60,s 61,s 62,s 63,s 64,s 65,s 66,s 67,s 68,s 69,s 70,s 71,s 72,s 73,s 74,s 75,s 76,s 77,s 78,s 79,s 80,s 81,s 82,s 83,s 84,s 85,s 86,s 87,s 88,s 89,s 90,s 91,s 92,s 93,s 94,s 95,s 96,s 97,s 98,s 99,s 100,s 101,s 102,s 103,s 104,s 105,s 106,s 107,s 108,s 109,s 110,s 111,s 112,s 113,s 114,s 115,s 116,s 117,s 118,s 119,s 120,s 121,s 122,s 123,s 124,s 125,s 126,s 127,s 128]
theorem E0T{A:Array Value}(h:A.size=129):∃s,A=X7 s:=by
 obtain⟨s,hs,_⟩:=Y4 A h
 exact⟨s,hs⟩
def h0b(g:M1)(v:y4):List (Nat×Value):=[(5,vP v.mo 0),(6,vP v.od 0),(8,.slice none 0 0),(9,vP v.n 0),(10,vP g.tv 0),(11,vP v.lf 0)]
def E5(g:M1)(v:y4)(thr sch:Value)(i:Nat):List (Nat×Value):=(0,thr)::(1,sch)::(7,.bool false)::(46,vI g.n)::(47,vI i)::h0b g v
theorem B0E [ok:Fits g] {v:y4}{tb tl tc:Nat}{sch fv:Value}{i:Nat}(hi:i<g.n)(htl:i<tl)(hK:g.K w)(hf:w.cell? ⟨tb,i,none⟩=some fv)(hfz:w.frozen? ⟨tb,i,none⟩=false){A:Array Value}(hA:G0 129 A (E5 g v (vL tb 0 tl tc) sch i))
 (h:∀A,G0 129 A ((12,vI i)::(50,vP g.tb 0)::(51,vI i)::(55,fv)::E5 g v (vL tb 0 tl tc) sch i)→J0 Tryd.prog main F Stop (G (bA 54 A [.inRegion (oC b0E) [6],.code g0h,.inBlock 3,.code c0A,.inLoop p5,.inBlock 2,.code I7]) cs) w):
 J0 Tryd.prog main F Stop (G (bA 54 A [.code p5,.inLoop p5,.inBlock 2,.code I7]) cs) w:=by
 obtain⟨s,rfl,h0,h1,h7,h46,h47,h5,h6,h8,h9,h10,h11,_⟩:=Y3 X7 hA
 simp only[X7,h0,h1,h7,h46,h47,h5,h6,h8,h9,h10,h11]
 clear h0 h1 h7 h46 h47 h5 h6 h8 h9 h10 h11
 have hlt:decide ((i:Int)<(g.n:Int))=true:=by simp;omega
 have hlt2:decide (i<g.n)=true:=by simp;omega
 have ct:=(hK _ _ .tv).c
 have zt:=(hK _ _ .tv).z
 refine ogW l0M l0T ?_
 simp only[oC,l0M,pC,X0,Tryd.f54,Option.getD_some,List.size_toArray,List.length_cons,List.length_nil,Nat.reduceAdd,Nat.zero_add,List.range,List.range.loop]
 refine oT ?_
 refine ogE<|ogV u0V p0W<|ogYn .skip<|ogK<|ogV x0R c0A ?_
 rw[B00]
 refine L7<|ogW u0Z u09 ?_
 simp only[oC,u0Z,pC,X0,Tryd.f54,Option.getD_some,List.size_toArray,List.length_cons,List.length_nil,Nat.reduceAdd,Nat.zero_add,List.range,List.range.loop]
 iterate 2 refine oT ?_
 refine ogE<|ogV b0E g0h ?_
 rw[x04]
 refine P9 (last:=6) S3 (z8 (by kernel_rfl)) (by decide) ?_
 simp only[oC,b0E,pC,X0,Tryd.f54,Option.getD_some,List.size_toArray,List.length_cons,List.length_nil,Nat.reduceAdd,Nat.zero_add,List.range,List.range.loop]
 refine w5 (i:=0) (v:=vP g.tb 0) rfl rfl (by kernel_rfl) (by kernel_rfl) (by kernel_rfl) (.inl ⟨rfl,fun d=>⟨by simp[go_sem,execOp,Act.eval, *],fun e he=>by have hm:=mem_listed he;simp[go_sem,execOp,Act.eval, *]at hm;subst hm;exact I1 _ _⟩⟩) ?_
 walk_nrm
 refine w5 (i:=1) (v:=vI i) rfl rfl (by kernel_rfl) (by kernel_rfl) (by kernel_rfl) (.inl ⟨rfl,fun d=>⟨by simp[go_sem,execOp,Act.eval, *],fun e he=>by have hm:=mem_listed he;simp[go_sem,execOp,Act.eval, *]at hm⟩⟩) ?_
 walk_nrm
 refine w5 (i:=2) (v:=vL tb 0 tl tc) rfl rfl (by kernel_rfl) (by kernel_rfl) (by kernel_rfl) (.inl ⟨rfl,fun d=>⟨by simp[go_sem,execOp,Act.eval, *],fun e he=>by have hm:=mem_listed he;simp[go_sem,execOp,Act.eval, *]at hm⟩⟩) ?_
 walk_nrm
 refine w5 (i:=3) (v:=vI i) rfl rfl (by kernel_rfl) (by kernel_rfl) (by kernel_rfl) (.inl ⟨rfl,fun d=>⟨by simp[go_sem,execOp,Act.eval, *],fun e he=>by have hm:=mem_listed he;simp[go_sem,execOp,Act.eval, *]at hm⟩⟩) ?_
 walk_nrm
 refine w5 (i:=4) (v:=vP tb i) rfl rfl (by kernel_rfl) (by kernel_rfl) (by kernel_rfl) (.inl ⟨rfl,fun d=>⟨by simp[go_sem,execOp,Act.eval, *],fun e he=>by have hm:=mem_listed he;simp[go_sem,execOp,Act.eval, *]at hm⟩⟩) ?_
 walk_nrm
 refine w5 (i:=5) (v:=fv) rfl rfl (by kernel_rfl) (by kernel_rfl) (by kernel_rfl) (.inl ⟨rfl,fun d=>⟨by simp[go_sem,execOp,Act.eval, *],fun e he=>by have hm:=mem_listed he;simp[go_sem,execOp,Act.eval, *]at hm;subst hm;exact I1 _ _⟩⟩) ?_
 walk_nrm
 refine H9 (by kernel_rfl) ?_ _
 exact h _ ⟨rfl,rfl,rfl,rfl,rfl,rfl,rfl,rfl,rfl,rfl,rfl,rfl,rfl,rfl,rfl,rfl,trivial⟩
def i0V(cs:List Frame)(A:Array Value):Goroutine:=G (bA 54 A [.inRegion (oC e00) [4],.code p0X,.inBlock 3,.code c0A,.inLoop p5,.inBlock 2,.code I7]) cs
theorem B0F [ok:Fits g] {v:y4}{thr sch:Value}{i:Nat}{A:Array Value}(hA:G0 129 A ((12,vI i)::E5 g v thr sch i)){cs:List Frame}(w:World):
 ∃A2,G0 129 A2 ((12,vI i)::E5 g v thr sch i)∧Sits Tryd.prog true g.K g.Still g.top (R1 g (i0V cs A2)) 8 (G (bA 54 A [.inRegion (oC b0E) [],.code g0h,.inBlock 3,.code c0A,.inLoop p5,.inBlock 2,.code I7]) cs):=by
 obtain⟨s,rfl,h12,h0,h1,h7,h46,h47,h5,h6,h8,h9,h10,h11,_⟩:=Y3 X7 hA
 simp only[X7,h12,h0,h1,h7,h46,h47,h5,h6,h8,h9,h10,h11]
 clear h12 h0 h1 h7 h46 h47 h5 h6 h8 h9 h10 h11
 refine⟨#[thr,sch,s 2,s 3,s 4,vP v.mo 0,vP v.od 0,.bool false,.slice none 0 0,vP v.n 0,vP g.tv 0,vP v.lf 0,vI i,s 13,s 14,s 15,s 16,s 17,s 18,s 19,s 20,s 21,s 22,s 23,s 24,s 25,s 26,s 27,s 28,s 29,s 30,s 31,s 32,s 33,s 34,s 35,s 36,s 37,s 38,s 39,s 40,s 41,s 42,s 43,s 44,s 45,vI g.n,vI i,s 48,s 49,s 50,s 51,s 52,s 53,s 54,s 55,vP g.tb 0,vP g.tb 0,vP g.tb 0,.chan (some g.bk),s 60,s 61,s 62,s 63,s 64,s 65,s 66,s 67,s 68,s 69,s 70,s 71,s 72,s 73,s 74,s 75,s 76,s 77,s 78,s 79,s 80,s 81,s 82,s 83,s 84,s 85,s 86,s 87,s 88,s 89,s 90,s 91,s 92,s 93,s 94,s 95,s 96,s 97,s 98,s 99,s 100,s 101,s 102,s 103,s 104,s 105,s 106,s 107,s 108,s 109,s 110,s 111,s 112,s 113,s 114,s 115,s 116,s 117,s 118,s 119,s 120,s 121,s 122,s 123,s 124,s 125,s 126,s 127,s 128],⟨rfl,rfl,rfl,rfl,rfl,rfl,rfl,rfl,rfl,rfl,rfl,rfl,rfl,trivial⟩,.inl ⟨7,w,rfl,?_⟩⟩
 k_c stepG_region_end
 rw[y0d]
 k_c stepG_seq
 rw[x05]
 simp only[oC,e00,pC,X0,Tryd.f54,Option.getD_some,List.size_toArray,List.length_cons,List.length_nil,Nat.reduceAdd,Nat.zero_add,List.range,List.range.loop]
 k_reg
 k_ld [(M1.K.lies h₁ _ _ .tv).c,(M1.K.lies h₁ _ _ .tv).z] (M1.still .tv)
 iterate 2 (k_in;refine goes_oper_k rfl rfl (by decide) (fun K hK=>?_);go_simp;refine hK _ _ ⟨⟨rfl,fun e he=>by(have hm:=mem_listed he;simp[go_sem]at hm)⟩,?_⟩;clear hK K)
 k_ld [(M1.K.lies h₁ _ _ .back).c,(M1.K.lies h₁ _ _ .back).z] (M1.still .back)
 refine fun _ _=>⟨_,atIn_of (s:=R1 g (i0V cs #[thr,sch,s 2,s 3,s 4,vP v.mo 0,vP v.od 0,.bool false,.slice none 0 0,vP v.n 0,vP g.tv 0,vP v.lf 0,vI i,s 13,s 14,s 15,s 16,s 17,s 18,s 19,s 20,s 21,s 22,s 23,s 24,s 25,s 26,s 27,s 28,s 29,s 30,s 31,s 32,s 33,s 34,s 35,s 36,s 37,s 38,s 39,s 40,s 41,s 42,s 43,s 44,s 45,vI g.n,vI i,s 48,s 49,s 50,s 51,s 52,s 53,s 54,s 55,vP g.tb 0,vP g.tb 0,vP g.tb 0,.chan (some g.bk),s 60,s 61,s 62,s 63,s 64,s 65,s 66,s 67,s 68,s 69,s 70,s 71,s 72,s 73,s 74,s 75,s 76,s 77,s 78,s 79,s 80,s 81,s 82,s 83,s 84,s 85,s 86,s 87,s 88,s 89,s 90,s 91,s 92,s 93,s 94,s 95,s 96,s 97,s 98,s 99,s 100,s 101,s 102,s 103,s 104,s 105,s 106,s 107,s 108,s 109,s 110,s 111,s 112,s 113,s 114,s 115,s 116,s 117,s 118,s 119,s 120,s 121,s 122,s 123,s 124,s 125,s 126,s 127,s 128])) rfl rfl (by decide) (fun w=>by simp[go_sem,execOp,rcase,Act.eval,R1,Seat.one]) (fun w=>by simp[go_sem,execOp,Act.eval]) ?_⟩
 rfl
theorem B0G [ok:Fits g] {v:y4}{thr sch:Value}{i:Nat} [hi:Has g i] (hn64:g.n≤64)(hK:g.K w)(ho:Z1 w ⟨g.st i,2,none⟩ (.bool false)){lf:Nat}(hl:Z1 w ⟨v.lf,0,none⟩ (vI lf))(hlf:lf<1000000)(hnh:¬held F ⟨v.lf,0,none⟩){A:Array Value}(hA:G0 129 A ((12,vI i)::E5 g v thr sch i))
 (h:∀A,G0 129 A (E5 g v thr sch (i+1))→J0 Tryd.prog main F Stop (G (bA 54 A [.code p5,.inLoop p5,.inBlock 2,.code I7]) cs) (w.setCell ⟨v.lf,0,none⟩ (vI (lf+1:Nat)))):
 J0 Tryd.prog main F Stop (Go.Conc.served (i0V cs A) (.agg #[])) w:=by
 obtain⟨s,rfl,h12,h0,h1,h7,h46,h47,h5,h6,h8,h9,h10,h11,_⟩:=Y3 X7 hA
 simp only[X7,h12,h0,h1,h7,h46,h47,h5,h6,h8,h9,h10,h11]
 clear h12 h0 h1 h7 h46 h47 h5 h6 h8 h9 h10 h11
 have hin:=hi.lt
 have hi64:(i:Int)<100:=by have:=hn64;omega
 have hsl:=ok.ok.sl (Nat.lt_of_le_of_lt (Nat.zero_le _) hin)
 have ct:=(hK _ _ .tv).c
 have zt:=(hK _ _ .tv).z
 have c3:=(hK _ _ .stands).c
 have z3:=(hK _ _ .stands).z
 have c4:=(hK _ _ (.stand i hin)).c
 have z4:=(hK _ _ (.stand i hin)).z
 have c5:=ho.c
 have z5:=ho.z
 have hwi:IntKind.i64.wrap ((i:Int)+1)=(i:Int)+1:=IntWalk.i64_in _ (by omega)
 rw[hsl]at c3
 have c6:=hl.c
 have z6:=hl.z
 have hw:IntKind.i64.wrap ((lf:Int)+1)=(lf:Int)+1:=IntWalk.i64_in _ (by omega)
 unfold i0V
 rw[served_fr,Frame.finish_at]
 simp only[oC,e00,pC,X0,Tryd.f54,Option.getD_some,List.size_toArray,List.length_cons,List.length_nil,Nat.reduceAdd,Nat.zero_add,List.range,List.range.loop]
 walk_nrm
 refine ogE<|ogW l0N u0W ?_
 simp only[oC,l0N,pC,X0,Tryd.f54,Option.getD_some,List.size_toArray,List.length_cons,List.length_nil,Nat.reduceAdd,Nat.zero_add,List.range,List.range.loop]
 refine oL ?_
 iterate 2 refine oT ?_
 refine oL ?_
 refine oT ?_
 refine oX ?_
 refine oL ?_
 iterate 2 refine oT ?_
 refine oL ?_
 refine oT ?_
 refine ogE<|ogYn l0O ?_
 rw[x06]
 refine ogR ?_
 simp only[oC,l0O,pC,X0,Tryd.f54,Option.getD_some,List.size_toArray,List.length_cons,List.length_nil,Nat.reduceAdd,Nat.zero_add,List.range,List.range.loop]
 refine oL ?_
 refine oT ?_
 (refine oW fun dd K hK=>?_;go_simp;refine hK _ _ ⟨⟨⟨0,E0 rfl hnh _⟩,fun e he=>by(have hm:=mem_listed he;clear he hK;simp[go_sem,storedEv,c6,z6]at hm;subst hm;exact U0 _ _ hnh)⟩,?_⟩;clear hK K;rw[setCell_at'];refine J0.at ?_ dd)
 refine ogE<|ogI ?_
 rw[p0T]
 refine ogR ?_
 simp only[oC,c0A,pC,X0,Tryd.f54,Option.getD_some,List.size_toArray,List.length_cons,List.length_nil,Nat.reduceAdd,Nat.zero_add,List.range,List.range.loop]
 iterate 2 refine oT ?_
 refine ogE<|ogL ?_
 exact h _ ⟨rfl,rfl,rfl,rfl,rfl,rfl,rfl,rfl,rfl,rfl,rfl,rfl,trivial⟩
theorem B0H [ok:Fits g] {v:y4}{thr sch:Value}{i:Nat} [hi:Has g i] (hn64:g.n≤64)(hK:g.K w)(ho:Z1 w ⟨g.st i,2,none⟩ (.bool true)){A:Array Value}(hA:G0 129 A ((12,vI i)::E5 g v thr sch i))
 (h:∀A,G0 129 A (E5 g v thr sch (i+1))→J0 Tryd.prog main F Stop (G (bA 54 A [.code p5,.inLoop p5,.inBlock 2,.code I7]) cs) w):
 J0 Tryd.prog main F Stop (Go.Conc.served (i0V cs A) (.agg #[])) w:=by
 obtain⟨s,rfl,h12,h0,h1,h7,h46,h47,h5,h6,h8,h9,h10,h11,_⟩:=Y3 X7 hA
 simp only[X7,h12,h0,h1,h7,h46,h47,h5,h6,h8,h9,h10,h11]
 clear h12 h0 h1 h7 h46 h47 h5 h6 h8 h9 h10 h11
 have hin:=hi.lt
 have hi64:(i:Int)<100:=by have:=hn64;omega
 have hsl:=ok.ok.sl (Nat.lt_of_le_of_lt (Nat.zero_le _) hin)
 have ct:=(hK _ _ .tv).c
 have zt:=(hK _ _ .tv).z
 have c3:=(hK _ _ .stands).c
 have z3:=(hK _ _ .stands).z
 have c4:=(hK _ _ (.stand i hin)).c
 have z4:=(hK _ _ (.stand i hin)).z
 have c5:=ho.c
 have z5:=ho.z
 have hwi:IntKind.i64.wrap ((i:Int)+1)=(i:Int)+1:=IntWalk.i64_in _ (by omega)
 rw[hsl]at c3
 unfold i0V
 rw[served_fr,Frame.finish_at]
 simp only[oC,e00,pC,X0,Tryd.f54,Option.getD_some,List.size_toArray,List.length_cons,List.length_nil,Nat.reduceAdd,Nat.zero_add,List.range,List.range.loop]
 walk_nrm
 refine ogE<|ogW l0N u0W ?_
 simp only[oC,l0N,pC,X0,Tryd.f54,Option.getD_some,List.size_toArray,List.length_cons,List.length_nil,Nat.reduceAdd,Nat.zero_add,List.range,List.range.loop]
 refine oL ?_
 iterate 2 refine oT ?_
 refine oL ?_
 refine oT ?_
 refine oX ?_
 refine oL ?_
 iterate 2 refine oT ?_
 refine oL ?_
 refine oT ?_
 refine ogE<|ogGn .skip<|ogK<|ogI ?_
 rw[p0T]
 refine ogR ?_
 simp only[oC,c0A,pC,X0,Tryd.f54,Option.getD_some,List.size_toArray,List.length_cons,List.length_nil,Nat.reduceAdd,Nat.zero_add,List.range,List.range.loop]
 iterate 2 refine oT ?_
 refine ogE<|ogL ?_
 exact h _ ⟨rfl,rfl,rfl,rfl,rfl,rfl,rfl,rfl,rfl,rfl,rfl,rfl,trivial⟩
end
section
open Go.ConcN (sumTo upd sumTo_upd upd_ne upd_same)
variable{g:M1}{F:Fz}{Z:C4}{A:Nat→Bool}{vs:Nat→V5}{N:Nat→Prop}{ov:Nat→Bool}{x y:Z.X}{w w':World}{s0 nn:Nat}{Gl:Machine→Trace→Prop}{v:y4}{base M:Nat}
def d0i(Z:C4)(b off:Nat)(xs:List Value):Prop:=∃c e z,Z.I b=some (.cells c e z)∧∀k u,xs[k]? =some u→c[off+k]? =some u∧(decide (z.1≤off+k) && decide (off+k<z.2))=false
theorem d0i.cell(zok:Z.Ok g)(hU:Z.U x w){b off k:Nat}{xs:List Value}{u:Value}(h:d0i Z b off xs)(hk:xs[k]? =some u):w.cell? ⟨b,off+k,none⟩=some u∧w.frozen? ⟨b,off+k,none⟩=false:=by
 obtain⟨c,e,z,h1,h2⟩:=h
 obtain⟨h3,_⟩:=zok.fix x w b _ hU h1
 obtain⟨h4,h5⟩:=h2 k u hk
 exact⟨by simp[World.cell?,h3,h4],by simpa [World.frozen?,h3]using h5⟩
def d0h(Z:C4):Nat→Z.X→Z.X→Prop
 | 0,x,y=>y=x
 | i+1,x,z=>∃y,d0h Z i x y∧Z.bor y i z
theorem e0k{Z:C4}{g:M1}(zok:Z.Ok g):∀(i:Nat) (x y:Z.X),d0h Z i x y→∀j,i≤j→Z.nw x j→Z.nw y j
 | 0,_,_,h,_,_,hn=>by
   have h:_=_:=h
   rw[h];exact hn
 | i+1,x,z,⟨y,h1,h2⟩,j,hj,hn=>zok.nwO y i z j h2 (by omega) (e0k zok i x y h1 j (by omega) hn)
theorem G7.born{Al:Nat→Prop}{b:Nat}(h:G7 Z g vs Al N b)(hb:b<w.heap.size)(i:Nat):G7 Z g (v6 vs i w) (fun j=>Al j∨j=i) (N9 N w) b:=
 ⟨.inl h.n,h.st,h.br,h.place,fun j hj=>by
  unfold v6
  by_cases e:j=i
  ·rw[if_pos e];simp only;omega
  ·rw[if_neg e];exact h.vars j (hj.resolve_right e),h.inp⟩
theorem MI.born{Al:Nat→Prop}{lf:Nat}(h:MI Z g vs Al N v base M none 0 0 [] lf w)(i:Nat):MI Z g (v6 vs i w) (fun j=>Al j∨j=i) (N9 N w) v base M none 0 0 [] lf w:=by
 obtain⟨c,h1,h2⟩:=h.od
 exact⟨h.n,h.mo,h.lf,h.od,h.row,h.an.born h.n.lt i,h.amo.born h.mo.lt i,h.alf.born h.lf.lt i,h.aod.born (Q3 h1) i,fun y hy=>(by cases hy),h.dn,h.drow,h.base⟩
theorem p0H{A:Array Value}{i:Nat}{f:Value}(h50:A.getD 50 undef=vP g.tb 0)(h51:A.getD 51 undef=vI i)(h55:A.getD 55 undef=f){k:List Item}{cs:List Frame}{main:Bool}:
 stepG Tryd.prog main (G (bA 54 A (.inRegion (oC b0E) [6]::k)) cs) w= .spawn (G (bA 54 A (.inRegion (oC b0E) []::k)) cs) (born Tryd.prog (C8 g i f)) w #[]:=by
 simp only[oC,b0E,pC,X0,Tryd.f54,Option.getD_some]
 rw[stepG_spawn (d:=C8 g i f) (f:=.func 65) (c:= #[]) (w':=w) rfl rfl (by decide) (by simp[go_sem,execOp,Act.eval,Deferred.ofValue,C8,h50,h51,h55]) rfl,listed_none (by simp[go_sem,execOp,Act.eval,Deferred.ofValue,C8,h50,h51,h55])]
 rfl
theorem k06 [ok:Fits g] (zok:Z.Ok g)(hs0:0<s0)(hn64:g.n≤64){tb tl tc:Nat}{sch:Value}{x0:Z.X}(hnw:∀j,j<g.n→Z.nw x0 j)(htl:g.n≤tl)(hth:d0i Z tb 0 ((List.range g.n).map fun j=>.func (.func Z.fid) #[] (Z.cap j))){cs:List Frame}
 (hk:∀(x:Z.X) (w:World) (F:Array Value) (vs:Nat→V5) (N:Nat→Prop) (ms:Option Seat),d0h Z g.n x0 x→TI Z g (fun j=>(decide (j<g.n) && Z.liv x j)=true) vs N (fun j=>decide (j<g.n) && !Z.liv x j) x w→
   MI Z g vs (fun j=>(decide (j<g.n) && Z.liv x j)=true) N v base M none 0 0 [] (L5 (Z.liv x) g.n) w→g.top≤w.heap.size→G0 129 F (E5 g v (vL tb 0 tl tc) sch g.n)→
   e8 Tryd.prog g.K g.Still g.top Gl (E7 Z g s0 (fun j=>decide (j<g.n) && Z.liv x j) vs ms x) 0 (s0+g.n) (G ((Go.Conc.base 54).at ⟨F,[]⟩ [.code p5,.inLoop p5,.inBlock 2,.code I7]) cs) w):
 ∀(k i:Nat),i+k=g.n→∀(x:Z.X) (w:World) (F:Array Value) (vs:Nat→V5) (N:Nat→Prop) (ms:Option Seat),d0h Z i x0 x→TI Z g (fun j=>(decide (j<i) && Z.liv x j)=true) vs N (fun j=>decide (j<i) && !Z.liv x j) x w→
  MI Z g vs (fun j=>(decide (j<i) && Z.liv x j)=true) N v base M none 0 0 [] (L5 (Z.liv x) i) w→g.top≤w.heap.size→G0 129 F (E5 g v (vL tb 0 tl tc) sch i)→
  e8 Tryd.prog g.K g.Still g.top Gl (E7 Z g s0 (fun j=>decide (j<i) && Z.liv x j) vs ms x) 0 (s0+i) (G ((Go.Conc.base 54).at ⟨F,[]⟩ [.code p5,.inLoop p5,.inBlock 2,.code I7]) cs) w:=by
 intro k
 induction k with
 | zero=>
   intro i hi
   obtain rfl:i=g.n:=by omega
   exact hk
 | succ k ih=>
   intro i hi x w A vs N ms hB H HM ht hA
   have hin:i<g.n:=by omega
   have hiH:Has g i:=⟨hin⟩
   refine U3 fun _ hK _=>?_
   obtain⟨hf,hfz⟩:=hth.cell (k:=i) (u:=.func (.func Z.fid) #[] (Z.cap i)) zok H.u (by simp[hin])
   simp only[Nat.zero_add]at hf hfz
   refine I6 (F:=FK g) (Stop:=fun a u=>∃A2,G0 129 A2 ((12,vI i)::(50,vP g.tb 0)::(51,vI i)::(55,.func (.func Z.fid) #[] (Z.cap i))::E5 g v (vL tb 0 tl tc) sch i)∧
    a=G ((Go.Conc.base 54).at ⟨A2,[]⟩ [.inRegion (oC b0E) [6],.code g0h,.inBlock 3,.code c0A,.inLoop p5,.inBlock 2,.code I7]) cs∧∃d,u=w.at d) a0D K7 k0h
    (B0E hin (by omega) hK hf hfz hA fun A2 hA2=>.stop fun d=>⟨A2,hA2,rfl,d,rfl⟩) fun g' w0 d hS=>?_
   obtain⟨A2,hA2,rfl,d',e⟩:=hS d
   rw[e]
   obtain⟨hsz2,q12,q50,q51,q55,q0,q1,q7,q46,q47,q5,q6,q8,q9,q10,q11,_⟩:=hA2
   obtain⟨A3,hA3,hsit⟩:=B0F (A:=A2) (cs:=cs) (v:=v) (thr:=vL tb 0 tl tc) (sch:=sch) (i:=i) ⟨hsz2,q12,q0,q1,q7,q46,q47,q5,q6,q8,q9,q10,q11,trivial⟩ w
   refine o0b zok hs0 hin (e0k zok i x0 x hB i (Nat.le_refl i) (hnw i hin)) rfl (fun j hj=>by simp at hj;exact hj.1) (H.at zok d') (by simp) ht rfl (fun d=>p0H q50 q51 q55) hsit fun y w1 hy H1 k1=>?_
   have hyl:∀j,j<i→Z.liv y j=Z.liv x j:=fun j hj=>(zok.borO x i y j hy (by omega)).1
   have eA:(fun j=>((decide (j<i) && Z.liv x j) || j == i) && (j != i || Z.liv y i))=fun j=>decide (j<i+1) && Z.liv y j:=by
    funext j
    rcases Nat.lt_trichotomy j i with h|h|h
    ·have e1:(j == i)=false:=by simp;omega
     have e2:(j != i)=true:=by simp;omega
     have e3:decide (j<i)=true:=by simpa using h
     have e4:decide (j<i+1)=true:=by simp;omega
     rw[e1,e2,e3,e4,hyl j h];simp
    ·subst h;simp
    ·have e1:(j == i)=false:=by simp;omega
     have e3:decide (j<i)=false:=by simp;omega
     have e4:decide (j<i+1)=false:=by simp;omega
     rw[e1,e3,e4];simp
   have eO:(fun j=>if j=i then !Z.liv y i else decide (j<i) && !Z.liv x j)=fun j=>decide (j<i+1) && !Z.liv y j:=by
    funext j
    rcases Nat.lt_trichotomy j i with h|h|h
    ·have e3:decide (j<i)=true:=by simpa using h
     have e4:decide (j<i+1)=true:=by simp;omega
     rw[if_neg (by omega),e3,e4,hyl j h]
    ·subst h;simp
    ·have e3:decide (j<i)=false:=by simp;omega
     have e4:decide (j<i+1)=false:=by simp;omega
     rw[if_neg (by omega),e3,e4];simp
   have eP:(fun j=>(((decide (j<i) && Z.liv x j) || j == i) && (j != i || Z.liv y i))=true)=fun j=>(decide (j<i+1) && Z.liv y j)=true:=by
    funext j;rw[show(((decide (j<i) && Z.liv x j) || j == i) && (j != i || Z.liv y i))=_ from congrFun eA j]
   rw[eP,eO]at H1
   rw[eA]
   have HM1:=((HM.at d').born i).kept hin (.inr rfl) k1
   have HM2:MI Z g (v6 vs i (w.at d')) (fun j=>(decide (j<i+1) && Z.liv y j)=true) (N9 N (w.at d')) v base M none 0 0 [] (L5 (Z.liv x) i) w1:=HM1.mono fun j hj=>by
    simp only[Bool.and_eq_true,decide_eq_true_eq]at hj ⊢
    by_cases e:j=i
    ·exact .inr e
    ·have:j<i:=by omega
     exact .inl ⟨this,by rw[← hyl j this];exact hj.2⟩
   have hB1:d0h Z (i+1) x0 y:=⟨x,hB,hy⟩
   have ht1:g.top≤w1.heap.size:=Nat.le_trans ht k1.size
   have hcn:L5 (Z.liv x) i=L5 (Z.liv y) i:=b0e fun j hj=>(hyl j hj).symm
   have hcl:=o0I (Z.liv x) i
   refine U3 fun _ hK1 _=>?_
   have ho:=H1.over i hin
   have hlt:decide (i<i+1)=true:=by simp
   rw[hlt,Bool.true_and]at ho
   rcases Bool.eq_false_or_eq_true (Z.liv y i)with hl|hl
   ·rw[hl]at ho
    have hnh:¬held (FK g) ⟨v.lf,0,none⟩:=O9 (g0X (fun j hj=>HM2.alf.st j hj) fun a u p=>HM2.alf.place a u p)
    refine I6 (F:=FK g) (Stop:=fun a u=>∃A4,G0 129 A4 (E5 g v (vL tb 0 tl tc) sch (i+1))∧
     a=G ((Go.Conc.base 54).at ⟨A4,[]⟩ [.code p5,.inLoop p5,.inBlock 2,.code I7]) cs∧∃d,u=(w1.setCell ⟨v.lf,0,none⟩ (vI (L5 (Z.liv x) i+1:Nat))).at d) a0D K7 k0h
     (B0G hn64 hK1 ho HM2.lf (by omega) hnh hA3 fun A4 hA4=>.stop fun d=>⟨A4,hA4,rfl,d,rfl⟩) fun g' w0 d hS=>?_
    obtain⟨A4,hA4,rfl,d2,e2⟩:=hS d
    rw[e2]
    have hc:L5 (Z.liv x) i+1=L5 (Z.liv y) (i+1):=by simp only[L5,hcn,hl,if_true]
    have HM3:=(HM2.setLf (l1:=L5 (Z.liv x) i+1)).at d2
    rw[hc]at HM3
    have:=ih (i+1) (by omega) y _ A4 _ _ (some (R1 g (i0V cs A3))) hB1 ((H1.setLf zok HM2.alf).at zok d2) (by rw[← hc]at HM3 ⊢;exact HM3) (by simpa [size_at']using ht1) hA4
    exact this
   ·rw[hl]at ho
    refine I6 (F:=FK g) (Stop:=fun a u=>∃A4,G0 129 A4 (E5 g v (vL tb 0 tl tc) sch (i+1))∧
     a=G ((Go.Conc.base 54).at ⟨A4,[]⟩ [.code p5,.inLoop p5,.inBlock 2,.code I7]) cs∧∃d,u=w1.at d) a0D K7 k0h
     (B0H hn64 hK1 ho hA3 fun A4 hA4=>.stop fun d=>⟨A4,hA4,rfl,d,rfl⟩) fun g' w0 d hS=>?_
    obtain⟨A4,hA4,rfl,d2,e2⟩:=hS d
    rw[e2]
    have hc:L5 (Z.liv x) i=L5 (Z.liv y) (i+1):=by simp[L5,hcn,hl]
    have HM3:=HM2.at d2
    rw[hc]at HM3
    exact ih (i+1) (by omega) y _ A4 _ _ (some (R1 g (i0V cs A3))) hB1 (H1.at zok d2) HM3 (by simpa [size_at']using ht1) hA4
end
section
open Go.ConcN (sumTo upd sumTo_upd upd_ne upd_same)
variable{g:M1}{F:Fz}{Z:C4}{x y:Z.X}{w w':World}{s0 nn:Nat}{Gl:Machine→Trace→Prop}{v:y4}{base M:Nat}
def d0T(Z:C4)(n M:Nat)(s:Z.X×List Nat)(i:Int)(t:Z.X×List Nat):Prop:=
 if 0≤i∧i<n∧Z.liv s.1 i.toNat=true∧s.2.length≠M then Z.stp s.1 i.toNat t.1∧t.2=s.2++[i.toNat]else t=s
theorem e0a{n:Nat}{s:Z.X×List Nat}{i:Int}(h:¬(0≤i∧i<n∧Z.liv s.1 i.toNat=true∧s.2.length≠M)):d0T Z n M s i s:=by
 unfold d0T
 rw[if_neg h]
def Q6(Z:C4)(n M:Nat):List Int→Z.X×List Nat→Z.X×List Nat→Prop
 | [],s,t=>t=s
 | i::l,s,t=>∃u,d0T Z n M s i u∧Q6 Z n M l u t
inductive b0Q(Z:C4)(n M:Nat):Z.X×List Nat→Z.X×List Nat→Prop
 | done {s:Z.X×List Nat}:(L5 (Z.liv s.1) n=0∨M≤s.2.length)→b0Q Z n M s s
 | more {s u t:Z.X×List Nat}:0<L5 (Z.liv s.1) n→s.2.length<M→Q6 Z n M ((List.range n).map fun j:Nat=>(j:Int)) s u→b0Q Z n M u t→b0Q Z n M s t
def v7(Z:C4)(g:M1)(v:y4)(base M s0:Nat)(s:Z.X×List Nat)(Inb:Nat→Option Seat)(w:World):Prop:=
 s.2.length≤M∧∃vs N oa oc ms,Inb=E7 Z g s0 (fun j=>decide (j<g.n) && Z.liv s.1 j) vs ms s.1∧TI Z g (fun j=>(decide (j<g.n) && Z.liv s.1 j)=true) vs N (fun j=>decide (j<g.n) && !Z.liv s.1 j) s.1 w∧
  MI Z g vs (fun j=>(decide (j<g.n) && Z.liv s.1 j)=true) N v base M oa s.2.length oc (s.2.map fun i:Nat=>Value.int .i64 i) (L5 (Z.liv s.1) g.n) w
theorem v7.at(zok:Z.Ok g){s:Z.X×List Nat}{Inb:Nat→Option Seat}(h:v7 Z g v base M s0 s Inb w)(d:Nat):v7 Z g v base M s0 s Inb (w.at d):=by
 obtain⟨h1,vs,N,oa,oc,ms,h3,h4,h5⟩:=h
 exact⟨h1,vs,N,oa,oc,ms,h3,h4.at zok d,h5.at d⟩
theorem m0R [ok:Fits g] (zok:Z.Ok g)(hs0:0<s0)(hM:M≤1048576)(hn64:g.n≤64){s:Z.X×List Nat}{Inb:Nat→Option Seat}(H:v7 Z g v base M s0 s Inb w){i:Int}{c:Frame}{cs:List Frame}
 (hk:∀t Inb' w',d0T Z g.n M s i t→v7 Z g v base M s0 t Inb' w'→e8 Tryd.prog g.K g.Still g.top Gl Inb' 0 (s0+g.n) (G (c.finish (.tuple #[])) cs) w'):
 e8 Tryd.prog g.K g.Still g.top Gl Inb 0 (s0+g.n) (G (Frame.enter Tryd.prog 66 (C3 g v i) .normal) (c::cs)) w:=by
 refine U3 fun _ hK _=>?_
 have H':=H
 obtain⟨hlen,vs,N,oa,oc,ms,rfl,HT,HM⟩:=H
 obtain⟨cod,hod1,hod2⟩:=HM.od
 have hsame:∀{t:Z.X×List Nat},t=s→v7 Z g v base M s0 t (E7 Z g s0 (fun j=>decide (j<g.n) && Z.liv s.1 j) vs ms s.1) w:=fun e=>e ▸ H'
 by_cases h0:i<0
 ·exact C6 (n07 h0 (.stop fun d=>⟨rfl,d,rfl⟩)) fun d=>hk s _ _ (e0a (by omega)) ((hsame rfl).at zok d)
 by_cases h1:(g.n:Int)≤i
 ·exact C6 (k0Z (by omega) h1 HM.n (.stop fun d=>⟨rfl,d,rfl⟩)) fun d=>hk s _ _ (e0a (by omega)) ((hsame rfl).at zok d)
 obtain⟨i,rfl⟩:∃k:Nat,i=k:=⟨i.toNat,by omega⟩
 have hin:i<g.n:=by omega
 have hiH:Has g i:=⟨hin⟩
 have ho:=HT.over i hin
 rw[decide_eq_true hin,Bool.true_and]at ho
 rcases Bool.eq_false_or_eq_true (Z.liv s.1 i)with hl|hl
 ·rw[hl]at ho
  by_cases h2:s.2.length=M
  ·exact C6 (k0Y hK HM.n ho ⟨⟨cod,_,hod1,hod2⟩,rfl⟩ HM.mo h2 (.stop fun d=>⟨rfl,d,rfl⟩)) fun d=>hk s _ _ (e0a fun h=>h.2.2.2 h2) ((hsame rfl).at zok d)
  ·have hc0:0<L5 (Z.liv s.1) g.n:=by
    rcases Nat.eq_zero_or_pos (L5 (Z.liv s.1) g.n)with h|h
    ·rw[a0I.1 h i hin]at hl;cases hl
    ·exact h
   have hcl:=o0I (Z.liv s.1) g.n
   refine r0z zok hs0 (fun j hj=>?_) (by simp[hin,hl]) hl HT (by simp[hl]) HM h2 (by omega) hc0 (by omega) fun y w1 N' oa' oc' ms' hy H1 HM1=>?_
   ·simp only[Bool.and_eq_true,decide_eq_true_eq]at hj
    exact⟨hj.1,by omega⟩
   have hyl:∀j,j≠i→Z.liv y j=Z.liv s.1 j:=fun j hj=>(zok.stpO s.1 i y j hy hj).1
   have eA:(fun j=>(decide (j<g.n) && Z.liv s.1 j) && (j != i || Z.liv y i))=fun j=>decide (j<g.n) && Z.liv y j:=by
    funext j
    by_cases e:j=i
    ·subst e;simp[hl]
    ·have e2:(j != i)=true:=by simpa using e
     rw[e2,hyl j e];simp
   have eO:(fun j=>if j=i then !Z.liv y i else decide (j<g.n) && !Z.liv s.1 j)=fun j=>decide (j<g.n) && !Z.liv y j:=by
    funext j
    by_cases e:j=i
    ·subst e;simp[hin]
    ·rw[if_neg e,hyl j e]
   have eP:(fun j=>((decide (j<g.n) && Z.liv s.1 j) && (j != i || Z.liv y i))=true)=fun j=>(decide (j<g.n) && Z.liv y j)=true:=by
    funext j;rw[show((decide (j<g.n) && Z.liv s.1 j) && (j != i || Z.liv y i))=_ from congrFun eA j]
   rw[eP,eO]at H1
   rw[eP]at HM1
   rw[eA]
   refine hk (y,s.2++[i]) _ _ ?_ ⟨by simp;omega,vs,N',oa',oc',ms',rfl,H1,?_⟩
   ·unfold d0T
    rw[if_pos ⟨by omega,by omega,by simpa using hl,h2⟩]
    simpa using hy
   ·rw[← r09 hin hyl hl]at HM1
    simpa using HM1
 ·rw[hl]at ho
  exact C6 (k02 hK HM.n ho (.stop fun d=>⟨rfl,d,rfl⟩)) fun d=>hk s _ _ (e0a fun h=>by rw[Int.toNat_natCast,hl]at h;exact absurd h.2.2.1 (by simp)) ((hsame rfl).at zok d)
end
section
variable {cs:List Frame}{main:Bool}{Stop:Goroutine→World→Prop}
variable{g:M1}{F:Fz}{w:World}
theorem callable66:O1 66:=G2 Tryd.func66 rfl rfl
def d0c(g:M1)(v:y4):Value:=.func (.func 66) #[] #[vP v.n 0,vP g.tv 0,vP v.od 0,vP v.mo 0,vP v.lf 0]
def j9(g:M1)(v:y4):List (Nat×Value):=(7,.bool false)::(13,d0c g v)::h0b g v
def a0f(g:M1)(v:y4)(sch:Value)(sl k:Nat):List (Nat×Value):=(7,.bool false)::(13,d0c g v)::(76,sch)::(77,vI sl)::(78,vI k)::h0b g v
def b05(g:M1)(v:y4)(i:Nat):List (Nat×Value):=(94,vI g.n)::(95,vI i)::j9 g v
def M7(g:M1)(v:y4)(st:Bool)(j:Nat):List (Nat×Value):=(7,.bool st)::(107,g.sl)::(108,vI g.n)::(109,vI j)::h0b g v
theorem B0L{v:y4}{thr:Value}{sa:Option Addr}{sl sc:Nat}{A:Array Value}(hA:G0 129 A (E5 g v thr (.slice sa sl sc) g.n))
 (h:∀A,G0 129 A (a0f g v (.slice sa sl sc) sl 0)→J0 Tryd.prog main F Stop (G (bA 54 A [.code P8,.inLoop P8,.inBlock 4,.code a0N]) cs) w):J0 Tryd.prog main F Stop (G (bA 54 A [.code p5,.inLoop p5,.inBlock 2,.code I7]) cs) w:=by
 obtain⟨s,rfl,h0,h1,h7,h46,h47,h5,h6,h8,h9,h10,h11,_⟩:=Y3 X7 hA
 simp only[X7,h0,h1,h7,h46,h47,h5,h6,h8,h9,h10,h11]
 clear h0 h1 h7 h46 h47 h5 h6 h8 h9 h10 h11
 have hlt:decide ((g.n:Int)<(g.n:Int))=false:=by simp
 refine ogW l0M l0T ?_
 simp only[oC,l0M,pC,X0,Tryd.f54,Option.getD_some,List.size_toArray,List.length_cons,List.length_nil,Nat.reduceAdd,Nat.zero_add,List.range,List.range.loop]
 refine oT ?_
 refine ogE<|ogV u0V p0W<|ogGn (.exit 2) ?_
 refine M0 rfl (fun d=>stepG_exit rfl) ?_
 refine ogW u00 p0Y ?_
 simp only[oC,u00,pC,X0,Tryd.f54,Option.getD_some,List.size_toArray,List.length_cons,List.length_nil,Nat.reduceAdd,Nat.zero_add,List.range,List.range.loop]
 iterate 2 refine oT ?_
 refine ogE<|ogV v0a a0N<|ogW u01 x0S ?_
 simp only[oC,u01,pC,X0,Tryd.f54,Option.getD_some,List.size_toArray,List.length_cons,List.length_nil,Nat.reduceAdd,Nat.zero_add,List.range,List.range.loop]
 iterate 3 refine oT ?_
 refine ogE ?_
 rw[B01]
 refine L7 ?_
 rw[x0Y]
 refine ogP ?_
 exact h _ ⟨rfl,rfl,rfl,rfl,rfl,rfl,rfl,rfl,rfl,rfl,rfl,rfl,trivial⟩
theorem B0M{v:y4}{sb so sl sc k:Nat}{i:Int}(hk:k<sl)(hsl:sl<9223372036854775808)(hc:w.cell? ⟨sb,so+k,none⟩=some (vI i))(hz:w.frozen? ⟨sb,so+k,none⟩=false){A:Array Value}(hA:G0 129 A (a0f g v (vL sb so sl sc) sl k))
 (h:∀A,G0 129 A (a0f g v (vL sb so sl sc) sl k)→J0 Tryd.prog main F Stop (G (Frame.enter Tryd.prog 66 (C3 g v i) .normal) ((bA 54 A [.inRegion (oC d0w) [2],.inBlock 5,.code e01,.inLoop P8,.inBlock 4,.code a0N])::cs)) w):J0 Tryd.prog main F Stop (G (bA 54 A [.code P8,.inLoop P8,.inBlock 4,.code a0N]) cs) w:=by
 obtain⟨s,rfl,h7,h13,h76,h77,h78,h5,h6,h8,h9,h10,h11,_⟩:=Y3 X7 hA
 simp only[X7,h7,h13,h76,h77,h78,h5,h6,h8,h9,h10,h11]
 clear h7 h13 h76 h77 h78 h5 h6 h8 h9 h10 h11
 have hlt:decide ((k:Int)<(sl:Int))=true:=by simp;omega
 have hlt2:decide (k<sl)=true:=by simp;omega
 refine ogW l0P l0U ?_
 simp only[oC,l0P,pC,X0,Tryd.f54,Option.getD_some,List.size_toArray,List.length_cons,List.length_nil,Nat.reduceAdd,Nat.zero_add,List.range,List.range.loop]
 refine oT ?_
 refine ogE<|ogV u0X p0Z<|ogYn .skip<|ogK<|ogV x0T e01 ?_
 rw[B02]
 refine L7<|ogW u02 d0w ?_
 simp only[oC,u02,pC,X0,Tryd.f54,Option.getD_some,List.size_toArray,List.length_cons,List.length_nil,Nat.reduceAdd,Nat.zero_add,List.range,List.range.loop]
 refine oX ?_
 refine oL ?_
 refine oT ?_
 refine ogE ?_
 rw[x07]
 refine ogR ?_
 simp only[oC,d0w,pC,X0,Tryd.f54,Option.getD_some,List.size_toArray,List.length_cons,List.length_nil,Nat.reduceAdd,Nat.zero_add,List.range,List.range.loop]
 iterate 2 refine oT ?_
 refine Y7 (f:=66) (args:=C3 g v i) rfl rfl (by decide) (fun w=>by simp[execOp,Act.eval,resolve,invoke,Deferred.ofValue,callable66.run,C3,d0c]) (fun w=>by simp[execOp,Act.eval,resolve,invoke,Deferred.ofValue,callable66.run,callable66.quiet,C3,d0c]) ?_
 exact h _ ⟨rfl,rfl,rfl,rfl,rfl,rfl,rfl,rfl,rfl,rfl,rfl,rfl,trivial⟩
theorem B0N{v:y4}{sch:Value}{sl k:Nat}(hk:k<9223372036854775807){A:Array Value}(hA:G0 129 A (a0f g v sch sl k))
 (h:∀A,G0 129 A (a0f g v sch sl (k+1))→J0 Tryd.prog main F Stop (G (bA 54 A [.code P8,.inLoop P8,.inBlock 4,.code a0N]) cs) w):J0 Tryd.prog main F Stop (G ((bA 54 A [.inRegion (oC d0w) [2],.inBlock 5,.code e01,.inLoop P8,.inBlock 4,.code a0N]).finish (.tuple #[])) cs) w:=by
 obtain⟨s,rfl,h7,h13,h76,h77,h78,h5,h6,h8,h9,h10,h11,_⟩:=Y3 X7 hA
 simp only[X7,h7,h13,h76,h77,h78,h5,h6,h8,h9,h10,h11]
 clear h7 h13 h76 h77 h78 h5 h6 h8 h9 h10 h11
 have hk64:IntKind.i64.wrap ((k:Int)+1)=(k:Int)+1:=IntWalk.i64_in _ (by omega)
 rw[Frame.finish_at]
 simp only[oC,d0w,pC,X0,Tryd.f54,Option.getD_some,List.size_toArray,List.length_cons,List.length_nil,Nat.reduceAdd,Nat.zero_add,List.range,List.range.loop]
 walk_nrm
 refine ogE<|ogI ?_
 rw[x08]
 refine ogR ?_
 simp only[oC,e01,pC,X0,Tryd.f54,Option.getD_some,List.size_toArray,List.length_cons,List.length_nil,Nat.reduceAdd,Nat.zero_add,List.range,List.range.loop]
 iterate 2 refine oT ?_
 refine ogE<|ogL ?_
 exact h _ ⟨rfl,rfl,rfl,rfl,rfl,rfl,rfl,rfl,rfl,rfl,rfl,rfl,trivial⟩
theorem B0O{v:y4}{sch:Value}{sl:Nat}{A:Array Value}(hA:G0 129 A (a0f g v sch sl sl))
 (h:∀A,G0 129 A (j9 g v)→J0 Tryd.prog main F Stop (G (bA 54 A [.code S5,.inLoop S5,.inBlock 6,.code L6]) cs) w):J0 Tryd.prog main F Stop (G (bA 54 A [.code P8,.inLoop P8,.inBlock 4,.code a0N]) cs) w:=by
 obtain⟨s,rfl,h7,h13,h76,h77,h78,h5,h6,h8,h9,h10,h11,_⟩:=Y3 X7 hA
 simp only[X7,h7,h13,h76,h77,h78,h5,h6,h8,h9,h10,h11]
 clear h7 h13 h76 h77 h78 h5 h6 h8 h9 h10 h11
 have hlt:decide ((sl:Int)<(sl:Int))=false:=by simp
 refine ogW l0P l0U ?_
 simp only[oC,l0P,pC,X0,Tryd.f54,Option.getD_some,List.size_toArray,List.length_cons,List.length_nil,Nat.reduceAdd,Nat.zero_add,List.range,List.range.loop]
 refine oT ?_
 refine ogE<|ogV u0X p0Z<|ogGn (.exit 4) ?_
 refine M0 rfl (fun d=>stepG_exit rfl) ?_
 refine ogV x0U L6 ?_
 rw[B03]
 refine L7 ?_
 rw[x0Z]
 refine ogP ?_
 exact h _ ⟨rfl,rfl,rfl,rfl,rfl,rfl,rfl,rfl,rfl,trivial⟩
theorem x0M{v:y4}(hl:Z1 w ⟨v.lf,0,none⟩ (vI (0:Nat))){A:Array Value}(hA:G0 129 A (j9 g v))
 (h:∀A,G0 129 A (j9 g v)→J0 Tryd.prog main F Stop (G (bA 54 A [.code L6]) cs) w):J0 Tryd.prog main F Stop (G (bA 54 A [.code S5,.inLoop S5,.inBlock 6,.code L6]) cs) w:=by
 obtain⟨s,rfl,h7,h13,h5,h6,h8,h9,h10,h11,_⟩:=Y3 X7 hA
 simp only[X7,h7,h13,h5,h6,h8,h9,h10,h11]
 clear h7 h13 h5 h6 h8 h9 h10 h11
 have c1:=hl.c
 have z1:=hl.z
 refine ogV l0V p0K<|ogW g0f p0M ?_
 simp only[oC,g0f,pC,X0,Tryd.f54,Option.getD_some,List.size_toArray,List.length_cons,List.length_nil,Nat.reduceAdd,Nat.zero_add,List.range,List.range.loop]
 refine oL ?_
 iterate 2 refine oT ?_
 refine ogU rfl rfl ?_
 walk_nrm
 refine ogU rfl rfl ?_
 walk_nrm
 refine ogU rfl rfl ?_
 walk_nrm
 refine ogU rfl rfl ?_
 walk_nrm
 refine oT ?_
 refine ogE<|ogGn (.exit 6) ?_
 refine M0 rfl (fun d=>stepG_exit rfl) ?_
 exact h _ ⟨rfl,rfl,rfl,rfl,rfl,rfl,rfl,rfl,rfl,trivial⟩
theorem x0N{v:y4}{lf:Nat}{oa:Option Addr}{ol oc M:Nat}(hl:Z1 w ⟨v.lf,0,none⟩ (vI lf))(hlf:0<lf)(lo:Z1 w ⟨v.od,0,none⟩ (.slice oa ol oc))(lm:Z1 w ⟨v.mo,0,none⟩ (vI M))(hM:M≤ol){A:Array Value}(hA:G0 129 A (j9 g v))
 (h:∀A,G0 129 A (j9 g v)→J0 Tryd.prog main F Stop (G (bA 54 A [.code L6]) cs) w):J0 Tryd.prog main F Stop (G (bA 54 A [.code S5,.inLoop S5,.inBlock 6,.code L6]) cs) w:=by
 obtain⟨s,rfl,h7,h13,h5,h6,h8,h9,h10,h11,_⟩:=Y3 X7 hA
 simp only[X7,h7,h13,h5,h6,h8,h9,h10,h11]
 clear h7 h13 h5 h6 h8 h9 h10 h11
 have c1:=hl.c
 have z1:=hl.z
 have c2:=lo.c
 have z2:=lo.z
 have c3:=lm.c
 have z3:=lm.z
 have hp:decide ((0:Int)<(lf:Int))=true:=by simp;omega
 have hp2:decide (0<lf)=true:=by simp;omega
 have hlt:decide ((ol:Int)<(M:Int))=false:=by simp;omega
 have hlt2:decide (ol<M)=false:=by simp;omega
 refine ogV l0V p0K<|ogW g0f p0M ?_
 simp only[oC,g0f,pC,X0,Tryd.f54,Option.getD_some,List.size_toArray,List.length_cons,List.length_nil,Nat.reduceAdd,Nat.zero_add,List.range,List.range.loop]
 refine oL ?_
 iterate 2 refine oT ?_
 refine oL ?_
 refine oT ?_
 refine oL ?_
 iterate 2 refine oT ?_
 refine ogE<|ogGn (.exit 6) ?_
 refine M0 rfl (fun d=>stepG_exit rfl) ?_
 exact h _ ⟨rfl,rfl,rfl,rfl,rfl,rfl,rfl,rfl,rfl,trivial⟩
theorem x0L{v:y4}{lf:Nat}{oa:Option Addr}{ol oc M:Nat}(hl:Z1 w ⟨v.lf,0,none⟩ (vI lf))(hlf:0<lf)(lo:Z1 w ⟨v.od,0,none⟩ (.slice oa ol oc))(lm:Z1 w ⟨v.mo,0,none⟩ (vI M))(hM:ol<M)(hn:Z1 w ⟨v.n,0,none⟩ (vI g.n)){A:Array Value}(hA:G0 129 A (j9 g v))
 (h:∀A,G0 129 A (b05 g v 0)→J0 Tryd.prog main F Stop (G (bA 54 A [.code Q8,.inLoop Q8,.inBlock 8,.inBlock 7,.inLoop S5,.inBlock 6,.code L6]) cs) w):J0 Tryd.prog main F Stop (G (bA 54 A [.code S5,.inLoop S5,.inBlock 6,.code L6]) cs) w:=by
 obtain⟨s,rfl,h7,h13,h5,h6,h8,h9,h10,h11,_⟩:=Y3 X7 hA
 simp only[X7,h7,h13,h5,h6,h8,h9,h10,h11]
 clear h7 h13 h5 h6 h8 h9 h10 h11
 have c1:=hl.c
 have z1:=hl.z
 have c2:=lo.c
 have z2:=lo.z
 have c3:=lm.c
 have z3:=lm.z
 have hp:decide ((0:Int)<(lf:Int))=true:=by simp;omega
 have hp2:decide (0<lf)=true:=by simp;omega
 have hlt:decide ((ol:Int)<(M:Int))=true:=by simp;omega
 have hlt2:decide (ol<M)=true:=by simp;omega
 have c4:=hn.c
 have z4:=hn.z
 refine ogV l0V p0K<|ogW g0f p0M ?_
 simp only[oC,g0f,pC,X0,Tryd.f54,Option.getD_some,List.size_toArray,List.length_cons,List.length_nil,Nat.reduceAdd,Nat.zero_add,List.range,List.range.loop]
 refine oL ?_
 iterate 2 refine oT ?_
 refine oL ?_
 refine oT ?_
 refine oL ?_
 iterate 2 refine oT ?_
 refine ogE<|ogYn .skip<|ogK ?_
 rw[B04]
 refine L7<|ogW u03 x0V ?_
 simp only[oC,u03,pC,X0,Tryd.f54,Option.getD_some,List.size_toArray,List.length_cons,List.length_nil,Nat.reduceAdd,Nat.zero_add,List.range,List.range.loop]
 refine oL ?_
 refine oT ?_
 refine ogE ?_
 rw[B05]
 refine L7 ?_
 rw[x01]
 refine ogP ?_
 exact h _ ⟨rfl,rfl,rfl,rfl,rfl,rfl,rfl,rfl,rfl,rfl,rfl,trivial⟩
theorem B0P{v:y4}{i:Nat}(hi:i<g.n){A:Array Value}(hA:G0 129 A (b05 g v i))
 (h:∀A,G0 129 A (b05 g v i)→J0 Tryd.prog main F Stop (G (Frame.enter Tryd.prog 66 (C3 g v i) .normal) ((bA 54 A [.inRegion (oC d0x) [2],.inBlock 9,.code e02,.inLoop Q8,.inBlock 8,.inBlock 7,.inLoop S5,.inBlock 6,.code L6])::cs)) w):J0 Tryd.prog main F Stop (G (bA 54 A [.code Q8,.inLoop Q8,.inBlock 8,.inBlock 7,.inLoop S5,.inBlock 6,.code L6]) cs) w:=by
 obtain⟨s,rfl,h94,h95,h7,h13,h5,h6,h8,h9,h10,h11,_⟩:=Y3 X7 hA
 simp only[X7,h94,h95,h7,h13,h5,h6,h8,h9,h10,h11]
 clear h94 h95 h7 h13 h5 h6 h8 h9 h10 h11
 have hlt:decide ((i:Int)<(g.n:Int))=true:=by simp;omega
 have hlt2:decide (i<g.n)=true:=by simp;omega
 refine ogW l0Q l0W ?_
 simp only[oC,l0Q,pC,X0,Tryd.f54,Option.getD_some,List.size_toArray,List.length_cons,List.length_nil,Nat.reduceAdd,Nat.zero_add,List.range,List.range.loop]
 refine oT ?_
 refine ogE<|ogV u0Y p00<|ogYn .skip<|ogK<|ogV x0W e02 ?_
 rw[B06]
 refine L7<|ogW u04 d0x ?_
 simp only[oC,u04,pC,X0,Tryd.f54,Option.getD_some,List.size_toArray,List.length_cons,List.length_nil,Nat.reduceAdd,Nat.zero_add,List.range,List.range.loop]
 iterate 2 refine oT ?_
 refine ogE ?_
 rw[x09]
 refine ogR ?_
 simp only[oC,d0x,pC,X0,Tryd.f54,Option.getD_some,List.size_toArray,List.length_cons,List.length_nil,Nat.reduceAdd,Nat.zero_add,List.range,List.range.loop]
 iterate 2 refine oT ?_
 refine Y7 (f:=66) (args:=C3 g v i) rfl rfl (by decide) (fun w=>by simp[execOp,Act.eval,resolve,invoke,Deferred.ofValue,callable66.run,C3,d0c]) (fun w=>by simp[execOp,Act.eval,resolve,invoke,Deferred.ofValue,callable66.run,callable66.quiet,C3,d0c]) ?_
 exact h _ ⟨rfl,rfl,rfl,rfl,rfl,rfl,rfl,rfl,rfl,rfl,rfl,trivial⟩
theorem B0Q{v:y4}{i:Nat}(hi:i<10000000){A:Array Value}(hA:G0 129 A (b05 g v i))
 (h:∀A,G0 129 A (b05 g v (i+1))→J0 Tryd.prog main F Stop (G (bA 54 A [.code Q8,.inLoop Q8,.inBlock 8,.inBlock 7,.inLoop S5,.inBlock 6,.code L6]) cs) w):J0 Tryd.prog main F Stop (G ((bA 54 A [.inRegion (oC d0x) [2],.inBlock 9,.code e02,.inLoop Q8,.inBlock 8,.inBlock 7,.inLoop S5,.inBlock 6,.code L6]).finish (.tuple #[])) cs) w:=by
 obtain⟨s,rfl,h94,h95,h7,h13,h5,h6,h8,h9,h10,h11,_⟩:=Y3 X7 hA
 simp only[X7,h94,h95,h7,h13,h5,h6,h8,h9,h10,h11]
 clear h94 h95 h7 h13 h5 h6 h8 h9 h10 h11
 have hk64:IntKind.i64.wrap ((i:Int)+1)=(i:Int)+1:=IntWalk.i64_in _ (by omega)
 rw[Frame.finish_at]
 simp only[oC,d0x,pC,X0,Tryd.f54,Option.getD_some,List.size_toArray,List.length_cons,List.length_nil,Nat.reduceAdd,Nat.zero_add,List.range,List.range.loop]
 walk_nrm
 refine ogE<|ogI ?_
 rw[y0a]
 refine ogR ?_
 simp only[oC,e02,pC,X0,Tryd.f54,Option.getD_some,List.size_toArray,List.length_cons,List.length_nil,Nat.reduceAdd,Nat.zero_add,List.range,List.range.loop]
 iterate 2 refine oT ?_
 refine ogE<|ogL ?_
 exact h _ ⟨rfl,rfl,rfl,rfl,rfl,rfl,rfl,rfl,rfl,rfl,rfl,trivial⟩
theorem B0R{v:y4}{A:Array Value}(hA:G0 129 A (b05 g v g.n))
 (h:∀A,G0 129 A (j9 g v)→J0 Tryd.prog main F Stop (G (bA 54 A [.code S5,.inLoop S5,.inBlock 6,.code L6]) cs) w):J0 Tryd.prog main F Stop (G (bA 54 A [.code Q8,.inLoop Q8,.inBlock 8,.inBlock 7,.inLoop S5,.inBlock 6,.code L6]) cs) w:=by
 obtain⟨s,rfl,h94,h95,h7,h13,h5,h6,h8,h9,h10,h11,_⟩:=Y3 X7 hA
 simp only[X7,h94,h95,h7,h13,h5,h6,h8,h9,h10,h11]
 clear h94 h95 h7 h13 h5 h6 h8 h9 h10 h11
 have hlt:decide ((g.n:Int)<(g.n:Int))=false:=by simp
 refine ogW l0Q l0W ?_
 simp only[oC,l0Q,pC,X0,Tryd.f54,Option.getD_some,List.size_toArray,List.length_cons,List.length_nil,Nat.reduceAdd,Nat.zero_add,List.range,List.range.loop]
 refine oT ?_
 refine ogE<|ogV u0Y p00<|ogGn (.exit 8) ?_
 refine M0 rfl (fun d=>stepG_exit rfl) ?_
 refine ogI<|ogL ?_
 exact h _ ⟨rfl,rfl,rfl,rfl,rfl,rfl,rfl,rfl,rfl,trivial⟩
theorem x0H{v:y4}{lf:Nat}{st:Bool}(hst:decide (0<lf)=st)(hK:g.K w)(hl:Z1 w ⟨v.lf,0,none⟩ (vI lf)){osa:Option Addr}(hsl:g.sl= .slice osa g.n g.sc){A:Array Value}(hA:G0 129 A (j9 g v))
 (h:∀A,G0 129 A (M7 g v st 0)→J0 Tryd.prog main F Stop (G (bA 54 A [.code B7,.inLoop B7,.inBlock 10,.code R8]) cs) w):J0 Tryd.prog main F Stop (G (bA 54 A [.code L6]) cs) w:=by
 obtain⟨s,rfl,h7,h13,h5,h6,h8,h9,h10,h11,_⟩:=Y3 X7 hA
 simp only[X7,h7,h13,h5,h6,h8,h9,h10,h11]
 clear h7 h13 h5 h6 h8 h9 h10 h11
 have c1:=hl.c
 have z1:=hl.z
 have ct:=(hK _ _ .tv).c
 have zt:=(hK _ _ .tv).z
 have c3:=(hK _ _ .stands).c
 have z3:=(hK _ _ .stands).z
 have hst2:decide ((0:Int)<(lf:Int))=st:=by rw[← hst];simp
 rw[hsl]at c3
 refine ogW u05 p02 ?_
 simp only[oC,u05,pC,X0,Tryd.f54,Option.getD_some,List.size_toArray,List.length_cons,List.length_nil,Nat.reduceAdd,Nat.zero_add,List.range,List.range.loop]
 refine oL ?_
 iterate 2 refine oT ?_
 refine ogE<|ogV v0c R8<|ogW u06 p0I ?_
 simp only[oC,u06,pC,X0,Tryd.f54,Option.getD_some,List.size_toArray,List.length_cons,List.length_nil,Nat.reduceAdd,Nat.zero_add,List.range,List.range.loop]
 refine oL ?_
 iterate 2 refine oT ?_
 refine oL ?_
 iterate 2 refine oT ?_
 refine ogE ?_
 rw[x0P]
 refine L7 ?_
 rw[x02]
 refine ogP ?_
 exact h _ ⟨rfl,rfl,hsl.symm,rfl,rfl,rfl,rfl,rfl,rfl,rfl,rfl,trivial⟩
theorem s0H [ok:Fits g] {v:y4}{st:Bool}{j:Nat} [hi:Has g j] (hK:g.K w)(ho:Z1 w ⟨g.st j,2,none⟩ (.bool false)){A:Array Value}(hA:G0 129 A (M7 g v st j))
 (h:∀A,G0 129 A (M7 g v st j)→J0 Tryd.prog main F Stop (G (Frame.enter Tryd.prog 67 #[vP g.tb 0,vI j,.bool false] .normal) ((bA 54 A [.inRegion (oC d0y) [2],.inBlock 11,.code c0B,.inLoop B7,.inBlock 10,.code R8])::cs)) w):J0 Tryd.prog main F Stop (G (bA 54 A [.code B7,.inLoop B7,.inBlock 10,.code R8]) cs) w:=by
 obtain⟨s,rfl,h7,h107,h108,h109,h5,h6,h8,h9,h10,h11,_⟩:=Y3 X7 hA
 simp only[X7,h7,h107,h108,h109,h5,h6,h8,h9,h10,h11]
 clear h7 h107 h108 h109 h5 h6 h8 h9 h10 h11
 have ct:=(hK _ _ .tv).c
 have zt:=(hK _ _ .tv).z
 have c3:=(hK _ _ .stands).c
 have z3:=(hK _ _ .stands).z
 have hin:=hi.lt
 have hsl:=ok.ok.sl (Nat.lt_of_le_of_lt (Nat.zero_le _) hin)
 have c4:=(hK _ _ (.stand j hin)).c
 have z4:=(hK _ _ (.stand j hin)).z
 have c5:=ho.c
 have z5:=ho.z
 rw[hsl]at c3
 simp only[hsl]
 have hlt:decide ((j:Int)<(g.n:Int))=true:=by simp;omega
 have hlt2:decide (j<g.n)=true:=by simp;omega
 refine ogW g0g i0X ?_
 simp only[oC,g0g,pC,X0,Tryd.f54,Option.getD_some,List.size_toArray,List.length_cons,List.length_nil,Nat.reduceAdd,Nat.zero_add,List.range,List.range.loop]
 refine oT ?_
 refine ogE<|ogV k0t l0X<|ogYn .skip<|ogK<|ogV l0L c0B ?_
 rw[p0J]
 refine L7<|ogW l0R p03 ?_
 simp only[oC,l0R,pC,X0,Tryd.f54,Option.getD_some,List.size_toArray,List.length_cons,List.length_nil,Nat.reduceAdd,Nat.zero_add,List.range,List.range.loop]
 refine oT ?_
 refine oX ?_
 refine oL ?_
 iterate 2 refine oT ?_
 refine ogE<|ogW l0S p0L ?_
 simp only[oC,l0S,pC,X0,Tryd.f54,Option.getD_some,List.size_toArray,List.length_cons,List.length_nil,Nat.reduceAdd,Nat.zero_add,List.range,List.range.loop]
 iterate 3 refine oT ?_
 refine oL ?_
 refine oT ?_
 refine ogE<|ogYn d0y ?_
 rw[y0b]
 refine ogR ?_
 simp only[oC,d0y,pC,X0,Tryd.f54,Option.getD_some,List.size_toArray,List.length_cons,List.length_nil,Nat.reduceAdd,Nat.zero_add,List.range,List.range.loop]
 refine oL ?_
 refine oT ?_
 refine oc f0k #[vP g.tb 0,vI j,.bool false] ?_
 exact h _ ⟨rfl,rfl,hsl.symm,rfl,rfl,rfl,rfl,rfl,rfl,rfl,rfl,trivial⟩
theorem x0I{v:y4}{st:Bool}{j:Nat}(hj:j<10000000){A:Array Value}(hA:G0 129 A (M7 g v st j))
 (h:∀A,G0 129 A (M7 g v st (j+1))→J0 Tryd.prog main F Stop (G (bA 54 A [.code B7,.inLoop B7,.inBlock 10,.code R8]) cs) w):J0 Tryd.prog main F Stop (G ((bA 54 A [.inRegion (oC d0y) [2],.inBlock 11,.code c0B,.inLoop B7,.inBlock 10,.code R8]).finish (.tuple #[])) cs) w:=by
 obtain⟨s,rfl,h7,h107,h108,h109,h5,h6,h8,h9,h10,h11,_⟩:=Y3 X7 hA
 simp only[X7,h7,h107,h108,h109,h5,h6,h8,h9,h10,h11]
 clear h7 h107 h108 h109 h5 h6 h8 h9 h10 h11
 have hk64:IntKind.i64.wrap ((j:Int)+1)=(j:Int)+1:=IntWalk.i64_in _ (by omega)
 rw[Frame.finish_at]
 simp only[oC,d0y,pC,X0,Tryd.f54,Option.getD_some,List.size_toArray,List.length_cons,List.length_nil,Nat.reduceAdd,Nat.zero_add,List.range,List.range.loop]
 walk_nrm
 refine ogE<|ogI ?_
 rw[p0U]
 refine ogR ?_
 simp only[oC,c0B,pC,X0,Tryd.f54,Option.getD_some,List.size_toArray,List.length_cons,List.length_nil,Nat.reduceAdd,Nat.zero_add,List.range,List.range.loop]
 iterate 2 refine oT ?_
 refine ogE<|ogL ?_
 exact h _ ⟨rfl,rfl,rfl,rfl,rfl,rfl,rfl,rfl,rfl,rfl,rfl,trivial⟩
theorem x0J [ok:Fits g] {v:y4}{st:Bool}{j:Nat} [hi:Has g j] (hn64:g.n≤64)(hK:g.K w)(ho:Z1 w ⟨g.st j,2,none⟩ (.bool true)){A:Array Value}(hA:G0 129 A (M7 g v st j))
 (h:∀A,G0 129 A (M7 g v st (j+1))→J0 Tryd.prog main F Stop (G (bA 54 A [.code B7,.inLoop B7,.inBlock 10,.code R8]) cs) w):J0 Tryd.prog main F Stop (G (bA 54 A [.code B7,.inLoop B7,.inBlock 10,.code R8]) cs) w:=by
 obtain⟨s,rfl,h7,h107,h108,h109,h5,h6,h8,h9,h10,h11,_⟩:=Y3 X7 hA
 simp only[X7,h7,h107,h108,h109,h5,h6,h8,h9,h10,h11]
 clear h7 h107 h108 h109 h5 h6 h8 h9 h10 h11
 have ct:=(hK _ _ .tv).c
 have zt:=(hK _ _ .tv).z
 have c3:=(hK _ _ .stands).c
 have z3:=(hK _ _ .stands).z
 have hin:=hi.lt
 have hsl:=ok.ok.sl (Nat.lt_of_le_of_lt (Nat.zero_le _) hin)
 have c4:=(hK _ _ (.stand j hin)).c
 have z4:=(hK _ _ (.stand j hin)).z
 have c5:=ho.c
 have z5:=ho.z
 rw[hsl]at c3
 simp only[hsl]
 have hlt:decide ((j:Int)<(g.n:Int))=true:=by simp;omega
 have hlt2:decide (j<g.n)=true:=by simp;omega
 have hk64:IntKind.i64.wrap ((j:Int)+1)=(j:Int)+1:=IntWalk.i64_in _ (by omega)
 refine ogW g0g i0X ?_
 simp only[oC,g0g,pC,X0,Tryd.f54,Option.getD_some,List.size_toArray,List.length_cons,List.length_nil,Nat.reduceAdd,Nat.zero_add,List.range,List.range.loop]
 refine oT ?_
 refine ogE<|ogV k0t l0X<|ogYn .skip<|ogK<|ogV l0L c0B ?_
 rw[p0J]
 refine L7<|ogW l0R p03 ?_
 simp only[oC,l0R,pC,X0,Tryd.f54,Option.getD_some,List.size_toArray,List.length_cons,List.length_nil,Nat.reduceAdd,Nat.zero_add,List.range,List.range.loop]
 refine oT ?_
 refine oX ?_
 refine oL ?_
 iterate 2 refine oT ?_
 refine ogE<|ogW l0S p0L ?_
 simp only[oC,l0S,pC,X0,Tryd.f54,Option.getD_some,List.size_toArray,List.length_cons,List.length_nil,Nat.reduceAdd,Nat.zero_add,List.range,List.range.loop]
 iterate 3 refine oT ?_
 refine oL ?_
 refine oT ?_
 refine ogE<|ogGn .skip<|ogK<|ogI ?_
 rw[p0U]
 refine ogR ?_
 simp only[oC,c0B,pC,X0,Tryd.f54,Option.getD_some,List.size_toArray,List.length_cons,List.length_nil,Nat.reduceAdd,Nat.zero_add,List.range,List.range.loop]
 iterate 2 refine oT ?_
 refine ogE<|ogL ?_
 exact h _ ⟨rfl,rfl,hsl.symm,rfl,rfl,rfl,rfl,rfl,rfl,rfl,rfl,trivial⟩
theorem x0K{v:y4}{st:Bool}{A:Array Value}(hA:G0 129 A (M7 g v st g.n))
 (h:∀A,G0 129 A (M7 g v st g.n)→J0 Tryd.prog main F Stop (G (bA 54 A [.code R8]) cs) w):J0 Tryd.prog main F Stop (G (bA 54 A [.code B7,.inLoop B7,.inBlock 10,.code R8]) cs) w:=by
 obtain⟨s,rfl,h7,h107,h108,h109,h5,h6,h8,h9,h10,h11,_⟩:=Y3 X7 hA
 simp only[X7,h7,h107,h108,h109,h5,h6,h8,h9,h10,h11]
 clear h7 h107 h108 h109 h5 h6 h8 h9 h10 h11
 have hlt:decide ((g.n:Int)<(g.n:Int))=false:=by simp
 refine ogW g0g i0X ?_
 simp only[oC,g0g,pC,X0,Tryd.f54,Option.getD_some,List.size_toArray,List.length_cons,List.length_nil,Nat.reduceAdd,Nat.zero_add,List.range,List.range.loop]
 refine oT ?_
 refine ogE<|ogV k0t l0X<|ogGn (.exit 10) ?_
 refine M0 rfl (fun d=>stepG_exit rfl) ?_
 exact h _ ⟨rfl,rfl,rfl,rfl,rfl,rfl,rfl,rfl,rfl,rfl,rfl,trivial⟩
end
section
open Go.ConcN (sumTo upd sumTo_upd upd_ne upd_same)
variable{g:M1}{F:Fz}{Z:C4}{x y:Z.X}{w w':World}{s0 nn h:Nat}{Gl:Machine→Trace→Prop}{v:y4}{base M:Nat}{Inb:Nat→Option Seat}
theorem g6 [ok:Fits g] {SL:List (Nat×Value)}{a:Goroutine}(Φ:Array Value→Goroutine)(ho:∀Stop:Goroutine→World→Prop,(∀A,G0 129 A SL→J0 Tryd.prog (h == 0) (FK g) Stop (Φ A) w)→J0 Tryd.prog (h == 0) (FK g) Stop a w)
 (hk:∀A d,G0 129 A SL→e8 Tryd.prog g.K g.Still g.top Gl Inb h nn (Φ A) (w.at d)):e8 Tryd.prog g.K g.Still g.top Gl Inb h nn a w:=by
 refine I6 (F:=FK g) (Stop:=fun a u=>∃A,G0 129 A SL∧a=Φ A∧∃d,u=w.at d) a0D K7 k0h (ho _ fun A hA=>.stop fun d=>⟨A,hA,rfl,d,rfl⟩) fun g' w0 d hS=>?_
 obtain⟨A,hA,rfl,d',e⟩:=hS d
 rw[e]
 exact hk A d' hA
theorem c0M{n:Nat}{l m:List Int}{s t:Z.X×List Nat}:Q6 Z n M (l++m) s t↔∃u,Q6 Z n M l s u∧Q6 Z n M m u t:=by
 induction l generalizing s with
 | nil=>simp[Q6]
 | cons i l ih=>
   simp only[List.cons_append,Q6,ih]
   constructor
   ·rintro⟨u,h1,v,h2,h3⟩;exact⟨v,⟨u,h1,h2⟩,h3⟩
   ·rintro⟨v,⟨u,h1,h2⟩,h3⟩;exact⟨u,h1,v,h2,h3⟩
theorem g0I{n:Nat}{i:Int}{s t:Z.X×List Nat}:Q6 Z n M [i] s t↔d0T Z n M s i t:=by
 simp only[Q6]
 constructor
 ·rintro⟨u,h,rfl⟩;exact h
 ·exact fun h=>⟨t,h,rfl⟩
theorem r0B{n:Nat}{i:Int}{s t:Z.X×List Nat}(h:d0T Z n M s i t):s.2.length≤t.2.length∧(t.2.length=s.2.length→t=s):=by
 unfold d0T at h
 split at h
 ·rw[h.2];simp
 ·rw[h];simp
theorem o0h{n:Nat}{l:List Int}{s t:Z.X×List Nat}(h:Q6 Z n M l s t):s.2.length≤t.2.length∧(t.2.length=s.2.length→t=s∧∀i∈l,d0T Z n M s i s):=by
 induction l generalizing s with
 | nil=>simp only[Q6]at h;subst h;simp
 | cons i l ih=>
   obtain⟨u,h1,h2⟩:=h
   obtain⟨a1,a2⟩:=r0B h1
   obtain⟨b1,b2⟩:=ih h2
   refine⟨Nat.le_trans a1 b1,fun e=>?_⟩
   have e1:u=s:=a2 (by omega)
   subst e1
   obtain⟨c1,c2⟩:=b2 e
   exact⟨c1,fun j hj=>by
    rcases List.mem_cons.1 hj with rfl|hj
    ·exact h1
    ·exact c2 j hj⟩
theorem j0d{n:Nat}{s t:Z.X×List Nat}(hc:0<L5 (Z.liv s.1) n)(hl:s.2.length<M)(h:Q6 Z n M ((List.range n).map fun j:Nat=>(j:Int)) s t):s.2.length<t.2.length:=by
 obtain⟨h1,h2⟩:=o0h h
 rcases Nat.lt_or_eq_of_le h1 with h1|h1
 ·exact h1
 exfalso
 obtain⟨_,h3⟩:=h2 h1.symm
 have:∃j,j<n∧Z.liv s.1 j=true:=by
  apply Classical.byContradiction
  intro hno
  have:L5 (Z.liv s.1) n=0:=a0I.2 fun j hj=>by
   cases e:Z.liv s.1 j with
   | false=>rfl
   | true=>exact absurd ⟨j,hj,e⟩ hno
  omega
 obtain⟨j,hj,hlj⟩:=this
 have ht:=h3 j (by simp;exact⟨j,hj,rfl⟩)
 unfold d0T at ht
 rw[if_pos ⟨by omega,by omega,by simpa using hlj,by omega⟩]at ht
 have:=congrArg List.length ht.2
 simp at this
theorem o0e [ok:Fits g] (zok:Z.Ok g)(hs0:0<s0)(hM:M≤1048576)(hn64:g.n≤64){S:List Int}{sa:Option Addr}{sb so sc:Nat}(hsa:0<S.length→sa=some ⟨sb,so,none⟩)(hS:d0i Z sb so (S.map fun i:Int=>Value.int .i64 i))(hSl:S.length<9223372036854775808){cs:List Frame}{st:Z.X×List Nat}
 (hk:∀t Inb w A,Q6 Z g.n M S st t→v7 Z g v base M s0 t Inb w→G0 129 A (j9 g v)→e8 Tryd.prog g.K g.Still g.top Gl Inb 0 (s0+g.n) (G (bA 54 A [.code S5,.inLoop S5,.inBlock 6,.code L6]) cs) w):
 ∀(k j:Nat),j+k=S.length→∀s Inb w A,Q6 Z g.n M (S.take j) st s→v7 Z g v base M s0 s Inb w→G0 129 A (a0f g v (.slice sa S.length sc) S.length j)→
  e8 Tryd.prog g.K g.Still g.top Gl Inb 0 (s0+g.n) (G (bA 54 A [.code P8,.inLoop P8,.inBlock 4,.code a0N]) cs) w:=by
 intro k
 induction k with
 | zero=>
   intro j hj s Inb w A ht hU hA
   obtain rfl:j=S.length:=by omega
   rw[List.take_length]at ht
   exact g6 _ (fun Stop h=>B0O hA h) fun A d hA=>hk s _ _ A ht (hU.at zok d) hA
 | succ k ih=>
   intro j hj s Inb w A ht hU hA
   have hjl:j<S.length:=by omega
   obtain rfl:=hsa (by omega)
   have hU':=hU
   obtain⟨hlen,vs,N,oa,oc,ms,rfl,HT,HM⟩:=hU'
   obtain⟨hc,hz⟩:=hS.cell (k:=j) (u:=vI S[j]) zok HT.u (by simp[hjl])
   refine g6 (fun A=>G (Frame.enter Tryd.prog 66 (C3 g v S[j]) .normal) ((bA 54 A [.inRegion (oC d0w) [2],.inBlock 5,.code e01,.inLoop P8,.inBlock 4,.code a0N])::cs)) (fun Stop h=>B0M hjl hSl hc hz hA h) fun A d hA=>?_
   refine m0R zok hs0 hM hn64 (hU.at zok d) fun t Inb' w' htn hU'=>?_
   refine g6 _ (fun Stop h=>B0N (by omega) hA h) fun A d hA=>?_
   refine ih (j+1) (by omega) t Inb' _ A ?_ (hU'.at zok d) hA
   rw[← List.take_append_getElem hjl]
   exact c0M.2 ⟨s,ht,g0I.2 htn⟩
theorem o0d [ok:Fits g] (zok:Z.Ok g)(hs0:0<s0)(hM:M≤1048576)(hn64:g.n≤64){cs:List Frame}{st:Z.X×List Nat}
 (hk:∀t Inb w A,Q6 Z g.n M ((List.range g.n).map fun j:Nat=>(j:Int)) st t→v7 Z g v base M s0 t Inb w→G0 129 A (j9 g v)→e8 Tryd.prog g.K g.Still g.top Gl Inb 0 (s0+g.n) (G (bA 54 A [.code S5,.inLoop S5,.inBlock 6,.code L6]) cs) w):
 ∀(k j:Nat),j+k=g.n→∀s Inb w A,Q6 Z g.n M ((List.range j).map fun j:Nat=>(j:Int)) st s→v7 Z g v base M s0 s Inb w→G0 129 A (b05 g v j)→
  e8 Tryd.prog g.K g.Still g.top Gl Inb 0 (s0+g.n) (G (bA 54 A [.code Q8,.inLoop Q8,.inBlock 8,.inBlock 7,.inLoop S5,.inBlock 6,.code L6]) cs) w:=by
 intro k
 induction k with
 | zero=>
   intro j hj s Inb w A ht hU hA
   obtain rfl:j=g.n:=by omega
   exact g6 _ (fun Stop h=>B0R hA h) fun A d hA=>hk s _ _ A ht (hU.at zok d) hA
 | succ k ih=>
   intro j hj s Inb w A ht hU hA
   refine g6 (fun A=>G (Frame.enter Tryd.prog 66 (C3 g v j) .normal) ((bA 54 A [.inRegion (oC d0x) [2],.inBlock 9,.code e02,.inLoop Q8,.inBlock 8,.inBlock 7,.inLoop S5,.inBlock 6,.code L6])::cs)) (fun Stop h=>B0P (by omega) hA h) fun A d hA=>?_
   refine m0R zok hs0 hM hn64 (hU.at zok d) fun t Inb' w' htn hU'=>?_
   refine g6 _ (fun Stop h=>B0Q (by omega) hA h) fun A d hA=>?_
   refine ih (j+1) (by omega) t Inb' _ A ?_ (hU'.at zok d) hA
   rw[List.range_succ,List.map_append]
   exact c0M.2 ⟨s,ht,g0I.2 htn⟩
theorem k07 [ok:Fits g] (zok:Z.Ok g)(hs0:0<s0)(hM:M≤1048576)(hn64:g.n≤64){cs:List Frame}:
 ∀(m:Nat) (s:Z.X×List Nat),M - s.2.length≤m→∀Inb w A,(∀t Inb w A,b0Q Z g.n M s t→v7 Z g v base M s0 t Inb w→G0 129 A (j9 g v)→e8 Tryd.prog g.K g.Still g.top Gl Inb 0 (s0+g.n) (G (bA 54 A [.code L6]) cs) w)→
  v7 Z g v base M s0 s Inb w→G0 129 A (j9 g v)→
  e8 Tryd.prog g.K g.Still g.top Gl Inb 0 (s0+g.n) (G (bA 54 A [.code S5,.inLoop S5,.inBlock 6,.code L6]) cs) w:=by
 intro m
 induction m with
 | zero=>?_
 | succ m ih=>?_
 all_goals
  intro s hm Inb w A hk hU hA
  have hU':=hU
  obtain⟨hlen,vs,N,oa,oc,ms,rfl,HT,HM⟩:=hU'
  obtain⟨cod,hod1,hod2⟩:=HM.od
  rcases Nat.eq_zero_or_pos (L5 (Z.liv s.1) g.n)with h0|h0
  ·have hl:=HM.lf
   rw[h0]at hl
   exact g6 _ (fun Stop h=>x0M hl hA h) fun A d hA=>hk s _ _ A (.done (.inl h0)) (hU.at zok d) hA
  by_cases hfull:M≤s.2.length
  ·exact g6 _ (fun Stop h=>x0N HM.lf h0 ⟨⟨cod,_,hod1,hod2⟩,rfl⟩ HM.mo hfull hA h) fun A d hA=>hk s _ _ A (.done (.inr hfull)) (hU.at zok d) hA
  first
  | (exfalso;omega)
  | (refine g6 _ (fun Stop h=>x0L HM.lf h0 ⟨⟨cod,_,hod1,hod2⟩,rfl⟩ HM.mo (by omega) HM.n hA h) fun A d hA=>?_
     refine o0d zok hs0 hM hn64 (st:=s) (fun t Inb w A ht hU hA=>?_) g.n 0 (by omega) s _ _ A rfl (hU.at zok d) hA
     have:=j0d h0 (by omega) ht
     exact ih t (by omega) Inb w A (fun t' Inb w A hr=>hk t' Inb w A (.more h0 (by omega) ht hr)) hU hA)
end
section
open Go.ConcN (sumTo upd sumTo_upd upd_ne upd_same)
variable{g:M1}{F:Fz}{Z:C4}{x y:Z.X}{w w':World}{s0 nn h:Nat}{Gl:Machine→Trace→Prop}{v:y4}{base M:Nat}{Inb:Nat→Option Seat}
theorem r0w{An:G3}{P:Program}{K:World→Prop}(hKA:∀w,K w→An.Holds w){Still:Loc→Prop}{B0 n:Nat}{Stop:Goroutine→World→Prop}{a:Goroutine}(hI:∀i,i≠0→Inb i=none)(h:Q4 An P Stop a w):e8 P K Still B0 (o0m An P Stop) Inb 0 n a w:=by
 intro gs sl T q B hB hn hg C
 obtain⟨hL,hP⟩:=ring_end C (.inr rfl) hI
 obtain⟨N,gs',g',w',sl',T',q',B',hr,hg',hS',hL',hP',hA'⟩:=h gs sl T q B hg hL hP (hKA _ C.keep)
 exact⟨N,_,T',hr,gs',g',w',sl',q',B',rfl,hg',hS',hL',hP',hA'⟩
def T6(Z:C4)(x:Z.X)(n j:Nat):Nat→Bool:=fun k=>decide (j≤k) && (decide (k<n) && Z.liv x k)
def M9(Z:C4)(x:Z.X)(n j:Nat):Nat→Bool:=fun k=>decide (k<n) && (!Z.liv x k || decide (k<j))
theorem a0e{n j:Nat}:(fun k=>T6 Z x n j k && k != j)=T6 Z x n (j+1):=by
 funext k
 unfold T6
 by_cases e:k=j
 ·subst e;simp;omega
 ·have e1:(k != j)=true:=by simpa using e
  have e2:decide (j≤k)=decide (j+1≤k):=by by_cases h:j≤k<;>simp[h]<;>omega
  rw[e1,e2];simp
theorem e0R{n j:Nat}(hj:j<n):(fun k=>if k=j then true else M9 Z x n j k)=M9 Z x n (j+1):=by
 funext k
 unfold M9
 by_cases e:k=j
 ·subst e;simp[hj]
 ·have e2:decide (k<j)=decide (k<j+1):=by by_cases h:k<j<;>simp[h]<;>omega
  rw[if_neg e,e2]
theorem e0Q{n j:Nat}(hl:Z.liv x j=false):T6 Z x n j=T6 Z x n (j+1):=by
 rw[← a0e]
 funext k
 by_cases e:k=j
 ·subst e;simp[T6,hl]
 ·have e1:(k != j)=true:=by simpa using e
  rw[e1];simp
theorem k0m{n j:Nat}(hj:j<n)(hl:Z.liv x j=false):M9 Z x n j=M9 Z x n (j+1):=by
 rw[← e0R hj]
 funext k
 by_cases e:k=j
 ·subst e;simp[M9,hl,hj]
 ·rw[if_neg e]
theorem o0c [ok:Fits g] (zok:Z.Ok g)(hs0:0<s0)(hn64:g.n≤64){osa:Option Addr}(hsl:g.sl= .slice osa g.n g.sc){oa0:Unit}{cs:List Frame}{x:Z.X}{ord:List Nat}{st:Bool}{lf:Nat}{Stop:Goroutine→World→Prop}
 (hk:∀w A vs N oa oc ov,TI Z g (fun _=>False) vs N ov x w→MI Z g vs (fun _=>False) N v base M oa ord.length oc (ord.map fun i:Nat=>Value.int .i64 i) lf w→g.K w→G0 129 A (M7 g v st g.n)→Q4 g.an Tryd.prog Stop (G (bA 54 A [.code R8]) cs) w):
 ∀(k j:Nat),j+k=g.n→∀w A vs N oa oc ms,TI Z g (fun k=>T6 Z x g.n j k=true) vs N (M9 Z x g.n j) x w→MI Z g vs (fun k=>T6 Z x g.n j k=true) N v base M oa ord.length oc (ord.map fun i:Nat=>Value.int .i64 i) lf w→G0 129 A (M7 g v st j)→
  e8 Tryd.prog g.K g.Still g.top (o0m g.an Tryd.prog Stop) (E7 Z g s0 (T6 Z x g.n j) vs ms x) 0 (s0+g.n) (G (bA 54 A [.code B7,.inLoop B7,.inBlock 10,.code R8]) cs) w:=by
 intro k
 induction k with
 | zero=>
   intro j hj w A vs N oa oc ms H HM hA
   obtain rfl:j=g.n:=by omega
   refine U3 fun _ hK _=>?_
   refine g6 _ (fun Stop h=>x0K hA h) fun A d hA=>?_
   have hno:∀k,¬T6 Z x g.n g.n k=true:=fun k hk=>by
    simp only[T6,Bool.and_eq_true,decide_eq_true_eq]at hk;omega
   refine r0w (fun w h=>h.an) (fun i hi=>?_) (hk _ A vs N oa oc _ ((H.mono fun j hj=>hj.elim).at zok d) ((HM.mono fun j hj=>hj.elim).at d) (hK.at d) hA)
   unfold E7
   rw[if_neg hi,if_neg fun h=>hno _ h.2]
 | succ k ih=>
   intro j hj w A vs N oa oc ms H HM hA
   have hin:j<g.n:=by omega
   have hiH:Has g j:=⟨hin⟩
   refine U3 fun _ hK _=>?_
   have ho:=H.over j hin
   rcases Bool.eq_false_or_eq_true (Z.liv x j)with hl|hl
   ·have e0:M9 Z x g.n j j=false:=by simp[M9,hl]
    have eA:T6 Z x g.n j j=true:=by simp[T6,hl,hin]
    rw[e0]at ho
    refine g6 (fun A=>G (Frame.enter Tryd.prog 67 #[vP g.tb 0,vI j,.bool false] .normal) ((bA 54 A [.inRegion (oC d0y) [2],.inBlock 11,.code c0B,.inLoop B7,.inBlock 10,.code R8])::cs)) (fun Stop h=>s0H hK ho hA h) fun A d hA=>?_
    refine j0I zok hs0 (fun k hk=>?_) eA hl (H.at zok d) e0 fun w1 H1 k1=>?_
    ·simp only[T6,Bool.and_eq_true,decide_eq_true_eq]at hk
     exact⟨hk.2.1,by omega⟩
    have eP:(fun k=>(T6 Z x g.n j k && k != j)=true)=fun k=>T6 Z x g.n (j+1) k=true:=by
     funext k;rw[show(T6 Z x g.n j k && k != j)=_ from congrFun a0e k]
    rw[eP,e0R hin]at H1
    rw[a0e]
    have HM1:=((HM.at d).kept hin eA k1).mono (Al':=fun k=>T6 Z x g.n (j+1) k=true) fun k hk=>by
     rw[← a0e]at hk
     simp only[Bool.and_eq_true]at hk
     exact hk.1
    refine g6 _ (fun Stop h=>x0I (by omega) hA h) fun A d hA=>?_
    exact ih (j+1) (by omega) _ A vs N oa oc _ (H1.at zok d) (HM1.at d) hA
   ·have e0:M9 Z x g.n j j=true:=by simp[M9,hl,hin]
    rw[e0]at ho
    refine g6 _ (fun Stop h=>x0J hn64 hK ho hA h) fun A d hA=>?_
    have H1:=H.at zok d
    have HM1:=HM.at d
    rw[e0Q hl]at HM1 ⊢
    rw[e0Q hl,k0m hin hl]at H1
    exact ih (j+1) (by omega) _ A vs N oa oc _ H1 HM1 hA
theorem r0x [ok:Fits g] (zok:Z.Ok g)(hs0:0<s0)(hn64:g.n≤64){osa:Option Addr}(hsl:g.sl= .slice osa g.n g.sc){cs:List Frame}{s:Z.X×List Nat}{Stop:Goroutine→World→Prop}
 (hk:∀w A vs N oa oc ov,TI Z g (fun _=>False) vs N ov s.1 w→MI Z g vs (fun _=>False) N v base M oa s.2.length oc (s.2.map fun i:Nat=>Value.int .i64 i) (L5 (Z.liv s.1) g.n) w→g.K w→G0 129 A (M7 g v (decide (0<L5 (Z.liv s.1) g.n)) g.n)→Q4 g.an Tryd.prog Stop (G (bA 54 A [.code R8]) cs) w)
 {A:Array Value} (hU:v7 Z g v base M s0 s Inb w) (hA:G0 129 A (j9 g v)):
 e8 Tryd.prog g.K g.Still g.top (o0m g.an Tryd.prog Stop) Inb 0 (s0+g.n) (G (bA 54 A [.code L6]) cs) w:=by
 obtain⟨hlen,vs,N,oa,oc,ms,rfl,HT,HM⟩:=hU
 refine U3 fun _ hK _=>?_
 refine g6 _ (fun Stop h=>x0H rfl hK HM.lf hsl hA h) fun A d hA=>?_
 have eA:(fun j=>decide (j<g.n) && Z.liv s.1 j)=T6 Z s.1 g.n 0:=by funext k;simp[T6]
 have eO:(fun j=>decide (j<g.n) && !Z.liv s.1 j)=M9 Z s.1 g.n 0:=by funext k;simp[M9]
 have eP:(fun j=>(decide (j<g.n) && Z.liv s.1 j)=true)=fun k=>T6 Z s.1 g.n 0 k=true:=by funext k;rw[show(decide (k<g.n) && Z.liv s.1 k)=_ from congrFun eA k]
 rw[eP]at HT HM
 rw[eO]at HT
 rw[eA]
 exact o0c (oa0:=()) zok hs0 hn64 hsl (ord:=s.2) (st:=decide (0<L5 (Z.liv s.1) g.n)) (lf:=L5 (Z.liv s.1) g.n) hk g.n 0 (by omega) _ A vs N oa oc ms (HT.at zok d) (HM.at d) hA
end
section
variable{P:Program}{F:Fz}{fn:FuncId}{ops:Array Oper}{S:World→Prop}{last:Nat}{Z:Act→World→Prop}
def OpM(P:Program)(F:Fz)(fn:FuncId)(ops:Array Oper)(i:Nat)(K:Act→World→Prop)(a:Act)(w:World):Prop:=
 ∃o,ops[i]? =some o∧((Region.wanted o (yielded ops a.tmps)=true∧∀d,uponK o a (fun a' w'=>H7 F (w.at d) w' (listed P fn a o (w.at d))∧K a' w') ((execOp a.eval o).run P (w.at d)))∨
  (Region.wanted o (yielded ops a.tmps)=false∧K (a.put o.dst undef) w))
def B9(P:Program)(F:Fz)(fn:FuncId)(ops:Array Oper)(S:World→Prop)(last:Nat)(Z:Act→World→Prop):Nat→Array Bool→Act→World→Prop
 | 0,listed,a,w=>((∀j∈Region.ready .any ops listed,j=last)→Z a w)∧∀j∈Region.ready .any ops listed,j=last
 | fuel+1,listed,a,w=>((∀j∈Region.ready .any ops listed,j=last)→Z a w)∧∀i∈Region.ready .any ops listed,i≠last→OpM P F fn ops i (fun a w=>S w∧B9 P F fn ops S last Z fuel (listed.setIfInBounds i true) a w) a w
theorem f0z{o:Oper}{a:Act}{K K':Act→World→Prop}{r:Result Next}(h:∀u w,K (a.put o.dst u) w→K' (a.put o.dst u) w)(hh:uponK o a K r):uponK o a K' r:=by
 cases r with
 | ok x w=>cases x<;>first|exact h _ _ hh|exact hh
 | halt _ _=>exact hh
theorem i0m{i:Nat}{a:Act}{w:World}{K K':Act→World→Prop}(h:∀a w,K a w→K' a w)(hh:OpM P F fn ops i K a w):OpM P F fn ops i K' a w:=by
 obtain⟨o,h1,⟨h2,h3⟩|⟨h2,h3⟩⟩:=hh
 ·exact⟨o,h1,.inl ⟨h2,fun d=>f0z (fun u w ⟨x,y⟩=>⟨x,h _ _ y⟩) (h3 d)⟩⟩
 ·exact⟨o,h1,.inr ⟨h2,h _ _ h3⟩⟩
theorem w0y{i:Nat}{a:Act}{w:World}{K:Act→World→Prop}(hK:∀a w d,K a w→K a (World.at w d))(h:OpM P F fn ops i K a w)(d:Nat):OpM P F fn ops i K a (w.at d):=by
 obtain⟨o,h1,⟨h2,h3⟩|⟨h2,h3⟩⟩:=h
 ·exact⟨o,h1,.inl ⟨h2,fun d'=>by rw[at_at'];exact h3 d'⟩⟩
 ·exact⟨o,h1,.inr ⟨h2,hK _ _ _ h3⟩⟩
theorem Y2(hS:∀w d,S w→S (World.at w d))(hZ:∀a w d,Z a w→Z a (World.at w d)):∀(fuel:Nat) (listed:Array Bool) (a:Act) (w:World),B9 P F fn ops S last Z fuel listed a w→∀d,B9 P F fn ops S last Z fuel listed a (w.at d):=by
 intro fuel
 induction fuel with
 | zero=>exact fun listed a w h d=>⟨fun x=>hZ _ _ _ (h.1 x),h.2⟩
 | succ fuel ih=>exact fun listed a w h d=>⟨fun x=>hZ _ _ _ (h.1 x),fun i hi hl=>w0y (fun a w d ⟨x,y⟩=>⟨hS _ _ x,ih _ _ _ y d⟩) (h.2 i hi hl) d⟩
theorem r0U{i j:Nat}{oi oj:Oper}{v:Value}(hj:ops[j]? =some oj)(hap:oi.apart ops oj=true)(hsj:∀cs b,oj.op≠.select cs b){K:Act→World→Prop}{a:Act}{w:World}
 (h:OpM P F fn ops j K (a.put oi.dst v) w):OpM P F fn ops j (fun a' w'=>∃u,a'=a.put oj.dst u∧K (a'.put oi.dst v) w') a w:=by
 obtain⟨h1,h2,h3⟩:=Oper.apart_spec hap
 obtain⟨o,ho,hh⟩:=h
 rw[hj]at ho
 cases ho
 have e1:execOp (a.put oi.dst v).eval oj=execOp a.eval oj:=execOp_put oj hsj a oi.dst v h1
 have e2:=wanted_put oj a oi.dst v h1
 refine⟨oj,hj,?_⟩
 unfold listed at*
 rw[e1,e2]at hh
 rcases hh with⟨hw,hh⟩|⟨hw,hh⟩
 ·refine .inl ⟨hw,fun d=>?_⟩
  have:=hh d
  cases hr:(execOp a.eval oj).run P (w.at d)with
  | halt _ _=>rw[hr]at this;exact this
  | ok x w'=>
    rw[hr]at this
    cases x with
    | value u=>exact⟨this.1,u,rfl,by rw[← Act.put_comm a v u h2];exact this.2⟩
    | skip=>exact⟨this.1,undef,rfl,by rw[← Act.put_comm a v undef h2];exact this.2⟩
    | _=>exact this
 ·exact .inr ⟨hw,undef,rfl,by rw[← Act.put_comm a v undef h2];exact hh⟩
theorem j0U(hS:∀w d,S w→S (World.at w d))(hZ:∀a w d,Z a w→Z a (World.at w d)){i:Nat}{oi:Oper}{v:Value}(hi:ops[i]? =some oi)(hil:i≠last)(hsel:∀(j:Nat) (o:Oper) cs b,ops[j]? =some o→o.op≠.select cs b):
 ∀(fuel:Nat) (listed:Array Bool) (a:Act) (w:World),S w→
  (∀j oj,ops[j]? =some oj→j≠i→listed.getD j true=false→(∀e∈oj.after,Region.binds .any e=true→e.on≠i)→oi.apart ops oj=true)→
  i∈Region.ready .any ops listed→(∀w,S w→YQ P F fn ops w oi v a)→
  B9 P F fn ops S last Z fuel (listed.setIfInBounds i true) (a.put oi.dst v) w→B9 P F fn ops S last Z (fuel+1) listed a w:=by
 have self:∀(fuel:Nat) (listed:Array Bool) (a:Act) (w:World),S w→(∀w,S w→YQ P F fn ops w oi v a)→B9 P F fn ops S last Z fuel (listed.setIfInBounds i true) (a.put oi.dst v) w→
  OpM P F fn ops i (fun a w=>S w∧B9 P F fn ops S last Z fuel (listed.setIfInBounds i true) a w) a w:=by
  intro fuel listed a w hw hy H
  rcases hy w hw with⟨h1,h2⟩|⟨h1,rfl⟩
  ·exact⟨oi,hi,.inl ⟨h1,fun d=>by rw[(h2 d).1];exact⟨⟨⟨0,V3.refl F _⟩,(h2 d).2⟩,hS _ _ hw,Y2 hS hZ _ _ _ _ H d⟩⟩⟩
  ·exact⟨oi,hi,.inr ⟨h1,hw,H⟩⟩
 intro fuel
 induction fuel with
 | zero=>
   intro listed a w hw _ hr hy H
   refine⟨fun h=>absurd (h i hr) hil,fun j hj hjl=>?_⟩
   by_cases hji:j=i
   ·subst hji;exact self _ _ _ _ hw hy H
   ·exact absurd (H.2 j (ready_mono hj hji)) hjl
 | succ fuel ih=>
   intro listed a w hw hfree hr hy H
   refine⟨fun h=>absurd (h i hr) hil,fun j hj hjl=>?_⟩
   by_cases hji:j=i
   ·subst hji;exact self _ _ _ _ hw hy H
   ·have h1:=H.2 j (ready_mono hj hji) hjl
    obtain⟨hjun,oj,hoj,hall⟩:=mem_ready.1 hj
    have hnot:∀e∈oj.after,Region.binds .any e=true→e.on≠i:=fun e he hb heq=>by
     have h1:=hall e he hb
     have h0:=(mem_ready.1 hr).1
     rw[heq]at h1
     rcases Nat.lt_or_ge i listed.size with h'|h'
     ·simp[h']at h0 h1;rw[h0]at h1;cases h1
     ·simp[Array.getElem?_eq_none h']at h1
    have hap:=hfree j oj hoj hji hjun hnot
    obtain⟨p1,p2,p3⟩:=Oper.apart_spec hap
    have h2:=r0U (i:=i) (oi:=oi) hoj hap (fun cs b=>hsel j oj cs b hoj) h1
    have hfree':∀k ok,ops[k]? =some ok→k≠i→(listed.setIfInBounds j true).getD k true=false→
     (∀e∈ok.after,Region.binds .any e=true→e.on≠i)→oi.apart ops ok=true:=fun k ok hk hki hun hno=>by
     refine hfree k ok hk hki ?_ hno
     by_cases hjk:j=k
     ·subst hjk;exact hjun
     ·rw[getD_set_ne true hjk]at hun;exact hun
    refine i0m (fun a' w' h3=>?_) h2
    obtain⟨u,rfl,hw',h4⟩:=h3
    refine⟨hw',ih (listed.setIfInBounds j true) _ _ hw' hfree' (ready_mono hr (Ne.symm hji)) (fun w hw=>(hy w hw).of_same (execOp_put oi (fun cs b=>hsel i oi cs b hi) a oj.dst u p3) (wanted_put oi a oj.dst u p3)) ?_⟩
    rw[Array.setIfInBounds_comm _ _ hji]
    exact h4
theorem b0c(hS:∀w d,S w→S (World.at w d))(hZ:∀a w d,Z a w→Z a (World.at w d)){i:Nat}{oi:Oper}{v:Value}{fuel:Nat}{listed:Array Bool}{a:Act}{w:World}(hw:S w)(hi:ops[i]? =some oi)(hil:(i != last)=true)(hs:Region.noSelect ops=true)(hf:Region.free .any ops listed i=true)
 (hr:(Region.ready .any ops listed).contains i=true) (hy:∀w,S w→YQ P F fn ops w oi v a) (h:B9 P F fn ops S last Z fuel (listed.setIfInBounds i true) (a.put oi.dst v) w):B9 P F fn ops S last Z (fuel+1) listed a w:=
 j0U hS hZ hi (by simpa using hil) (Region.noSelect_spec hs) fuel listed a w hw (Region.free_spec hi hf) (by simpa using hr) hy h
theorem i3{fuel:Nat}{listed:Array Bool}{a:Act}{w:World}{r:List Nat}(hr:Region.ready .any ops listed=r)(hl:r.any (· != last)=true)
 (h:∀i∈r,i≠last→OpM P F fn ops i (fun a w=>S w∧B9 P F fn ops S last Z fuel (listed.setIfInBounds i true) a w) a w):B9 P F fn ops S last Z (fuel+1) listed a w:=
 ⟨fun hn=>by
  rw[hr]at hn
  obtain⟨i,hi,hil⟩:=List.any_eq_true.1 hl
  exact absurd (hn i hi) (by simpa using hil),by rw[hr];exact h⟩
theorem P5{listed:Array Bool}{a:Act}{w:World}(hr:Region.ready .any ops listed=[last])(h:Z a w):∀fuel,B9 P F fn ops S last Z fuel listed a w
 | 0=>⟨fun _=>h,by rw[hr];simp⟩
 | _+1=>⟨fun _=>h,fun i hi hne=>absurd (by rw[hr]at hi;simpa using hi) hne⟩
theorem l00{main:Bool}{Stop:Goroutine→World→Prop}{b:Frame}{a:Act}{w:World}{k:List Item}{cs:List Frame}{i:Nat}{rest:List Nat}(hk:b.kind≠.early)
 (h:OpM P F b.fn ops i (fun a w=>J0 P main F Stop (G (b.at a (.inRegion ops rest::k)) cs) w) a w):J0 P main F Stop (G (b.at a (.inRegion ops (i::rest)::k)) cs) w:=by
 obtain⟨o,ho,⟨hw,hh⟩|⟨hw,hh⟩⟩:=h
 ·refine .step rfl fun d=>?_
  have:=hh d
  cases hr:(execOp a.eval o).run P (w.at d)with
  | halt _ _=>rw[hr]at this;exact this.elim
  | ok x w'=>
    rw[hr]at this
    cases x with
    | value u=>exact⟨_,_,_,stepG_value ho hw hk hr,this.1,this.2⟩
    | skip=>exact⟨_,_,_,stepG_none ho hw hk hr,this.1,this.2⟩
    | _=>exact this.elim
 ·exact .step rfl fun d=>⟨_,_,#[],stepG_unwanted ho hw,⟨⟨0,V3.refl F _⟩,by simp⟩,hh.at d⟩
theorem j0V(L:LL ops last){main:Bool}{Stop:Goroutine→World→Prop}{b:Frame}{k:List Item}{cs:List Frame}(hk:b.kind≠.early):
 ∀(fuel t:Nat) (listed:Array Bool) (a:Act) (w:World),listed.size=ops.size→g0L ops listed→listed.getD last true=false→
  B9 P F b.fn ops S last (fun a w=>J0 P main F Stop (G (b.at a (.inRegion ops [last]::k)) cs) w) fuel listed a w→
  J0 P main F Stop (G (b.at a (.inRegion ops (Region.linearise.go .any ops (fuel+1) t listed [])::k)) cs) w:=by
 intro fuel
 induction fuel with
 | zero=>?_
 | succ fuel ih=>?_
 all_goals
  intro t listed a w hs hc hl H
  obtain⟨i0,hi0⟩:=c0d L hs last hl
  have hlen:0<(Region.ready .any ops listed).length:=List.length_pos_of_mem hi0
  obtain⟨i,hi⟩:∃i,(Region.ready .any ops listed)[t % (Region.ready .any ops listed).length]? =some i:=⟨_,List.getElem?_eq_getElem (Nat.mod_lt _ hlen)⟩
  have hmem:=List.mem_of_getElem? hi
  rw[Region.linearise.go]
  change J0 P main F Stop (G (b.at a (.inRegion ops (match(Region.ready .any ops listed)[t % (Region.ready .any ops listed).length]? with
   | some i=>Region.linearise.go .any ops _ (t / (Region.ready .any ops listed).length) (listed.setIfInBounds i true) [i]
   | none=>[].reverse)::k)) cs) w
  rw[hi]
  simp only[]
  rw[linearise_go_acc,List.reverse_singleton,List.singleton_append]
 ·obtain rfl:=H.2 i hmem
  simp only[Region.linearise.go,List.reverse_nil]
  exact H.1 H.2
 ·by_cases hil:i=last
  ·subst hil
   have hall:=b0R L hs hc hmem i
   have hre:∀j∈Region.ready .any ops listed,j=i:=by
    intro j hj
    obtain⟨h0,o,ho,_⟩:=mem_ready.1 hj
    have hlt:=(Q3 ho)
    have hsz:=L.size
    rcases Nat.lt_or_ge j i with h|h
    ·have:=hall j (by omega) h
     rw[Q7 (by omega),this]at h0;cases h0
    ·omega
   have hnil:Region.ready .any ops (listed.setIfInBounds i true)=[]:=by
    apply List.eq_nil_iff_forall_not_mem.2
    intro j hj
    obtain⟨h0,o,ho,_⟩:=mem_ready.1 hj
    have hlt:=(Q3 ho)
    have hsz:=L.size
    by_cases e:i=j
    ·subst e
     rw[Q7 (by simp;omega)]at h0
     have:i<listed.size:=by omega
     simp[this]at h0
    ·rw[getD_set_ne true e,Q7 (by omega),hall j (by omega) (by omega)]at h0;cases h0
   have:Region.linearise.go .any ops (fuel+1) (t / (Region.ready .any ops listed).length) (listed.setIfInBounds i true) []=[]:=by
    rw[Region.linearise.go]
    change(match(Region.ready .any ops (listed.setIfInBounds i true))[(t / (Region.ready .any ops listed).length) % (Region.ready .any ops (listed.setIfInBounds i true)).length]? with
     | some i=>_
     | none=>[].reverse)=[]
    rw[hnil];rfl
   rw[this]
   exact H.1 hre
  ·refine l00 hk (i0m (fun a' w' ⟨_,hK⟩=>ih _ _ _ _ (by simpa using hs) (fun j o' hj hlj e he hb=>?_) (by rw[getD_set_ne true hil];exact hl) hK) (H.2 i hmem hil))
   by_cases e2:i=j
   ·subst e2
    obtain⟨_,o2,ho2,hd⟩:=mem_ready.1 hmem
    rw[hj]at ho2
    cases ho2
    exact getD_set_true (hd e he hb)
   ·rw[getD_set_ne false e2]at hlj
    exact getD_set_true (hc j o' hj hlj e he hb)
theorem O7(S:World→Prop)(hm:P.follows .mixedOrders=true)(L:LL ops last){id:Nat}{main:Bool}{Stop:Goroutine→World→Prop}{b:Frame}{a:Act}{w:World}{k:List Item}{cs:List Frame}(hk:b.kind≠.early)
 (h:B9 P F b.fn ops S last (fun a w=>J0 P main F Stop (G (b.at a (.inRegion ops [last]::k)) cs) w) last (Array.replicate ops.size false) a w):
 J0 P main F Stop (G (b.at a (.code (.region id ops true)::k)) cs) w:=by
 refine .step rfl fun d=>⟨_,_,_,stepG_region_draw,⟨⟨1,?_⟩,by simp⟩,?_⟩
 ·exact⟨rfl,rfl,rfl,rfl,Nat.le_refl _,fun _ _ h=>.inr h,fun _ _=>rfl⟩
 ·have hs:=L.size
  have:=j0V (S:=S) (cs:=cs) (k:=k) L hk last ((w.at d).tape (w.at d).drawn (.order b.fn id)) (Array.replicate ops.size false) a w (by simp) (fun j o _ hl=>by
   simp at hl
   rcases Nat.lt_or_ge j ops.size with h1|h1<;>simp[h1]at hl) (by simp[hs]) h
  rw[← hs]at this
  simp only[Region.schedule,hm,Bool.true_or,if_true]
  exact this.at (d+1)
theorem V4{i:Nat}{o:Oper}{K:Act→World→Prop}{a:Act}{w:World}(ho:ops[i]? =some o)(hw:Region.wanted o (yielded ops a.tmps)=true)
 (h:∀(d:Nat) (K':Act→World→Prop),(∀a' w',H7 F (w.at d) w' (listed P fn a o (w.at d))∧K a' w'→K' a' w')→uponK o a K' ((execOp a.eval o).run P (w.at d))):OpM P F fn ops i K a w:=
 ⟨o,ho,.inl ⟨hw,fun d=>h d _ fun _ _ x=>x⟩⟩
section
variable {fuel : Nat} {listed : Array Bool} {a : Act} {w : World} {oi : Oper}
theorem tkM (i : Nat) (v : Value) (hS : ∀ w d, S w → S (World.at w d)) (hw : S w) (h : B9 P F fn ops S last Z fuel (listed.setIfInBounds i true) (a.put oi.dst v) w) (hZ : ∀ a w d, Z a w → Z a (World.at w d) := by exact fun _ _ d h => h.at d) (hi : ops[i]? = some oi := by exact rfl) (hil : (i != last) = true := by exact rfl) (hs : Region.noSelect ops = true := by kernel_rfl) (hf : Region.free .any ops listed i = true := by kernel_rfl) (hr : (Region.ready .any ops listed).contains i = true := by kernel_rfl) (hy : ∀ w, S w → YQ P F fn ops w oi v a := by exact fun u hu => .inl ⟨rfl, fun d => ⟨by simp [go_sem, execOp, Act.eval], fun e he => by have hm := mem_listed he; simp [go_sem, execOp, Act.eval] at hm⟩⟩) : B9 P F fn ops S last Z (fuel + 1) listed a w := b0c hS hZ hw hi hil hs hf hr hy h
theorem r0v {Q : World → Prop} (i : Nat) (v : Value) (f : ∀ u, S u → Q u) (hS : ∀ w d, S w → S (World.at w d)) (hw : S w) (h : B9 P F fn ops S last Z fuel (listed.setIfInBounds i true) (a.put oi.dst v) w) (hZ : ∀ a w d, Z a w → Z a (World.at w d) := by exact fun _ _ d h => h.at d) (hi : ops[i]? = some oi := by exact rfl) (hil : (i != last) = true := by exact rfl) (hs : Region.noSelect ops = true := by kernel_rfl) (hf : Region.free .any ops listed i = true := by kernel_rfl) (hr : (Region.ready .any ops listed).contains i = true := by kernel_rfl) (hy : (∀ u, S u → Q u) → ∀ w, S w → YQ P F fn ops w oi v a := by intro f0; exact fun u hu => (fun f => .inl ⟨rfl, fun d => ⟨by simp [go_sem, execOp, Act.eval, f], fun e he => by have hm := mem_listed he; simp [go_sem, execOp, Act.eval, f] at hm⟩⟩) (f0 u hu)) : B9 P F fn ops S last Z (fuel + 1) listed a w := b0c hS hZ hw hi hil hs hf hr (hy f) h
theorem a0t {Q : World → Prop} (i : Nat) (v : Value) (f : ∀ u, S u → Q u) (hS : ∀ w d, S w → S (World.at w d)) (hw : S w) (h : B9 P F fn ops S last Z fuel (listed.setIfInBounds i true) (a.put oi.dst v) w) (hZ : ∀ a w d, Z a w → Z a (World.at w d) := by exact fun _ _ d h => h.at d) (hi : ops[i]? = some oi := by exact rfl) (hil : (i != last) = true := by exact rfl) (hs : Region.noSelect ops = true := by kernel_rfl) (hf : Region.free .any ops listed i = true := by kernel_rfl) (hr : (Region.ready .any ops listed).contains i = true := by kernel_rfl) (hy : (∀ u, S u → Q u) → ∀ w, S w → YQ P F fn ops w oi v a := by intro f0; exact fun u hu => (fun f => .inl ⟨rfl, fun d => ⟨by simp [go_sem, execOp, Act.eval, f], fun e he => by have hm := mem_listed he; simp [go_sem, execOp, Act.eval, f] at hm; first | (subst hm; exact I1 _ _) | (rcases hm with rfl | rfl | rfl <;> exact I1 _ _) | (rcases hm with rfl | rfl | rfl | rfl <;> exact I1 _ _)⟩⟩) (f0 u hu)) : B9 P F fn ops S last Z (fuel + 1) listed a w := b0c hS hZ hw hi hil hs hf hr (hy f) h
end
end
noncomputable section
variable {cs:List Frame}{main:Bool}{Stop:Goroutine→World→Prop}
variable{g:M1}{F:Fz}{w:World}
def O8:Code:=Tryd.f64.body.getD .skip
def x0n:=pC [] O8
def n0B:=pC [zt] O8
def x0o:=pC [zf] O8
def n0C:=pC [zf,zt] O8
theorem b00(args:Array Value):Frame.enter Tryd.prog 64 args .normal=(Go.Conc.base 64).at {tmps:=args++Array.replicate (9 - args.size) undef,defers:=[]} [.code O8]:=enter_at args Tryd.func64 rfl
theorem j0t:O1 64:=G2 Tryd.func64 rfl rfl
theorem h0d{m:Int}(hm:m<0){c:Frame}(h:J0 Tryd.prog main F Stop (G (c.finish (vI 0)) cs) w):
 J0 Tryd.prog main F Stop (G (Frame.enter Tryd.prog 64 #[vI m,vI 1048576] .normal) (c::cs)) w:=by
 have f1:¬(0:Int)<m:=by omega
 rw[b00]
 change J0 _ _ _ _ (G ((Go.Conc.base 64).at _ [.code x0n]) _) _
 walk_nrm
 refine ogW n0B x0o ?_
 simp only[oC,n0B,pC,O8,Tryd.f64,Option.getD_some,List.size_toArray,List.length_cons,List.length_nil,Nat.reduceAdd,Nat.zero_add,List.range,List.range.loop]
 refine oT ?_
 refine ogE<|ogW n0C .ret ?_
 simp only[oC,n0C,pC,O8,Tryd.f64,Option.getD_some,List.size_toArray,List.length_cons,List.length_nil,Nat.reduceAdd,Nat.zero_add,List.range,List.range.loop]
 iterate 5 refine oT ?_
 refine ogE<|ogX ?_
 refine M0 rfl (fun d=>stepG_leave (fn:=Tryd.f64) (v:=vI 0) rfl rfl Tryd.func64 (by simp[results,Tryd.f64,go_sem, *]) (by simp[results,Tryd.f64,go_sem, *])) ?_
 exact h
theorem h0e{m:Int}(hm:0≤m)(hm2:m≤1048576){c:Frame}(h:J0 Tryd.prog main F Stop (G (c.finish (vI m)) cs) w):
 J0 Tryd.prog main F Stop (G (Frame.enter Tryd.prog 64 #[vI m,vI 1048576] .normal) (c::cs)) w:=by
 have f1:¬m<0:=by omega
 have f2:¬(1048576:Int)<m:=by omega
 rw[b00]
 change J0 _ _ _ _ (G ((Go.Conc.base 64).at _ [.code x0n]) _) _
 walk_nrm
 refine ogW n0B x0o ?_
 simp only[oC,n0B,pC,O8,Tryd.f64,Option.getD_some,List.size_toArray,List.length_cons,List.length_nil,Nat.reduceAdd,Nat.zero_add,List.range,List.range.loop]
 refine oT ?_
 refine ogE<|ogW n0C .ret ?_
 simp only[oC,n0C,pC,O8,Tryd.f64,Option.getD_some,List.size_toArray,List.length_cons,List.length_nil,Nat.reduceAdd,Nat.zero_add,List.range,List.range.loop]
 iterate 5 refine oT ?_
 refine ogE<|ogX ?_
 refine M0 rfl (fun d=>stepG_leave (fn:=Tryd.f64) (v:=vI m) rfl rfl Tryd.func64 (by simp[results,Tryd.f64,go_sem, *]) (by simp[results,Tryd.f64,go_sem, *])) ?_
 exact h
theorem f0L{m:Int}(hm:1048576<m){c:Frame}(h:J0 Tryd.prog main F Stop (G (c.finish (vI 1048576)) cs) w):
 J0 Tryd.prog main F Stop (G (Frame.enter Tryd.prog 64 #[vI m,vI 1048576] .normal) (c::cs)) w:=by
 have f1:¬m<0:=by omega
 rw[b00]
 change J0 _ _ _ _ (G ((Go.Conc.base 64).at _ [.code x0n]) _) _
 walk_nrm
 refine ogW n0B x0o ?_
 simp only[oC,n0B,pC,O8,Tryd.f64,Option.getD_some,List.size_toArray,List.length_cons,List.length_nil,Nat.reduceAdd,Nat.zero_add,List.range,List.range.loop]
 refine oT ?_
 refine ogE<|ogW n0C .ret ?_
 simp only[oC,n0C,pC,O8,Tryd.f64,Option.getD_some,List.size_toArray,List.length_cons,List.length_nil,Nat.reduceAdd,Nat.zero_add,List.range,List.range.loop]
 iterate 5 refine oT ?_
 refine ogE<|ogX ?_
 refine M0 rfl (fun d=>stepG_leave (fn:=Tryd.f64) (v:=vI 1048576) rfl rfl Tryd.func64 (by simp[results,Tryd.f64,go_sem, *]) (by simp[results,Tryd.f64,go_sem, *])) ?_
 exact h
theorem p07{m:Int}{M:Nat}(hM:(M:Int)=min (max m 0) 1048576){c:Frame}(h:J0 Tryd.prog main F Stop (G (c.finish (vI M)) cs) w):
 J0 Tryd.prog main F Stop (G (Frame.enter Tryd.prog 64 #[vI m,vI 1048576] .normal) (c::cs)) w:=by
 by_cases h1:m<0
 ·exact h0d h1 (by rw[show(0:Int)=M by omega];exact h)
 ·by_cases h2:m≤1048576
  ·exact h0e (by omega) h2 (by rw[show m=M by omega];exact h)
  ·exact f0L (by omega) (by rw[show(1048576:Int)=M by omega];exact h)
end
section
variable{g:M1}{F:Fz}{w:World}
theorem k0e(args:Array Value):Frame.enter Tryd.prog 54 args .normal=(Go.Conc.base 54).at {tmps:=args++Array.replicate (129 - args.size) undef,defers:=[]} [.code E0U]:=enter_at args Tryd.func54 rfl
theorem T4:O1 54:=G2 Tryd.func54 rfl rfl
theorem d06(X:World)(v u:Value)(t:TypeId):(X.alloc (.cells #[v] t)).setCell ⟨X.heap.size,0,none⟩ u=X.alloc (.cells #[u] t):=by go_simp
theorem m0s(X:World)(o:Obj)(a:Addr)(u:Value)(h:a.block<X.heap.size):(X.alloc o).setCell a u=(X.setCell a u).alloc o:=by
 unfold World.alloc World.setCell
 congr 1
 apply Array.ext_getElem?
 intro i
 simp only[Array.getElem?_modify,Array.getElem?_push,Array.size_modify]
 by_cases h1:i=X.heap.size
 ·subst h1;simp;omega
 ·simp[h1]
def c0W(w:World)(M n:Nat):World:=((w.alloc (.cells #[vI M] 3)).alloc (.cells #[.slice none 0 0] 24)).alloc (.cells #[vI n] 3)
theorem B0I{n:Nat}(hU:i2 F n)(hn:n≤w.heap.size){ta:Option Addr}{tl tc M:Nat}{sch:Value}{m:Int}(htl:tl≤64)(hM:min (max m 0) 1048576=(M:Int)){cs:List Frame}{main:Bool}{Stop:Goroutine→World→Prop}
 (h:∀A,G0 129 A [(0,.slice ta tl tc),(1,sch),(5,vP w.heap.size 0),(6,vP (w.heap.size+1) 0),(7,.bool false),(8,.slice none 0 0),(9,vP (w.heap.size+2) 0)]→
   J0 Tryd.prog main F Stop (G (bA 54 A [.code s0J]) cs) (c0W w M tl)):
 J0 Tryd.prog main F Stop (G (Frame.enter Tryd.prog 54 #[.slice ta tl tc,sch,vI m] .normal) cs) w:=by
 have n1:¬(64:Int)<(tl:Int):=by omega
 have n2:¬64<tl:=by omega
 rw[k0e]
 walk_nrm
 refine ogW B08 C0h ?_
 simp only[oC,B08,pC,X0,Tryd.f54,Option.getD_some,List.size_toArray,List.length_cons,List.length_nil,Nat.reduceAdd,Nat.zero_add,List.range,List.range.loop]
 iterate 2 refine oA hU ?_
 iterate 2 refine oT ?_
 refine ogE<|ogW B09 C0i ?_
 simp only[oC,B09,pC,X0,Tryd.f54,Option.getD_some,List.size_toArray,List.length_cons,List.length_nil,Nat.reduceAdd,Nat.zero_add,List.range,List.range.loop]
 iterate 3 refine oT ?_
 refine oA hU ?_
 (refine oW fun dd K hK=>?_;go_simp;refine qS hK hU ?_;clear hK K)
 have e1:=d06 ((w.alloc (.cells #[vI m] 3)).alloc (.cells #[.slice none 0 0] 24)) (vI 0) (vI tl) 3
 simp only[World.size_alloc]at e1
 rw[e1]
 clear e1
 refine ogE<|ogW C0a s0J ?_
 simp only[oC,C0a,pC,X0,Tryd.f54,Option.getD_some,List.size_toArray,List.length_cons,List.length_nil,Nat.reduceAdd,Nat.zero_add,List.range,List.range.loop]
 refine oL ?_
 refine oc j0t #[vI m,vI 1048576] ?_
 (refine p07 hM.symm ?_)
 rw[Frame.finish_at]
 walk_nrm
 (refine oW fun dd K hK=>?_;go_simp;refine qS hK hU ?_;clear hK K)
 rw[m0s _ _ _ _ (by simp;omega),m0s _ _ _ _ (by simp),d06]
 refine ogE ?_
 refine h _ ?_
 exact⟨rfl,rfl,rfl,rfl,rfl,rfl,rfl,rfl,trivial⟩
end
section
section
variable{P:Program}
theorem f07(w:World)(es:Array Event):∀(fs:List Field) (places:List (Nat×Nat)),fs.mapM (fun f=>(P.info? f.type).map fun i=>(f.offset,i.size))=some places→
 (fs.mapM fun f=>Prod.mk f.offset <$> sizeOf f.type).events P w es=es
 | [],places,h=>by simp
 | f::fs,places,h=>by
   simp only[List.mapM_cons,Option.bind_eq_bind,Option.pure_def]at h
   cases hi:P.info? f.type with
   | none=>simp[hi]at h
   | some i=>
     cases hr:fs.mapM (fun f=>(P.info? f.type).map fun i=>(f.offset,i.size))with
     | none=>simp[hi,hr]at h
     | some rest=>
       have hs:(sizeOf f.type).run P w= .ok i.size w:=by simp[sizeOf,typeInfo,hi]
       have he:(sizeOf f.type).events P w es=es:=by simp[sizeOf,typeInfo,hi,go_sem]
       simp[List.mapM_cons,hs,he,run_places w fs rest hr,f07 w es fs rest hr]
theorem l6(w:World)(es:Array Event)(t:TypeId)(parts:Array (Nat×Value))(cells:Array Value)(fields:Array Field)(hu:P.underlying t=some (.struct fields))(h:P.built t parts.toList=some cells):(Instr.build t parts).events P w es=es:=by
 unfold Program.built at h
 cases hit:P.info? t with
 | none=>simp[hit]at h
 | some it=>
   cases hz:it.zero with
   | none=>simp[hit,hu,hz]at h
   | some z=>
     cases hp:fields.toList.mapM (fun f=>(P.info? f.type).map fun i=>(f.offset,i.size))with
     | none=>simp[hit,hu,hz,hp]at h
     | some places=>
       simp only[hit,hu,hz,hp]at h
       have h':Instr.fill (fun x=>places[x]?) z.cells parts.toList=some cells:=by simpa using h
       unfold Value.cells at h'
       simp[Instr.build,run_underlying hu,typeInfo,zeroValue,hit,hz,Array.mapM_eq_mapM_toList,run_places w _ _ hp,f07 w es _ _ hp,h',go_sem]
end
section
variable(w:World)(es:Array Event)(c b:Nat)(n m:Nat)
theorem i0p(c b n m:Nat):Tryd.prog.built 137 [(0,.chan (some c)),(2,vL b 0 n m)]=some #[.chan (some c),.slice none 0 0,vL b 0 n m]:=by kernel_rfl
@[go_sem] theorem t0F:(Instr.build 137 #[(0,.chan (some c)),(2,vL b 0 n m)]).run Tryd.prog w= .ok (.agg #[.chan (some c),.slice none 0 0,vL b 0 n m]) w:=run_build w _ _ _ (i0p c b n m)
@[go_sem] theorem u0K:(Instr.build 137 #[(0,.chan (some c)),(2,vL b 0 n m)]).events Tryd.prog w es=es:=l6 w es _ _ _ _ Tryd.underlying137 (i0p c b n m)
theorem i0q(t c:Nat):Tryd.prog.built 141 [(0,vP t 0),(1,.chan (some c))]=some #[vP t 0,.chan (some c),.bool false]:=by kernel_rfl
@[go_sem] theorem t0G:(Instr.build 141 #[(0,vP b 0),(1,.chan (some c))]).run Tryd.prog w= .ok (.agg #[vP b 0,.chan (some c),.bool false]) w:=run_build w _ _ _ (i0q b c)
@[go_sem] theorem u0L:(Instr.build 141 #[(0,vP b 0),(1,.chan (some c))]).events Tryd.prog w es=es:=l6 w es _ _ _ _ Tryd.underlying141 (i0q b c)
end
theorem l0E:∃i,Tryd.prog.info? 109=some i∧i.bytes=0:=by
 have h:(Tryd.prog.info? 109).map (·.bytes)=some 0:=by kernel_rfl
 obtain⟨i,hi,h1⟩:=Option.map_eq_some_iff.1 h
 exact⟨i,hi,h1⟩
theorem l0D:∃i,Tryd.prog.info? 4=some i∧i.zero=some (.bool false)∧i.size=1∧i.bytes=1:=by
 have h:(Tryd.prog.info? 4).map (fun i=>(i.size,i.bytes))=some (1,1):=by kernel_rfl
 have h0:(Tryd.prog.info? 4).bind (·.zero)=some (.bool false):=by kernel_rfl
 obtain⟨i,hi,h1⟩:=Option.map_eq_some_iff.1 h
 rw[hi]at h0
 simp only[Prod.mk.injEq]at h1
 exact⟨i,hi,h0,h1.1,h1.2⟩
section
variable(w:World)(es:Array Event)(n:Nat)
@[go_sem] theorem z0E:(Instr.makeChan 134 (vI 0)).run Tryd.prog w= .ok (.chan (some w.heap.size)) (w.alloc (.chan 0 #[] false 0 0 false)):=by
 obtain⟨i,hi,hb⟩:=l0E
 exact run_makeChan Tryd.underlying134 hi .i64 0 (by decide) (by simp)
@[go_sem] theorem x0B:(Instr.makeChan 134 (vI 0)).events Tryd.prog w es=es:=by
 obtain⟨i,hi,hb⟩:=l0E
 exact events_makeChan Tryd.underlying134 hi .i64 0 (by decide) (by simp) es
@[go_sem] theorem z0F:(Instr.makeChan 139 (vI 0)).run Tryd.prog w= .ok (.chan (some w.heap.size)) (w.alloc (.chan 0 #[] false 0 0 false)):=by
 obtain⟨i,hi,_,_,hb⟩:=l0D
 exact run_makeChan Tryd.underlying139 hi .i64 0 (by decide) (by simp)
@[go_sem] theorem x0C:(Instr.makeChan 139 (vI 0)).events Tryd.prog w es=es:=by
 obtain⟨i,hi,_,_,hb⟩:=l0D
 exact events_makeChan Tryd.underlying139 hi .i64 0 (by decide) (by simp) es
@[go_sem] theorem v0Z(h:n≤64):(Instr.makeSlice 69 (vI n) (vI n)).run Tryd.prog w= .ok (vL w.heap.size 0 n n) (w.alloc (.cells (madeCells #[.bool false] n) 4)):=by
 obtain⟨i,hi,hz,hs,hb⟩:=l0D
 have:=run_make (P:=Tryd.prog) w 69 4 i (.bool false) Tryd.underlying69 hi hz .i64 .i64 n n (by omega) (by omega) (by rw[hb];omega) (by omega)
 rw[hs]at this
 simpa [Value.cells]using this
@[go_sem] theorem v0v(h:n≤64):(Instr.makeSlice 69 (vI n) (vI n)).events Tryd.prog w es=es:=by
 obtain⟨i,hi,hz,hs,hb⟩:=l0D
 exact events_make (P:=Tryd.prog) w 69 4 i (.bool false) Tryd.underlying69 hi hz .i64 .i64 n n (by omega) (by omega) (by rw[hb];omega) (by omega) (by rw[hb];omega) es
end
structure SN(nn nb n:Nat)(u:World):Prop where
 top:nn≤u.heap.size
 lt:nb<u.heap.size
 c:u.cell? ⟨nb,0,none⟩=some (vI n)
 z:u.frozen? ⟨nb,0,none⟩=false
theorem SN.at{nn nb n:Nat}{u:World}(h:SN nn nb n u)(d:Nat):SN nn nb n (u.at d):=⟨h.top,h.lt,h.c,h.z⟩
theorem SN.alloc{nn nb n:Nat}{u:World}(h:SN nn nb n u)(o:Obj):SN nn nb n (u.alloc o):=
 ⟨by have:=h.top;simp;omega,by have:=h.lt;simp;omega,by rw[b0Z u o _ h.lt];exact h.c,by
  have:(u.alloc o).heap[nb]? =u.heap[nb]?:=D0 u o h.lt
  unfold World.frozen?
  simp only[this]
  exact h.z⟩
structure z0P(n:Nat)(w w':World)(tv tb bk br:Nat):Prop where
 size:w.heap.size≤w'.heap.size
 old:∀r,r<w.heap.size→w'.heap[r]? =w.heap[r]?
 htv:w'.heap[tv]? =some (.cells #[vP tb 0] 133)
 htb:w'.heap[tb]? =some (.cells #[.chan (some bk),.slice none 0 0,vL br 0 n n] 137)
 hbk:w'.heap[bk]? =some (.chan 0 #[] false 0 0 false)
 hbr:w'.heap[br]? =some (.cells (madeCells #[.bool false] n) 4)
 low:w.heap.size≤tv∧w.heap.size≤tb∧w.heap.size≤bk∧w.heap.size≤br
theorem R3(w:World)(a b c e:Obj):w.heap.size≤((((w.alloc a).alloc b).alloc c).alloc e).heap.size:=by simp;omega
theorem U7(w:World)(a b c e:Obj):∀r,r<w.heap.size→((((w.alloc a).alloc b).alloc c).alloc e).heap[r]? =w.heap[r]?:=fun r hr=>by
 rw[D0 _ _ (by simp;omega),D0 _ _ (by simp;omega),D0 _ _ (by simp;omega),D0 _ _ hr]
theorem d0s(w:World)(a b c e:Obj):((((w.alloc a).alloc b).alloc c).alloc e).heap[w.heap.size+1+1+1]? =some e:=by
 have:=heap_alloc_new (((w.alloc a).alloc b).alloc c) e
 simpa using this
theorem d0r(w:World)(a b c e:Obj):((((w.alloc a).alloc b).alloc c).alloc e).heap[w.heap.size+1+1]? =some c:=by
 rw[D0 _ _ (by simp)]
 have:=heap_alloc_new ((w.alloc a).alloc b) c
 simpa using this
theorem d0q(w:World)(a b c e:Obj):((((w.alloc a).alloc b).alloc c).alloc e).heap[w.heap.size+1]? =some b:=by
 rw[D0 _ _ (by simp),D0 _ _ (by simp)]
 have:=heap_alloc_new (w.alloc a) b
 simpa using this
theorem d0p(w:World)(a b c e:Obj):((((w.alloc a).alloc b).alloc c).alloc e).heap[w.heap.size]? =some a:=by
 rw[D0 _ _ (by simp;omega),D0 _ _ (by simp;omega),D0 _ _ (by simp)]
 exact heap_alloc_new w a
theorem n9{w w4:World}{n tv tb bk br:Nat}(hs:w.heap.size≤w4.heap.size)(ho:∀r,r<w.heap.size→w4.heap[r]? =w.heap[r]?)(h1:w4.heap[tv]? =some (.cells #[.pointer none] 133))
 (h2:w4.heap[tb]? =some (.cells #[.chan (some bk),.slice none 0 0,vL br 0 n n] 137)) (h3:w4.heap[bk]? =some (.chan 0 #[] false 0 0 false)) (h4:w4.heap[br]? =some (.cells (madeCells #[.bool false] n) 4))
 (d1:tb≠tv) (d2:bk≠tv) (d3:br≠tv) (l1:w.heap.size≤tv) (l2:w.heap.size≤tb) (l3:w.heap.size≤bk) (l4:w.heap.size≤br):z0P n w (w4.setCell ⟨tv,0,none⟩ (vP tb 0)) tv tb bk br:=
 ⟨by simpa using hs,fun r hr=>(o0 _ _ _ (by simp only;omega)).trans (ho r hr),by simp[World.setCell,Array.getElem?_modify,h1],(o0 _ _ _ d1).trans h2,(o0 _ _ _ d2).trans h3,(o0 _ _ _ d3).trans h4,l1,l2,l3,l4⟩
end
section
variable{F:Fz}{w:World}
theorem B0J{nn n nb mo od:Nat}{thr sch:Value}(hU:i2 F nn)(hn64:n≤64)(hs:SN nn nb n w){A:Array Value}(hA:G0 129 A [(0,thr),(1,sch),(5,vP mo 0),(6,vP od 0),(7,.bool false),(8,.slice none 0 0),(9,vP nb 0)]){cs:List Frame}{main:Bool}{Stop:Goroutine→World→Prop}{k:List Item}
 (h:∀(w':World) (tv tb bk br:Nat) (A:Array Value),z0P n w w' tv tb bk br→G0 129 A [(0,thr),(1,sch),(5,vP mo 0),(6,vP od 0),(7,.bool false),(8,.slice none 0 0),(9,vP nb 0),(10,vP tv 0)]→
   J0 Tryd.prog main F Stop (G (bA 54 A k) cs) w'):
 J0 Tryd.prog main F Stop (G (bA 54 A (.code i0W::k)) cs) w:=by
 obtain⟨s,rfl,h0,h1,h5,h6,h7,h8,h9,_⟩:=Y3 X7 hA
 simp only[X7,h0,h1,h5,h6,h7,h8,h9]
 clear h0 h1 h5 h6 h7 h8 h9
 have hS:∀u d,SN nn nb n u→SN nn nb n (World.at u d):=fun u d h=>h.at d
 have htop:=hs.top
 rw[C0b]
 refine O7 (SN nn nb n) (last:=6) S3 (z8 (by kernel_rfl)) (by decide) ?_
 simp only[oC,i0W,pC,X0,Tryd.f54,Option.getD_some,List.size_toArray,List.length_cons,List.length_nil,Nat.reduceAdd,Nat.zero_add,List.range,List.range.loop]
 have hZ:∀a u d,J0 Tryd.prog main F Stop (G ((Go.Conc.base 54).at a (.inRegion (oC i0W) [6]::k)) cs) u→J0 Tryd.prog main F Stop (G ((Go.Conc.base 54).at a (.inRegion (oC i0W) [6]::k)) cs) (World.at u d):=fun a u d h=>h.at d
 simp only[oC,i0W,pC,X0,Tryd.f54,Option.getD_some,List.size_toArray,List.length_cons,List.length_nil,Nat.reduceAdd,Nat.zero_add,List.range,List.range.loop]at hZ
 refine a0t 1 (vI n) (fun u hu=>(And.intro hu.c hu.z)) hS hs ?_ hZ
 walk_nrm
 refine i3 (r:=[0,2,5]) (by kernel_rfl) (by kernel_rfl) (fun i hi hil=>?_)
 simp only[List.mem_cons,List.not_mem_nil,or_false]at hi
 rcases hi with rfl|rfl|rfl
 ·refine V4 rfl rfl (fun d K' hK'=>?_)
  go_simp
  refine hK' _ _ ⟨⟨⟨0,Y0 hU (hs.at d).top _⟩,fun e he=>by(have hm:=mem_listed he;simp[go_sem,hn64]at hm)⟩,(hs.at d).alloc _,?_⟩
  clear hK' K'
  rw[alloc_at']
  refine Y2 hS hZ _ _ _ _ ?_ d
  replace hs:=hs.alloc (.chan 0 #[] false 0 0 false)
  refine i3 (r:=[2,5]) (by kernel_rfl) (by kernel_rfl) (fun i hi hil=>?_)
  simp only[List.mem_cons,List.not_mem_nil,or_false]at hi
  rcases hi with rfl|rfl
  ·refine V4 rfl rfl (fun d K' hK'=>?_)
   go_simp
   refine hK' _ _ ⟨⟨⟨0,Y0 hU (hs.at d).top _⟩,fun e he=>by(have hm:=mem_listed he;simp[go_sem,hn64]at hm)⟩,(hs.at d).alloc _,?_⟩
   clear hK' K'
   rw[alloc_at']
   refine Y2 hS hZ _ _ _ _ ?_ d
   replace hs:=hs.alloc (.cells (madeCells #[.bool false] n) 4)
   refine tkM 3 (.agg #[.chan (some (w.heap.size)),.slice none 0 0,vL (w.heap.size+1) 0 n n]) hS hs ?_ hZ
   walk_nrm
   refine i3 (r:=[4,5]) (by kernel_rfl) (by kernel_rfl) (fun i hi hil=>?_)
   simp only[List.mem_cons,List.not_mem_nil,or_false]at hi
   rcases hi with rfl|rfl
   ·refine V4 rfl rfl (fun d K' hK'=>?_)
    go_simp
    refine hK' _ _ ⟨⟨⟨0,Y0 hU (hs.at d).top _⟩,fun e he=>by(have hm:=mem_listed he;simp[go_sem,hn64]at hm)⟩,(hs.at d).alloc _,?_⟩
    clear hK' K'
    rw[alloc_at']
    refine Y2 hS hZ _ _ _ _ ?_ d
    replace hs:=hs.alloc (.cells #[.chan (some (w.heap.size)),.slice none 0 0,vL (w.heap.size+1) 0 n n] 137)
    refine i3 (r:=[5]) (by kernel_rfl) (by kernel_rfl) (fun i hi hil=>?_)
    simp only[List.mem_cons,List.not_mem_nil,or_false]at hi
    subst hi
    refine V4 rfl rfl (fun d K' hK'=>?_)
    go_simp
    refine hK' _ _ ⟨⟨⟨0,Y0 hU (hs.at d).top _⟩,fun e he=>by(have hm:=mem_listed he;simp[go_sem,hn64]at hm)⟩,(hs.at d).alloc _,?_⟩
    clear hK' K'
    rw[alloc_at']
    refine Y2 hS hZ _ _ _ _ ?_ d
    replace hs:=hs.alloc (.cells #[.pointer none] 133)
    refine P5 (by kernel_rfl) ?_ _
    (refine oW fun dd K hK=>?_;go_simp;refine qS hK hU ?_;clear hK K)
    refine ogE ?_
    refine h _ (w.heap.size+1+1+1) (w.heap.size+1+1) (w.heap.size) (w.heap.size+1) _ (n9 (R3 w _ _ _ _) (U7 w _ _ _ _) (d0s w _ _ _ _) (d0r w _ _ _ _) (d0p w _ _ _ _) (d0q w _ _ _ _) (by omega) (by omega) (by omega) (by omega) (by omega) (by omega) (by omega)) ⟨rfl,rfl,rfl,rfl,rfl,rfl,rfl,rfl,rfl,trivial⟩
   ·refine V4 rfl rfl (fun d K' hK'=>?_)
    go_simp
    refine hK' _ _ ⟨⟨⟨0,Y0 hU (hs.at d).top _⟩,fun e he=>by(have hm:=mem_listed he;simp[go_sem,hn64]at hm)⟩,(hs.at d).alloc _,?_⟩
    clear hK' K'
    rw[alloc_at']
    refine Y2 hS hZ _ _ _ _ ?_ d
    replace hs:=hs.alloc (.cells #[.pointer none] 133)
    refine i3 (r:=[4]) (by kernel_rfl) (by kernel_rfl) (fun i hi hil=>?_)
    simp only[List.mem_cons,List.not_mem_nil,or_false]at hi
    subst hi
    refine V4 rfl rfl (fun d K' hK'=>?_)
    go_simp
    refine hK' _ _ ⟨⟨⟨0,Y0 hU (hs.at d).top _⟩,fun e he=>by(have hm:=mem_listed he;simp[go_sem,hn64]at hm)⟩,(hs.at d).alloc _,?_⟩
    clear hK' K'
    rw[alloc_at']
    refine Y2 hS hZ _ _ _ _ ?_ d
    replace hs:=hs.alloc (.cells #[.chan (some (w.heap.size)),.slice none 0 0,vL (w.heap.size+1) 0 n n] 137)
    refine P5 (by kernel_rfl) ?_ _
    (refine oW fun dd K hK=>?_;go_simp;refine qS hK hU ?_;clear hK K)
    refine ogE ?_
    refine h _ (w.heap.size+1+1) (w.heap.size+1+1+1) (w.heap.size) (w.heap.size+1) _ (n9 (R3 w _ _ _ _) (U7 w _ _ _ _) (d0r w _ _ _ _) (d0s w _ _ _ _) (d0p w _ _ _ _) (d0q w _ _ _ _) (by omega) (by omega) (by omega) (by omega) (by omega) (by omega) (by omega)) ⟨rfl,rfl,rfl,rfl,rfl,rfl,rfl,rfl,rfl,trivial⟩
  ·refine V4 rfl rfl (fun d K' hK'=>?_)
   go_simp
   refine hK' _ _ ⟨⟨⟨0,Y0 hU (hs.at d).top _⟩,fun e he=>by(have hm:=mem_listed he;simp[go_sem,hn64]at hm)⟩,(hs.at d).alloc _,?_⟩
   clear hK' K'
   rw[alloc_at']
   refine Y2 hS hZ _ _ _ _ ?_ d
   replace hs:=hs.alloc (.cells #[.pointer none] 133)
   refine i3 (r:=[2]) (by kernel_rfl) (by kernel_rfl) (fun i hi hil=>?_)
   simp only[List.mem_cons,List.not_mem_nil,or_false]at hi
   subst hi
   refine V4 rfl rfl (fun d K' hK'=>?_)
   go_simp
   refine hK' _ _ ⟨⟨⟨0,Y0 hU (hs.at d).top _⟩,fun e he=>by(have hm:=mem_listed he;simp[go_sem,hn64]at hm)⟩,(hs.at d).alloc _,?_⟩
   clear hK' K'
   rw[alloc_at']
   refine Y2 hS hZ _ _ _ _ ?_ d
   replace hs:=hs.alloc (.cells (madeCells #[.bool false] n) 4)
   refine tkM 3 (.agg #[.chan (some (w.heap.size)),.slice none 0 0,vL (w.heap.size+1+1) 0 n n]) hS hs ?_ hZ
   walk_nrm
   refine i3 (r:=[4]) (by kernel_rfl) (by kernel_rfl) (fun i hi hil=>?_)
   simp only[List.mem_cons,List.not_mem_nil,or_false]at hi
   subst hi
   refine V4 rfl rfl (fun d K' hK'=>?_)
   go_simp
   refine hK' _ _ ⟨⟨⟨0,Y0 hU (hs.at d).top _⟩,fun e he=>by(have hm:=mem_listed he;simp[go_sem,hn64]at hm)⟩,(hs.at d).alloc _,?_⟩
   clear hK' K'
   rw[alloc_at']
   refine Y2 hS hZ _ _ _ _ ?_ d
   replace hs:=hs.alloc (.cells #[.chan (some (w.heap.size)),.slice none 0 0,vL (w.heap.size+1+1) 0 n n] 137)
   refine P5 (by kernel_rfl) ?_ _
   (refine oW fun dd K hK=>?_;go_simp;refine qS hK hU ?_;clear hK K)
   refine ogE ?_
   refine h _ (w.heap.size+1) (w.heap.size+1+1+1) (w.heap.size) (w.heap.size+1+1) _ (n9 (R3 w _ _ _ _) (U7 w _ _ _ _) (d0q w _ _ _ _) (d0s w _ _ _ _) (d0p w _ _ _ _) (d0r w _ _ _ _) (by omega) (by omega) (by omega) (by omega) (by omega) (by omega) (by omega)) ⟨rfl,rfl,rfl,rfl,rfl,rfl,rfl,rfl,rfl,trivial⟩
 ·refine V4 rfl rfl (fun d K' hK'=>?_)
  go_simp
  refine hK' _ _ ⟨⟨⟨0,Y0 hU (hs.at d).top _⟩,fun e he=>by(have hm:=mem_listed he;simp[go_sem,hn64]at hm)⟩,(hs.at d).alloc _,?_⟩
  clear hK' K'
  rw[alloc_at']
  refine Y2 hS hZ _ _ _ _ ?_ d
  replace hs:=hs.alloc (.cells (madeCells #[.bool false] n) 4)
  refine i3 (r:=[0,5]) (by kernel_rfl) (by kernel_rfl) (fun i hi hil=>?_)
  simp only[List.mem_cons,List.not_mem_nil,or_false]at hi
  rcases hi with rfl|rfl
  ·refine V4 rfl rfl (fun d K' hK'=>?_)
   go_simp
   refine hK' _ _ ⟨⟨⟨0,Y0 hU (hs.at d).top _⟩,fun e he=>by(have hm:=mem_listed he;simp[go_sem,hn64]at hm)⟩,(hs.at d).alloc _,?_⟩
   clear hK' K'
   rw[alloc_at']
   refine Y2 hS hZ _ _ _ _ ?_ d
   replace hs:=hs.alloc (.chan 0 #[] false 0 0 false)
   refine tkM 3 (.agg #[.chan (some (w.heap.size+1)),.slice none 0 0,vL w.heap.size 0 n n]) hS hs ?_ hZ
   walk_nrm
   refine i3 (r:=[4,5]) (by kernel_rfl) (by kernel_rfl) (fun i hi hil=>?_)
   simp only[List.mem_cons,List.not_mem_nil,or_false]at hi
   rcases hi with rfl|rfl
   ·refine V4 rfl rfl (fun d K' hK'=>?_)
    go_simp
    refine hK' _ _ ⟨⟨⟨0,Y0 hU (hs.at d).top _⟩,fun e he=>by(have hm:=mem_listed he;simp[go_sem,hn64]at hm)⟩,(hs.at d).alloc _,?_⟩
    clear hK' K'
    rw[alloc_at']
    refine Y2 hS hZ _ _ _ _ ?_ d
    replace hs:=hs.alloc (.cells #[.chan (some (w.heap.size+1)),.slice none 0 0,vL w.heap.size 0 n n] 137)
    refine i3 (r:=[5]) (by kernel_rfl) (by kernel_rfl) (fun i hi hil=>?_)
    simp only[List.mem_cons,List.not_mem_nil,or_false]at hi
    subst hi
    refine V4 rfl rfl (fun d K' hK'=>?_)
    go_simp
    refine hK' _ _ ⟨⟨⟨0,Y0 hU (hs.at d).top _⟩,fun e he=>by(have hm:=mem_listed he;simp[go_sem,hn64]at hm)⟩,(hs.at d).alloc _,?_⟩
    clear hK' K'
    rw[alloc_at']
    refine Y2 hS hZ _ _ _ _ ?_ d
    replace hs:=hs.alloc (.cells #[.pointer none] 133)
    refine P5 (by kernel_rfl) ?_ _
    (refine oW fun dd K hK=>?_;go_simp;refine qS hK hU ?_;clear hK K)
    refine ogE ?_
    refine h _ (w.heap.size+1+1+1) (w.heap.size+1+1) (w.heap.size+1) (w.heap.size) _ (n9 (R3 w _ _ _ _) (U7 w _ _ _ _) (d0s w _ _ _ _) (d0r w _ _ _ _) (d0q w _ _ _ _) (d0p w _ _ _ _) (by omega) (by omega) (by omega) (by omega) (by omega) (by omega) (by omega)) ⟨rfl,rfl,rfl,rfl,rfl,rfl,rfl,rfl,rfl,trivial⟩
   ·refine V4 rfl rfl (fun d K' hK'=>?_)
    go_simp
    refine hK' _ _ ⟨⟨⟨0,Y0 hU (hs.at d).top _⟩,fun e he=>by(have hm:=mem_listed he;simp[go_sem,hn64]at hm)⟩,(hs.at d).alloc _,?_⟩
    clear hK' K'
    rw[alloc_at']
    refine Y2 hS hZ _ _ _ _ ?_ d
    replace hs:=hs.alloc (.cells #[.pointer none] 133)
    refine i3 (r:=[4]) (by kernel_rfl) (by kernel_rfl) (fun i hi hil=>?_)
    simp only[List.mem_cons,List.not_mem_nil,or_false]at hi
    subst hi
    refine V4 rfl rfl (fun d K' hK'=>?_)
    go_simp
    refine hK' _ _ ⟨⟨⟨0,Y0 hU (hs.at d).top _⟩,fun e he=>by(have hm:=mem_listed he;simp[go_sem,hn64]at hm)⟩,(hs.at d).alloc _,?_⟩
    clear hK' K'
    rw[alloc_at']
    refine Y2 hS hZ _ _ _ _ ?_ d
    replace hs:=hs.alloc (.cells #[.chan (some (w.heap.size+1)),.slice none 0 0,vL w.heap.size 0 n n] 137)
    refine P5 (by kernel_rfl) ?_ _
    (refine oW fun dd K hK=>?_;go_simp;refine qS hK hU ?_;clear hK K)
    refine ogE ?_
    refine h _ (w.heap.size+1+1) (w.heap.size+1+1+1) (w.heap.size+1) (w.heap.size) _ (n9 (R3 w _ _ _ _) (U7 w _ _ _ _) (d0r w _ _ _ _) (d0s w _ _ _ _) (d0q w _ _ _ _) (d0p w _ _ _ _) (by omega) (by omega) (by omega) (by omega) (by omega) (by omega) (by omega)) ⟨rfl,rfl,rfl,rfl,rfl,rfl,rfl,rfl,rfl,trivial⟩
  ·refine V4 rfl rfl (fun d K' hK'=>?_)
   go_simp
   refine hK' _ _ ⟨⟨⟨0,Y0 hU (hs.at d).top _⟩,fun e he=>by(have hm:=mem_listed he;simp[go_sem,hn64]at hm)⟩,(hs.at d).alloc _,?_⟩
   clear hK' K'
   rw[alloc_at']
   refine Y2 hS hZ _ _ _ _ ?_ d
   replace hs:=hs.alloc (.cells #[.pointer none] 133)
   refine i3 (r:=[0]) (by kernel_rfl) (by kernel_rfl) (fun i hi hil=>?_)
   simp only[List.mem_cons,List.not_mem_nil,or_false]at hi
   subst hi
   refine V4 rfl rfl (fun d K' hK'=>?_)
   go_simp
   refine hK' _ _ ⟨⟨⟨0,Y0 hU (hs.at d).top _⟩,fun e he=>by(have hm:=mem_listed he;simp[go_sem,hn64]at hm)⟩,(hs.at d).alloc _,?_⟩
   clear hK' K'
   rw[alloc_at']
   refine Y2 hS hZ _ _ _ _ ?_ d
   replace hs:=hs.alloc (.chan 0 #[] false 0 0 false)
   refine tkM 3 (.agg #[.chan (some (w.heap.size+1+1)),.slice none 0 0,vL w.heap.size 0 n n]) hS hs ?_ hZ
   walk_nrm
   refine i3 (r:=[4]) (by kernel_rfl) (by kernel_rfl) (fun i hi hil=>?_)
   simp only[List.mem_cons,List.not_mem_nil,or_false]at hi
   subst hi
   refine V4 rfl rfl (fun d K' hK'=>?_)
   go_simp
   refine hK' _ _ ⟨⟨⟨0,Y0 hU (hs.at d).top _⟩,fun e he=>by(have hm:=mem_listed he;simp[go_sem,hn64]at hm)⟩,(hs.at d).alloc _,?_⟩
   clear hK' K'
   rw[alloc_at']
   refine Y2 hS hZ _ _ _ _ ?_ d
   replace hs:=hs.alloc (.cells #[.chan (some (w.heap.size+1+1)),.slice none 0 0,vL w.heap.size 0 n n] 137)
   refine P5 (by kernel_rfl) ?_ _
   (refine oW fun dd K hK=>?_;go_simp;refine qS hK hU ?_;clear hK K)
   refine ogE ?_
   refine h _ (w.heap.size+1) (w.heap.size+1+1+1) (w.heap.size+1+1) (w.heap.size) _ (n9 (R3 w _ _ _ _) (U7 w _ _ _ _) (d0q w _ _ _ _) (d0s w _ _ _ _) (d0r w _ _ _ _) (d0p w _ _ _ _) (by omega) (by omega) (by omega) (by omega) (by omega) (by omega) (by omega)) ⟨rfl,rfl,rfl,rfl,rfl,rfl,rfl,rfl,rfl,trivial⟩
 ·refine V4 rfl rfl (fun d K' hK'=>?_)
  go_simp
  refine hK' _ _ ⟨⟨⟨0,Y0 hU (hs.at d).top _⟩,fun e he=>by(have hm:=mem_listed he;simp[go_sem,hn64]at hm)⟩,(hs.at d).alloc _,?_⟩
  clear hK' K'
  rw[alloc_at']
  refine Y2 hS hZ _ _ _ _ ?_ d
  replace hs:=hs.alloc (.cells #[.pointer none] 133)
  refine i3 (r:=[0,2]) (by kernel_rfl) (by kernel_rfl) (fun i hi hil=>?_)
  simp only[List.mem_cons,List.not_mem_nil,or_false]at hi
  rcases hi with rfl|rfl
  ·refine V4 rfl rfl (fun d K' hK'=>?_)
   go_simp
   refine hK' _ _ ⟨⟨⟨0,Y0 hU (hs.at d).top _⟩,fun e he=>by(have hm:=mem_listed he;simp[go_sem,hn64]at hm)⟩,(hs.at d).alloc _,?_⟩
   clear hK' K'
   rw[alloc_at']
   refine Y2 hS hZ _ _ _ _ ?_ d
   replace hs:=hs.alloc (.chan 0 #[] false 0 0 false)
   refine i3 (r:=[2]) (by kernel_rfl) (by kernel_rfl) (fun i hi hil=>?_)
   simp only[List.mem_cons,List.not_mem_nil,or_false]at hi
   subst hi
   refine V4 rfl rfl (fun d K' hK'=>?_)
   go_simp
   refine hK' _ _ ⟨⟨⟨0,Y0 hU (hs.at d).top _⟩,fun e he=>by(have hm:=mem_listed he;simp[go_sem,hn64]at hm)⟩,(hs.at d).alloc _,?_⟩
   clear hK' K'
   rw[alloc_at']
   refine Y2 hS hZ _ _ _ _ ?_ d
   replace hs:=hs.alloc (.cells (madeCells #[.bool false] n) 4)
   refine tkM 3 (.agg #[.chan (some (w.heap.size+1)),.slice none 0 0,vL (w.heap.size+1+1) 0 n n]) hS hs ?_ hZ
   walk_nrm
   refine i3 (r:=[4]) (by kernel_rfl) (by kernel_rfl) (fun i hi hil=>?_)
   simp only[List.mem_cons,List.not_mem_nil,or_false]at hi
   subst hi
   refine V4 rfl rfl (fun d K' hK'=>?_)
   go_simp
   refine hK' _ _ ⟨⟨⟨0,Y0 hU (hs.at d).top _⟩,fun e he=>by(have hm:=mem_listed he;simp[go_sem,hn64]at hm)⟩,(hs.at d).alloc _,?_⟩
   clear hK' K'
   rw[alloc_at']
   refine Y2 hS hZ _ _ _ _ ?_ d
   replace hs:=hs.alloc (.cells #[.chan (some (w.heap.size+1)),.slice none 0 0,vL (w.heap.size+1+1) 0 n n] 137)
   refine P5 (by kernel_rfl) ?_ _
   (refine oW fun dd K hK=>?_;go_simp;refine qS hK hU ?_;clear hK K)
   refine ogE ?_
   refine h _ (w.heap.size) (w.heap.size+1+1+1) (w.heap.size+1) (w.heap.size+1+1) _ (n9 (R3 w _ _ _ _) (U7 w _ _ _ _) (d0p w _ _ _ _) (d0s w _ _ _ _) (d0q w _ _ _ _) (d0r w _ _ _ _) (by omega) (by omega) (by omega) (by omega) (by omega) (by omega) (by omega)) ⟨rfl,rfl,rfl,rfl,rfl,rfl,rfl,rfl,rfl,trivial⟩
  ·refine V4 rfl rfl (fun d K' hK'=>?_)
   go_simp
   refine hK' _ _ ⟨⟨⟨0,Y0 hU (hs.at d).top _⟩,fun e he=>by(have hm:=mem_listed he;simp[go_sem,hn64]at hm)⟩,(hs.at d).alloc _,?_⟩
   clear hK' K'
   rw[alloc_at']
   refine Y2 hS hZ _ _ _ _ ?_ d
   replace hs:=hs.alloc (.cells (madeCells #[.bool false] n) 4)
   refine i3 (r:=[0]) (by kernel_rfl) (by kernel_rfl) (fun i hi hil=>?_)
   simp only[List.mem_cons,List.not_mem_nil,or_false]at hi
   subst hi
   refine V4 rfl rfl (fun d K' hK'=>?_)
   go_simp
   refine hK' _ _ ⟨⟨⟨0,Y0 hU (hs.at d).top _⟩,fun e he=>by(have hm:=mem_listed he;simp[go_sem,hn64]at hm)⟩,(hs.at d).alloc _,?_⟩
   clear hK' K'
   rw[alloc_at']
   refine Y2 hS hZ _ _ _ _ ?_ d
   replace hs:=hs.alloc (.chan 0 #[] false 0 0 false)
   refine tkM 3 (.agg #[.chan (some (w.heap.size+1+1)),.slice none 0 0,vL (w.heap.size+1) 0 n n]) hS hs ?_ hZ
   walk_nrm
   refine i3 (r:=[4]) (by kernel_rfl) (by kernel_rfl) (fun i hi hil=>?_)
   simp only[List.mem_cons,List.not_mem_nil,or_false]at hi
   subst hi
   refine V4 rfl rfl (fun d K' hK'=>?_)
   go_simp
   refine hK' _ _ ⟨⟨⟨0,Y0 hU (hs.at d).top _⟩,fun e he=>by(have hm:=mem_listed he;simp[go_sem,hn64]at hm)⟩,(hs.at d).alloc _,?_⟩
   clear hK' K'
   rw[alloc_at']
   refine Y2 hS hZ _ _ _ _ ?_ d
   replace hs:=hs.alloc (.cells #[.chan (some (w.heap.size+1+1)),.slice none 0 0,vL (w.heap.size+1) 0 n n] 137)
   refine P5 (by kernel_rfl) ?_ _
   (refine oW fun dd K hK=>?_;go_simp;refine qS hK hU ?_;clear hK K)
   refine ogE ?_
   refine h _ (w.heap.size) (w.heap.size+1+1+1) (w.heap.size+1+1) (w.heap.size+1) _ (n9 (R3 w _ _ _ _) (U7 w _ _ _ _) (d0p w _ _ _ _) (d0s w _ _ _ _) (d0r w _ _ _ _) (d0q w _ _ _ _) (by omega) (by omega) (by omega) (by omega) (by omega) (by omega) (by omega)) ⟨rfl,rfl,rfl,rfl,rfl,rfl,rfl,rfl,rfl,trivial⟩
end
section
variable{P:Program}{F:Fz}{w w':World}
theorem Wf.of_grew{j:Nat}(h:Wf F w)(hg:V3 F w w' j):Wf F w':=by
 constructor
 intro r z hz
 obtain⟨c,e,z0,h1,h2⟩:=h.own r z hz
 rcases hg.objs r _ h1 with⟨c1,e1,z1,c',h3,h4,_⟩|h3
 ·cases h3;exact⟨c',e,z0,h4,h2⟩
 ·exact⟨c,e,z0,h3,h2⟩
theorem e0Z{S':FuncId→Bool}{px:Bool}(hC:Z5 P S' px)(hF:px=true→∀r,F r=none){fn:FuncId}{ops:Array Oper}{i:Nat}{o:Oper}{K:Act→World→Prop}{a:Act}(ho:ops[i]? =some o)(hok:h0a P S' px o.op=true)
 (hw:Region.wanted o (yielded ops a.tmps)=true) (hwf:Wf F w)
 (h:∀d,∃v u,(execOp a.eval o).run P (L1 F (w.at d))= .ok (.value v) u∧∀w',u=L1 F w'→(∃j,V3 F (w.at d) w' j)→Wf F w'→K (a.put o.dst v) w'):OpM P F fn ops i K a w:=by
 refine⟨o,ho,.inl ⟨hw,fun d=>?_⟩⟩
 obtain⟨v,u,hr,hk⟩:=h d
 have hs:=a0J hC hF a.eval (fun v=>rfl) (fun f=>rfl) o hok (w.at d) ⟨hwf.own⟩
 unfold J6 at hs
 rw[hr]at hs
 obtain⟨w',es,j,hu,hrun,hev,het,hg,hwf',_⟩:=hs
 rw[hrun]
 refine⟨⟨⟨j,hg⟩,fun e he=>?_⟩,hk w' hu ⟨j,hg⟩ hwf'⟩
 have hm:=mem_listed he
 rw[hev]at hm
 exact het e (by simpa using hm)
theorem V6{o:Oper}{a:Act}{v xv v':Value}{u:World}(s x:Operand)(t:TypeId)
 (ho:o.op= .call {callee:=.builtin .append,args:= #[s,x],argTypes:= #[t,t]}) (hs:a.eval s=v) (hx:a.eval x=xv)
 (hr:(Builtin.append_ #[t,t] o.type #[v,xv]).run P w= .ok v' u):(execOp a.eval o).run P w= .ok (.value v') u:=by
 unfold execOp
 simp only[ho,resolve,invoke,builtin,Sem.run_bind,Sem.run_pure,Result.andThen_ok,List.map_toArray,List.map_cons,List.map_nil,hs,hx,hr]
theorem q09:∃i,Tryd.prog.info? 138=some i∧i.zero=some (.pointer none)∧i.size=1∧i.bytes=8:=by
 have h:(Tryd.prog.info? 138).map (fun i=>(i.size,i.bytes))=some (1,8):=by kernel_rfl
 have h0:(Tryd.prog.info? 138).bind (·.zero)=some (.pointer none):=by kernel_rfl
 obtain⟨i,hi,h1⟩:=Option.map_eq_some_iff.1 h
 rw[hi]at h0
 simp only[Prod.mk.injEq]at h1
 exact⟨i,hi,h0,h1.1,h1.2⟩
theorem d0M{base n size:Nat}{e:TypeId}{v:Value}{xs:List Value}(h:w.ownsRow base e size v (n+1) xs):∃b cap cur,v=vL b 0 (n+1) cap∧base≤b∧w.heap[b]? =some (.cells cur e (0,0)):=by
 rcases h.2 with⟨_,h⟩|⟨b,cap,cur,h1,h2,h3,_⟩
 ·omega
 ·exact⟨b,cap,cur,h1,h2,h3⟩
theorem i01{base n size b cap k l:Nat}{e:TypeId}{v:Value}{xs:List Value}{buf:Array Value}{cl tm:Bool}(h:w.ownsRow base e size v n xs)(hc:w.heap[b]? =some (.chan cap buf cl k l tm)):some b≠Value.ownBlock v:=by
 rcases h.2 with⟨rfl,_⟩|⟨g,cap,cur,rfl,_,h3,_⟩
 ·simp[Value.ownBlock]
 ·intro h4
  simp only[Value.ownBlock,Option.some.injEq]at h4
  subst h4
  rw[hc]at h3
  cases h3
structure ST(F:Fz)(nn n tv tb bk br:Nat)(slv:Value)(u:World):Prop where
 top:nn≤u.heap.size
 wf:Wf F u
 tvc:u.heap[tv]? =some (.cells #[vP tb 0] 133)
 tbc:u.heap[tb]? =some (.cells #[.chan (some bk),slv,vL br 0 n n] 137)
section
variable{nn n tv tb bk br:Nat}{slv:Value}{u:World}
theorem ST.at(h:ST F nn n tv tb bk br slv u)(d:Nat):ST F nn n tv tb bk br slv (u.at d):=⟨h.top,⟨h.wf.own⟩,h.tvc,h.tbc⟩
theorem ST.alloc(hU:i2 F nn)(h:ST F nn n tv tb bk br slv u)(o:Obj):ST F nn n tv tb bk br slv (u.alloc o):=
 ⟨by have:=h.top;simp;omega,h.wf.of_grew (Y0 hU h.top o),(D0 _ _ (Array.getElem?_eq_some_iff.1 h.tvc).1).trans h.tvc,(D0 _ _ (Array.getElem?_eq_some_iff.1 h.tbc).1).trans h.tbc⟩
theorem ST.c1(h:ST F nn n tv tb bk br slv u):u.cell? ⟨tv,0,none⟩=some (vP tb 0):=by simp[World.cell?,h.tvc]
theorem ST.z1(h:ST F nn n tv tb bk br slv u):u.frozen? ⟨tv,0,none⟩=false:=by simp[World.frozen?,h.tvc]
theorem ST.c2(h:ST F nn n tv tb bk br slv u):u.cell? ⟨tb,1,none⟩=some slv:=by simp[World.cell?,h.tbc]
theorem ST.z2(h:ST F nn n tv tb bk br slv u):u.frozen? ⟨tb,1,none⟩=false:=by simp[World.frozen?,h.tbc]
end
structure u0m(F:Fz)(nn n tv tb bk br i:Nat)(slv:Value)(xs:List Value)(w w':World)(v':Value)(p q:Nat):Prop where
 st:ST F nn n tv tb bk br v' w'
 row:w'.ownsRow nn 138 1 v' (i+1) (xs++[vP q 0])
 pc:w'.heap[p]? =some (.chan 0 #[] false 0 0 false)
 qc:w'.heap[q]? =some (.cells #[vP tb 0,.chan (some p),.bool false] 141)
 pl:p=w.heap.size
 ql:q=w.heap.size+1
 size:w.heap.size+2≤w'.heap.size
 old:∀r,nn≤r→r<w.heap.size→r≠tb→some r≠Value.ownBlock slv→w'.heap[r]? =w.heap[r]?
theorem B0K{nn n tv tb bk br i mo od nb:Nat}{slv thr sch:Value}{xs:List Value}(hU:i2 F nn)(hs:ST F nn n tv tb bk br slv w)(hrow:w.ownsRow nn 138 1 slv i xs)(hi64:i<64)(hlow:nn≤tv∧nn≤tb){A:Array Value}(hA:G0 129 A [(0,thr),(1,sch),(5,vP mo 0),(6,vP od 0),(7,.bool false),(8,.slice none 0 0),(9,vP nb 0),(10,vP tv 0),(29,vI n),(30,vI i)]){cs:List Frame}{main:Bool}{Stop:Goroutine→World→Prop}{k:List Item}
 (h:∀(w':World) (v':Value) (p q:Nat) (A:Array Value),u0m F nn n tv tb bk br i slv xs w w' v' p q→G0 129 A [(0,thr),(1,sch),(5,vP mo 0),(6,vP od 0),(7,.bool false),(8,.slice none 0 0),(9,vP nb 0),(10,vP tv 0),(29,vI n),(30,vI i)]→J0 Tryd.prog main F Stop (G (bA 54 A k) cs) w'):
 J0 Tryd.prog main F Stop (G (bA 54 A (.code h0c::k)) cs) w:=by
 obtain⟨s,rfl,h0,h1,h5,h6,h7,h8,h9,h10,h29,h30,_⟩:=Y3 X7 hA
 simp only[X7,h0,h1,h5,h6,h7,h8,h9,h10,h29,h30]
 clear h0 h1 h5 h6 h7 h8 h9 h10 h29 h30
 have hS:∀u d,ST F nn n tv tb bk br slv u→ST F nn n tv tb bk br slv (World.at u d):=fun u d h=>h.at d
 have htop:=hs.top
 rw[C0d]
 refine O7 (ST F nn n tv tb bk br slv) (last:=13) S3 (z8 (by kernel_rfl)) (by decide) ?_
 simp only[oC,h0c,pC,X0,Tryd.f54,Option.getD_some,List.size_toArray,List.length_cons,List.length_nil,Nat.reduceAdd,Nat.zero_add,List.range,List.range.loop]
 have hZ:∀a u d,J0 Tryd.prog main F Stop (G ((Go.Conc.base 54).at a (.inRegion (oC h0c) [13]::k)) cs) u→J0 Tryd.prog main F Stop (G ((Go.Conc.base 54).at a (.inRegion (oC h0c) [13]::k)) cs) (World.at u d):=fun a u d h=>h.at d
 simp only[oC,h0c,pC,X0,Tryd.f54,Option.getD_some,List.size_toArray,List.length_cons,List.length_nil,Nat.reduceAdd,Nat.zero_add,List.range,List.range.loop]at hZ
 refine a0t 0 (vP tb 0) (fun u hu=>(And.intro hu.c1 hu.z1)) hS hs ?_ hZ
 walk_nrm
 refine a0t 1 (vP tb 0) (fun u hu=>(And.intro hu.c1 hu.z1)) hS hs ?_ hZ
 walk_nrm
 refine tkM 2 (vP tb 0) hS hs ?_ hZ
 walk_nrm
 refine tkM 3 (vP tb 1) hS hs ?_ hZ
 walk_nrm
 refine a0t 4 slv (fun u hu=>(And.intro hu.c2 hu.z2)) hS hs ?_ hZ
 walk_nrm
 refine a0t 5 (vP tb 0) (fun u hu=>(And.intro hu.c1 hu.z1)) hS hs ?_ hZ
 walk_nrm
 refine i3 (r:=[6]) (by kernel_rfl) (by kernel_rfl) (fun i hi hil=>?_)
 simp only[List.mem_cons,List.not_mem_nil,or_false]at hi
 subst hi
 refine V4 rfl rfl (fun d K' hK'=>?_)
 go_simp
 refine hK' _ _ ⟨⟨⟨0,Y0 hU (hs.at d).top _⟩,fun e he=>by(have hm:=mem_listed he;simp[go_sem]at hm)⟩,(hs.at d).alloc hU _,?_⟩
 clear hK' K'
 rw[alloc_at']
 refine Y2 hS hZ _ _ _ _ ?_ d
 replace hs:=hs.alloc hU (.chan 0 #[] false 0 0 false)
 refine tkM 7 (.agg #[vP tb 0,.chan (some w.heap.size),.bool false]) hS hs ?_ hZ
 walk_nrm
 refine i3 (r:=[8]) (by kernel_rfl) (by kernel_rfl) (fun i hi hil=>?_)
 simp only[List.mem_cons,List.not_mem_nil,or_false]at hi
 subst hi
 refine V4 rfl rfl (fun d K' hK'=>?_)
 go_simp
 refine hK' _ _ ⟨⟨⟨0,Y0 hU (hs.at d).top _⟩,fun e he=>by(have hm:=mem_listed he;simp[go_sem]at hm)⟩,(hs.at d).alloc hU _,?_⟩
 clear hK' K'
 rw[alloc_at']
 refine Y2 hS hZ _ _ _ _ ?_ d
 replace hs:=hs.alloc hU (.cells #[vP tb 0,.chan (some w.heap.size),.bool false] 141)
 refine i3 (r:=[9]) (by kernel_rfl) (by kernel_rfl) (fun i hi hil=>?_)
 simp only[List.mem_cons,List.not_mem_nil,or_false]at hi
 subst hi
 refine V4 rfl rfl (fun d K' hK'=>?_)
 go_simp
 refine hK' _ _ ⟨⟨⟨0,Y0 hU (hs.at d).top _⟩,fun e he=>by(have hm:=mem_listed he;simp[go_sem]at hm)⟩,(hs.at d).alloc hU _,?_⟩
 clear hK' K'
 rw[alloc_at']
 refine Y2 hS hZ _ _ _ _ ?_ d
 replace hs:=hs.alloc hU (.cells #[vP (w.heap.size+1) 0] 138)
 refine i3 (r:=[10]) (by kernel_rfl) (by kernel_rfl) (fun i hi hil=>?_)
 simp only[List.mem_cons,List.not_mem_nil,or_false]at hi
 subst hi
 obtain⟨i0,hi0,hz0,hz1,hz2⟩:=q09
 have hFn:∀b,nn≤b→F b=none:=fun b hb=>by
  cases e:F b with
  | none=>rfl
  | some z=>exact absurd (hU b z e) (by omega)
 have hown4:∀b,Value.ownBlock slv=some b→nn≤b→b<w.heap.size:=fun b hb _=>(hrow.lt b hb).2
 have hW4:∀r,r<w.heap.size→(((w.alloc (.chan 0 #[] false 0 0 false)).alloc (.cells #[vP tb 0,.chan (some w.heap.size),.bool false] 141)).alloc (.cells #[vP (w.heap.size+1) 0] 138)).heap[r]? =w.heap[r]?:=fun r hr=>by
  rw[D0 _ _ (by simp;omega),D0 _ _ (by simp;omega),D0 _ _ hr]
 have hp4:(((w.alloc (.chan 0 #[] false 0 0 false)).alloc (.cells #[vP tb 0,.chan (some w.heap.size),.bool false] 141)).alloc (.cells #[vP (w.heap.size+1) 0] 138)).heap[w.heap.size]? =some (.chan 0 #[] false 0 0 false):=by
  rw[D0 _ _ (by simp;omega),D0 _ _ (by simp)]
  exact heap_alloc_new _ _
 have hq4:(((w.alloc (.chan 0 #[] false 0 0 false)).alloc (.cells #[vP tb 0,.chan (some w.heap.size),.bool false] 141)).alloc (.cells #[vP (w.heap.size+1) 0] 138)).heap[w.heap.size+1]? =some (.cells #[vP tb 0,.chan (some w.heap.size),.bool false] 141):=by
  rw[D0 _ _ (by simp)]
  have:=heap_alloc_new (w.alloc (.chan 0 #[] false 0 0 false)) (.cells #[vP tb 0,.chan (some w.heap.size),.bool false] 141)
  simpa using this
 have hn4:=cell_one_new ((w.alloc (.chan 0 #[] false 0 0 false)).alloc (.cells #[vP tb 0,.chan (some w.heap.size),.bool false] 141)) (vP (w.heap.size+1) 0) 138
 have hsz4:(((w.alloc (.chan 0 #[] false 0 0 false)).alloc (.cells #[vP tb 0,.chan (some w.heap.size),.bool false] 141)).alloc (.cells #[vP (w.heap.size+1) 0] 138)).heap.size=w.heap.size+3:=by simp
 have hz4:((w.alloc (.chan 0 #[] false 0 0 false)).alloc (.cells #[vP tb 0,.chan (some w.heap.size),.bool false] 141)).heap.size=w.heap.size+1+1:=by simp
 rw[hz4]at hn4
 clear hz4
 generalize ((w.alloc (.chan 0 #[] false 0 0 false)).alloc (.cells #[vP tb 0,.chan (some w.heap.size),.bool false] 141)).alloc (.cells #[vP (w.heap.size+1) 0] 138)=W4 at*
 refine e0Z (S':=fun _=>false) (px:=false) (ready0.shut false) (by simp) rfl rfl rfl hs.wf (fun d=>?_)
 have hrowm:(L1 F (W4.at d)).ownsRow nn 138 1 slv i xs:=G1 hrow fun b hb hbn=>by
  rw[I2 (hFn b hbn)]
  exact hW4 b (hown4 b hb hbn)
 obtain⟨v',u,hr,hown,hgrow,_⟩:=run_append_own (P:=Tryd.prog) (L1 F (W4.at d)) nn 135 135 138 i0 (.pointer none) 1 8 Tryd.underlying135 hi0 hz0 hz1 hz2 rfl (by decide) slv i xs hrowm ⟨w.heap.size+1+1,0,none⟩ 1 1 [vP (w.heap.size+1) 0] rfl
  (fun j u hu=>(l9 _).trans (hn4 j u hu)) (fun x hx=>by simp at hx;subst hx;rfl) (by unfold maxLen;omega) (by omega) (by rw[M4];show nn≤W4.heap.size;omega)
 refine⟨v',u,V6 (.tmp 36) (.tmp 41) 135 rfl rfl rfl hr,fun w' hu hg hwf'=>?_⟩
 subst hu
 have hkeep:∀r,nn≤r→r<w.heap.size+3→some r≠Value.ownBlock slv→w'.heap[r]? =W4.heap[r]?:=fun r h1 h2 h3=>by
  have:=hgrow.block r (by rw[M4];show r<W4.heap.size;omega) h3
  rw[I2 (hFn r h1),I2 (hFn r h1)]at this
  exact this
 have htvl:=(Array.getElem?_eq_some_iff.1 hs.tvc).1
 have ntv:=Q9 hrowm ((I2 (hFn tv hlow.1)).trans (show(W4.at d).heap[tv]? =_ from hs.tvc)) (by decide)
 have ntb:=Q9 hrowm ((I2 (hFn tb hlow.2)).trans (show(W4.at d).heap[tb]? =_ from hs.tbc)) (by decide)
 have np:=i01 hrowm ((I2 (hFn w.heap.size htop)).trans (show(W4.at d).heap[w.heap.size]? =_ from hp4))
 have nq:=Q9 hrowm ((I2 (hFn (w.heap.size+1) (by omega))).trans (show(W4.at d).heap[w.heap.size+1]? =_ from hq4)) (by decide)
 have g0K:w.heap.size+3≤w'.heap.size:=by
  have:=hgrow.size
  rw[M4,M4]at this
  have h2:(W4.at d).heap.size=w.heap.size+3:=hsz4
  omega
 have htv4:=(Array.getElem?_eq_some_iff.1 hs.tvc).1
 have htb4:=(Array.getElem?_eq_some_iff.1 hs.tbc).1
 have hst':ST F nn n tv tb bk br slv w':=⟨by omega,hwf',(hkeep tv hlow.1 (by omega) ntv).trans hs.tvc,(hkeep tb hlow.2 (by omega) ntb).trans hs.tbc⟩
 obtain⟨b1,cap1,cur1,rfl,hb1,hb2⟩:=d0M hown
 have hb3:w'.heap[b1]? =some (.cells cur1 138 (0,0)):=by rw[I2 (hFn b1 hb1)]at hb2;exact hb2
 have hrow':w'.ownsRow nn 138 1 (vL b1 0 (i+1) cap1) (i+1) (xs++[vP (w.heap.size+1) 0]):=G1 hown fun b hb hbn=>(I2 (hFn b hbn)).symm
 have nb1:b1≠tb:=by
  rintro rfl
  rw[hst'.tbc]at hb3
  cases hb3
 have htt:tv≠tb:=by
  rintro rfl
  have:=hst'.tbc
  rw[hst'.tvc]at this
  cases this
 refine⟨hst',?_⟩
 clear hs
 have hs:=hst'
 walk_nrm
 refine tkM 11 (vP tb 0) hS hs ?_ hZ
 walk_nrm
 refine tkM 12 (vP tb 1) hS hs ?_ hZ
 walk_nrm
 refine P5 (by kernel_rfl) ?_ _
 have ctb:=hst'.c2
 have ztb:=hst'.z2
 have htb1:=hlow.2
 have hnh:¬held F ⟨tb,1,none⟩:=O4 hU htb1
 clear hZ hS hn4 hr hown hgrow hrowm
 (refine oW fun dd K hK=>?_;go_simp;refine hK _ _ ⟨⟨⟨0,E0 rfl hnh _⟩,fun e he=>by(have hm:=mem_listed he;clear he hK;simp[go_sem,storedEv,ctb,ztb]at hm;subst hm;exact U0 _ _ hnh)⟩,?_⟩;clear hK K;rw[setCell_at'];refine J0.at ?_ dd)
 refine ogE ?_
 refine h _ (vL b1 0 (i+1) cap1) (w.heap.size) (w.heap.size+1) _ ?_ ⟨rfl,rfl,rfl,rfl,rfl,rfl,rfl,rfl,rfl,rfl,rfl,trivial⟩
 refine⟨⟨by simp;omega,hwf'.of_grew (E0 rfl (O4 hU hlow.2) _),(o0 _ _ _ htt).trans hst'.tvc,by simp[World.setCell,Array.getElem?_modify,hst'.tbc]⟩,G1 hrow' fun b hb _=>o0 _ _ _ (by simp only[Value.ownBlock,Option.some.injEq]at hb;subst hb;exact nb1),?_,?_,rfl,rfl,by simp;omega,fun r h1 h2 h3 h4=>?_⟩
 ·refine(o0 _ _ _ ?_).trans ((hkeep _ htop (by omega) np).trans hp4)
  rintro rfl
  have:=hst'.tbc
  rw[hkeep _ htop (by omega) np,hp4]at this
  cases this
 ·refine(o0 _ _ _ ?_).trans ((hkeep _ (by omega) (by omega) nq).trans hq4)
  intro e
  simp only at e
  have:=hst'.tbc
  rw[← e,hkeep _ (by omega) (by omega) nq,hq4]at this
  cases this
 ·rw[o0 _ _ _ h3,hkeep r h1 (by omega) h4,hW4 r h2]
end
section
variable {cs:List Frame}{main:Bool}{Stop:Goroutine→World→Prop}
variable{F:Fz}{w w':World}
theorem B0S{n mo od nb tv:Nat}{thr sch:Value}(hc:w.cell? ⟨nb,0,none⟩=some (vI n))(hz:w.frozen? ⟨nb,0,none⟩=false){A:Array Value}(hA:G0 129 A [(0,thr),(1,sch),(5,vP mo 0),(6,vP od 0),(7,.bool false),(8,.slice none 0 0),(9,vP nb 0),(10,vP tv 0)])
 (h:∀A,G0 129 A [(0,thr),(1,sch),(5,vP mo 0),(6,vP od 0),(7,.bool false),(8,.slice none 0 0),(9,vP nb 0),(10,vP tv 0),(29,vI n),(30,vI (0:Nat))]→J0 Tryd.prog main F Stop (G (bA 54 A [.code b0A,.inLoop b0A,.inBlock 0,.code b0F]) cs) w):J0 Tryd.prog main F Stop (G (bA 54 A [.code p01]) cs) w:=by
 obtain⟨s,rfl,h0,h1,h5,h6,h7,h8,h9,h10,_⟩:=Y3 X7 hA
 simp only[X7,h0,h1,h5,h6,h7,h8,h9,h10]
 clear h0 h1 h5 h6 h7 h8 h9 h10
 refine ogV C0m b0F<|ogW C0c x0O ?_
 simp only[oC,C0c,pC,X0,Tryd.f54,Option.getD_some,List.size_toArray,List.length_cons,List.length_nil,Nat.reduceAdd,Nat.zero_add,List.range,List.range.loop]
 refine oL ?_
 refine oT ?_
 refine ogE ?_
 rw[B0W]
 refine L7 ?_
 rw[B07]
 refine ogP ?_
 refine h _ ?_
 exact⟨rfl,rfl,rfl,rfl,rfl,rfl,rfl,rfl,rfl,rfl,rfl,trivial⟩
theorem B0T{n mo od nb tv:Nat}{thr sch:Value}{i:Nat}(hi:i<n){A:Array Value}(hA:G0 129 A [(0,thr),(1,sch),(5,vP mo 0),(6,vP od 0),(7,.bool false),(8,.slice none 0 0),(9,vP nb 0),(10,vP tv 0),(29,vI n),(30,vI i)])
 (h:∀A,G0 129 A [(0,thr),(1,sch),(5,vP mo 0),(6,vP od 0),(7,.bool false),(8,.slice none 0 0),(9,vP nb 0),(10,vP tv 0),(29,vI n),(30,vI i)]→J0 Tryd.prog main F Stop (G (bA 54 A [.code h0c,.inBlock 1,.code n0O,.inLoop b0A,.inBlock 0,.code b0F]) cs) w):J0 Tryd.prog main F Stop (G (bA 54 A [.code b0A,.inLoop b0A,.inBlock 0,.code b0F]) cs) w:=by
 obtain⟨s,rfl,h0,h1,h5,h6,h7,h8,h9,h10,h29,h30,_⟩:=Y3 X7 hA
 simp only[X7,h0,h1,h5,h6,h7,h8,h9,h10,h29,h30]
 clear h0 h1 h5 h6 h7 h8 h9 h10 h29 h30
 have hlt:decide ((i:Int)<(n:Int))=true:=by simp;omega
 have hlt2:decide (i<n)=true:=by simp;omega
 refine ogW s0I s0K ?_
 simp only[oC,s0I,pC,X0,Tryd.f54,Option.getD_some,List.size_toArray,List.length_cons,List.length_nil,Nat.reduceAdd,Nat.zero_add,List.range,List.range.loop]
 refine oT ?_
 refine ogE<|ogV u0U y0e<|ogYn .skip<|ogK<|ogV B0X n0O ?_
 rw[B0Y]
 refine L7 ?_
 refine h _ ?_
 exact⟨rfl,rfl,rfl,rfl,rfl,rfl,rfl,rfl,rfl,rfl,rfl,trivial⟩
theorem B0U{n mo od nb tv:Nat}{thr sch:Value}{i:Nat}(hi:i<100){A:Array Value}(hA:G0 129 A [(0,thr),(1,sch),(5,vP mo 0),(6,vP od 0),(7,.bool false),(8,.slice none 0 0),(9,vP nb 0),(10,vP tv 0),(29,vI n),(30,vI i)])
 (h:∀A,G0 129 A [(0,thr),(1,sch),(5,vP mo 0),(6,vP od 0),(7,.bool false),(8,.slice none 0 0),(9,vP nb 0),(10,vP tv 0),(29,vI n),(30,vI (i+1:Nat))]→J0 Tryd.prog main F Stop (G (bA 54 A [.code b0A,.inLoop b0A,.inBlock 0,.code b0F]) cs) w):J0 Tryd.prog main F Stop (G (bA 54 A [.inBlock 1,.code n0O,.inLoop b0A,.inBlock 0,.code b0F]) cs) w:=by
 obtain⟨s,rfl,h0,h1,h5,h6,h7,h8,h9,h10,h29,h30,_⟩:=Y3 X7 hA
 simp only[X7,h0,h1,h5,h6,h7,h8,h9,h10,h29,h30]
 clear h0 h1 h5 h6 h7 h8 h9 h10 h29 h30
 have hk64:IntKind.i64.wrap ((i:Int)+1)=(i:Int)+1:=IntWalk.i64_in _ (by omega)
 refine ogI ?_
 rw[C0e]
 refine ogR ?_
 simp only[oC,n0O,pC,X0,Tryd.f54,Option.getD_some,List.size_toArray,List.length_cons,List.length_nil,Nat.reduceAdd,Nat.zero_add,List.range,List.range.loop]
 iterate 2 refine oT ?_
 refine ogE<|ogL ?_
 refine h _ ?_
 exact⟨rfl,rfl,rfl,rfl,rfl,rfl,rfl,rfl,rfl,rfl,rfl,trivial⟩
theorem B0V{nn:Nat}(hU:i2 F nn)(hn:nn≤w.heap.size){n mo od nb tv:Nat}{thr sch:Value}(hb:nb<w.heap.size)(hc:w.cell? ⟨nb,0,none⟩=some (vI n))(hz:w.frozen? ⟨nb,0,none⟩=false){A:Array Value}(hA:G0 129 A [(0,thr),(1,sch),(5,vP mo 0),(6,vP od 0),(7,.bool false),(8,.slice none 0 0),(9,vP nb 0),(10,vP tv 0),(29,vI n),(30,vI n)])
 (h:∀A,G0 129 A [(0,thr),(1,sch),(7,.bool false),(46,vI n),(47,vI (0:Nat)),(5,vP mo 0),(6,vP od 0),(8,.slice none 0 0),(9,vP nb 0),(10,vP tv 0),(11,vP w.heap.size 0)]→J0 Tryd.prog main F Stop (G (bA 54 A [.code p5,.inLoop p5,.inBlock 2,.code I7]) cs) (w.alloc (.cells #[vI 0] 3))):J0 Tryd.prog main F Stop (G (bA 54 A [.code b0A,.inLoop b0A,.inBlock 0,.code b0F]) cs) w:=by
 obtain⟨s,rfl,h0,h1,h5,h6,h7,h8,h9,h10,h29,h30,_⟩:=Y3 X7 hA
 simp only[X7,h0,h1,h5,h6,h7,h8,h9,h10,h29,h30]
 clear h0 h1 h5 h6 h7 h8 h9 h10 h29 h30
 have hlt:decide ((n:Int)<(n:Int))=false:=by simp
 have hc':=(b0Z w (.cells #[vI 0] 3) ⟨nb,0,none⟩ hb).trans hc
 have hz':(w.alloc (.cells #[vI 0] 3)).frozen? ⟨nb,0,none⟩=false:=by
  have:(w.alloc (.cells #[vI 0] 3)).heap[nb]? =w.heap[nb]?:=D0 w _ hb
  unfold World.frozen?
  simp only[this]
  exact hz
 refine ogW s0I s0K ?_
 simp only[oC,s0I,pC,X0,Tryd.f54,Option.getD_some,List.size_toArray,List.length_cons,List.length_nil,Nat.reduceAdd,Nat.zero_add,List.range,List.range.loop]
 refine oT ?_
 refine ogE<|ogV u0U y0e<|ogGn (.exit 0) ?_
 refine M0 rfl (fun d=>stepG_exit rfl) ?_
 refine ogW C0f p0V ?_
 simp only[oC,C0f,pC,X0,Tryd.f54,Option.getD_some,List.size_toArray,List.length_cons,List.length_nil,Nat.reduceAdd,Nat.zero_add,List.range,List.range.loop]
 refine oA hU ?_
 (refine oW fun dd K hK=>?_;go_simp;refine qS hK hU ?_;clear hK K)
 have e1:=d06 w (vI 0) (vI 0) 3
 rw[e1]
 clear e1
 refine ogE<|ogV u07 I7<|ogW C0g x0Q ?_
 simp only[oC,C0g,pC,X0,Tryd.f54,Option.getD_some,List.size_toArray,List.length_cons,List.length_nil,Nat.reduceAdd,Nat.zero_add,List.range,List.range.loop]
 refine oL ?_
 refine oT ?_
 refine ogE ?_
 rw[B0Z]
 refine L7 ?_
 rw[x0X]
 refine ogP ?_
 refine h _ ?_
 exact⟨rfl,rfl,rfl,rfl,rfl,rfl,rfl,rfl,rfl,rfl,rfl,rfl,trivial⟩
end
section
variable{F:Fz}{w w':World}{nn n tv tb bk br mo od nb M:Nat}{slv:Value}{sts:List (Nat×Nat)}
structure a0M(F:Fz)(nn n tv tb bk br mo od nb M:Nat)(slv:Value)(sts:List (Nat×Nat))(w:World):Prop where
 st:ST F nn n tv tb bk br slv w
 row:w.ownsRow nn 138 1 slv sts.length (sts.map fun s=>vP s.1 0)
 mem:∀s∈sts,w.heap[s.1]? =some (.cells #[vP tb 0,.chan (some s.2),.bool false] 141)∧w.heap[s.2]? =some (.chan 0 #[] false 0 0 false)∧nn≤s.1∧nn≤s.2
 nd1:(sts.map (·.1)).Nodup
 nd2:(sts.map (·.2)).Nodup
 bkc:w.heap[bk]? =some (.chan 0 #[] false 0 0 false)∧nn≤bk∧∀s∈sts,s.2≠bk
 brc:w.heap[br]? =some (.cells (madeCells #[.bool false] n) 4)∧nn≤br
 moc:w.heap[mo]? =some (.cells #[vI M] 3)∧nn≤mo
 odc:w.heap[od]? =some (.cells #[.slice none 0 0] 24)∧nn≤od
 nbc:w.heap[nb]? =some (.cells #[vI n] 3)∧nn≤nb
 low:nn≤tv∧nn≤tb
 mn:mo≠nb
theorem a0M.at(h:a0M F nn n tv tb bk br mo od nb M slv sts w)(d:Nat):a0M F nn n tv tb bk br mo od nb M slv sts (w.at d):=
 ⟨h.st.at d,h.row,h.mem,h.nd1,h.nd2,h.bkc,h.brc,h.moc,h.odc,h.nbc,h.low,h.mn⟩
theorem a0M.next(h:a0M F nn n tv tb bk br mo od nb M slv sts w){v':Value}{p q:Nat}(k:u0m F nn n tv tb bk br sts.length slv (sts.map fun s=>vP s.1 0) w w' v' p q):
 a0M F nn n tv tb bk br mo od nb M v' (sts++[(q,p)]) w':=by
 have hcell:∀r c e z,w.heap[r]? =some (.cells c e z)→nn≤r→e≠138→e≠137→w'.heap[r]? =some (.cells c e z):=fun r c e z h1 h2 h3 h4=>
  (k.old r h2 (Q3 h1) (by rintro rfl;rw[h.st.tbc]at h1;cases h1;exact h4 rfl) (Q9 h.row h1 (Ne.symm h3))).trans h1
 have hchan:∀r,w.heap[r]? =some (.chan 0 #[] false 0 0 false)→nn≤r→w'.heap[r]? =some (.chan 0 #[] false 0 0 false):=fun r h1 h2=>
  (k.old r h2 (Q3 h1) (by rintro rfl;rw[h.st.tbc]at h1;cases h1) (i01 h.row h1)).trans h1
 have hlt1:∀s∈sts,s.1<w.heap.size∧s.2<w.heap.size:=fun s hs=>⟨(Array.getElem?_eq_some_iff.1 (h.mem s hs).1).1,(Array.getElem?_eq_some_iff.1 (h.mem s hs).2.1).1⟩
 have htop:=h.st.top
 have hp:=k.pl
 have hq:=k.ql
 refine⟨k.st,?_,fun s hs=>?_,?_,?_,⟨hchan _ h.bkc.1 h.bkc.2.1,h.bkc.2.1,fun s hs=>?_⟩,⟨hcell _ _ _ _ h.brc.1 h.brc.2 (by decide) (by decide),h.brc.2⟩,⟨hcell _ _ _ _ h.moc.1 h.moc.2 (by decide) (by decide),h.moc.2⟩,⟨hcell _ _ _ _ h.odc.1 h.odc.2 (by decide) (by decide),h.odc.2⟩,⟨hcell _ _ _ _ h.nbc.1 h.nbc.2 (by decide) (by decide),h.nbc.2⟩,h.low,h.mn⟩
 ·have:=k.row
  simpa using this
 ·rcases List.mem_append.1 hs with hs|hs
  ·obtain⟨h1,h2,h3,h4⟩:=h.mem s hs
   exact⟨hcell _ _ _ _ h1 h3 (by decide) (by decide),hchan _ h2 h4,h3,h4⟩
  ·simp only[List.mem_singleton]at hs
   subst hs
   exact⟨k.qc,k.pc,by simp only;omega,by simp only;omega⟩
 ·rw[List.map_append,List.nodup_append]
  refine⟨h.nd1,by simp,fun a ha b hb=>?_⟩
  obtain⟨s,hs,rfl⟩:=List.mem_map.1 ha
  simp only[List.map_cons,List.map_nil,List.mem_singleton]at hb
  have:=(hlt1 s hs).1
  omega
 ·rw[List.map_append,List.nodup_append]
  refine⟨h.nd2,by simp,fun a ha b hb=>?_⟩
  obtain⟨s,hs,rfl⟩:=List.mem_map.1 ha
  simp only[List.map_cons,List.map_nil,List.mem_singleton]at hb
  have:=(hlt1 s hs).2
  omega
 ·rcases List.mem_append.1 hs with hs|hs
  ·exact h.bkc.2.2 s hs
  ·simp only[List.mem_singleton]at hs
   subst hs
   have:=(Array.getElem?_eq_some_iff.1 h.bkc.1).1
   simp only
   omega
theorem n0M(hU:i2 F nn)(hn64:n≤64){thr sch:Value}{cs:List Frame}{main:Bool}{Stop:Goroutine→World→Prop}
 (hk:∀(w:World) slv sts A,a0M F nn n tv tb bk br mo od nb M slv sts w→sts.length=n→G0 129 A [(0,thr),(1,sch),(5,vP mo 0),(6,vP od 0),(7,.bool false),(8,.slice none 0 0),(9,vP nb 0),(10,vP tv 0),(29,vI n),(30,vI n)]→
   J0 Tryd.prog main F Stop (G (bA 54 A [.code b0A,.inLoop b0A,.inBlock 0,.code b0F]) cs) w):
 ∀(k i:Nat),i+k=n→∀(w:World) slv sts A,a0M F nn n tv tb bk br mo od nb M slv sts w→sts.length=i→G0 129 A [(0,thr),(1,sch),(5,vP mo 0),(6,vP od 0),(7,.bool false),(8,.slice none 0 0),(9,vP nb 0),(10,vP tv 0),(29,vI n),(30,vI i)]→
  J0 Tryd.prog main F Stop (G (bA 54 A [.code b0A,.inLoop b0A,.inBlock 0,.code b0F]) cs) w:=by
 intro k
 induction k with
 | zero=>
   intro i hi w slv sts A h hl hA
   obtain rfl:i=n:=by omega
   exact hk w slv sts A h hl hA
 | succ k ih=>
   intro i hi w slv sts A h hl hA
   refine B0T (by omega) hA fun A hA=>?_
   have hrow:=h.row
   subst hl
   refine B0K hU h.st hrow (by omega) h.low hA fun w' v' p q A hS hA=>?_
   refine B0U (by omega) hA fun A hA=>?_
   exact ih (sts.length+1) (by omega) w' v' (sts++[(q,p)]) A (h.next hS) (by simp) hA
structure Made(nn M:Nat)(g:M1)(v:y4)(w:World):Prop where
 ok:g.Ok
 lie:∀a u,g.Place a u→Z1 w a u
 top:g.top≤w.heap.size
 sln:∃a,g.sl= .slice a g.n g.sc
 over:∀j,j<g.n→Z1 w ⟨g.st j,2,none⟩ (.bool false)
 brk:∀j,j<g.n→Z1 w ⟨g.br,j,none⟩ (.bool false)
 chans:∀c,g.Chan c→w.heap[c]? =some (.chan 0 #[] false 0 0 false)∧nn≤c
 place:∀a u,g.Place a u→nn≤a.block
 st:∀j,j<g.n→nn≤g.st j∧g.st j<w.heap.size
 br:nn≤g.br∧g.br<w.heap.size
 mo:w.heap[v.mo]? =some (.cells #[vI M] 3)
 od:w.heap[v.od]? =some (.cells #[.slice none 0 0] 24)
 n:w.heap[v.n]? =some (.cells #[vI g.n] 3)
 lf:w.heap[v.lf]? =some (.cells #[vI (0:Nat)] 3)
 low:nn≤v.mo∧nn≤v.od∧nn≤v.n∧nn≤v.lf
 dn:v.mo≠v.n∧v.lf≠v.n∧v.lf≠v.mo
 alone:∀b c e,w.heap[b]? =some (.cells c e (0,0))→e=3∨e=24→(∀j,j<g.n→b≠g.st j)∧b≠g.br∧∀a u,g.Place a u→b≠a.block
theorem f0H(n j:Nat)(h:j<n):(madeCells #[Value.bool false] n)[j]? =some (.bool false):=by
 simp[madeCells,h,Nat.mod_one]
theorem g0e{α:Type}{l:List α}(h:l.Nodup){i j:Nat}(hi:i<l.length)(hj:j<l.length)(e:l[i]=l[j]):i=j:=by
 have:=List.pairwise_iff_getElem.1 h
 rcases Nat.lt_trichotomy i j with h1|h1|h1
 ·exact absurd e (this i j hi hj h1)
 ·exact h1
 ·exact absurd e.symm (this j i hj hi h1)
theorem s0C{A:G3}(hF:A.b≤nn){slv:Value}{sts:List (Nat×Nat)}(h:a0M F nn n tv tb bk br mo od nb M slv sts w)(hl:sts.length=n):
 ∃g:M1,g.an=A∧g.n=n∧g.tv=tv∧Made nn M g ⟨mo,od,nb,w.heap.size⟩ (w.alloc (.cells #[vI (0:Nat)] 3)):=by
 have hk:∀r o,w.heap[r]? =some o→(w.alloc (.cells #[vI (0:Nat)] 3)).heap[r]? =some o:=fun r o hr=>(D0 _ _ (Q3 hr)).trans hr
 obtain⟨sa,sc,hrow⟩:∃sa sc,(0<n→slv=vL sa 0 n sc∧nn≤sa∧∃cur,w.heap[sa]? =some (.cells cur 138 (0,0))∧∀j,j<n→cur[j]? =some (.pointer (some ⟨(sts.getD j (0,0)).1,0,none⟩)))∧∃a,slv= .slice a n sc:=by
  rcases h.row.2 with⟨h1,h2⟩|⟨b,cap,cur,h1,h2,h3,h4,h5,h6,h7⟩
  ·exact⟨0,0,fun h0=>by omega,none,by rw[h1,← hl,h2]⟩
  ·rw[hl]at h1 h4 h7
   refine⟨b,cap,fun h0=>⟨h1,h2,cur,h3,fun j hj=>?_⟩,some ⟨b,0,none⟩,h1⟩
   have h8:=congrArg (·[j]?) h7
   simp only[Nat.mul_one,List.getElem?_take,if_pos hj,Array.getElem?_toList]at h8
   rw[h8]
   have hj':j<sts.length:=by omega
   simp[hj',List.getD_eq_getElem?_getD]
 obtain⟨hrow1,a0,hrow2⟩:=hrow
 have hmem:∀j,j<n→sts.getD j (0,0)∈sts:=fun j hj=>by
  have hj':j<sts.length:=by omega
  simp[List.getD_eq_getElem?_getD,hj']
 have hinj1:∀i j,i<n→j<n→(sts.getD i (0,0)).1=(sts.getD j (0,0)).1→i=j:=fun i j hi hj e=>by
  have hi':i<sts.length:=by omega
  have hj':j<sts.length:=by omega
  simp only[List.getD_eq_getElem?_getD,List.getElem?_eq_getElem hi',List.getElem?_eq_getElem hj',Option.getD_some]at e
  exact g0e h.nd1 (by simpa using hi') (by simpa using hj') (by simpa using e)
 have hinj2:∀i j,i<n→j<n→(sts.getD i (0,0)).2=(sts.getD j (0,0)).2→i=j:=fun i j hi hj e=>by
  have hi':i<sts.length:=by omega
  have hj':j<sts.length:=by omega
  simp only[List.getD_eq_getElem?_getD,List.getElem?_eq_getElem hi',List.getElem?_eq_getElem hj',Option.getD_some]at e
  exact g0e h.nd2 (by simpa using hi') (by simpa using hj') (by simpa using e)
 let g:M1:={tv:=tv,tb:=tb,bk:=bk,sa:=sa,sc:=sc,br:=br,n:=n,sl:=slv,bl:=vL br 0 n n,st:=fun j=>(sts.getD j (0,0)).1,pc:=fun j=>(sts.getD j (0,0)).2,top:=w.heap.size,an:=A}
 have hstm:∀j,j<n→w.heap[(sts.getD j (0,0)).1]? =some (.cells #[vP tb 0,.chan (some (sts.getD j (0,0)).2),.bool false] 141):=fun j hj=>(h.mem _ (hmem j hj)).1
 have hlt:∀r o,w.heap[r]? =some o→r<w.heap.size:=fun r o hr=>(Q3 hr)
 have hplace:∀a u,g.Place a u→∃c e,w.heap[a.block]? =some (.cells c e (0,0))∧c[a.off]? =some u∧a.spot=none∧nn≤a.block∧(e=133∨e=137∨e=138∨e=141)∧(e=141→a.off<2):=by
  intro a u p
  cases p with
  | tv=>exact⟨_,_,h.st.tvc,rfl,rfl,h.low.1,by simp,by simp⟩
  | back=>exact⟨_,_,h.st.tbc,rfl,rfl,h.low.2,by simp,by simp⟩
  | stands=>exact⟨_,_,h.st.tbc,rfl,rfl,h.low.2,by simp,by simp⟩
  | broken=>exact⟨_,_,h.st.tbc,rfl,rfl,h.low.2,by simp,by simp⟩
  | stand i hi=>
    obtain⟨_,h2,cur,h3,h4⟩:=hrow1 (Nat.lt_of_le_of_lt (Nat.zero_le _) hi)
    exact⟨cur,138,h3,h4 i hi,rfl,h2,by simp,by simp⟩
  | gate i hi=>exact⟨_,_,hstm i hi,rfl,rfl,(h.mem _ (hmem i hi)).2.2.1,by simp,by simp⟩
  | pass i hi=>exact⟨_,_,hstm i hi,rfl,rfl,(h.mem _ (hmem i hi)).2.2.1,by simp,by simp⟩
 have hchan:∀c,g.Chan c→w.heap[c]? =some (.chan 0 #[] false 0 0 false)∧nn≤c:=by
  rintro c (rfl|⟨i,hi,rfl⟩)
  ·exact⟨h.bkc.1,h.bkc.2.1⟩
  ·exact⟨(h.mem _ (hmem i hi)).2.1,(h.mem _ (hmem i hi)).2.2.2⟩
 refine⟨g,rfl,rfl,rfl,⟨⟨fun a u c p hc=>?_,fun c hc=>Nat.le_trans hF (hchan c hc).2,fun a u p=>?_,fun c hc=>hlt _ _ (hchan c hc).1,hinj2,fun i hi=>h.bkc.2.2 _ (hmem i hi),fun h0=>(hrow1 h0).1,fun _=>rfl,fun a u p=>?_,fun i a u hi p e=>?_,fun i hi e=>?_,fun _=>hlt _ _ h.brc.1,hinj1⟩,fun a u p=>?_,by simp[g],⟨a0,hrow2⟩,fun j hj=>⟨⟨_,_,hk _ _ (hstm j hj),rfl⟩,rfl⟩,fun j hj=>⟨⟨_,_,hk _ _ h.brc.1,f0H n j hj⟩,rfl⟩,
  fun c hc=>⟨hk _ _ (hchan c hc).1,(hchan c hc).2⟩,fun a u p=>?_,fun j hj=>⟨(h.mem _ (hmem j hj)).2.2.1,by have:=hlt _ _ (hstm j hj);simp only[World.size_alloc,g];omega⟩,⟨h.brc.2,by have:=hlt _ _ h.brc.1;simp only[World.size_alloc,g];omega⟩,hk _ _ h.moc.1,hk _ _ h.odc.1,hk _ _ h.nbc.1,heap_alloc_new _ _,
  ⟨h.moc.2,h.odc.2,h.nbc.2,h.st.top⟩,⟨h.mn,?_,?_⟩,fun b c e hb he=>?_⟩⟩
 ·obtain⟨c',e,h1,_⟩:=hplace a u p
  rintro rfl
  rw[(hchan _ hc).1]at h1
  cases h1
 ·obtain⟨c',e,h1,_⟩:=hplace a u p
  exact hlt _ _ h1
 ·obtain⟨c',e,h1,_,_,_,h2,_⟩:=hplace a u p
  intro e1
  have:=h.brc.1
  rw[show br=a.block from e1,h1]at this
  simp only[Option.some.injEq,Obj.cells.injEq]at this
  rw[this.2.1]at h2
  simp at h2
 ·obtain⟨c',e',h1,_,_,_,_,h2⟩:=hplace a u p
  have h3:=hstm i hi
  rw[show(sts.getD i (0,0)).1=a.block from e,h1]at h3
  cases h3
  exact h2 rfl
 ·have:=h.brc.1
  rw[show br=(sts.getD i (0,0)).1 from e,hstm i hi]at this
  simp only[Option.some.injEq,Obj.cells.injEq]at this
  exact absurd this.2.1 (by decide)
 ·obtain⟨c',e,h1,h2,h3,_⟩:=hplace a u p
  exact⟨⟨c',e,hk _ _ h1,h2⟩,h3⟩
 ·obtain⟨c',e,_,_,_,h1,_⟩:=hplace a u p
  exact h1
 ·have:=hlt _ _ h.nbc.1;simp only;omega
 ·have:=hlt _ _ h.moc.1;simp only;omega
 ·have hfin:∀r c' e',w.heap[r]? =some (.cells c' e' (0,0))→e'≠3→e'≠24→b≠r:=fun r c' e' h1 h2 h3 h4=>by
   subst h4
   rw[hk _ _ h1]at hb
   cases hb
   rcases he with rfl|rfl
   ·exact h2 rfl
   ·exact h3 rfl
  refine⟨fun j hj=>hfin _ _ _ (hstm j hj) (by decide) (by decide),hfin _ _ _ h.brc.1 (by decide) (by decide),fun a u p=>?_⟩
  obtain⟨c',e',h1,_,_,_,h2,_⟩:=hplace a u p
  refine hfin _ _ _ h1 ?_ ?_
  ·rintro rfl;simp at h2
  ·rintro rfl;simp at h2
end
section
variable{g:M1}{P:Program}{F:Fz}{w w':World}
theorem h05{a:Nat}{c:Array Value}{e:TypeId}{z:Nat×Nat}{v:Value}(h:w.heap[a]? =some (.cells c e z))(hv:c[0]? =some v):w.setCell ⟨a,0,none⟩ v=w:=by
 have hh:(w.setCell ⟨a,0,none⟩ v).heap=w.heap:=by
  apply Array.ext_getElem?
  intro i
  by_cases e1:i=a
  ·subst e1
   have hc0:=(Q3 hv)
   simp only[World.setCell,Array.getElem?_modify,h,if_true,Option.map_some,Option.isSome_none,Bool.false_eq_true,if_false,Option.some.injEq,Obj.cells.injEq,and_true]
   apply Array.ext_getElem?
   intro j
   rw[Array.getElem?_setIfInBounds]
   split
   ·rename_i e2;subst e2;first|exact hv.symm|(rw[if_pos hc0];exact hv.symm)
   ·rfl
  ·exact o0 _ _ _ e1
 have e:w.setCell ⟨a,0,none⟩ v={w with heap:=(w.setCell ⟨a,0,none⟩ v).heap}:=rfl
 rw[e,hh]
theorem i0c{main:Bool}{b:Frame}{a:Act}{cs:List Frame}{fn:Func}{todo:List Item}{c:Frame}{v:Value}(hn:b.kind= .normal)(hd:a.defers=[])(hf:P.funcs[b.fn]? =some fn)
 (hr:(results fn a.tmps).run P w= .ok v w):
 stepG P main (G {b.at a todo with mode:=.returning} (c::cs)) w= .go (G (c.finish v) cs) w (seen P b.fn ((results fn a.tmps).events P w #[])):=by
 simp[G,stepG,unwind,doReturn,Frame.at,hn,hd,hf,hr,GStep.after]
theorem p4{main:Bool}{b:Frame}{a:Act}{cs:List Frame}{fn:Func}{todo:List Item}{c:Frame}{v:Value}{Stop:Goroutine→World→Prop}(hn:b.kind= .normal)(hd:a.defers=[])(hf:P.funcs[b.fn]? =some fn)
 (hr:∀d,(results fn a.tmps).run P (w.at d)= .ok v (w.at d)) (he:∀d,∀e∈(results fn a.tmps).events P (w.at d) #[],J9 F e) (h:J0 P main F Stop (G (c.finish v) cs) w):
 J0 P main F Stop (G {b.at a todo with mode:=.returning} (c::cs)) w:=
 .step rfl fun d=>⟨_,_,_,i0c hn hd hf (hr d),⟨⟨0,V3.refl _ _⟩,fun e hm=>he d e (mem_seen hm)⟩,h.at d⟩
structure SE(g:M1)(od:Nat)(oa:Option Addr)(ol oc:Nat)(u:World):Prop where
 hod:∃c e,u.heap[od]? =some (.cells c e (0,0))∧c[0]? =some (.slice oa ol oc)
 t:Z1 u ⟨g.tv,0,none⟩ (vP g.tb 0)
 b:Z1 u ⟨g.tb,2,none⟩ g.bl
section
variable{od ol oc:Nat}{oa:Option Addr}{u:World}
theorem SE.at(h:SE g od oa ol oc u)(d:Nat):SE g od oa ol oc (u.at d):=⟨h.hod,h.t.at d,h.b.at d⟩
theorem SE.lo(h:SE g od oa ol oc u):Z1 u ⟨od,0,none⟩ (.slice oa ol oc):=by obtain⟨c,e,h1,h2⟩:=h.hod;exact⟨⟨c,e,h1,h2⟩,rfl⟩
theorem SE.co(h:SE g od oa ol oc u):u.cell? ⟨od,0,none⟩=some (.slice oa ol oc):=h.lo.c
theorem SE.zo(h:SE g od oa ol oc u):u.frozen? ⟨od,0,none⟩=false:=h.lo.z
theorem SE.ct(h:SE g od oa ol oc u):u.cell? ⟨g.tv,0,none⟩=some (vP g.tb 0):=h.t.c
theorem SE.zt(h:SE g od oa ol oc u):u.frozen? ⟨g.tv,0,none⟩=false:=h.t.z
theorem SE.cb(h:SE g od oa ol oc u):u.cell? ⟨g.tb,2,none⟩=some (g.bl):=h.b.c
theorem SE.zb(h:SE g od oa ol oc u):u.frozen? ⟨g.tb,2,none⟩=false:=h.b.z
end
abbrev F0:Fz:=fun _=>none
theorem x0G{v:y4}{st:Bool}{oa:Option Addr}{ol oc:Nat}(hs:SE g v.od oa ol oc w){A:Array Value}(hA:G0 129 A (M7 g v st g.n)){c:Frame}{cs:List Frame}{main:Bool}{Stop:Goroutine→World→Prop}
 (h:J0 Tryd.prog main F0 Stop (G (c.finish (.tuple #[.slice oa ol oc,.bool st,g.bl])) cs) w):J0 Tryd.prog main F0 Stop (G (bA 54 A [.code R8]) (c::cs)) w:=by
 obtain⟨s,rfl,h7,h107,h108,h109,h5,h6,h8,h9,h10,h11,_⟩:=Y3 X7 hA
 simp only[X7,h7,h107,h108,h109,h5,h6,h8,h9,h10,h11]
 clear h7 h107 h108 h109 h5 h6 h8 h9 h10 h11
 have hS:∀u d,SE g v.od oa ol oc u→SE g v.od oa ol oc (World.at u d):=fun u d h=>h.at d
 refine ogV e03 .ret ?_
 rw[y0c]
 refine O7 (SE g v.od oa ol oc) (last:=8) S3 (z8 (by kernel_rfl)) (by decide) ?_
 simp only[oC,e03,pC,X0,Tryd.f54,Option.getD_some,List.size_toArray,List.length_cons,List.length_nil,Nat.reduceAdd,Nat.zero_add,List.range,List.range.loop]
 have hZ:∀a u d,J0 Tryd.prog main F0 Stop (G ((Go.Conc.base 54).at a [.inRegion (oC e03) [8],.code .ret]) (c::cs)) u→J0 Tryd.prog main F0 Stop (G ((Go.Conc.base 54).at a [.inRegion (oC e03) [8],.code .ret]) (c::cs)) (World.at u d):=fun a u d h=>h.at d
 simp only[oC,e03,pC,X0,Tryd.f54,Option.getD_some,List.size_toArray,List.length_cons,List.length_nil,Nat.reduceAdd,Nat.zero_add,List.range,List.range.loop]at hZ
 refine a0t 0 (.slice oa ol oc) (fun u hu=>(And.intro hu.co hu.zo)) hS hs ?_ hZ
 walk_nrm
 refine tkM 1 (.bool st) hS hs ?_ hZ
 walk_nrm
 refine a0t 2 (vP g.tb 0) (fun u hu=>(And.intro hu.ct hu.zt)) hS hs ?_ hZ
 walk_nrm
 refine tkM 3 (vP g.tb 0) hS hs ?_ hZ
 walk_nrm
 refine tkM 4 (vP g.tb 2) hS hs ?_ hZ
 walk_nrm
 refine a0t 5 g.bl (fun u hu=>(And.intro hu.cb hu.zb)) hS hs ?_ hZ
 walk_nrm
 refine i3 (r:=[6]) (by kernel_rfl) (by kernel_rfl) (fun i hi hil=>?_)
 simp only[List.mem_cons,List.not_mem_nil,or_false]at hi
 subst hi
 refine V4 rfl rfl (fun d K' hK'=>?_)
 have co:=(hs.at d).co
 have zo:=(hs.at d).zo
 go_simp
 obtain⟨cc,ee,hh1,hh2⟩:=(hs.at d).hod
 rw[h05 hh1 hh2]
 refine hK' _ _ ⟨⟨⟨0,V3.refl _ _⟩,fun e he=>by(have hm:=mem_listed he;clear he hK';simp[go_sem,storedEv,co,zo]at hm;subst hm;exact U0 _ _ (O9 rfl))⟩,hs.at d,?_⟩
 clear hK' K' co zo
 refine Y2 hS hZ _ _ _ _ ?_ d
 refine tkM 7 (.bool st) hS hs ?_ hZ
 walk_nrm
 refine P5 (by kernel_rfl) ?_ _
 refine oT ?_
 refine ogE<|ogX ?_
 refine p4 (fn:=Tryd.f54) (v:=.tuple #[.slice oa ol oc,.bool st,g.bl]) rfl rfl Tryd.func54 (fun d=>?_) (fun d e he=>?_) h
 ·have co:=(hs.at d).co
  simp[results,Tryd.f54,go_sem,co]
 ·have co:=(hs.at d).co
  have zo:=(hs.at d).zo
  simp[results,Tryd.f54,go_sem,co,zo]at he
  subst he
  exact I1 _ _
end
section
open Go.ConcN (sumTo upd sumTo_upd upd_ne upd_same)
variable{F:Fz}{w w':World}
theorem u0d(w:World)(M n:Nat):(c0W w M n).heap.size=w.heap.size+3:=by simp[c0W]
theorem D0H(w:World)(M n:Nat):(c0W w M n).heap[w.heap.size]? =some (.cells #[vI M] 3):=by
 unfold c0W
 rw[D0 _ _ (by simp;omega),D0 _ _ (by simp)]
 exact heap_alloc_new _ _
theorem D0I(w:World)(M n:Nat):(c0W w M n).heap[w.heap.size+1]? =some (.cells #[.slice none 0 0] 24):=by
 unfold c0W
 rw[D0 _ _ (by simp)]
 simpa using heap_alloc_new (w.alloc (.cells #[vI M] 3)) (.cells #[.slice none 0 0] 24)
theorem F0f(w:World)(M n:Nat):(c0W w M n).heap[w.heap.size+2]? =some (.cells #[vI n] 3):=by
 unfold c0W
 simpa using heap_alloc_new ((w.alloc (.cells #[vI M] 3)).alloc (.cells #[.slice none 0 0] 24)) (.cells #[vI n] 3)
theorem Wf.of_old{nn:Nat}(hU:i2 F nn)(h:Wf F w)(ho:∀r,r<nn→w'.heap[r]? =w.heap[r]?):Wf F w':=by
 constructor
 intro r z hz
 obtain⟨c,e,z0,h1,h2⟩:=h.own r z hz
 exact⟨c,e,z0,(ho r (hU r z hz)).trans h1,h2⟩
theorem p0G{An:G3}(hAb:An.b≤w.heap.size)(hU:i2 F w.heap.size)(hwf:Wf F w){ta:Option Addr}{tl tc M:Nat}{sch:Value}{m:Int}(htl:tl≤64)(hM:min (max m 0) 1048576=(M:Int)){cs:List Frame}{main:Bool}{Stop:Goroutine→World→Prop}
 (h:∀(g:M1) (v:y4) (w':World) (A:Array Value),g.an=An→g.n=tl→Made w.heap.size M g v w'→G0 129 A (E5 g v (.slice ta tl tc) sch 0)→J0 Tryd.prog main F Stop (G (bA 54 A [.code p5,.inLoop p5,.inBlock 2,.code I7]) cs) w'):
 J0 Tryd.prog main F Stop (G (Frame.enter Tryd.prog 54 #[.slice ta tl tc,sch,vI m] .normal) cs) w:=by
 refine B0I hU (Nat.le_refl _) htl hM fun A hA=>?_
 have hsz:=u0d w M tl
 have hmo:=D0H w M tl
 have hod:=D0I w M tl
 have hnb:=F0f w M tl
 have hwf0:Wf F (c0W w M tl):=hwf.of_old hU fun r hr=>by
  unfold c0W
  rw[D0 _ _ (by simp;omega),D0 _ _ (by simp;omega),D0 _ _ hr]
 have hsn:SN w.heap.size (w.heap.size+2) tl (c0W w M tl):=⟨by omega,by omega,by simp[World.cell?,hnb],by simp[World.frozen?,hnb]⟩
 generalize c0W w M tl=W0 at*
 rw[C0k]
 refine M0 rfl (fun d=>stepG_seq) (J0.at ?_ W0.drawn)
 refine B0J (k:=[.code p01]) hU htl hsn hA fun w1 tv tb bk br A h3 hA=>?_
 have hnb1:=(h3.old _ (by omega)).trans hnb
 have hS0:a0M F w.heap.size tl tv tb bk br w.heap.size (w.heap.size+1) (w.heap.size+2) M (.slice none 0 0) [] w1:=by
  have hl:=h3.low
  refine⟨⟨by have:=h3.size;omega,hwf0.of_old hU fun r hr=>h3.old r (by omega),h3.htv,h3.htb⟩,World.ownsRow_nil _ _ _ _,by simp,by simp,by simp,⟨h3.hbk,by omega,by simp⟩,⟨h3.hbr,by omega⟩,⟨(h3.old _ (by omega)).trans hmo,Nat.le_refl _⟩,⟨(h3.old _ (by omega)).trans hod,by omega⟩,⟨hnb1,by omega⟩,by omega,by omega⟩
 refine B0S (n:=tl) (nb:=w.heap.size+2) (by simp[World.cell?,hnb1]) (by simp[World.frozen?,hnb1]) hA fun A hA=>?_
 refine n0M hU htl (fun w2 slv sts A hS hl hA=>?_) tl 0 (by omega) w1 _ [] A hS0 rfl hA
 have hn2:=hS.nbc.1
 refine B0V (n:=tl) (nb:=w.heap.size+2) hU hS.st.top (Q3 hn2) (by simp[World.cell?,hn2]) (by simp[World.frozen?,hn2]) hA fun A hA=>?_
 obtain⟨g,hga,hgn,hgt,hm⟩:=s0C hAb hS hl
 refine h g _ _ A hga hgn hm ?_
 subst hgn
 subst hgt
 exact hA
theorem inb_none{Z:C4}{g:M1}{x:Z.X}{vs:Nat→V5}{s0:Nat}:E7 Z g s0 (fun j=>decide (j<0) && Z.liv x j) vs none x=fun _=>none:=by
 funext j
 unfold E7
 by_cases h:j=0
 ·rw[if_pos h]
 ·rw[if_neg h,if_neg (fun h=>by simp at h)]
def d0X(Z:C4)(n M:Nat)(S:List Int)(x0:Z.X)(t:Z.X×List Nat):Prop:=
 ∃x1,d0h Z n x0 x1∧∃s,Q6 Z n M S (x1,[]) s∧b0Q Z n M s t
theorem o0x{An:G3}{Z:M1→C4}{x0:∀g,(Z g).X}{S:List Int}{ta sa:Option Addr}{tb so sb tl tc sc M:Nat}{m:Int}(htl:tl≤64)(hM:min (max m 0) 1048576=(M:Int))(hSl:S.length<9223372036854775808)
 (zok:∀g,g.n=tl→Fits g→(Z g).Ok g) (hU0:∀(g:M1) (w':World),g.n=tl→w.heap.size≤w'.heap.size→(∀(r:Nat) (o:Obj),w.heap[r]? =some o→w'.heap[r]? =some o)→(Z g).U (x0 g) w')
 (hnw:∀g:M1,g.n=tl→∀j,j<g.n→(Z g).nw (x0 g) j) (hR0:∀(g:M1) (r:Nat),(Z g).R (x0 g) r→r<w.heap.size) (hI0:∀(g:M1) (r:Nat),(Z g).I r≠none→r<w.heap.size∧¬(Z g).R (x0 g) r)
 (hta:0<tl→ta=some ⟨tb,0,none⟩) (hth:∀g,g.n=tl→d0i (Z g) tb 0 ((List.range tl).map fun j=>.func (.func (Z g).fid) #[] ((Z g).cap j)))
 (hsa:0<S.length→sa=some ⟨sb,so,none⟩) (hS:∀g,g.n=tl→d0i (Z g) sb so (S.map fun i:Int=>Value.int .i64 i)) {c:Frame} {cs:List Frame} {Stop:Goroutine→World→Prop}
 (hk:∀g (t:(Z g).X×List Nat) w' oa oc bv,g.n=tl→d0X (Z g) tl M S (x0 g) t→(Z g).U t.1 w'→w'.ownsRow w.heap.size 3 1 (.slice oa t.2.length oc) t.2.length (t.2.map fun i:Nat=>Value.int .i64 i)→(∀y,oa=some y→¬(Z g).R t.1 y.block)→w.heap.size≤w'.heap.size→
   Q4 An Tryd.prog Stop (G (c.finish (.tuple #[.slice oa t.2.length oc,.bool (decide (0<L5 ((Z g).liv t.1) tl)),bv])) cs) w'):
 Q4 An Tryd.prog Stop (G (Frame.enter Tryd.prog 54 #[.slice ta tl tc,.slice sa S.length sc,vI m] .normal) (c::cs)) w:=by
 refine j0Y fun hAn=>?_
 refine Z6 (A:=An) (F:=FT (fun _=>True) w) (Stop:=fun a u=>Gd (FT (fun _=>True) w) w u∧∃(g:M1) (v:y4) (A:Array Value),g.an=An∧g.n=tl∧Made w.heap.size M g v u∧G0 129 A (E5 g v (.slice ta tl tc) (.slice sa S.length sc) 0)∧a=G (bA 54 A [.code p5,.inLoop p5,.inBlock 2,.code I7]) (c::cs))
  (e05 (p0G hAn.low (i0K _ _) (l0A w) htl hM fun g v w' A hga hgn hm hA=>.stop fun d=>⟨g,v,A,hga,hgn,?_,hA,rfl⟩)) fun a w1 hS1=>?_
 ·exact⟨hm.ok,fun a u p=>(hm.lie a u p).at d,hm.top,hm.sln,fun j hj=>(hm.over j hj).at d,fun j hj=>(hm.brk j hj).at d,hm.chans,hm.place,hm.st,hm.br,hm.mo,hm.od,hm.n,hm.lf,hm.low,hm.dn,hm.alone⟩
 obtain⟨hgd,g,v,A,hga,hgn,hm,hA,rfl⟩:=hS1
 subst hga
 have ok:Fits g:=⟨hm.ok⟩
 have zk:=zok g hgn ok
 have hold:∀r o,w.heap[r]? =some o→w1.heap[r]? =some o:=fun r o hr=>(g0Y hgd trivial (Q3 hr)).trans hr
 have hsz:w.heap.size≤w1.heap.size:=hgd.size
 have hn64:g.n≤64:=by omega
 have hM2:M≤1048576:=by omega
 obtain⟨asl,hsln⟩:=hm.sln
 have hR1:∀r,(Z g).R (x0 g) r→r<w.heap.size:=hR0 g
 have hlt:∀r o,w1.heap[r]? =some o→r<w1.heap.size:=fun r o hr=>(Q3 hr)
 let N:Nat→Prop:=fun r=>r<w1.heap.size∧¬(Z g).R (x0 g) r
 have hNn:∀r,w.heap.size≤r→r<w1.heap.size→N r:=fun r h1 h2=>⟨h2,fun h3=>by have:=hR1 r h3;omega⟩
 have HT:TI (Z g) g (fun j=>(decide (j<0) && (Z g).liv (x0 g) j)=true) (fun _=>⟨0,0,0⟩) N (fun j=>decide (j<0) && !(Z g).liv (x0 g) j) (x0 g) w1:=
  ⟨hU0 g w1 hgn hsz hold,fun j hj=>by simpa using hm.over j hj,fun j hj=>⟨false,hm.brk j hj⟩,fun j hj=>by simp at hj,fun c hc=>⟨0,0,(hm.chans c hc).1⟩,fun r hr hn=>hn.2 hr,fun r hr=>hr.1,
   fun a u p=>hNn _ (hm.place a u p) (hm.lie a u p).lt,fun j hj=>hNn _ (hm.st j hj).1 (hm.st j hj).2,fun _=>hNn _ hm.br.1 hm.br.2,fun j hj=>by simp at hj,fun c hc=>hNn _ (hm.chans c hc).2 (hlt _ _ (hm.chans c hc).1),fun j k hj=>by simp at hj,
   fun r hr=>by
    obtain⟨h1,h2⟩:=hI0 g r hr
    exact⟨⟨by omega,h2⟩,fun j hj=>by have:=(hm.st j hj).1;omega,by have:=hm.br.1;omega,fun j hj=>by simp at hj⟩⟩
 have hal:∀b c e,w1.heap[b]? =some (.cells c e (0,0))→e=3∨e=24→w.heap.size≤b→G7 (Z g) g (fun _=>⟨0,0,0⟩) (fun j=>(decide (j<0) && (Z g).liv (x0 g) j)=true) N b:=fun b c e hb he hn=>by
  obtain⟨h1,h2,h3⟩:=hm.alone b c e hb he
  refine⟨hNn _ hn (hlt _ _ hb),h1,h2,h3,fun j hj=>by simp at hj,?_⟩
  cases hI:(Z g).I b with
  | none=>rfl
  | some o=>have:=(hI0 g b (by rw[hI];simp)).1;omega
 have htyp:∀(a b:Nat) (c c':Array Value),w1.heap[a]? =some (Obj.cells c 3 (0,0))→w1.heap[b]? =some (Obj.cells c' 24 (0,0))→a≠b:=by
  rintro a b c c' h1 h2 rfl
  rw[h1]at h2
  cases h2
 have HM:MI (Z g) g (fun _=>⟨0,0,0⟩) (fun j=>(decide (j<0) && (Z g).liv (x0 g) j)=true) N v w.heap.size M none 0 0 [] 0 w1:=
  ⟨⟨⟨_,_,hm.n,rfl⟩,rfl⟩,⟨⟨_,_,hm.mo,rfl⟩,rfl⟩,⟨⟨_,_,hm.lf,rfl⟩,rfl⟩,⟨_,hm.od,rfl⟩,World.ownsRow_nil _ _ _ _,hal _ _ _ hm.n (.inl rfl) hm.low.2.2.1,hal _ _ _ hm.mo (.inl rfl) hm.low.1,hal _ _ _ hm.lf (.inl rfl) hm.low.2.2.2,hal _ _ _ hm.od (.inr rfl) hm.low.2.1,
    fun y hy=>(by cases hy),⟨htyp _ _ _ _ hm.n hm.od,htyp _ _ _ _ hm.mo hm.od,htyp _ _ _ _ hm.lf hm.od,hm.dn.2.1,hm.dn.2.2⟩,fun y hy=>(by cases hy),hsz⟩
 refine r01 (K:=g.K) (Still:=g.Still) (B0:=g.top) (fun l ⟨a,u,_,e⟩=>by subst e;rfl) (fun h=>⟨hm.lie,h⟩) fun _ s0 hs0=>?_
 have hnone:(fun _=>none:Nat→Option Seat)=E7 (Z g) g s0 (fun j=>decide (j<0) && (Z g).liv (x0 g) j) (fun _=>⟨0,0,0⟩) none (x0 g):=inb_none.symm
 rw[hnone]
 have hfin:∀(x:(Z g).X) (u:World) (A:Array Value) (vs:Nat→V5) (N:Nat→Prop) (ms:Option Seat),d0h (Z g) g.n (x0 g) x→TI (Z g) g (fun j=>(decide (j<g.n) && (Z g).liv x j)=true) vs N (fun j=>decide (j<g.n) && !(Z g).liv x j) x u→
  MI (Z g) g vs (fun j=>(decide (j<g.n) && (Z g).liv x j)=true) N v w.heap.size M none 0 0 [] (L5 ((Z g).liv x) g.n) u→g.top≤u.heap.size→G0 129 A (E5 g v (.slice ta tl tc) (.slice sa S.length sc) g.n)→
  e8 Tryd.prog g.K g.Still g.top (o0m g.an Tryd.prog Stop) (E7 (Z g) g s0 (fun j=>decide (j<g.n) && (Z g).liv x j) vs ms x) 0 (s0+g.n) (G (bA 54 A [.code p5,.inLoop p5,.inBlock 2,.code I7]) (c::cs)) u:=by
  intro x u A vs N ms hB HT HM _ hA
  refine g6 _ (fun Stop h=>B0L hA h) fun A d hA=>?_
  have hU2:v7 (Z g) g v w.heap.size M s0 (x,[]) (E7 (Z g) g s0 (fun j=>decide (j<g.n) && (Z g).liv x j) vs ms x) (u.at d):=⟨by simp,vs,N,none,0,ms,rfl,HT.at zk d,HM.at d⟩
  refine o0e (st:=(x,[])) zk hs0 hM2 hn64 hsa (hS g hgn) hSl (fun s Inb u A hs hU hA=>?_) S.length 0 (by omega) (x,[]) _ _ A rfl hU2 hA
  refine k07 zk hs0 hM2 hn64 (M - s.2.length) s (Nat.le_refl _) Inb u A (fun t Inb u A hr hU hA=>?_) hU hA
  refine r0x zk hs0 hn64 hsln (s:=t) (fun u A vs N oa oc ov HT HM hK hA=>?_) hU hA
  have hse:SE g v.od oa t.2.length oc u:=⟨by obtain⟨cc,h1,h2⟩:=HM.od;exact⟨cc,_,h1,h2⟩,hK _ _ .tv,hK _ _ .broken⟩
  refine Z6 (F:=F0) (Stop:=fun a w2=>a=G (c.finish (.tuple #[.slice oa t.2.length oc,.bool (decide (0<L5 ((Z g).liv t.1) g.n)),g.bl])) cs∧∃d,w2=u.at d) (x0G hse hA (.stop fun d=>⟨rfl,d,rfl⟩)) fun a w2 ⟨ha,d2,hw2⟩=>?_
  subst ha
  subst hw2
  have hrel:d0X (Z g) tl M S (x0 g) t:=⟨x,hgn ▸ hB,s,hgn ▸ hs,hgn ▸ hr⟩
  have:=hk g t (u.at d2) oa oc g.bl hgn hrel (HT.at zk d2).u HM.row (fun y hy hR=>HT.apart _ hR (HM.arow y hy).n) HM.base
  rw[← hgn]at this
  exact this
 by_cases h0:g.n=0
 ·have e0:(fun j=>decide (j<0) && (Z g).liv (x0 g) j)=fun j=>decide (j<g.n) && (Z g).liv (x0 g) j:=by rw[h0]
  have e1:(fun j=>(decide (j<0) && (Z g).liv (x0 g) j)=true)=fun j=>(decide (j<g.n) && (Z g).liv (x0 g) j)=true:=by rw[h0]
  have e2:(fun j=>decide (j<0) && !(Z g).liv (x0 g) j)=fun j=>decide (j<g.n) && !(Z g).liv (x0 g) j:=by rw[h0]
  rw[e1,e2]at HT
  rw[e1]at HM
  rw[e0]
  have e3:s0=s0+g.n:=by omega
  have e4:L5 ((Z g).liv (x0 g)) g.n=0:=by rw[h0];rfl
  have:=hfin (x0 g) w1 A _ N none (by rw[h0];rfl) HT (by rw[e4];exact HM) hm.top (by rw[h0];exact hA)
  rw[← e3]at this
  exact this
 ·obtain rfl:=hta (by omega)
  refine k06 zk hs0 hn64 (hnw g hgn) (tl:=tl) (tc:=tc) (sch:=.slice sa S.length sc) (x0:=x0 g) (by omega) (by rw[hgn];exact hth g hgn) hfin g.n 0 (by omega) (x0 g) w1 A _ N none rfl HT HM hm.top hA
end
section
variable{P:Program}{F:Fz}{w w':World}
section
variable{main:Bool}{b:Frame}{a:Act}{kk:List Item}{cs:List Frame}{ops:Array Oper}{i:Nat}{rest:List Nat}{o:Oper}{Stop:Goroutine→World→Prop}{f:FuncId}{fn:Func}{ats:Array TypeId}
theorem d03{v:Value}(ho:ops[i]? =some o)(hw:Region.wanted o (yielded ops a.tmps)=true)(hk:b.kind≠.early)(hr:∀d,(execOp a.eval o).run P (w.at d)= .ok (.value v) (w'.at d))
 (hg:∀d,∃j,V3 F (w.at d) (w'.at d) j) (he:∀d,∀e∈(execOp a.eval o).events P (w.at d) #[],J9 F e) (h:J0 P main F Stop (G (b.at (a.put o.dst v) (.inRegion ops rest::kk)) cs) w'):
 J0 P main F Stop (G (b.at a (.inRegion ops (i::rest)::kk)) cs) w:=
 .step rfl fun d=>⟨_,_,_,stepG_value ho hw hk (hr d),⟨hg d,fun e hm=>he d e (mem_listed hm)⟩,h.at d⟩
theorem d0Y{args:Array Operand}{vs:Array Value}(hop:o.op= .call {callee:=.value (.func f),args:=args,argTypes:=ats})(hx:args.map a.eval=vs):execOp a.eval o=callFunc f vs:=by
 have ef:a.eval (.func f)= .func (.func f) #[] #[]:=rfl
 unfold execOp
 subst hx
 simp[hop,resolve,Deferred.ofValue,invoke,ef]
theorem c0s(f:FuncId):J9 F ⟨.mark (.extern f),false,true⟩:=⟨fun h=>by simp at h,fun m h=>by cases h;exact .inr ⟨f,rfl⟩⟩
end
end
noncomputable section
variable {cs:List Frame}{main:Bool}{Stop:Goroutine→World→Prop}
section
variable{P:Program}{F:Fz}{w w':World}{main:Bool}{b:Frame}{a:Act}{kk:List Item}{cs:List Frame}{ops:Array Oper}{i:Nat}{rest:List Nat}{o:Oper}{Stop:Goroutine→World→Prop}{f:FuncId}{fn:Func}{ats:Array TypeId}{k:IntKind}
theorem h0f{x:Operand}(ho:ops[i]? =some o)(hw:Region.wanted o (yielded ops a.tmps)=true)(hk:b.kind≠.early)(hop:o.op= .call {callee:=.value (.func f),args:= #[x],argTypes:=ats})
 (hf : P.funcs[f]? = some fn) (hname : (fn.name == "runtime.NumGoroutine") = false) (hb : fn.body.isNone = true) (hn : Extern.findNext fn = none)
 (he:Extern.find fn=some (Extern.Atomic.loadT (.int k))) {ad:Addr} {v:Int} (hx:a.eval x= .pointer (some ad)) (hc:w.cell? ad=some (.int k v))
 (h:J0 P main F Stop (G (b.at (a.put o.dst (.int k v)) (.inRegion ops rest::kk)) cs) w):J0 P main F Stop (G (b.at a (.inRegion ops (i::rest)::kk)) cs) w:=by
 have e1:execOp a.eval o=callFunc f #[.pointer (some ad)]:=d0Y hop (by simp[hx])
 refine d03 (w':=w) ho hw hk (fun d=>?_) (fun d=>⟨0,V3.refl _ _⟩) (fun d e hm=>?_) h
 ·have hc':(w.at d).cell? ad=some (.int k v):=hc
  rw[e1,run_callFunc_extern hf hname hb hn he]
  change(Sem.run P (do Extern.Atomic.read (.int k) (← asAddr (.pointer (some ad)))) (w.at d)).andThen _=_
  simp[Extern.Atomic.read,asAddr,hc',Result.andThen]
 ·have hc':(w.at d).cell? ad=some (.int k v):=hc
  rw[e1,events_callFunc_extern hf hname hb hn he]at hm
  change e∈Sem.events P (do Extern.Atomic.read (.int k) (← asAddr (.pointer (some ad)))) (w.at d) _ at hm
  simp[Extern.Atomic.read,asAddr,hc',events_load]at hm
  rcases hm with rfl|rfl
  ·exact c0s f
  ·exact I1 _ _
theorem i00{x y z:Operand}(ho:ops[i]? =some o)(hw:Region.wanted o (yielded ops a.tmps)=true)(hk:b.kind≠.early)(hop:o.op= .call {callee:=.value (.func f),args:= #[x,y,z],argTypes:=ats})
 (hf : P.funcs[f]? = some fn) (hname : (fn.name == "runtime.NumGoroutine") = false) (hb : fn.body.isNone = true) (hn : Extern.findNext fn = none)
 (he:Extern.find fn=some (Extern.Atomic.casT (.int k))) {ad:Addr} {v u n:Int} {t:Bool} (ht:(v == u)=t) (hs:ad.spot=none) (hx:a.eval x= .pointer (some ad)) (hy:a.eval y= .int k u) (hz:a.eval z= .int k n) (hc:w.cell? ad=some (.int k v)) (hfz:w.frozen? ad=false) (hnh:¬held F ad)
 (h:J0 P main F Stop (G (b.at (a.put o.dst (.bool t)) (.inRegion ops rest::kk)) cs) (if t then w.setCell ad (.int k n)else w)):J0 P main F Stop (G (b.at a (.inRegion ops (i::rest)::kk)) cs) w:=by
 have e1:execOp a.eval o=callFunc f #[.pointer (some ad),.int k u,.int k n]:=d0Y hop (by simp[hx,hy,hz])
 refine d03 (w':=if t then w.setCell ad (.int k n)else w) ho hw hk (fun d=>?_) (fun d=>?_) (fun d e hm=>?_) h
 ·have hc':(w.at d).cell? ad=some (.int k v):=hc
  have hz':(w.at d).frozen? ad=false:=hfz
  rw[e1,run_callFunc_extern hf hname hb hn he]
  change(Sem.run P (do
   let a' ← asAddr (.pointer (some ad))
   if ← Extern.Atomic.touchesFrozen a' then unsupported (.unsafePointer "a write to bytes that a string shares")
   let eq ← match Extern.Atomic.T.int k,← Extern.Atomic.read (.int k) a',Value.int k u with
    | _,.int _ x,.int _ y=>pure (x == y)
    | .ptr,.pointer x,.pointer y=>samePointer x y
    | .int _,.pointer (some _),.int _ 0| .int _,.int _ 0,.pointer (some _)=>pure false
    | .int _,.pointer (some _),_| .int _,_,.pointer (some _)=>unsupported .addressObserved
    | _, _, _ => stuck "atomic.CompareAndSwap: old is no T"
   if eq then store a' (.int k n) .atomic
   pure (Value.bool eq)) (w.at d)).andThen _=_
  have hv:if t=true then v=u else ¬v=u:=by cases t<;>simpa using ht
  cases t<;>simp only[if_true,Bool.false_eq_true,if_false]at hv<;>simp[Extern.Atomic.touchesFrozen,Extern.Atomic.read,asAddr,viewAt,World.shape?_isSome_of_cell? hc',hc',hz',hv,run_store P (w.at d) ad (.int k n) .atomic rfl,Result.andThen,setCell_at']
 ·cases t
  ·exact⟨0,V3.refl _ _⟩
  ·exact⟨0,by simpa [setCell_at']using E0 (w:=w.at d) hs hnh (.int k n)⟩
 ·have hc':(w.at d).cell? ad=some (.int k v):=hc
  have hz':(w.at d).frozen? ad=false:=hfz
  rw[e1,events_callFunc_extern hf hname hb hn he]at hm
  change e∈Sem.events P (do
   let a' ← asAddr (.pointer (some ad))
   if ← Extern.Atomic.touchesFrozen a' then unsupported (.unsafePointer "a write to bytes that a string shares")
   let eq ← match Extern.Atomic.T.int k,← Extern.Atomic.read (.int k) a',Value.int k u with
    | _,.int _ x,.int _ y=>pure (x == y)
    | .ptr,.pointer x,.pointer y=>samePointer x y
    | .int _,.pointer (some _),.int _ 0| .int _,.int _ 0,.pointer (some _)=>pure false
    | .int _,.pointer (some _),_| .int _,_,.pointer (some _)=>unsupported .addressObserved
    | _, _, _ => stuck "atomic.CompareAndSwap: old is no T"
   if eq then store a' (.int k n) .atomic
   pure (Value.bool eq)) (w.at d) _ at hm
  have hv:if t=true then v=u else ¬v=u:=by cases t<;>simpa using ht
  cases t<;>simp only[if_true,Bool.false_eq_true,if_false]at hv<;>simp[Extern.Atomic.touchesFrozen,Extern.Atomic.read,asAddr,viewAt,World.shape?_isSome_of_cell? hc',hc',hz',hv,events_load,run_store P (w.at d) ad (.int k n) .atomic rfl,events_store P (w.at d) _ ad (.int k n) .atomic rfl]at hm
  ·rcases hm with rfl|rfl
   ·exact c0s f
   ·exact I1 _ _
  ·rcases hm with rfl|rfl|rfl
   ·exact c0s f
   ·exact I1 _ _
   ·exact U0 _ _ hnh
end
variable{F:Fz}{w:World}
def a0L:Code:=Tryd.f48.body.getD .skip
def x0F:=pC [] a0L
def l05:=pC [zt] a0L
def t0r:=pC [zf] a0L
def g0S:=pC [zf,zt] a0L
theorem v0I:g0S= .region 1 (oC g0S) false:=by kernel_rfl
theorem g0G(args:Array Value):Frame.enter Tryd.prog 48 args .normal=(Go.Conc.base 48).at {tmps:=args++Array.replicate (6 - args.size) undef,defers:=[]} [.code x0F]:=enter_at args Tryd.func48 rfl
theorem j04:O1 48:=G2 Tryd.func48 rfl rfl
def b0G:Code:=Tryd.f49.body.getD .skip
def v03:=pC [] b0G
def r0L:=pC [zt] b0G
def v04:=pC [zf] b0G
def r0M:=pC [zf,zt] b0G
theorem m0n(args:Array Value):Frame.enter Tryd.prog 49 args .normal=(Go.Conc.base 49).at {tmps:=args++Array.replicate (7 - args.size) undef,defers:=[]} [.code v03]:=enter_at args Tryd.func49 rfl
theorem j05:O1 49:=G2 Tryd.func49 rfl rfl
def b0C:Code:=Tryd.f61.body.getD .skip
def v01:=pC [] b0C
def r0J:=pC [zt] b0C
def v02:=pC [zf] b0C
def r0K:=pC [zf,zt] b0C
theorem m0m(args:Array Value):Frame.enter Tryd.prog 61 args .normal=(Go.Conc.base 61).at {tmps:=args++Array.replicate (13 - args.size) undef,defers:=[]} [.code v01]:=enter_at args Tryd.func61 rfl
theorem L3:O1 61:=G2 Tryd.func61 rfl rfl
theorem j0u:O1 87:=G2 Tryd.func87 rfl rfl
theorem m03 (a : Addr) (w : World) : (callMethod (.iface 138 (.pointer (some a))) "Step" #[]).run Tryd.prog w = .ok (.enter 87 #[.pointer (some a)]) w := by kernel_rfl
theorem j00 (a : Addr) (w : World) (es : Array Event) : (callMethod (.iface 138 (.pointer (some a))) "Step" #[]).events Tryd.prog w es = es := by kernel_rfl
@[go_sem] theorem B0s(t:TypeId)(v:Value)(w:World)(es:Array Event):(binOp .neq 106 (.iface t v) .nilIface).events Tryd.prog w es=es:=by kernel_rfl
structure StK where
 t:TypeId
 f:FuncId
 cb:O1 f
 run : ∀ a w, (callMethod (.iface t (.pointer (some a))) "Step" #[]).run Tryd.prog w = .ok (.enter f #[.pointer (some a)]) w
 ev : ∀ a w es, (callMethod (.iface t (.pointer (some a))) "Step" #[]).events Tryd.prog w es = es
def stK:StK:=⟨138,87,j0u,m03,j00⟩
def f0N(K:StK)(sa:Addr):Frame:=(Go.Conc.base 48).at ⟨#[.iface K.t (.pointer (some sa)),undef,.iface K.t (.pointer (some sa)),.bool true,.iface K.t (.pointer (some sa)),undef],[]⟩ [.inRegion (oC g0S) [1]]
theorem M2{K:StK}{sa:Addr}(h:J0 Tryd.prog main F Stop (G (Frame.enter Tryd.prog K.f #[.pointer (some sa)] .normal) (f0N K sa::cs)) w):
 J0 Tryd.prog main F Stop (G (Frame.enter Tryd.prog 48 #[.iface K.t (.pointer (some sa))] .normal) cs) w:=by
 rw[g0G]
 walk_nrm
 refine ogW l05 t0r ?_
 simp only[oC,l05,pC,a0L,Tryd.f48,Option.getD_some,List.size_toArray,List.length_cons,List.length_nil,Nat.reduceAdd,Nat.zero_add,List.range,List.range.loop]
 iterate 2 refine oT ?_
 refine ogE<|ogYn g0S ?_
 rw[v0I]
 refine ogR ?_
 simp only[oC,g0S,pC,a0L,Tryd.f48,Option.getD_some,List.size_toArray,List.length_cons,List.length_nil,Nat.reduceAdd,Nat.zero_add,List.range,List.range.loop]
 refine oT ?_
 refine Y7 (f:=K.f) (args:= #[.pointer (some sa)]) rfl rfl (by decide) (fun w=>by simp[execOp,Act.eval,resolve,invoke,Deferred.ofValue,K.cb.run,K.run]) (fun w=>by simp[execOp,Act.eval,resolve,invoke,Deferred.ofValue,K.cb.run,K.cb.quiet,K.run,K.ev]) ?_
 exact h
theorem v4{K:StK}{sa:Addr}{c:Frame}(h:J0 Tryd.prog main F Stop (G (c.finish (.tuple #[])) cs) w):
 J0 Tryd.prog main F Stop (G ((f0N K sa).finish (.tuple #[])) (c::cs)) w:=by
 unfold f0N
 rw[Frame.finish_at]
 simp only[oC,g0S,pC,a0L,Tryd.f48,Option.getD_some,List.size_toArray,List.length_cons,List.length_nil,Nat.reduceAdd,Nat.zero_add,List.range,List.range.loop]
 walk_nrm
 refine ogE ?_
 refine M0 rfl (fun d=>stepG_end) ?_
 refine M0 rfl (fun d=>stepG_leave (fn:=Tryd.f48) (v:=.tuple #[]) rfl rfl Tryd.func48 (by simp[results,Tryd.f48]) (by simp[results,Tryd.f48,go_sem])) ?_
 exact h
theorem a07{ad:Addr}{v:Int}(hc:w.cell? ad=some (.int .u64 v))(hs:ad.spot=none){c:Frame}(h:J0 Tryd.prog main F Stop (G (c.finish (.int .u64 v)) cs) (w)):
 J0 Tryd.prog main F Stop (G (Frame.enter Tryd.prog 49 #[.pointer (some ad)] .normal) (c::cs)) w:=by
 obtain⟨ab,ao,asp⟩:=ad
 simp only at hs
 subst hs
 rw[m0n]
 walk_nrm
 refine ogW r0L v04 ?_
 simp only[oC,r0L,pC,b0G,Tryd.f49,Option.getD_some,List.size_toArray,List.length_cons,List.length_nil,Nat.reduceAdd,Nat.zero_add,List.range,List.range.loop]
 refine oT ?_
 refine ogE<|ogW r0M .ret ?_
 simp only[oC,r0M,pC,b0G,Tryd.f49,Option.getD_some,List.size_toArray,List.length_cons,List.length_nil,Nat.reduceAdd,Nat.zero_add,List.range,List.range.loop]
 iterate 3 refine oT ?_
 refine h0f (k:=.u64) (f:=62) (fn:=Tryd.f62) rfl rfl (by decide) rfl Tryd.func62 rfl rfl rfl rfl rfl hc ?_
 walk_nrm
 refine oT ?_
 refine ogE<|ogX ?_
 refine M0 rfl (fun d=>stepG_leave (fn:=Tryd.f49) (v:=.int .u64 v) rfl rfl Tryd.func49 (by simp[results,Tryd.f49]) (by simp[results,Tryd.f49,go_sem])) ?_
 exact h
theorem c0J{ad:Addr}{v u n:Int}{t:Bool}(ht:(v == u)=t)(hc:w.cell? ad=some (.int .u64 v))(hs:ad.spot=none)(hz:w.frozen? ad=false)(hnh:¬held F ad){c:Frame}(h:J0 Tryd.prog main F Stop (G (c.finish (.bool t)) cs) (if t then w.setCell ad (.int .u64 n)else w)):
 J0 Tryd.prog main F Stop (G (Frame.enter Tryd.prog 61 #[.pointer (some ad),.int .u64 u,.int .u64 n] .normal) (c::cs)) w:=by
 obtain⟨ab,ao,asp⟩:=ad
 simp only at hs
 subst hs
 rw[m0m]
 walk_nrm
 refine ogW r0J v02 ?_
 simp only[oC,r0J,pC,b0C,Tryd.f61,Option.getD_some,List.size_toArray,List.length_cons,List.length_nil,Nat.reduceAdd,Nat.zero_add,List.range,List.range.loop]
 refine oT ?_
 refine ogE<|ogW r0K .ret ?_
 simp only[oC,r0K,pC,b0C,Tryd.f61,Option.getD_some,List.size_toArray,List.length_cons,List.length_nil,Nat.reduceAdd,Nat.zero_add,List.range,List.range.loop]
 iterate 5 refine oT ?_
 refine i00 (k:=.u64) (f:=68) (fn:=Tryd.f68) rfl rfl (by decide) rfl Tryd.func68 rfl rfl rfl rfl ht rfl rfl rfl rfl hc hz hnh ?_
 walk_nrm
 refine oT ?_
 refine ogE<|ogX ?_
 refine M0 rfl (fun d=>stepG_leave (fn:=Tryd.f61) (v:=.bool t) rfl rfl Tryd.func61 (by simp[results,Tryd.f61]) (by simp[results,Tryd.f61,go_sem])) ?_
 exact h
end
section
variable{F:Fz}{w:World}
def d09(w:World)(ab:Nat)(b:Bool)(n:Int):World:=((w.setCell ⟨ab,0,none⟩ (.bool b)).setCell ⟨ab,1,none⟩ (vI n)).setCell ⟨ab,2,none⟩ (.slice none 0 0)
theorem K6{ab:Nat}(h:∀k,¬held F ⟨ab,k,none⟩)(x y z:Value):V3 F w (((w.setCell ⟨ab,0,none⟩ x).setCell ⟨ab,1,none⟩ y).setCell ⟨ab,2,none⟩ z) 0:=
 ((E0 rfl (h 0) x).trans (E0 rfl (h 1) y)).trans (E0 rfl (h 2) z)
structure s9(w:World)(ab:Nat):Prop where
 o:∃x y z,w.heap[ab]? =some (.cells #[x,y,z] 49 (0,0))
theorem s9.c{ab:Nat}(h:s9 w ab):∃x y z,w.cell? ⟨ab,0,none⟩=some x∧w.cell? ⟨ab,1,none⟩=some y∧w.cell? ⟨ab,2,none⟩=some z:=by
 obtain⟨x,y,z,h⟩:=h.o
 exact⟨x,y,z,by simp[World.cell?,h],by simp[World.cell?,h],by simp[World.cell?,h]⟩
theorem s9.z{ab:Nat}(h:s9 w ab)(k:Nat):w.frozen? ⟨ab,k,none⟩=false:=by
 obtain⟨x,y,z,h⟩:=h.o
 simp[World.frozen?,h]
theorem l0k(b:Bool):Tryd.prog.built 49 [(0,.bool b)]=some #[.bool b,vI 0,.slice none 0 0]:=by kernel_rfl
@[go_sem] theorem v0j(b:Bool)(w:World):(Instr.build 49 #[(0,.bool b)]).run Tryd.prog w= .ok (.agg #[.bool b,vI 0,.slice none 0 0]) w:=run_build w _ _ _ (l0k b)
@[go_sem] theorem x0h(b:Bool)(w:World)(es:Array Event):(Instr.build 49 #[(0,.bool b)]).events Tryd.prog w es=es:=l6 w es _ _ _ _ Tryd.underlying49 (l0k b)
theorem i0r(b:Bool)(n:Int):Tryd.prog.built 49 [(0,.bool b),(1,vI n)]=some #[.bool b,vI n,.slice none 0 0]:=by kernel_rfl
@[go_sem] theorem t0H(b:Bool)(n:Int)(w:World):(Instr.build 49 #[(0,.bool b),(1,vI n)]).run Tryd.prog w= .ok (.agg #[.bool b,vI n,.slice none 0 0]) w:=run_build w _ _ _ (i0r b n)
@[go_sem] theorem u0M(b:Bool)(n:Int)(w:World)(es:Array Event):(Instr.build 49 #[(0,.bool b),(1,vI n)]).events Tryd.prog w es=es:=l6 w es _ _ _ _ Tryd.underlying49 (i0r b n)
theorem i0s:Tryd.prog.built 49 []=some #[.bool false,vI 0,.slice none 0 0]:=by kernel_rfl
@[go_sem] theorem t0I(w:World):(Instr.build 49 #[]).run Tryd.prog w= .ok (.agg #[.bool false,vI 0,.slice none 0 0]) w:=run_build w _ _ _ i0s
@[go_sem] theorem u0N(w:World)(es:Array Event):(Instr.build 49 #[]).events Tryd.prog w es=es:=l6 w es _ _ _ _ Tryd.underlying49 i0s
end
noncomputable section
variable {cs:List Frame}{main:Bool}{Stop:Goroutine→World→Prop}
variable{F:Fz}{w:World}
theorem e0L{ab:Nat}(h:∀k,¬held F ⟨ab,k,none⟩)(x y z u:Value):V3 F w ((((w.setCell ⟨ab,0,none⟩ x).setCell ⟨ab,1,none⟩ y).setCell ⟨ab,2,none⟩ z).setCell ⟨ab,3,none⟩ u) 0:=
 (K6 h x y z).trans (E0 rfl (h 3) u)
theorem s0D(X:World)(x y z u x' y' z' u':Value):((((X.alloc (.cells #[x,y,z,u] 44)).setCell ⟨X.heap.size,0,none⟩ x').setCell ⟨X.heap.size,1,none⟩ y').setCell ⟨X.heap.size,2,none⟩ z').setCell ⟨X.heap.size,3,none⟩ u'=X.alloc (.cells #[x',y',z',u'] 44):=by go_simp
@[go_sem] theorem z0J(f:Fn)(x c:Array Value)(w:World)(es:Array Event):(binOp .neq 74 (.func f x c) .nilFunc).events Tryd.prog w es=es:=by kernel_rfl
def s5:Code:=Tryd.f63.body.getD .skip
def E0d:=pC [] s5
def A0g:=pC [zt] s5
def w04:=pC [zf] s5
def w06:=pC [zt] w04
def y9:=pC [zt] w06
def s0a:=pC [zf,zt,zt,zt] s5
def s0b:=pC [zf] y9
def u0D:=pC [zt] s0b
def w07:=pC [zf] s0b
def w05:=pC [zt] w07
def A0n:=pC [zt] w05
def A0h:=pC [zf,zt,zt,zf,zf,zt,zt,zt] s5
def A0o:=pC [zf] A0n
def A0i:=pC [zf,zt,zt,zf,zf,zt,zt,zf,zt] s5
def A0p:=pC [zf] A0o
def A0q:=pC [zt] A0p
def A0j:=pC [zf,zt,zt,zf,zf,zt,zt,zf,zf,zt,zt] s5
def A0e:=pC [zf] A0q
def i0D:=pC [zf,zt,zt,zf,zf,zt,zt,zf,zf,zt,zf,zt] s5
def d0U:=pC [zf,zt,zt,zf,zf,zt,zt,zf,zf,zf] s5
def e0C:=pC [zf,zt,zt,zf,zf,zf] s5
theorem A0c:w04= .block 0 w06:=by kernel_rfl
theorem A0f:w06= .loop y9:=by kernel_rfl
theorem A0d:w05= .block 1 A0n:=by kernel_rfl
theorem A0k:i0D= .region 5 (oC i0D) false:=by kernel_rfl
theorem A0l:d0U= .region 6 (oC d0U) true:=by kernel_rfl
theorem A0m:e0C= .region 7 (oC e0C) false:=by kernel_rfl
theorem o0U(args:Array Value):Frame.enter Tryd.prog 63 args .normal=(Go.Conc.base 63).at {tmps:=args++Array.replicate (33 - args.size) undef,defers:=[]} [.code E0d]:=enter_at args Tryd.func63 rfl
theorem j0s:O1 63:=G2 Tryd.func63 rfl rfl
def dgT(s:Nat→Value):Array Value:= #[s 0,s 1,s 2,s 3,s 4,s 5,s 6,s 7,s 8,s 9,s 10,s 11,s 12,s 13,s 14,s 15,s 16,s 17,s 18,s 19,s 20,s 21,s 22,s 23,s 24,s 25,s 26,s 27,s 28,s 29,s 30,s 31,s 32]
theorem D09{A:Array Value}(h:A.size=33):∃s,A=dgT s:=by
 obtain⟨s,hs,_⟩:=Y4 A h
 exact⟨s,hs⟩
theorem E0a{sv:Value}{ob db ib av:Nat}{oa:Option Addr}{ol oc:Nat}(c1:w.cell? ⟨ob,0,none⟩=some (.slice oa ol oc))(z1:w.frozen? ⟨ob,0,none⟩=false)
 (h:∀A,G0 33 A [(0,sv),(1,vP ob 0),(2,vP db 0),(3,vP ib 0),(4,vP av 0),(9,.slice oa ol oc),(10,vI ol),(11,vI (0:Nat))]→J0 Tryd.prog main F Stop (G (bA 63 A [.code y9,.inLoop y9,.inBlock 0]) cs) w):
 J0 Tryd.prog main F Stop (G (Frame.enter Tryd.prog 63 #[sv,vP ob 0,vP db 0,vP ib 0,vP av 0] .normal) cs) w:=by
 rw[o0U]
 walk_nrm
 refine ogW A0g w04 ?_
 simp only[oC,A0g,pC,s5,Tryd.f63,Option.getD_some,List.size_toArray,List.length_cons,List.length_nil,Nat.reduceAdd,Nat.zero_add,List.range,List.range.loop]
 refine oL ?_
 iterate 2 refine oT ?_
 refine ogE ?_
 rw[A0c]
 refine L7 ?_
 rw[A0f]
 refine ogP ?_
 refine h _ ?_
 exact⟨rfl,rfl,rfl,rfl,rfl,rfl,rfl,rfl,rfl,trivial⟩
theorem E0c{sv:Value}{ob db ib av:Nat}{oa:Option Addr}{ol oc:Nat}{A:Array Value}(hA:G0 33 A [(0,sv),(1,vP ob 0),(2,vP db 0),(3,vP ib 0),(4,vP av 0),(9,.slice oa ol oc),(10,vI ol),(11,vI ol)]){c:Frame}
 (h:J0 Tryd.prog main F Stop (G (c.finish (.tuple #[])) cs) w):
 J0 Tryd.prog main F Stop (G (bA 63 A [.code y9,.inLoop y9,.inBlock 0]) (c::cs)) w:=by
 obtain⟨s,rfl,h0,h1,h2,h3,h4,h9,h10,h11,_⟩:=Y3 dgT hA
 simp only[dgT,h0,h1,h2,h3,h4,h9,h10,h11]
 clear h0 h1 h2 h3 h4 h9 h10 h11
 have hlt:decide ((ol:Int)<(ol:Int))=false:=by simp
 refine ogW s0a s0b ?_
 simp only[oC,s0a,pC,s5,Tryd.f63,Option.getD_some,List.size_toArray,List.length_cons,List.length_nil,Nat.reduceAdd,Nat.zero_add,List.range,List.range.loop]
 refine oT ?_
 refine ogE<|ogV u0D w07<|ogGn (.exit 0) ?_
 refine M0 rfl (fun d=>stepG_exit rfl) ?_
 refine M0 rfl (fun d=>stepG_end) ?_
 refine M0 rfl (fun d=>stepG_leave (fn:=Tryd.f63) (v:=.tuple #[]) rfl rfl Tryd.func63 (by simp[results,Tryd.f63]) (by simp[results,Tryd.f63,go_sem])) ?_
 exact h
theorem E0b{n:Nat}(hU:i2 F n)(hn:n≤w.heap.size){sv:Value}{ob db ib av:Nat}{opb oo ol oc k df:Nat}{i:Nat}{kd a b c0:Int}{first capt:Array Value}(hdf:O1 df)(hkl:k<ol)(hol:ol≤65536)(cd:w.cell? ⟨db,0,none⟩=some (.func (.func df) first capt))(zd:w.frozen? ⟨db,0,none⟩=false)(ci:w.cell? ⟨ib,0,none⟩=some (vI i))(zi:w.frozen? ⟨ib,0,none⟩=false)(ld:db<w.heap.size)(li:ib<w.heap.size)(f0:w.cell? ⟨opb,oo+k*4,none⟩=some (vI kd))(f1:w.cell? ⟨opb,oo+k*4+1,none⟩=some (vI a))(f2:w.cell? ⟨opb,oo+k*4+2,none⟩=some (vI b))(f3:w.cell? ⟨opb,oo+k*4+3,none⟩=some (vI c0))(g0:w.frozen? ⟨opb,oo+k*4,none⟩=false)(g1:w.frozen? ⟨opb,oo+k*4+1,none⟩=false)(g2:w.frozen? ⟨opb,oo+k*4+2,none⟩=false)(g3:w.frozen? ⟨opb,oo+k*4+3,none⟩=false){A:Array Value}(hA:G0 33 A [(0,sv),(1,vP ob 0),(2,vP db 0),(3,vP ib 0),(4,vP av 0),(9,vL opb oo ol oc),(10,vI ol),(11,vI k)])
 (h:∀A,G0 33 A [(0,sv),(1,vP ob 0),(2,vP db 0),(3,vP ib 0),(4,vP av 0),(7,vP w.heap.size 0),(8,vP (w.heap.size+1) 0),(9,vL opb oo ol oc),(10,vI ol),(11,vI k)]→J0 Tryd.prog main F Stop (G (Frame.enter Tryd.prog df (first++ #[sv,vI i,.agg #[vI kd,vI a,vI b,vI c0]]++capt) .normal) ((bA 63 A [.inRegion (oC i0D) [4,5],.code d0U,.inBlock 1,.code e0C,.inLoop y9,.inBlock 0])::cs)) ((w.alloc (.cells #[vI kd,vI a,vI b,vI c0] 44)).alloc (.cells #[.bool false,vI 0,.slice none 0 0] 49))):
 J0 Tryd.prog main F Stop (G (bA 63 A [.code y9,.inLoop y9,.inBlock 0]) cs) w:=by
 obtain⟨s,rfl,h0,h1,h2,h3,h4,h9,h10,h11,_⟩:=Y3 dgT hA
 simp only[dgT,h0,h1,h2,h3,h4,h9,h10,h11]
 clear h0 h1 h2 h3 h4 h9 h10 h11
 have hlt:decide ((k:Int)<(ol:Int))=true:=by simp;omega
 have hlt2:decide (k<ol)=true:=by simp;omega
 refine ogW s0a s0b ?_
 simp only[oC,s0a,pC,s5,Tryd.f63,Option.getD_some,List.size_toArray,List.length_cons,List.length_nil,Nat.reduceAdd,Nat.zero_add,List.range,List.range.loop]
 refine oT ?_
 refine ogE<|ogV u0D w07<|ogYn .skip<|ogK<|ogV w05 e0C ?_
 rw[A0d]
 refine L7<|ogW A0h A0o ?_
 simp only[oC,A0h,pC,s5,Tryd.f63,Option.getD_some,List.size_toArray,List.length_cons,List.length_nil,Nat.reduceAdd,Nat.zero_add,List.range,List.range.loop]
 refine oX ?_
 (refine oW fun dd K hK=>?_;go_simp;refine hK _ _ ⟨⟨⟨0,V3.refl _ _⟩,fun e he=>by(have hm:=mem_listed he;clear he hK;simp[go_sem,f0,f1,f2,f3,g0,g1,g2,g3]at hm;rcases hm with rfl|rfl|rfl|rfl<;>exact I1 _ _)⟩,J0.at ?_ dd⟩;clear hK K)
 refine oA hU ?_
 (refine oW fun dd K hK=>?_;go_simp;refine hK _ _ ⟨⟨⟨0,e0L (fun k=>O4 hU (show n≤w.heap.size by omega)) _ _ _ _⟩,fun e he=>by(have hm:=mem_listed he;clear he hK;simp[go_sem,storedEv]at hm;rcases hm with rfl|rfl|rfl|rfl<;>exact U0 _ _ ((fun k=>O4 hU (show n≤w.heap.size by omega)) _))⟩,?_⟩;clear hK K;simp only[setCell_at'];refine J0.at ?_ dd)
 have e1:=s0D w (vI 0) (vI 0) (vI 0) (vI 0) (vI kd) (vI a) (vI b) (vI c0)
 rw[e1]
 clear e1
 refine ogE<|ogW A0i A0p ?_
 simp only[oC,A0i,pC,s5,Tryd.f63,Option.getD_some,List.size_toArray,List.length_cons,List.length_nil,Nat.reduceAdd,Nat.zero_add,List.range,List.range.loop]
 refine oA hU ?_
 refine ogE<|ogV A0q d0U<|ogW A0j A0e ?_
 simp only[oC,A0j,pC,s5,Tryd.f63,Option.getD_some,List.size_toArray,List.length_cons,List.length_nil,Nat.reduceAdd,Nat.zero_add,List.range,List.range.loop]
 refine oL ?_
 refine oT ?_
 refine ogE<|ogYn i0D ?_
 rw[A0k]
 refine ogR ?_
 simp only[oC,i0D,pC,s5,Tryd.f63,Option.getD_some,List.size_toArray,List.length_cons,List.length_nil,Nat.reduceAdd,Nat.zero_add,List.range,List.range.loop]
 refine oL ?_
 refine oT ?_
 refine oL ?_
 (refine oW fun dd K hK=>?_;go_simp;refine hK _ _ ⟨⟨⟨0,V3.refl _ _⟩,fun e he=>by(have hm:=mem_listed he;clear he hK;simp[go_sem]at hm;rcases hm with rfl|rfl|rfl|rfl<;>exact I1 _ _)⟩,J0.at ?_ dd⟩;clear hK K)
 refine Y7 (f:=df) (args:=first++ #[sv,vI i,.agg #[vI kd,vI a,vI b,vI c0]]++capt) rfl rfl (by decide) (fun w=>by simp[execOp,Act.eval,resolve,invoke,Deferred.ofValue,hdf.run]) (fun w=>by simp[execOp,Act.eval,resolve,invoke,Deferred.ofValue,hdf.run,hdf.quiet]) ?_
 refine h _ ?_
 exact⟨rfl,rfl,rfl,rfl,rfl,rfl,rfl,rfl,rfl,rfl,rfl,trivial⟩
end
section
variable{F:Fz}{w w':World}
theorem v0p:∃i,Tryd.prog.info? 49=some i∧i.zero=some (.agg #[.bool false,vI 0,.slice none 0 0])∧i.size=3∧i.bytes=40:=by
 have h:(Tryd.prog.info? 49).map (fun i=>(i.size,i.bytes))=some (3,40):=by kernel_rfl
 have h0:(Tryd.prog.info? 49).bind (·.zero)=some (.agg #[.bool false,vI 0,.slice none 0 0]):=by kernel_rfl
 obtain⟨i,hi,h1⟩:=Option.map_eq_some_iff.1 h
 rw[hi]at h0
 simp only[Prod.mk.injEq]at h1
 exact⟨i,hi,h0,h1.1,h1.2⟩
theorem e0A(w:World)(x y z:Value)(t:TypeId):∀j u,[x,y,z][j]? =some u→(w.alloc (.cells #[x,y,z] t)).cell? ((⟨w.heap.size,0,none⟩:Addr).add j)=some u:=by
 intro j u h
 have hb:=heap_alloc_new w (.cells #[x,y,z] t)
 have e:(⟨w.heap.size,0,none⟩:Addr).add j=⟨w.heap.size,j,none⟩:=by cases j<;>simp[Addr.add]
 rw[e]
 unfold World.cell?
 simp only
 rw[hb]
 simpa using h
theorem c0U{j r:Nat}(hg:V3 F w w' j)(h:(L1 F w').heap[r]? =(L1 F w).heap[r]?)(hr:r<w.heap.size):w'.heap[r]? =w.heap[r]?:=by
 rw[L4,L4]at h
 obtain⟨o,ho⟩:∃o,w.heap[r]? =some o:=⟨_,Array.getElem?_eq_getElem hr⟩
 rcases hg.objs r o ho with⟨c,e,z,c',rfl,h2,_⟩|h2
 ·rw[ho,h2]at h
  simp only[Option.map_some,J3,Option.some.injEq,Obj.cells.injEq,and_true]at h
  rw[ho,h2,h]
 ·rw[ho,h2]
theorem b07{P:Program}{main:Bool}{F2:Fz}{Stop:Goroutine→World→Prop}{g:Goroutine}(hF:∀a,held F a→held F2 a)(h:J0 P main F2 Stop g w):J0 P main F Stop g w:=by
 induction h with
 | stop h=>exact .stop h
 | step' hr g' w' es hs hg _ ih=>
   exact .step' hr g' w' es hs (fun d=>by
    obtain⟨⟨j,h1⟩,h2⟩:=hg d
    exact⟨⟨j,h1.tape,h1.drawn,h1.os,h1.output,h1.size,h1.objs,fun a ha=>h1.keep a (hF a ha)⟩,fun e he=>⟨fun hw=>by obtain⟨a,e1,e2⟩:=(h2 e he).1 hw;exact⟨a,e1,fun x=>e2 (hF a x)⟩,(h2 e he).2⟩⟩) ih
structure SG(F:Fz)(av ib aa ab n i:Nat)(v x y z:Value)(u:World):Prop where
 wf:Wf F u
 la0:Z1 u ⟨av,0,none⟩ (vL aa 0 n n)
 li0:Z1 u ⟨ib,0,none⟩ (vI i)
 arr:∃c,u.heap[aa]? =some (.cells c 55 (0,0))∧c[i]? =some v
 an:u.heap[ab]? =some (.cells #[x,y,z] 49 (0,0))
section
variable{av ib aa ab n i:Nat}{v x y z:Value}{u:World}
theorem SG.at(h:SG F av ib aa ab n i v x y z u)(d:Nat):SG F av ib aa ab n i v x y z (u.at d):=⟨⟨h.wf.own⟩,h.la0.at d,h.li0.at d,h.arr,h.an⟩
theorem SG.la(h:SG F av ib aa ab n i v x y z u):Z1 u ⟨aa,i,none⟩ v:=by obtain⟨c,h1,h2⟩:=h.arr;exact⟨⟨c,_,h1,h2⟩,rfl⟩
theorem SG.alloc{nn:Nat}(hU:i2 F nn)(ht:nn≤u.heap.size)(h:SG F av ib aa ab n i v x y z u)(o:Obj):SG F av ib aa ab n i v x y z (u.alloc o):=
 ⟨h.wf.of_grew (Y0 hU ht o),h.la0.alloc o,h.li0.alloc o,by obtain⟨c,h1,h2⟩:=h.arr;exact⟨c,(D0 _ _ (Q3 h1)).trans h1,h2⟩,(D0 _ _ (Array.getElem?_eq_some_iff.1 h.an).1).trans h.an⟩
theorem SG.ca(h:SG F av ib aa ab n i v x y z u):u.cell? ⟨av,0,none⟩=some (vL aa 0 n n):=h.la0.c
theorem SG.za(h:SG F av ib aa ab n i v x y z u):u.frozen? ⟨av,0,none⟩=false:=h.la0.z
theorem SG.ci(h:SG F av ib aa ab n i v x y z u):u.cell? ⟨ib,0,none⟩=some (vI i):=h.li0.c
theorem SG.zi(h:SG F av ib aa ab n i v x y z u):u.frozen? ⟨ib,0,none⟩=false:=h.li0.z
theorem SG.cl(h:SG F av ib aa ab n i v x y z u):u.cell? ⟨aa,i,none⟩=some v:=h.la.c
theorem SG.zl(h:SG F av ib aa ab n i v x y z u):u.frozen? ⟨aa,i,none⟩=false:=h.la.z
theorem SG.c0(h:SG F av ib aa ab n i v x y z u):u.cell? ⟨ab,0,none⟩=some x:=by simp[World.cell?,h.an]
theorem SG.c1(h:SG F av ib aa ab n i v x y z u):u.cell? ⟨ab,1,none⟩=some y:=by simp[World.cell?,h.an]
theorem SG.c2(h:SG F av ib aa ab n i v x y z u):u.cell? ⟨ab,2,none⟩=some z:=by simp[World.cell?,h.an]
theorem SG.zz(h:SG F av ib aa ab n i v x y z u)(k:Nat):u.frozen? ⟨ab,k,none⟩=false:=by simp[World.frozen?,h.an]
end
structure b0N(F:Fz)(aa ab i m:Nat)(v x y z:Value)(xs:List Value)(w w':World)(v':Value):Prop where
 wf:Wf F w'
 row:w'.ownsRow 0 49 3 v' (m+1) (xs++[x,y,z])
 arr:∀c,w.heap[aa]? =some (.cells c 55 (0,0))→w'.heap[aa]? =some (.cells (c.setIfInBounds i v') 55 (0,0))
 size:w.heap.size≤w'.heap.size
 own:∀b,Value.ownBlock v'=some b→some b=Value.ownBlock v∨w.heap.size≤b
 old:∀r,r<w.heap.size→r≠aa→some r≠Value.ownBlock v→w'.heap[r]? =w.heap[r]?
theorem z09{sv:Value}{ansb:Bool}{ansn:Int}{la:Option Addr}{ll lc:Nat}{ob db ib av ab k:Nat}{oa:Option Addr}{ol oc:Nat}(ha:s9 w ab)(hnh:∀k,¬held F ⟨ab,k,none⟩){A:Array Value}(hA:G0 33 A [(0,sv),(1,vP ob 0),(2,vP db 0),(3,vP ib 0),(4,vP av 0),(8,vP ab 0),(9,.slice oa ol oc),(10,vI ol),(11,vI k)]){cs:List Frame}{main:Bool}{Stop:Goroutine→World→Prop}
 (h:∀A,G0 33 A [(0,sv),(1,vP ob 0),(2,vP db 0),(3,vP ib 0),(4,vP av 0),(8,vP ab 0),(9,.slice oa ol oc),(10,vI ol),(11,vI k)]→J0 Tryd.prog main F Stop (G (bA 63 A [.code d0U,.inBlock 1,.code e0C,.inLoop y9,.inBlock 0]) cs) (((w.setCell ⟨ab,0,none⟩ (.bool ansb)).setCell ⟨ab,1,none⟩ (vI ansn)).setCell ⟨ab,2,none⟩ (.slice la ll lc))):
 J0 Tryd.prog main F Stop (G ((bA 63 A [.inRegion (oC i0D) [4,5],.code d0U,.inBlock 1,.code e0C,.inLoop y9,.inBlock 0]).finish (.agg #[.bool ansb,vI ansn,.slice la ll lc])) cs) w:=by
 obtain⟨s,rfl,h0,h1,h2,h3,h4,h8,h9,h10,h11,_⟩:=Y3 dgT hA
 simp only[dgT,h0,h1,h2,h3,h4,h8,h9,h10,h11]
 clear h0 h1 h2 h3 h4 h8 h9 h10 h11
 obtain⟨x0,x1,x2,c0,c1,c2⟩:=ha.c
 have z0:=ha.z 0
 have z1:=ha.z 1
 have z2:=ha.z 2
 rw[Frame.finish_at]
 simp only[oC,i0D,pC,s5,Tryd.f63,Option.getD_some,List.size_toArray,List.length_cons,List.length_nil,Nat.reduceAdd,Nat.zero_add,List.range,List.range.loop]
 walk_nrm
 (refine oW fun dd K hK=>?_;go_simp;refine hK _ _ ⟨⟨⟨0,K6 hnh _ _ _⟩,fun e he=>by(have hm:=mem_listed he;clear he hK;simp[go_sem,storedEv,c0,c1,c2,z0,z1,z2]at hm;rcases hm with rfl|rfl|rfl<;>exact U0 _ _ (hnh _))⟩,?_⟩;clear hK K;simp only[setCell_at'];refine J0.at ?_ dd)
 refine ogE ?_
 refine h _ ?_
 exact⟨rfl,rfl,rfl,rfl,rfl,rfl,rfl,rfl,rfl,rfl,trivial⟩
theorem A0a{nn:Nat}(hU:i2 F nn)(htop:nn≤w.heap.size){sv x y z v:Value}{xs:List Value}(hx:x.oneCell'=true∧y.oneCell'=true∧z.oneCell'=true){ob db ib av aa ab n i k m:Nat}{oa:Option Addr}{ol oc:Nat}(hin:i<n)(hm:m<65536)
 (hs:SG F av ib aa ab n i v x y z w) (hrow:w.ownsRow 0 49 3 v m xs) (hFa:F aa=none) (hFv:∀b,Value.ownBlock v=some b→F b=none) (hne:some aa≠Value.ownBlock v∧some ab≠Value.ownBlock v∧some av≠Value.ownBlock v∧some ib≠Value.ownBlock v) (hall:∀r c e z0,w.heap[r]? =some (.cells c e z0)→r≠aa→some r≠Value.ownBlock v→0<c.size→∃z,F r=some z∧z≠(0,0)) {A:Array Value} (hA:G0 33 A [(0,sv),(1,vP ob 0),(2,vP db 0),(3,vP ib 0),(4,vP av 0),(8,vP ab 0),(9,.slice oa ol oc),(10,vI ol),(11,vI k)]) {cs:List Frame} {main:Bool} {Stop:Goroutine→World→Prop} {kk:List Item}
 (h:∀(w':World) (v':Value) (A:Array Value),b0N F aa ab i m v x y z xs w w' v'→G0 33 A [(0,sv),(1,vP ob 0),(2,vP db 0),(3,vP ib 0),(4,vP av 0),(8,vP ab 0),(9,.slice oa ol oc),(10,vI ol),(11,vI k)]→J0 Tryd.prog main F Stop (G (bA 63 A kk) cs) w'):
 J0 Tryd.prog main F Stop (G (bA 63 A (.code d0U::kk)) cs) w:=by
 obtain⟨s,rfl,h0,h1,h2,h3,h4,h8,h9,h10,h11,_⟩:=Y3 dgT hA
 simp only[dgT,h0,h1,h2,h3,h4,h8,h9,h10,h11]
 clear h0 h1 h2 h3 h4 h8 h9 h10 h11
 have hS:∀u d,SG F av ib aa ab n i v x y z u→SG F av ib aa ab n i v x y z (World.at u d):=fun u d h=>h.at d
 rw[A0l]
 refine O7 (SG F av ib aa ab n i v x y z) (last:=10) S3 (z8 (by kernel_rfl)) (by decide) ?_
 simp only[oC,d0U,pC,s5,Tryd.f63,Option.getD_some,List.size_toArray,List.length_cons,List.length_nil,Nat.reduceAdd,Nat.zero_add,List.range,List.range.loop]
 have hZ:∀a u d,J0 Tryd.prog main F Stop (G ((Go.Conc.base 63).at a (.inRegion (oC d0U) [10]::kk)) cs) u→J0 Tryd.prog main F Stop (G ((Go.Conc.base 63).at a (.inRegion (oC d0U) [10]::kk)) cs) (World.at u d):=fun a u d h=>h.at d
 simp only[oC,d0U,pC,s5,Tryd.f63,Option.getD_some,List.size_toArray,List.length_cons,List.length_nil,Nat.reduceAdd,Nat.zero_add,List.range,List.range.loop]at hZ
 refine a0t 0 (vL aa 0 n n) (fun u hu=>(And.intro hu.ca hu.za)) hS hs ?_ hZ
 walk_nrm
 refine a0t 1 (vI i) (fun u hu=>(And.intro hu.ci hu.zi)) hS hs ?_ hZ
 walk_nrm
 refine a0t 2 (vL aa 0 n n) (fun u hu=>(And.intro hu.ca hu.za)) hS hs ?_ hZ
 walk_nrm
 refine a0t 3 (vI i) (fun u hu=>(And.intro hu.ci hu.zi)) hS hs ?_ hZ
 walk_nrm
 refine r0v 4 (vP aa i) (fun u hu=>hin) hS hs ?_ hZ
 walk_nrm
 refine a0t 5 v (fun u hu=>(And.intro hu.cl hu.zl)) hS hs ?_ hZ
 walk_nrm
 refine a0t 6 (.agg #[x,y,z]) (fun u hu=>(And.intro hu.c0 (And.intro hu.c1 (And.intro hu.c2 hu.zz)))) hS hs ?_ hZ
 walk_nrm
 refine i3 (r:=[7]) (by kernel_rfl) (by kernel_rfl) (fun i hi hil=>?_)
 simp only[List.mem_cons,List.not_mem_nil,or_false]at hi
 subst hi
 refine V4 rfl rfl (fun d K' hK'=>?_)
 go_simp
 refine hK' _ _ ⟨⟨⟨0,Y0 hU (show nn≤(w.at d).heap.size from htop) _⟩,fun e he=>by(have hm:=mem_listed he;simp[go_sem]at hm)⟩,(hs.at d).alloc hU (show nn≤(w.at d).heap.size from htop) _,?_⟩
 clear hK' K'
 rw[alloc_at']
 refine Y2 hS hZ _ _ _ _ ?_ d
 have hn4:=e0A w x y z 49
 have hb4:=heap_alloc_new w (.cells #[x,y,z] 49)
 have hW4:∀r,r<w.heap.size→(w.alloc (.cells #[x,y,z] 49)).heap[r]? =w.heap[r]?:=fun r hr=>D0 _ _ hr
 have hsz4:(w.alloc (.cells #[x,y,z] 49)).heap.size=w.heap.size+1:=by simp
 replace hs:=hs.alloc hU htop (.cells #[x,y,z] 49)
 generalize w.alloc (.cells #[x,y,z] 49)=W4 at*
 refine i3 (r:=[8]) (by kernel_rfl) (by kernel_rfl) (fun i hi hil=>?_)
 simp only[List.mem_cons,List.not_mem_nil,or_false]at hi
 subst hi
 obtain⟨i0,hi0,hz0,hz1,hz2⟩:=v0p
 have hFn:∀b,nn≤b→F b=none:=fun b hb=>by
  cases e:F b with
  | none=>rfl
  | some z=>exact absurd (hU b z e) (by omega)
 have hvlt:∀b,Value.ownBlock v=some b→b<w.heap.size:=fun b hb=>(hrow.lt b hb).2
 refine e0Z (S':=fun _=>false) (px:=false) (ready0.shut false) (by simp) rfl rfl rfl hs.wf (fun d=>?_)
 have hrowm:(L1 F (W4.at d)).ownsRow 0 49 3 v m xs:=G1 hrow fun b hb hbn=>by
  rw[I2 (hFv b hb)]
  exact hW4 b (hvlt b hb)
 obtain⟨v',u,hr,hown,hgrow,_⟩:=run_append_own (P:=Tryd.prog) (L1 F (W4.at d)) 0 55 55 49 i0 _ 3 40 Tryd.underlying55 hi0 hz0 hz1 hz2 rfl (by decide) v m xs hrowm ⟨w.heap.size,0,none⟩ 1 1 [x,y,z] rfl
  (fun j u hu=>(l9 _).trans (hn4 j u hu)) (fun q hq=>by simp at hq;rcases hq with rfl|rfl|rfl;exact hx.1;exact hx.2.1;exact hx.2.2) (by unfold maxLen;omega) (by omega) (Nat.zero_le _)
 refine⟨v',u,V6 (.tmp 27) (.tmp 29) 55 rfl rfl rfl hr,fun w' hu hg hwf'=>?_⟩
 subst hu
 obtain⟨jj,hgr⟩:=hg
 have hkeep:∀r,r<w.heap.size+1→some r≠Value.ownBlock v→w'.heap[r]? =W4.heap[r]?:=fun r h2 h3=>by
  have:=hgrow.block r (by rw[M4];show r<W4.heap.size;omega) h3
  have hlt:r<(W4.at d).heap.size:=show r<W4.heap.size by omega
  exact c0U (w:=W4.at d) hgr this hlt
 have g0K:w.heap.size+1≤w'.heap.size:=by
  have:=hgrow.size
  rw[M4,M4]at this
  have h2:(W4.at d).heap.size=w.heap.size+1:=hsz4
  omega
 have hlav:=hs.la0.lt
 have hlib:=hs.li0.lt
 simp only at hlav hlib
 obtain⟨ca,har1,har2⟩:=hs.arr
 have hlaa:=(Q3 har1)
 have hlab:=(Array.getElem?_eq_some_iff.1 hs.an).1
 have hs':SG F av ib aa ab n i v x y z w':=⟨hwf',hs.la0.same (hkeep av (by omega) hne.2.2.1),hs.li0.same (hkeep ib (by omega) hne.2.2.2),⟨ca,(hkeep aa (by omega) hne.1).trans har1,har2⟩,(hkeep ab (by omega) hne.2.1).trans hs.an⟩
 obtain⟨b1,cap1,cur1,rfl,hb1,hb2⟩:=d0M hown
 have hcur:0<cur1.size:=by
  rcases hown.2 with⟨_,h0⟩|⟨g3,cap3,cur3,h0,_,h3,h4,_,h5,_⟩
  ·omega
  ·cases h0
   rw[hb2]at h3
   cases h3
   omega
 have hb3:F b1=none∧w'.heap[b1]? =some (.cells cur1 49 (0,0))∧(some b1=Value.ownBlock v∨w.heap.size≤b1):=by
  by_cases hlt:b1<w.heap.size
  ·by_cases hv:some b1=Value.ownBlock v
   ·have hf:=hFv b1 hv.symm
    exact⟨hf,by rw[I2 hf]at hb2;exact hb2,.inl hv⟩
   ·exfalso
    have hk:=(hkeep b1 (by omega) hv).trans (hW4 b1 hlt)
    rw[L4]at hb2
    obtain⟨o,ho⟩:∃o,w.heap[b1]? =some o:=⟨_,Array.getElem?_eq_getElem hlt⟩
    rw[hk,ho]at hb2
    cases o with
    | cells c e z0=>
      simp only[Option.map_some,J3,Option.some.injEq,Obj.cells.injEq]at hb2
      obtain⟨rfl,rfl,hz⟩:=hb2
      by_cases ha:b1=aa
      ·subst ha
       have h1:=(hW4 b1 hlt).symm.trans har1
       rw[ho]at h1
       simp only[Option.some.injEq,Obj.cells.injEq]at h1
       exact absurd h1.2.1 (by decide)
      ·obtain⟨z,hz1,hz2⟩:=hall b1 _ _ _ ho ha hv hcur
       rw[hz1]at hz
       exact hz2 hz
    | _=>simp[J3]at hb2
  ·have hf:=hFn b1 (by omega)
   exact⟨hf,by rw[I2 hf]at hb2;exact hb2,.inr (by omega)⟩
 obtain⟨hfb,hb3,hb4⟩:=hb3
 have hrow':w'.ownsRow 0 49 3 (vL b1 0 (m+1) cap1) (m+1) (xs++[x,y,z]):=G1 hown fun b hb hbn=>by
  simp only[Value.ownBlock,Option.some.injEq]at hb
  subst hb
  exact(I2 hfb).symm
 have nb1:b1≠aa:=by
  rintro rfl
  have h1:=(hkeep b1 (by omega) hne.1).trans har1
  rw[hb3]at h1
  simp only[Option.some.injEq,Obj.cells.injEq]at h1
  exact absurd h1.2.1 (by decide)
 refine⟨hs',?_⟩
 clear hs
 have hs:=hs'
 walk_nrm
 refine r0v 9 (vP aa i) (fun u hu=>hin) hS hs ?_ hZ
 walk_nrm
 refine P5 (by kernel_rfl) ?_ _
 have cl:=hs'.cl
 have zl:=hs'.zl
 have hnh:¬held F ⟨aa,i,none⟩:=O9 hFa
 clear hZ hS hr hown hgrow hrowm hall
 (refine oW fun dd K hK=>?_;go_simp;refine hK _ _ ⟨⟨⟨0,E0 rfl hnh _⟩,fun e he=>by(have hm:=mem_listed he;clear he hK;simp[go_sem,storedEv,cl,zl]at hm;subst hm;exact U0 _ _ hnh)⟩,?_⟩;clear hK K;rw[setCell_at'];refine J0.at ?_ dd)
 refine ogE ?_
 refine h _ (vL b1 0 (m+1) cap1) _ ?_ ⟨rfl,rfl,rfl,rfl,rfl,rfl,rfl,rfl,rfl,rfl,trivial⟩
 refine⟨hwf'.of_grew (E0 rfl hnh _),G1 hrow' fun b hb _=>o0 _ _ _ (by simp only[Value.ownBlock,Option.some.injEq]at hb;subst hb;exact nb1),fun c hc=>?_,by simp;omega,fun b hb=>by simp only[Value.ownBlock,Option.some.injEq]at hb;subst hb;exact hb4,fun r h1 h2 h3=>?_⟩
 ·have h1:=(hkeep aa (by omega) hne.1).trans (hW4 aa (Q3 hc))
  rw[hc]at h1
  simp[World.setCell,Array.getElem?_modify,h1]
 ·rw[o0 _ _ _ h2,hkeep r (by omega) h3,hW4 r h1]
theorem A0b{sv:Value}{ob db ib av ab k:Nat}{oa:Option Addr}{ol oc:Nat}(hk:k<10000000){A:Array Value}(hA:G0 33 A [(0,sv),(1,vP ob 0),(2,vP db 0),(3,vP ib 0),(4,vP av 0),(8,vP ab 0),(9,.slice oa ol oc),(10,vI ol),(11,vI k)]){cs:List Frame}{main:Bool}{Stop:Goroutine→World→Prop}
 (h:∀A,G0 33 A [(0,sv),(1,vP ob 0),(2,vP db 0),(3,vP ib 0),(4,vP av 0),(9,.slice oa ol oc),(10,vI ol),(11,vI (k+1:Nat))]→J0 Tryd.prog main F Stop (G (bA 63 A [.code y9,.inLoop y9,.inBlock 0]) cs) w):
 J0 Tryd.prog main F Stop (G (bA 63 A [.inBlock 1,.code e0C,.inLoop y9,.inBlock 0]) cs) w:=by
 obtain⟨s,rfl,h0,h1,h2,h3,h4,h8,h9,h10,h11,_⟩:=Y3 dgT hA
 simp only[dgT,h0,h1,h2,h3,h4,h8,h9,h10,h11]
 clear h0 h1 h2 h3 h4 h8 h9 h10 h11
 have hk64:IntKind.i64.wrap ((k:Int)+1)=(k:Int)+1:=IntWalk.i64_in _ (by omega)
 refine ogI ?_
 rw[A0m]
 refine ogR ?_
 simp only[oC,e0C,pC,s5,Tryd.f63,Option.getD_some,List.size_toArray,List.length_cons,List.length_nil,Nat.reduceAdd,Nat.zero_add,List.range,List.range.loop]
 iterate 2 refine oT ?_
 refine ogE<|ogL ?_
 refine h _ ?_
 exact⟨rfl,rfl,rfl,rfl,rfl,rfl,rfl,rfl,rfl,trivial⟩
end
noncomputable section
variable{F:Fz}{w w':World}
open Classical in
def FU(F:Fz)(mine:Nat→Prop)(w:World):Fz:=fun r=>if mine r then none else match w.heap[r]? with
 | some (.cells c _ z)=>some (0,max (max c.size z.2) ((F r).getD (0,0)).2)
 | _=>none
section
variable{mine:Nat→Prop}
theorem d00{r:Nat}(h:mine r):FU F mine w r=none:=if_pos h
theorem e0H{r:Nat}{c:Array Value}{e:TypeId}{z:Nat×Nat}(h:¬mine r)(ho:w.heap[r]? =some (.cells c e z)):FU F mine w r=some (0,max (max c.size z.2) ((F r).getD (0,0)).2):=by
 unfold FU
 rw[if_neg h,ho]
theorem l0B{r:Nat}{z:Nat×Nat}(h:FU F mine w r=some z):¬mine r∧∃c e z0,w.heap[r]? =some (.cells c e z0)∧z=(0,max (max c.size z0.2) ((F r).getD (0,0)).2):=by
 unfold FU at h
 split at h
 ·cases h
 ·rename_i hm
  split at h
  ·rename_i c e z0 ho
   cases h
   exact⟨hm,c,e,z0,ho,rfl⟩
  ·cases h
theorem o06:Wf (FU F mine w) w:=by
 constructor
 intro r z h
 obtain⟨_,c,e,z0,ho,rfl⟩:=l0B h
 exact⟨c,e,z0,ho,fun k h1 h2=>by simp only;omega⟩
theorem o05:i2 (FU F mine w) w.heap.size:=by
 intro r z h
 obtain⟨_,c,e,z0,ho,_⟩:=l0B h
 exact(Q3 ho)
theorem g0Z(hw:Wf F w)(hm:∀r,mine r→F r=none){a:Addr}(h:held F a):held (FU F mine w) a:=by
 obtain⟨z,hz,h1,h2⟩:=h
 obtain⟨c,e,z0,ho,_⟩:=hw.own _ _ hz
 have hn:¬mine a.block:=fun h=>by rw[hm _ h]at hz;cases hz
 refine⟨_,e0H hn ho,Nat.zero_le _,?_⟩
 rw[hz]
 simp only[Option.getD_some]
 omega
theorem d01(hg:Gd (FU F mine w) w w'){r:Nat}(hm:¬mine r)(hr:r<w.heap.size):w'.heap[r]? =w.heap[r]?:=by
 obtain⟨o,ho⟩:∃o,w.heap[r]? =some o:=⟨_,Array.getElem?_eq_getElem hr⟩
 rcases hg.objs r _ ho with⟨c1,e2,z1,c',h1,h2,h3⟩|h2
 ·subst h1
  have:c'=c1:=by
   apply Array.ext h3
   intro j hj1 hj2
   have hh:held (FU F mine w) ⟨r,j,none⟩:=⟨_,e0H hm ho,Nat.zero_le _,by simp only;omega⟩
   have:=hg.keep _ hh
   simp only[World.cell?,h2]at this
   have e3:(w.at w'.drawn).heap[r]? =some (.cells c1 e2 z1):=ho
   rw[e3]at this
   simpa [hj1,hj2]using this
  subst this
  rw[h2,ho]
 ·rw[h2,ho]
end
structure j0K where
 ok:Bool
 n:Int
 la:Option Addr
 ll:Nat
 lc:Nat
def j0K.v(a:j0K):Value:=.agg #[.bool a.ok,vI a.n,.slice a.la a.ll a.lc]
def j0K.cells(a:j0K):List Value:=[.bool a.ok,vI a.n,.slice a.la a.ll a.lc]
structure l8 where
 S:Type
 C:Type
 A:Type
 SU:S→World→Prop
 SR:S→Nat→Prop
 CU:C→World→Prop
 CR:C→Nat→Prop
 AV:A→j0K
 AU:A→World→Prop
 AR:A→Nat→Prop
 cf:Nat→C→List Frame
 df:FuncId
 first:Array Value
 capt:Array Value
 beg:S→Nat→P3→S×(C ⊕ A)→Prop
 stp:S→C→S×(C ⊕ A)→Prop
 J:Nat→S→C→Prop
def Z0(st:Nat):Value:=.iface 138 (vP st 0)
def l8.Out(L:l8)(st:Nat)(s:L.S)(R0:Nat→Prop)(Rel:L.S×(L.C ⊕ L.A)→Prop)(w:World)(cs:List Frame)(a:Goroutine)(w':World):Prop:=
 ∃s' r,Rel (s',r)∧L.SU s' w'∧(∀q,L.SR s' q→L.SR s q∨R0 q∨w.heap.size≤q)∧
  match r with
  | .inl c=>L.J st s' c∧L.CU c w'∧(∀q,L.CR c q→R0 q∨w.heap.size≤q)∧(∀q,L.CR c q→¬L.SR s' q)∧a=G (Frame.enter Tryd.prog 87 #[.pointer (some ⟨st,0,none⟩)] .normal) (L.cf st c++cs)
  | .inr an=>L.AU an w'∧(∀q,L.AR an q→R0 q∨w.heap.size≤q)∧(∀q,L.AR an q→¬L.SR s' q)∧a=back (L.AV an).v cs
structure l8.Ok(L:l8):Prop where
 call:O1 L.df
 jb:∀st s s' c i o r,L.J st s c→L.beg s i o (s',r)→L.J st s' c
 js:∀st s s' c c1 r,L.J st s c→L.stp s c1 (s',r)→L.J st s' c
 plain:∀st c,L.cf st c≠[]∧∀u∈L.cf st c,f0V u
 sS:∀s w w',L.SU s w→w.heap.size≤w'.heap.size→(∀r,L.SR s r→w'.heap[r]? =w.heap[r]?)→L.SU s w'
 sC:∀c w w',L.CU c w→w.heap.size≤w'.heap.size→(∀r,L.CR c r→w'.heap[r]? =w.heap[r]?)→L.CU c w'
 sA:∀a w w',L.AU a w→w.heap.size≤w'.heap.size→(∀r,L.AR a r→w'.heap[r]? =w.heap[r]?)→L.AU a w'
 lS:∀s w r,L.SU s w→L.SR s r→r<w.heap.size
 lC:∀c w r,L.CU c w→L.CR c r→r<w.heap.size
 lA:∀a w r,L.AU a w→L.AR a r→r<w.heap.size
 beg:∀s i o st (F:Fz) (w:World) (c:Frame) (cs:List Frame),L.SU s w→Wf F w→(∀r,L.SR s r→F r=none)→
  J0 Tryd.prog false F (L.Out st s (fun _=>False) (L.beg s i o) w (c::cs)) (G (Frame.enter Tryd.prog L.df (L.first++ #[Z0 st,vI i,o.v]++L.capt) .normal) (c::cs)) w
 stp:∀s c st (F:Fz) (w:World) (b:Frame) (cs:List Frame),L.J st s c→L.SU s w→L.CU c w→(∀q,L.CR c q→¬L.SR s q)→Wf F w→(∀r,L.SR s r∨L.CR c r→F r=none)→
  J0 Tryd.prog false F (L.Out st s (L.CR c) (L.stp s c) w (b::cs)) (back (.tuple #[]) (L.cf st c++b::cs)) w
structure D9(L:l8)where
 k:Nat
 call:Option (L.C×Array Value×Nat)
 ans:List L.A
 row:Value
structure OX(L:l8)where
 s:L.S
 th:Nat→D9 L
structure T9 where
 n:Nat
 aa:Nat
 av:Nat
 db:Nat
 ib:Nat→Nat
 ob:Nat→Nat
 ops:Nat→List P3
 oa:Nat→Option Addr
 oc:Nat→Nat
 I:Nat→Option Obj
def c0l(I:Nat→Option Obj)(w:World):Prop:=∀r o,I r=some o→w.heap[r]? =some o
structure T9.Ok(p:T9)(L:l8):Prop where
 cells:∀r o,p.I r=some o→∃c e z,o= .cells c e z
 len:∀i,i<p.n→(p.ops i).length≤65536
 inI:p.I p.av≠none∧∀i,i<p.n→p.I (p.ib i)≠none
 av:∀w,c0l p.I w→Z1 w ⟨p.av,0,none⟩ (vL p.aa 0 p.n p.n)
 db:∀w,c0l p.I w→Z1 w ⟨p.db,0,none⟩ (.func (.func L.df) L.first L.capt)
 ib:∀w,c0l p.I w→∀i,i<p.n→Z1 w ⟨p.ib i,0,none⟩ (vI i)
 ob:∀w,c0l p.I w→∀i,i<p.n→Z1 w ⟨p.ob i,0,none⟩ (.slice (p.oa i) (p.ops i).length (p.oc i))
 op:∀w,c0l p.I w→∀i,i<p.n→∀k o,(p.ops i)[k]? =some o→∃opb oo,p.oa i=some ⟨opb,oo,none⟩∧
  w.cell? ⟨opb,oo+k*4,none⟩=some (vI o.kd)∧w.cell? ⟨opb,oo+k*4+1,none⟩=some (vI o.a)∧w.cell? ⟨opb,oo+k*4+2,none⟩=some (vI o.b)∧w.cell? ⟨opb,oo+k*4+3,none⟩=some (vI o.c)∧
  w.frozen? ⟨opb,oo+k*4,none⟩=false∧w.frozen? ⟨opb,oo+k*4+1,none⟩=false∧w.frozen? ⟨opb,oo+k*4+2,none⟩=false∧w.frozen? ⟨opb,oo+k*4+3,none⟩=false
variable{L:l8}{p:T9}{g:M1}
def TR(t:D9 L)(r:Nat):Prop:=Value.ownBlock t.row=some r∨(∃a∈t.ans,L.AR a r)∨∃c A ab,t.call=some (c,A,ab)∧(r=ab∨L.CR c r)
def dgS(p:T9)(st i k:Nat):List (Nat×Value):=[(0,Z0 st),(1,vP (p.ob i) 0),(2,vP p.db 0),(3,vP (p.ib i) 0),(4,vP p.av 0),(9,.slice (p.oa i) (p.ops i).length (p.oc i)),(10,vI (p.ops i).length),(11,vI k)]
def m04(p:T9)(st i k ab:Nat):List (Nat×Value):=[(0,Z0 st),(1,vP (p.ob i) 0),(2,vP p.db 0),(3,vP (p.ib i) 0),(4,vP p.av 0),(8,vP ab 0),(9,.slice (p.oa i) (p.ops i).length (p.oc i)),(10,vI (p.ops i).length),(11,vI k)]
structure f0C(L:l8)(p:T9)(st i:Nat)(t:D9 L)(w:World):Prop where
 row:w.ownsRow 0 49 3 t.row t.ans.length ((t.ans.map fun a=>(L.AV a).cells).flatten)
 au:∀a∈t.ans,L.AU a w
 al:t.ans.length=t.k
 kl:t.k≤(p.ops i).length
 ar:∀a∈t.ans,∀r,L.AR a r→some r≠Value.ownBlock t.row
 call:∀c A ab,t.call=some (c,A,ab)→G0 33 A (m04 p st i t.k ab)∧s9 w ab∧L.CU c w∧¬L.CR c ab∧some ab≠Value.ownBlock t.row∧(∀r,L.CR c r→some r≠Value.ownBlock t.row)∧(∀a∈t.ans,∀r,L.AR a r→r≠ab∧¬L.CR c r)∧t.k<(p.ops i).length
structure OU(L:l8)(p:T9)(g:M1)(x:OX L)(w:World):Prop where
 fix:c0l p.I w
 su:L.SU x.s w
 arr:∃c,w.heap[p.aa]? =some (.cells c 55 (0,0))∧c.size=p.n∧∀i,i<p.n→c[i]? =some (x.th i).row
 thr:∀i,i<p.n→f0C L p (g.st i) i (x.th i) w
 ts:∀i,i<p.n→∀r,TR (x.th i) r→¬L.SR x.s r∧r≠p.aa
 sa:¬L.SR x.s p.aa
 jj:∀i,i<p.n→∀c A ab,(x.th i).call=some (c,A,ab)→L.J (g.st i) x.s c
 tt:∀i j,i<p.n→j<p.n→i≠j→∀r,TR (x.th i) r→¬TR (x.th j) r
 inone:∀r,(L.SR x.s r∨r=p.aa∨∃i,i<p.n∧TR (x.th i) r)→p.I r=none
def OR(L:l8)(p:T9)(x:OX L)(r:Nat):Prop:=L.SR x.s r∨r=p.aa∨∃i,i<p.n∧TR (x.th i) r
def i0C(A:Array Value):Frame:=bA 63 A [.inRegion (oC i0D) [4,5],.code d0U,.inBlock 1,.code e0C,.inLoop y9,.inBlock 0]
inductive Adv(L:l8)(p:T9)(i:Nat):L.S×D9 L→L.S×D9 L→Prop
 | done {s:L.S} {t:D9 L}:t.call=none→t.k=(p.ops i).length→Adv L p i (s,t) (s,t)
 | live {s s':L.S} {t:D9 L} {o:P3} {c:L.C} {A:Array Value} {ab:Nat}:(p.ops i)[t.k]? =some o→L.beg s i o (s',.inl c)→Adv L p i (s,t) (s',{t with call:=some (c,A,ab)})
 | imm {s s':L.S} {t:D9 L} {o:P3} {an:L.A} {row:Value} {y:L.S×D9 L}:(p.ops i)[t.k]? =some o→L.beg s i o (s',.inr an)→Adv L p i (s',⟨t.k+1,none,t.ans++[an],row⟩) y→Adv L p i (s,t) y
inductive Stp(L:l8)(p:T9)(i:Nat):L.S×D9 L→L.S×D9 L→Prop
 | live {s s':L.S} {t:D9 L} {c c':L.C} {A:Array Value} {ab:Nat}:t.call=some (c,A,ab)→L.stp s c (s',.inl c')→Stp L p i (s,t) (s',{t with call:=some (c',A,ab)})
 | ans {s s':L.S} {t:D9 L} {c:L.C} {A:Array Value} {ab:Nat} {an:L.A} {row:Value} {y:L.S×D9 L}:t.call=some (c,A,ab)→L.stp s c (s',.inr an)→Adv L p i (s',⟨t.k+1,none,t.ans++[an],row⟩) y→Stp L p i (s,t) y
def U2(L:l8)(p:T9)(g:M1):C4 where
 X:=OX L
 U:=OU L p g
 R:=OR L p
 I:=p.I
 fr:=fun x i=>match(x.th i).call with
  | some (c,A,_)=>L.cf (g.st i) c++[i0C A]
  | none=>[]
 liv:=fun x i=>(x.th i).call.isSome
 stp:=fun x i y=>Stp L p i (x.s,x.th i) (y.s,y.th i)∧∀j,j≠i→y.th j=x.th j
 bor:=fun x i y=>Adv L p i (x.s,x.th i) (y.s,y.th i)∧∀j,j≠i→y.th j=x.th j
 nw:=fun x i=>(x.th i).call=none∧(x.th i).k=0
 fid:=63
 cap:=fun i=> #[vP (p.ob i) 0,vP p.db 0,vP (p.ib i) 0,vP p.av 0]
end
section
variable{F:Fz}{w w':World}{L:l8}{p:T9}{g:M1}{x y:OX L}{i:Nat}
def upd(x:OX L)(i:Nat)(s:L.S)(t:D9 L):OX L:=⟨s,fun j=>if j=i then t else x.th j⟩
theorem V2{s:L.S}{t:D9 L}:(upd x i s t).th i=t:=if_pos rfl
theorem upd_ne{s:L.S}{t:D9 L}{j:Nat}(h:j≠i):(upd x i s t).th j=x.th j:=if_neg h
def NF(L:l8)(p:T9)(x:OX L)(r:Nat):Prop:=¬OR L p x r∧p.I r=none
theorem K9(h:c0l p.I w){r:Nat}(hr:p.I r≠none):r<w.heap.size:=by
 cases e:p.I r with
 | none=>exact absurd e hr
 | some o=>exact(Array.getElem?_eq_some_iff.1 (h r o e)).1
theorem a0c(h:c0l p.I w)(hs:∀r,p.I r≠none→w'.heap[r]? =w.heap[r]?):c0l p.I w':=by
 intro r o e
 rw[hs r (by rw[e];simp)]
 exact h r o e
theorem E9{ab:Nat}(h:s9 w ab)(hs:w'.heap[ab]? =w.heap[ab]?):s9 w' ab:=by
 obtain⟨x,y,z,h⟩:=h.o
 exact⟨⟨x,y,z,hs.trans h⟩⟩
theorem f0C.low{st:Nat}{t:D9 L}(hL:L.Ok)(h:f0C L p st i t w){r:Nat}(hr:TR t r):r<w.heap.size:=by
 rcases hr with h1|⟨a,ha,h1⟩|⟨c,A,ab,h1,h2⟩
 ·rcases h.row.2 with h2|⟨b,cap,cur,h2,h3,h4,_⟩
  ·rw[h2.1]at h1;simp[Value.ownBlock]at h1
  ·rw[h2]at h1
   simp only[Value.ownBlock,Option.some.injEq]at h1
   subst h1
   exact(Q3 h4)
 ·exact hL.lA a w r (h.au a ha) h1
 ·obtain⟨_,h3,h4,_⟩:=h.call c A ab h1
  rcases h2 with rfl|h2
  ·obtain⟨_,_,_,h5⟩:=h3.o
   exact(Q3 h5)
  ·exact hL.lC c w r h4 h2
theorem f0C.stable{st:Nat}{t:D9 L}(hL:L.Ok)(h:f0C L p st i t w)(hsz:w.heap.size≤w'.heap.size)(hs:∀r,TR t r→w'.heap[r]? =w.heap[r]?):f0C L p st i t w':=by
 refine⟨G1 h.row fun b hb _=>hs b (.inl hb),fun a ha=>hL.sA a w w' (h.au a ha) hsz fun r hr=>hs r (.inr (.inl ⟨a,ha,hr⟩)),h.al,h.kl,h.ar,?_⟩
 intro c A ab hc
 obtain⟨h1,h2,h3,h4⟩:=h.call c A ab hc
 exact⟨h1,E9 h2 (hs _ (.inr (.inr ⟨c,A,ab,hc,.inl rfl⟩))),hL.sC c w w' h3 hsz fun r hr=>hs r (.inr (.inr ⟨c,A,ab,hc,.inr hr⟩)),h4⟩
theorem OU.aalt(h:OU L p g x w):p.aa<w.heap.size:=by
 obtain⟨c,h1,_⟩:=h.arr
 exact(Q3 h1)
theorem OU.low(hL:L.Ok)(h:OU L p g x w){r:Nat}(hr:OR L p x r):r<w.heap.size:=by
 rcases hr with h1|rfl|⟨i,hi,h1⟩
 ·exact hL.lS _ _ _ h.su h1
 ·exact h.aalt
 ·exact(h.thr i hi).low hL h1
theorem OU.stable(hL:L.Ok)(h:OU L p g x w)(hsz:w.heap.size≤w'.heap.size)(hs:∀r,OR L p x r∨p.I r≠none→w'.heap[r]? =w.heap[r]?):OU L p g x w':=by
 refine⟨a0c h.fix fun r hr=>hs r (.inr hr),hL.sS _ w w' h.su hsz fun r hr=>hs r (.inl (.inl hr)),?_,fun i hi=>(h.thr i hi).stable hL hsz fun r hr=>hs r (.inl (.inr (.inr ⟨i,hi,hr⟩))),h.ts,h.sa,h.jj,h.tt,h.inone⟩
 obtain⟨c,h1,h2⟩:=h.arr
 exact⟨c,(hs _ (.inl (.inr (.inl rfl)))).trans h1,h2⟩
theorem OU.inone'(h:OU L p g x w){r:Nat}(hr:OR L p x r∨w.heap.size≤r):p.I r=none:=by
 rcases hr with h1|h1
 ·exact h.inone r h1
 ·cases e:p.I r with
  | none=>rfl
  | some o=>exact absurd (K9 (r:=r) h.fix (by rw[e];simp)) (by omega)
def x7(L:l8)(x:OX L)(i:Nat)(r:Nat):Prop:=L.SR x.s r∨∃c A ab,(x.th i).call=some (c,A,ab)∧L.CR c r
theorem i9(hi:i<p.n){r:Nat}(h:x7 L x i r):OR L p x r:=by
 rcases h with h|⟨c,A,ab,h1,h2⟩
 ·exact .inl h
 ·exact .inr (.inr ⟨i,hi,.inr (.inr ⟨c,A,ab,h1,.inr h2⟩)⟩)
theorem OU.other(h:OU L p g x w)(hi:i<p.n){j r:Nat}(hj:j<p.n)(hne:j≠i)(hr:TR (x.th j) r):¬x7 L x i r:=by
 rintro(h1|⟨c,A,ab,h1,h2⟩)
 ·exact(h.ts j hj r hr).1 h1
 ·exact h.tt j i hj hi hne r hr (.inr (.inr ⟨c,A,ab,h1,.inr h2⟩))
theorem OU.aaM(h:OU L p g x w)(hi:i<p.n):¬x7 L x i p.aa:=by
 rintro(h1|⟨c,A,ab,h1,h2⟩)
 ·exact h.sa h1
 ·exact(h.ts i hi _ (.inr (.inr ⟨c,A,ab,h1,.inr h2⟩))).2 rfl
theorem OU.rowM(h:OU L p g x w)(hi:i<p.n){r:Nat}(hr:Value.ownBlock (x.th i).row=some r):¬x7 L x i r:=by
 rintro(h1|⟨c,A,ab,h1,h2⟩)
 ·exact(h.ts i hi r (.inl hr)).1 h1
 ·exact((h.thr i hi).call c A ab h1).2.2.2.2.2.1 r h2 hr.symm
theorem OU.ansM(h:OU L p g x w)(hi:i<p.n){a:L.A}{r:Nat}(ha:a∈(x.th i).ans)(hr:L.AR a r):¬x7 L x i r:=by
 rintro(h1|⟨c,A,ab,h1,h2⟩)
 ·exact(h.ts i hi r (.inr (.inl ⟨a,ha,hr⟩))).1 h1
 ·exact(((h.thr i hi).call c A ab h1).2.2.2.2.2.2.1 a ha r hr).2 h2
theorem OU.abM(h:OU L p g x w)(hi:i<p.n){c:L.C}{A:Array Value}{ab:Nat}(hc:(x.th i).call=some (c,A,ab)):¬x7 L x i ab:=by
 rintro(h1|⟨c1,A1,ab1,h1,h2⟩)
 ·exact(h.ts i hi ab (.inr (.inr ⟨c,A,ab,hc,.inl rfl⟩))).1 h1
 ·rw[hc]at h1
  cases h1
  exact((h.thr i hi).call c A ab hc).2.2.2.1 h2
theorem d02(hL:L.Ok)(h:OU L p g x w)(hi:i<p.n)(hsz:w.heap.size≤w'.heap.size)(hsame:∀r,r<w.heap.size→¬x7 L x i r→w'.heap[r]? =w.heap[r]?){s':L.S}(hs:L.SU s' w')(hsr:∀q,L.SR s' q→x7 L x i q∨w.heap.size≤q){call':Option (L.C×Array Value×Nat)}
 (hJ:∀st c,L.J st x.s c→L.J st s' c)
 (hcall:∀c A ab,call'=some (c,A,ab)→L.J (g.st i) s' c∧G0 33 A (m04 p (g.st i) i (x.th i).k ab)∧L.CU c w'∧(∀q,L.CR c q→x7 L x i q∨w.heap.size≤q)∧(∀q,L.CR c q→¬L.SR s' q)∧(x.th i).k<(p.ops i).length∧((∃c0 A0,(x.th i).call=some (c0,A0,ab))∨(s9 w ab∧NF L p x ab))):
 OU L p g (upd x i s' {x.th i with call:=call'}) w'∧∀r,OR L p (upd x i s' {x.th i with call:=call'}) r→OR L p x r∨w.heap.size≤r∨∃c A,call'=some (c,A,r):=by
 have hab:∀c A ab,call'=some (c,A,ab)→¬x7 L x i ab∧s9 w ab∧ab<w.heap.size∧some ab≠Value.ownBlock (x.th i).row∧(∀a∈(x.th i).ans,∀r,L.AR a r→r≠ab)∧ab≠p.aa∧(∀j,j<p.n→j≠i→¬TR (x.th j) ab)∧p.I ab=none:=by
  intro c A ab hc
  obtain⟨_,_,_,_,_,_,h6⟩:=hcall c A ab hc
  rcases h6 with⟨c0,A0,h6⟩|⟨h6,h7⟩
  ·obtain⟨_,k2,_,k4,k5,_,k7,_⟩:=(h.thr i hi).call c0 A0 ab h6
   have hT:TR (x.th i) ab:=.inr (.inr ⟨c0,A0,ab,h6,.inl rfl⟩)
   exact⟨h.abM hi h6,k2,(h.thr i hi).low hL hT,k5,fun a ha r hr=>(k7 a ha r hr).1,(h.ts i hi ab hT).2,fun j hj hne hh=>h.tt j i hj hi hne ab hh hT,h.inone ab (.inr (.inr ⟨i,hi,hT⟩))⟩
  ·refine⟨fun hm=>h7.1 (i9 hi hm),h6,?_,?_,?_,?_,?_,h7.2⟩
   ·obtain⟨_,_,_,h8⟩:=h6.o
    exact(Q3 h8)
   ·intro e
    exact h7.1 (.inr (.inr ⟨i,hi,.inl e.symm⟩))
   ·rintro a ha r hr rfl
    exact h7.1 (.inr (.inr ⟨i,hi,.inr (.inl ⟨a,ha,hr⟩)⟩))
   ·rintro rfl
    exact h7.1 (.inr (.inl rfl))
   ·intro j hj _ hh
    exact h7.1 (.inr (.inr ⟨j,hj,hh⟩))
 have hT:∀r,TR {x.th i with call:=call'} r→(TR (x.th i) r∧¬x7 L x i r)∨(∃c A,call'=some (c,A,r))∨∃c A ab,call'=some (c,A,ab)∧L.CR c r:=by
  rintro r (h1|⟨a,ha,h1⟩|⟨c,A,ab,h1,h2⟩)
  ·exact .inl ⟨.inl h1,h.rowM hi h1⟩
  ·exact .inl ⟨.inr (.inl ⟨a,ha,h1⟩),h.ansM hi ha h1⟩
  ·rcases h2 with rfl|h2
   ·exact .inr (.inl ⟨c,A,h1⟩)
   ·exact .inr (.inr ⟨c,A,ab,h1,h2⟩)
 have hO:∀r,OR L p (upd x i s' {x.th i with call:=call'}) r→OR L p x r∨w.heap.size≤r∨∃c A,call'=some (c,A,r):=by
  rintro r (h1|rfl|⟨j,hj,h1⟩)
  ·rcases hsr r h1 with h2|h2
   ·exact .inl (i9 hi h2)
   ·exact .inr (.inl h2)
  ·exact .inl (.inr (.inl rfl))
  ·by_cases e:j=i
   ·subst e
    rw[V2]at h1
    rcases hT r h1 with h2|h2|⟨c,A,ab,h2,h3⟩
    ·exact .inl (.inr (.inr ⟨j,hj,h2.1⟩))
    ·exact .inr (.inr h2)
    ·rcases(hcall c A ab h2).2.2.2.1 r h3 with h4|h4
     ·exact .inl (i9 hj h4)
     ·exact .inr (.inl h4)
   ·rw[upd_ne e]at h1
    exact .inl (.inr (.inr ⟨j,hj,h1⟩))
 have hAA:¬L.SR s' p.aa:=by
  intro h1
  rcases hsr _ h1 with h2|h2
  ·exact h.aaM hi h2
  ·have:=h.aalt;omega
 have hX:∀r,TR {x.th i with call:=call'} r→∀j,j<p.n→j≠i→¬TR (x.th j) r:=by
  intro r hr j hj hne hh
  rcases hT r hr with h2|⟨c,A,h2⟩|⟨c,A,ab,h2,h3⟩
  ·exact h.tt j i hj hi hne r hh h2.1
  ·exact(hab c A r h2).2.2.2.2.2.2.1 j hj hne hh
  ·rcases(hcall c A ab h2).2.2.2.1 r h3 with h4|h4
   ·exact h.other hi hj hne hh h4
   ·have:=(h.thr j hj).low hL hh;omega
 have hJJ:∀j,j<p.n→∀c A ab,((upd x i s' {x.th i with call:=call'}).th j).call=some (c,A,ab)→L.J (g.st j) s' c:=by
  intro j hj c A ab hc
  by_cases e:j=i
  ·subst e
   rw[V2]at hc
   exact(hcall c A ab hc).1
  ·rw[upd_ne e]at hc
   exact hJ _ c (h.jj j hj c A ab hc)
 refine⟨⟨?_,hs,?_,?_,?_,hAA,hJJ,?_,?_⟩,hO⟩
 ·refine a0c h.fix fun r hr=>hsame r (K9 h.fix hr) fun hm=>hr (h.inone r (i9 hi hm))
 ·obtain⟨c,h1,h2,h3⟩:=h.arr
  refine⟨c,(hsame _ h.aalt (h.aaM hi)).trans h1,h2,fun j hj=>?_⟩
  by_cases e:j=i
  ·subst e;rw[V2];exact h3 j hj
  ·rw[upd_ne e];exact h3 j hj
 ·intro j hj
  by_cases e:j=i
  ·subst e
   rw[V2]
   have ht:=h.thr j hj
   refine⟨G1 ht.row fun b hb _=>hsame b (ht.low hL (.inl hb)) (h.rowM hj hb),fun a ha=>hL.sA a w w' (ht.au a ha) hsz fun r hr=>hsame r (ht.low hL (.inr (.inl ⟨a,ha,hr⟩))) (h.ansM hj ha hr),ht.al,ht.kl,ht.ar,?_⟩
   intro c A ab hc
   obtain⟨_,k1,k2,k3,k4,k5,k6⟩:=hcall c A ab hc
   obtain⟨m1,m2,m3,m4,m5,m6,m7,m8⟩:=hab c A ab hc
   refine⟨k1,E9 m2 (hsame ab m3 m1),k2,?_,m4,?_,?_,k5⟩
   ·intro hh
    rcases k3 ab hh with h4|h4
    ·exact m1 h4
    ·omega
   ·intro r hr e
    rcases k3 r hr with h4|h4
    ·exact h.rowM hj e.symm h4
    ·have:=ht.low hL (.inl e.symm);omega
   ·intro a ha r hr
    refine⟨m5 a ha r hr,fun hh=>?_⟩
    rcases k3 r hh with h4|h4
    ·exact h.ansM hj ha hr h4
    ·have:=ht.low hL (.inr (.inl ⟨a,ha,hr⟩));omega
  ·rw[upd_ne e]
   exact(h.thr j hj).stable hL hsz fun r hr=>hsame r ((h.thr j hj).low hL hr) (h.other hi hj e hr)
 ·intro j hj r hr
  by_cases e:j=i
  ·subst e
   rw[V2]at hr
   rcases hT r hr with⟨h2,h3⟩|⟨c,A,h2⟩|⟨c,A,ab,h2,h3⟩
   ·refine⟨fun hh=>?_,(h.ts j hj r h2).2⟩
    rcases hsr r hh with h4|h4
    ·exact h3 h4
    ·have:=(h.thr j hj).low hL h2;omega
   ·obtain⟨m1,m2,m3,m4,m5,m6,m7,m8⟩:=hab c A r h2
    refine⟨fun hh=>?_,m6⟩
    rcases hsr r hh with h4|h4
    ·exact m1 h4
    ·omega
   ·obtain⟨_,k1,k2,k3,k4,k5,k6⟩:=hcall c A ab h2
    refine⟨k4 r h3,?_⟩
    rintro rfl
    rcases k3 _ h3 with h4|h4
    ·exact h.aaM hj h4
    ·have:=h.aalt;omega
  ·rw[upd_ne e]at hr
   refine⟨fun hh=>?_,(h.ts j hj r hr).2⟩
   rcases hsr r hh with h4|h4
   ·exact h.other hi hj e hr h4
   ·have:=(h.thr j hj).low hL hr;omega
 ·intro j k hj hk hne r h1 h2
  by_cases e:j=i
  ·subst e
   rw[V2]at h1
   rw[upd_ne (fun e=>hne e.symm)]at h2
   exact hX r h1 k hk (fun e=>hne e.symm) h2
  ·rw[upd_ne e]at h1
   by_cases e2:k=i
   ·subst e2
    rw[V2]at h2
    exact hX r h2 j hj e h1
   ·rw[upd_ne e2]at h2
    exact h.tt j k hj hk hne r h1 h2
 ·intro r hr
  rcases hO r hr with h1|h1|⟨c,A,h1⟩
  ·exact h.inone r h1
  ·exact h.inone' (.inr h1)
  ·exact(hab c A r h1).2.2.2.2.2.2.2
end
section
variable{F:Fz}{w w':World}{L:l8}{p:T9}{g:M1}{x y:OX L}{i:Nat}
theorem b0N.at{aa ab i m:Nat}{v a b c:Value}{xs:List Value}{v':Value}(h:b0N F aa ab i m v a b c xs w w' v')(d:Nat):b0N F aa ab i m v a b c xs w (w'.at d) v':=
 ⟨⟨h.wf.own⟩,h.row,h.arr,h.size,h.own,h.old⟩
theorem p0F(hL:L.Ok)(hP:p.Ok L)(hi:i<p.n){an:L.A}{ab:Nat}(h:OU L p g x w)(hc:(x.th i).call=none)(hk:(x.th i).k<(p.ops i).length)(hau:L.AU an w)(hna:∀r,L.AR an r→NF L p x r∧r≠ab){F2:Fz}{a b c:Value}(hac:(L.AV an).cells=[a,b,c]){v':Value}
 (hn:b0N F2 p.aa ab i (x.th i).k (x.th i).row a b c (((x.th i).ans.map fun a=>(L.AV a).cells).flatten) w w' v'):
 OU L p g (upd x i x.s ⟨(x.th i).k+1,none,(x.th i).ans++[an],v'⟩) w'∧(∀r,OR L p (upd x i x.s ⟨(x.th i).k+1,none,(x.th i).ans++[an],v'⟩) r→OR L p x r∨L.AR an r∨w.heap.size≤r):=by
 have ht:=h.thr i hi
 have hsame:∀r,r<w.heap.size→r≠p.aa→some r≠Value.ownBlock (x.th i).row→w'.heap[r]? =w.heap[r]?:=hn.old
 have hT:∀r,TR (⟨(x.th i).k+1,none,(x.th i).ans++[an],v'⟩:D9 L) r→TR (x.th i) r∨L.AR an r∨w.heap.size≤r:=by
  rintro r (h1|⟨a,ha,h1⟩|⟨c,A,ab,h1,h2⟩)
  ·rcases hn.own r h1 with h2|h2
   ·exact .inl (.inl h2.symm)
   ·exact .inr (.inr h2)
  ·rcases List.mem_append.1 ha with ha|ha
   ·exact .inl (.inr (.inl ⟨a,ha,h1⟩))
   ·rw[List.mem_singleton]at ha
    subst ha
    exact .inr (.inl h1)
  ·cases h1
 have hO:∀r,OR L p (upd x i x.s ⟨(x.th i).k+1,none,(x.th i).ans++[an],v'⟩) r→OR L p x r∨L.AR an r∨w.heap.size≤r:=by
  rintro r (h1|rfl|⟨j,hj,h1⟩)
  ·exact .inl (.inl h1)
  ·exact .inl (.inr (.inl rfl))
  ·by_cases e:j=i
   ·subst e
    rw[V2]at h1
    rcases hT r h1 with h2|h2|h2
    ·exact .inl (.inr (.inr ⟨j,hj,h2⟩))
    ·exact .inr (.inl h2)
    ·exact .inr (.inr h2)
   ·rw[upd_ne e]at h1
    exact .inl (.inr (.inr ⟨j,hj,h1⟩))
 have hrow:∀r,some r=Value.ownBlock (x.th i).row→TR (x.th i) r:=fun r hr=>.inl hr.symm
 have hrowI:∀r,p.I r≠none→some r≠Value.ownBlock (x.th i).row:=fun r hr e=>hr (h.inone r (.inr (.inr ⟨i,hi,hrow r e⟩)))
 have haaI:∀r,p.I r≠none→r≠p.aa:=fun r hr e=>hr (h.inone r (.inr (.inl e)))
 have hX:∀r,TR (⟨(x.th i).k+1,none,(x.th i).ans++[an],v'⟩:D9 L) r→∀j,j<p.n→j≠i→¬TR (x.th j) r:=by
  intro r hr j hj hne hh
  rcases hT r hr with h2|h2|h2
  ·exact h.tt j i hj hi hne r hh h2
  ·exact(hna r h2).1.1 (.inr (.inr ⟨j,hj,hh⟩))
  ·have:=(h.thr j hj).low hL hh;omega
 refine⟨⟨a0c h.fix fun r hr=>hsame r (K9 h.fix hr) (haaI r hr) (hrowI r hr),hL.sS _ w w' h.su hn.size fun r hr=>hsame r (hL.lS _ _ _ h.su hr) (by rintro rfl;exact h.sa hr) fun e=>(h.ts i hi r (hrow r e)).1 hr,?_,?_,?_,h.sa,?_,?_,?_⟩,hO⟩
 ·obtain⟨c,h1,h2,h3⟩:=h.arr
  refine⟨_,hn.arr c h1,by simpa using h2,fun j hj=>?_⟩
  by_cases e:j=i
  ·subst e
   rw[V2,Array.getElem?_setIfInBounds_self_of_lt (by omega)]
  ·rw[upd_ne e,Array.getElem?_setIfInBounds_ne (fun e1=>e e1.symm)]
   exact h3 j hj
 ·intro j hj
  by_cases e:j=i
  ·subst e
   rw[V2]
   refine⟨?_,?_,?_,?_,?_,fun c A ab h1=>by cases h1⟩
   ·have:=hn.row
    simp only[List.map_append,List.map_cons,List.map_nil,List.flatten_append,List.flatten_cons,List.flatten_nil,List.append_nil,List.length_append,List.length_cons,List.length_nil,hac,ht.al]
    exact this
   ·intro a ha
    rcases List.mem_append.1 ha with ha|ha
    ·exact hL.sA a w w' (ht.au a ha) hn.size fun r hr=>hsame r (ht.low hL (.inr (.inl ⟨a,ha,hr⟩))) (h.ts j hj r (.inr (.inl ⟨a,ha,hr⟩))).2 (ht.ar a ha r hr)
    ·rw[List.mem_singleton]at ha
     subst ha
     exact hL.sA a w w' hau hn.size fun r hr=>hsame r (hL.lA a w r hau hr) (fun e=>(hna r hr).1.1 (.inr (.inl e))) (fun e=>(hna r hr).1.1 (.inr (.inr ⟨j,hj,hrow r e⟩)))
   ·simp[ht.al]
   ·exact hk
   ·intro a ha r hr e
    rcases hn.own r e.symm with h2|h2
    ·rcases List.mem_append.1 ha with ha|ha
     ·exact ht.ar a ha r hr h2
     ·rw[List.mem_singleton]at ha
      subst ha
      exact(hna r hr).1.1 (.inr (.inr ⟨j,hj,hrow r h2⟩))
    ·rcases List.mem_append.1 ha with ha|ha
     ·have:=ht.low hL (.inr (.inl ⟨a,ha,hr⟩));omega
     ·rw[List.mem_singleton]at ha
      subst ha
      have:=hL.lA a w r hau hr;omega
  ·rw[upd_ne e]
   exact(h.thr j hj).stable hL hn.size fun r hr=>hsame r ((h.thr j hj).low hL hr) (h.ts j hj r hr).2 fun e1=>h.tt j i hj hi e r hr (hrow r e1)
 ·intro j hj r hr
  by_cases e:j=i
  ·subst e
   rw[V2]at hr
   rcases hT r hr with h2|h2|h2
   ·exact h.ts j hj r h2
   ·exact⟨fun hh=>(hna r h2).1.1 (.inl hh),fun e=>(hna r h2).1.1 (.inr (.inl e))⟩
   ·refine⟨fun hh=>?_,?_⟩
    ·have:=hL.lS _ _ _ h.su hh;omega
    ·rintro rfl
     have:=h.aalt;omega
  ·rw[upd_ne e]at hr
   exact h.ts j hj r hr
 ·intro j hj c A ab hc
  by_cases e:j=i
  ·subst e
   rw[V2]at hc
   cases hc
  ·rw[upd_ne e]at hc
   exact h.jj j hj c A ab hc
 ·intro j k hj hk2 hne r h1 h2
  by_cases e:j=i
  ·subst e
   rw[V2]at h1
   rw[upd_ne (fun e=>hne e.symm)]at h2
   exact hX r h1 k hk2 (fun e=>hne e.symm) h2
  ·rw[upd_ne e]at h1
   by_cases e2:k=i
   ·subst e2
    rw[V2]at h2
    exact hX r h2 j hj e h1
   ·rw[upd_ne e2]at h2
    exact h.tt j k hj hk2 hne r h1 h2
 ·intro r hr
  rcases hO r hr with h1|h1|h1
  ·exact h.inone r h1
  ·exact(hna r h1).1.2
  ·exact h.inone' (.inr h1)
theorem i03(hL:L.Ok)(hP:p.Ok L)(hi:i<p.n){an:L.A}{ab:Nat}{A0:Array Value}(h:OU L p g x w)(hc:(x.th i).call=none)(hk:(x.th i).k<(p.ops i).length)(hau:L.AU an w)(hna:∀r,L.AR an r→NF L p x r∧r≠ab)(ha:s9 w ab)(hnb:NF L p x ab)(hwf:Wf F w)(hF:∀r,OR L p x r∨r=ab→F r=none)(hA:G0 33 A0 (m04 p (g.st i) i (x.th i).k ab)){cs:List Frame}{Stop:Goroutine→World→Prop}
 (K:∀w' A v',OU L p g (upd x i x.s ⟨(x.th i).k+1,none,(x.th i).ans++[an],v'⟩) w'→(∀r,OR L p (upd x i x.s ⟨(x.th i).k+1,none,(x.th i).ans++[an],v'⟩) r→OR L p x r∨L.AR an r∨w.heap.size≤r)→w.heap.size≤w'.heap.size→Wf F w'→G0 33 A (dgS p (g.st i) i ((x.th i).k+1))→
   J0 Tryd.prog false F Stop (G (bA 63 A [.code y9,.inLoop y9,.inBlock 0]) cs) w'):
 J0 Tryd.prog false F Stop (back (L.AV an).v (i0C A0::cs)) w:=by
 have hkl:=hP.len i hi
 refine z09 (lc:=(L.AV an).lc) ha (fun k hh=>?_) hA fun A1 hA1=>?_
 ·obtain⟨z,hz,_⟩:=hh
  rw[hF ab (.inr rfl)]at hz
  cases hz
 have hsz:((((w.setCell ⟨ab,0,none⟩ (.bool (L.AV an).ok)).setCell ⟨ab,1,none⟩ (vI (L.AV an).n)).setCell ⟨ab,2,none⟩ (.slice (L.AV an).la (L.AV an).ll (L.AV an).lc))).heap.size=w.heap.size:=by simp
 have hne:∀r,r≠ab→((((w.setCell ⟨ab,0,none⟩ (.bool (L.AV an).ok)).setCell ⟨ab,1,none⟩ (vI (L.AV an).n)).setCell ⟨ab,2,none⟩ (.slice (L.AV an).la (L.AV an).ll (L.AV an).lc))).heap[r]? =w.heap[r]?:=by
  intro r hr
  rw[o0 _ _ _ hr,o0 _ _ _ hr,o0 _ _ _ hr]
 have hab:((((w.setCell ⟨ab,0,none⟩ (.bool (L.AV an).ok)).setCell ⟨ab,1,none⟩ (vI (L.AV an).n)).setCell ⟨ab,2,none⟩ (.slice (L.AV an).la (L.AV an).ll (L.AV an).lc))).heap[ab]? =some (.cells #[.bool (L.AV an).ok,vI (L.AV an).n,.slice (L.AV an).la (L.AV an).ll (L.AV an).lc] 49 (0,0)):=by
  obtain⟨a,b,c,h1⟩:=ha.o
  rw[U1 (U1 (U1 h1 _) _) _]
  rfl
 generalize (((w.setCell ⟨ab,0,none⟩ (.bool (L.AV an).ok)).setCell ⟨ab,1,none⟩ (vI (L.AV an).n)).setCell ⟨ab,2,none⟩ (.slice (L.AV an).la (L.AV an).ll (L.AV an).lc))=W at hsz hne hab ⊢
 have hU:OU L p g x W:=h.stable hL (by omega) fun r hr=>hne r (by
  rintro rfl
  rcases hr with hr|hr
  ·exact hnb.1 hr
  ·exact hr hnb.2)
 have hauW:L.AU an W:=hL.sA an w W hau (by omega) fun r hr=>hne r (hna r hr).2
 have hwfW:Wf F W:=by
  constructor
  intro r z hz
  obtain⟨c,e,z0,h1,h2⟩:=hwf.own r z hz
  refine⟨c,e,z0,(hne r ?_).trans h1,h2⟩
  rintro rfl
  rw[hF r (.inr rfl)]at hz
  cases hz
 have ht:=hU.thr i hi
 have hmF:∀r,(r=p.aa∨some r=Value.ownBlock (x.th i).row)→F r=none:=by
  rintro r (rfl|hr)
  ·exact hF _ (.inl (.inr (.inl rfl)))
  ·exact hF _ (.inl (.inr (.inr ⟨i,hi,.inl hr.symm⟩)))
 obtain⟨c0,harr,hcs,hci⟩:=hU.arr
 have hrI:∀r,p.I r≠none→some r≠Value.ownBlock (x.th i).row:=fun r hr e=>hr (h.inone r (.inr (.inr ⟨i,hi,.inl e.symm⟩)))
 have key:=A0a (F:=FU F (fun r=>r=p.aa∨some r=Value.ownBlock (x.th i).row) W) (w:=W) (nn:=W.heap.size) (main:=false) (cs:=cs) (kk:=[.inBlock 1,.code e0C,.inLoop y9,.inBlock 0]) (Stop:=fun a u=>∃v' A,a=G (bA 63 A [.inBlock 1,.code e0C,.inLoop y9,.inBlock 0]) cs∧b0N (FU F (fun r=>r=p.aa∨some r=Value.ownBlock (x.th i).row) W) p.aa ab i (x.th i).k (x.th i).row (.bool (L.AV an).ok) (vI (L.AV an).n) (.slice (L.AV an).la (L.AV an).ll (L.AV an).lc) (((x.th i).ans.map fun a=>(L.AV a).cells).flatten) W u v'∧G0 33 A (m04 p (g.st i) i (x.th i).k ab))
  o05 (Nat.le_refl _) ⟨rfl,rfl,rfl⟩ hi (by omega) ⟨o06,hP.av W hU.fix,hP.ib W hU.fix i hi,⟨c0,harr,hci i hi⟩,hab⟩ (by rw[← ht.al];exact ht.row) (d00 (.inl rfl)) (fun b hb=>d00 (.inr hb.symm)) ⟨fun e=>(h.ts i hi _ (.inl e.symm)).2 rfl,fun e=>hnb.1 (.inr (.inr ⟨i,hi,.inl e.symm⟩)),hrI _ hP.inI.1,hrI _ (hP.inI.2 i hi)⟩
  (fun r c e z0 h1 h2 h3 h4=>⟨_,e0H (fun hm=>hm.elim h2 h3) h1,fun e=>by simp only[Prod.mk.injEq]at e;omega⟩) hA1 fun w2 v' A2 hn hA2=>.stop fun d=>⟨v',A2,rfl,hn.at d,hA2⟩
 refine(b07 (fun a ha=>g0Z hwfW hmF ha) key).bind fun a u hs=>?_
 obtain⟨v',A2,rfl,hn,hA2⟩:=hs u.drawn
 have hn:b0N _ p.aa ab i (x.th i).k (x.th i).row (.bool (L.AV an).ok) (vI (L.AV an).n) (.slice (L.AV an).la (L.AV an).ll (L.AV an).lc) (((x.th i).ans.map fun a=>(L.AV a).cells).flatten) W u v':=hn
 refine A0b (by omega) hA2 fun A3 hA3=>?_
 obtain⟨q1,q2⟩:=p0F hL hP hi hU hc hk hauW hna rfl hn
 refine K u A3 v' q1 (fun r hr=>?_) (by have:=hn.size;omega) ?_ hA3
 ·rcases q2 r hr with h1|h1|h1
  ·exact .inl h1
  ·exact .inr (.inl h1)
  ·exact .inr (.inr (by omega))
 ·constructor
  intro r z hz
  obtain⟨c,e,z0,h1,h2⟩:=hwfW.own r z hz
  refine⟨c,e,z0,(hn.old r (Q3 h1) ?_ ?_).trans h1,h2⟩
  ·rintro rfl
   rw[hmF _ (.inl rfl)]at hz
   cases hz
  ·intro e
   rw[hmF _ (.inr e)]at hz
   cases hz
end
section
variable{F:Fz}{w w' w0:World}{L:l8}{p:T9}{g:M1}{x y x0:OX L}{i:Nat}
theorem OU.at(hL:L.Ok)(h:OU L p g x w)(d:Nat):OU L p g x (w.at d):=h.stable hL (Nat.le_refl _) fun _ _=>rfl
theorem m0U(hw0:Wf F w0){r:Nat}(h:w0.heap.size≤r):F r=none:=by
 cases e:F r with
 | none=>rfl
 | some z=>
   obtain⟨c,e1,z0,h1,_⟩:=hw0.own r z e
   have:=(Q3 h1)
   omega
theorem W5(hw0:Wf F w0):i2 F w0.heap.size:=by
 intro r z h
 obtain⟨c,e1,z0,h1,_⟩:=hw0.own r z h
 exact(Q3 h1)
theorem i0T(hL:L.Ok)(h:OU L p g x w)(hi:i<p.n){s':L.S}{r:Nat}(hr:(∃c A ab,(x.th i).call=some (c,A,ab)∧L.CR c r)∨w.heap.size≤r)(hs:¬L.SR s' r):NF L p (upd x i s' {x.th i with call:=none}) r:=by
 have hM:∀q,(∃c A ab,(x.th i).call=some (c,A,ab)∧L.CR c q)→x7 L x i q:=fun q h=>.inr h
 refine⟨?_,?_⟩
 ·rintro(h1|rfl|⟨j,hj,h1⟩)
  ·exact hs h1
  ·rcases hr with hr|hr
   ·exact h.aaM hi (hM _ hr)
   ·have:=h.aalt;omega
  ·by_cases e:j=i
   ·subst e
    rw[V2]at h1
    rcases h1 with h1|⟨a,ha,h1⟩|⟨c,A,ab,h1,_⟩
    ·rcases hr with hr|hr
     ·exact h.rowM hj h1 (hM _ hr)
     ·have:=(h.thr j hj).low hL (.inl h1);omega
    ·rcases hr with hr|hr
     ·exact h.ansM hj ha h1 (hM _ hr)
     ·have:=(h.thr j hj).low hL (.inr (.inl ⟨a,ha,h1⟩));omega
    ·cases h1
   ·rw[upd_ne e]at h1
    rcases hr with hr|hr
    ·exact h.other hi hj e h1 (hM _ hr)
    ·have:=(h.thr j hj).low hL h1;omega
 ·rcases hr with hr|hr
  ·exact h.inone r (i9 hi (hM _ hr))
  ·exact h.inone' (.inr hr)
theorem B0u(hL:L.Ok)(h:OU L p g x w)(hi:i<p.n){s':L.S}(hsr:∀q,L.SR s' q→x7 L x i q∨w.heap.size≤q){c0:L.C}{A0:Array Value}{ab:Nat}(hc:(x.th i).call=some (c0,A0,ab)):NF L p (upd x i s' {x.th i with call:=none}) ab:=by
 have hT:TR (x.th i) ab:=.inr (.inr ⟨c0,A0,ab,hc,.inl rfl⟩)
 obtain⟨_,k2,_,k4,k5,_,k7,_⟩:=(h.thr i hi).call c0 A0 ab hc
 refine⟨?_,h.inone ab (.inr (.inr ⟨i,hi,hT⟩))⟩
 rintro(h1|e1|⟨j,hj,h1⟩)
 ·rcases hsr ab h1 with h2|h2
  ·exact h.abM hi hc h2
  ·have:=(h.thr i hi).low hL hT;omega
 ·exact(h.ts i hi ab hT).2 e1
 ·by_cases e:j=i
  ·subst e
   rw[V2]at h1
   rcases h1 with h1|⟨a,ha,h1⟩|⟨c,A,ab,h1,_⟩
   ·exact k5 h1.symm
   ·exact(k7 a ha ab h1).1 rfl
   ·cases h1
  ·rw[upd_ne e]at h1
   exact h.tt j i hj hi e ab h1 hT
theorem p0B(hL:L.Ok)(h:OU L p g x w)(hi:i<p.n){s':L.S}(hsr:∀q,L.SR s' q→x7 L x i q∨w.heap.size≤q){ab:Nat}(hlt:ab<w.heap.size)(hn:NF L p x ab)(hc:(x.th i).call=none):NF L p (upd x i s' {x.th i with call:=none}) ab:=by
 refine⟨?_,hn.2⟩
 rintro(h1|e1|⟨j,hj,h1⟩)
 ·rcases hsr ab h1 with h2|h2
  ·exact hn.1 (i9 hi h2)
  ·omega
 ·exact hn.1 (.inr (.inl e1))
 ·by_cases e:j=i
  ·subst e
   rw[V2]at h1
   have h2:TR (x.th j) ab:=by
    rcases h1 with h1|h1|⟨c,A,ab,h1,_⟩
    ·exact .inl h1
    ·exact .inr (.inl h1)
    ·cases h1
   exact hn.1 (.inr (.inr ⟨j,hj,h2⟩))
  ·rw[upd_ne e]at h1
   exact hn.1 (.inr (.inr ⟨j,hj,h1⟩))
def D06(L:l8)(p:T9)(g:M1)(i:Nat)(y:OX L)(cs:List Frame)(a:Goroutine):Prop:=
 ((U2 L p g).liv y i=true∧a=G (Frame.enter Tryd.prog 87 #[vP (g.st i) 0] .normal) ((U2 L p g).fr y i++cs))∨((U2 L p g).liv y i=false∧∃v,a=back v cs)
def u0h(L:l8)(p:T9)(g:M1)(i:Nat)(x0:OX L)(w0:World)(S:OX L→Prop)(x:OX L)(cs:List Frame)(a:Goroutine)(u:World):Prop:=
 ∃y,S y∧(∀j,j≠i→y.th j=x.th j)∧OU L p g y u∧(∀r,OR L p y r→OR L p x0 r∨w0.heap.size≤r)∧D06 L p g i y cs a
theorem l0Y(hL:L.Ok)(hP:p.Ok L)(hi:i<p.n)(hF0:∀r,OR L p x0 r→F r=none)(hw0:Wf F w0)(c:Frame)(cs:List Frame):∀(m:Nat) (x:OX L) (w:World) (A:Array Value),(p.ops i).length - (x.th i).k=m→OU L p g x w→(x.th i).call=none→Wf F w→w0.heap.size≤w.heap.size→(∀r,OR L p x r→OR L p x0 r∨w0.heap.size≤r)→G0 33 A (dgS p (g.st i) i (x.th i).k)→
 J0 Tryd.prog false F (u0h L p g i x0 w0 (fun y=>Adv L p i (x.s,x.th i) (y.s,y.th i)) x (c::cs)) (G (bA 63 A [.code y9,.inLoop y9,.inBlock 0]) (c::cs)) w:=by
 have hFn:∀r,OR L p x0 r∨w0.heap.size≤r→F r=none:=fun r h=>h.elim (hF0 r) (m0U hw0)
 intro m
 induction m with
 | zero=>
   intro x w A hm h hc hwf hsz hO hA
   have hk:(x.th i).k=(p.ops i).length:=by have:=(h.thr i hi).kl;omega
   rw[hk]at hA
   refine E0c hA (.stop fun d=>⟨x,.done hc hk,fun j _=>rfl,h.at hL d,hO,.inr ⟨?_,_,rfl⟩⟩)
   show(x.th i).call.isSome=false
   rw[hc]
   rfl
 | succ m ih=>
   intro x w A hm h hc hwf hsz hO hA
   have hk:(x.th i).k<(p.ops i).length:=by omega
   obtain⟨o,ho⟩:∃o,(p.ops i)[(x.th i).k]? =some o:=⟨_,List.getElem?_eq_getElem hk⟩
   obtain⟨opb,oo,hoa,f0,f1,f2,f3,g0,g1,g2,g3⟩:=hP.op w h.fix i hi _ o ho
   have hdb:=hP.db w h.fix
   have hib:=hP.ib w h.fix i hi
   have hA':=hA
   unfold dgS at hA'
   rw[hoa]at hA'
   refine E0b (W5 hwf) (Nat.le_refl _) hL.call hk (hP.len i hi) hdb.c hdb.z hib.c hib.z hdb.lt hib.lt f0 f1 f2 f3 g0 g1 g2 g3 hA' fun A1 hA1=>?_
   have hA1':G0 33 A1 (m04 p (g.st i) i (x.th i).k (w.heap.size+1)):=by
    unfold m04
    rw[hoa]
    obtain⟨b0,b1,b2,b3,b4,b5,b6,b7,b8⟩:=hA1
    exact⟨b0,b1,b2,b3,b4,b5,b7,b8⟩
   have e1:∀r,r<w.heap.size→((w.alloc (.cells #[vI o.kd,vI o.a,vI o.b,vI o.c] 44)).alloc (.cells #[.bool false,vI 0,.slice none 0 0] 49)).heap[r]? =w.heap[r]?:=fun r hr=>by
    rw[D0 _ _ (by simp;omega),D0 _ _ hr]
   have e2:((w.alloc (.cells #[vI o.kd,vI o.a,vI o.b,vI o.c] 44)).alloc (.cells #[.bool false,vI 0,.slice none 0 0] 49)).heap[w.heap.size+1]? =some (.cells #[.bool false,vI 0,.slice none 0 0] 49 (0,0)):=by
    have:=heap_alloc_new (w.alloc (.cells #[vI o.kd,vI o.a,vI o.b,vI o.c] 44)) (.cells #[.bool false,vI 0,.slice none 0 0] 49)
    simpa using this
   have e3:((w.alloc (.cells #[vI o.kd,vI o.a,vI o.b,vI o.c] 44)).alloc (.cells #[.bool false,vI 0,.slice none 0 0] 49)).heap.size=w.heap.size+2:=by simp
   generalize (w.alloc (.cells #[vI o.kd,vI o.a,vI o.b,vI o.c] 44)).alloc (.cells #[.bool false,vI 0,.slice none 0 0] 49)=W at e1 e2 e3 ⊢
   have hx:OU L p g x W:=h.stable hL (by omega) fun r hr=>e1 r (hr.elim (h.low hL) (K9 h.fix))
   have hans:s9 W (w.heap.size+1):=⟨⟨_,_,_,e2⟩⟩
   have hnf:NF L p x (w.heap.size+1):=⟨fun hh=>by have:=h.low hL hh;omega,h.inone' (.inr (by omega))⟩
   have hwf1:Wf F W:=by
    constructor
    intro r z hz
    obtain⟨c,e,z0,h1,h2⟩:=hwf.own r z hz
    exact⟨c,e,z0,(e1 r (Q3 h1)).trans h1,h2⟩
   have hSF:∀r,L.SR x.s r→F r=none:=fun r hr=>hFn r (hO r (.inl hr))
   have key:=e05 (hL.beg x.s i o (g.st i) (FU F (fun r=>L.SR x.s r) W) W (i0C A1) (c::cs) hx.su o06 fun r hr=>d00 hr)
   refine(b07 (fun a ha=>g0Z hwf1 hSF ha) key).bind fun a u hs=>?_
   obtain⟨hgd,s',res,hrel,hsu,hsr,hres⟩:=hs u.drawn
   have hgd:Gd (FU F (fun r=>L.SR x.s r) W) W u:=hgd
   have hsu:L.SU s' u:=hsu
   have hus:W.heap.size≤u.heap.size:=hgd.size
   have hsame:∀r,r<W.heap.size→¬x7 L x i r→u.heap[r]? =W.heap[r]?:=fun r hr hm=>d01 hgd (fun hh=>hm (.inl hh)) hr
   have hsr2:∀q,L.SR s' q→x7 L x i q∨W.heap.size≤q:=by
    intro q hq
    rcases hsr q hq with h1|h1|h1
    ·exact .inl (.inl h1)
    ·exact h1.elim
    ·exact .inr h1
   have hwf2:Wf F u:=by
    constructor
    intro r z hz
    obtain⟨c,e,z0,h1,h2⟩:=hwf1.own r z hz
    refine⟨c,e,z0,(d01 hgd (fun hh=>?_) (Q3 h1)).trans h1,h2⟩
    rw[hSF r hh]at hz
    cases hz
   cases res with
   | inl c1=>
     obtain⟨hjj,hcu,hcr,hcs,rfl⟩:=hres
     have hcu:L.CU c1 u:=hcu
     obtain⟨q1,q2⟩:=d02 hL hx hi hus hsame hsu hsr2 (call':=some (c1,A1,w.heap.size+1)) (fun _ c2 h2=>hL.jb _ _ _ _ _ _ _ h2 hrel) (by
      intro c A ab e
      cases e
      exact⟨hjj,hA1',hcu,fun q hq=>(hcr q hq).elim False.elim .inr,hcs,hk,.inr ⟨hans,hnf⟩⟩)
     refine .stop fun d=>⟨_,?_,fun j hj=>upd_ne hj,q1.at hL d,fun r hr=>?_,.inl ⟨?_,?_⟩⟩
     ·show Adv L p i (x.s,x.th i) (s',(upd x i s' {x.th i with call:=some (c1,A1,w.heap.size+1)}).th i)
      rw[V2]
      exact .live ho hrel
     ·rcases q2 r hr with h1|h1|⟨c2,A2,h1⟩
      ·exact hO r h1
      ·exact .inr (by omega)
      ·cases h1
       exact .inr (by omega)
     ·show((upd x i s' {x.th i with call:=some (c1,A1,w.heap.size+1)}).th i).call.isSome=true
      rw[V2]
      rfl
     ·simp only[U2,V2,List.append_assoc,List.cons_append,List.nil_append]
   | inr an=>
     obtain⟨hau,har,has,rfl⟩:=hres
     have hau:L.AU an u:=hau
     obtain⟨q1,q2⟩:=d02 hL hx hi hus hsame hsu hsr2 (call':=none) (fun _ c2 h2=>hL.jb _ _ _ _ _ _ _ h2 hrel) (by intro c A ab e;cases e)
     have hq2:∀r,OR L p (upd x i s' {x.th i with call:=none}) r→OR L p x0 r∨w0.heap.size≤r:=by
      intro r hr
      rcases q2 r hr with h1|h1|⟨c2,A2,h1⟩
      ·exact hO r h1
      ·exact .inr (by omega)
      ·cases h1
     have hti:(upd x i s' {x.th i with call:=none}).th i={x.th i with call:=none}:=V2
     have hAn:∀q,L.AR an q→W.heap.size≤q:=fun q hq=>(har q hq).elim False.elim id
     refine i03 hL hP hi (ab:=w.heap.size+1) q1 (by rw[hti]) (by rw[hti];exact hk) hau (fun r hr=>⟨i0T hL hx hi (.inr (hAn r hr)) (has r hr),fun e=>by have:=hAn r hr;omega⟩) (E9 hans (hsame _ (by omega) fun hm=>hnf.1 (i9 hi hm))) (p0B hL hx hi hsr2 (by omega) hnf hc) hwf2 ?_ (by rw[hti];exact hA1') ?_
     ·rintro r (h1|rfl)
      ·exact hFn r (hq2 r h1)
      ·exact hFn _ (.inr (by omega))
     ·intro w' A2 v' r1 r2 r3 r4 r5
      rw[hti]at r1 r2 r5
      have hti2:∀t:D9 L,(upd (upd x i s' {x.th i with call:=none}) i (upd x i s' {x.th i with call:=none}).s t).th i=t:=fun t=>V2
      refine(ih _ w' A2 (by rw[hti2];simp only;omega) r1 (by rw[hti2]) r4 (by omega) ?_ (by rw[hti2];exact r5)).bind fun a u hs=>.stop fun d=>?_
      ·intro r hr
       rcases r2 r hr with h1|h1|h1
       ·exact hq2 r h1
       ·exact .inr (by have:=hAn r h1;omega)
       ·exact .inr (by omega)
      ·obtain⟨y,k1,k2,k3,k4,k5⟩:=hs d
       refine⟨y,?_,fun j hj=>?_,k3,k4,k5⟩
       ·rw[hti2]at k1
        exact .imm ho hrel k1
       ·rw[k2 j hj,upd_ne hj,upd_ne hj]
end
section
variable{F:Fz}{w w' w0:World}{L:l8}{p:T9}{g:M1}{x y x0:OX L}{i:Nat}
theorem q0f(A:Array Value):f0V (i0C A):=⟨rfl,rfl,⟨_,Tryd.func63⟩⟩
theorem s0P(hL:L.Ok)(hP:p.Ok L)(hi:i<p.n)(h:OU L p g x w){c0:L.C}{A:Array Value}{ab:Nat}(hc:(x.th i).call=some (c0,A,ab))(hwf:Wf F w)(hF:∀r,OR L p x r→F r=none)(c:Frame)(cs:List Frame):
 J0 Tryd.prog false F (u0h L p g i x w (fun y=>Stp L p i (x.s,x.th i) (y.s,y.th i)) x (c::cs)) (back (.tuple #[]) (L.cf (g.st i) c0++i0C A::c::cs)) w:=by
 obtain⟨hA,hans,hcu0,k4,k5,k6,k7,hk⟩:=(h.thr i hi).call c0 A ab hc
 have hT:TR (x.th i) ab:=.inr (.inr ⟨c0,A,ab,hc,.inl rfl⟩)
 have hablt:ab<w.heap.size:=(h.thr i hi).low hL hT
 have hdis:∀q,L.CR c0 q→¬L.SR x.s q:=fun q hq=>(h.ts i hi q (.inr (.inr ⟨c0,A,ab,hc,.inr hq⟩))).1
 have hMF:∀r,(L.SR x.s r∨L.CR c0 r)→F r=none:=fun r hr=>hF r (hr.elim .inl fun hr=>.inr (.inr ⟨i,hi,.inr (.inr ⟨c0,A,ab,hc,.inr hr⟩)⟩))
 have key:=e05 (hL.stp x.s c0 (g.st i) (FU F (fun r=>L.SR x.s r∨L.CR c0 r) w) w (i0C A) (c::cs) (h.jj i hi c0 A ab hc) h.su hcu0 hdis o06 fun r hr=>d00 hr)
 refine(b07 (fun a ha=>g0Z hwf hMF ha) key).bind fun a u hs=>?_
 obtain⟨hgd,s',res,hrel,hsu,hsr,hres⟩:=hs u.drawn
 have hgd:Gd (FU F (fun r=>L.SR x.s r∨L.CR c0 r) w) w u:=hgd
 have hsu:L.SU s' u:=hsu
 have hus:w.heap.size≤u.heap.size:=hgd.size
 have hCM:∀q,L.CR c0 q→x7 L x i q:=fun q hq=>.inr ⟨c0,A,ab,hc,hq⟩
 have hsame:∀r,r<w.heap.size→¬x7 L x i r→u.heap[r]? =w.heap[r]?:=fun r hr hm=>d01 hgd (fun hh=>hm (hh.elim .inl (hCM r))) hr
 have hsr2:∀q,L.SR s' q→x7 L x i q∨w.heap.size≤q:=by
  intro q hq
  rcases hsr q hq with h1|h1|h1
  ·exact .inl (.inl h1)
  ·exact .inl (hCM q h1)
  ·exact .inr h1
 have hwf2:Wf F u:=by
  constructor
  intro r z hz
  obtain⟨c,e,z0,h1,h2⟩:=hwf.own r z hz
  refine⟨c,e,z0,(d01 hgd (fun hh=>?_) (Q3 h1)).trans h1,h2⟩
  rw[hMF r hh]at hz
  cases hz
 cases res with
 | inl c1=>
   obtain⟨hjj,hcu,hcr,hcs,rfl⟩:=hres
   have hcu:L.CU c1 u:=hcu
   obtain⟨q1,q2⟩:=d02 hL h hi hus hsame hsu hsr2 (call':=some (c1,A,ab)) (fun _ c2 h2=>hL.js _ _ _ _ _ _ h2 hrel) (by
    intro c A1 ab1 e
    cases e
    exact⟨hjj,hA,hcu,fun q hq=>(hcr q hq).elim (fun h1=>.inl (hCM q h1)) .inr,hcs,hk,.inl ⟨c0,A,hc⟩⟩)
   refine .stop fun d=>⟨_,?_,fun j hj=>upd_ne hj,q1.at hL d,fun r hr=>?_,.inl ⟨?_,?_⟩⟩
   ·show Stp L p i (x.s,x.th i) (s',(upd x i s' {x.th i with call:=some (c1,A,ab)}).th i)
    rw[V2]
    exact .live hc hrel
   ·rcases q2 r hr with h1|h1|⟨c2,A2,h1⟩
    ·exact .inl h1
    ·exact .inr h1
    ·cases h1
     exact .inl (.inr (.inr ⟨i,hi,hT⟩))
   ·show((upd x i s' {x.th i with call:=some (c1,A,ab)}).th i).call.isSome=true
    rw[V2]
    rfl
   ·simp only[U2,V2,List.append_assoc,List.cons_append,List.nil_append]
 | inr an=>
   obtain⟨hau,har,has,rfl⟩:=hres
   have hau:L.AU an u:=hau
   obtain⟨q1,q2⟩:=d02 hL h hi hus hsame hsu hsr2 (call':=none) (fun _ c2 h2=>hL.js _ _ _ _ _ _ h2 hrel) (by intro c A ab e;cases e)
   have hFn:∀r,OR L p x r∨w.heap.size≤r→F r=none:=fun r h=>h.elim (hF r) (m0U hwf)
   have hq2:∀r,OR L p (upd x i s' {x.th i with call:=none}) r→OR L p x r∨w.heap.size≤r:=by
    intro r hr
    rcases q2 r hr with h1|h1|⟨c2,A2,h1⟩
    ·exact .inl h1
    ·exact .inr h1
    ·cases h1
   have hti:(upd x i s' {x.th i with call:=none}).th i={x.th i with call:=none}:=V2
   have hOA:∀q,L.AR an q→OR L p x q∨w.heap.size≤q:=fun q hq=>(har q hq).elim (fun h1=>.inl (i9 hi (hCM q h1))) .inr
   refine i03 hL hP hi (ab:=ab) q1 (by rw[hti]) (by rw[hti];exact hk) hau (fun r hr=>⟨i0T hL h hi ((har r hr).elim (fun h1=>.inl ⟨c0,A,ab,hc,h1⟩) .inr) (has r hr),?_⟩) (E9 hans (hsame _ hablt (h.abM hi hc))) (B0u hL h hi hsr2 hc) hwf2 ?_ (by rw[hti];exact hA) ?_
   ·rintro rfl
    rcases har _ hr with h1|h1
    ·exact k4 h1
    ·omega
   ·rintro r (h1|rfl)
    ·exact hFn r (hq2 r h1)
    ·exact hFn _ (.inl (.inr (.inr ⟨i,hi,hT⟩)))
   ·intro w' A2 v' r1 r2 r3 r4 r5
    rw[hti]at r1 r2 r5
    have hti2:∀t:D9 L,(upd (upd x i s' {x.th i with call:=none}) i (upd x i s' {x.th i with call:=none}).s t).th i=t:=fun t=>V2
    refine(l0Y hL hP hi hF hwf c cs _ _ w' A2 rfl r1 (by rw[hti2]) r4 (by omega) ?_ (by rw[hti2];exact r5)).bind fun a u hs=>.stop fun d=>?_
    ·intro r hr
     rcases r2 r hr with h1|h1|h1
     ·exact hq2 r h1
     ·exact hOA r h1
     ·exact .inr (by omega)
    ·obtain⟨y,k1,k2,k3,k4,k5⟩:=hs d
     refine⟨y,?_,fun j hj=>?_,k3,k4,k5⟩
     ·rw[hti2]at k1
      exact .ans hc hrel k1
     ·rw[k2 j hj,upd_ne hj,upd_ne hj]
theorem p0D(hL:L.Ok)(hP:p.Ok L)(hn:g.n=p.n):(U2 L p g).Ok g where
 call:=j0s
 plain:=by
  intro x i hl
  have hl:(x.th i).call.isSome=true:=hl
  obtain⟨⟨c0,A,ab⟩,hc⟩:=Option.isSome_iff_exists.1 hl
  have e:(U2 L p g).fr x i=L.cf (g.st i) c0++[i0C A]:=by simp only[U2,hc]
  rw[e]
  refine⟨by simp,fun u hu=>?_⟩
  rcases List.mem_append.1 hu with hu|hu
  ·exact(hL.plain _ _).2 u hu
  ·rw[List.mem_singleton]at hu
   subst hu
   exact q0f A
 stable:=fun x w w' h hsz hs=>OU.stable hL h hsz hs
 fix:=fun x w r o h hr=>⟨OU.fix h r o hr,hP.cells r o hr⟩
 low:=fun x w r h hr=>OU.low hL h hr
 stpO:=by
  intro x i y j h hj
  have e:=h.2 j hj
  exact⟨by simp only[U2,e],by simp only[U2,e]⟩
 borO:=by
  intro x i y j h hj
  have e:=h.2 j hj
  exact⟨by simp only[U2,e],by simp only[U2,e]⟩
 nwO:=by
  intro x i y j h hj hnw
  have e:=h.2 j hj
  simp only[U2,e]at hnw ⊢
  exact hnw
 go:=by
  intro x i hi hl F w c cs h hwf hF
  have hl:(x.th i).call.isSome=true:=hl
  obtain⟨⟨c0,A,ab⟩,hc⟩:=Option.isSome_iff_exists.1 hl
  have e:(U2 L p g).fr x i++c::cs=L.cf (g.st i) c0++i0C A::c::cs:=by simp only[U2,hc,List.append_assoc,List.cons_append,List.nil_append]
  rw[e]
  refine(s0P hL hP (by omega) h hc hwf hF c cs).bind fun a u hs=>.stop fun d=>?_
  obtain⟨y,k1,k2,k3,k4,k5⟩:=hs d
  exact⟨y,⟨k1,k2⟩,k3,k4,k5⟩
 born:=by
  intro x i hi hnw F w c cs h hwf hF
  have h:OU L p g x w:=h
  have hob:=hP.ob w h.fix i (by omega)
  have hF:∀r,OR L p x r→F r=none:=hF
  refine E0a (sv:=Z0 (g.st i)) (ob:=p.ob i) (db:=p.db) (ib:=p.ib i) (av:=p.av) hob.c hob.z fun A hA=>?_
  refine(l0Y hL hP (by omega) hF hwf c cs _ x w A rfl h hnw.1 hwf (Nat.le_refl _) (fun r hr=>.inl hr) (by rw[hnw.2];exact hA)).bind fun a u hs=>.stop fun d=>?_
  obtain⟨y,k1,k2,k3,k4,k5⟩:=hs d
  exact⟨y,⟨k1,k2⟩,k3,k4,k5⟩
end
end Go.Proofs.YtlcgkpapnpdfpaaDoor
