/-
  BitsClaims: whatever the schedule, a number is claimed by one thread alone
  Part 2 of 4.
-/
import Derived.Test.YtlcgkpapnpdfpaaDoorZA
import Derived.WalkKit
import Derived.OwnWalk
import Derived.Maps.AppendAt
import Derived.IntWalk
import Derived.Conc.AppendWalk
import Derived.Conc.AppendEvents3
import Derived.Laws.BitsLemmas
import Derived.Laws.Bits64
set_option linter.unusedSimpArgs false
set_option linter.unusedVariables false
set_option linter.unusedSectionVars false
set_option maxRecDepth 100000
set_option maxHeartbeats 8000000
namespace Go.Proofs.YtlcgkpapnpdfpaaDoor
open Go Go.Conc Go.RowKit Go.Proofs
noncomputable section
open Go.ConcN (sumTo upd sumTo_upd upd_ne upd_same)
variable{g:S0}{F:Fz}
def b0c:Code:=Tryd.f67.body.getD .skip
def f0U:Code:=match b0c with| .seq _ y=>y|_=>.skip
def i0y:Array Oper:=match f0U with| .region _ o _=>o|_=> #[]
theorem k0V(args:Array Value):Frame.enter Tryd.prog 67 args .normal=(base 67).at {tmps:=args++Array.replicate (22 - args.size) undef,defers:=[]} [.code b0c]:=
 enter_at args Tryd.func67 rfl
def b0b(g:S0)(i:Nat)(b:Bool)(cs:List Frame):Goroutine:=
 G ((base 67).at ⟨#[vP g.tb 0,vI i,.bool b,undef,undef,undef,vP g.tb 0,vP g.tb 0,vP g.tb 1,vL g.sa 0 g.n g.sc,vI i,vP g.sa i,vP (g.st i) 0,vP (g.st i) 0,vP (g.st i) 1,
   .chan (some (g.pc i)),.bool b,vP g.tb 0,vP g.tb 0,vP g.tb 0,.chan (some g.bk),undef],[]⟩ [.inRegion i0y [4]]) cs
theorem g01 [ok:Fits g] {i:Nat} [hi:Has g i] {b:Bool}{cs:List Frame}{w:World}(hK:g.K w):
 Goes Tryd.prog true AtRel (DQ g.Still g.top) (AtGive Tryd.prog true g.Still g.top (g.pc i) (.bool b) fun x=>Sits Tryd.prog true g.K g.Still g.top (Q0 g (b0b g i b cs)) 7 x) 13 (G (Frame.enter Tryd.prog 67 #[vP g.tb 0,vI i,.bool b] .normal) cs) w:=by
 have hi':=hi.lt
 have hsl:=ok.ok.sl (Nat.lt_of_le_of_lt (Nat.zero_le _) hi')
 have hsa:g.sa<g.top:=ok.ok.low _ _ (.stand i hi')
 rw[k0V]
 simp only[b0c,Tryd.f67,Option.getD_some]
 walk_nrm
 q_c stepG_seq
 q_reg
 q_op
 q_op
 q_op
 q_ld [((hK _ _ .stands).at dd).c,((hK _ _ .stands).at dd).z]
 q_op
 (q_in;refine goes_oper_k rfl rfl (by decide) (fun K hK'=>?_);go_simp;refine hK' _ _ ⟨⟨rfl,fun e he=>?_⟩,?_⟩)
 ·have hm:=mem_listed he
  simp[go_sem, *]at hm
 clear hK' K
 (q_in;refine goes_oper_k rfl rfl (by decide) (fun K hK'=>?_)
  have h1:=((hK _ _ (.stand i hi')).at dd).c
  have h2:=((hK _ _ (.stand i hi')).at dd).z
  go_simp;refine hK' _ _ ⟨⟨rfl,fun e he=>by(have hm:=mem_listed he;simp[go_sem, *]at hm;subst hm;exact evHd_read _ hsa)⟩,?_⟩;clear hK' K)
 q_op
 q_op
 q_ld [((hK _ _ (.pass i hi')).at dd).c,((hK _ _ (.pass i hi')).at dd).z]
 q_op
 refine fun w₁ h₁=>?_
 obtain⟨d₁,rfl⟩:=h₁
 refine atGive_of (z':=.tuple #[]) rfl rfl (by decide) (fun w=>by simp[execOp,scase,Act.eval]) (fun w=>by simp[go_sem,execOp,Act.eval]) ?_ _
 refine .inl ⟨6,w,rfl,?_⟩
 rw[served_fr,Frame.finish_at]
 walk_nrm
 k_c stepG_region_end
 k_reg
 iterate 3 (k_in;refine goes_oper_k rfl rfl (by decide) (fun K hK=>?_);go_simp;refine hK _ _ ⟨⟨rfl,fun e he=>by(have hm:=mem_listed he;simp[go_sem]at hm)⟩,?_⟩;clear hK K)
 k_ld [(S0.K.lies h₁ _ _ .back).c,(S0.K.lies h₁ _ _ .back).z] (S0.still .back)
 exact fun _ _=>⟨_,atIn_of (s:=Q0 g (b0b g i b cs)) rfl rfl (by decide) (fun w=>by simp[go_sem,execOp,rcase,Act.eval,Q0,Seat.one]) (fun w=>by simp[go_sem,execOp,Act.eval]) (by simp[b0b,i0y,f0U,b0c,Tryd.f67,Q0,Seat.one])⟩
theorem g00{i:Nat}{b:Bool}{c:Frame}{cs:List Frame}{w:World}{Stop:Goroutine→World→Prop}(h:E0 Tryd.prog true F Stop (G (c.finish (.tuple #[])) cs) w):
 E0 Tryd.prog true F Stop (Go.Conc.served (b0b g i b (c::cs)) (.agg #[])) w:=by
 unfold b0b
 rw[served_fr,Frame.finish_at]
 simp only[i0y,f0U,b0c,Tryd.f67,Option.getD_some]
 walk_nrm
 refine I0 ?_
 refine G0 rfl (fun d=>stepG_end) ?_
 refine G0 rfl (fun d=>stepG_leave (fn:=Tryd.f67) (v:=.tuple #[]) rfl rfl Tryd.func67 (by simp[results,Tryd.f67]) (by simp[results,Tryd.f67,go_sem])) ?_
 exact h
end
section
open Go.ConcN (sumTo upd sumTo_upd upd_ne upd_same)
variable{g:S0}{F:Fz}{Z:R2}{A:Nat→Bool}{vs:Nat→Z3}{N:Nat→Prop}{ov:Nat→Bool}{x y:Z.X}{w w':World}{s0 nn:Nat}{Gl:Machine→Trace→Prop}{Inb:Nat→Option Seat}{h:Nat}
theorem S5 [ok:Fits g]:b0l (FK g) g.Still:=S0.covers fun a v p=>S7 ok.ok p
theorem i0u [ok:Fits g]:∀w w',Gd (FK g) w w'→g.K w→g.K w':=fun w w' hg h=>h.gd (fun a v p=>S7 ok.ok p) hg
theorem G4 [ok:Fits g] {a b:Goroutine}(ho:E0 Tryd.prog (h == 0) (FK g) (fun c u=>c=b∧∃d,u=w.at d) a w)(hk:∀d,n6 Tryd.prog g.K g.Still g.top Gl Inb h nn b (w.at d)):n6 Tryd.prog g.K g.Still g.top Gl Inb h nn a w:=by
 refine K4 (F:=FK g) V8 S5 i0u ho fun g' w0 d hS=>?_
 obtain⟨rfl,d',e⟩:=hS d
 rw[e]
 exact hk d'
theorem p0Y [ok:Fits g] (zok:Z.Ok g)(hs0:0<s0)(hAn:∀j,A j=true→j<g.n∧s0+j<nn){i:Nat}(hA:A i=true)(hl:Z.liv x i=true)(H:TI Z g (fun j=>A j=true) vs N ov x w)(hov:ov i=false){ms:Option Seat}{c:Frame}{cs:List Frame}
 (hk:∀y w',Z.stp x i y→TI Z g (fun j=>(A j && (j != i || Z.liv y i))=true) vs N (fun j=>if j=i then !Z.liv y i else ov j) y w'→G3 g N vs i w w'→
   n6 Tryd.prog g.K g.Still g.top Gl (inb Z g s0 (fun j=>A j && (j != i || Z.liv y i)) vs (some (Q0 g (b0b g i true (c::cs)))) y) 0 nn (G (c.finish (.tuple #[])) cs) w'):
 n6 Tryd.prog g.K g.Still g.top Gl (inb Z g s0 A vs ms x) 0 nn (G (Frame.enter Tryd.prog 67 #[vP g.tb 0,vI i,.bool true] .normal) (c::cs)) w:=by
 have hiH:Has g i:=⟨(hAn i hA).1⟩
 refine M2 fun _ hK _=>?_
 refine d09 V8 (g01 (cs:=c::cs) hK) fun g' d hgv=>?_
 refine o0z zok hs0 hAn hA hl (H.at zok d) hov hgv fun y w' hy H' k'=>?_
 refine G4 (g00 (.stop fun d=>⟨rfl,d,rfl⟩)) fun d'=>hk y _ hy (H'.at zok d') ?_
 exact(G3.at w d).trans (k'.trans (G3.at _ d'))
theorem h0u [ok:Fits g] (zok:Z.Ok g)(hs0:0<s0)(hAn:∀j,A j=true→j<g.n∧s0+j<nn){i:Nat}(hA:A i=true)(hl:Z.liv x i=true)(H:TI Z g (fun j=>A j=true) vs N ov x w)(hov:ov i=false){ms:Option Seat}{c:Frame}{cs:List Frame}
 (hk:∀w',TI Z g (fun j=>(A j && j != i)=true) vs N (fun j=>if j=i then true else ov j) x w'→G3 g N vs i w w'→
   n6 Tryd.prog g.K g.Still g.top Gl (inb Z g s0 (fun j=>A j && j != i) vs (some (Q0 g (b0b g i false (c::cs)))) x) 0 nn (G (c.finish (.tuple #[])) cs) w'):
 n6 Tryd.prog g.K g.Still g.top Gl (inb Z g s0 A vs ms x) 0 nn (G (Frame.enter Tryd.prog 67 #[vP g.tb 0,vI i,.bool false] .normal) (c::cs)) w:=by
 have hiH:Has g i:=⟨(hAn i hA).1⟩
 refine M2 fun _ hK _=>?_
 refine d09 V8 (g01 (cs:=c::cs) hK) fun g' d hgv=>?_
 refine o0x zok hs0 hAn hA hl (H.at zok d) hov hgv fun w' H' k'=>?_
 refine G4 (g00 (.stop fun d=>⟨rfl,d,rfl⟩)) fun d'=>hk _ (H'.at zok d') ?_
 exact(G3.at w d).trans (k'.trans (G3.at _ d'))
end
noncomputable section
variable {cs:List Frame}{main:Bool}{Stop:Goroutine→World→Prop}
open Go.ConcN (sumTo upd sumTo_upd upd_ne upd_same)
variable{g:S0}{F:Fz}{w:World}
structure E3 where
 mo:Nat
 od:Nat
 n:Nat
 lf:Nat
def K3:Code:=Tryd.f66.body.getD .skip
theorem Y6(args:Array Value):Frame.enter Tryd.prog 66 args .normal=(base 66).at {tmps:=args++Array.replicate (51 - args.size) undef,defers:=[]} [.code K3]:=
 enter_at args Tryd.func66 rfl
def X1(g:S0)(v:E3)(i:Int):Array Value:= #[vI i,vP v.n 0,vP g.tv 0,vP v.od 0,vP v.mo 0,vP v.lf 0]
theorem l0o{v:E3}{i:Int}(hi:i<0){c:Frame}(h:E0 Tryd.prog main F Stop (G (c.finish (.tuple #[])) cs) w):
 E0 Tryd.prog main F Stop (G (Frame.enter Tryd.prog 66 (X1 g v i) .normal) (c::cs)) w:=by
 have hd:decide (i<0)=true:=by simpa using hi
 unfold X1
 rw[Y6]
 simp only[K3,Tryd.f66,Option.getD_some]
 walk_nrm
 refine ogS<|ogS ?_
 (refine ogR ?_;simp only[List.size_toArray,List.length_cons,List.length_nil,Nat.reduceAdd,Nat.zero_add,List.range,List.range.loop])
 iterate 3 refine oT ?_
 refine ogU rfl rfl<|ogU rfl rfl ?_
 walk_nrm
 refine ogU rfl rfl ?_
 walk_nrm
 iterate 2 refine oT ?_
 refine ogU rfl rfl<|ogU rfl rfl ?_
 walk_nrm
 refine ogU rfl rfl<|ogU rfl rfl ?_
 walk_nrm
 refine ogU rfl rfl<|ogU rfl rfl ?_
 walk_nrm
 refine ogU rfl rfl<|ogU rfl rfl ?_
 walk_nrm
 refine ogU rfl rfl<|ogU rfl rfl ?_
 walk_nrm
 iterate 2 refine oT ?_
 refine ogU rfl rfl<|ogU rfl rfl ?_
 walk_nrm
 refine ogU rfl rfl<|ogU rfl rfl ?_
 walk_nrm
 refine oT ?_
 refine I0<|ogY<|ogX ?_
 refine G0 rfl (fun d=>stepG_leave (fn:=Tryd.f66) (v:=.tuple #[]) rfl rfl Tryd.func66 (by simp[results,Tryd.f66]) (by simp[results,Tryd.f66,go_sem])) ?_
 exact h
theorem i0L{v:E3}{i:Int}(hi:0≤i)(hn:(g.n:Int)≤i)(hl:Y0 w ⟨v.n,0,none⟩ (vI g.n)){c:Frame}(h:E0 Tryd.prog main F Stop (G (c.finish (.tuple #[])) cs) w):
 E0 Tryd.prog main F Stop (G (Frame.enter Tryd.prog 66 (X1 g v i) .normal) (c::cs)) w:=by
 have hd:decide (i<0)=false:=by simpa using hi
 have hd2:decide ((g.n:Int)≤i)=true:=by simpa using hn
 have c1:=hl.c
 have z1:=hl.z
 unfold X1
 rw[Y6]
 simp only[K3,Tryd.f66,Option.getD_some]
 walk_nrm
 refine ogS<|ogS ?_
 (refine ogR ?_;simp only[List.size_toArray,List.length_cons,List.length_nil,Nat.reduceAdd,Nat.zero_add,List.range,List.range.loop])
 iterate 4 refine oT ?_
 refine oL ?_
 iterate 3 refine oT ?_
 refine ogU rfl rfl<|ogU rfl rfl ?_
 walk_nrm
 refine ogU rfl rfl<|ogU rfl rfl ?_
 walk_nrm
 refine ogU rfl rfl<|ogU rfl rfl ?_
 walk_nrm
 refine ogU rfl rfl<|ogU rfl rfl ?_
 walk_nrm
 refine ogU rfl rfl<|ogU rfl rfl ?_
 walk_nrm
 iterate 2 refine oT ?_
 refine ogU rfl rfl<|ogU rfl rfl ?_
 walk_nrm
 refine ogU rfl rfl<|ogU rfl rfl ?_
 walk_nrm
 refine oT ?_
 refine I0<|ogY<|ogX ?_
 refine G0 rfl (fun d=>stepG_leave (fn:=Tryd.f66) (v:=.tuple #[]) rfl rfl Tryd.func66 (by simp[results,Tryd.f66]) (by simp[results,Tryd.f66,go_sem])) ?_
 exact h
theorem i0O [ok:Fits g] {v:E3}{i:Nat} [hi:Has g i] (hK:g.K w)(hl:Y0 w ⟨v.n,0,none⟩ (vI g.n))(ho:Y0 w ⟨g.st i,2,none⟩ (.bool true)){c:Frame}(h:E0 Tryd.prog main F Stop (G (c.finish (.tuple #[])) cs) w):
 E0 Tryd.prog main F Stop (G (Frame.enter Tryd.prog 66 (X1 g v i) .normal) (c::cs)) w:=by
 have hin:=hi.lt
 have hd:decide ((i:Int)<0)=false:=by simp
 have hd2:decide ((g.n:Int)≤(i:Int))=false:=by simp;omega
 have hd3:decide (g.n≤i)=false:=by simp;omega
 have hsl:=ok.ok.sl (Nat.lt_of_le_of_lt (Nat.zero_le _) hin)
 have c1:=hl.c
 have z1:=hl.z
 have c2:=(hK _ _ .tv).c
 have z2:=(hK _ _ .tv).z
 have c3:=(hK _ _ .stands).c
 have z3:=(hK _ _ .stands).z
 have c4:=(hK _ _ (.stand i hin)).c
 have z4:=(hK _ _ (.stand i hin)).z
 have c5:=ho.c
 have z5:=ho.z
 rw[hsl]at c3
 unfold X1
 rw[Y6]
 simp only[K3,Tryd.f66,Option.getD_some]
 walk_nrm
 refine ogS<|ogS ?_
 (refine ogR ?_;simp only[List.size_toArray,List.length_cons,List.length_nil,Nat.reduceAdd,Nat.zero_add,List.range,List.range.loop])
 iterate 4 refine oT ?_
 refine oL ?_
 iterate 3 refine oT ?_
 refine oL ?_
 iterate 2 refine oT ?_
 refine oL ?_
 refine oT ?_
 (refine oW fun dd K hK=>?_;go_simp;refine hK _ _ ⟨⟨⟨0,i3.refl _ _⟩,fun e he=>by(have hm:=mem_listed he;simp[go_sem, *]at hm)⟩,E0.at ?_ dd⟩;clear hK K)
 refine oL ?_
 iterate 2 refine oT ?_
 refine oL ?_
 iterate 2 refine oT ?_
 refine ogU rfl rfl<|ogU rfl rfl ?_
 walk_nrm
 refine ogU rfl rfl<|ogU rfl rfl ?_
 walk_nrm
 refine oT ?_
 refine I0<|ogY<|ogX ?_
 refine G0 rfl (fun d=>stepG_leave (fn:=Tryd.f66) (v:=.tuple #[]) rfl rfl Tryd.func66 (by simp[results,Tryd.f66]) (by simp[results,Tryd.f66,go_sem])) ?_
 exact h
theorem i0K [ok:Fits g] {v:E3}{i:Nat} [hi:Has g i] (hK:g.K w)(hl:Y0 w ⟨v.n,0,none⟩ (vI g.n))(ho:Y0 w ⟨g.st i,2,none⟩ (.bool false)){oa:Option Addr}{ol oc M:Nat}(lo:Y0 w ⟨v.od,0,none⟩ (.slice oa ol oc))(lm:Y0 w ⟨v.mo,0,none⟩ (vI M))(hM:ol=M)
 {c:Frame} {cs:List Frame} {main:Bool} {Stop:Goroutine→World→Prop} (h:E0 Tryd.prog main F Stop (G (c.finish (.tuple #[])) cs) w):
 E0 Tryd.prog main F Stop (G (Frame.enter Tryd.prog 66 (X1 g v i) .normal) (c::cs)) w:=by
 subst hM
 have hin:=hi.lt
 have hd:decide ((i:Int)<0)=false:=by simp
 have hd2:decide ((g.n:Int)≤(i:Int))=false:=by simp;omega
 have hd3:decide (g.n≤i)=false:=by simp;omega
 have hsl:=ok.ok.sl (Nat.lt_of_le_of_lt (Nat.zero_le _) hin)
 have c1:=hl.c
 have z1:=hl.z
 have c2:=(hK _ _ .tv).c
 have z2:=(hK _ _ .tv).z
 have c3:=(hK _ _ .stands).c
 have z3:=(hK _ _ .stands).z
 have c4:=(hK _ _ (.stand i hin)).c
 have z4:=(hK _ _ (.stand i hin)).z
 have c5:=ho.c
 have z5:=ho.z
 rw[hsl]at c3
 have c6:=lo.c
 have z6:=lo.z
 have c7:=lm.c
 have z7:=lm.z
 unfold X1
 rw[Y6]
 simp only[K3,Tryd.f66,Option.getD_some]
 walk_nrm
 refine ogS<|ogS ?_
 (refine ogR ?_;simp only[List.size_toArray,List.length_cons,List.length_nil,Nat.reduceAdd,Nat.zero_add,List.range,List.range.loop])
 iterate 4 refine oT ?_
 refine oL ?_
 iterate 3 refine oT ?_
 refine oL ?_
 iterate 2 refine oT ?_
 refine oL ?_
 refine oT ?_
 (refine oW fun dd K hK=>?_;go_simp;refine hK _ _ ⟨⟨⟨0,i3.refl _ _⟩,fun e he=>by(have hm:=mem_listed he;simp[go_sem, *]at hm)⟩,E0.at ?_ dd⟩;clear hK K)
 refine oL ?_
 iterate 2 refine oT ?_
 refine oL ?_
 iterate 2 refine oT ?_
 refine oL ?_
 refine oT ?_
 refine oL ?_
 iterate 2 refine oT ?_
 refine I0<|ogY<|ogX ?_
 refine G0 rfl (fun d=>stepG_leave (fn:=Tryd.f66) (v:=.tuple #[]) rfl rfl Tryd.func66 (by simp[results,Tryd.f66]) (by simp[results,Tryd.f66,go_sem])) ?_
 exact h
def step1App:Code:=match K3 with| .seq _ (.seq a _)=>a|_=>.skip
def Y3:Code:=match K3 with| .seq _ (.seq _ a)=>a|_=>.skip
def K8(g:S0)(v:E3)(i:Nat)(oa:Option Addr)(ol oc M:Nat):Act:=
 ⟨#[vI i,vP v.n 0,vP g.tv 0,vP v.od 0,vP v.mo 0,vP v.lf 0,undef,vI i,.bool false,.bool false,vI i,vI g.n,.bool false,.bool false,.bool false,
  vP g.tb 0,vP g.tb 0,vP g.tb 1,vL g.sa 0 g.n g.sc,vI i,vP g.sa i,vP (g.st i) 0,vP (g.st i) 0,vP (g.st i) 2,.bool false,.bool false,.bool false,
  .slice oa ol oc,vI ol,vI M,.bool false,.bool false,undef,undef,undef,undef,undef,undef,undef,undef,undef,undef,undef,undef,undef,undef,undef,undef,undef,undef,undef],[]⟩
theorem o0s [ok:Fits g] {v:E3}{i:Nat} [hi:Has g i] (hK:g.K w)(hl:Y0 w ⟨v.n,0,none⟩ (vI g.n))(ho:Y0 w ⟨g.st i,2,none⟩ (.bool false)){oa:Option Addr}{ol oc M:Nat}(lo:Y0 w ⟨v.od,0,none⟩ (.slice oa ol oc))(lm:Y0 w ⟨v.mo,0,none⟩ (vI M))(hM:ol≠M)
 {cs:List Frame} {main:Bool} {Stop:Goroutine→World→Prop} (h:E0 Tryd.prog main F Stop (G ((base 66).at (K8 g v i oa ol oc M) [.code step1App,.code Y3]) cs) w):
 E0 Tryd.prog main F Stop (G (Frame.enter Tryd.prog 66 (X1 g v i) .normal) cs) w:=by
 have hM2:((ol:Int) == (M:Int))=false:=by simp;omega
 have hM3:(ol == M)=false:=by simp;omega
 have hin:=hi.lt
 have hd:decide ((i:Int)<0)=false:=by simp
 have hd2:decide ((g.n:Int)≤(i:Int))=false:=by simp;omega
 have hd3:decide (g.n≤i)=false:=by simp;omega
 have hsl:=ok.ok.sl (Nat.lt_of_le_of_lt (Nat.zero_le _) hin)
 have c1:=hl.c
 have z1:=hl.z
 have c2:=(hK _ _ .tv).c
 have z2:=(hK _ _ .tv).z
 have c3:=(hK _ _ .stands).c
 have z3:=(hK _ _ .stands).z
 have c4:=(hK _ _ (.stand i hin)).c
 have z4:=(hK _ _ (.stand i hin)).z
 have c5:=ho.c
 have z5:=ho.z
 rw[hsl]at c3
 have c6:=lo.c
 have z6:=lo.z
 have c7:=lm.c
 have z7:=lm.z
 unfold X1
 rw[Y6]
 simp only[K3,Tryd.f66,Option.getD_some]
 walk_nrm
 refine ogS<|ogS ?_
 (refine ogR ?_;simp only[List.size_toArray,List.length_cons,List.length_nil,Nat.reduceAdd,Nat.zero_add,List.range,List.range.loop])
 iterate 4 refine oT ?_
 refine oL ?_
 iterate 3 refine oT ?_
 refine oL ?_
 iterate 2 refine oT ?_
 refine oL ?_
 refine oT ?_
 (refine oW fun dd K hK=>?_;go_simp;refine hK _ _ ⟨⟨⟨0,i3.refl _ _⟩,fun e he=>by(have hm:=mem_listed he;simp[go_sem, *]at hm)⟩,E0.at ?_ dd⟩;clear hK K)
 refine oL ?_
 iterate 2 refine oT ?_
 refine oL ?_
 iterate 2 refine oT ?_
 refine oL ?_
 refine oT ?_
 refine oL ?_
 iterate 2 refine oT ?_
 refine I0<|ogG<|ogK<|ogS ?_
 exact h
end
section
theorem i0G:Tryd.prog.follows .staticDataAhead=true:=by kernel_rfl
theorem f07:Tryd.prog.funcs.all (fun f=>((f.body.map readies).map (fun l=>l.isEmpty)).getD true)=true:=by kernel_rfl
theorem h0i(g:Nat):Tryd.prog.stepOf g=none:=by
 unfold Program.stepOf
 rw[Array.findIdx?_eq_none_iff]
 intro f hf
 have h:=Array.all_eq_true_iff_forall_mem.1 f07 f hf
 cases hb:f.body with
 | none=>rfl
 | some c=>
   rw[hb]at h
   simp only[Option.map_some,Option.getD_some,List.isEmpty_iff]at h
   simp[h]
theorem Z7:V5 Tryd.prog:=i0C i0G h0i
theorem ready0:p04 Tryd.prog (fun _=>false):=⟨fun px f hf=>(by cases hf),Z7⟩
end
noncomputable section
variable{g:S0}
theorem w0C:∃i,Tryd.prog.info? 3=some i∧i.zero=some (vI 0)∧i.size=1∧i.bytes=8:=by
 have h:(Tryd.prog.info? 3).map (fun i=>(i.zero.map (·.cells),i.size,i.bytes))=some (some #[vI 0],1,8):=by kernel_rfl
 have h0:(Tryd.prog.info? 3).bind (·.zero)=some (vI 0):=by kernel_rfl
 obtain⟨i,hi,h1⟩:=Option.map_eq_some_iff.1 h
 rw[hi]at h0
 simp only[Prod.mk.injEq]at h1
 exact⟨i,hi,h0,h1.2.1,h1.2.2⟩
def A9(g:S0)(v:E3)(i:Nat)(oa:Option Addr)(ol oc M:Nat)(b nv:Value):Act:=
 ⟨((((K8 g v i oa ol oc M).tmps.setIfInBounds 32 (.slice oa ol oc)).setIfInBounds 33 (vI i)).setIfInBounds 34 b).setIfInBounds 35 nv,[]⟩
def i0T(g:S0)(v:E3)(i:Nat)(oa:Option Addr)(ol oc M base:Nat)(xs:List Value)(W:World)(e:Exit)(a:Act)(w:World):Prop:=
 e= .normal∧∃nv w1,a=A9 g v i oa ol oc M (vL W.heap.size 0 1 1) nv∧w1.ownsRow base 3 1 nv (ol+1) (xs++[vI i])∧(W.alloc (.cells #[vI i] 3)).grownBy w1 (Value.ownBlock (.slice oa ol oc))∧w=w1.setCell ⟨v.od,0,none⟩ nv
theorem t02{w:World}{base:Nat}{a:Option Addr}{n c:Nat}{xs:List Value}(h:w.ownsRow base 3 1 (.slice a n c) n xs){b:Nat}(hb:∀x,a=some x→x.block≠b):Value.ownBlock (.slice a n c)≠some b:=by
 cases a with
 | none=>simp[Value.ownBlock]
 | some x=>simp only[Value.ownBlock,ne_eq,Option.some.injEq];exact hb x rfl
theorem d02{w:World}{base n:Nat}{v:Value}{xs:List Value}(h:w.ownsRow base 3 1 v (n+1) xs):∃g cap,v=vL g 0 (n+1) cap:=by
 rcases h.2 with⟨_,h⟩|⟨g,cap,_,h,_⟩
 ·omega
 ·exact⟨g,cap,h⟩
theorem d0A{W w1:World}{base b:Nat}{oa:Option Addr}{ol oc:Nat}{xs:List Value}{o:Obj}(hlt:b<W.heap.size)(hown:W.ownsRow base 3 1 (.slice oa ol oc) ol xs)(hne:∀x,oa=some x→x.block≠b)(hg:(W.alloc o).grownBy w1 (Value.ownBlock (.slice oa ol oc))):
 w1.cell? ⟨b,0,none⟩=W.cell? ⟨b,0,none⟩∧w1.frozen? ⟨b,0,none⟩=W.frozen? ⟨b,0,none⟩:=by
 have hb:w1.heap[b]? =W.heap[b]?:=(hg.block b (by simp;omega) (fun e=>t02 hown hne e.symm)).trans (o0 W _ hlt)
 exact⟨by unfold World.cell?;simp only[hb],by unfold World.frozen?;simp only[hb]⟩
theorem r06(v:E3)(i:Nat)(oa:Option Addr)(ol oc M:Nat)(W:World)(xs:List Value)(base:Nat)(hbase:base≤W.heap.size)
 (hc:W.cell? ⟨v.od,0,none⟩=some (.slice oa ol oc)) (hz:W.frozen? ⟨v.od,0,none⟩=false) (hown:W.ownsRow base 3 1 (.slice oa ol oc) ol xs) (hne:∀x,oa=some x→x.block≠v.od) (hol:ol<2000000):
 step1App.wp Tryd.prog (i0T g v i oa ol oc M base xs W) (K8 g v i oa ol oc M) W:=by
 obtain⟨i0,hi,hz0,hz1,hz2⟩:=w0C
 have hlt:v.od<W.heap.size:=by
  unfold World.cell? at hc
  rcases Nat.lt_or_ge v.od W.heap.size with h|h
  ·exact h
  ·simp[Array.getElem?_eq_none h]at hc
 simp only[step1App,K3,Tryd.f66,Option.getD_some,K8]
 go_wp2_with (at_builtin;refine wpList_append_own _ rfl _ _ 24 rfl base 3 i0 (vI 0) 1 8 Tryd.underlying24 hi hz0 hz1 hz2 rfl (by decide) _ _ _ rfl (hown.alloc _) ⟨W.heap.size,0,none⟩ 1 1 [vI i] rfl rfl (cell_one_new _ _ _) (fun x hx=>by simp at hx;subst hx;rfl) (by unfold maxLen;omega) (by omega) (by simp;omega) ?_;intro nv w1 ho1 hg1 _;obtain⟨g3,cap3,hg3⟩:=d02 ho1;subst hg3;have hc1:=(d0A hlt hown hne hg1).1.trans hc;have hz1:=(d0A hlt hown hne hg1).2.trans hz;clear hz2)
 exact⟨rfl,_,w1,rfl,ho1,hg1,rfl⟩
end
section
variable{g:S0}{F:Fz}{N:Nat→Prop}{w w':World}
theorem D1{r:Nat}(h:F r=none):(T0 F w).heap[r]? =w.heap[r]?:=by
 rw[Z2]
 cases ho:w.heap[r]? with
 | none=>rfl
 | some o=>cases o<;>simp[D2,h]
theorem C6(a:Addr):(T0 F w).cell? a=w.cell? a:=by
 unfold World.cell?
 rw[Z2]
 cases ho:w.heap[a.block]? with
 | none=>rfl
 | some o=>cases o<;>rfl
theorem d0I{a:Addr}(h:F a.block=none):(T0 F w).frozen? a=w.frozen? a:=by
 unfold World.frozen?
 rw[D1 h]
theorem f0c(hg:Gd (FT N w) w w'){r:Nat}{cur:Array Value}{e:TypeId}(h:(T0 (FT N w) w').heap[r]? =some (.cells cur e (0,0)))(hc:0<cur.size):FT N w r=none:=by
 cases hF:FT N w r with
 | none=>rfl
 | some z=>
   exfalso
   have h0:=hF
   unfold FT at h0
   split at h0
   ·rename_i c e1 z0 heq
    split at h0
    ·cases h0
     rcases hg.objs r _ heq with⟨c1,e2,z1,c',h1,h2,h3⟩|h2
     ·cases h1
      rw[Z2,h2]at h
      simp only[Option.map_some,D2,hF,Option.getD_some,Option.some.injEq,Obj.cells.injEq,Prod.mk.injEq]at h
      obtain⟨rfl,_,_,h4⟩:=h
      omega
     ·rw[Z2,h2]at h
      simp only[Option.map_some,D2,hF,Option.getD_some,Option.some.injEq,Obj.cells.injEq,Prod.mk.injEq]at h
      obtain⟨rfl,_,_,h4⟩:=h
      omega
    ·cases h0
   ·cases h0
theorem n0E(hg:Gd (FT N w) w w'){r:Nat}{cur:Array Value}{e:TypeId}(h:(T0 (FT N w) w').heap[r]? =some (.cells cur e (0,0)))(hc:0<cur.size):w'.heap[r]? =some (.cells cur e (0,0)):=by
 rw[D1 (f0c hg h hc)]at h
 exact h
theorem i0w{r:Nat}(h:FT N w r=none){a:Addr}{v:Value}(hl:Y0 w a v)(hN:N a.block):a.block≠r:=by
 rintro rfl
 obtain⟨z,hz,_⟩:=Q9 hl hN
 rw[h]at hz
 cases hz
theorem D6{W W':World}{base n:Nat}{v:Value}{xs:List Value}(h:W.ownsRow base 3 1 v n xs)(hb:∀b,Value.ownBlock v=some b→W'.heap[b]? =W.heap[b]?):W'.ownsRow base 3 1 v n xs:=by
 refine⟨h.1,?_⟩
 rcases h.2 with h2|⟨b,cap,cur,rfl,h3,h4,h5⟩
 ·exact .inl h2
 ·exact .inr ⟨b,cap,cur,rfl,h3,(hb b rfl).trans h4,h5⟩
theorem d0Y(hg:Gd (FT N w) w w'){base n:Nat}{v:Value}{xs:List Value}(h:(T0 (FT N w) w').ownsRow base 3 1 v (n+1) xs):w'.ownsRow base 3 1 v (n+1) xs∧∀b,Value.ownBlock v=some b→FT N w b=none:=by
 rcases h.2 with h2|⟨b,cap,cur,rfl,h3,h4,h5,h6,h7,h8⟩
 ·omega
 ·refine⟨⟨h.1,.inr ⟨b,cap,cur,rfl,h3,n0E hg h4 (by omega),h5,h6,h7,h8⟩⟩,fun b' hb=>?_⟩
  simp only[Value.ownBlock,Option.some.injEq]at hb
  subst hb
  exact f0c hg h4 (by omega)
end
section
variable{g:S0}{w w':World}
def U2(v:E3)(oa:Option Addr):Nat→Prop:=fun r=>r≠v.od∧∀x,oa=some x→x.block≠r
def l0A(g:S0)(v:E3)(i:Nat)(oa:Option Addr)(ol oc M base:Nat)(xs:List Value)(cs:List Frame)(w:World)(a:Goroutine)(w':World):Prop:=
 Gd (FT (U2 v oa) w) w w'∧∃b nv,a=G ((Go.Conc.base 66).at (A9 g v i oa ol oc M b nv) [.code Y3]) cs∧(w'.ownsRow base 3 1 nv (ol+1) (xs++[vI i])∧∀b,Value.ownBlock nv=some b→FT (U2 v oa) w b=none)∧(∃c,w'.heap[v.od]? =some (.cells c 24 (0,0))∧c[0]? =some nv)
theorem r05:W3 Tryd.prog (fun _=>false) false step1App=true:=by kernel_rfl
theorem p0I{v:E3}{i:Nat}{oa:Option Addr}{ol oc M base:Nat}{xs:List Value}(hbase:base≤w.heap.size)(hod:∃c,w.heap[v.od]? =some (.cells c 24 (0,0))∧c[0]? =some (.slice oa ol oc))(hown:w.ownsRow base 3 1 (.slice oa ol oc) ol xs)(hol:ol<2000000){cs:List Frame}:
 E0 Tryd.prog true (FT (U2 v oa) w) (l0A g v i oa ol oc M base xs cs w) (G ((Go.Conc.base 66).at (K8 g v i oa ol oc M) [.code step1App,.code Y3]) cs) w:=by
 obtain⟨c,ho1,ho2⟩:=hod
 have hne:∀x,oa=some x→x.block≠v.od:=by
  rintro x rfl e
  rcases hown.2 with⟨h,_⟩|⟨b,cap,cur,h,_,h4,_⟩
  ·cases h
  ·cases h
   simp only at e
   rw[e,ho1]at h4
   cases h4
 have hFo:FT (U2 v oa) w v.od=none:=c0F fun h=>h.1 rfl
 have hFr:∀x,oa=some x→FT (U2 v oa) w x.block=none:=fun x hx=>c0F fun h=>h.2 x hx rfl
 refine o0f (o0d (Q:=fun e a' W'=>∃W,W.heap=(T0 (FT (U2 v oa) w) w).heap∧i0T g v i oa ol oc M base xs W e a' W') ready0 false (by simp) r05 (j0M w) rfl (fun e a w h=>by obtain⟨_,_,h,_⟩:=h;exact .inl h) (fun τ e=>?_) (by decide)) fun a' w' hE=>?_
 ·refine Code.wp_mono (fun e1 a1 w1 h=>⟨retape (T0 (FT (U2 v oa) w) w) τ e,rfl,h⟩) (r06 v i oa ol oc M _ xs base (by simpa [retape]using hbase) ?_ ?_ (D6 hown fun b hb=>?_) hne hol)
  ·have:=C6 (F:=FT (U2 v oa) w) (w:=w) ⟨v.od,0,none⟩
   refine(show _=_ from this).trans ?_
   simp[World.cell?,ho1,ho2]
  ·refine(show _=_ from d0I (F:=FT (U2 v oa) w) (w:=w) (a:=⟨v.od,0,none⟩) hFo).trans ?_
   simp[World.frozen?,ho1]
  ·cases oa with
   | none=>cases hb
   | some x=>cases hb;exact D1 (hFr x rfl)
 ·obtain⟨hwf,hg,⟨a1,τ,e,rfl,W,hW,h0,nv,w1,h1,h2,h3,h4⟩|⟨_,_,_,_,_,_,_,h0,_⟩⟩:=hE
  ·refine⟨hg,_,nv,by rw[h1],?_,?_⟩
   ·refine d0Y hg ?_
    have:(retape (T0 (FT (U2 v oa) w) w') τ e).ownsRow base 3 1 nv (ol+1) (xs++[vI i]):=by
     rw[h4]
     refine D6 h2 fun b hb=>m0 _ _ _ ?_
     rintro rfl
     have e1:w1.heap[v.od]? =some (.cells c 24 (0,0)):=by
      have hlt:v.od<W.heap.size:=by rw[hW,J3];exact(D4 ho1)
      rw[h3.block v.od (by simp;omega) (fun e=>by
       cases oa with
       | none=>cases e
       | some x=>simp only[Value.ownBlock,Option.some.injEq]at e;exact hne x rfl e.symm),o0 _ _ hlt,hW,D1 hFo]
      exact ho1
     rcases h2.2 with⟨_,h⟩|⟨b,cap,cur,hv,_,h5,_⟩
     ·omega
     ·subst hv
      simp only[Value.ownBlock,Option.some.injEq]at hb
      rw[hb,e1]at h5
      cases h5
    exact this
   ·have hlt:v.od<W.heap.size:=by rw[hW,J3];exact(D4 ho1)
    have e1:w1.heap[v.od]? =some (.cells c 24 (0,0)):=by
     rw[h3.block v.od (by simp;omega) (fun e=>by
      cases oa with
      | none=>cases e
      | some x=>simp only[Value.ownBlock,Option.some.injEq]at e;exact hne x rfl e.symm),o0 _ _ hlt,hW,D1 hFo]
     exact ho1
    have e2:(retape (T0 (FT (U2 v oa) w) w') τ e).heap[v.od]? =w'.heap[v.od]?:=D1 hFo
    rw[h4]at e2
    have hc0:0<c.size:=(D4 ho2)
    exact⟨c.setIfInBounds 0 nv,by rw[← e2];simp[World.setCell,Array.getElem?_modify,e1],by simp[hc0]⟩
  ·cases h0
end
noncomputable section
variable {cs:List Frame}{main:Bool}{Stop:Goroutine→World→Prop}
variable{g:S0}{F:Fz}{w w':World}
def b0U:Code:=match Y3 with| .seq c _=>c|_=>.skip
def L8:Array Oper:=match b0U with| .region _ o _=>o|_=> #[]
def b0V:Code:=match Y3 with| .seq _ c=>c|_=>.skip
def B7(g:S0)(v:E3)(i:Nat)(oa:Option Addr)(ol oc M:Nat)(b nv:Value):Frame:=
 (Go.Conc.base 66).at ⟨#[vI i,vP v.n 0,vP g.tv 0,vP v.od 0,vP v.mo 0,vP v.lf 0,undef,vI i,.bool false,.bool false,vI i,vI g.n,.bool false,.bool false,.bool false,
   vP g.tb 0,vP g.tb 0,vP g.tb 1,vL g.sa 0 g.n g.sc,vI i,vP g.sa i,vP (g.st i) 0,vP (g.st i) 0,vP (g.st i) 2,.bool false,.bool false,.bool false,
   .slice oa ol oc,vI ol,vI M,.bool false,.bool false,.slice oa ol oc,vI i,b,nv,vP g.tb 0,vI i,undef,undef,undef,undef,undef,undef,undef,undef,undef,undef,undef,undef,undef],[]⟩ [.inRegion L8 [2],.code b0V]
theorem d0q:X0 67:=G1 Tryd.func67 rfl rfl
theorem i0J{v:E3}{i:Nat}{oa:Option Addr}{ol oc M:Nat}{b nv:Value}(hK:g.K w)
 (h:E0 Tryd.prog main F Stop (G (Frame.enter Tryd.prog 67 #[vP g.tb 0,vI i,.bool true] .normal) (B7 g v i oa ol oc M b nv::cs)) w):
 E0 Tryd.prog main F Stop (G ((Go.Conc.base 66).at (A9 g v i oa ol oc M b nv) [.code Y3]) cs) w:=by
 have c1:=(hK _ _ .tv).c
 have z1:=(hK _ _ .tv).z
 have hc:=d0q
 simp only[Y3,K3,Tryd.f66,Option.getD_some,A9,K8]
 walk_nrm
 refine ogS ?_
 (refine ogR ?_;simp only[List.size_toArray,List.length_cons,List.length_nil,Nat.reduceAdd,Nat.zero_add,List.range,List.range.loop])
 refine oL ?_
 refine oT ?_
 refine j6 (f:=67) (args:= #[vP g.tb 0,vI i,.bool true]) rfl rfl (by decide) (fun w=>by simp[execOp,Act.eval,resolve,invoke,Deferred.ofValue,hc.run]) (fun w=>by simp[execOp,Act.eval,resolve,invoke,Deferred.ofValue,hc.run,hc.quiet]) ?_
 exact h
theorem i0N [ok:Fits g] {v:E3}{i:Nat} [hi:Has g i] {oa:Option Addr}{ol oc M:Nat}{b nv:Value}(hK:g.K w)(ho:Y0 w ⟨g.st i,2,none⟩ (.bool false)){c:Frame}
 (h:E0 Tryd.prog main F Stop (G (c.finish (.tuple #[])) cs) w):
 E0 Tryd.prog main F Stop (G ((B7 g v i oa ol oc M b nv).finish (.tuple #[])) (c::cs)) w:=by
 have hin:=hi.lt
 have hsl:=ok.ok.sl (Nat.lt_of_le_of_lt (Nat.zero_le _) hin)
 have c2:=(hK _ _ .tv).c
 have z2:=(hK _ _ .tv).z
 have c3:=(hK _ _ .stands).c
 have z3:=(hK _ _ .stands).z
 have c4:=(hK _ _ (.stand i hin)).c
 have z4:=(hK _ _ (.stand i hin)).z
 have c5:=ho.c
 have z5:=ho.z
 rw[hsl]at c3
 unfold B7
 rw[Frame.finish_at]
 simp only[L8,b0U,b0V,Y3,K3,Tryd.f66,Option.getD_some]
 walk_nrm
 refine I0<|ogS ?_
 (refine ogR ?_;simp only[List.size_toArray,List.length_cons,List.length_nil,Nat.reduceAdd,Nat.zero_add,List.range,List.range.loop])
 refine oL ?_
 iterate 2 refine oT ?_
 refine oL ?_
 refine oT ?_
 refine oX ?_
 refine oL ?_
 iterate 2 refine oT ?_
 refine oL ?_
 refine I0<|ogG<|ogK ?_
 refine G0 rfl (fun d=>stepG_end) ?_
 refine G0 rfl (fun d=>stepG_leave (fn:=Tryd.f66) (v:=.tuple #[]) rfl rfl Tryd.func66 (by simp[results,Tryd.f66]) (by simp[results,Tryd.f66,go_sem])) ?_
 exact h
theorem i0M [ok:Fits g] {v:E3}{i:Nat} [hi:Has g i] {oa:Option Addr}{ol oc M:Nat}{b nv:Value}(hK:g.K w)(ho:Y0 w ⟨g.st i,2,none⟩ (.bool true)){lf:Nat}(hl:Y0 w ⟨v.lf,0,none⟩ (vI (lf+1:Nat)))(hlf:lf<1000000)(hnh:¬held F ⟨v.lf,0,none⟩){c:Frame}
 (h:E0 Tryd.prog main F Stop (G (c.finish (.tuple #[])) cs) (w.setCell ⟨v.lf,0,none⟩ (vI lf))):
 E0 Tryd.prog main F Stop (G ((B7 g v i oa ol oc M b nv).finish (.tuple #[])) (c::cs)) w:=by
 have hin:=hi.lt
 have hsl:=ok.ok.sl (Nat.lt_of_le_of_lt (Nat.zero_le _) hin)
 have c2:=(hK _ _ .tv).c
 have z2:=(hK _ _ .tv).z
 have c3:=(hK _ _ .stands).c
 have z3:=(hK _ _ .stands).z
 have c4:=(hK _ _ (.stand i hin)).c
 have z4:=(hK _ _ (.stand i hin)).z
 have c5:=ho.c
 have z5:=ho.z
 have c6:=hl.c
 have z6:=hl.z
 rw[hsl]at c3
 have hw:IntKind.i64.wrap (((lf+1:Nat):Int) - 1)=(lf:Int):=by
  rw[show(((lf+1:Nat):Int) - 1)=(lf:Int)by omega]
  exact IntWalk.i64_in _ (by omega)
 have hw2:IntKind.i64.wrap ((lf:Int)+1 - 1)=(lf:Int):=by
  rw[show((lf:Int)+1 - 1)=(lf:Int)by omega]
  exact IntWalk.i64_in _ (by omega)
 unfold B7
 rw[Frame.finish_at]
 simp only[L8,b0U,b0V,Y3,K3,Tryd.f66,Option.getD_some]
 walk_nrm
 refine I0<|ogS ?_
 (refine ogR ?_;simp only[List.size_toArray,List.length_cons,List.length_nil,Nat.reduceAdd,Nat.zero_add,List.range,List.range.loop])
 refine oL ?_
 iterate 2 refine oT ?_
 refine oL ?_
 refine oT ?_
 refine oX ?_
 refine oL ?_
 iterate 2 refine oT ?_
 refine oL ?_
 refine I0<|ogY ?_
 (refine ogR ?_;simp only[List.size_toArray,List.length_cons,List.length_nil,Nat.reduceAdd,Nat.zero_add,List.range,List.range.loop])
 refine oL ?_
 refine oT ?_
 refine E0.of_goes rfl (fun dd=>?_);refine goes_oper_k rfl rfl (by decide) (fun K hK=>?_)
 go_simp
 refine hK _ _ ⟨⟨⟨0,M1 rfl hnh _⟩,fun e he=>by(have hm:=mem_listed he;clear he hK;simp[go_sem,storedEv,c6,z6]at hm;subst hm;exact V0 _ _ hnh)⟩,?_⟩;clear hK K;rw[setCell_at'];refine E0.at ?_ dd
 refine I0 ?_
 refine G0 rfl (fun d=>stepG_end) ?_
 refine G0 rfl (fun d=>stepG_leave (fn:=Tryd.f66) (v:=.tuple #[]) rfl rfl Tryd.func66 (by simp[results,Tryd.f66]) (by simp[results,Tryd.f66,go_sem])) ?_
 rw[IntWalk.i64_in (lf:Int) (by omega)]
 exact h
end
section
variable{g:S0}{F:Fz}{Z:R2}{vs:Nat→Z3}{N:Nat→Prop}{ov:Nat→Bool}{x:Z.X}{w w':World}
structure G5(Z:R2)(g:S0)(vs:Nat→Z3)(Al N:Nat→Prop)(b:Nat):Prop where
 n:N b
 st:∀j,j<g.n→b≠g.st j
 br:b≠g.br
 place:∀a u,g.Place a u→b≠a.block
 vars:∀j,Al j→b≠(vs j).x∧b≠(vs j).i∧b≠(vs j).e
 inp:Z.I b=none
theorem G5.mono{Al Al' N:Nat→Prop}{b:Nat}(h:G5 Z g vs Al N b)(hA:∀j,Al' j→Al j):G5 Z g vs Al' N b:=⟨h.n,h.st,h.br,h.place,fun j hj=>h.vars j (hA j hj),h.inp⟩
structure MI(Z:R2)(g:S0)(vs:Nat→Z3)(Al N:Nat→Prop)(v:E3)(base M:Nat)(oa:Option Addr)(ol oc:Nat)(xs:List Value)(lf:Nat)(w:World):Prop where
 n:Y0 w ⟨v.n,0,none⟩ (vI g.n)
 mo:Y0 w ⟨v.mo,0,none⟩ (vI M)
 lf:Y0 w ⟨v.lf,0,none⟩ (vI lf)
 od:∃c,w.heap[v.od]? =some (.cells c 24 (0,0))∧c[0]? =some (.slice oa ol oc)
 row:w.ownsRow base 3 1 (.slice oa ol oc) ol xs
 an:G5 Z g vs Al N v.n
 amo:G5 Z g vs Al N v.mo
 alf:G5 Z g vs Al N v.lf
 aod:G5 Z g vs Al N v.od
 arow:∀y,oa=some y→G5 Z g vs Al N y.block
 dn:v.n≠v.od∧v.mo≠v.od∧v.lf≠v.od∧v.lf≠v.n∧v.lf≠v.mo
 drow:∀y,oa=some y→y.block≠v.n∧y.block≠v.mo∧y.block≠v.lf
 base:base≤w.heap.size
variable{Al Al':Nat→Prop}{v:E3}{base M:Nat}{oa:Option Addr}{ol oc:Nat}{xs:List Value}{lf:Nat}
theorem MI.mono(h:MI Z g vs Al N v base M oa ol oc xs lf w)(hA:∀j,Al' j→Al j):MI Z g vs Al' N v base M oa ol oc xs lf w:=
 ⟨h.n,h.mo,h.lf,h.od,h.row,h.an.mono hA,h.amo.mono hA,h.alf.mono hA,h.aod.mono hA,fun y hy=>(h.arow y hy).mono hA,h.dn,h.drow,h.base⟩
theorem MI.kept(h:MI Z g vs Al N v base M oa ol oc xs lf w){i:Nat}(hi:i<g.n)(hA:Al i)(k:G3 g N vs i w w'):MI Z g vs Al N v base M oa ol oc xs lf w':=by
 have lk:∀b u,Y0 w ⟨b,0,none⟩ u→G5 Z g vs Al N b→Y0 w' ⟨b,0,none⟩ u:=fun b u hl ha=>k.lies _ _ hl ha.n (.inl (ha.st i hi)) (ha.vars i hA).2.2 (.inl ha.br)
 obtain⟨c,h1,h2⟩:=h.od
 have hs:∀b c e,w.heap[b]? =some (.cells c e (0,0))→G5 Z g vs Al N b→w'.heap[b]? =w.heap[b]?:=fun b c e hb ha=>k.same b c e _ hb ha.n (ha.st i hi) (ha.vars i hA).2.2 ha.br
 refine⟨lk _ _ h.n h.an,lk _ _ h.mo h.amo,lk _ _ h.lf h.alf,⟨c,(hs _ _ _ h1 h.aod).trans h1,h2⟩,D6 h.row fun b hb=>?_,h.an,h.amo,h.alf,h.aod,h.arow,h.dn,h.drow,Nat.le_trans h.base k.size⟩
 cases oa with
 | none=>cases hb
 | some y=>
   simp only[Value.ownBlock,Option.some.injEq]at hb
   subst hb
   rcases h.row.2 with⟨h3,_⟩|⟨b,cap,cur,h3,_,h4,_⟩
   ·cases h3
   ·cases h3
    exact hs _ _ _ h4 (h.arow _ rfl)
end
section
variable{g:S0}{F:Fz}{Z:R2}{vs:Nat→Z3}{N:Nat→Prop}{ov:Nat→Bool}{x:Z.X}{w w':World}{Al Al':Nat→Prop}{v:E3}{base M:Nat}{oa:Option Addr}{ol oc:Nat}{xs:List Value}{lf:Nat}
theorem l0k(hg:Gd (FT (U2 v oa) w) w w'){b:Nat}{cur:Array Value}(h:w'.heap[b]? =some (.cells cur 3 (0,0)))(hf:FT (U2 v oa) w b=none)(hod:∃c,w.heap[v.od]? =some (.cells c 24 (0,0))):(∃y,oa=some y∧y.block=b)∨w.heap.size≤b:=by
 rcases Nat.lt_or_ge b w.heap.size with hlt|hge
 ·refine .inl (Classical.byContradiction fun hno=>?_)
  have hne:∀y,oa=some y→y.block≠b:=fun y hy e=>hno ⟨y,hy,e⟩
  obtain⟨o,ho⟩:∃o,w.heap[b]? =some o:=⟨_,Array.getElem?_eq_getElem hlt⟩
  rcases hg.objs b o ho with⟨c1,e1,z1,c',rfl,h2,_⟩|h2
  ·rw[h]at h2
   cases h2
   by_cases e:b=v.od
   ·subst e
    obtain⟨c,hc⟩:=hod
    rw[hc]at ho
    cases ho
   ·unfold FT at hf
    rw[ho]at hf
    simp only at hf
    rw[if_pos ⟨e,hne⟩]at hf
    cases hf
  ·rw[h]at h2
   cases h2
   by_cases e:b=v.od
   ·subst e
    obtain⟨c,hc⟩:=hod
    rw[hc]at ho
    cases ho
   ·unfold FT at hf
    rw[ho]at hf
    simp only at hf
    rw[if_pos ⟨e,hne⟩]at hf
    cases hf
 ·exact .inr hge
def d0z(N:Nat→Prop)(w w':World):Nat→Prop:=fun r=>N r∨(w.heap.size≤r∧r<w'.heap.size)
theorem TI.grown(zok:Z.Ok g)(H0:TI Z g Al vs N ov x w)(H:TI Z g Al vs N ov x w'):TI Z g Al vs (d0z N w w') ov x w':=
 ⟨H.u,H.over,H.brk,H.vars,H.chans,fun r hr hn=>by
  rcases hn with hn|hn
  ·exact H.apart r hr hn
  ·have:=zok.low x w r H0.u hr;omega,
  fun r hr=>by rcases hr with hr|hr;exact H.nlow r hr;exact hr.2,fun a u p=>.inl (H.nplace a u p),fun j hj=>.inl (H.nst j hj),fun h=>.inl (H.nbr h),fun j hj=>by obtain⟨h1,h2,h3⟩:=H.nvars j hj;exact⟨.inl h1,.inl h2,.inl h3⟩,fun c hc=>.inl (H.nchan c hc),H.vsep,fun r hr=>by obtain⟨h1,h2⟩:=H.inp r hr;exact⟨.inl h1,h2⟩⟩
theorem G5.grown{b:Nat}(h:G5 Z g vs Al N b)(w w':World):G5 Z g vs Al (d0z N w w') b:=⟨.inl h.n,h.st,h.br,h.place,h.vars,h.inp⟩
theorem MI.noted(zok:Z.Ok g)(H:TI Z g Al vs N ov x w)(hn:0<g.n)(hK:g.K w)(h:MI Z g vs Al N v base M oa ol oc xs lf w){i:Nat}{cs:List Frame}{a:Goroutine}(hN:l0A g v i oa ol oc M base xs cs w a w'):
 ∃b nv oa' oc',nv= .slice oa' (ol+1) oc'∧a=G ((Go.Conc.base 66).at (A9 g v i oa ol oc M b nv) [.code Y3]) cs∧MI Z g vs Al (d0z N w w') v base M oa' (ol+1) oc' (xs++[vI i]) lf w':=by
 obtain⟨hg,b,nv,rfl,⟨hrow,hfree⟩,c',hod1,hod2⟩:=hN
 obtain⟨b1,oc',hnv⟩:=d02 hrow
 subst hnv
 refine⟨b,_,some ⟨b1,0,none⟩,oc',rfl,rfl,?_⟩
 obtain⟨cod,hod,_⟩:=h.od
 have hf:FT (U2 v oa) w b1=none:=hfree b1 rfl
 have hb1:∃cur,w'.heap[b1]? =some (.cells cur 3 (0,0)):=by
  rcases hrow.2 with⟨h3,_⟩|⟨b2,cap,cur,h3,_,h4,_⟩
  ·cases h3
  ·cases h3;exact⟨cur,h4⟩
 obtain⟨cur,hb1⟩:=hb1
 have hwh:=l0k hg hb1 hf ⟨cod,hod⟩
 have hkeep:∀{a u},Y0 w a u→a.block≠v.od→(∀y,oa=some y→y.block≠a.block)→Y0 w' a u:=fun hl h1 h2=>y6 hg hl ⟨h1,h2⟩
 have hsep:∀{a u},Y0 w a u→a.block≠v.od→(∀y,oa=some y→y.block≠a.block)→b1≠a.block:=fun hl h1 h2=>(i0w hf hl ⟨h1,h2⟩).symm
 obtain⟨d1,d2,d3,d4,d5⟩:=h.dn
 have r1:=fun y hy=>(h.drow y hy).1
 have r2:=fun y hy=>(h.drow y hy).2.1
 have r3:=fun y hy=>(h.drow y hy).2.2
 refine⟨hkeep h.n d1 r1,hkeep h.mo d2 r2,hkeep h.lf d3 r3,⟨c',hod1,hod2⟩,hrow,h.an.grown _ _,h.amo.grown _ _,h.alf.grown _ _,h.aod.grown _ _,fun y hy=>?_,h.dn,fun y hy=>?_,Nat.le_trans h.base hg.size⟩
 ·cases hy
  have hb1lt:b1<w'.heap.size:=(D4 hb1)
  rcases hwh with⟨y,hy,e⟩|hge
  ·have:=(h.arow y hy).grown w w'
   rw[e]at this
   exact this
  ·refine⟨.inr ⟨hge,hb1lt⟩,fun j hj e=>?_,fun e=>?_,fun a u p e=>?_,fun j hj=>?_,?_⟩
   ·have:=(H.over j hj).lt;simp only at this e;omega
   ·obtain⟨bb,hbb⟩:=H.brk 0 hn;have:=hbb.lt;simp only at this e;omega
   ·have:=(hK a u p).lt;simp only at e;omega
   ·have q1:=(H.vars j hj).x.lt
    have q2:=(H.vars j hj).i.lt
    have q3:=(H.vars j hj).e.lt
    simp only at q1 q2 q3 ⊢
    omega
   ·cases e:Z.I b1 with
    | none=>rfl
    | some o=>have:=H.ilow zok (r:=b1) (by rw[e];simp);omega
 ·cases hy
  exact⟨hsep h.n d1 r1,hsep h.mo d2 r2,hsep h.lf d3 r3⟩
end
section
variable{g:S0}{F:Fz}{Z:R2}{vs:Nat→Z3}{N B:Nat→Prop}{ov:Nat→Bool}{x:Z.X}{w w':World}{Al Al':Nat→Prop}{v:E3}{base M:Nat}{oa:Option Addr}{ol oc:Nat}{xs:List Value}{lf:Nat}
theorem TI.gd(zok:Z.Ok g)(H:TI Z g Al vs N ov x w)(hg:Gd (FT B w) w w')(hst:∀j,j<g.n→B (g.st j))(hbr:0<g.n→B g.br)(hvars:∀j,Al j→B (vs j).x∧B (vs j).i∧B (vs j).e)(hR:∀r,Z.R x r∨Z.I r≠none→B r):TI Z g Al vs N ov x w':=
 ⟨zok.stable x w w' H.u hg.size fun r hr=>f0R hg (hR r hr) (hr.elim (zok.low x w r H.u) (H.ilow zok)),fun j hj=>y6 hg (H.over j hj) (hst j hj),fun j hj=>(H.brk j hj).imp fun b h=>y6 hg h (hbr (by omega)),fun j hj=>(H.vars j hj).of fun a u h e=>y6 hg h (by
  obtain⟨h1,h2,h3⟩:=hvars j hj
  rcases e with e|e|e<;>rw[e]<;>assumption),fun c hc=>by obtain⟨cap,k,h⟩:=H.chans c hc;exact⟨cap,k,j0H hg h⟩,
  H.apart,fun r h=>Nat.lt_of_lt_of_le (H.nlow r h) hg.size,H.nplace,H.nst,H.nbr,H.nvars,H.nchan,H.vsep,H.inp⟩
theorem TI.noted(zok:Z.Ok g)(H:TI Z g Al vs N ov x w)(h:MI Z g vs Al N v base M oa ol oc xs lf w){i:Nat}{cs:List Frame}{a:Goroutine}(hN:l0A g v i oa ol oc M base xs cs w a w'):
 TI Z g Al vs (d0z N w w') ov x w':=by
 have hR:∀r,Z.R x r∨Z.I r≠none→U2 v oa r:=fun r hr=>hr.elim (fun hr=>⟨fun e=>H.apart r hr (e ▸ h.aod.n),fun y hy e=>H.apart r hr (e ▸ (h.arow y hy).n)⟩) fun hr=>⟨fun e=>hr (e ▸ h.aod.inp),fun y hy e=>hr (e ▸ (h.arow y hy).inp)⟩
 have h1:=H.gd zok hN.1 (fun j hj=>⟨(h.aod.st j hj).symm,fun y hy=>(h.arow y hy).st j hj⟩) (fun hn=>⟨h.aod.br.symm,fun y hy=>(h.arow y hy).br⟩)
  (fun j hj=>⟨⟨(h.aod.vars j hj).1.symm,fun y hy=>((h.arow y hy).vars j hj).1⟩,⟨(h.aod.vars j hj).2.1.symm,fun y hy=>((h.arow y hy).vars j hj).2.1⟩,⟨(h.aod.vars j hj).2.2.symm,fun y hy=>((h.arow y hy).vars j hj).2.2⟩⟩) hR
 exact H.grown zok h1
theorem o0I(H:TI Z g Al vs N ov x w)(hK:g.K w)(h:MI Z g vs Al N v base M oa ol oc xs lf w)(hg:Gd (FT (U2 v oa) w) w w'):g.K w':=
 ⟨fun a u p=>y6 hg (hK a u p) ⟨(h.aod.place a u p).symm,fun y hy=>(h.arow y hy).place a u p⟩,hK.an.gd hg⟩
theorem j0u(hK:g.K w)(h:MI Z g vs Al N v base M oa ol oc xs lf w):∀a u,g.Place a u→held (FT (U2 v oa) w) a:=
 fun a u p=>Q9 (hK a u p) ⟨(h.aod.place a u p).symm,fun y hy=>(h.arow y hy).place a u p⟩
end
section
open Go.ConcN (sumTo upd sumTo_upd upd_ne upd_same)
variable{g:S0}{F:Fz}{Z:R2}{A:Nat→Bool}{vs:Nat→Z3}{N B:Nat→Prop}{ov:Nat→Bool}{x:Z.X}{w w':World}{s0 nn:Nat}{Gl:Machine→Trace→Prop}{v:E3}{base M:Nat}{oa:Option Addr}{ol oc:Nat}{xs:List Value}{lf:Nat}
theorem MI.at{Al:Nat→Prop}(h:MI Z g vs Al N v base M oa ol oc xs lf w)(d:Nat):MI Z g vs Al N v base M oa ol oc xs lf (w.at d):=
 ⟨h.n.at d,h.mo.at d,h.lf.at d,h.od,h.row,h.an,h.amo,h.alf,h.aod,h.arow,h.dn,h.drow,h.base⟩
theorem TI.setLf{Al:Nat→Prop}{b:Nat}{u:Value}(zok:Z.Ok g)(H:TI Z g Al vs N ov x w)(ha:G5 Z g vs Al N b):TI Z g Al vs N ov x (w.setCell ⟨b,0,none⟩ u):=by
 have hL:∀a v,Y0 w a v→a.block≠b→Y0 (w.setCell ⟨b,0,none⟩ u) a v:=fun a v h h1=>h.setCell (.inl (Ne.symm h1)) rfl
 refine⟨zok.stable x w _ H.u (by simp) (fun r hr=>m0 _ _ _ (hr.elim (fun hr e=>H.apart r hr (e ▸ ha.n)) fun hr e=>hr (e ▸ ha.inp))),fun j hj=>hL _ _ (H.over j hj) (ha.st j hj).symm,fun j hj=>(H.brk j hj).imp fun _ h=>hL _ _ h (Ne.symm ha.br),fun j hj=>(H.vars j hj).of fun a u h e=>hL a u h ?_,
  fun c hc=>?_,H.apart,fun r h=>by simpa using H.nlow r h,H.nplace,H.nst,H.nbr,H.nvars,H.nchan,H.vsep,H.inp⟩
 ·obtain⟨h1,h2,h3⟩:=ha.vars j hj
  rcases e with e|e|e<;>rw[e]<;>first|exact Ne.symm h1|exact Ne.symm h2|exact Ne.symm h3
 ·obtain⟨cap,k,h⟩:=H.chans c hc
  by_cases e:c=b
  ·subst e
   exact⟨cap,k,by simp[World.setCell,Array.getElem?_modify,h]⟩
  ·exact⟨cap,k,(m0 _ _ _ e).trans h⟩
theorem MI.setLf{Al:Nat→Prop}{l1:Nat}(h:MI Z g vs Al N v base M oa ol oc xs lf w):MI Z g vs Al N v base M oa ol oc xs l1 (w.setCell ⟨v.lf,0,none⟩ (vI l1)):=by
 obtain⟨d1,d2,d3,d4,d5⟩:=h.dn
 obtain⟨c,h1,h2⟩:=h.od
 refine⟨h.n.setCell (.inl d4) rfl,h.mo.setCell (.inl d5) rfl,h.lf.put,⟨c,(m0 _ _ _ (Ne.symm d3)).trans h1,h2⟩,D6 h.row fun b hb=>m0 _ _ _ ?_,h.an,h.amo,h.alf,h.aod,h.arow,h.dn,h.drow,by simpa using h.base⟩
 cases oa with
 | none=>cases hb
 | some y=>
   simp only[Value.ownBlock,Option.some.injEq]at hb
   subst hb
   exact(h.drow _ rfl).2.2
theorem o0y [ok:Fits g] (zok:Z.Ok g)(hs0:0<s0)(hAn:∀j,A j=true→j<g.n∧s0+j<nn){i:Nat}(hA:A i=true)(hl:Z.liv x i=true)(H:TI Z g (fun j=>A j=true) vs N ov x w)(hov:ov i=false)
 (HM:MI Z g vs (fun j=>A j=true) N v base M oa ol oc xs lf w) (hM:ol≠M) (hol:ol<2000000) (hlf:0<lf) (hlf2:lf<1000000) {ms:Option Seat} {c:Frame} {cs:List Frame}
 (hk:∀y w' N' oa' oc' ms',Z.stp x i y→TI Z g (fun j=>(A j && (j != i || Z.liv y i))=true) vs N' (fun j=>if j=i then !Z.liv y i else ov j) y w'→
   MI Z g vs (fun j=>(A j && (j != i || Z.liv y i))=true) N' v base M oa' (ol+1) oc' (xs++[vI i]) (if Z.liv y i then lf else lf - 1) w'→
   n6 Tryd.prog g.K g.Still g.top Gl (inb Z g s0 (fun j=>A j && (j != i || Z.liv y i)) vs ms' y) 0 nn (G (c.finish (.tuple #[])) cs) w'):
 n6 Tryd.prog g.K g.Still g.top Gl (inb Z g s0 A vs ms x) 0 nn (G (Frame.enter Tryd.prog 66 (X1 g v i) .normal) (c::cs)) w:=by
 obtain⟨hin,hnn⟩:=hAn i hA
 have hiH:Has g i:=⟨hin⟩
 have hn0:0<g.n:=by omega
 refine M2 fun _ hK _=>?_
 have ho:=H.over i hin
 rw[hov]at ho
 obtain⟨cod,hod1,hod2⟩:=HM.od
 refine K4 (F:=FK g) (Stop:=fun a u=>a=G ((Go.Conc.base 66).at (K8 g v i oa ol oc M) [.code step1App,.code Y3]) (c::cs)∧∃d,u=w.at d) V8 S5 i0u
  (o0s hK HM.n ho ⟨⟨cod,_,hod1,hod2⟩,rfl⟩ HM.mo hM (.stop fun d=>⟨rfl,d,rfl⟩)) fun g' w0 d hS=>?_
 obtain⟨rfl,d',e⟩:=hS d
 rw[e]
 have H0:=H.at zok d'
 have HM0:MI Z g vs (fun j=>A j=true) N v base M oa ol oc xs lf (w.at d'):=HM.kept hin hA (G3.at w d')
 have hK0:=hK.at d'
 clear e hK ho H HM hod1 hod2 hS
 generalize w.at d'=w at*
 refine K4 (F:=FT (U2 v oa) w) V8 (S0.covers (j0u hK0 HM0)) (fun w1 w2 hg h=>h.gd (j0u hK0 HM0) hg) (p0I HM0.base HM0.od HM0.row hol (cs:=c::cs)) fun g' w0 d hS=>?_
 have hN:=hS d
 generalize w0.at d=w1 at*
 obtain⟨b,nv,oa',oc',rfl,rfl,HM1⟩:=MI.noted zok H0 hn0 hK0 HM0 hN
 have H1:=H0.noted zok HM0 hN
 have hK1:=o0I H0 hK0 HM0 hN.1
 clear hS hN H0 HM0 hK0
 generalize d0z N w w1=N1 at*
 refine G4 (b:=G (Frame.enter Tryd.prog 67 #[vP g.tb 0,vI i,.bool true] .normal) (B7 g v i oa ol oc M b (.slice oa' (ol+1) oc')::c::cs)) (i0J hK1 (.stop fun d=>⟨rfl,d,rfl⟩)) fun d=>?_
 have H2:=H1.at zok d
 have HM2:=HM1.kept hin hA (G3.at w1 d)
 clear H1 HM1 hK1
 generalize w1.at d=w2 at*
 refine p0Y zok hs0 hAn hA hl H2 hov fun y w3 hy H3 k3=>?_
 have HM3:=(HM2.kept hin hA k3).mono (Al':=fun j=>(A j && (j != i || Z.liv y i))=true) fun j hj=>by
  simp only[Bool.and_eq_true]at hj;exact hj.1
 refine M2 fun _ hK3 _=>?_
 have ho3:=H3.over i hin
 rw[if_pos rfl]at ho3
 rcases Bool.eq_false_or_eq_true (Z.liv y i)with hlv|hlv
 ·skip
  rw[hlv]at ho3
  refine G4 (b:=G (c.finish (.tuple #[])) cs) (i0N hK3 ho3 (.stop fun d=>⟨rfl,d,rfl⟩)) fun d=>?_
  have:=hk y (w3.at d) N1 oa' oc' (some (Q0 g (b0b g i true (B7 g v i oa ol oc M b (.slice oa' (ol+1) oc')::c::cs)))) hy (H3.at zok d)
  refine this ?_
  rw[if_pos hlv]
  exact HM3.at d
 ·rw[hlv]at ho3
  obtain⟨l1,rfl⟩:∃l1,lf=l1+1:=⟨lf - 1,by omega⟩
  have hnh:¬held (FK g) ⟨v.lf,0,none⟩:=W7 (f0Q (fun j hj=>HM3.alf.st j hj) fun a u p=>HM3.alf.place a u p)
  refine K4 (F:=FK g) (Stop:=fun a u=>a=G (c.finish (.tuple #[])) cs∧∃d,u=(w3.setCell ⟨v.lf,0,none⟩ (vI l1)).at d) V8 S5 i0u
   (i0M hK3 ho3 HM3.lf (by omega) hnh (.stop fun d=>⟨rfl,d,rfl⟩)) fun g' w0 d hS=>?_
  obtain⟨rfl,d',e⟩:=hS d
  rw[e]
  have:=hk y ((w3.setCell ⟨v.lf,0,none⟩ (vI l1)).at d') N1 oa' oc' (some (Q0 g (b0b g i true (B7 g v i oa ol oc M b (.slice oa' (ol+1) oc')::c::cs)))) hy ((H3.setLf zok HM3.alf).at zok d')
  refine this ?_
  rw[if_neg (by simp[hlv])]
  exact HM3.setLf.at d'
end
section
def idR : Code → Nat
  | .region i _ _ => i
  | .block i _ => i
  | _ => 0
section
variable {P : Program} {F : Fz} {main : Bool} {Stop : Goroutine → World → Prop} {a : Act} {k : List Item} {b : Frame} {cs : List Frame} {w : World}
theorem ogW (x y : Code) {s : Code} (h : E0 P main F Stop (G (b.at a (.inRegion (oC x) (List.range (oC x).size) :: .code y :: k)) cs) w) (h1 : s = .seq x y := by kernel_rfl) (h2 : x = .region (idR x) (oC x) false := by kernel_rfl) : E0 P main F Stop (G (b.at a (.code s :: k)) cs) w := by
  rw [h1]
  refine G0 rfl (fun d => stepG_seq) ?_
  have h3 : ∀ (z : Code) (i : Nat) (o : Array Oper), z = .region i o false → E0 P main F Stop (G (b.at a (.inRegion o (List.range o.size) :: .code y :: k)) cs) w → E0 P main F Stop (G (b.at a (.code z :: .code y :: k)) cs) w := fun z i o e h => by subst e; exact G0 rfl (fun d => stepG_region) h
  exact h3 x _ _ h2 h
theorem ogV (x y : Code) {s : Code} (h : E0 P main F Stop (G (b.at a (.code x :: .code y :: k)) cs) w) (h1 : s = .seq x y := by kernel_rfl) : E0 P main F Stop (G (b.at a (.code s :: k)) cs) w := by
  subst h1
  exact G0 rfl (fun d => stepG_seq) h
theorem z0e (c : Code) {x : Code} (h : E0 P main F Stop (G (b.at a (.code c :: .inBlock (idR x) :: k)) cs) w) (h1 : x = .block (idR x) c := by kernel_rfl) : E0 P main F Stop (G (b.at a (.code x :: k)) cs) w := by
  have h3 : ∀ (z : Code) (i : Nat), z = .block i c → E0 P main F Stop (G (b.at a (.code c :: .inBlock i :: k)) cs) w → E0 P main F Stop (G (b.at a (.code z :: k)) cs) w := fun z i e h => by subst e; exact G0 rfl (fun d => stepG_block) h
  exact h3 x _ h1 h
def cO : Code → Operand
  | .cond c _ _ => c
  | _ => .tmp 0
def tO : Code → Code
  | .cond _ x _ => x
  | x => x
def eO : Code → Code
  | .cond _ _ x => x
  | x => x
theorem ogGn (y : Code) {x : Code} (h : E0 P main F Stop (G (b.at a (.code y :: k)) cs) w) (h1 : x = .cond (cO x) (tO x) y := by kernel_rfl) (hc : a.eval (cO x) = .bool false := by exact rfl) : E0 P main F Stop (G (b.at a (.code x :: k)) cs) w := by
  have h3 : ∀ (z : Code) (c : Operand) (t : Code), z = .cond c t y → a.eval c = .bool false → E0 P main F Stop (G (b.at a (.code y :: k)) cs) w → E0 P main F Stop (G (b.at a (.code z :: k)) cs) w := fun z c t e hc h => by subst e; exact ogG h hc
  exact h3 x _ _ h1 hc h
theorem ogYn (y : Code) {x : Code} (h : E0 P main F Stop (G (b.at a (.code y :: k)) cs) w) (h1 : x = .cond (cO x) y (eO x) := by kernel_rfl) (hc : a.eval (cO x) = .bool true := by exact rfl) : E0 P main F Stop (G (b.at a (.code x :: k)) cs) w := by
  have h3 : ∀ (z : Code) (c : Operand) (t : Code), z = .cond c y t → a.eval c = .bool true → E0 P main F Stop (G (b.at a (.code y :: k)) cs) w → E0 P main F Stop (G (b.at a (.code z :: k)) cs) w := fun z c t e hc h => by subst e; exact ogY h hc
  exact h3 x _ _ h1 hc h
end
section
variable{P:Program}(w:World)(es:Array Event)
@[go_sem] theorem r0q(ts:Array TypeId)(t:TypeId)(k k':IntKind)(x y:Int):(Builtin.max_ ts t #[.int k x,.int k' y]).events P w es=es:=by simp[Builtin.max_,Builtin.max2]
@[go_sem] theorem r0r(ts:Array TypeId)(t:TypeId)(k k':IntKind)(x y:Int):(Builtin.min_ ts t #[.int k x,.int k' y]).events P w es=es:=by simp[Builtin.min_,Builtin.min2]
end
end
noncomputable section
def J0:Code:=Tryd.f54.body.getD .skip
def y0V:=pC [] J0
def x0n:=pC [zt] J0
def x0w:=pC [zf] J0
def x0o:=pC [zf,zt] J0
def x0x:=pC [zf] x0w
def x0p:=pC [zf,zf,zt] J0
def p0G:=pC [zf] x0x
def g06:=pC [zf,zf,zf,zt] J0
def n05:=pC [zf] p0G
def x0B:=pC [zt] n05
def x0r:=pC [zf,zf,zf,zf,zt,zt] J0
def t0C:=pC [zf] x0B
def t0Q:=pC [zt] t0C
def V9:=pC [zt] t0Q
def p0F:=pC [zf,zf,zf,zf,zt,zf,zt,zt,zt] J0
def p0H:=pC [zf] V9
def r0y:=pC [zt] p0H
def t01:=pC [zf] p0H
def x0c:=pC [zt] t01
def f02:=pC [zf,zf,zf,zf,zt,zf,zt,zt,zf,zf,zt,zt] J0
def k09:=pC [zf,zf,zf,zf,zt,zf,zt,zt,zf,zf,zf] J0
def a0k:=pC [zf] n05
def x0u:=pC [zf,zf,zf,zf,zf,zt] J0
def n0Z:=pC [zf] a0k
def r0L:=pC [zt] n0Z
def x0v:=pC [zf,zf,zf,zf,zf,zf,zt,zt] J0
def t0E:=pC [zf] r0L
def n0S:=pC [zt] t0E
def I3:=pC [zt] n0S
def j01:=pC [zf,zf,zf,zf,zf,zf,zt,zf,zt,zt,zt] J0
def j08:=pC [zf] I3
def r0z:=pC [zt] j08
def n00:=pC [zf] j08
def t0F:=pC [zt] n00
def r0M:=pC [zt] t0F
def r0D:=pC [zf,zf,zf,zf,zf,zf,zt,zf,zt,zt,zf,zf,zt,zt,zt] J0
def r0N:=pC [zf] r0M
def a0j:=pC [zf,zf,zf,zf,zf,zf,zt,zf,zt,zt,zf,zf,zt,zt,zf,zt] J0
def f0k:=pC [zf] r0N
def d0O:=pC [zf,zf,zf,zf,zf,zf,zt,zf,zt,zt,zf,zf,zt,zt,zf,zf,zt] J0
def n01:=pC [zf] f0k
def j02:=pC [zf,zf,zf,zf,zf,zf,zt,zf,zt,zt,zf,zf,zt,zt,zf,zf,zf,zt] J0
def r0A:=pC [zf] n01
def j03:=pC [zf,zf,zf,zf,zf,zf,zt,zf,zt,zt,zf,zf,zt,zt,zf,zf,zf,zf,zt] J0
def b0d:=pC [zf,zf,zf,zf,zf,zf,zt,zf,zt,zt,zf,zf,zf] J0
def L5:=pC [zf] n0Z
def r0E:=pC [zf,zf,zf,zf,zf,zf,zf,zt] J0
def n02:=pC [zf] L5
def r0O:=pC [zt] n02
def r0F:=pC [zf,zf,zf,zf,zf,zf,zf,zf,zt,zt] J0
def t0G:=pC [zf] r0O
def n0T:=pC [zt] t0G
def R6:=pC [zt] n0T
def j04:=pC [zf,zf,zf,zf,zf,zf,zf,zf,zt,zf,zt,zt,zt] J0
def j09:=pC [zf] R6
def r0B:=pC [zt] j09
def n03:=pC [zf] j09
def t0H:=pC [zt] n03
def x0y:=pC [zt] t0H
def r0G:=pC [zf,zf,zf,zf,zf,zf,zf,zf,zt,zf,zt,zt,zf,zf,zt,zt,zt] J0
def c0t:=pC [zf,zf,zf,zf,zf,zf,zf,zf,zt,zf,zt,zt,zf,zf,zt,zt,zf] J0
def d0P:=pC [zf,zf,zf,zf,zf,zf,zf,zf,zt,zf,zt,zt,zf,zf,zf] J0
def w9:=pC [zf] n02
def t0I:=pC [zt] w9
def n0U:=pC [zt] t0I
def X3:=pC [zt] n0U
def k0a:=pC [zt] X3
def f0i:=pC [zf,zf,zf,zf,zf,zf,zf,zf,zf,zt,zt,zt,zt,zt] J0
def n0R:=pC [zf] k0a
def n0P:=pC [zf] X3
def r0P:=pC [zt] n0P
def r0H:=pC [zf,zf,zf,zf,zf,zf,zf,zf,zf,zt,zt,zt,zf,zt,zt] J0
def t0J:=pC [zf] r0P
def n0V:=pC [zt] t0J
def S6:=pC [zt] n0V
def j05:=pC [zf,zf,zf,zf,zf,zf,zf,zf,zf,zt,zt,zt,zf,zt,zf,zt,zt,zt] J0
def k0b:=pC [zf] S6
def r0C:=pC [zt] k0b
def n04:=pC [zf] k0b
def t0K:=pC [zt] n04
def x0A:=pC [zt] t0K
def r0I:=pC [zf,zf,zf,zf,zf,zf,zf,zf,zf,zt,zt,zt,zf,zt,zf,zt,zt,zf,zf,zt,zt,zt] J0
def c0u:=pC [zf,zf,zf,zf,zf,zf,zf,zf,zf,zt,zt,zt,zf,zt,zf,zt,zt,zf,zf,zt,zt,zf] J0
def d0Q:=pC [zf,zf,zf,zf,zf,zf,zf,zf,zf,zt,zt,zt,zf,zt,zf,zt,zt,zf,zf,zf] J0
def F4:=pC [zf] w9
def r0J:=pC [zf,zf,zf,zf,zf,zf,zf,zf,zf,zf,zt] J0
def n06:=pC [zf] F4
def r0Q:=pC [zt] n06
def r0K:=pC [zf,zf,zf,zf,zf,zf,zf,zf,zf,zf,zf,zt,zt] J0
def n0N:=pC [zf] r0Q
def n0W:=pC [zt] n0N
def C5:=pC [zt] n0W
def f0j:=pC [zf,zf,zf,zf,zf,zf,zf,zf,zf,zf,zf,zt,zf,zt,zt,zt] J0
def g07:=pC [zf] C5
def i0D:=pC [zt] g07
def k0c:=pC [zf] g07
def j00:=pC [zt] k0c
def r0R:=pC [zt] j00
def j06:=pC [zf,zf,zf,zf,zf,zf,zf,zf,zf,zf,zf,zt,zf,zt,zt,zf,zf,zt,zt,zt] J0
def n07:=pC [zf] r0R
def j07:=pC [zf,zf,zf,zf,zf,zf,zf,zf,zf,zf,zf,zt,zf,zt,zt,zf,zf,zt,zt,zf,zt] J0
def n0Q:=pC [zf] n07
def c0v:=pC [zf,zf,zf,zf,zf,zf,zf,zf,zf,zf,zf,zt,zf,zt,zt,zf,zf,zt,zt,zf,zf,zt] J0
def b0e:=pC [zf,zf,zf,zf,zf,zf,zf,zf,zf,zf,zf,zt,zf,zt,zt,zf,zf,zf] J0
def T6:=pC [zf] n06
def d0R:=pC [zf,zf,zf,zf,zf,zf,zf,zf,zf,zf,zf,zf,zt] J0
theorem x0z:p0G= .seq g06 n05:=by kernel_rfl
theorem x0q:g06= .region 3 (oC g06) true:=by kernel_rfl
theorem x0b:t0C= .block 0 t0Q:=by kernel_rfl
theorem x0m:t0Q= .loop V9:=by kernel_rfl
theorem x0d:x0c= .block 1 f02:=by kernel_rfl
theorem x0s:f02= .region 6 (oC f02) true:=by kernel_rfl
theorem x0t:k09= .region 7 (oC k09) false:=by kernel_rfl
theorem x0e:t0E= .block 2 n0S:=by kernel_rfl
theorem t0L:n0S= .loop I3:=by kernel_rfl
theorem x0f:t0F= .block 3 r0M:=by kernel_rfl
theorem t0R:a0j= .region 12 (oC a0j) true:=by kernel_rfl
theorem t00:f0k= .seq d0O n01:=by kernel_rfl
theorem t0S:d0O= .region 13 (oC d0O) false:=by kernel_rfl
theorem t0T:j03= .region 15 (oC j03) false:=by kernel_rfl
theorem n0X:b0d= .region 16 (oC b0d) false:=by kernel_rfl
theorem x0g:t0G= .block 4 n0T:=by kernel_rfl
theorem t0M:n0T= .loop R6:=by kernel_rfl
theorem x0h:t0H= .block 5 x0y:=by kernel_rfl
theorem t0U:c0t= .region 21 (oC c0t) false:=by kernel_rfl
theorem t0V:d0P= .region 22 (oC d0P) false:=by kernel_rfl
theorem x0i:t0I= .block 6 n0U:=by kernel_rfl
theorem t0N:n0U= .loop X3:=by kernel_rfl
theorem x0j:n0P= .block 7 r0P:=by kernel_rfl
theorem x0k:t0J= .block 8 n0V:=by kernel_rfl
theorem t0O:n0V= .loop S6:=by kernel_rfl
theorem x0l:t0K= .block 9 x0A:=by kernel_rfl
theorem t0W:c0u= .region 27 (oC c0u) false:=by kernel_rfl
theorem t0X:d0Q= .region 28 (oC d0Q) false:=by kernel_rfl
theorem t0D:n0N= .block 10 n0W:=by kernel_rfl
theorem t0P:n0W= .loop C5:=by kernel_rfl
theorem n0O:j00= .block 11 r0R:=by kernel_rfl
theorem t0Y:c0v= .region 34 (oC c0v) false:=by kernel_rfl
theorem n0Y:b0e= .region 35 (oC b0e) false:=by kernel_rfl
theorem t0Z:d0R= .region 36 (oC d0R) true:=by kernel_rfl
end
noncomputable section
variable {cs:List Frame}{main:Bool}{Stop:Goroutine→World→Prop}
open Go.ConcN (sumTo upd sumTo_upd upd_ne upd_same)
variable{g:S0}{F:Fz}{w w':World}
def i6(s:Nat→Value):Array Value:= #[s 0,s 1,s 2,s 3,s 4,s 5,s 6,s 7,s 8,s 9,s 10,s 11,s 12,s 13,s 14,s 15,s 16,s 17,s 18,s 19,s 20,s 21,s 22,s 23,s 24,s 25,s 26,s 27,s 28,s 29,s 30,s 31,s 32,s 33,s 34,s 35,s 36,s 37,s 38,s 39,s 40,s 41,s 42,s 43,s 44,s 45,s 46,s 47,s 48,s 49,s 50,s 51,s 52,s 53,s 54,s 55,s 56,s 57,s 58,s 59,s 60,s 61,s 62,s 63,s 64,s 65,s 66,s 67,s 68,s 69,s 70,s 71,s 72,s 73,s 74,s 75,s 76,s 77,s 78,s 79,s 80,s 81,s 82,s 83,s 84,s 85,s 86,s 87,s 88,s 89,s 90,s 91,s 92,s 93,s 94,s 95,s 96,s 97,s 98,s 99,s 100,s 101,s 102,s 103,s 104,s 105,s 106,s 107,s 108,s 109,s 110,s 111,s 112,s 113,s 114,s 115,s 116,s 117,s 118,s 119,s 120,s 121,s 122,s 123,s 124,s 125,s 126,s 127,s 128]
theorem y0U{A:Array Value}(h:A.size=129):∃s,A=i6 s:=by
 obtain⟨s,hs,_⟩:=F3 A h
 exact⟨s,hs⟩
def f01(g:S0)(v:E3):List (Nat×Value):=[(5,vP v.mo 0),(6,vP v.od 0),(8,.slice none 0 0),(9,vP v.n 0),(10,vP g.tv 0),(11,vP v.lf 0)]
def L3(g:S0)(v:E3)(thr sch:Value)(i:Nat):List (Nat×Value):=(0,thr)::(1,sch)::(7,.bool false)::(46,vI g.n)::(47,vI i)::f01 g v
theorem w0S [ok:Fits g] {v:E3}{tb tl tc:Nat}{sch fv:Value}{i:Nat}(hi:i<g.n)(htl:i<tl)(hK:g.K w)(hf:w.cell? ⟨tb,i,none⟩=some fv)(hfz:w.frozen? ⟨tb,i,none⟩=false){A:Array Value}(hA:D0 129 A (L3 g v (vL tb 0 tl tc) sch i))
 (h:∀A,D0 129 A ((12,vI i)::(50,vP g.tb 0)::(51,vI i)::(55,fv)::L3 g v (vL tb 0 tl tc) sch i)→E0 Tryd.prog main F Stop (G (bA 54 A [.inRegion (oC a0j) [6],.code f0k,.inBlock 3,.code b0d,.inLoop I3,.inBlock 2,.code L5]) cs) w):
 E0 Tryd.prog main F Stop (G (bA 54 A [.code I3,.inLoop I3,.inBlock 2,.code L5]) cs) w:=by
 obtain⟨s,rfl,h0,h1,h7,h46,h47,h5,h6,h8,h9,h10,h11,_⟩:=D5 i6 hA
 simp only[i6,h0,h1,h7,h46,h47,h5,h6,h8,h9,h10,h11]
 clear h0 h1 h7 h46 h47 h5 h6 h8 h9 h10 h11
 have hlt:decide ((i:Int)<(g.n:Int))=true:=by simp;omega
 have hlt2:decide (i<g.n)=true:=by simp;omega
 have ct:=(hK _ _ .tv).c
 have zt:=(hK _ _ .tv).z
 refine ogW j01 j08 ?_
 simp only[j01,J0,Tryd.f54,zz,Nat.reduceAdd]
 refine oT ?_
 refine I0<|ogV r0z n00<|ogYn .skip<|ogK<|ogV t0F b0d ?_
 rw[x0f]
 refine K5<|ogW r0D r0N ?_
 simp only[r0D,J0,Tryd.f54,zz,Nat.reduceAdd]
 iterate 2 refine oT ?_
 refine I0<|ogV a0j f0k ?_
 rw[t0R]
 refine X7 (last:=6) K2 (Q6 (by kernel_rfl)) (by decide) ?_
 simp only[a0j,J0,Tryd.f54,zz,Nat.reduceAdd]
 refine I4 (i:=0) (v:=vP g.tb 0) rfl rfl (by kernel_rfl) (by kernel_rfl) (by kernel_rfl) (.inl ⟨rfl,fun d=>⟨by simp[go_sem,execOp,Act.eval, *],fun e he=>by have hm:=mem_listed he;simp[go_sem,execOp,Act.eval, *]at hm;subst hm;exact M0 _ _⟩⟩) ?_
 walk_nrm
 refine I4 (i:=1) (v:=vI i) rfl rfl (by kernel_rfl) (by kernel_rfl) (by kernel_rfl) (.inl ⟨rfl,fun d=>⟨by simp[go_sem,execOp,Act.eval, *],fun e he=>by have hm:=mem_listed he;simp[go_sem,execOp,Act.eval, *]at hm⟩⟩) ?_
 walk_nrm
 refine I4 (i:=2) (v:=vL tb 0 tl tc) rfl rfl (by kernel_rfl) (by kernel_rfl) (by kernel_rfl) (.inl ⟨rfl,fun d=>⟨by simp[go_sem,execOp,Act.eval, *],fun e he=>by have hm:=mem_listed he;simp[go_sem,execOp,Act.eval, *]at hm⟩⟩) ?_
 walk_nrm
 refine I4 (i:=3) (v:=vI i) rfl rfl (by kernel_rfl) (by kernel_rfl) (by kernel_rfl) (.inl ⟨rfl,fun d=>⟨by simp[go_sem,execOp,Act.eval, *],fun e he=>by have hm:=mem_listed he;simp[go_sem,execOp,Act.eval, *]at hm⟩⟩) ?_
 walk_nrm
 refine I4 (i:=4) (v:=vP tb i) rfl rfl (by kernel_rfl) (by kernel_rfl) (by kernel_rfl) (.inl ⟨rfl,fun d=>⟨by simp[go_sem,execOp,Act.eval, *],fun e he=>by have hm:=mem_listed he;simp[go_sem,execOp,Act.eval, *]at hm⟩⟩) ?_
 walk_nrm
 refine I4 (i:=5) (v:=fv) rfl rfl (by kernel_rfl) (by kernel_rfl) (by kernel_rfl) (.inl ⟨rfl,fun d=>⟨by simp[go_sem,execOp,Act.eval, *],fun e he=>by have hm:=mem_listed he;simp[go_sem,execOp,Act.eval, *]at hm;subst hm;exact M0 _ _⟩⟩) ?_
 walk_nrm
 refine M7 (by kernel_rfl) ?_ _
 exact h _ ⟨rfl,rfl,rfl,rfl,rfl,rfl,rfl,rfl,rfl,rfl,rfl,rfl,rfl,rfl,rfl,rfl,trivial⟩
def g04(cs:List Frame)(A:Array Value):Goroutine:=G (bA 54 A [.inRegion (oC d0O) [4],.code n01,.inBlock 3,.code b0d,.inLoop I3,.inBlock 2,.code L5]) cs
theorem w0T [ok:Fits g] {v:E3}{thr sch:Value}{i:Nat}{A:Array Value}(hA:D0 129 A ((12,vI i)::L3 g v thr sch i)){cs:List Frame}(w:World):
 ∃A2,D0 129 A2 ((12,vI i)::L3 g v thr sch i)∧Sits Tryd.prog true g.K g.Still g.top (Q0 g (g04 cs A2)) 8 (G (bA 54 A [.inRegion (oC a0j) [],.code f0k,.inBlock 3,.code b0d,.inLoop I3,.inBlock 2,.code L5]) cs):=by
 obtain⟨s,rfl,h12,h0,h1,h7,h46,h47,h5,h6,h8,h9,h10,h11,_⟩:=D5 i6 hA
 simp only[i6,h12,h0,h1,h7,h46,h47,h5,h6,h8,h9,h10,h11]
 clear h12 h0 h1 h7 h46 h47 h5 h6 h8 h9 h10 h11
 refine⟨#[thr,sch,s 2,s 3,s 4,vP v.mo 0,vP v.od 0,.bool false,.slice none 0 0,vP v.n 0,vP g.tv 0,vP v.lf 0,vI i,s 13,s 14,s 15,s 16,s 17,s 18,s 19,s 20,s 21,s 22,s 23,s 24,s 25,s 26,s 27,s 28,s 29,s 30,s 31,s 32,s 33,s 34,s 35,s 36,s 37,s 38,s 39,s 40,s 41,s 42,s 43,s 44,s 45,vI g.n,vI i,s 48,s 49,s 50,s 51,s 52,s 53,s 54,s 55,vP g.tb 0,vP g.tb 0,vP g.tb 0,.chan (some g.bk),s 60,s 61,s 62,s 63,s 64,s 65,s 66,s 67,s 68,s 69,s 70,s 71,s 72,s 73,s 74,s 75,s 76,s 77,s 78,s 79,s 80,s 81,s 82,s 83,s 84,s 85,s 86,s 87,s 88,s 89,s 90,s 91,s 92,s 93,s 94,s 95,s 96,s 97,s 98,s 99,s 100,s 101,s 102,s 103,s 104,s 105,s 106,s 107,s 108,s 109,s 110,s 111,s 112,s 113,s 114,s 115,s 116,s 117,s 118,s 119,s 120,s 121,s 122,s 123,s 124,s 125,s 126,s 127,s 128],⟨rfl,rfl,rfl,rfl,rfl,rfl,rfl,rfl,rfl,rfl,rfl,rfl,rfl,trivial⟩,.inl ⟨7,w,rfl,?_⟩⟩
 k_c stepG_region_end
 rw[t00]
 k_c stepG_seq
 rw[t0S]
 simp only[d0O,J0,Tryd.f54,zz,Nat.reduceAdd]
 k_reg
 k_ld [(S0.K.lies h₁ _ _ .tv).c,(S0.K.lies h₁ _ _ .tv).z] (S0.still .tv)
 iterate 2 (k_in;refine goes_oper_k rfl rfl (by decide) (fun K hK=>?_);go_simp;refine hK _ _ ⟨⟨rfl,fun e he=>by(have hm:=mem_listed he;simp[go_sem]at hm)⟩,?_⟩;clear hK K)
 k_ld [(S0.K.lies h₁ _ _ .back).c,(S0.K.lies h₁ _ _ .back).z] (S0.still .back)
 refine fun _ _=>⟨_,atIn_of (s:=Q0 g (g04 cs #[thr,sch,s 2,s 3,s 4,vP v.mo 0,vP v.od 0,.bool false,.slice none 0 0,vP v.n 0,vP g.tv 0,vP v.lf 0,vI i,s 13,s 14,s 15,s 16,s 17,s 18,s 19,s 20,s 21,s 22,s 23,s 24,s 25,s 26,s 27,s 28,s 29,s 30,s 31,s 32,s 33,s 34,s 35,s 36,s 37,s 38,s 39,s 40,s 41,s 42,s 43,s 44,s 45,vI g.n,vI i,s 48,s 49,s 50,s 51,s 52,s 53,s 54,s 55,vP g.tb 0,vP g.tb 0,vP g.tb 0,.chan (some g.bk),s 60,s 61,s 62,s 63,s 64,s 65,s 66,s 67,s 68,s 69,s 70,s 71,s 72,s 73,s 74,s 75,s 76,s 77,s 78,s 79,s 80,s 81,s 82,s 83,s 84,s 85,s 86,s 87,s 88,s 89,s 90,s 91,s 92,s 93,s 94,s 95,s 96,s 97,s 98,s 99,s 100,s 101,s 102,s 103,s 104,s 105,s 106,s 107,s 108,s 109,s 110,s 111,s 112,s 113,s 114,s 115,s 116,s 117,s 118,s 119,s 120,s 121,s 122,s 123,s 124,s 125,s 126,s 127,s 128])) rfl rfl (by decide) (fun w=>by simp[go_sem,execOp,rcase,Act.eval,Q0,Seat.one]) (fun w=>by simp[go_sem,execOp,Act.eval]) ?_⟩
 rfl
theorem w0U [ok:Fits g] {v:E3}{thr sch:Value}{i:Nat} [hi:Has g i] (hn64:g.n≤64)(hK:g.K w)(ho:Y0 w ⟨g.st i,2,none⟩ (.bool false)){lf:Nat}(hl:Y0 w ⟨v.lf,0,none⟩ (vI lf))(hlf:lf<1000000)(hnh:¬held F ⟨v.lf,0,none⟩){A:Array Value}(hA:D0 129 A ((12,vI i)::L3 g v thr sch i))
 (h:∀A,D0 129 A (L3 g v thr sch (i+1))→E0 Tryd.prog main F Stop (G (bA 54 A [.code I3,.inLoop I3,.inBlock 2,.code L5]) cs) (w.setCell ⟨v.lf,0,none⟩ (vI (lf+1:Nat)))):
 E0 Tryd.prog main F Stop (Go.Conc.served (g04 cs A) (.agg #[])) w:=by
 obtain⟨s,rfl,h12,h0,h1,h7,h46,h47,h5,h6,h8,h9,h10,h11,_⟩:=D5 i6 hA
 simp only[i6,h12,h0,h1,h7,h46,h47,h5,h6,h8,h9,h10,h11]
 clear h12 h0 h1 h7 h46 h47 h5 h6 h8 h9 h10 h11
 have hin:=hi.lt
 have hi64:(i:Int)<100:=by have:=hn64;omega
 have hsl:=ok.ok.sl (Nat.lt_of_le_of_lt (Nat.zero_le _) hin)
 have ct:=(hK _ _ .tv).c
 have zt:=(hK _ _ .tv).z
 have c3:=(hK _ _ .stands).c
 have z3:=(hK _ _ .stands).z
 have c4:=(hK _ _ (.stand i hin)).c
 have z4:=(hK _ _ (.stand i hin)).z
 have c5:=ho.c
 have z5:=ho.z
 have hwi:IntKind.i64.wrap ((i:Int)+1)=(i:Int)+1:=IntWalk.i64_in _ (by omega)
 rw[hsl]at c3
 have c6:=hl.c
 have z6:=hl.z
 have hw:IntKind.i64.wrap ((lf:Int)+1)=(lf:Int)+1:=IntWalk.i64_in _ (by omega)
 unfold g04
 rw[served_fr,Frame.finish_at]
 simp only[d0O,J0,Tryd.f54,zz,Nat.reduceAdd]
 walk_nrm
 refine I0<|ogW j02 r0A ?_
 simp only[j02,J0,Tryd.f54,zz,Nat.reduceAdd]
 refine oL ?_
 iterate 2 refine oT ?_
 refine oL ?_
 refine oT ?_
 refine oX ?_
 refine oL ?_
 iterate 2 refine oT ?_
 refine oL ?_
 refine oT ?_
 refine I0<|ogYn j03 ?_
 rw[t0T]
 refine ogR ?_
 simp only[j03,J0,Tryd.f54,zz,Nat.reduceAdd]
 refine oL ?_
 refine oT ?_
 (refine oW fun dd K hK=>?_;go_simp;refine hK _ _ ⟨⟨⟨0,M1 rfl hnh _⟩,fun e he=>by(have hm:=mem_listed he;clear he hK;simp[go_sem,storedEv,c6,z6]at hm;subst hm;exact V0 _ _ hnh)⟩,?_⟩;clear hK K;rw[setCell_at'];refine E0.at ?_ dd)
 refine I0<|ogI ?_
 rw[n0X]
 refine ogR ?_
 simp only[b0d,J0,Tryd.f54,zz,Nat.reduceAdd]
 iterate 2 refine oT ?_
 refine I0<|ogL ?_
 exact h _ ⟨rfl,rfl,rfl,rfl,rfl,rfl,rfl,rfl,rfl,rfl,rfl,rfl,trivial⟩
theorem w0V [ok:Fits g] {v:E3}{thr sch:Value}{i:Nat} [hi:Has g i] (hn64:g.n≤64)(hK:g.K w)(ho:Y0 w ⟨g.st i,2,none⟩ (.bool true)){A:Array Value}(hA:D0 129 A ((12,vI i)::L3 g v thr sch i))
 (h:∀A,D0 129 A (L3 g v thr sch (i+1))→E0 Tryd.prog main F Stop (G (bA 54 A [.code I3,.inLoop I3,.inBlock 2,.code L5]) cs) w):
 E0 Tryd.prog main F Stop (Go.Conc.served (g04 cs A) (.agg #[])) w:=by
 obtain⟨s,rfl,h12,h0,h1,h7,h46,h47,h5,h6,h8,h9,h10,h11,_⟩:=D5 i6 hA
 simp only[i6,h12,h0,h1,h7,h46,h47,h5,h6,h8,h9,h10,h11]
 clear h12 h0 h1 h7 h46 h47 h5 h6 h8 h9 h10 h11
 have hin:=hi.lt
 have hi64:(i:Int)<100:=by have:=hn64;omega
 have hsl:=ok.ok.sl (Nat.lt_of_le_of_lt (Nat.zero_le _) hin)
 have ct:=(hK _ _ .tv).c
 have zt:=(hK _ _ .tv).z
 have c3:=(hK _ _ .stands).c
 have z3:=(hK _ _ .stands).z
 have c4:=(hK _ _ (.stand i hin)).c
 have z4:=(hK _ _ (.stand i hin)).z
 have c5:=ho.c
 have z5:=ho.z
 have hwi:IntKind.i64.wrap ((i:Int)+1)=(i:Int)+1:=IntWalk.i64_in _ (by omega)
 rw[hsl]at c3
 unfold g04
 rw[served_fr,Frame.finish_at]
 simp only[d0O,J0,Tryd.f54,zz,Nat.reduceAdd]
 walk_nrm
 refine I0<|ogW j02 r0A ?_
 simp only[j02,J0,Tryd.f54,zz,Nat.reduceAdd]
 refine oL ?_
 iterate 2 refine oT ?_
 refine oL ?_
 refine oT ?_
 refine oX ?_
 refine oL ?_
 iterate 2 refine oT ?_
 refine oL ?_
 refine oT ?_
 refine I0<|ogGn .skip<|ogK<|ogI ?_
 rw[n0X]
 refine ogR ?_
 simp only[b0d,J0,Tryd.f54,zz,Nat.reduceAdd]
 iterate 2 refine oT ?_
 refine I0<|ogL ?_
 exact h _ ⟨rfl,rfl,rfl,rfl,rfl,rfl,rfl,rfl,rfl,rfl,rfl,rfl,trivial⟩
end
section
open Go.ConcN (sumTo upd sumTo_upd upd_ne upd_same)
variable{g:S0}{F:Fz}{Z:R2}{A:Nat→Bool}{vs:Nat→Z3}{N:Nat→Prop}{ov:Nat→Bool}{x y:Z.X}{w w':World}{s0 nn:Nat}{Gl:Machine→Trace→Prop}{v:E3}{base M:Nat}
def b00(Z:R2)(b off:Nat)(xs:List Value):Prop:=∃c e z,Z.I b=some (.cells c e z)∧∀k u,xs[k]? =some u→c[off+k]? =some u∧(decide (z.1≤off+k) && decide (off+k<z.2))=false
theorem b00.cell(zok:Z.Ok g)(hU:Z.U x w){b off k:Nat}{xs:List Value}{u:Value}(h:b00 Z b off xs)(hk:xs[k]? =some u):w.cell? ⟨b,off+k,none⟩=some u∧w.frozen? ⟨b,off+k,none⟩=false:=by
 obtain⟨c,e,z,h1,h2⟩:=h
 obtain⟨h3,_⟩:=zok.fix x w b _ hU h1
 obtain⟨h4,h5⟩:=h2 k u hk
 exact⟨by simp[World.cell?,h3,h4],by simpa [World.frozen?,h3]using h5⟩
def a0P(Z:R2):Nat→Z.X→Z.X→Prop
 | 0,x,y=>y=x
 | i+1,x,z=>∃y,a0P Z i x y∧Z.bor y i z
theorem d0g{Z:R2}{g:S0}(zok:Z.Ok g):∀(i:Nat) (x y:Z.X),a0P Z i x y→∀j,i≤j→Z.nw x j→Z.nw y j
 | 0,_,_,h,_,_,hn=>by
   have h:_=_:=h
   rw[h];exact hn
 | i+1,x,z,⟨y,h1,h2⟩,j,hj,hn=>zok.nwO y i z j h2 (by omega) (d0g zok i x y h1 j (by omega) hn)
theorem G5.born{Al:Nat→Prop}{b:Nat}(h:G5 Z g vs Al N b)(hb:b<w.heap.size)(i:Nat):G5 Z g (B4 vs i w) (fun j=>Al j∨j=i) (V7 N w) b:=
 ⟨.inl h.n,h.st,h.br,h.place,fun j hj=>by
  unfold B4
  by_cases e:j=i
  ·rw[if_pos e];simp only;omega
  ·rw[if_neg e];exact h.vars j (hj.resolve_right e),h.inp⟩
theorem MI.born{Al:Nat→Prop}{lf:Nat}(h:MI Z g vs Al N v base M none 0 0 [] lf w)(i:Nat):MI Z g (B4 vs i w) (fun j=>Al j∨j=i) (V7 N w) v base M none 0 0 [] lf w:=by
 obtain⟨c,h1,h2⟩:=h.od
 exact⟨h.n,h.mo,h.lf,h.od,h.row,h.an.born h.n.lt i,h.amo.born h.mo.lt i,h.alf.born h.lf.lt i,h.aod.born (D4 h1) i,fun y hy=>(by cases hy),h.dn,h.drow,h.base⟩
theorem n0M{A:Array Value}{i:Nat}{f:Value}(h50:A.getD 50 undef=vP g.tb 0)(h51:A.getD 51 undef=vI i)(h55:A.getD 55 undef=f){k:List Item}{cs:List Frame}{main:Bool}:
 stepG Tryd.prog main (G (bA 54 A (.inRegion (oC a0j) [6]::k)) cs) w= .spawn (G (bA 54 A (.inRegion (oC a0j) []::k)) cs) (born Tryd.prog (e8 g i f)) w #[]:=by
 simp only[oC,a0j,pC,J0,Tryd.f54,Option.getD_some]
 rw[stepG_spawn (d:=e8 g i f) (f:=.func 65) (c:= #[]) (w':=w) rfl rfl (by decide) (by simp[go_sem,execOp,Act.eval,Deferred.ofValue,e8,h50,h51,h55]) rfl,listed_none (by simp[go_sem,execOp,Act.eval,Deferred.ofValue,e8,h50,h51,h55])]
 rfl
theorem i0Q [ok:Fits g] (zok:Z.Ok g)(hs0:0<s0)(hn64:g.n≤64){tb tl tc:Nat}{sch:Value}{x0:Z.X}(hnw:∀j,j<g.n→Z.nw x0 j)(htl:g.n≤tl)(hth:b00 Z tb 0 ((List.range g.n).map fun j=>.func (.func Z.fid) #[] (Z.cap j))){cs:List Frame}
 (hk:∀(x:Z.X) (w:World) (F:Array Value) (vs:Nat→Z3) (N:Nat→Prop) (ms:Option Seat),a0P Z g.n x0 x→TI Z g (fun j=>(decide (j<g.n) && Z.liv x j)=true) vs N (fun j=>decide (j<g.n) && !Z.liv x j) x w→
   MI Z g vs (fun j=>(decide (j<g.n) && Z.liv x j)=true) N v base M none 0 0 [] (y5 (Z.liv x) g.n) w→g.top≤w.heap.size→D0 129 F (L3 g v (vL tb 0 tl tc) sch g.n)→
   n6 Tryd.prog g.K g.Still g.top Gl (inb Z g s0 (fun j=>decide (j<g.n) && Z.liv x j) vs ms x) 0 (s0+g.n) (G ((Go.Conc.base 54).at ⟨F,[]⟩ [.code I3,.inLoop I3,.inBlock 2,.code L5]) cs) w):
 ∀(k i:Nat),i+k=g.n→∀(x:Z.X) (w:World) (F:Array Value) (vs:Nat→Z3) (N:Nat→Prop) (ms:Option Seat),a0P Z i x0 x→TI Z g (fun j=>(decide (j<i) && Z.liv x j)=true) vs N (fun j=>decide (j<i) && !Z.liv x j) x w→
  MI Z g vs (fun j=>(decide (j<i) && Z.liv x j)=true) N v base M none 0 0 [] (y5 (Z.liv x) i) w→g.top≤w.heap.size→D0 129 F (L3 g v (vL tb 0 tl tc) sch i)→
  n6 Tryd.prog g.K g.Still g.top Gl (inb Z g s0 (fun j=>decide (j<i) && Z.liv x j) vs ms x) 0 (s0+i) (G ((Go.Conc.base 54).at ⟨F,[]⟩ [.code I3,.inLoop I3,.inBlock 2,.code L5]) cs) w:=by
 intro k
 induction k with
 | zero=>
   intro i hi
   obtain rfl:i=g.n:=by omega
   exact hk
 | succ k ih=>
   intro i hi x w A vs N ms hB H HM ht hA
   have hin:i<g.n:=by omega
   have hiH:Has g i:=⟨hin⟩
   refine M2 fun _ hK _=>?_
   obtain⟨hf,hfz⟩:=hth.cell (k:=i) (u:=.func (.func Z.fid) #[] (Z.cap i)) zok H.u (by simp[hin])
   simp only[Nat.zero_add]at hf hfz
   refine K4 (F:=FK g) (Stop:=fun a u=>∃A2,D0 129 A2 ((12,vI i)::(50,vP g.tb 0)::(51,vI i)::(55,.func (.func Z.fid) #[] (Z.cap i))::L3 g v (vL tb 0 tl tc) sch i)∧
    a=G ((Go.Conc.base 54).at ⟨A2,[]⟩ [.inRegion (oC a0j) [6],.code f0k,.inBlock 3,.code b0d,.inLoop I3,.inBlock 2,.code L5]) cs∧∃d,u=w.at d) V8 S5 i0u
    (w0S hin (by omega) hK hf hfz hA fun A2 hA2=>.stop fun d=>⟨A2,hA2,rfl,d,rfl⟩) fun g' w0 d hS=>?_
   obtain⟨A2,hA2,rfl,d',e⟩:=hS d
   rw[e]
   obtain⟨hsz2,q12,q50,q51,q55,q0,q1,q7,q46,q47,q5,q6,q8,q9,q10,q11,_⟩:=hA2
   obtain⟨A3,hA3,hsit⟩:=w0T (A:=A2) (cs:=cs) (v:=v) (thr:=vL tb 0 tl tc) (sch:=sch) (i:=i) ⟨hsz2,q12,q0,q1,q7,q46,q47,q5,q6,q8,q9,q10,q11,trivial⟩ w
   refine l0r zok hs0 hin (d0g zok i x0 x hB i (Nat.le_refl i) (hnw i hin)) rfl (fun j hj=>by simp at hj;exact hj.1) (H.at zok d') (by simp) ht rfl (fun d=>n0M q50 q51 q55) hsit fun y w1 hy H1 k1=>?_
   have hyl:∀j,j<i→Z.liv y j=Z.liv x j:=fun j hj=>(zok.borO x i y j hy (by omega)).1
   have eA:(fun j=>((decide (j<i) && Z.liv x j) || j == i) && (j != i || Z.liv y i))=fun j=>decide (j<i+1) && Z.liv y j:=by
    funext j
    rcases Nat.lt_trichotomy j i with h|h|h
    ·have e1:(j == i)=false:=by simp;omega
     have e2:(j != i)=true:=by simp;omega
     have e3:decide (j<i)=true:=by simpa using h
     have e4:decide (j<i+1)=true:=by simp;omega
     rw[e1,e2,e3,e4,hyl j h];simp
    ·subst h;simp
    ·have e1:(j == i)=false:=by simp;omega
     have e3:decide (j<i)=false:=by simp;omega
     have e4:decide (j<i+1)=false:=by simp;omega
     rw[e1,e3,e4];simp
   have eO:(fun j=>if j=i then !Z.liv y i else decide (j<i) && !Z.liv x j)=fun j=>decide (j<i+1) && !Z.liv y j:=by
    funext j
    rcases Nat.lt_trichotomy j i with h|h|h
    ·have e3:decide (j<i)=true:=by simpa using h
     have e4:decide (j<i+1)=true:=by simp;omega
     rw[if_neg (by omega),e3,e4,hyl j h]
    ·subst h;simp
    ·have e3:decide (j<i)=false:=by simp;omega
     have e4:decide (j<i+1)=false:=by simp;omega
     rw[if_neg (by omega),e3,e4];simp
   have eP:(fun j=>(((decide (j<i) && Z.liv x j) || j == i) && (j != i || Z.liv y i))=true)=fun j=>(decide (j<i+1) && Z.liv y j)=true:=by
    funext j;rw[show(((decide (j<i) && Z.liv x j) || j == i) && (j != i || Z.liv y i))=_ from congrFun eA j]
   rw[eP,eO]at H1
   rw[eA]
   have HM1:=((HM.at d').born i).kept hin (.inr rfl) k1
   have HM2:MI Z g (B4 vs i (w.at d')) (fun j=>(decide (j<i+1) && Z.liv y j)=true) (V7 N (w.at d')) v base M none 0 0 [] (y5 (Z.liv x) i) w1:=HM1.mono fun j hj=>by
    simp only[Bool.and_eq_true,decide_eq_true_eq]at hj ⊢
    by_cases e:j=i
    ·exact .inr e
    ·have:j<i:=by omega
     exact .inl ⟨this,by rw[← hyl j this];exact hj.2⟩
   have hB1:a0P Z (i+1) x0 y:=⟨x,hB,hy⟩
   have ht1:g.top≤w1.heap.size:=Nat.le_trans ht k1.size
   have hcn:y5 (Z.liv x) i=y5 (Z.liv y) i:=M9 fun j hj=>(hyl j hj).symm
   have hcl:=m0W (Z.liv x) i
   refine M2 fun _ hK1 _=>?_
   have ho:=H1.over i hin
   have hlt:decide (i<i+1)=true:=by simp
   rw[hlt,Bool.true_and]at ho
   rcases Bool.eq_false_or_eq_true (Z.liv y i)with hl|hl
   ·rw[hl]at ho
    have hnh:¬held (FK g) ⟨v.lf,0,none⟩:=W7 (f0Q (fun j hj=>HM2.alf.st j hj) fun a u p=>HM2.alf.place a u p)
    refine K4 (F:=FK g) (Stop:=fun a u=>∃A4,D0 129 A4 (L3 g v (vL tb 0 tl tc) sch (i+1))∧
     a=G ((Go.Conc.base 54).at ⟨A4,[]⟩ [.code I3,.inLoop I3,.inBlock 2,.code L5]) cs∧∃d,u=(w1.setCell ⟨v.lf,0,none⟩ (vI (y5 (Z.liv x) i+1:Nat))).at d) V8 S5 i0u
     (w0U hn64 hK1 ho HM2.lf (by omega) hnh hA3 fun A4 hA4=>.stop fun d=>⟨A4,hA4,rfl,d,rfl⟩) fun g' w0 d hS=>?_
    obtain⟨A4,hA4,rfl,d2,e2⟩:=hS d
    rw[e2]
    have hc:y5 (Z.liv x) i+1=y5 (Z.liv y) (i+1):=by simp only[y5,hcn,hl,if_true]
    have HM3:=(HM2.setLf (l1:=y5 (Z.liv x) i+1)).at d2
    rw[hc]at HM3
    have:=ih (i+1) (by omega) y _ A4 _ _ (some (Q0 g (g04 cs A3))) hB1 ((H1.setLf zok HM2.alf).at zok d2) (by rw[← hc]at HM3 ⊢;exact HM3) (by simpa [size_at']using ht1) hA4
    exact this
   ·rw[hl]at ho
    refine K4 (F:=FK g) (Stop:=fun a u=>∃A4,D0 129 A4 (L3 g v (vL tb 0 tl tc) sch (i+1))∧
     a=G ((Go.Conc.base 54).at ⟨A4,[]⟩ [.code I3,.inLoop I3,.inBlock 2,.code L5]) cs∧∃d,u=w1.at d) V8 S5 i0u
     (w0V hn64 hK1 ho hA3 fun A4 hA4=>.stop fun d=>⟨A4,hA4,rfl,d,rfl⟩) fun g' w0 d hS=>?_
    obtain⟨A4,hA4,rfl,d2,e2⟩:=hS d
    rw[e2]
    have hc:y5 (Z.liv x) i=y5 (Z.liv y) (i+1):=by simp[y5,hcn,hl]
    have HM3:=HM2.at d2
    rw[hc]at HM3
    exact ih (i+1) (by omega) y _ A4 _ _ (some (Q0 g (g04 cs A3))) hB1 (H1.at zok d2) HM3 (by simpa [size_at']using ht1) hA4
end
section
open Go.ConcN (sumTo upd sumTo_upd upd_ne upd_same)
variable{g:S0}{F:Fz}{Z:R2}{x y:Z.X}{w w':World}{s0 nn:Nat}{Gl:Machine→Trace→Prop}{v:E3}{base M:Nat}
def a0T(Z:R2)(n M:Nat)(s:Z.X×List Nat)(i:Int)(t:Z.X×List Nat):Prop:=
 if 0≤i∧i<n∧Z.liv s.1 i.toNat=true∧s.2.length≠M then Z.stp s.1 i.toNat t.1∧t.2=s.2++[i.toNat]else t=s
theorem c0M{n:Nat}{s:Z.X×List Nat}{i:Int}(h:¬(0≤i∧i<n∧Z.liv s.1 i.toNat=true∧s.2.length≠M)):a0T Z n M s i s:=by
 unfold a0T
 rw[if_neg h]
def O4(Z:R2)(n M:Nat):List Int→Z.X×List Nat→Z.X×List Nat→Prop
 | [],s,t=>t=s
 | i::l,s,t=>∃u,a0T Z n M s i u∧O4 Z n M l u t
inductive a9(Z:R2)(n M:Nat):Z.X×List Nat→Z.X×List Nat→Prop
 | done {s:Z.X×List Nat}:(y5 (Z.liv s.1) n=0∨M≤s.2.length)→a9 Z n M s s
 | more {s u t:Z.X×List Nat}:0<y5 (Z.liv s.1) n→s.2.length<M→O4 Z n M ((List.range n).map fun j:Nat=>(j:Int)) s u→a9 Z n M u t→a9 Z n M s t
def s5(Z:R2)(g:S0)(v:E3)(base M s0:Nat)(s:Z.X×List Nat)(Inb:Nat→Option Seat)(w:World):Prop:=
 s.2.length≤M∧∃vs N oa oc ms,Inb=inb Z g s0 (fun j=>decide (j<g.n) && Z.liv s.1 j) vs ms s.1∧TI Z g (fun j=>(decide (j<g.n) && Z.liv s.1 j)=true) vs N (fun j=>decide (j<g.n) && !Z.liv s.1 j) s.1 w∧
  MI Z g vs (fun j=>(decide (j<g.n) && Z.liv s.1 j)=true) N v base M oa s.2.length oc (s.2.map fun i:Nat=>Value.int .i64 i) (y5 (Z.liv s.1) g.n) w
theorem s5.at(zok:Z.Ok g){s:Z.X×List Nat}{Inb:Nat→Option Seat}(h:s5 Z g v base M s0 s Inb w)(d:Nat):s5 Z g v base M s0 s Inb (w.at d):=by
 obtain⟨h1,vs,N,oa,oc,ms,h3,h4,h5⟩:=h
 exact⟨h1,vs,N,oa,oc,ms,h3,h4.at zok d,h5.at d⟩
theorem k0p [ok:Fits g] (zok:Z.Ok g)(hs0:0<s0)(hM:M≤1048576)(hn64:g.n≤64){s:Z.X×List Nat}{Inb:Nat→Option Seat}(H:s5 Z g v base M s0 s Inb w){i:Int}{c:Frame}{cs:List Frame}
 (hk:∀t Inb' w',a0T Z g.n M s i t→s5 Z g v base M s0 t Inb' w'→n6 Tryd.prog g.K g.Still g.top Gl Inb' 0 (s0+g.n) (G (c.finish (.tuple #[])) cs) w'):
 n6 Tryd.prog g.K g.Still g.top Gl Inb 0 (s0+g.n) (G (Frame.enter Tryd.prog 66 (X1 g v i) .normal) (c::cs)) w:=by
 refine M2 fun _ hK _=>?_
 have H':=H
 obtain⟨hlen,vs,N,oa,oc,ms,rfl,HT,HM⟩:=H
 obtain⟨cod,hod1,hod2⟩:=HM.od
 have hsame:∀{t:Z.X×List Nat},t=s→s5 Z g v base M s0 t (inb Z g s0 (fun j=>decide (j<g.n) && Z.liv s.1 j) vs ms s.1) w:=fun e=>e ▸ H'
 by_cases h0:i<0
 ·exact G4 (l0o h0 (.stop fun d=>⟨rfl,d,rfl⟩)) fun d=>hk s _ _ (c0M (by omega)) ((hsame rfl).at zok d)
 by_cases h1:(g.n:Int)≤i
 ·exact G4 (i0L (by omega) h1 HM.n (.stop fun d=>⟨rfl,d,rfl⟩)) fun d=>hk s _ _ (c0M (by omega)) ((hsame rfl).at zok d)
 obtain⟨i,rfl⟩:∃k:Nat,i=k:=⟨i.toNat,by omega⟩
 have hin:i<g.n:=by omega
 have hiH:Has g i:=⟨hin⟩
 have ho:=HT.over i hin
 rw[decide_eq_true hin,Bool.true_and]at ho
 rcases Bool.eq_false_or_eq_true (Z.liv s.1 i)with hl|hl
 ·rw[hl]at ho
  by_cases h2:s.2.length=M
  ·exact G4 (i0K hK HM.n ho ⟨⟨cod,_,hod1,hod2⟩,rfl⟩ HM.mo h2 (.stop fun d=>⟨rfl,d,rfl⟩)) fun d=>hk s _ _ (c0M fun h=>h.2.2.2 h2) ((hsame rfl).at zok d)
  ·have hc0:0<y5 (Z.liv s.1) g.n:=by
    rcases Nat.eq_zero_or_pos (y5 (Z.liv s.1) g.n)with h|h
    ·rw[d0t.1 h i hin]at hl;cases hl
    ·exact h
   have hcl:=m0W (Z.liv s.1) g.n
   refine o0y zok hs0 (fun j hj=>?_) (by simp[hin,hl]) hl HT (by simp[hl]) HM h2 (by omega) hc0 (by omega) fun y w1 N' oa' oc' ms' hy H1 HM1=>?_
   ·simp only[Bool.and_eq_true,decide_eq_true_eq]at hj
    exact⟨hj.1,by omega⟩
   have hyl:∀j,j≠i→Z.liv y j=Z.liv s.1 j:=fun j hj=>(zok.stpO s.1 i y j hy hj).1
   have eA:(fun j=>(decide (j<g.n) && Z.liv s.1 j) && (j != i || Z.liv y i))=fun j=>decide (j<g.n) && Z.liv y j:=by
    funext j
    by_cases e:j=i
    ·subst e;simp[hl]
    ·have e2:(j != i)=true:=by simpa using e
     rw[e2,hyl j e];simp
   have eO:(fun j=>if j=i then !Z.liv y i else decide (j<g.n) && !Z.liv s.1 j)=fun j=>decide (j<g.n) && !Z.liv y j:=by
    funext j
    by_cases e:j=i
    ·subst e;simp[hin]
    ·rw[if_neg e,hyl j e]
   have eP:(fun j=>((decide (j<g.n) && Z.liv s.1 j) && (j != i || Z.liv y i))=true)=fun j=>(decide (j<g.n) && Z.liv y j)=true:=by
    funext j;rw[show((decide (j<g.n) && Z.liv s.1 j) && (j != i || Z.liv y i))=_ from congrFun eA j]
   rw[eP,eO]at H1
   rw[eP]at HM1
   rw[eA]
   refine hk (y,s.2++[i]) _ _ ?_ ⟨by simp;omega,vs,N',oa',oc',ms',rfl,H1,?_⟩
   ·unfold a0T
    rw[if_pos ⟨by omega,by omega,by simpa using hl,h2⟩]
    simpa using hy
   ·rw[← o06 hin hyl hl]at HM1
    simpa using HM1
 ·rw[hl]at ho
  exact G4 (i0O hK HM.n ho (.stop fun d=>⟨rfl,d,rfl⟩)) fun d=>hk s _ _ (c0M fun h=>by rw[Int.toNat_natCast,hl]at h;exact absurd h.2.2.1 (by simp)) ((hsame rfl).at zok d)
end
section
variable {cs:List Frame}{main:Bool}{Stop:Goroutine→World→Prop}
variable{g:S0}{F:Fz}{w:World}
theorem callable66:X0 66:=G1 Tryd.func66 rfl rfl
def b0W(g:S0)(v:E3):Value:=.func (.func 66) #[] #[vP v.n 0,vP g.tv 0,vP v.od 0,vP v.mo 0,vP v.lf 0]
def w7(g:S0)(v:E3):List (Nat×Value):=(7,.bool false)::(13,b0W g v)::f01 g v
def A8(g:S0)(v:E3)(sch:Value)(sl k:Nat):List (Nat×Value):=(7,.bool false)::(13,b0W g v)::(76,sch)::(77,vI sl)::(78,vI k)::f01 g v
def a0J(g:S0)(v:E3)(i:Nat):List (Nat×Value):=(94,vI g.n)::(95,vI i)::w7 g v
def T5(g:S0)(v:E3)(st:Bool)(j:Nat):List (Nat×Value):=(7,.bool st)::(107,g.sl)::(108,vI g.n)::(109,vI j)::f01 g v
theorem w0Z{v:E3}{thr:Value}{sa:Option Addr}{sl sc:Nat}{A:Array Value}(hA:D0 129 A (L3 g v thr (.slice sa sl sc) g.n))
 (h:∀A,D0 129 A (A8 g v (.slice sa sl sc) sl 0)→E0 Tryd.prog main F Stop (G (bA 54 A [.code R6,.inLoop R6,.inBlock 4,.code w9]) cs) w):E0 Tryd.prog main F Stop (G (bA 54 A [.code I3,.inLoop I3,.inBlock 2,.code L5]) cs) w:=by
 obtain⟨s,rfl,h0,h1,h7,h46,h47,h5,h6,h8,h9,h10,h11,_⟩:=D5 i6 hA
 simp only[i6,h0,h1,h7,h46,h47,h5,h6,h8,h9,h10,h11]
 clear h0 h1 h7 h46 h47 h5 h6 h8 h9 h10 h11
 have hlt:decide ((g.n:Int)<(g.n:Int))=false:=by simp
 refine ogW j01 j08 ?_
 simp only[j01,J0,Tryd.f54,zz,Nat.reduceAdd]
 refine oT ?_
 refine I0<|ogV r0z n00<|ogGn (.exit 2) ?_
 refine G0 rfl (fun d=>stepG_exit rfl) ?_
 refine ogW r0E n02 ?_
 simp only[r0E,J0,Tryd.f54,zz,Nat.reduceAdd]
 iterate 2 refine oT ?_
 refine I0<|ogV r0O w9<|ogW r0F t0G ?_
 simp only[r0F,J0,Tryd.f54,zz,Nat.reduceAdd]
 iterate 3 refine oT ?_
 refine I0 ?_
 rw[x0g]
 refine K5 ?_
 rw[t0M]
 refine ogP ?_
 exact h _ ⟨rfl,rfl,rfl,rfl,rfl,rfl,rfl,rfl,rfl,rfl,rfl,rfl,trivial⟩
theorem w01{v:E3}{sb so sl sc k:Nat}{i:Int}(hk:k<sl)(hsl:sl<9223372036854775808)(hc:w.cell? ⟨sb,so+k,none⟩=some (vI i))(hz:w.frozen? ⟨sb,so+k,none⟩=false){A:Array Value}(hA:D0 129 A (A8 g v (vL sb so sl sc) sl k))
 (h:∀A,D0 129 A (A8 g v (vL sb so sl sc) sl k)→E0 Tryd.prog main F Stop (G (Frame.enter Tryd.prog 66 (X1 g v i) .normal) ((bA 54 A [.inRegion (oC c0t) [2],.inBlock 5,.code d0P,.inLoop R6,.inBlock 4,.code w9])::cs)) w):E0 Tryd.prog main F Stop (G (bA 54 A [.code R6,.inLoop R6,.inBlock 4,.code w9]) cs) w:=by
 obtain⟨s,rfl,h7,h13,h76,h77,h78,h5,h6,h8,h9,h10,h11,_⟩:=D5 i6 hA
 simp only[i6,h7,h13,h76,h77,h78,h5,h6,h8,h9,h10,h11]
 clear h7 h13 h76 h77 h78 h5 h6 h8 h9 h10 h11
 have hlt:decide ((k:Int)<(sl:Int))=true:=by simp;omega
 have hlt2:decide (k<sl)=true:=by simp;omega
 refine ogW j04 j09 ?_
 simp only[j04,J0,Tryd.f54,zz,Nat.reduceAdd]
 refine oT ?_
 refine I0<|ogV r0B n03<|ogYn .skip<|ogK<|ogV t0H d0P ?_
 rw[x0h]
 refine K5<|ogW r0G c0t ?_
 simp only[r0G,J0,Tryd.f54,zz,Nat.reduceAdd]
 refine oX ?_
 refine oL ?_
 refine oT ?_
 refine I0 ?_
 rw[t0U]
 refine ogR ?_
 simp only[c0t,J0,Tryd.f54,zz,Nat.reduceAdd]
 iterate 2 refine oT ?_
 refine j6 (f:=66) (args:=X1 g v i) rfl rfl (by decide) (fun w=>by simp[execOp,Act.eval,resolve,invoke,Deferred.ofValue,callable66.run,X1,b0W]) (fun w=>by simp[execOp,Act.eval,resolve,invoke,Deferred.ofValue,callable66.run,callable66.quiet,X1,b0W]) ?_
 exact h _ ⟨rfl,rfl,rfl,rfl,rfl,rfl,rfl,rfl,rfl,rfl,rfl,rfl,trivial⟩
theorem w02{v:E3}{sch:Value}{sl k:Nat}(hk:k<9223372036854775807){A:Array Value}(hA:D0 129 A (A8 g v sch sl k))
 (h:∀A,D0 129 A (A8 g v sch sl (k+1))→E0 Tryd.prog main F Stop (G (bA 54 A [.code R6,.inLoop R6,.inBlock 4,.code w9]) cs) w):E0 Tryd.prog main F Stop (G ((bA 54 A [.inRegion (oC c0t) [2],.inBlock 5,.code d0P,.inLoop R6,.inBlock 4,.code w9]).finish (.tuple #[])) cs) w:=by
 obtain⟨s,rfl,h7,h13,h76,h77,h78,h5,h6,h8,h9,h10,h11,_⟩:=D5 i6 hA
 simp only[i6,h7,h13,h76,h77,h78,h5,h6,h8,h9,h10,h11]
 clear h7 h13 h76 h77 h78 h5 h6 h8 h9 h10 h11
 have hk64:IntKind.i64.wrap ((k:Int)+1)=(k:Int)+1:=IntWalk.i64_in _ (by omega)
 rw[Frame.finish_at]
 simp only[c0t,J0,Tryd.f54,zz,Nat.reduceAdd]
 walk_nrm
 refine I0<|ogI ?_
 rw[t0V]
 refine ogR ?_
 simp only[d0P,J0,Tryd.f54,zz,Nat.reduceAdd]
 iterate 2 refine oT ?_
 refine I0<|ogL ?_
 exact h _ ⟨rfl,rfl,rfl,rfl,rfl,rfl,rfl,rfl,rfl,rfl,rfl,rfl,trivial⟩
theorem w03{v:E3}{sch:Value}{sl:Nat}{A:Array Value}(hA:D0 129 A (A8 g v sch sl sl))
 (h:∀A,D0 129 A (w7 g v)→E0 Tryd.prog main F Stop (G (bA 54 A [.code X3,.inLoop X3,.inBlock 6,.code F4]) cs) w):E0 Tryd.prog main F Stop (G (bA 54 A [.code R6,.inLoop R6,.inBlock 4,.code w9]) cs) w:=by
 obtain⟨s,rfl,h7,h13,h76,h77,h78,h5,h6,h8,h9,h10,h11,_⟩:=D5 i6 hA
 simp only[i6,h7,h13,h76,h77,h78,h5,h6,h8,h9,h10,h11]
 clear h7 h13 h76 h77 h78 h5 h6 h8 h9 h10 h11
 have hlt:decide ((sl:Int)<(sl:Int))=false:=by simp
 refine ogW j04 j09 ?_
 simp only[j04,J0,Tryd.f54,zz,Nat.reduceAdd]
 refine oT ?_
 refine I0<|ogV r0B n03<|ogGn (.exit 4) ?_
 refine G0 rfl (fun d=>stepG_exit rfl) ?_
 refine ogV t0I F4 ?_
 rw[x0i]
 refine K5 ?_
 rw[t0N]
 refine ogP ?_
 exact h _ ⟨rfl,rfl,rfl,rfl,rfl,rfl,rfl,rfl,rfl,trivial⟩
theorem t0A{v:E3}(hl:Y0 w ⟨v.lf,0,none⟩ (vI (0:Nat))){A:Array Value}(hA:D0 129 A (w7 g v))
 (h:∀A,D0 129 A (w7 g v)→E0 Tryd.prog main F Stop (G (bA 54 A [.code F4]) cs) w):E0 Tryd.prog main F Stop (G (bA 54 A [.code X3,.inLoop X3,.inBlock 6,.code F4]) cs) w:=by
 obtain⟨s,rfl,h7,h13,h5,h6,h8,h9,h10,h11,_⟩:=D5 i6 hA
 simp only[i6,h7,h13,h5,h6,h8,h9,h10,h11]
 clear h7 h13 h5 h6 h8 h9 h10 h11
 have c1:=hl.c
 have z1:=hl.z
 refine ogV k0a n0P<|ogW f0i n0R ?_
 simp only[f0i,J0,Tryd.f54,zz,Nat.reduceAdd]
 refine oL ?_
 iterate 2 refine oT ?_
 refine ogU rfl rfl ?_
 walk_nrm
 refine ogU rfl rfl ?_
 walk_nrm
 refine ogU rfl rfl ?_
 walk_nrm
 refine ogU rfl rfl ?_
 walk_nrm
 refine oT ?_
 refine I0<|ogGn (.exit 6) ?_
 refine G0 rfl (fun d=>stepG_exit rfl) ?_
 exact h _ ⟨rfl,rfl,rfl,rfl,rfl,rfl,rfl,rfl,rfl,trivial⟩
theorem t0B{v:E3}{lf:Nat}{oa:Option Addr}{ol oc M:Nat}(hl:Y0 w ⟨v.lf,0,none⟩ (vI lf))(hlf:0<lf)(lo:Y0 w ⟨v.od,0,none⟩ (.slice oa ol oc))(lm:Y0 w ⟨v.mo,0,none⟩ (vI M))(hM:M≤ol){A:Array Value}(hA:D0 129 A (w7 g v))
 (h:∀A,D0 129 A (w7 g v)→E0 Tryd.prog main F Stop (G (bA 54 A [.code F4]) cs) w):E0 Tryd.prog main F Stop (G (bA 54 A [.code X3,.inLoop X3,.inBlock 6,.code F4]) cs) w:=by
 obtain⟨s,rfl,h7,h13,h5,h6,h8,h9,h10,h11,_⟩:=D5 i6 hA
 simp only[i6,h7,h13,h5,h6,h8,h9,h10,h11]
 clear h7 h13 h5 h6 h8 h9 h10 h11
 have c1:=hl.c
 have z1:=hl.z
 have c2:=lo.c
 have z2:=lo.z
 have c3:=lm.c
 have z3:=lm.z
 have hp:decide ((0:Int)<(lf:Int))=true:=by simp;omega
 have hp2:decide (0<lf)=true:=by simp;omega
 have hlt:decide ((ol:Int)<(M:Int))=false:=by simp;omega
 have hlt2:decide (ol<M)=false:=by simp;omega
 refine ogV k0a n0P<|ogW f0i n0R ?_
 simp only[f0i,J0,Tryd.f54,zz,Nat.reduceAdd]
 refine oL ?_
 iterate 2 refine oT ?_
 refine oL ?_
 refine oT ?_
 refine oL ?_
 iterate 2 refine oT ?_
 refine I0<|ogGn (.exit 6) ?_
 refine G0 rfl (fun d=>stepG_exit rfl) ?_
 exact h _ ⟨rfl,rfl,rfl,rfl,rfl,rfl,rfl,rfl,rfl,trivial⟩
theorem t0z{v:E3}{lf:Nat}{oa:Option Addr}{ol oc M:Nat}(hl:Y0 w ⟨v.lf,0,none⟩ (vI lf))(hlf:0<lf)(lo:Y0 w ⟨v.od,0,none⟩ (.slice oa ol oc))(lm:Y0 w ⟨v.mo,0,none⟩ (vI M))(hM:ol<M)(hn:Y0 w ⟨v.n,0,none⟩ (vI g.n)){A:Array Value}(hA:D0 129 A (w7 g v))
 (h:∀A,D0 129 A (a0J g v 0)→E0 Tryd.prog main F Stop (G (bA 54 A [.code S6,.inLoop S6,.inBlock 8,.inBlock 7,.inLoop X3,.inBlock 6,.code F4]) cs) w):E0 Tryd.prog main F Stop (G (bA 54 A [.code X3,.inLoop X3,.inBlock 6,.code F4]) cs) w:=by
 obtain⟨s,rfl,h7,h13,h5,h6,h8,h9,h10,h11,_⟩:=D5 i6 hA
 simp only[i6,h7,h13,h5,h6,h8,h9,h10,h11]
 clear h7 h13 h5 h6 h8 h9 h10 h11
 have c1:=hl.c
 have z1:=hl.z
 have c2:=lo.c
 have z2:=lo.z
 have c3:=lm.c
 have z3:=lm.z
 have hp:decide ((0:Int)<(lf:Int))=true:=by simp;omega
 have hp2:decide (0<lf)=true:=by simp;omega
 have hlt:decide ((ol:Int)<(M:Int))=true:=by simp;omega
 have hlt2:decide (ol<M)=true:=by simp;omega
 have c4:=hn.c
 have z4:=hn.z
 refine ogV k0a n0P<|ogW f0i n0R ?_
 simp only[f0i,J0,Tryd.f54,zz,Nat.reduceAdd]
 refine oL ?_
 iterate 2 refine oT ?_
 refine oL ?_
 refine oT ?_
 refine oL ?_
 iterate 2 refine oT ?_
 refine I0<|ogYn .skip<|ogK ?_
 rw[x0j]
 refine K5<|ogW r0H t0J ?_
 simp only[r0H,J0,Tryd.f54,zz,Nat.reduceAdd]
 refine oL ?_
 refine oT ?_
 refine I0 ?_
 rw[x0k]
 refine K5 ?_
 rw[t0O]
 refine ogP ?_
 exact h _ ⟨rfl,rfl,rfl,rfl,rfl,rfl,rfl,rfl,rfl,rfl,rfl,trivial⟩
theorem w04{v:E3}{i:Nat}(hi:i<g.n){A:Array Value}(hA:D0 129 A (a0J g v i))
 (h:∀A,D0 129 A (a0J g v i)→E0 Tryd.prog main F Stop (G (Frame.enter Tryd.prog 66 (X1 g v i) .normal) ((bA 54 A [.inRegion (oC c0u) [2],.inBlock 9,.code d0Q,.inLoop S6,.inBlock 8,.inBlock 7,.inLoop X3,.inBlock 6,.code F4])::cs)) w):E0 Tryd.prog main F Stop (G (bA 54 A [.code S6,.inLoop S6,.inBlock 8,.inBlock 7,.inLoop X3,.inBlock 6,.code F4]) cs) w:=by
 obtain⟨s,rfl,h94,h95,h7,h13,h5,h6,h8,h9,h10,h11,_⟩:=D5 i6 hA
 simp only[i6,h94,h95,h7,h13,h5,h6,h8,h9,h10,h11]
 clear h94 h95 h7 h13 h5 h6 h8 h9 h10 h11
 have hlt:decide ((i:Int)<(g.n:Int))=true:=by simp;omega
 have hlt2:decide (i<g.n)=true:=by simp;omega
 refine ogW j05 k0b ?_
 simp only[j05,J0,Tryd.f54,zz,Nat.reduceAdd]
 refine oT ?_
 refine I0<|ogV r0C n04<|ogYn .skip<|ogK<|ogV t0K d0Q ?_
 rw[x0l]
 refine K5<|ogW r0I c0u ?_
 simp only[r0I,J0,Tryd.f54,zz,Nat.reduceAdd]
 iterate 2 refine oT ?_
 refine I0 ?_
 rw[t0W]
 refine ogR ?_
 simp only[c0u,J0,Tryd.f54,zz,Nat.reduceAdd]
 iterate 2 refine oT ?_
 refine j6 (f:=66) (args:=X1 g v i) rfl rfl (by decide) (fun w=>by simp[execOp,Act.eval,resolve,invoke,Deferred.ofValue,callable66.run,X1,b0W]) (fun w=>by simp[execOp,Act.eval,resolve,invoke,Deferred.ofValue,callable66.run,callable66.quiet,X1,b0W]) ?_
 exact h _ ⟨rfl,rfl,rfl,rfl,rfl,rfl,rfl,rfl,rfl,rfl,rfl,trivial⟩
theorem w05{v:E3}{i:Nat}(hi:i<10000000){A:Array Value}(hA:D0 129 A (a0J g v i))
 (h:∀A,D0 129 A (a0J g v (i+1))→E0 Tryd.prog main F Stop (G (bA 54 A [.code S6,.inLoop S6,.inBlock 8,.inBlock 7,.inLoop X3,.inBlock 6,.code F4]) cs) w):E0 Tryd.prog main F Stop (G ((bA 54 A [.inRegion (oC c0u) [2],.inBlock 9,.code d0Q,.inLoop S6,.inBlock 8,.inBlock 7,.inLoop X3,.inBlock 6,.code F4]).finish (.tuple #[])) cs) w:=by
 obtain⟨s,rfl,h94,h95,h7,h13,h5,h6,h8,h9,h10,h11,_⟩:=D5 i6 hA
 simp only[i6,h94,h95,h7,h13,h5,h6,h8,h9,h10,h11]
 clear h94 h95 h7 h13 h5 h6 h8 h9 h10 h11
 have hk64:IntKind.i64.wrap ((i:Int)+1)=(i:Int)+1:=IntWalk.i64_in _ (by omega)
 rw[Frame.finish_at]
 simp only[c0u,J0,Tryd.f54,zz,Nat.reduceAdd]
 walk_nrm
 refine I0<|ogI ?_
 rw[t0X]
 refine ogR ?_
 simp only[d0Q,J0,Tryd.f54,zz,Nat.reduceAdd]
 iterate 2 refine oT ?_
 refine I0<|ogL ?_
 exact h _ ⟨rfl,rfl,rfl,rfl,rfl,rfl,rfl,rfl,rfl,rfl,rfl,trivial⟩
theorem w06{v:E3}{A:Array Value}(hA:D0 129 A (a0J g v g.n))
 (h:∀A,D0 129 A (w7 g v)→E0 Tryd.prog main F Stop (G (bA 54 A [.code X3,.inLoop X3,.inBlock 6,.code F4]) cs) w):E0 Tryd.prog main F Stop (G (bA 54 A [.code S6,.inLoop S6,.inBlock 8,.inBlock 7,.inLoop X3,.inBlock 6,.code F4]) cs) w:=by
 obtain⟨s,rfl,h94,h95,h7,h13,h5,h6,h8,h9,h10,h11,_⟩:=D5 i6 hA
 simp only[i6,h94,h95,h7,h13,h5,h6,h8,h9,h10,h11]
 clear h94 h95 h7 h13 h5 h6 h8 h9 h10 h11
 have hlt:decide ((g.n:Int)<(g.n:Int))=false:=by simp
 refine ogW j05 k0b ?_
 simp only[j05,J0,Tryd.f54,zz,Nat.reduceAdd]
 refine oT ?_
 refine I0<|ogV r0C n04<|ogGn (.exit 8) ?_
 refine G0 rfl (fun d=>stepG_exit rfl) ?_
 refine ogI<|ogL ?_
 exact h _ ⟨rfl,rfl,rfl,rfl,rfl,rfl,rfl,rfl,rfl,trivial⟩
theorem t0v{v:E3}{lf:Nat}{st:Bool}(hst:decide (0<lf)=st)(hK:g.K w)(hl:Y0 w ⟨v.lf,0,none⟩ (vI lf)){osa:Option Addr}(hsl:g.sl= .slice osa g.n g.sc){A:Array Value}(hA:D0 129 A (w7 g v))
 (h:∀A,D0 129 A (T5 g v st 0)→E0 Tryd.prog main F Stop (G (bA 54 A [.code C5,.inLoop C5,.inBlock 10,.code T6]) cs) w):E0 Tryd.prog main F Stop (G (bA 54 A [.code F4]) cs) w:=by
 obtain⟨s,rfl,h7,h13,h5,h6,h8,h9,h10,h11,_⟩:=D5 i6 hA
 simp only[i6,h7,h13,h5,h6,h8,h9,h10,h11]
 clear h7 h13 h5 h6 h8 h9 h10 h11
 have c1:=hl.c
 have z1:=hl.z
 have ct:=(hK _ _ .tv).c
 have zt:=(hK _ _ .tv).z
 have c3:=(hK _ _ .stands).c
 have z3:=(hK _ _ .stands).z
 have hst2:decide ((0:Int)<(lf:Int))=st:=by rw[← hst];simp
 rw[hsl]at c3
 refine ogW r0J n06 ?_
 simp only[r0J,J0,Tryd.f54,zz,Nat.reduceAdd]
 refine oL ?_
 iterate 2 refine oT ?_
 refine I0<|ogV r0Q T6<|ogW r0K n0N ?_
 simp only[r0K,J0,Tryd.f54,zz,Nat.reduceAdd]
 refine oL ?_
 iterate 2 refine oT ?_
 refine oL ?_
 iterate 2 refine oT ?_
 refine I0 ?_
 rw[t0D]
 refine K5 ?_
 rw[t0P]
 refine ogP ?_
 exact h _ ⟨rfl,rfl,hsl.symm,rfl,rfl,rfl,rfl,rfl,rfl,rfl,rfl,trivial⟩
theorem p0E [ok:Fits g] {v:E3}{st:Bool}{j:Nat} [hi:Has g j] (hK:g.K w)(ho:Y0 w ⟨g.st j,2,none⟩ (.bool false)){A:Array Value}(hA:D0 129 A (T5 g v st j))
 (h:∀A,D0 129 A (T5 g v st j)→E0 Tryd.prog main F Stop (G (Frame.enter Tryd.prog 67 #[vP g.tb 0,vI j,.bool false] .normal) ((bA 54 A [.inRegion (oC c0v) [2],.inBlock 11,.code b0e,.inLoop C5,.inBlock 10,.code T6])::cs)) w):E0 Tryd.prog main F Stop (G (bA 54 A [.code C5,.inLoop C5,.inBlock 10,.code T6]) cs) w:=by
 obtain⟨s,rfl,h7,h107,h108,h109,h5,h6,h8,h9,h10,h11,_⟩:=D5 i6 hA
 simp only[i6,h7,h107,h108,h109,h5,h6,h8,h9,h10,h11]
 clear h7 h107 h108 h109 h5 h6 h8 h9 h10 h11
 have ct:=(hK _ _ .tv).c
 have zt:=(hK _ _ .tv).z
 have c3:=(hK _ _ .stands).c
 have z3:=(hK _ _ .stands).z
 have hin:=hi.lt
 have hsl:=ok.ok.sl (Nat.lt_of_le_of_lt (Nat.zero_le _) hin)
 have c4:=(hK _ _ (.stand j hin)).c
 have z4:=(hK _ _ (.stand j hin)).z
 have c5:=ho.c
 have z5:=ho.z
 rw[hsl]at c3
 simp only[hsl]
 have hlt:decide ((j:Int)<(g.n:Int))=true:=by simp;omega
 have hlt2:decide (j<g.n)=true:=by simp;omega
 refine ogW f0j g07 ?_
 simp only[f0j,J0,Tryd.f54,zz,Nat.reduceAdd]
 refine oT ?_
 refine I0<|ogV i0D k0c<|ogYn .skip<|ogK<|ogV j00 b0e ?_
 rw[n0O]
 refine K5<|ogW j06 n07 ?_
 simp only[j06,J0,Tryd.f54,zz,Nat.reduceAdd]
 refine oT ?_
 refine oX ?_
 refine oL ?_
 iterate 2 refine oT ?_
 refine I0<|ogW j07 n0Q ?_
 simp only[j07,J0,Tryd.f54,zz,Nat.reduceAdd]
 iterate 3 refine oT ?_
 refine oL ?_
 refine oT ?_
 refine I0<|ogYn c0v ?_
 rw[t0Y]
 refine ogR ?_
 simp only[c0v,J0,Tryd.f54,zz,Nat.reduceAdd]
 refine oL ?_
 refine oT ?_
 refine oc d0q #[vP g.tb 0,vI j,.bool false] ?_
 exact h _ ⟨rfl,rfl,hsl.symm,rfl,rfl,rfl,rfl,rfl,rfl,rfl,rfl,trivial⟩
theorem t0w{v:E3}{st:Bool}{j:Nat}(hj:j<10000000){A:Array Value}(hA:D0 129 A (T5 g v st j))
 (h:∀A,D0 129 A (T5 g v st (j+1))→E0 Tryd.prog main F Stop (G (bA 54 A [.code C5,.inLoop C5,.inBlock 10,.code T6]) cs) w):E0 Tryd.prog main F Stop (G ((bA 54 A [.inRegion (oC c0v) [2],.inBlock 11,.code b0e,.inLoop C5,.inBlock 10,.code T6]).finish (.tuple #[])) cs) w:=by
 obtain⟨s,rfl,h7,h107,h108,h109,h5,h6,h8,h9,h10,h11,_⟩:=D5 i6 hA
 simp only[i6,h7,h107,h108,h109,h5,h6,h8,h9,h10,h11]
 clear h7 h107 h108 h109 h5 h6 h8 h9 h10 h11
 have hk64:IntKind.i64.wrap ((j:Int)+1)=(j:Int)+1:=IntWalk.i64_in _ (by omega)
 rw[Frame.finish_at]
 simp only[c0v,J0,Tryd.f54,zz,Nat.reduceAdd]
 walk_nrm
 refine I0<|ogI ?_
 rw[n0Y]
 refine ogR ?_
 simp only[b0e,J0,Tryd.f54,zz,Nat.reduceAdd]
 iterate 2 refine oT ?_
 refine I0<|ogL ?_
 exact h _ ⟨rfl,rfl,rfl,rfl,rfl,rfl,rfl,rfl,rfl,rfl,rfl,trivial⟩
theorem t0x [ok:Fits g] {v:E3}{st:Bool}{j:Nat} [hi:Has g j] (hn64:g.n≤64)(hK:g.K w)(ho:Y0 w ⟨g.st j,2,none⟩ (.bool true)){A:Array Value}(hA:D0 129 A (T5 g v st j))
 (h:∀A,D0 129 A (T5 g v st (j+1))→E0 Tryd.prog main F Stop (G (bA 54 A [.code C5,.inLoop C5,.inBlock 10,.code T6]) cs) w):E0 Tryd.prog main F Stop (G (bA 54 A [.code C5,.inLoop C5,.inBlock 10,.code T6]) cs) w:=by
 obtain⟨s,rfl,h7,h107,h108,h109,h5,h6,h8,h9,h10,h11,_⟩:=D5 i6 hA
 simp only[i6,h7,h107,h108,h109,h5,h6,h8,h9,h10,h11]
 clear h7 h107 h108 h109 h5 h6 h8 h9 h10 h11
 have ct:=(hK _ _ .tv).c
 have zt:=(hK _ _ .tv).z
 have c3:=(hK _ _ .stands).c
 have z3:=(hK _ _ .stands).z
 have hin:=hi.lt
 have hsl:=ok.ok.sl (Nat.lt_of_le_of_lt (Nat.zero_le _) hin)
 have c4:=(hK _ _ (.stand j hin)).c
 have z4:=(hK _ _ (.stand j hin)).z
 have c5:=ho.c
 have z5:=ho.z
 rw[hsl]at c3
 simp only[hsl]
 have hlt:decide ((j:Int)<(g.n:Int))=true:=by simp;omega
 have hlt2:decide (j<g.n)=true:=by simp;omega
 have hk64:IntKind.i64.wrap ((j:Int)+1)=(j:Int)+1:=IntWalk.i64_in _ (by omega)
 refine ogW f0j g07 ?_
 simp only[f0j,J0,Tryd.f54,zz,Nat.reduceAdd]
 refine oT ?_
 refine I0<|ogV i0D k0c<|ogYn .skip<|ogK<|ogV j00 b0e ?_
 rw[n0O]
 refine K5<|ogW j06 n07 ?_
 simp only[j06,J0,Tryd.f54,zz,Nat.reduceAdd]
 refine oT ?_
 refine oX ?_
 refine oL ?_
 iterate 2 refine oT ?_
 refine I0<|ogW j07 n0Q ?_
 simp only[j07,J0,Tryd.f54,zz,Nat.reduceAdd]
 iterate 3 refine oT ?_
 refine oL ?_
 refine oT ?_
 refine I0<|ogGn .skip<|ogK<|ogI ?_
 rw[n0Y]
 refine ogR ?_
 simp only[b0e,J0,Tryd.f54,zz,Nat.reduceAdd]
 iterate 2 refine oT ?_
 refine I0<|ogL ?_
 exact h _ ⟨rfl,rfl,hsl.symm,rfl,rfl,rfl,rfl,rfl,rfl,rfl,rfl,trivial⟩
theorem t0y{v:E3}{st:Bool}{A:Array Value}(hA:D0 129 A (T5 g v st g.n))
 (h:∀A,D0 129 A (T5 g v st g.n)→E0 Tryd.prog main F Stop (G (bA 54 A [.code T6]) cs) w):E0 Tryd.prog main F Stop (G (bA 54 A [.code C5,.inLoop C5,.inBlock 10,.code T6]) cs) w:=by
 obtain⟨s,rfl,h7,h107,h108,h109,h5,h6,h8,h9,h10,h11,_⟩:=D5 i6 hA
 simp only[i6,h7,h107,h108,h109,h5,h6,h8,h9,h10,h11]
 clear h7 h107 h108 h109 h5 h6 h8 h9 h10 h11
 have hlt:decide ((g.n:Int)<(g.n:Int))=false:=by simp
 refine ogW f0j g07 ?_
 simp only[f0j,J0,Tryd.f54,zz,Nat.reduceAdd]
 refine oT ?_
 refine I0<|ogV i0D k0c<|ogGn (.exit 10) ?_
 refine G0 rfl (fun d=>stepG_exit rfl) ?_
 exact h _ ⟨rfl,rfl,rfl,rfl,rfl,rfl,rfl,rfl,rfl,rfl,rfl,trivial⟩
end
section
open Go.ConcN (sumTo upd sumTo_upd upd_ne upd_same)
variable{g:S0}{F:Fz}{Z:R2}{x y:Z.X}{w w':World}{s0 nn h:Nat}{Gl:Machine→Trace→Prop}{v:E3}{base M:Nat}{Inb:Nat→Option Seat}
theorem Y4 [ok:Fits g] {SL:List (Nat×Value)}{a:Goroutine}(Φ:Array Value→Goroutine)(ho:∀Stop:Goroutine→World→Prop,(∀A,D0 129 A SL→E0 Tryd.prog (h == 0) (FK g) Stop (Φ A) w)→E0 Tryd.prog (h == 0) (FK g) Stop a w)
 (hk:∀A d,D0 129 A SL→n6 Tryd.prog g.K g.Still g.top Gl Inb h nn (Φ A) (w.at d)):n6 Tryd.prog g.K g.Still g.top Gl Inb h nn a w:=by
 refine K4 (F:=FK g) (Stop:=fun a u=>∃A,D0 129 A SL∧a=Φ A∧∃d,u=w.at d) V8 S5 i0u (ho _ fun A hA=>.stop fun d=>⟨A,hA,rfl,d,rfl⟩) fun g' w0 d hS=>?_
 obtain⟨A,hA,rfl,d',e⟩:=hS d
 rw[e]
 exact hk A d' hA
theorem b0k{n:Nat}{l m:List Int}{s t:Z.X×List Nat}:O4 Z n M (l++m) s t↔∃u,O4 Z n M l s u∧O4 Z n M m u t:=by
 induction l generalizing s with
 | nil=>simp[O4]
 | cons i l ih=>
   simp only[List.cons_append,O4,ih]
   constructor
   ·rintro⟨u,h1,v,h2,h3⟩;exact⟨v,⟨u,h1,h2⟩,h3⟩
   ·rintro⟨v,⟨u,h1,h2⟩,h3⟩;exact⟨u,h1,v,h2,h3⟩
theorem f0q{n:Nat}{i:Int}{s t:Z.X×List Nat}:O4 Z n M [i] s t↔a0T Z n M s i t:=by
 simp only[O4]
 constructor
 ·rintro⟨u,h,rfl⟩;exact h
 ·exact fun h=>⟨t,h,rfl⟩
theorem o0B{n:Nat}{i:Int}{s t:Z.X×List Nat}(h:a0T Z n M s i t):s.2.length≤t.2.length∧(t.2.length=s.2.length→t=s):=by
 unfold a0T at h
 split at h
 ·rw[h.2];simp
 ·rw[h];simp
theorem l0x{n:Nat}{l:List Int}{s t:Z.X×List Nat}(h:O4 Z n M l s t):s.2.length≤t.2.length∧(t.2.length=s.2.length→t=s∧∀i∈l,a0T Z n M s i s):=by
 induction l generalizing s with
 | nil=>simp only[O4]at h;subst h;simp
 | cons i l ih=>
   obtain⟨u,h1,h2⟩:=h
   obtain⟨a1,a2⟩:=o0B h1
   obtain⟨b1,b2⟩:=ih h2
   refine⟨Nat.le_trans a1 b1,fun e=>?_⟩
   have e1:u=s:=a2 (by omega)
   subst e1
   obtain⟨c1,c2⟩:=b2 e
   exact⟨c1,fun j hj=>by
    rcases List.mem_cons.1 hj with rfl|hj
    ·exact h1
    ·exact c2 j hj⟩
theorem h0o{n:Nat}{s t:Z.X×List Nat}(hc:0<y5 (Z.liv s.1) n)(hl:s.2.length<M)(h:O4 Z n M ((List.range n).map fun j:Nat=>(j:Int)) s t):s.2.length<t.2.length:=by
 obtain⟨h1,h2⟩:=l0x h
 rcases Nat.lt_or_eq_of_le h1 with h1|h1
 ·exact h1
 exfalso
 obtain⟨_,h3⟩:=h2 h1.symm
 have:∃j,j<n∧Z.liv s.1 j=true:=by
  apply Classical.byContradiction
  intro hno
  have:y5 (Z.liv s.1) n=0:=d0t.2 fun j hj=>by
   cases e:Z.liv s.1 j with
   | false=>rfl
   | true=>exact absurd ⟨j,hj,e⟩ hno
  omega
 obtain⟨j,hj,hlj⟩:=this
 have ht:=h3 j (by simp;exact⟨j,hj,rfl⟩)
 unfold a0T at ht
 rw[if_pos ⟨by omega,by omega,by simpa using hlj,by omega⟩]at ht
 have:=congrArg List.length ht.2
 simp at this
theorem l0u [ok:Fits g] (zok:Z.Ok g)(hs0:0<s0)(hM:M≤1048576)(hn64:g.n≤64){S:List Int}{sa:Option Addr}{sb so sc:Nat}(hsa:0<S.length→sa=some ⟨sb,so,none⟩)(hS:b00 Z sb so (S.map fun i:Int=>Value.int .i64 i))(hSl:S.length<9223372036854775808){cs:List Frame}{st:Z.X×List Nat}
 (hk:∀t Inb w A,O4 Z g.n M S st t→s5 Z g v base M s0 t Inb w→D0 129 A (w7 g v)→n6 Tryd.prog g.K g.Still g.top Gl Inb 0 (s0+g.n) (G (bA 54 A [.code X3,.inLoop X3,.inBlock 6,.code F4]) cs) w):
 ∀(k j:Nat),j+k=S.length→∀s Inb w A,O4 Z g.n M (S.take j) st s→s5 Z g v base M s0 s Inb w→D0 129 A (A8 g v (.slice sa S.length sc) S.length j)→
  n6 Tryd.prog g.K g.Still g.top Gl Inb 0 (s0+g.n) (G (bA 54 A [.code R6,.inLoop R6,.inBlock 4,.code w9]) cs) w:=by
 intro k
 induction k with
 | zero=>
   intro j hj s Inb w A ht hU hA
   obtain rfl:j=S.length:=by omega
   rw[List.take_length]at ht
   exact Y4 _ (fun Stop h=>w03 hA h) fun A d hA=>hk s _ _ A ht (hU.at zok d) hA
 | succ k ih=>
   intro j hj s Inb w A ht hU hA
   have hjl:j<S.length:=by omega
   obtain rfl:=hsa (by omega)
   have hU':=hU
   obtain⟨hlen,vs,N,oa,oc,ms,rfl,HT,HM⟩:=hU'
   obtain⟨hc,hz⟩:=hS.cell (k:=j) (u:=vI S[j]) zok HT.u (by simp[hjl])
   refine Y4 (fun A=>G (Frame.enter Tryd.prog 66 (X1 g v S[j]) .normal) ((bA 54 A [.inRegion (oC c0t) [2],.inBlock 5,.code d0P,.inLoop R6,.inBlock 4,.code w9])::cs)) (fun Stop h=>w01 hjl hSl hc hz hA h) fun A d hA=>?_
   refine k0p zok hs0 hM hn64 (hU.at zok d) fun t Inb' w' htn hU'=>?_
   refine Y4 _ (fun Stop h=>w02 (by omega) hA h) fun A d hA=>?_
   refine ih (j+1) (by omega) t Inb' _ A ?_ (hU'.at zok d) hA
   rw[← List.take_append_getElem hjl]
   exact b0k.2 ⟨s,ht,f0q.2 htn⟩
theorem l0t [ok:Fits g] (zok:Z.Ok g)(hs0:0<s0)(hM:M≤1048576)(hn64:g.n≤64){cs:List Frame}{st:Z.X×List Nat}
 (hk:∀t Inb w A,O4 Z g.n M ((List.range g.n).map fun j:Nat=>(j:Int)) st t→s5 Z g v base M s0 t Inb w→D0 129 A (w7 g v)→n6 Tryd.prog g.K g.Still g.top Gl Inb 0 (s0+g.n) (G (bA 54 A [.code X3,.inLoop X3,.inBlock 6,.code F4]) cs) w):
 ∀(k j:Nat),j+k=g.n→∀s Inb w A,O4 Z g.n M ((List.range j).map fun j:Nat=>(j:Int)) st s→s5 Z g v base M s0 s Inb w→D0 129 A (a0J g v j)→
  n6 Tryd.prog g.K g.Still g.top Gl Inb 0 (s0+g.n) (G (bA 54 A [.code S6,.inLoop S6,.inBlock 8,.inBlock 7,.inLoop X3,.inBlock 6,.code F4]) cs) w:=by
 intro k
 induction k with
 | zero=>
   intro j hj s Inb w A ht hU hA
   obtain rfl:j=g.n:=by omega
   exact Y4 _ (fun Stop h=>w06 hA h) fun A d hA=>hk s _ _ A ht (hU.at zok d) hA
 | succ k ih=>
   intro j hj s Inb w A ht hU hA
   refine Y4 (fun A=>G (Frame.enter Tryd.prog 66 (X1 g v j) .normal) ((bA 54 A [.inRegion (oC c0u) [2],.inBlock 9,.code d0Q,.inLoop S6,.inBlock 8,.inBlock 7,.inLoop X3,.inBlock 6,.code F4])::cs)) (fun Stop h=>w04 (by omega) hA h) fun A d hA=>?_
   refine k0p zok hs0 hM hn64 (hU.at zok d) fun t Inb' w' htn hU'=>?_
   refine Y4 _ (fun Stop h=>w05 (by omega) hA h) fun A d hA=>?_
   refine ih (j+1) (by omega) t Inb' _ A ?_ (hU'.at zok d) hA
   rw[List.range_succ,List.map_append]
   exact b0k.2 ⟨s,ht,f0q.2 htn⟩
theorem i0R [ok:Fits g] (zok:Z.Ok g)(hs0:0<s0)(hM:M≤1048576)(hn64:g.n≤64){cs:List Frame}:
 ∀(m:Nat) (s:Z.X×List Nat),M - s.2.length≤m→∀Inb w A,(∀t Inb w A,a9 Z g.n M s t→s5 Z g v base M s0 t Inb w→D0 129 A (w7 g v)→n6 Tryd.prog g.K g.Still g.top Gl Inb 0 (s0+g.n) (G (bA 54 A [.code F4]) cs) w)→
  s5 Z g v base M s0 s Inb w→D0 129 A (w7 g v)→
  n6 Tryd.prog g.K g.Still g.top Gl Inb 0 (s0+g.n) (G (bA 54 A [.code X3,.inLoop X3,.inBlock 6,.code F4]) cs) w:=by
 intro m
 induction m with
 | zero=>?_
 | succ m ih=>?_
 all_goals
  intro s hm Inb w A hk hU hA
  have hU':=hU
  obtain⟨hlen,vs,N,oa,oc,ms,rfl,HT,HM⟩:=hU'
  obtain⟨cod,hod1,hod2⟩:=HM.od
  rcases Nat.eq_zero_or_pos (y5 (Z.liv s.1) g.n)with h0|h0
  ·have hl:=HM.lf
   rw[h0]at hl
   exact Y4 _ (fun Stop h=>t0A hl hA h) fun A d hA=>hk s _ _ A (.done (.inl h0)) (hU.at zok d) hA
  by_cases hfull:M≤s.2.length
  ·exact Y4 _ (fun Stop h=>t0B HM.lf h0 ⟨⟨cod,_,hod1,hod2⟩,rfl⟩ HM.mo hfull hA h) fun A d hA=>hk s _ _ A (.done (.inr hfull)) (hU.at zok d) hA
  first
  | (exfalso;omega)
  | (refine Y4 _ (fun Stop h=>t0z HM.lf h0 ⟨⟨cod,_,hod1,hod2⟩,rfl⟩ HM.mo (by omega) HM.n hA h) fun A d hA=>?_
     refine l0t zok hs0 hM hn64 (st:=s) (fun t Inb w A ht hU hA=>?_) g.n 0 (by omega) s _ _ A rfl (hU.at zok d) hA
     have:=h0o h0 (by omega) ht
     exact ih t (by omega) Inb w A (fun t' Inb w A hr=>hk t' Inb w A (.more h0 (by omega) ht hr)) hU hA)
end
section
open Go.ConcN (sumTo upd sumTo_upd upd_ne upd_same)
variable{g:S0}{F:Fz}{Z:R2}{x y:Z.X}{w w':World}{s0 nn h:Nat}{Gl:Machine→Trace→Prop}{v:E3}{base M:Nat}{Inb:Nat→Option Seat}
theorem o0v{An:O2}{P:Program}{K:World→Prop}(hKA:∀w,K w→An.Holds w){Still:Loc→Prop}{B0 n:Nat}{Stop:Goroutine→World→Prop}{a:Goroutine}(hI:∀i,i≠0→Inb i=none)(h:Bes An P Stop a w):n6 P K Still B0 (l0z An P Stop) Inb 0 n a w:=by
 intro gs sl T q B hB hn hg C
 obtain⟨hL,hP⟩:=ring_end C (.inr rfl) hI
 obtain⟨N,gs',g',w',sl',T',q',B',hr,hg',hS',hL',hP',hA'⟩:=h gs sl T q B hg hL hP (hKA _ C.keep)
 exact⟨N,_,T',hr,gs',g',w',sl',q',B',rfl,hg',hS',hL',hP',hA'⟩
def R4(Z:R2)(x:Z.X)(n j:Nat):Nat→Bool:=fun k=>decide (j≤k) && (decide (k<n) && Z.liv x k)
def U7(Z:R2)(x:Z.X)(n j:Nat):Nat→Bool:=fun k=>decide (k<n) && (!Z.liv x k || decide (k<j))
theorem z8{n j:Nat}:(fun k=>R4 Z x n j k && k != j)=R4 Z x n (j+1):=by
 funext k
 unfold R4
 by_cases e:k=j
 ·subst e;simp;omega
 ·have e1:(k != j)=true:=by simpa using e
  have e2:decide (j≤k)=decide (j+1≤k):=by by_cases h:j≤k<;>simp[h]<;>omega
  rw[e1,e2];simp
theorem d0E{n j:Nat}(hj:j<n):(fun k=>if k=j then true else U7 Z x n j k)=U7 Z x n (j+1):=by
 funext k
 unfold U7
 by_cases e:k=j
 ·subst e;simp[hj]
 ·have e2:decide (k<j)=decide (k<j+1):=by by_cases h:k<j<;>simp[h]<;>omega
  rw[if_neg e,e2]
theorem d0D{n j:Nat}(hl:Z.liv x j=false):R4 Z x n j=R4 Z x n (j+1):=by
 rw[← z8]
 funext k
 by_cases e:k=j
 ·subst e;simp[R4,hl]
 ·have e1:(k != j)=true:=by simpa using e
  rw[e1];simp
theorem i0x{n j:Nat}(hj:j<n)(hl:Z.liv x j=false):U7 Z x n j=U7 Z x n (j+1):=by
 rw[← d0E hj]
 funext k
 by_cases e:k=j
 ·subst e;simp[U7,hl,hj]
 ·rw[if_neg e]
theorem l0s [ok:Fits g] (zok:Z.Ok g)(hs0:0<s0)(hn64:g.n≤64){osa:Option Addr}(hsl:g.sl= .slice osa g.n g.sc){oa0:Unit}{cs:List Frame}{x:Z.X}{ord:List Nat}{st:Bool}{lf:Nat}{Stop:Goroutine→World→Prop}
 (hk:∀w A vs N oa oc ov,TI Z g (fun _=>False) vs N ov x w→MI Z g vs (fun _=>False) N v base M oa ord.length oc (ord.map fun i:Nat=>Value.int .i64 i) lf w→g.K w→D0 129 A (T5 g v st g.n)→Bes g.an Tryd.prog Stop (G (bA 54 A [.code T6]) cs) w):
 ∀(k j:Nat),j+k=g.n→∀w A vs N oa oc ms,TI Z g (fun k=>R4 Z x g.n j k=true) vs N (U7 Z x g.n j) x w→MI Z g vs (fun k=>R4 Z x g.n j k=true) N v base M oa ord.length oc (ord.map fun i:Nat=>Value.int .i64 i) lf w→D0 129 A (T5 g v st j)→
  n6 Tryd.prog g.K g.Still g.top (l0z g.an Tryd.prog Stop) (inb Z g s0 (R4 Z x g.n j) vs ms x) 0 (s0+g.n) (G (bA 54 A [.code C5,.inLoop C5,.inBlock 10,.code T6]) cs) w:=by
 intro k
 induction k with
 | zero=>
   intro j hj w A vs N oa oc ms H HM hA
   obtain rfl:j=g.n:=by omega
   refine M2 fun _ hK _=>?_
   refine Y4 _ (fun Stop h=>t0y hA h) fun A d hA=>?_
   have hno:∀k,¬R4 Z x g.n g.n k=true:=fun k hk=>by
    simp only[R4,Bool.and_eq_true,decide_eq_true_eq]at hk;omega
   refine o0v (fun w h=>h.an) (fun i hi=>?_) (hk _ A vs N oa oc _ ((H.mono fun j hj=>hj.elim).at zok d) ((HM.mono fun j hj=>hj.elim).at d) (hK.at d) hA)
   unfold inb
   rw[if_neg hi,if_neg fun h=>hno _ h.2]
 | succ k ih=>
   intro j hj w A vs N oa oc ms H HM hA
   have hin:j<g.n:=by omega
   have hiH:Has g j:=⟨hin⟩
   refine M2 fun _ hK _=>?_
   have ho:=H.over j hin
   rcases Bool.eq_false_or_eq_true (Z.liv x j)with hl|hl
   ·have e0:U7 Z x g.n j j=false:=by simp[U7,hl]
    have eA:R4 Z x g.n j j=true:=by simp[R4,hl,hin]
    rw[e0]at ho
    refine Y4 (fun A=>G (Frame.enter Tryd.prog 67 #[vP g.tb 0,vI j,.bool false] .normal) ((bA 54 A [.inRegion (oC c0v) [2],.inBlock 11,.code b0e,.inLoop C5,.inBlock 10,.code T6])::cs)) (fun Stop h=>p0E hK ho hA h) fun A d hA=>?_
    refine h0u zok hs0 (fun k hk=>?_) eA hl (H.at zok d) e0 fun w1 H1 k1=>?_
    ·simp only[R4,Bool.and_eq_true,decide_eq_true_eq]at hk
     exact⟨hk.2.1,by omega⟩
    have eP:(fun k=>(R4 Z x g.n j k && k != j)=true)=fun k=>R4 Z x g.n (j+1) k=true:=by
     funext k;rw[show(R4 Z x g.n j k && k != j)=_ from congrFun z8 k]
    rw[eP,d0E hin]at H1
    rw[z8]
    have HM1:=((HM.at d).kept hin eA k1).mono (Al':=fun k=>R4 Z x g.n (j+1) k=true) fun k hk=>by
     rw[← z8]at hk
     simp only[Bool.and_eq_true]at hk
     exact hk.1
    refine Y4 _ (fun Stop h=>t0w (by omega) hA h) fun A d hA=>?_
    exact ih (j+1) (by omega) _ A vs N oa oc _ (H1.at zok d) (HM1.at d) hA
   ·have e0:U7 Z x g.n j j=true:=by simp[U7,hl,hin]
    rw[e0]at ho
    refine Y4 _ (fun Stop h=>t0x hn64 hK ho hA h) fun A d hA=>?_
    have H1:=H.at zok d
    have HM1:=HM.at d
    rw[d0D hl]at HM1 ⊢
    rw[d0D hl,i0x hin hl]at H1
    exact ih (j+1) (by omega) _ A vs N oa oc _ H1 HM1 hA
theorem o0w [ok:Fits g] (zok:Z.Ok g)(hs0:0<s0)(hn64:g.n≤64){osa:Option Addr}(hsl:g.sl= .slice osa g.n g.sc){cs:List Frame}{s:Z.X×List Nat}{Stop:Goroutine→World→Prop}
 (hk:∀w A vs N oa oc ov,TI Z g (fun _=>False) vs N ov s.1 w→MI Z g vs (fun _=>False) N v base M oa s.2.length oc (s.2.map fun i:Nat=>Value.int .i64 i) (y5 (Z.liv s.1) g.n) w→g.K w→D0 129 A (T5 g v (decide (0<y5 (Z.liv s.1) g.n)) g.n)→Bes g.an Tryd.prog Stop (G (bA 54 A [.code T6]) cs) w)
 {A:Array Value} (hU:s5 Z g v base M s0 s Inb w) (hA:D0 129 A (w7 g v)):
 n6 Tryd.prog g.K g.Still g.top (l0z g.an Tryd.prog Stop) Inb 0 (s0+g.n) (G (bA 54 A [.code F4]) cs) w:=by
 obtain⟨hlen,vs,N,oa,oc,ms,rfl,HT,HM⟩:=hU
 refine M2 fun _ hK _=>?_
 refine Y4 _ (fun Stop h=>t0v rfl hK HM.lf hsl hA h) fun A d hA=>?_
 have eA:(fun j=>decide (j<g.n) && Z.liv s.1 j)=R4 Z s.1 g.n 0:=by funext k;simp[R4]
 have eO:(fun j=>decide (j<g.n) && !Z.liv s.1 j)=U7 Z s.1 g.n 0:=by funext k;simp[U7]
 have eP:(fun j=>(decide (j<g.n) && Z.liv s.1 j)=true)=fun k=>R4 Z s.1 g.n 0 k=true:=by funext k;rw[show(decide (k<g.n) && Z.liv s.1 k)=_ from congrFun eA k]
 rw[eP]at HT HM
 rw[eO]at HT
 rw[eA]
 exact l0s (oa0:=()) zok hs0 hn64 hsl (ord:=s.2) (st:=decide (0<y5 (Z.liv s.1) g.n)) (lf:=y5 (Z.liv s.1) g.n) hk g.n 0 (by omega) _ A vs N oa oc ms (HT.at zok d) (HM.at d) hA
end
section
variable{P:Program}{F:Fz}{fn:FuncId}{ops:Array Oper}{S:World→Prop}{last:Nat}{Z:Act→World→Prop}
def OpM(P:Program)(F:Fz)(fn:FuncId)(ops:Array Oper)(i:Nat)(K:Act→World→Prop)(a:Act)(w:World):Prop:=
 ∃o,ops[i]? =some o∧((Region.wanted o (yielded ops a.tmps)=true∧∀d,uponK o a (fun a' w'=>H5 F (w.at d) w' (listed P fn a o (w.at d))∧K a' w') ((execOp a.eval o).run P (w.at d)))∨
  (Region.wanted o (yielded ops a.tmps)=false∧K (a.put o.dst undef) w))
def K7(P:Program)(F:Fz)(fn:FuncId)(ops:Array Oper)(S:World→Prop)(last:Nat)(Z:Act→World→Prop):Nat→Array Bool→Act→World→Prop
 | 0,listed,a,w=>((∀j∈Region.ready .any ops listed,j=last)→Z a w)∧∀j∈Region.ready .any ops listed,j=last
 | fuel+1,listed,a,w=>((∀j∈Region.ready .any ops listed,j=last)→Z a w)∧∀i∈Region.ready .any ops listed,i≠last→OpM P F fn ops i (fun a w=>S w∧K7 P F fn ops S last Z fuel (listed.setIfInBounds i true) a w) a w
theorem e0b{o:Oper}{a:Act}{K K':Act→World→Prop}{r:Result Next}(h:∀u w,K (a.put o.dst u) w→K' (a.put o.dst u) w)(hh:uponK o a K r):uponK o a K' r:=by
 cases r with
 | ok x w=>cases x<;>first|exact h _ _ hh|exact hh
 | halt _ _=>exact hh
theorem g0h{i:Nat}{a:Act}{w:World}{K K':Act→World→Prop}(h:∀a w,K a w→K' a w)(hh:OpM P F fn ops i K a w):OpM P F fn ops i K' a w:=by
 obtain⟨o,h1,⟨h2,h3⟩|⟨h2,h3⟩⟩:=hh
 ·exact⟨o,h1,.inl ⟨h2,fun d=>e0b (fun u w ⟨x,y⟩=>⟨x,h _ _ y⟩) (h3 d)⟩⟩
 ·exact⟨o,h1,.inr ⟨h2,h _ _ h3⟩⟩
theorem r02{i:Nat}{a:Act}{w:World}{K:Act→World→Prop}(hK:∀a w d,K a w→K a (World.at w d))(h:OpM P F fn ops i K a w)(d:Nat):OpM P F fn ops i K a (w.at d):=by
 obtain⟨o,h1,⟨h2,h3⟩|⟨h2,h3⟩⟩:=h
 ·exact⟨o,h1,.inl ⟨h2,fun d'=>by rw[at_at'];exact h3 d'⟩⟩
 ·exact⟨o,h1,.inr ⟨h2,hK _ _ _ h3⟩⟩
theorem U1(hS:∀w d,S w→S (World.at w d))(hZ:∀a w d,Z a w→Z a (World.at w d)):∀(fuel:Nat) (listed:Array Bool) (a:Act) (w:World),K7 P F fn ops S last Z fuel listed a w→∀d,K7 P F fn ops S last Z fuel listed a (w.at d):=by
 intro fuel
 induction fuel with
 | zero=>exact fun listed a w h d=>⟨fun x=>hZ _ _ _ (h.1 x),h.2⟩
 | succ fuel ih=>exact fun listed a w h d=>⟨fun x=>hZ _ _ _ (h.1 x),fun i hi hl=>r02 (fun a w d ⟨x,y⟩=>⟨hS _ _ x,ih _ _ _ y d⟩) (h.2 i hi hl) d⟩
theorem o0L{i j:Nat}{oi oj:Oper}{v:Value}(hj:ops[j]? =some oj)(hap:oi.apart ops oj=true)(hsj:∀cs b,oj.op≠.select cs b){K:Act→World→Prop}{a:Act}{w:World}
 (h:OpM P F fn ops j K (a.put oi.dst v) w):OpM P F fn ops j (fun a' w'=>∃u,a'=a.put oj.dst u∧K (a'.put oi.dst v) w') a w:=by
 obtain⟨h1,h2,h3⟩:=Oper.apart_spec hap
 obtain⟨o,ho,hh⟩:=h
 rw[hj]at ho
 cases ho
 have e1:execOp (a.put oi.dst v).eval oj=execOp a.eval oj:=execOp_put oj hsj a oi.dst v h1
 have e2:=wanted_put oj a oi.dst v h1
 refine⟨oj,hj,?_⟩
 unfold listed at*
 rw[e1,e2]at hh
 rcases hh with⟨hw,hh⟩|⟨hw,hh⟩
 ·refine .inl ⟨hw,fun d=>?_⟩
  have:=hh d
  cases hr:(execOp a.eval oj).run P (w.at d)with
  | halt _ _=>rw[hr]at this;exact this
  | ok x w'=>
    rw[hr]at this
    cases x with
    | value u=>exact⟨this.1,u,rfl,by rw[← Act.put_comm a v u h2];exact this.2⟩
    | skip=>exact⟨this.1,undef,rfl,by rw[← Act.put_comm a v undef h2];exact this.2⟩
    | _=>exact this
 ·exact .inr ⟨hw,undef,rfl,by rw[← Act.put_comm a v undef h2];exact hh⟩
theorem h0D(hS:∀w d,S w→S (World.at w d))(hZ:∀a w d,Z a w→Z a (World.at w d)){i:Nat}{oi:Oper}{v:Value}(hi:ops[i]? =some oi)(hil:i≠last)(hsel:∀(j:Nat) (o:Oper) cs b,ops[j]? =some o→o.op≠.select cs b):
 ∀(fuel:Nat) (listed:Array Bool) (a:Act) (w:World),S w→
  (∀j oj,ops[j]? =some oj→j≠i→listed.getD j true=false→(∀e∈oj.after,Region.binds .any e=true→e.on≠i)→oi.apart ops oj=true)→
  i∈Region.ready .any ops listed→(∀w,S w→YQ P F fn ops w oi v a)→
  K7 P F fn ops S last Z fuel (listed.setIfInBounds i true) (a.put oi.dst v) w→K7 P F fn ops S last Z (fuel+1) listed a w:=by
 have self:∀(fuel:Nat) (listed:Array Bool) (a:Act) (w:World),S w→(∀w,S w→YQ P F fn ops w oi v a)→K7 P F fn ops S last Z fuel (listed.setIfInBounds i true) (a.put oi.dst v) w→
  OpM P F fn ops i (fun a w=>S w∧K7 P F fn ops S last Z fuel (listed.setIfInBounds i true) a w) a w:=by
  intro fuel listed a w hw hy H
  rcases hy w hw with⟨h1,h2⟩|⟨h1,rfl⟩
  ·exact⟨oi,hi,.inl ⟨h1,fun d=>by rw[(h2 d).1];exact⟨⟨⟨0,i3.refl F _⟩,(h2 d).2⟩,hS _ _ hw,U1 hS hZ _ _ _ _ H d⟩⟩⟩
  ·exact⟨oi,hi,.inr ⟨h1,hw,H⟩⟩
 intro fuel
 induction fuel with
 | zero=>
   intro listed a w hw _ hr hy H
   refine⟨fun h=>absurd (h i hr) hil,fun j hj hjl=>?_⟩
   by_cases hji:j=i
   ·subst hji;exact self _ _ _ _ hw hy H
   ·exact absurd (H.2 j (ready_mono hj hji)) hjl
 | succ fuel ih=>
   intro listed a w hw hfree hr hy H
   refine⟨fun h=>absurd (h i hr) hil,fun j hj hjl=>?_⟩
   by_cases hji:j=i
   ·subst hji;exact self _ _ _ _ hw hy H
   ·have h1:=H.2 j (ready_mono hj hji) hjl
    obtain⟨hjun,oj,hoj,hall⟩:=mem_ready.1 hj
    have hnot:∀e∈oj.after,Region.binds .any e=true→e.on≠i:=fun e he hb heq=>by
     have h1:=hall e he hb
     have h0:=(mem_ready.1 hr).1
     rw[heq]at h1
     rcases Nat.lt_or_ge i listed.size with h'|h'
     ·simp[h']at h0 h1;rw[h0]at h1;cases h1
     ·simp[Array.getElem?_eq_none h']at h1
    have hap:=hfree j oj hoj hji hjun hnot
    obtain⟨p1,p2,p3⟩:=Oper.apart_spec hap
    have h2:=o0L (i:=i) (oi:=oi) hoj hap (fun cs b=>hsel j oj cs b hoj) h1
    have hfree':∀k ok,ops[k]? =some ok→k≠i→(listed.setIfInBounds j true).getD k true=false→
     (∀e∈ok.after,Region.binds .any e=true→e.on≠i)→oi.apart ops ok=true:=fun k ok hk hki hun hno=>by
     refine hfree k ok hk hki ?_ hno
     by_cases hjk:j=k
     ·subst hjk;exact hjun
     ·rw[getD_set_ne true hjk]at hun;exact hun
    refine g0h (fun a' w' h3=>?_) h2
    obtain⟨u,rfl,hw',h4⟩:=h3
    refine⟨hw',ih (listed.setIfInBounds j true) _ _ hw' hfree' (ready_mono hr (Ne.symm hji)) (fun w hw=>(hy w hw).of_same (execOp_put oi (fun cs b=>hsel i oi cs b hi) a oj.dst u p3) (wanted_put oi a oj.dst u p3)) ?_⟩
    rw[Array.setIfInBounds_comm _ _ hji]
    exact h4
theorem E9(hS:∀w d,S w→S (World.at w d))(hZ:∀a w d,Z a w→Z a (World.at w d)){i:Nat}{oi:Oper}{v:Value}{fuel:Nat}{listed:Array Bool}{a:Act}{w:World}(hw:S w)(hi:ops[i]? =some oi)(hil:(i != last)=true)(hs:Region.noSelect ops=true)(hf:Region.free .any ops listed i=true)
 (hr:(Region.ready .any ops listed).contains i=true) (hy:∀w,S w→YQ P F fn ops w oi v a) (h:K7 P F fn ops S last Z fuel (listed.setIfInBounds i true) (a.put oi.dst v) w):K7 P F fn ops S last Z (fuel+1) listed a w:=
 h0D hS hZ hi (by simpa using hil) (Region.noSelect_spec hs) fuel listed a w hw (Region.free_spec hi hf) (by simpa using hr) hy h
theorem V1{fuel:Nat}{listed:Array Bool}{a:Act}{w:World}{r:List Nat}(hr:Region.ready .any ops listed=r)(hl:r.any (· != last)=true)
 (h:∀i∈r,i≠last→OpM P F fn ops i (fun a w=>S w∧K7 P F fn ops S last Z fuel (listed.setIfInBounds i true) a w) a w):K7 P F fn ops S last Z (fuel+1) listed a w:=
 ⟨fun hn=>by
  rw[hr]at hn
  obtain⟨i,hi,hil⟩:=List.any_eq_true.1 hl
  exact absurd (hn i hi) (by simpa using hil),by rw[hr];exact h⟩
theorem T3{listed:Array Bool}{a:Act}{w:World}(hr:Region.ready .any ops listed=[last])(h:Z a w):∀fuel,K7 P F fn ops S last Z fuel listed a w
 | 0=>⟨fun _=>h,by rw[hr];simp⟩
 | _+1=>⟨fun _=>h,fun i hi hne=>absurd (by rw[hr]at hi;simpa using hi) hne⟩
theorem k0g{main:Bool}{Stop:Goroutine→World→Prop}{b:Frame}{a:Act}{w:World}{k:List Item}{cs:List Frame}{i:Nat}{rest:List Nat}(hk:b.kind≠.early)
 (h:OpM P F b.fn ops i (fun a w=>E0 P main F Stop (G (b.at a (.inRegion ops rest::k)) cs) w) a w):E0 P main F Stop (G (b.at a (.inRegion ops (i::rest)::k)) cs) w:=by
 obtain⟨o,ho,⟨hw,hh⟩|⟨hw,hh⟩⟩:=h
 ·refine .step rfl fun d=>?_
  have:=hh d
  cases hr:(execOp a.eval o).run P (w.at d)with
  | halt _ _=>rw[hr]at this;exact this.elim
  | ok x w'=>
    rw[hr]at this
    cases x with
    | value u=>exact⟨_,_,_,stepG_value ho hw hk hr,this.1,this.2⟩
    | skip=>exact⟨_,_,_,stepG_none ho hw hk hr,this.1,this.2⟩
    | _=>exact this.elim
 ·exact .step rfl fun d=>⟨_,_,#[],stepG_unwanted ho hw,⟨⟨0,i3.refl F _⟩,by simp⟩,hh.at d⟩
theorem h0E(L:LL ops last){main:Bool}{Stop:Goroutine→World→Prop}{b:Frame}{k:List Item}{cs:List Frame}(hk:b.kind≠.early):
 ∀(fuel t:Nat) (listed:Array Bool) (a:Act) (w:World),listed.size=ops.size→a8 ops listed→listed.getD last true=false→
  K7 P F b.fn ops S last (fun a w=>E0 P main F Stop (G (b.at a (.inRegion ops [last]::k)) cs) w) fuel listed a w→
  E0 P main F Stop (G (b.at a (.inRegion ops (Region.linearise.go .any ops (fuel+1) t listed [])::k)) cs) w:=by
 intro fuel
 induction fuel with
 | zero=>?_
 | succ fuel ih=>?_
 all_goals
  intro t listed a w hs hc hl H
  obtain⟨i0,hi0⟩:=a0N L hs last hl
  have hlen:0<(Region.ready .any ops listed).length:=List.length_pos_of_mem hi0
  obtain⟨i,hi⟩:∃i,(Region.ready .any ops listed)[t % (Region.ready .any ops listed).length]? =some i:=⟨_,List.getElem?_eq_getElem (Nat.mod_lt _ hlen)⟩
  have hmem:=List.mem_of_getElem? hi
  rw[Region.linearise.go]
  change E0 P main F Stop (G (b.at a (.inRegion ops (match(Region.ready .any ops listed)[t % (Region.ready .any ops listed).length]? with
   | some i=>Region.linearise.go .any ops _ (t / (Region.ready .any ops listed).length) (listed.setIfInBounds i true) [i]
   | none=>[].reverse)::k)) cs) w
  rw[hi]
  simp only[]
  rw[linearise_go_acc,List.reverse_singleton,List.singleton_append]
 ·obtain rfl:=H.2 i hmem
  simp only[Region.linearise.go,List.reverse_nil]
  exact H.1 H.2
 ·by_cases hil:i=last
  ·subst hil
   have hall:=a0o L hs hc hmem i
   have hre:∀j∈Region.ready .any ops listed,j=i:=by
    intro j hj
    obtain⟨h0,o,ho,_⟩:=mem_ready.1 hj
    have hlt:=(D4 ho)
    have hsz:=L.size
    rcases Nat.lt_or_ge j i with h|h
    ·have:=hall j (by omega) h
     rw[y4 (by omega),this]at h0;cases h0
    ·omega
   have hnil:Region.ready .any ops (listed.setIfInBounds i true)=[]:=by
    apply List.eq_nil_iff_forall_not_mem.2
    intro j hj
    obtain⟨h0,o,ho,_⟩:=mem_ready.1 hj
    have hlt:=(D4 ho)
    have hsz:=L.size
    by_cases e:i=j
    ·subst e
     rw[y4 (by simp;omega)]at h0
     have:i<listed.size:=by omega
     simp[this]at h0
    ·rw[getD_set_ne true e,y4 (by omega),hall j (by omega) (by omega)]at h0;cases h0
   have:Region.linearise.go .any ops (fuel+1) (t / (Region.ready .any ops listed).length) (listed.setIfInBounds i true) []=[]:=by
    rw[Region.linearise.go]
    change(match(Region.ready .any ops (listed.setIfInBounds i true))[(t / (Region.ready .any ops listed).length) % (Region.ready .any ops (listed.setIfInBounds i true)).length]? with
     | some i=>_
     | none=>[].reverse)=[]
    rw[hnil];rfl
   rw[this]
   exact H.1 hre
  ·refine k0g hk (g0h (fun a' w' ⟨_,hK⟩=>ih _ _ _ _ (by simpa using hs) (fun j o' hj hlj e he hb=>?_) (by rw[getD_set_ne true hil];exact hl) hK) (H.2 i hmem hil))
   by_cases e2:i=j
   ·subst e2
    obtain⟨_,o2,ho2,hd⟩:=mem_ready.1 hmem
    rw[hj]at ho2
    cases ho2
    exact getD_set_true (hd e he hb)
   ·rw[getD_set_ne false e2]at hlj
    exact getD_set_true (hc j o' hj hlj e he hb)
theorem U5(S:World→Prop)(hm:P.follows .mixedOrders=true)(L:LL ops last){id:Nat}{main:Bool}{Stop:Goroutine→World→Prop}{b:Frame}{a:Act}{w:World}{k:List Item}{cs:List Frame}(hk:b.kind≠.early)
 (h:K7 P F b.fn ops S last (fun a w=>E0 P main F Stop (G (b.at a (.inRegion ops [last]::k)) cs) w) last (Array.replicate ops.size false) a w):
 E0 P main F Stop (G (b.at a (.code (.region id ops true)::k)) cs) w:=by
 refine .step rfl fun d=>⟨_,_,_,stepG_region_draw,⟨⟨1,?_⟩,by simp⟩,?_⟩
 ·exact⟨rfl,rfl,rfl,rfl,Nat.le_refl _,fun _ _ h=>.inr h,fun _ _=>rfl⟩
 ·have hs:=L.size
  have:=h0E (S:=S) (cs:=cs) (k:=k) L hk last ((w.at d).tape (w.at d).drawn (.order b.fn id)) (Array.replicate ops.size false) a w (by simp) (fun j o _ hl=>by
   simp at hl
   rcases Nat.lt_or_ge j ops.size with h1|h1<;>simp[h1]at hl) (by simp[hs]) h
  rw[← hs]at this
  simp only[Region.schedule,hm,Bool.true_or,if_true]
  exact this.at (d+1)
theorem D3{i:Nat}{o:Oper}{K:Act→World→Prop}{a:Act}{w:World}(ho:ops[i]? =some o)(hw:Region.wanted o (yielded ops a.tmps)=true)
 (h:∀(d:Nat) (K':Act→World→Prop),(∀a' w',H5 F (w.at d) w' (listed P fn a o (w.at d))∧K a' w'→K' a' w')→uponK o a K' ((execOp a.eval o).run P (w.at d))):OpM P F fn ops i K a w:=
 ⟨o,ho,.inl ⟨hw,fun d=>h d _ fun _ _ x=>x⟩⟩
section
variable {fuel : Nat} {listed : Array Bool} {a : Act} {w : World} {oi : Oper}
theorem tkM (i : Nat) (v : Value) (hS : ∀ w d, S w → S (World.at w d)) (hw : S w) (h : K7 P F fn ops S last Z fuel (listed.setIfInBounds i true) (a.put oi.dst v) w) (hZ : ∀ a w d, Z a w → Z a (World.at w d) := by exact fun _ _ d h => h.at d) (hi : ops[i]? = some oi := by exact rfl) (hil : (i != last) = true := by exact rfl) (hs : Region.noSelect ops = true := by kernel_rfl) (hf : Region.free .any ops listed i = true := by kernel_rfl) (hr : (Region.ready .any ops listed).contains i = true := by kernel_rfl) (hy : ∀ w, S w → YQ P F fn ops w oi v a := by exact fun u hu => .inl ⟨rfl, fun d => ⟨by simp [go_sem, execOp, Act.eval], fun e he => by have hm := mem_listed he; simp [go_sem, execOp, Act.eval] at hm⟩⟩) : K7 P F fn ops S last Z (fuel + 1) listed a w := E9 hS hZ hw hi hil hs hf hr hy h
theorem o0u {Q : World → Prop} (i : Nat) (v : Value) (f : ∀ u, S u → Q u) (hS : ∀ w d, S w → S (World.at w d)) (hw : S w) (h : K7 P F fn ops S last Z fuel (listed.setIfInBounds i true) (a.put oi.dst v) w) (hZ : ∀ a w d, Z a w → Z a (World.at w d) := by exact fun _ _ d h => h.at d) (hi : ops[i]? = some oi := by exact rfl) (hil : (i != last) = true := by exact rfl) (hs : Region.noSelect ops = true := by kernel_rfl) (hf : Region.free .any ops listed i = true := by kernel_rfl) (hr : (Region.ready .any ops listed).contains i = true := by kernel_rfl) (hy : (∀ u, S u → Q u) → ∀ w, S w → YQ P F fn ops w oi v a := by intro f0; exact fun u hu => (fun f => .inl ⟨rfl, fun d => ⟨by simp [go_sem, execOp, Act.eval, f], fun e he => by have hm := mem_listed he; simp [go_sem, execOp, Act.eval, f] at hm⟩⟩) (f0 u hu)) : K7 P F fn ops S last Z (fuel + 1) listed a w := E9 hS hZ hw hi hil hs hf hr (hy f) h
theorem M8 {Q : World → Prop} (i : Nat) (v : Value) (f : ∀ u, S u → Q u) (hS : ∀ w d, S w → S (World.at w d)) (hw : S w) (h : K7 P F fn ops S last Z fuel (listed.setIfInBounds i true) (a.put oi.dst v) w) (hZ : ∀ a w d, Z a w → Z a (World.at w d) := by exact fun _ _ d h => h.at d) (hi : ops[i]? = some oi := by exact rfl) (hil : (i != last) = true := by exact rfl) (hs : Region.noSelect ops = true := by kernel_rfl) (hf : Region.free .any ops listed i = true := by kernel_rfl) (hr : (Region.ready .any ops listed).contains i = true := by kernel_rfl) (hy : (∀ u, S u → Q u) → ∀ w, S w → YQ P F fn ops w oi v a := by intro f0; exact fun u hu => (fun f => .inl ⟨rfl, fun d => ⟨by simp [go_sem, execOp, Act.eval, f], fun e he => by have hm := mem_listed he; simp [go_sem, execOp, Act.eval, f] at hm; first | (subst hm; exact M0 _ _) | (rcases hm with rfl | rfl | rfl <;> exact M0 _ _) | (rcases hm with rfl | rfl | rfl | rfl <;> exact M0 _ _)⟩⟩) (f0 u hu)) : K7 P F fn ops S last Z (fuel + 1) listed a w := E9 hS hZ hw hi hil hs hf hr (hy f) h
end
end
noncomputable section
variable {cs:List Frame}{main:Bool}{Stop:Goroutine→World→Prop}
variable{g:S0}{F:Fz}{w:World}
def P6:Code:=Tryd.f64.body.getD .skip
def t0a:=pC [] P6
def k0Z:=pC [zt] P6
def t0b:=pC [zf] P6
def k00:=pC [zf,zt] P6
theorem a0C(args:Array Value):Frame.enter Tryd.prog 64 args .normal=(Go.Conc.base 64).at {tmps:=args++Array.replicate (9 - args.size) undef,defers:=[]} [.code P6]:=enter_at args Tryd.func64 rfl
theorem i0n:X0 64:=G1 Tryd.func64 rfl rfl
theorem f03{m:Int}(hm:m<0){c:Frame}(h:E0 Tryd.prog main F Stop (G (c.finish (vI 0)) cs) w):
 E0 Tryd.prog main F Stop (G (Frame.enter Tryd.prog 64 #[vI m,vI 1048576] .normal) (c::cs)) w:=by
 have f1:¬(0:Int)<m:=by omega
 rw[a0C]
 change E0 _ _ _ _ (G ((Go.Conc.base 64).at _ [.code t0a]) _) _
 walk_nrm
 refine ogW k0Z t0b ?_
 simp only[k0Z,P6,Tryd.f64,zz,Nat.reduceAdd]
 refine oT ?_
 refine I0<|ogW k00 .ret ?_
 simp only[k00,P6,Tryd.f64,zz,Nat.reduceAdd]
 iterate 5 refine oT ?_
 refine I0<|ogX ?_
 refine G0 rfl (fun d=>stepG_leave (fn:=Tryd.f64) (v:=vI 0) rfl rfl Tryd.func64 (by simp[results,Tryd.f64,go_sem, *]) (by simp[results,Tryd.f64,go_sem, *])) ?_
 exact h
theorem f04{m:Int}(hm:0≤m)(hm2:m≤1048576){c:Frame}(h:E0 Tryd.prog main F Stop (G (c.finish (vI m)) cs) w):
 E0 Tryd.prog main F Stop (G (Frame.enter Tryd.prog 64 #[vI m,vI 1048576] .normal) (c::cs)) w:=by
 have f1:¬m<0:=by omega
 have f2:¬(1048576:Int)<m:=by omega
 rw[a0C]
 change E0 _ _ _ _ (G ((Go.Conc.base 64).at _ [.code t0a]) _) _
 walk_nrm
 refine ogW k0Z t0b ?_
 simp only[k0Z,P6,Tryd.f64,zz,Nat.reduceAdd]
 refine oT ?_
 refine I0<|ogW k00 .ret ?_
 simp only[k00,P6,Tryd.f64,zz,Nat.reduceAdd]
 iterate 5 refine oT ?_
 refine I0<|ogX ?_
 refine G0 rfl (fun d=>stepG_leave (fn:=Tryd.f64) (v:=vI m) rfl rfl Tryd.func64 (by simp[results,Tryd.f64,go_sem, *]) (by simp[results,Tryd.f64,go_sem, *])) ?_
 exact h
theorem e0o{m:Int}(hm:1048576<m){c:Frame}(h:E0 Tryd.prog main F Stop (G (c.finish (vI 1048576)) cs) w):
 E0 Tryd.prog main F Stop (G (Frame.enter Tryd.prog 64 #[vI m,vI 1048576] .normal) (c::cs)) w:=by
 have f1:¬m<0:=by omega
 rw[a0C]
 change E0 _ _ _ _ (G ((Go.Conc.base 64).at _ [.code t0a]) _) _
 walk_nrm
 refine ogW k0Z t0b ?_
 simp only[k0Z,P6,Tryd.f64,zz,Nat.reduceAdd]
 refine oT ?_
 refine I0<|ogW k00 .ret ?_
 simp only[k00,P6,Tryd.f64,zz,Nat.reduceAdd]
 iterate 5 refine oT ?_
 refine I0<|ogX ?_
 refine G0 rfl (fun d=>stepG_leave (fn:=Tryd.f64) (v:=vI 1048576) rfl rfl Tryd.func64 (by simp[results,Tryd.f64,go_sem, *]) (by simp[results,Tryd.f64,go_sem, *])) ?_
 exact h
theorem o0b{m:Int}{M:Nat}(hM:(M:Int)=min (max m 0) 1048576){c:Frame}(h:E0 Tryd.prog main F Stop (G (c.finish (vI M)) cs) w):
 E0 Tryd.prog main F Stop (G (Frame.enter Tryd.prog 64 #[vI m,vI 1048576] .normal) (c::cs)) w:=by
 by_cases h1:m<0
 ·exact f03 h1 (by rw[show(0:Int)=M by omega];exact h)
 ·by_cases h2:m≤1048576
  ·exact f04 (by omega) h2 (by rw[show m=M by omega];exact h)
  ·exact e0o (by omega) (by rw[show(1048576:Int)=M by omega];exact h)
end
section
variable{g:S0}{F:Fz}{w:World}
theorem i0r(args:Array Value):Frame.enter Tryd.prog 54 args .normal=(Go.Conc.base 54).at {tmps:=args++Array.replicate (129 - args.size) undef,defers:=[]} [.code y0V]:=enter_at args Tryd.func54 rfl
theorem i0l:X0 54:=G1 Tryd.func54 rfl rfl
theorem c0K(X:World)(v u:Value)(t:TypeId):(X.alloc (.cells #[v] t)).setCell ⟨X.heap.size,0,none⟩ u=X.alloc (.cells #[u] t):=by go_simp
theorem k0n(X:World)(o:Obj)(a:Addr)(u:Value)(h:a.block<X.heap.size):(X.alloc o).setCell a u=(X.setCell a u).alloc o:=by
 unfold World.alloc World.setCell
 congr 1
 apply Array.ext_getElem?
 intro i
 simp only[Array.getElem?_modify,Array.getElem?_push,Array.size_modify]
 by_cases h1:i=X.heap.size
 ·subst h1;simp;omega
 ·simp[h1]
def b0O(w:World)(M n:Nat):World:=((w.alloc (.cells #[vI M] 3)).alloc (.cells #[.slice none 0 0] 24)).alloc (.cells #[vI n] 3)
theorem w0W{n:Nat}(hU:Q1 F n)(hn:n≤w.heap.size){ta:Option Addr}{tl tc M:Nat}{sch:Value}{m:Int}(htl:tl≤64)(hM:min (max m 0) 1048576=(M:Int)){cs:List Frame}{main:Bool}{Stop:Goroutine→World→Prop}
 (h:∀A,D0 129 A [(0,.slice ta tl tc),(1,sch),(5,vP w.heap.size 0),(6,vP (w.heap.size+1) 0),(7,.bool false),(8,.slice none 0 0),(9,vP (w.heap.size+2) 0)]→
   E0 Tryd.prog main F Stop (G (bA 54 A [.code p0G]) cs) (b0O w M tl)):
 E0 Tryd.prog main F Stop (G (Frame.enter Tryd.prog 54 #[.slice ta tl tc,sch,vI m] .normal) cs) w:=by
 have n1:¬(64:Int)<(tl:Int):=by omega
 have n2:¬64<tl:=by omega
 rw[i0r]
 walk_nrm
 refine ogW x0n x0w ?_
 simp only[x0n,J0,Tryd.f54,zz,Nat.reduceAdd]
 iterate 2 refine oA hU ?_
 iterate 2 refine oT ?_
 refine I0<|ogW x0o x0x ?_
 simp only[x0o,J0,Tryd.f54,zz,Nat.reduceAdd]
 iterate 3 refine oT ?_
 refine oA hU ?_
 (refine oW fun dd K hK=>?_;go_simp;refine qS hK hU ?_;clear hK K)
 have e1:=c0K ((w.alloc (.cells #[vI m] 3)).alloc (.cells #[.slice none 0 0] 24)) (vI 0) (vI tl) 3
 simp only[World.size_alloc]at e1
 rw[e1]
 clear e1
 refine I0<|ogW x0p p0G ?_
 simp only[x0p,J0,Tryd.f54,zz,Nat.reduceAdd]
 refine oL ?_
 refine oc i0n #[vI m,vI 1048576] ?_
 (refine o0b hM.symm ?_)
 rw[Frame.finish_at]
 walk_nrm
 (refine oW fun dd K hK=>?_;go_simp;refine qS hK hU ?_;clear hK K)
 rw[k0n _ _ _ _ (by simp;omega),k0n _ _ _ _ (by simp),c0K]
 refine I0 ?_
 refine h _ ?_
 exact⟨rfl,rfl,rfl,rfl,rfl,rfl,rfl,rfl,trivial⟩
end
section
section
variable{P:Program}
theorem e06(w:World)(es:Array Event):∀(fs:List Field) (places:List (Nat×Nat)),fs.mapM (fun f=>(P.info? f.type).map fun i=>(f.offset,i.size))=some places→
 (fs.mapM fun f=>Prod.mk f.offset <$> sizeOf f.type).events P w es=es
 | [],places,h=>by simp
 | f::fs,places,h=>by
   simp only[List.mapM_cons,Option.bind_eq_bind,Option.pure_def]at h
   cases hi:P.info? f.type with
   | none=>simp[hi]at h
   | some i=>
     cases hr:fs.mapM (fun f=>(P.info? f.type).map fun i=>(f.offset,i.size))with
     | none=>simp[hi,hr]at h
     | some rest=>
       have hs:(sizeOf f.type).run P w= .ok i.size w:=by simp[sizeOf,typeInfo,hi]
       have he:(sizeOf f.type).events P w es=es:=by simp[sizeOf,typeInfo,hi,go_sem]
       simp[List.mapM_cons,hs,he,run_places w fs rest hr,e06 w es fs rest hr]
theorem E4(w:World)(es:Array Event)(t:TypeId)(parts:Array (Nat×Value))(cells:Array Value)(fields:Array Field)(hu:P.underlying t=some (.struct fields))(h:P.built t parts.toList=some cells):(Instr.build t parts).events P w es=es:=by
 unfold Program.built at h
 cases hit:P.info? t with
 | none=>simp[hit]at h
 | some it=>
   cases hz:it.zero with
   | none=>simp[hit,hu,hz]at h
   | some z=>
     cases hp:fields.toList.mapM (fun f=>(P.info? f.type).map fun i=>(f.offset,i.size))with
     | none=>simp[hit,hu,hz,hp]at h
     | some places=>
       simp only[hit,hu,hz,hp]at h
       have h':Instr.fill (fun x=>places[x]?) z.cells parts.toList=some cells:=by simpa using h
       unfold Value.cells at h'
       simp[Instr.build,run_underlying hu,typeInfo,zeroValue,hit,hz,Array.mapM_eq_mapM_toList,run_places w _ _ hp,e06 w es _ _ hp,h',go_sem]
end
section
variable(w:World)(es:Array Event)(c b:Nat)(n m:Nat)
theorem g0H(c b n m:Nat):Tryd.prog.built 137 [(0,.chan (some c)),(2,vL b 0 n m)]=some #[.chan (some c),.slice none 0 0,vL b 0 n m]:=by kernel_rfl
@[go_sem] theorem p0O:(Instr.build 137 #[(0,.chan (some c)),(2,vL b 0 n m)]).run Tryd.prog w= .ok (.agg #[.chan (some c),.slice none 0 0,vL b 0 n m]) w:=run_build w _ _ _ (g0H c b n m)
@[go_sem] theorem r0l:(Instr.build 137 #[(0,.chan (some c)),(2,vL b 0 n m)]).events Tryd.prog w es=es:=E4 w es _ _ _ _ Tryd.underlying137 (g0H c b n m)
theorem g0I(t c:Nat):Tryd.prog.built 141 [(0,vP t 0),(1,.chan (some c))]=some #[vP t 0,.chan (some c),.bool false]:=by kernel_rfl
@[go_sem] theorem p0P:(Instr.build 141 #[(0,vP b 0),(1,.chan (some c))]).run Tryd.prog w= .ok (.agg #[vP b 0,.chan (some c),.bool false]) w:=run_build w _ _ _ (g0I b c)
@[go_sem] theorem r0m:(Instr.build 141 #[(0,vP b 0),(1,.chan (some c))]).events Tryd.prog w es=es:=E4 w es _ _ _ _ Tryd.underlying141 (g0I b c)
end
theorem j0R:∃i,Tryd.prog.info? 109=some i∧i.bytes=0:=by
 have h:(Tryd.prog.info? 109).map (·.bytes)=some 0:=by kernel_rfl
 obtain⟨i,hi,h1⟩:=Option.map_eq_some_iff.1 h
 exact⟨i,hi,h1⟩
theorem j0T:∃i,Tryd.prog.info? 4=some i∧i.zero=some (.bool false)∧i.size=1∧i.bytes=1:=by
 have h:(Tryd.prog.info? 4).map (fun i=>(i.size,i.bytes))=some (1,1):=by kernel_rfl
 have h0:(Tryd.prog.info? 4).bind (·.zero)=some (.bool false):=by kernel_rfl
 obtain⟨i,hi,h1⟩:=Option.map_eq_some_iff.1 h
 rw[hi]at h0
 simp only[Prod.mk.injEq]at h1
 exact⟨i,hi,h0,h1.1,h1.2⟩
section
variable(w:World)(es:Array Event)(n:Nat)
@[go_sem] theorem u0e:(Instr.makeChan 134 (vI 0)).run Tryd.prog w= .ok (.chan (some w.heap.size)) (w.alloc (.chan 0 #[] false 0 0 false)):=by
 obtain⟨i,hi,hb⟩:=j0R
 exact run_makeChan Tryd.underlying134 hi .i64 0 (by decide) (by simp)
@[go_sem] theorem t0m:(Instr.makeChan 134 (vI 0)).events Tryd.prog w es=es:=by
 obtain⟨i,hi,hb⟩:=j0R
 exact events_makeChan Tryd.underlying134 hi .i64 0 (by decide) (by simp) es
@[go_sem] theorem u0f:(Instr.makeChan 139 (vI 0)).run Tryd.prog w= .ok (.chan (some w.heap.size)) (w.alloc (.chan 0 #[] false 0 0 false)):=by
 obtain⟨i,hi,_,_,hb⟩:=j0T
 exact run_makeChan Tryd.underlying139 hi .i64 0 (by decide) (by simp)
@[go_sem] theorem t0n:(Instr.makeChan 139 (vI 0)).events Tryd.prog w es=es:=by
 obtain⟨i,hi,_,_,hb⟩:=j0T
 exact events_makeChan Tryd.underlying139 hi .i64 0 (by decide) (by simp) es
@[go_sem] theorem u0h(h:n≤64):(Instr.makeSlice 69 (vI n) (vI n)).run Tryd.prog w= .ok (vL w.heap.size 0 n n) (w.alloc (.cells (madeCells #[.bool false] n) 4)):=by
 obtain⟨i,hi,hz,hs,hb⟩:=j0T
 have:=run_make (P:=Tryd.prog) w 69 4 i (.bool false) Tryd.underlying69 hi hz .i64 .i64 n n (by omega) (by omega) (by rw[hb];omega) (by omega)
 rw[hs]at this
 simpa [Value.cells]using this
@[go_sem] theorem t0o(h:n≤64):(Instr.makeSlice 69 (vI n) (vI n)).events Tryd.prog w es=es:=by
 obtain⟨i,hi,hz,hs,hb⟩:=j0T
 exact events_make (P:=Tryd.prog) w 69 4 i (.bool false) Tryd.underlying69 hi hz .i64 .i64 n n (by omega) (by omega) (by rw[hb];omega) (by omega) (by rw[hb];omega) es
end
structure SN(nn nb n:Nat)(u:World):Prop where
 top:nn≤u.heap.size
 lt:nb<u.heap.size
 c:u.cell? ⟨nb,0,none⟩=some (vI n)
 z:u.frozen? ⟨nb,0,none⟩=false
theorem SN.at{nn nb n:Nat}{u:World}(h:SN nn nb n u)(d:Nat):SN nn nb n (u.at d):=⟨h.top,h.lt,h.c,h.z⟩
theorem SN.alloc{nn nb n:Nat}{u:World}(h:SN nn nb n u)(o:Obj):SN nn nb n (u.alloc o):=
 ⟨by have:=h.top;simp;omega,by have:=h.lt;simp;omega,by rw[N6 u o _ h.lt];exact h.c,by
  have:(u.alloc o).heap[nb]? =u.heap[nb]?:=o0 u o h.lt
  unfold World.frozen?
  simp only[this]
  exact h.z⟩
structure u0o(n:Nat)(w w':World)(tv tb bk br:Nat):Prop where
 size:w.heap.size≤w'.heap.size
 old:∀r,r<w.heap.size→w'.heap[r]? =w.heap[r]?
 htv:w'.heap[tv]? =some (.cells #[vP tb 0] 133)
 htb:w'.heap[tb]? =some (.cells #[.chan (some bk),.slice none 0 0,vL br 0 n n] 137)
 hbk:w'.heap[bk]? =some (.chan 0 #[] false 0 0 false)
 hbr:w'.heap[br]? =some (.cells (madeCells #[.bool false] n) 4)
 low:w.heap.size≤tv∧w.heap.size≤tb∧w.heap.size≤bk∧w.heap.size≤br
theorem Z4(w:World)(a b c e:Obj):w.heap.size≤((((w.alloc a).alloc b).alloc c).alloc e).heap.size:=by simp;omega
theorem g6(w:World)(a b c e:Obj):∀r,r<w.heap.size→((((w.alloc a).alloc b).alloc c).alloc e).heap[r]? =w.heap[r]?:=fun r hr=>by
 rw[o0 _ _ (by simp;omega),o0 _ _ (by simp;omega),o0 _ _ (by simp;omega),o0 _ _ hr]
theorem c0p(w:World)(a b c e:Obj):((((w.alloc a).alloc b).alloc c).alloc e).heap[w.heap.size+1+1+1]? =some e:=by
 have:=heap_alloc_new (((w.alloc a).alloc b).alloc c) e
 simpa using this
theorem c0o(w:World)(a b c e:Obj):((((w.alloc a).alloc b).alloc c).alloc e).heap[w.heap.size+1+1]? =some c:=by
 rw[o0 _ _ (by simp)]
 have:=heap_alloc_new ((w.alloc a).alloc b) c
 simpa using this
theorem c0n(w:World)(a b c e:Obj):((((w.alloc a).alloc b).alloc c).alloc e).heap[w.heap.size+1]? =some b:=by
 rw[o0 _ _ (by simp),o0 _ _ (by simp)]
 have:=heap_alloc_new (w.alloc a) b
 simpa using this
theorem c0m(w:World)(a b c e:Obj):((((w.alloc a).alloc b).alloc c).alloc e).heap[w.heap.size]? =some a:=by
 rw[o0 _ _ (by simp;omega),o0 _ _ (by simp;omega),o0 _ _ (by simp)]
 exact heap_alloc_new w a
theorem y7{w w4:World}{n tv tb bk br:Nat}(hs:w.heap.size≤w4.heap.size)(ho:∀r,r<w.heap.size→w4.heap[r]? =w.heap[r]?)(h1:w4.heap[tv]? =some (.cells #[.pointer none] 133))
 (h2:w4.heap[tb]? =some (.cells #[.chan (some bk),.slice none 0 0,vL br 0 n n] 137)) (h3:w4.heap[bk]? =some (.chan 0 #[] false 0 0 false)) (h4:w4.heap[br]? =some (.cells (madeCells #[.bool false] n) 4))
 (d1:tb≠tv) (d2:bk≠tv) (d3:br≠tv) (l1:w.heap.size≤tv) (l2:w.heap.size≤tb) (l3:w.heap.size≤bk) (l4:w.heap.size≤br):u0o n w (w4.setCell ⟨tv,0,none⟩ (vP tb 0)) tv tb bk br:=
 ⟨by simpa using hs,fun r hr=>(m0 _ _ _ (by simp only;omega)).trans (ho r hr),by simp[World.setCell,Array.getElem?_modify,h1],(m0 _ _ _ d1).trans h2,(m0 _ _ _ d2).trans h3,(m0 _ _ _ d3).trans h4,l1,l2,l3,l4⟩
end
section
variable{F:Fz}{w:World}
theorem w0X{nn n nb mo od:Nat}{thr sch:Value}(hU:Q1 F nn)(hn64:n≤64)(hs:SN nn nb n w){A:Array Value}(hA:D0 129 A [(0,thr),(1,sch),(5,vP mo 0),(6,vP od 0),(7,.bool false),(8,.slice none 0 0),(9,vP nb 0)]){cs:List Frame}{main:Bool}{Stop:Goroutine→World→Prop}{k:List Item}
 (h:∀(w':World) (tv tb bk br:Nat) (A:Array Value),u0o n w w' tv tb bk br→D0 129 A [(0,thr),(1,sch),(5,vP mo 0),(6,vP od 0),(7,.bool false),(8,.slice none 0 0),(9,vP nb 0),(10,vP tv 0)]→
   E0 Tryd.prog main F Stop (G (bA 54 A k) cs) w'):
 E0 Tryd.prog main F Stop (G (bA 54 A (.code g06::k)) cs) w:=by
 obtain⟨s,rfl,h0,h1,h5,h6,h7,h8,h9,_⟩:=D5 i6 hA
 simp only[i6,h0,h1,h5,h6,h7,h8,h9]
 clear h0 h1 h5 h6 h7 h8 h9
 have hS:∀u d,SN nn nb n u→SN nn nb n (World.at u d):=fun u d h=>h.at d
 have htop:=hs.top
 rw[x0q]
 refine U5 (SN nn nb n) (last:=6) K2 (Q6 (by kernel_rfl)) (by decide) ?_
 simp only[g06,J0,Tryd.f54,zz,Nat.reduceAdd]
 have hZ:∀a u d,E0 Tryd.prog main F Stop (G ((Go.Conc.base 54).at a (.inRegion (oC g06) [6]::k)) cs) u→E0 Tryd.prog main F Stop (G ((Go.Conc.base 54).at a (.inRegion (oC g06) [6]::k)) cs) (World.at u d):=fun a u d h=>h.at d
 simp only[g06,J0,Tryd.f54,zz,Nat.reduceAdd]at hZ
 refine M8 1 (vI n) (fun u hu=>(And.intro hu.c hu.z)) hS hs ?_ hZ
 walk_nrm
 refine V1 (r:=[0,2,5]) (by kernel_rfl) (by kernel_rfl) (fun i hi hil=>?_)
 simp only[List.mem_cons,List.not_mem_nil,or_false]at hi
 rcases hi with rfl|rfl|rfl
 ·refine D3 rfl rfl (fun d K' hK'=>?_)
  go_simp
  refine hK' _ _ ⟨⟨⟨0,L0 hU (hs.at d).top _⟩,fun e he=>by(have hm:=mem_listed he;simp[go_sem,hn64]at hm)⟩,(hs.at d).alloc _,?_⟩
  clear hK' K'
  rw[alloc_at']
  refine U1 hS hZ _ _ _ _ ?_ d
  replace hs:=hs.alloc (.chan 0 #[] false 0 0 false)
  refine V1 (r:=[2,5]) (by kernel_rfl) (by kernel_rfl) (fun i hi hil=>?_)
  simp only[List.mem_cons,List.not_mem_nil,or_false]at hi
  rcases hi with rfl|rfl
  ·refine D3 rfl rfl (fun d K' hK'=>?_)
   go_simp
   refine hK' _ _ ⟨⟨⟨0,L0 hU (hs.at d).top _⟩,fun e he=>by(have hm:=mem_listed he;simp[go_sem,hn64]at hm)⟩,(hs.at d).alloc _,?_⟩
   clear hK' K'
   rw[alloc_at']
   refine U1 hS hZ _ _ _ _ ?_ d
   replace hs:=hs.alloc (.cells (madeCells #[.bool false] n) 4)
   refine tkM 3 (.agg #[.chan (some (w.heap.size)),.slice none 0 0,vL (w.heap.size+1) 0 n n]) hS hs ?_ hZ
   walk_nrm
   refine V1 (r:=[4,5]) (by kernel_rfl) (by kernel_rfl) (fun i hi hil=>?_)
   simp only[List.mem_cons,List.not_mem_nil,or_false]at hi
   rcases hi with rfl|rfl
   ·refine D3 rfl rfl (fun d K' hK'=>?_)
    go_simp
    refine hK' _ _ ⟨⟨⟨0,L0 hU (hs.at d).top _⟩,fun e he=>by(have hm:=mem_listed he;simp[go_sem,hn64]at hm)⟩,(hs.at d).alloc _,?_⟩
    clear hK' K'
    rw[alloc_at']
    refine U1 hS hZ _ _ _ _ ?_ d
    replace hs:=hs.alloc (.cells #[.chan (some (w.heap.size)),.slice none 0 0,vL (w.heap.size+1) 0 n n] 137)
    refine V1 (r:=[5]) (by kernel_rfl) (by kernel_rfl) (fun i hi hil=>?_)
    simp only[List.mem_cons,List.not_mem_nil,or_false]at hi
    subst hi
    refine D3 rfl rfl (fun d K' hK'=>?_)
    go_simp
    refine hK' _ _ ⟨⟨⟨0,L0 hU (hs.at d).top _⟩,fun e he=>by(have hm:=mem_listed he;simp[go_sem,hn64]at hm)⟩,(hs.at d).alloc _,?_⟩
    clear hK' K'
    rw[alloc_at']
    refine U1 hS hZ _ _ _ _ ?_ d
    replace hs:=hs.alloc (.cells #[.pointer none] 133)
    refine T3 (by kernel_rfl) ?_ _
    (refine oW fun dd K hK=>?_;go_simp;refine qS hK hU ?_;clear hK K)
    refine I0 ?_
    refine h _ (w.heap.size+1+1+1) (w.heap.size+1+1) (w.heap.size) (w.heap.size+1) _ (y7 (Z4 w _ _ _ _) (g6 w _ _ _ _) (c0p w _ _ _ _) (c0o w _ _ _ _) (c0m w _ _ _ _) (c0n w _ _ _ _) (by omega) (by omega) (by omega) (by omega) (by omega) (by omega) (by omega)) ⟨rfl,rfl,rfl,rfl,rfl,rfl,rfl,rfl,rfl,trivial⟩
   ·refine D3 rfl rfl (fun d K' hK'=>?_)
    go_simp
    refine hK' _ _ ⟨⟨⟨0,L0 hU (hs.at d).top _⟩,fun e he=>by(have hm:=mem_listed he;simp[go_sem,hn64]at hm)⟩,(hs.at d).alloc _,?_⟩
    clear hK' K'
    rw[alloc_at']
    refine U1 hS hZ _ _ _ _ ?_ d
    replace hs:=hs.alloc (.cells #[.pointer none] 133)
    refine V1 (r:=[4]) (by kernel_rfl) (by kernel_rfl) (fun i hi hil=>?_)
    simp only[List.mem_cons,List.not_mem_nil,or_false]at hi
    subst hi
    refine D3 rfl rfl (fun d K' hK'=>?_)
    go_simp
    refine hK' _ _ ⟨⟨⟨0,L0 hU (hs.at d).top _⟩,fun e he=>by(have hm:=mem_listed he;simp[go_sem,hn64]at hm)⟩,(hs.at d).alloc _,?_⟩
    clear hK' K'
    rw[alloc_at']
    refine U1 hS hZ _ _ _ _ ?_ d
    replace hs:=hs.alloc (.cells #[.chan (some (w.heap.size)),.slice none 0 0,vL (w.heap.size+1) 0 n n] 137)
    refine T3 (by kernel_rfl) ?_ _
    (refine oW fun dd K hK=>?_;go_simp;refine qS hK hU ?_;clear hK K)
    refine I0 ?_
    refine h _ (w.heap.size+1+1) (w.heap.size+1+1+1) (w.heap.size) (w.heap.size+1) _ (y7 (Z4 w _ _ _ _) (g6 w _ _ _ _) (c0o w _ _ _ _) (c0p w _ _ _ _) (c0m w _ _ _ _) (c0n w _ _ _ _) (by omega) (by omega) (by omega) (by omega) (by omega) (by omega) (by omega)) ⟨rfl,rfl,rfl,rfl,rfl,rfl,rfl,rfl,rfl,trivial⟩
  ·refine D3 rfl rfl (fun d K' hK'=>?_)
   go_simp
   refine hK' _ _ ⟨⟨⟨0,L0 hU (hs.at d).top _⟩,fun e he=>by(have hm:=mem_listed he;simp[go_sem,hn64]at hm)⟩,(hs.at d).alloc _,?_⟩
   clear hK' K'
   rw[alloc_at']
   refine U1 hS hZ _ _ _ _ ?_ d
   replace hs:=hs.alloc (.cells #[.pointer none] 133)
   refine V1 (r:=[2]) (by kernel_rfl) (by kernel_rfl) (fun i hi hil=>?_)
   simp only[List.mem_cons,List.not_mem_nil,or_false]at hi
   subst hi
   refine D3 rfl rfl (fun d K' hK'=>?_)
   go_simp
   refine hK' _ _ ⟨⟨⟨0,L0 hU (hs.at d).top _⟩,fun e he=>by(have hm:=mem_listed he;simp[go_sem,hn64]at hm)⟩,(hs.at d).alloc _,?_⟩
   clear hK' K'
   rw[alloc_at']
   refine U1 hS hZ _ _ _ _ ?_ d
   replace hs:=hs.alloc (.cells (madeCells #[.bool false] n) 4)
   refine tkM 3 (.agg #[.chan (some (w.heap.size)),.slice none 0 0,vL (w.heap.size+1+1) 0 n n]) hS hs ?_ hZ
   walk_nrm
   refine V1 (r:=[4]) (by kernel_rfl) (by kernel_rfl) (fun i hi hil=>?_)
   simp only[List.mem_cons,List.not_mem_nil,or_false]at hi
   subst hi
   refine D3 rfl rfl (fun d K' hK'=>?_)
   go_simp
   refine hK' _ _ ⟨⟨⟨0,L0 hU (hs.at d).top _⟩,fun e he=>by(have hm:=mem_listed he;simp[go_sem,hn64]at hm)⟩,(hs.at d).alloc _,?_⟩
   clear hK' K'
   rw[alloc_at']
   refine U1 hS hZ _ _ _ _ ?_ d
   replace hs:=hs.alloc (.cells #[.chan (some (w.heap.size)),.slice none 0 0,vL (w.heap.size+1+1) 0 n n] 137)
   refine T3 (by kernel_rfl) ?_ _
   (refine oW fun dd K hK=>?_;go_simp;refine qS hK hU ?_;clear hK K)
   refine I0 ?_
   refine h _ (w.heap.size+1) (w.heap.size+1+1+1) (w.heap.size) (w.heap.size+1+1) _ (y7 (Z4 w _ _ _ _) (g6 w _ _ _ _) (c0n w _ _ _ _) (c0p w _ _ _ _) (c0m w _ _ _ _) (c0o w _ _ _ _) (by omega) (by omega) (by omega) (by omega) (by omega) (by omega) (by omega)) ⟨rfl,rfl,rfl,rfl,rfl,rfl,rfl,rfl,rfl,trivial⟩
 ·refine D3 rfl rfl (fun d K' hK'=>?_)
  go_simp
  refine hK' _ _ ⟨⟨⟨0,L0 hU (hs.at d).top _⟩,fun e he=>by(have hm:=mem_listed he;simp[go_sem,hn64]at hm)⟩,(hs.at d).alloc _,?_⟩
  clear hK' K'
  rw[alloc_at']
  refine U1 hS hZ _ _ _ _ ?_ d
  replace hs:=hs.alloc (.cells (madeCells #[.bool false] n) 4)
  refine V1 (r:=[0,5]) (by kernel_rfl) (by kernel_rfl) (fun i hi hil=>?_)
  simp only[List.mem_cons,List.not_mem_nil,or_false]at hi
  rcases hi with rfl|rfl
  ·refine D3 rfl rfl (fun d K' hK'=>?_)
   go_simp
   refine hK' _ _ ⟨⟨⟨0,L0 hU (hs.at d).top _⟩,fun e he=>by(have hm:=mem_listed he;simp[go_sem,hn64]at hm)⟩,(hs.at d).alloc _,?_⟩
   clear hK' K'
   rw[alloc_at']
   refine U1 hS hZ _ _ _ _ ?_ d
   replace hs:=hs.alloc (.chan 0 #[] false 0 0 false)
   refine tkM 3 (.agg #[.chan (some (w.heap.size+1)),.slice none 0 0,vL w.heap.size 0 n n]) hS hs ?_ hZ
   walk_nrm
   refine V1 (r:=[4,5]) (by kernel_rfl) (by kernel_rfl) (fun i hi hil=>?_)
   simp only[List.mem_cons,List.not_mem_nil,or_false]at hi
   rcases hi with rfl|rfl
   ·refine D3 rfl rfl (fun d K' hK'=>?_)
    go_simp
    refine hK' _ _ ⟨⟨⟨0,L0 hU (hs.at d).top _⟩,fun e he=>by(have hm:=mem_listed he;simp[go_sem,hn64]at hm)⟩,(hs.at d).alloc _,?_⟩
    clear hK' K'
    rw[alloc_at']
    refine U1 hS hZ _ _ _ _ ?_ d
    replace hs:=hs.alloc (.cells #[.chan (some (w.heap.size+1)),.slice none 0 0,vL w.heap.size 0 n n] 137)
    refine V1 (r:=[5]) (by kernel_rfl) (by kernel_rfl) (fun i hi hil=>?_)
    simp only[List.mem_cons,List.not_mem_nil,or_false]at hi
    subst hi
    refine D3 rfl rfl (fun d K' hK'=>?_)
    go_simp
    refine hK' _ _ ⟨⟨⟨0,L0 hU (hs.at d).top _⟩,fun e he=>by(have hm:=mem_listed he;simp[go_sem,hn64]at hm)⟩,(hs.at d).alloc _,?_⟩
    clear hK' K'
    rw[alloc_at']
    refine U1 hS hZ _ _ _ _ ?_ d
    replace hs:=hs.alloc (.cells #[.pointer none] 133)
    refine T3 (by kernel_rfl) ?_ _
    (refine oW fun dd K hK=>?_;go_simp;refine qS hK hU ?_;clear hK K)
    refine I0 ?_
    refine h _ (w.heap.size+1+1+1) (w.heap.size+1+1) (w.heap.size+1) (w.heap.size) _ (y7 (Z4 w _ _ _ _) (g6 w _ _ _ _) (c0p w _ _ _ _) (c0o w _ _ _ _) (c0n w _ _ _ _) (c0m w _ _ _ _) (by omega) (by omega) (by omega) (by omega) (by omega) (by omega) (by omega)) ⟨rfl,rfl,rfl,rfl,rfl,rfl,rfl,rfl,rfl,trivial⟩
   ·refine D3 rfl rfl (fun d K' hK'=>?_)
    go_simp
    refine hK' _ _ ⟨⟨⟨0,L0 hU (hs.at d).top _⟩,fun e he=>by(have hm:=mem_listed he;simp[go_sem,hn64]at hm)⟩,(hs.at d).alloc _,?_⟩
    clear hK' K'
    rw[alloc_at']
    refine U1 hS hZ _ _ _ _ ?_ d
    replace hs:=hs.alloc (.cells #[.pointer none] 133)
    refine V1 (r:=[4]) (by kernel_rfl) (by kernel_rfl) (fun i hi hil=>?_)
    simp only[List.mem_cons,List.not_mem_nil,or_false]at hi
    subst hi
    refine D3 rfl rfl (fun d K' hK'=>?_)
    go_simp
    refine hK' _ _ ⟨⟨⟨0,L0 hU (hs.at d).top _⟩,fun e he=>by(have hm:=mem_listed he;simp[go_sem,hn64]at hm)⟩,(hs.at d).alloc _,?_⟩
    clear hK' K'
    rw[alloc_at']
    refine U1 hS hZ _ _ _ _ ?_ d
    replace hs:=hs.alloc (.cells #[.chan (some (w.heap.size+1)),.slice none 0 0,vL w.heap.size 0 n n] 137)
    refine T3 (by kernel_rfl) ?_ _
    (refine oW fun dd K hK=>?_;go_simp;refine qS hK hU ?_;clear hK K)
    refine I0 ?_
    refine h _ (w.heap.size+1+1) (w.heap.size+1+1+1) (w.heap.size+1) (w.heap.size) _ (y7 (Z4 w _ _ _ _) (g6 w _ _ _ _) (c0o w _ _ _ _) (c0p w _ _ _ _) (c0n w _ _ _ _) (c0m w _ _ _ _) (by omega) (by omega) (by omega) (by omega) (by omega) (by omega) (by omega)) ⟨rfl,rfl,rfl,rfl,rfl,rfl,rfl,rfl,rfl,trivial⟩
  ·refine D3 rfl rfl (fun d K' hK'=>?_)
   go_simp
   refine hK' _ _ ⟨⟨⟨0,L0 hU (hs.at d).top _⟩,fun e he=>by(have hm:=mem_listed he;simp[go_sem,hn64]at hm)⟩,(hs.at d).alloc _,?_⟩
   clear hK' K'
   rw[alloc_at']
   refine U1 hS hZ _ _ _ _ ?_ d
   replace hs:=hs.alloc (.cells #[.pointer none] 133)
   refine V1 (r:=[0]) (by kernel_rfl) (by kernel_rfl) (fun i hi hil=>?_)
   simp only[List.mem_cons,List.not_mem_nil,or_false]at hi
   subst hi
   refine D3 rfl rfl (fun d K' hK'=>?_)
   go_simp
   refine hK' _ _ ⟨⟨⟨0,L0 hU (hs.at d).top _⟩,fun e he=>by(have hm:=mem_listed he;simp[go_sem,hn64]at hm)⟩,(hs.at d).alloc _,?_⟩
   clear hK' K'
   rw[alloc_at']
   refine U1 hS hZ _ _ _ _ ?_ d
   replace hs:=hs.alloc (.chan 0 #[] false 0 0 false)
   refine tkM 3 (.agg #[.chan (some (w.heap.size+1+1)),.slice none 0 0,vL w.heap.size 0 n n]) hS hs ?_ hZ
   walk_nrm
   refine V1 (r:=[4]) (by kernel_rfl) (by kernel_rfl) (fun i hi hil=>?_)
   simp only[List.mem_cons,List.not_mem_nil,or_false]at hi
   subst hi
   refine D3 rfl rfl (fun d K' hK'=>?_)
   go_simp
   refine hK' _ _ ⟨⟨⟨0,L0 hU (hs.at d).top _⟩,fun e he=>by(have hm:=mem_listed he;simp[go_sem,hn64]at hm)⟩,(hs.at d).alloc _,?_⟩
   clear hK' K'
   rw[alloc_at']
   refine U1 hS hZ _ _ _ _ ?_ d
   replace hs:=hs.alloc (.cells #[.chan (some (w.heap.size+1+1)),.slice none 0 0,vL w.heap.size 0 n n] 137)
   refine T3 (by kernel_rfl) ?_ _
   (refine oW fun dd K hK=>?_;go_simp;refine qS hK hU ?_;clear hK K)
   refine I0 ?_
   refine h _ (w.heap.size+1) (w.heap.size+1+1+1) (w.heap.size+1+1) (w.heap.size) _ (y7 (Z4 w _ _ _ _) (g6 w _ _ _ _) (c0n w _ _ _ _) (c0p w _ _ _ _) (c0o w _ _ _ _) (c0m w _ _ _ _) (by omega) (by omega) (by omega) (by omega) (by omega) (by omega) (by omega)) ⟨rfl,rfl,rfl,rfl,rfl,rfl,rfl,rfl,rfl,trivial⟩
 ·refine D3 rfl rfl (fun d K' hK'=>?_)
  go_simp
  refine hK' _ _ ⟨⟨⟨0,L0 hU (hs.at d).top _⟩,fun e he=>by(have hm:=mem_listed he;simp[go_sem,hn64]at hm)⟩,(hs.at d).alloc _,?_⟩
  clear hK' K'
  rw[alloc_at']
  refine U1 hS hZ _ _ _ _ ?_ d
  replace hs:=hs.alloc (.cells #[.pointer none] 133)
  refine V1 (r:=[0,2]) (by kernel_rfl) (by kernel_rfl) (fun i hi hil=>?_)
  simp only[List.mem_cons,List.not_mem_nil,or_false]at hi
  rcases hi with rfl|rfl
  ·refine D3 rfl rfl (fun d K' hK'=>?_)
   go_simp
   refine hK' _ _ ⟨⟨⟨0,L0 hU (hs.at d).top _⟩,fun e he=>by(have hm:=mem_listed he;simp[go_sem,hn64]at hm)⟩,(hs.at d).alloc _,?_⟩
   clear hK' K'
   rw[alloc_at']
   refine U1 hS hZ _ _ _ _ ?_ d
   replace hs:=hs.alloc (.chan 0 #[] false 0 0 false)
   refine V1 (r:=[2]) (by kernel_rfl) (by kernel_rfl) (fun i hi hil=>?_)
   simp only[List.mem_cons,List.not_mem_nil,or_false]at hi
   subst hi
   refine D3 rfl rfl (fun d K' hK'=>?_)
   go_simp
   refine hK' _ _ ⟨⟨⟨0,L0 hU (hs.at d).top _⟩,fun e he=>by(have hm:=mem_listed he;simp[go_sem,hn64]at hm)⟩,(hs.at d).alloc _,?_⟩
   clear hK' K'
   rw[alloc_at']
   refine U1 hS hZ _ _ _ _ ?_ d
   replace hs:=hs.alloc (.cells (madeCells #[.bool false] n) 4)
   refine tkM 3 (.agg #[.chan (some (w.heap.size+1)),.slice none 0 0,vL (w.heap.size+1+1) 0 n n]) hS hs ?_ hZ
   walk_nrm
   refine V1 (r:=[4]) (by kernel_rfl) (by kernel_rfl) (fun i hi hil=>?_)
   simp only[List.mem_cons,List.not_mem_nil,or_false]at hi
   subst hi
   refine D3 rfl rfl (fun d K' hK'=>?_)
   go_simp
   refine hK' _ _ ⟨⟨⟨0,L0 hU (hs.at d).top _⟩,fun e he=>by(have hm:=mem_listed he;simp[go_sem,hn64]at hm)⟩,(hs.at d).alloc _,?_⟩
   clear hK' K'
   rw[alloc_at']
   refine U1 hS hZ _ _ _ _ ?_ d
   replace hs:=hs.alloc (.cells #[.chan (some (w.heap.size+1)),.slice none 0 0,vL (w.heap.size+1+1) 0 n n] 137)
   refine T3 (by kernel_rfl) ?_ _
   (refine oW fun dd K hK=>?_;go_simp;refine qS hK hU ?_;clear hK K)
   refine I0 ?_
   refine h _ (w.heap.size) (w.heap.size+1+1+1) (w.heap.size+1) (w.heap.size+1+1) _ (y7 (Z4 w _ _ _ _) (g6 w _ _ _ _) (c0m w _ _ _ _) (c0p w _ _ _ _) (c0n w _ _ _ _) (c0o w _ _ _ _) (by omega) (by omega) (by omega) (by omega) (by omega) (by omega) (by omega)) ⟨rfl,rfl,rfl,rfl,rfl,rfl,rfl,rfl,rfl,trivial⟩
  ·refine D3 rfl rfl (fun d K' hK'=>?_)
   go_simp
   refine hK' _ _ ⟨⟨⟨0,L0 hU (hs.at d).top _⟩,fun e he=>by(have hm:=mem_listed he;simp[go_sem,hn64]at hm)⟩,(hs.at d).alloc _,?_⟩
   clear hK' K'
   rw[alloc_at']
   refine U1 hS hZ _ _ _ _ ?_ d
   replace hs:=hs.alloc (.cells (madeCells #[.bool false] n) 4)
   refine V1 (r:=[0]) (by kernel_rfl) (by kernel_rfl) (fun i hi hil=>?_)
   simp only[List.mem_cons,List.not_mem_nil,or_false]at hi
   subst hi
   refine D3 rfl rfl (fun d K' hK'=>?_)
   go_simp
   refine hK' _ _ ⟨⟨⟨0,L0 hU (hs.at d).top _⟩,fun e he=>by(have hm:=mem_listed he;simp[go_sem,hn64]at hm)⟩,(hs.at d).alloc _,?_⟩
   clear hK' K'
   rw[alloc_at']
   refine U1 hS hZ _ _ _ _ ?_ d
   replace hs:=hs.alloc (.chan 0 #[] false 0 0 false)
   refine tkM 3 (.agg #[.chan (some (w.heap.size+1+1)),.slice none 0 0,vL (w.heap.size+1) 0 n n]) hS hs ?_ hZ
   walk_nrm
   refine V1 (r:=[4]) (by kernel_rfl) (by kernel_rfl) (fun i hi hil=>?_)
   simp only[List.mem_cons,List.not_mem_nil,or_false]at hi
   subst hi
   refine D3 rfl rfl (fun d K' hK'=>?_)
   go_simp
   refine hK' _ _ ⟨⟨⟨0,L0 hU (hs.at d).top _⟩,fun e he=>by(have hm:=mem_listed he;simp[go_sem,hn64]at hm)⟩,(hs.at d).alloc _,?_⟩
   clear hK' K'
   rw[alloc_at']
   refine U1 hS hZ _ _ _ _ ?_ d
   replace hs:=hs.alloc (.cells #[.chan (some (w.heap.size+1+1)),.slice none 0 0,vL (w.heap.size+1) 0 n n] 137)
   refine T3 (by kernel_rfl) ?_ _
   (refine oW fun dd K hK=>?_;go_simp;refine qS hK hU ?_;clear hK K)
   refine I0 ?_
   refine h _ (w.heap.size) (w.heap.size+1+1+1) (w.heap.size+1+1) (w.heap.size+1) _ (y7 (Z4 w _ _ _ _) (g6 w _ _ _ _) (c0m w _ _ _ _) (c0p w _ _ _ _) (c0o w _ _ _ _) (c0n w _ _ _ _) (by omega) (by omega) (by omega) (by omega) (by omega) (by omega) (by omega)) ⟨rfl,rfl,rfl,rfl,rfl,rfl,rfl,rfl,rfl,trivial⟩
end
section
variable{P:Program}{F:Fz}{w w':World}
theorem Wf.of_grew{j:Nat}(h:Wf F w)(hg:i3 F w w' j):Wf F w':=by
 constructor
 intro r z hz
 obtain⟨c,e,z0,h1,h2⟩:=h.own r z hz
 rcases hg.objs r _ h1 with⟨c1,e1,z1,c',h3,h4,_⟩|h3
 ·cases h3;exact⟨c',e,z0,h4,h2⟩
 ·exact⟨c,e,z0,h3,h2⟩
theorem d0N{S':FuncId→Bool}{px:Bool}(hC:v4 P S' px)(hF:px=true→∀r,F r=none){fn:FuncId}{ops:Array Oper}{i:Nat}{o:Oper}{K:Act→World→Prop}{a:Act}(ho:ops[i]? =some o)(hok:f00 P S' px o.op=true)
 (hw:Region.wanted o (yielded ops a.tmps)=true) (hwf:Wf F w)
 (h:∀d,∃v u,(execOp a.eval o).run P (T0 F (w.at d))= .ok (.value v) u∧∀w',u=T0 F w'→(∃j,i3 F (w.at d) w' j)→Wf F w'→K (a.put o.dst v) w'):OpM P F fn ops i K a w:=by
 refine⟨o,ho,.inl ⟨hw,fun d=>?_⟩⟩
 obtain⟨v,u,hr,hk⟩:=h d
 have hs:=u9 hC hF a.eval (fun v=>rfl) (fun f=>rfl) o hok (w.at d) ⟨hwf.own⟩
 unfold p5 at hs
 rw[hr]at hs
 obtain⟨w',es,j,hu,hrun,hev,het,hg,hwf',_⟩:=hs
 rw[hrun]
 refine⟨⟨⟨j,hg⟩,fun e he=>?_⟩,hk w' hu ⟨j,hg⟩ hwf'⟩
 have hm:=mem_listed he
 rw[hev]at hm
 exact het e (by simpa using hm)
theorem Y5{o:Oper}{a:Act}{v xv v':Value}{u:World}(s x:Operand)(t:TypeId)
 (ho:o.op= .call {callee:=.builtin .append,args:= #[s,x],argTypes:= #[t,t]}) (hs:a.eval s=v) (hx:a.eval x=xv)
 (hr:(Builtin.append_ #[t,t] o.type #[v,xv]).run P w= .ok v' u):(execOp a.eval o).run P w= .ok (.value v') u:=by
 unfold execOp
 simp only[ho,resolve,invoke,builtin,Sem.run_bind,Sem.run_pure,Result.andThen_ok,List.map_toArray,List.map_cons,List.map_nil,hs,hx,hr]
theorem p0r:∃i,Tryd.prog.info? 138=some i∧i.zero=some (.pointer none)∧i.size=1∧i.bytes=8:=by
 have h:(Tryd.prog.info? 138).map (fun i=>(i.size,i.bytes))=some (1,8):=by kernel_rfl
 have h0:(Tryd.prog.info? 138).bind (·.zero)=some (.pointer none):=by kernel_rfl
 obtain⟨i,hi,h1⟩:=Option.map_eq_some_iff.1 h
 rw[hi]at h0
 simp only[Prod.mk.injEq]at h1
 exact⟨i,hi,h0,h1.1,h1.2⟩
theorem c0A{base n size:Nat}{e:TypeId}{v:Value}{xs:List Value}(h:w.ownsRow base e size v (n+1) xs):∃b cap cur,v=vL b 0 (n+1) cap∧base≤b∧w.heap[b]? =some (.cells cur e (0,0)):=by
 rcases h.2 with⟨_,h⟩|⟨b,cap,cur,h1,h2,h3,_⟩
 ·omega
 ·exact⟨b,cap,cur,h1,h2,h3⟩
theorem g09{base n size b cap k l:Nat}{e:TypeId}{v:Value}{xs:List Value}{buf:Array Value}{cl tm:Bool}(h:w.ownsRow base e size v n xs)(hc:w.heap[b]? =some (.chan cap buf cl k l tm)):some b≠Value.ownBlock v:=by
 rcases h.2 with⟨rfl,_⟩|⟨g,cap,cur,rfl,_,h3,_⟩
 ·simp[Value.ownBlock]
 ·intro h4
  simp only[Value.ownBlock,Option.some.injEq]at h4
  subst h4
  rw[hc]at h3
  cases h3
structure ST(F:Fz)(nn n tv tb bk br:Nat)(slv:Value)(u:World):Prop where
 top:nn≤u.heap.size
 wf:Wf F u
 tvc:u.heap[tv]? =some (.cells #[vP tb 0] 133)
 tbc:u.heap[tb]? =some (.cells #[.chan (some bk),slv,vL br 0 n n] 137)
section
variable{nn n tv tb bk br:Nat}{slv:Value}{u:World}
theorem ST.at(h:ST F nn n tv tb bk br slv u)(d:Nat):ST F nn n tv tb bk br slv (u.at d):=⟨h.top,⟨h.wf.own⟩,h.tvc,h.tbc⟩
theorem ST.alloc(hU:Q1 F nn)(h:ST F nn n tv tb bk br slv u)(o:Obj):ST F nn n tv tb bk br slv (u.alloc o):=
 ⟨by have:=h.top;simp;omega,h.wf.of_grew (L0 hU h.top o),(o0 _ _ (Array.getElem?_eq_some_iff.1 h.tvc).1).trans h.tvc,(o0 _ _ (Array.getElem?_eq_some_iff.1 h.tbc).1).trans h.tbc⟩
theorem ST.c1(h:ST F nn n tv tb bk br slv u):u.cell? ⟨tv,0,none⟩=some (vP tb 0):=by simp[World.cell?,h.tvc]
theorem ST.z1(h:ST F nn n tv tb bk br slv u):u.frozen? ⟨tv,0,none⟩=false:=by simp[World.frozen?,h.tvc]
theorem ST.c2(h:ST F nn n tv tb bk br slv u):u.cell? ⟨tb,1,none⟩=some slv:=by simp[World.cell?,h.tbc]
theorem ST.z2(h:ST F nn n tv tb bk br slv u):u.frozen? ⟨tb,1,none⟩=false:=by simp[World.frozen?,h.tbc]
end
structure p05(F:Fz)(nn n tv tb bk br i:Nat)(slv:Value)(xs:List Value)(w w':World)(v':Value)(p q:Nat):Prop where
 st:ST F nn n tv tb bk br v' w'
 row:w'.ownsRow nn 138 1 v' (i+1) (xs++[vP q 0])
 pc:w'.heap[p]? =some (.chan 0 #[] false 0 0 false)
 qc:w'.heap[q]? =some (.cells #[vP tb 0,.chan (some p),.bool false] 141)
 pl:p=w.heap.size
 ql:q=w.heap.size+1
 size:w.heap.size+2≤w'.heap.size
 old:∀r,nn≤r→r<w.heap.size→r≠tb→some r≠Value.ownBlock slv→w'.heap[r]? =w.heap[r]?
theorem w0Y{nn n tv tb bk br i mo od nb:Nat}{slv thr sch:Value}{xs:List Value}(hU:Q1 F nn)(hs:ST F nn n tv tb bk br slv w)(hrow:w.ownsRow nn 138 1 slv i xs)(hi64:i<64)(hlow:nn≤tv∧nn≤tb){A:Array Value}(hA:D0 129 A [(0,thr),(1,sch),(5,vP mo 0),(6,vP od 0),(7,.bool false),(8,.slice none 0 0),(9,vP nb 0),(10,vP tv 0),(29,vI n),(30,vI i)]){cs:List Frame}{main:Bool}{Stop:Goroutine→World→Prop}{k:List Item}
 (h:∀(w':World) (v':Value) (p q:Nat) (A:Array Value),p05 F nn n tv tb bk br i slv xs w w' v' p q→D0 129 A [(0,thr),(1,sch),(5,vP mo 0),(6,vP od 0),(7,.bool false),(8,.slice none 0 0),(9,vP nb 0),(10,vP tv 0),(29,vI n),(30,vI i)]→E0 Tryd.prog main F Stop (G (bA 54 A k) cs) w'):
 E0 Tryd.prog main F Stop (G (bA 54 A (.code f02::k)) cs) w:=by
 obtain⟨s,rfl,h0,h1,h5,h6,h7,h8,h9,h10,h29,h30,_⟩:=D5 i6 hA
 simp only[i6,h0,h1,h5,h6,h7,h8,h9,h10,h29,h30]
 clear h0 h1 h5 h6 h7 h8 h9 h10 h29 h30
 have hS:∀u d,ST F nn n tv tb bk br slv u→ST F nn n tv tb bk br slv (World.at u d):=fun u d h=>h.at d
 have htop:=hs.top
 rw[x0s]
 refine U5 (ST F nn n tv tb bk br slv) (last:=13) K2 (Q6 (by kernel_rfl)) (by decide) ?_
 simp only[f02,J0,Tryd.f54,zz,Nat.reduceAdd]
 have hZ:∀a u d,E0 Tryd.prog main F Stop (G ((Go.Conc.base 54).at a (.inRegion (oC f02) [13]::k)) cs) u→E0 Tryd.prog main F Stop (G ((Go.Conc.base 54).at a (.inRegion (oC f02) [13]::k)) cs) (World.at u d):=fun a u d h=>h.at d
 simp only[f02,J0,Tryd.f54,zz,Nat.reduceAdd]at hZ
 refine M8 0 (vP tb 0) (fun u hu=>(And.intro hu.c1 hu.z1)) hS hs ?_ hZ
 walk_nrm
 refine M8 1 (vP tb 0) (fun u hu=>(And.intro hu.c1 hu.z1)) hS hs ?_ hZ
 walk_nrm
 refine tkM 2 (vP tb 0) hS hs ?_ hZ
 walk_nrm
 refine tkM 3 (vP tb 1) hS hs ?_ hZ
 walk_nrm
 refine M8 4 slv (fun u hu=>(And.intro hu.c2 hu.z2)) hS hs ?_ hZ
 walk_nrm
 refine M8 5 (vP tb 0) (fun u hu=>(And.intro hu.c1 hu.z1)) hS hs ?_ hZ
 walk_nrm
 refine V1 (r:=[6]) (by kernel_rfl) (by kernel_rfl) (fun i hi hil=>?_)
 simp only[List.mem_cons,List.not_mem_nil,or_false]at hi
 subst hi
 refine D3 rfl rfl (fun d K' hK'=>?_)
 go_simp
 refine hK' _ _ ⟨⟨⟨0,L0 hU (hs.at d).top _⟩,fun e he=>by(have hm:=mem_listed he;simp[go_sem]at hm)⟩,(hs.at d).alloc hU _,?_⟩
 clear hK' K'
 rw[alloc_at']
 refine U1 hS hZ _ _ _ _ ?_ d
 replace hs:=hs.alloc hU (.chan 0 #[] false 0 0 false)
 refine tkM 7 (.agg #[vP tb 0,.chan (some w.heap.size),.bool false]) hS hs ?_ hZ
 walk_nrm
 refine V1 (r:=[8]) (by kernel_rfl) (by kernel_rfl) (fun i hi hil=>?_)
 simp only[List.mem_cons,List.not_mem_nil,or_false]at hi
 subst hi
 refine D3 rfl rfl (fun d K' hK'=>?_)
 go_simp
 refine hK' _ _ ⟨⟨⟨0,L0 hU (hs.at d).top _⟩,fun e he=>by(have hm:=mem_listed he;simp[go_sem]at hm)⟩,(hs.at d).alloc hU _,?_⟩
 clear hK' K'
 rw[alloc_at']
 refine U1 hS hZ _ _ _ _ ?_ d
 replace hs:=hs.alloc hU (.cells #[vP tb 0,.chan (some w.heap.size),.bool false] 141)
 refine V1 (r:=[9]) (by kernel_rfl) (by kernel_rfl) (fun i hi hil=>?_)
 simp only[List.mem_cons,List.not_mem_nil,or_false]at hi
 subst hi
 refine D3 rfl rfl (fun d K' hK'=>?_)
 go_simp
 refine hK' _ _ ⟨⟨⟨0,L0 hU (hs.at d).top _⟩,fun e he=>by(have hm:=mem_listed he;simp[go_sem]at hm)⟩,(hs.at d).alloc hU _,?_⟩
 clear hK' K'
 rw[alloc_at']
 refine U1 hS hZ _ _ _ _ ?_ d
 replace hs:=hs.alloc hU (.cells #[vP (w.heap.size+1) 0] 138)
 refine V1 (r:=[10]) (by kernel_rfl) (by kernel_rfl) (fun i hi hil=>?_)
 simp only[List.mem_cons,List.not_mem_nil,or_false]at hi
 subst hi
 obtain⟨i0,hi0,hz0,hz1,hz2⟩:=p0r
 have hFn:∀b,nn≤b→F b=none:=fun b hb=>by
  cases e:F b with
  | none=>rfl
  | some z=>exact absurd (hU b z e) (by omega)
 have hown4:∀b,Value.ownBlock slv=some b→nn≤b→b<w.heap.size:=fun b hb _=>(hrow.lt b hb).2
 have hW4:∀r,r<w.heap.size→(((w.alloc (.chan 0 #[] false 0 0 false)).alloc (.cells #[vP tb 0,.chan (some w.heap.size),.bool false] 141)).alloc (.cells #[vP (w.heap.size+1) 0] 138)).heap[r]? =w.heap[r]?:=fun r hr=>by
  rw[o0 _ _ (by simp;omega),o0 _ _ (by simp;omega),o0 _ _ hr]
 have hp4:(((w.alloc (.chan 0 #[] false 0 0 false)).alloc (.cells #[vP tb 0,.chan (some w.heap.size),.bool false] 141)).alloc (.cells #[vP (w.heap.size+1) 0] 138)).heap[w.heap.size]? =some (.chan 0 #[] false 0 0 false):=by
  rw[o0 _ _ (by simp;omega),o0 _ _ (by simp)]
  exact heap_alloc_new _ _
 have hq4:(((w.alloc (.chan 0 #[] false 0 0 false)).alloc (.cells #[vP tb 0,.chan (some w.heap.size),.bool false] 141)).alloc (.cells #[vP (w.heap.size+1) 0] 138)).heap[w.heap.size+1]? =some (.cells #[vP tb 0,.chan (some w.heap.size),.bool false] 141):=by
  rw[o0 _ _ (by simp)]
  have:=heap_alloc_new (w.alloc (.chan 0 #[] false 0 0 false)) (.cells #[vP tb 0,.chan (some w.heap.size),.bool false] 141)
  simpa using this
 have hn4:=cell_one_new ((w.alloc (.chan 0 #[] false 0 0 false)).alloc (.cells #[vP tb 0,.chan (some w.heap.size),.bool false] 141)) (vP (w.heap.size+1) 0) 138
 have hsz4:(((w.alloc (.chan 0 #[] false 0 0 false)).alloc (.cells #[vP tb 0,.chan (some w.heap.size),.bool false] 141)).alloc (.cells #[vP (w.heap.size+1) 0] 138)).heap.size=w.heap.size+3:=by simp
 have hz4:((w.alloc (.chan 0 #[] false 0 0 false)).alloc (.cells #[vP tb 0,.chan (some w.heap.size),.bool false] 141)).heap.size=w.heap.size+1+1:=by simp
 rw[hz4]at hn4
 clear hz4
 generalize ((w.alloc (.chan 0 #[] false 0 0 false)).alloc (.cells #[vP tb 0,.chan (some w.heap.size),.bool false] 141)).alloc (.cells #[vP (w.heap.size+1) 0] 138)=W4 at*
 refine d0N (S':=fun _=>false) (px:=false) (ready0.shut false) (by simp) rfl rfl rfl hs.wf (fun d=>?_)
 have hrowm:(T0 F (W4.at d)).ownsRow nn 138 1 slv i xs:=E1 hrow fun b hb hbn=>by
  rw[D1 (hFn b hbn)]
  exact hW4 b (hown4 b hb hbn)
 obtain⟨v',u,hr,hown,hgrow,_⟩:=run_append_own (P:=Tryd.prog) (T0 F (W4.at d)) nn 135 135 138 i0 (.pointer none) 1 8 Tryd.underlying135 hi0 hz0 hz1 hz2 rfl (by decide) slv i xs hrowm ⟨w.heap.size+1+1,0,none⟩ 1 1 [vP (w.heap.size+1) 0] rfl
  (fun j u hu=>(C6 _).trans (hn4 j u hu)) (fun x hx=>by simp at hx;subst hx;rfl) (by unfold maxLen;omega) (by omega) (by rw[J3];show nn≤W4.heap.size;omega)
 refine⟨v',u,Y5 (.tmp 36) (.tmp 41) 135 rfl rfl rfl hr,fun w' hu hg hwf'=>?_⟩
 subst hu
 have hkeep:∀r,nn≤r→r<w.heap.size+3→some r≠Value.ownBlock slv→w'.heap[r]? =W4.heap[r]?:=fun r h1 h2 h3=>by
  have:=hgrow.block r (by rw[J3];show r<W4.heap.size;omega) h3
  rw[D1 (hFn r h1),D1 (hFn r h1)]at this
  exact this
 have htvl:=(Array.getElem?_eq_some_iff.1 hs.tvc).1
 have ntv:=x9 hrowm ((D1 (hFn tv hlow.1)).trans (show(W4.at d).heap[tv]? =_ from hs.tvc)) (by decide)
 have ntb:=x9 hrowm ((D1 (hFn tb hlow.2)).trans (show(W4.at d).heap[tb]? =_ from hs.tbc)) (by decide)
 have np:=g09 hrowm ((D1 (hFn w.heap.size htop)).trans (show(W4.at d).heap[w.heap.size]? =_ from hp4))
 have nq:=x9 hrowm ((D1 (hFn (w.heap.size+1) (by omega))).trans (show(W4.at d).heap[w.heap.size+1]? =_ from hq4)) (by decide)
 have P5:w.heap.size+3≤w'.heap.size:=by
  have:=hgrow.size
  rw[J3,J3]at this
  have h2:(W4.at d).heap.size=w.heap.size+3:=hsz4
  omega
 have htv4:=(Array.getElem?_eq_some_iff.1 hs.tvc).1
 have htb4:=(Array.getElem?_eq_some_iff.1 hs.tbc).1
 have hst':ST F nn n tv tb bk br slv w':=⟨by omega,hwf',(hkeep tv hlow.1 (by omega) ntv).trans hs.tvc,(hkeep tb hlow.2 (by omega) ntb).trans hs.tbc⟩
 obtain⟨b1,cap1,cur1,rfl,hb1,hb2⟩:=c0A hown
 have hb3:w'.heap[b1]? =some (.cells cur1 138 (0,0)):=by rw[D1 (hFn b1 hb1)]at hb2;exact hb2
 have hrow':w'.ownsRow nn 138 1 (vL b1 0 (i+1) cap1) (i+1) (xs++[vP (w.heap.size+1) 0]):=E1 hown fun b hb hbn=>(D1 (hFn b hbn)).symm
 have nb1:b1≠tb:=by
  rintro rfl
  rw[hst'.tbc]at hb3
  cases hb3
 have htt:tv≠tb:=by
  rintro rfl
  have:=hst'.tbc
  rw[hst'.tvc]at this
  cases this
 refine⟨hst',?_⟩
 clear hs
 have hs:=hst'
 walk_nrm
 refine tkM 11 (vP tb 0) hS hs ?_ hZ
 walk_nrm
 refine tkM 12 (vP tb 1) hS hs ?_ hZ
 walk_nrm
 refine T3 (by kernel_rfl) ?_ _
 have ctb:=hst'.c2
 have ztb:=hst'.z2
 have htb1:=hlow.2
 have hnh:¬held F ⟨tb,1,none⟩:=P2 hU htb1
 clear hZ hS hn4 hr hown hgrow hrowm
 (refine oW fun dd K hK=>?_;go_simp;refine hK _ _ ⟨⟨⟨0,M1 rfl hnh _⟩,fun e he=>by(have hm:=mem_listed he;clear he hK;simp[go_sem,storedEv,ctb,ztb]at hm;subst hm;exact V0 _ _ hnh)⟩,?_⟩;clear hK K;rw[setCell_at'];refine E0.at ?_ dd)
 refine I0 ?_
 refine h _ (vL b1 0 (i+1) cap1) (w.heap.size) (w.heap.size+1) _ ?_ ⟨rfl,rfl,rfl,rfl,rfl,rfl,rfl,rfl,rfl,rfl,rfl,trivial⟩
 refine⟨⟨by simp;omega,hwf'.of_grew (M1 rfl (P2 hU hlow.2) _),(m0 _ _ _ htt).trans hst'.tvc,by simp[World.setCell,Array.getElem?_modify,hst'.tbc]⟩,E1 hrow' fun b hb _=>m0 _ _ _ (by simp only[Value.ownBlock,Option.some.injEq]at hb;subst hb;exact nb1),?_,?_,rfl,rfl,by simp;omega,fun r h1 h2 h3 h4=>?_⟩
 ·refine(m0 _ _ _ ?_).trans ((hkeep _ htop (by omega) np).trans hp4)
  rintro rfl
  have:=hst'.tbc
  rw[hkeep _ htop (by omega) np,hp4]at this
  cases this
 ·refine(m0 _ _ _ ?_).trans ((hkeep _ (by omega) (by omega) nq).trans hq4)
  intro e
  simp only at e
  have:=hst'.tbc
  rw[← e,hkeep _ (by omega) (by omega) nq,hq4]at this
  cases this
 ·rw[m0 _ _ _ h3,hkeep r h1 (by omega) h4,hW4 r h2]
end
section
variable {cs:List Frame}{main:Bool}{Stop:Goroutine→World→Prop}
variable{F:Fz}{w w':World}
theorem w07{n mo od nb tv:Nat}{thr sch:Value}(hc:w.cell? ⟨nb,0,none⟩=some (vI n))(hz:w.frozen? ⟨nb,0,none⟩=false){A:Array Value}(hA:D0 129 A [(0,thr),(1,sch),(5,vP mo 0),(6,vP od 0),(7,.bool false),(8,.slice none 0 0),(9,vP nb 0),(10,vP tv 0)])
 (h:∀A,D0 129 A [(0,thr),(1,sch),(5,vP mo 0),(6,vP od 0),(7,.bool false),(8,.slice none 0 0),(9,vP nb 0),(10,vP tv 0),(29,vI n),(30,vI (0:Nat))]→E0 Tryd.prog main F Stop (G (bA 54 A [.code V9,.inLoop V9,.inBlock 0,.code a0k]) cs) w):E0 Tryd.prog main F Stop (G (bA 54 A [.code n05]) cs) w:=by
 obtain⟨s,rfl,h0,h1,h5,h6,h7,h8,h9,h10,_⟩:=D5 i6 hA
 simp only[i6,h0,h1,h5,h6,h7,h8,h9,h10]
 clear h0 h1 h5 h6 h7 h8 h9 h10
 refine ogV x0B a0k<|ogW x0r t0C ?_
 simp only[x0r,J0,Tryd.f54,zz,Nat.reduceAdd]
 refine oL ?_
 refine oT ?_
 refine I0 ?_
 rw[x0b]
 refine K5 ?_
 rw[x0m]
 refine ogP ?_
 refine h _ ?_
 exact⟨rfl,rfl,rfl,rfl,rfl,rfl,rfl,rfl,rfl,rfl,rfl,trivial⟩
theorem w08{n mo od nb tv:Nat}{thr sch:Value}{i:Nat}(hi:i<n){A:Array Value}(hA:D0 129 A [(0,thr),(1,sch),(5,vP mo 0),(6,vP od 0),(7,.bool false),(8,.slice none 0 0),(9,vP nb 0),(10,vP tv 0),(29,vI n),(30,vI i)])
 (h:∀A,D0 129 A [(0,thr),(1,sch),(5,vP mo 0),(6,vP od 0),(7,.bool false),(8,.slice none 0 0),(9,vP nb 0),(10,vP tv 0),(29,vI n),(30,vI i)]→E0 Tryd.prog main F Stop (G (bA 54 A [.code f02,.inBlock 1,.code k09,.inLoop V9,.inBlock 0,.code a0k]) cs) w):E0 Tryd.prog main F Stop (G (bA 54 A [.code V9,.inLoop V9,.inBlock 0,.code a0k]) cs) w:=by
 obtain⟨s,rfl,h0,h1,h5,h6,h7,h8,h9,h10,h29,h30,_⟩:=D5 i6 hA
 simp only[i6,h0,h1,h5,h6,h7,h8,h9,h10,h29,h30]
 clear h0 h1 h5 h6 h7 h8 h9 h10 h29 h30
 have hlt:decide ((i:Int)<(n:Int))=true:=by simp;omega
 have hlt2:decide (i<n)=true:=by simp;omega
 refine ogW p0F p0H ?_
 simp only[p0F,J0,Tryd.f54,zz,Nat.reduceAdd]
 refine oT ?_
 refine I0<|ogV r0y t01<|ogYn .skip<|ogK<|ogV x0c k09 ?_
 rw[x0d]
 refine K5 ?_
 refine h _ ?_
 exact⟨rfl,rfl,rfl,rfl,rfl,rfl,rfl,rfl,rfl,rfl,rfl,trivial⟩
theorem w09{n mo od nb tv:Nat}{thr sch:Value}{i:Nat}(hi:i<100){A:Array Value}(hA:D0 129 A [(0,thr),(1,sch),(5,vP mo 0),(6,vP od 0),(7,.bool false),(8,.slice none 0 0),(9,vP nb 0),(10,vP tv 0),(29,vI n),(30,vI i)])
 (h:∀A,D0 129 A [(0,thr),(1,sch),(5,vP mo 0),(6,vP od 0),(7,.bool false),(8,.slice none 0 0),(9,vP nb 0),(10,vP tv 0),(29,vI n),(30,vI (i+1:Nat))]→E0 Tryd.prog main F Stop (G (bA 54 A [.code V9,.inLoop V9,.inBlock 0,.code a0k]) cs) w):E0 Tryd.prog main F Stop (G (bA 54 A [.inBlock 1,.code k09,.inLoop V9,.inBlock 0,.code a0k]) cs) w:=by
 obtain⟨s,rfl,h0,h1,h5,h6,h7,h8,h9,h10,h29,h30,_⟩:=D5 i6 hA
 simp only[i6,h0,h1,h5,h6,h7,h8,h9,h10,h29,h30]
 clear h0 h1 h5 h6 h7 h8 h9 h10 h29 h30
 have hk64:IntKind.i64.wrap ((i:Int)+1)=(i:Int)+1:=IntWalk.i64_in _ (by omega)
 refine ogI ?_
 rw[x0t]
 refine ogR ?_
 simp only[k09,J0,Tryd.f54,zz,Nat.reduceAdd]
 iterate 2 refine oT ?_
 refine I0<|ogL ?_
 refine h _ ?_
 exact⟨rfl,rfl,rfl,rfl,rfl,rfl,rfl,rfl,rfl,rfl,rfl,trivial⟩
theorem x0a{nn:Nat}(hU:Q1 F nn)(hn:nn≤w.heap.size){n mo od nb tv:Nat}{thr sch:Value}(hb:nb<w.heap.size)(hc:w.cell? ⟨nb,0,none⟩=some (vI n))(hz:w.frozen? ⟨nb,0,none⟩=false){A:Array Value}(hA:D0 129 A [(0,thr),(1,sch),(5,vP mo 0),(6,vP od 0),(7,.bool false),(8,.slice none 0 0),(9,vP nb 0),(10,vP tv 0),(29,vI n),(30,vI n)])
 (h:∀A,D0 129 A [(0,thr),(1,sch),(7,.bool false),(46,vI n),(47,vI (0:Nat)),(5,vP mo 0),(6,vP od 0),(8,.slice none 0 0),(9,vP nb 0),(10,vP tv 0),(11,vP w.heap.size 0)]→E0 Tryd.prog main F Stop (G (bA 54 A [.code I3,.inLoop I3,.inBlock 2,.code L5]) cs) (w.alloc (.cells #[vI 0] 3))):E0 Tryd.prog main F Stop (G (bA 54 A [.code V9,.inLoop V9,.inBlock 0,.code a0k]) cs) w:=by
 obtain⟨s,rfl,h0,h1,h5,h6,h7,h8,h9,h10,h29,h30,_⟩:=D5 i6 hA
 simp only[i6,h0,h1,h5,h6,h7,h8,h9,h10,h29,h30]
 clear h0 h1 h5 h6 h7 h8 h9 h10 h29 h30
 have hlt:decide ((n:Int)<(n:Int))=false:=by simp
 have hc':=(N6 w (.cells #[vI 0] 3) ⟨nb,0,none⟩ hb).trans hc
 have hz':(w.alloc (.cells #[vI 0] 3)).frozen? ⟨nb,0,none⟩=false:=by
  have:(w.alloc (.cells #[vI 0] 3)).heap[nb]? =w.heap[nb]?:=o0 w _ hb
  unfold World.frozen?
  simp only[this]
  exact hz
 refine ogW p0F p0H ?_
 simp only[p0F,J0,Tryd.f54,zz,Nat.reduceAdd]
 refine oT ?_
 refine I0<|ogV r0y t01<|ogGn (.exit 0) ?_
 refine G0 rfl (fun d=>stepG_exit rfl) ?_
 refine ogW x0u n0Z ?_
 simp only[x0u,J0,Tryd.f54,zz,Nat.reduceAdd]
 refine oA hU ?_
 (refine oW fun dd K hK=>?_;go_simp;refine qS hK hU ?_;clear hK K)
 have e1:=c0K w (vI 0) (vI 0) 3
 rw[e1]
 clear e1
 refine I0<|ogV r0L L5<|ogW x0v t0E ?_
 simp only[x0v,J0,Tryd.f54,zz,Nat.reduceAdd]
 refine oL ?_
 refine oT ?_
 refine I0 ?_
 rw[x0e]
 refine K5 ?_
 rw[t0L]
 refine ogP ?_
 refine h _ ?_
 exact⟨rfl,rfl,rfl,rfl,rfl,rfl,rfl,rfl,rfl,rfl,rfl,rfl,trivial⟩
end
section
variable{F:Fz}{w w':World}{nn n tv tb bk br mo od nb M:Nat}{slv:Value}{sts:List (Nat×Nat)}
structure C7(F:Fz)(nn n tv tb bk br mo od nb M:Nat)(slv:Value)(sts:List (Nat×Nat))(w:World):Prop where
 st:ST F nn n tv tb bk br slv w
 row:w.ownsRow nn 138 1 slv sts.length (sts.map fun s=>vP s.1 0)
 mem:∀s∈sts,w.heap[s.1]? =some (.cells #[vP tb 0,.chan (some s.2),.bool false] 141)∧w.heap[s.2]? =some (.chan 0 #[] false 0 0 false)∧nn≤s.1∧nn≤s.2
 nd1:(sts.map (·.1)).Nodup
 nd2:(sts.map (·.2)).Nodup
 bkc:w.heap[bk]? =some (.chan 0 #[] false 0 0 false)∧nn≤bk∧∀s∈sts,s.2≠bk
 brc:w.heap[br]? =some (.cells (madeCells #[.bool false] n) 4)∧nn≤br
 moc:w.heap[mo]? =some (.cells #[vI M] 3)∧nn≤mo
 odc:w.heap[od]? =some (.cells #[.slice none 0 0] 24)∧nn≤od
 nbc:w.heap[nb]? =some (.cells #[vI n] 3)∧nn≤nb
 low:nn≤tv∧nn≤tb
 mn:mo≠nb
theorem C7.at(h:C7 F nn n tv tb bk br mo od nb M slv sts w)(d:Nat):C7 F nn n tv tb bk br mo od nb M slv sts (w.at d):=
 ⟨h.st.at d,h.row,h.mem,h.nd1,h.nd2,h.bkc,h.brc,h.moc,h.odc,h.nbc,h.low,h.mn⟩
theorem C7.next(h:C7 F nn n tv tb bk br mo od nb M slv sts w){v':Value}{p q:Nat}(k:p05 F nn n tv tb bk br sts.length slv (sts.map fun s=>vP s.1 0) w w' v' p q):
 C7 F nn n tv tb bk br mo od nb M v' (sts++[(q,p)]) w':=by
 have hcell:∀r c e z,w.heap[r]? =some (.cells c e z)→nn≤r→e≠138→e≠137→w'.heap[r]? =some (.cells c e z):=fun r c e z h1 h2 h3 h4=>
  (k.old r h2 (D4 h1) (by rintro rfl;rw[h.st.tbc]at h1;cases h1;exact h4 rfl) (x9 h.row h1 (Ne.symm h3))).trans h1
 have hchan:∀r,w.heap[r]? =some (.chan 0 #[] false 0 0 false)→nn≤r→w'.heap[r]? =some (.chan 0 #[] false 0 0 false):=fun r h1 h2=>
  (k.old r h2 (D4 h1) (by rintro rfl;rw[h.st.tbc]at h1;cases h1) (g09 h.row h1)).trans h1
 have hlt1:∀s∈sts,s.1<w.heap.size∧s.2<w.heap.size:=fun s hs=>⟨(Array.getElem?_eq_some_iff.1 (h.mem s hs).1).1,(Array.getElem?_eq_some_iff.1 (h.mem s hs).2.1).1⟩
 have htop:=h.st.top
 have hp:=k.pl
 have hq:=k.ql
 refine⟨k.st,?_,fun s hs=>?_,?_,?_,⟨hchan _ h.bkc.1 h.bkc.2.1,h.bkc.2.1,fun s hs=>?_⟩,⟨hcell _ _ _ _ h.brc.1 h.brc.2 (by decide) (by decide),h.brc.2⟩,⟨hcell _ _ _ _ h.moc.1 h.moc.2 (by decide) (by decide),h.moc.2⟩,⟨hcell _ _ _ _ h.odc.1 h.odc.2 (by decide) (by decide),h.odc.2⟩,⟨hcell _ _ _ _ h.nbc.1 h.nbc.2 (by decide) (by decide),h.nbc.2⟩,h.low,h.mn⟩
 ·have:=k.row
  simpa using this
 ·rcases List.mem_append.1 hs with hs|hs
  ·obtain⟨h1,h2,h3,h4⟩:=h.mem s hs
   exact⟨hcell _ _ _ _ h1 h3 (by decide) (by decide),hchan _ h2 h4,h3,h4⟩
  ·simp only[List.mem_singleton]at hs
   subst hs
   exact⟨k.qc,k.pc,by simp only;omega,by simp only;omega⟩
 ·rw[List.map_append,List.nodup_append]
  refine⟨h.nd1,by simp,fun a ha b hb=>?_⟩
  obtain⟨s,hs,rfl⟩:=List.mem_map.1 ha
  simp only[List.map_cons,List.map_nil,List.mem_singleton]at hb
  have:=(hlt1 s hs).1
  omega
 ·rw[List.map_append,List.nodup_append]
  refine⟨h.nd2,by simp,fun a ha b hb=>?_⟩
  obtain⟨s,hs,rfl⟩:=List.mem_map.1 ha
  simp only[List.map_cons,List.map_nil,List.mem_singleton]at hb
  have:=(hlt1 s hs).2
  omega
 ·rcases List.mem_append.1 hs with hs|hs
  ·exact h.bkc.2.2 s hs
  ·simp only[List.mem_singleton]at hs
   subst hs
   have:=(Array.getElem?_eq_some_iff.1 h.bkc.1).1
   simp only
   omega
theorem k07(hU:Q1 F nn)(hn64:n≤64){thr sch:Value}{cs:List Frame}{main:Bool}{Stop:Goroutine→World→Prop}
 (hk:∀(w:World) slv sts A,C7 F nn n tv tb bk br mo od nb M slv sts w→sts.length=n→D0 129 A [(0,thr),(1,sch),(5,vP mo 0),(6,vP od 0),(7,.bool false),(8,.slice none 0 0),(9,vP nb 0),(10,vP tv 0),(29,vI n),(30,vI n)]→
   E0 Tryd.prog main F Stop (G (bA 54 A [.code V9,.inLoop V9,.inBlock 0,.code a0k]) cs) w):
 ∀(k i:Nat),i+k=n→∀(w:World) slv sts A,C7 F nn n tv tb bk br mo od nb M slv sts w→sts.length=i→D0 129 A [(0,thr),(1,sch),(5,vP mo 0),(6,vP od 0),(7,.bool false),(8,.slice none 0 0),(9,vP nb 0),(10,vP tv 0),(29,vI n),(30,vI i)]→
  E0 Tryd.prog main F Stop (G (bA 54 A [.code V9,.inLoop V9,.inBlock 0,.code a0k]) cs) w:=by
 intro k
 induction k with
 | zero=>
   intro i hi w slv sts A h hl hA
   obtain rfl:i=n:=by omega
   exact hk w slv sts A h hl hA
 | succ k ih=>
   intro i hi w slv sts A h hl hA
   refine w08 (by omega) hA fun A hA=>?_
   have hrow:=h.row
   subst hl
   refine w0Y hU h.st hrow (by omega) h.low hA fun w' v' p q A hS hA=>?_
   refine w09 (by omega) hA fun A hA=>?_
   exact ih (sts.length+1) (by omega) w' v' (sts++[(q,p)]) A (h.next hS) (by simp) hA
structure Made(nn M:Nat)(g:S0)(v:E3)(w:World):Prop where
 ok:g.Ok
 lie:∀a u,g.Place a u→Y0 w a u
 top:g.top≤w.heap.size
 sln:∃a,g.sl= .slice a g.n g.sc
 over:∀j,j<g.n→Y0 w ⟨g.st j,2,none⟩ (.bool false)
 brk:∀j,j<g.n→Y0 w ⟨g.br,j,none⟩ (.bool false)
 chans:∀c,g.Chan c→w.heap[c]? =some (.chan 0 #[] false 0 0 false)∧nn≤c
 place:∀a u,g.Place a u→nn≤a.block
 st:∀j,j<g.n→nn≤g.st j∧g.st j<w.heap.size
 br:nn≤g.br∧g.br<w.heap.size
 mo:w.heap[v.mo]? =some (.cells #[vI M] 3)
 od:w.heap[v.od]? =some (.cells #[.slice none 0 0] 24)
 n:w.heap[v.n]? =some (.cells #[vI g.n] 3)
 lf:w.heap[v.lf]? =some (.cells #[vI (0:Nat)] 3)
 low:nn≤v.mo∧nn≤v.od∧nn≤v.n∧nn≤v.lf
 dn:v.mo≠v.n∧v.lf≠v.n∧v.lf≠v.mo
 alone:∀b c e,w.heap[b]? =some (.cells c e (0,0))→e=3∨e=24→(∀j,j<g.n→b≠g.st j)∧b≠g.br∧∀a u,g.Place a u→b≠a.block
theorem e0j(n j:Nat)(h:j<n):(madeCells #[Value.bool false] n)[j]? =some (.bool false):=by
 simp[madeCells,h,Nat.mod_one]
theorem f0h{α:Type}{l:List α}(h:l.Nodup){i j:Nat}(hi:i<l.length)(hj:j<l.length)(e:l[i]=l[j]):i=j:=by
 have:=List.pairwise_iff_getElem.1 h
 rcases Nat.lt_trichotomy i j with h1|h1|h1
 ·exact absurd e (this i j hi hj h1)
 ·exact h1
 ·exact absurd e.symm (this j i hj hi h1)
theorem p0y{A:O2}(hF:A.b≤nn){slv:Value}{sts:List (Nat×Nat)}(h:C7 F nn n tv tb bk br mo od nb M slv sts w)(hl:sts.length=n):
 ∃g:S0,g.an=A∧g.n=n∧g.tv=tv∧Made nn M g ⟨mo,od,nb,w.heap.size⟩ (w.alloc (.cells #[vI (0:Nat)] 3)):=by
 have hk:∀r o,w.heap[r]? =some o→(w.alloc (.cells #[vI (0:Nat)] 3)).heap[r]? =some o:=fun r o hr=>(o0 _ _ (D4 hr)).trans hr
 obtain⟨sa,sc,hrow⟩:∃sa sc,(0<n→slv=vL sa 0 n sc∧nn≤sa∧∃cur,w.heap[sa]? =some (.cells cur 138 (0,0))∧∀j,j<n→cur[j]? =some (.pointer (some ⟨(sts.getD j (0,0)).1,0,none⟩)))∧∃a,slv= .slice a n sc:=by
  rcases h.row.2 with⟨h1,h2⟩|⟨b,cap,cur,h1,h2,h3,h4,h5,h6,h7⟩
  ·exact⟨0,0,fun h0=>by omega,none,by rw[h1,← hl,h2]⟩
  ·rw[hl]at h1 h4 h7
   refine⟨b,cap,fun h0=>⟨h1,h2,cur,h3,fun j hj=>?_⟩,some ⟨b,0,none⟩,h1⟩
   have h8:=congrArg (·[j]?) h7
   simp only[Nat.mul_one,List.getElem?_take,if_pos hj,Array.getElem?_toList]at h8
   rw[h8]
   have hj':j<sts.length:=by omega
   simp[hj',List.getD_eq_getElem?_getD]
 obtain⟨hrow1,a0,hrow2⟩:=hrow
 have hmem:∀j,j<n→sts.getD j (0,0)∈sts:=fun j hj=>by
  have hj':j<sts.length:=by omega
  simp[List.getD_eq_getElem?_getD,hj']
 have hinj1:∀i j,i<n→j<n→(sts.getD i (0,0)).1=(sts.getD j (0,0)).1→i=j:=fun i j hi hj e=>by
  have hi':i<sts.length:=by omega
  have hj':j<sts.length:=by omega
  simp only[List.getD_eq_getElem?_getD,List.getElem?_eq_getElem hi',List.getElem?_eq_getElem hj',Option.getD_some]at e
  exact f0h h.nd1 (by simpa using hi') (by simpa using hj') (by simpa using e)
 have hinj2:∀i j,i<n→j<n→(sts.getD i (0,0)).2=(sts.getD j (0,0)).2→i=j:=fun i j hi hj e=>by
  have hi':i<sts.length:=by omega
  have hj':j<sts.length:=by omega
  simp only[List.getD_eq_getElem?_getD,List.getElem?_eq_getElem hi',List.getElem?_eq_getElem hj',Option.getD_some]at e
  exact f0h h.nd2 (by simpa using hi') (by simpa using hj') (by simpa using e)
 let g:S0:={tv:=tv,tb:=tb,bk:=bk,sa:=sa,sc:=sc,br:=br,n:=n,sl:=slv,bl:=vL br 0 n n,st:=fun j=>(sts.getD j (0,0)).1,pc:=fun j=>(sts.getD j (0,0)).2,top:=w.heap.size,an:=A}
 have hstm:∀j,j<n→w.heap[(sts.getD j (0,0)).1]? =some (.cells #[vP tb 0,.chan (some (sts.getD j (0,0)).2),.bool false] 141):=fun j hj=>(h.mem _ (hmem j hj)).1
 have hlt:∀r o,w.heap[r]? =some o→r<w.heap.size:=fun r o hr=>(D4 hr)
 have hplace:∀a u,g.Place a u→∃c e,w.heap[a.block]? =some (.cells c e (0,0))∧c[a.off]? =some u∧a.spot=none∧nn≤a.block∧(e=133∨e=137∨e=138∨e=141)∧(e=141→a.off<2):=by
  intro a u p
  cases p with
  | tv=>exact⟨_,_,h.st.tvc,rfl,rfl,h.low.1,by simp,by simp⟩
  | back=>exact⟨_,_,h.st.tbc,rfl,rfl,h.low.2,by simp,by simp⟩
  | stands=>exact⟨_,_,h.st.tbc,rfl,rfl,h.low.2,by simp,by simp⟩
  | broken=>exact⟨_,_,h.st.tbc,rfl,rfl,h.low.2,by simp,by simp⟩
  | stand i hi=>
    obtain⟨_,h2,cur,h3,h4⟩:=hrow1 (Nat.lt_of_le_of_lt (Nat.zero_le _) hi)
    exact⟨cur,138,h3,h4 i hi,rfl,h2,by simp,by simp⟩
  | gate i hi=>exact⟨_,_,hstm i hi,rfl,rfl,(h.mem _ (hmem i hi)).2.2.1,by simp,by simp⟩
  | pass i hi=>exact⟨_,_,hstm i hi,rfl,rfl,(h.mem _ (hmem i hi)).2.2.1,by simp,by simp⟩
 have hchan:∀c,g.Chan c→w.heap[c]? =some (.chan 0 #[] false 0 0 false)∧nn≤c:=by
  rintro c (rfl|⟨i,hi,rfl⟩)
  ·exact⟨h.bkc.1,h.bkc.2.1⟩
  ·exact⟨(h.mem _ (hmem i hi)).2.1,(h.mem _ (hmem i hi)).2.2.2⟩
 refine⟨g,rfl,rfl,rfl,⟨⟨fun a u c p hc=>?_,fun c hc=>Nat.le_trans hF (hchan c hc).2,fun a u p=>?_,fun c hc=>hlt _ _ (hchan c hc).1,hinj2,fun i hi=>h.bkc.2.2 _ (hmem i hi),fun h0=>(hrow1 h0).1,fun _=>rfl,fun a u p=>?_,fun i a u hi p e=>?_,fun i hi e=>?_,fun _=>hlt _ _ h.brc.1,hinj1⟩,fun a u p=>?_,by simp[g],⟨a0,hrow2⟩,fun j hj=>⟨⟨_,_,hk _ _ (hstm j hj),rfl⟩,rfl⟩,fun j hj=>⟨⟨_,_,hk _ _ h.brc.1,e0j n j hj⟩,rfl⟩,
  fun c hc=>⟨hk _ _ (hchan c hc).1,(hchan c hc).2⟩,fun a u p=>?_,fun j hj=>⟨(h.mem _ (hmem j hj)).2.2.1,by have:=hlt _ _ (hstm j hj);simp only[World.size_alloc,g];omega⟩,⟨h.brc.2,by have:=hlt _ _ h.brc.1;simp only[World.size_alloc,g];omega⟩,hk _ _ h.moc.1,hk _ _ h.odc.1,hk _ _ h.nbc.1,heap_alloc_new _ _,
  ⟨h.moc.2,h.odc.2,h.nbc.2,h.st.top⟩,⟨h.mn,?_,?_⟩,fun b c e hb he=>?_⟩⟩
 ·obtain⟨c',e,h1,_⟩:=hplace a u p
  rintro rfl
  rw[(hchan _ hc).1]at h1
  cases h1
 ·obtain⟨c',e,h1,_⟩:=hplace a u p
  exact hlt _ _ h1
 ·obtain⟨c',e,h1,_,_,_,h2,_⟩:=hplace a u p
  intro e1
  have:=h.brc.1
  rw[show br=a.block from e1,h1]at this
  simp only[Option.some.injEq,Obj.cells.injEq]at this
  rw[this.2.1]at h2
  simp at h2
 ·obtain⟨c',e',h1,_,_,_,_,h2⟩:=hplace a u p
  have h3:=hstm i hi
  rw[show(sts.getD i (0,0)).1=a.block from e,h1]at h3
  cases h3
  exact h2 rfl
 ·have:=h.brc.1
  rw[show br=(sts.getD i (0,0)).1 from e,hstm i hi]at this
  simp only[Option.some.injEq,Obj.cells.injEq]at this
  exact absurd this.2.1 (by decide)
 ·obtain⟨c',e,h1,h2,h3,_⟩:=hplace a u p
  exact⟨⟨c',e,hk _ _ h1,h2⟩,h3⟩
 ·obtain⟨c',e,_,_,_,h1,_⟩:=hplace a u p
  exact h1
 ·have:=hlt _ _ h.nbc.1;simp only;omega
 ·have:=hlt _ _ h.moc.1;simp only;omega
 ·have hfin:∀r c' e',w.heap[r]? =some (.cells c' e' (0,0))→e'≠3→e'≠24→b≠r:=fun r c' e' h1 h2 h3 h4=>by
   subst h4
   rw[hk _ _ h1]at hb
   cases hb
   rcases he with rfl|rfl
   ·exact h2 rfl
   ·exact h3 rfl
  refine⟨fun j hj=>hfin _ _ _ (hstm j hj) (by decide) (by decide),hfin _ _ _ h.brc.1 (by decide) (by decide),fun a u p=>?_⟩
  obtain⟨c',e',h1,_,_,_,h2,_⟩:=hplace a u p
  refine hfin _ _ _ h1 ?_ ?_
  ·rintro rfl;simp at h2
  ·rintro rfl;simp at h2
end
section
variable{g:S0}{P:Program}{F:Fz}{w w':World}
theorem g0a{a:Nat}{c:Array Value}{e:TypeId}{z:Nat×Nat}{v:Value}(h:w.heap[a]? =some (.cells c e z))(hv:c[0]? =some v):w.setCell ⟨a,0,none⟩ v=w:=by
 have hh:(w.setCell ⟨a,0,none⟩ v).heap=w.heap:=by
  apply Array.ext_getElem?
  intro i
  by_cases e1:i=a
  ·subst e1
   have hc0:=(D4 hv)
   simp only[World.setCell,Array.getElem?_modify,h,if_true,Option.map_some,Option.isSome_none,Bool.false_eq_true,if_false,Option.some.injEq,Obj.cells.injEq,and_true]
   apply Array.ext_getElem?
   intro j
   rw[Array.getElem?_setIfInBounds]
   split
   ·rename_i e2;subst e2;first|exact hv.symm|(rw[if_pos hc0];exact hv.symm)
   ·rfl
  ·exact m0 _ _ _ e1
 have e:w.setCell ⟨a,0,none⟩ v={w with heap:=(w.setCell ⟨a,0,none⟩ v).heap}:=rfl
 rw[e,hh]
theorem g0d{main:Bool}{b:Frame}{a:Act}{cs:List Frame}{fn:Func}{todo:List Item}{c:Frame}{v:Value}(hn:b.kind= .normal)(hd:a.defers=[])(hf:P.funcs[b.fn]? =some fn)
 (hr:(results fn a.tmps).run P w= .ok v w):
 stepG P main (G {b.at a todo with mode:=.returning} (c::cs)) w= .go (G (c.finish v) cs) w (seen P b.fn ((results fn a.tmps).events P w #[])):=by
 simp[G,stepG,unwind,doReturn,Frame.at,hn,hd,hf,hr,GStep.after]
theorem i2{main:Bool}{b:Frame}{a:Act}{cs:List Frame}{fn:Func}{todo:List Item}{c:Frame}{v:Value}{Stop:Goroutine→World→Prop}(hn:b.kind= .normal)(hd:a.defers=[])(hf:P.funcs[b.fn]? =some fn)
 (hr:∀d,(results fn a.tmps).run P (w.at d)= .ok v (w.at d)) (he:∀d,∀e∈(results fn a.tmps).events P (w.at d) #[],EvT F e) (h:E0 P main F Stop (G (c.finish v) cs) w):
 E0 P main F Stop (G {b.at a todo with mode:=.returning} (c::cs)) w:=
 .step rfl fun d=>⟨_,_,_,g0d hn hd hf (hr d),⟨⟨0,i3.refl _ _⟩,fun e hm=>he d e (mem_seen hm)⟩,h.at d⟩
structure SE(g:S0)(od:Nat)(oa:Option Addr)(ol oc:Nat)(u:World):Prop where
 hod:∃c e,u.heap[od]? =some (.cells c e (0,0))∧c[0]? =some (.slice oa ol oc)
 t:Y0 u ⟨g.tv,0,none⟩ (vP g.tb 0)
 b:Y0 u ⟨g.tb,2,none⟩ g.bl
section
variable{od ol oc:Nat}{oa:Option Addr}{u:World}
theorem SE.at(h:SE g od oa ol oc u)(d:Nat):SE g od oa ol oc (u.at d):=⟨h.hod,h.t.at d,h.b.at d⟩
theorem SE.lo(h:SE g od oa ol oc u):Y0 u ⟨od,0,none⟩ (.slice oa ol oc):=by obtain⟨c,e,h1,h2⟩:=h.hod;exact⟨⟨c,e,h1,h2⟩,rfl⟩
theorem SE.co(h:SE g od oa ol oc u):u.cell? ⟨od,0,none⟩=some (.slice oa ol oc):=h.lo.c
theorem SE.zo(h:SE g od oa ol oc u):u.frozen? ⟨od,0,none⟩=false:=h.lo.z
theorem SE.ct(h:SE g od oa ol oc u):u.cell? ⟨g.tv,0,none⟩=some (vP g.tb 0):=h.t.c
theorem SE.zt(h:SE g od oa ol oc u):u.frozen? ⟨g.tv,0,none⟩=false:=h.t.z
theorem SE.cb(h:SE g od oa ol oc u):u.cell? ⟨g.tb,2,none⟩=some (g.bl):=h.b.c
theorem SE.zb(h:SE g od oa ol oc u):u.frozen? ⟨g.tb,2,none⟩=false:=h.b.z
end
abbrev F0:Fz:=fun _=>none
theorem t0u{v:E3}{st:Bool}{oa:Option Addr}{ol oc:Nat}(hs:SE g v.od oa ol oc w){A:Array Value}(hA:D0 129 A (T5 g v st g.n)){c:Frame}{cs:List Frame}{main:Bool}{Stop:Goroutine→World→Prop}
 (h:E0 Tryd.prog main F0 Stop (G (c.finish (.tuple #[.slice oa ol oc,.bool st,g.bl])) cs) w):E0 Tryd.prog main F0 Stop (G (bA 54 A [.code T6]) (c::cs)) w:=by
 obtain⟨s,rfl,h7,h107,h108,h109,h5,h6,h8,h9,h10,h11,_⟩:=D5 i6 hA
 simp only[i6,h7,h107,h108,h109,h5,h6,h8,h9,h10,h11]
 clear h7 h107 h108 h109 h5 h6 h8 h9 h10 h11
 have hS:∀u d,SE g v.od oa ol oc u→SE g v.od oa ol oc (World.at u d):=fun u d h=>h.at d
 refine ogV d0R .ret ?_
 rw[t0Z]
 refine U5 (SE g v.od oa ol oc) (last:=8) K2 (Q6 (by kernel_rfl)) (by decide) ?_
 simp only[d0R,J0,Tryd.f54,zz,Nat.reduceAdd]
 have hZ:∀a u d,E0 Tryd.prog main F0 Stop (G ((Go.Conc.base 54).at a [.inRegion (oC d0R) [8],.code .ret]) (c::cs)) u→E0 Tryd.prog main F0 Stop (G ((Go.Conc.base 54).at a [.inRegion (oC d0R) [8],.code .ret]) (c::cs)) (World.at u d):=fun a u d h=>h.at d
 simp only[d0R,J0,Tryd.f54,zz,Nat.reduceAdd]at hZ
 refine M8 0 (.slice oa ol oc) (fun u hu=>(And.intro hu.co hu.zo)) hS hs ?_ hZ
 walk_nrm
 refine tkM 1 (.bool st) hS hs ?_ hZ
 walk_nrm
 refine M8 2 (vP g.tb 0) (fun u hu=>(And.intro hu.ct hu.zt)) hS hs ?_ hZ
 walk_nrm
 refine tkM 3 (vP g.tb 0) hS hs ?_ hZ
 walk_nrm
 refine tkM 4 (vP g.tb 2) hS hs ?_ hZ
 walk_nrm
 refine M8 5 g.bl (fun u hu=>(And.intro hu.cb hu.zb)) hS hs ?_ hZ
 walk_nrm
 refine V1 (r:=[6]) (by kernel_rfl) (by kernel_rfl) (fun i hi hil=>?_)
 simp only[List.mem_cons,List.not_mem_nil,or_false]at hi
 subst hi
 refine D3 rfl rfl (fun d K' hK'=>?_)
 have co:=(hs.at d).co
 have zo:=(hs.at d).zo
 go_simp
 obtain⟨cc,ee,hh1,hh2⟩:=(hs.at d).hod
 rw[g0a hh1 hh2]
 refine hK' _ _ ⟨⟨⟨0,i3.refl _ _⟩,fun e he=>by(have hm:=mem_listed he;clear he hK';simp[go_sem,storedEv,co,zo]at hm;subst hm;exact V0 _ _ (W7 rfl))⟩,hs.at d,?_⟩
 clear hK' K' co zo
 refine U1 hS hZ _ _ _ _ ?_ d
 refine tkM 7 (.bool st) hS hs ?_ hZ
 walk_nrm
 refine T3 (by kernel_rfl) ?_ _
 refine oT ?_
 refine I0<|ogX ?_
 refine i2 (fn:=Tryd.f54) (v:=.tuple #[.slice oa ol oc,.bool st,g.bl]) rfl rfl Tryd.func54 (fun d=>?_) (fun d e he=>?_) h
 ·have co:=(hs.at d).co
  simp[results,Tryd.f54,go_sem,co]
 ·have co:=(hs.at d).co
  have zo:=(hs.at d).zo
  simp[results,Tryd.f54,go_sem,co,zo]at he
  subst he
  exact M0 _ _
end
section
open Go.ConcN (sumTo upd sumTo_upd upd_ne upd_same)
variable{F:Fz}{w w':World}
theorem p00(w:World)(M n:Nat):(b0O w M n).heap.size=w.heap.size+3:=by simp[b0O]
theorem x0I(w:World)(M n:Nat):(b0O w M n).heap[w.heap.size]? =some (.cells #[vI M] 3):=by
 unfold b0O
 rw[o0 _ _ (by simp;omega),o0 _ _ (by simp)]
 exact heap_alloc_new _ _
theorem x0J(w:World)(M n:Nat):(b0O w M n).heap[w.heap.size+1]? =some (.cells #[.slice none 0 0] 24):=by
 unfold b0O
 rw[o0 _ _ (by simp)]
 simpa using heap_alloc_new (w.alloc (.cells #[vI M] 3)) (.cells #[.slice none 0 0] 24)
theorem y01(w:World)(M n:Nat):(b0O w M n).heap[w.heap.size+2]? =some (.cells #[vI n] 3):=by
 unfold b0O
 simpa using heap_alloc_new ((w.alloc (.cells #[vI M] 3)).alloc (.cells #[.slice none 0 0] 24)) (.cells #[vI n] 3)
theorem Wf.of_old{nn:Nat}(hU:Q1 F nn)(h:Wf F w)(ho:∀r,r<nn→w'.heap[r]? =w.heap[r]?):Wf F w':=by
 constructor
 intro r z hz
 obtain⟨c,e,z0,h1,h2⟩:=h.own r z hz
 exact⟨c,e,z0,(ho r (hU r z hz)).trans h1,h2⟩
theorem n0L{An:O2}(hAb:An.b≤w.heap.size)(hU:Q1 F w.heap.size)(hwf:Wf F w){ta:Option Addr}{tl tc M:Nat}{sch:Value}{m:Int}(htl:tl≤64)(hM:min (max m 0) 1048576=(M:Int)){cs:List Frame}{main:Bool}{Stop:Goroutine→World→Prop}
 (h:∀(g:S0) (v:E3) (w':World) (A:Array Value),g.an=An→g.n=tl→Made w.heap.size M g v w'→D0 129 A (L3 g v (.slice ta tl tc) sch 0)→E0 Tryd.prog main F Stop (G (bA 54 A [.code I3,.inLoop I3,.inBlock 2,.code L5]) cs) w'):
 E0 Tryd.prog main F Stop (G (Frame.enter Tryd.prog 54 #[.slice ta tl tc,sch,vI m] .normal) cs) w:=by
 refine w0W hU (Nat.le_refl _) htl hM fun A hA=>?_
 have hsz:=p00 w M tl
 have hmo:=x0I w M tl
 have hod:=x0J w M tl
 have hnb:=y01 w M tl
 have hwf0:Wf F (b0O w M tl):=hwf.of_old hU fun r hr=>by
  unfold b0O
  rw[o0 _ _ (by simp;omega),o0 _ _ (by simp;omega),o0 _ _ hr]
 have hsn:SN w.heap.size (w.heap.size+2) tl (b0O w M tl):=⟨by omega,by omega,by simp[World.cell?,hnb],by simp[World.frozen?,hnb]⟩
 generalize b0O w M tl=W0 at*
 rw[x0z]
 refine G0 rfl (fun d=>stepG_seq) (E0.at ?_ W0.drawn)
 refine w0X (k:=[.code n05]) hU htl hsn hA fun w1 tv tb bk br A h3 hA=>?_
 have hnb1:=(h3.old _ (by omega)).trans hnb
 have hS0:C7 F w.heap.size tl tv tb bk br w.heap.size (w.heap.size+1) (w.heap.size+2) M (.slice none 0 0) [] w1:=by
  have hl:=h3.low
  refine⟨⟨by have:=h3.size;omega,hwf0.of_old hU fun r hr=>h3.old r (by omega),h3.htv,h3.htb⟩,World.ownsRow_nil _ _ _ _,by simp,by simp,by simp,⟨h3.hbk,by omega,by simp⟩,⟨h3.hbr,by omega⟩,⟨(h3.old _ (by omega)).trans hmo,Nat.le_refl _⟩,⟨(h3.old _ (by omega)).trans hod,by omega⟩,⟨hnb1,by omega⟩,by omega,by omega⟩
 refine w07 (n:=tl) (nb:=w.heap.size+2) (by simp[World.cell?,hnb1]) (by simp[World.frozen?,hnb1]) hA fun A hA=>?_
 refine k07 hU htl (fun w2 slv sts A hS hl hA=>?_) tl 0 (by omega) w1 _ [] A hS0 rfl hA
 have hn2:=hS.nbc.1
 refine x0a (n:=tl) (nb:=w.heap.size+2) hU hS.st.top (D4 hn2) (by simp[World.cell?,hn2]) (by simp[World.frozen?,hn2]) hA fun A hA=>?_
 obtain⟨g,hga,hgn,hgt,hm⟩:=p0y hAb hS hl
 refine h g _ _ A hga hgn hm ?_
 subst hgn
 subst hgt
 exact hA
theorem inb_none{Z:R2}{g:S0}{x:Z.X}{vs:Nat→Z3}{s0:Nat}:inb Z g s0 (fun j=>decide (j<0) && Z.liv x j) vs none x=fun _=>none:=by
 funext j
 unfold inb
 by_cases h:j=0
 ·rw[if_pos h]
 ·rw[if_neg h,if_neg (fun h=>by simp at h)]
def a0S(Z:R2)(n M:Nat)(S:List Int)(x0:Z.X)(t:Z.X×List Nat):Prop:=
 ∃x1,a0P Z n x0 x1∧∃s,O4 Z n M S (x1,[]) s∧a9 Z n M s t
theorem l06{An:O2}{Z:S0→R2}{x0:∀g,(Z g).X}{S:List Int}{ta sa:Option Addr}{tb so sb tl tc sc M:Nat}{m:Int}(htl:tl≤64)(hM:min (max m 0) 1048576=(M:Int))(hSl:S.length<9223372036854775808)
 (zok:∀g,g.n=tl→Fits g→(Z g).Ok g) (hU0:∀(g:S0) (w':World),g.n=tl→w.heap.size≤w'.heap.size→(∀(r:Nat) (o:Obj),w.heap[r]? =some o→w'.heap[r]? =some o)→(Z g).U (x0 g) w')
 (hnw:∀g:S0,g.n=tl→∀j,j<g.n→(Z g).nw (x0 g) j) (hR0:∀(g:S0) (r:Nat),(Z g).R (x0 g) r→r<w.heap.size) (hI0:∀(g:S0) (r:Nat),(Z g).I r≠none→r<w.heap.size∧¬(Z g).R (x0 g) r)
 (hta:0<tl→ta=some ⟨tb,0,none⟩) (hth:∀g,g.n=tl→b00 (Z g) tb 0 ((List.range tl).map fun j=>.func (.func (Z g).fid) #[] ((Z g).cap j)))
 (hsa:0<S.length→sa=some ⟨sb,so,none⟩) (hS:∀g,g.n=tl→b00 (Z g) sb so (S.map fun i:Int=>Value.int .i64 i)) {c:Frame} {cs:List Frame} {Stop:Goroutine→World→Prop}
 (hk:∀g (t:(Z g).X×List Nat) w' oa oc bv,g.n=tl→a0S (Z g) tl M S (x0 g) t→(Z g).U t.1 w'→w'.ownsRow w.heap.size 3 1 (.slice oa t.2.length oc) t.2.length (t.2.map fun i:Nat=>Value.int .i64 i)→(∀y,oa=some y→¬(Z g).R t.1 y.block)→w.heap.size≤w'.heap.size→
   Bes An Tryd.prog Stop (G (c.finish (.tuple #[.slice oa t.2.length oc,.bool (decide (0<y5 ((Z g).liv t.1) tl)),bv])) cs) w'):
 Bes An Tryd.prog Stop (G (Frame.enter Tryd.prog 54 #[.slice ta tl tc,.slice sa S.length sc,vI m] .normal) (c::cs)) w:=by
 refine h03 fun hAn=>?_
 refine W5 (A:=An) (F:=FT (fun _=>True) w) (Stop:=fun a u=>Gd (FT (fun _=>True) w) w u∧∃(g:S0) (v:E3) (A:Array Value),g.an=An∧g.n=tl∧Made w.heap.size M g v u∧D0 129 A (L3 g v (.slice ta tl tc) (.slice sa S.length sc) 0)∧a=G (bA 54 A [.code I3,.inLoop I3,.inBlock 2,.code L5]) (c::cs))
  (d0V (n0L hAn.low (g0W _ _) (j0M w) htl hM fun g v w' A hga hgn hm hA=>.stop fun d=>⟨g,v,A,hga,hgn,?_,hA,rfl⟩)) fun a w1 hS1=>?_
 ·exact⟨hm.ok,fun a u p=>(hm.lie a u p).at d,hm.top,hm.sln,fun j hj=>(hm.over j hj).at d,fun j hj=>(hm.brk j hj).at d,hm.chans,hm.place,hm.st,hm.br,hm.mo,hm.od,hm.n,hm.lf,hm.low,hm.dn,hm.alone⟩
 obtain⟨hgd,g,v,A,hga,hgn,hm,hA,rfl⟩:=hS1
 subst hga
 have ok:Fits g:=⟨hm.ok⟩
 have zk:=zok g hgn ok
 have hold:∀r o,w.heap[r]? =some o→w1.heap[r]? =some o:=fun r o hr=>(f0R hgd trivial (D4 hr)).trans hr
 have hsz:w.heap.size≤w1.heap.size:=hgd.size
 have hn64:g.n≤64:=by omega
 have hM2:M≤1048576:=by omega
 obtain⟨asl,hsln⟩:=hm.sln
 have hR1:∀r,(Z g).R (x0 g) r→r<w.heap.size:=hR0 g
 have hlt:∀r o,w1.heap[r]? =some o→r<w1.heap.size:=fun r o hr=>(D4 hr)
 let N:Nat→Prop:=fun r=>r<w1.heap.size∧¬(Z g).R (x0 g) r
 have hNn:∀r,w.heap.size≤r→r<w1.heap.size→N r:=fun r h1 h2=>⟨h2,fun h3=>by have:=hR1 r h3;omega⟩
 have HT:TI (Z g) g (fun j=>(decide (j<0) && (Z g).liv (x0 g) j)=true) (fun _=>⟨0,0,0⟩) N (fun j=>decide (j<0) && !(Z g).liv (x0 g) j) (x0 g) w1:=
  ⟨hU0 g w1 hgn hsz hold,fun j hj=>by simpa using hm.over j hj,fun j hj=>⟨false,hm.brk j hj⟩,fun j hj=>by simp at hj,fun c hc=>⟨0,0,(hm.chans c hc).1⟩,fun r hr hn=>hn.2 hr,fun r hr=>hr.1,
   fun a u p=>hNn _ (hm.place a u p) (hm.lie a u p).lt,fun j hj=>hNn _ (hm.st j hj).1 (hm.st j hj).2,fun _=>hNn _ hm.br.1 hm.br.2,fun j hj=>by simp at hj,fun c hc=>hNn _ (hm.chans c hc).2 (hlt _ _ (hm.chans c hc).1),fun j k hj=>by simp at hj,
   fun r hr=>by
    obtain⟨h1,h2⟩:=hI0 g r hr
    exact⟨⟨by omega,h2⟩,fun j hj=>by have:=(hm.st j hj).1;omega,by have:=hm.br.1;omega,fun j hj=>by simp at hj⟩⟩
 have hal:∀b c e,w1.heap[b]? =some (.cells c e (0,0))→e=3∨e=24→w.heap.size≤b→G5 (Z g) g (fun _=>⟨0,0,0⟩) (fun j=>(decide (j<0) && (Z g).liv (x0 g) j)=true) N b:=fun b c e hb he hn=>by
  obtain⟨h1,h2,h3⟩:=hm.alone b c e hb he
  refine⟨hNn _ hn (hlt _ _ hb),h1,h2,h3,fun j hj=>by simp at hj,?_⟩
  cases hI:(Z g).I b with
  | none=>rfl
  | some o=>have:=(hI0 g b (by rw[hI];simp)).1;omega
 have htyp:∀(a b:Nat) (c c':Array Value),w1.heap[a]? =some (Obj.cells c 3 (0,0))→w1.heap[b]? =some (Obj.cells c' 24 (0,0))→a≠b:=by
  rintro a b c c' h1 h2 rfl
  rw[h1]at h2
  cases h2
 have HM:MI (Z g) g (fun _=>⟨0,0,0⟩) (fun j=>(decide (j<0) && (Z g).liv (x0 g) j)=true) N v w.heap.size M none 0 0 [] 0 w1:=
  ⟨⟨⟨_,_,hm.n,rfl⟩,rfl⟩,⟨⟨_,_,hm.mo,rfl⟩,rfl⟩,⟨⟨_,_,hm.lf,rfl⟩,rfl⟩,⟨_,hm.od,rfl⟩,World.ownsRow_nil _ _ _ _,hal _ _ _ hm.n (.inl rfl) hm.low.2.2.1,hal _ _ _ hm.mo (.inl rfl) hm.low.1,hal _ _ _ hm.lf (.inl rfl) hm.low.2.2.2,hal _ _ _ hm.od (.inr rfl) hm.low.2.1,
    fun y hy=>(by cases hy),⟨htyp _ _ _ _ hm.n hm.od,htyp _ _ _ _ hm.mo hm.od,htyp _ _ _ _ hm.lf hm.od,hm.dn.2.1,hm.dn.2.2⟩,fun y hy=>(by cases hy),hsz⟩
 refine o0W (K:=g.K) (Still:=g.Still) (B0:=g.top) (fun l ⟨a,u,_,e⟩=>by subst e;rfl) (fun h=>⟨hm.lie,h⟩) fun _ s0 hs0=>?_
 have hnone:(fun _=>none:Nat→Option Seat)=inb (Z g) g s0 (fun j=>decide (j<0) && (Z g).liv (x0 g) j) (fun _=>⟨0,0,0⟩) none (x0 g):=inb_none.symm
 rw[hnone]
 have hfin:∀(x:(Z g).X) (u:World) (A:Array Value) (vs:Nat→Z3) (N:Nat→Prop) (ms:Option Seat),a0P (Z g) g.n (x0 g) x→TI (Z g) g (fun j=>(decide (j<g.n) && (Z g).liv x j)=true) vs N (fun j=>decide (j<g.n) && !(Z g).liv x j) x u→
  MI (Z g) g vs (fun j=>(decide (j<g.n) && (Z g).liv x j)=true) N v w.heap.size M none 0 0 [] (y5 ((Z g).liv x) g.n) u→g.top≤u.heap.size→D0 129 A (L3 g v (.slice ta tl tc) (.slice sa S.length sc) g.n)→
  n6 Tryd.prog g.K g.Still g.top (l0z g.an Tryd.prog Stop) (inb (Z g) g s0 (fun j=>decide (j<g.n) && (Z g).liv x j) vs ms x) 0 (s0+g.n) (G (bA 54 A [.code I3,.inLoop I3,.inBlock 2,.code L5]) (c::cs)) u:=by
  intro x u A vs N ms hB HT HM _ hA
  refine Y4 _ (fun Stop h=>w0Z hA h) fun A d hA=>?_
  have hU2:s5 (Z g) g v w.heap.size M s0 (x,[]) (inb (Z g) g s0 (fun j=>decide (j<g.n) && (Z g).liv x j) vs ms x) (u.at d):=⟨by simp,vs,N,none,0,ms,rfl,HT.at zk d,HM.at d⟩
  refine l0u (st:=(x,[])) zk hs0 hM2 hn64 hsa (hS g hgn) hSl (fun s Inb u A hs hU hA=>?_) S.length 0 (by omega) (x,[]) _ _ A rfl hU2 hA
  refine i0R zk hs0 hM2 hn64 (M - s.2.length) s (Nat.le_refl _) Inb u A (fun t Inb u A hr hU hA=>?_) hU hA
  refine o0w zk hs0 hn64 hsln (s:=t) (fun u A vs N oa oc ov HT HM hK hA=>?_) hU hA
  have hse:SE g v.od oa t.2.length oc u:=⟨by obtain⟨cc,h1,h2⟩:=HM.od;exact⟨cc,_,h1,h2⟩,hK _ _ .tv,hK _ _ .broken⟩
  refine W5 (F:=F0) (Stop:=fun a w2=>a=G (c.finish (.tuple #[.slice oa t.2.length oc,.bool (decide (0<y5 ((Z g).liv t.1) g.n)),g.bl])) cs∧∃d,w2=u.at d) (t0u hse hA (.stop fun d=>⟨rfl,d,rfl⟩)) fun a w2 ⟨ha,d2,hw2⟩=>?_
  subst ha
  subst hw2
  have hrel:a0S (Z g) tl M S (x0 g) t:=⟨x,hgn ▸ hB,s,hgn ▸ hs,hgn ▸ hr⟩
  have:=hk g t (u.at d2) oa oc g.bl hgn hrel (HT.at zk d2).u HM.row (fun y hy hR=>HT.apart _ hR (HM.arow y hy).n) HM.base
  rw[← hgn]at this
  exact this
 by_cases h0:g.n=0
 ·have e0:(fun j=>decide (j<0) && (Z g).liv (x0 g) j)=fun j=>decide (j<g.n) && (Z g).liv (x0 g) j:=by rw[h0]
  have e1:(fun j=>(decide (j<0) && (Z g).liv (x0 g) j)=true)=fun j=>(decide (j<g.n) && (Z g).liv (x0 g) j)=true:=by rw[h0]
  have e2:(fun j=>decide (j<0) && !(Z g).liv (x0 g) j)=fun j=>decide (j<g.n) && !(Z g).liv (x0 g) j:=by rw[h0]
  rw[e1,e2]at HT
  rw[e1]at HM
  rw[e0]
  have e3:s0=s0+g.n:=by omega
  have e4:y5 ((Z g).liv (x0 g)) g.n=0:=by rw[h0];rfl
  have:=hfin (x0 g) w1 A _ N none (by rw[h0];rfl) HT (by rw[e4];exact HM) hm.top (by rw[h0];exact hA)
  rw[← e3]at this
  exact this
 ·obtain rfl:=hta (by omega)
  refine i0Q zk hs0 hn64 (hnw g hgn) (tl:=tl) (tc:=tc) (sch:=.slice sa S.length sc) (x0:=x0 g) (by omega) (by rw[hgn];exact hth g hgn) hfin g.n 0 (by omega) (x0 g) w1 A _ N none rfl HT HM hm.top hA
end
section
variable{P:Program}{F:Fz}{w w':World}
section
variable{main:Bool}{b:Frame}{a:Act}{kk:List Item}{cs:List Frame}{ops:Array Oper}{i:Nat}{rest:List Nat}{o:Oper}{Stop:Goroutine→World→Prop}{f:FuncId}{fn:Func}{ats:Array TypeId}
theorem k0h{v:Value}(ho:ops[i]? =some o)(hw:Region.wanted o (yielded ops a.tmps)=true)(hk:b.kind≠.early)(hr:∀d,(execOp a.eval o).run P (w.at d)= .ok (.value v) (w'.at d))
 (hg:∀d,∃j,i3 F (w.at d) (w'.at d) j) (he:∀d,∀e∈(execOp a.eval o).events P (w.at d) #[],EvT F e) (h:E0 P main F Stop (G (b.at (a.put o.dst v) (.inRegion ops rest::kk)) cs) w'):
 E0 P main F Stop (G (b.at a (.inRegion ops (i::rest)::kk)) cs) w:=
 .step rfl fun d=>⟨_,_,_,stepG_value ho hw hk (hr d),⟨hg d,fun e hm=>he d e (mem_listed hm)⟩,h.at d⟩
theorem c0l{args:Array Operand}{vs:Array Value}(hop:o.op= .call {callee:=.value (.func f),args:=args,argTypes:=ats})(hx:args.map a.eval=vs):execOp a.eval o=callFunc f vs:=by
 have ef:a.eval (.func f)= .func (.func f) #[] #[]:=rfl
 unfold execOp
 subst hx
 simp[hop,resolve,Deferred.ofValue,invoke,ef]
theorem f0N(f:FuncId):EvT F ⟨.mark (.extern f),false,true⟩:=⟨fun h=>by simp at h,fun m h=>by cases h;exact .inr ⟨f,rfl⟩⟩
end
end
noncomputable section
variable {cs:List Frame}{main:Bool}{Stop:Goroutine→World→Prop}
section
variable{P:Program}{F:Fz}{w w':World}{main:Bool}{b:Frame}{a:Act}{kk:List Item}{cs:List Frame}{ops:Array Oper}{i:Nat}{rest:List Nat}{o:Oper}{Stop:Goroutine→World→Prop}{f:FuncId}{fn:Func}{ats:Array TypeId}{k:IntKind}
theorem f05{x:Operand}(ho:ops[i]? =some o)(hw:Region.wanted o (yielded ops a.tmps)=true)(hk:b.kind≠.early)(hop:o.op= .call {callee:=.value (.func f),args:= #[x],argTypes:=ats})
 (hf : P.funcs[f]? = some fn) (hname : (fn.name == "runtime.NumGoroutine") = false) (hb : fn.body.isNone = true) (hn : Extern.findNext fn = none)
 (he:Extern.find fn=some (Extern.Atomic.loadT (.int k))) {ad:Addr} {v:Int} (hx:a.eval x= .pointer (some ad)) (hc:w.cell? ad=some (.int k v))
 (h:E0 P main F Stop (G (b.at (a.put o.dst (.int k v)) (.inRegion ops rest::kk)) cs) w):E0 P main F Stop (G (b.at a (.inRegion ops (i::rest)::kk)) cs) w:=by
 have e1:execOp a.eval o=callFunc f #[.pointer (some ad)]:=c0l hop (by simp[hx])
 refine k0h (w':=w) ho hw hk (fun d=>?_) (fun d=>⟨0,i3.refl _ _⟩) (fun d e hm=>?_) h
 ·have hc':(w.at d).cell? ad=some (.int k v):=hc
  rw[e1,run_callFunc_extern hf hname hb hn he]
  change(Sem.run P (do Extern.Atomic.read (.int k) (← asAddr (.pointer (some ad)))) (w.at d)).andThen _=_
  simp[Extern.Atomic.read,asAddr,hc',Result.andThen]
 ·have hc':(w.at d).cell? ad=some (.int k v):=hc
  rw[e1,events_callFunc_extern hf hname hb hn he]at hm
  change e∈Sem.events P (do Extern.Atomic.read (.int k) (← asAddr (.pointer (some ad)))) (w.at d) _ at hm
  simp[Extern.Atomic.read,asAddr,hc',events_load]at hm
  rcases hm with rfl|rfl
  ·exact f0N f
  ·exact M0 _ _
theorem g08{x y z:Operand}(ho:ops[i]? =some o)(hw:Region.wanted o (yielded ops a.tmps)=true)(hk:b.kind≠.early)(hop:o.op= .call {callee:=.value (.func f),args:= #[x,y,z],argTypes:=ats})
 (hf : P.funcs[f]? = some fn) (hname : (fn.name == "runtime.NumGoroutine") = false) (hb : fn.body.isNone = true) (hn : Extern.findNext fn = none)
 (he:Extern.find fn=some (Extern.Atomic.casT (.int k))) {ad:Addr} {v u n:Int} {t:Bool} (ht:(v == u)=t) (hs:ad.spot=none) (hx:a.eval x= .pointer (some ad)) (hy:a.eval y= .int k u) (hz:a.eval z= .int k n) (hc:w.cell? ad=some (.int k v)) (hfz:w.frozen? ad=false) (hnh:¬held F ad)
 (h:E0 P main F Stop (G (b.at (a.put o.dst (.bool t)) (.inRegion ops rest::kk)) cs) (if t then w.setCell ad (.int k n)else w)):E0 P main F Stop (G (b.at a (.inRegion ops (i::rest)::kk)) cs) w:=by
 have e1:execOp a.eval o=callFunc f #[.pointer (some ad),.int k u,.int k n]:=c0l hop (by simp[hx,hy,hz])
 refine k0h (w':=if t then w.setCell ad (.int k n)else w) ho hw hk (fun d=>?_) (fun d=>?_) (fun d e hm=>?_) h
 ·have hc':(w.at d).cell? ad=some (.int k v):=hc
  have hz':(w.at d).frozen? ad=false:=hfz
  rw[e1,run_callFunc_extern hf hname hb hn he]
  change(Sem.run P (do
   let a' ← asAddr (.pointer (some ad))
   if ← Extern.Atomic.touchesFrozen a' then unsupported (.unsafePointer "a write to bytes that a string shares")
   let eq ← match Extern.Atomic.T.int k,← Extern.Atomic.read (.int k) a',Value.int k u with
    | _,.int _ x,.int _ y=>pure (x == y)
    | .ptr,.pointer x,.pointer y=>samePointer x y
    | .int _,.pointer (some _),.int _ 0| .int _,.int _ 0,.pointer (some _)=>pure false
    | .int _,.pointer (some _),_| .int _,_,.pointer (some _)=>unsupported .addressObserved
    | _, _, _ => stuck "atomic.CompareAndSwap: old is no T"
   if eq then store a' (.int k n) .atomic
   pure (Value.bool eq)) (w.at d)).andThen _=_
  have hv:if t=true then v=u else ¬v=u:=by cases t<;>simpa using ht
  cases t<;>simp only[if_true,Bool.false_eq_true,if_false]at hv<;>simp[Extern.Atomic.touchesFrozen,Extern.Atomic.read,asAddr,viewAt,World.shape?_isSome_of_cell? hc',hc',hz',hv,run_store P (w.at d) ad (.int k n) .atomic rfl,Result.andThen,setCell_at']
 ·cases t
  ·exact⟨0,i3.refl _ _⟩
  ·exact⟨0,by simpa [setCell_at']using M1 (w:=w.at d) hs hnh (.int k n)⟩
 ·have hc':(w.at d).cell? ad=some (.int k v):=hc
  have hz':(w.at d).frozen? ad=false:=hfz
  rw[e1,events_callFunc_extern hf hname hb hn he]at hm
  change e∈Sem.events P (do
   let a' ← asAddr (.pointer (some ad))
   if ← Extern.Atomic.touchesFrozen a' then unsupported (.unsafePointer "a write to bytes that a string shares")
   let eq ← match Extern.Atomic.T.int k,← Extern.Atomic.read (.int k) a',Value.int k u with
    | _,.int _ x,.int _ y=>pure (x == y)
    | .ptr,.pointer x,.pointer y=>samePointer x y
    | .int _,.pointer (some _),.int _ 0| .int _,.int _ 0,.pointer (some _)=>pure false
    | .int _,.pointer (some _),_| .int _,_,.pointer (some _)=>unsupported .addressObserved
    | _, _, _ => stuck "atomic.CompareAndSwap: old is no T"
   if eq then store a' (.int k n) .atomic
   pure (Value.bool eq)) (w.at d) _ at hm
  have hv:if t=true then v=u else ¬v=u:=by cases t<;>simpa using ht
  cases t<;>simp only[if_true,Bool.false_eq_true,if_false]at hv<;>simp[Extern.Atomic.touchesFrozen,Extern.Atomic.read,asAddr,viewAt,World.shape?_isSome_of_cell? hc',hc',hz',hv,events_load,run_store P (w.at d) ad (.int k n) .atomic rfl,events_store P (w.at d) _ ad (.int k n) .atomic rfl]at hm
  ·rcases hm with rfl|rfl
   ·exact f0N f
   ·exact M0 _ _
  ·rcases hm with rfl|rfl|rfl
   ·exact f0N f
   ·exact M0 _ _
   ·exact V0 _ _ hnh
end
variable{F:Fz}{w:World}
def x7:Code:=Tryd.f48.body.getD .skip
def x0C:=pC [] x7
def k0k:=pC [zt] x7
def r0T:=pC [zf] x7
def f0n:=pC [zf,zt] x7
theorem t07:f0n= .region 1 (oC f0n) false:=by kernel_rfl
theorem e05(args:Array Value):Frame.enter Tryd.prog 48 args .normal=(Go.Conc.base 48).at {tmps:=args++Array.replicate (6 - args.size) undef,defers:=[]} [.code x0C]:=enter_at args Tryd.func48 rfl
theorem O3:X0 48:=G1 Tryd.func48 rfl rfl
def G9:Code:=Tryd.f49.body.getD .skip
def u0t:=pC [] G9
def q0a:=pC [zt] G9
def u0u:=pC [zf] G9
def q0b:=pC [zf,zt] G9
theorem k0J(args:Array Value):Frame.enter Tryd.prog 49 args .normal=(Go.Conc.base 49).at {tmps:=args++Array.replicate (7 - args.size) undef,defers:=[]} [.code u0t]:=enter_at args Tryd.func49 rfl
theorem V4:X0 49:=G1 Tryd.func49 rfl rfl
def F9:Code:=Tryd.f61.body.getD .skip
def u0r:=pC [] F9
def p08:=pC [zt] F9
def u0s:=pC [zf] F9
def p09:=pC [zf,zt] F9
theorem k0I(args:Array Value):Frame.enter Tryd.prog 61 args .normal=(Go.Conc.base 61).at {tmps:=args++Array.replicate (13 - args.size) undef,defers:=[]} [.code u0r]:=enter_at args Tryd.func61 rfl
theorem x8:X0 61:=G1 Tryd.func61 rfl rfl
theorem i0o:X0 87:=G1 Tryd.func87 rfl rfl
theorem k0C (a : Addr) (w : World) : (callMethod (.iface 138 (.pointer (some a))) "Step" #[]).run Tryd.prog w = .ok (.enter 87 #[.pointer (some a)]) w := by kernel_rfl
theorem i0e (a : Addr) (w : World) (es : Array Event) : (callMethod (.iface 138 (.pointer (some a))) "Step" #[]).events Tryd.prog w es = es := by kernel_rfl
@[go_sem] theorem w0H(t:TypeId)(v:Value)(w:World)(es:Array Event):(binOp .neq 106 (.iface t v) .nilIface).events Tryd.prog w es=es:=by kernel_rfl
structure StK where
 t:TypeId
 f:FuncId
 cb:X0 f
 run : ∀ a w, (callMethod (.iface t (.pointer (some a))) "Step" #[]).run Tryd.prog w = .ok (.enter f #[.pointer (some a)]) w
 ev : ∀ a w es, (callMethod (.iface t (.pointer (some a))) "Step" #[]).events Tryd.prog w es = es
def stK:StK:=⟨138,87,i0o,k0C,i0e⟩
def d03(K:StK)(sa:Addr):Frame:=(Go.Conc.base 48).at ⟨#[.iface K.t (.pointer (some sa)),undef,.iface K.t (.pointer (some sa)),.bool true,.iface K.t (.pointer (some sa)),undef],[]⟩ [.inRegion (oC f0n) [1]]
theorem R1{K:StK}{sa:Addr}(h:E0 Tryd.prog main F Stop (G (Frame.enter Tryd.prog K.f #[.pointer (some sa)] .normal) (d03 K sa::cs)) w):
 E0 Tryd.prog main F Stop (G (Frame.enter Tryd.prog 48 #[.iface K.t (.pointer (some sa))] .normal) cs) w:=by
 rw[e05]
 walk_nrm
 refine ogW k0k r0T ?_
 simp only[k0k,x7,Tryd.f48,zz,Nat.reduceAdd]
 iterate 2 refine oT ?_
 refine I0<|ogYn f0n ?_
 rw[t07]
 refine ogR ?_
 simp only[f0n,x7,Tryd.f48,zz,Nat.reduceAdd]
 refine oT ?_
 refine j6 (f:=K.f) (args:= #[.pointer (some sa)]) rfl rfl (by decide) (fun w=>by simp[execOp,Act.eval,resolve,invoke,Deferred.ofValue,K.cb.run,K.run]) (fun w=>by simp[execOp,Act.eval,resolve,invoke,Deferred.ofValue,K.cb.run,K.cb.quiet,K.run,K.ev]) ?_
 exact h
theorem Y2{K:StK}{sa:Addr}{c:Frame}(h:E0 Tryd.prog main F Stop (G (c.finish (.tuple #[])) cs) w):
 E0 Tryd.prog main F Stop (G ((d03 K sa).finish (.tuple #[])) (c::cs)) w:=by
 unfold d03
 rw[Frame.finish_at]
 simp only[f0n,x7,Tryd.f48,zz,Nat.reduceAdd]
 walk_nrm
 refine I0 ?_
 refine G0 rfl (fun d=>stepG_end) ?_
 refine G0 rfl (fun d=>stepG_leave (fn:=Tryd.f48) (v:=.tuple #[]) rfl rfl Tryd.func48 (by simp[results,Tryd.f48]) (by simp[results,Tryd.f48,go_sem])) ?_
 exact h
theorem C8{ad:Addr}{v:Int}(hc:w.cell? ad=some (.int .u64 v))(hs:ad.spot=none){c:Frame}(h:E0 Tryd.prog main F Stop (G (c.finish (.int .u64 v)) cs) (w)):
 E0 Tryd.prog main F Stop (G (Frame.enter Tryd.prog 49 #[.pointer (some ad)] .normal) (c::cs)) w:=by
 obtain⟨ab,ao,asp⟩:=ad
 simp only at hs
 subst hs
 rw[k0J]
 walk_nrm
 refine ogW q0a u0u ?_
 simp only[q0a,G9,Tryd.f49,zz,Nat.reduceAdd]
 refine oT ?_
 refine I0<|ogW q0b .ret ?_
 simp only[q0b,G9,Tryd.f49,zz,Nat.reduceAdd]
 iterate 3 refine oT ?_
 refine f05 (k:=.u64) (f:=62) (fn:=Tryd.f62) rfl rfl (by decide) rfl Tryd.func62 rfl rfl rfl rfl rfl hc ?_
 walk_nrm
 refine oT ?_
 refine I0<|ogX ?_
 refine G0 rfl (fun d=>stepG_leave (fn:=Tryd.f49) (v:=.int .u64 v) rfl rfl Tryd.func49 (by simp[results,Tryd.f49]) (by simp[results,Tryd.f49,go_sem])) ?_
 exact h
theorem b0f{ad:Addr}{v u n:Int}{t:Bool}(ht:(v == u)=t)(hc:w.cell? ad=some (.int .u64 v))(hs:ad.spot=none)(hz:w.frozen? ad=false)(hnh:¬held F ad){c:Frame}(h:E0 Tryd.prog main F Stop (G (c.finish (.bool t)) cs) (if t then w.setCell ad (.int .u64 n)else w)):
 E0 Tryd.prog main F Stop (G (Frame.enter Tryd.prog 61 #[.pointer (some ad),.int .u64 u,.int .u64 n] .normal) (c::cs)) w:=by
 obtain⟨ab,ao,asp⟩:=ad
 simp only at hs
 subst hs
 rw[k0I]
 walk_nrm
 refine ogW p08 u0s ?_
 simp only[p08,F9,Tryd.f61,zz,Nat.reduceAdd]
 refine oT ?_
 refine I0<|ogW p09 .ret ?_
 simp only[p09,F9,Tryd.f61,zz,Nat.reduceAdd]
 iterate 5 refine oT ?_
 refine g08 (k:=.u64) (f:=68) (fn:=Tryd.f68) rfl rfl (by decide) rfl Tryd.func68 rfl rfl rfl rfl ht rfl rfl rfl rfl hc hz hnh ?_
 walk_nrm
 refine oT ?_
 refine I0<|ogX ?_
 refine G0 rfl (fun d=>stepG_leave (fn:=Tryd.f61) (v:=.bool t) rfl rfl Tryd.func61 (by simp[results,Tryd.f61]) (by simp[results,Tryd.f61,go_sem])) ?_
 exact h
end
section
variable{F:Fz}{w:World}
def d8(w:World)(ab:Nat)(b:Bool)(n:Int):World:=((w.setCell ⟨ab,0,none⟩ (.bool b)).setCell ⟨ab,1,none⟩ (vI n)).setCell ⟨ab,2,none⟩ (.slice none 0 0)
theorem I5{ab:Nat}(h:∀k,¬held F ⟨ab,k,none⟩)(x y z:Value):i3 F w (((w.setCell ⟨ab,0,none⟩ x).setCell ⟨ab,1,none⟩ y).setCell ⟨ab,2,none⟩ z) 0:=
 ((M1 rfl (h 0) x).trans (M1 rfl (h 1) y)).trans (M1 rfl (h 2) z)
structure C9(w:World)(ab:Nat):Prop where
 o:∃x y z,w.heap[ab]? =some (.cells #[x,y,z] 49 (0,0))
theorem C9.c{ab:Nat}(h:C9 w ab):∃x y z,w.cell? ⟨ab,0,none⟩=some x∧w.cell? ⟨ab,1,none⟩=some y∧w.cell? ⟨ab,2,none⟩=some z:=by
 obtain⟨x,y,z,h⟩:=h.o
 exact⟨x,y,z,by simp[World.cell?,h],by simp[World.cell?,h],by simp[World.cell?,h]⟩
theorem C9.z{ab:Nat}(h:C9 w ab)(k:Nat):w.frozen? ⟨ab,k,none⟩=false:=by
 obtain⟨x,y,z,h⟩:=h.o
 simp[World.frozen?,h]
theorem j0B(b:Bool):Tryd.prog.built 49 [(0,.bool b)]=some #[.bool b,vI 0,.slice none 0 0]:=by kernel_rfl
@[go_sem] theorem r0W(b:Bool)(w:World):(Instr.build 49 #[(0,.bool b)]).run Tryd.prog w= .ok (.agg #[.bool b,vI 0,.slice none 0 0]) w:=run_build w _ _ _ (j0B b)
@[go_sem] theorem s05(b:Bool)(w:World)(es:Array Event):(Instr.build 49 #[(0,.bool b)]).events Tryd.prog w es=es:=E4 w es _ _ _ _ Tryd.underlying49 (j0B b)
theorem g0K(b:Bool)(n:Int):Tryd.prog.built 49 [(0,.bool b),(1,vI n)]=some #[.bool b,vI n,.slice none 0 0]:=by kernel_rfl
@[go_sem] theorem p0R(b:Bool)(n:Int)(w:World):(Instr.build 49 #[(0,.bool b),(1,vI n)]).run Tryd.prog w= .ok (.agg #[.bool b,vI n,.slice none 0 0]) w:=run_build w _ _ _ (g0K b n)
@[go_sem] theorem r0o(b:Bool)(n:Int)(w:World)(es:Array Event):(Instr.build 49 #[(0,.bool b),(1,vI n)]).events Tryd.prog w es=es:=E4 w es _ _ _ _ Tryd.underlying49 (g0K b n)
theorem g0L:Tryd.prog.built 49 []=some #[.bool false,vI 0,.slice none 0 0]:=by kernel_rfl
@[go_sem] theorem p0S(w:World):(Instr.build 49 #[]).run Tryd.prog w= .ok (.agg #[.bool false,vI 0,.slice none 0 0]) w:=run_build w _ _ _ g0L
@[go_sem] theorem r0p(w:World)(es:Array Event):(Instr.build 49 #[]).events Tryd.prog w es=es:=E4 w es _ _ _ _ Tryd.underlying49 g0L
end
noncomputable section
variable {cs:List Frame}{main:Bool}{Stop:Goroutine→World→Prop}
variable{F:Fz}{w:World}
theorem g0Y{ab:Nat}(h:∀k,¬held F ⟨ab,k,none⟩)(x y z u:Value):i3 F w ((((w.setCell ⟨ab,0,none⟩ x).setCell ⟨ab,1,none⟩ y).setCell ⟨ab,2,none⟩ z).setCell ⟨ab,3,none⟩ u) 0:=
 (I5 h x y z).trans (M1 rfl (h 3) u)
theorem p0A(X:World)(x y z u x' y' z' u':Value):((((X.alloc (.cells #[x,y,z,u] 44)).setCell ⟨X.heap.size,0,none⟩ x').setCell ⟨X.heap.size,1,none⟩ y').setCell ⟨X.heap.size,2,none⟩ z').setCell ⟨X.heap.size,3,none⟩ u'=X.alloc (.cells #[x',y',z',u'] 44):=by go_simp
@[go_sem] theorem u0j(f:Fn)(x c:Array Value)(w:World)(es:Array Event):(binOp .neq 74 (.func f x c) .nilFunc).events Tryd.prog w es=es:=by kernel_rfl
def P3:Code:=Tryd.f63.body.getD .skip
def y0s:=pC [] P3
def v0Z:=pC [zt] P3
def s0S:=pC [zf] P3
def s0U:=pC [zt] s0S
def H7:=pC [zt] s0U
def o08:=pC [zf,zt,zt,zt] P3
def o09:=pC [zf] H7
def r0e:=pC [zt] o09
def s0V:=pC [zf] o09
def s0T:=pC [zt] s0V
def v06:=pC [zt] s0T
def v00:=pC [zf,zt,zt,zf,zf,zt,zt,zt] P3
def v07:=pC [zf] v06
def v01:=pC [zf,zt,zt,zf,zf,zt,zt,zf,zt] P3
def v08:=pC [zf] v07
def v09:=pC [zt] v08
def v02:=pC [zf,zt,zt,zf,zf,zt,zt,zf,zf,zt,zt] P3
def v0X:=pC [zf] v09
def g0Q:=pC [zf,zt,zt,zf,zf,zt,zt,zf,zf,zt,zf,zt] P3
def c0C:=pC [zf,zt,zt,zf,zf,zt,zt,zf,zf,zf] P3
def d0u:=pC [zf,zt,zt,zf,zf,zf] P3
theorem v0V:s0S= .block 0 s0U:=by kernel_rfl
theorem v0Y:s0U= .loop H7:=by kernel_rfl
theorem v0W:s0T= .block 1 v06:=by kernel_rfl
theorem v03:g0Q= .region 5 (oC g0Q) false:=by kernel_rfl
theorem v04:c0C= .region 6 (oC c0C) true:=by kernel_rfl
theorem v05:d0u= .region 7 (oC d0u) false:=by kernel_rfl
theorem m08(args:Array Value):Frame.enter Tryd.prog 63 args .normal=(Go.Conc.base 63).at {tmps:=args++Array.replicate (33 - args.size) undef,defers:=[]} [.code y0s]:=enter_at args Tryd.func63 rfl
theorem i0m:X0 63:=G1 Tryd.func63 rfl rfl
def dgT(s:Nat→Value):Array Value:= #[s 0,s 1,s 2,s 3,s 4,s 5,s 6,s 7,s 8,s 9,s 10,s 11,s 12,s 13,s 14,s 15,s 16,s 17,s 18,s 19,s 20,s 21,s 22,s 23,s 24,s 25,s 26,s 27,s 28,s 29,s 30,s 31,s 32]
theorem y0o{A:Array Value}(h:A.size=33):∃s,A=dgT s:=by
 obtain⟨s,hs,_⟩:=F3 A h
 exact⟨s,hs⟩
theorem y0p{sv:Value}{ob db ib av:Nat}{oa:Option Addr}{ol oc:Nat}(c1:w.cell? ⟨ob,0,none⟩=some (.slice oa ol oc))(z1:w.frozen? ⟨ob,0,none⟩=false)
 (h:∀A,D0 33 A [(0,sv),(1,vP ob 0),(2,vP db 0),(3,vP ib 0),(4,vP av 0),(9,.slice oa ol oc),(10,vI ol),(11,vI (0:Nat))]→E0 Tryd.prog main F Stop (G (bA 63 A [.code H7,.inLoop H7,.inBlock 0]) cs) w):
 E0 Tryd.prog main F Stop (G (Frame.enter Tryd.prog 63 #[sv,vP ob 0,vP db 0,vP ib 0,vP av 0] .normal) cs) w:=by
 rw[m08]
 walk_nrm
 refine ogW v0Z s0S ?_
 simp only[v0Z,P3,Tryd.f63,zz,Nat.reduceAdd]
 refine oL ?_
 iterate 2 refine oT ?_
 refine I0 ?_
 rw[v0V]
 refine K5 ?_
 rw[v0Y]
 refine ogP ?_
 refine h _ ?_
 exact⟨rfl,rfl,rfl,rfl,rfl,rfl,rfl,rfl,rfl,trivial⟩
theorem y0r{sv:Value}{ob db ib av:Nat}{oa:Option Addr}{ol oc:Nat}{A:Array Value}(hA:D0 33 A [(0,sv),(1,vP ob 0),(2,vP db 0),(3,vP ib 0),(4,vP av 0),(9,.slice oa ol oc),(10,vI ol),(11,vI ol)]){c:Frame}
 (h:E0 Tryd.prog main F Stop (G (c.finish (.tuple #[])) cs) w):
 E0 Tryd.prog main F Stop (G (bA 63 A [.code H7,.inLoop H7,.inBlock 0]) (c::cs)) w:=by
 obtain⟨s,rfl,h0,h1,h2,h3,h4,h9,h10,h11,_⟩:=D5 dgT hA
 simp only[dgT,h0,h1,h2,h3,h4,h9,h10,h11]
 clear h0 h1 h2 h3 h4 h9 h10 h11
 have hlt:decide ((ol:Int)<(ol:Int))=false:=by simp
 refine ogW o08 o09 ?_
 simp only[o08,P3,Tryd.f63,zz,Nat.reduceAdd]
 refine oT ?_
 refine I0<|ogV r0e s0V<|ogGn (.exit 0) ?_
 refine G0 rfl (fun d=>stepG_exit rfl) ?_
 refine G0 rfl (fun d=>stepG_end) ?_
 refine G0 rfl (fun d=>stepG_leave (fn:=Tryd.f63) (v:=.tuple #[]) rfl rfl Tryd.func63 (by simp[results,Tryd.f63]) (by simp[results,Tryd.f63,go_sem])) ?_
 exact h
theorem y0q{n:Nat}(hU:Q1 F n)(hn:n≤w.heap.size){sv:Value}{ob db ib av:Nat}{opb oo ol oc k df:Nat}{i:Nat}{kd a b c0:Int}{first capt:Array Value}(hdf:X0 df)(hkl:k<ol)(hol:ol≤65536)(cd:w.cell? ⟨db,0,none⟩=some (.func (.func df) first capt))(zd:w.frozen? ⟨db,0,none⟩=false)(ci:w.cell? ⟨ib,0,none⟩=some (vI i))(zi:w.frozen? ⟨ib,0,none⟩=false)(ld:db<w.heap.size)(li:ib<w.heap.size)(f0:w.cell? ⟨opb,oo+k*4,none⟩=some (vI kd))(f1:w.cell? ⟨opb,oo+k*4+1,none⟩=some (vI a))(f2:w.cell? ⟨opb,oo+k*4+2,none⟩=some (vI b))(f3:w.cell? ⟨opb,oo+k*4+3,none⟩=some (vI c0))(g0:w.frozen? ⟨opb,oo+k*4,none⟩=false)(g1:w.frozen? ⟨opb,oo+k*4+1,none⟩=false)(g2:w.frozen? ⟨opb,oo+k*4+2,none⟩=false)(g3:w.frozen? ⟨opb,oo+k*4+3,none⟩=false){A:Array Value}(hA:D0 33 A [(0,sv),(1,vP ob 0),(2,vP db 0),(3,vP ib 0),(4,vP av 0),(9,vL opb oo ol oc),(10,vI ol),(11,vI k)])
 (h:∀A,D0 33 A [(0,sv),(1,vP ob 0),(2,vP db 0),(3,vP ib 0),(4,vP av 0),(7,vP w.heap.size 0),(8,vP (w.heap.size+1) 0),(9,vL opb oo ol oc),(10,vI ol),(11,vI k)]→E0 Tryd.prog main F Stop (G (Frame.enter Tryd.prog df (first++ #[sv,vI i,.agg #[vI kd,vI a,vI b,vI c0]]++capt) .normal) ((bA 63 A [.inRegion (oC g0Q) [4,5],.code c0C,.inBlock 1,.code d0u,.inLoop H7,.inBlock 0])::cs)) ((w.alloc (.cells #[vI kd,vI a,vI b,vI c0] 44)).alloc (.cells #[.bool false,vI 0,.slice none 0 0] 49))):
 E0 Tryd.prog main F Stop (G (bA 63 A [.code H7,.inLoop H7,.inBlock 0]) cs) w:=by
 obtain⟨s,rfl,h0,h1,h2,h3,h4,h9,h10,h11,_⟩:=D5 dgT hA
 simp only[dgT,h0,h1,h2,h3,h4,h9,h10,h11]
 clear h0 h1 h2 h3 h4 h9 h10 h11
 have hlt:decide ((k:Int)<(ol:Int))=true:=by simp;omega
 have hlt2:decide (k<ol)=true:=by simp;omega
 refine ogW o08 o09 ?_
 simp only[o08,P3,Tryd.f63,zz,Nat.reduceAdd]
 refine oT ?_
 refine I0<|ogV r0e s0V<|ogYn .skip<|ogK<|ogV s0T d0u ?_
 rw[v0W]
 refine K5<|ogW v00 v07 ?_
 simp only[v00,P3,Tryd.f63,zz,Nat.reduceAdd]
 refine oX ?_
 (refine oW fun dd K hK=>?_;go_simp;refine hK _ _ ⟨⟨⟨0,i3.refl _ _⟩,fun e he=>by(have hm:=mem_listed he;clear he hK;simp[go_sem,f0,f1,f2,f3,g0,g1,g2,g3]at hm;rcases hm with rfl|rfl|rfl|rfl<;>exact M0 _ _)⟩,E0.at ?_ dd⟩;clear hK K)
 refine oA hU ?_
 (refine oW fun dd K hK=>?_;go_simp;refine hK _ _ ⟨⟨⟨0,g0Y (fun k=>P2 hU (show n≤w.heap.size by omega)) _ _ _ _⟩,fun e he=>by(have hm:=mem_listed he;clear he hK;simp[go_sem,storedEv]at hm;rcases hm with rfl|rfl|rfl|rfl<;>exact V0 _ _ ((fun k=>P2 hU (show n≤w.heap.size by omega)) _))⟩,?_⟩;clear hK K;simp only[setCell_at'];refine E0.at ?_ dd)
 have e1:=p0A w (vI 0) (vI 0) (vI 0) (vI 0) (vI kd) (vI a) (vI b) (vI c0)
 rw[e1]
 clear e1
 refine I0<|ogW v01 v08 ?_
 simp only[v01,P3,Tryd.f63,zz,Nat.reduceAdd]
 refine oA hU ?_
 refine I0<|ogV v09 c0C<|ogW v02 v0X ?_
 simp only[v02,P3,Tryd.f63,zz,Nat.reduceAdd]
 refine oL ?_
 refine oT ?_
 refine I0<|ogYn g0Q ?_
 rw[v03]
 refine ogR ?_
 simp only[g0Q,P3,Tryd.f63,zz,Nat.reduceAdd]
 refine oL ?_
 refine oT ?_
 refine oL ?_
 (refine oW fun dd K hK=>?_;go_simp;refine hK _ _ ⟨⟨⟨0,i3.refl _ _⟩,fun e he=>by(have hm:=mem_listed he;clear he hK;simp[go_sem]at hm;rcases hm with rfl|rfl|rfl|rfl<;>exact M0 _ _)⟩,E0.at ?_ dd⟩;clear hK K)
 refine j6 (f:=df) (args:=first++ #[sv,vI i,.agg #[vI kd,vI a,vI b,vI c0]]++capt) rfl rfl (by decide) (fun w=>by simp[execOp,Act.eval,resolve,invoke,Deferred.ofValue,hdf.run]) (fun w=>by simp[execOp,Act.eval,resolve,invoke,Deferred.ofValue,hdf.run,hdf.quiet]) ?_
 refine h _ ?_
 exact⟨rfl,rfl,rfl,rfl,rfl,rfl,rfl,rfl,rfl,rfl,rfl,trivial⟩
end
section
variable{F:Fz}{w w':World}
theorem t0d:∃i,Tryd.prog.info? 49=some i∧i.zero=some (.agg #[.bool false,vI 0,.slice none 0 0])∧i.size=3∧i.bytes=40:=by
 have h:(Tryd.prog.info? 49).map (fun i=>(i.size,i.bytes))=some (3,40):=by kernel_rfl
 have h0:(Tryd.prog.info? 49).bind (·.zero)=some (.agg #[.bool false,vI 0,.slice none 0 0]):=by kernel_rfl
 obtain⟨i,hi,h1⟩:=Option.map_eq_some_iff.1 h
 rw[hi]at h0
 simp only[Prod.mk.injEq]at h1
 exact⟨i,hi,h0,h1.1,h1.2⟩
theorem d0s(w:World)(x y z:Value)(t:TypeId):∀j u,[x,y,z][j]? =some u→(w.alloc (.cells #[x,y,z] t)).cell? ((⟨w.heap.size,0,none⟩:Addr).add j)=some u:=by
 intro j u h
 have hb:=heap_alloc_new w (.cells #[x,y,z] t)
 have e:(⟨w.heap.size,0,none⟩:Addr).add j=⟨w.heap.size,j,none⟩:=by cases j<;>simp[Addr.add]
 rw[e]
 unfold World.cell?
 simp only
 rw[hb]
 simpa using h
theorem f0d{j r:Nat}(hg:i3 F w w' j)(h:(T0 F w').heap[r]? =(T0 F w).heap[r]?)(hr:r<w.heap.size):w'.heap[r]? =w.heap[r]?:=by
 rw[Z2,Z2]at h
 obtain⟨o,ho⟩:∃o,w.heap[r]? =some o:=⟨_,Array.getElem?_eq_getElem hr⟩
 rcases hg.objs r o ho with⟨c,e,z,c',rfl,h2,_⟩|h2
 ·rw[ho,h2]at h
  simp only[Option.map_some,D2,Option.some.injEq,Obj.cells.injEq,and_true]at h
  rw[ho,h2,h]
 ·rw[ho,h2]
theorem a0L{P:Program}{main:Bool}{F2:Fz}{Stop:Goroutine→World→Prop}{g:Goroutine}(hF:∀a,held F a→held F2 a)(h:E0 P main F2 Stop g w):E0 P main F Stop g w:=by
 induction h with
 | stop h=>exact .stop h
 | step' hr g' w' es hs hg _ ih=>
   exact .step' hr g' w' es hs (fun d=>by
    obtain⟨⟨j,h1⟩,h2⟩:=hg d
    exact⟨⟨j,h1.tape,h1.drawn,h1.os,h1.output,h1.size,h1.objs,fun a ha=>h1.keep a (hF a ha)⟩,fun e he=>⟨fun hw=>by obtain⟨a,e1,e2⟩:=(h2 e he).1 hw;exact⟨a,e1,fun x=>e2 (hF a x)⟩,(h2 e he).2⟩⟩) ih
structure SG(F:Fz)(av ib aa ab n i:Nat)(v x y z:Value)(u:World):Prop where
 wf:Wf F u
 la0:Y0 u ⟨av,0,none⟩ (vL aa 0 n n)
 li0:Y0 u ⟨ib,0,none⟩ (vI i)
 arr:∃c,u.heap[aa]? =some (.cells c 55 (0,0))∧c[i]? =some v
 an:u.heap[ab]? =some (.cells #[x,y,z] 49 (0,0))
section
variable{av ib aa ab n i:Nat}{v x y z:Value}{u:World}
theorem SG.at(h:SG F av ib aa ab n i v x y z u)(d:Nat):SG F av ib aa ab n i v x y z (u.at d):=⟨⟨h.wf.own⟩,h.la0.at d,h.li0.at d,h.arr,h.an⟩
theorem SG.la(h:SG F av ib aa ab n i v x y z u):Y0 u ⟨aa,i,none⟩ v:=by obtain⟨c,h1,h2⟩:=h.arr;exact⟨⟨c,_,h1,h2⟩,rfl⟩
theorem SG.alloc{nn:Nat}(hU:Q1 F nn)(ht:nn≤u.heap.size)(h:SG F av ib aa ab n i v x y z u)(o:Obj):SG F av ib aa ab n i v x y z (u.alloc o):=
 ⟨h.wf.of_grew (L0 hU ht o),h.la0.alloc o,h.li0.alloc o,by obtain⟨c,h1,h2⟩:=h.arr;exact⟨c,(o0 _ _ (D4 h1)).trans h1,h2⟩,(o0 _ _ (Array.getElem?_eq_some_iff.1 h.an).1).trans h.an⟩
theorem SG.ca(h:SG F av ib aa ab n i v x y z u):u.cell? ⟨av,0,none⟩=some (vL aa 0 n n):=h.la0.c
theorem SG.za(h:SG F av ib aa ab n i v x y z u):u.frozen? ⟨av,0,none⟩=false:=h.la0.z
theorem SG.ci(h:SG F av ib aa ab n i v x y z u):u.cell? ⟨ib,0,none⟩=some (vI i):=h.li0.c
theorem SG.zi(h:SG F av ib aa ab n i v x y z u):u.frozen? ⟨ib,0,none⟩=false:=h.li0.z
theorem SG.cl(h:SG F av ib aa ab n i v x y z u):u.cell? ⟨aa,i,none⟩=some v:=h.la.c
theorem SG.zl(h:SG F av ib aa ab n i v x y z u):u.frozen? ⟨aa,i,none⟩=false:=h.la.z
theorem SG.c0(h:SG F av ib aa ab n i v x y z u):u.cell? ⟨ab,0,none⟩=some x:=by simp[World.cell?,h.an]
theorem SG.c1(h:SG F av ib aa ab n i v x y z u):u.cell? ⟨ab,1,none⟩=some y:=by simp[World.cell?,h.an]
theorem SG.c2(h:SG F av ib aa ab n i v x y z u):u.cell? ⟨ab,2,none⟩=some z:=by simp[World.cell?,h.an]
theorem SG.zz(h:SG F av ib aa ab n i v x y z u)(k:Nat):u.frozen? ⟨ab,k,none⟩=false:=by simp[World.frozen?,h.an]
end
structure a0n(F:Fz)(aa ab i m:Nat)(v x y z:Value)(xs:List Value)(w w':World)(v':Value):Prop where
 wf:Wf F w'
 row:w'.ownsRow 0 49 3 v' (m+1) (xs++[x,y,z])
 arr:∀c,w.heap[aa]? =some (.cells c 55 (0,0))→w'.heap[aa]? =some (.cells (c.setIfInBounds i v') 55 (0,0))
 size:w.heap.size≤w'.heap.size
 own:∀b,Value.ownBlock v'=some b→some b=Value.ownBlock v∨w.heap.size≤b
 old:∀r,r<w.heap.size→r≠aa→some r≠Value.ownBlock v→w'.heap[r]? =w.heap[r]?
theorem v0S{sv:Value}{ansb:Bool}{ansn:Int}{la:Option Addr}{ll lc:Nat}{ob db ib av ab k:Nat}{oa:Option Addr}{ol oc:Nat}(ha:C9 w ab)(hnh:∀k,¬held F ⟨ab,k,none⟩){A:Array Value}(hA:D0 33 A [(0,sv),(1,vP ob 0),(2,vP db 0),(3,vP ib 0),(4,vP av 0),(8,vP ab 0),(9,.slice oa ol oc),(10,vI ol),(11,vI k)]){cs:List Frame}{main:Bool}{Stop:Goroutine→World→Prop}
 (h:∀A,D0 33 A [(0,sv),(1,vP ob 0),(2,vP db 0),(3,vP ib 0),(4,vP av 0),(8,vP ab 0),(9,.slice oa ol oc),(10,vI ol),(11,vI k)]→E0 Tryd.prog main F Stop (G (bA 63 A [.code c0C,.inBlock 1,.code d0u,.inLoop H7,.inBlock 0]) cs) (((w.setCell ⟨ab,0,none⟩ (.bool ansb)).setCell ⟨ab,1,none⟩ (vI ansn)).setCell ⟨ab,2,none⟩ (.slice la ll lc))):
 E0 Tryd.prog main F Stop (G ((bA 63 A [.inRegion (oC g0Q) [4,5],.code c0C,.inBlock 1,.code d0u,.inLoop H7,.inBlock 0]).finish (.agg #[.bool ansb,vI ansn,.slice la ll lc])) cs) w:=by
 obtain⟨s,rfl,h0,h1,h2,h3,h4,h8,h9,h10,h11,_⟩:=D5 dgT hA
 simp only[dgT,h0,h1,h2,h3,h4,h8,h9,h10,h11]
 clear h0 h1 h2 h3 h4 h8 h9 h10 h11
 obtain⟨x0,x1,x2,c0,c1,c2⟩:=ha.c
 have z0:=ha.z 0
 have z1:=ha.z 1
 have z2:=ha.z 2
 rw[Frame.finish_at]
 simp only[g0Q,P3,Tryd.f63,zz,Nat.reduceAdd]
 walk_nrm
 (refine oW fun dd K hK=>?_;go_simp;refine hK _ _ ⟨⟨⟨0,I5 hnh _ _ _⟩,fun e he=>by(have hm:=mem_listed he;clear he hK;simp[go_sem,storedEv,c0,c1,c2,z0,z1,z2]at hm;rcases hm with rfl|rfl|rfl<;>exact V0 _ _ (hnh _))⟩,?_⟩;clear hK K;simp only[setCell_at'];refine E0.at ?_ dd)
 refine I0 ?_
 refine h _ ?_
 exact⟨rfl,rfl,rfl,rfl,rfl,rfl,rfl,rfl,rfl,rfl,trivial⟩
theorem v0T{nn:Nat}(hU:Q1 F nn)(htop:nn≤w.heap.size){sv x y z v:Value}{xs:List Value}(hx:x.oneCell'=true∧y.oneCell'=true∧z.oneCell'=true){ob db ib av aa ab n i k m:Nat}{oa:Option Addr}{ol oc:Nat}(hin:i<n)(hm:m<65536)
 (hs:SG F av ib aa ab n i v x y z w) (hrow:w.ownsRow 0 49 3 v m xs) (hFa:F aa=none) (hFv:∀b,Value.ownBlock v=some b→F b=none) (hne:some aa≠Value.ownBlock v∧some ab≠Value.ownBlock v∧some av≠Value.ownBlock v∧some ib≠Value.ownBlock v) (hall:∀r c e z0,w.heap[r]? =some (.cells c e z0)→r≠aa→some r≠Value.ownBlock v→0<c.size→∃z,F r=some z∧z≠(0,0)) {A:Array Value} (hA:D0 33 A [(0,sv),(1,vP ob 0),(2,vP db 0),(3,vP ib 0),(4,vP av 0),(8,vP ab 0),(9,.slice oa ol oc),(10,vI ol),(11,vI k)]) {cs:List Frame} {main:Bool} {Stop:Goroutine→World→Prop} {kk:List Item}
 (h:∀(w':World) (v':Value) (A:Array Value),a0n F aa ab i m v x y z xs w w' v'→D0 33 A [(0,sv),(1,vP ob 0),(2,vP db 0),(3,vP ib 0),(4,vP av 0),(8,vP ab 0),(9,.slice oa ol oc),(10,vI ol),(11,vI k)]→E0 Tryd.prog main F Stop (G (bA 63 A kk) cs) w'):
 E0 Tryd.prog main F Stop (G (bA 63 A (.code c0C::kk)) cs) w:=by
 obtain⟨s,rfl,h0,h1,h2,h3,h4,h8,h9,h10,h11,_⟩:=D5 dgT hA
 simp only[dgT,h0,h1,h2,h3,h4,h8,h9,h10,h11]
 clear h0 h1 h2 h3 h4 h8 h9 h10 h11
 have hS:∀u d,SG F av ib aa ab n i v x y z u→SG F av ib aa ab n i v x y z (World.at u d):=fun u d h=>h.at d
 rw[v04]
 refine U5 (SG F av ib aa ab n i v x y z) (last:=10) K2 (Q6 (by kernel_rfl)) (by decide) ?_
 simp only[c0C,P3,Tryd.f63,zz,Nat.reduceAdd]
 have hZ:∀a u d,E0 Tryd.prog main F Stop (G ((Go.Conc.base 63).at a (.inRegion (oC c0C) [10]::kk)) cs) u→E0 Tryd.prog main F Stop (G ((Go.Conc.base 63).at a (.inRegion (oC c0C) [10]::kk)) cs) (World.at u d):=fun a u d h=>h.at d
 simp only[c0C,P3,Tryd.f63,zz,Nat.reduceAdd]at hZ
 refine M8 0 (vL aa 0 n n) (fun u hu=>(And.intro hu.ca hu.za)) hS hs ?_ hZ
 walk_nrm
 refine M8 1 (vI i) (fun u hu=>(And.intro hu.ci hu.zi)) hS hs ?_ hZ
 walk_nrm
 refine M8 2 (vL aa 0 n n) (fun u hu=>(And.intro hu.ca hu.za)) hS hs ?_ hZ
 walk_nrm
 refine M8 3 (vI i) (fun u hu=>(And.intro hu.ci hu.zi)) hS hs ?_ hZ
 walk_nrm
 refine o0u 4 (vP aa i) (fun u hu=>hin) hS hs ?_ hZ
 walk_nrm
 refine M8 5 v (fun u hu=>(And.intro hu.cl hu.zl)) hS hs ?_ hZ
 walk_nrm
 refine M8 6 (.agg #[x,y,z]) (fun u hu=>(And.intro hu.c0 (And.intro hu.c1 (And.intro hu.c2 hu.zz)))) hS hs ?_ hZ
 walk_nrm
 refine V1 (r:=[7]) (by kernel_rfl) (by kernel_rfl) (fun i hi hil=>?_)
 simp only[List.mem_cons,List.not_mem_nil,or_false]at hi
 subst hi
 refine D3 rfl rfl (fun d K' hK'=>?_)
 go_simp
 refine hK' _ _ ⟨⟨⟨0,L0 hU (show nn≤(w.at d).heap.size from htop) _⟩,fun e he=>by(have hm:=mem_listed he;simp[go_sem]at hm)⟩,(hs.at d).alloc hU (show nn≤(w.at d).heap.size from htop) _,?_⟩
 clear hK' K'
 rw[alloc_at']
 refine U1 hS hZ _ _ _ _ ?_ d
 have hn4:=d0s w x y z 49
 have hb4:=heap_alloc_new w (.cells #[x,y,z] 49)
 have hW4:∀r,r<w.heap.size→(w.alloc (.cells #[x,y,z] 49)).heap[r]? =w.heap[r]?:=fun r hr=>o0 _ _ hr
 have hsz4:(w.alloc (.cells #[x,y,z] 49)).heap.size=w.heap.size+1:=by simp
 replace hs:=hs.alloc hU htop (.cells #[x,y,z] 49)
 generalize w.alloc (.cells #[x,y,z] 49)=W4 at*
 refine V1 (r:=[8]) (by kernel_rfl) (by kernel_rfl) (fun i hi hil=>?_)
 simp only[List.mem_cons,List.not_mem_nil,or_false]at hi
 subst hi
 obtain⟨i0,hi0,hz0,hz1,hz2⟩:=t0d
 have hFn:∀b,nn≤b→F b=none:=fun b hb=>by
  cases e:F b with
  | none=>rfl
  | some z=>exact absurd (hU b z e) (by omega)
 have hvlt:∀b,Value.ownBlock v=some b→b<w.heap.size:=fun b hb=>(hrow.lt b hb).2
 refine d0N (S':=fun _=>false) (px:=false) (ready0.shut false) (by simp) rfl rfl rfl hs.wf (fun d=>?_)
 have hrowm:(T0 F (W4.at d)).ownsRow 0 49 3 v m xs:=E1 hrow fun b hb hbn=>by
  rw[D1 (hFv b hb)]
  exact hW4 b (hvlt b hb)
 obtain⟨v',u,hr,hown,hgrow,_⟩:=run_append_own (P:=Tryd.prog) (T0 F (W4.at d)) 0 55 55 49 i0 _ 3 40 Tryd.underlying55 hi0 hz0 hz1 hz2 rfl (by decide) v m xs hrowm ⟨w.heap.size,0,none⟩ 1 1 [x,y,z] rfl
  (fun j u hu=>(C6 _).trans (hn4 j u hu)) (fun q hq=>by simp at hq;rcases hq with rfl|rfl|rfl;exact hx.1;exact hx.2.1;exact hx.2.2) (by unfold maxLen;omega) (by omega) (Nat.zero_le _)
 refine⟨v',u,Y5 (.tmp 27) (.tmp 29) 55 rfl rfl rfl hr,fun w' hu hg hwf'=>?_⟩
 subst hu
 obtain⟨jj,hgr⟩:=hg
 have hkeep:∀r,r<w.heap.size+1→some r≠Value.ownBlock v→w'.heap[r]? =W4.heap[r]?:=fun r h2 h3=>by
  have:=hgrow.block r (by rw[J3];show r<W4.heap.size;omega) h3
  have hlt:r<(W4.at d).heap.size:=show r<W4.heap.size by omega
  exact f0d (w:=W4.at d) hgr this hlt
 have P5:w.heap.size+1≤w'.heap.size:=by
  have:=hgrow.size
  rw[J3,J3]at this
  have h2:(W4.at d).heap.size=w.heap.size+1:=hsz4
  omega
 have hlav:=hs.la0.lt
 have hlib:=hs.li0.lt
 simp only at hlav hlib
 obtain⟨ca,har1,har2⟩:=hs.arr
 have hlaa:=(D4 har1)
 have hlab:=(Array.getElem?_eq_some_iff.1 hs.an).1
 have hs':SG F av ib aa ab n i v x y z w':=⟨hwf',hs.la0.same (hkeep av (by omega) hne.2.2.1),hs.li0.same (hkeep ib (by omega) hne.2.2.2),⟨ca,(hkeep aa (by omega) hne.1).trans har1,har2⟩,(hkeep ab (by omega) hne.2.1).trans hs.an⟩
 obtain⟨b1,cap1,cur1,rfl,hb1,hb2⟩:=c0A hown
 have hcur:0<cur1.size:=by
  rcases hown.2 with⟨_,h0⟩|⟨g3,cap3,cur3,h0,_,h3,h4,_,h5,_⟩
  ·omega
  ·cases h0
   rw[hb2]at h3
   cases h3
   omega
 have hb3:F b1=none∧w'.heap[b1]? =some (.cells cur1 49 (0,0))∧(some b1=Value.ownBlock v∨w.heap.size≤b1):=by
  by_cases hlt:b1<w.heap.size
  ·by_cases hv:some b1=Value.ownBlock v
   ·have hf:=hFv b1 hv.symm
    exact⟨hf,by rw[D1 hf]at hb2;exact hb2,.inl hv⟩
   ·exfalso
    have hk:=(hkeep b1 (by omega) hv).trans (hW4 b1 hlt)
    rw[Z2]at hb2
    obtain⟨o,ho⟩:∃o,w.heap[b1]? =some o:=⟨_,Array.getElem?_eq_getElem hlt⟩
    rw[hk,ho]at hb2
    cases o with
    | cells c e z0=>
      simp only[Option.map_some,D2,Option.some.injEq,Obj.cells.injEq]at hb2
      obtain⟨rfl,rfl,hz⟩:=hb2
      by_cases ha:b1=aa
      ·subst ha
       have h1:=(hW4 b1 hlt).symm.trans har1
       rw[ho]at h1
       simp only[Option.some.injEq,Obj.cells.injEq]at h1
       exact absurd h1.2.1 (by decide)
      ·obtain⟨z,hz1,hz2⟩:=hall b1 _ _ _ ho ha hv hcur
       rw[hz1]at hz
       exact hz2 hz
    | _=>simp[D2]at hb2
  ·have hf:=hFn b1 (by omega)
   exact⟨hf,by rw[D1 hf]at hb2;exact hb2,.inr (by omega)⟩
 obtain⟨hfb,hb3,hb4⟩:=hb3
 have hrow':w'.ownsRow 0 49 3 (vL b1 0 (m+1) cap1) (m+1) (xs++[x,y,z]):=E1 hown fun b hb hbn=>by
  simp only[Value.ownBlock,Option.some.injEq]at hb
  subst hb
  exact(D1 hfb).symm
 have nb1:b1≠aa:=by
  rintro rfl
  have h1:=(hkeep b1 (by omega) hne.1).trans har1
  rw[hb3]at h1
  simp only[Option.some.injEq,Obj.cells.injEq]at h1
  exact absurd h1.2.1 (by decide)
 refine⟨hs',?_⟩
 clear hs
 have hs:=hs'
 walk_nrm
 refine o0u 9 (vP aa i) (fun u hu=>hin) hS hs ?_ hZ
 walk_nrm
 refine T3 (by kernel_rfl) ?_ _
 have cl:=hs'.cl
 have zl:=hs'.zl
 have hnh:¬held F ⟨aa,i,none⟩:=W7 hFa
 clear hZ hS hr hown hgrow hrowm hall
 (refine oW fun dd K hK=>?_;go_simp;refine hK _ _ ⟨⟨⟨0,M1 rfl hnh _⟩,fun e he=>by(have hm:=mem_listed he;clear he hK;simp[go_sem,storedEv,cl,zl]at hm;subst hm;exact V0 _ _ hnh)⟩,?_⟩;clear hK K;rw[setCell_at'];refine E0.at ?_ dd)
 refine I0 ?_
 refine h _ (vL b1 0 (m+1) cap1) _ ?_ ⟨rfl,rfl,rfl,rfl,rfl,rfl,rfl,rfl,rfl,rfl,trivial⟩
 refine⟨hwf'.of_grew (M1 rfl hnh _),E1 hrow' fun b hb _=>m0 _ _ _ (by simp only[Value.ownBlock,Option.some.injEq]at hb;subst hb;exact nb1),fun c hc=>?_,by simp;omega,fun b hb=>by simp only[Value.ownBlock,Option.some.injEq]at hb;subst hb;exact hb4,fun r h1 h2 h3=>?_⟩
 ·have h1:=(hkeep aa (by omega) hne.1).trans (hW4 aa (D4 hc))
  rw[hc]at h1
  simp[World.setCell,Array.getElem?_modify,h1]
 ·rw[m0 _ _ _ h2,hkeep r (by omega) h3,hW4 r h1]
theorem v0U{sv:Value}{ob db ib av ab k:Nat}{oa:Option Addr}{ol oc:Nat}(hk:k<10000000){A:Array Value}(hA:D0 33 A [(0,sv),(1,vP ob 0),(2,vP db 0),(3,vP ib 0),(4,vP av 0),(8,vP ab 0),(9,.slice oa ol oc),(10,vI ol),(11,vI k)]){cs:List Frame}{main:Bool}{Stop:Goroutine→World→Prop}
 (h:∀A,D0 33 A [(0,sv),(1,vP ob 0),(2,vP db 0),(3,vP ib 0),(4,vP av 0),(9,.slice oa ol oc),(10,vI ol),(11,vI (k+1:Nat))]→E0 Tryd.prog main F Stop (G (bA 63 A [.code H7,.inLoop H7,.inBlock 0]) cs) w):
 E0 Tryd.prog main F Stop (G (bA 63 A [.inBlock 1,.code d0u,.inLoop H7,.inBlock 0]) cs) w:=by
 obtain⟨s,rfl,h0,h1,h2,h3,h4,h8,h9,h10,h11,_⟩:=D5 dgT hA
 simp only[dgT,h0,h1,h2,h3,h4,h8,h9,h10,h11]
 clear h0 h1 h2 h3 h4 h8 h9 h10 h11
 have hk64:IntKind.i64.wrap ((k:Int)+1)=(k:Int)+1:=IntWalk.i64_in _ (by omega)
 refine ogI ?_
 rw[v05]
 refine ogR ?_
 simp only[d0u,P3,Tryd.f63,zz,Nat.reduceAdd]
 iterate 2 refine oT ?_
 refine I0<|ogL ?_
 refine h _ ?_
 exact⟨rfl,rfl,rfl,rfl,rfl,rfl,rfl,rfl,rfl,trivial⟩
end
noncomputable section
variable{F:Fz}{w w':World}
open Classical in
def FU(F:Fz)(mine:Nat→Prop)(w:World):Fz:=fun r=>if mine r then none else match w.heap[r]? with
 | some (.cells c _ z)=>some (0,max (max c.size z.2) ((F r).getD (0,0)).2)
 | _=>none
section
variable{mine:Nat→Prop}
theorem c0G{r:Nat}(h:mine r):FU F mine w r=none:=if_pos h
theorem d0y{r:Nat}{c:Array Value}{e:TypeId}{z:Nat×Nat}(h:¬mine r)(ho:w.heap[r]? =some (.cells c e z)):FU F mine w r=some (0,max (max c.size z.2) ((F r).getD (0,0)).2):=by
 unfold FU
 rw[if_neg h,ho]
theorem j0N{r:Nat}{z:Nat×Nat}(h:FU F mine w r=some z):¬mine r∧∃c e z0,w.heap[r]? =some (.cells c e z0)∧z=(0,max (max c.size z0.2) ((F r).getD (0,0)).2):=by
 unfold FU at h
 split at h
 ·cases h
 ·rename_i hm
  split at h
  ·rename_i c e z0 ho
   cases h
   exact⟨hm,c,e,z0,ho,rfl⟩
  ·cases h
theorem n0h:Wf (FU F mine w) w:=by
 constructor
 intro r z h
 obtain⟨_,c,e,z0,ho,rfl⟩:=j0N h
 exact⟨c,e,z0,ho,fun k h1 h2=>by simp only;omega⟩
theorem n0g:Q1 (FU F mine w) w.heap.size:=by
 intro r z h
 obtain⟨_,c,e,z0,ho,_⟩:=j0N h
 exact(D4 ho)
theorem f0S(hw:Wf F w)(hm:∀r,mine r→F r=none){a:Addr}(h:held F a):held (FU F mine w) a:=by
 obtain⟨z,hz,h1,h2⟩:=h
 obtain⟨c,e,z0,ho,_⟩:=hw.own _ _ hz
 have hn:¬mine a.block:=fun h=>by rw[hm _ h]at hz;cases hz
 refine⟨_,d0y hn ho,Nat.zero_le _,?_⟩
 rw[hz]
 simp only[Option.getD_some]
 omega
theorem c0H(hg:Gd (FU F mine w) w w'){r:Nat}(hm:¬mine r)(hr:r<w.heap.size):w'.heap[r]? =w.heap[r]?:=by
 obtain⟨o,ho⟩:∃o,w.heap[r]? =some o:=⟨_,Array.getElem?_eq_getElem hr⟩
 rcases hg.objs r _ ho with⟨c1,e2,z1,c',h1,h2,h3⟩|h2
 ·subst h1
  have:c'=c1:=by
   apply Array.ext h3
   intro j hj1 hj2
   have hh:held (FU F mine w) ⟨r,j,none⟩:=⟨_,d0y hm ho,Nat.zero_le _,by simp only;omega⟩
   have:=hg.keep _ hh
   simp only[World.cell?,h2]at this
   have e3:(w.at w'.drawn).heap[r]? =some (.cells c1 e2 z1):=ho
   rw[e3]at this
   simpa [hj1,hj2]using this
  subst this
  rw[h2,ho]
 ·rw[h2,ho]
end
structure h0w where
 ok:Bool
 n:Int
 la:Option Addr
 ll:Nat
 lc:Nat
def h0w.v(a:h0w):Value:=.agg #[.bool a.ok,vI a.n,.slice a.la a.ll a.lc]
def h0w.cells(a:h0w):List Value:=[.bool a.ok,vI a.n,.slice a.la a.ll a.lc]
structure X9 where
 S:Type
 C:Type
 A:Type
 SU:S→World→Prop
 SR:S→Nat→Prop
 CU:C→World→Prop
 CR:C→Nat→Prop
 AV:A→h0w
 AU:A→World→Prop
 AR:A→Nat→Prop
 cf:Nat→C→List Frame
 df:FuncId
 first:Array Value
 capt:Array Value
 beg:S→Nat→I6→S×(C ⊕ A)→Prop
 stp:S→C→S×(C ⊕ A)→Prop
 J:Nat→S→C→Prop
def P0(st:Nat):Value:=.iface 138 (vP st 0)
def X9.Out(L:X9)(st:Nat)(s:L.S)(R0:Nat→Prop)(Rel:L.S×(L.C ⊕ L.A)→Prop)(w:World)(cs:List Frame)(a:Goroutine)(w':World):Prop:=
 ∃s' r,Rel (s',r)∧L.SU s' w'∧(∀q,L.SR s' q→L.SR s q∨R0 q∨w.heap.size≤q)∧
  match r with
  | .inl c=>L.J st s' c∧L.CU c w'∧(∀q,L.CR c q→R0 q∨w.heap.size≤q)∧(∀q,L.CR c q→¬L.SR s' q)∧a=G (Frame.enter Tryd.prog 87 #[.pointer (some ⟨st,0,none⟩)] .normal) (L.cf st c++cs)
  | .inr an=>L.AU an w'∧(∀q,L.AR an q→R0 q∨w.heap.size≤q)∧(∀q,L.AR an q→¬L.SR s' q)∧a=back (L.AV an).v cs
structure X9.Ok(L:X9):Prop where
 call:X0 L.df
 jb:∀st s s' c i o r,L.J st s c→L.beg s i o (s',r)→L.J st s' c
 js:∀st s s' c c1 r,L.J st s c→L.stp s c1 (s',r)→L.J st s' c
 plain:∀st c,L.cf st c≠[]∧∀u∈L.cf st c,e0u u
 sS:∀s w w',L.SU s w→w.heap.size≤w'.heap.size→(∀r,L.SR s r→w'.heap[r]? =w.heap[r]?)→L.SU s w'
 sC:∀c w w',L.CU c w→w.heap.size≤w'.heap.size→(∀r,L.CR c r→w'.heap[r]? =w.heap[r]?)→L.CU c w'
 sA:∀a w w',L.AU a w→w.heap.size≤w'.heap.size→(∀r,L.AR a r→w'.heap[r]? =w.heap[r]?)→L.AU a w'
 lS:∀s w r,L.SU s w→L.SR s r→r<w.heap.size
 lC:∀c w r,L.CU c w→L.CR c r→r<w.heap.size
 lA:∀a w r,L.AU a w→L.AR a r→r<w.heap.size
 beg:∀s i o st (F:Fz) (w:World) (c:Frame) (cs:List Frame),L.SU s w→Wf F w→(∀r,L.SR s r→F r=none)→
  E0 Tryd.prog false F (L.Out st s (fun _=>False) (L.beg s i o) w (c::cs)) (G (Frame.enter Tryd.prog L.df (L.first++ #[P0 st,vI i,o.v]++L.capt) .normal) (c::cs)) w
 stp:∀s c st (F:Fz) (w:World) (b:Frame) (cs:List Frame),L.J st s c→L.SU s w→L.CU c w→(∀q,L.CR c q→¬L.SR s q)→Wf F w→(∀r,L.SR s r∨L.CR c r→F r=none)→
  E0 Tryd.prog false F (L.Out st s (L.CR c) (L.stp s c) w (b::cs)) (back (.tuple #[]) (L.cf st c++b::cs)) w
structure Thr(L:X9)where
 k:Nat
 call:Option (L.C×Array Value×Nat)
 ans:List L.A
 row:Value
structure OX(L:X9)where
 s:L.S
 th:Nat→Thr L
structure Par where
 n:Nat
 aa:Nat
 av:Nat
 db:Nat
 ib:Nat→Nat
 ob:Nat→Nat
 ops:Nat→List I6
 oa:Nat→Option Addr
 oc:Nat→Nat
 I:Nat→Option Obj
def a0Q(I:Nat→Option Obj)(w:World):Prop:=∀r o,I r=some o→w.heap[r]? =some o
structure Par.Ok(p:Par)(L:X9):Prop where
 cells:∀r o,p.I r=some o→∃c e z,o= .cells c e z
 len:∀i,i<p.n→(p.ops i).length≤65536
 inI:p.I p.av≠none∧∀i,i<p.n→p.I (p.ib i)≠none
 av:∀w,a0Q p.I w→Y0 w ⟨p.av,0,none⟩ (vL p.aa 0 p.n p.n)
 db:∀w,a0Q p.I w→Y0 w ⟨p.db,0,none⟩ (.func (.func L.df) L.first L.capt)
 ib:∀w,a0Q p.I w→∀i,i<p.n→Y0 w ⟨p.ib i,0,none⟩ (vI i)
 ob:∀w,a0Q p.I w→∀i,i<p.n→Y0 w ⟨p.ob i,0,none⟩ (.slice (p.oa i) (p.ops i).length (p.oc i))
 op:∀w,a0Q p.I w→∀i,i<p.n→∀k o,(p.ops i)[k]? =some o→∃opb oo,p.oa i=some ⟨opb,oo,none⟩∧
  w.cell? ⟨opb,oo+k*4,none⟩=some (vI o.kd)∧w.cell? ⟨opb,oo+k*4+1,none⟩=some (vI o.a)∧w.cell? ⟨opb,oo+k*4+2,none⟩=some (vI o.b)∧w.cell? ⟨opb,oo+k*4+3,none⟩=some (vI o.c)∧
  w.frozen? ⟨opb,oo+k*4,none⟩=false∧w.frozen? ⟨opb,oo+k*4+1,none⟩=false∧w.frozen? ⟨opb,oo+k*4+2,none⟩=false∧w.frozen? ⟨opb,oo+k*4+3,none⟩=false
variable{L:X9}{p:Par}{g:S0}
def TR(t:Thr L)(r:Nat):Prop:=Value.ownBlock t.row=some r∨(∃a∈t.ans,L.AR a r)∨∃c A ab,t.call=some (c,A,ab)∧(r=ab∨L.CR c r)
def dgS(p:Par)(st i k:Nat):List (Nat×Value):=[(0,P0 st),(1,vP (p.ob i) 0),(2,vP p.db 0),(3,vP (p.ib i) 0),(4,vP p.av 0),(9,.slice (p.oa i) (p.ops i).length (p.oc i)),(10,vI (p.ops i).length),(11,vI k)]
def k0G(p:Par)(st i k ab:Nat):List (Nat×Value):=[(0,P0 st),(1,vP (p.ob i) 0),(2,vP p.db 0),(3,vP (p.ib i) 0),(4,vP p.av 0),(8,vP ab 0),(9,.slice (p.oa i) (p.ops i).length (p.oc i)),(10,vI (p.ops i).length),(11,vI k)]
structure e0e(L:X9)(p:Par)(st i:Nat)(t:Thr L)(w:World):Prop where
 row:w.ownsRow 0 49 3 t.row t.ans.length ((t.ans.map fun a=>(L.AV a).cells).flatten)
 au:∀a∈t.ans,L.AU a w
 al:t.ans.length=t.k
 kl:t.k≤(p.ops i).length
 ar:∀a∈t.ans,∀r,L.AR a r→some r≠Value.ownBlock t.row
 call:∀c A ab,t.call=some (c,A,ab)→D0 33 A (k0G p st i t.k ab)∧C9 w ab∧L.CU c w∧¬L.CR c ab∧some ab≠Value.ownBlock t.row∧(∀r,L.CR c r→some r≠Value.ownBlock t.row)∧(∀a∈t.ans,∀r,L.AR a r→r≠ab∧¬L.CR c r)∧t.k<(p.ops i).length
structure OU(L:X9)(p:Par)(g:S0)(x:OX L)(w:World):Prop where
 fix:a0Q p.I w
 su:L.SU x.s w
 arr:∃c,w.heap[p.aa]? =some (.cells c 55 (0,0))∧c.size=p.n∧∀i,i<p.n→c[i]? =some (x.th i).row
 thr:∀i,i<p.n→e0e L p (g.st i) i (x.th i) w
 ts:∀i,i<p.n→∀r,TR (x.th i) r→¬L.SR x.s r∧r≠p.aa
 sa:¬L.SR x.s p.aa
 jj:∀i,i<p.n→∀c A ab,(x.th i).call=some (c,A,ab)→L.J (g.st i) x.s c
 tt:∀i j,i<p.n→j<p.n→i≠j→∀r,TR (x.th i) r→¬TR (x.th j) r
 inone:∀r,(L.SR x.s r∨r=p.aa∨∃i,i<p.n∧TR (x.th i) r)→p.I r=none
def OR(L:X9)(p:Par)(x:OX L)(r:Nat):Prop:=L.SR x.s r∨r=p.aa∨∃i,i<p.n∧TR (x.th i) r
def g0P(A:Array Value):Frame:=bA 63 A [.inRegion (oC g0Q) [4,5],.code c0C,.inBlock 1,.code d0u,.inLoop H7,.inBlock 0]
inductive Adv(L:X9)(p:Par)(i:Nat):L.S×Thr L→L.S×Thr L→Prop
 | done {s:L.S} {t:Thr L}:t.call=none→t.k=(p.ops i).length→Adv L p i (s,t) (s,t)
 | live {s s':L.S} {t:Thr L} {o:I6} {c:L.C} {A:Array Value} {ab:Nat}:(p.ops i)[t.k]? =some o→L.beg s i o (s',.inl c)→Adv L p i (s,t) (s',{t with call:=some (c,A,ab)})
 | imm {s s':L.S} {t:Thr L} {o:I6} {an:L.A} {row:Value} {y:L.S×Thr L}:(p.ops i)[t.k]? =some o→L.beg s i o (s',.inr an)→Adv L p i (s',⟨t.k+1,none,t.ans++[an],row⟩) y→Adv L p i (s,t) y
inductive Stp(L:X9)(p:Par)(i:Nat):L.S×Thr L→L.S×Thr L→Prop
 | live {s s':L.S} {t:Thr L} {c c':L.C} {A:Array Value} {ab:Nat}:t.call=some (c,A,ab)→L.stp s c (s',.inl c')→Stp L p i (s,t) (s',{t with call:=some (c',A,ab)})
 | ans {s s':L.S} {t:Thr L} {c:L.C} {A:Array Value} {ab:Nat} {an:L.A} {row:Value} {y:L.S×Thr L}:t.call=some (c,A,ab)→L.stp s c (s',.inr an)→Adv L p i (s',⟨t.k+1,none,t.ans++[an],row⟩) y→Stp L p i (s,t) y
def I1(L:X9)(p:Par)(g:S0):R2 where
 X:=OX L
 U:=OU L p g
 R:=OR L p
 I:=p.I
 fr:=fun x i=>match(x.th i).call with
  | some (c,A,_)=>L.cf (g.st i) c++[g0P A]
  | none=>[]
 liv:=fun x i=>(x.th i).call.isSome
 stp:=fun x i y=>Stp L p i (x.s,x.th i) (y.s,y.th i)∧∀j,j≠i→y.th j=x.th j
 bor:=fun x i y=>Adv L p i (x.s,x.th i) (y.s,y.th i)∧∀j,j≠i→y.th j=x.th j
 nw:=fun x i=>(x.th i).call=none∧(x.th i).k=0
 fid:=63
 cap:=fun i=> #[vP (p.ob i) 0,vP p.db 0,vP (p.ib i) 0,vP p.av 0]
end
section
variable{F:Fz}{w w':World}{L:X9}{p:Par}{g:S0}{x y:OX L}{i:Nat}
def upd(x:OX L)(i:Nat)(s:L.S)(t:Thr L):OX L:=⟨s,fun j=>if j=i then t else x.th j⟩
theorem E2{s:L.S}{t:Thr L}:(upd x i s t).th i=t:=if_pos rfl
theorem upd_ne{s:L.S}{t:Thr L}{j:Nat}(h:j≠i):(upd x i s t).th j=x.th j:=if_neg h
def NF(L:X9)(p:Par)(x:OX L)(r:Nat):Prop:=¬OR L p x r∧p.I r=none
theorem R7(h:a0Q p.I w){r:Nat}(hr:p.I r≠none):r<w.heap.size:=by
 cases e:p.I r with
 | none=>exact absurd e hr
 | some o=>exact(Array.getElem?_eq_some_iff.1 (h r o e)).1
theorem y8(h:a0Q p.I w)(hs:∀r,p.I r≠none→w'.heap[r]? =w.heap[r]?):a0Q p.I w':=by
 intro r o e
 rw[hs r (by rw[e];simp)]
 exact h r o e
theorem u5{ab:Nat}(h:C9 w ab)(hs:w'.heap[ab]? =w.heap[ab]?):C9 w' ab:=by
 obtain⟨x,y,z,h⟩:=h.o
 exact⟨⟨x,y,z,hs.trans h⟩⟩
theorem e0e.low{st:Nat}{t:Thr L}(hL:L.Ok)(h:e0e L p st i t w){r:Nat}(hr:TR t r):r<w.heap.size:=by
 rcases hr with h1|⟨a,ha,h1⟩|⟨c,A,ab,h1,h2⟩
 ·rcases h.row.2 with h2|⟨b,cap,cur,h2,h3,h4,_⟩
  ·rw[h2.1]at h1;simp[Value.ownBlock]at h1
  ·rw[h2]at h1
   simp only[Value.ownBlock,Option.some.injEq]at h1
   subst h1
   exact(D4 h4)
 ·exact hL.lA a w r (h.au a ha) h1
 ·obtain⟨_,h3,h4,_⟩:=h.call c A ab h1
  rcases h2 with rfl|h2
  ·obtain⟨_,_,_,h5⟩:=h3.o
   exact(D4 h5)
  ·exact hL.lC c w r h4 h2
theorem e0e.stable{st:Nat}{t:Thr L}(hL:L.Ok)(h:e0e L p st i t w)(hsz:w.heap.size≤w'.heap.size)(hs:∀r,TR t r→w'.heap[r]? =w.heap[r]?):e0e L p st i t w':=by
 refine⟨E1 h.row fun b hb _=>hs b (.inl hb),fun a ha=>hL.sA a w w' (h.au a ha) hsz fun r hr=>hs r (.inr (.inl ⟨a,ha,hr⟩)),h.al,h.kl,h.ar,?_⟩
 intro c A ab hc
 obtain⟨h1,h2,h3,h4⟩:=h.call c A ab hc
 exact⟨h1,u5 h2 (hs _ (.inr (.inr ⟨c,A,ab,hc,.inl rfl⟩))),hL.sC c w w' h3 hsz fun r hr=>hs r (.inr (.inr ⟨c,A,ab,hc,.inr hr⟩)),h4⟩
theorem OU.aalt(h:OU L p g x w):p.aa<w.heap.size:=by
 obtain⟨c,h1,_⟩:=h.arr
 exact(D4 h1)
theorem OU.low(hL:L.Ok)(h:OU L p g x w){r:Nat}(hr:OR L p x r):r<w.heap.size:=by
 rcases hr with h1|rfl|⟨i,hi,h1⟩
 ·exact hL.lS _ _ _ h.su h1
 ·exact h.aalt
 ·exact(h.thr i hi).low hL h1
theorem OU.stable(hL:L.Ok)(h:OU L p g x w)(hsz:w.heap.size≤w'.heap.size)(hs:∀r,OR L p x r∨p.I r≠none→w'.heap[r]? =w.heap[r]?):OU L p g x w':=by
 refine⟨y8 h.fix fun r hr=>hs r (.inr hr),hL.sS _ w w' h.su hsz fun r hr=>hs r (.inl (.inl hr)),?_,fun i hi=>(h.thr i hi).stable hL hsz fun r hr=>hs r (.inl (.inr (.inr ⟨i,hi,hr⟩))),h.ts,h.sa,h.jj,h.tt,h.inone⟩
 obtain⟨c,h1,h2⟩:=h.arr
 exact⟨c,(hs _ (.inl (.inr (.inl rfl)))).trans h1,h2⟩
theorem OU.inone'(h:OU L p g x w){r:Nat}(hr:OR L p x r∨w.heap.size≤r):p.I r=none:=by
 rcases hr with h1|h1
 ·exact h.inone r h1
 ·cases e:p.I r with
  | none=>rfl
  | some o=>exact absurd (R7 (r:=r) h.fix (by rw[e];simp)) (by omega)
def o5(L:X9)(x:OX L)(i:Nat)(r:Nat):Prop:=L.SR x.s r∨∃c A ab,(x.th i).call=some (c,A,ab)∧L.CR c r
theorem v7(hi:i<p.n){r:Nat}(h:o5 L x i r):OR L p x r:=by
 rcases h with h|⟨c,A,ab,h1,h2⟩
 ·exact .inl h
 ·exact .inr (.inr ⟨i,hi,.inr (.inr ⟨c,A,ab,h1,.inr h2⟩)⟩)
theorem OU.other(h:OU L p g x w)(hi:i<p.n){j r:Nat}(hj:j<p.n)(hne:j≠i)(hr:TR (x.th j) r):¬o5 L x i r:=by
 rintro(h1|⟨c,A,ab,h1,h2⟩)
 ·exact(h.ts j hj r hr).1 h1
 ·exact h.tt j i hj hi hne r hr (.inr (.inr ⟨c,A,ab,h1,.inr h2⟩))
theorem OU.aaM(h:OU L p g x w)(hi:i<p.n):¬o5 L x i p.aa:=by
 rintro(h1|⟨c,A,ab,h1,h2⟩)
 ·exact h.sa h1
 ·exact(h.ts i hi _ (.inr (.inr ⟨c,A,ab,h1,.inr h2⟩))).2 rfl
theorem OU.rowM(h:OU L p g x w)(hi:i<p.n){r:Nat}(hr:Value.ownBlock (x.th i).row=some r):¬o5 L x i r:=by
 rintro(h1|⟨c,A,ab,h1,h2⟩)
 ·exact(h.ts i hi r (.inl hr)).1 h1
 ·exact((h.thr i hi).call c A ab h1).2.2.2.2.2.1 r h2 hr.symm
theorem OU.ansM(h:OU L p g x w)(hi:i<p.n){a:L.A}{r:Nat}(ha:a∈(x.th i).ans)(hr:L.AR a r):¬o5 L x i r:=by
 rintro(h1|⟨c,A,ab,h1,h2⟩)
 ·exact(h.ts i hi r (.inr (.inl ⟨a,ha,hr⟩))).1 h1
 ·exact(((h.thr i hi).call c A ab h1).2.2.2.2.2.2.1 a ha r hr).2 h2
theorem OU.abM(h:OU L p g x w)(hi:i<p.n){c:L.C}{A:Array Value}{ab:Nat}(hc:(x.th i).call=some (c,A,ab)):¬o5 L x i ab:=by
 rintro(h1|⟨c1,A1,ab1,h1,h2⟩)
 ·exact(h.ts i hi ab (.inr (.inr ⟨c,A,ab,hc,.inl rfl⟩))).1 h1
 ·rw[hc]at h1
  cases h1
  exact((h.thr i hi).call c A ab hc).2.2.2.1 h2
theorem c0J(hL:L.Ok)(h:OU L p g x w)(hi:i<p.n)(hsz:w.heap.size≤w'.heap.size)(hsame:∀r,r<w.heap.size→¬o5 L x i r→w'.heap[r]? =w.heap[r]?){s':L.S}(hs:L.SU s' w')(hsr:∀q,L.SR s' q→o5 L x i q∨w.heap.size≤q){call':Option (L.C×Array Value×Nat)}
 (hJ:∀st c,L.J st x.s c→L.J st s' c)
 (hcall:∀c A ab,call'=some (c,A,ab)→L.J (g.st i) s' c∧D0 33 A (k0G p (g.st i) i (x.th i).k ab)∧L.CU c w'∧(∀q,L.CR c q→o5 L x i q∨w.heap.size≤q)∧(∀q,L.CR c q→¬L.SR s' q)∧(x.th i).k<(p.ops i).length∧((∃c0 A0,(x.th i).call=some (c0,A0,ab))∨(C9 w ab∧NF L p x ab))):
 OU L p g (upd x i s' {x.th i with call:=call'}) w'∧∀r,OR L p (upd x i s' {x.th i with call:=call'}) r→OR L p x r∨w.heap.size≤r∨∃c A,call'=some (c,A,r):=by
 have hab:∀c A ab,call'=some (c,A,ab)→¬o5 L x i ab∧C9 w ab∧ab<w.heap.size∧some ab≠Value.ownBlock (x.th i).row∧(∀a∈(x.th i).ans,∀r,L.AR a r→r≠ab)∧ab≠p.aa∧(∀j,j<p.n→j≠i→¬TR (x.th j) ab)∧p.I ab=none:=by
  intro c A ab hc
  obtain⟨_,_,_,_,_,_,h6⟩:=hcall c A ab hc
  rcases h6 with⟨c0,A0,h6⟩|⟨h6,h7⟩
  ·obtain⟨_,k2,_,k4,k5,_,k7,_⟩:=(h.thr i hi).call c0 A0 ab h6
   have hT:TR (x.th i) ab:=.inr (.inr ⟨c0,A0,ab,h6,.inl rfl⟩)
   exact⟨h.abM hi h6,k2,(h.thr i hi).low hL hT,k5,fun a ha r hr=>(k7 a ha r hr).1,(h.ts i hi ab hT).2,fun j hj hne hh=>h.tt j i hj hi hne ab hh hT,h.inone ab (.inr (.inr ⟨i,hi,hT⟩))⟩
  ·refine⟨fun hm=>h7.1 (v7 hi hm),h6,?_,?_,?_,?_,?_,h7.2⟩
   ·obtain⟨_,_,_,h8⟩:=h6.o
    exact(D4 h8)
   ·intro e
    exact h7.1 (.inr (.inr ⟨i,hi,.inl e.symm⟩))
   ·rintro a ha r hr rfl
    exact h7.1 (.inr (.inr ⟨i,hi,.inr (.inl ⟨a,ha,hr⟩)⟩))
   ·rintro rfl
    exact h7.1 (.inr (.inl rfl))
   ·intro j hj _ hh
    exact h7.1 (.inr (.inr ⟨j,hj,hh⟩))
 have hT:∀r,TR {x.th i with call:=call'} r→(TR (x.th i) r∧¬o5 L x i r)∨(∃c A,call'=some (c,A,r))∨∃c A ab,call'=some (c,A,ab)∧L.CR c r:=by
  rintro r (h1|⟨a,ha,h1⟩|⟨c,A,ab,h1,h2⟩)
  ·exact .inl ⟨.inl h1,h.rowM hi h1⟩
  ·exact .inl ⟨.inr (.inl ⟨a,ha,h1⟩),h.ansM hi ha h1⟩
  ·rcases h2 with rfl|h2
   ·exact .inr (.inl ⟨c,A,h1⟩)
   ·exact .inr (.inr ⟨c,A,ab,h1,h2⟩)
 have hO:∀r,OR L p (upd x i s' {x.th i with call:=call'}) r→OR L p x r∨w.heap.size≤r∨∃c A,call'=some (c,A,r):=by
  rintro r (h1|rfl|⟨j,hj,h1⟩)
  ·rcases hsr r h1 with h2|h2
   ·exact .inl (v7 hi h2)
   ·exact .inr (.inl h2)
  ·exact .inl (.inr (.inl rfl))
  ·by_cases e:j=i
   ·subst e
    rw[E2]at h1
    rcases hT r h1 with h2|h2|⟨c,A,ab,h2,h3⟩
    ·exact .inl (.inr (.inr ⟨j,hj,h2.1⟩))
    ·exact .inr (.inr h2)
    ·rcases(hcall c A ab h2).2.2.2.1 r h3 with h4|h4
     ·exact .inl (v7 hj h4)
     ·exact .inr (.inl h4)
   ·rw[upd_ne e]at h1
    exact .inl (.inr (.inr ⟨j,hj,h1⟩))
 have hAA:¬L.SR s' p.aa:=by
  intro h1
  rcases hsr _ h1 with h2|h2
  ·exact h.aaM hi h2
  ·have:=h.aalt;omega
 have hX:∀r,TR {x.th i with call:=call'} r→∀j,j<p.n→j≠i→¬TR (x.th j) r:=by
  intro r hr j hj hne hh
  rcases hT r hr with h2|⟨c,A,h2⟩|⟨c,A,ab,h2,h3⟩
  ·exact h.tt j i hj hi hne r hh h2.1
  ·exact(hab c A r h2).2.2.2.2.2.2.1 j hj hne hh
  ·rcases(hcall c A ab h2).2.2.2.1 r h3 with h4|h4
   ·exact h.other hi hj hne hh h4
   ·have:=(h.thr j hj).low hL hh;omega
 have hJJ:∀j,j<p.n→∀c A ab,((upd x i s' {x.th i with call:=call'}).th j).call=some (c,A,ab)→L.J (g.st j) s' c:=by
  intro j hj c A ab hc
  by_cases e:j=i
  ·subst e
   rw[E2]at hc
   exact(hcall c A ab hc).1
  ·rw[upd_ne e]at hc
   exact hJ _ c (h.jj j hj c A ab hc)
 refine⟨⟨?_,hs,?_,?_,?_,hAA,hJJ,?_,?_⟩,hO⟩
 ·refine y8 h.fix fun r hr=>hsame r (R7 h.fix hr) fun hm=>hr (h.inone r (v7 hi hm))
 ·obtain⟨c,h1,h2,h3⟩:=h.arr
  refine⟨c,(hsame _ h.aalt (h.aaM hi)).trans h1,h2,fun j hj=>?_⟩
  by_cases e:j=i
  ·subst e;rw[E2];exact h3 j hj
  ·rw[upd_ne e];exact h3 j hj
 ·intro j hj
  by_cases e:j=i
  ·subst e
   rw[E2]
   have ht:=h.thr j hj
   refine⟨E1 ht.row fun b hb _=>hsame b (ht.low hL (.inl hb)) (h.rowM hj hb),fun a ha=>hL.sA a w w' (ht.au a ha) hsz fun r hr=>hsame r (ht.low hL (.inr (.inl ⟨a,ha,hr⟩))) (h.ansM hj ha hr),ht.al,ht.kl,ht.ar,?_⟩
   intro c A ab hc
   obtain⟨_,k1,k2,k3,k4,k5,k6⟩:=hcall c A ab hc
   obtain⟨m1,m2,m3,m4,m5,m6,m7,m8⟩:=hab c A ab hc
   refine⟨k1,u5 m2 (hsame ab m3 m1),k2,?_,m4,?_,?_,k5⟩
   ·intro hh
    rcases k3 ab hh with h4|h4
    ·exact m1 h4
    ·omega
   ·intro r hr e
    rcases k3 r hr with h4|h4
    ·exact h.rowM hj e.symm h4
    ·have:=ht.low hL (.inl e.symm);omega
   ·intro a ha r hr
    refine⟨m5 a ha r hr,fun hh=>?_⟩
    rcases k3 r hh with h4|h4
    ·exact h.ansM hj ha hr h4
    ·have:=ht.low hL (.inr (.inl ⟨a,ha,hr⟩));omega
  ·rw[upd_ne e]
   exact(h.thr j hj).stable hL hsz fun r hr=>hsame r ((h.thr j hj).low hL hr) (h.other hi hj e hr)
 ·intro j hj r hr
  by_cases e:j=i
  ·subst e
   rw[E2]at hr
   rcases hT r hr with⟨h2,h3⟩|⟨c,A,h2⟩|⟨c,A,ab,h2,h3⟩
   ·refine⟨fun hh=>?_,(h.ts j hj r h2).2⟩
    rcases hsr r hh with h4|h4
    ·exact h3 h4
    ·have:=(h.thr j hj).low hL h2;omega
   ·obtain⟨m1,m2,m3,m4,m5,m6,m7,m8⟩:=hab c A r h2
    refine⟨fun hh=>?_,m6⟩
    rcases hsr r hh with h4|h4
    ·exact m1 h4
    ·omega
   ·obtain⟨_,k1,k2,k3,k4,k5,k6⟩:=hcall c A ab h2
    refine⟨k4 r h3,?_⟩
    rintro rfl
    rcases k3 _ h3 with h4|h4
    ·exact h.aaM hj h4
    ·have:=h.aalt;omega
  ·rw[upd_ne e]at hr
   refine⟨fun hh=>?_,(h.ts j hj r hr).2⟩
   rcases hsr r hh with h4|h4
   ·exact h.other hi hj e hr h4
   ·have:=(h.thr j hj).low hL hr;omega
 ·intro j k hj hk hne r h1 h2
  by_cases e:j=i
  ·subst e
   rw[E2]at h1
   rw[upd_ne (fun e=>hne e.symm)]at h2
   exact hX r h1 k hk (fun e=>hne e.symm) h2
  ·rw[upd_ne e]at h1
   by_cases e2:k=i
   ·subst e2
    rw[E2]at h2
    exact hX r h2 j hj e h1
   ·rw[upd_ne e2]at h2
    exact h.tt j k hj hk hne r h1 h2
 ·intro r hr
  rcases hO r hr with h1|h1|⟨c,A,h1⟩
  ·exact h.inone r h1
  ·exact h.inone' (.inr h1)
  ·exact(hab c A r h1).2.2.2.2.2.2.2
end
section
variable{F:Fz}{w w':World}{L:X9}{p:Par}{g:S0}{x y:OX L}{i:Nat}
theorem a0n.at{aa ab i m:Nat}{v a b c:Value}{xs:List Value}{v':Value}(h:a0n F aa ab i m v a b c xs w w' v')(d:Nat):a0n F aa ab i m v a b c xs w (w'.at d) v':=
 ⟨⟨h.wf.own⟩,h.row,h.arr,h.size,h.own,h.old⟩
theorem n0K(hL:L.Ok)(hP:p.Ok L)(hi:i<p.n){an:L.A}{ab:Nat}(h:OU L p g x w)(hc:(x.th i).call=none)(hk:(x.th i).k<(p.ops i).length)(hau:L.AU an w)(hna:∀r,L.AR an r→NF L p x r∧r≠ab){F2:Fz}{a b c:Value}(hac:(L.AV an).cells=[a,b,c]){v':Value}
 (hn:a0n F2 p.aa ab i (x.th i).k (x.th i).row a b c (((x.th i).ans.map fun a=>(L.AV a).cells).flatten) w w' v'):
 OU L p g (upd x i x.s ⟨(x.th i).k+1,none,(x.th i).ans++[an],v'⟩) w'∧(∀r,OR L p (upd x i x.s ⟨(x.th i).k+1,none,(x.th i).ans++[an],v'⟩) r→OR L p x r∨L.AR an r∨w.heap.size≤r):=by
 have ht:=h.thr i hi
 have hsame:∀r,r<w.heap.size→r≠p.aa→some r≠Value.ownBlock (x.th i).row→w'.heap[r]? =w.heap[r]?:=hn.old
 have hT:∀r,TR (⟨(x.th i).k+1,none,(x.th i).ans++[an],v'⟩:Thr L) r→TR (x.th i) r∨L.AR an r∨w.heap.size≤r:=by
  rintro r (h1|⟨a,ha,h1⟩|⟨c,A,ab,h1,h2⟩)
  ·rcases hn.own r h1 with h2|h2
   ·exact .inl (.inl h2.symm)
   ·exact .inr (.inr h2)
  ·rcases List.mem_append.1 ha with ha|ha
   ·exact .inl (.inr (.inl ⟨a,ha,h1⟩))
   ·rw[List.mem_singleton]at ha
    subst ha
    exact .inr (.inl h1)
  ·cases h1
 have hO:∀r,OR L p (upd x i x.s ⟨(x.th i).k+1,none,(x.th i).ans++[an],v'⟩) r→OR L p x r∨L.AR an r∨w.heap.size≤r:=by
  rintro r (h1|rfl|⟨j,hj,h1⟩)
  ·exact .inl (.inl h1)
  ·exact .inl (.inr (.inl rfl))
  ·by_cases e:j=i
   ·subst e
    rw[E2]at h1
    rcases hT r h1 with h2|h2|h2
    ·exact .inl (.inr (.inr ⟨j,hj,h2⟩))
    ·exact .inr (.inl h2)
    ·exact .inr (.inr h2)
   ·rw[upd_ne e]at h1
    exact .inl (.inr (.inr ⟨j,hj,h1⟩))
 have hrow:∀r,some r=Value.ownBlock (x.th i).row→TR (x.th i) r:=fun r hr=>.inl hr.symm
 have hrowI:∀r,p.I r≠none→some r≠Value.ownBlock (x.th i).row:=fun r hr e=>hr (h.inone r (.inr (.inr ⟨i,hi,hrow r e⟩)))
 have haaI:∀r,p.I r≠none→r≠p.aa:=fun r hr e=>hr (h.inone r (.inr (.inl e)))
 have hX:∀r,TR (⟨(x.th i).k+1,none,(x.th i).ans++[an],v'⟩:Thr L) r→∀j,j<p.n→j≠i→¬TR (x.th j) r:=by
  intro r hr j hj hne hh
  rcases hT r hr with h2|h2|h2
  ·exact h.tt j i hj hi hne r hh h2
  ·exact(hna r h2).1.1 (.inr (.inr ⟨j,hj,hh⟩))
  ·have:=(h.thr j hj).low hL hh;omega
 refine⟨⟨y8 h.fix fun r hr=>hsame r (R7 h.fix hr) (haaI r hr) (hrowI r hr),hL.sS _ w w' h.su hn.size fun r hr=>hsame r (hL.lS _ _ _ h.su hr) (by rintro rfl;exact h.sa hr) fun e=>(h.ts i hi r (hrow r e)).1 hr,?_,?_,?_,h.sa,?_,?_,?_⟩,hO⟩
 ·obtain⟨c,h1,h2,h3⟩:=h.arr
  refine⟨_,hn.arr c h1,by simpa using h2,fun j hj=>?_⟩
  by_cases e:j=i
  ·subst e
   rw[E2,Array.getElem?_setIfInBounds_self_of_lt (by omega)]
  ·rw[upd_ne e,Array.getElem?_setIfInBounds_ne (fun e1=>e e1.symm)]
   exact h3 j hj
 ·intro j hj
  by_cases e:j=i
  ·subst e
   rw[E2]
   refine⟨?_,?_,?_,?_,?_,fun c A ab h1=>by cases h1⟩
   ·have:=hn.row
    simp only[List.map_append,List.map_cons,List.map_nil,List.flatten_append,List.flatten_cons,List.flatten_nil,List.append_nil,List.length_append,List.length_cons,List.length_nil,hac,ht.al]
    exact this
   ·intro a ha
    rcases List.mem_append.1 ha with ha|ha
    ·exact hL.sA a w w' (ht.au a ha) hn.size fun r hr=>hsame r (ht.low hL (.inr (.inl ⟨a,ha,hr⟩))) (h.ts j hj r (.inr (.inl ⟨a,ha,hr⟩))).2 (ht.ar a ha r hr)
    ·rw[List.mem_singleton]at ha
     subst ha
     exact hL.sA a w w' hau hn.size fun r hr=>hsame r (hL.lA a w r hau hr) (fun e=>(hna r hr).1.1 (.inr (.inl e))) (fun e=>(hna r hr).1.1 (.inr (.inr ⟨j,hj,hrow r e⟩)))
   ·simp[ht.al]
   ·exact hk
   ·intro a ha r hr e
    rcases hn.own r e.symm with h2|h2
    ·rcases List.mem_append.1 ha with ha|ha
     ·exact ht.ar a ha r hr h2
     ·rw[List.mem_singleton]at ha
      subst ha
      exact(hna r hr).1.1 (.inr (.inr ⟨j,hj,hrow r h2⟩))
    ·rcases List.mem_append.1 ha with ha|ha
     ·have:=ht.low hL (.inr (.inl ⟨a,ha,hr⟩));omega
     ·rw[List.mem_singleton]at ha
      subst ha
      have:=hL.lA a w r hau hr;omega
  ·rw[upd_ne e]
   exact(h.thr j hj).stable hL hn.size fun r hr=>hsame r ((h.thr j hj).low hL hr) (h.ts j hj r hr).2 fun e1=>h.tt j i hj hi e r hr (hrow r e1)
 ·intro j hj r hr
  by_cases e:j=i
  ·subst e
   rw[E2]at hr
   rcases hT r hr with h2|h2|h2
   ·exact h.ts j hj r h2
   ·exact⟨fun hh=>(hna r h2).1.1 (.inl hh),fun e=>(hna r h2).1.1 (.inr (.inl e))⟩
   ·refine⟨fun hh=>?_,?_⟩
    ·have:=hL.lS _ _ _ h.su hh;omega
    ·rintro rfl
     have:=h.aalt;omega
  ·rw[upd_ne e]at hr
   exact h.ts j hj r hr
 ·intro j hj c A ab hc
  by_cases e:j=i
  ·subst e
   rw[E2]at hc
   cases hc
  ·rw[upd_ne e]at hc
   exact h.jj j hj c A ab hc
 ·intro j k hj hk2 hne r h1 h2
  by_cases e:j=i
  ·subst e
   rw[E2]at h1
   rw[upd_ne (fun e=>hne e.symm)]at h2
   exact hX r h1 k hk2 (fun e=>hne e.symm) h2
  ·rw[upd_ne e]at h1
   by_cases e2:k=i
   ·subst e2
    rw[E2]at h2
    exact hX r h2 j hj e h1
   ·rw[upd_ne e2]at h2
    exact h.tt j k hj hk2 hne r h1 h2
 ·intro r hr
  rcases hO r hr with h1|h1|h1
  ·exact h.inone r h1
  ·exact(hna r h1).1.2
  ·exact h.inone' (.inr h1)
theorem h0c(hL:L.Ok)(hP:p.Ok L)(hi:i<p.n){an:L.A}{ab:Nat}{A0:Array Value}(h:OU L p g x w)(hc:(x.th i).call=none)(hk:(x.th i).k<(p.ops i).length)(hau:L.AU an w)(hna:∀r,L.AR an r→NF L p x r∧r≠ab)(ha:C9 w ab)(hnb:NF L p x ab)(hwf:Wf F w)(hF:∀r,OR L p x r∨r=ab→F r=none)(hA:D0 33 A0 (k0G p (g.st i) i (x.th i).k ab)){cs:List Frame}{Stop:Goroutine→World→Prop}
 (K:∀w' A v',OU L p g (upd x i x.s ⟨(x.th i).k+1,none,(x.th i).ans++[an],v'⟩) w'→(∀r,OR L p (upd x i x.s ⟨(x.th i).k+1,none,(x.th i).ans++[an],v'⟩) r→OR L p x r∨L.AR an r∨w.heap.size≤r)→w.heap.size≤w'.heap.size→Wf F w'→D0 33 A (dgS p (g.st i) i ((x.th i).k+1))→
   E0 Tryd.prog false F Stop (G (bA 63 A [.code H7,.inLoop H7,.inBlock 0]) cs) w'):
 E0 Tryd.prog false F Stop (back (L.AV an).v (g0P A0::cs)) w:=by
 have hkl:=hP.len i hi
 refine v0S (lc:=(L.AV an).lc) ha (fun k hh=>?_) hA fun A1 hA1=>?_
 ·obtain⟨z,hz,_⟩:=hh
  rw[hF ab (.inr rfl)]at hz
  cases hz
 have hsz:((((w.setCell ⟨ab,0,none⟩ (.bool (L.AV an).ok)).setCell ⟨ab,1,none⟩ (vI (L.AV an).n)).setCell ⟨ab,2,none⟩ (.slice (L.AV an).la (L.AV an).ll (L.AV an).lc))).heap.size=w.heap.size:=by simp
 have hne:∀r,r≠ab→((((w.setCell ⟨ab,0,none⟩ (.bool (L.AV an).ok)).setCell ⟨ab,1,none⟩ (vI (L.AV an).n)).setCell ⟨ab,2,none⟩ (.slice (L.AV an).la (L.AV an).ll (L.AV an).lc))).heap[r]? =w.heap[r]?:=by
  intro r hr
  rw[m0 _ _ _ hr,m0 _ _ _ hr,m0 _ _ _ hr]
 have hab:((((w.setCell ⟨ab,0,none⟩ (.bool (L.AV an).ok)).setCell ⟨ab,1,none⟩ (vI (L.AV an).n)).setCell ⟨ab,2,none⟩ (.slice (L.AV an).la (L.AV an).ll (L.AV an).lc))).heap[ab]? =some (.cells #[.bool (L.AV an).ok,vI (L.AV an).n,.slice (L.AV an).la (L.AV an).ll (L.AV an).lc] 49 (0,0)):=by
  obtain⟨a,b,c,h1⟩:=ha.o
  rw[Y1 (Y1 (Y1 h1 _) _) _]
  rfl
 generalize (((w.setCell ⟨ab,0,none⟩ (.bool (L.AV an).ok)).setCell ⟨ab,1,none⟩ (vI (L.AV an).n)).setCell ⟨ab,2,none⟩ (.slice (L.AV an).la (L.AV an).ll (L.AV an).lc))=W at hsz hne hab ⊢
 have hU:OU L p g x W:=h.stable hL (by omega) fun r hr=>hne r (by
  rintro rfl
  rcases hr with hr|hr
  ·exact hnb.1 hr
  ·exact hr hnb.2)
 have hauW:L.AU an W:=hL.sA an w W hau (by omega) fun r hr=>hne r (hna r hr).2
 have hwfW:Wf F W:=by
  constructor
  intro r z hz
  obtain⟨c,e,z0,h1,h2⟩:=hwf.own r z hz
  refine⟨c,e,z0,(hne r ?_).trans h1,h2⟩
  rintro rfl
  rw[hF r (.inr rfl)]at hz
  cases hz
 have ht:=hU.thr i hi
 have hmF:∀r,(r=p.aa∨some r=Value.ownBlock (x.th i).row)→F r=none:=by
  rintro r (rfl|hr)
  ·exact hF _ (.inl (.inr (.inl rfl)))
  ·exact hF _ (.inl (.inr (.inr ⟨i,hi,.inl hr.symm⟩)))
 obtain⟨c0,harr,hcs,hci⟩:=hU.arr
 have hrI:∀r,p.I r≠none→some r≠Value.ownBlock (x.th i).row:=fun r hr e=>hr (h.inone r (.inr (.inr ⟨i,hi,.inl e.symm⟩)))
 have key:=v0T (F:=FU F (fun r=>r=p.aa∨some r=Value.ownBlock (x.th i).row) W) (w:=W) (nn:=W.heap.size) (main:=false) (cs:=cs) (kk:=[.inBlock 1,.code d0u,.inLoop H7,.inBlock 0]) (Stop:=fun a u=>∃v' A,a=G (bA 63 A [.inBlock 1,.code d0u,.inLoop H7,.inBlock 0]) cs∧a0n (FU F (fun r=>r=p.aa∨some r=Value.ownBlock (x.th i).row) W) p.aa ab i (x.th i).k (x.th i).row (.bool (L.AV an).ok) (vI (L.AV an).n) (.slice (L.AV an).la (L.AV an).ll (L.AV an).lc) (((x.th i).ans.map fun a=>(L.AV a).cells).flatten) W u v'∧D0 33 A (k0G p (g.st i) i (x.th i).k ab))
  n0g (Nat.le_refl _) ⟨rfl,rfl,rfl⟩ hi (by omega) ⟨n0h,hP.av W hU.fix,hP.ib W hU.fix i hi,⟨c0,harr,hci i hi⟩,hab⟩ (by rw[← ht.al];exact ht.row) (c0G (.inl rfl)) (fun b hb=>c0G (.inr hb.symm)) ⟨fun e=>(h.ts i hi _ (.inl e.symm)).2 rfl,fun e=>hnb.1 (.inr (.inr ⟨i,hi,.inl e.symm⟩)),hrI _ hP.inI.1,hrI _ (hP.inI.2 i hi)⟩
  (fun r c e z0 h1 h2 h3 h4=>⟨_,d0y (fun hm=>hm.elim h2 h3) h1,fun e=>by simp only[Prod.mk.injEq]at e;omega⟩) hA1 fun w2 v' A2 hn hA2=>.stop fun d=>⟨v',A2,rfl,hn.at d,hA2⟩
 refine(a0L (fun a ha=>f0S hwfW hmF ha) key).bind fun a u hs=>?_
 obtain⟨v',A2,rfl,hn,hA2⟩:=hs u.drawn
 have hn:a0n _ p.aa ab i (x.th i).k (x.th i).row (.bool (L.AV an).ok) (vI (L.AV an).n) (.slice (L.AV an).la (L.AV an).ll (L.AV an).lc) (((x.th i).ans.map fun a=>(L.AV a).cells).flatten) W u v':=hn
 refine v0U (by omega) hA2 fun A3 hA3=>?_
 obtain⟨q1,q2⟩:=n0K hL hP hi hU hc hk hauW hna rfl hn
 refine K u A3 v' q1 (fun r hr=>?_) (by have:=hn.size;omega) ?_ hA3
 ·rcases q2 r hr with h1|h1|h1
  ·exact .inl h1
  ·exact .inr (.inl h1)
  ·exact .inr (.inr (by omega))
 ·constructor
  intro r z hz
  obtain⟨c,e,z0,h1,h2⟩:=hwfW.own r z hz
  refine⟨c,e,z0,(hn.old r (D4 h1) ?_ ?_).trans h1,h2⟩
  ·rintro rfl
   rw[hmF _ (.inl rfl)]at hz
   cases hz
  ·intro e
   rw[hmF _ (.inr e)]at hz
   cases hz
end
section
variable{F:Fz}{w w' w0:World}{L:X9}{p:Par}{g:S0}{x y x0:OX L}{i:Nat}
theorem OU.at(hL:L.Ok)(h:OU L p g x w)(d:Nat):OU L p g x (w.at d):=h.stable hL (Nat.le_refl _) fun _ _=>rfl
theorem k0s(hw0:Wf F w0){r:Nat}(h:w0.heap.size≤r):F r=none:=by
 cases e:F r with
 | none=>rfl
 | some z=>
   obtain⟨c,e1,z0,h1,_⟩:=hw0.own r z e
   have:=(D4 h1)
   omega
theorem o4(hw0:Wf F w0):Q1 F w0.heap.size:=by
 intro r z h
 obtain⟨c,e1,z0,h1,_⟩:=hw0.own r z h
 exact(D4 h1)
theorem g02(hL:L.Ok)(h:OU L p g x w)(hi:i<p.n){s':L.S}{r:Nat}(hr:(∃c A ab,(x.th i).call=some (c,A,ab)∧L.CR c r)∨w.heap.size≤r)(hs:¬L.SR s' r):NF L p (upd x i s' {x.th i with call:=none}) r:=by
 have hM:∀q,(∃c A ab,(x.th i).call=some (c,A,ab)∧L.CR c q)→o5 L x i q:=fun q h=>.inr h
 refine⟨?_,?_⟩
 ·rintro(h1|rfl|⟨j,hj,h1⟩)
  ·exact hs h1
  ·rcases hr with hr|hr
   ·exact h.aaM hi (hM _ hr)
   ·have:=h.aalt;omega
  ·by_cases e:j=i
   ·subst e
    rw[E2]at h1
    rcases h1 with h1|⟨a,ha,h1⟩|⟨c,A,ab,h1,_⟩
    ·rcases hr with hr|hr
     ·exact h.rowM hj h1 (hM _ hr)
     ·have:=(h.thr j hj).low hL (.inl h1);omega
    ·rcases hr with hr|hr
     ·exact h.ansM hj ha h1 (hM _ hr)
     ·have:=(h.thr j hj).low hL (.inr (.inl ⟨a,ha,h1⟩));omega
    ·cases h1
   ·rw[upd_ne e]at h1
    rcases hr with hr|hr
    ·exact h.other hi hj e h1 (hM _ hr)
    ·have:=(h.thr j hj).low hL h1;omega
 ·rcases hr with hr|hr
  ·exact h.inone r (v7 hi (hM _ hr))
  ·exact h.inone' (.inr hr)
theorem w0I(hL:L.Ok)(h:OU L p g x w)(hi:i<p.n){s':L.S}(hsr:∀q,L.SR s' q→o5 L x i q∨w.heap.size≤q){c0:L.C}{A0:Array Value}{ab:Nat}(hc:(x.th i).call=some (c0,A0,ab)):NF L p (upd x i s' {x.th i with call:=none}) ab:=by
 have hT:TR (x.th i) ab:=.inr (.inr ⟨c0,A0,ab,hc,.inl rfl⟩)
 obtain⟨_,k2,_,k4,k5,_,k7,_⟩:=(h.thr i hi).call c0 A0 ab hc
 refine⟨?_,h.inone ab (.inr (.inr ⟨i,hi,hT⟩))⟩
 rintro(h1|e1|⟨j,hj,h1⟩)
 ·rcases hsr ab h1 with h2|h2
  ·exact h.abM hi hc h2
  ·have:=(h.thr i hi).low hL hT;omega
 ·exact(h.ts i hi ab hT).2 e1
 ·by_cases e:j=i
  ·subst e
   rw[E2]at h1
   rcases h1 with h1|⟨a,ha,h1⟩|⟨c,A,ab,h1,_⟩
   ·exact k5 h1.symm
   ·exact(k7 a ha ab h1).1 rfl
   ·cases h1
  ·rw[upd_ne e]at h1
   exact h.tt j i hj hi e ab h1 hT
theorem n0F(hL:L.Ok)(h:OU L p g x w)(hi:i<p.n){s':L.S}(hsr:∀q,L.SR s' q→o5 L x i q∨w.heap.size≤q){ab:Nat}(hlt:ab<w.heap.size)(hn:NF L p x ab)(hc:(x.th i).call=none):NF L p (upd x i s' {x.th i with call:=none}) ab:=by
 refine⟨?_,hn.2⟩
 rintro(h1|e1|⟨j,hj,h1⟩)
 ·rcases hsr ab h1 with h2|h2
  ·exact hn.1 (v7 hi h2)
  ·omega
 ·exact hn.1 (.inr (.inl e1))
 ·by_cases e:j=i
  ·subst e
   rw[E2]at h1
   have h2:TR (x.th j) ab:=by
    rcases h1 with h1|h1|⟨c,A,ab,h1,_⟩
    ·exact .inl h1
    ·exact .inr (.inl h1)
    ·cases h1
   exact hn.1 (.inr (.inr ⟨j,hj,h2⟩))
  ·rw[upd_ne e]at h1
   exact hn.1 (.inr (.inr ⟨j,hj,h1⟩))
def x09(L:X9)(p:Par)(g:S0)(i:Nat)(y:OX L)(cs:List Frame)(a:Goroutine):Prop:=
 ((I1 L p g).liv y i=true∧a=G (Frame.enter Tryd.prog 87 #[vP (g.st i) 0] .normal) ((I1 L p g).fr y i++cs))∨((I1 L p g).liv y i=false∧∃v,a=back v cs)
def p01(L:X9)(p:Par)(g:S0)(i:Nat)(x0:OX L)(w0:World)(S:OX L→Prop)(x:OX L)(cs:List Frame)(a:Goroutine)(u:World):Prop:=
 ∃y,S y∧(∀j,j≠i→y.th j=x.th j)∧OU L p g y u∧(∀r,OR L p y r→OR L p x0 r∨w0.heap.size≤r)∧x09 L p g i y cs a
theorem k0d(hL:L.Ok)(hP:p.Ok L)(hi:i<p.n)(hF0:∀r,OR L p x0 r→F r=none)(hw0:Wf F w0)(c:Frame)(cs:List Frame):∀(m:Nat) (x:OX L) (w:World) (A:Array Value),(p.ops i).length - (x.th i).k=m→OU L p g x w→(x.th i).call=none→Wf F w→w0.heap.size≤w.heap.size→(∀r,OR L p x r→OR L p x0 r∨w0.heap.size≤r)→D0 33 A (dgS p (g.st i) i (x.th i).k)→
 E0 Tryd.prog false F (p01 L p g i x0 w0 (fun y=>Adv L p i (x.s,x.th i) (y.s,y.th i)) x (c::cs)) (G (bA 63 A [.code H7,.inLoop H7,.inBlock 0]) (c::cs)) w:=by
 have hFn:∀r,OR L p x0 r∨w0.heap.size≤r→F r=none:=fun r h=>h.elim (hF0 r) (k0s hw0)
 intro m
 induction m with
 | zero=>
   intro x w A hm h hc hwf hsz hO hA
   have hk:(x.th i).k=(p.ops i).length:=by have:=(h.thr i hi).kl;omega
   rw[hk]at hA
   refine y0r hA (.stop fun d=>⟨x,.done hc hk,fun j _=>rfl,h.at hL d,hO,.inr ⟨?_,_,rfl⟩⟩)
   show(x.th i).call.isSome=false
   rw[hc]
   rfl
 | succ m ih=>
   intro x w A hm h hc hwf hsz hO hA
   have hk:(x.th i).k<(p.ops i).length:=by omega
   obtain⟨o,ho⟩:∃o,(p.ops i)[(x.th i).k]? =some o:=⟨_,List.getElem?_eq_getElem hk⟩
   obtain⟨opb,oo,hoa,f0,f1,f2,f3,g0,g1,g2,g3⟩:=hP.op w h.fix i hi _ o ho
   have hdb:=hP.db w h.fix
   have hib:=hP.ib w h.fix i hi
   have hA':=hA
   unfold dgS at hA'
   rw[hoa]at hA'
   refine y0q (o4 hwf) (Nat.le_refl _) hL.call hk (hP.len i hi) hdb.c hdb.z hib.c hib.z hdb.lt hib.lt f0 f1 f2 f3 g0 g1 g2 g3 hA' fun A1 hA1=>?_
   have hA1':D0 33 A1 (k0G p (g.st i) i (x.th i).k (w.heap.size+1)):=by
    unfold k0G
    rw[hoa]
    obtain⟨b0,b1,b2,b3,b4,b5,b6,b7,b8⟩:=hA1
    exact⟨b0,b1,b2,b3,b4,b5,b7,b8⟩
   have e1:∀r,r<w.heap.size→((w.alloc (.cells #[vI o.kd,vI o.a,vI o.b,vI o.c] 44)).alloc (.cells #[.bool false,vI 0,.slice none 0 0] 49)).heap[r]? =w.heap[r]?:=fun r hr=>by
    rw[o0 _ _ (by simp;omega),o0 _ _ hr]
   have e2:((w.alloc (.cells #[vI o.kd,vI o.a,vI o.b,vI o.c] 44)).alloc (.cells #[.bool false,vI 0,.slice none 0 0] 49)).heap[w.heap.size+1]? =some (.cells #[.bool false,vI 0,.slice none 0 0] 49 (0,0)):=by
    have:=heap_alloc_new (w.alloc (.cells #[vI o.kd,vI o.a,vI o.b,vI o.c] 44)) (.cells #[.bool false,vI 0,.slice none 0 0] 49)
    simpa using this
   have e3:((w.alloc (.cells #[vI o.kd,vI o.a,vI o.b,vI o.c] 44)).alloc (.cells #[.bool false,vI 0,.slice none 0 0] 49)).heap.size=w.heap.size+2:=by simp
   generalize (w.alloc (.cells #[vI o.kd,vI o.a,vI o.b,vI o.c] 44)).alloc (.cells #[.bool false,vI 0,.slice none 0 0] 49)=W at e1 e2 e3 ⊢
   have hx:OU L p g x W:=h.stable hL (by omega) fun r hr=>e1 r (hr.elim (h.low hL) (R7 h.fix))
   have hans:C9 W (w.heap.size+1):=⟨⟨_,_,_,e2⟩⟩
   have hnf:NF L p x (w.heap.size+1):=⟨fun hh=>by have:=h.low hL hh;omega,h.inone' (.inr (by omega))⟩
   have hwf1:Wf F W:=by
    constructor
    intro r z hz
    obtain⟨c,e,z0,h1,h2⟩:=hwf.own r z hz
    exact⟨c,e,z0,(e1 r (D4 h1)).trans h1,h2⟩
   have hSF:∀r,L.SR x.s r→F r=none:=fun r hr=>hFn r (hO r (.inl hr))
   have key:=d0V (hL.beg x.s i o (g.st i) (FU F (fun r=>L.SR x.s r) W) W (g0P A1) (c::cs) hx.su n0h fun r hr=>c0G hr)
   refine(a0L (fun a ha=>f0S hwf1 hSF ha) key).bind fun a u hs=>?_
   obtain⟨hgd,s',res,hrel,hsu,hsr,hres⟩:=hs u.drawn
   have hgd:Gd (FU F (fun r=>L.SR x.s r) W) W u:=hgd
   have hsu:L.SU s' u:=hsu
   have hus:W.heap.size≤u.heap.size:=hgd.size
   have hsame:∀r,r<W.heap.size→¬o5 L x i r→u.heap[r]? =W.heap[r]?:=fun r hr hm=>c0H hgd (fun hh=>hm (.inl hh)) hr
   have hsr2:∀q,L.SR s' q→o5 L x i q∨W.heap.size≤q:=by
    intro q hq
    rcases hsr q hq with h1|h1|h1
    ·exact .inl (.inl h1)
    ·exact h1.elim
    ·exact .inr h1
   have hwf2:Wf F u:=by
    constructor
    intro r z hz
    obtain⟨c,e,z0,h1,h2⟩:=hwf1.own r z hz
    refine⟨c,e,z0,(c0H hgd (fun hh=>?_) (D4 h1)).trans h1,h2⟩
    rw[hSF r hh]at hz
    cases hz
   cases res with
   | inl c1=>
     obtain⟨hjj,hcu,hcr,hcs,rfl⟩:=hres
     have hcu:L.CU c1 u:=hcu
     obtain⟨q1,q2⟩:=c0J hL hx hi hus hsame hsu hsr2 (call':=some (c1,A1,w.heap.size+1)) (fun _ c2 h2=>hL.jb _ _ _ _ _ _ _ h2 hrel) (by
      intro c A ab e
      cases e
      exact⟨hjj,hA1',hcu,fun q hq=>(hcr q hq).elim False.elim .inr,hcs,hk,.inr ⟨hans,hnf⟩⟩)
     refine .stop fun d=>⟨_,?_,fun j hj=>upd_ne hj,q1.at hL d,fun r hr=>?_,.inl ⟨?_,?_⟩⟩
     ·show Adv L p i (x.s,x.th i) (s',(upd x i s' {x.th i with call:=some (c1,A1,w.heap.size+1)}).th i)
      rw[E2]
      exact .live ho hrel
     ·rcases q2 r hr with h1|h1|⟨c2,A2,h1⟩
      ·exact hO r h1
      ·exact .inr (by omega)
      ·cases h1
       exact .inr (by omega)
     ·show((upd x i s' {x.th i with call:=some (c1,A1,w.heap.size+1)}).th i).call.isSome=true
      rw[E2]
      rfl
     ·simp only[I1,E2,List.append_assoc,List.cons_append,List.nil_append]
   | inr an=>
     obtain⟨hau,har,has,rfl⟩:=hres
     have hau:L.AU an u:=hau
     obtain⟨q1,q2⟩:=c0J hL hx hi hus hsame hsu hsr2 (call':=none) (fun _ c2 h2=>hL.jb _ _ _ _ _ _ _ h2 hrel) (by intro c A ab e;cases e)
     have hq2:∀r,OR L p (upd x i s' {x.th i with call:=none}) r→OR L p x0 r∨w0.heap.size≤r:=by
      intro r hr
      rcases q2 r hr with h1|h1|⟨c2,A2,h1⟩
      ·exact hO r h1
      ·exact .inr (by omega)
      ·cases h1
     have hti:(upd x i s' {x.th i with call:=none}).th i={x.th i with call:=none}:=E2
     have hAn:∀q,L.AR an q→W.heap.size≤q:=fun q hq=>(har q hq).elim False.elim id
     refine h0c hL hP hi (ab:=w.heap.size+1) q1 (by rw[hti]) (by rw[hti];exact hk) hau (fun r hr=>⟨g02 hL hx hi (.inr (hAn r hr)) (has r hr),fun e=>by have:=hAn r hr;omega⟩) (u5 hans (hsame _ (by omega) fun hm=>hnf.1 (v7 hi hm))) (n0F hL hx hi hsr2 (by omega) hnf hc) hwf2 ?_ (by rw[hti];exact hA1') ?_
     ·rintro r (h1|rfl)
      ·exact hFn r (hq2 r h1)
      ·exact hFn _ (.inr (by omega))
     ·intro w' A2 v' r1 r2 r3 r4 r5
      rw[hti]at r1 r2 r5
      have hti2:∀t:Thr L,(upd (upd x i s' {x.th i with call:=none}) i (upd x i s' {x.th i with call:=none}).s t).th i=t:=fun t=>E2
      refine(ih _ w' A2 (by rw[hti2];simp only;omega) r1 (by rw[hti2]) r4 (by omega) ?_ (by rw[hti2];exact r5)).bind fun a u hs=>.stop fun d=>?_
      ·intro r hr
       rcases r2 r hr with h1|h1|h1
       ·exact hq2 r h1
       ·exact .inr (by have:=hAn r h1;omega)
       ·exact .inr (by omega)
      ·obtain⟨y,k1,k2,k3,k4,k5⟩:=hs d
       refine⟨y,?_,fun j hj=>?_,k3,k4,k5⟩
       ·rw[hti2]at k1
        exact .imm ho hrel k1
       ·rw[k2 j hj,upd_ne hj,upd_ne hj]
end
section
variable{F:Fz}{w w' w0:World}{L:X9}{p:Par}{g:S0}{x y x0:OX L}{i:Nat}
theorem o0l(A:Array Value):e0u (g0P A):=⟨rfl,rfl,⟨_,Tryd.func63⟩⟩
theorem p0L(hL:L.Ok)(hP:p.Ok L)(hi:i<p.n)(h:OU L p g x w){c0:L.C}{A:Array Value}{ab:Nat}(hc:(x.th i).call=some (c0,A,ab))(hwf:Wf F w)(hF:∀r,OR L p x r→F r=none)(c:Frame)(cs:List Frame):
 E0 Tryd.prog false F (p01 L p g i x w (fun y=>Stp L p i (x.s,x.th i) (y.s,y.th i)) x (c::cs)) (back (.tuple #[]) (L.cf (g.st i) c0++g0P A::c::cs)) w:=by
 obtain⟨hA,hans,hcu0,k4,k5,k6,k7,hk⟩:=(h.thr i hi).call c0 A ab hc
 have hT:TR (x.th i) ab:=.inr (.inr ⟨c0,A,ab,hc,.inl rfl⟩)
 have hablt:ab<w.heap.size:=(h.thr i hi).low hL hT
 have hdis:∀q,L.CR c0 q→¬L.SR x.s q:=fun q hq=>(h.ts i hi q (.inr (.inr ⟨c0,A,ab,hc,.inr hq⟩))).1
 have hMF:∀r,(L.SR x.s r∨L.CR c0 r)→F r=none:=fun r hr=>hF r (hr.elim .inl fun hr=>.inr (.inr ⟨i,hi,.inr (.inr ⟨c0,A,ab,hc,.inr hr⟩)⟩))
 have key:=d0V (hL.stp x.s c0 (g.st i) (FU F (fun r=>L.SR x.s r∨L.CR c0 r) w) w (g0P A) (c::cs) (h.jj i hi c0 A ab hc) h.su hcu0 hdis n0h fun r hr=>c0G hr)
 refine(a0L (fun a ha=>f0S hwf hMF ha) key).bind fun a u hs=>?_
 obtain⟨hgd,s',res,hrel,hsu,hsr,hres⟩:=hs u.drawn
 have hgd:Gd (FU F (fun r=>L.SR x.s r∨L.CR c0 r) w) w u:=hgd
 have hsu:L.SU s' u:=hsu
 have hus:w.heap.size≤u.heap.size:=hgd.size
 have hCM:∀q,L.CR c0 q→o5 L x i q:=fun q hq=>.inr ⟨c0,A,ab,hc,hq⟩
 have hsame:∀r,r<w.heap.size→¬o5 L x i r→u.heap[r]? =w.heap[r]?:=fun r hr hm=>c0H hgd (fun hh=>hm (hh.elim .inl (hCM r))) hr
 have hsr2:∀q,L.SR s' q→o5 L x i q∨w.heap.size≤q:=by
  intro q hq
  rcases hsr q hq with h1|h1|h1
  ·exact .inl (.inl h1)
  ·exact .inl (hCM q h1)
  ·exact .inr h1
 have hwf2:Wf F u:=by
  constructor
  intro r z hz
  obtain⟨c,e,z0,h1,h2⟩:=hwf.own r z hz
  refine⟨c,e,z0,(c0H hgd (fun hh=>?_) (D4 h1)).trans h1,h2⟩
  rw[hMF r hh]at hz
  cases hz
 cases res with
 | inl c1=>
   obtain⟨hjj,hcu,hcr,hcs,rfl⟩:=hres
   have hcu:L.CU c1 u:=hcu
   obtain⟨q1,q2⟩:=c0J hL h hi hus hsame hsu hsr2 (call':=some (c1,A,ab)) (fun _ c2 h2=>hL.js _ _ _ _ _ _ h2 hrel) (by
    intro c A1 ab1 e
    cases e
    exact⟨hjj,hA,hcu,fun q hq=>(hcr q hq).elim (fun h1=>.inl (hCM q h1)) .inr,hcs,hk,.inl ⟨c0,A,hc⟩⟩)
   refine .stop fun d=>⟨_,?_,fun j hj=>upd_ne hj,q1.at hL d,fun r hr=>?_,.inl ⟨?_,?_⟩⟩
   ·show Stp L p i (x.s,x.th i) (s',(upd x i s' {x.th i with call:=some (c1,A,ab)}).th i)
    rw[E2]
    exact .live hc hrel
   ·rcases q2 r hr with h1|h1|⟨c2,A2,h1⟩
    ·exact .inl h1
    ·exact .inr h1
    ·cases h1
     exact .inl (.inr (.inr ⟨i,hi,hT⟩))
   ·show((upd x i s' {x.th i with call:=some (c1,A,ab)}).th i).call.isSome=true
    rw[E2]
    rfl
   ·simp only[I1,E2,List.append_assoc,List.cons_append,List.nil_append]
 | inr an=>
   obtain⟨hau,har,has,rfl⟩:=hres
   have hau:L.AU an u:=hau
   obtain⟨q1,q2⟩:=c0J hL h hi hus hsame hsu hsr2 (call':=none) (fun _ c2 h2=>hL.js _ _ _ _ _ _ h2 hrel) (by intro c A ab e;cases e)
   have hFn:∀r,OR L p x r∨w.heap.size≤r→F r=none:=fun r h=>h.elim (hF r) (k0s hwf)
   have hq2:∀r,OR L p (upd x i s' {x.th i with call:=none}) r→OR L p x r∨w.heap.size≤r:=by
    intro r hr
    rcases q2 r hr with h1|h1|⟨c2,A2,h1⟩
    ·exact .inl h1
    ·exact .inr h1
    ·cases h1
   have hti:(upd x i s' {x.th i with call:=none}).th i={x.th i with call:=none}:=E2
   have hOA:∀q,L.AR an q→OR L p x q∨w.heap.size≤q:=fun q hq=>(har q hq).elim (fun h1=>.inl (v7 hi (hCM q h1))) .inr
   refine h0c hL hP hi (ab:=ab) q1 (by rw[hti]) (by rw[hti];exact hk) hau (fun r hr=>⟨g02 hL h hi ((har r hr).elim (fun h1=>.inl ⟨c0,A,ab,hc,h1⟩) .inr) (has r hr),?_⟩) (u5 hans (hsame _ hablt (h.abM hi hc))) (w0I hL h hi hsr2 hc) hwf2 ?_ (by rw[hti];exact hA) ?_
   ·rintro rfl
    rcases har _ hr with h1|h1
    ·exact k4 h1
    ·omega
   ·rintro r (h1|rfl)
    ·exact hFn r (hq2 r h1)
    ·exact hFn _ (.inl (.inr (.inr ⟨i,hi,hT⟩)))
   ·intro w' A2 v' r1 r2 r3 r4 r5
    rw[hti]at r1 r2 r5
    have hti2:∀t:Thr L,(upd (upd x i s' {x.th i with call:=none}) i (upd x i s' {x.th i with call:=none}).s t).th i=t:=fun t=>E2
    refine(k0d hL hP hi hF hwf c cs _ _ w' A2 rfl r1 (by rw[hti2]) r4 (by omega) ?_ (by rw[hti2];exact r5)).bind fun a u hs=>.stop fun d=>?_
    ·intro r hr
     rcases r2 r hr with h1|h1|h1
     ·exact hq2 r h1
     ·exact hOA r h1
     ·exact .inr (by omega)
    ·obtain⟨y,k1,k2,k3,k4,k5⟩:=hs d
     refine⟨y,?_,fun j hj=>?_,k3,k4,k5⟩
     ·rw[hti2]at k1
      exact .ans hc hrel k1
     ·rw[k2 j hj,upd_ne hj,upd_ne hj]
theorem n0I(hL:L.Ok)(hP:p.Ok L)(hn:g.n=p.n):(I1 L p g).Ok g where
 call:=i0m
 plain:=by
  intro x i hl
  have hl:(x.th i).call.isSome=true:=hl
  obtain⟨⟨c0,A,ab⟩,hc⟩:=Option.isSome_iff_exists.1 hl
  have e:(I1 L p g).fr x i=L.cf (g.st i) c0++[g0P A]:=by simp only[I1,hc]
  rw[e]
  refine⟨by simp,fun u hu=>?_⟩
  rcases List.mem_append.1 hu with hu|hu
  ·exact(hL.plain _ _).2 u hu
  ·rw[List.mem_singleton]at hu
   subst hu
   exact o0l A
 stable:=fun x w w' h hsz hs=>OU.stable hL h hsz hs
 fix:=fun x w r o h hr=>⟨OU.fix h r o hr,hP.cells r o hr⟩
 low:=fun x w r h hr=>OU.low hL h hr
 stpO:=by
  intro x i y j h hj
  have e:=h.2 j hj
  exact⟨by simp only[I1,e],by simp only[I1,e]⟩
 borO:=by
  intro x i y j h hj
  have e:=h.2 j hj
  exact⟨by simp only[I1,e],by simp only[I1,e]⟩
 nwO:=by
  intro x i y j h hj hnw
  have e:=h.2 j hj
  simp only[I1,e]at hnw ⊢
  exact hnw
 go:=by
  intro x i hi hl F w c cs h hwf hF
  have hl:(x.th i).call.isSome=true:=hl
  obtain⟨⟨c0,A,ab⟩,hc⟩:=Option.isSome_iff_exists.1 hl
  have e:(I1 L p g).fr x i++c::cs=L.cf (g.st i) c0++g0P A::c::cs:=by simp only[I1,hc,List.append_assoc,List.cons_append,List.nil_append]
  rw[e]
  refine(p0L hL hP (by omega) h hc hwf hF c cs).bind fun a u hs=>.stop fun d=>?_
  obtain⟨y,k1,k2,k3,k4,k5⟩:=hs d
  exact⟨y,⟨k1,k2⟩,k3,k4,k5⟩
 born:=by
  intro x i hi hnw F w c cs h hwf hF
  have h:OU L p g x w:=h
  have hob:=hP.ob w h.fix i (by omega)
  have hF:∀r,OR L p x r→F r=none:=hF
  refine y0p (sv:=P0 (g.st i)) (ob:=p.ob i) (db:=p.db) (ib:=p.ib i) (av:=p.av) hob.c hob.z fun A hA=>?_
  refine(k0d hL hP (by omega) hF hwf c cs _ x w A rfl h hnw.1 hwf (Nat.le_refl _) (fun r hr=>.inl hr) (by rw[hnw.2];exact hA)).bind fun a u hs=>.stop fun d=>?_
  obtain⟨y,k1,k2,k3,k4,k5⟩:=hs d
  exact⟨y,⟨k1,k2⟩,k3,k4,k5⟩
end
noncomputable section
structure Pl where
 S:Type
 C:Type
 A:Type
 beg:S→I6→S×(C ⊕ A)
 stp:S→C→S×(C ⊕ A)
variable{m:Pl}
structure GT(m:Pl)where
 k:Nat
 call:Option m.C
 ans:List m.A
def f0v(m:Pl):List I6→m.S→GT m→m.S×GT m
 | [],q,t=>(q,t)
 | o::l,q,t=>match m.beg q o with
   | (q',.inl c)=>(q',{t with call:=some c})
   | (q',.inr a)=>f0v m l q' ⟨t.k+1,none,t.ans++[a]⟩
def l0q(m:Pl)(ops:List I6)(q:m.S)(t:GT m):m.S×GT m:=match t.call with
 | none=>(q,t)
 | some c=>match m.stp q c with
   | (q',.inl c')=>(q',{t with call:=some c'})
   | (q',.inr a)=>f0v m (ops.drop (t.k+1)) q' ⟨t.k+1,none,t.ans++[a]⟩
structure GS(m:Pl)where
 q:m.S
 th:Nat→GT m
def GS.put(s:GS m)(i:Nat)(r:m.S×GT m):GS m:=⟨r.1,fun j=>if j=i then r.2 else s.th j⟩
def GS.live(s:GS m)(j:Nat):Bool:=(s.th j).call.isSome
def f0T(m:Pl)(ops:Nat→List I6):Nat→GS m→GS m
 | 0,s=>s
 | i+1,s=>let y:=f0T m ops i s;y.put i (f0v m (ops i) y.q (y.th i))
def n0j(ops:Nat→List I6)(n M:Nat)(s:GS m×List Nat)(i:Int):GS m×List Nat:=
 if 0≤i∧i<n∧s.1.live i.toNat=true∧s.2.length≠M then(s.1.put i.toNat (l0q m (ops i.toNat) s.1.q (s.1.th i.toNat)),s.2++[i.toNat])else s
def b0M(ops:Nat→List I6)(n M:Nat):List Int→GS m×List Nat→GS m×List Nat
 | [],s=>s
 | i::l,s=>b0M ops n M l (n0j ops n M s i)
def T7(n M:Nat)(s:GS m×List Nat):Prop:=y5 s.1.live n=0∨M≤s.2.length
instance(n M:Nat)(s:GS m×List Nat):Decidable (T7 n M s):=by unfold T7;infer_instance
def X5(ops:Nat→List I6)(n M:Nat):Nat→GS m×List Nat→GS m×List Nat
 | 0,s=>s
 | f+1,s=>if T7 n M s then s else X5 ops n M f (b0M ops n M ((List.range n).map fun j:Nat=>(j:Int)) s)
theorem B6{ops:Nat→List I6}{n M:Nat}{s:GS m×List Nat}(h:T7 n M s)(f:Nat):X5 ops n M f s=s:=by
 cases f with
 | zero=>rfl
 | succ f=>exact if_pos h
def e09(ops:Nat→List I6)(n M:Nat)(S:List Int)(f:Nat)(s:GS m):GS m×List Nat:=X5 ops n M f (b0M ops n M S (f0T m ops n s,[]))
structure Abs(L:X9)(m:Pl)where
 s:L.S→m.S
 c:L.C→m.C
 a:L.A→m.A
def Abs.r{L:X9}(ab:Abs L m):L.C ⊕ L.A→m.C ⊕ m.A
 | .inl c=>.inl (ab.c c)
 | .inr a=>.inr (ab.a a)
structure Abs.Ok{L:X9}(ab:Abs L m):Prop where
 beg:∀s i o y,L.beg s i o y→(ab.s y.1,ab.r y.2)=m.beg (ab.s s) o
 stp:∀s c y,L.stp s c y→(ab.s y.1,ab.r y.2)=m.stp (ab.s s) (ab.c c)
variable{L:X9}{ab:Abs L m}{p:Par}{g:S0}
def Abs.t(ab:Abs L m)(t:Thr L):GT m:=⟨t.k,t.call.map fun c=>ab.c c.1,t.ans.map ab.a⟩
def Abs.x(ab:Abs L m)(x:OX L):GS m:=⟨ab.s x.s,fun j=>ab.t (x.th j)⟩
theorem g0j(ok:ab.Ok){i:Nat}{a b:L.S×Thr L}(h:Adv L p i a b):a.2.call=none→(ab.s b.1,ab.t b.2)=f0v m ((p.ops i).drop a.2.k) (ab.s a.1) (ab.t a.2):=by
 induction h with
 | done h1 h2=>
   intro _
   rw[h2,List.drop_length]
   rfl
 | @live s s' t o c A a2 ho hb=>
   intro hc
   obtain⟨hlt,e⟩:=List.getElem?_eq_some_iff.1 ho
   have hb2:=ok.beg _ _ _ _ hb
   show _=f0v m ((p.ops i).drop t.k) (ab.s s) (ab.t t)
   rw[List.drop_eq_getElem_cons hlt,e]
   simp only[f0v]
   rw[← hb2]
   rfl
 | @imm s s' t o an row y ho hb _ ih=>
   intro hc
   obtain⟨hlt,e⟩:=List.getElem?_eq_some_iff.1 ho
   have hb2:=ok.beg _ _ _ _ hb
   have ih:=ih rfl
   show _=f0v m ((p.ops i).drop t.k) (ab.s s) (ab.t t)
   rw[List.drop_eq_getElem_cons hlt,e]
   simp only[f0v]
   rw[← hb2]
   simp only[Abs.r]
   rw[ih]
   simp[Abs.t]
theorem o0t(ok:ab.Ok){i:Nat}{a b:L.S×Thr L}(h:Stp L p i a b):(ab.s b.1,ab.t b.2)=l0q m (p.ops i) (ab.s a.1) (ab.t a.2):=by
 cases h with
 | @live s s' t c c' A a2 hc hb=>
   have hb2:=ok.stp _ _ _ hb
   have e:(ab.t t).call=some (ab.c c):=by simp[Abs.t,hc]
   show _=l0q m (p.ops i) (ab.s s) (ab.t t)
   simp only[l0q,e]
   rw[← hb2]
   rfl
 | @ans s s' t c A a2 an row y hc hb ha=>
   have hb2:=ok.stp _ _ _ hb
   have e:(ab.t t).call=some (ab.c c):=by simp[Abs.t,hc]
   have ih:=g0j ok ha rfl
   show _=l0q m (p.ops i) (ab.s s) (ab.t t)
   simp only[l0q,e]
   rw[← hb2]
   simp only[Abs.r]
   rw[ih]
   simp[Abs.t]
abbrev LUs(L:X9)(p:Par)(g:S0):R2:=I1 L p g
theorem h0j{x y:OX L}{i:Nat}{r:m.S×GT m}(hr:(ab.s y.s,ab.t (y.th i))=r)(h:∀j,j≠i→y.th j=x.th j):ab.x y=(ab.x x).put i r:=by
 subst hr
 simp only[Abs.x,GS.put,GS.mk.injEq,true_and]
 funext j
 by_cases e:j=i
 ·rw[if_pos e,e]
 ·rw[if_neg e,h j e]
theorem d0G(x:OX L)(j:Nat):(LUs L p g).liv x j=(ab.x x).live j:=by
 show(x.th j).call.isSome=((x.th j).call.map _).isSome
 rw[Option.isSome_map]
theorem k0A(ok:ab.Ok){x y:OX L}{i:Nat}(hn:(LUs L p g).nw x i)(h:(LUs L p g).bor x i y):ab.x y=(ab.x x).put i (f0v m (p.ops i) (ab.x x).q ((ab.x x).th i)):=by
 refine h0j ?_ h.2
 have h1:=g0j ok h.1 hn.1
 have h2:(x.th i).k=0:=hn.2
 rw[show(x.s,x.th i).2.k=0 from h2,List.drop_zero]at h1
 exact h1
theorem d0f(ok:ab.Ok)(zok:(LUs L p g).Ok g):∀(i:Nat) (x y:OX L),(∀j,j<i→(LUs L p g).nw x j)→a0P (LUs L p g) i x y→ab.x y=f0T m p.ops i (ab.x x)
 | 0,x,y,_,h=>by
   have h:y=x:=h
   rw[h];rfl
 | i+1,x,z,hn,⟨y,h1,h2⟩=>by
   have e:=d0f ok zok i x y (fun j hj=>hn j (by omega)) h1
   have hny:(LUs L p g).nw y i:=d0g zok i x y h1 i (Nat.le_refl i) (hn i (by omega))
   simp only[f0T]
   rw[← e]
   exact k0A ok hny h2
theorem l0w(ok:ab.Ok){n M:Nat}{s t:OX L×List Nat}{i:Int}(h:a0T (LUs L p g) n M s i t):(ab.x t.1,t.2)=n0j p.ops n M (ab.x s.1,s.2) i:=by
 unfold a0T at h
 unfold n0j
 simp only[← d0G (ab:=ab) (p:=p) (g:=g)]
 split at h
 ·rename_i hc
  rw[if_pos hc]
  obtain⟨h1,h2⟩:=h
  refine Prod.ext ?_ h2
  exact h0j (o0t ok h1.1) h1.2
 ·rename_i hc
  rw[if_neg hc,h]
theorem a0O(ok:ab.Ok){n M:Nat}:∀(l:List Int) (s t:OX L×List Nat),O4 (LUs L p g) n M l s t→(ab.x t.1,t.2)=b0M p.ops n M l (ab.x s.1,s.2)
 | [],s,t,h=>by
   have h:t=s:=h
   rw[h];rfl
 | i::l,s,t,⟨u,h1,h2⟩=>by
   simp only[b0M]
   rw[← l0w ok h1]
   exact a0O ok l u t h2
theorem h0q{Z:R2}{ops:Nat→List I6}{n M:Nat}(ab:Z.X→GS m)(hl:∀x j,Z.liv x j=(ab x).live j)(ht:∀l s t,O4 Z n M l s t→(ab t.1,t.2)=b0M ops n M l (ab s.1,s.2)){s t:Z.X×List Nat}(h:a9 Z n M s t):T7 n M (ab t.1,t.2)∧∃k,∀f,k≤f→X5 ops n M f (ab s.1,s.2)=(ab t.1,t.2):=by
 have hc:∀x,y5 (Z.liv x) n=y5 (ab x).live n:=fun x=>M9 fun j _=>hl x j
 induction h with
 | done h=>
   rw[hc]at h
   have h:T7 n M (ab _,_):=h
   exact⟨h,0,fun f _=>B6 h f⟩
 | more h1 h2 h3 _ ih=>
   obtain⟨hd,k,hk⟩:=ih
   refine⟨hd,k+1,fun f hf=>?_⟩
   obtain⟨f,rfl⟩:∃e,f=e+1:=⟨f - 1,by omega⟩
   rw[hc]at h1
   simp only[X5]
   rw[if_neg (fun h=>h.elim (fun h=>by simp only at h;omega) fun h=>by simp only at h;omega),← ht _ _ _ h3]
   exact hk f (by omega)
theorem h0p(ok:ab.Ok){n M:Nat}{s t:OX L×List Nat}(h:a9 (LUs L p g) n M s t):T7 n M (ab.x t.1,t.2)∧∃k,∀f,k≤f→X5 p.ops n M f (ab.x s.1,s.2)=(ab.x t.1,t.2):=
 h0q (Z:=LUs L p g) ab.x d0G (a0O ok) h
theorem k08(ok:ab.Ok)(zok:(LUs L p g).Ok g){n M:Nat}{S:List Int}{x0:OX L}(hnw:∀j,j<n→(LUs L p g).nw x0 j){t:OX L×List Nat}(h:a0S (LUs L p g) n M S x0 t):T7 n M (ab.x t.1,t.2)∧∃k,∀f,k≤f→e09 p.ops n M S f (ab.x x0)=(ab.x t.1,t.2):=by
 obtain⟨x1,h1,s,h2,h3⟩:=h
 obtain⟨hd,k,hk⟩:=h0p ok h3
 refine⟨hd,k,fun f hf=>?_⟩
 rw[← hk f hf,a0O ok _ _ _ h2,d0f ok zok n x0 x1 hnw h1]
 rfl
end
section
structure Z1 where
 n:Nat
 ws:List (BitVec 64)
structure BCl where
 kd:Nat
 ph:Nat
 i:Nat
 w:Nat
 old:BitVec 64
 out:List Int
abbrev s7:=Bool×Int×List Int
abbrev BRs:=BCl ⊕ s7
def Z1.wd(s:Z1)(k:Nat):BitVec 64:=s.ws.getD k 0#64
def bitI(i:Nat):BitVec 64:=1#64 <<< (i % 64)
def a08(n w:Nat)(old:BitVec 64):Option Nat:=(List.range 64).find? fun j=>decide (w*64+j<n) && !old.getLsbD j
def J5(n w:Nat)(x:BitVec 64):List Int:=((List.range 64).filter fun j=>decide (w*64+j<n) && x.getLsbD j).map fun j=>((w*64+j:Nat):Int)
def Z1.begin(s:Z1)(o:I6):Z1×BRs:=
 if o.kd=1∨o.kd=2∨o.kd=3 then(if o.a<0∨(s.n:Int)≤o.a then(s,.inr (false,0,[]))else(s,.inl ⟨o.kd.toNat,0,o.a.toNat,o.a.toNat / 64,0#64,[]⟩))
 else if o.kd=4 then(if s.ws.length=0 then(s,.inr (false,0,[]))else(s,.inl ⟨4,0,0,0,0#64,[]⟩))
 else if o.kd=5∨o.kd=6 then(if s.ws.length=0 then(s,.inr (true,0,[]))else(s,.inl ⟨o.kd.toNat,0,0,0,0#64,[]⟩))
 else(s,.inr (false,0,[]))
def Z1.one(s:Z1)(c:BCl):Z1×BRs:=
 if c.ph=0 then
  (if c.kd=3 then(s,.inr (true,if(s.wd c.w).getLsbD (c.i % 64)=true then 1 else 0,[]))
   else if(s.wd c.w).getLsbD (c.i % 64)=decide (c.kd=1)then(s,.inr (true,0,[]))
   else(s,.inl {c with ph:=1,old:=s.wd c.w}))
 else if s.wd c.w=c.old then({s with ws:=s.ws.set c.w (c.old ^^^ bitI c.i)},.inr (true,1,[]))
 else(s,.inl {c with ph:=0})
def Z1.claim(s:Z1)(c:BCl):Z1×BRs:=
 if c.ph=0 then
  (if(a08 s.n c.w (s.wd c.w)).isSome=true then(s,.inl {c with ph:=1,old:=s.wd c.w})
   else if c.w+1=s.ws.length then(s,.inr (false,0,[]))
   else(s,.inl {c with w:=c.w+1}))
 else if s.wd c.w=c.old then({s with ws:=s.ws.set c.w (c.old ||| bitI ((a08 s.n c.w c.old).getD 0))},.inr (true,((c.w*64+(a08 s.n c.w c.old).getD 0:Nat):Int),[]))
 else(s,.inl {c with ph:=0})
def Z1.look(s:Z1)(c:BCl):Z1×BRs:=
 if c.w+1=s.ws.length then(s,.inr (if c.kd=5 then(true,((c.out++J5 s.n c.w (s.wd c.w)).length:Int),[])else(true,0,c.out++J5 s.n c.w (s.wd c.w))))
 else(s,.inl {c with w:=c.w+1,out:=c.out++J5 s.n c.w (s.wd c.w)})
def Z1.step(s:Z1)(c:BCl):Z1×BRs:=
 if c.kd=4 then s.claim c else if c.kd=5∨c.kd=6 then s.look c else s.one c
def BPl:Pl:=⟨Z1,BCl,s7,Z1.begin,Z1.step⟩
def c0i(vs:List Int):Nat:=(min (max (vs.headD 0) 0) 65536).toNat
def a0v(n:Nat)(ws:List (BitVec 64))(i:Int):List (BitVec 64):=if 0≤i∧i<n then ws.set (i.toNat / 64) (ws.getD (i.toNat / 64) 0#64 ||| bitI i.toNat)else ws
def k0z(vs:List Int):Z1:=⟨c0i vs,vs.tail.foldl (a0v (c0i vs)) (List.replicate ((c0i vs+63) / 64) 0#64)⟩
def Z1.nums(s:Z1):List Int:=(List.range s.ws.length).flatMap fun k=>J5 s.n k (s.wd k)
structure BWf(s:Z1):Prop where
 l:s.ws.length=(s.n+63) / 64
 n:s.n≤65536
 hi:∀k j,s.n≤k*64+j→(s.wd k).getLsbD j=false
theorem k0B(s:Z1)(c:BCl):(s.step c).1.ws.length=s.ws.length∧(s.step c).1.n=s.n:=by
 unfold Z1.step Z1.claim Z1.look Z1.one
 repeat' split
 all_goals simp
theorem g0n(s:Z1)(o:I6):(s.begin o).1=s:=by
 unfold Z1.begin
 repeat' split
 all_goals rfl
def u0v:Nat→List I6:=fun i=>if i=0 then[⟨4,0,0,0⟩]else if i=1 then[⟨4,0,0,0⟩]else[]
def bs0(vs:List Int):GS BPl:=⟨k0z vs,fun _=>⟨0,none,[]⟩⟩
def awE:GS BPl×List Nat:=e09 u0v 2 100 [0,1,0,1,1,1] 10 (bs0 [2])
theorem l0E:T7 2 100 awE:=by decide +kernel
theorem o0P:awE.2=[0,1,0,1,1,1]:=by decide +kernel
theorem r07:(show List s7 from(awE.1.th 0).ans)=[(true,0,[])]:=by decide +kernel
theorem r08:(show List s7 from(awE.1.th 1).ans)=[(true,1,[])]:=by decide +kernel
theorem r09:Z1.nums awE.1.q=[0,1]:=by decide +kernel
end
section
abbrev wV(x:BitVec 64):Value:=.int .u64 (x.toNat:Int)
theorem x0K(n:Nat):IntKind.u64.wrap (n:Int)=((BitVec.ofNat 64 n).toNat:Int):=by
 rw[IntKind.wrap_u64,BitVec.toNat_ofNat];omega
theorem e0c(x:BitVec 64):IntKind.u64.wrap (x.toNat:Int)=(x.toNat:Int):=by
 rw[IntKind.wrap_u64];have:=x.isLt;omega
theorem d0L(x:BitVec 64):BitVec.ofInt IntKind.u64.bits (x.toNat:Int)=x:=by
 show BitVec.ofInt 64 (x.toNat:Int)=x
 rw[BitVec.ofInt_natCast,BitVec.ofNat_toNat,BitVec.setWidth_eq]
theorem f0w(x y:BitVec 64):bits .and .u64 (x.toNat:Int) (y.toNat:Int)=((x &&& y).toNat:Int):=by
 simp only[bits,d0L];exact e0c _
theorem r0x(x y:BitVec 64):bits .or .u64 (x.toNat:Int) (y.toNat:Int)=((x ||| y).toNat:Int):=by
 simp only[bits,d0L];exact e0c _
theorem b0Z(x y:BitVec 64):bits .xor .u64 (x.toNat:Int) (y.toNat:Int)=((x ^^^ y).toNat:Int):=by
 simp only[bits,d0L];exact e0c _
theorem t0r(x:BitVec 64):bits .xor .u64 18446744073709551615 (x.toNat:Int)=((~~~x).toNat:Int):=by
 have h:=b0Z (BitVec.allOnes 64) x
 rw[show((BitVec.allOnes 64).toNat:Int)=18446744073709551615 by decide]at h
 rw[h]
 congr 2
theorem t0q(x:BitVec 64):IntKind.u64.wrap (0 - (x.toNat:Int))=((-x).toNat:Int):=by
 rw[IntKind.wrap_u64,BitVec.toNat_neg]
 have:=x.isLt
 omega
theorem k0j(x:BitVec 64):IntKind.u64.wrap ((x.toNat:Int) - 1)=((x - 1#64).toNat:Int):=by
 rw[IntKind.wrap_u64,BitVec.toNat_sub]
 have:=x.isLt
 simp only[BitVec.toNat_ofNat]
 omega
theorem g0b(i:Nat):IntKind.u64.wrap (1*2 ^ i)=((1#64 <<< i).toNat:Int):=by
 have e:(1*2 ^ i:Int)=((2 ^ i:Nat):Int):=by push_cast;omega
 rw[e,x0K]
 congr 1
 rw[BitVec.toNat_shiftLeft,BitVec.toNat_ofNat,BitVec.toNat_ofNat,Nat.shiftLeft_eq]
 simp
theorem o0N(x:BitVec 64):bits .and .u64 (x.toNat:Int) 1=((x &&& 1#64).toNat:Int):=f0w x 1#64
theorem o0q(x:BitVec 64)(i:Nat):((x.toNat:Int) / 2 ^ i)=((x >>> i).toNat:Int):=by
 rw[BitVec.toNat_ushiftRight,Nat.shiftRight_eq_div_pow]
 norm_cast
theorem t0k(x:BitVec 64)(i:Nat):(x &&& -x).getLsbD i=(x.getLsbD i && !decide (∃j<i,x.getLsbD j=true)):=by
 rw[BitVec.getLsbD_and,BitVec.getLsbD_neg]
 by_cases hi:i<64
 ·cases x.getLsbD i<;>simp[hi]
 ·simp[BitVec.getLsbD_of_ge x i (by omega)]
theorem t0l(x:BitVec 64)(i:Nat):(x &&& (x - 1#64)).getLsbD i=(x.getLsbD i && decide (∃j<i,x.getLsbD j=true)):=by
 have e:x - 1#64= ~~~(-x):=by rw[BitVec.not_neg]
 rw[e,BitVec.getLsbD_and,BitVec.getLsbD_not,BitVec.getLsbD_neg]
 by_cases hi:i<64
 ·cases x.getLsbD i<;>simp[hi]
 ·simp[BitVec.getLsbD_of_ge x i (by omega)]
def O7(x:BitVec 64):Nat:=((List.range 64).find? fun j=>x.getLsbD j).getD 64
theorem s9{x:BitVec 64}(h:x≠0#64):O7 x<64∧x.getLsbD (O7 x)=true∧∀j,j<O7 x→x.getLsbD j=false:=by
 have hex:∃j,j<64∧x.getLsbD j=true:=by
  apply Classical.byContradiction
  intro hn
  apply h
  apply BitVec.eq_of_getLsbD_eq
  intro i hi
  have:=mt (fun e=>(⟨i,hi,e⟩:∃j,j<64∧x.getLsbD j=true)) hn
  simpa using this
 unfold O7
 cases hf:(List.range 64).find? fun j=>x.getLsbD j with
 | none=>
   rw[List.find?_eq_none]at hf
   obtain⟨j,hj,e⟩:=hex
   exact absurd e (hf j (List.mem_range.2 hj))
 | some j=>
   rw[List.find?_range_eq_some]at hf
   simp only[Option.getD_some]
   exact⟨List.mem_range.1 hf.2.1,hf.1,fun i hi=>by simpa using hf.2.2 i hi⟩
theorem p0w{x:BitVec 64}(h:x≠0#64):x &&& -x=1#64 <<< O7 x:=by
 obtain⟨h1,h2,h3⟩:=s9 h
 apply BitVec.eq_of_getLsbD_eq
 intro i hi
 rw[t0k,BitVec.getLsbD_shiftLeft]
 by_cases e:i=O7 x
 ·subst e
  have:¬∃j<O7 x,x.getLsbD j=true:=fun⟨j,hj,e⟩=>by rw[h3 j hj]at e;cases e
  simp[h1,h2,this]
 ·by_cases l:i<O7 x
  ·simp[h3 i l,l]
  ·have:∃j<i,x.getLsbD j=true:=⟨O7 x,by omega,h2⟩
   have hne:¬(i - O7 x=0):=by omega
   simp[this,hi,l,BitVec.getLsbD_one,hne]
end
end Go.Proofs.YtlcgkpapnpdfpaaDoor
