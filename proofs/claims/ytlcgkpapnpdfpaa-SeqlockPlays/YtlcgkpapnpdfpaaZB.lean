/-
  Of SeqlockPlays: every run by a schedule is the machine's of the same steps. No condition.
  Part 2 of 6.
-/
import Derived.Test.YtlcgkpapnpdfpaaZA
import Derived.WalkKit
import Derived.OwnWalk
import Derived.Maps.AppendAt
import Derived.IntWalk
import Derived.Conc.AppendWalk
import Derived.Conc.AppendEvents3
set_option linter.unusedSimpArgs false
set_option linter.unusedVariables false
set_option linter.unusedSectionVars false
set_option maxRecDepth 100000
set_option maxHeartbeats 8000000
namespace Go.Proofs.Ytlcgkpapnpdfpaa
open Go Go.Conc Go.RowKit Go.Proofs
section
open Go.ConcN (sumTo upd sumTo_upd upd_ne upd_same)
variable{g:Gate}{F:Fz}{Z:Users}{A:Nat→Bool}{Al:Nat→Prop}{vs:Nat→Vars}{N:Nat→Prop}{ov:Nat→Bool}{x y:Z.X}{w w':World}{s0 nn:Nat}{Gl:Machine→Trace→Prop}
theorem own_resume{i:Nat}{u:Frame}{cs:List Frame}{main:Bool}{Stop:Goroutine→World→Prop}(h:Own Try.prog main F Stop (G (u.finish (.tuple #[])) cs) w):
 Own Try.prog main F Stop (Go.Conc.served (atPass g i (u::cs)) (.bool true)) w:=by
 unfold atPass
 rw[served_fr,Frame.finish_at]
 simp only[sWaitOps,sWait,sEnd,stepBody,Try.f133,Option.getD_some]
 walk_nrm
 (refine oW fun dd K hK=>?_;go_simp;refine qT hK ?_;clear hK K)
 refine ogE ?_
 refine ogF ?_
 simp only[Bool.false_eq_true,if_false]
 refine ogK ?_
 refine own_go rfl (fun d=>stepG_end) ?_
 refine own_go rfl (fun d=>stepG_leave (fn:=Try.f133) (v:=.tuple #[]) rfl rfl Try.func133 (by simp[results,Try.f133]) (by simp[results,Try.f133,go_sem])) ?_
 exact h
def backSeat(g:Gate)(gm:Goroutine):Seat:=Seat.one g.bk (.agg #[]) false (·=gm)
structure Kept(g:Gate)(N:Nat→Prop)(vs:Nat→Vars)(i:Nat)(w w':World):Prop where
 size:w.heap.size≤w'.heap.size
 lies:∀a v,Lies w a v→N a.block→(a.block≠g.st i∨a.off≠2)→a.block≠(vs i).e→(a.block≠g.br∨a.off≠i)→Lies w' a v
 same:∀r c e z,w.heap[r]? =some (.cells c e z)→N r→r≠g.st i→r≠(vs i).e→r≠g.br→w'.heap[r]? =w.heap[r]?
theorem Kept.at{i:Nat}(w:World)(d:Nat):Kept g N vs i w (w.at d):=⟨Nat.le_refl _,fun a v h _ _ _ _=>h.at d,fun _ _ _ _ _ _ _ _ _=>rfl⟩
theorem Kept.trans{w1:World}{i:Nat}(h:Kept g N vs i w w1)(k:Kept g N vs i w1 w'):Kept g N vs i w w':=
 ⟨Nat.le_trans h.size k.size,fun a v h1 h2 h3 h4 h5=>k.lies a v (h.lies a v h1 h2 h3 h4 h5) h2 h3 h4 h5,fun r c e z h1 h2 h3 h4 h5=>by
  have e1:=h.same r c e z h1 h2 h3 h4 h5
  exact(k.same r c e z (e1.trans h1) h2 h3 h4 h5).trans e1⟩
theorem Kept.gd{i:Nat}(hg:Gd (FT N w) w w'):Kept g N vs i w w':=
 ⟨hg.size,fun a v h1 h2 _ _ _=>ft_keep hg h1 h2,fun r c e z h1 h2 _ _ _=>ft_same hg h2 (alt h1)⟩
theorem chan_ne'{Al:Nat→Prop}(H:TI Z g Al vs N ov x w){c:Nat}(hc:g.Chan c){r:Nat}{cc:Array Value}{e:TypeId}{z:Nat×Nat}(h:w.heap[r]? =some (.cells cc e z)):c≠r:=by
 rintro rfl
 obtain⟨cap,k,h1⟩:=H.chans _ hc
 rw[h1]at h
 cases h
theorem Kept.chan(H:TI Z g Al vs N ov x w){i c:Nat}(hc:g.Chan c)(d cap k:Nat):Kept g N vs i w ((w.at d).setChan c cap #[] false k k false):=
 ⟨by simp[World.setChan,size_at'],fun a v h _ _ _ _=>(h.at d).setChan (chan_ne H hc h) _ _ _ _ _ _,fun r cc e z h _ _ _ _=>by
  simp only[World.setChan,Array.getElem?_setIfInBounds_ne (chan_ne' H hc h)];rfl⟩
theorem Kept.ended(H:TI Z g Al vs N ov x w){i:Nat}(hA:Al i):Kept g N vs i w (endW g i (w.setCell ⟨(vs i).e,0,none⟩ (.bool true))):=by
 refine⟨by simp[endW],fun a v h _ h1 h2 h3=>(((h.setCell (.inl (Ne.symm h2)) rfl).alloc _).setCell ?_ rfl).setCell ?_ rfl,fun r c e z h _ h1 h2 h3=>?_⟩
 ·rcases h3 with h3|h3
  ·exact .inl (Ne.symm h3)
  ·exact .inr (Ne.symm h3)
 ·rcases h1 with h1|h1
  ·exact .inl (Ne.symm h1)
  ·exact .inr (Ne.symm h1)
 ·have hlt:=(alt h)
  unfold endW
  rw[heap_setCell_ne _ _ _ h1,heap_setCell_ne _ _ _ h3,heap_alloc_lt _ _ (by simpa using hlt),heap_setCell_ne _ _ _ h2]
theorem Kept.killed{i:Nat}:Kept g N vs i w (killW g i w):=by
 refine⟨by simp[killW],fun a v h _ h1 h2 h3=>(h.alloc _).setCell ?_ rfl,fun r c e z h _ h1 h2 h3=>?_⟩
 ·rcases h1 with h1|h1
  ·exact .inl (Ne.symm h1)
  ·exact .inr (Ne.symm h1)
 ·unfold killW
  rw[heap_setCell_ne _ _ _ h1,heap_alloc_lt _ _ (alt h)]
theorem one_kk{c:Nat}{z:Value}{f:Bool}{home:Goroutine→Prop}:(Seat.one c z f home).cases[0]? =some (rcase c z):=rfl
theorem inb_some(hAn:∀j,A j=true→j<g.n){ms:Option Seat}(hms:∀s,ms=some s→∀c,s.has c→c=g.bk){j:Nat}{s:Seat}(h:inb Z g s0 A vs ms x j=some s):
 (j=0∧ms=some s)∨(j≠0∧s0≤j∧j - s0<g.n∧∀c,s.has c→c=g.pc (j - s0)):=by
 unfold inb at h
 split at h
 ·exact .inl ⟨‹_›,h⟩
 ·split at h
  ·rename_i h0 h1
   cases h
   exact .inr ⟨h0,h1.1,hAn _ h1.2,fun c hc=>Seat.one_has.1 hc⟩
  ·cases h
theorem K_chan [ok:Fits g] {c:Nat}(hc:g.Chan c):∀w cap buf cl a b tm,g.K w→g.K (w.setChan c cap buf cl a b tm):=fun w cap buf cl a b tm h=>h.setChan ok.ok hc _ _ _ _ _ _
theorem tok_back [ok:Fits g] (zok:Z.Ok g)(hs0:0<s0){i:Nat}(hin:i<g.n)(hAn:∀j,A j=true→j<g.n){Inb:Nat→Option Seat}{gm:Goroutine}(hI:∀j,j≠s0+i→Inb j=inb Z g s0 A vs (some (backSeat g gm)) y j)(hIh:∀s c,Inb (s0+i)=some s→s.has c→c=g.pc i)
 (H:TI Z g (fun j=>A j=true) vs N ov y w) (hA:A i=true) (hov:ov i=false) {a:Goroutine}
 (ha:(Z.liv y i=true∧a=G (Frame.enter Try.prog 133 #[.pointer (some ⟨g.st i,0,none⟩)] .normal) (Z.fr y i++[rf g i (vs i) (.func (.func Z.fid) #[] (Z.cap i)),bot]))∨(Z.liv y i=false∧∃v,a=back v [rf g i (vs i) (.func (.func Z.fid) #[] (Z.cap i)),bot]))
 (hk:∀w',TI Z g (fun j=>(A j && (j != i || Z.liv y i))=true) vs N (fun j=>if j=i then !Z.liv y i else ov j) y w'→Kept g N vs i w w'→Tok Try.prog g.K g.Still g.top Gl (inb Z g s0 (fun j=>A j && (j != i || Z.liv y i)) vs (some (backSeat g gm)) y) 0 nn (Go.Conc.served gm (.agg #[])) w'):
 Tok Try.prog g.K g.Still g.top Gl Inb (s0+i) nn a w:=by
 have hiH:Has g i:=⟨hin⟩
 have hne:s0+i≠0:=by omega
 have hbool:(s0+i == 0)=false:=by simp;omega
 have hms:∀s,some (backSeat g gm)=some s→∀c,s.has c→c=g.bk:=fun s e c hc=>by cases e;exact Seat.one_has.1 hc
 have hKat:∀w d,g.K w→g.K (w.at d):=fun w d h=>h.at d
 rcases ha with⟨hl,rfl⟩|⟨hl,v,rfl⟩
 ·-- it comes to its next step
  have eA:(fun j=>A j && (j != i || Z.liv y i))=A:=by funext j;simp[hl]
  rw[eA]at hk
  refine tok_intro fun hlt hK hch=>?_
  refine tok_reseat (passSeat g i (Z.fr y i++[rf g i (vs i) (.func (.func Z.fid) #[] (Z.cap i)),bot])) (Seat.one_wf _ _ _ _) (fun j s' c hj e hc hc2=>?_) (fun c hc=>?_) (fun c hc=>?_) ?_
  ·obtain rfl:=Seat.one_has.1 hc2
   rw[hI j hj]at e
   rcases inb_some hAn hms e with⟨rfl,e2⟩|⟨h0,h1,h2,h3⟩
   ·exact ok.ok.bk i hin (hms _ e2 _ hc)
   ·have:=ok.ok.inj _ _ hin (by omega) (h3 _ hc)
    omega
  ·obtain rfl:=Seat.one_has.1 hc
   exact H.chans _ (.inr ⟨i,hin,rfl⟩)
  ·obtain rfl:=Seat.one_has.1 hc
   exact ok.ok.clow _ (.inr ⟨i,hin,rfl⟩)
  have hup:upd Inb (s0+i) (some (passSeat g i (Z.fr y i++[rf g i (vs i) (.func (.func Z.fid) #[] (Z.cap i)),bot])))=inb Z g s0 A vs (some (backSeat g gm)) y:=by
   funext j
   by_cases e:j=s0+i
   ·subst e
    rw[upd_same]
    unfold inb
    rw[if_neg hne,if_pos ⟨by omega,by simpa using hA⟩]
    simp
   ·rw[upd_ne _ _ e,hI j e]
  rw[hup]
  refine tok_walk hKat (by rw[hbool];exact step_give hK) fun g' d hgv=>?_
  refine tok_give (Inb':=inb Z g s0 A vs (some (backSeat g gm)) y) (j:=0) (s:=backSeat g gm) (kk:=0) hKat (fun w j s c cap buf cl a b tm e hc h=>?_) (by omega) (by omega) rfl one_kk (by rw[hbool];exact hgv) (fun _ _=>rfl) (.inl rfl) (fun g' hS=>?_) (fun g₂ d2 k cap hh hc=>?_)
  ·rcases inb_some hAn hms e with⟨rfl,e2⟩|⟨h0,h1,h2,h3⟩
   ·exact K_chan (.inl (hms _ e2 _ hc)) _ _ _ _ _ _ _ h
   ·exact K_chan (.inr ⟨j - s0,by omega,h3 _ hc⟩) _ _ _ _ _ _ _ h
  ·refine .inl ⟨passSeat g i (Z.fr y i++[rf g i (vs i) (.func (.func Z.fid) #[] (Z.cap i)),bot]),_,?_,by rw[hbool];exact hS⟩
   unfold inb
   rw[if_neg hne,if_pos ⟨by omega,by simpa using hA⟩]
   simp
  ·obtain rfl:g₂=gm:=hh
   have H1:=(H.at zok d).chan zok (.inl rfl:g.Chan g.bk) d2 cap (k+1)
   refine hk _ ?_ ?_
   ·have e1:(fun j=>if j=i then !Z.liv y i else ov j)=ov:=by funext j;by_cases e:j=i<;>simp[e,hl,hov]
    rw[e1]
    exact H1.mono fun j hj=>by simpa [hl]using hj
   ·exact Kept.chan H (.inl rfl) d2 cap (k+1)
 ·-- it has come to its end
  have eI:∀j,inb Z g s0 (fun j=>A j && (j != i || Z.liv y i)) vs (some (backSeat g gm)) y j=if j=s0+i then none else inb Z g s0 A vs (some (backSeat g gm)) y j:=fun j=>by
   unfold inb
   by_cases e:j=s0+i
   ·subst e
    rw[if_neg hne,if_neg (fun h=>by have:=h.2;simp[hl]at this),if_pos rfl]
   ·rw[if_neg e]
    by_cases h0:j=0
    ·simp[h0]
    ·rw[if_neg h0,if_neg h0]
     by_cases h1:s0≤j
     ·have:(j - s0 != i)=true:=by simp;omega
      simp[this]
     ·rw[if_neg (fun h=>h1 h.1),if_neg (fun h=>h1 h.1)]
  refine tok_intro fun hlt hK hch=>?_
  have hv:=H.vars i hA
  have cv:=Gate.covers (F:=FK g) (fun a v p=>fk_place ok.ok p)
  have hgK:∀w w',Gd (FK g) w w'→g.K w→g.K w':=fun w w' hg h=>h.gd (fun a v p=>fk_place ok.ok p) hg
  refine tok_own (F:=FK g) (Stop:=fun a' w'=>(∃d,w'=(endW g i (w.setCell ⟨(vs i).e,0,none⟩ (.bool true))).at d)∧AtGive Try.prog false g.Still g.top g.bk (.agg #[]) (fun x=>QuitsD Try.prog 6 0 x) a' w') hKat cv hgK ?_ fun g' w0 d hS=>?_
  ·rw[hbool]
   have hK1:g.K (w.setCell ⟨(vs i).e,0,none⟩ (.bool true)):=⟨fun a u p=>(hK a u p).setCell (.inl (by have:=ok.ok.low a u p;have:=hv.he;simp only;omega)) rfl,hK.an.setCell rfl _⟩
   have hbr:=ok.ok.brlow (by omega)
   have hst:g.st i<g.top:=ok.ok.low _ _ (.gate i hin)
   have h1:=hv.he
   refine own_end1 hv (own_end2 rfl hK1 hv.hx hv.hi hv.he (hv.x.setCell (.inl hv.ex) rfl) (hv.i.setCell (.inl hv.ei) rfl) hv.e.put ((H.brk i hin).imp fun b h=>h.setCell (.inl (by simp only;omega)) rfl) ?_ ?_)
   ·have:=H.over i hin
    rw[hov]at this
    exact this.setCell (.inl (by simp only;omega)) rfl
   ·intro t3 t4 t5 t6 t7 t8 t9 t10 t11 t12 t13 t14 t15 t16 t17 t18 t19 t20 t21 t22 t23 t24 t25 t26 t27 t28 t29 t30 t31 t32 t33 t34 t35 t36 t37
    have H2:=H.ended zok hin hA
    have hK2:g.K (endW g i (w.setCell ⟨(vs i).e,0,none⟩ (.bool true))):=⟨fun a u p=>(Kept.ended H hA).lies a u (hK a u p) (H.nplace a u p) (by
     by_cases e:a.block=g.st i
     ·exact .inr (by have:=ok.ok.stt i a u hin p e.symm;omega)
     ·exact .inl e) (by have:=ok.ok.low a u p;omega) (.inl fun e=>ok.ok.free a u p e.symm),(((hK.an.setCell rfl _).alloc _).setCell rfl _).setCell rfl _⟩
    have hx2:=(Kept.ended H hA).lies _ _ hv.x (H.nvars i hA).1 (.inl (by have:=hv.hx;simp only;omega)) (by have:=hv.ex;simp only;omega) (.inl (by have:=hv.hx;simp only;omega))
    refine own_end3 hK2 hx2 _ _ _ _ _ _ _ _ _ _ _ _ _ _ _ _ _ _ _ _ _ _ _ _ _ _ _ _ _ _ _ _ _ _ _ (.stop fun d=>⟨⟨d,rfl⟩,?_⟩)
    exact last_gives (.inl rfl) rfl rfl rfl _ _ _ _ _ _ _ _ _ _ _ _ _ _ _ _ _ _ _ _ _ _ _ _ _ _ _ _ _ _ _ _ _ _ _
  ·obtain⟨⟨d1,e1⟩,hgv⟩:=hS d
   rw[e1]at hgv ⊢
   refine tok_give (Inb':=inb Z g s0 (fun j=>A j && (j != i || Z.liv y i)) vs (some (backSeat g gm)) y) (j:=0) (s:=backSeat g gm) (kk:=0) hKat (fun w j s c cap buf cl a b tm e hc h=>?_) (by omega) (by omega) (by rw[hI 0 (by omega)];rfl) one_kk (by rw[hbool];exact hgv) (fun j hj=>by rw[eI,if_neg hj,hI j hj]) (.inr ?_) (fun g' hS=>?_) (fun g₂ d2 k cap hh hc=>?_)
   ·by_cases ej:j=s0+i
    ·subst ej
     exact K_chan (.inr ⟨i,hin,hIh _ _ e hc⟩) _ _ _ _ _ _ _ h
    ·rw[hI j ej]at e
     rcases inb_some hAn hms e with⟨rfl,e2⟩|⟨h0,h1,h2,h3⟩
     ·exact K_chan (.inl (hms _ e2 _ hc)) _ _ _ _ _ _ _ h
     ·exact K_chan (.inr ⟨j - s0,by omega,h3 _ hc⟩) _ _ _ _ _ _ _ h
   ·rw[eI,if_pos rfl]
   ·exact .inr ⟨by rw[eI,if_pos rfl],by omega,_,hS⟩
   ·obtain rfl:g₂=gm:=hh
    have H1:=(((H.ended zok hin hA).at zok d1).chan zok (.inl rfl:g.Chan g.bk) d2 cap (k+1))
    refine hk _ ?_ ?_
    ·have e1:(fun j=>if j=i then !Z.liv y i else ov j)=(fun j=>if j=i then true else ov j):=by funext j;by_cases e:j=i<;>simp[e,hl]
     rw[e1]
     exact H1.mono fun j hj=>by simpa [hl]using hj
    ·exact(Kept.ended H hA).trans (Kept.chan (H.ended zok hin hA) (.inl rfl) d2 cap (k+1))
end
section
open Go.ConcN (sumTo upd sumTo_upd upd_ne upd_same)
variable{g:Gate}{F:Fz}{Z:Users}{A:Nat→Bool}{vs:Nat→Vars}{N:Nat→Prop}{ov:Nat→Bool}{x y:Z.X}{w w':World}{s0 nn:Nat}{Gl:Machine→Trace→Prop}
theorem own_gd'{P:Program}{main:Bool}{Stop:Goroutine→World→Prop}{a:Goroutine}{w00 w:World}(h:Own P main F Stop a w):Gd F w00 w→Own P main F (fun g' w'=>Gd F w00 w'∧Stop g' w') a w:=by
 induction h with
 | stop h=>exact fun hg=>.stop fun d=>⟨gd_at hg d,h d⟩
 | step' hr g' w' es hs hg _ ih=>exact fun h0=>.step' hr g' w' es hs hg fun d=>ih d (h0.trans (by obtain⟨j,hj⟩:=(hg d).1;exact Gd.of_grew hj))
theorem own_gd{P:Program}{main:Bool}{Stop:Goroutine→World→Prop}{a:Goroutine}{w:World}(h:Own P main F Stop a w):Own P main F (fun g' w'=>Gd F w w'∧Stop g' w') a w:=own_gd' h (Gd.refl F w)
theorem K_at:∀w d,g.K w→g.K (w.at d):=fun w d h=>h.at d
theorem inb_congr{ms:Option Seat}{x y:Z.X}{vs vs':Nat→Vars}{A A':Nat→Bool}{i:Nat}(h:∀j,j≠i→A j=A' j∧Z.fr x j=Z.fr y j∧vs j=vs' j):∀j,j≠s0+i→inb Z g s0 A vs ms x j=inb Z g s0 A' vs' ms y j:=by
 intro j hj
 unfold inb
 by_cases h0:j=0
 ·rw[if_pos h0,if_pos h0]
 ·rw[if_neg h0,if_neg h0]
  by_cases h1:s0≤j
  ·obtain⟨e1,e2,e3⟩:=h (j - s0) (by omega)
   rw[e1,e2,e3]
  ·rw[if_neg (fun h=>h1 h.1),if_neg (fun h=>h1 h.1)]
theorem inb_live{ms:Option Seat}{i:Nat}(hs0:0<s0)(hA:A i=true):inb Z g s0 A vs ms x (s0+i)=some (passSeat g i (Z.fr x i++[rf g i (vs i) (.func (.func Z.fid) #[] (Z.cap i)),bot])):=by
 unfold inb
 rw[if_neg (by omega),if_pos ⟨by omega,by simpa using hA⟩]
 simp
theorem back_eq{v:Value}{us cs:List Frame}(h:us≠[]):∃u us',us=u::us'∧back v (us++cs)=G (u.finish v) (us'++cs):=by
 cases us with
 | nil=>exact absurd rfl h
 | cons u us'=>exact⟨u,us',rfl,rfl⟩
theorem inb_K [ok:Fits g] (hAn:∀j,A j=true→j<g.n){gm:Goroutine}:∀w i s c cap buf cl a b tm,inb Z g s0 A vs (some (backSeat g gm)) x i=some s→s.has c→g.K w→g.K (w.setChan c cap buf cl a b tm):=by
 intro w j s c cap buf cl a b tm e hc h
 rcases inb_some hAn (fun s e c hc=>by cases e;exact Seat.one_has.1 hc) e with⟨rfl,e2⟩|⟨h0,h1,h2,h3⟩
 ·cases e2
  exact K_chan (.inl (Seat.one_has.1 hc)) _ _ _ _ _ _ _ h
 ·exact K_chan (.inr ⟨j - s0,by omega,h3 _ hc⟩) _ _ _ _ _ _ _ h
theorem tok_main [ok:Fits g] (hAn:∀j,A j=true→j<g.n)(hs0:0<s0){Al:Nat→Prop}(H:TI Z g Al vs N ov x w){ms:Option Seat}{gm a:Goroutine}
 (h:Tok Try.prog g.K g.Still g.top Gl (inb Z g s0 A vs (some (backSeat g gm)) x) 0 nn a w):Tok Try.prog g.K g.Still g.top Gl (inb Z g s0 A vs ms x) 0 nn a w:=by
 refine tok_reseat (backSeat g gm) (Seat.one_wf _ _ _ _) (fun j s' c hj e hc hc2=>?_) (fun c hc=>?_) (fun c hc=>?_) ?_
 ·obtain rfl:=Seat.one_has.1 hc2
  unfold inb at e
  rw[if_neg hj]at e
  split at e
  ·rename_i h1
   cases e
   exact ok.ok.bk _ (hAn _ h1.2) (Seat.one_has.1 hc).symm
  ·cases e
 ·obtain rfl:=Seat.one_has.1 hc
  exact H.chans _ (.inl rfl)
 ·obtain rfl:=Seat.one_has.1 hc
  exact ok.ok.clow _ (.inl rfl)
 ·have e:upd (inb Z g s0 A vs ms x) 0 (some (backSeat g gm))=inb Z g s0 A vs (some (backSeat g gm)) x:=by
   funext j
   by_cases e:j=0
   ·subst e;rw[upd_same];rfl
   ·rw[upd_ne _ _ e];unfold inb;rw[if_neg e,if_neg e]
  rw[e];exact h
theorem tok_turn [ok:Fits g] (zok:Z.Ok g)(hs0:0<s0)(hAn:∀j,A j=true→j<g.n∧s0+j<nn){i:Nat}(hA:A i=true)(hl:Z.liv x i=true)(H:TI Z g (fun j=>A j=true) vs N ov x w)(hov:ov i=false){ms:Option Seat}{gm a:Goroutine}{nh:Nat}
 (hgv:AtGive Try.prog true g.Still g.top (g.pc i) (.bool true) (fun b=>Sits Try.prog true g.K g.Still g.top (backSeat g gm) nh b) a w)
 (hk:∀y w',Z.stp x i y→TI Z g (fun j=>(A j && (j != i || Z.liv y i))=true) vs N (fun j=>if j=i then !Z.liv y i else ov j) y w'→Kept g N vs i w w'→
   Tok Try.prog g.K g.Still g.top Gl (inb Z g s0 (fun j=>A j && (j != i || Z.liv y i)) vs (some (backSeat g gm)) y) 0 nn (Go.Conc.served gm (.agg #[])) w'):
 Tok Try.prog g.K g.Still g.top Gl (inb Z g s0 A vs ms x) 0 nn a w:=by
 have hAn':∀j,A j=true→j<g.n:=fun j h=>(hAn j h).1
 obtain⟨hin,hnn⟩:=hAn i hA
 have hiH:Has g i:=⟨hin⟩
 refine tok_main (gm:=gm) hAn' hs0 H ?_
 refine tok_give (Inb':=inb Z g s0 A vs (some (backSeat g gm)) x) (j:=s0+i) (kk:=0) K_at (inb_K hAn') (by omega) hnn (inb_live hs0 hA) one_kk hgv (fun _ _=>rfl) (.inl rfl) (fun g' hS=>.inl ⟨backSeat g gm,nh,rfl,hS⟩) (fun g₂ d k cap hh hc=>?_)
 obtain rfl:g₂=_:=hh
 have hc1:g.Chan (g.pc i):=.inr ⟨i,hin,rfl⟩
 have H1:=H.chan zok hc1 d cap (k+1)
 have k1:Kept g N vs i w ((w.at d).setChan (g.pc i) cap #[] false (k+1) (k+1) false):=Kept.chan H hc1 d cap (k+1)
 refine tok_intro fun _ hK1 _=>?_
 clear hK1
 generalize (w.at d).setChan (g.pc i) cap #[] false (k+1) (k+1) false=w1 at*
 show Tok _ _ _ _ _ _ _ _ (Go.Conc.served (atPass g i (Z.fr x i++[rf g i (vs i) (.func (.func Z.fid) #[] (Z.cap i)),bot])) (.bool true)) w1
 obtain⟨hne,hpl⟩:=zok.plain x i hl
 have hgo:=zok.go x i hin hl (FT N w1) w1 (rf g i (vs i) (.func (.func Z.fid) #[] (Z.cap i))) [bot] H1.u (ft_wf w1) (fun r hr=>ft_none (H1.apart r hr))
 obtain⟨u,us',e1,e2⟩:=back_eq (v:=.tuple #[]) (cs:=[rf g i (vs i) (.func (.func Z.fid) #[] (Z.cap i)),bot]) hne
 rw[e2]at hgo
 rw[e1]
 have hfalse:(s0+i == 0)=false:=by simp;omega
 refine tok_intro fun _ hK1 _=>?_
 have hpl1:∀a v,g.Place a v→held (FT N w1) a:=fun a v p=>ft_held (hK1 a v p) (H1.nplace a v p)
 refine tok_own (F:=FT N w1) K_at (Gate.covers hpl1) (fun w w' hg h=>h.gd hpl1 hg) (by rw[hfalse];exact own_gd (own_resume hgo)) fun g' w0 d' hS=>?_
 obtain⟨hg,y,hsy,hU,hR,hto⟩:=hS d'
 have H2:=H1.user hU hR hg
 refine tok_back zok hs0 hin hAn' (gm:=gm) (inb_congr fun j hj=>⟨rfl,(zok.stpO x i y j hsy hj).2.symm,rfl⟩) (fun s c e hc=>?_) H2 hA hov hto fun w' H3 k3=>hk y w' hsy H3 ((k1.trans (Kept.gd hg)).trans k3)
 rw[inb_live hs0 hA]at e
 cases e
 exact Seat.one_has.1 hc
theorem tok_kill [ok:Fits g] (zok:Z.Ok g)(hs0:0<s0)(hAn:∀j,A j=true→j<g.n∧s0+j<nn){i:Nat}(hA:A i=true)(hl:Z.liv x i=true)(H:TI Z g (fun j=>A j=true) vs N ov x w)(hov:ov i=false){ms:Option Seat}{gm a:Goroutine}{nh:Nat}
 (hgv:AtGive Try.prog true g.Still g.top (g.pc i) (.bool false) (fun b=>Sits Try.prog true g.K g.Still g.top (backSeat g gm) nh b) a w)
 (hk:∀w',TI Z g (fun j=>(A j && j != i)=true) vs N (fun j=>if j=i then true else ov j) x w'→Kept g N vs i w w'→
   Tok Try.prog g.K g.Still g.top Gl (inb Z g s0 (fun j=>A j && j != i) vs (some (backSeat g gm)) x) 0 nn (Go.Conc.served gm (.agg #[])) w'):
 Tok Try.prog g.K g.Still g.top Gl (inb Z g s0 A vs ms x) 0 nn a w:=by
 have hAn':∀j,A j=true→j<g.n:=fun j h=>(hAn j h).1
 obtain⟨hin,hnn⟩:=hAn i hA
 have hiH:Has g i:=⟨hin⟩
 refine tok_main (gm:=gm) hAn' hs0 H ?_
 refine tok_give (Inb':=inb Z g s0 A vs (some (backSeat g gm)) x) (j:=s0+i) (kk:=0) K_at (inb_K hAn') (by omega) hnn (inb_live hs0 hA) one_kk hgv (fun _ _=>rfl) (.inl rfl) (fun g' hS=>.inl ⟨backSeat g gm,nh,rfl,hS⟩) (fun g₂ d k cap hh hc=>?_)
 obtain rfl:g₂=_:=hh
 have hc1:g.Chan (g.pc i):=.inr ⟨i,hin,rfl⟩
 have H1:=H.chan zok hc1 d cap (k+1)
 have k1:Kept g N vs i w ((w.at d).setChan (g.pc i) cap #[] false (k+1) (k+1) false):=Kept.chan H hc1 d cap (k+1)
 generalize (w.at d).setChan (g.pc i) cap #[] false (k+1) (k+1) false=w1 at*
 show Tok _ _ _ _ _ _ _ _ (Go.Conc.served (atPass g i (Z.fr x i++[rf g i (vs i) (.func (.func Z.fid) #[] (Z.cap i)),bot])) (.bool false)) w1
 obtain⟨hne,hpl⟩:=zok.plain x i hl
 have hfalse:(s0+i == 0)=false:=by simp;omega
 refine tok_intro fun _ hK1 _=>?_
 have hv:=H1.vars i hA
 have cv:=Gate.covers (F:=FK g) (fun a v p=>fk_place ok.ok p)
 have hgK:∀w w',Gd (FK g) w w'→g.K w→g.K w':=fun w w' hg h=>h.gd (fun a v p=>fk_place ok.ok p) hg
 have H2:=H1.killed zok hin hA
 have hst:g.st i<g.top:=ok.ok.low _ _ (.gate i hin)
 have hbr:=ok.ok.brlow (by omega)
 have eI:∀j,inb Z g s0 (fun j=>A j && j != i) vs (some (backSeat g gm)) x j=if j=s0+i then none else inb Z g s0 A vs (some (backSeat g gm)) x j:=fun j=>by
  unfold inb
  by_cases e:j=s0+i
  ·subst e
   rw[if_neg (by omega),if_neg (fun h=>by have:=h.2;simp at this),if_pos rfl]
  ·rw[if_neg e]
   by_cases h0:j=0
   ·simp[h0]
   ·rw[if_neg h0,if_neg h0]
    by_cases h1:s0≤j
    ·have:(j - s0 != i)=true:=by simp;omega
     simp[this]
    ·rw[if_neg (fun h=>h1 h.1),if_neg (fun h=>h1 h.1)]
 refine tok_own (F:=FK g) (Stop:=fun a' w'=>(∃d,w'=(killW g i w1).at d)∧AtGive Try.prog false g.Still g.top g.bk (.agg #[]) (fun x=>QuitsD Try.prog 6 0 x) a' w') K_at cv hgK ?_ fun g' w0 d' hS=>?_
 ·rw[hfalse]
  have ho:=H1.over i hin
  rw[hov]at ho
  refine own_kill hpl hK1 (own_kill2 hK1 hv ho ?_)
  intro t3 t4 t5 t6 t7 t8 t9 t10 t11 t12 t13 t14 t15 t16 t17 t18 t19 t20 t21 t22 t23 t24 t25 t26 t27 t28 t29 t30 t31 t32 t33 t34 t35 t36 t37
  have hK2:g.K (killW g i w1):=⟨fun a u p=>(Kept.killed (g:=g) (vs:=vs) (N:=N) (i:=i) (w:=w1)).lies a u (hK1 a u p) (H1.nplace a u p) (by
   by_cases e:a.block=g.st i
   ·exact .inr (by have:=ok.ok.stt i a u hin p e.symm;omega)
   ·exact .inl e) (by have:=ok.ok.low a u p;have:=hv.he;omega) (.inl fun e=>ok.ok.free a u p e.symm),(hK1.an.alloc _).setCell rfl _⟩
  have hx2:=(Kept.killed (g:=g) (vs:=vs) (N:=N) (i:=i) (w:=w1)).lies _ _ hv.x (H1.nvars i hA).1 (.inl (by have:=hv.hx;simp only;omega)) (by have:=hv.ex;simp only;omega) (.inl (by have:=hv.hx;simp only;omega))
  refine own_end3 hK2 hx2 _ _ _ _ _ _ _ _ _ _ _ _ _ _ _ _ _ _ _ _ _ _ _ _ _ _ _ _ _ _ _ _ _ _ _ (.stop fun d=>⟨⟨d,rfl⟩,?_⟩)
  exact last_gives (.inr ⟨_,rfl,rfl⟩) rfl rfl rfl _ _ _ _ _ _ _ _ _ _ _ _ _ _ _ _ _ _ _ _ _ _ _ _ _ _ _ _ _ _ _ _ _ _ _
 ·obtain⟨⟨d1,e1⟩,hgv⟩:=hS d'
  rw[e1]at hgv ⊢
  refine tok_give (Inb':=inb Z g s0 (fun j=>A j && j != i) vs (some (backSeat g gm)) x) (j:=0) (s:=backSeat g gm) (kk:=0) K_at (inb_K hAn') (by omega) (by omega) rfl one_kk (by rw[hfalse];exact hgv) (fun j hj=>by rw[eI,if_neg hj]) (.inr (by rw[eI,if_pos rfl])) (fun g' hS=>.inr ⟨by rw[eI,if_pos rfl],by omega,_,hS⟩) (fun g₂ d2 k cap hh hc=>?_)
  obtain rfl:g₂=gm:=hh
  have H3:=((H2.at zok d1).chan zok (.inl rfl:g.Chan g.bk) d2 cap (k+1))
  exact hk _ (H3.mono fun j hj=>by simpa using hj) ((k1.trans Kept.killed).trans (Kept.chan H2 (.inl rfl) d2 cap (k+1)))
end
section
open Go.ConcN (sumTo upd sumTo_upd upd_ne upd_same)
variable{g:Gate}{F:Fz}{Z:Users}{A:Nat→Bool}{vs:Nat→Vars}{N:Nat→Prop}{ov:Nat→Bool}{x y:Z.X}{w w':World}{s0 nn:Nat}{Gl:Machine→Trace→Prop}
theorem ft_under(N:Nat→Prop)(w:World):Under (FT N w) w.heap.size:=by
 intro r z h
 unfold FT at h
 split at h
 ·rename_i c e heq
  exact(alt heq)
 ·cases h
def moreN(N:Nat→Prop)(w:World):Nat→Prop:=fun r=>N r∨r=w.heap.size∨r=w.heap.size+1∨r=w.heap.size+2
def moreV(vs:Nat→Vars)(i:Nat)(w:World):Nat→Vars:=fun j=>if j=i then⟨w.heap.size,w.heap.size+2,w.heap.size+1⟩else vs j
theorem tok_birth [ok:Fits g] (zok:Z.Ok g)(hs0:0<s0){i:Nat}(hin:i<g.n)(hnw:Z.nw x i)(hnn:nn=s0+i)(hAn:∀j,A j=true→j<i)(H:TI Z g (fun j=>A j=true) vs N ov x w)(hov:ov i=false)(ht:g.top≤w.heap.size){ms:Option Seat}{gm a a':Goroutine}{nh:Nat}(hrun:a.status= .running)
 (hgo:∀d,stepG Try.prog true a (w.at d)= .spawn a' (born Try.prog (callRun g i (.func (.func Z.fid) #[] (Z.cap i)))) (w.at d) #[]) (hsit:Sits Try.prog true g.K g.Still g.top (backSeat g gm) nh a')
 (hk:∀y w',Z.bor x i y→TI Z g (fun j=>((A j || j == i) && (j != i || Z.liv y i))=true) (moreV vs i w) (moreN N w) (fun j=>if j=i then !Z.liv y i else ov j) y w'→Kept g (moreN N w) (moreV vs i w) i w w'→
   Tok Try.prog g.K g.Still g.top Gl (inb Z g s0 (fun j=>(A j || j == i) && (j != i || Z.liv y i)) (moreV vs i w) (some (backSeat g gm)) y) 0 (nn+1) (Go.Conc.served gm (.agg #[])) w'):
 Tok Try.prog g.K g.Still g.top Gl (inb Z g s0 A vs ms x) 0 nn a w:=by
 have hAn':∀j,A j=true→j<g.n:=fun j h=>by have:=hAn j h;omega
 have hAi:A i=false:=by
  cases e:A i with
  | false=>rfl
  | true=>have:=hAn i e;omega
 have hiH:Has g i:=⟨hin⟩
 have hfalse:(s0+i == 0)=false:=by simp;omega
 refine tok_main (gm:=gm) hAn' hs0 H ?_
 have hnone:inb Z g s0 A vs (some (backSeat g gm)) x (s0+i)=none:=by
  unfold inb
  rw[if_neg (by omega),if_neg (fun h=>by have:=h.2;simp[hAi]at this)]
 refine tok_hire_give (Inb':=inb Z g s0 A vs (some (backSeat g gm)) x) K_at hrun hgo (by simp) (by rw[hnn];exact hnone) (fun _ _=>rfl) (.inl rfl) (.inl ⟨backSeat g gm,nh,rfl,hsit⟩) (fun d=>?_)
 subst hnn
 have Hd:=H.at zok d
 have htd:g.top≤(w.at d).heap.size:=ht
 have esz:(w.at d).heap.size=w.heap.size:=rfl
 have k0:Kept g (moreN N w) (moreV vs i w) i w (w.at d):=Kept.at _ _
 have eN:moreN N w=moreN N (w.at d):=rfl
 have eV:moreV vs i w=moreV vs i (w.at d):=rfl
 rw[eN,eV]at hk k0
 clear eN eV esz
 suffices hmain:∀w1:World,TI Z g (fun j=>A j=true) vs N ov x w1→g.top≤w1.heap.size→(∀y w',Z.bor x i y→TI Z g (fun j=>((A j || j == i) && (j != i || Z.liv y i))=true) (moreV vs i w1) (moreN N w1) (fun j=>if j=i then !Z.liv y i else ov j) y w'→Kept g (moreN N w1) (moreV vs i w1) i w1 w'→
  Tok Try.prog g.K g.Still g.top Gl (inb Z g s0 (fun j=>(A j || j == i) && (j != i || Z.liv y i)) (moreV vs i w1) (some (backSeat g gm)) y) 0 (s0+i+1) (Go.Conc.served gm (.agg #[])) w')→
  Tok Try.prog g.K g.Still g.top Gl (inb Z g s0 A vs (some (backSeat g gm)) x) (s0+i) (s0+i+1) (born Try.prog (callRun g i (.func (.func Z.fid) #[] (Z.cap i)))) w1 from
  hmain (w.at d) Hd htd fun y w' h0 h1 h2=>hk y w' h0 h1 (k0.trans h2)
 clear hk k0 Hd htd hgo hrun hsit H ht
 intro w1 H ht hk
 refine tok_intro fun _ hK1 _=>?_
 have hpl1:∀a v,g.Place a v→held (FT N w1) a:=fun a v p=>ft_held (hK1 a v p) (H.nplace a v p)
 refine tok_own (F:=FT N w1) (Stop:=fun b w2=>b=G ((baseD 101).at ⟨#[.pointer (some ⟨g.tb,0,none⟩),.int .i64 i,.func (.func Z.fid) #[] (Z.cap i),.pointer (some ⟨w1.heap.size,0,none⟩),.pointer (some ⟨w1.heap.size+1,0,none⟩),undef,.pointer (some ⟨w1.heap.size+2,0,none⟩),runFn ⟨w1.heap.size,w1.heap.size+2,w1.heap.size+1⟩,
  undef,undef,undef,undef,undef,undef,undef,undef,undef,undef,undef,undef],[runEnd ⟨w1.heap.size,w1.heap.size+2,w1.heap.size+1⟩]⟩ [.code runRest]) [bot]∧∃d,w2=(madeRun g i w1).at d) K_at (Gate.covers hpl1) (fun w w' hg h=>h.gd hpl1 hg)
  (by rw[hfalse];exact own_run (ft_under N w1) (Nat.le_refl _) (.stop fun d=>⟨rfl,d,rfl⟩)) fun g' w0 d' hS=>?_
 obtain⟨rfl,d2,e2⟩:=hS d'
 rw[e2]
 have H2:=((H.made zok hin (fun j hj e=>by subst e;rw[hAi]at hj;cases hj) ht).at zok d2)
 have k2:Kept g (moreN N w1) (moreV vs i w1) i w1 ((madeRun g i w1).at d2):=⟨by simp[madeRun,size_at'];omega,fun a v h _ _ _ _=>(((h.alloc _).alloc _).alloc _).at d2,fun r c e z h _ _ _ _=>by
  have hlt:=(alt h)
  show(madeRun g i w1).heap[r]? =_
  unfold madeRun
  rw[heap_alloc_lt _ _ (by simp;omega),heap_alloc_lt _ _ (by simp;omega),heap_alloc_lt _ _ hlt]⟩
 have hv:VarsOk g i (moreV vs i w1 i) ((madeRun g i w1).at d2):=H2.vars i (.inr rfl)
 have evi:moreV vs i w1 i=⟨w1.heap.size,w1.heap.size+2,w1.heap.size+1⟩:=if_pos rfl
 change TI Z g (fun j=>A j=true∨j=i) (moreV vs i w1) (moreN N w1) ov x ((madeRun g i w1).at d2)at H2
 generalize (madeRun g i w1).at d2=w3 at*
 rw[← evi]
 show Tok _ _ _ _ _ _ _ _ (G ((baseD 101).at ⟨#[.pointer (some ⟨g.tb,0,none⟩),.int .i64 i,.func (.func Z.fid) #[] (Z.cap i),.pointer (some ⟨w1.heap.size,0,none⟩),.pointer (some ⟨w1.heap.size+1,0,none⟩),undef,.pointer (some ⟨w1.heap.size+2,0,none⟩),runFn (moreV vs i w1 i),
  undef,undef,undef,undef,undef,undef,undef,undef,undef,undef,undef,undef],[runEnd (moreV vs i w1 i)]⟩ [.code runRest]) [bot]) w3
 have ex:w1.heap.size=(moreV vs i w1 i).x:=by rw[evi]
 have ei:w1.heap.size+1=(moreV vs i w1 i).i:=by rw[evi]
 have ee:w1.heap.size+2=(moreV vs i w1 i).e:=by rw[evi]
 rw[ei,ee,ex]
 generalize hNN:moreN N w1=NN at*
 generalize hVV:moreV vs i w1=VV at*
 refine tok_intro fun _ hK3 _=>?_
 have hpl3:∀a v,g.Place a v→held (FT NN w3) a:=fun a v p=>ft_held (hK3 a v p) (H2.nplace a v p)
 have hborn:=zok.born x i hin hnw (FT NN w3) w3 (rf g i (VV i) (.func (.func Z.fid) #[] (Z.cap i))) [bot] H2.u (ft_wf w3) (fun r hr=>ft_none (H2.apart r hr))
 refine tok_own (F:=FT NN w3) K_at (Gate.covers hpl3) (fun w w' hg h=>h.gd hpl3 hg) (by rw[hfalse];exact own_gd (own_run2 zok.call hK3 hv hborn)) fun g' w0 d' hS=>?_
 obtain⟨hg,y,hby,hU,hR,hto⟩:=hS d'
 have H3:=H2.user hU hR hg
 refine tok_back (A:=fun j=>A j || j == i) zok hs0 hin (fun j hj=>?_) (gm:=gm) (inb_congr fun j hj=>⟨by simp[hj],(zok.borO x i y j hby hj).2.symm,?_⟩) (fun s c e hc=>by rw[hnone]at e;cases e) (H3.mono fun j hj=>by simpa using hj) (by simp) hov hto fun w' H4 k4=>hk y w' hby H4 ((k2.trans (Kept.gd hg)).trans k4)
 ·simp only[Bool.or_eq_true,beq_iff_eq]at hj
  rcases hj with hj|rfl
  ·exact hAn' j hj
  ·exact hin
 ·rw[← hVV];simp[moreV,hj]
end
noncomputable section
open Go.ConcN (sumTo upd sumTo_upd upd_ne upd_same)
variable{g:Gate}{F:Fz}
def letBody:Code:=Try.f103.body.getD .skip
def letWait:Code:=match letBody with| .seq _ y=>y|_=>.skip
def letOps:Array Oper:=match letWait with| .region _ o _=>o|_=> #[]
theorem enter_let(args:Array Value):Frame.enter Try.prog 103 args .normal=(base 103).at {tmps:=args++Array.replicate (22 - args.size) undef,defers:=[]} [.code letBody]:=
 enter_at args Try.func103 rfl
def letAt(g:Gate)(i:Nat)(b:Bool)(cs:List Frame):Goroutine:=
 G ((base 103).at ⟨#[.pointer (some ⟨g.tb,0,none⟩),.int .i64 i,.bool b,undef,undef,undef,.pointer (some ⟨g.tb,0,none⟩),.pointer (some ⟨g.tb,0,none⟩),.pointer (some ⟨g.tb,1,none⟩),.slice (some ⟨g.sa,0,none⟩) g.n g.sc,.int .i64 i,.pointer (some ⟨g.sa,i,none⟩),.pointer (some ⟨g.st i,0,none⟩),.pointer (some ⟨g.st i,0,none⟩),.pointer (some ⟨g.st i,1,none⟩),
   .chan (some (g.pc i)),.bool b,.pointer (some ⟨g.tb,0,none⟩),.pointer (some ⟨g.tb,0,none⟩),.pointer (some ⟨g.tb,0,none⟩),.chan (some g.bk),undef],[]⟩ [.inRegion letOps [4]]) cs
theorem let_give [ok:Fits g] {i:Nat} [hi:Has g i] {b:Bool}{cs:List Frame}{w:World}(hK:g.K w):
 Goes Try.prog true AtRel (DQ g.Still g.top) (AtGive Try.prog true g.Still g.top (g.pc i) (.bool b) fun x=>Sits Try.prog true g.K g.Still g.top (backSeat g (letAt g i b cs)) 7 x) 13 (G (Frame.enter Try.prog 103 #[.pointer (some ⟨g.tb,0,none⟩),.int .i64 i,.bool b] .normal) cs) w:=by
 have hi':=hi.lt
 have hsl:=ok.ok.sl (Nat.lt_of_le_of_lt (Nat.zero_le _) hi')
 have hsa:g.sa<g.top:=ok.ok.low _ _ (.stand i hi')
 rw[enter_let]
 simp only[letBody,Try.f103,Option.getD_some]
 walk_nrm
 q_c stepG_seq
 q_reg
 q_op
 q_op
 q_op
 q_ld [((hK _ _ .stands).at dd).c,((hK _ _ .stands).at dd).z]
 q_op
 (q_in;refine goes_oper_k rfl rfl (by decide) (fun K hK'=>?_);go_simp;refine hK' _ _ ⟨⟨rfl,fun e he=>?_⟩,?_⟩)
 ·have hm:=mem_listed he
  simp[go_sem, *]at hm
 clear hK' K
 (q_in;refine goes_oper_k rfl rfl (by decide) (fun K hK'=>?_)
  have h1:=((hK _ _ (.stand i hi')).at dd).c
  have h2:=((hK _ _ (.stand i hi')).at dd).z
  go_simp;refine hK' _ _ ⟨⟨rfl,fun e he=>by(have hm:=mem_listed he;simp[go_sem, *]at hm;subst hm;exact evHd_read _ hsa)⟩,?_⟩;clear hK' K)
 q_op
 q_op
 q_ld [((hK _ _ (.pass i hi')).at dd).c,((hK _ _ (.pass i hi')).at dd).z]
 q_op
 refine fun w₁ h₁=>?_
 obtain⟨d₁,rfl⟩:=h₁
 refine atGive_of (z':=.tuple #[]) rfl rfl (by decide) (fun w=>by simp[execOp,scase,Act.eval]) (fun w=>by simp[go_sem,execOp,Act.eval]) ?_ _
 refine .inl ⟨6,w,rfl,?_⟩
 rw[served_fr,Frame.finish_at]
 walk_nrm
 k_c stepG_region_end
 k_reg
 iterate 3 (k_in;refine goes_oper_k rfl rfl (by decide) (fun K hK=>?_);go_simp;refine hK _ _ ⟨⟨rfl,fun e he=>by(have hm:=mem_listed he;simp[go_sem]at hm)⟩,?_⟩;clear hK K)
 k_ld [(Gate.K.lies h₁ _ _ .back).c,(Gate.K.lies h₁ _ _ .back).z] (Gate.still .back)
 exact fun _ _=>⟨_,atIn_of (s:=backSeat g (letAt g i b cs)) rfl rfl (by decide) (fun w=>by simp[go_sem,execOp,rcase,Act.eval,backSeat,Seat.one]) (fun w=>by simp[go_sem,execOp,Act.eval]) (by simp[letAt,letOps,letWait,letBody,Try.f103,backSeat,Seat.one])⟩
theorem let_done{i:Nat}{b:Bool}{c:Frame}{cs:List Frame}{w:World}{Stop:Goroutine→World→Prop}(h:Own Try.prog true F Stop (G (c.finish (.tuple #[])) cs) w):
 Own Try.prog true F Stop (Go.Conc.served (letAt g i b (c::cs)) (.agg #[])) w:=by
 unfold letAt
 rw[served_fr,Frame.finish_at]
 simp only[letOps,letWait,letBody,Try.f103,Option.getD_some]
 walk_nrm
 refine ogE ?_
 refine own_go rfl (fun d=>stepG_end) ?_
 refine own_go rfl (fun d=>stepG_leave (fn:=Try.f103) (v:=.tuple #[]) rfl rfl Try.func103 (by simp[results,Try.f103]) (by simp[results,Try.f103,go_sem])) ?_
 exact h
end
section
open Go.ConcN (sumTo upd sumTo_upd upd_ne upd_same)
variable{g:Gate}{F:Fz}{Z:Users}{A:Nat→Bool}{vs:Nat→Vars}{N:Nat→Prop}{ov:Nat→Bool}{x y:Z.X}{w w':World}{s0 nn:Nat}{Gl:Machine→Trace→Prop}{Inb:Nat→Option Seat}{h:Nat}
theorem fk_covers [ok:Fits g]:Covers (FK g) g.Still:=Gate.covers fun a v p=>fk_place ok.ok p
theorem fk_K [ok:Fits g]:∀w w',Gd (FK g) w w'→g.K w→g.K w':=fun w w' hg h=>h.gd (fun a v p=>fk_place ok.ok p) hg
theorem tok_silent [ok:Fits g] {a b:Goroutine}(ho:Own Try.prog (h == 0) (FK g) (fun c u=>c=b∧∃d,u=w.at d) a w)(hk:∀d,Tok Try.prog g.K g.Still g.top Gl Inb h nn b (w.at d)):Tok Try.prog g.K g.Still g.top Gl Inb h nn a w:=by
 refine tok_own (F:=FK g) K_at fk_covers fk_K ho fun g' w0 d hS=>?_
 obtain⟨rfl,d',e⟩:=hS d
 rw[e]
 exact hk d'
theorem tok_let [ok:Fits g] (zok:Z.Ok g)(hs0:0<s0)(hAn:∀j,A j=true→j<g.n∧s0+j<nn){i:Nat}(hA:A i=true)(hl:Z.liv x i=true)(H:TI Z g (fun j=>A j=true) vs N ov x w)(hov:ov i=false){ms:Option Seat}{c:Frame}{cs:List Frame}
 (hk:∀y w',Z.stp x i y→TI Z g (fun j=>(A j && (j != i || Z.liv y i))=true) vs N (fun j=>if j=i then !Z.liv y i else ov j) y w'→Kept g N vs i w w'→
   Tok Try.prog g.K g.Still g.top Gl (inb Z g s0 (fun j=>A j && (j != i || Z.liv y i)) vs (some (backSeat g (letAt g i true (c::cs)))) y) 0 nn (G (c.finish (.tuple #[])) cs) w'):
 Tok Try.prog g.K g.Still g.top Gl (inb Z g s0 A vs ms x) 0 nn (G (Frame.enter Try.prog 103 #[.pointer (some ⟨g.tb,0,none⟩),.int .i64 i,.bool true] .normal) (c::cs)) w:=by
 have hiH:Has g i:=⟨(hAn i hA).1⟩
 refine tok_intro fun _ hK _=>?_
 refine tok_walk K_at (let_give (cs:=c::cs) hK) fun g' d hgv=>?_
 refine tok_turn zok hs0 hAn hA hl (H.at zok d) hov hgv fun y w' hy H' k'=>?_
 refine tok_silent (let_done (.stop fun d=>⟨rfl,d,rfl⟩)) fun d'=>hk y _ hy (H'.at zok d') ?_
 exact(Kept.at w d).trans (k'.trans (Kept.at _ d'))
theorem tok_let_end [ok:Fits g] (zok:Z.Ok g)(hs0:0<s0)(hAn:∀j,A j=true→j<g.n∧s0+j<nn){i:Nat}(hA:A i=true)(hl:Z.liv x i=true)(H:TI Z g (fun j=>A j=true) vs N ov x w)(hov:ov i=false){ms:Option Seat}{c:Frame}{cs:List Frame}
 (hk:∀w',TI Z g (fun j=>(A j && j != i)=true) vs N (fun j=>if j=i then true else ov j) x w'→Kept g N vs i w w'→
   Tok Try.prog g.K g.Still g.top Gl (inb Z g s0 (fun j=>A j && j != i) vs (some (backSeat g (letAt g i false (c::cs)))) x) 0 nn (G (c.finish (.tuple #[])) cs) w'):
 Tok Try.prog g.K g.Still g.top Gl (inb Z g s0 A vs ms x) 0 nn (G (Frame.enter Try.prog 103 #[.pointer (some ⟨g.tb,0,none⟩),.int .i64 i,.bool false] .normal) (c::cs)) w:=by
 have hiH:Has g i:=⟨(hAn i hA).1⟩
 refine tok_intro fun _ hK _=>?_
 refine tok_walk K_at (let_give (cs:=c::cs) hK) fun g' d hgv=>?_
 refine tok_kill zok hs0 hAn hA hl (H.at zok d) hov hgv fun w' H' k'=>?_
 refine tok_silent (let_done (.stop fun d=>⟨rfl,d,rfl⟩)) fun d'=>hk _ (H'.at zok d') ?_
 exact(Kept.at w d).trans (k'.trans (Kept.at _ d'))
end
noncomputable section
open Go.ConcN (sumTo upd sumTo_upd upd_ne upd_same)
variable{g:Gate}{F:Fz}{w:World}
structure Mine where
 mo:Nat
 od:Nat
 n:Nat
 lf:Nat
def step1Body:Code:=Try.f102.body.getD .skip
theorem enter_step1(args:Array Value):Frame.enter Try.prog 102 args .normal=(base 102).at {tmps:=args++Array.replicate (51 - args.size) undef,defers:=[]} [.code step1Body]:=
 enter_at args Try.func102 rfl
def step1Args(g:Gate)(v:Mine)(i:Int):Array Value:= #[.int .i64 i,.pointer (some ⟨v.n,0,none⟩),.pointer (some ⟨g.tv,0,none⟩),.pointer (some ⟨v.od,0,none⟩),.pointer (some ⟨v.mo,0,none⟩),.pointer (some ⟨v.lf,0,none⟩)]
theorem step1_neg{v:Mine}{i:Int}(hi:i<0){c:Frame}{cs:List Frame}{main:Bool}{Stop:Goroutine→World→Prop}(h:Own Try.prog main F Stop (G (c.finish (.tuple #[])) cs) w):
 Own Try.prog main F Stop (G (Frame.enter Try.prog 102 (step1Args g v i) .normal) (c::cs)) w:=by
 have hd:decide (i<0)=true:=by simpa using hi
 unfold step1Args
 rw[enter_step1]
 simp only[step1Body,Try.f102,Option.getD_some]
 walk_nrm
 refine ogS ?_
 refine ogS ?_
 (refine ogR ?_;simp only[List.size_toArray,List.length_cons,List.length_nil,Nat.reduceAdd,Nat.zero_add,List.range,List.range.loop])
 iterate 3 (refine oW fun dd K hK=>?_;go_simp;refine qT hK ?_;clear hK K)
 iterate 2 refine ogU rfl rfl ?_
 walk_nrm
 refine ogU rfl rfl ?_
 walk_nrm
 iterate 2 (refine oW fun dd K hK=>?_;go_simp;refine qT hK ?_;clear hK K)
 iterate 2 refine ogU rfl rfl ?_
 walk_nrm
 iterate 2 refine ogU rfl rfl ?_
 walk_nrm
 iterate 2 refine ogU rfl rfl ?_
 walk_nrm
 iterate 2 refine ogU rfl rfl ?_
 walk_nrm
 iterate 2 refine ogU rfl rfl ?_
 walk_nrm
 iterate 2 (refine oW fun dd K hK=>?_;go_simp;refine qT hK ?_;clear hK K)
 iterate 2 refine ogU rfl rfl ?_
 walk_nrm
 iterate 2 refine ogU rfl rfl ?_
 walk_nrm
 (refine oW fun dd K hK=>?_;go_simp;refine qT hK ?_;clear hK K)
 refine ogE ?_
 refine ogT ?_
 simp only[if_true]
 refine ogX ?_
 refine own_go rfl (fun d=>stepG_leave (fn:=Try.f102) (v:=.tuple #[]) rfl rfl Try.func102 (by simp[results,Try.f102]) (by simp[results,Try.f102,go_sem])) ?_
 exact h
theorem step1_high{v:Mine}{i:Int}(hi:0≤i)(hn:(g.n:Int)≤i)(hl:Lies w ⟨v.n,0,none⟩ (.int .i64 g.n)){c:Frame}{cs:List Frame}{main:Bool}{Stop:Goroutine→World→Prop}(h:Own Try.prog main F Stop (G (c.finish (.tuple #[])) cs) w):
 Own Try.prog main F Stop (G (Frame.enter Try.prog 102 (step1Args g v i) .normal) (c::cs)) w:=by
 have hd:decide (i<0)=false:=by simpa using hi
 have hd2:decide ((g.n:Int)≤i)=true:=by simpa using hn
 have c1:=hl.c
 have z1:=hl.z
 unfold step1Args
 rw[enter_step1]
 simp only[step1Body,Try.f102,Option.getD_some]
 walk_nrm
 refine ogS ?_
 refine ogS ?_
 (refine ogR ?_;simp only[List.size_toArray,List.length_cons,List.length_nil,Nat.reduceAdd,Nat.zero_add,List.range,List.range.loop])
 iterate 4 (refine oW fun dd K hK=>?_;go_simp;refine qT hK ?_;clear hK K)
 (refine oW fun dd K hK=>?_;go_simp;refine qL hK ?_;clear hK K)
 iterate 3 (refine oW fun dd K hK=>?_;go_simp;refine qT hK ?_;clear hK K)
 iterate 2 refine ogU rfl rfl ?_
 walk_nrm
 iterate 2 refine ogU rfl rfl ?_
 walk_nrm
 iterate 2 refine ogU rfl rfl ?_
 walk_nrm
 iterate 2 refine ogU rfl rfl ?_
 walk_nrm
 iterate 2 refine ogU rfl rfl ?_
 walk_nrm
 iterate 2 (refine oW fun dd K hK=>?_;go_simp;refine qT hK ?_;clear hK K)
 iterate 2 refine ogU rfl rfl ?_
 walk_nrm
 iterate 2 refine ogU rfl rfl ?_
 walk_nrm
 (refine oW fun dd K hK=>?_;go_simp;refine qT hK ?_;clear hK K)
 refine ogE ?_
 refine ogT ?_
 simp only[if_true]
 refine ogX ?_
 refine own_go rfl (fun d=>stepG_leave (fn:=Try.f102) (v:=.tuple #[]) rfl rfl Try.func102 (by simp[results,Try.f102]) (by simp[results,Try.f102,go_sem])) ?_
 exact h
theorem step1_over [ok:Fits g] {v:Mine}{i:Nat} [hi:Has g i] (hK:g.K w)(hl:Lies w ⟨v.n,0,none⟩ (.int .i64 g.n))(ho:Lies w ⟨g.st i,2,none⟩ (.bool true)){c:Frame}{cs:List Frame}{main:Bool}{Stop:Goroutine→World→Prop}(h:Own Try.prog main F Stop (G (c.finish (.tuple #[])) cs) w):
 Own Try.prog main F Stop (G (Frame.enter Try.prog 102 (step1Args g v i) .normal) (c::cs)) w:=by
 have hin:=hi.lt
 have hd:decide ((i:Int)<0)=false:=by simp
 have hd2:decide ((g.n:Int)≤(i:Int))=false:=by simp;omega
 have hd3:decide (g.n≤i)=false:=by simp;omega
 have hsl:=ok.ok.sl (Nat.lt_of_le_of_lt (Nat.zero_le _) hin)
 have c1:=hl.c
 have z1:=hl.z
 have c2:=(hK _ _ .tv).c
 have z2:=(hK _ _ .tv).z
 have c3:=(hK _ _ .stands).c
 have z3:=(hK _ _ .stands).z
 have c4:=(hK _ _ (.stand i hin)).c
 have z4:=(hK _ _ (.stand i hin)).z
 have c5:=ho.c
 have z5:=ho.z
 rw[hsl]at c3
 unfold step1Args
 rw[enter_step1]
 simp only[step1Body,Try.f102,Option.getD_some]
 walk_nrm
 refine ogS ?_
 refine ogS ?_
 (refine ogR ?_;simp only[List.size_toArray,List.length_cons,List.length_nil,Nat.reduceAdd,Nat.zero_add,List.range,List.range.loop])
 iterate 4 (refine oW fun dd K hK=>?_;go_simp;refine qT hK ?_;clear hK K)
 (refine oW fun dd K hK=>?_;go_simp;refine qL hK ?_;clear hK K)
 iterate 3 (refine oW fun dd K hK=>?_;go_simp;refine qT hK ?_;clear hK K)
 (refine oW fun dd K hK=>?_;go_simp;refine qL hK ?_;clear hK K)
 iterate 2 (refine oW fun dd K hK=>?_;go_simp;refine qT hK ?_;clear hK K)
 (refine oW fun dd K hK=>?_;go_simp;refine qL hK ?_;clear hK K)
 (refine oW fun dd K hK=>?_;go_simp;refine qT hK ?_;clear hK K)
 (refine oW fun dd K hK=>?_;go_simp;refine hK _ _ ⟨⟨⟨0,Grew.refl _ _⟩,fun e he=>by(have hm:=mem_listed he;simp[go_sem, *]at hm)⟩,Own.at ?_ dd⟩;clear hK K)
 (refine oW fun dd K hK=>?_;go_simp;refine qL hK ?_;clear hK K)
 iterate 2 (refine oW fun dd K hK=>?_;go_simp;refine qT hK ?_;clear hK K)
 (refine oW fun dd K hK=>?_;go_simp;refine qL hK ?_;clear hK K)
 iterate 2 (refine oW fun dd K hK=>?_;go_simp;refine qT hK ?_;clear hK K)
 iterate 2 refine ogU rfl rfl ?_
 walk_nrm
 iterate 2 refine ogU rfl rfl ?_
 walk_nrm
 (refine oW fun dd K hK=>?_;go_simp;refine qT hK ?_;clear hK K)
 refine ogE ?_
 refine ogT ?_
 simp only[if_true]
 refine ogX ?_
 refine own_go rfl (fun d=>stepG_leave (fn:=Try.f102) (v:=.tuple #[]) rfl rfl Try.func102 (by simp[results,Try.f102]) (by simp[results,Try.f102,go_sem])) ?_
 exact h
theorem step1_full [ok:Fits g] {v:Mine}{i:Nat} [hi:Has g i] (hK:g.K w)(hl:Lies w ⟨v.n,0,none⟩ (.int .i64 g.n))(ho:Lies w ⟨g.st i,2,none⟩ (.bool false)){oa:Option Addr}{ol oc M:Nat}(lo:Lies w ⟨v.od,0,none⟩ (.slice oa ol oc))(lm:Lies w ⟨v.mo,0,none⟩ (.int .i64 M))(hM:ol=M)
 {c:Frame} {cs:List Frame} {main:Bool} {Stop:Goroutine→World→Prop} (h:Own Try.prog main F Stop (G (c.finish (.tuple #[])) cs) w):
 Own Try.prog main F Stop (G (Frame.enter Try.prog 102 (step1Args g v i) .normal) (c::cs)) w:=by
 subst hM
 have hin:=hi.lt
 have hd:decide ((i:Int)<0)=false:=by simp
 have hd2:decide ((g.n:Int)≤(i:Int))=false:=by simp;omega
 have hd3:decide (g.n≤i)=false:=by simp;omega
 have hsl:=ok.ok.sl (Nat.lt_of_le_of_lt (Nat.zero_le _) hin)
 have c1:=hl.c
 have z1:=hl.z
 have c2:=(hK _ _ .tv).c
 have z2:=(hK _ _ .tv).z
 have c3:=(hK _ _ .stands).c
 have z3:=(hK _ _ .stands).z
 have c4:=(hK _ _ (.stand i hin)).c
 have z4:=(hK _ _ (.stand i hin)).z
 have c5:=ho.c
 have z5:=ho.z
 rw[hsl]at c3
 have c6:=lo.c
 have z6:=lo.z
 have c7:=lm.c
 have z7:=lm.z
 unfold step1Args
 rw[enter_step1]
 simp only[step1Body,Try.f102,Option.getD_some]
 walk_nrm
 refine ogS ?_
 refine ogS ?_
 (refine ogR ?_;simp only[List.size_toArray,List.length_cons,List.length_nil,Nat.reduceAdd,Nat.zero_add,List.range,List.range.loop])
 iterate 4 (refine oW fun dd K hK=>?_;go_simp;refine qT hK ?_;clear hK K)
 (refine oW fun dd K hK=>?_;go_simp;refine qL hK ?_;clear hK K)
 iterate 3 (refine oW fun dd K hK=>?_;go_simp;refine qT hK ?_;clear hK K)
 (refine oW fun dd K hK=>?_;go_simp;refine qL hK ?_;clear hK K)
 iterate 2 (refine oW fun dd K hK=>?_;go_simp;refine qT hK ?_;clear hK K)
 (refine oW fun dd K hK=>?_;go_simp;refine qL hK ?_;clear hK K)
 (refine oW fun dd K hK=>?_;go_simp;refine qT hK ?_;clear hK K)
 (refine oW fun dd K hK=>?_;go_simp;refine hK _ _ ⟨⟨⟨0,Grew.refl _ _⟩,fun e he=>by(have hm:=mem_listed he;simp[go_sem, *]at hm)⟩,Own.at ?_ dd⟩;clear hK K)
 (refine oW fun dd K hK=>?_;go_simp;refine qL hK ?_;clear hK K)
 iterate 2 (refine oW fun dd K hK=>?_;go_simp;refine qT hK ?_;clear hK K)
 (refine oW fun dd K hK=>?_;go_simp;refine qL hK ?_;clear hK K)
 iterate 2 (refine oW fun dd K hK=>?_;go_simp;refine qT hK ?_;clear hK K)
 (refine oW fun dd K hK=>?_;go_simp;refine qL hK ?_;clear hK K)
 (refine oW fun dd K hK=>?_;go_simp;refine qT hK ?_;clear hK K)
 (refine oW fun dd K hK=>?_;go_simp;refine qL hK ?_;clear hK K)
 iterate 2 (refine oW fun dd K hK=>?_;go_simp;refine qT hK ?_;clear hK K)
 refine ogE ?_
 refine ogT ?_
 simp only[if_true]
 refine ogX ?_
 refine own_go rfl (fun d=>stepG_leave (fn:=Try.f102) (v:=.tuple #[]) rfl rfl Try.func102 (by simp[results,Try.f102]) (by simp[results,Try.f102,go_sem])) ?_
 exact h
def step1App:Code:=match step1Body with| .seq _ (.seq a _)=>a|_=>.skip
def step1Rest:Code:=match step1Body with| .seq _ (.seq _ a)=>a|_=>.skip
def step1At(g:Gate)(v:Mine)(i:Nat)(oa:Option Addr)(ol oc M:Nat):Act:=
 ⟨#[.int .i64 i,.pointer (some ⟨v.n,0,none⟩),.pointer (some ⟨g.tv,0,none⟩),.pointer (some ⟨v.od,0,none⟩),.pointer (some ⟨v.mo,0,none⟩),.pointer (some ⟨v.lf,0,none⟩),undef,.int .i64 i,.bool false,.bool false,.int .i64 i,.int .i64 g.n,.bool false,.bool false,.bool false,
  .pointer (some ⟨g.tb,0,none⟩),.pointer (some ⟨g.tb,0,none⟩),.pointer (some ⟨g.tb,1,none⟩),.slice (some ⟨g.sa,0,none⟩) g.n g.sc,.int .i64 i,.pointer (some ⟨g.sa,i,none⟩),.pointer (some ⟨g.st i,0,none⟩),.pointer (some ⟨g.st i,0,none⟩),.pointer (some ⟨g.st i,2,none⟩),.bool false,.bool false,.bool false,
  .slice oa ol oc,.int .i64 ol,.int .i64 M,.bool false,.bool false,undef,undef,undef,undef,undef,undef,undef,undef,undef,undef,undef,undef,undef,undef,undef,undef,undef,undef,undef],[]⟩
theorem step1_go [ok:Fits g] {v:Mine}{i:Nat} [hi:Has g i] (hK:g.K w)(hl:Lies w ⟨v.n,0,none⟩ (.int .i64 g.n))(ho:Lies w ⟨g.st i,2,none⟩ (.bool false)){oa:Option Addr}{ol oc M:Nat}(lo:Lies w ⟨v.od,0,none⟩ (.slice oa ol oc))(lm:Lies w ⟨v.mo,0,none⟩ (.int .i64 M))(hM:ol≠M)
 {cs:List Frame} {main:Bool} {Stop:Goroutine→World→Prop} (h:Own Try.prog main F Stop (G ((base 102).at (step1At g v i oa ol oc M) [.code step1App,.code step1Rest]) cs) w):
 Own Try.prog main F Stop (G (Frame.enter Try.prog 102 (step1Args g v i) .normal) cs) w:=by
 have hM2:((ol:Int) == (M:Int))=false:=by simp;omega
 have hM3:(ol == M)=false:=by simp;omega
 have hin:=hi.lt
 have hd:decide ((i:Int)<0)=false:=by simp
 have hd2:decide ((g.n:Int)≤(i:Int))=false:=by simp;omega
 have hd3:decide (g.n≤i)=false:=by simp;omega
 have hsl:=ok.ok.sl (Nat.lt_of_le_of_lt (Nat.zero_le _) hin)
 have c1:=hl.c
 have z1:=hl.z
 have c2:=(hK _ _ .tv).c
 have z2:=(hK _ _ .tv).z
 have c3:=(hK _ _ .stands).c
 have z3:=(hK _ _ .stands).z
 have c4:=(hK _ _ (.stand i hin)).c
 have z4:=(hK _ _ (.stand i hin)).z
 have c5:=ho.c
 have z5:=ho.z
 rw[hsl]at c3
 have c6:=lo.c
 have z6:=lo.z
 have c7:=lm.c
 have z7:=lm.z
 unfold step1Args
 rw[enter_step1]
 simp only[step1Body,Try.f102,Option.getD_some]
 walk_nrm
 refine ogS ?_
 refine ogS ?_
 (refine ogR ?_;simp only[List.size_toArray,List.length_cons,List.length_nil,Nat.reduceAdd,Nat.zero_add,List.range,List.range.loop])
 iterate 4 (refine oW fun dd K hK=>?_;go_simp;refine qT hK ?_;clear hK K)
 (refine oW fun dd K hK=>?_;go_simp;refine qL hK ?_;clear hK K)
 iterate 3 (refine oW fun dd K hK=>?_;go_simp;refine qT hK ?_;clear hK K)
 (refine oW fun dd K hK=>?_;go_simp;refine qL hK ?_;clear hK K)
 iterate 2 (refine oW fun dd K hK=>?_;go_simp;refine qT hK ?_;clear hK K)
 (refine oW fun dd K hK=>?_;go_simp;refine qL hK ?_;clear hK K)
 (refine oW fun dd K hK=>?_;go_simp;refine qT hK ?_;clear hK K)
 (refine oW fun dd K hK=>?_;go_simp;refine hK _ _ ⟨⟨⟨0,Grew.refl _ _⟩,fun e he=>by(have hm:=mem_listed he;simp[go_sem, *]at hm)⟩,Own.at ?_ dd⟩;clear hK K)
 (refine oW fun dd K hK=>?_;go_simp;refine qL hK ?_;clear hK K)
 iterate 2 (refine oW fun dd K hK=>?_;go_simp;refine qT hK ?_;clear hK K)
 (refine oW fun dd K hK=>?_;go_simp;refine qL hK ?_;clear hK K)
 iterate 2 (refine oW fun dd K hK=>?_;go_simp;refine qT hK ?_;clear hK K)
 (refine oW fun dd K hK=>?_;go_simp;refine qL hK ?_;clear hK K)
 (refine oW fun dd K hK=>?_;go_simp;refine qT hK ?_;clear hK K)
 (refine oW fun dd K hK=>?_;go_simp;refine qL hK ?_;clear hK K)
 iterate 2 (refine oW fun dd K hK=>?_;go_simp;refine qT hK ?_;clear hK K)
 refine ogE ?_
 refine ogF ?_
 simp only[Bool.false_eq_true,if_false]
 refine ogK ?_
 refine ogS ?_
 exact h
end
section
theorem prog_ahead:Try.prog.follows .staticDataAhead=true:=by kernel_rfl
theorem prog_noReady:Try.prog.funcs.all (fun f=>((f.body.map readies).map (fun l=>l.isEmpty)).getD true)=true:=by kernel_rfl
theorem prog_noStep(g:Nat):Try.prog.stepOf g=none:=by
 unfold Program.stepOf
 rw[Array.findIdx?_eq_none_iff]
 intro f hf
 have h:=Array.all_eq_true_iff_forall_mem.1 prog_noReady f hf
 cases hb:f.body with
 | none=>rfl
 | some c=>
   rw[hb]at h
   simp only[Option.map_some,Option.getD_some,List.isEmpty_iff]at h
   simp[h]
theorem prog_late:NoEarly Try.prog:=noEarly_of prog_ahead prog_noStep
theorem ready0:Ready Try.prog (fun _=>false):=⟨fun px f hf=>(by cases hf),prog_late⟩
end
noncomputable section
variable{g:Gate}
theorem info3:∃i,Try.prog.info? 3=some i∧i.zero=some (.int .i64 0)∧i.size=1∧i.bytes=8:=by
 have h:(Try.prog.info? 3).map (fun i=>(i.zero.map (·.cells),i.size,i.bytes))=some (some #[.int .i64 0],1,8):=by kernel_rfl
 have h0:(Try.prog.info? 3).bind (·.zero)=some (.int .i64 0):=by kernel_rfl
 obtain⟨i,hi,h1⟩:=Option.map_eq_some_iff.1 h
 rw[hi]at h0
 simp only[Prod.mk.injEq]at h1
 exact⟨i,hi,h0,h1.2.1,h1.2.2⟩
def step1At2(g:Gate)(v:Mine)(i:Nat)(oa:Option Addr)(ol oc M:Nat)(b nv:Value):Act:=
 ⟨((((step1At g v i oa ol oc M).tmps.setIfInBounds 32 (.slice oa ol oc)).setIfInBounds 33 (.int .i64 i)).setIfInBounds 34 b).setIfInBounds 35 nv,[]⟩
def AppPost(g:Gate)(v:Mine)(i:Nat)(oa:Option Addr)(ol oc M base:Nat)(xs:List Value)(W:World)(e:Exit)(a:Act)(w:World):Prop:=
 e= .normal∧∃nv w1,a=step1At2 g v i oa ol oc M (.slice (some ⟨W.heap.size,0,none⟩) 1 1) nv∧w1.ownsRow base 3 1 nv (ol+1) (xs++[.int .i64 i])∧(W.alloc (.cells #[.int .i64 i] 3)).grownBy w1 (Value.ownBlock (.slice oa ol oc))∧w=w1.setCell ⟨v.od,0,none⟩ nv
theorem own_ne{w:World}{base:Nat}{a:Option Addr}{n c:Nat}{xs:List Value}(h:w.ownsRow base 3 1 (.slice a n c) n xs){b:Nat}(hb:∀x,a=some x→x.block≠b):Value.ownBlock (.slice a n c)≠some b:=by
 cases a with
 | none=>simp[Value.ownBlock]
 | some x=>simp only[Value.ownBlock,ne_eq,Option.some.injEq];exact hb x rfl
theorem slice_form{w:World}{base n:Nat}{v:Value}{xs:List Value}(h:w.ownsRow base 3 1 v (n+1) xs):∃g cap,v= .slice (some ⟨g,0,none⟩) (n+1) cap:=by
 rcases h.2 with⟨_,h⟩|⟨g,cap,_,h,_⟩
 ·omega
 ·exact⟨g,cap,h⟩
theorem grown_cell{W w1:World}{base b:Nat}{oa:Option Addr}{ol oc:Nat}{xs:List Value}{o:Obj}(hlt:b<W.heap.size)(hown:W.ownsRow base 3 1 (.slice oa ol oc) ol xs)(hne:∀x,oa=some x→x.block≠b)(hg:(W.alloc o).grownBy w1 (Value.ownBlock (.slice oa ol oc))):
 w1.cell? ⟨b,0,none⟩=W.cell? ⟨b,0,none⟩∧w1.frozen? ⟨b,0,none⟩=W.frozen? ⟨b,0,none⟩:=by
 have hb:w1.heap[b]? =W.heap[b]?:=(hg.block b (by simp;omega) (fun e=>own_ne hown hne e.symm)).trans (heap_alloc_lt W _ hlt)
 exact⟨by unfold World.cell?;simp only[hb],by unfold World.frozen?;simp only[hb]⟩
theorem app_wp(v:Mine)(i:Nat)(oa:Option Addr)(ol oc M:Nat)(W:World)(xs:List Value)(base:Nat)(hbase:base≤W.heap.size)
 (hc:W.cell? ⟨v.od,0,none⟩=some (.slice oa ol oc)) (hz:W.frozen? ⟨v.od,0,none⟩=false) (hown:W.ownsRow base 3 1 (.slice oa ol oc) ol xs) (hne:∀x,oa=some x→x.block≠v.od) (hol:ol<2000000):
 step1App.wp Try.prog (AppPost g v i oa ol oc M base xs W) (step1At g v i oa ol oc M) W:=by
 obtain⟨i0,hi,hz0,hz1,hz2⟩:=info3
 have hlt:v.od<W.heap.size:=by
  unfold World.cell? at hc
  rcases Nat.lt_or_ge v.od W.heap.size with h|h
  ·exact h
  ·simp[Array.getElem?_eq_none h]at hc
 simp only[step1App,step1Body,Try.f102,Option.getD_some,step1At]
 go_wp2_with (at_builtin;refine wpList_append_own _ rfl _ _ 24 rfl base 3 i0 (.int .i64 0) 1 8 Try.underlying24 hi hz0 hz1 hz2 rfl (by decide) _ _ _ rfl (hown.alloc _) ⟨W.heap.size,0,none⟩ 1 1 [.int .i64 i] rfl rfl (cell_one_new _ _ _) (fun x hx=>by simp at hx;subst hx;rfl) (by unfold maxLen;omega) (by omega) (by simp;omega) ?_;intro nv w1 ho1 hg1 _;obtain⟨g3,cap3,hg3⟩:=slice_form ho1;subst hg3;have hc1:=(grown_cell hlt hown hne hg1).1.trans hc;have hz1:=(grown_cell hlt hown hne hg1).2.trans hz;clear hz2)
 exact⟨rfl,_,w1,rfl,ho1,hg1,rfl⟩
end
section
variable{g:Gate}{F:Fz}{N:Nat→Prop}{w w':World}
theorem mask_at_none{r:Nat}(h:F r=none):(mask F w).heap[r]? =w.heap[r]?:=by
 rw[mask_get]
 cases ho:w.heap[r]? with
 | none=>rfl
 | some o=>cases o<;>simp[maskObj,h]
theorem mask_at_cell(a:Addr):(mask F w).cell? a=w.cell? a:=by
 unfold World.cell?
 rw[mask_get]
 cases ho:w.heap[a.block]? with
 | none=>rfl
 | some o=>cases o<;>rfl
theorem mask_at_frozen{a:Addr}(h:F a.block=none):(mask F w).frozen? a=w.frozen? a:=by
 unfold World.frozen?
 rw[mask_at_none h]
theorem mask_free(hg:Gd (FT N w) w w'){r:Nat}{cur:Array Value}{e:TypeId}(h:(mask (FT N w) w').heap[r]? =some (.cells cur e (0,0)))(hc:0<cur.size):FT N w r=none:=by
 cases hF:FT N w r with
 | none=>rfl
 | some z=>
   exfalso
   have h0:=hF
   unfold FT at h0
   split at h0
   ·rename_i c e1 z0 heq
    split at h0
    ·cases h0
     rcases hg.objs r _ heq with⟨c1,e2,z1,c',h1,h2,h3⟩|h2
     ·cases h1
      rw[mask_get,h2]at h
      simp only[Option.map_some,maskObj,hF,Option.getD_some,Option.some.injEq,Obj.cells.injEq,Prod.mk.injEq]at h
      obtain⟨rfl,_,_,h4⟩:=h
      omega
     ·rw[mask_get,h2]at h
      simp only[Option.map_some,maskObj,hF,Option.getD_some,Option.some.injEq,Obj.cells.injEq,Prod.mk.injEq]at h
      obtain⟨rfl,_,_,h4⟩:=h
      omega
    ·cases h0
   ·cases h0
theorem mask_inv(hg:Gd (FT N w) w w'){r:Nat}{cur:Array Value}{e:TypeId}(h:(mask (FT N w) w').heap[r]? =some (.cells cur e (0,0)))(hc:0<cur.size):w'.heap[r]? =some (.cells cur e (0,0)):=by
 rw[mask_at_none (mask_free hg h hc)]at h
 exact h
theorem ft_none_ne{r:Nat}(h:FT N w r=none){a:Addr}{v:Value}(hl:Lies w a v)(hN:N a.block):a.block≠r:=by
 rintro rfl
 obtain⟨z,hz,_⟩:=ft_held hl hN
 rw[h]at hz
 cases hz
theorem ownsRow_same{W W':World}{base n:Nat}{v:Value}{xs:List Value}(h:W.ownsRow base 3 1 v n xs)(hb:∀b,Value.ownBlock v=some b→W'.heap[b]? =W.heap[b]?):W'.ownsRow base 3 1 v n xs:=by
 refine⟨h.1,?_⟩
 rcases h.2 with h2|⟨b,cap,cur,rfl,h3,h4,h5⟩
 ·exact .inl h2
 ·exact .inr ⟨b,cap,cur,rfl,h3,(hb b rfl).trans h4,h5⟩
theorem ownsRow_unmask(hg:Gd (FT N w) w w'){base n:Nat}{v:Value}{xs:List Value}(h:(mask (FT N w) w').ownsRow base 3 1 v (n+1) xs):w'.ownsRow base 3 1 v (n+1) xs∧∀b,Value.ownBlock v=some b→FT N w b=none:=by
 rcases h.2 with h2|⟨b,cap,cur,rfl,h3,h4,h5,h6,h7,h8⟩
 ·omega
 ·refine⟨⟨h.1,.inr ⟨b,cap,cur,rfl,h3,mask_inv hg h4 (by omega),h5,h6,h7,h8⟩⟩,fun b' hb=>?_⟩
  simp only[Value.ownBlock,Option.some.injEq]at hb
  subst hb
  exact mask_free hg h4 (by omega)
end
section
variable{g:Gate}{w w':World}
def butOrder(v:Mine)(oa:Option Addr):Nat→Prop:=fun r=>r≠v.od∧∀x,oa=some x→x.block≠r
def Noted(g:Gate)(v:Mine)(i:Nat)(oa:Option Addr)(ol oc M base:Nat)(xs:List Value)(cs:List Frame)(w:World)(a:Goroutine)(w':World):Prop:=
 Gd (FT (butOrder v oa) w) w w'∧∃b nv,a=G ((Go.Conc.base 102).at (step1At2 g v i oa ol oc M b nv) [.code step1Rest]) cs∧(w'.ownsRow base 3 1 nv (ol+1) (xs++[.int .i64 i])∧∀b,Value.ownBlock nv=some b→FT (butOrder v oa) w b=none)∧(∃c,w'.heap[v.od]? =some (.cells c 24 (0,0))∧c[0]? =some nv)
theorem app_ok:codeOk Try.prog (fun _=>false) false step1App=true:=by kernel_rfl
theorem own_app{v:Mine}{i:Nat}{oa:Option Addr}{ol oc M base:Nat}{xs:List Value}(hbase:base≤w.heap.size)(hod:∃c,w.heap[v.od]? =some (.cells c 24 (0,0))∧c[0]? =some (.slice oa ol oc))(hown:w.ownsRow base 3 1 (.slice oa ol oc) ol xs)(hol:ol<2000000){cs:List Frame}:
 Own Try.prog true (FT (butOrder v oa) w) (Noted g v i oa ol oc M base xs cs w) (G ((Go.Conc.base 102).at (step1At g v i oa ol oc M) [.code step1App,.code step1Rest]) cs) w:=by
 obtain⟨c,ho1,ho2⟩:=hod
 have hne:∀x,oa=some x→x.block≠v.od:=by
  rintro x rfl e
  rcases hown.2 with⟨h,_⟩|⟨b,cap,cur,h,_,h4,_⟩
  ·cases h
  ·cases h
   simp only at e
   rw[e,ho1]at h4
   cases h4
 have hFo:FT (butOrder v oa) w v.od=none:=ft_none fun h=>h.1 rfl
 have hFr:∀x,oa=some x→FT (butOrder v oa) w x.block=none:=fun x hx=>ft_none fun h=>h.2 x hx rfl
 refine own_mono (own_lift (Q:=fun e a' W'=>∃W,W.heap=(mask (FT (butOrder v oa) w) w).heap∧AppPost g v i oa ol oc M base xs W e a' W') ready0 false (by simp) app_ok (ft_wf w) rfl (fun e a w h=>by obtain⟨_,_,h,_⟩:=h;exact .inl h) (fun τ e=>?_) (by decide)) fun a' w' hE=>?_
 ·refine Code.wp_mono (fun e1 a1 w1 h=>⟨retape (mask (FT (butOrder v oa) w) w) τ e,rfl,h⟩) (app_wp v i oa ol oc M _ xs base (by simpa [retape]using hbase) ?_ ?_ (ownsRow_same hown fun b hb=>?_) hne hol)
  ·have:=mask_at_cell (F:=FT (butOrder v oa) w) (w:=w) ⟨v.od,0,none⟩
   refine(show _=_ from this).trans ?_
   simp[World.cell?,ho1,ho2]
  ·refine(show _=_ from mask_at_frozen (F:=FT (butOrder v oa) w) (w:=w) (a:=⟨v.od,0,none⟩) hFo).trans ?_
   simp[World.frozen?,ho1]
  ·cases oa with
   | none=>cases hb
   | some x=>cases hb;exact mask_at_none (hFr x rfl)
 ·obtain⟨hwf,hg,⟨a1,τ,e,rfl,W,hW,h0,nv,w1,h1,h2,h3,h4⟩|⟨_,_,_,_,_,_,_,h0,_⟩⟩:=hE
  ·refine⟨hg,_,nv,by rw[h1],?_,?_⟩
   ·refine ownsRow_unmask hg ?_
    have:(retape (mask (FT (butOrder v oa) w) w') τ e).ownsRow base 3 1 nv (ol+1) (xs++[.int .i64 i]):=by
     rw[h4]
     refine ownsRow_same h2 fun b hb=>heap_setCell_ne _ _ _ ?_
     rintro rfl
     have e1:w1.heap[v.od]? =some (.cells c 24 (0,0)):=by
      have hlt:v.od<W.heap.size:=by rw[hW,mask_size];exact(alt ho1)
      rw[h3.block v.od (by simp;omega) (fun e=>by
       cases oa with
       | none=>cases e
       | some x=>simp only[Value.ownBlock,Option.some.injEq]at e;exact hne x rfl e.symm),heap_alloc_lt _ _ hlt,hW,mask_at_none hFo]
      exact ho1
     rcases h2.2 with⟨_,h⟩|⟨b,cap,cur,hv,_,h5,_⟩
     ·omega
     ·subst hv
      simp only[Value.ownBlock,Option.some.injEq]at hb
      rw[hb,e1]at h5
      cases h5
    exact this
   ·have hlt:v.od<W.heap.size:=by rw[hW,mask_size];exact(alt ho1)
    have e1:w1.heap[v.od]? =some (.cells c 24 (0,0)):=by
     rw[h3.block v.od (by simp;omega) (fun e=>by
      cases oa with
      | none=>cases e
      | some x=>simp only[Value.ownBlock,Option.some.injEq]at e;exact hne x rfl e.symm),heap_alloc_lt _ _ hlt,hW,mask_at_none hFo]
     exact ho1
    have e2:(retape (mask (FT (butOrder v oa) w) w') τ e).heap[v.od]? =w'.heap[v.od]?:=mask_at_none hFo
    rw[h4]at e2
    have hc0:0<c.size:=(alt ho2)
    exact⟨c.setIfInBounds 0 nv,by rw[← e2];simp[World.setCell,Array.getElem?_modify,e1],by simp[hc0]⟩
  ·cases h0
end
noncomputable section
variable{g:Gate}{F:Fz}{w w':World}
def step1Call:Code:=match step1Rest with| .seq c _=>c|_=>.skip
def step1CallOps:Array Oper:=match step1Call with| .region _ o _=>o|_=> #[]
def step1Tail:Code:=match step1Rest with| .seq _ c=>c|_=>.skip
def step1Fr(g:Gate)(v:Mine)(i:Nat)(oa:Option Addr)(ol oc M:Nat)(b nv:Value):Frame:=
 (Go.Conc.base 102).at ⟨#[.int .i64 i,.pointer (some ⟨v.n,0,none⟩),.pointer (some ⟨g.tv,0,none⟩),.pointer (some ⟨v.od,0,none⟩),.pointer (some ⟨v.mo,0,none⟩),.pointer (some ⟨v.lf,0,none⟩),undef,.int .i64 i,.bool false,.bool false,.int .i64 i,.int .i64 g.n,.bool false,.bool false,.bool false,
   .pointer (some ⟨g.tb,0,none⟩),.pointer (some ⟨g.tb,0,none⟩),.pointer (some ⟨g.tb,1,none⟩),.slice (some ⟨g.sa,0,none⟩) g.n g.sc,.int .i64 i,.pointer (some ⟨g.sa,i,none⟩),.pointer (some ⟨g.st i,0,none⟩),.pointer (some ⟨g.st i,0,none⟩),.pointer (some ⟨g.st i,2,none⟩),.bool false,.bool false,.bool false,
   .slice oa ol oc,.int .i64 ol,.int .i64 M,.bool false,.bool false,.slice oa ol oc,.int .i64 i,b,nv,.pointer (some ⟨g.tb,0,none⟩),.int .i64 i,undef,undef,undef,undef,undef,undef,undef,undef,undef,undef,undef,undef,undef],[]⟩ [.inRegion step1CallOps [2],.code step1Tail]
theorem callable103:Callable 103:=callable Try.func103 rfl rfl
theorem step1_call{v:Mine}{i:Nat}{oa:Option Addr}{ol oc M:Nat}{b nv:Value}(hK:g.K w){cs:List Frame}{main:Bool}{Stop:Goroutine→World→Prop}
 (h:Own Try.prog main F Stop (G (Frame.enter Try.prog 103 #[.pointer (some ⟨g.tb,0,none⟩),.int .i64 i,.bool true] .normal) (step1Fr g v i oa ol oc M b nv::cs)) w):
 Own Try.prog main F Stop (G ((Go.Conc.base 102).at (step1At2 g v i oa ol oc M b nv) [.code step1Rest]) cs) w:=by
 have c1:=(hK _ _ .tv).c
 have z1:=(hK _ _ .tv).z
 have hc:=callable103
 simp only[step1Rest,step1Body,Try.f102,Option.getD_some,step1At2,step1At]
 walk_nrm
 refine ogS ?_
 (refine ogR ?_;simp only[List.size_toArray,List.length_cons,List.length_nil,Nat.reduceAdd,Nat.zero_add,List.range,List.range.loop])
 (refine oW fun dd K hK=>?_;go_simp;refine qL hK ?_;clear hK K)
 (refine oW fun dd K hK=>?_;go_simp;refine qT hK ?_;clear hK K)
 refine own_call (f:=103) (args:= #[.pointer (some ⟨g.tb,0,none⟩),.int .i64 i,.bool true]) rfl rfl (by decide) (fun w=>by simp[execOp,Act.eval,resolve,invoke,Deferred.ofValue,hc.run]) (fun w=>by simp[execOp,Act.eval,resolve,invoke,Deferred.ofValue,hc.run,hc.quiet]) ?_
 exact h
theorem step1_more [ok:Fits g] {v:Mine}{i:Nat} [hi:Has g i] {oa:Option Addr}{ol oc M:Nat}{b nv:Value}(hK:g.K w)(ho:Lies w ⟨g.st i,2,none⟩ (.bool false)){c:Frame}{cs:List Frame}{main:Bool}{Stop:Goroutine→World→Prop}
 (h:Own Try.prog main F Stop (G (c.finish (.tuple #[])) cs) w):
 Own Try.prog main F Stop (G ((step1Fr g v i oa ol oc M b nv).finish (.tuple #[])) (c::cs)) w:=by
 have hin:=hi.lt
 have hsl:=ok.ok.sl (Nat.lt_of_le_of_lt (Nat.zero_le _) hin)
 have c2:=(hK _ _ .tv).c
 have z2:=(hK _ _ .tv).z
 have c3:=(hK _ _ .stands).c
 have z3:=(hK _ _ .stands).z
 have c4:=(hK _ _ (.stand i hin)).c
 have z4:=(hK _ _ (.stand i hin)).z
 have c5:=ho.c
 have z5:=ho.z
 rw[hsl]at c3
 unfold step1Fr
 rw[Frame.finish_at]
 simp only[step1CallOps,step1Call,step1Tail,step1Rest,step1Body,Try.f102,Option.getD_some]
 walk_nrm
 refine ogE ?_
 refine ogS ?_
 (refine ogR ?_;simp only[List.size_toArray,List.length_cons,List.length_nil,Nat.reduceAdd,Nat.zero_add,List.range,List.range.loop])
 (refine oW fun dd K hK=>?_;go_simp;refine qL hK ?_;clear hK K)
 iterate 2 (refine oW fun dd K hK=>?_;go_simp;refine qT hK ?_;clear hK K)
 (refine oW fun dd K hK=>?_;go_simp;refine qL hK ?_;clear hK K)
 (refine oW fun dd K hK=>?_;go_simp;refine qT hK ?_;clear hK K)
 (refine oW fun dd K hK=>?_;go_simp;refine qX hK ?_;clear hK K)
 (refine oW fun dd K hK=>?_;go_simp;refine qL hK ?_;clear hK K)
 iterate 2 (refine oW fun dd K hK=>?_;go_simp;refine qT hK ?_;clear hK K)
 (refine oW fun dd K hK=>?_;go_simp;refine qL hK ?_;clear hK K)
 refine ogE ?_
 refine ogF ?_
 simp only[Bool.false_eq_true,if_false]
 refine ogK ?_
 refine own_go rfl (fun d=>stepG_end) ?_
 refine own_go rfl (fun d=>stepG_leave (fn:=Try.f102) (v:=.tuple #[]) rfl rfl Try.func102 (by simp[results,Try.f102]) (by simp[results,Try.f102,go_sem])) ?_
 exact h
theorem step1_less [ok:Fits g] {v:Mine}{i:Nat} [hi:Has g i] {oa:Option Addr}{ol oc M:Nat}{b nv:Value}(hK:g.K w)(ho:Lies w ⟨g.st i,2,none⟩ (.bool true)){lf:Nat}(hl:Lies w ⟨v.lf,0,none⟩ (.int .i64 (lf+1:Nat)))(hlf:lf<1000000)(hnh:¬held F ⟨v.lf,0,none⟩){c:Frame}{cs:List Frame}{main:Bool}{Stop:Goroutine→World→Prop}
 (h:Own Try.prog main F Stop (G (c.finish (.tuple #[])) cs) (w.setCell ⟨v.lf,0,none⟩ (.int .i64 lf))):
 Own Try.prog main F Stop (G ((step1Fr g v i oa ol oc M b nv).finish (.tuple #[])) (c::cs)) w:=by
 have hin:=hi.lt
 have hsl:=ok.ok.sl (Nat.lt_of_le_of_lt (Nat.zero_le _) hin)
 have c2:=(hK _ _ .tv).c
 have z2:=(hK _ _ .tv).z
 have c3:=(hK _ _ .stands).c
 have z3:=(hK _ _ .stands).z
 have c4:=(hK _ _ (.stand i hin)).c
 have z4:=(hK _ _ (.stand i hin)).z
 have c5:=ho.c
 have z5:=ho.z
 have c6:=hl.c
 have z6:=hl.z
 rw[hsl]at c3
 have hw:IntKind.i64.wrap (((lf+1:Nat):Int) - 1)=(lf:Int):=by
  rw[show(((lf+1:Nat):Int) - 1)=(lf:Int)by omega]
  exact IntWalk.i64_in _ (by omega)
 have hw2:IntKind.i64.wrap ((lf:Int)+1 - 1)=(lf:Int):=by
  rw[show((lf:Int)+1 - 1)=(lf:Int)by omega]
  exact IntWalk.i64_in _ (by omega)
 unfold step1Fr
 rw[Frame.finish_at]
 simp only[step1CallOps,step1Call,step1Tail,step1Rest,step1Body,Try.f102,Option.getD_some]
 walk_nrm
 refine ogE ?_
 refine ogS ?_
 (refine ogR ?_;simp only[List.size_toArray,List.length_cons,List.length_nil,Nat.reduceAdd,Nat.zero_add,List.range,List.range.loop])
 (refine oW fun dd K hK=>?_;go_simp;refine qL hK ?_;clear hK K)
 iterate 2 (refine oW fun dd K hK=>?_;go_simp;refine qT hK ?_;clear hK K)
 (refine oW fun dd K hK=>?_;go_simp;refine qL hK ?_;clear hK K)
 (refine oW fun dd K hK=>?_;go_simp;refine qT hK ?_;clear hK K)
 (refine oW fun dd K hK=>?_;go_simp;refine qX hK ?_;clear hK K)
 (refine oW fun dd K hK=>?_;go_simp;refine qL hK ?_;clear hK K)
 iterate 2 (refine oW fun dd K hK=>?_;go_simp;refine qT hK ?_;clear hK K)
 (refine oW fun dd K hK=>?_;go_simp;refine qL hK ?_;clear hK K)
 refine ogE ?_
 refine ogT ?_
 simp only[if_true]
 (refine ogR ?_;simp only[List.size_toArray,List.length_cons,List.length_nil,Nat.reduceAdd,Nat.zero_add,List.range,List.range.loop])
 (refine oW fun dd K hK=>?_;go_simp;refine qL hK ?_;clear hK K)
 (refine oW fun dd K hK=>?_;go_simp;refine qT hK ?_;clear hK K)
 refine Own.of_goes rfl (fun dd=>?_);refine goes_oper_k rfl rfl (by decide) (fun K hK=>?_)
 go_simp
 refine hK _ _ ⟨⟨⟨0,grew_setCell rfl hnh _⟩,fun e he=>by(have hm:=mem_listed he;clear he hK;simp[go_sem,storedEv,c6,z6]at hm;subst hm;exact evT_write _ _ hnh)⟩,?_⟩;clear hK K;rw[setCell_at'];refine Own.at ?_ dd
 refine ogE ?_
 refine own_go rfl (fun d=>stepG_end) ?_
 refine own_go rfl (fun d=>stepG_leave (fn:=Try.f102) (v:=.tuple #[]) rfl rfl Try.func102 (by simp[results,Try.f102]) (by simp[results,Try.f102,go_sem])) ?_
 rw[IntWalk.i64_in (lf:Int) (by omega)]
 exact h
end
section
variable{g:Gate}{F:Fz}{Z:Users}{vs:Nat→Vars}{N:Nat→Prop}{ov:Nat→Bool}{x:Z.X}{w w':World}
structure Alone(Z:Users)(g:Gate)(vs:Nat→Vars)(Al N:Nat→Prop)(b:Nat):Prop where
 n:N b
 st:∀j,j<g.n→b≠g.st j
 br:b≠g.br
 place:∀a u,g.Place a u→b≠a.block
 vars:∀j,Al j→b≠(vs j).x∧b≠(vs j).i∧b≠(vs j).e
 inp:Z.I b=none
theorem Alone.mono{Al Al' N:Nat→Prop}{b:Nat}(h:Alone Z g vs Al N b)(hA:∀j,Al' j→Al j):Alone Z g vs Al' N b:=⟨h.n,h.st,h.br,h.place,fun j hj=>h.vars j (hA j hj),h.inp⟩
structure MI(Z:Users)(g:Gate)(vs:Nat→Vars)(Al N:Nat→Prop)(v:Mine)(base M:Nat)(oa:Option Addr)(ol oc:Nat)(xs:List Value)(lf:Nat)(w:World):Prop where
 n:Lies w ⟨v.n,0,none⟩ (.int .i64 g.n)
 mo:Lies w ⟨v.mo,0,none⟩ (.int .i64 M)
 lf:Lies w ⟨v.lf,0,none⟩ (.int .i64 lf)
 od:∃c,w.heap[v.od]? =some (.cells c 24 (0,0))∧c[0]? =some (.slice oa ol oc)
 row:w.ownsRow base 3 1 (.slice oa ol oc) ol xs
 an:Alone Z g vs Al N v.n
 amo:Alone Z g vs Al N v.mo
 alf:Alone Z g vs Al N v.lf
 aod:Alone Z g vs Al N v.od
 arow:∀y,oa=some y→Alone Z g vs Al N y.block
 dn:v.n≠v.od∧v.mo≠v.od∧v.lf≠v.od∧v.lf≠v.n∧v.lf≠v.mo
 drow:∀y,oa=some y→y.block≠v.n∧y.block≠v.mo∧y.block≠v.lf
 base:base≤w.heap.size
variable{Al Al':Nat→Prop}{v:Mine}{base M:Nat}{oa:Option Addr}{ol oc:Nat}{xs:List Value}{lf:Nat}
theorem MI.mono(h:MI Z g vs Al N v base M oa ol oc xs lf w)(hA:∀j,Al' j→Al j):MI Z g vs Al' N v base M oa ol oc xs lf w:=
 ⟨h.n,h.mo,h.lf,h.od,h.row,h.an.mono hA,h.amo.mono hA,h.alf.mono hA,h.aod.mono hA,fun y hy=>(h.arow y hy).mono hA,h.dn,h.drow,h.base⟩
theorem MI.kept(h:MI Z g vs Al N v base M oa ol oc xs lf w){i:Nat}(hi:i<g.n)(hA:Al i)(k:Kept g N vs i w w'):MI Z g vs Al N v base M oa ol oc xs lf w':=by
 have lk:∀b u,Lies w ⟨b,0,none⟩ u→Alone Z g vs Al N b→Lies w' ⟨b,0,none⟩ u:=fun b u hl ha=>k.lies _ _ hl ha.n (.inl (ha.st i hi)) (ha.vars i hA).2.2 (.inl ha.br)
 obtain⟨c,h1,h2⟩:=h.od
 have hs:∀b c e,w.heap[b]? =some (.cells c e (0,0))→Alone Z g vs Al N b→w'.heap[b]? =w.heap[b]?:=fun b c e hb ha=>k.same b c e _ hb ha.n (ha.st i hi) (ha.vars i hA).2.2 ha.br
 refine⟨lk _ _ h.n h.an,lk _ _ h.mo h.amo,lk _ _ h.lf h.alf,⟨c,(hs _ _ _ h1 h.aod).trans h1,h2⟩,ownsRow_same h.row fun b hb=>?_,h.an,h.amo,h.alf,h.aod,h.arow,h.dn,h.drow,Nat.le_trans h.base k.size⟩
 cases oa with
 | none=>cases hb
 | some y=>
   simp only[Value.ownBlock,Option.some.injEq]at hb
   subst hb
   rcases h.row.2 with⟨h3,_⟩|⟨b,cap,cur,h3,_,h4,_⟩
   ·cases h3
   ·cases h3
    exact hs _ _ _ h4 (h.arow _ rfl)
end
section
variable{g:Gate}{F:Fz}{Z:Users}{vs:Nat→Vars}{N:Nat→Prop}{ov:Nat→Bool}{x:Z.X}{w w':World}{Al Al':Nat→Prop}{v:Mine}{base M:Nat}{oa:Option Addr}{ol oc:Nat}{xs:List Value}{lf:Nat}
theorem row_where(hg:Gd (FT (butOrder v oa) w) w w'){b:Nat}{cur:Array Value}(h:w'.heap[b]? =some (.cells cur 3 (0,0)))(hf:FT (butOrder v oa) w b=none)(hod:∃c,w.heap[v.od]? =some (.cells c 24 (0,0))):(∃y,oa=some y∧y.block=b)∨w.heap.size≤b:=by
 rcases Nat.lt_or_ge b w.heap.size with hlt|hge
 ·refine .inl (Classical.byContradiction fun hno=>?_)
  have hne:∀y,oa=some y→y.block≠b:=fun y hy e=>hno ⟨y,hy,e⟩
  obtain⟨o,ho⟩:∃o,w.heap[b]? =some o:=⟨_,Array.getElem?_eq_getElem hlt⟩
  rcases hg.objs b o ho with⟨c1,e1,z1,c',rfl,h2,_⟩|h2
  ·rw[h]at h2
   cases h2
   by_cases e:b=v.od
   ·subst e
    obtain⟨c,hc⟩:=hod
    rw[hc]at ho
    cases ho
   ·unfold FT at hf
    rw[ho]at hf
    simp only at hf
    rw[if_pos ⟨e,hne⟩]at hf
    cases hf
  ·rw[h]at h2
   cases h2
   by_cases e:b=v.od
   ·subst e
    obtain⟨c,hc⟩:=hod
    rw[hc]at ho
    cases ho
   ·unfold FT at hf
    rw[ho]at hf
    simp only at hf
    rw[if_pos ⟨e,hne⟩]at hf
    cases hf
 ·exact .inr hge
def grownN(N:Nat→Prop)(w w':World):Nat→Prop:=fun r=>N r∨(w.heap.size≤r∧r<w'.heap.size)
theorem TI.grown(zok:Z.Ok g)(H0:TI Z g Al vs N ov x w)(H:TI Z g Al vs N ov x w'):TI Z g Al vs (grownN N w w') ov x w':=
 ⟨H.u,H.over,H.brk,H.vars,H.chans,fun r hr hn=>by
  rcases hn with hn|hn
  ·exact H.apart r hr hn
  ·have:=zok.low x w r H0.u hr;omega,
  fun r hr=>by rcases hr with hr|hr;exact H.nlow r hr;exact hr.2,fun a u p=>.inl (H.nplace a u p),fun j hj=>.inl (H.nst j hj),fun h=>.inl (H.nbr h),fun j hj=>by obtain⟨h1,h2,h3⟩:=H.nvars j hj;exact⟨.inl h1,.inl h2,.inl h3⟩,fun c hc=>.inl (H.nchan c hc),H.vsep,fun r hr=>by obtain⟨h1,h2⟩:=H.inp r hr;exact⟨.inl h1,h2⟩⟩
theorem Alone.grown{b:Nat}(h:Alone Z g vs Al N b)(w w':World):Alone Z g vs Al (grownN N w w') b:=⟨.inl h.n,h.st,h.br,h.place,h.vars,h.inp⟩
theorem MI.noted(zok:Z.Ok g)(H:TI Z g Al vs N ov x w)(hn:0<g.n)(hK:g.K w)(h:MI Z g vs Al N v base M oa ol oc xs lf w){i:Nat}{cs:List Frame}{a:Goroutine}(hN:Noted g v i oa ol oc M base xs cs w a w'):
 ∃b nv oa' oc',nv= .slice oa' (ol+1) oc'∧a=G ((Go.Conc.base 102).at (step1At2 g v i oa ol oc M b nv) [.code step1Rest]) cs∧MI Z g vs Al (grownN N w w') v base M oa' (ol+1) oc' (xs++[.int .i64 i]) lf w':=by
 obtain⟨hg,b,nv,rfl,⟨hrow,hfree⟩,c',hod1,hod2⟩:=hN
 obtain⟨b1,oc',hnv⟩:=slice_form hrow
 subst hnv
 refine⟨b,_,some ⟨b1,0,none⟩,oc',rfl,rfl,?_⟩
 obtain⟨cod,hod,_⟩:=h.od
 have hf:FT (butOrder v oa) w b1=none:=hfree b1 rfl
 have hb1:∃cur,w'.heap[b1]? =some (.cells cur 3 (0,0)):=by
  rcases hrow.2 with⟨h3,_⟩|⟨b2,cap,cur,h3,_,h4,_⟩
  ·cases h3
  ·cases h3;exact⟨cur,h4⟩
 obtain⟨cur,hb1⟩:=hb1
 have hwh:=row_where hg hb1 hf ⟨cod,hod⟩
 have hkeep:∀{a u},Lies w a u→a.block≠v.od→(∀y,oa=some y→y.block≠a.block)→Lies w' a u:=fun hl h1 h2=>ft_keep hg hl ⟨h1,h2⟩
 have hsep:∀{a u},Lies w a u→a.block≠v.od→(∀y,oa=some y→y.block≠a.block)→b1≠a.block:=fun hl h1 h2=>(ft_none_ne hf hl ⟨h1,h2⟩).symm
 obtain⟨d1,d2,d3,d4,d5⟩:=h.dn
 have r1:=fun y hy=>(h.drow y hy).1
 have r2:=fun y hy=>(h.drow y hy).2.1
 have r3:=fun y hy=>(h.drow y hy).2.2
 refine⟨hkeep h.n d1 r1,hkeep h.mo d2 r2,hkeep h.lf d3 r3,⟨c',hod1,hod2⟩,hrow,h.an.grown _ _,h.amo.grown _ _,h.alf.grown _ _,h.aod.grown _ _,fun y hy=>?_,h.dn,fun y hy=>?_,Nat.le_trans h.base hg.size⟩
 ·cases hy
  have hb1lt:b1<w'.heap.size:=(alt hb1)
  rcases hwh with⟨y,hy,e⟩|hge
  ·have:=(h.arow y hy).grown w w'
   rw[e]at this
   exact this
  ·refine⟨.inr ⟨hge,hb1lt⟩,fun j hj e=>?_,fun e=>?_,fun a u p e=>?_,fun j hj=>?_,?_⟩
   ·have:=(H.over j hj).lt;simp only at this e;omega
   ·obtain⟨bb,hbb⟩:=H.brk 0 hn;have:=hbb.lt;simp only at this e;omega
   ·have:=(hK a u p).lt;simp only at e;omega
   ·have q1:=(H.vars j hj).x.lt
    have q2:=(H.vars j hj).i.lt
    have q3:=(H.vars j hj).e.lt
    simp only at q1 q2 q3 ⊢
    omega
   ·cases e:Z.I b1 with
    | none=>rfl
    | some o=>have:=H.ilow zok (r:=b1) (by rw[e];simp);omega
 ·cases hy
  exact⟨hsep h.n d1 r1,hsep h.mo d2 r2,hsep h.lf d3 r3⟩
end
section
variable{g:Gate}{F:Fz}{Z:Users}{vs:Nat→Vars}{N B:Nat→Prop}{ov:Nat→Bool}{x:Z.X}{w w':World}{Al Al':Nat→Prop}{v:Mine}{base M:Nat}{oa:Option Addr}{ol oc:Nat}{xs:List Value}{lf:Nat}
theorem TI.gd(zok:Z.Ok g)(H:TI Z g Al vs N ov x w)(hg:Gd (FT B w) w w')(hst:∀j,j<g.n→B (g.st j))(hbr:0<g.n→B g.br)(hvars:∀j,Al j→B (vs j).x∧B (vs j).i∧B (vs j).e)(hR:∀r,Z.R x r∨Z.I r≠none→B r):TI Z g Al vs N ov x w':=
 ⟨zok.stable x w w' H.u hg.size fun r hr=>ft_same hg (hR r hr) (hr.elim (zok.low x w r H.u) (H.ilow zok)),fun j hj=>ft_keep hg (H.over j hj) (hst j hj),fun j hj=>(H.brk j hj).imp fun b h=>ft_keep hg h (hbr (by omega)),fun j hj=>(H.vars j hj).of fun a u h e=>ft_keep hg h (by
  obtain⟨h1,h2,h3⟩:=hvars j hj
  rcases e with e|e|e<;>rw[e]<;>assumption),fun c hc=>by obtain⟨cap,k,h⟩:=H.chans c hc;exact⟨cap,k,chan_gd hg h⟩,
  H.apart,fun r h=>Nat.lt_of_lt_of_le (H.nlow r h) hg.size,H.nplace,H.nst,H.nbr,H.nvars,H.nchan,H.vsep,H.inp⟩
theorem TI.noted(zok:Z.Ok g)(H:TI Z g Al vs N ov x w)(h:MI Z g vs Al N v base M oa ol oc xs lf w){i:Nat}{cs:List Frame}{a:Goroutine}(hN:Noted g v i oa ol oc M base xs cs w a w'):
 TI Z g Al vs (grownN N w w') ov x w':=by
 have hR:∀r,Z.R x r∨Z.I r≠none→butOrder v oa r:=fun r hr=>hr.elim (fun hr=>⟨fun e=>H.apart r hr (e ▸ h.aod.n),fun y hy e=>H.apart r hr (e ▸ (h.arow y hy).n)⟩) fun hr=>⟨fun e=>hr (e ▸ h.aod.inp),fun y hy e=>hr (e ▸ (h.arow y hy).inp)⟩
 have h1:=H.gd zok hN.1 (fun j hj=>⟨(h.aod.st j hj).symm,fun y hy=>(h.arow y hy).st j hj⟩) (fun hn=>⟨h.aod.br.symm,fun y hy=>(h.arow y hy).br⟩)
  (fun j hj=>⟨⟨(h.aod.vars j hj).1.symm,fun y hy=>((h.arow y hy).vars j hj).1⟩,⟨(h.aod.vars j hj).2.1.symm,fun y hy=>((h.arow y hy).vars j hj).2.1⟩,⟨(h.aod.vars j hj).2.2.symm,fun y hy=>((h.arow y hy).vars j hj).2.2⟩⟩) hR
 exact H.grown zok h1
theorem K_noted(H:TI Z g Al vs N ov x w)(hK:g.K w)(h:MI Z g vs Al N v base M oa ol oc xs lf w)(hg:Gd (FT (butOrder v oa) w) w w'):g.K w':=
 ⟨fun a u p=>ft_keep hg (hK a u p) ⟨(h.aod.place a u p).symm,fun y hy=>(h.arow y hy).place a u p⟩,hK.an.gd hg⟩
theorem bo_held(hK:g.K w)(h:MI Z g vs Al N v base M oa ol oc xs lf w):∀a u,g.Place a u→held (FT (butOrder v oa) w) a:=
 fun a u p=>ft_held (hK a u p) ⟨(h.aod.place a u p).symm,fun y hy=>(h.arow y hy).place a u p⟩
end
section
open Go.ConcN (sumTo upd sumTo_upd upd_ne upd_same)
variable{g:Gate}{F:Fz}{Z:Users}{A:Nat→Bool}{vs:Nat→Vars}{N B:Nat→Prop}{ov:Nat→Bool}{x:Z.X}{w w':World}{s0 nn:Nat}{Gl:Machine→Trace→Prop}{v:Mine}{base M:Nat}{oa:Option Addr}{ol oc:Nat}{xs:List Value}{lf:Nat}
theorem MI.at{Al:Nat→Prop}(h:MI Z g vs Al N v base M oa ol oc xs lf w)(d:Nat):MI Z g vs Al N v base M oa ol oc xs lf (w.at d):=
 ⟨h.n.at d,h.mo.at d,h.lf.at d,h.od,h.row,h.an,h.amo,h.alf,h.aod,h.arow,h.dn,h.drow,h.base⟩
theorem TI.setLf{Al:Nat→Prop}{b:Nat}{u:Value}(zok:Z.Ok g)(H:TI Z g Al vs N ov x w)(ha:Alone Z g vs Al N b):TI Z g Al vs N ov x (w.setCell ⟨b,0,none⟩ u):=by
 have hL:∀a v,Lies w a v→a.block≠b→Lies (w.setCell ⟨b,0,none⟩ u) a v:=fun a v h h1=>h.setCell (.inl (Ne.symm h1)) rfl
 refine⟨zok.stable x w _ H.u (by simp) (fun r hr=>heap_setCell_ne _ _ _ (hr.elim (fun hr e=>H.apart r hr (e ▸ ha.n)) fun hr e=>hr (e ▸ ha.inp))),fun j hj=>hL _ _ (H.over j hj) (ha.st j hj).symm,fun j hj=>(H.brk j hj).imp fun _ h=>hL _ _ h (Ne.symm ha.br),fun j hj=>(H.vars j hj).of fun a u h e=>hL a u h ?_,
  fun c hc=>?_,H.apart,fun r h=>by simpa using H.nlow r h,H.nplace,H.nst,H.nbr,H.nvars,H.nchan,H.vsep,H.inp⟩
 ·obtain⟨h1,h2,h3⟩:=ha.vars j hj
  rcases e with e|e|e<;>rw[e]<;>first|exact Ne.symm h1|exact Ne.symm h2|exact Ne.symm h3
 ·obtain⟨cap,k,h⟩:=H.chans c hc
  by_cases e:c=b
  ·subst e
   exact⟨cap,k,by simp[World.setCell,Array.getElem?_modify,h]⟩
  ·exact⟨cap,k,(heap_setCell_ne _ _ _ e).trans h⟩
theorem MI.setLf{Al:Nat→Prop}{l1:Nat}(h:MI Z g vs Al N v base M oa ol oc xs lf w):MI Z g vs Al N v base M oa ol oc xs l1 (w.setCell ⟨v.lf,0,none⟩ (.int .i64 l1)):=by
 obtain⟨d1,d2,d3,d4,d5⟩:=h.dn
 obtain⟨c,h1,h2⟩:=h.od
 refine⟨h.n.setCell (.inl d4) rfl,h.mo.setCell (.inl d5) rfl,h.lf.put,⟨c,(heap_setCell_ne _ _ _ (Ne.symm d3)).trans h1,h2⟩,ownsRow_same h.row fun b hb=>heap_setCell_ne _ _ _ ?_,h.an,h.amo,h.alf,h.aod,h.arow,h.dn,h.drow,by simpa using h.base⟩
 cases oa with
 | none=>cases hb
 | some y=>
   simp only[Value.ownBlock,Option.some.injEq]at hb
   subst hb
   exact(h.drow _ rfl).2.2
theorem tok_step [ok:Fits g] (zok:Z.Ok g)(hs0:0<s0)(hAn:∀j,A j=true→j<g.n∧s0+j<nn){i:Nat}(hA:A i=true)(hl:Z.liv x i=true)(H:TI Z g (fun j=>A j=true) vs N ov x w)(hov:ov i=false)
 (HM:MI Z g vs (fun j=>A j=true) N v base M oa ol oc xs lf w) (hM:ol≠M) (hol:ol<2000000) (hlf:0<lf) (hlf2:lf<1000000) {ms:Option Seat} {c:Frame} {cs:List Frame}
 (hk:∀y w' N' oa' oc' ms',Z.stp x i y→TI Z g (fun j=>(A j && (j != i || Z.liv y i))=true) vs N' (fun j=>if j=i then !Z.liv y i else ov j) y w'→
   MI Z g vs (fun j=>(A j && (j != i || Z.liv y i))=true) N' v base M oa' (ol+1) oc' (xs++[.int .i64 i]) (if Z.liv y i then lf else lf - 1) w'→
   Tok Try.prog g.K g.Still g.top Gl (inb Z g s0 (fun j=>A j && (j != i || Z.liv y i)) vs ms' y) 0 nn (G (c.finish (.tuple #[])) cs) w'):
 Tok Try.prog g.K g.Still g.top Gl (inb Z g s0 A vs ms x) 0 nn (G (Frame.enter Try.prog 102 (step1Args g v i) .normal) (c::cs)) w:=by
 obtain⟨hin,hnn⟩:=hAn i hA
 have hiH:Has g i:=⟨hin⟩
 have hn0:0<g.n:=by omega
 refine tok_intro fun _ hK _=>?_
 have ho:=H.over i hin
 rw[hov]at ho
 obtain⟨cod,hod1,hod2⟩:=HM.od
 refine tok_own (F:=FK g) (Stop:=fun a u=>a=G ((Go.Conc.base 102).at (step1At g v i oa ol oc M) [.code step1App,.code step1Rest]) (c::cs)∧∃d,u=w.at d) K_at fk_covers fk_K
  (step1_go hK HM.n ho ⟨⟨cod,_,hod1,hod2⟩,rfl⟩ HM.mo hM (.stop fun d=>⟨rfl,d,rfl⟩)) fun g' w0 d hS=>?_
 obtain⟨rfl,d',e⟩:=hS d
 rw[e]
 have H0:=H.at zok d'
 have HM0:MI Z g vs (fun j=>A j=true) N v base M oa ol oc xs lf (w.at d'):=HM.kept hin hA (Kept.at w d')
 have hK0:=hK.at d'
 clear e hK ho H HM hod1 hod2 hS
 generalize w.at d'=w at*
 refine tok_own (F:=FT (butOrder v oa) w) K_at (Gate.covers (bo_held hK0 HM0)) (fun w1 w2 hg h=>h.gd (bo_held hK0 HM0) hg) (own_app HM0.base HM0.od HM0.row hol (cs:=c::cs)) fun g' w0 d hS=>?_
 have hN:=hS d
 generalize w0.at d=w1 at*
 obtain⟨b,nv,oa',oc',rfl,rfl,HM1⟩:=MI.noted zok H0 hn0 hK0 HM0 hN
 have H1:=H0.noted zok HM0 hN
 have hK1:=K_noted H0 hK0 HM0 hN.1
 clear hS hN H0 HM0 hK0
 generalize grownN N w w1=N1 at*
 refine tok_silent (b:=G (Frame.enter Try.prog 103 #[.pointer (some ⟨g.tb,0,none⟩),.int .i64 i,.bool true] .normal) (step1Fr g v i oa ol oc M b (.slice oa' (ol+1) oc')::c::cs)) (step1_call hK1 (.stop fun d=>⟨rfl,d,rfl⟩)) fun d=>?_
 have H2:=H1.at zok d
 have HM2:=HM1.kept hin hA (Kept.at w1 d)
 clear H1 HM1 hK1
 generalize w1.at d=w2 at*
 refine tok_let zok hs0 hAn hA hl H2 hov fun y w3 hy H3 k3=>?_
 have HM3:=(HM2.kept hin hA k3).mono (Al':=fun j=>(A j && (j != i || Z.liv y i))=true) fun j hj=>by
  simp only[Bool.and_eq_true]at hj;exact hj.1
 refine tok_intro fun _ hK3 _=>?_
 have ho3:=H3.over i hin
 rw[if_pos rfl]at ho3
 rcases Bool.eq_false_or_eq_true (Z.liv y i)with hlv|hlv
 ·skip
  rw[hlv]at ho3
  refine tok_silent (b:=G (c.finish (.tuple #[])) cs) (step1_more hK3 ho3 (.stop fun d=>⟨rfl,d,rfl⟩)) fun d=>?_
  have:=hk y (w3.at d) N1 oa' oc' (some (backSeat g (letAt g i true (step1Fr g v i oa ol oc M b (.slice oa' (ol+1) oc')::c::cs)))) hy (H3.at zok d)
  refine this ?_
  rw[if_pos hlv]
  exact HM3.at d
 ·rw[hlv]at ho3
  obtain⟨l1,rfl⟩:∃l1,lf=l1+1:=⟨lf - 1,by omega⟩
  have hnh:¬held (FK g) ⟨v.lf,0,none⟩:=not_held' (fk_none (fun j hj=>HM3.alf.st j hj) fun a u p=>HM3.alf.place a u p)
  refine tok_own (F:=FK g) (Stop:=fun a u=>a=G (c.finish (.tuple #[])) cs∧∃d,u=(w3.setCell ⟨v.lf,0,none⟩ (.int .i64 l1)).at d) K_at fk_covers fk_K
   (step1_less hK3 ho3 HM3.lf (by omega) hnh (.stop fun d=>⟨rfl,d,rfl⟩)) fun g' w0 d hS=>?_
  obtain⟨rfl,d',e⟩:=hS d
  rw[e]
  have:=hk y ((w3.setCell ⟨v.lf,0,none⟩ (.int .i64 l1)).at d') N1 oa' oc' (some (backSeat g (letAt g i true (step1Fr g v i oa ol oc M b (.slice oa' (ol+1) oc')::c::cs)))) hy ((H3.setLf zok HM3.alf).at zok d')
  refine this ?_
  rw[if_neg (by simp[hlv])]
  exact HM3.setLf.at d'
end
section
section
variable{P:Program}(w:World)(es:Array Event)
@[go_sem] theorem ev_max_int2(ts:Array TypeId)(t:TypeId)(k k':IntKind)(x y:Int):(Builtin.max_ ts t #[.int k x,.int k' y]).events P w es=es:=by simp[Builtin.max_,Builtin.max2]
@[go_sem] theorem ev_min_int2(ts:Array TypeId)(t:TypeId)(k k':IntKind)(x y:Int):(Builtin.min_ ts t #[.int k x,.int k' y]).events P w es=es:=by simp[Builtin.min_,Builtin.min2]
end
end
noncomputable section
def ovBody:Code:=Try.f82.body.getD .skip
def ovs0:=pC [] ovBody
def ovr0:=pC [zt] ovBody
def ovs1:=pC [zf] ovBody
def ovr1:=pC [zf,zt] ovBody
def ovs2:=pC [zf,zf] ovBody
def ovr2:=pC [zf,zf,zt] ovBody
def ovs3:=pC [zf,zf,zf] ovBody
def ovr3:=pC [zf,zf,zf,zt] ovBody
def ovs4:=pC [zf,zf,zf,zf] ovBody
def ovs5:=pC [zf,zf,zf,zf,zt] ovBody
def ovr4:=pC [zf,zf,zf,zf,zt,zt] ovBody
def ovb0:=pC [zf,zf,zf,zf,zt,zf] ovBody
def ovl6:=pC [zf,zf,zf,zf,zt,zf,zt] ovBody
def ovs7:=pC [zf,zf,zf,zf,zt,zf,zt,zt] ovBody
def ovr5:=pC [zf,zf,zf,zf,zt,zf,zt,zt,zt] ovBody
def ovs8:=pC [zf,zf,zf,zf,zt,zf,zt,zt,zf] ovBody
def ovc31:=pC [zf,zf,zf,zf,zt,zf,zt,zt,zf,zt] ovBody
def ovs9:=pC [zf,zf,zf,zf,zt,zf,zt,zt,zf,zf] ovBody
def ovb1:=pC [zf,zf,zf,zf,zt,zf,zt,zt,zf,zf,zt] ovBody
def ovr6:=pC [zf,zf,zf,zf,zt,zf,zt,zt,zf,zf,zt,zt] ovBody
def ovr7:=pC [zf,zf,zf,zf,zt,zf,zt,zt,zf,zf,zf] ovBody
def ovs10:=pC [zf,zf,zf,zf,zf] ovBody
def ovr8:=pC [zf,zf,zf,zf,zf,zt] ovBody
def ovs11:=pC [zf,zf,zf,zf,zf,zf] ovBody
def ovs12:=pC [zf,zf,zf,zf,zf,zf,zt] ovBody
def ovr9:=pC [zf,zf,zf,zf,zf,zf,zt,zt] ovBody
def ovb2:=pC [zf,zf,zf,zf,zf,zf,zt,zf] ovBody
def ovl13:=pC [zf,zf,zf,zf,zf,zf,zt,zf,zt] ovBody
def ovs14:=pC [zf,zf,zf,zf,zf,zf,zt,zf,zt,zt] ovBody
def ovr10:=pC [zf,zf,zf,zf,zf,zf,zt,zf,zt,zt,zt] ovBody
def ovs15:=pC [zf,zf,zf,zf,zf,zf,zt,zf,zt,zt,zf] ovBody
def ovc48:=pC [zf,zf,zf,zf,zf,zf,zt,zf,zt,zt,zf,zt] ovBody
def ovs16:=pC [zf,zf,zf,zf,zf,zf,zt,zf,zt,zt,zf,zf] ovBody
def ovb3:=pC [zf,zf,zf,zf,zf,zf,zt,zf,zt,zt,zf,zf,zt] ovBody
def ovs17:=pC [zf,zf,zf,zf,zf,zf,zt,zf,zt,zt,zf,zf,zt,zt] ovBody
def ovr11:=pC [zf,zf,zf,zf,zf,zf,zt,zf,zt,zt,zf,zf,zt,zt,zt] ovBody
def ovs18:=pC [zf,zf,zf,zf,zf,zf,zt,zf,zt,zt,zf,zf,zt,zt,zf] ovBody
def ovr12:=pC [zf,zf,zf,zf,zf,zf,zt,zf,zt,zt,zf,zf,zt,zt,zf,zt] ovBody
def ovs19:=pC [zf,zf,zf,zf,zf,zf,zt,zf,zt,zt,zf,zf,zt,zt,zf,zf] ovBody
def ovr13:=pC [zf,zf,zf,zf,zf,zf,zt,zf,zt,zt,zf,zf,zt,zt,zf,zf,zt] ovBody
def ovs20:=pC [zf,zf,zf,zf,zf,zf,zt,zf,zt,zt,zf,zf,zt,zt,zf,zf,zf] ovBody
def ovr14:=pC [zf,zf,zf,zf,zf,zf,zt,zf,zt,zt,zf,zf,zt,zt,zf,zf,zf,zt] ovBody
def ovc71:=pC [zf,zf,zf,zf,zf,zf,zt,zf,zt,zt,zf,zf,zt,zt,zf,zf,zf,zf] ovBody
def ovr15:=pC [zf,zf,zf,zf,zf,zf,zt,zf,zt,zt,zf,zf,zt,zt,zf,zf,zf,zf,zt] ovBody
def ovr16:=pC [zf,zf,zf,zf,zf,zf,zt,zf,zt,zt,zf,zf,zf] ovBody
def ovs21:=pC [zf,zf,zf,zf,zf,zf,zf] ovBody
def ovr17:=pC [zf,zf,zf,zf,zf,zf,zf,zt] ovBody
def ovs22:=pC [zf,zf,zf,zf,zf,zf,zf,zf] ovBody
def ovs23:=pC [zf,zf,zf,zf,zf,zf,zf,zf,zt] ovBody
def ovr18:=pC [zf,zf,zf,zf,zf,zf,zf,zf,zt,zt] ovBody
def ovb4:=pC [zf,zf,zf,zf,zf,zf,zf,zf,zt,zf] ovBody
def ovl24:=pC [zf,zf,zf,zf,zf,zf,zf,zf,zt,zf,zt] ovBody
def ovs25:=pC [zf,zf,zf,zf,zf,zf,zf,zf,zt,zf,zt,zt] ovBody
def ovr19:=pC [zf,zf,zf,zf,zf,zf,zf,zf,zt,zf,zt,zt,zt] ovBody
def ovs26:=pC [zf,zf,zf,zf,zf,zf,zf,zf,zt,zf,zt,zt,zf] ovBody
def ovc79:=pC [zf,zf,zf,zf,zf,zf,zf,zf,zt,zf,zt,zt,zf,zt] ovBody
def ovs27:=pC [zf,zf,zf,zf,zf,zf,zf,zf,zt,zf,zt,zt,zf,zf] ovBody
def ovb5:=pC [zf,zf,zf,zf,zf,zf,zf,zf,zt,zf,zt,zt,zf,zf,zt] ovBody
def ovs28:=pC [zf,zf,zf,zf,zf,zf,zf,zf,zt,zf,zt,zt,zf,zf,zt,zt] ovBody
def ovr20:=pC [zf,zf,zf,zf,zf,zf,zf,zf,zt,zf,zt,zt,zf,zf,zt,zt,zt] ovBody
def ovr21:=pC [zf,zf,zf,zf,zf,zf,zf,zf,zt,zf,zt,zt,zf,zf,zt,zt,zf] ovBody
def ovr22:=pC [zf,zf,zf,zf,zf,zf,zf,zf,zt,zf,zt,zt,zf,zf,zf] ovBody
def ovs29:=pC [zf,zf,zf,zf,zf,zf,zf,zf,zf] ovBody
def ovb6:=pC [zf,zf,zf,zf,zf,zf,zf,zf,zf,zt] ovBody
def ovl30:=pC [zf,zf,zf,zf,zf,zf,zf,zf,zf,zt,zt] ovBody
def ovs31:=pC [zf,zf,zf,zf,zf,zf,zf,zf,zf,zt,zt,zt] ovBody
def ovs32:=pC [zf,zf,zf,zf,zf,zf,zf,zf,zf,zt,zt,zt,zt] ovBody
def ovr23:=pC [zf,zf,zf,zf,zf,zf,zf,zf,zf,zt,zt,zt,zt,zt] ovBody
def ovc93:=pC [zf,zf,zf,zf,zf,zf,zf,zf,zf,zt,zt,zt,zt,zf] ovBody
def ovb7:=pC [zf,zf,zf,zf,zf,zf,zf,zf,zf,zt,zt,zt,zf] ovBody
def ovs33:=pC [zf,zf,zf,zf,zf,zf,zf,zf,zf,zt,zt,zt,zf,zt] ovBody
def ovr24:=pC [zf,zf,zf,zf,zf,zf,zf,zf,zf,zt,zt,zt,zf,zt,zt] ovBody
def ovb8:=pC [zf,zf,zf,zf,zf,zf,zf,zf,zf,zt,zt,zt,zf,zt,zf] ovBody
def ovl34:=pC [zf,zf,zf,zf,zf,zf,zf,zf,zf,zt,zt,zt,zf,zt,zf,zt] ovBody
def ovs35:=pC [zf,zf,zf,zf,zf,zf,zf,zf,zf,zt,zt,zt,zf,zt,zf,zt,zt] ovBody
def ovr25:=pC [zf,zf,zf,zf,zf,zf,zf,zf,zf,zt,zt,zt,zf,zt,zf,zt,zt,zt] ovBody
def ovs36:=pC [zf,zf,zf,zf,zf,zf,zf,zf,zf,zt,zt,zt,zf,zt,zf,zt,zt,zf] ovBody
def ovc96:=pC [zf,zf,zf,zf,zf,zf,zf,zf,zf,zt,zt,zt,zf,zt,zf,zt,zt,zf,zt] ovBody
def ovs37:=pC [zf,zf,zf,zf,zf,zf,zf,zf,zf,zt,zt,zt,zf,zt,zf,zt,zt,zf,zf] ovBody
def ovb9:=pC [zf,zf,zf,zf,zf,zf,zf,zf,zf,zt,zt,zt,zf,zt,zf,zt,zt,zf,zf,zt] ovBody
def ovs38:=pC [zf,zf,zf,zf,zf,zf,zf,zf,zf,zt,zt,zt,zf,zt,zf,zt,zt,zf,zf,zt,zt] ovBody
def ovr26:=pC [zf,zf,zf,zf,zf,zf,zf,zf,zf,zt,zt,zt,zf,zt,zf,zt,zt,zf,zf,zt,zt,zt] ovBody
def ovr27:=pC [zf,zf,zf,zf,zf,zf,zf,zf,zf,zt,zt,zt,zf,zt,zf,zt,zt,zf,zf,zt,zt,zf] ovBody
def ovr28:=pC [zf,zf,zf,zf,zf,zf,zf,zf,zf,zt,zt,zt,zf,zt,zf,zt,zt,zf,zf,zf] ovBody
def ovs39:=pC [zf,zf,zf,zf,zf,zf,zf,zf,zf,zf] ovBody
def ovr29:=pC [zf,zf,zf,zf,zf,zf,zf,zf,zf,zf,zt] ovBody
def ovs40:=pC [zf,zf,zf,zf,zf,zf,zf,zf,zf,zf,zf] ovBody
def ovs41:=pC [zf,zf,zf,zf,zf,zf,zf,zf,zf,zf,zf,zt] ovBody
def ovr30:=pC [zf,zf,zf,zf,zf,zf,zf,zf,zf,zf,zf,zt,zt] ovBody
def ovb10:=pC [zf,zf,zf,zf,zf,zf,zf,zf,zf,zf,zf,zt,zf] ovBody
def ovl42:=pC [zf,zf,zf,zf,zf,zf,zf,zf,zf,zf,zf,zt,zf,zt] ovBody
def ovs43:=pC [zf,zf,zf,zf,zf,zf,zf,zf,zf,zf,zf,zt,zf,zt,zt] ovBody
def ovr31:=pC [zf,zf,zf,zf,zf,zf,zf,zf,zf,zf,zf,zt,zf,zt,zt,zt] ovBody
def ovs44:=pC [zf,zf,zf,zf,zf,zf,zf,zf,zf,zf,zf,zt,zf,zt,zt,zf] ovBody
def ovc110:=pC [zf,zf,zf,zf,zf,zf,zf,zf,zf,zf,zf,zt,zf,zt,zt,zf,zt] ovBody
def ovs45:=pC [zf,zf,zf,zf,zf,zf,zf,zf,zf,zf,zf,zt,zf,zt,zt,zf,zf] ovBody
def ovb11:=pC [zf,zf,zf,zf,zf,zf,zf,zf,zf,zf,zf,zt,zf,zt,zt,zf,zf,zt] ovBody
def ovs46:=pC [zf,zf,zf,zf,zf,zf,zf,zf,zf,zf,zf,zt,zf,zt,zt,zf,zf,zt,zt] ovBody
def ovr32:=pC [zf,zf,zf,zf,zf,zf,zf,zf,zf,zf,zf,zt,zf,zt,zt,zf,zf,zt,zt,zt] ovBody
def ovs47:=pC [zf,zf,zf,zf,zf,zf,zf,zf,zf,zf,zf,zt,zf,zt,zt,zf,zf,zt,zt,zf] ovBody
def ovr33:=pC [zf,zf,zf,zf,zf,zf,zf,zf,zf,zf,zf,zt,zf,zt,zt,zf,zf,zt,zt,zf,zt] ovBody
def ovc118:=pC [zf,zf,zf,zf,zf,zf,zf,zf,zf,zf,zf,zt,zf,zt,zt,zf,zf,zt,zt,zf,zf] ovBody
def ovr34:=pC [zf,zf,zf,zf,zf,zf,zf,zf,zf,zf,zf,zt,zf,zt,zt,zf,zf,zt,zt,zf,zf,zt] ovBody
def ovr35:=pC [zf,zf,zf,zf,zf,zf,zf,zf,zf,zf,zf,zt,zf,zt,zt,zf,zf,zf] ovBody
def ovs48:=pC [zf,zf,zf,zf,zf,zf,zf,zf,zf,zf,zf,zf] ovBody
def ovr36:=pC [zf,zf,zf,zf,zf,zf,zf,zf,zf,zf,zf,zf,zt] ovBody
theorem ovs0':ovs0= .seq ovr0 ovs1:=by kernel_rfl
theorem ovr0':ovr0= .region 0 (oC ovr0) false:=by kernel_rfl
theorem ovs1':ovs1= .seq ovr1 ovs2:=by kernel_rfl
theorem ovr1':ovr1= .region 1 (oC ovr1) false:=by kernel_rfl
theorem ovs2':ovs2= .seq ovr2 ovs3:=by kernel_rfl
theorem ovr2':ovr2= .region 2 (oC ovr2) false:=by kernel_rfl
theorem ovs3':ovs3= .seq ovr3 ovs4:=by kernel_rfl
theorem ovr3':ovr3= .region 3 (oC ovr3) true:=by kernel_rfl
theorem ovs4':ovs4= .seq ovs5 ovs10:=by kernel_rfl
theorem ovs5':ovs5= .seq ovr4 ovb0:=by kernel_rfl
theorem ovr4':ovr4= .region 4 (oC ovr4) false:=by kernel_rfl
theorem ovb0':ovb0= .block 0 ovl6:=by kernel_rfl
theorem ovl6':ovl6= .loop ovs7:=by kernel_rfl
theorem ovs7':ovs7= .seq ovr5 ovs8:=by kernel_rfl
theorem ovr5':ovr5= .region 5 (oC ovr5) false:=by kernel_rfl
theorem ovs8':ovs8= .seq ovc31 ovs9:=by kernel_rfl
theorem ovc31':ovc31= .cond (.tmp 31) .skip (.exit 0):=by kernel_rfl
theorem ovs9':ovs9= .seq ovb1 ovr7:=by kernel_rfl
theorem ovb1':ovb1= .block 1 ovr6:=by kernel_rfl
theorem ovr6':ovr6= .region 6 (oC ovr6) true:=by kernel_rfl
theorem ovr7':ovr7= .region 7 (oC ovr7) false:=by kernel_rfl
theorem ovs10':ovs10= .seq ovr8 ovs11:=by kernel_rfl
theorem ovr8':ovr8= .region 8 (oC ovr8) false:=by kernel_rfl
theorem ovs11':ovs11= .seq ovs12 ovs21:=by kernel_rfl
theorem ovs12':ovs12= .seq ovr9 ovb2:=by kernel_rfl
theorem ovr9':ovr9= .region 9 (oC ovr9) false:=by kernel_rfl
theorem ovb2':ovb2= .block 2 ovl13:=by kernel_rfl
theorem ovl13':ovl13= .loop ovs14:=by kernel_rfl
theorem ovs14':ovs14= .seq ovr10 ovs15:=by kernel_rfl
theorem ovr10':ovr10= .region 10 (oC ovr10) false:=by kernel_rfl
theorem ovs15':ovs15= .seq ovc48 ovs16:=by kernel_rfl
theorem ovc48':ovc48= .cond (.tmp 48) .skip (.exit 2):=by kernel_rfl
theorem ovs16':ovs16= .seq ovb3 ovr16:=by kernel_rfl
theorem ovb3':ovb3= .block 3 ovs17:=by kernel_rfl
theorem ovs17':ovs17= .seq ovr11 ovs18:=by kernel_rfl
theorem ovr11':ovr11= .region 11 (oC ovr11) false:=by kernel_rfl
theorem ovs18':ovs18= .seq ovr12 ovs19:=by kernel_rfl
theorem ovr12':ovr12= .region 12 (oC ovr12) true:=by kernel_rfl
theorem ovs19':ovs19= .seq ovr13 ovs20:=by kernel_rfl
theorem ovr13':ovr13= .region 13 (oC ovr13) false:=by kernel_rfl
theorem ovs20':ovs20= .seq ovr14 ovc71:=by kernel_rfl
theorem ovr14':ovr14= .region 14 (oC ovr14) false:=by kernel_rfl
theorem ovc71':ovc71= .cond (.tmp 71) ovr15 .skip:=by kernel_rfl
theorem ovr15':ovr15= .region 15 (oC ovr15) false:=by kernel_rfl
theorem ovr16':ovr16= .region 16 (oC ovr16) false:=by kernel_rfl
theorem ovs21':ovs21= .seq ovr17 ovs22:=by kernel_rfl
theorem ovr17':ovr17= .region 17 (oC ovr17) false:=by kernel_rfl
theorem ovs22':ovs22= .seq ovs23 ovs29:=by kernel_rfl
theorem ovs23':ovs23= .seq ovr18 ovb4:=by kernel_rfl
theorem ovr18':ovr18= .region 18 (oC ovr18) false:=by kernel_rfl
theorem ovb4':ovb4= .block 4 ovl24:=by kernel_rfl
theorem ovl24':ovl24= .loop ovs25:=by kernel_rfl
theorem ovs25':ovs25= .seq ovr19 ovs26:=by kernel_rfl
theorem ovr19':ovr19= .region 19 (oC ovr19) false:=by kernel_rfl
theorem ovs26':ovs26= .seq ovc79 ovs27:=by kernel_rfl
theorem ovc79':ovc79= .cond (.tmp 79) .skip (.exit 4):=by kernel_rfl
theorem ovs27':ovs27= .seq ovb5 ovr22:=by kernel_rfl
theorem ovb5':ovb5= .block 5 ovs28:=by kernel_rfl
theorem ovs28':ovs28= .seq ovr20 ovr21:=by kernel_rfl
theorem ovr20':ovr20= .region 20 (oC ovr20) false:=by kernel_rfl
theorem ovr21':ovr21= .region 21 (oC ovr21) false:=by kernel_rfl
theorem ovr22':ovr22= .region 22 (oC ovr22) false:=by kernel_rfl
theorem ovs29':ovs29= .seq ovb6 ovs39:=by kernel_rfl
theorem ovb6':ovb6= .block 6 ovl30:=by kernel_rfl
theorem ovl30':ovl30= .loop ovs31:=by kernel_rfl
theorem ovs31':ovs31= .seq ovs32 ovb7:=by kernel_rfl
theorem ovs32':ovs32= .seq ovr23 ovc93:=by kernel_rfl
theorem ovr23':ovr23= .region 23 (oC ovr23) false:=by kernel_rfl
theorem ovc93':ovc93= .cond (.tmp 93) .skip (.exit 6):=by kernel_rfl
theorem ovb7':ovb7= .block 7 ovs33:=by kernel_rfl
theorem ovs33':ovs33= .seq ovr24 ovb8:=by kernel_rfl
theorem ovr24':ovr24= .region 24 (oC ovr24) false:=by kernel_rfl
theorem ovb8':ovb8= .block 8 ovl34:=by kernel_rfl
theorem ovl34':ovl34= .loop ovs35:=by kernel_rfl
theorem ovs35':ovs35= .seq ovr25 ovs36:=by kernel_rfl
theorem ovr25':ovr25= .region 25 (oC ovr25) false:=by kernel_rfl
theorem ovs36':ovs36= .seq ovc96 ovs37:=by kernel_rfl
theorem ovc96':ovc96= .cond (.tmp 96) .skip (.exit 8):=by kernel_rfl
theorem ovs37':ovs37= .seq ovb9 ovr28:=by kernel_rfl
theorem ovb9':ovb9= .block 9 ovs38:=by kernel_rfl
theorem ovs38':ovs38= .seq ovr26 ovr27:=by kernel_rfl
theorem ovr26':ovr26= .region 26 (oC ovr26) false:=by kernel_rfl
theorem ovr27':ovr27= .region 27 (oC ovr27) false:=by kernel_rfl
theorem ovr28':ovr28= .region 28 (oC ovr28) false:=by kernel_rfl
theorem ovs39':ovs39= .seq ovr29 ovs40:=by kernel_rfl
theorem ovr29':ovr29= .region 29 (oC ovr29) false:=by kernel_rfl
theorem ovs40':ovs40= .seq ovs41 ovs48:=by kernel_rfl
theorem ovs41':ovs41= .seq ovr30 ovb10:=by kernel_rfl
theorem ovr30':ovr30= .region 30 (oC ovr30) false:=by kernel_rfl
theorem ovb10':ovb10= .block 10 ovl42:=by kernel_rfl
theorem ovl42':ovl42= .loop ovs43:=by kernel_rfl
theorem ovs43':ovs43= .seq ovr31 ovs44:=by kernel_rfl
theorem ovr31':ovr31= .region 31 (oC ovr31) false:=by kernel_rfl
theorem ovs44':ovs44= .seq ovc110 ovs45:=by kernel_rfl
theorem ovc110':ovc110= .cond (.tmp 110) .skip (.exit 10):=by kernel_rfl
theorem ovs45':ovs45= .seq ovb11 ovr35:=by kernel_rfl
theorem ovb11':ovb11= .block 11 ovs46:=by kernel_rfl
theorem ovs46':ovs46= .seq ovr32 ovs47:=by kernel_rfl
theorem ovr32':ovr32= .region 32 (oC ovr32) false:=by kernel_rfl
theorem ovs47':ovs47= .seq ovr33 ovc118:=by kernel_rfl
theorem ovr33':ovr33= .region 33 (oC ovr33) false:=by kernel_rfl
theorem ovc118':ovc118= .cond (.tmp 118) ovr34 .skip:=by kernel_rfl
theorem ovr34':ovr34= .region 34 (oC ovr34) false:=by kernel_rfl
theorem ovr35':ovr35= .region 35 (oC ovr35) false:=by kernel_rfl
theorem ovs48':ovs48= .seq ovr36 .ret:=by kernel_rfl
theorem ovr36':ovr36= .region 36 (oC ovr36) true:=by kernel_rfl
end
noncomputable section
open Go.ConcN (sumTo upd sumTo_upd upd_ne upd_same)
variable{g:Gate}{F:Fz}{w w':World}
def ovT(s:Nat→Value):Array Value:= #[s 0,s 1,s 2,s 3,s 4,s 5,s 6,s 7,s 8,s 9,s 10,s 11,s 12,s 13,s 14,s 15,s 16,s 17,s 18,s 19,s 20,s 21,s 22,s 23,s 24,s 25,s 26,s 27,s 28,s 29,s 30,s 31,s 32,s 33,s 34,s 35,s 36,s 37,s 38,s 39,s 40,s 41,s 42,s 43,s 44,s 45,s 46,s 47,s 48,s 49,s 50,s 51,s 52,s 53,s 54,s 55,s 56,s 57,s 58,s 59,s 60,s 61,s 62,s 63,s 64,s 65,s 66,s 67,s 68,s 69,s 70,s 71,s 72,s 73,s 74,s 75,s 76,s 77,s 78,s 79,s 80,s 81,s 82,s 83,s 84,s 85,s 86,s 87,s 88,s 89,s 90,s 91,s 92,s 93,s 94,s 95,s 96,s 97,s 98,s 99,s 100,s 101,s 102,s 103,s 104,s 105,s 106,s 107,s 108,s 109,s 110,s 111,s 112,s 113,s 114,s 115,s 116,s 117,s 118,s 119,s 120,s 121,s 122,s 123,s 124,s 125,s 126,s 127,s 128]
theorem ovT_of{A:Array Value}(h:A.size=129):∃s,A=ovT s:=by
 obtain⟨s,hs,_⟩:=arr_lit A h
 exact⟨s,hs⟩
def ovBase(g:Gate)(v:Mine):List (Nat×Value):=[(5,.pointer (some ⟨v.mo,0,none⟩)),(6,.pointer (some ⟨v.od,0,none⟩)),(8,.slice none 0 0),(9,.pointer (some ⟨v.n,0,none⟩)),(10,.pointer (some ⟨g.tv,0,none⟩)),(11,.pointer (some ⟨v.lf,0,none⟩))]
def ovBirth(g:Gate)(v:Mine)(thr sch:Value)(i:Nat):List (Nat×Value):=(0,thr)::(1,sch)::(7,.bool false)::(46,.int .i64 g.n)::(47,.int .i64 i)::ovBase g v
theorem ov_b1 [ok:Fits g] {v:Mine}{tb tl tc:Nat}{sch fv:Value}{i:Nat}(hi:i<g.n)(htl:i<tl)(hK:g.K w)(hf:w.cell? ⟨tb,i,none⟩=some fv)(hfz:w.frozen? ⟨tb,i,none⟩=false){A:Array Value}(hA:Slots 129 A (ovBirth g v (.slice (some ⟨tb,0,none⟩) tl tc) sch i)){cs:List Frame}{main:Bool}{Stop:Goroutine→World→Prop}
 (h:∀A,Slots 129 A ((12,.int .i64 i)::(50,.pointer (some ⟨g.tb,0,none⟩))::(51,.int .i64 i)::(55,fv)::ovBirth g v (.slice (some ⟨tb,0,none⟩) tl tc) sch i)→Own Try.prog main F Stop (G ((Go.Conc.base 82).at ⟨A,[]⟩ [.inRegion (oC ovr12) [6],.code ovs19,.inBlock 3,.code ovr16,.inLoop ovs14,.inBlock 2,.code ovs21]) cs) w):
 Own Try.prog main F Stop (G ((Go.Conc.base 82).at ⟨A,[]⟩ [.code ovs14,.inLoop ovs14,.inBlock 2,.code ovs21]) cs) w:=by
 obtain⟨hsz,h0,h1,h7,h46,h47,h5,h6,h8,h9,h10,h11,_⟩:=hA
 obtain⟨s,rfl⟩:=ovT_of hsz
 change s 0=_ at h0
 change s 1=_ at h1
 change s 7=_ at h7
 change s 46=_ at h46
 change s 47=_ at h47
 change s 5=_ at h5
 change s 6=_ at h6
 change s 8=_ at h8
 change s 9=_ at h9
 change s 10=_ at h10
 change s 11=_ at h11
 clear hsz
 simp only[ovT,h0,h1,h7,h46,h47,h5,h6,h8,h9,h10,h11]
 clear h0 h1 h7 h46 h47 h5 h6 h8 h9 h10 h11
 have hlt:decide ((i:Int)<(g.n:Int))=true:=by simp;omega
 have hlt2:decide (i<g.n)=true:=by simp;omega
 have ct:=(hK _ _ .tv).c
 have zt:=(hK _ _ .tv).z
 refine ogSR ovs14' ovr10' ?_
 simp only[ovr10,ovBody,Try.f82,zz,Nat.reduceAdd]
 (refine oW fun dd K hK=>?_;go_simp;refine qT hK ?_;clear hK K)
 refine ogE ?_
 refine ogSE ovs15' ?_
 rw[ovc48']
 refine ogT ?_
 simp only[if_true]
 refine ogK ?_
 refine ogSE ovs16' ?_
 rw[ovb3']
 refine ogB ?_
 refine ogSR ovs17' ovr11' ?_
 simp only[ovr11,ovBody,Try.f82,zz,Nat.reduceAdd]
 iterate 2 (refine oW fun dd K hK=>?_;go_simp;refine qT hK ?_;clear hK K)
 refine ogE ?_
 refine ogSE ovs18' ?_
 rw[ovr12']
 refine own_drawn (last:=6) run_mixed (ll_of (by kernel_rfl)) (by decide) ?_
 simp only[ovr12,ovBody,Try.f82,zz,Nat.reduceAdd]
 refine anyL_take (i:=0) (v:=.pointer (some ⟨g.tb,0,none⟩)) rfl rfl (by kernel_rfl) (by kernel_rfl) (by kernel_rfl) (.inl ⟨rfl,fun d=>⟨by simp[go_sem,execOp,Act.eval, *],fun e he=>by have hm:=mem_listed he;simp[go_sem,execOp,Act.eval, *]at hm;subst hm;exact evT_read _ _⟩⟩) ?_
 walk_nrm
 refine anyL_take (i:=1) (v:=.int .i64 i) rfl rfl (by kernel_rfl) (by kernel_rfl) (by kernel_rfl) (.inl ⟨rfl,fun d=>⟨by simp[go_sem,execOp,Act.eval, *],fun e he=>by have hm:=mem_listed he;simp[go_sem,execOp,Act.eval, *]at hm⟩⟩) ?_
 walk_nrm
 refine anyL_take (i:=2) (v:=.slice (some ⟨tb,0,none⟩) tl tc) rfl rfl (by kernel_rfl) (by kernel_rfl) (by kernel_rfl) (.inl ⟨rfl,fun d=>⟨by simp[go_sem,execOp,Act.eval, *],fun e he=>by have hm:=mem_listed he;simp[go_sem,execOp,Act.eval, *]at hm⟩⟩) ?_
 walk_nrm
 refine anyL_take (i:=3) (v:=.int .i64 i) rfl rfl (by kernel_rfl) (by kernel_rfl) (by kernel_rfl) (.inl ⟨rfl,fun d=>⟨by simp[go_sem,execOp,Act.eval, *],fun e he=>by have hm:=mem_listed he;simp[go_sem,execOp,Act.eval, *]at hm⟩⟩) ?_
 walk_nrm
 refine anyL_take (i:=4) (v:=.pointer (some ⟨tb,i,none⟩)) rfl rfl (by kernel_rfl) (by kernel_rfl) (by kernel_rfl) (.inl ⟨rfl,fun d=>⟨by simp[go_sem,execOp,Act.eval, *],fun e he=>by have hm:=mem_listed he;simp[go_sem,execOp,Act.eval, *]at hm⟩⟩) ?_
 walk_nrm
 refine anyL_take (i:=5) (v:=fv) rfl rfl (by kernel_rfl) (by kernel_rfl) (by kernel_rfl) (.inl ⟨rfl,fun d=>⟨by simp[go_sem,execOp,Act.eval, *],fun e he=>by have hm:=mem_listed he;simp[go_sem,execOp,Act.eval, *]at hm;subst hm;exact evT_read _ _⟩⟩) ?_
 walk_nrm
 refine anyL_end' (by kernel_rfl) ?_ _
 exact h _ ⟨rfl,rfl,rfl,rfl,rfl,rfl,rfl,rfl,rfl,rfl,rfl,rfl,rfl,rfl,rfl,rfl,trivial⟩
def ovGm(cs:List Frame)(A:Array Value):Goroutine:=G ((Go.Conc.base 82).at ⟨A,[]⟩ [.inRegion (oC ovr13) [4],.code ovs20,.inBlock 3,.code ovr16,.inLoop ovs14,.inBlock 2,.code ovs21]) cs
theorem ov_b2 [ok:Fits g] {v:Mine}{thr sch:Value}{i:Nat}{A:Array Value}(hA:Slots 129 A ((12,.int .i64 i)::ovBirth g v thr sch i)){cs:List Frame}(w:World):
 ∃A2,Slots 129 A2 ((12,.int .i64 i)::ovBirth g v thr sch i)∧Sits Try.prog true g.K g.Still g.top (backSeat g (ovGm cs A2)) 8 (G ((Go.Conc.base 82).at ⟨A,[]⟩ [.inRegion (oC ovr12) [],.code ovs19,.inBlock 3,.code ovr16,.inLoop ovs14,.inBlock 2,.code ovs21]) cs):=by
 obtain⟨hsz,h12,h0,h1,h7,h46,h47,h5,h6,h8,h9,h10,h11,_⟩:=hA
 obtain⟨s,rfl⟩:=ovT_of hsz
 change s 12=_ at h12
 change s 0=_ at h0
 change s 1=_ at h1
 change s 7=_ at h7
 change s 46=_ at h46
 change s 47=_ at h47
 change s 5=_ at h5
 change s 6=_ at h6
 change s 8=_ at h8
 change s 9=_ at h9
 change s 10=_ at h10
 change s 11=_ at h11
 clear hsz
 simp only[ovT,h12,h0,h1,h7,h46,h47,h5,h6,h8,h9,h10,h11]
 clear h12 h0 h1 h7 h46 h47 h5 h6 h8 h9 h10 h11
 refine⟨#[thr,sch,s 2,s 3,s 4,.pointer (some ⟨v.mo,0,none⟩),.pointer (some ⟨v.od,0,none⟩),.bool false,.slice none 0 0,.pointer (some ⟨v.n,0,none⟩),.pointer (some ⟨g.tv,0,none⟩),.pointer (some ⟨v.lf,0,none⟩),.int .i64 i,s 13,s 14,s 15,s 16,s 17,s 18,s 19,s 20,s 21,s 22,s 23,s 24,s 25,s 26,s 27,s 28,s 29,s 30,s 31,s 32,s 33,s 34,s 35,s 36,s 37,s 38,s 39,s 40,s 41,s 42,s 43,s 44,s 45,.int .i64 g.n,.int .i64 i,s 48,s 49,s 50,s 51,s 52,s 53,s 54,s 55,.pointer (some ⟨g.tb,0,none⟩),.pointer (some ⟨g.tb,0,none⟩),.pointer (some ⟨g.tb,0,none⟩),.chan (some g.bk),s 60,s 61,s 62,s 63,s 64,s 65,s 66,s 67,s 68,s 69,s 70,s 71,s 72,s 73,s 74,s 75,s 76,s 77,s 78,s 79,s 80,s 81,s 82,s 83,s 84,s 85,s 86,s 87,s 88,s 89,s 90,s 91,s 92,s 93,s 94,s 95,s 96,s 97,s 98,s 99,s 100,s 101,s 102,s 103,s 104,s 105,s 106,s 107,s 108,s 109,s 110,s 111,s 112,s 113,s 114,s 115,s 116,s 117,s 118,s 119,s 120,s 121,s 122,s 123,s 124,s 125,s 126,s 127,s 128],⟨rfl,rfl,rfl,rfl,rfl,rfl,rfl,rfl,rfl,rfl,rfl,rfl,rfl,trivial⟩,.inl ⟨7,w,rfl,?_⟩⟩
 k_c stepG_region_end
 rw[ovs19']
 k_c stepG_seq
 rw[ovr13']
 simp only[ovr13,ovBody,Try.f82,zz,Nat.reduceAdd]
 k_reg
 k_ld [(Gate.K.lies h₁ _ _ .tv).c,(Gate.K.lies h₁ _ _ .tv).z] (Gate.still .tv)
 iterate 2 (k_in;refine goes_oper_k rfl rfl (by decide) (fun K hK=>?_);go_simp;refine hK _ _ ⟨⟨rfl,fun e he=>by(have hm:=mem_listed he;simp[go_sem]at hm)⟩,?_⟩;clear hK K)
 k_ld [(Gate.K.lies h₁ _ _ .back).c,(Gate.K.lies h₁ _ _ .back).z] (Gate.still .back)
 refine fun _ _=>⟨_,atIn_of (s:=backSeat g (ovGm cs #[thr,sch,s 2,s 3,s 4,.pointer (some ⟨v.mo,0,none⟩),.pointer (some ⟨v.od,0,none⟩),.bool false,.slice none 0 0,.pointer (some ⟨v.n,0,none⟩),.pointer (some ⟨g.tv,0,none⟩),.pointer (some ⟨v.lf,0,none⟩),.int .i64 i,s 13,s 14,s 15,s 16,s 17,s 18,s 19,s 20,s 21,s 22,s 23,s 24,s 25,s 26,s 27,s 28,s 29,s 30,s 31,s 32,s 33,s 34,s 35,s 36,s 37,s 38,s 39,s 40,s 41,s 42,s 43,s 44,s 45,.int .i64 g.n,.int .i64 i,s 48,s 49,s 50,s 51,s 52,s 53,s 54,s 55,.pointer (some ⟨g.tb,0,none⟩),.pointer (some ⟨g.tb,0,none⟩),.pointer (some ⟨g.tb,0,none⟩),.chan (some g.bk),s 60,s 61,s 62,s 63,s 64,s 65,s 66,s 67,s 68,s 69,s 70,s 71,s 72,s 73,s 74,s 75,s 76,s 77,s 78,s 79,s 80,s 81,s 82,s 83,s 84,s 85,s 86,s 87,s 88,s 89,s 90,s 91,s 92,s 93,s 94,s 95,s 96,s 97,s 98,s 99,s 100,s 101,s 102,s 103,s 104,s 105,s 106,s 107,s 108,s 109,s 110,s 111,s 112,s 113,s 114,s 115,s 116,s 117,s 118,s 119,s 120,s 121,s 122,s 123,s 124,s 125,s 126,s 127,s 128])) rfl rfl (by decide) (fun w=>by simp[go_sem,execOp,rcase,Act.eval,backSeat,Seat.one]) (fun w=>by simp[go_sem,execOp,Act.eval]) ?_⟩
 rfl
theorem ov_b3 [ok:Fits g] {v:Mine}{thr sch:Value}{i:Nat} [hi:Has g i] (hn64:g.n≤64)(hK:g.K w)(ho:Lies w ⟨g.st i,2,none⟩ (.bool false)){lf:Nat}(hl:Lies w ⟨v.lf,0,none⟩ (.int .i64 lf))(hlf:lf<1000000)(hnh:¬held F ⟨v.lf,0,none⟩){A:Array Value}(hA:Slots 129 A ((12,.int .i64 i)::ovBirth g v thr sch i)){cs:List Frame}{main:Bool}{Stop:Goroutine→World→Prop}
 (h:∀A,Slots 129 A (ovBirth g v thr sch (i+1))→Own Try.prog main F Stop (G ((Go.Conc.base 82).at ⟨A,[]⟩ [.code ovs14,.inLoop ovs14,.inBlock 2,.code ovs21]) cs) (w.setCell ⟨v.lf,0,none⟩ (.int .i64 (lf+1:Nat)))):
 Own Try.prog main F Stop (Go.Conc.served (ovGm cs A) (.agg #[])) w:=by
 obtain⟨hsz,h12,h0,h1,h7,h46,h47,h5,h6,h8,h9,h10,h11,_⟩:=hA
 obtain⟨s,rfl⟩:=ovT_of hsz
 change s 12=_ at h12
 change s 0=_ at h0
 change s 1=_ at h1
 change s 7=_ at h7
 change s 46=_ at h46
 change s 47=_ at h47
 change s 5=_ at h5
 change s 6=_ at h6
 change s 8=_ at h8
 change s 9=_ at h9
 change s 10=_ at h10
 change s 11=_ at h11
 clear hsz
 simp only[ovT,h12,h0,h1,h7,h46,h47,h5,h6,h8,h9,h10,h11]
 clear h12 h0 h1 h7 h46 h47 h5 h6 h8 h9 h10 h11
 have hin:=hi.lt
 have hi64:(i:Int)<100:=by have:=hn64;omega
 have hsl:=ok.ok.sl (Nat.lt_of_le_of_lt (Nat.zero_le _) hin)
 have ct:=(hK _ _ .tv).c
 have zt:=(hK _ _ .tv).z
 have c3:=(hK _ _ .stands).c
 have z3:=(hK _ _ .stands).z
 have c4:=(hK _ _ (.stand i hin)).c
 have z4:=(hK _ _ (.stand i hin)).z
 have c5:=ho.c
 have z5:=ho.z
 have hwi:IntKind.i64.wrap ((i:Int)+1)=(i:Int)+1:=IntWalk.i64_in _ (by omega)
 rw[hsl]at c3
 have c6:=hl.c
 have z6:=hl.z
 have hw:IntKind.i64.wrap ((lf:Int)+1)=(lf:Int)+1:=IntWalk.i64_in _ (by omega)
 unfold ovGm
 rw[served_fr,Frame.finish_at]
 simp only[ovr13,ovBody,Try.f82,zz,Nat.reduceAdd]
 walk_nrm
 refine ogE ?_
 refine ogSR ovs20' ovr14' ?_
 simp only[ovr14,ovBody,Try.f82,zz,Nat.reduceAdd]
 (refine oW fun dd K hK=>?_;go_simp;refine qL hK ?_;clear hK K)
 iterate 2 (refine oW fun dd K hK=>?_;go_simp;refine qT hK ?_;clear hK K)
 (refine oW fun dd K hK=>?_;go_simp;refine qL hK ?_;clear hK K)
 (refine oW fun dd K hK=>?_;go_simp;refine qT hK ?_;clear hK K)
 (refine oW fun dd K hK=>?_;go_simp;refine qX hK ?_;clear hK K)
 (refine oW fun dd K hK=>?_;go_simp;refine qL hK ?_;clear hK K)
 iterate 2 (refine oW fun dd K hK=>?_;go_simp;refine qT hK ?_;clear hK K)
 (refine oW fun dd K hK=>?_;go_simp;refine qL hK ?_;clear hK K)
 (refine oW fun dd K hK=>?_;go_simp;refine qT hK ?_;clear hK K)
 refine ogE ?_
 rw[ovc71']
 refine ogT ?_
 simp only[if_true]
 rw[ovr15']
 refine ogR ?_
 simp only[ovr15,ovBody,Try.f82,zz,Nat.reduceAdd]
 (refine oW fun dd K hK=>?_;go_simp;refine qL hK ?_;clear hK K)
 (refine oW fun dd K hK=>?_;go_simp;refine qT hK ?_;clear hK K)
 (refine oW fun dd K hK=>?_;go_simp;refine hK _ _ ⟨⟨⟨0,grew_setCell rfl hnh _⟩,fun e he=>by(have hm:=mem_listed he;clear he hK;simp[go_sem,storedEv,c6,z6]at hm;subst hm;exact evT_write _ _ hnh)⟩,?_⟩;clear hK K;rw[setCell_at'];refine Own.at ?_ dd)
 refine ogE ?_
 refine ogI ?_
 rw[ovr16']
 refine ogR ?_
 simp only[ovr16,ovBody,Try.f82,zz,Nat.reduceAdd]
 iterate 2 (refine oW fun dd K hK=>?_;go_simp;refine qT hK ?_;clear hK K)
 refine ogE ?_
 refine ogL ?_
 exact h _ ⟨rfl,rfl,rfl,rfl,rfl,rfl,rfl,rfl,rfl,rfl,rfl,rfl,trivial⟩
theorem ov_b4 [ok:Fits g] {v:Mine}{thr sch:Value}{i:Nat} [hi:Has g i] (hn64:g.n≤64)(hK:g.K w)(ho:Lies w ⟨g.st i,2,none⟩ (.bool true)){A:Array Value}(hA:Slots 129 A ((12,.int .i64 i)::ovBirth g v thr sch i)){cs:List Frame}{main:Bool}{Stop:Goroutine→World→Prop}
 (h:∀A,Slots 129 A (ovBirth g v thr sch (i+1))→Own Try.prog main F Stop (G ((Go.Conc.base 82).at ⟨A,[]⟩ [.code ovs14,.inLoop ovs14,.inBlock 2,.code ovs21]) cs) w):
 Own Try.prog main F Stop (Go.Conc.served (ovGm cs A) (.agg #[])) w:=by
 obtain⟨hsz,h12,h0,h1,h7,h46,h47,h5,h6,h8,h9,h10,h11,_⟩:=hA
 obtain⟨s,rfl⟩:=ovT_of hsz
 change s 12=_ at h12
 change s 0=_ at h0
 change s 1=_ at h1
 change s 7=_ at h7
 change s 46=_ at h46
 change s 47=_ at h47
 change s 5=_ at h5
 change s 6=_ at h6
 change s 8=_ at h8
 change s 9=_ at h9
 change s 10=_ at h10
 change s 11=_ at h11
 clear hsz
 simp only[ovT,h12,h0,h1,h7,h46,h47,h5,h6,h8,h9,h10,h11]
 clear h12 h0 h1 h7 h46 h47 h5 h6 h8 h9 h10 h11
 have hin:=hi.lt
 have hi64:(i:Int)<100:=by have:=hn64;omega
 have hsl:=ok.ok.sl (Nat.lt_of_le_of_lt (Nat.zero_le _) hin)
 have ct:=(hK _ _ .tv).c
 have zt:=(hK _ _ .tv).z
 have c3:=(hK _ _ .stands).c
 have z3:=(hK _ _ .stands).z
 have c4:=(hK _ _ (.stand i hin)).c
 have z4:=(hK _ _ (.stand i hin)).z
 have c5:=ho.c
 have z5:=ho.z
 have hwi:IntKind.i64.wrap ((i:Int)+1)=(i:Int)+1:=IntWalk.i64_in _ (by omega)
 rw[hsl]at c3
 unfold ovGm
 rw[served_fr,Frame.finish_at]
 simp only[ovr13,ovBody,Try.f82,zz,Nat.reduceAdd]
 walk_nrm
 refine ogE ?_
 refine ogSR ovs20' ovr14' ?_
 simp only[ovr14,ovBody,Try.f82,zz,Nat.reduceAdd]
 (refine oW fun dd K hK=>?_;go_simp;refine qL hK ?_;clear hK K)
 iterate 2 (refine oW fun dd K hK=>?_;go_simp;refine qT hK ?_;clear hK K)
 (refine oW fun dd K hK=>?_;go_simp;refine qL hK ?_;clear hK K)
 (refine oW fun dd K hK=>?_;go_simp;refine qT hK ?_;clear hK K)
 (refine oW fun dd K hK=>?_;go_simp;refine qX hK ?_;clear hK K)
 (refine oW fun dd K hK=>?_;go_simp;refine qL hK ?_;clear hK K)
 iterate 2 (refine oW fun dd K hK=>?_;go_simp;refine qT hK ?_;clear hK K)
 (refine oW fun dd K hK=>?_;go_simp;refine qL hK ?_;clear hK K)
 (refine oW fun dd K hK=>?_;go_simp;refine qT hK ?_;clear hK K)
 refine ogE ?_
 rw[ovc71']
 refine ogF ?_
 simp only[Bool.false_eq_true,if_false]
 refine ogK ?_
 refine ogI ?_
 rw[ovr16']
 refine ogR ?_
 simp only[ovr16,ovBody,Try.f82,zz,Nat.reduceAdd]
 iterate 2 (refine oW fun dd K hK=>?_;go_simp;refine qT hK ?_;clear hK K)
 refine ogE ?_
 refine ogL ?_
 exact h _ ⟨rfl,rfl,rfl,rfl,rfl,rfl,rfl,rfl,rfl,rfl,rfl,rfl,trivial⟩
end
section
open Go.ConcN (sumTo upd sumTo_upd upd_ne upd_same)
variable{g:Gate}{F:Fz}{Z:Users}{A:Nat→Bool}{vs:Nat→Vars}{N:Nat→Prop}{ov:Nat→Bool}{x y:Z.X}{w w':World}{s0 nn:Nat}{Gl:Machine→Trace→Prop}{v:Mine}{base M:Nat}
def RowIs(Z:Users)(b off:Nat)(xs:List Value):Prop:=∃c e z,Z.I b=some (.cells c e z)∧∀k u,xs[k]? =some u→c[off+k]? =some u∧(decide (z.1≤off+k) && decide (off+k<z.2))=false
theorem RowIs.cell(zok:Z.Ok g)(hU:Z.U x w){b off k:Nat}{xs:List Value}{u:Value}(h:RowIs Z b off xs)(hk:xs[k]? =some u):w.cell? ⟨b,off+k,none⟩=some u∧w.frozen? ⟨b,off+k,none⟩=false:=by
 obtain⟨c,e,z,h1,h2⟩:=h
 obtain⟨h3,_⟩:=zok.fix x w b _ hU h1
 obtain⟨h4,h5⟩:=h2 k u hk
 exact⟨by simp[World.cell?,h3,h4],by simpa [World.frozen?,h3]using h5⟩
def Borns(Z:Users):Nat→Z.X→Z.X→Prop
 | 0,x,y=>y=x
 | i+1,x,z=>∃y,Borns Z i x y∧Z.bor y i z
theorem borns_nw{Z:Users}{g:Gate}(zok:Z.Ok g):∀(i:Nat) (x y:Z.X),Borns Z i x y→∀j,i≤j→Z.nw x j→Z.nw y j
 | 0,_,_,h,_,_,hn=>by
   have h:_=_:=h
   rw[h];exact hn
 | i+1,x,z,⟨y,h1,h2⟩,j,hj,hn=>zok.nwO y i z j h2 (by omega) (borns_nw zok i x y h1 j (by omega) hn)
theorem Alone.born{Al:Nat→Prop}{b:Nat}(h:Alone Z g vs Al N b)(hb:b<w.heap.size)(i:Nat):Alone Z g (moreV vs i w) (fun j=>Al j∨j=i) (moreN N w) b:=
 ⟨.inl h.n,h.st,h.br,h.place,fun j hj=>by
  unfold moreV
  by_cases e:j=i
  ·rw[if_pos e];simp only;omega
  ·rw[if_neg e];exact h.vars j (hj.resolve_right e),h.inp⟩
theorem MI.born{Al:Nat→Prop}{lf:Nat}(h:MI Z g vs Al N v base M none 0 0 [] lf w)(i:Nat):MI Z g (moreV vs i w) (fun j=>Al j∨j=i) (moreN N w) v base M none 0 0 [] lf w:=by
 obtain⟨c,h1,h2⟩:=h.od
 exact⟨h.n,h.mo,h.lf,h.od,h.row,h.an.born h.n.lt i,h.amo.born h.mo.lt i,h.alf.born h.lf.lt i,h.aod.born (alt h1) i,fun y hy=>(by cases hy),h.dn,h.drow,h.base⟩
theorem ov_spawn{A:Array Value}{i:Nat}{f:Value}(h50:A.getD 50 undef= .pointer (some ⟨g.tb,0,none⟩))(h51:A.getD 51 undef= .int .i64 i)(h55:A.getD 55 undef=f){k:List Item}{cs:List Frame}{main:Bool}:
 stepG Try.prog main (G ((Go.Conc.base 82).at ⟨A,[]⟩ (.inRegion (oC ovr12) [6]::k)) cs) w= .spawn (G ((Go.Conc.base 82).at ⟨A,[]⟩ (.inRegion (oC ovr12) []::k)) cs) (born Try.prog (callRun g i f)) w #[]:=by
 simp only[oC,ovr12,pC,ovBody,Try.f82,Option.getD_some]
 rw[stepG_spawn (d:=callRun g i f) (f:=.func 101) (c:= #[]) (w':=w) rfl rfl (by decide) (by simp[go_sem,execOp,Act.eval,Deferred.ofValue,callRun,h50,h51,h55]) rfl,listed_none (by simp[go_sem,execOp,Act.eval,Deferred.ofValue,callRun,h50,h51,h55])]
 rfl
theorem tok_births [ok:Fits g] (zok:Z.Ok g)(hs0:0<s0)(hn64:g.n≤64){tb tl tc:Nat}{sch:Value}{x0:Z.X}(hnw:∀j,j<g.n→Z.nw x0 j)(htl:g.n≤tl)(hth:RowIs Z tb 0 ((List.range g.n).map fun j=>.func (.func Z.fid) #[] (Z.cap j))){cs:List Frame}
 (hk:∀(x:Z.X) (w:World) (F:Array Value) (vs:Nat→Vars) (N:Nat→Prop) (ms:Option Seat),Borns Z g.n x0 x→TI Z g (fun j=>(decide (j<g.n) && Z.liv x j)=true) vs N (fun j=>decide (j<g.n) && !Z.liv x j) x w→
   MI Z g vs (fun j=>(decide (j<g.n) && Z.liv x j)=true) N v base M none 0 0 [] (cnt (Z.liv x) g.n) w→g.top≤w.heap.size→Slots 129 F (ovBirth g v (.slice (some ⟨tb,0,none⟩) tl tc) sch g.n)→
   Tok Try.prog g.K g.Still g.top Gl (inb Z g s0 (fun j=>decide (j<g.n) && Z.liv x j) vs ms x) 0 (s0+g.n) (G ((Go.Conc.base 82).at ⟨F,[]⟩ [.code ovs14,.inLoop ovs14,.inBlock 2,.code ovs21]) cs) w):
 ∀(k i:Nat),i+k=g.n→∀(x:Z.X) (w:World) (F:Array Value) (vs:Nat→Vars) (N:Nat→Prop) (ms:Option Seat),Borns Z i x0 x→TI Z g (fun j=>(decide (j<i) && Z.liv x j)=true) vs N (fun j=>decide (j<i) && !Z.liv x j) x w→
  MI Z g vs (fun j=>(decide (j<i) && Z.liv x j)=true) N v base M none 0 0 [] (cnt (Z.liv x) i) w→g.top≤w.heap.size→Slots 129 F (ovBirth g v (.slice (some ⟨tb,0,none⟩) tl tc) sch i)→
  Tok Try.prog g.K g.Still g.top Gl (inb Z g s0 (fun j=>decide (j<i) && Z.liv x j) vs ms x) 0 (s0+i) (G ((Go.Conc.base 82).at ⟨F,[]⟩ [.code ovs14,.inLoop ovs14,.inBlock 2,.code ovs21]) cs) w:=by
 intro k
 induction k with
 | zero=>
   intro i hi
   obtain rfl:i=g.n:=by omega
   exact hk
 | succ k ih=>
   intro i hi x w A vs N ms hB H HM ht hA
   have hin:i<g.n:=by omega
   have hiH:Has g i:=⟨hin⟩
   refine tok_intro fun _ hK _=>?_
   obtain⟨hf,hfz⟩:=hth.cell (k:=i) (u:=.func (.func Z.fid) #[] (Z.cap i)) zok H.u (by simp[hin])
   simp only[Nat.zero_add]at hf hfz
   refine tok_own (F:=FK g) (Stop:=fun a u=>∃A2,Slots 129 A2 ((12,.int .i64 i)::(50,.pointer (some ⟨g.tb,0,none⟩))::(51,.int .i64 i)::(55,.func (.func Z.fid) #[] (Z.cap i))::ovBirth g v (.slice (some ⟨tb,0,none⟩) tl tc) sch i)∧
    a=G ((Go.Conc.base 82).at ⟨A2,[]⟩ [.inRegion (oC ovr12) [6],.code ovs19,.inBlock 3,.code ovr16,.inLoop ovs14,.inBlock 2,.code ovs21]) cs∧∃d,u=w.at d) K_at fk_covers fk_K
    (ov_b1 hin (by omega) hK hf hfz hA fun A2 hA2=>.stop fun d=>⟨A2,hA2,rfl,d,rfl⟩) fun g' w0 d hS=>?_
   obtain⟨A2,hA2,rfl,d',e⟩:=hS d
   rw[e]
   obtain⟨hsz2,q12,q50,q51,q55,q0,q1,q7,q46,q47,q5,q6,q8,q9,q10,q11,_⟩:=hA2
   obtain⟨A3,hA3,hsit⟩:=ov_b2 (A:=A2) (cs:=cs) (v:=v) (thr:=.slice (some ⟨tb,0,none⟩) tl tc) (sch:=sch) (i:=i) ⟨hsz2,q12,q0,q1,q7,q46,q47,q5,q6,q8,q9,q10,q11,trivial⟩ w
   refine tok_birth zok hs0 hin (borns_nw zok i x0 x hB i (Nat.le_refl i) (hnw i hin)) rfl (fun j hj=>by simp at hj;exact hj.1) (H.at zok d') (by simp) ht rfl (fun d=>ov_spawn q50 q51 q55) hsit fun y w1 hy H1 k1=>?_
   have hyl:∀j,j<i→Z.liv y j=Z.liv x j:=fun j hj=>(zok.borO x i y j hy (by omega)).1
   have eA:(fun j=>((decide (j<i) && Z.liv x j) || j == i) && (j != i || Z.liv y i))=fun j=>decide (j<i+1) && Z.liv y j:=by
    funext j
    rcases Nat.lt_trichotomy j i with h|h|h
    ·have e1:(j == i)=false:=by simp;omega
     have e2:(j != i)=true:=by simp;omega
     have e3:decide (j<i)=true:=by simpa using h
     have e4:decide (j<i+1)=true:=by simp;omega
     rw[e1,e2,e3,e4,hyl j h];simp
    ·subst h;simp
    ·have e1:(j == i)=false:=by simp;omega
     have e3:decide (j<i)=false:=by simp;omega
     have e4:decide (j<i+1)=false:=by simp;omega
     rw[e1,e3,e4];simp
   have eO:(fun j=>if j=i then !Z.liv y i else decide (j<i) && !Z.liv x j)=fun j=>decide (j<i+1) && !Z.liv y j:=by
    funext j
    rcases Nat.lt_trichotomy j i with h|h|h
    ·have e3:decide (j<i)=true:=by simpa using h
     have e4:decide (j<i+1)=true:=by simp;omega
     rw[if_neg (by omega),e3,e4,hyl j h]
    ·subst h;simp
    ·have e3:decide (j<i)=false:=by simp;omega
     have e4:decide (j<i+1)=false:=by simp;omega
     rw[if_neg (by omega),e3,e4];simp
   have eP:(fun j=>(((decide (j<i) && Z.liv x j) || j == i) && (j != i || Z.liv y i))=true)=fun j=>(decide (j<i+1) && Z.liv y j)=true:=by
    funext j;rw[show(((decide (j<i) && Z.liv x j) || j == i) && (j != i || Z.liv y i))=_ from congrFun eA j]
   rw[eP,eO]at H1
   rw[eA]
   have HM1:=((HM.at d').born i).kept hin (.inr rfl) k1
   have HM2:MI Z g (moreV vs i (w.at d')) (fun j=>(decide (j<i+1) && Z.liv y j)=true) (moreN N (w.at d')) v base M none 0 0 [] (cnt (Z.liv x) i) w1:=HM1.mono fun j hj=>by
    simp only[Bool.and_eq_true,decide_eq_true_eq]at hj ⊢
    by_cases e:j=i
    ·exact .inr e
    ·have:j<i:=by omega
     exact .inl ⟨this,by rw[← hyl j this];exact hj.2⟩
   have hB1:Borns Z (i+1) x0 y:=⟨x,hB,hy⟩
   have ht1:g.top≤w1.heap.size:=Nat.le_trans ht k1.size
   have hcn:cnt (Z.liv x) i=cnt (Z.liv y) i:=cnt_congr fun j hj=>(hyl j hj).symm
   have hcl:=cnt_le (Z.liv x) i
   refine tok_intro fun _ hK1 _=>?_
   have ho:=H1.over i hin
   have hlt:decide (i<i+1)=true:=by simp
   rw[hlt,Bool.true_and]at ho
   rcases Bool.eq_false_or_eq_true (Z.liv y i)with hl|hl
   ·rw[hl]at ho
    have hnh:¬held (FK g) ⟨v.lf,0,none⟩:=not_held' (fk_none (fun j hj=>HM2.alf.st j hj) fun a u p=>HM2.alf.place a u p)
    refine tok_own (F:=FK g) (Stop:=fun a u=>∃A4,Slots 129 A4 (ovBirth g v (.slice (some ⟨tb,0,none⟩) tl tc) sch (i+1))∧
     a=G ((Go.Conc.base 82).at ⟨A4,[]⟩ [.code ovs14,.inLoop ovs14,.inBlock 2,.code ovs21]) cs∧∃d,u=(w1.setCell ⟨v.lf,0,none⟩ (.int .i64 (cnt (Z.liv x) i+1:Nat))).at d) K_at fk_covers fk_K
     (ov_b3 hn64 hK1 ho HM2.lf (by omega) hnh hA3 fun A4 hA4=>.stop fun d=>⟨A4,hA4,rfl,d,rfl⟩) fun g' w0 d hS=>?_
    obtain⟨A4,hA4,rfl,d2,e2⟩:=hS d
    rw[e2]
    have hc:cnt (Z.liv x) i+1=cnt (Z.liv y) (i+1):=by simp only[cnt,hcn,hl,if_true]
    have HM3:=(HM2.setLf (l1:=cnt (Z.liv x) i+1)).at d2
    rw[hc]at HM3
    have:=ih (i+1) (by omega) y _ A4 _ _ (some (backSeat g (ovGm cs A3))) hB1 ((H1.setLf zok HM2.alf).at zok d2) (by rw[← hc]at HM3 ⊢;exact HM3) (by simpa [size_at']using ht1) hA4
    exact this
   ·rw[hl]at ho
    refine tok_own (F:=FK g) (Stop:=fun a u=>∃A4,Slots 129 A4 (ovBirth g v (.slice (some ⟨tb,0,none⟩) tl tc) sch (i+1))∧
     a=G ((Go.Conc.base 82).at ⟨A4,[]⟩ [.code ovs14,.inLoop ovs14,.inBlock 2,.code ovs21]) cs∧∃d,u=w1.at d) K_at fk_covers fk_K
     (ov_b4 hn64 hK1 ho hA3 fun A4 hA4=>.stop fun d=>⟨A4,hA4,rfl,d,rfl⟩) fun g' w0 d hS=>?_
    obtain⟨A4,hA4,rfl,d2,e2⟩:=hS d
    rw[e2]
    have hc:cnt (Z.liv x) i=cnt (Z.liv y) (i+1):=by simp[cnt,hcn,hl]
    have HM3:=HM2.at d2
    rw[hc]at HM3
    exact ih (i+1) (by omega) y _ A4 _ _ (some (backSeat g (ovGm cs A3))) hB1 (H1.at zok d2) HM3 (by simpa [size_at']using ht1) hA4
end
section
open Go.ConcN (sumTo upd sumTo_upd upd_ne upd_same)
variable{g:Gate}{F:Fz}{Z:Users}{x y:Z.X}{w w':World}{s0 nn:Nat}{Gl:Machine→Trace→Prop}{v:Mine}{base M:Nat}
def Turn(Z:Users)(n M:Nat)(s:Z.X×List Nat)(i:Int)(t:Z.X×List Nat):Prop:=
 if 0≤i∧i<n∧Z.liv s.1 i.toNat=true∧s.2.length≠M then Z.stp s.1 i.toNat t.1∧t.2=s.2++[i.toNat]else t=s
theorem turn_no{n:Nat}{s:Z.X×List Nat}{i:Int}(h:¬(0≤i∧i<n∧Z.liv s.1 i.toNat=true∧s.2.length≠M)):Turn Z n M s i s:=by
 unfold Turn
 rw[if_neg h]
def Turns(Z:Users)(n M:Nat):List Int→Z.X×List Nat→Z.X×List Nat→Prop
 | [],s,t=>t=s
 | i::l,s,t=>∃u,Turn Z n M s i u∧Turns Z n M l u t
inductive Rounds(Z:Users)(n M:Nat):Z.X×List Nat→Z.X×List Nat→Prop
 | done {s:Z.X×List Nat}:(cnt (Z.liv s.1) n=0∨M≤s.2.length)→Rounds Z n M s s
 | more {s u t:Z.X×List Nat}:0<cnt (Z.liv s.1) n→s.2.length<M→Turns Z n M ((List.range n).map fun j:Nat=>(j:Int)) s u→Rounds Z n M u t→Rounds Z n M s t
def Under2(Z:Users)(g:Gate)(v:Mine)(base M s0:Nat)(s:Z.X×List Nat)(Inb:Nat→Option Seat)(w:World):Prop:=
 s.2.length≤M∧∃vs N oa oc ms,Inb=inb Z g s0 (fun j=>decide (j<g.n) && Z.liv s.1 j) vs ms s.1∧TI Z g (fun j=>(decide (j<g.n) && Z.liv s.1 j)=true) vs N (fun j=>decide (j<g.n) && !Z.liv s.1 j) s.1 w∧
  MI Z g vs (fun j=>(decide (j<g.n) && Z.liv s.1 j)=true) N v base M oa s.2.length oc (s.2.map fun i:Nat=>Value.int .i64 i) (cnt (Z.liv s.1) g.n) w
theorem Under2.at(zok:Z.Ok g){s:Z.X×List Nat}{Inb:Nat→Option Seat}(h:Under2 Z g v base M s0 s Inb w)(d:Nat):Under2 Z g v base M s0 s Inb (w.at d):=by
 obtain⟨h1,vs,N,oa,oc,ms,h3,h4,h5⟩:=h
 exact⟨h1,vs,N,oa,oc,ms,h3,h4.at zok d,h5.at d⟩
theorem tok_any [ok:Fits g] (zok:Z.Ok g)(hs0:0<s0)(hM:M≤1048576)(hn64:g.n≤64){s:Z.X×List Nat}{Inb:Nat→Option Seat}(H:Under2 Z g v base M s0 s Inb w){i:Int}{c:Frame}{cs:List Frame}
 (hk:∀t Inb' w',Turn Z g.n M s i t→Under2 Z g v base M s0 t Inb' w'→Tok Try.prog g.K g.Still g.top Gl Inb' 0 (s0+g.n) (G (c.finish (.tuple #[])) cs) w'):
 Tok Try.prog g.K g.Still g.top Gl Inb 0 (s0+g.n) (G (Frame.enter Try.prog 102 (step1Args g v i) .normal) (c::cs)) w:=by
 refine tok_intro fun _ hK _=>?_
 have H':=H
 obtain⟨hlen,vs,N,oa,oc,ms,rfl,HT,HM⟩:=H
 obtain⟨cod,hod1,hod2⟩:=HM.od
 have hsame:∀{t:Z.X×List Nat},t=s→Under2 Z g v base M s0 t (inb Z g s0 (fun j=>decide (j<g.n) && Z.liv s.1 j) vs ms s.1) w:=fun e=>e ▸ H'
 by_cases h0:i<0
 ·exact tok_silent (step1_neg h0 (.stop fun d=>⟨rfl,d,rfl⟩)) fun d=>hk s _ _ (turn_no (by omega)) ((hsame rfl).at zok d)
 by_cases h1:(g.n:Int)≤i
 ·exact tok_silent (step1_high (by omega) h1 HM.n (.stop fun d=>⟨rfl,d,rfl⟩)) fun d=>hk s _ _ (turn_no (by omega)) ((hsame rfl).at zok d)
 obtain⟨i,rfl⟩:∃k:Nat,i=k:=⟨i.toNat,by omega⟩
 have hin:i<g.n:=by omega
 have hiH:Has g i:=⟨hin⟩
 have ho:=HT.over i hin
 rw[decide_eq_true hin,Bool.true_and]at ho
 rcases Bool.eq_false_or_eq_true (Z.liv s.1 i)with hl|hl
 ·rw[hl]at ho
  by_cases h2:s.2.length=M
  ·exact tok_silent (step1_full hK HM.n ho ⟨⟨cod,_,hod1,hod2⟩,rfl⟩ HM.mo h2 (.stop fun d=>⟨rfl,d,rfl⟩)) fun d=>hk s _ _ (turn_no fun h=>h.2.2.2 h2) ((hsame rfl).at zok d)
  ·have hc0:0<cnt (Z.liv s.1) g.n:=by
    rcases Nat.eq_zero_or_pos (cnt (Z.liv s.1) g.n)with h|h
    ·rw[cnt_zero.1 h i hin]at hl;cases hl
    ·exact h
   have hcl:=cnt_le (Z.liv s.1) g.n
   refine tok_step zok hs0 (fun j hj=>?_) (by simp[hin,hl]) hl HT (by simp[hl]) HM h2 (by omega) hc0 (by omega) fun y w1 N' oa' oc' ms' hy H1 HM1=>?_
   ·simp only[Bool.and_eq_true,decide_eq_true_eq]at hj
    exact⟨hj.1,by omega⟩
   have hyl:∀j,j≠i→Z.liv y j=Z.liv s.1 j:=fun j hj=>(zok.stpO s.1 i y j hy hj).1
   have eA:(fun j=>(decide (j<g.n) && Z.liv s.1 j) && (j != i || Z.liv y i))=fun j=>decide (j<g.n) && Z.liv y j:=by
    funext j
    by_cases e:j=i
    ·subst e;simp[hl]
    ·have e2:(j != i)=true:=by simpa using e
     rw[e2,hyl j e];simp
   have eO:(fun j=>if j=i then !Z.liv y i else decide (j<g.n) && !Z.liv s.1 j)=fun j=>decide (j<g.n) && !Z.liv y j:=by
    funext j
    by_cases e:j=i
    ·subst e;simp[hin]
    ·rw[if_neg e,hyl j e]
   have eP:(fun j=>((decide (j<g.n) && Z.liv s.1 j) && (j != i || Z.liv y i))=true)=fun j=>(decide (j<g.n) && Z.liv y j)=true:=by
    funext j;rw[show((decide (j<g.n) && Z.liv s.1 j) && (j != i || Z.liv y i))=_ from congrFun eA j]
   rw[eP,eO]at H1
   rw[eP]at HM1
   rw[eA]
   refine hk (y,s.2++[i]) _ _ ?_ ⟨by simp;omega,vs,N',oa',oc',ms',rfl,H1,?_⟩
   ·unfold Turn
    rw[if_pos ⟨by omega,by omega,by simpa using hl,h2⟩]
    simpa using hy
   ·rw[← cnt_upd hin hyl hl]at HM1
    simpa using HM1
 ·rw[hl]at ho
  exact tok_silent (step1_over hK HM.n ho (.stop fun d=>⟨rfl,d,rfl⟩)) fun d=>hk s _ _ (turn_no fun h=>by rw[Int.toNat_natCast,hl]at h;exact absurd h.2.2.1 (by simp)) ((hsame rfl).at zok d)
end
section
variable{g:Gate}{F:Fz}{w:World}
theorem callable102:Callable 102:=callable Try.func102 rfl rfl
def stepFn(g:Gate)(v:Mine):Value:=.func (.func 102) #[] #[.pointer (some ⟨v.n,0,none⟩),.pointer (some ⟨g.tv,0,none⟩),.pointer (some ⟨v.od,0,none⟩),.pointer (some ⟨v.mo,0,none⟩),.pointer (some ⟨v.lf,0,none⟩)]
def ovRnd(g:Gate)(v:Mine):List (Nat×Value):=(7,.bool false)::(13,stepFn g v)::ovBase g v
def ovSched(g:Gate)(v:Mine)(sch:Value)(sl k:Nat):List (Nat×Value):=(7,.bool false)::(13,stepFn g v)::(76,sch)::(77,.int .i64 sl)::(78,.int .i64 k)::ovBase g v
def ovRnd2(g:Gate)(v:Mine)(i:Nat):List (Nat×Value):=(94,.int .i64 g.n)::(95,.int .i64 i)::ovRnd g v
def ovEnds(g:Gate)(v:Mine)(st:Bool)(j:Nat):List (Nat×Value):=(7,.bool st)::(107,g.sl)::(108,.int .i64 g.n)::(109,.int .i64 j)::ovBase g v
theorem ov_t1{v:Mine}{thr:Value}{sa:Option Addr}{sl sc:Nat}{A:Array Value}(hA:Slots 129 A (ovBirth g v thr (.slice sa sl sc) g.n)){cs:List Frame}{main:Bool}{Stop:Goroutine→World→Prop}
 (h:∀A,Slots 129 A (ovSched g v (.slice sa sl sc) sl 0)→Own Try.prog main F Stop (G ((Go.Conc.base 82).at ⟨A,[]⟩ [.code ovs25,.inLoop ovs25,.inBlock 4,.code ovs29]) cs) w):Own Try.prog main F Stop (G ((Go.Conc.base 82).at ⟨A,[]⟩ [.code ovs14,.inLoop ovs14,.inBlock 2,.code ovs21]) cs) w:=by
 obtain⟨hsz,h0,h1,h7,h46,h47,h5,h6,h8,h9,h10,h11,_⟩:=hA
 obtain⟨s,rfl⟩:=ovT_of hsz
 change s 0=_ at h0
 change s 1=_ at h1
 change s 7=_ at h7
 change s 46=_ at h46
 change s 47=_ at h47
 change s 5=_ at h5
 change s 6=_ at h6
 change s 8=_ at h8
 change s 9=_ at h9
 change s 10=_ at h10
 change s 11=_ at h11
 clear hsz
 simp only[ovT,h0,h1,h7,h46,h47,h5,h6,h8,h9,h10,h11]
 clear h0 h1 h7 h46 h47 h5 h6 h8 h9 h10 h11
 have hlt:decide ((g.n:Int)<(g.n:Int))=false:=by simp
 refine ogSR ovs14' ovr10' ?_
 simp only[ovr10,ovBody,Try.f82,zz,Nat.reduceAdd]
 (refine oW fun dd K hK=>?_;go_simp;refine qT hK ?_;clear hK K)
 refine ogE ?_
 refine ogSE ovs15' ?_
 rw[ovc48']
 refine ogF ?_
 simp only[Bool.false_eq_true,if_false]
 refine own_go rfl (fun d=>stepG_exit rfl) ?_
 refine ogSR ovs21' ovr17' ?_
 simp only[ovr17,ovBody,Try.f82,zz,Nat.reduceAdd]
 iterate 2 (refine oW fun dd K hK=>?_;go_simp;refine qT hK ?_;clear hK K)
 refine ogE ?_
 refine ogSE ovs22' ?_
 refine ogSR ovs23' ovr18' ?_
 simp only[ovr18,ovBody,Try.f82,zz,Nat.reduceAdd]
 iterate 3 (refine oW fun dd K hK=>?_;go_simp;refine qT hK ?_;clear hK K)
 refine ogE ?_
 rw[ovb4']
 refine ogB ?_
 rw[ovl24']
 refine ogP ?_
 exact h _ ⟨rfl,rfl,rfl,rfl,rfl,rfl,rfl,rfl,rfl,rfl,rfl,rfl,trivial⟩
theorem ov_t2{v:Mine}{sb so sl sc k:Nat}{i:Int}(hk:k<sl)(hsl:sl<9223372036854775808)(hc:w.cell? ⟨sb,so+k,none⟩=some (.int .i64 i))(hz:w.frozen? ⟨sb,so+k,none⟩=false){A:Array Value}(hA:Slots 129 A (ovSched g v (.slice (some ⟨sb,so,none⟩) sl sc) sl k)){cs:List Frame}{main:Bool}{Stop:Goroutine→World→Prop}
 (h:∀A,Slots 129 A (ovSched g v (.slice (some ⟨sb,so,none⟩) sl sc) sl k)→Own Try.prog main F Stop (G (Frame.enter Try.prog 102 (step1Args g v i) .normal) (((Go.Conc.base 82).at ⟨A,[]⟩ [.inRegion (oC ovr21) [2],.inBlock 5,.code ovr22,.inLoop ovs25,.inBlock 4,.code ovs29])::cs)) w):Own Try.prog main F Stop (G ((Go.Conc.base 82).at ⟨A,[]⟩ [.code ovs25,.inLoop ovs25,.inBlock 4,.code ovs29]) cs) w:=by
 obtain⟨hsz,h7,h13,h76,h77,h78,h5,h6,h8,h9,h10,h11,_⟩:=hA
 obtain⟨s,rfl⟩:=ovT_of hsz
 change s 7=_ at h7
 change s 13=_ at h13
 change s 76=_ at h76
 change s 77=_ at h77
 change s 78=_ at h78
 change s 5=_ at h5
 change s 6=_ at h6
 change s 8=_ at h8
 change s 9=_ at h9
 change s 10=_ at h10
 change s 11=_ at h11
 clear hsz
 simp only[ovT,h7,h13,h76,h77,h78,h5,h6,h8,h9,h10,h11]
 clear h7 h13 h76 h77 h78 h5 h6 h8 h9 h10 h11
 have hlt:decide ((k:Int)<(sl:Int))=true:=by simp;omega
 have hlt2:decide (k<sl)=true:=by simp;omega
 refine ogSR ovs25' ovr19' ?_
 simp only[ovr19,ovBody,Try.f82,zz,Nat.reduceAdd]
 (refine oW fun dd K hK=>?_;go_simp;refine qT hK ?_;clear hK K)
 refine ogE ?_
 refine ogSE ovs26' ?_
 rw[ovc79']
 refine ogT ?_
 simp only[if_true]
 refine ogK ?_
 refine ogSE ovs27' ?_
 rw[ovb5']
 refine ogB ?_
 refine ogSR ovs28' ovr20' ?_
 simp only[ovr20,ovBody,Try.f82,zz,Nat.reduceAdd]
 (refine oW fun dd K hK=>?_;go_simp;refine qX hK ?_;clear hK K)
 (refine oW fun dd K hK=>?_;go_simp;refine qL hK ?_;clear hK K)
 (refine oW fun dd K hK=>?_;go_simp;refine qT hK ?_;clear hK K)
 refine ogE ?_
 rw[ovr21']
 refine ogR ?_
 simp only[ovr21,ovBody,Try.f82,zz,Nat.reduceAdd]
 iterate 2 (refine oW fun dd K hK=>?_;go_simp;refine qT hK ?_;clear hK K)
 refine own_call (f:=102) (args:=step1Args g v i) rfl rfl (by decide) (fun w=>by simp[execOp,Act.eval,resolve,invoke,Deferred.ofValue,callable102.run,step1Args,stepFn]) (fun w=>by simp[execOp,Act.eval,resolve,invoke,Deferred.ofValue,callable102.run,callable102.quiet,step1Args,stepFn]) ?_
 exact h _ ⟨rfl,rfl,rfl,rfl,rfl,rfl,rfl,rfl,rfl,rfl,rfl,rfl,trivial⟩
theorem ov_t3{v:Mine}{sch:Value}{sl k:Nat}(hk:k<9223372036854775807){A:Array Value}(hA:Slots 129 A (ovSched g v sch sl k)){cs:List Frame}{main:Bool}{Stop:Goroutine→World→Prop}
 (h:∀A,Slots 129 A (ovSched g v sch sl (k+1))→Own Try.prog main F Stop (G ((Go.Conc.base 82).at ⟨A,[]⟩ [.code ovs25,.inLoop ovs25,.inBlock 4,.code ovs29]) cs) w):Own Try.prog main F Stop (G (((Go.Conc.base 82).at ⟨A,[]⟩ [.inRegion (oC ovr21) [2],.inBlock 5,.code ovr22,.inLoop ovs25,.inBlock 4,.code ovs29]).finish (.tuple #[])) cs) w:=by
 obtain⟨hsz,h7,h13,h76,h77,h78,h5,h6,h8,h9,h10,h11,_⟩:=hA
 obtain⟨s,rfl⟩:=ovT_of hsz
 change s 7=_ at h7
 change s 13=_ at h13
 change s 76=_ at h76
 change s 77=_ at h77
 change s 78=_ at h78
 change s 5=_ at h5
 change s 6=_ at h6
 change s 8=_ at h8
 change s 9=_ at h9
 change s 10=_ at h10
 change s 11=_ at h11
 clear hsz
 simp only[ovT,h7,h13,h76,h77,h78,h5,h6,h8,h9,h10,h11]
 clear h7 h13 h76 h77 h78 h5 h6 h8 h9 h10 h11
 have hk64:IntKind.i64.wrap ((k:Int)+1)=(k:Int)+1:=IntWalk.i64_in _ (by omega)
 rw[Frame.finish_at]
 simp only[ovr21,ovBody,Try.f82,zz,Nat.reduceAdd]
 walk_nrm
 refine ogE ?_
 refine ogI ?_
 rw[ovr22']
 refine ogR ?_
 simp only[ovr22,ovBody,Try.f82,zz,Nat.reduceAdd]
 iterate 2 (refine oW fun dd K hK=>?_;go_simp;refine qT hK ?_;clear hK K)
 refine ogE ?_
 refine ogL ?_
 exact h _ ⟨rfl,rfl,rfl,rfl,rfl,rfl,rfl,rfl,rfl,rfl,rfl,rfl,trivial⟩
theorem ov_t4{v:Mine}{sch:Value}{sl:Nat}{A:Array Value}(hA:Slots 129 A (ovSched g v sch sl sl)){cs:List Frame}{main:Bool}{Stop:Goroutine→World→Prop}
 (h:∀A,Slots 129 A (ovRnd g v)→Own Try.prog main F Stop (G ((Go.Conc.base 82).at ⟨A,[]⟩ [.code ovs31,.inLoop ovs31,.inBlock 6,.code ovs39]) cs) w):Own Try.prog main F Stop (G ((Go.Conc.base 82).at ⟨A,[]⟩ [.code ovs25,.inLoop ovs25,.inBlock 4,.code ovs29]) cs) w:=by
 obtain⟨hsz,h7,h13,h76,h77,h78,h5,h6,h8,h9,h10,h11,_⟩:=hA
 obtain⟨s,rfl⟩:=ovT_of hsz
 change s 7=_ at h7
 change s 13=_ at h13
 change s 76=_ at h76
 change s 77=_ at h77
 change s 78=_ at h78
 change s 5=_ at h5
 change s 6=_ at h6
 change s 8=_ at h8
 change s 9=_ at h9
 change s 10=_ at h10
 change s 11=_ at h11
 clear hsz
 simp only[ovT,h7,h13,h76,h77,h78,h5,h6,h8,h9,h10,h11]
 clear h7 h13 h76 h77 h78 h5 h6 h8 h9 h10 h11
 have hlt:decide ((sl:Int)<(sl:Int))=false:=by simp
 refine ogSR ovs25' ovr19' ?_
 simp only[ovr19,ovBody,Try.f82,zz,Nat.reduceAdd]
 (refine oW fun dd K hK=>?_;go_simp;refine qT hK ?_;clear hK K)
 refine ogE ?_
 refine ogSE ovs26' ?_
 rw[ovc79']
 refine ogF ?_
 simp only[Bool.false_eq_true,if_false]
 refine own_go rfl (fun d=>stepG_exit rfl) ?_
 refine ogSE ovs29' ?_
 rw[ovb6']
 refine ogB ?_
 rw[ovl30']
 refine ogP ?_
 exact h _ ⟨rfl,rfl,rfl,rfl,rfl,rfl,rfl,rfl,rfl,trivial⟩
theorem ov_t5b{v:Mine}(hl:Lies w ⟨v.lf,0,none⟩ (.int .i64 (0:Nat))){A:Array Value}(hA:Slots 129 A (ovRnd g v)){cs:List Frame}{main:Bool}{Stop:Goroutine→World→Prop}
 (h:∀A,Slots 129 A (ovRnd g v)→Own Try.prog main F Stop (G ((Go.Conc.base 82).at ⟨A,[]⟩ [.code ovs39]) cs) w):Own Try.prog main F Stop (G ((Go.Conc.base 82).at ⟨A,[]⟩ [.code ovs31,.inLoop ovs31,.inBlock 6,.code ovs39]) cs) w:=by
 obtain⟨hsz,h7,h13,h5,h6,h8,h9,h10,h11,_⟩:=hA
 obtain⟨s,rfl⟩:=ovT_of hsz
 change s 7=_ at h7
 change s 13=_ at h13
 change s 5=_ at h5
 change s 6=_ at h6
 change s 8=_ at h8
 change s 9=_ at h9
 change s 10=_ at h10
 change s 11=_ at h11
 clear hsz
 simp only[ovT,h7,h13,h5,h6,h8,h9,h10,h11]
 clear h7 h13 h5 h6 h8 h9 h10 h11
 have c1:=hl.c
 have z1:=hl.z
 refine ogSE ovs31' ?_
 refine ogSR ovs32' ovr23' ?_
 simp only[ovr23,ovBody,Try.f82,zz,Nat.reduceAdd]
 (refine oW fun dd K hK=>?_;go_simp;refine qL hK ?_;clear hK K)
 iterate 2 (refine oW fun dd K hK=>?_;go_simp;refine qT hK ?_;clear hK K)
 refine ogU rfl rfl ?_
 walk_nrm
 refine ogU rfl rfl ?_
 walk_nrm
 refine ogU rfl rfl ?_
 walk_nrm
 refine ogU rfl rfl ?_
 walk_nrm
 (refine oW fun dd K hK=>?_;go_simp;refine qT hK ?_;clear hK K)
 refine ogE ?_
 rw[ovc93']
 refine ogF ?_
 simp only[Bool.false_eq_true,if_false]
 refine own_go rfl (fun d=>stepG_exit rfl) ?_
 exact h _ ⟨rfl,rfl,rfl,rfl,rfl,rfl,rfl,rfl,rfl,trivial⟩
theorem ov_t5c{v:Mine}{lf:Nat}{oa:Option Addr}{ol oc M:Nat}(hl:Lies w ⟨v.lf,0,none⟩ (.int .i64 lf))(hlf:0<lf)(lo:Lies w ⟨v.od,0,none⟩ (.slice oa ol oc))(lm:Lies w ⟨v.mo,0,none⟩ (.int .i64 M))(hM:M≤ol){A:Array Value}(hA:Slots 129 A (ovRnd g v)){cs:List Frame}{main:Bool}{Stop:Goroutine→World→Prop}
 (h:∀A,Slots 129 A (ovRnd g v)→Own Try.prog main F Stop (G ((Go.Conc.base 82).at ⟨A,[]⟩ [.code ovs39]) cs) w):Own Try.prog main F Stop (G ((Go.Conc.base 82).at ⟨A,[]⟩ [.code ovs31,.inLoop ovs31,.inBlock 6,.code ovs39]) cs) w:=by
 obtain⟨hsz,h7,h13,h5,h6,h8,h9,h10,h11,_⟩:=hA
 obtain⟨s,rfl⟩:=ovT_of hsz
 change s 7=_ at h7
 change s 13=_ at h13
 change s 5=_ at h5
 change s 6=_ at h6
 change s 8=_ at h8
 change s 9=_ at h9
 change s 10=_ at h10
 change s 11=_ at h11
 clear hsz
 simp only[ovT,h7,h13,h5,h6,h8,h9,h10,h11]
 clear h7 h13 h5 h6 h8 h9 h10 h11
 have c1:=hl.c
 have z1:=hl.z
 have c2:=lo.c
 have z2:=lo.z
 have c3:=lm.c
 have z3:=lm.z
 have hp:decide ((0:Int)<(lf:Int))=true:=by simp;omega
 have hp2:decide (0<lf)=true:=by simp;omega
 have hlt:decide ((ol:Int)<(M:Int))=false:=by simp;omega
 have hlt2:decide (ol<M)=false:=by simp;omega
 refine ogSE ovs31' ?_
 refine ogSR ovs32' ovr23' ?_
 simp only[ovr23,ovBody,Try.f82,zz,Nat.reduceAdd]
 (refine oW fun dd K hK=>?_;go_simp;refine qL hK ?_;clear hK K)
 iterate 2 (refine oW fun dd K hK=>?_;go_simp;refine qT hK ?_;clear hK K)
 (refine oW fun dd K hK=>?_;go_simp;refine qL hK ?_;clear hK K)
 (refine oW fun dd K hK=>?_;go_simp;refine qT hK ?_;clear hK K)
 (refine oW fun dd K hK=>?_;go_simp;refine qL hK ?_;clear hK K)
 iterate 2 (refine oW fun dd K hK=>?_;go_simp;refine qT hK ?_;clear hK K)
 refine ogE ?_
 rw[ovc93']
 refine ogF ?_
 simp only[Bool.false_eq_true,if_false]
 refine own_go rfl (fun d=>stepG_exit rfl) ?_
 exact h _ ⟨rfl,rfl,rfl,rfl,rfl,rfl,rfl,rfl,rfl,trivial⟩
theorem ov_t5a{v:Mine}{lf:Nat}{oa:Option Addr}{ol oc M:Nat}(hl:Lies w ⟨v.lf,0,none⟩ (.int .i64 lf))(hlf:0<lf)(lo:Lies w ⟨v.od,0,none⟩ (.slice oa ol oc))(lm:Lies w ⟨v.mo,0,none⟩ (.int .i64 M))(hM:ol<M)(hn:Lies w ⟨v.n,0,none⟩ (.int .i64 g.n)){A:Array Value}(hA:Slots 129 A (ovRnd g v)){cs:List Frame}{main:Bool}{Stop:Goroutine→World→Prop}
 (h:∀A,Slots 129 A (ovRnd2 g v 0)→Own Try.prog main F Stop (G ((Go.Conc.base 82).at ⟨A,[]⟩ [.code ovs35,.inLoop ovs35,.inBlock 8,.inBlock 7,.inLoop ovs31,.inBlock 6,.code ovs39]) cs) w):Own Try.prog main F Stop (G ((Go.Conc.base 82).at ⟨A,[]⟩ [.code ovs31,.inLoop ovs31,.inBlock 6,.code ovs39]) cs) w:=by
 obtain⟨hsz,h7,h13,h5,h6,h8,h9,h10,h11,_⟩:=hA
 obtain⟨s,rfl⟩:=ovT_of hsz
 change s 7=_ at h7
 change s 13=_ at h13
 change s 5=_ at h5
 change s 6=_ at h6
 change s 8=_ at h8
 change s 9=_ at h9
 change s 10=_ at h10
 change s 11=_ at h11
 clear hsz
 simp only[ovT,h7,h13,h5,h6,h8,h9,h10,h11]
 clear h7 h13 h5 h6 h8 h9 h10 h11
 have c1:=hl.c
 have z1:=hl.z
 have c2:=lo.c
 have z2:=lo.z
 have c3:=lm.c
 have z3:=lm.z
 have hp:decide ((0:Int)<(lf:Int))=true:=by simp;omega
 have hp2:decide (0<lf)=true:=by simp;omega
 have hlt:decide ((ol:Int)<(M:Int))=true:=by simp;omega
 have hlt2:decide (ol<M)=true:=by simp;omega
 have c4:=hn.c
 have z4:=hn.z
 refine ogSE ovs31' ?_
 refine ogSR ovs32' ovr23' ?_
 simp only[ovr23,ovBody,Try.f82,zz,Nat.reduceAdd]
 (refine oW fun dd K hK=>?_;go_simp;refine qL hK ?_;clear hK K)
 iterate 2 (refine oW fun dd K hK=>?_;go_simp;refine qT hK ?_;clear hK K)
 (refine oW fun dd K hK=>?_;go_simp;refine qL hK ?_;clear hK K)
 (refine oW fun dd K hK=>?_;go_simp;refine qT hK ?_;clear hK K)
 (refine oW fun dd K hK=>?_;go_simp;refine qL hK ?_;clear hK K)
 iterate 2 (refine oW fun dd K hK=>?_;go_simp;refine qT hK ?_;clear hK K)
 refine ogE ?_
 rw[ovc93']
 refine ogT ?_
 simp only[if_true]
 refine ogK ?_
 rw[ovb7']
 refine ogB ?_
 refine ogSR ovs33' ovr24' ?_
 simp only[ovr24,ovBody,Try.f82,zz,Nat.reduceAdd]
 (refine oW fun dd K hK=>?_;go_simp;refine qL hK ?_;clear hK K)
 (refine oW fun dd K hK=>?_;go_simp;refine qT hK ?_;clear hK K)
 refine ogE ?_
 rw[ovb8']
 refine ogB ?_
 rw[ovl34']
 refine ogP ?_
 exact h _ ⟨rfl,rfl,rfl,rfl,rfl,rfl,rfl,rfl,rfl,rfl,rfl,trivial⟩
theorem ov_t7{v:Mine}{i:Nat}(hi:i<g.n){A:Array Value}(hA:Slots 129 A (ovRnd2 g v i)){cs:List Frame}{main:Bool}{Stop:Goroutine→World→Prop}
 (h:∀A,Slots 129 A (ovRnd2 g v i)→Own Try.prog main F Stop (G (Frame.enter Try.prog 102 (step1Args g v i) .normal) (((Go.Conc.base 82).at ⟨A,[]⟩ [.inRegion (oC ovr27) [2],.inBlock 9,.code ovr28,.inLoop ovs35,.inBlock 8,.inBlock 7,.inLoop ovs31,.inBlock 6,.code ovs39])::cs)) w):Own Try.prog main F Stop (G ((Go.Conc.base 82).at ⟨A,[]⟩ [.code ovs35,.inLoop ovs35,.inBlock 8,.inBlock 7,.inLoop ovs31,.inBlock 6,.code ovs39]) cs) w:=by
 obtain⟨hsz,h94,h95,h7,h13,h5,h6,h8,h9,h10,h11,_⟩:=hA
 obtain⟨s,rfl⟩:=ovT_of hsz
 change s 94=_ at h94
 change s 95=_ at h95
 change s 7=_ at h7
 change s 13=_ at h13
 change s 5=_ at h5
 change s 6=_ at h6
 change s 8=_ at h8
 change s 9=_ at h9
 change s 10=_ at h10
 change s 11=_ at h11
 clear hsz
 simp only[ovT,h94,h95,h7,h13,h5,h6,h8,h9,h10,h11]
 clear h94 h95 h7 h13 h5 h6 h8 h9 h10 h11
 have hlt:decide ((i:Int)<(g.n:Int))=true:=by simp;omega
 have hlt2:decide (i<g.n)=true:=by simp;omega
 refine ogSR ovs35' ovr25' ?_
 simp only[ovr25,ovBody,Try.f82,zz,Nat.reduceAdd]
 (refine oW fun dd K hK=>?_;go_simp;refine qT hK ?_;clear hK K)
 refine ogE ?_
 refine ogSE ovs36' ?_
 rw[ovc96']
 refine ogT ?_
 simp only[if_true]
 refine ogK ?_
 refine ogSE ovs37' ?_
 rw[ovb9']
 refine ogB ?_
 refine ogSR ovs38' ovr26' ?_
 simp only[ovr26,ovBody,Try.f82,zz,Nat.reduceAdd]
 iterate 2 (refine oW fun dd K hK=>?_;go_simp;refine qT hK ?_;clear hK K)
 refine ogE ?_
 rw[ovr27']
 refine ogR ?_
 simp only[ovr27,ovBody,Try.f82,zz,Nat.reduceAdd]
 iterate 2 (refine oW fun dd K hK=>?_;go_simp;refine qT hK ?_;clear hK K)
 refine own_call (f:=102) (args:=step1Args g v i) rfl rfl (by decide) (fun w=>by simp[execOp,Act.eval,resolve,invoke,Deferred.ofValue,callable102.run,step1Args,stepFn]) (fun w=>by simp[execOp,Act.eval,resolve,invoke,Deferred.ofValue,callable102.run,callable102.quiet,step1Args,stepFn]) ?_
 exact h _ ⟨rfl,rfl,rfl,rfl,rfl,rfl,rfl,rfl,rfl,rfl,rfl,trivial⟩
theorem ov_t8{v:Mine}{i:Nat}(hi:i<10000000){A:Array Value}(hA:Slots 129 A (ovRnd2 g v i)){cs:List Frame}{main:Bool}{Stop:Goroutine→World→Prop}
 (h:∀A,Slots 129 A (ovRnd2 g v (i+1))→Own Try.prog main F Stop (G ((Go.Conc.base 82).at ⟨A,[]⟩ [.code ovs35,.inLoop ovs35,.inBlock 8,.inBlock 7,.inLoop ovs31,.inBlock 6,.code ovs39]) cs) w):Own Try.prog main F Stop (G (((Go.Conc.base 82).at ⟨A,[]⟩ [.inRegion (oC ovr27) [2],.inBlock 9,.code ovr28,.inLoop ovs35,.inBlock 8,.inBlock 7,.inLoop ovs31,.inBlock 6,.code ovs39]).finish (.tuple #[])) cs) w:=by
 obtain⟨hsz,h94,h95,h7,h13,h5,h6,h8,h9,h10,h11,_⟩:=hA
 obtain⟨s,rfl⟩:=ovT_of hsz
 change s 94=_ at h94
 change s 95=_ at h95
 change s 7=_ at h7
 change s 13=_ at h13
 change s 5=_ at h5
 change s 6=_ at h6
 change s 8=_ at h8
 change s 9=_ at h9
 change s 10=_ at h10
 change s 11=_ at h11
 clear hsz
 simp only[ovT,h94,h95,h7,h13,h5,h6,h8,h9,h10,h11]
 clear h94 h95 h7 h13 h5 h6 h8 h9 h10 h11
 have hk64:IntKind.i64.wrap ((i:Int)+1)=(i:Int)+1:=IntWalk.i64_in _ (by omega)
 rw[Frame.finish_at]
 simp only[ovr27,ovBody,Try.f82,zz,Nat.reduceAdd]
 walk_nrm
 refine ogE ?_
 refine ogI ?_
 rw[ovr28']
 refine ogR ?_
 simp only[ovr28,ovBody,Try.f82,zz,Nat.reduceAdd]
 iterate 2 (refine oW fun dd K hK=>?_;go_simp;refine qT hK ?_;clear hK K)
 refine ogE ?_
 refine ogL ?_
 exact h _ ⟨rfl,rfl,rfl,rfl,rfl,rfl,rfl,rfl,rfl,rfl,rfl,trivial⟩
theorem ov_t9{v:Mine}{A:Array Value}(hA:Slots 129 A (ovRnd2 g v g.n)){cs:List Frame}{main:Bool}{Stop:Goroutine→World→Prop}
 (h:∀A,Slots 129 A (ovRnd g v)→Own Try.prog main F Stop (G ((Go.Conc.base 82).at ⟨A,[]⟩ [.code ovs31,.inLoop ovs31,.inBlock 6,.code ovs39]) cs) w):Own Try.prog main F Stop (G ((Go.Conc.base 82).at ⟨A,[]⟩ [.code ovs35,.inLoop ovs35,.inBlock 8,.inBlock 7,.inLoop ovs31,.inBlock 6,.code ovs39]) cs) w:=by
 obtain⟨hsz,h94,h95,h7,h13,h5,h6,h8,h9,h10,h11,_⟩:=hA
 obtain⟨s,rfl⟩:=ovT_of hsz
 change s 94=_ at h94
 change s 95=_ at h95
 change s 7=_ at h7
 change s 13=_ at h13
 change s 5=_ at h5
 change s 6=_ at h6
 change s 8=_ at h8
 change s 9=_ at h9
 change s 10=_ at h10
 change s 11=_ at h11
 clear hsz
 simp only[ovT,h94,h95,h7,h13,h5,h6,h8,h9,h10,h11]
 clear h94 h95 h7 h13 h5 h6 h8 h9 h10 h11
 have hlt:decide ((g.n:Int)<(g.n:Int))=false:=by simp
 refine ogSR ovs35' ovr25' ?_
 simp only[ovr25,ovBody,Try.f82,zz,Nat.reduceAdd]
 (refine oW fun dd K hK=>?_;go_simp;refine qT hK ?_;clear hK K)
 refine ogE ?_
 refine ogSE ovs36' ?_
 rw[ovc96']
 refine ogF ?_
 simp only[Bool.false_eq_true,if_false]
 refine own_go rfl (fun d=>stepG_exit rfl) ?_
 refine ogI ?_
 refine ogL ?_
 exact h _ ⟨rfl,rfl,rfl,rfl,rfl,rfl,rfl,rfl,rfl,trivial⟩
theorem ov_t10{v:Mine}{lf:Nat}{st:Bool}(hst:decide (0<lf)=st)(hK:g.K w)(hl:Lies w ⟨v.lf,0,none⟩ (.int .i64 lf)){osa:Option Addr}(hsl:g.sl= .slice osa g.n g.sc){A:Array Value}(hA:Slots 129 A (ovRnd g v)){cs:List Frame}{main:Bool}{Stop:Goroutine→World→Prop}
 (h:∀A,Slots 129 A (ovEnds g v st 0)→Own Try.prog main F Stop (G ((Go.Conc.base 82).at ⟨A,[]⟩ [.code ovs43,.inLoop ovs43,.inBlock 10,.code ovs48]) cs) w):Own Try.prog main F Stop (G ((Go.Conc.base 82).at ⟨A,[]⟩ [.code ovs39]) cs) w:=by
 obtain⟨hsz,h7,h13,h5,h6,h8,h9,h10,h11,_⟩:=hA
 obtain⟨s,rfl⟩:=ovT_of hsz
 change s 7=_ at h7
 change s 13=_ at h13
 change s 5=_ at h5
 change s 6=_ at h6
 change s 8=_ at h8
 change s 9=_ at h9
 change s 10=_ at h10
 change s 11=_ at h11
 clear hsz
 simp only[ovT,h7,h13,h5,h6,h8,h9,h10,h11]
 clear h7 h13 h5 h6 h8 h9 h10 h11
 have c1:=hl.c
 have z1:=hl.z
 have ct:=(hK _ _ .tv).c
 have zt:=(hK _ _ .tv).z
 have c3:=(hK _ _ .stands).c
 have z3:=(hK _ _ .stands).z
 have hst2:decide ((0:Int)<(lf:Int))=st:=by rw[← hst];simp
 rw[hsl]at c3
 refine ogSR ovs39' ovr29' ?_
 simp only[ovr29,ovBody,Try.f82,zz,Nat.reduceAdd]
 (refine oW fun dd K hK=>?_;go_simp;refine qL hK ?_;clear hK K)
 iterate 2 (refine oW fun dd K hK=>?_;go_simp;refine qT hK ?_;clear hK K)
 refine ogE ?_
 refine ogSE ovs40' ?_
 refine ogSR ovs41' ovr30' ?_
 simp only[ovr30,ovBody,Try.f82,zz,Nat.reduceAdd]
 (refine oW fun dd K hK=>?_;go_simp;refine qL hK ?_;clear hK K)
 iterate 2 (refine oW fun dd K hK=>?_;go_simp;refine qT hK ?_;clear hK K)
 (refine oW fun dd K hK=>?_;go_simp;refine qL hK ?_;clear hK K)
 iterate 2 (refine oW fun dd K hK=>?_;go_simp;refine qT hK ?_;clear hK K)
 refine ogE ?_
 rw[ovb10']
 refine ogB ?_
 rw[ovl42']
 refine ogP ?_
 exact h _ ⟨rfl,rfl,hsl.symm,rfl,rfl,rfl,rfl,rfl,rfl,rfl,rfl,trivial⟩
theorem ov_t11a [ok:Fits g] {v:Mine}{st:Bool}{j:Nat} [hi:Has g j] (hK:g.K w)(ho:Lies w ⟨g.st j,2,none⟩ (.bool false)){A:Array Value}(hA:Slots 129 A (ovEnds g v st j)){cs:List Frame}{main:Bool}{Stop:Goroutine→World→Prop}
 (h:∀A,Slots 129 A (ovEnds g v st j)→Own Try.prog main F Stop (G (Frame.enter Try.prog 103 #[.pointer (some ⟨g.tb,0,none⟩),.int .i64 j,.bool false] .normal) (((Go.Conc.base 82).at ⟨A,[]⟩ [.inRegion (oC ovr34) [2],.inBlock 11,.code ovr35,.inLoop ovs43,.inBlock 10,.code ovs48])::cs)) w):Own Try.prog main F Stop (G ((Go.Conc.base 82).at ⟨A,[]⟩ [.code ovs43,.inLoop ovs43,.inBlock 10,.code ovs48]) cs) w:=by
 obtain⟨hsz,h7,h107,h108,h109,h5,h6,h8,h9,h10,h11,_⟩:=hA
 obtain⟨s,rfl⟩:=ovT_of hsz
 change s 7=_ at h7
 change s 107=_ at h107
 change s 108=_ at h108
 change s 109=_ at h109
 change s 5=_ at h5
 change s 6=_ at h6
 change s 8=_ at h8
 change s 9=_ at h9
 change s 10=_ at h10
 change s 11=_ at h11
 clear hsz
 simp only[ovT,h7,h107,h108,h109,h5,h6,h8,h9,h10,h11]
 clear h7 h107 h108 h109 h5 h6 h8 h9 h10 h11
 have ct:=(hK _ _ .tv).c
 have zt:=(hK _ _ .tv).z
 have c3:=(hK _ _ .stands).c
 have z3:=(hK _ _ .stands).z
 have hin:=hi.lt
 have hsl:=ok.ok.sl (Nat.lt_of_le_of_lt (Nat.zero_le _) hin)
 have c4:=(hK _ _ (.stand j hin)).c
 have z4:=(hK _ _ (.stand j hin)).z
 have c5:=ho.c
 have z5:=ho.z
 rw[hsl]at c3
 simp only[hsl]
 have hlt:decide ((j:Int)<(g.n:Int))=true:=by simp;omega
 have hlt2:decide (j<g.n)=true:=by simp;omega
 refine ogSR ovs43' ovr31' ?_
 simp only[ovr31,ovBody,Try.f82,zz,Nat.reduceAdd]
 (refine oW fun dd K hK=>?_;go_simp;refine qT hK ?_;clear hK K)
 refine ogE ?_
 refine ogSE ovs44' ?_
 rw[ovc110']
 refine ogT ?_
 simp only[if_true]
 refine ogK ?_
 refine ogSE ovs45' ?_
 rw[ovb11']
 refine ogB ?_
 refine ogSR ovs46' ovr32' ?_
 simp only[ovr32,ovBody,Try.f82,zz,Nat.reduceAdd]
 (refine oW fun dd K hK=>?_;go_simp;refine qT hK ?_;clear hK K)
 (refine oW fun dd K hK=>?_;go_simp;refine qX hK ?_;clear hK K)
 (refine oW fun dd K hK=>?_;go_simp;refine qL hK ?_;clear hK K)
 iterate 2 (refine oW fun dd K hK=>?_;go_simp;refine qT hK ?_;clear hK K)
 refine ogE ?_
 refine ogSR ovs47' ovr33' ?_
 simp only[ovr33,ovBody,Try.f82,zz,Nat.reduceAdd]
 iterate 3 (refine oW fun dd K hK=>?_;go_simp;refine qT hK ?_;clear hK K)
 (refine oW fun dd K hK=>?_;go_simp;refine qL hK ?_;clear hK K)
 (refine oW fun dd K hK=>?_;go_simp;refine qT hK ?_;clear hK K)
 refine ogE ?_
 rw[ovc118']
 refine ogT ?_
 simp only[if_true]
 rw[ovr34']
 refine ogR ?_
 simp only[ovr34,ovBody,Try.f82,zz,Nat.reduceAdd]
 (refine oW fun dd K hK=>?_;go_simp;refine qL hK ?_;clear hK K)
 (refine oW fun dd K hK=>?_;go_simp;refine qT hK ?_;clear hK K)
 refine oc callable103 #[.pointer (some ⟨g.tb,0,none⟩),.int .i64 j,.bool false] ?_
 exact h _ ⟨rfl,rfl,hsl.symm,rfl,rfl,rfl,rfl,rfl,rfl,rfl,rfl,trivial⟩
theorem ov_t12{v:Mine}{st:Bool}{j:Nat}(hj:j<10000000){A:Array Value}(hA:Slots 129 A (ovEnds g v st j)){cs:List Frame}{main:Bool}{Stop:Goroutine→World→Prop}
 (h:∀A,Slots 129 A (ovEnds g v st (j+1))→Own Try.prog main F Stop (G ((Go.Conc.base 82).at ⟨A,[]⟩ [.code ovs43,.inLoop ovs43,.inBlock 10,.code ovs48]) cs) w):Own Try.prog main F Stop (G (((Go.Conc.base 82).at ⟨A,[]⟩ [.inRegion (oC ovr34) [2],.inBlock 11,.code ovr35,.inLoop ovs43,.inBlock 10,.code ovs48]).finish (.tuple #[])) cs) w:=by
 obtain⟨hsz,h7,h107,h108,h109,h5,h6,h8,h9,h10,h11,_⟩:=hA
 obtain⟨s,rfl⟩:=ovT_of hsz
 change s 7=_ at h7
 change s 107=_ at h107
 change s 108=_ at h108
 change s 109=_ at h109
 change s 5=_ at h5
 change s 6=_ at h6
 change s 8=_ at h8
 change s 9=_ at h9
 change s 10=_ at h10
 change s 11=_ at h11
 clear hsz
 simp only[ovT,h7,h107,h108,h109,h5,h6,h8,h9,h10,h11]
 clear h7 h107 h108 h109 h5 h6 h8 h9 h10 h11
 have hk64:IntKind.i64.wrap ((j:Int)+1)=(j:Int)+1:=IntWalk.i64_in _ (by omega)
 rw[Frame.finish_at]
 simp only[ovr34,ovBody,Try.f82,zz,Nat.reduceAdd]
 walk_nrm
 refine ogE ?_
 refine ogI ?_
 rw[ovr35']
 refine ogR ?_
 simp only[ovr35,ovBody,Try.f82,zz,Nat.reduceAdd]
 iterate 2 (refine oW fun dd K hK=>?_;go_simp;refine qT hK ?_;clear hK K)
 refine ogE ?_
 refine ogL ?_
 exact h _ ⟨rfl,rfl,rfl,rfl,rfl,rfl,rfl,rfl,rfl,rfl,rfl,trivial⟩
theorem ov_t13 [ok:Fits g] {v:Mine}{st:Bool}{j:Nat} [hi:Has g j] (hn64:g.n≤64)(hK:g.K w)(ho:Lies w ⟨g.st j,2,none⟩ (.bool true)){A:Array Value}(hA:Slots 129 A (ovEnds g v st j)){cs:List Frame}{main:Bool}{Stop:Goroutine→World→Prop}
 (h:∀A,Slots 129 A (ovEnds g v st (j+1))→Own Try.prog main F Stop (G ((Go.Conc.base 82).at ⟨A,[]⟩ [.code ovs43,.inLoop ovs43,.inBlock 10,.code ovs48]) cs) w):Own Try.prog main F Stop (G ((Go.Conc.base 82).at ⟨A,[]⟩ [.code ovs43,.inLoop ovs43,.inBlock 10,.code ovs48]) cs) w:=by
 obtain⟨hsz,h7,h107,h108,h109,h5,h6,h8,h9,h10,h11,_⟩:=hA
 obtain⟨s,rfl⟩:=ovT_of hsz
 change s 7=_ at h7
 change s 107=_ at h107
 change s 108=_ at h108
 change s 109=_ at h109
 change s 5=_ at h5
 change s 6=_ at h6
 change s 8=_ at h8
 change s 9=_ at h9
 change s 10=_ at h10
 change s 11=_ at h11
 clear hsz
 simp only[ovT,h7,h107,h108,h109,h5,h6,h8,h9,h10,h11]
 clear h7 h107 h108 h109 h5 h6 h8 h9 h10 h11
 have ct:=(hK _ _ .tv).c
 have zt:=(hK _ _ .tv).z
 have c3:=(hK _ _ .stands).c
 have z3:=(hK _ _ .stands).z
 have hin:=hi.lt
 have hsl:=ok.ok.sl (Nat.lt_of_le_of_lt (Nat.zero_le _) hin)
 have c4:=(hK _ _ (.stand j hin)).c
 have z4:=(hK _ _ (.stand j hin)).z
 have c5:=ho.c
 have z5:=ho.z
 rw[hsl]at c3
 simp only[hsl]
 have hlt:decide ((j:Int)<(g.n:Int))=true:=by simp;omega
 have hlt2:decide (j<g.n)=true:=by simp;omega
 have hk64:IntKind.i64.wrap ((j:Int)+1)=(j:Int)+1:=IntWalk.i64_in _ (by omega)
 refine ogSR ovs43' ovr31' ?_
 simp only[ovr31,ovBody,Try.f82,zz,Nat.reduceAdd]
 (refine oW fun dd K hK=>?_;go_simp;refine qT hK ?_;clear hK K)
 refine ogE ?_
 refine ogSE ovs44' ?_
 rw[ovc110']
 refine ogT ?_
 simp only[if_true]
 refine ogK ?_
 refine ogSE ovs45' ?_
 rw[ovb11']
 refine ogB ?_
 refine ogSR ovs46' ovr32' ?_
 simp only[ovr32,ovBody,Try.f82,zz,Nat.reduceAdd]
 (refine oW fun dd K hK=>?_;go_simp;refine qT hK ?_;clear hK K)
 (refine oW fun dd K hK=>?_;go_simp;refine qX hK ?_;clear hK K)
 (refine oW fun dd K hK=>?_;go_simp;refine qL hK ?_;clear hK K)
 iterate 2 (refine oW fun dd K hK=>?_;go_simp;refine qT hK ?_;clear hK K)
 refine ogE ?_
 refine ogSR ovs47' ovr33' ?_
 simp only[ovr33,ovBody,Try.f82,zz,Nat.reduceAdd]
 iterate 3 (refine oW fun dd K hK=>?_;go_simp;refine qT hK ?_;clear hK K)
 (refine oW fun dd K hK=>?_;go_simp;refine qL hK ?_;clear hK K)
 (refine oW fun dd K hK=>?_;go_simp;refine qT hK ?_;clear hK K)
 refine ogE ?_
 rw[ovc118']
 refine ogF ?_
 simp only[Bool.false_eq_true,if_false]
 refine ogK ?_
 refine ogI ?_
 rw[ovr35']
 refine ogR ?_
 simp only[ovr35,ovBody,Try.f82,zz,Nat.reduceAdd]
 iterate 2 (refine oW fun dd K hK=>?_;go_simp;refine qT hK ?_;clear hK K)
 refine ogE ?_
 refine ogL ?_
 exact h _ ⟨rfl,rfl,hsl.symm,rfl,rfl,rfl,rfl,rfl,rfl,rfl,rfl,trivial⟩
theorem ov_t14{v:Mine}{st:Bool}{A:Array Value}(hA:Slots 129 A (ovEnds g v st g.n)){cs:List Frame}{main:Bool}{Stop:Goroutine→World→Prop}
 (h:∀A,Slots 129 A (ovEnds g v st g.n)→Own Try.prog main F Stop (G ((Go.Conc.base 82).at ⟨A,[]⟩ [.code ovs48]) cs) w):Own Try.prog main F Stop (G ((Go.Conc.base 82).at ⟨A,[]⟩ [.code ovs43,.inLoop ovs43,.inBlock 10,.code ovs48]) cs) w:=by
 obtain⟨hsz,h7,h107,h108,h109,h5,h6,h8,h9,h10,h11,_⟩:=hA
 obtain⟨s,rfl⟩:=ovT_of hsz
 change s 7=_ at h7
 change s 107=_ at h107
 change s 108=_ at h108
 change s 109=_ at h109
 change s 5=_ at h5
 change s 6=_ at h6
 change s 8=_ at h8
 change s 9=_ at h9
 change s 10=_ at h10
 change s 11=_ at h11
 clear hsz
 simp only[ovT,h7,h107,h108,h109,h5,h6,h8,h9,h10,h11]
 clear h7 h107 h108 h109 h5 h6 h8 h9 h10 h11
 have hlt:decide ((g.n:Int)<(g.n:Int))=false:=by simp
 refine ogSR ovs43' ovr31' ?_
 simp only[ovr31,ovBody,Try.f82,zz,Nat.reduceAdd]
 (refine oW fun dd K hK=>?_;go_simp;refine qT hK ?_;clear hK K)
 refine ogE ?_
 refine ogSE ovs44' ?_
 rw[ovc110']
 refine ogF ?_
 simp only[Bool.false_eq_true,if_false]
 refine own_go rfl (fun d=>stepG_exit rfl) ?_
 exact h _ ⟨rfl,rfl,rfl,rfl,rfl,rfl,rfl,rfl,rfl,rfl,rfl,trivial⟩
end
section
open Go.ConcN (sumTo upd sumTo_upd upd_ne upd_same)
variable{g:Gate}{F:Fz}{Z:Users}{x y:Z.X}{w w':World}{s0 nn h:Nat}{Gl:Machine→Trace→Prop}{v:Mine}{base M:Nat}{Inb:Nat→Option Seat}
theorem tok_go [ok:Fits g] {SL:List (Nat×Value)}{a:Goroutine}(Φ:Array Value→Goroutine)(ho:∀Stop:Goroutine→World→Prop,(∀A,Slots 129 A SL→Own Try.prog (h == 0) (FK g) Stop (Φ A) w)→Own Try.prog (h == 0) (FK g) Stop a w)
 (hk:∀A d,Slots 129 A SL→Tok Try.prog g.K g.Still g.top Gl Inb h nn (Φ A) (w.at d)):Tok Try.prog g.K g.Still g.top Gl Inb h nn a w:=by
 refine tok_own (F:=FK g) (Stop:=fun a u=>∃A,Slots 129 A SL∧a=Φ A∧∃d,u=w.at d) K_at fk_covers fk_K (ho _ fun A hA=>.stop fun d=>⟨A,hA,rfl,d,rfl⟩) fun g' w0 d hS=>?_
 obtain⟨A,hA,rfl,d',e⟩:=hS d
 rw[e]
 exact hk A d' hA
theorem turns_append{n:Nat}{l m:List Int}{s t:Z.X×List Nat}:Turns Z n M (l++m) s t↔∃u,Turns Z n M l s u∧Turns Z n M m u t:=by
 induction l generalizing s with
 | nil=>simp[Turns]
 | cons i l ih=>
   simp only[List.cons_append,Turns,ih]
   constructor
   ·rintro⟨u,h1,v,h2,h3⟩;exact⟨v,⟨u,h1,h2⟩,h3⟩
   ·rintro⟨v,⟨u,h1,h2⟩,h3⟩;exact⟨u,h1,v,h2,h3⟩
theorem turns_one{n:Nat}{i:Int}{s t:Z.X×List Nat}:Turns Z n M [i] s t↔Turn Z n M s i t:=by
 simp only[Turns]
 constructor
 ·rintro⟨u,h,rfl⟩;exact h
 ·exact fun h=>⟨t,h,rfl⟩
theorem turn_len{n:Nat}{i:Int}{s t:Z.X×List Nat}(h:Turn Z n M s i t):s.2.length≤t.2.length∧(t.2.length=s.2.length→t=s):=by
 unfold Turn at h
 split at h
 ·rw[h.2];simp
 ·rw[h];simp
theorem turns_len{n:Nat}{l:List Int}{s t:Z.X×List Nat}(h:Turns Z n M l s t):s.2.length≤t.2.length∧(t.2.length=s.2.length→t=s∧∀i∈l,Turn Z n M s i s):=by
 induction l generalizing s with
 | nil=>simp only[Turns]at h;subst h;simp
 | cons i l ih=>
   obtain⟨u,h1,h2⟩:=h
   obtain⟨a1,a2⟩:=turn_len h1
   obtain⟨b1,b2⟩:=ih h2
   refine⟨Nat.le_trans a1 b1,fun e=>?_⟩
   have e1:u=s:=a2 (by omega)
   subst e1
   obtain⟨c1,c2⟩:=b2 e
   exact⟨c1,fun j hj=>by
    rcases List.mem_cons.1 hj with rfl|hj
    ·exact h1
    ·exact c2 j hj⟩
theorem round_grows{n:Nat}{s t:Z.X×List Nat}(hc:0<cnt (Z.liv s.1) n)(hl:s.2.length<M)(h:Turns Z n M ((List.range n).map fun j:Nat=>(j:Int)) s t):s.2.length<t.2.length:=by
 obtain⟨h1,h2⟩:=turns_len h
 rcases Nat.lt_or_eq_of_le h1 with h1|h1
 ·exact h1
 exfalso
 obtain⟨_,h3⟩:=h2 h1.symm
 have:∃j,j<n∧Z.liv s.1 j=true:=by
  apply Classical.byContradiction
  intro hno
  have:cnt (Z.liv s.1) n=0:=cnt_zero.2 fun j hj=>by
   cases e:Z.liv s.1 j with
   | false=>rfl
   | true=>exact absurd ⟨j,hj,e⟩ hno
  omega
 obtain⟨j,hj,hlj⟩:=this
 have ht:=h3 j (by simp;exact⟨j,hj,rfl⟩)
 unfold Turn at ht
 rw[if_pos ⟨by omega,by omega,by simpa using hlj,by omega⟩]at ht
 have:=congrArg List.length ht.2
 simp at this
theorem tok_sched [ok:Fits g] (zok:Z.Ok g)(hs0:0<s0)(hM:M≤1048576)(hn64:g.n≤64){S:List Int}{sa:Option Addr}{sb so sc:Nat}(hsa:0<S.length→sa=some ⟨sb,so,none⟩)(hS:RowIs Z sb so (S.map fun i:Int=>Value.int .i64 i))(hSl:S.length<9223372036854775808){cs:List Frame}{st:Z.X×List Nat}
 (hk:∀t Inb w A,Turns Z g.n M S st t→Under2 Z g v base M s0 t Inb w→Slots 129 A (ovRnd g v)→Tok Try.prog g.K g.Still g.top Gl Inb 0 (s0+g.n) (G ((Go.Conc.base 82).at ⟨A,[]⟩ [.code ovs31,.inLoop ovs31,.inBlock 6,.code ovs39]) cs) w):
 ∀(k j:Nat),j+k=S.length→∀s Inb w A,Turns Z g.n M (S.take j) st s→Under2 Z g v base M s0 s Inb w→Slots 129 A (ovSched g v (.slice sa S.length sc) S.length j)→
  Tok Try.prog g.K g.Still g.top Gl Inb 0 (s0+g.n) (G ((Go.Conc.base 82).at ⟨A,[]⟩ [.code ovs25,.inLoop ovs25,.inBlock 4,.code ovs29]) cs) w:=by
 intro k
 induction k with
 | zero=>
   intro j hj s Inb w A ht hU hA
   obtain rfl:j=S.length:=by omega
   rw[List.take_length]at ht
   exact tok_go _ (fun Stop h=>ov_t4 hA h) fun A d hA=>hk s _ _ A ht (hU.at zok d) hA
 | succ k ih=>
   intro j hj s Inb w A ht hU hA
   have hjl:j<S.length:=by omega
   obtain rfl:=hsa (by omega)
   have hU':=hU
   obtain⟨hlen,vs,N,oa,oc,ms,rfl,HT,HM⟩:=hU'
   obtain⟨hc,hz⟩:=hS.cell (k:=j) (u:=.int .i64 S[j]) zok HT.u (by simp[hjl])
   refine tok_go (fun A=>G (Frame.enter Try.prog 102 (step1Args g v S[j]) .normal) (((Go.Conc.base 82).at ⟨A,[]⟩ [.inRegion (oC ovr21) [2],.inBlock 5,.code ovr22,.inLoop ovs25,.inBlock 4,.code ovs29])::cs)) (fun Stop h=>ov_t2 hjl hSl hc hz hA h) fun A d hA=>?_
   refine tok_any zok hs0 hM hn64 (hU.at zok d) fun t Inb' w' htn hU'=>?_
   refine tok_go _ (fun Stop h=>ov_t3 (by omega) hA h) fun A d hA=>?_
   refine ih (j+1) (by omega) t Inb' _ A ?_ (hU'.at zok d) hA
   rw[← List.take_append_getElem hjl]
   exact turns_append.2 ⟨s,ht,turns_one.2 htn⟩
theorem tok_round [ok:Fits g] (zok:Z.Ok g)(hs0:0<s0)(hM:M≤1048576)(hn64:g.n≤64){cs:List Frame}{st:Z.X×List Nat}
 (hk:∀t Inb w A,Turns Z g.n M ((List.range g.n).map fun j:Nat=>(j:Int)) st t→Under2 Z g v base M s0 t Inb w→Slots 129 A (ovRnd g v)→Tok Try.prog g.K g.Still g.top Gl Inb 0 (s0+g.n) (G ((Go.Conc.base 82).at ⟨A,[]⟩ [.code ovs31,.inLoop ovs31,.inBlock 6,.code ovs39]) cs) w):
 ∀(k j:Nat),j+k=g.n→∀s Inb w A,Turns Z g.n M ((List.range j).map fun j:Nat=>(j:Int)) st s→Under2 Z g v base M s0 s Inb w→Slots 129 A (ovRnd2 g v j)→
  Tok Try.prog g.K g.Still g.top Gl Inb 0 (s0+g.n) (G ((Go.Conc.base 82).at ⟨A,[]⟩ [.code ovs35,.inLoop ovs35,.inBlock 8,.inBlock 7,.inLoop ovs31,.inBlock 6,.code ovs39]) cs) w:=by
 intro k
 induction k with
 | zero=>
   intro j hj s Inb w A ht hU hA
   obtain rfl:j=g.n:=by omega
   exact tok_go _ (fun Stop h=>ov_t9 hA h) fun A d hA=>hk s _ _ A ht (hU.at zok d) hA
 | succ k ih=>
   intro j hj s Inb w A ht hU hA
   refine tok_go (fun A=>G (Frame.enter Try.prog 102 (step1Args g v j) .normal) (((Go.Conc.base 82).at ⟨A,[]⟩ [.inRegion (oC ovr27) [2],.inBlock 9,.code ovr28,.inLoop ovs35,.inBlock 8,.inBlock 7,.inLoop ovs31,.inBlock 6,.code ovs39])::cs)) (fun Stop h=>ov_t7 (by omega) hA h) fun A d hA=>?_
   refine tok_any zok hs0 hM hn64 (hU.at zok d) fun t Inb' w' htn hU'=>?_
   refine tok_go _ (fun Stop h=>ov_t8 (by omega) hA h) fun A d hA=>?_
   refine ih (j+1) (by omega) t Inb' _ A ?_ (hU'.at zok d) hA
   rw[List.range_succ,List.map_append]
   exact turns_append.2 ⟨s,ht,turns_one.2 htn⟩
theorem tok_rounds [ok:Fits g] (zok:Z.Ok g)(hs0:0<s0)(hM:M≤1048576)(hn64:g.n≤64){cs:List Frame}:
 ∀(m:Nat) (s:Z.X×List Nat),M - s.2.length≤m→∀Inb w A,(∀t Inb w A,Rounds Z g.n M s t→Under2 Z g v base M s0 t Inb w→Slots 129 A (ovRnd g v)→Tok Try.prog g.K g.Still g.top Gl Inb 0 (s0+g.n) (G ((Go.Conc.base 82).at ⟨A,[]⟩ [.code ovs39]) cs) w)→
  Under2 Z g v base M s0 s Inb w→Slots 129 A (ovRnd g v)→
  Tok Try.prog g.K g.Still g.top Gl Inb 0 (s0+g.n) (G ((Go.Conc.base 82).at ⟨A,[]⟩ [.code ovs31,.inLoop ovs31,.inBlock 6,.code ovs39]) cs) w:=by
 intro m
 induction m with
 | zero=>?_
 | succ m ih=>?_
 all_goals
  intro s hm Inb w A hk hU hA
  have hU':=hU
  obtain⟨hlen,vs,N,oa,oc,ms,rfl,HT,HM⟩:=hU'
  obtain⟨cod,hod1,hod2⟩:=HM.od
  rcases Nat.eq_zero_or_pos (cnt (Z.liv s.1) g.n)with h0|h0
  ·have hl:=HM.lf
   rw[h0]at hl
   exact tok_go _ (fun Stop h=>ov_t5b hl hA h) fun A d hA=>hk s _ _ A (.done (.inl h0)) (hU.at zok d) hA
  by_cases hfull:M≤s.2.length
  ·exact tok_go _ (fun Stop h=>ov_t5c HM.lf h0 ⟨⟨cod,_,hod1,hod2⟩,rfl⟩ HM.mo hfull hA h) fun A d hA=>hk s _ _ A (.done (.inr hfull)) (hU.at zok d) hA
  first
  | (exfalso;omega)
  | (refine tok_go _ (fun Stop h=>ov_t5a HM.lf h0 ⟨⟨cod,_,hod1,hod2⟩,rfl⟩ HM.mo (by omega) HM.n hA h) fun A d hA=>?_
     refine tok_round zok hs0 hM hn64 (st:=s) (fun t Inb w A ht hU hA=>?_) g.n 0 (by omega) s _ _ A rfl (hU.at zok d) hA
     have:=round_grows h0 (by omega) ht
     exact ih t (by omega) Inb w A (fun t' Inb w A hr=>hk t' Inb w A (.more h0 (by omega) ht hr)) hU hA)
end
section
open Go.ConcN (sumTo upd sumTo_upd upd_ne upd_same)
variable{g:Gate}{F:Fz}{Z:Users}{x y:Z.X}{w w':World}{s0 nn h:Nat}{Gl:Machine→Trace→Prop}{v:Mine}{base M:Nat}{Inb:Nat→Option Seat}
theorem tok_bes'{An:Anchor}{P:Program}{K:World→Prop}(hKA:∀w,K w→An.Holds w){Still:Loc→Prop}{B0 n:Nat}{Stop:Goroutine→World→Prop}{a:Goroutine}(hI:∀i,i≠0→Inb i=none)(h:Bes An P Stop a w):Tok P K Still B0 (BesG An P Stop) Inb 0 n a w:=by
 intro gs sl T q B hB hn hg C
 obtain⟨hL,hP⟩:=ring_end C (.inr rfl) hI
 obtain⟨N,gs',g',w',sl',T',q',B',hr,hg',hS',hL',hP',hA'⟩:=h gs sl T q B hg hL hP (hKA _ C.keep)
 exact⟨N,_,T',hr,gs',g',w',sl',q',B',rfl,hg',hS',hL',hP',hA'⟩
def lateA(Z:Users)(x:Z.X)(n j:Nat):Nat→Bool:=fun k=>decide (j≤k) && (decide (k<n) && Z.liv x k)
def lateO(Z:Users)(x:Z.X)(n j:Nat):Nat→Bool:=fun k=>decide (k<n) && (!Z.liv x k || decide (k<j))
theorem lateA_next{n j:Nat}:(fun k=>lateA Z x n j k && k != j)=lateA Z x n (j+1):=by
 funext k
 unfold lateA
 by_cases e:k=j
 ·subst e;simp;omega
 ·have e1:(k != j)=true:=by simpa using e
  have e2:decide (j≤k)=decide (j+1≤k):=by by_cases h:j≤k<;>simp[h]<;>omega
  rw[e1,e2];simp
theorem lateO_next{n j:Nat}(hj:j<n):(fun k=>if k=j then true else lateO Z x n j k)=lateO Z x n (j+1):=by
 funext k
 unfold lateO
 by_cases e:k=j
 ·subst e;simp[hj]
 ·have e2:decide (k<j)=decide (k<j+1):=by by_cases h:k<j<;>simp[h]<;>omega
  rw[if_neg e,e2]
theorem lateA_skip{n j:Nat}(hl:Z.liv x j=false):lateA Z x n j=lateA Z x n (j+1):=by
 rw[← lateA_next]
 funext k
 by_cases e:k=j
 ·subst e;simp[lateA,hl]
 ·have e1:(k != j)=true:=by simpa using e
  rw[e1];simp
theorem lateO_skip{n j:Nat}(hj:j<n)(hl:Z.liv x j=false):lateO Z x n j=lateO Z x n (j+1):=by
 rw[← lateO_next hj]
 funext k
 by_cases e:k=j
 ·subst e;simp[lateO,hl,hj]
 ·rw[if_neg e]
theorem tok_kills [ok:Fits g] (zok:Z.Ok g)(hs0:0<s0)(hn64:g.n≤64){osa:Option Addr}(hsl:g.sl= .slice osa g.n g.sc){oa0:Unit}{cs:List Frame}{x:Z.X}{ord:List Nat}{st:Bool}{lf:Nat}{Stop:Goroutine→World→Prop}
 (hk:∀w A vs N oa oc ov,TI Z g (fun _=>False) vs N ov x w→MI Z g vs (fun _=>False) N v base M oa ord.length oc (ord.map fun i:Nat=>Value.int .i64 i) lf w→g.K w→Slots 129 A (ovEnds g v st g.n)→Bes g.an Try.prog Stop (G ((Go.Conc.base 82).at ⟨A,[]⟩ [.code ovs48]) cs) w):
 ∀(k j:Nat),j+k=g.n→∀w A vs N oa oc ms,TI Z g (fun k=>lateA Z x g.n j k=true) vs N (lateO Z x g.n j) x w→MI Z g vs (fun k=>lateA Z x g.n j k=true) N v base M oa ord.length oc (ord.map fun i:Nat=>Value.int .i64 i) lf w→Slots 129 A (ovEnds g v st j)→
  Tok Try.prog g.K g.Still g.top (BesG g.an Try.prog Stop) (inb Z g s0 (lateA Z x g.n j) vs ms x) 0 (s0+g.n) (G ((Go.Conc.base 82).at ⟨A,[]⟩ [.code ovs43,.inLoop ovs43,.inBlock 10,.code ovs48]) cs) w:=by
 intro k
 induction k with
 | zero=>
   intro j hj w A vs N oa oc ms H HM hA
   obtain rfl:j=g.n:=by omega
   refine tok_intro fun _ hK _=>?_
   refine tok_go _ (fun Stop h=>ov_t14 hA h) fun A d hA=>?_
   have hno:∀k,¬lateA Z x g.n g.n k=true:=fun k hk=>by
    simp only[lateA,Bool.and_eq_true,decide_eq_true_eq]at hk;omega
   refine tok_bes' (fun w h=>h.an) (fun i hi=>?_) (hk _ A vs N oa oc _ ((H.mono fun j hj=>hj.elim).at zok d) ((HM.mono fun j hj=>hj.elim).at d) (hK.at d) hA)
   unfold inb
   rw[if_neg hi,if_neg fun h=>hno _ h.2]
 | succ k ih=>
   intro j hj w A vs N oa oc ms H HM hA
   have hin:j<g.n:=by omega
   have hiH:Has g j:=⟨hin⟩
   refine tok_intro fun _ hK _=>?_
   have ho:=H.over j hin
   rcases Bool.eq_false_or_eq_true (Z.liv x j)with hl|hl
   ·have e0:lateO Z x g.n j j=false:=by simp[lateO,hl]
    have eA:lateA Z x g.n j j=true:=by simp[lateA,hl,hin]
    rw[e0]at ho
    refine tok_go (fun A=>G (Frame.enter Try.prog 103 #[.pointer (some ⟨g.tb,0,none⟩),.int .i64 j,.bool false] .normal) (((Go.Conc.base 82).at ⟨A,[]⟩ [.inRegion (oC ovr34) [2],.inBlock 11,.code ovr35,.inLoop ovs43,.inBlock 10,.code ovs48])::cs)) (fun Stop h=>ov_t11a hK ho hA h) fun A d hA=>?_
    refine tok_let_end zok hs0 (fun k hk=>?_) eA hl (H.at zok d) e0 fun w1 H1 k1=>?_
    ·simp only[lateA,Bool.and_eq_true,decide_eq_true_eq]at hk
     exact⟨hk.2.1,by omega⟩
    have eP:(fun k=>(lateA Z x g.n j k && k != j)=true)=fun k=>lateA Z x g.n (j+1) k=true:=by
     funext k;rw[show(lateA Z x g.n j k && k != j)=_ from congrFun lateA_next k]
    rw[eP,lateO_next hin]at H1
    rw[lateA_next]
    have HM1:=((HM.at d).kept hin eA k1).mono (Al':=fun k=>lateA Z x g.n (j+1) k=true) fun k hk=>by
     rw[← lateA_next]at hk
     simp only[Bool.and_eq_true]at hk
     exact hk.1
    refine tok_go _ (fun Stop h=>ov_t12 (by omega) hA h) fun A d hA=>?_
    exact ih (j+1) (by omega) _ A vs N oa oc _ (H1.at zok d) (HM1.at d) hA
   ·have e0:lateO Z x g.n j j=true:=by simp[lateO,hl,hin]
    rw[e0]at ho
    refine tok_go _ (fun Stop h=>ov_t13 hn64 hK ho hA h) fun A d hA=>?_
    have H1:=H.at zok d
    have HM1:=HM.at d
    rw[lateA_skip hl]at HM1 ⊢
    rw[lateA_skip hl,lateO_skip hin hl]at H1
    exact ih (j+1) (by omega) _ A vs N oa oc _ H1 HM1 hA
theorem tok_ends [ok:Fits g] (zok:Z.Ok g)(hs0:0<s0)(hn64:g.n≤64){osa:Option Addr}(hsl:g.sl= .slice osa g.n g.sc){cs:List Frame}{s:Z.X×List Nat}{Stop:Goroutine→World→Prop}
 (hk:∀w A vs N oa oc ov,TI Z g (fun _=>False) vs N ov s.1 w→MI Z g vs (fun _=>False) N v base M oa s.2.length oc (s.2.map fun i:Nat=>Value.int .i64 i) (cnt (Z.liv s.1) g.n) w→g.K w→Slots 129 A (ovEnds g v (decide (0<cnt (Z.liv s.1) g.n)) g.n)→Bes g.an Try.prog Stop (G ((Go.Conc.base 82).at ⟨A,[]⟩ [.code ovs48]) cs) w)
 {A:Array Value} (hU:Under2 Z g v base M s0 s Inb w) (hA:Slots 129 A (ovRnd g v)):
 Tok Try.prog g.K g.Still g.top (BesG g.an Try.prog Stop) Inb 0 (s0+g.n) (G ((Go.Conc.base 82).at ⟨A,[]⟩ [.code ovs39]) cs) w:=by
 obtain⟨hlen,vs,N,oa,oc,ms,rfl,HT,HM⟩:=hU
 refine tok_intro fun _ hK _=>?_
 refine tok_go _ (fun Stop h=>ov_t10 rfl hK HM.lf hsl hA h) fun A d hA=>?_
 have eA:(fun j=>decide (j<g.n) && Z.liv s.1 j)=lateA Z s.1 g.n 0:=by funext k;simp[lateA]
 have eO:(fun j=>decide (j<g.n) && !Z.liv s.1 j)=lateO Z s.1 g.n 0:=by funext k;simp[lateO]
 have eP:(fun j=>(decide (j<g.n) && Z.liv s.1 j)=true)=fun k=>lateA Z s.1 g.n 0 k=true:=by funext k;rw[show(decide (k<g.n) && Z.liv s.1 k)=_ from congrFun eA k]
 rw[eP]at HT HM
 rw[eO]at HT
 rw[eA]
 exact tok_kills (oa0:=()) zok hs0 hn64 hsl (ord:=s.2) (st:=decide (0<cnt (Z.liv s.1) g.n)) (lf:=cnt (Z.liv s.1) g.n) hk g.n 0 (by omega) _ A vs N oa oc ms (HT.at zok d) (HM.at d) hA
end
section
variable{P:Program}{F:Fz}{fn:FuncId}{ops:Array Oper}{S:World→Prop}{last:Nat}{Z:Act→World→Prop}
def OpM(P:Program)(F:Fz)(fn:FuncId)(ops:Array Oper)(i:Nat)(K:Act→World→Prop)(a:Act)(w:World):Prop:=
 ∃o,ops[i]? =some o∧((Region.wanted o (yielded ops a.tmps)=true∧∀d,uponK o a (fun a' w'=>GuarE F (w.at d) w' (listed P fn a o (w.at d))∧K a' w') ((execOp a.eval o).run P (w.at d)))∨
  (Region.wanted o (yielded ops a.tmps)=false∧K (a.put o.dst undef) w))
def AnyM(P:Program)(F:Fz)(fn:FuncId)(ops:Array Oper)(S:World→Prop)(last:Nat)(Z:Act→World→Prop):Nat→Array Bool→Act→World→Prop
 | 0,listed,a,w=>((∀j∈Region.ready .any ops listed,j=last)→Z a w)∧∀j∈Region.ready .any ops listed,j=last
 | fuel+1,listed,a,w=>((∀j∈Region.ready .any ops listed,j=last)→Z a w)∧∀i∈Region.ready .any ops listed,i≠last→OpM P F fn ops i (fun a w=>S w∧AnyM P F fn ops S last Z fuel (listed.setIfInBounds i true) a w) a w
theorem uponK_mono{o:Oper}{a:Act}{K K':Act→World→Prop}{r:Result Next}(h:∀u w,K (a.put o.dst u) w→K' (a.put o.dst u) w)(hh:uponK o a K r):uponK o a K' r:=by
 cases r with
 | ok x w=>cases x<;>first|exact h _ _ hh|exact hh
 | halt _ _=>exact hh
theorem OpM_mono{i:Nat}{a:Act}{w:World}{K K':Act→World→Prop}(h:∀a w,K a w→K' a w)(hh:OpM P F fn ops i K a w):OpM P F fn ops i K' a w:=by
 obtain⟨o,h1,⟨h2,h3⟩|⟨h2,h3⟩⟩:=hh
 ·exact⟨o,h1,.inl ⟨h2,fun d=>uponK_mono (fun u w ⟨x,y⟩=>⟨x,h _ _ y⟩) (h3 d)⟩⟩
 ·exact⟨o,h1,.inr ⟨h2,h _ _ h3⟩⟩
theorem OpM_at{i:Nat}{a:Act}{w:World}{K:Act→World→Prop}(hK:∀a w d,K a w→K a (World.at w d))(h:OpM P F fn ops i K a w)(d:Nat):OpM P F fn ops i K a (w.at d):=by
 obtain⟨o,h1,⟨h2,h3⟩|⟨h2,h3⟩⟩:=h
 ·exact⟨o,h1,.inl ⟨h2,fun d'=>by rw[at_at'];exact h3 d'⟩⟩
 ·exact⟨o,h1,.inr ⟨h2,hK _ _ _ h3⟩⟩
theorem anyM_at(hS:∀w d,S w→S (World.at w d))(hZ:∀a w d,Z a w→Z a (World.at w d)):∀(fuel:Nat) (listed:Array Bool) (a:Act) (w:World),AnyM P F fn ops S last Z fuel listed a w→∀d,AnyM P F fn ops S last Z fuel listed a (w.at d):=by
 intro fuel
 induction fuel with
 | zero=>exact fun listed a w h d=>⟨fun x=>hZ _ _ _ (h.1 x),h.2⟩
 | succ fuel ih=>exact fun listed a w h d=>⟨fun x=>hZ _ _ _ (h.1 x),fun i hi hl=>OpM_at (fun a w d ⟨x,y⟩=>⟨hS _ _ x,ih _ _ _ y d⟩) (h.2 i hi hl) d⟩
theorem OpM_put{i j:Nat}{oi oj:Oper}{v:Value}(hj:ops[j]? =some oj)(hap:oi.apart ops oj=true)(hsj:∀cs b,oj.op≠.select cs b){K:Act→World→Prop}{a:Act}{w:World}
 (h:OpM P F fn ops j K (a.put oi.dst v) w):OpM P F fn ops j (fun a' w'=>∃u,a'=a.put oj.dst u∧K (a'.put oi.dst v) w') a w:=by
 obtain⟨h1,h2,h3⟩:=Oper.apart_spec hap
 obtain⟨o,ho,hh⟩:=h
 rw[hj]at ho
 cases ho
 have e1:execOp (a.put oi.dst v).eval oj=execOp a.eval oj:=execOp_put oj hsj a oi.dst v h1
 have e2:=wanted_put oj a oi.dst v h1
 refine⟨oj,hj,?_⟩
 unfold listed at*
 rw[e1,e2]at hh
 rcases hh with⟨hw,hh⟩|⟨hw,hh⟩
 ·refine .inl ⟨hw,fun d=>?_⟩
  have:=hh d
  cases hr:(execOp a.eval oj).run P (w.at d)with
  | halt _ _=>rw[hr]at this;exact this
  | ok x w'=>
    rw[hr]at this
    cases x with
    | value u=>exact⟨this.1,u,rfl,by rw[← Act.put_comm a v u h2];exact this.2⟩
    | skip=>exact⟨this.1,undef,rfl,by rw[← Act.put_comm a v undef h2];exact this.2⟩
    | _=>exact this
 ·exact .inr ⟨hw,undef,rfl,by rw[← Act.put_comm a v undef h2];exact hh⟩
theorem anyM_first(hS:∀w d,S w→S (World.at w d))(hZ:∀a w d,Z a w→Z a (World.at w d)){i:Nat}{oi:Oper}{v:Value}(hi:ops[i]? =some oi)(hil:i≠last)(hsel:∀(j:Nat) (o:Oper) cs b,ops[j]? =some o→o.op≠.select cs b):
 ∀(fuel:Nat) (listed:Array Bool) (a:Act) (w:World),S w→
  (∀j oj,ops[j]? =some oj→j≠i→listed.getD j true=false→(∀e∈oj.after,Region.binds .any e=true→e.on≠i)→oi.apart ops oj=true)→
  i∈Region.ready .any ops listed→(∀w,S w→YQ P F fn ops w oi v a)→
  AnyM P F fn ops S last Z fuel (listed.setIfInBounds i true) (a.put oi.dst v) w→AnyM P F fn ops S last Z (fuel+1) listed a w:=by
 have self:∀(fuel:Nat) (listed:Array Bool) (a:Act) (w:World),S w→(∀w,S w→YQ P F fn ops w oi v a)→AnyM P F fn ops S last Z fuel (listed.setIfInBounds i true) (a.put oi.dst v) w→
  OpM P F fn ops i (fun a w=>S w∧AnyM P F fn ops S last Z fuel (listed.setIfInBounds i true) a w) a w:=by
  intro fuel listed a w hw hy H
  rcases hy w hw with⟨h1,h2⟩|⟨h1,rfl⟩
  ·exact⟨oi,hi,.inl ⟨h1,fun d=>by rw[(h2 d).1];exact⟨⟨⟨0,Grew.refl F _⟩,(h2 d).2⟩,hS _ _ hw,anyM_at hS hZ _ _ _ _ H d⟩⟩⟩
  ·exact⟨oi,hi,.inr ⟨h1,hw,H⟩⟩
 intro fuel
 induction fuel with
 | zero=>
   intro listed a w hw _ hr hy H
   refine⟨fun h=>absurd (h i hr) hil,fun j hj hjl=>?_⟩
   by_cases hji:j=i
   ·subst hji;exact self _ _ _ _ hw hy H
   ·exact absurd (H.2 j (ready_mono hj hji)) hjl
 | succ fuel ih=>
   intro listed a w hw hfree hr hy H
   refine⟨fun h=>absurd (h i hr) hil,fun j hj hjl=>?_⟩
   by_cases hji:j=i
   ·subst hji;exact self _ _ _ _ hw hy H
   ·have h1:=H.2 j (ready_mono hj hji) hjl
    obtain⟨hjun,oj,hoj,hall⟩:=mem_ready.1 hj
    have hnot:∀e∈oj.after,Region.binds .any e=true→e.on≠i:=fun e he hb heq=>by
     have h1:=hall e he hb
     have h0:=(mem_ready.1 hr).1
     rw[heq]at h1
     rcases Nat.lt_or_ge i listed.size with h'|h'
     ·simp[h']at h0 h1;rw[h0]at h1;cases h1
     ·simp[Array.getElem?_eq_none h']at h1
    have hap:=hfree j oj hoj hji hjun hnot
    obtain⟨p1,p2,p3⟩:=Oper.apart_spec hap
    have h2:=OpM_put (i:=i) (oi:=oi) hoj hap (fun cs b=>hsel j oj cs b hoj) h1
    have hfree':∀k ok,ops[k]? =some ok→k≠i→(listed.setIfInBounds j true).getD k true=false→
     (∀e∈ok.after,Region.binds .any e=true→e.on≠i)→oi.apart ops ok=true:=fun k ok hk hki hun hno=>by
     refine hfree k ok hk hki ?_ hno
     by_cases hjk:j=k
     ·subst hjk;exact hjun
     ·rw[getD_set_ne true hjk]at hun;exact hun
    refine OpM_mono (fun a' w' h3=>?_) h2
    obtain⟨u,rfl,hw',h4⟩:=h3
    refine⟨hw',ih (listed.setIfInBounds j true) _ _ hw' hfree' (ready_mono hr (Ne.symm hji)) (fun w hw=>(hy w hw).of_same (execOp_put oi (fun cs b=>hsel i oi cs b hi) a oj.dst u p3) (wanted_put oi a oj.dst u p3)) ?_⟩
    rw[Array.setIfInBounds_comm _ _ hji]
    exact h4
theorem anyM_take(hS:∀w d,S w→S (World.at w d))(hZ:∀a w d,Z a w→Z a (World.at w d)){i:Nat}{oi:Oper}{v:Value}{fuel:Nat}{listed:Array Bool}{a:Act}{w:World}(hw:S w)(hi:ops[i]? =some oi)(hil:(i != last)=true)(hs:Region.noSelect ops=true)(hf:Region.free .any ops listed i=true)
 (hr:(Region.ready .any ops listed).contains i=true) (hy:∀w,S w→YQ P F fn ops w oi v a) (h:AnyM P F fn ops S last Z fuel (listed.setIfInBounds i true) (a.put oi.dst v) w):AnyM P F fn ops S last Z (fuel+1) listed a w:=
 anyM_first hS hZ hi (by simpa using hil) (Region.noSelect_spec hs) fuel listed a w hw (Region.free_spec hi hf) (by simpa using hr) hy h
theorem anyM_all{fuel:Nat}{listed:Array Bool}{a:Act}{w:World}{r:List Nat}(hr:Region.ready .any ops listed=r)(hl:r.any (· != last)=true)
 (h:∀i∈r,i≠last→OpM P F fn ops i (fun a w=>S w∧AnyM P F fn ops S last Z fuel (listed.setIfInBounds i true) a w) a w):AnyM P F fn ops S last Z (fuel+1) listed a w:=
 ⟨fun hn=>by
  rw[hr]at hn
  obtain⟨i,hi,hil⟩:=List.any_eq_true.1 hl
  exact absurd (hn i hi) (by simpa using hil),by rw[hr];exact h⟩
theorem anyM_end{listed:Array Bool}{a:Act}{w:World}(hr:Region.ready .any ops listed=[last])(h:Z a w):∀fuel,AnyM P F fn ops S last Z fuel listed a w
 | 0=>⟨fun _=>h,by rw[hr];simp⟩
 | _+1=>⟨fun _=>h,fun i hi hne=>absurd (by rw[hr]at hi;simpa using hi) hne⟩
theorem own_opm{main:Bool}{Stop:Goroutine→World→Prop}{b:Frame}{a:Act}{w:World}{k:List Item}{cs:List Frame}{i:Nat}{rest:List Nat}(hk:b.kind≠.early)
 (h:OpM P F b.fn ops i (fun a w=>Own P main F Stop (G (b.at a (.inRegion ops rest::k)) cs) w) a w):Own P main F Stop (G (b.at a (.inRegion ops (i::rest)::k)) cs) w:=by
 obtain⟨o,ho,⟨hw,hh⟩|⟨hw,hh⟩⟩:=h
 ·refine .step rfl fun d=>?_
  have:=hh d
  cases hr:(execOp a.eval o).run P (w.at d)with
  | halt _ _=>rw[hr]at this;exact this.elim
  | ok x w'=>
    rw[hr]at this
    cases x with
    | value u=>exact⟨_,_,_,stepG_value ho hw hk hr,this.1,this.2⟩
    | skip=>exact⟨_,_,_,stepG_none ho hw hk hr,this.1,this.2⟩
    | _=>exact this.elim
 ·exact .step rfl fun d=>⟨_,_,#[],stepG_unwanted ho hw,⟨⟨0,Grew.refl F _⟩,by simp⟩,hh.at d⟩
theorem anyM_sound(L:LL ops last){main:Bool}{Stop:Goroutine→World→Prop}{b:Frame}{k:List Item}{cs:List Frame}(hk:b.kind≠.early):
 ∀(fuel t:Nat) (listed:Array Bool) (a:Act) (w:World),listed.size=ops.size→DownTo ops listed→listed.getD last true=false→
  AnyM P F b.fn ops S last (fun a w=>Own P main F Stop (G (b.at a (.inRegion ops [last]::k)) cs) w) fuel listed a w→
  Own P main F Stop (G (b.at a (.inRegion ops (Region.linearise.go .any ops (fuel+1) t listed [])::k)) cs) w:=by
 intro fuel
 induction fuel with
 | zero=>?_
 | succ fuel ih=>?_
 all_goals
  intro t listed a w hs hc hl H
  obtain⟨i0,hi0⟩:=some_ready L hs last hl
  have hlen:0<(Region.ready .any ops listed).length:=List.length_pos_of_mem hi0
  obtain⟨i,hi⟩:∃i,(Region.ready .any ops listed)[t % (Region.ready .any ops listed).length]? =some i:=⟨_,List.getElem?_eq_getElem (Nat.mod_lt _ hlen)⟩
  have hmem:=List.mem_of_getElem? hi
  rw[Region.linearise.go]
  change Own P main F Stop (G (b.at a (.inRegion ops (match(Region.ready .any ops listed)[t % (Region.ready .any ops listed).length]? with
   | some i=>Region.linearise.go .any ops _ (t / (Region.ready .any ops listed).length) (listed.setIfInBounds i true) [i]
   | none=>[].reverse)::k)) cs) w
  rw[hi]
  simp only[]
  rw[linearise_go_acc,List.reverse_singleton,List.singleton_append]
 ·obtain rfl:=H.2 i hmem
  simp only[Region.linearise.go,List.reverse_nil]
  exact H.1 H.2
 ·by_cases hil:i=last
  ·subst hil
   have hall:=all_listed L hs hc hmem i
   have hre:∀j∈Region.ready .any ops listed,j=i:=by
    intro j hj
    obtain⟨h0,o,ho,_⟩:=mem_ready.1 hj
    have hlt:=(alt ho)
    have hsz:=L.size
    rcases Nat.lt_or_ge j i with h|h
    ·have:=hall j (by omega) h
     rw[getD_tf (by omega),this]at h0;cases h0
    ·omega
   have hnil:Region.ready .any ops (listed.setIfInBounds i true)=[]:=by
    apply List.eq_nil_iff_forall_not_mem.2
    intro j hj
    obtain⟨h0,o,ho,_⟩:=mem_ready.1 hj
    have hlt:=(alt ho)
    have hsz:=L.size
    by_cases e:i=j
    ·subst e
     rw[getD_tf (by simp;omega)]at h0
     have:i<listed.size:=by omega
     simp[this]at h0
    ·rw[getD_set_ne true e,getD_tf (by omega),hall j (by omega) (by omega)]at h0;cases h0
   have:Region.linearise.go .any ops (fuel+1) (t / (Region.ready .any ops listed).length) (listed.setIfInBounds i true) []=[]:=by
    rw[Region.linearise.go]
    change(match(Region.ready .any ops (listed.setIfInBounds i true))[(t / (Region.ready .any ops listed).length) % (Region.ready .any ops (listed.setIfInBounds i true)).length]? with
     | some i=>_
     | none=>[].reverse)=[]
    rw[hnil];rfl
   rw[this]
   exact H.1 hre
  ·refine own_opm hk (OpM_mono (fun a' w' ⟨_,hK⟩=>ih _ _ _ _ (by simpa using hs) (fun j o' hj hlj e he hb=>?_) (by rw[getD_set_ne true hil];exact hl) hK) (H.2 i hmem hil))
   by_cases e2:i=j
   ·subst e2
    obtain⟨_,o2,ho2,hd⟩:=mem_ready.1 hmem
    rw[hj]at ho2
    cases ho2
    exact getD_set_true (hd e he hb)
   ·rw[getD_set_ne false e2]at hlj
    exact getD_set_true (hc j o' hj hlj e he hb)
theorem own_drawnM(S:World→Prop)(hm:P.follows .mixedOrders=true)(L:LL ops last){id:Nat}{main:Bool}{Stop:Goroutine→World→Prop}{b:Frame}{a:Act}{w:World}{k:List Item}{cs:List Frame}(hk:b.kind≠.early)
 (h:AnyM P F b.fn ops S last (fun a w=>Own P main F Stop (G (b.at a (.inRegion ops [last]::k)) cs) w) last (Array.replicate ops.size false) a w):
 Own P main F Stop (G (b.at a (.code (.region id ops true)::k)) cs) w:=by
 refine .step rfl fun d=>⟨_,_,_,stepG_region_draw,⟨⟨1,?_⟩,by simp⟩,?_⟩
 ·exact⟨rfl,rfl,rfl,rfl,Nat.le_refl _,fun _ _ h=>.inr h,fun _ _=>rfl⟩
 ·have hs:=L.size
  have:=anyM_sound (S:=S) (cs:=cs) (k:=k) L hk last ((w.at d).tape (w.at d).drawn (.order b.fn id)) (Array.replicate ops.size false) a w (by simp) (fun j o _ hl=>by
   simp at hl
   rcases Nat.lt_or_ge j ops.size with h1|h1<;>simp[h1]at hl) (by simp[hs]) h
  rw[← hs]at this
  simp only[Region.schedule,hm,Bool.true_or,if_true]
  exact this.at (d+1)
theorem opm_k{i:Nat}{o:Oper}{K:Act→World→Prop}{a:Act}{w:World}(ho:ops[i]? =some o)(hw:Region.wanted o (yielded ops a.tmps)=true)
 (h:∀(d:Nat) (K':Act→World→Prop),(∀a' w',GuarE F (w.at d) w' (listed P fn a o (w.at d))∧K a' w'→K' a' w')→uponK o a K' ((execOp a.eval o).run P (w.at d))):OpM P F fn ops i K a w:=
 ⟨o,ho,.inl ⟨hw,fun d=>h d _ fun _ _ x=>x⟩⟩
end
noncomputable section
variable{g:Gate}{F:Fz}{w:World}
def hdBody:Code:=Try.f100.body.getD .skip
def hds0:=pC [] hdBody
def hdr0:=pC [zt] hdBody
def hds1:=pC [zf] hdBody
def hdr1:=pC [zf,zt] hdBody
theorem hds0':hds0= .seq hdr0 hds1:=by kernel_rfl
theorem hdr0':hdr0= .region 0 (oC hdr0) false:=by kernel_rfl
theorem hds1':hds1= .seq hdr1 .ret:=by kernel_rfl
theorem hdr1':hdr1= .region 1 (oC hdr1) false:=by kernel_rfl
theorem enter_held(args:Array Value):Frame.enter Try.prog 100 args .normal=(Go.Conc.base 100).at {tmps:=args++Array.replicate (9 - args.size) undef,defers:=[]} [.code hdBody]:=enter_at args Try.func100 rfl
theorem callable100:Callable 100:=callable Try.func100 rfl rfl
theorem own_held_low{m:Int}(hm:m<0){c:Frame}{cs:List Frame}{main:Bool}{Stop:Goroutine→World→Prop}(h:Own Try.prog main F Stop (G (c.finish (.int .i64 0)) cs) w):
 Own Try.prog main F Stop (G (Frame.enter Try.prog 100 #[.int .i64 m,.int .i64 1048576] .normal) (c::cs)) w:=by
 have f1:¬(0:Int)<m:=by omega
 rw[enter_held]
 change Own _ _ _ _ (G ((Go.Conc.base 100).at _ [.code hds0]) _) _
 walk_nrm
 refine ogSR hds0' hdr0' ?_
 simp only[hdr0,hdBody,Try.f100,zz,Nat.reduceAdd]
 (refine oW fun dd K hK=>?_;go_simp;refine qT hK ?_;clear hK K)
 refine ogE ?_
 refine ogSR hds1' hdr1' ?_
 simp only[hdr1,hdBody,Try.f100,zz,Nat.reduceAdd]
 iterate 5 (refine oW fun dd K hK=>?_;go_simp;refine qT hK ?_;clear hK K)
 refine ogE ?_
 refine ogX ?_
 refine own_go rfl (fun d=>stepG_leave (fn:=Try.f100) (v:=.int .i64 0) rfl rfl Try.func100 (by simp[results,Try.f100,go_sem, *]) (by simp[results,Try.f100,go_sem, *])) ?_
 exact h
theorem own_held_mid{m:Int}(hm:0≤m)(hm2:m≤1048576){c:Frame}{cs:List Frame}{main:Bool}{Stop:Goroutine→World→Prop}(h:Own Try.prog main F Stop (G (c.finish (.int .i64 m)) cs) w):
 Own Try.prog main F Stop (G (Frame.enter Try.prog 100 #[.int .i64 m,.int .i64 1048576] .normal) (c::cs)) w:=by
 have f1:¬m<0:=by omega
 have f2:¬(1048576:Int)<m:=by omega
 rw[enter_held]
 change Own _ _ _ _ (G ((Go.Conc.base 100).at _ [.code hds0]) _) _
 walk_nrm
 refine ogSR hds0' hdr0' ?_
 simp only[hdr0,hdBody,Try.f100,zz,Nat.reduceAdd]
 (refine oW fun dd K hK=>?_;go_simp;refine qT hK ?_;clear hK K)
 refine ogE ?_
 refine ogSR hds1' hdr1' ?_
 simp only[hdr1,hdBody,Try.f100,zz,Nat.reduceAdd]
 iterate 5 (refine oW fun dd K hK=>?_;go_simp;refine qT hK ?_;clear hK K)
 refine ogE ?_
 refine ogX ?_
 refine own_go rfl (fun d=>stepG_leave (fn:=Try.f100) (v:=.int .i64 m) rfl rfl Try.func100 (by simp[results,Try.f100,go_sem, *]) (by simp[results,Try.f100,go_sem, *])) ?_
 exact h
theorem own_held_high{m:Int}(hm:1048576<m){c:Frame}{cs:List Frame}{main:Bool}{Stop:Goroutine→World→Prop}(h:Own Try.prog main F Stop (G (c.finish (.int .i64 1048576)) cs) w):
 Own Try.prog main F Stop (G (Frame.enter Try.prog 100 #[.int .i64 m,.int .i64 1048576] .normal) (c::cs)) w:=by
 have f1:¬m<0:=by omega
 rw[enter_held]
 change Own _ _ _ _ (G ((Go.Conc.base 100).at _ [.code hds0]) _) _
 walk_nrm
 refine ogSR hds0' hdr0' ?_
 simp only[hdr0,hdBody,Try.f100,zz,Nat.reduceAdd]
 (refine oW fun dd K hK=>?_;go_simp;refine qT hK ?_;clear hK K)
 refine ogE ?_
 refine ogSR hds1' hdr1' ?_
 simp only[hdr1,hdBody,Try.f100,zz,Nat.reduceAdd]
 iterate 5 (refine oW fun dd K hK=>?_;go_simp;refine qT hK ?_;clear hK K)
 refine ogE ?_
 refine ogX ?_
 refine own_go rfl (fun d=>stepG_leave (fn:=Try.f100) (v:=.int .i64 1048576) rfl rfl Try.func100 (by simp[results,Try.f100,go_sem, *]) (by simp[results,Try.f100,go_sem, *])) ?_
 exact h
theorem own_held{m:Int}{M:Nat}(hM:(M:Int)=min (max m 0) 1048576){c:Frame}{cs:List Frame}{main:Bool}{Stop:Goroutine→World→Prop}(h:Own Try.prog main F Stop (G (c.finish (.int .i64 M)) cs) w):
 Own Try.prog main F Stop (G (Frame.enter Try.prog 100 #[.int .i64 m,.int .i64 1048576] .normal) (c::cs)) w:=by
 by_cases h1:m<0
 ·exact own_held_low h1 (by rw[show(0:Int)=M by omega];exact h)
 ·by_cases h2:m≤1048576
  ·exact own_held_mid (by omega) h2 (by rw[show m=M by omega];exact h)
  ·exact own_held_high (by omega) (by rw[show(1048576:Int)=M by omega];exact h)
end
section
variable{g:Gate}{F:Fz}{w:World}
theorem enter_over(args:Array Value):Frame.enter Try.prog 82 args .normal=(Go.Conc.base 82).at {tmps:=args++Array.replicate (129 - args.size) undef,defers:=[]} [.code ovs0]:=enter_at args Try.func82 rfl
theorem callable82:Callable 82:=callable Try.func82 rfl rfl
theorem set_new(X:World)(v u:Value)(t:TypeId):(X.alloc (.cells #[v] t)).setCell ⟨X.heap.size,0,none⟩ u=X.alloc (.cells #[u] t):=by go_simp
theorem set_old(X:World)(o:Obj)(a:Addr)(u:Value)(h:a.block<X.heap.size):(X.alloc o).setCell a u=(X.setCell a u).alloc o:=by
 unfold World.alloc World.setCell
 congr 1
 apply Array.ext_getElem?
 intro i
 simp only[Array.getElem?_modify,Array.getElem?_push,Array.size_modify]
 by_cases h1:i=X.heap.size
 ·subst h1;simp;omega
 ·simp[h1]
def ovW0(w:World)(M n:Nat):World:=((w.alloc (.cells #[.int .i64 M] 3)).alloc (.cells #[.slice none 0 0] 24)).alloc (.cells #[.int .i64 n] 3)
theorem ov_s0{n:Nat}(hU:Under F n)(hn:n≤w.heap.size){ta:Option Addr}{tl tc M:Nat}{sch:Value}{m:Int}(htl:tl≤64)(hM:min (max m 0) 1048576=(M:Int)){cs:List Frame}{main:Bool}{Stop:Goroutine→World→Prop}
 (h:∀A,Slots 129 A [(0,.slice ta tl tc),(1,sch),(5,.pointer (some ⟨w.heap.size,0,none⟩)),(6,.pointer (some ⟨w.heap.size+1,0,none⟩)),(7,.bool false),(8,.slice none 0 0),(9,.pointer (some ⟨w.heap.size+2,0,none⟩))]→
   Own Try.prog main F Stop (G ((Go.Conc.base 82).at ⟨A,[]⟩ [.code ovs3]) cs) (ovW0 w M tl)):
 Own Try.prog main F Stop (G (Frame.enter Try.prog 82 #[.slice ta tl tc,sch,.int .i64 m] .normal) cs) w:=by
 have n1:¬(64:Int)<(tl:Int):=by omega
 have n2:¬64<tl:=by omega
 rw[enter_over]
 walk_nrm
 refine ogSR ovs0' ovr0' ?_
 simp only[ovr0,ovBody,Try.f82,zz,Nat.reduceAdd]
 iterate 2 (refine oW fun dd K hK=>?_;go_simp;refine qA hK hU ?_;clear hK K)
 iterate 2 (refine oW fun dd K hK=>?_;go_simp;refine qT hK ?_;clear hK K)
 refine ogE ?_
 refine ogSR ovs1' ovr1' ?_
 simp only[ovr1,ovBody,Try.f82,zz,Nat.reduceAdd]
 iterate 3 (refine oW fun dd K hK=>?_;go_simp;refine qT hK ?_;clear hK K)
 (refine oW fun dd K hK=>?_;go_simp;refine qA hK hU ?_;clear hK K)
 (refine oW fun dd K hK=>?_;go_simp;refine qS hK hU ?_;clear hK K)
 have e1:=set_new ((w.alloc (.cells #[.int .i64 m] 3)).alloc (.cells #[.slice none 0 0] 24)) (.int .i64 0) (.int .i64 tl) 3
 simp only[World.size_alloc]at e1
 rw[e1]
 clear e1
 refine ogE ?_
 refine ogSR ovs2' ovr2' ?_
 simp only[ovr2,ovBody,Try.f82,zz,Nat.reduceAdd]
 (refine oW fun dd K hK=>?_;go_simp;refine qL hK ?_;clear hK K)
 refine oc callable100 #[.int .i64 m,.int .i64 1048576] ?_
 (refine own_held hM.symm ?_)
 rw[Frame.finish_at]
 walk_nrm
 (refine oW fun dd K hK=>?_;go_simp;refine qS hK hU ?_;clear hK K)
 rw[set_old _ _ _ _ (by simp;omega),set_old _ _ _ _ (by simp),set_new]
 refine ogE ?_
 refine h _ ?_
 exact⟨rfl,rfl,rfl,rfl,rfl,rfl,rfl,rfl,trivial⟩
end
section
section
variable{P:Program}
theorem ev_places(w:World)(es:Array Event):∀(fs:List Field) (places:List (Nat×Nat)),fs.mapM (fun f=>(P.info? f.type).map fun i=>(f.offset,i.size))=some places→
 (fs.mapM fun f=>Prod.mk f.offset <$> sizeOf f.type).events P w es=es
 | [],places,h=>by simp
 | f::fs,places,h=>by
   simp only[List.mapM_cons,Option.bind_eq_bind,Option.pure_def]at h
   cases hi:P.info? f.type with
   | none=>simp[hi]at h
   | some i=>
     cases hr:fs.mapM (fun f=>(P.info? f.type).map fun i=>(f.offset,i.size))with
     | none=>simp[hi,hr]at h
     | some rest=>
       have hs:(sizeOf f.type).run P w= .ok i.size w:=by simp[sizeOf,typeInfo,hi]
       have he:(sizeOf f.type).events P w es=es:=by simp[sizeOf,typeInfo,hi,go_sem]
       simp[List.mapM_cons,hs,he,run_places w fs rest hr,ev_places w es fs rest hr]
theorem ev_build(w:World)(es:Array Event)(t:TypeId)(parts:Array (Nat×Value))(cells:Array Value)(fields:Array Field)(hu:P.underlying t=some (.struct fields))(h:P.built t parts.toList=some cells):(Instr.build t parts).events P w es=es:=by
 unfold Program.built at h
 cases hit:P.info? t with
 | none=>simp[hit]at h
 | some it=>
   cases hz:it.zero with
   | none=>simp[hit,hu,hz]at h
   | some z=>
     cases hp:fields.toList.mapM (fun f=>(P.info? f.type).map fun i=>(f.offset,i.size))with
     | none=>simp[hit,hu,hz,hp]at h
     | some places=>
       simp only[hit,hu,hz,hp]at h
       have h':Instr.fill (fun x=>places[x]?) z.cells parts.toList=some cells:=by simpa using h
       unfold Value.cells at h'
       simp[Instr.build,run_underlying hu,typeInfo,zeroValue,hit,hz,Array.mapM_eq_mapM_toList,run_places w _ _ hp,ev_places w es _ _ hp,h',go_sem]
end
section
variable(w:World)(es:Array Event)(c b:Nat)(n m:Nat)
theorem built144(c b n m:Nat):Try.prog.built 172 [(0,.chan (some c)),(2,.slice (some ⟨b,0,none⟩) n m)]=some #[.chan (some c),.slice none 0 0,.slice (some ⟨b,0,none⟩) n m]:=by kernel_rfl
@[go_sem] theorem run_build144:(Instr.build 172 #[(0,.chan (some c)),(2,.slice (some ⟨b,0,none⟩) n m)]).run Try.prog w= .ok (.agg #[.chan (some c),.slice none 0 0,.slice (some ⟨b,0,none⟩) n m]) w:=run_build w _ _ _ (built144 c b n m)
@[go_sem] theorem ev_build144:(Instr.build 172 #[(0,.chan (some c)),(2,.slice (some ⟨b,0,none⟩) n m)]).events Try.prog w es=es:=ev_build w es _ _ _ _ Try.underlying172 (built144 c b n m)
theorem built148(t c:Nat):Try.prog.built 176 [(0,.pointer (some ⟨t,0,none⟩)),(1,.chan (some c))]=some #[.pointer (some ⟨t,0,none⟩),.chan (some c),.bool false]:=by kernel_rfl
@[go_sem] theorem run_build148:(Instr.build 176 #[(0,.pointer (some ⟨b,0,none⟩)),(1,.chan (some c))]).run Try.prog w= .ok (.agg #[.pointer (some ⟨b,0,none⟩),.chan (some c),.bool false]) w:=run_build w _ _ _ (built148 b c)
@[go_sem] theorem ev_build148:(Instr.build 176 #[(0,.pointer (some ⟨b,0,none⟩)),(1,.chan (some c))]).events Try.prog w es=es:=ev_build w es _ _ _ _ Try.underlying176 (built148 b c)
end
theorem info56:∃i,Try.prog.info? 56=some i∧i.bytes=0:=by
 have h:(Try.prog.info? 56).map (·.bytes)=some 0:=by kernel_rfl
 obtain⟨i,hi,h1⟩:=Option.map_eq_some_iff.1 h
 exact⟨i,hi,h1⟩
theorem info4:∃i,Try.prog.info? 4=some i∧i.zero=some (.bool false)∧i.size=1∧i.bytes=1:=by
 have h:(Try.prog.info? 4).map (fun i=>(i.size,i.bytes))=some (1,1):=by kernel_rfl
 have h0:(Try.prog.info? 4).bind (·.zero)=some (.bool false):=by kernel_rfl
 obtain⟨i,hi,h1⟩:=Option.map_eq_some_iff.1 h
 rw[hi]at h0
 simp only[Prod.mk.injEq]at h1
 exact⟨i,hi,h0,h1.1,h1.2⟩
section
variable(w:World)(es:Array Event)(n:Nat)
@[go_sem] theorem mkChan141:(Instr.makeChan 169 (.int .i64 0)).run Try.prog w= .ok (.chan (some w.heap.size)) (w.alloc (.chan 0 #[] false 0 0 false)):=by
 obtain⟨i,hi,hb⟩:=info56
 exact run_makeChan Try.underlying169 hi .i64 0 (by decide) (by simp)
@[go_sem] theorem mkChan141e:(Instr.makeChan 169 (.int .i64 0)).events Try.prog w es=es:=by
 obtain⟨i,hi,hb⟩:=info56
 exact events_makeChan Try.underlying169 hi .i64 0 (by decide) (by simp) es
@[go_sem] theorem mkChan146:(Instr.makeChan 174 (.int .i64 0)).run Try.prog w= .ok (.chan (some w.heap.size)) (w.alloc (.chan 0 #[] false 0 0 false)):=by
 obtain⟨i,hi,_,_,hb⟩:=info4
 exact run_makeChan Try.underlying174 hi .i64 0 (by decide) (by simp)
@[go_sem] theorem mkChan146e:(Instr.makeChan 174 (.int .i64 0)).events Try.prog w es=es:=by
 obtain⟨i,hi,_,_,hb⟩:=info4
 exact events_makeChan Try.underlying174 hi .i64 0 (by decide) (by simp) es
@[go_sem] theorem mkSlice142(h:n≤64):(Instr.makeSlice 142 (.int .i64 n) (.int .i64 n)).run Try.prog w= .ok (.slice (some ⟨w.heap.size,0,none⟩) n n) (w.alloc (.cells (madeCells #[.bool false] n) 4)):=by
 obtain⟨i,hi,hz,hs,hb⟩:=info4
 have:=run_make (P:=Try.prog) w 142 4 i (.bool false) Try.underlying142 hi hz .i64 .i64 n n (by omega) (by omega) (by rw[hb];omega) (by omega)
 rw[hs]at this
 simpa [Value.cells]using this
@[go_sem] theorem mkSlice142e(h:n≤64):(Instr.makeSlice 142 (.int .i64 n) (.int .i64 n)).events Try.prog w es=es:=by
 obtain⟨i,hi,hz,hs,hb⟩:=info4
 exact events_make (P:=Try.prog) w 142 4 i (.bool false) Try.underlying142 hi hz .i64 .i64 n n (by omega) (by omega) (by rw[hb];omega) (by omega) (by rw[hb];omega) es
end
structure SN(nn nb n:Nat)(u:World):Prop where
 top:nn≤u.heap.size
 lt:nb<u.heap.size
 c:u.cell? ⟨nb,0,none⟩=some (.int .i64 n)
 z:u.frozen? ⟨nb,0,none⟩=false
theorem SN.at{nn nb n:Nat}{u:World}(h:SN nn nb n u)(d:Nat):SN nn nb n (u.at d):=⟨h.top,h.lt,h.c,h.z⟩
theorem SN.alloc{nn nb n:Nat}{u:World}(h:SN nn nb n u)(o:Obj):SN nn nb n (u.alloc o):=
 ⟨by have:=h.top;simp;omega,by have:=h.lt;simp;omega,by rw[cell_alloc u o _ h.lt];exact h.c,by
  have:(u.alloc o).heap[nb]? =u.heap[nb]?:=heap_alloc_lt u o h.lt
  unfold World.frozen?
  simp only[this]
  exact h.z⟩
structure Set3(n:Nat)(w w':World)(tv tb bk br:Nat):Prop where
 size:w.heap.size≤w'.heap.size
 old:∀r,r<w.heap.size→w'.heap[r]? =w.heap[r]?
 htv:w'.heap[tv]? =some (.cells #[.pointer (some ⟨tb,0,none⟩)] 168)
 htb:w'.heap[tb]? =some (.cells #[.chan (some bk),.slice none 0 0,.slice (some ⟨br,0,none⟩) n n] 172)
 hbk:w'.heap[bk]? =some (.chan 0 #[] false 0 0 false)
 hbr:w'.heap[br]? =some (.cells (madeCells #[.bool false] n) 4)
 low:w.heap.size≤tv∧w.heap.size≤tb∧w.heap.size≤bk∧w.heap.size≤br
theorem four_size(w:World)(a b c e:Obj):w.heap.size≤((((w.alloc a).alloc b).alloc c).alloc e).heap.size:=by simp;omega
theorem four_old(w:World)(a b c e:Obj):∀r,r<w.heap.size→((((w.alloc a).alloc b).alloc c).alloc e).heap[r]? =w.heap[r]?:=fun r hr=>by
 rw[heap_alloc_lt _ _ (by simp;omega),heap_alloc_lt _ _ (by simp;omega),heap_alloc_lt _ _ (by simp;omega),heap_alloc_lt _ _ hr]
theorem four3(w:World)(a b c e:Obj):((((w.alloc a).alloc b).alloc c).alloc e).heap[w.heap.size+1+1+1]? =some e:=by
 have:=heap_alloc_new (((w.alloc a).alloc b).alloc c) e
 simpa using this
theorem four2(w:World)(a b c e:Obj):((((w.alloc a).alloc b).alloc c).alloc e).heap[w.heap.size+1+1]? =some c:=by
 rw[heap_alloc_lt _ _ (by simp)]
 have:=heap_alloc_new ((w.alloc a).alloc b) c
 simpa using this
theorem four1(w:World)(a b c e:Obj):((((w.alloc a).alloc b).alloc c).alloc e).heap[w.heap.size+1]? =some b:=by
 rw[heap_alloc_lt _ _ (by simp),heap_alloc_lt _ _ (by simp)]
 have:=heap_alloc_new (w.alloc a) b
 simpa using this
theorem four0(w:World)(a b c e:Obj):((((w.alloc a).alloc b).alloc c).alloc e).heap[w.heap.size]? =some a:=by
 rw[heap_alloc_lt _ _ (by simp;omega),heap_alloc_lt _ _ (by simp;omega),heap_alloc_lt _ _ (by simp)]
 exact heap_alloc_new w a
theorem set3_of{w w4:World}{n tv tb bk br:Nat}(hs:w.heap.size≤w4.heap.size)(ho:∀r,r<w.heap.size→w4.heap[r]? =w.heap[r]?)(h1:w4.heap[tv]? =some (.cells #[.pointer none] 168))
 (h2:w4.heap[tb]? =some (.cells #[.chan (some bk),.slice none 0 0,.slice (some ⟨br,0,none⟩) n n] 172)) (h3:w4.heap[bk]? =some (.chan 0 #[] false 0 0 false)) (h4:w4.heap[br]? =some (.cells (madeCells #[.bool false] n) 4))
 (d1:tb≠tv) (d2:bk≠tv) (d3:br≠tv) (l1:w.heap.size≤tv) (l2:w.heap.size≤tb) (l3:w.heap.size≤bk) (l4:w.heap.size≤br):Set3 n w (w4.setCell ⟨tv,0,none⟩ (.pointer (some ⟨tb,0,none⟩))) tv tb bk br:=
 ⟨by simpa using hs,fun r hr=>(heap_setCell_ne _ _ _ (by simp only;omega)).trans (ho r hr),by simp[World.setCell,Array.getElem?_modify,h1],(heap_setCell_ne _ _ _ d1).trans h2,(heap_setCell_ne _ _ _ d2).trans h3,(heap_setCell_ne _ _ _ d3).trans h4,l1,l2,l3,l4⟩
end
section
variable{F:Fz}{w:World}
theorem ov_s3{nn n nb mo od:Nat}{thr sch:Value}(hU:Under F nn)(hn64:n≤64)(hs:SN nn nb n w){A:Array Value}(hA:Slots 129 A [(0,thr),(1,sch),(5,.pointer (some ⟨mo,0,none⟩)),(6,.pointer (some ⟨od,0,none⟩)),(7,.bool false),(8,.slice none 0 0),(9,.pointer (some ⟨nb,0,none⟩))]){cs:List Frame}{main:Bool}{Stop:Goroutine→World→Prop}{k:List Item}
 (h:∀(w':World) (tv tb bk br:Nat) (A:Array Value),Set3 n w w' tv tb bk br→Slots 129 A [(0,thr),(1,sch),(5,.pointer (some ⟨mo,0,none⟩)),(6,.pointer (some ⟨od,0,none⟩)),(7,.bool false),(8,.slice none 0 0),(9,.pointer (some ⟨nb,0,none⟩)),(10,.pointer (some ⟨tv,0,none⟩))]→
   Own Try.prog main F Stop (G ((Go.Conc.base 82).at ⟨A,[]⟩ k) cs) w'):
 Own Try.prog main F Stop (G ((Go.Conc.base 82).at ⟨A,[]⟩ (.code ovr3::k)) cs) w:=by
 obtain⟨hsz,h0,h1,h5,h6,h7,h8,h9,_⟩:=hA
 obtain⟨s,rfl⟩:=ovT_of hsz
 change s 0=_ at h0
 change s 1=_ at h1
 change s 5=_ at h5
 change s 6=_ at h6
 change s 7=_ at h7
 change s 8=_ at h8
 change s 9=_ at h9
 clear hsz
 simp only[ovT,h0,h1,h5,h6,h7,h8,h9]
 clear h0 h1 h5 h6 h7 h8 h9
 have hS:∀u d,SN nn nb n u→SN nn nb n (World.at u d):=fun u d h=>h.at d
 have htop:=hs.top
 rw[ovr3']
 refine own_drawnM (SN nn nb n) (last:=6) run_mixed (ll_of (by kernel_rfl)) (by decide) ?_
 simp only[ovr3,ovBody,Try.f82,zz,Nat.reduceAdd]
 have hZ:∀a u d,Own Try.prog main F Stop (G ((Go.Conc.base 82).at a (.inRegion (oC ovr3) [6]::k)) cs) u→Own Try.prog main F Stop (G ((Go.Conc.base 82).at a (.inRegion (oC ovr3) [6]::k)) cs) (World.at u d):=fun a u d h=>h.at d
 simp only[ovr3,ovBody,Try.f82,zz,Nat.reduceAdd]at hZ
 refine anyM_take hS hZ (i:=1) (v:=.int .i64 n) hs rfl rfl (by kernel_rfl) (by kernel_rfl) (by kernel_rfl) (fun u hu=>.inl ⟨rfl,fun d=>⟨by simp[go_sem,execOp,Act.eval,hu.c,hu.z],fun e he=>by have hm:=mem_listed he;simp[go_sem,execOp,Act.eval,hu.c,hu.z]at hm;subst hm;exact evT_read _ _⟩⟩) ?_
 walk_nrm
 refine anyM_all (r:=[0,2,5]) (by kernel_rfl) (by kernel_rfl) (fun i hi hil=>?_)
 simp only[List.mem_cons,List.not_mem_nil,or_false]at hi
 rcases hi with rfl|rfl|rfl
 ·refine opm_k rfl rfl (fun d K' hK'=>?_)
  go_simp
  refine hK' _ _ ⟨⟨⟨0,grew_alloc hU (hs.at d).top _⟩,fun e he=>by(have hm:=mem_listed he;simp[go_sem,hn64]at hm)⟩,(hs.at d).alloc _,?_⟩
  clear hK' K'
  rw[alloc_at']
  refine anyM_at hS hZ _ _ _ _ ?_ d
  replace hs:=hs.alloc (.chan 0 #[] false 0 0 false)
  refine anyM_all (r:=[2,5]) (by kernel_rfl) (by kernel_rfl) (fun i hi hil=>?_)
  simp only[List.mem_cons,List.not_mem_nil,or_false]at hi
  rcases hi with rfl|rfl
  ·refine opm_k rfl rfl (fun d K' hK'=>?_)
   go_simp
   refine hK' _ _ ⟨⟨⟨0,grew_alloc hU (hs.at d).top _⟩,fun e he=>by(have hm:=mem_listed he;simp[go_sem,hn64]at hm)⟩,(hs.at d).alloc _,?_⟩
   clear hK' K'
   rw[alloc_at']
   refine anyM_at hS hZ _ _ _ _ ?_ d
   replace hs:=hs.alloc (.cells (madeCells #[.bool false] n) 4)
   refine anyM_take hS hZ (i:=3) (v:=.agg #[.chan (some (w.heap.size)),.slice none 0 0,.slice (some ⟨w.heap.size+1,0,none⟩) n n]) hs rfl rfl (by kernel_rfl) (by kernel_rfl) (by kernel_rfl) (fun u hu=>.inl ⟨rfl,fun d=>⟨by simp[go_sem,execOp,Act.eval],fun e he=>by have hm:=mem_listed he;simp[go_sem,execOp,Act.eval]at hm⟩⟩) ?_
   walk_nrm
   refine anyM_all (r:=[4,5]) (by kernel_rfl) (by kernel_rfl) (fun i hi hil=>?_)
   simp only[List.mem_cons,List.not_mem_nil,or_false]at hi
   rcases hi with rfl|rfl
   ·refine opm_k rfl rfl (fun d K' hK'=>?_)
    go_simp
    refine hK' _ _ ⟨⟨⟨0,grew_alloc hU (hs.at d).top _⟩,fun e he=>by(have hm:=mem_listed he;simp[go_sem,hn64]at hm)⟩,(hs.at d).alloc _,?_⟩
    clear hK' K'
    rw[alloc_at']
    refine anyM_at hS hZ _ _ _ _ ?_ d
    replace hs:=hs.alloc (.cells #[.chan (some (w.heap.size)),.slice none 0 0,.slice (some ⟨w.heap.size+1,0,none⟩) n n] 172)
    refine anyM_all (r:=[5]) (by kernel_rfl) (by kernel_rfl) (fun i hi hil=>?_)
    simp only[List.mem_cons,List.not_mem_nil,or_false]at hi
    subst hi
    refine opm_k rfl rfl (fun d K' hK'=>?_)
    go_simp
    refine hK' _ _ ⟨⟨⟨0,grew_alloc hU (hs.at d).top _⟩,fun e he=>by(have hm:=mem_listed he;simp[go_sem,hn64]at hm)⟩,(hs.at d).alloc _,?_⟩
    clear hK' K'
    rw[alloc_at']
    refine anyM_at hS hZ _ _ _ _ ?_ d
    replace hs:=hs.alloc (.cells #[.pointer none] 168)
    refine anyM_end (by kernel_rfl) ?_ _
    (refine oW fun dd K hK=>?_;go_simp;refine qS hK hU ?_;clear hK K)
    refine ogE ?_
    refine h _ (w.heap.size+1+1+1) (w.heap.size+1+1) (w.heap.size) (w.heap.size+1) _ (set3_of (four_size w _ _ _ _) (four_old w _ _ _ _) (four3 w _ _ _ _) (four2 w _ _ _ _) (four0 w _ _ _ _) (four1 w _ _ _ _) (by omega) (by omega) (by omega) (by omega) (by omega) (by omega) (by omega)) ⟨rfl,rfl,rfl,rfl,rfl,rfl,rfl,rfl,rfl,trivial⟩
   ·refine opm_k rfl rfl (fun d K' hK'=>?_)
    go_simp
    refine hK' _ _ ⟨⟨⟨0,grew_alloc hU (hs.at d).top _⟩,fun e he=>by(have hm:=mem_listed he;simp[go_sem,hn64]at hm)⟩,(hs.at d).alloc _,?_⟩
    clear hK' K'
    rw[alloc_at']
    refine anyM_at hS hZ _ _ _ _ ?_ d
    replace hs:=hs.alloc (.cells #[.pointer none] 168)
    refine anyM_all (r:=[4]) (by kernel_rfl) (by kernel_rfl) (fun i hi hil=>?_)
    simp only[List.mem_cons,List.not_mem_nil,or_false]at hi
    subst hi
    refine opm_k rfl rfl (fun d K' hK'=>?_)
    go_simp
    refine hK' _ _ ⟨⟨⟨0,grew_alloc hU (hs.at d).top _⟩,fun e he=>by(have hm:=mem_listed he;simp[go_sem,hn64]at hm)⟩,(hs.at d).alloc _,?_⟩
    clear hK' K'
    rw[alloc_at']
    refine anyM_at hS hZ _ _ _ _ ?_ d
    replace hs:=hs.alloc (.cells #[.chan (some (w.heap.size)),.slice none 0 0,.slice (some ⟨w.heap.size+1,0,none⟩) n n] 172)
    refine anyM_end (by kernel_rfl) ?_ _
    (refine oW fun dd K hK=>?_;go_simp;refine qS hK hU ?_;clear hK K)
    refine ogE ?_
    refine h _ (w.heap.size+1+1) (w.heap.size+1+1+1) (w.heap.size) (w.heap.size+1) _ (set3_of (four_size w _ _ _ _) (four_old w _ _ _ _) (four2 w _ _ _ _) (four3 w _ _ _ _) (four0 w _ _ _ _) (four1 w _ _ _ _) (by omega) (by omega) (by omega) (by omega) (by omega) (by omega) (by omega)) ⟨rfl,rfl,rfl,rfl,rfl,rfl,rfl,rfl,rfl,trivial⟩
  ·refine opm_k rfl rfl (fun d K' hK'=>?_)
   go_simp
   refine hK' _ _ ⟨⟨⟨0,grew_alloc hU (hs.at d).top _⟩,fun e he=>by(have hm:=mem_listed he;simp[go_sem,hn64]at hm)⟩,(hs.at d).alloc _,?_⟩
   clear hK' K'
   rw[alloc_at']
   refine anyM_at hS hZ _ _ _ _ ?_ d
   replace hs:=hs.alloc (.cells #[.pointer none] 168)
   refine anyM_all (r:=[2]) (by kernel_rfl) (by kernel_rfl) (fun i hi hil=>?_)
   simp only[List.mem_cons,List.not_mem_nil,or_false]at hi
   subst hi
   refine opm_k rfl rfl (fun d K' hK'=>?_)
   go_simp
   refine hK' _ _ ⟨⟨⟨0,grew_alloc hU (hs.at d).top _⟩,fun e he=>by(have hm:=mem_listed he;simp[go_sem,hn64]at hm)⟩,(hs.at d).alloc _,?_⟩
   clear hK' K'
   rw[alloc_at']
   refine anyM_at hS hZ _ _ _ _ ?_ d
   replace hs:=hs.alloc (.cells (madeCells #[.bool false] n) 4)
   refine anyM_take hS hZ (i:=3) (v:=.agg #[.chan (some (w.heap.size)),.slice none 0 0,.slice (some ⟨w.heap.size+1+1,0,none⟩) n n]) hs rfl rfl (by kernel_rfl) (by kernel_rfl) (by kernel_rfl) (fun u hu=>.inl ⟨rfl,fun d=>⟨by simp[go_sem,execOp,Act.eval],fun e he=>by have hm:=mem_listed he;simp[go_sem,execOp,Act.eval]at hm⟩⟩) ?_
   walk_nrm
   refine anyM_all (r:=[4]) (by kernel_rfl) (by kernel_rfl) (fun i hi hil=>?_)
   simp only[List.mem_cons,List.not_mem_nil,or_false]at hi
   subst hi
   refine opm_k rfl rfl (fun d K' hK'=>?_)
   go_simp
   refine hK' _ _ ⟨⟨⟨0,grew_alloc hU (hs.at d).top _⟩,fun e he=>by(have hm:=mem_listed he;simp[go_sem,hn64]at hm)⟩,(hs.at d).alloc _,?_⟩
   clear hK' K'
   rw[alloc_at']
   refine anyM_at hS hZ _ _ _ _ ?_ d
   replace hs:=hs.alloc (.cells #[.chan (some (w.heap.size)),.slice none 0 0,.slice (some ⟨w.heap.size+1+1,0,none⟩) n n] 172)
   refine anyM_end (by kernel_rfl) ?_ _
   (refine oW fun dd K hK=>?_;go_simp;refine qS hK hU ?_;clear hK K)
   refine ogE ?_
   refine h _ (w.heap.size+1) (w.heap.size+1+1+1) (w.heap.size) (w.heap.size+1+1) _ (set3_of (four_size w _ _ _ _) (four_old w _ _ _ _) (four1 w _ _ _ _) (four3 w _ _ _ _) (four0 w _ _ _ _) (four2 w _ _ _ _) (by omega) (by omega) (by omega) (by omega) (by omega) (by omega) (by omega)) ⟨rfl,rfl,rfl,rfl,rfl,rfl,rfl,rfl,rfl,trivial⟩
 ·refine opm_k rfl rfl (fun d K' hK'=>?_)
  go_simp
  refine hK' _ _ ⟨⟨⟨0,grew_alloc hU (hs.at d).top _⟩,fun e he=>by(have hm:=mem_listed he;simp[go_sem,hn64]at hm)⟩,(hs.at d).alloc _,?_⟩
  clear hK' K'
  rw[alloc_at']
  refine anyM_at hS hZ _ _ _ _ ?_ d
  replace hs:=hs.alloc (.cells (madeCells #[.bool false] n) 4)
  refine anyM_all (r:=[0,5]) (by kernel_rfl) (by kernel_rfl) (fun i hi hil=>?_)
  simp only[List.mem_cons,List.not_mem_nil,or_false]at hi
  rcases hi with rfl|rfl
  ·refine opm_k rfl rfl (fun d K' hK'=>?_)
   go_simp
   refine hK' _ _ ⟨⟨⟨0,grew_alloc hU (hs.at d).top _⟩,fun e he=>by(have hm:=mem_listed he;simp[go_sem,hn64]at hm)⟩,(hs.at d).alloc _,?_⟩
   clear hK' K'
   rw[alloc_at']
   refine anyM_at hS hZ _ _ _ _ ?_ d
   replace hs:=hs.alloc (.chan 0 #[] false 0 0 false)
   refine anyM_take hS hZ (i:=3) (v:=.agg #[.chan (some (w.heap.size+1)),.slice none 0 0,.slice (some ⟨w.heap.size,0,none⟩) n n]) hs rfl rfl (by kernel_rfl) (by kernel_rfl) (by kernel_rfl) (fun u hu=>.inl ⟨rfl,fun d=>⟨by simp[go_sem,execOp,Act.eval],fun e he=>by have hm:=mem_listed he;simp[go_sem,execOp,Act.eval]at hm⟩⟩) ?_
   walk_nrm
   refine anyM_all (r:=[4,5]) (by kernel_rfl) (by kernel_rfl) (fun i hi hil=>?_)
   simp only[List.mem_cons,List.not_mem_nil,or_false]at hi
   rcases hi with rfl|rfl
   ·refine opm_k rfl rfl (fun d K' hK'=>?_)
    go_simp
    refine hK' _ _ ⟨⟨⟨0,grew_alloc hU (hs.at d).top _⟩,fun e he=>by(have hm:=mem_listed he;simp[go_sem,hn64]at hm)⟩,(hs.at d).alloc _,?_⟩
    clear hK' K'
    rw[alloc_at']
    refine anyM_at hS hZ _ _ _ _ ?_ d
    replace hs:=hs.alloc (.cells #[.chan (some (w.heap.size+1)),.slice none 0 0,.slice (some ⟨w.heap.size,0,none⟩) n n] 172)
    refine anyM_all (r:=[5]) (by kernel_rfl) (by kernel_rfl) (fun i hi hil=>?_)
    simp only[List.mem_cons,List.not_mem_nil,or_false]at hi
    subst hi
    refine opm_k rfl rfl (fun d K' hK'=>?_)
    go_simp
    refine hK' _ _ ⟨⟨⟨0,grew_alloc hU (hs.at d).top _⟩,fun e he=>by(have hm:=mem_listed he;simp[go_sem,hn64]at hm)⟩,(hs.at d).alloc _,?_⟩
    clear hK' K'
    rw[alloc_at']
    refine anyM_at hS hZ _ _ _ _ ?_ d
    replace hs:=hs.alloc (.cells #[.pointer none] 168)
    refine anyM_end (by kernel_rfl) ?_ _
    (refine oW fun dd K hK=>?_;go_simp;refine qS hK hU ?_;clear hK K)
    refine ogE ?_
    refine h _ (w.heap.size+1+1+1) (w.heap.size+1+1) (w.heap.size+1) (w.heap.size) _ (set3_of (four_size w _ _ _ _) (four_old w _ _ _ _) (four3 w _ _ _ _) (four2 w _ _ _ _) (four1 w _ _ _ _) (four0 w _ _ _ _) (by omega) (by omega) (by omega) (by omega) (by omega) (by omega) (by omega)) ⟨rfl,rfl,rfl,rfl,rfl,rfl,rfl,rfl,rfl,trivial⟩
   ·refine opm_k rfl rfl (fun d K' hK'=>?_)
    go_simp
    refine hK' _ _ ⟨⟨⟨0,grew_alloc hU (hs.at d).top _⟩,fun e he=>by(have hm:=mem_listed he;simp[go_sem,hn64]at hm)⟩,(hs.at d).alloc _,?_⟩
    clear hK' K'
    rw[alloc_at']
    refine anyM_at hS hZ _ _ _ _ ?_ d
    replace hs:=hs.alloc (.cells #[.pointer none] 168)
    refine anyM_all (r:=[4]) (by kernel_rfl) (by kernel_rfl) (fun i hi hil=>?_)
    simp only[List.mem_cons,List.not_mem_nil,or_false]at hi
    subst hi
    refine opm_k rfl rfl (fun d K' hK'=>?_)
    go_simp
    refine hK' _ _ ⟨⟨⟨0,grew_alloc hU (hs.at d).top _⟩,fun e he=>by(have hm:=mem_listed he;simp[go_sem,hn64]at hm)⟩,(hs.at d).alloc _,?_⟩
    clear hK' K'
    rw[alloc_at']
    refine anyM_at hS hZ _ _ _ _ ?_ d
    replace hs:=hs.alloc (.cells #[.chan (some (w.heap.size+1)),.slice none 0 0,.slice (some ⟨w.heap.size,0,none⟩) n n] 172)
    refine anyM_end (by kernel_rfl) ?_ _
    (refine oW fun dd K hK=>?_;go_simp;refine qS hK hU ?_;clear hK K)
    refine ogE ?_
    refine h _ (w.heap.size+1+1) (w.heap.size+1+1+1) (w.heap.size+1) (w.heap.size) _ (set3_of (four_size w _ _ _ _) (four_old w _ _ _ _) (four2 w _ _ _ _) (four3 w _ _ _ _) (four1 w _ _ _ _) (four0 w _ _ _ _) (by omega) (by omega) (by omega) (by omega) (by omega) (by omega) (by omega)) ⟨rfl,rfl,rfl,rfl,rfl,rfl,rfl,rfl,rfl,trivial⟩
  ·refine opm_k rfl rfl (fun d K' hK'=>?_)
   go_simp
   refine hK' _ _ ⟨⟨⟨0,grew_alloc hU (hs.at d).top _⟩,fun e he=>by(have hm:=mem_listed he;simp[go_sem,hn64]at hm)⟩,(hs.at d).alloc _,?_⟩
   clear hK' K'
   rw[alloc_at']
   refine anyM_at hS hZ _ _ _ _ ?_ d
   replace hs:=hs.alloc (.cells #[.pointer none] 168)
   refine anyM_all (r:=[0]) (by kernel_rfl) (by kernel_rfl) (fun i hi hil=>?_)
   simp only[List.mem_cons,List.not_mem_nil,or_false]at hi
   subst hi
   refine opm_k rfl rfl (fun d K' hK'=>?_)
   go_simp
   refine hK' _ _ ⟨⟨⟨0,grew_alloc hU (hs.at d).top _⟩,fun e he=>by(have hm:=mem_listed he;simp[go_sem,hn64]at hm)⟩,(hs.at d).alloc _,?_⟩
   clear hK' K'
   rw[alloc_at']
   refine anyM_at hS hZ _ _ _ _ ?_ d
   replace hs:=hs.alloc (.chan 0 #[] false 0 0 false)
   refine anyM_take hS hZ (i:=3) (v:=.agg #[.chan (some (w.heap.size+1+1)),.slice none 0 0,.slice (some ⟨w.heap.size,0,none⟩) n n]) hs rfl rfl (by kernel_rfl) (by kernel_rfl) (by kernel_rfl) (fun u hu=>.inl ⟨rfl,fun d=>⟨by simp[go_sem,execOp,Act.eval],fun e he=>by have hm:=mem_listed he;simp[go_sem,execOp,Act.eval]at hm⟩⟩) ?_
   walk_nrm
   refine anyM_all (r:=[4]) (by kernel_rfl) (by kernel_rfl) (fun i hi hil=>?_)
   simp only[List.mem_cons,List.not_mem_nil,or_false]at hi
   subst hi
   refine opm_k rfl rfl (fun d K' hK'=>?_)
   go_simp
   refine hK' _ _ ⟨⟨⟨0,grew_alloc hU (hs.at d).top _⟩,fun e he=>by(have hm:=mem_listed he;simp[go_sem,hn64]at hm)⟩,(hs.at d).alloc _,?_⟩
   clear hK' K'
   rw[alloc_at']
   refine anyM_at hS hZ _ _ _ _ ?_ d
   replace hs:=hs.alloc (.cells #[.chan (some (w.heap.size+1+1)),.slice none 0 0,.slice (some ⟨w.heap.size,0,none⟩) n n] 172)
   refine anyM_end (by kernel_rfl) ?_ _
   (refine oW fun dd K hK=>?_;go_simp;refine qS hK hU ?_;clear hK K)
   refine ogE ?_
   refine h _ (w.heap.size+1) (w.heap.size+1+1+1) (w.heap.size+1+1) (w.heap.size) _ (set3_of (four_size w _ _ _ _) (four_old w _ _ _ _) (four1 w _ _ _ _) (four3 w _ _ _ _) (four2 w _ _ _ _) (four0 w _ _ _ _) (by omega) (by omega) (by omega) (by omega) (by omega) (by omega) (by omega)) ⟨rfl,rfl,rfl,rfl,rfl,rfl,rfl,rfl,rfl,trivial⟩
 ·refine opm_k rfl rfl (fun d K' hK'=>?_)
  go_simp
  refine hK' _ _ ⟨⟨⟨0,grew_alloc hU (hs.at d).top _⟩,fun e he=>by(have hm:=mem_listed he;simp[go_sem,hn64]at hm)⟩,(hs.at d).alloc _,?_⟩
  clear hK' K'
  rw[alloc_at']
  refine anyM_at hS hZ _ _ _ _ ?_ d
  replace hs:=hs.alloc (.cells #[.pointer none] 168)
  refine anyM_all (r:=[0,2]) (by kernel_rfl) (by kernel_rfl) (fun i hi hil=>?_)
  simp only[List.mem_cons,List.not_mem_nil,or_false]at hi
  rcases hi with rfl|rfl
  ·refine opm_k rfl rfl (fun d K' hK'=>?_)
   go_simp
   refine hK' _ _ ⟨⟨⟨0,grew_alloc hU (hs.at d).top _⟩,fun e he=>by(have hm:=mem_listed he;simp[go_sem,hn64]at hm)⟩,(hs.at d).alloc _,?_⟩
   clear hK' K'
   rw[alloc_at']
   refine anyM_at hS hZ _ _ _ _ ?_ d
   replace hs:=hs.alloc (.chan 0 #[] false 0 0 false)
   refine anyM_all (r:=[2]) (by kernel_rfl) (by kernel_rfl) (fun i hi hil=>?_)
   simp only[List.mem_cons,List.not_mem_nil,or_false]at hi
   subst hi
   refine opm_k rfl rfl (fun d K' hK'=>?_)
   go_simp
   refine hK' _ _ ⟨⟨⟨0,grew_alloc hU (hs.at d).top _⟩,fun e he=>by(have hm:=mem_listed he;simp[go_sem,hn64]at hm)⟩,(hs.at d).alloc _,?_⟩
   clear hK' K'
   rw[alloc_at']
   refine anyM_at hS hZ _ _ _ _ ?_ d
   replace hs:=hs.alloc (.cells (madeCells #[.bool false] n) 4)
   refine anyM_take hS hZ (i:=3) (v:=.agg #[.chan (some (w.heap.size+1)),.slice none 0 0,.slice (some ⟨w.heap.size+1+1,0,none⟩) n n]) hs rfl rfl (by kernel_rfl) (by kernel_rfl) (by kernel_rfl) (fun u hu=>.inl ⟨rfl,fun d=>⟨by simp[go_sem,execOp,Act.eval],fun e he=>by have hm:=mem_listed he;simp[go_sem,execOp,Act.eval]at hm⟩⟩) ?_
   walk_nrm
   refine anyM_all (r:=[4]) (by kernel_rfl) (by kernel_rfl) (fun i hi hil=>?_)
   simp only[List.mem_cons,List.not_mem_nil,or_false]at hi
   subst hi
   refine opm_k rfl rfl (fun d K' hK'=>?_)
   go_simp
   refine hK' _ _ ⟨⟨⟨0,grew_alloc hU (hs.at d).top _⟩,fun e he=>by(have hm:=mem_listed he;simp[go_sem,hn64]at hm)⟩,(hs.at d).alloc _,?_⟩
   clear hK' K'
   rw[alloc_at']
   refine anyM_at hS hZ _ _ _ _ ?_ d
   replace hs:=hs.alloc (.cells #[.chan (some (w.heap.size+1)),.slice none 0 0,.slice (some ⟨w.heap.size+1+1,0,none⟩) n n] 172)
   refine anyM_end (by kernel_rfl) ?_ _
   (refine oW fun dd K hK=>?_;go_simp;refine qS hK hU ?_;clear hK K)
   refine ogE ?_
   refine h _ (w.heap.size) (w.heap.size+1+1+1) (w.heap.size+1) (w.heap.size+1+1) _ (set3_of (four_size w _ _ _ _) (four_old w _ _ _ _) (four0 w _ _ _ _) (four3 w _ _ _ _) (four1 w _ _ _ _) (four2 w _ _ _ _) (by omega) (by omega) (by omega) (by omega) (by omega) (by omega) (by omega)) ⟨rfl,rfl,rfl,rfl,rfl,rfl,rfl,rfl,rfl,trivial⟩
  ·refine opm_k rfl rfl (fun d K' hK'=>?_)
   go_simp
   refine hK' _ _ ⟨⟨⟨0,grew_alloc hU (hs.at d).top _⟩,fun e he=>by(have hm:=mem_listed he;simp[go_sem,hn64]at hm)⟩,(hs.at d).alloc _,?_⟩
   clear hK' K'
   rw[alloc_at']
   refine anyM_at hS hZ _ _ _ _ ?_ d
   replace hs:=hs.alloc (.cells (madeCells #[.bool false] n) 4)
   refine anyM_all (r:=[0]) (by kernel_rfl) (by kernel_rfl) (fun i hi hil=>?_)
   simp only[List.mem_cons,List.not_mem_nil,or_false]at hi
   subst hi
   refine opm_k rfl rfl (fun d K' hK'=>?_)
   go_simp
   refine hK' _ _ ⟨⟨⟨0,grew_alloc hU (hs.at d).top _⟩,fun e he=>by(have hm:=mem_listed he;simp[go_sem,hn64]at hm)⟩,(hs.at d).alloc _,?_⟩
   clear hK' K'
   rw[alloc_at']
   refine anyM_at hS hZ _ _ _ _ ?_ d
   replace hs:=hs.alloc (.chan 0 #[] false 0 0 false)
   refine anyM_take hS hZ (i:=3) (v:=.agg #[.chan (some (w.heap.size+1+1)),.slice none 0 0,.slice (some ⟨w.heap.size+1,0,none⟩) n n]) hs rfl rfl (by kernel_rfl) (by kernel_rfl) (by kernel_rfl) (fun u hu=>.inl ⟨rfl,fun d=>⟨by simp[go_sem,execOp,Act.eval],fun e he=>by have hm:=mem_listed he;simp[go_sem,execOp,Act.eval]at hm⟩⟩) ?_
   walk_nrm
   refine anyM_all (r:=[4]) (by kernel_rfl) (by kernel_rfl) (fun i hi hil=>?_)
   simp only[List.mem_cons,List.not_mem_nil,or_false]at hi
   subst hi
   refine opm_k rfl rfl (fun d K' hK'=>?_)
   go_simp
   refine hK' _ _ ⟨⟨⟨0,grew_alloc hU (hs.at d).top _⟩,fun e he=>by(have hm:=mem_listed he;simp[go_sem,hn64]at hm)⟩,(hs.at d).alloc _,?_⟩
   clear hK' K'
   rw[alloc_at']
   refine anyM_at hS hZ _ _ _ _ ?_ d
   replace hs:=hs.alloc (.cells #[.chan (some (w.heap.size+1+1)),.slice none 0 0,.slice (some ⟨w.heap.size+1,0,none⟩) n n] 172)
   refine anyM_end (by kernel_rfl) ?_ _
   (refine oW fun dd K hK=>?_;go_simp;refine qS hK hU ?_;clear hK K)
   refine ogE ?_
   refine h _ (w.heap.size) (w.heap.size+1+1+1) (w.heap.size+1+1) (w.heap.size+1) _ (set3_of (four_size w _ _ _ _) (four_old w _ _ _ _) (four0 w _ _ _ _) (four3 w _ _ _ _) (four2 w _ _ _ _) (four1 w _ _ _ _) (by omega) (by omega) (by omega) (by omega) (by omega) (by omega) (by omega)) ⟨rfl,rfl,rfl,rfl,rfl,rfl,rfl,rfl,rfl,trivial⟩
end
section
variable{P:Program}{F:Fz}{w w':World}
theorem Wf.of_grew{j:Nat}(h:Wf F w)(hg:Grew F w w' j):Wf F w':=by
 constructor
 intro r z hz
 obtain⟨c,e,z0,h1,h2⟩:=h.own r z hz
 rcases hg.objs r _ h1 with⟨c1,e1,z1,c',h3,h4,_⟩|h3
 ·cases h3;exact⟨c',e,z0,h4,h2⟩
 ·exact⟨c,e,z0,h3,h2⟩
theorem opm_lift{S':FuncId→Bool}{px:Bool}(hC:Closed P S' px)(hF:px=true→∀r,F r=none){fn:FuncId}{ops:Array Oper}{i:Nat}{o:Oper}{K:Act→World→Prop}{a:Act}(ho:ops[i]? =some o)(hok:opOk P S' px o.op=true)
 (hw:Region.wanted o (yielded ops a.tmps)=true) (hwf:Wf F w)
 (h:∀d,∃v u,(execOp a.eval o).run P (mask F (w.at d))= .ok (.value v) u∧∀w',u=mask F w'→(∃j,Grew F (w.at d) w' j)→Wf F w'→K (a.put o.dst v) w'):OpM P F fn ops i K a w:=by
 refine⟨o,ho,.inl ⟨hw,fun d=>?_⟩⟩
 obtain⟨v,u,hr,hk⟩:=h d
 have hs:=execOp_sims hC hF a.eval (fun v=>rfl) (fun f=>rfl) o hok (w.at d) ⟨hwf.own⟩
 unfold SimAt at hs
 rw[hr]at hs
 obtain⟨w',es,j,hu,hrun,hev,het,hg,hwf',_⟩:=hs
 rw[hrun]
 refine⟨⟨⟨j,hg⟩,fun e he=>?_⟩,hk w' hu ⟨j,hg⟩ hwf'⟩
 have hm:=mem_listed he
 rw[hev]at hm
 exact het e (by simpa using hm)
theorem run_append_op{o:Oper}{a:Act}{v xv v':Value}{u:World}(s x:Operand)(t:TypeId)
 (ho:o.op= .call {callee:=.builtin .append,args:= #[s,x],argTypes:= #[t,t]}) (hs:a.eval s=v) (hx:a.eval x=xv)
 (hr:(Builtin.append_ #[t,t] o.type #[v,xv]).run P w= .ok v' u):(execOp a.eval o).run P w= .ok (.value v') u:=by
 unfold execOp
 simp only[ho,resolve,invoke,builtin,Sem.run_bind,Sem.run_pure,Result.andThen_ok,List.map_toArray,List.map_cons,List.map_nil,hs,hx,hr]
theorem info173:∃i,Try.prog.info? 173=some i∧i.zero=some (.pointer none)∧i.size=1∧i.bytes=8:=by
 have h:(Try.prog.info? 173).map (fun i=>(i.size,i.bytes))=some (1,8):=by kernel_rfl
 have h0:(Try.prog.info? 173).bind (·.zero)=some (.pointer none):=by kernel_rfl
 obtain⟨i,hi,h1⟩:=Option.map_eq_some_iff.1 h
 rw[hi]at h0
 simp only[Prod.mk.injEq]at h1
 exact⟨i,hi,h0,h1.1,h1.2⟩
theorem slice_form2{base n size:Nat}{e:TypeId}{v:Value}{xs:List Value}(h:w.ownsRow base e size v (n+1) xs):∃b cap cur,v= .slice (some ⟨b,0,none⟩) (n+1) cap∧base≤b∧w.heap[b]? =some (.cells cur e (0,0)):=by
 rcases h.2 with⟨_,h⟩|⟨b,cap,cur,h1,h2,h3,_⟩
 ·omega
 ·exact⟨b,cap,cur,h1,h2,h3⟩
theorem own_chan{base n size b cap k l:Nat}{e:TypeId}{v:Value}{xs:List Value}{buf:Array Value}{cl tm:Bool}(h:w.ownsRow base e size v n xs)(hc:w.heap[b]? =some (.chan cap buf cl k l tm)):some b≠Value.ownBlock v:=by
 rcases h.2 with⟨rfl,_⟩|⟨g,cap,cur,rfl,_,h3,_⟩
 ·simp[Value.ownBlock]
 ·intro h4
  simp only[Value.ownBlock,Option.some.injEq]at h4
  subst h4
  rw[hc]at h3
  cases h3
structure ST(F:Fz)(nn n tv tb bk br:Nat)(slv:Value)(u:World):Prop where
 top:nn≤u.heap.size
 wf:Wf F u
 tvc:u.heap[tv]? =some (.cells #[.pointer (some ⟨tb,0,none⟩)] 168)
 tbc:u.heap[tb]? =some (.cells #[.chan (some bk),slv,.slice (some ⟨br,0,none⟩) n n] 172)
section
variable{nn n tv tb bk br:Nat}{slv:Value}{u:World}
theorem ST.at(h:ST F nn n tv tb bk br slv u)(d:Nat):ST F nn n tv tb bk br slv (u.at d):=⟨h.top,⟨h.wf.own⟩,h.tvc,h.tbc⟩
theorem ST.alloc(hU:Under F nn)(h:ST F nn n tv tb bk br slv u)(o:Obj):ST F nn n tv tb bk br slv (u.alloc o):=
 ⟨by have:=h.top;simp;omega,h.wf.of_grew (grew_alloc hU h.top o),(heap_alloc_lt _ _ (Array.getElem?_eq_some_iff.1 h.tvc).1).trans h.tvc,(heap_alloc_lt _ _ (Array.getElem?_eq_some_iff.1 h.tbc).1).trans h.tbc⟩
theorem ST.c1(h:ST F nn n tv tb bk br slv u):u.cell? ⟨tv,0,none⟩=some (.pointer (some ⟨tb,0,none⟩)):=by simp[World.cell?,h.tvc]
theorem ST.z1(h:ST F nn n tv tb bk br slv u):u.frozen? ⟨tv,0,none⟩=false:=by simp[World.frozen?,h.tvc]
theorem ST.c2(h:ST F nn n tv tb bk br slv u):u.cell? ⟨tb,1,none⟩=some slv:=by simp[World.cell?,h.tbc]
theorem ST.z2(h:ST F nn n tv tb bk br slv u):u.frozen? ⟨tb,1,none⟩=false:=by simp[World.frozen?,h.tbc]
end
structure Stood(F:Fz)(nn n tv tb bk br i:Nat)(slv:Value)(xs:List Value)(w w':World)(v':Value)(p q:Nat):Prop where
 st:ST F nn n tv tb bk br v' w'
 row:w'.ownsRow nn 173 1 v' (i+1) (xs++[.pointer (some ⟨q,0,none⟩)])
 pc:w'.heap[p]? =some (.chan 0 #[] false 0 0 false)
 qc:w'.heap[q]? =some (.cells #[.pointer (some ⟨tb,0,none⟩),.chan (some p),.bool false] 176)
 pl:p=w.heap.size
 ql:q=w.heap.size+1
 size:w.heap.size+2≤w'.heap.size
 old:∀r,nn≤r→r<w.heap.size→r≠tb→some r≠Value.ownBlock slv→w'.heap[r]? =w.heap[r]?
theorem ov_s6{nn n tv tb bk br i mo od nb:Nat}{slv thr sch:Value}{xs:List Value}(hU:Under F nn)(hs:ST F nn n tv tb bk br slv w)(hrow:w.ownsRow nn 173 1 slv i xs)(hi64:i<64)(hlow:nn≤tv∧nn≤tb){A:Array Value}(hA:Slots 129 A [(0,thr),(1,sch),(5,.pointer (some ⟨mo,0,none⟩)),(6,.pointer (some ⟨od,0,none⟩)),(7,.bool false),(8,.slice none 0 0),(9,.pointer (some ⟨nb,0,none⟩)),(10,.pointer (some ⟨tv,0,none⟩)),(29,.int .i64 n),(30,.int .i64 i)]){cs:List Frame}{main:Bool}{Stop:Goroutine→World→Prop}{k:List Item}
 (h:∀(w':World) (v':Value) (p q:Nat) (A:Array Value),Stood F nn n tv tb bk br i slv xs w w' v' p q→Slots 129 A [(0,thr),(1,sch),(5,.pointer (some ⟨mo,0,none⟩)),(6,.pointer (some ⟨od,0,none⟩)),(7,.bool false),(8,.slice none 0 0),(9,.pointer (some ⟨nb,0,none⟩)),(10,.pointer (some ⟨tv,0,none⟩)),(29,.int .i64 n),(30,.int .i64 i)]→Own Try.prog main F Stop (G ((Go.Conc.base 82).at ⟨A,[]⟩ k) cs) w'):
 Own Try.prog main F Stop (G ((Go.Conc.base 82).at ⟨A,[]⟩ (.code ovr6::k)) cs) w:=by
 obtain⟨hsz,h0,h1,h5,h6,h7,h8,h9,h10,h29,h30,_⟩:=hA
 obtain⟨s,rfl⟩:=ovT_of hsz
 change s 0=_ at h0
 change s 1=_ at h1
 change s 5=_ at h5
 change s 6=_ at h6
 change s 7=_ at h7
 change s 8=_ at h8
 change s 9=_ at h9
 change s 10=_ at h10
 change s 29=_ at h29
 change s 30=_ at h30
 clear hsz
 simp only[ovT,h0,h1,h5,h6,h7,h8,h9,h10,h29,h30]
 clear h0 h1 h5 h6 h7 h8 h9 h10 h29 h30
 have hS:∀u d,ST F nn n tv tb bk br slv u→ST F nn n tv tb bk br slv (World.at u d):=fun u d h=>h.at d
 have htop:=hs.top
 rw[ovr6']
 refine own_drawnM (ST F nn n tv tb bk br slv) (last:=13) run_mixed (ll_of (by kernel_rfl)) (by decide) ?_
 simp only[ovr6,ovBody,Try.f82,zz,Nat.reduceAdd]
 have hZ:∀a u d,Own Try.prog main F Stop (G ((Go.Conc.base 82).at a (.inRegion (oC ovr6) [13]::k)) cs) u→Own Try.prog main F Stop (G ((Go.Conc.base 82).at a (.inRegion (oC ovr6) [13]::k)) cs) (World.at u d):=fun a u d h=>h.at d
 simp only[ovr6,ovBody,Try.f82,zz,Nat.reduceAdd]at hZ
 refine anyM_take hS hZ (i:=0) (v:=.pointer (some ⟨tb,0,none⟩)) hs rfl rfl (by kernel_rfl) (by kernel_rfl) (by kernel_rfl) (fun u hu=>.inl ⟨rfl,fun d=>⟨by simp[go_sem,execOp,Act.eval,hu.c1,hu.z1],fun e he=>by have hm:=mem_listed he;simp[go_sem,execOp,Act.eval,hu.c1,hu.z1]at hm;subst hm;exact evT_read _ _⟩⟩) ?_
 walk_nrm
 refine anyM_take hS hZ (i:=1) (v:=.pointer (some ⟨tb,0,none⟩)) hs rfl rfl (by kernel_rfl) (by kernel_rfl) (by kernel_rfl) (fun u hu=>.inl ⟨rfl,fun d=>⟨by simp[go_sem,execOp,Act.eval,hu.c1,hu.z1],fun e he=>by have hm:=mem_listed he;simp[go_sem,execOp,Act.eval,hu.c1,hu.z1]at hm;subst hm;exact evT_read _ _⟩⟩) ?_
 walk_nrm
 refine anyM_take hS hZ (i:=2) (v:=.pointer (some ⟨tb,0,none⟩)) hs rfl rfl (by kernel_rfl) (by kernel_rfl) (by kernel_rfl) (fun u hu=>.inl ⟨rfl,fun d=>⟨by simp[go_sem,execOp,Act.eval],fun e he=>by have hm:=mem_listed he;simp[go_sem,execOp,Act.eval]at hm⟩⟩) ?_
 walk_nrm
 refine anyM_take hS hZ (i:=3) (v:=.pointer (some ⟨tb,1,none⟩)) hs rfl rfl (by kernel_rfl) (by kernel_rfl) (by kernel_rfl) (fun u hu=>.inl ⟨rfl,fun d=>⟨by simp[go_sem,execOp,Act.eval],fun e he=>by have hm:=mem_listed he;simp[go_sem,execOp,Act.eval]at hm⟩⟩) ?_
 walk_nrm
 refine anyM_take hS hZ (i:=4) (v:=slv) hs rfl rfl (by kernel_rfl) (by kernel_rfl) (by kernel_rfl) (fun u hu=>.inl ⟨rfl,fun d=>⟨by simp[go_sem,execOp,Act.eval,hu.c2,hu.z2],fun e he=>by have hm:=mem_listed he;simp[go_sem,execOp,Act.eval,hu.c2,hu.z2]at hm;subst hm;exact evT_read _ _⟩⟩) ?_
 walk_nrm
 refine anyM_take hS hZ (i:=5) (v:=.pointer (some ⟨tb,0,none⟩)) hs rfl rfl (by kernel_rfl) (by kernel_rfl) (by kernel_rfl) (fun u hu=>.inl ⟨rfl,fun d=>⟨by simp[go_sem,execOp,Act.eval,hu.c1,hu.z1],fun e he=>by have hm:=mem_listed he;simp[go_sem,execOp,Act.eval,hu.c1,hu.z1]at hm;subst hm;exact evT_read _ _⟩⟩) ?_
 walk_nrm
 refine anyM_all (r:=[6]) (by kernel_rfl) (by kernel_rfl) (fun i hi hil=>?_)
 simp only[List.mem_cons,List.not_mem_nil,or_false]at hi
 subst hi
 refine opm_k rfl rfl (fun d K' hK'=>?_)
 go_simp
 refine hK' _ _ ⟨⟨⟨0,grew_alloc hU (hs.at d).top _⟩,fun e he=>by(have hm:=mem_listed he;simp[go_sem]at hm)⟩,(hs.at d).alloc hU _,?_⟩
 clear hK' K'
 rw[alloc_at']
 refine anyM_at hS hZ _ _ _ _ ?_ d
 replace hs:=hs.alloc hU (.chan 0 #[] false 0 0 false)
 refine anyM_take hS hZ (i:=7) (v:=.agg #[.pointer (some ⟨tb,0,none⟩),.chan (some w.heap.size),.bool false]) hs rfl rfl (by kernel_rfl) (by kernel_rfl) (by kernel_rfl) (fun u hu=>.inl ⟨rfl,fun d=>⟨by simp[go_sem,execOp,Act.eval],fun e he=>by have hm:=mem_listed he;simp[go_sem,execOp,Act.eval]at hm⟩⟩) ?_
 walk_nrm
 refine anyM_all (r:=[8]) (by kernel_rfl) (by kernel_rfl) (fun i hi hil=>?_)
 simp only[List.mem_cons,List.not_mem_nil,or_false]at hi
 subst hi
 refine opm_k rfl rfl (fun d K' hK'=>?_)
 go_simp
 refine hK' _ _ ⟨⟨⟨0,grew_alloc hU (hs.at d).top _⟩,fun e he=>by(have hm:=mem_listed he;simp[go_sem]at hm)⟩,(hs.at d).alloc hU _,?_⟩
 clear hK' K'
 rw[alloc_at']
 refine anyM_at hS hZ _ _ _ _ ?_ d
 replace hs:=hs.alloc hU (.cells #[.pointer (some ⟨tb,0,none⟩),.chan (some w.heap.size),.bool false] 176)
 refine anyM_all (r:=[9]) (by kernel_rfl) (by kernel_rfl) (fun i hi hil=>?_)
 simp only[List.mem_cons,List.not_mem_nil,or_false]at hi
 subst hi
 refine opm_k rfl rfl (fun d K' hK'=>?_)
 go_simp
 refine hK' _ _ ⟨⟨⟨0,grew_alloc hU (hs.at d).top _⟩,fun e he=>by(have hm:=mem_listed he;simp[go_sem]at hm)⟩,(hs.at d).alloc hU _,?_⟩
 clear hK' K'
 rw[alloc_at']
 refine anyM_at hS hZ _ _ _ _ ?_ d
 replace hs:=hs.alloc hU (.cells #[.pointer (some ⟨w.heap.size+1,0,none⟩)] 173)
 refine anyM_all (r:=[10]) (by kernel_rfl) (by kernel_rfl) (fun i hi hil=>?_)
 simp only[List.mem_cons,List.not_mem_nil,or_false]at hi
 subst hi
 obtain⟨i0,hi0,hz0,hz1,hz2⟩:=info173
 have hFn:∀b,nn≤b→F b=none:=fun b hb=>by
  cases e:F b with
  | none=>rfl
  | some z=>exact absurd (hU b z e) (by omega)
 have hown4:∀b,Value.ownBlock slv=some b→nn≤b→b<w.heap.size:=fun b hb _=>(hrow.lt b hb).2
 have hW4:∀r,r<w.heap.size→(((w.alloc (.chan 0 #[] false 0 0 false)).alloc (.cells #[.pointer (some ⟨tb,0,none⟩),.chan (some w.heap.size),.bool false] 176)).alloc (.cells #[.pointer (some ⟨w.heap.size+1,0,none⟩)] 173)).heap[r]? =w.heap[r]?:=fun r hr=>by
  rw[heap_alloc_lt _ _ (by simp;omega),heap_alloc_lt _ _ (by simp;omega),heap_alloc_lt _ _ hr]
 have hp4:(((w.alloc (.chan 0 #[] false 0 0 false)).alloc (.cells #[.pointer (some ⟨tb,0,none⟩),.chan (some w.heap.size),.bool false] 176)).alloc (.cells #[.pointer (some ⟨w.heap.size+1,0,none⟩)] 173)).heap[w.heap.size]? =some (.chan 0 #[] false 0 0 false):=by
  rw[heap_alloc_lt _ _ (by simp;omega),heap_alloc_lt _ _ (by simp)]
  exact heap_alloc_new _ _
 have hq4:(((w.alloc (.chan 0 #[] false 0 0 false)).alloc (.cells #[.pointer (some ⟨tb,0,none⟩),.chan (some w.heap.size),.bool false] 176)).alloc (.cells #[.pointer (some ⟨w.heap.size+1,0,none⟩)] 173)).heap[w.heap.size+1]? =some (.cells #[.pointer (some ⟨tb,0,none⟩),.chan (some w.heap.size),.bool false] 176):=by
  rw[heap_alloc_lt _ _ (by simp)]
  have:=heap_alloc_new (w.alloc (.chan 0 #[] false 0 0 false)) (.cells #[.pointer (some ⟨tb,0,none⟩),.chan (some w.heap.size),.bool false] 176)
  simpa using this
 have hn4:=cell_one_new ((w.alloc (.chan 0 #[] false 0 0 false)).alloc (.cells #[.pointer (some ⟨tb,0,none⟩),.chan (some w.heap.size),.bool false] 176)) (.pointer (some ⟨w.heap.size+1,0,none⟩)) 173
 have hsz4:(((w.alloc (.chan 0 #[] false 0 0 false)).alloc (.cells #[.pointer (some ⟨tb,0,none⟩),.chan (some w.heap.size),.bool false] 176)).alloc (.cells #[.pointer (some ⟨w.heap.size+1,0,none⟩)] 173)).heap.size=w.heap.size+3:=by simp
 have hz4:((w.alloc (.chan 0 #[] false 0 0 false)).alloc (.cells #[.pointer (some ⟨tb,0,none⟩),.chan (some w.heap.size),.bool false] 176)).heap.size=w.heap.size+1+1:=by simp
 rw[hz4]at hn4
 clear hz4
 generalize ((w.alloc (.chan 0 #[] false 0 0 false)).alloc (.cells #[.pointer (some ⟨tb,0,none⟩),.chan (some w.heap.size),.bool false] 176)).alloc (.cells #[.pointer (some ⟨w.heap.size+1,0,none⟩)] 173)=W4 at*
 refine opm_lift (S':=fun _=>false) (px:=false) (ready0.shut false) (by simp) rfl rfl rfl hs.wf (fun d=>?_)
 have hrowm:(mask F (W4.at d)).ownsRow nn 173 1 slv i xs:=ownsRow_same2 hrow fun b hb hbn=>by
  rw[mask_at_none (hFn b hbn)]
  exact hW4 b (hown4 b hb hbn)
 obtain⟨v',u,hr,hown,hgrow,_⟩:=run_append_own (P:=Try.prog) (mask F (W4.at d)) nn 170 170 173 i0 (.pointer none) 1 8 Try.underlying170 hi0 hz0 hz1 hz2 rfl (by decide) slv i xs hrowm ⟨w.heap.size+1+1,0,none⟩ 1 1 [.pointer (some ⟨w.heap.size+1,0,none⟩)] rfl
  (fun j u hu=>(mask_at_cell _).trans (hn4 j u hu)) (fun x hx=>by simp at hx;subst hx;rfl) (by unfold maxLen;omega) (by omega) (by rw[mask_size];show nn≤W4.heap.size;omega)
 refine⟨v',u,run_append_op (.tmp 36) (.tmp 41) 170 rfl rfl rfl hr,fun w' hu hg hwf'=>?_⟩
 subst hu
 have hkeep:∀r,nn≤r→r<w.heap.size+3→some r≠Value.ownBlock slv→w'.heap[r]? =W4.heap[r]?:=fun r h1 h2 h3=>by
  have:=hgrow.block r (by rw[mask_size];show r<W4.heap.size;omega) h3
  rw[mask_at_none (hFn r h1),mask_at_none (hFn r h1)]at this
  exact this
 have htvl:=(Array.getElem?_eq_some_iff.1 hs.tvc).1
 have ntv:=own_type hrowm ((mask_at_none (hFn tv hlow.1)).trans (show(W4.at d).heap[tv]? =_ from hs.tvc)) (by decide)
 have ntb:=own_type hrowm ((mask_at_none (hFn tb hlow.2)).trans (show(W4.at d).heap[tb]? =_ from hs.tbc)) (by decide)
 have np:=own_chan hrowm ((mask_at_none (hFn w.heap.size htop)).trans (show(W4.at d).heap[w.heap.size]? =_ from hp4))
 have nq:=own_type hrowm ((mask_at_none (hFn (w.heap.size+1) (by omega))).trans (show(W4.at d).heap[w.heap.size+1]? =_ from hq4)) (by decide)
 have hsize:w.heap.size+3≤w'.heap.size:=by
  have:=hgrow.size
  rw[mask_size,mask_size]at this
  have h2:(W4.at d).heap.size=w.heap.size+3:=hsz4
  omega
 have htv4:=(Array.getElem?_eq_some_iff.1 hs.tvc).1
 have htb4:=(Array.getElem?_eq_some_iff.1 hs.tbc).1
 have hst':ST F nn n tv tb bk br slv w':=⟨by omega,hwf',(hkeep tv hlow.1 (by omega) ntv).trans hs.tvc,(hkeep tb hlow.2 (by omega) ntb).trans hs.tbc⟩
 obtain⟨b1,cap1,cur1,rfl,hb1,hb2⟩:=slice_form2 hown
 have hb3:w'.heap[b1]? =some (.cells cur1 173 (0,0)):=by rw[mask_at_none (hFn b1 hb1)]at hb2;exact hb2
 have hrow':w'.ownsRow nn 173 1 (.slice (some ⟨b1,0,none⟩) (i+1) cap1) (i+1) (xs++[.pointer (some ⟨w.heap.size+1,0,none⟩)]):=ownsRow_same2 hown fun b hb hbn=>(mask_at_none (hFn b hbn)).symm
 have nb1:b1≠tb:=by
  rintro rfl
  rw[hst'.tbc]at hb3
  cases hb3
 have htt:tv≠tb:=by
  rintro rfl
  have:=hst'.tbc
  rw[hst'.tvc]at this
  cases this
 refine⟨hst',?_⟩
 clear hs
 have hs:=hst'
 walk_nrm
 refine anyM_take hS hZ (i:=11) (v:=.pointer (some ⟨tb,0,none⟩)) hs rfl rfl (by kernel_rfl) (by kernel_rfl) (by kernel_rfl) (fun u hu=>.inl ⟨rfl,fun d=>⟨by simp[go_sem,execOp,Act.eval],fun e he=>by have hm:=mem_listed he;simp[go_sem,execOp,Act.eval]at hm⟩⟩) ?_
 walk_nrm
 refine anyM_take hS hZ (i:=12) (v:=.pointer (some ⟨tb,1,none⟩)) hs rfl rfl (by kernel_rfl) (by kernel_rfl) (by kernel_rfl) (fun u hu=>.inl ⟨rfl,fun d=>⟨by simp[go_sem,execOp,Act.eval],fun e he=>by have hm:=mem_listed he;simp[go_sem,execOp,Act.eval]at hm⟩⟩) ?_
 walk_nrm
 refine anyM_end (by kernel_rfl) ?_ _
 have ctb:=hst'.c2
 have ztb:=hst'.z2
 have htb1:=hlow.2
 have hnh:¬held F ⟨tb,1,none⟩:=not_held hU htb1
 clear hZ hS hn4 hr hown hgrow hrowm
 (refine oW fun dd K hK=>?_;go_simp;refine hK _ _ ⟨⟨⟨0,grew_setCell rfl hnh _⟩,fun e he=>by(have hm:=mem_listed he;clear he hK;simp[go_sem,storedEv,ctb,ztb]at hm;subst hm;exact evT_write _ _ hnh)⟩,?_⟩;clear hK K;rw[setCell_at'];refine Own.at ?_ dd)
 refine ogE ?_
 refine h _ (.slice (some ⟨b1,0,none⟩) (i+1) cap1) (w.heap.size) (w.heap.size+1) _ ?_ ⟨rfl,rfl,rfl,rfl,rfl,rfl,rfl,rfl,rfl,rfl,rfl,trivial⟩
 refine⟨⟨by simp;omega,hwf'.of_grew (grew_setCell rfl (not_held hU hlow.2) _),(heap_setCell_ne _ _ _ htt).trans hst'.tvc,by simp[World.setCell,Array.getElem?_modify,hst'.tbc]⟩,ownsRow_same2 hrow' fun b hb _=>heap_setCell_ne _ _ _ (by simp only[Value.ownBlock,Option.some.injEq]at hb;subst hb;exact nb1),?_,?_,rfl,rfl,by simp;omega,fun r h1 h2 h3 h4=>?_⟩
 ·refine(heap_setCell_ne _ _ _ ?_).trans ((hkeep _ htop (by omega) np).trans hp4)
  rintro rfl
  have:=hst'.tbc
  rw[hkeep _ htop (by omega) np,hp4]at this
  cases this
 ·refine(heap_setCell_ne _ _ _ ?_).trans ((hkeep _ (by omega) (by omega) nq).trans hq4)
  intro e
  simp only at e
  have:=hst'.tbc
  rw[← e,hkeep _ (by omega) (by omega) nq,hq4]at this
  cases this
 ·rw[heap_setCell_ne _ _ _ h3,hkeep r h1 (by omega) h4,hW4 r h2]
end
section
variable{F:Fz}{w w':World}
theorem ov_w2{n mo od nb tv:Nat}{thr sch:Value}(hc:w.cell? ⟨nb,0,none⟩=some (.int .i64 n))(hz:w.frozen? ⟨nb,0,none⟩=false){A:Array Value}(hA:Slots 129 A [(0,thr),(1,sch),(5,.pointer (some ⟨mo,0,none⟩)),(6,.pointer (some ⟨od,0,none⟩)),(7,.bool false),(8,.slice none 0 0),(9,.pointer (some ⟨nb,0,none⟩)),(10,.pointer (some ⟨tv,0,none⟩))]){cs:List Frame}{main:Bool}{Stop:Goroutine→World→Prop}
 (h:∀A,Slots 129 A [(0,thr),(1,sch),(5,.pointer (some ⟨mo,0,none⟩)),(6,.pointer (some ⟨od,0,none⟩)),(7,.bool false),(8,.slice none 0 0),(9,.pointer (some ⟨nb,0,none⟩)),(10,.pointer (some ⟨tv,0,none⟩)),(29,.int .i64 n),(30,.int .i64 (0:Nat))]→Own Try.prog main F Stop (G ((Go.Conc.base 82).at ⟨A,[]⟩ [.code ovs7,.inLoop ovs7,.inBlock 0,.code ovs10]) cs) w):Own Try.prog main F Stop (G ((Go.Conc.base 82).at ⟨A,[]⟩ [.code ovs4]) cs) w:=by
 obtain⟨hsz,h0,h1,h5,h6,h7,h8,h9,h10,_⟩:=hA
 obtain⟨s,rfl⟩:=ovT_of hsz
 change s 0=_ at h0
 change s 1=_ at h1
 change s 5=_ at h5
 change s 6=_ at h6
 change s 7=_ at h7
 change s 8=_ at h8
 change s 9=_ at h9
 change s 10=_ at h10
 clear hsz
 simp only[ovT,h0,h1,h5,h6,h7,h8,h9,h10]
 clear h0 h1 h5 h6 h7 h8 h9 h10
 refine ogSE ovs4' ?_
 refine ogSR ovs5' ovr4' ?_
 simp only[ovr4,ovBody,Try.f82,zz,Nat.reduceAdd]
 (refine oW fun dd K hK=>?_;go_simp;refine qL hK ?_;clear hK K)
 (refine oW fun dd K hK=>?_;go_simp;refine qT hK ?_;clear hK K)
 refine ogE ?_
 rw[ovb0']
 refine ogB ?_
 rw[ovl6']
 refine ogP ?_
 refine h _ ?_
 exact⟨rfl,rfl,rfl,rfl,rfl,rfl,rfl,rfl,rfl,rfl,rfl,trivial⟩
theorem ov_w3{n mo od nb tv:Nat}{thr sch:Value}{i:Nat}(hi:i<n){A:Array Value}(hA:Slots 129 A [(0,thr),(1,sch),(5,.pointer (some ⟨mo,0,none⟩)),(6,.pointer (some ⟨od,0,none⟩)),(7,.bool false),(8,.slice none 0 0),(9,.pointer (some ⟨nb,0,none⟩)),(10,.pointer (some ⟨tv,0,none⟩)),(29,.int .i64 n),(30,.int .i64 i)]){cs:List Frame}{main:Bool}{Stop:Goroutine→World→Prop}
 (h:∀A,Slots 129 A [(0,thr),(1,sch),(5,.pointer (some ⟨mo,0,none⟩)),(6,.pointer (some ⟨od,0,none⟩)),(7,.bool false),(8,.slice none 0 0),(9,.pointer (some ⟨nb,0,none⟩)),(10,.pointer (some ⟨tv,0,none⟩)),(29,.int .i64 n),(30,.int .i64 i)]→Own Try.prog main F Stop (G ((Go.Conc.base 82).at ⟨A,[]⟩ [.code ovr6,.inBlock 1,.code ovr7,.inLoop ovs7,.inBlock 0,.code ovs10]) cs) w):Own Try.prog main F Stop (G ((Go.Conc.base 82).at ⟨A,[]⟩ [.code ovs7,.inLoop ovs7,.inBlock 0,.code ovs10]) cs) w:=by
 obtain⟨hsz,h0,h1,h5,h6,h7,h8,h9,h10,h29,h30,_⟩:=hA
 obtain⟨s,rfl⟩:=ovT_of hsz
 change s 0=_ at h0
 change s 1=_ at h1
 change s 5=_ at h5
 change s 6=_ at h6
 change s 7=_ at h7
 change s 8=_ at h8
 change s 9=_ at h9
 change s 10=_ at h10
 change s 29=_ at h29
 change s 30=_ at h30
 clear hsz
 simp only[ovT,h0,h1,h5,h6,h7,h8,h9,h10,h29,h30]
 clear h0 h1 h5 h6 h7 h8 h9 h10 h29 h30
 have hlt:decide ((i:Int)<(n:Int))=true:=by simp;omega
 have hlt2:decide (i<n)=true:=by simp;omega
 refine ogSR ovs7' ovr5' ?_
 simp only[ovr5,ovBody,Try.f82,zz,Nat.reduceAdd]
 (refine oW fun dd K hK=>?_;go_simp;refine qT hK ?_;clear hK K)
 refine ogE ?_
 refine ogSE ovs8' ?_
 rw[ovc31']
 refine ogT ?_
 simp only[if_true]
 refine ogK ?_
 refine ogSE ovs9' ?_
 rw[ovb1']
 refine ogB ?_
 refine h _ ?_
 exact⟨rfl,rfl,rfl,rfl,rfl,rfl,rfl,rfl,rfl,rfl,rfl,trivial⟩
theorem ov_w4{n mo od nb tv:Nat}{thr sch:Value}{i:Nat}(hi:i<100){A:Array Value}(hA:Slots 129 A [(0,thr),(1,sch),(5,.pointer (some ⟨mo,0,none⟩)),(6,.pointer (some ⟨od,0,none⟩)),(7,.bool false),(8,.slice none 0 0),(9,.pointer (some ⟨nb,0,none⟩)),(10,.pointer (some ⟨tv,0,none⟩)),(29,.int .i64 n),(30,.int .i64 i)]){cs:List Frame}{main:Bool}{Stop:Goroutine→World→Prop}
 (h:∀A,Slots 129 A [(0,thr),(1,sch),(5,.pointer (some ⟨mo,0,none⟩)),(6,.pointer (some ⟨od,0,none⟩)),(7,.bool false),(8,.slice none 0 0),(9,.pointer (some ⟨nb,0,none⟩)),(10,.pointer (some ⟨tv,0,none⟩)),(29,.int .i64 n),(30,.int .i64 (i+1:Nat))]→Own Try.prog main F Stop (G ((Go.Conc.base 82).at ⟨A,[]⟩ [.code ovs7,.inLoop ovs7,.inBlock 0,.code ovs10]) cs) w):Own Try.prog main F Stop (G ((Go.Conc.base 82).at ⟨A,[]⟩ [.inBlock 1,.code ovr7,.inLoop ovs7,.inBlock 0,.code ovs10]) cs) w:=by
 obtain⟨hsz,h0,h1,h5,h6,h7,h8,h9,h10,h29,h30,_⟩:=hA
 obtain⟨s,rfl⟩:=ovT_of hsz
 change s 0=_ at h0
 change s 1=_ at h1
 change s 5=_ at h5
 change s 6=_ at h6
 change s 7=_ at h7
 change s 8=_ at h8
 change s 9=_ at h9
 change s 10=_ at h10
 change s 29=_ at h29
 change s 30=_ at h30
 clear hsz
 simp only[ovT,h0,h1,h5,h6,h7,h8,h9,h10,h29,h30]
 clear h0 h1 h5 h6 h7 h8 h9 h10 h29 h30
 have hk64:IntKind.i64.wrap ((i:Int)+1)=(i:Int)+1:=IntWalk.i64_in _ (by omega)
 refine ogI ?_
 rw[ovr7']
 refine ogR ?_
 simp only[ovr7,ovBody,Try.f82,zz,Nat.reduceAdd]
 iterate 2 (refine oW fun dd K hK=>?_;go_simp;refine qT hK ?_;clear hK K)
 refine ogE ?_
 refine ogL ?_
 refine h _ ?_
 exact⟨rfl,rfl,rfl,rfl,rfl,rfl,rfl,rfl,rfl,rfl,rfl,trivial⟩
theorem ov_w5{nn:Nat}(hU:Under F nn)(hn:nn≤w.heap.size){n mo od nb tv:Nat}{thr sch:Value}(hb:nb<w.heap.size)(hc:w.cell? ⟨nb,0,none⟩=some (.int .i64 n))(hz:w.frozen? ⟨nb,0,none⟩=false){A:Array Value}(hA:Slots 129 A [(0,thr),(1,sch),(5,.pointer (some ⟨mo,0,none⟩)),(6,.pointer (some ⟨od,0,none⟩)),(7,.bool false),(8,.slice none 0 0),(9,.pointer (some ⟨nb,0,none⟩)),(10,.pointer (some ⟨tv,0,none⟩)),(29,.int .i64 n),(30,.int .i64 n)]){cs:List Frame}{main:Bool}{Stop:Goroutine→World→Prop}
 (h:∀A,Slots 129 A [(0,thr),(1,sch),(7,.bool false),(46,.int .i64 n),(47,.int .i64 (0:Nat)),(5,.pointer (some ⟨mo,0,none⟩)),(6,.pointer (some ⟨od,0,none⟩)),(8,.slice none 0 0),(9,.pointer (some ⟨nb,0,none⟩)),(10,.pointer (some ⟨tv,0,none⟩)),(11,.pointer (some ⟨w.heap.size,0,none⟩))]→Own Try.prog main F Stop (G ((Go.Conc.base 82).at ⟨A,[]⟩ [.code ovs14,.inLoop ovs14,.inBlock 2,.code ovs21]) cs) (w.alloc (.cells #[.int .i64 0] 3))):Own Try.prog main F Stop (G ((Go.Conc.base 82).at ⟨A,[]⟩ [.code ovs7,.inLoop ovs7,.inBlock 0,.code ovs10]) cs) w:=by
 obtain⟨hsz,h0,h1,h5,h6,h7,h8,h9,h10,h29,h30,_⟩:=hA
 obtain⟨s,rfl⟩:=ovT_of hsz
 change s 0=_ at h0
 change s 1=_ at h1
 change s 5=_ at h5
 change s 6=_ at h6
 change s 7=_ at h7
 change s 8=_ at h8
 change s 9=_ at h9
 change s 10=_ at h10
 change s 29=_ at h29
 change s 30=_ at h30
 clear hsz
 simp only[ovT,h0,h1,h5,h6,h7,h8,h9,h10,h29,h30]
 clear h0 h1 h5 h6 h7 h8 h9 h10 h29 h30
 have hlt:decide ((n:Int)<(n:Int))=false:=by simp
 have hc':=(cell_alloc w (.cells #[.int .i64 0] 3) ⟨nb,0,none⟩ hb).trans hc
 have hz':(w.alloc (.cells #[.int .i64 0] 3)).frozen? ⟨nb,0,none⟩=false:=by
  have:(w.alloc (.cells #[.int .i64 0] 3)).heap[nb]? =w.heap[nb]?:=heap_alloc_lt w _ hb
  unfold World.frozen?
  simp only[this]
  exact hz
 refine ogSR ovs7' ovr5' ?_
 simp only[ovr5,ovBody,Try.f82,zz,Nat.reduceAdd]
 (refine oW fun dd K hK=>?_;go_simp;refine qT hK ?_;clear hK K)
 refine ogE ?_
 refine ogSE ovs8' ?_
 rw[ovc31']
 refine ogF ?_
 simp only[Bool.false_eq_true,if_false]
 refine own_go rfl (fun d=>stepG_exit rfl) ?_
 refine ogSR ovs10' ovr8' ?_
 simp only[ovr8,ovBody,Try.f82,zz,Nat.reduceAdd]
 (refine oW fun dd K hK=>?_;go_simp;refine qA hK hU ?_;clear hK K)
 (refine oW fun dd K hK=>?_;go_simp;refine qS hK hU ?_;clear hK K)
 have e1:=set_new w (.int .i64 0) (.int .i64 0) 3
 rw[e1]
 clear e1
 refine ogE ?_
 refine ogSE ovs11' ?_
 refine ogSR ovs12' ovr9' ?_
 simp only[ovr9,ovBody,Try.f82,zz,Nat.reduceAdd]
 (refine oW fun dd K hK=>?_;go_simp;refine qL hK ?_;clear hK K)
 (refine oW fun dd K hK=>?_;go_simp;refine qT hK ?_;clear hK K)
 refine ogE ?_
 rw[ovb2']
 refine ogB ?_
 rw[ovl13']
 refine ogP ?_
 refine h _ ?_
 exact⟨rfl,rfl,rfl,rfl,rfl,rfl,rfl,rfl,rfl,rfl,rfl,rfl,trivial⟩
end
section
variable{F:Fz}{w w':World}{nn n tv tb bk br mo od nb M:Nat}{slv:Value}{sts:List (Nat×Nat)}
structure Stands(F:Fz)(nn n tv tb bk br mo od nb M:Nat)(slv:Value)(sts:List (Nat×Nat))(w:World):Prop where
 st:ST F nn n tv tb bk br slv w
 row:w.ownsRow nn 173 1 slv sts.length (sts.map fun s=>.pointer (some ⟨s.1,0,none⟩))
 mem:∀s∈sts,w.heap[s.1]? =some (.cells #[.pointer (some ⟨tb,0,none⟩),.chan (some s.2),.bool false] 176)∧w.heap[s.2]? =some (.chan 0 #[] false 0 0 false)∧nn≤s.1∧nn≤s.2
 nd1:(sts.map (·.1)).Nodup
 nd2:(sts.map (·.2)).Nodup
 bkc:w.heap[bk]? =some (.chan 0 #[] false 0 0 false)∧nn≤bk∧∀s∈sts,s.2≠bk
 brc:w.heap[br]? =some (.cells (madeCells #[.bool false] n) 4)∧nn≤br
 moc:w.heap[mo]? =some (.cells #[.int .i64 M] 3)∧nn≤mo
 odc:w.heap[od]? =some (.cells #[.slice none 0 0] 24)∧nn≤od
 nbc:w.heap[nb]? =some (.cells #[.int .i64 n] 3)∧nn≤nb
 low:nn≤tv∧nn≤tb
 mn:mo≠nb
theorem Stands.at(h:Stands F nn n tv tb bk br mo od nb M slv sts w)(d:Nat):Stands F nn n tv tb bk br mo od nb M slv sts (w.at d):=
 ⟨h.st.at d,h.row,h.mem,h.nd1,h.nd2,h.bkc,h.brc,h.moc,h.odc,h.nbc,h.low,h.mn⟩
theorem Stands.next(h:Stands F nn n tv tb bk br mo od nb M slv sts w){v':Value}{p q:Nat}(k:Stood F nn n tv tb bk br sts.length slv (sts.map fun s=>.pointer (some ⟨s.1,0,none⟩)) w w' v' p q):
 Stands F nn n tv tb bk br mo od nb M v' (sts++[(q,p)]) w':=by
 have hcell:∀r c e z,w.heap[r]? =some (.cells c e z)→nn≤r→e≠173→e≠172→w'.heap[r]? =some (.cells c e z):=fun r c e z h1 h2 h3 h4=>
  (k.old r h2 (alt h1) (by rintro rfl;rw[h.st.tbc]at h1;cases h1;exact h4 rfl) (own_type h.row h1 (Ne.symm h3))).trans h1
 have hchan:∀r,w.heap[r]? =some (.chan 0 #[] false 0 0 false)→nn≤r→w'.heap[r]? =some (.chan 0 #[] false 0 0 false):=fun r h1 h2=>
  (k.old r h2 (alt h1) (by rintro rfl;rw[h.st.tbc]at h1;cases h1) (own_chan h.row h1)).trans h1
 have hlt1:∀s∈sts,s.1<w.heap.size∧s.2<w.heap.size:=fun s hs=>⟨(Array.getElem?_eq_some_iff.1 (h.mem s hs).1).1,(Array.getElem?_eq_some_iff.1 (h.mem s hs).2.1).1⟩
 have htop:=h.st.top
 have hp:=k.pl
 have hq:=k.ql
 refine⟨k.st,?_,fun s hs=>?_,?_,?_,⟨hchan _ h.bkc.1 h.bkc.2.1,h.bkc.2.1,fun s hs=>?_⟩,⟨hcell _ _ _ _ h.brc.1 h.brc.2 (by decide) (by decide),h.brc.2⟩,⟨hcell _ _ _ _ h.moc.1 h.moc.2 (by decide) (by decide),h.moc.2⟩,⟨hcell _ _ _ _ h.odc.1 h.odc.2 (by decide) (by decide),h.odc.2⟩,⟨hcell _ _ _ _ h.nbc.1 h.nbc.2 (by decide) (by decide),h.nbc.2⟩,h.low,h.mn⟩
 ·have:=k.row
  simpa using this
 ·rcases List.mem_append.1 hs with hs|hs
  ·obtain⟨h1,h2,h3,h4⟩:=h.mem s hs
   exact⟨hcell _ _ _ _ h1 h3 (by decide) (by decide),hchan _ h2 h4,h3,h4⟩
  ·simp only[List.mem_singleton]at hs
   subst hs
   exact⟨k.qc,k.pc,by simp only;omega,by simp only;omega⟩
 ·rw[List.map_append,List.nodup_append]
  refine⟨h.nd1,by simp,fun a ha b hb=>?_⟩
  obtain⟨s,hs,rfl⟩:=List.mem_map.1 ha
  simp only[List.map_cons,List.map_nil,List.mem_singleton]at hb
  have:=(hlt1 s hs).1
  omega
 ·rw[List.map_append,List.nodup_append]
  refine⟨h.nd2,by simp,fun a ha b hb=>?_⟩
  obtain⟨s,hs,rfl⟩:=List.mem_map.1 ha
  simp only[List.map_cons,List.map_nil,List.mem_singleton]at hb
  have:=(hlt1 s hs).2
  omega
 ·rcases List.mem_append.1 hs with hs|hs
  ·exact h.bkc.2.2 s hs
  ·simp only[List.mem_singleton]at hs
   subst hs
   have:=(Array.getElem?_eq_some_iff.1 h.bkc.1).1
   simp only
   omega
theorem ov_stands(hU:Under F nn)(hn64:n≤64){thr sch:Value}{cs:List Frame}{main:Bool}{Stop:Goroutine→World→Prop}
 (hk:∀(w:World) slv sts A,Stands F nn n tv tb bk br mo od nb M slv sts w→sts.length=n→Slots 129 A [(0,thr),(1,sch),(5,.pointer (some ⟨mo,0,none⟩)),(6,.pointer (some ⟨od,0,none⟩)),(7,.bool false),(8,.slice none 0 0),(9,.pointer (some ⟨nb,0,none⟩)),(10,.pointer (some ⟨tv,0,none⟩)),(29,.int .i64 n),(30,.int .i64 n)]→
   Own Try.prog main F Stop (G ((Go.Conc.base 82).at ⟨A,[]⟩ [.code ovs7,.inLoop ovs7,.inBlock 0,.code ovs10]) cs) w):
 ∀(k i:Nat),i+k=n→∀(w:World) slv sts A,Stands F nn n tv tb bk br mo od nb M slv sts w→sts.length=i→Slots 129 A [(0,thr),(1,sch),(5,.pointer (some ⟨mo,0,none⟩)),(6,.pointer (some ⟨od,0,none⟩)),(7,.bool false),(8,.slice none 0 0),(9,.pointer (some ⟨nb,0,none⟩)),(10,.pointer (some ⟨tv,0,none⟩)),(29,.int .i64 n),(30,.int .i64 i)]→
  Own Try.prog main F Stop (G ((Go.Conc.base 82).at ⟨A,[]⟩ [.code ovs7,.inLoop ovs7,.inBlock 0,.code ovs10]) cs) w:=by
 intro k
 induction k with
 | zero=>
   intro i hi w slv sts A h hl hA
   obtain rfl:i=n:=by omega
   exact hk w slv sts A h hl hA
 | succ k ih=>
   intro i hi w slv sts A h hl hA
   refine ov_w3 (by omega) hA fun A hA=>?_
   have hrow:=h.row
   subst hl
   refine ov_s6 hU h.st hrow (by omega) h.low hA fun w' v' p q A hS hA=>?_
   refine ov_w4 (by omega) hA fun A hA=>?_
   exact ih (sts.length+1) (by omega) w' v' (sts++[(q,p)]) A (h.next hS) (by simp) hA
structure Made(nn M:Nat)(g:Gate)(v:Mine)(w:World):Prop where
 ok:g.Ok
 lie:∀a u,g.Place a u→Lies w a u
 top:g.top≤w.heap.size
 sln:∃a,g.sl= .slice a g.n g.sc
 over:∀j,j<g.n→Lies w ⟨g.st j,2,none⟩ (.bool false)
 brk:∀j,j<g.n→Lies w ⟨g.br,j,none⟩ (.bool false)
 chans:∀c,g.Chan c→w.heap[c]? =some (.chan 0 #[] false 0 0 false)∧nn≤c
 place:∀a u,g.Place a u→nn≤a.block
 st:∀j,j<g.n→nn≤g.st j∧g.st j<w.heap.size
 br:nn≤g.br∧g.br<w.heap.size
 mo:w.heap[v.mo]? =some (.cells #[.int .i64 M] 3)
 od:w.heap[v.od]? =some (.cells #[.slice none 0 0] 24)
 n:w.heap[v.n]? =some (.cells #[.int .i64 g.n] 3)
 lf:w.heap[v.lf]? =some (.cells #[.int .i64 (0:Nat)] 3)
 low:nn≤v.mo∧nn≤v.od∧nn≤v.n∧nn≤v.lf
 dn:v.mo≠v.n∧v.lf≠v.n∧v.lf≠v.mo
 alone:∀b c e,w.heap[b]? =some (.cells c e (0,0))→e=3∨e=24→(∀j,j<g.n→b≠g.st j)∧b≠g.br∧∀a u,g.Place a u→b≠a.block
theorem madeCells_get(n j:Nat)(h:j<n):(madeCells #[Value.bool false] n)[j]? =some (.bool false):=by
 simp[madeCells,h,Nat.mod_one]
theorem nodup_inj{α:Type}{l:List α}(h:l.Nodup){i j:Nat}(hi:i<l.length)(hj:j<l.length)(e:l[i]=l[j]):i=j:=by
 have:=List.pairwise_iff_getElem.1 h
 rcases Nat.lt_trichotomy i j with h1|h1|h1
 ·exact absurd e (this i j hi hj h1)
 ·exact h1
 ·exact absurd e.symm (this j i hj hi h1)
theorem made_of{A:Anchor}(hF:A.b≤nn){slv:Value}{sts:List (Nat×Nat)}(h:Stands F nn n tv tb bk br mo od nb M slv sts w)(hl:sts.length=n):
 ∃g:Gate,g.an=A∧g.n=n∧g.tv=tv∧Made nn M g ⟨mo,od,nb,w.heap.size⟩ (w.alloc (.cells #[.int .i64 (0:Nat)] 3)):=by
 have hk:∀r o,w.heap[r]? =some o→(w.alloc (.cells #[.int .i64 (0:Nat)] 3)).heap[r]? =some o:=fun r o hr=>(heap_alloc_lt _ _ (alt hr)).trans hr
 obtain⟨sa,sc,hrow⟩:∃sa sc,(0<n→slv= .slice (some ⟨sa,0,none⟩) n sc∧nn≤sa∧∃cur,w.heap[sa]? =some (.cells cur 173 (0,0))∧∀j,j<n→cur[j]? =some (.pointer (some ⟨(sts.getD j (0,0)).1,0,none⟩)))∧∃a,slv= .slice a n sc:=by
  rcases h.row.2 with⟨h1,h2⟩|⟨b,cap,cur,h1,h2,h3,h4,h5,h6,h7⟩
  ·exact⟨0,0,fun h0=>by omega,none,by rw[h1,← hl,h2]⟩
  ·rw[hl]at h1 h4 h7
   refine⟨b,cap,fun h0=>⟨h1,h2,cur,h3,fun j hj=>?_⟩,some ⟨b,0,none⟩,h1⟩
   have h8:=congrArg (·[j]?) h7
   simp only[Nat.mul_one,List.getElem?_take,if_pos hj,Array.getElem?_toList]at h8
   rw[h8]
   have hj':j<sts.length:=by omega
   simp[hj',List.getD_eq_getElem?_getD]
 obtain⟨hrow1,a0,hrow2⟩:=hrow
 have hmem:∀j,j<n→sts.getD j (0,0)∈sts:=fun j hj=>by
  have hj':j<sts.length:=by omega
  simp[List.getD_eq_getElem?_getD,hj']
 have hinj1:∀i j,i<n→j<n→(sts.getD i (0,0)).1=(sts.getD j (0,0)).1→i=j:=fun i j hi hj e=>by
  have hi':i<sts.length:=by omega
  have hj':j<sts.length:=by omega
  simp only[List.getD_eq_getElem?_getD,List.getElem?_eq_getElem hi',List.getElem?_eq_getElem hj',Option.getD_some]at e
  exact nodup_inj h.nd1 (by simpa using hi') (by simpa using hj') (by simpa using e)
 have hinj2:∀i j,i<n→j<n→(sts.getD i (0,0)).2=(sts.getD j (0,0)).2→i=j:=fun i j hi hj e=>by
  have hi':i<sts.length:=by omega
  have hj':j<sts.length:=by omega
  simp only[List.getD_eq_getElem?_getD,List.getElem?_eq_getElem hi',List.getElem?_eq_getElem hj',Option.getD_some]at e
  exact nodup_inj h.nd2 (by simpa using hi') (by simpa using hj') (by simpa using e)
 let g:Gate:={tv:=tv,tb:=tb,bk:=bk,sa:=sa,sc:=sc,br:=br,n:=n,sl:=slv,bl:=.slice (some ⟨br,0,none⟩) n n,st:=fun j=>(sts.getD j (0,0)).1,pc:=fun j=>(sts.getD j (0,0)).2,top:=w.heap.size,an:=A}
 have hstm:∀j,j<n→w.heap[(sts.getD j (0,0)).1]? =some (.cells #[.pointer (some ⟨tb,0,none⟩),.chan (some (sts.getD j (0,0)).2),.bool false] 176):=fun j hj=>(h.mem _ (hmem j hj)).1
 have hlt:∀r o,w.heap[r]? =some o→r<w.heap.size:=fun r o hr=>(alt hr)
 have hplace:∀a u,g.Place a u→∃c e,w.heap[a.block]? =some (.cells c e (0,0))∧c[a.off]? =some u∧a.spot=none∧nn≤a.block∧(e=168∨e=172∨e=173∨e=176)∧(e=176→a.off<2):=by
  intro a u p
  cases p with
  | tv=>exact⟨_,_,h.st.tvc,rfl,rfl,h.low.1,by simp,by simp⟩
  | back=>exact⟨_,_,h.st.tbc,rfl,rfl,h.low.2,by simp,by simp⟩
  | stands=>exact⟨_,_,h.st.tbc,rfl,rfl,h.low.2,by simp,by simp⟩
  | broken=>exact⟨_,_,h.st.tbc,rfl,rfl,h.low.2,by simp,by simp⟩
  | stand i hi=>
    obtain⟨_,h2,cur,h3,h4⟩:=hrow1 (Nat.lt_of_le_of_lt (Nat.zero_le _) hi)
    exact⟨cur,173,h3,h4 i hi,rfl,h2,by simp,by simp⟩
  | gate i hi=>exact⟨_,_,hstm i hi,rfl,rfl,(h.mem _ (hmem i hi)).2.2.1,by simp,by simp⟩
  | pass i hi=>exact⟨_,_,hstm i hi,rfl,rfl,(h.mem _ (hmem i hi)).2.2.1,by simp,by simp⟩
 have hchan:∀c,g.Chan c→w.heap[c]? =some (.chan 0 #[] false 0 0 false)∧nn≤c:=by
  rintro c (rfl|⟨i,hi,rfl⟩)
  ·exact⟨h.bkc.1,h.bkc.2.1⟩
  ·exact⟨(h.mem _ (hmem i hi)).2.1,(h.mem _ (hmem i hi)).2.2.2⟩
 refine⟨g,rfl,rfl,rfl,⟨⟨fun a u c p hc=>?_,fun c hc=>Nat.le_trans hF (hchan c hc).2,fun a u p=>?_,fun c hc=>hlt _ _ (hchan c hc).1,hinj2,fun i hi=>h.bkc.2.2 _ (hmem i hi),fun h0=>(hrow1 h0).1,fun _=>rfl,fun a u p=>?_,fun i a u hi p e=>?_,fun i hi e=>?_,fun _=>hlt _ _ h.brc.1,hinj1⟩,fun a u p=>?_,by simp[g],⟨a0,hrow2⟩,fun j hj=>⟨⟨_,_,hk _ _ (hstm j hj),rfl⟩,rfl⟩,fun j hj=>⟨⟨_,_,hk _ _ h.brc.1,madeCells_get n j hj⟩,rfl⟩,
  fun c hc=>⟨hk _ _ (hchan c hc).1,(hchan c hc).2⟩,fun a u p=>?_,fun j hj=>⟨(h.mem _ (hmem j hj)).2.2.1,by have:=hlt _ _ (hstm j hj);simp only[World.size_alloc,g];omega⟩,⟨h.brc.2,by have:=hlt _ _ h.brc.1;simp only[World.size_alloc,g];omega⟩,hk _ _ h.moc.1,hk _ _ h.odc.1,hk _ _ h.nbc.1,heap_alloc_new _ _,
  ⟨h.moc.2,h.odc.2,h.nbc.2,h.st.top⟩,⟨h.mn,?_,?_⟩,fun b c e hb he=>?_⟩⟩
 ·obtain⟨c',e,h1,_⟩:=hplace a u p
  rintro rfl
  rw[(hchan _ hc).1]at h1
  cases h1
 ·obtain⟨c',e,h1,_⟩:=hplace a u p
  exact hlt _ _ h1
 ·obtain⟨c',e,h1,_,_,_,h2,_⟩:=hplace a u p
  intro e1
  have:=h.brc.1
  rw[show br=a.block from e1,h1]at this
  simp only[Option.some.injEq,Obj.cells.injEq]at this
  rw[this.2.1]at h2
  simp at h2
 ·obtain⟨c',e',h1,_,_,_,_,h2⟩:=hplace a u p
  have h3:=hstm i hi
  rw[show(sts.getD i (0,0)).1=a.block from e,h1]at h3
  cases h3
  exact h2 rfl
 ·have:=h.brc.1
  rw[show br=(sts.getD i (0,0)).1 from e,hstm i hi]at this
  simp only[Option.some.injEq,Obj.cells.injEq]at this
  exact absurd this.2.1 (by decide)
 ·obtain⟨c',e,h1,h2,h3,_⟩:=hplace a u p
  exact⟨⟨c',e,hk _ _ h1,h2⟩,h3⟩
 ·obtain⟨c',e,_,_,_,h1,_⟩:=hplace a u p
  exact h1
 ·have:=hlt _ _ h.nbc.1;simp only;omega
 ·have:=hlt _ _ h.moc.1;simp only;omega
 ·have hfin:∀r c' e',w.heap[r]? =some (.cells c' e' (0,0))→e'≠3→e'≠24→b≠r:=fun r c' e' h1 h2 h3 h4=>by
   subst h4
   rw[hk _ _ h1]at hb
   cases hb
   rcases he with rfl|rfl
   ·exact h2 rfl
   ·exact h3 rfl
  refine⟨fun j hj=>hfin _ _ _ (hstm j hj) (by decide) (by decide),hfin _ _ _ h.brc.1 (by decide) (by decide),fun a u p=>?_⟩
  obtain⟨c',e',h1,_,_,_,h2,_⟩:=hplace a u p
  refine hfin _ _ _ h1 ?_ ?_
  ·rintro rfl;simp at h2
  ·rintro rfl;simp at h2
end
section
variable{g:Gate}{P:Program}{F:Fz}{w w':World}
theorem setCell_same{a:Nat}{c:Array Value}{e:TypeId}{z:Nat×Nat}{v:Value}(h:w.heap[a]? =some (.cells c e z))(hv:c[0]? =some v):w.setCell ⟨a,0,none⟩ v=w:=by
 have hh:(w.setCell ⟨a,0,none⟩ v).heap=w.heap:=by
  apply Array.ext_getElem?
  intro i
  by_cases e1:i=a
  ·subst e1
   have hc0:=(alt hv)
   simp only[World.setCell,Array.getElem?_modify,h,if_true,Option.map_some,Option.isSome_none,Bool.false_eq_true,if_false,Option.some.injEq,Obj.cells.injEq,and_true]
   apply Array.ext_getElem?
   intro j
   rw[Array.getElem?_setIfInBounds]
   split
   ·rename_i e2;subst e2;first|exact hv.symm|(rw[if_pos hc0];exact hv.symm)
   ·rfl
  ·exact heap_setCell_ne _ _ _ e1
 have e:w.setCell ⟨a,0,none⟩ v={w with heap:=(w.setCell ⟨a,0,none⟩ v).heap}:=rfl
 rw[e,hh]
theorem stepG_leave'{main:Bool}{b:Frame}{a:Act}{cs:List Frame}{fn:Func}{todo:List Item}{c:Frame}{v:Value}(hn:b.kind= .normal)(hd:a.defers=[])(hf:P.funcs[b.fn]? =some fn)
 (hr:(results fn a.tmps).run P w= .ok v w):
 stepG P main (G {b.at a todo with mode:=.returning} (c::cs)) w= .go (G (c.finish v) cs) w (seen P b.fn ((results fn a.tmps).events P w #[])):=by
 simp[G,stepG,unwind,doReturn,Frame.at,hn,hd,hf,hr,GStep.after]
theorem own_leave{main:Bool}{b:Frame}{a:Act}{cs:List Frame}{fn:Func}{todo:List Item}{c:Frame}{v:Value}{Stop:Goroutine→World→Prop}(hn:b.kind= .normal)(hd:a.defers=[])(hf:P.funcs[b.fn]? =some fn)
 (hr:∀d,(results fn a.tmps).run P (w.at d)= .ok v (w.at d)) (he:∀d,∀e∈(results fn a.tmps).events P (w.at d) #[],EvT F e) (h:Own P main F Stop (G (c.finish v) cs) w):
 Own P main F Stop (G {b.at a todo with mode:=.returning} (c::cs)) w:=
 .step rfl fun d=>⟨_,_,_,stepG_leave' hn hd hf (hr d),⟨⟨0,Grew.refl _ _⟩,fun e hm=>he d e (mem_seen hm)⟩,h.at d⟩
structure SE(g:Gate)(od:Nat)(oa:Option Addr)(ol oc:Nat)(u:World):Prop where
 hod:∃c e,u.heap[od]? =some (.cells c e (0,0))∧c[0]? =some (.slice oa ol oc)
 t:Lies u ⟨g.tv,0,none⟩ (.pointer (some ⟨g.tb,0,none⟩))
 b:Lies u ⟨g.tb,2,none⟩ g.bl
section
variable{od ol oc:Nat}{oa:Option Addr}{u:World}
theorem SE.at(h:SE g od oa ol oc u)(d:Nat):SE g od oa ol oc (u.at d):=⟨h.hod,h.t.at d,h.b.at d⟩
theorem SE.lo(h:SE g od oa ol oc u):Lies u ⟨od,0,none⟩ (.slice oa ol oc):=by obtain⟨c,e,h1,h2⟩:=h.hod;exact⟨⟨c,e,h1,h2⟩,rfl⟩
theorem SE.co(h:SE g od oa ol oc u):u.cell? ⟨od,0,none⟩=some (.slice oa ol oc):=h.lo.c
theorem SE.zo(h:SE g od oa ol oc u):u.frozen? ⟨od,0,none⟩=false:=h.lo.z
theorem SE.ct(h:SE g od oa ol oc u):u.cell? ⟨g.tv,0,none⟩=some (.pointer (some ⟨g.tb,0,none⟩)):=h.t.c
theorem SE.zt(h:SE g od oa ol oc u):u.frozen? ⟨g.tv,0,none⟩=false:=h.t.z
theorem SE.cb(h:SE g od oa ol oc u):u.cell? ⟨g.tb,2,none⟩=some (g.bl):=h.b.c
theorem SE.zb(h:SE g od oa ol oc u):u.frozen? ⟨g.tb,2,none⟩=false:=h.b.z
end
abbrev F0:Fz:=fun _=>none
theorem ov_end{v:Mine}{st:Bool}{oa:Option Addr}{ol oc:Nat}(hs:SE g v.od oa ol oc w){A:Array Value}(hA:Slots 129 A (ovEnds g v st g.n)){c:Frame}{cs:List Frame}{main:Bool}{Stop:Goroutine→World→Prop}
 (h:Own Try.prog main F0 Stop (G (c.finish (.tuple #[.slice oa ol oc,.bool st,g.bl])) cs) w):Own Try.prog main F0 Stop (G ((Go.Conc.base 82).at ⟨A,[]⟩ [.code ovs48]) (c::cs)) w:=by
 obtain⟨hsz,h7,h107,h108,h109,h5,h6,h8,h9,h10,h11,_⟩:=hA
 obtain⟨s,rfl⟩:=ovT_of hsz
 change s 7=_ at h7
 change s 107=_ at h107
 change s 108=_ at h108
 change s 109=_ at h109
 change s 5=_ at h5
 change s 6=_ at h6
 change s 8=_ at h8
 change s 9=_ at h9
 change s 10=_ at h10
 change s 11=_ at h11
 clear hsz
 simp only[ovT,h7,h107,h108,h109,h5,h6,h8,h9,h10,h11]
 clear h7 h107 h108 h109 h5 h6 h8 h9 h10 h11
 have hS:∀u d,SE g v.od oa ol oc u→SE g v.od oa ol oc (World.at u d):=fun u d h=>h.at d
 refine ogSE ovs48' ?_
 rw[ovr36']
 refine own_drawnM (SE g v.od oa ol oc) (last:=8) run_mixed (ll_of (by kernel_rfl)) (by decide) ?_
 simp only[ovr36,ovBody,Try.f82,zz,Nat.reduceAdd]
 have hZ:∀a u d,Own Try.prog main F0 Stop (G ((Go.Conc.base 82).at a [.inRegion (oC ovr36) [8],.code .ret]) (c::cs)) u→Own Try.prog main F0 Stop (G ((Go.Conc.base 82).at a [.inRegion (oC ovr36) [8],.code .ret]) (c::cs)) (World.at u d):=fun a u d h=>h.at d
 simp only[ovr36,ovBody,Try.f82,zz,Nat.reduceAdd]at hZ
 refine anyM_take hS hZ (i:=0) (v:=.slice oa ol oc) hs rfl rfl (by kernel_rfl) (by kernel_rfl) (by kernel_rfl) (fun u hu=>.inl ⟨rfl,fun d=>⟨by simp[go_sem,execOp,Act.eval,hu.co,hu.zo],fun e he=>by have hm:=mem_listed he;simp[go_sem,execOp,Act.eval,hu.co,hu.zo]at hm;subst hm;exact evT_read _ _⟩⟩) ?_
 walk_nrm
 refine anyM_take hS hZ (i:=1) (v:=.bool st) hs rfl rfl (by kernel_rfl) (by kernel_rfl) (by kernel_rfl) (fun u hu=>.inl ⟨rfl,fun d=>⟨by simp[go_sem,execOp,Act.eval],fun e he=>by have hm:=mem_listed he;simp[go_sem,execOp,Act.eval]at hm⟩⟩) ?_
 walk_nrm
 refine anyM_take hS hZ (i:=2) (v:=.pointer (some ⟨g.tb,0,none⟩)) hs rfl rfl (by kernel_rfl) (by kernel_rfl) (by kernel_rfl) (fun u hu=>.inl ⟨rfl,fun d=>⟨by simp[go_sem,execOp,Act.eval,hu.ct,hu.zt],fun e he=>by have hm:=mem_listed he;simp[go_sem,execOp,Act.eval,hu.ct,hu.zt]at hm;subst hm;exact evT_read _ _⟩⟩) ?_
 walk_nrm
 refine anyM_take hS hZ (i:=3) (v:=.pointer (some ⟨g.tb,0,none⟩)) hs rfl rfl (by kernel_rfl) (by kernel_rfl) (by kernel_rfl) (fun u hu=>.inl ⟨rfl,fun d=>⟨by simp[go_sem,execOp,Act.eval],fun e he=>by have hm:=mem_listed he;simp[go_sem,execOp,Act.eval]at hm⟩⟩) ?_
 walk_nrm
 refine anyM_take hS hZ (i:=4) (v:=.pointer (some ⟨g.tb,2,none⟩)) hs rfl rfl (by kernel_rfl) (by kernel_rfl) (by kernel_rfl) (fun u hu=>.inl ⟨rfl,fun d=>⟨by simp[go_sem,execOp,Act.eval],fun e he=>by have hm:=mem_listed he;simp[go_sem,execOp,Act.eval]at hm⟩⟩) ?_
 walk_nrm
 refine anyM_take hS hZ (i:=5) (v:=g.bl) hs rfl rfl (by kernel_rfl) (by kernel_rfl) (by kernel_rfl) (fun u hu=>.inl ⟨rfl,fun d=>⟨by simp[go_sem,execOp,Act.eval,hu.cb,hu.zb],fun e he=>by have hm:=mem_listed he;simp[go_sem,execOp,Act.eval,hu.cb,hu.zb]at hm;subst hm;exact evT_read _ _⟩⟩) ?_
 walk_nrm
 refine anyM_all (r:=[6]) (by kernel_rfl) (by kernel_rfl) (fun i hi hil=>?_)
 simp only[List.mem_cons,List.not_mem_nil,or_false]at hi
 subst hi
 refine opm_k rfl rfl (fun d K' hK'=>?_)
 have co:=(hs.at d).co
 have zo:=(hs.at d).zo
 go_simp
 obtain⟨cc,ee,hh1,hh2⟩:=(hs.at d).hod
 rw[setCell_same hh1 hh2]
 refine hK' _ _ ⟨⟨⟨0,Grew.refl _ _⟩,fun e he=>by(have hm:=mem_listed he;clear he hK';simp[go_sem,storedEv,co,zo]at hm;subst hm;exact evT_write _ _ (not_held' rfl))⟩,hs.at d,?_⟩
 clear hK' K' co zo
 refine anyM_at hS hZ _ _ _ _ ?_ d
 refine anyM_take hS hZ (i:=7) (v:=.bool st) hs rfl rfl (by kernel_rfl) (by kernel_rfl) (by kernel_rfl) (fun u hu=>.inl ⟨rfl,fun d=>⟨by simp[go_sem,execOp,Act.eval],fun e he=>by have hm:=mem_listed he;simp[go_sem,execOp,Act.eval]at hm⟩⟩) ?_
 walk_nrm
 refine anyM_end (by kernel_rfl) ?_ _
 (refine oW fun dd K hK=>?_;go_simp;refine qT hK ?_;clear hK K)
 refine ogE ?_
 refine ogX ?_
 refine own_leave (fn:=Try.f82) (v:=.tuple #[.slice oa ol oc,.bool st,g.bl]) rfl rfl Try.func82 (fun d=>?_) (fun d e he=>?_) h
 ·have co:=(hs.at d).co
  simp[results,Try.f82,go_sem,co]
 ·have co:=(hs.at d).co
  have zo:=(hs.at d).zo
  simp[results,Try.f82,go_sem,co,zo]at he
  subst he
  exact evT_read _ _
end
section
open Go.ConcN (sumTo upd sumTo_upd upd_ne upd_same)
variable{F:Fz}{w w':World}
theorem w0_size(w:World)(M n:Nat):(ovW0 w M n).heap.size=w.heap.size+3:=by simp[ovW0]
theorem w0_mo(w:World)(M n:Nat):(ovW0 w M n).heap[w.heap.size]? =some (.cells #[.int .i64 M] 3):=by
 unfold ovW0
 rw[heap_alloc_lt _ _ (by simp;omega),heap_alloc_lt _ _ (by simp)]
 exact heap_alloc_new _ _
theorem w0_od(w:World)(M n:Nat):(ovW0 w M n).heap[w.heap.size+1]? =some (.cells #[.slice none 0 0] 24):=by
 unfold ovW0
 rw[heap_alloc_lt _ _ (by simp)]
 simpa using heap_alloc_new (w.alloc (.cells #[.int .i64 M] 3)) (.cells #[.slice none 0 0] 24)
theorem w0_n(w:World)(M n:Nat):(ovW0 w M n).heap[w.heap.size+2]? =some (.cells #[.int .i64 n] 3):=by
 unfold ovW0
 simpa using heap_alloc_new ((w.alloc (.cells #[.int .i64 M] 3)).alloc (.cells #[.slice none 0 0] 24)) (.cells #[.int .i64 n] 3)
theorem Wf.of_old{nn:Nat}(hU:Under F nn)(h:Wf F w)(ho:∀r,r<nn→w'.heap[r]? =w.heap[r]?):Wf F w':=by
 constructor
 intro r z hz
 obtain⟨c,e,z0,h1,h2⟩:=h.own r z hz
 exact⟨c,e,z0,(ho r (hU r z hz)).trans h1,h2⟩
theorem ov_setup{An:Anchor}(hAb:An.b≤w.heap.size)(hU:Under F w.heap.size)(hwf:Wf F w){ta:Option Addr}{tl tc M:Nat}{sch:Value}{m:Int}(htl:tl≤64)(hM:min (max m 0) 1048576=(M:Int)){cs:List Frame}{main:Bool}{Stop:Goroutine→World→Prop}
 (h:∀(g:Gate) (v:Mine) (w':World) (A:Array Value),g.an=An→g.n=tl→Made w.heap.size M g v w'→Slots 129 A (ovBirth g v (.slice ta tl tc) sch 0)→Own Try.prog main F Stop (G ((Go.Conc.base 82).at ⟨A,[]⟩ [.code ovs14,.inLoop ovs14,.inBlock 2,.code ovs21]) cs) w'):
 Own Try.prog main F Stop (G (Frame.enter Try.prog 82 #[.slice ta tl tc,sch,.int .i64 m] .normal) cs) w:=by
 refine ov_s0 hU (Nat.le_refl _) htl hM fun A hA=>?_
 have hsz:=w0_size w M tl
 have hmo:=w0_mo w M tl
 have hod:=w0_od w M tl
 have hnb:=w0_n w M tl
 have hwf0:Wf F (ovW0 w M tl):=hwf.of_old hU fun r hr=>by
  unfold ovW0
  rw[heap_alloc_lt _ _ (by simp;omega),heap_alloc_lt _ _ (by simp;omega),heap_alloc_lt _ _ hr]
 have hsn:SN w.heap.size (w.heap.size+2) tl (ovW0 w M tl):=⟨by omega,by omega,by simp[World.cell?,hnb],by simp[World.frozen?,hnb]⟩
 generalize ovW0 w M tl=W0 at*
 rw[ovs3']
 refine own_go rfl (fun d=>stepG_seq) (Own.at ?_ W0.drawn)
 refine ov_s3 (k:=[.code ovs4]) hU htl hsn hA fun w1 tv tb bk br A h3 hA=>?_
 have hnb1:=(h3.old _ (by omega)).trans hnb
 have hS0:Stands F w.heap.size tl tv tb bk br w.heap.size (w.heap.size+1) (w.heap.size+2) M (.slice none 0 0) [] w1:=by
  have hl:=h3.low
  refine⟨⟨by have:=h3.size;omega,hwf0.of_old hU fun r hr=>h3.old r (by omega),h3.htv,h3.htb⟩,World.ownsRow_nil _ _ _ _,by simp,by simp,by simp,⟨h3.hbk,by omega,by simp⟩,⟨h3.hbr,by omega⟩,⟨(h3.old _ (by omega)).trans hmo,Nat.le_refl _⟩,⟨(h3.old _ (by omega)).trans hod,by omega⟩,⟨hnb1,by omega⟩,by omega,by omega⟩
 refine ov_w2 (n:=tl) (nb:=w.heap.size+2) (by simp[World.cell?,hnb1]) (by simp[World.frozen?,hnb1]) hA fun A hA=>?_
 refine ov_stands hU htl (fun w2 slv sts A hS hl hA=>?_) tl 0 (by omega) w1 _ [] A hS0 rfl hA
 have hn2:=hS.nbc.1
 refine ov_w5 (n:=tl) (nb:=w.heap.size+2) hU hS.st.top (alt hn2) (by simp[World.cell?,hn2]) (by simp[World.frozen?,hn2]) hA fun A hA=>?_
 obtain⟨g,hga,hgn,hgt,hm⟩:=made_of hAb hS hl
 refine h g _ _ A hga hgn hm ?_
 subst hgn
 subst hgt
 exact hA
theorem inb_none{Z:Users}{g:Gate}{x:Z.X}{vs:Nat→Vars}{s0:Nat}:inb Z g s0 (fun j=>decide (j<0) && Z.liv x j) vs none x=fun _=>none:=by
 funext j
 unfold inb
 by_cases h:j=0
 ·rw[if_pos h]
 ·rw[if_neg h,if_neg (fun h=>by simp at h)]
def OverRel(Z:Users)(n M:Nat)(S:List Int)(x0:Z.X)(t:Z.X×List Nat):Prop:=
 ∃x1,Borns Z n x0 x1∧∃s,Turns Z n M S (x1,[]) s∧Rounds Z n M s t
theorem bes_over{An:Anchor}{Z:Gate→Users}{x0:∀g,(Z g).X}{S:List Int}{ta sa:Option Addr}{tb so sb tl tc sc M:Nat}{m:Int}(htl:tl≤64)(hM:min (max m 0) 1048576=(M:Int))(hSl:S.length<9223372036854775808)
 (zok:∀g,g.n=tl→Fits g→(Z g).Ok g) (hU0:∀(g:Gate) (w':World),g.n=tl→w.heap.size≤w'.heap.size→(∀(r:Nat) (o:Obj),w.heap[r]? =some o→w'.heap[r]? =some o)→(Z g).U (x0 g) w')
 (hnw:∀g:Gate,g.n=tl→∀j,j<g.n→(Z g).nw (x0 g) j) (hR0:∀(g:Gate) (r:Nat),(Z g).R (x0 g) r→r<w.heap.size) (hI0:∀(g:Gate) (r:Nat),(Z g).I r≠none→r<w.heap.size∧¬(Z g).R (x0 g) r)
 (hta:0<tl→ta=some ⟨tb,0,none⟩) (hth:∀g,g.n=tl→RowIs (Z g) tb 0 ((List.range tl).map fun j=>.func (.func (Z g).fid) #[] ((Z g).cap j)))
 (hsa:0<S.length→sa=some ⟨sb,so,none⟩) (hS:∀g,g.n=tl→RowIs (Z g) sb so (S.map fun i:Int=>Value.int .i64 i)) {c:Frame} {cs:List Frame} {Stop:Goroutine→World→Prop}
 (hk:∀g (t:(Z g).X×List Nat) w' oa oc bv,g.n=tl→OverRel (Z g) tl M S (x0 g) t→(Z g).U t.1 w'→w'.ownsRow w.heap.size 3 1 (.slice oa t.2.length oc) t.2.length (t.2.map fun i:Nat=>Value.int .i64 i)→(∀y,oa=some y→¬(Z g).R t.1 y.block)→w.heap.size≤w'.heap.size→
   Bes An Try.prog Stop (G (c.finish (.tuple #[.slice oa t.2.length oc,.bool (decide (0<cnt ((Z g).liv t.1) tl)),bv])) cs) w'):
 Bes An Try.prog Stop (G (Frame.enter Try.prog 82 #[.slice ta tl tc,.slice sa S.length sc,.int .i64 m] .normal) (c::cs)) w:=by
 refine bes_assume fun hAn=>?_
 refine bes_own (A:=An) (F:=FT (fun _=>True) w) (Stop:=fun a u=>Gd (FT (fun _=>True) w) w u∧∃(g:Gate) (v:Mine) (A:Array Value),g.an=An∧g.n=tl∧Made w.heap.size M g v u∧Slots 129 A (ovBirth g v (.slice ta tl tc) (.slice sa S.length sc) 0)∧a=G ((Go.Conc.base 82).at ⟨A,[]⟩ [.code ovs14,.inLoop ovs14,.inBlock 2,.code ovs21]) (c::cs))
  (own_gd (ov_setup hAn.low (ft_under _ _) (ft_wf w) htl hM fun g v w' A hga hgn hm hA=>.stop fun d=>⟨g,v,A,hga,hgn,?_,hA,rfl⟩)) fun a w1 hS1=>?_
 ·exact⟨hm.ok,fun a u p=>(hm.lie a u p).at d,hm.top,hm.sln,fun j hj=>(hm.over j hj).at d,fun j hj=>(hm.brk j hj).at d,hm.chans,hm.place,hm.st,hm.br,hm.mo,hm.od,hm.n,hm.lf,hm.low,hm.dn,hm.alone⟩
 obtain⟨hgd,g,v,A,hga,hgn,hm,hA,rfl⟩:=hS1
 subst hga
 have ok:Fits g:=⟨hm.ok⟩
 have zk:=zok g hgn ok
 have hold:∀r o,w.heap[r]? =some o→w1.heap[r]? =some o:=fun r o hr=>(ft_same hgd trivial (alt hr)).trans hr
 have hsz:w.heap.size≤w1.heap.size:=hgd.size
 have hn64:g.n≤64:=by omega
 have hM2:M≤1048576:=by omega
 obtain⟨asl,hsln⟩:=hm.sln
 have hR1:∀r,(Z g).R (x0 g) r→r<w.heap.size:=hR0 g
 have hlt:∀r o,w1.heap[r]? =some o→r<w1.heap.size:=fun r o hr=>(alt hr)
 let N:Nat→Prop:=fun r=>r<w1.heap.size∧¬(Z g).R (x0 g) r
 have hNn:∀r,w.heap.size≤r→r<w1.heap.size→N r:=fun r h1 h2=>⟨h2,fun h3=>by have:=hR1 r h3;omega⟩
 have HT:TI (Z g) g (fun j=>(decide (j<0) && (Z g).liv (x0 g) j)=true) (fun _=>⟨0,0,0⟩) N (fun j=>decide (j<0) && !(Z g).liv (x0 g) j) (x0 g) w1:=
  ⟨hU0 g w1 hgn hsz hold,fun j hj=>by simpa using hm.over j hj,fun j hj=>⟨false,hm.brk j hj⟩,fun j hj=>by simp at hj,fun c hc=>⟨0,0,(hm.chans c hc).1⟩,fun r hr hn=>hn.2 hr,fun r hr=>hr.1,
   fun a u p=>hNn _ (hm.place a u p) (hm.lie a u p).lt,fun j hj=>hNn _ (hm.st j hj).1 (hm.st j hj).2,fun _=>hNn _ hm.br.1 hm.br.2,fun j hj=>by simp at hj,fun c hc=>hNn _ (hm.chans c hc).2 (hlt _ _ (hm.chans c hc).1),fun j k hj=>by simp at hj,
   fun r hr=>by
    obtain⟨h1,h2⟩:=hI0 g r hr
    exact⟨⟨by omega,h2⟩,fun j hj=>by have:=(hm.st j hj).1;omega,by have:=hm.br.1;omega,fun j hj=>by simp at hj⟩⟩
 have hal:∀b c e,w1.heap[b]? =some (.cells c e (0,0))→e=3∨e=24→w.heap.size≤b→Alone (Z g) g (fun _=>⟨0,0,0⟩) (fun j=>(decide (j<0) && (Z g).liv (x0 g) j)=true) N b:=fun b c e hb he hn=>by
  obtain⟨h1,h2,h3⟩:=hm.alone b c e hb he
  refine⟨hNn _ hn (hlt _ _ hb),h1,h2,h3,fun j hj=>by simp at hj,?_⟩
  cases hI:(Z g).I b with
  | none=>rfl
  | some o=>have:=(hI0 g b (by rw[hI];simp)).1;omega
 have htyp:∀(a b:Nat) (c c':Array Value),w1.heap[a]? =some (Obj.cells c 3 (0,0))→w1.heap[b]? =some (Obj.cells c' 24 (0,0))→a≠b:=by
  rintro a b c c' h1 h2 rfl
  rw[h1]at h2
  cases h2
 have HM:MI (Z g) g (fun _=>⟨0,0,0⟩) (fun j=>(decide (j<0) && (Z g).liv (x0 g) j)=true) N v w.heap.size M none 0 0 [] 0 w1:=
  ⟨⟨⟨_,_,hm.n,rfl⟩,rfl⟩,⟨⟨_,_,hm.mo,rfl⟩,rfl⟩,⟨⟨_,_,hm.lf,rfl⟩,rfl⟩,⟨_,hm.od,rfl⟩,World.ownsRow_nil _ _ _ _,hal _ _ _ hm.n (.inl rfl) hm.low.2.2.1,hal _ _ _ hm.mo (.inl rfl) hm.low.1,hal _ _ _ hm.lf (.inl rfl) hm.low.2.2.2,hal _ _ _ hm.od (.inr rfl) hm.low.2.1,
    fun y hy=>(by cases hy),⟨htyp _ _ _ _ hm.n hm.od,htyp _ _ _ _ hm.mo hm.od,htyp _ _ _ _ hm.lf hm.od,hm.dn.2.1,hm.dn.2.2⟩,fun y hy=>(by cases hy),hsz⟩
 refine bes_tok (K:=g.K) (Still:=g.Still) (B0:=g.top) (fun l ⟨a,u,_,e⟩=>by subst e;rfl) (fun h=>⟨hm.lie,h⟩) fun _ s0 hs0=>?_
 have hnone:(fun _=>none:Nat→Option Seat)=inb (Z g) g s0 (fun j=>decide (j<0) && (Z g).liv (x0 g) j) (fun _=>⟨0,0,0⟩) none (x0 g):=inb_none.symm
 rw[hnone]
 have hfin:∀(x:(Z g).X) (u:World) (A:Array Value) (vs:Nat→Vars) (N:Nat→Prop) (ms:Option Seat),Borns (Z g) g.n (x0 g) x→TI (Z g) g (fun j=>(decide (j<g.n) && (Z g).liv x j)=true) vs N (fun j=>decide (j<g.n) && !(Z g).liv x j) x u→
  MI (Z g) g vs (fun j=>(decide (j<g.n) && (Z g).liv x j)=true) N v w.heap.size M none 0 0 [] (cnt ((Z g).liv x) g.n) u→g.top≤u.heap.size→Slots 129 A (ovBirth g v (.slice ta tl tc) (.slice sa S.length sc) g.n)→
  Tok Try.prog g.K g.Still g.top (BesG g.an Try.prog Stop) (inb (Z g) g s0 (fun j=>decide (j<g.n) && (Z g).liv x j) vs ms x) 0 (s0+g.n) (G ((Go.Conc.base 82).at ⟨A,[]⟩ [.code ovs14,.inLoop ovs14,.inBlock 2,.code ovs21]) (c::cs)) u:=by
  intro x u A vs N ms hB HT HM _ hA
  refine tok_go _ (fun Stop h=>ov_t1 hA h) fun A d hA=>?_
  have hU2:Under2 (Z g) g v w.heap.size M s0 (x,[]) (inb (Z g) g s0 (fun j=>decide (j<g.n) && (Z g).liv x j) vs ms x) (u.at d):=⟨by simp,vs,N,none,0,ms,rfl,HT.at zk d,HM.at d⟩
  refine tok_sched (st:=(x,[])) zk hs0 hM2 hn64 hsa (hS g hgn) hSl (fun s Inb u A hs hU hA=>?_) S.length 0 (by omega) (x,[]) _ _ A rfl hU2 hA
  refine tok_rounds zk hs0 hM2 hn64 (M - s.2.length) s (Nat.le_refl _) Inb u A (fun t Inb u A hr hU hA=>?_) hU hA
  refine tok_ends zk hs0 hn64 hsln (s:=t) (fun u A vs N oa oc ov HT HM hK hA=>?_) hU hA
  have hse:SE g v.od oa t.2.length oc u:=⟨by obtain⟨cc,h1,h2⟩:=HM.od;exact⟨cc,_,h1,h2⟩,hK _ _ .tv,hK _ _ .broken⟩
  refine bes_own (F:=F0) (Stop:=fun a w2=>a=G (c.finish (.tuple #[.slice oa t.2.length oc,.bool (decide (0<cnt ((Z g).liv t.1) g.n)),g.bl])) cs∧∃d,w2=u.at d) (ov_end hse hA (.stop fun d=>⟨rfl,d,rfl⟩)) fun a w2 ⟨ha,d2,hw2⟩=>?_
  subst ha
  subst hw2
  have hrel:OverRel (Z g) tl M S (x0 g) t:=⟨x,hgn ▸ hB,s,hgn ▸ hs,hgn ▸ hr⟩
  have:=hk g t (u.at d2) oa oc g.bl hgn hrel (HT.at zk d2).u HM.row (fun y hy hR=>HT.apart _ hR (HM.arow y hy).n) HM.base
  rw[← hgn]at this
  exact this
 by_cases h0:g.n=0
 ·have e0:(fun j=>decide (j<0) && (Z g).liv (x0 g) j)=fun j=>decide (j<g.n) && (Z g).liv (x0 g) j:=by rw[h0]
  have e1:(fun j=>(decide (j<0) && (Z g).liv (x0 g) j)=true)=fun j=>(decide (j<g.n) && (Z g).liv (x0 g) j)=true:=by rw[h0]
  have e2:(fun j=>decide (j<0) && !(Z g).liv (x0 g) j)=fun j=>decide (j<g.n) && !(Z g).liv (x0 g) j:=by rw[h0]
  rw[e1,e2]at HT
  rw[e1]at HM
  rw[e0]
  have e3:s0=s0+g.n:=by omega
  have e4:cnt ((Z g).liv (x0 g)) g.n=0:=by rw[h0];rfl
  have:=hfin (x0 g) w1 A _ N none (by rw[h0];rfl) HT (by rw[e4];exact HM) hm.top (by rw[h0];exact hA)
  rw[← e3]at this
  exact this
 ·obtain rfl:=hta (by omega)
  refine tok_births zk hs0 hn64 (hnw g hgn) (tl:=tl) (tc:=tc) (sch:=.slice sa S.length sc) (x0:=x0 g) (by omega) (by rw[hgn];exact hth g hgn) hfin g.n 0 (by omega) (x0 g) w1 A _ N none rfl HT HM hm.top hA
end
section
variable{P:Program}{F:Fz}{w w':World}
section
variable{main:Bool}{b:Frame}{a:Act}{kk:List Item}{cs:List Frame}{ops:Array Oper}{i:Nat}{rest:List Nat}{o:Oper}{Stop:Goroutine→World→Prop}{f:FuncId}{fn:Func}{ats:Array TypeId}
theorem own_val{v:Value}(ho:ops[i]? =some o)(hw:Region.wanted o (yielded ops a.tmps)=true)(hk:b.kind≠.early)(hr:∀d,(execOp a.eval o).run P (w.at d)= .ok (.value v) (w'.at d))
 (hg:∀d,∃j,Grew F (w.at d) (w'.at d) j) (he:∀d,∀e∈(execOp a.eval o).events P (w.at d) #[],EvT F e) (h:Own P main F Stop (G (b.at (a.put o.dst v) (.inRegion ops rest::kk)) cs) w'):
 Own P main F Stop (G (b.at a (.inRegion ops (i::rest)::kk)) cs) w:=
 .step rfl fun d=>⟨_,_,_,stepG_value ho hw hk (hr d),⟨hg d,fun e hm=>he d e (mem_listed hm)⟩,h.at d⟩
theorem exec_extern{args:Array Operand}{vs:Array Value}(hop:o.op= .call {callee:=.value (.func f),args:=args,argTypes:=ats})(hx:args.map a.eval=vs):execOp a.eval o=callFunc f vs:=by
 have ef:a.eval (.func f)= .func (.func f) #[] #[]:=rfl
 unfold execOp
 subst hx
 simp[hop,resolve,Deferred.ofValue,invoke,ef]
theorem evT_ext(f:FuncId):EvT F ⟨.mark (.extern f),false,true⟩:=⟨fun h=>by simp at h,fun m h=>by cases h;exact .inr ⟨f,rfl⟩⟩
end
end
noncomputable section
section
variable{P:Program}{F:Fz}{w w':World}{main:Bool}{b:Frame}{a:Act}{kk:List Item}{cs:List Frame}{ops:Array Oper}{i:Nat}{rest:List Nat}{o:Oper}{Stop:Goroutine→World→Prop}{f:FuncId}{fn:Func}{ats:Array TypeId}{k:IntKind}
theorem own_load_int{x:Operand}(ho:ops[i]? =some o)(hw:Region.wanted o (yielded ops a.tmps)=true)(hk:b.kind≠.early)(hop:o.op= .call {callee:=.value (.func f),args:= #[x],argTypes:=ats})
 (hf : P.funcs[f]? = some fn) (hname : (fn.name == "runtime.NumGoroutine") = false) (hb : fn.body.isNone = true) (hn : Extern.findNext fn = none)
 (he:Extern.find fn=some (Extern.Atomic.loadT (.int k))) {ad:Addr} {v:Int} (hx:a.eval x= .pointer (some ad)) (hc:w.cell? ad=some (.int k v))
 (h:Own P main F Stop (G (b.at (a.put o.dst (.int k v)) (.inRegion ops rest::kk)) cs) w):Own P main F Stop (G (b.at a (.inRegion ops (i::rest)::kk)) cs) w:=by
 have e1:execOp a.eval o=callFunc f #[.pointer (some ad)]:=exec_extern hop (by simp[hx])
 refine own_val (w':=w) ho hw hk (fun d=>?_) (fun d=>⟨0,Grew.refl _ _⟩) (fun d e hm=>?_) h
 ·have hc':(w.at d).cell? ad=some (.int k v):=hc
  rw[e1,run_callFunc_extern hf hname hb hn he]
  change(Sem.run P (do Extern.Atomic.read (.int k) (← asAddr (.pointer (some ad)))) (w.at d)).andThen _=_
  simp[Extern.Atomic.read,asAddr,hc',Result.andThen]
 ·have hc':(w.at d).cell? ad=some (.int k v):=hc
  rw[e1,events_callFunc_extern hf hname hb hn he]at hm
  change e∈Sem.events P (do Extern.Atomic.read (.int k) (← asAddr (.pointer (some ad)))) (w.at d) _ at hm
  simp[Extern.Atomic.read,asAddr,hc',events_load]at hm
  rcases hm with rfl|rfl
  ·exact evT_ext f
  ·exact evT_read _ _
theorem own_store_int{x y:Operand}(ho:ops[i]? =some o)(hw:Region.wanted o (yielded ops a.tmps)=true)(hk:b.kind≠.early)(hop:o.op= .call {callee:=.value (.func f),args:= #[x,y],argTypes:=ats})
 (hf : P.funcs[f]? = some fn) (hname : (fn.name == "runtime.NumGoroutine") = false) (hb : fn.body.isNone = true) (hn : Extern.findNext fn = none)
 (he:Extern.find fn=some Extern.Atomic.storeT) {ad:Addr} {v:Value} {n:Int} (hs:ad.spot=none) (hx:a.eval x= .pointer (some ad)) (hy:a.eval y= .int k n) (hc:w.cell? ad=some v) (hfz:w.frozen? ad=false) (hnh:¬held F ad)
 (h:Own P main F Stop (G (b.at (a.put o.dst (.tuple #[])) (.inRegion ops rest::kk)) cs) (w.setCell ad (.int k n))):Own P main F Stop (G (b.at a (.inRegion ops (i::rest)::kk)) cs) w:=by
 have e1:execOp a.eval o=callFunc f #[.pointer (some ad),.int k n]:=exec_extern hop (by simp[hx,hy])
 refine own_val (w':=w.setCell ad (.int k n)) ho hw hk (fun d=>?_) (fun d=>⟨0,by simpa [setCell_at']using grew_setCell (w:=w.at d) hs hnh (.int k n)⟩) (fun d e hm=>?_) h
 ·have hc':(w.at d).cell? ad=some v:=hc
  have hz':(w.at d).frozen? ad=false:=hfz
  rw[e1,run_callFunc_extern hf hname hb hn he]
  change(Sem.run P (do
   store (← asAddr (.pointer (some ad))) (.int k n) .atomic
   pure (Value.tuple #[])) (w.at d)).andThen _=_
  simp[asAddr,hc',hz',run_store P (w.at d) ad (.int k n) .atomic rfl,Result.andThen,setCell_at']
 ·have hc':(w.at d).cell? ad=some v:=hc
  have hz':(w.at d).frozen? ad=false:=hfz
  rw[e1,events_callFunc_extern hf hname hb hn he]at hm
  change e∈Sem.events P (do
   store (← asAddr (.pointer (some ad))) (.int k n) .atomic
   pure (Value.tuple #[])) (w.at d) _ at hm
  simp[asAddr,hc',hz',run_store P (w.at d) ad (.int k n) .atomic rfl,events_store P (w.at d) _ ad (.int k n) .atomic rfl]at hm
  rcases hm with rfl|rfl
  ·exact evT_ext f
  ·exact evT_write _ _ hnh
theorem own_cas_int{x y z:Operand}(ho:ops[i]? =some o)(hw:Region.wanted o (yielded ops a.tmps)=true)(hk:b.kind≠.early)(hop:o.op= .call {callee:=.value (.func f),args:= #[x,y,z],argTypes:=ats})
 (hf : P.funcs[f]? = some fn) (hname : (fn.name == "runtime.NumGoroutine") = false) (hb : fn.body.isNone = true) (hn : Extern.findNext fn = none)
 (he:Extern.find fn=some (Extern.Atomic.casT (.int k))) {ad:Addr} {v u n:Int} {t:Bool} (ht:(v == u)=t) (hs:ad.spot=none) (hx:a.eval x= .pointer (some ad)) (hy:a.eval y= .int k u) (hz:a.eval z= .int k n) (hc:w.cell? ad=some (.int k v)) (hfz:w.frozen? ad=false) (hnh:¬held F ad)
 (h:Own P main F Stop (G (b.at (a.put o.dst (.bool t)) (.inRegion ops rest::kk)) cs) (if t then w.setCell ad (.int k n)else w)):Own P main F Stop (G (b.at a (.inRegion ops (i::rest)::kk)) cs) w:=by
 have e1:execOp a.eval o=callFunc f #[.pointer (some ad),.int k u,.int k n]:=exec_extern hop (by simp[hx,hy,hz])
 refine own_val (w':=if t then w.setCell ad (.int k n)else w) ho hw hk (fun d=>?_) (fun d=>?_) (fun d e hm=>?_) h
 ·have hc':(w.at d).cell? ad=some (.int k v):=hc
  have hz':(w.at d).frozen? ad=false:=hfz
  rw[e1,run_callFunc_extern hf hname hb hn he]
  change(Sem.run P (do
   let a' ← asAddr (.pointer (some ad))
   if ← Extern.Atomic.touchesFrozen a' then unsupported (.unsafePointer "a write to bytes that a string shares")
   let eq ← match Extern.Atomic.T.int k,← Extern.Atomic.read (.int k) a',Value.int k u with
    | _,.int _ x,.int _ y=>pure (x == y)
    | .ptr,.pointer x,.pointer y=>samePointer x y
    | .int _,.pointer (some _),.int _ 0| .int _,.int _ 0,.pointer (some _)=>pure false
    | .int _,.pointer (some _),_| .int _,_,.pointer (some _)=>unsupported .addressObserved
    | _, _, _ => stuck "atomic.CompareAndSwap: old is no T"
   if eq then store a' (.int k n) .atomic
   pure (Value.bool eq)) (w.at d)).andThen _=_
  have hv:if t=true then v=u else ¬v=u:=by cases t<;>simpa using ht
  cases t<;>simp only[if_true,Bool.false_eq_true,if_false]at hv<;>simp[Extern.Atomic.touchesFrozen,Extern.Atomic.read,asAddr,viewAt,World.shape?_isSome_of_cell? hc',hc',hz',hv,run_store P (w.at d) ad (.int k n) .atomic rfl,Result.andThen,setCell_at']
 ·cases t
  ·exact⟨0,Grew.refl _ _⟩
  ·exact⟨0,by simpa [setCell_at']using grew_setCell (w:=w.at d) hs hnh (.int k n)⟩
 ·have hc':(w.at d).cell? ad=some (.int k v):=hc
  have hz':(w.at d).frozen? ad=false:=hfz
  rw[e1,events_callFunc_extern hf hname hb hn he]at hm
  change e∈Sem.events P (do
   let a' ← asAddr (.pointer (some ad))
   if ← Extern.Atomic.touchesFrozen a' then unsupported (.unsafePointer "a write to bytes that a string shares")
   let eq ← match Extern.Atomic.T.int k,← Extern.Atomic.read (.int k) a',Value.int k u with
    | _,.int _ x,.int _ y=>pure (x == y)
    | .ptr,.pointer x,.pointer y=>samePointer x y
    | .int _,.pointer (some _),.int _ 0| .int _,.int _ 0,.pointer (some _)=>pure false
    | .int _,.pointer (some _),_| .int _,_,.pointer (some _)=>unsupported .addressObserved
    | _, _, _ => stuck "atomic.CompareAndSwap: old is no T"
   if eq then store a' (.int k n) .atomic
   pure (Value.bool eq)) (w.at d) _ at hm
  have hv:if t=true then v=u else ¬v=u:=by cases t<;>simpa using ht
  cases t<;>simp only[if_true,Bool.false_eq_true,if_false]at hv<;>simp[Extern.Atomic.touchesFrozen,Extern.Atomic.read,asAddr,viewAt,World.shape?_isSome_of_cell? hc',hc',hz',hv,events_load,run_store P (w.at d) ad (.int k n) .atomic rfl,events_store P (w.at d) _ ad (.int k n) .atomic rfl]at hm
  ·rcases hm with rfl|rfl
   ·exact evT_ext f
   ·exact evT_read _ _
  ·rcases hm with rfl|rfl|rfl
   ·exact evT_ext f
   ·exact evT_read _ _
   ·exact evT_write _ _ hnh
end
variable{F:Fz}{w:World}
def ailBody:Code:=Try.f54.body.getD .skip
def ails0:=pC [] ailBody
def ailr0:=pC [zt] ailBody
def ails1:=pC [zf] ailBody
def ailr1:=pC [zf,zt] ailBody
theorem ails0':ails0= .seq ailr0 ails1:=by kernel_rfl
theorem ailr0':ailr0= .region 0 (oC ailr0) false:=by kernel_rfl
theorem ails1':ails1= .seq ailr1 .ret:=by kernel_rfl
theorem ailr1':ailr1= .region 1 (oC ailr1) false:=by kernel_rfl
theorem enter_ail(args:Array Value):Frame.enter Try.prog 54 args .normal=(Go.Conc.base 54).at {tmps:=args++Array.replicate (7 - args.size) undef,defers:=[]} [.code ails0]:=enter_at args Try.func54 rfl
theorem callable54:Callable 54:=callable Try.func54 rfl rfl
def aisBody:Code:=Try.f52.body.getD .skip
def aisr0:=pC [] aisBody
theorem aisr0':aisr0= .region 0 (oC aisr0) false:=by kernel_rfl
theorem enter_ais(args:Array Value):Frame.enter Try.prog 52 args .normal=(Go.Conc.base 52).at {tmps:=args++Array.replicate (9 - args.size) undef,defers:=[]} [.code aisr0]:=enter_at args Try.func52 rfl
theorem callable52:Callable 52:=callable Try.func52 rfl rfl
theorem callable133:Callable 133:=callable Try.func133 rfl rfl
theorem call_step (a : Addr) (w : World) : (callMethod (.iface 173 (.pointer (some a))) "Step" #[]).run Try.prog w = .ok (.enter 133 #[.pointer (some a)]) w := by kernel_rfl
theorem call_stepE (a : Addr) (w : World) (es : Array Event) : (callMethod (.iface 173 (.pointer (some a))) "Step" #[]).events Try.prog w es = es := by kernel_rfl
@[go_sem] theorem neq_nilE(t:TypeId)(v:Value)(w:World)(es:Array Event):(binOp .neq 105 (.iface t v) .nilIface).events Try.prog w es=es:=by kernel_rfl
structure StK where
 t:TypeId
 f:FuncId
 cb:Callable f
 run : ∀ a w, (callMethod (.iface t (.pointer (some a))) "Step" #[]).run Try.prog w = .ok (.enter f #[.pointer (some a)]) w
 ev : ∀ a w es, (callMethod (.iface t (.pointer (some a))) "Step" #[]).events Try.prog w es = es
def stK:StK:=⟨173,133,callable133,call_step,call_stepE⟩
theorem own_ldI{ad:Addr}{v:Int}(hc:w.cell? ad=some (.int .i64 v))(hs:ad.spot=none){c:Frame}{cs:List Frame}{main:Bool}{Stop:Goroutine→World→Prop}(h:Own Try.prog main F Stop (G (c.finish (.int .i64 v)) cs) (w)):
 Own Try.prog main F Stop (G (Frame.enter Try.prog 54 #[.pointer (some ad)] .normal) (c::cs)) w:=by
 obtain⟨ab,ao,asp⟩:=ad
 simp only at hs
 subst hs
 rw[enter_ail]
 walk_nrm
 refine ogSR ails0' ailr0' ?_
 simp only[ailr0,ailBody,Try.f54,zz,Nat.reduceAdd]
 (refine oW fun dd K hK=>?_;go_simp;refine qT hK ?_;clear hK K)
 refine ogE ?_
 refine ogSR ails1' ailr1' ?_
 simp only[ailr1,ailBody,Try.f54,zz,Nat.reduceAdd]
 iterate 3 (refine oW fun dd K hK=>?_;go_simp;refine qT hK ?_;clear hK K)
 refine own_load_int (k:=.i64) (f:=88) (fn:=Try.f88) rfl rfl (by decide) rfl Try.func88 rfl rfl rfl rfl rfl hc ?_
 walk_nrm
 (refine oW fun dd K hK=>?_;go_simp;refine qT hK ?_;clear hK K)
 refine ogE ?_
 refine ogX ?_
 refine own_go rfl (fun d=>stepG_leave (fn:=Try.f54) (v:=.int .i64 v) rfl rfl Try.func54 (by simp[results,Try.f54]) (by simp[results,Try.f54,go_sem])) ?_
 exact h
theorem own_stI{ad:Addr}{u:Value}{v:Int}(hc:w.cell? ad=some u)(hs:ad.spot=none)(hz:w.frozen? ad=false)(hnh:¬held F ad){c:Frame}{cs:List Frame}{main:Bool}{Stop:Goroutine→World→Prop}(h:Own Try.prog main F Stop (G (c.finish (.tuple #[])) cs) (w.setCell ad (.int .i64 v))):
 Own Try.prog main F Stop (G (Frame.enter Try.prog 52 #[.pointer (some ad),.int .i64 v] .normal) (c::cs)) w:=by
 obtain⟨ab,ao,asp⟩:=ad
 simp only at hs
 subst hs
 rw[enter_ais]
 walk_nrm
 rw[aisr0']
 refine ogR ?_
 simp only[aisr0,aisBody,Try.f52,zz,Nat.reduceAdd]
 iterate 4 (refine oW fun dd K hK=>?_;go_simp;refine qT hK ?_;clear hK K)
 refine own_store_int (k:=.i64) (f:=87) (fn:=Try.f87) rfl rfl (by decide) rfl Try.func87 rfl rfl rfl rfl rfl rfl rfl hc hz hnh ?_
 walk_nrm
 refine ogE ?_
 refine own_go rfl (fun d=>stepG_end) ?_
 refine own_go rfl (fun d=>stepG_leave (fn:=Try.f52) (v:=.tuple #[]) rfl rfl Try.func52 (by simp[results,Try.f52]) (by simp[results,Try.f52,go_sem])) ?_
 exact h
end
section
variable{F:Fz}{w:World}
theorem grew3{ab:Nat}(h:∀k,¬held F ⟨ab,k,none⟩)(x y z:Value):Grew F w (((w.setCell ⟨ab,0,none⟩ x).setCell ⟨ab,1,none⟩ y).setCell ⟨ab,2,none⟩ z) 0:=
 ((grew_setCell rfl (h 0) x).trans (grew_setCell rfl (h 1) y)).trans (grew_setCell rfl (h 2) z)
structure Ans(w:World)(ab:Nat):Prop where
 o:∃x y z,w.heap[ab]? =some (.cells #[x,y,z] 44 (0,0))
theorem Ans.c{ab:Nat}(h:Ans w ab):∃x y z,w.cell? ⟨ab,0,none⟩=some x∧w.cell? ⟨ab,1,none⟩=some y∧w.cell? ⟨ab,2,none⟩=some z:=by
 obtain⟨x,y,z,h⟩:=h.o
 exact⟨x,y,z,by simp[World.cell?,h],by simp[World.cell?,h],by simp[World.cell?,h]⟩
theorem Ans.z{ab:Nat}(h:Ans w ab)(k:Nat):w.frozen? ⟨ab,k,none⟩=false:=by
 obtain⟨x,y,z,h⟩:=h.o
 simp[World.frozen?,h]
theorem built46(b:Bool):Try.prog.built 44 [(0,.bool b)]=some #[.bool b,.int .i64 0,.slice none 0 0]:=by kernel_rfl
@[go_sem] theorem run_build46(b:Bool)(w:World):(Instr.build 44 #[(0,.bool b)]).run Try.prog w= .ok (.agg #[.bool b,.int .i64 0,.slice none 0 0]) w:=run_build w _ _ _ (built46 b)
@[go_sem] theorem ev_build46(b:Bool)(w:World)(es:Array Event):(Instr.build 44 #[(0,.bool b)]).events Try.prog w es=es:=ev_build w es _ _ _ _ Try.underlying44 (built46 b)
theorem built46n(b:Bool)(n:Int):Try.prog.built 44 [(0,.bool b),(1,.int .i64 n)]=some #[.bool b,.int .i64 n,.slice none 0 0]:=by kernel_rfl
@[go_sem] theorem run_build46n(b:Bool)(n:Int)(w:World):(Instr.build 44 #[(0,.bool b),(1,.int .i64 n)]).run Try.prog w= .ok (.agg #[.bool b,.int .i64 n,.slice none 0 0]) w:=run_build w _ _ _ (built46n b n)
@[go_sem] theorem ev_build46n(b:Bool)(n:Int)(w:World)(es:Array Event):(Instr.build 44 #[(0,.bool b),(1,.int .i64 n)]).events Try.prog w es=es:=ev_build w es _ _ _ _ Try.underlying44 (built46n b n)
theorem built46z:Try.prog.built 44 []=some #[.bool false,.int .i64 0,.slice none 0 0]:=by kernel_rfl
@[go_sem] theorem run_build46z(w:World):(Instr.build 44 #[]).run Try.prog w= .ok (.agg #[.bool false,.int .i64 0,.slice none 0 0]) w:=run_build w _ _ _ built46z
@[go_sem] theorem ev_build46z(w:World)(es:Array Event):(Instr.build 44 #[]).events Try.prog w es=es:=ev_build w es _ _ _ _ Try.underlying44 built46z
end
noncomputable section
variable{F:Fz}{w:World}
theorem grew4{ab:Nat}(h:∀k,¬held F ⟨ab,k,none⟩)(x y z u:Value):Grew F w ((((w.setCell ⟨ab,0,none⟩ x).setCell ⟨ab,1,none⟩ y).setCell ⟨ab,2,none⟩ z).setCell ⟨ab,3,none⟩ u) 0:=
 (grew3 h x y z).trans (grew_setCell rfl (h 3) u)
theorem opW_new(X:World)(x y z u x' y' z' u':Value):((((X.alloc (.cells #[x,y,z,u] 47)).setCell ⟨X.heap.size,0,none⟩ x').setCell ⟨X.heap.size,1,none⟩ y').setCell ⟨X.heap.size,2,none⟩ z').setCell ⟨X.heap.size,3,none⟩ u'=X.alloc (.cells #[x',y',z',u'] 47):=by go_simp
@[go_sem] theorem neq_nilfE(f:Fn)(x c:Array Value)(w:World)(es:Array Event):(binOp .neq 98 (.func f x c) .nilFunc).events Try.prog w es=es:=by kernel_rfl
def dgBody:Code:=Try.f99.body.getD .skip
def dgs0:=pC [] dgBody
def dgr0:=pC [zt] dgBody
def dgb0:=pC [zf] dgBody
def dgl1:=pC [zf,zt] dgBody
def dgs2:=pC [zf,zt,zt] dgBody
def dgr1:=pC [zf,zt,zt,zt] dgBody
def dgs3:=pC [zf,zt,zt,zf] dgBody
def dgc12:=pC [zf,zt,zt,zf,zt] dgBody
def dgs4:=pC [zf,zt,zt,zf,zf] dgBody
def dgb1:=pC [zf,zt,zt,zf,zf,zt] dgBody
def dgs5:=pC [zf,zt,zt,zf,zf,zt,zt] dgBody
def dgr2:=pC [zf,zt,zt,zf,zf,zt,zt,zt] dgBody
def dgs6:=pC [zf,zt,zt,zf,zf,zt,zt,zf] dgBody
def dgr3:=pC [zf,zt,zt,zf,zf,zt,zt,zf,zt] dgBody
def dgs7:=pC [zf,zt,zt,zf,zf,zt,zt,zf,zf] dgBody
def dgs8:=pC [zf,zt,zt,zf,zf,zt,zt,zf,zf,zt] dgBody
def dgr4:=pC [zf,zt,zt,zf,zf,zt,zt,zf,zf,zt,zt] dgBody
def dgc16:=pC [zf,zt,zt,zf,zf,zt,zt,zf,zf,zt,zf] dgBody
def dgr5:=pC [zf,zt,zt,zf,zf,zt,zt,zf,zf,zt,zf,zt] dgBody
def dgr6:=pC [zf,zt,zt,zf,zf,zt,zt,zf,zf,zf] dgBody
def dgr7:=pC [zf,zt,zt,zf,zf,zf] dgBody
theorem dgs0':dgs0= .seq dgr0 dgb0:=by kernel_rfl
theorem dgr0':dgr0= .region 0 (oC dgr0) false:=by kernel_rfl
theorem dgb0':dgb0= .block 0 dgl1:=by kernel_rfl
theorem dgl1':dgl1= .loop dgs2:=by kernel_rfl
theorem dgs2':dgs2= .seq dgr1 dgs3:=by kernel_rfl
theorem dgr1':dgr1= .region 1 (oC dgr1) false:=by kernel_rfl
theorem dgs3':dgs3= .seq dgc12 dgs4:=by kernel_rfl
theorem dgc12':dgc12= .cond (.tmp 12) .skip (.exit 0):=by kernel_rfl
theorem dgs4':dgs4= .seq dgb1 dgr7:=by kernel_rfl
theorem dgb1':dgb1= .block 1 dgs5:=by kernel_rfl
theorem dgs5':dgs5= .seq dgr2 dgs6:=by kernel_rfl
theorem dgr2':dgr2= .region 2 (oC dgr2) false:=by kernel_rfl
theorem dgs6':dgs6= .seq dgr3 dgs7:=by kernel_rfl
theorem dgr3':dgr3= .region 3 (oC dgr3) false:=by kernel_rfl
theorem dgs7':dgs7= .seq dgs8 dgr6:=by kernel_rfl
theorem dgs8':dgs8= .seq dgr4 dgc16:=by kernel_rfl
theorem dgr4':dgr4= .region 4 (oC dgr4) false:=by kernel_rfl
theorem dgc16':dgc16= .cond (.tmp 16) dgr5 .skip:=by kernel_rfl
theorem dgr5':dgr5= .region 5 (oC dgr5) false:=by kernel_rfl
theorem dgr6':dgr6= .region 6 (oC dgr6) true:=by kernel_rfl
theorem dgr7':dgr7= .region 7 (oC dgr7) false:=by kernel_rfl
theorem enter_dg(args:Array Value):Frame.enter Try.prog 99 args .normal=(Go.Conc.base 99).at {tmps:=args++Array.replicate (33 - args.size) undef,defers:=[]} [.code dgs0]:=enter_at args Try.func99 rfl
theorem callable99:Callable 99:=callable Try.func99 rfl rfl
def dgT(s:Nat→Value):Array Value:= #[s 0,s 1,s 2,s 3,s 4,s 5,s 6,s 7,s 8,s 9,s 10,s 11,s 12,s 13,s 14,s 15,s 16,s 17,s 18,s 19,s 20,s 21,s 22,s 23,s 24,s 25,s 26,s 27,s 28,s 29,s 30,s 31,s 32]
theorem dgT_of{A:Array Value}(h:A.size=33):∃s,A=dgT s:=by
 obtain⟨s,hs,_⟩:=arr_lit A h
 exact⟨s,hs⟩
theorem dg_0{sv:Value}{ob db ib av:Nat}{oa:Option Addr}{ol oc:Nat}(c1:w.cell? ⟨ob,0,none⟩=some (.slice oa ol oc))(z1:w.frozen? ⟨ob,0,none⟩=false){cs:List Frame}{main:Bool}{Stop:Goroutine→World→Prop}
 (h:∀A,Slots 33 A [(0,sv),(1,.pointer (some ⟨ob,0,none⟩)),(2,.pointer (some ⟨db,0,none⟩)),(3,.pointer (some ⟨ib,0,none⟩)),(4,.pointer (some ⟨av,0,none⟩)),(9,.slice oa ol oc),(10,.int .i64 ol),(11,.int .i64 (0:Nat))]→Own Try.prog main F Stop (G ((Go.Conc.base 99).at ⟨A,[]⟩ [.code dgs2,.inLoop dgs2,.inBlock 0]) cs) w):
 Own Try.prog main F Stop (G (Frame.enter Try.prog 99 #[sv,.pointer (some ⟨ob,0,none⟩),.pointer (some ⟨db,0,none⟩),.pointer (some ⟨ib,0,none⟩),.pointer (some ⟨av,0,none⟩)] .normal) cs) w:=by
 rw[enter_dg]
 walk_nrm
 refine ogSR dgs0' dgr0' ?_
 simp only[dgr0,dgBody,Try.f99,zz,Nat.reduceAdd]
 (refine oW fun dd K hK=>?_;go_simp;refine qL hK ?_;clear hK K)
 iterate 2 (refine oW fun dd K hK=>?_;go_simp;refine qT hK ?_;clear hK K)
 refine ogE ?_
 rw[dgb0']
 refine ogB ?_
 rw[dgl1']
 refine ogP ?_
 refine h _ ?_
 exact⟨rfl,rfl,rfl,rfl,rfl,rfl,rfl,rfl,rfl,trivial⟩
theorem dg_3{sv:Value}{ob db ib av:Nat}{oa:Option Addr}{ol oc:Nat}{A:Array Value}(hA:Slots 33 A [(0,sv),(1,.pointer (some ⟨ob,0,none⟩)),(2,.pointer (some ⟨db,0,none⟩)),(3,.pointer (some ⟨ib,0,none⟩)),(4,.pointer (some ⟨av,0,none⟩)),(9,.slice oa ol oc),(10,.int .i64 ol),(11,.int .i64 ol)]){c:Frame}{cs:List Frame}{main:Bool}{Stop:Goroutine→World→Prop}
 (h:Own Try.prog main F Stop (G (c.finish (.tuple #[])) cs) w):
 Own Try.prog main F Stop (G ((Go.Conc.base 99).at ⟨A,[]⟩ [.code dgs2,.inLoop dgs2,.inBlock 0]) (c::cs)) w:=by
 obtain⟨hsz,h0,h1,h2,h3,h4,h9,h10,h11,_⟩:=hA
 obtain⟨s,rfl⟩:=dgT_of hsz
 change s 0=_ at h0
 change s 1=_ at h1
 change s 2=_ at h2
 change s 3=_ at h3
 change s 4=_ at h4
 change s 9=_ at h9
 change s 10=_ at h10
 change s 11=_ at h11
 clear hsz
 simp only[dgT,h0,h1,h2,h3,h4,h9,h10,h11]
 clear h0 h1 h2 h3 h4 h9 h10 h11
 have hlt:decide ((ol:Int)<(ol:Int))=false:=by simp
 refine ogSR dgs2' dgr1' ?_
 simp only[dgr1,dgBody,Try.f99,zz,Nat.reduceAdd]
 (refine oW fun dd K hK=>?_;go_simp;refine qT hK ?_;clear hK K)
 refine ogE ?_
 refine ogSE dgs3' ?_
 rw[dgc12']
 refine ogF ?_
 simp only[Bool.false_eq_true,if_false]
 refine own_go rfl (fun d=>stepG_exit rfl) ?_
 refine own_go rfl (fun d=>stepG_end) ?_
 refine own_go rfl (fun d=>stepG_leave (fn:=Try.f99) (v:=.tuple #[]) rfl rfl Try.func99 (by simp[results,Try.f99]) (by simp[results,Try.f99,go_sem])) ?_
 exact h
theorem dg_1{n:Nat}(hU:Under F n)(hn:n≤w.heap.size){sv:Value}{ob db ib av:Nat}{opb oo ol oc k df:Nat}{i:Nat}{kd a b c0:Int}{first capt:Array Value}(hdf:Callable df)(hkl:k<ol)(hol:ol≤65536)(cd:w.cell? ⟨db,0,none⟩=some (.func (.func df) first capt))(zd:w.frozen? ⟨db,0,none⟩=false)(ci:w.cell? ⟨ib,0,none⟩=some (.int .i64 i))(zi:w.frozen? ⟨ib,0,none⟩=false)(ld:db<w.heap.size)(li:ib<w.heap.size)(f0:w.cell? ⟨opb,oo+k*4,none⟩=some (.int .i64 kd))(f1:w.cell? ⟨opb,oo+k*4+1,none⟩=some (.int .i64 a))(f2:w.cell? ⟨opb,oo+k*4+2,none⟩=some (.int .i64 b))(f3:w.cell? ⟨opb,oo+k*4+3,none⟩=some (.int .i64 c0))(g0:w.frozen? ⟨opb,oo+k*4,none⟩=false)(g1:w.frozen? ⟨opb,oo+k*4+1,none⟩=false)(g2:w.frozen? ⟨opb,oo+k*4+2,none⟩=false)(g3:w.frozen? ⟨opb,oo+k*4+3,none⟩=false){A:Array Value}(hA:Slots 33 A [(0,sv),(1,.pointer (some ⟨ob,0,none⟩)),(2,.pointer (some ⟨db,0,none⟩)),(3,.pointer (some ⟨ib,0,none⟩)),(4,.pointer (some ⟨av,0,none⟩)),(9,.slice (some ⟨opb,oo,none⟩) ol oc),(10,.int .i64 ol),(11,.int .i64 k)]){cs:List Frame}{main:Bool}{Stop:Goroutine→World→Prop}
 (h:∀A,Slots 33 A [(0,sv),(1,.pointer (some ⟨ob,0,none⟩)),(2,.pointer (some ⟨db,0,none⟩)),(3,.pointer (some ⟨ib,0,none⟩)),(4,.pointer (some ⟨av,0,none⟩)),(7,.pointer (some ⟨w.heap.size,0,none⟩)),(8,.pointer (some ⟨w.heap.size+1,0,none⟩)),(9,.slice (some ⟨opb,oo,none⟩) ol oc),(10,.int .i64 ol),(11,.int .i64 k)]→Own Try.prog main F Stop (G (Frame.enter Try.prog df (first++ #[sv,.int .i64 i,.agg #[.int .i64 kd,.int .i64 a,.int .i64 b,.int .i64 c0]]++capt) .normal) (((Go.Conc.base 99).at ⟨A,[]⟩ [.inRegion (oC dgr5) [4,5],.code dgr6,.inBlock 1,.code dgr7,.inLoop dgs2,.inBlock 0])::cs)) ((w.alloc (.cells #[.int .i64 kd,.int .i64 a,.int .i64 b,.int .i64 c0] 47)).alloc (.cells #[.bool false,.int .i64 0,.slice none 0 0] 44))):
 Own Try.prog main F Stop (G ((Go.Conc.base 99).at ⟨A,[]⟩ [.code dgs2,.inLoop dgs2,.inBlock 0]) cs) w:=by
 obtain⟨hsz,h0,h1,h2,h3,h4,h9,h10,h11,_⟩:=hA
 obtain⟨s,rfl⟩:=dgT_of hsz
 change s 0=_ at h0
 change s 1=_ at h1
 change s 2=_ at h2
 change s 3=_ at h3
 change s 4=_ at h4
 change s 9=_ at h9
 change s 10=_ at h10
 change s 11=_ at h11
 clear hsz
 simp only[dgT,h0,h1,h2,h3,h4,h9,h10,h11]
 clear h0 h1 h2 h3 h4 h9 h10 h11
 have hlt:decide ((k:Int)<(ol:Int))=true:=by simp;omega
 have hlt2:decide (k<ol)=true:=by simp;omega
 refine ogSR dgs2' dgr1' ?_
 simp only[dgr1,dgBody,Try.f99,zz,Nat.reduceAdd]
 (refine oW fun dd K hK=>?_;go_simp;refine qT hK ?_;clear hK K)
 refine ogE ?_
 refine ogSE dgs3' ?_
 rw[dgc12']
 refine ogT ?_
 simp only[if_true]
 refine ogK ?_
 refine ogSE dgs4' ?_
 rw[dgb1']
 refine ogB ?_
 refine ogSR dgs5' dgr2' ?_
 simp only[dgr2,dgBody,Try.f99,zz,Nat.reduceAdd]
 (refine oW fun dd K hK=>?_;go_simp;refine qX hK ?_;clear hK K)
 (refine oW fun dd K hK=>?_;go_simp;refine hK _ _ ⟨⟨⟨0,Grew.refl _ _⟩,fun e he=>by(have hm:=mem_listed he;clear he hK;simp[go_sem,f0,f1,f2,f3,g0,g1,g2,g3]at hm;rcases hm with rfl|rfl|rfl|rfl<;>exact evT_read _ _)⟩,Own.at ?_ dd⟩;clear hK K)
 (refine oW fun dd K hK=>?_;go_simp;refine qA hK hU ?_;clear hK K)
 (refine oW fun dd K hK=>?_;go_simp;refine hK _ _ ⟨⟨⟨0,grew4 (fun k=>not_held hU (show n≤w.heap.size by omega)) _ _ _ _⟩,fun e he=>by(have hm:=mem_listed he;clear he hK;simp[go_sem,storedEv]at hm;rcases hm with rfl|rfl|rfl|rfl<;>exact evT_write _ _ ((fun k=>not_held hU (show n≤w.heap.size by omega)) _))⟩,?_⟩;clear hK K;simp only[setCell_at'];refine Own.at ?_ dd)
 have e1:=opW_new w (.int .i64 0) (.int .i64 0) (.int .i64 0) (.int .i64 0) (.int .i64 kd) (.int .i64 a) (.int .i64 b) (.int .i64 c0)
 rw[e1]
 clear e1
 refine ogE ?_
 refine ogSR dgs6' dgr3' ?_
 simp only[dgr3,dgBody,Try.f99,zz,Nat.reduceAdd]
 (refine oW fun dd K hK=>?_;go_simp;refine qA hK hU ?_;clear hK K)
 refine ogE ?_
 refine ogSE dgs7' ?_
 refine ogSR dgs8' dgr4' ?_
 simp only[dgr4,dgBody,Try.f99,zz,Nat.reduceAdd]
 (refine oW fun dd K hK=>?_;go_simp;refine qL hK ?_;clear hK K)
 (refine oW fun dd K hK=>?_;go_simp;refine qT hK ?_;clear hK K)
 refine ogE ?_
 rw[dgc16']
 refine ogT ?_
 simp only[if_true]
 rw[dgr5']
 refine ogR ?_
 simp only[dgr5,dgBody,Try.f99,zz,Nat.reduceAdd]
 (refine oW fun dd K hK=>?_;go_simp;refine qL hK ?_;clear hK K)
 (refine oW fun dd K hK=>?_;go_simp;refine qT hK ?_;clear hK K)
 (refine oW fun dd K hK=>?_;go_simp;refine qL hK ?_;clear hK K)
 (refine oW fun dd K hK=>?_;go_simp;refine hK _ _ ⟨⟨⟨0,Grew.refl _ _⟩,fun e he=>by(have hm:=mem_listed he;clear he hK;simp[go_sem]at hm;rcases hm with rfl|rfl|rfl|rfl<;>exact evT_read _ _)⟩,Own.at ?_ dd⟩;clear hK K)
 refine own_call (f:=df) (args:=first++ #[sv,.int .i64 i,.agg #[.int .i64 kd,.int .i64 a,.int .i64 b,.int .i64 c0]]++capt) rfl rfl (by decide) (fun w=>by simp[execOp,Act.eval,resolve,invoke,Deferred.ofValue,hdf.run]) (fun w=>by simp[execOp,Act.eval,resolve,invoke,Deferred.ofValue,hdf.run,hdf.quiet]) ?_
 refine h _ ?_
 exact⟨rfl,rfl,rfl,rfl,rfl,rfl,rfl,rfl,rfl,rfl,rfl,trivial⟩
end
end Go.Proofs.Ytlcgkpapnpdfpaa
