/-
  Of SeqlockPlays: every run by a schedule is the machine's of the same steps. No condition.
  Part 4 of 6.
-/
import Derived.Test.YtlcgkpapnpdfpaaZC
import Derived.Laws.BitsLemmas
import Derived.Laws.Bits64
import Derived.Laws.LoneSync
import Derived.Laws.MakeOwn
import Derived.Deep.DrawnRows
import Derived.Deep.RegionLaw
import Derived.Deep.RegionLawGrows
import Derived.Deep.DeepAppendRoom
import Derived.ArgAppend
import Derived.Deep.LoopGhost
import Derived.StillTailTactics
set_option linter.unusedSimpArgs false
set_option linter.unusedVariables false
set_option linter.unusedSectionVars false
set_option maxRecDepth 100000
set_option maxHeartbeats 8000000
namespace Go.Proofs.Ytlcgkpapnpdfpaa
open Go Go.Conc Go.RowKit Go.Proofs
section
variable{F:Fz}{w w':World}{lb st:Nat}
theorem sv_w{n kd ph r T i:Nat}{v a:Int}{vs:List Int}(hp:(kd,ph)∈[(1,0),(1,1),(1,2),(1,3),(2,0),(2,1),(2,2),(2,3)])(hT:T≤1024)(hr:r<T)(hi:i<n)(hv:vs.length=n):SeV n ⟨kd,ph,r,T,v,i,[],vs,a⟩:=by
 simp only[List.mem_cons,Prod.mk.injEq,List.not_mem_nil,or_false]at hp
 rcases hp with⟨rfl,rfl⟩|⟨rfl,rfl⟩|⟨rfl,rfl⟩|⟨rfl,rfl⟩|⟨rfl,rfl⟩|⟨rfl,rfl⟩|⟨rfl,rfl⟩|⟨rfl,rfl⟩<;>exact⟨by simp,hT,hr,hi,fun _=>⟨hv,rfl⟩,fun h=>by simp at h,fun h=>by simp at h,fun h=>by simp at h⟩
theorem vget{vs:List Int}{i:Nat}(h:i<vs.length):(vs.map fun v=>Value.int .i64 v)[i]? =some (.int .i64 (vs.getD i 0)):=by simp[List.getD_eq_getElem?_getD,h]
theorem SCU.turn{c c':SeC}(h:SCU c w)(h1:c'.ab=c.ab)(h2:c'.rb=c.rb)(h3:c'.vv=c.vv)(h4:c'.c.vs=c.c.vs)(h5:c'.ov=c.ov)(h6:c'.c.out=c.c.out):SCU c' w:=by
 refine⟨h1 ▸ h.a,h2 ▸ h.r,by rw[h1,h2];exact h.ne,by rw[h3,h4];exact h.vv,by rw[h5,h6];exact h.ov,by rw[h1,h2,h3];exact h.vn,by rw[h1,h2,h5];exact h.on⟩
theorem scr_turn{c c':SeC}(h1:c'.ab=c.ab)(h2:c'.rb=c.rb)(h3:c'.vv=c.vv)(h5:c'.ov=c.ov){m:Nat}(q:Nat)(h:SCR c' q):SCR c q∨m≤q:=by
 left
 unfold SCR at h ⊢
 rw[← h1,← h2,← h3,← h5]
 exact h
theorem SCU.keep{c:SeC}{s:SS}(h:SCU c w)(hdis:∀q,SCR c q→¬SR lb s q)(hsame:∀q,¬SR lb s q→w'.heap[q]? =w.heap[q]?):SCU c w':=h.same fun q hq=>hsame q (hdis q hq)
theorem setV_same{s:SS}{v:Value}{k:Nat}:∀q,¬SR lb s q→(w.setCell ⟨lb,k,none⟩ v).heap[q]? =w.heap[q]?:=fun q hq=>heap_setCell_ne _ _ _ fun e=>hq (.inl e)
theorem setW_same{s:SS}{v:Value}{k:Nat}:∀q,¬SR lb s q→(w.setCell ⟨s.wb,k,none⟩ v).heap[q]? =w.heap[q]?:=fun q hq=>heap_setCell_ne _ _ _ fun e=>hq (.inr e)
section
variable{s:SS}{r T i:Nat}{v a:Int}{out vs:List Int}{A A1 A2 A3:Array Value}{ab rb:Nat}{vv ov:Value}
theorem s_again1{nv:Int}{ph:Nat}{la:Option Addr}{ll lc:Nat}(hJv:SeV s.n ⟨1,ph,r,T,v,i,[],vs,a⟩)(ha3:Slots 80 A3 [(8,.pointer (some ⟨rb,0,none⟩)),(11,.pointer (some ⟨ab,0,none⟩))])(hA1:Slots 63 A1 (wrS1 lb st ⟨⟨1,ph,r,T,v,i,[],vs,a⟩,A,A1,A2,A3,ab,rb,.slice la ll lc,ov⟩))(hA2:A2.size=14)(hs:SU lb s w)(hc:SCU ⟨⟨1,ph,r,T,v,i,[],vs,a⟩,A,A1,A2,A3,ab,rb,.slice la ll lc,ov⟩ w)(hdis:∀q,SCR ⟨⟨1,ph,r,T,v,i,[],vs,a⟩,A,A1,A2,A3,ab,rb,.slice la ll lc,ov⟩ q→¬SR lb s q)(hF:∀r,SR lb s r∨SCR ⟨⟨1,ph,r,T,v,i,[],vs,a⟩,A,A1,A2,A3,ab,rb,.slice la ll lc,ov⟩ r→F r=none)(b:Frame)(cs:List Frame)
 (hrel:s.k.step ⟨1,ph,r,T,v,i,[],vs,a⟩=s.k.again ⟨1,ph,r,T,v,i,[],vs,a⟩):
 Own Try.prog false F ((SLay lb).Out st s (SCR ⟨⟨1,ph,r,T,v,i,[],vs,a⟩,A,A1,A2,A3,ab,rb,.slice la ll lc,ov⟩) ((SLay lb).stp s ⟨⟨1,ph,r,T,v,i,[],vs,a⟩,A,A1,A2,A3,ab,rb,.slice la ll lc,ov⟩) w (b::cs)) (G ((fWr1 A1).finish (.tuple #[.int .i64 nv,.bool false])) (fWW A2::fDo1 A3::b::cs)) w:=by
 have hans:∀k,¬held F ⟨ab,k,none⟩:=fun k=>not_heldB (hF _ (.inr (.inl rfl))) k
 have hrbh:∀k,¬held F ⟨rb,k,none⟩:=fun k=>not_heldB (hF _ (.inr (.inr (.inl rfl)))) k
 obtain⟨_,vT,vr,vi,vvs,vo,vo2,_⟩:=hJv
 simp only at vT vr vi vvs vo vo2
 by_cases h:r+1<T
 ·refine wr_1a (sv:=stepperV st) vT h hA1 fun A1' hA1'=>bg_0 fun A' hA'=>own_sst_call (K:=stK) (.stop fun d=>?_)
  exact s_live (st:=st) (c:=⟨⟨1,ph,r,T,v,i,[],vs,a⟩,A,A1,A2,A3,ab,rb,.slice la ll lc,ov⟩) (c':=⟨⟨1,0,(r+1),T,v,i,[],vs,a⟩,A',A1',A2,A3,ab,rb,.slice la ll lc,ov⟩) (k':=s.k) (by rfl) hs (by rw[hrel];simp[SSt.again,h]) ⟨sv_w (by simp) vT h vi (vvs (by decide)).1,(by exact⟨hA',hA1',hA2⟩),ha3,fun h=>by simp at h⟩ (hc.turn rfl rfl rfl rfl rfl rfl) (scr_turn rfl rfl rfl rfl) hs hdis d
 ·refine wr_1b (sv:=stepperV st) (T:=T) (r:=r) vT (by omega) hA1 ?_
  refine ww_11 hA2 ?_
  refine do_b1 hc.a hc.r hc.ne hans hrbh ha3 fun w' hw'=>.stop fun d=>?_
  exact s_ans (st:=st) (c:=⟨⟨1,ph,r,T,v,i,[],vs,a⟩,A,A1,A2,A3,ab,rb,.slice la ll lc,ov⟩) (a:=⟨(false,0,[]),none,0,0⟩) (k':=s.k) (hs.same fun q hq=>hw'.old q (fun e=>hdis q (.inl e) hq) (fun e=>hdis q (.inr (.inl e)) hq)) (by rw[hrel];simp[SSt.again,h]) (World.ownsRow_nil _ _ _ _) (fun q h=>by simp[SA.row,Value.ownBlock]at h) hs hdis d
theorem ss_10(hJ:SJ lb st s.wb s.wo s.n ⟨⟨1,0,r,T,v,i,out,vs,a⟩,A,A1,A2,A3,ab,rb,vv,ov⟩)(hs:SU lb s w)(hc:SCU ⟨⟨1,0,r,T,v,i,out,vs,a⟩,A,A1,A2,A3,ab,rb,vv,ov⟩ w)(hdis:∀q,SCR ⟨⟨1,0,r,T,v,i,out,vs,a⟩,A,A1,A2,A3,ab,rb,vv,ov⟩ q→¬SR lb s q)(hwf:Wf F w)(hF:∀r,SR lb s r∨SCR ⟨⟨1,0,r,T,v,i,out,vs,a⟩,A,A1,A2,A3,ab,rb,vv,ov⟩ r→F r=none)(b:Frame)(cs:List Frame):
 Own Try.prog false F ((SLay lb).Out st s (SCR ⟨⟨1,0,r,T,v,i,out,vs,a⟩,A,A1,A2,A3,ab,rb,vv,ov⟩) ((SLay lb).stp s ⟨⟨1,0,r,T,v,i,out,vs,a⟩,A,A1,A2,A3,ab,rb,vv,ov⟩) w (b::cs)) (back (.tuple #[]) ((SLay lb).cf st ⟨⟨1,0,r,T,v,i,out,vs,a⟩,A,A1,A2,A3,ab,rb,vv,ov⟩++b::cs)) w:=by
 have hlb:F lb=none:=hF _ (.inl (.inl rfl))
 have hwb:F s.wb=none:=hF _ (.inl (.inr rfl))
 have hans:∀k,¬held F ⟨ab,k,none⟩:=fun k=>not_heldB (hF _ (.inr (.inl rfl))) k
 have hrbh:∀k,¬held F ⟨rb,k,none⟩:=fun k=>not_heldB (hF _ (.inr (.inr (.inl rfl)))) k
 have hn16:=hs.wf.n2
 have hn1:=hs.wf.n1
 have hnn:s.n=s.k.ws.length:=rfl
 have hS:=hJ.s
 obtain⟨_,vT,vr,vi,vvs,vo,vo2,_⟩:=hJ.v
 simp only at vT vr vi vvs vo vo2
 obtain⟨hvl,rfl⟩:=vvs (by decide)
 obtain⟨la,ll,lc,hsl⟩:=row_slice hc.vv
 simp only at hsl
 subst hsl
 refine own_sst_back (K:=stK) (sa:=⟨st,0,none⟩) ?_
 by_cases e:s.k.ver.tmod 2=0
 ·refine bg_1b (sv:=stepperV st) (v:=s.k.ver) (by simp[e]) hs.v.c hS.1 fun A' hA'=>own_sst_call (K:=stK) (.stop fun d=>?_)
  exact s_live (st:=st) (c:=⟨⟨1,0,r,T,v,i,[],vs,a⟩,A,A1,A2,A3,ab,rb,.slice la ll lc,ov⟩) (c':=⟨⟨1,1,r,T,s.k.ver,i,[],vs,a⟩,A',A1,A2,A3,ab,rb,.slice la ll lc,ov⟩) (k':=s.k) (by rfl) hs (by simp[SSt.step,SSt.wstep,e]) ⟨sv_w (by simp) vT vr vi hvl,(by exact⟨hA',hS.2.1,hS.2.2⟩),hJ.a,hJ.nvv⟩ (hc.turn rfl rfl rfl rfl rfl rfl) (scr_turn rfl rfl rfl rfl) hs hdis d
 ·refine bg_1a (sv:=stepperV st) (v:=s.k.ver) (by simpa using e) hs.v.c hS.1 ?_
  exact s_again1 hJ.v hJ.a hS.2.1 hS.2.2 hs hc hdis hF b cs (by simp[SSt.step,SSt.wstep,e])
theorem ss_11(hJ:SJ lb st s.wb s.wo s.n ⟨⟨1,1,r,T,v,i,out,vs,a⟩,A,A1,A2,A3,ab,rb,vv,ov⟩)(hs:SU lb s w)(hc:SCU ⟨⟨1,1,r,T,v,i,out,vs,a⟩,A,A1,A2,A3,ab,rb,vv,ov⟩ w)(hdis:∀q,SCR ⟨⟨1,1,r,T,v,i,out,vs,a⟩,A,A1,A2,A3,ab,rb,vv,ov⟩ q→¬SR lb s q)(hwf:Wf F w)(hF:∀r,SR lb s r∨SCR ⟨⟨1,1,r,T,v,i,out,vs,a⟩,A,A1,A2,A3,ab,rb,vv,ov⟩ r→F r=none)(b:Frame)(cs:List Frame):
 Own Try.prog false F ((SLay lb).Out st s (SCR ⟨⟨1,1,r,T,v,i,out,vs,a⟩,A,A1,A2,A3,ab,rb,vv,ov⟩) ((SLay lb).stp s ⟨⟨1,1,r,T,v,i,out,vs,a⟩,A,A1,A2,A3,ab,rb,vv,ov⟩) w (b::cs)) (back (.tuple #[]) ((SLay lb).cf st ⟨⟨1,1,r,T,v,i,out,vs,a⟩,A,A1,A2,A3,ab,rb,vv,ov⟩++b::cs)) w:=by
 have hlb:F lb=none:=hF _ (.inl (.inl rfl))
 have hwb:F s.wb=none:=hF _ (.inl (.inr rfl))
 have hans:∀k,¬held F ⟨ab,k,none⟩:=fun k=>not_heldB (hF _ (.inr (.inl rfl))) k
 have hrbh:∀k,¬held F ⟨rb,k,none⟩:=fun k=>not_heldB (hF _ (.inr (.inr (.inl rfl)))) k
 have hn16:=hs.wf.n2
 have hn1:=hs.wf.n1
 have hnn:s.n=s.k.ws.length:=rfl
 have hS:=hJ.s
 obtain⟨_,vT,vr,vi,vvs,vo,vo2,_⟩:=hJ.v
 simp only at vT vr vi vvs vo vo2
 obtain⟨hvl,rfl⟩:=vvs (by decide)
 obtain⟨la,ll,lc,hsl⟩:=row_slice hc.vv
 simp only at hsl
 subst hsl
 refine own_sst_back (K:=stK) (sa:=⟨st,0,none⟩) ?_
 by_cases e:s.k.ver=v
 ·refine bg_2a (sv:=stepperV st) (u:=s.k.ver) (by simp[e]) hs.v.c hs.v.z (not_heldB hlb _) hS.1 ?_
  have hU:=hs.setV (w64 (v+1))
  have hcu:SCU ⟨⟨1,1,r,T,v,i,[],vs,a⟩,A,A1,A2,A3,ab,rb,.slice la ll lc,ov⟩ (w.setCell ⟨lb,0,none⟩ (.int .i64 (w64 (v+1)))):=hc.keep hdis setV_same
  obtain⟨vb,vc,hvv,hat⟩:=row_get (k:=0) hcu.vv (vget (vs:=vs) (i:=0) (by omega))
  simp only at hvv
  cases hvv
  refine wr_1c (sv:=stepperV st) (v:=v) (x:=vs.getD 0 0) hU.h (by omega) hat.c hS.2.1 fun A1' hA1'=>own_sst_call (K:=stK) (.stop fun d=>?_)
  exact s_live (st:=st) (c:=⟨⟨1,1,r,T,v,i,[],vs,a⟩,A,A1,A2,A3,ab,rb,.slice (some ⟨vb,0,none⟩) vs.length lc,ov⟩) (c':=⟨⟨1,2,r,T,v,0,[],vs,a⟩,A,A1',A2,A3,ab,rb,.slice (some ⟨vb,0,none⟩) vs.length lc,ov⟩) (k':={s.k with ver:=w64 (v+1)}) (by rfl) hU (by simp[SSt.step,SSt.wstep,e]) ⟨sv_w (by simp) vT vr hn1 hvl,(by exact⟨hA1',hS.2.2⟩),hJ.a,hJ.nvv⟩ (hcu.turn rfl rfl rfl rfl rfl rfl) (scr_turn rfl rfl rfl rfl) hs hdis d
 ·refine bg_2b (sv:=stepperV st) (u:=s.k.ver) (by simp[e]) hs.v.c hs.v.z (not_heldB hlb _) hS.1 ?_
  exact s_again1 hJ.v hJ.a hS.2.1 hS.2.2 hs hc hdis hF b cs (by simp[SSt.step,SSt.wstep,e])
theorem ss_12(hJ:SJ lb st s.wb s.wo s.n ⟨⟨1,2,r,T,v,i,out,vs,a⟩,A,A1,A2,A3,ab,rb,vv,ov⟩)(hs:SU lb s w)(hc:SCU ⟨⟨1,2,r,T,v,i,out,vs,a⟩,A,A1,A2,A3,ab,rb,vv,ov⟩ w)(hdis:∀q,SCR ⟨⟨1,2,r,T,v,i,out,vs,a⟩,A,A1,A2,A3,ab,rb,vv,ov⟩ q→¬SR lb s q)(hwf:Wf F w)(hF:∀r,SR lb s r∨SCR ⟨⟨1,2,r,T,v,i,out,vs,a⟩,A,A1,A2,A3,ab,rb,vv,ov⟩ r→F r=none)(b:Frame)(cs:List Frame):
 Own Try.prog false F ((SLay lb).Out st s (SCR ⟨⟨1,2,r,T,v,i,out,vs,a⟩,A,A1,A2,A3,ab,rb,vv,ov⟩) ((SLay lb).stp s ⟨⟨1,2,r,T,v,i,out,vs,a⟩,A,A1,A2,A3,ab,rb,vv,ov⟩) w (b::cs)) (back (.tuple #[]) ((SLay lb).cf st ⟨⟨1,2,r,T,v,i,out,vs,a⟩,A,A1,A2,A3,ab,rb,vv,ov⟩++b::cs)) w:=by
 have hlb:F lb=none:=hF _ (.inl (.inl rfl))
 have hwb:F s.wb=none:=hF _ (.inl (.inr rfl))
 have hans:∀k,¬held F ⟨ab,k,none⟩:=fun k=>not_heldB (hF _ (.inr (.inl rfl))) k
 have hrbh:∀k,¬held F ⟨rb,k,none⟩:=fun k=>not_heldB (hF _ (.inr (.inr (.inl rfl)))) k
 have hn16:=hs.wf.n2
 have hn1:=hs.wf.n1
 have hnn:s.n=s.k.ws.length:=rfl
 have hS:=hJ.s
 obtain⟨_,vT,vr,vi,vvs,vo,vo2,_⟩:=hJ.v
 simp only at vT vr vi vvs vo vo2
 obtain⟨hvl,rfl⟩:=vvs (by decide)
 obtain⟨la,ll,lc,hsl⟩:=row_slice hc.vv
 simp only at hsl
 subst hsl
 refine own_sst_back (K:=stK) (sa:=⟨st,0,none⟩) ?_
 have hU:=hs.setW vi (vs.getD i 0)
 have hl:(s.k.ws.set i (vs.getD i 0)).length=s.n:=List.length_set
 have hcu:SCU ⟨⟨1,2,r,T,v,i,[],vs,a⟩,A,A1,A2,A3,ab,rb,.slice la ll lc,ov⟩ (w.setCell ⟨s.wb,s.wo+i,none⟩ (.int .i64 (vs.getD i 0))):=hc.keep hdis setW_same
 by_cases e:i+1<s.n
 ·obtain⟨vb,vc,hvv,hat⟩:=row_get (k:=i+1) hcu.vv (vget (vs:=vs) (i:=i+1) (by omega))
  simp only at hvv
  cases hvv
  refine wr_2a1 (sv:=stepperV st) (y:=vs.getD (i+1) 0) hn16 e (hs.ws i vi).c (hs.ws i vi).z (not_heldB hwb _) (by omega) hat.c hS.1 fun A1' hA1'=>own_sst_call (K:=stK) (.stop fun d=>?_)
  exact s_live (st:=st) (c:=⟨⟨1,2,r,T,v,i,[],vs,a⟩,A,A1,A2,A3,ab,rb,.slice (some ⟨vb,0,none⟩) vs.length lc,ov⟩) (c':=⟨⟨1,2,r,T,v,(i+1),[],vs,a⟩,A,A1',A2,A3,ab,rb,.slice (some ⟨vb,0,none⟩) vs.length lc,ov⟩) (k':={s.k with ws:=s.k.ws.set i (vs.getD i 0)}) (by rfl) hU (by simp[SSt.step,SSt.wstep,oneW,e]) ⟨sv_w (by simp) vT vr (by rw[hl];exact e) (hvl.trans hl.symm),(by exact⟨by show Slots 63 A1' (wrS2 lb st s.wb s.wo (s.k.ws.set i (vs.getD i 0)).length _);rw[hl];exact hA1',hS.2⟩),hJ.a,hJ.nvv⟩ (hcu.turn rfl rfl rfl rfl rfl rfl) (scr_turn rfl rfl rfl rfl) hs hdis d
 ·refine wr_2b1 (sv:=stepperV st) (n:=s.n) hn16 (by omega) (hs.ws i vi).c (hs.ws i vi).z (not_heldB hwb _) hS.1 fun A1' hA1'=>own_sst_call (K:=stK) (.stop fun d=>?_)
  exact s_live (st:=st) (c:=⟨⟨1,2,r,T,v,i,[],vs,a⟩,A,A1,A2,A3,ab,rb,.slice la ll lc,ov⟩) (c':=⟨⟨1,3,r,T,v,i,[],vs,a⟩,A,A1',A2,A3,ab,rb,.slice la ll lc,ov⟩) (k':={s.k with ws:=s.k.ws.set i (vs.getD i 0)}) (by rfl) hU (by simp[SSt.step,SSt.wstep,oneW,e]) ⟨sv_w (by simp) vT vr (by rw[hl];exact vi) (hvl.trans hl.symm),(by exact⟨hA1',hS.2⟩),hJ.a,hJ.nvv⟩ (hcu.turn rfl rfl rfl rfl rfl rfl) (scr_turn rfl rfl rfl rfl) hs hdis d
theorem ss_13(hJ:SJ lb st s.wb s.wo s.n ⟨⟨1,3,r,T,v,i,out,vs,a⟩,A,A1,A2,A3,ab,rb,vv,ov⟩)(hs:SU lb s w)(hc:SCU ⟨⟨1,3,r,T,v,i,out,vs,a⟩,A,A1,A2,A3,ab,rb,vv,ov⟩ w)(hdis:∀q,SCR ⟨⟨1,3,r,T,v,i,out,vs,a⟩,A,A1,A2,A3,ab,rb,vv,ov⟩ q→¬SR lb s q)(hwf:Wf F w)(hF:∀r,SR lb s r∨SCR ⟨⟨1,3,r,T,v,i,out,vs,a⟩,A,A1,A2,A3,ab,rb,vv,ov⟩ r→F r=none)(b:Frame)(cs:List Frame):
 Own Try.prog false F ((SLay lb).Out st s (SCR ⟨⟨1,3,r,T,v,i,out,vs,a⟩,A,A1,A2,A3,ab,rb,vv,ov⟩) ((SLay lb).stp s ⟨⟨1,3,r,T,v,i,out,vs,a⟩,A,A1,A2,A3,ab,rb,vv,ov⟩) w (b::cs)) (back (.tuple #[]) ((SLay lb).cf st ⟨⟨1,3,r,T,v,i,out,vs,a⟩,A,A1,A2,A3,ab,rb,vv,ov⟩++b::cs)) w:=by
 have hlb:F lb=none:=hF _ (.inl (.inl rfl))
 have hwb:F s.wb=none:=hF _ (.inl (.inr rfl))
 have hans:∀k,¬held F ⟨ab,k,none⟩:=fun k=>not_heldB (hF _ (.inr (.inl rfl))) k
 have hrbh:∀k,¬held F ⟨rb,k,none⟩:=fun k=>not_heldB (hF _ (.inr (.inr (.inl rfl)))) k
 have hn16:=hs.wf.n2
 have hn1:=hs.wf.n1
 have hnn:s.n=s.k.ws.length:=rfl
 have hS:=hJ.s
 obtain⟨_,vT,vr,vi,vvs,vo,vo2,_⟩:=hJ.v
 simp only at vT vr vi vvs vo vo2
 obtain⟨hvl,rfl⟩:=vvs (by decide)
 obtain⟨la,ll,lc,hsl⟩:=row_slice hc.vv
 simp only at hsl
 subst hsl
 refine own_sst_back (K:=stK) (sa:=⟨st,0,none⟩) ?_
 refine wr_3 (sv:=stepperV st) (v:=v) hs.v.c hs.v.z (not_heldB hlb _) hS.1 ?_
 have hU:=hs.setV (w64 (v+2))
 have hcu:SCU ⟨⟨1,3,r,T,v,i,[],vs,a⟩,A,A1,A2,A3,ab,rb,.slice la ll lc,ov⟩ (w.setCell ⟨lb,0,none⟩ (.int .i64 (w64 (v+2)))):=hc.keep hdis setV_same
 refine ww_11 hS.2 ?_
 refine do_b1 hcu.a hcu.r hcu.ne hans hrbh hJ.a fun w' hw'=>.stop fun d=>?_
 exact s_ans (st:=st) (c:=⟨⟨1,3,r,T,v,i,[],vs,a⟩,A,A1,A2,A3,ab,rb,.slice la ll lc,ov⟩) (a:=⟨(true,0,[]),none,0,0⟩) (k':={s.k with ver:=w64 (v+2)}) (hU.same fun q hq=>hw'.old q (fun e=>hdis q (.inl e) hq) (fun e=>hdis q (.inr (.inl e)) hq)) (by simp[SSt.step,SSt.wstep]) (World.ownsRow_nil _ _ _ _) (fun q h=>by simp[SA.row,Value.ownBlock]at h) hs hdis d
theorem s_again2{nv:Int}{ph:Nat}{la:Option Addr}{ll lc:Nat}(hJv:SeV s.n ⟨2,ph,r,T,v,i,[],vs,a⟩)(ha3:Slots 80 A3 [(8,.pointer (some ⟨rb,0,none⟩)),(11,.pointer (some ⟨ab,0,none⟩))])(hA1:Slots 63 A1 (wrS1 lb st ⟨⟨2,ph,r,T,v,i,[],vs,a⟩,A,A1,A2,A3,ab,rb,.slice la ll lc,ov⟩))(hA2:A2.size=14)(hs:SU lb s w)(hc:SCU ⟨⟨2,ph,r,T,v,i,[],vs,a⟩,A,A1,A2,A3,ab,rb,.slice la ll lc,ov⟩ w)(hdis:∀q,SCR ⟨⟨2,ph,r,T,v,i,[],vs,a⟩,A,A1,A2,A3,ab,rb,.slice la ll lc,ov⟩ q→¬SR lb s q)(hF:∀r,SR lb s r∨SCR ⟨⟨2,ph,r,T,v,i,[],vs,a⟩,A,A1,A2,A3,ab,rb,.slice la ll lc,ov⟩ r→F r=none)(b:Frame)(cs:List Frame)
 (hrel:s.k.step ⟨2,ph,r,T,v,i,[],vs,a⟩=s.k.again ⟨2,ph,r,T,v,i,[],vs,a⟩):
 Own Try.prog false F ((SLay lb).Out st s (SCR ⟨⟨2,ph,r,T,v,i,[],vs,a⟩,A,A1,A2,A3,ab,rb,.slice la ll lc,ov⟩) ((SLay lb).stp s ⟨⟨2,ph,r,T,v,i,[],vs,a⟩,A,A1,A2,A3,ab,rb,.slice la ll lc,ov⟩) w (b::cs)) (G ((fWr1 A1).finish (.tuple #[.int .i64 nv,.bool false])) (fAA A2::fDo2 A3::b::cs)) w:=by
 have hans:∀k,¬held F ⟨ab,k,none⟩:=fun k=>not_heldB (hF _ (.inr (.inl rfl))) k
 have hrbh:∀k,¬held F ⟨rb,k,none⟩:=fun k=>not_heldB (hF _ (.inr (.inr (.inl rfl)))) k
 obtain⟨_,vT,vr,vi,vvs,vo,vo2,_⟩:=hJv
 simp only at vT vr vi vvs vo vo2
 by_cases h:r+1<T
 ·refine wr_1a (sv:=stepperV st) vT h hA1 fun A1' hA1'=>bg_0 fun A' hA'=>own_sst_call (K:=stK) (.stop fun d=>?_)
  exact s_live (st:=st) (c:=⟨⟨2,ph,r,T,v,i,[],vs,a⟩,A,A1,A2,A3,ab,rb,.slice la ll lc,ov⟩) (c':=⟨⟨2,0,(r+1),T,v,i,[],vs,a⟩,A',A1',A2,A3,ab,rb,.slice la ll lc,ov⟩) (k':=s.k) (by rfl) hs (by rw[hrel];simp[SSt.again,h]) ⟨sv_w (by simp) vT h vi (vvs (by decide)).1,(by exact⟨hA',hA1',hA2⟩),ha3,fun h=>by simp at h⟩ (hc.turn rfl rfl rfl rfl rfl rfl) (scr_turn rfl rfl rfl rfl) hs hdis d
 ·refine wr_1b (sv:=stepperV st) (T:=T) (r:=r) vT (by omega) hA1 ?_
  refine ww_12 hA2 ?_
  refine do_b2 hc.a hc.r hc.ne hans hrbh ha3 fun w' hw'=>.stop fun d=>?_
  exact s_ans (st:=st) (c:=⟨⟨2,ph,r,T,v,i,[],vs,a⟩,A,A1,A2,A3,ab,rb,.slice la ll lc,ov⟩) (a:=⟨(false,0,[]),none,0,0⟩) (k':=s.k) (hs.same fun q hq=>hw'.old q (fun e=>hdis q (.inl e) hq) (fun e=>hdis q (.inr (.inl e)) hq)) (by rw[hrel];simp[SSt.again,h]) (World.ownsRow_nil _ _ _ _) (fun q h=>by simp[SA.row,Value.ownBlock]at h) hs hdis d
theorem ss_20(hJ:SJ lb st s.wb s.wo s.n ⟨⟨2,0,r,T,v,i,out,vs,a⟩,A,A1,A2,A3,ab,rb,vv,ov⟩)(hs:SU lb s w)(hc:SCU ⟨⟨2,0,r,T,v,i,out,vs,a⟩,A,A1,A2,A3,ab,rb,vv,ov⟩ w)(hdis:∀q,SCR ⟨⟨2,0,r,T,v,i,out,vs,a⟩,A,A1,A2,A3,ab,rb,vv,ov⟩ q→¬SR lb s q)(hwf:Wf F w)(hF:∀r,SR lb s r∨SCR ⟨⟨2,0,r,T,v,i,out,vs,a⟩,A,A1,A2,A3,ab,rb,vv,ov⟩ r→F r=none)(b:Frame)(cs:List Frame):
 Own Try.prog false F ((SLay lb).Out st s (SCR ⟨⟨2,0,r,T,v,i,out,vs,a⟩,A,A1,A2,A3,ab,rb,vv,ov⟩) ((SLay lb).stp s ⟨⟨2,0,r,T,v,i,out,vs,a⟩,A,A1,A2,A3,ab,rb,vv,ov⟩) w (b::cs)) (back (.tuple #[]) ((SLay lb).cf st ⟨⟨2,0,r,T,v,i,out,vs,a⟩,A,A1,A2,A3,ab,rb,vv,ov⟩++b::cs)) w:=by
 have hlb:F lb=none:=hF _ (.inl (.inl rfl))
 have hwb:F s.wb=none:=hF _ (.inl (.inr rfl))
 have hans:∀k,¬held F ⟨ab,k,none⟩:=fun k=>not_heldB (hF _ (.inr (.inl rfl))) k
 have hrbh:∀k,¬held F ⟨rb,k,none⟩:=fun k=>not_heldB (hF _ (.inr (.inr (.inl rfl)))) k
 have hn16:=hs.wf.n2
 have hn1:=hs.wf.n1
 have hnn:s.n=s.k.ws.length:=rfl
 have hS:=hJ.s
 obtain⟨_,vT,vr,vi,vvs,vo,vo2,_⟩:=hJ.v
 simp only at vT vr vi vvs vo vo2
 obtain⟨hvl,rfl⟩:=vvs (by decide)
 obtain⟨la,ll,lc,hsl⟩:=row_slice hc.vv
 simp only at hsl
 subst hsl
 refine own_sst_back (K:=stK) (sa:=⟨st,0,none⟩) ?_
 by_cases e:s.k.ver.tmod 2=0
 ·refine bg_1b (sv:=stepperV st) (v:=s.k.ver) (by simp[e]) hs.v.c hS.1 fun A' hA'=>own_sst_call (K:=stK) (.stop fun d=>?_)
  exact s_live (st:=st) (c:=⟨⟨2,0,r,T,v,i,[],vs,a⟩,A,A1,A2,A3,ab,rb,.slice la ll lc,ov⟩) (c':=⟨⟨2,1,r,T,s.k.ver,i,[],vs,a⟩,A',A1,A2,A3,ab,rb,.slice la ll lc,ov⟩) (k':=s.k) (by rfl) hs (by simp[SSt.step,SSt.wstep,e]) ⟨sv_w (by simp) vT vr vi hvl,(by exact⟨hA',hS.2.1,hS.2.2⟩),hJ.a,hJ.nvv⟩ (hc.turn rfl rfl rfl rfl rfl rfl) (scr_turn rfl rfl rfl rfl) hs hdis d
 ·refine bg_1a (sv:=stepperV st) (v:=s.k.ver) (by simpa using e) hs.v.c hS.1 ?_
  exact s_again2 hJ.v hJ.a hS.2.1 hS.2.2 hs hc hdis hF b cs (by simp[SSt.step,SSt.wstep,e])
theorem ss_21(hJ:SJ lb st s.wb s.wo s.n ⟨⟨2,1,r,T,v,i,out,vs,a⟩,A,A1,A2,A3,ab,rb,vv,ov⟩)(hs:SU lb s w)(hc:SCU ⟨⟨2,1,r,T,v,i,out,vs,a⟩,A,A1,A2,A3,ab,rb,vv,ov⟩ w)(hdis:∀q,SCR ⟨⟨2,1,r,T,v,i,out,vs,a⟩,A,A1,A2,A3,ab,rb,vv,ov⟩ q→¬SR lb s q)(hwf:Wf F w)(hF:∀r,SR lb s r∨SCR ⟨⟨2,1,r,T,v,i,out,vs,a⟩,A,A1,A2,A3,ab,rb,vv,ov⟩ r→F r=none)(b:Frame)(cs:List Frame):
 Own Try.prog false F ((SLay lb).Out st s (SCR ⟨⟨2,1,r,T,v,i,out,vs,a⟩,A,A1,A2,A3,ab,rb,vv,ov⟩) ((SLay lb).stp s ⟨⟨2,1,r,T,v,i,out,vs,a⟩,A,A1,A2,A3,ab,rb,vv,ov⟩) w (b::cs)) (back (.tuple #[]) ((SLay lb).cf st ⟨⟨2,1,r,T,v,i,out,vs,a⟩,A,A1,A2,A3,ab,rb,vv,ov⟩++b::cs)) w:=by
 have hlb:F lb=none:=hF _ (.inl (.inl rfl))
 have hwb:F s.wb=none:=hF _ (.inl (.inr rfl))
 have hans:∀k,¬held F ⟨ab,k,none⟩:=fun k=>not_heldB (hF _ (.inr (.inl rfl))) k
 have hrbh:∀k,¬held F ⟨rb,k,none⟩:=fun k=>not_heldB (hF _ (.inr (.inr (.inl rfl)))) k
 have hn16:=hs.wf.n2
 have hn1:=hs.wf.n1
 have hnn:s.n=s.k.ws.length:=rfl
 have hS:=hJ.s
 obtain⟨_,vT,vr,vi,vvs,vo,vo2,_⟩:=hJ.v
 simp only at vT vr vi vvs vo vo2
 obtain⟨hvl,rfl⟩:=vvs (by decide)
 obtain⟨la,ll,lc,hsl⟩:=row_slice hc.vv
 simp only at hsl
 subst hsl
 refine own_sst_back (K:=stK) (sa:=⟨st,0,none⟩) ?_
 by_cases e:s.k.ver=v
 ·refine bg_2a (sv:=stepperV st) (u:=s.k.ver) (by simp[e]) hs.v.c hs.v.z (not_heldB hlb _) hS.1 ?_
  have hU:=hs.setV (w64 (v+1))
  have hcu:SCU ⟨⟨2,1,r,T,v,i,[],vs,a⟩,A,A1,A2,A3,ab,rb,.slice la ll lc,ov⟩ (w.setCell ⟨lb,0,none⟩ (.int .i64 (w64 (v+1)))):=hc.keep hdis setV_same
  obtain⟨vb,vc,hvv,hat⟩:=row_get (k:=0) hcu.vv (vget (vs:=vs) (i:=0) (by omega))
  simp only at hvv
  cases hvv
  refine wr_1c (sv:=stepperV st) (v:=v) (x:=vs.getD 0 0) hU.h (by omega) hat.c hS.2.1 fun A1' hA1'=>own_sst_call (K:=stK) (.stop fun d=>?_)
  exact s_live (st:=st) (c:=⟨⟨2,1,r,T,v,i,[],vs,a⟩,A,A1,A2,A3,ab,rb,.slice (some ⟨vb,0,none⟩) vs.length lc,ov⟩) (c':=⟨⟨2,2,r,T,v,0,[],vs,a⟩,A,A1',A2,A3,ab,rb,.slice (some ⟨vb,0,none⟩) vs.length lc,ov⟩) (k':={s.k with ver:=w64 (v+1)}) (by rfl) hU (by simp[SSt.step,SSt.wstep,e]) ⟨sv_w (by simp) vT vr hn1 hvl,(by exact⟨hA1',hS.2.2⟩),hJ.a,hJ.nvv⟩ (hcu.turn rfl rfl rfl rfl rfl rfl) (scr_turn rfl rfl rfl rfl) hs hdis d
 ·refine bg_2b (sv:=stepperV st) (u:=s.k.ver) (by simp[e]) hs.v.c hs.v.z (not_heldB hlb _) hS.1 ?_
  exact s_again2 hJ.v hJ.a hS.2.1 hS.2.2 hs hc hdis hF b cs (by simp[SSt.step,SSt.wstep,e])
theorem ss_22(hJ:SJ lb st s.wb s.wo s.n ⟨⟨2,2,r,T,v,i,out,vs,a⟩,A,A1,A2,A3,ab,rb,vv,ov⟩)(hs:SU lb s w)(hc:SCU ⟨⟨2,2,r,T,v,i,out,vs,a⟩,A,A1,A2,A3,ab,rb,vv,ov⟩ w)(hdis:∀q,SCR ⟨⟨2,2,r,T,v,i,out,vs,a⟩,A,A1,A2,A3,ab,rb,vv,ov⟩ q→¬SR lb s q)(hwf:Wf F w)(hF:∀r,SR lb s r∨SCR ⟨⟨2,2,r,T,v,i,out,vs,a⟩,A,A1,A2,A3,ab,rb,vv,ov⟩ r→F r=none)(b:Frame)(cs:List Frame):
 Own Try.prog false F ((SLay lb).Out st s (SCR ⟨⟨2,2,r,T,v,i,out,vs,a⟩,A,A1,A2,A3,ab,rb,vv,ov⟩) ((SLay lb).stp s ⟨⟨2,2,r,T,v,i,out,vs,a⟩,A,A1,A2,A3,ab,rb,vv,ov⟩) w (b::cs)) (back (.tuple #[]) ((SLay lb).cf st ⟨⟨2,2,r,T,v,i,out,vs,a⟩,A,A1,A2,A3,ab,rb,vv,ov⟩++b::cs)) w:=by
 have hlb:F lb=none:=hF _ (.inl (.inl rfl))
 have hwb:F s.wb=none:=hF _ (.inl (.inr rfl))
 have hans:∀k,¬held F ⟨ab,k,none⟩:=fun k=>not_heldB (hF _ (.inr (.inl rfl))) k
 have hrbh:∀k,¬held F ⟨rb,k,none⟩:=fun k=>not_heldB (hF _ (.inr (.inr (.inl rfl)))) k
 have hn16:=hs.wf.n2
 have hn1:=hs.wf.n1
 have hnn:s.n=s.k.ws.length:=rfl
 have hS:=hJ.s
 obtain⟨_,vT,vr,vi,vvs,vo,vo2,_⟩:=hJ.v
 simp only at vT vr vi vvs vo vo2
 obtain⟨hvl,rfl⟩:=vvs (by decide)
 obtain⟨la,ll,lc,hsl⟩:=row_slice hc.vv
 simp only at hsl
 subst hsl
 refine own_sst_back (K:=stK) (sa:=⟨st,0,none⟩) ?_
 have hU:=hs.setW vi (w64 (s.k.ws.getD i 0+vs.getD i 0))
 have hl:(s.k.ws.set i (w64 (s.k.ws.getD i 0+vs.getD i 0))).length=s.n:=List.length_set
 have hcu:SCU ⟨⟨2,2,r,T,v,i,[],vs,a⟩,A,A1,A2,A3,ab,rb,.slice la ll lc,ov⟩ (w.setCell ⟨s.wb,s.wo+i,none⟩ (.int .i64 (w64 (s.k.ws.getD i 0+vs.getD i 0)))):=hc.keep hdis setW_same
 by_cases e:i+1<s.n
 ·obtain⟨vb,vc,hvv,hat⟩:=row_get (k:=i+1) hcu.vv (vget (vs:=vs) (i:=i+1) (by omega))
  simp only at hvv
  cases hvv
  refine wr_2a2 (sv:=stepperV st) (y:=vs.getD (i+1) 0) hn16 e (hs.ws i vi).c (hs.ws i vi).z (not_heldB hwb _) (by omega) hat.c hS.1 fun A1' hA1'=>own_sst_call (K:=stK) (.stop fun d=>?_)
  exact s_live (st:=st) (c:=⟨⟨2,2,r,T,v,i,[],vs,a⟩,A,A1,A2,A3,ab,rb,.slice (some ⟨vb,0,none⟩) vs.length lc,ov⟩) (c':=⟨⟨2,2,r,T,v,(i+1),[],vs,a⟩,A,A1',A2,A3,ab,rb,.slice (some ⟨vb,0,none⟩) vs.length lc,ov⟩) (k':={s.k with ws:=s.k.ws.set i (w64 (s.k.ws.getD i 0+vs.getD i 0))}) (by rfl) hU (by simp[SSt.step,SSt.wstep,oneW,e]) ⟨sv_w (by simp) vT vr (by rw[hl];exact e) (hvl.trans hl.symm),(by exact⟨by show Slots 63 A1' (wrS2 lb st s.wb s.wo (s.k.ws.set i (w64 (s.k.ws.getD i 0+vs.getD i 0))).length _);rw[hl];exact hA1',hS.2⟩),hJ.a,hJ.nvv⟩ (hcu.turn rfl rfl rfl rfl rfl rfl) (scr_turn rfl rfl rfl rfl) hs hdis d
 ·refine wr_2b2 (sv:=stepperV st) (n:=s.n) hn16 (by omega) (hs.ws i vi).c (hs.ws i vi).z (not_heldB hwb _) hS.1 fun A1' hA1'=>own_sst_call (K:=stK) (.stop fun d=>?_)
  exact s_live (st:=st) (c:=⟨⟨2,2,r,T,v,i,[],vs,a⟩,A,A1,A2,A3,ab,rb,.slice la ll lc,ov⟩) (c':=⟨⟨2,3,r,T,v,i,[],vs,a⟩,A,A1',A2,A3,ab,rb,.slice la ll lc,ov⟩) (k':={s.k with ws:=s.k.ws.set i (w64 (s.k.ws.getD i 0+vs.getD i 0))}) (by rfl) hU (by simp[SSt.step,SSt.wstep,oneW,e]) ⟨sv_w (by simp) vT vr (by rw[hl];exact vi) (hvl.trans hl.symm),(by exact⟨hA1',hS.2⟩),hJ.a,hJ.nvv⟩ (hcu.turn rfl rfl rfl rfl rfl rfl) (scr_turn rfl rfl rfl rfl) hs hdis d
theorem ss_23(hJ:SJ lb st s.wb s.wo s.n ⟨⟨2,3,r,T,v,i,out,vs,a⟩,A,A1,A2,A3,ab,rb,vv,ov⟩)(hs:SU lb s w)(hc:SCU ⟨⟨2,3,r,T,v,i,out,vs,a⟩,A,A1,A2,A3,ab,rb,vv,ov⟩ w)(hdis:∀q,SCR ⟨⟨2,3,r,T,v,i,out,vs,a⟩,A,A1,A2,A3,ab,rb,vv,ov⟩ q→¬SR lb s q)(hwf:Wf F w)(hF:∀r,SR lb s r∨SCR ⟨⟨2,3,r,T,v,i,out,vs,a⟩,A,A1,A2,A3,ab,rb,vv,ov⟩ r→F r=none)(b:Frame)(cs:List Frame):
 Own Try.prog false F ((SLay lb).Out st s (SCR ⟨⟨2,3,r,T,v,i,out,vs,a⟩,A,A1,A2,A3,ab,rb,vv,ov⟩) ((SLay lb).stp s ⟨⟨2,3,r,T,v,i,out,vs,a⟩,A,A1,A2,A3,ab,rb,vv,ov⟩) w (b::cs)) (back (.tuple #[]) ((SLay lb).cf st ⟨⟨2,3,r,T,v,i,out,vs,a⟩,A,A1,A2,A3,ab,rb,vv,ov⟩++b::cs)) w:=by
 have hlb:F lb=none:=hF _ (.inl (.inl rfl))
 have hwb:F s.wb=none:=hF _ (.inl (.inr rfl))
 have hans:∀k,¬held F ⟨ab,k,none⟩:=fun k=>not_heldB (hF _ (.inr (.inl rfl))) k
 have hrbh:∀k,¬held F ⟨rb,k,none⟩:=fun k=>not_heldB (hF _ (.inr (.inr (.inl rfl)))) k
 have hn16:=hs.wf.n2
 have hn1:=hs.wf.n1
 have hnn:s.n=s.k.ws.length:=rfl
 have hS:=hJ.s
 obtain⟨_,vT,vr,vi,vvs,vo,vo2,_⟩:=hJ.v
 simp only at vT vr vi vvs vo vo2
 obtain⟨hvl,rfl⟩:=vvs (by decide)
 obtain⟨la,ll,lc,hsl⟩:=row_slice hc.vv
 simp only at hsl
 subst hsl
 refine own_sst_back (K:=stK) (sa:=⟨st,0,none⟩) ?_
 refine wr_3 (sv:=stepperV st) (v:=v) hs.v.c hs.v.z (not_heldB hlb _) hS.1 ?_
 have hU:=hs.setV (w64 (v+2))
 have hcu:SCU ⟨⟨2,3,r,T,v,i,[],vs,a⟩,A,A1,A2,A3,ab,rb,.slice la ll lc,ov⟩ (w.setCell ⟨lb,0,none⟩ (.int .i64 (w64 (v+2)))):=hc.keep hdis setV_same
 refine ww_12 hS.2 ?_
 refine do_b2 hcu.a hcu.r hcu.ne hans hrbh hJ.a fun w' hw'=>.stop fun d=>?_
 exact s_ans (st:=st) (c:=⟨⟨2,3,r,T,v,i,[],vs,a⟩,A,A1,A2,A3,ab,rb,.slice la ll lc,ov⟩) (a:=⟨(true,0,[]),none,0,0⟩) (k':={s.k with ver:=w64 (v+2)}) (hU.same fun q hq=>hw'.old q (fun e=>hdis q (.inl e) hq) (fun e=>hdis q (.inr (.inl e)) hq)) (by simp[SSt.step,SSt.wstep]) (World.ownsRow_nil _ _ _ _) (fun q h=>by simp[SA.row,Value.ownBlock]at h) hs hdis d
end
end
section
variable{F:Fz}{w w':World}{lb st:Nat}
theorem sv_r{n kd ph r T i:Nat}{v a:Int}{out:List Int}(hp:(kd,ph)∈[(3,0),(3,1),(3,2),(4,1),(5,0)])(hT:T≤1024)(hr:r<T)(hi:i<n)(ho:(kd,ph)∈[(3,1),(4,1)]→out.length=i)(ho2:(kd,ph)=(3,2)→out.length≤n):SeV n ⟨kd,ph,r,T,v,i,out,[],a⟩:=by
 simp only[List.mem_cons,Prod.mk.injEq,List.not_mem_nil,or_false]at hp
 rcases hp with⟨rfl,rfl⟩|⟨rfl,rfl⟩|⟨rfl,rfl⟩|⟨rfl,rfl⟩|⟨rfl,rfl⟩<;>exact⟨by simp,hT,hr,hi,fun h=>absurd h (by simp),ho,ho2,fun _=>rfl⟩
theorem SCU.drop{c c':SeC}(h:SCU c w)(h1:c'.ab=c.ab)(h2:c'.rb=c.rb)(h3:c'.vv=c.vv)(h4:c'.c.vs=c.c.vs)(h5:c'.ov= .slice none 0 0)(h6:c'.c.out=[]):SCU c' w:=by
 refine⟨h1 ▸ h.a,h2 ▸ h.r,by rw[h1,h2];exact h.ne,by rw[h3,h4];exact h.vv,by rw[h5,h6];exact World.ownsRow_nil _ _ _ _,by rw[h1,h2,h3];exact h.vn,by rw[h5];exact⟨by simp[Value.ownBlock],by simp[Value.ownBlock]⟩⟩
theorem scr_drop{c c':SeC}{q:Nat}(h:SCR c' q)(h1:c'.ab=c.ab)(h2:c'.rb=c.rb)(h3:c'.vv=c.vv)(h5:c'.ov= .slice none 0 0){m:Nat}:SCR c q∨m≤q:=by
 left
 unfold SCR at h ⊢
 rw[h1,h2,h3,h5]at h
 rcases h with h|h|h|h
 ·exact .inl h
 ·exact .inr (.inl h)
 ·exact .inr (.inr (.inl h))
 ·simp[Value.ownBlock]at h
theorem SCU.more{c c':SeC}{u:Int}{ov':Value}(h:SCU c w)(hg:Grown1 F w w' c.ov ov' c.c.out u)(hvo:∀q,c.vv.ownBlock=some q→c.ov.ownBlock≠some q)(h1:c'.ab=c.ab)(h2:c'.rb=c.rb)(h3:c'.vv=c.vv)(h4:c'.c.vs=c.c.vs)(h5:c'.ov=ov')(h6:c'.c.out=c.c.out++[u]):SCU c' w':=by
 have ha:c.ab<w.heap.size:=h.low (.inl rfl)
 have hr:c.rb<w.heap.size:=h.low (.inr (.inl rfl))
 refine⟨h1 ▸ ⟨(hg.old _ ha (Ne.symm h.on.1)).trans h.a.o⟩,h2 ▸ ans_same h.r (hg.old _ hr (Ne.symm h.on.2)),by rw[h1,h2];exact h.ne,by rw[h3,h4];exact ownsRow_same2 h.vv fun q hq _=>hg.old q (h.low (.inr (.inr (.inl hq)))) (Ne.symm (hvo q hq)),by rw[h5,h6];simpa using hg.row,by rw[h1,h2,h3];exact h.vn,?_⟩
 rw[h1,h2,h5]
 rcases hg.blk with e|⟨g,e,hge⟩
 ·rw[e];exact h.on
 ·rw[e]
  refine⟨fun e2=>?_,fun e2=>?_⟩
  ·have:=Option.some.inj e2;omega
  ·have:=Option.some.inj e2;omega
theorem scr_more{c c':SeC}{u:Int}{ov':Value}(hg:Grown1 F w w' c.ov ov' c.c.out u)(h1:c'.ab=c.ab)(h2:c'.rb=c.rb)(h3:c'.vv=c.vv)(h5:c'.ov=ov')(q:Nat)(h:SCR c' q):SCR c q∨w.heap.size≤q:=by
 unfold SCR at h ⊢
 rw[h1,h2,h3,h5]at h
 rcases h with h|h|h|h
 ·exact .inl (.inl h)
 ·exact .inl (.inr (.inl h))
 ·exact .inl (.inr (.inr (.inl h)))
 ·rcases hg.blk with e|⟨g,e,hge⟩
  ·exact .inl (.inr (.inr (.inr (e ▸ h))))
  ·rw[e]at h
   have:=Option.some.inj h
   right;omega
theorem SU.more{s:SS}{c:SeC}{u:Int}{ov':Value}(hs:SU lb s w)(hdis:∀q,SCR c q→¬SR lb s q)(hg:Grown1 F w w' c.ov ov' c.c.out u):SU lb s w':=hs.same fun q hq=>hg.old q (hs.low hq) fun e=>hdis q (.inr (.inr (.inr e.symm))) hq
section
variable{s:SS}{r T i:Nat}{v a:Int}{out vs:List Int}{A A1 A2 A3:Array Value}{ab rb:Nat}{vv ov:Value}
theorem ss_30(hJ:SJ lb st s.wb s.wo s.n ⟨⟨3,0,r,T,v,i,out,[],a⟩,A,A1,A2,A3,ab,rb,(.slice none 0 0),ov⟩)(hs:SU lb s w)(hc:SCU ⟨⟨3,0,r,T,v,i,out,[],a⟩,A,A1,A2,A3,ab,rb,(.slice none 0 0),ov⟩ w)(hdis:∀q,SCR ⟨⟨3,0,r,T,v,i,out,[],a⟩,A,A1,A2,A3,ab,rb,(.slice none 0 0),ov⟩ q→¬SR lb s q)(hwf:Wf F w)(hF:∀r,SR lb s r∨SCR ⟨⟨3,0,r,T,v,i,out,[],a⟩,A,A1,A2,A3,ab,rb,(.slice none 0 0),ov⟩ r→F r=none)(b:Frame)(cs:List Frame):
 Own Try.prog false F ((SLay lb).Out st s (SCR ⟨⟨3,0,r,T,v,i,out,[],a⟩,A,A1,A2,A3,ab,rb,(.slice none 0 0),ov⟩) ((SLay lb).stp s ⟨⟨3,0,r,T,v,i,out,[],a⟩,A,A1,A2,A3,ab,rb,(.slice none 0 0),ov⟩) w (b::cs)) (back (.tuple #[]) ((SLay lb).cf st ⟨⟨3,0,r,T,v,i,out,[],a⟩,A,A1,A2,A3,ab,rb,(.slice none 0 0),ov⟩++b::cs)) w:=by
 have hlb:F lb=none:=hF _ (.inl (.inl rfl))
 have hwb:F s.wb=none:=hF _ (.inl (.inr rfl))
 have hans:∀k,¬held F ⟨ab,k,none⟩:=fun k=>not_heldB (hF _ (.inr (.inl rfl))) k
 have hrbh:∀k,¬held F ⟨rb,k,none⟩:=fun k=>not_heldB (hF _ (.inr (.inr (.inl rfl)))) k
 have hn16:=hs.wf.n2
 have hn1:=hs.wf.n1
 have hnn:s.n=s.k.ws.length:=rfl
 have hS:=hJ.s
 obtain⟨_,vT,vr,vi,vvs,vo,vo2,_⟩:=hJ.v
 simp only at vT vr vi vvs vo vo2
 refine own_sst_back (K:=stK) (sa:=⟨st,0,none⟩) ?_
 by_cases e:s.k.ver.tmod 2=0
 ·refine rd_1c (sv:=stepperV st) (v:=s.k.ver) (by simp[e]) hs.v.c hS fun A1' hA1'=>rw_0 hs.h fun A' hA'=>own_sst_call (K:=stK) (.stop fun d=>?_)
  exact s_live (st:=st) (c:=⟨⟨3,0,r,T,v,i,out,[],a⟩,A,A1,A2,A3,ab,rb,.slice none 0 0,ov⟩) (c':=⟨⟨3,1,r,T,s.k.ver,0,[],[],a⟩,A',A1',A2,A3,ab,rb,.slice none 0 0,.slice none 0 0⟩) (k':=s.k) (by rfl) hs (by simp[SSt.step,SSt.rstep,e]) ⟨sv_r (by simp) vT vr hn1 (fun _=>rfl) (fun h=>by simp at h),(by exact⟨hA',hA1'⟩),hJ.a,hJ.nvv⟩ (by exact hc.drop rfl rfl rfl rfl rfl rfl) (fun q h=>scr_drop (c:=⟨⟨3,0,r,T,v,i,out,[],a⟩,A,A1,A2,A3,ab,rb,.slice none 0 0,ov⟩) h rfl rfl rfl rfl) hs hdis d
 ·by_cases h:r+1<T
  ·refine rd_1a (sv:=stepperV st) (v:=s.k.ver) vT h (by simpa using e) hs.v.c hS fun A1' hA1'=>own_sst_call (K:=stK) (.stop fun d=>?_)
   exact s_live (st:=st) (c:=⟨⟨3,0,r,T,v,i,out,[],a⟩,A,A1,A2,A3,ab,rb,.slice none 0 0,ov⟩) (c':=⟨⟨3,0,(r+1),T,v,i,[],[],a⟩,A,A1',A2,A3,ab,rb,.slice none 0 0,.slice none 0 0⟩) (k':=s.k) (by rfl) hs (by simp[SSt.step,SSt.rstep,SSt.again,e,h]) ⟨sv_r (by simp) vT h vi (fun h=>by simp at h) (fun h=>by simp at h),(by exact hA1'),hJ.a,hJ.nvv⟩ (by exact hc.drop rfl rfl rfl rfl rfl rfl) (fun q h=>scr_drop (c:=⟨⟨3,0,r,T,v,i,out,[],a⟩,A,A1,A2,A3,ab,rb,.slice none 0 0,ov⟩) h rfl rfl rfl rfl) hs hdis d
  ·refine rd_1b (sv:=stepperV st) (T:=T) (r:=r) (v:=s.k.ver) vT (by omega) (by simpa using e) hs.v.c hS ?_
   refine do_b3 hc.a hc.r hc.ne hans hrbh hJ.a fun w' hw'=>.stop fun d=>?_
   exact s_ans (st:=st) (c:=⟨⟨3,0,r,T,v,i,out,[],a⟩,A,A1,A2,A3,ab,rb,.slice none 0 0,ov⟩) (a:=⟨(false,0,[]),none,0,0⟩) (k':=s.k) (hs.same fun q hq=>hw'.old q (fun e=>hdis q (.inl e) hq) (fun e=>hdis q (.inr (.inl e)) hq)) (by simp[SSt.step,SSt.rstep,SSt.again,e,h]) (World.ownsRow_nil _ _ _ _) (fun q h=>by simp[SA.row,Value.ownBlock]at h) hs hdis d
theorem ss_31(hJ:SJ lb st s.wb s.wo s.n ⟨⟨3,1,r,T,v,i,out,[],a⟩,A,A1,A2,A3,ab,rb,(.slice none 0 0),ov⟩)(hs:SU lb s w)(hc:SCU ⟨⟨3,1,r,T,v,i,out,[],a⟩,A,A1,A2,A3,ab,rb,(.slice none 0 0),ov⟩ w)(hdis:∀q,SCR ⟨⟨3,1,r,T,v,i,out,[],a⟩,A,A1,A2,A3,ab,rb,(.slice none 0 0),ov⟩ q→¬SR lb s q)(hwf:Wf F w)(hF:∀r,SR lb s r∨SCR ⟨⟨3,1,r,T,v,i,out,[],a⟩,A,A1,A2,A3,ab,rb,(.slice none 0 0),ov⟩ r→F r=none)(b:Frame)(cs:List Frame):
 Own Try.prog false F ((SLay lb).Out st s (SCR ⟨⟨3,1,r,T,v,i,out,[],a⟩,A,A1,A2,A3,ab,rb,(.slice none 0 0),ov⟩) ((SLay lb).stp s ⟨⟨3,1,r,T,v,i,out,[],a⟩,A,A1,A2,A3,ab,rb,(.slice none 0 0),ov⟩) w (b::cs)) (back (.tuple #[]) ((SLay lb).cf st ⟨⟨3,1,r,T,v,i,out,[],a⟩,A,A1,A2,A3,ab,rb,(.slice none 0 0),ov⟩++b::cs)) w:=by
 have hlb:F lb=none:=hF _ (.inl (.inl rfl))
 have hwb:F s.wb=none:=hF _ (.inl (.inr rfl))
 have hans:∀k,¬held F ⟨ab,k,none⟩:=fun k=>not_heldB (hF _ (.inr (.inl rfl))) k
 have hrbh:∀k,¬held F ⟨rb,k,none⟩:=fun k=>not_heldB (hF _ (.inr (.inr (.inl rfl)))) k
 have hn16:=hs.wf.n2
 have hn1:=hs.wf.n1
 have hnn:s.n=s.k.ws.length:=rfl
 have hS:=hJ.s
 obtain⟨_,vT,vr,vi,vvs,vo,vo2,_⟩:=hJ.v
 simp only at vT vr vi vvs vo vo2
 refine own_sst_back (K:=stK) (sa:=⟨st,0,none⟩) ?_
 have hol:=vo (by simp)
 by_cases e:i+1<s.n
 ·refine rw_1 (sv:=stepperV st) (xs:=out) hn16 (by omega) (wf_under hwf) (Nat.le_refl _) hwf (hs.ws i vi).c hc.ov (fun q hq=>hF q (.inr (.inr (.inr (.inr hq))))) e hS.1 fun ov' w' A' hg hA'=>own_sst_call (K:=stK) (.stop fun d=>?_)
  exact s_live (st:=st) (c:=⟨⟨3,1,r,T,v,i,out,[],a⟩,A,A1,A2,A3,ab,rb,.slice none 0 0,ov⟩) (c':=⟨⟨3,1,r,T,v,(i+1),(out++[s.k.ws.getD i 0]),[],a⟩,A',A1,A2,A3,ab,rb,.slice none 0 0,ov'⟩) (k':=s.k) (by rfl) (hs.more hdis hg) (by simp[SSt.step,SSt.rstep,e]) ⟨sv_r (by simp) vT vr e (fun _=>by simp[hol]) (fun h=>by simp at h),(by exact⟨hA',hS.2⟩),hJ.a,hJ.nvv⟩ (by exact hc.more hg (fun q hq=>by simp[Value.ownBlock]at hq) rfl rfl rfl rfl rfl rfl) (by exact scr_more (c:=⟨⟨3,1,r,T,v,i,out,[],a⟩,A,A1,A2,A3,ab,rb,.slice none 0 0,ov⟩) hg rfl rfl rfl rfl) hs hdis d
 ·refine rw_2 (sv:=stepperV st) (xs:=out) hn16 (by omega) (wf_under hwf) (Nat.le_refl _) hwf (hs.ws i vi).c hc.ov (fun q hq=>hF q (.inr (.inr (.inr (.inr hq))))) (by omega) hS.1 fun ov' w' hg=>rd_2 (sv:=stepperV st) hS.2 fun A1' hA1'=>own_sst_call (K:=stK) (.stop fun d=>?_)
  exact s_live (st:=st) (c:=⟨⟨3,1,r,T,v,i,out,[],a⟩,A,A1,A2,A3,ab,rb,.slice none 0 0,ov⟩) (c':=⟨⟨3,2,r,T,v,i,(out++[s.k.ws.getD i 0]),[],a⟩,A,A1',A2,A3,ab,rb,.slice none 0 0,ov'⟩) (k':=s.k) (by rfl) (hs.more hdis hg) (by simp[SSt.step,SSt.rstep,e]) ⟨sv_r (by simp) vT vr vi (fun h=>by simp at h) (fun _=>by simp;omega),(by exact hA1'),hJ.a,hJ.nvv⟩ (by exact hc.more hg (fun q hq=>by simp[Value.ownBlock]at hq) rfl rfl rfl rfl rfl rfl) (by exact scr_more (c:=⟨⟨3,1,r,T,v,i,out,[],a⟩,A,A1,A2,A3,ab,rb,.slice none 0 0,ov⟩) hg rfl rfl rfl rfl) hs hdis d
theorem ss_32(hJ:SJ lb st s.wb s.wo s.n ⟨⟨3,2,r,T,v,i,out,[],a⟩,A,A1,A2,A3,ab,rb,(.slice none 0 0),ov⟩)(hs:SU lb s w)(hc:SCU ⟨⟨3,2,r,T,v,i,out,[],a⟩,A,A1,A2,A3,ab,rb,(.slice none 0 0),ov⟩ w)(hdis:∀q,SCR ⟨⟨3,2,r,T,v,i,out,[],a⟩,A,A1,A2,A3,ab,rb,(.slice none 0 0),ov⟩ q→¬SR lb s q)(hwf:Wf F w)(hF:∀r,SR lb s r∨SCR ⟨⟨3,2,r,T,v,i,out,[],a⟩,A,A1,A2,A3,ab,rb,(.slice none 0 0),ov⟩ r→F r=none)(b:Frame)(cs:List Frame):
 Own Try.prog false F ((SLay lb).Out st s (SCR ⟨⟨3,2,r,T,v,i,out,[],a⟩,A,A1,A2,A3,ab,rb,(.slice none 0 0),ov⟩) ((SLay lb).stp s ⟨⟨3,2,r,T,v,i,out,[],a⟩,A,A1,A2,A3,ab,rb,(.slice none 0 0),ov⟩) w (b::cs)) (back (.tuple #[]) ((SLay lb).cf st ⟨⟨3,2,r,T,v,i,out,[],a⟩,A,A1,A2,A3,ab,rb,(.slice none 0 0),ov⟩++b::cs)) w:=by
 have hlb:F lb=none:=hF _ (.inl (.inl rfl))
 have hwb:F s.wb=none:=hF _ (.inl (.inr rfl))
 have hans:∀k,¬held F ⟨ab,k,none⟩:=fun k=>not_heldB (hF _ (.inr (.inl rfl))) k
 have hrbh:∀k,¬held F ⟨rb,k,none⟩:=fun k=>not_heldB (hF _ (.inr (.inr (.inl rfl)))) k
 have hn16:=hs.wf.n2
 have hn1:=hs.wf.n1
 have hnn:s.n=s.k.ws.length:=rfl
 have hS:=hJ.s
 obtain⟨_,vT,vr,vi,vvs,vo,vo2,_⟩:=hJ.v
 simp only at vT vr vi vvs vo vo2
 refine own_sst_back (K:=stK) (sa:=⟨st,0,none⟩) ?_
 obtain⟨la,ll,lc,rfl⟩:∃la ll lc,ov= .slice la ll lc:=row_slice hc.ov
 by_cases e:s.k.ver=v
 ·refine rd_3a (sv:=stepperV st) (u:=s.k.ver) (v:=v) (by simp[e]) hs.v.c hS ?_
  refine do_b3 hc.a hc.r hc.ne hans hrbh hJ.a fun w' hw'=>.stop fun d=>?_
  exact s_ans (st:=st) (c:=⟨⟨3,2,r,T,v,i,out,[],a⟩,A,A1,A2,A3,ab,rb,.slice none 0 0,.slice la ll lc⟩) (a:=⟨(true,0,out),la,ll,lc⟩) (k':=s.k) (hs.same fun q hq=>hw'.old q (fun e=>hdis q (.inl e) hq) (fun e=>hdis q (.inr (.inl e)) hq)) (by simp[SSt.step,SSt.rstep,e]) (ownsRow_same2 hc.ov fun q hq _=>hw'.old q (fun e=>hc.on.1 (e ▸ hq)) (fun e=>hc.on.2 (e ▸ hq))) (fun q h=>.inl (.inr (.inr (.inr h)))) hs hdis d
 ·by_cases h:r+1<T
  ·refine rd_3b (sv:=stepperV st) (u:=s.k.ver) (v:=v) vT h (by simp[e]) hs.v.c hS fun A1' hA1'=>own_sst_call (K:=stK) (.stop fun d=>?_)
   exact s_live (st:=st) (c:=⟨⟨3,2,r,T,v,i,out,[],a⟩,A,A1,A2,A3,ab,rb,.slice none 0 0,.slice la ll lc⟩) (c':=⟨⟨3,0,(r+1),T,v,i,[],[],a⟩,A,A1',A2,A3,ab,rb,.slice none 0 0,.slice none 0 0⟩) (k':=s.k) (by rfl) hs (by simp[SSt.step,SSt.rstep,SSt.again,e,h]) ⟨sv_r (by simp) vT h vi (fun h=>by simp at h) (fun h=>by simp at h),(by exact hA1'),hJ.a,hJ.nvv⟩ (by exact hc.drop rfl rfl rfl rfl rfl rfl) (fun q h=>scr_drop (c:=⟨⟨3,2,r,T,v,i,out,[],a⟩,A,A1,A2,A3,ab,rb,.slice none 0 0,.slice la ll lc⟩) h rfl rfl rfl rfl) hs hdis d
  ·refine rd_3c (sv:=stepperV st) (T:=T) (r:=r) (u:=s.k.ver) (v:=v) vT (by omega) (by simp[e]) hs.v.c hS ?_
   refine do_b3 hc.a hc.r hc.ne hans hrbh hJ.a fun w' hw'=>.stop fun d=>?_
   exact s_ans (st:=st) (c:=⟨⟨3,2,r,T,v,i,out,[],a⟩,A,A1,A2,A3,ab,rb,.slice none 0 0,.slice la ll lc⟩) (a:=⟨(false,0,[]),none,0,0⟩) (k':=s.k) (hs.same fun q hq=>hw'.old q (fun e=>hdis q (.inl e) hq) (fun e=>hdis q (.inr (.inl e)) hq)) (by simp[SSt.step,SSt.rstep,SSt.again,e,h]) (World.ownsRow_nil _ _ _ _) (fun q h=>by simp[SA.row,Value.ownBlock]at h) hs hdis d
theorem ss_41(hJ:SJ lb st s.wb s.wo s.n ⟨⟨4,1,r,T,v,i,out,[],a⟩,A,A1,A2,A3,ab,rb,(.slice none 0 0),ov⟩)(hs:SU lb s w)(hc:SCU ⟨⟨4,1,r,T,v,i,out,[],a⟩,A,A1,A2,A3,ab,rb,(.slice none 0 0),ov⟩ w)(hdis:∀q,SCR ⟨⟨4,1,r,T,v,i,out,[],a⟩,A,A1,A2,A3,ab,rb,(.slice none 0 0),ov⟩ q→¬SR lb s q)(hwf:Wf F w)(hF:∀r,SR lb s r∨SCR ⟨⟨4,1,r,T,v,i,out,[],a⟩,A,A1,A2,A3,ab,rb,(.slice none 0 0),ov⟩ r→F r=none)(b:Frame)(cs:List Frame):
 Own Try.prog false F ((SLay lb).Out st s (SCR ⟨⟨4,1,r,T,v,i,out,[],a⟩,A,A1,A2,A3,ab,rb,(.slice none 0 0),ov⟩) ((SLay lb).stp s ⟨⟨4,1,r,T,v,i,out,[],a⟩,A,A1,A2,A3,ab,rb,(.slice none 0 0),ov⟩) w (b::cs)) (back (.tuple #[]) ((SLay lb).cf st ⟨⟨4,1,r,T,v,i,out,[],a⟩,A,A1,A2,A3,ab,rb,(.slice none 0 0),ov⟩++b::cs)) w:=by
 have hlb:F lb=none:=hF _ (.inl (.inl rfl))
 have hwb:F s.wb=none:=hF _ (.inl (.inr rfl))
 have hans:∀k,¬held F ⟨ab,k,none⟩:=fun k=>not_heldB (hF _ (.inr (.inl rfl))) k
 have hrbh:∀k,¬held F ⟨rb,k,none⟩:=fun k=>not_heldB (hF _ (.inr (.inr (.inl rfl)))) k
 have hn16:=hs.wf.n2
 have hn1:=hs.wf.n1
 have hnn:s.n=s.k.ws.length:=rfl
 have hS:=hJ.s
 obtain⟨_,vT,vr,vi,vvs,vo,vo2,_⟩:=hJ.v
 simp only at vT vr vi vvs vo vo2
 refine own_sst_back (K:=stK) (sa:=⟨st,0,none⟩) ?_
 have hol:=vo (by simp)
 by_cases e:i+1<s.n
 ·refine rw_1 (sv:=stepperV st) (xs:=out) hn16 (by omega) (wf_under hwf) (Nat.le_refl _) hwf (hs.ws i vi).c hc.ov (fun q hq=>hF q (.inr (.inr (.inr (.inr hq))))) e hS fun ov' w' A' hg hA'=>own_sst_call (K:=stK) (.stop fun d=>?_)
  exact s_live (st:=st) (c:=⟨⟨4,1,r,T,v,i,out,[],a⟩,A,A1,A2,A3,ab,rb,.slice none 0 0,ov⟩) (c':=⟨⟨4,1,r,T,v,(i+1),(out++[s.k.ws.getD i 0]),[],a⟩,A',A1,A2,A3,ab,rb,.slice none 0 0,ov'⟩) (k':=s.k) (by rfl) (hs.more hdis hg) (by simp[SSt.step,e]) ⟨sv_r (by simp) vT vr e (fun _=>by simp[hol]) (fun h=>by simp at h),(by exact hA'),hJ.a,hJ.nvv⟩ (by exact hc.more hg (fun q hq=>by simp[Value.ownBlock]at hq) rfl rfl rfl rfl rfl rfl) (by exact scr_more (c:=⟨⟨4,1,r,T,v,i,out,[],a⟩,A,A1,A2,A3,ab,rb,.slice none 0 0,ov⟩) hg rfl rfl rfl rfl) hs hdis d
 ·refine rw_2 (sv:=stepperV st) (xs:=out) hn16 (by omega) (wf_under hwf) (Nat.le_refl _) hwf (hs.ws i vi).c hc.ov (fun q hq=>hF q (.inr (.inr (.inr (.inr hq))))) (by omega) hS fun ov' w1 hg=>?_
  have hcu:SCU ⟨⟨4,1,r,T,v,i,(out++[s.k.ws.getD i 0]),[],a⟩,A,A1,A2,A3,ab,rb,.slice none 0 0,ov'⟩ w1:=hc.more hg (fun q hq=>by simp[Value.ownBlock]at hq) rfl rfl rfl rfl rfl rfl
  obtain⟨la,ll,lc,hov⟩:∃la ll lc,ov'= .slice la ll lc:=row_slice hcu.ov
  subst hov
  refine do_b4 hcu.a hcu.r hcu.ne hans hrbh hJ.a fun w' hw'=>.stop fun d=>?_
  exact s_ans (st:=st) (c:=⟨⟨4,1,r,T,v,i,out,[],a⟩,A,A1,A2,A3,ab,rb,.slice none 0 0,ov⟩) (a:=⟨(true,0,out++[s.k.ws.getD i 0]),la,ll,lc⟩) (k':=s.k) ((hs.more hdis hg).same fun q hq=>hw'.old q (fun e=>hdis q (.inl e) hq) (fun e=>hdis q (.inr (.inl e)) hq)) (by simp[SSt.step,e]) (ownsRow_same2 hcu.ov fun q hq _=>hw'.old q (fun e=>hcu.on.1 (e ▸ hq)) (fun e=>hcu.on.2 (e ▸ hq))) (fun q h=>scr_more (c:=⟨⟨4,1,r,T,v,i,out,[],a⟩,A,A1,A2,A3,ab,rb,.slice none 0 0,ov⟩) (c':=⟨⟨4,1,r,T,v,i,(out++[s.k.ws.getD i 0]),[],a⟩,A,A1,A2,A3,ab,rb,.slice none 0 0,.slice la ll lc⟩) hg rfl rfl rfl rfl q (.inr (.inr (.inr h)))) hs hdis d
theorem ss_50(hJ:SJ lb st s.wb s.wo s.n ⟨⟨5,0,r,T,v,i,out,[],a⟩,A,A1,A2,A3,ab,rb,(.slice none 0 0),ov⟩)(hs:SU lb s w)(hc:SCU ⟨⟨5,0,r,T,v,i,out,[],a⟩,A,A1,A2,A3,ab,rb,(.slice none 0 0),ov⟩ w)(hdis:∀q,SCR ⟨⟨5,0,r,T,v,i,out,[],a⟩,A,A1,A2,A3,ab,rb,(.slice none 0 0),ov⟩ q→¬SR lb s q)(hwf:Wf F w)(hF:∀r,SR lb s r∨SCR ⟨⟨5,0,r,T,v,i,out,[],a⟩,A,A1,A2,A3,ab,rb,(.slice none 0 0),ov⟩ r→F r=none)(b:Frame)(cs:List Frame):
 Own Try.prog false F ((SLay lb).Out st s (SCR ⟨⟨5,0,r,T,v,i,out,[],a⟩,A,A1,A2,A3,ab,rb,(.slice none 0 0),ov⟩) ((SLay lb).stp s ⟨⟨5,0,r,T,v,i,out,[],a⟩,A,A1,A2,A3,ab,rb,(.slice none 0 0),ov⟩) w (b::cs)) (back (.tuple #[]) ((SLay lb).cf st ⟨⟨5,0,r,T,v,i,out,[],a⟩,A,A1,A2,A3,ab,rb,(.slice none 0 0),ov⟩++b::cs)) w:=by
 have hlb:F lb=none:=hF _ (.inl (.inl rfl))
 have hwb:F s.wb=none:=hF _ (.inl (.inr rfl))
 have hans:∀k,¬held F ⟨ab,k,none⟩:=fun k=>not_heldB (hF _ (.inr (.inl rfl))) k
 have hrbh:∀k,¬held F ⟨rb,k,none⟩:=fun k=>not_heldB (hF _ (.inr (.inr (.inl rfl)))) k
 have hn16:=hs.wf.n2
 have hn1:=hs.wf.n1
 have hnn:s.n=s.k.ws.length:=rfl
 have hS:=hJ.s
 obtain⟨_,vT,vr,vi,vvs,vo,vo2,_⟩:=hJ.v
 simp only at vT vr vi vvs vo vo2
 refine own_sst_back (K:=stK) (sa:=⟨st,0,none⟩) ?_
 refine nw_1 (sv:=stepperV st) (v:=s.k.ver) hs.v.c hS ?_
 refine do_b5 hc.a hc.r hc.ne hans hrbh hJ.a fun w' hw'=>.stop fun d=>?_
 exact s_ans (st:=st) (c:=⟨⟨5,0,r,T,v,i,out,[],a⟩,A,A1,A2,A3,ab,rb,.slice none 0 0,ov⟩) (a:=⟨(decide (a<s.k.ver),s.k.ver,[]),none,0,0⟩) (k':=s.k) (hs.same fun q hq=>hw'.old q (fun e=>hdis q (.inl e) hq) (fun e=>hdis q (.inr (.inl e)) hq)) (by simp[SSt.step]) (World.ownsRow_nil _ _ _ _) (fun q h=>by simp[SA.row,Value.ownBlock]at h) hs hdis d
end
end
section
variable{F:Fz}{w w':World}{lb st:Nat}
theorem sbegin_len(s:SSt)(o:Op4):(s.begin o).1.ws.length=s.ws.length:=by
 unfold SSt.begin
 repeat' split
 all_goals rfl
theorem slay_ok(lb:Nat):(SLay lb).Ok where
 call:=callable48
 jb:=fun st s s' c i o r h hb=>by
  obtain⟨e1,e2,e3⟩:=hb
  have e:s'.n=s.n:=(congrArg (fun x:SSt×SRs=>x.1.ws.length) e3).trans (sbegin_len _ _)
  show SJ lb st s'.wb s'.wo s'.n c
  rw[e,e1,e2]
  exact h
 js:=fun st s s' c c1 r h hb=>by
  obtain⟨e1,e2,e3⟩:=hb
  have e:s'.n=s.n:=(congrArg (fun x:SSt×SRs=>x.1.ws.length) e3).trans (sstep_len _ _)
  show SJ lb st s'.wb s'.wo s'.n c
  rw[e,e1,e2]
  exact h
 plain:=by
  intro st c
  refine⟨by simp[SLay],fun u hu=>?_⟩
  have hu:u∈sstFr stK ⟨st,0,none⟩::c.fr:=hu
  rcases List.mem_cons.1 hu with rfl|hu
  ·exact plain_base ⟨_,Try.func61⟩ _ _
  ·unfold SeC.fr at hu
   split at hu<;>
   ·simp only[List.mem_cons,List.mem_nil_iff,or_false,List.not_mem_nil]at hu
    repeat'(rcases hu with rfl|hu)
    all_goals first
     | exact plain_base ⟨_,Try.func89⟩ _ _
     | exact plain_base ⟨_,Try.func56⟩ _ _
     | exact plain_base ⟨_,Try.func24⟩ _ _
     | exact plain_base ⟨_,Try.func25⟩ _ _
     | exact plain_base ⟨_,Try.func26⟩ _ _
     | exact plain_base ⟨_,Try.func27⟩ _ _
     | exact plain_base ⟨_,Try.func28⟩ _ _
     | exact plain_base ⟨_,Try.func48⟩ _ _
     | (subst hu
        exact plain_base ⟨_,Try.func48⟩ _ _)
 sS:=fun s w w' h _ hs=>SU.same h hs
 sC:=fun c w w' h _ hs=>SCU.same h hs
 sA:=fun a w w' h _ hs=>ownsRow_same2 h fun q hq _=>hs q hq
 lS:=fun s w r h hr=>SU.low h hr
 lC:=fun c w r h hr=>SCU.low h hr
 lA:=fun a w r h hr=>row_low h hr
 beg:=by
  intro s i o st F w c cs hs hwf hF
  obtain⟨kd,a,b0,c0⟩:=o
  by_cases h1:kd=1
  ·subst h1
   exact sbeg_1 hs hwf c cs
  ·by_cases h2:kd=2
   ·subst h2
    exact sbeg_2 hs hwf c cs
   ·by_cases h3:kd=3
    ·subst h3
     exact sbeg_3 hs hwf c cs
    ·by_cases h4:kd=4
     ·subst h4
      exact sbeg_4 hs hwf c cs
     ·by_cases h5:kd=5
      ·subst h5
       exact sbeg_5 hs hwf c cs
      ·exact sbeg_other h1 h2 h3 h4 h5 hs hwf c cs
 stp:=by
  intro s c st F w b cs hJ hs hc hdis hwf hF
  obtain⟨⟨kd,ph,r,T,v,i,out,vs,a⟩,A,A1,A2,A3,ab,rb,vv,ov⟩:=c
  have hJ:SJ lb st s.wb s.wo s.n ⟨⟨kd,ph,r,T,v,i,out,vs,a⟩,A,A1,A2,A3,ab,rb,vv,ov⟩:=hJ
  have hpc:=hJ.v.pc
  simp only[List.mem_cons,Prod.mk.injEq,List.not_mem_nil,or_false]at hpc
  rcases hpc with⟨rfl,rfl⟩|⟨rfl,rfl⟩|⟨rfl,rfl⟩|⟨rfl,rfl⟩|⟨rfl,rfl⟩|⟨rfl,rfl⟩|⟨rfl,rfl⟩|⟨rfl,rfl⟩|⟨rfl,rfl⟩|⟨rfl,rfl⟩|⟨rfl,rfl⟩|⟨rfl,rfl⟩|⟨rfl,rfl⟩
  ·exact ss_10 hJ hs hc hdis hwf hF b cs
  ·exact ss_11 hJ hs hc hdis hwf hF b cs
  ·exact ss_12 hJ hs hc hdis hwf hF b cs
  ·exact ss_13 hJ hs hc hdis hwf hF b cs
  ·exact ss_20 hJ hs hc hdis hwf hF b cs
  ·exact ss_21 hJ hs hc hdis hwf hF b cs
  ·exact ss_22 hJ hs hc hdis hwf hF b cs
  ·exact ss_23 hJ hs hc hdis hwf hF b cs
  ·obtain rfl:=hJ.v.nv (by simp)
   obtain rfl:=hJ.nvv (by simp)
   exact ss_30 hJ hs hc hdis hwf hF b cs
  ·obtain rfl:=hJ.v.nv (by simp)
   obtain rfl:=hJ.nvv (by simp)
   exact ss_31 hJ hs hc hdis hwf hF b cs
  ·obtain rfl:=hJ.v.nv (by simp)
   obtain rfl:=hJ.nvv (by simp)
   exact ss_32 hJ hs hc hdis hwf hF b cs
  ·obtain rfl:=hJ.v.nv (by simp)
   obtain rfl:=hJ.nvv (by simp)
   exact ss_41 hJ hs hc hdis hwf hF b cs
  ·obtain rfl:=hJ.v.nv (by simp)
   obtain rfl:=hJ.nvv (by simp)
   exact ss_50 hJ hs hc hdis hwf hF b cs
end
section
variable{P:Program}
theorem wf_E0(w:World):Wf F0 w:=⟨fun r z h=>by cases h⟩
theorem res_any{fn:Func}{t:Array Value}{w:World}{τ:Tape}{e:Nat}{v:Value}(h:(results fn t).run P (retape w τ e)= .ok v (retape w τ e))(d:Nat):
 (results fn t).run P (w.at d)= .ok v (w.at d)∧∀x∈(results fn t).events P (w.at d) #[],EvT F0 x:=by
 obtain⟨w1,es,j,hu,r1,e1,t1,g1,hw1,l1⟩:=(results_sims (P:=P) (F:=F0) fn t (retape w τ e) (wf_E0 _)).ok (by rw[mask_none (fun _=>rfl)];exact h)
 rw[mask_none (fun _=>rfl)]at hu
 subst hu
 have hj:j=0:=by
  have:=g1.drawn
  omega
 subst hj
 have h2:=l1 (w.at d).tape (w.at d).drawn (by intro i q hi;omega)
 rw[mask_none (fun _=>rfl)]at h2
 have h3:(results fn t).run P (w.at d)= .ok v (w.at d):=h2
 refine⟨h3,fun x hx=>?_⟩
 obtain⟨w2,es2,j2,hu2,r2,e2,t2,g2,hw2,l2⟩:=(results_sims (P:=P) (F:=F0) fn t (w.at d) (wf_E0 _)).ok (by rw[mask_none (fun _=>rfl)];exact h3)
 rw[e2]at hx
 exact t2 x (by simpa using hx)
theorem own_callB{S:FuncId→Bool}(hC:Closed P S true)(hE:NoEarly P){f:Nat}{fn:Func}{c:Code}(hf:P.funcs[f]? =some fn)(hb:fn.body=some c)(hc:codeOk P S true c=true){args:Array Value}{w:World}{R:Value→World→Prop}
 (H:∀τ e,CallsB P fn args (retape w τ e) R) {cl:Frame} {cs:List Frame} {main:Bool} {Stop:Goroutine→World→Prop}
 (K:∀v w' τ e,R v (retape w' τ e)→Gd F0 w w'→Own P main F0 Stop (G (cl.finish v) cs) w'):Own P main F0 Stop (G (Frame.enter P f args .normal) (cl::cs)) w:=by
 let b:Frame:={(default:Frame)with fn:=f,kind:=.normal}
 have henter:Frame.enter P f args .normal=b.at {tmps:=args++Array.replicate (fn.ntmps - args.size) undef,defers:=[]} [.code c]:=by
  simp[Frame.enter,Frame.at,hf,hb,b]
 rw[henter]
 have back:∀(a':Act) (w':World) (t':List Item) (τ:Tape) (e:Nat),a'.defers=[]→(∃v,(results fn a'.tmps).run P (retape (mask F0 w') τ e)= .ok v (retape (mask F0 w') τ e)∧∃v',Ending.returned v= .returned v'∧R v' (retape (mask F0 w') τ e))→Gd F0 w w'→
  Own P main F0 Stop (G {b.at a' t' with mode:=.returning} (cl::cs)) w':=fun a' w' t' τ e hd ⟨v,h1,v',h2,h3⟩ hg=>by
  cases h2
  rw[mask_none (fun _=>rfl)]at h1 h3
  exact own_leave rfl hd hf (fun d=>(res_any h1 d).1) (fun d x hx=>(res_any h1 d).2 x hx) (K _ _ τ e h3 hg)
 refine lift (Q:=bodyPost P fn fun x w'=>∃v,x= .returned v∧R v w') hC (fun _ _=>rfl) hE hc (wf_E0 w) rfl (fun e a w hq=>?_) (fun τ e=>?_) (by simp[b]) (fun a' w' τ e hq _ hg=>?_) (fun a' w' τ e t' hq _ hg=>?_)
 ·cases e with
  | normal=>exact .inl rfl
  | ret=>exact .inr ⟨rfl,hq.1⟩
  | panic ch=>obtain⟨_,v,h,_⟩:=hq;cases h
  | outgrown=>obtain⟨v,h,_⟩:=hq;cases h
  | exit _=>exact hq.elim
  | goto _=>exact hq.elim
 ·rw[mask_none (fun _=>rfl)]
  exact H τ e c hb
 ·obtain⟨hd,h⟩:=hq
  have:b.at a' []=b.at ⟨a'.tmps,[]⟩ []:=by rw[← hd]
  rw[this]
  refine own_go rfl (fun d=>stepG_end) ?_
  exact back ⟨a'.tmps,[]⟩ w' [] τ e rfl h hg
 ·obtain⟨hd,h⟩:=hq
  exact back a' w' _ τ e hd h hg
def codeOkF(P:Program)(S:FuncId→Bool)(f:FuncId):Bool:=match P.funcs[f]? with
 | some fn => !(fn.name == "runtime.NumGoroutine") && match fn.body with
   | some c=>codeOk P S true c
   | none=>false
 | none=>false
theorem codeOkF_of {P : Program} {S : FuncId → Bool} {f : FuncId} (h : codeOkF P S f = true) : ∃ fn, P.funcs[f]? = some fn ∧ (fn.name == "runtime.NumGoroutine") = false ∧ ∃ c, fn.body = some c ∧ codeOk P S true c = true := by
 unfold codeOkF at h
 split at h
 ·rename_i fn hf
  rw[Bool.and_eq_true]at h
  obtain⟨h1,h2⟩:=h
  split at h2
  ·rename_i c hc
   exact⟨fn,hf,by simpa using h1,c,hc,h2⟩
  ·cases h2
 ·cases h
theorem own_piece{S:FuncId→Bool}(hC:Closed P S true)(hE:NoEarly P){c:Code}(hc:codeOk P S true c=true){A:Array Value}{w:World}{R:Array Value→World→Prop}{b:Frame}{k:List Item}(hk:b.kind≠.early)
 (H:∀τ e,c.wp P (nrm fun a w=>a.defers=[]∧R a.tmps w) ⟨A,[]⟩ (retape w τ e)) {cs:List Frame} {main:Bool} {Stop:Goroutine→World→Prop}
 (K:∀A' w' τ e,R A' (retape w' τ e)→Gd F0 w w'→Own P main F0 Stop (G (b.at ⟨A',[]⟩ k) cs) w'):Own P main F0 Stop (G (b.at ⟨A,[]⟩ (.code c::k)) cs) w:=by
 refine lift (Q:=nrm fun a w=>a.defers=[]∧R a.tmps w) hC (fun _ _=>rfl) hE hc (wf_E0 w) rfl (fun e a w hq=>?_) (fun τ e=>?_) hk (fun a' w' τ e hq _ hg=>?_) (fun a' w' τ e t' hq _ hg=>?_)
 ·cases e with
  | normal=>exact .inl rfl
  | _=>exact hq.elim
 ·rw[mask_none (fun _=>rfl)]
  exact H τ e
 ·obtain⟨hd,h⟩:=hq
  rw[mask_none (fun _=>rfl)]at h
  obtain⟨tm,df⟩:=a'
  simp only at hd
  subst hd
  exact K tm w' τ e h hg
 ·exact hq.elim
end
noncomputable section
variable{F:Fz}{w:World}
def diBody:Code:=Try.f81.body.getD .skip
def dis0:=pC [] diBody
def dir0:=pC [zt] diBody
def dis1:=pC [zf] diBody
def dir1:=pC [zf,zt] diBody
def dis2:=pC [zf,zf] diBody
def dir2:=pC [zf,zf,zt] diBody
def dis3:=pC [zf,zf,zf] diBody
def dir3:=pC [zf,zf,zf,zt] diBody
def dis4:=pC [zf,zf,zf,zf] diBody
def dis5:=pC [zf,zf,zf,zf,zt] diBody
def dir4:=pC [zf,zf,zf,zf,zt,zt] diBody
def dib0:=pC [zf,zf,zf,zf,zt,zf] diBody
def dil6:=pC [zf,zf,zf,zf,zt,zf,zt] diBody
def dis7:=pC [zf,zf,zf,zf,zt,zf,zt,zt] diBody
def dir5:=pC [zf,zf,zf,zf,zt,zf,zt,zt,zt] diBody
def dis8:=pC [zf,zf,zf,zf,zt,zf,zt,zt,zf] diBody
def dic18:=pC [zf,zf,zf,zf,zt,zf,zt,zt,zf,zt] diBody
def dis9:=pC [zf,zf,zf,zf,zt,zf,zt,zt,zf,zf] diBody
def dib1:=pC [zf,zf,zf,zf,zt,zf,zt,zt,zf,zf,zt] diBody
def dis10:=pC [zf,zf,zf,zf,zt,zf,zt,zt,zf,zf,zt,zt] diBody
def dir6:=pC [zf,zf,zf,zf,zt,zf,zt,zt,zf,zf,zt,zt,zt] diBody
def dis11:=pC [zf,zf,zf,zf,zt,zf,zt,zt,zf,zf,zt,zt,zf] diBody
def dir7:=pC [zf,zf,zf,zf,zt,zf,zt,zt,zf,zf,zt,zt,zf,zt] diBody
def dir8:=pC [zf,zf,zf,zf,zt,zf,zt,zt,zf,zf,zt,zt,zf,zf] diBody
def dir9:=pC [zf,zf,zf,zf,zt,zf,zt,zt,zf,zf,zf] diBody
def dis12:=pC [zf,zf,zf,zf,zf] diBody
def dir10:=pC [zf,zf,zf,zf,zf,zt] diBody
theorem dis0':dis0= .seq dir0 dis1:=by kernel_rfl
theorem dir0':dir0= .region 0 (oC dir0) false:=by kernel_rfl
theorem dis1':dis1= .seq dir1 dis2:=by kernel_rfl
theorem dir1':dir1= .region 1 (oC dir1) false:=by kernel_rfl
theorem dis2':dis2= .seq dir2 dis3:=by kernel_rfl
theorem dir2':dir2= .region 2 (oC dir2) false:=by kernel_rfl
theorem dis3':dis3= .seq dir3 dis4:=by kernel_rfl
theorem dir3':dir3= .region 3 (oC dir3) false:=by kernel_rfl
theorem dis4':dis4= .seq dis5 dis12:=by kernel_rfl
theorem dis5':dis5= .seq dir4 dib0:=by kernel_rfl
theorem dir4':dir4= .region 4 (oC dir4) false:=by kernel_rfl
theorem dib0':dib0= .block 0 dil6:=by kernel_rfl
theorem dil6':dil6= .loop dis7:=by kernel_rfl
theorem dis7':dis7= .seq dir5 dis8:=by kernel_rfl
theorem dir5':dir5= .region 5 (oC dir5) false:=by kernel_rfl
theorem dis8':dis8= .seq dic18 dis9:=by kernel_rfl
theorem dic18':dic18= .cond (.tmp 18) .skip (.exit 0):=by kernel_rfl
theorem dis9':dis9= .seq dib1 dir9:=by kernel_rfl
theorem dib1':dib1= .block 1 dis10:=by kernel_rfl
theorem dis10':dis10= .seq dir6 dis11:=by kernel_rfl
theorem dir6':dir6= .region 6 (oC dir6) false:=by kernel_rfl
theorem dis11':dis11= .seq dir7 dir8:=by kernel_rfl
theorem dir7':dir7= .region 7 (oC dir7) true:=by kernel_rfl
theorem dir8':dir8= .region 8 (oC dir8) false:=by kernel_rfl
theorem dir9':dir9= .region 9 (oC dir9) false:=by kernel_rfl
theorem dis12':dis12= .seq dir10 .ret:=by kernel_rfl
theorem dir10':dir10= .region 10 (oC dir10) true:=by kernel_rfl
theorem enter_di(args:Array Value):Frame.enter Try.prog 81 args .normal=(Go.Conc.base 81).at {tmps:=args++Array.replicate (38 - args.size) undef,defers:=[]} [.code dis0]:=enter_at args Try.func81 rfl
theorem callable81:Callable 81:=callable Try.func81 rfl rfl
def diT(s:Nat→Value):Array Value:= #[s 0,s 1,s 2,s 3,s 4,s 5,s 6,s 7,s 8,s 9,s 10,s 11,s 12,s 13,s 14,s 15,s 16,s 17,s 18,s 19,s 20,s 21,s 22,s 23,s 24,s 25,s 26,s 27,s 28,s 29,s 30,s 31,s 32,s 33,s 34,s 35,s 36,s 37]
theorem diT_of{A:Array Value}(h:A.size=38):∃s,A=diT s:=by
 obtain⟨s,hs,_⟩:=arr_lit A h
 exact⟨s,hs⟩
theorem info42:∃i,Try.prog.info? 42=some i∧i.zero=some (.slice none 0 0)∧i.size=1∧i.bytes=24:=by
 have h:(Try.prog.info? 42).map (fun i=>(i.size,i.bytes))=some (1,24):=by kernel_rfl
 have h0:(Try.prog.info? 42).bind (·.zero)=some (.slice none 0 0):=by kernel_rfl
 obtain⟨i,hi,h1⟩:=Option.map_eq_some_iff.1 h
 rw[hi]at h0
 simp only[Prod.mk.injEq]at h1
 exact⟨i,hi,h0,h1.1,h1.2⟩
section
variable{n:Nat}{es:Array Event}
@[go_sem] theorem mkSlice29(h:n≤64):(Instr.makeSlice 29 (.int .i64 n) (.int .i64 n)).run Try.prog w= .ok (.slice (some ⟨w.heap.size,0,none⟩) n n) (w.alloc (.cells (madeCells #[.slice none 0 0] n) 42)):=by
 obtain⟨i,hi,hz,hs,hb⟩:=info42
 have:=run_make (P:=Try.prog) w 29 42 i (.slice none 0 0) Try.underlying29 hi hz .i64 .i64 n n (by omega) (by omega) (by rw[hb];omega) (by omega)
 rw[hs]at this
 simpa [Value.cells]using this
@[go_sem] theorem mkSlice29e(h:n≤64):(Instr.makeSlice 29 (.int .i64 n) (.int .i64 n)).events Try.prog w es=es:=by
 obtain⟨i,hi,hz,hs,hb⟩:=info42
 exact events_make (P:=Try.prog) w 29 42 i (.slice none 0 0) Try.underlying29 hi hz .i64 .i64 n n (by omega) (by omega) (by rw[hb];omega) (by omega) (by rw[hb];omega) es
end
theorem set_new27(X:World)(u v:Value):(X.alloc (.cells #[u] 29)).setCell ⟨X.heap.size,0,none⟩ v=X.alloc (.cells #[v] 29):=by go_simp
theorem di_0{nn:Nat}(hU:Under F nn)(hn:nn≤w.heap.size){ta:Option Addr}{tl tc n df:Nat}{first capt:Array Value}(hn1:min tl 64=n){cs:List Frame}{main:Bool}{Stop:Goroutine→World→Prop}
 (h:∀A,Slots 38 A [(0,.slice ta tl tc),(3,.pointer (some ⟨w.heap.size,0,none⟩)),(6,.int .i64 n)]→Own Try.prog main F Stop (G ((Go.Conc.base 81).at ⟨A,[]⟩ [.code dis2]) cs) (w.alloc (.cells #[.func (.func df) first capt] 98))):
 Own Try.prog main F Stop (G (Frame.enter Try.prog 81 #[.slice ta tl tc,.func (.func df) first capt] .normal) cs) w:=by
 have hn2:(if(64:Int)<(tl:Int)then(64:Int)else tl)=(n:Int):=by split<;>omega
 rw[enter_di]
 walk_nrm
 refine ogSR dis0' dir0' ?_
 simp only[dir0,diBody,Try.f81,zz,Nat.reduceAdd]
 (refine oW fun dd K hK=>?_;go_simp;refine qA hK hU ?_;clear hK K)
 iterate 2 (refine oW fun dd K hK=>?_;go_simp;refine qT hK ?_;clear hK K)
 refine ogE ?_
 refine ogSR dis1' dir1' ?_
 simp only[dir1,diBody,Try.f81,zz,Nat.reduceAdd]
 iterate 4 (refine oW fun dd K hK=>?_;go_simp;refine qT hK ?_;clear hK K)
 refine ogE ?_
 refine h _ ?_
 exact⟨rfl,rfl,rfl,rfl,trivial⟩
theorem di_1{nn:Nat}(hU:Under F nn)(hn:nn≤w.heap.size){ta:Option Addr}{tl tc n db:Nat}(hn64:n≤64){A:Array Value}(hA:Slots 38 A [(0,.slice ta tl tc),(3,.pointer (some ⟨db,0,none⟩)),(6,.int .i64 n)]){cs:List Frame}{main:Bool}{Stop:Goroutine→World→Prop}
 (h:∀A,Slots 38 A [(0,.slice ta tl tc),(3,.pointer (some ⟨db,0,none⟩)),(6,.int .i64 n),(7,.pointer (some ⟨w.heap.size+1,0,none⟩)),(8,.slice none 0 0),(16,.int .i64 n),(17,.int .i64 (0:Nat))]→Own Try.prog main F Stop (G ((Go.Conc.base 81).at ⟨A,[]⟩ [.code dis7,.inLoop dis7,.inBlock 0,.code dis12]) cs) ((w.alloc (.cells (madeCells #[.slice none 0 0] n) 42)).alloc (.cells #[.slice (some ⟨w.heap.size,0,none⟩) n n] 29))):
 Own Try.prog main F Stop (G ((Go.Conc.base 81).at ⟨A,[]⟩ [.code dis2]) cs) w:=by
 obtain⟨hsz,h0,h3,h6,_⟩:=hA
 obtain⟨s,rfl⟩:=diT_of hsz
 change s 0=_ at h0
 change s 3=_ at h3
 change s 6=_ at h6
 clear hsz
 simp only[diT,h0,h3,h6]
 clear h0 h3 h6
 refine ogSR dis2' dir2' ?_
 simp only[dir2,diBody,Try.f81,zz,Nat.reduceAdd]
 (refine oW fun dd K hK=>?_;go_simp;refine qT hK ?_;clear hK K)
 (refine oW fun dd K hK=>?_;go_simp;refine hK _ _ ⟨⟨⟨0,grew_alloc hU (by first|(simp[go_sem];done)|(simp[go_sem];omega)) _⟩,fun e he=>by(have hm:=mem_listed he;clear he hK;simp[go_sem,storedEv,mkSlice29e hn64]at hm)⟩,?_⟩;clear hK K;rw[alloc_at'];refine Own.at ?_ dd)
 (refine oW fun dd K hK=>?_;go_simp;refine qA hK hU ?_;clear hK K)
 (refine oW fun dd K hK=>?_;go_simp;refine qS hK hU ?_;clear hK K)
 have e1:=set_new27 (w.alloc (.cells (madeCells #[.slice none 0 0] n) 42)) (.slice none 0 0) (.slice (some ⟨w.heap.size,0,none⟩) n n)
 simp only[World.size_alloc]at e1
 rw[e1]
 clear e1
 refine ogE ?_
 refine ogSR dis3' dir3' ?_
 simp only[dir3,diBody,Try.f81,zz,Nat.reduceAdd]
 (refine oW fun dd K hK=>?_;go_simp;refine qT hK ?_;clear hK K)
 refine ogE ?_
 refine ogSE dis4' ?_
 refine ogSR dis5' dir4' ?_
 simp only[dir4,diBody,Try.f81,zz,Nat.reduceAdd]
 iterate 2 (refine oW fun dd K hK=>?_;go_simp;refine qT hK ?_;clear hK K)
 refine ogE ?_
 rw[dib0']
 refine ogB ?_
 rw[dil6']
 refine ogP ?_
 refine h _ ?_
 exact⟨rfl,rfl,rfl,rfl,rfl,rfl,rfl,rfl,trivial⟩
theorem di_5{ta:Option Addr}{tl tc n db av:Nat}{l:Value}{A:Array Value}(hA:Slots 38 A [(0,.slice ta tl tc),(3,.pointer (some ⟨db,0,none⟩)),(6,.int .i64 n),(7,.pointer (some ⟨av,0,none⟩)),(8,l),(16,.int .i64 n),(17,.int .i64 n)]){cs:List Frame}{main:Bool}{Stop:Goroutine→World→Prop}
 (h:∀A,Slots 38 A [(0,.slice ta tl tc),(3,.pointer (some ⟨db,0,none⟩)),(6,.int .i64 n),(7,.pointer (some ⟨av,0,none⟩)),(8,l),(16,.int .i64 n),(17,.int .i64 n)]→Own Try.prog main F Stop (G ((Go.Conc.base 81).at ⟨A,[]⟩ [.code dir10,.code .ret]) cs) w):
 Own Try.prog main F Stop (G ((Go.Conc.base 81).at ⟨A,[]⟩ [.code dis7,.inLoop dis7,.inBlock 0,.code dis12]) cs) w:=by
 obtain⟨hsz,h0,h3,h6,h7,h8,h16,h17,_⟩:=hA
 obtain⟨s,rfl⟩:=diT_of hsz
 change s 0=_ at h0
 change s 3=_ at h3
 change s 6=_ at h6
 change s 7=_ at h7
 change s 8=_ at h8
 change s 16=_ at h16
 change s 17=_ at h17
 clear hsz
 simp only[diT,h0,h3,h6,h7,h8,h16,h17]
 clear h0 h3 h6 h7 h8 h16 h17
 have hlt:decide ((n:Int)<(n:Int))=false:=by simp
 refine ogSR dis7' dir5' ?_
 simp only[dir5,diBody,Try.f81,zz,Nat.reduceAdd]
 (refine oW fun dd K hK=>?_;go_simp;refine qT hK ?_;clear hK K)
 refine ogE ?_
 refine ogSE dis8' ?_
 rw[dic18']
 refine ogF ?_
 simp only[Bool.false_eq_true,if_false]
 refine own_go rfl (fun d=>stepG_exit rfl) ?_
 refine ogSE dis12' ?_
 refine h _ ?_
 exact⟨rfl,rfl,rfl,rfl,rfl,rfl,rfl,rfl,trivial⟩
theorem di_2{nn:Nat}(hU:Under F nn)(hn:nn≤w.heap.size){ta:Option Addr}{tl tc n db av k:Nat}{l:Value}(hk:k<n){A:Array Value}(hA:Slots 38 A [(0,.slice ta tl tc),(3,.pointer (some ⟨db,0,none⟩)),(6,.int .i64 n),(7,.pointer (some ⟨av,0,none⟩)),(8,l),(16,.int .i64 n),(17,.int .i64 k)]){cs:List Frame}{main:Bool}{Stop:Goroutine→World→Prop}
 (h:∀A,Slots 38 A ((9,.pointer (some ⟨w.heap.size,0,none⟩))::[(0,.slice ta tl tc),(3,.pointer (some ⟨db,0,none⟩)),(6,.int .i64 n),(7,.pointer (some ⟨av,0,none⟩)),(8,l),(16,.int .i64 n),(17,.int .i64 k)])→Own Try.prog main F Stop (G ((Go.Conc.base 81).at ⟨A,[]⟩ [.code dis11,.inBlock 1,.code dir9,.inLoop dis7,.inBlock 0,.code dis12]) cs) (w.alloc (.cells #[.int .i64 k] 3))):
 Own Try.prog main F Stop (G ((Go.Conc.base 81).at ⟨A,[]⟩ [.code dis7,.inLoop dis7,.inBlock 0,.code dis12]) cs) w:=by
 obtain⟨hsz,h0,h3,h6,h7,h8,h16,h17,_⟩:=hA
 obtain⟨s,rfl⟩:=diT_of hsz
 change s 0=_ at h0
 change s 3=_ at h3
 change s 6=_ at h6
 change s 7=_ at h7
 change s 8=_ at h8
 change s 16=_ at h16
 change s 17=_ at h17
 clear hsz
 simp only[diT,h0,h3,h6,h7,h8,h16,h17]
 clear h0 h3 h6 h7 h8 h16 h17
 have hlt:decide ((k:Int)<(n:Int))=true:=by simp;omega
 have hlt2:decide (k<n)=true:=by simp;omega
 refine ogSR dis7' dir5' ?_
 simp only[dir5,diBody,Try.f81,zz,Nat.reduceAdd]
 (refine oW fun dd K hK=>?_;go_simp;refine qT hK ?_;clear hK K)
 refine ogE ?_
 refine ogSE dis8' ?_
 rw[dic18']
 refine ogT ?_
 simp only[if_true]
 refine ogK ?_
 refine ogSE dis9' ?_
 rw[dib1']
 refine ogB ?_
 refine ogSR dis10' dir6' ?_
 simp only[dir6,diBody,Try.f81,zz,Nat.reduceAdd]
 (refine oW fun dd K hK=>?_;go_simp;refine qT hK ?_;clear hK K)
 (refine oW fun dd K hK=>?_;go_simp;refine qA hK hU ?_;clear hK K)
 (refine oW fun dd K hK=>?_;go_simp;refine qS hK hU ?_;clear hK K)
 rw[set_new]
 refine ogE ?_
 refine h _ ?_
 exact⟨rfl,rfl,rfl,rfl,rfl,rfl,rfl,rfl,rfl,trivial⟩
end
section
variable{F:Fz}{w:World}
structure SD(nn ib tb o k ol oc:Nat)(oa:Option Addr)(u:World):Prop where
 top:nn≤u.heap.size
 il:ib<u.heap.size
 tl:tb<u.heap.size
 ci:u.cell? ⟨ib,0,none⟩=some (.int .i64 k)
 zi:u.frozen? ⟨ib,0,none⟩=false
 ct:u.cell? ⟨tb,o+k,none⟩=some (.slice oa ol oc)
 zt:u.frozen? ⟨tb,o+k,none⟩=false
section
variable{nn ib tb o k ol oc:Nat}{oa:Option Addr}{u:World}
theorem SD.at(h:SD nn ib tb o k ol oc oa u)(d:Nat):SD nn ib tb o k ol oc oa (u.at d):=⟨h.top,h.il,h.tl,h.ci,h.zi,h.ct,h.zt⟩
theorem SD.alloc(h:SD nn ib tb o k ol oc oa u)(ob:Obj):SD nn ib tb o k ol oc oa (u.alloc ob):=by
 have e1:(u.alloc ob).heap[ib]? =u.heap[ib]?:=heap_alloc_lt _ _ h.il
 have e2:(u.alloc ob).heap[tb]? =u.heap[tb]?:=heap_alloc_lt _ _ h.tl
 refine⟨by simp;have:=h.top;omega,by simp;have:=h.il;omega,by simp;have:=h.tl;omega,?_,?_,?_,?_⟩
 ·rw[← h.ci];unfold World.cell?;simp only[e1]
 ·rw[← h.zi];unfold World.frozen?;simp only[e1]
 ·rw[← h.ct];unfold World.cell?;simp only[e2]
 ·rw[← h.zt];unfold World.frozen?;simp only[e2]
end
theorem set_new32(X:World)(u v:Value):(X.alloc (.cells #[u] 34)).setCell ⟨X.heap.size,0,none⟩ v=X.alloc (.cells #[v] 34):=by go_simp
theorem info47:∃i,Try.prog.info? 47=some i∧i.size=4:=by
 have h:(Try.prog.info? 47).map (fun i=>i.size)=some 4:=by kernel_rfl
 obtain⟨i,hi,h1⟩:=Option.map_eq_some_iff.1 h
 exact⟨i,hi,h1⟩
theorem slice_h{w:World}{a:Option Addr}{ol oc m:Nat}(hmc:m≤oc):(Instr.sliceAt 34 (.slice a ol oc) none (some (.int .i64 m)) none).run Try.prog w= .ok (.slice a m oc) w:=by
 obtain⟨i,hi,hs⟩:=info47
 have hu:Try.prog.underlying 34=some (.slice 47):=Try.underlying34
 have e:a.map (fun x:Addr=>x.add 0)=a:=by
  cases a with
  | none=>rfl
  | some x=>simp[Addr.add]
 have hm:(m:Int)≤oc:=by omega
 simp[Instr.sliceAt,Instr.slice,run_underlying hu,Instr.sliceBounds,run_sliceBound,sizeOf,typeInfo,hi,hs,hmc,hm,e]
theorem slice_he{w:World}{es:Array Event}{a:Option Addr}{ol oc m:Nat}(hmc:m≤oc):(Instr.sliceAt 34 (.slice a ol oc) none (some (.int .i64 m)) none).events Try.prog w es=es:=by
 obtain⟨i,hi,hs⟩:=info47
 have hu:Try.prog.underlying 34=some (.slice 47):=Try.underlying34
 have hm:(m:Int)≤oc:=by omega
 simp[Instr.sliceAt,Instr.slice,run_underlying hu,Instr.sliceBounds,Instr.sliceBound,asIntOf,run_sliceBound,sizeOf,typeInfo,hi,hs,hmc,hm]
theorem di_3{nn:Nat}(hU:Under F nn){tb o tl tc n db av ib k ol oc m:Nat}{oa:Option Addr}{l:Value}(hkt:k<tl)(hm0:min ol 65536=m)(hoc:ol≤oc)(hs:SD nn ib tb o k ol oc oa w){A:Array Value}(hA:Slots 38 A ((9,.pointer (some ⟨ib,0,none⟩))::[(0,.slice (some ⟨tb,o,none⟩) tl tc),(3,.pointer (some ⟨db,0,none⟩)),(6,.int .i64 n),(7,.pointer (some ⟨av,0,none⟩)),(8,l),(16,.int .i64 n),(17,.int .i64 k)])){cs:List Frame}{main:Bool}{Stop:Goroutine→World→Prop}{kk:List Item}
 (h:∀A,Slots 38 A ((9,.pointer (some ⟨ib,0,none⟩))::(10,.pointer (some ⟨w.heap.size,0,none⟩))::[(0,.slice (some ⟨tb,o,none⟩) tl tc),(3,.pointer (some ⟨db,0,none⟩)),(6,.int .i64 n),(7,.pointer (some ⟨av,0,none⟩)),(8,l),(16,.int .i64 n),(17,.int .i64 k)])→Own Try.prog main F Stop (G ((Go.Conc.base 81).at ⟨A,[]⟩ kk) cs) (w.alloc (.cells #[.slice oa m oc] 34))):
 Own Try.prog main F Stop (G ((Go.Conc.base 81).at ⟨A,[]⟩ (.code dir7::kk)) cs) w:=by
 obtain⟨hsz,h9,h0,h3,h6,h7,h8,h16,h17,_⟩:=hA
 obtain⟨s,rfl⟩:=diT_of hsz
 change s 9=_ at h9
 change s 0=_ at h0
 change s 3=_ at h3
 change s 6=_ at h6
 change s 7=_ at h7
 change s 8=_ at h8
 change s 16=_ at h16
 change s 17=_ at h17
 clear hsz
 simp only[diT,h9,h0,h3,h6,h7,h8,h16,h17]
 clear h9 h0 h3 h6 h7 h8 h16 h17
 have hmc:m≤oc:=by omega
 have hm2:(if(65536:Int)<(ol:Int)then(65536:Int)else ol)=(m:Int):=by split<;>omega
 have hS:∀u d,SD nn ib tb o k ol oc oa u→SD nn ib tb o k ol oc oa (World.at u d):=fun u d h=>h.at d
 rw[dir7']
 refine own_drawnM (SD nn ib tb o k ol oc oa) (last:=12) run_mixed (ll_of (by kernel_rfl)) (by decide) ?_
 simp only[dir7,diBody,Try.f81,zz,Nat.reduceAdd]
 have hZ:∀a u d,Own Try.prog main F Stop (G ((Go.Conc.base 81).at a (.inRegion (oC dir7) [12]::kk)) cs) u→Own Try.prog main F Stop (G ((Go.Conc.base 81).at a (.inRegion (oC dir7) [12]::kk)) cs) (World.at u d):=fun a u d h=>h.at d
 simp only[dir7,diBody,Try.f81,zz,Nat.reduceAdd]at hZ
 refine anyM_take hS hZ (i:=0) (v:=.slice (some ⟨tb,o,none⟩) tl tc) hs rfl rfl (by kernel_rfl) (by kernel_rfl) (by kernel_rfl) (fun u hu=>.inl ⟨rfl,fun d=>⟨by simp[go_sem,execOp,Act.eval],fun e he=>by have hm:=mem_listed he;simp[go_sem,execOp,Act.eval]at hm⟩⟩) ?_
 walk_nrm
 refine anyM_take hS hZ (i:=1) (v:=.int .i64 k) hs rfl rfl (by kernel_rfl) (by kernel_rfl) (by kernel_rfl) (fun u hu=>.inl ⟨rfl,fun d=>⟨by simp[go_sem,execOp,Act.eval,hu.ci,hu.zi],fun e he=>by have hm:=mem_listed he;simp[go_sem,execOp,Act.eval,hu.ci,hu.zi]at hm;subst hm;exact evT_read _ _⟩⟩) ?_
 walk_nrm
 refine anyM_take hS hZ (i:=2) (v:=.pointer (some ⟨tb,o+k,none⟩)) hs rfl rfl (by kernel_rfl) (by kernel_rfl) (by kernel_rfl) (fun u hu=>.inl ⟨rfl,fun d=>⟨by simp[go_sem,execOp,Act.eval,hkt],fun e he=>by have hm:=mem_listed he;simp[go_sem,execOp,Act.eval,hkt]at hm⟩⟩) ?_
 walk_nrm
 refine anyM_take hS hZ (i:=3) (v:=.slice oa ol oc) hs rfl rfl (by kernel_rfl) (by kernel_rfl) (by kernel_rfl) (fun u hu=>.inl ⟨rfl,fun d=>⟨by simp[go_sem,execOp,Act.eval,hu.ct,hu.zt],fun e he=>by have hm:=mem_listed he;simp[go_sem,execOp,Act.eval,hu.ct,hu.zt]at hm;subst hm;exact evT_read _ _⟩⟩) ?_
 walk_nrm
 refine anyM_take hS hZ (i:=4) (v:=.slice (some ⟨tb,o,none⟩) tl tc) hs rfl rfl (by kernel_rfl) (by kernel_rfl) (by kernel_rfl) (fun u hu=>.inl ⟨rfl,fun d=>⟨by simp[go_sem,execOp,Act.eval],fun e he=>by have hm:=mem_listed he;simp[go_sem,execOp,Act.eval]at hm⟩⟩) ?_
 walk_nrm
 refine anyM_take hS hZ (i:=5) (v:=.int .i64 k) hs rfl rfl (by kernel_rfl) (by kernel_rfl) (by kernel_rfl) (fun u hu=>.inl ⟨rfl,fun d=>⟨by simp[go_sem,execOp,Act.eval,hu.ci,hu.zi],fun e he=>by have hm:=mem_listed he;simp[go_sem,execOp,Act.eval,hu.ci,hu.zi]at hm;subst hm;exact evT_read _ _⟩⟩) ?_
 walk_nrm
 refine anyM_take hS hZ (i:=6) (v:=.pointer (some ⟨tb,o+k,none⟩)) hs rfl rfl (by kernel_rfl) (by kernel_rfl) (by kernel_rfl) (fun u hu=>.inl ⟨rfl,fun d=>⟨by simp[go_sem,execOp,Act.eval,hkt],fun e he=>by have hm:=mem_listed he;simp[go_sem,execOp,Act.eval,hkt]at hm⟩⟩) ?_
 walk_nrm
 refine anyM_take hS hZ (i:=7) (v:=.slice oa ol oc) hs rfl rfl (by kernel_rfl) (by kernel_rfl) (by kernel_rfl) (fun u hu=>.inl ⟨rfl,fun d=>⟨by simp[go_sem,execOp,Act.eval,hu.ct,hu.zt],fun e he=>by have hm:=mem_listed he;simp[go_sem,execOp,Act.eval,hu.ct,hu.zt]at hm;subst hm;exact evT_read _ _⟩⟩) ?_
 walk_nrm
 refine anyM_take hS hZ (i:=8) (v:=.int .i64 ol) hs rfl rfl (by kernel_rfl) (by kernel_rfl) (by kernel_rfl) (fun u hu=>.inl ⟨rfl,fun d=>⟨by simp[go_sem,execOp,Act.eval],fun e he=>by have hm:=mem_listed he;simp[go_sem,execOp,Act.eval]at hm⟩⟩) ?_
 walk_nrm
 refine anyM_take hS hZ (i:=9) (v:=.int .i64 m) hs rfl rfl (by kernel_rfl) (by kernel_rfl) (by kernel_rfl) (fun u hu=>.inl ⟨rfl,fun d=>⟨by simp[go_sem,execOp,Act.eval,hm2],fun e he=>by have hm:=mem_listed he;simp[go_sem,execOp,Act.eval,hm2]at hm⟩⟩) ?_
 walk_nrm
 refine anyM_take hS hZ (i:=10) (v:=.slice oa m oc) hs rfl rfl (by kernel_rfl) (by kernel_rfl) (by kernel_rfl) (fun u hu=>.inl ⟨rfl,fun d=>⟨by simp[go_sem,execOp,Act.eval,slice_h hmc,slice_he hmc],fun e he=>by have hm:=mem_listed he;simp[go_sem,execOp,Act.eval,slice_h hmc,slice_he hmc]at hm⟩⟩) ?_
 walk_nrm
 refine anyM_all (r:=[11]) (by kernel_rfl) (by kernel_rfl) (fun i hi hil=>?_)
 simp only[List.mem_cons,List.not_mem_nil,or_false]at hi
 subst hi
 refine opm_k rfl rfl (fun d K' hK'=>?_)
 go_simp
 refine hK' _ _ ⟨⟨⟨0,grew_alloc hU (show nn≤(w.at d).heap.size from hs.top) _⟩,fun e he=>by(have hm:=mem_listed he;simp[go_sem]at hm)⟩,(hs.at d).alloc _,?_⟩
 clear hK' K'
 rw[alloc_at']
 refine anyM_at hS hZ _ _ _ _ ?_ d
 refine anyM_end (by kernel_rfl) ?_ _
 have hn:=hs.top
 (refine oW fun dd K hK=>?_;go_simp;refine qS hK hU ?_;clear hK K)
 rw[set_new32]
 refine ogE ?_
 refine h _ ?_
 exact⟨rfl,rfl,rfl,rfl,rfl,rfl,rfl,rfl,rfl,rfl,trivial⟩
end
section
variable{w:World}
theorem mask_F0(w:World):mask F0 w=w:=by
 have e:(mask F0 w).heap=w.heap:=by
  apply Array.ext_getElem?
  intro r
  rw[mask_get]
  cases h:w.heap[r]? with
  | none=>rfl
  | some o=>cases o<;>rfl
 calc mask F0 w={w with heap:=(mask F0 w).heap}:=rfl
  _=w:=by rw[e]
theorem under_F0:Under F0 0:=fun r z h=>by cases h
theorem wf_F0(w:World):Wf F0 w:=⟨fun r z h=>by cases h⟩
theorem info112:∃i,Try.prog.info? 112=some i∧i.zero=some .nilFunc∧i.size=1∧i.bytes=8:=by
 have h:(Try.prog.info? 112).map (fun i=>(i.size,i.bytes))=some (1,8):=by kernel_rfl
 have h0:(Try.prog.info? 112).bind (·.zero)=some .nilFunc:=by kernel_rfl
 obtain⟨i,hi,h1⟩:=Option.map_eq_some_iff.1 h
 rw[hi]at h0
 simp only[Prod.mk.injEq]at h1
 exact⟨i,hi,h0,h1.1,h1.2⟩
def cl68(ob db ib av:Nat):Value:=.func (.func 99) #[] #[.pointer (some ⟨ob,0,none⟩),.pointer (some ⟨db,0,none⟩),.pointer (some ⟨ib,0,none⟩),.pointer (some ⟨av,0,none⟩)]
theorem di_4{ta:Option Addr}{tl tc n db av ib ob k base:Nat}{l:Value}{xs:List Value}(hk:k<64)(hb:base≤w.heap.size)(hrow:w.ownsRow base 112 1 l k xs){A:Array Value}(hA:Slots 38 A ((9,.pointer (some ⟨ib,0,none⟩))::(10,.pointer (some ⟨ob,0,none⟩))::[(0,.slice ta tl tc),(3,.pointer (some ⟨db,0,none⟩)),(6,.int .i64 n),(7,.pointer (some ⟨av,0,none⟩)),(8,l),(16,.int .i64 n),(17,.int .i64 k)])){cs:List Frame}{main:Bool}{Stop:Goroutine→World→Prop}
 (h:∀(w':World) (l':Value) (A:Array Value),w'.ownsRow base 112 1 l' (k+1) (xs++[cl68 ob db ib av])→w.heap.size≤w'.heap.size→(∀r,r<w.heap.size→some r≠Value.ownBlock l→w'.heap[r]? =w.heap[r]?)→Slots 38 A [(0,.slice ta tl tc),(3,.pointer (some ⟨db,0,none⟩)),(6,.int .i64 n),(7,.pointer (some ⟨av,0,none⟩)),(8,l'),(16,.int .i64 n),(17,.int .i64 (k+1:Nat))]→Own Try.prog main F0 Stop (G ((Go.Conc.base 81).at ⟨A,[]⟩ [.code dis7,.inLoop dis7,.inBlock 0,.code dis12]) cs) w'):
 Own Try.prog main F0 Stop (G ((Go.Conc.base 81).at ⟨A,[]⟩ [.code dir8,.inBlock 1,.code dir9,.inLoop dis7,.inBlock 0,.code dis12]) cs) w:=by
 have hU:=under_F0
 have hn:0≤w.heap.size:=Nat.zero_le _
 have hk64:IntKind.i64.wrap ((k:Int)+1)=(k:Int)+1:=IntWalk.i64_in _ (by omega)
 obtain⟨hsz,h9,h10,h0,h3,h6,h7,h8,h16,h17,_⟩:=hA
 obtain⟨s,rfl⟩:=diT_of hsz
 change s 9=_ at h9
 change s 10=_ at h10
 change s 0=_ at h0
 change s 3=_ at h3
 change s 6=_ at h6
 change s 7=_ at h7
 change s 8=_ at h8
 change s 16=_ at h16
 change s 17=_ at h17
 clear hsz
 simp only[diT,h9,h10,h0,h3,h6,h7,h8,h16,h17]
 clear h9 h10 h0 h3 h6 h7 h8 h16 h17
 rw[dir8']
 refine ogR ?_
 simp only[dir8,diBody,Try.f81,zz,Nat.reduceAdd]
 iterate 2 (refine oW fun dd K hK=>?_;go_simp;refine qT hK ?_;clear hK K)
 (refine oW fun dd K hK=>?_;go_simp;refine qA hK hU ?_;clear hK K)
 have hrow2:=hrow.alloc (.cells #[cl68 ob db ib av] 112)
 have hcell:=cell_one_new w (cl68 ob db ib av) 112
 have hsz:(w.alloc (.cells #[cl68 ob db ib av] 112)).heap.size=w.heap.size+1:=by simp
 have hold:∀r,r<w.heap.size→(w.alloc (.cells #[cl68 ob db ib av] 112)).heap[r]? =w.heap[r]?:=fun r hr=>heap_alloc_lt _ _ hr
 change Own _ _ _ _ _ (w.alloc (.cells #[cl68 ob db ib av] 112))
 generalize w.alloc (.cells #[cl68 ob db ib av] 112)=W at hrow2 hcell hsz hold ⊢
 obtain⟨i0,hi0,hz0,hz1,hz2⟩:=info112
 refine own_opm (by decide) ?_
 refine opm_lift (S':=fun _=>false) (px:=false) (ready0.shut false) (by simp) rfl rfl rfl (wf_F0 _) (fun d=>?_)
 rw[mask_F0]
 obtain⟨l',u,hr,hown,hgrow,_⟩:=run_append_own (P:=Try.prog) (W.at d) base 139 139 112 i0 _ 1 8 Try.underlying139 hi0 hz0 hz1 hz2 rfl (by decide) l k xs hrow2 ⟨w.heap.size,0,none⟩ 1 1 [cl68 ob db ib av] rfl
  hcell (fun q hq=>by simp at hq;subst hq;rfl) (by unfold maxLen;omega) (by omega) (by show base≤W.heap.size;omega)
 refine⟨l',u,run_append_op (.tmp 31) (.tmp 33) 139 rfl rfl rfl hr,fun w' hu hg hwf'=>?_⟩
 rw[mask_F0]at hu
 subst hu
 have hsz2:W.heap.size≤u.heap.size:=hgrow.size
 have hold2:∀r,r<w.heap.size→some r≠Value.ownBlock l→u.heap[r]? =w.heap[r]?:=fun r h1 h2=>(hgrow.block r (by show r<W.heap.size;omega) h2).trans (hold r h1)
 have hsz3:w.heap.size≤u.heap.size:=by omega
 clear hrow2 hcell hsz hold hr hgrow hsz2 hg hwf' hz0 hz1 hz2 hi0
 walk_nrm
 (refine oW fun dd K hK=>?_;go_simp;refine qT hK ?_;clear hK K)
 refine ogE ?_
 refine ogI ?_
 rw[dir9']
 refine ogR ?_
 simp only[dir9,diBody,Try.f81,zz,Nat.reduceAdd]
 iterate 2 (refine oW fun dd K hK=>?_;go_simp;refine qT hK ?_;clear hK K)
 refine ogE ?_
 refine ogL ?_
 refine h _ l' _ hown hsz3 hold2 ?_
 exact⟨rfl,rfl,rfl,rfl,rfl,rfl,rfl,rfl,trivial⟩
end
section
variable{w w' w0:World}{lb:Nat}
theorem noF0(a:Addr):¬held F0 a:=fun h=>by obtain⟨z,hz,_⟩:=h;cases hz
def part(kd:Nat)(vs ws:List Int)(i:Nat):List Int:=(List.range ws.length).map fun j=>if j<i then oneW kd (ws.getD j 0) (vs.getD j 0)else ws.getD j 0
theorem part_len(kd:Nat)(vs ws:List Int)(i:Nat):(part kd vs ws i).length=ws.length:=by simp[part]
theorem part_zero(kd:Nat)(vs ws:List Int):part kd vs ws 0=ws:=by
 apply List.ext_getElem (by simp[part])
 intro j h1 h2
 simp[part,List.getD_eq_getElem?_getD,h2]
theorem part_get(kd:Nat)(vs ws:List Int){i:Nat}(hi:i<ws.length):(part kd vs ws i).getD i 0=ws.getD i 0:=by
 simp[part,List.getD_eq_getElem?_getD,hi]
theorem part_set(kd:Nat)(vs ws:List Int){i:Nat}(hi:i<ws.length):(part kd vs ws i).set i (oneW kd (ws.getD i 0) (vs.getD i 0))=part kd vs ws (i+1):=by
 apply List.ext_getElem (by simp[part])
 intro j h1 h2
 have hj:j<ws.length:=by simpa [part]using h2
 rw[List.getElem_set]
 split
 ·subst_vars
  simp[part]
 ·rename_i hne
  simp only[part,List.getElem_map,List.getElem_range]
  by_cases h:j<i
  ·rw[if_pos h,if_pos (by omega)]
  ·rw[if_neg h,if_neg (by omega)]
def SSt.wrote(kd:Nat)(vs:List Int)(s:SSt):SSt:=⟨w64 (s.ver+2),part kd vs s.ws s.ws.length⟩
structure StepS(sv:Value)(main:Bool)(sb:Option Nat)(X:Nat→World→Prop):Prop where
 tick:∀(m:Nat) (w:World) (c:Frame) (cs:List Frame) (Stop:Goroutine→World→Prop),X m w→m<4611686018427387904→(∀w',X (m+1) w'→w'.heap.size=w.heap.size→(∀r,some r≠sb→w'.heap[r]? =w.heap[r]?)→Own Try.prog main F0 Stop (G (c.finish (.tuple #[])) cs) w')→
  Own Try.prog main F0 Stop (G (Frame.enter Try.prog 61 #[sv] .normal) (c::cs)) w
 keep:∀(m:Nat) (w w':World),X m w→(∀b,sb=some b→b<w.heap.size→w'.heap[b]? =w.heap[b]?)→X m w'
structure AlS(lb:Nat)(sb:Option Nat)(X:Nat→World→Prop)(w0:World)(s:SS)(m:Nat)(w:World):Prop where
 u:SU lb s w
 x:X m w
 sz:w0.heap.size≤w.heap.size
 o:∀r,r<w0.heap.size→some r≠sb→r≠lb→r≠s.wb→w.heap[r]? =w0.heap[r]?
section
variable{sv:Value}{main:Bool}{sb:Option Nat}{m:Nat}{X:Nat→World→Prop}{s s':SS}
theorem AlS.tick(h:AlS lb sb X w0 s m w)(hsb:∀b,sb=some b→¬SR lb s b)(hx:X (m+1) w')(hs:w'.heap.size=w.heap.size)(ho:∀r,some r≠sb→w'.heap[r]? =w.heap[r]?):AlS lb sb X w0 s (m+1) w':=
 ⟨h.u.same fun r hr=>ho r fun e=>hsb r e.symm hr,hx,by rw[hs];exact h.sz,fun r hr h1 h2 h3=>(ho r h1).trans (h.o r hr h1 h2 h3)⟩
theorem AlS.setV(S:StepS sv main sb X)(h:AlS lb sb X w0 s m w)(hsb:∀b,sb=some b→¬SR lb s b)(v:Int):AlS lb sb X w0 ⟨{s.k with ver:=v},s.wb,s.wo⟩ m (w.setCell ⟨lb,0,none⟩ (.int .i64 v)):=
 ⟨h.u.setV v,S.keep m _ _ h.x fun b hb _=>heap_setCell_ne _ _ _ fun e=>hsb b hb (.inl e),by rw[World.size_setCell];exact h.sz,fun r hr h1 h2 h3=>(heap_setCell_ne _ _ _ h2).trans (h.o r hr h1 h2 h3)⟩
theorem AlS.setW(S:StepS sv main sb X)(h:AlS lb sb X w0 s m w)(hsb:∀b,sb=some b→¬SR lb s b){i:Nat}(hi:i<s.n)(v:Int):AlS lb sb X w0 ⟨{s.k with ws:=s.k.ws.set i v},s.wb,s.wo⟩ m (w.setCell ⟨s.wb,s.wo+i,none⟩ (.int .i64 v)):=
 ⟨h.u.setW hi v,S.keep m _ _ h.x fun b hb _=>heap_setCell_ne _ _ _ fun e=>hsb b hb (.inr e),by rw[World.size_setCell];exact h.sz,fun r hr h1 h2 h3=>(heap_setCell_ne _ _ _ h3).trans (h.o r hr h1 h2 h3)⟩
theorem AlS.grow(S:StepS sv main sb X)(h:AlS lb sb X w0 s m w)(hsz:w.heap.size≤w'.heap.size)(ho:∀r,r<w0.heap.size→w'.heap[r]? =w.heap[r]?)(hl:∀r,SR lb s r→w'.heap[r]? =w.heap[r]?)(hb:∀b,sb=some b→b<w.heap.size→w'.heap[b]? =w.heap[b]?):AlS lb sb X w0 s m w':=
 ⟨h.u.same hl,S.keep m _ _ h.x hb,Nat.le_trans h.sz hsz,fun r hr h1 h2 h3=>(ho r hr).trans (h.o r hr h1 h2 h3)⟩
def VS(w:World)(va:Option Addr)(vs:List Int):Prop:=0<vs.length→∃vb,va=some ⟨vb,0,none⟩∧∀i,i<vs.length→w.cell? ⟨vb,i,none⟩=some (.int .i64 (vs.getD i 0))
theorem VS.same{va:Option Addr}{vs:List Int}(h:VS w va vs)(hs:∀y,va=some y→w'.heap[y.block]? =w.heap[y.block]?):VS w' va vs:=fun hp=>by
 obtain⟨vb,rfl,h1⟩:=h hp
 exact⟨vb,rfl,fun i hi=>(cell_heap (j:=i) (hs _ rfl)).1.trans (h1 i hi)⟩
def VApart(lb:Nat)(sb:Option Nat)(s:SS)(va:Option Addr):Prop:=∀y,va=some y→y.block≠lb∧y.block≠s.wb∧some y.block≠sb
theorem own_words_al1(S:StepS sv main sb X){va:Option Addr}{vc:Nat}{vs:List Int}{v:Int}(hsb:∀b,sb=some b→¬SR lb s b)(hap:VApart lb sb s va){cs:List Frame}{Stop:Goroutine→World→Prop}{v0:Int}
 (K:∀w' A,AlS lb sb X w0 ⟨⟨v0,part 1 vs s.k.ws s.n⟩,s.wb,s.wo⟩ (m+s.n) w'→Slots 63 A [(0,sptr lb),(1,sv),(11,.int .i64 v)]→Own Try.prog main F0 Stop (G ((fWr3 A).finish (.tuple #[])) cs) w'):
 ∀k i w A,i+k+1=s.n→m+s.n<4611686018427387904→AlS lb sb X w0 ⟨⟨v0,part 1 vs s.k.ws i⟩,s.wb,s.wo⟩ (m+i) w→VS w va vs→Slots 63 A [(0,sptr lb),(1,sv),(3,.slice va vs.length vc),(4,.func (.func 57) #[] #[]),(11,.int .i64 v),(13,.slice (some ⟨s.wb,s.wo,none⟩) s.n s.n),(14,.int .i64 (i:Nat)),(15,.int .i64 (vs.getD i 0)),(33,.int .i64 (s.n:Nat)),(34,.int .i64 (i:Nat))]→Own Try.prog main F0 Stop (G ((fWr2 A).finish (.tuple #[])) cs) w:=by
 intro k
 induction k with
 | zero=>
   intro i w A hk hm h hv hA
   have hi:i<s.n:=by omega
   have hl:=part_len 1 vs s.k.ws i
   have hc:=h.u.ws i (by simp only[SS.n];rw[hl];exact hi)
   simp only[part_get 1 vs s.k.ws hi]at hc
   have hn16:s.n≤16:=by have:=h.u.wf.n2;simp only at this;rw[hl]at this;exact this
   refine wr_2b1 (sv:=sv) hn16 (by omega) hc.c hc.z (noF0 _) hA fun A hA=>?_
   have h2:=h.setW S hsb (i:=i) (by simp only[SS.n];rw[hl];exact hi) (oneW 1 (s.k.ws.getD i 0) (vs.getD i 0))
   simp only[part_set 1 vs s.k.ws hi]at h2
   refine S.tick _ _ _ _ _ h2.x (by omega) fun w1 hx hz ho=>?_
   have h3:=h2.tick hsb hx hz ho
   have e:i+1=s.n:=by omega
   rw[Nat.add_assoc,e]at h3
   exact K w1 A h3 hA
 | succ k ih=>
   intro i w A hk hm h hv hA
   have hi:i<s.n:=by omega
   have hl:=part_len 1 vs s.k.ws i
   have hc:=h.u.ws i (by simp only[SS.n];rw[hl];exact hi)
   simp only[part_get 1 vs s.k.ws hi]at hc
   have hn16:s.n≤16:=by have:=h.u.wf.n2;simp only at this;rw[hl]at this;exact this
   have h2:=h.setW S hsb (i:=i) (by simp only[SS.n];rw[hl];exact hi) (oneW 1 (s.k.ws.getD i 0) (vs.getD i 0))
   simp only[part_set 1 vs s.k.ws hi]at h2
   have hv2:VS (w.setCell ⟨s.wb,s.wo+i,none⟩ (.int .i64 (oneW 1 (s.k.ws.getD i 0) (vs.getD i 0)))) va vs:=hv.same fun y hy=>heap_setCell_ne _ _ _ (hap y hy).2.1
   by_cases hlt:i+1<vs.length
   ·obtain⟨vb,rfl,hcell⟩:=hv2 (by omega)
    refine wr_2a1 (sv:=sv) (y:=vs.getD (i+1) 0) hn16 (by omega) hc.c hc.z (noF0 _) hlt (hcell (i+1) hlt) hA fun A hA=>?_
    refine S.tick _ _ _ _ _ h2.x (by omega) fun w1 hx hz ho=>?_
    exact ih (i+1) w1 A (by omega) hm (h2.tick hsb hx hz ho) (hv2.same fun y hy=>ho _ (hap y hy).2.2) hA
   ·refine wr_2c1 (sv:=sv) hn16 (by omega) hc.c hc.z (noF0 _) (by omega) hA fun A hA=>?_
    refine S.tick _ _ _ _ _ h2.x (by omega) fun w1 hx hz ho=>?_
    have e0:vs.getD (i+1) 0=0:=by simp[List.getD_eq_getElem?_getD,List.getElem?_eq_none (show vs.length≤i+1 by omega)]
    exact ih (i+1) w1 A (by omega) hm (h2.tick hsb hx hz ho) (hv2.same fun y hy=>ho _ (hap y hy).2.2) (by rw[e0];exact hA)
theorem own_write_al1(S:StepS sv main sb X)(h:AlS lb sb X w0 s m w)(hsb:∀b,sb=some b→¬SR lb s b)(hev:s.k.ver.tmod 2=0)(hm:m+32<4611686018427387904){va:Option Addr}{vc:Nat}{vs:List Int}(hv:VS w va vs)(hap:VApart lb sb s va){a:Int}{c:Frame}{cs:List Frame}{Stop:Goroutine→World→Prop}
 (K:∀w',AlS lb sb X w0 ⟨s.k.wrote 1 vs,s.wb,s.wo⟩ (m+s.n+3) w'→Own Try.prog main F0 Stop (G (c.finish (.bool true)) cs) w'):
 Own Try.prog main F0 Stop (G (Frame.enter Try.prog 24 #[.pointer (some ⟨lb,0,none⟩),sv,.int .i64 a,.slice va vs.length vc] .normal) (c::cs)) w:=by
 have hn1:0<s.n:=h.u.wf.n1
 have hn16:s.n≤16:=h.u.wf.n2
 have hv2:∀{w1:World},(∀r,some r≠sb→w1.heap[r]? =w.heap[r]?)→VS w1 va vs:=fun ho=>hv.same fun y hy=>ho _ (hap y hy).2.2
 refine ww_01 fun A2 hA2=>wr_0 fun A1 hA1=>bg_0 fun A hA=>S.tick _ _ _ _ _ h.x (by omega) fun w1 hx hz ho=>?_
 have h1:=h.tick hsb hx hz ho
 have v1:=hv2 ho
 clear hx hz ho
 refine bg_1b (sv:=sv) (v:=s.k.ver) (by simp[hev]) h1.u.v.c hA fun A hA=>S.tick _ _ _ _ _ h1.x (by omega) fun w2 hx hz ho=>?_
 have h2:=h1.tick hsb hx hz ho
 have v2:=v1.same fun y hy=>ho _ (hap y hy).2.2
 clear hx hz ho
 refine bg_2a (sv:=sv) (u:=s.k.ver) (by simp) h2.u.v.c h2.u.v.z (noF0 _) hA ?_
 have h3:=h2.setV S hsb (w64 (s.k.ver+1))
 have v3:VS (w2.setCell ⟨lb,0,none⟩ (.int .i64 (w64 (s.k.ver+1)))) va vs:=v2.same fun y hy=>heap_setCell_ne _ _ _ (hap y hy).1
 have K2:∀A,Slots 63 A [(0,sptr lb),(1,sv),(3,.slice va vs.length vc),(4,.func (.func 57) #[] #[]),(11,.int .i64 s.k.ver),(13,.slice (some ⟨s.wb,s.wo,none⟩) s.n s.n),(14,.int .i64 (0:Nat)),(15,.int .i64 (vs.getD 0 0)),(33,.int .i64 (s.n:Nat)),(34,.int .i64 (0:Nat))]→Own Try.prog main F0 Stop (G (Frame.enter Try.prog 61 #[sv] .normal) (fWr2 A::fWW A2::c::cs)) (w2.setCell ⟨lb,0,none⟩ (.int .i64 (w64 (s.k.ver+1)))):=fun A hA=>by
  refine S.tick _ _ _ _ _ h3.x (by omega) fun w3 hx hz ho=>?_
  have h4:=h3.tick hsb hx hz ho
  have v4:=v3.same fun y hy=>ho _ (hap y hy).2.2
  clear hx hz ho
  refine own_words_al1 (m:=m+1+1+1) (w0:=w0) (v0:=w64 (s.k.ver+1)) (s:=s) S hsb hap (fun w' A h5 hA=>?_) (s.n - 1) 0 w3 A (by omega) (by omega) (by rw[part_zero];exact h4) v4 hA
  have h6:=h5.setV S hsb (w64 (s.k.ver+2))
  refine wr_3 (sv:=sv) (v:=s.k.ver) h5.u.v.c h5.u.v.z (noF0 _) hA ?_
  refine ww_11 hA2 ?_
  exact K _ (by
   have e:m+1+1+1+s.n=m+s.n+3:=by omega
   rw[e]at h6
   exact h6)
 by_cases hp:0<vs.length
 ·obtain⟨vb,rfl,hcell⟩:=v3 hp
  exact wr_1c (sv:=sv) (v:=s.k.ver) (x:=vs.getD 0 0) h3.u.h hp (hcell 0 hp) hA1 fun A hA=>K2 A hA
 ·have e0:vs.getD 0 0=0:=by simp[List.getD_eq_getElem?_getD,List.getElem?_eq_none (show vs.length≤0 by omega)]
  exact wr_1d (sv:=sv) (v:=s.k.ver) h3.u.h (by omega) hA1 fun A hA=>K2 A (by rw[e0];exact hA)
theorem own_words_al2(S:StepS sv main sb X){va:Option Addr}{vc:Nat}{vs:List Int}{v:Int}(hsb:∀b,sb=some b→¬SR lb s b)(hap:VApart lb sb s va){cs:List Frame}{Stop:Goroutine→World→Prop}{v0:Int}
 (K:∀w' A,AlS lb sb X w0 ⟨⟨v0,part 2 vs s.k.ws s.n⟩,s.wb,s.wo⟩ (m+s.n) w'→Slots 63 A [(0,sptr lb),(1,sv),(11,.int .i64 v)]→Own Try.prog main F0 Stop (G ((fWr3 A).finish (.tuple #[])) cs) w'):
 ∀k i w A,i+k+1=s.n→m+s.n<4611686018427387904→AlS lb sb X w0 ⟨⟨v0,part 2 vs s.k.ws i⟩,s.wb,s.wo⟩ (m+i) w→VS w va vs→Slots 63 A [(0,sptr lb),(1,sv),(3,.slice va vs.length vc),(4,.func (.func 58) #[] #[]),(11,.int .i64 v),(13,.slice (some ⟨s.wb,s.wo,none⟩) s.n s.n),(14,.int .i64 (i:Nat)),(15,.int .i64 (vs.getD i 0)),(33,.int .i64 (s.n:Nat)),(34,.int .i64 (i:Nat))]→Own Try.prog main F0 Stop (G ((fWr2 A).finish (.tuple #[])) cs) w:=by
 intro k
 induction k with
 | zero=>
   intro i w A hk hm h hv hA
   have hi:i<s.n:=by omega
   have hl:=part_len 2 vs s.k.ws i
   have hc:=h.u.ws i (by simp only[SS.n];rw[hl];exact hi)
   simp only[part_get 2 vs s.k.ws hi]at hc
   have hn16:s.n≤16:=by have:=h.u.wf.n2;simp only at this;rw[hl]at this;exact this
   refine wr_2b2 (sv:=sv) hn16 (by omega) hc.c hc.z (noF0 _) hA fun A hA=>?_
   have h2:=h.setW S hsb (i:=i) (by simp only[SS.n];rw[hl];exact hi) (oneW 2 (s.k.ws.getD i 0) (vs.getD i 0))
   simp only[part_set 2 vs s.k.ws hi]at h2
   refine S.tick _ _ _ _ _ h2.x (by omega) fun w1 hx hz ho=>?_
   have h3:=h2.tick hsb hx hz ho
   have e:i+1=s.n:=by omega
   rw[Nat.add_assoc,e]at h3
   exact K w1 A h3 hA
 | succ k ih=>
   intro i w A hk hm h hv hA
   have hi:i<s.n:=by omega
   have hl:=part_len 2 vs s.k.ws i
   have hc:=h.u.ws i (by simp only[SS.n];rw[hl];exact hi)
   simp only[part_get 2 vs s.k.ws hi]at hc
   have hn16:s.n≤16:=by have:=h.u.wf.n2;simp only at this;rw[hl]at this;exact this
   have h2:=h.setW S hsb (i:=i) (by simp only[SS.n];rw[hl];exact hi) (oneW 2 (s.k.ws.getD i 0) (vs.getD i 0))
   simp only[part_set 2 vs s.k.ws hi]at h2
   have hv2:VS (w.setCell ⟨s.wb,s.wo+i,none⟩ (.int .i64 (oneW 2 (s.k.ws.getD i 0) (vs.getD i 0)))) va vs:=hv.same fun y hy=>heap_setCell_ne _ _ _ (hap y hy).2.1
   by_cases hlt:i+1<vs.length
   ·obtain⟨vb,rfl,hcell⟩:=hv2 (by omega)
    refine wr_2a2 (sv:=sv) (y:=vs.getD (i+1) 0) hn16 (by omega) hc.c hc.z (noF0 _) hlt (hcell (i+1) hlt) hA fun A hA=>?_
    refine S.tick _ _ _ _ _ h2.x (by omega) fun w1 hx hz ho=>?_
    exact ih (i+1) w1 A (by omega) hm (h2.tick hsb hx hz ho) (hv2.same fun y hy=>ho _ (hap y hy).2.2) hA
   ·refine wr_2c2 (sv:=sv) hn16 (by omega) hc.c hc.z (noF0 _) (by omega) hA fun A hA=>?_
    refine S.tick _ _ _ _ _ h2.x (by omega) fun w1 hx hz ho=>?_
    have e0:vs.getD (i+1) 0=0:=by simp[List.getD_eq_getElem?_getD,List.getElem?_eq_none (show vs.length≤i+1 by omega)]
    exact ih (i+1) w1 A (by omega) hm (h2.tick hsb hx hz ho) (hv2.same fun y hy=>ho _ (hap y hy).2.2) (by rw[e0];exact hA)
theorem own_write_al2(S:StepS sv main sb X)(h:AlS lb sb X w0 s m w)(hsb:∀b,sb=some b→¬SR lb s b)(hev:s.k.ver.tmod 2=0)(hm:m+32<4611686018427387904){va:Option Addr}{vc:Nat}{vs:List Int}(hv:VS w va vs)(hap:VApart lb sb s va){a:Int}{c:Frame}{cs:List Frame}{Stop:Goroutine→World→Prop}
 (K:∀w',AlS lb sb X w0 ⟨s.k.wrote 2 vs,s.wb,s.wo⟩ (m+s.n+3) w'→Own Try.prog main F0 Stop (G (c.finish (.bool true)) cs) w'):
 Own Try.prog main F0 Stop (G (Frame.enter Try.prog 25 #[.pointer (some ⟨lb,0,none⟩),sv,.int .i64 a,.slice va vs.length vc] .normal) (c::cs)) w:=by
 have hn1:0<s.n:=h.u.wf.n1
 have hn16:s.n≤16:=h.u.wf.n2
 have hv2:∀{w1:World},(∀r,some r≠sb→w1.heap[r]? =w.heap[r]?)→VS w1 va vs:=fun ho=>hv.same fun y hy=>ho _ (hap y hy).2.2
 refine ww_02 fun A2 hA2=>wr_0 fun A1 hA1=>bg_0 fun A hA=>S.tick _ _ _ _ _ h.x (by omega) fun w1 hx hz ho=>?_
 have h1:=h.tick hsb hx hz ho
 have v1:=hv2 ho
 clear hx hz ho
 refine bg_1b (sv:=sv) (v:=s.k.ver) (by simp[hev]) h1.u.v.c hA fun A hA=>S.tick _ _ _ _ _ h1.x (by omega) fun w2 hx hz ho=>?_
 have h2:=h1.tick hsb hx hz ho
 have v2:=v1.same fun y hy=>ho _ (hap y hy).2.2
 clear hx hz ho
 refine bg_2a (sv:=sv) (u:=s.k.ver) (by simp) h2.u.v.c h2.u.v.z (noF0 _) hA ?_
 have h3:=h2.setV S hsb (w64 (s.k.ver+1))
 have v3:VS (w2.setCell ⟨lb,0,none⟩ (.int .i64 (w64 (s.k.ver+1)))) va vs:=v2.same fun y hy=>heap_setCell_ne _ _ _ (hap y hy).1
 have K2:∀A,Slots 63 A [(0,sptr lb),(1,sv),(3,.slice va vs.length vc),(4,.func (.func 58) #[] #[]),(11,.int .i64 s.k.ver),(13,.slice (some ⟨s.wb,s.wo,none⟩) s.n s.n),(14,.int .i64 (0:Nat)),(15,.int .i64 (vs.getD 0 0)),(33,.int .i64 (s.n:Nat)),(34,.int .i64 (0:Nat))]→Own Try.prog main F0 Stop (G (Frame.enter Try.prog 61 #[sv] .normal) (fWr2 A::fAA A2::c::cs)) (w2.setCell ⟨lb,0,none⟩ (.int .i64 (w64 (s.k.ver+1)))):=fun A hA=>by
  refine S.tick _ _ _ _ _ h3.x (by omega) fun w3 hx hz ho=>?_
  have h4:=h3.tick hsb hx hz ho
  have v4:=v3.same fun y hy=>ho _ (hap y hy).2.2
  clear hx hz ho
  refine own_words_al2 (m:=m+1+1+1) (w0:=w0) (v0:=w64 (s.k.ver+1)) (s:=s) S hsb hap (fun w' A h5 hA=>?_) (s.n - 1) 0 w3 A (by omega) (by omega) (by rw[part_zero];exact h4) v4 hA
  have h6:=h5.setV S hsb (w64 (s.k.ver+2))
  refine wr_3 (sv:=sv) (v:=s.k.ver) h5.u.v.c h5.u.v.z (noF0 _) hA ?_
  refine ww_12 hA2 ?_
  exact K _ (by
   have e:m+1+1+1+s.n=m+s.n+3:=by omega
   rw[e]at h6
   exact h6)
 by_cases hp:0<vs.length
 ·obtain⟨vb,rfl,hcell⟩:=v3 hp
  exact wr_1c (sv:=sv) (v:=s.k.ver) (x:=vs.getD 0 0) h3.u.h hp (hcell 0 hp) hA1 fun A hA=>K2 A hA
 ·have e0:vs.getD 0 0=0:=by simp[List.getD_eq_getElem?_getD,List.getElem?_eq_none (show vs.length≤0 by omega)]
  exact wr_1d (sv:=sv) (v:=s.k.ver) h3.u.h (by omega) hA1 fun A hA=>K2 A (by rw[e0];exact hA)
structure RawA(w1 w:World)(ov:Value)(xs:List Int):Prop where
 row:w.ownsRow 0 2 1 ov xs.length (xs.map fun v=>.int .i64 v)
 blk:∀g,ov.ownBlock=some g→w1.heap.size≤g
theorem own_raw_loop(S:StepS sv main sb X)(hsb:∀b,sb=some b→¬SR lb s b){w1:World}(hlow:∀r,SR lb s r→r<w1.heap.size)(hsl:w0.heap.size≤w1.heap.size)(hsbl:∀b,sb=some b→b<w1.heap.size){c:Frame}{cs:List Frame}{Stop:Goroutine→World→Prop}
 (K:∀w' ov,AlS lb sb X w0 s (m+s.n) w'→RawA w1 w' ov s.k.ws→w1.heap.size≤w'.heap.size→(∀r,r<w1.heap.size→some r≠sb→w'.heap[r]? =w1.heap[r]?)→Own Try.prog main F0 Stop (G (c.finish ov) cs) w'):
 ∀k i w A ov,i+k+1=s.n→m+1+s.n<4611686018427387904→AlS lb sb X w0 s (m+i+1) w→RawA w1 w ov (s.k.ws.take i)→w1.heap.size≤w.heap.size→(∀r,r<w1.heap.size→some r≠sb→w.heap[r]? =w1.heap[r]?)→Slots 26 A [(0,sptr lb),(1,sv),(5,ov),(6,.slice (some ⟨s.wb,s.wo,none⟩) s.n s.n),(7,.int .i64 (i:Nat)),(11,.int .i64 (s.n:Nat)),(12,.int .i64 (i:Nat))]→Own Try.prog main F0 Stop (G ((fRw A).finish (.tuple #[])) (c::cs)) w:=by
 intro k
 have grow:∀{w w':World} {ov ov':Value} {i:Nat} {u:Int} {q:Nat},AlS lb sb X w0 s q w→RawA w1 w ov (s.k.ws.take i)→w1.heap.size≤w.heap.size→Grown1 F0 w w' ov ov' (s.k.ws.take i) u→i<s.n→u=s.k.ws.getD i 0→(∀r,r<w1.heap.size→some r≠sb→w.heap[r]? =w1.heap[r]?)→AlS lb sb X w0 s q w'∧RawA w1 w' ov' (s.k.ws.take (i+1))∧w1.heap.size≤w'.heap.size∧(∀r,r<w1.heap.size→some r≠sb→w'.heap[r]? =w1.heap[r]?):=by
  intro w w' ov ov' i u q h hr hsz hg hi hu ho
  have hkeep:∀r,r<w1.heap.size→w'.heap[r]? =w.heap[r]?:=fun r hr1=>hg.old r (by omega) fun e=>absurd (hr.blk r e.symm) (by omega)
  refine⟨h.grow S hg.size (fun r hr1=>hkeep r (by omega)) (fun r hr1=>hkeep r (hlow r hr1)) fun b hb _=>hkeep b (hsbl b hb),⟨?_,fun g hgb=>?_⟩,by have:=hg.size;omega,fun r hr1 h2=>(hkeep r hr1).trans (ho r hr1 h2)⟩
  ·have e:s.k.ws.take (i+1)=s.k.ws.take i++[u]:=by
    rw[List.take_add_one,hu]
    have hi':i<s.k.ws.length:=hi
    simp[List.getD_eq_getElem?_getD,hi']
   rw[e]
   simpa using hg.row
  ·rcases hg.blk with e|⟨g2,e,hge⟩
   ·exact hr.blk g (e ▸ hgb)
   ·rw[hgb]at e
    cases e
    omega
 induction k with
 | zero=>
   intro i w A ov hk hm h hr hsz ho hA
   have hi:i<s.n:=by omega
   have hc:=h.u.ws i hi
   have hl:(s.k.ws.take i).length≤16:=by have:=h.u.wf.n2;simp;omega
   have hnn:s.n=s.k.ws.length:=rfl
   refine rw_2 (sv:=sv) (xs:=s.k.ws.take i) h.u.wf.n2 hl under_F0 (Nat.zero_le _) (wf_F0 _) hc.c hr.row (fun _ _=>rfl) (by omega) hA fun ov' w' hg=>?_
   obtain⟨g1,g2,g3,g4⟩:=grow h hr hsz hg hi rfl ho
   have e:i+1=s.n:=by omega
   rw[e,List.take_of_length_le (Nat.le_refl _)]at g2
   rw[Nat.add_assoc,e]at g1
   exact K w' ov' g1 g2 g3 g4
 | succ k ih=>
   intro i w A ov hk hm h hr hsz ho hA
   have hi:i<s.n:=by omega
   have hc:=h.u.ws i hi
   have hl:(s.k.ws.take i).length≤16:=by have:=h.u.wf.n2;simp;omega
   have hnn:s.n=s.k.ws.length:=rfl
   refine rw_1 (sv:=sv) (xs:=s.k.ws.take i) h.u.wf.n2 hl under_F0 (Nat.zero_le _) (wf_F0 _) hc.c hr.row (fun _ _=>rfl) (by omega) hA fun ov' w' A hg hA=>?_
   obtain⟨g1,g2,g3,g4⟩:=grow h hr hsz hg hi rfl ho
   refine S.tick _ _ _ _ _ g1.x (by omega) fun w2 hx hz ho2=>?_
   refine ih (i+1) w2 A ov' (by omega) hm (g1.tick hsb hx hz ho2) ⟨ownsRow_same2 g2.row fun b hb _=>ho2 b ?_,g2.blk⟩ (by rw[hz];exact g3) (fun r hr1 h2=>(ho2 r h2).trans (g4 r hr1 h2)) hA
   intro e
   have:=g2.blk b hb
   have:=hsbl b e.symm
   omega
theorem own_raw_al(S:StepS sv main sb X)(h:AlS lb sb X w0 s m w)(hsb:∀b,sb=some b→¬SR lb s b)(hsbl:∀b,sb=some b→b<w.heap.size)(hm:m+32<4611686018427387904){c:Frame}{cs:List Frame}{Stop:Goroutine→World→Prop}
 (K:∀w' ov,AlS lb sb X w0 s (m+s.n) w'→RawA w w' ov s.k.ws→w.heap.size≤w'.heap.size→(∀r,r<w.heap.size→some r≠sb→w'.heap[r]? =w.heap[r]?)→Own Try.prog main F0 Stop (G (c.finish ov) cs) w'):
 Own Try.prog main F0 Stop (G (Frame.enter Try.prog 28 #[.pointer (some ⟨lb,0,none⟩),sv] .normal) (c::cs)) w:=by
 have hn1:0<s.n:=h.u.wf.n1
 have hn16:s.n≤16:=h.u.wf.n2
 refine rw_0 h.u.h fun A hA=>S.tick _ _ _ _ _ h.x (by omega) fun w1 hx hz ho=>?_
 have h1:=h.tick hsb hx hz ho
 refine own_raw_loop (m:=m) (w1:=w) S hsb (fun r hr=>h.u.low hr) h.sz hsbl (fun w' ov g1 g2 g3 g4=>K w' ov g1 g2 g3 g4) (s.n - 1) 0 w1 A (.slice none 0 0) (by omega) (by omega) h1 ⟨World.ownsRow_nil _ _ _ _,fun g hg=>by simp[Value.ownBlock]at hg⟩ (by rw[hz];exact Nat.le_refl _) (fun r _ h2=>ho r h2) hA
theorem own_read_al(S:StepS sv main sb X)(h:AlS lb sb X w0 s m w)(hsb:∀b,sb=some b→¬SR lb s b)(hsbl:∀b,sb=some b→b<w.heap.size)(hev:s.k.ver.tmod 2=0)(hm:m+64<4611686018427387904){a:Int}{c:Frame}{cs:List Frame}{Stop:Goroutine→World→Prop}
 (K:∀w' ov,AlS lb sb X w0 s (m+s.n+2) w'→RawA w w' ov s.k.ws→w.heap.size≤w'.heap.size→(∀r,r<w.heap.size→some r≠sb→w'.heap[r]? =w.heap[r]?)→Own Try.prog main F0 Stop (G (c.finish (.tuple #[ov,.bool true])) cs) w'):
 Own Try.prog main F0 Stop (G (Frame.enter Try.prog 26 #[.pointer (some ⟨lb,0,none⟩),sv,.int .i64 a] .normal) (c::cs)) w:=by
 have hn16:s.n≤16:=h.u.wf.n2
 refine rd_0 fun A1 hA1=>S.tick _ _ _ _ _ h.x (by omega) fun w1 hx hz ho=>?_
 have h1:=h.tick hsb hx hz ho
 refine rd_1c (sv:=sv) (v:=s.k.ver) (by simp[hev]) h1.u.v.c hA1 fun A1 hA1=>?_
 refine own_raw_al S h1 hsb (fun b hb=>by rw[hz];exact hsbl b hb) (by omega) fun w2 ov h2 hr hs2 ho2=>?_
 refine rd_2 (sv:=sv) hA1 fun A1 hA1=>S.tick _ _ _ _ _ h2.x (by omega) fun w3 hx3 hz3 ho3=>?_
 have h3:=h2.tick hsb hx3 hz3 ho3
 refine rd_3a (sv:=sv) (u:=s.k.ver) (v:=s.k.ver) (by simp) h3.u.v.c hA1 ?_
 have e:m+1+s.n+1=m+s.n+2:=by omega
 rw[e]at h3
 refine K w3 ov h3 ⟨ownsRow_same2 hr.row fun b hb _=>ho3 b fun e=>?_,fun g hg=>by have:=hr.blk g hg;omega⟩ (by omega) fun r h1 h2=>(ho3 r h2).trans ((ho2 r (by omega) h2).trans (ho r h2))
 have:=hr.blk b hb
 have:=hsbl b e.symm
 omega
end
theorem nilSS(main:Bool):StepS .nilIface main none fun _ _=>True where
 tick:=fun m w c cs Stop _ _ K=>own_sst_nil (K w trivial rfl fun _ _=>rfl)
 keep:=fun _ _ _ _ _=>trivial
end
section
variable{F:Fz}{w:World}
def pk(h:Int×Int):Int:=(h.1+1)*4294967296+h.2
end
section
structure KSt where
 nx:List Int
 vl:List Int
 hd:Int×Int
 fr:Int×Int
 tg:Bool
structure KCl where
 pc:Nat
 n0:Int
 n1:Int
 n2:Int
 n3:Int
 n4:Int
 a:Int
abbrev KRs:=KCl ⊕ (Bool×Int)
def KSt.turn(s:KSt)(h:Int×Int)(node tag to:Int):Option (Int×Int):=
 if h=(node,tag)then some (to,if s.tg=true then(tag+1) % 2147483648 else 0)else none
def KSt.nxt(s:KSt)(i:Int):Int:=s.nx.getD i.toNat 0
def KSt.val(s:KSt)(i:Int):Int:=s.vl.getD i.toNat 0
def KSt.begin(s:KSt)(o:Op4):KSt×KRs:=
 if o.kd=1 then(s,.inl ⟨10,0,0,0,0,0,o.a⟩)
 else if o.kd=2 then(s,.inl ⟨20,0,0,0,0,0,0⟩)
 else if o.kd=3 then(s,.inl ⟨30,0,0,0,0,0,0⟩)
 else if o.kd=4 then(s,.inl ⟨40,0,0,0,0,0,0⟩)
 else(s,.inr (false,0))
def KSt.step(s:KSt)(c:KCl):KSt×KRs:=
 match c.pc with
 | 10=>if s.fr.1<0 then(s,.inr (false,0))else(s,.inl {c with n0:=s.fr.1,n1:=s.fr.2,pc:=11})
 | 11=>(s,.inl {c with n2:=s.nxt c.n0,pc:=12})
 | 12=>match s.turn s.fr c.n0 c.n1 c.n2 with
   | some f=>({s with fr:=f},.inl {c with n4:=c.n0,pc:=13})
   | none=>(s,.inl {c with pc:=10})
 | 13=>({s with vl:=s.vl.set c.n4.toNat c.a},.inl {c with pc:=14})
 | 14=>(s,.inl {c with n0:=s.hd.1,n1:=s.hd.2,pc:=15})
 | 15=>({s with nx:=s.nx.set c.n4.toNat c.n0},.inl {c with pc:=16})
 | 16=>match s.turn s.hd c.n0 c.n1 c.n4 with
   | some f=>({s with hd:=f},.inr (true,0))
   | none=>(s,.inl {c with pc:=14})
 | 20=>if s.hd.1<0 then(s,.inr (false,0))else(s,.inl {c with n0:=s.hd.1,n1:=s.hd.2,pc:=21})
 | 21=>(s,.inl {c with n2:=s.nxt c.n0,pc:=22})
 | 22=>match s.turn s.hd c.n0 c.n1 c.n2 with
   | some f=>({s with hd:=f},.inl {c with n4:=c.n0,pc:=23})
   | none=>(s,.inl {c with pc:=20})
 | 23=>(s,.inl {c with n3:=s.val c.n4,pc:=24})
 | 24=>(s,.inl {c with n0:=s.fr.1,n1:=s.fr.2,pc:=25})
 | 25=>({s with nx:=s.nx.set c.n4.toNat c.n0},.inl {c with pc:=26})
 | 26=>match s.turn s.fr c.n0 c.n1 c.n4 with
   | some f=>({s with fr:=f},.inr (true,c.n3))
   | none=>(s,.inl {c with pc:=24})
 | 30=>if s.hd.1<0 then(s,.inr (false,0))else(s,.inl {c with n0:=s.hd.1,n1:=s.hd.2,pc:=31})
 | 31=>(s,.inl {c with n3:=s.val c.n0,pc:=32})
 | 32=>if s.hd=(c.n0,c.n1)then(s,.inr (true,c.n3))else if s.hd.1<0 then(s,.inr (false,0))else(s,.inl {c with n0:=s.hd.1,n1:=s.hd.2,pc:=31})
 | _=>(s,.inr (decide (s.hd.1<0),0))
structure KWf(s:KSt):Prop where
 n1:s.nx.length=s.vl.length
 n2:0<s.nx.length
 n3:s.nx.length≤65536
 nx:∀v,v∈s.nx→-1≤v∧v<s.nx.length
 hd: -1≤s.hd.1∧s.hd.1<s.nx.length∧0≤s.hd.2∧s.hd.2<2147483648
 fr: -1≤s.fr.1∧s.fr.1<s.nx.length∧0≤s.fr.2∧s.fr.2<2147483648
 tg:s.tg=false→s.hd.2=0∧s.fr.2=0
end
section
variable{P:Program}{main:Bool}{F:Fz}{fn:FuncId}{ops:Array Oper}{S:World→Prop}{last:Nat}{Z:Act→World→Prop}
def Callee(P:Program)(main:Bool)(F:Fz)(f:FuncId)(args:Array Value)(Post:Value→World→Prop)(w:World):Prop:=
 ∀(c:Frame) (cs:List Frame) (Stop:Goroutine→World→Prop),(∀v w',Post v w'→Own P main F Stop (G (c.finish v) cs) w')→Own P main F Stop (G (Frame.enter P f args .normal) (c::cs)) w
end
noncomputable section
variable{F:Fz}{w:World}
structure KH(kb nb m:Nat)(w:World):Prop where
 c2:w.cell? ⟨kb,2,none⟩=some (.slice (some ⟨nb,0,none⟩) m m)
theorem KH.at{kb nb m:Nat}{w:World}(h:KH kb nb m w)(d:Nat):KH kb nb m (w.at d):=⟨h.c2⟩
def ktkBody:Code:=Try.f78.body.getD .skip
def ktkb1:=pC [zf,zt,zt] ktkBody
def ktkr1:=pC [zf,zt,zt,zt,zt] ktkBody
def ktks3:=pC [zf,zt,zt,zt,zf] ktkBody
def ktkr6:=pC [zf,zt,zt,zt,zf,zf,zf,zf,zt] ktkBody
def ktks9:=pC [zf,zt,zt,zt,zf,zf,zf,zf,zf] ktkBody
def ktkr8:=pC [zf,zt,zt,zt,zf,zf,zf,zf,zf,zf,zt] ktkBody
def ktks11:=pC [zf,zt,zt,zt,zf,zf,zf,zf,zf,zf,zf] ktkBody
def kgvBody:Code:=Try.f80.body.getD .skip
def kgvb1:=pC [zt,zt] kgvBody
def kgvr0:=pC [zt,zt,zt,zt] kgvBody
def kgvs2:=pC [zt,zt,zt,zf] kgvBody
def kgvr2:=pC [zt,zt,zt,zf,zf,zt] kgvBody
def kgvs4:=pC [zt,zt,zt,zf,zf,zf] kgvBody
def kgvr4:=pC [zt,zt,zt,zf,zf,zf,zf,zt] kgvBody
def kgvs6:=pC [zt,zt,zt,zf,zf,zf,zf,zf] kgvBody
end
noncomputable section
variable{F:Fz}{w:World}
@[go_sem] theorem eql_nilE74(a:Addr)(w:World)(es:Array Event):(binOp .eql 74 (.pointer (some a)) (.pointer none)).events Try.prog w es=es:=by kernel_rfl
def kpuBody:Code:=Try.f45.body.getD .skip
def kpur3:=pC [zf,zf,zt] kpuBody
def kpus5:=pC [zf,zf,zf] kpuBody
def kpur6:=pC [zf,zf,zf,zf,zt] kpuBody
def kpus9:=pC [zf,zf,zf,zf,zf] kpuBody
def kpur8:=pC [zf,zf,zf,zf,zf,zf,zt] kpuBody
def kpus11:=pC [zf,zf,zf,zf,zf,zf,zf] kpuBody
def kpoBody:Code:=Try.f43.body.getD .skip
def kpor3:=pC [zf,zf,zt] kpoBody
def kpos5:=pC [zf,zf,zf] kpoBody
def kpor6:=pC [zf,zf,zf,zf,zt] kpoBody
def kpos9:=pC [zf,zf,zf,zf,zf] kpoBody
def kpor8:=pC [zf,zf,zf,zf,zf,zf,zt] kpoBody
def kpos11:=pC [zf,zf,zf,zf,zf,zf,zf] kpoBody
def kpeBody:Code:=Try.f44.body.getD .skip
def kper3:=pC [zf,zf,zt] kpeBody
def kpes5:=pC [zf,zf,zf] kpeBody
def kpes8:=pC [zf,zf,zf,zf,zt,zt,zt] kpeBody
def kper6:=pC [zf,zf,zf,zf,zt,zt,zt,zf,zt,zt] kpeBody
def kpes11:=pC [zf,zf,zf,zf,zt,zt,zt,zf,zt,zf] kpeBody
def kper8:=pC [zf,zf,zf,zf,zt,zt,zt,zf,zt,zf,zf,zt] kpeBody
def kpes13:=pC [zf,zf,zf,zf,zt,zt,zt,zf,zt,zf,zf,zf] kpeBody
def kpes17:=pC [zf,zf,zf,zf,zf] kpeBody
def kemBody:Code:=Try.f46.body.getD .skip
def kemr3:=pC [zf,zf,zt] kemBody
def kems5:=pC [zf,zf,zf] kemBody
end
noncomputable section
variable{F:Fz}{w:World}
def kdoBody:Code:=Try.f64.body.getD .skip
def kdor3:=pC [zf,zt,zf,zt,zf,zt,zt] kdoBody
def kdor5:=pC [zf,zt,zf,zt,zf,zf,zf,zt,zt] kdoBody
def kdos7:=pC [zf,zt,zf,zt,zf,zf,zf,zt,zf] kdoBody
def kdor8:=pC [zf,zt,zf,zt,zf,zf,zf,zf,zf,zt,zt] kdoBody
def kdos10:=pC [zf,zt,zf,zt,zf,zf,zf,zf,zf,zt,zf] kdoBody
def kdor11:=pC [zf,zt,zf,zt,zf,zf,zf,zf,zf,zf,zf,zt,zt] kdoBody
def kdos13:=pC [zf,zf] kdoBody
end
section
variable{F:Fz}{w w':World}{kb:Nat}
structure KS where
 k:KSt
 nb:Nat
abbrev KS.m(s:KS):Nat:=s.k.nx.length
structure KU(kb:Nat)(s:KS)(w:World):Prop where
 wf:KWf s.k
 o:w.heap[kb]? =some (.cells #[.int .u64 (pk s.k.hd),.int .u64 (pk s.k.fr),.slice (some ⟨s.nb,0,none⟩) s.m s.m,.bool s.k.tg] 92 (0,0))
 n:∃c,w.heap[s.nb]? =some (.cells c 129 (0,0))∧c.size=s.m*2∧∀i,i<s.m→c[i*2]? =some (.int .i64 (s.k.nx.getD i 0))∧c[i*2+1]? =some (.int .i64 (s.k.vl.getD i 0))
def KR(kb:Nat)(s:KS)(r:Nat):Prop:=r=kb∨r=s.nb
section
variable{s:KS}
theorem KU.ne(h:KU kb s w):s.nb≠kb:=by
 intro e
 obtain⟨c,h1,_⟩:=h.n
 rw[e,h.o]at h1
 simp only[Option.some.injEq,Obj.cells.injEq]at h1
 exact absurd h1.2.1 (by decide)
theorem KU.low(h:KU kb s w){r:Nat}(hr:KR kb s r):r<w.heap.size:=by
 rcases hr with rfl|rfl
 ·exact(Array.getElem?_eq_some_iff.1 h.o).1
 ·obtain⟨c,h1,_⟩:=h.n
  exact(alt h1)
theorem KU.same(h:KU kb s w)(hs:∀r,KR kb s r→w'.heap[r]? =w.heap[r]?):KU kb s w':=by
 obtain⟨c,h1,h2⟩:=h.n
 exact⟨h.wf,(hs _ (.inl rfl)).trans h.o,c,(hs _ (.inr rfl)).trans h1,h2⟩
theorem KU.c0(h:KU kb s w):w.cell? ⟨kb,0,none⟩=some (.int .u64 (pk s.k.hd)):=by simp[World.cell?,h.o]
theorem KU.c1(h:KU kb s w):w.cell? ⟨kb,1,none⟩=some (.int .u64 (pk s.k.fr)):=by simp[World.cell?,h.o]
theorem KU.c2(h:KU kb s w):KH kb s.nb s.m w:=⟨by simp[World.cell?,h.o]⟩
theorem KU.c3(h:KU kb s w):w.cell? ⟨kb,3,none⟩=some (.bool s.k.tg):=by simp[World.cell?,h.o]
theorem KU.z(h:KU kb s w)(j:Nat):w.frozen? ⟨kb,j,none⟩=false:=by simp[World.frozen?,h.o]
end
end
section
variable{w w':World}{kb:Nat}
theorem ldI_calls{b o:Nat}{v:Int}(hc:w.cell? ⟨b,o,none⟩=some (.int .i64 v)):
 Calls Try.prog 54 #[.pointer (some ⟨b,o,none⟩)] w fun e w'=>e= .returned (.int .i64 v)∧w'=w:=by
 have hl:=run_call_load (P:=Try.prog) Try.func88 (by kernel_rfl) (by kernel_rfl) (by kernel_rfl) .i64 (by kernel_rfl) hc
 go_enter Try.func54,Try.ntmps54
 go_wp2
 go_ret
 exact⟨rfl,rfl⟩
theorem stI_calls{b o:Nat}{u:Value}{v:Int}(hc:w.cell? ⟨b,o,none⟩=some u)(hz:w.frozen? ⟨b,o,none⟩=false):
 Calls Try.prog 52 #[.pointer (some ⟨b,o,none⟩),.int .i64 v] w fun e w'=>e= .returned (.tuple #[])∧w'=w.setCell ⟨b,o,none⟩ (.int .i64 v):=by
 have hl:=run_call_store (P:=Try.prog) Try.func87 (by kernel_rfl) (by kernel_rfl) (by kernel_rfl) (by kernel_rfl) (k:=.i64) (y:=v) hc hz
 go_enter Try.func52,Try.ntmps52
 go_wp2
 go_end0
 exact⟨rfl,rfl⟩
end
section
variable{w w':World}{kb:Nat}
theorem KU.hn{s:KS}(h:KU kb s w):((-1≤s.k.hd.1∧s.k.hd.1<65536)∧0≤s.k.hd.2∧s.k.hd.2<2147483648)∧(-1≤s.k.fr.1∧s.k.fr.1<65536)∧0≤s.k.fr.2∧s.k.fr.2<2147483648:=by
 obtain⟨a1,a2,a3,a4⟩:=h.wf.hd
 obtain⟨b1,b2,b3,b4⟩:=h.wf.fr
 have hm:=h.wf.n3
 exact⟨⟨⟨a1,by omega⟩,a3,a4⟩,⟨b1,by omega⟩,b3,b4⟩
theorem KU.heap{s:KS}(h:KU kb s w)(e:w'.heap=w.heap):KU kb s w':=h.same fun r _=>by rw[e]
def KSt.walk(s:KSt):Nat→Int→List Int
 | 0,_=>[]
 | f+1,i=>if i<0 then[]else s.val i::s.walk f (s.nxt i)
def KSt.vals(s:KSt):List Int:=s.walk s.nx.length s.hd.1
theorem ValsAt.more{w u w1:World}{ov:Value}{xs ys:List Int}(h:ValsAt w u ov xs){v':Value}(hown:w1.ownsRow 0 2 1 v' (xs.length+ys.length) ((xs.map fun v=>.int .i64 v)++ys.map fun v=>.int .i64 v))(hg:u.grownBy w1 ov.ownBlock)(hf:v'.ownBlock=ov.ownBlock∨∃g,v'.ownBlock=some g∧u.heap.size≤g):ValsAt w w1 v' (xs++ys):=by
 refine⟨by simpa using hown,by have:=h.size;have:=hg.size;omega,fun r hr=>?_,fun g hgv=>?_⟩
 ·have hsz:=h.size
  refine(hg.block r (by omega) fun e=>?_).trans (h.old r hr)
  have:=h.new r e.symm
  omega
 ·rcases hf with e|⟨g',e,h2⟩
  ·exact h.new g (e ▸ hgv)
  ·rw[e]at hgv
   cases hgv
   have:=h.size
   omega
end
section
variable{w w':World}{kb:Nat}
def knew(n:Nat)(tg:Bool):KSt:=⟨(List.range n).map fun i=>if i+1=n then -1 else((i+1:Nat):Int),List.replicate n 0,(-1,0),(0,0),tg⟩
structure KMk(w:World)(n k:Nat)(tg:Bool)(wr:World):Prop where
 o:wr.heap[w.heap.size+1]? =some (.cells #[.int .u64 0,.int .u64 0,.slice (some ⟨w.heap.size,0,none⟩) n n,.bool tg] 92 (0,0))
 n:∃c,wr.heap[w.heap.size]? =some (.cells c 129 (0,0))∧c.size=n*2∧∀i,i<n→c[i*2]? =some (.int .i64 (if i<k then((i+1:Nat):Int)else 0))∧c[i*2+1]? =some (.int .i64 0)
 s:wr.heap.size=w.heap.size+2
 old:∀r,r<w.heap.size→wr.heap[r]? =w.heap[r]?
theorem KMk.next{n k:Nat}{tg:Bool}{wr:World}(h:KMk w n k tg wr)(hk:k<n):KMk w n (k+1) tg (wr.setCell ⟨w.heap.size,k*2,none⟩ (.int .i64 ((k:Int)+1))):=by
 obtain⟨c,h1,h2,h3⟩:=h.n
 refine⟨(heap_setCell_ne _ _ _ (by simp)).trans h.o,⟨c.setIfInBounds (k*2) (.int .i64 ((k:Int)+1)),by rw[heap_setCell_eq h1],by simpa using h2,fun i hi=>?_⟩,by rw[World.size_setCell];exact h.s,fun r hr=>(heap_setCell_ne _ _ _ (by simp only;omega)).trans (h.old r hr)⟩
 obtain⟨e1,e2⟩:=h3 i hi
 refine⟨?_,by rw[Array.getElem?_setIfInBounds_ne (by omega)];exact e2⟩
 by_cases e:k=i
 ·subst e
  rw[Array.getElem?_setIfInBounds_self_of_lt (by omega),if_pos (by omega)]
  simp
 ·rw[Array.getElem?_setIfInBounds_ne (by omega),e1]
  by_cases e2:i<k
  ·rw[if_pos e2,if_pos (by omega)]
  ·rw[if_neg e2,if_neg (by omega)]
theorem knew_get{n:Nat}{tg:Bool}{i:Nat}(hi:i<n):(knew n tg).nx.getD i 0=(if i+1=n then -1 else((i+1:Nat):Int))∧(knew n tg).vl.getD i 0=0:=by
 simp[knew,List.getD_eq_getElem?_getD,List.getElem?_map,List.getElem?_range hi,List.getElem?_replicate,hi]
theorem knew_wf{n:Nat}(h0:0<n)(h1:n≤65536)(tg:Bool):KWf (knew n tg):=by
 refine⟨by simp[knew],by simpa [knew]using h0,by simpa [knew]using h1,fun v hv=>?_,?_,?_,fun _=>⟨rfl,rfl⟩⟩
 ·simp only[knew,List.mem_map,List.mem_range]at hv
  obtain⟨i,hi,rfl⟩:=hv
  simp only[knew,List.length_map,List.length_range]
  split<;>omega
 ·simp[knew]
  omega
 ·simp[knew]
  omega
theorem KMk.done{n:Nat}{tg:Bool}{wr:World}(h:KMk w n n tg wr)(h0:0<n)(h1:n≤65536):KU (w.heap.size+1) ⟨knew n tg,w.heap.size⟩ ((wr.setCell ⟨w.heap.size,(n - 1)*2,none⟩ (.int .i64 (-1))).setCell ⟨w.heap.size+1,1,none⟩ (.int .u64 (pk (0,0)))):=by
 obtain⟨c,h1',h2,h3⟩:=h.n
 have hm:(KS.m ⟨knew n tg,w.heap.size⟩)=n:=by simp[KS.m,knew]
 refine⟨knew_wf h0 h1 tg,?_,c.setIfInBounds ((n - 1)*2) (.int .i64 (-1)),?_,by rw[hm];simpa using h2,fun i hi=>?_⟩
 ·rw[heap_setCell_eq (show(wr.setCell ⟨w.heap.size,(n - 1)*2,none⟩ (.int .i64 (-1))).heap[w.heap.size+1]? =_ from(heap_setCell_ne _ _ _ (by simp)).trans h.o),hm]
  rfl
 ·rw[heap_setCell_ne _ _ _ (by simp),heap_setCell_eq h1']
 ·rw[hm]at hi
  obtain⟨e1,e2⟩:=h3 i hi
  obtain⟨g1,g2⟩:=knew_get (tg:=tg) hi
  refine⟨?_,?_⟩
  ·simp only
   rw[g1]
   by_cases e:i+1=n
   ·rw[if_pos e,show(n - 1)*2=i*2 by omega,Array.getElem?_setIfInBounds_self_of_lt (by omega)]
   ·rw[if_neg e,Array.getElem?_setIfInBounds_ne (by omega),e1,if_pos hi]
  ·simp only
   rw[g2,Array.getElem?_setIfInBounds_ne (by omega)]
   exact e2
end
section
structure ExtOk(P:Program)(f:FuncId):Prop where
 e : ∃ fn, P.funcs[f]? = some fn ∧ (fn.name == "runtime.NumGoroutine") = false ∧ fn.body = none ∧ Extern.findNext fn = none ∧ ∃ x, Extern.find fn = some x ∧ Entry P true x
theorem closed_ofX{P:Program}{l x:List Nat}(hx:∀f∈x,ExtOk P f)(h:l.all (fun f=>x.contains f || codeOkF P (fun f=>l.contains f) f)=true):Closed P (fun f=>l.contains f) true:=fun f hf=>by
 have h1:=List.all_eq_true.1 h f (List.contains_iff_mem.1 hf)
 rw[Bool.or_eq_true]at h1
 rcases h1 with h1|h1
 ·obtain⟨fn,a1,a2,a3,a4,y,a5,a6⟩:=(hx f (List.contains_iff_mem.1 h1)).e
  exact⟨fn,a1,a2,.inr ⟨a3,a4,y,a5,a6⟩⟩
 ·obtain⟨fn,a1,a2,c,a3,a4⟩:=codeOkF_of h1
  exact⟨fn,a1,a2,.inl ⟨c,a3,a4⟩⟩
theorem ext_load {f : FuncId} {fn : Func} {t : Extern.Atomic.T} (h1 : Try.prog.funcs[f]? = some fn) (h2 : (fn.name == "runtime.NumGoroutine") = false) (h3 : fn.body = none) (h4 : Extern.findNext fn = none) (h5 : Extern.find fn = some (Extern.Atomic.loadT t)) : ExtOk Try.prog f :=
 ⟨fn,h1,h2,h3,h4,_,h5,fun F _ args=>Sims.loadT t args⟩
theorem ext_store {f : FuncId} {fn : Func} (h1 : Try.prog.funcs[f]? = some fn) (h2 : (fn.name == "runtime.NumGoroutine") = false) (h3 : fn.body = none) (h4 : Extern.findNext fn = none) (h5 : Extern.find fn = some Extern.Atomic.storeT) : ExtOk Try.prog f :=
 ⟨fn,h1,h2,h3,h4,_,h5,fun F _ args=>Sims.storeT args⟩
theorem ext_cas {f : FuncId} {fn : Func} {t : Extern.Atomic.T} (h1 : Try.prog.funcs[f]? = some fn) (h2 : (fn.name == "runtime.NumGoroutine") = false) (h3 : fn.body = none) (h4 : Extern.findNext fn = none) (h5 : Extern.find fn = some (Extern.Atomic.casT t)) : ExtOk Try.prog f :=
 ⟨fn,h1,h2,h3,h4,_,h5,fun F hF args=>Sims.casT t (hF rfl) args⟩
theorem ext87:ExtOk Try.prog 87:=ext_store Try.func87 (by kernel_rfl) (by kernel_rfl) (by kernel_rfl) (by kernel_rfl)
theorem ext88:ExtOk Try.prog 88:=ext_load (t:=.int .i64) Try.func88 (by kernel_rfl) (by kernel_rfl) (by kernel_rfl) (by kernel_rfl)
theorem ext96:ExtOk Try.prog 96:=ext_store Try.func96 (by kernel_rfl) (by kernel_rfl) (by kernel_rfl) (by kernel_rfl)
theorem ext97:ExtOk Try.prog 97:=ext_load (t:=.int .u64) Try.func97 (by kernel_rfl) (by kernel_rfl) (by kernel_rfl) (by kernel_rfl)
theorem ext113:ExtOk Try.prog 113:=ext_cas (t:=.int .i64) Try.func113 (by kernel_rfl) (by kernel_rfl) (by kernel_rfl) (by kernel_rfl)
theorem ext114:ExtOk Try.prog 114:=ext_cas (t:=.int .u64) Try.func114 (by kernel_rfl) (by kernel_rfl) (by kernel_rfl) (by kernel_rfl)
theorem extA:∀f∈[87,88,96,97,113,114],ExtOk Try.prog f:=by
 intro f hf
 simp only[List.mem_cons,List.not_mem_nil,or_false]at hf
 rcases hf with rfl|rfl|rfl|rfl|rfl|rfl
 ·exact ext87
 ·exact ext88
 ·exact ext96
 ·exact ext97
 ·exact ext113
 ·exact ext114
theorem CallsB.mono{P:Program}{fn:Func}{args:Array Value}{w:World}{R R':Value→World→Prop}(h:CallsB P fn args w R)(hr:∀v u,R v u→R' v u):CallsB P fn args w R':=fun c hc=>by
 refine Code.wp_mono (fun e a u hq=>?_) (h c hc)
 cases e with
 | normal=>obtain⟨h1,v,h2,v',h3,h4⟩:=hq;exact⟨h1,v,h2,v',h3,hr _ _ h4⟩
 | ret=>obtain⟨h1,v,h2,v',h3,h4⟩:=hq;exact⟨h1,v,h2,v',h3,hr _ _ h4⟩
 | panic ch=>obtain⟨h1,v',h3,h4⟩:=hq;exact⟨h1,v',h3,hr _ _ h4⟩
 | outgrown=>obtain⟨v',h3,h4⟩:=hq;exact⟨v',h3,hr _ _ h4⟩
 | exit _=>exact hq
 | goto _=>exact hq
variable{w w':World}{kb:Nat}
end
section
variable{w w':World}{lb:Nat}
theorem info60:∃i z,Try.prog.info? 60=some i∧i.zero=some z∧i.size=1∧i.bytes=8∧z.cells= #[.int .i64 0]:=by
 obtain⟨i,hi,h⟩:=Option.map_eq_some_iff.1 (show(Try.prog.info? 60).map (fun i=>(i.zero.map Value.cells,i.size,i.bytes))=some (some #[.int .i64 0],1,8)by kernel_rfl)
 simp only[Prod.mk.injEq]at h
 obtain⟨z,hz,hc⟩:=Option.map_eq_some_iff.1 h.1
 exact⟨i,z,hi,hz,h.2.1,h.2.2,hc⟩
theorem mk62{n:Nat}(hn:n≤16)(w:World):(Instr.makeSlice 62 (.int .i64 n) (.int .i64 n)).run Try.prog w= .ok (.slice (some ⟨w.heap.size,0,none⟩) n n) (w.alloc (.cells (madeCells #[.int .i64 0] n) 60)):=by
 obtain⟨i,z,hi,hz,hs,hb,hc⟩:=info60
 have:=run_make (P:=Try.prog) w 62 60 i _ Try.underlying62 hi hz .i64 .i64 n n (by omega) (by omega) (by rw[hb];omega) (by omega)
 rw[hs,hc]at this
 simpa using this
theorem made_get1(n k:Nat)(h:k<n):(madeCells #[.int .i64 0] n)[k]? =some (.int .i64 0):=by
 simp only[madeCells,Array.getElem?_map,Array.getElem?_range]
 rw[if_pos h]
 simp[Nat.mod_one]
def InRow(w:World)(va:Option Addr)(xs:List Int):Prop:=∀i x,xs[i]? =some x→∃b o,va=some ⟨b,o,none⟩∧w.cell? ⟨b,o+i,none⟩=some (.int .i64 x)
theorem InRow.same{va:Option Addr}{xs:List Int}(h:InRow w va xs)(hs:∀r,r<w.heap.size→w'.heap[r]? =w.heap[r]?):InRow w' va xs:=fun i x hx=>by
 obtain⟨b,o,e,h1⟩:=h i x hx
 exact⟨b,o,e,(cell_heap (j:=o+i) (hs b (cell_low h1))).1.trans h1⟩
structure SMk(w:World)(n k:Nat)(xs:List Int)(wr:World):Prop where
 o:wr.heap[w.heap.size+1]? =some (.cells #[.int .i64 0,.int .i64 0,.slice (some ⟨w.heap.size,0,none⟩) n n] 64 (0,0))
 n:∃c,wr.heap[w.heap.size]? =some (.cells c 60 (0,0))∧c.size=n∧∀i,i<n→c[i]? =some (.int .i64 (if i<k then xs.getD i 0 else 0))
 s:wr.heap.size=w.heap.size+2
 old:∀r,r<w.heap.size→wr.heap[r]? =w.heap[r]?
theorem SMk.next{n k:Nat}{xs:List Int}{wr:World}(h:SMk w n k xs wr)(hk:k<n):SMk w n (k+1) xs (wr.setCell ⟨w.heap.size,k,none⟩ (.int .i64 (xs.getD k 0))):=by
 obtain⟨c,h1,h2,h3⟩:=h.n
 refine⟨(heap_setCell_ne _ _ _ (by simp)).trans h.o,⟨c.setIfInBounds k (.int .i64 (xs.getD k 0)),by rw[heap_setCell_eq h1],by simpa using h2,fun i hi=>?_⟩,by rw[World.size_setCell];exact h.s,fun r hr=>(heap_setCell_ne _ _ _ (by simp only;omega)).trans (h.old r hr)⟩
 have e1:=h3 i hi
 by_cases e:k=i
 ·subst e
  rw[Array.getElem?_setIfInBounds_self_of_lt (by omega),if_pos (by omega)]
 ·rw[Array.getElem?_setIfInBounds_ne (by omega),e1]
  by_cases e2:i<k
  ·rw[if_pos e2,if_pos (by omega)]
  ·rw[if_neg e2,if_neg (by omega)]
theorem SMk.done{n k:Nat}{xs:List Int}{wr:World}(h:SMk w n k xs wr)(hn:n=min (max xs.length 1) 16)(hk:k=min xs.length 16):SU (w.heap.size+1) ⟨snew xs,w.heap.size,0⟩ wr:=by
 obtain⟨c,h1,h2,h3⟩:=h.n
 have hl:(snew xs).ws.length=n:=by simp[snew,hn]
 refine⟨⟨by show 0<(snew xs).ws.length;omega,by show(snew xs).ws.length≤16;omega⟩,⟨.inl ?_,?_,?_⟩,⟨by simp[World.cell?,h.o,snew],by simp[World.frozen?,h.o]⟩,fun i hi=>?_,fun e=>by simp at e⟩
 ·simp only[SS.n,hl,World.cell?,h.o]
  rfl
 ·simp only[SS.n,hl];omega
 ·simp only[SS.n,hl];omega
 ·have hi':i<n:=by simpa [SS.n,hl]using hi
  have e:(snew xs).ws.getD i 0=if i<k then xs.getD i 0 else 0:=by
   have hi2:i<min (max xs.length 1) 16:=by omega
   simp only[snew,List.getD_eq_getElem?_getD,List.getElem?_map,List.getElem?_range hi2,Option.map_some,Option.getD_some]
   by_cases e:i<k
   ·rw[if_pos e]
   ·rw[if_neg e,List.getElem?_eq_none (by omega)]
    rfl
  refine⟨?_,by simp[World.frozen?,h1]⟩
  simp only[Nat.zero_add,World.cell?,h1]
  rw[e]
  simpa using h3 i hi'
theorem snew_callsB{va:Option Addr}{vc:Nat}{xs:List Int}(hx:InRow w va xs)(hlen:xs.length<9223372036854775808):
 CallsB Try.prog Try.f17 #[.slice va xs.length vc] w fun x w'=>x= .pointer (some ⟨w.heap.size+1,0,none⟩)∧SU (w.heap.size+1) ⟨snew xs,w.heap.size,0⟩ w'∧w.heap.size+2≤w'.heap.size∧∀r,r<w.heap.size→w'.heap[r]? =w.heap[r]?:=by
 obtain⟨n,hn⟩:∃n,n=min (max xs.length 1) 16:=⟨_,rfl⟩
 obtain⟨q,hq⟩:∃q,q=min xs.length 16:=⟨_,rfl⟩
 have h0:0<n:=by omega
 have h1:n≤16:=by omega
 have hmk:=mk62 h1 w
 have M0:Aside (SMk w n 0 xs ((w.alloc (.cells (madeCells #[.int .i64 0] n) 60)).alloc (.cells #[.int .i64 0,.int .i64 0,.slice (some ⟨w.heap.size,0,none⟩) n n] 64))):=by
  refine⟨new2 w _ _ 64,⟨_,(heap_alloc_lt _ _ (by simp)).trans (heap_alloc_new _ _),size_madeCells _ _,fun i hi=>by rw[if_neg (by omega)];exact made_get1 _ _ (by omega)⟩,size2 _ _ _,fun r hr=>old2 _ _ _ hr⟩
 obtain⟨mx,hs1⟩:∃mx:Int,(if(xs.length:Int)<1 then(1:Int)else(xs.length:Int))=mx:=⟨_,rfl⟩
 have hs2:(if(16:Int)<mx then(16:Int)else mx)=(n:Int):=by
  subst hs1
  by_cases h:(xs.length:Int)<1
  ·rw[if_pos h,if_neg (by omega)];omega
  ·rw[if_neg h];split<;>omega
 have hs3:(if(16:Int)<(xs.length:Int)then(16:Int)else(xs.length:Int))=(q:Int):=by split<;>omega
 have S:Aside (∀(W:World) (k:Nat),k<n→SMk w n k xs W→Calls Try.prog 52 #[.pointer (some ⟨w.heap.size,k,none⟩),.int .i64 (xs.getD k 0)] W fun e w'=>e= .returned (.tuple #[])∧SMk w n (k+1) xs w'):=fun W k hk h=>by
  obtain⟨c,c1,c2,c3⟩:=h.n
  have d1:=c3 k hk
  refine(stI_calls (u:=_) (v:=xs.getD k 0) (by simp only[World.cell?,c1];simpa using d1) (by simp[World.frozen?,c1])).mono ?_
  rintro e w' ⟨rfl,rfl⟩
  exact⟨rfl,h.next hk⟩
 have N:Aside (n=min (max xs.length 1) 16∧q=min xs.length 16∧0<n∧n≤16∧xs.length<9223372036854775808):=⟨hn,hq,h0,h1,hlen⟩
 have X:Aside (InRow w va xs):=hx
 clear hn hq h0 h1 hx hlen
 refine callsB_of rfl ?_
 simp only[Try.ntmps17,List.size_toArray,List.length_cons,List.length_nil,Nat.reduceAdd,Nat.reduceSub,Array.replicate_succ,Array.replicate_zero,List.push_toArray,List.append_toArray,List.nil_append,List.cons_append]
 go_wp2
 clear hs1 hs2 hs3 hmk
 go_loopg [15] q (fun g i wr=>∃k:Nat,k≤q∧i= .int .i64 k∧g=q - k∧SMk w n k xs wr)
 case atStart=>exact⟨0,Nat.zero_le _,rfl,rfl,M0.out⟩
 case round=>
  obtain⟨k,hk,rfl,hg,hM⟩:=hrel
  have c2:wr.cell? ⟨w.heap.size+1,2,none⟩=some (.slice (some ⟨w.heap.size,0,none⟩) n n):=by simp[World.cell?,hM.o]
  have M:Aside (SMk w n k xs wr):=hM
  clear hM
  rcases Nat.lt_or_ge k q with hlt|hge
  ·have hlt':(k:Int)<(q:Int):=by omega
   have hkn:k<n:=by have:=N.out;omega
   have hkl:k<xs.length:=by have:=N.out;omega
   have hkn':(k:Int)<(n:Int):=by omega
   have hkl':(k:Int)<(xs.length:Int):=by omega
   have hwr:IntKind.i64.wrap ((k:Int)+1)=(k:Int)+1:=IntWalk.i64_in _ (by have:=N.out;omega)
   obtain⟨x,hx⟩:∃x,xs[k]? =some x:=⟨_,List.getElem?_eq_getElem hkl⟩
   obtain⟨vb,vo,hva,hcell⟩:=X.out k x hx
   have hcell2:wr.cell? ⟨vb,vo+k,none⟩=some (.int .i64 x):=(cell_heap (j:=vo+k) (M.out.old vb (cell_low hcell))).1.trans hcell
   have hxd:Aside (xs.getD k 0=x):=by unfold Aside;simp[List.getD_eq_getElem?_getD,hx]
   subst hva
   have G:Aside (gk=q - k∧k<q∧k<n):=⟨hg,hlt,hkn⟩
   clear hg hk hx hcell
   go_wp2
   go_region_with (go_at_call 52;refine(show Calls Try.prog 52 #[.pointer (some ⟨w.heap.size,k,none⟩),.int .i64 x] _ _ from hxd.out ▸ S.out _ _ G.out.2.2 (by exact⟨M.out.o,M.out.n,M.out.s,M.out.old⟩)).mono ?_;rintro e w1 ⟨rfl,hM1⟩;have M1:Aside (SMk w n (k+1) xs w1):=hM1;clear hM1)
   all_goals(
    go_wp2
    go_roundg (q - (k+1))
    case measure=>have:=G.out;omega
    case rel=>exact⟨k+1,G.out.2.1,rfl,rfl,M1.out⟩)
  ·have e:k=q:=by omega
   subst e
   clear hg hk hge
   go_wp2
   go_ret
   exact⟨_,rfl,rfl,(M.out.done N.out.1 N.out.2.1),by have:=M.out.s;omega,M.out.old⟩
def sFns:List Nat:=[17,19,52,54,87,88]
theorem closedS:Closed Try.prog (fun f=>sFns.contains f) true:=closed_ofX extA (by kernel_rfl)
theorem own_snew{va:Option Addr}{vc:Nat}{xs:List Int}(hx:InRow w va xs)(hlen:xs.length<9223372036854775808){c:Frame}{cs:List Frame}{main:Bool}{Stop:Goroutine→World→Prop}
 (K:∀w1,SU (w.heap.size+1) ⟨snew xs,w.heap.size,0⟩ w1→w.heap.size+2≤w1.heap.size→(∀r,r<w.heap.size→w1.heap[r]? =w.heap[r]?)→Own Try.prog main F0 Stop (G (c.finish (.pointer (some ⟨w.heap.size+1,0,none⟩))) cs) w1):
 Own Try.prog main F0 Stop (G (Frame.enter Try.prog 17 #[.slice va xs.length vc] .normal) (c::cs)) w:=by
 refine own_callB closedS prog_late Try.func17 rfl (by kernel_rfl) (R:=fun x w'=>x= .pointer (some ⟨w.heap.size+1,0,none⟩)∧SU (w.heap.size+1) ⟨snew xs,w.heap.size,0⟩ w'∧w.heap.size+2≤w'.heap.size∧∀r,r<w.heap.size→w'.heap[r]? =w.heap[r]?) (fun τ e=>snew_callsB (w:=retape w τ e) (fun i x h=>hx i x h) hlen) fun v w' τ e hR hg=>?_
 obtain⟨rfl,h1,h2,h3⟩:=hR
 exact K w' (h1.same fun _ _=>rfl) h2 h3
end
noncomputable section
variable{F:Fz}{w:World}
theorem svers_callsB{lb:Nat}{v:Int}(hc:w.cell? ⟨lb,0,none⟩=some (.int .i64 v)):CallsB Try.prog Try.f19 #[.pointer (some ⟨lb,0,none⟩)] w fun x w'=>x= .int .i64 v∧w'.heap=w.heap:=by
 have L:=ldI_calls (w:=w) (b:=lb) (o:=0) hc
 refine callsB_of rfl ?_
 simp only[Try.ntmps19,List.size_toArray,List.length_cons,List.length_nil,Nat.reduceAdd,Nat.reduceSub,Array.replicate_succ,Array.replicate_zero,List.push_toArray,List.append_toArray,List.nil_append,List.cons_append]
 go_wp2_with (go_at_call 54;refine L.mono ?_;rintro e w1 ⟨rfl,rfl⟩)
 go_ret
 exact⟨_,rfl,rfl,rfl⟩
theorem callable19:Callable 19:=callable Try.func19 rfl rfl
theorem own_svers{lb:Nat}{v:Int}(hc:w.cell? ⟨lb,0,none⟩=some (.int .i64 v)){c:Frame}{cs:List Frame}{main:Bool}{Stop:Goroutine→World→Prop}
 (K:∀w1,w1.heap=w.heap→Own Try.prog main F0 Stop (G (c.finish (.int .i64 v)) cs) w1):
 Own Try.prog main F0 Stop (G (Frame.enter Try.prog 19 #[.pointer (some ⟨lb,0,none⟩)] .normal) (c::cs)) w:=by
 refine own_callB closedS prog_late Try.func19 rfl (by kernel_rfl) (R:=fun x w'=>x= .int .i64 v∧w'.heap=w.heap) (fun τ e=>svers_callsB (w:=retape w τ e) hc) fun v w' τ e hR hg=>?_
 obtain⟨rfl,h⟩:=hR
 exact K w' h
theorem SU.heap{lb:Nat}{s:SS}{w w':World}(h:SU lb s w)(e:w'.heap=w.heap):SU lb s w':=h.same fun r _=>by rw[e]
theorem row_one{X:World}{v:Int}:(X.alloc (.cells #[.int .i64 v] 2)).ownsRow 0 2 1 (.slice (some ⟨X.heap.size,0,none⟩) 1 1) 1 [.int .i64 v]:=
 ⟨rfl,.inr ⟨X.heap.size,1,#[.int .i64 v],rfl,Nat.zero_le _,heap_alloc_new _ _,Nat.le_refl _,by decide,rfl,rfl⟩⟩
def svaBody:Code:=Try.f23.body.getD .skip
def svas0:=pC [] svaBody
def svar0:=pC [zt] svaBody
def svas1:=pC [zf] svaBody
def svar1:=pC [zf,zt] svaBody
theorem svas0':svas0= .seq svar0 svas1:=by kernel_rfl
theorem svar0':svar0= .region 0 (oC svar0) false:=by kernel_rfl
theorem svas1':svas1= .seq svar1 .ret:=by kernel_rfl
theorem svar1':svar1= .region 1 (oC svar1) false:=by kernel_rfl
theorem enter_sva(args:Array Value):Frame.enter Try.prog 23 args .normal=(Go.Conc.base 23).at {tmps:=args++Array.replicate (5 - args.size) undef,defers:=[]} [.code svas0]:=enter_at args Try.func23 rfl
theorem callable23:Callable 23:=callable Try.func23 rfl rfl
theorem own_svalues{lb:Nat}{s:SS}(hU:SU lb s w){c:Frame}{cs:List Frame}{main:Bool}{Stop:Goroutine→World→Prop}
 (K:∀w' ov,SU lb s w'→RawA w w' ov s.k.ws→w.heap.size≤w'.heap.size→(∀r,r<w.heap.size→w'.heap[r]? =w.heap[r]?)→Own Try.prog main F0 Stop (G (c.finish ov) cs) w'):
 Own Try.prog main F0 Stop (G (Frame.enter Try.prog 23 #[.pointer (some ⟨lb,0,none⟩)] .normal) (c::cs)) w:=by
 rw[enter_sva]
 walk_nrm
 refine ogSR svas0' svar0' ?_
 simp only[svar0,svaBody,Try.f23,zz,Nat.reduceAdd]
 (refine oW fun dd K hK=>?_;go_simp;refine qT hK ?_;clear hK K)
 refine ogE ?_
 refine ogSR svas1' svar1' ?_
 simp only[svar1,svaBody,Try.f23,zz,Nat.reduceAdd]
 (refine oW fun dd K hK=>?_;go_simp;refine qT hK ?_;clear hK K)
 refine oc callable28 #[.pointer (some ⟨lb,0,none⟩),.nilIface] ?_
 refine own_raw_al (nilSS main) (w0:=w) (m:=0) ⟨hU,trivial,Nat.le_refl _,fun _ _ _ _ _=>rfl⟩ (fun _ h=>by cases h) (fun _ h=>by cases h) (by decide) fun w' ov h1 h2 h3 h4=>?_
 rw[Frame.finish_at]
 walk_nrm
 (refine oW fun dd K hK=>?_;go_simp;refine qT hK ?_;clear hK K)
 refine ogE ?_
 refine ogX ?_
 refine own_go rfl (fun d=>stepG_leave (fn:=Try.f23) (v:=ov) rfl rfl Try.func23 (by simp[results,Try.f23]) (by simp[results,Try.f23,go_sem])) ?_
 exact K w' ov h1.u h2 h3 fun r hr=>h4 r hr (by simp)
def sseBody:Code:=Try.f49.body.getD .skip
def sses0:=pC [] sseBody
def sser0:=pC [zt] sseBody
def sses1:=pC [zf] sseBody
def sser1:=pC [zf,zt] sseBody
theorem sses0':sses0= .seq sser0 sses1:=by kernel_rfl
theorem sser0':sser0= .region 0 (oC sser0) false:=by kernel_rfl
theorem sses1':sses1= .seq sser1 .ret:=by kernel_rfl
theorem sser1':sser1= .region 1 (oC sser1) false:=by kernel_rfl
theorem enter_sse(args:Array Value):Frame.enter Try.prog 49 args .normal=(Go.Conc.base 49).at {tmps:=args++Array.replicate (9 - args.size) undef,defers:=[]} [.code sses0]:=enter_at args Try.func49 rfl
theorem callable49:Callable 49:=callable Try.func49 rfl rfl
theorem own_sstate{lb:Nat}{s:SS}(hU:SU lb s w){c:Frame}{cs:List Frame}{main:Bool}{Stop:Goroutine→World→Prop}
 (K:∀w1 ov,ValsAt w w1 ov s.k.state→Own Try.prog main F0 Stop (G (c.finish ov) cs) w1):
 Own Try.prog main F0 Stop (G (Frame.enter Try.prog 49 #[.pointer (some ⟨lb,0,none⟩)] .normal) (c::cs)) w:=by
 rw[enter_sse]
 walk_nrm
 refine ogSR sses0' sser0' ?_
 simp only[sser0,sseBody,Try.f49,zz,Nat.reduceAdd]
 (refine oW fun dd K hK=>?_;go_simp;refine qT hK ?_;clear hK K)
 refine ogE ?_
 refine ogSR sses1' sser1' ?_
 simp only[sser1,sseBody,Try.f49,zz,Nat.reduceAdd]
 (refine oW fun dd K hK=>?_;go_simp;refine qT hK ?_;clear hK K)
 refine oc callable19 #[.pointer (some ⟨lb,0,none⟩)] ?_
 refine own_svers hU.v.c fun w1 e1=>?_
 rw[Frame.finish_at]
 walk_nrm
 have hU1:=hU.heap e1
 have E1:Aside (w1.heap=w.heap):=e1
 clear e1
 have hU:Under F0 0:=under_F0
 have hn:0≤w1.heap.size:=Nat.zero_le _
 (refine oW fun dd K hK=>?_;go_simp;refine qA hK hU ?_;clear hK K)
 (refine oW fun dd K hK=>?_;go_simp;refine qT hK ?_;clear hK K)
 refine oc callable23 #[.pointer (some ⟨lb,0,none⟩)] ?_
 refine own_svalues (hU1.same fun r hr=>heap_alloc_lt _ _ (hU1.low hr)) fun w2 ov h1 h2 h3 h4=>?_
 rw[Frame.finish_at]
 walk_nrm
 have hU:=hU1
 obtain⟨hrow,hblk⟩:=h2
 obtain⟨g,cap,hov⟩:∃g cap,ov= .slice (some ⟨g,0,none⟩) s.k.ws.length cap:=by
  rcases hrow.2 with⟨_,h⟩|⟨g,cap,_,h,_⟩
  ·have:=hU.wf.n1;omega
  ·exact⟨g,cap,h⟩
 subst hov
 have hg:=hblk g rfl
 have hrow1:w2.ownsRow 0 2 1 (.slice (some ⟨w1.heap.size,0,none⟩) 1 1) 1 [.int .i64 s.k.ver]:=ownsRow_same2 row_one fun b hb _=>by simp only[Value.ownBlock,Option.some.injEq]at hb;subst hb;exact h4 _ (by simp)
 refine own_append (s:=.tmp 5) (x:=.tmp 7) (t:=22) (e:=2) (sz:=1) (bytes:=8) (news:=s.k.ws.map fun v=>.int .i64 v) (m:=s.k.ws.length) (c:=cap) (ad:=⟨g,0,none⟩) Try.underlying22 infoA2 (by decide) rfl rfl (by decide) rfl (wf_F0 _) (v:=.slice (some ⟨w1.heap.size,0,none⟩) 1 1) rfl rfl hrow1 (fun _ _=>rfl) (by simp) (row_cells hrow) (by intro q hq;simp at hq;obtain⟨_,_,rfl⟩:=hq;rfl) (by have:=hU.wf.n2;unfold maxLen;omega) (by have:=hU.wf.n2;omega) fun ov' w' g1 g2 g3 g4 g5=>?_
 walk_nrm
 (refine oW fun dd K hK=>?_;go_simp;refine qT hK ?_;clear hK K)
 refine ogE ?_
 refine ogX ?_
 refine own_go rfl (fun d=>stepG_leave (fn:=Try.f49) (v:=ov') rfl rfl Try.func49 (by simp[results,Try.f49]) (by simp[results,Try.f49,go_sem])) ?_
 have e1:=E1.out
 have hs1:(w1.alloc (.cells #[.int .i64 s.k.ver] 2)).heap.size=w.heap.size+1:=by simp[e1]
 have ho:∀r,r<w.heap.size→(w1.alloc (.cells #[.int .i64 s.k.ver] 2)).heap[r]? =w.heap[r]?:=fun r hr=>by rw[heap_alloc_lt _ _ (by rw[e1];exact hr),e1]
 have e1s:w1.heap.size=w.heap.size:=by rw[e1]
 refine K w' ov' ⟨?_,by omega,fun r hr=>?_,fun b hb=>?_⟩
 ·have e:1+s.k.ws.length=s.k.state.length:=by simp[SSt.state];omega
  rw[← e]
  exact g1
 ·rw[g4 r (by omega) (by simp[Value.ownBlock];omega),h4 r (by omega),ho r hr]
 ·rcases g5 with e|⟨q,e,hq⟩
  ·rw[e]at hb
   simp only[Value.ownBlock,Option.some.injEq]at hb
   omega
  ·rw[e]at hb
   cases hb
   omega
end
section
variable{w:World}
structure SV(av:Nat)(v:Value)(u:World):Prop where
 c:u.cell? ⟨av,0,none⟩=some v
 z:u.frozen? ⟨av,0,none⟩=false
theorem di_6{ta:Option Addr}{tl tc n db av:Nat}{l x:Value}(hs:SV av x w){A:Array Value}(hA:Slots 38 A [(0,.slice ta tl tc),(3,.pointer (some ⟨db,0,none⟩)),(6,.int .i64 n),(7,.pointer (some ⟨av,0,none⟩)),(8,l),(16,.int .i64 n),(17,.int .i64 n)]){c:Frame}{cs:List Frame}{Stop:Goroutine→World→Prop}
 (h:Own Try.prog true F0 Stop (G (c.finish (.tuple #[l,x])) cs) w):
 Own Try.prog true F0 Stop (G ((Go.Conc.base 81).at ⟨A,[]⟩ [.code dir10,.code .ret]) (c::cs)) w:=by
 obtain⟨hsz,h0,h3,h6,h7,h8,h16,h17,_⟩:=hA
 obtain⟨s,rfl⟩:=diT_of hsz
 change s 0=_ at h0
 change s 3=_ at h3
 change s 6=_ at h6
 change s 7=_ at h7
 change s 8=_ at h8
 change s 16=_ at h16
 change s 17=_ at h17
 clear hsz
 simp only[diT,h0,h3,h6,h7,h8,h16,h17]
 clear h0 h3 h6 h7 h8 h16 h17
 have hS:∀u d,SV av x u→SV av x (World.at u d):=fun u d h=>⟨h.c,h.z⟩
 rw[dir10']
 refine own_drawnM (SV av x) (last:=3) run_mixed (ll_of (by kernel_rfl)) (by decide) ?_
 simp only[dir10,diBody,Try.f81,zz,Nat.reduceAdd]
 have hZ:∀a u d,Own Try.prog true F0 Stop (G ((Go.Conc.base 81).at a [.inRegion (oC dir10) [3],.code .ret]) (c::cs)) u→Own Try.prog true F0 Stop (G ((Go.Conc.base 81).at a [.inRegion (oC dir10) [3],.code .ret]) (c::cs)) (World.at u d):=fun a u d h=>h.at d
 simp only[dir10,diBody,Try.f81,zz,Nat.reduceAdd]at hZ
 refine anyM_take hS hZ (i:=0) (v:=l) hs rfl rfl (by kernel_rfl) (by kernel_rfl) (by kernel_rfl) (fun u hu=>.inl ⟨rfl,fun d=>⟨by simp[go_sem,execOp,Act.eval],fun e he=>by have hm:=mem_listed he;simp[go_sem,execOp,Act.eval]at hm⟩⟩) ?_
 walk_nrm
 refine anyM_take hS hZ (i:=1) (v:=x) hs rfl rfl (by kernel_rfl) (by kernel_rfl) (by kernel_rfl) (fun u hu=>.inl ⟨rfl,fun d=>⟨by simp[go_sem,execOp,Act.eval,hu.c,hu.z],fun e he=>by have hm:=mem_listed he;simp[go_sem,execOp,Act.eval,hu.c,hu.z]at hm;subst hm;exact evT_read _ _⟩⟩) ?_
 walk_nrm
 refine anyM_take hS hZ (i:=2) (v:=l) hs rfl rfl (by kernel_rfl) (by kernel_rfl) (by kernel_rfl) (fun u hu=>.inl ⟨rfl,fun d=>⟨by simp[go_sem,execOp,Act.eval],fun e he=>by have hm:=mem_listed he;simp[go_sem,execOp,Act.eval]at hm⟩⟩) ?_
 walk_nrm
 refine anyM_end (by kernel_rfl) ?_ _
 (refine oW fun dd K hK=>?_;go_simp;refine qT hK ?_;clear hK K)
 refine ogE ?_
 refine ogX ?_
 refine own_go rfl (fun d=>stepG_leave (fn:=Try.f81) (v:=.tuple #[l,x]) rfl rfl Try.func81 (by simp[results,Try.f81,go_sem]) (by simp[results,Try.f81,go_sem])) ?_
 exact h
structure DI(w0:World)(n k db aa av:Nat)(dv:Value)(oa:Nat→Option Addr)(m oc ib ob:Nat→Nat)(l:Value)(w:World):Prop where
 size:w0.heap.size≤w.heap.size
 old:∀r,r<w0.heap.size→w.heap[r]? =w0.heap[r]?
 hdb:w.heap[db]? =some (.cells #[dv] 98 (0,0))
 haa:w.heap[aa]? =some (.cells (madeCells #[.slice none 0 0] n) 42 (0,0))
 hav:w.heap[av]? =some (.cells #[.slice (some ⟨aa,0,none⟩) n n] 29 (0,0))
 hib:∀j,j<k→w.heap[ib j]? =some (.cells #[.int .i64 j] 3 (0,0))
 hob:∀j,j<k→w.heap[ob j]? =some (.cells #[.slice (oa j) (m j) (oc j)] 34 (0,0))
 lo:∀j,j<k→w0.heap.size≤ib j∧w0.heap.size≤ob j
 new:w0.heap.size≤db∧w0.heap.size≤aa∧w0.heap.size≤av
 row:w.ownsRow w0.heap.size 112 1 l k ((List.range k).map fun j=>cl68 (ob j) db (ib j) av)
theorem DI.same{w0 w w':World}{n k db aa av:Nat}{dv:Value}{oa:Nat→Option Addr}{m oc ib ob:Nat→Nat}{l:Value}(h:DI w0 n k db aa av dv oa m oc ib ob l w)(hsz:w.heap.size≤w'.heap.size)(hs:∀r,r<w.heap.size→w'.heap[r]? =w.heap[r]?):DI w0 n k db aa av dv oa m oc ib ob l w':=by
 have lt:∀{r:Nat} {o:Obj},w.heap[r]? =some o→w'.heap[r]? =some o:=fun hr=>(hs _ (alt hr)).trans hr
 exact⟨Nat.le_trans h.size hsz,fun r hr=>(hs r (Nat.lt_of_lt_of_le hr h.size)).trans (h.old r hr),lt h.hdb,lt h.haa,lt h.hav,fun j hj=>lt (h.hib j hj),fun j hj=>lt (h.hob j hj),h.lo,h.new,ownsRow_same2 h.row fun b hb _=>hs b (h.row.lt b hb).2⟩
theorem own_doing_loop{w0:World}{tb o tl tc n db aa av:Nat}{dv:Value}(hntl:n≤tl)(hn64:n≤64){oa:Nat→Option Addr}{ol m oc:Nat→Nat}(htb:0<n→tb<w0.heap.size)(hth:∀j,j<n→w0.cell? ⟨tb,o+j,none⟩=some (.slice (oa j) (ol j) (oc j))∧w0.frozen? ⟨tb,o+j,none⟩=false∧ol j≤oc j∧min (ol j) 65536=m j){ta:Option Addr}(hta:0<n→ta=some ⟨tb,o,none⟩){c:Frame}{cs:List Frame}{Stop:Goroutine→World→Prop}
 (K:∀w' l ib ob,DI w0 n n db aa av dv oa m oc ib ob l w'→Own Try.prog true F0 Stop (G (c.finish (.tuple #[l,.slice (some ⟨aa,0,none⟩) n n])) cs) w'):
 ∀(q k:Nat),k+q=n→∀(w:World) (l:Value) (ib ob:Nat→Nat) (A:Array Value),DI w0 n k db aa av dv oa m oc ib ob l w→Slots 38 A [(0,.slice ta tl tc),(3,.pointer (some ⟨db,0,none⟩)),(6,.int .i64 n),(7,.pointer (some ⟨av,0,none⟩)),(8,l),(16,.int .i64 n),(17,.int .i64 k)]→
  Own Try.prog true F0 Stop (G ((Go.Conc.base 81).at ⟨A,[]⟩ [.code dis7,.inLoop dis7,.inBlock 0,.code dis12]) (c::cs)) w:=by
 intro q
 induction q with
 | zero=>
   intro k hk w l ib ob A hD hA
   obtain rfl:k=n:=by omega
   refine di_5 hA fun A2 hA2=>?_
   refine di_6 (x:=.slice (some ⟨aa,0,none⟩) k k) ⟨by simp[World.cell?,hD.hav],by simp[World.frozen?,hD.hav]⟩ hA2 ?_
   exact K w l ib ob hD
 | succ q ih=>
   intro k hk w l ib ob A hD hA
   have hkn:k<n:=by omega
   obtain rfl:=hta (by omega)
   obtain⟨t1,t2,t3,t4⟩:=hth k hkn
   have htl:=htb (by omega)
   have htb2:=hD.old tb htl
   have hsz0:=hD.size
   refine di_2 under_F0 (Nat.zero_le _) hkn hA fun A2 hA2=>?_
   have e1:∀r,r<w.heap.size→(w.alloc (.cells #[.int .i64 k] 3)).heap[r]? =w.heap[r]?:=fun r hr=>heap_alloc_lt _ _ hr
   have e2:=heap_alloc_new w (.cells #[.int .i64 k] 3)
   have e3:(w.alloc (.cells #[.int .i64 k] 3)).heap.size=w.heap.size+1:=by simp
   generalize w.alloc (.cells #[.int .i64 k] 3)=W1 at e1 e2 e3 ⊢
   refine ogSE dis11' ?_
   have htb3:W1.heap[tb]? =w0.heap[tb]?:=(e1 tb (by omega)).trans htb2
   refine di_3 (nn:=0) (m:=m k) under_F0 (by omega) t4 t3 ⟨Nat.zero_le _,by omega,by omega,by simp[World.cell?,e2],by simp[World.frozen?,e2],by rw[← t1];unfold World.cell?;simp only[htb3],by rw[← t2];unfold World.frozen?;simp only[htb3]⟩ hA2 fun A3 hA3=>?_
   have f1:∀r,r<W1.heap.size→(W1.alloc (.cells #[.slice (oa k) (m k) (oc k)] 34)).heap[r]? =W1.heap[r]?:=fun r hr=>heap_alloc_lt _ _ hr
   have f2:=heap_alloc_new W1 (.cells #[.slice (oa k) (m k) (oc k)] 34)
   have f3:(W1.alloc (.cells #[.slice (oa k) (m k) (oc k)] 34)).heap.size=W1.heap.size+1:=by simp
   generalize W1.alloc (.cells #[.slice (oa k) (m k) (oc k)] 34)=W2 at f1 f2 f3 ⊢
   have hD2:DI w0 n k db aa av dv oa m oc ib ob l W2:=hD.same (by omega) fun r hr=>(f1 r (by omega)).trans (e1 r hr)
   refine di_4 (base:=w0.heap.size) (by omega) (by omega) hD2.row hA3 fun w' l' A4 g1 g2 g3 hA4=>?_
   have hne:∀{r:Nat} {cc:Array Value} {t:TypeId},W2.heap[r]? =some (.cells cc t (0,0))→t≠112→w'.heap[r]? =some (.cells cc t (0,0)):=fun hr ht=>(g3 _ (alt hr) (own_type hD2.row hr (fun e=>ht e.symm))).trans hr
   have hold:∀r,r<w0.heap.size→w'.heap[r]? =w0.heap[r]?:=fun r hr=>(g3 r (by omega) (fun e=>by
    have:=(hD2.row.lt r e.symm).1;omega)).trans (hD2.old r hr)
   refine ih (k+1) (by omega) w' l' (fun j=>if j=k then w.heap.size else ib j) (fun j=>if j=k then W1.heap.size else ob j) A4 ⟨by omega,hold,hne hD2.hdb (by decide),hne hD2.haa (by decide),hne hD2.hav (by decide),fun j hj=>?_,fun j hj=>?_,fun j hj=>?_,hD.new,?_⟩ hA4
   ·by_cases e:j=k
    ·subst e
     simp only[if_true]
     exact hne ((f1 _ (by omega)).trans e2) (by decide)
    ·simp only[if_neg e]
     exact hne (hD2.hib j (by omega)) (by decide)
   ·by_cases e:j=k
    ·subst e
     simp only[if_true]
     exact hne f2 (by decide)
    ·simp only[if_neg e]
     exact hne (hD2.hob j (by omega)) (by decide)
   ·by_cases e:j=k
    ·subst e
     simp only[if_true]
     omega
    ·simp only[if_neg e]
     exact hD.lo j (by omega)
   ·have e5:((List.range (k+1)).map fun j=>cl68 (if j=k then W1.heap.size else ob j) db (if j=k then w.heap.size else ib j) av)=((List.range k).map fun j=>cl68 (ob j) db (ib j) av)++[cl68 W1.heap.size db w.heap.size av]:=by
     rw[List.range_succ,List.map_append]
     congr 1
     ·apply List.map_congr_left
      intro j hj
      have:j<k:=List.mem_range.1 hj
      simp only[if_neg (show ¬j=k by omega)]
     ·simp
    rw[e5]
    exact g1
theorem own_doing{tb o tl tc n df:Nat}{first capt:Array Value}(hn1:min tl 64=n){oa:Nat→Option Addr}{ol m oc:Nat→Nat}(htb:0<n→tb<w.heap.size)(hth:∀j,j<n→w.cell? ⟨tb,o+j,none⟩=some (.slice (oa j) (ol j) (oc j))∧w.frozen? ⟨tb,o+j,none⟩=false∧ol j≤oc j∧min (ol j) 65536=m j){ta:Option Addr}(hta:0<n→ta=some ⟨tb,o,none⟩){c:Frame}{cs:List Frame}{Stop:Goroutine→World→Prop}
 (K:∀w' l ib ob db aa av,DI w n n db aa av (.func (.func df) first capt) oa m oc ib ob l w'→Own Try.prog true F0 Stop (G (c.finish (.tuple #[l,.slice (some ⟨aa,0,none⟩) n n])) cs) w'):
 Own Try.prog true F0 Stop (G (Frame.enter Try.prog 81 #[.slice ta tl tc,.func (.func df) first capt] .normal) (c::cs)) w:=by
 refine di_0 under_F0 (Nat.zero_le _) hn1 fun A hA=>?_
 refine di_1 under_F0 (Nat.zero_le _) (by omega) hA fun A2 hA2=>?_
 have e1:∀r,r<w.heap.size→(((w.alloc (.cells #[.func (.func df) first capt] 98)).alloc (.cells (madeCells #[.slice none 0 0] n) 42)).alloc (.cells #[.slice (some ⟨(w.alloc (.cells #[.func (.func df) first capt] 98)).heap.size,0,none⟩) n n] 29)).heap[r]? =w.heap[r]?:=fun r hr=>by
  rw[heap_alloc_lt _ _ (by simp;omega),heap_alloc_lt _ _ (by simp;omega),heap_alloc_lt _ _ hr]
 refine own_doing_loop (w0:=w) (n:=n) (tl:=tl) (dv:=.func (.func df) first capt) (oa:=oa) (ol:=ol) (m:=m) (oc:=oc) (tb:=tb) (o:=o) (db:=w.heap.size) (aa:=w.heap.size+1) (av:=w.heap.size+2) (by omega) (by omega) htb hth hta (fun w' l ib ob hD=>K w' l ib ob _ _ _ hD) n 0 (by omega) _ (.slice none 0 0) (fun _=>0) (fun _=>0) A2 ⟨by simp;omega,e1,?_,?_,?_,fun j hj=>by omega,fun j hj=>by omega,fun j hj=>by omega,⟨by omega,by omega,by omega⟩,World.ownsRow_nil _ _ _ _⟩ (by simpa using hA2)
 ·rw[heap_alloc_lt _ _ (by simp;omega),heap_alloc_lt _ _ (by simp)]
  exact heap_alloc_new _ _
 ·have:=heap_alloc_new (w.alloc (.cells #[.func (.func df) first capt] 98)) (.cells (madeCells #[.slice none 0 0] n) 42)
  rw[heap_alloc_lt _ _ (by simp)]
  simpa using this
 ·have:=heap_alloc_new ((w.alloc (.cells #[.func (.func df) first capt] 98)).alloc (.cells (madeCells #[.slice none 0 0] n) 42)) (.cells #[.slice (some ⟨(w.alloc (.cells #[.func (.func df) first capt] 98)).heap.size,0,none⟩) n n] 29)
  simpa using this
end
noncomputable section
variable{F:Fz}{w:World}
theorem built29(a b c:Option Addr)(n m k l:Nat)(s:Bool):Try.prog.built 31 [(0,.slice a n m),(1,.slice b k l),(3,.bool s)]=some #[.slice a n m,.slice b k l,.slice none 0 0,.bool s]:=by kernel_rfl
@[go_sem] theorem run_build29(a b:Option Addr)(n m k l:Nat)(s:Bool)(w:World):(Instr.build 31 #[(0,.slice a n m),(1,.slice b k l),(3,.bool s)]).run Try.prog w= .ok (.agg #[.slice a n m,.slice b k l,.slice none 0 0,.bool s]) w:=run_build w _ _ _ (built29 a b a n m k l s)
@[go_sem] theorem ev_build29(a b:Option Addr)(n m k l:Nat)(s:Bool)(w:World)(es:Array Event):(Instr.build 31 #[(0,.slice a n m),(1,.slice b k l),(3,.bool s)]).events Try.prog w es=es:=ev_build w es _ _ _ _ Try.underlying31 (built29 a b a n m k l s)
def trW(w:World)(tb:Nat)(a b c d:Value):World:=(((w.setCell ⟨tb,0,none⟩ a).setCell ⟨tb,1,none⟩ b).setCell ⟨tb,2,none⟩ c).setCell ⟨tb,3,none⟩ d
structure TrAt(w:World)(tb:Nat)(a b c d:Value):Prop where
 o:w.heap[tb]? =some (.cells #[a,b,c,d] 31 (0,0))
section
variable{tb:Nat}{a b c d:Value}
theorem TrAt.at(h:TrAt w tb a b c d)(e:Nat):TrAt (w.at e) tb a b c d:=⟨h.o⟩
theorem TrAt.c0(h:TrAt w tb a b c d):w.cell? ⟨tb,0,none⟩=some a:=by simp[World.cell?,h.o]
theorem TrAt.c1(h:TrAt w tb a b c d):w.cell? ⟨tb,1,none⟩=some b:=by simp[World.cell?,h.o]
theorem TrAt.c2(h:TrAt w tb a b c d):w.cell? ⟨tb,2,none⟩=some c:=by simp[World.cell?,h.o]
theorem TrAt.c3(h:TrAt w tb a b c d):w.cell? ⟨tb,3,none⟩=some d:=by simp[World.cell?,h.o]
theorem TrAt.z(h:TrAt w tb a b c d)(k:Nat):w.frozen? ⟨tb,k,none⟩=false:=by simp[World.frozen?,h.o]
theorem TrAt.put(h:TrAt w tb a b c d)(a' b' c' d':Value):TrAt (trW w tb a' b' c' d') tb a' b' c' d':=by
 constructor
 unfold trW
 rw[heap_setCell_eq (heap_setCell_eq (heap_setCell_eq (heap_setCell_eq h.o _) _) _) _]
 rfl
end
def opBody:Code:=Try.f47.body.getD .skip
def ops0:=pC [] opBody
def opr0:=pC [zt] opBody
def ops1:=pC [zf] opBody
def opr1:=pC [zf,zt] opBody
def ops2:=pC [zf,zf] opBody
def opr2:=pC [zf,zf,zt] opBody
def ops3:=pC [zf,zf,zf] opBody
def opr3:=pC [zf,zf,zf,zt] opBody
theorem ops0':ops0= .seq opr0 ops1:=by kernel_rfl
theorem opr0':opr0= .region 0 (oC opr0) false:=by kernel_rfl
theorem ops1':ops1= .seq opr1 ops2:=by kernel_rfl
theorem opr1':opr1= .region 1 (oC opr1) false:=by kernel_rfl
theorem ops2':ops2= .seq opr2 ops3:=by kernel_rfl
theorem opr2':opr2= .region 2 (oC opr2) false:=by kernel_rfl
theorem ops3':ops3= .seq opr3 .ret:=by kernel_rfl
theorem opr3':opr3= .region 3 (oC opr3) false:=by kernel_rfl
theorem enter_op(args:Array Value):Frame.enter Try.prog 47 args .normal=(Go.Conc.base 47).at {tmps:=args++Array.replicate (32 - args.size) undef,defers:=[]} [.code ops0]:=enter_at args Try.func47 rfl
theorem callable47:Callable 47:=callable Try.func47 rfl rfl
def opT(s:Nat→Value):Array Value:= #[s 0,s 1,s 2,s 3,s 4,s 5,s 6,s 7,s 8,s 9,s 10,s 11,s 12,s 13,s 14,s 15,s 16,s 17,s 18,s 19,s 20,s 21,s 22,s 23,s 24,s 25,s 26,s 27,s 28,s 29,s 30,s 31]
theorem opT_of{A:Array Value}(h:A.size=32):∃s,A=opT s:=by
 obtain⟨s,hs,_⟩:=arr_lit A h
 exact⟨s,hs⟩
theorem op_0{n:Nat}(hU:Under F n)(hn:n≤w.heap.size){ta sa:Option Addr}{tl tc sl sc:Nat}{dv:Value}{mo:Int}{cs:List Frame}{main:Bool}{Stop:Goroutine→World→Prop}
 (h:∀A,Slots 32 A [(0,.slice ta tl tc),(1,dv),(2,.slice sa sl sc),(3,.int .i64 mo),(8,.pointer (some ⟨w.heap.size,0,none⟩))]→Own Try.prog main F Stop (G (Frame.enter Try.prog 81 #[.slice ta tl tc,dv] .normal) (((Go.Conc.base 47).at ⟨A,[]⟩ [.inRegion (oC opr1) [2,3,4,5,6,7],.code ops2])::cs)) (w.alloc (.cells #[.slice none 0 0,.slice none 0 0,.slice none 0 0,.bool false] 31))):
 Own Try.prog main F Stop (G (Frame.enter Try.prog 47 #[.slice ta tl tc,dv,.slice sa sl sc,.int .i64 mo] .normal) cs) w:=by
 rw[enter_op]
 walk_nrm
 refine ogSR ops0' opr0' ?_
 simp only[opr0,opBody,Try.f47,zz,Nat.reduceAdd]
 (refine oW fun dd K hK=>?_;go_simp;refine qA hK hU ?_;clear hK K)
 refine ogE ?_
 refine ogSR ops1' opr1' ?_
 simp only[opr1,opBody,Try.f47,zz,Nat.reduceAdd]
 iterate 2 (refine oW fun dd K hK=>?_;go_simp;refine qT hK ?_;clear hK K)
 refine oc callable81 #[.slice ta tl tc,dv] ?_
 refine h _ ?_
 exact⟨rfl,rfl,rfl,rfl,rfl,rfl,trivial⟩
theorem op_1{ta sa:Option Addr}{tl tc sl sc tb:Nat}{dv l an:Value}{mo:Int}{A:Array Value}(hA:Slots 32 A [(0,.slice ta tl tc),(1,dv),(2,.slice sa sl sc),(3,.int .i64 mo),(8,.pointer (some ⟨tb,0,none⟩))]){cs:List Frame}{main:Bool}{Stop:Goroutine→World→Prop}
 (h:∀A,Slots 32 A [(8,.pointer (some ⟨tb,0,none⟩)),(10,an)]→Own Try.prog main F Stop (G (Frame.enter Try.prog 82 #[l,.slice sa sl sc,.int .i64 mo] .normal) (((Go.Conc.base 47).at ⟨A,[]⟩ [.inRegion (oC opr2) [3,4,5,6,7,8,9,10],.code ops3])::cs)) w):
 Own Try.prog main F Stop (G (((Go.Conc.base 47).at ⟨A,[]⟩ [.inRegion (oC opr1) [2,3,4,5,6,7],.code ops2]).finish (.tuple #[l,an])) cs) w:=by
 obtain⟨hsz,h0,h1,h2,h3,h8,_⟩:=hA
 obtain⟨s,rfl⟩:=opT_of hsz
 change s 0=_ at h0
 change s 1=_ at h1
 change s 2=_ at h2
 change s 3=_ at h3
 change s 8=_ at h8
 clear hsz
 simp only[opT,h0,h1,h2,h3,h8]
 clear h0 h1 h2 h3 h8
 rw[Frame.finish_at]
 simp only[opr1,opBody,Try.f47,zz,Nat.reduceAdd]
 walk_nrm
 iterate 5 (refine oW fun dd K hK=>?_;go_simp;refine qT hK ?_;clear hK K)
 refine ogE ?_
 refine ogSR ops2' opr2' ?_
 simp only[opr2,opBody,Try.f47,zz,Nat.reduceAdd]
 iterate 3 (refine oW fun dd K hK=>?_;go_simp;refine qT hK ?_;clear hK K)
 refine oc callable82 #[l,.slice sa sl sc,.int .i64 mo] ?_
 refine h _ ?_
 exact⟨rfl,rfl,rfl,trivial⟩
theorem op_2{tb:Nat}{x0 x1 x2 x3:Value}(hT:TrAt w tb x0 x1 x2 x3)(hnh:∀k,¬held F ⟨tb,k,none⟩){aa oa:Option Addr}{al ac ol oc:Nat}{st:Bool}{bv:Value}{A:Array Value}(hA:Slots 32 A [(8,.pointer (some ⟨tb,0,none⟩)),(10,.slice aa al ac)]){c:Frame}{cs:List Frame}{main:Bool}{Stop:Goroutine→World→Prop}
 (h:Own Try.prog main F Stop (G (c.finish (.agg #[.slice aa al ac,.slice oa ol oc,.slice none 0 0,.bool st])) cs) (trW w tb (.slice aa al ac) (.slice oa ol oc) (.slice none 0 0) (.bool st))):
 Own Try.prog main F Stop (G (((Go.Conc.base 47).at ⟨A,[]⟩ [.inRegion (oC opr2) [3,4,5,6,7,8,9,10],.code ops3]).finish (.tuple #[.slice oa ol oc,.bool st,bv])) (c::cs)) w:=by
 obtain⟨hsz,h8,h10,_⟩:=hA
 obtain⟨s,rfl⟩:=opT_of hsz
 change s 8=_ at h8
 change s 10=_ at h10
 clear hsz
 simp only[opT,h8,h10]
 clear h8 h10
 rw[Frame.finish_at]
 simp only[opr2,opBody,Try.f47,zz,Nat.reduceAdd]
 walk_nrm
 iterate 7 (refine oW fun dd K hK=>?_;go_simp;refine qT hK ?_;clear hK K)
 refine ogE ?_
 refine ogSR ops3' opr3' ?_
 simp only[opr3,opBody,Try.f47,zz,Nat.reduceAdd]
 iterate 4 (refine oW fun dd K hK=>?_;go_simp;refine qT hK ?_;clear hK K)
 (refine oW fun dd K hK=>?_;have hc0:=(hT.at dd).c0;have hc1:=(hT.at dd).c1;have hc2:=(hT.at dd).c2;have hc3:=(hT.at dd).c3;have hz0:=(hT.at dd).z;go_simp;refine hK _ _ ⟨⟨⟨0,grew4 (fun k=>hnh k) _ _ _ _⟩,fun e he=>by(have hm:=mem_listed he;clear he hK;simp[go_sem,storedEv,hc0,hc1,hc2,hc3,hz0]at hm;rcases hm with rfl|rfl|rfl|rfl<;>exact evT_write _ _ ((fun k=>hnh k) _))⟩,?_⟩;clear hK K hc0 hc1 hc2 hc3 hz0;simp only[setCell_at'];refine Own.at ?_ dd)
 refine ogE ?_
 refine ogX ?_
 have hT2:=hT.put (.slice aa al ac) (.slice oa ol oc) (.slice none 0 0) (.bool st)
 change Own _ _ _ _ _ (trW w tb (.slice aa al ac) (.slice oa ol oc) (.slice none 0 0) (.bool st))
 generalize trW w tb (.slice aa al ac) (.slice oa ol oc) (.slice none 0 0) (.bool st)=W at hT2 h ⊢
 have hc0:=hT2.c0
 have hc1:=hT2.c1
 have hc2:=hT2.c2
 have hc3:=hT2.c3
 have hz0:=hT2.z
 refine own_leave (fn:=Try.f47) (v:=.agg #[.slice aa al ac,.slice oa ol oc,.slice none 0 0,.bool st]) rfl rfl Try.func47 (fun d=>by simp[results,Try.f47,go_sem,hc0,hc1,hc2,hc3,hz0]) (fun d e he=>by simp[results,Try.f47,go_sem,hc0,hc1,hc2,hc3,hz0]at he;rcases he with rfl|rfl|rfl|rfl<;>exact evT_read _ _) ?_
 exact h
end
noncomputable section
variable{w w':World}{L:Lay}
open Classical in
def IW(w:World)(N:Nat→Prop):Nat→Option Obj:=fun r=>if N r then none else match w.heap[r]? with
 | some (.cells c e z)=>some (.cells c e z)
 | _=>none
theorem iw_mem{N:Nat→Prop}{r:Nat}(h:N r):IW w N r=none:=if_pos h
theorem iw_cells{N:Nat→Prop}{r:Nat}{c:Array Value}{e:TypeId}{z:Nat×Nat}(h:¬N r)(ho:w.heap[r]? =some (.cells c e z)):IW w N r=some (.cells c e z):=by
 unfold IW
 rw[if_neg h,ho]
theorem iw_some{N:Nat→Prop}{r:Nat}{o:Obj}(h:IW w N r=some o):¬N r∧w.heap[r]? =some o∧∃c e z,o= .cells c e z:=by
 unfold IW at h
 split at h
 ·cases h
 ·rename_i hm
  split at h
  ·rename_i c e z ho
   cases h
   exact⟨hm,ho,c,e,z,rfl⟩
  ·cases h
theorem madeCells_nil(n j:Nat)(h:j<n):(madeCells #[Value.slice none 0 0] n)[j]? =some (.slice none 0 0):=by
 simp[madeCells,h,Nat.mod_one]
theorem madeCells_size(n:Nat)(v:Value):(madeCells #[v] n).size=n:=by
 simp[madeCells]
def x00(s0:L.S):OX L:=⟨s0,fun _=>⟨0,none,[],.slice none 0 0⟩⟩
theorem tr00{r:Nat}:¬TR (⟨0,none,[],.slice none 0 0⟩:Thr L) r:=by
 rintro(h|⟨a,ha,_⟩|⟨c,A,ab,h,_⟩)
 ·cases h
 ·cases ha
 ·cases h
def pOf(L:Lay)(s0:L.S)(W:World)(n db aa av:Nat)(ib ob:Nat→Nat)(oa:Nat→Option Addr)(oc:Nat→Nat)(ops:Nat→List Op4):Par:=
 ⟨n,aa,av,db,ib,ob,ops,oa,oc,IW W (fun r=>r=aa∨L.SR s0 r)⟩
theorem pof_cells{s0:L.S}{W:World}{n db aa av:Nat}{ib ob:Nat→Nat}{oa:Nat→Option Addr}{oc:Nat→Nat}{ops:Nat→List Op4}{r:Nat}{c:Array Value}{e:TypeId}{z:Nat×Nat}(h:¬(r=aa∨L.SR s0 r))(ho:W.heap[r]? =some (.cells c e z)):(pOf L s0 W n db aa av ib ob oa oc ops).I r=some (.cells c e z):=by
 exact iw_cells (w:=W) (N:=fun r=>r=aa∨L.SR s0 r) h ho
theorem pof_some{s0:L.S}{W:World}{n db aa av:Nat}{ib ob:Nat→Nat}{oa:Nat→Option Addr}{oc:Nat→Nat}{ops:Nat→List Op4}{r:Nat}{o:Obj}(h:(pOf L s0 W n db aa av ib ob oa oc ops).I r=some o):¬(r=aa∨L.SR s0 r)∧W.heap[r]? =some o∧∃c e z,o= .cells c e z:=by
 exact iw_some (w:=W) (N:=fun r=>r=aa∨L.SR s0 r) h
theorem pof_mem{s0:L.S}{W:World}{n db aa av:Nat}{ib ob:Nat→Nat}{oa:Nat→Option Addr}{oc:Nat→Nat}{ops:Nat→List Op4}{r:Nat}(h:r=aa∨L.SR s0 r):(pOf L s0 W n db aa av ib ob oa oc ops).I r=none:=by
 exact iw_mem (w:=W) (N:=fun r=>r=aa∨L.SR s0 r) h
section
variable{s0:L.S}{W w0:World}{n db aa av tb o tl:Nat}{ib ob:Nat→Nat}{oa:Nat→Option Addr}{ol oc m:Nat→Nat}{ops:Nat→List Op4}{ta sa:Option Addr}{S:List Int}{l:Value}
theorem di_type{dv:Value}(hL:L.Ok)(hsu:L.SU s0 w0)(hD:DI w0 n n db aa av dv oa m oc ib ob l W){r:Nat}{c:Array Value}{e:TypeId}{z:Nat×Nat}(ho:W.heap[r]? =some (.cells c e z))(h84:e≠42)(hr:w0.heap.size≤r):¬(r=aa∨L.SR s0 r):=by
 rintro(rfl|h)
 ·rw[hD.haa]at ho
  cases ho
  exact h84 rfl
 ·have:=hL.lS _ _ _ hsu h
  omega
theorem pof_ok(hL:L.Ok)(hsu:L.SU s0 w0)(hI:OpsIn w0 (L.SR s0) n tb o tl ta oa ol oc ops S sa)(hD:DI w0 n n db aa av (.func (.func L.df) L.first L.capt) oa (fun j=>(ops j).length) oc ib ob l W):(pOf L s0 W n db aa av ib ob oa oc ops).Ok L where
 cells:=fun r o h=>(pof_some h).2.2
 len:=fun i hi=>by
  have:(ops i).length=min (ol i) 65536:=hI.hlen i hi
  show(ops i).length≤65536
  omega
 inI:=⟨by
  show(pOf L s0 W n db aa av ib ob oa oc ops).I av≠none
  rw[pof_cells (di_type hL hsu hD hD.hav (by decide) hD.new.2.2) hD.hav];simp,fun i hi=>by
  show(pOf L s0 W n db aa av ib ob oa oc ops).I (ib i)≠none
  rw[pof_cells (di_type hL hsu hD (hD.hib i hi) (by decide) (hD.lo i hi).1) (hD.hib i hi)];simp⟩
 av:=fun u hu=>⟨⟨_,_,hu _ _ (pof_cells (di_type hL hsu hD hD.hav (by decide) hD.new.2.2) hD.hav),rfl⟩,rfl⟩
 db:=fun u hu=>⟨⟨_,_,hu _ _ (pof_cells (di_type hL hsu hD hD.hdb (by decide) hD.new.1) hD.hdb),rfl⟩,rfl⟩
 ib:=fun u hu i hi=>⟨⟨_,_,hu _ _ (pof_cells (di_type hL hsu hD (hD.hib i hi) (by decide) (hD.lo i hi).1) (hD.hib i hi)),rfl⟩,rfl⟩
 ob:=fun u hu i hi=>⟨⟨_,_,hu _ _ (pof_cells (di_type hL hsu hD (hD.hob i hi) (by decide) (hD.lo i hi).2) (hD.hob i hi)),rfl⟩,rfl⟩
 op:=fun u hu i hi k x hx=>by
  obtain⟨opb,oo,h1,h2,f0,f1,f2,f3,g0,g1,g2,g3⟩:=hI.hop i hi k x hx
  obtain⟨c,e,z,ho⟩:=cell_block f0
  simp only at ho
  have hlt:=(alt ho)
  have hW:=(hD.old opb hlt).trans ho
  have hN:¬(opb=aa∨L.SR s0 opb):=by
   rintro(h|h)
   ·have:=hD.new.2.1;omega
   ·exact h2 h
  have hU:=hu _ _ (pof_cells hN hW)
  have e1:u.heap[opb]? =w0.heap[opb]?:=hU.trans ho.symm
  have ec:∀k,u.cell? ⟨opb,k,none⟩=w0.cell? ⟨opb,k,none⟩:=fun k=>by unfold World.cell?;simp only[e1]
  have ez:∀k,u.frozen? ⟨opb,k,none⟩=w0.frozen? ⟨opb,k,none⟩:=fun k=>by unfold World.frozen?;simp only[e1]
  exact⟨opb,oo,h1,(ec _).trans f0,(ec _).trans f1,(ec _).trans f2,(ec _).trans f3,(ez _).trans g0,(ez _).trans g1,(ez _).trans g2,(ez _).trans g3⟩
theorem ou_first{g:Gate}(hL:L.Ok)(hsu:L.SU s0 w0)(hD:DI w0 n n db aa av (.func (.func L.df) L.first L.capt) oa (fun j=>(ops j).length) oc ib ob l W):OU L (pOf L s0 W n db aa av ib ob oa oc ops) g (x00 s0) W where
 fix:=fun r o h=>(pof_some h).2.1
 su:=hL.sS _ _ _ hsu hD.size fun r hr=>hD.old r (hL.lS _ _ _ hsu hr)
 arr:=⟨_,hD.haa,madeCells_size _ _,fun i hi=>madeCells_nil _ _ hi⟩
 thr:=fun i hi=>⟨World.ownsRow_nil _ _ _ _,fun a ha=>(by cases ha),rfl,Nat.zero_le _,fun a ha=>(by cases ha),fun c A ab h=>(by cases h)⟩
 ts:=fun i hi r hr=>absurd hr tr00
 sa:=fun h=>by
  have:=hL.lS _ _ _ hsu h
  have h2:=hD.new.2.1
  show False
  have h3:(pOf L s0 W n db aa av ib ob oa oc ops).aa=aa:=rfl
  omega
 jj:=fun i hi c A ab h=>(by cases h)
 tt:=fun i j hi hj hne r hr=>absurd hr tr00
 inone:=by
  rintro r (h|h|⟨i,hi,h⟩)
  ·exact pof_mem (.inr h)
  ·exact pof_mem (.inl h)
  ·exact absurd h tr00
end
end
section
variable{An:Anchor}{w w':World}{L:Lay}
theorem OpsIn.alloc{N:Nat→Prop}{n tb o tl:Nat}{ta:Option Addr}{oa:Nat→Option Addr}{ol oc:Nat→Nat}{ops:Nat→List Op4}{S:List Int}{sa:Option Addr}(h:OpsIn w N n tb o tl ta oa ol oc ops S sa)(ob:Obj):OpsIn (w.alloc ob) N n tb o tl ta oa ol oc ops S sa:=by
 refine⟨h.hn,h.hta,fun hp=>by have:=h.htb hp;simp;omega,fun j hj=>?_,h.hlen,fun j hj k x hx=>?_,h.hsl,fun hp=>?_⟩
 ·obtain⟨h1,h2,h3⟩:=h.hth j hj
  exact⟨(cellB_alloc h1 ob).1,(cellB_alloc h1 ob).2.trans h2,h3⟩
 ·obtain⟨opb,oo,h1,h2,f0,f1,f2,f3,g0,g1,g2,g3⟩:=h.hop j hj k x hx
  exact⟨opb,oo,h1,h2,(cellB_alloc f0 ob).1,(cellB_alloc f1 ob).1,(cellB_alloc f2 ob).1,(cellB_alloc f3 ob).1,(cellB_alloc f0 ob).2.trans g0,(cellB_alloc f1 ob).2.trans g1,(cellB_alloc f2 ob).2.trans g2,(cellB_alloc f3 ob).2.trans g3⟩
 ·obtain⟨sb,so,c,e,z,h1,h2,h3,h4⟩:=h.hS hp
  exact⟨sb,so,c,e,z,h1,h2,(heap_alloc_lt _ _ (alt h3)).trans h3,h4⟩
def Par.re(p:Par)(I:Nat→Option Obj):Par:=⟨p.n,p.aa,p.av,p.db,p.ib,p.ob,p.ops,p.oa,p.oc,I⟩
theorem ThrU.re{p:Par}{I:Nat→Option Obj}{st i:Nat}{t:Thr L}(h:ThrU L p st i t w):ThrU L (p.re I) st i t w:=⟨h.row,h.au,h.al,h.kl,h.ar,h.call⟩
theorem OU.re{p:Par}{g:Gate}{x:OX L}(h:OU L p g x w){I:Nat→Option Obj}(hI:∀r o,I r=some o→p.I r=some o):OU L (p.re I) g x w:=
 ⟨fun r o e=>h.fix r o (hI r o e),h.su,h.arr,fun i hi=>(h.thr i hi).re,h.ts,h.sa,h.jj,h.tt,fun r hr=>by
  cases e:I r with
  | none=>exact e
  | some o=>
    have:=h.inone r hr
    rw[hI r o e]at this
    cases this⟩
theorem bes_ops2(hL:L.Ok){s0:L.S}(hsu:L.SU s0 w){n tb o tl tc sc M:Nat}{mo:Int}{ta sa:Option Addr}{oa:Nat→Option Addr}{ol oc:Nat→Nat}{ops:Nat→List Op4}{S:List Int}(hI:OpsIn w (L.SR s0) n tb o tl ta oa ol oc ops S sa)(hM:min (max mo 0) 1048576=(M:Int)){c:Frame}{cs:List Frame}{Stop:Goroutine→World→Prop}
 (hk:∀(g:Gate) (p p':Par) (t:OX L×List Nat) (w':World) (oa':Option Addr) (oc':Nat),g.n=n→p.n=n→p.ops=ops→(opsUsers L p g).Ok g→OverRel (opsUsers L p g) n M S (x00 s0) t→p'.n=n→p'.ops=ops→p'.aa=p.aa→OU L p' g t.1 w'→
   w'.ownsRow w.heap.size 3 1 (.slice oa' t.2.length oc') t.2.length (t.2.map fun i:Nat=>Value.int .i64 i)→(∀y,oa'=some y→¬OR L p' t.1 y.block)→w.heap.size≤w'.heap.size→(∀r c e z,w.heap[r]? =some (.cells c e z)→¬L.SR s0 r→w'.heap[r]? =some (.cells c e z))→(∀r c e z,w.heap[r]? =some (.cells c e z)→¬L.SR s0 r→p'.I r≠none)→
   Bes An Try.prog Stop (G (c.finish (.agg #[.slice (some ⟨p.aa,0,none⟩) n n,.slice oa' t.2.length oc',.slice none 0 0,.bool (decide (0<cnt ((opsUsers L p g).liv t.1) n))])) cs) w'):
 Bes An Try.prog Stop (G (Frame.enter Try.prog 47 #[.slice ta tl tc,.func (.func L.df) L.first L.capt,.slice sa S.length sc,.int .i64 mo] .normal) (c::cs)) w:=by
 have hw0:∀r,r<w.heap.size→(w.alloc (.cells #[.slice none 0 0,.slice none 0 0,.slice none 0 0,.bool false] 31)).heap[r]? =w.heap[r]?:=fun r hr=>heap_alloc_lt _ _ hr
 have hs0:(w.alloc (.cells #[.slice none 0 0,.slice none 0 0,.slice none 0 0,.bool false] 31)).heap.size=w.heap.size+1:=by simp
 have htr:TrAt (w.alloc (.cells #[.slice none 0 0,.slice none 0 0,.slice none 0 0,.bool false] 31)) w.heap.size (.slice none 0 0) (.slice none 0 0) (.slice none 0 0) (.bool false):=⟨heap_alloc_new _ _⟩
 have hI0:=hI.alloc (.cells #[.slice none 0 0,.slice none 0 0,.slice none 0 0,.bool false] 31)
 refine bes_own (F:=F0) (Stop:=fun a u=>∃A l ib ob db aa av,a=G (Frame.enter Try.prog 82 #[l,.slice sa S.length sc,.int .i64 mo] .normal) (((Go.Conc.base 47).at ⟨A,[]⟩ [.inRegion (oC opr2) [3,4,5,6,7,8,9,10],.code ops3])::c::cs)∧
  DI (w.alloc (.cells #[.slice none 0 0,.slice none 0 0,.slice none 0 0,.bool false] 31)) n n db aa av (.func (.func L.df) L.first L.capt) oa (fun j=>(ops j).length) oc ib ob l u∧Slots 32 A [(8,.pointer (some ⟨w.heap.size,0,none⟩)),(10,.slice (some ⟨aa,0,none⟩) n n)])
  (op_0 under_F0 (Nat.zero_le _) fun A hA=>own_doing hI0.hn hI0.htb (fun j hj=>⟨(hI0.hth j hj).1,(hI0.hth j hj).2.1,(hI0.hth j hj).2.2,(hI0.hlen j hj).symm⟩) hI0.hta fun w1 l ib ob db aa av hD=>op_1 hA fun A2 hA2=>.stop fun d=>⟨A2,l,ib,ob,db,aa,av,rfl,hD.same (Nat.le_refl _) fun _ _=>rfl,hA2⟩) fun a W hS=>?_
 obtain⟨A,l,ib,ob,db,aa,av,rfl,hD,hA⟩:=hS
 generalize w.alloc (.cells #[.slice none 0 0,.slice none 0 0,.slice none 0 0,.bool false] 31)=w0 at hw0 hs0 htr hI0 hD
 have hsu0:L.SU s0 w0:=hL.sS _ _ _ hsu (by omega) fun r hr=>hw0 r (hL.lS _ _ _ hsu hr)
 have hpok:=pof_ok hL hsu0 hI0 hD
 have hn64:n≤64:=by have:=hI.hn;omega
 have hU1:∀g,OU L (pOf L s0 W n db aa av ib ob oa oc ops) g (x00 s0) W:=fun g=>ou_first hL hsu0 hD
 have hsrlt:∀r,L.SR s0 r→r<w.heap.size:=fun r hr=>hL.lS _ _ _ hsu hr
 have hDs:=hD.size
 have hDn:=hD.new
 obtain⟨la,lc,rfl,hla⟩:∃la lc,l= .slice la n lc∧(0<n→∃lb cur,la=some ⟨lb,0,none⟩∧w0.heap.size≤lb∧W.heap[lb]? =some (.cells cur 112 (0,0))∧cur.toList.take n=(List.range n).map fun j=>cl68 (ob j) db (ib j) av):=by
  rcases hD.row.2 with⟨h1,h2⟩|⟨b,cap,cur,h1,h2,h3,h4,h5,h6,h7⟩
  ·exact⟨none,0,by rw[h1,h2],fun h=>by omega⟩
  ·exact⟨_,cap,h1,fun _=>⟨b,cur,rfl,h2,h3,by simpa using h7⟩⟩
 have hnm:∀r c e z,W.heap[r]? =some (.cells c e z)→e≠42→¬L.SR s0 r→(pOf L s0 W n db aa av ib ob oa oc ops).I r=some (.cells c e z):=fun r c e z h1 h2 h3=>pof_cells (by
  rintro(rfl|h)
  ·rw[hD.haa]at h1
   cases h1
   exact h2 rfl
  ·exact h3 h) h1
 have hnA:∀r c e z,W.heap[r]? =some (.cells c e z)→r≠aa→¬L.SR s0 r→(pOf L s0 W n db aa av ib ob oa oc ops).I r=some (.cells c e z):=fun r c e z h1 h2 h3=>pof_cells (fun h=>h.elim h2 h3) h1
 have hnewS:∀r,w0.heap.size≤r→¬L.SR s0 r:=fun r hr h=>by have:=hsrlt r h;omega
 have hthr:∃lb,(0<n→la=some ⟨lb,0,none⟩)∧∀g:Gate,RowIs (opsUsers L (pOf L s0 W n db aa av ib ob oa oc ops) g) lb 0 ((List.range n).map fun j=>.func (.func 99) #[] ((opsUsers L (pOf L s0 W n db aa av ib ob oa oc ops) g).cap j)):=by
  by_cases h0:0<n
  ·obtain⟨lb,cur,h1,h2,h3,h4⟩:=hla h0
   refine⟨lb,fun _=>h1,fun g=>⟨cur,112,(0,0),hnm lb _ _ _ h3 (by decide) (hnewS lb h2),fun k u hku=>⟨?_,by simp⟩⟩⟩
   have hku:((List.range n).map fun j=>cl68 (ob j) db (ib j) av)[k]? =some u:=hku
   rw[← h4]at hku
   have hkn:k<n:=by
    have:=(List.getElem?_eq_some_iff.1 hku).1
    rw[List.length_take]at this
    omega
   rw[List.getElem?_take_of_lt hkn]at hku
   simpa using hku
  ·refine⟨av,fun h=>absurd h h0,fun g=>⟨_,_,_,hnm av _ _ _ hD.hav (by decide) (hnewS av hDn.2.2),fun k u hku=>?_⟩⟩
   have:n=0:=by omega
   rw[this]at hku
   simp at hku
 obtain⟨lb,hlb,hrow⟩:=hthr
 have hsch:∃sb so,(0<S.length→sa=some ⟨sb,so,none⟩)∧∀g:Gate,RowIs (opsUsers L (pOf L s0 W n db aa av ib ob oa oc ops) g) sb so (S.map fun i:Int=>Value.int .i64 i):=by
  by_cases h0:0<S.length
  ·obtain⟨sb,so,cc,e,z,h1,h2,h3,h4⟩:=hI0.hS h0
   have hlt:=(alt h3)
   refine⟨sb,so,fun _=>h1,fun g=>⟨cc,e,z,hnA sb _ _ _ ((hD.old sb hlt).trans h3) (by omega) h2,h4⟩⟩
  ·refine⟨av,0,fun h=>absurd h h0,fun g=>⟨_,_,_,hnm av _ _ _ hD.hav (by decide) (hnewS av hDn.2.2),fun k u hku=>?_⟩⟩
   have:S=[]:=List.length_eq_zero_iff.1 (by omega)
   rw[this]at hku
   simp at hku
 obtain⟨sb,so,hsb,hsrow⟩:=hsch
 have htrI:(pOf L s0 W n db aa av ib ob oa oc ops).I w.heap.size=some (.cells #[.slice none 0 0,.slice none 0 0,.slice none 0 0,.bool false] 31 (0,0)):=
  hnm _ _ _ _ ((hD.old _ (by omega)).trans htr.o) (by decide) fun h=>by have:=hsrlt _ h;omega
 refine bes_over (Z:=fun g=>opsUsers L (pOf L s0 W n db aa av ib ob oa oc ops) g) (x0:=fun g=>x00 s0) (tb:=lb) (so:=so) (sb:=sb) hn64 hM hI.hsl (fun g hg _=>ops_ok hL hpok hg) (fun g w2 _ h1 h2=>OU.stable hL (hU1 g) h1 fun r hr=>?_) (fun g hg j hj=>⟨rfl,rfl⟩) (fun g r hr=>OU.low (g:=g) hL (hU1 g) hr) (fun g r hr=>⟨fixed_lt (p:=pOf L s0 W n db aa av ib ob oa oc ops) (hU1 g).fix hr,fun h=>hr ((hU1 g).inone r h)⟩) hlb (fun g _=>hrow g) hsb (fun g _=>hsrow g) ?_
 ·have hlt:r<W.heap.size:=hr.elim (OU.low hL (hU1 g)) (fixed_lt (hU1 g).fix)
  rw[h2 r _ (Array.getElem?_eq_getElem hlt),Array.getElem?_eq_getElem hlt]
 ·intro g t u oa' oc' bv hg hrel hU hord hnR hsz
  have hU:OU L (pOf L s0 W n db aa av ib ob oa oc ops) g t.1 u:=hU
  have hT:TrAt u w.heap.size (.slice none 0 0) (.slice none 0 0) (.slice none 0 0) (.bool false):=⟨hU.fix _ _ htrI⟩
  refine bes_own (F:=F0) (Stop:=fun a u2=>a=G (c.finish (.agg #[.slice (some ⟨aa,0,none⟩) n n,.slice oa' t.2.length oc',.slice none 0 0,.bool (decide (0<cnt ((opsUsers L (pOf L s0 W n db aa av ib ob oa oc ops) g).liv t.1) n))])) cs∧∃d,u2=(trW u w.heap.size (.slice (some ⟨aa,0,none⟩) n n) (.slice oa' t.2.length oc') (.slice none 0 0) (.bool (decide (0<cnt ((opsUsers L (pOf L s0 W n db aa av ib ob oa oc ops) g).liv t.1) n)))).at d)
   (op_2 hT (fun k h=>by obtain⟨z,hz,_⟩:=h;cases hz) hA (.stop fun d=>⟨rfl,d,rfl⟩)) fun a u2 ⟨ha,d,hu2⟩=>?_
  subst ha
  subst hu2
  have hne:∀r,r≠w.heap.size→((trW u w.heap.size (.slice (some ⟨aa,0,none⟩) n n) (.slice oa' t.2.length oc') (.slice none 0 0) (.bool (decide (0<cnt ((opsUsers L (pOf L s0 W n db aa av ib ob oa oc ops) g).liv t.1) n)))).at d).heap[r]? =u.heap[r]?:=fun r hr=>by
   show(trW _ _ _ _ _ _).heap[r]? =_
   unfold trW
   rw[heap_setCell_ne _ _ _ hr,heap_setCell_ne _ _ _ hr,heap_setCell_ne _ _ _ hr,heap_setCell_ne _ _ _ hr]
  have hsz2:((trW u w.heap.size (.slice (some ⟨aa,0,none⟩) n n) (.slice oa' t.2.length oc') (.slice none 0 0) (.bool (decide (0<cnt ((opsUsers L (pOf L s0 W n db aa av ib ob oa oc ops) g).liv t.1) n)))).at d).heap.size=u.heap.size:=by
   show(trW _ _ _ _ _ _).heap.size=_
   unfold trW
   simp
  generalize (trW u w.heap.size (.slice (some ⟨aa,0,none⟩) n n) (.slice oa' t.2.length oc') (.slice none 0 0) (.bool (decide (0<cnt ((opsUsers L (pOf L s0 W n db aa av ib ob oa oc ops) g).liv t.1) n)))).at d=V at hne hsz2 ⊢
  let I':Nat→Option Obj:=fun r=>if r=w.heap.size then none else(pOf L s0 W n db aa av ib ob oa oc ops).I r
  have hI':∀r o,I' r=some o→r≠w.heap.size∧(pOf L s0 W n db aa av ib ob oa oc ops).I r=some o:=fun r o h=>by
   by_cases e:r=w.heap.size
   ·simp[I',e]at h
   ·exact⟨e,by simpa [I',e]using h⟩
  have htrR:¬OR L (pOf L s0 W n db aa av ib ob oa oc ops) t.1 w.heap.size:=fun h=>by
   have:=hU.inone _ h
   rw[htrI]at this
   cases this
  have hU2:OU L ((pOf L s0 W n db aa av ib ob oa oc ops).re I') g t.1 u:=hU.re fun r o h=>(hI' r o h).2
  refine hk g (pOf L s0 W n db aa av ib ob oa oc ops) ((pOf L s0 W n db aa av ib ob oa oc ops).re I') t V oa' oc' hg rfl rfl (ops_ok hL hpok hg) hrel rfl rfl rfl (hU2.stable hL (by omega) fun r hr=>hne r ?_) ?_ hnR (by omega) (fun r cc e z hr hnS=>?_) fun r cc e z hr hnS=>?_
  ·rintro rfl
   rcases hr with hr|hr
   ·exact htrR hr
   ·cases e:I' w.heap.size with
    | none=>exact hr e
    | some o=>exact(hI' _ _ e).1 rfl
  ·refine ownsRow_mono_base (by omega) (ownsRow_same2 hord fun b hb hbn=>hne b (by omega))
  ·have hlt:=(alt hr)
   rw[hne r (by omega)]
   exact hU.fix _ _ (hnA r _ _ _ ((hD.old r (by omega)).trans ((hw0 r hlt).trans hr)) (by omega) hnS)
  ·have hlt:=(alt hr)
   have h1:=hnA r _ _ _ ((hD.old r (by omega)).trans ((hw0 r hlt).trans hr)) (by omega) hnS
   show I' r≠none
   simp only[I']
   rw[if_neg (by omega),h1]
   simp
end
noncomputable section
variable{F:Fz}{w:World}
theorem callable17:Callable 17:=callable Try.func17 rfl rfl
theorem tr_newspl(X:World)(x y z u x' y' z' u':Value):((((X.alloc (.cells #[x,y,z,u] 31)).setCell ⟨X.heap.size,0,none⟩ x').setCell ⟨X.heap.size,1,none⟩ y').setCell ⟨X.heap.size,2,none⟩ z').setCell ⟨X.heap.size,3,none⟩ u'=X.alloc (.cells #[x',y',z',u'] 31):=by go_simp
def splBody:Code:=Try.f15.body.getD .skip
def spls0:=pC [] splBody
def splr0:=pC [zt] splBody
def spls1:=pC [zf] splBody
def splr1:=pC [zf,zt] splBody
def spls2:=pC [zf,zf] splBody
def splr2:=pC [zf,zf,zt] splBody
def spls3:=pC [zf,zf,zf] splBody
def splr3:=pC [zf,zf,zf,zt] splBody
def spls4:=pC [zf,zf,zf,zf] splBody
def splr4:=pC [zf,zf,zf,zf,zt] splBody
theorem spls0':spls0= .seq splr0 spls1:=by kernel_rfl
theorem splr0':splr0= .region 0 (oC splr0) false:=by kernel_rfl
theorem spls1':spls1= .seq splr1 spls2:=by kernel_rfl
theorem splr1':splr1= .region 1 (oC splr1) false:=by kernel_rfl
theorem spls2':spls2= .seq splr2 spls3:=by kernel_rfl
theorem splr2':splr2= .region 2 (oC splr2) false:=by kernel_rfl
theorem spls3':spls3= .seq splr3 spls4:=by kernel_rfl
theorem splr3':splr3= .region 3 (oC splr3) false:=by kernel_rfl
theorem spls4':spls4= .seq splr4 .ret:=by kernel_rfl
theorem splr4':splr4= .region 4 (oC splr4) false:=by kernel_rfl
theorem enter_spl(args:Array Value):Frame.enter Try.prog 15 args .normal=(Go.Conc.base 15).at {tmps:=args++Array.replicate (23 - args.size) undef,defers:=[]} [.code spls0]:=enter_at args Try.func15 rfl
theorem callable15:Callable 15:=callable Try.func15 rfl rfl
def splT(s:Nat→Value):Array Value:= #[s 0,s 1,s 2,s 3,s 4,s 5,s 6,s 7,s 8,s 9,s 10,s 11,s 12,s 13,s 14,s 15,s 16,s 17,s 18,s 19,s 20,s 21,s 22]
theorem splT_of{A:Array Value}(h:A.size=23):∃s,A=splT s:=by
 obtain⟨s,hs,_⟩:=arr_lit A h
 exact⟨s,hs⟩
theorem spl_0{n:Nat}(hU:Under F n)(hn:n≤w.heap.size){mo:Int}{va ta sa:Option Addr}{vl vc tl tc sl sc:Nat}{cs:List Frame}{main:Bool}{Stop:Goroutine→World→Prop}
 (h:∀A,Slots 23 A [(0,.slice va vl vc),(1,.slice ta tl tc),(2,.slice sa sl sc),(3,.int .i64 mo),(8,.pointer (some ⟨w.heap.size,0,none⟩))]→Own Try.prog main F Stop (G (Frame.enter Try.prog 17 #[.slice va vl vc] .normal) (((Go.Conc.base 15).at ⟨A,[]⟩ [.inRegion (oC splr1) [1,2],.code spls2])::cs)) (w.alloc (.cells #[.slice none 0 0,.slice none 0 0,.slice none 0 0,.bool false] 31))):
 Own Try.prog main F Stop (G (Frame.enter Try.prog 15 #[.slice va vl vc,.slice ta tl tc,.slice sa sl sc,.int .i64 mo] .normal) cs) w:=by
 rw[enter_spl]
 walk_nrm
 refine ogSR spls0' splr0' ?_
 simp only[splr0,splBody,Try.f15,zz,Nat.reduceAdd]
 (refine oW fun dd K hK=>?_;go_simp;refine qA hK hU ?_;clear hK K)
 refine ogE ?_
 refine ogSR spls1' splr1' ?_
 simp only[splr1,splBody,Try.f15,zz,Nat.reduceAdd]
 (refine oW fun dd K hK=>?_;go_simp;refine qT hK ?_;clear hK K)
 refine oc callable17 #[.slice va vl vc] ?_
 refine h _ ?_
 exact⟨rfl,rfl,rfl,rfl,rfl,rfl,trivial⟩
theorem spl_1{kb rb:Nat}{mo:Int}{va ta sa:Option Addr}{vl vc tl tc sl sc:Nat}{A:Array Value}(hA:Slots 23 A [(0,.slice va vl vc),(1,.slice ta tl tc),(2,.slice sa sl sc),(3,.int .i64 mo),(8,.pointer (some ⟨rb,0,none⟩))]){cs:List Frame}{main:Bool}{Stop:Goroutine→World→Prop}
 (h:∀A,Slots 23 A [(8,.pointer (some ⟨rb,0,none⟩)),(9,.pointer (some ⟨kb,0,none⟩))]→Own Try.prog main F Stop (G (Frame.enter Try.prog 47 #[.slice ta tl tc,.func (.func 48) #[.pointer (some ⟨kb,0,none⟩)] #[],.slice sa sl sc,.int .i64 mo] .normal) (((Go.Conc.base 15).at ⟨A,[]⟩ [.inRegion (oC splr2) [5,6,7],.code spls3])::cs)) w):
 Own Try.prog main F Stop (G (((Go.Conc.base 15).at ⟨A,[]⟩ [.inRegion (oC splr1) [1,2],.code spls2]).finish (.pointer (some ⟨kb,0,none⟩))) cs) w:=by
 obtain⟨hsz,h0,h1,h2,h3,h8,_⟩:=hA
 obtain⟨s,rfl⟩:=splT_of hsz
 change s 0=_ at h0
 change s 1=_ at h1
 change s 2=_ at h2
 change s 3=_ at h3
 change s 8=_ at h8
 clear hsz
 simp only[splT,h0,h1,h2,h3,h8]
 clear h0 h1 h2 h3 h8
 rw[Frame.finish_at]
 simp only[splr1,splBody,Try.f15,zz,Nat.reduceAdd]
 walk_nrm
 (refine oW fun dd K hK=>?_;go_simp;refine qT hK ?_;clear hK K)
 refine ogE ?_
 refine ogSR spls2' splr2' ?_
 simp only[splr2,splBody,Try.f15,zz,Nat.reduceAdd]
 iterate 5 (refine oW fun dd K hK=>?_;go_simp;refine qT hK ?_;clear hK K)
 refine oc callable47 #[.slice ta tl tc,.func (.func 48) #[.pointer (some ⟨kb,0,none⟩)] #[],.slice sa sl sc,.int .i64 mo] ?_
 refine h _ ?_
 exact⟨rfl,rfl,rfl,trivial⟩
theorem spl_2{n:Nat}(hU:Under F n)(hn:n≤w.heap.size){kb rb:Nat}{aa oa:Option Addr}{al ac ol oz:Nat}{st:Bool}{A:Array Value}(hA:Slots 23 A [(8,.pointer (some ⟨rb,0,none⟩)),(9,.pointer (some ⟨kb,0,none⟩))]){cs:List Frame}{main:Bool}{Stop:Goroutine→World→Prop}
 (h:∀A,Slots 23 A [(8,.pointer (some ⟨rb,0,none⟩)),(10,.pointer (some ⟨w.heap.size,0,none⟩))]→Own Try.prog main F Stop (G (Frame.enter Try.prog 49 #[.pointer (some ⟨kb,0,none⟩)] .normal) (((Go.Conc.base 15).at ⟨A,[]⟩ [.inRegion (oC splr3) [1,2,3],.code spls4])::cs)) (w.alloc (.cells #[.slice aa al ac,.slice oa ol oz,.slice none 0 0,.bool st] 31))):
 Own Try.prog main F Stop (G (((Go.Conc.base 15).at ⟨A,[]⟩ [.inRegion (oC splr2) [5,6,7],.code spls3]).finish (.agg #[.slice aa al ac,.slice oa ol oz,.slice none 0 0,.bool st])) cs) w:=by
 obtain⟨hsz,h8,h9,_⟩:=hA
 obtain⟨s,rfl⟩:=splT_of hsz
 change s 8=_ at h8
 change s 9=_ at h9
 clear hsz
 simp only[splT,h8,h9]
 clear h8 h9
 rw[Frame.finish_at]
 simp only[splr2,splBody,Try.f15,zz,Nat.reduceAdd]
 walk_nrm
 (refine oW fun dd K hK=>?_;go_simp;refine qA hK hU ?_;clear hK K)
 (refine oW fun dd K hK=>?_;go_simp;refine hK _ _ ⟨⟨⟨0,grew4 (fun k=>not_held hU (show n≤w.heap.size by omega)) _ _ _ _⟩,fun e he=>by(have hm:=mem_listed he;clear he hK;simp[go_sem,storedEv]at hm;rcases hm with rfl|rfl|rfl|rfl<;>exact evT_write _ _ ((fun k=>not_held hU (show n≤w.heap.size by omega)) _))⟩,?_⟩;clear hK K;simp only[setCell_at'];refine Own.at ?_ dd)
 have e1:=tr_newspl w (.slice none 0 0) (.slice none 0 0) (.slice none 0 0) (.bool false) (.slice aa al ac) (.slice oa ol oz) (.slice none 0 0) (.bool st)
 rw[e1]
 clear e1
 refine ogE ?_
 refine ogSR spls3' splr3' ?_
 simp only[splr3,splBody,Try.f15,zz,Nat.reduceAdd]
 (refine oW fun dd K hK=>?_;go_simp;refine qT hK ?_;clear hK K)
 refine oc callable49 #[.pointer (some ⟨kb,0,none⟩)] ?_
 refine h _ ?_
 exact⟨rfl,rfl,rfl,trivial⟩
theorem spl_3{rb tb:Nat}{aa oa:Option Addr}{al ac ol oz xl xc:Nat}{xa:Option Addr}{st:Bool}{y0 y1 y2 y3:Value}(hne:rb≠tb)(hR:TrAt w rb y0 y1 y2 y3)(hT:TrAt w tb (.slice aa al ac) (.slice oa ol oz) (.slice none 0 0) (.bool st))(hnr:∀k,¬held F ⟨rb,k,none⟩)(hnt:∀k,¬held F ⟨tb,k,none⟩){A:Array Value}(hA:Slots 23 A [(8,.pointer (some ⟨rb,0,none⟩)),(10,.pointer (some ⟨tb,0,none⟩))]){c:Frame}{cs:List Frame}{main:Bool}{Stop:Goroutine→World→Prop}
 (h:Own Try.prog main F Stop (G (c.finish (.agg #[.slice aa al ac,.slice oa ol oz,.slice xa xl xc,.bool st])) cs) (trW (w.setCell ⟨tb,2,none⟩ (.slice xa xl xc)) rb (.slice aa al ac) (.slice oa ol oz) (.slice xa xl xc) (.bool st))):
 Own Try.prog main F Stop (G (((Go.Conc.base 15).at ⟨A,[]⟩ [.inRegion (oC splr3) [1,2,3],.code spls4]).finish (.slice xa xl xc)) (c::cs)) w:=by
 obtain⟨hsz,h8,h10,_⟩:=hA
 obtain⟨s,rfl⟩:=splT_of hsz
 change s 8=_ at h8
 change s 10=_ at h10
 clear hsz
 simp only[splT,h8,h10]
 clear h8 h10
 rw[Frame.finish_at]
 simp only[splr3,splBody,Try.f15,zz,Nat.reduceAdd]
 walk_nrm
 (refine oW fun dd K hK=>?_;go_simp;refine qT hK ?_;clear hK K)
 (refine oW fun dd K hK=>?_;have hc2:=(hT.at dd).c2;have hz0:=(hT.at dd).z;go_simp;refine hK _ _ ⟨⟨⟨0,grew_setCell rfl (hnt 2) _⟩,fun e he=>by(have hm:=mem_listed he;clear he hK;simp[go_sem,storedEv,hc2,hz0]at hm;subst hm;exact evT_write _ _ (hnt 2))⟩,?_⟩;clear hK K hc2 hz0;rw[setCell_at'];refine Own.at ?_ dd)
 have hT2:TrAt (w.setCell ⟨tb,2,none⟩ (.slice xa xl xc)) tb (.slice aa al ac) (.slice oa ol oz) (.slice xa xl xc) (.bool st):=⟨by rw[heap_setCell_eq hT.o];rfl⟩
 have hR2:TrAt (w.setCell ⟨tb,2,none⟩ (.slice xa xl xc)) rb y0 y1 y2 y3:=⟨(heap_setCell_ne _ _ _ hne).trans hR.o⟩
 generalize w.setCell ⟨tb,2,none⟩ (.slice xa xl xc)=W at hT2 hR2 h ⊢
 refine ogE ?_
 refine ogSR spls4' splr4' ?_
 simp only[splr4,splBody,Try.f15,zz,Nat.reduceAdd]
 (refine oW fun dd K hK=>?_;have hc0:=(hT2.at dd).c0;have hc1:=(hT2.at dd).c1;have hc2:=(hT2.at dd).c2;have hc3:=(hT2.at dd).c3;have hz0:=(hT2.at dd).z;go_simp;refine hK _ _ ⟨⟨⟨0,Grew.refl _ _⟩,fun e he=>by(have hm:=mem_listed he;clear he hK;simp[go_sem,hc0,hc1,hc2,hc3,hz0]at hm;rcases hm with rfl|rfl|rfl|rfl<;>exact evT_read _ _)⟩,Own.at ?_ dd⟩;clear hK K hc0 hc1 hc2 hc3 hz0)
 (refine oW fun dd K hK=>?_;have hc0:=(hR2.at dd).c0;have hc1:=(hR2.at dd).c1;have hc2:=(hR2.at dd).c2;have hc3:=(hR2.at dd).c3;have hz0:=(hR2.at dd).z;go_simp;refine hK _ _ ⟨⟨⟨0,grew4 hnr _ _ _ _⟩,fun e he=>by(have hm:=mem_listed he;clear he hK;simp[go_sem,storedEv,hc0,hc1,hc2,hc3,hz0]at hm;rcases hm with rfl|rfl|rfl|rfl<;>exact evT_write _ _ (hnr _))⟩,?_⟩;clear hK K hc0 hc1 hc2 hc3 hz0;simp only[setCell_at'];refine Own.at ?_ dd)
 refine ogE ?_
 refine ogX ?_
 have hT3:=hR2.put (.slice aa al ac) (.slice oa ol oz) (.slice xa xl xc) (.bool st)
 change Own _ _ _ _ _ (trW W rb (.slice aa al ac) (.slice oa ol oz) (.slice xa xl xc) (.bool st))
 generalize (trW W rb (.slice aa al ac) (.slice oa ol oz) (.slice xa xl xc) (.bool st))=V at hT3 h ⊢
 have hc0:=hT3.c0
 have hc1:=hT3.c1
 have hc2:=hT3.c2
 have hc3:=hT3.c3
 have hz0:=hT3.z
 refine own_leave (fn:=Try.f15) (v:=.agg #[.slice aa al ac,.slice oa ol oz,.slice xa xl xc,.bool st]) rfl rfl Try.func15 (fun d=>by simp[results,Try.f15,go_sem,hc0,hc1,hc2,hc3,hz0]) (fun d e he=>by simp[results,Try.f15,go_sem,hc0,hc1,hc2,hc3,hz0]at he;rcases he with rfl|rfl|rfl|rfl<;>exact evT_read _ _) ?_
 exact h
end
section
variable{An:Anchor}{w w':World}
theorem OpsIn.later2{N N':Nat→Prop}{n tb o tl:Nat}{ta:Option Addr}{oa:Nat→Option Addr}{ol oc:Nat→Nat}{ops:Nat→List Op4}{S:List Int}{sa:Option Addr}(h:OpsIn w N n tb o tl ta oa ol oc ops S sa)(hs:w.heap.size≤w'.heap.size)(hold:∀r,r<w.heap.size→w'.heap[r]? =w.heap[r]?)(hN:∀r,N' r→w.heap.size≤r):OpsIn w' N' n tb o tl ta oa ol oc ops S sa:=by
 have hc:∀{a:Addr} {v:Value},w.cell? a=some v→w'.cell? a=some v∧w'.frozen? a=w.frozen? a:=fun{a v} h=>by
  obtain⟨c,e,z,ho⟩:=cell_block h
  have e1:=hold _ (alt ho)
  exact⟨by rw[← h];unfold World.cell?;simp only[e1],by unfold World.frozen?;simp only[e1]⟩
 refine⟨h.hn,h.hta,fun hp=>by have:=h.htb hp;omega,fun j hj=>?_,h.hlen,fun j hj k x hx=>?_,h.hsl,fun hp=>?_⟩
 ·obtain⟨h1,h2,h3⟩:=h.hth j hj
  exact⟨(hc h1).1,(hc h1).2.trans h2,h3⟩
 ·obtain⟨opb,oo,h1,h2,f0,f1,f2,f3,g0,g1,g2,g3⟩:=h.hop j hj k x hx
  obtain⟨c,e,z,ho⟩:=cell_block f0
  have hlt:=(alt ho)
  exact⟨opb,oo,h1,fun hn=>by have:=hN _ hn;simp only at hlt;omega,(hc f0).1,(hc f1).1,(hc f2).1,(hc f3).1,(hc f0).2.trans g0,(hc f1).2.trans g1,(hc f2).2.trans g2,(hc f3).2.trans g3⟩
 ·obtain⟨sb,so,c,e,z,h1,h2,h3,h4⟩:=h.hS hp
  have hlt:=(alt h3)
  exact⟨sb,so,c,e,z,h1,fun hn=>by have:=hN _ hn;omega,(hold _ hlt).trans h3,h4⟩
theorem own_off2{base n size:Nat}{e:TypeId}{v:Value}{xs:List Value}(h:w.ownsRow base e size v n xs)(hs:∀b c,w.heap[b]? =some (.cells c e (0,0))→base≤b→w'.heap[b]? =w.heap[b]?):w'.ownsRow base e size v n xs:=by
 refine⟨h.1,?_⟩
 rcases h.2 with h2|⟨b,cap,cur,rfl,h3,h4,h5⟩
 ·exact .inl h2
 ·exact .inr ⟨b,cap,cur,rfl,h3,(hs b cur h4 h3).trans h4,h5⟩
def NewB(w:World)(r:Nat):Prop:=∀c e z,w.heap[r]?≠some (.cells c e z)
structure SPlayU(w:World)(n:Nat)(ans:Nat→List SAn)(state:List Int)(order:List Nat)(aa:Nat)(rows:Nat→Value)(av:Nat→List SA)(ov sv:Value)(w':World):Prop where
 size:w.heap.size≤w'.heap.size
 old:∀(r:Nat) (c:Array Value) (e:TypeId) (z:Nat×Nat),w.heap[r]? =some (.cells c e z)→w'.heap[r]? =some (.cells c e z)
 arr:∃c,w'.heap[aa]? =some (.cells c 42 (0,0))∧c.size=n∧∀i,i<n→c[i]? =some (rows i)
 row:∀i,i<n→(av i).map SA.an=ans i∧(av i).length≤65536∧w'.ownsRow 0 44 3 (rows i) (av i).length (((av i).map fun a=>a.v.cells).flatten)∧∀a∈av i,SAU a w'
 nwa:NewB w aa
 nwr:∀i,i<n→∀r,(rows i).ownBlock=some r→NewB w r
 nwl:∀i,i<n→∀a∈av i,∀r,a.row.ownBlock=some r→NewB w r
 dj:∀i j,i<n→j<n→i≠j→∀r,(rows i).ownBlock=some r→(rows j).ownBlock≠some r
 ord:w'.ownsRow w.heap.size 3 1 ov order.length (order.map fun i:Nat=>Value.int .i64 i)
 st:w'.ownsRow w.heap.size 2 1 sv state.length (state.map fun v=>.int .i64 v)
def sabs(lb:Nat):Abs (SLay lb) SPl:=⟨SS.k,SeC.c,SA.an⟩
theorem sabs_ok(lb:Nat):(sabs lb).Ok where
 beg:=fun s i o y h=>by
  obtain⟨y1,y2⟩:=y
  have h2:=h.2.2
  cases y2<;>exact h2
 stp:=fun s c y h=>by
  obtain⟨y1,y2⟩:=y
  have h2:=h.2.2
  cases y2<;>exact h2
def ss0(vs:List Int):GS SPl:=⟨snew vs,fun _=>⟨0,none,[]⟩⟩
theorem bes_splay{va:Option Addr}{vc:Nat}{vs:List Int}(hv:InRow w va vs)(hvl:vs.length<9223372036854775808)
 {n tb o tl tc sc M:Nat} {mo:Int} {ta sa:Option Addr} {oa:Nat→Option Addr} {ol oc:Nat→Nat} {ops:Nat→List Op4} {S:List Int} (hI:OpsIn w (fun _=>False) n tb o tl ta oa ol oc ops S sa) (hM:min (max mo 0) 1048576=(M:Int)) {c:Frame} {cs:List Frame} {Stop:Goroutine→World→Prop}
 (hP:∀(s:GS SPl) order,gDone n M (s,order)→(∃k,∀f,k≤f→gOver ops n M S f (ss0 vs)=(s,order))→
   ∀aa rows av oa' oc' xa xc w',SPlayU w n (fun i=>(s.th i).ans) (SSt.state s.q) order aa rows av (.slice oa' order.length oc') (.slice xa (SSt.state s.q).length xc) w'→
    Bes An Try.prog Stop (G (c.finish (.agg #[.slice (some ⟨aa,0,none⟩) n n,.slice oa' order.length oc',.slice xa (SSt.state s.q).length xc,.bool (decide (0<cnt s.live n))])) cs) w'):
 Bes An Try.prog Stop (G (Frame.enter Try.prog 15 #[.slice va vs.length vc,.slice ta tl tc,.slice sa S.length sc,.int .i64 mo] .normal) (c::cs)) w:=by
 have hF:∀a:Addr,¬held F0 a:=noF0
 have hrow0:∀r,r<w.heap.size→(w.alloc (.cells #[.slice none 0 0,.slice none 0 0,.slice none 0 0,.bool false] 31)).heap[r]? =w.heap[r]?:=fun r hr=>heap_alloc_lt _ _ hr
 have hs0:(w.alloc (.cells #[.slice none 0 0,.slice none 0 0,.slice none 0 0,.bool false] 31)).heap.size=w.heap.size+1:=by simp
 have htr:TrAt (w.alloc (.cells #[.slice none 0 0,.slice none 0 0,.slice none 0 0,.bool false] 31)) w.heap.size (.slice none 0 0) (.slice none 0 0) (.slice none 0 0) (.bool false):=⟨heap_alloc_new _ _⟩
 refine bes_own (F:=F0) (Stop:=fun a u=>∃A,a=G (Frame.enter Try.prog 47 #[.slice ta tl tc,.func (.func 48) #[.pointer (some ⟨w.heap.size+2,0,none⟩)] #[],.slice sa S.length sc,.int .i64 mo] .normal) (((Go.Conc.base 15).at ⟨A,[]⟩ [.inRegion (oC splr2) [5,6,7],.code spls3])::c::cs)∧
  Slots 23 A [(8,.pointer (some ⟨w.heap.size,0,none⟩)),(9,.pointer (some ⟨w.heap.size+2,0,none⟩))]∧SU (w.heap.size+2) ⟨snew vs,w.heap.size+1,0⟩ u∧w.heap.size+3≤u.heap.size∧(∀r,r<w.heap.size+1→u.heap[r]? =(w.alloc (.cells #[.slice none 0 0,.slice none 0 0,.slice none 0 0,.bool false] 31)).heap[r]?))
  (spl_0 under_F0 (Nat.zero_le _) fun A hA=>own_snew (hv.same hrow0) hvl fun w1 k1 k2 k3=>by
    rw[hs0]at k1 k2 k3 ⊢
    exact spl_1 hA fun A2 hA2=>.stop fun d=>⟨A2,rfl,hA2,k1.same fun _ _=>rfl,k2,k3⟩) fun a W hS=>?_
 obtain⟨A,rfl,hA,hQ,hWs,hWo⟩:=hS
 have hold1:∀r,r<w.heap.size→W.heap[r]? =w.heap[r]?:=fun r hr=>(hWo r (by omega)).trans (hrow0 r hr)
 have hrb1:W.heap[w.heap.size]? =some (.cells #[.slice none 0 0,.slice none 0 0,.slice none 0 0,.bool false] 31 (0,0)):=(hWo _ (by omega)).trans htr.o
 have hNr:∀r,(SLay (w.heap.size+2)).SR ⟨snew vs,w.heap.size+1,0⟩ r→w.heap.size+1≤r:=fun r hr=>by
  rcases hr with rfl|rfl<;>simp
 have hI1:OpsIn W ((SLay (w.heap.size+2)).SR ⟨snew vs,w.heap.size+1,0⟩) n tb o tl ta oa ol oc ops S sa:=hI.later2 (by omega) hold1 fun r hr=>by have:=hNr r hr;omega
 refine bes_ops2 (L:=SLay (w.heap.size+2)) (slay_ok _) (s0:=⟨snew vs,w.heap.size+1,0⟩) hQ hI1 hM ?_
 intro g p p' t u oa' oc' hg hpn hpo hOk hrel hpn' hpo' hpa hU hord hnR hsz hkeep hpI
 obtain⟨hd,hover⟩:=overG_abs (ab:=sabs _) (sabs_ok _) hOk (fun j hj=>⟨rfl,rfl⟩) hrel
 rw[hpo]at hover
 have hK:=hP _ _ hd hover
 have hQU:SU (w.heap.size+2) t.1.s u:=hU.su
 have hrb2:u.heap[w.heap.size]? =some (.cells #[.slice none 0 0,.slice none 0 0,.slice none 0 0,.bool false] 31 (0,0)):=hkeep _ _ _ _ hrb1 fun h=>by have:=hNr _ h;omega
 have hcnt:cnt ((opsUsers (SLay (w.heap.size+2)) p g).liv t.1) n=cnt ((sabs _).x t.1).live n:=cnt_congr fun j _=>livG_abs t.1 j
 rw[hcnt]
 have hnew:∀r,OR (SLay (w.heap.size+2)) p' t.1 r→NewB w r:=fun r hr c0 e0 z0 h=>by
  have hlt:=(alt h)
  exact hpI r c0 e0 z0 ((hold1 r hlt).trans h) (fun h2=>by have:=hNr r h2;omega) (hU.inone r hr)
 obtain⟨ca,hca,hcs,hci⟩:=hU.arr
 have hlt:=(alt hca)
 have hlr:=(alt hrb2)
 obtain⟨q,hq⟩:∃q:SSt,q=((sabs (w.heap.size+2)).x t.1).q:=⟨_,rfl⟩
 obtain⟨sb,hsb⟩:∃b:Bool,b=decide (0<cnt ((sabs (w.heap.size+2)).x t.1).live n):=⟨_,rfl⟩
 rw[← hsb]at hK ⊢
 rw[← hq]at hK
 have hqs:t.1.s.k=q:=hq.symm
 have htb:=heap_alloc_new u (.cells #[.slice (some ⟨p.aa,0,none⟩) n n,.slice oa' t.2.length oc',.slice none 0 0,.bool sb] 31)
 have htl:∀r,r<u.heap.size→(u.alloc (.cells #[.slice (some ⟨p.aa,0,none⟩) n n,.slice oa' t.2.length oc',.slice none 0 0,.bool sb] 31)).heap[r]? =u.heap[r]?:=fun r hr=>heap_alloc_lt _ _ hr
 have hts:(u.alloc (.cells #[.slice (some ⟨p.aa,0,none⟩) n n,.slice oa' t.2.length oc',.slice none 0 0,.bool sb] 31)).heap.size=u.heap.size+1:=by simp
 refine bes_own (F:=F0) (Stop:=fun a u2=>∃xa xc,a=G (c.finish (.agg #[.slice (some ⟨p.aa,0,none⟩) n n,.slice oa' t.2.length oc',.slice xa (SSt.state q).length xc,.bool sb])) cs∧
  SPlayU w n (fun i=>(((sabs (w.heap.size+2)).x t.1).th i).ans) (SSt.state q) t.2 p.aa (fun i=>(t.1.th i).row) (fun i=>(t.1.th i).ans) (.slice oa' t.2.length oc') (.slice xa (SSt.state q).length xc) u2)
  (spl_2 under_F0 (Nat.zero_le _) hA fun A2 hA2=>?_) fun a u2 ⟨xa,xc,ha,hu2⟩=>?_
 ·generalize u.alloc (.cells #[.slice (some ⟨p.aa,0,none⟩) n n,.slice oa' t.2.length oc',.slice none 0 0,.bool sb] 31)=U at htb htl hts ⊢
  refine own_sstate (hQU.same fun r hr=>htl r (hQU.low hr)) fun w2 l' hV=>?_
  rw[hqs]at hV
  have k1:=hV.row
  obtain⟨xa,xc,rfl⟩:∃xa xc,l'= .slice xa (SSt.state q).length xc:=by
   rcases k1.2 with⟨rfl,h⟩|⟨b,cap,cur,rfl,_⟩
   ·simp[SSt.state]at h
   ·exact⟨_,_,rfl⟩
  have hR:TrAt w2 w.heap.size (.slice none 0 0) (.slice none 0 0) (.slice none 0 0) (.bool false):=⟨(hV.old _ (by omega)).trans ((htl _ hlr).trans hrb2)⟩
  have hT:TrAt w2 u.heap.size (.slice (some ⟨p.aa,0,none⟩) n n) (.slice oa' t.2.length oc') (.slice none 0 0) (.bool sb):=⟨(hV.old _ (by omega)).trans htb⟩
  refine spl_3 (show w.heap.size≠u.heap.size by omega) hR hT (fun k=>hF _) (fun k=>hF _) hA2 (.stop fun d=>⟨xa,xc,rfl,?_⟩)
  have hV2:=hV.size
  have hlw:∀r,r<u.heap.size→w2.heap[r]? =u.heap[r]?:=fun r hr=>(hV.old _ (by omega)).trans (htl _ hr)
  have hne2:∀r,r≠w.heap.size→r≠u.heap.size→((trW (w2.setCell ⟨u.heap.size,2,none⟩ (.slice xa (SSt.state q).length xc)) w.heap.size (.slice (some ⟨p.aa,0,none⟩) n n) (.slice oa' t.2.length oc') (.slice xa (SSt.state q).length xc) (.bool sb)).at d).heap[r]? =w2.heap[r]?:=fun r hr hr2=>by
   show(trW _ _ _ _ _ _).heap[r]? =_
   unfold trW
   rw[heap_setCell_ne _ _ _ hr,heap_setCell_ne _ _ _ hr,heap_setCell_ne _ _ _ hr,heap_setCell_ne _ _ _ hr,heap_setCell_ne _ _ _ hr2]
  have hsz3:((trW (w2.setCell ⟨u.heap.size,2,none⟩ (.slice xa (SSt.state q).length xc)) w.heap.size (.slice (some ⟨p.aa,0,none⟩) n n) (.slice oa' t.2.length oc') (.slice xa (SSt.state q).length xc) (.bool sb)).at d).heap.size=w2.heap.size:=by
   show(trW _ _ _ _ _ _).heap.size=_
   unfold trW;simp
  generalize (trW (w2.setCell ⟨u.heap.size,2,none⟩ (.slice xa (SSt.state q).length xc)) w.heap.size (.slice (some ⟨p.aa,0,none⟩) n n) (.slice oa' t.2.length oc') (.slice xa (SSt.state q).length xc) (.bool sb)).at d=V at hne2 hsz3 ⊢
  have hty:∀(b:Nat) (c:Array Value) (e:TypeId) (z:Nat×Nat),u.heap[b]? =some (.cells c e z)→e≠31→V.heap[b]? =u.heap[b]?:=fun b cc e z hb he=>by
   have hbl:=(alt hb)
   rw[hne2 b (fun h=>by rw[h,hrb2]at hb;cases hb;exact he rfl) (by omega),hlw b hbl]
  have hth:∀i,i<n→ThrU (SLay (w.heap.size+2)) p' (g.st i) i (t.1.th i) u:=fun i hi=>hU.thr i (by rw[hpn'];exact hi)
  refine⟨by omega,fun r cc e z hr=>?_,⟨ca,?_,?_,fun i hi=>?_⟩,fun i hi=>⟨rfl,?_,?_,fun a ha=>?_⟩,?_,fun i hi r hr=>?_,fun i hi a ha r hr=>?_,fun i j hi hj hne r h1 h2=>?_,?_,?_⟩
  ·have hlt:=(alt hr)
   rw[hne2 r (by omega) (by omega),hlw r (by omega)]
   exact hkeep _ _ _ _ ((hold1 r hlt).trans hr) fun h=>by have:=hNr _ h;omega
  ·rw[hty _ _ _ _ (hpa ▸ hca) (by decide)]
   exact hpa ▸ hca
  ·rw[hcs,hpn']
  ·exact hci i (by rw[hpn'];exact hi)
  ·have ht:=hth i hi
   have h1:=ht.al
   have h2:=ht.kl
   rw[hpo',hI.hlen i hi]at h2
   exact Nat.le_trans (Nat.le_of_eq h1) (Nat.le_trans h2 (by omega))
  ·have hr:u.ownsRow 0 44 3 (t.1.th i).row (t.1.th i).ans.length (((t.1.th i).ans.map fun a=>a.v.cells).flatten):=(hth i hi).row
   exact own_off2 hr fun b cc hb _=>hty b cc _ _ hb (by decide)
  ·have h1:SAU a u:=(hth i hi).au a ha
   exact own_off2 h1 fun b cc hb _=>hty b cc _ _ hb (by decide)
  ·exact hnew _ (.inr (.inl hpa.symm))
  ·exact hnew _ (.inr (.inr ⟨i,by rw[hpn'];exact hi,.inl hr⟩))
  ·exact hnew _ (.inr (.inr ⟨i,by rw[hpn'];exact hi,.inr (.inl ⟨a,ha,hr⟩)⟩))
  ·exact hU.tt i j (by rw[hpn'];exact hi) (by rw[hpn'];exact hj) hne r (.inl h1) (.inl h2)
  ·exact ownsRow_mono_base (by omega) (own_off2 hord fun b cc hb _=>hty b cc _ _ hb (by decide))
  ·have e2:V.ownsRow 0 2 1 (.slice xa (SSt.state q).length xc) (SSt.state q).length ((SSt.state q).map fun v=>.int .i64 v):=by
    refine ownsRow_same2 k1 fun b hb _=>?_
    have:=hV.new b hb
    exact hne2 b (by omega) (by omega)
   refine⟨e2.1,?_⟩
   rcases e2.2 with h|⟨b,cap,cur,h1,h2,h3⟩
   ·exact .inl h
   ·refine .inr ⟨b,cap,cur,h1,?_,h3⟩
    have:=hV.new b (by rw[h1];rfl)
    omega
 ·subst ha
  exact hK _ _ _ _ _ _ _ _ hu2
end
section
variable{w w':World}
theorem gRounds_stays{m:Pl}{ops:Nat→List Op4}{n M:Nat}:∀(f:Nat) (s:GS m×List Nat),gDone n M (gRounds ops n M f s)→∀e,f≤e→gRounds ops n M e s=gRounds ops n M f s:=by
 intro f
 induction f with
 | zero=>
   intro s h e _
   exact gRounds_done h e
 | succ f ih=>
   intro s h e he
   by_cases hd:gDone n M s
   ·rw[gRounds_done hd,gRounds_done hd]
   ·obtain⟨e,rfl⟩:∃k,e=k+1:=⟨e - 1,by omega⟩
    simp only[gRounds,if_neg hd]at h ⊢
    exact ih _ h e (by omega)
structure IntsAt(e:TypeId)(w wr:World)(ov:Value)(xs:List Int):Prop where
 row:wr.ownsRow 0 e 1 ov xs.length (xs.map fun v=>.int .i64 v)
 size:w.heap.size≤wr.heap.size
 old:∀r,r<w.heap.size→wr.heap[r]? =w.heap[r]?
 new:∀g,ov.ownBlock=some g→w.heap.size≤g
theorem IntsAt.nil(e:TypeId)(w:World):IntsAt e w w (.slice none 0 0) []:=⟨⟨rfl,.inl ⟨rfl,rfl⟩⟩,Nat.le_refl _,fun _ _=>rfl,fun g h=>by cases h⟩
theorem IntsAt.more{e:TypeId}{w u w1:World}{ov:Value}{xs ys:List Int}(h:IntsAt e w u ov xs){v':Value}(hown:w1.ownsRow 0 e 1 v' (xs.length+ys.length) ((xs.map fun v=>.int .i64 v)++ys.map fun v=>.int .i64 v))(hg:u.grownBy w1 ov.ownBlock)(hf:v'.ownBlock=ov.ownBlock∨∃g,v'.ownBlock=some g∧u.heap.size≤g):IntsAt e w w1 v' (xs++ys):=by
 refine⟨by simpa using hown,by have:=h.size;have:=hg.size;omega,fun r hr=>?_,fun g hgv=>?_⟩
 ·have hsz:=h.size
  refine(hg.block r (by omega) fun e=>?_).trans (h.old r hr)
  have:=h.new r e.symm
  omega
 ·rcases hf with e|⟨g',e,h2⟩
  ·exact h.new g (e ▸ hgv)
  ·rw[e]at hgv
   cases hgv
   have:=h.size
   omega
theorem IntsAt.alloc{e:TypeId}{w u:World}{ov:Value}{xs:List Int}(h:IntsAt e w u ov xs)(o:Obj):IntsAt e w (u.alloc o) ov xs:=
 ⟨h.row.alloc o,by have:=h.size;simp;omega,fun r hr=>(heap_alloc_lt _ _ (Nat.lt_of_lt_of_le hr h.size)).trans (h.old r hr),h.new⟩
end
section
variable{w w':World}
theorem same22B{aa ab:Option Addr}{ca cb:Nat}{xs:List Int}(hl:xs.length<100000000)(hA:RRow w aa (xs.map fun v=>.int .i64 v))(hB:RRow w ab (xs.map fun v=>.int .i64 v)):
 CallsB Try.prog Try.f22 #[.slice aa xs.length ca,.slice ab xs.length cb] w fun x w'=>x= .bool true∧w'.heap=w.heap:=by
 have E:Aside (RRow w aa (xs.map fun v=>.int .i64 v)∧RRow w ab (xs.map fun v=>.int .i64 v)):=⟨hA,hB⟩
 clear hA hB
 refine callsB_of rfl ?_
 simp only[Try.ntmps22,List.size_toArray,List.length_cons,List.length_nil,Nat.reduceAdd,Nat.reduceSub,Array.replicate_succ,Array.replicate_zero,List.push_toArray,List.append_toArray,List.nil_append,List.cons_append]
 go_wp2
 go_loopg [5] xs.length (fun g i wr=>∃k:Nat,k≤xs.length∧i= .int .i64 k∧g=xs.length - k∧wr.heap=w.heap)
 case atStart=>exact⟨0,Nat.zero_le _,rfl,rfl,rfl⟩
 case round=>
  obtain⟨k,hk,rfl,rfl,hw⟩:=hrel
  rcases Nat.lt_or_ge k xs.length with hlt|hge
  ·obtain⟨b1,o1,rfl,h1⟩:=(E.out.1.heap hw).c k (.int .i64 xs[k]) (by simp[hlt])
   obtain⟨b2,o2,rfl,h2⟩:=(E.out.2.heap hw).c k (.int .i64 xs[k]) (by simp[hlt])
   have hwr:IntKind.i64.wrap ((k:Int)+1)=(k:Int)+1:=IntWalk.i64_in _ (by omega)
   go_wp2
   go_quiet (fail)
   go_wp2
   go_roundg (xs.length - (k+1))
   case measure=>omega
   case rel=>exact⟨k+1,hlt,rfl,rfl,hw⟩
  ·have:k=xs.length:=by omega
   subst this
   go_wp2
   go_ret
   exact⟨_,rfl,rfl,hw⟩
theorem same22{aa ab:Option Addr}{ca cb:Nat}{xs:List Int}(hl:xs.length<100000000)(hA:RRow w aa (xs.map fun v=>.int .i64 v))(hB:RRow w ab (xs.map fun v=>.int .i64 v)):
 Calls Try.prog 22 #[.slice aa xs.length ca,.slice ab xs.length cb] w fun x w'=>x= .returned (.bool true)∧w'.heap=w.heap:=
 ((same22B hl hA hB).calls Try.func22 rfl).mono (by rintro e u ⟨v,rfl,rfl,h⟩;exact⟨rfl,h⟩)
theorem closed22:Closed Try.prog (fun f=>[22].contains f) true:=closed_ofX (x:=[]) (fun f h=>by cases h) (by kernel_rfl)
theorem callable22:Callable 22:=callable Try.func22 rfl rfl
theorem own_same22{aa ab:Option Addr}{ca cb:Nat}{xs:List Int}(hl:xs.length<100000000)(hA:RRow w aa (xs.map fun v=>.int .i64 v))(hB:RRow w ab (xs.map fun v=>.int .i64 v)){c:Frame}{cs:List Frame}{main:Bool}{Stop:Goroutine→World→Prop}
 (K:∀w1,w1.heap=w.heap→Own Try.prog main F0 Stop (G (c.finish (.bool true)) cs) w1):
 Own Try.prog main F0 Stop (G (Frame.enter Try.prog 22 #[.slice aa xs.length ca,.slice ab xs.length cb] .normal) (c::cs)) w:=by
 refine own_callB closed22 prog_late Try.func22 rfl (by kernel_rfl) (R:=fun x w'=>x= .bool true∧w'.heap=w.heap) (fun τ e=>same22B (w:=retape w τ e) hl (hA.heap rfl) (hB.heap rfl)) fun v w' τ e hR hg=>?_
 obtain⟨rfl,h⟩:=hR
 exact K w' h
end
noncomputable section
variable{F:Fz}{w:World}
theorem tr_newF(X:World)(x y z u x' y' z' u':Value):((((X.alloc (.cells #[x,y,z,u] 31)).setCell ⟨X.heap.size,0,none⟩ x').setCell ⟨X.heap.size,1,none⟩ y').setCell ⟨X.heap.size,2,none⟩ z').setCell ⟨X.heap.size,3,none⟩ u'=X.alloc (.cells #[x',y',z',u'] 31):=by go_simp
theorem sOp4(k a b c:Int):Try.prog.built 47 [(0,.int .i64 k),(1,.int .i64 a),(2,.int .i64 b),(3,.int .i64 c)]=some #[.int .i64 k,.int .i64 a,.int .i64 b,.int .i64 c]:=by kernel_rfl
theorem sOp2(k a:Int):Try.prog.built 47 [(0,.int .i64 k),(1,.int .i64 a)]=some #[.int .i64 k,.int .i64 a,.int .i64 0,.int .i64 0]:=by kernel_rfl
theorem sOp1(k:Int):Try.prog.built 47 [(0,.int .i64 k)]=some #[.int .i64 k,.int .i64 0,.int .i64 0,.int .i64 0]:=by kernel_rfl
@[go_sem] theorem run_sOp4(k a b c:Int)(w:World):(Instr.build 47 #[(0,.int .i64 k),(1,.int .i64 a),(2,.int .i64 b),(3,.int .i64 c)]).run Try.prog w= .ok (.agg #[.int .i64 k,.int .i64 a,.int .i64 b,.int .i64 c]) w:=run_build w _ _ _ (sOp4 k a b c)
@[go_sem] theorem ev_sOp4(k a b c:Int)(w:World)(es:Array Event):(Instr.build 47 #[(0,.int .i64 k),(1,.int .i64 a),(2,.int .i64 b),(3,.int .i64 c)]).events Try.prog w es=es:=ev_build w es _ _ _ _ Try.underlying47 (sOp4 k a b c)
@[go_sem] theorem run_sOp2(k a:Int)(w:World):(Instr.build 47 #[(0,.int .i64 k),(1,.int .i64 a)]).run Try.prog w= .ok (.agg #[.int .i64 k,.int .i64 a,.int .i64 0,.int .i64 0]) w:=run_build w _ _ _ (sOp2 k a)
@[go_sem] theorem ev_sOp2(k a:Int)(w:World)(es:Array Event):(Instr.build 47 #[(0,.int .i64 k),(1,.int .i64 a)]).events Try.prog w es=es:=ev_build w es _ _ _ _ Try.underlying47 (sOp2 k a)
@[go_sem] theorem run_sOp1(k:Int)(w:World):(Instr.build 47 #[(0,.int .i64 k)]).run Try.prog w= .ok (.agg #[.int .i64 k,.int .i64 0,.int .i64 0,.int .i64 0]) w:=run_build w _ _ _ (sOp1 k)
@[go_sem] theorem ev_sOp1(k:Int)(w:World)(es:Array Event):(Instr.build 47 #[(0,.int .i64 k)]).events Try.prog w es=es:=ev_build w es _ _ _ _ Try.underlying47 (sOp1 k)
def sfxBody:Code:=Try.f13.body.getD .skip
def sfxs0:=pC [] sfxBody
def sfxr0:=pC [zt] sfxBody
def sfxs1:=pC [zf] sfxBody
def sfxr1:=pC [zf,zt] sfxBody
def sfxs2:=pC [zf,zf] sfxBody
def sfxr2:=pC [zf,zf,zt] sfxBody
def sfxs3:=pC [zf,zf,zf] sfxBody
def sfxr3:=pC [zf,zf,zf,zt] sfxBody
def sfxs4:=pC [zf,zf,zf,zf] sfxBody
def sfxs5:=pC [zf,zf,zf,zf,zt] sfxBody
def sfxr4:=pC [zf,zf,zf,zf,zt,zt] sfxBody
def sfxc89:=pC [zf,zf,zf,zf,zt,zf] sfxBody
def sfxs6:=pC [zf,zf,zf,zf,zt,zf,zt] sfxBody
def sfxs7:=pC [zf,zf,zf,zf,zf] sfxBody
def sfxr6:=pC [zf,zf,zf,zf,zf,zt] sfxBody
def sfxs8:=pC [zf,zf,zf,zf,zf,zf] sfxBody
def sfxs9:=pC [zf,zf,zf,zf,zf,zf,zt] sfxBody
def sfxr7:=pC [zf,zf,zf,zf,zf,zf,zt,zt] sfxBody
def sfxc105:=pC [zf,zf,zf,zf,zf,zf,zt,zf] sfxBody
def sfxs10:=pC [zf,zf,zf,zf,zf,zf,zt,zf,zt] sfxBody
def sfxs11:=pC [zf,zf,zf,zf,zf,zf,zf] sfxBody
def sfxr9:=pC [zf,zf,zf,zf,zf,zf,zf,zt] sfxBody
def sfxs12:=pC [zf,zf,zf,zf,zf,zf,zf,zf] sfxBody
def sfxr10:=pC [zf,zf,zf,zf,zf,zf,zf,zf,zt] sfxBody
theorem sfxs0':sfxs0= .seq sfxr0 sfxs1:=by kernel_rfl
theorem sfxr0':sfxr0= .region 0 (oC sfxr0) false:=by kernel_rfl
theorem sfxs1':sfxs1= .seq sfxr1 sfxs2:=by kernel_rfl
theorem sfxr1':sfxr1= .region 1 (oC sfxr1) false:=by kernel_rfl
theorem sfxs2':sfxs2= .seq sfxr2 sfxs3:=by kernel_rfl
theorem sfxr2':sfxr2= .region 2 (oC sfxr2) false:=by kernel_rfl
theorem sfxs3':sfxs3= .seq sfxr3 sfxs4:=by kernel_rfl
theorem sfxr3':sfxr3= .region 3 (oC sfxr3) false:=by kernel_rfl
theorem sfxs4':sfxs4= .seq sfxs5 sfxs7:=by kernel_rfl
theorem sfxs5':sfxs5= .seq sfxr4 sfxc89:=by kernel_rfl
theorem sfxc89':sfxc89= .cond (.tmp 89) sfxs6 .skip:=by kernel_rfl
theorem sfxs7':sfxs7= .seq sfxr6 sfxs8:=by kernel_rfl
theorem sfxr6':sfxr6= .region 6 (oC sfxr6) false:=by kernel_rfl
theorem sfxs8':sfxs8= .seq sfxs9 sfxs11:=by kernel_rfl
theorem sfxs9':sfxs9= .seq sfxr7 sfxc105:=by kernel_rfl
theorem sfxr7':sfxr7= .region 7 (oC sfxr7) false:=by kernel_rfl
theorem sfxc105':sfxc105= .cond (.tmp 105) sfxs10 .skip:=by kernel_rfl
theorem sfxs11':sfxs11= .seq sfxr9 sfxs12:=by kernel_rfl
theorem sfxr9':sfxr9= .region 9 (oC sfxr9) false:=by kernel_rfl
theorem sfxs12':sfxs12= .seq sfxr10 .ret:=by kernel_rfl
theorem sfxr10':sfxr10= .region 10 (oC sfxr10) false:=by kernel_rfl
theorem enter_sfx(args:Array Value):Frame.enter Try.prog 13 args .normal=(Go.Conc.base 13).at {tmps:=args++Array.replicate (124 - args.size) undef,defers:=[]} [.code sfxs0]:=enter_at args Try.func13 rfl
theorem callable13:Callable 13:=callable Try.func13 rfl rfl
def sfxT(s:Nat→Value):Array Value:= #[s 0,s 1,s 2,s 3,s 4,s 5,s 6,s 7,s 8,s 9,s 10,s 11,s 12,s 13,s 14,s 15,s 16,s 17,s 18,s 19,s 20,s 21,s 22,s 23,s 24,s 25,s 26,s 27,s 28,s 29,s 30,s 31,s 32,s 33,s 34,s 35,s 36,s 37,s 38,s 39,s 40,s 41,s 42,s 43,s 44,s 45,s 46,s 47,s 48,s 49,s 50,s 51,s 52,s 53,s 54,s 55,s 56,s 57,s 58,s 59,s 60,s 61,s 62,s 63,s 64,s 65,s 66,s 67,s 68,s 69,s 70,s 71,s 72,s 73,s 74,s 75,s 76,s 77,s 78,s 79,s 80,s 81,s 82,s 83,s 84,s 85,s 86,s 87,s 88,s 89,s 90,s 91,s 92,s 93,s 94,s 95,s 96,s 97,s 98,s 99,s 100,s 101,s 102,s 103,s 104,s 105,s 106,s 107,s 108,s 109,s 110,s 111,s 112,s 113,s 114,s 115,s 116,s 117,s 118,s 119,s 120,s 121,s 122,s 123]
theorem sfxT_of{A:Array Value}(h:A.size=124):∃s,A=sfxT s:=by
 obtain⟨s,hs,_⟩:=arr_lit A h
 exact⟨s,hs⟩
def fxW1(w:World):World:=(((((w.alloc (.cells #[.int .i64 1,.int .i64 1,.int .i64 10,.int .i64 1] 47)).alloc (.cells #[.int .i64 1,.int .i64 2] 2)).alloc (.cells #[.int .i64 3,.int .i64 1,.int .i64 0,.int .i64 0] 47)).alloc (.cells #[.slice (some ⟨w.heap.size,0,none⟩) 1 1,.slice (some ⟨w.heap.size+2,0,none⟩) 1 1] 34)).alloc (.cells #[.int .i64 1,.int .i64 1,.int .i64 0,.int .i64 0,.int .i64 0,.int .i64 0,.int .i64 0,.int .i64 1,.int .i64 1] 3))
theorem fx_0{n:Nat}(hU:Under F n)(hn:n≤w.heap.size){cs:List Frame}{main:Bool}{Stop:Goroutine→World→Prop}
 (h:∀A,Slots 124 A [(1,.slice (some ⟨w.heap.size,0,none⟩) 1 1)]→Own Try.prog main F Stop (G (Frame.enter Try.prog 15 #[.slice (some ⟨w.heap.size+1,0,none⟩) 2 2,.slice (some ⟨w.heap.size+3,0,none⟩) 2 2,.slice (some ⟨w.heap.size+4,0,none⟩) 9 9,.int .i64 99] .normal) (((Go.Conc.base 13).at ⟨A,[]⟩ [.inRegion (oC sfxr2) [6,7,8],.code sfxs3])::cs)) (fxW1 w)):
 Own Try.prog main F Stop (G (Frame.enter Try.prog 13 #[] .normal) cs) w:=by
 rw[enter_sfx]
 walk_nrm
 refine ogSR sfxs0' sfxr0' ?_
 simp only[sfxr0,sfxBody,Try.f13,zz,Nat.reduceAdd]
 (refine oW fun dd K hK=>?_;go_simp;refine qT hK ?_;clear hK K)
 refine ogE ?_
 refine ogSR sfxs1' sfxr1' ?_
 simp only[sfxr1,sfxBody,Try.f13,zz,Nat.reduceAdd]
 (refine oW fun dd K hK=>?_;go_simp;refine qT hK ?_;clear hK K)
 (refine oW fun dd K hK=>?_;go_simp;refine qA hK hU ?_;clear hK K)
 (refine oW fun dd K hK=>?_;go_simp;refine qT hK ?_;clear hK K)
 refine ogE ?_
 refine ogSR sfxs2' sfxr2' ?_
 simp only[sfxr2,sfxBody,Try.f13,zz,Nat.reduceAdd]
 (refine oW fun dd K hK=>?_;go_simp;refine qA hK hU ?_;clear hK K)
 iterate 2 (refine oW fun dd K hK=>?_;go_simp;refine qT hK ?_;clear hK K)
 iterate 3 (refine oW fun dd K hK=>?_;go_simp;refine qA hK hU ?_;clear hK K)
 refine oc callable15 #[.slice (some ⟨w.heap.size+1,0,none⟩) 2 2,.slice (some ⟨w.heap.size+3,0,none⟩) 2 2,.slice (some ⟨w.heap.size+4,0,none⟩) 9 9,.int .i64 99] ?_
 refine h _ ?_
 exact⟨rfl,rfl,trivial⟩
def fxW2(w:World)(b0:Nat)(aa oa xa:Option Addr)(al ac ol oz xl xc:Nat)(st:Bool):World:=(((((w.alloc (.cells #[.slice aa al ac,.slice oa ol oz,.slice xa xl xc,.bool st] 31)).alloc (.cells #[.int .i64 1,.int .i64 2] 2)).alloc (.cells #[.int .i64 4,.int .i64 0,.int .i64 0,.int .i64 0] 47)).alloc (.cells #[.slice (some ⟨b0,0,none⟩) 1 1,.slice (some ⟨w.heap.size+2,0,none⟩) 1 1] 34)).alloc (.cells #[.int .i64 1,.int .i64 0,.int .i64 0,.int .i64 0,.int .i64 0,.int .i64 0,.int .i64 1] 3))
theorem fx_1{n:Nat}(hU:Under F n)(hn:n≤w.heap.size){aa oa xa:Option Addr}{al ac ol oz xl xc:Nat}{st:Bool}{b0:Nat}{A:Array Value}(hA:Slots 124 A [(1,.slice (some ⟨b0,0,none⟩) 1 1)]){cs:List Frame}{main:Bool}{Stop:Goroutine→World→Prop}
 (h:∀A,Slots 124 A [(1,.slice (some ⟨b0,0,none⟩) 1 1),(2,.pointer (some ⟨w.heap.size,0,none⟩))]→Own Try.prog main F Stop (G (Frame.enter Try.prog 15 #[.slice (some ⟨w.heap.size+1,0,none⟩) 2 2,.slice (some ⟨w.heap.size+3,0,none⟩) 2 2,.slice (some ⟨w.heap.size+4,0,none⟩) 7 7,.int .i64 99] .normal) (((Go.Conc.base 13).at ⟨A,[]⟩ [.inRegion (oC sfxr3) [6,7,8],.code sfxs4])::cs)) (fxW2 w b0 aa oa xa al ac ol oz xl xc st)):
 Own Try.prog main F Stop (G (((Go.Conc.base 13).at ⟨A,[]⟩ [.inRegion (oC sfxr2) [6,7,8],.code sfxs3]).finish (.agg #[.slice aa al ac,.slice oa ol oz,.slice xa xl xc,.bool st])) cs) w:=by
 obtain⟨hsz,h1,_⟩:=hA
 obtain⟨s,rfl⟩:=sfxT_of hsz
 change s 1=_ at h1
 clear hsz
 simp only[sfxT,h1]
 clear h1
 rw[Frame.finish_at]
 simp only[sfxr2,sfxBody,Try.f13,zz,Nat.reduceAdd]
 walk_nrm
 (refine oW fun dd K hK=>?_;go_simp;refine qA hK hU ?_;clear hK K)
 (refine oW fun dd K hK=>?_;go_simp;refine hK _ _ ⟨⟨⟨0,grew4 (fun k=>not_held hU (show n≤w.heap.size by omega)) _ _ _ _⟩,fun e he=>by(have hm:=mem_listed he;clear he hK;simp[go_sem,storedEv]at hm;rcases hm with rfl|rfl|rfl|rfl<;>exact evT_write _ _ ((fun k=>not_held hU (show n≤w.heap.size by omega)) _))⟩,?_⟩;clear hK K;simp only[setCell_at'];refine Own.at ?_ dd)
 have e1:=tr_newF w (.slice none 0 0) (.slice none 0 0) (.slice none 0 0) (.bool false) (.slice aa al ac) (.slice oa ol oz) (.slice xa xl xc) (.bool st)
 rw[e1]
 clear e1
 refine ogE ?_
 refine ogSR sfxs3' sfxr3' ?_
 simp only[sfxr3,sfxBody,Try.f13,zz,Nat.reduceAdd]
 (refine oW fun dd K hK=>?_;go_simp;refine qA hK hU ?_;clear hK K)
 iterate 2 (refine oW fun dd K hK=>?_;go_simp;refine qT hK ?_;clear hK K)
 iterate 3 (refine oW fun dd K hK=>?_;go_simp;refine qA hK hU ?_;clear hK K)
 refine oc callable15 #[.slice (some ⟨w.heap.size+1,0,none⟩) 2 2,.slice (some ⟨w.heap.size+3,0,none⟩) 2 2,.slice (some ⟨w.heap.size+4,0,none⟩) 7 7,.int .i64 99] ?_
 refine h _ ?_
 exact⟨rfl,rfl,rfl,trivial⟩
theorem fx_2{n:Nat}(hU:Under F n)(hn:n≤w.heap.size){aa oa xa:Option Addr}{al ac ol oz xl xc:Nat}{st:Bool}{b0 t1:Nat}{A:Array Value}(hA:Slots 124 A [(1,.slice (some ⟨b0,0,none⟩) 1 1),(2,.pointer (some ⟨t1,0,none⟩))]){cs:List Frame}{main:Bool}{Stop:Goroutine→World→Prop}
 (h:∀A,Slots 124 A [(2,.pointer (some ⟨t1,0,none⟩)),(3,.pointer (some ⟨w.heap.size,0,none⟩))]→Own Try.prog main F Stop (G ((Go.Conc.base 13).at ⟨A,[]⟩ [.code sfxr4,.code sfxc89,.code sfxs7]) cs) (w.alloc (.cells #[.slice aa al ac,.slice oa ol oz,.slice xa xl xc,.bool st] 31))):
 Own Try.prog main F Stop (G (((Go.Conc.base 13).at ⟨A,[]⟩ [.inRegion (oC sfxr3) [6,7,8],.code sfxs4]).finish (.agg #[.slice aa al ac,.slice oa ol oz,.slice xa xl xc,.bool st])) cs) w:=by
 obtain⟨hsz,h1,h2,_⟩:=hA
 obtain⟨s,rfl⟩:=sfxT_of hsz
 change s 1=_ at h1
 change s 2=_ at h2
 clear hsz
 simp only[sfxT,h1,h2]
 clear h1 h2
 rw[Frame.finish_at]
 simp only[sfxr3,sfxBody,Try.f13,zz,Nat.reduceAdd]
 walk_nrm
 (refine oW fun dd K hK=>?_;go_simp;refine qA hK hU ?_;clear hK K)
 (refine oW fun dd K hK=>?_;go_simp;refine hK _ _ ⟨⟨⟨0,grew4 (fun k=>not_held hU (show n≤w.heap.size by omega)) _ _ _ _⟩,fun e he=>by(have hm:=mem_listed he;clear he hK;simp[go_sem,storedEv]at hm;rcases hm with rfl|rfl|rfl|rfl<;>exact evT_write _ _ ((fun k=>not_held hU (show n≤w.heap.size by omega)) _))⟩,?_⟩;clear hK K;simp only[setCell_at'];refine Own.at ?_ dd)
 have e1:=tr_newF w (.slice none 0 0) (.slice none 0 0) (.slice none 0 0) (.bool false) (.slice aa al ac) (.slice oa ol oz) (.slice xa xl xc) (.bool st)
 rw[e1]
 clear e1
 refine ogE ?_
 refine ogSE sfxs4' ?_
 refine ogSE sfxs5' ?_
 refine h _ ?_
 exact⟨rfl,rfl,rfl,trivial⟩
theorem fx_3{n:Nat}(hU:Under F n)(hn:n≤w.heap.size){A:Array Value}(hA:Slots 124 A [(89,.bool false)]){cs:List Frame}{main:Bool}{Stop:Goroutine→World→Prop}
 (h:∀A,A.size=124→Own Try.prog main F Stop (G (Frame.enter Try.prog 17 #[.slice (some ⟨w.heap.size,0,none⟩) 2 2] .normal) (((Go.Conc.base 13).at ⟨A,[]⟩ [.inRegion (oC sfxr6) [1,2],.code sfxs8])::cs)) (w.alloc (.cells #[.int .i64 1,.int .i64 2] 2))):
 Own Try.prog main F Stop (G ((Go.Conc.base 13).at ⟨A,[]⟩ [.code sfxc89,.code sfxs7]) cs) w:=by
 obtain⟨hsz,h89,_⟩:=hA
 obtain⟨s,rfl⟩:=sfxT_of hsz
 change s 89=_ at h89
 clear hsz
 simp only[sfxT,h89]
 clear h89
 rw[sfxc89']
 refine ogF ?_
 simp only[Bool.false_eq_true,if_false]
 refine ogK ?_
 refine ogSR sfxs7' sfxr6' ?_
 simp only[sfxr6,sfxBody,Try.f13,zz,Nat.reduceAdd]
 (refine oW fun dd K hK=>?_;go_simp;refine qA hK hU ?_;clear hK K)
 refine oc callable17 #[.slice (some ⟨w.heap.size,0,none⟩) 2 2] ?_
 exact h _ rfl
theorem fx_4{n:Nat}(hU:Under F n)(hn:n≤w.heap.size){lb:Nat}{A:Array Value}(hsz:A.size=124){cs:List Frame}{main:Bool}{Stop:Goroutine→World→Prop}
 (h:∀A,Slots 124 A [(4,.pointer (some ⟨lb,0,none⟩)),(94,.bool false)]→Own Try.prog main F Stop (G (Frame.enter Try.prog 24 #[.pointer (some ⟨lb,0,none⟩),.nilIface,.int .i64 1,.slice (some ⟨w.heap.size,0,none⟩) 2 2] .normal) (((Go.Conc.base 13).at ⟨A,[]⟩ [.inRegion (oC sfxr7) [5,6,7,8,9,10,11,12,13],.code sfxc105,.code sfxs11])::cs)) (w.alloc (.cells #[.int .i64 5,.int .i64 6] 2))):
 Own Try.prog main F Stop (G (((Go.Conc.base 13).at ⟨A,[]⟩ [.inRegion (oC sfxr6) [1,2],.code sfxs8]).finish (.pointer (some ⟨lb,0,none⟩))) cs) w:=by
 obtain⟨s,rfl⟩:=sfxT_of hsz
 clear hsz
 simp only[sfxT]
 rw[Frame.finish_at]
 simp only[sfxr6,sfxBody,Try.f13,zz,Nat.reduceAdd]
 walk_nrm
 (refine oW fun dd K hK=>?_;go_simp;refine qT hK ?_;clear hK K)
 refine ogE ?_
 refine ogSE sfxs8' ?_
 refine ogSR sfxs9' sfxr7' ?_
 simp only[sfxr7,sfxBody,Try.f13,zz,Nat.reduceAdd]
 iterate 4 (refine oW fun dd K hK=>?_;go_simp;refine qT hK ?_;clear hK K)
 (refine oW fun dd K hK=>?_;go_simp;refine qA hK hU ?_;clear hK K)
 refine oc callable24 #[.pointer (some ⟨lb,0,none⟩),.nilIface,.int .i64 1,.slice (some ⟨w.heap.size,0,none⟩) 2 2] ?_
 refine h _ ?_
 exact⟨rfl,rfl,rfl,trivial⟩
theorem fx_5{n:Nat}(hU:Under F n)(hn:n≤w.heap.size){lb:Nat}{A:Array Value}(hA:Slots 124 A [(4,.pointer (some ⟨lb,0,none⟩)),(94,.bool false)]){cs:List Frame}{main:Bool}{Stop:Goroutine→World→Prop}
 (h:∀A,Slots 124 A [(4,.pointer (some ⟨lb,0,none⟩)),(100,.bool false)]→Own Try.prog main F Stop (G (Frame.enter Try.prog 25 #[.pointer (some ⟨lb,0,none⟩),.nilIface,.int .i64 1,.slice (some ⟨w.heap.size,0,none⟩) 1 1] .normal) (((Go.Conc.base 13).at ⟨A,[]⟩ [.inRegion (oC sfxr7) [11,12,13],.code sfxc105,.code sfxs11])::cs)) (w.alloc (.cells #[.int .i64 1] 2))):
 Own Try.prog main F Stop (G (((Go.Conc.base 13).at ⟨A,[]⟩ [.inRegion (oC sfxr7) [5,6,7,8,9,10,11,12,13],.code sfxc105,.code sfxs11]).finish (.bool true)) cs) w:=by
 obtain⟨hsz,h4,h94,_⟩:=hA
 obtain⟨s,rfl⟩:=sfxT_of hsz
 change s 4=_ at h4
 change s 94=_ at h94
 clear hsz
 simp only[sfxT,h4,h94]
 clear h4 h94
 rw[Frame.finish_at]
 simp only[sfxr7,sfxBody,Try.f13,zz,Nat.reduceAdd]
 walk_nrm
 iterate 4 (refine oW fun dd K hK=>?_;go_simp;refine qT hK ?_;clear hK K)
 (refine oW fun dd K hK=>?_;go_simp;refine qA hK hU ?_;clear hK K)
 refine oc callable25 #[.pointer (some ⟨lb,0,none⟩),.nilIface,.int .i64 1,.slice (some ⟨w.heap.size,0,none⟩) 1 1] ?_
 refine h _ ?_
 exact⟨rfl,rfl,rfl,trivial⟩
theorem fx_6{lb:Nat}{A:Array Value}(hA:Slots 124 A [(4,.pointer (some ⟨lb,0,none⟩)),(100,.bool false)]){cs:List Frame}{main:Bool}{Stop:Goroutine→World→Prop}
 (h:∀A,Slots 124 A [(4,.pointer (some ⟨lb,0,none⟩))]→Own Try.prog main F Stop (G (Frame.enter Try.prog 26 #[.pointer (some ⟨lb,0,none⟩),.nilIface,.int .i64 1] .normal) (((Go.Conc.base 13).at ⟨A,[]⟩ [.inRegion (oC sfxr9) [1,2,3,4,5,6],.code sfxs12])::cs)) w):
 Own Try.prog main F Stop (G (((Go.Conc.base 13).at ⟨A,[]⟩ [.inRegion (oC sfxr7) [11,12,13],.code sfxc105,.code sfxs11]).finish (.bool true)) cs) w:=by
 obtain⟨hsz,h4,h100,_⟩:=hA
 obtain⟨s,rfl⟩:=sfxT_of hsz
 change s 4=_ at h4
 change s 100=_ at h100
 clear hsz
 simp only[sfxT,h4,h100]
 clear h4 h100
 rw[Frame.finish_at]
 simp only[sfxr7,sfxBody,Try.f13,zz,Nat.reduceAdd]
 walk_nrm
 iterate 2 (refine oW fun dd K hK=>?_;go_simp;refine qT hK ?_;clear hK K)
 refine ogE ?_
 rw[sfxc105']
 refine ogF ?_
 simp only[Bool.false_eq_true,if_false]
 refine ogK ?_
 refine ogSR sfxs11' sfxr9' ?_
 simp only[sfxr9,sfxBody,Try.f13,zz,Nat.reduceAdd]
 (refine oW fun dd K hK=>?_;go_simp;refine qT hK ?_;clear hK K)
 refine oc callable26 #[.pointer (some ⟨lb,0,none⟩),.nilIface,.int .i64 1] ?_
 refine h _ ?_
 exact⟨rfl,rfl,trivial⟩
theorem fx_7{n:Nat}(hU:Under F n)(hn:n≤w.heap.size){lb:Nat}{va:Option Addr}{vl vc:Nat}{A:Array Value}(hA:Slots 124 A [(4,.pointer (some ⟨lb,0,none⟩))]){cs:List Frame}{main:Bool}{Stop:Goroutine→World→Prop}
 (h:∀A,Slots 124 A [(4,.pointer (some ⟨lb,0,none⟩)),(112,.bool true)]→Own Try.prog main F Stop (G (Frame.enter Try.prog 22 #[.slice va vl vc,.slice (some ⟨w.heap.size,0,none⟩) 2 2] .normal) (((Go.Conc.base 13).at ⟨A,[]⟩ [.inRegion (oC sfxr10) [4,5,6,7,8,9,10,11,12,13],.code .ret])::cs)) (w.alloc (.cells #[.int .i64 6,.int .i64 6] 2))):
 Own Try.prog main F Stop (G (((Go.Conc.base 13).at ⟨A,[]⟩ [.inRegion (oC sfxr9) [1,2,3,4,5,6],.code sfxs12]).finish (.tuple #[.slice va vl vc,.bool true])) cs) w:=by
 obtain⟨hsz,h4,_⟩:=hA
 obtain⟨s,rfl⟩:=sfxT_of hsz
 change s 4=_ at h4
 clear hsz
 simp only[sfxT,h4]
 clear h4
 rw[Frame.finish_at]
 simp only[sfxr9,sfxBody,Try.f13,zz,Nat.reduceAdd]
 walk_nrm
 iterate 5 (refine oW fun dd K hK=>?_;go_simp;refine qT hK ?_;clear hK K)
 refine ogE ?_
 refine ogSR sfxs12' sfxr10' ?_
 simp only[sfxr10,sfxBody,Try.f13,zz,Nat.reduceAdd]
 iterate 3 (refine oW fun dd K hK=>?_;go_simp;refine qT hK ?_;clear hK K)
 (refine oW fun dd K hK=>?_;go_simp;refine qA hK hU ?_;clear hK K)
 refine oc callable22 #[.slice va vl vc,.slice (some ⟨w.heap.size,0,none⟩) 2 2] ?_
 refine h _ ?_
 exact⟨rfl,rfl,rfl,trivial⟩
theorem fx_8{lb:Nat}{A:Array Value}(hA:Slots 124 A [(4,.pointer (some ⟨lb,0,none⟩)),(112,.bool true)]){cs:List Frame}{main:Bool}{Stop:Goroutine→World→Prop}
 (h:∀A,Slots 124 A [(117,.bool true)]→Own Try.prog main F Stop (G (Frame.enter Try.prog 19 #[.pointer (some ⟨lb,0,none⟩)] .normal) (((Go.Conc.base 13).at ⟨A,[]⟩ [.inRegion (oC sfxr10) [8,9,10,11,12,13],.code .ret])::cs)) w):
 Own Try.prog main F Stop (G (((Go.Conc.base 13).at ⟨A,[]⟩ [.inRegion (oC sfxr10) [4,5,6,7,8,9,10,11,12,13],.code .ret]).finish (.bool true)) cs) w:=by
 obtain⟨hsz,h4,h112,_⟩:=hA
 obtain⟨s,rfl⟩:=sfxT_of hsz
 change s 4=_ at h4
 change s 112=_ at h112
 clear hsz
 simp only[sfxT,h4,h112]
 clear h4 h112
 rw[Frame.finish_at]
 simp only[sfxr10,sfxBody,Try.f13,zz,Nat.reduceAdd]
 walk_nrm
 iterate 3 (refine oW fun dd K hK=>?_;go_simp;refine qT hK ?_;clear hK K)
 refine oc callable19 #[.pointer (some ⟨lb,0,none⟩)] ?_
 refine h _ ?_
 exact⟨rfl,rfl,trivial⟩
theorem fx_9{A:Array Value}(hA:Slots 124 A [(117,.bool true)]){c:Frame}{cs:List Frame}{main:Bool}{Stop:Goroutine→World→Prop}
 (h:Own Try.prog main F Stop (G (c.finish (.bool true)) cs) w):
 Own Try.prog main F Stop (G (((Go.Conc.base 13).at ⟨A,[]⟩ [.inRegion (oC sfxr10) [8,9,10,11,12,13],.code .ret]).finish (.int .i64 4)) (c::cs)) w:=by
 obtain⟨hsz,h117,_⟩:=hA
 obtain⟨s,rfl⟩:=sfxT_of hsz
 change s 117=_ at h117
 clear hsz
 simp only[sfxT,h117]
 clear h117
 rw[Frame.finish_at]
 simp only[sfxr10,sfxBody,Try.f13,zz,Nat.reduceAdd]
 walk_nrm
 iterate 5 (refine oW fun dd K hK=>?_;go_simp;refine qT hK ?_;clear hK K)
 refine ogE ?_
 refine ogX ?_
 refine own_go rfl (fun d=>stepG_leave (fn:=Try.f13) (v:=.bool true) rfl rfl Try.func13 (by simp[results,Try.f13]) (by simp[results,Try.f13,go_sem])) ?_
 exact h
end
noncomputable section
variable{F:Fz}{w w':World}{kb st:Nat}
def ktkIt(ph:Nat):List Item:=match ph with
 | 1=>[.inRegion (oC ktkr1) [1],.code ktks3,.inBlock 1,.inLoop ktkb1,.inBlock 0]
 | 2=>[.inRegion (oC ktkr6) [1],.code ktks9,.inBlock 1,.inLoop ktkb1,.inBlock 0]
 | _=>[.inRegion (oC ktkr8) [1],.code ktks11,.inBlock 1,.inLoop ktkb1,.inBlock 0]
def kgvIt(ph:Nat):List Item:=match ph with
 | 1=>[.inRegion (oC kgvr0) [1],.code kgvs2,.inBlock 1,.inLoop kgvb1,.inBlock 0]
 | 2=>[.inRegion (oC kgvr2) [1],.code kgvs4,.inBlock 1,.inLoop kgvb1,.inBlock 0]
 | _=>[.inRegion (oC kgvr4) [1],.code kgvs6,.inBlock 1,.inLoop kgvb1,.inBlock 0]
def kpuIt(ph:Nat):List Item:=match ph with
 | 1=>[.inRegion (oC kpur3) [5,6,7,8,9,10],.code kpus5]
 | 2=>[.inRegion (oC kpur6) [1],.code kpus9]
 | _=>[.inRegion (oC kpur8) [6],.code kpus11]
def kpoIt(ph:Nat):List Item:=match ph with
 | 1=>[.inRegion (oC kpor3) [5,6,7,8,9,10],.code kpos5]
 | 2=>[.inRegion (oC kpor6) [1],.code kpos9]
 | _=>[.inRegion (oC kpor8) [6],.code kpos11]
def kpeIt(ph:Nat):List Item:=match ph with
 | 1=>[.inRegion (oC kper3) [1],.code kpes5]
 | 2=>[.inRegion (oC kper6) [1],.code kpes11,.inBlock 1,.inLoop kpes8,.inBlock 0,.code kpes17]
 | _=>[.inRegion (oC kper8) [1],.code kpes13,.inBlock 1,.inLoop kpes8,.inBlock 0,.code kpes17]
def kemIt(ph:Nat):List Item:=match ph with
 | _=>[.inRegion (oC kemr3) [1],.code kems5]
def kdoIt(ph:Nat):List Item:=match ph with
 | 1=>[.inRegion (oC kdor3) [4,5,6],.code .ret,.inBlock 0,.code kdos13]
 | 2=>[.inRegion (oC kdor5) [2,3,4,5,6,7],.code kdos7,.inBlock 0,.code kdos13]
 | 3=>[.inRegion (oC kdor8) [2,3,4,5,6,7],.code kdos10,.inBlock 0,.code kdos13]
 | _=>[.inRegion (oC kdor11) [2,3,4],.code .ret,.inBlock 0,.code kdos13]
structure KC where
 c:KCl
 A:Array Value
 A1:Array Value
 A2:Array Value
 ab:Nat
def KC.tk(c:KC)(ph:Nat):Frame:=(Go.Conc.base 78).at ⟨c.A,[]⟩ (ktkIt ph)
def KC.gv(c:KC)(ph:Nat):Frame:=(Go.Conc.base 80).at ⟨c.A,[]⟩ (kgvIt ph)
def KC.pu(c:KC)(ph:Nat):Frame:=(Go.Conc.base 45).at ⟨c.A1,[]⟩ (kpuIt ph)
def KC.po(c:KC)(ph:Nat):Frame:=(Go.Conc.base 43).at ⟨c.A1,[]⟩ (kpoIt ph)
def KC.pe(c:KC)(ph:Nat):Frame:=(Go.Conc.base 44).at ⟨c.A1,[]⟩ (kpeIt ph)
def KC.em(c:KC):Frame:=(Go.Conc.base 46).at ⟨c.A1,[]⟩ (kemIt 1)
def KC.do(c:KC)(ph:Nat):Frame:=(Go.Conc.base 64).at ⟨c.A2,[]⟩ (kdoIt ph)
def KC.fr(c:KC):List Frame:=match c.c.pc with
 | 10=>[c.tk 1,c.pu 1,c.do 1]
 | 11=>[c.tk 2,c.pu 1,c.do 1]
 | 12=>[c.tk 3,c.pu 1,c.do 1]
 | 13=>[c.pu 2,c.do 1]
 | 14=>[c.gv 1,c.pu 3,c.do 1]
 | 15=>[c.gv 2,c.pu 3,c.do 1]
 | 16=>[c.gv 3,c.pu 3,c.do 1]
 | 20=>[c.tk 1,c.po 1,c.do 2]
 | 21=>[c.tk 2,c.po 1,c.do 2]
 | 22=>[c.tk 3,c.po 1,c.do 2]
 | 23=>[c.po 2,c.do 2]
 | 24=>[c.gv 1,c.po 3,c.do 2]
 | 25=>[c.gv 2,c.po 3,c.do 2]
 | 26=>[c.gv 3,c.po 3,c.do 2]
 | 30=>[c.pe 1,c.do 3]
 | 31=>[c.pe 2,c.do 3]
 | 32=>[c.pe 3,c.do 3]
 | _=>[c.em,c.do 4]
end
section
variable{F:Fz}{w w':World}{kb st:Nat}
section
variable{s:KS}{n0 n1 n2 n3 n4 a:Int}{A A1 A2:Array Value}{ab:Nat}
end
section
variable{s:KS}{a b0 c0:Int}{i:Nat}
end
end
section
variable{w w':World}{kb:Nat}
structure Stepr(sv:Value)(main:Bool)(sb:Nat)(X:Nat→World→Prop):Prop where
 tick:∀(m:Nat) (w:World) (c:Frame) (cs:List Frame) (Stop:Goroutine→World→Prop),X m w→m<4611686018427387904→(∀w',X (m+1) w'→w'.heap.size=w.heap.size→(∀r,r≠sb→w'.heap[r]? =w.heap[r]?)→Own Try.prog main F0 Stop (G (c.finish (.tuple #[])) cs) w')→
  Own Try.prog main F0 Stop (G (Frame.enter Try.prog 79 #[sv] .normal) (c::cs)) w
 keep:∀(m:Nat) (w w':World),X m w→w'.heap[sb]? =w.heap[sb]?→X m w'
structure AlK(kb sb:Nat)(X:Nat→World→Prop)(w0:World)(s0 s:KS)(m:Nat)(w:World):Prop where
 u:KU kb s w
 nb:s.nb=s0.nb
 x:X m w
 sz:w.heap.size=w0.heap.size
 o:∀r,r≠sb→¬KR kb s0 r→w.heap[r]? =w0.heap[r]?
section
variable{sv:Value}{main:Bool}{sb m:Nat}{X:Nat→World→Prop}{w0:World}{s0 s s':KS}
theorem AlK.tick(h:AlK kb sb X w0 s0 s m w)(hsb:¬KR kb s0 sb)(hx:X (m+1) w')(hs:w'.heap.size=w.heap.size)(ho:∀r,r≠sb→w'.heap[r]? =w.heap[r]?):AlK kb sb X w0 s0 s (m+1) w':=
 ⟨h.u.same fun r hr=>ho r fun e=>hsb (by subst e;rcases hr with hr|hr;exact .inl hr;exact .inr (hr.trans h.nb)),h.nb,hx,hs.trans h.sz,fun r hr hk=>(ho r hr).trans (h.o r hr hk)⟩
theorem AlK.set(S:Stepr sv main sb X)(h:AlK kb sb X w0 s0 s m w)(hsb:¬KR kb s0 sb){ad:Addr}{v:Value}(hu:KU kb s' (w.setCell ad v))(hn:s'.nb=s0.nb)(ha:ad.block=kb∨ad.block=s.nb):AlK kb sb X w0 s0 s' m (w.setCell ad v):=by
 have hk:KR kb s0 ad.block:=by
  rcases ha with h1|h1
  ·exact .inl h1
  ·exact .inr (h1.trans h.nb)
 exact⟨hu,hn,S.keep m _ _ h.x (heap_setCell_ne _ _ _ fun e=>hsb (by rw[e];exact hk)),by rw[World.size_setCell];exact h.sz,fun r hr hkr=>(heap_setCell_ne _ _ _ fun e=>hkr (by rw[e];exact hk)).trans (h.o r hr hkr)⟩
end
end
section
variable{F:Fz}{w:World}
@[go_sem] theorem neq_nn(w:World):(binOp .neq 105 .nilIface .nilIface).run Try.prog w= .ok (.bool false) w:=by kernel_rfl
@[go_sem] theorem neq_nnE(w:World)(es:Array Event):(binOp .neq 105 .nilIface .nilIface).events Try.prog w es=es:=by kernel_rfl
end
section
variable{F:Fz}{w:World}
end
section
variable{w:World}
end
section
variable{An:Anchor}{w w':World}
theorem own_off{base n size:Nat}{e:TypeId}{v:Value}{xs:List Value}(h:w.ownsRow base e size v n xs)(hs:∀b c,w.heap[b]? =some (.cells c e (0,0))→base≤b→w'.heap[b]? =w.heap[b]?):w'.ownsRow base e size v n xs:=by
 refine⟨h.1,?_⟩
 rcases h.2 with h2|⟨b,cap,cur,rfl,h3,h4,h5⟩
 ·exact .inl h2
 ·exact .inr ⟨b,cap,cur,rfl,h3,(hs b cur h4 h3).trans h4,h5⟩
structure PlayU(w:World)(n:Nat)(ans:Nat→List (Bool×Int))(state:List Int)(order:List Nat)(aa:Nat)(ov sv:Value)(w':World):Prop where
 size:w.heap.size≤w'.heap.size
 old:∀(r:Nat) (c:Array Value) (e:TypeId) (z:Nat×Nat),w.heap[r]? =some (.cells c e z)→w'.heap[r]? =some (.cells c e z)
 arr:∃c,w'.heap[aa]? =some (.cells c 42 (0,0))∧c.size=n∧∀i,i<n→∃v,c[i]? =some v∧(ans i).length≤65536∧w'.ownsRow 0 44 3 v (ans i).length (ansC (ans i))
 ord:w'.ownsRow w.heap.size 3 1 ov order.length (order.map fun i:Nat=>Value.int .i64 i)
 st:w'.ownsRow w.heap.size 2 1 sv state.length (state.map fun v=>.int .i64 v)
def KSt.state(s:KSt):List Int:=[s.hd.1,s.hd.2,s.fr.1,s.fr.2]++s.vals
end
section
variable{F:Fz}{w:World}
theorem bOp(k a b c:Int):Try.prog.built 47 [(0,.int .i64 k)]=some #[.int .i64 k,.int .i64 0,.int .i64 0,.int .i64 0]:=by kernel_rfl
theorem bOp2(k a:Int):Try.prog.built 47 [(0,.int .i64 k),(1,.int .i64 a)]=some #[.int .i64 k,.int .i64 a,.int .i64 0,.int .i64 0]:=by kernel_rfl
@[go_sem] theorem run_bOp(k:Int)(w:World):(Instr.build 47 #[(0,.int .i64 k)]).run Try.prog w= .ok (.agg #[.int .i64 k,.int .i64 0,.int .i64 0,.int .i64 0]) w:=run_build w _ _ _ (bOp k 0 0 0)
@[go_sem] theorem ev_bOp(k:Int)(w:World)(es:Array Event):(Instr.build 47 #[(0,.int .i64 k)]).events Try.prog w es=es:=ev_build w es _ _ _ _ Try.underlying47 (bOp k 0 0 0)
@[go_sem] theorem run_bOp2(k a:Int)(w:World):(Instr.build 47 #[(0,.int .i64 k),(1,.int .i64 a)]).run Try.prog w= .ok (.agg #[.int .i64 k,.int .i64 a,.int .i64 0,.int .i64 0]) w:=run_build w _ _ _ (bOp2 k a)
@[go_sem] theorem ev_bOp2(k a:Int)(w:World)(es:Array Event):(Instr.build 47 #[(0,.int .i64 k),(1,.int .i64 a)]).events Try.prog w es=es:=ev_build w es _ _ _ _ Try.underlying47 (bOp2 k a)
end
section
variable{w w' w0:World}
end
section
variable{An:Anchor}{w w' w0:World}
theorem PlayU.other{w1 u:World}{n:Nat}{ans:Nat→List (Bool×Int)}{state:List Int}{order:List Nat}{aa rb:Nat}{ov sv:Value}(h:PlayU w1 n ans state order aa ov sv w')(hs:w.heap.size≤w1.heap.size)(hold:∀r,r<w.heap.size→w1.heap[r]? =w.heap[r]?)(hu:u.heap.size=w'.heap.size)(hne:∀r,r≠rb→u.heap[r]? =w'.heap[r]?)(hr:∃c z,w'.heap[rb]? =some (.cells c 31 z))(hrb:w.heap.size≤rb):PlayU w n ans state order aa ov sv u:=by
 obtain⟨cr,zr,hr⟩:=hr
 have ty:∀(b:Nat) (c:Array Value) (e:TypeId) (z:Nat×Nat),w'.heap[b]? =some (.cells c e z)→e≠31→u.heap[b]? =w'.heap[b]?:=fun b c e z hb he=>hne b fun e2=>by
  rw[e2,hr]at hb
  cases hb
  exact he rfl
 obtain⟨c,a1,a2,a3⟩:=h.arr
 refine⟨by have:=h.size;omega,fun r cc e z hr2=>?_,⟨c,(ty _ _ _ _ a1 (by decide)).trans a1,a2,fun i hi=>?_⟩,?_,?_⟩
 ·have hlt:=(alt hr2)
  rw[hne r (by omega)]
  exact h.old r cc e z ((hold r hlt).trans hr2)
 ·obtain⟨v,v1,v2,v3⟩:=a3 i hi
  exact⟨v,v1,v2,own_off v3 fun b cc hb _=>ty b cc _ _ hb (by decide)⟩
 ·exact ownsRow_mono_base hs (own_off h.ord fun b cc hb _=>ty b cc _ _ hb (by decide))
 ·exact ownsRow_mono_base hs (own_off h.st fun b cc hb _=>ty b cc _ _ hb (by decide))
end
section
variable{w w':World}
theorem RRow.drewN{w:World}{a:Option Addr}{xs:List Value}(h:RRow w a xs)(k:Nat):RRow (w.drewN k) a xs:=h.heap rfl
end
section
variable{F:Fz}{w:World}
theorem RRow.same{a:Option Addr}{xs:List Value}{w w':World}(h:RRow w a xs)(he:∀b o,a=some ⟨b,o,none⟩→w'.heap[b]? =w.heap[b]?):RRow w' a xs:=
 ⟨fun k x hx=>by
  obtain⟨b,o,h1,h2⟩:=h.c k x hx
  exact⟨b,o,h1,by simpa only[World.cell?,he b o h1]using h2⟩⟩
theorem RRow.alloc{a:Option Addr}{xs:List Value}{w:World}(h:RRow w a xs)(o:Obj):RRow (w.alloc o) a xs:=
 ⟨fun k x hx=>by
  obtain⟨b,o1,h1,h2⟩:=h.c k x hx
  exact⟨b,o1,h1,(cellB_alloc h2 o).1⟩⟩
theorem rrow_new(w:World)(xs:List Value)(e:TypeId):RRow (w.alloc (.cells xs.toArray e)) (some ⟨w.heap.size,0,none⟩) xs:=
 ⟨fun k x hx=>⟨_,_,rfl,by
  have:=heap_alloc_new w (.cells xs.toArray e)
  simp only[World.cell?,this,Nat.zero_add]
  simpa using hx⟩⟩
variable{An:Anchor}
end
section
variable{An:Anchor}{w w' w0:World}
def fxOps1:Nat→List Op4:=fun i=>if i=0 then[⟨1,1,10,1⟩]else if i=1 then[⟨3,1,0,0⟩]else[]
def fxOps2:Nat→List Op4:=fun i=>if i=0 then[⟨1,1,10,1⟩]else if i=1 then[⟨4,0,0,0⟩]else[]
def fxS1:List Int:=[1,1,0,0,0,0,0,1,1]
def fxS2:List Int:=[1,0,0,0,0,0,1]
def fxE1:GS SPl×List Nat:=gOver fxOps1 2 99 fxS1 10 (ss0 [1,2])
def fxE2:GS SPl×List Nat:=gOver fxOps2 2 99 fxS2 10 (ss0 [1,2])
theorem fxE1_done:gDone 2 99 fxE1:=by decide +kernel
theorem fxE2_done:gDone 2 99 fxE2:=by decide +kernel
theorem fxE1_st:SSt.state fxE1.1.q=[2,10,11]:=by decide +kernel
theorem fxE2_st:SSt.state fxE2.1.q=[2,10,11]:=by decide +kernel
def fxA1:List SAn:=(fxE1.1.th 1).ans
def fxA2:List SAn:=(fxE2.1.th 1).ans
theorem fxE1_ans:fxA1=[(false,0,[])]:=by decide +kernel
theorem fxE2_ans:fxA2=[(true,0,[1,11])]:=by decide +kernel
theorem gover_eq{m:Pl}{ops:Nat→List Op4}{n M:Nat}{S:List Int}{s:GS m}{f0:Nat}(hd:gDone n M (gOver ops n M S f0 s))(t:GS m×List Nat)(h:∃k,∀f,k≤f→gOver ops n M S f s=t):t=gOver ops n M S f0 s:=by
 obtain⟨k,hk⟩:=h
 rw[← hk (max k f0) (by omega)]
 exact gRounds_stays f0 _ hd _ (by omega)
theorem bld_at{X:World}{k:Nat}{c:Array Value}{e:TypeId}(h:X.heap[k]? =some (.cells c e (0,0))){j:Nat}{v:Value}(hv:c[j]? =some v):X.cell? ⟨k,j,none⟩=some v∧X.frozen? ⟨k,j,none⟩=false:=⟨by simp only[World.cell?,h];simpa using hv,by simp[World.frozen?,h]⟩
theorem fx_in{u:World}{b0 b1 bt bs:Nat}{k1 a1 x1 y1 k2 a2 x2 y2:Int}{S:List Int}(h0:u.heap[b0]? =some (.cells #[.int .i64 k1,.int .i64 a1,.int .i64 x1,.int .i64 y1] 47 (0,0)))(h1:u.heap[b1]? =some (.cells #[.int .i64 k2,.int .i64 a2,.int .i64 x2,.int .i64 y2] 47 (0,0)))(ht:u.heap[bt]? =some (.cells #[.slice (some ⟨b0,0,none⟩) 1 1,.slice (some ⟨b1,0,none⟩) 1 1] 34 (0,0)))(hs:u.heap[bs]? =some (.cells (S.map fun i:Int=>Value.int .i64 i).toArray 3 (0,0)))(hl:S.length<100):
 OpsIn u (fun _=>False) 2 bt 0 2 (some ⟨bt,0,none⟩) (fun i=>some ⟨if i=0 then b0 else b1,0,none⟩) (fun _=>1) (fun _=>1) (fun i=>if i=0 then[⟨k1,a1,x1,y1⟩]else if i=1 then[⟨k2,a2,x2,y2⟩]else[]) S (some ⟨bs,0,none⟩):=by
 refine⟨rfl,fun _=>rfl,fun _=>(alt ht),fun j hj=>?_,fun j hj=>?_,fun j hj k x hx=>?_,by omega,fun _=>⟨_,_,_,_,_,rfl,id,hs,fun k v hv=>⟨by rw[Nat.zero_add];simpa using hv,by simp⟩⟩⟩
 ·have:j=0∨j=1:=by omega
  rcases this with rfl|rfl
  ·exact⟨(bld_at ht rfl).1,(bld_at (j:=0) ht rfl).2,Nat.le_refl _⟩
  ·exact⟨(bld_at ht rfl).1,(bld_at (j:=1) ht rfl).2,Nat.le_refl _⟩
 ·have:j=0∨j=1:=by omega
  rcases this with rfl|rfl<;>rfl
 ·have:j=0∨j=1:=by omega
  rcases this with rfl|rfl
  ·have hk:k=0:=by
    have:=(List.getElem?_eq_some_iff.1 hx).1
    simp at this
    omega
   subst hk
   obtain rfl:(⟨k1,a1,x1,y1⟩:Op4)=x:=by simpa using hx
   exact⟨_,_,rfl,id,(bld_at h0 rfl).1,(bld_at h0 rfl).1,(bld_at h0 rfl).1,(bld_at h0 rfl).1,(bld_at (j:=0) h0 rfl).2,(bld_at (j:=1) h0 rfl).2,(bld_at (j:=2) h0 rfl).2,(bld_at (j:=3) h0 rfl).2⟩
  ·have hk:k=0:=by
    have:=(List.getElem?_eq_some_iff.1 hx).1
    simp at this
    omega
   subst hk
   obtain rfl:(⟨k2,a2,x2,y2⟩:Op4)=x:=by simpa using hx
   exact⟨_,_,rfl,id,(bld_at h1 rfl).1,(bld_at h1 rfl).1,(bld_at h1 rfl).1,(bld_at h1 rfl).1,(bld_at (j:=0) h1 rfl).2,(bld_at (j:=1) h1 rfl).2,(bld_at (j:=2) h1 rfl).2,(bld_at (j:=3) h1 rfl).2⟩
theorem fx_row{u:World}{vb:Nat}{vs:List Int}(h:u.heap[vb]? =some (.cells (vs.map fun i:Int=>Value.int .i64 i).toArray 2 (0,0))):InRow u (some ⟨vb,0,none⟩) vs:=fun i x hx=>⟨vb,0,rfl,by
 rw[Nat.zero_add]
 exact(bld_at h (by simp[hx])).1⟩
structure FxT(u:World)(T:Nat)(ok:Bool)(l:List Int):Prop where
 t:∃aa xa xc g cap la lc,u.cell? ⟨T,0,none⟩=some (.slice (some ⟨aa,0,none⟩) 2 2)∧u.cell? ⟨T,2,none⟩=some (.slice (some ⟨xa,0,none⟩) 3 xc)∧u.cell? ⟨aa,1,none⟩=some (.slice (some ⟨g,0,none⟩) 1 cap)∧u.cell? ⟨g,0,none⟩=some (.bool ok)∧u.cell? ⟨g,2,none⟩=some (.slice la l.length lc)∧RRow u la (l.map fun v=>.int .i64 v)∧u.cell? ⟨xa,0,none⟩=some (.int .i64 2)∧u.cell? ⟨xa,2,none⟩=some (.int .i64 11)
theorem FxT.same{u u':World}{T:Nat}{ok:Bool}{l:List Int}(h:FxT u T ok l)(hs:∀(r:Nat) (c:Array Value) (e:TypeId) (z:Nat×Nat),u.heap[r]? =some (.cells c e z)→u'.heap[r]? =some (.cells c e z)):FxT u' T ok l:=by
 obtain⟨aa,xa,xc,g,cap,la,lc,h1,h2,h3,h4,h5,h6,h7,h8⟩:=h.t
 have hc:∀{a:Addr} {v:Value},u.cell? a=some v→u'.cell? a=some v:=fun{a v} h=>by
  obtain⟨c,e,z,ho⟩:=cell_block h
  have:=hs _ _ _ _ ho
  rw[← h];unfold World.cell?;simp only[this,ho]
 refine⟨aa,xa,xc,g,cap,la,lc,hc h1,hc h2,hc h3,hc h4,hc h5,⟨fun k x hx=>?_⟩,hc h7,hc h8⟩
 obtain⟨b,o,e1,e2⟩:=h6.c k x hx
 exact⟨b,o,e1,hc e2⟩
theorem fxt_of{u u':World}{ans:Nat→List SAn}{order:List Nat}{aa:Nat}{rows:Nat→Value}{av:Nat→List SA}{oa xa:Option Addr}{oc xc:Nat}{st:Bool}{ok:Bool}{n1:Int}{l:List Int}(h:SPlayU w 2 ans [2,10,11] order aa rows av (.slice oa order.length oc) (.slice xa ([2,10,11]:List Int).length xc) u)(ha:ans 1=[(ok,n1,l)])
 (hT:u'.heap=(u.alloc (.cells #[.slice (some ⟨aa,0,none⟩) 2 2,.slice oa order.length oc,.slice xa ([2,10,11]:List Int).length xc,.bool st] 31)).heap):FxT u' u.heap.size ok l:=by
 have hn:u'.heap[u.heap.size]? =some (.cells #[.slice (some ⟨aa,0,none⟩) 2 2,.slice oa order.length oc,.slice xa ([2,10,11]:List Int).length xc,.bool st] 31 (0,0)):=by rw[hT];exact heap_alloc_new _ _
 have ho:∀r,r<u.heap.size→u'.heap[r]? =u.heap[r]?:=fun r hr=>by rw[hT];exact heap_alloc_lt _ _ hr
 have hc:∀{a:Addr} {v:Value},u.cell? a=some v→u'.cell? a=some v:=fun{a v} h=>by
  obtain⟨c,e,z,hb⟩:=cell_block h
  rw[← h];unfold World.cell?;simp only[ho _ (alt hb)]
 obtain⟨c,a1,a2,a3⟩:=h.arr
 obtain⟨r1,r2,r3,r4⟩:=h.row 1 (by decide)
 rw[ha]at r1
 obtain⟨sa,hsa⟩:∃sa,av 1=[sa]:=by
  cases hq:av 1 with
  | nil=>rw[hq]at r1;cases r1
  | cons x t=>
    cases t with
    | nil=>exact⟨x,rfl⟩
    | cons y t=>rw[hq]at r1;simp at r1
 rw[hsa]at r1 r3 r4
 have r1:sa.an=(ok,n1,l):=by simpa using r1
 obtain⟨an,la,ll,lc⟩:=sa
 simp only at r1
 subst r1
 have r3:u.ownsRow 0 44 3 (rows 1) (0+1) (SA.v ⟨(ok,n1,l),la,ll,lc⟩).cells:=by simpa using r3
 obtain⟨g,cap,hg⟩:=own_slice r3
 have hcells:(SA.v ⟨(ok,n1,l),la,ll,lc⟩).cells=[.bool ok,.int .i64 n1,.slice la ll lc]:=rfl
 rw[hcells]at r3
 obtain⟨b,cp,e1,g0⟩:=row_get (k:=0) r3 rfl
 obtain⟨b2,cp2,e2,g2⟩:=row_get (k:=2) r3 rfl
 rw[hg]at e1 e2
 cases e1
 cases e2
 have hl:SAU ⟨(ok,n1,l),la,ll,lc⟩ u:=r4 _ (by simp)
 have hl2:u.ownsRow 0 2 1 (.slice la ll lc) l.length (l.map fun v=>.int .i64 v):=hl
 have hll:ll=l.length:=by
  rcases hl2.2 with⟨e,e2⟩|⟨_,_,_,e,_⟩
  ·cases e
   omega
  ·cases e
   rfl
 have hst:=h.st
 obtain⟨bx,cx,ex,x0⟩:=row_get (k:=0) hst rfl
 obtain⟨bx2,cx2,ex2,x2⟩:=row_get (k:=2) hst rfl
 cases ex
 cases ex2
 refine⟨aa,bx,xc,g,cap,la,lc,(bld_at hn rfl).1,(bld_at hn rfl).1,hc ?_,hc g0.c,hc (hll ▸ g2.c),?_,hc x0.c,hc x2.c⟩
 ·have:=a3 1 (by decide)
  rw[hg]at this
  exact(bld_at a1 this).1
 ·refine⟨fun k x hx=>?_⟩
  obtain⟨b,cp,e,hk⟩:=row_get hl2 hx
  cases e
  exact⟨b,0,rfl,by rw[Nat.zero_add];exact hc hk.c⟩
theorem fx_r4{T1 T2:Nat}{b1:Bool}{l1:List Int}(h1:FxT w T1 false l1)(h2:FxT w T2 b1 [1,11]){A:Array Value}(hA:Slots 124 A [(2,.pointer (some ⟨T1,0,none⟩)),(3,.pointer (some ⟨T2,0,none⟩))]):
 sfxr4.wp Try.prog (nrm fun a u=>a.defers=[]∧(a.tmps.size=124∧a.tmps.getD 89 undef= .bool false∧w.heap.size≤u.heap.size∧∀r,r<w.heap.size→u.heap[r]? =w.heap[r]?)) ⟨A,[]⟩ w:=by
 obtain⟨hsz,h02,h03,_⟩:=hA
 obtain⟨s,rfl⟩:=sfxT_of hsz
 change s 2=_ at h02
 change s 3=_ at h03
 clear hsz
 obtain⟨aa,xa,xc,g,cap,la,lc,c1,c2,c3,c4,c5,c6,c7,c8⟩:=h1.t
 obtain⟨aa2,xa2,xc2,g2,cap2,la2,lc2,d1,d2,d3,d4,d5,d6,d7,d8⟩:=h2.t
 have C:Aside (Calls Try.prog 22 #[.slice la2 2 lc2,.slice (some ⟨w.heap.size,0,none⟩) 2 2] (w.alloc (.cells #[.int .i64 1,.int .i64 11] 2)) fun x w'=>x= .returned (.bool true)∧w'.heap=(w.alloc (.cells #[.int .i64 1,.int .i64 11] 2)).heap):=
  same22 (xs:=[1,11]) (by decide) (d6.alloc _) (rrow_new w ([1,11].map fun v=>.int .i64 v) 2)
 clear h1 h2 c5 c6 d4 d6 d7 d8 d2
 simp only[sfxr4,sfxBody,pC,Try.f13,Option.getD_some,sfxT,h02,h03,List.append_eq,List.append,List.cons_append,List.nil_append]
 clear h02 h03
 go_wp2_with (go_at_call 22;refine C.out.mono ?_;rintro e w1 ⟨rfl,hw1⟩;have W1:Aside (w1.heap=(w.alloc (.cells #[.int .i64 1,.int .i64 11] 2)).heap):=hw1;clear hw1)
 refine⟨rfl,rfl,rfl,?_,fun r hr=>?_⟩
 ·rw[W1.out];simp
 ·rw[W1.out];exact heap_alloc_lt _ _ hr
end
section
variable{An:Anchor}{w w' w0:World}
def Keep(w w':World):Prop:=w.heap.size≤w'.heap.size∧∀(r:Nat) (c:Array Value) (e:TypeId) (z:Nat×Nat),w.heap[r]? =some (.cells c e z)→w'.heap[r]? =some (.cells c e z)
theorem Keep.refl(w:World):Keep w w:=⟨Nat.le_refl _,fun _ _ _ _ h=>h⟩
theorem Keep.trans{a b c:World}(h1:Keep a b)(h2:Keep b c):Keep a c:=⟨Nat.le_trans h1.1 h2.1,fun r x e z h=>h2.2 r x e z (h1.2 r x e z h)⟩
theorem Keep.of(h1:w.heap.size≤w'.heap.size)(h2:∀r,r<w.heap.size→w'.heap[r]? =w.heap[r]?):Keep w w':=⟨h1,fun r c e z h=>(h2 r (alt h)).trans h⟩
theorem vs_new(X:World)(vs:List Int):VS (X.alloc (.cells (vs.map fun i:Int=>Value.int .i64 i).toArray 2)) (some ⟨X.heap.size,0,none⟩) vs:=fun _=>⟨_,rfl,fun i hi=>(bld_at (heap_alloc_new _ _) (by simp[List.getD_eq_getElem?_getD,hi])).1⟩
theorem vap_new{lb:Nat}{s:SS}{X:World}(h:SU lb s X):VApart lb none s (some ⟨X.heap.size,0,none⟩):=fun y hy=>by
 cases hy
 have h1:=h.low (r:=lb) (.inl rfl)
 have h2:=h.low (r:=s.wb) (.inr rfl)
 exact⟨by simp only;omega,by simp only;omega,by simp⟩
theorem AlS.alloc{lb m:Nat}{main:Bool}{s:SS}{X:World}(h:AlS lb none (fun _ _=>True) w0 s m X)(o:Obj):AlS lb none (fun _ _=>True) w0 s m (X.alloc o):=
 h.grow (nilSS main) (by simp) (fun r hr=>heap_alloc_lt _ _ (Nat.lt_of_lt_of_le hr h.sz)) (fun r hr=>heap_alloc_lt _ _ (h.u.low hr)) (fun b hb=>by cases hb)
theorem AlS.heap{lb m:Nat}{main:Bool}{s:SS}{X Y:World}(h:AlS lb none (fun _ _=>True) w0 s m X)(e:Y.heap=X.heap):AlS lb none (fun _ _=>True) w0 s m Y:=
 h.grow (nilSS main) (by rw[e];exact Nat.le_refl _) (fun r hr=>by rw[e]) (fun r hr=>by rw[e]) (fun b hb=>by cases hb)
theorem fx_calls{A:Array Value}(hA:Slots 124 A [(89,.bool false)]){c:Frame}{cs:List Frame}{main:Bool}{Stop:Goroutine→World→Prop}
 (K:∀w',w.heap.size≤w'.heap.size→(∀r,r<w.heap.size→w'.heap[r]? =w.heap[r]?)→Own Try.prog main F0 Stop (G (c.finish (.bool true)) cs) w'):
 Own Try.prog main F0 Stop (G ((Go.Conc.base 13).at ⟨A,[]⟩ [.code sfxc89,.code sfxs7]) (c::cs)) w:=by
 refine fx_3 under_F0 (Nat.zero_le _) hA fun A hA=>?_
 have hs0:(w.alloc (.cells #[.int .i64 1,.int .i64 2] 2)).heap.size=w.heap.size+1:=by simp
 have ho0:∀r,r<w.heap.size→(w.alloc (.cells #[.int .i64 1,.int .i64 2] 2)).heap[r]? =w.heap[r]?:=fun r hr=>heap_alloc_lt _ _ hr
 have hv0:InRow (w.alloc (.cells #[.int .i64 1,.int .i64 2] 2)) (some ⟨w.heap.size,0,none⟩) [1,2]:=fx_row (heap_alloc_new _ _)
 generalize w.alloc (.cells #[.int .i64 1,.int .i64 2] 2)=W0 at hs0 ho0 hv0 ⊢
 refine own_snew (xs:=[1,2]) hv0 (by decide) fun W1 hU hs1 ho1=>?_
 have hk1:∀r,r<w.heap.size→W1.heap[r]? =w.heap[r]?:=fun r hr=>(ho1 r (by omega)).trans (ho0 r hr)
 have a1:AlS (W0.heap.size+1) none (fun _ _=>True) W1 ⟨snew [1,2],W0.heap.size,0⟩ 0 W1:=⟨hU,trivial,Nat.le_refl _,fun _ _ _ _ _=>rfl⟩
 refine fx_4 under_F0 (Nat.zero_le _) hA fun A hA=>?_
 refine own_write_al1 (nilSS main) (a1.alloc (main:=main) _) (fun _ h=>by cases h) rfl (by decide) (vs:=[5,6]) (vs_new W1 [5,6]) (vap_new hU) fun W2 a2=>?_
 refine fx_5 under_F0 (Nat.zero_le _) hA fun A hA=>?_
 refine own_write_al2 (nilSS main) (a2.alloc (main:=main) _) (fun _ h=>by cases h) (show((snew [1,2]).wrote 1 [5,6]).ver.tmod 2=0 by decide) (show 0+(snew [1,2]).ws.length+3+32<4611686018427387904 by decide) (vs:=[1]) (vs_new W2 [1]) (vap_new a2.u) fun W3 a3=>?_
 refine fx_6 hA fun A hA=>?_
 refine own_read_al (nilSS main) a3 (fun _ h=>by cases h) (fun _ h=>by cases h) (show(((snew [1,2]).wrote 1 [5,6]).wrote 2 [1]).ver.tmod 2=0 by decide) (show 0+(snew [1,2]).ws.length+3+((snew [1,2]).wrote 1 [5,6]).ws.length+3+64<4611686018427387904 by decide) fun W4 ov a4 hr hs4 ho4=>?_
 have e6:(((snew [1,2]).wrote 1 [5,6]).wrote 2 [1]).ws=[6,6]:=by decide
 have hrow:=hr.row
 simp only[e6]at hrow
 obtain⟨la,ll,lc,hov⟩:=row_slice hrow
 subst hov
 have hll:ll=2:=by
  rcases hrow.2 with⟨_,h⟩|⟨_,_,_,e,_⟩
  ·simp at h
  ·cases e;rfl
 subst hll
 refine fx_7 under_F0 (Nat.zero_le _) hA fun A hA=>?_
 refine own_same22 (xs:=[6,6]) (by decide) ((rrow_of hrow).alloc _) (rrow_new W4 ([6,6].map fun v=>.int .i64 v) 2) fun W5 e5=>?_
 have a5:=(a4.alloc (main:=main) (.cells #[.int .i64 6,.int .i64 6] 2)).heap (main:=main) e5
 refine fx_8 hA fun A hA=>?_
 refine own_svers (v:=4) a5.u.v.c fun W6 e7=>?_
 have a6:=a5.heap (main:=main) e7
 refine fx_9 hA (K W6 ?_ fun r hr=>?_)
 ·have:=a6.sz
  omega
 ·rw[a6.o r (by omega) (by simp) (by omega) (by simp only;omega)]
  exact hk1 r hr
theorem bes_fixed{c:Frame}{cs:List Frame}{Stop:Goroutine→World→Prop}(K:∀w',Keep w w'→Bes An Try.prog Stop (G (c.finish (.bool true)) cs) w'):
 Bes An Try.prog Stop (G (Frame.enter Try.prog 13 #[] .normal) (c::cs)) w:=by
 refine bes_own (F:=F0) (Stop:=fun a u=>∃A,Slots 124 A [(1,.slice (some ⟨w.heap.size,0,none⟩) 1 1)]∧u.heap=(fxW1 w).heap∧a=G (Frame.enter Try.prog 15 #[.slice (some ⟨w.heap.size+1,0,none⟩) 2 2,.slice (some ⟨w.heap.size+3,0,none⟩) 2 2,.slice (some ⟨w.heap.size+4,0,none⟩) 9 9,.int .i64 99] .normal) (((Go.Conc.base 13).at ⟨A,[]⟩ [.inRegion (oC sfxr2) [6,7,8],.code sfxs3])::c::cs))
  (fx_0 under_F0 (Nat.zero_le _) fun A hA=>.stop fun d=>⟨A,hA,rfl,rfl⟩) fun a u ⟨A,hA,hu,ha⟩=>?_
 subst ha
 have k1:Keep w u:=by
  refine .of (by rw[hu];simp[fxW1];omega) fun r hr=>?_
  rw[hu]
  simp only[fxW1]
  rw[heap_alloc_lt _ _ (by simp;omega),heap_alloc_lt _ _ (by simp;omega),heap_alloc_lt _ _ (by simp;omega),heap_alloc_lt _ _ (by simp;omega),heap_alloc_lt _ _ hr]
 have b0:u.heap[w.heap.size]? =some (.cells #[.int .i64 1,.int .i64 1,.int .i64 10,.int .i64 1] 47 (0,0)):=by
  rw[hu]
  simp only[fxW1]
  rw[heap_alloc_lt _ _ (by simp;try omega),heap_alloc_lt _ _ (by simp;try omega),heap_alloc_lt _ _ (by simp;try omega),heap_alloc_lt _ _ (by simp)]
  exact heap_alloc_new _ _
 have b1:u.heap[w.heap.size+1]? =some (.cells #[.int .i64 1,.int .i64 2] 2 (0,0)):=by
  rw[hu]
  simp only[fxW1]
  rw[heap_alloc_lt _ _ (by simp;try omega),heap_alloc_lt _ _ (by simp;try omega),heap_alloc_lt _ _ (by simp)]
  exact new_at (by simp) _
 have b2:u.heap[w.heap.size+2]? =some (.cells #[.int .i64 3,.int .i64 1,.int .i64 0,.int .i64 0] 47 (0,0)):=by
  rw[hu]
  simp only[fxW1]
  rw[heap_alloc_lt _ _ (by simp;try omega),heap_alloc_lt _ _ (by simp)]
  exact new_at (by simp) _
 have b3:u.heap[w.heap.size+3]? =some (.cells #[.slice (some ⟨w.heap.size,0,none⟩) 1 1,.slice (some ⟨w.heap.size+2,0,none⟩) 1 1] 34 (0,0)):=by
  rw[hu]
  simp only[fxW1]
  rw[heap_alloc_lt _ _ (by simp)]
  exact new_at (by simp) _
 have b4:u.heap[w.heap.size+4]? =some (.cells (fxS1.map fun i:Int=>Value.int .i64 i).toArray 3 (0,0)):=by
  rw[hu]
  simp only[fxW1]
  exact new_at (by simp) _
 clear hu
 refine bes_splay (va:=some ⟨w.heap.size+1,0,none⟩) (vs:=[1,2]) (S:=fxS1) (fx_row b1) (by decide) (fx_in b0 b2 b3 b4 (by decide)) (M:=99) rfl fun s order hd hk aa rows av oa' oc' xa xc u1 hP=>?_
 obtain⟨rfl,rfl⟩:s=fxE1.1∧order=fxE1.2:=by
  have:=gover_eq fxE1_done (s,order) hk
  exact⟨congrArg Prod.fst this,congrArg Prod.snd this⟩
 have hst:=fxE1_st
 generalize fxE1.2=order at hP ⊢
 generalize decide (0<cnt fxE1.1.live 2)=lv
 have ha1:(fun i=>((fxE1.1.th i).ans:List SAn)) 1=[(false,0,[])]:=fxE1_ans
 generalize (fun i=>((fxE1.1.th i).ans:List SAn))=an1 at hP ha1
 rw[hst]at hP ⊢
 have k2:Keep u u1:=⟨hP.size,hP.old⟩
 have b0:=k2.2 _ _ _ _ b0
 clear hk hd b1 b2 b3 b4
 refine bes_own (F:=F0) (Stop:=fun a v=>∃A,Slots 124 A [(1,.slice (some ⟨w.heap.size,0,none⟩) 1 1),(2,.pointer (some ⟨u1.heap.size,0,none⟩))]∧v.heap=(fxW2 u1 w.heap.size (some ⟨aa,0,none⟩) oa' xa 2 2 order.length oc' ([2,10,11]:List Int).length xc lv).heap∧a=G (Frame.enter Try.prog 15 #[.slice (some ⟨u1.heap.size+1,0,none⟩) 2 2,.slice (some ⟨u1.heap.size+3,0,none⟩) 2 2,.slice (some ⟨u1.heap.size+4,0,none⟩) 7 7,.int .i64 99] .normal) (((Go.Conc.base 13).at ⟨A,[]⟩ [.inRegion (oC sfxr3) [6,7,8],.code sfxs4])::c::cs))
  (fx_1 under_F0 (Nat.zero_le _) hA fun A hA=>.stop fun d=>⟨A,hA,rfl,rfl⟩) fun a v ⟨A,hA,hv,ha⟩=>?_
 subst ha
 have hW:∀r,r<u1.heap.size+1→v.heap[r]? =(u1.alloc (.cells #[.slice (some ⟨aa,0,none⟩) 2 2,.slice oa' order.length oc',.slice xa ([2,10,11]:List Int).length xc,.bool lv] 31)).heap[r]?:=fun r hr=>by
  rw[hv]
  simp only[fxW2]
  rw[heap_alloc_lt _ _ (by simp;omega),heap_alloc_lt _ _ (by simp;omega),heap_alloc_lt _ _ (by simp;omega),heap_alloc_lt _ _ (by simp;omega)]
 have hvs:v.heap.size=u1.heap.size+5:=by rw[hv];simp[fxW2]
 have k3:Keep u1 v:=.of (by omega) fun r hr=>(hW r (by omega)).trans (heap_alloc_lt _ _ hr)
 have t1:=fxt_of hP ha1 (u':=u1.alloc (.cells #[.slice (some ⟨aa,0,none⟩) 2 2,.slice oa' order.length oc',.slice xa ([2,10,11]:List Int).length xc,.bool lv] 31)) rfl
 have t2:FxT v u1.heap.size false []:=t1.same fun r cc e z h=>(hW r (by have:=(alt h);simpa using this)).trans h
 have b0:=k3.2 _ _ _ _ b0
 have b1:v.heap[u1.heap.size+1]? =some (.cells #[.int .i64 1,.int .i64 2] 2 (0,0)):=by
  rw[hv]
  simp only[fxW2]
  rw[heap_alloc_lt _ _ (by simp;try omega),heap_alloc_lt _ _ (by simp;try omega),heap_alloc_lt _ _ (by simp)]
  exact new_at (by simp) _
 have b2:v.heap[u1.heap.size+2]? =some (.cells #[.int .i64 4,.int .i64 0,.int .i64 0,.int .i64 0] 47 (0,0)):=by
  rw[hv]
  simp only[fxW2]
  rw[heap_alloc_lt _ _ (by simp;try omega),heap_alloc_lt _ _ (by simp)]
  exact new_at (by simp) _
 have b3:v.heap[u1.heap.size+3]? =some (.cells #[.slice (some ⟨w.heap.size,0,none⟩) 1 1,.slice (some ⟨u1.heap.size+2,0,none⟩) 1 1] 34 (0,0)):=by
  rw[hv]
  simp only[fxW2]
  rw[heap_alloc_lt _ _ (by simp)]
  exact new_at (by simp) _
 have b4:v.heap[u1.heap.size+4]? =some (.cells (fxS2.map fun i:Int=>Value.int .i64 i).toArray 3 (0,0)):=by
  rw[hv]
  simp only[fxW2]
  exact new_at (by simp) _
 clear hv hW
 refine bes_splay (va:=some ⟨u1.heap.size+1,0,none⟩) (vs:=[1,2]) (S:=fxS2) (fx_row b1) (by decide) (fx_in b0 b2 b3 b4 (by decide)) (M:=99) rfl fun s order2 hd hk aa2 rows2 av2 oa2 oc2 xa2 xc2 v1 hP2=>?_
 obtain⟨rfl,rfl⟩:s=fxE2.1∧order2=fxE2.2:=by
  have:=gover_eq fxE2_done (s,order2) hk
  exact⟨congrArg Prod.fst this,congrArg Prod.snd this⟩
 have hst:=fxE2_st
 generalize fxE2.2=order2 at hP2 ⊢
 generalize decide (0<cnt fxE2.1.live 2)=lv2
 have ha2:(fun i=>((fxE2.1.th i).ans:List SAn)) 1=[(true,0,[1,11])]:=fxE2_ans
 generalize (fun i=>((fxE2.1.th i).ans:List SAn))=an2 at hP2 ha2
 rw[hst]at hP2 ⊢
 have k4:Keep v v1:=⟨hP2.size,hP2.old⟩
 clear hk hd b0 b1 b2 b3 b4
 refine bes_own (F:=F0) (Stop:=fun a u2=>a=G (c.finish (.bool true)) cs∧v1.heap.size≤u2.heap.size∧∀r,r<v1.heap.size→u2.heap[r]? =v1.heap[r]?)
  (fx_2 under_F0 (Nat.zero_le _) hA fun A hA=>?_) fun a u2 ⟨ha,hs2,ho2⟩=>?_
 ·have q1:=fxt_of hP2 ha2 (u':=v1.alloc (.cells #[.slice (some ⟨aa2,0,none⟩) 2 2,.slice oa2 order2.length oc2,.slice xa2 ([2,10,11]:List Int).length xc2,.bool lv2] 31)) rfl
  have ho:∀r,r<v1.heap.size→(v1.alloc (.cells #[.slice (some ⟨aa2,0,none⟩) 2 2,.slice oa2 order2.length oc2,.slice xa2 ([2,10,11]:List Int).length xc2,.bool lv2] 31)).heap[r]? =v1.heap[r]?:=fun r hr=>heap_alloc_lt _ _ hr
  have hz:(v1.alloc (.cells #[.slice (some ⟨aa2,0,none⟩) 2 2,.slice oa2 order2.length oc2,.slice xa2 ([2,10,11]:List Int).length xc2,.bool lv2] 31)).heap.size=v1.heap.size+1:=by simp
  generalize v1.alloc (.cells #[.slice (some ⟨aa2,0,none⟩) 2 2,.slice oa2 order2.length oc2,.slice xa2 ([2,10,11]:List Int).length xc2,.bool lv2] 31)=V at q1 ho hz ⊢
  have q2:FxT V u1.heap.size false []:=(t2.same k4.2).same fun r cc e z h=>(ho r (alt h)).trans h
  refine own_piece closed22 prog_late (by kernel_rfl) (R:=fun A u=>A.size=124∧A.getD 89 undef= .bool false∧V.heap.size≤u.heap.size∧∀r,r<V.heap.size→u.heap[r]? =V.heap[r]?) (by decide) (fun τ e=>fx_r4 (w:=retape V τ e) (q2.same fun _ _ _ _ h=>h) (q1.same fun _ _ _ _ h=>h) hA) fun A2 w2 τ e hR hg=>?_
  obtain⟨r1,r2,r3,r4⟩:=hR
  refine fx_calls ⟨r1,r2,trivial⟩ fun w3 hs3 ho3=>.stop fun d=>⟨rfl,?_,fun r hr=>?_⟩
  ·have r3:V.heap.size≤w2.heap.size:=r3
   show _≤w3.heap.size
   have hs3:w2.heap.size≤w3.heap.size:=hs3
   omega
  ·have r3:V.heap.size≤w2.heap.size:=r3
   have r4:w2.heap[r]? =V.heap[r]?:=r4 r (by omega)
   have h3:w3.heap[r]? =w2.heap[r]?:=ho3 r (by show r<w2.heap.size;omega)
   exact h3.trans (r4.trans (ho r hr))
 ·subst ha
  exact K u2 (k1.trans (k2.trans (k3.trans (k4.trans (.of hs2 ho2)))))
end
section
variable{An:Anchor}{P:Program}{F:Fz}{fn:FuncId}{ops:Array Oper}{S:World→Prop}{last:Nat}{Z:Act→World→Prop}
def CalleeB(An:Anchor)(P:Program)(f:FuncId)(args:Array Value)(Post:Value→World→Prop)(w:World):Prop:=
 ∀(c:Frame) (cs:List Frame) (Stop:Goroutine→World→Prop),(∀v w',Post v w'→Bes An P Stop (G (c.finish v) cs) w')→Bes An P Stop (G (Frame.enter P f args .normal) (c::cs)) w
def OpB(An:Anchor)(P:Program)(F:Fz)(fn:FuncId)(ops:Array Oper)(i:Nat)(K:Act→World→Prop)(a:Act)(w:World):Prop:=
 ∃o,ops[i]? =some o∧((Region.wanted o (yielded ops a.tmps)=true∧∀d,uponK o a (fun a' w'=>GuarE F (w.at d) w' (listed P fn a o (w.at d))∧K a' w') ((execOp a.eval o).run P (w.at d)))∨
  (Region.wanted o (yielded ops a.tmps)=false∧K (a.put o.dst undef) w)∨
  (Region.wanted o (yielded ops a.tmps)=true∧∃f args Post,(∀w,(execOp a.eval o).run P w= .ok (.enter f args) w)∧(∀w,(execOp a.eval o).events P w #[]= #[])∧(∀d,CalleeB An P f args Post (w.at d))∧∀v w',Post v w'→K (a.put o.dst v) w'))
def AnyB(An:Anchor)(P:Program)(F:Fz)(fn:FuncId)(ops:Array Oper)(S:World→Prop)(last:Nat)(Z:Act→World→Prop):Nat→Array Bool→Act→World→Prop
 | 0,listed,a,w=>((∀j∈Region.ready .any ops listed,j=last)→Z a w)∧∀j∈Region.ready .any ops listed,j=last
 | fuel+1,listed,a,w=>((∀j∈Region.ready .any ops listed,j=last)→Z a w)∧∀i∈Region.ready .any ops listed,i≠last→OpB An P F fn ops i (fun a w=>S w∧AnyB An P F fn ops S last Z fuel (listed.setIfInBounds i true) a w) a w
theorem OpB_mono{i:Nat}{a:Act}{w:World}{K K':Act→World→Prop}(h:∀a w,K a w→K' a w)(hh:OpB An P F fn ops i K a w):OpB An P F fn ops i K' a w:=by
 obtain⟨o,h1,⟨h2,h3⟩|⟨h2,h3⟩|⟨h2,f,args,Post,r1,r2,r3,r4⟩⟩:=hh
 ·exact⟨o,h1,.inl ⟨h2,fun d=>uponK_mono (fun u w ⟨x,y⟩=>⟨x,h _ _ y⟩) (h3 d)⟩⟩
 ·exact⟨o,h1,.inr (.inl ⟨h2,h _ _ h3⟩)⟩
 ·exact⟨o,h1,.inr (.inr ⟨h2,f,args,Post,r1,r2,r3,fun v w' hp=>h _ _ (r4 v w' hp)⟩)⟩
theorem OpB_at{i:Nat}{a:Act}{w:World}{K:Act→World→Prop}(hK:∀a w d,K a w→K a (World.at w d))(h:OpB An P F fn ops i K a w)(d:Nat):OpB An P F fn ops i K a (w.at d):=by
 obtain⟨o,h1,⟨h2,h3⟩|⟨h2,h3⟩|⟨h2,f,args,Post,r1,r2,r3,r4⟩⟩:=h
 ·exact⟨o,h1,.inl ⟨h2,fun d'=>by rw[at_at'];exact h3 d'⟩⟩
 ·exact⟨o,h1,.inr (.inl ⟨h2,hK _ _ _ h3⟩)⟩
 ·exact⟨o,h1,.inr (.inr ⟨h2,f,args,Post,r1,r2,fun d'=>by rw[at_at'];exact r3 d',r4⟩)⟩
theorem anyB_at(hS:∀w d,S w→S (World.at w d))(hZ:∀a w d,Z a w→Z a (World.at w d)):∀(fuel:Nat) (listed:Array Bool) (a:Act) (w:World),AnyB An P F fn ops S last Z fuel listed a w→∀d,AnyB An P F fn ops S last Z fuel listed a (w.at d):=by
 intro fuel
 induction fuel with
 | zero=>exact fun listed a w h d=>⟨fun x=>hZ _ _ _ (h.1 x),h.2⟩
 | succ fuel ih=>exact fun listed a w h d=>⟨fun x=>hZ _ _ _ (h.1 x),fun i hi hl=>OpB_at (fun a w d ⟨x,y⟩=>⟨hS _ _ x,ih _ _ _ y d⟩) (h.2 i hi hl) d⟩
theorem OpB_put{i j:Nat}{oi oj:Oper}{v:Value}(hj:ops[j]? =some oj)(hap:oi.apart ops oj=true)(hsj:∀cs b,oj.op≠.select cs b){K:Act→World→Prop}{a:Act}{w:World}
 (h:OpB An P F fn ops j K (a.put oi.dst v) w):OpB An P F fn ops j (fun a' w'=>∃u,a'=a.put oj.dst u∧K (a'.put oi.dst v) w') a w:=by
 obtain⟨h1,h2,h3⟩:=Oper.apart_spec hap
 obtain⟨o,ho,hh⟩:=h
 rw[hj]at ho
 cases ho
 have e1:execOp (a.put oi.dst v).eval oj=execOp a.eval oj:=execOp_put oj hsj a oi.dst v h1
 have e2:=wanted_put oj a oi.dst v h1
 refine⟨oj,hj,?_⟩
 unfold listed at*
 rw[e1,e2]at hh
 rcases hh with⟨hw,hh⟩|⟨hw,hh⟩|⟨hw,f,args,Post,r1,r2,r3,r4⟩
 ·refine .inl ⟨hw,fun d=>?_⟩
  have:=hh d
  cases hr:(execOp a.eval oj).run P (w.at d)with
  | halt _ _=>rw[hr]at this;exact this
  | ok x w'=>
    rw[hr]at this
    cases x with
    | value u=>exact⟨this.1,u,rfl,by rw[← Act.put_comm a v u h2];exact this.2⟩
    | skip=>exact⟨this.1,undef,rfl,by rw[← Act.put_comm a v undef h2];exact this.2⟩
    | _=>exact this
 ·exact .inr (.inl ⟨hw,undef,rfl,by rw[← Act.put_comm a v undef h2];exact hh⟩)
 ·exact .inr (.inr ⟨hw,f,args,Post,r1,r2,r3,fun u w' hp=>⟨u,rfl,by rw[← Act.put_comm a v u h2];exact r4 u w' hp⟩⟩)
theorem anyB_first(hS:∀w d,S w→S (World.at w d))(hZ:∀a w d,Z a w→Z a (World.at w d)){i:Nat}{oi:Oper}{v:Value}(hi:ops[i]? =some oi)(hil:i≠last)(hsel:∀(j:Nat) (o:Oper) cs b,ops[j]? =some o→o.op≠.select cs b):
 ∀(fuel:Nat) (listed:Array Bool) (a:Act) (w:World),S w→
  (∀j oj,ops[j]? =some oj→j≠i→listed.getD j true=false→(∀e∈oj.after,Region.binds .any e=true→e.on≠i)→oi.apart ops oj=true)→
  i∈Region.ready .any ops listed→(∀w,S w→YQ P F fn ops w oi v a)→
  AnyB An P F fn ops S last Z fuel (listed.setIfInBounds i true) (a.put oi.dst v) w→AnyB An P F fn ops S last Z (fuel+1) listed a w:=by
 have self:∀(fuel:Nat) (listed:Array Bool) (a:Act) (w:World),S w→(∀w,S w→YQ P F fn ops w oi v a)→AnyB An P F fn ops S last Z fuel (listed.setIfInBounds i true) (a.put oi.dst v) w→
  OpB An P F fn ops i (fun a w=>S w∧AnyB An P F fn ops S last Z fuel (listed.setIfInBounds i true) a w) a w:=by
  intro fuel listed a w hw hy H
  rcases hy w hw with⟨h1,h2⟩|⟨h1,rfl⟩
  ·exact⟨oi,hi,.inl ⟨h1,fun d=>by rw[(h2 d).1];exact⟨⟨⟨0,Grew.refl F _⟩,(h2 d).2⟩,hS _ _ hw,anyB_at hS hZ _ _ _ _ H d⟩⟩⟩
  ·exact⟨oi,hi,.inr (.inl ⟨h1,hw,H⟩)⟩
 intro fuel
 induction fuel with
 | zero=>
   intro listed a w hw _ hr hy H
   refine⟨fun h=>absurd (h i hr) hil,fun j hj hjl=>?_⟩
   by_cases hji:j=i
   ·subst hji;exact self _ _ _ _ hw hy H
   ·exact absurd (H.2 j (ready_mono hj hji)) hjl
 | succ fuel ih=>
   intro listed a w hw hfree hr hy H
   refine⟨fun h=>absurd (h i hr) hil,fun j hj hjl=>?_⟩
   by_cases hji:j=i
   ·subst hji;exact self _ _ _ _ hw hy H
   ·have h1:=H.2 j (ready_mono hj hji) hjl
    obtain⟨hjun,oj,hoj,hall⟩:=mem_ready.1 hj
    have hnot:∀e∈oj.after,Region.binds .any e=true→e.on≠i:=fun e he hb heq=>by
     have h1:=hall e he hb
     have h0:=(mem_ready.1 hr).1
     rw[heq]at h1
     rcases Nat.lt_or_ge i listed.size with h'|h'
     ·simp[h']at h0 h1;rw[h0]at h1;cases h1
     ·simp[Array.getElem?_eq_none h']at h1
    have hap:=hfree j oj hoj hji hjun hnot
    obtain⟨p1,p2,p3⟩:=Oper.apart_spec hap
    have h2:=OpB_put (i:=i) (oi:=oi) hoj hap (fun cs b=>hsel j oj cs b hoj) h1
    have hfree':∀k ok,ops[k]? =some ok→k≠i→(listed.setIfInBounds j true).getD k true=false→
     (∀e∈ok.after,Region.binds .any e=true→e.on≠i)→oi.apart ops ok=true:=fun k ok hk hki hun hno=>by
     refine hfree k ok hk hki ?_ hno
     by_cases hjk:j=k
     ·subst hjk;exact hjun
     ·rw[getD_set_ne true hjk]at hun;exact hun
    refine OpB_mono (fun a' w' h3=>?_) h2
    obtain⟨u,rfl,hw',h4⟩:=h3
    refine⟨hw',ih (listed.setIfInBounds j true) _ _ hw' hfree' (ready_mono hr (Ne.symm hji)) (fun w hw=>(hy w hw).of_same (execOp_put oi (fun cs b=>hsel i oi cs b hi) a oj.dst u p3) (wanted_put oi a oj.dst u p3)) ?_⟩
    rw[Array.setIfInBounds_comm _ _ hji]
    exact h4
theorem anyB_take(hS:∀w d,S w→S (World.at w d))(hZ:∀a w d,Z a w→Z a (World.at w d)){i:Nat}{oi:Oper}{v:Value}{fuel:Nat}{listed:Array Bool}{a:Act}{w:World}(hw:S w)(hi:ops[i]? =some oi)(hil:(i != last)=true)(hs:Region.noSelect ops=true)(hf:Region.free .any ops listed i=true)
 (hr:(Region.ready .any ops listed).contains i=true) (hy:∀w,S w→YQ P F fn ops w oi v a) (h:AnyB An P F fn ops S last Z fuel (listed.setIfInBounds i true) (a.put oi.dst v) w):AnyB An P F fn ops S last Z (fuel+1) listed a w:=
 anyB_first hS hZ hi (by simpa using hil) (Region.noSelect_spec hs) fuel listed a w hw (Region.free_spec hi hf) (by simpa using hr) hy h
theorem anyB_all{fuel:Nat}{listed:Array Bool}{a:Act}{w:World}{r:List Nat}(hr:Region.ready .any ops listed=r)(hl:r.any (· != last)=true)
 (h:∀i∈r,i≠last→OpB An P F fn ops i (fun a w=>S w∧AnyB An P F fn ops S last Z fuel (listed.setIfInBounds i true) a w) a w):AnyB An P F fn ops S last Z (fuel+1) listed a w:=
 ⟨fun hn=>by
  rw[hr]at hn
  obtain⟨i,hi,hil⟩:=List.any_eq_true.1 hl
  exact absurd (hn i hi) (by simpa using hil),by rw[hr];exact h⟩
theorem anyB_end{listed:Array Bool}{a:Act}{w:World}(hr:Region.ready .any ops listed=[last])(h:Z a w):∀fuel,AnyB An P F fn ops S last Z fuel listed a w
 | 0=>⟨fun _=>h,by rw[hr];simp⟩
 | _+1=>⟨fun _=>h,fun i hi hne=>absurd (by rw[hr]at hi;simpa using hi) hne⟩
theorem own_opb{Stop:Goroutine→World→Prop}{b:Frame}{a:Act}{w:World}{k:List Item}{cs:List Frame}{i:Nat}{rest:List Nat}(hk:b.kind≠.early)
 (h:OpB An P F b.fn ops i (fun a w=>Own P true F (fun g w=>Bes An P Stop g w) (G (b.at a (.inRegion ops rest::k)) cs) w) a w):Own P true F (fun g w=>Bes An P Stop g w) (G (b.at a (.inRegion ops (i::rest)::k)) cs) w:=by
 obtain⟨o,ho,⟨hw,hh⟩|⟨hw,hh⟩|⟨hw,f,args,Post,r1,r2,r3,r4⟩⟩:=h
 ·refine .step rfl fun d=>?_
  have:=hh d
  cases hr:(execOp a.eval o).run P (w.at d)with
  | halt _ _=>rw[hr]at this;exact this.elim
  | ok x w'=>
    rw[hr]at this
    cases x with
    | value u=>exact⟨_,_,_,stepG_value ho hw hk hr,this.1,this.2⟩
    | skip=>exact⟨_,_,_,stepG_none ho hw hk hr,this.1,this.2⟩
    | _=>exact this.elim
 ·exact .step rfl fun d=>⟨_,_,#[],stepG_unwanted ho hw,⟨⟨0,Grew.refl F _⟩,by simp⟩,hh.at d⟩
 ·refine own_call ho hw hk r1 r2 (.stop fun d=>r3 d _ _ _ fun v w' hp=>bes_own (F:=F) ?_ fun g w h=>h)
  have hfin:(b.at a (.inRegion ops (i::rest)::k)).finish v=b.at (a.put o.dst v) (.inRegion ops rest::k):=by rw[Frame.finish_at,ho];rfl
  rw[hfin]
  exact r4 v w' hp
theorem anyB_sound(L:LL ops last){Stop:Goroutine→World→Prop}{b:Frame}{k:List Item}{cs:List Frame}(hk:b.kind≠.early):
 ∀(fuel t:Nat) (listed:Array Bool) (a:Act) (w:World),listed.size=ops.size→DownTo ops listed→listed.getD last true=false→
  AnyB An P F b.fn ops S last (fun a w=>Own P true F (fun g w=>Bes An P Stop g w) (G (b.at a (.inRegion ops [last]::k)) cs) w) fuel listed a w→
  Own P true F (fun g w=>Bes An P Stop g w) (G (b.at a (.inRegion ops (Region.linearise.go .any ops (fuel+1) t listed [])::k)) cs) w:=by
 intro fuel
 induction fuel with
 | zero=>?_
 | succ fuel ih=>?_
 all_goals
  intro t listed a w hs hc hl H
  obtain⟨i0,hi0⟩:=some_ready L hs last hl
  have hlen:0<(Region.ready .any ops listed).length:=List.length_pos_of_mem hi0
  obtain⟨i,hi⟩:∃i,(Region.ready .any ops listed)[t % (Region.ready .any ops listed).length]? =some i:=⟨_,List.getElem?_eq_getElem (Nat.mod_lt _ hlen)⟩
  have hmem:=List.mem_of_getElem? hi
  rw[Region.linearise.go]
  change Own P true F (fun g w=>Bes An P Stop g w) (G (b.at a (.inRegion ops (match(Region.ready .any ops listed)[t % (Region.ready .any ops listed).length]? with
   | some i=>Region.linearise.go .any ops _ (t / (Region.ready .any ops listed).length) (listed.setIfInBounds i true) [i]
   | none=>[].reverse)::k)) cs) w
  rw[hi]
  simp only[]
  rw[linearise_go_acc,List.reverse_singleton,List.singleton_append]
 ·obtain rfl:=H.2 i hmem
  simp only[Region.linearise.go,List.reverse_nil]
  exact H.1 H.2
 ·by_cases hil:i=last
  ·subst hil
   have hall:=all_listed L hs hc hmem i
   have hre:∀j∈Region.ready .any ops listed,j=i:=by
    intro j hj
    obtain⟨h0,o,ho,_⟩:=mem_ready.1 hj
    have hlt:=(alt ho)
    have hsz:=L.size
    rcases Nat.lt_or_ge j i with h|h
    ·have:=hall j (by omega) h
     rw[getD_tf (by omega),this]at h0;cases h0
    ·omega
   have hnil:Region.ready .any ops (listed.setIfInBounds i true)=[]:=by
    apply List.eq_nil_iff_forall_not_mem.2
    intro j hj
    obtain⟨h0,o,ho,_⟩:=mem_ready.1 hj
    have hlt:=(alt ho)
    have hsz:=L.size
    by_cases e:i=j
    ·subst e
     rw[getD_tf (by simp;omega)]at h0
     have:i<listed.size:=by omega
     simp[this]at h0
    ·rw[getD_set_ne true e,getD_tf (by omega),hall j (by omega) (by omega)]at h0;cases h0
   have:Region.linearise.go .any ops (fuel+1) (t / (Region.ready .any ops listed).length) (listed.setIfInBounds i true) []=[]:=by
    rw[Region.linearise.go]
    change(match(Region.ready .any ops (listed.setIfInBounds i true))[(t / (Region.ready .any ops listed).length) % (Region.ready .any ops (listed.setIfInBounds i true)).length]? with
     | some i=>_
     | none=>[].reverse)=[]
    rw[hnil];rfl
   rw[this]
   exact H.1 hre
  ·refine own_opb hk (OpB_mono (fun a' w' ⟨_,hK⟩=>ih _ _ _ _ (by simpa using hs) (fun j o' hj hlj e he hb=>?_) (by rw[getD_set_ne true hil];exact hl) hK) (H.2 i hmem hil))
   by_cases e2:i=j
   ·subst e2
    obtain⟨_,o2,ho2,hd⟩:=mem_ready.1 hmem
    rw[hj]at ho2
    cases ho2
    exact getD_set_true (hd e he hb)
   ·rw[getD_set_ne false e2]at hlj
    exact getD_set_true (hc j o' hj hlj e he hb)
theorem own_drawnB(S:World→Prop)(hm:P.follows .mixedOrders=true)(L:LL ops last){id:Nat}{Stop:Goroutine→World→Prop}{b:Frame}{a:Act}{w:World}{k:List Item}{cs:List Frame}(hk:b.kind≠.early)
 (h:AnyB An P F b.fn ops S last (fun a w=>Own P true F (fun g w=>Bes An P Stop g w) (G (b.at a (.inRegion ops [last]::k)) cs) w) last (Array.replicate ops.size false) a w):
 Own P true F (fun g w=>Bes An P Stop g w) (G (b.at a (.code (.region id ops true)::k)) cs) w:=by
 refine .step rfl fun d=>⟨_,_,_,stepG_region_draw,⟨⟨1,?_⟩,by simp⟩,?_⟩
 ·exact⟨rfl,rfl,rfl,rfl,Nat.le_refl _,fun _ _ h=>.inr h,fun _ _=>rfl⟩
 ·have hs:=L.size
  have:=anyB_sound (S:=S) (cs:=cs) (k:=k) L hk last ((w.at d).tape (w.at d).drawn (.order b.fn id)) (Array.replicate ops.size false) a w (by simp) (fun j o _ hl=>by
   simp at hl
   rcases Nat.lt_or_ge j ops.size with h1|h1<;>simp[h1]at hl) (by simp[hs]) h
  rw[← hs]at this
  simp only[Region.schedule,hm,Bool.true_or,if_true]
  exact this.at (d+1)
end
noncomputable section
variable{F:Fz}{w:World}
def sqpBody:Code:=Try.f3.body.getD .skip
def sqps0:=pC [] sqpBody
def sqpr0:=pC [zt] sqpBody
def sqps1:=pC [zf] sqpBody
def sqps2:=pC [zf,zt] sqpBody
def sqpr1:=pC [zf,zt,zt] sqpBody
def sqpc4:=pC [zf,zt,zf] sqpBody
def sqps3:=pC [zf,zt,zf,zt] sqpBody
def sqps4:=pC [zf,zf] sqpBody
def sqpr3:=pC [zf,zf,zt] sqpBody
theorem sqps0':sqps0= .seq sqpr0 sqps1:=by kernel_rfl
theorem sqpr0':sqpr0= .region 0 (oC sqpr0) false:=by kernel_rfl
theorem sqps1':sqps1= .seq sqps2 sqps4:=by kernel_rfl
theorem sqps2':sqps2= .seq sqpr1 sqpc4:=by kernel_rfl
theorem sqpr1':sqpr1= .region 1 (oC sqpr1) false:=by kernel_rfl
theorem sqpc4':sqpc4= .cond (.tmp 4) sqps3 .skip:=by kernel_rfl
theorem sqps4':sqps4= .seq sqpr3 .ret:=by kernel_rfl
theorem sqpr3':sqpr3= .region 3 (oC sqpr3) true:=by kernel_rfl
theorem enter_sqp(args:Array Value):Frame.enter Try.prog 3 args .normal=(Go.Conc.base 3).at {tmps:=args++Array.replicate (24 - args.size) undef,defers:=[]} [.code sqps0]:=enter_at args Try.func3 rfl
def sqpT(s:Nat→Value):Array Value:= #[s 0,s 1,s 2,s 3,s 4,s 5,s 6,s 7,s 8,s 9,s 10,s 11,s 12,s 13,s 14,s 15,s 16,s 17,s 18,s 19,s 20,s 21,s 22,s 23]
theorem sqpT_of{A:Array Value}(h:A.size=24):∃s,A=sqpT s:=by
 obtain⟨s,hs,_⟩:=arr_lit A h
 exact⟨s,hs⟩
theorem sqp_0{v0 v1 v2 v3:Value}{nn:Nat}(hU:Under F nn)(hn:nn≤w.heap.size){cs:List Frame}{main:Bool}{Stop:Goroutine→World→Prop}
 (h:∀A,Slots 24 A [(1,.pointer (some ⟨w.heap.size,0,none⟩))]→Own Try.prog main F Stop (G (Frame.enter Try.prog 13 #[] .normal) (((Go.Conc.base 3).at ⟨A,[]⟩ [.inRegion (oC sqpr1) [0,1],.code sqpc4,.code sqps4])::cs)) (w.alloc (.cells #[v0,v1,v2,v3] 26))):
 Own Try.prog main F Stop (G (Frame.enter Try.prog 3 #[.agg #[v0,v1,v2,v3]] .normal) cs) w:=by
 rw[enter_sqp]
 walk_nrm
 refine ogSR sqps0' sqpr0' ?_
 simp only[sqpr0,sqpBody,Try.f3,zz,Nat.reduceAdd]
 (refine oW fun dd K hK=>?_;go_simp;refine qA hK hU ?_;clear hK K)
 (refine oW fun dd K hK=>?_;go_simp;refine qT hK ?_;clear hK K)
 refine ogE ?_
 refine ogSE sqps1' ?_
 refine ogSR sqps2' sqpr1' ?_
 simp only[sqpr1,sqpBody,Try.f3,zz,Nat.reduceAdd]
 refine oc callable13 #[] ?_
 refine h _ ?_
 exact⟨rfl,rfl,trivial⟩
theorem sqp_1{b:Nat}{A:Array Value}(hA:Slots 24 A [(1,.pointer (some ⟨b,0,none⟩))]){cs:List Frame}{main:Bool}{Stop:Goroutine→World→Prop}
 (h:∀A,Slots 24 A [(1,.pointer (some ⟨b,0,none⟩))]→Own Try.prog main F Stop (G ((Go.Conc.base 3).at ⟨A,[]⟩ [.code sqpr3,.code .ret]) cs) w):
 Own Try.prog main F Stop (G (((Go.Conc.base 3).at ⟨A,[]⟩ [.inRegion (oC sqpr1) [0,1],.code sqpc4,.code sqps4]).finish (.bool true)) cs) w:=by
 obtain⟨hsz,h1,_⟩:=hA
 obtain⟨s,rfl⟩:=sqpT_of hsz
 change s 1=_ at h1
 clear hsz
 simp only[sqpT,h1]
 clear h1
 rw[Frame.finish_at]
 simp only[sqpr1,sqpBody,Try.f3,zz,Nat.reduceAdd]
 walk_nrm
 (refine oW fun dd K hK=>?_;go_simp;refine qT hK ?_;clear hK K)
 refine ogE ?_
 rw[sqpc4']
 refine ogF ?_
 simp only[Bool.false_eq_true,if_false]
 refine ogK ?_
 refine ogSE sqps4' ?_
 refine h _ ?_
 exact⟨rfl,rfl,trivial⟩
theorem sqp_4{x:Value}{A:Array Value}(hA:Slots 24 A [(23,x)]){cs:List Frame}{main:Bool}{Stop:Goroutine→World→Prop}
 (h:∀A,Slots 24 A [(2,x)]→Own Try.prog main F Stop (G {(Go.Conc.base 3).at ⟨A,[]⟩ [.code .ret]with mode:=.returning} cs) w):
 Own Try.prog main F Stop (G ((Go.Conc.base 3).at ⟨A,[]⟩ [.inRegion (oC sqpr3) [19],.code .ret]) cs) w:=by
 obtain⟨hsz,h23,_⟩:=hA
 obtain⟨s,rfl⟩:=sqpT_of hsz
 change s 23=_ at h23
 clear hsz
 simp only[sqpT,h23]
 clear h23
 simp only[sqpr3,sqpBody,Try.f3,zz,Nat.reduceAdd]
 (refine oW fun dd K hK=>?_;go_simp;refine qT hK ?_;clear hK K)
 refine ogE ?_
 refine ogX ?_
 refine h _ ?_
 exact⟨rfl,rfl,trivial⟩
end
section
variable{w w':World}
theorem same22D{aa ab:Option Addr}{ca cb:Nat}{xs:List Int}(hl:xs.length<100000000)(hA:RRow w aa (xs.map fun v=>.int .i64 v))(hB:RRow w ab (xs.map fun v=>.int .i64 v)):
 Calls Try.prog 22 #[.slice aa xs.length ca,.slice ab xs.length cb] w fun x w'=>x= .returned (.bool true)∧∃m,w'=w.drewN m:=by
 have E:Aside (RRow w aa (xs.map fun v=>.int .i64 v)∧RRow w ab (xs.map fun v=>.int .i64 v)):=⟨hA,hB⟩
 clear hA hB
 go_enter Try.func22,Try.ntmps22
 go_wp2
 go_loopg [5] xs.length (fun g i wr=>∃k:Nat,k≤xs.length∧i= .int .i64 k∧g=xs.length - k∧∃m,wr=w.drewN m)
 case atStart=>exact⟨0,Nat.zero_le _,rfl,rfl,0,rfl⟩
 case round=>
  obtain⟨k,hk,rfl,rfl,m0,hw⟩:=hrel
  have W:Aside (wr=w.drewN m0):=hw
  have hh:wr.heap=w.heap:=by rw[hw];rfl
  clear hw
  rcases Nat.lt_or_ge k xs.length with hlt|hge
  ·obtain⟨b1,o1,rfl,h1⟩:=(E.out.1.heap hh).c k (.int .i64 xs[k]) (by simp[hlt])
   obtain⟨b2,o2,rfl,h2⟩:=(E.out.2.heap hh).c k (.int .i64 xs[k]) (by simp[hlt])
   have hwr:IntKind.i64.wrap ((k:Int)+1)=(k:Int)+1:=IntWalk.i64_in _ (by omega)
   clear hh
   go_wp2
   go_quiet (fail)
   go_wp2
   go_roundg (xs.length - (k+1))
   case measure=>omega
   case rel=>exact⟨k+1,hlt,rfl,rfl,_,by rw[W.out,World.drewN_drewN]⟩
  ·have:k=xs.length:=by omega
   subst this
   clear hh
   go_wp2
   go_ret
   exact⟨rfl,m0,W.out⟩
def ansS(l:List SA):List Value:=(l.map fun a=>a.v.cells).flatten
theorem ansS_get(l:List SA):∀k a,l[k]? =some a→(ansS l)[k*3]? =some (.bool a.an.1)∧(ansS l)[k*3+1]? =some (.int .i64 a.an.2.1)∧(ansS l)[k*3+2]? =some (.slice a.la a.ll a.lc):=by
 induction l with
 | nil=>intro k a h;simp at h
 | cons x t ih=>
   intro k a h
   have e:ansS (x::t)= .bool x.an.1:: .int .i64 x.an.2.1:: .slice x.la x.ll x.lc::ansS t:=rfl
   rw[e]
   cases k with
   | zero=>
     simp at h
     subst h
     exact⟨rfl,rfl,rfl⟩
   | succ k=>
     have h:t[k]? =some a:=by simpa using h
     obtain⟨h1,h2,h3⟩:=ih k a h
     rw[show(k+1)*3=k*3+3 by omega]
     exact⟨by simpa using h1,by simpa [show k*3+3+1=k*3+1+3 by omega]using h2,by simpa [show k*3+3+2=k*3+2+3 by omega]using h3⟩
structure SAL(a:SA)(w:World):Prop where
 l:a.ll=a.an.2.2.length
 r:RRow w a.la (a.an.2.2.map fun v=>.int .i64 v)
theorem SAL.heap{a:SA}(h:SAL a w)(e:w'.heap=w.heap):SAL a w':=⟨h.l,h.r.heap e⟩
theorem SAL.of{a:SA}(h:SAU a w):SAL a w:=by
 obtain⟨an,la,ll,lc⟩:=a
 have h1:w.ownsRow 0 2 1 (.slice la ll lc) an.2.2.length (an.2.2.map fun v=>.int .i64 v):=h
 have hl:ll=an.2.2.length:=by
  rcases h1.2 with⟨e,h5⟩|⟨_,_,_,e,_⟩
  ·cases e;exact h5.symm
  ·cases e;rfl
 subst hl
 exact⟨rfl,rrow_of h1⟩
theorem same21B{aa ab:Option Addr}{ca cb:Nat}{xs ys:List SA}(hl:xs.length<100000000)(he:xs.map SA.an=ys.map SA.an)(hA:RRow w aa (ansS xs))(hB:RRow w ab (ansS ys))(hx:∀a∈xs,SAL a w∧a.an.2.2.length<100000000)(hy:∀a∈ys,SAL a w):
 CallsB Try.prog Try.f21 #[.slice aa xs.length ca,.slice ab xs.length cb] w fun x w'=>x= .bool true∧w'.heap=w.heap:=by
 have E:Aside (RRow w aa (ansS xs)∧RRow w ab (ansS ys)∧xs.map SA.an=ys.map SA.an∧(∀a∈xs,SAL a w∧a.an.2.2.length<100000000)∧∀a∈ys,SAL a w):=⟨hA,hB,he,hx,hy⟩
 clear hA hB he hx hy
 refine callsB_of rfl ?_
 simp only[Try.ntmps21,List.size_toArray,List.length_cons,List.length_nil,Nat.reduceAdd,Nat.reduceSub,Array.replicate_succ,Array.replicate_zero,List.push_toArray,List.append_toArray,List.nil_append,List.cons_append]
 go_wp2
 go_loopg [5] xs.length (fun g i wr=>∃k:Nat,k≤xs.length∧i= .int .i64 k∧g=xs.length - k∧wr.heap=w.heap)
 case atStart=>exact⟨0,Nat.zero_le _,rfl,rfl,rfl⟩
 case round=>
  obtain⟨k,hk,rfl,rfl,hw⟩:=hrel
  rcases Nat.lt_or_ge k xs.length with hlt|hge
  ·have hq:=congrArg (fun l=>l[k]?) E.out.2.2.1
   simp only[List.getElem?_map,List.getElem?_eq_getElem hlt,Option.map_some]at hq
   obtain⟨y,hyk,hya⟩:=Option.map_eq_some_iff.1 hq.symm
   obtain⟨g1,g2,g3⟩:=ansS_get xs k _ (List.getElem?_eq_getElem hlt)
   obtain⟨j1,j2,j3⟩:=ansS_get ys k _ hyk
   have hsx:=(E.out.2.2.2.1 _ (List.getElem_mem hlt))
   have hsy:=E.out.2.2.2.2 y (List.mem_of_getElem? hyk)
   rw[hya]at j1 j2
   obtain⟨sl1,sr1⟩:=hsx.1.heap hw
   obtain⟨sl2,sr2⟩:=hsy.heap hw
   have hlen:=hsx.2
   rw[hya]at sl2 sr2
   generalize xs[k]=x at g1 g2 g3 j1 j2 sl1 sr1 sl2 sr2 hlen
   obtain⟨⟨ok,n,l⟩,la,ll,lc⟩:=x
   obtain⟨an2,la2,ll2,lc2⟩:=y
   simp only at g1 g2 g3 j1 j2 j3 sl1 sr1 sl2 sr2 hlen
   subst sl1
   subst sl2
   obtain⟨b1,o1,rfl,f0⟩:=(E.out.1.heap hw).c (k*3) _ g1
   obtain⟨_,_,e1,f1⟩:=(E.out.1.heap hw).c (k*3+1) _ g2
   cases e1
   obtain⟨_,_,e1,f2⟩:=(E.out.1.heap hw).c (k*3+2) _ g3
   cases e1
   obtain⟨b2,o2,rfl,h0⟩:=(E.out.2.1.heap hw).c (k*3) _ j1
   obtain⟨_,_,e1,h1⟩:=(E.out.2.1.heap hw).c (k*3+1) _ j2
   cases e1
   obtain⟨_,_,e1,h2⟩:=(E.out.2.1.heap hw).c (k*3+2) _ j3
   cases e1
   rw[← Nat.add_assoc]at f1 f2 h1 h2
   have H:Aside (∀m,Calls Try.prog 22 #[.slice la l.length lc,.slice la2 l.length lc2] (wr.drewN m) fun x w''=>x= .returned (.bool true)∧∃m',w''=wr.drewN m'):=fun m=>(same22D (w:=wr.drewN m) hlen (sr1.heap rfl) (sr2.heap rfl)).mono (by
    rintro e u ⟨rfl,m',rfl⟩
    exact⟨rfl,_,World.drewN_drewN _ _ _⟩)
   have hwr:IntKind.i64.wrap ((k:Int)+1)=(k:Int)+1:=IntWalk.i64_in _ (by omega)
   have W:Aside (wr.heap=w.heap):=hw
   clear g1 g2 g3 j1 j2 j3 hw hq hyk hya hsx hsy sr1 sr2 hlen
   cases ok
   all_goals(
    go_wp2
    go_quiet ((go_at_call 22;exact H.out _))
    go_wp2
    go_roundg (xs.length - (k+1))
    case measure=>omega
    case rel=>exact⟨k+1,hlt,rfl,rfl,W.out⟩)
  ·have:k=xs.length:=by omega
   subst this
   go_wp2
   go_ret
   exact⟨_,rfl,rfl,hw⟩
theorem same21{aa ab:Option Addr}{ca cb:Nat}{xs ys:List SA}(hl:xs.length<100000000)(he:xs.map SA.an=ys.map SA.an)(hA:RRow w aa (ansS xs))(hB:RRow w ab (ansS ys))(hx:∀a∈xs,SAL a w∧a.an.2.2.length<100000000)(hy:∀a∈ys,SAL a w):
 Calls Try.prog 21 #[.slice aa xs.length ca,.slice ab xs.length cb] w fun x w'=>x= .returned (.bool true)∧w'.heap=w.heap:=
 ((same21B hl he hA hB hx hy).calls Try.func21 rfl).mono (by rintro e u ⟨v,rfl,rfl,h⟩;exact⟨rfl,h⟩)
theorem callable21:Callable 21:=callable Try.func21 rfl rfl
end
section

end
section
variable{w w':World}
theorem step_call{P:Program}{ops:Array Oper}{o:Oper}{a:Act}{w:World}{K:Act→World→Prop}{Q:Exit→Act→World→Prop}{E:Prop}(hg:o.guard=none)(f:FuncId)(args:Array Value)(v:Value)
 (hr:(execOp a.eval o).run P w= .ok (.enter f args) w) {R:World→Prop} (hC:Calls P f args w fun e w'=>e= .returned v∧R w') (hK:∀w',R w'→K (a.put o.dst v) w'):
 if Region.wanted o (yielded ops a.tmps)=true then Oper.wp P o a w K Q else E:=by
 have hw:Region.wanted o (yielded ops a.tmps)=true:=by simp[Region.wanted,hg]
 rw[if_pos hw]
 unfold Oper.wp
 rw[hr,Oper.upon_enter]
 exact hC.mono fun e w' ⟨h1,h2⟩=>by subst h1;exact hK w' h2
theorem heap_ty{w:World}{a b:Nat}{c d:Array Value}{e f:TypeId}{y z:Nat×Nat}(h:w.heap[a]? =some (.cells c e y))(k:w.heap[b]? =some (.cells d f z))(he:e≠f):a≠b:=by
 rintro rfl
 rw[h]at k
 simp only[Option.some.injEq,Obj.cells.injEq]at k
 exact he k.2.1
theorem heap_set_eq{b k:Nat}{c:Array Value}{e:TypeId}{z:Nat×Nat}{v:Value}(h:w.heap[b]? =some (.cells c e z)):(w.setCell ⟨b,k,none⟩ v).heap[b]? =some (.cells (c.setIfInBounds k v) e z):=by
 rw[heap_setCell_eq h]
structure RTh where
 k:Nat
 pc:Nat
 n0:Int
 n1:Int
 n2:Int
 n3:Int
 n4:Int
 ans:List (Bool×Int)
def RTh.fin(t:RTh)(a:Bool×Int):RTh:={t with k:=t.k+1,pc:=0,ans:=t.ans++[a]}
def thC(op:Value)(t:RTh)(ov:Value)(en:Bool):Array Value:= #[op,.int .i64 t.k,.int .i64 t.pc,.int .i64 t.n0,.int .i64 t.n1,.int .i64 t.n2,.int .i64 t.n3,.int .i64 t.n4,.int .i64 0,.int .i64 0,.int .i64 0,.slice none 0 0,ov,.bool en]
structure TAt(w:World)(tb:Nat)(op:Value)(t:RTh)(ov:Value)(en:Bool):Prop where
 o:w.heap[tb]? =some (.cells (thC op t ov en) 158 (0,0))
 row:w.ownsRow 0 44 3 ov t.ans.length (ansC t.ans)
theorem TAt.lt{tb:Nat}{op ov:Value}{t:RTh}{en:Bool}(h:TAt w tb op t ov en):tb<w.heap.size:=(Array.getElem?_eq_some_iff.1 h.o).1
theorem TAt.same{tb:Nat}{op ov:Value}{t:RTh}{en:Bool}(h:TAt w tb op t ov en)(h1:w'.heap[tb]? =w.heap[tb]?)(h2:∀r,some r=ov.ownBlock→w'.heap[r]? =w.heap[r]?):TAt w' tb op t ov en:=
 ⟨h1.trans h.o,ownsRow_same2 h.row fun b hb _=>h2 b hb.symm⟩
theorem TAt.heap{tb:Nat}{op ov:Value}{t:RTh}{en:Bool}(h:TAt w tb op t ov en)(e:w'.heap=w.heap):TAt w' tb op t ov en:=h.same (by rw[e]) fun r _=>by rw[e]
theorem TAt.ne{tb:Nat}{op ov:Value}{t:RTh}{en:Bool}(h:TAt w tb op t ov en):some tb≠ov.ownBlock:=own_type h.row h.o (by decide)
structure Kpt(w w':World)(tb:Nat)(ov ov':Value):Prop where
 size:w.heap.size≤w'.heap.size
 old:∀r,r<w.heap.size→r≠tb→some r≠ov.ownBlock→w'.heap[r]? =w.heap[r]?
 fo:ov'.ownBlock=ov.ownBlock∨∃g,ov'.ownBlock=some g∧w.heap.size≤g
theorem Kpt.refl(w:World)(tb:Nat)(ov:Value):Kpt w w tb ov ov:=⟨Nat.le_refl _,fun _ _ _ _=>rfl,.inl rfl⟩
theorem Kpt.trans{u v:World}{tb:Nat}{ov ov1 ov2:Value}(h:Kpt w u tb ov ov1)(k:Kpt u v tb ov1 ov2):Kpt w v tb ov ov2:=by
 have hs:=h.size
 refine⟨Nat.le_trans hs k.size,fun r h1 h2 h3=>(k.old r (by omega) h2 ?_).trans (h.old r h1 h2 h3),?_⟩
 ·rcases h.fo with e|⟨g,e,hg⟩
  ·rw[e];exact h3
  ·rw[e];intro e2;cases e2;omega
 ·rcases k.fo with e|⟨g,e,hg⟩
  ·rw[e];exact h.fo
  ·exact .inr ⟨g,e,by omega⟩
theorem Kpt.heap{u:World}{tb:Nat}{ov ov1:Value}(h:Kpt w u tb ov ov1)(e:w'.heap=u.heap):Kpt w w' tb ov ov1:=⟨by rw[e];exact h.size,fun r a b c=>by rw[e];exact h.old r a b c,h.fo⟩
theorem infoB44:∃i z,Try.prog.info? 44=some i∧i.zero=some z∧i.size=3∧i.bytes=40∧z.cells.size=3:=by
 have h:(Try.prog.info? 44).map (fun i=>(i.zero.map (·.cells.size),i.size,i.bytes))=some (some 3,3,40):=by kernel_rfl
 obtain⟨i,hi,h1⟩:=Option.map_eq_some_iff.1 h
 simp only[Prod.mk.injEq]at h1
 obtain⟨z,hz,h2⟩:=Option.map_eq_some_iff.1 h1.1
 exact⟨i,z,hi,hz,h1.2.1,h1.2.2,h2⟩
section
variable{tb:Nat}{op ov:Value}{t:RTh}{en:Bool}
structure TFx(w:World)(tb:Nat)(op:Value)(t:RTh)(ov:Value)(en:Bool):Prop where
 c0:w.cell? ⟨tb,0,none⟩=some op
 c1:w.cell? ⟨tb,1,none⟩=some (.int .i64 t.k)
 c2:w.cell? ⟨tb,2,none⟩=some (.int .i64 t.pc)
 c3:w.cell? ⟨tb,3,none⟩=some (.int .i64 t.n0)
 c4:w.cell? ⟨tb,4,none⟩=some (.int .i64 t.n1)
 c5:w.cell? ⟨tb,5,none⟩=some (.int .i64 t.n2)
 c6:w.cell? ⟨tb,6,none⟩=some (.int .i64 t.n3)
 c7:w.cell? ⟨tb,7,none⟩=some (.int .i64 t.n4)
 c11:w.cell? ⟨tb,11,none⟩=some (.slice none 0 0)
 c12:w.cell? ⟨tb,12,none⟩=some ov
 c13:w.cell? ⟨tb,13,none⟩=some (.bool en)
 z:∀j,w.frozen? ⟨tb,j,none⟩=false
theorem TAt.fx(h:TAt w tb op t ov en):TFx w tb op t ov en:=by
 have ho:=h.o
 constructor<;>first|(simp[World.cell?,ho,thC];done)|(intro j;simp[World.frozen?,ho];done)
end
end
section
variable{w w':World}
theorem RRow.olds{a:Option Addr}{xs:List Value}(h:RRow w a xs)(hk:∀r,r<w.heap.size→w'.heap[r]? =w.heap[r]?):RRow w' a xs:=
 ⟨fun k x hx=>by
  obtain⟨b,o,h1,h2⟩:=h.c k x hx
  obtain⟨c,e,z,ho⟩:=cell_block h2
  have:=hk b (alt ho)
  exact⟨b,o,h1,by rw[← h2];unfold World.cell?;simp only[this]⟩⟩
end
section
variable{w w':World}
theorem SAL.olds{a:SA}(h:SAL a w)(hk:∀r,r<w.heap.size→w'.heap[r]? =w.heap[r]?):SAL a w':=⟨h.l,h.r.olds hk⟩
theorem same29{aa ab:Option Addr}{ca cb:Nat}{xs:List Int}(hl:xs.length<100000000)(hA:RRow w aa (xs.map fun v=>.int .i64 v))(hB:RRow w ab (xs.map fun v=>.int .i64 v)):
 Calls Try.prog 29 #[.slice aa xs.length ca,.slice ab xs.length cb] w fun x w'=>x= .returned (.bool true)∧∃m,w'=w.drewN m:=by
 have E:Aside (RRow w aa (xs.map fun v=>.int .i64 v)∧RRow w ab (xs.map fun v=>.int .i64 v)):=⟨hA,hB⟩
 clear hA hB
 go_enter Try.func29,Try.ntmps29
 go_wp2
 go_loopg [5] xs.length (fun g i wr=>∃k:Nat,k≤xs.length∧i= .int .i64 k∧g=xs.length - k∧∃m,wr=w.drewN m)
 case atStart=>exact⟨0,Nat.zero_le _,rfl,rfl,0,rfl⟩
 case round=>
  obtain⟨k,hk,rfl,rfl,m0,hw⟩:=hrel
  have W:Aside (wr=w.drewN m0):=hw
  have hh:wr.heap=w.heap:=by rw[hw];rfl
  clear hw
  rcases Nat.lt_or_ge k xs.length with hlt|hge
  ·obtain⟨b1,o1,rfl,h1⟩:=(E.out.1.heap hh).c k (.int .i64 xs[k]) (by simp[hlt])
   obtain⟨b2,o2,rfl,h2⟩:=(E.out.2.heap hh).c k (.int .i64 xs[k]) (by simp[hlt])
   have hwr:IntKind.i64.wrap ((k:Int)+1)=(k:Int)+1:=IntWalk.i64_in _ (by omega)
   clear hh
   go_wp2
   go_quiet (fail)
   go_wp2
   go_roundg (xs.length - (k+1))
   case measure=>omega
   case rel=>exact⟨k+1,hlt,rfl,rfl,_,by rw[W.out,World.drewN_drewN]⟩
  ·have:k=xs.length:=by omega
   subst this
   clear hh
   go_wp2
   go_ret
   exact⟨rfl,m0,W.out⟩
theorem same14{aa ba oa oa' sa sa':Option Addr}{n ac bc oc oc' sc sc':Nat}{st:Bool}{os ss:List Int}{X Y:Nat→List SA}{va vb:Nat→Option Addr}{ca cb:Nat→Nat}(hn:n≤64)(hos:os.length<10000000)(hss:ss.length<20000000)(hX:∀i,i<n→(X i).length<10000000∧(X i).map SA.an=(Y i).map SA.an∧(∀a∈X i,SAL a w∧a.an.2.2.length<100000000)∧∀a∈Y i,SAL a w)
 (h1:RRow w oa (os.map fun v=>.int .i64 v)) (h1':RRow w oa' (os.map fun v=>.int .i64 v)) (h2:RRow w sa (ss.map fun v=>.int .i64 v)) (h2':RRow w sa' (ss.map fun v=>.int .i64 v))
 (h3:RRow w aa ((List.range n).map fun i=>.slice (va i) (X i).length (ca i))) (h3':RRow w ba ((List.range n).map fun i=>.slice (vb i) (Y i).length (cb i))) (h4:∀i,i<n→RRow w (va i) (ansS (X i))) (h4':∀i,i<n→RRow w (vb i) (ansS (Y i))):
 CallsB Try.prog Try.f14 #[.agg #[.slice aa n ac,.slice oa os.length oc,.slice sa ss.length sc,.bool st],.agg #[.slice ba n bc,.slice oa' os.length oc',.slice sa' ss.length sc',.bool st]] w fun v w'=>v= .bool true∧∀r,r<w.heap.size→w'.heap[r]? =w.heap[r]?:=by
 have A:Aside (RRow w oa (os.map fun v=>.int .i64 v)∧RRow w oa' (os.map fun v=>.int .i64 v)∧RRow w sa (ss.map fun v=>.int .i64 v)∧RRow w sa' (ss.map fun v=>.int .i64 v)):=⟨h1,h1',h2,h2'⟩
 have B:Aside (RRow w aa ((List.range n).map fun i=>.slice (va i) (X i).length (ca i))∧RRow w ba ((List.range n).map fun i=>.slice (vb i) (Y i).length (cb i))∧(∀i,i<n→RRow w (va i) (ansS (X i)))∧(∀i,i<n→RRow w (vb i) (ansS (Y i)))∧∀i,i<n→(X i).length<10000000∧(X i).map SA.an=(Y i).map SA.an∧(∀a∈X i,SAL a w∧a.an.2.2.length<100000000)∧∀a∈Y i,SAL a w):=⟨h3,h3',h4,h4',hX⟩
 clear h1 h1' h2 h2' h3 h3' h4 h4' hX
 refine callsB_of rfl ?_
 simp only[Try.ntmps14,List.size_toArray,List.length_cons,List.length_nil,Nat.reduceAdd,Nat.reduceSub,Array.replicate_succ,Array.replicate_zero,List.push_toArray,List.append_toArray,List.nil_append,List.cons_append]
 go_wp2_with (fail)
 generalize hW:(w.alloc (.cells #[.slice aa n ac,.slice oa os.length oc,.slice sa ss.length sc,.bool st] 31)).alloc (.cells #[.slice ba n bc,.slice oa' os.length oc',.slice sa' ss.length sc',.bool st] 31)=W2
 have hWo:∀r,r<w.heap.size→W2.heap[r]? =w.heap[r]?:=fun r hr=>by rw[← hW,heap_alloc_lt _ _ (by simp;omega),heap_alloc_lt _ _ hr]
 have b2:W2.heap[w.heap.size]? =some (.cells #[.slice aa n ac,.slice oa os.length oc,.slice sa ss.length sc,.bool st] 31 (0,0)):=by rw[← hW,heap_alloc_lt _ _ (by simp)];exact heap_alloc_new _ _
 have b3:W2.heap[w.heap.size+1]? =some (.cells #[.slice ba n bc,.slice oa' os.length oc',.slice sa' ss.length sc',.bool st] 31 (0,0)):=by rw[← hW];exact new_at (by simp) _
 have f2:∀u:World,u.heap=W2.heap→u.cell? ⟨w.heap.size,0,none⟩=some (.slice aa n ac)∧u.cell? ⟨w.heap.size,2,none⟩=some (.slice sa ss.length sc)∧u.cell? ⟨w.heap.size,3,none⟩=some (.bool st):=fun u hu=>by simp[World.cell?,hu,b2]
 have f3:∀u:World,u.heap=W2.heap→u.cell? ⟨w.heap.size+1,0,none⟩=some (.slice ba n bc)∧u.cell? ⟨w.heap.size+1,2,none⟩=some (.slice sa' ss.length sc')∧u.cell? ⟨w.heap.size+1,3,none⟩=some (.bool st):=fun u hu=>by simp[World.cell?,hu,b3]
 have C:Aside ((∀r,r<w.heap.size→W2.heap[r]? =w.heap[r]?)∧(∀u:World,u.heap=W2.heap→u.cell? ⟨w.heap.size,0,none⟩=some (.slice aa n ac)∧u.cell? ⟨w.heap.size,2,none⟩=some (.slice sa ss.length sc)∧u.cell? ⟨w.heap.size,3,none⟩=some (.bool st))∧∀u:World,u.heap=W2.heap→u.cell? ⟨w.heap.size+1,0,none⟩=some (.slice ba n bc)∧u.cell? ⟨w.heap.size+1,2,none⟩=some (.slice sa' ss.length sc')∧u.cell? ⟨w.heap.size+1,3,none⟩=some (.bool st)):=⟨hWo,f2,f3⟩
 clear hW hWo b2 b3 f2 f3
 go_at_call 29
 refine(same29 (by omega) (A.out.1.olds C.out.1) (A.out.2.1.olds C.out.1)).mono ?_
 rintro e w1 ⟨rfl,m1,hw1⟩
 replace hw1:w1.heap=W2.heap:=by rw[hw1];rfl
 have W1:Aside (w1.heap=W2.heap):=hw1
 obtain⟨_,g1,_⟩:=C.out.2.1 w1 hw1
 obtain⟨_,g2,_⟩:=C.out.2.2 w1 hw1
 clear hw1
 go_wp2_with (fail)
 go_at_call 22
 refine(same22D (by omega) ((A.out.2.2.1.olds C.out.1).heap W1.out) ((A.out.2.2.2.olds C.out.1).heap W1.out)).mono ?_
 rintro e w3 ⟨rfl,m3,hw3⟩
 replace hw3:w3.heap=w1.heap:=by rw[hw3];rfl
 have W3:Aside (w3.heap=W2.heap):=hw3.trans W1.out
 clear g1 g2
 obtain⟨_,_,g1⟩:=C.out.2.1 w3 W3.out
 obtain⟨_,_,g2⟩:=C.out.2.2 w3 W3.out
 clear hw3
 all_goals(
  go_wp2
  clear g1 g2
  go_loopg [5] n (fun g i wr=>∃k:Nat,k≤n∧i= .int .i64 k∧g=n - k∧wr.heap=W2.heap)
  case atStart=>exact⟨0,Nat.zero_le _,rfl,rfl,W3.out⟩
  case round=>
   obtain⟨k,hk,rfl,rfl,hw⟩:=hrel
   have WR:Aside (wr.heap=W2.heap):=hw
   obtain⟨g1,_,_⟩:=C.out.2.1 wr hw
   obtain⟨g2,_,_⟩:=C.out.2.2 wr hw
   rcases Nat.lt_or_ge k n with hlt|hge
   ·obtain⟨h3,h3',h4,h4',hX⟩:=B.out
    obtain⟨b1,o1,rfl,e1⟩:=((h3.olds C.out.1).heap hw).c k (.slice (va k) (X k).length (ca k)) (by simp[hlt])
    obtain⟨b2,o2,rfl,e2⟩:=((h3'.olds C.out.1).heap hw).c k (.slice (vb k) (Y k).length (cb k)) (by simp[hlt])
    have hwr:IntKind.i64.wrap ((k:Int)+1)=(k:Int)+1:=IntWalk.i64_in _ (by omega)
    have H:Aside (Calls Try.prog 21 #[.slice (va k) (X k).length (ca k),.slice (vb k) (X k).length (cb k)] wr.drew fun x w'=>x= .returned (.bool true)∧w'.heap=W2.heap):=
     (same21 (w:=wr.drew) (by have:=hX k hlt;omega) (hX k hlt).2.1 (((h4 k hlt).olds C.out.1).heap (show wr.drew.heap=W2.heap from hw)) (((h4' k hlt).olds C.out.1).heap (show wr.drew.heap=W2.heap from hw)) (fun a ha=>⟨(((hX k hlt).2.2.1 a ha).1.olds C.out.1).heap (show wr.drew.heap=W2.heap from hw),((hX k hlt).2.2.1 a ha).2⟩) (fun a ha=>(((hX k hlt).2.2.2 a ha).olds C.out.1).heap (show wr.drew.heap=W2.heap from hw))).mono fun x w' h=>⟨h.1,h.2.trans hw⟩
    have hyl:(Y k).length=(X k).length:=by have:=congrArg List.length (hX k hlt).2.1;simpa using this.symm
    rw[hyl]at e2
    clear h3 h3' h4 h4' hX hw hyl
    go_wp2
    go_region_law (refine step_call rfl 21 #[.slice (va k) (X k).length (ca k),.slice (vb k) (X k).length (cb k)] (.bool true) (by simp[execOp,Act.eval,Act.put,resolve,invoke,Deferred.ofValue,callable21.run]) H.out ?_;intro w4 hw4;have W4:Aside (w4.heap=W2.heap):=hw4;clear hw4)
    all_goals go_wp2
    all_goals(
     go_roundg (n - (k+1))
     case measure=>omega
     case rel=>exact⟨k+1,hlt,rfl,rfl,W4.out⟩)
   ·have:k=n:=by omega
    subst this
    clear hw
    go_wp2
    go_ret
    exact⟨_,rfl,rfl,fun r hr=>by rw[WR.out];exact C.out.1 r hr⟩)
end
section
variable{w w':World}
structure R8T where
 op:Value
 who:Nat
 k:Nat
 pc:Nat
 tr:Int
 v:Int
 sv:Value
 so:Option (List Int)
 av:Value
 ans:List SA
def R8T.cells(t:R8T):List Value:=[t.op,t.av,.int .i64 t.who,.int .i64 t.k,.int .i64 t.pc,.int .i64 t.tr,.int .i64 t.v,t.sv]
def r8C(ts:List R8T):List Value:=(ts.map R8T.cells).flatten
def R8R(t:R8T)(r:Nat):Prop:=t.av.ownBlock=some r∨(t.so≠none∧t.sv.ownBlock=some r)∨∃a∈t.ans,a.row.ownBlock=some r
structure R8H(w:World)(t:R8T):Prop where
 av:w.ownsRow 0 44 3 t.av t.ans.length (ansS t.ans)
 au:∀a∈t.ans,SAU a w
 sv:∀l,t.so=some l→w.ownsRow 0 2 1 t.sv l.length (l.map fun v=>.int .i64 v)
 dj:t.so≠none→∀r,t.sv.ownBlock=some r→∀a∈t.ans,a.row.ownBlock≠some r
structure R8B where
 mb:Nat
 wb:Nat
 wc:Nat
 tv:Value
structure R8A(w:World)(b0:Nat)(B:R8B)(s:SSt)(ts:List R8T):Prop where
 wf:SWf s
 o:w.heap[B.mb]? =some (.cells #[.int .i64 s.ver,.slice (some ⟨B.wb,0,none⟩) s.ws.length B.wc,B.tv] 147 (0,0))
 wds:w.ownsRow 0 2 1 (.slice (some ⟨B.wb,0,none⟩) s.ws.length B.wc) s.ws.length (s.ws.map fun v=>.int .i64 v)
 row:w.ownsRow 0 149 8 B.tv ts.length (r8C ts)
 thr:∀t∈ts,R8H w t
 tt:∀(i j:Nat) t u,ts[i]? =some t→ts[j]? =some u→i≠j→∀r,R8R t r→¬R8R u r
 wn:∀t∈ts,¬R8R t B.wb
 b1:b0≤B.mb
 b2:b0≤B.wb
 b3:∀r,B.tv.ownBlock=some r→b0≤r
 b4:∀t∈ts,∀r,R8R t r→b0≤r
structure Stay(b0:Nat)(w w':World):Prop where
 s:w.heap.size≤w'.heap.size
 o:∀r,r<b0→w'.heap[r]? =w.heap[r]?
 t:∀(r:Nat) (c:Array Value) (y:TypeId) (z:Nat×Nat),y=3∨y=31→w.heap[r]? =some (.cells c y z)→w'.heap[r]? =w.heap[r]?
theorem Stay.trans{b0:Nat}{u v:World}(h:Stay b0 w u)(k:Stay b0 u v):Stay b0 w v:=⟨Nat.le_trans h.s k.s,fun r hr=>(k.o r hr).trans (h.o r hr),fun r c y z q e=>(k.t r c y z q ((h.t r c y z q e).trans e)).trans (h.t r c y z q e)⟩
theorem Stay.heap{b0:Nat}{u:World}(h:Stay b0 w u)(e:w'.heap=u.heap):Stay b0 w w':=⟨by rw[e];exact h.s,fun r hr=>by rw[e];exact h.o r hr,fun r c y z q k=>by rw[e];exact h.t r c y z q k⟩
theorem Stay.refl(b0:Nat)(w:World):Stay b0 w w:=⟨Nat.le_refl _,fun _ _=>rfl,fun _ _ _ _ _ _=>rfl⟩
def NInt(w:World)(r:Nat):Prop:=∀(c:Array Value) (y:TypeId) (z:Nat×Nat),y=3∨y=31→w.heap[r]?≠some (.cells c y z)
variable{b0:Nat}{B:R8B}{s:SSt}{ts:List R8T}
theorem row_blk{n size:Nat}{e:TypeId}{v:Value}{xs:List Value}(h:w.ownsRow 0 e size v n xs){r:Nat}(hr:v.ownBlock=some r):∃c,w.heap[r]? =some (.cells c e (0,0)):=by
 rcases h.2 with⟨rfl,_⟩|⟨b,cap,cur,rfl,_,h4,_⟩
 ·simp[Value.ownBlock]at hr
 ·simp only[Value.ownBlock,Option.some.injEq]at hr
  subst hr
  exact⟨_,h4⟩
theorem R8H.blk{t:R8T}(h:R8H w t){r:Nat}(hr:R8R t r):∃c,w.heap[r]? =some (.cells c 44 (0,0))∨w.heap[r]? =some (.cells c 2 (0,0)):=by
 rcases hr with hr|⟨h1,hr⟩|⟨a,ha,hr⟩
 ·obtain⟨c,h2⟩:=row_blk h.av hr
  exact⟨c,.inl h2⟩
 ·obtain⟨l,hl⟩:=Option.ne_none_iff_exists'.1 h1
  obtain⟨c,h2⟩:=row_blk (h.sv l hl) hr
  exact⟨c,.inr h2⟩
 ·obtain⟨c,h2⟩:=row_blk (h.au a ha) hr
  exact⟨c,.inr h2⟩
theorem R8H.low{t:R8T}(h:R8H w t){r:Nat}(hr:R8R t r):r<w.heap.size:=by
 obtain⟨c,h|h⟩:=h.blk hr<;>exact(alt h)
theorem R8H.same{t:R8T}(h:R8H w t)(hs:∀r,R8R t r→w'.heap[r]? =w.heap[r]?):R8H w' t:=
 ⟨ownsRow_same2 h.av fun b hb _=>hs b (.inl hb),fun a ha=>ownsRow_same2 (h.au a ha) fun b hb _=>hs b (.inr (.inr ⟨a,ha,hb⟩)),fun l hl=>ownsRow_same2 (h.sv l hl) fun b hb _=>hs b (.inr (.inl ⟨by simp[hl],hb⟩)),h.dj⟩
theorem R8H.ne{t:R8T}(h:R8H w t){r b:Nat}{c:Array Value}{e:TypeId}(hr:R8R t r)(hb:w.heap[b]? =some (.cells c e (0,0)))(h1:e≠44)(h2:e≠2):r≠b:=by
 obtain⟨d,h|h⟩:=h.blk hr
 ·exact heap_ty h hb (Ne.symm h1)
 ·exact heap_ty h hb (Ne.symm h2)
theorem R8A.low_m(h:R8A w b0 B s ts):B.mb<w.heap.size:=(Array.getElem?_eq_some_iff.1 h.o).1
theorem R8A.more(h:R8A w b0 B s ts)(hs:∀r,r<w.heap.size→w'.heap[r]? =w.heap[r]?):R8A w' b0 B s ts:=
 ⟨h.wf,(hs _ h.low_m).trans h.o,ownsRow_same2 h.wds fun b hb _=>by obtain⟨c,hc⟩:=row_blk h.wds hb;exact hs b (alt hc),ownsRow_same2 h.row fun b hb _=>by obtain⟨c,hc⟩:=row_blk h.row hb;exact hs b (alt hc),fun t ht=>(h.thr t ht).same fun r hr=>hs r ((h.thr t ht).low hr),h.tt,h.wn,h.b1,h.b2,h.b3,h.b4⟩
theorem R8A.heap(h:R8A w b0 B s ts)(e:w'.heap=w.heap):R8A w' b0 B s ts:=h.more fun _ _=>by rw[e]
theorem R8A.w_ty(h:R8A w b0 B s ts):∃c,w.heap[B.wb]? =some (.cells c 2 (0,0)):=row_blk h.wds rfl
theorem R8A.mw(h:R8A w b0 B s ts):B.wb≠B.mb:=by
 obtain⟨c,hc⟩:=h.w_ty
 exact heap_ty hc h.o (by decide)
theorem r8C_get:∀(ts:List R8T) (i:Nat) (t:R8T) (j:Nat),ts[i]? =some t→j<8→(r8C ts)[i*8+j]? =t.cells[j]?
 | [],i,t,j,h,_=>by simp at h
 | x::l,0,t,j,h,hj=>by
   simp at h
   subst h
   have e:r8C (x::l)=x.cells++r8C l:=rfl
   rw[e,show 0*8+j=j by omega,List.getElem?_append_left (by simp[R8T.cells];omega)]
 | x::l,i+1,t,j,h,hj=>by
   have ih:=r8C_get l i t j (by simpa using h) hj
   have e:r8C (x::l)=x.cells++r8C l:=rfl
   rw[e,List.getElem?_append_right (by simp[R8T.cells];omega),show(i+1)*8+j - x.cells.length=i*8+j by simp[R8T.cells];omega]
   exact ih
theorem r8C_set:∀(ts:List R8T) (i:Nat) (t t':R8T) (j:Nat) (v:Value),ts[i]? =some t→j<8→t'.cells=t.cells.set j v→r8C (ts.set i t')=(r8C ts).set (i*8+j) v
 | [],i,t,t',j,v,h,_,_=>by simp at h
 | x::l,0,t,t',j,v,h,hj,hc=>by
   simp at h
   subst h
   have e:r8C (x::l)=x.cells++r8C l:=rfl
   have e2:r8C ((x::l).set 0 t')=t'.cells++r8C l:=rfl
   rw[e,e2,hc,show 0*8+j=j by omega,List.set_append_left _ _ (by simp[R8T.cells];omega)]
 | x::l,i+1,t,t',j,v,h,hj,hc=>by
   have ih:=r8C_set l i t t' j v (by simpa using h) hj hc
   have e:r8C (x::l)=x.cells++r8C l:=rfl
   have e2:r8C ((x::l).set (i+1) t')=x.cells++r8C (l.set i t'):=rfl
   rw[e,e2,List.set_append_right _ _ (by simp[R8T.cells];omega),ih,show(i+1)*8+j - x.cells.length=i*8+j by simp[R8T.cells];omega]
theorem own_row_set{n size k g cap:Nat}{e:TypeId}{v:Value}{xs:List Value}(h:w.ownsRow 0 e size (.slice (some ⟨g,0,none⟩) n cap) n xs)(hk:k<n*size):(w.setCell ⟨g,k,none⟩ v).ownsRow 0 e size (.slice (some ⟨g,0,none⟩) n cap) n (xs.set k v):=by
 refine⟨by simpa using h.1,?_⟩
 rcases h.2 with⟨h1,_⟩|⟨b,cap',cur,h1,h3,h4,h5,h6,h7,h8⟩
 ·cases h1
 ·cases h1
  refine .inr ⟨g,cap,cur.setIfInBounds k v,rfl,h3,heap_set_eq h4,h5,h6,by simpa using h7,?_⟩
  rw[← h8,Array.toList_setIfInBounds,List.take_set]
structure R8Fx(w:World)(B:R8B)(s:SSt)(n i tb tc:Nat)(t:R8T):Prop where
 tv:B.tv= .slice (some ⟨tb,0,none⟩) n tc
 m0:w.cell? ⟨B.mb,0,none⟩=some (.int .i64 s.ver)
 m1:w.cell? ⟨B.mb,1,none⟩=some (.slice (some ⟨B.wb,0,none⟩) s.ws.length B.wc)
 m2:w.cell? ⟨B.mb,2,none⟩=some (.slice (some ⟨tb,0,none⟩) n tc)
 zm:∀j,w.frozen? ⟨B.mb,j,none⟩=false
 t0:w.cell? ⟨tb,i*8,none⟩=some t.op
 t1:w.cell? ⟨tb,i*8+1,none⟩=some t.av
 t3:w.cell? ⟨tb,i*8+3,none⟩=some (.int .i64 t.k)
 t4:w.cell? ⟨tb,i*8+4,none⟩=some (.int .i64 t.pc)
 t5:w.cell? ⟨tb,i*8+5,none⟩=some (.int .i64 t.tr)
 t6:w.cell? ⟨tb,i*8+6,none⟩=some (.int .i64 t.v)
 t7:w.cell? ⟨tb,i*8+7,none⟩=some t.sv
 zt:∀j,w.frozen? ⟨tb,j,none⟩=false
 mt:B.mb≠tb
 wt:B.wb≠tb
 lt:tb<w.heap.size
theorem R8A.fx(h:R8A w b0 B s ts){i:Nat}{t:R8T}(ht:ts[i]? =some t):∃tb tc,R8Fx w B s ts.length i tb tc t:=by
 have hi:=(List.getElem?_eq_some_iff.1 ht).1
 have hg:∀j x,t.cells[j]? =some x→∃b cap,B.tv= .slice (some ⟨b,0,none⟩) ts.length cap∧At w ⟨b,i*8+j,none⟩ x:=fun j x hj=>row_get h.row (by
  have:j<8:=by have:=(List.getElem?_eq_some_iff.1 hj).1;simpa [R8T.cells]using this
  rw[r8C_get ts i t j ht this];exact hj)
 obtain⟨tb,tc,e,g0⟩:=hg 0 t.op rfl
 have hg2:∀j x,t.cells[j]? =some x→w.cell? ⟨tb,i*8+j,none⟩=some x:=fun j x hj=>by
  obtain⟨b,cap,e2,g⟩:=hg j x hj
  rw[e]at e2
  cases e2
  exact g.c
 have ho:=h.o
 obtain⟨c,hc⟩:=row_blk h.row (r:=tb) (by rw[e];rfl)
 obtain⟨d,hd⟩:=h.w_ty
 refine⟨tb,tc,e,by simp[World.cell?,ho],by simp[World.cell?,ho],by simp[World.cell?,ho,e],fun j=>by simp[World.frozen?,ho],g0.c,hg2 1 _ rfl,hg2 3 _ rfl,hg2 4 _ rfl,hg2 5 _ rfl,hg2 6 _ rfl,hg2 7 _ rfl,fun j=>by simp[World.frozen?,hc],heap_ty ho hc (by decide),heap_ty hd hc (by decide),(alt hc)⟩
theorem R8A.wcell(h:R8A w b0 B s ts){i:Nat}(hi:i<s.ws.length):w.cell? ⟨B.wb,i,none⟩=some (.int .i64 (s.ws.getD i 0))∧w.frozen? ⟨B.wb,i,none⟩=false:=by
 obtain⟨b,cap,e,g⟩:=row_get h.wds (k:=i) (x:=.int .i64 (s.ws.getD i 0)) (by simp[List.getD_eq_getElem?_getD,List.getElem?_eq_getElem hi])
 cases e
 exact⟨g.c,g.z⟩
theorem NInt.set{r:Nat}{a:Addr}{v:Value}(h:NInt w r):NInt (w.setCell a v) r:=fun c y z q e=>by
 by_cases hr:r=a.block
 ·subst hr
  simp only[World.setCell,Array.getElem?_modify,if_true]at e
  obtain⟨o,ho,he⟩:=Option.map_eq_some_iff.1 e
  cases o with
  | cells d t x=>
    simp only[Obj.cells.injEq]at he
    obtain⟨_,rfl,rfl⟩:=he
    exact h d t x q ho
  | _=>cases he
 ·rw[heap_setCell_ne _ _ _ hr]at e
  exact h _ _ _ q e
theorem R8A.nt_m(h:R8A w b0 B s ts):NInt w B.mb:=fun c y z q e=>by have hd:=h.o;rcases q with rfl|rfl<;>(rw[e]at hd;cases hd)
theorem R8A.nt_w(h:R8A w b0 B s ts):NInt w B.wb:=fun c y z q e=>by obtain⟨d,hd⟩:=h.w_ty;rcases q with rfl|rfl<;>(rw[e]at hd;cases hd)
theorem R8A.nt_t{tb n tc:Nat}(h:R8A w b0 B s ts)(htv:B.tv= .slice (some ⟨tb,0,none⟩) n tc):NInt w tb:=fun c y z q e=>by obtain⟨d,hd⟩:=row_blk h.row (r:=tb) (by rw[htv];rfl);rcases q with rfl|rfl<;>(rw[e]at hd;cases hd)
theorem R8A.no3(h:R8A w b0 B s ts){t:R8T}(ht:t∈ts){r:Nat}(hr:R8R t r){c:Array Value}{y:TypeId}{z:Nat×Nat}(q:y=3∨y=31)(e:w.heap[r]? =some (.cells c y z)):False:=by
 obtain⟨d,hd|hd⟩:=(h.thr t ht).blk hr<;>rcases q with rfl|rfl<;>(rw[e]at hd;cases hd)
theorem Stay.set{b0:Nat}{u:World}(h:Stay b0 w u){a:Addr}(ha:b0≤a.block)(v:Value)(hn:NInt w a.block∨NInt u a.block:=by first|(apply Or.inl;apply R8A.nt_t<;>assumption)|(apply Or.inl;apply R8A.nt_m;assumption)|(apply Or.inl;apply R8A.nt_w;assumption)|(apply Or.inr;(repeat apply NInt.set);apply R8A.nt_t<;>assumption)|(apply Or.inr;(repeat apply NInt.set);apply R8A.nt_m;assumption)|(apply Or.inr;(repeat apply NInt.set);apply R8A.nt_w;assumption)):Stay b0 w (u.setCell a v):=
 ⟨by rw[World.size_setCell];exact h.s,fun r hr=>(heap_setCell_ne _ _ _ (by omega)).trans (h.o r hr),fun r c y z q e=>(heap_setCell_ne _ _ _ fun hr=>hn.elim (fun hn=>hn c y z q (hr ▸ e)) fun hn=>hn c y z q (hr ▸ (h.t r c y z q e).trans e)).trans (h.t r c y z q e)⟩
end
end Go.Proofs.Ytlcgkpapnpdfpaa
