/-
  Of SeqlockCalls, where what it reads is of bulk at most 1048576 (OpenSpec.upto): the calls of one thread answer as the machine's do, and take its steps. The condition of the Upto form, nothing else.
  Part 5 of 5.
-/
import Derived.Test.YtlcgkpapnpdfpaaZD
import Derived.Test.YtlcgkpapnpdfpaaRows
import Derived.ProofKit
import Derived.Carry
import Derived.Deep.Slices
import Derived.ChangeSlices
import Derived.Conc.LeavingOf
import Derived.ChangeSame
import Derived.JoinedCond
import Derived.Conc.Holds
set_option linter.unusedSimpArgs false
set_option linter.unusedVariables false
set_option linter.unusedSectionVars false
set_option maxRecDepth 100000
set_option maxHeartbeats 8000000
namespace Go.Proofs.Ytlcgkpapnpdfpaa
open Go Go.Conc Go.RowKit Go.Proofs
section
variable{w w':World}{b0:Nat}{B:R8B}{s:R1}{ts:List T3}
def e0d(s:R1)(ops:List P3)(t t1:T3):Prop:=
 (t1.pc=0∧(r6 SPl (ops.drop t.k) s ⟨t.k,none,t.ans.map SA.an⟩).2=(r6 SPl (ops.drop t1.k) s ⟨t1.k,none,t1.ans.map SA.an⟩).2)∨
 (t1.pc≠0∧c0n s.ws.length ops t1 (r6 SPl (ops.drop t.k) s ⟨t.k,none,t.ans.map SA.an⟩).2)
theorem j0F{ops:List P3}{t t1:T3}(h:e0d s ops t t1)(hal:t1.ans.length=t1.k)(hx:t1.pc≠0∨t1.k=ops.length):c0n s.ws.length ops t1 (r6 SPl (ops.drop t.k) s ⟨t.k,none,t.ans.map SA.an⟩).2:=by
 rcases h with⟨h1,h2⟩|⟨_,h2⟩
 ·have hk:t1.k=ops.length:=hx.resolve_left fun h=>h h1
  rw[h2,hk,List.drop_length]
  exact⟨hk,Nat.le_refl _,(List.length_map (f:=SA.an)).trans (hal.trans hk),rfl,h1,rfl⟩
 ·exact h2
theorem z0u{ops:List P3}{t t1:T3}{x:P3}(h:e0d s ops t t1)(h0:t1.pc=0)(hx:ops[t1.k]? =some x)(hal:t1.ans.length=t1.k)(hk:1≤x.kd∧x.kd≤5)(n0:0<s.ws.length):e0d s ops t (t1.bg (N2 x.a:Nat)):=by
 obtain⟨hlt,e⟩:=List.getElem?_eq_some_iff.1 hx
 rcases h with⟨h1,h2⟩|⟨h1,h2⟩
 ·obtain⟨c,hb,hc⟩:=w0F (s:=s) hk n0
  refine .inr ⟨by simp[T3.bg],?_⟩
  rw[h2,List.drop_eq_getElem_cons hlt,e,e0f hb]
  exact⟨rfl,Nat.le_of_lt hlt,(List.length_map (f:=SA.an)).trans hal,rfl,x,hx,hc t1⟩
 ·exact absurd h0 h1
theorem t07{ops:List P3}{t t1:T3}{x:P3}{av':Value}(h:e0d s ops t t1)(h0:t1.pc=0)(hx:ops[t1.k]? =some x)(hk:x.kd<1∨5<x.kd):e0d s ops t (t1.fin av' noA):=by
 obtain⟨hlt,e⟩:=List.getElem?_eq_some_iff.1 hx
 rcases h with⟨h1,h2⟩|⟨h1,h2⟩
 ·refine .inl ⟨rfl,?_⟩
  rw[h2,List.drop_eq_getElem_cons hlt,e,e0g (r0Z (s:=s) hk)]
  have e2:(t1.ans++[noA]).map SA.an=t1.ans.map SA.an++[(false,0,[])]:=by simp[noA]
  show _=(r6 SPl (ops.drop (t1.k+1)) s ⟨t1.k+1,none,(t1.ans++[noA]).map SA.an⟩).2
  exact congrArg (fun l:List SAn=>(r6 SPl (ops.drop (t1.k+1)) s ⟨t1.k+1,none,l⟩).2) e2.symm
 ·exact absurd h0 h1
section
variable{i:Nat}{t:T3}{ops:List P3}
theorem j0X{t1:T3}{x:P3}(h:R2 w b0 B s (ts.set i t1))(hi:i<ts.length)(h0:t1.pc=0)(hx:ops[t1.k]? =some x)(hR:e0d s ops t t1)(hal:t1.ans.length=t1.k)(hlen:ops.length≤65536):
 Calls Try.prog 104 #[vP B.mb 0,vI i,.agg #[vI x.kd,vI x.a,vI x.b,vI x.c]] w fun e w'=>e= .returned (.tuple #[])∧(∃t2,R2 w' b0 B s (ts.set i t2)∧t2.op=t1.op∧e0d s ops t t2∧t2.k≤ops.length∧t2.ans.length=t2.k∧(if t2.pc=0 then 1 else 0)+(ops.length - t2.k)<(if t1.pc=0 then 1 else 0)+(ops.length - t1.k))∧D2 b0 w w':=by
 have hlt:=(List.getElem?_eq_some_iff.1 hx).1
 have ht:(ts.set i t1)[i]? =some t1:=by simp[List.getElem?_set,hi]
 by_cases hk:1≤x.kd∧x.kd≤5
 ·refine(w0G (a:=x.a) (b:=x.b) (c:=x.c) h ht hk).mono fun e u ⟨k1,k2,k3⟩=>⟨k1,⟨t1.bg (N2 x.a:Nat),by rw[List.set_set]at k2;exact k2,rfl,z0u hR h0 hx hal hk h.wf.n1,Nat.le_of_lt hlt,hal,?_⟩,k3⟩
  simp only[T3.bg,h0]
  simp
 ·have hk:x.kd<1∨5<x.kd:=by omega
  refine(r00 (a:=x.a) (b:=x.b) (c:=x.c) h ht hk (by omega) (by omega)).mono fun e u ⟨k1,⟨av',k2⟩,k3⟩=>⟨k1,⟨t1.fin av' noA,by rw[List.set_set]at k2;exact k2,rfl,t07 hR h0 hx hk,by simp only[T3.fin];omega,by simp[T3.fin,hal],?_⟩,k3⟩
  simp only[T3.fin,h0]
  simp
  omega
theorem m0t(h:R2 w b0 B s ts)(ht:ts[i]? =some t)(hO:b0O w b0 t.op ops)(hlen:ops.length≤65536)(hk:t.k≤ops.length)(hal:t.ans.length=t.k)(hpc:t.pc=0):
 Calls Try.prog 83 #[vP B.mb 0,vI i] w fun e w'=>e= .returned (.tuple #[])∧(∃t',R2 w' b0 B s (ts.set i t')∧t'.op=t.op∧c0n s.ws.length ops t' (r6 SPl (ops.drop t.k) s ⟨t.k,none,t.ans.map SA.an⟩).2)∧D2 b0 w w':=by
 have hilt:=(List.getElem?_eq_some_iff.1 ht).1
 have hilt2:(i:Int)<(ts.length:Int):=by omega
 have hset:ts.set i t=ts:=by
  apply List.ext_getElem?
  intro j
  rw[List.getElem?_set]
  split
  ·next e=>subst e;first|exact ht.symm|(rw[if_pos hilt];exact ht.symm)
  ·rfl
 have E:Aside (R2 w b0 B s (ts.set i t)∧b0O w b0 t.op ops∧ops.length≤65536∧t.k≤ops.length∧t.ans.length=t.k∧t.pc=0):=⟨by rw[hset];exact h,hO,hlen,hk,hal,hpc⟩
 obtain⟨oa,oc,hop⟩:=hO.sl
 clear h ht hO hk hal hpc hset
 go_enter Try.func83,Try.ntmps83
 go_wp2
 go_loopg [] ((if t.pc=0 then 1 else 0)+(ops.length - t.k)) (fun g wr=>∃t1,R2 wr b0 B s (ts.set i t1)∧D2 b0 w wr∧t1.op=t.op∧e0d s ops t t1∧t1.k≤ops.length∧t1.ans.length=t1.k∧g=(if t1.pc=0 then 1 else 0)+(ops.length - t1.k))
 case atStart=>exact⟨t,E.out.1,D2.refl _ _,rfl,.inl ⟨E.out.2.2.2.2.2,rfl⟩,E.out.2.2.2.1,E.out.2.2.2.2.1,rfl⟩
 case round=>
  obtain⟨t1,hA,hS,h1,h2,h3,h4,hg⟩:=hrel
  obtain⟨tb,tc,htv,m0,m1,m2,zm,t0,x1,t3,t4,t5,t6,t7,zt,mt,wt,htb⟩:=hA.fx (i:=i) (t:=t1) (by simp[List.getElem?_set,hilt])
  rw[d05]at m2 htv
  rw[h1,hop]at t0
  have T1:Aside (R2 wr b0 B s (ts.set i t1)∧D2 b0 w wr∧t1.op=t.op∧e0d s ops t t1∧t1.k≤ops.length∧t1.ans.length=t1.k):=⟨hA,hS,h1,h2,h3,h4⟩
  clear m0 m1 zm x1 t5 t6 t7 zt wt htb hA hS h1 h2 h3 h4
  by_cases hp:t1.pc=0
  ·by_cases hlt:t1.k<ops.length
   ·have hlt2:(t1.k:Int)<(ops.length:Int):=by omega
    obtain⟨x,hx⟩:∃x,ops[t1.k]? =some x:=⟨_,List.getElem?_eq_getElem hlt⟩
    obtain⟨ob,oo,oc',hOA⟩:=(E.out.2.1.stay T1.out.2.1).c t1.k x hx
    have hsl:=hOA.sl
    rw[hop]at hsl
    cases hsl
    obtain⟨_,_,hol,f0,f1,f2,f3⟩:=hOA
    have HB:Aside (∀X:World,X.heap=wr.heap→Calls Try.prog 104 #[vP B.mb 0,vI i,.agg #[vI x.kd,vI x.a,vI x.b,vI x.c]] X fun e u=>e= .returned (.tuple #[])∧∃t2,R2 u b0 B s (ts.set i t2)∧D2 b0 w u∧t2.op=t.op∧e0d s ops t t2∧t2.k≤ops.length∧t2.ans.length=t2.k∧(if t2.pc=0 then 1 else 0)+(ops.length - t2.k)<(if t1.pc=0 then 1 else 0)+(ops.length - t1.k)∧u.cell? ⟨B.mb,2,none⟩=some (vL tb 0 ts.length tc)∧u.cell? ⟨tb,i*8,none⟩=some (vL ob oo ops.length oc)∧u.cell? ⟨ob,oo+t1.k*4,none⟩=some (vI x.kd)∧u.cell? ⟨ob,oo+t1.k*4+1,none⟩=some (vI x.a)∧u.cell? ⟨ob,oo+t1.k*4+2,none⟩=some (vI x.b)∧u.cell? ⟨ob,oo+t1.k*4+3,none⟩=some (vI x.c)):=fun X e=>
     (j0X (t:=t) (T1.out.1.heap e) hilt hp hx T1.out.2.2.2.1 T1.out.2.2.2.2.2 E.out.2.2.1).mono fun e2 u ⟨k1,⟨t2,a1,a2,a3,a4,a5,a6⟩,k3⟩=>⟨k1,t2,a1,(T1.out.2.1.heap e).trans k3,a2.trans T1.out.2.2.1,a3,a4,a5,a6,by
       obtain⟨tb',tc',htv',y0,y1,y2,_,x0,_⟩:=a1.fx (i:=i) (t:=t2) (by simp[List.getElem?_set,hilt])
       rw[d05]at y2 htv'
       rw[htv]at htv'
       cases htv'
       rw[a2,T1.out.2.2.1,hop]at x0
       have e:∀j,u.cell? ⟨ob,j,none⟩=wr.cell? ⟨ob,j,none⟩:=fun j=>by simp only[World.cell?];rw[k3.o ob hol,e]
       exact⟨y2,x0,(e _).trans f0,(e _).trans f1,(e _).trans f2,(e _).trans f3⟩⟩
    have HG:Aside (t1.pc=0):=hp
    have HS2:Aside (∀u:World,u.heap=wr.heap→u.cell? ⟨B.mb,2,none⟩=some (vL tb 0 ts.length tc)∧u.cell? ⟨tb,i*8,none⟩=some (vL ob oo ops.length oc)∧u.cell? ⟨ob,oo+t1.k*4,none⟩=some (vI x.kd)∧u.cell? ⟨ob,oo+t1.k*4+1,none⟩=some (vI x.a)∧u.cell? ⟨ob,oo+t1.k*4+2,none⟩=some (vI x.b)∧u.cell? ⟨ob,oo+t1.k*4+3,none⟩=some (vI x.c)):=fun u e=>by
     simp only[Q4 e]
     exact⟨m2,t0,f0,f1,f2,f3⟩
    have GG:Aside _:=hg
    have t4:wr.cell? ⟨tb,i*8+4,none⟩=some (vI 0):=by rw[t4,hp];rfl
    have HS:Aside (∀X:World,X.heap=wr.heap→X.cell? ⟨B.mb,2,none⟩=some (vL tb 0 ts.length tc)∧X.cell? ⟨tb,i*8,none⟩=some (vL ob oo ops.length oc)∧X.cell? ⟨tb,i*8+3,none⟩=some (vI t1.k)∧X.cell? ⟨tb,i*8+4,none⟩=some (vI 0)):=fun X e=>by
     simp only[Q4 e]
     exact⟨m2,t0,t3,t4⟩
    clear hlt hp hol hop htv hg hx hilt
    obtain⟨kd,xa,xb,xc⟩:=x
    simp only at f0 f1 f2 f3 HB HS2
    go_wp2
    go_region_held3 (fun u:World=>u.cell? ⟨B.mb,2,none⟩=some (vL tb 0 ts.length tc)∧u.cell? ⟨tb,i*8,none⟩=some (vL ob oo ops.length oc)∧u.cell? ⟨tb,i*8+3,none⟩=some (vI t1.k)∧u.cell? ⟨tb,i*8+4,none⟩=some (vI 0))
     (first|exact HS.out _ rfl|go_keep)
     (fail)
    all_goals(
     go_wp2
     rw[← f0U 3 (.tmp 49)]
     go_region_held3 (fun u:World=>u.cell? ⟨B.mb,2,none⟩=some (vL tb 0 ts.length tc)∧u.cell? ⟨tb,i*8,none⟩=some (vL ob oo ops.length oc)∧u.cell? ⟨ob,oo+t1.k*4,none⟩=some (vI kd)∧u.cell? ⟨ob,oo+t1.k*4+1,none⟩=some (vI xa)∧u.cell? ⟨ob,oo+t1.k*4+2,none⟩=some (vI xb)∧u.cell? ⟨ob,oo+t1.k*4+3,none⟩=some (vI xc))
      (first|exact SU.out|exact HS2.out _ rfl|go_keep)
      (first|(go_at_call 104;refine Calls.mono (HB.out _ ?_) ?_;(exact rfl);rintro e u ⟨rfl,t2,b1,b2,b3,b4,b5,b6,b7,b8⟩;have SU:Aside (u.cell? ⟨B.mb,2,none⟩=some (vL tb 0 ts.length tc)∧u.cell? ⟨tb,i*8,none⟩=some (vL ob oo ops.length oc)∧u.cell? ⟨ob,oo+t1.k*4,none⟩=some (vI kd)∧u.cell? ⟨ob,oo+t1.k*4+1,none⟩=some (vI xa)∧u.cell? ⟨ob,oo+t1.k*4+2,none⟩=some (vI xb)∧u.cell? ⟨ob,oo+t1.k*4+3,none⟩=some (vI xc)):=b8;have U:Aside (R2 u b0 B s (ts.set i t2)∧D2 b0 w u∧t2.op=t.op∧e0d s ops t t2∧t2.k≤ops.length∧t2.ans.length=t2.k∧(if t2.pc=0 then 1 else 0)+(ops.length - t2.k)<(if t1.pc=0 then 1 else 0)+(ops.length - t1.k)):=⟨b1,b2,b3,b4,b5,b6,b7⟩;clear b1 b2 b3 b4 b5 b6 b7 b8))
     all_goals(
      go_wp2
      go_roundg ((if t2.pc=0 then 1 else 0)+(ops.length - t2.k))
      case measure=>rw[GG.out];exact U.out.2.2.2.2.2.2
      case rel=>exact⟨t2,U.out.1,U.out.2.1,U.out.2.2.1,U.out.2.2.2.1,U.out.2.2.2.2.1,U.out.2.2.2.2.2.1,rfl⟩))
   ·have hge:ops.length=t1.k:=by have:=T1.out.2.2.2.2.1;omega
    have hlt2:¬(t1.k:Int)<(ops.length:Int):=by omega
    have t4:wr.cell? ⟨tb,i*8+4,none⟩=some (vI 0):=by rw[t4,hp];rfl
    have HE:Aside (c0n s.ws.length ops t1 (r6 SPl (ops.drop t.k) s ⟨t.k,none,t.ans.map SA.an⟩).2):=j0F T1.out.2.2.2.1 T1.out.2.2.2.2.2 (.inr hge.symm)
    clear hlt hp hop htv hg hge hilt
    go_wp2
    go_region_held3 (fun u:World=>u.cell? ⟨B.mb,2,none⟩=some (vL tb 0 ts.length tc)∧u.cell? ⟨tb,i*8,none⟩=some (.slice oa ops.length oc)∧u.cell? ⟨tb,i*8+3,none⟩=some (vI t1.k)∧u.cell? ⟨tb,i*8+4,none⟩=some (vI 0))
     (first|exact⟨m2,t0,t3,t4⟩|go_keep)
     (fail)
    all_goals(
     go_wp2
     go_end0
     exact⟨rfl,⟨t1,T1.out.1.heap rfl,T1.out.2.2.1,HE.out⟩,T1.out.2.1.heap rfl⟩)
  ·have hne:¬(t1.pc:Int)=0:=by omega
   have HE:Aside (c0n s.ws.length ops t1 (r6 SPl (ops.drop t.k) s ⟨t.k,none,t.ans.map SA.an⟩).2):=j0F T1.out.2.2.2.1 T1.out.2.2.2.2.2 (.inl hp)
   clear hop htv hg hilt
   go_wp2
   go_quiet (fail)
   all_goals(
    go_wp2
    go_end0
    exact⟨rfl,⟨t1,T1.out.1.heap rfl,T1.out.2.2.1,HE.out⟩,T1.out.2.1.heap rfl⟩)
end
end
section
variable{w w':World}{b0:Nat}{B:R8B}{s:R1}{ts:List T3}
section
variable{i:Nat}{t:T3}
theorem q0R(h:R2 w b0 B s ts)(ht:ts[i]? =some t)(hpc:t.pc≠0):
 Calls Try.prog 83 #[vP B.mb 0,vI i] w fun e w'=>e= .returned (.tuple #[])∧w'.heap=w.heap:=by
 have hilt:=(List.getElem?_eq_some_iff.1 ht).1
 have hilt2:(i:Int)<(ts.length:Int):=by omega
 have E:Aside (R2 w b0 B s ts):=h
 clear h
 go_enter Try.func83,Try.ntmps83
 go_wp2
 go_loopg [] 0 (fun g wr=>wr.heap=w.heap)
 case atStart=>rfl
 case round=>
  have hA:=E.out.heap hrel
  obtain⟨tb,tc,htv,m0,m1,m2,zm,t0,x1,t3,t4,t5,t6,t7,zt,mt,wt,htb⟩:=hA.fx ht
  have hne:¬(t.pc:Int)=0:=by omega
  have R:Aside (wr.heap=w.heap):=hrel
  clear htv m0 m1 zm x1 t5 t6 t7 zt wt htb hA hrel ht hilt
  go_wp2
  go_quiet (fail)
  all_goals(
   go_wp2
   go_end0
   exact⟨rfl,R.out⟩)
end
theorem u0R(h:R2 w b0 B s ts)(hn:ts.length≤64):
 Calls Try.prog 85 #[vP B.mb 0] w fun e w'=>e= .returned (.bool (decide (∃t∈ts,t.pc≠0)))∧w'.heap=w.heap:=by
 have m2:w.cell? ⟨B.mb,2,none⟩=some B.tv:=by have:=h.o;simp[World.cell?,this]
 have E:Aside (R2 w b0 B s ts):=h
 obtain⟨ta,tc,htv⟩:∃ta tc,B.tv= .slice ta ts.length tc:=by
  rcases h.row.2 with⟨e,h1⟩|⟨g,cap,cur,e,_⟩
  ·exact⟨none,0,by rw[e,h1]⟩
  ·exact⟨_,_,e⟩
 rw[htv]at m2
 clear h
 go_enter Try.func85,Try.ntmps85
 go_wp2
 go_loopg [3] ts.length (fun g i wr=>∃k:Nat,k≤ts.length∧i=vI k∧g=ts.length - k∧wr.heap=w.heap∧∀(j:Nat) t,j<k→ts[j]? =some t→t.pc=0)
 case atStart=>exact⟨0,Nat.zero_le _,rfl,rfl,rfl,fun j t h=>by omega⟩
 case round=>
  obtain⟨k,hk,rfl,rfl,hw,hz⟩:=hrel
  have R:Aside (wr.heap=w.heap∧∀(j:Nat) t,j<k→ts[j]? =some t→t.pc=0):=⟨hw,hz⟩
  have hA:=E.out.heap hw
  have m2:wr.cell? ⟨B.mb,2,none⟩=some (.slice ta ts.length tc):=by rw[Q4 hw];exact m2
  clear hz hw
  rcases Nat.lt_or_ge k ts.length with hlt|hge
  ·have hlt2:(k:Int)<(ts.length:Int):=by omega
   obtain⟨t,ht⟩:∃t,ts[k]? =some t:=⟨_,List.getElem?_eq_getElem hlt⟩
   obtain⟨tb,tc',htv',m0,m1,m2',zm,t0,x1,t3,t4,t5,t6,t7,zt,mt,wt,htb⟩:=hA.fx ht
   rw[htv]at htv'
   cases htv'
   have hwr:IntKind.i64.wrap ((k:Int)+1)=(k:Int)+1:=IntWalk.i64_in _ (by omega)
   have HT:Aside (ts[k]? =some t):=ht
   clear m0 m1 zm x1 t5 t6 t7 zt wt htb hA ht t0 t3 m2' htv
   by_cases hp:t.pc=0
   ·replace t4:wr.cell? ⟨tb,k*8+4,none⟩=some (vI 0):=by rw[t4,hp];rfl
    have HP:Aside (t.pc=0):=hp
    clear hp
    go_wp2
    go_roundg (ts.length - (k+1))
    case measure=>omega
    case rel=>
     refine⟨k+1,hlt,rfl,rfl,R.out.1,fun j u hj hu=>?_⟩
     by_cases e:j=k
     ·subst e;rw[HT.out]at hu;cases hu;exact HP.out
     ·exact R.out.2 j u (by omega) hu
   ·have hp2:(0:Int)<(t.pc:Int):=by omega
    have HP:Aside (t.pc≠0):=hp
    clear hp
    go_wp2
    go_ret
    refine⟨?_,R.out.1⟩
    have hx:∃t∈ts,t.pc≠0:=⟨t,List.mem_of_getElem? HT.out,HP.out⟩
    rw[decide_eq_true hx]
    try rfl
  ·have hge2:¬(k:Int)<(ts.length:Int):=by omega
   have HZ:Aside (¬∃t∈ts,t.pc≠0):=fun⟨t,ht,hp⟩=>by
    obtain⟨j,hj⟩:=c0z ht
    exact hp (R.out.2 j t (by have:=(List.getElem?_eq_some_iff.1 hj).1;omega) hj)
   clear hA htv
   go_wp2
   go_ret
   refine⟨?_,R.out.1⟩
   rw[decide_eq_false HZ.out]
   try rfl
end
section
variable{w w':World}{b0:Nat}{B:R8B}{s:R1}{ts:List T3}
theorem w0W{g n cap:Nat}{xs:List Value}(h:w.ownsRow 0 2 1 (vL g 0 n cap) n xs):∀(j:Nat) (u:Value),xs[j]? =some u→w.cell? ((⟨g,0,none⟩:Addr).add j)=some u:=by
 intro j u hj
 obtain⟨b,cap',e,hc⟩:=M5 h hj
 cases e
 have e1:(⟨g,0,none⟩:Addr).add j=⟨g,j,none⟩:=by
  unfold Addr.add
  split
  ·subst_vars;rfl
  ·simp
 rw[e1]
 exact hc.c
theorem j0h{X:World}{v:Int}:(X.alloc (.cells #[vI v] 2)).ownsRow 0 2 1 (vL X.heap.size 0 1 1) 1 [vI v]:=
 ⟨rfl,.inr ⟨_,1,#[vI v],rfl,Nat.zero_le _,heap_alloc_new _ _,Nat.le_refl _,by unfold maxLen;omega,rfl,rfl⟩⟩
theorem z0t(h:R2 w b0 B s ts):
 Calls Try.prog 86 #[vP B.mb 0] w fun e w'=>∃v,e= .returned v∧w'.ownsRow 0 2 1 v (R1.state s).length ((R1.state s).map fun v=>vI v)∧w.heap.size≤w'.heap.size∧(∀r,r<w.heap.size→w'.heap[r]? =w.heap[r]?)∧∀r,v.ownBlock=some r→w.heap.size≤r:=by
 obtain⟨i0,z0,hi,hz0,hz1,hz2,hz3⟩:=i8
 have hn16:=h.wf.n2
 have m0:w.cell? ⟨B.mb,0,none⟩=some (vI s.ver):=by have:=h.o;simp[World.cell?,this]
 have m1:w.cell? ⟨B.mb,1,none⟩=some (vL B.wb 0 s.ws.length B.wc):=by have:=h.o;simp[World.cell?,this]
 have p1:=(O0 m1 (.cells #[vI s.ver] 2)).1
 have hrow:(w.alloc (.cells #[vI s.ver] 2)).ownsRow 0 2 1 (vL w.heap.size 0 1 1) 1 [vI s.ver]:=j0h
 have hcl:=w0W (World.ownsRow.alloc h.wds (.cells #[vI s.ver] 2))
 have HO:Aside (∀r,r<w.heap.size→(w.alloc (.cells #[vI s.ver] 2)).heap[r]? =w.heap[r]?):=fun r hr=>D0 _ _ hr
 clear h
 go_enter Try.func86,Try.ntmps86
 go_wp2_with (at_builtin;refine O5 rfl (.tmp 9) (.tmp 13) 22 rfl 2 i0 z0 1 8 Try.underlying22 hi hz0 hz1 hz2 hz3 (by decide) (vL w.heap.size 0 1 1) 1 [vI s.ver] rfl hrow ⟨B.wb,0,none⟩ s.ws.length B.wc (s.ws.map fun v=>vI v) rfl (by simp) hcl (by intro u hu;obtain⟨x,_,rfl⟩:=List.mem_map.1 hu;rfl) (by unfold maxLen;omega) (by omega) ?_;intro v' w3 hown hgrow hfr;have F:Aside (w3.ownsRow 0 2 1 v' (1+s.ws.length) ([vI s.ver]++s.ws.map fun v=>vI v)∧(w.alloc (.cells #[vI s.ver] 2)).grownBy w3 (some w.heap.size)∧(v'.ownBlock=some w.heap.size∨∃g,v'.ownBlock=some g∧(w.alloc (.cells #[vI s.ver] 2)).heap.size≤g)):=⟨hown,hgrow,hfr⟩;clear hown hgrow hfr)
 all_goals(
  go_ret
  obtain⟨f1,f2,f3⟩:=F.out
  refine⟨_,rfl,?_,?_,fun r hr=>?_,fun r hr=>?_⟩
  ·have e:(R1.state s).length=1+s.ws.length:=by simp[R1.state];omega
   rw[e]
   exact f1
  ·have:=f2.size
   have e:(w.alloc (.cells #[vI s.ver] 2)).heap.size=w.heap.size+1:=by simp
   omega
  ·exact(f2.block r (by simp;omega) (by intro e;cases e;omega)).trans (HO.out r hr)
  ·have hr:v'.ownBlock=some r:=hr
   rcases f3 with e|⟨g,e,hg⟩
   ·rw[e]at hr;cases hr;exact Nat.le_refl _
   ·rw[e]at hr;cases hr
    have e:(w.alloc (.cells #[vI s.ver] 2)).heap.size=w.heap.size+1:=by simp
    omega)
end
section
variable{w w':World}
structure N8(w wr:World)(wv:Value)(xs:List Int):Prop where
 o:wr.heap[w.heap.size]? =some (.cells #[vI 0,wv,.slice none 0 0] 147 (0,0))
 row:wr.ownsRow 0 2 1 wv xs.length (xs.map fun v=>vI v)
 size:w.heap.size<wr.heap.size
 old:∀r,r<w.heap.size→wr.heap[r]? =w.heap[r]?
 new:∀r,wv.ownBlock=some r→w.heap.size≤r
theorem N8.heap{u:World}{wv:Value}{xs:List Int}(h:N8 w u wv xs)(e:w'.heap=u.heap):N8 w w' wv xs:=⟨by rw[e];exact h.o,K0 h.row fun _ _ _=>by rw[e],by rw[e];exact h.size,fun r hr=>by rw[e];exact h.old r hr,h.new⟩
theorem N8.start:N8 w (w.alloc (.cells #[vI 0,.slice none 0 0,.slice none 0 0] 147)) (.slice none 0 0) []:=⟨heap_alloc_new _ _,⟨rfl,.inl ⟨rfl,rfl⟩⟩,by simp,fun r hr=>D0 _ _ hr,fun r hr=>by cases hr⟩
theorem N8.more{wr w3 u:World}{wv v':Value}{xs:List Int}{x:Int}(h:N8 w wr wv xs)(hown:w3.ownsRow 0 2 1 v' (xs.length+1) ((xs.map fun v=>vI v)++[vI x]))(hold:∀r,r<wr.heap.size→some r≠wv.ownBlock→w3.heap[r]? =wr.heap[r]?)(hsz:wr.heap.size≤w3.heap.size)(hfr:v'.ownBlock=wv.ownBlock∨∃g,v'.ownBlock=some g∧wr.heap.size≤g)(hu:u.heap=(w3.setCell ⟨w.heap.size,1,none⟩ v').heap):N8 w u v' (xs++[x]):=by
 have hs:=h.size
 have hne:some w.heap.size≠wv.ownBlock:=fun e=>by obtain⟨c,hc⟩:=X1 h.row e.symm;exact i4 hc h.o (by decide) rfl
 have h3:w3.heap[w.heap.size]? =some (.cells #[vI 0,wv,.slice none 0 0] 147 (0,0)):=(hold _ (by omega) hne).trans h.o
 have e1:∀r,r≠w.heap.size→u.heap[r]? =w3.heap[r]?:=fun r hr=>by rw[hu,I0 _ _ _ hr]
 have hn:∀r,v'.ownBlock=some r→w.heap.size≤r:=fun r hr=>by
  rcases hfr with e|⟨g,e,hg⟩
  ·exact h.new r (e ▸ hr)
  ·rw[e]at hr;cases hr;omega
 refine⟨by rw[hu,v5 h3];simp,?_,by rw[hu,World.size_setCell];omega,fun r hr=>?_,hn⟩
 ·have hown2:w3.ownsRow 0 2 1 v' (xs++[x]).length ((xs++[x]).map fun v=>vI v):=by simpa using hown
  refine K0 hown2 fun b hb _=>e1 b fun e=>?_
  obtain⟨c,hc⟩:=X1 hown2 hb
  exact i4 hc h3 (by decide) e
 ·have:some r≠wv.ownBlock:=fun e=>by have:=h.new r e.symm;omega
  exact(e1 r (by omega)).trans ((hold r (by omega) this).trans (h.old r hr))
theorem N8.done{wr:World}{wv:Value}{xs:List Int}(h:N8 w wr wv xs)(h1:0<xs.length)(h2:xs.length≤16):∃B:R8B,B.mb=w.heap.size∧B.tv= .slice none 0 0∧R2 wr w.heap.size B ⟨0,xs⟩ []:=by
 rcases h.row.2 with⟨_,h0⟩|⟨g,cap,cur,rfl,_⟩
 ·omega
 ·exact⟨⟨w.heap.size,g,cap,.slice none 0 0⟩,rfl,rfl,⟨h1,h2⟩,h.o,h.row,⟨rfl,.inl ⟨rfl,rfl⟩⟩,fun t ht=>by simp at ht,fun i j t u ht=>by simp at ht,fun t ht=>by simp at ht,Nat.le_refl _,h.new g rfl,fun r hr=>(by cases hr),fun t ht=>by simp at ht⟩
theorem p0A{vs:List Int}{k:Nat}(hk:k=16)(hl:k≤vs.length):vs.take k=(I4 vs).ws∧0<(vs.take k).length:=by
 subst hk
 refine⟨?_,by simp;omega⟩
 apply List.ext_getElem
 ·simp[I4];omega
 ·intro i h1 h2
  have hi:i<vs.length:=by simp at h1;omega
  simp[I4,List.getD_eq_getElem?_getD,List.getElem?_eq_getElem hi]
theorem x0E{vs:List Int}(hl:vs.length<16)(h0:0<vs.length):vs=(I4 vs).ws:=by
 apply List.ext_getElem
 ·simp[I4];omega
 ·intro i h1 h2
  simp[I4,List.getD_eq_getElem?_getD,List.getElem?_eq_getElem h1]
theorem E0M{va:Option Addr}{vc:Nat}{vs:List Int}(hv:B5 w va (vs.map fun v=>vI v))(hvl:vs.length<9223372036854775808):
 Calls Try.prog 50 #[.slice va vs.length vc] w fun e w'=>e= .returned (vP w.heap.size 0)∧(∃B:R8B,B.mb=w.heap.size∧B.tv= .slice none 0 0∧R2 w' w.heap.size B (I4 vs) [])∧D2 w.heap.size w w':=by
 obtain⟨i0,z0,hi,hz0,hz1,hz2,hz3⟩:=i8
 have V:Aside (B5 w va (vs.map fun v=>vI v)):=hv
 have N0:Aside (N8 w (w.alloc (.cells #[vI 0,.slice none 0 0,.slice none 0 0] 147)) (.slice none 0 0) []):=N8.start
 clear hv
 go_enter Try.func50,Try.ntmps50
 go_wp2
 go_loopg [4] (min vs.length 16) (fun g i wr=>∃(k:Nat) (wv:Value),k≤min vs.length 16∧i=vI k∧g=min vs.length 16 - k∧N8 w wr wv (vs.take k)∧(k=0→wv= .slice none 0 0))
 case atStart=>exact⟨0,_,Nat.zero_le _,rfl,rfl,N0.out,fun _=>rfl⟩
 case round=>
  obtain⟨k,wv,hk,rfl,hg,hN,hwz⟩:=hrel
  have R:Aside (N8 w wr wv (vs.take k)):=hN
  have G:Aside _:=hg
  have m1:wr.cell? ⟨w.heap.size,1,none⟩=some wv:=by have:=hN.o;simp[World.cell?,this]
  have mz:wr.frozen? ⟨w.heap.size,1,none⟩=false:=by have:=hN.o;simp[World.frozen?,this]
  have hml:=hN.size
  clear hg
  by_cases hlt:k<vs.length
  ·have hlt1:(k:Int)<(vs.length:Int):=by omega
   by_cases h16:k<16
   ·have hlt2:(k:Int)<16:=by omega
    have hwr:IntKind.i64.wrap ((k:Int)+1)=(k:Int)+1:=IntWalk.i64_in _ (by omega)
    obtain⟨vb,vo,rfl,f0⟩:=(V.out.olds hN.old).c k (vI vs[k]) (by simp[hlt])
    have htl:(vs.take k).length=k:=by simp;omega
    have hrow:wr.ownsRow 0 2 1 wv k ((vs.take k).map fun v=>vI v):=by have:=hN.row;rwa [htl]at this
    have hma:some w.heap.size≠wv.ownBlock:=fun e=>by obtain⟨c,hc⟩:=X1 hrow e.symm;exact i4 hc hN.o (by decide) rfl
    have hvb:vb<w.heap.size:=by
     obtain⟨b,o,e1,e2⟩:=V.out.c k (vI vs[k]) (by simp[hlt])
     cases e1
     exact I9 e2
    have hva:some vb≠wv.ownBlock:=fun e=>by have:=hN.new vb e.symm;omega
    have T:Aside (k<vs.length∧(vs.take k).length=k):=⟨hlt,htl⟩
    generalize hx:vs[k]=x at f0
    have X:Aside (vs[k]? =some x):=by rw[← hx];exact List.getElem?_eq_getElem hlt
    generalize hl:vs.take k=l at hrow
    have L:Aside (vs.take k=l):=hl
    have hvbw:vb<wr.heap.size:=by omega
    clear hlt h16 htl hN hl hx hk
    go_wp2
    go_region_law (refine O4 rfl (.tmp 21) (.tmp 26) 22 rfl 2 i0 z0 1 8 Try.underlying22 hi hz0 hz1 hz2 hz3 (by decide) wv k (l.map fun v=>vI v) (by simp[Act.eval,Act.put]) ((show wr.drew.ownsRow 0 2 1 _ _ _ from hrow).alloc _) ⟨wr.heap.size,0,none⟩ 1 1 [vI x] (by simp[Act.eval,Act.put]) rfl (N4 (X:=wr.drew) (l:=[vI x]) rfl) (by intro u hu;simp at hu;subst hu;rfl) (by unfold maxLen;omega) (by omega) ?_;intro v' w3 hown hgrow hfr;obtain⟨g,cap,rfl⟩:=j5 hown;have hk2:=M2 (W:=wr.drew) hgrow (r:=w.heap.size) hml hma;have k1:=(F1 (j:=1) hk2).1.trans m1;have kz:=(F1 (j:=1) hk2).2.trans mz;have k3:=(F1 (j:=vo+k) (M2 (W:=wr.drew) hgrow (r:=vb) hvbw hva)).1.trans f0;have F:Aside (w3.ownsRow 0 2 1 (vL g 0 (k+1) cap) (k+1) ((l.map fun v=>vI v)++[vI x])∧(∀r,r<wr.heap.size→some r≠wv.ownBlock→w3.heap[r]? =wr.heap[r]?)∧wr.heap.size≤w3.heap.size∧((Value.slice (some ⟨g,0,none⟩) (k+1) cap).ownBlock=wv.ownBlock∨∃g',(Value.slice (some ⟨g,0,none⟩) (k+1) cap).ownBlock=some g'∧wr.heap.size≤g')):=⟨hown,fun r hr hn=>M2 (W:=wr.drew) hgrow hr hn,Nat.le_trans (by simp[World.drew]) hgrow.size,hfr.imp id fun⟨g',h1,h2⟩=>⟨g',h1,Nat.le_trans (by simp[World.drew]) h2⟩⟩;clear hgrow hfr hk2 hown)
    all_goals go_wp2
    all_goals(
     go_roundg (min vs.length 16 - (k+1))
     case measure=>rw[G.out];have:=T.out.1;omega
     case rel=>
      obtain⟨f1,f2,f3,f4⟩:=F.out
      have hN:=R.out
      rw[L.out]at hN
      have hl:l.length=k:=by rw[← L.out];exact T.out.2
      have f1':w3.ownsRow 0 2 1 (vL g 0 (k+1) cap) (l.length+1) ((l.map fun v=>vI v)++[vI x]):=by rw[hl];exact f1
      have h5:=hN.more (u:=w3.setCell ⟨w.heap.size,1,none⟩ (vL g 0 (k+1) cap)) f1' f2 f3 f4 rfl
      have e:vs.take (k+1)=l++[x]:=by rw[List.take_add_one,X.out,L.out];rfl
      exact⟨k+1,_,by have:=T.out.1;omega,rfl,rfl,by rw[e];exact h5.heap rfl,fun h=>by omega⟩)
   ·have h16':¬(k:Int)<16:=by omega
    have hk16:k=16:=by omega
    have Z:Aside (vs.take k=(I4 vs).ws∧0<(vs.take k).length∧(vs.take k).length≤16):=⟨(p0A hk16 (by omega)).1,(p0A hk16 (by omega)).2,by rw[List.length_take];omega⟩
    have hl0:(vs.take k).length=k:=by simp;omega
    have hrow:=hN.row
    rw[hl0]at hrow
    obtain⟨g0,c0,e0⟩:∃g0 c0,wv=vL g0 0 k c0:=by
     rcases hrow.2 with⟨_,h0⟩|⟨b,cap,cur,e,_⟩
     ·omega
     ·exact⟨_,_,e⟩
    subst e0
    have hk0:¬(k:Int)=0:=by omega
    have hk0':¬k=0:=by omega
    clear hN hrow hlt h16 hk16 hl0 hk
    go_wp2
    go_ret
    obtain⟨B,b1,b2,b3⟩:=R.out.done Z.out.2.1 Z.out.2.2
    have e:I4 vs=⟨0,vs.take k⟩:=by rw[Z.out.1];rfl
    exact⟨rfl,⟨B,b1,b2,by rw[e];exact b3.heap rfl⟩,(⟨Nat.le_of_lt R.out.size,R.out.old,fun r c y z q e=>R.out.old r (Q3 e)⟩:D2 w.heap.size w wr).heap rfl⟩
  ·have hkl:k=vs.length:=by omega
   have hlt':¬(k:Int)<(vs.length:Int):=by omega
   by_cases h0:k=0
   ·have hrow:=hN.row
    rw[h0]at hrow
    have e0:wv= .slice none 0 0:=hwz h0
    subst e0
    have hvs:vs=[]:=List.length_eq_zero_iff.1 (by omega)
    have hz1:=O0 m1 (.cells #[vI 0] 2)
    have y1:=hz1.1
    clear hN hrow hlt hk hwz hkl hlt' hz1
    subst h0
    subst hvs
    go_wp2
    go_ret
    have h5:=R.out.more (w3:=wr.alloc (.cells #[vI 0] 2)) (x:=0) (u:=(wr.alloc (.cells #[vI 0] 2)).setCell ⟨w.heap.size,1,none⟩ (vL wr.heap.size 0 1 1)) j0h (fun r hr _=>D0 _ _ hr) (by simp) (.inr ⟨_,rfl,Nat.le_refl _⟩) rfl
    obtain⟨B,b1,b2,b3⟩:=h5.done (by simp) (by simp)
    have hcm:((wr.setCell ⟨w.heap.size,1,none⟩ (vL wr.heap.size 0 1 1)).alloc (.cells #[vI 0] 2)).heap=((wr.alloc (.cells #[vI 0] 2)).setCell ⟨w.heap.size,1,none⟩ (vL wr.heap.size 0 1 1)).heap:=by
     have hlt:w.heap.size<wr.heap.size:=R.out.size
     go_simp
    exact⟨rfl,⟨B,b1,b2,b3.heap hcm⟩,(⟨Nat.le_of_lt h5.size,h5.old,fun r c y z q e=>h5.old r (Q3 e)⟩:D2 w.heap.size w _).heap hcm⟩
   ·have Z:Aside (vs.take k=(I4 vs).ws∧0<(vs.take k).length∧(vs.take k).length≤16):=by
     rw[hkl,List.take_length]
     have hle:vs.length≤16:=by omega
     refine⟨?_,by omega,hle⟩
     by_cases h:vs.length<16
     ·exact x0E h (by omega)
     ·have:=(p0A (vs:=vs) (k:=vs.length) (by omega) (Nat.le_refl _)).1
      rwa [List.take_length]at this
    have hl0:(vs.take k).length=k:=by simp;omega
    have hrow:=hN.row
    rw[hl0]at hrow
    obtain⟨g0,c0,e0⟩:∃g0 c0,wv=vL g0 0 k c0:=by
     rcases hrow.2 with⟨_,h0⟩|⟨b,cap,cur,e,_⟩
     ·omega
     ·exact⟨_,_,e⟩
    subst e0
    have hk0:¬(k:Int)=0:=by omega
    clear hN hrow hlt hl0 hk hkl
    go_wp2
    go_ret
    obtain⟨B,b1,b2,b3⟩:=R.out.done Z.out.2.1 Z.out.2.2
    have e:I4 vs=⟨0,vs.take k⟩:=by rw[Z.out.1];rfl
    exact⟨rfl,⟨B,b1,b2,by rw[e];exact b3.heap rfl⟩,(⟨Nat.le_of_lt R.out.size,R.out.old,fun r c y z q e=>R.out.old r (Q3 e)⟩:D2 w.heap.size w wr).heap rfl⟩
end
section
variable{w w':World}{b0:Nat}{B:R8B}{s:R1}{ts:List T3}
def e0c(w':World)(b0:Nat)(B:R8B)(ts:List T3)(i:Nat)(t:T3)(n:Nat)(o:P3)(r:R1×SRs):Prop:=match r.2 with
 | .inl c'=>∃t',R2 w' b0 B r.1 (ts.set i t')∧t'.op=t.op∧t'.k=t.k∧t'.ans=t.ans∧m0Y n o t' c'
 | .inr a=>∃t',R2 w' b0 B r.1 (ts.set i t')∧t'.op=t.op∧t'.k=t.k+1∧t'.ans.map SA.an=t.ans.map SA.an++[a]∧t'.ans.length=t.ans.length+1∧t'.pc=0
section
variable{i:Nat}{t t1:T3}{n:Nat}{o:P3}{c:SCl}
theorem b0a(h:FO w' b0 B s ts i t1)(hkd:(c.kd:Int)=o.kd)(hk:1≤c.kd∧c.kd≤3)(htr:t1.tr=(c.T:Int) - c.r∧c.r<c.T∧c.T≤1024)(hvs:c.kd≤2→c.vs=V2 n o.b o.c)(e1:t1.op=t.op)(e2:t1.k=t.k)(e3:t1.ans=t.ans):e0c w' b0 B ts i t n o (s.again c):=by
 unfold FO at h
 unfold R1.again
 by_cases hlt:c.r+1<c.T
 ·rw[if_neg (by omega)]at h
  rw[if_pos hlt]
  refine⟨t1.again,h,e1,e2,e3,?_⟩
  constructor<;>simp[T3.again]<;>first|omega|exact hkd|exact hvs|(intros;omega)|(intro h;exact hvs h)
 ·rw[if_pos (by omega)]at h
  rw[if_neg hlt]
  obtain⟨av',h⟩:=h
  exact⟨_,h,e1,by simp only[T3.fin,T3.again];omega,by simp[T3.fin,T3.again,e3,noA],by simp[T3.fin,T3.again,e3],rfl⟩
theorem k0s{n i:Nat}{b c:Int}(h:i<n):(V2 n b c).getD i 0=i6 (b+i6 (i*c)):=by
 simp[V2,List.getD_eq_getElem?_getD,h]
theorem a0Z{ts:List T3}{i:Nat}{a b:T3}{X:List T3→Prop}(h:X ((ts.set i a).set i b)):X (ts.set i b):=by rwa [List.set_set]at h
theorem k08(h:R2 w b0 B s (ts.set i {t with pc:=t.pc+1}))(hi:i<ts.length)(hr:m0Y s.ws.length o t c)(hk:c.kd≤2)(hl:t.ans.length<100000000)(hkk:t.k<100000000):
 Calls Try.prog 105 #[vP B.mb 0,vI i,.agg #[vI o.kd,vI o.a,vI o.b,vI o.c],vI t.pc] w fun e w'=>e= .returned (.tuple #[])∧(e0c w' b0 B ts i t s.ws.length o (s.step c)∧D2 b0 w w'):=by
 have ht:(ts.set i {t with pc:=t.pc+1})[i]? =some {t with pc:=t.pc+1}:=by simp[List.getElem?_set,hi]
 have hst:s.step c=s.wstep c:=by unfold R1.step;rw[if_pos (by have:=hr.kr;omega)]
 have hn:=h.wf.n1
 have htr:=hr.tr (by omega)
 have hph:=hr.ph hk
 have hkr:=hr.kr
 rw[hst]
 unfold R1.wstep
 have hp4:c.ph=0∨c.ph=1∨c.ph=2∨c.ph=3:=by omega
 rcases hp4 with hp|hp|hp|hp
 ·rw[if_pos hp]
  have hpc:=hr.p0 (by omega) hp
  have e:(t.pc:Int)=1:=by omega
  rw[e]
  by_cases hv:s.ver.tmod 2=0
  ·rw[if_pos hv]
   refine(r0H h ht hv).mono fun e u ⟨k1,k2,k3⟩=>⟨k1,⟨tv1 {t with pc:=t.pc+1} s.ver,a0Z (X:=fun l=>R2 u b0 B s l) k2,rfl,rfl,rfl,?_⟩,k3⟩
   have:=hr.so
   have:=hr.ol
   have:=hr.vs
   have:=hr.kd
   constructor<;>simp[tv1]<;>first|omega|assumption|(intros;omega)
  ·rw[if_neg hv]
   refine(r0K h ht hv (by simp only;omega) hl hkk).mono fun e u ⟨k1,k2,k3⟩=>⟨k1,b0a (t1:=tv1 {t with pc:=t.pc+1} s.ver) (by unfold FO at k2 ⊢;simpa only[List.set_set]using k2) hr.kd (by omega) htr hr.vs rfl rfl rfl,k3⟩
 ·rw[if_neg (by omega),if_pos hp]
  have hpc:=hr.p1 hk hp
  have e:(t.pc:Int)=2:=by omega
  have hv0:=hr.v (by omega) (by omega)
  rw[e]
  by_cases hv:s.ver=c.v
  ·rw[if_pos hv]
   refine(r0J h ht (by rw[hv];exact hv0.symm)).mono fun e u ⟨k1,k2,k3⟩=>⟨k1,⟨{t with pc:=t.pc+1},by rw[← hv];exact k2,rfl,rfl,rfl,?_⟩,k3⟩
   have:=hr.so
   have:=hr.ol
   have:=hr.vs
   have:=hr.kd
   constructor<;>simp<;>first|omega|assumption|(intros;omega)
  ·rw[if_neg hv]
   refine(r0I h ht (by simp only;rw[hv0];exact hv) (by simp only;omega) hl hkk).mono fun e u ⟨k1,k2,k3⟩=>⟨k1,b0a (t1:={t with pc:=t.pc+1}) (by unfold FO at k2 ⊢;simpa only[List.set_set]using k2) hr.kd (by omega) htr hr.vs rfl rfl rfl,k3⟩
 ·rw[if_neg (by omega),if_neg (by omega),if_pos hp]
  obtain⟨hpc,hin⟩:=hr.p2 hk hp
  have e:(t.pc:Int)=(c.i:Int)+3:=by omega
  have hvs:=hr.vs hk
  have hval:c.vs.getD c.i 0=i6 (o.b+i6 (c.i*o.c)):=by rw[hvs];exact k0s hin
  have hv0:=hr.v (by omega) (by omega)
  have hsl:∀v,(s.ws.set c.i v).length=s.ws.length:=fun v=>List.length_set
  have key:∀u,R2 u b0 B {s with ws:=s.ws.set c.i (a0M c.kd (s.ws.getD c.i 0) (c.vs.getD c.i 0))} (ts.set i {t with pc:=t.pc+1})→e0c u b0 B ts i t s.ws.length o ({s with ws:=s.ws.set c.i (a0M c.kd (s.ws.getD c.i 0) (c.vs.getD c.i 0))},.inl (if c.i+1<s.ws.length then{c with i:=c.i+1}else{c with ph:=3})):=fun u hu=>by
   refine⟨{t with pc:=t.pc+1},hu,rfl,rfl,rfl,?_⟩
   have:=hr.so
   have:=hr.ol
   have:=hr.kd
   split
   ·constructor<;>simp<;>first|omega|assumption|(intros;omega)
   ·constructor<;>simp<;>first|omega|assumption|(intros;omega)
  have hkd:=hr.kd
  have hk12:c.kd=1∨c.kd=2:=by omega
  rcases hk12 with h1|h1
  ·refine(o0j (a:=o.a) (b:=o.b) (c:=o.c) (kd:=o.kd) h ht e hin (by omega)).mono fun e u ⟨k1,k2,k3⟩=>⟨k1,key u ?_,k3⟩
   rw[hval,a0M,if_pos h1]
   exact k2
  ·refine(o0k (a:=o.a) (b:=o.b) (c:=o.c) (kd:=o.kd) h ht e hin (by omega)).mono fun e u ⟨k1,k2,k3⟩=>⟨k1,key u ?_,k3⟩
   rw[hval,a0M,if_neg (by omega),Int.add_comm]
   exact k2
 ·rw[if_neg (by omega),if_neg (by omega),if_neg (by omega)]
  have hpc:=hr.p3 hk hp
  have hv0:=hr.v (by omega) (by omega)
  refine(r0L (a:=o.a) (b:=o.b) (c:=o.c) (kd:=o.kd) h ht (by omega) hl hkk).mono fun e u ⟨k1,⟨av',an,ha,k2⟩,k3⟩=>⟨k1,⟨T3.fin {t with pc:=t.pc+1} av' an,?_,rfl,rfl,?_,?_,rfl⟩,k3⟩
  ·rw[← hv0]
   exact a0Z (X:=fun l=>R2 u b0 B _ l) k2
  ·simp[T3.fin,ha]
  ·simp[T3.fin]
end
end
section
variable{w w':World}{b0:Nat}{B:R8B}{s:R1}{ts:List T3}
section
variable{i:Nat}{t t1:T3}{n:Nat}{o:P3}{c:SCl}
theorem n0Y(h:R2 w b0 B s (ts.set i {t with pc:=t.pc+1}))(hi:i<ts.length)(hr:m0Y s.ws.length o t c)(hk:c.kd=3)(hl:t.ans.length<100000000)(hkk:t.k<100000000):
 Calls Try.prog 106 #[vP B.mb 0,vI i,vI t.pc] w fun e w'=>e= .returned (.tuple #[])∧(e0c w' b0 B ts i t s.ws.length o (s.step c)∧D2 b0 w w'):=by
 have ht:(ts.set i {t with pc:=t.pc+1})[i]? =some {t with pc:=t.pc+1}:=by simp[List.getElem?_set,hi]
 have hst:s.step c=s.rstep c:=by unfold R1.step;rw[if_neg (by omega),if_pos hk]
 have hn:=h.wf.n1
 have hn16:=h.wf.n2
 have htr:=hr.tr (by omega)
 have hph:=hr.qh hk
 have hso:=hr.so
 have hol:=hr.ol
 have hkd:=hr.kd
 rw[hst]
 unfold R1.rstep
 have hp4:c.ph=0∨c.ph=1∨c.ph=2:=by omega
 rcases hp4 with hp|hp|hp
 ·rw[if_pos hp]
  have hpc:=hr.p0 (by omega) hp
  have e:(t.pc:Int)=1:=by omega
  rw[e]
  by_cases hv:s.ver.tmod 2=0
  ·rw[if_pos hv]
   have hso0:c.out=[]:=hr.s0 hk hp
   refine(t0z h ht hv).mono fun e u ⟨k1,k2,k3⟩=>⟨k1,⟨tv1 {t with pc:=t.pc+1} s.ver,a0Z (X:=fun l=>R2 u b0 B s l) k2,rfl,rfl,rfl,?_⟩,k3⟩
   rw[hso0]at hso
   constructor<;>simp[tv1]<;>first|omega|assumption|(intros;omega)
  ·rw[if_neg hv]
   refine(t0B h ht hv (by simp only;omega) hl hkk).mono fun e u ⟨k1,k2,k3⟩=>⟨k1,b0a (t1:=tv1 {t with pc:=t.pc+1} s.ver) (by unfold FO at k2 ⊢;simpa only[List.set_set]using k2) hr.kd (by omega) htr hr.vs rfl rfl rfl,k3⟩
 ·rw[if_neg (by omega),if_pos hp]
  obtain⟨hpc,hin⟩:=hr.q1 hk hp
  have hoi:=hr.oi hk hp
  have hv0:=hr.v (by omega) (by omega)
  have e:(t.pc:Int)=(c.i:Int)+2:=by omega
  refine(t0C (l:=c.out) h ht hso (by omega) e hin).mono fun e u ⟨k1,⟨sv',k2⟩,k3⟩=>⟨k1,⟨{t with pc:=t.pc+1,sv:=sv',so:=some (c.out++[s.ws.getD c.i 0])},a0Z (X:=fun l=>R2 u b0 B s l) k2,rfl,rfl,rfl,?_⟩,k3⟩
  split
  ·constructor<;>simp<;>first|omega|assumption|(intros;omega)
  ·constructor<;>simp<;>first|omega|assumption|(intros;omega)
 ·rw[if_neg (by omega),if_neg (by omega)]
  have hpc:=hr.q2 hk hp
  have hv0:=hr.v (by omega) (by omega)
  by_cases hv:s.ver=c.v
  ·rw[if_pos hv]
   refine(t0D (l:=c.out) h ht hso (by omega) (by simp only;rw[hv0];exact hv) hl hkk).mono fun e u ⟨k1,⟨av',an,ha,k2⟩,k3⟩=>⟨k1,⟨T3.fin {t with pc:=t.pc+1} av' an,a0Z (X:=fun l=>R2 u b0 B s l) k2,rfl,rfl,?_,?_,rfl⟩,k3⟩
   ·simp[T3.fin,ha]
   ·simp[T3.fin]
  ·rw[if_neg hv]
   refine(t0A h ht (by omega) (by simp only;rw[hv0];exact hv) (by simp only;omega) hl hkk).mono fun e u ⟨k1,k2,k3⟩=>⟨k1,b0a (t1:={t with pc:=t.pc+1}) (by unfold FO at k2 ⊢;simpa only[List.set_set]using k2) hr.kd (by omega) htr hr.vs rfl rfl rfl,k3⟩
theorem n08{ops:List P3}(h:R2 w b0 B s ts)(ht:ts[i]? =some t)(hO:b0O w b0 t.op ops)(ho:ops[t.k]? =some o)(hr:m0Y s.ws.length o t c)(hl:t.ans.length<100000000)(hk:t.k<100000000):
 Calls Try.prog 84 #[vP B.mb 0,vI i] w fun e w'=>e= .returned (.tuple #[])∧(e0c w' b0 B ts i t s.ws.length o (s.step c)∧D2 b0 w w'):=by
 obtain⟨ob,oo,oc,hA⟩:=hO.c t.k o ho
 have hi:=(List.getElem?_eq_some_iff.1 ht).1
 have hn16:=h.wf.n2
 have hkd:=hr.kd
 have hkr:=hr.kr
 have hso:=hr.so
 have hol:=hr.ol
 have hpc:t.pc<100:=by
  have h1:=hr.p0;have h2:=hr.p1;have h3:=hr.p2;have h4:=hr.p3;have h5:=hr.q1;have h6:=hr.q2;have h7:=hr.r1;have h8:=hr.s1;have h9:=hr.ph;have h10:=hr.qh
  omega
 have hk5:c.kd≤2∨c.kd=3∨c.kd=4∨c.kd=5:=by omega
 rcases hk5 with h1|h1|h1|h1
 ·refine t05 (P:=fun w'=>e0c w' b0 B ts i t s.ws.length o (s.step c)∧D2 b0 w w') h ht hA hpc (by omega) fun X hX hS=>?_
  exact(k08 hX hi hr h1 hl hk).mono fun e u ⟨k1,k2,k3⟩=>⟨k1,k2,hS.trans k3⟩
 ·have e3:o.kd=3:=by omega
  rw[e3]at hA
  refine t04 (P:=fun w'=>e0c w' b0 B ts i t s.ws.length o (s.step c)∧D2 b0 w w') h ht hA hpc fun X hX hS=>?_
  exact(n0Y hX hi hr h1 hl hk).mono fun e u ⟨k1,k2,k3⟩=>⟨k1,k2,hS.trans k3⟩
 ·have e4:o.kd=4:=by omega
  rw[e4]at hA
  obtain⟨hp,hin⟩:=hr.r1 h1
  have hoi:=hr.oi4 h1
  have hst:s.step c=if c.i+1<s.ws.length then(s,.inl {c with i:=c.i+1,out:=c.out++[s.ws.getD c.i 0]})else(s,.inr (true,0,c.out++[s.ws.getD c.i 0])):=by unfold R1.step;rw[if_neg (by omega),if_neg (by omega),if_pos h1]
  rw[hst]
  by_cases hlt:c.i+1<s.ws.length
  ·rw[if_pos hlt]
   refine(t03 (l:=c.out) (k:=c.i) h ht hA hpc hso (by omega) hp hin (by omega)).mono fun e u ⟨k1,⟨sv',k2⟩,k3⟩=>⟨k1,⟨_,k2,rfl,rfl,rfl,?_⟩,k3⟩
   constructor<;>simp<;>first|omega|assumption|(intros;omega)
  ·rw[if_neg hlt]
   refine(t02 (l:=c.out) (k:=c.i) h ht hA hpc hso (by omega) hp hin (by omega) hl hk).mono fun e u ⟨k1,⟨sv',av',an,ha,k2⟩,k3⟩=>⟨k1,⟨_,k2,rfl,rfl,?_,?_,rfl⟩,k3⟩
   ·simp[T3.fin,ha]
   ·simp[T3.fin]
 ·have e5:o.kd=5:=by omega
  rw[e5]at hA
  have ha5:=hr.a h1
  have hst:s.step c=(s,.inr (decide (c.a<s.ver),s.ver,[])):=by unfold R1.step;rw[if_neg (by omega),if_neg (by omega),if_neg (by omega)]
  rw[hst,ha5]
  by_cases hv:o.a<s.ver
  ·refine(r0e h ht hA hpc hv hl hk).mono fun e u ⟨k1,⟨av',an,ha,k2⟩,k3⟩=>⟨k1,⟨_,k2,rfl,rfl,?_,?_,rfl⟩,k3⟩
   ·simp[T3.fin,ha,hv]
   ·simp[T3.fin]
  ·refine(r0d h ht hA hpc hv hl hk).mono fun e u ⟨k1,⟨av',an,ha,k2⟩,k3⟩=>⟨k1,⟨_,k2,rfl,rfl,?_,?_,rfl⟩,k3⟩
   ·simp[T3.fin,ha,hv]
   ·simp[T3.fin]
end
end
section
variable{w w':World}{b0:Nat}{B:R8B}{s:R1}{ts:List T3}
structure R8S(w:World)(b0:Nat)(B:R8B)(k:Nat)(ops:Nat→List P3)(g:GS SPl)(ts:List T3):Prop where
 A:R2 w b0 B g.q ts
 T:∀(i:Nat) t,ts[i]? =some t→c0n (List.length (R1.ws g.q)) (ops i) t (g.th i)∧b0O w b0 t.op (ops i)
 n:ts.length=k
 L:∀(i:Nat),∀a∈GT.ans (g.th i),(a:SAn).2.2.length≤17
theorem o0t{s s':R1}{o:P3}{a:SAn}(h:s.begin o=(s',.inr a)):a.2.2.length≤17:=by
 unfold R1.begin at h
 repeat' split at h
 all_goals first|(cases h;done)|(cases h;exact Nat.zero_le _)
theorem g0P:∀(l:List P3) (q:R1) (t:GT SPl),(∀a∈t.ans,(a:SAn).2.2.length≤17)→∀a∈(r6 SPl l q t).2.ans,(a:SAn).2.2.length≤17
 | [],q,t,h=>h
 | o::l,q,t,h=>by
   obtain⟨q',r,e⟩:∃q' r,q.begin o=(q',r):=⟨_,_,rfl⟩
   cases r with
   | inl c=>rw[e0f e];exact h
   | inr a=>
     rw[e0g e]
     refine g0P l _ _ fun b hb=>?_
     rcases List.mem_append.1 hb with hb|hb
     ·exact h b hb
     ·rw[List.mem_singleton.1 hb]
      exact o0t e
theorem o0r{s s':R1}{c:SCl}{a:SAn}(h:s.again c=(s',.inr a)):a.2.2.length≤17:=by
 unfold R1.again at h
 split at h
 ·cases h
 ·cases h;exact Nat.zero_le _
theorem t06{s s':R1}{c:SCl}{a:SAn}(ho:c.out.length≤16)(h:s.step c=(s',.inr a)):a.2.2.length≤17:=by
 unfold R1.step R1.wstep R1.rstep at h
 repeat' split at h
 all_goals first|(cases h;done)|exact o0r h|(cases h;first|exact Nat.zero_le _|(simp;omega))
section
variable{i k:Nat}{t:T3}{ops:Nat→List P3}{g:GS SPl}{c:SCl}{o:P3}
theorem R8S.heap(h:R8S w b0 B k ops g ts)(e:w'.heap=w.heap):R8S w' b0 B k ops g ts:=
 ⟨h.A.heap e,fun i t ht=>⟨(h.T i t ht).1,(h.T i t ht).2.stay ((D2.refl b0 w).heap e)⟩,h.n,h.L⟩
theorem c0n.pc{n:Nat}{l:List P3}{t:T3}{g:GT SPl}(h:c0n n l t g):t.pc≠0↔g.call.isSome=true:=by
 have h1:=h.call
 cases hc:g.call with
 | none=>rw[hc]at h1;simp[h1.1]
 | some c=>rw[hc]at h1;obtain⟨o,_,h2⟩:=h1;have:=h2.pcp;simp;omega
theorem R8S.pc(h:R8S w b0 B k ops g ts)(ht:ts[i]? =some t):t.pc≠0↔g.live i=true:=(h.T i t ht).1.pc
theorem R8S.left(h:R8S w b0 B k ops g ts):(∃t∈ts,t.pc≠0)↔0<L5 g.live k:=by
 rw[Nat.pos_iff_ne_zero,ne_eq,a0I]
 constructor
 ·rintro⟨t,ht,hp⟩ hz
  obtain⟨i,hi⟩:=c0z ht
  have h1:=(h.pc hi).1 hp
  rw[hz i (by have:=(List.getElem?_eq_some_iff.1 hi).1;have:=h.n;omega)]at h1
  cases h1
 ·intro hz
  apply Classical.byContradiction
  intro hn
  refine hz fun j hj=>?_
  obtain⟨t,ht⟩:∃t,ts[j]? =some t:=⟨_,List.getElem?_eq_getElem (by have:=h.n;omega)⟩
  cases hl:g.live j with
  | false=>rfl
  | true=>exact absurd ⟨t,List.mem_of_getElem? ht,(h.pc ht).2 hl⟩ hn
def z0R(w':World)(b0:Nat)(B:R8B)(ts:List T3)(i:Nat)(op:Value)(n:Nat)(ops:List P3)(r:R1×GT SPl):Prop:=∃t',R2 w' b0 B r.1 (ts.set i t')∧t'.op=op∧c0n n ops t' r.2
theorem k0R{ops:List P3}{g:GT SPl}{u:World}(h:e0c u b0 B ts i t s.ws.length o (s.step c))(hi:i<ts.length)(hT:c0n s.ws.length ops t g)(hc:g.call=some c)(ho:ops[g.k]? =some o)(hO:b0O u b0 t.op ops)(hlen:ops.length≤65536):
 Calls Try.prog 83 #[vP B.mb 0,vI i] u fun e w'=>e= .returned (.tuple #[])∧z0R w' b0 B ts i t.op s.ws.length ops (H8 SPl ops s g)∧D2 b0 u w':=by
 have hlt:=(List.getElem?_eq_some_iff.1 ho).1
 have hsl:=c09 s c
 unfold e0c at h
 obtain⟨s',r,e⟩:∃s' r,s.step c=(s',r):=⟨_,_,rfl⟩
 rw[e]at h hsl
 simp only at hsl
 have e2:SPl.stp s c=(s',r):=e
 cases r with
 | inl c'=>
   obtain⟨t',h1,h2,h3,h4,h5⟩:=h
   have hs:H8 SPl ops s g=(s',{g with call:=some c'}):=by simp only[H8,hc,e2];rfl
   rw[hs]
   have hp:=h5.pcp
   refine(q0R h1 (i:=i) (t:=t') (by simp[List.getElem?_set,hi]) (by omega)).mono fun e u2 ⟨k1,k2⟩=>⟨k1,⟨t',h1.heap k2,h2,?_⟩,(D2.refl b0 u).heap k2⟩
   exact⟨h3.trans hT.k,hT.kl,hT.al,by rw[h4];exact hT.ans,o,ho,h5⟩
 | inr a=>
   obtain⟨t',h1,h2,h3,h4,h5,h6⟩:=h
   have hs:H8 SPl ops s g=r6 SPl (ops.drop (g.k+1)) s' ⟨g.k+1,none,g.ans++([a]:List SPl.A)⟩:=by simp only[H8,hc,e2]
   have hk:t'.k=g.k+1:=h3.trans (by rw[hT.k])
   have hal:t'.ans.length=t'.k:=by
    have:=hT.ans
    have h7:=hT.al
    have h8:=congrArg List.length this
    rw[List.length_map]at h8
    have h9:=hT.k
    have h8:t.ans.length=g.ans.length:=h8
    omega
   refine(m0t (ops:=ops) h1 (i:=i) (t:=t') (by simp[List.getElem?_set,hi]) (by rw[h2];exact hO) hlen (by omega) hal h6).mono fun e u2 ⟨k1,⟨t2,k2,k3,k4⟩,k5⟩=>⟨k1,⟨t2,?_,k3.trans h2,?_⟩,k5⟩
   ·rw[hs,e0h]
    rw[List.set_set]at k2
    exact k2
   ·rw[hs,← hsl]
    have h4:List.map SA.an t'.ans=g.ans++([a]:List SPl.A):=by rw[h4];exact congrArg (·++[a]) hT.ans
    rw[hk]at k4
    have e5:(⟨g.k+1,none,List.map SA.an t'.ans⟩:GT SPl)=⟨g.k+1,none,g.ans++([a]:List SPl.A)⟩:=congrArg (fun l:List SPl.A=>(⟨g.k+1,none,l⟩:GT SPl)) h4
    exact(congrArg (fun x=>c0n s'.ws.length ops t2 (r6 SPl (ops.drop (g.k+1)) s' x).2) e5).mp k4
theorem R8S.turn(h:R8S w b0 B k ops g ts)(ht:ts[i]? =some t)(hS:D2 b0 w w')(hT:z0R w' b0 B ts i t.op (List.length (R1.ws g.q)) (ops i) (H8 SPl (ops i) g.q (g.th i))):∃ts',R8S w' b0 B k ops (g.put i (H8 SPl (ops i) g.q (g.th i))) ts':=by
 obtain⟨t',h1,h2,h3⟩:=hT
 have hl:List.length (R1.ws (H8 SPl (ops i) g.q (g.th i)).1)=List.length (R1.ws g.q):=by
  unfold H8
  split
  ·rfl
  ·next c hc=>
   obtain⟨s',r,e⟩:∃s' r,SPl.stp g.q c=(s',r):=⟨_,_,rfl⟩
   have hsl:List.length (R1.ws (SPl.stp g.q c).1)=List.length (R1.ws g.q):=c09 g.q c
   rw[e]at hsl ⊢
   cases r with
   | inl c'=>exact hsl
   | inr a=>exact(congrArg (fun q:R1=>q.ws.length) (e0h _ s' _)).trans hsl
 refine⟨ts.set i t',h1,fun j u hj=>?_,by rw[List.length_set];exact h.n,fun j=>?_⟩
 rotate_left
 ·by_cases e:j=i
  ·subst e
   simp only[GS.put,if_true]
   obtain⟨hT,_⟩:=h.T j t ht
   unfold H8
   split
   ·exact h.L j
   ·next c hc=>
    obtain⟨s',r,e⟩:∃s' r,SPl.stp g.q c=(s',r):=⟨_,_,rfl⟩
    have h2:=hT.call
    rw[hc]at h2
    obtain⟨o,_,hr⟩:=h2
    have hol:=hr.ol
    have h16:=h.A.wf.n2
    rw[e]
    cases r with
    | inl c'=>exact h.L j
    | inr a=>
      simp only
      refine g0P _ _ _ fun b hb=>?_
      rcases List.mem_append.1 hb with hb|hb
      ·exact h.L j b hb
      ·rw[List.mem_singleton.1 hb]
       exact t06 (s:=g.q) (by omega) e
  ·simp only[GS.put,if_neg e]
   exact h.L j
 show c0n (List.length (R1.ws (H8 SPl (ops i) g.q (g.th i)).1)) _ _ _∧_
 rw[hl]
 rcases g9 hj with⟨rfl,rfl⟩|⟨hne,hj⟩
 ·refine⟨?_,by rw[h2];exact(h.T j t ht).2.stay hS⟩
  simp only[GS.put,if_true]
  exact h3
 ·obtain⟨k1,k2⟩:=h.T j u hj
  refine⟨?_,k2.stay hS⟩
  simp only[GS.put,if_neg hne]
  exact k1
theorem i0M{n M:Nat}{order:List Nat}(hi:i<n)(hl:g.live i=true)(hM:order.length≠M):V7 ops n M (g,order) (i:Int)=(g.put i (H8 SPl (ops i) g.q (g.th i)),order++[i]):=by
 unfold V7
 rw[if_pos ⟨by omega,by omega,by simpa using hl,hM⟩]
 simp
theorem e0K{n M:Nat}{x:GS SPl×List Nat}{j:Int}(h:¬(0≤j∧j<n∧x.1.live j.toNat=true)):V7 ops n M x j=x:=by
 unfold V7
 rw[if_neg fun h2=>h ⟨h2.1,h2.2.1,h2.2.2.1⟩]
theorem a0L{m:Pl}{ops:Nat→List P3}{n M:Nat}:∀(l:List Int) (s:GS m×List Nat),s.2.length=M→U4 ops n M l s=s
 | [],s,_=>rfl
 | i::l,s,h=>by
   have e:V7 ops n M s i=s:=by unfold V7;rw[if_neg fun h2=>h2.2.2.2 h]
   simp only[U4,e]
   exact a0L l s h
end
end
noncomputable section
variable{F:Fz}{w:World}
def i2:Code:=Try.f51.body.getD .skip
def q0w:=pC [] i2
def r8pr0:=pC [zt] i2
def l08:=pC [zf] i2
def r8pr1:=pC [zf,zt] i2
def l09:=pC [zf] l08
def r8ps3:=pC [zf,zf,zt] i2
def m0a:=pC [zf] l09
def r8ps5:=pC [zf,zf,zf,zt] i2
def m0b:=pC [zf] m0a
def r8ps7:=pC [zf,zf,zf,zf,zt] i2
def m0c:=pC [zf] m0b
def r8ps9:=pC [zt] m0c
def r8pr8:=pC [zf,zf,zf,zf,zf,zt,zt] i2
def q0i:=pC [zf] r8ps9
def k0D:=pC [zt] q0i
def h0l:=pC [zt] k0D
def h0m:=pC [zt] h0l
def r8pr9:=pC [zf,zf,zf,zf,zf,zt,zf,zt,zt,zt,zt] i2
def q0u:=pC [zf] h0m
def h0n:=pC [zf] h0l
def q0j:=pC [zt] h0n
def h0o:=pC [zt] q0j
def r8pr11:=pC [zf,zf,zf,zf,zf,zt,zf,zt,zt,zf,zt,zt,zt] i2
def h0p:=pC [zf] h0o
def r8ps16:=pC [zf,zf,zf,zf,zf,zt,zf,zt,zt,zf,zt,zt,zf,zt] i2
def h0q:=pC [zf] h0p
def r8pr14:=pC [zf,zf,zf,zf,zf,zt,zf,zt,zt,zf,zt,zt,zf,zf,zt] i2
def r8pr15:=pC [zf,zf,zf,zf,zf,zt,zf,zt,zt,zf,zt,zt,zf,zf,zf] i2
def r8pr10:=pC [zf,zf,zf,zf,zf,zt,zf,zt,zt,zf,zf] i2
def h0r:=pC [zf] m0c
def r8pr16:=pC [zf,zf,zf,zf,zf,zf,zt] i2
def h0s:=pC [zf] h0r
def r8ps20:=pC [zt] h0s
def r8pr17:=pC [zf,zf,zf,zf,zf,zf,zf,zt,zt] i2
def q0k:=pC [zf] r8ps20
def k0E:=pC [zt] q0k
def h0t:=pC [zt] k0E
def h0u:=pC [zt] h0t
def r8pr18:=pC [zf,zf,zf,zf,zf,zf,zf,zt,zf,zt,zt,zt,zt] i2
def q0v:=pC [zf] h0u
def h0v:=pC [zf] h0t
def q0l:=pC [zt] h0v
def h0w:=pC [zt] q0l
def r8pr20:=pC [zf,zf,zf,zf,zf,zf,zf,zt,zf,zt,zt,zf,zt,zt,zt] i2
def h0x:=pC [zf] h0w
def r8pr21:=pC [zf,zf,zf,zf,zf,zf,zf,zt,zf,zt,zt,zf,zt,zt,zf,zt] i2
def k0C:=pC [zf] h0x
def h0y:=pC [zt] k0C
def r8pr22:=pC [zf,zf,zf,zf,zf,zf,zf,zt,zf,zt,zt,zf,zt,zt,zf,zf,zt,zt] i2
def h0z:=pC [zf] h0y
def r8pr23:=pC [zf,zf,zf,zf,zf,zf,zf,zt,zf,zt,zt,zf,zt,zt,zf,zf,zt,zf,zt] i2
def r8pr24:=pC [zf,zf,zf,zf,zf,zf,zf,zt,zf,zt,zt,zf,zt,zt,zf,zf,zt,zf,zf] i2
def r8pr19:=pC [zf,zf,zf,zf,zf,zf,zf,zt,zf,zt,zt,zf,zf] i2
def h0A:=pC [zf] h0s
def r8pb4:=pC [zt] h0A
def k0F:=pC [zt] r8pb4
def h0B:=pC [zt] k0F
def h0C:=pC [zt] h0B
def r8pr25:=pC [zf,zf,zf,zf,zf,zf,zf,zf,zt,zt,zt,zt,zt] i2
def l05:=pC [zf] h0C
def r8pb5:=pC [zf] h0B
def h0D:=pC [zt] r8pb5
def r8pr26:=pC [zf,zf,zf,zf,zf,zf,zf,zf,zt,zt,zt,zf,zt,zt] i2
def q0m:=pC [zf] h0D
def k0G:=pC [zt] q0m
def h0E:=pC [zt] k0G
def h0F:=pC [zt] h0E
def r8pr27:=pC [zf,zf,zf,zf,zf,zf,zf,zf,zt,zt,zt,zf,zt,zf,zt,zt,zt,zt] i2
def l06:=pC [zf] h0F
def h0G:=pC [zf] h0E
def q0n:=pC [zt] h0G
def h0H:=pC [zt] q0n
def r8pr29:=pC [zf,zf,zf,zf,zf,zf,zf,zf,zt,zt,zt,zf,zt,zf,zt,zt,zf,zt,zt,zt] i2
def h0k:=pC [zf] h0H
def h0I:=pC [zt] h0k
def r8pr30:=pC [zf,zf,zf,zf,zf,zf,zf,zf,zt,zt,zt,zf,zt,zf,zt,zt,zf,zt,zt,zf,zt,zt] i2
def h0J:=pC [zf] h0I
def r8pr31:=pC [zf,zf,zf,zf,zf,zf,zf,zf,zt,zt,zt,zf,zt,zf,zt,zt,zf,zt,zt,zf,zt,zf,zt] i2
def r8pr32:=pC [zf,zf,zf,zf,zf,zf,zf,zf,zt,zt,zt,zf,zt,zf,zt,zt,zf,zt,zt,zf,zt,zf,zf] i2
def r8pr28:=pC [zf,zf,zf,zf,zf,zf,zf,zf,zt,zt,zt,zf,zt,zf,zt,zt,zf,zf] i2
def r8ps41:=pC [zf] h0A
def r8pr33:=pC [zf,zf,zf,zf,zf,zf,zf,zf,zf,zt] i2
def h0K:=pC [zf] r8ps41
def h0L:=pC [zt] h0K
def r8pr34:=pC [zf,zf,zf,zf,zf,zf,zf,zf,zf,zf,zt,zt] i2
def q0o:=pC [zf] h0L
def k0H:=pC [zt] q0o
def h0M:=pC [zt] k0H
def h0N:=pC [zt] h0M
def r8pr35:=pC [zf,zf,zf,zf,zf,zf,zf,zf,zf,zf,zt,zf,zt,zt,zt,zt] i2
def l07:=pC [zf] h0N
def h0O:=pC [zf] h0M
def q0p:=pC [zt] h0O
def r8pr37:=pC [zf,zf,zf,zf,zf,zf,zf,zf,zf,zf,zt,zf,zt,zt,zf,zt,zt] i2
def r8pr36:=pC [zf,zf,zf,zf,zf,zf,zf,zf,zf,zf,zt,zf,zt,zt,zf,zf] i2
def r8ps48:=pC [zf,zf,zf,zf,zf,zf,zf,zf,zf,zf,zf] i2
theorem y0t:q0w= .seq r8pr0 l08:=by kernel_rfl
theorem y0u:l08= .seq r8pr1 l09:=by kernel_rfl
theorem y0w:l09= .seq r8ps3 m0a:=by kernel_rfl
theorem y0x:m0a= .seq r8ps5 m0b:=by kernel_rfl
theorem y0y:m0b= .seq r8ps7 m0c:=by kernel_rfl
theorem y0z:m0c= .seq r8ps9 h0r:=by kernel_rfl
theorem y0A:r8ps9= .seq r8pr8 q0i:=by kernel_rfl
theorem y0j:q0i= .block 0 k0D:=by kernel_rfl
theorem s0V:k0D= .loop h0l:=by kernel_rfl
theorem s00:h0l= .seq h0m h0n:=by kernel_rfl
theorem s01:h0m= .seq r8pr9 q0u:=by kernel_rfl
theorem s0S:q0u= .cond (.tmp 28) .skip (.exit 0):=by kernel_rfl
theorem s02:h0n= .seq q0j r8pr10:=by kernel_rfl
theorem y0k:q0j= .block 1 h0o:=by kernel_rfl
theorem s03:h0o= .seq r8pr11 h0p:=by kernel_rfl
theorem s04:h0p= .seq r8ps16 h0q:=by kernel_rfl
theorem s05:h0q= .seq r8pr14 r8pr15:=by kernel_rfl
theorem s06:h0r= .seq r8pr16 h0s:=by kernel_rfl
theorem s07:h0s= .seq r8ps20 h0A:=by kernel_rfl
theorem s08:r8ps20= .seq r8pr17 q0k:=by kernel_rfl
theorem y0l:q0k= .block 2 k0E:=by kernel_rfl
theorem s0W:k0E= .loop h0t:=by kernel_rfl
theorem s09:h0t= .seq h0u h0v:=by kernel_rfl
theorem t0a:h0u= .seq r8pr18 q0v:=by kernel_rfl
theorem s0T:q0v= .cond (.tmp 64) .skip (.exit 2):=by kernel_rfl
theorem t0b:h0v= .seq q0l r8pr19:=by kernel_rfl
theorem y0m:q0l= .block 3 h0w:=by kernel_rfl
theorem t0c:h0w= .seq r8pr20 h0x:=by kernel_rfl
theorem t0d:h0x= .seq r8pr21 k0C:=by kernel_rfl
theorem s0U:k0C= .cond (.tmp 88) h0y .skip:=by kernel_rfl
theorem t0e:h0y= .seq r8pr22 h0z:=by kernel_rfl
theorem t0f:h0z= .seq r8pr23 r8pr24:=by kernel_rfl
theorem t0g:h0A= .seq r8pb4 r8ps41:=by kernel_rfl
theorem y0n:r8pb4= .block 4 k0F:=by kernel_rfl
theorem s0X:k0F= .loop h0B:=by kernel_rfl
theorem t0h:h0B= .seq h0C r8pb5:=by kernel_rfl
theorem t0i:h0C= .seq r8pr25 l05:=by kernel_rfl
theorem q0q:l05= .cond (.tmp 106) .skip (.exit 4):=by kernel_rfl
theorem y0o:r8pb5= .block 5 h0D:=by kernel_rfl
theorem t0j:h0D= .seq r8pr26 q0m:=by kernel_rfl
theorem y0p:q0m= .block 6 k0G:=by kernel_rfl
theorem s0Y:k0G= .loop h0E:=by kernel_rfl
theorem t0k:h0E= .seq h0F h0G:=by kernel_rfl
theorem t0l:h0F= .seq r8pr27 l06:=by kernel_rfl
theorem q0r:l06= .cond (.tmp 115) .skip (.exit 6):=by kernel_rfl
theorem t0m:h0G= .seq q0n r8pr28:=by kernel_rfl
theorem y0q:q0n= .block 7 h0H:=by kernel_rfl
theorem t0n:h0H= .seq r8pr29 h0k:=by kernel_rfl
theorem q0s:h0k= .cond (.tmp 126) h0I .skip:=by kernel_rfl
theorem t0o:h0I= .seq r8pr30 h0J:=by kernel_rfl
theorem t0p:h0J= .seq r8pr31 r8pr32:=by kernel_rfl
theorem t0q:r8ps41= .seq r8pr33 h0K:=by kernel_rfl
theorem t0r:h0K= .seq h0L r8ps48:=by kernel_rfl
theorem t0s:h0L= .seq r8pr34 q0o:=by kernel_rfl
theorem y0r:q0o= .block 8 k0H:=by kernel_rfl
theorem s0Z:k0H= .loop h0M:=by kernel_rfl
theorem t0t:h0M= .seq h0N h0O:=by kernel_rfl
theorem t0u:h0N= .seq r8pr35 l07:=by kernel_rfl
theorem q0t:l07= .cond (.tmp 145) .skip (.exit 8):=by kernel_rfl
theorem t0v:h0O= .seq q0p r8pr36:=by kernel_rfl
theorem y0s:q0p= .block 9 r8pr37:=by kernel_rfl
def i5(s:Nat→Value):Array Value:= #[s 0,s 1,s 2,s 3,s 4,s 5,s 6,s 7,s 8,s 9,s 10,s 11,s 12,s 13,s 14,s 15,s 16,s 17,s 18,s 19,s 20,s 21,s 22,s 23,s 24,s 25,s 26,s 27,s 28,s 29,s 30,s 31,s 32,s 33,s 34,s 35,s 36,s 37,s 38,s 39,s 40,s 41,s 42,s 43,s 44,s 45,s 46,s 47,s 48,s 49,s 50,s 51,s 52,s 53,s 54,s 55,s 56,s 57,s 58,s 59,s 60,s 61,s 62,s 63,s 64,s 65,s 66,s 67,s 68,s 69,s 70,s 71,s 72,s 73,s 74,s 75,s 76,s 77,s 78,s 79,s 80,s 81,s 82,s 83,s 84,s 85,s 86,s 87,s 88,s 89,s 90,s 91,s 92,s 93,s 94,s 95,s 96,s 97,s 98,s 99,s 100,s 101,s 102,s 103,s 104,s 105,s 106,s 107,s 108,s 109,s 110,s 111,s 112,s 113,s 114,s 115,s 116,s 117,s 118,s 119,s 120,s 121,s 122,s 123,s 124,s 125,s 126,s 127,s 128,s 129,s 130,s 131,s 132,s 133,s 134,s 135,s 136,s 137,s 138,s 139,s 140,s 141,s 142,s 143,s 144,s 145,s 146,s 147,s 148,s 149,s 150,s 151,s 152,s 153,s 154,s 155,s 156,s 157,s 158,s 159,s 160,s 161]
end
section
variable{w w' u u' W:World}{b0:Nat}{B:R8B}{s:R1}{ts:List T3}
theorem b0O.low{v:Value}{ops:List P3}(h:b0O w b0 v ops)(hs:∀r,r<b0→w'.heap[r]? =w.heap[r]?):b0O w' b0 v ops:=
 ⟨h.sl,fun k x hx=>by
  obtain⟨ob,oo,oc,h⟩:=h.c k x hx
  have e:∀j,w'.cell? ⟨ob,j,none⟩=w.cell? ⟨ob,j,none⟩:=fun j=>by simp only[World.cell?,hs ob h.l]
  exact⟨ob,oo,oc,h.sl,h.lt,h.l,(e _).trans h.f0,(e _).trans h.f1,(e _).trans h.f2,(e _).trans h.f3⟩⟩
theorem R2.off3(h:R2 w b0 B s ts)(hs:∀r,r<w.heap.size→d0R w r→w'.heap[r]? =w.heap[r]?):R2 w' b0 B s ts:=
 ⟨h.wf,(hs _ h.low_m h.nt_m).trans h.o,
  K0 h.wds fun b hb _=>by
   obtain⟨c,hc⟩:=X1 h.wds hb
   exact hs b (Q3 hc) fun c2 y z q e=>by rcases q with rfl|rfl<;>(rw[e]at hc;cases hc),
  K0 h.row fun b hb _=>by
   obtain⟨c,hc⟩:=X1 h.row hb
   exact hs b (Q3 hc) fun c2 y z q e=>by rcases q with rfl|rfl<;>(rw[e]at hc;cases hc),
  fun t ht=>(h.thr t ht).same fun r hr=>hs r ((h.thr t ht).low hr) fun c y z q e=>h.no3 ht hr q e,h.tt,h.wn,h.b1,h.b2,h.b3,h.b4⟩
structure u9(W:World)(b0 mb k:Nat)(ops:Nat→List P3)(g:GS SPl)(order:List Nat)(ov:Value)(u:World):Prop where
 ex:∃B ts,B.mb=mb∧R8S u b0 B k ops g ts
 st:D2 b0 W u
 ord:u.ownsRow 0 3 1 ov order.length (order.map fun i:Nat=>vI i)
 ob:∀r,ov.ownBlock=some r→W.heap.size≤r
 bw:b0≤W.heap.size
section
variable{i k n mb:Nat}{t:T3}{ops:Nat→List P3}{g:GS SPl}{c:SCl}{o:P3}{order:List Nat}{ov:Value}
theorem u9.heap(h:u9 W b0 mb k ops g order ov u)(e:u'.heap=u.heap):u9 W b0 mb k ops g order ov u':=by
 obtain⟨⟨B,ts,h1,h2⟩,h3,h4,h5,h6⟩:=h
 exact⟨⟨B,ts,h1,h2.heap e⟩,h3.heap e,T5 h4 fun _ _ _ _=>by rw[e],h5,h6⟩
theorem i0U(h:u.ownsRow 0 3 1 ov order.length (order.map fun i:Nat=>Value.int .i64 i))(hs:D2 b0 u u'):u'.ownsRow 0 3 1 ov order.length (order.map fun i:Nat=>Value.int .i64 i):=
 T5 h fun b c e _=>hs.t b c 3 _ (.inl rfl) e
structure j0N(W:World)(b0 mb k:Nat)(ops:Nat→List P3)(g:GS SPl)(order:List Nat)(ov:Value)(i:Nat)(u:World):Prop where
 ex:∃v B ts t c o,B.mb=mb∧R8S v b0 B k ops g ts∧ts[i]? =some t∧(g.th i).call=some c∧(ops i)[(g.th i).k]? =some o∧e0c u b0 B ts i t (List.length (R1.ws g.q)) o (R1.step g.q c)∧D2 b0 v u
 st:D2 b0 W u
 ord:u.ownsRow 0 3 1 ov order.length (order.map fun i:Nat=>vI i)
 ob:∀r,ov.ownBlock=some r→W.heap.size≤r
 bw:b0≤W.heap.size
theorem j0N.heap(h:j0N W b0 mb k ops g order ov i u)(e:u'.heap=u.heap):j0N W b0 mb k ops g order ov i u':=by
 obtain⟨⟨v,B,ts,t,c,o,h1,h2,h3,h4,h5,h6,h7⟩,h8,h9,h10,h11⟩:=h
 refine⟨⟨v,B,ts,t,c,o,h1,h2,h3,h4,h5,?_,h7.heap e⟩,h8.heap e,T5 h9 fun _ _ _ _=>by rw[e],h10,h11⟩
 unfold e0c at h6 ⊢
 split at h6
 ·obtain⟨t',k1,k2⟩:=h6;exact⟨t',k1.heap e,k2⟩
 ·obtain⟨t',k1,k2⟩:=h6;exact⟨t',k1.heap e,k2⟩
theorem f0q(h:u9 W b0 mb k ops g order ov u)(hi:i<k)(hl:g.live i=true)(hol:∀j,j<k→(ops j).length≤65536):
 Calls Try.prog 84 #[vP mb 0,vI i] u fun e u'=>e= .returned (.tuple #[])∧j0N W b0 mb k ops g order ov i u':=by
 obtain⟨⟨B,ts,rfl,hS⟩,hst,hord,hob,hbw⟩:=h
 obtain⟨t,ht⟩:∃t,ts[i]? =some t:=⟨_,List.getElem?_eq_getElem (by rw[hS.n];exact hi)⟩
 obtain⟨hT,hO⟩:=hS.T i t ht
 obtain⟨c,hc⟩:∃c,(g.th i).call=some c:=Option.isSome_iff_exists.1 hl
 have h1:=hT.call
 rw[hc]at h1
 obtain⟨o,ho,hr⟩:=h1
 have hlt:=(List.getElem?_eq_some_iff.1 ho).1
 have h65:=hol i hi
 have hal:=hT.al
 have hans0:=congrArg List.length hT.ans
 rw[List.length_map]at hans0
 have hans:t.ans.length=(g.th i).ans.length:=hans0
 have hk:=hT.k
 refine(n08 hS.A ht hO (by rw[hk];exact ho) hr (by omega) (by omega)).mono fun e w' ⟨k1,k2,k3⟩=>⟨k1,⟨u,B,ts,t,c,o,rfl,hS,ht,hc,ho,k2,k3⟩,hst.trans k3,i0U hord k3,hob,hbw⟩
theorem c0K(h:j0N W b0 mb k ops g order ov i u)(hi:i<k)(hol:∀j,j<k→(ops j).length≤65536):
 Calls Try.prog 83 #[vP mb 0,vI i] u fun e u'=>e= .returned (.tuple #[])∧u9 W b0 mb k ops (g.put i (H8 SPl (ops i) g.q (g.th i))) order ov u':=by
 obtain⟨⟨v,B,ts,t,c,o,rfl,hS,ht,hc,ho,h1,h2⟩,hst,hord,hob,hbw⟩:=h
 have hilt:=(List.getElem?_eq_some_iff.1 ht).1
 obtain⟨hT,hO⟩:=hS.T i t ht
 refine(k0R h1 hilt hT hc ho (hO.stay h2) (hol i hi)).mono fun e w' ⟨k1,k2,k3⟩=>⟨k1,?_,hst.trans k3,i0U hord k3,hob,hbw⟩
 obtain⟨ts',hts⟩:=hS.turn ht (h2.trans k3) k2
 exact⟨B,ts',rfl,hts⟩
def t8n(op:Value)(i:Nat):T3:=⟨op,i,0,0,0,0,.slice none 0 0,none,.slice none 0 0,[]⟩
theorem m0Q(op:Value)(i r:Nat):¬R8R (t8n op i) r:=by
 rintro(h|⟨h,_⟩|⟨a,ha,_⟩)
 ·simp[t8n,Value.ownBlock]at h
 ·exact h rfl
 ·simp[t8n]at ha
theorem R2.born{u3:World}{op v':Value}(h:R2 u b0 B s ts)(hown:u3.ownsRow 0 149 8 v' (ts.length+1) (r8C ts++(t8n op i).cells))(hold:∀r,r<u.heap.size→some r≠B.tv.ownBlock→u3.heap[r]? =u.heap[r]?)(hsz:u.heap.size≤u3.heap.size)
 (hfr:v'.ownBlock=B.tv.ownBlock∨∃g,v'.ownBlock=some g∧u.heap.size≤g) (hb:b0≤u.heap.size) (hu:u'.heap=(u3.setCell ⟨B.mb,2,none⟩ v').heap):R2 u' b0 {B with tv:=v'} s (ts++[t8n op i]):=by
 have hmb:=h.low_m
 have hmt:some B.mb≠B.tv.ownBlock:=fun e=>by obtain⟨c,hc⟩:=X1 h.row e.symm;rw[h.o]at hc;cases hc
 have e3:u3.heap[B.mb]? =some (.cells #[vI s.ver,vL B.wb 0 s.ws.length B.wc,B.tv] 147 (0,0)):=(hold _ hmb hmt).trans h.o
 have hou:∀r,r≠B.mb→u'.heap[r]? =u3.heap[r]?:=fun r hr=>by rw[hu];exact I0 _ _ _ hr
 have hold2:∀r,r<u.heap.size→r≠B.mb→some r≠B.tv.ownBlock→u'.heap[r]? =u.heap[r]?:=fun r h1 h2 h3=>(hou r h2).trans (hold r h1 h3)
 have hvm:v'.ownBlock≠some B.mb:=by
  rcases hfr with e|⟨g,e,hg⟩
  ·rw[e];exact fun h=>hmt h.symm
  ·rw[e];intro h;cases h;omega
 refine⟨h.wf,?_,K0 h.wds fun b hb _=>?_,?_,fun t ht=>?_,fun a b x y ha hb hne r hr1 hr2=>?_,fun t ht hr=>?_,h.b1,h.b2,fun r hr=>?_,fun t ht r hr=>?_⟩
 ·have h2:(u3.setCell ⟨B.mb,2,none⟩ v').heap[B.mb]? =some (.cells ((#[vI s.ver,vL B.wb 0 s.ws.length B.wc,B.tv]:Array Value).setIfInBounds 2 v') 147 (0,0)):=v5 e3
  rw[hu]
  exact h2
 ·obtain⟨c,hc⟩:=X1 h.wds hb
  exact hold2 b (Q3 hc) (i4 hc h.o (by decide)) fun e=>by obtain⟨d,hd⟩:=X1 h.row e.symm;rw[hc]at hd;cases hd
 ·have hl:(ts++[t8n op i]).length=ts.length+1:=by simp
  have hc:r8C (ts++[t8n op i])=r8C ts++(t8n op i).cells:=by simp[r8C]
  rw[hl,hc]
  exact K0 hown fun b hb _=>hou b fun e=>hvm (e ▸ hb)
 ·rcases List.mem_append.1 ht with ht|ht
  ·exact(h.thr t ht).same fun r hr=>hold2 r ((h.thr t ht).low hr) ((h.thr t ht).ne hr h.o (by decide) (by decide)) fun e=>by
    obtain⟨d,hd⟩:=X1 h.row e.symm
    exact(h.thr t ht).ne hr hd (by decide) (by decide) rfl
  ·obtain rfl:t=t8n op i:=by simpa using ht
   exact⟨⟨rfl,.inl ⟨rfl,rfl⟩⟩,fun a ha=>by simp[t8n]at ha,fun l hl=>by simp[t8n]at hl,fun hn=>absurd rfl hn⟩
 ·rcases Nat.lt_or_ge a ts.length with h1|h1
  ·rcases Nat.lt_or_ge b ts.length with h2|h2
   ·rw[List.getElem?_append_left h1]at ha
    rw[List.getElem?_append_left h2]at hb
    exact h.tt a b x y ha hb hne r hr1 hr2
   ·have hy:y∈[t8n op i]:=by rw[List.getElem?_append_right h2]at hb;exact List.mem_of_getElem? hb
    obtain rfl:y=t8n op i:=by simpa using hy
    exact m0Q _ _ _ hr2
  ·have hx:x∈[t8n op i]:=by rw[List.getElem?_append_right h1]at ha;exact List.mem_of_getElem? ha
   obtain rfl:x=t8n op i:=by simpa using hx
   exact m0Q _ _ _ hr1
 ·rcases List.mem_append.1 ht with ht|ht
  ·exact h.wn t ht hr
  ·obtain rfl:t=t8n op i:=by simpa using ht
   exact m0Q _ _ _ hr
 ·rcases hfr with e|⟨g,e,hg⟩
  ·exact h.b3 r (e ▸ hr)
  ·have hr:v'.ownBlock=some r:=hr
   rw[e]at hr;cases hr;omega
 ·rcases List.mem_append.1 ht with ht|ht
  ·exact h.b4 t ht r hr
  ·obtain rfl:t=t8n op i:=by simpa using ht
   exact absurd hr (m0Q _ _ _)
structure z0M(W:World)(b0 mb i:Nat)(ops:Nat→List P3)(g:GS SPl)(u:World):Prop where
 ex:∃B ts op,B.mb=mb∧R2 u b0 B g.q (ts++[t8n op i])∧(∀(j:Nat) t,ts[j]? =some t→c0n (List.length (R1.ws g.q)) (ops j) t (g.th j)∧b0O u b0 t.op (ops j))∧ts.length=i∧b0O u b0 op (ops i)∧∀(j:Nat),∀a∈GT.ans (g.th j),(a:SAn).2.2.length≤17
 st:D2 b0 W u
 bw:b0≤W.heap.size
theorem h06(h:z0M W b0 mb i ops g u)(hol:(ops i).length≤65536)(h0:g.th i=⟨0,none,[]⟩):
 Calls Try.prog 83 #[vP mb 0,vI i] u fun e u'=>e= .returned (.tuple #[])∧u9 W b0 mb (i+1) ops (g.put i (r6 SPl (ops i) g.q (g.th i))) [] (.slice none 0 0) u':=by
 obtain⟨⟨B,ts,op,rfl,hA,hT,hn,hO,hL⟩,hst,hbw⟩:=h
 have ht:(ts++[t8n op i])[i]? =some (t8n op i):=by rw[List.getElem?_append_right (by omega),hn];simp
 refine(m0t (ops:=ops i) hA ht hO hol (Nat.zero_le _) rfl rfl).mono fun e w' ⟨k1,⟨t',k2,k3,k4⟩,k5⟩=>⟨k1,⟨B,(ts++[t8n op i]).set i t',rfl,?_,fun j t hj=>?_,by simp[hn],fun j=>?_⟩,hst.trans k5,⟨rfl,.inl ⟨rfl,rfl⟩⟩,fun r hr=>(by cases hr),hbw⟩
 ·have eq:((r6 SPl (ops i) g.q (g.th i)).1:R1)=g.q:=e0h _ _ _
  exact Eq.mpr (congrArg (fun q:R1=>R2 w' b0 B q ((ts++[t8n op i]).set i t')) eq) k2
 ·have eq:((r6 SPl (ops i) g.q (g.th i)).1:R1)=g.q:=e0h _ _ _
  refine Eq.mpr (congrArg (fun q:R1=>c0n q.ws.length (ops j) t ((g.put i (r6 SPl (ops i) g.q (g.th i))).th j)∧b0O w' b0 t.op (ops j)) eq) ?_
  rcases g9 hj with⟨rfl,rfl⟩|⟨hne,hj⟩
  ·refine⟨?_,by rw[k3];exact hO.stay k5⟩
   simp only[GS.put,if_true]
   rw[h0]
   exact k4
  ·have hlt:=(List.getElem?_eq_some_iff.1 hj).1
   rw[List.length_append,List.length_singleton]at hlt
   rw[List.getElem?_append_left (by omega)]at hj
   obtain⟨k6,k7⟩:=hT j t hj
   refine⟨?_,k7.stay k5⟩
   simp only[GS.put,if_neg hne]
   exact k6
 ·by_cases e:j=i
  ·subst e
   simp only[GS.put,if_true]
   exact g0P _ _ _ (hL j)
  ·simp only[GS.put,if_neg e]
   exact hL j
theorem u9.ord_more{v':Value}{u3:World}(h:u9 W b0 mb k ops g order ov u)(hown:u3.ownsRow 0 3 1 v' (order.length+1) ((order.map fun i:Nat=>Value.int .i64 i)++[vI i]))(hold:∀r,r<u.heap.size→some r≠ov.ownBlock→u3.heap[r]? =u.heap[r]?)(hsz:u.heap.size≤u3.heap.size)
 (hfr:v'.ownBlock=ov.ownBlock∨∃g,v'.ownBlock=some g∧u.heap.size≤g) (hu:u'.heap=u3.heap):u9 W b0 mb k ops g (order++[i]) v' u':=by
 obtain⟨⟨B,ts,rfl,hS⟩,hst,hord,hob,hbw⟩:=h
 have hlow:∀r,r<W.heap.size→r<u.heap.size→u'.heap[r]? =u.heap[r]?:=fun r h1 h2=>by rw[hu];exact hold r h2 fun e=>by have:=hob r e.symm;omega
 have hb0:=hS.A.bs
 have hss:=hst.s
 refine⟨⟨B,ts,rfl,hS.A.off3 fun r h1 h2=>?_,fun j t hj=>⟨(hS.T j t hj).1,(hS.T j t hj).2.low fun r hr=>hlow r (by omega) (by omega)⟩,hS.n,hS.L⟩,⟨?_,fun r hr=>?_,fun r c y z q e=>?_⟩,?_,fun r hr=>?_,hbw⟩
 ·rw[hu]
  exact hold r h1 fun e=>by obtain⟨c,hc⟩:=X1 hord e.symm;exact h2 c 3 _ (.inl rfl) hc
 ·rw[hu];exact Nat.le_trans hst.s hsz
 ·exact(hlow r (by omega) (by omega)).trans (hst.o r hr)
 ·have hlt:=(Q3 e)
  exact(hlow r hlt (by omega)).trans (hst.t r c y z q e)
 ·rw[List.length_append,List.length_singleton,List.map_append]
  exact T5 hown fun b c e _=>by rw[hu]
 ·rcases hfr with e|⟨q,e,hq⟩
  ·exact hob r (e ▸ hr)
  ·rw[e]at hr;cases hr;omega
end
end
section
variable{w w':World}{x0 x1 x2 x3 x8 x9 x10 x11 x12 x13 x14 x15 x16 x17:Value}
theorem pm8{P:Program}{c:Code}{R R':Act→World→Prop}{a:Act}{w:World}(h:c.wp P (F7 R) a w)(hh:∀a u,R a u→R' a u):c.wp P (F7 R') a w:=wp_mono h fun e a u q=>by
 cases e with
 | normal=>exact hh _ _ q
 | _=>exact q.elim
theorem d9{a:Act}(h:a.defers=[]):a=⟨a.tmps,[]⟩:=by
 obtain⟨A,d⟩:=a
 simp only at h
 rw[h]
theorem D7{P:Program}{x y:Code}{R S:Act→World→Prop}{a:Act}{w:World}(h:x.wp P (F7 R) a w)(hy:∀A u,R ⟨A,[]⟩ u→y.wp P (F7 S) ⟨A,[]⟩ u)(hR:∀a u,R a u→a.defers=[]:=by intro a u h;exact h.1):(Code.seq x y).wp P (F7 S) a w:=
 B3 h fun a u q=>by
  have e:=hR _ _ q
  rw[d9 e]at q ⊢
  exact hy _ _ q
theorem o0y{P:Program}{c:Code}{id:Nat}{R:Act→World→Prop}{a:Act}{w:World}(h:c.wp P (F7 R) a w):(Code.block id c).wp P (F7 R) a w:=
 wp_block (wp_mono h fun e a w q=>by
  cases e with
  | normal=>exact q
  | _=>exact q.elim)
def BrS(s:Nat→Value):List (Nat×Value)→Prop
 | []=>True
 | (k,v)::l=>s k=v∧BrS s l
theorem o0A{A:Array Value}:∀(l:List (Nat×Value)),l0a A l→BrS (fun k=>A.getD k undef) l
 | [],_=>trivial
 | (_,_)::l,h=>⟨h.1,o0A l h.2⟩
theorem O3{A:Array Value}{l:List (Nat×Value)}(h:G0 162 A l):∃s,A=i5 s∧BrS s l:=by
 refine⟨fun k=>A.getD k undef,?_,o0A l h.2⟩
 obtain⟨s,hs,hk⟩:=Y4 A h.1
 have e:A=((List.range 162).map fun k=>A.getD k undef).toArray:=by
  apply Array.ext
  ·simp[h.1]
  ·intro i h1 h2
   simp[h1]
 exact e
theorem a9{P:Program}{hd y:Code}{ci id:Nat}{I J:Nat→Act→World→Prop}{E:Act→World→Prop}
 (hhd:∀g a w,I g a w→hd.wp P (F7 fun a' w'=>(a'.tmps.getD ci undef= .bool true∧J g a' w')∨(a'.tmps.getD ci undef= .bool false∧E a' w')) a w)
 (hy:∀g a w,J g a w→y.wp P (F7 fun a' w'=>∃g',g'<g∧I g' a' w') a w) {g:Nat} {a:Act} {w:World} (h:I g a w):
 (Code.block id (.loop (.seq (.seq hd (.cond (.tmp ci) .skip (.exit id))) y))).wp P (F7 E) a w:=by
 refine wp_block ?_
 refine wp_loop_ghost I g h fun g a w h=>?_
 refine wp_seq (wp_seq (wp_mono (hhd g a w h) fun e a' w' q=>?_))
 cases e with
 | normal=>
   rcases q with⟨hc,hj⟩|⟨hc,he⟩
   ·refine wp_cond (t:=true) hc ?_
    refine wp_skip ?_
    refine wp_mono (hy g a' w' hj) fun e a w q=>?_
    cases e with
    | normal=>exact q
    | _=>exact q.elim
   ·refine wp_cond (t:=false) hc ?_
    refine wp_exit ?_
    show Exit.inBlock id (F7 E) (.exit id) a' w'
    simp only[Exit.inBlock,if_true]
    exact he
 | _=>exact q.elim
def j0M(v:Value)(p:Prop):Prop:=∃b:Bool,v= .bool b∧(b=true↔p)
theorem D07(a:Option Addr)(n m:Nat)(i:Int):Try.prog.built 149 [(0,.slice a n m),(2,vI i)]=some #[.slice a n m,.slice none 0 0,vI i,vI 0,vI 0,vI 0,vI 0,.slice none 0 0]:=by kernel_rfl
@[go_sem] theorem C0A(w:World)(a:Option Addr)(n m:Nat)(i:Int):(Instr.build 149 #[(0,.slice a n m),(2,vI i)]).run Try.prog w= .ok (.agg #[.slice a n m,.slice none 0 0,vI i,vI 0,vI 0,vI 0,vI 0,.slice none 0 0]) w:=run_build w _ _ _ (D07 a n m i)
theorem D08(a b:Option Addr)(n m k l:Nat)(s:Bool):Try.prog.built 31 [(1,.slice a n m),(3,.bool s),(2,.slice b k l)]=some #[.slice none 0 0,.slice a n m,.slice b k l,.bool s]:=by kernel_rfl
@[go_sem] theorem C0B(w:World)(a b:Option Addr)(n m k l:Nat)(s:Bool):(Instr.build 31 #[(1,.slice a n m),(3,.bool s),(2,.slice b k l)]).run Try.prog w= .ok (.agg #[.slice none 0 0,.slice a n m,.slice b k l,.bool s]) w:=run_build w _ _ _ (D08 a b n m k l s)
theorem p0i:∃i z,Try.prog.info? 149=some i∧i.zero=some z∧i.size=8∧i.bytes=112∧z.cells.size=8:=g03 (by kernel_rfl)
theorem p0j:∃i z,Try.prog.info? 3=some i∧i.zero=some z∧i.size=1∧i.bytes=8∧z.cells.size=1:=g03 (by kernel_rfl)
theorem s0w:∃i z,Try.prog.info? 42=some i∧i.zero=some z∧i.size=1∧i.bytes=24∧z.cells.size=1:=g03 (by kernel_rfl)
theorem C0n {A:Array Value}(hA:G0 162 A [(0,x0),(1,x1),(2,x2),(3,x3)]):
 r8pr0.wp Try.prog (F7 fun a u=>a.defers=[]∧G0 162 a.tmps [(0,x0),(1,x1),(2,x2),(3,x3),(8,vP w.heap.size 0)]∧u.heap=(w.alloc (.cells #[.slice none 0 0,.slice none 0 0,.slice none 0 0,.bool false] 31)).heap) ⟨A,[]⟩ w:=by
 obtain⟨s,rfl,k0,k1,k2,k3,_⟩:=O3 hA
 simp only[r8pr0,i2,pC,Try.f51,Option.getD_some,i5,k0,k1,k2,k3]
 clear k0 k1 k2 k3
 go_wp2
 exact⟨rfl,⟨rfl,rfl,rfl,rfl,rfl,rfl,trivial⟩,rfl⟩
theorem C0o{ta:Option Addr}{tl tc:Nat}{A:Array Value}(hA:G0 162 A [(0,x0),(1,.slice ta tl tc),(2,x2),(3,x3),(8,x8)]):
 r8pr1.wp Try.prog (F7 fun a u=>a.defers=[]∧G0 162 a.tmps [(0,x0),(1,.slice ta tl tc),(2,x2),(3,x3),(8,x8),(9,vI tl)]∧u.heap=w.heap) ⟨A,[]⟩ w:=by
 obtain⟨s,rfl,k0,k1,k2,k3,k8,_⟩:=O3 hA
 simp only[r8pr1,i2,pC,Try.f51,Option.getD_some,i5,k0,k1,k2,k3,k8]
 clear k0 k1 k2 k3 k8
 go_wp2
 exact⟨rfl,⟨rfl,rfl,rfl,rfl,rfl,rfl,rfl,trivial⟩,rfl⟩
theorem C0p{tl n:Nat}(hn:min tl 64=n){A:Array Value}(hA:G0 162 A [(0,x0),(1,x1),(2,x2),(3,x3),(8,x8),(9,vI tl)]):
 r8ps3.wp Try.prog (F7 fun a u=>a.defers=[]∧G0 162 a.tmps [(0,x0),(1,x1),(2,x2),(3,x3),(8,x8),(9,vI n)]∧u.heap=w.heap) ⟨A,[]⟩ w:=by
 rcases Nat.lt_or_ge 64 tl with h|h
 ·obtain rfl:n=64:=by omega
  have q:(64:Int)<(tl:Int):=by omega
  obtain⟨s,rfl,k0,k1,k2,k3,k8,k9,_⟩:=O3 hA
  simp only[r8ps3,i2,pC,Try.f51,Option.getD_some,i5,k0,k1,k2,k3,k8,k9]
  clear k0 k1 k2 k3 k8 k9
  go_wp2
  all_goals exact⟨rfl,⟨rfl,rfl,rfl,rfl,rfl,rfl,rfl,trivial⟩,rfl⟩
 ·obtain rfl:n=tl:=by omega
  have q:¬(64:Int)<(n:Int):=by omega
  obtain⟨s,rfl,k0,k1,k2,k3,k8,k9,_⟩:=O3 hA
  simp only[r8ps3,i2,pC,Try.f51,Option.getD_some,i5,k0,k1,k2,k3,k8,k9]
  clear k0 k1 k2 k3 k8 k9
  go_wp2
  all_goals exact⟨rfl,⟨rfl,rfl,rfl,rfl,rfl,rfl,rfl,trivial⟩,rfl⟩
theorem C0q{mo:Int}{A:Array Value}(hA:G0 162 A [(0,x0),(1,x1),(2,x2),(3,vI mo),(8,x8),(9,x9)]):
 r8ps5.wp Try.prog (F7 fun a u=>a.defers=[]∧G0 162 a.tmps [(0,x0),(1,x1),(2,x2),(3,vI (max mo 0)),(8,x8),(9,x9)]∧u.heap=w.heap) ⟨A,[]⟩ w:=by
 rcases(by omega:mo<0∨0≤mo)with h|h
 ·have e:max mo 0=0:=by omega
  rw[e]
  obtain⟨s,rfl,k0,k1,k2,k3,k8,k9,_⟩:=O3 hA
  simp only[r8ps5,i2,pC,Try.f51,Option.getD_some,i5,k0,k1,k2,k3,k8,k9]
  clear k0 k1 k2 k3 k8 k9
  go_wp2
  all_goals exact⟨rfl,⟨rfl,rfl,rfl,rfl,rfl,rfl,rfl,trivial⟩,rfl⟩
 ·have e:max mo 0=mo:=by omega
  have q:¬mo<0:=by omega
  rw[e]
  clear e h
  obtain⟨s,rfl,k0,k1,k2,k3,k8,k9,_⟩:=O3 hA
  simp only[r8ps5,i2,pC,Try.f51,Option.getD_some,i5,k0,k1,k2,k3,k8,k9]
  clear k0 k1 k2 k3 k8 k9
  go_wp2
  all_goals exact⟨rfl,⟨rfl,rfl,rfl,rfl,rfl,rfl,rfl,trivial⟩,rfl⟩
theorem C0r{mo:Int}{M:Nat}(hM:min mo 1048576=(M:Int)){A:Array Value}(hA:G0 162 A [(0,x0),(1,x1),(2,x2),(3,vI mo),(8,x8),(9,x9)]):
 r8ps7.wp Try.prog (F7 fun a u=>a.defers=[]∧G0 162 a.tmps [(0,x0),(1,x1),(2,x2),(3,vI M),(8,x8),(9,x9)]∧u.heap=w.heap) ⟨A,[]⟩ w:=by
 rcases(by omega:1048576<mo∨mo≤1048576)with h|h
 ·have e:(M:Int)=1048576:=by omega
  rw[e]
  clear e hM
  obtain⟨s,rfl,k0,k1,k2,k3,k8,k9,_⟩:=O3 hA
  simp only[r8ps7,i2,pC,Try.f51,Option.getD_some,i5,k0,k1,k2,k3,k8,k9]
  clear k0 k1 k2 k3 k8 k9
  go_wp2
  all_goals exact⟨rfl,⟨rfl,rfl,rfl,rfl,rfl,rfl,rfl,trivial⟩,rfl⟩
 ·have e:(M:Int)=mo:=by omega
  have q:¬1048576<mo:=by omega
  rw[e]
  clear e hM h
  obtain⟨s,rfl,k0,k1,k2,k3,k8,k9,_⟩:=O3 hA
  simp only[r8ps7,i2,pC,Try.f51,Option.getD_some,i5,k0,k1,k2,k3,k8,k9]
  clear k0 k1 k2 k3 k8 k9
  go_wp2
  all_goals exact⟨rfl,⟨rfl,rfl,rfl,rfl,rfl,rfl,rfl,trivial⟩,rfl⟩
theorem C0s {A:Array Value}(hA:G0 162 A [(0,x0),(1,x1),(2,x2),(3,x3),(8,x8),(9,x9)]):
 r8pr8.wp Try.prog (F7 fun a u=>a.defers=[]∧G0 162 a.tmps [(0,x0),(1,x1),(2,x2),(3,x3),(8,x8),(9,x9),(10,vI 0)]∧u.heap=w.heap) ⟨A,[]⟩ w:=by
 obtain⟨s,rfl,k0,k1,k2,k3,k8,k9,_⟩:=O3 hA
 simp only[r8pr8,i2,pC,Try.f51,Option.getD_some,i5,k0,k1,k2,k3,k8,k9]
 clear k0 k1 k2 k3 k8 k9
 go_wp2
 exact⟨rfl,⟨rfl,rfl,rfl,rfl,rfl,rfl,rfl,rfl,trivial⟩,rfl⟩
theorem C0t{i n:Nat}{A:Array Value}(hA:G0 162 A [(0,x0),(1,x1),(2,x2),(3,x3),(8,x8),(9,vI n),(10,vI i)]):
 r8pr9.wp Try.prog (F7 fun a u=>a.defers=[]∧G0 162 a.tmps [(0,x0),(1,x1),(2,x2),(3,x3),(8,x8),(9,vI n),(10,vI i),(28,.bool (decide (i<n)))]∧u.heap=w.heap) ⟨A,[]⟩ w:=by
 obtain⟨s,rfl,k0,k1,k2,k3,k8,k9,k10,_⟩:=O3 hA
 simp only[r8pr9,i2,pC,Try.f51,Option.getD_some,i5,k0,k1,k2,k3,k8,k9,k10]
 clear k0 k1 k2 k3 k8 k9 k10
 go_wp2
 exact⟨rfl,⟨rfl,rfl,rfl,rfl,rfl,rfl,rfl,rfl,rfl,trivial⟩,rfl⟩
theorem y0B{i:Nat}(hi:i<1000){A:Array Value}(hA:G0 162 A [(0,x0),(1,x1),(2,x2),(3,x3),(8,x8),(9,x9),(10,vI i)]):
 r8pr10.wp Try.prog (F7 fun a u=>a.defers=[]∧G0 162 a.tmps [(0,x0),(1,x1),(2,x2),(3,x3),(8,x8),(9,x9),(10,vI ((i+1:Nat):Int))]∧u.heap=w.heap) ⟨A,[]⟩ w:=by
 have hwr:IntKind.i64.wrap ((i:Int)+1)=((i+1:Nat):Int):=IntWalk.i64_in _ (by omega)
 obtain⟨s,rfl,k0,k1,k2,k3,k8,k9,k10,_⟩:=O3 hA
 simp only[r8pr10,i2,pC,Try.f51,Option.getD_some,i5,k0,k1,k2,k3,k8,k9,k10]
 clear k0 k1 k2 k3 k8 k9 k10
 go_wp2
 exact⟨rfl,⟨rfl,rfl,rfl,rfl,rfl,rfl,rfl,rfl,trivial⟩,rfl⟩
theorem y0C{i tb o tl tc l c:Nat}{a0:Option Addr}(hi:i<tl)(h:w.cell? ⟨tb,o+i,none⟩=some (.slice a0 l c)){A:Array Value}(hA:G0 162 A [(0,x0),(1,vL tb o tl tc),(2,x2),(3,x3),(8,x8),(9,x9),(10,vI i)]):
 r8pr11.wp Try.prog (F7 fun a u=>a.defers=[]∧G0 162 a.tmps [(0,x0),(1,vL tb o tl tc),(2,x2),(3,x3),(8,x8),(9,x9),(10,vI i),(11,.slice a0 l c)]∧u.heap=w.heap) ⟨A,[]⟩ w:=by
 have hi2:(i:Int)<(tl:Int):=by omega
 clear hi
 obtain⟨s,rfl,k0,k1,k2,k3,k8,k9,k10,_⟩:=O3 hA
 simp only[r8pr11,i2,pC,Try.f51,Option.getD_some,i5,k0,k1,k2,k3,k8,k9,k10]
 clear k0 k1 k2 k3 k8 k9 k10
 go_wp2
 exact⟨rfl,⟨rfl,rfl,rfl,rfl,rfl,rfl,rfl,rfl,rfl,trivial⟩,rfl⟩
theorem y0D{l c:Nat}{a0:Option Addr}(hl:l≤c)(ha:65536<l→∃ob oo,a0=some ⟨ob,oo,none⟩){A:Array Value}(hA:G0 162 A [(0,x0),(1,x1),(2,x2),(3,x3),(8,x8),(9,x9),(10,x10),(11,.slice a0 l c)]):
 r8ps16.wp Try.prog (F7 fun a u=>a.defers=[]∧G0 162 a.tmps [(0,x0),(1,x1),(2,x2),(3,x3),(8,x8),(9,x9),(10,x10),(11,.slice a0 (min l 65536) c)]∧u.heap=w.heap) ⟨A,[]⟩ w:=by
 rcases Nat.lt_or_ge 65536 l with h|h
 ·have e:min l 65536=65536:=by omega
  have q:(65536:Int)<(l:Int):=by omega
  have q2:(65536:Int)≤(c:Int):=by omega
  obtain⟨ob,oo,rfl⟩:=ha h
  rw[e]
  clear e ha
  obtain⟨s,rfl,k0,k1,k2,k3,k8,k9,k10,k11,_⟩:=O3 hA
  simp only[r8ps16,i2,pC,Try.f51,Option.getD_some,i5,k0,k1,k2,k3,k8,k9,k10,k11]
  clear k0 k1 k2 k3 k8 k9 k10 k11
  go_wp2
  all_goals exact⟨rfl,⟨rfl,rfl,rfl,rfl,rfl,rfl,rfl,rfl,rfl,trivial⟩,rfl⟩
 ·have e:min l 65536=l:=by omega
  have q:¬(65536:Int)<(l:Int):=by omega
  rw[e]
  clear e ha
  obtain⟨s,rfl,k0,k1,k2,k3,k8,k9,k10,k11,_⟩:=O3 hA
  simp only[r8ps16,i2,pC,Try.f51,Option.getD_some,i5,k0,k1,k2,k3,k8,k9,k10,k11]
  clear k0 k1 k2 k3 k8 k9 k10 k11
  go_wp2
  all_goals exact⟨rfl,⟨rfl,rfl,rfl,rfl,rfl,rfl,rfl,rfl,rfl,trivial⟩,rfl⟩
theorem y0E{b0:Nat}{B:R8B}{s:R1}{ts:List T3}{i l c:Nat}{a:Option Addr}(h:R2 w b0 B s ts)(hn:ts.length=i)(hi:i<64){A:Array Value}(hA:G0 162 A [(0,vP B.mb 0),(1,x1),(2,x2),(3,x3),(8,x8),(9,x9),(10,vI i),(11,.slice a l c)]):
 r8pr14.wp Try.prog (F7 fun a' u=>a'.defers=[]∧G0 162 a'.tmps [(0,vP B.mb 0),(1,x1),(2,x2),(3,x3),(8,x8),(9,x9),(10,vI i),(11,.slice a l c)]∧(∃v',R2 u b0 {B with tv:=v'} s (ts++[t8n (.slice a l c) i]))∧D2 b0 w u) ⟨A,[]⟩ w:=by
 obtain⟨i0,z0,hi0,hz0,hz1,hz2,hz3⟩:=p0i
 subst hn
 have E:Aside (R2 w b0 B s ts):=h
 have m2:w.cell? ⟨B.mb,2,none⟩=some B.tv:=by have:=h.o;simp[World.cell?,this]
 have zm:w.frozen? ⟨B.mb,2,none⟩=false:=by have:=h.o;simp[World.frozen?,this]
 obtain⟨ta,tc,htv⟩:∃ta tc,B.tv= .slice ta ts.length tc:=by
  rcases h.row.2 with⟨e,h1⟩|⟨g,cap,cur,e,_⟩
  ·exact⟨none,0,by rw[e,h1]⟩
  ·exact⟨_,_,e⟩
 have hrow:=h.row
 rw[htv]at m2 hrow
 have hml:=h.low_m
 have hmt:some B.mb≠(Value.slice ta ts.length tc).ownBlock:=fun e=>by obtain⟨c,hc⟩:=X1 hrow e.symm;rw[h.o]at hc;cases hc
 clear h
 obtain⟨s,rfl,k0,k1,k2,k3,k8,k9,k10,k11,_⟩:=O3 hA
 simp only[r8pr14,i2,pC,Try.f51,Option.getD_some,i5,k0,k1,k2,k3,k8,k9,k10,k11]
 clear k0 k1 k2 k3 k8 k9 k10 k11
 go_wp2_with (at_builtin;refine O5 rfl (.tmp 44) (.tmp 48) 145 rfl 149 i0 z0 8 112 Try.underlying145 hi0 hz0 hz1 hz2 hz3 (by decide) (.slice ta ts.length tc) ts.length (r8C ts) rfl (hrow.alloc _) ⟨w.heap.size,0,none⟩ 1 1 [.slice a l c,.slice none 0 0,vI (ts.length:Nat),vI 0,vI 0,vI 0,vI 0,.slice none 0 0] rfl rfl (N4 (X:=w) (l:=[.slice a l c,.slice none 0 0,vI (ts.length:Nat),vI 0,vI 0,vI 0,vI 0,.slice none 0 0]) rfl) (fun u hu=>by simp only[List.mem_cons,List.not_mem_nil,or_false]at hu;rcases hu with rfl|rfl|rfl|rfl|rfl|rfl|rfl|rfl<;>rfl) (by unfold maxLen;omega) (by omega) ?_;intro v' w1 hown hgrow hfr;obtain⟨g1,cap1,rfl⟩:=j5 hown;have hk2:=M2 hgrow (r:=B.mb) hml hmt;have k2:=(F1 (j:=2) hk2).1.trans m2;have y2:=(F1 (j:=2) hk2).2.trans zm;have F:Aside (w1.ownsRow 0 149 8 (Value.slice (some ⟨g1,0,none⟩) (ts.length+1) cap1) (ts.length+1) (r8C ts++[.slice a l c,.slice none 0 0,vI (ts.length:Nat),vI 0,vI 0,vI 0,vI 0,.slice none 0 0])∧(∀r,r<w.heap.size→some r≠(Value.slice ta ts.length tc).ownBlock→w1.heap[r]? =w.heap[r]?)∧w.heap.size≤w1.heap.size∧((Value.slice (some ⟨g1,0,none⟩) (ts.length+1) cap1).ownBlock=(Value.slice ta ts.length tc).ownBlock∨∃g,(Value.slice (some ⟨g1,0,none⟩) (ts.length+1) cap1).ownBlock=some g∧w.heap.size≤g)):=⟨hown,fun r hr hn=>M2 hgrow hr hn,Nat.le_trans (by simp) hgrow.size,hfr.imp id fun⟨g',h1,h2⟩=>⟨g',h1,Nat.le_trans (by simp) h2⟩⟩;clear hown hgrow hfr hk2)
 obtain⟨f1,f2,f3,f4⟩:=F.out
 rw[← htv]at f2 f4
 have hb:=E.out.bs
 refine⟨rfl,⟨rfl,rfl,rfl,rfl,rfl,rfl,rfl,rfl,rfl,trivial⟩,⟨_,E.out.born (u3:=w1) f1 f2 f3 f4 hb rfl⟩,?_⟩
 have hS:D2 b0 w w1:=⟨f3,fun r hr=>f2 r (by omega) fun e=>by have:=E.out.b3 r e.symm;omega,fun r c y z q e=>f2 r (Q3 e) fun e2=>by obtain⟨d,hd⟩:=X1 E.out.row e2.symm;rcases q with rfl|rfl<;>(rw[e]at hd;cases hd)⟩
 exact(hS.set (a:=⟨B.mb,2,none⟩) E.out.b1 _ (.inl E.out.nt_m)).heap rfl
theorem y0F{mb i:Nat}{R:World→Prop}(hC:Calls Try.prog 83 #[vP mb 0,vI i] w fun e u=>e= .returned (.tuple #[])∧R u){A:Array Value}(hA:G0 162 A [(0,vP mb 0),(1,x1),(2,x2),(3,x3),(8,x8),(9,x9),(10,vI i)]):
 r8pr15.wp Try.prog (F7 fun a' u=>a'.defers=[]∧G0 162 a'.tmps [(0,vP mb 0),(1,x1),(2,x2),(3,x3),(8,x8),(9,x9),(10,vI i)]∧∃v,v.heap=u.heap∧R v) ⟨A,[]⟩ w:=by
 have C:Aside (Calls Try.prog 83 #[vP mb 0,vI i] w fun e u=>e= .returned (.tuple #[])∧R u):=hC
 clear hC
 obtain⟨s,rfl,k0,k1,k2,k3,k8,k9,k10,_⟩:=O3 hA
 simp only[r8pr15,i2,pC,Try.f51,Option.getD_some,i5,k0,k1,k2,k3,k8,k9,k10]
 clear k0 k1 k2 k3 k8 k9 k10
 go_wp2_with (go_at_call 83;refine Calls.mono C.out ?_;rintro e u ⟨rfl,hu⟩;have U:Aside (R u):=hu;clear hu)
 exact⟨rfl,⟨rfl,rfl,rfl,rfl,rfl,rfl,rfl,rfl,trivial⟩,_,rfl,U.out⟩
theorem y0G {A:Array Value}(hA:G0 162 A [(0,x0),(1,x1),(2,x2),(3,x3),(8,x8),(9,x9)]):
 r8pr16.wp Try.prog (F7 fun a u=>a.defers=[]∧G0 162 a.tmps [(0,x0),(1,x1),(2,x2),(3,x3),(8,x8),(9,x9),(12,.slice none 0 0)]∧u.heap=w.heap) ⟨A,[]⟩ w:=by
 obtain⟨s,rfl,k0,k1,k2,k3,k8,k9,_⟩:=O3 hA
 simp only[r8pr16,i2,pC,Try.f51,Option.getD_some,i5,k0,k1,k2,k3,k8,k9]
 clear k0 k1 k2 k3 k8 k9
 go_wp2
 exact⟨rfl,⟨rfl,rfl,rfl,rfl,rfl,rfl,rfl,rfl,trivial⟩,rfl⟩
theorem y0H {A:Array Value}(hA:G0 162 A [(0,x0),(1,x1),(2,x2),(3,x3),(8,x8),(9,x9),(12,x12)]):
 r8pr17.wp Try.prog (F7 fun a u=>a.defers=[]∧G0 162 a.tmps [(0,x0),(1,x1),(2,x2),(3,x3),(8,x8),(9,x9),(12,x12),(13,vI 0)]∧u.heap=w.heap) ⟨A,[]⟩ w:=by
 obtain⟨s,rfl,k0,k1,k2,k3,k8,k9,k12,_⟩:=O3 hA
 simp only[r8pr17,i2,pC,Try.f51,Option.getD_some,i5,k0,k1,k2,k3,k8,k9,k12]
 clear k0 k1 k2 k3 k8 k9 k12
 go_wp2
 exact⟨rfl,⟨rfl,rfl,rfl,rfl,rfl,rfl,rfl,rfl,rfl,trivial⟩,rfl⟩
theorem y0I{k sl sc ol oc M:Nat}{sa oa:Option Addr}{A:Array Value}(hA:G0 162 A [(0,x0),(1,x1),(2,.slice sa sl sc),(3,vI M),(8,x8),(9,x9),(12,.slice oa ol oc),(13,vI k)]):
 r8pr18.wp Try.prog (F7 fun a u=>a.defers=[]∧(G0 162 a.tmps [(0,x0),(1,x1),(2,.slice sa sl sc),(3,vI M),(8,x8),(9,x9),(12,.slice oa ol oc),(13,vI k)]∧j0M (a.tmps.getD 64 undef) ((k:Int)<(sl:Int)∧(ol:Int)<(M:Int)))∧u.heap=w.heap) ⟨A,[]⟩ w:=by
 by_cases h:(k:Int)<(sl:Int)
 ·have q:(k:Int)<(sl:Int):=by omega
  clear h
  obtain⟨s,rfl,k0,k1,k2,k3,k8,k9,k12,k13,_⟩:=O3 hA
  simp only[r8pr18,i2,pC,Try.f51,Option.getD_some,i5,k0,k1,k2,k3,k8,k9,k12,k13]
  clear k0 k1 k2 k3 k8 k9 k12 k13
  go_wp2
  all_goals exact⟨rfl,⟨⟨rfl,rfl,rfl,rfl,rfl,rfl,rfl,rfl,rfl,trivial⟩,_,rfl,by simp[q]⟩,rfl⟩
 ·have q:¬(k:Int)<(sl:Int):=by omega
  clear h
  obtain⟨s,rfl,k0,k1,k2,k3,k8,k9,k12,k13,_⟩:=O3 hA
  simp only[r8pr18,i2,pC,Try.f51,Option.getD_some,i5,k0,k1,k2,k3,k8,k9,k12,k13]
  clear k0 k1 k2 k3 k8 k9 k12 k13
  go_wp2
  all_goals exact⟨rfl,⟨⟨rfl,rfl,rfl,rfl,rfl,rfl,rfl,rfl,rfl,trivial⟩,_,rfl,⟨fun h=>(by cases h),fun h=>(by omega)⟩⟩,rfl⟩
theorem y0K{k sb so sl sc:Nat}{x:Int}(hk:k<sl)(h:w.cell? ⟨sb,so+k,none⟩=some (vI x)){A:Array Value}(hA:G0 162 A [(0,x0),(1,x1),(2,vL sb so sl sc),(3,x3),(8,x8),(9,x9),(12,x12),(13,vI k)]):
 r8pr20.wp Try.prog (F7 fun a u=>a.defers=[]∧G0 162 a.tmps [(0,x0),(1,x1),(2,vL sb so sl sc),(3,x3),(8,x8),(9,x9),(12,x12),(13,vI k),(14,vI x)]∧u.heap=w.heap) ⟨A,[]⟩ w:=by
 have hk2:(k:Int)<(sl:Int):=by omega
 clear hk
 obtain⟨s,rfl,k0,k1,k2,k3,k8,k9,k12,k13,_⟩:=O3 hA
 simp only[r8pr20,i2,pC,Try.f51,Option.getD_some,i5,k0,k1,k2,k3,k8,k9,k12,k13]
 clear k0 k1 k2 k3 k8 k9 k12 k13
 go_wp2
 exact⟨rfl,⟨rfl,rfl,rfl,rfl,rfl,rfl,rfl,rfl,rfl,rfl,trivial⟩,rfl⟩
theorem y0J{k:Nat}(hk:k+1<9223372036854775808){A:Array Value}(hA:G0 162 A [(0,x0),(1,x1),(2,x2),(3,x3),(8,x8),(9,x9),(12,x12),(13,vI k)]):
 r8pr19.wp Try.prog (F7 fun a u=>a.defers=[]∧G0 162 a.tmps [(0,x0),(1,x1),(2,x2),(3,x3),(8,x8),(9,x9),(12,x12),(13,vI ((k+1:Nat):Int))]∧u.heap=w.heap) ⟨A,[]⟩ w:=by
 have hwr:IntKind.i64.wrap ((k:Int)+1)=((k+1:Nat):Int):=IntWalk.i64_in _ (by omega)
 obtain⟨s,rfl,k0,k1,k2,k3,k8,k9,k12,k13,_⟩:=O3 hA
 simp only[r8pr19,i2,pC,Try.f51,Option.getD_some,i5,k0,k1,k2,k3,k8,k9,k12,k13]
 clear k0 k1 k2 k3 k8 k9 k12 k13
 go_wp2
 exact⟨rfl,⟨rfl,rfl,rfl,rfl,rfl,rfl,rfl,rfl,rfl,trivial⟩,rfl⟩
theorem t0w{mb n:Nat}{x:Int}(h:x<0){A:Array Value}(hA:G0 162 A [(0,vP mb 0),(1,x1),(2,x2),(3,x3),(8,x8),(9,vI n),(12,x12),(13,x13),(14,vI x)]):
 r8pr21.wp Try.prog (F7 fun a u=>a.defers=[]∧G0 162 a.tmps [(0,vP mb 0),(1,x1),(2,x2),(3,x3),(8,x8),(9,vI n),(12,x12),(13,x13),(14,vI x),(88,.bool false)]∧u.heap=w.heap) ⟨A,[]⟩ w:=by
 have q:¬(0:Int)≤x:=by omega
 obtain⟨s,rfl,k0,k1,k2,k3,k8,k9,k12,k13,k14,_⟩:=O3 hA
 simp only[r8pr21,i2,pC,Try.f51,Option.getD_some,i5,k0,k1,k2,k3,k8,k9,k12,k13,k14]
 clear k0 k1 k2 k3 k8 k9 k12 k13 k14
 go_wp2
 all_goals exact⟨rfl,⟨rfl,rfl,rfl,rfl,rfl,rfl,rfl,rfl,rfl,rfl,rfl,trivial⟩,rfl⟩
theorem t0x{mb n:Nat}{x:Int}(h0:0≤x)(h:¬x<(n:Int)){A:Array Value}(hA:G0 162 A [(0,vP mb 0),(1,x1),(2,x2),(3,x3),(8,x8),(9,vI n),(12,x12),(13,x13),(14,vI x)]):
 r8pr21.wp Try.prog (F7 fun a u=>a.defers=[]∧G0 162 a.tmps [(0,vP mb 0),(1,x1),(2,x2),(3,x3),(8,x8),(9,vI n),(12,x12),(13,x13),(14,vI x),(88,.bool false)]∧u.heap=w.heap) ⟨A,[]⟩ w:=by
 obtain⟨s,rfl,k0,k1,k2,k3,k8,k9,k12,k13,k14,_⟩:=O3 hA
 simp only[r8pr21,i2,pC,Try.f51,Option.getD_some,i5,k0,k1,k2,k3,k8,k9,k12,k13,k14]
 clear k0 k1 k2 k3 k8 k9 k12 k13 k14
 go_wp2
 all_goals exact⟨rfl,⟨rfl,rfl,rfl,rfl,rfl,rfl,rfl,rfl,rfl,rfl,rfl,trivial⟩,rfl⟩
theorem t0y{mb n:Nat}{x:Int}{i tb tc tl p:Nat}(hx:x=i)(h:i<n)(hl:i<tl)(h2:w.cell? ⟨mb,2,none⟩=some (vL tb 0 tl tc))(h4:w.cell? ⟨tb,i*8+4,none⟩=some (vI p)){A:Array Value}(hA:G0 162 A [(0,vP mb 0),(1,x1),(2,x2),(3,x3),(8,x8),(9,vI n),(12,x12),(13,x13),(14,vI x)]):
 r8pr21.wp Try.prog (F7 fun a u=>a.defers=[]∧G0 162 a.tmps [(0,vP mb 0),(1,x1),(2,x2),(3,x3),(8,x8),(9,vI n),(12,x12),(13,x13),(14,vI x),(88,.bool (decide (0<p)))]∧u.heap=w.heap) ⟨A,[]⟩ w:=by
 subst hx
 have q1:(i:Int)<(n:Int):=by omega
 have q2:(i:Int)<(tl:Int):=by omega
 have q3:(0:Int)≤(i:Int):=by omega
 clear h hl
 obtain⟨s,rfl,k0,k1,k2,k3,k8,k9,k12,k13,k14,_⟩:=O3 hA
 simp only[r8pr21,i2,pC,Try.f51,Option.getD_some,i5,k0,k1,k2,k3,k8,k9,k12,k13,k14]
 clear k0 k1 k2 k3 k8 k9 k12 k13 k14
 go_wp2
 all_goals exact⟨rfl,⟨rfl,rfl,rfl,rfl,rfl,rfl,rfl,rfl,rfl,rfl,rfl,trivial⟩,rfl⟩
theorem y0L{W:World}{b0 mb k i:Nat}{ops:Nat→List P3}{g:GS SPl}{order:List Nat}{oa:Option Addr}{oc:Nat}(h:u9 W b0 mb k ops g order (.slice oa order.length oc) w)(hl:order.length<10000000){A:Array Value}(hA:G0 162 A [(0,x0),(1,x1),(2,x2),(3,x3),(8,x8),(9,x9),(12,.slice oa order.length oc),(13,x13),(14,vI i)]):
 r8pr22.wp Try.prog (F7 fun a' u=>a'.defers=[]∧∃oa' oc',G0 162 a'.tmps [(0,x0),(1,x1),(2,x2),(3,x3),(8,x8),(9,x9),(12,(.slice oa' (order.length+1) oc')),(13,x13),(14,vI i)]∧u9 W b0 mb k ops g (order++[i]) (.slice oa' (order.length+1) oc') u) ⟨A,[]⟩ w:=by
 obtain⟨i0,z0,hi0,hz0,hz1,hz2,hz3⟩:=p0j
 have E:Aside (u9 W b0 mb k ops g order (.slice oa order.length oc) w):=h
 have hrow:=h.ord
 clear h
 obtain⟨s,rfl,k0,k1,k2,k3,k8,k9,k12,k13,k14,_⟩:=O3 hA
 simp only[r8pr22,i2,pC,Try.f51,Option.getD_some,i5,k0,k1,k2,k3,k8,k9,k12,k13,k14]
 clear k0 k1 k2 k3 k8 k9 k12 k13 k14
 go_wp2_with (at_builtin;refine O5 rfl (.tmp 89) (.tmp 91) 24 rfl 3 i0 z0 1 8 Try.underlying24 hi0 hz0 hz1 hz2 hz3 (by decide) (.slice oa order.length oc) order.length (order.map fun i:Nat=>Value.int .i64 i) rfl (hrow.alloc _) ⟨w.heap.size,0,none⟩ 1 1 [vI i] rfl rfl (N4 (X:=w) (l:=[vI i]) rfl) (by intro u hu;simp at hu;subst hu;rfl) (by unfold maxLen;omega) (by omega) ?_;intro v' w1 hown hgrow hfr;obtain⟨g1,cap1,rfl⟩:=j5 hown;have F:Aside (u9 W b0 mb k ops g (order++[i]) (vL g1 0 (order.length+1) cap1) w1):=E.out.ord_more hown (fun r hr hn=>M2 hgrow hr hn) (Nat.le_trans (by simp) hgrow.size) (hfr.imp id fun⟨g',h1,h2⟩=>⟨g',h1,Nat.le_trans (by simp) h2⟩) rfl;clear hown hgrow hfr)
 exact⟨rfl,_,_,⟨rfl,rfl,rfl,rfl,rfl,rfl,rfl,rfl,rfl,rfl,trivial⟩,F.out.heap rfl⟩
theorem y0M{mb i:Nat}{R:World→Prop}(hC:Calls Try.prog 84 #[vP mb 0,vI i] w fun e u=>e= .returned (.tuple #[])∧R u){A:Array Value}(hA:G0 162 A [(0,vP mb 0),(1,x1),(2,x2),(3,x3),(8,x8),(9,x9),(12,x12),(13,x13),(14,vI i)]):
 r8pr23.wp Try.prog (F7 fun a' u=>a'.defers=[]∧G0 162 a'.tmps [(0,vP mb 0),(1,x1),(2,x2),(3,x3),(8,x8),(9,x9),(12,x12),(13,x13),(14,vI i)]∧∃v,v.heap=u.heap∧R v) ⟨A,[]⟩ w:=by
 have C:Aside (Calls Try.prog 84 #[vP mb 0,vI i] w fun e u=>e= .returned (.tuple #[])∧R u):=hC
 clear hC
 obtain⟨s,rfl,k0,k1,k2,k3,k8,k9,k12,k13,k14,_⟩:=O3 hA
 simp only[r8pr23,i2,pC,Try.f51,Option.getD_some,i5,k0,k1,k2,k3,k8,k9,k12,k13,k14]
 clear k0 k1 k2 k3 k8 k9 k12 k13 k14
 go_wp2_with (go_at_call 84;refine Calls.mono C.out ?_;rintro e u ⟨rfl,hu⟩;have U:Aside (R u):=hu;clear hu)
 exact⟨rfl,⟨rfl,rfl,rfl,rfl,rfl,rfl,rfl,rfl,rfl,rfl,trivial⟩,_,rfl,U.out⟩
theorem y0N{mb i:Nat}{R:World→Prop}(hC:Calls Try.prog 83 #[vP mb 0,vI i] w fun e u=>e= .returned (.tuple #[])∧R u){A:Array Value}(hA:G0 162 A [(0,vP mb 0),(1,x1),(2,x2),(3,x3),(8,x8),(9,x9),(12,x12),(13,x13),(14,vI i)]):
 r8pr24.wp Try.prog (F7 fun a' u=>a'.defers=[]∧G0 162 a'.tmps [(0,vP mb 0),(1,x1),(2,x2),(3,x3),(8,x8),(9,x9),(12,x12),(13,x13),(14,vI i)]∧∃v,v.heap=u.heap∧R v) ⟨A,[]⟩ w:=by
 have C:Aside (Calls Try.prog 83 #[vP mb 0,vI i] w fun e u=>e= .returned (.tuple #[])∧R u):=hC
 clear hC
 obtain⟨s,rfl,k0,k1,k2,k3,k8,k9,k12,k13,k14,_⟩:=O3 hA
 simp only[r8pr24,i2,pC,Try.f51,Option.getD_some,i5,k0,k1,k2,k3,k8,k9,k12,k13,k14]
 clear k0 k1 k2 k3 k8 k9 k12 k13 k14
 go_wp2_with (go_at_call 83;refine Calls.mono C.out ?_;rintro e u ⟨rfl,hu⟩;have U:Aside (R u):=hu;clear hu)
 exact⟨rfl,⟨rfl,rfl,rfl,rfl,rfl,rfl,rfl,rfl,rfl,rfl,trivial⟩,_,rfl,U.out⟩
theorem y0O{mb M ol oc:Nat}{oa:Option Addr}{b:Bool}(hC:Calls Try.prog 85 #[vP mb 0] w fun e u=>e= .returned (.bool b)∧u.heap=w.heap){A:Array Value}(hA:G0 162 A [(0,vP mb 0),(1,x1),(2,x2),(3,vI M),(8,x8),(9,x9),(12,.slice oa ol oc)]):
 r8pr25.wp Try.prog (F7 fun a u=>a.defers=[]∧(G0 162 a.tmps [(0,vP mb 0),(1,x1),(2,x2),(3,vI M),(8,x8),(9,x9),(12,.slice oa ol oc)]∧j0M (a.tmps.getD 106 undef) (b=true∧(ol:Int)<(M:Int)))∧u.heap=w.heap) ⟨A,[]⟩ w:=by
 have C:Aside (Calls Try.prog 85 #[vP mb 0] w fun e u=>e= .returned (.bool b)∧u.heap=w.heap):=hC
 clear hC
 cases b with
 | true=>
   obtain⟨s,rfl,k0,k1,k2,k3,k8,k9,k12,_⟩:=O3 hA
   simp only[r8pr25,i2,pC,Try.f51,Option.getD_some,i5,k0,k1,k2,k3,k8,k9,k12]
   clear k0 k1 k2 k3 k8 k9 k12
   go_wp2_with (go_at_call 85;refine Calls.mono C.out ?_;rintro e u ⟨rfl,hu⟩;have U:Aside (u.heap=w.heap):=hu;clear hu)
   all_goals exact⟨rfl,⟨⟨rfl,rfl,rfl,rfl,rfl,rfl,rfl,rfl,trivial⟩,_,rfl,by simp⟩,U.out⟩
 | false=>
   obtain⟨s,rfl,k0,k1,k2,k3,k8,k9,k12,_⟩:=O3 hA
   simp only[r8pr25,i2,pC,Try.f51,Option.getD_some,i5,k0,k1,k2,k3,k8,k9,k12]
   clear k0 k1 k2 k3 k8 k9 k12
   go_wp2_with (go_at_call 85;refine Calls.mono C.out ?_;rintro e u ⟨rfl,hu⟩;have U:Aside (u.heap=w.heap):=hu;clear hu)
   all_goals exact⟨rfl,⟨⟨rfl,rfl,rfl,rfl,rfl,rfl,rfl,rfl,trivial⟩,_,rfl,by simp⟩,U.out⟩
theorem y0P {A:Array Value}(hA:G0 162 A [(0,x0),(1,x1),(2,x2),(3,x3),(8,x8),(9,x9),(12,x12)]):
 r8pr26.wp Try.prog (F7 fun a u=>a.defers=[]∧G0 162 a.tmps [(0,x0),(1,x1),(2,x2),(3,x3),(8,x8),(9,x9),(12,x12),(15,vI 0)]∧u.heap=w.heap) ⟨A,[]⟩ w:=by
 obtain⟨s,rfl,k0,k1,k2,k3,k8,k9,k12,_⟩:=O3 hA
 simp only[r8pr26,i2,pC,Try.f51,Option.getD_some,i5,k0,k1,k2,k3,k8,k9,k12]
 clear k0 k1 k2 k3 k8 k9 k12
 go_wp2
 exact⟨rfl,⟨rfl,rfl,rfl,rfl,rfl,rfl,rfl,rfl,rfl,trivial⟩,rfl⟩
theorem y0Q{k n ol oc M:Nat}{oa:Option Addr}{A:Array Value}(hA:G0 162 A [(0,x0),(1,x1),(2,x2),(3,vI M),(8,x8),(9,vI n),(12,.slice oa ol oc),(15,vI k)]):
 r8pr27.wp Try.prog (F7 fun a u=>a.defers=[]∧(G0 162 a.tmps [(0,x0),(1,x1),(2,x2),(3,vI M),(8,x8),(9,vI n),(12,.slice oa ol oc),(15,vI k)]∧j0M (a.tmps.getD 115 undef) ((k:Int)<(n:Int)∧(ol:Int)<(M:Int)))∧u.heap=w.heap) ⟨A,[]⟩ w:=by
 by_cases h:(k:Int)<(n:Int)
 ·have q:(k:Int)<(n:Int):=by omega
  clear h
  obtain⟨s,rfl,k0,k1,k2,k3,k8,k9,k12,k15,_⟩:=O3 hA
  simp only[r8pr27,i2,pC,Try.f51,Option.getD_some,i5,k0,k1,k2,k3,k8,k9,k12,k15]
  clear k0 k1 k2 k3 k8 k9 k12 k15
  go_wp2
  all_goals exact⟨rfl,⟨⟨rfl,rfl,rfl,rfl,rfl,rfl,rfl,rfl,rfl,trivial⟩,_,rfl,by simp[q]⟩,rfl⟩
 ·have q:¬(k:Int)<(n:Int):=by omega
  clear h
  obtain⟨s,rfl,k0,k1,k2,k3,k8,k9,k12,k15,_⟩:=O3 hA
  simp only[r8pr27,i2,pC,Try.f51,Option.getD_some,i5,k0,k1,k2,k3,k8,k9,k12,k15]
  clear k0 k1 k2 k3 k8 k9 k12 k15
  go_wp2
  all_goals exact⟨rfl,⟨⟨rfl,rfl,rfl,rfl,rfl,rfl,rfl,rfl,rfl,trivial⟩,_,rfl,⟨fun h=>(by cases h),fun h=>(by omega)⟩⟩,rfl⟩
theorem y0R{k:Nat}(hk:k<1000000000){A:Array Value}(hA:G0 162 A [(0,x0),(1,x1),(2,x2),(3,x3),(8,x8),(9,x9),(12,x12),(15,vI k)]):
 r8pr28.wp Try.prog (F7 fun a u=>a.defers=[]∧G0 162 a.tmps [(0,x0),(1,x1),(2,x2),(3,x3),(8,x8),(9,x9),(12,x12),(15,vI ((k+1:Nat):Int))]∧u.heap=w.heap) ⟨A,[]⟩ w:=by
 have hwr:IntKind.i64.wrap ((k:Int)+1)=((k+1:Nat):Int):=IntWalk.i64_in _ (by omega)
 obtain⟨s,rfl,k0,k1,k2,k3,k8,k9,k12,k15,_⟩:=O3 hA
 simp only[r8pr28,i2,pC,Try.f51,Option.getD_some,i5,k0,k1,k2,k3,k8,k9,k12,k15]
 clear k0 k1 k2 k3 k8 k9 k12 k15
 go_wp2
 exact⟨rfl,⟨rfl,rfl,rfl,rfl,rfl,rfl,rfl,rfl,rfl,trivial⟩,rfl⟩
theorem y0S{mb i tb tc tl p:Nat}(hl:i<tl)(h2:w.cell? ⟨mb,2,none⟩=some (vL tb 0 tl tc))(h4:w.cell? ⟨tb,i*8+4,none⟩=some (vI p)){A:Array Value}(hA:G0 162 A [(0,vP mb 0),(1,x1),(2,x2),(3,x3),(8,x8),(9,x9),(12,x12),(15,vI i)]):
 r8pr29.wp Try.prog (F7 fun a u=>a.defers=[]∧G0 162 a.tmps [(0,vP mb 0),(1,x1),(2,x2),(3,x3),(8,x8),(9,x9),(12,x12),(15,vI i),(126,.bool (decide (0<p)))]∧u.heap=w.heap) ⟨A,[]⟩ w:=by
 have q2:(i:Int)<(tl:Int):=by omega
 clear hl
 obtain⟨s,rfl,k0,k1,k2,k3,k8,k9,k12,k15,_⟩:=O3 hA
 simp only[r8pr29,i2,pC,Try.f51,Option.getD_some,i5,k0,k1,k2,k3,k8,k9,k12,k15]
 clear k0 k1 k2 k3 k8 k9 k12 k15
 go_wp2
 exact⟨rfl,⟨rfl,rfl,rfl,rfl,rfl,rfl,rfl,rfl,rfl,rfl,trivial⟩,rfl⟩
theorem y0T{W:World}{b0 mb k i:Nat}{ops:Nat→List P3}{g:GS SPl}{order:List Nat}{oa:Option Addr}{oc:Nat}(h:u9 W b0 mb k ops g order (.slice oa order.length oc) w)(hl:order.length<10000000){A:Array Value}(hA:G0 162 A [(0,x0),(1,x1),(2,x2),(3,x3),(8,x8),(9,x9),(12,.slice oa order.length oc),(15,vI i)]):
 r8pr30.wp Try.prog (F7 fun a' u=>a'.defers=[]∧∃oa' oc',G0 162 a'.tmps [(0,x0),(1,x1),(2,x2),(3,x3),(8,x8),(9,x9),(12,(.slice oa' (order.length+1) oc')),(15,vI i)]∧u9 W b0 mb k ops g (order++[i]) (.slice oa' (order.length+1) oc') u) ⟨A,[]⟩ w:=by
 obtain⟨i0,z0,hi0,hz0,hz1,hz2,hz3⟩:=p0j
 have E:Aside (u9 W b0 mb k ops g order (.slice oa order.length oc) w):=h
 have hrow:=h.ord
 clear h
 obtain⟨s,rfl,k0,k1,k2,k3,k8,k9,k12,k15,_⟩:=O3 hA
 simp only[r8pr30,i2,pC,Try.f51,Option.getD_some,i5,k0,k1,k2,k3,k8,k9,k12,k15]
 clear k0 k1 k2 k3 k8 k9 k12 k15
 go_wp2_with (at_builtin;refine O5 rfl (.tmp 127) (.tmp 129) 24 rfl 3 i0 z0 1 8 Try.underlying24 hi0 hz0 hz1 hz2 hz3 (by decide) (.slice oa order.length oc) order.length (order.map fun i:Nat=>Value.int .i64 i) rfl (hrow.alloc _) ⟨w.heap.size,0,none⟩ 1 1 [vI i] rfl rfl (N4 (X:=w) (l:=[vI i]) rfl) (by intro u hu;simp at hu;subst hu;rfl) (by unfold maxLen;omega) (by omega) ?_;intro v' w1 hown hgrow hfr;obtain⟨g1,cap1,rfl⟩:=j5 hown;have F:Aside (u9 W b0 mb k ops g (order++[i]) (vL g1 0 (order.length+1) cap1) w1):=E.out.ord_more hown (fun r hr hn=>M2 hgrow hr hn) (Nat.le_trans (by simp) hgrow.size) (hfr.imp id fun⟨g',h1,h2⟩=>⟨g',h1,Nat.le_trans (by simp) h2⟩) rfl;clear hown hgrow hfr)
 exact⟨rfl,_,_,⟨rfl,rfl,rfl,rfl,rfl,rfl,rfl,rfl,rfl,trivial⟩,F.out.heap rfl⟩
theorem y0U{mb i:Nat}{R:World→Prop}(hC:Calls Try.prog 84 #[vP mb 0,vI i] w fun e u=>e= .returned (.tuple #[])∧R u){A:Array Value}(hA:G0 162 A [(0,vP mb 0),(1,x1),(2,x2),(3,x3),(8,x8),(9,x9),(12,x12),(15,vI i)]):
 r8pr31.wp Try.prog (F7 fun a' u=>a'.defers=[]∧G0 162 a'.tmps [(0,vP mb 0),(1,x1),(2,x2),(3,x3),(8,x8),(9,x9),(12,x12),(15,vI i)]∧∃v,v.heap=u.heap∧R v) ⟨A,[]⟩ w:=by
 have C:Aside (Calls Try.prog 84 #[vP mb 0,vI i] w fun e u=>e= .returned (.tuple #[])∧R u):=hC
 clear hC
 obtain⟨s,rfl,k0,k1,k2,k3,k8,k9,k12,k15,_⟩:=O3 hA
 simp only[r8pr31,i2,pC,Try.f51,Option.getD_some,i5,k0,k1,k2,k3,k8,k9,k12,k15]
 clear k0 k1 k2 k3 k8 k9 k12 k15
 go_wp2_with (go_at_call 84;refine Calls.mono C.out ?_;rintro e u ⟨rfl,hu⟩;have U:Aside (R u):=hu;clear hu)
 exact⟨rfl,⟨rfl,rfl,rfl,rfl,rfl,rfl,rfl,rfl,rfl,trivial⟩,_,rfl,U.out⟩
theorem y0V{mb i:Nat}{R:World→Prop}(hC:Calls Try.prog 83 #[vP mb 0,vI i] w fun e u=>e= .returned (.tuple #[])∧R u){A:Array Value}(hA:G0 162 A [(0,vP mb 0),(1,x1),(2,x2),(3,x3),(8,x8),(9,x9),(12,x12),(15,vI i)]):
 r8pr32.wp Try.prog (F7 fun a' u=>a'.defers=[]∧G0 162 a'.tmps [(0,vP mb 0),(1,x1),(2,x2),(3,x3),(8,x8),(9,x9),(12,x12),(15,vI i)]∧∃v,v.heap=u.heap∧R v) ⟨A,[]⟩ w:=by
 have C:Aside (Calls Try.prog 83 #[vP mb 0,vI i] w fun e u=>e= .returned (.tuple #[])∧R u):=hC
 clear hC
 obtain⟨s,rfl,k0,k1,k2,k3,k8,k9,k12,k15,_⟩:=O3 hA
 simp only[r8pr32,i2,pC,Try.f51,Option.getD_some,i5,k0,k1,k2,k3,k8,k9,k12,k15]
 clear k0 k1 k2 k3 k8 k9 k12 k15
 go_wp2_with (go_at_call 83;refine Calls.mono C.out ?_;rintro e u ⟨rfl,hu⟩;have U:Aside (R u):=hu;clear hu)
 exact⟨rfl,⟨rfl,rfl,rfl,rfl,rfl,rfl,rfl,rfl,rfl,trivial⟩,_,rfl,U.out⟩
end
section
variable{w w':World}{x0 x1 x2 x3 x8 x9 x10 x11 x12 x13 x14 x15 x16 x17:Value}
theorem y0W{mb ol oc:Nat}{oa:Option Addr}{b:Bool}{R:Option Addr→Nat→Nat→World→Prop}(hC:Calls Try.prog 85 #[vP mb 0] w fun e u=>e= .returned (.bool b)∧u.heap=w.heap)
 (hC2:∀X:World,X.heap=w.heap→Calls Try.prog 86 #[vP mb 0] X fun e u=>∃sa sl sc,e= .returned (.slice sa sl sc)∧R sa sl sc u) {A:Array Value} (hA:G0 162 A [(0,vP mb 0),(1,x1),(2,x2),(3,x3),(8,x8),(9,x9),(12,.slice oa ol oc)]):
 r8pr33.wp Try.prog (F7 fun a u=>a.defers=[]∧∃sa sl sc,∃v:World,G0 162 a.tmps [(0,vP mb 0),(1,x1),(2,x2),(3,x3),(8,x8),(9,x9),(16,vP v.heap.size 0)]∧R sa sl sc v∧u.heap=(v.alloc (.cells #[.slice none 0 0,.slice oa ol oc,.slice sa sl sc,.bool b] 31)).heap) ⟨A,[]⟩ w:=by
 have C:Aside (Calls Try.prog 85 #[vP mb 0] w fun e u=>e= .returned (.bool b)∧u.heap=w.heap):=hC
 have C2:Aside (∀X:World,X.heap=w.heap→Calls Try.prog 86 #[vP mb 0] X fun e u=>∃sa sl sc,e= .returned (.slice sa sl sc)∧R sa sl sc u):=hC2
 clear hC hC2
 obtain⟨s,rfl,k0,k1,k2,k3,k8,k9,k12,_⟩:=O3 hA
 simp only[r8pr33,i2,pC,Try.f51,Option.getD_some,i5,k0,k1,k2,k3,k8,k9,k12]
 clear k0 k1 k2 k3 k8 k9 k12
 go_wp2_with (first
  | (go_at_call 85;refine Calls.mono C.out ?_;rintro e u ⟨rfl,hu⟩;have U:Aside (u.heap=w.heap):=hu;clear hu)
  | (go_at_call 86;refine Calls.mono (C2.out _ U.out) ?_;rintro e v ⟨sa,sl,sc,rfl,hu⟩;have V:Aside (R sa sl sc v):=hu;clear hu))
 exact⟨rfl,_,_,_,_,⟨rfl,rfl,rfl,rfl,rfl,rfl,rfl,rfl,trivial⟩,V.out,rfl⟩
theorem y0X{mb:Nat}{A:Array Value}(hA:G0 162 A [(0,vP mb 0),(1,x1),(2,x2),(3,x3),(8,x8),(9,x9),(16,x16)]):
 r8pr34.wp Try.prog (F7 fun a u=>a.defers=[]∧G0 162 a.tmps [(0,vP mb 0),(1,x1),(2,x2),(3,x3),(8,x8),(9,x9),(16,x16),(17,vI 0)]∧u.heap=w.heap) ⟨A,[]⟩ w:=by
 obtain⟨s,rfl,k0,k1,k2,k3,k8,k9,k16,_⟩:=O3 hA
 simp only[r8pr34,i2,pC,Try.f51,Option.getD_some,i5,k0,k1,k2,k3,k8,k9,k16]
 clear k0 k1 k2 k3 k8 k9 k16
 go_wp2
 exact⟨rfl,⟨rfl,rfl,rfl,rfl,rfl,rfl,rfl,rfl,rfl,trivial⟩,rfl⟩
theorem y0Y{mb n i:Nat}{A:Array Value}(hA:G0 162 A [(0,vP mb 0),(1,x1),(2,x2),(3,x3),(8,x8),(9,vI n),(16,x16),(17,vI i)]):
 r8pr35.wp Try.prog (F7 fun a u=>a.defers=[]∧G0 162 a.tmps [(0,vP mb 0),(1,x1),(2,x2),(3,x3),(8,x8),(9,vI n),(16,x16),(17,vI i),(145,.bool (decide (i<n)))]∧u.heap=w.heap) ⟨A,[]⟩ w:=by
 obtain⟨s,rfl,k0,k1,k2,k3,k8,k9,k16,k17,_⟩:=O3 hA
 simp only[r8pr35,i2,pC,Try.f51,Option.getD_some,i5,k0,k1,k2,k3,k8,k9,k16,k17]
 clear k0 k1 k2 k3 k8 k9 k16 k17
 go_wp2
 exact⟨rfl,⟨rfl,rfl,rfl,rfl,rfl,rfl,rfl,rfl,rfl,rfl,trivial⟩,rfl⟩
theorem y0Z{mb i:Nat}(hk:i<1000000000){A:Array Value}(hA:G0 162 A [(0,vP mb 0),(1,x1),(2,x2),(3,x3),(8,x8),(9,x9),(16,x16),(17,vI i)]):
 r8pr36.wp Try.prog (F7 fun a u=>a.defers=[]∧G0 162 a.tmps [(0,vP mb 0),(1,x1),(2,x2),(3,x3),(8,x8),(9,x9),(16,x16),(17,vI ((i+1:Nat):Int))]∧u.heap=w.heap) ⟨A,[]⟩ w:=by
 have hwr:IntKind.i64.wrap ((i:Int)+1)=((i+1:Nat):Int):=IntWalk.i64_in _ (by omega)
 obtain⟨s,rfl,k0,k1,k2,k3,k8,k9,k16,k17,_⟩:=O3 hA
 simp only[r8pr36,i2,pC,Try.f51,Option.getD_some,i5,k0,k1,k2,k3,k8,k9,k16,k17]
 clear k0 k1 k2 k3 k8 k9 k16 k17
 go_wp2
 exact⟨rfl,⟨rfl,rfl,rfl,rfl,rfl,rfl,rfl,rfl,rfl,trivial⟩,rfl⟩
structure TE8(V:World)(bt i:Nat)(rows:Nat→Value)(y1 y2 y3:Value)(xa:Option Addr)(xc:Nat)(u:World):Prop where
 row:u.ownsRow 0 42 1 (.slice xa i xc) i ((List.range i).map rows)
 own:∀r,(Value.slice xa i xc).ownBlock=some r→V.heap.size≤r
 blk:u.heap[bt]? =some (.cells #[.slice xa i xc,y1,y2,y3] 31 (0,0))
 old:∀r,r<V.heap.size→r≠bt→u.heap[r]? =V.heap[r]?
 lt:bt<V.heap.size
 size:V.heap.size≤u.heap.size
theorem TE8.heap{V u u':World}{bt i:Nat}{rows:Nat→Value}{y1 y2 y3:Value}{xa:Option Addr}{xc:Nat}(h:TE8 V bt i rows y1 y2 y3 xa xc u)(e:u'.heap=u.heap):TE8 V bt i rows y1 y2 y3 xa xc u':=
 ⟨T5 h.row fun _ _ _ _=>by rw[e],h.own,by rw[e];exact h.blk,fun r h1 h2=>by rw[e];exact h.old r h1 h2,h.lt,by rw[e];exact h.size⟩
theorem TE8.more{V u w1 u':World}{bt i:Nat}{rows:Nat→Value}{y1 y2 y3 v':Value}{xa:Option Addr}{xc:Nat}(h:TE8 V bt i rows y1 y2 y3 xa xc u)(hown:w1.ownsRow 0 42 1 v' (i+1) ((List.range i).map rows++[rows i]))(hold:∀r,r<u.heap.size→some r≠(Value.slice xa i xc).ownBlock→w1.heap[r]? =u.heap[r]?)(hsz:u.heap.size≤w1.heap.size)
 (hfr:v'.ownBlock=(Value.slice xa i xc).ownBlock∨∃g,v'.ownBlock=some g∧u.heap.size≤g) (hu:u'.heap=(w1.setCell ⟨bt,0,none⟩ v').heap):∃xa' xc',v'= .slice xa' (i+1) xc'∧TE8 V bt (i+1) rows y1 y2 y3 xa' xc' u':=by
 obtain⟨g,cap,rfl⟩:=j5 hown
 have hb:some bt≠(Value.slice xa i xc).ownBlock:=fun e=>by obtain⟨c,hc⟩:=X1 h.row e.symm;rw[h.blk]at hc;cases hc
 have e1:=(hold bt (by have:=h.lt;have:=h.size;omega) hb).trans h.blk
 have hg:V.heap.size≤g:=by
  rcases hfr with e|⟨q,e,hq⟩
  ·exact h.own g (by rw[← e];rfl)
  ·simp only[Value.ownBlock,Option.some.injEq]at e
   have:=h.size
   omega
 have hl:=h.lt
 refine⟨_,_,rfl,?_,fun r hr=>?_,?_,fun r h1 h2=>?_,h.lt,?_⟩
 ·rw[List.range_succ,List.map_append]
  exact K0 hown fun b hb _=>by
   simp only[Value.ownBlock,Option.some.injEq]at hb
   rw[hu]
   exact I0 _ _ _ (show b≠bt by omega)
 ·simp only[Value.ownBlock,Option.some.injEq]at hr
  omega
 ·rw[hu]
  exact v5 e1
 ·rw[hu,I0 _ _ _ (by exact h2)]
  exact(hold r (by have:=h.size;omega) fun e=>by have:=h.own r e.symm;omega).trans (h.old r h1 h2)
 ·rw[hu,World.size_setCell]
  exact Nat.le_trans h.size hsz
theorem y00{V:World}{bt mb tb tl tc i vl vc:Nat}{va xa:Option Addr}{xc:Nat}{rows:Nat→Value}{y1 y2 y3:Value}(h:TE8 V bt i rows y1 y2 y3 xa xc w)(hi:i<tl)(hi64:i<64)(hv:rows i= .slice va vl vc)(h2:w.cell? ⟨mb,2,none⟩=some (vL tb 0 tl tc))(h4:w.cell? ⟨tb,i*8+1,none⟩=some (.slice va vl vc))(nm:bt≠mb)(nt:bt≠tb)(om:(Value.slice xa i xc).ownBlock≠some mb)(ot:(Value.slice xa i xc).ownBlock≠some tb){A:Array Value}(hA:G0 162 A [(0,vP mb 0),(1,x1),(2,x2),(3,x3),(8,x8),(9,x9),(16,vP bt 0),(17,vI i)]):
 r8pr37.wp Try.prog (F7 fun a u=>a.defers=[]∧G0 162 a.tmps [(0,vP mb 0),(1,x1),(2,x2),(3,x3),(8,x8),(9,x9),(16,vP bt 0),(17,vI i)]∧∃xa' xc',TE8 V bt (i+1) rows y1 y2 y3 xa' xc' u) ⟨A,[]⟩ w:=by
 obtain⟨i0,z0,hi0,hz0,hz1,hz2,hz3⟩:=s0w
 have E:Aside (TE8 V bt i rows y1 y2 y3 xa xc w∧rows i= .slice va vl vc):=⟨h,hv⟩
 have q2:(i:Int)<(tl:Int):=by omega
 have hrow1:=h.row
 have t1:w.cell? ⟨bt,0,none⟩=some (.slice xa i xc):=by have:=h.blk;simp[World.cell?,this]
 have zt:w.frozen? ⟨bt,0,none⟩=false:=by have:=h.blk;simp[World.frozen?,this]
 have hbl:bt<w.heap.size:=by have:=h.lt;have:=h.size;omega
 have hml:mb<w.heap.size:=by obtain⟨c,e,z,h⟩:=M3 h2;exact(Q3 h)
 have htl:tb<w.heap.size:=by obtain⟨c,e,z,h⟩:=M3 h4;exact(Q3 h)
 have hba:some bt≠(Value.slice xa i xc).ownBlock:=fun e=>by obtain⟨c,hc⟩:=X1 h.row e.symm;rw[h.blk]at hc;cases hc
 have hma:some mb≠(Value.slice xa i xc).ownBlock:=fun e=>om e.symm
 have hta:some tb≠(Value.slice xa i xc).ownBlock:=fun e=>ot e.symm
 clear h hv hi om ot
 obtain⟨s,rfl,k0,k1,k2,k3,k8,k9,k16,k17,_⟩:=O3 hA
 simp only[r8pr37,i2,pC,Try.f51,Option.getD_some,i5,k0,k1,k2,k3,k8,k9,k16,k17]
 clear k0 k1 k2 k3 k8 k9 k16 k17
 rw[← f0U 29 (.tmp 148)]
 go_region_held3 (fun u:World=>u.cell? ⟨mb,2,none⟩=some (vL tb 0 tl tc)∧u.cell? ⟨tb,i*8+1,none⟩=some (.slice va vl vc))
  (first|exact⟨h2,h4⟩|exact⟨(O0 h2 _).1,(O0 h4 _).1⟩|exact SQ.out|exact⟨(L2 nm).trans SQ.out.1,(L2 nt).trans SQ.out.2⟩|go_keep)
  (first|(refine O4 rfl (.tmp 149) (.tmp 158) 29 rfl 42 i0 z0 1 24 Try.underlying29 hi0 hz0 hz1 hz2 hz3 (by decide) (.slice xa i xc) i ((List.range i).map rows) (by simp[Act.eval,Act.put]) ((show w.drew.ownsRow 0 42 1 _ _ _ from hrow1).alloc _) ⟨w.heap.size,0,none⟩ 1 1 [.slice va vl vc] (by simp[Act.eval,Act.put]) rfl (N4 (X:=w.drew) (l:=[.slice va vl vc]) rfl) (by intro u hu;simp at hu;subst hu;rfl) (by unfold maxLen;omega) (by omega) ?_;intro v' w3 hown hgrow hfr;obtain⟨g1,cap1,rfl⟩:=j5 hown;have hk1:=M2 (W:=w.drew) hgrow (r:=bt) hbl hba;have hk2:=M2 (W:=w.drew) hgrow (r:=mb) hml hma;have hk3:=M2 (W:=w.drew) hgrow (r:=tb) htl hta;have k0:=(F1 (j:=0) hk1).1.trans t1;have z0':=(F1 (j:=0) hk1).2.trans zt;have SQ:Aside (w3.cell? ⟨mb,2,none⟩=some (vL tb 0 tl tc)∧w3.cell? ⟨tb,i*8+1,none⟩=some (.slice va vl vc)):=⟨(F1 (j:=2) hk2).1.trans h2,(F1 (j:=i*8+1) hk3).1.trans h4⟩;have F:Aside (w3.ownsRow 0 42 1 (Value.slice (some ⟨g1,0,none⟩) (i+1) cap1) (i+1) ((List.range i).map rows++[.slice va vl vc])∧(∀r,r<w.heap.size→some r≠(Value.slice xa i xc).ownBlock→w3.heap[r]? =w.heap[r]?)∧w.heap.size≤w3.heap.size∧((Value.slice (some ⟨g1,0,none⟩) (i+1) cap1).ownBlock=(Value.slice xa i xc).ownBlock∨∃g',(Value.slice (some ⟨g1,0,none⟩) (i+1) cap1).ownBlock=some g'∧w.heap.size≤g')):=⟨hown,fun r hr hn=>M2 (W:=w.drew) hgrow hr hn,Nat.le_trans (by simp[World.drew]) hgrow.size,hfr.imp id fun⟨g',h1,h2⟩=>⟨g',h1,Nat.le_trans (by simp[World.drew]) h2⟩⟩;clear hown hgrow hfr hk1 hk2 hk3))
 all_goals(
  go_wp2
  obtain⟨f1,f2,f3,f4⟩:=F.out
  rw[← E.out.2]at f1
  obtain⟨xa',xc',e,h5⟩:=E.out.1.more (w1:=w3) f1 f2 f3 f4 (u':=w3.setCell ⟨bt,0,none⟩ (Value.slice (some ⟨g1,0,none⟩) (i+1) cap1)) rfl
  exact⟨rfl,⟨rfl,rfl,rfl,rfl,rfl,rfl,rfl,rfl,rfl,trivial⟩,xa',xc',h5.heap rfl⟩)
end
section
section
variable{Wp w W u u0:World}{N:Nat→Prop}{n tb o tl tc sc M mb t8 b0:Nat}{ta sa:Option Addr}{oa:Nat→Option Addr}{ol oc:Nat→Nat}{ops:Nat→List P3}{S:List Int}{g0:GS SPl}
theorem e0J{m:Pl}{ops:Nat→List P3}{s0:GS m}:∀(i j:Nat),i≤j→(N6 m ops i s0).th j=s0.th j
 | 0,j,_=>rfl
 | i+1,j,h=>by
   have e:∀(g:GS m) r,(g.put i r).th j=g.th j:=fun g r=>by simp only[GS.put];rw[if_neg (by omega)]
   simp only[N6]
   rw[e]
   exact e0J i j (by omega)
theorem s0G(hI:y6 Wp N n tb o tl ta oa ol oc ops S sa)(hb:b0=Wp.heap.size)(hu:∀r,r<b0→u.heap[r]? =Wp.heap[r]?){j:Nat}(hj:j<n):b0O u b0 (.slice (oa j) (min (ol j) 65536) (oc j)) (ops j):=by
 subst hb
 have hl:=hI.hlen j hj
 refine⟨⟨oa j,oc j,by rw[hl]⟩,fun k x hx=>?_⟩
 obtain⟨opb,oo,h1,h2,f0,f1,f2,f3,_⟩:=hI.hop j hj k x hx
 have hlt:opb<Wp.heap.size:=by obtain⟨c,e,z,h⟩:=M3 f0;exact(Q3 h)
 have e:∀i,u.cell? ⟨opb,i,none⟩=Wp.cell? ⟨opb,i,none⟩:=fun i=>by simp only[World.cell?,hu opb hlt]
 exact⟨opb,oo,oc j,by rw[h1,hl],(List.getElem?_eq_some_iff.1 hx).1,hlt,(e _).trans f0,(e _).trans f1,(e _).trans f2,(e _).trans f3⟩
theorem u9.low{k:Nat}{g:GS SPl}{order:List Nat}{ov:Value}(h:u9 W b0 mb k ops g order ov u)(hb:b0=Wp.heap.size)(hW:∀r,r<b0→W.heap[r]? =Wp.heap[r]?):∀r,r<b0→u.heap[r]? =Wp.heap[r]?:=fun r hr=>(h.st.o r hr).trans (hW r hr)
theorem u9.cells{k:Nat}{g:GS SPl}{order:List Nat}{ov:Value}(h:u9 W b0 mb k ops g order ov u){i:Nat}(hi:i<k):∃tb tc p,u.cell? ⟨mb,2,none⟩=some (vL tb 0 k tc)∧u.cell? ⟨tb,i*8+4,none⟩=some (vI (p:Nat))∧(p≠0↔g.live i=true):=by
 obtain⟨⟨B,ts,rfl,hS⟩,_⟩:=h
 obtain⟨t,ht⟩:∃t,ts[i]? =some t:=⟨_,List.getElem?_eq_getElem (by rw[hS.n];exact hi)⟩
 obtain⟨tb,tc,htv,m0,m1,m2,zm,t0,t1,t3,t4,t5,t6,t7,zt,mt,wt,htb⟩:=hS.A.fx ht
 rw[hS.n]at m2
 exact⟨tb,tc,t.pc,m2,t4,hS.pc ht⟩
theorem n0W(hI:y6 Wp N n tb o tl ta oa ol oc ops S sa)(hb:b0=Wp.heap.size)(hW:∀r,r<b0→W.heap[r]? =Wp.heap[r]?)(h0:∀j,g0.th j=⟨0,none,[]⟩)(hR:u9 W b0 mb 0 ops g0 [] (.slice none 0 0) u0){A:Array Value}(hA:G0 162 A [(0,vP mb 0),(1,.slice ta tl tc),(2,.slice sa S.length sc),(3,vI M),(8,vP t8 0),(9,vI n)]):
 r8ps9.wp Try.prog (F7 fun a u=>a.defers=[]∧G0 162 a.tmps [(0,vP mb 0),(1,.slice ta tl tc),(2,.slice sa S.length sc),(3,vI M),(8,vP t8 0),(9,vI n)]∧u9 W b0 mb n ops (N6 SPl ops n g0) [] (.slice none 0 0) u) ⟨A,[]⟩ u0:=by
 have hn64:n≤64:=by have:=hI.hn;omega
 have hntl:n≤tl:=by have:=hI.hn;omega
 rw[y0A]
 refine D7 (C0s hA) fun A u1 ⟨_,hS,hu⟩=>?_
 rw[y0j,s0V,s00,s01,s0S]
 refine a9 (I:=fun g a u=>a.defers=[]∧∃i:Nat,i≤n∧g=n - i∧G0 162 a.tmps [(0,vP mb 0),(1,.slice ta tl tc),(2,.slice sa S.length sc),(3,vI M),(8,vP t8 0),(9,vI n),(10,vI i)]∧u9 W b0 mb i ops (N6 SPl ops i g0) [] (.slice none 0 0) u)
  (J:=fun g a u=>a.defers=[]∧∃i:Nat,i<n∧g=n - i∧G0 162 a.tmps [(0,vP mb 0),(1,.slice ta tl tc),(2,.slice sa S.length sc),(3,vI M),(8,vP t8 0),(9,vI n),(10,vI i)]∧u9 W b0 mb i ops (N6 SPl ops i g0) [] (.slice none 0 0) u)
  (fun g a u ⟨hd,i,h1,h2,hS,hR⟩=>?_) (fun g a u ⟨hd,i,h1,h2,hS,hR⟩=>?_) (g:=n) ⟨rfl,0,Nat.zero_le _,rfl,hS,hR.heap hu⟩
 ·rw[d9 hd]
  refine pm8 (C0t hS) fun a u' ⟨hd,⟨hsz,s0,s1,s2,s3,s8,s9,s10,s28,_⟩,hu⟩=>?_
  by_cases hi:i<n
  ·exact .inl ⟨by rw[s28,decide_eq_true (by omega)],hd,i,hi,h2,⟨hsz,s0,s1,s2,s3,s8,s9,s10,trivial⟩,hR.heap hu⟩
  ·obtain rfl:i=n:=by omega
   exact .inr ⟨by rw[s28,decide_eq_false (by omega)],hd,⟨hsz,s0,s1,s2,s3,s8,s9,trivial⟩,hR.heap hu⟩
 ·rw[d9 hd,s02]
  refine D7 (R:=fun a u=>a.defers=[]∧G0 162 a.tmps [(0,vP mb 0),(1,.slice ta tl tc),(2,.slice sa S.length sc),(3,vI M),(8,vP t8 0),(9,vI n),(10,vI i)]∧u9 W b0 mb (i+1) ops (N6 SPl ops (i+1) g0) [] (.slice none 0 0) u) ?_ fun A u' ⟨_,hS,hR⟩=>
   pm8 (y0B (by omega) hS) fun a u'' ⟨hd,hS,hu⟩=>⟨n - (i+1),by omega,hd,i+1,h1,rfl,hS,hR.heap hu⟩
  rw[y0k,s03,s04,s05]
  have hta:=hI.hta (by omega)
  have htb:=hI.htb (by omega)
  obtain⟨c1,_,c2⟩:=hI.hth i h1
  have hlow:=hR.low hb hW
  have c1:u.cell? ⟨tb,o+i,none⟩=some (.slice (oa i) (ol i) (oc i)):=by
   rw[← c1]
   simp only[World.cell?]
   rw[hlow tb (by omega)]
  have hth:(N6 SPl ops i g0).th i=⟨0,none,[]⟩:=(e0J i i (Nat.le_refl _)).trans (h0 i)
  have hol:(ops i).length≤65536:=by rw[hI.hlen i h1];omega
  have hoa:65536<ol i→∃ob oo,oa i=some ⟨ob,oo,none⟩:=fun hx=>by
   obtain⟨opb,oo,h1,_⟩:=hI.hop i h1 0 ((ops i)[0]'(by rw[hI.hlen i h1];omega)) (List.getElem?_eq_getElem _)
   exact⟨opb,oo,h1⟩
  have hO:=s0G hI hb hlow h1
  obtain⟨⟨B',ts,hmb,hS8⟩,hst,_,_,hbw⟩:=hR
  subst hta
  subst hmb
  refine o0y (D7 (y0C (by omega) c1 hS) fun A u1 ⟨_,hS,hu1⟩=>D7 (y0D c2 hoa hS) fun A u2 ⟨_,hS,hu2⟩=>?_)
  have e2:u2.heap=u.heap:=hu2.trans hu1
  have hS8':=hS8.heap e2
  refine D7 (y0E hS8'.A hS8.n (by omega) hS) fun A u3 ⟨_,hS,⟨v',hA3⟩,hst3⟩=>?_
  have hB:z0M W b0 B'.mb i ops (N6 SPl ops i g0) u3:=⟨⟨{B' with tv:=v'},ts,_,rfl,hA3,fun j t hj=>⟨(hS8'.T j t hj).1,(hS8'.T j t hj).2.stay hst3⟩,hS8.n,(hO.stay ((D2.refl _ _).heap e2)).stay hst3,hS8.L⟩,(hst.heap e2).trans hst3,hbw⟩
  refine pm8 (y0F (h06 hB hol hth) (let⟨hsz,s0,s1,s2,s3,s8,s9,s10,s11,_⟩:=hS;⟨hsz,s0,s1,s2,s3,s8,s9,s10,trivial⟩)) fun a u4 ⟨hd,hS,v,hv,hR⟩=>⟨hd,hS,?_⟩
  have hR:u9 W b0 B'.mb (i+1) ops (N6 SPl ops (i+1) g0) [] (.slice none 0 0) v:=hR
  exact hR.heap hv.symm
section
variable{gs:GS SPl}{order:List Nat}
theorem f09{m:Pl}{ops:Nat→List P3}{n M:Nat}{s:GS m×List Nat}(h:s.2.length≤M)(i:Int):(V7 ops n M s i).2.length≤M:=by
 unfold V7
 split
 ·rename_i hc
  have:=hc.2.2.2
  simp only[List.length_append,List.length_cons,List.length_nil]
  omega
 ·exact h
end
theorem q0h(hI:y6 Wp N n tb o tl ta oa ol oc ops S sa)(hb:b0=Wp.heap.size)(hW:∀r,r<b0→W.heap[r]? =Wp.heap[r]?)(hM:M≤1048576){G:GS SPl}(hR:u9 W b0 mb n ops G [] (.slice none 0 0) u0){A:Array Value}(hA:G0 162 A [(0,vP mb 0),(1,.slice ta tl tc),(2,.slice sa S.length sc),(3,vI M),(8,vP t8 0),(9,vI n),(12,.slice none 0 0)]):
 r8ps20.wp Try.prog (F7 fun a u=>a.defers=[]∧∃gs order oa' oc',G0 162 a.tmps [(0,vP mb 0),(1,.slice ta tl tc),(2,.slice sa S.length sc),(3,vI M),(8,vP t8 0),(9,vI n),(12,.slice oa' order.length oc')]∧u9 W b0 mb n ops gs order (.slice oa' order.length oc') u∧order.length≤M∧(gs,order)=U4 ops n M S (G,[])) ⟨A,[]⟩ u0:=by
 have hn64:n≤64:=by have:=hI.hn;omega
 have hol:∀j,j<n→(ops j).length≤65536:=fun j hj=>by rw[hI.hlen j hj];omega
 rw[s08]
 refine D7 (y0H hA) fun A u1 ⟨_,hS,hu⟩=>?_
 rw[y0l,s0W,s09,t0a,s0T]
 refine a9 (I:=fun g a u=>a.defers=[]∧∃(k:Nat) (gs:GS SPl) (order:List Nat) (oa':Option Addr) (oc':Nat),k≤S.length∧g=S.length - k∧G0 162 a.tmps [(0,vP mb 0),(1,.slice ta tl tc),(2,.slice sa S.length sc),(3,vI M),(8,vP t8 0),(9,vI n),(12,.slice oa' order.length oc'),(13,vI k)]∧u9 W b0 mb n ops gs order (.slice oa' order.length oc') u∧order.length≤M∧U4 ops n M (S.drop k) (gs,order)=U4 ops n M S (G,[]))
  (J:=fun g a u=>a.defers=[]∧∃(k:Nat) (gs:GS SPl) (order:List Nat) (oa':Option Addr) (oc':Nat),k<S.length∧g=S.length - k∧G0 162 a.tmps [(0,vP mb 0),(1,.slice ta tl tc),(2,.slice sa S.length sc),(3,vI M),(8,vP t8 0),(9,vI n),(12,.slice oa' order.length oc'),(13,vI k)]∧u9 W b0 mb n ops gs order (.slice oa' order.length oc') u∧order.length<M∧U4 ops n M (S.drop k) (gs,order)=U4 ops n M S (G,[]))
  (fun g a u ⟨hd,k,gs,order,oa',oc',h1,h2,hS,hR,hm,hg⟩=>?_) (fun g a u ⟨hd,k,gs,order,oa',oc',h1,h2,hS,hR,hm,hg⟩=>?_) (g:=S.length) ⟨rfl,0,G,[],none,0,Nat.zero_le _,rfl,hS,hR.heap hu,Nat.zero_le _,rfl⟩
 ·rw[d9 hd]
  refine pm8 (y0I hS) fun a u' ⟨hd,⟨hS,b,h64,hb⟩,hu⟩=>?_
  by_cases hc:k<S.length∧order.length<M
  ·have hbt:b=true:=hb.2 ⟨by omega,by omega⟩
   subst hbt
   exact .inl ⟨h64,hd,k,gs,order,oa',oc',hc.1,h2,hS,hR.heap hu,hc.2,hg⟩
  ·have hbf:b=false:=by
    cases b with
    | false=>rfl
    | true=>have:=hb.1 rfl;omega
   subst hbf
   obtain⟨hsz,s0,s1,s2,s3,s8,s9,s12,s13,_⟩:=hS
   refine .inr ⟨h64,hd,gs,order,oa',oc',⟨hsz,s0,s1,s2,s3,s8,s9,s12,trivial⟩,hR.heap hu,hm,?_⟩
   rw[← hg]
   by_cases hk:k<S.length
   ·exact(a0L _ _ (by simp only;omega)).symm
   ·rw[List.drop_eq_nil_of_le (by omega)]
    rfl
 ·rw[d9 hd,t0b]
  obtain⟨x,hx⟩:∃x,S[k]? =some x:=⟨_,List.getElem?_eq_getElem h1⟩
  have hdrop:U4 ops n M (S.drop k) (gs,order)=U4 ops n M (S.drop (k+1)) (V7 ops n M (gs,order) x):=by
   obtain⟨hlt,e⟩:=List.getElem?_eq_some_iff.1 hx
   rw[List.drop_eq_getElem_cons hlt,e]
   rfl
  rw[hdrop]at hg
  obtain⟨sb,so,c,ee,z,e1,_,e3,e4⟩:=hI.hS (by omega)
  have hlow:=hR.low hb hW
  have c1:u.cell? ⟨sb,so+k,none⟩=some (vI x):=by
   have h5:=(e4 k (vI x) (by rw[List.getElem?_map,hx];rfl)).1
   have hsb:=(Q3 e3)
   simp only[World.cell?]
   rw[hlow sb (by omega),e3]
   simpa using h5
  subst e1
  refine D7 (R:=fun a u=>a.defers=[]∧∃gs' order' oa' oc',G0 162 a.tmps [(0,vP mb 0),(1,.slice ta tl tc),(2,vL sb so S.length sc),(3,vI M),(8,vP t8 0),(9,vI n),(12,.slice oa' order'.length oc'),(13,vI k)]∧u9 W b0 mb n ops gs' order' (.slice oa' order'.length oc') u∧(gs',order')=V7 ops n M (gs,order) x) ?_ fun A u' ⟨_,gs',order',oa',oc',hS,hR,he⟩=>
   pm8 (y0J (by have:=hI.hsl;omega) hS) fun a u'' ⟨hd,hS,hu⟩=>⟨S.length - (k+1),by omega,hd,k+1,gs',order',oa',oc',h1,rfl,hS,hR.heap hu,by
    have h6:=f09 (ops:=ops) (n:=n) (M:=M) (s:=(gs,order)) (Nat.le_of_lt hm) x
    rw[← he]at h6
    exact h6,by rw[he];exact hg⟩
  rw[y0m,t0c,t0d,s0U]
  refine o0y (D7 (y0K h1 c1 hS) fun A u1 ⟨_,hS,hu1⟩=>?_)
  have hR:=hR.heap hu1
  by_cases hc:0≤x∧x<(n:Int)
  ·obtain⟨i,rfl⟩:∃i:Nat,x=i:=⟨x.toNat,by omega⟩
   have hin:i<n:=by omega
   obtain⟨tb2,tc2,p,m2,t4,hp⟩:=hR.cells hin
   refine D7 (t0y rfl hin hin m2 t4 hS) fun A u2 ⟨_,⟨hsz,s0,s1,s2,s3,s8,s9,s12,s13,s14,s88,_⟩,hu2⟩=>?_
   have hR:=hR.heap hu2
   by_cases hl:gs.live i=true
   ·have hpp:=hp.2 hl
    refine wp_cond (t:=true) (by rw[show Act.eval ⟨A,[]⟩ (.tmp 88)=A.getD 88 undef from rfl,s88,decide_eq_true (by omega)]) ?_
    rw[t0e,t0f]
    refine D7 (y0L (i:=i) hR (by omega) ⟨hsz,s0,s1,s2,s3,s8,s9,s12,s13,s14,trivial⟩) fun A u3 ⟨_,oa2,oc2,hS,hR⟩=>?_
    have hll:(order++[i]).length=order.length+1:=by simp
    rw[← hll]at hS hR
    refine D7 (y0M (f0q hR hin hl hol) hS) fun A u4 ⟨_,hS,v,hv,hMd⟩=>?_
    have hMd:j0N W b0 mb n ops gs (order++[i]) _ i u4:=hMd.heap hv.symm
    refine pm8 (y0N (c0K hMd hin hol) hS) fun a u5 ⟨hd,⟨hsz,s0,s1,s2,s3,s8,s9,s12,s13,s14,_⟩,v2,hv2,hR⟩=>⟨hd,_,_,oa2,oc2,⟨hsz,s0,s1,s2,s3,s8,s9,s12,s13,trivial⟩,hR.heap hv2.symm,?_⟩
    rw[i0M hin hl (by omega)]
   ·have hpp:¬p≠0:=fun h=>hl (hp.1 h)
    refine wp_cond (t:=false) (by rw[show Act.eval ⟨A,[]⟩ (.tmp 88)=A.getD 88 undef from rfl,s88,decide_eq_false (by omega)]) (wp_skip ?_)
    refine⟨rfl,gs,order,oa',oc',⟨hsz,s0,s1,s2,s3,s8,s9,s12,s13,trivial⟩,hR,?_⟩
    rw[e0K (fun h=>hl (by simpa using h.2.2))]
  ·have key:r8pr21.wp Try.prog (F7 fun a u=>a.defers=[]∧G0 162 a.tmps [(0,vP mb 0),(1,.slice ta tl tc),(2,vL sb so S.length sc),(3,vI M),(8,vP t8 0),(9,vI n),(12,.slice oa' order.length oc'),(13,vI k),(14,vI x),(88,.bool false)]∧u.heap=u1.heap) ⟨A,[]⟩ u1:=by
    by_cases h0:x<0
    ·exact t0w h0 hS
    ·exact t0x (by omega) (by omega) hS
   refine D7 key fun A u2 ⟨_,⟨hsz,s0,s1,s2,s3,s8,s9,s12,s13,s14,s88,_⟩,hu2⟩=>?_
   refine wp_cond (t:=false) s88 (wp_skip ?_)
   refine⟨rfl,gs,order,oa',oc',⟨hsz,s0,s1,s2,s3,s8,s9,s12,s13,trivial⟩,hR.heap hu2,?_⟩
   rw[e0K fun h=>hc ⟨h.1,h.2.1⟩]
def e0I(n:Nat):List Int:=(List.range n).map fun j:Nat=>(j:Int)
theorem q0g(hI:y6 Wp N n tb o tl ta oa ol oc ops S sa)(hb:b0=Wp.heap.size)(hW:∀r,r<b0→W.heap[r]? =Wp.heap[r]?)(hM:M≤1048576){gs:GS SPl}{order:List Nat}{oa1:Option Addr}{oc1:Nat}(hl0:0<L5 gs.live n)(hm0:order.length<M)(hR:u9 W b0 mb n ops gs order (.slice oa1 order.length oc1) u0){A:Array Value}(hA:G0 162 A [(0,vP mb 0),(1,.slice ta tl tc),(2,.slice sa S.length sc),(3,vI M),(8,vP t8 0),(9,vI n),(12,.slice oa1 order.length oc1)]):
 r8pb5.wp Try.prog (F7 fun a u=>a.defers=[]∧∃gs' order' oa' oc',G0 162 a.tmps [(0,vP mb 0),(1,.slice ta tl tc),(2,.slice sa S.length sc),(3,vI M),(8,vP t8 0),(9,vI n),(12,.slice oa' order'.length oc')]∧u9 W b0 mb n ops gs' order' (.slice oa' order'.length oc') u∧order'.length≤M∧order.length<order'.length∧(gs',order')=U4 ops n M (e0I n) (gs,order)) ⟨A,[]⟩ u0:=by
 have hn64:n≤64:=by have:=hI.hn;omega
 have hol:∀j,j<n→(ops j).length≤65536:=fun j hj=>by rw[hI.hlen j hj];omega
 have hgl:(e0I n).length=n:=by simp[e0I]
 rw[y0o,t0j]
 refine o0y (D7 (y0P hA) fun A u1 ⟨_,hS,hu⟩=>?_)
 rw[y0p,s0Y,t0k,t0l,q0r]
 refine a9 (I:=fun g a u=>a.defers=[]∧∃(k:Nat) (gs':GS SPl) (order':List Nat) (oa':Option Addr) (oc':Nat),k≤n∧g=n - k∧G0 162 a.tmps [(0,vP mb 0),(1,.slice ta tl tc),(2,.slice sa S.length sc),(3,vI M),(8,vP t8 0),(9,vI n),(12,.slice oa' order'.length oc'),(15,vI k)]∧u9 W b0 mb n ops gs' order' (.slice oa' order'.length oc') u∧order'.length≤M∧U4 ops n M ((e0I n).drop k) (gs',order')=U4 ops n M (e0I n) (gs,order)∧(order.length<order'.length∨((gs',order')=(gs,order)∧∀j,j<k→gs.live j=false)))
  (J:=fun g a u=>a.defers=[]∧∃(k:Nat) (gs':GS SPl) (order':List Nat) (oa':Option Addr) (oc':Nat),k<n∧g=n - k∧G0 162 a.tmps [(0,vP mb 0),(1,.slice ta tl tc),(2,.slice sa S.length sc),(3,vI M),(8,vP t8 0),(9,vI n),(12,.slice oa' order'.length oc'),(15,vI k)]∧u9 W b0 mb n ops gs' order' (.slice oa' order'.length oc') u∧order'.length<M∧U4 ops n M ((e0I n).drop k) (gs',order')=U4 ops n M (e0I n) (gs,order)∧(order.length<order'.length∨((gs',order')=(gs,order)∧∀j,j<k→gs.live j=false)))
  (fun g a u ⟨hd,k,gs',order',oa',oc',h1,h2,hS,hR,hm,hg,hpr⟩=>?_) (fun g a u ⟨hd,k,gs',order',oa',oc',h1,h2,hS,hR,hm,hg,hpr⟩=>?_) (g:=n) ⟨rfl,0,gs,order,oa1,oc1,Nat.zero_le _,rfl,hS,hR.heap hu,Nat.le_of_lt hm0,rfl,.inr ⟨rfl,fun j hj=>by omega⟩⟩
 ·rw[d9 hd]
  refine pm8 (y0Q hS) fun a u' ⟨hd,⟨hS,b,h64,hb⟩,hu⟩=>?_
  by_cases hc:k<n∧order'.length<M
  ·have hbt:b=true:=hb.2 ⟨by omega,by omega⟩
   subst hbt
   exact .inl ⟨h64,hd,k,gs',order',oa',oc',hc.1,h2,hS,hR.heap hu,hc.2,hg,hpr⟩
  ·have hbf:b=false:=by
    cases b with
    | false=>rfl
    | true=>have:=hb.1 rfl;omega
   subst hbf
   obtain⟨hsz,s0,s1,s2,s3,s8,s9,s12,s15,_⟩:=hS
   refine .inr ⟨h64,hd,gs',order',oa',oc',⟨hsz,s0,s1,s2,s3,s8,s9,s12,trivial⟩,hR.heap hu,hm,?_,?_⟩
   ·rcases hpr with hpr|⟨e,hz⟩
    ·exact hpr
    ·simp only[Prod.mk.injEq]at e
     obtain⟨rfl,rfl⟩:=e
     have hk:k=n:=by omega
     subst hk
     have:=a0I.2 hz
     omega
   ·rw[← hg]
    by_cases hk:k<n
    ·exact(a0L _ _ (by simp only;omega)).symm
    ·rw[List.drop_eq_nil_of_le (by omega)]
     rfl
 ·rw[d9 hd,t0m]
  have hx:(e0I n)[k]? =some (k:Int):=by simp[e0I,h1]
  have hdrop:U4 ops n M ((e0I n).drop k) (gs',order')=U4 ops n M ((e0I n).drop (k+1)) (V7 ops n M (gs',order') k):=by
   obtain⟨hlt,e⟩:=List.getElem?_eq_some_iff.1 hx
   rw[List.drop_eq_getElem_cons hlt,e]
   rfl
  rw[hdrop]at hg
  refine D7 (R:=fun a u=>a.defers=[]∧∃gs2 order2 oa' oc',G0 162 a.tmps [(0,vP mb 0),(1,.slice ta tl tc),(2,.slice sa S.length sc),(3,vI M),(8,vP t8 0),(9,vI n),(12,.slice oa' order2.length oc'),(15,vI k)]∧u9 W b0 mb n ops gs2 order2 (.slice oa' order2.length oc') u∧(gs2,order2)=V7 ops n M (gs',order') k∧(order.length<order2.length∨((gs2,order2)=(gs,order)∧∀j,j<k+1→gs.live j=false))) ?_ fun A u' ⟨_,gs2,order2,oa',oc',hS,hR,he,hpr⟩=>
   pm8 (y0R (by omega) hS) fun a u'' ⟨hd,hS,hu⟩=>⟨n - (k+1),by omega,hd,k+1,gs2,order2,oa',oc',h1,rfl,hS,hR.heap hu,by
    have h6:=f09 (ops:=ops) (n:=n) (M:=M) (s:=(gs',order')) (Nat.le_of_lt hm) k
    rw[← he]at h6
    exact h6,by rw[he];exact hg,hpr⟩
  rw[y0q,t0n,q0s]
  obtain⟨tb2,tc2,p,m2,t4,hp⟩:=hR.cells h1
  refine o0y (D7 (y0S h1 m2 t4 hS) fun A u1 ⟨_,⟨hsz,s0,s1,s2,s3,s8,s9,s12,s15,s126,_⟩,hu1⟩=>?_)
  have hR:=hR.heap hu1
  by_cases hl:gs'.live k=true
  ·have hpp:=hp.2 hl
   refine wp_cond (t:=true) (by rw[show Act.eval ⟨A,[]⟩ (.tmp 126)=A.getD 126 undef from rfl,s126,decide_eq_true (by omega)]) ?_
   rw[t0o,t0p]
   refine D7 (y0T (i:=k) hR (by omega) ⟨hsz,s0,s1,s2,s3,s8,s9,s12,s15,trivial⟩) fun A u3 ⟨_,oa2,oc2,hS,hR⟩=>?_
   have hll:(order'++[k]).length=order'.length+1:=by simp
   rw[← hll]at hS hR
   refine D7 (y0U (f0q hR h1 hl hol) hS) fun A u4 ⟨_,hS,v,hv,hMd⟩=>?_
   have hMd:j0N W b0 mb n ops gs' (order'++[k]) _ k u4:=hMd.heap hv.symm
   refine pm8 (y0V (c0K hMd h1 hol) hS) fun a u5 ⟨hd,hS,v2,hv2,hR⟩=>⟨hd,_,_,oa2,oc2,hS,hR.heap hv2.symm,?_,.inl ?_⟩
   ·rw[i0M h1 hl (by omega)]
   ·rw[List.length_append,List.length_singleton]
    rcases hpr with hpr|⟨e,_⟩
    ·omega
    ·simp only[Prod.mk.injEq]at e
     rw[e.2]
     omega
  ·have hpp:¬p≠0:=fun h=>hl (hp.1 h)
   refine wp_cond (t:=false) (by rw[show Act.eval ⟨A,[]⟩ (.tmp 126)=A.getD 126 undef from rfl,s126,decide_eq_false (by omega)]) (wp_skip ?_)
   refine⟨rfl,gs',order',oa',oc',⟨hsz,s0,s1,s2,s3,s8,s9,s12,s15,trivial⟩,hR,?_,?_⟩
   ·rw[e0K (fun h=>hl (by simpa using h.2.2))]
   ·rcases hpr with hpr|⟨e,hz⟩
    ·exact .inl hpr
    ·refine .inr ⟨e,fun j hj=>?_⟩
     by_cases hjk:j=k
     ·subst hjk
      simp only[Prod.mk.injEq]at e
      rw[← e.1]
      simpa using hl
     ·exact hz j (by omega)
theorem n0X(hI:y6 Wp N n tb o tl ta oa ol oc ops S sa)(hb:b0=Wp.heap.size)(hW:∀r,r<b0→W.heap[r]? =Wp.heap[r]?)(hM:M≤1048576){gs:GS SPl}{order:List Nat}{oa1:Option Addr}{oc1:Nat}(hm0:order.length≤M)(hR:u9 W b0 mb n ops gs order (.slice oa1 order.length oc1) u0){A:Array Value}(hA:G0 162 A [(0,vP mb 0),(1,.slice ta tl tc),(2,.slice sa S.length sc),(3,vI M),(8,vP t8 0),(9,vI n),(12,.slice oa1 order.length oc1)]):
 r8pb4.wp Try.prog (F7 fun a u=>a.defers=[]∧∃gs' order' oa' oc',G0 162 a.tmps [(0,vP mb 0),(1,.slice ta tl tc),(2,.slice sa S.length sc),(3,vI M),(8,vP t8 0),(9,vI n),(12,.slice oa' order'.length oc')]∧u9 W b0 mb n ops gs' order' (.slice oa' order'.length oc') u∧order'.length≤M∧g7 n M (gs',order')∧∃k,∀f,Z3 ops n M (f+k) (gs,order)=Z3 ops n M f (gs',order')) ⟨A,[]⟩ u0:=by
 have hn64:n≤64:=by have:=hI.hn;omega
 rw[y0n,s0X,t0h,t0i,q0q]
 refine a9 (I:=fun g a u=>a.defers=[]∧∃(gs':GS SPl) (order':List Nat) (oa':Option Addr) (oc':Nat),g=M - order'.length∧G0 162 a.tmps [(0,vP mb 0),(1,.slice ta tl tc),(2,.slice sa S.length sc),(3,vI M),(8,vP t8 0),(9,vI n),(12,.slice oa' order'.length oc')]∧u9 W b0 mb n ops gs' order' (.slice oa' order'.length oc') u∧order'.length≤M∧∃k,∀f,Z3 ops n M (f+k) (gs,order)=Z3 ops n M f (gs',order'))
  (J:=fun g a u=>a.defers=[]∧∃(gs':GS SPl) (order':List Nat) (oa':Option Addr) (oc':Nat),g=M - order'.length∧G0 162 a.tmps [(0,vP mb 0),(1,.slice ta tl tc),(2,.slice sa S.length sc),(3,vI M),(8,vP t8 0),(9,vI n),(12,.slice oa' order'.length oc')]∧u9 W b0 mb n ops gs' order' (.slice oa' order'.length oc') u∧0<L5 gs'.live n∧order'.length<M∧∃k,∀f,Z3 ops n M (f+k) (gs,order)=Z3 ops n M f (gs',order'))
  (fun g a u ⟨hd,gs',order',oa',oc',h2,hS,hR,hm,hg⟩=>?_) (fun g a u ⟨hd,gs',order',oa',oc',h2,hS,hR,hl0,hm,hg⟩=>?_) (g:=M - order.length) ⟨rfl,gs,order,oa1,oc1,rfl,hA,hR,hm0,0,fun f=>rfl⟩
 ·rw[d9 hd]
  have hC:Calls Try.prog 85 #[vP mb 0] u fun e u'=>e= .returned (.bool (decide (0<L5 gs'.live n)))∧u'.heap=u.heap:=by
   obtain⟨⟨B',ts,rfl,hS8⟩,_⟩:=hR
   refine(u0R hS8.A (by rw[hS8.n];exact hn64)).mono fun e u' ⟨k1,k2⟩=>⟨?_,k2⟩
   rw[k1]
   simp only[hS8.left]
  refine pm8 (y0O hC hS) fun a u' ⟨hd,⟨hS,b,h64,hb⟩,hu⟩=>?_
  by_cases hc:0<L5 gs'.live n∧order'.length<M
  ·have hbt:b=true:=hb.2 ⟨decide_eq_true hc.1,by omega⟩
   subst hbt
   exact .inl ⟨h64,hd,gs',order',oa',oc',h2,hS,hR.heap hu,hc.1,hc.2,hg⟩
  ·have hbf:b=false:=by
    cases b with
    | false=>rfl
    | true=>have:=hb.1 rfl;simp only[decide_eq_true_eq]at this;omega
   subst hbf
   refine .inr ⟨h64,hd,gs',order',oa',oc',hS,hR.heap hu,hm,?_,hg⟩
   unfold g7
   simp only
   omega
 ·rw[d9 hd]
  refine pm8 (q0g hI hb hW hM hl0 hm hR hS) fun a u' ⟨hd,gs2,order2,oa2,oc2,hS,hR,hm2,hlt,he⟩=>?_
  obtain⟨k,hk⟩:=hg
  refine⟨M - order2.length,by omega,hd,gs2,order2,oa2,oc2,rfl,hS,hR,hm2,k+1,fun f=>?_⟩
  rw[show f+(k+1)=(f+1)+k by omega,hk]
  simp only[Z3]
  rw[if_neg (fun h=>by unfold g7 at h;simp only at h;omega),he]
  rfl
end
end
section
theorem e0F{u W9:World}{t:Nat}{a b c d a' b' c' d':Value}(h:u.heap[t]? =some (.cells #[a,b,c,d] 31 (0,0)))(e:W9.heap=((((u.setCell ⟨t,0,none⟩ a').setCell ⟨t,1,none⟩ b').setCell ⟨t,2,none⟩ c').setCell ⟨t,3,none⟩ d').heap):
 W9.heap[t]? =some (.cells #[a',b',c',d'] 31 (0,0))∧∀r,r≠t→W9.heap[r]? =u.heap[r]?:=by
 have h0:(u.setCell ⟨t,0,none⟩ a').heap[t]? =some (.cells #[a',b,c,d] 31 (0,0)):=v5 h
 have h1:((u.setCell ⟨t,0,none⟩ a').setCell ⟨t,1,none⟩ b').heap[t]? =some (.cells #[a',b',c,d] 31 (0,0)):=v5 h0
 have h2:(((u.setCell ⟨t,0,none⟩ a').setCell ⟨t,1,none⟩ b').setCell ⟨t,2,none⟩ c').heap[t]? =some (.cells #[a',b',c',d] 31 (0,0)):=v5 h1
 have h3:((((u.setCell ⟨t,0,none⟩ a').setCell ⟨t,1,none⟩ b').setCell ⟨t,2,none⟩ c').setCell ⟨t,3,none⟩ d').heap[t]? =some (.cells #[a',b',c',d'] 31 (0,0)):=v5 h2
 refine⟨by rw[e];exact h3,fun r hr=>?_⟩
 rw[e,I0 _ _ _ (by exact hr),I0 _ _ _ (by exact hr),I0 _ _ _ (by exact hr),I0 _ _ _ (by exact hr)]
def p5(Wp:World)(ops:Nat→List P3)(n M:Nat)(S:List Int)(s0:GS SPl)(v:Value)(w':World):Prop:=
 ∃(s:GS SPl) (order:List Nat) (xa oa' sa':Option Addr) (xc oc' sc':Nat) (Y:Nat→List SA) (va:Nat→Option Addr) (vc:Nat→Nat),
  v= .agg #[.slice xa n xc,.slice oa' order.length oc',.slice sa' (R1.state s.q).length sc',.bool (decide (0<L5 s.live n))]∧g7 n M (s,order)∧(∃k,∀f,k≤f→a0K ops n M S f s0=(s,order))∧
  w'.ownsRow 0 3 1 (.slice oa' order.length oc') order.length (order.map fun i:Nat=>vI i)∧w'.ownsRow 0 2 1 (.slice sa' (R1.state s.q).length sc') (R1.state s.q).length ((R1.state s.q).map fun v=>vI v)∧
  w'.ownsRow 0 42 1 (.slice xa n xc) n ((List.range n).map fun i=>.slice (va i) (Y i).length (vc i))∧(∀i,i<n→w'.ownsRow 0 44 3 (.slice (va i) (Y i).length (vc i)) (Y i).length (e9 (Y i))∧(Y i).map SA.an=(s.th i).ans∧∀a∈Y i,SAU a w')∧(∀r,r<Wp.heap.size→w'.heap[r]? =Wp.heap[r]?)∧Wp.heap.size≤w'.heap.size∧(R1.state s.q).length≤17∧∀(i:Nat),∀a∈GT.ans (s.th i),(a:SAn).2.2.length≤17
theorem p5.kept{Wp u u':World}{ops:Nat→List P3}{n M t:Nat}{S:List Int}{s0:GS SPl}{v:Value}(h:p5 Wp ops n M S s0 v u)(ht:∃c,u.heap[t]? =some (.cells c 31 (0,0)))(hk:∀r,r≠t→u'.heap[r]? =u.heap[r]?)(hs:u.heap.size≤u'.heap.size){Wq:World}(hq:∀r,r<Wq.heap.size→r≠t∧r<Wp.heap.size∧Wp.heap[r]? =Wq.heap[r]?)(hqs:Wq.heap.size≤Wp.heap.size):p5 Wq ops n M S s0 v u':=by
 obtain⟨s,order,xa,oa',sa',xc,oc',sc',Y,va,vc,h1,h2,h3,h4,h5,h6,h7,h8,h9,h10⟩:=h
 obtain⟨c,hc⟩:=ht
 have key:∀{e:TypeId} {n size:Nat} {v:Value} {xs:List Value},e≠31→u.ownsRow 0 e size v n xs→u'.ownsRow 0 e size v n xs:=fun{e n size v xs} he h=>T5 h fun b d hb _=>hk b fun hbt=>by
  subst hbt
  rw[hc]at hb
  cases hb
  exact he rfl
 exact⟨s,order,xa,oa',sa',xc,oc',sc',Y,va,vc,h1,h2,h3,key (by decide) h4,key (by decide) h5,key (by decide) h6,fun i hi=>⟨key (by decide) (h7 i hi).1,(h7 i hi).2.1,fun a ha=>key (by decide) ((h7 i hi).2.2 a ha)⟩,fun r hr=>by
  obtain⟨q1,q2,q3⟩:=hq r hr
  exact(hk r q1).trans ((h8 r q2).trans q3),Nat.le_trans hqs (Nat.le_trans h9 hs),h10⟩
section
variable{Wp w W u u0:World}{N:Nat→Prop}{n tb o tl tc sc M mb t8 b0:Nat}{ta sa:Option Addr}{oa:Nat→Option Addr}{ol oc:Nat→Nat}{ops:Nat→List P3}{S:List Int}{g0:GS SPl}
theorem s0R{t bt:Nat}{a0 a1 a2:Option Addr}{n0 p0 n1 p1 n2 p2:Nat}{st:Bool}{z0 z1 z2 z3:Value}{R:Value→World→Prop}(hb:u.heap[bt]? =some (.cells #[(.slice a0 n0 p0),(.slice a1 n1 p1),(.slice a2 n2 p2),(.bool st)] 31 (0,0)))(ht:u.heap[t]? =some (.cells #[z0,z1,z2,z3] 31 (0,0)))(hne:t≠bt)
 (hR:∀W9:World,W9.heap=((((u.setCell ⟨t,0,none⟩ (.slice a0 n0 p0)).setCell ⟨t,1,none⟩ (.slice a1 n1 p1)).setCell ⟨t,2,none⟩ (.slice a2 n2 p2)).setCell ⟨t,3,none⟩ (.bool st)).heap→R (.agg #[(.slice a0 n0 p0),(.slice a1 n1 p1),(.slice a2 n2 p2),(.bool st)]) W9) {A:Array Value} (hA:G0 162 A [(8,vP t 0),(16,vP bt 0)]):
 r8ps48.wp Try.prog (bodyPost Try.prog Try.f51 fun x w'=>∃v,x= .returned v∧R v w') ⟨A,[]⟩ u:=by
 have E:Aside (u.heap[t]? =some (.cells #[z0,z1,z2,z3] 31 (0,0))∧∀W9:World,W9.heap=((((u.setCell ⟨t,0,none⟩ (.slice a0 n0 p0)).setCell ⟨t,1,none⟩ (.slice a1 n1 p1)).setCell ⟨t,2,none⟩ (.slice a2 n2 p2)).setCell ⟨t,3,none⟩ (.bool st)).heap→R (.agg #[(.slice a0 n0 p0),(.slice a1 n1 p1),(.slice a2 n2 p2),(.bool st)]) W9):=⟨ht,hR⟩
 have c0:u.cell? ⟨bt,0,none⟩=some (.slice a0 n0 p0):=by simp[World.cell?,hb]
 have c1:u.cell? ⟨bt,1,none⟩=some (.slice a1 n1 p1):=by simp[World.cell?,hb]
 have c2:u.cell? ⟨bt,2,none⟩=some (.slice a2 n2 p2):=by simp[World.cell?,hb]
 have c3:u.cell? ⟨bt,3,none⟩=some (.bool st):=by simp[World.cell?,hb]
 have d0:u.cell? ⟨t,0,none⟩=some z0:=by simp[World.cell?,ht]
 have d1:u.cell? ⟨t,1,none⟩=some z1:=by simp[World.cell?,ht]
 have d2:u.cell? ⟨t,2,none⟩=some z2:=by simp[World.cell?,ht]
 have d3:u.cell? ⟨t,3,none⟩=some z3:=by simp[World.cell?,ht]
 have f0:u.frozen? ⟨t,0,none⟩=false:=by simp[World.frozen?,ht]
 have f1:u.frozen? ⟨t,1,none⟩=false:=by simp[World.frozen?,ht]
 have f2:u.frozen? ⟨t,2,none⟩=false:=by simp[World.frozen?,ht]
 have f3:u.frozen? ⟨t,3,none⟩=false:=by simp[World.frozen?,ht]
 clear hb ht hR
 obtain⟨s,rfl,k8,k16,_⟩:=O3 hA
 simp only[r8ps48,i2,pC,Try.f51,Option.getD_some,i5,k8,k16]
 clear k8 k16
 go_wp2_with (fail)
 generalize hW9:((((u.setCell ⟨t,0,none⟩ (.slice a0 n0 p0)).setCell ⟨t,1,none⟩ (.slice a1 n1 p1)).setCell ⟨t,2,none⟩ (.slice a2 n2 p2)).setCell ⟨t,3,none⟩ (.bool st))=W9
 have hC:=(e0F E.out.1 (W9:=W9) (by rw[hW9])).1
 have hR:=E.out.2 W9 (by rw[hW9])
 have q0:W9.cell? ⟨t,0,none⟩=some (.slice a0 n0 p0):=by simp[World.cell?,hC]
 have q1:W9.cell? ⟨t,1,none⟩=some (.slice a1 n1 p1):=by simp[World.cell?,hC]
 have q2:W9.cell? ⟨t,2,none⟩=some (.slice a2 n2 p2):=by simp[World.cell?,hC]
 have q3:W9.cell? ⟨t,3,none⟩=some (.bool st):=by simp[World.cell?,hC]
 exact bodyPost_ret (v:=.agg #[(.slice a0 n0 p0),(.slice a1 n1 p1),(.slice a2 n2 p2),(.bool st)]) (by simp[results,Try.f51,go_sem,q0,q1,q2,q3]) rfl ⟨_,rfl,hR⟩
theorem y0i(hI:y6 Wp N n tb o tl ta oa ol oc ops S sa)(hb:b0=Wp.heap.size)(hW:∀r,r<b0→W.heap[r]? =Wp.heap[r]?)(hn:n≤64)(hol:∀j,j<n→(ops j).length≤65536){gs:GS SPl}{order:List Nat}{oa1:Option Addr}{oc1:Nat}(hR:u9 W b0 mb n ops gs order (.slice oa1 order.length oc1) u0)(hgd:g7 n M (gs,order))(hg:∃k,∀f,k≤f→a0K ops n M S f g0=(gs,order))(hbW:b0≤W.heap.size)(ht8:b0≤t8)(hz:W.heap[t8]? =some (.cells #[.slice none 0 0,.slice none 0 0,.slice none 0 0,.bool false] 31 (0,0))){A:Array Value}(hA:G0 162 A [(0,vP mb 0),(1,.slice ta tl tc),(2,.slice sa S.length sc),(3,vI M),(8,vP t8 0),(9,vI n),(12,.slice oa1 order.length oc1)]):
 r8ps41.wp Try.prog (bodyPost Try.prog Try.f51 fun x w'=>∃v,x= .returned v∧p5 Wp ops n M S g0 v w') ⟨A,[]⟩ u0:=by
 have hlow:=hR.low hb hW
 have hzu:u0.heap[t8]? =some (.cells #[.slice none 0 0,.slice none 0 0,.slice none 0 0,.bool false] 31 (0,0)):=(hR.st.t _ _ _ _ (.inr rfl) hz).trans hz
 obtain⟨⟨B',ts,rfl,hS8⟩,hst,hord,hob,hbw⟩:=hR
 have hlen:=hS8.n
 have hC:Calls Try.prog 85 #[vP B'.mb 0] u0 fun e u'=>e= .returned (.bool (decide (0<L5 gs.live n)))∧u'.heap=u0.heap:=by
  refine(u0R hS8.A (by omega)).mono fun e u' ⟨k1,k2⟩=>⟨?_,k2⟩
  rw[k1]
  simp only[hS8.left]
 have hC2:∀X:World,X.heap=u0.heap→Calls Try.prog 86 #[vP B'.mb 0] X fun e u=>∃sa sl sc,e= .returned (.slice sa sl sc)∧(sl=(R1.state gs.q).length∧u.ownsRow 0 2 1 (.slice sa sl sc) (R1.state gs.q).length ((R1.state gs.q).map fun v=>vI v)∧u0.heap.size≤u.heap.size∧(∀r,r<u0.heap.size→u.heap[r]? =u0.heap[r]?)):=fun X hX=>
  (z0t (hS8.A.heap hX)).mono fun e u ⟨v,k1,k2,k3,k4,k5⟩=>by
    obtain⟨a,c,rfl⟩:∃a c,v= .slice a (R1.state gs.q).length c:=by
     rcases k2.2 with⟨e,h1⟩|⟨g,cap,cur,e,_⟩
     ·exact⟨none,0,by rw[e,h1]⟩
     ·exact⟨_,_,e⟩
    exact⟨a,(R1.state gs.q).length,c,k1,rfl,k2,by rw[← hX];exact k3,fun r hr=>by rw[← hX];exact k4 r (by rw[hX];exact hr)⟩
 rw[t0q]
 refine B3 (y0W (R:=fun sa sl sc u=>sl=(R1.state gs.q).length∧u.ownsRow 0 2 1 (.slice sa sl sc) (R1.state gs.q).length ((R1.state gs.q).map fun v=>vI v)∧u0.heap.size≤u.heap.size∧(∀r,r<u0.heap.size→u.heap[r]? =u0.heap[r]?)) hC hC2 hA) fun a V ⟨hd1,sa1,sl1,sc1,v,hS,⟨hsl,hrow,hvs,hvo⟩,hV⟩=>?_
 subst hsl
 have hVv:∀r,r<v.heap.size→V.heap[r]? =v.heap[r]?:=fun r hr=>by rw[hV];exact D0 _ _ hr
 have hV0:∀r,r<u0.heap.size→V.heap[r]? =u0.heap[r]?:=fun r hr=>(hVv r (by omega)).trans (hvo r hr)
 have hVb:V.heap[v.heap.size]? =some (.cells #[.slice none 0 0,.slice oa1 order.length oc1,.slice sa1 (R1.state gs.q).length sc1,.bool (decide (0<L5 gs.live n))] 31 (0,0)):=by rw[hV];exact heap_alloc_new _ _
 have hVs:V.heap.size=v.heap.size+1:=by rw[hV];simp
 generalize hbt:v.heap.size=bt at hVv hVb hVs hvs hS
 have hSV:R8S V b0 B' n ops gs ts:=⟨hS8.A.more hV0,fun j t hj=>⟨(hS8.T j t hj).1,(hS8.T j t hj).2.low fun r hr=>hV0 r (by have:=hS8.A.bs;omega)⟩,hlen,hS8.L⟩
 have hget:∀i,i<n→∃t,ts[i]? =some t:=fun i hi=>⟨_,List.getElem?_eq_getElem (by omega)⟩
 obtain⟨rows,hrows⟩:∃rows:Nat→Value,rows=fun i=>((ts[i]?).map T3.av).getD (.slice none 0 0):=⟨_,rfl⟩
 obtain⟨Y,hY⟩:∃Y:Nat→List SA,Y=fun i=>((ts[i]?).map T3.ans).getD []:=⟨_,rfl⟩
 have hav:∀i,i<n→∃va vc,rows i= .slice va (Y i).length vc∧V.ownsRow 0 44 3 (rows i) (Y i).length (e9 (Y i))∧(Y i).map SA.an=(gs.th i).ans∧∀a∈Y i,SAU a V:=fun i hi=>by
  obtain⟨t,ht⟩:=hget i hi
  have hH:=hSV.A.thr t (List.mem_of_getElem? ht)
  have e1:rows i=t.av:=by rw[hrows];simp[ht]
  have e2:Y i=t.ans:=by rw[hY];simp[ht]
  rw[e1,e2]
  have hr:=hH.av
  rcases hr.2 with⟨e,h1⟩|⟨g,cap,cur,e,_⟩
  ·exact⟨none,0,by rw[e,h1],hr,(hS8.T i t ht).1.ans,hH.au⟩
  ·exact⟨_,_,e,hr,(hS8.T i t ht).1.ans,hH.au⟩
 obtain⟨va,hva⟩:=Classical.axiomOfChoice (r:=fun i (p:Option Addr×Nat)=>i<n→rows i= .slice p.1 (Y i).length p.2) (fun i=>by
  by_cases hi:i<n
  ·obtain⟨a,c,e,_⟩:=hav i hi
   exact⟨(a,c),fun _=>e⟩
  ·exact⟨(none,0),fun h=>absurd h hi⟩)
 rw[t0r,t0s,d9 hd1]
 have TE0:TE8 V bt 0 rows (.slice oa1 order.length oc1) (.slice sa1 (R1.state gs.q).length sc1) (.bool (decide (0<L5 gs.live n))) none 0 V:=⟨⟨rfl,.inl ⟨rfl,rfl⟩⟩,fun r hr=>by simp[Value.ownBlock]at hr,hVb,fun _ _ _=>rfl,by omega,Nat.le_refl _⟩
 refine B3 (R:=fun a u=>a.defers=[]∧G0 162 a.tmps [(8,vP t8 0),(16,vP bt 0)]∧∃xa xc,TE8 V bt n rows (.slice oa1 order.length oc1) (.slice sa1 (R1.state gs.q).length sc1) (.bool (decide (0<L5 gs.live n))) xa xc u) (D7 (y0X hS) fun A u1 ⟨_,hS,hu⟩=>?_) fun a u ⟨hd2,hS,xa,xc,hT⟩=>?_
 ·rw[y0r,s0Z,t0t,t0u,q0t]
  refine a9 (I:=fun g a u=>a.defers=[]∧∃(i:Nat) (xa:Option Addr) (xc:Nat),i≤n∧g=n - i∧G0 162 a.tmps [(0,vP B'.mb 0),(1,.slice ta tl tc),(2,.slice sa S.length sc),(3,vI M),(8,vP t8 0),(9,vI n),(16,vP bt 0),(17,vI i)]∧TE8 V bt i rows (.slice oa1 order.length oc1) (.slice sa1 (R1.state gs.q).length sc1) (.bool (decide (0<L5 gs.live n))) xa xc u)
   (J:=fun g a u=>a.defers=[]∧∃(i:Nat) (xa:Option Addr) (xc:Nat),i<n∧g=n - i∧G0 162 a.tmps [(0,vP B'.mb 0),(1,.slice ta tl tc),(2,.slice sa S.length sc),(3,vI M),(8,vP t8 0),(9,vI n),(16,vP bt 0),(17,vI i)]∧TE8 V bt i rows (.slice oa1 order.length oc1) (.slice sa1 (R1.state gs.q).length sc1) (.bool (decide (0<L5 gs.live n))) xa xc u)
   (fun g a u ⟨hd,i,xa,xc,h1,h2,hS,hT⟩=>?_) (fun g a u ⟨hd,i,xa,xc,h1,h2,hS,hT⟩=>?_) (g:=n) ⟨rfl,0,none,0,Nat.zero_le _,rfl,hS,TE0.heap hu⟩
  ·rw[d9 hd]
   refine pm8 (y0Y hS) fun a u' ⟨hd,⟨hsz,s0,s1,s2,s3,s8,s9,s16,s17,s145,_⟩,hu⟩=>?_
   by_cases hi:i<n
   ·exact .inl ⟨by rw[s145,decide_eq_true (by omega)],hd,i,xa,xc,hi,h2,⟨hsz,s0,s1,s2,s3,s8,s9,s16,s17,trivial⟩,hT.heap hu⟩
   ·obtain rfl:i=n:=by omega
    exact .inr ⟨by rw[s145,decide_eq_false (by omega)],hd,⟨hsz,s8,s16,trivial⟩,xa,xc,hT.heap hu⟩
  ·rw[d9 hd,t0v,y0s]
   obtain⟨t,ht⟩:=hget i h1
   obtain⟨tb2,tc2,htv,m0,m1,m2,zm,t0,t1,t3,t4,t5,t6,t7,zt,mt,wt,htb⟩:=hSV.A.fx ht
   have e1:rows i=t.av:=by rw[hrows];simp[ht]
   have e2:=hva i h1
   rw[← e1,e2]at t1
   rw[hlen]at m2
   have hml:=hSV.A.low_m
   have nm:bt≠B'.mb:=fun e=>by have h:=hVb;rw[e,hSV.A.o]at h;cases h
   have nt:bt≠tb2:=fun e=>by obtain⟨c,hc⟩:=X1 hSV.A.row (r:=tb2) (by rw[htv];rfl);rw[← e,hVb]at hc;cases hc
   have m2u:u.cell? ⟨B'.mb,2,none⟩=some (vL tb2 0 n tc2):=by rw[← m2];simp only[World.cell?];rw[hT.old _ hml nm.symm]
   have t1u:u.cell? ⟨tb2,i*8+1,none⟩=some (.slice (va i).1 (Y i).length (va i).2):=by rw[← t1];simp only[World.cell?];rw[hT.old _ htb nt.symm]
   refine D7 (o0y (y00 hT h1 (by omega) e2 m2u t1u nm nt (fun e=>by have:=hT.own _ e;omega) (fun e=>by have:=hT.own _ e;omega) hS)) fun A u2 ⟨_,hS,xa2,xc2,hT⟩=>?_
   exact pm8 (y0Z (by omega) hS) fun a u3 ⟨hd,hS,hu⟩=>⟨n - (i+1),by omega,hd,i+1,xa2,xc2,h1,rfl,hS,hT.heap hu⟩
 ·rw[d9 hd2]
  have hbs:=hS8.A.bs
  have ht8u:t8<u0.heap.size:=(Q3 hzu)
  have hzV:V.heap[t8]? =some (.cells #[.slice none 0 0,.slice none 0 0,.slice none 0 0,.bool false] 31 (0,0)):=(hV0 _ ht8u).trans hzu
  have hzn:u.heap[t8]? =some (.cells #[.slice none 0 0,.slice none 0 0,.slice none 0 0,.bool false] 31 (0,0)):=(hT.old t8 (by omega) (by omega)).trans hzV
  refine s0R hT.blk hzn (by omega) (fun W9 h9=>?_) hS
  obtain⟨h91,h92⟩:=e0F hzn h9
  have h92s:u.heap.size≤W9.heap.size:=by rw[h9];simp[World.size_setCell]
  have hk:∀r,r<V.heap.size→r≠bt→r≠t8→W9.heap[r]? =V.heap[r]?:=fun r h1 h2 h3=>(h92 r h3).trans (hT.old r h1 h2)
  have key:∀{e:TypeId} {n size:Nat} {v:Value} {xs:List Value},e≠31→V.ownsRow 0 e size v n xs→W9.ownsRow 0 e size v n xs:=fun{e n size v xs} he h=>T5 h fun b d hb _=>hk b (Q3 hb) (fun hbt=>by subst hbt;rw[hVb]at hb;cases hb;exact he rfl) (fun hbt=>by subst hbt;rw[hzV]at hb;cases hb;exact he rfl)
  have keyu:∀{e:TypeId} {n size:Nat} {v:Value} {xs:List Value},e≠31→u.ownsRow 0 e size v n xs→W9.ownsRow 0 e size v n xs:=fun{e n size v xs} he h=>T5 h fun b d hb _=>h92 b (fun hbt=>by subst hbt;rw[hzn]at hb;cases hb;exact he rfl)
  have hordV:V.ownsRow 0 3 1 (.slice oa1 order.length oc1) order.length (order.map fun i:Nat=>vI i):=K0 hord fun b hb _=>by obtain⟨c,hc⟩:=X1 hord hb;exact hV0 b (Q3 hc)
  have hrowV:V.ownsRow 0 2 1 (.slice sa1 (R1.state gs.q).length sc1) (R1.state gs.q).length ((R1.state gs.q).map fun v=>vI v):=K0 hrow fun b hb _=>by obtain⟨c,hc⟩:=X1 hrow hb;exact hVv b (by have:=(Q3 hc);omega)
  refine⟨gs,order,xa,oa1,sa1,xc,oc1,sc1,Y,fun i=>(va i).1,fun i=>(va i).2,rfl,hgd,hg,key (by decide) hordV,key (by decide) hrowV,?_,fun i hi=>?_,fun r hr=>?_,?_,(by have:=hS8.A.wf.n2;simp only[R1.state,List.length_cons];omega),hS8.L⟩
  ·have h:=keyu (by decide) hT.row
   rwa [show(List.range n).map rows=(List.range n).map (fun i=>Value.slice (va i).1 (Y i).length (va i).2)from List.map_congr_left fun i hi=>hva i (by simpa using hi)]at h
  ·obtain⟨a,c,e1,e2,e3,e4⟩:=hav i hi
   rw[hva i hi]at e2
   exact⟨key (by decide) e2,e3,fun a ha=>key (by decide) (e4 a ha)⟩
  ·rw[← hlow r (by omega),← hV0 r (by omega)]
   exact hk r (by omega) (by omega) (by omega)
  ·have:=hT.size;omega
end
end
section
section
variable{w w':World}
theorem y6.kept8{N:Nat→Prop}{n tb o tl:Nat}{ta:Option Addr}{oa:Nat→Option Addr}{ol oc:Nat→Nat}{ops:Nat→List P3}{S:List Int}{sa:Option Addr}(h:y6 w N n tb o tl ta oa ol oc ops S sa)(hs:w.heap.size≤w'.heap.size)
 (hold:∀(r:Nat) (c:Array Value) (e:TypeId) (z:Nat×Nat),w.heap[r]? =some (.cells c e z)→w'.heap[r]? =some (.cells c e z)):y6 w' N n tb o tl ta oa ol oc ops S sa:=by
 have hc:∀{a:Addr} {v:Value},w.cell? a=some v→w'.cell? a=some v∧w'.frozen? a=w.frozen? a:=fun{a v} h=>by
  obtain⟨c,e,z,ho⟩:=M3 h
  have e1:w'.heap[a.block]? =w.heap[a.block]?:=(hold _ _ _ _ ho).trans ho.symm
  exact⟨by rw[← h];unfold World.cell?;simp only[e1],by unfold World.frozen?;simp only[e1]⟩
 refine⟨h.hn,h.hta,fun hp=>by have:=h.htb hp;omega,fun j hj=>?_,h.hlen,fun j hj k x hx=>?_,h.hsl,fun hp=>?_⟩
 ·obtain⟨h1,h2,h3⟩:=h.hth j hj
  exact⟨(hc h1).1,(hc h1).2.trans h2,h3⟩
 ·obtain⟨opb,oo,h1,h2,f0,f1,f2,f3,g0,g1,g2,g3⟩:=h.hop j hj k x hx
  exact⟨opb,oo,h1,h2,(hc f0).1,(hc f1).1,(hc f2).1,(hc f3).1,(hc f0).2.trans g0,(hc f1).2.trans g1,(hc f2).2.trans g2,(hc f3).2.trans g3⟩
 ·obtain⟨sb,so,c,e,z,h1,h2,h3,h4⟩:=h.hS hp
  exact⟨sb,so,c,e,z,h1,h2,hold _ _ _ _ h3,h4⟩
end
section
variable{m:Pl}{ops:Nat→List P3}{n M:Nat}
end
theorem z0l{n m:Nat}{a b c d:Value}(h:4+m=n):G0 n (#[a,b,c,d]++Array.replicate m undef) [(0,a),(1,b),(2,c),(3,d)]:=by
 refine⟨by simp;omega,?_,?_,?_,?_,trivial⟩<;>simp[Array.getD_eq_getD_getElem?,Array.getElem?_append]
theorem i09:Try.f51.body=some q0w:=by
 have h:∃c,Try.f51.body=some c:=⟨_,rfl⟩
 obtain⟨c,h⟩:=h
 rw[q0w,i2,h]
 rfl
section
variable{Wp w:World}{N:Nat→Prop}{n tb o tl tc sc M b0:Nat}{ta sa:Option Addr}{oa:Nat→Option Addr}{ol oc:Nat→Nat}{ops:Nat→List P3}{S:List Int}{g0:GS SPl}{B:R8B}{mo:Int}
theorem E0Y(hI:y6 Wp N n tb o tl ta oa ol oc ops S sa)(hb:b0=Wp.heap.size)(hw:∀r,r<b0→w.heap[r]? =Wp.heap[r]?)(hM:min (max mo 0) 1048576=(M:Int))(hA:R2 w b0 B g0.q [])(h0:∀j,g0.th j=⟨0,none,[]⟩):
 Y6 Try.prog Try.f51 #[vP B.mb 0,.slice ta tl tc,.slice sa S.length sc,vI mo] w (p5 Wp ops n M S g0):=by
 have hn64:n≤64:=by have:=hI.hn;omega
 have hM1:M≤1048576:=by omega
 have hol:∀j,j<n→(ops j).length≤65536:=fun j hj=>by rw[hI.hlen j hj];omega
 have hbs:=hA.bs
 refine I8 i09 ?_
 simp only[Try.ntmps51,List.size_toArray,List.length_cons,List.length_nil,Nat.reduceAdd,Nat.reduceSub]
 have hS0:G0 162 (#[vP B.mb 0,.slice ta tl tc,.slice sa S.length sc,vI mo]++Array.replicate 158 undef) [(0,vP B.mb 0),(1,.slice ta tl tc),(2,.slice sa S.length sc),(3,vI mo)]:=z0l rfl
 generalize #[Value.pointer (some ⟨B.mb,0,none⟩),.slice ta tl tc,.slice sa S.length sc,vI mo]++Array.replicate 158 undef=A0 at hS0 ⊢
 rw[y0t]
 refine B3 (C0n hS0) fun a W ⟨hd,hS,hW⟩=>?_
 rw[d9 hd,y0u]
 refine B3 (C0o hS) fun a u1 ⟨hd,hS,hu1⟩=>?_
 rw[d9 hd,y0w]
 refine B3 (C0p hI.hn hS) fun a u2 ⟨hd,hS,hu2⟩=>?_
 rw[d9 hd,y0x]
 refine B3 (C0q hS) fun a u3 ⟨hd,hS,hu3⟩=>?_
 rw[d9 hd,y0y]
 refine B3 (C0r hM hS) fun a u4 ⟨hd,hS,hu4⟩=>?_
 have e4:u4.heap=W.heap:=hu4.trans (hu3.trans (hu2.trans hu1))
 have hWo:∀r,r<w.heap.size→W.heap[r]? =w.heap[r]?:=fun r hr=>by rw[hW];exact D0 _ _ hr
 have hWz:W.heap[w.heap.size]? =some (.cells #[.slice none 0 0,.slice none 0 0,.slice none 0 0,.bool false] 31 (0,0)):=by rw[hW];exact heap_alloc_new _ _
 have hWs:W.heap.size=w.heap.size+1:=by rw[hW];simp
 have hAW:R2 W b0 B g0.q []:=hA.more hWo
 have hW0:∀r,r<b0→W.heap[r]? =Wp.heap[r]?:=fun r hr=>(hWo r (by omega)).trans (hw r hr)
 have hR0:u9 W b0 B.mb 0 ops g0 [] (.slice none 0 0) u4:=⟨⟨B,[],rfl,hAW.heap e4,fun i t h=>by simp at h,rfl,fun i a ha=>by rw[h0 i]at ha;simp at ha⟩,(D2.refl _ _).heap e4,⟨rfl,.inl ⟨rfl,rfl⟩⟩,fun r hr=>by simp[Value.ownBlock]at hr,by omega⟩
 rw[d9 hd,y0z]
 refine B3 (n0W hI hb hW0 h0 hR0 hS) fun a u5 ⟨hd,hS,hR⟩=>?_
 rw[d9 hd,s06]
 refine B3 (y0G hS) fun a u6 ⟨hd,hS,hu6⟩=>?_
 rw[d9 hd,s07]
 refine B3 (q0h hI hb hW0 hM1 (hR.heap hu6) hS) fun a u7 ⟨hd,gs,order,oa',oc',hS,hR,hm,hg⟩=>?_
 rw[d9 hd,t0g]
 refine B3 (n0X hI hb hW0 hM1 hm hR hS) fun a u8 ⟨hd,gs2,order2,oa2,oc2,hS,hR,hm2,hdn,k,hk⟩=>?_
 rw[d9 hd]
 refine y0i hI hb hW0 hn64 hol hR hdn ⟨k,fun f hf=>?_⟩ (by omega) (by omega) hWz hS
 obtain⟨f',rfl⟩:∃f',f=f'+k:=⟨f - k,by omega⟩
 unfold a0K
 rw[← hg,hk,y7 hdn]
end
section
variable{w:World}{n tb o tl tc sc M vc:Nat}{ta sa va:Option Addr}{oa:Nat→Option Addr}{ol oc:Nat→Nat}{ops:Nat→List P3}{S vs:List Int}{mo:Int}
theorem n0V(hv:B5 w va (vs.map fun v=>vI v))(hvl:vs.length<9223372036854775808)(hI:y6 w (fun _=>False) n tb o tl ta oa ol oc ops S sa)(hM:min (max mo 0) 1048576=(M:Int)):
 Y6 Try.prog Try.f16 #[.slice va vs.length vc,.slice ta tl tc,.slice sa S.length sc,vI mo] w (p5 w ops n M S (ss0 vs)):=by
 have hW1o:∀r,r<w.heap.size→(w.alloc (.cells #[.slice none 0 0,.slice none 0 0,.slice none 0 0,.bool false] 31)).heap[r]? =w.heap[r]?:=fun r hr=>D0 _ _ hr
 have hW1s:(w.alloc (.cells #[.slice none 0 0,.slice none 0 0,.slice none 0 0,.bool false] 31)).heap.size=w.heap.size+1:=by simp
 have hW1z:(w.alloc (.cells #[.slice none 0 0,.slice none 0 0,.slice none 0 0,.bool false] 31)).heap[w.heap.size]? =some (.cells #[.slice none 0 0,.slice none 0 0,.slice none 0 0,.bool false] 31 (0,0)):=heap_alloc_new _ _
 have C50:Aside (∀u:World,(∀r,r<w.heap.size→u.heap[r]? =w.heap[r]?)→Calls Try.prog 50 #[.slice va vs.length vc] u fun e w'=>e= .returned (vP u.heap.size 0)∧(∃B:R8B,B.mb=u.heap.size∧B.tv= .slice none 0 0∧R2 w' u.heap.size B (I4 vs) [])∧D2 u.heap.size u w'):=fun u hu=>E0M (hv.olds hu) hvl
 have C51:Aside (∀(u X:World) (B:R8B),u.heap.size=w.heap.size+1→(∀r,r<w.heap.size→u.heap[r]? =w.heap[r]?)→B.mb=u.heap.size→R2 X u.heap.size B (I4 vs) []→D2 u.heap.size u X→Calls Try.prog 51 #[vP u.heap.size 0,.slice ta tl tc,.slice sa S.length sc,vI mo] X fun x w'=>∃v,x= .returned v∧p5 u ops n M S (ss0 vs) v w'):=fun u X B h1 h2 h3 h4 h5=>by
  have h:=(E0Y (Wp:=u) (g0:=ss0 vs) (hI.kept8 (w':=u) (by omega) fun r c e z h=>(h2 r (Q3 h)).trans h) rfl h5.o hM h4 (fun _=>rfl) (tc:=tc) (sc:=sc)).calls Try.func51 i09
  rwa [h3]at h
 clear hv hI hM hvl
 refine I8 rfl ?_
 simp only[Try.ntmps16,List.size_toArray,List.length_cons,List.length_nil,Nat.reduceAdd,Nat.reduceSub,Array.replicate_succ,Array.replicate_zero,List.push_toArray,List.append_toArray,List.nil_append,List.cons_append]
 go_wp2_with (fail)
 generalize w.alloc (.cells #[.slice none 0 0,.slice none 0 0,.slice none 0 0,.bool false] 31)=W1 at hW1o hW1s hW1z ⊢
 have D:Aside ((∀r,r<w.heap.size→W1.heap[r]? =w.heap[r]?)∧W1.heap.size=w.heap.size+1∧W1.heap[w.heap.size]? =some (.cells #[.slice none 0 0,.slice none 0 0,.slice none 0 0,.bool false] 31 (0,0))):=⟨hW1o,hW1s,hW1z⟩
 clear hW1o hW1s hW1z
 go_at_call 50
 refine(C50.out _ D.out.1).mono ?_
 rintro e X ⟨rfl,⟨B,hB1,hB2,hB3⟩,hB4⟩
 have E:Aside (B.mb=W1.heap.size∧R2 X W1.heap.size B (I4 vs) []∧D2 W1.heap.size W1 X):=⟨hB1,hB3,hB4⟩
 clear hB1 hB2 hB3 hB4
 go_wp2_with (fail)
 go_at_call 51
 refine(C51.out W1 _ B D.out.2.1 D.out.1 E.out.1 E.out.2.1 E.out.2.2).mono ?_
 rintro e u ⟨v,rfl,hR⟩
 have R:Aside (p5 W1 ops n M S (ss0 vs) v u):=hR
 obtain⟨s,order,xa,oa',sa',xc,oc',sc',Y,va2,vc2,rfl,_⟩:=hR
 have hz:u.heap[w.heap.size]? =some (.cells #[.slice none 0 0,.slice none 0 0,.slice none 0 0,.bool false] 31 (0,0)):=by
  obtain⟨_,_,_,_,_,_,_,_,_,_,_,_,_,_,_,_,_,_,h8,_,_⟩:=R.out
  rw[h8 _ (by have:=D.out.2.1;omega)]
  exact D.out.2.2
 have Z:Aside (u.heap[w.heap.size]? =some (.cells #[.slice none 0 0,.slice none 0 0,.slice none 0 0,.bool false] 31 (0,0))):=hz
 have d0:u.cell? ⟨w.heap.size,0,none⟩=some (.slice none 0 0):=by simp[World.cell?,hz]
 have d1:u.cell? ⟨w.heap.size,1,none⟩=some (.slice none 0 0):=by simp[World.cell?,hz]
 have d2:u.cell? ⟨w.heap.size,2,none⟩=some (.slice none 0 0):=by simp[World.cell?,hz]
 have d3:u.cell? ⟨w.heap.size,3,none⟩=some (.bool false):=by simp[World.cell?,hz]
 have f0:u.frozen? ⟨w.heap.size,0,none⟩=false:=by simp[World.frozen?,hz]
 have f1:u.frozen? ⟨w.heap.size,1,none⟩=false:=by simp[World.frozen?,hz]
 have f2:u.frozen? ⟨w.heap.size,2,none⟩=false:=by simp[World.frozen?,hz]
 have f3:u.frozen? ⟨w.heap.size,3,none⟩=false:=by simp[World.frozen?,hz]
 clear hz
 go_wp2_with (fail)
 generalize hW9:((((u.setCell ⟨w.heap.size,0,none⟩ (.slice xa n xc)).setCell ⟨w.heap.size,1,none⟩ (.slice oa' order.length oc')).setCell ⟨w.heap.size,2,none⟩ (.slice sa' (R1.state s.q).length sc')).setCell ⟨w.heap.size,3,none⟩ (.bool (decide (0<L5 s.live n))))=W9
 obtain⟨hC,hC2⟩:=e0F Z.out (W9:=W9) (by rw[hW9])
 have hsz:u.heap.size≤W9.heap.size:=by rw[← hW9];simp[World.size_setCell]
 have hR:=R.out.kept (u':=W9) ⟨_,Z.out⟩ hC2 hsz (Wq:=w) (fun r hr=>⟨by omega,by have:=D.out.2.1;omega,D.out.1 r hr⟩) (by have:=D.out.2.1;omega)
 have q0:W9.cell? ⟨w.heap.size,0,none⟩=some (.slice xa n xc):=by simp[World.cell?,hC]
 have q1:W9.cell? ⟨w.heap.size,1,none⟩=some (.slice oa' order.length oc'):=by simp[World.cell?,hC]
 have q2:W9.cell? ⟨w.heap.size,2,none⟩=some (.slice sa' (R1.state s.q).length sc'):=by simp[World.cell?,hC]
 have q3:W9.cell? ⟨w.heap.size,3,none⟩=some (.bool (decide (0<L5 s.live n))):=by simp[World.cell?,hC]
 exact bodyPost_ret (v:=.agg #[.slice xa n xc,.slice oa' order.length oc',.slice sa' (R1.state s.q).length sc',.bool (decide (0<L5 s.live n))]) (by simp[results,Try.f16,go_sem,q0,q1,q2,q3]) rfl ⟨_,rfl,hR⟩
end
end
section
open Go.ChangeShapes Go.WideShapes Go.ChangeAt
theorem o0C{H:Type}(d:DataW H):1≤Rows.uptoBulk d:=by
 cases d with
 | lit l=>cases l<;>simp[Rows.uptoBulk]
 | nil=>simp[Rows.uptoBulk]
 | ptr d=>simp[Rows.uptoBulk]
 | slice elems spare=>simp[Rows.uptoBulk]
 | agg parts=>simp[Rows.uptoBulk]
 | iface t d=>simp[Rows.uptoBulk]
 | map entries=>simp[Rows.uptoBulk]
 | held h=>simp[Rows.uptoBulk]
theorem f0Y{H:Type}{d:DataW H}{l:List (DataW H)}(h:d∈l):Rows.uptoBulk d≤Rows.uptoBulkAll l:=by
 induction l with
 | nil=>cases h
 | cons x r ih=>
   simp only[Rows.uptoBulkAll]
   cases List.mem_cons.1 h with
   | inl e=>subst e;omega
   | inr e=>have:=ih e;omega
theorem i0t{H:Type}(l:List (DataW H)):l.length≤Rows.uptoBulkAll l:=by
 induction l with
 | nil=>simp[Rows.uptoBulkAll]
 | cons x r ih=>have:=o0C x;simp only[Rows.uptoBulkAll,List.length_cons];omega
theorem e0l{H:Type}(elems spare:List (DataW H)):elems.length≤Rows.uptoBulk (.slice elems spare)∧∀d∈elems,Rows.uptoBulk d≤Rows.uptoBulk (.slice elems spare):=by
 have h1:=i0t elems
 simp only[Rows.uptoBulk]
 exact⟨by omega,fun d hd=>by have:=f0Y hd;omega⟩
section
variable{H:Type}{enc:TypeId×Value→H}{W:World}
theorem r07:Try.prog.cellsOf 47=4:=by kernel_rfl
theorem o0G:Try.prog.cellsOf 2=1:=by kernel_rfl
theorem w0V:Try.prog.cellsOf 3=1:=by kernel_rfl
structure o0o(W:World)(b o:Nat)(x:P3):Prop where
 f0:W.cell? ⟨b,o,none⟩=some (vI x.kd)
 f1:W.cell? ⟨b,o+1,none⟩=some (vI x.a)
 f2:W.cell? ⟨b,o+2,none⟩=some (vI x.b)
 f3:W.cell? ⟨b,o+3,none⟩=some (vI x.c)
 g0:W.frozen? ⟨b,o,none⟩=false
 g1:W.frozen? ⟨b,o+1,none⟩=false
 g2:W.frozen? ⟨b,o+2,none⟩=false
 g3:W.frozen? ⟨b,o+3,none⟩=false
instance:Inhabited P3:=⟨⟨0,0,0,0⟩⟩
theorem x0F{v:Value}{fuel:Nat}{d:DataW H}{p:List MemPlace}(h:DataW.trod enc Try.prog W 0 (fun _=>true) true fuel 34 [v]=some (d,p))(hz:W.noneFrozen p):
 ∃(a:Option Addr) (l c b o:Nat) (X:Nat→P3),v= .slice a l c∧l≤c∧l≤Rows.uptoBulk d∧∀k,k<l→a=some ⟨b,o,none⟩∧o0o W b (o+k*4) (X k):=by
 rcases Deep.open_slice Try.underlying34 h with⟨h1,h2⟩|⟨a,len,cap,m,n,D,Pl,h1,hb,hlc,_,hm,h2,hx⟩
 ·cases h1
  exact⟨none,0,0,0,0,fun _=>default,rfl,Nat.le_refl _,Nat.zero_le _,fun k hk=>by omega⟩
 ·simp only[if_true]at hm
  subst hm
  cases h1
  simp only[Prod.mk.injEq]at h2
  obtain⟨rfl,rfl⟩:=h2
  rw[r07]at hx hz
  have hsp:0<len→a.spot=none:=fun hp=>by
   obtain⟨cs',e1,_⟩:=hx 0 (by omega)
   obtain⟨_,_,hcell⟩:=World.cells?_some e1
   have h0:=hcell 0 (by omega)
   rw[List.getElem?_eq_getElem (by omega)]at h0
   have:=World.cell?_spot h0
   simpa [Addr.add]using this
  have each:∀k,k<len→∃x:P3,∃b o,a=⟨b,o,none⟩∧o0o W b (o+k*4) x:=fun k hk=>by
   obtain⟨cs',e1,e2⟩:=hx k (by omega)
   obtain⟨_,hlen,hcell⟩:=World.cells?_some e1
   obtain⟨xs,n',hk',hxy,_,hxl,hf⟩:=DataW.trod_struct Try.underlying47 e2
   match xs,hxl,cs',hlen with
   | [y0,y1,y2,y3],_,[v0,v1,v2,v3],_=>
     have q0:=hf 0 _ rfl
     have q1:=hf 1 _ rfl
     have q2:=hf 2 _ rfl
     have q3:=hf 3 _ rfl
     simp[o0G,w0V]at q0 q1 q2 q3
     obtain⟨n0,r0,_,_⟩:=DataW.trod_int Try.underlying3 q0
     obtain⟨n1,r1,_,_⟩:=DataW.trod_int Try.underlying2 q1
     obtain⟨n2,r2,_,_⟩:=DataW.trod_int Try.underlying2 q2
     obtain⟨n3,r3,_,_⟩:=DataW.trod_int Try.underlying2 q3
     cases r0
     cases r1
     cases r2
     cases r3
     obtain⟨b,o,spot⟩:=a
     have c0:=hcell 0 (by omega)
     have c1:=hcell 1 (by omega)
     have c2:=hcell 2 (by omega)
     have c3:=hcell 3 (by omega)
     have hs:spot=none:=hsp (by omega)
     subst hs
     rw[add_plain,add_plain]at c0 c1 c2 c3
     have hfr:∀j,j<m*4→W.frozen? ⟨b,o+j,none⟩=false:=fun j hj=>hz b (o+j) (List.mem_append_left _ (by simp only[MemPlace.row,List.mem_map,List.mem_range];exact⟨j,hj,rfl⟩))
     exact⟨⟨n0,n1,n2,n3⟩,b,o,rfl,c0,c1,c2,c3,hfr _ (by omega),by rw[Nat.add_assoc];exact hfr _ (by omega),by rw[Nat.add_assoc];exact hfr _ (by omega),by rw[Nat.add_assoc];exact hfr _ (by omega)⟩
  obtain⟨X,hX⟩:=Deep.choose_lt each
  refine⟨some a,len,m,a.block,a.off,X,rfl,hlc,?_,fun k hk=>?_⟩
  ·have:=(e0l (H:=H) ((List.range len).map D) ((List.range (m - len)).map fun j=>D (len+j))).1
   simpa using this
  ·obtain⟨b,o,rfl,hh⟩:=hX k hk
   exact⟨rfl,hh⟩
end
end
section
theorem o0v{An:G3}{P:Program}{Post:Value→World→Prop}{fr:Frame}{W:World}(hA:An.Holds W)
 (hB:Bes An P (fun g w=>g.status= .running∧∀d,∃v,stepG P true g (w.at d)= .ended (.done v) (w.at d) #[]∧(An.Holds (w.at d)→Post v (w.at d))) (G fr []) W):
 ∃M last o w' t',runNT P (M+1) (solo (G fr []) W) #[]=(.ended o w',t')∧runN P M (solo (G fr []) W)= .next last∧step P last= .ended o w'∧Go.Conc.Good P Post last o w' t':=by
 rw[solo_eq_crowd]
 obtain⟨N,gs',g',w',sl',T',q',B',hr,h0',⟨hrun,hS⟩,hL',hP',hA'⟩:=hB #[G fr []] none #[] (fun _=>0) 0 rfl (leavers_one _ _) past_nil hA
 obtain⟨K,last,o,w2,t',e1,e2,e3,e4⟩:=beside_ends (P:=P) (Post:=Post) (D:=fun _ _ es=>∀e∈es,EvL a0G B' e) (sl:=sl') (n:=0) (fun _ _ _ h=>h) h0' hL' hP' (Goes.stop fun w₂ r₂=>by
  obtain⟨d,rfl⟩:=r₂
  obtain⟨v,h1,h2⟩:=hS d
  exact⟨hrun,v,#[],h1,by simp,h2 (hA'.at d)⟩)
 refine⟨N+K,last,o,w2,t',?_,?_,e3,e4⟩
 ·rw[Nat.add_assoc,runNT_add,hr];exact e1
 ·rw[runN_add,← runNT_fst P _ _ #[],hr];exact e2
theorem o0u{W w':World}(h:(⟨W.heap.size,W⟩:G3).Holds w')(hc:∀(r:Nat) (c:Array Value) (e:TypeId) (z:Nat×Nat),W.heap[r]? =some (.cells c e z)→w'.heap[r]? =some (.cells c e z)):Below W.heap.size W w':=by
 refine⟨h.os,h.tape,h.output,h.low,fun r hr=>?_⟩
 obtain⟨o,ho⟩:∃o,W.heap[r]? =some o:=⟨_,Array.getElem?_eq_getElem hr⟩
 by_cases e:∃c e z,o= .cells c e z
 ·obtain⟨c,e,z,rfl⟩:=e
  rw[hc r c e z ho,ho]
 ·rw[h.obj r o hr ho fun c e1 z e2=>e ⟨c,e1,z,e2⟩,ho]
section
variable{An:G3}{W:World}
def g0M(W:World)(v:Value)(w':World):Prop:=v= .bool true∧∀(r:Nat) (c:Array Value) (e:TypeId) (z:Nat×Nat),W.heap[r]? =some (.cells c e z)→w'.heap[r]? =some (.cells c e z)
def l0b(An:G3)(Post:Value→World→Prop)(g:Goroutine)(w:World):Prop:=g.status= .running∧∀d,∃v,stepG Try.prog true g (w.at d)= .ended (.done v) (w.at d) #[]∧(An.Holds (w.at d)→Post v (w.at d))
end
theorem Try.own:ownKnob Try.prog.godebug=none:=by kernel_rfl
theorem Try.laidOut:laidOutB Try.prog=true:=by kernel_rfl
end
section
open Go.ChangeShapes Go.WideShapes Go.ChangeAt
variable{An:G3}{w w' W w1:World}
structure Bx(b:Nat)(v0 v1 v2 v3:Value)(u:World):Prop where
 h:u.heap[b]? =some (.cells #[v0,v1,v2,v3] 26 (0,0))
 c0:u.cell? ⟨b,0,none⟩=some v0
 c1:u.cell? ⟨b,1,none⟩=some v1
 c2:u.cell? ⟨b,2,none⟩=some v2
 c3:u.cell? ⟨b,3,none⟩=some v3
 z0:u.frozen? ⟨b,0,none⟩=false
 z1:u.frozen? ⟨b,1,none⟩=false
 z2:u.frozen? ⟨b,2,none⟩=false
 z3:u.frozen? ⟨b,3,none⟩=false
theorem Bx.of{b:Nat}{v0 v1 v2 v3:Value}{u:World}(h:u.heap[b]? =some (.cells #[v0,v1,v2,v3] 26 (0,0))):Bx b v0 v1 v2 v3 u:=by
 refine⟨h,?_,?_,?_,?_,?_,?_,?_,?_⟩<;>first|(simp[World.cell?,h];done)|(simp[World.frozen?,h];done)
theorem Bx.at{b:Nat}{v0 v1 v2 v3:Value}{u:World}(h:Bx b v0 v1 v2 v3 u)(d:Nat):Bx b v0 v1 v2 v3 (u.at d):=.of h.h
theorem j02:O1 16:=G2 Try.func16 rfl rfl
def S8l:List Nat:=[14,16,21,22,29,50,51,83,84,85,86,104,105,106,107,112]
theorem r08:Z5 Try.prog (fun f=>S8l.contains f) true:=a0b (x:=[]) (fun f h=>by cases h) (by kernel_rfl)
section
variable{va ta sa:Option Addr}{vc tl tc sc n tb o M:Nat}{vs:List Int}{mo:Int}{oa:Nat→Option Addr}{ol oc:Nat→Nat}{ops:Nat→List P3}{S:List Int}
theorem o5.kept8(h:o5 w va vs)(hold:∀(r:Nat) (c:Array Value) (e:TypeId) (z:Nat×Nat),w.heap[r]? =some (.cells c e z)→w'.heap[r]? =some (.cells c e z)):o5 w' va vs:=fun i x hx=>by
 obtain⟨b,o,e,h1⟩:=h i x hx
 refine⟨b,o,e,?_⟩
 obtain⟨c,e2,z,ho⟩:=M3 h1
 have:=hold _ _ _ _ ho
 rw[← h1];unfold World.cell?;simp only[this,ho]
theorem s0x(h:o5 w va vs):B5 w va (vs.map fun v=>vI v):=⟨fun k x hx=>by
 rw[List.getElem?_map,Option.map_eq_some_iff]at hx
 obtain⟨y,hy,rfl⟩:=hx
 exact h k y hy⟩
theorem p5.same{Wp u u':World}{v:Value}{s0:GS SPl}(h:p5 Wp ops n M S s0 v u)(e:u'.heap=u.heap):p5 Wp ops n M S s0 v u':=by
 obtain⟨s,order,xa,oa',sa',xc,oc',sc',Y,va,vc,h1,h2,h3,h4,h5,h6,h7,h8,h9,h10⟩:=h
 have key:∀{e:TypeId} {n size:Nat} {v:Value} {xs:List Value},u.ownsRow 0 e size v n xs→u'.ownsRow 0 e size v n xs:=fun h=>T5 h fun _ _ _ _=>by rw[e]
 exact⟨s,order,xa,oa',sa',xc,oc',sc',Y,va,vc,h1,h2,h3,key h4,key h5,key h6,fun i hi=>⟨key (h7 i hi).1,(h7 i hi).2.1,fun a ha=>key ((h7 i hi).2.2 a ha)⟩,fun r hr=>by rw[e];exact h8 r hr,by rw[e];exact h9,h10⟩
theorem p5.old{Wp u:World}{v:Value}{s0:GS SPl}(h:p5 Wp ops n M S s0 v u):∀r,r<Wp.heap.size→u.heap[r]? =Wp.heap[r]?:=by
 obtain⟨_,_,_,_,_,_,_,_,_,_,_,_,_,_,_,_,_,_,h8,_,_⟩:=h
 exact h8
theorem p5.size{Wp u:World}{v:Value}{s0:GS SPl}(h:p5 Wp ops n M S s0 v u):Wp.heap.size≤u.heap.size:=by
 obtain⟨_,_,_,_,_,_,_,_,_,_,_,_,_,_,_,_,_,_,_,h9,_⟩:=h
 exact h9
end
end
section
variable{w w':World}
theorem p08{base n size:Nat}{e:TypeId}{v:Value}{xs:List Value}(h:w.ownsRow base e size v n xs)(hk:∀b c,v.ownBlock=some b→w.heap[b]? =some (.cells c e (0,0))→w'.heap[b]? =w.heap[b]?):w'.ownsRow base e size v n xs:=by
 refine⟨h.1,?_⟩
 rcases h.2 with h2|⟨b,cap,cur,rfl,h3,h4,h5⟩
 ·exact .inl h2
 ·exact .inr ⟨b,cap,cur,rfl,h3,(hk b cur rfl h4).trans h4,h5⟩
structure g0K(w:World)(x:Value)(m size:Nat)(news:List Value):Prop where
 h:(x= .slice none 0 0∧m=0∧news=[])∨∃a c,x= .slice (some a) m c∧news.length=m*size∧∀j u,news[j]? =some u→w.cell? (a.add j)=some u
 o:∀u∈news,u.oneCell'=true
theorem k0u{base n m size g cap:Nat}{e:TypeId}{xs ys:List Value}(h:w.ownsRow base e size (vL g 0 (n+m) cap) (n+m) (xs++ys))(hl:xs.length=n*size):w.ownsRow base e size (vL g 0 n cap) n xs:=by
 rcases h.2 with⟨h1,h2⟩|⟨b,cap',cur,h1,h2,h3,h4,h5,h6,h7⟩
 ·cases h1
 ·cases h1
  refine⟨hl,.inr ⟨g,cap,cur,rfl,h2,h3,by omega,h5,h6,?_⟩⟩
  have:(cur.toList.take ((n+m)*size)).take (n*size)=xs:=by
   rw[h7,← hl]
   exact List.take_left
  rw[List.take_take,Nat.min_eq_left (Nat.mul_le_mul_right _ (by omega))]at this
  exact this
theorem f0d{P:Program}{w:World}(t ty e:TypeId)(i:TypeInfo)(z:Value)(size bytes:Nat)(ht:P.underlying t=some (.slice e))(hi:P.info? e=some i)(hz:i.zero=some z)
 (hsize:i.size=size) (hby:i.bytes=bytes) (hzs:z.cells.size=size) (hsz:0<size)
 (v:Value) (n:Nat) (xs:List Value) (hown:w.ownsRow 0 e size v n xs) (x:Value) (m:Nat) (news:List Value) (hs:g0K w x m size news) (h63:n+m≤maxLen) (hbytes:(n+m)*bytes≤140737488355328):
 ∃v' w',(Builtin.append_ #[t,t] ty #[v,x]).run P w= .ok v' w'∧w'.ownsRow 0 e size v' (n+m) (xs++news)∧w.grownBy w' v.ownBlock∧(v'.ownBlock=v.ownBlock∨∃g,v'.ownBlock=some g∧w.heap.size≤g)∧w'.ownsRow 0 e size v n xs:=by
 rcases hs.h with⟨rfl,rfl,rfl⟩|⟨a,c,rfl,hl,hnews⟩
 ·refine⟨v,w,run_append_owned_none (P:=P) w 0 t ty e i size ht hi v n xs hown,by simpa using hown,⟨rfl,rfl,rfl,Nat.le_refl _,fun _ _ _=>rfl⟩,.inl rfl,hown⟩
 ·rcases hown.2 with⟨rfl,rfl⟩|⟨g,cap,cur,rfl,h2,h3,h4,h5,h6,h7⟩
  ·obtain⟨v',w',r1,r2,r3,r4⟩:=G6 (P:=P) (w:=w) t ty e i z size bytes ht hi hz hsize hby hzs hsz _ 0 xs hown a m c news hl hnews hs.o h63 hbytes
   exact⟨v',w',r1,r2,r3,r4,⟨hown.1,.inl ⟨rfl,rfl⟩⟩⟩
  ·by_cases hroom:n+m≤cap
   ·obtain⟨w',hr,r1,r2⟩:=run_append_own_spare (P:=P) w 0 t ty e i size ht hi hsize g n cap xs hown a m c news hl hnews hs.o hroom
    exact⟨_,w',hr,r1,r2,.inl rfl,k0u r1 hown.1⟩
   ·obtain⟨v',w',hrun,r1,r2⟩:=run_append_arg_grows (P:=P) w t ty e i z size bytes ht hi hz hsize hby hzs hsz ⟨g,0,none⟩ n cap xs hown.1 (c0Z hown) a m c news hl hnews (by omega) h63 hbytes
    refine⟨v',w',hrun,j4 (Nat.zero_le _) r1,⟨r2.os,r2.tape,r2.output,r2.size,fun k hk _=>r2.block k hk (by simp)⟩,?_,p08 hown fun b c hb hc=>r2.block b (Q3 hc) (by simp)⟩
    rcases r1.2 with⟨rfl,h0⟩|⟨g',cap',cur',rfl,h2,_⟩
    ·omega
    ·exact .inr ⟨g',rfl,h2⟩
theorem a0O{F:Fz}{t e:TypeId}{sz bytes:Nat}(ht:Try.prog.underlying t=some (.slice e))(hi:∃i z,Try.prog.info? e=some i∧i.zero=some z∧i.size=sz∧i.bytes=bytes∧z.cells.size=sz)(hsz:0<sz)
 {b:Frame} {a:Act} {k:List Item} {cs:List Frame} {ops:Array Oper} {i:Nat} {rest:List Nat} {o:Oper} {main:Bool} {Stop:Goroutine→World→Prop} {s x:Operand} (ho:ops[i]? =some o) (hwn:Region.wanted o (yielded ops a.tmps)=true) (hk:b.kind≠.early)
 (hop:o.op= .call {callee:=.builtin .append,args:= #[s,x],argTypes:= #[t,t]}) (hw:Wf F w) {v xv:Value} {n m:Nat} {xs news:List Value} (hs:a.eval s=v) (hx:a.eval x=xv) (hrow:w.ownsRow 0 e sz v n xs) (hF:∀b,v.ownBlock=some b→F b=none)
 (hsr:g0K w xv m sz news) (b1:n+m≤maxLen) (b2:(n+m)*bytes≤140737488355328)
 (K:∀v' w',w'.ownsRow 0 e sz v' (n+m) (xs++news)→Wf F w'→w.heap.size≤w'.heap.size→(∀r,r<w.heap.size→some r≠v.ownBlock→w'.heap[r]? =w.heap[r]?)→(v'.ownBlock=v.ownBlock∨∃g,v'.ownBlock=some g∧w.heap.size≤g)→J0 Try.prog main F Stop (G (b.at (a.put o.dst v') (.inRegion ops rest::k)) cs) w'):
 J0 Try.prog main F Stop (G (b.at a (.inRegion ops (i::rest)::k)) cs) w:=by
 obtain⟨i0,z0,q1,q2,q3,q4,q5⟩:=hi
 refine d0z ho hwn hk (by rw[hop];rfl) hw fun d=>?_
 have hrowm:(L1 F (w.at d)).ownsRow 0 e sz v n xs:=K0 hrow fun b hb _=>by rw[I2 (hF b hb)];rfl
 have hsrm:g0K (L1 F (w.at d)) xv m sz news:=⟨hsr.h.imp id fun⟨a,c,h1,h2,h3⟩=>⟨a,c,h1,h2,fun j u hu=>(A7 _).trans (h3 j u hu)⟩,hsr.o⟩
 obtain⟨v',u,hr,r1,r2,r3,_⟩:=f0d (P:=Try.prog) (w:=L1 F (w.at d)) t o.type e i0 z0 sz bytes ht q1 q2 q3 q4 q5 hsz v n xs hrowm xv m news hsrm b1 b2
 refine⟨v',u,V6 s x t hop hs hx hr,fun w' hu hg hw'=>?_⟩
 subst hu
 obtain⟨j,hg⟩:=hg
 have hsm:(L1 F (w.at d)).heap.size=w.heap.size:=by rw[M4];rfl
 have hs2:w.heap.size≤w'.heap.size:=by
  have:=r2.size
  rw[hsm,M4]at this
  exact this
 have hn:∀b,v'.ownBlock=some b→F b=none:=fun b hb=>by
  rcases r3 with e|⟨g,e,h⟩
  ·exact hF b (by rw[← e];exact hb)
  ·have hbg:b=g:=by rw[e]at hb;exact(Option.some.inj hb).symm
   rw[hsm]at h
   rw[hbg]
   cases hz:F g with
   | none=>rfl
   | some z=>
     obtain⟨c,e,z0,h2,_⟩:=hw.own g z hz
     have:=(Q3 h2)
     omega
 refine K v' w' (K0 r1 fun b hb _=>(I2 (hn b hb)).symm) hw' hs2 (fun r hr hne=>?_) (r3.imp_right fun⟨g,h1,h2⟩=>⟨g,h1,by rw[hsm]at h2;exact h2⟩)
 exact c0U (w:=w.at d) hg (r2.block r (by rw[hsm];exact hr) hne) hr
end
noncomputable section
variable {cs:List Frame}{main:Bool}{Stop:Goroutine→World→Prop}
variable{F:Fz}{w:World}
theorem p0e:∃i,Try.prog.info? 2=some i∧i.size=1:=by
 obtain⟨i,hi,h⟩:=Option.map_eq_some_iff.1 (show(Try.prog.info? 2).map (·.size)=some 1 by kernel_rfl)
 exact⟨i,hi,h⟩
theorem t0Z{w:World}{es:Array Event}{a:Option Addr}{ol oc m:Nat}(hmc:m≤oc):(Instr.sliceAt 22 (.slice a ol oc) none (some (vI m)) none).events Try.prog w es=es:=by
 obtain⟨i,hi,hs⟩:=p0e
 have hu:Try.prog.underlying 22=some (.slice 2):=Try.underlying22
 have hm:(m:Int)≤oc:=by omega
 simp[Instr.sliceAt,Instr.slice,run_underlying hu,Instr.sliceBounds,Instr.sliceBound,asIntOf,run_sliceBound,sizeOf,typeInfo,hi,hs,hmc,hm]
theorem d07{w:World}{es:Array Event}{b n c:Nat}(hc:n+1≤c):(Instr.sliceAt 22 (vL b 0 (n+1) c) (some (vI 1)) none none).events Try.prog w es=es:=by
 obtain⟨i,hi,hs⟩:=p0e
 have hu:Try.prog.underlying 22=some (.slice 2):=Try.underlying22
 have h1:(1:Int)≤((n+1:Nat):Int):=by omega
 have h2:((n+1:Nat):Int)≤(c:Int):=by omega
 have h3:(n:Int)+1≤(c:Int):=by omega
 have h8:(1:Int)≤(n:Int)+1:=by omega
 have h4:(1:Int)≤(c:Int):=by omega
 have h6:(n:Int)≤(c:Int) - 1:=by omega
 simp[Instr.sliceAt,Instr.slice,run_underlying hu,Instr.sliceBounds,Instr.sliceBound,asIntOf,run_sliceBound,sizeOf,typeInfo,hi,hs,h1,h2,h3,h4,h6,h8,hc]
theorem z0W:Try.prog.built 39 []=some #[vI 0]:=by kernel_rfl
@[go_sem] theorem C0C(w:World):(Instr.build 39 #[]).run Try.prog w= .ok (.agg #[vI 0]) w:=run_build w _ _ _ z0W
@[go_sem] theorem D0N(w:World)(es:Array Event):(Instr.build 39 #[]).events Try.prog w es=es:=l6 w es _ _ _ _ Try.underlying39 z0W
theorem n02{X:World}:(X.alloc (.cells #[] 2)).ownsRow 0 2 1 (vL X.heap.size 0 0 0) 0 []:=
 ⟨rfl,.inr ⟨X.heap.size,0,#[],rfl,Nat.zero_le _,heap_alloc_new _ _,Nat.le_refl _,by decide,rfl,rfl⟩⟩
theorem t01{a:Option Addr}{c:Nat}{xs:List Int}{X:World}(h:o5 X a xs)(h0:a=none→xs=[]∧c=0):g0K X (.slice a xs.length c) xs.length 1 (xs.map fun v=>vI v):=by
 refine⟨?_,fun u hu=>by simp at hu;obtain⟨_,_,rfl⟩:=hu;rfl⟩
 cases a with
 | none=>
   obtain⟨rfl,rfl⟩:=h0 rfl
   exact .inl ⟨rfl,rfl,rfl⟩
 | some y=>
   refine .inr ⟨y,c,rfl,by simp,fun j u hu=>?_⟩
   rw[List.getElem?_map,Option.map_eq_some_iff]at hu
   obtain⟨x,hx,rfl⟩:=hu
   obtain⟨b,o,e,h1⟩:=h j x hx
   cases e
   have e2:(⟨b,o,none⟩:Addr).add j=⟨b,o+j,none⟩:=by unfold Addr.add;split<;>simp_all
   rw[e2]
   exact h1
theorem o5.alloc8{va:Option Addr}{xs:List Int}{X:World}(h:o5 X va xs)(o:Obj):o5 (X.alloc o) va xs:=fun i x hx=>by
 obtain⟨b,q,e,h1⟩:=h i x hx
 exact⟨b,q,e,(O0 h1 o).1⟩
structure In8(w:World)(start:List Int)(ga gc:Nat)(u:World):Prop where
 row:u.ownsRow 0 2 1 (vL ga 0 (start.length+1) gc) (start.length+1) ((start.map fun v=>vI v)++[vI 77])
 size:w.heap.size≤u.heap.size
 old:∀r,r<w.heap.size→u.heap[r]? =w.heap[r]?
 new:w.heap.size≤ga
 cap:(start.length:Int)≤(gc:Int)
theorem x0p{u w2:World}{start:List Int}{va:Option Addr}{vc ga gc:Nat}(hV:X9 w u (.slice va start.length vc) start)(g1:w2.ownsRow 0 2 1 (vL ga 0 (start.length+1) gc) (start.length+1) ((start.map fun v=>vI v)++[vI 77]))(hs:u.heap.size≤w2.heap.size)(ho:∀q,q<u.heap.size→some q≠(Value.slice va start.length vc).ownBlock→w2.heap[q]? =u.heap[q]?)(hf:(Value.slice (some ⟨ga,0,none⟩) (start.length+1) gc).ownBlock=(Value.slice va start.length vc).ownBlock∨∃g,(Value.slice (some ⟨ga,0,none⟩) (start.length+1) gc).ownBlock=some g∧u.heap.size≤g):In8 w start ga gc w2:=by
 have hsz:=hV.size
 refine⟨g1,by omega,fun r hr=>(ho r (by omega) fun e=>by have:=hV.new r e.symm;omega).trans (hV.old r hr),?_,?_⟩
 ·rcases hf with e|⟨g,e,hg⟩
  ·exact hV.new ga (by rw[← e];rfl)
  ·simp only[Value.ownBlock,Option.some.injEq]at e
   omega
 ·rcases g1.2 with⟨e,h⟩|⟨b,cap,cur,e,h3,h4,h5,h6,h7,h8⟩
  ·cases e
  ·cases e
   omega
def m0o:Code:=Try.f130.body.getD .skip
def m0p:=pC [] m0o
theorem z0f:m0p= .region 0 (oC m0p) false:=by kernel_rfl
theorem n0f(args:Array Value):Frame.enter Try.prog 130 args .normal=(Go.Conc.base 130).at {tmps:=args++Array.replicate (9 - args.size) undef,defers:=[]} [.code m0p]:=enter_at args Try.func130 rfl
theorem i0w:O1 130:=G2 Try.func130 rfl rfl
theorem o0F{a:Addr}{v:Option Value}(h:w.cell? a=v)(d:Nat):(w.at d).cell? a=v:=h
theorem o04{a:Addr}{v:Bool}(h:w.frozen? a=v)(d:Nat):(w.at d).frozen? a=v:=h
theorem r03 (a : Addr) (w : World) : (callMethod (.iface 37 (.pointer (some a))) "Step" #[]).run Try.prog w = .ok (.enter 130 #[.pointer (some a)]) w := by kernel_rfl
theorem o0D (a : Addr) (w : World) (es : Array Event) : (callMethod (.iface 37 (.pointer (some a))) "Step" #[]).events Try.prog w es = es := by kernel_rfl
def ctK:StK:=⟨37,130,i0w,r03,o0D⟩
theorem n0T{sb:Nat}{m:Nat}(hm:m<4611686018427387904)(hc:w.cell? ⟨sb,0,none⟩=some (vI m))(hz:w.frozen? ⟨sb,0,none⟩=false)(hnh:¬held F ⟨sb,0,none⟩){c:Frame}(h:J0 Try.prog main F Stop (G (c.finish (.tuple #[])) cs) (w.setCell ⟨sb,0,none⟩ (vI (m+1:Nat)))):
 J0 Try.prog main F Stop (G (Frame.enter Try.prog 130 #[vP sb 0] .normal) (c::cs)) w:=by
 have hw:IntKind.i64.wrap ((m:Int)+1)=((m+1:Nat):Int):=by rw[IntWalk.i64_in _ (by omega)];simp
 rw[n0f]
 walk_nrm
 rw[z0f]
 refine ogR ?_
 simp only[m0p,m0o,Try.f130,zz,Nat.reduceAdd]
 iterate 3 refine oT ?_
 refine oL ?_
 iterate 3 refine oT ?_
 (refine oW fun dd K hK=>?_;have hc0:=(o0F (w:=w) hc dd);have hz0:=(o04 (w:=w) hz dd);go_simp;refine hK _ _ ⟨⟨⟨0,i1 rfl hnh _⟩,fun e he=>by(have hm:=mem_listed he;clear he hK;simp[go_sem,storedEv,hc0,hz0]at hm;subst hm;exact U0 _ _ hnh)⟩,?_⟩;clear hK K hc0 hz0;rw[setCell_at'];refine J0.at ?_ dd)
 refine S0 ?_
 refine Q0 rfl (fun d=>stepG_end) ?_
 refine Q0 rfl (fun d=>stepG_leave (fn:=Try.f130) (v:=.tuple #[]) rfl rfl Try.func130 (by simp[results,Try.f130]) (by simp[results,Try.f130,go_sem])) ?_
 exact h
def j0L(sb m:Nat)(w:World):Prop:=w.heap[sb]? =some (.cells #[vI m] 39 (0,0))
theorem z04(main:Bool)(sb:Nat):R7 (.iface 37 (vP sb 0)) main (some sb) (j0L sb) where
 tick:=fun m w c cs Stop hx hm K=>J2 (K:=ctK) (n0T hm (by simp[World.cell?,show w.heap[sb]? =_ from hx]) (by simp[World.frozen?,show w.heap[sb]? =_ from hx]) (o7 _) (K3 (K:=ctK) (K _ (by
  have hx:w.heap[sb]? =_:=hx
  show(w.setCell ⟨sb,0,none⟩ _).heap[sb]? =_
  rw[U1 hx];rfl) (World.size_setCell _ _ _) fun r hr=>I0 _ _ _ fun e=>hr (by rw[e]))))
 keep:=fun m w w' hx he=>by
  show w'.heap[sb]? =_
  rw[he sb rfl (Q3 hx)];exact hx
def P1:Code:=Try.f4.body.getD .skip
def C0Z:=pC [] P1
def v0p:=pC [zt] P1
def q0G:=pC [zf] P1
def v0t:=pC [zt] q0G
def f0e:=pC [zf,zt,zt] P1
def c00:=pC [zf] v0t
def F0m:=pC [zt] c00
def g0q:=pC [zf] q0G
def j0p:=pC [zf,zf,zt] P1
def g0r:=pC [zf] g0q
def v0q:=pC [zf,zf,zf,zt] P1
def v0u:=pC [zf] g0r
def b0I:=pC [zf,zf,zf,zf,zt] P1
def d0H:=pC [zf] v0u
def q0J:=pC [zt] d0H
def m0n:=pC [zf,zf,zf,zf,zf,zt,zt] P1
def k0L:=pC [zf] q0J
def C00:=pC [zt] k0L
def v0r:=pC [zf,zf,zf,zf,zf,zt,zf,zt,zt] P1
def h0W:=pC [zf] d0H
def v0s:=pC [zf,zf,zf,zf,zf,zf,zt] P1
def k0N:=pC [zf] h0W
def q0H:=pC [zt] k0N
def d0G:=pC [zf,zf,zf,zf,zf,zf,zf,zt,zt] P1
def c01:=pC [zf] q0H
def E09:=pC [zt] c01
def b09:=pC [zf] k0N
def q0I:=pC [zt] b09
def q0F:=pC [zf,zf,zf,zf,zf,zf,zf,zf,zt,zt] P1
def q0C:=pC [zf] q0I
def k0M:=pC [zt] q0C
def J5:=pC [zt] k0M
def k0O:=pC [zt] J5
def h0U:=pC [zf,zf,zf,zf,zf,zf,zf,zf,zt,zf,zt,zt,zt,zt] P1
def q0E:=pC [zf] k0O
def k0P:=pC [zf] J5
def q0D:=pC [zt] k0P
def h0X:=pC [zt] q0D
def R3:=pC [zf,zf,zf,zf,zf,zf,zf,zf,zt,zf,zt,zt,zf,zt,zt,zt] P1
def h0Y:=pC [zf] h0X
def a0n:=pC [zf,zf,zf,zf,zf,zf,zf,zf,zt,zf,zt,zt,zf,zt,zt,zf,zt] P1
def b0n:=pC [zf] h0Y
def F0a:=pC [zt] b0n
def l8:=pC [zf,zf,zf,zf,zf,zf,zf,zf,zt,zf,zt,zt,zf,zf] P1
def B6:=pC [zf] b09
def h0V:=pC [zf,zf,zf,zf,zf,zf,zf,zf,zf,zt] P1
theorem z0d:q0C= .block 0 k0M:=by kernel_rfl
theorem t0O:k0M= .loop J5:=by kernel_rfl
theorem z0e:q0D= .block 1 h0X:=by kernel_rfl
theorem t0Q:R3= .region 14 (oC R3) true:=by kernel_rfl
theorem t0R:a0n= .region 15 (oC a0n) true:=by kernel_rfl
theorem t0P:l8= .region 13 (oC l8) false:=by kernel_rfl
theorem t0S:h0V= .region 17 (oC h0V) true:=by kernel_rfl
theorem n0e(args:Array Value):Frame.enter Try.prog 4 args .normal=(Go.Conc.base 4).at {tmps:=args++Array.replicate (145 - args.size) undef,defers:=[]} [.code C0Z]:=enter_at args Try.func4 rfl
def G4(s:Nat→Value):Array Value:= #[s 0,s 1,s 2,s 3,s 4,s 5,s 6,s 7,s 8,s 9,s 10,s 11,s 12,s 13,s 14,s 15,s 16,s 17,s 18,s 19,s 20,s 21,s 22,s 23,s 24,s 25,s 26,s 27,s 28,s 29,s 30,s 31,s 32,s 33,s 34,s 35,s 36,s 37,s 38,s 39,s 40,s 41,s 42,s 43,s 44,s 45,s 46,s 47,s 48,s 49,s 50,s 51,s 52,s 53,s 54,s 55,s 56,s 57,s 58,s 59,s 60,s 61,s 62,s 63,s 64,s 65,s 66,s 67,s 68,s 69,s 70,s 71,s 72,s 73,s 74,s 75,s 76,s 77,s 78,s 79,s 80,s 81,s 82,s 83,s 84,s 85,s 86,s 87,s 88,s 89,s 90,s 91,s 92,s 93,s 94,s 95,s 96,s 97,s 98,s 99,s 100,s 101,s 102,s 103,s 104,s 105,s 106,s 107,s 108,s 109,s 110,s 111,s 112,s 113,s 114,s 115,s 116,s 117,s 118,s 119,s 120,s 121,s 122,s 123,s 124,s 125,s 126,s 127,s 128,s 129,s 130,s 131,s 132,s 133,s 134,s 135,s 136,s 137,s 138,s 139,s 140,s 141,s 142,s 143,s 144]
theorem D0X{A:Array Value}(h:A.size=145):∃s,A=G4 s:=by
 obtain⟨s,hs,_⟩:=Y4 A h
 exact⟨s,hs⟩
theorem E0Z{sa oa:Option Addr}{sc ol oq:Nat}{start:List Int}
 (h:∀A,G0 145 A [(0,.slice sa start.length sc),(1,.slice oa ol oq)]→J0 Try.prog main F Stop (G (Frame.enter Try.prog 13 #[] .normal) ((bA 4 A [.inRegion (oC f0e) [0,1],.code c00,.code g0q])::cs)) w):
 J0 Try.prog main F Stop (G (Frame.enter Try.prog 4 #[.slice sa start.length sc,.slice oa ol oq] .normal) cs) w:=by
 rw[n0e]
 walk_nrm
 refine ogW v0p q0G ?_
 simp only[v0p,P1,Try.f4,zz,Nat.reduceAdd]
 refine oT ?_
 refine S0<|ogV v0t g0q<|ogW f0e c00 ?_
 simp only[f0e,P1,Try.f4,zz,Nat.reduceAdd]
 refine oc j01 #[] ?_
 refine h _ ?_
 exact⟨rfl,rfl,rfl,trivial⟩
theorem E00{nn:Nat}(hU:P2 F nn)(hn:nn≤w.heap.size){sa oa:Option Addr}{sc ol oq:Nat}{start:List Int}{A:Array Value}(hA:G0 145 A [(0,.slice sa start.length sc),(1,.slice oa ol oq)])
 (h:∀A,G0 145 A [(0,.slice sa start.length sc),(1,.slice oa ol oq)]→J0 Try.prog main F Stop (G (Frame.enter Try.prog 16 #[.slice sa start.length sc,vL w.heap.size 0 1 1,.slice none 0 0,vI 1048576] .normal) ((bA 4 A [.inRegion (oC j0p) [3,4,5],.code g0r])::cs)) (w.alloc (.cells #[.slice oa ol oq] 34))):
 J0 Try.prog main F Stop (G ((bA 4 A [.inRegion (oC f0e) [0,1],.code c00,.code g0q]).finish (.bool true)) cs) w:=by
 obtain⟨s,rfl,h0,h1,_⟩:=Y3 G4 hA
 simp only[G4,h0,h1]
 clear h0 h1
 rw[Frame.finish_at]
 simp only[f0e,P1,Try.f4,zz,Nat.reduceAdd]
 walk_nrm
 refine oT ?_
 refine S0<|ogGn .skip<|ogK<|ogW j0p g0r ?_
 simp only[j0p,P1,Try.f4,zz,Nat.reduceAdd]
 iterate 2 refine oT ?_
 refine oA hU ?_
 refine oc j02 #[.slice sa start.length sc,vL w.heap.size 0 1 1,.slice none 0 0,vI 1048576] ?_
 refine h _ ?_
 exact⟨rfl,rfl,rfl,trivial⟩
theorem E01{n:Nat}(hU:P2 F n)(hn:n≤w.heap.size){sa oa:Option Addr}{sc ol oq:Nat}{start:List Int}{xa ya za:Option Addr}{xl xc yl yc zl zc:Nat}{st:Bool}{A:Array Value}(hA:G0 145 A [(0,.slice sa start.length sc),(1,.slice oa ol oq)])
 (h:∀A,G0 145 A [(0,.slice sa start.length sc),(1,.slice oa ol oq),(5,vP w.heap.size 0)]→J0 Try.prog main F Stop (G (bA 4 A [.code g0r]) cs) (w.alloc (.cells #[.slice xa xl xc,.slice ya yl yc,.slice za zl zc,.bool st] 31))):
 J0 Try.prog main F Stop (G ((bA 4 A [.inRegion (oC j0p) [3,4,5],.code g0r]).finish (.agg #[.slice xa xl xc,.slice ya yl yc,.slice za zl zc,.bool st])) cs) w:=by
 obtain⟨s,rfl,h0,h1,_⟩:=Y3 G4 hA
 simp only[G4,h0,h1]
 clear h0 h1
 rw[Frame.finish_at]
 simp only[j0p,P1,Try.f4,zz,Nat.reduceAdd]
 walk_nrm
 refine oA hU ?_
 (refine oW fun dd K hK=>?_;go_simp;refine hK _ _ ⟨⟨⟨0,e0L (fun k=>Q2 hU (show n≤w.heap.size by omega)) _ _ _ _⟩,fun e he=>by(have hm:=mem_listed he;clear he hK;simp[go_sem,storedEv]at hm;rcases hm with rfl|rfl|rfl|rfl<;>exact U0 _ _ ((fun k=>Q2 hU (show n≤w.heap.size by omega)) _))⟩,?_⟩;clear hK K;simp only[setCell_at'];refine J0.at ?_ dd)
 have e1:=i0i w (.slice none 0 0) (.slice none 0 0) (.slice none 0 0) (.bool false) (.slice xa xl xc) (.slice ya yl yc) (.slice za zl zc) (.bool st)
 rw[e1]
 clear e1
 refine S0 ?_
 refine h _ ?_
 exact⟨rfl,rfl,rfl,rfl,trivial⟩
theorem E02{n:Nat}(hU:P2 F n)(hn:n≤w.heap.size){sa oa:Option Addr}{sc ol oq:Nat}{start:List Int}{x5:Value}(hFa:∀r,F r=none)(hwf:Wf F w)(hin:o5 w sa start)(hnil:sa=none→start=[]∧sc=0)(hlen:start.length≤1048576){A:Array Value}(hA:G0 145 A [(0,.slice sa start.length sc),(1,.slice oa ol oq),(5,x5)])
 (h:∀ga gc w2 A,In8 w start ga gc w2→G0 145 A [(0,.slice sa start.length sc),(1,.slice oa ol oq),(5,x5),(6,vL ga 0 (start.length+1) gc)]→J0 Try.prog main F Stop (G (Frame.enter Try.prog 17 #[vL ga 0 start.length gc] .normal) ((bA 4 A [.inRegion (oC b0I) [4,5,6,7,8,9,10,11],.code d0H])::cs)) w2):
 J0 Try.prog main F Stop (G (bA 4 A [.code g0r]) cs) w:=by
 obtain⟨s,rfl,h0,h1,h5,_⟩:=Y3 G4 hA
 simp only[G4,h0,h1,h5]
 clear h0 h1 h5
 refine ogW v0q v0u ?_
 simp only[v0q,P1,Try.f4,zz,Nat.reduceAdd]
 refine oA hU ?_
 refine oT ?_
 refine a0O (s:=.tmp 20) (x:=.tmp 21) (t:=22) (e:=2) (sz:=1) (bytes:=8) Try.underlying22 i8 (by decide) rfl rfl (by decide) rfl (hwf.of_grew (P0 hU hn _)) (v:=vL w.heap.size 0 0 0) (xv:=.slice sa start.length sc) rfl rfl n02 (fun q hq=>hFa q) (t01 (hin.alloc8 _) hnil) (by unfold maxLen;omega) (by omega) fun v' w' g1 g2 g3 g4 g5=>?_
 have hV:X9 w w' v' start:=⟨by simpa using g1,by simp at g3;omega,fun q hq=>by rw[g4 q (by simp;omega) (by simp[Value.ownBlock];omega),D0 _ _ hq],fun g hg=>by rcases g5 with e|⟨q,e,h⟩;(rw[e]at hg;simp only[Value.ownBlock,Option.some.injEq]at hg;omega);(rw[e]at hg;cases hg;simp at h;omega)⟩
 obtain⟨va,vl,vc,hv⟩:=F3 hV.row
 subst hv
 obtain rfl:vl=start.length:=by
  rcases hV.row.2 with⟨e,h⟩|⟨_,_,_,e,_⟩
  ·cases e;exact h.symm
  ·cases e;rfl
 have hwf1:=g2
 have hs1:w.heap.size≤w'.heap.size:=hV.size
 clear g1 g2 g3 g4 g5 hwf
 walk_nrm
 refine oA hU ?_
 refine a0O (s:=.tmp 22) (x:=.tmp 23) (t:=22) (e:=2) (sz:=1) (bytes:=8) Try.underlying22 i8 (by decide) rfl rfl (by decide) rfl (hwf1.of_grew (P0 hU (show n≤w'.heap.size by omega) _)) (v:=.slice va start.length vc) (xv:=vL w'.heap.size 0 1 1) rfl rfl (hV.row.alloc _) (fun q hq=>hFa q) (n:=start.length) (m:=1) (xs:=start.map fun v=>vI v) (news:=[vI 77]) ⟨.inr ⟨_,1,rfl,rfl,N4 (X:=w') (l:=[vI 77]) rfl⟩,fun u hu=>by simp at hu;subst hu;rfl⟩ (by unfold maxLen;omega) (by omega) fun v2 w2 g1 g2 g3 g4 g5=>?_
 obtain⟨ga,gc,hv2⟩:=j5 g1
 subst hv2
 have hI:In8 w start ga gc w2:=x0p hV g1 (by simp at g3;omega) (fun q hq hn=>by rw[g4 q (by simp;omega) hn,D0 _ _ hq]) (g5.imp id fun⟨q,e,h⟩=>⟨q,e,by simp at h;omega⟩)
 have hgc:(start.length:Int)≤(gc:Int):=hI.cap
 have hse:∀(X:World) (es:Array Event),(Instr.sliceAt 22 (vL ga 0 (start.length+1) gc) none (some (vI (start.length:Nat))) none).events Try.prog X es=es:=fun X es=>t0Z (by omega)
 clear g1 g2 g3 g4 g5 hwf1 hV
 walk_nrm
 refine oT ?_
 refine S0<|ogW b0I d0H ?_
 simp only[b0I,P1,Try.f4,zz,Nat.reduceAdd]
 iterate 3 refine oT ?_
 refine oX ?_
 refine oc Y9 #[vL ga 0 start.length gc] ?_
 refine h ga gc w2 _ hI ?_
 exact⟨rfl,rfl,rfl,rfl,rfl,trivial⟩
theorem E03{sa oa:Option Addr}{sc ol oq:Nat}{start:List Int}{x5:Value}{ga gc lc:Nat}{A:Array Value}(hA:G0 145 A [(0,.slice sa start.length sc),(1,.slice oa ol oq),(5,x5),(6,vL ga 0 (start.length+1) gc)])
 (h:∀A,G0 145 A [(0,.slice sa start.length sc),(1,.slice oa ol oq),(5,x5),(6,vL ga 0 (start.length+1) gc),(29,vP lc 0)]→J0 Try.prog main F Stop (G (Frame.enter Try.prog 17 #[.slice sa start.length sc] .normal) ((bA 4 A [.inRegion (oC b0I) [6,7,8,9,10,11],.code d0H])::cs)) w):
 J0 Try.prog main F Stop (G ((bA 4 A [.inRegion (oC b0I) [4,5,6,7,8,9,10,11],.code d0H]).finish (vP lc 0)) cs) w:=by
 obtain⟨s,rfl,h0,h1,h5,h6,_⟩:=Y3 G4 hA
 simp only[G4,h0,h1,h5,h6]
 clear h0 h1 h5 h6
 rw[Frame.finish_at]
 simp only[b0I,P1,Try.f4,zz,Nat.reduceAdd]
 walk_nrm
 refine oT ?_
 refine oc Y9 #[.slice sa start.length sc] ?_
 refine h _ ?_
 exact⟨rfl,rfl,rfl,rfl,rfl,rfl,trivial⟩
theorem C0Y{n:Nat}(hU:P2 F n)(hn:n≤w.heap.size){sa oa:Option Addr}{sc ol oq:Nat}{start:List Int}{ga gc lc ld bw nw:Nat}(hc3:w.cell? ⟨bw,3,none⟩=some (.bool true)){A:Array Value}(hA:G0 145 A [(0,.slice sa start.length sc),(1,.slice oa ol oq),(5,vP bw 0),(6,vL ga 0 (start.length+1) gc),(29,vP lc 0)])
 (h:∀A,A.getD 4 undef= .bool true→J0 Try.prog main F Stop (G {bA 4 A [.code .ret,.code h0W]with mode:=.returning} cs) (w.alloc (.cells #[vI 0] 39))):
 J0 Try.prog main F Stop (G ((bA 4 A [.inRegion (oC b0I) [6,7,8,9,10,11],.code d0H]).finish (vP ld 0)) cs) w:=by
 obtain⟨s,rfl,h0,h1,h5,h6,h29,_⟩:=Y3 G4 hA
 simp only[G4,h0,h1,h5,h6,h29]
 clear h0 h1 h5 h6 h29
 have hc3:=(O0 hc3 (.cells #[vI 0] 39)).1
 rw[Frame.finish_at]
 simp only[b0I,P1,Try.f4,zz,Nat.reduceAdd]
 walk_nrm
 refine oT ?_
 refine oA hU ?_
 iterate 3 refine oT ?_
 refine S0<|ogV q0J h0W<|ogW m0n k0L ?_
 simp only[m0n,P1,Try.f4,zz,Nat.reduceAdd]
 iterate 8 refine oT ?_
 refine oL ?_
 refine oT ?_
 refine S0<|ogYn C00<|ogW v0r .ret ?_
 simp only[v0r,P1,Try.f4,zz,Nat.reduceAdd]
 refine oT ?_
 refine oL ?_
 refine oT ?_
 refine S0<|ogX ?_
 exact h _ rfl
theorem E04{n:Nat}(hU:P2 F n)(hn:n≤w.heap.size){sa oa:Option Addr}{sc ol oq:Nat}{start:List Int}{ga gc lc ld bw nw:Nat}{za:Option Addr}{zc:Nat}(hc3:w.cell? ⟨bw,3,none⟩=some (.bool false))(hc2:w.cell? ⟨bw,2,none⟩=some (.slice za (nw+1) zc))(h77:w.cell? ⟨ga,start.length,none⟩=some (vI 77))(hnw:nw≤16)(hgl:start.length≤1048576){A:Array Value}(hA:G0 145 A [(0,.slice sa start.length sc),(1,.slice oa ol oq),(5,vP bw 0),(6,vL ga 0 (start.length+1) gc),(29,vP lc 0)])
 (h:∀A,G0 145 A [(0,.slice sa start.length sc),(1,.slice oa ol oq),(5,vP bw 0),(6,vL ga 0 (start.length+1) gc),(7,vP lc 0),(8,vP ld 0),(9,vP w.heap.size 0),(10,vI (nw:Nat)),(56,.bool false)]→J0 Try.prog main F Stop (G (Frame.enter Try.prog 18 #[vP lc 0] .normal) ((bA 4 A [.inRegion (oC d0G) [8,9,10,11,12,13,14,15,16],.code c01,.code b09])::cs)) (w.alloc (.cells #[vI 0] 39))):
 J0 Try.prog main F Stop (G ((bA 4 A [.inRegion (oC b0I) [6,7,8,9,10,11],.code d0H]).finish (vP ld 0)) cs) w:=by
 obtain⟨s,rfl,h0,h1,h5,h6,h29,_⟩:=Y3 G4 hA
 simp only[G4,h0,h1,h5,h6,h29]
 clear h0 h1 h5 h6 h29
 have hc3:=(O0 hc3 (.cells #[vI 0] 39)).1
 have hc2:=(O0 hc2 (.cells #[vI 0] 39)).1
 have h77:=(O0 h77 (.cells #[vI 0] 39)).1
 have hw1:IntKind.i64.wrap (((nw+1:Nat):Int) - 1)=(nw:Int):=by rw[IntWalk.i64_in _ (by omega)];omega
 have hw3:IntKind.i64.wrap (nw:Int)=(nw:Int):=IntWalk.i64_in _ (by omega)
 have hw2:IntKind.i64.wrap ((nw:Int)+1 - 1)=(nw:Int):=by rw[IntWalk.i64_in _ (by omega)];omega
 have hlt:(start.length:Int)<((start.length+1:Nat):Int):=by omega
 have hlt4:(start.length:Int)<(start.length:Int)+1:=by omega
 have hie:∀(X:World) (es:Array Event),(Instr.indexAt 22 (vL ga 0 (start.length+1) gc) (vI (start.length:Nat))).events Try.prog X es=es:=fun X es=>events_indexAt_slice (P:=Try.prog) 22 _ _ _ .i64 _ (by kernel_rfl) ⟨Int.natCast_nonneg _,hlt⟩
 rw[Frame.finish_at]
 simp only[b0I,P1,Try.f4,zz,Nat.reduceAdd]
 walk_nrm
 refine oT ?_
 refine oA hU ?_
 iterate 3 refine oT ?_
 refine S0<|ogV q0J h0W<|ogW m0n k0L ?_
 simp only[m0n,P1,Try.f4,zz,Nat.reduceAdd]
 iterate 8 refine oT ?_
 refine oL ?_
 refine oT ?_
 refine S0<|ogGn .skip<|ogK<|ogW v0s k0N ?_
 simp only[v0s,P1,Try.f4,zz,Nat.reduceAdd]
 refine oT ?_
 refine oL ?_
 iterate 3 refine oT ?_
 refine S0<|ogV q0H b09<|ogW d0G c01 ?_
 simp only[d0G,P1,Try.f4,zz,Nat.reduceAdd]
 iterate 3 refine oT ?_
 refine oX ?_
 refine oL ?_
 iterate 3 refine oT ?_
 refine oc e0o #[vP lc 0] ?_
 refine h _ ?_
 exact⟨rfl,rfl,rfl,rfl,rfl,rfl,rfl,rfl,rfl,rfl,trivial⟩
theorem E05{sa oa:Option Addr}{sc ol oq:Nat}{start:List Int}{ga gc lc ld bw nw cb:Nat}{A:Array Value}(hA:G0 145 A [(0,.slice sa start.length sc),(1,.slice oa ol oq),(5,vP bw 0),(6,vL ga 0 (start.length+1) gc),(7,vP lc 0),(8,vP ld 0),(9,vP cb 0),(10,vI (nw:Nat)),(56,.bool false)])
 (h:∀A,G0 145 A [(0,.slice sa start.length sc),(1,.slice oa ol oq),(5,vP bw 0),(6,vL ga 0 (start.length+1) gc),(7,vP lc 0),(8,vP ld 0),(9,vP cb 0),(10,vI (nw:Nat)),(62,.bool false)]→J0 Try.prog main F Stop (G (Frame.enter Try.prog 19 #[vP lc 0] .normal) ((bA 4 A [.inRegion (oC d0G) [14,15,16],.code c01,.code b09])::cs)) w):
 J0 Try.prog main F Stop (G ((bA 4 A [.inRegion (oC d0G) [8,9,10,11,12,13,14,15,16],.code c01,.code b09]).finish (vI nw)) cs) w:=by
 obtain⟨s,rfl,h0,h1,h5,h6,h7,h8,h9,h10,h56,_⟩:=Y3 G4 hA
 simp only[G4,h0,h1,h5,h6,h7,h8,h9,h10,h56]
 clear h0 h1 h5 h6 h7 h8 h9 h10 h56
 rw[Frame.finish_at]
 simp only[d0G,P1,Try.f4,zz,Nat.reduceAdd]
 walk_nrm
 iterate 5 refine oT ?_
 refine oc callable19 #[vP lc 0] ?_
 refine h _ ?_
 exact⟨rfl,rfl,rfl,rfl,rfl,rfl,rfl,rfl,rfl,rfl,trivial⟩
theorem E06{sa oa:Option Addr}{sc ol oq:Nat}{start:List Int}{ga gc lc ld bw nw cb:Nat}{A:Array Value}(hA:G0 145 A [(0,.slice sa start.length sc),(1,.slice oa ol oq),(5,vP bw 0),(6,vL ga 0 (start.length+1) gc),(7,vP lc 0),(8,vP ld 0),(9,vP cb 0),(10,vI (nw:Nat)),(62,.bool false)])
 (h:∀A,G0 145 A [(1,.slice oa ol oq),(5,vP bw 0),(7,vP lc 0),(8,vP ld 0),(9,vP cb 0),(10,vI (nw:Nat)),(11,vI (0:Nat))]→J0 Try.prog main F Stop (G (bA 4 A [.code J5,.inLoop J5,.inBlock 0,.code B6]) cs) w):
 J0 Try.prog main F Stop (G ((bA 4 A [.inRegion (oC d0G) [14,15,16],.code c01,.code b09]).finish (vI 0)) cs) w:=by
 obtain⟨s,rfl,h0,h1,h5,h6,h7,h8,h9,h10,h62,_⟩:=Y3 G4 hA
 simp only[G4,h0,h1,h5,h6,h7,h8,h9,h10,h62]
 clear h0 h1 h5 h6 h7 h8 h9 h10 h62
 rw[Frame.finish_at]
 simp only[d0G,P1,Try.f4,zz,Nat.reduceAdd]
 walk_nrm
 iterate 2 refine oT ?_
 refine S0<|ogGn .skip<|ogK<|ogV q0I B6<|ogW q0F q0C ?_
 simp only[q0F,P1,Try.f4,zz,Nat.reduceAdd]
 refine oT ?_
 refine S0 ?_
 rw[z0d]
 refine L7 ?_
 rw[t0O]
 refine ogP ?_
 refine h _ ?_
 exact⟨rfl,rfl,rfl,rfl,rfl,rfl,rfl,rfl,trivial⟩
theorem E07{oa:Option Addr}{ol oq:Nat}{lc ld bw nw cb i L:Nat}{xa ya:Option Addr}{rb xc yc:Nat}(hc0:w.cell? ⟨bw,0,none⟩=some (vL rb 0 1 xc))(hr:w.cell? ⟨rb,0,none⟩=some (.slice ya L yc))(hi:i<L){A:Array Value}(hA:G0 145 A [(1,.slice oa ol oq),(5,vP bw 0),(7,vP lc 0),(8,vP ld 0),(9,vP cb 0),(10,vI (nw:Nat)),(11,vI (i:Nat))])
 (h:∀A,G0 145 A [(1,.slice oa ol oq),(5,vP bw 0),(7,vP lc 0),(8,vP ld 0),(9,vP cb 0),(10,vI (nw:Nat)),(11,vI (i:Nat))]→J0 Try.prog main F Stop (G (bA 4 A [.code h0X,.inBlock 1,.code l8,.inLoop J5,.inBlock 0,.code B6]) cs) w):
 J0 Try.prog main F Stop (G (bA 4 A [.code J5,.inLoop J5,.inBlock 0,.code B6]) cs) w:=by
 obtain⟨s,rfl,h1,h5,h7,h8,h9,h10,h11,_⟩:=Y3 G4 hA
 simp only[G4,h1,h5,h7,h8,h9,h10,h11]
 clear h1 h5 h7 h8 h9 h10 h11
 have hlt:decide ((i:Int)<(L:Int))=true:=by simp;omega
 have hlt2:decide (i<L)=true:=by simp;omega
 refine ogV k0O k0P<|ogW h0U q0E ?_
 simp only[h0U,P1,Try.f4,zz,Nat.reduceAdd]
 iterate 2 refine oT ?_
 refine oL ?_
 refine oX ?_
 refine oL ?_
 iterate 2 refine oT ?_
 refine S0<|ogYn .skip<|ogK<|ogV q0D l8 ?_
 rw[z0e]
 refine L7 ?_
 refine h _ ?_
 exact⟨rfl,rfl,rfl,rfl,rfl,rfl,rfl,rfl,trivial⟩
theorem E08{oa:Option Addr}{ol oq:Nat}{lc ld bw nw cb i L:Nat}{xa ya:Option Addr}{rb xc yc:Nat}(hc0:w.cell? ⟨bw,0,none⟩=some (vL rb 0 1 xc))(hr:w.cell? ⟨rb,0,none⟩=some (.slice ya L yc))(hi:i=L){A:Array Value}(hA:G0 145 A [(1,.slice oa ol oq),(5,vP bw 0),(7,vP lc 0),(8,vP ld 0),(9,vP cb 0),(10,vI (nw:Nat)),(11,vI (i:Nat))])
 (h:∀A,G0 145 A [(1,.slice oa ol oq),(5,vP bw 0),(7,vP lc 0),(8,vP ld 0),(9,vP cb 0),(10,vI (nw:Nat)),(11,vI (i:Nat))]→J0 Try.prog main F Stop (G (bA 4 A [.code B6]) cs) w):
 J0 Try.prog main F Stop (G (bA 4 A [.code J5,.inLoop J5,.inBlock 0,.code B6]) cs) w:=by
 obtain⟨s,rfl,h1,h5,h7,h8,h9,h10,h11,_⟩:=Y3 G4 hA
 simp only[G4,h1,h5,h7,h8,h9,h10,h11]
 clear h1 h5 h7 h8 h9 h10 h11
 subst hi
 have hlt:decide ((i:Int)<(i:Int))=false:=by simp
 have hlt2:decide (i<i)=false:=by simp
 refine ogV k0O k0P<|ogW h0U q0E ?_
 simp only[h0U,P1,Try.f4,zz,Nat.reduceAdd]
 iterate 2 refine oT ?_
 refine oL ?_
 refine oX ?_
 refine oL ?_
 iterate 2 refine oT ?_
 refine S0<|ogGn (.exit 0) ?_
 refine Q0 rfl (fun d=>stepG_exit rfl) ?_
 refine h _ ?_
 exact⟨rfl,rfl,rfl,rfl,rfl,rfl,rfl,rfl,trivial⟩
end
section
variable{w w':World}
structure y8(b o:Nat)(x:P3)(w:World):Prop where
 f0:w.cell? ⟨b,o,none⟩=some (vI x.kd)
 f1:w.cell? ⟨b,o+1,none⟩=some (vI x.a)
 f2:w.cell? ⟨b,o+2,none⟩=some (vI x.b)
 f3:w.cell? ⟨b,o+3,none⟩=some (vI x.c)
theorem y8.at{b o:Nat}{x:P3}(h:y8 b o x w)(d:Nat):y8 b o x (w.at d):=⟨h.f0,h.f1,h.f2,h.f3⟩
theorem y8.low{b o:Nat}{x:P3}(h:y8 b o x w):b<w.heap.size:=I9 h.f0
theorem y8.same{b o:Nat}{x:P3}(h:y8 b o x w)(hs:w'.heap[b]? =w.heap[b]?):y8 b o x w':=⟨(F1 hs).1.trans h.f0,(F1 hs).1.trans h.f1,(F1 hs).1.trans h.f2,(F1 hs).1.trans h.f3⟩
structure LsC(w1:World)(B:Nat×Nat×Nat×Nat×Nat)(sc sd:R1)(m:Nat)(u:World):Prop where
 z:SU B.1 ⟨sc,B.2.1,0⟩ u
 l:SU B.2.2.1 ⟨sd,B.2.2.2.1,0⟩ u
 x:j0L B.2.2.2.2 m u
 size:w1.heap.size≤u.heap.size
 o:∀r,r<w1.heap.size→r≠B.1→r≠B.2.1→r≠B.2.2.1→r≠B.2.2.2.1→r≠B.2.2.2.2→u.heap[r]? =w1.heap[r]?
structure CNe(w1:World)(lc wc ld wd cb:Nat):Prop where
 hc:lc<w1.heap.size
 hwc:wc<w1.heap.size
 hd:ld<w1.heap.size
 hwd:wd<w1.heap.size
 hb:cb<w1.heap.size
 n1:lc≠ld
 n2:lc≠wd
 n3:wc≠ld
 n4:wc≠wd
 n5:cb≠lc
 n6:cb≠wc
 n7:cb≠ld
 n8:cb≠wd
structure x6(w1:World)(lc wc ld wd cb:Nat)(an:SAn)(sc sd:R1)(m:Nat)(x1 x2:Option SA)(xo yo:Option Nat)(u:World):Prop where
 b:LsC w1 (lc,wc,ld,wd,cb) sc sd m u
 a1:∀a,x1=some a→a.an=an∧SAU a u∧∀g,a.row.ownBlock=some g→w1.heap.size≤g
 a2:∀a,x2=some a→a.an=an∧SAU a u∧∀g,a.row.ownBlock=some g→w1.heap.size≤g
 x:∀b,xo=some b→w1.heap.size≤b∧u.heap[b]? =some (.cells #[.bool false,vI 0,.slice none 0 0] 44 (0,0))
 y:∀b,yo=some b→w1.heap.size≤b∧u.heap[b]? =some (.cells #[.bool false,vI 0,.slice none 0 0] 44 (0,0))
 xy:∀b,xo=some b→yo≠some b
section
variable{w1 u u':World}{lc wc ld wd cb m nw:Nat}{an:SAn}{sc sd s:R1}{x1 x2:Option SA}{xo yo:Option Nat}{o:P3}
theorem LsC.above(h:LsC w1 (lc,wc,ld,wd,cb) sc sd m u)(C:CNe w1 lc wc ld wd cb)(hs:∀r,r<w1.heap.size→u'.heap[r]? =u.heap[r]?)(hz:u.heap.size≤u'.heap.size):LsC w1 (lc,wc,ld,wd,cb) sc sd m u':=
 ⟨h.z.same fun r hr=>hs r (by rcases hr with rfl|rfl;exact C.hc;exact C.hwc),h.l.same fun r hr=>hs r (by rcases hr with rfl|rfl;exact C.hd;exact C.hwd),(hs cb C.hb).trans h.x,Nat.le_trans h.size hz,fun r hr a b c d e=>(hs r hr).trans (h.o r hr a b c d e)⟩
theorem T9{a:SA}(h:SAU a u)(hs:∀(b:Nat) (c:Array Value),u.heap[b]? =some (.cells c 2 (0,0))→u'.heap[b]? =u.heap[b]?):SAU a u':=T5 h fun b c hb _=>hs b c hb
theorem x6.grow(h:x6 w1 lc wc ld wd cb an sc sd m x1 x2 xo yo u)(C:CNe w1 lc wc ld wd cb)(hs:∀r,r<u.heap.size→u'.heap[r]? =u.heap[r]?)(hz:u.heap.size≤u'.heap.size):x6 w1 lc wc ld wd cb an sc sd m x1 x2 xo yo u':=by
 have hlt:∀{r:Nat} {x:Obj},u.heap[r]? =some x→u'.heap[r]? =u.heap[r]?:=fun hr=>hs _ (Q3 hr)
 exact⟨h.b.above C (fun r hr=>hs r (Nat.lt_of_lt_of_le hr h.b.size)) hz,fun a ha=>⟨(h.a1 a ha).1,T9 (h.a1 a ha).2.1 fun b c hb=>hlt hb,(h.a1 a ha).2.2⟩,fun a ha=>⟨(h.a2 a ha).1,T9 (h.a2 a ha).2.1 fun b c hb=>hlt hb,(h.a2 a ha).2.2⟩,fun b hb=>⟨(h.x b hb).1,(hlt (h.x b hb).2).trans (h.x b hb).2⟩,fun b hb=>⟨(h.y b hb).1,(hlt (h.y b hb).2).trans (h.y b hb).2⟩,h.xy⟩
theorem x6.at(h:x6 w1 lc wc ld wd cb an sc sd m x1 x2 xo yo u)(C:CNe w1 lc wc ld wd cb)(d:Nat):x6 w1 lc wc ld wd cb an sc sd m x1 x2 xo yo (u.at d):=h.grow C (fun _ _=>rfl) (Nat.le_refl _)
theorem x6.allocX(h:x6 w1 lc wc ld wd cb an sc sd m x1 x2 none yo u)(C:CNe w1 lc wc ld wd cb):x6 w1 lc wc ld wd cb an sc sd m x1 x2 (some u.heap.size) yo (u.alloc (.cells #[.bool false,vI 0,.slice none 0 0] 44)):=by
 have g:=h.grow C (u':=u.alloc (.cells #[.bool false,vI 0,.slice none 0 0] 44)) (fun r hr=>D0 _ _ hr) (by simp)
 refine⟨g.b,g.a1,g.a2,fun b hb=>?_,g.y,fun b hb e=>?_⟩
 ·cases hb
  exact⟨h.b.size,heap_alloc_new _ _⟩
 ·cases hb
  have:=(Array.getElem?_eq_some_iff.1 (h.y _ e).2).1
  omega
theorem x6.allocY(h:x6 w1 lc wc ld wd cb an sc sd m x1 x2 xo none u)(C:CNe w1 lc wc ld wd cb):x6 w1 lc wc ld wd cb an sc sd m x1 x2 xo (some u.heap.size) (u.alloc (.cells #[.bool false,vI 0,.slice none 0 0] 44)):=by
 have g:=h.grow C (u':=u.alloc (.cells #[.bool false,vI 0,.slice none 0 0] 44)) (fun r hr=>D0 _ _ hr) (by simp)
 refine⟨g.b,g.a1,g.a2,g.x,fun b hb=>?_,fun b hb e=>?_⟩
 ·cases hb
  exact⟨h.b.size,heap_alloc_new _ _⟩
 ·cases e
  have:=(Array.getElem?_eq_some_iff.1 (h.x _ hb).2).1
  omega
theorem b0i(C:CNe w1 lc wc ld wd cb)(h:x6 w1 lc wc ld wd cb an s sd m none x2 xo yo w)(hev:s.ver.tmod 2=0)(hl:s.ws.length=nw)(ha:(s.call1 nw o).2.1=an){c:Frame}{cs:List Frame}{main:Bool}{Stop:Goroutine→World→Prop}
 (K:∀w' la ll lq,x6 w1 lc wc ld wd cb an (s.call1 nw o).1 sd m (some ⟨an,la,ll,lq⟩) x2 xo yo w'→J0 Try.prog main F0 Stop (G (c.finish (.agg #[.bool an.1,vI an.2.1,.slice la ll lq])) cs) w'):
 J0 Try.prog main F0 Stop (G (Frame.enter Try.prog 20 #[vP lc 0,.nilIface,.agg #[vI o.kd,vI o.a,vI o.b,vI o.c],vI (nw:Nat)] .normal) (c::cs)) w:=by
 have hz:=h.b.size
 refine g0j (n:=nw) (e0W main) (s:=⟨s,wc,0⟩) ⟨h.b.z,trivial,Nat.le_refl _,fun _ _ _ _ _=>rfl⟩ (m:=0) (fun _ h=>by cases h) (fun _ h=>by cases h) hev (by decide) hl.symm fun w' la ll lq a hau hn=>?_
 have ha':(s.call1 nw ⟨o.kd,o.a,o.b,o.c⟩).2.1=an:=ha
 have hau:SAU ⟨(s.call1 nw ⟨o.kd,o.a,o.b,o.c⟩).2.1,la,ll,lq⟩ w':=hau
 have hk:∀r,r<w.heap.size→r≠lc→r≠wc→w'.heap[r]? =w.heap[r]?:=fun r hr h1 h2=>a.o r hr (by simp) h1 h2
 have hlt:∀{r:Nat} {x:Obj},w.heap[r]? =some x→r≠lc→r≠wc→w'.heap[r]? =w.heap[r]?:=fun hr h1 h2=>hk _ (Q3 hr) h1 h2
 have hC:=C.hc
 have hC2:=C.hwc
 have hCb:=C.hb
 simp only[ha']at hau ⊢
 refine K w' la ll lq ⟨⟨a.u,h.b.l.same fun r hr=>hk r (h.b.l.low hr) (by rcases hr with rfl|rfl;exact C.n1.symm;exact C.n2.symm) (by rcases hr with rfl|rfl;exact C.n3.symm;exact C.n4.symm),(hk cb (by omega) C.n5 C.n6).trans h.b.x,Nat.le_trans hz a.sz,fun r hr h1 h2 h3 h4 h5=>(hk r (by omega) h1 h2).trans (h.b.o r hr h1 h2 h3 h4 h5)⟩,fun q hq=>?_,fun q hq=>⟨(h.a2 q hq).1,K0 (h.a2 q hq).2.1 fun g hg _=>hk g (b0m (h.a2 q hq).2.1 hg) (by have:=(h.a2 q hq).2.2 g hg;omega) (by have:=(h.a2 q hq).2.2 g hg;omega),(h.a2 q hq).2.2⟩,fun b hb=>⟨(h.x b hb).1,(hlt (h.x b hb).2 (by have:=(h.x b hb).1;omega) (by have:=(h.x b hb).1;omega)).trans (h.x b hb).2⟩,fun b hb=>⟨(h.y b hb).1,(hlt (h.y b hb).2 (by have:=(h.y b hb).1;omega) (by have:=(h.y b hb).1;omega)).trans (h.y b hb).2⟩,h.xy⟩
 cases hq
 exact⟨rfl,hau,fun g hg=>by have:=hn g hg;omega⟩
theorem b0j(C:CNe w1 lc wc ld wd cb)(h:x6 w1 lc wc ld wd cb an sc s m x1 none xo yo w)(hev:s.ver.tmod 2=0)(hl:s.ws.length=nw)(hm:m+64<4611686018427387904)(ha:(s.call1 nw o).2.1=an){c:Frame}{cs:List Frame}{main:Bool}{Stop:Goroutine→World→Prop}
 (K:∀w' la ll lq,x6 w1 lc wc ld wd cb an sc (s.call1 nw o).1 (m+(s.call1 nw o).2.2) x1 (some ⟨an,la,ll,lq⟩) xo yo w'→J0 Try.prog main F0 Stop (G (c.finish (.agg #[.bool an.1,vI an.2.1,.slice la ll lq])) cs) w'):
 J0 Try.prog main F0 Stop (G (Frame.enter Try.prog 20 #[vP ld 0,.iface 37 (vP cb 0),.agg #[vI o.kd,vI o.a,vI o.b,vI o.c],vI (nw:Nat)] .normal) (c::cs)) w:=by
 have hz:=h.b.size
 have hCb:=C.hb
 refine g0j (n:=nw) (z04 main cb) (s:=⟨s,wd,0⟩) ⟨h.b.l,h.b.x,Nat.le_refl _,fun _ _ _ _ _=>rfl⟩ (m:=m) (fun b hb hr=>by cases hb;rcases hr with e|e;exact C.n7 e;exact C.n8 e) (fun b hb=>by cases hb;omega) hev hm hl.symm fun w' la ll lq a hau hn=>?_
 have ha':(s.call1 nw ⟨o.kd,o.a,o.b,o.c⟩).2.1=an:=ha
 have hau:SAU ⟨(s.call1 nw ⟨o.kd,o.a,o.b,o.c⟩).2.1,la,ll,lq⟩ w':=hau
 have hk:∀r,r<w.heap.size→r≠ld→r≠wd→r≠cb→w'.heap[r]? =w.heap[r]?:=fun r hr h1 h2 h3=>a.o r hr (by intro e;cases e;exact h3 rfl) h1 h2
 have hlt:∀{r:Nat} {x:Obj},w.heap[r]? =some x→r≠ld→r≠wd→r≠cb→w'.heap[r]? =w.heap[r]?:=fun hr h1 h2 h3=>hk _ (Q3 hr) h1 h2 h3
 have hC:=C.hd
 have hC2:=C.hwd
 simp only[ha']at hau ⊢
 refine K w' la ll lq ⟨⟨h.b.z.same fun r hr=>hk r (h.b.z.low hr) (by rcases hr with rfl|rfl;exact C.n1;exact C.n3) (by rcases hr with rfl|rfl;exact C.n2;exact C.n4) (by rcases hr with rfl|rfl;exact C.n5.symm;exact C.n6.symm),a.u,a.x,Nat.le_trans hz a.sz,fun r hr h1 h2 h3 h4 h5=>(hk r (by omega) h3 h4 h5).trans (h.b.o r hr h1 h2 h3 h4 h5)⟩,fun q hq=>⟨(h.a1 q hq).1,K0 (h.a1 q hq).2.1 fun g hg _=>hk g (b0m (h.a1 q hq).2.1 hg) (by have:=(h.a1 q hq).2.2 g hg;omega) (by have:=(h.a1 q hq).2.2 g hg;omega) (by have:=(h.a1 q hq).2.2 g hg;omega),(h.a1 q hq).2.2⟩,fun q hq=>?_,fun b hb=>⟨(h.x b hb).1,(hlt (h.x b hb).2 (by have:=(h.x b hb).1;omega) (by have:=(h.x b hb).1;omega) (by have:=(h.x b hb).1;omega)).trans (h.x b hb).2⟩,fun b hb=>⟨(h.y b hb).1,(hlt (h.y b hb).2 (by have:=(h.y b hb).1;omega) (by have:=(h.y b hb).1;omega) (by have:=(h.y b hb).1;omega)).trans (h.y b hb).2⟩,h.xy⟩
 cases hq
 exact⟨rfl,hau,fun g hg=>by have:=hn g hg;omega⟩
end
structure b0P(w1:World)(lc wc ld wd cb nw m:Nat)(s:R1)(an:SAn)(o:P3)(pb po:Nat):Prop where
 C:CNe w1 lc wc ld wd cb
 ev:s.ver.tmod 2=0
 len:s.ws.length=nw
 hm:m+64<4611686018427387904
 an:(s.call1 nw o).2.1=an
 op:y8 pb po o w1
 pn:pb≠lc∧pb≠wc∧pb≠ld∧pb≠wd∧pb≠cb
theorem b0P.F{w1 u:World}{lc wc ld wd cb nw m m' pb po:Nat}{s sc sd:R1}{an:SAn}{o:P3}(P:b0P w1 lc wc ld wd cb nw m s an o pb po)(h:LsC w1 (lc,wc,ld,wd,cb) sc sd m' u):y8 pb po o u:=P.op.same (h.o pb P.op.low P.pn.1 P.pn.2.1 P.pn.2.2.1 P.pn.2.2.2.1 P.pn.2.2.2.2)
abbrev LE(v1:Value)(bw lc ld cb nw i:Nat):List (Nat×Value):=[(1,v1),(5,vP bw 0),(7,vP lc 0),(8,vP ld 0),(9,vP cb 0),(10,vI (nw:Nat)),(11,vI (i:Nat))]
def c0O(w1:World)(lc wc ld wd cb nw m:Nat)(s:R1)(an:SAn)(o:P3)(L:List (Nat×Value))(Z:Act→World→Prop):Prop:=
 ∀(A:Array Value) (w':World) (x y:Nat) (la1 la2:Option Addr) (ll1 ll2 lc1 lc2:Nat),G0 145 A ((91,.agg #[.bool an.1,vI an.2.1,.slice la2 ll2 lc2])::(12,vP x 0)::(13,vP y 0)::L)→
  LsC w1 (lc,wc,ld,wd,cb) (s.call1 nw o).1 (s.call1 nw o).1 (m+(s.call1 nw o).2.2) w'→SAU ⟨an,la1,ll1,lc1⟩ w'→SAU ⟨an,la2,ll2,lc2⟩ w'→w1.heap.size≤x→w1.heap.size≤y→x≠y→w'.heap[x]? =some (.cells #[.bool an.1,vI an.2.1,.slice la1 ll1 lc1] 44 (0,0))→w'.heap[y]? =some (.cells #[.bool false,vI 0,.slice none 0 0] 44 (0,0))→Z ⟨A,[]⟩ w'
section
variable{w1:World}{lc wc ld wd cb nw m pb po i bw:Nat}{s:R1}{an:SAn}{o:P3}{v1:Value}{main:Bool}{ops:Array Oper}{Z:Act→World→Prop}
theorem g0U(ho:ops=(oC R3))(P:b0P w1 lc wc ld wd cb nw m s an o pb po){x y:Nat}{la1:Option Addr}{ll1 lc1:Nat}{la2:Option Addr}{ll2 lc2:Nat}(h:x6 w1 lc wc ld wd cb an (s.call1 nw o).1 (s.call1 nw o).1 (m+(s.call1 nw o).2.2) (some ⟨an,la1,ll1,lc1⟩) (some ⟨an,la2,ll2,lc2⟩) (some x) (some y) w)(hZ:∀a w d,Z a w→Z a (World.at w d))(K:c0O w1 lc wc ld wd cb nw m s an o (LE v1 bw lc ld cb nw i) Z)
 {A:Array Value} (hA:G0 145 A ((82,.agg #[.bool an.1,vI an.2.1,.slice la1 ll1 lc1])::(91,.agg #[.bool an.1,vI an.2.1,.slice la2 ll2 lc2])::(12,vP x 0)::(13,vP y 0)::LE v1 bw lc ld cb nw i)):R6 Try.prog main F0 4 ops (y8 pb po o) 19 Z 1 #[true,true,true,true,true,true,true,true,true,true,true,true,true,true,true,true,true,true,false,false] ⟨A,[]⟩ w:=by
 obtain⟨t,rfl,k82,k91,k12,k13,k1,k5,k7,k8,k9,k10,k11,_⟩:=Y3 G4 hA
 simp only[G4,k82,k91,k12,k13,k1,k5,k7,k8,k9,k10,k11]
 clear k82 k91 k12 k13 k1 k5 k7 k8 k9 k10 k11
 have hS:∀u d,y8 pb po o u→y8 pb po o (World.at u d):=fun u d h=>h.at d
 subst ho
 simp only[R3,P1,Try.f4,zz,Nat.reduceAdd]
 refine Z2 (r:=[18]) (by kernel_rfl) (by kernel_rfl) (fun i hi hil=>?_)
 simp only[List.mem_cons,List.not_mem_nil,or_false]at hi
 subst hi
 ·obtain⟨hx1,hx2⟩:=h.x x rfl
  obtain⟨hy1,hy2⟩:=h.y y rfl
  have hne:x≠y:=fun e=>h.xy x rfl (by rw[e])
  obtain⟨_,u1,_⟩:=h.a1 _ rfl
  obtain⟨_,u2,_⟩:=h.a2 _ rfl
  refine W7 rfl rfl (fun d K' hK'=>?_)
  have c1:(w.at d).cell? ⟨x,0,none⟩=some (.bool false):=(V1 hx2 (j:=0) rfl).1
  have c2:(w.at d).cell? ⟨x,1,none⟩=some (vI 0):=(V1 hx2 (j:=1) rfl).1
  have c3:(w.at d).cell? ⟨x,2,none⟩=some (.slice none 0 0):=(V1 hx2 (j:=2) rfl).1
  have z1:(w.at d).frozen? ⟨x,0,none⟩=false:=(V1 hx2 (j:=0) rfl).2
  have z2:(w.at d).frozen? ⟨x,1,none⟩=false:=(V1 hx2 (j:=1) rfl).2
  have z3:(w.at d).frozen? ⟨x,2,none⟩=false:=(V1 hx2 (j:=2) rfl).2
  have d1:w.cell? ⟨x,0,none⟩=some (.bool false):=c1
  have d2:w.cell? ⟨x,1,none⟩=some (vI 0):=c2
  have d3:w.cell? ⟨x,2,none⟩=some (.slice none 0 0):=c3
  have z4:w.frozen? ⟨x,0,none⟩=false:=z1
  have z5:w.frozen? ⟨x,1,none⟩=false:=z2
  have z6:w.frozen? ⟨x,2,none⟩=false:=z3
  go_simp
  have hh:∀r:Nat,r≠x→(((w.setCell ⟨x,0,none⟩ (.bool an.1)).setCell ⟨x,1,none⟩ (vI an.2.1)).setCell ⟨x,2,none⟩ (.slice la1 ll1 lc1)).heap[r]? =w.heap[r]?:=fun r hr=>by rw[I0 _ _ _ hr,I0 _ _ _ hr,I0 _ _ _ hr]
  have hR:LsC w1 (lc,wc,ld,wd,cb) (s.call1 nw o).1 (s.call1 nw o).1 (m+(s.call1 nw o).2.2) (((w.setCell ⟨x,0,none⟩ (.bool an.1)).setCell ⟨x,1,none⟩ (vI an.2.1)).setCell ⟨x,2,none⟩ (.slice la1 ll1 lc1)):=h.b.above P.C (fun r hr=>hh r (by omega)) (by simp)
  have hrow:∀(b:Nat) (c:Array Value),w.heap[b]? =some (.cells c 2 (0,0))→(((w.setCell ⟨x,0,none⟩ (.bool an.1)).setCell ⟨x,1,none⟩ (vI an.2.1)).setCell ⟨x,2,none⟩ (.slice la1 ll1 lc1)).heap[b]? =w.heap[b]?:=fun b c hb=>hh b (fun e=>by rw[e,hx2]at hb;simp at hb)
  have hxx:(((w.setCell ⟨x,0,none⟩ (.bool an.1)).setCell ⟨x,1,none⟩ (vI an.2.1)).setCell ⟨x,2,none⟩ (.slice la1 ll1 lc1)).heap[x]? =some (.cells #[.bool an.1,vI an.2.1,.slice la1 ll1 lc1] 44 (0,0)):=by
   have h1:=U1 (o:=0) hx2 (.bool an.1)
   have h2:=U1 (o:=1) h1 (vI an.2.1)
   have h3:=U1 (o:=2) h2 (.slice la1 ll1 lc1)
   exact h3
  refine hK' _ _ ⟨⟨⟨0,K6 (fun k=>o7 _) _ _ _⟩,fun e he=>by(have hm:=mem_listed he;clear he hK';simp[go_sem,storedEv,d1,d2,d3,z4,z5,z6]at hm;rcases hm with rfl|rfl|rfl<;>exact U0 _ _ (o7 _))⟩,?_⟩
  clear hK' K'
  simp only[setCell_at']
  refine⟨P.F (hR.above P.C (fun _ _=>rfl) (Nat.le_refl _)),?_⟩
  refine X4 hS hZ _ _ _ _ ?_ d
  refine F9 (by kernel_rfl) ?_ _
  exact K _ _ x y la1 la2 ll1 ll2 lc1 lc2 ⟨rfl,rfl,rfl,rfl,rfl,rfl,rfl,rfl,rfl,rfl,rfl,trivial⟩ hR (T9 u1 hrow) (T9 u2 hrow) hx1 hy1 hne hxx ((hh y (Ne.symm hne)).trans hy2)
theorem l0w(ho:ops=(oC R3))(P:b0P w1 lc wc ld wd cb nw m s an o pb po){x:Nat}{la1:Option Addr}{ll1 lc1:Nat}{la2:Option Addr}{ll2 lc2:Nat}(h:x6 w1 lc wc ld wd cb an (s.call1 nw o).1 (s.call1 nw o).1 (m+(s.call1 nw o).2.2) (some ⟨an,la1,ll1,lc1⟩) (some ⟨an,la2,ll2,lc2⟩) (some x) none w)(hZ:∀a w d,Z a w→Z a (World.at w d))(K:c0O w1 lc wc ld wd cb nw m s an o (LE v1 bw lc ld cb nw i) Z)
 {A:Array Value} (hA:G0 145 A ((82,.agg #[.bool an.1,vI an.2.1,.slice la1 ll1 lc1])::(91,.agg #[.bool an.1,vI an.2.1,.slice la2 ll2 lc2])::(12,vP x 0)::LE v1 bw lc ld cb nw i)):R6 Try.prog main F0 4 ops (y8 pb po o) 19 Z 2 #[true,true,true,true,true,true,true,true,true,true,true,true,true,true,true,true,true,false,false,false] ⟨A,[]⟩ w:=by
 obtain⟨t,rfl,k82,k91,k12,k1,k5,k7,k8,k9,k10,k11,_⟩:=Y3 G4 hA
 simp only[G4,k82,k91,k12,k1,k5,k7,k8,k9,k10,k11]
 clear k82 k91 k12 k1 k5 k7 k8 k9 k10 k11
 have hS:∀u d,y8 pb po o u→y8 pb po o (World.at u d):=fun u d h=>h.at d
 subst ho
 simp only[R3,P1,Try.f4,zz,Nat.reduceAdd]
 refine Z2 (r:=[17]) (by kernel_rfl) (by kernel_rfl) (fun i hi hil=>?_)
 simp only[List.mem_cons,List.not_mem_nil,or_false]at hi
 subst hi
 ·refine W7 rfl rfl (fun d K' hK'=>?_)
  go_simp
  refine hK' _ _ ⟨⟨⟨0,P0 J1 (Nat.zero_le _) _⟩,fun e he=>by(have hm:=mem_listed he;simp[go_sem]at hm)⟩,P.F ((h.allocY P.C).at P.C d).b,?_⟩
  clear hK' K'
  rw[alloc_at']
  refine X4 hS hZ _ _ _ _ ?_ d
  walk_nrm
  refine g0U (by kernel_rfl) P (h.allocY P.C) hZ K ?_
  exact⟨rfl,rfl,rfl,rfl,rfl,rfl,rfl,rfl,rfl,rfl,rfl,rfl,trivial⟩
theorem l0v(ho:ops=(oC R3))(P:b0P w1 lc wc ld wd cb nw m s an o pb po){y:Nat}{la1:Option Addr}{ll1 lc1:Nat}{la2:Option Addr}{ll2 lc2:Nat}(h:x6 w1 lc wc ld wd cb an (s.call1 nw o).1 (s.call1 nw o).1 (m+(s.call1 nw o).2.2) (some ⟨an,la1,ll1,lc1⟩) (some ⟨an,la2,ll2,lc2⟩) none (some y) w)(hZ:∀a w d,Z a w→Z a (World.at w d))(K:c0O w1 lc wc ld wd cb nw m s an o (LE v1 bw lc ld cb nw i) Z)
 {A:Array Value} (hA:G0 145 A ((82,.agg #[.bool an.1,vI an.2.1,.slice la1 ll1 lc1])::(91,.agg #[.bool an.1,vI an.2.1,.slice la2 ll2 lc2])::(13,vP y 0)::LE v1 bw lc ld cb nw i)):R6 Try.prog main F0 4 ops (y8 pb po o) 19 Z 2 #[true,true,true,true,true,true,true,true,true,true,true,true,true,true,true,true,false,true,false,false] ⟨A,[]⟩ w:=by
 obtain⟨t,rfl,k82,k91,k13,k1,k5,k7,k8,k9,k10,k11,_⟩:=Y3 G4 hA
 simp only[G4,k82,k91,k13,k1,k5,k7,k8,k9,k10,k11]
 clear k82 k91 k13 k1 k5 k7 k8 k9 k10 k11
 have hS:∀u d,y8 pb po o u→y8 pb po o (World.at u d):=fun u d h=>h.at d
 subst ho
 simp only[R3,P1,Try.f4,zz,Nat.reduceAdd]
 refine Z2 (r:=[16]) (by kernel_rfl) (by kernel_rfl) (fun i hi hil=>?_)
 simp only[List.mem_cons,List.not_mem_nil,or_false]at hi
 subst hi
 ·refine W7 rfl rfl (fun d K' hK'=>?_)
  go_simp
  refine hK' _ _ ⟨⟨⟨0,P0 J1 (Nat.zero_le _) _⟩,fun e he=>by(have hm:=mem_listed he;simp[go_sem]at hm)⟩,P.F ((h.allocX P.C).at P.C d).b,?_⟩
  clear hK' K'
  rw[alloc_at']
  refine X4 hS hZ _ _ _ _ ?_ d
  walk_nrm
  refine g0U (by kernel_rfl) P (h.allocX P.C) hZ K ?_
  exact⟨rfl,rfl,rfl,rfl,rfl,rfl,rfl,rfl,rfl,rfl,rfl,rfl,trivial⟩
theorem s0j(ho:ops=(oC R3))(P:b0P w1 lc wc ld wd cb nw m s an o pb po){la1:Option Addr}{ll1 lc1:Nat}{la2:Option Addr}{ll2 lc2:Nat}(h:x6 w1 lc wc ld wd cb an (s.call1 nw o).1 (s.call1 nw o).1 (m+(s.call1 nw o).2.2) (some ⟨an,la1,ll1,lc1⟩) (some ⟨an,la2,ll2,lc2⟩) none none w)(hZ:∀a w d,Z a w→Z a (World.at w d))(K:c0O w1 lc wc ld wd cb nw m s an o (LE v1 bw lc ld cb nw i) Z)
 {A:Array Value} (hA:G0 145 A ((82,.agg #[.bool an.1,vI an.2.1,.slice la1 ll1 lc1])::(91,.agg #[.bool an.1,vI an.2.1,.slice la2 ll2 lc2])::LE v1 bw lc ld cb nw i)):R6 Try.prog main F0 4 ops (y8 pb po o) 19 Z 3 #[true,true,true,true,true,true,true,true,true,true,true,true,true,true,true,true,false,false,false,false] ⟨A,[]⟩ w:=by
 obtain⟨t,rfl,k82,k91,k1,k5,k7,k8,k9,k10,k11,_⟩:=Y3 G4 hA
 simp only[G4,k82,k91,k1,k5,k7,k8,k9,k10,k11]
 clear k82 k91 k1 k5 k7 k8 k9 k10 k11
 have hS:∀u d,y8 pb po o u→y8 pb po o (World.at u d):=fun u d h=>h.at d
 subst ho
 simp only[R3,P1,Try.f4,zz,Nat.reduceAdd]
 refine Z2 (r:=[16,17]) (by kernel_rfl) (by kernel_rfl) (fun i hi hil=>?_)
 simp only[List.mem_cons,List.not_mem_nil,or_false]at hi
 rcases hi with rfl|rfl
 ·refine W7 rfl rfl (fun d K' hK'=>?_)
  go_simp
  refine hK' _ _ ⟨⟨⟨0,P0 J1 (Nat.zero_le _) _⟩,fun e he=>by(have hm:=mem_listed he;simp[go_sem]at hm)⟩,P.F ((h.allocX P.C).at P.C d).b,?_⟩
  clear hK' K'
  rw[alloc_at']
  refine X4 hS hZ _ _ _ _ ?_ d
  walk_nrm
  refine l0w (by kernel_rfl) P (h.allocX P.C) hZ K ?_
  exact⟨rfl,rfl,rfl,rfl,rfl,rfl,rfl,rfl,rfl,rfl,rfl,trivial⟩
 ·refine W7 rfl rfl (fun d K' hK'=>?_)
  go_simp
  refine hK' _ _ ⟨⟨⟨0,P0 J1 (Nat.zero_le _) _⟩,fun e he=>by(have hm:=mem_listed he;simp[go_sem]at hm)⟩,P.F ((h.allocY P.C).at P.C d).b,?_⟩
  clear hK' K'
  rw[alloc_at']
  refine X4 hS hZ _ _ _ _ ?_ d
  walk_nrm
  refine l0v (by kernel_rfl) P (h.allocY P.C) hZ K ?_
  exact⟨rfl,rfl,rfl,rfl,rfl,rfl,rfl,rfl,rfl,rfl,rfl,trivial⟩
theorem g0T(ho:ops=(oC R3))(P:b0P w1 lc wc ld wd cb nw m s an o pb po){x y:Nat}{la1:Option Addr}{ll1 lc1:Nat}(h:x6 w1 lc wc ld wd cb an (s.call1 nw o).1 s m (some ⟨an,la1,ll1,lc1⟩) none (some x) (some y) w)(hZ:∀a w d,Z a w→Z a (World.at w d))(K:c0O w1 lc wc ld wd cb nw m s an o (LE v1 bw lc ld cb nw i) Z)
 {A:Array Value} (hA:G0 145 A ((83,vP ld 0)::(85,.iface 37 (vP cb 0))::(89,.agg #[vI o.kd,vI o.a,vI o.b,vI o.c])::(90,vI (nw:Nat))::(82,.agg #[.bool an.1,vI an.2.1,.slice la1 ll1 lc1])::(12,vP x 0)::(13,vP y 0)::LE v1 bw lc ld cb nw i)):R6 Try.prog main F0 4 ops (y8 pb po o) 19 Z 2 #[true,true,true,true,true,true,true,true,true,true,true,true,true,true,true,false,true,true,false,false] ⟨A,[]⟩ w:=by
 obtain⟨t,rfl,k83,k85,k89,k90,k82,k12,k13,k1,k5,k7,k8,k9,k10,k11,_⟩:=Y3 G4 hA
 simp only[G4,k83,k85,k89,k90,k82,k12,k13,k1,k5,k7,k8,k9,k10,k11]
 clear k83 k85 k89 k90 k82 k12 k13 k1 k5 k7 k8 k9 k10 k11
 have hS:∀u d,y8 pb po o u→y8 pb po o (World.at u d):=fun u d h=>h.at d
 subst ho
 simp only[R3,P1,Try.f4,zz,Nat.reduceAdd]
 refine Z2 (r:=[15]) (by kernel_rfl) (by kernel_rfl) (fun i hi hil=>?_)
 simp only[List.mem_cons,List.not_mem_nil,or_false]at hi
 subst hi
 ·refine⟨_,rfl,.inr (.inr ⟨rfl,20,#[vP ld 0,.iface 37 (vP cb 0),.agg #[vI o.kd,vI o.a,vI o.b,vI o.c],vI (nw:Nat)],fun v w'=>∃la2 ll2 lc2,v= .agg #[.bool an.1,vI an.2.1,.slice la2 ll2 lc2]∧x6 w1 lc wc ld wd cb an (s.call1 nw o).1 (s.call1 nw o).1 (m+(s.call1 nw o).2.2) (some ⟨an,la1,ll1,lc1⟩) (some ⟨an,la2,ll2,lc2⟩) (some x) (some y) w',fun w=>by simp[execOp,Act.eval,resolve,invoke,Deferred.ofValue,callable20.run],fun w=>by simp[execOp,Act.eval,resolve,invoke,Deferred.ofValue,callable20.run,callable20.quiet],fun c cs Stop k=>b0j P.C h P.ev P.len P.hm P.an fun w' la ll lc h'=>k _ _ ⟨la,ll,lc,rfl,h'⟩,?_⟩)⟩
  rintro v w' ⟨la2,ll2,lc2,rfl,h'⟩
  refine⟨P.F h'.b,?_⟩
  walk_nrm
  refine g0U (by kernel_rfl) P h' hZ K ?_
  exact⟨rfl,rfl,rfl,rfl,rfl,rfl,rfl,rfl,rfl,rfl,rfl,rfl,trivial⟩
theorem l0u(ho:ops=(oC R3))(P:b0P w1 lc wc ld wd cb nw m s an o pb po){x:Nat}{la1:Option Addr}{ll1 lc1:Nat}(h:x6 w1 lc wc ld wd cb an (s.call1 nw o).1 s m (some ⟨an,la1,ll1,lc1⟩) none (some x) none w)(hZ:∀a w d,Z a w→Z a (World.at w d))(K:c0O w1 lc wc ld wd cb nw m s an o (LE v1 bw lc ld cb nw i) Z)
 {A:Array Value} (hA:G0 145 A ((83,vP ld 0)::(85,.iface 37 (vP cb 0))::(89,.agg #[vI o.kd,vI o.a,vI o.b,vI o.c])::(90,vI (nw:Nat))::(82,.agg #[.bool an.1,vI an.2.1,.slice la1 ll1 lc1])::(12,vP x 0)::LE v1 bw lc ld cb nw i)):R6 Try.prog main F0 4 ops (y8 pb po o) 19 Z 3 #[true,true,true,true,true,true,true,true,true,true,true,true,true,true,true,false,true,false,false,false] ⟨A,[]⟩ w:=by
 obtain⟨t,rfl,k83,k85,k89,k90,k82,k12,k1,k5,k7,k8,k9,k10,k11,_⟩:=Y3 G4 hA
 simp only[G4,k83,k85,k89,k90,k82,k12,k1,k5,k7,k8,k9,k10,k11]
 clear k83 k85 k89 k90 k82 k12 k1 k5 k7 k8 k9 k10 k11
 have hS:∀u d,y8 pb po o u→y8 pb po o (World.at u d):=fun u d h=>h.at d
 subst ho
 simp only[R3,P1,Try.f4,zz,Nat.reduceAdd]
 refine Z2 (r:=[15,17]) (by kernel_rfl) (by kernel_rfl) (fun i hi hil=>?_)
 simp only[List.mem_cons,List.not_mem_nil,or_false]at hi
 rcases hi with rfl|rfl
 ·refine⟨_,rfl,.inr (.inr ⟨rfl,20,#[vP ld 0,.iface 37 (vP cb 0),.agg #[vI o.kd,vI o.a,vI o.b,vI o.c],vI (nw:Nat)],fun v w'=>∃la2 ll2 lc2,v= .agg #[.bool an.1,vI an.2.1,.slice la2 ll2 lc2]∧x6 w1 lc wc ld wd cb an (s.call1 nw o).1 (s.call1 nw o).1 (m+(s.call1 nw o).2.2) (some ⟨an,la1,ll1,lc1⟩) (some ⟨an,la2,ll2,lc2⟩) (some x) none w',fun w=>by simp[execOp,Act.eval,resolve,invoke,Deferred.ofValue,callable20.run],fun w=>by simp[execOp,Act.eval,resolve,invoke,Deferred.ofValue,callable20.run,callable20.quiet],fun c cs Stop k=>b0j P.C h P.ev P.len P.hm P.an fun w' la ll lc h'=>k _ _ ⟨la,ll,lc,rfl,h'⟩,?_⟩)⟩
  rintro v w' ⟨la2,ll2,lc2,rfl,h'⟩
  refine⟨P.F h'.b,?_⟩
  walk_nrm
  refine l0w (by kernel_rfl) P h' hZ K ?_
  exact⟨rfl,rfl,rfl,rfl,rfl,rfl,rfl,rfl,rfl,rfl,rfl,trivial⟩
 ·refine W7 rfl rfl (fun d K' hK'=>?_)
  go_simp
  refine hK' _ _ ⟨⟨⟨0,P0 J1 (Nat.zero_le _) _⟩,fun e he=>by(have hm:=mem_listed he;simp[go_sem]at hm)⟩,P.F ((h.allocY P.C).at P.C d).b,?_⟩
  clear hK' K'
  rw[alloc_at']
  refine X4 hS hZ _ _ _ _ ?_ d
  walk_nrm
  refine g0T (by kernel_rfl) P (h.allocY P.C) hZ K ?_
  exact⟨rfl,rfl,rfl,rfl,rfl,rfl,rfl,rfl,rfl,rfl,rfl,rfl,rfl,rfl,rfl,trivial⟩
theorem l0t(ho:ops=(oC R3))(P:b0P w1 lc wc ld wd cb nw m s an o pb po){y:Nat}{la1:Option Addr}{ll1 lc1:Nat}(h:x6 w1 lc wc ld wd cb an (s.call1 nw o).1 s m (some ⟨an,la1,ll1,lc1⟩) none none (some y) w)(hZ:∀a w d,Z a w→Z a (World.at w d))(K:c0O w1 lc wc ld wd cb nw m s an o (LE v1 bw lc ld cb nw i) Z)
 {A:Array Value} (hA:G0 145 A ((83,vP ld 0)::(85,.iface 37 (vP cb 0))::(89,.agg #[vI o.kd,vI o.a,vI o.b,vI o.c])::(90,vI (nw:Nat))::(82,.agg #[.bool an.1,vI an.2.1,.slice la1 ll1 lc1])::(13,vP y 0)::LE v1 bw lc ld cb nw i)):R6 Try.prog main F0 4 ops (y8 pb po o) 19 Z 3 #[true,true,true,true,true,true,true,true,true,true,true,true,true,true,true,false,false,true,false,false] ⟨A,[]⟩ w:=by
 obtain⟨t,rfl,k83,k85,k89,k90,k82,k13,k1,k5,k7,k8,k9,k10,k11,_⟩:=Y3 G4 hA
 simp only[G4,k83,k85,k89,k90,k82,k13,k1,k5,k7,k8,k9,k10,k11]
 clear k83 k85 k89 k90 k82 k13 k1 k5 k7 k8 k9 k10 k11
 have hS:∀u d,y8 pb po o u→y8 pb po o (World.at u d):=fun u d h=>h.at d
 subst ho
 simp only[R3,P1,Try.f4,zz,Nat.reduceAdd]
 refine Z2 (r:=[15,16]) (by kernel_rfl) (by kernel_rfl) (fun i hi hil=>?_)
 simp only[List.mem_cons,List.not_mem_nil,or_false]at hi
 rcases hi with rfl|rfl
 ·refine⟨_,rfl,.inr (.inr ⟨rfl,20,#[vP ld 0,.iface 37 (vP cb 0),.agg #[vI o.kd,vI o.a,vI o.b,vI o.c],vI (nw:Nat)],fun v w'=>∃la2 ll2 lc2,v= .agg #[.bool an.1,vI an.2.1,.slice la2 ll2 lc2]∧x6 w1 lc wc ld wd cb an (s.call1 nw o).1 (s.call1 nw o).1 (m+(s.call1 nw o).2.2) (some ⟨an,la1,ll1,lc1⟩) (some ⟨an,la2,ll2,lc2⟩) none (some y) w',fun w=>by simp[execOp,Act.eval,resolve,invoke,Deferred.ofValue,callable20.run],fun w=>by simp[execOp,Act.eval,resolve,invoke,Deferred.ofValue,callable20.run,callable20.quiet],fun c cs Stop k=>b0j P.C h P.ev P.len P.hm P.an fun w' la ll lc h'=>k _ _ ⟨la,ll,lc,rfl,h'⟩,?_⟩)⟩
  rintro v w' ⟨la2,ll2,lc2,rfl,h'⟩
  refine⟨P.F h'.b,?_⟩
  walk_nrm
  refine l0v (by kernel_rfl) P h' hZ K ?_
  exact⟨rfl,rfl,rfl,rfl,rfl,rfl,rfl,rfl,rfl,rfl,rfl,trivial⟩
 ·refine W7 rfl rfl (fun d K' hK'=>?_)
  go_simp
  refine hK' _ _ ⟨⟨⟨0,P0 J1 (Nat.zero_le _) _⟩,fun e he=>by(have hm:=mem_listed he;simp[go_sem]at hm)⟩,P.F ((h.allocX P.C).at P.C d).b,?_⟩
  clear hK' K'
  rw[alloc_at']
  refine X4 hS hZ _ _ _ _ ?_ d
  walk_nrm
  refine g0T (by kernel_rfl) P (h.allocX P.C) hZ K ?_
  exact⟨rfl,rfl,rfl,rfl,rfl,rfl,rfl,rfl,rfl,rfl,rfl,rfl,rfl,rfl,rfl,trivial⟩
theorem s0i(ho:ops=(oC R3))(P:b0P w1 lc wc ld wd cb nw m s an o pb po){la1:Option Addr}{ll1 lc1:Nat}(h:x6 w1 lc wc ld wd cb an (s.call1 nw o).1 s m (some ⟨an,la1,ll1,lc1⟩) none none none w)(hZ:∀a w d,Z a w→Z a (World.at w d))(K:c0O w1 lc wc ld wd cb nw m s an o (LE v1 bw lc ld cb nw i) Z)
 {A:Array Value} (hA:G0 145 A ((83,vP ld 0)::(85,.iface 37 (vP cb 0))::(89,.agg #[vI o.kd,vI o.a,vI o.b,vI o.c])::(90,vI (nw:Nat))::(82,.agg #[.bool an.1,vI an.2.1,.slice la1 ll1 lc1])::LE v1 bw lc ld cb nw i)):R6 Try.prog main F0 4 ops (y8 pb po o) 19 Z 4 #[true,true,true,true,true,true,true,true,true,true,true,true,true,true,true,false,false,false,false,false] ⟨A,[]⟩ w:=by
 obtain⟨t,rfl,k83,k85,k89,k90,k82,k1,k5,k7,k8,k9,k10,k11,_⟩:=Y3 G4 hA
 simp only[G4,k83,k85,k89,k90,k82,k1,k5,k7,k8,k9,k10,k11]
 clear k83 k85 k89 k90 k82 k1 k5 k7 k8 k9 k10 k11
 have hS:∀u d,y8 pb po o u→y8 pb po o (World.at u d):=fun u d h=>h.at d
 subst ho
 simp only[R3,P1,Try.f4,zz,Nat.reduceAdd]
 refine Z2 (r:=[15,16,17]) (by kernel_rfl) (by kernel_rfl) (fun i hi hil=>?_)
 simp only[List.mem_cons,List.not_mem_nil,or_false]at hi
 rcases hi with rfl|rfl|rfl
 ·refine⟨_,rfl,.inr (.inr ⟨rfl,20,#[vP ld 0,.iface 37 (vP cb 0),.agg #[vI o.kd,vI o.a,vI o.b,vI o.c],vI (nw:Nat)],fun v w'=>∃la2 ll2 lc2,v= .agg #[.bool an.1,vI an.2.1,.slice la2 ll2 lc2]∧x6 w1 lc wc ld wd cb an (s.call1 nw o).1 (s.call1 nw o).1 (m+(s.call1 nw o).2.2) (some ⟨an,la1,ll1,lc1⟩) (some ⟨an,la2,ll2,lc2⟩) none none w',fun w=>by simp[execOp,Act.eval,resolve,invoke,Deferred.ofValue,callable20.run],fun w=>by simp[execOp,Act.eval,resolve,invoke,Deferred.ofValue,callable20.run,callable20.quiet],fun c cs Stop k=>b0j P.C h P.ev P.len P.hm P.an fun w' la ll lc h'=>k _ _ ⟨la,ll,lc,rfl,h'⟩,?_⟩)⟩
  rintro v w' ⟨la2,ll2,lc2,rfl,h'⟩
  refine⟨P.F h'.b,?_⟩
  walk_nrm
  refine s0j (by kernel_rfl) P h' hZ K ?_
  exact⟨rfl,rfl,rfl,rfl,rfl,rfl,rfl,rfl,rfl,rfl,trivial⟩
 ·refine W7 rfl rfl (fun d K' hK'=>?_)
  go_simp
  refine hK' _ _ ⟨⟨⟨0,P0 J1 (Nat.zero_le _) _⟩,fun e he=>by(have hm:=mem_listed he;simp[go_sem]at hm)⟩,P.F ((h.allocX P.C).at P.C d).b,?_⟩
  clear hK' K'
  rw[alloc_at']
  refine X4 hS hZ _ _ _ _ ?_ d
  walk_nrm
  refine l0u (by kernel_rfl) P (h.allocX P.C) hZ K ?_
  exact⟨rfl,rfl,rfl,rfl,rfl,rfl,rfl,rfl,rfl,rfl,rfl,rfl,rfl,rfl,trivial⟩
 ·refine W7 rfl rfl (fun d K' hK'=>?_)
  go_simp
  refine hK' _ _ ⟨⟨⟨0,P0 J1 (Nat.zero_le _) _⟩,fun e he=>by(have hm:=mem_listed he;simp[go_sem]at hm)⟩,P.F ((h.allocY P.C).at P.C d).b,?_⟩
  clear hK' K'
  rw[alloc_at']
  refine X4 hS hZ _ _ _ _ ?_ d
  walk_nrm
  refine l0t (by kernel_rfl) P (h.allocY P.C) hZ K ?_
  exact⟨rfl,rfl,rfl,rfl,rfl,rfl,rfl,rfl,rfl,rfl,rfl,rfl,rfl,rfl,trivial⟩
theorem l0s(ho:ops=(oC R3))(P:b0P w1 lc wc ld wd cb nw m s an o pb po){x y:Nat}(h:x6 w1 lc wc ld wd cb an s s m none none (some x) (some y) w)(hZ:∀a w d,Z a w→Z a (World.at w d))(K:c0O w1 lc wc ld wd cb nw m s an o (LE v1 bw lc ld cb nw i) Z)
 {A:Array Value} (hA:G0 145 A ((76,vP lc 0)::(80,.agg #[vI o.kd,vI o.a,vI o.b,vI o.c])::(81,vI (nw:Nat))::(83,vP ld 0)::(85,.iface 37 (vP cb 0))::(89,.agg #[vI o.kd,vI o.a,vI o.b,vI o.c])::(90,vI (nw:Nat))::(12,vP x 0)::(13,vP y 0)::LE v1 bw lc ld cb nw i)):R6 Try.prog main F0 4 ops (y8 pb po o) 19 Z 3 #[true,true,true,true,true,true,false,true,true,true,true,true,true,true,true,false,true,true,false,false] ⟨A,[]⟩ w:=by
 obtain⟨t,rfl,k76,k80,k81,k83,k85,k89,k90,k12,k13,k1,k5,k7,k8,k9,k10,k11,_⟩:=Y3 G4 hA
 simp only[G4,k76,k80,k81,k83,k85,k89,k90,k12,k13,k1,k5,k7,k8,k9,k10,k11]
 clear k76 k80 k81 k83 k85 k89 k90 k12 k13 k1 k5 k7 k8 k9 k10 k11
 have hS:∀u d,y8 pb po o u→y8 pb po o (World.at u d):=fun u d h=>h.at d
 subst ho
 simp only[R3,P1,Try.f4,zz,Nat.reduceAdd]
 refine Z2 (r:=[6]) (by kernel_rfl) (by kernel_rfl) (fun i hi hil=>?_)
 simp only[List.mem_cons,List.not_mem_nil,or_false]at hi
 subst hi
 ·refine⟨_,rfl,.inr (.inr ⟨rfl,20,#[vP lc 0,.nilIface,.agg #[vI o.kd,vI o.a,vI o.b,vI o.c],vI (nw:Nat)],fun v w'=>∃la1 ll1 lc1,v= .agg #[.bool an.1,vI an.2.1,.slice la1 ll1 lc1]∧x6 w1 lc wc ld wd cb an (s.call1 nw o).1 s m (some ⟨an,la1,ll1,lc1⟩) none (some x) (some y) w',fun w=>by simp[execOp,Act.eval,resolve,invoke,Deferred.ofValue,callable20.run],fun w=>by simp[execOp,Act.eval,resolve,invoke,Deferred.ofValue,callable20.run,callable20.quiet],fun c cs Stop k=>b0i P.C h P.ev P.len P.an fun w' la ll lc h'=>k _ _ ⟨la,ll,lc,rfl,h'⟩,?_⟩)⟩
  rintro v w' ⟨la1,ll1,lc1,rfl,h'⟩
  refine⟨P.F h'.b,?_⟩
  walk_nrm
  refine g0T (by kernel_rfl) P h' hZ K ?_
  exact⟨rfl,rfl,rfl,rfl,rfl,rfl,rfl,rfl,rfl,rfl,rfl,rfl,rfl,rfl,rfl,trivial⟩
theorem s0h(ho:ops=(oC R3))(P:b0P w1 lc wc ld wd cb nw m s an o pb po){x:Nat}(h:x6 w1 lc wc ld wd cb an s s m none none (some x) none w)(hZ:∀a w d,Z a w→Z a (World.at w d))(K:c0O w1 lc wc ld wd cb nw m s an o (LE v1 bw lc ld cb nw i) Z)
 {A:Array Value} (hA:G0 145 A ((76,vP lc 0)::(80,.agg #[vI o.kd,vI o.a,vI o.b,vI o.c])::(81,vI (nw:Nat))::(83,vP ld 0)::(85,.iface 37 (vP cb 0))::(89,.agg #[vI o.kd,vI o.a,vI o.b,vI o.c])::(90,vI (nw:Nat))::(12,vP x 0)::LE v1 bw lc ld cb nw i)):R6 Try.prog main F0 4 ops (y8 pb po o) 19 Z 4 #[true,true,true,true,true,true,false,true,true,true,true,true,true,true,true,false,true,false,false,false] ⟨A,[]⟩ w:=by
 obtain⟨t,rfl,k76,k80,k81,k83,k85,k89,k90,k12,k1,k5,k7,k8,k9,k10,k11,_⟩:=Y3 G4 hA
 simp only[G4,k76,k80,k81,k83,k85,k89,k90,k12,k1,k5,k7,k8,k9,k10,k11]
 clear k76 k80 k81 k83 k85 k89 k90 k12 k1 k5 k7 k8 k9 k10 k11
 have hS:∀u d,y8 pb po o u→y8 pb po o (World.at u d):=fun u d h=>h.at d
 subst ho
 simp only[R3,P1,Try.f4,zz,Nat.reduceAdd]
 refine Z2 (r:=[6,17]) (by kernel_rfl) (by kernel_rfl) (fun i hi hil=>?_)
 simp only[List.mem_cons,List.not_mem_nil,or_false]at hi
 rcases hi with rfl|rfl
 ·refine⟨_,rfl,.inr (.inr ⟨rfl,20,#[vP lc 0,.nilIface,.agg #[vI o.kd,vI o.a,vI o.b,vI o.c],vI (nw:Nat)],fun v w'=>∃la1 ll1 lc1,v= .agg #[.bool an.1,vI an.2.1,.slice la1 ll1 lc1]∧x6 w1 lc wc ld wd cb an (s.call1 nw o).1 s m (some ⟨an,la1,ll1,lc1⟩) none (some x) none w',fun w=>by simp[execOp,Act.eval,resolve,invoke,Deferred.ofValue,callable20.run],fun w=>by simp[execOp,Act.eval,resolve,invoke,Deferred.ofValue,callable20.run,callable20.quiet],fun c cs Stop k=>b0i P.C h P.ev P.len P.an fun w' la ll lc h'=>k _ _ ⟨la,ll,lc,rfl,h'⟩,?_⟩)⟩
  rintro v w' ⟨la1,ll1,lc1,rfl,h'⟩
  refine⟨P.F h'.b,?_⟩
  walk_nrm
  refine l0u (by kernel_rfl) P h' hZ K ?_
  exact⟨rfl,rfl,rfl,rfl,rfl,rfl,rfl,rfl,rfl,rfl,rfl,rfl,rfl,rfl,trivial⟩
 ·refine W7 rfl rfl (fun d K' hK'=>?_)
  go_simp
  refine hK' _ _ ⟨⟨⟨0,P0 J1 (Nat.zero_le _) _⟩,fun e he=>by(have hm:=mem_listed he;simp[go_sem]at hm)⟩,P.F ((h.allocY P.C).at P.C d).b,?_⟩
  clear hK' K'
  rw[alloc_at']
  refine X4 hS hZ _ _ _ _ ?_ d
  walk_nrm
  refine l0s (by kernel_rfl) P (h.allocY P.C) hZ K ?_
  exact⟨rfl,rfl,rfl,rfl,rfl,rfl,rfl,rfl,rfl,rfl,rfl,rfl,rfl,rfl,rfl,rfl,rfl,trivial⟩
theorem s0g(ho:ops=(oC R3))(P:b0P w1 lc wc ld wd cb nw m s an o pb po){y:Nat}(h:x6 w1 lc wc ld wd cb an s s m none none none (some y) w)(hZ:∀a w d,Z a w→Z a (World.at w d))(K:c0O w1 lc wc ld wd cb nw m s an o (LE v1 bw lc ld cb nw i) Z)
 {A:Array Value} (hA:G0 145 A ((76,vP lc 0)::(80,.agg #[vI o.kd,vI o.a,vI o.b,vI o.c])::(81,vI (nw:Nat))::(83,vP ld 0)::(85,.iface 37 (vP cb 0))::(89,.agg #[vI o.kd,vI o.a,vI o.b,vI o.c])::(90,vI (nw:Nat))::(13,vP y 0)::LE v1 bw lc ld cb nw i)):R6 Try.prog main F0 4 ops (y8 pb po o) 19 Z 4 #[true,true,true,true,true,true,false,true,true,true,true,true,true,true,true,false,false,true,false,false] ⟨A,[]⟩ w:=by
 obtain⟨t,rfl,k76,k80,k81,k83,k85,k89,k90,k13,k1,k5,k7,k8,k9,k10,k11,_⟩:=Y3 G4 hA
 simp only[G4,k76,k80,k81,k83,k85,k89,k90,k13,k1,k5,k7,k8,k9,k10,k11]
 clear k76 k80 k81 k83 k85 k89 k90 k13 k1 k5 k7 k8 k9 k10 k11
 have hS:∀u d,y8 pb po o u→y8 pb po o (World.at u d):=fun u d h=>h.at d
 subst ho
 simp only[R3,P1,Try.f4,zz,Nat.reduceAdd]
 refine Z2 (r:=[6,16]) (by kernel_rfl) (by kernel_rfl) (fun i hi hil=>?_)
 simp only[List.mem_cons,List.not_mem_nil,or_false]at hi
 rcases hi with rfl|rfl
 ·refine⟨_,rfl,.inr (.inr ⟨rfl,20,#[vP lc 0,.nilIface,.agg #[vI o.kd,vI o.a,vI o.b,vI o.c],vI (nw:Nat)],fun v w'=>∃la1 ll1 lc1,v= .agg #[.bool an.1,vI an.2.1,.slice la1 ll1 lc1]∧x6 w1 lc wc ld wd cb an (s.call1 nw o).1 s m (some ⟨an,la1,ll1,lc1⟩) none none (some y) w',fun w=>by simp[execOp,Act.eval,resolve,invoke,Deferred.ofValue,callable20.run],fun w=>by simp[execOp,Act.eval,resolve,invoke,Deferred.ofValue,callable20.run,callable20.quiet],fun c cs Stop k=>b0i P.C h P.ev P.len P.an fun w' la ll lc h'=>k _ _ ⟨la,ll,lc,rfl,h'⟩,?_⟩)⟩
  rintro v w' ⟨la1,ll1,lc1,rfl,h'⟩
  refine⟨P.F h'.b,?_⟩
  walk_nrm
  refine l0t (by kernel_rfl) P h' hZ K ?_
  exact⟨rfl,rfl,rfl,rfl,rfl,rfl,rfl,rfl,rfl,rfl,rfl,rfl,rfl,rfl,trivial⟩
 ·refine W7 rfl rfl (fun d K' hK'=>?_)
  go_simp
  refine hK' _ _ ⟨⟨⟨0,P0 J1 (Nat.zero_le _) _⟩,fun e he=>by(have hm:=mem_listed he;simp[go_sem]at hm)⟩,P.F ((h.allocX P.C).at P.C d).b,?_⟩
  clear hK' K'
  rw[alloc_at']
  refine X4 hS hZ _ _ _ _ ?_ d
  walk_nrm
  refine l0s (by kernel_rfl) P (h.allocX P.C) hZ K ?_
  exact⟨rfl,rfl,rfl,rfl,rfl,rfl,rfl,rfl,rfl,rfl,rfl,rfl,rfl,rfl,rfl,rfl,rfl,trivial⟩
theorem s0f(ho:ops=(oC R3))(P:b0P w1 lc wc ld wd cb nw m s an o pb po)(h:x6 w1 lc wc ld wd cb an s s m none none none none w)(hZ:∀a w d,Z a w→Z a (World.at w d))(K:c0O w1 lc wc ld wd cb nw m s an o (LE v1 bw lc ld cb nw i) Z)
 {A:Array Value} (hA:G0 145 A ((76,vP lc 0)::(80,.agg #[vI o.kd,vI o.a,vI o.b,vI o.c])::(81,vI (nw:Nat))::(83,vP ld 0)::(85,.iface 37 (vP cb 0))::(89,.agg #[vI o.kd,vI o.a,vI o.b,vI o.c])::(90,vI (nw:Nat))::LE v1 bw lc ld cb nw i)):R6 Try.prog main F0 4 ops (y8 pb po o) 19 Z 5 #[true,true,true,true,true,true,false,true,true,true,true,true,true,true,true,false,false,false,false,false] ⟨A,[]⟩ w:=by
 obtain⟨t,rfl,k76,k80,k81,k83,k85,k89,k90,k1,k5,k7,k8,k9,k10,k11,_⟩:=Y3 G4 hA
 simp only[G4,k76,k80,k81,k83,k85,k89,k90,k1,k5,k7,k8,k9,k10,k11]
 clear k76 k80 k81 k83 k85 k89 k90 k1 k5 k7 k8 k9 k10 k11
 have hS:∀u d,y8 pb po o u→y8 pb po o (World.at u d):=fun u d h=>h.at d
 subst ho
 simp only[R3,P1,Try.f4,zz,Nat.reduceAdd]
 refine Z2 (r:=[6,16,17]) (by kernel_rfl) (by kernel_rfl) (fun i hi hil=>?_)
 simp only[List.mem_cons,List.not_mem_nil,or_false]at hi
 rcases hi with rfl|rfl|rfl
 ·refine⟨_,rfl,.inr (.inr ⟨rfl,20,#[vP lc 0,.nilIface,.agg #[vI o.kd,vI o.a,vI o.b,vI o.c],vI (nw:Nat)],fun v w'=>∃la1 ll1 lc1,v= .agg #[.bool an.1,vI an.2.1,.slice la1 ll1 lc1]∧x6 w1 lc wc ld wd cb an (s.call1 nw o).1 s m (some ⟨an,la1,ll1,lc1⟩) none none none w',fun w=>by simp[execOp,Act.eval,resolve,invoke,Deferred.ofValue,callable20.run],fun w=>by simp[execOp,Act.eval,resolve,invoke,Deferred.ofValue,callable20.run,callable20.quiet],fun c cs Stop k=>b0i P.C h P.ev P.len P.an fun w' la ll lc h'=>k _ _ ⟨la,ll,lc,rfl,h'⟩,?_⟩)⟩
  rintro v w' ⟨la1,ll1,lc1,rfl,h'⟩
  refine⟨P.F h'.b,?_⟩
  walk_nrm
  refine s0i (by kernel_rfl) P h' hZ K ?_
  exact⟨rfl,rfl,rfl,rfl,rfl,rfl,rfl,rfl,rfl,rfl,rfl,rfl,rfl,trivial⟩
 ·refine W7 rfl rfl (fun d K' hK'=>?_)
  go_simp
  refine hK' _ _ ⟨⟨⟨0,P0 J1 (Nat.zero_le _) _⟩,fun e he=>by(have hm:=mem_listed he;simp[go_sem]at hm)⟩,P.F ((h.allocX P.C).at P.C d).b,?_⟩
  clear hK' K'
  rw[alloc_at']
  refine X4 hS hZ _ _ _ _ ?_ d
  walk_nrm
  refine s0h (by kernel_rfl) P (h.allocX P.C) hZ K ?_
  exact⟨rfl,rfl,rfl,rfl,rfl,rfl,rfl,rfl,rfl,rfl,rfl,rfl,rfl,rfl,rfl,rfl,trivial⟩
 ·refine W7 rfl rfl (fun d K' hK'=>?_)
  go_simp
  refine hK' _ _ ⟨⟨⟨0,P0 J1 (Nat.zero_le _) _⟩,fun e he=>by(have hm:=mem_listed he;simp[go_sem]at hm)⟩,P.F ((h.allocY P.C).at P.C d).b,?_⟩
  clear hK' K'
  rw[alloc_at']
  refine X4 hS hZ _ _ _ _ ?_ d
  walk_nrm
  refine s0g (by kernel_rfl) P (h.allocY P.C) hZ K ?_
  exact⟨rfl,rfl,rfl,rfl,rfl,rfl,rfl,rfl,rfl,rfl,rfl,rfl,rfl,rfl,rfl,rfl,trivial⟩
end
end
section
variable {cs:List Frame}{main:Bool}{Stop:Goroutine→World→Prop}
variable{F:Fz}{w:World}
structure l7(w u:World):Prop where
 s:w.heap.size≤u.heap.size
 o:∀r,r<w.heap.size→u.heap[r]? =w.heap[r]?
theorem l7.refl(w:World):l7 w w:=⟨Nat.le_refl _,fun _ _=>rfl⟩
theorem l7.at{u:World}(h:l7 w u)(d:Nat):l7 w (u.at d):=⟨h.s,h.o⟩
theorem l7.c{u:World}{a:Addr}{v:Value}(h:l7 w u)(hc:w.cell? a=some v):u.cell? a=some v:=by
 obtain⟨c,e,z,ho⟩:=M3 hc
 have h1:=h.o _ (Q3 ho)
 rw[← hc];unfold World.cell?;simp only[h1]
theorem l7.alloc{u:World}(h:l7 w u)(o:Obj):l7 w (u.alloc o):=⟨by have:=h.s;simp;omega,fun r hr=>(D0 _ _ (Nat.lt_of_lt_of_le hr h.s)).trans (h.o r hr)⟩
theorem l7.trans{u v:World}(h:l7 w u)(k:l7 u v):l7 w v:=⟨Nat.le_trans h.s k.s,fun r hr=>(k.o r (Nat.lt_of_lt_of_le hr h.s)).trans (h.o r hr)⟩
theorem l7.heap{u v:World}(h:l7 w u)(e:v.heap=u.heap):l7 w v:=⟨by rw[e];exact h.s,fun r hr=>by rw[e];exact h.o r hr⟩
theorem C0T{oo ol oq lc wc ld wd cb pb i bw nw m:Nat}{s:R1}{an:SAn}{o:P3}(hi:i<ol)(P:b0P w lc wc ld wd cb nw m s an o pb (oo+i*4))(hl:LsC w (lc,wc,ld,wd,cb) s s m w){A:Array Value}(hA:G0 145 A [(1,vL pb oo ol oq),(5,vP bw 0),(7,vP lc 0),(8,vP ld 0),(9,vP cb 0),(10,vI (nw:Nat)),(11,vI (i:Nat))])
 (K:c0O w lc wc ld wd cb nw m s an o (LE (vL pb oo ol oq) bw lc ld cb nw i) fun a w'=>J0 Try.prog main F0 Stop (G ((Go.Conc.base 4).at a [.inRegion (oC R3) [19],.code h0Y,.inBlock 1,.code l8,.inLoop J5,.inBlock 0,.code B6]) cs) w'):
 J0 Try.prog main F0 Stop (G (bA 4 A [.code h0X,.inBlock 1,.code l8,.inLoop J5,.inBlock 0,.code B6]) cs) w:=by
 have hs:=P.op
 have hS:∀u d,y8 pb (oo+i*4) o u→y8 pb (oo+i*4) o (World.at u d):=fun u d h=>h.at d
 obtain⟨t,rfl,h1,h5,h7,h8,h9,h10,h11,_⟩:=Y3 G4 hA
 simp only[G4,h1,h5,h7,h8,h9,h10,h11]
 clear h1 h5 h7 h8 h9 h10 h11
 refine ogV R3 h0Y ?_
 rw[t0Q]
 refine T8 (y8 pb (oo+i*4) o) (last:=19) x4 (z8 (by kernel_rfl)) (by decide) ?_
 simp only[R3,P1,Try.f4,zz,Nat.reduceAdd]
 refine c9 0 (vP lc 0) hS hs ?_
 walk_nrm
 refine c9 1 (vL pb oo ol oq) hS hs ?_
 walk_nrm
 refine c9 2 (vI (i:Nat)) hS hs ?_
 walk_nrm
 refine t09 3 (vP pb (oo+i*4)) (fun u hu=>hi) hS hs ?_
 walk_nrm
 refine V9 4 (.agg #[vI o.kd,vI o.a,vI o.b,vI o.c]) (fun u hu=>(And.intro hu.f0 (And.intro hu.f1 (And.intro hu.f2 hu.f3)))) hS hs ?_
 walk_nrm
 refine c9 5 (vI (nw:Nat)) hS hs ?_
 walk_nrm
 refine c9 7 (vP ld 0) hS hs ?_
 walk_nrm
 refine c9 8 (vP cb 0) hS hs ?_
 walk_nrm
 refine c9 9 (.iface 37 (vP cb 0)) hS hs ?_
 walk_nrm
 refine c9 10 (vL pb oo ol oq) hS hs ?_
 walk_nrm
 refine c9 11 (vI (i:Nat)) hS hs ?_
 walk_nrm
 refine t09 12 (vP pb (oo+i*4)) (fun u hu=>hi) hS hs ?_
 walk_nrm
 refine V9 13 (.agg #[vI o.kd,vI o.a,vI o.b,vI o.c]) (fun u hu=>(And.intro hu.f0 (And.intro hu.f1 (And.intro hu.f2 hu.f3)))) hS hs ?_
 walk_nrm
 refine c9 14 (vI (nw:Nat)) hS hs ?_
 walk_nrm
 refine s0f (by kernel_rfl) P ⟨hl,(fun _ h=>by cases h),(fun _ h=>by cases h),(fun _ h=>by cases h),(fun _ h=>by cases h),(fun _ h=>by cases h)⟩ (fun a w d h=>h.at d) K ?_
 exact⟨rfl,rfl,rfl,rfl,rfl,rfl,rfl,rfl,rfl,rfl,rfl,rfl,rfl,rfl,rfl,trivial⟩
theorem C0U{v1:Value}{lc ld cb i bw nw x y:Nat}{an:SAn}{la2:Option Addr}{ll2 lc2:Nat}(hy:w.heap[y]? =some (.cells #[.bool false,vI 0,.slice none 0 0] 44 (0,0))){A:Array Value}(hA:G0 145 A ((91,.agg #[.bool an.1,vI an.2.1,.slice la2 ll2 lc2])::(12,vP x 0)::(13,vP y 0)::LE v1 bw lc ld cb nw i))
 (h:∀(A:Array Value) (Y:World),Y.heap.size=w.heap.size→(∀r,r≠y→Y.heap[r]? =w.heap[r]?)→Y.heap[y]? =some (.cells #[.bool an.1,vI an.2.1,.slice la2 ll2 lc2] 44 (0,0))→G0 145 A ((12,vP x 0)::(13,vP y 0)::LE v1 bw lc ld cb nw i)→J0 Try.prog main F0 Stop (G (bA 4 A [.code a0n,.code b0n,.inBlock 1,.code l8,.inLoop J5,.inBlock 0,.code B6]) cs) Y):
 J0 Try.prog main F0 Stop (G (bA 4 A [.inRegion (oC R3) [19],.code h0Y,.inBlock 1,.code l8,.inLoop J5,.inBlock 0,.code B6]) cs) w:=by
 obtain⟨t,rfl,k91,k12,k13,k1,k5,k7,k8,k9,k10,k11,_⟩:=Y3 G4 hA
 simp only[G4,k91,k12,k13,k1,k5,k7,k8,k9,k10,k11]
 clear k91 k12 k13 k1 k5 k7 k8 k9 k10 k11
 obtain⟨c0,z0⟩:=V1 hy (j:=0) rfl
 obtain⟨c1,z1⟩:=V1 hy (j:=1) rfl
 obtain⟨c2,z2⟩:=V1 hy (j:=2) rfl
 have hh:∀r:Nat,r≠y→(((w.setCell ⟨y,0,none⟩ (.bool an.1)).setCell ⟨y,1,none⟩ (vI an.2.1)).setCell ⟨y,2,none⟩ (.slice la2 ll2 lc2)).heap[r]? =w.heap[r]?:=fun r hr=>by rw[I0 _ _ _ hr,I0 _ _ _ hr,I0 _ _ _ hr]
 have hyy:(((w.setCell ⟨y,0,none⟩ (.bool an.1)).setCell ⟨y,1,none⟩ (vI an.2.1)).setCell ⟨y,2,none⟩ (.slice la2 ll2 lc2)).heap[y]? =some (.cells #[.bool an.1,vI an.2.1,.slice la2 ll2 lc2] 44 (0,0)):=U1 (o:=2) (U1 (o:=1) (U1 (o:=0) hy (.bool an.1)) (vI an.2.1)) (.slice la2 ll2 lc2)
 have hsz:(((w.setCell ⟨y,0,none⟩ (.bool an.1)).setCell ⟨y,1,none⟩ (vI an.2.1)).setCell ⟨y,2,none⟩ (.slice la2 ll2 lc2)).heap.size=w.heap.size:=by simp
 simp only[R3,P1,Try.f4,zz,Nat.reduceAdd]
 (refine oW fun dd K hK=>?_;go_simp;refine hK _ _ ⟨⟨⟨0,K6 (fun k=>o7 _) _ _ _⟩,fun e he=>by(have hm:=mem_listed he;clear he hK;simp[go_sem,storedEv,c0,c1,c2,z0,z1,z2]at hm;rcases hm with rfl|rfl|rfl<;>exact U0 _ _ (o7 _))⟩,?_⟩;clear hK K;simp only[setCell_at'];refine J0.at ?_ dd)
 refine S0 ?_
 generalize (((w.setCell ⟨y,0,none⟩ (.bool an.1)).setCell ⟨y,1,none⟩ (vI an.2.1)).setCell ⟨y,2,none⟩ (.slice la2 ll2 lc2))=Y at hh hyy hsz ⊢
 refine ogV a0n b0n ?_
 refine h _ Y hsz hh hyy ?_
 exact⟨rfl,rfl,rfl,rfl,rfl,rfl,rfl,rfl,rfl,rfl,trivial⟩
theorem j0n{u:World}{p q:Nat}{an:SAn}{la1 la2 la3:Option Addr}{ll1 lc1 ll2 lc2 ll3 lc3:Nat}(hp:u.heap[p]? =some (.cells #[.bool an.1,vI an.2.1,.slice la1 ll1 lc1,.bool an.1,vI an.2.1,.slice la2 ll2 lc2] 44 (0,0)))(hq:u.heap[q]? =some (.cells #[.bool an.1,vI an.2.1,.slice la3 ll3 lc3,.bool an.1,vI an.2.1,.slice la3 ll3 lc3] 44 (0,0)))(h1:SAL ⟨an,la1,ll1,lc1⟩ u)(h2:SAL ⟨an,la2,ll2,lc2⟩ u)(h3:SAL ⟨an,la3,ll3,lc3⟩ u)(hl:an.2.2.length<100000000):
 Y6 Try.prog Try.f21 #[vL p 0 2 2,vL q 0 2 2] u fun x w'=>x= .bool true∧w'.heap=u.heap:=by
 have key:∀{b:Nat} {a c:SA},u.heap[b]? =some (.cells #[.bool a.an.1,vI a.an.2.1,.slice a.la a.ll a.lc,.bool c.an.1,vI c.an.2.1,.slice c.la c.ll c.lc] 44 (0,0))→B5 u (some ⟨b,0,none⟩) (e9 [a,c]):=fun{b a c} hb=>⟨fun k x hx=>⟨b,0,rfl,by
  have e:e9 [a,c]=[.bool a.an.1,vI a.an.2.1,.slice a.la a.ll a.lc,.bool c.an.1,vI c.an.2.1,.slice c.la c.ll c.lc]:=rfl
  rw[e]at hx
  rw[Nat.zero_add]
  simp only[World.cell?,hb]
  simpa using hx⟩⟩
 exact t0M (xs:=[⟨an,la1,ll1,lc1⟩,⟨an,la2,ll2,lc2⟩]) (ys:=[⟨an,la3,ll3,lc3⟩,⟨an,la3,ll3,lc3⟩]) (show(2:Nat)<100000000 by decide) rfl (key hp) (key hq) (fun a ha=>by
  simp only[List.mem_cons,List.not_mem_nil,or_false]at ha
  rcases ha with rfl|rfl
  ·exact⟨h1,hl⟩
  ·exact⟨h2,hl⟩) fun a ha=>by
  simp only[List.mem_cons,List.not_mem_nil,or_false]at ha
  rcases ha with rfl|rfl<;>exact h3
theorem C0V{v1:Value}{lc ld cb i bw nw x y rb ab L xc yc:Nat}{an:SAn}{la1 la2 la3:Option Addr}{ll1 lc1 ll2 lc2 ll3 lc3:Nat}(hi:i<L)(x0:w.cell? ⟨x,0,none⟩=some (.bool an.1))(x1:w.cell? ⟨x,1,none⟩=some (vI an.2.1))(x2:w.cell? ⟨x,2,none⟩=some (.slice la1 ll1 lc1))(y0:w.cell? ⟨y,0,none⟩=some (.bool an.1))(y1:w.cell? ⟨y,1,none⟩=some (vI an.2.1))(y2:w.cell? ⟨y,2,none⟩=some (.slice la2 ll2 lc2))(b0:w.cell? ⟨bw,0,none⟩=some (vL rb 0 1 xc))(r0:w.cell? ⟨rb,0,none⟩=some (vL ab 0 L yc))(a0:w.cell? ⟨ab,i*3,none⟩=some (.bool an.1))(a1:w.cell? ⟨ab,i*3+1,none⟩=some (vI an.2.1))(a2:w.cell? ⟨ab,i*3+2,none⟩=some (.slice la3 ll3 lc3))
 (s1:SAL ⟨an,la1,ll1,lc1⟩ w) (s2:SAL ⟨an,la2,ll2,lc2⟩ w) (s3:SAL ⟨an,la3,ll3,lc3⟩ w) (hl:an.2.2.length<100000000) {A:Array Value} (hA:G0 145 A ((12,vP x 0)::(13,vP y 0)::LE v1 bw lc ld cb nw i)) {cs:List Frame} {main:Bool} {Stop:Goroutine→World→Prop}
 (K:∀(A:Array Value) (w':World),l7 w w'→G0 145 A ((110,.bool true)::LE v1 bw lc ld cb nw i)→J0 Try.prog main F0 Stop (G (bA 4 A [.inRegion (oC a0n) [19],.code b0n,.inBlock 1,.code l8,.inLoop J5,.inBlock 0,.code B6]) cs) w'):
 J0 Try.prog main F0 Stop (G (bA 4 A [.code a0n,.code b0n,.inBlock 1,.code l8,.inLoop J5,.inBlock 0,.code B6]) cs) w:=by
 have hs:=l7.refl w
 have hS:∀u d,l7 w u→l7 w (World.at u d):=fun u d h=>h.at d
 obtain⟨t,rfl,k12,k13,k1,k5,k7,k8,k9,k10,k11,_⟩:=Y3 G4 hA
 simp only[G4,k12,k13,k1,k5,k7,k8,k9,k10,k11]
 clear k12 k13 k1 k5 k7 k8 k9 k10 k11
 rw[t0R]
 refine T8 (l7 w) (last:=19) x4 (z8 (by kernel_rfl)) (by decide) ?_
 simp only[a0n,P1,Try.f4,zz,Nat.reduceAdd]
 refine V9 0 (.agg #[.bool an.1,vI an.2.1,.slice la1 ll1 lc1]) (fun u hu=>(And.intro (hu.c x0) (And.intro (hu.c x1) (hu.c x2)))) hS hs ?_
 walk_nrm
 refine V9 1 (.agg #[.bool an.1,vI an.2.1,.slice la2 ll2 lc2]) (fun u hu=>(And.intro (hu.c y0) (And.intro (hu.c y1) (hu.c y2)))) hS hs ?_
 walk_nrm
 refine c9 3 (vP bw 0) hS hs ?_
 walk_nrm
 refine V9 4 (vL rb 0 1 xc) (fun u hu=>hu.c b0) hS hs ?_
 walk_nrm
 refine c9 5 (vP rb 0) hS hs ?_
 walk_nrm
 refine V9 6 (vL ab 0 L yc) (fun u hu=>hu.c r0) hS hs ?_
 walk_nrm
 refine c9 7 (vI (i:Nat)) hS hs ?_
 walk_nrm
 refine t09 8 (vP ab (i*3)) (fun u hu=>hi) hS hs ?_
 walk_nrm
 refine V9 9 (.agg #[.bool an.1,vI an.2.1,.slice la3 ll3 lc3]) (fun u hu=>(And.intro (hu.c a0) (And.intro (hu.c a1) (hu.c a2)))) hS hs ?_
 walk_nrm
 refine c9 10 (vP bw 0) hS hs ?_
 walk_nrm
 refine V9 11 (vL rb 0 1 xc) (fun u hu=>hu.c b0) hS hs ?_
 walk_nrm
 refine c9 12 (vP rb 0) hS hs ?_
 walk_nrm
 refine V9 13 (vL ab 0 L yc) (fun u hu=>hu.c r0) hS hs ?_
 walk_nrm
 refine c9 14 (vI (i:Nat)) hS hs ?_
 walk_nrm
 refine t09 15 (vP ab (i*3)) (fun u hu=>hi) hS hs ?_
 walk_nrm
 refine V9 16 (.agg #[.bool an.1,vI an.2.1,.slice la3 ll3 lc3]) (fun u hu=>(And.intro (hu.c a0) (And.intro (hu.c a1) (hu.c a2)))) hS hs ?_
 walk_nrm
 refine Z2 (r:=[2,17]) (by kernel_rfl) (by kernel_rfl) (fun j hj hjl=>?_)
 simp only[List.mem_cons,List.not_mem_nil,or_false]at hj
 rcases hj with rfl|rfl
 ·refine W7 rfl rfl (fun d K' hK'=>?_)
  go_simp
  refine hK' _ _ ⟨⟨⟨0,P0 J1 (Nat.zero_le _) _⟩,fun e he=>by(have hm:=mem_listed he;simp[go_sem]at hm)⟩,((l7.refl w).alloc _).at d,?_⟩
  clear hK' K'
  rw[alloc_at']
  refine X4 hS (fun _ _ d h=>h.at d) _ _ _ _ ?_ d
  walk_nrm
  refine Z2 (r:=[17]) (by kernel_rfl) (by kernel_rfl) (fun j hj hjl=>?_)
  obtain rfl:j=17:=by simpa using hj
  refine W7 rfl rfl (fun d K' hK'=>?_)
  go_simp
  refine hK' _ _ ⟨⟨⟨0,P0 J1 (Nat.zero_le _) _⟩,fun e he=>by(have hm:=mem_listed he;simp[go_sem]at hm)⟩,(((l7.refl w).alloc _).alloc _).at d,?_⟩
  clear hK' K'
  rw[alloc_at']
  refine X4 hS (fun _ _ d h=>h.at d) _ _ _ _ ?_ d
  walk_nrm
  have E2:l7 w ((w.alloc (.cells #[.bool an.1,vI an.2.1,.slice la1 ll1 lc1,.bool an.1,vI an.2.1,.slice la2 ll2 lc2] 44)).alloc (.cells #[.bool an.1,vI an.2.1,.slice la3 ll3 lc3,.bool an.1,vI an.2.1,.slice la3 ll3 lc3] 44)):=((l7.refl w).alloc _).alloc _
  have g1:SAL ⟨an,la1,ll1,lc1⟩ ((w.alloc (.cells #[.bool an.1,vI an.2.1,.slice la1 ll1 lc1,.bool an.1,vI an.2.1,.slice la2 ll2 lc2] 44)).alloc (.cells #[.bool an.1,vI an.2.1,.slice la3 ll3 lc3,.bool an.1,vI an.2.1,.slice la3 ll3 lc3] 44)):=s1.olds E2.o
  have g2:SAL ⟨an,la2,ll2,lc2⟩ ((w.alloc (.cells #[.bool an.1,vI an.2.1,.slice la1 ll1 lc1,.bool an.1,vI an.2.1,.slice la2 ll2 lc2] 44)).alloc (.cells #[.bool an.1,vI an.2.1,.slice la3 ll3 lc3,.bool an.1,vI an.2.1,.slice la3 ll3 lc3] 44)):=s2.olds E2.o
  have g3:SAL ⟨an,la3,ll3,lc3⟩ ((w.alloc (.cells #[.bool an.1,vI an.2.1,.slice la1 ll1 lc1,.bool an.1,vI an.2.1,.slice la2 ll2 lc2] 44)).alloc (.cells #[.bool an.1,vI an.2.1,.slice la3 ll3 lc3,.bool an.1,vI an.2.1,.slice la3 ll3 lc3] 44)):=s3.olds E2.o
  have hf:((w.alloc (.cells #[.bool an.1,vI an.2.1,.slice la1 ll1 lc1,.bool an.1,vI an.2.1,.slice la2 ll2 lc2] 44)).alloc (.cells #[.bool an.1,vI an.2.1,.slice la3 ll3 lc3,.bool an.1,vI an.2.1,.slice la3 ll3 lc3] 44)).heap[w.heap.size]? =some (.cells #[.bool an.1,vI an.2.1,.slice la1 ll1 lc1,.bool an.1,vI an.2.1,.slice la2 ll2 lc2] 44 (0,0)):=by rw[D0 _ _ (by simp)];exact heap_alloc_new _ _
  have hg2:((w.alloc (.cells #[.bool an.1,vI an.2.1,.slice la1 ll1 lc1,.bool an.1,vI an.2.1,.slice la2 ll2 lc2] 44)).alloc (.cells #[.bool an.1,vI an.2.1,.slice la3 ll3 lc3,.bool an.1,vI an.2.1,.slice la3 ll3 lc3] 44)).heap[w.heap.size+1]? =some (.cells #[.bool an.1,vI an.2.1,.slice la3 ll3 lc3,.bool an.1,vI an.2.1,.slice la3 ll3 lc3] 44 (0,0)):=R5 (by simp) _
  refine Z2 (r:=[18]) (by kernel_rfl) (by kernel_rfl) (fun j hj hjl=>?_)
  obtain rfl:j=18:=by simpa using hj
  refine⟨_,rfl,.inr (.inr ⟨rfl,21,#[vL w.heap.size 0 2 2,vL (w.heap.size+1) 0 2 2],fun v w'=>v= .bool true∧w'.heap=((w.alloc (.cells #[.bool an.1,vI an.2.1,.slice la1 ll1 lc1,.bool an.1,vI an.2.1,.slice la2 ll2 lc2] 44)).alloc (.cells #[.bool an.1,vI an.2.1,.slice la3 ll3 lc3,.bool an.1,vI an.2.1,.slice la3 ll3 lc3] 44)).heap,fun w=>by simp[execOp,Act.eval,resolve,invoke,Deferred.ofValue,callable21.run],fun w=>by simp[execOp,Act.eval,resolve,invoke,Deferred.ofValue,callable21.run,callable21.quiet],fun c cs Stop k=>N7 i0z F6 Try.func21 rfl (by kernel_rfl) (R:=fun x w'=>x= .bool true∧w'.heap=((w.alloc (.cells #[.bool an.1,vI an.2.1,.slice la1 ll1 lc1,.bool an.1,vI an.2.1,.slice la2 ll2 lc2] 44)).alloc (.cells #[.bool an.1,vI an.2.1,.slice la3 ll3 lc3,.bool an.1,vI an.2.1,.slice la3 ll3 lc3] 44)).heap) (fun τ e=>j0n (u:=retape ((w.alloc (.cells #[.bool an.1,vI an.2.1,.slice la1 ll1 lc1,.bool an.1,vI an.2.1,.slice la2 ll2 lc2] 44)).alloc (.cells #[.bool an.1,vI an.2.1,.slice la3 ll3 lc3,.bool an.1,vI an.2.1,.slice la3 ll3 lc3] 44)) τ e) hf hg2 (g1.heap rfl) (g2.heap rfl) (g3.heap rfl) hl) fun v w' τ e hR hg=>k v w' hR,?_⟩)⟩
  rintro v w4 ⟨rfl,h4⟩
  have E4:l7 w w4:=E2.heap h4
  refine⟨E4,?_⟩
  walk_nrm
  refine F9 (by kernel_rfl) ?_ _
  exact K _ w4 E4 ⟨rfl,rfl,rfl,rfl,rfl,rfl,rfl,rfl,rfl,trivial⟩
 ·refine W7 rfl rfl (fun d K' hK'=>?_)
  go_simp
  refine hK' _ _ ⟨⟨⟨0,P0 J1 (Nat.zero_le _) _⟩,fun e he=>by(have hm:=mem_listed he;simp[go_sem]at hm)⟩,((l7.refl w).alloc _).at d,?_⟩
  clear hK' K'
  rw[alloc_at']
  refine X4 hS (fun _ _ d h=>h.at d) _ _ _ _ ?_ d
  walk_nrm
  refine Z2 (r:=[2]) (by kernel_rfl) (by kernel_rfl) (fun j hj hjl=>?_)
  obtain rfl:j=2:=by simpa using hj
  refine W7 rfl rfl (fun d K' hK'=>?_)
  go_simp
  refine hK' _ _ ⟨⟨⟨0,P0 J1 (Nat.zero_le _) _⟩,fun e he=>by(have hm:=mem_listed he;simp[go_sem]at hm)⟩,(((l7.refl w).alloc _).alloc _).at d,?_⟩
  clear hK' K'
  rw[alloc_at']
  refine X4 hS (fun _ _ d h=>h.at d) _ _ _ _ ?_ d
  walk_nrm
  have E2:l7 w ((w.alloc (.cells #[.bool an.1,vI an.2.1,.slice la3 ll3 lc3,.bool an.1,vI an.2.1,.slice la3 ll3 lc3] 44)).alloc (.cells #[.bool an.1,vI an.2.1,.slice la1 ll1 lc1,.bool an.1,vI an.2.1,.slice la2 ll2 lc2] 44)):=((l7.refl w).alloc _).alloc _
  have g1:SAL ⟨an,la1,ll1,lc1⟩ ((w.alloc (.cells #[.bool an.1,vI an.2.1,.slice la3 ll3 lc3,.bool an.1,vI an.2.1,.slice la3 ll3 lc3] 44)).alloc (.cells #[.bool an.1,vI an.2.1,.slice la1 ll1 lc1,.bool an.1,vI an.2.1,.slice la2 ll2 lc2] 44)):=s1.olds E2.o
  have g2:SAL ⟨an,la2,ll2,lc2⟩ ((w.alloc (.cells #[.bool an.1,vI an.2.1,.slice la3 ll3 lc3,.bool an.1,vI an.2.1,.slice la3 ll3 lc3] 44)).alloc (.cells #[.bool an.1,vI an.2.1,.slice la1 ll1 lc1,.bool an.1,vI an.2.1,.slice la2 ll2 lc2] 44)):=s2.olds E2.o
  have g3:SAL ⟨an,la3,ll3,lc3⟩ ((w.alloc (.cells #[.bool an.1,vI an.2.1,.slice la3 ll3 lc3,.bool an.1,vI an.2.1,.slice la3 ll3 lc3] 44)).alloc (.cells #[.bool an.1,vI an.2.1,.slice la1 ll1 lc1,.bool an.1,vI an.2.1,.slice la2 ll2 lc2] 44)):=s3.olds E2.o
  have hf:((w.alloc (.cells #[.bool an.1,vI an.2.1,.slice la3 ll3 lc3,.bool an.1,vI an.2.1,.slice la3 ll3 lc3] 44)).alloc (.cells #[.bool an.1,vI an.2.1,.slice la1 ll1 lc1,.bool an.1,vI an.2.1,.slice la2 ll2 lc2] 44)).heap[w.heap.size]? =some (.cells #[.bool an.1,vI an.2.1,.slice la3 ll3 lc3,.bool an.1,vI an.2.1,.slice la3 ll3 lc3] 44 (0,0)):=by rw[D0 _ _ (by simp)];exact heap_alloc_new _ _
  have hg2:((w.alloc (.cells #[.bool an.1,vI an.2.1,.slice la3 ll3 lc3,.bool an.1,vI an.2.1,.slice la3 ll3 lc3] 44)).alloc (.cells #[.bool an.1,vI an.2.1,.slice la1 ll1 lc1,.bool an.1,vI an.2.1,.slice la2 ll2 lc2] 44)).heap[w.heap.size+1]? =some (.cells #[.bool an.1,vI an.2.1,.slice la1 ll1 lc1,.bool an.1,vI an.2.1,.slice la2 ll2 lc2] 44 (0,0)):=R5 (by simp) _
  refine Z2 (r:=[18]) (by kernel_rfl) (by kernel_rfl) (fun j hj hjl=>?_)
  obtain rfl:j=18:=by simpa using hj
  refine⟨_,rfl,.inr (.inr ⟨rfl,21,#[vL (w.heap.size+1) 0 2 2,vL w.heap.size 0 2 2],fun v w'=>v= .bool true∧w'.heap=((w.alloc (.cells #[.bool an.1,vI an.2.1,.slice la3 ll3 lc3,.bool an.1,vI an.2.1,.slice la3 ll3 lc3] 44)).alloc (.cells #[.bool an.1,vI an.2.1,.slice la1 ll1 lc1,.bool an.1,vI an.2.1,.slice la2 ll2 lc2] 44)).heap,fun w=>by simp[execOp,Act.eval,resolve,invoke,Deferred.ofValue,callable21.run],fun w=>by simp[execOp,Act.eval,resolve,invoke,Deferred.ofValue,callable21.run,callable21.quiet],fun c cs Stop k=>N7 i0z F6 Try.func21 rfl (by kernel_rfl) (R:=fun x w'=>x= .bool true∧w'.heap=((w.alloc (.cells #[.bool an.1,vI an.2.1,.slice la3 ll3 lc3,.bool an.1,vI an.2.1,.slice la3 ll3 lc3] 44)).alloc (.cells #[.bool an.1,vI an.2.1,.slice la1 ll1 lc1,.bool an.1,vI an.2.1,.slice la2 ll2 lc2] 44)).heap) (fun τ e=>j0n (u:=retape ((w.alloc (.cells #[.bool an.1,vI an.2.1,.slice la3 ll3 lc3,.bool an.1,vI an.2.1,.slice la3 ll3 lc3] 44)).alloc (.cells #[.bool an.1,vI an.2.1,.slice la1 ll1 lc1,.bool an.1,vI an.2.1,.slice la2 ll2 lc2] 44)) τ e) hg2 hf (g1.heap rfl) (g2.heap rfl) (g3.heap rfl) hl) fun v w' τ e hR hg=>k v w' hR,?_⟩)⟩
  rintro v w4 ⟨rfl,h4⟩
  have E4:l7 w w4:=E2.heap h4
  refine⟨E4,?_⟩
  walk_nrm
  refine F9 (by kernel_rfl) ?_ _
  exact K _ w4 E4 ⟨rfl,rfl,rfl,rfl,rfl,rfl,rfl,rfl,rfl,trivial⟩
theorem C0W{v1:Value}{lc ld cb i bw nw:Nat}(hi:i<9223372036854775807){A:Array Value}(hA:G0 145 A ((110,.bool true)::LE v1 bw lc ld cb nw i))
 (h:∀A,G0 145 A (LE v1 bw lc ld cb nw (i+1))→J0 Try.prog main F Stop (G (bA 4 A [.code J5,.inLoop J5,.inBlock 0,.code B6]) cs) w):
 J0 Try.prog main F Stop (G (bA 4 A [.inRegion (oC a0n) [19],.code b0n,.inBlock 1,.code l8,.inLoop J5,.inBlock 0,.code B6]) cs) w:=by
 obtain⟨s,rfl,h110,h1,h5,h7,h8,h9,h10,h11,_⟩:=Y3 G4 hA
 simp only[G4,h110,h1,h5,h7,h8,h9,h10,h11]
 clear h110 h1 h5 h7 h8 h9 h10 h11
 have hk64:IntKind.i64.wrap ((i:Int)+1)=(i:Int)+1:=IntWalk.i64_in _ (by omega)
 simp only[a0n,P1,Try.f4,zz,Nat.reduceAdd]
 refine oT ?_
 refine S0<|ogGn .skip<|ogK<|ogI ?_
 rw[t0P]
 refine ogR ?_
 simp only[l8,P1,Try.f4,zz,Nat.reduceAdd]
 iterate 3 refine oT ?_
 refine S0<|ogL ?_
 refine h _ ?_
 exact⟨rfl,rfl,rfl,rfl,rfl,rfl,rfl,rfl,trivial⟩
theorem j0g{u:World}{n:Nat}{va:Option Addr}{vl vc:Nat}{xs:List Value}(h:u.ownsRow 0 2 1 (.slice va vl vc) n xs):n=vl:=by
 rcases h.2 with⟨e,h0⟩|⟨_,_,_,e,_⟩
 ·cases e;exact h0
 ·cases e;rfl
theorem d0C{aa ab:Option Addr}{ca cb n:Nat}{xs:List Int}(hn:n=xs.length)(hA:B5 w aa (xs.map fun v=>vI v))(hB:B5 w ab (xs.map fun v=>vI v)){c:Frame}
 (hl:xs.length<100000000:=by omega) (K:∀w',l7 w w'→J0 Try.prog main F0 Stop (G (c.finish (.bool true)) cs) w'):J0 Try.prog main F0 Stop (G (Frame.enter Try.prog 22 #[.slice aa xs.length ca,.slice ab n cb] .normal) (c::cs)) w:=by
 subst hn
 exact N7 e0B F6 Try.func22 rfl (by kernel_rfl) (R:=fun x w'=>x= .bool true∧w'.heap=w.heap) (fun τ e=>(h0S (w:=retape w τ e) hl (hA.heap rfl) (hB.heap rfl))) fun v w' τ e hR hg=>by
  obtain⟨rfl,h⟩:=hR
  exact K w' ((l7.refl w).heap h)
theorem C0X{v1:Value}{lc wc ld wd cb i bw nw m zb zc rc:Nat}{ra:Option Addr}{s:R1}(hC:SU lc ⟨s,wc,0⟩ w)(hD:SU ld ⟨s,wd,0⟩ w)(hK:j0L cb m w)(hln:nw=s.ws.length)(hn16:s.ws.length≤16)(hnw:0<nw)(b2:w.cell? ⟨bw,2,none⟩=some (vL zb 0 (nw+1) zc))(b1:w.cell? ⟨bw,1,none⟩=some (.slice ra m rc))(z0:w.cell? ⟨zb,0,none⟩=some (vI s.ver))(hz:B5 w (some ⟨zb,1,none⟩) (s.ws.map fun v=>vI v))(hzc:nw+1≤zc)
 {A:Array Value} (hA:G0 145 A (LE v1 bw lc ld cb nw i)) {cs:List Frame} {main:Bool} {Stop:Goroutine→World→Prop}
 (h:∀(A:Array Value) (w':World),l7 w w'→A.getD 4 undef= .bool true→J0 Try.prog main F0 Stop (G {bA 4 A [.code .ret]with mode:=.returning} cs) w'):
 J0 Try.prog main F0 Stop (G (bA 4 A [.code B6]) cs) w:=by
 have hs:=l7.refl w
 have hS:∀u d,l7 w u→l7 w (World.at u d):=fun u d h=>h.at d
 have k0:w.cell? ⟨cb,0,none⟩=some (vI (m:Nat)):=by simp[World.cell?,show w.heap[cb]? =_ from hK]
 have q1:(1:Int)≤((nw+1:Nat):Int):=by omega
 have q2:((nw+1:Nat):Int)≤(zc:Int):=by omega
 have q3:nw+1 - 1=nw:=by omega
 have q4:(1:Int)≤(nw:Int)+1:=by omega
 have q5:¬zc=1:=by omega
 obtain⟨t,rfl,h1,h5,h7,h8,h9,h10,h11,_⟩:=Y3 G4 hA
 simp only[G4,h1,h5,h7,h8,h9,h10,h11]
 clear h1 h5 h7 h8 h9 h10 h11
 refine ogV h0V .ret ?_
 rw[t0S]
 refine T8 (l7 w) (last:=33) x4 (z8 (by kernel_rfl)) (by decide) ?_
 simp only[h0V,P1,Try.f4,zz,Nat.reduceAdd]
 refine c9 0 (vP lc 0) hS hs ?_
 walk_nrm
 refine c9 2 (vP bw 2) hS hs ?_
 walk_nrm
 refine V9 3 (vL zb 0 (nw+1) zc) (fun u hu=>hu.c b2) hS hs ?_
 walk_nrm
 refine c9 4 (vP zb 0) hS hs ?_
 walk_nrm
 refine V9 5 (vI s.ver) (fun u hu=>hu.c z0) hS hs ?_
 walk_nrm
 refine Z2 (r:=[1]) (by kernel_rfl) (by kernel_rfl) (fun j hj hjl=>?_)
 obtain rfl:j=1:=by simpa using hj
 refine⟨_,rfl,.inr (.inr ⟨rfl,19,#[vP lc 0],fun v w'=>v=vI s.ver∧w'.heap=w.heap,fun w=>by simp[execOp,Act.eval,resolve,invoke,Deferred.ofValue,callable19.run],fun w=>by simp[execOp,Act.eval,resolve,invoke,Deferred.ofValue,callable19.run,callable19.quiet],fun c cs Stop k=>b0k hC.v.c fun w1 h1=>k _ _ ⟨rfl,h1⟩,?_⟩)⟩
 rintro v w1 ⟨rfl,h1⟩
 have E1:l7 w w1:=hs.heap h1
 clear hs
 have hs:=E1
 refine⟨hs,?_⟩
 walk_nrm
 refine c9 6 (.bool true) hS hs ?_
 walk_nrm
 refine c9 7 (.bool true) hS hs ?_
 walk_nrm
 refine c9 8 (vP lc 0) hS hs ?_
 walk_nrm
 refine c9 10 (vP bw 2) hS hs ?_
 walk_nrm
 refine V9 11 (vL zb 0 (nw+1) zc) (fun u hu=>hu.c b2) hS hs ?_
 walk_nrm
 refine G9 hS (fun _ _ d h=>h.at d) (i:=12) (v:=vL zb 1 nw (zc - 1)) hs rfl rfl (by kernel_rfl) (by kernel_rfl) (by kernel_rfl) (fun u hu=>.inl ⟨rfl,fun d=>⟨by simp[go_sem,execOp,Act.eval,q1,q2,q3,q4,q5,d07 hzc],fun e he=>by have hm:=mem_listed he;simp[go_sem,execOp,Act.eval,q1,q2,q3,q4,q5,d07 hzc]at hm⟩⟩) ?_
 walk_nrm
 refine Z2 (r:=[9]) (by kernel_rfl) (by kernel_rfl) (fun j hj hjl=>?_)
 obtain rfl:j=9:=by simpa using hj
 refine⟨_,rfl,.inr (.inr ⟨rfl,23,#[vP lc 0],fun v w'=>∃ov,v=ov∧SU lc ⟨s,wc,0⟩ w'∧g0N w1 w' ov s.ws∧l7 w1 w',fun w=>by simp[execOp,Act.eval,resolve,invoke,Deferred.ofValue,callable23.run],fun w=>by simp[execOp,Act.eval,resolve,invoke,Deferred.ofValue,callable23.run,callable23.quiet],fun c cs Stop k=>a0P (hC.same fun r hr=>hs.o r (hC.low hr)) fun w' ov a1 a2 a3 a4=>k _ _ ⟨ov,rfl,a1,a2,a3,a4⟩,?_⟩)⟩
 rintro v w2 ⟨ov,rfl,hC2,hR2,E2⟩
 obtain⟨va,vl,vc,hv⟩:=F3 hR2.row
 subst hv
 obtain rfl:=j0g hR2.row
 have E2:=hs.trans E2
 clear hs
 have hs:=E2
 refine⟨hs,?_⟩
 walk_nrm
 refine Z2 (r:=[13]) (by kernel_rfl) (by kernel_rfl) (fun j hj hjl=>?_)
 obtain rfl:j=13:=by simpa using hj
 refine⟨_,rfl,.inr (.inr ⟨rfl,22,#[.slice va s.ws.length vc,vL zb 1 nw (zc - 1)],fun v w'=>v= .bool true∧l7 w2 w',fun w=>by simp[execOp,Act.eval,resolve,invoke,Deferred.ofValue,callable22.run],fun w=>by simp[execOp,Act.eval,resolve,invoke,Deferred.ofValue,callable22.run,callable22.quiet],fun c cs Stop k=>d0C hln (c0E hR2.row) (hz.olds hs.o) (by omega) fun w' h=>k _ _ ⟨rfl,h⟩,?_⟩)⟩
 rintro v w3 ⟨rfl,E3⟩
 have E3:=hs.trans E3
 clear hs
 have hs:=E3
 refine⟨hs,?_⟩
 walk_nrm
 refine c9 14 (.bool true) hS hs ?_
 walk_nrm
 refine c9 15 (.bool true) hS hs ?_
 walk_nrm
 refine c9 16 (vP ld 0) hS hs ?_
 walk_nrm
 refine c9 18 (vP bw 2) hS hs ?_
 walk_nrm
 refine V9 19 (vL zb 0 (nw+1) zc) (fun u hu=>hu.c b2) hS hs ?_
 walk_nrm
 refine G9 hS (fun _ _ d h=>h.at d) (i:=20) (v:=vL zb 1 nw (zc - 1)) hs rfl rfl (by kernel_rfl) (by kernel_rfl) (by kernel_rfl) (fun u hu=>.inl ⟨rfl,fun d=>⟨by simp[go_sem,execOp,Act.eval,q1,q2,q3,q4,q5,d07 hzc],fun e he=>by have hm:=mem_listed he;simp[go_sem,execOp,Act.eval,q1,q2,q3,q4,q5,d07 hzc]at hm⟩⟩) ?_
 walk_nrm
 refine Z2 (r:=[17]) (by kernel_rfl) (by kernel_rfl) (fun j hj hjl=>?_)
 obtain rfl:j=17:=by simpa using hj
 refine⟨_,rfl,.inr (.inr ⟨rfl,23,#[vP ld 0],fun v w'=>∃ov,v=ov∧SU ld ⟨s,wd,0⟩ w'∧g0N w3 w' ov s.ws∧l7 w3 w',fun w=>by simp[execOp,Act.eval,resolve,invoke,Deferred.ofValue,callable23.run],fun w=>by simp[execOp,Act.eval,resolve,invoke,Deferred.ofValue,callable23.run,callable23.quiet],fun c cs Stop k=>a0P (hD.same fun r hr=>hs.o r (hD.low hr)) fun w' ov a1 a2 a3 a4=>k _ _ ⟨ov,rfl,a1,a2,a3,a4⟩,?_⟩)⟩
 rintro v w4 ⟨ov,rfl,hC4,hR4,E4⟩
 obtain⟨va4,vl4,vc4,hv⟩:=F3 hR4.row
 subst hv
 obtain rfl:=j0g hR4.row
 have E4:=hs.trans E4
 clear hs
 have hs:=E4
 refine⟨hs,?_⟩
 walk_nrm
 refine Z2 (r:=[21]) (by kernel_rfl) (by kernel_rfl) (fun j hj hjl=>?_)
 obtain rfl:j=21:=by simpa using hj
 refine⟨_,rfl,.inr (.inr ⟨rfl,22,#[.slice va4 s.ws.length vc4,vL zb 1 nw (zc - 1)],fun v w'=>v= .bool true∧l7 w4 w',fun w=>by simp[execOp,Act.eval,resolve,invoke,Deferred.ofValue,callable22.run],fun w=>by simp[execOp,Act.eval,resolve,invoke,Deferred.ofValue,callable22.run,callable22.quiet],fun c cs Stop k=>d0C hln (c0E hR4.row) (hz.olds hs.o) (by omega) fun w' h=>k _ _ ⟨rfl,h⟩,?_⟩)⟩
 rintro v w5 ⟨rfl,E5⟩
 have E5:=hs.trans E5
 clear hs
 have hs:=E5
 refine⟨hs,?_⟩
 walk_nrm
 refine c9 22 (.bool true) hS hs ?_
 walk_nrm
 refine c9 23 (.bool true) hS hs ?_
 walk_nrm
 refine c9 24 (vP cb 0) hS hs ?_
 walk_nrm
 refine c9 25 (vP cb 0) hS hs ?_
 walk_nrm
 refine c9 26 (vP cb 0) hS hs ?_
 walk_nrm
 refine V9 27 (vI (m:Nat)) (fun u hu=>hu.c k0) hS hs ?_
 walk_nrm
 refine c9 28 (vP bw 1) hS hs ?_
 walk_nrm
 refine V9 29 (.slice ra m rc) (fun u hu=>hu.c b1) hS hs ?_
 walk_nrm
 refine c9 30 (vI (m:Nat)) hS hs ?_
 walk_nrm
 refine c9 31 (.bool true) hS hs ?_
 walk_nrm
 refine c9 32 (.bool true) hS hs ?_
 walk_nrm
 refine F9 (by kernel_rfl) ?_ _
 refine oT ?_
 refine S0<|ogX ?_
 exact h _ _ hs rfl
end
section
variable{w w' W:World}
structure d0S(w:World)(oa:Option Addr)(ol oc:Nat)(L:List P3):Prop where
 lc:ol≤oc
 len:L.length=min ol 65536
 op:∀k x,L[k]? =some x→∃opb oo,oa=some ⟨opb,oo,none⟩∧
  w.cell? ⟨opb,oo+k*4,none⟩=some (vI x.kd)∧w.cell? ⟨opb,oo+k*4+1,none⟩=some (vI x.a)∧w.cell? ⟨opb,oo+k*4+2,none⟩=some (vI x.b)∧w.cell? ⟨opb,oo+k*4+3,none⟩=some (vI x.c)∧
  w.frozen? ⟨opb,oo+k*4,none⟩=false∧w.frozen? ⟨opb,oo+k*4+1,none⟩=false∧w.frozen? ⟨opb,oo+k*4+2,none⟩=false∧w.frozen? ⟨opb,oo+k*4+3,none⟩=false
theorem d0S.olds{oa:Option Addr}{ol oc:Nat}{L:List P3}(h:d0S w oa ol oc L)(hk:∀r,r<w.heap.size→w'.heap[r]? =w.heap[r]?):d0S w' oa ol oc L:=by
 have hc:∀{a:Addr} {v:Value},w.cell? a=some v→w'.cell? a=some v∧w'.frozen? a=w.frozen? a:=fun{a v} h=>by
  obtain⟨c,e,z,ho⟩:=M3 h
  have e1:w'.heap[a.block]? =w.heap[a.block]?:=hk _ (Q3 ho)
  exact⟨by rw[← h];unfold World.cell?;simp only[e1],by unfold World.frozen?;simp only[e1]⟩
 refine⟨h.lc,h.len,fun k x hx=>?_⟩
 obtain⟨opb,oo,h1,f0,f1,f2,f3,g0,g1,g2,g3⟩:=h.op k x hx
 exact⟨opb,oo,h1,(hc f0).1,(hc f1).1,(hc f2).1,(hc f3).1,(hc f0).2.trans g0,(hc f1).2.trans g1,(hc f2).2.trans g2,(hc f3).2.trans g3⟩
theorem d0S.opsIn{oa:Option Addr}{ol oc:Nat}{L:List P3}(h:d0S w oa ol oc L):y6 (w.alloc (.cells #[.slice oa ol oc] 34)) (fun _=>False) 1 w.heap.size 0 1 (some ⟨w.heap.size,0,none⟩) (fun _=>oa) (fun _=>ol) (fun _=>oc) (fun _=>L) [] none:=by
 have hV:=h.olds (w':=w.alloc (.cells #[.slice oa ol oc] 34)) fun r hr=>D0 _ _ hr
 have hb:(w.alloc (.cells #[.slice oa ol oc] 34)).heap[w.heap.size]? =some (.cells #[.slice oa ol oc] 34 (0,0)):=heap_alloc_new _ _
 refine⟨rfl,fun _=>rfl,fun _=>by simp,fun j hj=>?_,fun j hj=>h.len,fun j hj k x hx=>?_,by decide,fun h=>by cases h⟩
 ·obtain rfl:j=0:=by omega
  refine⟨?_,?_,h.lc⟩
  ·unfold World.cell?;simp only[hb];rfl
  ·unfold World.frozen?;simp only[hb];rfl
 ·obtain⟨opb,oo,h1,h2⟩:=hV.op k x hx
  exact⟨opb,oo,h1,fun h=>h,h2⟩
theorem n0E{f k:Nat}{fn:Func}{A:Array Value}(h2:¬2=f)(hf:Try.prog.funcs[f]? =some fn)(hr:fn.results= #[.tmp k]){v:Value}(hA:A.getD k undef=v)(w:World)(t:List Item):
 stepG Try.prog true (G {(Go.Conc.base f).at ⟨A,[]⟩ (.code .ret::t)with mode:=.returning} []) w= .ended (.done v) w #[]:=by
 subst hA
 simp[G,stepG,unwind,doReturn,results,Frame.at,base,hf,hr,seen,GStep.after,h2]
theorem n0F{An:G3}{W:World}{f k:Nat}{fn:Func}{A:Array Value}(hf:Try.prog.funcs[f]? =some fn)(hr:fn.results= #[.tmp k])(h2:¬2=f)(hA:A.getD k undef= .bool true){w:World}(t:List Item)(h:∀(r:Nat) (c:Array Value) (e:TypeId) (z:Nat×Nat),W.heap[r]? =some (.cells c e z)→w.heap[r]? =some (.cells c e z)):
 l0b An (g0M W) (G {(Go.Conc.base f).at ⟨A,[]⟩ (.code .ret::t)with mode:=.returning} []) w:=
 ⟨rfl,fun d=>⟨_,n0E h2 hf hr hA _ t,fun _=>⟨rfl,h⟩⟩⟩
theorem d0S.keep{oa:Option Addr}{ol oc:Nat}{L:List P3}(h:d0S w oa ol oc L)(hk:C9 w w'):d0S w' oa ol oc L:=by
 have hc:∀{a:Addr} {v:Value},w.cell? a=some v→w'.cell? a=some v∧w'.frozen? a=w.frozen? a:=fun{a v} h=>by
  obtain⟨c,e,z,ho⟩:=M3 h
  have e1:w'.heap[a.block]? =w.heap[a.block]?:=(hk.2 _ _ _ _ ho).trans ho.symm
  exact⟨by rw[← h];unfold World.cell?;simp only[e1],by unfold World.frozen?;simp only[e1]⟩
 refine⟨h.lc,h.len,fun k x hx=>?_⟩
 obtain⟨opb,oo,h1,f0,f1,f2,f3,g0,g1,g2,g3⟩:=h.op k x hx
 exact⟨opb,oo,h1,(hc f0).1,(hc f1).1,(hc f2).1,(hc f3).1,(hc f0).2.trans g0,(hc f1).2.trans g1,(hc f2).2.trans g2,(hc f3).2.trans g3⟩
theorem a0g{e:TypeId}{n size c:Nat}{a:Option Addr}{xs:List Value}(h:w.ownsRow 0 e size (.slice a n c) n xs)(hn:0<n):∃b,a=some ⟨b,0,none⟩∧n≤c∧∀k x,xs[k]? =some x→w.cell? ⟨b,k,none⟩=some x:=by
 rcases h.2 with⟨e1,h0⟩|⟨b,cap,cur,e1,h3,h4⟩
 ·cases e1;omega
 ·cases e1
  refine⟨b,rfl,by omega,fun k x hx=>?_⟩
  obtain⟨b',o',e2,e3⟩:=(c0E h).c k x hx
  cases e2
  rwa [Nat.zero_add]at e3
structure Vx(V:World)(oa:Option Addr)(ol bw rb xc yc:Nat)(ya:Option Addr)(l:List P3)(al:List SAn):Prop where
 op:∀k x,l[k]? =some x→∃pb oo,oa=some ⟨pb,oo,none⟩∧y8 pb (oo+k*4) x V
 b0:V.cell? ⟨bw,0,none⟩=some (vL rb 0 1 xc)
 r0:V.cell? ⟨rb,0,none⟩=some (.slice ya l.length yc)
 an:∀k a,al[k]? =some a→a.2.2.length<100000000∧∃ab la ll lq,ya=some ⟨ab,0,none⟩∧V.cell? ⟨ab,k*3,none⟩=some (.bool a.1)∧V.cell? ⟨ab,k*3+1,none⟩=some (vI a.2.1)∧V.cell? ⟨ab,k*3+2,none⟩=some (.slice la ll lq)∧SAL ⟨a,la,ll,lq⟩ V
section
variable{V w0 u v:World}{oa ya:Option Addr}{ol oq bw rb xc yc lc wc ld wd cb nw m m':Nat}{l:List P3}{s0 s1 s2 s3 s4:R1}
theorem LsC.step(C:CNe w0 lc wc ld wd cb)(h0:LsC w0 (lc,wc,ld,wd,cb) s1 s2 m u)(h1:LsC u (lc,wc,ld,wd,cb) s3 s4 m' w')(hk:∀r,r<u.heap.size→v.heap[r]? =w'.heap[r]?)(hz:u.heap.size≤v.heap.size):LsC w0 (lc,wc,ld,wd,cb) s3 s4 m' v:=by
 have hs:=h0.size
 have c1:=C.hc
 have c2:=C.hwc
 have c3:=C.hd
 have c4:=C.hwd
 have c5:=C.hb
 exact⟨h1.z.same fun r hr=>hk r (by rcases hr with rfl|rfl;exact Nat.lt_of_lt_of_le c1 hs;exact Nat.lt_of_lt_of_le c2 hs),h1.l.same fun r hr=>hk r (by rcases hr with rfl|rfl;exact Nat.lt_of_lt_of_le c3 hs;exact Nat.lt_of_lt_of_le c4 hs),(hk cb (by omega)).trans h1.x,by omega,fun r hr a b c d e=>(hk r (by omega)).trans ((h1.o r (by omega) a b c d e).trans (h0.o r hr a b c d e))⟩
theorem LsC.ext(h:LsC w0 (lc,wc,ld,wd,cb) s1 s2 m u)(E:l7 V w0)(n1:V.heap.size≤lc∧V.heap.size≤wc∧V.heap.size≤ld∧V.heap.size≤wd∧V.heap.size≤cb):l7 V u:=
 ⟨Nat.le_trans E.s h.size,fun r hr=>(h.o r (Nat.lt_of_lt_of_le hr E.s) (by have:=n1.1;simp only;omega) (by have:=n1.2.1;simp only;omega) (by have:=n1.2.2.1;simp only;omega) (by have:=n1.2.2.2.1;simp only;omega) (by have:=n1.2.2.2.2;simp only;omega)).trans (E.o r hr)⟩
theorem m0m(X:Vx V oa ol bw rb xc yc ya l (s6 nw s0 l).1)(E0:l7 V w0)(C:CNe w0 lc wc ld wd cb)(n1:V.heap.size≤lc∧V.heap.size≤wc∧V.heap.size≤ld∧V.heap.size≤wd∧V.heap.size≤cb)(hev:s0.ver.tmod 2=0)(hlen:s0.ws.length=nw)(n16:nw≤16)(hll:l.length≤65536)(hol:l.length≤ol){cs:List Frame}{main:Bool}{Stop:Goroutine→World→Prop}
 (K:∀(A:Array Value) (u:World),LsC w0 (lc,wc,ld,wd,cb) (s6 nw s0 l).2.1 (s6 nw s0 l).2.1 (s6 nw s0 l).2.2 u→G0 145 A (LE (.slice oa ol oq) bw lc ld cb nw l.length)→J0 Try.prog main F0 Stop (G ((Go.Conc.base 4).at ⟨A,[]⟩ [.code B6]) cs) u):
 ∀(d i:Nat),i+d=l.length→∀(u:World) (A:Array Value),LsC w0 (lc,wc,ld,wd,cb) (s6 nw s0 (l.take i)).2.1 (s6 nw s0 (l.take i)).2.1 (s6 nw s0 (l.take i)).2.2 u→G0 145 A (LE (.slice oa ol oq) bw lc ld cb nw i)→J0 Try.prog main F0 Stop (G ((Go.Conc.base 4).at ⟨A,[]⟩ [.code J5,.inLoop J5,.inBlock 0,.code B6]) cs) u
 | 0,i,hd,u,A,hl,hA=>by
   obtain rfl:i=l.length:=by omega
   have hE:=hl.ext E0 n1
   refine E08 (xa:=none) (hE.c X.b0) (hE.c X.r0) rfl hA fun A hA=>K A u ?_ hA
   rw[List.take_of_length_le (Nat.le_refl _)]at hl
   exact hl
 | d+1,i,hd,u,A,hl,hA=>by
   have hE:=hl.ext E0 n1
   have hil:i<l.length:=by omega
   obtain⟨o,ho⟩:∃o,l[i]? =some o:=⟨_,List.getElem?_eq_getElem hil⟩
   obtain⟨t1,t2,t3⟩:=g0o (n:=nw) l s0 i o ho
   obtain⟨pb,oo,hoa,hop⟩:=X.op i o ho
   obtain⟨hal,ab,la,ll,lq,hya,a0,a1,a2,s3⟩:=X.an i _ t3
   have hr0:=X.r0
   rw[hya]at hr0
   have hA:G0 145 A (LE (.slice (some ⟨pb,oo,none⟩) ol oq) bw lc ld cb nw i):=by rw[← hoa];exact hA
   obtain⟨e1,e2⟩:=h0R (n:=nw) (l.take i) s0 hev
   have hm:=m0f (n:=nw) (l.take i) s0 (by omega)
   have hm2:(l.take i).length≤65536:=by rw[List.length_take];omega
   have hpb:=hop.low
   have hs0:=hl.size
   have q1:=C.hc
   have q2:=C.hwc
   have q3:=C.hd
   have q4:=C.hwd
   have q5:=C.hb
   obtain⟨m1,m2,m3,m4,m5⟩:=n1
   have Cu:CNe u lc wc ld wd cb:=⟨by omega,by omega,by omega,by omega,by omega,C.n1,C.n2,C.n3,C.n4,C.n5,C.n6,C.n7,C.n8⟩
   refine E07 (xa:=none) (hE.c X.b0) (hE.c hr0) hil hA fun A hA=>?_
   refine C0T (an:=((s6 nw s0 (l.take i)).2.1.call1 nw o).2.1) (m:=(s6 nw s0 (l.take i)).2.2) (s:=(s6 nw s0 (l.take i)).2.1) (by omega) ⟨Cu,e1,e2.trans hlen,by omega,rfl,hop.same (hE.o _ hpb),by omega,by omega,by omega,by omega,by omega⟩ ⟨hl.z,hl.l,hl.x,Nat.le_refl _,fun _ _ _ _ _ _ _=>rfl⟩ hA ?_
   intro A w' x y la1 la2 ll1 ll2 lc1 lc2 hA hL u1 u2 hx hy hxy bx byy
   refine C0U byy hA fun A Y hYs hYo hYy hA=>?_
   have hu1:=hL.size
   have hYu:∀r,r<u.heap.size→Y.heap[r]? =w'.heap[r]?:=fun r hr=>hYo r (by omega)
   have hLY:LsC w0 (lc,wc,ld,wd,cb) ((s6 nw s0 (l.take i)).2.1.call1 nw o).1 ((s6 nw s0 (l.take i)).2.1.call1 nw o).1 ((s6 nw s0 (l.take i)).2.2+((s6 nw s0 (l.take i)).2.1.call1 nw o).2.2) Y:=LsC.step C hl hL hYu (by omega)
   have EY:=hLY.ext E0 ⟨m1,m2,m3,m4,m5⟩
   have hof:∀(b:Nat) (c:Array Value),w'.heap[b]? =some (.cells c 2 (0,0))→Y.heap[b]? =w'.heap[b]?:=fun b c hb=>hYo b fun e=>by
    subst e
    rw[byy]at hb
    cases hb
   have bxY:=(hYo x hxy).trans bx
   refine C0V hil (by simp[World.cell?,bxY]) (by simp[World.cell?,bxY]) (by simp[World.cell?,bxY]) (by simp[World.cell?,hYy]) (by simp[World.cell?,hYy]) (by simp[World.cell?,hYy]) (EY.c X.b0) (EY.c hr0) (EY.c a0) (EY.c a1) (EY.c a2) (SAL.of (T9 u1 hof)) (SAL.of (T9 u2 hof)) (s3.olds EY.o) hal hA fun A w'' hE2 hA=>?_
   refine C0W (by omega) hA fun A hA=>?_
   refine m0m X E0 C ⟨m1,m2,m3,m4,m5⟩ hev hlen n16 hll hol K d (i+1) (by omega) w'' A ?_ (by rw[hoa];exact hA)
   rw[t1,t2]
   exact LsC.step C hl hL (fun r hr=>(hE2.o r (by omega)).trans (hYu r hr)) (by have:=hE2.s;omega)
end
end
section
variable{w w' W:World}
theorem l7.keep(h:l7 w w'):C9 w w':=.of h.s h.o
section
variable{sa oa:Option Addr}{sc ol oq:Nat}{start:List Int}{l:List P3}
theorem D0G{w1 w2 V:World}{xa va0:Option Addr}{xc vc0:Nat}{ans:List SAn}{Y0:List SA}{y1 y2 y3:Value}(hO:d0S w1 oa ol oq l)(hold:∀r,r<w1.heap.size→w2.heap[r]? =w1.heap[r]?)(hsz:w1.heap.size≤w2.heap.size)(hVo:∀r,r<w2.heap.size→V.heap[r]? =w2.heap[r]?)(hVs:w2.heap.size<V.heap.size)(hVb:V.heap[w2.heap.size]? =some (.cells #[.slice xa 1 xc,y1,y2,y3] 31 (0,0)))
 (rx:w2.ownsRow 0 42 1 (.slice xa 1 xc) 1 [.slice va0 Y0.length vc0]) (ry:w2.ownsRow 0 44 3 (.slice va0 Y0.length vc0) Y0.length (e9 Y0)) (ry2:Y0.map SA.an=ans) (ry3:∀a∈Y0,SAU a w2) (hal:ans.length=l.length) (h17:∀a∈ans,a.2.2.length≤17):
 ∃rb,Vx V oa ol w2.heap.size rb xc vc0 va0 l ans:=by
 have E2:l7 w2 V:=⟨by omega,hVo⟩
 have E1:l7 w1 V:=⟨by omega,fun r hr=>(hVo r (by omega)).trans (hold r hr)⟩
 obtain⟨rb,rfl,_,hrb⟩:=a0g rx (by omega)
 have hYl:Y0.length=l.length:=by rw[← hal,← ry2,List.length_map]
 refine⟨rb,fun k x hx=>?_,by simp[World.cell?,hVb],?_,fun k a hk=>?_⟩
 ·obtain⟨pb,oo,h1,f0,f1,f2,f3,_⟩:=(hO.olds E1.o).op k x hx
  exact⟨pb,oo,h1,f0,f1,f2,f3⟩
 ·have:=E2.c (hrb 0 _ rfl)
  rwa [hYl]at this
 ·have ha:a∈ans:=List.mem_of_getElem? hk
  have h2:=h17 a ha
  rw[← ry2,List.getElem?_map,Option.map_eq_some_iff]at hk
  obtain⟨q,hq,rfl⟩:=hk
  have hkl:=(List.getElem?_eq_some_iff.1 hq).1
  obtain⟨ab,hab,_,hc⟩:=a0g ry (by omega)
  obtain⟨g0,g1,g2⟩:=e0i Y0 k q hq
  exact⟨by omega,ab,q.la,q.ll,q.lc,hab,E2.c (hc _ _ g0),E2.c (hc _ _ g1),E2.c (hc _ _ g2),(SAL.of (ry3 q (List.mem_of_getElem? hq))).olds hVo⟩
theorem k0x(hv:o5 w sa start)(hnil:sa=none→start=[]∧sc=0)(hlen:start.length≤1048576)(hO:d0S w oa ol oq l){A:Array Value}(hA:G0 145 A [(0,.slice sa start.length sc),(1,.slice oa ol oq)]){cs:List Frame}{main:Bool}{Stop:Goroutine→World→Prop}
 (K:∀A w' t,A.getD 4 undef= .bool true→C9 w w'→J0 Try.prog main F0 Stop (G {bA 4 A (.code .ret::t)with mode:=.returning} cs) w'):
 J0 Try.prog main F0 Stop (G ((bA 4 A [.inRegion (oC f0e) [0,1],.code c00,.code g0q]).finish (.bool true)) cs) w:=by
 refine E00 J1 (Nat.zero_le _) hA fun A hA=>?_
 have hI:=hO.opsIn
 have hv1:=hv.alloc8 (.cells #[.slice oa ol oq] 34)
 have k1:C9 w (w.alloc (.cells #[.slice oa ol oq] 34)):=.of (by simp) fun r hr=>D0 _ _ hr
 have hO1:=hO.keep k1
 generalize w.alloc (.cells #[.slice oa ol oq] 34)=w1 at hI hv1 k1 hO1 ⊢
 refine N7 r08 F6 Try.func16 rfl (by kernel_rfl) (R:=p5 w1 (fun _=>l) 1 1048576 [] (ss0 start)) (fun τ e=>show Y6 Try.prog Try.f16 _ (retape w1 τ e) (p5 (retape w1 τ e) (fun _=>l) 1 1048576 [] (ss0 start))from n0V (w:=retape w1 τ e) ((s0x hv1).heap rfl) (by omega) (hI.kept8 (w':=retape w1 τ e) (Nat.le_refl _) fun r c e z h=>h) (by decide)) fun v w2 τ e hR hg=>?_
 clear hI hg
 replace hR:=hR.same (u':=w2) rfl
 obtain⟨s,order,xa,oa',sa',xc,oc',sc',Y,va,vc,rfl,hd,hov,ro,rs,rx,ry,hold,hsz,hst,h17⟩:=hR
 refine E01 J1 (Nat.zero_le _) hA fun A hA=>?_
 have hVb:=heap_alloc_new w2 (.cells #[.slice xa 1 xc,.slice oa' order.length oc',.slice sa' (R1.state s.q).length sc',.bool (decide (0<L5 s.live 1))] 31)
 have hVo:∀r,r<w2.heap.size→(w2.alloc (.cells #[.slice xa 1 xc,.slice oa' order.length oc',.slice sa' (R1.state s.q).length sc',.bool (decide (0<L5 s.live 1))] 31)).heap[r]? =w2.heap[r]?:=fun r hr=>D0 _ _ hr
 have hVs:w2.heap.size<(w2.alloc (.cells #[.slice xa 1 xc,.slice oa' order.length oc',.slice sa' (R1.state s.q).length sc',.bool (decide (0<L5 s.live 1))] 31)).heap.size:=by simp
 generalize w2.alloc (.cells #[.slice xa 1 xc,.slice oa' order.length oc',.slice sa' (R1.state s.q).length sc',.bool (decide (0<L5 s.live 1))] 31)=V at hVb hVo hVs ⊢
 have E1:l7 w1 V:=⟨by omega,fun r hr=>(hVo r (by omega)).trans (hold r hr)⟩
 have hvV:o5 V sa start:=hv1.same E1.o
 refine E02 J1 (Nat.zero_le _) (fun _=>rfl) (g0J _) hvV hnil hlen hA fun ga gc w3 A hI8 hA=>?_
 have E3:l7 V w3:=⟨hI8.size,hI8.old⟩
 obtain⟨_,eg,_,hgc⟩:=a0g hI8.row (by omega)
 cases eg
 have hg:o5 w3 (some ⟨ga,0,none⟩) start:=fun i x hx=>⟨ga,0,rfl,by
  rw[Nat.zero_add]
  exact hgc i _ (by rw[List.getElem?_append_left (by rw[List.length_map];exact(List.getElem?_eq_some_iff.1 hx).1),List.getElem?_map,hx];rfl)⟩
 have h77:w3.cell? ⟨ga,start.length,none⟩=some (vI 77):=hgc _ _ (by simp)
 refine c0C (xs:=start) hg (by omega) fun w4 hU hs4 ho4=>?_
 refine E03 hA fun A hA=>?_
 have E4:l7 w3 w4:=⟨by omega,ho4⟩
 refine c0C (xs:=start) ((hvV.same E3.o).same E4.o) (by omega) fun w5 hU2 hs5 ho5=>?_
 have E5:l7 w4 w5:=⟨by omega,ho5⟩
 have EV:=(E3.trans E4).trans E5
 have hb5:=(EV.o _ hVs).trans hVb
 have c3:w5.cell? ⟨w2.heap.size,3,none⟩=some (.bool (decide (0<L5 s.live 1))):=by simp[World.cell?,hb5]
 by_cases hst0:0<L5 s.live 1
 ·refine C0Y (nw:=0) J1 (Nat.zero_le _) (by rw[c3,decide_eq_true hst0]) hA fun A h4=>K A _ _ h4 (k1.trans ((E1.trans (EV.trans ((l7.refl w5).alloc _))).keep))
 have h0:L5 s.live 1=0:=by omega
 have hn0:0<(I4 start).ws.length:=by simp[I4];omega
 have hn16:(I4 start).ws.length≤16:=by simp[I4];omega
 obtain⟨o1,o2,o3⟩:=p0N (ops:=fun _=>l) (s0:=ss0 start) (q0z (n:=(I4 start).ws.length) l (I4 start) rfl rfl hn0) rfl hov h0
 have e2:=h0R (n:=(I4 start).ws.length) l (I4 start) rfl
 have hsl:(R1.state s.q).length=(I4 start).ws.length+1:=by
  rw[o1]
  show(_::_).length=_
  rw[List.length_cons,e2.2]
 obtain⟨zb,rfl,hzc,hzr⟩:=a0g rs (by omega)
 have c2:w5.cell? ⟨w2.heap.size,2,none⟩=some (vL zb 0 ((I4 start).ws.length+1) sc'):=by simp[World.cell?,hb5,hsl]
 have c1:w5.cell? ⟨w2.heap.size,1,none⟩=some (.slice oa' (s6 (I4 start).ws.length (I4 start) l).2.2 oc'):=by rw[← o3];simp[World.cell?,hb5]
 obtain⟨r1,r2,r3⟩:=ry 0 (by omega)
 obtain⟨rb,X⟩:=D0G (ans:=(s6 (I4 start).ws.length (I4 start) l).1) hO1 hold hsz hVo hVs hVb rx r1 (r2.trans o2) r3 (j0m _ _) (fun a ha=>h17 0 a (by rw[o2];exact ha))
 refine E04 (nw:=(I4 start).ws.length) J1 (Nat.zero_le _) (by rw[c3,decide_eq_false hst0]) c2 ((E4.trans E5).c h77) hn16 hlen hA fun A hA=>?_
 have E0:l7 w5 (w5.alloc (.cells #[vI 0] 39)):=(l7.refl w5).alloc _
 have hcb:(w5.alloc (.cells #[vI 0] 39)).heap[w5.heap.size]? =some (.cells #[vI 0] 39 (0,0)):=heap_alloc_new _ _
 have hs0:(w5.alloc (.cells #[vI 0] 39)).heap.size=w5.heap.size+1:=by simp
 generalize w5.alloc (.cells #[vI 0] 39)=w0 at E0 hcb hs0 ⊢
 have hC:SU (w3.heap.size+1) ⟨I4 start,w3.heap.size,0⟩ w0:=hU.same fun r hr=>(E0.o r (by have:=hU.low hr;have:=E5.s;omega)).trans (E5.o r (hU.low hr))
 have hD:SU (w4.heap.size+1) ⟨I4 start,w4.heap.size,0⟩ w0:=hU2.same fun r hr=>E0.o r (hU2.low hr)
 refine l0Z hC.h ?_
 refine E05 (nw:=(I4 start).ws.length) hA fun A hA=>?_
 refine b0k (v:=0) hC.v.c fun w6 e6=>?_
 refine E06 hA fun A hA=>?_
 have hs6:w6.heap.size=w5.heap.size+1:=by rw[e6,hs0]
 have EV6:l7 V w6:=(EV.trans E0).heap e6
 have b3:=E3.s
 refine m0m (V:=V) (w0:=w6) (lc:=w3.heap.size+1) (ld:=w4.heap.size+1) (cb:=w5.heap.size) (wc:=w3.heap.size) (wd:=w4.heap.size) X EV6 ⟨by omega,by omega,by omega,by omega,by omega,by omega,by omega,by omega,by omega,by omega,by omega,by omega,by omega⟩ ⟨by omega,by omega,by omega,by omega,by omega⟩ rfl rfl hn16 (by have:=hO.len;omega) (by have:=hO.len;omega) (fun A u hL hA=>?_) l.length 0 (by omega) w6 A ⟨hC.same fun r hr=>by rw[e6],hD.same fun r hr=>by rw[e6],(show w6.heap[w5.heap.size]? =some (.cells #[vI ((0:Nat):Int)] 39 (0,0))by rw[e6];exact hcb),Nat.le_refl _,fun _ _ _ _ _ _ _=>rfl⟩ hA
 have Eu:=hL.ext EV6 ⟨by omega,by omega,by omega,by omega,by omega⟩
 have hbu:=(Eu.o _ hVs).trans hVb
 have Ez:l7 w2 u:=(l7.trans ⟨Nat.le_of_lt hVs,hVo⟩ Eu)
 rw[o1]at hzr
 refine C0X (zb:=zb) (zc:=sc') (ra:=oa') (rc:=oc') hL.z hL.l hL.x e2.2.symm (by rw[e2.2];exact hn16) hn0 (by simp[World.cell?,hbu,hsl]) (by rw[← o3];simp[World.cell?,hbu]) (Ez.c (hzr 0 _ rfl)) ⟨fun k x hx=>⟨zb,1,rfl,?_⟩⟩ (by omega) hA fun A w' E h4=>K A w' [] h4 (k1.trans ((E1.trans (Eu.trans E)).keep))
 have:=hzr (k+1) x hx
 rw[Nat.add_comm]
 exact Ez.c this
theorem j0Z{An:G3}(hv:o5 W sa start)(hnil:sa=none→start=[]∧sc=0)(hlen:start.length≤1048576)(hO:d0S W oa ol oq l):
 Bes An Try.prog (l0b An (g0M W)) (G (Frame.enter Try.prog 4 #[.slice sa start.length sc,.slice oa ol oq] .normal) []) W:=by
 refine w7 (F:=F0) (Stop:=fun a u=>∃A,G0 145 A [(0,.slice sa start.length sc),(1,.slice oa ol oq)]∧u.heap=W.heap∧a=G (Frame.enter Try.prog 13 #[] .normal) [(bA 4 A [.inRegion (oC f0e) [0,1],.code c00,.code g0q])])
  (E0Z fun A hA=>.stop fun d=>⟨A,hA,rfl,rfl⟩) fun a u ⟨A,hA,hu,ha⟩=>?_
 subst ha
 have k0:C9 W u:=.of (by rw[hu];exact Nat.le_refl _) fun r _=>by rw[hu]
 refine m00 fun w1 hk=>?_
 have k1:=k0.trans hk
 refine w7 (F:=F0) (Stop:=fun a u2=>(∃A t,A.getD 4 undef= .bool true∧a=G {bA 4 A (.code .ret::t)with mode:=.returning} [])∧C9 w1 u2)
  (k0x (hv.kept8 k1.2) hnil hlen (hO.keep k1) hA fun A w' t h4 hk=>.stop fun d=>⟨⟨A,t,h4,rfl⟩,hk.1,hk.2⟩) fun a u2 ⟨⟨A,t,h4,ha⟩,hk2⟩=>?_
 subst ha
 exact Bes.stop (n0F (W:=W) Try.func4 rfl (by decide) h4 t (k1.trans hk2).2)
end
end
section
variable{F:Fz}{w:World}
theorem o5.alloc{va:Option Addr}{xs:List Int}{X:World}(h:o5 X va xs)(o:Obj):o5 (X.alloc o) va xs:=fun i x hx=>by
 obtain⟨b,q,e,h1⟩:=h i x hx
 exact⟨b,q,e,(O0 h1 o).1⟩
end
section
open Go Go.Conc Go.ChangeShapes
section
variable{H:Type}{enc:TypeId×Value→H}
theorem d0W{a:Assume}{C:Checked}{os:Os}{f:FuncId}{fn:Func}{s:OpenSpec}{k:(H:Type)→List (DataW H)→Bool}(hk:s.cond=some k){F:Stop.Interp}{conds:List PathCond}{apart fresh handsOn again:Bool}
 (own:ownKnob C.prog.godebug=none) (started:os.Started) (hfn:C.prog.funcs[f]? =some fn)
 (witness:∃(w:World) (tape:Tape) (i:Input),w.os=os∧(w.forCall tape i).Shaped C.prog∧i.vars=[]∧Input.okWide C.prog (w.forCall tape i) .any w.heap.size f i∧
   s.pre6 enc C.prog fn conds apart (w.forCall tape i).memory i.args∧a.holds C.prog (lone (Frame.enter C.prog f i.args .normal) [] (w.forCall tape i)))
 (runs:∀(W:World) (base:Nat) (args:Array Value) (ds gs:List (DataW H)) (before:List MemPlace),
   (∀(j:Nat) t v,fn.params[j]? =some t→args[j]? =some v→Value.okWide C.prog W .any base t v)→
   DataW.Whole enc C.prog fn.params.toList s.vars apart W args.toList ds gs before→
   conds.all (PathCond.test C.prog ⟨fn.params.toList,ds,s.bare.plain.varTypes C.prog,gs⟩)=true→k H (ds++gs)=true→
   a.holds C.prog (lone (Frame.enter C.prog f args .normal) [] W)→
   ∃M last o w' t',runNT C.prog (M+1) (solo (G (Frame.enter C.prog f args .normal) []) W) #[]=(.ended o w',t')∧runN C.prog M (solo (G (Frame.enter C.prog f args .normal) []) W)= .next last∧
    step C.prog last= .ended o w'∧Conc.Good C.prog (fun v W'=>(s.at F).post enc C.prog fn apart fresh handsOn again W args v W') last o w' t'):
 ReturnsInLeavingWide a C os f .any (s.pre6 enc C.prog fn conds apart) ((s.at F).post enc C.prog fn apart fresh handsOn again):=by
 refine returnsInLeavingWide_of_good own started witness ?_
 intro w tape i _ _ _ hok hpre hholds
 obtain⟨_,_,_,fn',hfn',_,_,_,_,hval⟩:=hok
 have e:fn'=fn:=Option.some.inj (hfn'.symm.trans hfn)
 subst e
 obtain⟨ds,gs,before,hw,hc,hkk⟩:=(OpenSpec.pre_some hk conds apart _ _).1 hpre.1
 have hw':=DataW.Whole.of_heap (w':=w.forCall tape i) (by rfl) hw
 obtain⟨M,last,o,w',t',h1,h2,h3,h4⟩:=runs (w.forCall tape i) w.heap.size i.args ds gs before hval hw' hc hkk hholds
 exact⟨M,last,o,w',t',h1,h2,h3,h4.mono fun v hp=>ChangeSpec.post_blind hp⟩
end
theorem b04{p:Pinned}{s:OpenSpec}{c:OpenClaim}(f:FuncId)(fn:Func)
 (hn:c.program=p.name) (hs:c.sum=p.sum) (hsp:c.spec=s.name)
 (hstart:c.start= .entering) (hout:c.outside=[]) (hin:c.inits=[]) (hun:c.under=none) (hi4:c.initsInPlace=[]∧c.initsUnfollowed=false∧c.initsRecurse=false∧c.initsNamed=[]∧c.initsPassed=[]) (hnb:c.noBlocks=false) (hlv:c.leaving=true) (hfo:c.followed=none) (hnar:c.narrowed=s.cond.isSome) (hstill:c.still=false)
 (hfn:p.checked.prog.funcNamed c.func=some f) (hf:p.checked.prog.funcs[f]? =some fn)
 (closed:joinedFacts p.checked.prog f fn s.bare c=true)
 (hinst:fn.isInstance p.checked.prog c.origin c.targs) (hwrap:fn.isWrapper p.checked.prog c.wrapper c.mainSum)
 (h:∀os:Os,os.Started→∀(H:Type) (enc:TypeId×Value→H),(∀a b,enc a=enc b→a=b)→∀F:Stop.Interp,
   ReturnsInLeavingWide c.assume p.checked os f .any (c.pre enc p.checked.prog fn s) ((s.at F).post enc p.checked.prog fn c.apart c.fresh c.handsOn c.again)):c.holds p s:=by
 simp only[joinedFacts,Bool.and_eq_true,beq_iff_eq,Array.all_eq_true_iff_forall_mem,List.all_eq_true,decide_eq_true_eq]at closed
 obtain⟨⟨⟨⟨⟨⟨⟨⟨⟨⟨⟨⟨⟨⟨⟨⟨⟨⟨⟨⟨⟨⟨⟨⟨⟨⟨⟨⟨⟨⟨⟨k1,k2⟩,k3⟩,k4⟩,k5⟩,k6⟩,k7⟩,k8⟩,k9⟩,k10⟩,k11⟩,k12⟩,k13⟩,k14⟩,k15⟩,k16⟩,k17⟩,k17b⟩,k18⟩,k19⟩,k20⟩,k21⟩,k22⟩,k23⟩,k23b⟩,k24⟩,k24b⟩,k24c⟩,k25⟩,k26⟩,k27⟩,k28⟩:=closed
 have hq:∀os:Os,Stop.quiet p.checked.prog os:=fun os k hk=>by rw[k9]at hk;cases hk
 refine⟨k1,hn,hs,hsp,k2,k3,by unfold OpenClaim.startFits;rw[hstart];exact k24,by unfold OpenClaim.startTold;rw[hstart];exact⟨hin,hun,hi4⟩,f,fn,hfn,hf,⟨k4,k19⟩,(fun hb=>by rw[hnb]at hb;cases hb),by unfold OpenClaim.namedList;rw[hfo];exact k5,hinst,hwrap,
  k6.trans k7.symm,⟨k8.trans k9.symm,by unfold Program.envWorded;rw[k9];rfl,k23b⟩,k10,k11,k12,k13,k14,⟨k15,k27,k28⟩,⟨k16,k20⟩,⟨k17,k21,k25,k26⟩,⟨k22,k24b,k24c,k17b⟩,(by rw[hout,hnar];cases hsh:c.shortTexts with|none=>simp|some _=>rw[hsh]at k23;cases k23),fun n hn'=>varReadable_some (k18 n hn'),
  ⟨_,by unfold OpenClaim.world;rw[hout,hstart];exact WideRow.started_initial,hq _⟩,[],by unfold OpenClaim.lists;rw[hfo],fun os st _ H enc inj=>?_⟩
 have st':os.Started:=by unfold OpenClaim.world at st;rw[hout,hstart]at st;exact st
 rw[OpenClaim.post_not_still hstill]
 unfold OpenClaim.form
 rw[hstart,k6]
 intro F
 have e1:c.okInput=Input.okWide:=by unfold OpenClaim.okInput;rw[hnb]
 have e2:c.atReturn p.checked.prog=leavingAtReturn p.checked.prog:=by unfold OpenClaim.atReturn;rw[hlv]
 have e3:c.always p.checked.prog []=nothingAlways:=by unfold OpenClaim.always;rw[hfo]
 have e4:s.post enc p.checked.prog fn F c.outside c.apart c.fresh c.handsOn c.again=(s.at F).post enc p.checked.prog fn c.apart c.fresh c.handsOn c.again:=by rw[hout];rfl
 rw[e1,e2,e3]
 show ReturnsInOpen _ _ _ _ _ _ _ _ (s.post enc p.checked.prog fn F c.outside c.apart c.fresh c.handsOn c.again) _ _
 rw[e4]
 exact h os st' H enc inj F k24
end
section
open Go.ChangeShapes Go.WideShapes Go.ChangeAt
section
variable{An:G3}{w w':World}
theorem o5.keep{va:Option Addr}{xs:List Int}(h:o5 w va xs)(hk:C9 w w'):o5 w' va xs:=fun i x hx=>by
 obtain⟨b,o,e,h1⟩:=h i x hx
 refine⟨b,o,e,?_⟩
 obtain⟨c,e2,z,ho⟩:=M3 h1
 have:=hk.2 _ _ _ _ ho
 rw[← h1];unfold World.cell?;simp only[this,ho]
end
section
variable{H:Type}{enc:TypeId×Value→H}{W:World}
theorem F0g{x:Int}(h:(Lit.int IntKind.i64 x).wf=true):i6 x=x:=by
 simp only[Lit.wf,Bool.and_eq_true,decide_eq_true_eq]at h
 exact IntWalk.i64_in _ h
theorem p0k{v:Value}{d:DataW H}{p:List MemPlace}(hv:Value.okWide Try.prog W .any W.heap.size 22 v)
 (h:DataW.Trod enc Try.prog W 0 (fun _=>true) true 22 v d p):
 ∃(a:Option Addr) (vs:List Int) (c:Nat),v= .slice a vs.length c∧vs.length≤Rows.uptoBulk d∧o5 W a vs∧(a=none→vs=[]∧c=0)∧∀x∈vs,i6 x=x:=by
 obtain⟨fuel,hf⟩:=h
 obtain⟨a0,l0,c0,rfl⟩:=okWide_slice Try.underlying22 hv
 rcases open_ints Try.underlying22 Try.underlying2 o0G hf with⟨h1,h2⟩|⟨a,len,cap,zs,h1,hb,hlc,_,hzl,h2,h3,h4⟩
 ·simp[Value.cells]at h1
  obtain⟨rfl,rfl,rfl⟩:=h1
  exact⟨none,[],0,rfl,Nat.zero_le _,fun i x hx=>by simp at hx,fun _=>⟨rfl,rfl⟩,fun x hx=>by cases hx⟩
 ·simp only[if_true]at hzl
  simp[Value.cells]at h1
  obtain⟨rfl,rfl,rfl⟩:=h1
  simp only[Prod.mk.injEq]at h2
  obtain⟨rfl,rfl⟩:=h2
  have el:(zs.take l0).length=l0:=by simp;omega
  refine⟨some a,zs.take l0,c0,by rw[el],?_,fun k u hk=>?_,(fun h=>by cases h),fun x hx=>F0g (h4 x (List.mem_of_mem_take hx))⟩
  ·have:=(e0l (H:=H) (lits .i64 (zs.take l0)) (lits .i64 (zs.drop l0))).1
   simpa [lits]using this
  ·have hkl:=(List.getElem?_eq_some_iff.1 hk).1
   rw[el]at hkl
   obtain⟨b,o,spot⟩:=a
   have hs:spot=none:=by
    have:=World.cell?_spot (h3 0 (by omega))
    simpa [Addr.add]using this
   subst hs
   have hu:zs.getD k 0=u:=by
    rw[List.getElem?_take_of_lt hkl]at hk
    simp[List.getD,hk]
   have hck:=h3 k (by omega)
   rw[add_plain,hu]at hck
   exact⟨b,o,rfl,hck⟩
end
end
section
open Go.ChangeShapes Go.WideShapes Go.ChangeAt
theorem f0P(os:Os)(started:os.Started)(H:Type)(enc:TypeId×Value→H)(F:Stop.Interp):
 ReturnsInLeavingWide {} Try.checked os 4 .any ((Rows.OpenSpec.upto Rows.seqlockCallsSpec).pre6 enc Try.prog Try.f4 Rows.seqlockCallsUptoRow.domain false) (((Rows.OpenSpec.upto Rows.seqlockCallsSpec).at F).post enc Try.prog Try.f4 false true false false):=by
 refine d0W (C:=Try.checked) (s:=Rows.OpenSpec.upto Rows.seqlockCallsSpec) (k:=Rows.uptoSmall) rfl Try.own started Try.func4
  (OpenSpec.witness (enc:=enc) (C:=Try.checked) (s:=Rows.OpenSpec.upto Rows.seqlockCallsSpec) (k:=Rows.uptoSmall) rfl false ⟨#[],#[.slice none 0 0,.slice none 0 0],[]⟩ 8 (by kernel_rfl) (by kernel_rfl) (by kernel_rfl)
    (x:=([.nil,.nil],[],[])) (by kernel_rfl) rfl (by kernel_rfl)) ?_
 intro W base args ds gs before hval0 hW _ hkk _
 have hval:∀(j:Nat) t v,Try.f4.params[j]? =some t→args[j]? =some v→Value.okWide Try.prog W .any base t v:=hval0
 have hW':=hW
 obtain⟨p,q,hA0,hV,rfl,hfz,_⟩:=hW
 have hA:DataW.TrodAll enc Try.prog W 0 (fun _=>true) true Try.f4.params.toList args.toList ds p:=hA0
 rw[Try.params4]at hA hval
 obtain⟨v0,v1,d0,d1,p0,p1,rfl,rfl,rfl,h0,h1⟩:=trodAll_two hA
 obtain⟨rfl,rfl⟩:=trodVars_none hV
 clear hA0 hval0
 simp only[List.append_nil,List.nil_append]at hW' hfz hkk
 have hlt:∀x∈p0++p1,x.block<W.heap.size:=fun x hx=>by simpa using hW'.lt x hx
 have hb:Rows.uptoBulkAll [d0,d1]≤1048576:=by simpa [Rows.uptoSmall]using hkk
 have b0:Rows.uptoBulk d0≤1048576:=Nat.le_trans (f0Y (by simp)) hb
 obtain⟨sa,start,sc,rfl,l0,r0,n0,_⟩:=p0k (hval 0 22 v0 rfl rfl) h0
 obtain⟨fuel,hf⟩:=h1
 obtain⟨a0,l1,c0,rfl⟩:=okWide_slice Try.underlying34 (hval 1 34 v1 rfl rfl)
 obtain⟨a,l,c,b,o,X,e1,e2,_,e4⟩:=x0F hf (fun b o h=>hfz b o (by simp[h]))
 cases e1
 have hO:d0S W a0 l1 c0 ((List.range (min l1 65536)).map X):=by
  refine⟨e2,by simp,fun k x hk=>?_⟩
  have hkl:=(List.getElem?_eq_some_iff.1 hk).1
  simp only[List.length_map,List.length_range]at hkl
  have hx':X k=x:=by
   rw[List.getElem?_map,List.getElem?_range hkl]at hk
   simpa using hk
  obtain⟨q1,q2⟩:=e4 k (by omega)
  rw[hx']at q2
  exact⟨_,_,q1,q2.f0,q2.f1,q2.f2,q2.f3,q2.g0,q2.g1,q2.g2,q2.g3⟩
 have hbes:=j0Z (An:=⟨W.heap.size,W⟩) (W:=W) (sc:=sc) r0 n0 (by omega) hO
 obtain⟨N,last,o',w',t',g1,g2,g3,g4⟩:=o0v (An:=⟨W.heap.size,W⟩) (Post:=fun v w'=>g0M W v w'∧(⟨W.heap.size,W⟩:G3).Holds w') (W:=W) ⟨rfl,rfl,rfl,Nat.le_refl _,fun r o _ h _=>h⟩ (Bes.bind hbes fun g w h=>Bes.stop ⟨h.1,fun d=>by
  obtain⟨v,e1,e2⟩:=h.2 d
  exact⟨v,e1,fun hh=>⟨e2 hh,hh⟩⟩⟩)
 refine⟨N,last,o',w',t',g1,g2,g3,g4.mono fun v hF=>?_⟩
 obtain⟨⟨rfl,hk⟩,hh⟩:=hF
 have hbelow:=o0u hh hk
 have q0:=Below.trod Try.laidOut (by kernel_rfl) (of_decide_eq_true (by kernel_rfl)) h0 hbelow (fun x hx=>hlt x (by simp[hx]))
 have q1:=Below.trod Try.laidOut (by kernel_rfl) (of_decide_eq_true (by kernel_rfl)) ⟨fuel,hf⟩ hbelow (fun x hx=>hlt x (by simp[hx]))
 refine⟨_,_,_,[],p0++(p1++[]),[],hW',?_,?_,rfl,hbelow.frame _,fun h=>by cases h⟩
 ·exact trodAll_mk1 (shut_bool Try.underlying4 true)
 ·exact⟨p0,_,q0,⟨p1,_,q1,trodAll_mk0,rfl⟩,rfl⟩
theorem seqlockCalls_holds:Rows.SeqlockCallsUptoSaid:=
 b04 4 Try.f4 rfl rfl rfl rfl rfl rfl rfl ⟨rfl,rfl,rfl,rfl,rfl⟩ rfl rfl rfl rfl rfl (by kernel_rfl) Try.func4 (by kernel_rfl)
  (of_decide_eq_true (by kernel_rfl)) (by unfold Func.isWrapper;first|(rw[if_pos (by decide +kernel)];kernel_rfl)|(rw[if_neg (by decide +kernel)];exact⟨rfl,rfl⟩))
  (fun os started H enc _ F=>f0P os started H enc F)
end
end Go.Proofs.Ytlcgkpapnpdfpaa
