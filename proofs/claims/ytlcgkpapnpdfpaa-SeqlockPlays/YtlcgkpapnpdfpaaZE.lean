/-
  Of SeqlockPlays: every run by a schedule is the machine's of the same steps. No condition.
  Part 5 of 6.
-/
import Derived.Test.YtlcgkpapnpdfpaaZD
import Derived.Deep.RegionHeld3
import Derived.Test.YtlcgkpapnpdfpaaRows
import Derived.ProofKit
import Derived.Carry
import Derived.Deep.Slices
import Derived.ChangeSlices
import Derived.Conc.LeavingOf
import Derived.ChangeSame
import Derived.JoinedCond
import Derived.Conc.Holds
set_option linter.unusedSimpArgs false
set_option linter.unusedVariables false
set_option linter.unusedSectionVars false
set_option maxRecDepth 100000
set_option maxHeartbeats 8000000
namespace Go.Proofs.Ytlcgkpapnpdfpaa
open Go Go.Conc Go.RowKit Go.Proofs
section
variable{w w':World}{b0:Nat}{B:R8B}{s:SSt}{ts:List R8T}
theorem get_set{α:Type}{l:List α}{i j:Nat}{x y:α}(h:(l.set i x)[j]? =some y):(j=i∧y=x)∨(j≠i∧l[j]? =some y):=by
 rw[List.getElem?_set]at h
 by_cases e:i=j
 ·subst e
  rw[if_pos rfl]at h
  split at h
  ·cases h;exact .inl ⟨rfl,rfl⟩
  ·cases h
 ·rw[if_neg e]at h
  exact .inr ⟨fun h=>e h.symm,h⟩
theorem mem_get{α:Type}{l:List α}{x:α}(h:x∈l):∃i:Nat,l[i]? =some x:=List.mem_iff_getElem?.1 h
theorem R8A.put{U:World}{i tb tc j:Nat}{t t':R8T}{v:Value}(h:R8A w b0 B s ts)(ht:ts[i]? =some t)(htv:B.tv= .slice (some ⟨tb,0,none⟩) ts.length tc)(hj:j<8)(hc:t'.cells=t.cells.set j v)
 (hsz:w.heap.size≤U.heap.size) (hold:∀r,r<w.heap.size→¬R8R t r→U.heap[r]? =w.heap[r]?) (hH:R8H U t') (hR:∀r,R8R t' r→R8R t r∨w.heap.size≤r) (hb:b0≤w.heap.size):
 R8A (U.setCell ⟨tb,i*8+j,none⟩ v) b0 B s (ts.set i t'):=by
 have hi:=(List.getElem?_eq_some_iff.1 ht).1
 have hmem:t∈ts:=List.mem_of_getElem? ht
 have hT:=h.thr t hmem
 obtain⟨c,hcb⟩:=row_blk h.row (r:=tb) (by rw[htv];rfl)
 obtain⟨d,hd⟩:=h.w_ty
 have n1:B.mb≠tb:=heap_ty h.o hcb (by decide)
 have n2:B.wb≠tb:=heap_ty hd hcb (by decide)
 have htb:=(alt hcb)
 have k1:¬R8R t tb:=fun hr=>hT.ne hr hcb (by decide) (by decide) rfl
 have k2:¬R8R t B.mb:=fun hr=>hT.ne hr h.o (by decide) (by decide) rfl
 have k3:¬R8R t B.wb:=h.wn t hmem
 have e1:∀r,r<w.heap.size→¬R8R t r→r≠tb→(U.setCell ⟨tb,i*8+j,none⟩ v).heap[r]? =w.heap[r]?:=fun r h1 h2 h3=>(heap_setCell_ne _ _ _ h3).trans (hold r h1 h2)
 have hnt:∀r,R8R t' r→r≠tb:=fun r hr=>(hR r hr).elim (fun h e=>k1 (e ▸ h)) fun h=>by omega
 have hlen:(ts.set i t').length=ts.length:=List.length_set
 refine⟨h.wf,(e1 _ h.low_m k2 n1).trans h.o,ownsRow_same2 h.wds fun b hb _=>?_,?_,fun u hu=>?_,fun x y u1 u2 h1 h2 hne r hr1 hr2=>?_,fun u hu hr=>?_,h.b1,h.b2,h.b3,fun u hu r hr=>?_⟩
 ·simp only[Value.ownBlock,Option.some.injEq]at hb
  subst hb
  exact e1 _ (alt hd) k3 n2
 ·rw[hlen,r8C_set ts i t t' j v ht hj hc]
  have hr:U.ownsRow 0 149 8 B.tv ts.length (r8C ts):=ownsRow_same2 h.row fun b hb _=>by
   rw[htv]at hb
   simp only[Value.ownBlock,Option.some.injEq]at hb
   subst hb
   exact hold _ htb k1
  rw[htv]at hr ⊢
  exact own_row_set hr (by omega)
 ·obtain⟨k,hk⟩:=mem_get hu
  rcases get_set hk with⟨rfl,rfl⟩|⟨hne,hk⟩
  ·exact hH.same fun r hr=>heap_setCell_ne _ _ _ (hnt r hr)
  ·have hu2:=h.thr u (List.mem_of_getElem? hk)
   exact hu2.same fun r hr=>e1 r (hu2.low hr) (fun h2=>h.tt k i u t hk ht hne r hr h2) (hu2.ne hr hcb (by decide) (by decide))
 ·rcases get_set h1 with⟨e1,e2⟩|⟨hx,g1⟩
  ·rcases get_set h2 with⟨e3,e4⟩|⟨hy,g2⟩
   ·exact hne (e1.trans e3.symm)
   ·have hlow:=(h.thr u2 (List.mem_of_getElem? g2)).low hr2
    rw[e2]at hr1
    rcases hR r hr1 with h3|h3
    ·exact h.tt i y t u2 ht g2 (Ne.symm hy) r h3 hr2
    ·omega
  ·rcases get_set h2 with⟨e3,e4⟩|⟨hy,g2⟩
   ·have hlow:=(h.thr u1 (List.mem_of_getElem? g1)).low hr1
    rw[e4]at hr2
    rcases hR r hr2 with h3|h3
    ·exact h.tt x i u1 t g1 ht hx r hr1 h3
    ·omega
   ·exact h.tt x y u1 u2 g1 g2 hne r hr1 hr2
 ·obtain⟨k,hk⟩:=mem_get hu
  rcases get_set hk with⟨rfl,rfl⟩|⟨hne,hk⟩
  ·rcases hR _ hr with h3|h3
   ·exact k3 h3
   ·have:=(alt hd)
    omega
  ·exact h.wn u (List.mem_of_getElem? hk) hr
 ·obtain⟨k,hk⟩:=mem_get hu
  rcases get_set hk with⟨rfl,rfl⟩|⟨hne,hk⟩
  ·rcases hR r hr with h3|h3
   ·exact h.b4 t hmem r h3
   ·omega
  ·exact h.b4 u (List.mem_of_getElem? hk) r hr
theorem R8A.bs(h:R8A w b0 B s ts):b0≤w.heap.size:=Nat.le_trans h.b1 (Nat.le_of_lt h.low_m)
section
variable{i tb tc:Nat}{t:R8T}
theorem R8A.num(h:R8A w b0 B s ts)(ht:ts[i]? =some t)(htv:B.tv= .slice (some ⟨tb,0,none⟩) ts.length tc)(j:Nat)(t':R8T)(v:Value)(hj:j<8)(hc:t'.cells=t.cells.set j v)(e1:t'.av=t.av)(e2:t'.ans=t.ans)(e3:t'.so=none∨t'.so=some []∧t'.sv= .slice none 0 0∨t'.so=t.so∧t'.sv=t.sv):R8A (w.setCell ⟨tb,i*8+j,none⟩ v) b0 B s (ts.set i t'):=by
 have hT:=h.thr t (List.mem_of_getElem? ht)
 refine h.put (t':=t') ht htv hj hc (Nat.le_refl _) (fun _ _ _=>rfl) ⟨by rw[e1,e2];exact hT.av,by rw[e2];exact hT.au,fun l hl=>?_,fun hn r hr a ha=>?_⟩ (fun r hr=>.inl ?_) h.bs
 ·rcases e3 with e3|⟨e3,e4⟩|⟨e3,e4⟩
  ·rw[e3]at hl;cases hl
  ·rw[e3]at hl
   cases hl
   rw[e4]
   exact⟨rfl,.inl ⟨rfl,rfl⟩⟩
  ·rw[e4];exact hT.sv l (e3 ▸ hl)
 ·rcases e3 with e3|⟨e3,e4⟩|⟨e3,e4⟩
  ·exact absurd e3 hn
  ·rw[e4]at hr;cases hr
  ·exact hT.dj (e3 ▸ hn) r (e4 ▸ hr) a (e2 ▸ ha)
 ·rcases hr with hr|⟨hn,hr⟩|⟨a,ha,hr⟩
  ·exact .inl (e1 ▸ hr)
  ·rcases e3 with e3|⟨e3,e4⟩|⟨e3,e4⟩
   ·exact absurd e3 hn
   ·rw[e4]at hr;cases hr
   ·exact .inr (.inl ⟨e3 ▸ hn,e4 ▸ hr⟩)
  ·exact .inr (.inr ⟨a,e2 ▸ ha,hr⟩)
theorem R8A.ver(h:R8A w b0 B s ts)(v:Int):R8A (w.setCell ⟨B.mb,0,none⟩ (.int .i64 v)) b0 B {s with ver:=v} ts:=by
 have hn:=h.mw
 have e1:∀r,r≠B.mb→(w.setCell ⟨B.mb,0,none⟩ (.int .i64 v)).heap[r]? =w.heap[r]?:=fun r hr=>heap_setCell_ne _ _ _ hr
 refine⟨⟨h.wf.n1,h.wf.n2⟩,?_,ownsRow_same2 h.wds fun b hb _=>?_,ownsRow_same2 h.row fun b hb _=>?_,fun u hu=>(h.thr u hu).same fun r hr=>e1 r ((h.thr u hu).ne hr h.o (by decide) (by decide)),h.tt,h.wn,h.b1,h.b2,h.b3,h.b4⟩
 ·rw[heap_set_eq h.o]
  simp
 ·simp only[Value.ownBlock,Option.some.injEq]at hb
  subst hb
  exact e1 _ hn
 ·obtain⟨c,hc⟩:=row_blk h.row hb
  exact e1 b (heap_ty hc h.o (by decide))
theorem R8A.word(h:R8A w b0 B s ts){k:Nat}(hk:k<s.ws.length)(v:Int):R8A (w.setCell ⟨B.wb,k,none⟩ (.int .i64 v)) b0 B {s with ws:=s.ws.set k v} ts:=by
 have hn:=h.mw
 obtain⟨d,hd⟩:=h.w_ty
 have e1:∀r,r≠B.wb→(w.setCell ⟨B.wb,k,none⟩ (.int .i64 v)).heap[r]? =w.heap[r]?:=fun r hr=>heap_setCell_ne _ _ _ hr
 refine⟨⟨by simpa using h.wf.n1,by simpa using h.wf.n2⟩,?_,?_,ownsRow_same2 h.row fun b hb _=>?_,fun u hu=>(h.thr u hu).same fun r hr=>e1 r fun e=>h.wn u hu (e ▸ hr),h.tt,h.wn,h.b1,h.b2,h.b3,h.b4⟩
 ·rw[e1 _ hn.symm]
  simpa using h.o
 ·have:=own_row_set (k:=k) (v:=.int .i64 v) h.wds (by omega)
  simpa [List.map_set]using this
 ·obtain⟨c,hc⟩:=row_blk h.row hb
  exact e1 b (heap_ty hc hd (by decide))
theorem R8A.seen{U:World}{l:List Int}{x:Int}{v':Value}(h:R8A w b0 B s ts)(ht:ts[i]? =some t)(htv:B.tv= .slice (some ⟨tb,0,none⟩) ts.length tc)(hl:t.so=some l)(hsz:w.heap.size≤U.heap.size)(hown:U.ownsRow 0 2 1 v' (l.length+1) ((l.map fun v=>.int .i64 v)++[.int .i64 x]))
 (hold:∀r,r<w.heap.size→some r≠t.sv.ownBlock→U.heap[r]? =w.heap[r]?) (hfr:v'.ownBlock=t.sv.ownBlock∨∃g,v'.ownBlock=some g∧w.heap.size≤g):
 R8A (U.setCell ⟨tb,i*8+7,none⟩ v') b0 B s (ts.set i {t with sv:=v',so:=some (l++[x])}):=by
 have hT:=h.thr t (List.mem_of_getElem? ht)
 have hn:t.so≠none:=by simp[hl]
 have hsr:=hT.sv l hl
 have hav:∀r,t.av.ownBlock=some r→U.heap[r]? =w.heap[r]?:=fun r hr=>by
  obtain⟨c,hc⟩:=row_blk hT.av hr
  refine hold r (alt hc) fun e=>?_
  obtain⟨d,hd⟩:=row_blk hsr e.symm
  exact heap_ty hc hd (by decide) rfl
 have hal:∀a∈t.ans,∀r,a.row.ownBlock=some r→U.heap[r]? =w.heap[r]?:=fun a ha r hr=>by
  obtain⟨c,hc⟩:=row_blk (hT.au a ha) hr
  exact hold r (alt hc) fun e=>hT.dj hn r e.symm a ha hr
 refine h.put (t':={t with sv:=v',so:=some (l++[x])}) ht htv (by omega) rfl hsz (fun r h1 h2=>hold r h1 fun e=>h2 (.inr (.inl ⟨hn,e.symm⟩))) ⟨ownsRow_same2 hT.av fun b hb _=>hav b hb,fun a ha=>ownsRow_same2 (hT.au a ha) fun b hb _=>hal a ha b hb,fun l2 hl2=>?_,fun _ r hr a ha h2=>?_⟩ (fun r hr=>?_) h.bs
 ·cases hl2
  simpa using hown
 ·rcases hfr with e|⟨g,e,hg⟩
  ·exact hT.dj hn r (e ▸ hr) a ha h2
  ·have hr:v'.ownBlock=some r:=hr
   rw[e]at hr
   cases hr
   obtain⟨c,hc⟩:=row_blk (hT.au a ha) h2
   have:=(alt hc)
   omega
 ·rcases hr with hr|⟨_,hr⟩|⟨a,ha,hr⟩
  ·exact .inl (.inl hr)
  ·have hr:v'.ownBlock=some r:=hr
   rcases hfr with e|⟨g,e,hg⟩
   ·exact .inl (.inr (.inl ⟨hn,e ▸ hr⟩))
   ·rw[e]at hr
    cases hr
    exact .inr hg
  ·exact .inl (.inr (.inr ⟨a,ha,hr⟩))
theorem R8A.note{U:World}{a:SA}{v':Value}(h:R8A w b0 B s ts)(ht:ts[i]? =some t)(htv:B.tv= .slice (some ⟨tb,0,none⟩) ts.length tc)(ha:a.row= .slice none 0 0∧a.an.2.2=[]∨∃l,t.so=some l∧a.row=t.sv∧a.an.2.2=l)(hsz:w.heap.size≤U.heap.size)(hown:U.ownsRow 0 44 3 v' (t.ans.length+1) (ansS t.ans++a.v.cells))
 (hold:∀r,r<w.heap.size→some r≠t.av.ownBlock→U.heap[r]? =w.heap[r]?) (hfr:v'.ownBlock=t.av.ownBlock∨∃g,v'.ownBlock=some g∧w.heap.size≤g):
 R8A (U.setCell ⟨tb,i*8+1,none⟩ v') b0 B s (ts.set i {t with av:=v',ans:=t.ans++[a],so:=none}):=by
 have hT:=h.thr t (List.mem_of_getElem? ht)
 have hal:∀(v:Value) n xs,w.ownsRow 0 2 1 v n xs→U.ownsRow 0 2 1 v n xs:=fun v n xs hv=>ownsRow_same2 hv fun b hb _=>by
  obtain⟨c,hc⟩:=row_blk hv hb
  refine hold b (alt hc) fun e=>?_
  obtain⟨d,hd⟩:=row_blk hT.av e.symm
  exact heap_ty hc hd (by decide) rfl
 have hau:SAU a U:=by
  rcases ha with⟨e1,e2⟩|⟨l,e0,e1,e2⟩
  ·unfold SAU
   rw[e1,e2]
   exact⟨rfl,.inl ⟨rfl,rfl⟩⟩
  ·unfold SAU
   rw[e1,e2]
   exact hal _ _ _ (hT.sv l e0)
 refine h.put (t':={t with av:=v',ans:=t.ans++[a],so:=none}) ht htv (by omega) rfl hsz (fun r h1 h2=>hold r h1 fun e=>h2 (.inl e.symm)) ⟨?_,fun x hx=>?_,fun l hl=>(by cases hl),fun hn=>absurd rfl hn⟩ (fun r hr=>?_) h.bs
 ·have e:ansS (t.ans++[a])=ansS t.ans++a.v.cells:=by simp[ansS]
  show U.ownsRow 0 44 3 v' (t.ans++[a]).length (ansS (t.ans++[a]))
  rw[e,List.length_append]
  exact hown
 ·have hx:x∈t.ans++[a]:=hx
  rcases List.mem_append.1 hx with hx|hx
  ·exact hal _ _ _ (hT.au x hx)
  ·rw[List.mem_singleton.1 hx];exact hau
 ·rcases hr with hr|⟨hn,_⟩|⟨x,hx,hr⟩
  ·have hr:v'.ownBlock=some r:=hr
   rcases hfr with e|⟨g,e,hg⟩
   ·exact .inl (.inl (e ▸ hr))
   ·rw[e]at hr
    cases hr
    exact .inr hg
  ·exact absurd rfl hn
  ·have hx:x∈t.ans++[a]:=hx
   rcases List.mem_append.1 hx with hx|hx
   ·exact .inl (.inr (.inr ⟨x,hx,hr⟩))
   ·rw[List.mem_singleton.1 hx]at hr
    rcases ha with⟨e1,e2⟩|⟨l,e0,e1,e2⟩
    ·rw[e1]at hr;cases hr
    ·exact .inl (.inr (.inl ⟨by simp[e0],e1 ▸ hr⟩))
end
end
section
def Ld(t:TypeId)(o:Operand):Op:=.load t o
@[go_sem] theorem Ld_eq(t:TypeId)(o:Operand):Ld t o= .load t o:=rfl
variable{w w':World}{b0:Nat}{B:R8B}{s:SSt}{ts:List R8T}
theorem R8A.num2{i tb tc:Nat}{t:R8T}(h:R8A w b0 B s (ts.set i t))(hi:i<ts.length)(htv:B.tv= .slice (some ⟨tb,0,none⟩) ts.length tc)(j:Nat)(t':R8T)(v:Value)(hj:j<8)(hc:t'.cells=t.cells.set j v)(e1:t'.av=t.av)(e2:t'.ans=t.ans)(e3:t'.so=none∨t'.so=some []∧t'.sv= .slice none 0 0∨t'.so=t.so∧t'.sv=t.sv):R8A (w.setCell ⟨tb,i*8+j,none⟩ v) b0 B s (ts.set i t'):=by
 have hlen:(ts.set i t).length=ts.length:=List.length_set
 have:=h.num (i:=i) (t:=t) (tb:=tb) (tc:=tc) (by simp[List.getElem?_set,hi]) (by rw[hlen];exact htv) j t' v hj hc e1 e2 e3
 rwa [List.set_set]at this
def R8T.fin(t:R8T)(av':Value)(a:SA):R8T:={t with av:=av',ans:=t.ans++[a],so:=none,k:=t.k+1,pc:=0}
def AnsIn(t:R8T)(a:SA):Prop:=a.row= .slice none 0 0∧a.an.2.2=[]∨∃l,t.so=some l∧a.row=t.sv∧a.an.2.2=l
theorem cell_off{w:World}{a b k j:Nat}{v:Value}(h:a≠b):(w.setCell ⟨a,k,none⟩ v).cell? ⟨b,j,none⟩=w.cell? ⟨b,j,none⟩:=World.cell?_setCell_other _ _ _ _ (by intro e;injection e with e1;exact h e1)
theorem end8{i:Nat}{t:R8T}{a:SA}(h:R8A w b0 B s ts)(ht:ts[i]? =some t)(ha:AnsIn t a)(hl:t.ans.length<100000000)(hk:t.k<100000000):
 Calls Try.prog 107 #[.pointer (some ⟨B.mb,0,none⟩),.int .i64 i,.agg #[.bool a.an.1,.int .i64 a.an.2.1,.slice a.la a.ll a.lc]] w fun e w'=>e= .returned (.tuple #[])∧(∃av',R8A w' b0 B s (ts.set i (t.fin av' a)))∧Stay b0 w w':=by
 obtain⟨i0,z0,hi,hz0,hz1,hz2,hz3⟩:=infoB44
 obtain⟨x1,x2,x3⟩:∃b n r,b=a.an.1∧n=a.an.2.1∧r=a:=⟨_,_,_,rfl,rfl,rfl⟩
 have hw1:(w.alloc (.cells #[.bool a.an.1,.int .i64 a.an.2.1,.slice a.la a.ll a.lc] 44)).heap[w.heap.size]? =some (.cells #[.bool a.an.1,.int .i64 a.an.2.1,.slice a.la a.ll a.lc] 44 (0,0)):=heap_alloc_new _ _
 have hsame:∀r,r<w.heap.size→(w.alloc (.cells #[.bool a.an.1,.int .i64 a.an.2.1,.slice a.la a.ll a.lc] 44)).heap[r]? =w.heap[r]?:=fun r hr=>heap_alloc_lt _ _ hr
 have hsz1:(w.alloc (.cells #[.bool a.an.1,.int .i64 a.an.2.1,.slice a.la a.ll a.lc] 44)).heap.size=w.heap.size+1:=by simp
 have hwr:IntKind.i64.wrap ((t.k:Int)+1)=(t.k:Int)+1:=IntWalk.i64_in _ (by omega)
 have hilt:=(List.getElem?_eq_some_iff.1 ht).1
 have T0:Aside (R8A w b0 B s ts∧ts[i]? =some t∧AnsIn t a∧b0≤w.heap.size):=⟨h,ht,ha,h.bs⟩
 clear h ht ha x1 x2 x3
 go_enter Try.func107,Try.ntmps107
 go_wp2
 generalize w.alloc (.cells #[.bool a.an.1,.int .i64 a.an.2.1,.slice a.la a.ll a.lc] 44)=W at hw1 hsame hsz1 ⊢
 have hA:=T0.out.1.more hsame
 have hT:=hA.thr t (List.mem_of_getElem? T0.out.2.1)
 have htb0:∀tb,B.tv.ownBlock=some tb→tb<w.heap.size:=fun tb h=>by obtain⟨c,hc⟩:=row_blk T0.out.1.row h;exact(alt hc)
 obtain⟨tb,tc,htv,m0,m1,m2,zm,t0,t1,t3,t4,t5,t6,t7,zt,mt,wt,htb⟩:=hA.fx T0.out.2.1
 have c0:W.cell? ⟨w.heap.size,0,none⟩=some (.bool a.an.1):=by simp[World.cell?,hw1]
 have c1:W.cell? ⟨w.heap.size,1,none⟩=some (.int .i64 a.an.2.1):=by simp[World.cell?,hw1]
 have c2:W.cell? ⟨w.heap.size,2,none⟩=some (.slice a.la a.ll a.lc):=by simp[World.cell?,hw1]
 have hrow1:=hT.av
 have hma:some B.mb≠t.av.ownBlock:=fun e=>by obtain⟨c,hc⟩:=row_blk hrow1 e.symm;exact heap_ty hc hA.o (by decide) rfl
 have hta:some tb≠t.av.ownBlock:=fun e=>by
  obtain⟨c,hc⟩:=row_blk hrow1 e.symm
  obtain⟨d,hd⟩:=row_blk hA.row (r:=tb) (by rw[htv];rfl)
  exact heap_ty hc hd (by decide) rfl
 have htb0:=htb0 tb (by rw[htv];rfl)
 have hmlt:=hA.low_m
 have hA0:∀r,t.av.ownBlock=some r→r<w.heap.size:=fun r hr=>(T0.out.1.thr t (List.mem_of_getElem? T0.out.2.1)).low (.inl hr)
 have H:Aside (R8A W b0 B s ts∧W.heap.size=w.heap.size+1∧(∀r,r<w.heap.size→W.heap[r]? =w.heap[r]?)∧B.tv= .slice (some ⟨tb,0,none⟩) ts.length tc):=⟨hA,hsz1,hsame,htv⟩
 have p1:=(cellB_alloc t1 (.cells #[.bool a.an.1,.int .i64 a.an.2.1,.slice a.la a.ll a.lc] 44)).1
 have p2:=(cellB_alloc m2 (.cells #[.bool a.an.1,.int .i64 a.an.2.1,.slice a.la a.ll a.lc] 44)).1
 have hilt2:(i:Int)<(ts.length:Int):=by omega
 clear hA hT hsame hw1 htv m0 m1 t0 t5 t6 t7
 have hba:some w.heap.size≠t.av.ownBlock:=fun e=>by have:=(hA0 w.heap.size e.symm);omega
 have hbl:w.heap.size<W.heap.size:=by omega
 have hbt:tb≠w.heap.size:=by omega
 rw[← Ld_eq 42 (.tmp 17)]
 go_region_held3 (fun u:World=>u.cell? ⟨B.mb,2,none⟩=some (.slice (some ⟨tb,0,none⟩) ts.length tc)∧u.cell? ⟨w.heap.size,0,none⟩=some (.bool a.an.1)∧u.cell? ⟨w.heap.size,1,none⟩=some (.int .i64 a.an.2.1)∧u.cell? ⟨w.heap.size,2,none⟩=some (.slice a.la a.ll a.lc))
  (first|exact⟨m2,c0,c1,c2⟩|exact⟨(cellB_alloc m2 _).1,(cellB_alloc c0 _).1,(cellB_alloc c1 _).1,(cellB_alloc c2 _).1⟩|exact SQ.out|exact⟨(cell_off mt.symm).trans SQ.out.1,(cell_off hbt).trans SQ.out.2.1,(cell_off hbt).trans SQ.out.2.2.1,(cell_off hbt).trans SQ.out.2.2.2⟩|go_keep)
  (first|(refine step_append_fresh rfl (.tmp 18) (.tmp 20) 42 rfl 44 i0 z0 3 40 Try.underlying42 hi hz0 hz1 hz2 hz3 (by decide) t.av t.ans.length (ansS t.ans) (by simp[Act.eval,Act.put]) ((show W.drew.ownsRow 0 44 3 _ _ _ from hrow1).alloc _) ⟨W.heap.size,0,none⟩ 1 1 a.v.cells (by simp[Act.eval,Act.put]) rfl (new_cells (X:=W.drew) (l:=[.bool a.an.1,.int .i64 a.an.2.1,.slice a.la a.ll a.lc]) rfl) (by intro u hu;simp[AnsV.cells,SA.v]at hu;rcases hu with rfl|rfl|rfl<;>rfl) (by unfold maxLen;omega) (by omega) ?_;intro v' w3 hown hgrow hfr;obtain⟨g,cap,rfl⟩:=own_slice hown;have hk1:=grown_old (W:=W.drew) hgrow (r:=tb) htb hta;have hk2:=grown_old (W:=W.drew) hgrow (r:=B.mb) hmlt hma;have hk3:=grown_old (W:=W.drew) hgrow (r:=w.heap.size) hbl hba;have k0:=(cell_heap (j:=2) hk2).1.trans m2;have k1:=(cell_heap (j:=i*8+3) hk1).1.trans t3;have k2:=(cell_heap (j:=i*8+1) hk1).1.trans t1;have k4:=(cell_heap (j:=i*8+4) hk1).1.trans t4;have q0:=(cell_heap (j:=0) hk3).1.trans c0;have q1:=(cell_heap (j:=1) hk3).1.trans c1;have q2:=(cell_heap (j:=2) hk3).1.trans c2;have SQ:Aside (w3.cell? ⟨B.mb,2,none⟩=some (.slice (some ⟨tb,0,none⟩) ts.length tc)∧w3.cell? ⟨w.heap.size,0,none⟩=some (.bool a.an.1)∧w3.cell? ⟨w.heap.size,1,none⟩=some (.int .i64 a.an.2.1)∧w3.cell? ⟨w.heap.size,2,none⟩=some (.slice a.la a.ll a.lc)):=⟨k0,q0,q1,q2⟩;have zz1:=(cell_heap (j:=i*8+1) hk1).2.trans (zt (i*8+1));have zz3:=(cell_heap (j:=i*8+3) hk1).2.trans (zt (i*8+3));have zz4:=(cell_heap (j:=i*8+4) hk1).2.trans (zt (i*8+4));have F:Aside ((∀r,r<W.heap.size→some r≠t.av.ownBlock→w3.heap[r]? =W.heap[r]?)∧W.heap.size≤w3.heap.size∧((Value.slice (some ⟨g,0,none⟩) (t.ans.length+1) cap).ownBlock=t.av.ownBlock∨∃g',(Value.slice (some ⟨g,0,none⟩) (t.ans.length+1) cap).ownBlock=some g'∧W.heap.size≤g')):=⟨fun r hr hn=>grown_old (W:=W.drew) hgrow hr hn,Nat.le_trans (by simp[World.drew]) hgrow.size,hfr.imp id fun⟨g',h1,h2⟩=>⟨g',h1,Nat.le_trans (by simp[World.drew]) h2⟩⟩;clear hgrow hfr hk1 hk2 hk3))
 all_goals(
  go_wp2
  generalize hX:w3.setCell ⟨tb,i*8+1,none⟩ (.slice (some ⟨g,0,none⟩) (t.ans.length+1) cap)=X
  have k0:X.cell? ⟨B.mb,2,none⟩=some (.slice (some ⟨tb,0,none⟩) ts.length tc):=by rw[← hX,World.cell?_setCell_other _ _ _ _ (by intro e;injection e with e1;exact mt e1.symm)];exact k0
  have k1:X.cell? ⟨tb,i*8+3,none⟩=some (.int .i64 t.k):=by rw[← hX,World.cell?_setCell_other _ _ _ _ (by intro e;injection e with _ e1;omega)];exact k1
  have k4:X.cell? ⟨tb,i*8+4,none⟩=some (.int .i64 t.pc):=by rw[← hX,World.cell?_setCell_other _ _ _ _ (by intro e;injection e with _ e1;omega)];exact k4
  have zz3:X.frozen? ⟨tb,i*8+3,none⟩=false:=by rw[← hX,World.frozen?_setCell];exact zz3
  have zz4:X.frozen? ⟨tb,i*8+4,none⟩=false:=by rw[← hX,World.frozen?_setCell];exact zz4
  have HX:Aside (w3.setCell ⟨tb,i*8+1,none⟩ (.slice (some ⟨g,0,none⟩) (t.ans.length+1) cap)=X):=hX
  have HO:Aside (w3.ownsRow 0 44 3 (.slice (some ⟨g,0,none⟩) (t.ans.length+1) cap) (t.ans.length+1) (ansS t.ans++a.v.cells)):=hown
  clear hX hown q0 q1 q2 k2 zz1 t1 t3 m2 c0 c1 c2 p1 p2 t4
  go_region_law (fail)
  all_goals go_wp2
  all_goals(
   go_end0
   obtain⟨hA,hsz,hsame,htv⟩:=H.out
   obtain⟨f1,f2,f3⟩:=F.out
   obtain⟨hw,ht,ha,hb⟩:=T0.out
   have hN:=hA.note (a:=a) ht htv ha f2 HO.out f1 f3
   rw[HX.out]at hN
   have h2:=hN.num2 hilt htv 3 {t with av:=_,ans:=t.ans++[a],so:=none,k:=t.k+1} (.int .i64 ((t.k:Int)+1)) (by omega) rfl rfl rfl (.inl rfl)
   have h3:=h2.num2 hilt htv 4 (t.fin _ a) (.int .i64 0) (by omega) rfl rfl rfl (.inl rfl)
   have hbt:b0≤tb:=hA.b3 tb (by rw[htv];rfl)
   have hS:Stay b0 w w3:=⟨by omega,fun r hr=>(f1 r (by omega) fun e=>by have:=hA.b4 t (List.mem_of_getElem? ht) r (.inl e.symm);omega).trans (hsame r (by omega)),fun r c y z q e0=>(f1 r (by have:=(alt e0);omega) fun e=>hA.no3 (List.mem_of_getElem? ht) (.inl e.symm) q ((hsame r (alt e0)).trans e0)).trans (hsame r (alt e0))⟩
   have hS2:Stay b0 w X:=HX.out ▸ hS.set (a:=⟨tb,i*8+1,none⟩) hbt _
   exact⟨rfl,⟨_,h3.heap rfl⟩,((hS2.set (a:=⟨tb,i*8+3,none⟩) hbt _).set (a:=⟨tb,i*8+4,none⟩) hbt _).heap rfl⟩))
end
section
variable{w w':World}{b0:Nat}{B:R8B}{s:SSt}{ts:List R8T}
def R8T.again(t:R8T):R8T:={t with tr:=t.tr - 1,pc:=1,sv:=.slice none 0 0,so:=some []}
def noA:SA:=⟨(false,0,[]),none,0,0⟩
theorem set_get{ts:List R8T}{i:Nat}{t t':R8T}(ht:ts[i]? =some t):(ts.set i t')[i]? =some t':=by
 have:=(List.getElem?_eq_some_iff.1 ht).1
 simp[List.getElem?_set,this]
theorem failed8{i:Nat}{t:R8T}(h:R8A w b0 B s ts)(ht:ts[i]? =some t)(htr:1≤t.tr∧t.tr≤1024)(hl:t.ans.length<100000000)(hk:t.k<100000000):
 Calls Try.prog 112 #[.pointer (some ⟨B.mb,0,none⟩),.int .i64 i] w fun e w'=>e= .returned (.tuple #[])∧(if t.tr=1 then ∃av',R8A w' b0 B s (ts.set i (t.again.fin av' noA))else R8A w' b0 B s (ts.set i t.again))∧Stay b0 w w':=by
 obtain⟨tb,tc,htv,m0,m1,m2,zm,t0,t1,t3,t4,t5,t6,t7,zt,mt,wt,htb⟩:=h.fx ht
 have hilt:=(List.getElem?_eq_some_iff.1 ht).1
 have hilt2:(i:Int)<(ts.length:Int):=by omega
 have hwr:IntKind.i64.wrap (t.tr - 1)=t.tr - 1:=IntWalk.i64_in _ (by omega)
 have hbt:b0≤tb:=h.b3 tb (by rw[htv];rfl)
 have H:Aside (∀X:World,X.heap=(((w.setCell ⟨tb,i*8+5,none⟩ (.int .i64 (t.tr - 1))).setCell ⟨tb,i*8+4,none⟩ (.int .i64 1)).setCell ⟨tb,i*8+7,none⟩ (.slice none 0 0)).heap→R8A X b0 B s (ts.set i t.again)):=fun X e=>by
  have h1:=h.num ht htv 5 {t with tr:=t.tr - 1} (.int .i64 (t.tr - 1)) (by omega) rfl rfl rfl (.inr (.inr ⟨rfl,rfl⟩))
  have h2:=h1.num2 hilt htv 4 {t with tr:=t.tr - 1,pc:=1} (.int .i64 1) (by omega) rfl rfl rfl (.inr (.inr ⟨rfl,rfl⟩))
  have h3:=h2.num2 hilt htv 7 t.again (.slice none 0 0) (by omega) rfl rfl rfl (.inr (.inl ⟨rfl,rfl⟩))
  exact h3.heap e
 have H3:Aside (∀X:World,X.heap=(((w.setCell ⟨tb,i*8+5,none⟩ (.int .i64 (t.tr - 1))).setCell ⟨tb,i*8+4,none⟩ (.int .i64 1)).setCell ⟨tb,i*8+7,none⟩ (.slice none 0 0)).heap→Stay b0 w X):=fun X e=>((((Stay.refl b0 w).set (a:=⟨tb,i*8+5,none⟩) hbt _).set (a:=⟨tb,i*8+4,none⟩) hbt _).set (a:=⟨tb,i*8+7,none⟩) hbt _).heap e
 have H2:Aside (ts[i]? =some t∧t.ans.length<100000000∧t.k<100000000):=⟨ht,hl,hk⟩
 have z4:=zt (i*8+4)
 have z5:=zt (i*8+5)
 have z7:=zt (i*8+7)
 clear zt zm t0 t1 t3 t6 m0 m1 htv h ht hl hk hbt wt htb
 by_cases e1:t.tr=1
 ·suffices h:Calls Try.prog 112 #[.pointer (some ⟨B.mb,0,none⟩),.int .i64 i] w fun e w'=>e= .returned (.tuple #[])∧(∃av',R8A w' b0 B s (ts.set i (t.again.fin av' noA)))∧Stay b0 w w' by
   exact h.mono fun e u k=>by rw[if_pos e1];exact k
  have e2:t.tr - 1=0:=by omega
  have H4:Aside (∀X:World,X.heap=(((w.setCell ⟨tb,i*8+5,none⟩ (.int .i64 0)).setCell ⟨tb,i*8+4,none⟩ (.int .i64 1)).setCell ⟨tb,i*8+7,none⟩ (.slice none 0 0)).heap→Calls Try.prog 107 #[.pointer (some ⟨B.mb,0,none⟩),.int .i64 i,.agg #[.bool false,.int .i64 0,.slice none 0 0]] X fun e w'=>e= .returned (.tuple #[])∧(∃av',R8A w' b0 B s (ts.set i (t.again.fin av' noA)))∧Stay b0 w w'):=fun X e=>by
   have h1:=H.out X (by rw[e2];exact e)
   have h2:=H3.out X (by rw[e2];exact e)
   have:=end8 (a:=noA) h1 (set_get H2.out.1) (.inl ⟨rfl,rfl⟩) H2.out.2.1 H2.out.2.2
   simp only[List.set_set]at this
   exact this.mono fun e u ⟨k1,k2,k3⟩=>⟨k1,k2,h2.trans k3⟩
  clear htr H H3 H2
  go_enter Try.func112,Try.ntmps112
  go_wp2
  refine wp_region_noPanic ?_
  go_region_law (fail)
  all_goals(
   refine NoPanic.normal ?_
   go_wp2_with (fail)
   go_at_call 107
   refine Calls.mono (H4.out _ ?_) ?_
   ·rfl
   rintro e u ⟨rfl,hu1,hu2⟩
   have U:Aside ((∃av',R8A u b0 B s (ts.set i (t.again.fin av' noA)))∧Stay b0 w u):=⟨hu1,hu2⟩
   clear hu1 hu2
   go_wp2
   go_end0
   exact⟨rfl,U.out⟩)
 ·suffices h:Calls Try.prog 112 #[.pointer (some ⟨B.mb,0,none⟩),.int .i64 i] w fun e w'=>e= .returned (.tuple #[])∧(R8A w' b0 B s (ts.set i t.again))∧Stay b0 w w' by
   exact h.mono fun e u k=>by rw[if_neg e1];exact k
  have e2:¬t.tr - 1=0:=by omega
  clear htr
  go_enter Try.func112,Try.ntmps112
  go_wp2
  refine wp_region_noPanic ?_
  go_region_law (fail)
  all_goals(
   refine NoPanic.normal ?_
   go_wp2
   go_end0
   exact⟨rfl,H.out _ rfl,H3.out _ rfl⟩)
end
section
variable{w w':World}{b0:Nat}{B:R8B}{s:SSt}{ts:List R8T}
def R8T.bg(t:R8T)(T:Int):R8T:={t with pc:=1,sv:=.slice none 0 0,so:=some [],tr:=T}
theorem cell_hp2{u v:World}{a:Addr}(e:u.heap=v.heap):u.cell? a=v.cell? a:=by simp only[World.cell?,e]
theorem al47{kd a b c:Int}(h:R8A w b0 B s ts):(w.alloc (.cells #[.int .i64 kd,.int .i64 a,.int .i64 b,.int .i64 c] 47)).heap[w.heap.size]? =some (.cells #[.int .i64 kd,.int .i64 a,.int .i64 b,.int .i64 c] 47 (0,0))∧(∀r,r<w.heap.size→(w.alloc (.cells #[.int .i64 kd,.int .i64 a,.int .i64 b,.int .i64 c] 47)).heap[r]? =w.heap[r]?)∧(w.alloc (.cells #[.int .i64 kd,.int .i64 a,.int .i64 b,.int .i64 c] 47)).heap.size=w.heap.size+1∧R8A (w.alloc (.cells #[.int .i64 kd,.int .i64 a,.int .i64 b,.int .i64 c] 47)) b0 B s ts∧Stay b0 w (w.alloc (.cells #[.int .i64 kd,.int .i64 a,.int .i64 b,.int .i64 c] 47)):=by
 have hsame:∀r,r<w.heap.size→(w.alloc (.cells #[.int .i64 kd,.int .i64 a,.int .i64 b,.int .i64 c] 47)).heap[r]? =w.heap[r]?:=fun r hr=>heap_alloc_lt _ _ hr
 exact⟨heap_alloc_new _ _,hsame,by simp,h.more hsame,by simp,fun r hr=>hsame r (by have:=h.bs;omega),fun r c y z q e=>hsame r (alt e)⟩
theorem wp_then8{P:Program}{x y:Code}{R:Act→World→Prop}{Q:Exit→Act→World→Prop}{a:Act}{w:World}(h:x.wp P (nrm R) a w)(hy:∀a w,R a w→y.wp P Q a w):(Code.seq x y).wp P Q a w:=
 wp_seq (wp_mono h fun e a w q=>by
  cases e with
  | normal=>exact hy _ _ q
  | _=>exact q.elim)
theorem begin8n{i:Nat}{t:R8T}{kd a b c:Int}(h:R8A w b0 B s ts)(ht:ts[i]? =some t)(hkd:kd<1∨5<kd)(hl:t.ans.length<100000000)(hk:t.k<100000000):
 Calls Try.prog 104 #[.pointer (some ⟨B.mb,0,none⟩),.int .i64 i,.agg #[.int .i64 kd,.int .i64 a,.int .i64 b,.int .i64 c]] w fun e w'=>e= .returned (.tuple #[])∧(∃av',R8A w' b0 B s (ts.set i (t.fin av' noA)))∧Stay b0 w w':=by
 obtain⟨hw1,hsame,hsz1,hA,hS⟩:=al47 (kd:=kd) (a:=a) (b:=b) (c:=c) h
 have H4:Aside (∀X:World,X.heap=(w.alloc (.cells #[.int .i64 kd,.int .i64 a,.int .i64 b,.int .i64 c] 47)).heap→Calls Try.prog 107 #[.pointer (some ⟨B.mb,0,none⟩),.int .i64 i,.agg #[.bool false,.int .i64 0,.slice none 0 0]] X fun e w'=>e= .returned (.tuple #[])∧(∃av',R8A w' b0 B s (ts.set i (t.fin av' noA)))∧Stay b0 w w'):=fun X e=>
  (end8 (a:=noA) (hA.heap e) ht (.inl ⟨rfl,rfl⟩) hl hk).mono fun e2 u ⟨k1,k2,k3⟩=>⟨k1,k2,(hS.heap e).trans k3⟩
 clear h ht hl hk hA hS hsame hsz1
 by_cases h1:kd<1
 ·clear hkd
  go_enter Try.func104,Try.ntmps104
  clear hw1
  go_wp2_with (fail)
  go_at_call 107
  refine Calls.mono (H4.out _ ?_) ?_
  ·rfl
  rintro e u ⟨rfl,hu⟩
  have U:Aside ((∃av',R8A u b0 B s (ts.set i (t.fin av' noA)))∧Stay b0 w u):=hu
  clear hu
  go_wp2
  exact bodyPost_ret (v:=.tuple #[]) (by simp[results,Try.f104,go_sem]) rfl ⟨rfl,U.out⟩
 ·have h5:5<kd:=by omega
  clear hkd
  go_enter Try.func104,Try.ntmps104
  clear hw1
  go_wp2_with (fail)
  go_at_call 107
  refine Calls.mono (H4.out _ ?_) ?_
  ·rfl
  rintro e u ⟨rfl,hu⟩
  have U:Aside ((∃av',R8A u b0 B s (ts.set i (t.fin av' noA)))∧Stay b0 w u):=hu
  clear hu
  go_wp2
  exact bodyPost_ret (v:=.tuple #[]) (by simp[results,Try.f104,go_sem]) rfl ⟨rfl,U.out⟩
theorem begin8{i:Nat}{t:R8T}{kd a b c:Int}(h:R8A w b0 B s ts)(ht:ts[i]? =some t)(hkd:1≤kd∧kd≤5):
 Calls Try.prog 104 #[.pointer (some ⟨B.mb,0,none⟩),.int .i64 i,.agg #[.int .i64 kd,.int .i64 a,.int .i64 b,.int .i64 c]] w fun e w'=>e= .returned (.tuple #[])∧R8A w' b0 B s (ts.set i (t.bg (triesOf a:Nat)))∧Stay b0 w w':=by
 obtain⟨hw1,hsame,hsz1,hA,hS⟩:=al47 (kd:=kd) (a:=a) (b:=b) (c:=c) h
 have hilt:=(List.getElem?_eq_some_iff.1 ht).1
 have hilt2:(i:Int)<(ts.length:Int):=by omega
 have htb0:∀tb,B.tv.ownBlock=some tb→tb<w.heap.size:=fun tb h2=>by obtain⟨c,hc⟩:=row_blk h.row h2;exact(alt hc)
 have k1:¬kd<1:=by omega
 have k2:¬5<kd:=by omega
 clear h
 go_enter Try.func104,Try.ntmps104
 refine wp_then8 (R:=fun x u=>x=⟨#[.pointer (some ⟨B.mb,0,none⟩),.int .i64 i,.agg #[.int .i64 kd,.int .i64 a,.int .i64 b,.int .i64 c],undef,undef,.pointer (some ⟨w.heap.size,0,none⟩),undef,undef,undef,undef,undef,undef,undef,undef,undef,undef,undef,undef,undef,undef,undef,undef,undef,undef,undef,undef,undef,undef,undef,undef,undef,undef,undef,undef,undef,undef,undef,undef,undef,undef,undef,undef,undef,undef,undef,undef,undef,undef,undef,undef,undef,undef,undef,undef,undef,undef,undef,undef,undef,undef,undef],[]⟩∧u=w.alloc (.cells #[.int .i64 kd,.int .i64 a,.int .i64 b,.int .i64 c] 47)) ?_ ?_
 ·go_wp2
  exact⟨rfl,rfl⟩
 rintro _ W ⟨rfl,hWe⟩
 rw[← hWe]at hw1 hsame hsz1 hA hS
 clear hWe
 obtain⟨tb,tc,htv,m0,m1,m2,zm,t0,t1,t3,t4,t5,t6,t7,zt,mt,wt,htb⟩:=hA.fx ht
 have htb0:=htb0 tb (by rw[htv];rfl)
 have hbt:b0≤tb:=hA.b3 tb (by rw[htv];rfl)
 have nb:tb≠w.heap.size:=by omega
 have o0:W.cell? ⟨w.heap.size,0,none⟩=some (.int .i64 kd):=by simp only[World.cell?,hw1];rfl
 have o1:W.cell? ⟨w.heap.size,1,none⟩=some (.int .i64 a):=by simp only[World.cell?,hw1];rfl
 have H:Aside (∀X:World,X.heap=(((W.setCell ⟨tb,i*8+4,none⟩ (.int .i64 1)).setCell ⟨tb,i*8+7,none⟩ (.slice none 0 0)).setCell ⟨tb,i*8+5,none⟩ (.int .i64 a)).heap→∀Y:World,(∃T:Int,T=(triesOf a:Nat)∧((T=a∧Y.heap=X.heap)∨Y.heap=(X.setCell ⟨tb,i*8+5,none⟩ (.int .i64 T)).heap))→R8A Y b0 B s (ts.set i (t.bg (triesOf a:Nat)))∧Stay b0 w Y):=fun X e Y ⟨T,hT,hY⟩=>by
  rw[← hT]
  have h1:=hA.num ht htv 4 {t with pc:=1} (.int .i64 1) (by omega) rfl rfl rfl (.inr (.inr ⟨rfl,rfl⟩))
  have h2:=h1.num2 hilt htv 7 {t with pc:=1,sv:=.slice none 0 0,so:=some []} (.slice none 0 0) (by omega) rfl rfl rfl (.inr (.inl ⟨rfl,rfl⟩))
  have h3:=(h2.num2 hilt htv 5 (t.bg a) (.int .i64 a) (by omega) rfl rfl rfl (.inr (.inl ⟨rfl,rfl⟩))).heap e
  have s3:Stay b0 w X:=(((hS.set (a:=⟨tb,i*8+4,none⟩) hbt _).set (a:=⟨tb,i*8+7,none⟩) hbt _).set (a:=⟨tb,i*8+5,none⟩) hbt _).heap e
  rcases hY with⟨e2,e3⟩|e3
  ·rw[e2]
   exact⟨h3.heap e3,s3.heap e3⟩
  ·have h4:=(h3.num2 hilt htv 5 (t.bg T) (.int .i64 T) (by omega) rfl rfl rfl (.inr (.inl ⟨rfl,rfl⟩))).heap e3
   exact⟨h4,(s3.set (a:=⟨tb,i*8+5,none⟩) hbt _).heap e3⟩
 have S1:Aside (∀u:World,u.heap=((W.setCell ⟨tb,i*8+4,none⟩ (.int .i64 1)).setCell ⟨tb,i*8+7,none⟩ (.slice none 0 0)).heap→u.cell? ⟨B.mb,2,none⟩=some (.slice (some ⟨tb,0,none⟩) ts.length tc)∧u.cell? ⟨w.heap.size,1,none⟩=some (.int .i64 a)):=fun u e=>by
  rw[cell_hp2 e,cell_hp2 e]
  exact⟨(cell_off mt.symm).trans ((cell_off mt.symm).trans m2),(cell_off nb).trans ((cell_off nb).trans o1)⟩
 have S2:Aside (∀u:World,u.heap=(((W.setCell ⟨tb,i*8+4,none⟩ (.int .i64 1)).setCell ⟨tb,i*8+7,none⟩ (.slice none 0 0)).setCell ⟨tb,i*8+5,none⟩ (.int .i64 a)).heap→u.cell? ⟨B.mb,2,none⟩=some (.slice (some ⟨tb,0,none⟩) ts.length tc)∧u.cell? ⟨w.heap.size,1,none⟩=some (.int .i64 a)):=fun u e=>by
  rw[cell_hp2 e,cell_hp2 e]
  exact⟨(cell_off mt.symm).trans ((cell_off mt.symm).trans ((cell_off mt.symm).trans m2)),(cell_off nb).trans ((cell_off nb).trans ((cell_off nb).trans o1))⟩
 have z4:=zt (i*8+4)
 have z5:=zt (i*8+5)
 have z7:=zt (i*8+7)
 clear zt zm t0 t1 t3 t6 m0 m1 htv hA hS hsame hw1 hkd ht htb hbt hsz1
 have ha3:a<1∧triesOf a=1∨1024<a∧¬a<1∧triesOf a=1024∨¬a<1∧¬1024<a∧(triesOf a:Int)=a:=by unfold triesOf;omega
 rcases ha3 with⟨a1,a2⟩|⟨a1,a3,a2⟩|⟨a1,a3,a2⟩
 ·have a3:¬1024<a:=by omega
  go_wp2
  go_region_held3 (fun u:World=>u.cell? ⟨B.mb,2,none⟩=some (.slice (some ⟨tb,0,none⟩) ts.length tc)∧u.cell? ⟨w.heap.size,1,none⟩=some (.int .i64 a))
   (first|exact S1.out _ rfl|exact S2.out _ rfl|go_keep)
   (fail)
  all_goals(
   go_wp2
   go_end0
   exact⟨rfl,H.out _ rfl _ ⟨1,by rw[a2];rfl,.inr rfl⟩⟩)
 ·go_wp2
  go_region_held3 (fun u:World=>u.cell? ⟨B.mb,2,none⟩=some (.slice (some ⟨tb,0,none⟩) ts.length tc)∧u.cell? ⟨w.heap.size,1,none⟩=some (.int .i64 a))
   (first|exact S1.out _ rfl|exact S2.out _ rfl|go_keep)
   (fail)
  all_goals(
   go_wp2
   go_end0
   exact⟨rfl,H.out _ rfl _ ⟨1024,by rw[a2];rfl,.inr rfl⟩⟩)
 ·go_wp2
  go_region_held3 (fun u:World=>u.cell? ⟨B.mb,2,none⟩=some (.slice (some ⟨tb,0,none⟩) ts.length tc)∧u.cell? ⟨w.heap.size,1,none⟩=some (.int .i64 a))
   (first|exact S1.out _ rfl|exact S2.out _ rfl|go_keep)
   (fail)
  all_goals(
   go_wp2
   go_end0
   exact⟨rfl,H.out _ rfl _ ⟨a,a2.symm,.inl ⟨rfl,rfl⟩⟩⟩)
end
section
variable{w w':World}{b0:Nat}{B:R8B}{s:SSt}{ts:List R8T}
def FO(w':World)(b0:Nat)(B:R8B)(s:SSt)(ts:List R8T)(i:Nat)(t:R8T):Prop:=if t.tr=1 then ∃av',R8A w' b0 B s (ts.set i (t.again.fin av' noA))else R8A w' b0 B s (ts.set i t.again)
theorem set_len{ts:List R8T}{i:Nat}{t:R8T}:(ts.set i t).length=ts.length:=List.length_set
theorem FO.set{i:Nat}{t t':R8T}(h:FO w' b0 B s (ts.set i t') i t):FO w' b0 B s ts i t:=by
 unfold FO at h ⊢
 simpa only[List.set_set]using h
section
variable{i:Nat}{t:R8T}
def tv1(t:R8T)(v:Int):R8T:={t with v:=v}
theorem read8_e(h:R8A w b0 B s ts)(ht:ts[i]? =some t)(hv:s.ver.tmod 2=0):
 Calls Try.prog 106 #[.pointer (some ⟨B.mb,0,none⟩),.int .i64 i,.int .i64 1] w fun e w'=>e= .returned (.tuple #[])∧R8A w' b0 B s (ts.set i (tv1 t s.ver))∧Stay b0 w w':=by
 obtain⟨tb,tc,htv,m0,m1,m2,zm,t0,t1,t3,t4,t5,t6,t7,zt,mt,wt,htb⟩:=h.fx ht
 have hilt:=(List.getElem?_eq_some_iff.1 ht).1
 have hilt2:(i:Int)<(ts.length:Int):=by omega
 have hbt:b0≤tb:=h.b3 tb (by rw[htv];rfl)
 have H:Aside (∀X:World,X.heap=(w.setCell ⟨tb,i*8+6,none⟩ (.int .i64 s.ver)).heap→R8A X b0 B s (ts.set i (tv1 t s.ver))):=fun X e=>(h.num ht htv 6 (tv1 t s.ver) (.int .i64 s.ver) (by omega) rfl rfl rfl (.inr (.inr ⟨rfl,rfl⟩))).heap e
 have H3:Aside (∀X:World,X.heap=(w.setCell ⟨tb,i*8+6,none⟩ (.int .i64 s.ver)).heap→Stay b0 w X):=fun X e=>((Stay.refl b0 w).set (a:=⟨tb,i*8+6,none⟩) hbt _).heap e
 have S1:Aside (∀u:World,u.heap=(w.setCell ⟨tb,i*8+6,none⟩ (.int .i64 s.ver)).heap→u.cell? ⟨B.mb,2,none⟩=some (.slice (some ⟨tb,0,none⟩) ts.length tc)∧u.cell? ⟨B.mb,0,none⟩=some (.int .i64 s.ver)):=fun u e=>by
  rw[cell_hp2 e,cell_hp2 e]
  exact⟨(cell_off mt.symm).trans m2,(cell_off mt.symm).trans m0⟩
 have z6:=zt (i*8+6)
 clear zt zm t0 t1 t3 t5 t4 t7 htv h ht hbt wt htb
 go_enter Try.func106,Try.ntmps106
 go_wp2
 go_region_held3 (fun u:World=>u.cell? ⟨B.mb,2,none⟩=some (.slice (some ⟨tb,0,none⟩) ts.length tc)∧u.cell? ⟨B.mb,0,none⟩=some (.int .i64 s.ver))
  (first|exact⟨m2,m0⟩|exact S1.out _ rfl|go_keep)
  (fail)
 all_goals(
  go_wp2
  go_end0
  exact⟨rfl,H.out _ rfl,H3.out _ rfl⟩)
theorem read8_o(h:R8A w b0 B s ts)(ht:ts[i]? =some t)(hv:¬s.ver.tmod 2=0)(htr:1≤t.tr∧t.tr≤1024)(hl:t.ans.length<100000000)(hk:t.k<100000000):
 Calls Try.prog 106 #[.pointer (some ⟨B.mb,0,none⟩),.int .i64 i,.int .i64 1] w fun e w'=>e= .returned (.tuple #[])∧FO w' b0 B s ts i (tv1 t s.ver)∧Stay b0 w w':=by
 obtain⟨tb,tc,htv,m0,m1,m2,zm,t0,t1,t3,t4,t5,t6,t7,zt,mt,wt,htb⟩:=h.fx ht
 have hilt:=(List.getElem?_eq_some_iff.1 ht).1
 have hilt2:(i:Int)<(ts.length:Int):=by omega
 have hbt:b0≤tb:=h.b3 tb (by rw[htv];rfl)
 have H4:Aside (∀X:World,X.heap=(w.setCell ⟨tb,i*8+6,none⟩ (.int .i64 s.ver)).heap→Calls Try.prog 112 #[.pointer (some ⟨B.mb,0,none⟩),.int .i64 i] X fun e w'=>e= .returned (.tuple #[])∧FO w' b0 B s ts i (tv1 t s.ver)∧Stay b0 w w'):=fun X e=>by
  have h1:=(h.num ht htv 6 (tv1 t s.ver) (.int .i64 s.ver) (by omega) rfl rfl rfl (.inr (.inr ⟨rfl,rfl⟩))).heap e
  have h3:Stay b0 w X:=((Stay.refl b0 w).set (a:=⟨tb,i*8+6,none⟩) hbt _).heap e
  exact(failed8 h1 (set_get ht) htr hl hk).mono fun e u ⟨k1,k2,k3⟩=>⟨k1,FO.set k2,h3.trans k3⟩
 have S1:Aside (∀u:World,u.heap=(w.setCell ⟨tb,i*8+6,none⟩ (.int .i64 s.ver)).heap→u.cell? ⟨B.mb,2,none⟩=some (.slice (some ⟨tb,0,none⟩) ts.length tc)∧u.cell? ⟨B.mb,0,none⟩=some (.int .i64 s.ver)):=fun u e=>by
  rw[cell_hp2 e,cell_hp2 e]
  exact⟨(cell_off mt.symm).trans m2,(cell_off mt.symm).trans m0⟩
 have z6:=zt (i*8+6)
 clear zt zm t0 t1 t3 t5 t4 t7 htv h ht hbt wt htb htr hl hk
 go_enter Try.func106,Try.ntmps106
 go_wp2
 go_region_held3 (fun u:World=>u.cell? ⟨B.mb,2,none⟩=some (.slice (some ⟨tb,0,none⟩) ts.length tc)∧u.cell? ⟨B.mb,0,none⟩=some (.int .i64 s.ver))
  (first|exact⟨m2,m0⟩|exact S1.out _ rfl|go_keep)
  (fail)
 all_goals(
  go_wp2_with (fail)
  go_at_call 112
  refine Calls.mono (H4.out _ ?_) ?_
  ·rfl
  rintro e u ⟨rfl,hu⟩
  have U:Aside (FO u b0 B s ts i (tv1 t s.ver)∧Stay b0 w u):=hu
  clear hu
  go_wp2
  go_end0
  exact⟨rfl,U.out⟩)
theorem read8_w{l:List Int}{k:Nat}{p:Int}(h:R8A w b0 B s ts)(ht:ts[i]? =some t)(hso:t.so=some l)(hll:l.length≤16)(hp:p=k+2)(hkn:k<s.ws.length):
 Calls Try.prog 106 #[.pointer (some ⟨B.mb,0,none⟩),.int .i64 i,.int .i64 p] w fun e w'=>e= .returned (.tuple #[])∧(∃sv',R8A w' b0 B s (ts.set i {t with sv:=sv',so:=some (l++[s.ws.getD k 0])}))∧Stay b0 w w':=by
 obtain⟨i0,z0,hi,hz0,hz1,hz2,hz3⟩:=infoA2
 obtain⟨tb,tc,htv,m0,m1,m2,zm,t0,t1,t3,t4,t5,t6,t7,zt,mt,wt,htb⟩:=h.fx ht
 have hilt:=(List.getElem?_eq_some_iff.1 ht).1
 have hilt2:(i:Int)<(ts.length:Int):=by omega
 have hbt:b0≤tb:=h.b3 tb (by rw[htv];rfl)
 have hT:=h.thr t (List.mem_of_getElem? ht)
 have hrow1:=hT.sv l hso
 have hma:some B.mb≠t.sv.ownBlock:=fun e=>by obtain⟨c,hc⟩:=row_blk hrow1 e.symm;exact heap_ty hc h.o (by decide) rfl
 have hta:some tb≠t.sv.ownBlock:=fun e=>by
  obtain⟨c,hc⟩:=row_blk hrow1 e.symm
  obtain⟨d,hd⟩:=row_blk h.row (r:=tb) (by rw[htv];rfl)
  exact heap_ty hc hd (by decide) rfl
 have hwa:some B.wb≠t.sv.ownBlock:=fun e=>h.wn t (List.mem_of_getElem? ht) (.inr (.inl ⟨by simp[hso],e.symm⟩))
 have hmlt:=h.low_m
 have hwlt:B.wb<w.heap.size:=by obtain⟨d,hd⟩:=h.w_ty;exact(alt hd)
 obtain⟨wk,wz⟩:=h.wcell hkn
 have hn16:=h.wf.n2
 have p1:¬p=1:=by omega
 have hwr1:IntKind.i64.wrap ((s.ws.length:Int)+1)=(s.ws.length:Int)+1:=IntWalk.i64_in _ (by omega)
 have p2:p≤(s.ws.length:Int)+1:=by omega
 have hwr2:IntKind.i64.wrap (p - 2)=(k:Int):=by rw[show p - 2=(k:Int)by omega];exact IntWalk.i64_in _ (by omega)
 have hkn2:(k:Int)<(s.ws.length:Int):=by omega
 have E:Aside (R8A w b0 B s ts∧ts[i]? =some t∧t.so=some l∧B.tv= .slice (some ⟨tb,0,none⟩) ts.length tc∧b0≤tb):=⟨h,ht,hso,htv,hbt⟩
 clear h ht hso htv hbt hp hT
 clear t0 t1 t3 t4 t5 m0
 generalize s.ws.getD k 0=x at wk ⊢
 go_enter Try.func106,Try.ntmps106
 go_wp2
 rw[← Ld_eq 22 (.tmp 54)]
 go_region_held3 (fun u:World=>u.cell? ⟨B.mb,2,none⟩=some (.slice (some ⟨tb,0,none⟩) ts.length tc)∧u.cell? ⟨B.mb,1,none⟩=some (.slice (some ⟨B.wb,0,none⟩) s.ws.length B.wc)∧u.cell? ⟨B.wb,k,none⟩=some (.int .i64 x))
  (first|exact⟨m2,m1,wk⟩|exact⟨(cellB_alloc m2 _).1,(cellB_alloc m1 _).1,(cellB_alloc wk _).1⟩|exact SQ.out|exact⟨(cell_off mt.symm).trans SQ.out.1,(cell_off mt.symm).trans SQ.out.2.1,(cell_off wt.symm).trans SQ.out.2.2⟩|go_keep)
  (first|(refine step_append_fresh rfl (.tmp 55) (.tmp 64) 22 rfl 2 i0 z0 1 8 Try.underlying22 hi hz0 hz1 hz2 hz3 (by decide) t.sv l.length (l.map fun v=>.int .i64 v) (by simp[Act.eval,Act.put]) ((show w.drew.ownsRow 0 2 1 _ _ _ from hrow1).alloc _) ⟨w.heap.size,0,none⟩ 1 1 [.int .i64 x] (by simp[Act.eval,Act.put]) rfl (new_cells (X:=w.drew) (l:=[.int .i64 x]) rfl) (by intro u hu;simp at hu;subst hu;rfl) (by unfold maxLen;omega) (by omega) ?_;intro v' w3 hown hgrow hfr;obtain⟨g,cap,rfl⟩:=own_slice hown;have hk1:=grown_old (W:=w.drew) hgrow (r:=tb) htb hta;have hk2:=grown_old (W:=w.drew) hgrow (r:=B.mb) hmlt hma;have hk3:=grown_old (W:=w.drew) hgrow (r:=B.wb) hwlt hwa;have k0:=(cell_heap (j:=2) hk2).1.trans m2;have k1:=(cell_heap (j:=1) hk2).1.trans m1;have k2:=(cell_heap (j:=i*8+7) hk1).1.trans t7;have k3:=(cell_heap (j:=k) hk3).1.trans wk;have SQ:Aside (w3.cell? ⟨B.mb,2,none⟩=some (.slice (some ⟨tb,0,none⟩) ts.length tc)∧w3.cell? ⟨B.mb,1,none⟩=some (.slice (some ⟨B.wb,0,none⟩) s.ws.length B.wc)∧w3.cell? ⟨B.wb,k,none⟩=some (.int .i64 x)):=⟨k0,k1,k3⟩;have zz7:=(cell_heap (j:=i*8+7) hk1).2.trans (zt (i*8+7));have F:Aside ((∀r,r<w.heap.size→some r≠t.sv.ownBlock→w3.heap[r]? =w.heap[r]?)∧w.heap.size≤w3.heap.size∧((Value.slice (some ⟨g,0,none⟩) (l.length+1) cap).ownBlock=t.sv.ownBlock∨∃g',(Value.slice (some ⟨g,0,none⟩) (l.length+1) cap).ownBlock=some g'∧w.heap.size≤g')):=⟨fun r hr hn=>grown_old (W:=w.drew) hgrow hr hn,Nat.le_trans (by simp[World.drew]) hgrow.size,hfr.imp id fun⟨g',h1,h2⟩=>⟨g',h1,Nat.le_trans (by simp[World.drew]) h2⟩⟩;clear hgrow hfr hk1 hk2 hk3))
 all_goals(
  go_wp2
  go_end0
  obtain⟨h,ht,hso,htv,hbt⟩:=E.out
  obtain⟨f1,f2,f3⟩:=F.out
  have h1:=h.seen ht htv hso f2 hown f1 f3
  have h3:Stay b0 w w3:=⟨f2,fun r hr=>f1 r (by have:=h.bs;omega) fun e=>by have:=h.b4 t (List.mem_of_getElem? ht) r (.inr (.inl ⟨by simp[hso],e.symm⟩));omega,fun r c y z q e0=>f1 r (alt e0) fun e=>h.no3 (List.mem_of_getElem? ht) (.inr (.inl ⟨by simp[hso],e.symm⟩)) q e0⟩
  exact⟨rfl,⟨_,h1.heap rfl⟩,(h3.set (a:=⟨tb,i*8+7,none⟩) hbt _).heap rfl⟩)
theorem read8_y{l:List Int}{p:Int}(h:R8A w b0 B s ts)(ht:ts[i]? =some t)(hso:t.so=some l)(hp:(s.ws.length:Int)+1<p)(hv:s.ver=t.v)(hl:t.ans.length<100000000)(hk:t.k<100000000):
 Calls Try.prog 106 #[.pointer (some ⟨B.mb,0,none⟩),.int .i64 i,.int .i64 p] w fun e w'=>e= .returned (.tuple #[])∧(∃av' a,a.an=(true,0,l)∧R8A w' b0 B s (ts.set i (t.fin av' a)))∧Stay b0 w w':=by
 obtain⟨tb,tc,htv,m0,m1,m2,zm,t0,t1,t3,t4,t5,t6,t7,zt,mt,wt,htb⟩:=h.fx ht
 have hilt:=(List.getElem?_eq_some_iff.1 ht).1
 have hilt2:(i:Int)<(ts.length:Int):=by omega
 have hbt:b0≤tb:=h.b3 tb (by rw[htv];rfl)
 have hn16:=h.wf.n2
 have p1:¬p=1:=by omega
 have hwr1:IntKind.i64.wrap ((s.ws.length:Int)+1)=(s.ws.length:Int)+1:=IntWalk.i64_in _ (by omega)
 have p2:¬p≤(s.ws.length:Int)+1:=by omega
 obtain⟨la,ll,lc,hsv⟩:=row_slice ((h.thr t (List.mem_of_getElem? ht)).sv l hso)
 rw[hsv]at t7
 rw[← hv]at t6
 have H4:Aside (∀X:World,X.heap=w.heap→Calls Try.prog 107 #[.pointer (some ⟨B.mb,0,none⟩),.int .i64 i,.agg #[.bool true,.int .i64 0,.slice la ll lc]] X fun e w'=>e= .returned (.tuple #[])∧(∃av' a,a.an=(true,0,l)∧R8A w' b0 B s (ts.set i (t.fin av' a)))∧Stay b0 w w'):=fun X e=>
  (end8 (a:=⟨(true,0,l),la,ll,lc⟩) (h.heap e) ht (.inr ⟨l,hso,hsv.symm,rfl⟩) hl hk).mono fun e2 u ⟨k1,⟨av',k2⟩,k3⟩=>⟨k1,⟨av',_,rfl,k2⟩,((Stay.refl b0 w).heap e).trans k3⟩
 clear zt zm t0 t1 t3 t5 t4 htv h ht hbt wt htb hl hk hso hp hv hsv
 go_enter Try.func106,Try.ntmps106
 go_wp2
 go_region_held3 (fun u:World=>u.cell? ⟨B.mb,2,none⟩=some (.slice (some ⟨tb,0,none⟩) ts.length tc)∧u.cell? ⟨B.mb,0,none⟩=some (.int .i64 s.ver)∧u.cell? ⟨tb,i*8+6,none⟩=some (.int .i64 s.ver))
  (first|exact⟨m2,m0,t6⟩|go_keep)
  (fail)
 all_goals(
  go_wp2_with (fail)
  go_at_call 107
  refine Calls.mono (H4.out _ ?_) ?_
  ·rfl
  rintro e u ⟨rfl,hu⟩
  have U:Aside ((∃av' a,a.an=(true,0,l)∧R8A u b0 B s (ts.set i (t.fin av' a)))∧Stay b0 w u):=hu
  clear hu
  go_wp2
  go_end0
  exact⟨rfl,U.out⟩)
theorem read8_n{p:Int}(h:R8A w b0 B s ts)(ht:ts[i]? =some t)(hp:(s.ws.length:Int)+1<p)(hv:¬s.ver=t.v)(htr:1≤t.tr∧t.tr≤1024)(hl:t.ans.length<100000000)(hk:t.k<100000000):
 Calls Try.prog 106 #[.pointer (some ⟨B.mb,0,none⟩),.int .i64 i,.int .i64 p] w fun e w'=>e= .returned (.tuple #[])∧FO w' b0 B s ts i t∧Stay b0 w w':=by
 obtain⟨tb,tc,htv,m0,m1,m2,zm,t0,t1,t3,t4,t5,t6,t7,zt,mt,wt,htb⟩:=h.fx ht
 have hilt:=(List.getElem?_eq_some_iff.1 ht).1
 have hilt2:(i:Int)<(ts.length:Int):=by omega
 have hbt:b0≤tb:=h.b3 tb (by rw[htv];rfl)
 have hn16:=h.wf.n2
 have p1:¬p=1:=by omega
 have hwr1:IntKind.i64.wrap ((s.ws.length:Int)+1)=(s.ws.length:Int)+1:=IntWalk.i64_in _ (by omega)
 have p2:¬p≤(s.ws.length:Int)+1:=by omega
 have H4:Aside (∀X:World,X.heap=w.heap→Calls Try.prog 112 #[.pointer (some ⟨B.mb,0,none⟩),.int .i64 i] X fun e w'=>e= .returned (.tuple #[])∧FO w' b0 B s ts i t∧Stay b0 w w'):=fun X e=>
  (failed8 (h.heap e) ht htr hl hk).mono fun e2 u ⟨k1,k2,k3⟩=>⟨k1,k2,((Stay.refl b0 w).heap e).trans k3⟩
 clear zt zm t0 t1 t3 t5 t4 htv h ht hbt wt htb hl hk hp htr
 go_enter Try.func106,Try.ntmps106
 go_wp2
 go_region_held3 (fun u:World=>u.cell? ⟨B.mb,2,none⟩=some (.slice (some ⟨tb,0,none⟩) ts.length tc)∧u.cell? ⟨B.mb,0,none⟩=some (.int .i64 s.ver)∧u.cell? ⟨tb,i*8+6,none⟩=some (.int .i64 t.v))
  (first|exact⟨m2,m0,t6⟩|go_keep)
  (fail)
 all_goals(
  go_wp2_with (fail)
  go_at_call 112
  refine Calls.mono (H4.out _ ?_) ?_
  ·rfl
  rintro e u ⟨rfl,hu⟩
  have U:Aside (FO u b0 B s ts i t∧Stay b0 w u):=hu
  clear hu
  go_wp2
  go_end0
  exact⟨rfl,U.out⟩)
end
end
section
variable{w w':World}{b0:Nat}{B:R8B}{s:SSt}{ts:List R8T}
theorem w64_is(x:Int):IntKind.i64.wrap x=RowKit.wrap64 x:=by simp only[IntKind.wrap_i64,RowKit.wrap64]
section
variable{i:Nat}{t:R8T}{kd a b c:Int}
def F105(a b c d e:Value):Array Value:= #[a,b,c,d,undef,undef,e,undef,undef,undef,undef,undef,undef,undef,undef,undef,undef,undef,undef,undef,undef,undef,undef,undef,undef,undef,undef,undef,undef,undef,undef,undef,undef,undef,undef,undef,undef,undef,undef,undef,undef,undef,undef,undef,undef,undef,undef,undef,undef,undef,undef,undef,undef,undef,undef,undef,undef,undef,undef,undef,undef,undef,undef,undef,undef,undef,undef,undef,undef,undef,undef,undef,undef,undef,undef,undef,undef,undef,undef,undef,undef,undef,undef,undef,undef,undef,undef,undef,undef,undef,undef,undef,undef,undef,undef,undef,undef,undef,undef,undef,undef,undef,undef,undef,undef,undef,undef,undef,undef,undef,undef,undef,undef,undef,undef]
theorem write8_e(h:R8A w b0 B s ts)(ht:ts[i]? =some t)(hv:s.ver.tmod 2=0):
 Calls Try.prog 105 #[.pointer (some ⟨B.mb,0,none⟩),.int .i64 i,.agg #[.int .i64 kd,.int .i64 a,.int .i64 b,.int .i64 c],.int .i64 1] w fun e w'=>e= .returned (.tuple #[])∧R8A w' b0 B s (ts.set i (tv1 t s.ver))∧Stay b0 w w':=by
 obtain⟨hw1,hsame,hsz1,hA,hS⟩:=al47 (kd:=kd) (a:=a) (b:=b) (c:=c) h
 have hilt:=(List.getElem?_eq_some_iff.1 ht).1
 have hilt2:(i:Int)<(ts.length:Int):=by omega
 have hn16:=h.wf.n2
 have hwl0:B.wb<w.heap.size:=by obtain⟨d,hd⟩:=h.w_ty;exact(alt hd)
 clear h
 go_enter Try.func105,Try.ntmps105
 refine wp_then8 (R:=fun x u=>x=⟨F105 (.pointer (some ⟨B.mb,0,none⟩)) (.int .i64 i) (.agg #[.int .i64 kd,.int .i64 a,.int .i64 b,.int .i64 c]) (.int .i64 1) (.pointer (some ⟨w.heap.size,0,none⟩)),[]⟩∧u=w.alloc (.cells #[.int .i64 kd,.int .i64 a,.int .i64 b,.int .i64 c] 47)) ?_ ?_
 ·go_wp2
  exact⟨rfl,rfl⟩
 rintro _ W ⟨rfl,hWe⟩
 simp only[F105]
 rw[← hWe]at hw1 hsame hsz1 hA hS
 clear hWe
 have o0:W.cell? ⟨w.heap.size,0,none⟩=some (.int .i64 kd):=by simp only[World.cell?,hw1];rfl
 have o2:W.cell? ⟨w.heap.size,2,none⟩=some (.int .i64 b):=by simp only[World.cell?,hw1];rfl
 have o3:W.cell? ⟨w.heap.size,3,none⟩=some (.int .i64 c):=by simp only[World.cell?,hw1];rfl
 obtain⟨tb,tc,htv,m0,m1,m2,zm,t0,t1,t3,t4,t5,t6,t7,zt,mt,wt,htb⟩:=hA.fx ht
 have hbt:b0≤tb:=hA.b3 tb (by rw[htv];rfl)
 have zm0:=zm 0
 have zt6:=zt (i*8+6)
 have H:Aside (∀X:World,X.heap=(W.setCell ⟨tb,i*8+6,none⟩ (.int .i64 s.ver)).heap→R8A X b0 B s (ts.set i (tv1 t s.ver))):=fun X e=>(hA.num ht htv 6 (tv1 t s.ver) (.int .i64 s.ver) (by omega) rfl rfl rfl (.inr (.inr ⟨rfl,rfl⟩))).heap e
 have H3:Aside (∀X:World,X.heap=(W.setCell ⟨tb,i*8+6,none⟩ (.int .i64 s.ver)).heap→Stay b0 w X):=fun X e=>(hS.set (a:=⟨tb,i*8+6,none⟩) hbt _).heap e
 have S1:Aside (∀u:World,u.heap=(W.setCell ⟨tb,i*8+6,none⟩ (.int .i64 s.ver)).heap→u.cell? ⟨B.mb,2,none⟩=some (.slice (some ⟨tb,0,none⟩) ts.length tc)∧u.cell? ⟨B.mb,0,none⟩=some (.int .i64 s.ver)):=fun u e=>by
  rw[cell_hp2 e,cell_hp2 e]
  exact⟨(cell_off mt.symm).trans m2,(cell_off mt.symm).trans m0⟩
 clear zt zm t0 t1 t3 t5 t4 t7 hbt wt htb hw1 hsame hsz1 hwl0
 clear hA hS ht htv o0 o2 o3
 go_wp2
 go_region_held3 (fun u:World=>u.cell? ⟨B.mb,2,none⟩=some (.slice (some ⟨tb,0,none⟩) ts.length tc)∧u.cell? ⟨B.mb,0,none⟩=some (.int .i64 s.ver))
  (first|exact⟨m2,m0⟩|exact S1.out _ rfl|go_keep)
  (fail)
 all_goals(
  go_wp2
  go_end0
  exact⟨rfl,H.out _ rfl,H3.out _ rfl⟩)
theorem write8_o(h:R8A w b0 B s ts)(ht:ts[i]? =some t)(hv:¬s.ver.tmod 2=0)(htr:1≤t.tr∧t.tr≤1024)(hl:t.ans.length<100000000)(hk:t.k<100000000):
 Calls Try.prog 105 #[.pointer (some ⟨B.mb,0,none⟩),.int .i64 i,.agg #[.int .i64 kd,.int .i64 a,.int .i64 b,.int .i64 c],.int .i64 1] w fun e w'=>e= .returned (.tuple #[])∧FO w' b0 B s ts i (tv1 t s.ver)∧Stay b0 w w':=by
 obtain⟨hw1,hsame,hsz1,hA,hS⟩:=al47 (kd:=kd) (a:=a) (b:=b) (c:=c) h
 have hilt:=(List.getElem?_eq_some_iff.1 ht).1
 have hilt2:(i:Int)<(ts.length:Int):=by omega
 have hn16:=h.wf.n2
 have hwl0:B.wb<w.heap.size:=by obtain⟨d,hd⟩:=h.w_ty;exact(alt hd)
 clear h
 go_enter Try.func105,Try.ntmps105
 refine wp_then8 (R:=fun x u=>x=⟨F105 (.pointer (some ⟨B.mb,0,none⟩)) (.int .i64 i) (.agg #[.int .i64 kd,.int .i64 a,.int .i64 b,.int .i64 c]) (.int .i64 1) (.pointer (some ⟨w.heap.size,0,none⟩)),[]⟩∧u=w.alloc (.cells #[.int .i64 kd,.int .i64 a,.int .i64 b,.int .i64 c] 47)) ?_ ?_
 ·go_wp2
  exact⟨rfl,rfl⟩
 rintro _ W ⟨rfl,hWe⟩
 simp only[F105]
 rw[← hWe]at hw1 hsame hsz1 hA hS
 clear hWe
 have o0:W.cell? ⟨w.heap.size,0,none⟩=some (.int .i64 kd):=by simp only[World.cell?,hw1];rfl
 have o2:W.cell? ⟨w.heap.size,2,none⟩=some (.int .i64 b):=by simp only[World.cell?,hw1];rfl
 have o3:W.cell? ⟨w.heap.size,3,none⟩=some (.int .i64 c):=by simp only[World.cell?,hw1];rfl
 obtain⟨tb,tc,htv,m0,m1,m2,zm,t0,t1,t3,t4,t5,t6,t7,zt,mt,wt,htb⟩:=hA.fx ht
 have hbt:b0≤tb:=hA.b3 tb (by rw[htv];rfl)
 have zm0:=zm 0
 have zt6:=zt (i*8+6)
 have H4:Aside (∀X:World,X.heap=(W.setCell ⟨tb,i*8+6,none⟩ (.int .i64 s.ver)).heap→Calls Try.prog 112 #[.pointer (some ⟨B.mb,0,none⟩),.int .i64 i] X fun e w'=>e= .returned (.tuple #[])∧FO w' b0 B s ts i (tv1 t s.ver)∧Stay b0 w w'):=fun X e=>by
  have h1:=(hA.num ht htv 6 (tv1 t s.ver) (.int .i64 s.ver) (by omega) rfl rfl rfl (.inr (.inr ⟨rfl,rfl⟩))).heap e
  have h3:Stay b0 w X:=(hS.set (a:=⟨tb,i*8+6,none⟩) hbt _).heap e
  exact(failed8 h1 (set_get ht) htr hl hk).mono fun e u ⟨k1,k2,k3⟩=>⟨k1,FO.set k2,h3.trans k3⟩
 have S1:Aside (∀u:World,u.heap=(W.setCell ⟨tb,i*8+6,none⟩ (.int .i64 s.ver)).heap→u.cell? ⟨B.mb,2,none⟩=some (.slice (some ⟨tb,0,none⟩) ts.length tc)∧u.cell? ⟨B.mb,0,none⟩=some (.int .i64 s.ver)):=fun u e=>by
  rw[cell_hp2 e,cell_hp2 e]
  exact⟨(cell_off mt.symm).trans m2,(cell_off mt.symm).trans m0⟩
 clear zt zm t0 t1 t3 t5 t4 t7 hbt wt htb hw1 hsame hsz1 hwl0
 clear hA hS ht htv o0 o2 o3 htr hl hk
 go_wp2
 go_region_held3 (fun u:World=>u.cell? ⟨B.mb,2,none⟩=some (.slice (some ⟨tb,0,none⟩) ts.length tc)∧u.cell? ⟨B.mb,0,none⟩=some (.int .i64 s.ver))
  (first|exact⟨m2,m0⟩|exact S1.out _ rfl|go_keep)
  (fail)
 all_goals(
  go_wp2_with (fail)
  go_at_call 112
  refine Calls.mono (H4.out _ ?_) ?_
  ·rfl
  rintro e u ⟨rfl,hu⟩
  have U:Aside (FO u b0 B s ts i (tv1 t s.ver)∧Stay b0 w u):=hu
  clear hu
  go_wp2
  go_end0
  exact⟨rfl,U.out⟩)
theorem write8_f(h:R8A w b0 B s ts)(ht:ts[i]? =some t)(hv:¬s.ver=t.v)(htr:1≤t.tr∧t.tr≤1024)(hl:t.ans.length<100000000)(hk:t.k<100000000):
 Calls Try.prog 105 #[.pointer (some ⟨B.mb,0,none⟩),.int .i64 i,.agg #[.int .i64 kd,.int .i64 a,.int .i64 b,.int .i64 c],.int .i64 2] w fun e w'=>e= .returned (.tuple #[])∧FO w' b0 B s ts i t∧Stay b0 w w':=by
 obtain⟨hw1,hsame,hsz1,hA,hS⟩:=al47 (kd:=kd) (a:=a) (b:=b) (c:=c) h
 have hilt:=(List.getElem?_eq_some_iff.1 ht).1
 have hilt2:(i:Int)<(ts.length:Int):=by omega
 have hn16:=h.wf.n2
 have hwl0:B.wb<w.heap.size:=by obtain⟨d,hd⟩:=h.w_ty;exact(alt hd)
 clear h
 go_enter Try.func105,Try.ntmps105
 refine wp_then8 (R:=fun x u=>x=⟨F105 (.pointer (some ⟨B.mb,0,none⟩)) (.int .i64 i) (.agg #[.int .i64 kd,.int .i64 a,.int .i64 b,.int .i64 c]) (.int .i64 2) (.pointer (some ⟨w.heap.size,0,none⟩)),[]⟩∧u=w.alloc (.cells #[.int .i64 kd,.int .i64 a,.int .i64 b,.int .i64 c] 47)) ?_ ?_
 ·go_wp2
  exact⟨rfl,rfl⟩
 rintro _ W ⟨rfl,hWe⟩
 simp only[F105]
 rw[← hWe]at hw1 hsame hsz1 hA hS
 clear hWe
 have o0:W.cell? ⟨w.heap.size,0,none⟩=some (.int .i64 kd):=by simp only[World.cell?,hw1];rfl
 have o2:W.cell? ⟨w.heap.size,2,none⟩=some (.int .i64 b):=by simp only[World.cell?,hw1];rfl
 have o3:W.cell? ⟨w.heap.size,3,none⟩=some (.int .i64 c):=by simp only[World.cell?,hw1];rfl
 obtain⟨tb,tc,htv,m0,m1,m2,zm,t0,t1,t3,t4,t5,t6,t7,zt,mt,wt,htb⟩:=hA.fx ht
 have hbt:b0≤tb:=hA.b3 tb (by rw[htv];rfl)
 have zm0:=zm 0
 have zt6:=zt (i*8+6)
 have H4:Aside (∀X:World,X.heap=W.heap→Calls Try.prog 112 #[.pointer (some ⟨B.mb,0,none⟩),.int .i64 i] X fun e w'=>e= .returned (.tuple #[])∧FO w' b0 B s ts i t∧Stay b0 w w'):=fun X e=>
  (failed8 (hA.heap e) ht htr hl hk).mono fun e2 u ⟨k1,k2,k3⟩=>⟨k1,k2,(hS.heap e).trans k3⟩
 clear zt zm t0 t1 t3 t5 t4 t7 hbt wt htb hw1 hsame hsz1 hwl0
 clear hA hS ht htv o0 o2 o3 htr hl hk
 go_wp2
 go_region_held3 (fun u:World=>u.cell? ⟨B.mb,2,none⟩=some (.slice (some ⟨tb,0,none⟩) ts.length tc)∧u.cell? ⟨B.mb,0,none⟩=some (.int .i64 s.ver)∧u.cell? ⟨tb,i*8+6,none⟩=some (.int .i64 t.v))
  (first|exact⟨m2,m0,t6⟩|go_keep)
  (fail)
 all_goals(
  go_wp2_with (fail)
  go_at_call 112
  refine Calls.mono (H4.out _ ?_) ?_
  ·rfl
  rintro e u ⟨rfl,hu⟩
  have U:Aside (FO u b0 B s ts i t∧Stay b0 w u):=hu
  clear hu
  go_wp2
  exact bodyPost_ret (v:=.tuple #[]) (by simp[results,Try.f105,go_sem]) rfl ⟨rfl,U.out⟩)
theorem write8_l(h:R8A w b0 B s ts)(ht:ts[i]? =some t)(hv:s.ver=t.v):
 Calls Try.prog 105 #[.pointer (some ⟨B.mb,0,none⟩),.int .i64 i,.agg #[.int .i64 kd,.int .i64 a,.int .i64 b,.int .i64 c],.int .i64 2] w fun e w'=>e= .returned (.tuple #[])∧R8A w' b0 B {s with ver:=w64 (s.ver+1)} ts∧Stay b0 w w':=by
 obtain⟨hw1,hsame,hsz1,hA,hS⟩:=al47 (kd:=kd) (a:=a) (b:=b) (c:=c) h
 have hilt:=(List.getElem?_eq_some_iff.1 ht).1
 have hilt2:(i:Int)<(ts.length:Int):=by omega
 have hn16:=h.wf.n2
 have hwl0:B.wb<w.heap.size:=by obtain⟨d,hd⟩:=h.w_ty;exact(alt hd)
 clear h
 go_enter Try.func105,Try.ntmps105
 refine wp_then8 (R:=fun x u=>x=⟨F105 (.pointer (some ⟨B.mb,0,none⟩)) (.int .i64 i) (.agg #[.int .i64 kd,.int .i64 a,.int .i64 b,.int .i64 c]) (.int .i64 2) (.pointer (some ⟨w.heap.size,0,none⟩)),[]⟩∧u=w.alloc (.cells #[.int .i64 kd,.int .i64 a,.int .i64 b,.int .i64 c] 47)) ?_ ?_
 ·go_wp2
  exact⟨rfl,rfl⟩
 rintro _ W ⟨rfl,hWe⟩
 simp only[F105]
 rw[← hWe]at hw1 hsame hsz1 hA hS
 clear hWe
 have o0:W.cell? ⟨w.heap.size,0,none⟩=some (.int .i64 kd):=by simp only[World.cell?,hw1];rfl
 have o2:W.cell? ⟨w.heap.size,2,none⟩=some (.int .i64 b):=by simp only[World.cell?,hw1];rfl
 have o3:W.cell? ⟨w.heap.size,3,none⟩=some (.int .i64 c):=by simp only[World.cell?,hw1];rfl
 obtain⟨tb,tc,htv,m0,m1,m2,zm,t0,t1,t3,t4,t5,t6,t7,zt,mt,wt,htb⟩:=hA.fx ht
 have hbt:b0≤tb:=hA.b3 tb (by rw[htv];rfl)
 have zm0:=zm 0
 have zt6:=zt (i*8+6)
 have H:Aside (∀X:World,X.heap=(W.setCell ⟨B.mb,0,none⟩ (.int .i64 (RowKit.wrap64 (s.ver+1)))).heap→R8A X b0 B {s with ver:=w64 (s.ver+1)} ts):=fun X e=>(hA.ver (w64 (s.ver+1))).heap (by rw[e,w64,w64_is])
 have H3:Aside (∀X:World,X.heap=(W.setCell ⟨B.mb,0,none⟩ (.int .i64 (RowKit.wrap64 (s.ver+1)))).heap→Stay b0 w X):=fun X e=>(hS.set (a:=⟨B.mb,0,none⟩) hA.b1 _).heap e
 rw[← hv]at t6
 clear zt zm t0 t1 t3 t5 t4 t7 hbt wt htb hw1 hsame hsz1 hwl0
 clear hA hS ht htv o0 o2 o3 hv
 go_wp2
 go_region_held3 (fun u:World=>u.cell? ⟨B.mb,2,none⟩=some (.slice (some ⟨tb,0,none⟩) ts.length tc)∧u.cell? ⟨B.mb,0,none⟩=some (.int .i64 s.ver)∧u.cell? ⟨tb,i*8+6,none⟩=some (.int .i64 s.ver))
  (first|exact⟨m2,m0,t6⟩|go_keep)
  (fail)
 all_goals(
  go_wp2
  go_end0
  exact⟨rfl,H.out _ rfl,H3.out _ rfl⟩)
theorem write8_w1{k:Nat}{p:Int}(h:R8A w b0 B s ts)(ht:ts[i]? =some t)(hp:p=k+3)(hkn:k<s.ws.length)(hkd:kd=1):
 Calls Try.prog 105 #[.pointer (some ⟨B.mb,0,none⟩),.int .i64 i,.agg #[.int .i64 kd,.int .i64 a,.int .i64 b,.int .i64 c],.int .i64 p] w fun e w'=>e= .returned (.tuple #[])∧R8A w' b0 B {s with ws:=s.ws.set k (IntKind.i64.wrap (b+IntKind.i64.wrap ((k:Int)*c)))} ts∧Stay b0 w w':=by
 obtain⟨hw1,hsame,hsz1,hA,hS⟩:=al47 (kd:=kd) (a:=a) (b:=b) (c:=c) h
 have hilt:=(List.getElem?_eq_some_iff.1 ht).1
 have hilt2:(i:Int)<(ts.length:Int):=by omega
 have hn16:=h.wf.n2
 have hwl0:B.wb<w.heap.size:=by obtain⟨d,hd⟩:=h.w_ty;exact(alt hd)
 clear h
 go_enter Try.func105,Try.ntmps105
 refine wp_then8 (R:=fun x u=>x=⟨F105 (.pointer (some ⟨B.mb,0,none⟩)) (.int .i64 i) (.agg #[.int .i64 kd,.int .i64 a,.int .i64 b,.int .i64 c]) (.int .i64 p) (.pointer (some ⟨w.heap.size,0,none⟩)),[]⟩∧u=w.alloc (.cells #[.int .i64 kd,.int .i64 a,.int .i64 b,.int .i64 c] 47)) ?_ ?_
 ·go_wp2
  subst hkd
  exact⟨rfl,rfl⟩
 rintro _ W ⟨rfl,hWe⟩
 simp only[F105]
 rw[← hWe]at hw1 hsame hsz1 hA hS
 clear hWe
 have o0:W.cell? ⟨w.heap.size,0,none⟩=some (.int .i64 kd):=by simp only[World.cell?,hw1];rfl
 have o2:W.cell? ⟨w.heap.size,2,none⟩=some (.int .i64 b):=by simp only[World.cell?,hw1];rfl
 have o3:W.cell? ⟨w.heap.size,3,none⟩=some (.int .i64 c):=by simp only[World.cell?,hw1];rfl
 obtain⟨tb,tc,htv,m0,m1,m2,zm,t0,t1,t3,t4,t5,t6,t7,zt,mt,wt,htb⟩:=hA.fx ht
 have hbt:b0≤tb:=hA.b3 tb (by rw[htv];rfl)
 have zm0:=zm 0
 have zt6:=zt (i*8+6)
 have p1:¬p=1:=by omega
 have p2:¬p=2:=by omega
 have hwr1:IntKind.i64.wrap ((s.ws.length:Int)+2)=(s.ws.length:Int)+2:=IntWalk.i64_in _ (by omega)
 have p3:p≤(s.ws.length:Int)+2:=by omega
 have hwr2:IntKind.i64.wrap (p - 3)=(k:Int):=by rw[show p - 3=(k:Int)by omega];exact IntWalk.i64_in _ (by omega)
 have hkn2:(k:Int)<(s.ws.length:Int):=by omega
 obtain⟨wk,wz⟩:=hA.wcell hkn
 have H:Aside (∀X:World,X.heap=(W.setCell ⟨B.wb,k,none⟩ (.int .i64 (RowKit.wrap64 (b+RowKit.wrap64 ((k:Int)*c))))).heap→R8A X b0 B {s with ws:=s.ws.set k (IntKind.i64.wrap (b+IntKind.i64.wrap ((k:Int)*c)))} ts):=fun X e=>(hA.word hkn _).heap (by rw[e];simp only[w64_is])
 have H3:Aside (∀X:World,X.heap=(W.setCell ⟨B.wb,k,none⟩ (.int .i64 (RowKit.wrap64 (b+RowKit.wrap64 ((k:Int)*c))))).heap→Stay b0 w X):=fun X e=>(hS.set (a:=⟨B.wb,k,none⟩) hA.b2 _).heap e
 clear zt zm t0 t1 t3 t5 t4 t6 t7 hbt wt htb hw1 hsame hsz1 hwl0 m0 m2 zm0 zt6
 clear hA hS ht htv hp hkn
 generalize s.ws.getD k 0=x at*
 go_wp2
 go_end0
 exact⟨rfl,H.out _ rfl,H3.out _ rfl⟩
theorem write8_w2{k:Nat}{p:Int}(h:R8A w b0 B s ts)(ht:ts[i]? =some t)(hp:p=k+3)(hkn:k<s.ws.length)(hkd:kd=2):
 Calls Try.prog 105 #[.pointer (some ⟨B.mb,0,none⟩),.int .i64 i,.agg #[.int .i64 kd,.int .i64 a,.int .i64 b,.int .i64 c],.int .i64 p] w fun e w'=>e= .returned (.tuple #[])∧R8A w' b0 B {s with ws:=s.ws.set k (IntKind.i64.wrap (IntKind.i64.wrap (b+IntKind.i64.wrap ((k:Int)*c))+s.ws.getD k 0))} ts∧Stay b0 w w':=by
 obtain⟨hw1,hsame,hsz1,hA,hS⟩:=al47 (kd:=kd) (a:=a) (b:=b) (c:=c) h
 have hilt:=(List.getElem?_eq_some_iff.1 ht).1
 have hilt2:(i:Int)<(ts.length:Int):=by omega
 have hn16:=h.wf.n2
 have hwl0:B.wb<w.heap.size:=by obtain⟨d,hd⟩:=h.w_ty;exact(alt hd)
 clear h
 go_enter Try.func105,Try.ntmps105
 refine wp_then8 (R:=fun x u=>x=⟨F105 (.pointer (some ⟨B.mb,0,none⟩)) (.int .i64 i) (.agg #[.int .i64 kd,.int .i64 a,.int .i64 b,.int .i64 c]) (.int .i64 p) (.pointer (some ⟨w.heap.size,0,none⟩)),[]⟩∧u=w.alloc (.cells #[.int .i64 kd,.int .i64 a,.int .i64 b,.int .i64 c] 47)) ?_ ?_
 ·go_wp2
  subst hkd
  exact⟨rfl,rfl⟩
 rintro _ W ⟨rfl,hWe⟩
 simp only[F105]
 rw[← hWe]at hw1 hsame hsz1 hA hS
 clear hWe
 have o0:W.cell? ⟨w.heap.size,0,none⟩=some (.int .i64 kd):=by simp only[World.cell?,hw1];rfl
 have o2:W.cell? ⟨w.heap.size,2,none⟩=some (.int .i64 b):=by simp only[World.cell?,hw1];rfl
 have o3:W.cell? ⟨w.heap.size,3,none⟩=some (.int .i64 c):=by simp only[World.cell?,hw1];rfl
 obtain⟨tb,tc,htv,m0,m1,m2,zm,t0,t1,t3,t4,t5,t6,t7,zt,mt,wt,htb⟩:=hA.fx ht
 have hbt:b0≤tb:=hA.b3 tb (by rw[htv];rfl)
 have zm0:=zm 0
 have zt6:=zt (i*8+6)
 have p1:¬p=1:=by omega
 have p2:¬p=2:=by omega
 have hwr1:IntKind.i64.wrap ((s.ws.length:Int)+2)=(s.ws.length:Int)+2:=IntWalk.i64_in _ (by omega)
 have p3:p≤(s.ws.length:Int)+2:=by omega
 have hwr2:IntKind.i64.wrap (p - 3)=(k:Int):=by rw[show p - 3=(k:Int)by omega];exact IntWalk.i64_in _ (by omega)
 have hkn2:(k:Int)<(s.ws.length:Int):=by omega
 obtain⟨wk,wz⟩:=hA.wcell hkn
 have H:Aside (∀X:World,X.heap=(W.setCell ⟨B.wb,k,none⟩ (.int .i64 (RowKit.wrap64 (RowKit.wrap64 (b+RowKit.wrap64 ((k:Int)*c))+s.ws.getD k 0)))).heap→R8A X b0 B {s with ws:=s.ws.set k (IntKind.i64.wrap (IntKind.i64.wrap (b+IntKind.i64.wrap ((k:Int)*c))+s.ws.getD k 0))} ts):=fun X e=>(hA.word hkn _).heap (by rw[e];simp only[w64_is])
 have H3:Aside (∀X:World,X.heap=(W.setCell ⟨B.wb,k,none⟩ (.int .i64 (RowKit.wrap64 (RowKit.wrap64 (b+RowKit.wrap64 ((k:Int)*c))+s.ws.getD k 0)))).heap→Stay b0 w X):=fun X e=>(hS.set (a:=⟨B.wb,k,none⟩) hA.b2 _).heap e
 clear zt zm t0 t1 t3 t5 t4 t6 t7 hbt wt htb hw1 hsame hsz1 hwl0 m0 m2 zm0 zt6
 clear hA hS ht htv hp hkn
 generalize s.ws.getD k 0=x at*
 go_wp2
 go_end0
 exact⟨rfl,H.out _ rfl,H3.out _ rfl⟩
theorem write8_z{p:Int}(h:R8A w b0 B s ts)(ht:ts[i]? =some t)(hp:(s.ws.length:Int)+2<p)(hl:t.ans.length<100000000)(hk:t.k<100000000):
 Calls Try.prog 105 #[.pointer (some ⟨B.mb,0,none⟩),.int .i64 i,.agg #[.int .i64 kd,.int .i64 a,.int .i64 b,.int .i64 c],.int .i64 p] w fun e w'=>e= .returned (.tuple #[])∧(∃av' a,a.an=(true,0,[])∧R8A w' b0 B {s with ver:=w64 (t.v+2)} (ts.set i (t.fin av' a)))∧Stay b0 w w':=by
 obtain⟨hw1,hsame,hsz1,hA,hS⟩:=al47 (kd:=kd) (a:=a) (b:=b) (c:=c) h
 have hilt:=(List.getElem?_eq_some_iff.1 ht).1
 have hilt2:(i:Int)<(ts.length:Int):=by omega
 have hn16:=h.wf.n2
 have hwl0:B.wb<w.heap.size:=by obtain⟨d,hd⟩:=h.w_ty;exact(alt hd)
 clear h
 go_enter Try.func105,Try.ntmps105
 refine wp_then8 (R:=fun x u=>x=⟨F105 (.pointer (some ⟨B.mb,0,none⟩)) (.int .i64 i) (.agg #[.int .i64 kd,.int .i64 a,.int .i64 b,.int .i64 c]) (.int .i64 p) (.pointer (some ⟨w.heap.size,0,none⟩)),[]⟩∧u=w.alloc (.cells #[.int .i64 kd,.int .i64 a,.int .i64 b,.int .i64 c] 47)) ?_ ?_
 ·go_wp2
  exact⟨rfl,rfl⟩
 rintro _ W ⟨rfl,hWe⟩
 simp only[F105]
 rw[← hWe]at hw1 hsame hsz1 hA hS
 clear hWe
 have o0:W.cell? ⟨w.heap.size,0,none⟩=some (.int .i64 kd):=by simp only[World.cell?,hw1];rfl
 have o2:W.cell? ⟨w.heap.size,2,none⟩=some (.int .i64 b):=by simp only[World.cell?,hw1];rfl
 have o3:W.cell? ⟨w.heap.size,3,none⟩=some (.int .i64 c):=by simp only[World.cell?,hw1];rfl
 obtain⟨tb,tc,htv,m0,m1,m2,zm,t0,t1,t3,t4,t5,t6,t7,zt,mt,wt,htb⟩:=hA.fx ht
 have hbt:b0≤tb:=hA.b3 tb (by rw[htv];rfl)
 have zm0:=zm 0
 have zt6:=zt (i*8+6)
 have p1:¬p=1:=by omega
 have p2:¬p=2:=by omega
 have hwr1:IntKind.i64.wrap ((s.ws.length:Int)+2)=(s.ws.length:Int)+2:=IntWalk.i64_in _ (by omega)
 have p3:¬p≤(s.ws.length:Int)+2:=by omega
 have H4:Aside (∀X:World,X.heap=(W.setCell ⟨B.mb,0,none⟩ (.int .i64 (RowKit.wrap64 (t.v+2)))).heap→Calls Try.prog 107 #[.pointer (some ⟨B.mb,0,none⟩),.int .i64 i,.agg #[.bool true,.int .i64 0,.slice none 0 0]] X fun e w'=>e= .returned (.tuple #[])∧(∃av' a,a.an=(true,0,[])∧R8A w' b0 B {s with ver:=w64 (t.v+2)} (ts.set i (t.fin av' a)))∧Stay b0 w w'):=fun X e=>
  (end8 (a:=⟨(true,0,[]),none,0,0⟩) ((hA.ver (w64 (t.v+2))).heap (by rw[e,w64,w64_is])) ht (.inl ⟨rfl,rfl⟩) hl hk).mono fun e2 u ⟨k1,⟨av',k2⟩,k3⟩=>⟨k1,⟨av',_,rfl,k2⟩,((hS.set (a:=⟨B.mb,0,none⟩) hA.b1 _).heap e).trans k3⟩
 clear zt zm t0 t1 t3 t5 t4 t7 hbt wt htb hw1 hsame hsz1 hwl0
 clear hA hS ht htv o0 o2 o3 hp hl hk
 go_wp2_with (fail)
 go_at_call 107
 refine Calls.mono (H4.out _ ?_) ?_
 ·rfl
 rintro e u ⟨rfl,hu⟩
 have U:Aside ((∃av' a,a.an=(true,0,[])∧R8A u b0 B {s with ver:=w64 (t.v+2)} (ts.set i (t.fin av' a)))∧Stay b0 w u):=hu
 clear hu
 go_wp2
 go_end0
 exact⟨rfl,U.out⟩
end
end
section
variable{w w':World}{b0:Nat}{B:R8B}{s:SSt}{ts:List R8T}
structure OpA8(w:World)(b0:Nat)(v:Value)(k:Nat)(kd a b c:Int)(ob oo ol oc:Nat):Prop where
 sl:v= .slice (some ⟨ob,oo,none⟩) ol oc
 lt:k<ol
 l:ob<b0
 f0:w.cell? ⟨ob,oo+k*4,none⟩=some (.int .i64 kd)
 f1:w.cell? ⟨ob,oo+k*4+1,none⟩=some (.int .i64 a)
 f2:w.cell? ⟨ob,oo+k*4+2,none⟩=some (.int .i64 b)
 f3:w.cell? ⟨ob,oo+k*4+3,none⟩=some (.int .i64 c)
def F84(a b:Value):Array Value:= #[a,b,undef,undef,undef,undef,undef,undef,undef,undef,undef,undef,undef,undef,undef,undef,undef,undef,undef,undef,undef,undef,undef,undef,undef,undef,undef,undef,undef,undef,undef,undef,undef,undef,undef,undef,undef,undef,undef,undef,undef,undef,undef,undef,undef,undef,undef,undef,undef,undef,undef,undef,undef,undef,undef,undef,undef,undef,undef,undef,undef,undef,undef,undef,undef,undef,undef,undef,undef,undef,undef,undef,undef,undef,undef,undef,undef,undef,undef,undef,undef,undef,undef,undef,undef,undef,undef,undef,undef,undef,undef,undef,undef,undef,undef,undef,undef,undef,undef,undef,undef,undef,undef,undef,undef,undef,undef,undef,undef,undef,undef,undef,undef,undef,undef,undef,undef,undef,undef,undef,undef,undef]
def R84(w:World)(mb tl i tb tc k:Nat)(kd a b c:Int)(ob oo ol oc:Nat)(x:Act)(u:World):Prop:=x=⟨#[.pointer (some ⟨mb,0,none⟩),.int .i64 i,undef,undef,.pointer (some ⟨w.heap.size,0,none⟩),undef,undef,.pointer (some ⟨mb,0,none⟩),.pointer (some ⟨mb,0,none⟩),.pointer (some ⟨mb,2,none⟩),.slice (some ⟨tb,0,none⟩) tl tc,.int .i64 i,.pointer (some ⟨tb,i*8,none⟩),.pointer (some ⟨tb,i*8,none⟩),.slice (some ⟨ob,oo,none⟩) ol oc,.pointer (some ⟨mb,0,none⟩),.pointer (some ⟨mb,0,none⟩),.pointer (some ⟨mb,2,none⟩),.slice (some ⟨tb,0,none⟩) tl tc,.int .i64 i,.pointer (some ⟨tb,i*8,none⟩),.pointer (some ⟨tb,i*8+3,none⟩),.int .i64 k,.pointer (some ⟨ob,oo+k*4,none⟩),.agg #[.int .i64 kd,.int .i64 a,.int .i64 b,.int .i64 c],undef,undef,undef,undef,undef,undef,undef,undef,undef,undef,undef,undef,undef,undef,undef,undef,undef,undef,undef,undef,undef,undef,undef,undef,undef,undef,undef,undef,undef,undef,undef,undef,undef,undef,undef,undef,undef,undef,undef,undef,undef,undef,undef,undef,undef,undef,undef,undef,undef,undef,undef,undef,undef,undef,undef,undef,undef,undef,undef,undef,undef,undef,undef,undef,undef,undef,undef,undef,undef,undef,undef,undef,undef,undef,undef,undef,undef,undef,undef,undef,undef,undef,undef,undef,undef,undef,undef,undef,undef,undef,undef,undef,undef,undef,undef,undef,undef],[]⟩∧(∀r,r<w.heap.size→u.heap[r]? =w.heap[r]?)∧u.heap.size=w.heap.size+1∧u.heap[w.heap.size]? =some (.cells #[.int .i64 kd,.int .i64 a,.int .i64 b,.int .i64 c] 47 (0,0))
theorem step8_0{mb tl i tb tc k:Nat}{kd a b c:Int}{ob oo ol oc:Nat}(m2:w.cell? ⟨mb,2,none⟩=some (.slice (some ⟨tb,0,none⟩) tl tc))(t0:w.cell? ⟨tb,i*8,none⟩=some (.slice (some ⟨ob,oo,none⟩) ol oc))(t3:w.cell? ⟨tb,i*8+3,none⟩=some (.int .i64 k))
 (f0:w.cell? ⟨ob,oo+k*4,none⟩=some (.int .i64 kd)) (f1:w.cell? ⟨ob,oo+k*4+1,none⟩=some (.int .i64 a)) (f2:w.cell? ⟨ob,oo+k*4+2,none⟩=some (.int .i64 b)) (f3:w.cell? ⟨ob,oo+k*4+3,none⟩=some (.int .i64 c)) (hilt2:(i:Int)<(tl:Int)) (hok2:(k:Int)<(ol:Int)) (nb:tb≠w.heap.size) (no:ob≠w.heap.size) (nm:mb≠w.heap.size):
 (pC [true] (Try.f84.body.getD .skip)).wp Try.prog (nrm (R84 w mb tl i tb tc k kd a b c ob oo ol oc)) ⟨F84 (.pointer (some ⟨mb,0,none⟩)) (.int .i64 i),[]⟩ w:=by
 simp only[pC,Try.f84,Option.getD_some,F84]
 have HE:Aside (∀u:World,(u.heap=(w.alloc (.cells #[.int .i64 kd,.int .i64 a,.int .i64 b,.int .i64 c] 47)).heap)→(∀r,r<w.heap.size→u.heap[r]? =w.heap[r]?)∧u.heap.size=w.heap.size+1∧u.heap[w.heap.size]? =some (.cells #[.int .i64 kd,.int .i64 a,.int .i64 b,.int .i64 c] 47 (0,0))):=fun u e=>by
  rw[e]
  exact⟨fun r hr=>heap_alloc_lt _ _ hr,by simp,heap_alloc_new _ _⟩
 have p0:=(cellB_alloc m2 (.cells #[.int .i64 0,.int .i64 0,.int .i64 0,.int .i64 0] 47)).1
 have p1:=(cellB_alloc t0 (.cells #[.int .i64 0,.int .i64 0,.int .i64 0,.int .i64 0] 47)).1
 have p3:=(cellB_alloc t3 (.cells #[.int .i64 0,.int .i64 0,.int .i64 0,.int .i64 0] 47)).1
 have q0:=(cellB_alloc f0 (.cells #[.int .i64 0,.int .i64 0,.int .i64 0,.int .i64 0] 47)).1
 have q1:=(cellB_alloc f1 (.cells #[.int .i64 0,.int .i64 0,.int .i64 0,.int .i64 0] 47)).1
 have q2:=(cellB_alloc f2 (.cells #[.int .i64 0,.int .i64 0,.int .i64 0,.int .i64 0] 47)).1
 have q3:=(cellB_alloc f3 (.cells #[.int .i64 0,.int .i64 0,.int .i64 0,.int .i64 0] 47)).1
 have KA:Aside (∀u:World,u.heap=(w.alloc (.cells #[.int .i64 0,.int .i64 0,.int .i64 0,.int .i64 0] 47)).heap→u.cell? ⟨mb,2,none⟩=some (.slice (some ⟨tb,0,none⟩) tl tc)∧u.cell? ⟨tb,i*8,none⟩=some (.slice (some ⟨ob,oo,none⟩) ol oc)∧u.cell? ⟨tb,i*8+3,none⟩=some (.int .i64 k)∧u.cell? ⟨ob,oo+k*4,none⟩=some (.int .i64 kd)∧u.cell? ⟨ob,oo+k*4+1,none⟩=some (.int .i64 a)∧u.cell? ⟨ob,oo+k*4+2,none⟩=some (.int .i64 b)∧u.cell? ⟨ob,oo+k*4+3,none⟩=some (.int .i64 c)):=fun u e=>by
  simp only[cell_hp2 e]
  exact⟨p0,p1,p3,q0,q1,q2,q3⟩
 go_wp2
 go_region_held3 (fun u:World=>u.cell? ⟨mb,2,none⟩=some (.slice (some ⟨tb,0,none⟩) tl tc)∧u.cell? ⟨tb,i*8,none⟩=some (.slice (some ⟨ob,oo,none⟩) ol oc)∧u.cell? ⟨tb,i*8+3,none⟩=some (.int .i64 k)∧u.cell? ⟨ob,oo+k*4,none⟩=some (.int .i64 kd)∧u.cell? ⟨ob,oo+k*4+1,none⟩=some (.int .i64 a)∧u.cell? ⟨ob,oo+k*4+2,none⟩=some (.int .i64 b)∧u.cell? ⟨ob,oo+k*4+3,none⟩=some (.int .i64 c))
  (first|exact⟨m2,t0,t3,f0,f1,f2,f3⟩|exact KA.out _ rfl|go_keep)
  (fail)
 all_goals exact⟨rfl,HE.out _ rfl⟩
section
variable{i:Nat}{t:R8T}{kd a b c:Int}{ob oo ol oc:Nat}
theorem st8_1{W:World}{tb tc:Nat}(h:R8A w b0 B s ts)(ht:ts[i]? =some t)(htv:B.tv= .slice (some ⟨tb,0,none⟩) ts.length tc)(hpc:t.pc<100)(u1:∀r,r<w.heap.size→W.heap[r]? =w.heap[r]?)(u2:W.heap.size=w.heap.size+1)(u3:W.heap[w.heap.size]? =some (.cells #[.int .i64 kd,.int .i64 a,.int .i64 b,.int .i64 c] 47 (0,0))):
 R8A W b0 B s ts∧Stay b0 w W∧R8Fx W B s ts.length i tb tc t∧b0≤tb∧W.cell? ⟨w.heap.size,0,none⟩=some (.int .i64 kd)∧W.cell? ⟨w.heap.size,1,none⟩=some (.int .i64 a)∧W.cell? ⟨w.heap.size,2,none⟩=some (.int .i64 b)∧W.cell? ⟨w.heap.size,3,none⟩=some (.int .i64 c)∧
  Aside (∀X:World,X.heap=(W.setCell ⟨tb,i*8+4,none⟩ (.int .i64 ((t.pc:Int)+1))).heap→R8A X b0 B s (ts.set i {t with pc:=t.pc+1})∧Stay b0 w X)∧IntKind.i64.wrap ((t.pc:Int)+1)=(t.pc:Int)+1:=by
 have hbs:=h.bs
 have hA:=h.more u1
 have hS:Stay b0 w W:=⟨by omega,fun r hr=>u1 r (by omega),fun r c y z q e=>u1 r (alt e)⟩
 obtain⟨tb',tc',hF⟩:=hA.fx ht
 have htv':=hF.tv
 rw[htv]at htv'
 cases htv'
 have hbt:b0≤tb:=hA.b3 tb (by rw[htv];rfl)
 have o0:W.cell? ⟨w.heap.size,0,none⟩=some (.int .i64 kd):=by simp only[World.cell?,u3];rfl
 have o1:W.cell? ⟨w.heap.size,1,none⟩=some (.int .i64 a):=by simp only[World.cell?,u3];rfl
 have o2:W.cell? ⟨w.heap.size,2,none⟩=some (.int .i64 b):=by simp only[World.cell?,u3];rfl
 have o3:W.cell? ⟨w.heap.size,3,none⟩=some (.int .i64 c):=by simp only[World.cell?,u3];rfl
 exact⟨hA,hS,hF,hbt,o0,o1,o2,o3,fun X e=>⟨(hA.num ht htv 4 {t with pc:=t.pc+1} (.int .i64 ((t.pc:Int)+1)) (by omega) rfl rfl rfl (.inr (.inr ⟨rfl,rfl⟩))).heap e,(hS.set (a:=⟨tb,i*8+4,none⟩) hbt _).heap e⟩,IntWalk.i64_in _ (by omega)⟩
theorem step8_w{P:World→Prop}(h:R8A w b0 B s ts)(ht:ts[i]? =some t)(ho:OpA8 w b0 t.op t.k kd a b c ob oo ol oc)(hpc:t.pc<100)(hkd:kd=1∨kd=2)(HC:∀X:World,R8A X b0 B s (ts.set i {t with pc:=t.pc+1})→Stay b0 w X→Calls Try.prog 105 #[.pointer (some ⟨B.mb,0,none⟩),.int .i64 i,.agg #[.int .i64 kd,.int .i64 a,.int .i64 b,.int .i64 c],.int .i64 t.pc] X fun e w'=>e= .returned (.tuple #[])∧P w'):
 Calls Try.prog 84 #[.pointer (some ⟨B.mb,0,none⟩),.int .i64 i] w fun e w'=>e= .returned (.tuple #[])∧P w':=by
 have hilt:=(List.getElem?_eq_some_iff.1 ht).1
 have hilt2:(i:Int)<(ts.length:Int):=by omega
 have hn16:=h.wf.n2
 have hbs:=h.bs
 have E0:Aside (R8A w b0 B s ts):=h
 obtain⟨tb,tc,htv,m0,m1,m2,zm,t0,t1,t3,t4,t5,t6,t7,zt,mt,wt,htb⟩:=h.fx ht
 obtain⟨hov,hok,hol,f0,f1,f2,f3⟩:=ho
 rw[hov]at t0
 have hok2:(t.k:Int)<(ol:Int):=by omega
 clear h
 go_enter Try.func84,Try.ntmps84
 refine wp_then8 (step8_0 m2 t0 t3 f0 f1 f2 f3 hilt2 hok2 (by omega) (by omega) (by have:=E0.out.low_m;omega)) ?_
 rintro _ W ⟨rfl,u1,u2,u3⟩
 clear m0 m1 m2 zm t0 t1 t3 t4 t5 t6 t7 zt mt wt f0 f1 f2 f3
 obtain⟨hA,hS,⟨htv',m0,m1,m2,zm,t0,t1,t3,t4,t5,t6,t7,zt,mt,wt,htb'⟩,hbt,o0,o1,o2,o3,HX,hwr⟩:=st8_1 E0.out ht htv hpc u1 u2 u3
 clear htv'
 have zt4:=zt (i*8+4)
 have H4:Aside (∀X:World,X.heap=(W.setCell ⟨tb,i*8+4,none⟩ (.int .i64 ((t.pc:Int)+1))).heap→Calls Try.prog 105 #[.pointer (some ⟨B.mb,0,none⟩),.int .i64 i,.agg #[.int .i64 kd,.int .i64 a,.int .i64 b,.int .i64 c],.int .i64 t.pc] X fun e w'=>e= .returned (.tuple #[])∧P w'):=fun X e=>HC X (HX.out X e).1 (HX.out X e).2
 clear HC HX hA hS htv htb' htb hbt ht zm zt u1 u2 u3 hov t0 t1 t3 t5 t6 t7 m0 E0 wt hok hol
 rcases hkd with rfl|rfl
 all_goals(
  go_wp2_with (fail)
  go_at_call 105
  refine Calls.mono (H4.out _ ?_) ?_
  ·rfl
  rintro e u ⟨rfl,hu⟩
  have U:Aside (P u):=hu
  clear hu
  go_wp2
  go_end0
  exact⟨rfl,U.out⟩)
theorem step8_r{P:World→Prop}(h:R8A w b0 B s ts)(ht:ts[i]? =some t)(ho:OpA8 w b0 t.op t.k 3 a b c ob oo ol oc)(hpc:t.pc<100)(HC:∀X:World,R8A X b0 B s (ts.set i {t with pc:=t.pc+1})→Stay b0 w X→Calls Try.prog 106 #[.pointer (some ⟨B.mb,0,none⟩),.int .i64 i,.int .i64 t.pc] X fun e w'=>e= .returned (.tuple #[])∧P w'):
 Calls Try.prog 84 #[.pointer (some ⟨B.mb,0,none⟩),.int .i64 i] w fun e w'=>e= .returned (.tuple #[])∧P w':=by
 have hilt:=(List.getElem?_eq_some_iff.1 ht).1
 have hilt2:(i:Int)<(ts.length:Int):=by omega
 have hn16:=h.wf.n2
 have hbs:=h.bs
 have E0:Aside (R8A w b0 B s ts):=h
 obtain⟨tb,tc,htv,m0,m1,m2,zm,t0,t1,t3,t4,t5,t6,t7,zt,mt,wt,htb⟩:=h.fx ht
 obtain⟨hov,hok,hol,f0,f1,f2,f3⟩:=ho
 rw[hov]at t0
 have hok2:(t.k:Int)<(ol:Int):=by omega
 clear h
 go_enter Try.func84,Try.ntmps84
 refine wp_then8 (step8_0 m2 t0 t3 f0 f1 f2 f3 hilt2 hok2 (by omega) (by omega) (by have:=E0.out.low_m;omega)) ?_
 rintro _ W ⟨rfl,u1,u2,u3⟩
 clear m0 m1 m2 zm t0 t1 t3 t4 t5 t6 t7 zt mt wt f0 f1 f2 f3
 obtain⟨hA,hS,⟨htv',m0,m1,m2,zm,t0,t1,t3,t4,t5,t6,t7,zt,mt,wt,htb'⟩,hbt,o0,o1,o2,o3,HX,hwr⟩:=st8_1 E0.out ht htv hpc u1 u2 u3
 clear htv'
 have zt4:=zt (i*8+4)
 have H4:Aside (∀X:World,X.heap=(W.setCell ⟨tb,i*8+4,none⟩ (.int .i64 ((t.pc:Int)+1))).heap→Calls Try.prog 106 #[.pointer (some ⟨B.mb,0,none⟩),.int .i64 i,.int .i64 t.pc] X fun e w'=>e= .returned (.tuple #[])∧P w'):=fun X e=>HC X (HX.out X e).1 (HX.out X e).2
 clear HC HX hA hS htv htb' htb hbt ht zm zt u1 u2 u3 hov t0 t1 t3 t5 t6 t7 m0 E0 wt hok hol
 go_wp2_with (fail)
 go_at_call 106
 refine Calls.mono (H4.out _ ?_) ?_
 ·rfl
 rintro e u ⟨rfl,hu⟩
 have U:Aside (P u):=hu
 clear hu
 go_wp2
 go_end0
 exact⟨rfl,U.out⟩
end
end
section
variable{w w':World}{b0:Nat}{B:R8B}{s:SSt}{ts:List R8T}
theorem callable107:Callable 107:=callable Try.func107 rfl rfl
section
variable{i:Nat}{t:R8T}{kd a b c:Int}{ob oo ol oc:Nat}
theorem step8_m{l:List Int}{k:Nat}(h:R8A w b0 B s ts)(ht:ts[i]? =some t)(ho:OpA8 w b0 t.op t.k 4 a b c ob oo ol oc)(hpc:t.pc<100)(hso:t.so=some l)(hll:l.length≤16)(hp:t.pc=k+1)(hkn:k<s.ws.length)(hne:¬t.pc=s.ws.length):
 Calls Try.prog 84 #[.pointer (some ⟨B.mb,0,none⟩),.int .i64 i] w fun e w'=>e= .returned (.tuple #[])∧(∃sv',R8A w' b0 B s (ts.set i {t with pc:=t.pc+1,sv:=sv',so:=some (l++[s.ws.getD k 0])}))∧Stay b0 w w':=by
 have EA:Aside (ts[i]? =some t∧t.so=some l∧k<s.ws.length∧t.pc=k+1):=⟨ht,hso,hkn,hp⟩
 have EN:Aside (¬t.pc=s.ws.length):=hne
 have hilt:=(List.getElem?_eq_some_iff.1 ht).1
 have hilt2:(i:Int)<(ts.length:Int):=by omega
 have hn16:=h.wf.n2
 have hbs:=h.bs
 have E0:Aside (R8A w b0 B s ts):=h
 obtain⟨tb,tc,htv,m0,m1,m2,zm,t0,t1,t3,t4,t5,t6,t7,zt,mt,wt,htb⟩:=h.fx ht
 obtain⟨hov,hok,hol,f0,f1,f2,f3⟩:=ho
 rw[hov]at t0
 have hok2:(t.k:Int)<(ol:Int):=by omega
 clear h
 go_enter Try.func84,Try.ntmps84
 refine wp_then8 (step8_0 m2 t0 t3 f0 f1 f2 f3 hilt2 hok2 (by omega) (by omega) (by have:=E0.out.low_m;omega)) ?_
 rintro _ W ⟨rfl,u1,u2,u3⟩
 clear m0 m1 m2 zm t0 t1 t3 t4 t5 t6 t7 zt mt wt f0 f1 f2 f3
 obtain⟨hA,hS,⟨htv',m0,m1,m2,zm,t0,t1,t3,t4,t5,t6,t7,zt,mt,wt,htb'⟩,hbt,o0,o1,o2,o3,HX,hwr⟩:=st8_1 E0.out ht htv hpc u1 u2 u3
 clear htv'
 have zt4:=zt (i*8+4)
 obtain⟨i0,z0,hi,hz0,hz1,hz2,hz3⟩:=infoA2
 have hwr2:IntKind.i64.wrap ((t.pc:Int) - 1)=(k:Int):=by rw[show(t.pc:Int) - 1=(k:Int)by omega];exact IntWalk.i64_in _ (by omega)
 have hkn2:(k:Int)<(s.ws.length:Int):=by omega
 have HTV:Aside (B.tv= .slice (some ⟨tb,0,none⟩) ts.length tc):=htv
 have E1:Aside (ts[i]? =some t∧t.so=some l∧k<s.ws.length∧B.tv= .slice (some ⟨tb,0,none⟩) ts.length tc∧b0≤tb):=⟨ht,hso,hkn,htv,hbt⟩
 clear hA hS htb' htb hbt ht zm zt u1 u2 u3 hov t0 t1 t3 t5 t6 hok hol hso hkn E0 htv hp hne
 go_wp2
 generalize hX:W.setCell ⟨tb,i*8+4,none⟩ (.int .i64 ((t.pc:Int)+1))=X
 obtain⟨ht,hso,hkn,htv,hbt⟩:=E1.out
 have hX1:=(HX.out X (by rw[hX])).1
 have hX2:=(HX.out X (by rw[hX])).2
 clear HX
 have m2:X.cell? ⟨B.mb,2,none⟩=some (.slice (some ⟨tb,0,none⟩) ts.length tc):=by rw[← hX,cell_off mt.symm];exact m2
 have m1:X.cell? ⟨B.mb,1,none⟩=some (.slice (some ⟨B.wb,0,none⟩) s.ws.length B.wc):=by rw[← hX,cell_off mt.symm];exact m1
 have t7:X.cell? ⟨tb,i*8+7,none⟩=some t.sv:=by rw[← hX,World.cell?_setCell_other _ _ _ _ (by intro e;injection e with _ e1;omega)];exact t7
 have htb:tb<X.heap.size:=by obtain⟨c,hc⟩:=row_blk hX1.row (r:=tb) (by rw[htv];rfl);exact(alt hc)
 have zt:∀j,X.frozen? ⟨tb,j,none⟩=false:=fun j=>by obtain⟨c,hc⟩:=row_blk hX1.row (r:=tb) (by rw[htv];rfl);simp[World.frozen?,hc]
 clear o0 o1 o2 o3 hX zt4 t4 m0
 have hT:=hX1.thr {t with pc:=t.pc+1} (List.mem_of_getElem? (set_get ht))
 have hrow1:X.ownsRow 0 2 1 t.sv l.length (l.map fun v=>.int .i64 v):=hT.sv l hso
 have hma:some B.mb≠t.sv.ownBlock:=fun e=>by obtain⟨c,hc⟩:=row_blk hrow1 e.symm;exact heap_ty hc hX1.o (by decide) rfl
 have hta:some tb≠t.sv.ownBlock:=fun e=>by
  obtain⟨c,hc⟩:=row_blk hrow1 e.symm
  obtain⟨d,hd⟩:=row_blk hX1.row (r:=tb) (by rw[htv];rfl)
  exact heap_ty hc hd (by decide) rfl
 have hwa:some B.wb≠t.sv.ownBlock:=fun e=>hX1.wn {t with pc:=t.pc+1} (List.mem_of_getElem? (set_get ht)) (.inr (.inl ⟨by simp[hso],e.symm⟩))
 have hmlt:=hX1.low_m
 have hwlt:B.wb<X.heap.size:=by obtain⟨d,hd⟩:=hX1.w_ty;exact(alt hd)
 obtain⟨wk,wz⟩:=hX1.wcell hkn
 have E2:Aside (R8A X b0 B s (ts.set i {t with pc:=t.pc+1})∧Stay b0 w X):=⟨hX1,hX2⟩
 clear hX1 hX2 ht hso htv hbt hT E1 hwr
 generalize hx:s.ws.getD k 0=x at wk
 have HXE:Aside (s.ws.getD k 0=x):=hx
 clear hx
 rw[← Ld_eq 22 (.tmp 76)]
 go_region_held3 (fun u:World=>u.cell? ⟨B.mb,2,none⟩=some (.slice (some ⟨tb,0,none⟩) ts.length tc)∧u.cell? ⟨B.mb,1,none⟩=some (.slice (some ⟨B.wb,0,none⟩) s.ws.length B.wc)∧u.cell? ⟨B.wb,k,none⟩=some (.int .i64 x))
  (first|exact⟨m2,m1,wk⟩|exact⟨(cellB_alloc m2 _).1,(cellB_alloc m1 _).1,(cellB_alloc wk _).1⟩|exact SQ.out|exact⟨(cell_off mt.symm).trans SQ.out.1,(cell_off mt.symm).trans SQ.out.2.1,(cell_off wt.symm).trans SQ.out.2.2⟩|go_keep)
  (first|(refine step_append_fresh rfl (.tmp 77) (.tmp 86) 22 rfl 2 i0 z0 1 8 Try.underlying22 hi hz0 hz1 hz2 hz3 (by decide) t.sv l.length (l.map fun v=>.int .i64 v) (by simp[Act.eval,Act.put]) ((show X.drew.ownsRow 0 2 1 _ _ _ from hrow1).alloc _) ⟨X.heap.size,0,none⟩ 1 1 [.int .i64 x] (by simp[Act.eval,Act.put]) rfl (new_cells (X:=X.drew) (l:=[.int .i64 x]) rfl) (by intro u hu;simp at hu;subst hu;rfl) (by unfold maxLen;omega) (by omega) ?_;intro v' w3 hown hgrow hfr;obtain⟨g,cap,rfl⟩:=own_slice hown;have hk1:=grown_old (W:=X.drew) hgrow (r:=tb) htb hta;have hk2:=grown_old (W:=X.drew) hgrow (r:=B.mb) hmlt hma;have hk3:=grown_old (W:=X.drew) hgrow (r:=B.wb) hwlt hwa;have k0:=(cell_heap (j:=2) hk2).1.trans m2;have k1:=(cell_heap (j:=1) hk2).1.trans m1;have k2:=(cell_heap (j:=i*8+7) hk1).1.trans t7;have k3:=(cell_heap (j:=k) hk3).1.trans wk;have SQ:Aside (w3.cell? ⟨B.mb,2,none⟩=some (.slice (some ⟨tb,0,none⟩) ts.length tc)∧w3.cell? ⟨B.mb,1,none⟩=some (.slice (some ⟨B.wb,0,none⟩) s.ws.length B.wc)∧w3.cell? ⟨B.wb,k,none⟩=some (.int .i64 x)):=⟨k0,k1,k3⟩;have zz7:=(cell_heap (j:=i*8+7) hk1).2.trans (zt (i*8+7));have F:Aside ((∀r,r<X.heap.size→some r≠t.sv.ownBlock→w3.heap[r]? =X.heap[r]?)∧X.heap.size≤w3.heap.size∧((Value.slice (some ⟨g,0,none⟩) (l.length+1) cap).ownBlock=t.sv.ownBlock∨∃g',(Value.slice (some ⟨g,0,none⟩) (l.length+1) cap).ownBlock=some g'∧X.heap.size≤g')):=⟨fun r hr hn=>grown_old (W:=X.drew) hgrow hr hn,Nat.le_trans (by simp[World.drew]) hgrow.size,hfr.imp id fun⟨g',h1,h2⟩=>⟨g',h1,Nat.le_trans (by simp[World.drew]) h2⟩⟩;clear hgrow hfr hk1 hk2 hk3))
 all_goals(
  have hne:=EN.out
  go_wp2
  go_end0
  obtain⟨ht,hso,hkn,hp⟩:=EA.out
  obtain⟨f1,f2,f3⟩:=F.out
  obtain⟨hX1,hX2⟩:=E2.out
  have htv:B.tv= .slice (some ⟨tb,0,none⟩) (ts.set i {t with pc:=t.pc+1}).length tc:=by rw[set_len];exact HTV.out
  have hbt:b0≤tb:=hX1.b3 tb (by rw[htv];rfl)
  have h1:=hX1.seen (t:={t with pc:=t.pc+1}) (set_get ht) htv hso f2 hown f1 f3
  rw[List.set_set]at h1
  have h3:Stay b0 X w3:=⟨f2,fun r hr=>f1 r (by have:=hX1.bs;omega) fun e=>by have:=hX1.b4 {t with pc:=t.pc+1} (List.mem_of_getElem? (set_get ht)) r (.inr (.inl ⟨by simp[hso],e.symm⟩));omega,fun r c y z q e0=>f1 r (alt e0) fun e=>hX1.no3 (t:={t with pc:=t.pc+1}) (List.mem_of_getElem? (set_get ht)) (.inr (.inl ⟨by simp[hso],e.symm⟩)) q e0⟩
  have h4:=hX2.trans (h3.set (a:=⟨tb,i*8+7,none⟩) hbt (.slice (some ⟨g,0,none⟩) (l.length+1) cap))
  rw[HXE.out]
  exact⟨rfl,⟨_,h1.heap rfl⟩,h4.heap rfl⟩)
theorem step8_l{l:List Int}{k:Nat}(h:R8A w b0 B s ts)(ht:ts[i]? =some t)(ho:OpA8 w b0 t.op t.k 4 a b c ob oo ol oc)(hpc:t.pc<100)(hso:t.so=some l)(hll:l.length≤16)(hp:t.pc=k+1)(hkn:k<s.ws.length)(hne:t.pc=s.ws.length)(hl:t.ans.length<100000000)(hk:t.k<100000000):
 Calls Try.prog 84 #[.pointer (some ⟨B.mb,0,none⟩),.int .i64 i] w fun e w'=>e= .returned (.tuple #[])∧(∃sv' av' an,an.an=(true,0,l++[s.ws.getD k 0])∧R8A w' b0 B s (ts.set i ({t with sv:=sv'}.fin av' an)))∧Stay b0 w w':=by
 have EA:Aside (ts[i]? =some t∧t.so=some l∧k<s.ws.length∧t.pc=k+1):=⟨ht,hso,hkn,hp⟩
 have EN:Aside (t.pc=s.ws.length):=hne
 have hilt:=(List.getElem?_eq_some_iff.1 ht).1
 have hilt2:(i:Int)<(ts.length:Int):=by omega
 have hn16:=h.wf.n2
 have hbs:=h.bs
 have E0:Aside (R8A w b0 B s ts):=h
 obtain⟨tb,tc,htv,m0,m1,m2,zm,t0,t1,t3,t4,t5,t6,t7,zt,mt,wt,htb⟩:=h.fx ht
 obtain⟨hov,hok,hol,f0,f1,f2,f3⟩:=ho
 rw[hov]at t0
 have hok2:(t.k:Int)<(ol:Int):=by omega
 clear h
 go_enter Try.func84,Try.ntmps84
 refine wp_then8 (step8_0 m2 t0 t3 f0 f1 f2 f3 hilt2 hok2 (by omega) (by omega) (by have:=E0.out.low_m;omega)) ?_
 rintro _ W ⟨rfl,u1,u2,u3⟩
 clear m0 m1 m2 zm t0 t1 t3 t4 t5 t6 t7 zt mt wt f0 f1 f2 f3
 obtain⟨hA,hS,⟨htv',m0,m1,m2,zm,t0,t1,t3,t4,t5,t6,t7,zt,mt,wt,htb'⟩,hbt,o0,o1,o2,o3,HX,hwr⟩:=st8_1 E0.out ht htv hpc u1 u2 u3
 clear htv'
 have zt4:=zt (i*8+4)
 obtain⟨i0,z0,hi,hz0,hz1,hz2,hz3⟩:=infoA2
 have hwr2:IntKind.i64.wrap ((t.pc:Int) - 1)=(k:Int):=by rw[show(t.pc:Int) - 1=(k:Int)by omega];exact IntWalk.i64_in _ (by omega)
 have hkn2:(k:Int)<(s.ws.length:Int):=by omega
 have HTV:Aside (B.tv= .slice (some ⟨tb,0,none⟩) ts.length tc):=htv
 have E1:Aside (ts[i]? =some t∧t.so=some l∧k<s.ws.length∧B.tv= .slice (some ⟨tb,0,none⟩) ts.length tc∧b0≤tb):=⟨ht,hso,hkn,htv,hbt⟩
 clear hA hS htb' htb hbt ht zm zt u1 u2 u3 hov t0 t1 t3 t5 t6 hok hol hso hkn E0 htv hp hne
 go_wp2
 generalize hX:W.setCell ⟨tb,i*8+4,none⟩ (.int .i64 ((t.pc:Int)+1))=X
 obtain⟨ht,hso,hkn,htv,hbt⟩:=E1.out
 have hX1:=(HX.out X (by rw[hX])).1
 have hX2:=(HX.out X (by rw[hX])).2
 clear HX
 have m2:X.cell? ⟨B.mb,2,none⟩=some (.slice (some ⟨tb,0,none⟩) ts.length tc):=by rw[← hX,cell_off mt.symm];exact m2
 have m1:X.cell? ⟨B.mb,1,none⟩=some (.slice (some ⟨B.wb,0,none⟩) s.ws.length B.wc):=by rw[← hX,cell_off mt.symm];exact m1
 have t7:X.cell? ⟨tb,i*8+7,none⟩=some t.sv:=by rw[← hX,World.cell?_setCell_other _ _ _ _ (by intro e;injection e with _ e1;omega)];exact t7
 have htb:tb<X.heap.size:=by obtain⟨c,hc⟩:=row_blk hX1.row (r:=tb) (by rw[htv];rfl);exact(alt hc)
 have zt:∀j,X.frozen? ⟨tb,j,none⟩=false:=fun j=>by obtain⟨c,hc⟩:=row_blk hX1.row (r:=tb) (by rw[htv];rfl);simp[World.frozen?,hc]
 clear o0 o1 o2 o3 hX zt4 t4 m0
 have hT:=hX1.thr {t with pc:=t.pc+1} (List.mem_of_getElem? (set_get ht))
 have hrow1:X.ownsRow 0 2 1 t.sv l.length (l.map fun v=>.int .i64 v):=hT.sv l hso
 have hma:some B.mb≠t.sv.ownBlock:=fun e=>by obtain⟨c,hc⟩:=row_blk hrow1 e.symm;exact heap_ty hc hX1.o (by decide) rfl
 have hta:some tb≠t.sv.ownBlock:=fun e=>by
  obtain⟨c,hc⟩:=row_blk hrow1 e.symm
  obtain⟨d,hd⟩:=row_blk hX1.row (r:=tb) (by rw[htv];rfl)
  exact heap_ty hc hd (by decide) rfl
 have hwa:some B.wb≠t.sv.ownBlock:=fun e=>hX1.wn {t with pc:=t.pc+1} (List.mem_of_getElem? (set_get ht)) (.inr (.inl ⟨by simp[hso],e.symm⟩))
 have hmlt:=hX1.low_m
 have hwlt:B.wb<X.heap.size:=by obtain⟨d,hd⟩:=hX1.w_ty;exact(alt hd)
 obtain⟨wk,wz⟩:=hX1.wcell hkn
 have E2:Aside (R8A X b0 B s (ts.set i {t with pc:=t.pc+1})∧Stay b0 w X):=⟨hX1,hX2⟩
 clear hX1 hX2 ht hso htv hbt hT E1 hwr
 generalize hx:s.ws.getD k 0=x at wk
 have HXE:Aside (s.ws.getD k 0=x):=hx
 clear hx
 rw[← Ld_eq 22 (.tmp 76)]
 go_region_held3 (fun u:World=>u.cell? ⟨B.mb,2,none⟩=some (.slice (some ⟨tb,0,none⟩) ts.length tc)∧u.cell? ⟨B.mb,1,none⟩=some (.slice (some ⟨B.wb,0,none⟩) s.ws.length B.wc)∧u.cell? ⟨B.wb,k,none⟩=some (.int .i64 x))
  (first|exact⟨m2,m1,wk⟩|exact⟨(cellB_alloc m2 _).1,(cellB_alloc m1 _).1,(cellB_alloc wk _).1⟩|exact SQ.out|exact⟨(cell_off mt.symm).trans SQ.out.1,(cell_off mt.symm).trans SQ.out.2.1,(cell_off wt.symm).trans SQ.out.2.2⟩|go_keep)
  (first|(refine step_append_fresh rfl (.tmp 77) (.tmp 86) 22 rfl 2 i0 z0 1 8 Try.underlying22 hi hz0 hz1 hz2 hz3 (by decide) t.sv l.length (l.map fun v=>.int .i64 v) (by simp[Act.eval,Act.put]) ((show X.drew.ownsRow 0 2 1 _ _ _ from hrow1).alloc _) ⟨X.heap.size,0,none⟩ 1 1 [.int .i64 x] (by simp[Act.eval,Act.put]) rfl (new_cells (X:=X.drew) (l:=[.int .i64 x]) rfl) (by intro u hu;simp at hu;subst hu;rfl) (by unfold maxLen;omega) (by omega) ?_;intro v' w3 hown hgrow hfr;obtain⟨g,cap,rfl⟩:=own_slice hown;have hk1:=grown_old (W:=X.drew) hgrow (r:=tb) htb hta;have hk2:=grown_old (W:=X.drew) hgrow (r:=B.mb) hmlt hma;have hk3:=grown_old (W:=X.drew) hgrow (r:=B.wb) hwlt hwa;have k0:=(cell_heap (j:=2) hk2).1.trans m2;have k1:=(cell_heap (j:=1) hk2).1.trans m1;have k2:=(cell_heap (j:=i*8+7) hk1).1.trans t7;have k3:=(cell_heap (j:=k) hk3).1.trans wk;have SQ:Aside (w3.cell? ⟨B.mb,2,none⟩=some (.slice (some ⟨tb,0,none⟩) ts.length tc)∧w3.cell? ⟨B.mb,1,none⟩=some (.slice (some ⟨B.wb,0,none⟩) s.ws.length B.wc)∧w3.cell? ⟨B.wb,k,none⟩=some (.int .i64 x)):=⟨k0,k1,k3⟩;have zz7:=(cell_heap (j:=i*8+7) hk1).2.trans (zt (i*8+7));have F:Aside ((∀r,r<X.heap.size→some r≠t.sv.ownBlock→w3.heap[r]? =X.heap[r]?)∧X.heap.size≤w3.heap.size∧((Value.slice (some ⟨g,0,none⟩) (l.length+1) cap).ownBlock=t.sv.ownBlock∨∃g',(Value.slice (some ⟨g,0,none⟩) (l.length+1) cap).ownBlock=some g'∧X.heap.size≤g')):=⟨fun r hr hn=>grown_old (W:=X.drew) hgrow hr hn,Nat.le_trans (by simp[World.drew]) hgrow.size,hfr.imp id fun⟨g',h1,h2⟩=>⟨g',h1,Nat.le_trans (by simp[World.drew]) h2⟩⟩;clear hgrow hfr hk1 hk2 hk3))
 all_goals(
  have H5:Aside (∀X':World,X'.heap=(w3.setCell ⟨tb,i*8+7,none⟩ (.slice (some ⟨g,0,none⟩) (l.length+1) cap)).heap→Calls Try.prog 107 #[.pointer (some ⟨B.mb,0,none⟩),.int .i64 i,.agg #[.bool true,.int .i64 0,.slice (some ⟨g,0,none⟩) (l.length+1) cap]] X' fun e w'=>e= .returned (.tuple #[])∧(∃sv' av' an,an.an=(true,0,l++[s.ws.getD k 0])∧R8A w' b0 B s (ts.set i ({t with sv:=sv'}.fin av' an)))∧Stay b0 w w'):=fun X' e=>by
   obtain⟨ht,hso,hkn,hp⟩:=EA.out
   obtain⟨f1,f2,f3⟩:=F.out
   obtain⟨hX1,hX2⟩:=E2.out
   have htv:B.tv= .slice (some ⟨tb,0,none⟩) (ts.set i {t with pc:=t.pc+1}).length tc:=by rw[set_len];exact HTV.out
   have hbt:b0≤tb:=hX1.b3 tb (by rw[htv];rfl)
   have h1:=hX1.seen (t:={t with pc:=t.pc+1}) (set_get ht) htv hso f2 hown f1 f3
   rw[List.set_set]at h1
   have h3:Stay b0 X w3:=⟨f2,fun r hr=>f1 r (by have:=hX1.bs;omega) fun e=>by have:=hX1.b4 {t with pc:=t.pc+1} (List.mem_of_getElem? (set_get ht)) r (.inr (.inl ⟨by simp[hso],e.symm⟩));omega,fun r c y z q e0=>f1 r (alt e0) fun e=>hX1.no3 (t:={t with pc:=t.pc+1}) (List.mem_of_getElem? (set_get ht)) (.inr (.inl ⟨by simp[hso],e.symm⟩)) q e0⟩
   have h4:=hX2.trans (h3.set (a:=⟨tb,i*8+7,none⟩) hbt (.slice (some ⟨g,0,none⟩) (l.length+1) cap))
   rw[HXE.out]
   have h5:=end8 (a:=⟨(true,0,l++[x]),some ⟨g,0,none⟩,l.length+1,cap⟩) (h1.heap e) (set_get ht) (.inr ⟨_,rfl,rfl,rfl⟩) hl hk
   simp only[List.set_set]at h5
   exact h5.mono fun e2 u ⟨k1,⟨av',k2⟩,k3⟩=>⟨k1,⟨_,av',_,rfl,k2⟩,(h4.heap e).trans k3⟩
  have hne:=EN.out
  go_wp2_with (fail)
  go_at_call 107
  refine Calls.mono (H5.out _ ?_) ?_
  ·rfl
  rintro e u ⟨rfl,hu⟩
  have U:Aside ((∃sv' av' an,an.an=(true,0,l++[s.ws.getD k 0])∧R8A u b0 B s (ts.set i ({t with sv:=sv'}.fin av' an)))∧Stay b0 w u):=hu
  clear hu
  go_wp2
  go_end0
  exact⟨rfl,U.out⟩)
theorem step8_nt(h:R8A w b0 B s ts)(ht:ts[i]? =some t)(ho:OpA8 w b0 t.op t.k 5 a b c ob oo ol oc)(hpc:t.pc<100)(hv:a<s.ver)(hl:t.ans.length<100000000)(hk:t.k<100000000):
 Calls Try.prog 84 #[.pointer (some ⟨B.mb,0,none⟩),.int .i64 i] w fun e w'=>e= .returned (.tuple #[])∧(∃av' an,an.an=(true,s.ver,[])∧R8A w' b0 B s (ts.set i (t.fin av' an)))∧Stay b0 w w':=by
 have hilt:=(List.getElem?_eq_some_iff.1 ht).1
 have hilt2:(i:Int)<(ts.length:Int):=by omega
 have hn16:=h.wf.n2
 have hbs:=h.bs
 have E0:Aside (R8A w b0 B s ts):=h
 obtain⟨tb,tc,htv,m0,m1,m2,zm,t0,t1,t3,t4,t5,t6,t7,zt,mt,wt,htb⟩:=h.fx ht
 obtain⟨hov,hok,hol,f0,f1,f2,f3⟩:=ho
 rw[hov]at t0
 have hok2:(t.k:Int)<(ol:Int):=by omega
 clear h
 go_enter Try.func84,Try.ntmps84
 refine wp_then8 (step8_0 m2 t0 t3 f0 f1 f2 f3 hilt2 hok2 (by omega) (by omega) (by have:=E0.out.low_m;omega)) ?_
 rintro _ W ⟨rfl,u1,u2,u3⟩
 clear m0 m1 m2 zm t0 t1 t3 t4 t5 t6 t7 zt mt wt f0 f1 f2 f3
 obtain⟨hA,hS,⟨htv',m0,m1,m2,zm,t0,t1,t3,t4,t5,t6,t7,zt,mt,wt,htb'⟩,hbt,o0,o1,o2,o3,HX,hwr⟩:=st8_1 E0.out ht htv hpc u1 u2 u3
 clear htv'
 have zt4:=zt (i*8+4)
 have H5:Aside (∀X':World,X'.heap=(W.setCell ⟨tb,i*8+4,none⟩ (.int .i64 ((t.pc:Int)+1))).heap→Calls Try.prog 107 #[.pointer (some ⟨B.mb,0,none⟩),.int .i64 i,.agg #[.bool true,.int .i64 s.ver,.slice none 0 0]] X' fun e w'=>e= .returned (.tuple #[])∧(∃av' an,an.an=(true,s.ver,[])∧R8A w' b0 B s (ts.set i (t.fin av' an)))∧Stay b0 w w'):=fun X' e=>by
  have h5:=end8 (a:=⟨(true,s.ver,[]),none,0,0⟩) (HX.out X' e).1 (set_get ht) (.inl ⟨rfl,rfl⟩) hl hk
  simp only[List.set_set]at h5
  exact h5.mono fun e2 u ⟨k1,⟨av',k2⟩,k3⟩=>⟨k1,⟨av',_,rfl,k2⟩,(HX.out X' e).2.trans k3⟩
 clear HX hA hS htv htb' htb hbt ht zm zt u1 u2 u3 hov t0 t1 t3 t5 t6 t7 E0 wt hok hol hl hk
 go_wp2
 go_region_law (refine step_call rfl 107 #[.pointer (some ⟨B.mb,0,none⟩),.int .i64 i,.agg #[.bool true,.int .i64 s.ver,.slice none 0 0]] (.tuple #[]) (by simp[execOp,Act.eval,Act.put,resolve,invoke,Deferred.ofValue,callable107.run,hv]) (H5.out _ rfl) ?_;intro u hu;have U:Aside ((∃av' an,an.an=(true,s.ver,[])∧R8A u b0 B s (ts.set i (t.fin av' an)))∧Stay b0 w u):=hu;clear hu)
 all_goals(
  go_wp2
  go_end0
  exact⟨rfl,U.out⟩)
theorem step8_nf(h:R8A w b0 B s ts)(ht:ts[i]? =some t)(ho:OpA8 w b0 t.op t.k 5 a b c ob oo ol oc)(hpc:t.pc<100)(hv:¬a<s.ver)(hl:t.ans.length<100000000)(hk:t.k<100000000):
 Calls Try.prog 84 #[.pointer (some ⟨B.mb,0,none⟩),.int .i64 i] w fun e w'=>e= .returned (.tuple #[])∧(∃av' an,an.an=(false,s.ver,[])∧R8A w' b0 B s (ts.set i (t.fin av' an)))∧Stay b0 w w':=by
 have hilt:=(List.getElem?_eq_some_iff.1 ht).1
 have hilt2:(i:Int)<(ts.length:Int):=by omega
 have hn16:=h.wf.n2
 have hbs:=h.bs
 have E0:Aside (R8A w b0 B s ts):=h
 obtain⟨tb,tc,htv,m0,m1,m2,zm,t0,t1,t3,t4,t5,t6,t7,zt,mt,wt,htb⟩:=h.fx ht
 obtain⟨hov,hok,hol,f0,f1,f2,f3⟩:=ho
 rw[hov]at t0
 have hok2:(t.k:Int)<(ol:Int):=by omega
 clear h
 go_enter Try.func84,Try.ntmps84
 refine wp_then8 (step8_0 m2 t0 t3 f0 f1 f2 f3 hilt2 hok2 (by omega) (by omega) (by have:=E0.out.low_m;omega)) ?_
 rintro _ W ⟨rfl,u1,u2,u3⟩
 clear m0 m1 m2 zm t0 t1 t3 t4 t5 t6 t7 zt mt wt f0 f1 f2 f3
 obtain⟨hA,hS,⟨htv',m0,m1,m2,zm,t0,t1,t3,t4,t5,t6,t7,zt,mt,wt,htb'⟩,hbt,o0,o1,o2,o3,HX,hwr⟩:=st8_1 E0.out ht htv hpc u1 u2 u3
 clear htv'
 have zt4:=zt (i*8+4)
 have H5:Aside (∀X':World,X'.heap=(W.setCell ⟨tb,i*8+4,none⟩ (.int .i64 ((t.pc:Int)+1))).heap→Calls Try.prog 107 #[.pointer (some ⟨B.mb,0,none⟩),.int .i64 i,.agg #[.bool false,.int .i64 s.ver,.slice none 0 0]] X' fun e w'=>e= .returned (.tuple #[])∧(∃av' an,an.an=(false,s.ver,[])∧R8A w' b0 B s (ts.set i (t.fin av' an)))∧Stay b0 w w'):=fun X' e=>by
  have h5:=end8 (a:=⟨(false,s.ver,[]),none,0,0⟩) (HX.out X' e).1 (set_get ht) (.inl ⟨rfl,rfl⟩) hl hk
  simp only[List.set_set]at h5
  exact h5.mono fun e2 u ⟨k1,⟨av',k2⟩,k3⟩=>⟨k1,⟨av',_,rfl,k2⟩,(HX.out X' e).2.trans k3⟩
 clear HX hA hS htv htb' htb hbt ht zm zt u1 u2 u3 hov t0 t1 t3 t5 t6 t7 E0 wt hok hol hl hk
 go_wp2
 go_region_law (refine step_call rfl 107 #[.pointer (some ⟨B.mb,0,none⟩),.int .i64 i,.agg #[.bool false,.int .i64 s.ver,.slice none 0 0]] (.tuple #[]) (by simp[execOp,Act.eval,Act.put,resolve,invoke,Deferred.ofValue,callable107.run,hv]) (H5.out _ rfl) ?_;intro u hu;have U:Aside ((∃av' an,an.an=(false,s.ver,[])∧R8A u b0 B s (ts.set i (t.fin av' an)))∧Stay b0 w u):=hu;clear hu)
 all_goals(
  go_wp2
  go_end0
  exact⟨rfl,U.out⟩)
end
end
section
variable{w w':World}{b0:Nat}{B:R8B}{s:SSt}{ts:List R8T}
structure SRel(n:Nat)(o:Op4)(t:R8T)(c:SCl):Prop where
 kd:(c.kd:Int)=o.kd
 kr:1≤c.kd∧c.kd≤5
 pcp:1≤t.pc
 tr:c.kd≤3→t.tr=(c.T:Int) - c.r∧c.r<c.T∧c.T≤1024
 p0:c.kd≤3→c.ph=0→t.pc=1
 p1:c.kd≤2→c.ph=1→t.pc=2
 p2:c.kd≤2→c.ph=2→t.pc=c.i+3∧c.i<n
 p3:c.kd≤2→c.ph=3→t.pc=n+3
 ph:c.kd≤2→c.ph≤3
 q1:c.kd=3→c.ph=1→t.pc=c.i+2∧c.i<n
 q2:c.kd=3→c.ph=2→t.pc=n+2
 qh:c.kd=3→c.ph≤2
 r1:c.kd=4→t.pc=c.i+1∧c.i<n
 s1:c.kd=5→t.pc=1
 v:c.kd≤3→1≤c.ph→t.v=c.v
 so:t.so=some c.out
 ol:c.out.length≤n
 oi:c.kd=3→c.ph=1→c.out.length=c.i
 oi4:c.kd=4→c.out.length=c.i
 s0:c.kd=3→c.ph=0→c.out=[]
 vs:c.kd≤2→c.vs=opVals n o.b o.c
 a:c.kd=5→c.a=o.a
structure TRel(n:Nat)(ops:List Op4)(t:R8T)(g:GT SPl):Prop where
 k:t.k=g.k
 kl:g.k≤ops.length
 al:g.ans.length=g.k
 ans:t.ans.map SA.an=g.ans
 call:match g.call with|none=>t.pc=0∧g.k=ops.length|some c=>∃o,ops[g.k]? =some o∧SRel n o t c
theorem beg_in{o:Op4}(h:1≤o.kd∧o.kd≤5)(n0:0<s.ws.length):∃c,s.begin o=(s,.inl c)∧∀t:R8T,SRel s.ws.length o (t.bg (triesOf o.a:Nat)) c:=by
 obtain⟨kd,a,b,c⟩:=o
 simp only at h
 have ht:=triesOf_pos a
 have:kd=1∨kd=2∨kd=3∨kd=4∨kd=5:=by omega
 rcases this with rfl|rfl|rfl|rfl|rfl
 all_goals
  refine⟨_,by simp only[SSt.begin];rfl,fun t=>?_⟩
  constructor<;>simp[R8T.bg]<;>omega
theorem beg_out{o:Op4}(h:o.kd<1∨5<o.kd):s.begin o=(s,.inr (false,0,[])):=by
 unfold SSt.begin
 repeat' split
 all_goals first|rfl|omega
theorem sbeg_q(q:SSt)(o:Op4):(q.begin o).1=q:=by
 unfold SSt.begin
 repeat' split
 all_goals rfl
theorem advG_inl{l:List Op4}{q q':SSt}{o:Op4}{c:SCl}{t:GT SPl}(h:q.begin o=(q',.inl c)):advG SPl (o::l) q t=(q',{t with call:=some c}):=by
 have h:SPl.beg q o=(q',.inl c):=h
 simp only[advG,h]
 rfl
theorem advG_inr{l:List Op4}{q q':SSt}{o:Op4}{a:SPl.A}{t:GT SPl}(h:q.begin o=(q',.inr a)):advG SPl (o::l) q t=advG SPl l q' ⟨t.k+1,none,t.ans++[a]⟩:=by
 have h:SPl.beg q o=(q',.inr a):=h
 simp only[advG,h]
theorem advG_q:∀(l:List Op4) (q:SSt) (t:GT SPl),(advG SPl l q t).1=q
 | [],q,t=>rfl
 | o::l,q,t=>by
   have h:=sbeg_q q o
   obtain⟨q',r,e⟩:∃q' r,q.begin o=(q',r):=⟨_,_,rfl⟩
   rw[e]at h
   have h:q'=q:=h
   subst h
   cases r with
   | inl c=>rw[advG_inl e]
   | inr a=>rw[advG_inr e];exact advG_q l _ _
structure OpsB(w:World)(b0:Nat)(v:Value)(ops:List Op4):Prop where
 sl:∃oa oc,v= .slice oa ops.length oc
 c:∀(k:Nat) x,ops[k]? =some x→∃ob oo oc,OpA8 w b0 v k x.kd x.a x.b x.c ob oo ops.length oc
theorem OpA8.stay{v:Value}{k:Nat}{kd a b c:Int}{ob oo ol oc:Nat}(h:OpA8 w b0 v k kd a b c ob oo ol oc)(hs:Stay b0 w w'):OpA8 w' b0 v k kd a b c ob oo ol oc:=by
 have e:∀j,w'.cell? ⟨ob,j,none⟩=w.cell? ⟨ob,j,none⟩:=fun j=>by simp only[World.cell?,hs.o ob h.l]
 exact⟨h.sl,h.lt,h.l,(e _).trans h.f0,(e _).trans h.f1,(e _).trans h.f2,(e _).trans h.f3⟩
theorem OpsB.stay{v:Value}{ops:List Op4}(h:OpsB w b0 v ops)(hs:Stay b0 w w'):OpsB w' b0 v ops:=
 ⟨h.sl,fun k x hx=>by obtain⟨ob,oo,oc,h1⟩:=h.c k x hx;exact⟨ob,oo,oc,h1.stay hs⟩⟩
end
section
variable{w w':World}{b0:Nat}{B:R8B}{s:SSt}{ts:List R8T}
def StlR(s:SSt)(ops:List Op4)(t t1:R8T):Prop:=
 (t1.pc=0∧(advG SPl (ops.drop t.k) s ⟨t.k,none,t.ans.map SA.an⟩).2=(advG SPl (ops.drop t1.k) s ⟨t1.k,none,t1.ans.map SA.an⟩).2)∨
 (t1.pc≠0∧TRel s.ws.length ops t1 (advG SPl (ops.drop t.k) s ⟨t.k,none,t.ans.map SA.an⟩).2)
theorem stl_done{ops:List Op4}{t t1:R8T}(h:StlR s ops t t1)(hal:t1.ans.length=t1.k)(hx:t1.pc≠0∨t1.k=ops.length):TRel s.ws.length ops t1 (advG SPl (ops.drop t.k) s ⟨t.k,none,t.ans.map SA.an⟩).2:=by
 rcases h with⟨h1,h2⟩|⟨_,h2⟩
 ·have hk:t1.k=ops.length:=hx.resolve_left fun h=>h h1
  rw[h2,hk,List.drop_length]
  exact⟨hk,Nat.le_refl _,(List.length_map (f:=SA.an)).trans (hal.trans hk),rfl,h1,rfl⟩
 ·exact h2
theorem stl_in{ops:List Op4}{t t1:R8T}{x:Op4}(h:StlR s ops t t1)(h0:t1.pc=0)(hx:ops[t1.k]? =some x)(hal:t1.ans.length=t1.k)(hk:1≤x.kd∧x.kd≤5)(n0:0<s.ws.length):StlR s ops t (t1.bg (triesOf x.a:Nat)):=by
 obtain⟨hlt,e⟩:=List.getElem?_eq_some_iff.1 hx
 rcases h with⟨h1,h2⟩|⟨h1,h2⟩
 ·obtain⟨c,hb,hc⟩:=beg_in (s:=s) hk n0
  refine .inr ⟨by simp[R8T.bg],?_⟩
  rw[h2,List.drop_eq_getElem_cons hlt,e,advG_inl hb]
  exact⟨rfl,Nat.le_of_lt hlt,(List.length_map (f:=SA.an)).trans hal,rfl,x,hx,hc t1⟩
 ·exact absurd h0 h1
theorem stl_out{ops:List Op4}{t t1:R8T}{x:Op4}{av':Value}(h:StlR s ops t t1)(h0:t1.pc=0)(hx:ops[t1.k]? =some x)(hk:x.kd<1∨5<x.kd):StlR s ops t (t1.fin av' noA):=by
 obtain⟨hlt,e⟩:=List.getElem?_eq_some_iff.1 hx
 rcases h with⟨h1,h2⟩|⟨h1,h2⟩
 ·refine .inl ⟨rfl,?_⟩
  rw[h2,List.drop_eq_getElem_cons hlt,e,advG_inr (beg_out (s:=s) hk)]
  have e2:(t1.ans++[noA]).map SA.an=t1.ans.map SA.an++[(false,0,[])]:=by simp[noA]
  show _=(advG SPl (ops.drop (t1.k+1)) s ⟨t1.k+1,none,(t1.ans++[noA]).map SA.an⟩).2
  exact congrArg (fun l:List SAn=>(advG SPl (ops.drop (t1.k+1)) s ⟨t1.k+1,none,l⟩).2) e2.symm
 ·exact absurd h0 h1
section
variable{i:Nat}{t:R8T}{ops:List Op4}
theorem begin8_any{t1:R8T}{x:Op4}(h:R8A w b0 B s (ts.set i t1))(hi:i<ts.length)(h0:t1.pc=0)(hx:ops[t1.k]? =some x)(hR:StlR s ops t t1)(hal:t1.ans.length=t1.k)(hlen:ops.length≤65536):
 Calls Try.prog 104 #[.pointer (some ⟨B.mb,0,none⟩),.int .i64 i,.agg #[.int .i64 x.kd,.int .i64 x.a,.int .i64 x.b,.int .i64 x.c]] w fun e w'=>e= .returned (.tuple #[])∧(∃t2,R8A w' b0 B s (ts.set i t2)∧t2.op=t1.op∧StlR s ops t t2∧t2.k≤ops.length∧t2.ans.length=t2.k∧(if t2.pc=0 then 1 else 0)+(ops.length - t2.k)<(if t1.pc=0 then 1 else 0)+(ops.length - t1.k))∧Stay b0 w w':=by
 have hlt:=(List.getElem?_eq_some_iff.1 hx).1
 have ht:(ts.set i t1)[i]? =some t1:=by simp[List.getElem?_set,hi]
 by_cases hk:1≤x.kd∧x.kd≤5
 ·refine(begin8 (a:=x.a) (b:=x.b) (c:=x.c) h ht hk).mono fun e u ⟨k1,k2,k3⟩=>⟨k1,⟨t1.bg (triesOf x.a:Nat),by rw[List.set_set]at k2;exact k2,rfl,stl_in hR h0 hx hal hk h.wf.n1,Nat.le_of_lt hlt,hal,?_⟩,k3⟩
  simp only[R8T.bg,h0]
  simp
 ·have hk:x.kd<1∨5<x.kd:=by omega
  refine(begin8n (a:=x.a) (b:=x.b) (c:=x.c) h ht hk (by omega) (by omega)).mono fun e u ⟨k1,⟨av',k2⟩,k3⟩=>⟨k1,⟨t1.fin av' noA,by rw[List.set_set]at k2;exact k2,rfl,stl_out hR h0 hx hk,by simp only[R8T.fin];omega,by simp[R8T.fin,hal],?_⟩,k3⟩
  simp only[R8T.fin,h0]
  simp
  omega
theorem settle8(h:R8A w b0 B s ts)(ht:ts[i]? =some t)(hO:OpsB w b0 t.op ops)(hlen:ops.length≤65536)(hk:t.k≤ops.length)(hal:t.ans.length=t.k)(hpc:t.pc=0):
 Calls Try.prog 83 #[.pointer (some ⟨B.mb,0,none⟩),.int .i64 i] w fun e w'=>e= .returned (.tuple #[])∧(∃t',R8A w' b0 B s (ts.set i t')∧t'.op=t.op∧TRel s.ws.length ops t' (advG SPl (ops.drop t.k) s ⟨t.k,none,t.ans.map SA.an⟩).2)∧Stay b0 w w':=by
 have hilt:=(List.getElem?_eq_some_iff.1 ht).1
 have hilt2:(i:Int)<(ts.length:Int):=by omega
 have hset:ts.set i t=ts:=by
  apply List.ext_getElem?
  intro j
  rw[List.getElem?_set]
  split
  ·next e=>subst e;first|exact ht.symm|(rw[if_pos hilt];exact ht.symm)
  ·rfl
 have E:Aside (R8A w b0 B s (ts.set i t)∧OpsB w b0 t.op ops∧ops.length≤65536∧t.k≤ops.length∧t.ans.length=t.k∧t.pc=0):=⟨by rw[hset];exact h,hO,hlen,hk,hal,hpc⟩
 obtain⟨oa,oc,hop⟩:=hO.sl
 clear h ht hO hk hal hpc hset
 go_enter Try.func83,Try.ntmps83
 go_wp2
 go_loopg [] ((if t.pc=0 then 1 else 0)+(ops.length - t.k)) (fun g wr=>∃t1,R8A wr b0 B s (ts.set i t1)∧Stay b0 w wr∧t1.op=t.op∧StlR s ops t t1∧t1.k≤ops.length∧t1.ans.length=t1.k∧g=(if t1.pc=0 then 1 else 0)+(ops.length - t1.k))
 case atStart=>exact⟨t,E.out.1,Stay.refl _ _,rfl,.inl ⟨E.out.2.2.2.2.2,rfl⟩,E.out.2.2.2.1,E.out.2.2.2.2.1,rfl⟩
 case round=>
  obtain⟨t1,hA,hS,h1,h2,h3,h4,hg⟩:=hrel
  obtain⟨tb,tc,htv,m0,m1,m2,zm,t0,x1,t3,t4,t5,t6,t7,zt,mt,wt,htb⟩:=hA.fx (i:=i) (t:=t1) (by simp[List.getElem?_set,hilt])
  rw[set_len]at m2 htv
  rw[h1,hop]at t0
  have T1:Aside (R8A wr b0 B s (ts.set i t1)∧Stay b0 w wr∧t1.op=t.op∧StlR s ops t t1∧t1.k≤ops.length∧t1.ans.length=t1.k):=⟨hA,hS,h1,h2,h3,h4⟩
  clear m0 m1 zm x1 t5 t6 t7 zt wt htb hA hS h1 h2 h3 h4
  by_cases hp:t1.pc=0
  ·by_cases hlt:t1.k<ops.length
   ·have hlt2:(t1.k:Int)<(ops.length:Int):=by omega
    obtain⟨x,hx⟩:∃x,ops[t1.k]? =some x:=⟨_,List.getElem?_eq_getElem hlt⟩
    obtain⟨ob,oo,oc',hOA⟩:=(E.out.2.1.stay T1.out.2.1).c t1.k x hx
    have hsl:=hOA.sl
    rw[hop]at hsl
    cases hsl
    obtain⟨_,_,hol,f0,f1,f2,f3⟩:=hOA
    have HB:Aside (∀X:World,X.heap=wr.heap→Calls Try.prog 104 #[.pointer (some ⟨B.mb,0,none⟩),.int .i64 i,.agg #[.int .i64 x.kd,.int .i64 x.a,.int .i64 x.b,.int .i64 x.c]] X fun e u=>e= .returned (.tuple #[])∧∃t2,R8A u b0 B s (ts.set i t2)∧Stay b0 w u∧t2.op=t.op∧StlR s ops t t2∧t2.k≤ops.length∧t2.ans.length=t2.k∧(if t2.pc=0 then 1 else 0)+(ops.length - t2.k)<(if t1.pc=0 then 1 else 0)+(ops.length - t1.k)∧u.cell? ⟨B.mb,2,none⟩=some (.slice (some ⟨tb,0,none⟩) ts.length tc)∧u.cell? ⟨tb,i*8,none⟩=some (.slice (some ⟨ob,oo,none⟩) ops.length oc)∧u.cell? ⟨ob,oo+t1.k*4,none⟩=some (.int .i64 x.kd)∧u.cell? ⟨ob,oo+t1.k*4+1,none⟩=some (.int .i64 x.a)∧u.cell? ⟨ob,oo+t1.k*4+2,none⟩=some (.int .i64 x.b)∧u.cell? ⟨ob,oo+t1.k*4+3,none⟩=some (.int .i64 x.c)):=fun X e=>
     (begin8_any (t:=t) (T1.out.1.heap e) hilt hp hx T1.out.2.2.2.1 T1.out.2.2.2.2.2 E.out.2.2.1).mono fun e2 u ⟨k1,⟨t2,a1,a2,a3,a4,a5,a6⟩,k3⟩=>⟨k1,t2,a1,(T1.out.2.1.heap e).trans k3,a2.trans T1.out.2.2.1,a3,a4,a5,a6,by
       obtain⟨tb',tc',htv',y0,y1,y2,_,x0,_⟩:=a1.fx (i:=i) (t:=t2) (by simp[List.getElem?_set,hilt])
       rw[set_len]at y2 htv'
       rw[htv]at htv'
       cases htv'
       rw[a2,T1.out.2.2.1,hop]at x0
       have e:∀j,u.cell? ⟨ob,j,none⟩=wr.cell? ⟨ob,j,none⟩:=fun j=>by simp only[World.cell?];rw[k3.o ob hol,e]
       exact⟨y2,x0,(e _).trans f0,(e _).trans f1,(e _).trans f2,(e _).trans f3⟩⟩
    have HG:Aside (t1.pc=0):=hp
    have HS2:Aside (∀u:World,u.heap=wr.heap→u.cell? ⟨B.mb,2,none⟩=some (.slice (some ⟨tb,0,none⟩) ts.length tc)∧u.cell? ⟨tb,i*8,none⟩=some (.slice (some ⟨ob,oo,none⟩) ops.length oc)∧u.cell? ⟨ob,oo+t1.k*4,none⟩=some (.int .i64 x.kd)∧u.cell? ⟨ob,oo+t1.k*4+1,none⟩=some (.int .i64 x.a)∧u.cell? ⟨ob,oo+t1.k*4+2,none⟩=some (.int .i64 x.b)∧u.cell? ⟨ob,oo+t1.k*4+3,none⟩=some (.int .i64 x.c)):=fun u e=>by
     simp only[cell_hp2 e]
     exact⟨m2,t0,f0,f1,f2,f3⟩
    have GG:Aside _:=hg
    have t4:wr.cell? ⟨tb,i*8+4,none⟩=some (.int .i64 0):=by rw[t4,hp];rfl
    have HS:Aside (∀X:World,X.heap=wr.heap→X.cell? ⟨B.mb,2,none⟩=some (.slice (some ⟨tb,0,none⟩) ts.length tc)∧X.cell? ⟨tb,i*8,none⟩=some (.slice (some ⟨ob,oo,none⟩) ops.length oc)∧X.cell? ⟨tb,i*8+3,none⟩=some (.int .i64 t1.k)∧X.cell? ⟨tb,i*8+4,none⟩=some (.int .i64 0)):=fun X e=>by
     simp only[cell_hp2 e]
     exact⟨m2,t0,t3,t4⟩
    clear hlt hp hol hop htv hg hx hilt
    obtain⟨kd,xa,xb,xc⟩:=x
    simp only at f0 f1 f2 f3 HB HS2
    go_wp2
    go_region_held3 (fun u:World=>u.cell? ⟨B.mb,2,none⟩=some (.slice (some ⟨tb,0,none⟩) ts.length tc)∧u.cell? ⟨tb,i*8,none⟩=some (.slice (some ⟨ob,oo,none⟩) ops.length oc)∧u.cell? ⟨tb,i*8+3,none⟩=some (.int .i64 t1.k)∧u.cell? ⟨tb,i*8+4,none⟩=some (.int .i64 0))
     (first|exact HS.out _ rfl|go_keep)
     (fail)
    all_goals(
     go_wp2
     rw[← Ld_eq 3 (.tmp 49)]
     go_region_held3 (fun u:World=>u.cell? ⟨B.mb,2,none⟩=some (.slice (some ⟨tb,0,none⟩) ts.length tc)∧u.cell? ⟨tb,i*8,none⟩=some (.slice (some ⟨ob,oo,none⟩) ops.length oc)∧u.cell? ⟨ob,oo+t1.k*4,none⟩=some (.int .i64 kd)∧u.cell? ⟨ob,oo+t1.k*4+1,none⟩=some (.int .i64 xa)∧u.cell? ⟨ob,oo+t1.k*4+2,none⟩=some (.int .i64 xb)∧u.cell? ⟨ob,oo+t1.k*4+3,none⟩=some (.int .i64 xc))
      (first|exact SU.out|exact HS2.out _ rfl|go_keep)
      (first|(go_at_call 104;refine Calls.mono (HB.out _ ?_) ?_;(exact rfl);rintro e u ⟨rfl,t2,b1,b2,b3,b4,b5,b6,b7,b8⟩;have SU:Aside (u.cell? ⟨B.mb,2,none⟩=some (.slice (some ⟨tb,0,none⟩) ts.length tc)∧u.cell? ⟨tb,i*8,none⟩=some (.slice (some ⟨ob,oo,none⟩) ops.length oc)∧u.cell? ⟨ob,oo+t1.k*4,none⟩=some (.int .i64 kd)∧u.cell? ⟨ob,oo+t1.k*4+1,none⟩=some (.int .i64 xa)∧u.cell? ⟨ob,oo+t1.k*4+2,none⟩=some (.int .i64 xb)∧u.cell? ⟨ob,oo+t1.k*4+3,none⟩=some (.int .i64 xc)):=b8;have U:Aside (R8A u b0 B s (ts.set i t2)∧Stay b0 w u∧t2.op=t.op∧StlR s ops t t2∧t2.k≤ops.length∧t2.ans.length=t2.k∧(if t2.pc=0 then 1 else 0)+(ops.length - t2.k)<(if t1.pc=0 then 1 else 0)+(ops.length - t1.k)):=⟨b1,b2,b3,b4,b5,b6,b7⟩;clear b1 b2 b3 b4 b5 b6 b7 b8))
     all_goals(
      go_wp2
      go_roundg ((if t2.pc=0 then 1 else 0)+(ops.length - t2.k))
      case measure=>rw[GG.out];exact U.out.2.2.2.2.2.2
      case rel=>exact⟨t2,U.out.1,U.out.2.1,U.out.2.2.1,U.out.2.2.2.1,U.out.2.2.2.2.1,U.out.2.2.2.2.2.1,rfl⟩))
   ·have hge:ops.length=t1.k:=by have:=T1.out.2.2.2.2.1;omega
    have hlt2:¬(t1.k:Int)<(ops.length:Int):=by omega
    have t4:wr.cell? ⟨tb,i*8+4,none⟩=some (.int .i64 0):=by rw[t4,hp];rfl
    have HE:Aside (TRel s.ws.length ops t1 (advG SPl (ops.drop t.k) s ⟨t.k,none,t.ans.map SA.an⟩).2):=stl_done T1.out.2.2.2.1 T1.out.2.2.2.2.2 (.inr hge.symm)
    clear hlt hp hop htv hg hge hilt
    go_wp2
    go_region_held3 (fun u:World=>u.cell? ⟨B.mb,2,none⟩=some (.slice (some ⟨tb,0,none⟩) ts.length tc)∧u.cell? ⟨tb,i*8,none⟩=some (.slice oa ops.length oc)∧u.cell? ⟨tb,i*8+3,none⟩=some (.int .i64 t1.k)∧u.cell? ⟨tb,i*8+4,none⟩=some (.int .i64 0))
     (first|exact⟨m2,t0,t3,t4⟩|go_keep)
     (fail)
    all_goals(
     go_wp2
     go_end0
     exact⟨rfl,⟨t1,T1.out.1.heap rfl,T1.out.2.2.1,HE.out⟩,T1.out.2.1.heap rfl⟩)
  ·have hne:¬(t1.pc:Int)=0:=by omega
   have HE:Aside (TRel s.ws.length ops t1 (advG SPl (ops.drop t.k) s ⟨t.k,none,t.ans.map SA.an⟩).2):=stl_done T1.out.2.2.2.1 T1.out.2.2.2.2.2 (.inl hp)
   clear hop htv hg hilt
   go_wp2
   go_quiet (fail)
   all_goals(
    go_wp2
    go_end0
    exact⟨rfl,⟨t1,T1.out.1.heap rfl,T1.out.2.2.1,HE.out⟩,T1.out.2.1.heap rfl⟩)
end
end
section
variable{w w':World}{b0:Nat}{B:R8B}{s:SSt}{ts:List R8T}
section
variable{i:Nat}{t:R8T}
theorem settle8n(h:R8A w b0 B s ts)(ht:ts[i]? =some t)(hpc:t.pc≠0):
 Calls Try.prog 83 #[.pointer (some ⟨B.mb,0,none⟩),.int .i64 i] w fun e w'=>e= .returned (.tuple #[])∧w'.heap=w.heap:=by
 have hilt:=(List.getElem?_eq_some_iff.1 ht).1
 have hilt2:(i:Int)<(ts.length:Int):=by omega
 have E:Aside (R8A w b0 B s ts):=h
 clear h
 go_enter Try.func83,Try.ntmps83
 go_wp2
 go_loopg [] 0 (fun g wr=>wr.heap=w.heap)
 case atStart=>rfl
 case round=>
  have hA:=E.out.heap hrel
  obtain⟨tb,tc,htv,m0,m1,m2,zm,t0,x1,t3,t4,t5,t6,t7,zt,mt,wt,htb⟩:=hA.fx ht
  have hne:¬(t.pc:Int)=0:=by omega
  have R:Aside (wr.heap=w.heap):=hrel
  clear htv m0 m1 zm x1 t5 t6 t7 zt wt htb hA hrel ht hilt
  go_wp2
  go_quiet (fail)
  all_goals(
   go_wp2
   go_end0
   exact⟨rfl,R.out⟩)
end
theorem left8(h:R8A w b0 B s ts)(hn:ts.length≤64):
 Calls Try.prog 85 #[.pointer (some ⟨B.mb,0,none⟩)] w fun e w'=>e= .returned (.bool (decide (∃t∈ts,t.pc≠0)))∧w'.heap=w.heap:=by
 have m2:w.cell? ⟨B.mb,2,none⟩=some B.tv:=by have:=h.o;simp[World.cell?,this]
 have E:Aside (R8A w b0 B s ts):=h
 obtain⟨ta,tc,htv⟩:∃ta tc,B.tv= .slice ta ts.length tc:=by
  rcases h.row.2 with⟨e,h1⟩|⟨g,cap,cur,e,_⟩
  ·exact⟨none,0,by rw[e,h1]⟩
  ·exact⟨_,_,e⟩
 rw[htv]at m2
 clear h
 go_enter Try.func85,Try.ntmps85
 go_wp2
 go_loopg [3] ts.length (fun g i wr=>∃k:Nat,k≤ts.length∧i= .int .i64 k∧g=ts.length - k∧wr.heap=w.heap∧∀(j:Nat) t,j<k→ts[j]? =some t→t.pc=0)
 case atStart=>exact⟨0,Nat.zero_le _,rfl,rfl,rfl,fun j t h=>by omega⟩
 case round=>
  obtain⟨k,hk,rfl,rfl,hw,hz⟩:=hrel
  have R:Aside (wr.heap=w.heap∧∀(j:Nat) t,j<k→ts[j]? =some t→t.pc=0):=⟨hw,hz⟩
  have hA:=E.out.heap hw
  have m2:wr.cell? ⟨B.mb,2,none⟩=some (.slice ta ts.length tc):=by rw[cell_hp2 hw];exact m2
  clear hz hw
  rcases Nat.lt_or_ge k ts.length with hlt|hge
  ·have hlt2:(k:Int)<(ts.length:Int):=by omega
   obtain⟨t,ht⟩:∃t,ts[k]? =some t:=⟨_,List.getElem?_eq_getElem hlt⟩
   obtain⟨tb,tc',htv',m0,m1,m2',zm,t0,x1,t3,t4,t5,t6,t7,zt,mt,wt,htb⟩:=hA.fx ht
   rw[htv]at htv'
   cases htv'
   have hwr:IntKind.i64.wrap ((k:Int)+1)=(k:Int)+1:=IntWalk.i64_in _ (by omega)
   have HT:Aside (ts[k]? =some t):=ht
   clear m0 m1 zm x1 t5 t6 t7 zt wt htb hA ht t0 t3 m2' htv
   by_cases hp:t.pc=0
   ·replace t4:wr.cell? ⟨tb,k*8+4,none⟩=some (.int .i64 0):=by rw[t4,hp];rfl
    have HP:Aside (t.pc=0):=hp
    clear hp
    go_wp2
    go_roundg (ts.length - (k+1))
    case measure=>omega
    case rel=>
     refine⟨k+1,hlt,rfl,rfl,R.out.1,fun j u hj hu=>?_⟩
     by_cases e:j=k
     ·subst e;rw[HT.out]at hu;cases hu;exact HP.out
     ·exact R.out.2 j u (by omega) hu
   ·have hp2:(0:Int)<(t.pc:Int):=by omega
    have HP:Aside (t.pc≠0):=hp
    clear hp
    go_wp2
    go_ret
    refine⟨?_,R.out.1⟩
    have hx:∃t∈ts,t.pc≠0:=⟨t,List.mem_of_getElem? HT.out,HP.out⟩
    rw[decide_eq_true hx]
    try rfl
  ·have hge2:¬(k:Int)<(ts.length:Int):=by omega
   have HZ:Aside (¬∃t∈ts,t.pc≠0):=fun⟨t,ht,hp⟩=>by
    obtain⟨j,hj⟩:=mem_get ht
    exact hp (R.out.2 j t (by have:=(List.getElem?_eq_some_iff.1 hj).1;omega) hj)
   clear hA htv
   go_wp2
   go_ret
   refine⟨?_,R.out.1⟩
   rw[decide_eq_false HZ.out]
   try rfl
end
section
variable{w w':World}{b0:Nat}{B:R8B}{s:SSt}{ts:List R8T}
theorem cells8{g n cap:Nat}{xs:List Value}(h:w.ownsRow 0 2 1 (.slice (some ⟨g,0,none⟩) n cap) n xs):∀(j:Nat) (u:Value),xs[j]? =some u→w.cell? ((⟨g,0,none⟩:Addr).add j)=some u:=by
 intro j u hj
 obtain⟨b,cap',e,hc⟩:=row_get h hj
 cases e
 have e1:(⟨g,0,none⟩:Addr).add j=⟨g,j,none⟩:=by
  unfold Addr.add
  split
  ·subst_vars;rfl
  ·simp
 rw[e1]
 exact hc.c
theorem row_one8{X:World}{v:Int}:(X.alloc (.cells #[.int .i64 v] 2)).ownsRow 0 2 1 (.slice (some ⟨X.heap.size,0,none⟩) 1 1) 1 [.int .i64 v]:=
 ⟨rfl,.inr ⟨_,1,#[.int .i64 v],rfl,Nat.zero_le _,heap_alloc_new _ _,Nat.le_refl _,by unfold maxLen;omega,rfl,rfl⟩⟩
theorem state8(h:R8A w b0 B s ts):
 Calls Try.prog 86 #[.pointer (some ⟨B.mb,0,none⟩)] w fun e w'=>∃v,e= .returned v∧w'.ownsRow 0 2 1 v (SSt.state s).length ((SSt.state s).map fun v=>.int .i64 v)∧w.heap.size≤w'.heap.size∧(∀r,r<w.heap.size→w'.heap[r]? =w.heap[r]?)∧∀r,v.ownBlock=some r→w.heap.size≤r:=by
 obtain⟨i0,z0,hi,hz0,hz1,hz2,hz3⟩:=infoA2
 have hn16:=h.wf.n2
 have m0:w.cell? ⟨B.mb,0,none⟩=some (.int .i64 s.ver):=by have:=h.o;simp[World.cell?,this]
 have m1:w.cell? ⟨B.mb,1,none⟩=some (.slice (some ⟨B.wb,0,none⟩) s.ws.length B.wc):=by have:=h.o;simp[World.cell?,this]
 have p1:=(cellB_alloc m1 (.cells #[.int .i64 s.ver] 2)).1
 have hrow:(w.alloc (.cells #[.int .i64 s.ver] 2)).ownsRow 0 2 1 (.slice (some ⟨w.heap.size,0,none⟩) 1 1) 1 [.int .i64 s.ver]:=row_one8
 have hcl:=cells8 (World.ownsRow.alloc h.wds (.cells #[.int .i64 s.ver] 2))
 have HO:Aside (∀r,r<w.heap.size→(w.alloc (.cells #[.int .i64 s.ver] 2)).heap[r]? =w.heap[r]?):=fun r hr=>heap_alloc_lt _ _ hr
 clear h
 go_enter Try.func86,Try.ntmps86
 go_wp2_with (at_builtin;refine wpList_append_fresh rfl (.tmp 9) (.tmp 13) 22 rfl 2 i0 z0 1 8 Try.underlying22 hi hz0 hz1 hz2 hz3 (by decide) (.slice (some ⟨w.heap.size,0,none⟩) 1 1) 1 [.int .i64 s.ver] rfl hrow ⟨B.wb,0,none⟩ s.ws.length B.wc (s.ws.map fun v=>.int .i64 v) rfl (by simp) hcl (by intro u hu;obtain⟨x,_,rfl⟩:=List.mem_map.1 hu;rfl) (by unfold maxLen;omega) (by omega) ?_;intro v' w3 hown hgrow hfr;have F:Aside (w3.ownsRow 0 2 1 v' (1+s.ws.length) ([.int .i64 s.ver]++s.ws.map fun v=>.int .i64 v)∧(w.alloc (.cells #[.int .i64 s.ver] 2)).grownBy w3 (some w.heap.size)∧(v'.ownBlock=some w.heap.size∨∃g,v'.ownBlock=some g∧(w.alloc (.cells #[.int .i64 s.ver] 2)).heap.size≤g)):=⟨hown,hgrow,hfr⟩;clear hown hgrow hfr)
 all_goals(
  go_ret
  obtain⟨f1,f2,f3⟩:=F.out
  refine⟨_,rfl,?_,?_,fun r hr=>?_,fun r hr=>?_⟩
  ·have e:(SSt.state s).length=1+s.ws.length:=by simp[SSt.state];omega
   rw[e]
   exact f1
  ·have:=f2.size
   have e:(w.alloc (.cells #[.int .i64 s.ver] 2)).heap.size=w.heap.size+1:=by simp
   omega
  ·exact(f2.block r (by simp;omega) (by intro e;cases e;omega)).trans (HO.out r hr)
  ·have hr:v'.ownBlock=some r:=hr
   rcases f3 with e|⟨g,e,hg⟩
   ·rw[e]at hr;cases hr;exact Nat.le_refl _
   ·rw[e]at hr;cases hr
    have e:(w.alloc (.cells #[.int .i64 s.ver] 2)).heap.size=w.heap.size+1:=by simp
    omega)
end
section
variable{w w':World}
structure N8(w wr:World)(wv:Value)(xs:List Int):Prop where
 o:wr.heap[w.heap.size]? =some (.cells #[.int .i64 0,wv,.slice none 0 0] 147 (0,0))
 row:wr.ownsRow 0 2 1 wv xs.length (xs.map fun v=>.int .i64 v)
 size:w.heap.size<wr.heap.size
 old:∀r,r<w.heap.size→wr.heap[r]? =w.heap[r]?
 new:∀r,wv.ownBlock=some r→w.heap.size≤r
theorem N8.heap{u:World}{wv:Value}{xs:List Int}(h:N8 w u wv xs)(e:w'.heap=u.heap):N8 w w' wv xs:=⟨by rw[e];exact h.o,ownsRow_same2 h.row fun _ _ _=>by rw[e],by rw[e];exact h.size,fun r hr=>by rw[e];exact h.old r hr,h.new⟩
theorem N8.start:N8 w (w.alloc (.cells #[.int .i64 0,.slice none 0 0,.slice none 0 0] 147)) (.slice none 0 0) []:=⟨heap_alloc_new _ _,⟨rfl,.inl ⟨rfl,rfl⟩⟩,by simp,fun r hr=>heap_alloc_lt _ _ hr,fun r hr=>by cases hr⟩
theorem N8.more{wr w3 u:World}{wv v':Value}{xs:List Int}{x:Int}(h:N8 w wr wv xs)(hown:w3.ownsRow 0 2 1 v' (xs.length+1) ((xs.map fun v=>.int .i64 v)++[.int .i64 x]))(hold:∀r,r<wr.heap.size→some r≠wv.ownBlock→w3.heap[r]? =wr.heap[r]?)(hsz:wr.heap.size≤w3.heap.size)(hfr:v'.ownBlock=wv.ownBlock∨∃g,v'.ownBlock=some g∧wr.heap.size≤g)(hu:u.heap=(w3.setCell ⟨w.heap.size,1,none⟩ v').heap):N8 w u v' (xs++[x]):=by
 have hs:=h.size
 have hne:some w.heap.size≠wv.ownBlock:=fun e=>by obtain⟨c,hc⟩:=row_blk h.row e.symm;exact heap_ty hc h.o (by decide) rfl
 have h3:w3.heap[w.heap.size]? =some (.cells #[.int .i64 0,wv,.slice none 0 0] 147 (0,0)):=(hold _ (by omega) hne).trans h.o
 have e1:∀r,r≠w.heap.size→u.heap[r]? =w3.heap[r]?:=fun r hr=>by rw[hu,heap_setCell_ne _ _ _ hr]
 have hn:∀r,v'.ownBlock=some r→w.heap.size≤r:=fun r hr=>by
  rcases hfr with e|⟨g,e,hg⟩
  ·exact h.new r (e ▸ hr)
  ·rw[e]at hr;cases hr;omega
 refine⟨by rw[hu,heap_set_eq h3];simp,?_,by rw[hu,World.size_setCell];omega,fun r hr=>?_,hn⟩
 ·have hown2:w3.ownsRow 0 2 1 v' (xs++[x]).length ((xs++[x]).map fun v=>.int .i64 v):=by simpa using hown
  refine ownsRow_same2 hown2 fun b hb _=>e1 b fun e=>?_
  obtain⟨c,hc⟩:=row_blk hown2 hb
  exact heap_ty hc h3 (by decide) e
 ·have:some r≠wv.ownBlock:=fun e=>by have:=h.new r e.symm;omega
  exact(e1 r (by omega)).trans ((hold r (by omega) this).trans (h.old r hr))
theorem N8.done{wr:World}{wv:Value}{xs:List Int}(h:N8 w wr wv xs)(h1:0<xs.length)(h2:xs.length≤16):∃B:R8B,B.mb=w.heap.size∧B.tv= .slice none 0 0∧R8A wr w.heap.size B ⟨0,xs⟩ []:=by
 rcases h.row.2 with⟨_,h0⟩|⟨g,cap,cur,rfl,_⟩
 ·omega
 ·exact⟨⟨w.heap.size,g,cap,.slice none 0 0⟩,rfl,rfl,⟨h1,h2⟩,h.o,h.row,⟨rfl,.inl ⟨rfl,rfl⟩⟩,fun t ht=>by simp at ht,fun i j t u ht=>by simp at ht,fun t ht=>by simp at ht,Nat.le_refl _,h.new g rfl,fun r hr=>(by cases hr),fun t ht=>by simp at ht⟩
theorem n8_ws{vs:List Int}{k:Nat}(hk:k=16)(hl:k≤vs.length):vs.take k=(snew vs).ws∧0<(vs.take k).length:=by
 subst hk
 refine⟨?_,by simp;omega⟩
 apply List.ext_getElem
 ·simp[snew];omega
 ·intro i h1 h2
  have hi:i<vs.length:=by simp at h1;omega
  simp[snew,List.getD_eq_getElem?_getD,List.getElem?_eq_getElem hi]
theorem n8_ws2{vs:List Int}(hl:vs.length<16)(h0:0<vs.length):vs=(snew vs).ws:=by
 apply List.ext_getElem
 ·simp[snew];omega
 ·intro i h1 h2
  simp[snew,List.getD_eq_getElem?_getD,List.getElem?_eq_getElem h1]
theorem new8{va:Option Addr}{vc:Nat}{vs:List Int}(hv:RRow w va (vs.map fun v=>.int .i64 v))(hvl:vs.length<9223372036854775808):
 Calls Try.prog 50 #[.slice va vs.length vc] w fun e w'=>e= .returned (.pointer (some ⟨w.heap.size,0,none⟩))∧(∃B:R8B,B.mb=w.heap.size∧B.tv= .slice none 0 0∧R8A w' w.heap.size B (snew vs) [])∧Stay w.heap.size w w':=by
 obtain⟨i0,z0,hi,hz0,hz1,hz2,hz3⟩:=infoA2
 have V:Aside (RRow w va (vs.map fun v=>.int .i64 v)):=hv
 have N0:Aside (N8 w (w.alloc (.cells #[.int .i64 0,.slice none 0 0,.slice none 0 0] 147)) (.slice none 0 0) []):=N8.start
 clear hv
 go_enter Try.func50,Try.ntmps50
 go_wp2
 go_loopg [4] (min vs.length 16) (fun g i wr=>∃(k:Nat) (wv:Value),k≤min vs.length 16∧i= .int .i64 k∧g=min vs.length 16 - k∧N8 w wr wv (vs.take k)∧(k=0→wv= .slice none 0 0))
 case atStart=>exact⟨0,_,Nat.zero_le _,rfl,rfl,N0.out,fun _=>rfl⟩
 case round=>
  obtain⟨k,wv,hk,rfl,hg,hN,hwz⟩:=hrel
  have R:Aside (N8 w wr wv (vs.take k)):=hN
  have G:Aside _:=hg
  have m1:wr.cell? ⟨w.heap.size,1,none⟩=some wv:=by have:=hN.o;simp[World.cell?,this]
  have mz:wr.frozen? ⟨w.heap.size,1,none⟩=false:=by have:=hN.o;simp[World.frozen?,this]
  have hml:=hN.size
  clear hg
  by_cases hlt:k<vs.length
  ·have hlt1:(k:Int)<(vs.length:Int):=by omega
   by_cases h16:k<16
   ·have hlt2:(k:Int)<16:=by omega
    have hwr:IntKind.i64.wrap ((k:Int)+1)=(k:Int)+1:=IntWalk.i64_in _ (by omega)
    obtain⟨vb,vo,rfl,f0⟩:=(V.out.olds hN.old).c k (.int .i64 vs[k]) (by simp[hlt])
    have htl:(vs.take k).length=k:=by simp;omega
    have hrow:wr.ownsRow 0 2 1 wv k ((vs.take k).map fun v=>.int .i64 v):=by have:=hN.row;rwa [htl]at this
    have hma:some w.heap.size≠wv.ownBlock:=fun e=>by obtain⟨c,hc⟩:=row_blk hrow e.symm;exact heap_ty hc hN.o (by decide) rfl
    have hvb:vb<w.heap.size:=by
     obtain⟨b,o,e1,e2⟩:=V.out.c k (.int .i64 vs[k]) (by simp[hlt])
     cases e1
     exact cell_low e2
    have hva:some vb≠wv.ownBlock:=fun e=>by have:=hN.new vb e.symm;omega
    have T:Aside (k<vs.length∧(vs.take k).length=k):=⟨hlt,htl⟩
    generalize hx:vs[k]=x at f0
    have X:Aside (vs[k]? =some x):=by rw[← hx];exact List.getElem?_eq_getElem hlt
    generalize hl:vs.take k=l at hrow
    have L:Aside (vs.take k=l):=hl
    have hvbw:vb<wr.heap.size:=by omega
    clear hlt h16 htl hN hl hx hk
    go_wp2
    go_region_law (refine step_append_fresh rfl (.tmp 21) (.tmp 26) 22 rfl 2 i0 z0 1 8 Try.underlying22 hi hz0 hz1 hz2 hz3 (by decide) wv k (l.map fun v=>.int .i64 v) (by simp[Act.eval,Act.put]) ((show wr.drew.ownsRow 0 2 1 _ _ _ from hrow).alloc _) ⟨wr.heap.size,0,none⟩ 1 1 [.int .i64 x] (by simp[Act.eval,Act.put]) rfl (new_cells (X:=wr.drew) (l:=[.int .i64 x]) rfl) (by intro u hu;simp at hu;subst hu;rfl) (by unfold maxLen;omega) (by omega) ?_;intro v' w3 hown hgrow hfr;obtain⟨g,cap,rfl⟩:=own_slice hown;have hk2:=grown_old (W:=wr.drew) hgrow (r:=w.heap.size) hml hma;have k1:=(cell_heap (j:=1) hk2).1.trans m1;have kz:=(cell_heap (j:=1) hk2).2.trans mz;have k3:=(cell_heap (j:=vo+k) (grown_old (W:=wr.drew) hgrow (r:=vb) hvbw hva)).1.trans f0;have F:Aside (w3.ownsRow 0 2 1 (.slice (some ⟨g,0,none⟩) (k+1) cap) (k+1) ((l.map fun v=>.int .i64 v)++[.int .i64 x])∧(∀r,r<wr.heap.size→some r≠wv.ownBlock→w3.heap[r]? =wr.heap[r]?)∧wr.heap.size≤w3.heap.size∧((Value.slice (some ⟨g,0,none⟩) (k+1) cap).ownBlock=wv.ownBlock∨∃g',(Value.slice (some ⟨g,0,none⟩) (k+1) cap).ownBlock=some g'∧wr.heap.size≤g')):=⟨hown,fun r hr hn=>grown_old (W:=wr.drew) hgrow hr hn,Nat.le_trans (by simp[World.drew]) hgrow.size,hfr.imp id fun⟨g',h1,h2⟩=>⟨g',h1,Nat.le_trans (by simp[World.drew]) h2⟩⟩;clear hgrow hfr hk2 hown)
    all_goals go_wp2
    all_goals(
     go_roundg (min vs.length 16 - (k+1))
     case measure=>rw[G.out];have:=T.out.1;omega
     case rel=>
      obtain⟨f1,f2,f3,f4⟩:=F.out
      have hN:=R.out
      rw[L.out]at hN
      have hl:l.length=k:=by rw[← L.out];exact T.out.2
      have f1':w3.ownsRow 0 2 1 (.slice (some ⟨g,0,none⟩) (k+1) cap) (l.length+1) ((l.map fun v=>.int .i64 v)++[.int .i64 x]):=by rw[hl];exact f1
      have h5:=hN.more (u:=w3.setCell ⟨w.heap.size,1,none⟩ (.slice (some ⟨g,0,none⟩) (k+1) cap)) f1' f2 f3 f4 rfl
      have e:vs.take (k+1)=l++[x]:=by rw[List.take_add_one,X.out,L.out];rfl
      exact⟨k+1,_,by have:=T.out.1;omega,rfl,rfl,by rw[e];exact h5.heap rfl,fun h=>by omega⟩)
   ·have h16':¬(k:Int)<16:=by omega
    have hk16:k=16:=by omega
    have Z:Aside (vs.take k=(snew vs).ws∧0<(vs.take k).length∧(vs.take k).length≤16):=⟨(n8_ws hk16 (by omega)).1,(n8_ws hk16 (by omega)).2,by rw[List.length_take];omega⟩
    have hl0:(vs.take k).length=k:=by simp;omega
    have hrow:=hN.row
    rw[hl0]at hrow
    obtain⟨g0,c0,e0⟩:∃g0 c0,wv= .slice (some ⟨g0,0,none⟩) k c0:=by
     rcases hrow.2 with⟨_,h0⟩|⟨b,cap,cur,e,_⟩
     ·omega
     ·exact⟨_,_,e⟩
    subst e0
    have hk0:¬(k:Int)=0:=by omega
    have hk0':¬k=0:=by omega
    clear hN hrow hlt h16 hk16 hl0 hk
    go_wp2
    go_ret
    obtain⟨B,b1,b2,b3⟩:=R.out.done Z.out.2.1 Z.out.2.2
    have e:snew vs=⟨0,vs.take k⟩:=by rw[Z.out.1];rfl
    exact⟨rfl,⟨B,b1,b2,by rw[e];exact b3.heap rfl⟩,(⟨Nat.le_of_lt R.out.size,R.out.old,fun r c y z q e=>R.out.old r (alt e)⟩:Stay w.heap.size w wr).heap rfl⟩
  ·have hkl:k=vs.length:=by omega
   have hlt':¬(k:Int)<(vs.length:Int):=by omega
   by_cases h0:k=0
   ·have hrow:=hN.row
    rw[h0]at hrow
    have e0:wv= .slice none 0 0:=hwz h0
    subst e0
    have hvs:vs=[]:=List.length_eq_zero_iff.1 (by omega)
    have hz1:=cellB_alloc m1 (.cells #[.int .i64 0] 2)
    have y1:=hz1.1
    clear hN hrow hlt hk hwz hkl hlt' hz1
    subst h0
    subst hvs
    go_wp2
    go_ret
    have h5:=R.out.more (w3:=wr.alloc (.cells #[.int .i64 0] 2)) (x:=0) (u:=(wr.alloc (.cells #[.int .i64 0] 2)).setCell ⟨w.heap.size,1,none⟩ (.slice (some ⟨wr.heap.size,0,none⟩) 1 1)) row_one8 (fun r hr _=>heap_alloc_lt _ _ hr) (by simp) (.inr ⟨_,rfl,Nat.le_refl _⟩) rfl
    obtain⟨B,b1,b2,b3⟩:=h5.done (by simp) (by simp)
    have hcm:((wr.setCell ⟨w.heap.size,1,none⟩ (.slice (some ⟨wr.heap.size,0,none⟩) 1 1)).alloc (.cells #[.int .i64 0] 2)).heap=((wr.alloc (.cells #[.int .i64 0] 2)).setCell ⟨w.heap.size,1,none⟩ (.slice (some ⟨wr.heap.size,0,none⟩) 1 1)).heap:=by
     have hlt:w.heap.size<wr.heap.size:=R.out.size
     go_simp
    exact⟨rfl,⟨B,b1,b2,b3.heap hcm⟩,(⟨Nat.le_of_lt h5.size,h5.old,fun r c y z q e=>h5.old r (alt e)⟩:Stay w.heap.size w _).heap hcm⟩
   ·have Z:Aside (vs.take k=(snew vs).ws∧0<(vs.take k).length∧(vs.take k).length≤16):=by
     rw[hkl,List.take_length]
     have hle:vs.length≤16:=by omega
     refine⟨?_,by omega,hle⟩
     by_cases h:vs.length<16
     ·exact n8_ws2 h (by omega)
     ·have:=(n8_ws (vs:=vs) (k:=vs.length) (by omega) (Nat.le_refl _)).1
      rwa [List.take_length]at this
    have hl0:(vs.take k).length=k:=by simp;omega
    have hrow:=hN.row
    rw[hl0]at hrow
    obtain⟨g0,c0,e0⟩:∃g0 c0,wv= .slice (some ⟨g0,0,none⟩) k c0:=by
     rcases hrow.2 with⟨_,h0⟩|⟨b,cap,cur,e,_⟩
     ·omega
     ·exact⟨_,_,e⟩
    subst e0
    have hk0:¬(k:Int)=0:=by omega
    clear hN hrow hlt hl0 hk hkl
    go_wp2
    go_ret
    obtain⟨B,b1,b2,b3⟩:=R.out.done Z.out.2.1 Z.out.2.2
    have e:snew vs=⟨0,vs.take k⟩:=by rw[Z.out.1];rfl
    exact⟨rfl,⟨B,b1,b2,by rw[e];exact b3.heap rfl⟩,(⟨Nat.le_of_lt R.out.size,R.out.old,fun r c y z q e=>R.out.old r (alt e)⟩:Stay w.heap.size w wr).heap rfl⟩
end
section
variable{w w':World}{b0:Nat}{B:R8B}{s:SSt}{ts:List R8T}
def SOut(w':World)(b0:Nat)(B:R8B)(ts:List R8T)(i:Nat)(t:R8T)(n:Nat)(o:Op4)(r:SSt×SRs):Prop:=match r.2 with
 | .inl c'=>∃t',R8A w' b0 B r.1 (ts.set i t')∧t'.op=t.op∧t'.k=t.k∧t'.ans=t.ans∧SRel n o t' c'
 | .inr a=>∃t',R8A w' b0 B r.1 (ts.set i t')∧t'.op=t.op∧t'.k=t.k+1∧t'.ans.map SA.an=t.ans.map SA.an++[a]∧t'.ans.length=t.ans.length+1∧t'.pc=0
section
variable{i:Nat}{t t1:R8T}{n:Nat}{o:Op4}{c:SCl}
theorem again_out(h:FO w' b0 B s ts i t1)(hkd:(c.kd:Int)=o.kd)(hk:1≤c.kd∧c.kd≤3)(htr:t1.tr=(c.T:Int) - c.r∧c.r<c.T∧c.T≤1024)(hvs:c.kd≤2→c.vs=opVals n o.b o.c)(e1:t1.op=t.op)(e2:t1.k=t.k)(e3:t1.ans=t.ans):SOut w' b0 B ts i t n o (s.again c):=by
 unfold FO at h
 unfold SSt.again
 by_cases hlt:c.r+1<c.T
 ·rw[if_neg (by omega)]at h
  rw[if_pos hlt]
  refine⟨t1.again,h,e1,e2,e3,?_⟩
  constructor<;>simp[R8T.again]<;>first|omega|exact hkd|exact hvs|(intros;omega)|(intro h;exact hvs h)
 ·rw[if_pos (by omega)]at h
  rw[if_neg hlt]
  obtain⟨av',h⟩:=h
  exact⟨_,h,e1,by simp only[R8T.fin,R8T.again];omega,by simp[R8T.fin,R8T.again,e3,noA],by simp[R8T.fin,R8T.again,e3],rfl⟩
theorem opVals_get{n i:Nat}{b c:Int}(h:i<n):(opVals n b c).getD i 0=w64 (b+w64 (i*c)):=by
 simp[opVals,List.getD_eq_getElem?_getD,h]
theorem set_set8{ts:List R8T}{i:Nat}{a b:R8T}{X:List R8T→Prop}(h:X ((ts.set i a).set i b)):X (ts.set i b):=by rwa [List.set_set]at h
theorem write8_all(h:R8A w b0 B s (ts.set i {t with pc:=t.pc+1}))(hi:i<ts.length)(hr:SRel s.ws.length o t c)(hk:c.kd≤2)(hl:t.ans.length<100000000)(hkk:t.k<100000000):
 Calls Try.prog 105 #[.pointer (some ⟨B.mb,0,none⟩),.int .i64 i,.agg #[.int .i64 o.kd,.int .i64 o.a,.int .i64 o.b,.int .i64 o.c],.int .i64 t.pc] w fun e w'=>e= .returned (.tuple #[])∧(SOut w' b0 B ts i t s.ws.length o (s.step c)∧Stay b0 w w'):=by
 have ht:(ts.set i {t with pc:=t.pc+1})[i]? =some {t with pc:=t.pc+1}:=by simp[List.getElem?_set,hi]
 have hst:s.step c=s.wstep c:=by unfold SSt.step;rw[if_pos (by have:=hr.kr;omega)]
 have hn:=h.wf.n1
 have htr:=hr.tr (by omega)
 have hph:=hr.ph hk
 have hkr:=hr.kr
 rw[hst]
 unfold SSt.wstep
 have hp4:c.ph=0∨c.ph=1∨c.ph=2∨c.ph=3:=by omega
 rcases hp4 with hp|hp|hp|hp
 ·rw[if_pos hp]
  have hpc:=hr.p0 (by omega) hp
  have e:(t.pc:Int)=1:=by omega
  rw[e]
  by_cases hv:s.ver.tmod 2=0
  ·rw[if_pos hv]
   refine(write8_e h ht hv).mono fun e u ⟨k1,k2,k3⟩=>⟨k1,⟨tv1 {t with pc:=t.pc+1} s.ver,set_set8 (X:=fun l=>R8A u b0 B s l) k2,rfl,rfl,rfl,?_⟩,k3⟩
   have:=hr.so
   have:=hr.ol
   have:=hr.vs
   have:=hr.kd
   constructor<;>simp[tv1]<;>first|omega|assumption|(intros;omega)
  ·rw[if_neg hv]
   refine(write8_o h ht hv (by simp only;omega) hl hkk).mono fun e u ⟨k1,k2,k3⟩=>⟨k1,again_out (t1:=tv1 {t with pc:=t.pc+1} s.ver) (by unfold FO at k2 ⊢;simpa only[List.set_set]using k2) hr.kd (by omega) htr hr.vs rfl rfl rfl,k3⟩
 ·rw[if_neg (by omega),if_pos hp]
  have hpc:=hr.p1 hk hp
  have e:(t.pc:Int)=2:=by omega
  have hv0:=hr.v (by omega) (by omega)
  rw[e]
  by_cases hv:s.ver=c.v
  ·rw[if_pos hv]
   refine(write8_l h ht (by rw[hv];exact hv0.symm)).mono fun e u ⟨k1,k2,k3⟩=>⟨k1,⟨{t with pc:=t.pc+1},by rw[← hv];exact k2,rfl,rfl,rfl,?_⟩,k3⟩
   have:=hr.so
   have:=hr.ol
   have:=hr.vs
   have:=hr.kd
   constructor<;>simp<;>first|omega|assumption|(intros;omega)
  ·rw[if_neg hv]
   refine(write8_f h ht (by simp only;rw[hv0];exact hv) (by simp only;omega) hl hkk).mono fun e u ⟨k1,k2,k3⟩=>⟨k1,again_out (t1:={t with pc:=t.pc+1}) (by unfold FO at k2 ⊢;simpa only[List.set_set]using k2) hr.kd (by omega) htr hr.vs rfl rfl rfl,k3⟩
 ·rw[if_neg (by omega),if_neg (by omega),if_pos hp]
  obtain⟨hpc,hin⟩:=hr.p2 hk hp
  have e:(t.pc:Int)=(c.i:Int)+3:=by omega
  have hvs:=hr.vs hk
  have hval:c.vs.getD c.i 0=w64 (o.b+w64 (c.i*o.c)):=by rw[hvs];exact opVals_get hin
  have hv0:=hr.v (by omega) (by omega)
  have hsl:∀v,(s.ws.set c.i v).length=s.ws.length:=fun v=>List.length_set
  have key:∀u,R8A u b0 B {s with ws:=s.ws.set c.i (oneW c.kd (s.ws.getD c.i 0) (c.vs.getD c.i 0))} (ts.set i {t with pc:=t.pc+1})→SOut u b0 B ts i t s.ws.length o ({s with ws:=s.ws.set c.i (oneW c.kd (s.ws.getD c.i 0) (c.vs.getD c.i 0))},.inl (if c.i+1<s.ws.length then{c with i:=c.i+1}else{c with ph:=3})):=fun u hu=>by
   refine⟨{t with pc:=t.pc+1},hu,rfl,rfl,rfl,?_⟩
   have:=hr.so
   have:=hr.ol
   have:=hr.kd
   split
   ·constructor<;>simp<;>first|omega|assumption|(intros;omega)
   ·constructor<;>simp<;>first|omega|assumption|(intros;omega)
  have hkd:=hr.kd
  have hk12:c.kd=1∨c.kd=2:=by omega
  rcases hk12 with h1|h1
  ·refine(write8_w1 (a:=o.a) (b:=o.b) (c:=o.c) (kd:=o.kd) h ht e hin (by omega)).mono fun e u ⟨k1,k2,k3⟩=>⟨k1,key u ?_,k3⟩
   rw[hval,oneW,if_pos h1]
   exact k2
  ·refine(write8_w2 (a:=o.a) (b:=o.b) (c:=o.c) (kd:=o.kd) h ht e hin (by omega)).mono fun e u ⟨k1,k2,k3⟩=>⟨k1,key u ?_,k3⟩
   rw[hval,oneW,if_neg (by omega),Int.add_comm]
   exact k2
 ·rw[if_neg (by omega),if_neg (by omega),if_neg (by omega)]
  have hpc:=hr.p3 hk hp
  have hv0:=hr.v (by omega) (by omega)
  refine(write8_z (a:=o.a) (b:=o.b) (c:=o.c) (kd:=o.kd) h ht (by omega) hl hkk).mono fun e u ⟨k1,⟨av',an,ha,k2⟩,k3⟩=>⟨k1,⟨R8T.fin {t with pc:=t.pc+1} av' an,?_,rfl,rfl,?_,?_,rfl⟩,k3⟩
  ·rw[← hv0]
   exact set_set8 (X:=fun l=>R8A u b0 B _ l) k2
  ·simp[R8T.fin,ha]
  ·simp[R8T.fin]
end
end
section
variable{w w':World}{b0:Nat}{B:R8B}{s:SSt}{ts:List R8T}
section
variable{i:Nat}{t t1:R8T}{n:Nat}{o:Op4}{c:SCl}
theorem read8_all(h:R8A w b0 B s (ts.set i {t with pc:=t.pc+1}))(hi:i<ts.length)(hr:SRel s.ws.length o t c)(hk:c.kd=3)(hl:t.ans.length<100000000)(hkk:t.k<100000000):
 Calls Try.prog 106 #[.pointer (some ⟨B.mb,0,none⟩),.int .i64 i,.int .i64 t.pc] w fun e w'=>e= .returned (.tuple #[])∧(SOut w' b0 B ts i t s.ws.length o (s.step c)∧Stay b0 w w'):=by
 have ht:(ts.set i {t with pc:=t.pc+1})[i]? =some {t with pc:=t.pc+1}:=by simp[List.getElem?_set,hi]
 have hst:s.step c=s.rstep c:=by unfold SSt.step;rw[if_neg (by omega),if_pos hk]
 have hn:=h.wf.n1
 have hn16:=h.wf.n2
 have htr:=hr.tr (by omega)
 have hph:=hr.qh hk
 have hso:=hr.so
 have hol:=hr.ol
 have hkd:=hr.kd
 rw[hst]
 unfold SSt.rstep
 have hp4:c.ph=0∨c.ph=1∨c.ph=2:=by omega
 rcases hp4 with hp|hp|hp
 ·rw[if_pos hp]
  have hpc:=hr.p0 (by omega) hp
  have e:(t.pc:Int)=1:=by omega
  rw[e]
  by_cases hv:s.ver.tmod 2=0
  ·rw[if_pos hv]
   have hso0:c.out=[]:=hr.s0 hk hp
   refine(read8_e h ht hv).mono fun e u ⟨k1,k2,k3⟩=>⟨k1,⟨tv1 {t with pc:=t.pc+1} s.ver,set_set8 (X:=fun l=>R8A u b0 B s l) k2,rfl,rfl,rfl,?_⟩,k3⟩
   rw[hso0]at hso
   constructor<;>simp[tv1]<;>first|omega|assumption|(intros;omega)
  ·rw[if_neg hv]
   refine(read8_o h ht hv (by simp only;omega) hl hkk).mono fun e u ⟨k1,k2,k3⟩=>⟨k1,again_out (t1:=tv1 {t with pc:=t.pc+1} s.ver) (by unfold FO at k2 ⊢;simpa only[List.set_set]using k2) hr.kd (by omega) htr hr.vs rfl rfl rfl,k3⟩
 ·rw[if_neg (by omega),if_pos hp]
  obtain⟨hpc,hin⟩:=hr.q1 hk hp
  have hoi:=hr.oi hk hp
  have hv0:=hr.v (by omega) (by omega)
  have e:(t.pc:Int)=(c.i:Int)+2:=by omega
  refine(read8_w (l:=c.out) h ht hso (by omega) e hin).mono fun e u ⟨k1,⟨sv',k2⟩,k3⟩=>⟨k1,⟨{t with pc:=t.pc+1,sv:=sv',so:=some (c.out++[s.ws.getD c.i 0])},set_set8 (X:=fun l=>R8A u b0 B s l) k2,rfl,rfl,rfl,?_⟩,k3⟩
  split
  ·constructor<;>simp<;>first|omega|assumption|(intros;omega)
  ·constructor<;>simp<;>first|omega|assumption|(intros;omega)
 ·rw[if_neg (by omega),if_neg (by omega)]
  have hpc:=hr.q2 hk hp
  have hv0:=hr.v (by omega) (by omega)
  by_cases hv:s.ver=c.v
  ·rw[if_pos hv]
   refine(read8_y (l:=c.out) h ht hso (by omega) (by simp only;rw[hv0];exact hv) hl hkk).mono fun e u ⟨k1,⟨av',an,ha,k2⟩,k3⟩=>⟨k1,⟨R8T.fin {t with pc:=t.pc+1} av' an,set_set8 (X:=fun l=>R8A u b0 B s l) k2,rfl,rfl,?_,?_,rfl⟩,k3⟩
   ·simp[R8T.fin,ha]
   ·simp[R8T.fin]
  ·rw[if_neg hv]
   refine(read8_n h ht (by omega) (by simp only;rw[hv0];exact hv) (by simp only;omega) hl hkk).mono fun e u ⟨k1,k2,k3⟩=>⟨k1,again_out (t1:={t with pc:=t.pc+1}) (by unfold FO at k2 ⊢;simpa only[List.set_set]using k2) hr.kd (by omega) htr hr.vs rfl rfl rfl,k3⟩
theorem step8_all{ops:List Op4}(h:R8A w b0 B s ts)(ht:ts[i]? =some t)(hO:OpsB w b0 t.op ops)(ho:ops[t.k]? =some o)(hr:SRel s.ws.length o t c)(hl:t.ans.length<100000000)(hk:t.k<100000000):
 Calls Try.prog 84 #[.pointer (some ⟨B.mb,0,none⟩),.int .i64 i] w fun e w'=>e= .returned (.tuple #[])∧(SOut w' b0 B ts i t s.ws.length o (s.step c)∧Stay b0 w w'):=by
 obtain⟨ob,oo,oc,hA⟩:=hO.c t.k o ho
 have hi:=(List.getElem?_eq_some_iff.1 ht).1
 have hn16:=h.wf.n2
 have hkd:=hr.kd
 have hkr:=hr.kr
 have hso:=hr.so
 have hol:=hr.ol
 have hpc:t.pc<100:=by
  have h1:=hr.p0;have h2:=hr.p1;have h3:=hr.p2;have h4:=hr.p3;have h5:=hr.q1;have h6:=hr.q2;have h7:=hr.r1;have h8:=hr.s1;have h9:=hr.ph;have h10:=hr.qh
  omega
 have hk5:c.kd≤2∨c.kd=3∨c.kd=4∨c.kd=5:=by omega
 rcases hk5 with h1|h1|h1|h1
 ·refine step8_w (P:=fun w'=>SOut w' b0 B ts i t s.ws.length o (s.step c)∧Stay b0 w w') h ht hA hpc (by omega) fun X hX hS=>?_
  exact(write8_all hX hi hr h1 hl hk).mono fun e u ⟨k1,k2,k3⟩=>⟨k1,k2,hS.trans k3⟩
 ·have e3:o.kd=3:=by omega
  rw[e3]at hA
  refine step8_r (P:=fun w'=>SOut w' b0 B ts i t s.ws.length o (s.step c)∧Stay b0 w w') h ht hA hpc fun X hX hS=>?_
  exact(read8_all hX hi hr h1 hl hk).mono fun e u ⟨k1,k2,k3⟩=>⟨k1,k2,hS.trans k3⟩
 ·have e4:o.kd=4:=by omega
  rw[e4]at hA
  obtain⟨hp,hin⟩:=hr.r1 h1
  have hoi:=hr.oi4 h1
  have hst:s.step c=if c.i+1<s.ws.length then(s,.inl {c with i:=c.i+1,out:=c.out++[s.ws.getD c.i 0]})else(s,.inr (true,0,c.out++[s.ws.getD c.i 0])):=by unfold SSt.step;rw[if_neg (by omega),if_neg (by omega),if_pos h1]
  rw[hst]
  by_cases hlt:c.i+1<s.ws.length
  ·rw[if_pos hlt]
   refine(step8_m (l:=c.out) (k:=c.i) h ht hA hpc hso (by omega) hp hin (by omega)).mono fun e u ⟨k1,⟨sv',k2⟩,k3⟩=>⟨k1,⟨_,k2,rfl,rfl,rfl,?_⟩,k3⟩
   constructor<;>simp<;>first|omega|assumption|(intros;omega)
  ·rw[if_neg hlt]
   refine(step8_l (l:=c.out) (k:=c.i) h ht hA hpc hso (by omega) hp hin (by omega) hl hk).mono fun e u ⟨k1,⟨sv',av',an,ha,k2⟩,k3⟩=>⟨k1,⟨_,k2,rfl,rfl,?_,?_,rfl⟩,k3⟩
   ·simp[R8T.fin,ha]
   ·simp[R8T.fin]
 ·have e5:o.kd=5:=by omega
  rw[e5]at hA
  have ha5:=hr.a h1
  have hst:s.step c=(s,.inr (decide (c.a<s.ver),s.ver,[])):=by unfold SSt.step;rw[if_neg (by omega),if_neg (by omega),if_neg (by omega)]
  rw[hst,ha5]
  by_cases hv:o.a<s.ver
  ·refine(step8_nt h ht hA hpc hv hl hk).mono fun e u ⟨k1,⟨av',an,ha,k2⟩,k3⟩=>⟨k1,⟨_,k2,rfl,rfl,?_,?_,rfl⟩,k3⟩
   ·simp[R8T.fin,ha,hv]
   ·simp[R8T.fin]
  ·refine(step8_nf h ht hA hpc hv hl hk).mono fun e u ⟨k1,⟨av',an,ha,k2⟩,k3⟩=>⟨k1,⟨_,k2,rfl,rfl,?_,?_,rfl⟩,k3⟩
   ·simp[R8T.fin,ha,hv]
   ·simp[R8T.fin]
end
end
section
variable{w w':World}{b0:Nat}{B:R8B}{s:SSt}{ts:List R8T}
structure R8S(w:World)(b0:Nat)(B:R8B)(k:Nat)(ops:Nat→List Op4)(g:GS SPl)(ts:List R8T):Prop where
 A:R8A w b0 B g.q ts
 T:∀(i:Nat) t,ts[i]? =some t→TRel (List.length (SSt.ws g.q)) (ops i) t (g.th i)∧OpsB w b0 t.op (ops i)
 n:ts.length=k
 L:∀(i:Nat),∀a∈GT.ans (g.th i),(a:SAn).2.2.length≤17
theorem begin_an{s s':SSt}{o:Op4}{a:SAn}(h:s.begin o=(s',.inr a)):a.2.2.length≤17:=by
 unfold SSt.begin at h
 repeat' split at h
 all_goals first|(cases h;done)|(cases h;exact Nat.zero_le _)
theorem advG_an:∀(l:List Op4) (q:SSt) (t:GT SPl),(∀a∈t.ans,(a:SAn).2.2.length≤17)→∀a∈(advG SPl l q t).2.ans,(a:SAn).2.2.length≤17
 | [],q,t,h=>h
 | o::l,q,t,h=>by
   obtain⟨q',r,e⟩:∃q' r,q.begin o=(q',r):=⟨_,_,rfl⟩
   cases r with
   | inl c=>rw[advG_inl e];exact h
   | inr a=>
     rw[advG_inr e]
     refine advG_an l _ _ fun b hb=>?_
     rcases List.mem_append.1 hb with hb|hb
     ·exact h b hb
     ·rw[List.mem_singleton.1 hb]
      exact begin_an e
theorem again_an{s s':SSt}{c:SCl}{a:SAn}(h:s.again c=(s',.inr a)):a.2.2.length≤17:=by
 unfold SSt.again at h
 split at h
 ·cases h
 ·cases h;exact Nat.zero_le _
theorem step_an{s s':SSt}{c:SCl}{a:SAn}(ho:c.out.length≤16)(h:s.step c=(s',.inr a)):a.2.2.length≤17:=by
 unfold SSt.step SSt.wstep SSt.rstep at h
 repeat' split at h
 all_goals first|(cases h;done)|exact again_an h|(cases h;first|exact Nat.zero_le _|(simp;omega))
section
variable{i k:Nat}{t:R8T}{ops:Nat→List Op4}{g:GS SPl}{c:SCl}{o:Op4}
theorem R8S.heap(h:R8S w b0 B k ops g ts)(e:w'.heap=w.heap):R8S w' b0 B k ops g ts:=
 ⟨h.A.heap e,fun i t ht=>⟨(h.T i t ht).1,(h.T i t ht).2.stay ((Stay.refl b0 w).heap e)⟩,h.n,h.L⟩
theorem TRel.pc{n:Nat}{l:List Op4}{t:R8T}{g:GT SPl}(h:TRel n l t g):t.pc≠0↔g.call.isSome=true:=by
 have h1:=h.call
 cases hc:g.call with
 | none=>rw[hc]at h1;simp[h1.1]
 | some c=>rw[hc]at h1;obtain⟨o,_,h2⟩:=h1;have:=h2.pcp;simp;omega
theorem R8S.pc(h:R8S w b0 B k ops g ts)(ht:ts[i]? =some t):t.pc≠0↔g.live i=true:=(h.T i t ht).1.pc
theorem R8S.left(h:R8S w b0 B k ops g ts):(∃t∈ts,t.pc≠0)↔0<cnt g.live k:=by
 rw[Nat.pos_iff_ne_zero,ne_eq,cnt_zero]
 constructor
 ·rintro⟨t,ht,hp⟩ hz
  obtain⟨i,hi⟩:=mem_get ht
  have h1:=(h.pc hi).1 hp
  rw[hz i (by have:=(List.getElem?_eq_some_iff.1 hi).1;have:=h.n;omega)]at h1
  cases h1
 ·intro hz
  apply Classical.byContradiction
  intro hn
  refine hz fun j hj=>?_
  obtain⟨t,ht⟩:∃t,ts[j]? =some t:=⟨_,List.getElem?_eq_getElem (by have:=h.n;omega)⟩
  cases hl:g.live j with
  | false=>rfl
  | true=>exact absurd ⟨t,List.mem_of_getElem? ht,(h.pc ht).2 hl⟩ hn
def TOut(w':World)(b0:Nat)(B:R8B)(ts:List R8T)(i:Nat)(op:Value)(n:Nat)(ops:List Op4)(r:SSt×GT SPl):Prop:=∃t',R8A w' b0 B r.1 (ts.set i t')∧t'.op=op∧TRel n ops t' r.2
theorem settle_out{ops:List Op4}{g:GT SPl}{u:World}(h:SOut u b0 B ts i t s.ws.length o (s.step c))(hi:i<ts.length)(hT:TRel s.ws.length ops t g)(hc:g.call=some c)(ho:ops[g.k]? =some o)(hO:OpsB u b0 t.op ops)(hlen:ops.length≤65536):
 Calls Try.prog 83 #[.pointer (some ⟨B.mb,0,none⟩),.int .i64 i] u fun e w'=>e= .returned (.tuple #[])∧TOut w' b0 B ts i t.op s.ws.length ops (stpG SPl ops s g)∧Stay b0 u w':=by
 have hlt:=(List.getElem?_eq_some_iff.1 ho).1
 have hsl:=sstep_len s c
 unfold SOut at h
 obtain⟨s',r,e⟩:∃s' r,s.step c=(s',r):=⟨_,_,rfl⟩
 rw[e]at h hsl
 simp only at hsl
 have e2:SPl.stp s c=(s',r):=e
 cases r with
 | inl c'=>
   obtain⟨t',h1,h2,h3,h4,h5⟩:=h
   have hs:stpG SPl ops s g=(s',{g with call:=some c'}):=by simp only[stpG,hc,e2];rfl
   rw[hs]
   have hp:=h5.pcp
   refine(settle8n h1 (i:=i) (t:=t') (by simp[List.getElem?_set,hi]) (by omega)).mono fun e u2 ⟨k1,k2⟩=>⟨k1,⟨t',h1.heap k2,h2,?_⟩,(Stay.refl b0 u).heap k2⟩
   exact⟨h3.trans hT.k,hT.kl,hT.al,by rw[h4];exact hT.ans,o,ho,h5⟩
 | inr a=>
   obtain⟨t',h1,h2,h3,h4,h5,h6⟩:=h
   have hs:stpG SPl ops s g=advG SPl (ops.drop (g.k+1)) s' ⟨g.k+1,none,g.ans++([a]:List SPl.A)⟩:=by simp only[stpG,hc,e2]
   have hk:t'.k=g.k+1:=h3.trans (by rw[hT.k])
   have hal:t'.ans.length=t'.k:=by
    have:=hT.ans
    have h7:=hT.al
    have h8:=congrArg List.length this
    rw[List.length_map]at h8
    have h9:=hT.k
    have h8:t.ans.length=g.ans.length:=h8
    omega
   refine(settle8 (ops:=ops) h1 (i:=i) (t:=t') (by simp[List.getElem?_set,hi]) (by rw[h2];exact hO) hlen (by omega) hal h6).mono fun e u2 ⟨k1,⟨t2,k2,k3,k4⟩,k5⟩=>⟨k1,⟨t2,?_,k3.trans h2,?_⟩,k5⟩
   ·rw[hs,advG_q]
    rw[List.set_set]at k2
    exact k2
   ·rw[hs,← hsl]
    have h4:List.map SA.an t'.ans=g.ans++([a]:List SPl.A):=by rw[h4];exact congrArg (·++[a]) hT.ans
    rw[hk]at k4
    have e5:(⟨g.k+1,none,List.map SA.an t'.ans⟩:GT SPl)=⟨g.k+1,none,g.ans++([a]:List SPl.A)⟩:=congrArg (fun l:List SPl.A=>(⟨g.k+1,none,l⟩:GT SPl)) h4
    exact(congrArg (fun x=>TRel s'.ws.length ops t2 (advG SPl (ops.drop (g.k+1)) s' x).2) e5).mp k4
theorem R8S.turn(h:R8S w b0 B k ops g ts)(ht:ts[i]? =some t)(hS:Stay b0 w w')(hT:TOut w' b0 B ts i t.op (List.length (SSt.ws g.q)) (ops i) (stpG SPl (ops i) g.q (g.th i))):∃ts',R8S w' b0 B k ops (g.put i (stpG SPl (ops i) g.q (g.th i))) ts':=by
 obtain⟨t',h1,h2,h3⟩:=hT
 have hl:List.length (SSt.ws (stpG SPl (ops i) g.q (g.th i)).1)=List.length (SSt.ws g.q):=by
  unfold stpG
  split
  ·rfl
  ·next c hc=>
   obtain⟨s',r,e⟩:∃s' r,SPl.stp g.q c=(s',r):=⟨_,_,rfl⟩
   have hsl:List.length (SSt.ws (SPl.stp g.q c).1)=List.length (SSt.ws g.q):=sstep_len g.q c
   rw[e]at hsl ⊢
   cases r with
   | inl c'=>exact hsl
   | inr a=>exact(congrArg (fun q:SSt=>q.ws.length) (advG_q _ s' _)).trans hsl
 refine⟨ts.set i t',h1,fun j u hj=>?_,by rw[List.length_set];exact h.n,fun j=>?_⟩
 rotate_left
 ·by_cases e:j=i
  ·subst e
   simp only[GS.put,if_true]
   obtain⟨hT,_⟩:=h.T j t ht
   unfold stpG
   split
   ·exact h.L j
   ·next c hc=>
    obtain⟨s',r,e⟩:∃s' r,SPl.stp g.q c=(s',r):=⟨_,_,rfl⟩
    have h2:=hT.call
    rw[hc]at h2
    obtain⟨o,_,hr⟩:=h2
    have hol:=hr.ol
    have h16:=h.A.wf.n2
    rw[e]
    cases r with
    | inl c'=>exact h.L j
    | inr a=>
      simp only
      refine advG_an _ _ _ fun b hb=>?_
      rcases List.mem_append.1 hb with hb|hb
      ·exact h.L j b hb
      ·rw[List.mem_singleton.1 hb]
       exact step_an (s:=g.q) (by omega) e
  ·simp only[GS.put,if_neg e]
   exact h.L j
 show TRel (List.length (SSt.ws (stpG SPl (ops i) g.q (g.th i)).1)) _ _ _∧_
 rw[hl]
 rcases get_set hj with⟨rfl,rfl⟩|⟨hne,hj⟩
 ·refine⟨?_,by rw[h2];exact(h.T j t ht).2.stay hS⟩
  simp only[GS.put,if_true]
  exact h3
 ·obtain⟨k1,k2⟩:=h.T j u hj
  refine⟨?_,k2.stay hS⟩
  simp only[GS.put,if_neg hne]
  exact k1
theorem gTurn_go{n M:Nat}{order:List Nat}(hi:i<n)(hl:g.live i=true)(hM:order.length≠M):gTurn ops n M (g,order) (i:Int)=(g.put i (stpG SPl (ops i) g.q (g.th i)),order++[i]):=by
 unfold gTurn
 rw[if_pos ⟨by omega,by omega,by simpa using hl,hM⟩]
 simp
theorem gTurn_no{n M:Nat}{x:GS SPl×List Nat}{j:Int}(h:¬(0≤j∧j<n∧x.1.live j.toNat=true)):gTurn ops n M x j=x:=by
 unfold gTurn
 rw[if_neg fun h2=>h ⟨h2.1,h2.2.1,h2.2.2.1⟩]
theorem gTurns_full{m:Pl}{ops:Nat→List Op4}{n M:Nat}:∀(l:List Int) (s:GS m×List Nat),s.2.length=M→gTurns ops n M l s=s
 | [],s,_=>rfl
 | i::l,s,h=>by
   have e:gTurn ops n M s i=s:=by unfold gTurn;rw[if_neg fun h2=>h2.2.2.2 h]
   simp only[gTurns,e]
   exact gTurns_full l s h
end
end
noncomputable section
variable{F:Fz}{w:World}
def r8pBody:Code:=Try.f51.body.getD .skip
def r8ps0:=pC [] r8pBody
def r8pr0:=pC [zt] r8pBody
def r8ps1:=pC [zf] r8pBody
def r8pr1:=pC [zf,zt] r8pBody
def r8ps2:=pC [zf,zf] r8pBody
def r8ps3:=pC [zf,zf,zt] r8pBody
def r8ps4:=pC [zf,zf,zf] r8pBody
def r8ps5:=pC [zf,zf,zf,zt] r8pBody
def r8ps6:=pC [zf,zf,zf,zf] r8pBody
def r8ps7:=pC [zf,zf,zf,zf,zt] r8pBody
def r8ps8:=pC [zf,zf,zf,zf,zf] r8pBody
def r8ps9:=pC [zf,zf,zf,zf,zf,zt] r8pBody
def r8pr8:=pC [zf,zf,zf,zf,zf,zt,zt] r8pBody
def r8pb0:=pC [zf,zf,zf,zf,zf,zt,zf] r8pBody
def r8pl10:=pC [zf,zf,zf,zf,zf,zt,zf,zt] r8pBody
def r8ps11:=pC [zf,zf,zf,zf,zf,zt,zf,zt,zt] r8pBody
def r8ps12:=pC [zf,zf,zf,zf,zf,zt,zf,zt,zt,zt] r8pBody
def r8pr9:=pC [zf,zf,zf,zf,zf,zt,zf,zt,zt,zt,zt] r8pBody
def r8pc28:=pC [zf,zf,zf,zf,zf,zt,zf,zt,zt,zt,zf] r8pBody
def r8ps13:=pC [zf,zf,zf,zf,zf,zt,zf,zt,zt,zf] r8pBody
def r8pb1:=pC [zf,zf,zf,zf,zf,zt,zf,zt,zt,zf,zt] r8pBody
def r8ps14:=pC [zf,zf,zf,zf,zf,zt,zf,zt,zt,zf,zt,zt] r8pBody
def r8pr11:=pC [zf,zf,zf,zf,zf,zt,zf,zt,zt,zf,zt,zt,zt] r8pBody
def r8ps15:=pC [zf,zf,zf,zf,zf,zt,zf,zt,zt,zf,zt,zt,zf] r8pBody
def r8ps16:=pC [zf,zf,zf,zf,zf,zt,zf,zt,zt,zf,zt,zt,zf,zt] r8pBody
def r8ps17:=pC [zf,zf,zf,zf,zf,zt,zf,zt,zt,zf,zt,zt,zf,zf] r8pBody
def r8pr14:=pC [zf,zf,zf,zf,zf,zt,zf,zt,zt,zf,zt,zt,zf,zf,zt] r8pBody
def r8pr15:=pC [zf,zf,zf,zf,zf,zt,zf,zt,zt,zf,zt,zt,zf,zf,zf] r8pBody
def r8pr10:=pC [zf,zf,zf,zf,zf,zt,zf,zt,zt,zf,zf] r8pBody
def r8ps18:=pC [zf,zf,zf,zf,zf,zf] r8pBody
def r8pr16:=pC [zf,zf,zf,zf,zf,zf,zt] r8pBody
def r8ps19:=pC [zf,zf,zf,zf,zf,zf,zf] r8pBody
def r8ps20:=pC [zf,zf,zf,zf,zf,zf,zf,zt] r8pBody
def r8pr17:=pC [zf,zf,zf,zf,zf,zf,zf,zt,zt] r8pBody
def r8pb2:=pC [zf,zf,zf,zf,zf,zf,zf,zt,zf] r8pBody
def r8pl21:=pC [zf,zf,zf,zf,zf,zf,zf,zt,zf,zt] r8pBody
def r8ps22:=pC [zf,zf,zf,zf,zf,zf,zf,zt,zf,zt,zt] r8pBody
def r8ps23:=pC [zf,zf,zf,zf,zf,zf,zf,zt,zf,zt,zt,zt] r8pBody
def r8pr18:=pC [zf,zf,zf,zf,zf,zf,zf,zt,zf,zt,zt,zt,zt] r8pBody
def r8pc64:=pC [zf,zf,zf,zf,zf,zf,zf,zt,zf,zt,zt,zt,zf] r8pBody
def r8ps24:=pC [zf,zf,zf,zf,zf,zf,zf,zt,zf,zt,zt,zf] r8pBody
def r8pb3:=pC [zf,zf,zf,zf,zf,zf,zf,zt,zf,zt,zt,zf,zt] r8pBody
def r8ps25:=pC [zf,zf,zf,zf,zf,zf,zf,zt,zf,zt,zt,zf,zt,zt] r8pBody
def r8pr20:=pC [zf,zf,zf,zf,zf,zf,zf,zt,zf,zt,zt,zf,zt,zt,zt] r8pBody
def r8ps26:=pC [zf,zf,zf,zf,zf,zf,zf,zt,zf,zt,zt,zf,zt,zt,zf] r8pBody
def r8pr21:=pC [zf,zf,zf,zf,zf,zf,zf,zt,zf,zt,zt,zf,zt,zt,zf,zt] r8pBody
def r8pc88:=pC [zf,zf,zf,zf,zf,zf,zf,zt,zf,zt,zt,zf,zt,zt,zf,zf] r8pBody
def r8ps27:=pC [zf,zf,zf,zf,zf,zf,zf,zt,zf,zt,zt,zf,zt,zt,zf,zf,zt] r8pBody
def r8pr22:=pC [zf,zf,zf,zf,zf,zf,zf,zt,zf,zt,zt,zf,zt,zt,zf,zf,zt,zt] r8pBody
def r8ps28:=pC [zf,zf,zf,zf,zf,zf,zf,zt,zf,zt,zt,zf,zt,zt,zf,zf,zt,zf] r8pBody
def r8pr23:=pC [zf,zf,zf,zf,zf,zf,zf,zt,zf,zt,zt,zf,zt,zt,zf,zf,zt,zf,zt] r8pBody
def r8pr24:=pC [zf,zf,zf,zf,zf,zf,zf,zt,zf,zt,zt,zf,zt,zt,zf,zf,zt,zf,zf] r8pBody
def r8pr19:=pC [zf,zf,zf,zf,zf,zf,zf,zt,zf,zt,zt,zf,zf] r8pBody
def r8ps29:=pC [zf,zf,zf,zf,zf,zf,zf,zf] r8pBody
def r8pb4:=pC [zf,zf,zf,zf,zf,zf,zf,zf,zt] r8pBody
def r8pl30:=pC [zf,zf,zf,zf,zf,zf,zf,zf,zt,zt] r8pBody
def r8ps31:=pC [zf,zf,zf,zf,zf,zf,zf,zf,zt,zt,zt] r8pBody
def r8ps32:=pC [zf,zf,zf,zf,zf,zf,zf,zf,zt,zt,zt,zt] r8pBody
def r8pr25:=pC [zf,zf,zf,zf,zf,zf,zf,zf,zt,zt,zt,zt,zt] r8pBody
def r8pc106:=pC [zf,zf,zf,zf,zf,zf,zf,zf,zt,zt,zt,zt,zf] r8pBody
def r8pb5:=pC [zf,zf,zf,zf,zf,zf,zf,zf,zt,zt,zt,zf] r8pBody
def r8ps33:=pC [zf,zf,zf,zf,zf,zf,zf,zf,zt,zt,zt,zf,zt] r8pBody
def r8pr26:=pC [zf,zf,zf,zf,zf,zf,zf,zf,zt,zt,zt,zf,zt,zt] r8pBody
def r8pb6:=pC [zf,zf,zf,zf,zf,zf,zf,zf,zt,zt,zt,zf,zt,zf] r8pBody
def r8pl34:=pC [zf,zf,zf,zf,zf,zf,zf,zf,zt,zt,zt,zf,zt,zf,zt] r8pBody
def r8ps35:=pC [zf,zf,zf,zf,zf,zf,zf,zf,zt,zt,zt,zf,zt,zf,zt,zt] r8pBody
def r8ps36:=pC [zf,zf,zf,zf,zf,zf,zf,zf,zt,zt,zt,zf,zt,zf,zt,zt,zt] r8pBody
def r8pr27:=pC [zf,zf,zf,zf,zf,zf,zf,zf,zt,zt,zt,zf,zt,zf,zt,zt,zt,zt] r8pBody
def r8pc115:=pC [zf,zf,zf,zf,zf,zf,zf,zf,zt,zt,zt,zf,zt,zf,zt,zt,zt,zf] r8pBody
def r8ps37:=pC [zf,zf,zf,zf,zf,zf,zf,zf,zt,zt,zt,zf,zt,zf,zt,zt,zf] r8pBody
def r8pb7:=pC [zf,zf,zf,zf,zf,zf,zf,zf,zt,zt,zt,zf,zt,zf,zt,zt,zf,zt] r8pBody
def r8ps38:=pC [zf,zf,zf,zf,zf,zf,zf,zf,zt,zt,zt,zf,zt,zf,zt,zt,zf,zt,zt] r8pBody
def r8pr29:=pC [zf,zf,zf,zf,zf,zf,zf,zf,zt,zt,zt,zf,zt,zf,zt,zt,zf,zt,zt,zt] r8pBody
def r8pc126:=pC [zf,zf,zf,zf,zf,zf,zf,zf,zt,zt,zt,zf,zt,zf,zt,zt,zf,zt,zt,zf] r8pBody
def r8ps39:=pC [zf,zf,zf,zf,zf,zf,zf,zf,zt,zt,zt,zf,zt,zf,zt,zt,zf,zt,zt,zf,zt] r8pBody
def r8pr30:=pC [zf,zf,zf,zf,zf,zf,zf,zf,zt,zt,zt,zf,zt,zf,zt,zt,zf,zt,zt,zf,zt,zt] r8pBody
def r8ps40:=pC [zf,zf,zf,zf,zf,zf,zf,zf,zt,zt,zt,zf,zt,zf,zt,zt,zf,zt,zt,zf,zt,zf] r8pBody
def r8pr31:=pC [zf,zf,zf,zf,zf,zf,zf,zf,zt,zt,zt,zf,zt,zf,zt,zt,zf,zt,zt,zf,zt,zf,zt] r8pBody
def r8pr32:=pC [zf,zf,zf,zf,zf,zf,zf,zf,zt,zt,zt,zf,zt,zf,zt,zt,zf,zt,zt,zf,zt,zf,zf] r8pBody
def r8pr28:=pC [zf,zf,zf,zf,zf,zf,zf,zf,zt,zt,zt,zf,zt,zf,zt,zt,zf,zf] r8pBody
def r8ps41:=pC [zf,zf,zf,zf,zf,zf,zf,zf,zf] r8pBody
def r8pr33:=pC [zf,zf,zf,zf,zf,zf,zf,zf,zf,zt] r8pBody
def r8ps42:=pC [zf,zf,zf,zf,zf,zf,zf,zf,zf,zf] r8pBody
def r8ps43:=pC [zf,zf,zf,zf,zf,zf,zf,zf,zf,zf,zt] r8pBody
def r8pr34:=pC [zf,zf,zf,zf,zf,zf,zf,zf,zf,zf,zt,zt] r8pBody
def r8pb8:=pC [zf,zf,zf,zf,zf,zf,zf,zf,zf,zf,zt,zf] r8pBody
def r8pl44:=pC [zf,zf,zf,zf,zf,zf,zf,zf,zf,zf,zt,zf,zt] r8pBody
def r8ps45:=pC [zf,zf,zf,zf,zf,zf,zf,zf,zf,zf,zt,zf,zt,zt] r8pBody
def r8ps46:=pC [zf,zf,zf,zf,zf,zf,zf,zf,zf,zf,zt,zf,zt,zt,zt] r8pBody
def r8pr35:=pC [zf,zf,zf,zf,zf,zf,zf,zf,zf,zf,zt,zf,zt,zt,zt,zt] r8pBody
def r8pc145:=pC [zf,zf,zf,zf,zf,zf,zf,zf,zf,zf,zt,zf,zt,zt,zt,zf] r8pBody
def r8ps47:=pC [zf,zf,zf,zf,zf,zf,zf,zf,zf,zf,zt,zf,zt,zt,zf] r8pBody
def r8pb9:=pC [zf,zf,zf,zf,zf,zf,zf,zf,zf,zf,zt,zf,zt,zt,zf,zt] r8pBody
def r8pr37:=pC [zf,zf,zf,zf,zf,zf,zf,zf,zf,zf,zt,zf,zt,zt,zf,zt,zt] r8pBody
def r8pr36:=pC [zf,zf,zf,zf,zf,zf,zf,zf,zf,zf,zt,zf,zt,zt,zf,zf] r8pBody
def r8ps48:=pC [zf,zf,zf,zf,zf,zf,zf,zf,zf,zf,zf] r8pBody
theorem r8ps0':r8ps0= .seq r8pr0 r8ps1:=by kernel_rfl
theorem r8ps1':r8ps1= .seq r8pr1 r8ps2:=by kernel_rfl
theorem r8ps2':r8ps2= .seq r8ps3 r8ps4:=by kernel_rfl
theorem r8ps4':r8ps4= .seq r8ps5 r8ps6:=by kernel_rfl
theorem r8ps6':r8ps6= .seq r8ps7 r8ps8:=by kernel_rfl
theorem r8ps8':r8ps8= .seq r8ps9 r8ps18:=by kernel_rfl
theorem r8ps9':r8ps9= .seq r8pr8 r8pb0:=by kernel_rfl
theorem r8pb0':r8pb0= .block 0 r8pl10:=by kernel_rfl
theorem r8pl10':r8pl10= .loop r8ps11:=by kernel_rfl
theorem r8ps11':r8ps11= .seq r8ps12 r8ps13:=by kernel_rfl
theorem r8ps12':r8ps12= .seq r8pr9 r8pc28:=by kernel_rfl
theorem r8pc28':r8pc28= .cond (.tmp 28) .skip (.exit 0):=by kernel_rfl
theorem r8ps13':r8ps13= .seq r8pb1 r8pr10:=by kernel_rfl
theorem r8pb1':r8pb1= .block 1 r8ps14:=by kernel_rfl
theorem r8ps14':r8ps14= .seq r8pr11 r8ps15:=by kernel_rfl
theorem r8ps15':r8ps15= .seq r8ps16 r8ps17:=by kernel_rfl
theorem r8ps17':r8ps17= .seq r8pr14 r8pr15:=by kernel_rfl
theorem r8ps18':r8ps18= .seq r8pr16 r8ps19:=by kernel_rfl
theorem r8ps19':r8ps19= .seq r8ps20 r8ps29:=by kernel_rfl
theorem r8ps20':r8ps20= .seq r8pr17 r8pb2:=by kernel_rfl
theorem r8pb2':r8pb2= .block 2 r8pl21:=by kernel_rfl
theorem r8pl21':r8pl21= .loop r8ps22:=by kernel_rfl
theorem r8ps22':r8ps22= .seq r8ps23 r8ps24:=by kernel_rfl
theorem r8ps23':r8ps23= .seq r8pr18 r8pc64:=by kernel_rfl
theorem r8pc64':r8pc64= .cond (.tmp 64) .skip (.exit 2):=by kernel_rfl
theorem r8ps24':r8ps24= .seq r8pb3 r8pr19:=by kernel_rfl
theorem r8pb3':r8pb3= .block 3 r8ps25:=by kernel_rfl
theorem r8ps25':r8ps25= .seq r8pr20 r8ps26:=by kernel_rfl
theorem r8ps26':r8ps26= .seq r8pr21 r8pc88:=by kernel_rfl
theorem r8pc88':r8pc88= .cond (.tmp 88) r8ps27 .skip:=by kernel_rfl
theorem r8ps27':r8ps27= .seq r8pr22 r8ps28:=by kernel_rfl
theorem r8ps28':r8ps28= .seq r8pr23 r8pr24:=by kernel_rfl
theorem r8ps29':r8ps29= .seq r8pb4 r8ps41:=by kernel_rfl
theorem r8pb4':r8pb4= .block 4 r8pl30:=by kernel_rfl
theorem r8pl30':r8pl30= .loop r8ps31:=by kernel_rfl
theorem r8ps31':r8ps31= .seq r8ps32 r8pb5:=by kernel_rfl
theorem r8ps32':r8ps32= .seq r8pr25 r8pc106:=by kernel_rfl
theorem r8pc106':r8pc106= .cond (.tmp 106) .skip (.exit 4):=by kernel_rfl
theorem r8pb5':r8pb5= .block 5 r8ps33:=by kernel_rfl
theorem r8ps33':r8ps33= .seq r8pr26 r8pb6:=by kernel_rfl
theorem r8pb6':r8pb6= .block 6 r8pl34:=by kernel_rfl
theorem r8pl34':r8pl34= .loop r8ps35:=by kernel_rfl
theorem r8ps35':r8ps35= .seq r8ps36 r8ps37:=by kernel_rfl
theorem r8ps36':r8ps36= .seq r8pr27 r8pc115:=by kernel_rfl
theorem r8pc115':r8pc115= .cond (.tmp 115) .skip (.exit 6):=by kernel_rfl
theorem r8ps37':r8ps37= .seq r8pb7 r8pr28:=by kernel_rfl
theorem r8pb7':r8pb7= .block 7 r8ps38:=by kernel_rfl
theorem r8ps38':r8ps38= .seq r8pr29 r8pc126:=by kernel_rfl
theorem r8pc126':r8pc126= .cond (.tmp 126) r8ps39 .skip:=by kernel_rfl
theorem r8ps39':r8ps39= .seq r8pr30 r8ps40:=by kernel_rfl
theorem r8ps40':r8ps40= .seq r8pr31 r8pr32:=by kernel_rfl
theorem r8ps41':r8ps41= .seq r8pr33 r8ps42:=by kernel_rfl
theorem r8ps42':r8ps42= .seq r8ps43 r8ps48:=by kernel_rfl
theorem r8ps43':r8ps43= .seq r8pr34 r8pb8:=by kernel_rfl
theorem r8pb8':r8pb8= .block 8 r8pl44:=by kernel_rfl
theorem r8pl44':r8pl44= .loop r8ps45:=by kernel_rfl
theorem r8ps45':r8ps45= .seq r8ps46 r8ps47:=by kernel_rfl
theorem r8ps46':r8ps46= .seq r8pr35 r8pc145:=by kernel_rfl
theorem r8pc145':r8pc145= .cond (.tmp 145) .skip (.exit 8):=by kernel_rfl
theorem r8ps47':r8ps47= .seq r8pb9 r8pr36:=by kernel_rfl
theorem r8pb9':r8pb9= .block 9 r8pr37:=by kernel_rfl
def r8pT(s:Nat→Value):Array Value:= #[s 0,s 1,s 2,s 3,s 4,s 5,s 6,s 7,s 8,s 9,s 10,s 11,s 12,s 13,s 14,s 15,s 16,s 17,s 18,s 19,s 20,s 21,s 22,s 23,s 24,s 25,s 26,s 27,s 28,s 29,s 30,s 31,s 32,s 33,s 34,s 35,s 36,s 37,s 38,s 39,s 40,s 41,s 42,s 43,s 44,s 45,s 46,s 47,s 48,s 49,s 50,s 51,s 52,s 53,s 54,s 55,s 56,s 57,s 58,s 59,s 60,s 61,s 62,s 63,s 64,s 65,s 66,s 67,s 68,s 69,s 70,s 71,s 72,s 73,s 74,s 75,s 76,s 77,s 78,s 79,s 80,s 81,s 82,s 83,s 84,s 85,s 86,s 87,s 88,s 89,s 90,s 91,s 92,s 93,s 94,s 95,s 96,s 97,s 98,s 99,s 100,s 101,s 102,s 103,s 104,s 105,s 106,s 107,s 108,s 109,s 110,s 111,s 112,s 113,s 114,s 115,s 116,s 117,s 118,s 119,s 120,s 121,s 122,s 123,s 124,s 125,s 126,s 127,s 128,s 129,s 130,s 131,s 132,s 133,s 134,s 135,s 136,s 137,s 138,s 139,s 140,s 141,s 142,s 143,s 144,s 145,s 146,s 147,s 148,s 149,s 150,s 151,s 152,s 153,s 154,s 155,s 156,s 157,s 158,s 159,s 160,s 161]
end
section
variable{w w' u u' W:World}{b0:Nat}{B:R8B}{s:SSt}{ts:List R8T}
theorem OpsB.low{v:Value}{ops:List Op4}(h:OpsB w b0 v ops)(hs:∀r,r<b0→w'.heap[r]? =w.heap[r]?):OpsB w' b0 v ops:=
 ⟨h.sl,fun k x hx=>by
  obtain⟨ob,oo,oc,h⟩:=h.c k x hx
  have e:∀j,w'.cell? ⟨ob,j,none⟩=w.cell? ⟨ob,j,none⟩:=fun j=>by simp only[World.cell?,hs ob h.l]
  exact⟨ob,oo,oc,h.sl,h.lt,h.l,(e _).trans h.f0,(e _).trans h.f1,(e _).trans h.f2,(e _).trans h.f3⟩⟩
theorem R8A.off3(h:R8A w b0 B s ts)(hs:∀r,r<w.heap.size→NInt w r→w'.heap[r]? =w.heap[r]?):R8A w' b0 B s ts:=
 ⟨h.wf,(hs _ h.low_m h.nt_m).trans h.o,
  ownsRow_same2 h.wds fun b hb _=>by
   obtain⟨c,hc⟩:=row_blk h.wds hb
   exact hs b (alt hc) fun c2 y z q e=>by rcases q with rfl|rfl<;>(rw[e]at hc;cases hc),
  ownsRow_same2 h.row fun b hb _=>by
   obtain⟨c,hc⟩:=row_blk h.row hb
   exact hs b (alt hc) fun c2 y z q e=>by rcases q with rfl|rfl<;>(rw[e]at hc;cases hc),
  fun t ht=>(h.thr t ht).same fun r hr=>hs r ((h.thr t ht).low hr) fun c y z q e=>h.no3 ht hr q e,h.tt,h.wn,h.b1,h.b2,h.b3,h.b4⟩
structure RW8(W:World)(b0 mb k:Nat)(ops:Nat→List Op4)(g:GS SPl)(order:List Nat)(ov:Value)(u:World):Prop where
 ex:∃B ts,B.mb=mb∧R8S u b0 B k ops g ts
 st:Stay b0 W u
 ord:u.ownsRow 0 3 1 ov order.length (order.map fun i:Nat=>.int .i64 i)
 ob:∀r,ov.ownBlock=some r→W.heap.size≤r
 bw:b0≤W.heap.size
section
variable{i k n mb:Nat}{t:R8T}{ops:Nat→List Op4}{g:GS SPl}{c:SCl}{o:Op4}{order:List Nat}{ov:Value}
theorem RW8.heap(h:RW8 W b0 mb k ops g order ov u)(e:u'.heap=u.heap):RW8 W b0 mb k ops g order ov u':=by
 obtain⟨⟨B,ts,h1,h2⟩,h3,h4,h5,h6⟩:=h
 exact⟨⟨B,ts,h1,h2.heap e⟩,h3.heap e,own_off2 h4 fun _ _ _ _=>by rw[e],h5,h6⟩
theorem ord_stay(h:u.ownsRow 0 3 1 ov order.length (order.map fun i:Nat=>Value.int .i64 i))(hs:Stay b0 u u'):u'.ownsRow 0 3 1 ov order.length (order.map fun i:Nat=>Value.int .i64 i):=
 own_off2 h fun b c e _=>hs.t b c 3 _ (.inl rfl) e
structure Mid8(W:World)(b0 mb k:Nat)(ops:Nat→List Op4)(g:GS SPl)(order:List Nat)(ov:Value)(i:Nat)(u:World):Prop where
 ex:∃v B ts t c o,B.mb=mb∧R8S v b0 B k ops g ts∧ts[i]? =some t∧(g.th i).call=some c∧(ops i)[(g.th i).k]? =some o∧SOut u b0 B ts i t (List.length (SSt.ws g.q)) o (SSt.step g.q c)∧Stay b0 v u
 st:Stay b0 W u
 ord:u.ownsRow 0 3 1 ov order.length (order.map fun i:Nat=>.int .i64 i)
 ob:∀r,ov.ownBlock=some r→W.heap.size≤r
 bw:b0≤W.heap.size
theorem Mid8.heap(h:Mid8 W b0 mb k ops g order ov i u)(e:u'.heap=u.heap):Mid8 W b0 mb k ops g order ov i u':=by
 obtain⟨⟨v,B,ts,t,c,o,h1,h2,h3,h4,h5,h6,h7⟩,h8,h9,h10,h11⟩:=h
 refine⟨⟨v,B,ts,t,c,o,h1,h2,h3,h4,h5,?_,h7.heap e⟩,h8.heap e,own_off2 h9 fun _ _ _ _=>by rw[e],h10,h11⟩
 unfold SOut at h6 ⊢
 split at h6
 ·obtain⟨t',k1,k2⟩:=h6;exact⟨t',k1.heap e,k2⟩
 ·obtain⟨t',k1,k2⟩:=h6;exact⟨t',k1.heap e,k2⟩
theorem step_call8(h:RW8 W b0 mb k ops g order ov u)(hi:i<k)(hl:g.live i=true)(hol:∀j,j<k→(ops j).length≤65536):
 Calls Try.prog 84 #[.pointer (some ⟨mb,0,none⟩),.int .i64 i] u fun e u'=>e= .returned (.tuple #[])∧Mid8 W b0 mb k ops g order ov i u':=by
 obtain⟨⟨B,ts,rfl,hS⟩,hst,hord,hob,hbw⟩:=h
 obtain⟨t,ht⟩:∃t,ts[i]? =some t:=⟨_,List.getElem?_eq_getElem (by rw[hS.n];exact hi)⟩
 obtain⟨hT,hO⟩:=hS.T i t ht
 obtain⟨c,hc⟩:∃c,(g.th i).call=some c:=Option.isSome_iff_exists.1 hl
 have h1:=hT.call
 rw[hc]at h1
 obtain⟨o,ho,hr⟩:=h1
 have hlt:=(List.getElem?_eq_some_iff.1 ho).1
 have h65:=hol i hi
 have hal:=hT.al
 have hans0:=congrArg List.length hT.ans
 rw[List.length_map]at hans0
 have hans:t.ans.length=(g.th i).ans.length:=hans0
 have hk:=hT.k
 refine(step8_all hS.A ht hO (by rw[hk];exact ho) hr (by omega) (by omega)).mono fun e w' ⟨k1,k2,k3⟩=>⟨k1,⟨u,B,ts,t,c,o,rfl,hS,ht,hc,ho,k2,k3⟩,hst.trans k3,ord_stay hord k3,hob,hbw⟩
theorem settle_call8(h:Mid8 W b0 mb k ops g order ov i u)(hi:i<k)(hol:∀j,j<k→(ops j).length≤65536):
 Calls Try.prog 83 #[.pointer (some ⟨mb,0,none⟩),.int .i64 i] u fun e u'=>e= .returned (.tuple #[])∧RW8 W b0 mb k ops (g.put i (stpG SPl (ops i) g.q (g.th i))) order ov u':=by
 obtain⟨⟨v,B,ts,t,c,o,rfl,hS,ht,hc,ho,h1,h2⟩,hst,hord,hob,hbw⟩:=h
 have hilt:=(List.getElem?_eq_some_iff.1 ht).1
 obtain⟨hT,hO⟩:=hS.T i t ht
 refine(settle_out h1 hilt hT hc ho (hO.stay h2) (hol i hi)).mono fun e w' ⟨k1,k2,k3⟩=>⟨k1,?_,hst.trans k3,ord_stay hord k3,hob,hbw⟩
 obtain⟨ts',hts⟩:=hS.turn ht (h2.trans k3) k2
 exact⟨B,ts',rfl,hts⟩
def t8n(op:Value)(i:Nat):R8T:=⟨op,i,0,0,0,0,.slice none 0 0,none,.slice none 0 0,[]⟩
theorem t8n_R(op:Value)(i r:Nat):¬R8R (t8n op i) r:=by
 rintro(h|⟨h,_⟩|⟨a,ha,_⟩)
 ·simp[t8n,Value.ownBlock]at h
 ·exact h rfl
 ·simp[t8n]at ha
theorem R8A.born{u3:World}{op v':Value}(h:R8A u b0 B s ts)(hown:u3.ownsRow 0 149 8 v' (ts.length+1) (r8C ts++(t8n op i).cells))(hold:∀r,r<u.heap.size→some r≠B.tv.ownBlock→u3.heap[r]? =u.heap[r]?)(hsz:u.heap.size≤u3.heap.size)
 (hfr:v'.ownBlock=B.tv.ownBlock∨∃g,v'.ownBlock=some g∧u.heap.size≤g) (hb:b0≤u.heap.size) (hu:u'.heap=(u3.setCell ⟨B.mb,2,none⟩ v').heap):R8A u' b0 {B with tv:=v'} s (ts++[t8n op i]):=by
 have hmb:=h.low_m
 have hmt:some B.mb≠B.tv.ownBlock:=fun e=>by obtain⟨c,hc⟩:=row_blk h.row e.symm;rw[h.o]at hc;cases hc
 have e3:u3.heap[B.mb]? =some (.cells #[.int .i64 s.ver,.slice (some ⟨B.wb,0,none⟩) s.ws.length B.wc,B.tv] 147 (0,0)):=(hold _ hmb hmt).trans h.o
 have hou:∀r,r≠B.mb→u'.heap[r]? =u3.heap[r]?:=fun r hr=>by rw[hu];exact heap_setCell_ne _ _ _ hr
 have hold2:∀r,r<u.heap.size→r≠B.mb→some r≠B.tv.ownBlock→u'.heap[r]? =u.heap[r]?:=fun r h1 h2 h3=>(hou r h2).trans (hold r h1 h3)
 have hvm:v'.ownBlock≠some B.mb:=by
  rcases hfr with e|⟨g,e,hg⟩
  ·rw[e];exact fun h=>hmt h.symm
  ·rw[e];intro h;cases h;omega
 refine⟨h.wf,?_,ownsRow_same2 h.wds fun b hb _=>?_,?_,fun t ht=>?_,fun a b x y ha hb hne r hr1 hr2=>?_,fun t ht hr=>?_,h.b1,h.b2,fun r hr=>?_,fun t ht r hr=>?_⟩
 ·have h2:(u3.setCell ⟨B.mb,2,none⟩ v').heap[B.mb]? =some (.cells ((#[.int .i64 s.ver,.slice (some ⟨B.wb,0,none⟩) s.ws.length B.wc,B.tv]:Array Value).setIfInBounds 2 v') 147 (0,0)):=heap_set_eq e3
  rw[hu]
  exact h2
 ·obtain⟨c,hc⟩:=row_blk h.wds hb
  exact hold2 b (alt hc) (heap_ty hc h.o (by decide)) fun e=>by obtain⟨d,hd⟩:=row_blk h.row e.symm;rw[hc]at hd;cases hd
 ·have hl:(ts++[t8n op i]).length=ts.length+1:=by simp
  have hc:r8C (ts++[t8n op i])=r8C ts++(t8n op i).cells:=by simp[r8C]
  rw[hl,hc]
  exact ownsRow_same2 hown fun b hb _=>hou b fun e=>hvm (e ▸ hb)
 ·rcases List.mem_append.1 ht with ht|ht
  ·exact(h.thr t ht).same fun r hr=>hold2 r ((h.thr t ht).low hr) ((h.thr t ht).ne hr h.o (by decide) (by decide)) fun e=>by
    obtain⟨d,hd⟩:=row_blk h.row e.symm
    exact(h.thr t ht).ne hr hd (by decide) (by decide) rfl
  ·obtain rfl:t=t8n op i:=by simpa using ht
   exact⟨⟨rfl,.inl ⟨rfl,rfl⟩⟩,fun a ha=>by simp[t8n]at ha,fun l hl=>by simp[t8n]at hl,fun hn=>absurd rfl hn⟩
 ·rcases Nat.lt_or_ge a ts.length with h1|h1
  ·rcases Nat.lt_or_ge b ts.length with h2|h2
   ·rw[List.getElem?_append_left h1]at ha
    rw[List.getElem?_append_left h2]at hb
    exact h.tt a b x y ha hb hne r hr1 hr2
   ·have hy:y∈[t8n op i]:=by rw[List.getElem?_append_right h2]at hb;exact List.mem_of_getElem? hb
    obtain rfl:y=t8n op i:=by simpa using hy
    exact t8n_R _ _ _ hr2
  ·have hx:x∈[t8n op i]:=by rw[List.getElem?_append_right h1]at ha;exact List.mem_of_getElem? ha
   obtain rfl:x=t8n op i:=by simpa using hx
   exact t8n_R _ _ _ hr1
 ·rcases List.mem_append.1 ht with ht|ht
  ·exact h.wn t ht hr
  ·obtain rfl:t=t8n op i:=by simpa using ht
   exact t8n_R _ _ _ hr
 ·rcases hfr with e|⟨g,e,hg⟩
  ·exact h.b3 r (e ▸ hr)
  ·have hr:v'.ownBlock=some r:=hr
   rw[e]at hr;cases hr;omega
 ·rcases List.mem_append.1 ht with ht|ht
  ·exact h.b4 t ht r hr
  ·obtain rfl:t=t8n op i:=by simpa using ht
   exact absurd hr (t8n_R _ _ _)
structure Brn8(W:World)(b0 mb i:Nat)(ops:Nat→List Op4)(g:GS SPl)(u:World):Prop where
 ex:∃B ts op,B.mb=mb∧R8A u b0 B g.q (ts++[t8n op i])∧(∀(j:Nat) t,ts[j]? =some t→TRel (List.length (SSt.ws g.q)) (ops j) t (g.th j)∧OpsB u b0 t.op (ops j))∧ts.length=i∧OpsB u b0 op (ops i)∧∀(j:Nat),∀a∈GT.ans (g.th j),(a:SAn).2.2.length≤17
 st:Stay b0 W u
 bw:b0≤W.heap.size
theorem settle_born8(h:Brn8 W b0 mb i ops g u)(hol:(ops i).length≤65536)(h0:g.th i=⟨0,none,[]⟩):
 Calls Try.prog 83 #[.pointer (some ⟨mb,0,none⟩),.int .i64 i] u fun e u'=>e= .returned (.tuple #[])∧RW8 W b0 mb (i+1) ops (g.put i (advG SPl (ops i) g.q (g.th i))) [] (.slice none 0 0) u':=by
 obtain⟨⟨B,ts,op,rfl,hA,hT,hn,hO,hL⟩,hst,hbw⟩:=h
 have ht:(ts++[t8n op i])[i]? =some (t8n op i):=by rw[List.getElem?_append_right (by omega),hn];simp
 refine(settle8 (ops:=ops i) hA ht hO hol (Nat.zero_le _) rfl rfl).mono fun e w' ⟨k1,⟨t',k2,k3,k4⟩,k5⟩=>⟨k1,⟨B,(ts++[t8n op i]).set i t',rfl,?_,fun j t hj=>?_,by simp[hn],fun j=>?_⟩,hst.trans k5,⟨rfl,.inl ⟨rfl,rfl⟩⟩,fun r hr=>(by cases hr),hbw⟩
 ·have eq:((advG SPl (ops i) g.q (g.th i)).1:SSt)=g.q:=advG_q _ _ _
  exact Eq.mpr (congrArg (fun q:SSt=>R8A w' b0 B q ((ts++[t8n op i]).set i t')) eq) k2
 ·have eq:((advG SPl (ops i) g.q (g.th i)).1:SSt)=g.q:=advG_q _ _ _
  refine Eq.mpr (congrArg (fun q:SSt=>TRel q.ws.length (ops j) t ((g.put i (advG SPl (ops i) g.q (g.th i))).th j)∧OpsB w' b0 t.op (ops j)) eq) ?_
  rcases get_set hj with⟨rfl,rfl⟩|⟨hne,hj⟩
  ·refine⟨?_,by rw[k3];exact hO.stay k5⟩
   simp only[GS.put,if_true]
   rw[h0]
   exact k4
  ·have hlt:=(List.getElem?_eq_some_iff.1 hj).1
   rw[List.length_append,List.length_singleton]at hlt
   rw[List.getElem?_append_left (by omega)]at hj
   obtain⟨k6,k7⟩:=hT j t hj
   refine⟨?_,k7.stay k5⟩
   simp only[GS.put,if_neg hne]
   exact k6
 ·by_cases e:j=i
  ·subst e
   simp only[GS.put,if_true]
   exact advG_an _ _ _ (hL j)
  ·simp only[GS.put,if_neg e]
   exact hL j
theorem RW8.ord_more{v':Value}{u3:World}(h:RW8 W b0 mb k ops g order ov u)(hown:u3.ownsRow 0 3 1 v' (order.length+1) ((order.map fun i:Nat=>Value.int .i64 i)++[.int .i64 i]))(hold:∀r,r<u.heap.size→some r≠ov.ownBlock→u3.heap[r]? =u.heap[r]?)(hsz:u.heap.size≤u3.heap.size)
 (hfr:v'.ownBlock=ov.ownBlock∨∃g,v'.ownBlock=some g∧u.heap.size≤g) (hu:u'.heap=u3.heap):RW8 W b0 mb k ops g (order++[i]) v' u':=by
 obtain⟨⟨B,ts,rfl,hS⟩,hst,hord,hob,hbw⟩:=h
 have hlow:∀r,r<W.heap.size→r<u.heap.size→u'.heap[r]? =u.heap[r]?:=fun r h1 h2=>by rw[hu];exact hold r h2 fun e=>by have:=hob r e.symm;omega
 have hb0:=hS.A.bs
 have hss:=hst.s
 refine⟨⟨B,ts,rfl,hS.A.off3 fun r h1 h2=>?_,fun j t hj=>⟨(hS.T j t hj).1,(hS.T j t hj).2.low fun r hr=>hlow r (by omega) (by omega)⟩,hS.n,hS.L⟩,⟨?_,fun r hr=>?_,fun r c y z q e=>?_⟩,?_,fun r hr=>?_,hbw⟩
 ·rw[hu]
  exact hold r h1 fun e=>by obtain⟨c,hc⟩:=row_blk hord e.symm;exact h2 c 3 _ (.inl rfl) hc
 ·rw[hu];exact Nat.le_trans hst.s hsz
 ·exact(hlow r (by omega) (by omega)).trans (hst.o r hr)
 ·have hlt:=(alt e)
  exact(hlow r hlt (by omega)).trans (hst.t r c y z q e)
 ·rw[List.length_append,List.length_singleton,List.map_append]
  exact own_off2 hown fun b c e _=>by rw[hu]
 ·rcases hfr with e|⟨q,e,hq⟩
  ·exact hob r (e ▸ hr)
  ·rw[e]at hr;cases hr;omega
end
end
section
variable{w w':World}{x0 x1 x2 x3 x8 x9 x10 x11 x12 x13 x14 x15 x16 x17:Value}
theorem pm8{P:Program}{c:Code}{R R':Act→World→Prop}{a:Act}{w:World}(h:c.wp P (nrm R) a w)(hh:∀a u,R a u→R' a u):c.wp P (nrm R') a w:=wp_mono h fun e a u q=>by
 cases e with
 | normal=>exact hh _ _ q
 | _=>exact q.elim
theorem act8{a:Act}(h:a.defers=[]):a=⟨a.tmps,[]⟩:=by
 obtain⟨A,d⟩:=a
 simp only at h
 rw[h]
theorem then8{P:Program}{x y:Code}{R S:Act→World→Prop}{a:Act}{w:World}(h:x.wp P (nrm R) a w)(hy:∀A u,R ⟨A,[]⟩ u→y.wp P (nrm S) ⟨A,[]⟩ u)(hR:∀a u,R a u→a.defers=[]:=by intro a u h;exact h.1):(Code.seq x y).wp P (nrm S) a w:=
 wp_then8 h fun a u q=>by
  have e:=hR _ _ q
  rw[act8 e]at q ⊢
  exact hy _ _ q
theorem blk8{P:Program}{c:Code}{id:Nat}{R:Act→World→Prop}{a:Act}{w:World}(h:c.wp P (nrm R) a w):(Code.block id c).wp P (nrm R) a w:=
 wp_block (wp_mono h fun e a w q=>by
  cases e with
  | normal=>exact q
  | _=>exact q.elim)
def BrS(s:Nat→Value):List (Nat×Value)→Prop
 | []=>True
 | (k,v)::l=>s k=v∧BrS s l
theorem brs_of{A:Array Value}:∀(l:List (Nat×Value)),Bears A l→BrS (fun k=>A.getD k undef) l
 | [],_=>trivial
 | (_,_)::l,h=>⟨h.1,brs_of l h.2⟩
theorem r8p_s{A:Array Value}{l:List (Nat×Value)}(h:Slots 162 A l):∃s,A=r8pT s∧BrS s l:=by
 refine⟨fun k=>A.getD k undef,?_,brs_of l h.2⟩
 obtain⟨s,hs,hk⟩:=arr_lit A h.1
 have e:A=((List.range 162).map fun k=>A.getD k undef).toArray:=by
  apply Array.ext
  ·simp[h.1]
  ·intro i h1 h2
   simp[h1]
 exact e
theorem while2_nrm{P:Program}{hd y:Code}{ci id:Nat}{I J:Nat→Act→World→Prop}{E:Act→World→Prop}
 (hhd:∀g a w,I g a w→hd.wp P (nrm fun a' w'=>(a'.tmps.getD ci undef= .bool true∧J g a' w')∨(a'.tmps.getD ci undef= .bool false∧E a' w')) a w)
 (hy:∀g a w,J g a w→y.wp P (nrm fun a' w'=>∃g',g'<g∧I g' a' w') a w) {g:Nat} {a:Act} {w:World} (h:I g a w):
 (Code.block id (.loop (.seq (.seq hd (.cond (.tmp ci) .skip (.exit id))) y))).wp P (nrm E) a w:=by
 refine wp_block ?_
 refine wp_loop_ghost I g h fun g a w h=>?_
 refine wp_seq (wp_seq (wp_mono (hhd g a w h) fun e a' w' q=>?_))
 cases e with
 | normal=>
   rcases q with⟨hc,hj⟩|⟨hc,he⟩
   ·refine wp_cond (t:=true) hc ?_
    refine wp_skip ?_
    refine wp_mono (hy g a' w' hj) fun e a w q=>?_
    cases e with
    | normal=>exact q
    | _=>exact q.elim
   ·refine wp_cond (t:=false) hc ?_
    refine wp_exit ?_
    show Exit.inBlock id (nrm E) (.exit id) a' w'
    simp only[Exit.inBlock,if_true]
    exact he
 | _=>exact q.elim
def GuardB(v:Value)(p:Prop):Prop:=∃b:Bool,v= .bool b∧(b=true↔p)
theorem b149(a:Option Addr)(n m:Nat)(i:Int):Try.prog.built 149 [(0,.slice a n m),(2,.int .i64 i)]=some #[.slice a n m,.slice none 0 0,.int .i64 i,.int .i64 0,.int .i64 0,.int .i64 0,.int .i64 0,.slice none 0 0]:=by kernel_rfl
@[go_sem] theorem run_b149(w:World)(a:Option Addr)(n m:Nat)(i:Int):(Instr.build 149 #[(0,.slice a n m),(2,.int .i64 i)]).run Try.prog w= .ok (.agg #[.slice a n m,.slice none 0 0,.int .i64 i,.int .i64 0,.int .i64 0,.int .i64 0,.int .i64 0,.slice none 0 0]) w:=run_build w _ _ _ (b149 a n m i)
theorem b31s(a b:Option Addr)(n m k l:Nat)(s:Bool):Try.prog.built 31 [(1,.slice a n m),(3,.bool s),(2,.slice b k l)]=some #[.slice none 0 0,.slice a n m,.slice b k l,.bool s]:=by kernel_rfl
@[go_sem] theorem run_b31s(w:World)(a b:Option Addr)(n m k l:Nat)(s:Bool):(Instr.build 31 #[(1,.slice a n m),(3,.bool s),(2,.slice b k l)]).run Try.prog w= .ok (.agg #[.slice none 0 0,.slice a n m,.slice b k l,.bool s]) w:=run_build w _ _ _ (b31s a b n m k l s)
theorem infoC149:∃i z,Try.prog.info? 149=some i∧i.zero=some z∧i.size=8∧i.bytes=112∧z.cells.size=8:=infoOf (by kernel_rfl)
theorem infoC3:∃i z,Try.prog.info? 3=some i∧i.zero=some z∧i.size=1∧i.bytes=8∧z.cells.size=1:=infoOf (by kernel_rfl)
theorem infoC42:∃i z,Try.prog.info? 42=some i∧i.zero=some z∧i.size=1∧i.bytes=24∧z.cells.size=1:=infoOf (by kernel_rfl)
theorem r8q_0 {A:Array Value}(hA:Slots 162 A [(0,x0),(1,x1),(2,x2),(3,x3)]):
 r8pr0.wp Try.prog (nrm fun a u=>a.defers=[]∧Slots 162 a.tmps [(0,x0),(1,x1),(2,x2),(3,x3),(8,.pointer (some ⟨w.heap.size,0,none⟩))]∧u.heap=(w.alloc (.cells #[.slice none 0 0,.slice none 0 0,.slice none 0 0,.bool false] 31)).heap) ⟨A,[]⟩ w:=by
 obtain⟨s,rfl,k0,k1,k2,k3,_⟩:=r8p_s hA
 simp only[r8pr0,r8pBody,pC,Try.f51,Option.getD_some,r8pT,k0,k1,k2,k3]
 clear k0 k1 k2 k3
 go_wp2
 exact⟨rfl,⟨rfl,rfl,rfl,rfl,rfl,rfl,trivial⟩,rfl⟩
theorem r8q_1{ta:Option Addr}{tl tc:Nat}{A:Array Value}(hA:Slots 162 A [(0,x0),(1,.slice ta tl tc),(2,x2),(3,x3),(8,x8)]):
 r8pr1.wp Try.prog (nrm fun a u=>a.defers=[]∧Slots 162 a.tmps [(0,x0),(1,.slice ta tl tc),(2,x2),(3,x3),(8,x8),(9,.int .i64 tl)]∧u.heap=w.heap) ⟨A,[]⟩ w:=by
 obtain⟨s,rfl,k0,k1,k2,k3,k8,_⟩:=r8p_s hA
 simp only[r8pr1,r8pBody,pC,Try.f51,Option.getD_some,r8pT,k0,k1,k2,k3,k8]
 clear k0 k1 k2 k3 k8
 go_wp2
 exact⟨rfl,⟨rfl,rfl,rfl,rfl,rfl,rfl,rfl,trivial⟩,rfl⟩
theorem r8q_2{tl n:Nat}(hn:min tl 64=n){A:Array Value}(hA:Slots 162 A [(0,x0),(1,x1),(2,x2),(3,x3),(8,x8),(9,.int .i64 tl)]):
 r8ps3.wp Try.prog (nrm fun a u=>a.defers=[]∧Slots 162 a.tmps [(0,x0),(1,x1),(2,x2),(3,x3),(8,x8),(9,.int .i64 n)]∧u.heap=w.heap) ⟨A,[]⟩ w:=by
 rcases Nat.lt_or_ge 64 tl with h|h
 ·obtain rfl:n=64:=by omega
  have q:(64:Int)<(tl:Int):=by omega
  obtain⟨s,rfl,k0,k1,k2,k3,k8,k9,_⟩:=r8p_s hA
  simp only[r8ps3,r8pBody,pC,Try.f51,Option.getD_some,r8pT,k0,k1,k2,k3,k8,k9]
  clear k0 k1 k2 k3 k8 k9
  go_wp2
  all_goals exact⟨rfl,⟨rfl,rfl,rfl,rfl,rfl,rfl,rfl,trivial⟩,rfl⟩
 ·obtain rfl:n=tl:=by omega
  have q:¬(64:Int)<(n:Int):=by omega
  obtain⟨s,rfl,k0,k1,k2,k3,k8,k9,_⟩:=r8p_s hA
  simp only[r8ps3,r8pBody,pC,Try.f51,Option.getD_some,r8pT,k0,k1,k2,k3,k8,k9]
  clear k0 k1 k2 k3 k8 k9
  go_wp2
  all_goals exact⟨rfl,⟨rfl,rfl,rfl,rfl,rfl,rfl,rfl,trivial⟩,rfl⟩
theorem r8q_3{mo:Int}{A:Array Value}(hA:Slots 162 A [(0,x0),(1,x1),(2,x2),(3,.int .i64 mo),(8,x8),(9,x9)]):
 r8ps5.wp Try.prog (nrm fun a u=>a.defers=[]∧Slots 162 a.tmps [(0,x0),(1,x1),(2,x2),(3,.int .i64 (max mo 0)),(8,x8),(9,x9)]∧u.heap=w.heap) ⟨A,[]⟩ w:=by
 rcases(by omega:mo<0∨0≤mo)with h|h
 ·have e:max mo 0=0:=by omega
  rw[e]
  obtain⟨s,rfl,k0,k1,k2,k3,k8,k9,_⟩:=r8p_s hA
  simp only[r8ps5,r8pBody,pC,Try.f51,Option.getD_some,r8pT,k0,k1,k2,k3,k8,k9]
  clear k0 k1 k2 k3 k8 k9
  go_wp2
  all_goals exact⟨rfl,⟨rfl,rfl,rfl,rfl,rfl,rfl,rfl,trivial⟩,rfl⟩
 ·have e:max mo 0=mo:=by omega
  have q:¬mo<0:=by omega
  rw[e]
  clear e h
  obtain⟨s,rfl,k0,k1,k2,k3,k8,k9,_⟩:=r8p_s hA
  simp only[r8ps5,r8pBody,pC,Try.f51,Option.getD_some,r8pT,k0,k1,k2,k3,k8,k9]
  clear k0 k1 k2 k3 k8 k9
  go_wp2
  all_goals exact⟨rfl,⟨rfl,rfl,rfl,rfl,rfl,rfl,rfl,trivial⟩,rfl⟩
theorem r8q_4{mo:Int}{M:Nat}(hM:min mo 1048576=(M:Int)){A:Array Value}(hA:Slots 162 A [(0,x0),(1,x1),(2,x2),(3,.int .i64 mo),(8,x8),(9,x9)]):
 r8ps7.wp Try.prog (nrm fun a u=>a.defers=[]∧Slots 162 a.tmps [(0,x0),(1,x1),(2,x2),(3,.int .i64 M),(8,x8),(9,x9)]∧u.heap=w.heap) ⟨A,[]⟩ w:=by
 rcases(by omega:1048576<mo∨mo≤1048576)with h|h
 ·have e:(M:Int)=1048576:=by omega
  rw[e]
  clear e hM
  obtain⟨s,rfl,k0,k1,k2,k3,k8,k9,_⟩:=r8p_s hA
  simp only[r8ps7,r8pBody,pC,Try.f51,Option.getD_some,r8pT,k0,k1,k2,k3,k8,k9]
  clear k0 k1 k2 k3 k8 k9
  go_wp2
  all_goals exact⟨rfl,⟨rfl,rfl,rfl,rfl,rfl,rfl,rfl,trivial⟩,rfl⟩
 ·have e:(M:Int)=mo:=by omega
  have q:¬1048576<mo:=by omega
  rw[e]
  clear e hM h
  obtain⟨s,rfl,k0,k1,k2,k3,k8,k9,_⟩:=r8p_s hA
  simp only[r8ps7,r8pBody,pC,Try.f51,Option.getD_some,r8pT,k0,k1,k2,k3,k8,k9]
  clear k0 k1 k2 k3 k8 k9
  go_wp2
  all_goals exact⟨rfl,⟨rfl,rfl,rfl,rfl,rfl,rfl,rfl,trivial⟩,rfl⟩
theorem r8q_8 {A:Array Value}(hA:Slots 162 A [(0,x0),(1,x1),(2,x2),(3,x3),(8,x8),(9,x9)]):
 r8pr8.wp Try.prog (nrm fun a u=>a.defers=[]∧Slots 162 a.tmps [(0,x0),(1,x1),(2,x2),(3,x3),(8,x8),(9,x9),(10,.int .i64 0)]∧u.heap=w.heap) ⟨A,[]⟩ w:=by
 obtain⟨s,rfl,k0,k1,k2,k3,k8,k9,_⟩:=r8p_s hA
 simp only[r8pr8,r8pBody,pC,Try.f51,Option.getD_some,r8pT,k0,k1,k2,k3,k8,k9]
 clear k0 k1 k2 k3 k8 k9
 go_wp2
 exact⟨rfl,⟨rfl,rfl,rfl,rfl,rfl,rfl,rfl,rfl,trivial⟩,rfl⟩
theorem r8q_9{i n:Nat}{A:Array Value}(hA:Slots 162 A [(0,x0),(1,x1),(2,x2),(3,x3),(8,x8),(9,.int .i64 n),(10,.int .i64 i)]):
 r8pr9.wp Try.prog (nrm fun a u=>a.defers=[]∧Slots 162 a.tmps [(0,x0),(1,x1),(2,x2),(3,x3),(8,x8),(9,.int .i64 n),(10,.int .i64 i),(28,.bool (decide (i<n)))]∧u.heap=w.heap) ⟨A,[]⟩ w:=by
 obtain⟨s,rfl,k0,k1,k2,k3,k8,k9,k10,_⟩:=r8p_s hA
 simp only[r8pr9,r8pBody,pC,Try.f51,Option.getD_some,r8pT,k0,k1,k2,k3,k8,k9,k10]
 clear k0 k1 k2 k3 k8 k9 k10
 go_wp2
 exact⟨rfl,⟨rfl,rfl,rfl,rfl,rfl,rfl,rfl,rfl,rfl,trivial⟩,rfl⟩
theorem r8q_10{i:Nat}(hi:i<1000){A:Array Value}(hA:Slots 162 A [(0,x0),(1,x1),(2,x2),(3,x3),(8,x8),(9,x9),(10,.int .i64 i)]):
 r8pr10.wp Try.prog (nrm fun a u=>a.defers=[]∧Slots 162 a.tmps [(0,x0),(1,x1),(2,x2),(3,x3),(8,x8),(9,x9),(10,.int .i64 ((i+1:Nat):Int))]∧u.heap=w.heap) ⟨A,[]⟩ w:=by
 have hwr:IntKind.i64.wrap ((i:Int)+1)=((i+1:Nat):Int):=IntWalk.i64_in _ (by omega)
 obtain⟨s,rfl,k0,k1,k2,k3,k8,k9,k10,_⟩:=r8p_s hA
 simp only[r8pr10,r8pBody,pC,Try.f51,Option.getD_some,r8pT,k0,k1,k2,k3,k8,k9,k10]
 clear k0 k1 k2 k3 k8 k9 k10
 go_wp2
 exact⟨rfl,⟨rfl,rfl,rfl,rfl,rfl,rfl,rfl,rfl,trivial⟩,rfl⟩
theorem r8q_11{i tb o tl tc l c:Nat}{a0:Option Addr}(hi:i<tl)(h:w.cell? ⟨tb,o+i,none⟩=some (.slice a0 l c)){A:Array Value}(hA:Slots 162 A [(0,x0),(1,.slice (some ⟨tb,o,none⟩) tl tc),(2,x2),(3,x3),(8,x8),(9,x9),(10,.int .i64 i)]):
 r8pr11.wp Try.prog (nrm fun a u=>a.defers=[]∧Slots 162 a.tmps [(0,x0),(1,.slice (some ⟨tb,o,none⟩) tl tc),(2,x2),(3,x3),(8,x8),(9,x9),(10,.int .i64 i),(11,.slice a0 l c)]∧u.heap=w.heap) ⟨A,[]⟩ w:=by
 have hi2:(i:Int)<(tl:Int):=by omega
 clear hi
 obtain⟨s,rfl,k0,k1,k2,k3,k8,k9,k10,_⟩:=r8p_s hA
 simp only[r8pr11,r8pBody,pC,Try.f51,Option.getD_some,r8pT,k0,k1,k2,k3,k8,k9,k10]
 clear k0 k1 k2 k3 k8 k9 k10
 go_wp2
 exact⟨rfl,⟨rfl,rfl,rfl,rfl,rfl,rfl,rfl,rfl,rfl,trivial⟩,rfl⟩
theorem r8q_12{l c:Nat}{a0:Option Addr}(hl:l≤c)(ha:65536<l→∃ob oo,a0=some ⟨ob,oo,none⟩){A:Array Value}(hA:Slots 162 A [(0,x0),(1,x1),(2,x2),(3,x3),(8,x8),(9,x9),(10,x10),(11,.slice a0 l c)]):
 r8ps16.wp Try.prog (nrm fun a u=>a.defers=[]∧Slots 162 a.tmps [(0,x0),(1,x1),(2,x2),(3,x3),(8,x8),(9,x9),(10,x10),(11,.slice a0 (min l 65536) c)]∧u.heap=w.heap) ⟨A,[]⟩ w:=by
 rcases Nat.lt_or_ge 65536 l with h|h
 ·have e:min l 65536=65536:=by omega
  have q:(65536:Int)<(l:Int):=by omega
  have q2:(65536:Int)≤(c:Int):=by omega
  obtain⟨ob,oo,rfl⟩:=ha h
  rw[e]
  clear e ha
  obtain⟨s,rfl,k0,k1,k2,k3,k8,k9,k10,k11,_⟩:=r8p_s hA
  simp only[r8ps16,r8pBody,pC,Try.f51,Option.getD_some,r8pT,k0,k1,k2,k3,k8,k9,k10,k11]
  clear k0 k1 k2 k3 k8 k9 k10 k11
  go_wp2
  all_goals exact⟨rfl,⟨rfl,rfl,rfl,rfl,rfl,rfl,rfl,rfl,rfl,trivial⟩,rfl⟩
 ·have e:min l 65536=l:=by omega
  have q:¬(65536:Int)<(l:Int):=by omega
  rw[e]
  clear e ha
  obtain⟨s,rfl,k0,k1,k2,k3,k8,k9,k10,k11,_⟩:=r8p_s hA
  simp only[r8ps16,r8pBody,pC,Try.f51,Option.getD_some,r8pT,k0,k1,k2,k3,k8,k9,k10,k11]
  clear k0 k1 k2 k3 k8 k9 k10 k11
  go_wp2
  all_goals exact⟨rfl,⟨rfl,rfl,rfl,rfl,rfl,rfl,rfl,rfl,rfl,trivial⟩,rfl⟩
theorem r8q_14{b0:Nat}{B:R8B}{s:SSt}{ts:List R8T}{i l c:Nat}{a:Option Addr}(h:R8A w b0 B s ts)(hn:ts.length=i)(hi:i<64){A:Array Value}(hA:Slots 162 A [(0,.pointer (some ⟨B.mb,0,none⟩)),(1,x1),(2,x2),(3,x3),(8,x8),(9,x9),(10,.int .i64 i),(11,.slice a l c)]):
 r8pr14.wp Try.prog (nrm fun a' u=>a'.defers=[]∧Slots 162 a'.tmps [(0,.pointer (some ⟨B.mb,0,none⟩)),(1,x1),(2,x2),(3,x3),(8,x8),(9,x9),(10,.int .i64 i),(11,.slice a l c)]∧(∃v',R8A u b0 {B with tv:=v'} s (ts++[t8n (.slice a l c) i]))∧Stay b0 w u) ⟨A,[]⟩ w:=by
 obtain⟨i0,z0,hi0,hz0,hz1,hz2,hz3⟩:=infoC149
 subst hn
 have E:Aside (R8A w b0 B s ts):=h
 have m2:w.cell? ⟨B.mb,2,none⟩=some B.tv:=by have:=h.o;simp[World.cell?,this]
 have zm:w.frozen? ⟨B.mb,2,none⟩=false:=by have:=h.o;simp[World.frozen?,this]
 obtain⟨ta,tc,htv⟩:∃ta tc,B.tv= .slice ta ts.length tc:=by
  rcases h.row.2 with⟨e,h1⟩|⟨g,cap,cur,e,_⟩
  ·exact⟨none,0,by rw[e,h1]⟩
  ·exact⟨_,_,e⟩
 have hrow:=h.row
 rw[htv]at m2 hrow
 have hml:=h.low_m
 have hmt:some B.mb≠(Value.slice ta ts.length tc).ownBlock:=fun e=>by obtain⟨c,hc⟩:=row_blk hrow e.symm;rw[h.o]at hc;cases hc
 clear h
 obtain⟨s,rfl,k0,k1,k2,k3,k8,k9,k10,k11,_⟩:=r8p_s hA
 simp only[r8pr14,r8pBody,pC,Try.f51,Option.getD_some,r8pT,k0,k1,k2,k3,k8,k9,k10,k11]
 clear k0 k1 k2 k3 k8 k9 k10 k11
 go_wp2_with (at_builtin;refine wpList_append_fresh rfl (.tmp 44) (.tmp 48) 145 rfl 149 i0 z0 8 112 Try.underlying145 hi0 hz0 hz1 hz2 hz3 (by decide) (.slice ta ts.length tc) ts.length (r8C ts) rfl (hrow.alloc _) ⟨w.heap.size,0,none⟩ 1 1 [.slice a l c,.slice none 0 0,.int .i64 (ts.length:Nat),.int .i64 0,.int .i64 0,.int .i64 0,.int .i64 0,.slice none 0 0] rfl rfl (new_cells (X:=w) (l:=[.slice a l c,.slice none 0 0,.int .i64 (ts.length:Nat),.int .i64 0,.int .i64 0,.int .i64 0,.int .i64 0,.slice none 0 0]) rfl) (fun u hu=>by simp only[List.mem_cons,List.not_mem_nil,or_false]at hu;rcases hu with rfl|rfl|rfl|rfl|rfl|rfl|rfl|rfl<;>rfl) (by unfold maxLen;omega) (by omega) ?_;intro v' w1 hown hgrow hfr;obtain⟨g1,cap1,rfl⟩:=own_slice hown;have hk2:=grown_old hgrow (r:=B.mb) hml hmt;have k2:=(cell_heap (j:=2) hk2).1.trans m2;have y2:=(cell_heap (j:=2) hk2).2.trans zm;have F:Aside (w1.ownsRow 0 149 8 (Value.slice (some ⟨g1,0,none⟩) (ts.length+1) cap1) (ts.length+1) (r8C ts++[.slice a l c,.slice none 0 0,.int .i64 (ts.length:Nat),.int .i64 0,.int .i64 0,.int .i64 0,.int .i64 0,.slice none 0 0])∧(∀r,r<w.heap.size→some r≠(Value.slice ta ts.length tc).ownBlock→w1.heap[r]? =w.heap[r]?)∧w.heap.size≤w1.heap.size∧((Value.slice (some ⟨g1,0,none⟩) (ts.length+1) cap1).ownBlock=(Value.slice ta ts.length tc).ownBlock∨∃g,(Value.slice (some ⟨g1,0,none⟩) (ts.length+1) cap1).ownBlock=some g∧w.heap.size≤g)):=⟨hown,fun r hr hn=>grown_old hgrow hr hn,Nat.le_trans (by simp) hgrow.size,hfr.imp id fun⟨g',h1,h2⟩=>⟨g',h1,Nat.le_trans (by simp) h2⟩⟩;clear hown hgrow hfr hk2)
 obtain⟨f1,f2,f3,f4⟩:=F.out
 rw[← htv]at f2 f4
 have hb:=E.out.bs
 refine⟨rfl,⟨rfl,rfl,rfl,rfl,rfl,rfl,rfl,rfl,rfl,trivial⟩,⟨_,E.out.born (u3:=w1) f1 f2 f3 f4 hb rfl⟩,?_⟩
 have hS:Stay b0 w w1:=⟨f3,fun r hr=>f2 r (by omega) fun e=>by have:=E.out.b3 r e.symm;omega,fun r c y z q e=>f2 r (alt e) fun e2=>by obtain⟨d,hd⟩:=row_blk E.out.row e2.symm;rcases q with rfl|rfl<;>(rw[e]at hd;cases hd)⟩
 exact(hS.set (a:=⟨B.mb,2,none⟩) E.out.b1 _ (.inl E.out.nt_m)).heap rfl
theorem r8q_15{mb i:Nat}{R:World→Prop}(hC:Calls Try.prog 83 #[.pointer (some ⟨mb,0,none⟩),.int .i64 i] w fun e u=>e= .returned (.tuple #[])∧R u){A:Array Value}(hA:Slots 162 A [(0,.pointer (some ⟨mb,0,none⟩)),(1,x1),(2,x2),(3,x3),(8,x8),(9,x9),(10,.int .i64 i)]):
 r8pr15.wp Try.prog (nrm fun a' u=>a'.defers=[]∧Slots 162 a'.tmps [(0,.pointer (some ⟨mb,0,none⟩)),(1,x1),(2,x2),(3,x3),(8,x8),(9,x9),(10,.int .i64 i)]∧∃v,v.heap=u.heap∧R v) ⟨A,[]⟩ w:=by
 have C:Aside (Calls Try.prog 83 #[.pointer (some ⟨mb,0,none⟩),.int .i64 i] w fun e u=>e= .returned (.tuple #[])∧R u):=hC
 clear hC
 obtain⟨s,rfl,k0,k1,k2,k3,k8,k9,k10,_⟩:=r8p_s hA
 simp only[r8pr15,r8pBody,pC,Try.f51,Option.getD_some,r8pT,k0,k1,k2,k3,k8,k9,k10]
 clear k0 k1 k2 k3 k8 k9 k10
 go_wp2_with (go_at_call 83;refine Calls.mono C.out ?_;rintro e u ⟨rfl,hu⟩;have U:Aside (R u):=hu;clear hu)
 exact⟨rfl,⟨rfl,rfl,rfl,rfl,rfl,rfl,rfl,rfl,trivial⟩,_,rfl,U.out⟩
theorem r8q_16 {A:Array Value}(hA:Slots 162 A [(0,x0),(1,x1),(2,x2),(3,x3),(8,x8),(9,x9)]):
 r8pr16.wp Try.prog (nrm fun a u=>a.defers=[]∧Slots 162 a.tmps [(0,x0),(1,x1),(2,x2),(3,x3),(8,x8),(9,x9),(12,.slice none 0 0)]∧u.heap=w.heap) ⟨A,[]⟩ w:=by
 obtain⟨s,rfl,k0,k1,k2,k3,k8,k9,_⟩:=r8p_s hA
 simp only[r8pr16,r8pBody,pC,Try.f51,Option.getD_some,r8pT,k0,k1,k2,k3,k8,k9]
 clear k0 k1 k2 k3 k8 k9
 go_wp2
 exact⟨rfl,⟨rfl,rfl,rfl,rfl,rfl,rfl,rfl,rfl,trivial⟩,rfl⟩
theorem r8q_17 {A:Array Value}(hA:Slots 162 A [(0,x0),(1,x1),(2,x2),(3,x3),(8,x8),(9,x9),(12,x12)]):
 r8pr17.wp Try.prog (nrm fun a u=>a.defers=[]∧Slots 162 a.tmps [(0,x0),(1,x1),(2,x2),(3,x3),(8,x8),(9,x9),(12,x12),(13,.int .i64 0)]∧u.heap=w.heap) ⟨A,[]⟩ w:=by
 obtain⟨s,rfl,k0,k1,k2,k3,k8,k9,k12,_⟩:=r8p_s hA
 simp only[r8pr17,r8pBody,pC,Try.f51,Option.getD_some,r8pT,k0,k1,k2,k3,k8,k9,k12]
 clear k0 k1 k2 k3 k8 k9 k12
 go_wp2
 exact⟨rfl,⟨rfl,rfl,rfl,rfl,rfl,rfl,rfl,rfl,rfl,trivial⟩,rfl⟩
theorem r8q_18{k sl sc ol oc M:Nat}{sa oa:Option Addr}{A:Array Value}(hA:Slots 162 A [(0,x0),(1,x1),(2,.slice sa sl sc),(3,.int .i64 M),(8,x8),(9,x9),(12,.slice oa ol oc),(13,.int .i64 k)]):
 r8pr18.wp Try.prog (nrm fun a u=>a.defers=[]∧(Slots 162 a.tmps [(0,x0),(1,x1),(2,.slice sa sl sc),(3,.int .i64 M),(8,x8),(9,x9),(12,.slice oa ol oc),(13,.int .i64 k)]∧GuardB (a.tmps.getD 64 undef) ((k:Int)<(sl:Int)∧(ol:Int)<(M:Int)))∧u.heap=w.heap) ⟨A,[]⟩ w:=by
 by_cases h:(k:Int)<(sl:Int)
 ·have q:(k:Int)<(sl:Int):=by omega
  clear h
  obtain⟨s,rfl,k0,k1,k2,k3,k8,k9,k12,k13,_⟩:=r8p_s hA
  simp only[r8pr18,r8pBody,pC,Try.f51,Option.getD_some,r8pT,k0,k1,k2,k3,k8,k9,k12,k13]
  clear k0 k1 k2 k3 k8 k9 k12 k13
  go_wp2
  all_goals exact⟨rfl,⟨⟨rfl,rfl,rfl,rfl,rfl,rfl,rfl,rfl,rfl,trivial⟩,_,rfl,by simp[q]⟩,rfl⟩
 ·have q:¬(k:Int)<(sl:Int):=by omega
  clear h
  obtain⟨s,rfl,k0,k1,k2,k3,k8,k9,k12,k13,_⟩:=r8p_s hA
  simp only[r8pr18,r8pBody,pC,Try.f51,Option.getD_some,r8pT,k0,k1,k2,k3,k8,k9,k12,k13]
  clear k0 k1 k2 k3 k8 k9 k12 k13
  go_wp2
  all_goals exact⟨rfl,⟨⟨rfl,rfl,rfl,rfl,rfl,rfl,rfl,rfl,rfl,trivial⟩,_,rfl,⟨fun h=>(by cases h),fun h=>(by omega)⟩⟩,rfl⟩
theorem r8q_20{k sb so sl sc:Nat}{x:Int}(hk:k<sl)(h:w.cell? ⟨sb,so+k,none⟩=some (.int .i64 x)){A:Array Value}(hA:Slots 162 A [(0,x0),(1,x1),(2,.slice (some ⟨sb,so,none⟩) sl sc),(3,x3),(8,x8),(9,x9),(12,x12),(13,.int .i64 k)]):
 r8pr20.wp Try.prog (nrm fun a u=>a.defers=[]∧Slots 162 a.tmps [(0,x0),(1,x1),(2,.slice (some ⟨sb,so,none⟩) sl sc),(3,x3),(8,x8),(9,x9),(12,x12),(13,.int .i64 k),(14,.int .i64 x)]∧u.heap=w.heap) ⟨A,[]⟩ w:=by
 have hk2:(k:Int)<(sl:Int):=by omega
 clear hk
 obtain⟨s,rfl,k0,k1,k2,k3,k8,k9,k12,k13,_⟩:=r8p_s hA
 simp only[r8pr20,r8pBody,pC,Try.f51,Option.getD_some,r8pT,k0,k1,k2,k3,k8,k9,k12,k13]
 clear k0 k1 k2 k3 k8 k9 k12 k13
 go_wp2
 exact⟨rfl,⟨rfl,rfl,rfl,rfl,rfl,rfl,rfl,rfl,rfl,rfl,trivial⟩,rfl⟩
theorem r8q_19{k:Nat}(hk:k+1<9223372036854775808){A:Array Value}(hA:Slots 162 A [(0,x0),(1,x1),(2,x2),(3,x3),(8,x8),(9,x9),(12,x12),(13,.int .i64 k)]):
 r8pr19.wp Try.prog (nrm fun a u=>a.defers=[]∧Slots 162 a.tmps [(0,x0),(1,x1),(2,x2),(3,x3),(8,x8),(9,x9),(12,x12),(13,.int .i64 ((k+1:Nat):Int))]∧u.heap=w.heap) ⟨A,[]⟩ w:=by
 have hwr:IntKind.i64.wrap ((k:Int)+1)=((k+1:Nat):Int):=IntWalk.i64_in _ (by omega)
 obtain⟨s,rfl,k0,k1,k2,k3,k8,k9,k12,k13,_⟩:=r8p_s hA
 simp only[r8pr19,r8pBody,pC,Try.f51,Option.getD_some,r8pT,k0,k1,k2,k3,k8,k9,k12,k13]
 clear k0 k1 k2 k3 k8 k9 k12 k13
 go_wp2
 exact⟨rfl,⟨rfl,rfl,rfl,rfl,rfl,rfl,rfl,rfl,rfl,trivial⟩,rfl⟩
theorem r8q_21a{mb n:Nat}{x:Int}(h:x<0){A:Array Value}(hA:Slots 162 A [(0,.pointer (some ⟨mb,0,none⟩)),(1,x1),(2,x2),(3,x3),(8,x8),(9,.int .i64 n),(12,x12),(13,x13),(14,.int .i64 x)]):
 r8pr21.wp Try.prog (nrm fun a u=>a.defers=[]∧Slots 162 a.tmps [(0,.pointer (some ⟨mb,0,none⟩)),(1,x1),(2,x2),(3,x3),(8,x8),(9,.int .i64 n),(12,x12),(13,x13),(14,.int .i64 x),(88,.bool false)]∧u.heap=w.heap) ⟨A,[]⟩ w:=by
 have q:¬(0:Int)≤x:=by omega
 obtain⟨s,rfl,k0,k1,k2,k3,k8,k9,k12,k13,k14,_⟩:=r8p_s hA
 simp only[r8pr21,r8pBody,pC,Try.f51,Option.getD_some,r8pT,k0,k1,k2,k3,k8,k9,k12,k13,k14]
 clear k0 k1 k2 k3 k8 k9 k12 k13 k14
 go_wp2
 all_goals exact⟨rfl,⟨rfl,rfl,rfl,rfl,rfl,rfl,rfl,rfl,rfl,rfl,rfl,trivial⟩,rfl⟩
theorem r8q_21b{mb n:Nat}{x:Int}(h0:0≤x)(h:¬x<(n:Int)){A:Array Value}(hA:Slots 162 A [(0,.pointer (some ⟨mb,0,none⟩)),(1,x1),(2,x2),(3,x3),(8,x8),(9,.int .i64 n),(12,x12),(13,x13),(14,.int .i64 x)]):
 r8pr21.wp Try.prog (nrm fun a u=>a.defers=[]∧Slots 162 a.tmps [(0,.pointer (some ⟨mb,0,none⟩)),(1,x1),(2,x2),(3,x3),(8,x8),(9,.int .i64 n),(12,x12),(13,x13),(14,.int .i64 x),(88,.bool false)]∧u.heap=w.heap) ⟨A,[]⟩ w:=by
 obtain⟨s,rfl,k0,k1,k2,k3,k8,k9,k12,k13,k14,_⟩:=r8p_s hA
 simp only[r8pr21,r8pBody,pC,Try.f51,Option.getD_some,r8pT,k0,k1,k2,k3,k8,k9,k12,k13,k14]
 clear k0 k1 k2 k3 k8 k9 k12 k13 k14
 go_wp2
 all_goals exact⟨rfl,⟨rfl,rfl,rfl,rfl,rfl,rfl,rfl,rfl,rfl,rfl,rfl,trivial⟩,rfl⟩
theorem r8q_21c{mb n:Nat}{x:Int}{i tb tc tl p:Nat}(hx:x=i)(h:i<n)(hl:i<tl)(h2:w.cell? ⟨mb,2,none⟩=some (.slice (some ⟨tb,0,none⟩) tl tc))(h4:w.cell? ⟨tb,i*8+4,none⟩=some (.int .i64 p)){A:Array Value}(hA:Slots 162 A [(0,.pointer (some ⟨mb,0,none⟩)),(1,x1),(2,x2),(3,x3),(8,x8),(9,.int .i64 n),(12,x12),(13,x13),(14,.int .i64 x)]):
 r8pr21.wp Try.prog (nrm fun a u=>a.defers=[]∧Slots 162 a.tmps [(0,.pointer (some ⟨mb,0,none⟩)),(1,x1),(2,x2),(3,x3),(8,x8),(9,.int .i64 n),(12,x12),(13,x13),(14,.int .i64 x),(88,.bool (decide (0<p)))]∧u.heap=w.heap) ⟨A,[]⟩ w:=by
 subst hx
 have q1:(i:Int)<(n:Int):=by omega
 have q2:(i:Int)<(tl:Int):=by omega
 have q3:(0:Int)≤(i:Int):=by omega
 clear h hl
 obtain⟨s,rfl,k0,k1,k2,k3,k8,k9,k12,k13,k14,_⟩:=r8p_s hA
 simp only[r8pr21,r8pBody,pC,Try.f51,Option.getD_some,r8pT,k0,k1,k2,k3,k8,k9,k12,k13,k14]
 clear k0 k1 k2 k3 k8 k9 k12 k13 k14
 go_wp2
 all_goals exact⟨rfl,⟨rfl,rfl,rfl,rfl,rfl,rfl,rfl,rfl,rfl,rfl,rfl,trivial⟩,rfl⟩
theorem r8q_22{W:World}{b0 mb k i:Nat}{ops:Nat→List Op4}{g:GS SPl}{order:List Nat}{oa:Option Addr}{oc:Nat}(h:RW8 W b0 mb k ops g order (.slice oa order.length oc) w)(hl:order.length<10000000){A:Array Value}(hA:Slots 162 A [(0,x0),(1,x1),(2,x2),(3,x3),(8,x8),(9,x9),(12,.slice oa order.length oc),(13,x13),(14,.int .i64 i)]):
 r8pr22.wp Try.prog (nrm fun a' u=>a'.defers=[]∧∃oa' oc',Slots 162 a'.tmps [(0,x0),(1,x1),(2,x2),(3,x3),(8,x8),(9,x9),(12,(.slice oa' (order.length+1) oc')),(13,x13),(14,.int .i64 i)]∧RW8 W b0 mb k ops g (order++[i]) (.slice oa' (order.length+1) oc') u) ⟨A,[]⟩ w:=by
 obtain⟨i0,z0,hi0,hz0,hz1,hz2,hz3⟩:=infoC3
 have E:Aside (RW8 W b0 mb k ops g order (.slice oa order.length oc) w):=h
 have hrow:=h.ord
 clear h
 obtain⟨s,rfl,k0,k1,k2,k3,k8,k9,k12,k13,k14,_⟩:=r8p_s hA
 simp only[r8pr22,r8pBody,pC,Try.f51,Option.getD_some,r8pT,k0,k1,k2,k3,k8,k9,k12,k13,k14]
 clear k0 k1 k2 k3 k8 k9 k12 k13 k14
 go_wp2_with (at_builtin;refine wpList_append_fresh rfl (.tmp 89) (.tmp 91) 24 rfl 3 i0 z0 1 8 Try.underlying24 hi0 hz0 hz1 hz2 hz3 (by decide) (.slice oa order.length oc) order.length (order.map fun i:Nat=>Value.int .i64 i) rfl (hrow.alloc _) ⟨w.heap.size,0,none⟩ 1 1 [.int .i64 i] rfl rfl (new_cells (X:=w) (l:=[.int .i64 i]) rfl) (by intro u hu;simp at hu;subst hu;rfl) (by unfold maxLen;omega) (by omega) ?_;intro v' w1 hown hgrow hfr;obtain⟨g1,cap1,rfl⟩:=own_slice hown;have F:Aside (RW8 W b0 mb k ops g (order++[i]) (.slice (some ⟨g1,0,none⟩) (order.length+1) cap1) w1):=E.out.ord_more hown (fun r hr hn=>grown_old hgrow hr hn) (Nat.le_trans (by simp) hgrow.size) (hfr.imp id fun⟨g',h1,h2⟩=>⟨g',h1,Nat.le_trans (by simp) h2⟩) rfl;clear hown hgrow hfr)
 exact⟨rfl,_,_,⟨rfl,rfl,rfl,rfl,rfl,rfl,rfl,rfl,rfl,rfl,trivial⟩,F.out.heap rfl⟩
theorem r8q_23{mb i:Nat}{R:World→Prop}(hC:Calls Try.prog 84 #[.pointer (some ⟨mb,0,none⟩),.int .i64 i] w fun e u=>e= .returned (.tuple #[])∧R u){A:Array Value}(hA:Slots 162 A [(0,.pointer (some ⟨mb,0,none⟩)),(1,x1),(2,x2),(3,x3),(8,x8),(9,x9),(12,x12),(13,x13),(14,.int .i64 i)]):
 r8pr23.wp Try.prog (nrm fun a' u=>a'.defers=[]∧Slots 162 a'.tmps [(0,.pointer (some ⟨mb,0,none⟩)),(1,x1),(2,x2),(3,x3),(8,x8),(9,x9),(12,x12),(13,x13),(14,.int .i64 i)]∧∃v,v.heap=u.heap∧R v) ⟨A,[]⟩ w:=by
 have C:Aside (Calls Try.prog 84 #[.pointer (some ⟨mb,0,none⟩),.int .i64 i] w fun e u=>e= .returned (.tuple #[])∧R u):=hC
 clear hC
 obtain⟨s,rfl,k0,k1,k2,k3,k8,k9,k12,k13,k14,_⟩:=r8p_s hA
 simp only[r8pr23,r8pBody,pC,Try.f51,Option.getD_some,r8pT,k0,k1,k2,k3,k8,k9,k12,k13,k14]
 clear k0 k1 k2 k3 k8 k9 k12 k13 k14
 go_wp2_with (go_at_call 84;refine Calls.mono C.out ?_;rintro e u ⟨rfl,hu⟩;have U:Aside (R u):=hu;clear hu)
 exact⟨rfl,⟨rfl,rfl,rfl,rfl,rfl,rfl,rfl,rfl,rfl,rfl,trivial⟩,_,rfl,U.out⟩
theorem r8q_24{mb i:Nat}{R:World→Prop}(hC:Calls Try.prog 83 #[.pointer (some ⟨mb,0,none⟩),.int .i64 i] w fun e u=>e= .returned (.tuple #[])∧R u){A:Array Value}(hA:Slots 162 A [(0,.pointer (some ⟨mb,0,none⟩)),(1,x1),(2,x2),(3,x3),(8,x8),(9,x9),(12,x12),(13,x13),(14,.int .i64 i)]):
 r8pr24.wp Try.prog (nrm fun a' u=>a'.defers=[]∧Slots 162 a'.tmps [(0,.pointer (some ⟨mb,0,none⟩)),(1,x1),(2,x2),(3,x3),(8,x8),(9,x9),(12,x12),(13,x13),(14,.int .i64 i)]∧∃v,v.heap=u.heap∧R v) ⟨A,[]⟩ w:=by
 have C:Aside (Calls Try.prog 83 #[.pointer (some ⟨mb,0,none⟩),.int .i64 i] w fun e u=>e= .returned (.tuple #[])∧R u):=hC
 clear hC
 obtain⟨s,rfl,k0,k1,k2,k3,k8,k9,k12,k13,k14,_⟩:=r8p_s hA
 simp only[r8pr24,r8pBody,pC,Try.f51,Option.getD_some,r8pT,k0,k1,k2,k3,k8,k9,k12,k13,k14]
 clear k0 k1 k2 k3 k8 k9 k12 k13 k14
 go_wp2_with (go_at_call 83;refine Calls.mono C.out ?_;rintro e u ⟨rfl,hu⟩;have U:Aside (R u):=hu;clear hu)
 exact⟨rfl,⟨rfl,rfl,rfl,rfl,rfl,rfl,rfl,rfl,rfl,rfl,trivial⟩,_,rfl,U.out⟩
theorem r8q_25{mb M ol oc:Nat}{oa:Option Addr}{b:Bool}(hC:Calls Try.prog 85 #[.pointer (some ⟨mb,0,none⟩)] w fun e u=>e= .returned (.bool b)∧u.heap=w.heap){A:Array Value}(hA:Slots 162 A [(0,.pointer (some ⟨mb,0,none⟩)),(1,x1),(2,x2),(3,.int .i64 M),(8,x8),(9,x9),(12,.slice oa ol oc)]):
 r8pr25.wp Try.prog (nrm fun a u=>a.defers=[]∧(Slots 162 a.tmps [(0,.pointer (some ⟨mb,0,none⟩)),(1,x1),(2,x2),(3,.int .i64 M),(8,x8),(9,x9),(12,.slice oa ol oc)]∧GuardB (a.tmps.getD 106 undef) (b=true∧(ol:Int)<(M:Int)))∧u.heap=w.heap) ⟨A,[]⟩ w:=by
 have C:Aside (Calls Try.prog 85 #[.pointer (some ⟨mb,0,none⟩)] w fun e u=>e= .returned (.bool b)∧u.heap=w.heap):=hC
 clear hC
 cases b with
 | true=>
   obtain⟨s,rfl,k0,k1,k2,k3,k8,k9,k12,_⟩:=r8p_s hA
   simp only[r8pr25,r8pBody,pC,Try.f51,Option.getD_some,r8pT,k0,k1,k2,k3,k8,k9,k12]
   clear k0 k1 k2 k3 k8 k9 k12
   go_wp2_with (go_at_call 85;refine Calls.mono C.out ?_;rintro e u ⟨rfl,hu⟩;have U:Aside (u.heap=w.heap):=hu;clear hu)
   all_goals exact⟨rfl,⟨⟨rfl,rfl,rfl,rfl,rfl,rfl,rfl,rfl,trivial⟩,_,rfl,by simp⟩,U.out⟩
 | false=>
   obtain⟨s,rfl,k0,k1,k2,k3,k8,k9,k12,_⟩:=r8p_s hA
   simp only[r8pr25,r8pBody,pC,Try.f51,Option.getD_some,r8pT,k0,k1,k2,k3,k8,k9,k12]
   clear k0 k1 k2 k3 k8 k9 k12
   go_wp2_with (go_at_call 85;refine Calls.mono C.out ?_;rintro e u ⟨rfl,hu⟩;have U:Aside (u.heap=w.heap):=hu;clear hu)
   all_goals exact⟨rfl,⟨⟨rfl,rfl,rfl,rfl,rfl,rfl,rfl,rfl,trivial⟩,_,rfl,by simp⟩,U.out⟩
theorem r8q_26 {A:Array Value}(hA:Slots 162 A [(0,x0),(1,x1),(2,x2),(3,x3),(8,x8),(9,x9),(12,x12)]):
 r8pr26.wp Try.prog (nrm fun a u=>a.defers=[]∧Slots 162 a.tmps [(0,x0),(1,x1),(2,x2),(3,x3),(8,x8),(9,x9),(12,x12),(15,.int .i64 0)]∧u.heap=w.heap) ⟨A,[]⟩ w:=by
 obtain⟨s,rfl,k0,k1,k2,k3,k8,k9,k12,_⟩:=r8p_s hA
 simp only[r8pr26,r8pBody,pC,Try.f51,Option.getD_some,r8pT,k0,k1,k2,k3,k8,k9,k12]
 clear k0 k1 k2 k3 k8 k9 k12
 go_wp2
 exact⟨rfl,⟨rfl,rfl,rfl,rfl,rfl,rfl,rfl,rfl,rfl,trivial⟩,rfl⟩
theorem r8q_27{k n ol oc M:Nat}{oa:Option Addr}{A:Array Value}(hA:Slots 162 A [(0,x0),(1,x1),(2,x2),(3,.int .i64 M),(8,x8),(9,.int .i64 n),(12,.slice oa ol oc),(15,.int .i64 k)]):
 r8pr27.wp Try.prog (nrm fun a u=>a.defers=[]∧(Slots 162 a.tmps [(0,x0),(1,x1),(2,x2),(3,.int .i64 M),(8,x8),(9,.int .i64 n),(12,.slice oa ol oc),(15,.int .i64 k)]∧GuardB (a.tmps.getD 115 undef) ((k:Int)<(n:Int)∧(ol:Int)<(M:Int)))∧u.heap=w.heap) ⟨A,[]⟩ w:=by
 by_cases h:(k:Int)<(n:Int)
 ·have q:(k:Int)<(n:Int):=by omega
  clear h
  obtain⟨s,rfl,k0,k1,k2,k3,k8,k9,k12,k15,_⟩:=r8p_s hA
  simp only[r8pr27,r8pBody,pC,Try.f51,Option.getD_some,r8pT,k0,k1,k2,k3,k8,k9,k12,k15]
  clear k0 k1 k2 k3 k8 k9 k12 k15
  go_wp2
  all_goals exact⟨rfl,⟨⟨rfl,rfl,rfl,rfl,rfl,rfl,rfl,rfl,rfl,trivial⟩,_,rfl,by simp[q]⟩,rfl⟩
 ·have q:¬(k:Int)<(n:Int):=by omega
  clear h
  obtain⟨s,rfl,k0,k1,k2,k3,k8,k9,k12,k15,_⟩:=r8p_s hA
  simp only[r8pr27,r8pBody,pC,Try.f51,Option.getD_some,r8pT,k0,k1,k2,k3,k8,k9,k12,k15]
  clear k0 k1 k2 k3 k8 k9 k12 k15
  go_wp2
  all_goals exact⟨rfl,⟨⟨rfl,rfl,rfl,rfl,rfl,rfl,rfl,rfl,rfl,trivial⟩,_,rfl,⟨fun h=>(by cases h),fun h=>(by omega)⟩⟩,rfl⟩
theorem r8q_28{k:Nat}(hk:k<1000000000){A:Array Value}(hA:Slots 162 A [(0,x0),(1,x1),(2,x2),(3,x3),(8,x8),(9,x9),(12,x12),(15,.int .i64 k)]):
 r8pr28.wp Try.prog (nrm fun a u=>a.defers=[]∧Slots 162 a.tmps [(0,x0),(1,x1),(2,x2),(3,x3),(8,x8),(9,x9),(12,x12),(15,.int .i64 ((k+1:Nat):Int))]∧u.heap=w.heap) ⟨A,[]⟩ w:=by
 have hwr:IntKind.i64.wrap ((k:Int)+1)=((k+1:Nat):Int):=IntWalk.i64_in _ (by omega)
 obtain⟨s,rfl,k0,k1,k2,k3,k8,k9,k12,k15,_⟩:=r8p_s hA
 simp only[r8pr28,r8pBody,pC,Try.f51,Option.getD_some,r8pT,k0,k1,k2,k3,k8,k9,k12,k15]
 clear k0 k1 k2 k3 k8 k9 k12 k15
 go_wp2
 exact⟨rfl,⟨rfl,rfl,rfl,rfl,rfl,rfl,rfl,rfl,rfl,trivial⟩,rfl⟩
theorem r8q_29{mb i tb tc tl p:Nat}(hl:i<tl)(h2:w.cell? ⟨mb,2,none⟩=some (.slice (some ⟨tb,0,none⟩) tl tc))(h4:w.cell? ⟨tb,i*8+4,none⟩=some (.int .i64 p)){A:Array Value}(hA:Slots 162 A [(0,.pointer (some ⟨mb,0,none⟩)),(1,x1),(2,x2),(3,x3),(8,x8),(9,x9),(12,x12),(15,.int .i64 i)]):
 r8pr29.wp Try.prog (nrm fun a u=>a.defers=[]∧Slots 162 a.tmps [(0,.pointer (some ⟨mb,0,none⟩)),(1,x1),(2,x2),(3,x3),(8,x8),(9,x9),(12,x12),(15,.int .i64 i),(126,.bool (decide (0<p)))]∧u.heap=w.heap) ⟨A,[]⟩ w:=by
 have q2:(i:Int)<(tl:Int):=by omega
 clear hl
 obtain⟨s,rfl,k0,k1,k2,k3,k8,k9,k12,k15,_⟩:=r8p_s hA
 simp only[r8pr29,r8pBody,pC,Try.f51,Option.getD_some,r8pT,k0,k1,k2,k3,k8,k9,k12,k15]
 clear k0 k1 k2 k3 k8 k9 k12 k15
 go_wp2
 exact⟨rfl,⟨rfl,rfl,rfl,rfl,rfl,rfl,rfl,rfl,rfl,rfl,trivial⟩,rfl⟩
theorem r8q_30{W:World}{b0 mb k i:Nat}{ops:Nat→List Op4}{g:GS SPl}{order:List Nat}{oa:Option Addr}{oc:Nat}(h:RW8 W b0 mb k ops g order (.slice oa order.length oc) w)(hl:order.length<10000000){A:Array Value}(hA:Slots 162 A [(0,x0),(1,x1),(2,x2),(3,x3),(8,x8),(9,x9),(12,.slice oa order.length oc),(15,.int .i64 i)]):
 r8pr30.wp Try.prog (nrm fun a' u=>a'.defers=[]∧∃oa' oc',Slots 162 a'.tmps [(0,x0),(1,x1),(2,x2),(3,x3),(8,x8),(9,x9),(12,(.slice oa' (order.length+1) oc')),(15,.int .i64 i)]∧RW8 W b0 mb k ops g (order++[i]) (.slice oa' (order.length+1) oc') u) ⟨A,[]⟩ w:=by
 obtain⟨i0,z0,hi0,hz0,hz1,hz2,hz3⟩:=infoC3
 have E:Aside (RW8 W b0 mb k ops g order (.slice oa order.length oc) w):=h
 have hrow:=h.ord
 clear h
 obtain⟨s,rfl,k0,k1,k2,k3,k8,k9,k12,k15,_⟩:=r8p_s hA
 simp only[r8pr30,r8pBody,pC,Try.f51,Option.getD_some,r8pT,k0,k1,k2,k3,k8,k9,k12,k15]
 clear k0 k1 k2 k3 k8 k9 k12 k15
 go_wp2_with (at_builtin;refine wpList_append_fresh rfl (.tmp 127) (.tmp 129) 24 rfl 3 i0 z0 1 8 Try.underlying24 hi0 hz0 hz1 hz2 hz3 (by decide) (.slice oa order.length oc) order.length (order.map fun i:Nat=>Value.int .i64 i) rfl (hrow.alloc _) ⟨w.heap.size,0,none⟩ 1 1 [.int .i64 i] rfl rfl (new_cells (X:=w) (l:=[.int .i64 i]) rfl) (by intro u hu;simp at hu;subst hu;rfl) (by unfold maxLen;omega) (by omega) ?_;intro v' w1 hown hgrow hfr;obtain⟨g1,cap1,rfl⟩:=own_slice hown;have F:Aside (RW8 W b0 mb k ops g (order++[i]) (.slice (some ⟨g1,0,none⟩) (order.length+1) cap1) w1):=E.out.ord_more hown (fun r hr hn=>grown_old hgrow hr hn) (Nat.le_trans (by simp) hgrow.size) (hfr.imp id fun⟨g',h1,h2⟩=>⟨g',h1,Nat.le_trans (by simp) h2⟩) rfl;clear hown hgrow hfr)
 exact⟨rfl,_,_,⟨rfl,rfl,rfl,rfl,rfl,rfl,rfl,rfl,rfl,trivial⟩,F.out.heap rfl⟩
theorem r8q_31{mb i:Nat}{R:World→Prop}(hC:Calls Try.prog 84 #[.pointer (some ⟨mb,0,none⟩),.int .i64 i] w fun e u=>e= .returned (.tuple #[])∧R u){A:Array Value}(hA:Slots 162 A [(0,.pointer (some ⟨mb,0,none⟩)),(1,x1),(2,x2),(3,x3),(8,x8),(9,x9),(12,x12),(15,.int .i64 i)]):
 r8pr31.wp Try.prog (nrm fun a' u=>a'.defers=[]∧Slots 162 a'.tmps [(0,.pointer (some ⟨mb,0,none⟩)),(1,x1),(2,x2),(3,x3),(8,x8),(9,x9),(12,x12),(15,.int .i64 i)]∧∃v,v.heap=u.heap∧R v) ⟨A,[]⟩ w:=by
 have C:Aside (Calls Try.prog 84 #[.pointer (some ⟨mb,0,none⟩),.int .i64 i] w fun e u=>e= .returned (.tuple #[])∧R u):=hC
 clear hC
 obtain⟨s,rfl,k0,k1,k2,k3,k8,k9,k12,k15,_⟩:=r8p_s hA
 simp only[r8pr31,r8pBody,pC,Try.f51,Option.getD_some,r8pT,k0,k1,k2,k3,k8,k9,k12,k15]
 clear k0 k1 k2 k3 k8 k9 k12 k15
 go_wp2_with (go_at_call 84;refine Calls.mono C.out ?_;rintro e u ⟨rfl,hu⟩;have U:Aside (R u):=hu;clear hu)
 exact⟨rfl,⟨rfl,rfl,rfl,rfl,rfl,rfl,rfl,rfl,rfl,trivial⟩,_,rfl,U.out⟩
theorem r8q_32{mb i:Nat}{R:World→Prop}(hC:Calls Try.prog 83 #[.pointer (some ⟨mb,0,none⟩),.int .i64 i] w fun e u=>e= .returned (.tuple #[])∧R u){A:Array Value}(hA:Slots 162 A [(0,.pointer (some ⟨mb,0,none⟩)),(1,x1),(2,x2),(3,x3),(8,x8),(9,x9),(12,x12),(15,.int .i64 i)]):
 r8pr32.wp Try.prog (nrm fun a' u=>a'.defers=[]∧Slots 162 a'.tmps [(0,.pointer (some ⟨mb,0,none⟩)),(1,x1),(2,x2),(3,x3),(8,x8),(9,x9),(12,x12),(15,.int .i64 i)]∧∃v,v.heap=u.heap∧R v) ⟨A,[]⟩ w:=by
 have C:Aside (Calls Try.prog 83 #[.pointer (some ⟨mb,0,none⟩),.int .i64 i] w fun e u=>e= .returned (.tuple #[])∧R u):=hC
 clear hC
 obtain⟨s,rfl,k0,k1,k2,k3,k8,k9,k12,k15,_⟩:=r8p_s hA
 simp only[r8pr32,r8pBody,pC,Try.f51,Option.getD_some,r8pT,k0,k1,k2,k3,k8,k9,k12,k15]
 clear k0 k1 k2 k3 k8 k9 k12 k15
 go_wp2_with (go_at_call 83;refine Calls.mono C.out ?_;rintro e u ⟨rfl,hu⟩;have U:Aside (R u):=hu;clear hu)
 exact⟨rfl,⟨rfl,rfl,rfl,rfl,rfl,rfl,rfl,rfl,rfl,trivial⟩,_,rfl,U.out⟩
end
section
variable{w w':World}{x0 x1 x2 x3 x8 x9 x10 x11 x12 x13 x14 x15 x16 x17:Value}
theorem r8q_33{mb ol oc:Nat}{oa:Option Addr}{b:Bool}{R:Option Addr→Nat→Nat→World→Prop}(hC:Calls Try.prog 85 #[.pointer (some ⟨mb,0,none⟩)] w fun e u=>e= .returned (.bool b)∧u.heap=w.heap)
 (hC2:∀X:World,X.heap=w.heap→Calls Try.prog 86 #[.pointer (some ⟨mb,0,none⟩)] X fun e u=>∃sa sl sc,e= .returned (.slice sa sl sc)∧R sa sl sc u) {A:Array Value} (hA:Slots 162 A [(0,.pointer (some ⟨mb,0,none⟩)),(1,x1),(2,x2),(3,x3),(8,x8),(9,x9),(12,.slice oa ol oc)]):
 r8pr33.wp Try.prog (nrm fun a u=>a.defers=[]∧∃sa sl sc,∃v:World,Slots 162 a.tmps [(0,.pointer (some ⟨mb,0,none⟩)),(1,x1),(2,x2),(3,x3),(8,x8),(9,x9),(16,.pointer (some ⟨v.heap.size,0,none⟩))]∧R sa sl sc v∧u.heap=(v.alloc (.cells #[.slice none 0 0,.slice oa ol oc,.slice sa sl sc,.bool b] 31)).heap) ⟨A,[]⟩ w:=by
 have C:Aside (Calls Try.prog 85 #[.pointer (some ⟨mb,0,none⟩)] w fun e u=>e= .returned (.bool b)∧u.heap=w.heap):=hC
 have C2:Aside (∀X:World,X.heap=w.heap→Calls Try.prog 86 #[.pointer (some ⟨mb,0,none⟩)] X fun e u=>∃sa sl sc,e= .returned (.slice sa sl sc)∧R sa sl sc u):=hC2
 clear hC hC2
 obtain⟨s,rfl,k0,k1,k2,k3,k8,k9,k12,_⟩:=r8p_s hA
 simp only[r8pr33,r8pBody,pC,Try.f51,Option.getD_some,r8pT,k0,k1,k2,k3,k8,k9,k12]
 clear k0 k1 k2 k3 k8 k9 k12
 go_wp2_with (first
  | (go_at_call 85;refine Calls.mono C.out ?_;rintro e u ⟨rfl,hu⟩;have U:Aside (u.heap=w.heap):=hu;clear hu)
  | (go_at_call 86;refine Calls.mono (C2.out _ U.out) ?_;rintro e v ⟨sa,sl,sc,rfl,hu⟩;have V:Aside (R sa sl sc v):=hu;clear hu))
 exact⟨rfl,_,_,_,_,⟨rfl,rfl,rfl,rfl,rfl,rfl,rfl,rfl,trivial⟩,V.out,rfl⟩
theorem r8q_34{mb:Nat}{A:Array Value}(hA:Slots 162 A [(0,.pointer (some ⟨mb,0,none⟩)),(1,x1),(2,x2),(3,x3),(8,x8),(9,x9),(16,x16)]):
 r8pr34.wp Try.prog (nrm fun a u=>a.defers=[]∧Slots 162 a.tmps [(0,.pointer (some ⟨mb,0,none⟩)),(1,x1),(2,x2),(3,x3),(8,x8),(9,x9),(16,x16),(17,.int .i64 0)]∧u.heap=w.heap) ⟨A,[]⟩ w:=by
 obtain⟨s,rfl,k0,k1,k2,k3,k8,k9,k16,_⟩:=r8p_s hA
 simp only[r8pr34,r8pBody,pC,Try.f51,Option.getD_some,r8pT,k0,k1,k2,k3,k8,k9,k16]
 clear k0 k1 k2 k3 k8 k9 k16
 go_wp2
 exact⟨rfl,⟨rfl,rfl,rfl,rfl,rfl,rfl,rfl,rfl,rfl,trivial⟩,rfl⟩
theorem r8q_35{mb n i:Nat}{A:Array Value}(hA:Slots 162 A [(0,.pointer (some ⟨mb,0,none⟩)),(1,x1),(2,x2),(3,x3),(8,x8),(9,.int .i64 n),(16,x16),(17,.int .i64 i)]):
 r8pr35.wp Try.prog (nrm fun a u=>a.defers=[]∧Slots 162 a.tmps [(0,.pointer (some ⟨mb,0,none⟩)),(1,x1),(2,x2),(3,x3),(8,x8),(9,.int .i64 n),(16,x16),(17,.int .i64 i),(145,.bool (decide (i<n)))]∧u.heap=w.heap) ⟨A,[]⟩ w:=by
 obtain⟨s,rfl,k0,k1,k2,k3,k8,k9,k16,k17,_⟩:=r8p_s hA
 simp only[r8pr35,r8pBody,pC,Try.f51,Option.getD_some,r8pT,k0,k1,k2,k3,k8,k9,k16,k17]
 clear k0 k1 k2 k3 k8 k9 k16 k17
 go_wp2
 exact⟨rfl,⟨rfl,rfl,rfl,rfl,rfl,rfl,rfl,rfl,rfl,rfl,trivial⟩,rfl⟩
theorem r8q_36{mb i:Nat}(hk:i<1000000000){A:Array Value}(hA:Slots 162 A [(0,.pointer (some ⟨mb,0,none⟩)),(1,x1),(2,x2),(3,x3),(8,x8),(9,x9),(16,x16),(17,.int .i64 i)]):
 r8pr36.wp Try.prog (nrm fun a u=>a.defers=[]∧Slots 162 a.tmps [(0,.pointer (some ⟨mb,0,none⟩)),(1,x1),(2,x2),(3,x3),(8,x8),(9,x9),(16,x16),(17,.int .i64 ((i+1:Nat):Int))]∧u.heap=w.heap) ⟨A,[]⟩ w:=by
 have hwr:IntKind.i64.wrap ((i:Int)+1)=((i+1:Nat):Int):=IntWalk.i64_in _ (by omega)
 obtain⟨s,rfl,k0,k1,k2,k3,k8,k9,k16,k17,_⟩:=r8p_s hA
 simp only[r8pr36,r8pBody,pC,Try.f51,Option.getD_some,r8pT,k0,k1,k2,k3,k8,k9,k16,k17]
 clear k0 k1 k2 k3 k8 k9 k16 k17
 go_wp2
 exact⟨rfl,⟨rfl,rfl,rfl,rfl,rfl,rfl,rfl,rfl,rfl,trivial⟩,rfl⟩
structure TE8(V:World)(bt i:Nat)(rows:Nat→Value)(y1 y2 y3:Value)(xa:Option Addr)(xc:Nat)(u:World):Prop where
 row:u.ownsRow 0 42 1 (.slice xa i xc) i ((List.range i).map rows)
 own:∀r,(Value.slice xa i xc).ownBlock=some r→V.heap.size≤r
 blk:u.heap[bt]? =some (.cells #[.slice xa i xc,y1,y2,y3] 31 (0,0))
 old:∀r,r<V.heap.size→r≠bt→u.heap[r]? =V.heap[r]?
 lt:bt<V.heap.size
 size:V.heap.size≤u.heap.size
theorem TE8.heap{V u u':World}{bt i:Nat}{rows:Nat→Value}{y1 y2 y3:Value}{xa:Option Addr}{xc:Nat}(h:TE8 V bt i rows y1 y2 y3 xa xc u)(e:u'.heap=u.heap):TE8 V bt i rows y1 y2 y3 xa xc u':=
 ⟨own_off2 h.row fun _ _ _ _=>by rw[e],h.own,by rw[e];exact h.blk,fun r h1 h2=>by rw[e];exact h.old r h1 h2,h.lt,by rw[e];exact h.size⟩
theorem TE8.more{V u w1 u':World}{bt i:Nat}{rows:Nat→Value}{y1 y2 y3 v':Value}{xa:Option Addr}{xc:Nat}(h:TE8 V bt i rows y1 y2 y3 xa xc u)(hown:w1.ownsRow 0 42 1 v' (i+1) ((List.range i).map rows++[rows i]))(hold:∀r,r<u.heap.size→some r≠(Value.slice xa i xc).ownBlock→w1.heap[r]? =u.heap[r]?)(hsz:u.heap.size≤w1.heap.size)
 (hfr:v'.ownBlock=(Value.slice xa i xc).ownBlock∨∃g,v'.ownBlock=some g∧u.heap.size≤g) (hu:u'.heap=(w1.setCell ⟨bt,0,none⟩ v').heap):∃xa' xc',v'= .slice xa' (i+1) xc'∧TE8 V bt (i+1) rows y1 y2 y3 xa' xc' u':=by
 obtain⟨g,cap,rfl⟩:=own_slice hown
 have hb:some bt≠(Value.slice xa i xc).ownBlock:=fun e=>by obtain⟨c,hc⟩:=row_blk h.row e.symm;rw[h.blk]at hc;cases hc
 have e1:=(hold bt (by have:=h.lt;have:=h.size;omega) hb).trans h.blk
 have hg:V.heap.size≤g:=by
  rcases hfr with e|⟨q,e,hq⟩
  ·exact h.own g (by rw[← e];rfl)
  ·simp only[Value.ownBlock,Option.some.injEq]at e
   have:=h.size
   omega
 have hl:=h.lt
 refine⟨_,_,rfl,?_,fun r hr=>?_,?_,fun r h1 h2=>?_,h.lt,?_⟩
 ·rw[List.range_succ,List.map_append]
  exact ownsRow_same2 hown fun b hb _=>by
   simp only[Value.ownBlock,Option.some.injEq]at hb
   rw[hu]
   exact heap_setCell_ne _ _ _ (show b≠bt by omega)
 ·simp only[Value.ownBlock,Option.some.injEq]at hr
  omega
 ·rw[hu]
  exact heap_set_eq e1
 ·rw[hu,heap_setCell_ne _ _ _ (by exact h2)]
  exact(hold r (by have:=h.size;omega) fun e=>by have:=h.own r e.symm;omega).trans (h.old r h1 h2)
 ·rw[hu,World.size_setCell]
  exact Nat.le_trans h.size hsz
theorem r8q_37{V:World}{bt mb tb tl tc i vl vc:Nat}{va xa:Option Addr}{xc:Nat}{rows:Nat→Value}{y1 y2 y3:Value}(h:TE8 V bt i rows y1 y2 y3 xa xc w)(hi:i<tl)(hi64:i<64)(hv:rows i= .slice va vl vc)(h2:w.cell? ⟨mb,2,none⟩=some (.slice (some ⟨tb,0,none⟩) tl tc))(h4:w.cell? ⟨tb,i*8+1,none⟩=some (.slice va vl vc))(nm:bt≠mb)(nt:bt≠tb)(om:(Value.slice xa i xc).ownBlock≠some mb)(ot:(Value.slice xa i xc).ownBlock≠some tb){A:Array Value}(hA:Slots 162 A [(0,.pointer (some ⟨mb,0,none⟩)),(1,x1),(2,x2),(3,x3),(8,x8),(9,x9),(16,.pointer (some ⟨bt,0,none⟩)),(17,.int .i64 i)]):
 r8pr37.wp Try.prog (nrm fun a u=>a.defers=[]∧Slots 162 a.tmps [(0,.pointer (some ⟨mb,0,none⟩)),(1,x1),(2,x2),(3,x3),(8,x8),(9,x9),(16,.pointer (some ⟨bt,0,none⟩)),(17,.int .i64 i)]∧∃xa' xc',TE8 V bt (i+1) rows y1 y2 y3 xa' xc' u) ⟨A,[]⟩ w:=by
 obtain⟨i0,z0,hi0,hz0,hz1,hz2,hz3⟩:=infoC42
 have E:Aside (TE8 V bt i rows y1 y2 y3 xa xc w∧rows i= .slice va vl vc):=⟨h,hv⟩
 have q2:(i:Int)<(tl:Int):=by omega
 have hrow1:=h.row
 have t1:w.cell? ⟨bt,0,none⟩=some (.slice xa i xc):=by have:=h.blk;simp[World.cell?,this]
 have zt:w.frozen? ⟨bt,0,none⟩=false:=by have:=h.blk;simp[World.frozen?,this]
 have hbl:bt<w.heap.size:=by have:=h.lt;have:=h.size;omega
 have hml:mb<w.heap.size:=by obtain⟨c,e,z,h⟩:=cell_block h2;exact(alt h)
 have htl:tb<w.heap.size:=by obtain⟨c,e,z,h⟩:=cell_block h4;exact(alt h)
 have hba:some bt≠(Value.slice xa i xc).ownBlock:=fun e=>by obtain⟨c,hc⟩:=row_blk h.row e.symm;rw[h.blk]at hc;cases hc
 have hma:some mb≠(Value.slice xa i xc).ownBlock:=fun e=>om e.symm
 have hta:some tb≠(Value.slice xa i xc).ownBlock:=fun e=>ot e.symm
 clear h hv hi om ot
 obtain⟨s,rfl,k0,k1,k2,k3,k8,k9,k16,k17,_⟩:=r8p_s hA
 simp only[r8pr37,r8pBody,pC,Try.f51,Option.getD_some,r8pT,k0,k1,k2,k3,k8,k9,k16,k17]
 clear k0 k1 k2 k3 k8 k9 k16 k17
 rw[← Ld_eq 29 (.tmp 148)]
 go_region_held3 (fun u:World=>u.cell? ⟨mb,2,none⟩=some (.slice (some ⟨tb,0,none⟩) tl tc)∧u.cell? ⟨tb,i*8+1,none⟩=some (.slice va vl vc))
  (first|exact⟨h2,h4⟩|exact⟨(cellB_alloc h2 _).1,(cellB_alloc h4 _).1⟩|exact SQ.out|exact⟨(cell_off nm).trans SQ.out.1,(cell_off nt).trans SQ.out.2⟩|go_keep)
  (first|(refine step_append_fresh rfl (.tmp 149) (.tmp 158) 29 rfl 42 i0 z0 1 24 Try.underlying29 hi0 hz0 hz1 hz2 hz3 (by decide) (.slice xa i xc) i ((List.range i).map rows) (by simp[Act.eval,Act.put]) ((show w.drew.ownsRow 0 42 1 _ _ _ from hrow1).alloc _) ⟨w.heap.size,0,none⟩ 1 1 [.slice va vl vc] (by simp[Act.eval,Act.put]) rfl (new_cells (X:=w.drew) (l:=[.slice va vl vc]) rfl) (by intro u hu;simp at hu;subst hu;rfl) (by unfold maxLen;omega) (by omega) ?_;intro v' w3 hown hgrow hfr;obtain⟨g1,cap1,rfl⟩:=own_slice hown;have hk1:=grown_old (W:=w.drew) hgrow (r:=bt) hbl hba;have hk2:=grown_old (W:=w.drew) hgrow (r:=mb) hml hma;have hk3:=grown_old (W:=w.drew) hgrow (r:=tb) htl hta;have k0:=(cell_heap (j:=0) hk1).1.trans t1;have z0':=(cell_heap (j:=0) hk1).2.trans zt;have SQ:Aside (w3.cell? ⟨mb,2,none⟩=some (.slice (some ⟨tb,0,none⟩) tl tc)∧w3.cell? ⟨tb,i*8+1,none⟩=some (.slice va vl vc)):=⟨(cell_heap (j:=2) hk2).1.trans h2,(cell_heap (j:=i*8+1) hk3).1.trans h4⟩;have F:Aside (w3.ownsRow 0 42 1 (Value.slice (some ⟨g1,0,none⟩) (i+1) cap1) (i+1) ((List.range i).map rows++[.slice va vl vc])∧(∀r,r<w.heap.size→some r≠(Value.slice xa i xc).ownBlock→w3.heap[r]? =w.heap[r]?)∧w.heap.size≤w3.heap.size∧((Value.slice (some ⟨g1,0,none⟩) (i+1) cap1).ownBlock=(Value.slice xa i xc).ownBlock∨∃g',(Value.slice (some ⟨g1,0,none⟩) (i+1) cap1).ownBlock=some g'∧w.heap.size≤g')):=⟨hown,fun r hr hn=>grown_old (W:=w.drew) hgrow hr hn,Nat.le_trans (by simp[World.drew]) hgrow.size,hfr.imp id fun⟨g',h1,h2⟩=>⟨g',h1,Nat.le_trans (by simp[World.drew]) h2⟩⟩;clear hown hgrow hfr hk1 hk2 hk3))
 all_goals(
  go_wp2
  obtain⟨f1,f2,f3,f4⟩:=F.out
  rw[← E.out.2]at f1
  obtain⟨xa',xc',e,h5⟩:=E.out.1.more (w1:=w3) f1 f2 f3 f4 (u':=w3.setCell ⟨bt,0,none⟩ (Value.slice (some ⟨g1,0,none⟩) (i+1) cap1)) rfl
  exact⟨rfl,⟨rfl,rfl,rfl,rfl,rfl,rfl,rfl,rfl,rfl,trivial⟩,xa',xc',h5.heap rfl⟩)
end
section
section
variable{Wp w W u u0:World}{N:Nat→Prop}{n tb o tl tc sc M mb t8 b0:Nat}{ta sa:Option Addr}{oa:Nat→Option Addr}{ol oc:Nat→Nat}{ops:Nat→List Op4}{S:List Int}{g0:GS SPl}
theorem gBorns8_th{m:Pl}{ops:Nat→List Op4}{s0:GS m}:∀(i j:Nat),i≤j→(gBorns m ops i s0).th j=s0.th j
 | 0,j,_=>rfl
 | i+1,j,h=>by
   have e:∀(g:GS m) r,(g.put i r).th j=g.th j:=fun g r=>by simp only[GS.put];rw[if_neg (by omega)]
   simp only[gBorns]
   rw[e]
   exact gBorns8_th i j (by omega)
theorem opsB_in(hI:OpsIn Wp N n tb o tl ta oa ol oc ops S sa)(hb:b0=Wp.heap.size)(hu:∀r,r<b0→u.heap[r]? =Wp.heap[r]?){j:Nat}(hj:j<n):OpsB u b0 (.slice (oa j) (min (ol j) 65536) (oc j)) (ops j):=by
 subst hb
 have hl:=hI.hlen j hj
 refine⟨⟨oa j,oc j,by rw[hl]⟩,fun k x hx=>?_⟩
 obtain⟨opb,oo,h1,h2,f0,f1,f2,f3,_⟩:=hI.hop j hj k x hx
 have hlt:opb<Wp.heap.size:=by obtain⟨c,e,z,h⟩:=cell_block f0;exact(alt h)
 have e:∀i,u.cell? ⟨opb,i,none⟩=Wp.cell? ⟨opb,i,none⟩:=fun i=>by simp only[World.cell?,hu opb hlt]
 exact⟨opb,oo,oc j,by rw[h1,hl],(List.getElem?_eq_some_iff.1 hx).1,hlt,(e _).trans f0,(e _).trans f1,(e _).trans f2,(e _).trans f3⟩
theorem RW8.low{k:Nat}{g:GS SPl}{order:List Nat}{ov:Value}(h:RW8 W b0 mb k ops g order ov u)(hb:b0=Wp.heap.size)(hW:∀r,r<b0→W.heap[r]? =Wp.heap[r]?):∀r,r<b0→u.heap[r]? =Wp.heap[r]?:=fun r hr=>(h.st.o r hr).trans (hW r hr)
theorem RW8.cells{k:Nat}{g:GS SPl}{order:List Nat}{ov:Value}(h:RW8 W b0 mb k ops g order ov u){i:Nat}(hi:i<k):∃tb tc p,u.cell? ⟨mb,2,none⟩=some (.slice (some ⟨tb,0,none⟩) k tc)∧u.cell? ⟨tb,i*8+4,none⟩=some (.int .i64 (p:Nat))∧(p≠0↔g.live i=true):=by
 obtain⟨⟨B,ts,rfl,hS⟩,_⟩:=h
 obtain⟨t,ht⟩:∃t,ts[i]? =some t:=⟨_,List.getElem?_eq_getElem (by rw[hS.n];exact hi)⟩
 obtain⟨tb,tc,htv,m0,m1,m2,zm,t0,t1,t3,t4,t5,t6,t7,zt,mt,wt,htb⟩:=hS.A.fx ht
 rw[hS.n]at m2
 exact⟨tb,tc,t.pc,m2,t4,hS.pc ht⟩
theorem r8_births(hI:OpsIn Wp N n tb o tl ta oa ol oc ops S sa)(hb:b0=Wp.heap.size)(hW:∀r,r<b0→W.heap[r]? =Wp.heap[r]?)(h0:∀j,g0.th j=⟨0,none,[]⟩)(hR:RW8 W b0 mb 0 ops g0 [] (.slice none 0 0) u0){A:Array Value}(hA:Slots 162 A [(0,.pointer (some ⟨mb,0,none⟩)),(1,.slice ta tl tc),(2,.slice sa S.length sc),(3,.int .i64 M),(8,.pointer (some ⟨t8,0,none⟩)),(9,.int .i64 n)]):
 r8ps9.wp Try.prog (nrm fun a u=>a.defers=[]∧Slots 162 a.tmps [(0,.pointer (some ⟨mb,0,none⟩)),(1,.slice ta tl tc),(2,.slice sa S.length sc),(3,.int .i64 M),(8,.pointer (some ⟨t8,0,none⟩)),(9,.int .i64 n)]∧RW8 W b0 mb n ops (gBorns SPl ops n g0) [] (.slice none 0 0) u) ⟨A,[]⟩ u0:=by
 have hn64:n≤64:=by have:=hI.hn;omega
 have hntl:n≤tl:=by have:=hI.hn;omega
 rw[r8ps9']
 refine then8 (r8q_8 hA) fun A u1 ⟨_,hS,hu⟩=>?_
 rw[r8pb0',r8pl10',r8ps11',r8ps12',r8pc28']
 refine while2_nrm (I:=fun g a u=>a.defers=[]∧∃i:Nat,i≤n∧g=n - i∧Slots 162 a.tmps [(0,.pointer (some ⟨mb,0,none⟩)),(1,.slice ta tl tc),(2,.slice sa S.length sc),(3,.int .i64 M),(8,.pointer (some ⟨t8,0,none⟩)),(9,.int .i64 n),(10,.int .i64 i)]∧RW8 W b0 mb i ops (gBorns SPl ops i g0) [] (.slice none 0 0) u)
  (J:=fun g a u=>a.defers=[]∧∃i:Nat,i<n∧g=n - i∧Slots 162 a.tmps [(0,.pointer (some ⟨mb,0,none⟩)),(1,.slice ta tl tc),(2,.slice sa S.length sc),(3,.int .i64 M),(8,.pointer (some ⟨t8,0,none⟩)),(9,.int .i64 n),(10,.int .i64 i)]∧RW8 W b0 mb i ops (gBorns SPl ops i g0) [] (.slice none 0 0) u)
  (fun g a u ⟨hd,i,h1,h2,hS,hR⟩=>?_) (fun g a u ⟨hd,i,h1,h2,hS,hR⟩=>?_) (g:=n) ⟨rfl,0,Nat.zero_le _,rfl,hS,hR.heap hu⟩
 ·rw[act8 hd]
  refine pm8 (r8q_9 hS) fun a u' ⟨hd,⟨hsz,s0,s1,s2,s3,s8,s9,s10,s28,_⟩,hu⟩=>?_
  by_cases hi:i<n
  ·exact .inl ⟨by rw[s28,decide_eq_true (by omega)],hd,i,hi,h2,⟨hsz,s0,s1,s2,s3,s8,s9,s10,trivial⟩,hR.heap hu⟩
  ·obtain rfl:i=n:=by omega
   exact .inr ⟨by rw[s28,decide_eq_false (by omega)],hd,⟨hsz,s0,s1,s2,s3,s8,s9,trivial⟩,hR.heap hu⟩
 ·rw[act8 hd,r8ps13']
  refine then8 (R:=fun a u=>a.defers=[]∧Slots 162 a.tmps [(0,.pointer (some ⟨mb,0,none⟩)),(1,.slice ta tl tc),(2,.slice sa S.length sc),(3,.int .i64 M),(8,.pointer (some ⟨t8,0,none⟩)),(9,.int .i64 n),(10,.int .i64 i)]∧RW8 W b0 mb (i+1) ops (gBorns SPl ops (i+1) g0) [] (.slice none 0 0) u) ?_ fun A u' ⟨_,hS,hR⟩=>
   pm8 (r8q_10 (by omega) hS) fun a u'' ⟨hd,hS,hu⟩=>⟨n - (i+1),by omega,hd,i+1,h1,rfl,hS,hR.heap hu⟩
  rw[r8pb1',r8ps14',r8ps15',r8ps17']
  have hta:=hI.hta (by omega)
  have htb:=hI.htb (by omega)
  obtain⟨c1,_,c2⟩:=hI.hth i h1
  have hlow:=hR.low hb hW
  have c1:u.cell? ⟨tb,o+i,none⟩=some (.slice (oa i) (ol i) (oc i)):=by
   rw[← c1]
   simp only[World.cell?]
   rw[hlow tb (by omega)]
  have hth:(gBorns SPl ops i g0).th i=⟨0,none,[]⟩:=(gBorns8_th i i (Nat.le_refl _)).trans (h0 i)
  have hol:(ops i).length≤65536:=by rw[hI.hlen i h1];omega
  have hoa:65536<ol i→∃ob oo,oa i=some ⟨ob,oo,none⟩:=fun hx=>by
   obtain⟨opb,oo,h1,_⟩:=hI.hop i h1 0 ((ops i)[0]'(by rw[hI.hlen i h1];omega)) (List.getElem?_eq_getElem _)
   exact⟨opb,oo,h1⟩
  have hO:=opsB_in hI hb hlow h1
  obtain⟨⟨B',ts,hmb,hS8⟩,hst,_,_,hbw⟩:=hR
  subst hta
  subst hmb
  refine blk8 (then8 (r8q_11 (by omega) c1 hS) fun A u1 ⟨_,hS,hu1⟩=>then8 (r8q_12 c2 hoa hS) fun A u2 ⟨_,hS,hu2⟩=>?_)
  have e2:u2.heap=u.heap:=hu2.trans hu1
  have hS8':=hS8.heap e2
  refine then8 (r8q_14 hS8'.A hS8.n (by omega) hS) fun A u3 ⟨_,hS,⟨v',hA3⟩,hst3⟩=>?_
  have hB:Brn8 W b0 B'.mb i ops (gBorns SPl ops i g0) u3:=⟨⟨{B' with tv:=v'},ts,_,rfl,hA3,fun j t hj=>⟨(hS8'.T j t hj).1,(hS8'.T j t hj).2.stay hst3⟩,hS8.n,(hO.stay ((Stay.refl _ _).heap e2)).stay hst3,hS8.L⟩,(hst.heap e2).trans hst3,hbw⟩
  refine pm8 (r8q_15 (settle_born8 hB hol hth) (let⟨hsz,s0,s1,s2,s3,s8,s9,s10,s11,_⟩:=hS;⟨hsz,s0,s1,s2,s3,s8,s9,s10,trivial⟩)) fun a u4 ⟨hd,hS,v,hv,hR⟩=>⟨hd,hS,?_⟩
  have hR:RW8 W b0 B'.mb (i+1) ops (gBorns SPl ops (i+1) g0) [] (.slice none 0 0) v:=hR
  exact hR.heap hv.symm
section
variable{gs:GS SPl}{order:List Nat}
theorem gTurn_len{m:Pl}{ops:Nat→List Op4}{n M:Nat}{s:GS m×List Nat}(h:s.2.length≤M)(i:Int):(gTurn ops n M s i).2.length≤M:=by
 unfold gTurn
 split
 ·rename_i hc
  have:=hc.2.2.2
  simp only[List.length_append,List.length_cons,List.length_nil]
  omega
 ·exact h
end
theorem r8_sched(hI:OpsIn Wp N n tb o tl ta oa ol oc ops S sa)(hb:b0=Wp.heap.size)(hW:∀r,r<b0→W.heap[r]? =Wp.heap[r]?)(hM:M≤1048576){G:GS SPl}(hR:RW8 W b0 mb n ops G [] (.slice none 0 0) u0){A:Array Value}(hA:Slots 162 A [(0,.pointer (some ⟨mb,0,none⟩)),(1,.slice ta tl tc),(2,.slice sa S.length sc),(3,.int .i64 M),(8,.pointer (some ⟨t8,0,none⟩)),(9,.int .i64 n),(12,.slice none 0 0)]):
 r8ps20.wp Try.prog (nrm fun a u=>a.defers=[]∧∃gs order oa' oc',Slots 162 a.tmps [(0,.pointer (some ⟨mb,0,none⟩)),(1,.slice ta tl tc),(2,.slice sa S.length sc),(3,.int .i64 M),(8,.pointer (some ⟨t8,0,none⟩)),(9,.int .i64 n),(12,.slice oa' order.length oc')]∧RW8 W b0 mb n ops gs order (.slice oa' order.length oc') u∧order.length≤M∧(gs,order)=gTurns ops n M S (G,[])) ⟨A,[]⟩ u0:=by
 have hn64:n≤64:=by have:=hI.hn;omega
 have hol:∀j,j<n→(ops j).length≤65536:=fun j hj=>by rw[hI.hlen j hj];omega
 rw[r8ps20']
 refine then8 (r8q_17 hA) fun A u1 ⟨_,hS,hu⟩=>?_
 rw[r8pb2',r8pl21',r8ps22',r8ps23',r8pc64']
 refine while2_nrm (I:=fun g a u=>a.defers=[]∧∃(k:Nat) (gs:GS SPl) (order:List Nat) (oa':Option Addr) (oc':Nat),k≤S.length∧g=S.length - k∧Slots 162 a.tmps [(0,.pointer (some ⟨mb,0,none⟩)),(1,.slice ta tl tc),(2,.slice sa S.length sc),(3,.int .i64 M),(8,.pointer (some ⟨t8,0,none⟩)),(9,.int .i64 n),(12,.slice oa' order.length oc'),(13,.int .i64 k)]∧RW8 W b0 mb n ops gs order (.slice oa' order.length oc') u∧order.length≤M∧gTurns ops n M (S.drop k) (gs,order)=gTurns ops n M S (G,[]))
  (J:=fun g a u=>a.defers=[]∧∃(k:Nat) (gs:GS SPl) (order:List Nat) (oa':Option Addr) (oc':Nat),k<S.length∧g=S.length - k∧Slots 162 a.tmps [(0,.pointer (some ⟨mb,0,none⟩)),(1,.slice ta tl tc),(2,.slice sa S.length sc),(3,.int .i64 M),(8,.pointer (some ⟨t8,0,none⟩)),(9,.int .i64 n),(12,.slice oa' order.length oc'),(13,.int .i64 k)]∧RW8 W b0 mb n ops gs order (.slice oa' order.length oc') u∧order.length<M∧gTurns ops n M (S.drop k) (gs,order)=gTurns ops n M S (G,[]))
  (fun g a u ⟨hd,k,gs,order,oa',oc',h1,h2,hS,hR,hm,hg⟩=>?_) (fun g a u ⟨hd,k,gs,order,oa',oc',h1,h2,hS,hR,hm,hg⟩=>?_) (g:=S.length) ⟨rfl,0,G,[],none,0,Nat.zero_le _,rfl,hS,hR.heap hu,Nat.zero_le _,rfl⟩
 ·rw[act8 hd]
  refine pm8 (r8q_18 hS) fun a u' ⟨hd,⟨hS,b,h64,hb⟩,hu⟩=>?_
  by_cases hc:k<S.length∧order.length<M
  ·have hbt:b=true:=hb.2 ⟨by omega,by omega⟩
   subst hbt
   exact .inl ⟨h64,hd,k,gs,order,oa',oc',hc.1,h2,hS,hR.heap hu,hc.2,hg⟩
  ·have hbf:b=false:=by
    cases b with
    | false=>rfl
    | true=>have:=hb.1 rfl;omega
   subst hbf
   obtain⟨hsz,s0,s1,s2,s3,s8,s9,s12,s13,_⟩:=hS
   refine .inr ⟨h64,hd,gs,order,oa',oc',⟨hsz,s0,s1,s2,s3,s8,s9,s12,trivial⟩,hR.heap hu,hm,?_⟩
   rw[← hg]
   by_cases hk:k<S.length
   ·exact(gTurns_full _ _ (by simp only;omega)).symm
   ·rw[List.drop_eq_nil_of_le (by omega)]
    rfl
 ·rw[act8 hd,r8ps24']
  obtain⟨x,hx⟩:∃x,S[k]? =some x:=⟨_,List.getElem?_eq_getElem h1⟩
  have hdrop:gTurns ops n M (S.drop k) (gs,order)=gTurns ops n M (S.drop (k+1)) (gTurn ops n M (gs,order) x):=by
   obtain⟨hlt,e⟩:=List.getElem?_eq_some_iff.1 hx
   rw[List.drop_eq_getElem_cons hlt,e]
   rfl
  rw[hdrop]at hg
  obtain⟨sb,so,c,ee,z,e1,_,e3,e4⟩:=hI.hS (by omega)
  have hlow:=hR.low hb hW
  have c1:u.cell? ⟨sb,so+k,none⟩=some (.int .i64 x):=by
   have h5:=(e4 k (.int .i64 x) (by rw[List.getElem?_map,hx];rfl)).1
   have hsb:=(alt e3)
   simp only[World.cell?]
   rw[hlow sb (by omega),e3]
   simpa using h5
  subst e1
  refine then8 (R:=fun a u=>a.defers=[]∧∃gs' order' oa' oc',Slots 162 a.tmps [(0,.pointer (some ⟨mb,0,none⟩)),(1,.slice ta tl tc),(2,.slice (some ⟨sb,so,none⟩) S.length sc),(3,.int .i64 M),(8,.pointer (some ⟨t8,0,none⟩)),(9,.int .i64 n),(12,.slice oa' order'.length oc'),(13,.int .i64 k)]∧RW8 W b0 mb n ops gs' order' (.slice oa' order'.length oc') u∧(gs',order')=gTurn ops n M (gs,order) x) ?_ fun A u' ⟨_,gs',order',oa',oc',hS,hR,he⟩=>
   pm8 (r8q_19 (by have:=hI.hsl;omega) hS) fun a u'' ⟨hd,hS,hu⟩=>⟨S.length - (k+1),by omega,hd,k+1,gs',order',oa',oc',h1,rfl,hS,hR.heap hu,by
    have h6:=gTurn_len (ops:=ops) (n:=n) (M:=M) (s:=(gs,order)) (Nat.le_of_lt hm) x
    rw[← he]at h6
    exact h6,by rw[he];exact hg⟩
  rw[r8pb3',r8ps25',r8ps26',r8pc88']
  refine blk8 (then8 (r8q_20 h1 c1 hS) fun A u1 ⟨_,hS,hu1⟩=>?_)
  have hR:=hR.heap hu1
  by_cases hc:0≤x∧x<(n:Int)
  ·obtain⟨i,rfl⟩:∃i:Nat,x=i:=⟨x.toNat,by omega⟩
   have hin:i<n:=by omega
   obtain⟨tb2,tc2,p,m2,t4,hp⟩:=hR.cells hin
   refine then8 (r8q_21c rfl hin hin m2 t4 hS) fun A u2 ⟨_,⟨hsz,s0,s1,s2,s3,s8,s9,s12,s13,s14,s88,_⟩,hu2⟩=>?_
   have hR:=hR.heap hu2
   by_cases hl:gs.live i=true
   ·have hpp:=hp.2 hl
    refine wp_cond (t:=true) (by rw[show Act.eval ⟨A,[]⟩ (.tmp 88)=A.getD 88 undef from rfl,s88,decide_eq_true (by omega)]) ?_
    rw[r8ps27',r8ps28']
    refine then8 (r8q_22 (i:=i) hR (by omega) ⟨hsz,s0,s1,s2,s3,s8,s9,s12,s13,s14,trivial⟩) fun A u3 ⟨_,oa2,oc2,hS,hR⟩=>?_
    have hll:(order++[i]).length=order.length+1:=by simp
    rw[← hll]at hS hR
    refine then8 (r8q_23 (step_call8 hR hin hl hol) hS) fun A u4 ⟨_,hS,v,hv,hMd⟩=>?_
    have hMd:Mid8 W b0 mb n ops gs (order++[i]) _ i u4:=hMd.heap hv.symm
    refine pm8 (r8q_24 (settle_call8 hMd hin hol) hS) fun a u5 ⟨hd,⟨hsz,s0,s1,s2,s3,s8,s9,s12,s13,s14,_⟩,v2,hv2,hR⟩=>⟨hd,_,_,oa2,oc2,⟨hsz,s0,s1,s2,s3,s8,s9,s12,s13,trivial⟩,hR.heap hv2.symm,?_⟩
    rw[gTurn_go hin hl (by omega)]
   ·have hpp:¬p≠0:=fun h=>hl (hp.1 h)
    refine wp_cond (t:=false) (by rw[show Act.eval ⟨A,[]⟩ (.tmp 88)=A.getD 88 undef from rfl,s88,decide_eq_false (by omega)]) (wp_skip ?_)
    refine⟨rfl,gs,order,oa',oc',⟨hsz,s0,s1,s2,s3,s8,s9,s12,s13,trivial⟩,hR,?_⟩
    rw[gTurn_no (fun h=>hl (by simpa using h.2.2))]
  ·have key:r8pr21.wp Try.prog (nrm fun a u=>a.defers=[]∧Slots 162 a.tmps [(0,.pointer (some ⟨mb,0,none⟩)),(1,.slice ta tl tc),(2,.slice (some ⟨sb,so,none⟩) S.length sc),(3,.int .i64 M),(8,.pointer (some ⟨t8,0,none⟩)),(9,.int .i64 n),(12,.slice oa' order.length oc'),(13,.int .i64 k),(14,.int .i64 x),(88,.bool false)]∧u.heap=u1.heap) ⟨A,[]⟩ u1:=by
    by_cases h0:x<0
    ·exact r8q_21a h0 hS
    ·exact r8q_21b (by omega) (by omega) hS
   refine then8 key fun A u2 ⟨_,⟨hsz,s0,s1,s2,s3,s8,s9,s12,s13,s14,s88,_⟩,hu2⟩=>?_
   refine wp_cond (t:=false) s88 (wp_skip ?_)
   refine⟨rfl,gs,order,oa',oc',⟨hsz,s0,s1,s2,s3,s8,s9,s12,s13,trivial⟩,hR.heap hu2,?_⟩
   rw[gTurn_no fun h=>hc ⟨h.1,h.2.1⟩]
def gAll(n:Nat):List Int:=(List.range n).map fun j:Nat=>(j:Int)
theorem r8_round(hI:OpsIn Wp N n tb o tl ta oa ol oc ops S sa)(hb:b0=Wp.heap.size)(hW:∀r,r<b0→W.heap[r]? =Wp.heap[r]?)(hM:M≤1048576){gs:GS SPl}{order:List Nat}{oa1:Option Addr}{oc1:Nat}(hl0:0<cnt gs.live n)(hm0:order.length<M)(hR:RW8 W b0 mb n ops gs order (.slice oa1 order.length oc1) u0){A:Array Value}(hA:Slots 162 A [(0,.pointer (some ⟨mb,0,none⟩)),(1,.slice ta tl tc),(2,.slice sa S.length sc),(3,.int .i64 M),(8,.pointer (some ⟨t8,0,none⟩)),(9,.int .i64 n),(12,.slice oa1 order.length oc1)]):
 r8pb5.wp Try.prog (nrm fun a u=>a.defers=[]∧∃gs' order' oa' oc',Slots 162 a.tmps [(0,.pointer (some ⟨mb,0,none⟩)),(1,.slice ta tl tc),(2,.slice sa S.length sc),(3,.int .i64 M),(8,.pointer (some ⟨t8,0,none⟩)),(9,.int .i64 n),(12,.slice oa' order'.length oc')]∧RW8 W b0 mb n ops gs' order' (.slice oa' order'.length oc') u∧order'.length≤M∧order.length<order'.length∧(gs',order')=gTurns ops n M (gAll n) (gs,order)) ⟨A,[]⟩ u0:=by
 have hn64:n≤64:=by have:=hI.hn;omega
 have hol:∀j,j<n→(ops j).length≤65536:=fun j hj=>by rw[hI.hlen j hj];omega
 have hgl:(gAll n).length=n:=by simp[gAll]
 rw[r8pb5',r8ps33']
 refine blk8 (then8 (r8q_26 hA) fun A u1 ⟨_,hS,hu⟩=>?_)
 rw[r8pb6',r8pl34',r8ps35',r8ps36',r8pc115']
 refine while2_nrm (I:=fun g a u=>a.defers=[]∧∃(k:Nat) (gs':GS SPl) (order':List Nat) (oa':Option Addr) (oc':Nat),k≤n∧g=n - k∧Slots 162 a.tmps [(0,.pointer (some ⟨mb,0,none⟩)),(1,.slice ta tl tc),(2,.slice sa S.length sc),(3,.int .i64 M),(8,.pointer (some ⟨t8,0,none⟩)),(9,.int .i64 n),(12,.slice oa' order'.length oc'),(15,.int .i64 k)]∧RW8 W b0 mb n ops gs' order' (.slice oa' order'.length oc') u∧order'.length≤M∧gTurns ops n M ((gAll n).drop k) (gs',order')=gTurns ops n M (gAll n) (gs,order)∧(order.length<order'.length∨((gs',order')=(gs,order)∧∀j,j<k→gs.live j=false)))
  (J:=fun g a u=>a.defers=[]∧∃(k:Nat) (gs':GS SPl) (order':List Nat) (oa':Option Addr) (oc':Nat),k<n∧g=n - k∧Slots 162 a.tmps [(0,.pointer (some ⟨mb,0,none⟩)),(1,.slice ta tl tc),(2,.slice sa S.length sc),(3,.int .i64 M),(8,.pointer (some ⟨t8,0,none⟩)),(9,.int .i64 n),(12,.slice oa' order'.length oc'),(15,.int .i64 k)]∧RW8 W b0 mb n ops gs' order' (.slice oa' order'.length oc') u∧order'.length<M∧gTurns ops n M ((gAll n).drop k) (gs',order')=gTurns ops n M (gAll n) (gs,order)∧(order.length<order'.length∨((gs',order')=(gs,order)∧∀j,j<k→gs.live j=false)))
  (fun g a u ⟨hd,k,gs',order',oa',oc',h1,h2,hS,hR,hm,hg,hpr⟩=>?_) (fun g a u ⟨hd,k,gs',order',oa',oc',h1,h2,hS,hR,hm,hg,hpr⟩=>?_) (g:=n) ⟨rfl,0,gs,order,oa1,oc1,Nat.zero_le _,rfl,hS,hR.heap hu,Nat.le_of_lt hm0,rfl,.inr ⟨rfl,fun j hj=>by omega⟩⟩
 ·rw[act8 hd]
  refine pm8 (r8q_27 hS) fun a u' ⟨hd,⟨hS,b,h64,hb⟩,hu⟩=>?_
  by_cases hc:k<n∧order'.length<M
  ·have hbt:b=true:=hb.2 ⟨by omega,by omega⟩
   subst hbt
   exact .inl ⟨h64,hd,k,gs',order',oa',oc',hc.1,h2,hS,hR.heap hu,hc.2,hg,hpr⟩
  ·have hbf:b=false:=by
    cases b with
    | false=>rfl
    | true=>have:=hb.1 rfl;omega
   subst hbf
   obtain⟨hsz,s0,s1,s2,s3,s8,s9,s12,s15,_⟩:=hS
   refine .inr ⟨h64,hd,gs',order',oa',oc',⟨hsz,s0,s1,s2,s3,s8,s9,s12,trivial⟩,hR.heap hu,hm,?_,?_⟩
   ·rcases hpr with hpr|⟨e,hz⟩
    ·exact hpr
    ·simp only[Prod.mk.injEq]at e
     obtain⟨rfl,rfl⟩:=e
     have hk:k=n:=by omega
     subst hk
     have:=cnt_zero.2 hz
     omega
   ·rw[← hg]
    by_cases hk:k<n
    ·exact(gTurns_full _ _ (by simp only;omega)).symm
    ·rw[List.drop_eq_nil_of_le (by omega)]
     rfl
 ·rw[act8 hd,r8ps37']
  have hx:(gAll n)[k]? =some (k:Int):=by simp[gAll,h1]
  have hdrop:gTurns ops n M ((gAll n).drop k) (gs',order')=gTurns ops n M ((gAll n).drop (k+1)) (gTurn ops n M (gs',order') k):=by
   obtain⟨hlt,e⟩:=List.getElem?_eq_some_iff.1 hx
   rw[List.drop_eq_getElem_cons hlt,e]
   rfl
  rw[hdrop]at hg
  refine then8 (R:=fun a u=>a.defers=[]∧∃gs2 order2 oa' oc',Slots 162 a.tmps [(0,.pointer (some ⟨mb,0,none⟩)),(1,.slice ta tl tc),(2,.slice sa S.length sc),(3,.int .i64 M),(8,.pointer (some ⟨t8,0,none⟩)),(9,.int .i64 n),(12,.slice oa' order2.length oc'),(15,.int .i64 k)]∧RW8 W b0 mb n ops gs2 order2 (.slice oa' order2.length oc') u∧(gs2,order2)=gTurn ops n M (gs',order') k∧(order.length<order2.length∨((gs2,order2)=(gs,order)∧∀j,j<k+1→gs.live j=false))) ?_ fun A u' ⟨_,gs2,order2,oa',oc',hS,hR,he,hpr⟩=>
   pm8 (r8q_28 (by omega) hS) fun a u'' ⟨hd,hS,hu⟩=>⟨n - (k+1),by omega,hd,k+1,gs2,order2,oa',oc',h1,rfl,hS,hR.heap hu,by
    have h6:=gTurn_len (ops:=ops) (n:=n) (M:=M) (s:=(gs',order')) (Nat.le_of_lt hm) k
    rw[← he]at h6
    exact h6,by rw[he];exact hg,hpr⟩
  rw[r8pb7',r8ps38',r8pc126']
  obtain⟨tb2,tc2,p,m2,t4,hp⟩:=hR.cells h1
  refine blk8 (then8 (r8q_29 h1 m2 t4 hS) fun A u1 ⟨_,⟨hsz,s0,s1,s2,s3,s8,s9,s12,s15,s126,_⟩,hu1⟩=>?_)
  have hR:=hR.heap hu1
  by_cases hl:gs'.live k=true
  ·have hpp:=hp.2 hl
   refine wp_cond (t:=true) (by rw[show Act.eval ⟨A,[]⟩ (.tmp 126)=A.getD 126 undef from rfl,s126,decide_eq_true (by omega)]) ?_
   rw[r8ps39',r8ps40']
   refine then8 (r8q_30 (i:=k) hR (by omega) ⟨hsz,s0,s1,s2,s3,s8,s9,s12,s15,trivial⟩) fun A u3 ⟨_,oa2,oc2,hS,hR⟩=>?_
   have hll:(order'++[k]).length=order'.length+1:=by simp
   rw[← hll]at hS hR
   refine then8 (r8q_31 (step_call8 hR h1 hl hol) hS) fun A u4 ⟨_,hS,v,hv,hMd⟩=>?_
   have hMd:Mid8 W b0 mb n ops gs' (order'++[k]) _ k u4:=hMd.heap hv.symm
   refine pm8 (r8q_32 (settle_call8 hMd h1 hol) hS) fun a u5 ⟨hd,hS,v2,hv2,hR⟩=>⟨hd,_,_,oa2,oc2,hS,hR.heap hv2.symm,?_,.inl ?_⟩
   ·rw[gTurn_go h1 hl (by omega)]
   ·rw[List.length_append,List.length_singleton]
    rcases hpr with hpr|⟨e,_⟩
    ·omega
    ·simp only[Prod.mk.injEq]at e
     rw[e.2]
     omega
  ·have hpp:¬p≠0:=fun h=>hl (hp.1 h)
   refine wp_cond (t:=false) (by rw[show Act.eval ⟨A,[]⟩ (.tmp 126)=A.getD 126 undef from rfl,s126,decide_eq_false (by omega)]) (wp_skip ?_)
   refine⟨rfl,gs',order',oa',oc',⟨hsz,s0,s1,s2,s3,s8,s9,s12,s15,trivial⟩,hR,?_,?_⟩
   ·rw[gTurn_no (fun h=>hl (by simpa using h.2.2))]
   ·rcases hpr with hpr|⟨e,hz⟩
    ·exact .inl hpr
    ·refine .inr ⟨e,fun j hj=>?_⟩
     by_cases hjk:j=k
     ·subst hjk
      simp only[Prod.mk.injEq]at e
      rw[← e.1]
      simpa using hl
     ·exact hz j (by omega)
theorem r8_rounds(hI:OpsIn Wp N n tb o tl ta oa ol oc ops S sa)(hb:b0=Wp.heap.size)(hW:∀r,r<b0→W.heap[r]? =Wp.heap[r]?)(hM:M≤1048576){gs:GS SPl}{order:List Nat}{oa1:Option Addr}{oc1:Nat}(hm0:order.length≤M)(hR:RW8 W b0 mb n ops gs order (.slice oa1 order.length oc1) u0){A:Array Value}(hA:Slots 162 A [(0,.pointer (some ⟨mb,0,none⟩)),(1,.slice ta tl tc),(2,.slice sa S.length sc),(3,.int .i64 M),(8,.pointer (some ⟨t8,0,none⟩)),(9,.int .i64 n),(12,.slice oa1 order.length oc1)]):
 r8pb4.wp Try.prog (nrm fun a u=>a.defers=[]∧∃gs' order' oa' oc',Slots 162 a.tmps [(0,.pointer (some ⟨mb,0,none⟩)),(1,.slice ta tl tc),(2,.slice sa S.length sc),(3,.int .i64 M),(8,.pointer (some ⟨t8,0,none⟩)),(9,.int .i64 n),(12,.slice oa' order'.length oc')]∧RW8 W b0 mb n ops gs' order' (.slice oa' order'.length oc') u∧order'.length≤M∧gDone n M (gs',order')∧∃k,∀f,gRounds ops n M (f+k) (gs,order)=gRounds ops n M f (gs',order')) ⟨A,[]⟩ u0:=by
 have hn64:n≤64:=by have:=hI.hn;omega
 rw[r8pb4',r8pl30',r8ps31',r8ps32',r8pc106']
 refine while2_nrm (I:=fun g a u=>a.defers=[]∧∃(gs':GS SPl) (order':List Nat) (oa':Option Addr) (oc':Nat),g=M - order'.length∧Slots 162 a.tmps [(0,.pointer (some ⟨mb,0,none⟩)),(1,.slice ta tl tc),(2,.slice sa S.length sc),(3,.int .i64 M),(8,.pointer (some ⟨t8,0,none⟩)),(9,.int .i64 n),(12,.slice oa' order'.length oc')]∧RW8 W b0 mb n ops gs' order' (.slice oa' order'.length oc') u∧order'.length≤M∧∃k,∀f,gRounds ops n M (f+k) (gs,order)=gRounds ops n M f (gs',order'))
  (J:=fun g a u=>a.defers=[]∧∃(gs':GS SPl) (order':List Nat) (oa':Option Addr) (oc':Nat),g=M - order'.length∧Slots 162 a.tmps [(0,.pointer (some ⟨mb,0,none⟩)),(1,.slice ta tl tc),(2,.slice sa S.length sc),(3,.int .i64 M),(8,.pointer (some ⟨t8,0,none⟩)),(9,.int .i64 n),(12,.slice oa' order'.length oc')]∧RW8 W b0 mb n ops gs' order' (.slice oa' order'.length oc') u∧0<cnt gs'.live n∧order'.length<M∧∃k,∀f,gRounds ops n M (f+k) (gs,order)=gRounds ops n M f (gs',order'))
  (fun g a u ⟨hd,gs',order',oa',oc',h2,hS,hR,hm,hg⟩=>?_) (fun g a u ⟨hd,gs',order',oa',oc',h2,hS,hR,hl0,hm,hg⟩=>?_) (g:=M - order.length) ⟨rfl,gs,order,oa1,oc1,rfl,hA,hR,hm0,0,fun f=>rfl⟩
 ·rw[act8 hd]
  have hC:Calls Try.prog 85 #[.pointer (some ⟨mb,0,none⟩)] u fun e u'=>e= .returned (.bool (decide (0<cnt gs'.live n)))∧u'.heap=u.heap:=by
   obtain⟨⟨B',ts,rfl,hS8⟩,_⟩:=hR
   refine(left8 hS8.A (by rw[hS8.n];exact hn64)).mono fun e u' ⟨k1,k2⟩=>⟨?_,k2⟩
   rw[k1]
   simp only[hS8.left]
  refine pm8 (r8q_25 hC hS) fun a u' ⟨hd,⟨hS,b,h64,hb⟩,hu⟩=>?_
  by_cases hc:0<cnt gs'.live n∧order'.length<M
  ·have hbt:b=true:=hb.2 ⟨decide_eq_true hc.1,by omega⟩
   subst hbt
   exact .inl ⟨h64,hd,gs',order',oa',oc',h2,hS,hR.heap hu,hc.1,hc.2,hg⟩
  ·have hbf:b=false:=by
    cases b with
    | false=>rfl
    | true=>have:=hb.1 rfl;simp only[decide_eq_true_eq]at this;omega
   subst hbf
   refine .inr ⟨h64,hd,gs',order',oa',oc',hS,hR.heap hu,hm,?_,hg⟩
   unfold gDone
   simp only
   omega
 ·rw[act8 hd]
  refine pm8 (r8_round hI hb hW hM hl0 hm hR hS) fun a u' ⟨hd,gs2,order2,oa2,oc2,hS,hR,hm2,hlt,he⟩=>?_
  obtain⟨k,hk⟩:=hg
  refine⟨M - order2.length,by omega,hd,gs2,order2,oa2,oc2,rfl,hS,hR,hm2,k+1,fun f=>?_⟩
  rw[show f+(k+1)=(f+1)+k by omega,hk]
  simp only[gRounds]
  rw[if_neg (fun h=>by unfold gDone at h;simp only at h;omega),he]
  rfl
end
end
section
theorem four_set{u W9:World}{t:Nat}{a b c d a' b' c' d':Value}(h:u.heap[t]? =some (.cells #[a,b,c,d] 31 (0,0)))(e:W9.heap=((((u.setCell ⟨t,0,none⟩ a').setCell ⟨t,1,none⟩ b').setCell ⟨t,2,none⟩ c').setCell ⟨t,3,none⟩ d').heap):
 W9.heap[t]? =some (.cells #[a',b',c',d'] 31 (0,0))∧∀r,r≠t→W9.heap[r]? =u.heap[r]?:=by
 have h0:(u.setCell ⟨t,0,none⟩ a').heap[t]? =some (.cells #[a',b,c,d] 31 (0,0)):=heap_set_eq h
 have h1:((u.setCell ⟨t,0,none⟩ a').setCell ⟨t,1,none⟩ b').heap[t]? =some (.cells #[a',b',c,d] 31 (0,0)):=heap_set_eq h0
 have h2:(((u.setCell ⟨t,0,none⟩ a').setCell ⟨t,1,none⟩ b').setCell ⟨t,2,none⟩ c').heap[t]? =some (.cells #[a',b',c',d] 31 (0,0)):=heap_set_eq h1
 have h3:((((u.setCell ⟨t,0,none⟩ a').setCell ⟨t,1,none⟩ b').setCell ⟨t,2,none⟩ c').setCell ⟨t,3,none⟩ d').heap[t]? =some (.cells #[a',b',c',d'] 31 (0,0)):=heap_set_eq h2
 refine⟨by rw[e];exact h3,fun r hr=>?_⟩
 rw[e,heap_setCell_ne _ _ _ (by exact hr),heap_setCell_ne _ _ _ (by exact hr),heap_setCell_ne _ _ _ (by exact hr),heap_setCell_ne _ _ _ (by exact hr)]
def RefOut8(Wp:World)(ops:Nat→List Op4)(n M:Nat)(S:List Int)(s0:GS SPl)(v:Value)(w':World):Prop:=
 ∃(s:GS SPl) (order:List Nat) (xa oa' sa':Option Addr) (xc oc' sc':Nat) (Y:Nat→List SA) (va:Nat→Option Addr) (vc:Nat→Nat),
  v= .agg #[.slice xa n xc,.slice oa' order.length oc',.slice sa' (SSt.state s.q).length sc',.bool (decide (0<cnt s.live n))]∧gDone n M (s,order)∧(∃k,∀f,k≤f→gOver ops n M S f s0=(s,order))∧
  w'.ownsRow 0 3 1 (.slice oa' order.length oc') order.length (order.map fun i:Nat=>.int .i64 i)∧w'.ownsRow 0 2 1 (.slice sa' (SSt.state s.q).length sc') (SSt.state s.q).length ((SSt.state s.q).map fun v=>.int .i64 v)∧
  w'.ownsRow 0 42 1 (.slice xa n xc) n ((List.range n).map fun i=>.slice (va i) (Y i).length (vc i))∧(∀i,i<n→w'.ownsRow 0 44 3 (.slice (va i) (Y i).length (vc i)) (Y i).length (ansS (Y i))∧(Y i).map SA.an=(s.th i).ans∧∀a∈Y i,SAU a w')∧(∀r,r<Wp.heap.size→w'.heap[r]? =Wp.heap[r]?)∧Wp.heap.size≤w'.heap.size∧(SSt.state s.q).length≤17∧∀(i:Nat),∀a∈GT.ans (s.th i),(a:SAn).2.2.length≤17
theorem RefOut8.kept{Wp u u':World}{ops:Nat→List Op4}{n M t:Nat}{S:List Int}{s0:GS SPl}{v:Value}(h:RefOut8 Wp ops n M S s0 v u)(ht:∃c,u.heap[t]? =some (.cells c 31 (0,0)))(hk:∀r,r≠t→u'.heap[r]? =u.heap[r]?)(hs:u.heap.size≤u'.heap.size){Wq:World}(hq:∀r,r<Wq.heap.size→r≠t∧r<Wp.heap.size∧Wp.heap[r]? =Wq.heap[r]?)(hqs:Wq.heap.size≤Wp.heap.size):RefOut8 Wq ops n M S s0 v u':=by
 obtain⟨s,order,xa,oa',sa',xc,oc',sc',Y,va,vc,h1,h2,h3,h4,h5,h6,h7,h8,h9,h10⟩:=h
 obtain⟨c,hc⟩:=ht
 have key:∀{e:TypeId} {n size:Nat} {v:Value} {xs:List Value},e≠31→u.ownsRow 0 e size v n xs→u'.ownsRow 0 e size v n xs:=fun{e n size v xs} he h=>own_off2 h fun b d hb _=>hk b fun hbt=>by
  subst hbt
  rw[hc]at hb
  cases hb
  exact he rfl
 exact⟨s,order,xa,oa',sa',xc,oc',sc',Y,va,vc,h1,h2,h3,key (by decide) h4,key (by decide) h5,key (by decide) h6,fun i hi=>⟨key (by decide) (h7 i hi).1,(h7 i hi).2.1,fun a ha=>key (by decide) ((h7 i hi).2.2 a ha)⟩,fun r hr=>by
  obtain⟨q1,q2,q3⟩:=hq r hr
  exact(hk r q1).trans ((h8 r q2).trans q3),Nat.le_trans hqs (Nat.le_trans h9 hs),h10⟩
section
variable{Wp w W u u0:World}{N:Nat→Prop}{n tb o tl tc sc M mb t8 b0:Nat}{ta sa:Option Addr}{oa:Nat→Option Addr}{ol oc:Nat→Nat}{ops:Nat→List Op4}{S:List Int}{g0:GS SPl}
theorem r8_last{t bt:Nat}{a0 a1 a2:Option Addr}{n0 p0 n1 p1 n2 p2:Nat}{st:Bool}{z0 z1 z2 z3:Value}{R:Value→World→Prop}(hb:u.heap[bt]? =some (.cells #[(.slice a0 n0 p0),(.slice a1 n1 p1),(.slice a2 n2 p2),(.bool st)] 31 (0,0)))(ht:u.heap[t]? =some (.cells #[z0,z1,z2,z3] 31 (0,0)))(hne:t≠bt)
 (hR:∀W9:World,W9.heap=((((u.setCell ⟨t,0,none⟩ (.slice a0 n0 p0)).setCell ⟨t,1,none⟩ (.slice a1 n1 p1)).setCell ⟨t,2,none⟩ (.slice a2 n2 p2)).setCell ⟨t,3,none⟩ (.bool st)).heap→R (.agg #[(.slice a0 n0 p0),(.slice a1 n1 p1),(.slice a2 n2 p2),(.bool st)]) W9) {A:Array Value} (hA:Slots 162 A [(8,.pointer (some ⟨t,0,none⟩)),(16,.pointer (some ⟨bt,0,none⟩))]):
 r8ps48.wp Try.prog (bodyPost Try.prog Try.f51 fun x w'=>∃v,x= .returned v∧R v w') ⟨A,[]⟩ u:=by
 have E:Aside (u.heap[t]? =some (.cells #[z0,z1,z2,z3] 31 (0,0))∧∀W9:World,W9.heap=((((u.setCell ⟨t,0,none⟩ (.slice a0 n0 p0)).setCell ⟨t,1,none⟩ (.slice a1 n1 p1)).setCell ⟨t,2,none⟩ (.slice a2 n2 p2)).setCell ⟨t,3,none⟩ (.bool st)).heap→R (.agg #[(.slice a0 n0 p0),(.slice a1 n1 p1),(.slice a2 n2 p2),(.bool st)]) W9):=⟨ht,hR⟩
 have c0:u.cell? ⟨bt,0,none⟩=some (.slice a0 n0 p0):=by simp[World.cell?,hb]
 have c1:u.cell? ⟨bt,1,none⟩=some (.slice a1 n1 p1):=by simp[World.cell?,hb]
 have c2:u.cell? ⟨bt,2,none⟩=some (.slice a2 n2 p2):=by simp[World.cell?,hb]
 have c3:u.cell? ⟨bt,3,none⟩=some (.bool st):=by simp[World.cell?,hb]
 have d0:u.cell? ⟨t,0,none⟩=some z0:=by simp[World.cell?,ht]
 have d1:u.cell? ⟨t,1,none⟩=some z1:=by simp[World.cell?,ht]
 have d2:u.cell? ⟨t,2,none⟩=some z2:=by simp[World.cell?,ht]
 have d3:u.cell? ⟨t,3,none⟩=some z3:=by simp[World.cell?,ht]
 have f0:u.frozen? ⟨t,0,none⟩=false:=by simp[World.frozen?,ht]
 have f1:u.frozen? ⟨t,1,none⟩=false:=by simp[World.frozen?,ht]
 have f2:u.frozen? ⟨t,2,none⟩=false:=by simp[World.frozen?,ht]
 have f3:u.frozen? ⟨t,3,none⟩=false:=by simp[World.frozen?,ht]
 clear hb ht hR
 obtain⟨s,rfl,k8,k16,_⟩:=r8p_s hA
 simp only[r8ps48,r8pBody,pC,Try.f51,Option.getD_some,r8pT,k8,k16]
 clear k8 k16
 go_wp2_with (fail)
 generalize hW9:((((u.setCell ⟨t,0,none⟩ (.slice a0 n0 p0)).setCell ⟨t,1,none⟩ (.slice a1 n1 p1)).setCell ⟨t,2,none⟩ (.slice a2 n2 p2)).setCell ⟨t,3,none⟩ (.bool st))=W9
 have hC:=(four_set E.out.1 (W9:=W9) (by rw[hW9])).1
 have hR:=E.out.2 W9 (by rw[hW9])
 have q0:W9.cell? ⟨t,0,none⟩=some (.slice a0 n0 p0):=by simp[World.cell?,hC]
 have q1:W9.cell? ⟨t,1,none⟩=some (.slice a1 n1 p1):=by simp[World.cell?,hC]
 have q2:W9.cell? ⟨t,2,none⟩=some (.slice a2 n2 p2):=by simp[World.cell?,hC]
 have q3:W9.cell? ⟨t,3,none⟩=some (.bool st):=by simp[World.cell?,hC]
 exact bodyPost_ret (v:=.agg #[(.slice a0 n0 p0),(.slice a1 n1 p1),(.slice a2 n2 p2),(.bool st)]) (by simp[results,Try.f51,go_sem,q0,q1,q2,q3]) rfl ⟨_,rfl,hR⟩
theorem r8_end(hI:OpsIn Wp N n tb o tl ta oa ol oc ops S sa)(hb:b0=Wp.heap.size)(hW:∀r,r<b0→W.heap[r]? =Wp.heap[r]?)(hn:n≤64)(hol:∀j,j<n→(ops j).length≤65536){gs:GS SPl}{order:List Nat}{oa1:Option Addr}{oc1:Nat}(hR:RW8 W b0 mb n ops gs order (.slice oa1 order.length oc1) u0)(hgd:gDone n M (gs,order))(hg:∃k,∀f,k≤f→gOver ops n M S f g0=(gs,order))(hbW:b0≤W.heap.size)(ht8:b0≤t8)(hz:W.heap[t8]? =some (.cells #[.slice none 0 0,.slice none 0 0,.slice none 0 0,.bool false] 31 (0,0))){A:Array Value}(hA:Slots 162 A [(0,.pointer (some ⟨mb,0,none⟩)),(1,.slice ta tl tc),(2,.slice sa S.length sc),(3,.int .i64 M),(8,.pointer (some ⟨t8,0,none⟩)),(9,.int .i64 n),(12,.slice oa1 order.length oc1)]):
 r8ps41.wp Try.prog (bodyPost Try.prog Try.f51 fun x w'=>∃v,x= .returned v∧RefOut8 Wp ops n M S g0 v w') ⟨A,[]⟩ u0:=by
 have hlow:=hR.low hb hW
 have hzu:u0.heap[t8]? =some (.cells #[.slice none 0 0,.slice none 0 0,.slice none 0 0,.bool false] 31 (0,0)):=(hR.st.t _ _ _ _ (.inr rfl) hz).trans hz
 obtain⟨⟨B',ts,rfl,hS8⟩,hst,hord,hob,hbw⟩:=hR
 have hlen:=hS8.n
 have hC:Calls Try.prog 85 #[.pointer (some ⟨B'.mb,0,none⟩)] u0 fun e u'=>e= .returned (.bool (decide (0<cnt gs.live n)))∧u'.heap=u0.heap:=by
  refine(left8 hS8.A (by omega)).mono fun e u' ⟨k1,k2⟩=>⟨?_,k2⟩
  rw[k1]
  simp only[hS8.left]
 have hC2:∀X:World,X.heap=u0.heap→Calls Try.prog 86 #[.pointer (some ⟨B'.mb,0,none⟩)] X fun e u=>∃sa sl sc,e= .returned (.slice sa sl sc)∧(sl=(SSt.state gs.q).length∧u.ownsRow 0 2 1 (.slice sa sl sc) (SSt.state gs.q).length ((SSt.state gs.q).map fun v=>.int .i64 v)∧u0.heap.size≤u.heap.size∧(∀r,r<u0.heap.size→u.heap[r]? =u0.heap[r]?)):=fun X hX=>
  (state8 (hS8.A.heap hX)).mono fun e u ⟨v,k1,k2,k3,k4,k5⟩=>by
    obtain⟨a,c,rfl⟩:∃a c,v= .slice a (SSt.state gs.q).length c:=by
     rcases k2.2 with⟨e,h1⟩|⟨g,cap,cur,e,_⟩
     ·exact⟨none,0,by rw[e,h1]⟩
     ·exact⟨_,_,e⟩
    exact⟨a,(SSt.state gs.q).length,c,k1,rfl,k2,by rw[← hX];exact k3,fun r hr=>by rw[← hX];exact k4 r (by rw[hX];exact hr)⟩
 rw[r8ps41']
 refine wp_then8 (r8q_33 (R:=fun sa sl sc u=>sl=(SSt.state gs.q).length∧u.ownsRow 0 2 1 (.slice sa sl sc) (SSt.state gs.q).length ((SSt.state gs.q).map fun v=>.int .i64 v)∧u0.heap.size≤u.heap.size∧(∀r,r<u0.heap.size→u.heap[r]? =u0.heap[r]?)) hC hC2 hA) fun a V ⟨hd1,sa1,sl1,sc1,v,hS,⟨hsl,hrow,hvs,hvo⟩,hV⟩=>?_
 subst hsl
 have hVv:∀r,r<v.heap.size→V.heap[r]? =v.heap[r]?:=fun r hr=>by rw[hV];exact heap_alloc_lt _ _ hr
 have hV0:∀r,r<u0.heap.size→V.heap[r]? =u0.heap[r]?:=fun r hr=>(hVv r (by omega)).trans (hvo r hr)
 have hVb:V.heap[v.heap.size]? =some (.cells #[.slice none 0 0,.slice oa1 order.length oc1,.slice sa1 (SSt.state gs.q).length sc1,.bool (decide (0<cnt gs.live n))] 31 (0,0)):=by rw[hV];exact heap_alloc_new _ _
 have hVs:V.heap.size=v.heap.size+1:=by rw[hV];simp
 generalize hbt:v.heap.size=bt at hVv hVb hVs hvs hS
 have hSV:R8S V b0 B' n ops gs ts:=⟨hS8.A.more hV0,fun j t hj=>⟨(hS8.T j t hj).1,(hS8.T j t hj).2.low fun r hr=>hV0 r (by have:=hS8.A.bs;omega)⟩,hlen,hS8.L⟩
 have hget:∀i,i<n→∃t,ts[i]? =some t:=fun i hi=>⟨_,List.getElem?_eq_getElem (by omega)⟩
 obtain⟨rows,hrows⟩:∃rows:Nat→Value,rows=fun i=>((ts[i]?).map R8T.av).getD (.slice none 0 0):=⟨_,rfl⟩
 obtain⟨Y,hY⟩:∃Y:Nat→List SA,Y=fun i=>((ts[i]?).map R8T.ans).getD []:=⟨_,rfl⟩
 have hav:∀i,i<n→∃va vc,rows i= .slice va (Y i).length vc∧V.ownsRow 0 44 3 (rows i) (Y i).length (ansS (Y i))∧(Y i).map SA.an=(gs.th i).ans∧∀a∈Y i,SAU a V:=fun i hi=>by
  obtain⟨t,ht⟩:=hget i hi
  have hH:=hSV.A.thr t (List.mem_of_getElem? ht)
  have e1:rows i=t.av:=by rw[hrows];simp[ht]
  have e2:Y i=t.ans:=by rw[hY];simp[ht]
  rw[e1,e2]
  have hr:=hH.av
  rcases hr.2 with⟨e,h1⟩|⟨g,cap,cur,e,_⟩
  ·exact⟨none,0,by rw[e,h1],hr,(hS8.T i t ht).1.ans,hH.au⟩
  ·exact⟨_,_,e,hr,(hS8.T i t ht).1.ans,hH.au⟩
 obtain⟨va,hva⟩:=Classical.axiomOfChoice (r:=fun i (p:Option Addr×Nat)=>i<n→rows i= .slice p.1 (Y i).length p.2) (fun i=>by
  by_cases hi:i<n
  ·obtain⟨a,c,e,_⟩:=hav i hi
   exact⟨(a,c),fun _=>e⟩
  ·exact⟨(none,0),fun h=>absurd h hi⟩)
 rw[r8ps42',r8ps43',act8 hd1]
 have TE0:TE8 V bt 0 rows (.slice oa1 order.length oc1) (.slice sa1 (SSt.state gs.q).length sc1) (.bool (decide (0<cnt gs.live n))) none 0 V:=⟨⟨rfl,.inl ⟨rfl,rfl⟩⟩,fun r hr=>by simp[Value.ownBlock]at hr,hVb,fun _ _ _=>rfl,by omega,Nat.le_refl _⟩
 refine wp_then8 (R:=fun a u=>a.defers=[]∧Slots 162 a.tmps [(8,.pointer (some ⟨t8,0,none⟩)),(16,.pointer (some ⟨bt,0,none⟩))]∧∃xa xc,TE8 V bt n rows (.slice oa1 order.length oc1) (.slice sa1 (SSt.state gs.q).length sc1) (.bool (decide (0<cnt gs.live n))) xa xc u) (then8 (r8q_34 hS) fun A u1 ⟨_,hS,hu⟩=>?_) fun a u ⟨hd2,hS,xa,xc,hT⟩=>?_
 ·rw[r8pb8',r8pl44',r8ps45',r8ps46',r8pc145']
  refine while2_nrm (I:=fun g a u=>a.defers=[]∧∃(i:Nat) (xa:Option Addr) (xc:Nat),i≤n∧g=n - i∧Slots 162 a.tmps [(0,.pointer (some ⟨B'.mb,0,none⟩)),(1,.slice ta tl tc),(2,.slice sa S.length sc),(3,.int .i64 M),(8,.pointer (some ⟨t8,0,none⟩)),(9,.int .i64 n),(16,.pointer (some ⟨bt,0,none⟩)),(17,.int .i64 i)]∧TE8 V bt i rows (.slice oa1 order.length oc1) (.slice sa1 (SSt.state gs.q).length sc1) (.bool (decide (0<cnt gs.live n))) xa xc u)
   (J:=fun g a u=>a.defers=[]∧∃(i:Nat) (xa:Option Addr) (xc:Nat),i<n∧g=n - i∧Slots 162 a.tmps [(0,.pointer (some ⟨B'.mb,0,none⟩)),(1,.slice ta tl tc),(2,.slice sa S.length sc),(3,.int .i64 M),(8,.pointer (some ⟨t8,0,none⟩)),(9,.int .i64 n),(16,.pointer (some ⟨bt,0,none⟩)),(17,.int .i64 i)]∧TE8 V bt i rows (.slice oa1 order.length oc1) (.slice sa1 (SSt.state gs.q).length sc1) (.bool (decide (0<cnt gs.live n))) xa xc u)
   (fun g a u ⟨hd,i,xa,xc,h1,h2,hS,hT⟩=>?_) (fun g a u ⟨hd,i,xa,xc,h1,h2,hS,hT⟩=>?_) (g:=n) ⟨rfl,0,none,0,Nat.zero_le _,rfl,hS,TE0.heap hu⟩
  ·rw[act8 hd]
   refine pm8 (r8q_35 hS) fun a u' ⟨hd,⟨hsz,s0,s1,s2,s3,s8,s9,s16,s17,s145,_⟩,hu⟩=>?_
   by_cases hi:i<n
   ·exact .inl ⟨by rw[s145,decide_eq_true (by omega)],hd,i,xa,xc,hi,h2,⟨hsz,s0,s1,s2,s3,s8,s9,s16,s17,trivial⟩,hT.heap hu⟩
   ·obtain rfl:i=n:=by omega
    exact .inr ⟨by rw[s145,decide_eq_false (by omega)],hd,⟨hsz,s8,s16,trivial⟩,xa,xc,hT.heap hu⟩
  ·rw[act8 hd,r8ps47',r8pb9']
   obtain⟨t,ht⟩:=hget i h1
   obtain⟨tb2,tc2,htv,m0,m1,m2,zm,t0,t1,t3,t4,t5,t6,t7,zt,mt,wt,htb⟩:=hSV.A.fx ht
   have e1:rows i=t.av:=by rw[hrows];simp[ht]
   have e2:=hva i h1
   rw[← e1,e2]at t1
   rw[hlen]at m2
   have hml:=hSV.A.low_m
   have nm:bt≠B'.mb:=fun e=>by have h:=hVb;rw[e,hSV.A.o]at h;cases h
   have nt:bt≠tb2:=fun e=>by obtain⟨c,hc⟩:=row_blk hSV.A.row (r:=tb2) (by rw[htv];rfl);rw[← e,hVb]at hc;cases hc
   have m2u:u.cell? ⟨B'.mb,2,none⟩=some (.slice (some ⟨tb2,0,none⟩) n tc2):=by rw[← m2];simp only[World.cell?];rw[hT.old _ hml nm.symm]
   have t1u:u.cell? ⟨tb2,i*8+1,none⟩=some (.slice (va i).1 (Y i).length (va i).2):=by rw[← t1];simp only[World.cell?];rw[hT.old _ htb nt.symm]
   refine then8 (blk8 (r8q_37 hT h1 (by omega) e2 m2u t1u nm nt (fun e=>by have:=hT.own _ e;omega) (fun e=>by have:=hT.own _ e;omega) hS)) fun A u2 ⟨_,hS,xa2,xc2,hT⟩=>?_
   exact pm8 (r8q_36 (by omega) hS) fun a u3 ⟨hd,hS,hu⟩=>⟨n - (i+1),by omega,hd,i+1,xa2,xc2,h1,rfl,hS,hT.heap hu⟩
 ·rw[act8 hd2]
  have hbs:=hS8.A.bs
  have ht8u:t8<u0.heap.size:=(alt hzu)
  have hzV:V.heap[t8]? =some (.cells #[.slice none 0 0,.slice none 0 0,.slice none 0 0,.bool false] 31 (0,0)):=(hV0 _ ht8u).trans hzu
  have hzn:u.heap[t8]? =some (.cells #[.slice none 0 0,.slice none 0 0,.slice none 0 0,.bool false] 31 (0,0)):=(hT.old t8 (by omega) (by omega)).trans hzV
  refine r8_last hT.blk hzn (by omega) (fun W9 h9=>?_) hS
  obtain⟨h91,h92⟩:=four_set hzn h9
  have h92s:u.heap.size≤W9.heap.size:=by rw[h9];simp[World.size_setCell]
  have hk:∀r,r<V.heap.size→r≠bt→r≠t8→W9.heap[r]? =V.heap[r]?:=fun r h1 h2 h3=>(h92 r h3).trans (hT.old r h1 h2)
  have key:∀{e:TypeId} {n size:Nat} {v:Value} {xs:List Value},e≠31→V.ownsRow 0 e size v n xs→W9.ownsRow 0 e size v n xs:=fun{e n size v xs} he h=>own_off2 h fun b d hb _=>hk b (alt hb) (fun hbt=>by subst hbt;rw[hVb]at hb;cases hb;exact he rfl) (fun hbt=>by subst hbt;rw[hzV]at hb;cases hb;exact he rfl)
  have keyu:∀{e:TypeId} {n size:Nat} {v:Value} {xs:List Value},e≠31→u.ownsRow 0 e size v n xs→W9.ownsRow 0 e size v n xs:=fun{e n size v xs} he h=>own_off2 h fun b d hb _=>h92 b (fun hbt=>by subst hbt;rw[hzn]at hb;cases hb;exact he rfl)
  have hordV:V.ownsRow 0 3 1 (.slice oa1 order.length oc1) order.length (order.map fun i:Nat=>.int .i64 i):=ownsRow_same2 hord fun b hb _=>by obtain⟨c,hc⟩:=row_blk hord hb;exact hV0 b (alt hc)
  have hrowV:V.ownsRow 0 2 1 (.slice sa1 (SSt.state gs.q).length sc1) (SSt.state gs.q).length ((SSt.state gs.q).map fun v=>.int .i64 v):=ownsRow_same2 hrow fun b hb _=>by obtain⟨c,hc⟩:=row_blk hrow hb;exact hVv b (by have:=(alt hc);omega)
  refine⟨gs,order,xa,oa1,sa1,xc,oc1,sc1,Y,fun i=>(va i).1,fun i=>(va i).2,rfl,hgd,hg,key (by decide) hordV,key (by decide) hrowV,?_,fun i hi=>?_,fun r hr=>?_,?_,(by have:=hS8.A.wf.n2;simp only[SSt.state,List.length_cons];omega),hS8.L⟩
  ·have h:=keyu (by decide) hT.row
   rwa [show(List.range n).map rows=(List.range n).map (fun i=>Value.slice (va i).1 (Y i).length (va i).2)from List.map_congr_left fun i hi=>hva i (by simpa using hi)]at h
  ·obtain⟨a,c,e1,e2,e3,e4⟩:=hav i hi
   rw[hva i hi]at e2
   exact⟨key (by decide) e2,e3,fun a ha=>key (by decide) (e4 a ha)⟩
  ·rw[← hlow r (by omega),← hV0 r (by omega)]
   exact hk r (by omega) (by omega) (by omega)
  ·have:=hT.size;omega
end
end
section
section
variable{w w':World}
theorem OpsIn.kept8{N:Nat→Prop}{n tb o tl:Nat}{ta:Option Addr}{oa:Nat→Option Addr}{ol oc:Nat→Nat}{ops:Nat→List Op4}{S:List Int}{sa:Option Addr}(h:OpsIn w N n tb o tl ta oa ol oc ops S sa)(hs:w.heap.size≤w'.heap.size)
 (hold:∀(r:Nat) (c:Array Value) (e:TypeId) (z:Nat×Nat),w.heap[r]? =some (.cells c e z)→w'.heap[r]? =some (.cells c e z)):OpsIn w' N n tb o tl ta oa ol oc ops S sa:=by
 have hc:∀{a:Addr} {v:Value},w.cell? a=some v→w'.cell? a=some v∧w'.frozen? a=w.frozen? a:=fun{a v} h=>by
  obtain⟨c,e,z,ho⟩:=cell_block h
  have e1:w'.heap[a.block]? =w.heap[a.block]?:=(hold _ _ _ _ ho).trans ho.symm
  exact⟨by rw[← h];unfold World.cell?;simp only[e1],by unfold World.frozen?;simp only[e1]⟩
 refine⟨h.hn,h.hta,fun hp=>by have:=h.htb hp;omega,fun j hj=>?_,h.hlen,fun j hj k x hx=>?_,h.hsl,fun hp=>?_⟩
 ·obtain⟨h1,h2,h3⟩:=h.hth j hj
  exact⟨(hc h1).1,(hc h1).2.trans h2,h3⟩
 ·obtain⟨opb,oo,h1,h2,f0,f1,f2,f3,g0,g1,g2,g3⟩:=h.hop j hj k x hx
  exact⟨opb,oo,h1,h2,(hc f0).1,(hc f1).1,(hc f2).1,(hc f3).1,(hc f0).2.trans g0,(hc f1).2.trans g1,(hc f2).2.trans g2,(hc f3).2.trans g3⟩
 ·obtain⟨sb,so,c,e,z,h1,h2,h3,h4⟩:=h.hS hp
  exact⟨sb,so,c,e,z,h1,h2,hold _ _ _ _ h3,h4⟩
end
section
variable{m:Pl}{ops:Nat→List Op4}{n M:Nat}
theorem gTurns_len8:∀(l:List Int) (s:GS m×List Nat),s.2.length≤M→(gTurns ops n M l s).2.length≤M
 | [],_,h=>h
 | i::l,_,h=>gTurns_len8 l _ (gTurn_len h i)
theorem gRounds_len8:∀(f:Nat) (s:GS m×List Nat),s.2.length≤M→(gRounds ops n M f s).2.length≤M
 | 0,_,h=>h
 | f+1,s,h=>by
   unfold gRounds
   split
   ·exact h
   ·exact gRounds_len8 f _ (gTurns_len8 _ _ h)
theorem gOver_len8{S:List Int}{f:Nat}{s:GS m}:(gOver ops n M S f s).2.length≤M:=gRounds_len8 _ _ (gTurns_len8 _ _ (Nat.zero_le _))
end
theorem slots4{n m:Nat}{a b c d:Value}(h:4+m=n):Slots n (#[a,b,c,d]++Array.replicate m undef) [(0,a),(1,b),(2,c),(3,d)]:=by
 refine⟨by simp;omega,?_,?_,?_,?_,trivial⟩<;>simp[Array.getD_eq_getD_getElem?,Array.getElem?_append]
theorem r8p_body:Try.f51.body=some r8ps0:=by
 have h:∃c,Try.f51.body=some c:=⟨_,rfl⟩
 obtain⟨c,h⟩:=h
 rw[r8ps0,r8pBody,h]
 rfl
section
variable{Wp w:World}{N:Nat→Prop}{n tb o tl tc sc M b0:Nat}{ta sa:Option Addr}{oa:Nat→Option Addr}{ol oc:Nat→Nat}{ops:Nat→List Op4}{S:List Int}{g0:GS SPl}{B:R8B}{mo:Int}
theorem run8(hI:OpsIn Wp N n tb o tl ta oa ol oc ops S sa)(hb:b0=Wp.heap.size)(hw:∀r,r<b0→w.heap[r]? =Wp.heap[r]?)(hM:min (max mo 0) 1048576=(M:Int))(hA:R8A w b0 B g0.q [])(h0:∀j,g0.th j=⟨0,none,[]⟩):
 CallsB Try.prog Try.f51 #[.pointer (some ⟨B.mb,0,none⟩),.slice ta tl tc,.slice sa S.length sc,.int .i64 mo] w (RefOut8 Wp ops n M S g0):=by
 have hn64:n≤64:=by have:=hI.hn;omega
 have hM1:M≤1048576:=by omega
 have hol:∀j,j<n→(ops j).length≤65536:=fun j hj=>by rw[hI.hlen j hj];omega
 have hbs:=hA.bs
 refine callsB_of r8p_body ?_
 simp only[Try.ntmps51,List.size_toArray,List.length_cons,List.length_nil,Nat.reduceAdd,Nat.reduceSub]
 have hS0:Slots 162 (#[.pointer (some ⟨B.mb,0,none⟩),.slice ta tl tc,.slice sa S.length sc,.int .i64 mo]++Array.replicate 158 undef) [(0,.pointer (some ⟨B.mb,0,none⟩)),(1,.slice ta tl tc),(2,.slice sa S.length sc),(3,.int .i64 mo)]:=slots4 rfl
 generalize #[Value.pointer (some ⟨B.mb,0,none⟩),.slice ta tl tc,.slice sa S.length sc,.int .i64 mo]++Array.replicate 158 undef=A0 at hS0 ⊢
 rw[r8ps0']
 refine wp_then8 (r8q_0 hS0) fun a W ⟨hd,hS,hW⟩=>?_
 rw[act8 hd,r8ps1']
 refine wp_then8 (r8q_1 hS) fun a u1 ⟨hd,hS,hu1⟩=>?_
 rw[act8 hd,r8ps2']
 refine wp_then8 (r8q_2 hI.hn hS) fun a u2 ⟨hd,hS,hu2⟩=>?_
 rw[act8 hd,r8ps4']
 refine wp_then8 (r8q_3 hS) fun a u3 ⟨hd,hS,hu3⟩=>?_
 rw[act8 hd,r8ps6']
 refine wp_then8 (r8q_4 hM hS) fun a u4 ⟨hd,hS,hu4⟩=>?_
 have e4:u4.heap=W.heap:=hu4.trans (hu3.trans (hu2.trans hu1))
 have hWo:∀r,r<w.heap.size→W.heap[r]? =w.heap[r]?:=fun r hr=>by rw[hW];exact heap_alloc_lt _ _ hr
 have hWz:W.heap[w.heap.size]? =some (.cells #[.slice none 0 0,.slice none 0 0,.slice none 0 0,.bool false] 31 (0,0)):=by rw[hW];exact heap_alloc_new _ _
 have hWs:W.heap.size=w.heap.size+1:=by rw[hW];simp
 have hAW:R8A W b0 B g0.q []:=hA.more hWo
 have hW0:∀r,r<b0→W.heap[r]? =Wp.heap[r]?:=fun r hr=>(hWo r (by omega)).trans (hw r hr)
 have hR0:RW8 W b0 B.mb 0 ops g0 [] (.slice none 0 0) u4:=⟨⟨B,[],rfl,hAW.heap e4,fun i t h=>by simp at h,rfl,fun i a ha=>by rw[h0 i]at ha;simp at ha⟩,(Stay.refl _ _).heap e4,⟨rfl,.inl ⟨rfl,rfl⟩⟩,fun r hr=>by simp[Value.ownBlock]at hr,by omega⟩
 rw[act8 hd,r8ps8']
 refine wp_then8 (r8_births hI hb hW0 h0 hR0 hS) fun a u5 ⟨hd,hS,hR⟩=>?_
 rw[act8 hd,r8ps18']
 refine wp_then8 (r8q_16 hS) fun a u6 ⟨hd,hS,hu6⟩=>?_
 rw[act8 hd,r8ps19']
 refine wp_then8 (r8_sched hI hb hW0 hM1 (hR.heap hu6) hS) fun a u7 ⟨hd,gs,order,oa',oc',hS,hR,hm,hg⟩=>?_
 rw[act8 hd,r8ps29']
 refine wp_then8 (r8_rounds hI hb hW0 hM1 hm hR hS) fun a u8 ⟨hd,gs2,order2,oa2,oc2,hS,hR,hm2,hdn,k,hk⟩=>?_
 rw[act8 hd]
 refine r8_end hI hb hW0 hn64 hol hR hdn ⟨k,fun f hf=>?_⟩ (by omega) (by omega) hWz hS
 obtain⟨f',rfl⟩:∃f',f=f'+k:=⟨f - k,by omega⟩
 unfold gOver
 rw[← hg,hk,gRounds_done hdn]
end
section
variable{w:World}{n tb o tl tc sc M vc:Nat}{ta sa va:Option Addr}{oa:Nat→Option Addr}{ol oc:Nat→Nat}{ops:Nat→List Op4}{S vs:List Int}{mo:Int}
theorem play8_ref(hv:RRow w va (vs.map fun v=>.int .i64 v))(hvl:vs.length<9223372036854775808)(hI:OpsIn w (fun _=>False) n tb o tl ta oa ol oc ops S sa)(hM:min (max mo 0) 1048576=(M:Int)):
 CallsB Try.prog Try.f16 #[.slice va vs.length vc,.slice ta tl tc,.slice sa S.length sc,.int .i64 mo] w (RefOut8 w ops n M S (ss0 vs)):=by
 have hW1o:∀r,r<w.heap.size→(w.alloc (.cells #[.slice none 0 0,.slice none 0 0,.slice none 0 0,.bool false] 31)).heap[r]? =w.heap[r]?:=fun r hr=>heap_alloc_lt _ _ hr
 have hW1s:(w.alloc (.cells #[.slice none 0 0,.slice none 0 0,.slice none 0 0,.bool false] 31)).heap.size=w.heap.size+1:=by simp
 have hW1z:(w.alloc (.cells #[.slice none 0 0,.slice none 0 0,.slice none 0 0,.bool false] 31)).heap[w.heap.size]? =some (.cells #[.slice none 0 0,.slice none 0 0,.slice none 0 0,.bool false] 31 (0,0)):=heap_alloc_new _ _
 have C50:Aside (∀u:World,(∀r,r<w.heap.size→u.heap[r]? =w.heap[r]?)→Calls Try.prog 50 #[.slice va vs.length vc] u fun e w'=>e= .returned (.pointer (some ⟨u.heap.size,0,none⟩))∧(∃B:R8B,B.mb=u.heap.size∧B.tv= .slice none 0 0∧R8A w' u.heap.size B (snew vs) [])∧Stay u.heap.size u w'):=fun u hu=>new8 (hv.olds hu) hvl
 have C51:Aside (∀(u X:World) (B:R8B),u.heap.size=w.heap.size+1→(∀r,r<w.heap.size→u.heap[r]? =w.heap[r]?)→B.mb=u.heap.size→R8A X u.heap.size B (snew vs) []→Stay u.heap.size u X→Calls Try.prog 51 #[.pointer (some ⟨u.heap.size,0,none⟩),.slice ta tl tc,.slice sa S.length sc,.int .i64 mo] X fun x w'=>∃v,x= .returned v∧RefOut8 u ops n M S (ss0 vs) v w'):=fun u X B h1 h2 h3 h4 h5=>by
  have h:=(run8 (Wp:=u) (g0:=ss0 vs) (hI.kept8 (w':=u) (by omega) fun r c e z h=>(h2 r (alt h)).trans h) rfl h5.o hM h4 (fun _=>rfl) (tc:=tc) (sc:=sc)).calls Try.func51 r8p_body
  rwa [h3]at h
 clear hv hI hM hvl
 refine callsB_of rfl ?_
 simp only[Try.ntmps16,List.size_toArray,List.length_cons,List.length_nil,Nat.reduceAdd,Nat.reduceSub,Array.replicate_succ,Array.replicate_zero,List.push_toArray,List.append_toArray,List.nil_append,List.cons_append]
 go_wp2_with (fail)
 generalize w.alloc (.cells #[.slice none 0 0,.slice none 0 0,.slice none 0 0,.bool false] 31)=W1 at hW1o hW1s hW1z ⊢
 have D:Aside ((∀r,r<w.heap.size→W1.heap[r]? =w.heap[r]?)∧W1.heap.size=w.heap.size+1∧W1.heap[w.heap.size]? =some (.cells #[.slice none 0 0,.slice none 0 0,.slice none 0 0,.bool false] 31 (0,0))):=⟨hW1o,hW1s,hW1z⟩
 clear hW1o hW1s hW1z
 go_at_call 50
 refine(C50.out _ D.out.1).mono ?_
 rintro e X ⟨rfl,⟨B,hB1,hB2,hB3⟩,hB4⟩
 have E:Aside (B.mb=W1.heap.size∧R8A X W1.heap.size B (snew vs) []∧Stay W1.heap.size W1 X):=⟨hB1,hB3,hB4⟩
 clear hB1 hB2 hB3 hB4
 go_wp2_with (fail)
 go_at_call 51
 refine(C51.out W1 _ B D.out.2.1 D.out.1 E.out.1 E.out.2.1 E.out.2.2).mono ?_
 rintro e u ⟨v,rfl,hR⟩
 have R:Aside (RefOut8 W1 ops n M S (ss0 vs) v u):=hR
 obtain⟨s,order,xa,oa',sa',xc,oc',sc',Y,va2,vc2,rfl,_⟩:=hR
 have hz:u.heap[w.heap.size]? =some (.cells #[.slice none 0 0,.slice none 0 0,.slice none 0 0,.bool false] 31 (0,0)):=by
  obtain⟨_,_,_,_,_,_,_,_,_,_,_,_,_,_,_,_,_,_,h8,_,_⟩:=R.out
  rw[h8 _ (by have:=D.out.2.1;omega)]
  exact D.out.2.2
 have Z:Aside (u.heap[w.heap.size]? =some (.cells #[.slice none 0 0,.slice none 0 0,.slice none 0 0,.bool false] 31 (0,0))):=hz
 have d0:u.cell? ⟨w.heap.size,0,none⟩=some (.slice none 0 0):=by simp[World.cell?,hz]
 have d1:u.cell? ⟨w.heap.size,1,none⟩=some (.slice none 0 0):=by simp[World.cell?,hz]
 have d2:u.cell? ⟨w.heap.size,2,none⟩=some (.slice none 0 0):=by simp[World.cell?,hz]
 have d3:u.cell? ⟨w.heap.size,3,none⟩=some (.bool false):=by simp[World.cell?,hz]
 have f0:u.frozen? ⟨w.heap.size,0,none⟩=false:=by simp[World.frozen?,hz]
 have f1:u.frozen? ⟨w.heap.size,1,none⟩=false:=by simp[World.frozen?,hz]
 have f2:u.frozen? ⟨w.heap.size,2,none⟩=false:=by simp[World.frozen?,hz]
 have f3:u.frozen? ⟨w.heap.size,3,none⟩=false:=by simp[World.frozen?,hz]
 clear hz
 go_wp2_with (fail)
 generalize hW9:((((u.setCell ⟨w.heap.size,0,none⟩ (.slice xa n xc)).setCell ⟨w.heap.size,1,none⟩ (.slice oa' order.length oc')).setCell ⟨w.heap.size,2,none⟩ (.slice sa' (SSt.state s.q).length sc')).setCell ⟨w.heap.size,3,none⟩ (.bool (decide (0<cnt s.live n))))=W9
 obtain⟨hC,hC2⟩:=four_set Z.out (W9:=W9) (by rw[hW9])
 have hsz:u.heap.size≤W9.heap.size:=by rw[← hW9];simp[World.size_setCell]
 have hR:=R.out.kept (u':=W9) ⟨_,Z.out⟩ hC2 hsz (Wq:=w) (fun r hr=>⟨by omega,by have:=D.out.2.1;omega,D.out.1 r hr⟩) (by have:=D.out.2.1;omega)
 have q0:W9.cell? ⟨w.heap.size,0,none⟩=some (.slice xa n xc):=by simp[World.cell?,hC]
 have q1:W9.cell? ⟨w.heap.size,1,none⟩=some (.slice oa' order.length oc'):=by simp[World.cell?,hC]
 have q2:W9.cell? ⟨w.heap.size,2,none⟩=some (.slice sa' (SSt.state s.q).length sc'):=by simp[World.cell?,hC]
 have q3:W9.cell? ⟨w.heap.size,3,none⟩=some (.bool (decide (0<cnt s.live n))):=by simp[World.cell?,hC]
 exact bodyPost_ret (v:=.agg #[.slice xa n xc,.slice oa' order.length oc',.slice sa' (SSt.state s.q).length sc',.bool (decide (0<cnt s.live n))]) (by simp[results,Try.f16,go_sem,q0,q1,q2,q3]) rfl ⟨_,rfl,hR⟩
end
end
section
open Go.ChangeShapes Go.WideShapes Go.ChangeAt
theorem bulk_one{H:Type}(d:DataW H):1≤Rows.uptoBulk d:=by
 cases d with
 | lit l=>cases l<;>simp[Rows.uptoBulk]
 | nil=>simp[Rows.uptoBulk]
 | ptr d=>simp[Rows.uptoBulk]
 | slice elems spare=>simp[Rows.uptoBulk]
 | agg parts=>simp[Rows.uptoBulk]
 | iface t d=>simp[Rows.uptoBulk]
 | map entries=>simp[Rows.uptoBulk]
 | held h=>simp[Rows.uptoBulk]
theorem bulk_part{H:Type}{d:DataW H}{l:List (DataW H)}(h:d∈l):Rows.uptoBulk d≤Rows.uptoBulkAll l:=by
 induction l with
 | nil=>cases h
 | cons x r ih=>
   simp only[Rows.uptoBulkAll]
   cases List.mem_cons.1 h with
   | inl e=>subst e;omega
   | inr e=>have:=ih e;omega
theorem bulk_length{H:Type}(l:List (DataW H)):l.length≤Rows.uptoBulkAll l:=by
 induction l with
 | nil=>simp[Rows.uptoBulkAll]
 | cons x r ih=>have:=bulk_one x;simp only[Rows.uptoBulkAll,List.length_cons];omega
theorem bulk_slice{H:Type}(elems spare:List (DataW H)):elems.length≤Rows.uptoBulk (.slice elems spare)∧∀d∈elems,Rows.uptoBulk d≤Rows.uptoBulk (.slice elems spare):=by
 have h1:=bulk_length elems
 simp only[Rows.uptoBulk]
 exact⟨by omega,fun d hd=>by have:=bulk_part hd;omega⟩
section
variable{H:Type}{enc:TypeId×Value→H}{W:World}
theorem cell_in{a:Addr}{v:Value}(h:W.cell? a=some v):∃c e z,W.heap[a.block]? =some (.cells c e z)∧c[a.off]? =some v:=by
 unfold World.cell? at h
 split at h
 ·rename_i c e z ho
  split at h
  ·cases h
  ·exact⟨c,e,z,ho,h⟩
 ·cases h
theorem frozen_in{b o:Nat}{c:Array Value}{e:TypeId}{z:Nat×Nat}(h:W.heap[b]? =some (.cells c e z))(hf:W.frozen? ⟨b,o,none⟩=false):(decide (z.1≤o) && decide (o<z.2))=false:=by
 simpa [World.frozen?,h]using hf
theorem cells47:Try.prog.cellsOf 47=4:=by kernel_rfl
theorem cells34:Try.prog.cellsOf 34=1:=by kernel_rfl
theorem cells2:Try.prog.cellsOf 2=1:=by kernel_rfl
theorem cells3:Try.prog.cellsOf 3=1:=by kernel_rfl
structure OpLies(W:World)(b o:Nat)(x:Op4):Prop where
 f0:W.cell? ⟨b,o,none⟩=some (.int .i64 x.kd)
 f1:W.cell? ⟨b,o+1,none⟩=some (.int .i64 x.a)
 f2:W.cell? ⟨b,o+2,none⟩=some (.int .i64 x.b)
 f3:W.cell? ⟨b,o+3,none⟩=some (.int .i64 x.c)
 g0:W.frozen? ⟨b,o,none⟩=false
 g1:W.frozen? ⟨b,o+1,none⟩=false
 g2:W.frozen? ⟨b,o+2,none⟩=false
 g3:W.frozen? ⟨b,o+3,none⟩=false
instance:Inhabited Op4:=⟨⟨0,0,0,0⟩⟩
theorem ops_in{v:Value}{fuel:Nat}{d:DataW H}{p:List MemPlace}(h:DataW.trod enc Try.prog W 0 (fun _=>true) true fuel 34 [v]=some (d,p))(hz:W.noneFrozen p):
 ∃(a:Option Addr) (l c b o:Nat) (X:Nat→Op4),v= .slice a l c∧l≤c∧l≤Rows.uptoBulk d∧∀k,k<l→a=some ⟨b,o,none⟩∧OpLies W b (o+k*4) (X k):=by
 rcases Deep.open_slice Try.underlying34 h with⟨h1,h2⟩|⟨a,len,cap,m,n,D,Pl,h1,hb,hlc,_,hm,h2,hx⟩
 ·cases h1
  exact⟨none,0,0,0,0,fun _=>default,rfl,Nat.le_refl _,Nat.zero_le _,fun k hk=>by omega⟩
 ·simp only[if_true]at hm
  subst hm
  cases h1
  simp only[Prod.mk.injEq]at h2
  obtain⟨rfl,rfl⟩:=h2
  rw[cells47]at hx hz
  have hsp:0<len→a.spot=none:=fun hp=>by
   obtain⟨cs',e1,_⟩:=hx 0 (by omega)
   obtain⟨_,_,hcell⟩:=World.cells?_some e1
   have h0:=hcell 0 (by omega)
   rw[List.getElem?_eq_getElem (by omega)]at h0
   have:=World.cell?_spot h0
   simpa [Addr.add]using this
  have each:∀k,k<len→∃x:Op4,∃b o,a=⟨b,o,none⟩∧OpLies W b (o+k*4) x:=fun k hk=>by
   obtain⟨cs',e1,e2⟩:=hx k (by omega)
   obtain⟨_,hlen,hcell⟩:=World.cells?_some e1
   obtain⟨xs,n',hk',hxy,_,hxl,hf⟩:=DataW.trod_struct Try.underlying47 e2
   match xs,hxl,cs',hlen with
   | [y0,y1,y2,y3],_,[v0,v1,v2,v3],_=>
     have q0:=hf 0 _ rfl
     have q1:=hf 1 _ rfl
     have q2:=hf 2 _ rfl
     have q3:=hf 3 _ rfl
     simp[cells2,cells3]at q0 q1 q2 q3
     obtain⟨n0,r0,_,_⟩:=DataW.trod_int Try.underlying3 q0
     obtain⟨n1,r1,_,_⟩:=DataW.trod_int Try.underlying2 q1
     obtain⟨n2,r2,_,_⟩:=DataW.trod_int Try.underlying2 q2
     obtain⟨n3,r3,_,_⟩:=DataW.trod_int Try.underlying2 q3
     cases r0
     cases r1
     cases r2
     cases r3
     obtain⟨b,o,spot⟩:=a
     have c0:=hcell 0 (by omega)
     have c1:=hcell 1 (by omega)
     have c2:=hcell 2 (by omega)
     have c3:=hcell 3 (by omega)
     have hs:spot=none:=hsp (by omega)
     subst hs
     rw[add_plain,add_plain]at c0 c1 c2 c3
     have hfr:∀j,j<m*4→W.frozen? ⟨b,o+j,none⟩=false:=fun j hj=>hz b (o+j) (List.mem_append_left _ (by simp only[MemPlace.row,List.mem_map,List.mem_range];exact⟨j,hj,rfl⟩))
     exact⟨⟨n0,n1,n2,n3⟩,b,o,rfl,c0,c1,c2,c3,hfr _ (by omega),by rw[Nat.add_assoc];exact hfr _ (by omega),by rw[Nat.add_assoc];exact hfr _ (by omega),by rw[Nat.add_assoc];exact hfr _ (by omega)⟩
  obtain⟨X,hX⟩:=Deep.choose_lt each
  refine⟨some a,len,m,a.block,a.off,X,rfl,hlc,?_,fun k hk=>?_⟩
  ·have:=(bulk_slice (H:=H) ((List.range len).map D) ((List.range (m - len)).map fun j=>D (len+j))).1
   simpa using this
  ·obtain⟨b,o,rfl,hh⟩:=hX k hk
   exact⟨rfl,hh⟩
end
end
section
theorem bes_good{An:Anchor}{P:Program}{Post:Value→World→Prop}{fr:Frame}{W:World}(hA:An.Holds W)
 (hB:Bes An P (fun g w=>g.status= .running∧∀d,∃v,stepG P true g (w.at d)= .ended (.done v) (w.at d) #[]∧(An.Holds (w.at d)→Post v (w.at d))) (G fr []) W):
 ∃M last o w' t',runNT P (M+1) (solo (G fr []) W) #[]=(.ended o w',t')∧runN P M (solo (G fr []) W)= .next last∧step P last= .ended o w'∧Go.Conc.Good P Post last o w' t':=by
 rw[solo_eq_crowd]
 obtain⟨N,gs',g',w',sl',T',q',B',hr,h0',⟨hrun,hS⟩,hL',hP',hA'⟩:=hB #[G fr []] none #[] (fun _=>0) 0 rfl (leavers_one _ _) past_nil hA
 obtain⟨K,last,o,w2,t',e1,e2,e3,e4⟩:=beside_ends (P:=P) (Post:=Post) (D:=fun _ _ es=>∀e∈es,EvL NoShun B' e) (sl:=sl') (n:=0) (fun _ _ _ h=>h) h0' hL' hP' (Goes.stop fun w₂ r₂=>by
  obtain⟨d,rfl⟩:=r₂
  obtain⟨v,h1,h2⟩:=hS d
  exact⟨hrun,v,#[],h1,by simp,h2 (hA'.at d)⟩)
 refine⟨N+K,last,o,w2,t',?_,?_,e3,e4⟩
 ·rw[Nat.add_assoc,runNT_add,hr];exact e1
 ·rw[runN_add,← runNT_fst P _ _ #[],hr];exact e2
theorem below_of{W w':World}(h:(⟨W.heap.size,W⟩:Anchor).Holds w')(hc:∀(r:Nat) (c:Array Value) (e:TypeId) (z:Nat×Nat),W.heap[r]? =some (.cells c e z)→w'.heap[r]? =some (.cells c e z)):Below W.heap.size W w':=by
 refine⟨h.os,h.tape,h.output,h.low,fun r hr=>?_⟩
 obtain⟨o,ho⟩:∃o,W.heap[r]? =some o:=⟨_,Array.getElem?_eq_getElem hr⟩
 by_cases e:∃c e z,o= .cells c e z
 ·obtain⟨c,e,z,rfl⟩:=e
  rw[hc r c e z ho,ho]
 ·rw[h.obj r o hr ho fun c e1 z e2=>e ⟨c,e1,z,e2⟩,ho]
theorem law_ends{f k:Nat}{fn:Func}{A:Array Value}(h2:¬2=f)(hf:Try.prog.funcs[f]? =some fn)(hr:fn.results= #[.tmp k]){v:Value}(hA:A.getD k undef=v)(w:World):
 stepG Try.prog true (G {(base f).at ⟨A,[]⟩ [.code .ret]with mode:=.returning} []) w= .ended (.done v) w #[]:=by
 subst hA
 simp[G,stepG,unwind,doReturn,results,Frame.at,base,hf,hr,seen,GStep.after,h2]
section
variable{An:Anchor}{W:World}
def LawPost(W:World)(v:Value)(w':World):Prop:=v= .bool true∧∀(r:Nat) (c:Array Value) (e:TypeId) (z:Nat×Nat),W.heap[r]? =some (.cells c e z)→w'.heap[r]? =some (.cells c e z)
def LawStop(An:Anchor)(Post:Value→World→Prop)(g:Goroutine)(w:World):Prop:=g.status= .running∧∀d,∃v,stepG Try.prog true g (w.at d)= .ended (.done v) (w.at d) #[]∧(An.Holds (w.at d)→Post v (w.at d))
theorem law_stop{f k:Nat}{fn:Func}{A:Array Value}(hf:Try.prog.funcs[f]? =some fn)(hr:fn.results= #[.tmp k])(h2:¬2=f)(hA:A.getD k undef= .bool true){w:World}(h:∀(r:Nat) (c:Array Value) (e:TypeId) (z:Nat×Nat),W.heap[r]? =some (.cells c e z)→w.heap[r]? =some (.cells c e z)):
 LawStop An (LawPost W) (G {(base f).at ⟨A,[]⟩ [.code .ret]with mode:=.returning} []) w:=
 ⟨rfl,fun d=>⟨_,law_ends h2 hf hr hA _,fun _=>⟨rfl,h⟩⟩⟩
end
theorem Try.own:ownKnob Try.prog.godebug=none:=by kernel_rfl
theorem Try.laidOut:laidOutB Try.prog=true:=by kernel_rfl
end
section
open Go.ChangeShapes Go.WideShapes Go.ChangeAt
variable{An:Anchor}{w w' W w1:World}
structure Bx(b:Nat)(v0 v1 v2 v3:Value)(u:World):Prop where
 h:u.heap[b]? =some (.cells #[v0,v1,v2,v3] 26 (0,0))
 c0:u.cell? ⟨b,0,none⟩=some v0
 c1:u.cell? ⟨b,1,none⟩=some v1
 c2:u.cell? ⟨b,2,none⟩=some v2
 c3:u.cell? ⟨b,3,none⟩=some v3
 z0:u.frozen? ⟨b,0,none⟩=false
 z1:u.frozen? ⟨b,1,none⟩=false
 z2:u.frozen? ⟨b,2,none⟩=false
 z3:u.frozen? ⟨b,3,none⟩=false
theorem Bx.of{b:Nat}{v0 v1 v2 v3:Value}{u:World}(h:u.heap[b]? =some (.cells #[v0,v1,v2,v3] 26 (0,0))):Bx b v0 v1 v2 v3 u:=by
 refine⟨h,?_,?_,?_,?_,?_,?_,?_,?_⟩<;>first|(simp[World.cell?,h];done)|(simp[World.frozen?,h];done)
theorem Bx.at{b:Nat}{v0 v1 v2 v3:Value}{u:World}(h:Bx b v0 v1 v2 v3 u)(d:Nat):Bx b v0 v1 v2 v3 (u.at d):=.of h.h
theorem callable14:Callable 14:=callable Try.func14 rfl rfl
theorem callable16:Callable 16:=callable Try.func16 rfl rfl
def S8l:List Nat:=[14,16,21,22,29,50,51,83,84,85,86,104,105,106,107,112]
theorem closed8:Closed Try.prog (fun f=>S8l.contains f) true:=closed_ofX (x:=[]) (fun f h=>by cases h) (by kernel_rfl)
section
variable{va ta sa:Option Addr}{vc tl tc sc n tb o M:Nat}{vs:List Int}{mo:Int}{oa:Nat→Option Addr}{ol oc:Nat→Nat}{ops:Nat→List Op4}{S:List Int}
theorem InRow.kept8(h:InRow w va vs)(hold:∀(r:Nat) (c:Array Value) (e:TypeId) (z:Nat×Nat),w.heap[r]? =some (.cells c e z)→w'.heap[r]? =some (.cells c e z)):InRow w' va vs:=fun i x hx=>by
 obtain⟨b,o,e,h1⟩:=h i x hx
 refine⟨b,o,e,?_⟩
 obtain⟨c,e2,z,ho⟩:=cell_block h1
 have:=hold _ _ _ _ ho
 rw[← h1];unfold World.cell?;simp only[this,ho]
theorem inrow_r(h:InRow w va vs):RRow w va (vs.map fun v=>.int .i64 v):=⟨fun k x hx=>by
 rw[List.getElem?_map,Option.map_eq_some_iff]at hx
 obtain⟨y,hy,rfl⟩:=hx
 exact h k y hy⟩
theorem RefOut8.same{Wp u u':World}{v:Value}{s0:GS SPl}(h:RefOut8 Wp ops n M S s0 v u)(e:u'.heap=u.heap):RefOut8 Wp ops n M S s0 v u':=by
 obtain⟨s,order,xa,oa',sa',xc,oc',sc',Y,va,vc,h1,h2,h3,h4,h5,h6,h7,h8,h9,h10⟩:=h
 have key:∀{e:TypeId} {n size:Nat} {v:Value} {xs:List Value},u.ownsRow 0 e size v n xs→u'.ownsRow 0 e size v n xs:=fun h=>own_off2 h fun _ _ _ _=>by rw[e]
 exact⟨s,order,xa,oa',sa',xc,oc',sc',Y,va,vc,h1,h2,h3,key h4,key h5,key h6,fun i hi=>⟨key (h7 i hi).1,(h7 i hi).2.1,fun a ha=>key ((h7 i hi).2.2 a ha)⟩,fun r hr=>by rw[e];exact h8 r hr,by rw[e];exact h9,h10⟩
theorem RefOut8.old{Wp u:World}{v:Value}{s0:GS SPl}(h:RefOut8 Wp ops n M S s0 v u):∀r,r<Wp.heap.size→u.heap[r]? =Wp.heap[r]?:=by
 obtain⟨_,_,_,_,_,_,_,_,_,_,_,_,_,_,_,_,_,_,h8,_,_⟩:=h
 exact h8
theorem RefOut8.size{Wp u:World}{v:Value}{s0:GS SPl}(h:RefOut8 Wp ops n M S s0 v u):Wp.heap.size≤u.heap.size:=by
 obtain⟨_,_,_,_,_,_,_,_,_,_,_,_,_,_,_,_,_,_,_,h9,_⟩:=h
 exact h9
theorem same_8{w2 w3:World}(hn64:n≤64)(hM1:M≤1048576)(hopl:∀i,i<n→(ops i).length≤65536){s:GS SPl}{order:List Nat}{aa:Nat}{rows:Nat→Value}{av:Nat→List SA}{oa1:Option Addr}{oc1:Nat}{xa1:Option Addr}{xc1:Nat}(hov:∃k,∀f,k≤f→gOver ops n M S f (ss0 vs)=(s,order))
 (hU:SPlayU w1 n (fun i=>(s.th i).ans) (SSt.state s.q) order aa rows av (.slice oa1 order.length oc1) (.slice xa1 (SSt.state s.q).length xc1) w2) {v:Value} (hR:RefOut8 w2 ops n M S (ss0 vs) v w3):
 CallsB Try.prog Try.f14 #[.agg #[.slice (some ⟨aa,0,none⟩) n n,.slice oa1 order.length oc1,.slice xa1 (SSt.state s.q).length xc1,.bool (decide (0<cnt s.live n))],v] w3 fun v w'=>v= .bool true∧∀r,r<w3.heap.size→w'.heap[r]? =w3.heap[r]?:=by
 obtain⟨s2,order2,xa2,oa2,sa2,xc2,oc2,sc2,Y,va2,vc2,rfl,hd2,hov2,r1,r2,r3,r4,hk,hks,hst17,hL17⟩:=hR
 have e12:(s2,order2)=(s,order):=by
  obtain⟨k1,hk1⟩:=hov
  obtain⟨k2,hk2⟩:=hov2
  exact(hk2 (max k1 k2) (Nat.le_max_right _ _)).symm.trans (hk1 (max k1 k2) (Nat.le_max_left _ _))
 cases e12
 obtain⟨ca,hca,hcs,hci⟩:=hU.arr
 have hrow:∀i,i<n→∃a c,rows i= .slice a (av i).length c:=fun i hi=>by
  have h:=(hU.row i hi).2.2.1
  rcases h.2 with⟨e,h1⟩|⟨g,cap,cur,e,_⟩
  ·exact⟨none,0,by rw[e,h1]⟩
  ·exact⟨_,_,e⟩
 obtain⟨va1,hva1⟩:=Classical.axiomOfChoice (r:=fun i (p:Option Addr×Nat)=>i<n→rows i= .slice p.1 (av i).length p.2) (fun i=>by
  by_cases hi:i<n
  ·obtain⟨a,c,e⟩:=hrow i hi
   exact⟨(a,c),fun _=>e⟩
  ·exact⟨(none,0),fun h=>absurd h hi⟩)
 have el:(order.map fun i:Nat=>(i:Int)).length=order.length:=List.length_map _
 have eo:((order.map fun i:Nat=>(i:Int)).map fun v=>Value.int .i64 v)=order.map fun i:Nat=>.int .i64 i:=by rw[List.map_map];rfl
 obtain⟨hol1,hsl1⟩:order.length<10000000∧(SSt.state s.q).length<20000000:=by
  obtain⟨k,hk⟩:=hov
  have e:=hk k (Nat.le_refl _)
  have h1:=gOver_len8 (ops:=ops) (n:=n) (M:=M) (S:=S) (f:=k) (s:=ss0 vs)
  rw[e]at h1
  simp only at h1
  exact⟨by omega,by omega⟩
 have hlist:∀i,i<n→∀a∈av i,a.an.2.2.length≤17:=fun i hi a ha=>by
  have h0:=(hU.row i hi).1
  have hm:a.an∈(av i).map SA.an:=List.mem_map_of_mem ha
  rw[h0]at hm
  exact hL17 i _ hm
 rw[← el]
 refine same14 (w:=w3) (X:=av) (Y:=Y) (va:=fun i=>(va1 i).1) (ca:=fun i=>(va1 i).2) hn64 (by rw[el];exact hol1) hsl1 (fun i hi=>⟨Nat.lt_of_le_of_lt (hU.row i hi).2.1 (by decide),?_,fun a ha=>⟨(SAL.of ((hU.row i hi).2.2.2 a ha)).olds hk,Nat.lt_of_le_of_lt (hlist i hi a ha) (by decide)⟩,fun a ha=>SAL.of ((r4 i hi).2.2 a ha)⟩) ?_ ?_ ?_ ?_ ?_ (rrow_of r3) (fun i hi=>?_) (fun i hi=>rrow_of (r4 i hi).1)
 ·rw[(hU.row i hi).1,(r4 i hi).2.1]
 ·rw[eo];exact(rrow_of hU.ord).olds hk
 ·rw[eo];exact rrow_of r1
 ·exact(rrow_of hU.st).olds hk
 ·exact rrow_of r2
 ·refine RRow.olds (w:=w2) ⟨fun k x hx=>?_⟩ hk
  obtain⟨hkn,rfl⟩:k<n∧Value.slice (va1 k).1 (av k).length (va1 k).2=x:=by
   rw[List.getElem?_map,Option.map_eq_some_iff]at hx
   obtain⟨j,hj,rfl⟩:=hx
   have hjn:=(List.getElem?_eq_some_iff.1 hj).1
   rw[List.length_range]at hjn
   rw[List.getElem?_range hjn]at hj
   cases hj
   exact⟨hjn,rfl⟩
  refine⟨aa,0,rfl,?_⟩
  rw[Nat.zero_add,← hva1 k hkn]
  have h1:=hci k hkn
  simpa [World.cell?,hca]using h1
 ·have h1:=(hU.row i hi).2.2.1
  rw[hva1 i hi]at h1
  exact(rrow_of h1).olds hk
theorem bes_splays(hv:InRow W va vs)(hvl:vs.length<9223372036854775808)(hI:OpsIn W (fun _=>False) n tb o tl ta oa ol oc ops S sa)(hM:min (max mo 0) 1048576=(M:Int)):
 Bes An Try.prog (LawStop An (LawPost W)) (G (Frame.enter Try.prog 3 #[.agg #[.slice va vs.length vc,.slice ta tl tc,.slice sa S.length sc,.int .i64 mo]] .normal) []) W:=by
 have hn64:n≤64:=by have:=hI.hn;omega
 have hopl:∀i,i<n→(ops i).length≤65536:=fun i hi=>by rw[hI.hlen i hi];omega
 refine bes_own (F:=F0) (Stop:=fun a u=>∃A,Slots 24 A [(1,.pointer (some ⟨W.heap.size,0,none⟩))]∧u.heap=(W.alloc (.cells #[.slice va vs.length vc,.slice ta tl tc,.slice sa S.length sc,.int .i64 mo] 26)).heap∧a=G (Frame.enter Try.prog 13 #[] .normal) [((Go.Conc.base 3).at ⟨A,[]⟩ [.inRegion (oC sqpr1) [0,1],.code sqpc4,.code sqps4])])
  (sqp_0 under_F0 (Nat.zero_le _) fun A hA=>.stop fun d=>⟨A,hA,rfl,rfl⟩) fun a u ⟨A,hA,hu,ha⟩=>?_
 subst ha
 have hbu:u.heap[W.heap.size]? =some (.cells #[.slice va vs.length vc,.slice ta tl tc,.slice sa S.length sc,.int .i64 mo] 26 (0,0)):=by rw[hu];exact heap_alloc_new _ _
 have hou:∀(r:Nat) (c:Array Value) (e:TypeId) (z:Nat×Nat),W.heap[r]? =some (.cells c e z)→u.heap[r]? =some (.cells c e z):=fun r c e z h=>by rw[hu,heap_alloc_lt _ _ (alt h)];exact h
 have hsu:W.heap.size≤u.heap.size:=by rw[hu];simp
 refine bes_fixed fun w1 hk1=>?_
 have hold1:∀(r:Nat) (c:Array Value) (e:TypeId) (z:Nat×Nat),W.heap[r]? =some (.cells c e z)→w1.heap[r]? =some (.cells c e z):=fun r c e z h=>hk1.2 _ _ _ _ (hou r c e z h)
 have hs1:W.heap.size≤w1.heap.size:=Nat.le_trans hsu hk1.1
 have hs:Bx W.heap.size (.slice va vs.length vc) (.slice ta tl tc) (.slice sa S.length sc) (.int .i64 mo) w1:=.of (hk1.2 _ _ _ _ hbu)
 have hv1:=hv.kept8 hold1
 have hI1:=hI.kept8 hs1 hold1
 generalize W.heap.size=b at hA hs
 refine bes_own (F:=F0) (Stop:=fun a u=>Bes An Try.prog (LawStop An (LawPost W)) a u) ?_ fun a u h=>h
 refine sqp_1 hA fun A hA=>?_
 obtain⟨hsz,h1,_⟩:=hA
 obtain⟨t,rfl⟩:=sqpT_of hsz
 change t 1=_ at h1
 clear hsz
 simp only[sqpT,h1]
 clear h1
 have hS:∀u d,Bx b (.slice va vs.length vc) (.slice ta tl tc) (.slice sa S.length sc) (.int .i64 mo) u→Bx b (.slice va vs.length vc) (.slice ta tl tc) (.slice sa S.length sc) (.int .i64 mo) (World.at u d):=fun u d h=>h.at d
 rw[sqpr3']
 refine own_drawnB (Bx b (.slice va vs.length vc) (.slice ta tl tc) (.slice sa S.length sc) (.int .i64 mo)) (last:=19) run_mixed (ll_of (by kernel_rfl)) (by decide) ?_
 simp only[sqpr3,sqpBody,Try.f3,zz,Nat.reduceAdd]
 refine anyB_take hS (fun _ _ d h=>h.at d) (i:=0) (v:=.pointer (some ⟨b,0,none⟩)) hs rfl rfl (by kernel_rfl) (by kernel_rfl) (by kernel_rfl) (fun u hu=>.inl ⟨rfl,fun d=>⟨by simp[go_sem,execOp,Act.eval],fun e he=>by have hm:=mem_listed he;simp[go_sem,execOp,Act.eval]at hm⟩⟩) ?_
 walk_nrm
 refine anyB_take hS (fun _ _ d h=>h.at d) (i:=1) (v:=.slice va vs.length vc) hs rfl rfl (by kernel_rfl) (by kernel_rfl) (by kernel_rfl) (fun u hu=>.inl ⟨rfl,fun d=>⟨by simp[go_sem,execOp,Act.eval,hu.c0,hu.c1,hu.c2,hu.c3,hu.z0,hu.z1,hu.z2,hu.z3],fun e he=>by have hm:=mem_listed he;simp[go_sem,execOp,Act.eval,hu.c0,hu.c1,hu.c2,hu.c3,hu.z0,hu.z1,hu.z2,hu.z3]at hm;subst hm;exact evT_read _ _⟩⟩) ?_
 walk_nrm
 refine anyB_take hS (fun _ _ d h=>h.at d) (i:=2) (v:=.pointer (some ⟨b,1,none⟩)) hs rfl rfl (by kernel_rfl) (by kernel_rfl) (by kernel_rfl) (fun u hu=>.inl ⟨rfl,fun d=>⟨by simp[go_sem,execOp,Act.eval],fun e he=>by have hm:=mem_listed he;simp[go_sem,execOp,Act.eval]at hm⟩⟩) ?_
 walk_nrm
 refine anyB_take hS (fun _ _ d h=>h.at d) (i:=3) (v:=.slice ta tl tc) hs rfl rfl (by kernel_rfl) (by kernel_rfl) (by kernel_rfl) (fun u hu=>.inl ⟨rfl,fun d=>⟨by simp[go_sem,execOp,Act.eval,hu.c0,hu.c1,hu.c2,hu.c3,hu.z0,hu.z1,hu.z2,hu.z3],fun e he=>by have hm:=mem_listed he;simp[go_sem,execOp,Act.eval,hu.c0,hu.c1,hu.c2,hu.c3,hu.z0,hu.z1,hu.z2,hu.z3]at hm;subst hm;exact evT_read _ _⟩⟩) ?_
 walk_nrm
 refine anyB_take hS (fun _ _ d h=>h.at d) (i:=4) (v:=.pointer (some ⟨b,2,none⟩)) hs rfl rfl (by kernel_rfl) (by kernel_rfl) (by kernel_rfl) (fun u hu=>.inl ⟨rfl,fun d=>⟨by simp[go_sem,execOp,Act.eval],fun e he=>by have hm:=mem_listed he;simp[go_sem,execOp,Act.eval]at hm⟩⟩) ?_
 walk_nrm
 refine anyB_take hS (fun _ _ d h=>h.at d) (i:=5) (v:=.slice sa S.length sc) hs rfl rfl (by kernel_rfl) (by kernel_rfl) (by kernel_rfl) (fun u hu=>.inl ⟨rfl,fun d=>⟨by simp[go_sem,execOp,Act.eval,hu.c0,hu.c1,hu.c2,hu.c3,hu.z0,hu.z1,hu.z2,hu.z3],fun e he=>by have hm:=mem_listed he;simp[go_sem,execOp,Act.eval,hu.c0,hu.c1,hu.c2,hu.c3,hu.z0,hu.z1,hu.z2,hu.z3]at hm;subst hm;exact evT_read _ _⟩⟩) ?_
 walk_nrm
 refine anyB_take hS (fun _ _ d h=>h.at d) (i:=6) (v:=.pointer (some ⟨b,3,none⟩)) hs rfl rfl (by kernel_rfl) (by kernel_rfl) (by kernel_rfl) (fun u hu=>.inl ⟨rfl,fun d=>⟨by simp[go_sem,execOp,Act.eval],fun e he=>by have hm:=mem_listed he;simp[go_sem,execOp,Act.eval]at hm⟩⟩) ?_
 walk_nrm
 refine anyB_take hS (fun _ _ d h=>h.at d) (i:=7) (v:=.int .i64 mo) hs rfl rfl (by kernel_rfl) (by kernel_rfl) (by kernel_rfl) (fun u hu=>.inl ⟨rfl,fun d=>⟨by simp[go_sem,execOp,Act.eval,hu.c0,hu.c1,hu.c2,hu.c3,hu.z0,hu.z1,hu.z2,hu.z3],fun e he=>by have hm:=mem_listed he;simp[go_sem,execOp,Act.eval,hu.c0,hu.c1,hu.c2,hu.c3,hu.z0,hu.z1,hu.z2,hu.z3]at hm;subst hm;exact evT_read _ _⟩⟩) ?_
 walk_nrm
 refine anyB_take hS (fun _ _ d h=>h.at d) (i:=9) (v:=.pointer (some ⟨b,0,none⟩)) hs rfl rfl (by kernel_rfl) (by kernel_rfl) (by kernel_rfl) (fun u hu=>.inl ⟨rfl,fun d=>⟨by simp[go_sem,execOp,Act.eval],fun e he=>by have hm:=mem_listed he;simp[go_sem,execOp,Act.eval]at hm⟩⟩) ?_
 walk_nrm
 refine anyB_take hS (fun _ _ d h=>h.at d) (i:=10) (v:=.slice va vs.length vc) hs rfl rfl (by kernel_rfl) (by kernel_rfl) (by kernel_rfl) (fun u hu=>.inl ⟨rfl,fun d=>⟨by simp[go_sem,execOp,Act.eval,hu.c0,hu.c1,hu.c2,hu.c3,hu.z0,hu.z1,hu.z2,hu.z3],fun e he=>by have hm:=mem_listed he;simp[go_sem,execOp,Act.eval,hu.c0,hu.c1,hu.c2,hu.c3,hu.z0,hu.z1,hu.z2,hu.z3]at hm;subst hm;exact evT_read _ _⟩⟩) ?_
 walk_nrm
 refine anyB_take hS (fun _ _ d h=>h.at d) (i:=11) (v:=.pointer (some ⟨b,1,none⟩)) hs rfl rfl (by kernel_rfl) (by kernel_rfl) (by kernel_rfl) (fun u hu=>.inl ⟨rfl,fun d=>⟨by simp[go_sem,execOp,Act.eval],fun e he=>by have hm:=mem_listed he;simp[go_sem,execOp,Act.eval]at hm⟩⟩) ?_
 walk_nrm
 refine anyB_take hS (fun _ _ d h=>h.at d) (i:=12) (v:=.slice ta tl tc) hs rfl rfl (by kernel_rfl) (by kernel_rfl) (by kernel_rfl) (fun u hu=>.inl ⟨rfl,fun d=>⟨by simp[go_sem,execOp,Act.eval,hu.c0,hu.c1,hu.c2,hu.c3,hu.z0,hu.z1,hu.z2,hu.z3],fun e he=>by have hm:=mem_listed he;simp[go_sem,execOp,Act.eval,hu.c0,hu.c1,hu.c2,hu.c3,hu.z0,hu.z1,hu.z2,hu.z3]at hm;subst hm;exact evT_read _ _⟩⟩) ?_
 walk_nrm
 refine anyB_take hS (fun _ _ d h=>h.at d) (i:=13) (v:=.pointer (some ⟨b,2,none⟩)) hs rfl rfl (by kernel_rfl) (by kernel_rfl) (by kernel_rfl) (fun u hu=>.inl ⟨rfl,fun d=>⟨by simp[go_sem,execOp,Act.eval],fun e he=>by have hm:=mem_listed he;simp[go_sem,execOp,Act.eval]at hm⟩⟩) ?_
 walk_nrm
 refine anyB_take hS (fun _ _ d h=>h.at d) (i:=14) (v:=.slice sa S.length sc) hs rfl rfl (by kernel_rfl) (by kernel_rfl) (by kernel_rfl) (fun u hu=>.inl ⟨rfl,fun d=>⟨by simp[go_sem,execOp,Act.eval,hu.c0,hu.c1,hu.c2,hu.c3,hu.z0,hu.z1,hu.z2,hu.z3],fun e he=>by have hm:=mem_listed he;simp[go_sem,execOp,Act.eval,hu.c0,hu.c1,hu.c2,hu.c3,hu.z0,hu.z1,hu.z2,hu.z3]at hm;subst hm;exact evT_read _ _⟩⟩) ?_
 walk_nrm
 refine anyB_take hS (fun _ _ d h=>h.at d) (i:=15) (v:=.pointer (some ⟨b,3,none⟩)) hs rfl rfl (by kernel_rfl) (by kernel_rfl) (by kernel_rfl) (fun u hu=>.inl ⟨rfl,fun d=>⟨by simp[go_sem,execOp,Act.eval],fun e he=>by have hm:=mem_listed he;simp[go_sem,execOp,Act.eval]at hm⟩⟩) ?_
 walk_nrm
 refine anyB_take hS (fun _ _ d h=>h.at d) (i:=16) (v:=.int .i64 mo) hs rfl rfl (by kernel_rfl) (by kernel_rfl) (by kernel_rfl) (fun u hu=>.inl ⟨rfl,fun d=>⟨by simp[go_sem,execOp,Act.eval,hu.c0,hu.c1,hu.c2,hu.c3,hu.z0,hu.z1,hu.z2,hu.z3],fun e he=>by have hm:=mem_listed he;simp[go_sem,execOp,Act.eval,hu.c0,hu.c1,hu.c2,hu.c3,hu.z0,hu.z1,hu.z2,hu.z3]at hm;subst hm;exact evT_read _ _⟩⟩) ?_
 walk_nrm
 refine anyB_all (r:=[8]) (by kernel_rfl) (by kernel_rfl) (fun i hi hil=>?_)
 simp only[List.mem_cons,List.not_mem_nil,or_false]at hi
 subst hi
 refine⟨_,rfl,.inr (.inr ⟨rfl,15,#[.slice va vs.length vc,.slice ta tl tc,.slice sa S.length sc,.int .i64 mo],fun v w'=>∃(s:GS SPl) (order:List Nat) (aa:Nat) (rows:Nat→Value) (av:Nat→List SA) (oa':Option Addr) (oc':Nat) (xa:Option Addr) (xc:Nat),v= .agg #[.slice (some ⟨aa,0,none⟩) n n,.slice oa' order.length oc',.slice xa (SSt.state s.q).length xc,.bool (decide (0<cnt s.live n))]∧(∃k,∀f,k≤f→gOver ops n M S f (ss0 vs)=(s,order))∧SPlayU w1 n (fun i=>(s.th i).ans) (SSt.state s.q) order aa rows av (.slice oa' order.length oc') (.slice xa (SSt.state s.q).length xc) w',fun w=>by simp[execOp,Act.eval,resolve,invoke,Deferred.ofValue,callable15.run],fun w=>by simp[execOp,Act.eval,resolve,invoke,Deferred.ofValue,callable15.run,callable15.quiet],fun d c cs Stop k=>bes_splay (w:=w1.at d) hv1 hvl (hI1.kept8 (w':=w1.at d) (Nat.le_refl _) fun r c e z h=>h) hM fun s order hd hov aa rows av oa' oc' xa xc w' hP=>k _ _ ⟨s,order,aa,rows,av,oa',oc',xa,xc,rfl,hov,⟨hP.size,hP.old,hP.arr,hP.row,hP.nwa,hP.nwr,hP.nwl,hP.dj,hP.ord,hP.st⟩⟩,?_⟩)⟩
 rintro v w2 ⟨s,order,aa,rows,av,oa',oc',xa,xc,rfl,hov,hU⟩
 have hold2:∀(r:Nat) (c:Array Value) (e:TypeId) (z:Nat×Nat),W.heap[r]? =some (.cells c e z)→w2.heap[r]? =some (.cells c e z):=fun r c e z h=>hU.old _ _ _ _ (hold1 r c e z h)
 have hs2:Bx b (.slice va vs.length vc) (.slice ta tl tc) (.slice sa S.length sc) (.int .i64 mo) w2:=.of (hU.old _ _ _ _ hs.h)
 refine⟨hs2,?_⟩
 have hv2:=hv1.kept8 hU.old
 have hI2:=hI1.kept8 hU.size hU.old
 walk_nrm
 refine anyB_all (r:=[17]) (by kernel_rfl) (by kernel_rfl) (fun i hi hil=>?_)
 simp only[List.mem_cons,List.not_mem_nil,or_false]at hi
 subst hi
 refine⟨_,rfl,.inr (.inr ⟨rfl,16,#[.slice va vs.length vc,.slice ta tl tc,.slice sa S.length sc,.int .i64 mo],fun v w'=>RefOut8 w2 ops n M S (ss0 vs) v w',fun w=>by simp[execOp,Act.eval,resolve,invoke,Deferred.ofValue,callable16.run],fun w=>by simp[execOp,Act.eval,resolve,invoke,Deferred.ofValue,callable16.run,callable16.quiet],fun d c cs Stop k=>bes_own (F:=F0) (Stop:=fun g u=>∃v,g=G (c.finish v) cs∧RefOut8 w2 ops n M S (ss0 vs) v u)
  (own_callB closed8 prog_late Try.func16 rfl (by kernel_rfl) (R:=RefOut8 w2 ops n M S (ss0 vs)) (fun τ e=>show CallsB Try.prog Try.f16 _ (retape (w2.at d) τ e) (RefOut8 (retape (w2.at d) τ e) ops n M S (ss0 vs))from play8_ref (w:=retape (w2.at d) τ e) ((inrow_r hv2).heap rfl) hvl (hI2.kept8 (w':=retape (w2.at d) τ e) (Nat.le_refl _) fun r c e z h=>h) hM) fun v w' τ e hR hg=>.stop fun d'=>⟨v,rfl,hR.same rfl⟩) fun g u ⟨v,hg,hR⟩=>by subst hg;exact k v u hR,?_⟩)⟩
 intro v w3 hR
 have hk3:(∀r,r<w2.heap.size→w3.heap[r]? =w2.heap[r]?):=hR.old
 refine⟨.of ((hk3 _ (Array.getElem?_eq_some_iff.1 hs2.h).1).trans hs2.h),?_⟩
 walk_nrm
 refine anyB_all (r:=[18]) (by kernel_rfl) (by kernel_rfl) (fun i hi hil=>?_)
 simp only[List.mem_cons,List.not_mem_nil,or_false]at hi
 subst hi
 obtain⟨ref,href⟩:∃ref:Value,ref=v:=⟨_,rfl⟩
 refine⟨_,rfl,.inr (.inr ⟨rfl,14,#[.agg #[.slice (some ⟨aa,0,none⟩) n n,.slice oa' order.length oc',.slice xa (SSt.state s.q).length xc,.bool (decide (0<cnt s.live n))],v],fun x w'=>x= .bool true∧∀r,r<w3.heap.size→w'.heap[r]? =w3.heap[r]?,fun w=>by simp[execOp,Act.eval,resolve,invoke,Deferred.ofValue,callable14.run],fun w=>by simp[execOp,Act.eval,resolve,invoke,Deferred.ofValue,callable14.run,callable14.quiet],fun d c cs Stop k=>bes_own (F:=F0) (Stop:=fun g u=>∃x,g=G (c.finish x) cs∧x= .bool true∧∀r,r<w3.heap.size→u.heap[r]? =w3.heap[r]?)
  (own_callB closed8 prog_late Try.func14 rfl (by kernel_rfl) (R:=fun x w'=>x= .bool true∧∀r,r<w3.heap.size→w'.heap[r]? =w3.heap[r]?) (fun τ e=>same_8 (w3:=retape (w3.at d) τ e) hn64 (by omega) hopl hov hU (hR.same rfl)) fun x w' τ e hR hg=>.stop fun d'=>⟨x,rfl,hR⟩) fun g u ⟨x,hg,hR⟩=>by subst hg;exact k x u hR,?_⟩)⟩
 rintro x w4 ⟨rfl,hk4⟩
 refine⟨.of ((hk4 _ (by have:=(Array.getElem?_eq_some_iff.1 hs2.h).1;have:=hR.size;omega)).trans ((hk3 _ (Array.getElem?_eq_some_iff.1 hs2.h).1).trans hs2.h)),?_⟩
 walk_nrm
 refine anyB_end (by kernel_rfl) ?_ _
 refine sqp_4 (x:=.bool true) ⟨rfl,rfl,trivial⟩ fun A hA=>.stop fun d=>Bes.stop (law_stop Try.func3 rfl (by decide) hA.2.1 fun r c e z h=>?_)
 have h2:=hold2 _ _ _ _ h
 have hlt:=(alt h2)
 have h3:=(hk3 r hlt).trans h2
 exact(hk4 r (alt h3)).trans h3
end
end
section
open Go Go.Conc Go.ChangeShapes
section
variable{H:Type}{enc:TypeId×Value→H}
end
end
end Go.Proofs.Ytlcgkpapnpdfpaa
