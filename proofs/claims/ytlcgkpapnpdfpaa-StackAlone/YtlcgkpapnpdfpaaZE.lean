/-
  StackAlone holds for every input.
  Part 5 of 5.
-/
import Derived.Test.YtlcgkpapnpdfpaaZD
import Derived.Laws.AppendOwnNone
import Derived.ProofKit
import Derived.Conc.LeavingOf
import Derived.Deep.RegionHeld3
import Derived.Test.YtlcgkpapnpdfpaaRows
import Derived.Carry
import Derived.Deep.Slices
import Derived.ChangeSlices
import Derived.ChangeSame
set_option linter.unusedSimpArgs false
set_option linter.unusedVariables false
set_option linter.unusedSectionVars false
set_option maxRecDepth 100000
set_option maxHeartbeats 8000000
namespace Go.Proofs.Ytlcgkpapnpdfpaa
open Go Go.Conc Go.RowKit Go.Proofs
section
variable{m:Pl}{ops:Nat→List Op4}{n M:Nat}{S:List Int}
def endedOf{m:Pl}(s:GS m)(j:Nat):Bool:= !s.live j
theorem gTurn_dead{s:GS m×List Nat}{y:Int}(h:¬okS n (endedOf s.1) y):gTurn ops n M s y=s:=by
 unfold gTurn
 rw[if_neg]
 rintro⟨h1,h2,h3,_⟩
 exact h ⟨h1,h2,by simp[endedOf,h3]⟩
theorem gTurns_dead:∀(l:List Int) (s:GS m×List Nat),(∀y,y∈l→¬okS n (endedOf s.1) y)→gTurns ops n M l s=s
 | [],s,_=>rfl
 | y::l,s,h=>by
   simp only[gTurns]
   rw[gTurn_dead (h y (by simp))]
   exact gTurns_dead l s fun y hy=>h y (by simp[hy])
theorem gTurns_app:∀(l k:List Int) (s:GS m×List Nat),gTurns ops n M (l++k) s=gTurns ops n M k (gTurns ops n M l s)
 | [],k,s=>rfl
 | y::l,k,s=>by
   simp only[gTurns,List.cons_append]
   exact gTurns_app l k _
theorem gTurn_go{s:GS m×List Nat}{x:Nat}(h:okS n (endedOf s.1) x)(hM:s.2.length≠M):gTurn ops n M s x=(s.1.put x (stpG m (ops x) s.1.q (s.1.th x)),s.2++[x]):=by
 unfold gTurn
 obtain⟨h1,h2,h3⟩:=h
 simp only[Int.toNat_natCast,endedOf,Bool.not_eq_false']at h3
 rw[if_pos ⟨h1,h2,by simpa using h3,hM⟩]
 simp
theorem gTurns_full{s:GS m×List Nat}(hM:s.2.length=M):∀(l:List Int),gTurns ops n M l s=s
 | []=>rfl
 | y::l=>by
   simp only[gTurns]
   have:gTurn ops n M s y=s:=by unfold gTurn;rw[if_neg];rintro⟨_,_,_,h⟩;exact h hM
   rw[this]
   exact gTurns_full hM l
def rngI(n:Nat):List Int:=(List.range n).map fun j:Nat=>(j:Int)
def RefI{m:Pl}(ops:Nat→List Op4)(n M:Nat)(S:List Int)(s0:GS m)(s:GS m)(order:List Nat)(p rd:Nat):Prop:=
 ∃rest k,(∀f,k≤f→gOver ops n M S f s0=gRounds ops n M (f - k) (gTurns ops n M rest (s,order)))∧((rest=S.drop p∧rd=0)∨(p=S.length∧rest=(rngI n).drop rd))
theorem split_at{l:List Int}{p r:Nat}{x:Int}(h1:p≤r)(h:l[r]? =some x):l.drop p=(l.drop p).take (r - p)++x::l.drop (r+1):=by
 obtain⟨hl,e⟩:=List.getElem?_eq_some_iff.1 h
 have h2:(l.drop p).drop (r - p)=x::l.drop (r+1):=by
  rw[List.drop_drop,show p+(r - p)=r by omega,List.drop_eq_getElem_cons hl,e]
 rw[← h2,List.take_append_drop]
theorem mem_mid{l:List Int}{p r:Nat}{y:Int}(h:y∈(l.drop p).take (r - p)):∃j,p≤j∧j<r∧l[j]? =some y:=by
 obtain⟨i,hi,e⟩:=List.mem_iff_getElem.1 h
 simp only[List.length_take,List.length_drop]at hi
 rw[List.getElem_take,List.getElem_drop]at e
 exact⟨p+i,by omega,by omega,by rw[List.getElem?_eq_getElem (by omega),e]⟩
theorem rng_get{j:Nat}(h:j<n):(rngI n)[j]? =some (j:Int):=by
 unfold rngI
 rw[List.getElem?_map,List.getElem?_range h]
 rfl
theorem turns_to{s:GS m×List Nat}{l:List Int}{p r x:Nat}(h1:p≤r)(h:l[r]? =some (x:Int))(hd:∀j y,p≤j→j<r→l[j]? =some y→¬okS n (endedOf s.1) y)(hx:okS n (endedOf s.1) x)(hM:s.2.length≠M):
 gTurns ops n M (l.drop p) s=gTurns ops n M (l.drop (r+1)) (s.1.put x (stpG m (ops x) s.1.q (s.1.th x)),s.2++[x]):=by
 have e:gTurns ops n M ((l.drop p).take (r - p)) s=s:=gTurns_dead _ _ fun y hy=>by
  obtain⟨j,a,b,c⟩:=mem_mid hy
  exact hd j y a b c
 rw[split_at h1 h,gTurns_app,e]
 simp only[gTurns]
 rw[gTurn_go hx hM]
theorem rounds_go{s:GS m×List Nat}(hd:¬gDone n M s){f:Nat}(hf:0<f):gRounds ops n M f s=gRounds ops n M (f - 1) (gTurns ops n M (rngI n) s):=by
 obtain⟨f,rfl⟩:∃k,f=k+1:=⟨f - 1,by omega⟩
 simp only[gRounds,if_neg hd]
 rfl
theorem refI_pick{s0 s:GS m}{order:List Nat}{p rd x p1 r1:Nat}(h:RefI ops n M S s0 s order p rd)(hp:PickRel S n (endedOf s) p rd x p1 r1)(hM:order.length≠M)(hM2:order.length≤M)(hrd:rd≤n)(hn:0<n):
 RefI ops n M S s0 (s.put x (stpG m (ops x) s.q (s.th x))) (order++[x]) p1 r1∧okS n (endedOf s) x∧p1≤S.length∧r1≤n:=by
 obtain⟨rest,k,hk,hc⟩:=h
 have hdead:∀r,rd≤r→(∀j,rd≤j→j<r→endedOf s (j % n)=true)→∀(a b c:Nat) (y:Int),rd≤a+c→(a+c) % n=a % n→a<n→a+c<r→(rngI n)[a]? =some y→¬okS n (endedOf s) y:=by
  intro r h1 h2 a b c y hac hm hlt har hy
  rw[rng_get hlt]at hy
  cases hy
  rintro⟨_,_,h3⟩
  have:=h2 (a+c) hac har
  rw[hm,Nat.mod_eq_of_lt hlt]at this
  simp only[Int.toNat_natCast]at h3
  rw[this]at h3
  cases h3
 rcases hp with⟨p',a1,a2,a3,a4,rfl,rfl⟩|⟨a1,rfl,r,b1,b2,b3,rfl,rfl⟩
 ·have hlt:=(List.getElem?_eq_some_iff.1 a3).1
  rcases hc with⟨rfl,rfl⟩|⟨rfl,rfl⟩
  ·refine⟨⟨S.drop (p'+1),k,fun f hf=>?_,.inl ⟨rfl,rfl⟩⟩,a4,hlt,hrd⟩
   rw[hk f hf,turns_to (s:=(s,order)) a1 a3 a2 a4 hM]
  ·omega
 ·have hxn:r % n<n:=Nat.mod_lt _ hn
  have hok:okS n (endedOf s) (r % n:Nat):=⟨by omega,by omega,by rw[Int.toNat_natCast];exact b3⟩
  have hnd:¬gDone n M (s,order):=by
   rintro(h|h)
   ·have:=(cnt_zero.1 h) _ hxn
    simp only[endedOf,Bool.not_eq_false']at b3
    rw[this]at b3
    cases b3
   ·simp only at h
    omega
  have pass:∀c,rd≤c→r<c+n→c≤r→c % n=0→gTurns ops n M (rngI n) (s,order)=gTurns ops n M ((rngI n).drop (r % n+1)) (s.put (r % n) (stpG m (ops (r % n)) s.q (s.th (r % n))),order++[r % n]):=by
   intro c h1 h2 h3 h4
   have hr:r % n=r - c:=by
    have e:r=(r - c)+c:=by omega
    rw[e,Nat.add_mod,h4,Nat.add_zero,Nat.mod_mod,Nat.mod_eq_of_lt (show r - c<n by omega)]
    omega
   have:=turns_to (ops:=ops) (M:=M) (s:=(s,order)) (l:=rngI n) (p:=0) (r:=r % n) (x:=r % n) (Nat.zero_le _) (rng_get hxn) (fun j y _ hj hy=>hdead r b1 b2 j 0 c y (by omega) (by rw[Nat.add_mod,h4,Nat.add_zero,Nat.mod_mod]) (by omega) (by omega) hy) hok hM
   rw[List.drop_zero]at this
   exact this
  have hlim:r<rd+n:=by
   rcases Nat.lt_or_ge r (rd+n)with h|h
   ·exact h
   ·have:=b2 (r - n) (by omega) (by omega)
    have e:(r - n) % n=r % n:=by
     have:r=(r - n)+n:=by omega
     conv=>rhs;rw[this,Nat.add_mod_right]
    rw[e,b3]at this
    cases this
  refine⟨?_,hok,Nat.le_refl _,hxn⟩
  rcases hc with⟨rfl,rfl⟩|⟨rfl,rfl⟩
  ·have e1:gTurns ops n M (S.drop p) (s,order)=(s,order):=gTurns_dead _ _ fun y hy=>by
    obtain⟨j,hj,e⟩:=List.mem_iff_getElem.1 hy
    simp only[List.length_drop]at hj
    rw[List.getElem_drop]at e
    exact a1 (p+j) y (by omega) (by rw[List.getElem?_eq_getElem (by omega),e])
   refine⟨(rngI n).drop (r % n+1),k+1,fun f hf=>?_,.inr ⟨rfl,rfl⟩⟩
   rw[hk f (by omega),e1,rounds_go hnd (by omega),pass 0 (by omega) (by omega) (by omega) (Nat.zero_mod _),Nat.sub_sub]
  ·rcases Nat.lt_or_ge r n with hr|hr
   ·have e2:r % n=r:=Nat.mod_eq_of_lt hr
    refine⟨(rngI n).drop (r % n+1),k,fun f hf=>?_,.inr ⟨rfl,rfl⟩⟩
    rw[hk f hf]
    congr 1
    rw[e2]at hok ⊢
    exact turns_to (s:=(s,order)) b1 (rng_get hr) (fun j y h1 h2 hy=>hdead r b1 b2 j 0 0 y (by omega) rfl (by omega) (by omega) hy) hok hM
   ·have e1:gTurns ops n M ((rngI n).drop rd) (s,order)=(s,order):=gTurns_dead _ _ fun y hy=>by
     obtain⟨j,hj,e⟩:=List.mem_iff_getElem.1 hy
     have hl:(rngI n).length=n:=by simp[rngI]
     simp only[List.length_drop,hl]at hj
     rw[List.getElem_drop]at e
     exact hdead r b1 b2 (rd+j) 0 0 y (by omega) rfl (by omega) (by omega) (by rw[List.getElem?_eq_getElem (by omega),e])
    refine⟨(rngI n).drop (r % n+1),k+1,fun f hf=>?_,.inr ⟨rfl,rfl⟩⟩
    rw[hk f (by omega),e1,rounds_go hnd (by omega),pass n (by omega) (by omega) hr (Nat.mod_self n),Nat.sub_sub]
theorem refI_end{s0 s:GS m}{order:List Nat}{p rd:Nat}(h:RefI ops n M S s0 s order p rd)(hd:cnt s.live n=0∨order.length=M):∃k,∀f,k≤f→gOver ops n M S f s0=(s,order):=by
 obtain⟨rest,k,hk,_⟩:=h
 refine⟨k,fun f hf=>?_⟩
 rw[hk f hf]
 have e:gTurns ops n M rest (s,order)=(s,order):=by
  rcases hd with h|h
  ·refine gTurns_dead _ _ fun y _=>?_
   rintro⟨h1,h2,h3⟩
   have:=(cnt_zero.1 h) y.toNat (by omega)
   simp only[endedOf]at h3
   rw[this]at h3
   cases h3
  ·exact gTurns_full h _
 rw[e]
 refine gRounds_done ?_ _
 rcases hd with h|h
 ·exact .inl h
 ·exact .inr (by simp only;omega)
theorem refI_start(s0:GS m):RefI ops n M S s0 (gBorns m ops n s0) [] 0 0:=⟨S,0,fun f _=>rfl,.inl ⟨rfl,rfl⟩⟩
end
section
structure TRel(n:Nat)(ops:List Op4)(g:GT KPl)(t:RTh):Prop where
 k:t.k=g.k
 ans:t.ans=g.ans
 al:t.ans.length=t.k
 kl:t.k≤ops.length
 none:g.call=none→t.pc=0∧t.k=ops.length
 some:∀c:KCl,g.call=some c→Liv c t∧KV n c∧t.k<ops.length∧(c.pc<20→∀x,ops[t.k]? =some x→x.a=c.a)
theorem kv_0'{m:Nat}(hm:0<m){pc:Nat}(h:pc∈[10,20,30,40])(a:Int):KV m ⟨pc,0,0,0,0,0,a⟩:=by
 simp only[List.mem_cons,List.not_mem_nil,or_false]at h
 have hm':(0:Int)<m:=by omega
 rcases h with rfl|rfl|rfl|rfl<;>exact⟨by simp,⟨by simp,hm'⟩,⟨by simp,by simp⟩,⟨by simp,hm'⟩,⟨by simp,hm'⟩,fun h=>by simp at h⟩
theorem adv_rel{m:Nat}(hm:0<m){ops:List Op4}:∀(l:List Op4) (k:Nat) (t:RTh) (s:KSt),l=ops.drop k→t.pc=0→t.k=k→k≤ops.length→t.ans.length=k→(advG KPl l s ⟨k,none,t.ans⟩).1=s∧TRel m ops (advG KPl l s ⟨k,none,t.ans⟩).2 (rbegL l t)
 | [],k,t,s,hl,h0,hk,hkl,ha=>by
   have hge:ops.length≤k:=List.drop_eq_nil_iff.1 hl.symm
   refine⟨rfl,?_⟩
   show TRel m ops (⟨k,none,t.ans⟩:GT KPl) t
   exact⟨hk,rfl,by omega,by omega,fun _=>⟨h0,by omega⟩,fun c h=>by cases h⟩
 | o::l,k,t,s,hl,h0,hk,hkl,ha=>by
   have hlt:k<ops.length:=by
    rcases Nat.lt_or_ge k ops.length with h|h
    ·exact h
    ·rw[List.drop_eq_nil_of_le h]at hl;cases hl
   have hd:=hl
   rw[List.drop_eq_getElem_cons hlt]at hd
   obtain⟨e1,e2⟩:=List.cons.inj hd
   have hx:ops[k]? =some o:=by rw[List.getElem?_eq_getElem hlt,e1]
   have live:∀(pc:Nat) (a:Int),pc∈[10,20,30,40]→(pc<20→o.a=a)→TRel m ops ⟨k,some (⟨pc,0,0,0,0,0,a⟩:KCl),t.ans⟩ {t with pc:=pc}:=fun pc a hp hpa=>
    ⟨hk,rfl,by simp only;omega,by simp only;omega,fun h=>by(cases h),fun c h=>by
     obtain rfl:=Option.some.inj h
     refine⟨⟨rfl,?_⟩,kv_0' hm hp a,by simp only;omega,fun h x hx'=>?_⟩
     ·simp only[List.mem_cons,List.not_mem_nil,or_false]at hp
      rcases hp with rfl|rfl|rfl|rfl<;>trivial
     ·simp only[hk,hx]at hx'
      obtain rfl:=Option.some.inj hx'
      exact hpa h⟩
   have e:∀c:KCl,KSt.begin s o=(s,.inl c)→advG KPl (o::l) s ⟨k,none,t.ans⟩=(s,⟨k,some c,t.ans⟩):=fun c hc=>by
    have hb:KPl.beg s o=(s,Sum.inl c):=hc
    simp only[advG,hb]
    rfl
   have e':KSt.begin s o=(s,.inr (false,0))→advG KPl (o::l) s ⟨k,none,t.ans⟩=advG KPl l s ⟨k+1,none,t.ans++[(false,0)]⟩:=fun hc=>by
    have hb:KPl.beg s o=(s,Sum.inr (false,0)):=hc
    simp only[advG,hb]
    rfl
   simp only[rbegL]
   by_cases k1:o.kd=1
   ·rw[if_pos (by omega),e ⟨10,0,0,0,0,0,o.a⟩ (by simp only[KSt.begin,if_pos k1]),show 10*o.kd.toNat=10 by omega]
    exact⟨rfl,live 10 _ (by simp) fun _=>rfl⟩
   by_cases k2:o.kd=2
   ·rw[if_pos (by omega),e ⟨20,0,0,0,0,0,0⟩ (by simp only[KSt.begin,if_neg k1,if_pos k2]),show 10*o.kd.toNat=20 by omega]
    exact⟨rfl,live 20 _ (by simp) fun h=>by omega⟩
   by_cases k3:o.kd=3
   ·rw[if_pos (by omega),e ⟨30,0,0,0,0,0,0⟩ (by simp only[KSt.begin,if_neg k1,if_neg k2,if_pos k3]),show 10*o.kd.toNat=30 by omega]
    exact⟨rfl,live 30 _ (by simp) fun h=>by omega⟩
   by_cases k4:o.kd=4
   ·rw[if_pos (by omega),e ⟨40,0,0,0,0,0,0⟩ (by simp only[KSt.begin,if_neg k1,if_neg k2,if_neg k3,if_pos k4]),show 10*o.kd.toNat=40 by omega]
    exact⟨rfl,live 40 _ (by simp) fun h=>by omega⟩
   ·rw[if_neg (by omega),e' (by simp only[KSt.begin,if_neg k1,if_neg k2,if_neg k3,if_neg k4])]
    have:=adv_rel hm l (k+1) (t.fin (false,0)) s e2 rfl (by simp[RTh.fin,hk]) hlt (by simp[RTh.fin,ha])
    exact this
theorem step_a(s:KSt)(c c':KCl)(h:(s.step c).2= .inl c'):c'.a=c.a∧(c'.pc<20→c.pc<20):=by
 obtain⟨pc,n0,n1,n2,n3,n4,a⟩:=c
 unfold KSt.step at h
 (repeat' split at h)<;>first
   | (cases h;done)
   | (simp only[Sum.inl.injEq]at h;subst h;refine⟨rfl,fun h=>?_⟩;simp_all)
theorem step_rel{s:KSt}{ops:List Op4}{g:GT KPl}{t:RTh}(hW:KWf s)(h:TRel s.nx.length ops g t){c:KCl}(hc:g.call=some c):
 (stpG KPl ops s g).1=(rstep s t c.a).1∧TRel s.nx.length ops (stpG KPl ops s g).2 (rbeg ops (rstep s t c.a).2)∧KWf (stpG KPl ops s g).1∧(stpG KPl ops s g).1.nx.length=s.nx.length:=by
 obtain⟨h1,h2,h3,h4⟩:=h.some c hc
 have hs:=liv_step (s:=s) h1 h2.pc
 have hkv:=kv_step hW h2
 have hsl:=step_len s c
 obtain⟨e1,e2⟩:=hs
 have ei:∀q' (c':KCl),s.step c=(q',.inl c')→stpG KPl ops s g=(q',⟨g.k,some c',g.ans⟩):=fun q' c' h=>by
  have hb:KPl.stp s c=(q',Sum.inl c'):=h
  simp only[stpG,hc,hb]
  rfl
 have er:∀q' (a:Bool×Int),s.step c=(q',.inr a)→stpG KPl ops s g=advG KPl (ops.drop (g.k+1)) q' ⟨g.k+1,none,t.ans++[a]⟩:=fun q' a h'=>by
  have hb:KPl.stp s c=(q',Sum.inr a):=h'
  rw[h.ans]
  simp only[stpG,hc,hb]
  rfl
 have ha:=step_a s c
 cases hr:s.step c with
 | mk q' r=>
   rw[hr]at e1 e2 hkv hsl ha
   simp only at e1 hkv hsl ha
   cases r with
   | inl c'=>
     rw[ei _ _ hr]
     obtain⟨f1,f2,f3⟩:=e2
     have hv:=hkv.2 c' rfl
     rw[hsl]at hv
     have hp:(rstep s t c.a).2.pc≠0:=by
      rw[f1.1]
      have:=hv.pc
      intro h0
      rw[h0]at this
      simp at this
     rw[rbeg_live hp]
     refine⟨e1.symm,⟨by rw[f2];exact h.k,by rw[f3];exact h.ans,by rw[f3,f2];exact h.al,by rw[f2];exact h.kl,fun h=>by(cases h),fun c2 hc2=>?_⟩,hkv.1,hsl⟩
     obtain rfl:=Option.some.inj hc2
     obtain⟨a1,a2⟩:=ha c' rfl
     refine⟨f1,hv,by rw[f2];exact h3,fun hp x hx=>?_⟩
     rw[f2]at hx
     rw[a1]
     exact h4 (a2 hp) x hx
   | inr a=>
     rw[er _ _ hr]
     obtain⟨f1,f2,f3⟩:=e2
     have hk:=h.k
     have hal:=h.al
     have:=adv_rel (m:=s.nx.length) hW.n2 (ops.drop (g.k+1)) (g.k+1) (rstep s t c.a).2 q' rfl f1 (by omega) (by omega) (by rw[f3,List.length_append,hal];simp;omega)
     rw[f3]at this
     have e3:rbeg ops (rstep s t c.a).2=rbegL (ops.drop (g.k+1)) (rstep s t c.a).2:=by
      unfold rbeg
      rw[if_pos f1,f2,hk]
     rw[e3]
     refine⟨this.1.trans e1.symm,this.2,by rw[this.1];exact hkv.1,by rw[this.1];exact hsl⟩
theorem TRel.ended{n:Nat}{ops:List Op4}{g:GT KPl}{t:RTh}(h:TRel n ops g t):decide (ops.length≤t.k)= !g.call.isSome:=by
 cases hc:g.call with
 | none=>have:=(h.none hc).2;simp;omega
 | some c=>have:=(h.some c hc).2.2.1;simp;omega
end
section
variable{W wr w':World}{n:Nat}{ops:Nat→List Op4}{opv:Nat→Value}{B:MK}{s:KSt}{tbs:Nat→Nat}{rt:Nat→RTh}{ovs:Nat→Value}{en:Nat→Bool}
structure RM(W:World)(n:Nat)(ops:Nat→List Op4)(opv:Nat→Value)(B:MK)(s:KSt)(tbs:Nat→Nat)(rt:Nat→RTh)(ovs:Nat→Value)(en:Nat→Bool)(wr:World):Prop where
 size:W.heap.size≤wr.heap.size
 old:∀r,r<W.heap.size→wr.heap[r]? =W.heap[r]?
 m:MAt wr B s
 t:∀j,j<n→TAt wr (tbs j) (opv j) (rt j) (ovs j) (en j)
 o:∀j,j<n→wr.ownsRow 0 47 4 (opv j) (ops j).length (opsC (ops j))
 dt:∀a b,a<n→b<n→a≠b→tbs a≠tbs b
 dv:∀a b g,a<n→b<n→a≠b→(ovs a).ownBlock=some g→(ovs b).ownBlock≠some g
 nm:W.heap.size≤B.mb
 nn:W.heap.size≤B.nb
 nv:W.heap.size≤B.vb
 nt:∀j,j<n→W.heap.size≤tbs j
 nw:∀j g,j<n→(ovs j).ownBlock=some g→W.heap.size≤g
def updN{α:Type}(f:Nat→α)(x:Nat)(v:α):Nat→α:=fun j=>if j=x then v else f j
theorem updN_eq{α:Type}(f:Nat→α)(x:Nat)(v:α):updN f x v x=v:=if_pos rfl
theorem updN_ne{α:Type}(f:Nat→α){x j:Nat}(v:α)(h:j≠x):updN f x v j=f j:=if_neg h
theorem RM.go(h:RM W n ops opv B s tbs rt ovs en wr){x:Nat}(hx:x<n){s':KSt}{t':RTh}{e:Bool}(hO:Out6 wr B (tbs x) (opv x) (ovs x) e w' (s',t')):
 ∃ov',RM W n ops opv B s' tbs (updN rt x t') (updN ovs x ov') (updN en x e) w'∧∀(r:Nat) (c:Array Value) (e:TypeId) (z:Nat×Nat),wr.heap[r]? =some (.cells c e z)→e≠121→e≠2→e≠158→e≠44→w'.heap[r]? =wr.heap[r]?:=by
 obtain⟨ov',m1,t1,s1,o1,f1⟩:=hO
 obtain⟨cn,hn1,_⟩:=h.m.n
 obtain⟨cv,hv1,_⟩:=h.m.v
 have hsz:=h.size
 have hTx:=h.t x hx
 have hrow:∀(r:Nat) (c:Array Value) (e:TypeId) (z:Nat×Nat),wr.heap[r]? =some (.cells c e z)→e≠44→some r≠(ovs x).ownBlock:=fun r c e z hr he=>own_type hTx.row hr fun h=>he h.symm
 have keep:∀(r:Nat) (c:Array Value) (e:TypeId) (z:Nat×Nat),wr.heap[r]? =some (.cells c e z)→e≠121→e≠2→e≠158→e≠44→w'.heap[r]? =wr.heap[r]?:=fun r c e z hr e1 e2 e3 e4=>
  o1 r (alt hr) (heap_ty hr h.m.o e1) (heap_ty hr hn1 e2) (heap_ty hr hv1 e2) (heap_ty hr hTx.o e3) (hrow _ _ _ _ hr e4)
 have hth:∀j,j<n→j≠x→w'.heap[tbs j]? =wr.heap[tbs j]?:=fun j hj hne=>
  o1 _ (h.t j hj).lt (heap_ty (h.t j hj).o h.m.o (by decide)) (heap_ty (h.t j hj).o hn1 (by decide)) (heap_ty (h.t j hj).o hv1 (by decide)) (h.dt j x hj hx hne) (hrow _ _ _ _ (h.t j hj).o (by decide))
 have hvlt:∀j g,j<n→(ovs j).ownBlock=some g→g<wr.heap.size:=fun j g hj hg=>by
  obtain⟨c,hc⟩:=own_row_ty (h.t j hj).row hg
  exact(alt hc)
 refine⟨ov',⟨by omega,fun r hr=>?_,m1,fun j hj=>?_,fun j hj=>?_,h.dt,fun a b g ha hb hab hg=>?_,h.nm,h.nn,h.nv,h.nt,fun j g hj hg=>?_⟩,keep⟩
 ·have a1:=h.nm
  have a2:=h.nn
  have a3:=h.nv
  have a4:=h.nt x hx
  refine(o1 r (by omega) (by omega) (by omega) (by omega) (by omega) fun e=>?_).trans (h.old r hr)
  have:=h.nw x r hx e.symm
  omega
 ·by_cases e:j=x
  ·subst e
   rw[updN_eq,updN_eq,updN_eq]
   exact t1
  ·rw[updN_ne _ _ e,updN_ne _ _ e,updN_ne _ _ e]
   refine(h.t j hj).same (hth j hj e) fun r hr=>?_
   obtain⟨c,hc⟩:=own_row_ty (h.t j hj).row hr.symm
   exact o1 _ (alt hc) (heap_ty hc h.m.o (by decide)) (heap_ty hc hn1 (by decide)) (heap_ty hc hv1 (by decide)) (heap_ty hc hTx.o (by decide)) fun he=>h.dv j x r hj hx e hr.symm he.symm
 ·exact ownsRow_same2 (h.o j hj) fun b hb _=>by
   obtain⟨c,hc⟩:=own_row_ty (h.o j hj) hb
   exact keep _ _ _ _ hc (by decide) (by decide) (by decide) (by decide)
 ·by_cases ea:a=x
  ·have eb:b≠x:=fun e=>hab (ea.trans e.symm)
   rw[ea,updN_eq]at hg
   rw[updN_ne _ _ eb]
   intro hgb
   rcases f1 with h1|⟨g',h1,h2⟩
   ·exact h.dv x b g hx hb (fun e=>eb e.symm) (h1 ▸ hg) hgb
   ·rw[h1]at hg;cases hg
    have:=hvlt b _ hb hgb;omega
  ·rw[updN_ne _ _ ea]at hg
   by_cases eb:b=x
   ·rw[eb,updN_eq]
    intro hgb
    rcases f1 with h1|⟨g',h1,h2⟩
    ·exact h.dv a x g ha hx ea hg (h1 ▸ hgb)
    ·rw[h1]at hgb;cases hgb
     have:=hvlt a _ ha hg;omega
   ·rw[updN_ne _ _ eb]
    exact h.dv a b g ha hb hab hg
 ·by_cases e:j=x
  ·rw[e,updN_eq]at hg
   rcases f1 with h1|⟨g',h1,h2⟩
   ·exact h.nw x g hx (h1 ▸ hg)
   ·rw[h1]at hg;cases hg;omega
  ·rw[updN_ne _ _ e]at hg
   exact h.nw j g hj hg
theorem RM.same(h:RM W n ops opv B s tbs rt ovs en wr)(hs:wr.heap.size≤w'.heap.size)(hW:∀r,r<W.heap.size→w'.heap[r]? =wr.heap[r]?)
 (hk:∀(r:Nat) (c:Array Value) (e:TypeId) (z:Nat×Nat),wr.heap[r]? =some (.cells c e z)→e=121∨e=2∨e=158∨e=44∨e=47→w'.heap[r]? =wr.heap[r]?):RM W n ops opv B s tbs rt ovs en w':=by
 have hsz:=h.size
 obtain⟨cn,hn1,_⟩:=h.m.n
 obtain⟨cv,hv1,_⟩:=h.m.v
 refine⟨by omega,fun r hr=>(hW r hr).trans (h.old r hr),h.m.same (hk _ _ _ _ h.m.o (by simp)) (hk _ _ _ _ hn1 (by simp)) (hk _ _ _ _ hv1 (by simp)),fun j hj=>?_,fun j hj=>?_,h.dt,h.dv,h.nm,h.nn,h.nv,h.nt,h.nw⟩
 ·refine(h.t j hj).same (hk _ _ _ _ (h.t j hj).o (by simp)) fun r hr=>?_
  obtain⟨c,hc⟩:=own_row_ty (h.t j hj).row hr.symm
  exact hk _ _ _ _ hc (by simp)
 ·exact ownsRow_same2 (h.o j hj) fun b hb _=>by
   obtain⟨c,hc⟩:=own_row_ty (h.o j hj) hb
   exact hk _ _ _ _ hc (by simp)
theorem RM.heap(h:RM W n ops opv B s tbs rt ovs en wr)(e:w'.heap=wr.heap):RM W n ops opv B s tbs rt ovs en w':=h.same (by rw[e];exact Nat.le_refl _) (fun r _=>by rw[e]) fun r _ _ _ _ _=>by rw[e]
theorem RM.more(h:RM W n ops opv B s tbs rt ovs en wr)(hs:wr.heap.size≤w'.heap.size)(e:∀r,r<wr.heap.size→w'.heap[r]? =wr.heap[r]?):RM W n ops opv B s tbs rt ovs en w':=
 h.same hs (fun r hr=>e r (Nat.lt_of_lt_of_le hr h.size)) fun r c _ _ hr _=>e r (alt hr)
structure RG(n:Nat)(ops:Nat→List Op4)(m:Nat)(g:GS KPl)(s:KSt)(rt:Nat→RTh)(en:Nat→Bool):Prop where
 q:g.q=s
 w:KWf s
 l:s.nx.length=m
 t:∀j,j<n→TRel m (ops j) (g.th j) (rt j)
 e:∀j,j<n→en j=endedOf g j
 ol:∀j,j<n→(ops j).length≤65536
theorem put_eq{m:Pl}(g:GS m)(x:Nat)(r:m.S×GT m):(g.put x r).th x=r.2:=by simp[GS.put]
theorem put_ne{m:Pl}(g:GS m){x j:Nat}(r:m.S×GT m)(h:j≠x):(g.put x r).th j=g.th j:=by simp[GS.put,h]
theorem put_q{m:Pl}(g:GS m)(x:Nat)(r:m.S×GT m):(g.put x r).q=r.1:=rfl
theorem RG.turn{m:Nat}{g:GS KPl}(h:RG n ops m g s rt en){x:Nat}(hx:x<n){c:KCl}(hc:(g.th x).call=some c):
 RG n ops m (g.put x (stpG KPl (ops x) g.q (g.th x))) (rstep s (rt x) c.a).1 (updN rt x (rbeg (ops x) (rstep s (rt x) c.a).2)) (updN en x (decide ((ops x).length≤(rbeg (ops x) (rstep s (rt x) c.a).2).k))):=by
 obtain⟨hq,hw,rfl,ht,he,ho⟩:=h
 obtain⟨h1,h2,h3,h4⟩:=step_rel hw (ht x hx) hc
 rw[← hq]at h1 h2 h3 h4 ⊢
 refine⟨by rw[put_q];exact h1,by rw[← h1];exact h3,by rw[← h1];exact h4,fun j hj=>?_,fun j hj=>?_,ho⟩
 ·by_cases e:j=x
  ·subst e
   rw[put_eq,updN_eq]
   exact h2
  ·rw[put_ne _ _ e,updN_ne _ _ e,hq]
   exact ht j hj
 ·by_cases e:j=x
  ·subst e
   rw[updN_eq,h2.ended]
   simp only[endedOf,GS.live,put_eq]
  ·rw[updN_ne _ _ e,he j hj]
   simp only[endedOf,GS.live,put_ne _ _ e]
def t00:RTh:=⟨0,0,0,0,0,0,0,[]⟩
theorem RG.born{m i:Nat}{g:GS KPl}(h:RG i ops m g s rt en)(hl:(ops i).length≤65536)(h0:g.th i=⟨0,none,[]⟩)(ht0:rt i=t00):
 RG (i+1) ops m (g.put i (advG KPl (ops i) g.q (g.th i))) s (updN rt i (rbeg (ops i) t00)) (updN en i (decide ((ops i).length≤(rbeg (ops i) t00).k))):=by
 obtain⟨hq,hw,rfl,ht,he,ho⟩:=h
 have ha:=adv_rel (m:=s.nx.length) hw.n2 (ops:=ops i) (ops i) 0 t00 s (by simp) rfl rfl (Nat.zero_le _) rfl
 have e0:rbeg (ops i) t00=rbegL (ops i) t00:=by
  unfold rbeg
  exact if_pos rfl
 have e1:advG KPl (ops i) g.q (g.th i)=advG KPl (ops i) s ⟨0,none,t00.ans⟩:=by rw[h0,hq];rfl
 rw[e0,e1]
 refine⟨by rw[put_q];exact ha.1,hw,rfl,fun j hj=>?_,fun j hj=>?_,fun j hj=>?_⟩
 ·by_cases e:j=i
  ·subst e
   rw[put_eq,updN_eq]
   exact ha.2
  ·rw[put_ne _ _ e,updN_ne _ _ e]
   exact ht j (by omega)
 ·by_cases e:j=i
  ·subst e
   rw[updN_eq,ha.2.ended]
   simp only[endedOf,GS.live,put_eq]
  ·rw[updN_ne _ _ e,he j (by omega)]
   simp only[endedOf,GS.live,put_ne _ _ e]
 ·by_cases e:j=i
  ·rw[e];exact hl
  ·exact ho j (by omega)
end
section
variable{w w':World}
structure TurnMem(w:World)(ub:Nat)(la:Option Addr)(ll lc M p rd:Nat)(ov:Value)(order:List Nat):Prop where
 o:w.heap[ub]? =some (.cells #[.slice la ll lc,.int .i64 p,.int .i64 rd,.int .i64 M,ov,.bool false] 162 (0,0))
 row:w.ownsRow 0 3 1 ov order.length (order.map fun i:Nat=>Value.int .i64 i)
structure TurnAt(w wr:World)(ub:Nat)(la:Option Addr)(ll lc M p rd:Nat)(ov:Value):Prop where
 o:wr.heap[ub]? =some (.cells #[.slice la ll lc,.int .i64 p,.int .i64 rd,.int .i64 M,ov,.bool false] 162 (0,0))
 old:∀r,r≠ub→wr.heap[r]? =w.heap[r]?
 size:wr.heap.size=w.heap.size
theorem TurnAt.setP{wr:World}{ub:Nat}{la:Option Addr}{ll lc M p rd:Nat}{ov:Value}(h:TurnAt w wr ub la ll lc M p rd ov){u:World}(p':Nat)(hu:u.heap=(wr.setCell ⟨ub,1,none⟩ (.int .i64 p')).heap):TurnAt w u ub la ll lc M p' rd ov:=
 ⟨by rw[hu,heap_set_eq h.o];rfl,fun r hr=>by rw[hu,heap_setCell_ne _ _ _ hr];exact h.old r hr,by rw[hu,World.size_setCell];exact h.size⟩
theorem TurnAt.setR{wr:World}{ub:Nat}{la:Option Addr}{ll lc M p rd:Nat}{ov:Value}(h:TurnAt w wr ub la ll lc M p rd ov){u:World}(r':Nat)(hu:u.heap=(wr.setCell ⟨ub,2,none⟩ (.int .i64 r')).heap):TurnAt w u ub la ll lc M p r' ov:=
 ⟨by rw[hu,heap_set_eq h.o];rfl,fun r hr=>by rw[hu,heap_setCell_ne _ _ _ hr];exact h.old r hr,by rw[hu,World.size_setCell];exact h.size⟩
theorem TurnAt.heap{wr:World}{ub:Nat}{la:Option Addr}{ll lc M p rd:Nat}{ov:Value}(h:TurnAt w wr ub la ll lc M p rd ov){u:World}(hu:u.heap=wr.heap):TurnAt w u ub la ll lc M p rd ov:=
 ⟨by rw[hu];exact h.o,fun r hr=>by rw[hu];exact h.old r hr,by rw[hu];exact h.size⟩
structure PKept(w wr:World)(ub:Nat)(ov ov':Value):Prop where
 size:w.heap.size≤wr.heap.size
 old:∀r,r<w.heap.size→r≠ub→some r≠ov.ownBlock→wr.heap[r]? =w.heap[r]?
 fo:ov'.ownBlock=ov.ownBlock∨∃g,ov'.ownBlock=some g∧w.heap.size≤g
theorem turn_app{wr w1 u:World}{ub:Nat}{la:Option Addr}{ll lc M p0 rd0 p rd x:Nat}{order:List Nat}{ov v':Value}(hT:TurnMem w ub la ll lc M p0 rd0 ov order)(h:TurnAt w wr ub la ll lc M p rd ov)
 (hown:w1.ownsRow 0 3 1 v' (order.length+1) ((order.map fun i:Nat=>Value.int .i64 i)++[.int .i64 x])) (hold:∀r,r<wr.heap.size→some r≠ov.ownBlock→w1.heap[r]? =wr.heap[r]?) (hsz:wr.heap.size≤w1.heap.size)
 (hfr:v'.ownBlock=ov.ownBlock∨∃g,v'.ownBlock=some g∧wr.heap.size≤g) (hu:u.heap=(w1.setCell ⟨ub,4,none⟩ v').heap):
 TurnMem u ub la ll lc M p rd v' (order++[x])∧PKept w u ub ov v':=by
 have hub:=(Array.getElem?_eq_some_iff.1 h.o).1
 have hne:some ub≠ov.ownBlock:=own_type hT.row hT.o (by decide)
 have hs:=h.size
 have hvt:v'.ownBlock≠some ub:=by
  rcases hfr with e|⟨g,e,hg⟩
  ·rw[e];exact fun h=>hne h.symm
  ·rw[e];intro h;cases h;omega
 have hou:∀r,r≠ub→u.heap[r]? =w1.heap[r]?:=fun r hr=>by rw[hu,heap_setCell_ne _ _ _ hr]
 refine⟨⟨?_,?_⟩,⟨?_,fun r h1 h2 h3=>?_,?_⟩⟩
 ·rw[hu,heap_set_eq ((hold ub hub hne).trans h.o)];rfl
 ·rw[List.length_append,List.map_append]
  exact ownsRow_same2 hown fun b hb _=>hou b fun e=>hvt (e ▸ hb)
 ·rw[hu,World.size_setCell];omega
 ·exact(hou r h2).trans ((hold r (by omega) h3).trans (h.old r h2))
 ·rcases hfr with e|⟨g,e,hg⟩
  ·exact .inl e
  ·exact .inr ⟨g,e,by omega⟩
structure PIn(w:World)(ub:Nat)(la:Option Addr)(n:Nat)(tbs:Nat→Nat)(e:Nat→Bool):Prop where
 c:∀j,j<n→∃lb,la=some ⟨lb,0,none⟩∧lb≠ub∧w.cell? ⟨lb,j,none⟩=some (.pointer (some ⟨tbs j,0,none⟩))∧tbs j≠ub∧w.cell? ⟨tbs j,13,none⟩=some (.bool (e j))
theorem PIn.at{wr:World}{ub:Nat}{la:Option Addr}{n:Nat}{tbs:Nat→Nat}{e:Nat→Bool}(h:PIn w ub la n tbs e)(hold:∀r,r≠ub→wr.heap[r]? =w.heap[r]?):PIn wr ub la n tbs e:=⟨fun j hj=>by
 obtain⟨lb,h1,h2,h3,h4,h5⟩:=h.c j hj
 exact⟨lb,h1,h2,(cell_heap (hold lb h2)).1.trans h3,h4,(cell_heap (hold _ h4)).1.trans h5⟩⟩
theorem pick_mod{S:List Int}{n p rd x p1 r1:Nat}{e:Nat→Bool}(hn:0<n)(hr:rd≤n)(h:PickRel S n e p (rd % n) x p1 r1):∃r2,PickRel S n e p rd x p1 r2∧r2 % n=r1 % n∧r2≤n:=by
 rcases h with⟨p',a1,a2,a3,a4,rfl,rfl⟩|⟨a1,rfl,r,b1,b2,b3,rfl,rfl⟩
 ·exact⟨rd,.inl ⟨p',a1,a2,a3,a4,rfl,rfl⟩,(Nat.mod_mod _ _).symm,hr⟩
 ·refine⟨r % n+1,.inr ⟨a1,rfl,?_⟩,rfl,Nat.mod_lt _ hn⟩
  rcases Nat.lt_or_ge rd n with h|h
  ·rw[Nat.mod_eq_of_lt h]at b1 b2
   exact⟨r,b1,b2,b3,rfl,rfl⟩
  ·obtain rfl:rd=n:=by omega
   rw[Nat.mod_self]at b2
   refine⟨r+rd,by omega,fun j h1 h2=>?_,by rw[Nat.add_mod_right];exact b3,by rw[Nat.add_mod_right],rfl⟩
   have:=b2 (j - rd) (by omega) (by omega)
   rwa [← Nat.add_mod_right,Nat.sub_add_cancel h1]at this
theorem pick_over{ub M p0 rd ll lc n ec:Nat}{la ea:Option Addr}{tbs:Nat→Nat}{e:Nat→Bool}{ov:Value}{order:List Nat}(hn:n≤64)(hI:PIn w ub ea n tbs e)(hT:TurnMem w ub la ll lc M p0 rd ov order)(hall:∀j,j<n→e j=true):
 Calls Try.prog 70 #[.pointer (some ⟨ub,0,none⟩),.slice ea n ec] w fun x w'=>x= .returned (.int .i64 (-1))∧w'=w:=by
 have A:Aside (PIn w ub ea n tbs e∧True):=⟨hI,trivial⟩
 clear hI hT
 go_enter Try.func70,Try.ntmps70
 go_wp2
 go_loopg [5,6] n (fun g l i wr=>∃c k:Nat,l= .int .i64 c∧i= .int .i64 k∧k≤n∧g=n - k∧wr=w∧c≤k∧(0<c↔∃j,j<k∧e j=false))
 case atStart=>exact⟨0,0,rfl,rfl,Nat.zero_le _,rfl,rfl,Nat.le_refl _,fun h=>by omega,fun⟨j,h,_⟩=>by omega⟩
 case round=>
  obtain⟨c,k,rfl,rfl,hk,rfl,rfl,hck,hcc⟩:=hrel
  rcases Nat.lt_or_ge k n with hlt|hge
  ·have CC:Aside (0<c↔∃j,j<k∧e j=false):=hcc
   clear hcc
   have hlt2:(k:Int)<(n:Int):=by omega
   have hwk:IntKind.i64.wrap ((k:Int)+1)=((k+1:Nat):Int):=IntWalk.i64_in _ (by omega)
   obtain⟨lb,rfl,_,f1,_,f2⟩:=A.out.1.c k hlt
   cases hek:e k with
   | true=>
     rw[hek]at f2
     go_wp2
     go_roundg (n - (k+1))
     case measure=>omega
     case rel=>
      refine⟨c,k+1,rfl,rfl,hlt,rfl,rfl,by omega,CC.out.trans ⟨fun⟨j,h1,h2⟩=>⟨j,by omega,h2⟩,fun⟨j,h1,h2⟩=>⟨j,?_,h2⟩⟩⟩
      rcases Nat.lt_or_ge j k with h|h
      ·exact h
      ·obtain rfl:j=k:=by omega
       rw[hek]at h2;cases h2
   | false=>
     rw[hek]at f2
     have hwc:IntKind.i64.wrap ((c:Int)+1)=((c+1:Nat):Int):=IntWalk.i64_in _ (by omega)
     go_wp2
     go_roundg (n - (k+1))
     case measure=>omega
     case rel=>exact⟨c+1,k+1,rfl,rfl,hlt,rfl,rfl,by omega,fun _=>⟨k,by omega,hek⟩,fun _=>by omega⟩
  ·obtain rfl:k=n:=by omega
   have hge2:¬(k:Int)<(k:Int):=by omega
   have hc0:c=0:=by
    rcases Nat.eq_zero_or_pos c with h|h
    ·exact h
    ·obtain⟨j,h1,h2⟩:=hcc.1 h
     rw[hall j h1]at h2;cases h2
   subst hc0
   clear hcc
   go_wp2
   go_ret
   exact⟨rfl,rfl⟩
theorem pick_full{ub M p0 rd ll lc n ec:Nat}{la ea:Option Addr}{tbs:Nat→Nat}{e:Nat→Bool}{ov:Value}{order:List Nat}(hn:n≤64)(hI:PIn w ub ea n tbs e)(hT:TurnMem w ub la ll lc M p0 rd ov order)(hlive:∃j,j<n∧e j=false)(hM:order.length=M):
 Calls Try.prog 70 #[.pointer (some ⟨ub,0,none⟩),.slice ea n ec] w fun x w'=>x= .returned (.int .i64 (-1))∧w'.heap=(w.setCell ⟨ub,5,none⟩ (.bool true)).heap:=by
 obtain⟨oa,oc,rfl⟩:∃oa oc,ov= .slice oa order.length oc:=by
  rcases hT.row.2 with⟨h1,h2⟩|⟨g,cap,cur,h1,_⟩
  ·exact⟨none,0,by rw[h1,h2]⟩
  ·exact⟨_,_,h1⟩
 have A:Aside (PIn w ub ea n tbs e∧TurnMem w ub la ll lc M p0 rd (.slice oa order.length oc) order∧(∃j,j<n∧e j=false)):=⟨hI,hT,hlive⟩
 clear hI hT hlive
 go_enter Try.func70,Try.ntmps70
 go_wp2
 go_loopg [5,6] n (fun g l i wr=>∃c k:Nat,l= .int .i64 c∧i= .int .i64 k∧k≤n∧g=n - k∧wr=w∧c≤k∧(0<c↔∃j,j<k∧e j=false))
 case atStart=>exact⟨0,0,rfl,rfl,Nat.zero_le _,rfl,rfl,Nat.le_refl _,fun h=>by omega,fun⟨j,h,_⟩=>by omega⟩
 case round=>
  obtain⟨c,k,rfl,rfl,hk,rfl,rfl,hck,hcc⟩:=hrel
  rcases Nat.lt_or_ge k n with hlt|hge
  ·have CC:Aside (0<c↔∃j,j<k∧e j=false):=hcc
   clear hcc
   have hlt2:(k:Int)<(n:Int):=by omega
   have hwk:IntKind.i64.wrap ((k:Int)+1)=((k+1:Nat):Int):=IntWalk.i64_in _ (by omega)
   obtain⟨lb,rfl,_,f1,_,f2⟩:=A.out.1.c k hlt
   cases hek:e k with
   | true=>
     rw[hek]at f2
     go_wp2
     go_roundg (n - (k+1))
     case measure=>omega
     case rel=>
      refine⟨c,k+1,rfl,rfl,hlt,rfl,rfl,by omega,CC.out.trans ⟨fun⟨j,h1,h2⟩=>⟨j,by omega,h2⟩,fun⟨j,h1,h2⟩=>⟨j,?_,h2⟩⟩⟩
      rcases Nat.lt_or_ge j k with h|h
      ·exact h
      ·obtain rfl:j=k:=by omega
       rw[hek]at h2;cases h2
   | false=>
     rw[hek]at f2
     have hwc:IntKind.i64.wrap ((c:Int)+1)=((c+1:Nat):Int):=IntWalk.i64_in _ (by omega)
     go_wp2
     go_roundg (n - (k+1))
     case measure=>omega
     case rel=>exact⟨c+1,k+1,rfl,rfl,hlt,rfl,rfl,by omega,fun _=>⟨k,by omega,hek⟩,fun _=>by omega⟩
  ·obtain rfl:k=n:=by omega
   have hge2:¬(k:Int)<(k:Int):=by omega
   have hc0:¬(c:Int)=0:=by have:=hcc.2 A.out.2.2;omega
   have u3:wr.cell? ⟨ub,3,none⟩=some (.int .i64 M):=by simp[World.cell?,A.out.2.1.o]
   have u4:wr.cell? ⟨ub,4,none⟩=some (.slice oa order.length oc):=by simp[World.cell?,A.out.2.1.o]
   have z5:∀m,(wr.drewN m).frozen? ⟨ub,5,none⟩=false:=fun m=>by
    have e:=A.out.2.1.o
    simp[World.frozen?,World.drewN,e]
   have u5:∀m,(wr.drewN m).cell? ⟨ub,5,none⟩=some (.bool false):=fun m=>by
    have e:=A.out.2.1.o
    simp[World.cell?,World.drewN,e]
   have hMM:(M:Int)≤(order.length:Int):=by omega
   clear hcc
   go_wp2
   go_quiet (fail)
   go_wp2
   go_ret
   exact⟨rfl,rfl⟩
theorem pick_some{ub M p0 rd lc n ec:Nat}{la ea:Option Addr}{S:List Int}{tbs:Nat→Nat}{e:Nat→Bool}{ov:Value}{order:List Nat}(hn:n≤64)(hI:PIn w ub ea n tbs e)(hS:w.ownsRow 0 3 1 (.slice la S.length lc) S.length (S.map fun i:Int=>Value.int .i64 i))
 (hT:TurnMem w ub la S.length lc M p0 rd ov order) (hub0:some ub≠(Value.slice la S.length lc).ownBlock) (hp:p0≤S.length) (hrd:rd<n) (hlive:∃j,j<n∧e j=false) (hM:M≤1048576) (hol:order.length<M) (hSl:S.length<10000000):
 Calls Try.prog 70 #[.pointer (some ⟨ub,0,none⟩),.slice ea n ec] w fun x w'=>∃y p1 r1 ov',x= .returned (.int .i64 (y:Nat))∧PickRel S n e p0 rd y p1 r1∧TurnMem w' ub la S.length lc M p1 (r1 % n) ov' (order++[y])∧PKept w w' ub ov ov':=by
 obtain⟨i0,z0,hi,hz0,hz1,hz2,hz3⟩:=infoA3
 obtain⟨oa,oc,rfl⟩:∃oa oc,ov= .slice oa order.length oc:=by
  rcases hT.row.2 with⟨h1,h2⟩|⟨g,cap,cur,h1,_⟩
  ·exact⟨none,0,by rw[h1,h2]⟩
  ·exact⟨_,_,h1⟩
 have A:Aside (PIn w ub ea n tbs e∧w.ownsRow 0 3 1 (.slice la S.length lc) S.length (S.map fun i:Int=>Value.int .i64 i)∧TurnMem w ub la S.length lc M p0 rd (.slice oa order.length oc) order∧(∃j,j<n∧e j=false)∧some ub≠(Value.slice la S.length lc).ownBlock):=⟨hI,hS,hT,hlive,hub0⟩
 clear hI hS hT hlive hub0
 go_enter Try.func70,Try.ntmps70
 go_wp2
 go_loopg [5,6] n (fun g l i wr=>∃c k:Nat,l= .int .i64 c∧i= .int .i64 k∧k≤n∧g=n - k∧wr=w∧c≤k∧(0<c↔∃j,j<k∧e j=false))
 case atStart=>exact⟨0,0,rfl,rfl,Nat.zero_le _,rfl,rfl,Nat.le_refl _,fun h=>by omega,fun⟨j,h,_⟩=>by omega⟩
 case round=>
  obtain⟨c,k,rfl,rfl,hk,rfl,rfl,hck,hcc⟩:=hrel
  rcases Nat.lt_or_ge k n with hlt|hge
  ·have CC:Aside (0<c↔∃j,j<k∧e j=false):=hcc
   clear hcc
   have hlt2:(k:Int)<(n:Int):=by omega
   have hwk:IntKind.i64.wrap ((k:Int)+1)=((k+1:Nat):Int):=IntWalk.i64_in _ (by omega)
   obtain⟨lb,rfl,_,f1,_,f2⟩:=A.out.1.c k hlt
   cases hek:e k with
   | true=>
     rw[hek]at f2
     go_wp2
     go_roundg (n - (k+1))
     case measure=>omega
     case rel=>
      refine⟨c,k+1,rfl,rfl,hlt,rfl,rfl,by omega,CC.out.trans ⟨fun⟨j,h1,h2⟩=>⟨j,by omega,h2⟩,fun⟨j,h1,h2⟩=>⟨j,?_,h2⟩⟩⟩
      rcases Nat.lt_or_ge j k with h|h
      ·exact h
      ·obtain rfl:j=k:=by omega
       rw[hek]at h2;cases h2
   | false=>
     rw[hek]at f2
     have hwc:IntKind.i64.wrap ((c:Int)+1)=((c+1:Nat):Int):=IntWalk.i64_in _ (by omega)
     go_wp2
     go_roundg (n - (k+1))
     case measure=>omega
     case rel=>exact⟨c+1,k+1,rfl,rfl,hlt,rfl,rfl,by omega,fun _=>⟨k,by omega,hek⟩,fun _=>by omega⟩
  ·obtain rfl:k=n:=by omega
   have hge2:¬(k:Int)<(k:Int):=by omega
   have hc0:¬(c:Int)=0:=by have:=hcc.2 A.out.2.2.2.1;omega
   have u3:wr.cell? ⟨ub,3,none⟩=some (.int .i64 M):=by simp[World.cell?,A.out.2.2.1.o]
   have u4:wr.cell? ⟨ub,4,none⟩=some (.slice oa order.length oc):=by simp[World.cell?,A.out.2.2.1.o]
   have hMM:¬(M:Int)≤(order.length:Int):=by omega
   clear hcc
   rename World=>w0
   go_wp2
   go_quiet (fail)
   go_wp2
   simp only[decide_eq_false (show ¬M≤order.length by omega)]
   clear u3 u4 hMM hc0
   go_loopg [] (S.length - p0) (fun g wr=>∃p,TurnAt w0 wr ub la S.length lc M p rd (.slice oa order.length oc)∧p0≤p∧p≤S.length∧(∀j y,p0≤j→j<p→S[j]? =some y→¬okS k e y)∧g=S.length - p)
   case atStart=>exact⟨p0,⟨A.out.2.2.1.o,fun _ _=>rfl,rfl⟩,Nat.le_refl _,hp,fun j y h1 h2=>by omega,rfl⟩
   case round=>
    obtain⟨p,hW,hp1,hp2,hskip,rfl⟩:=hrel
    have B:Aside (TurnAt w0 wr ub la S.length lc M p rd (.slice oa order.length oc)∧(∀j y,p0≤j→j<p→S[j]? =some y→¬okS k e y)):=⟨hW,hskip⟩
    have u0:wr.cell? ⟨ub,0,none⟩=some (.slice la S.length lc):=by simp[World.cell?,hW.o]
    have u1:wr.cell? ⟨ub,1,none⟩=some (.int .i64 p):=by simp[World.cell?,hW.o]
    clear hW hskip
    rcases Nat.lt_or_ge p S.length with hlt|hge
    ·have hlt3:(p:Int)<(S.length:Int):=by omega
     go_wp2
     go_quiet (fail)
     have B2:Aside (TurnAt w0 (wr.drewN nq) ub la S.length lc M p rd (.slice oa order.length oc)):=B.out.1.heap rfl
     generalize wr.drewN nq=wd at B2 ⊢
     obtain⟨x,hx⟩:∃x,S[p]? =some x:=⟨_,List.getElem?_eq_getElem hlt⟩
     obtain⟨sb,scap,hsl,hsc⟩:=row_get (k:=p) A.out.2.1 (x:=.int .i64 x) (by simp[hx])
     simp only[Value.slice.injEq,Option.some.injEq,true_and]at hsl
     obtain⟨rfl,rfl⟩:=hsl
     have hsu:sb≠ub:=fun h=>A.out.2.2.2.2 (by rw[← h];rfl)
     clear u0 u1
     have u0:wd.cell? ⟨ub,0,none⟩=some (.slice (some ⟨sb,0,none⟩) S.length lc):=by simp[World.cell?,B2.out.o]
     have u1:wd.cell? ⟨ub,1,none⟩=some (.int .i64 p):=by simp[World.cell?,B2.out.o]
     have ux:wd.cell? ⟨sb,p,none⟩=some (.int .i64 x):=(cell_heap (B2.out.old sb hsu)).1.trans hsc.c
     go_wp2
     go_quiet (fail)
     have B3:Aside (TurnAt w0 (wd.drewN nq) ub (some ⟨sb,0,none⟩) S.length lc M p rd (.slice oa order.length oc)):=B2.out.heap rfl
     generalize wd.drewN nq=we at B3 ⊢
     clear u0 u1 ux B2
     have u1:we.cell? ⟨ub,1,none⟩=some (.int .i64 p):=by simp[World.cell?,B3.out.o]
     have u4:we.cell? ⟨ub,4,none⟩=some (.slice oa order.length oc):=by simp[World.cell?,B3.out.o]
     have z1:we.frozen? ⟨ub,1,none⟩=false:=by simp[World.frozen?,B3.out.o]
     have z4:we.frozen? ⟨ub,4,none⟩=false:=by simp[World.frozen?,B3.out.o]
     have hwr:IntKind.i64.wrap ((p:Int)+1)=((p+1:Nat):Int):=IntWalk.i64_in _ (by omega)
     by_cases hx0:0≤x
     ·obtain⟨xn,rfl⟩:∃xn:Nat,x=xn:=⟨x.toNat,by omega⟩
      by_cases hxn:xn<k
      ·have hxn3:(xn:Int)<(k:Int):=by omega
       obtain⟨lb,rfl,e1,f1,e2,f2⟩:=(A.out.1.at B3.out.old).c xn hxn
       have e1':¬ub=lb:=fun h=>e1 h.symm
       have e2':¬ub=tbs xn:=fun h=>e2 h.symm
       cases hek:e xn with
       | true=>
         rw[hek]at f2
         go_wp2
         go_roundg (S.length - (p+1))
         case measure=>omega
         case rel=>
          refine⟨p+1,B3.out.setP (p+1) rfl,by omega,by omega,fun j y h1 h2 h3=>?_,rfl⟩
          rcases Nat.lt_or_ge j p with h|h
          ·exact B.out.2 j y h1 h h3
          ·obtain rfl:j=p:=by omega
           rw[hx]at h3
           cases h3
           exact fun h=>by have:=h.2.2;simp only[Int.toNat_natCast,hek]at this;cases this
       | false=>
         rw[hek]at f2
         have hub:=(Array.getElem?_eq_some_iff.1 B3.out.o).1
         have hrow:we.ownsRow 0 3 1 (.slice oa order.length oc) order.length (order.map fun i:Nat=>Value.int .i64 i):=ownsRow_same2 A.out.2.2.1.row fun b hb _=>B3.out.old b fun e=>own_type A.out.2.2.1.row A.out.2.2.1.o (by decide) (by rw[← e,hb])
         have F0:Aside (TurnAt w0 (we.setCell ⟨ub,1,none⟩ (.int .i64 ((p+1:Nat):Int))) ub (some ⟨sb,0,none⟩) S.length lc M (p+1) rd (.slice oa order.length oc)):=B3.out.setP (p+1) rfl
         go_wp2_with (at_builtin;refine wpList_append_fresh rfl (.tmp 90) (.tmp 92) 24 rfl 3 i0 z0 1 8 Try.underlying24 hi hz0 hz1 hz2 hz3 (by decide) (.slice oa order.length oc) order.length (order.map fun i:Nat=>Value.int .i64 i) rfl ?c0 ⟨we.heap.size,0,none⟩ 1 1 [.int .i64 xn] rfl rfl ?c1 ?c2 ?c3 ?c4 ?_)
         case c0=>exact World.ownsRow.alloc (ownsRow_same2 hrow fun b hb _=>heap_setCell_ne _ _ _ fun e=>own_type A.out.2.2.1.row A.out.2.2.1.o (by decide) (by rw[hb,e])) _
         case c1=>exact new_cells (X:=we.setCell ⟨ub,1,none⟩ (.int .i64 ((p+1:Nat):Int))) (l:=[.int .i64 xn]) (by simp)
         case c2=>intro u hu;simp at hu;subst hu;rfl
         case c3=>unfold maxLen;omega
         case c4=>omega
         ·intro v' w1 hown hgrow hfr
          obtain⟨g,cap,rfl⟩:=own_slice hown
          have hold:∀r,r<(we.setCell ⟨ub,1,none⟩ (.int .i64 ((p+1:Nat):Int))).heap.size→some r≠(Value.slice oa order.length oc).ownBlock→w1.heap[r]? =(we.setCell ⟨ub,1,none⟩ (.int .i64 ((p+1:Nat):Int))).heap[r]?:=fun r h1 h2=>grown_old hgrow h1 h2
          have hk1:=hold ub (by simpa using hub) (own_type A.out.2.2.1.row A.out.2.2.1.o (by decide))
          have hk2:=hk1.trans F0.out.o
          have k0:w1.cell? ⟨ub,4,none⟩=some (.slice oa order.length oc):=by simp[World.cell?,hk2]
          have k1:w1.frozen? ⟨ub,4,none⟩=false:=by simp[World.frozen?,hk2]
          have G:Aside ((∀r,r<(we.setCell ⟨ub,1,none⟩ (.int .i64 ((p+1:Nat):Int))).heap.size→some r≠(Value.slice oa order.length oc).ownBlock→w1.heap[r]? =(we.setCell ⟨ub,1,none⟩ (.int .i64 ((p+1:Nat):Int))).heap[r]?)∧(we.setCell ⟨ub,1,none⟩ (.int .i64 ((p+1:Nat):Int))).heap.size≤w1.heap.size∧((Value.slice (some ⟨g,0,none⟩) (order.length+1) cap).ownBlock=(Value.slice oa order.length oc).ownBlock∨∃g',(Value.slice (some ⟨g,0,none⟩) (order.length+1) cap).ownBlock=some g'∧(we.setCell ⟨ub,1,none⟩ (.int .i64 ((p+1:Nat):Int))).heap.size≤g')):=
           ⟨hold,Nat.le_trans (by simp) hgrow.size,hfr.imp id fun⟨g',h1,h2⟩=>⟨g',h1,by simp;omega⟩⟩
          clear hold hk1 hk2 hgrow hfr hrow
          go_wp2
          go_ret
          obtain⟨g1,g2,g3⟩:=G.out
          have:=turn_app A.out.2.2.1 F0.out hown g1 g2 g3 rfl
          exact⟨xn,p+1,rd,_,rfl,.inl ⟨p,hp1,B.out.2,hx,⟨hx0,by omega,by simpa using hek⟩,rfl,rfl⟩,by rw[Nat.mod_eq_of_lt hrd];exact this.1,this.2⟩
      ·have hxn2:¬((xn:Int)<(k:Int)):=by omega
       go_wp2
       go_roundg (S.length - (p+1))
       case measure=>omega
       case rel=>
        refine⟨p+1,B3.out.setP (p+1) rfl,by omega,by omega,fun j y h1 h2 h3=>?_,rfl⟩
        rcases Nat.lt_or_ge j p with h|h
        ·exact B.out.2 j y h1 h h3
        ·obtain rfl:j=p:=by omega
         rw[hx]at h3
         cases h3
         exact fun h=>by have:=h.2.1;omega
     ·have hx1:¬0≤x:=hx0
      go_wp2
      go_roundg (S.length - (p+1))
      case measure=>omega
      case rel=>
       refine⟨p+1,B3.out.setP (p+1) rfl,by omega,by omega,fun j y h1 h2 h3=>?_,rfl⟩
       rcases Nat.lt_or_ge j p with h|h
       ·exact B.out.2 j y h1 h h3
       ·obtain rfl:j=p:=by omega
        rw[hx]at h3
        cases h3
        exact fun h=>by have:=h.1;omega
    ·obtain rfl:p=S.length:=by omega
     obtain⟨yl,hyl,hyl2⟩:=A.out.2.2.2.1
     obtain⟨r0,hr0,hr1,hr2⟩:∃r0,rd≤r0∧e (r0 % k)=false∧r0≤10000:=by
      refine⟨yl+k*(rd+1),?_,?_,?_⟩
      ·have:=Nat.mul_le_mul_right (rd+1) (show 1≤k by omega);omega
      ·rw[Nat.add_mul_mod_self_left,Nat.mod_eq_of_lt hyl];exact hyl2
      ·have:=Nat.mul_le_mul hn (show rd+1≤65 by omega);omega
     have hlt3:¬(S.length:Int)<(S.length:Int):=by omega
     go_wp2
     go_quiet (fail)
     have B2:Aside (TurnAt w0 (wr.drewN nq) ub la S.length lc M S.length rd (.slice oa order.length oc)):=B.out.1.heap rfl
     generalize wr.drewN nq=wd at B2 ⊢
     clear u0 u1
     go_wp2
     go_loopg [] (r0 - rd) (fun g wr=>∃r,TurnAt w0 wr ub la S.length lc M S.length (r % k) (.slice oa order.length oc)∧rd≤r∧r≤r0∧(∀j,rd≤j→j<r→e (j % k)=true)∧g=r0 - r)
     case atStart=>exact⟨rd,by rw[Nat.mod_eq_of_lt hrd];exact B2.out,Nat.le_refl _,hr0,fun j h1 h2=>by omega,rfl⟩
     case round=>
      obtain⟨r,hW,hra,hrb,hskip,rfl⟩:=hrel
      have C:Aside (TurnAt w0 wr ub la S.length lc M S.length (r % k) (.slice oa order.length oc)∧(∀j,rd≤j→j<r→e (j % k)=true)∧(r+1) % k=(r % k+1) % k):=⟨hW,hskip,by simp[Nat.add_mod]⟩
      have hmod:r % k<k:=Nat.mod_lt _ (by omega)
      generalize hrk:r % k=rk at C hmod
      have u2:wr.cell? ⟨ub,2,none⟩=some (.int .i64 rk):=by simp[World.cell?,C.out.1.o]
      have z2:wr.frozen? ⟨ub,2,none⟩=false:=by simp[World.frozen?,C.out.1.o]
      obtain⟨lb,rfl,e1,f1,e2,f2⟩:=(A.out.1.at C.out.1.old).c rk hmod
      have e1':¬ub=lb:=fun h=>e1 h.symm
      have e2':¬ub=tbs rk:=fun h=>e2 h.symm
      have hwr:IntKind.i64.wrap ((rk:Int)+1)=((rk+1:Nat):Int):=IntWalk.i64_in _ (by omega)
      have hmd:(rk:Int)<(k:Int):=by omega
      have hrm:IntKind.i64.wrap (Int.tmod ((rk+1:Nat):Int) (k:Int))=(((rk+1) % k:Nat):Int):=by
       rw[Int.tmod_eq_emod_of_nonneg (by omega),← Int.natCast_emod]
       have:=Nat.mod_lt (rk+1) (show 0<k by omega)
       exact IntWalk.i64_in _ (by omega)
      have hk0:¬(k:Int)=0:=by omega
      clear hW hskip
      cases hek:e rk with
      | true=>
        rw[hek]at f2
        go_wp2
        go_roundg (r0 - (r+1))
        case measure=>
         rcases Nat.lt_or_ge r r0 with h|h
         ·omega
         ·obtain rfl:r=r0:=by omega
          rw[hrk,hek]at hr1;cases hr1
        case rel=>
         refine⟨r+1,by rw[C.out.2.2];exact C.out.1.setR ((rk+1) % k) rfl,by omega,?_,fun j h1 h2=>?_,rfl⟩
         ·rcases Nat.lt_or_ge r r0 with h|h
          ·omega
          ·obtain rfl:r=r0:=by omega
           rw[hrk,hek]at hr1;cases hr1
         ·rcases Nat.lt_or_ge j r with h|h
          ·exact C.out.2.1 j h1 h
          ·obtain rfl:j=r:=by omega
           rw[hrk];exact hek
      | false=>
        rw[hek]at f2
        have u4:wr.cell? ⟨ub,4,none⟩=some (.slice oa order.length oc):=by simp[World.cell?,C.out.1.o]
        have z4:wr.frozen? ⟨ub,4,none⟩=false:=by simp[World.frozen?,C.out.1.o]
        have hub:=(Array.getElem?_eq_some_iff.1 C.out.1.o).1
        have hrow:wr.ownsRow 0 3 1 (.slice oa order.length oc) order.length (order.map fun i:Nat=>Value.int .i64 i):=ownsRow_same2 A.out.2.2.1.row fun b hb _=>C.out.1.old b fun e=>own_type A.out.2.2.1.row A.out.2.2.1.o (by decide) (by rw[← e,hb])
        have F0:Aside (TurnAt w0 (wr.setCell ⟨ub,2,none⟩ (.int .i64 (((rk+1) % k:Nat):Int))) ub la S.length lc M S.length ((rk+1) % k) (.slice oa order.length oc)):=C.out.1.setR ((rk+1) % k) rfl
        go_wp2_with (at_builtin;refine wpList_append_fresh rfl (.tmp 137) (.tmp 139) 24 rfl 3 i0 z0 1 8 Try.underlying24 hi hz0 hz1 hz2 hz3 (by decide) (.slice oa order.length oc) order.length (order.map fun i:Nat=>Value.int .i64 i) rfl ?c0 ⟨wr.heap.size,0,none⟩ 1 1 [.int .i64 rk] rfl rfl ?c1 ?c2 ?c3 ?c4 ?_)
        case c0=>exact World.ownsRow.alloc (ownsRow_same2 hrow fun b hb _=>heap_setCell_ne _ _ _ fun e=>own_type A.out.2.2.1.row A.out.2.2.1.o (by decide) (by rw[hb,e])) _
        case c1=>exact new_cells (X:=wr.setCell ⟨ub,2,none⟩ (.int .i64 (((rk+1) % k:Nat):Int))) (l:=[.int .i64 rk]) (by simp)
        case c2=>intro u hu;simp at hu;subst hu;rfl
        case c3=>unfold maxLen;omega
        case c4=>omega
        ·intro v' w1 hown hgrow hfr
         obtain⟨g,cap,rfl⟩:=own_slice hown
         have hold:∀b0,b0<(wr.setCell ⟨ub,2,none⟩ (.int .i64 (((rk+1) % k:Nat):Int))).heap.size→some b0≠(Value.slice oa order.length oc).ownBlock→w1.heap[b0]? =(wr.setCell ⟨ub,2,none⟩ (.int .i64 (((rk+1) % k:Nat):Int))).heap[b0]?:=fun b0 h1 h2=>grown_old hgrow h1 h2
         have hk1:=hold ub (by simpa using hub) (own_type A.out.2.2.1.row A.out.2.2.1.o (by decide))
         have hk2:=hk1.trans F0.out.o
         have k0:w1.cell? ⟨ub,4,none⟩=some (.slice oa order.length oc):=by simp[World.cell?,hk2]
         have k1:w1.frozen? ⟨ub,4,none⟩=false:=by simp[World.frozen?,hk2]
         have G:Aside ((∀b0,b0<(wr.setCell ⟨ub,2,none⟩ (.int .i64 (((rk+1) % k:Nat):Int))).heap.size→some b0≠(Value.slice oa order.length oc).ownBlock→w1.heap[b0]? =(wr.setCell ⟨ub,2,none⟩ (.int .i64 (((rk+1) % k:Nat):Int))).heap[b0]?)∧(wr.setCell ⟨ub,2,none⟩ (.int .i64 (((rk+1) % k:Nat):Int))).heap.size≤w1.heap.size∧((Value.slice (some ⟨g,0,none⟩) (order.length+1) cap).ownBlock=(Value.slice oa order.length oc).ownBlock∨∃g',(Value.slice (some ⟨g,0,none⟩) (order.length+1) cap).ownBlock=some g'∧(wr.setCell ⟨ub,2,none⟩ (.int .i64 (((rk+1) % k:Nat):Int))).heap.size≤g')):=
          ⟨hold,Nat.le_trans (by simp) hgrow.size,hfr.imp id fun⟨g',h1,h2⟩=>⟨g',h1,by simp;omega⟩⟩
         clear hold hk1 hk2 hgrow hfr hrow
         go_wp2
         go_ret
         obtain⟨g1,g2,g3⟩:=G.out
         have:=turn_app (x:=rk) A.out.2.2.1 F0.out hown g1 g2 g3 rfl
         subst hrk
         exact⟨r % k,S.length,r % k+1,_,rfl,.inr ⟨fun j y h1 h2=>B.out.2 j y h1 (List.getElem?_eq_some_iff.1 h2).1 h2,rfl,r,hra,C.out.2.1,hek,rfl,rfl⟩,this.1,this.2⟩
end
section
variable{W w wr w':World}{n:Nat}{ops:Nat→List Op4}{opv:Nat→Value}{B:MK}{s:KSt}{tbs:Nat→Nat}{rt:Nat→RTh}{ovs:Nat→Value}{en:Nat→Bool}
theorem slice_row{v:Value}{e:TypeId}{sz n:Nat}{xs:List Value}(h:w.ownsRow 0 e sz v n xs):∃a c,v= .slice a n c:=by
 rcases h.2 with⟨h1,h2⟩|⟨g,cap,cur,h1,_⟩
 ·exact⟨none,0,by rw[h1,h2]⟩
 ·exact⟨_,_,h1⟩
theorem step_all{tb:Nat}{op ov:Value}{t:RTh}{en:Bool}{ops:List Op4}{g:GT KPl}{c:KCl}(hM:MAt w B s)(hT:TAt w tb op t ov en)(hr:w.ownsRow 0 47 4 op ops.length (opsC ops))(hol:ops.length≤65536)(hW:KWf s)(hR:TRel s.nx.length ops g t)(hc:g.call=some c):
 Calls Try.prog 73 #[.pointer (some ⟨B.mb,0,none⟩),.pointer (some ⟨tb,0,none⟩)] w fun e w'=>e= .returned (.tuple #[])∧Out7 w B tb op ov en ops w' (rstep s t c.a):=by
 obtain⟨oa,oc,rfl⟩:=slice_row hr
 obtain⟨h1,h2,h3,h4⟩:=hR.some c hc
 have hal:=hR.al
 obtain⟨r1,r2⟩:=liv_step (s:=s) h1 h2.pc
 have hkk:(rstep s t c.a).2.k≤ops.length∧(rstep s t c.a).2.ans.length=(rstep s t c.a).2.k:=by
  revert r2
  cases(s.step c).2 with
  | inl c'=>rintro⟨_,e1,e2⟩;rw[e1,e2];exact⟨by omega,hal⟩
  | inr a=>rintro⟨_,e1,e2⟩;rw[e1,e2,List.length_append,List.length_singleton];exact⟨by omega,by omega⟩
 have hl1:t.ans.length<100000000:=by omega
 have hl2:t.k<100000000:=by omega
 obtain⟨hp,hq⟩:=h1
 have g0:=h2.n0
 have g4:=h2.n4
 have gp:=h2.pos
 have ha:=h4
 obtain⟨x,hx⟩:∃x,ops[t.k]? =some x:=⟨_,List.getElem?_eq_getElem h3⟩
 have push:=fun(hlt:t.pc<20) C=>st_push (a:=c.a) hM hT hr hol h3 hal (by omega) C hkk.1 hkk.2
 have pop:=fun(hlt:¬t.pc<20) (hlt2:t.pc<30) C=>st_pop (a:=c.a) hM hT hr hol h3 hal (by omega) (by omega) C hkk.1 hkk.2
 have hpc:=h2.pc
 simp only[List.mem_cons,List.not_mem_nil,or_false]at hpc
 rcases hpc with e|e|e|e|e|e|e|e|e|e|e|e|e|e|e|e|e|e<;>rw[e]at hp hq gp<;>simp only at hq
 ·refine push (by omega) ?_
  by_cases hn:s.fr.1<0
  ·exact pu10n hM hT hW hl1 hl2 hp hn
  ·exact pu10y hM hT hW hl1 hl2 hp hn
 ·have:=gp (by simp)
  exact push (by omega) (pu11 hM hT hW hl1 hl2 hp (by rw[hq.1];omega))
 ·exact push (by omega) (pu12 hM hT hW hl1 hl2 hp)
 ·exact push (by omega) (pu13 hM hT hW hl1 hl2 hp (by rw[hq];omega) hr hx (h4 (by omega) x hx) (by omega))
 ·exact push (by omega) (pu14 hM hT hW hl1 hl2 hp)
 ·exact push (by omega) (pu15 hM hT hW hl1 hl2 hp (by rw[hq.2.2];omega))
 ·exact push (by omega) (pu16 hM hT hW hl1 hl2 hp)
 ·refine pop (by omega) (by omega) ?_
  by_cases hn:s.hd.1<0
  ·exact po20n hM hT hW hl1 hl2 hp hn
  ·exact po20y hM hT hW hl1 hl2 hp hn
 ·have:=gp (by simp)
  exact pop (by omega) (by omega) (po21 hM hT hW hl1 hl2 hp (by rw[hq.1];omega))
 ·exact pop (by omega) (by omega) (po22 hM hT hW hl1 hl2 hp)
 ·exact pop (by omega) (by omega) (po23 hM hT hW hl1 hl2 hp (by rw[hq];omega))
 ·exact pop (by omega) (by omega) (po24 hM hT hW hl1 hl2 hp)
 ·exact pop (by omega) (by omega) (po25 hM hT hW hl1 hl2 hp (by rw[hq.2.2.1];omega))
 ·exact pop (by omega) (by omega) (po26 hM hT hW hl1 hl2 hp)
 ·by_cases hn:s.hd.1<0
  ·exact st30n hM hT hr hol h3 hal hp hn
  ·exact st30y hM hT hr hol h3 hal hp hn
 ·have:=gp (by simp)
  exact st31 hM hT hr hol h3 hal hp (by rw[hq.1];omega) hW.n1
 ·by_cases hq2:s.hd=(t.n0,t.n1)
  ·exact st32e hM hT hr hol h3 hal hp hq2
  ·by_cases hn:s.hd.1<0
   ·exact st32n hM hT hr hol h3 hal hp hq2 hn
   ·exact st32y hM hT hr hol h3 hal hp hq2 hn
 ·exact st40 hM hT hr hol h3 hal hp
structure PMid(W:World)(ops:Nat→List Op4)(opv:Nat→Value)(m0 n M:Nat)(S:List Int)(B:MK)(tbs:Nat→Nat)(la:Option Addr)(lc ub:Nat)(ta:Option Addr)(tc:Nat)(g:GS KPl)(order:List Nat)(p rd:Nat)(s:KSt)(rt:Nat→RTh)(ovs:Nat→Value)(en:Nat→Bool)(ov:Value)(wr:World):Prop where
 r:RM W n ops opv B s tbs rt ovs en wr
 g:RG n ops m0 g s rt en
 l:wr.ownsRow 0 123 1 (.slice la n lc) n ((List.range n).map fun j=>.pointer (some ⟨tbs j,0,none⟩))
 th:B.thr= .slice la n lc
 t:TurnMem wr ub ta S.length tc M p (rd % n) ov order
 s:wr.ownsRow 0 3 1 (.slice ta S.length tc) S.length (S.map fun i:Int=>Value.int .i64 i)
 om:order.length≤M
 pl:p≤S.length
 rl:rd≤n
 nl:∀g,(Value.slice la n lc).ownBlock=some g→W.heap.size≤g
 nu:W.heap.size≤ub
 ns:∀g,(Value.slice ta S.length tc).ownBlock=some g→W.heap.size≤g
 no:∀g,ov.ownBlock=some g→W.heap.size≤g
 so:∀g,(Value.slice ta S.length tc).ownBlock=some g→ov.ownBlock≠some g
section
variable{m0 M:Nat}{S:List Int}{la:Option Addr}{lc ub:Nat}{ta:Option Addr}{tc:Nat}{g s0:GS KPl}{order:List Nat}{p rd:Nat}{ov:Value}
theorem PMid.pin(h:PMid W ops opv m0 n M S B tbs la lc ub ta tc g order p rd s rt ovs en ov wr):PIn wr ub la n tbs en:=⟨fun j hj=>by
 obtain⟨lb,cap,e1,h1⟩:=row_get (k:=j) h.l (x:=.pointer (some ⟨tbs j,0,none⟩)) (by simp[hj])
 cases e1
 obtain⟨c,hc⟩:=own_row_ty h.l rfl
 exact⟨lb,rfl,heap_ty hc h.t.o (by decide),h1.c,heap_ty (h.r.t j hj).o h.t.o (by decide),(h.r.t j hj).fx.c13⟩⟩
theorem pick_congr{S:List Int}{n p r x p1 r1:Nat}{e e':Nat→Bool}(hn:0<n)(he:∀j,j<n→e j=e' j)(h:PickRel S n e p r x p1 r1):PickRel S n e' p r x p1 r1:=by
 have ho:∀y,okS n e y↔okS n e' y:=fun y=>by
  unfold okS
  constructor
  ·rintro⟨h1,h2,h3⟩;exact⟨h1,h2,by rw[← he _ (by omega)];exact h3⟩
  ·rintro⟨h1,h2,h3⟩;exact⟨h1,h2,by rw[he _ (by omega)];exact h3⟩
 rcases h with⟨p',a1,a2,a3,a4,a5,a6⟩|⟨a1,a2,r',b1,b2,b3,b4,b5⟩
 ·exact .inl ⟨p',a1,fun j y h1 h2 h3 h4=>a2 j y h1 h2 h3 ((ho y).2 h4),a3,(ho _).1 a4,a5,a6⟩
 ·exact .inr ⟨fun j y h1 h2 h4=>a1 j y h1 h2 ((ho y).2 h4),a2,r',b1,fun j h1 h2=>by rw[← he _ (Nat.mod_lt _ hn)];exact b2 j h1 h2,by rw[← he _ (Nat.mod_lt _ hn)];exact b3,b4,b5⟩
theorem PMid.kept(h:PMid W ops opv m0 n M S B tbs la lc ub ta tc g order p rd s rt ovs en ov wr){p1 r1 y:Nat}{ov':Value}(hT:TurnMem w' ub ta S.length tc M p1 (r1 % n) ov' (order++[y]))(hK:PKept wr w' ub ov ov')(ho:order.length<M)(hp:p1≤S.length)(hr:r1≤n):
 PMid W ops opv m0 n M S B tbs la lc ub ta tc g (order++[y]) p1 r1 s rt ovs en ov' w':=by
 have hsz:=h.r.size
 have keep:∀(r:Nat) (c:Array Value) (e:TypeId) (z:Nat×Nat),wr.heap[r]? =some (.cells c e z)→e≠162→e≠3→w'.heap[r]? =wr.heap[r]?:=fun r c e z hr e1 e2=>
  hK.old r (alt hr) (heap_ty hr h.t.o e1) (own_type h.t.row hr fun h=>e2 h.symm)
 have hsb:∀g,(Value.slice ta S.length tc).ownBlock=some g→w'.heap[g]? =wr.heap[g]?:=fun g hg=>by
  obtain⟨c,hc⟩:=own_row_ty h.s hg
  exact hK.old g (alt hc) (heap_ty hc h.t.o (by decide)) fun e=>h.so g hg e.symm
 refine⟨h.r.same hK.size (fun r hr=>hK.old r (by omega) (by have:=h.nu;omega) fun e=>by have:=h.no r e.symm;omega) (fun r c e z hr he=>keep r c e z hr (by rcases he with rfl|rfl|rfl|rfl|rfl<;>decide) (by rcases he with rfl|rfl|rfl|rfl|rfl<;>decide)),h.g,?_,h.th,hT,ownsRow_same2 h.s fun b hb _=>hsb b hb,by simp;omega,hp,hr,h.nl,h.nu,h.ns,fun g hg=>?_,fun g hg=>?_⟩
 ·exact ownsRow_same2 h.l fun b hb _=>by
   obtain⟨c,hc⟩:=own_row_ty h.l hb
   exact keep _ _ _ _ hc (by decide) (by decide)
 ·rcases hK.fo with e|⟨g',e,h2⟩
  ·exact h.no g (e ▸ hg)
  ·rw[e]at hg;cases hg;omega
 ·rcases hK.fo with e|⟨g',e,h2⟩
  ·rw[e];exact h.so g hg
  ·rw[e];intro h3;cases h3
   obtain⟨c,hc⟩:=own_row_ty h.s hg
   have:=(alt hc)
   omega
theorem live_en(h:PMid W ops opv m0 n M S B tbs la lc ub ta tc g order p rd s rt ovs en ov wr):cnt g.live n=0↔∀j,j<n→en j=true:=by
 rw[cnt_zero]
 exact⟨fun h1 j hj=>by rw[h.g.e j hj,endedOf,h1 j hj];rfl,fun h1 j hj=>by have:=h1 j hj;rw[h.g.e j hj,endedOf]at this;simpa using this⟩
theorem pick_go(h:PMid W ops opv m0 n M S B tbs la lc ub ta tc g order p rd s rt ovs en ov wr)(hI:RefI ops n M S s0 g order p rd)(hn:n≤64)(hM:M≤1048576)(hS:S.length<10000000)(h1:¬cnt g.live n=0)(h2:¬order.length=M):
 Calls Try.prog 70 #[.pointer (some ⟨ub,0,none⟩),.slice la n lc] wr fun x w'=>∃y p1 r1 ov' c,x= .returned (.int .i64 (y:Nat))∧y<n∧(g.th y).call=some c∧PMid W ops opv m0 n M S B tbs la lc ub ta tc g (order++[y]) p1 r1 s rt ovs en ov' w'∧RefI ops n M S s0 (g.put y (stpG KPl (ops y) g.q (g.th y))) (order++[y]) p1 r1:=by
 have hl:∃j,j<n∧en j=false:=by
  rcases Classical.em (∃j,j<n∧en j=false)with h'|h'
  ·exact h'
  ·exact absurd ((live_en h).2 fun j hj=>by
    cases e:en j with
    | true=>rfl
    | false=>exact absurd ⟨j,hj,e⟩ h') h1
 have hn0:0<n:=by obtain⟨j,hj,_⟩:=hl;omega
 have hub:some ub≠(Value.slice ta S.length tc).ownBlock:=own_type h.s h.t.o (by decide)
 have hom:=h.om
 refine(pick_some (rd:=rd % n) hn h.pin h.s h.t hub h.pl (Nat.mod_lt _ hn0) hl hM (by omega) hS).mono ?_
 rintro x w2 ⟨y,p1,r1,ov',rfl,hpk,hT,hK⟩
 obtain⟨r2,hp2,hr2,hr3⟩:=pick_mod hn0 h.rl hpk
 have hp3:=pick_congr hn0 (fun j hj=>h.g.e j hj) hp2
 obtain⟨q1,q2,q3,q4⟩:=refI_pick hI hp3 h2 h.om h.rl hn0
 have hy:y<n:=by have:=q2.2.1;omega
 obtain⟨c,hc⟩:∃c,(g.th y).call=some c:=by
  have:=q2.2.2
  simp only[Int.toNat_natCast,endedOf,GS.live,Bool.not_eq_false']at this
  exact Option.isSome_iff_exists.1 this
 rw[← hr2]at hT
 exact⟨y,p1,r2,ov',c,rfl,hy,hc,h.kept hT hK (by omega) q3 q4,q1⟩
structure PEnd(W:World)(ops:Nat→List Op4)(opv:Nat→Value)(m0 n M:Nat)(B:MK)(tbs:Nat→Nat)(la:Option Addr)(lc ub:Nat)(g:GS KPl)(order:List Nat)(s:KSt)(rt:Nat→RTh)(ovs:Nat→Value)(en:Nat→Bool)(ov:Value)(wr:World):Prop where
 r:RM W n ops opv B s tbs rt ovs en wr
 gr:RG n ops m0 g s rt en
 l:wr.ownsRow 0 123 1 (.slice la n lc) n ((List.range n).map fun j=>.pointer (some ⟨tbs j,0,none⟩))
 th:B.thr= .slice la n lc
 u:∃a b c d e,wr.heap[ub]? =some (.cells #[.slice a b c,.int .i64 d,.int .i64 e,.int .i64 M,ov,.bool (decide (0<cnt g.live n))] 162 (0,0))
 o:wr.ownsRow 0 3 1 ov order.length (order.map fun i:Nat=>Value.int .i64 i)
 nl:∀g,(Value.slice la n lc).ownBlock=some g→W.heap.size≤g
theorem pick_end(h:PMid W ops opv m0 n M S B tbs la lc ub ta tc g order p rd s rt ovs en ov wr)(hn:n≤64)(h1:cnt g.live n=0∨order.length=M):
 Calls Try.prog 70 #[.pointer (some ⟨ub,0,none⟩),.slice la n lc] wr fun x w'=>x= .returned (.int .i64 (-1))∧PEnd W ops opv m0 n M B tbs la lc ub g order s rt ovs en ov w':=by
 by_cases h2:cnt g.live n=0
 ·refine(pick_over hn h.pin h.t ((live_en h).1 h2)).mono ?_
  rintro x w2 ⟨rfl,rfl⟩
  exact⟨rfl,h.r,h.g,h.l,h.th,⟨_,_,_,_,_,by rw[h2];exact h.t.o⟩,h.t.row,h.nl⟩
 ·have hl:∃j,j<n∧en j=false:=by
   rcases Classical.em (∃j,j<n∧en j=false)with h'|h'
   ·exact h'
   ·exact absurd ((live_en h).2 fun j hj=>by
     cases e:en j with
     | true=>rfl
     | false=>exact absurd ⟨j,hj,e⟩ h') h2
  refine(pick_full hn h.pin h.t hl (h1.resolve_left h2)).mono ?_
  rintro x w2 ⟨rfl,hw⟩
  have hne:∀r,r≠ub→w2.heap[r]? =wr.heap[r]?:=fun r hr=>by rw[hw,heap_setCell_ne _ _ _ hr]
  have hty:∀(r:Nat) (c:Array Value) (e:TypeId) (z:Nat×Nat),wr.heap[r]? =some (.cells c e z)→e≠162→w2.heap[r]? =wr.heap[r]?:=fun r c e z hr he=>hne r (heap_ty hr h.t.o he)
  refine⟨rfl,h.r.same (by rw[hw,World.size_setCell];exact Nat.le_refl _) (fun r hr=>hne r (by have:=h.nu;omega)) (fun r c e z hr he=>hty r c e z hr (by rcases he with rfl|rfl|rfl|rfl|rfl<;>decide)),h.g,?_,h.th,⟨ta,S.length,tc,p,(rd % n:Nat),?_⟩,?_,h.nl⟩
  ·exact ownsRow_same2 h.l fun b hb _=>by
    obtain⟨c,hc⟩:=own_row_ty h.l hb
    exact hty _ _ _ _ hc (by decide)
  ·rw[hw,heap_set_eq h.t.o]
   have:decide (0<cnt g.live n)=true:=by simp;omega
   rw[this];rfl
  ·exact ownsRow_same2 h.t.row fun b hb _=>by
    obtain⟨c,hc⟩:=own_row_ty h.t.row hb
    exact hty _ _ _ _ hc (by decide)
theorem step_go(h:PMid W ops opv m0 n M S B tbs la lc ub ta tc g order p rd s rt ovs en ov wr){y:Nat}(hy:y<n){c:KCl}(hc:(g.th y).call=some c):
 Calls Try.prog 73 #[.pointer (some ⟨B.mb,0,none⟩),.pointer (some ⟨tbs y,0,none⟩)] wr fun x w'=>x= .returned (.tuple #[])∧∃s' rt' ovs' en',PMid W ops opv m0 n M S B tbs la lc ub ta tc (g.put y (stpG KPl (ops y) g.q (g.th y))) order p rd s' rt' ovs' en' ov w':=by
 have hg:=h.g.t y hy
 rw[← h.g.l]at hg
 refine(step_all h.r.m (h.r.t y hy) (h.r.o y hy) (h.g.ol y hy) h.g.w hg hc).mono ?_
 rintro x w2 ⟨rfl,hO⟩
 obtain⟨ov',hR,hk⟩:=h.r.go hy hO
 refine⟨rfl,_,_,_,_,hR,h.g.turn hy hc,?_,h.th,⟨(hk _ _ _ _ h.t.o (by decide) (by decide) (by decide) (by decide)).trans h.t.o,?_⟩,?_,h.om,h.pl,h.rl,h.nl,h.nu,h.ns,h.no,h.so⟩
 ·exact ownsRow_same2 h.l fun b hb _=>by
   obtain⟨c,hc⟩:=own_row_ty h.l hb
   exact hk _ _ _ _ hc (by decide) (by decide) (by decide) (by decide)
 ·exact ownsRow_same2 h.t.row fun b hb _=>by
   obtain⟨c,hc⟩:=own_row_ty h.t.row hb
   exact hk _ _ _ _ hc (by decide) (by decide) (by decide) (by decide)
 ·exact ownsRow_same2 h.s fun b hb _=>by
   obtain⟨c,hc⟩:=own_row_ty h.s hb
   exact hk _ _ _ _ hc (by decide) (by decide) (by decide) (by decide)
structure PBorn(W:World)(ops:Nat→List Op4)(opv:Nat→Value)(m0 n:Nat)(B:MK)(tbs:Nat→Nat)(la:Option Addr)(lc:Nat)(s0:GS KPl)(i:Nat)(s:KSt)(rt:Nat→RTh)(ovs:Nat→Value)(en:Nat→Bool)(wr:World):Prop where
 r:RM W n ops opv B s tbs rt ovs en wr
 g:RG i ops m0 (gBorns KPl ops i s0) s rt en
 l:wr.ownsRow 0 123 1 (.slice la n lc) n ((List.range n).map fun j=>.pointer (some ⟨tbs j,0,none⟩))
 th:B.thr= .slice la n lc
 z:∀j,i≤j→j<n→rt j=t00
 ol:∀j,j<n→(ops j).length≤65536
 nl:∀g,(Value.slice la n lc).ownBlock=some g→W.heap.size≤g
theorem gBorns_th{m:Pl}{ops:Nat→List Op4}{s0:GS m}:∀(i j:Nat),i≤j→(gBorns m ops i s0).th j=s0.th j
 | 0,j,_=>rfl
 | i+1,j,h=>by
   simp only[gBorns]
   rw[put_ne _ _ (by omega)]
   exact gBorns_th i j (by omega)
theorem born_go{i:Nat}(h:PBorn W ops opv m0 n B tbs la lc s0 i s rt ovs en wr)(hi:i<n)(h0:s0.th i=⟨0,none,[]⟩):
 Calls Try.prog 68 #[.pointer (some ⟨B.mb,0,none⟩),.pointer (some ⟨tbs i,0,none⟩)] wr fun x w'=>x= .returned (.tuple #[])∧∃s' rt' ovs' en',PBorn W ops opv m0 n B tbs la lc s0 (i+1) s' rt' ovs' en' w':=by
 have hz:=h.z i (Nat.le_refl _) hi
 have hT:=h.r.t i hi
 have hr:=h.r.o i hi
 have hol:=h.ol i hi
 rw[hz]at hT
 have hgo:=fun ov' e (hO:Out6 wr B (tbs i) (opv i) (ovs i) e ov' (s,rbeg (ops i) t00))=>h.r.go hi hO
 obtain⟨oa,oc,ho⟩:=slice_row hr
 rw[ho]at hT hr hgo
 refine(begin_out (s1:=s) (t1:=t00) (Mid.out (Mid.start h.r.m hT) rfl) hT h.r.m hr (Nat.zero_le _) hol rfl _).mono ?_
 rintro x w2 ⟨rfl,hO⟩
 obtain⟨ov',hR,hk⟩:=hgo _ _ hO
 refine⟨rfl,_,_,_,_,hR,?_,?_,h.th,fun j h1 h2=>?_,h.ol,h.nl⟩
 ·exact h.g.born hol ((gBorns_th i i (Nat.le_refl _)).trans h0) hz
 ·exact ownsRow_same2 h.l fun b hb _=>by
   obtain⟨c,hc⟩:=own_row_ty h.l hb
   exact hk _ _ _ _ hc (by decide) (by decide) (by decide) (by decide)
 ·rw[updN_ne _ _ (by omega)]
  exact h.z j (by omega) h2
end
end
section
variable{w w':World}{B:MK}{s:KSt}
theorem rvalues_calls(hM:MAt w B s)(hW:KWf s):
 Calls Try.prog 71 #[.pointer (some ⟨B.mb,0,none⟩)] w fun x w'=>∃ov,x= .returned ov∧ValsAt w w' ov s.vals∧(s.vals=[]→ov= .slice none 0 0):=by
 obtain⟨i0,z0,hi,hz0,hz1,hz2,hz3⟩:=infoA2
 have A:Aside (MAt w B s∧KWf s):=⟨hM,hW⟩
 have c2:=hM.fx.m2
 have W0:Aside (Walks s s.nx.length s.hd.1 []):=⟨rfl,by simp,hW.hd.1,hW.hd.2.1⟩
 have hm:s.nx.length≤65536:=hW.n3
 clear hM hW
 go_enter Try.func71,Try.ntmps71
 go_wp2
 go_loopg [3,4,5] s.nx.length (fun g n i j wr=>∃(d:List Int) (k:Int) (f:Nat) (oa:Option Addr) (oc:Nat),n= .slice oa d.length oc∧i= .int .i64 k∧j= .int .i64 (d.length:Nat)∧Walks s f k d∧g=f∧ValsAt w wr (.slice oa d.length oc) d∧(d=[]→Value.slice oa d.length oc= .slice none 0 0))
 case atStart=>exact⟨[],_,_,none,0,rfl,rfl,rfl,W0.out,rfl,⟨⟨rfl,.inl ⟨rfl,rfl⟩⟩,Nat.le_refl _,fun r _=>rfl,fun g h=>by cases h⟩,fun _=>rfl⟩
 case round=>
  obtain⟨d,k,f,oa,oc,rfl,rfl,rfl,⟨hv,hl,k1,k2⟩,hgf,hV,hnil⟩:=hrel
  clear c2
  have hU:=A.out.1.same (w':=wr) (hV.old _ A.out.1.mlt) (hV.old _ A.out.1.nlt) (hV.old _ A.out.1.vlt)
  have c0:=hU.fx.m0
  have c1:=hU.fx.m1
  by_cases hneg:k<0
  ·have hn0:¬(0:Int)≤k:=by omega
   have e:s.walk f k=[]:=by
    cases f with
    | zero=>rfl
    | succ f=>unfold KSt.walk;rw[if_pos hneg]
   rw[e,List.append_nil]at hv
   have V:Aside (s.vals=d∧ValsAt w wr (.slice oa d.length oc) d∧(d=[]→Value.slice oa d.length oc= .slice none 0 0)):=⟨hv,hV,hnil⟩
   by_cases hlt:(d.length:Int)<(s.nx.length:Int)
   ·clear hnil hU hV hv hl
    go_wp2
    go_ret
    rw[V.out.1]
    exact⟨_,rfl,V.out.2⟩
   ·clear hnil hU hV hv hl
    go_wp2
    go_ret
    rw[V.out.1]
    exact⟨_,rfl,V.out.2⟩
  ·have hn0:(0:Int)≤k:=by omega
   cases f with
   | zero=>
     have e:d.length=s.nx.length:=by omega
     have hlt:¬(d.length:Int)<(s.nx.length:Int):=by omega
     rw[show s.walk 0 k=[]from rfl,List.append_nil]at hv
     have V:Aside (s.vals=d∧ValsAt w wr (.slice oa d.length oc) d∧(d=[]→Value.slice oa d.length oc= .slice none 0 0)):=⟨hv,hV,hnil⟩
     clear hnil hU hV hv e hl
     go_wp2
     go_ret
     rw[V.out.1]
     exact⟨_,rfl,V.out.2⟩
   | succ f=>
     obtain⟨i,rfl⟩:∃i:Nat,k=i:=⟨k.toNat,by omega⟩
     have him:i<s.nx.length:=by omega
     have hivm:i<s.vl.length:=by have:=A.out.2.n1;omega
     have hii:(i:Int)<(s.nx.length:Int):=by omega
     have hiv:(i:Int)<(s.vl.length:Int):=by omega
     have hlt:(d.length:Int)<(s.nx.length:Int):=by omega
     have n1:=(hU.nc him).1
     have n2:=(hU.vc hivm).1
     have hrow:=hV.row
     have hsz:=hV.size
     have V:Aside (Walks s f (s.nx.getD i 0) (d++[s.vl.getD i 0])∧ValsAt w wr (.slice oa d.length oc) d∧MAt wr B s):=by
      refine⟨⟨?_,by simp;omega,?_⟩,hV,hU⟩
      ·rw[hv,walk_succ,if_neg hneg]
       simp[KSt.val,KSt.nxt]
      ·rw[List.getD_eq_getElem?_getD,List.getElem?_eq_getElem him]
       exact A.out.2.nx _ (List.getElem_mem _)
     have hd2:d.length<65536:=by omega
     obtain⟨cur,hnb,_⟩:=hU.n
     have ho:=hU.o
     have hwr:IntKind.i64.wrap ((d.length:Int)+1)=(d.length:Int)+1:=IntWalk.i64_in _ (by omega)
     clear hnil hU hV hv hl
     generalize hvv:s.vl.getD i 0=vv at V n2
     generalize hxx:s.nx.getD i 0=xx at V n1
     have V3:Aside (B.mb<wr.heap.size∧B.nb<wr.heap.size):=⟨V.out.2.2.mlt,V.out.2.2.nlt⟩
     go_wp2_with (at_builtin;refine wpList_append_fresh rfl (.tmp 24) (.tmp 32) 22 rfl 2 i0 z0 1 8 Try.underlying22 hi hz0 hz1 hz2 hz3 (by decide) (.slice oa d.length oc) d.length (d.map fun v=>.int .i64 v) rfl (World.ownsRow.alloc hrow _) ⟨wr.heap.size,0,none⟩ 1 1 [.int .i64 vv] rfl rfl (new_cells (X:=wr) (l:=[.int .i64 vv]) rfl) (by intro u hu;simp at hu;subst hu;rfl) (by unfold maxLen;omega) (by omega) ?_)
     ·intro v' w1 hown hgrow hfr
      obtain⟨g,cap,rfl⟩:=own_slice hown
      have hkk:w1.heap[B.mb]? =wr.heap[B.mb]?:=grown_old hgrow V3.out.1 (own_type V.out.2.1.row ho (by decide))
      have hkn:w1.heap[B.nb]? =wr.heap[B.nb]?:=grown_old hgrow V3.out.2 (fun e=>by
       have h1:=V.out.2.1.new B.nb e.symm
       have:=A.out.1.nlt
       omega)
      have q0:=(cell_heap (j:=0) hkk).1.trans c0
      have q1:=(cell_heap (j:=i) hkn).1.trans n1
      have hold:∀r,r<w.heap.size→w1.heap[r]? =wr.heap[r]?:=fun r hr=>by
       refine grown_old hgrow (by omega) fun e=>?_
       have:=V.out.2.1.new r e.symm
       omega
      have hgs:=hgrow.size
      simp only[World.size_alloc]at hgs
      have F:Aside (w1.ownsRow 0 2 1 (.slice (some ⟨g,0,none⟩) (d.length+1) cap) (d.length+1) ((d.map (fun v=>.int .i64 v))++[.int .i64 vv])∧(∀r,r<w.heap.size→w1.heap[r]? =wr.heap[r]?)∧wr.heap.size≤w1.heap.size∧((Value.slice (some ⟨g,0,none⟩) (d.length+1) cap).ownBlock=(Value.slice oa d.length oc).ownBlock∨∃g',(Value.slice (some ⟨g,0,none⟩) (d.length+1) cap).ownBlock=some g'∧wr.heap.size≤g')):=
       ⟨hown,hold,by omega,hfr.imp id fun⟨g',h1,h2⟩=>⟨g',h1,by omega⟩⟩
      clear hown hgrow hfr hkk hkn hold hgs hnb ho hrow c0 c1 n1 n2
      go_wp2
      go_roundg f
      case measure=>omega
      case rel=>
       obtain⟨v1,v2,v3⟩:=V.out
       obtain⟨f1,f2,f3,f4⟩:=F.out
       have e1:(d++[vv]).length=d.length+1:=by simp
       refine⟨d++[vv],xx,f,some ⟨g,0,none⟩,cap,by rw[e1],rfl,by rw[e1];rfl,v1,rfl,⟨?_,by have:=v2.size;omega,fun r hr=>(f2 r hr).trans (v2.old r hr),fun g' hg=>?_⟩,fun h=>by simp at h⟩
       ·rw[e1]
        simpa using f1
       ·rw[e1]at hg
        rcases f4 with h|⟨g2,h,h2⟩
        ·exact v2.new g' (h ▸ hg)
        ·rw[h]at hg;cases hg
         have:=v2.size;omega
end
section
variable{w w':World}{B:MK}{s:KSt}
structure RNew(w wr:World)(tg:Bool)(xs ys:List Int)(nv vv:Value):Prop where
 o:wr.heap[w.heap.size]? =some (.cells #[nv,vv,.int .i64 (-1),.int .i64 0,.int .i64 0,.int .i64 0,.bool tg,.slice none 0 0] 121 (0,0))
 n:wr.ownsRow 0 2 1 nv xs.length (xs.map fun v=>.int .i64 v)
 v:wr.ownsRow 0 2 1 vv ys.length (ys.map fun v=>.int .i64 v)
 ne:∀g,nv.ownBlock=some g→vv.ownBlock≠some g
 size:w.heap.size<wr.heap.size
 old:∀r,r<w.heap.size→wr.heap[r]? =w.heap[r]?
 nn:∀g,nv.ownBlock=some g→w.heap.size≤g
 nv:∀g,vv.ownBlock=some g→w.heap.size≤g
variable{wr w1 u:World}{tg:Bool}{xs ys:List Int}{nv vv v':Value}{x:Int}
theorem RNew.heap(h:RNew w wr tg xs ys nv vv)(e:w'.heap=wr.heap):RNew w w' tg xs ys nv vv:=
 ⟨by rw[e];exact h.o,ownsRow_same2 h.n fun _ _ _=>by rw[e],ownsRow_same2 h.v fun _ _ _=>by rw[e],h.ne,by rw[e];exact h.size,fun r hr=>by rw[e];exact h.old r hr,h.nn,h.nv⟩
theorem RNew.n1(h:RNew w wr tg xs ys nv vv)(hown:w1.ownsRow 0 2 1 v' (xs.length+1) ((xs.map fun v=>.int .i64 v)++[.int .i64 x]))(hold:∀r,r<wr.heap.size→some r≠nv.ownBlock→w1.heap[r]? =wr.heap[r]?)(hsz:wr.heap.size≤w1.heap.size)
 (hfr:v'.ownBlock=nv.ownBlock∨∃g,v'.ownBlock=some g∧wr.heap.size≤g) (hu:u.heap=(w1.setCell ⟨w.heap.size,0,none⟩ v').heap):RNew w u tg (xs++[x]) ys v' vv:=by
 have hs:=h.size
 have hne:some w.heap.size≠nv.ownBlock:=own_type h.n h.o (by decide)
 have ho1:=(hold _ h.size hne).trans h.o
 have hvb:∀g,vv.ownBlock=some g→g<wr.heap.size:=fun g hg=>by
  obtain⟨c,hc⟩:=own_row_ty h.v hg
  exact(alt hc)
 have hvt:v'.ownBlock≠some w.heap.size:=by
  rcases hfr with e|⟨g,e,hg⟩
  ·rw[e];exact fun h=>hne h.symm
  ·rw[e];intro h;cases h;omega
 have hou:∀r,r≠w.heap.size→u.heap[r]? =w1.heap[r]?:=fun r hr=>by rw[hu,heap_setCell_ne _ _ _ hr]
 refine⟨?_,?_,?_,fun g hg=>?_,by rw[hu,World.size_setCell];omega,fun r hr=>?_,fun g hg=>?_,h.nv⟩
 ·rw[hu,heap_set_eq ho1];rfl
 ·rw[List.length_append,List.map_append]
  exact ownsRow_same2 hown fun b hb _=>hou b fun e=>hvt (e ▸ hb)
 ·exact ownsRow_same2 h.v fun b hb _=>by
   obtain⟨c,hc⟩:=own_row_ty h.v hb
   exact(hou b (heap_ty hc h.o (by decide))).trans (hold b (hvb b hb) fun e=>h.ne b e.symm hb)
 ·intro hgv
  rcases hfr with e|⟨g',e,hg'⟩
  ·exact h.ne g (e ▸ hg) hgv
  ·rw[e]at hg;cases hg
   have:=hvb _ hgv;omega
 ·refine(hou r (by omega)).trans ((hold r (by omega) fun e=>?_).trans (h.old r hr))
  have:=h.nn r e.symm;omega
 ·rcases hfr with e|⟨g',e,hg'⟩
  ·exact h.nn g (e ▸ hg)
  ·rw[e]at hg;cases hg;omega
theorem RNew.v1(h:RNew w wr tg xs ys nv vv)(hown:w1.ownsRow 0 2 1 v' (ys.length+1) ((ys.map fun v=>.int .i64 v)++[.int .i64 x]))(hold:∀r,r<wr.heap.size→some r≠vv.ownBlock→w1.heap[r]? =wr.heap[r]?)(hsz:wr.heap.size≤w1.heap.size)
 (hfr:v'.ownBlock=vv.ownBlock∨∃g,v'.ownBlock=some g∧wr.heap.size≤g) (hu:u.heap=(w1.setCell ⟨w.heap.size,1,none⟩ v').heap):RNew w u tg xs (ys++[x]) nv v':=by
 have hs:=h.size
 have hne:some w.heap.size≠vv.ownBlock:=own_type h.v h.o (by decide)
 have ho1:=(hold _ h.size hne).trans h.o
 have hvb:∀g,nv.ownBlock=some g→g<wr.heap.size:=fun g hg=>by
  obtain⟨c,hc⟩:=own_row_ty h.n hg
  exact(alt hc)
 have hvt:v'.ownBlock≠some w.heap.size:=by
  rcases hfr with e|⟨g,e,hg⟩
  ·rw[e];exact fun h=>hne h.symm
  ·rw[e];intro h;cases h;omega
 have hou:∀r,r≠w.heap.size→u.heap[r]? =w1.heap[r]?:=fun r hr=>by rw[hu,heap_setCell_ne _ _ _ hr]
 refine⟨?_,?_,?_,fun g hg=>?_,by rw[hu,World.size_setCell];omega,fun r hr=>?_,h.nn,fun g hg=>?_⟩
 ·rw[hu,heap_set_eq ho1];rfl
 ·exact ownsRow_same2 h.n fun b hb _=>by
   obtain⟨c,hc⟩:=own_row_ty h.n hb
   exact(hou b (heap_ty hc h.o (by decide))).trans (hold b (hvb b hb) fun e=>h.ne b hb e.symm)
 ·rw[List.length_append,List.map_append]
  exact ownsRow_same2 hown fun b hb _=>hou b fun e=>hvt (e ▸ hb)
 ·intro hgv
  rcases hfr with e|⟨g',e,hg'⟩
  ·exact h.ne g hg (e ▸ hgv)
  ·rw[e]at hgv;cases hgv
   have:=hvb _ hg;omega
 ·refine(hou r (by omega)).trans ((hold r (by omega) fun e=>?_).trans (h.old r hr))
  have:=h.nv r e.symm;omega
 ·rcases hfr with e|⟨g',e,hg'⟩
  ·exact h.nv g (e ▸ hg)
  ·rw[e]at hg;cases hg;omega
def upN(n:Nat):List Int:=(List.range n).map fun i=>((i+1:Nat):Int)
theorem upN_succ(n:Nat):upN (n+1)=upN n++[((n+1:Nat):Int)]:=by simp[upN,List.range_succ]
theorem upN_len(n:Nat):(upN n).length=n:=by simp[upN]
theorem knew_nx{n:Nat}(tg:Bool):(knew (n+1) tg).nx=(upN (n+1)).set n (-1):=by
 apply List.ext_getElem?
 intro i
 simp only[knew,upN,List.getElem?_map,List.getElem?_set,List.length_map,List.length_range]
 rcases Nat.lt_or_ge i (n+1)with h|h
 ·rw[List.getElem?_range h]
  by_cases e:n=i
  ·subst e;simp
  ·simp only[Option.map_some,if_neg e,if_neg (show ¬i+1=n+1 by omega)]
 ·rw[List.getElem?_eq_none (by simpa using h)]
  rw[if_neg (by omega)]
  rfl
theorem row_is{l:List Int}{v:Value}(h:w.ownsRow 0 2 1 v (l.length) (l.map fun v=>.int .i64 v))(hl:0<l.length):∃b cap c,v= .slice (some ⟨b,0,none⟩) l.length cap∧w.heap[b]? =some (.cells c 2 (0,0))∧∀(i:Nat) (x:Int),l[i]? =some x→c[i]? =some (.int .i64 x):=by
 rcases h.2 with⟨_,h0⟩|⟨b,cap,cur,rfl,_,h3,h4,h5,h6,h7⟩
 ·omega
 ·refine⟨b,cap,cur,rfl,h3,fun i x hx=>?_⟩
  have hi:=(List.getElem?_eq_some_iff.1 hx).1
  have e:(l.map fun v=>Value.int .i64 v)[i]? =some (.int .i64 x):=by simp[hx]
  rw[← h7,List.getElem?_take_of_lt (by omega)]at e
  simpa using e
structure NewK(w w':World)(B:MK)(s:KSt):Prop where
 m:MAt w' B s
 thr:B.thr= .slice none 0 0
 size:w.heap.size≤w'.heap.size
 old:∀r,r<w.heap.size→w'.heap[r]? =w.heap[r]?
 nm:w.heap.size≤B.mb
 nn:w.heap.size≤B.nb
 nv:w.heap.size≤B.vb
theorem RNew.done{n:Nat}(h:RNew w wr tg (upN (n+1)) (List.replicate (n+1) 0) nv vv):∃nb cn vb cv,nv= .slice (some ⟨nb,0,none⟩) (n+1) cn∧vv= .slice (some ⟨vb,0,none⟩) (n+1) cv∧(∃c,wr.heap[nb]? =some (.cells c 2 (0,0))∧n<c.size)∧nb≠w.heap.size∧
 ∀u:World,u.heap=(wr.setCell ⟨nb,n,none⟩ (.int .i64 (-1))).heap→NewK w u ⟨w.heap.size,nb,vb,cn,cv,.slice none 0 0⟩ (knew (n+1) tg):=by
 obtain⟨nb,cn,c,rfl,h1,h2⟩:=row_is h.n (by rw[upN_len];omega)
 obtain⟨vb,cv,d,rfl,h3,h4⟩:=row_is h.v (by simp)
 have hne:nb≠vb:=fun e=>h.ne nb rfl (by rw[e];rfl)
 have hnm:nb≠w.heap.size:=heap_ty h1 h.o (by decide)
 have hnn:=h.nn nb rfl
 have hsz:=h.size
 have hcs:n<c.size:=by
  have:=h2 n _ (List.getElem?_eq_getElem (by rw[upN_len];omega))
  exact(alt this)
 refine⟨nb,cn,vb,cv,by rw[upN_len],by simp,⟨c,h1,hcs⟩,hnm,fun u hu=>⟨⟨?_,?_,?_,hne⟩,rfl,?_,fun r hr=>?_,Nat.le_refl _,hnn,h.nv vb rfl⟩⟩
 ·rw[hu,heap_setCell_ne _ _ _ (Ne.symm hnm),h.o]
  simp[knew,upN_len]
 ·refine⟨_,by rw[hu];exact heap_set_eq h1,?_⟩
  rw[knew_nx]
  exact row_set h2 (by rw[upN_len];omega)
 ·refine⟨d,by rw[hu,heap_setCell_ne _ _ _ (Ne.symm hne)];exact h3,?_⟩
  simpa [knew]using h4
 ·rw[hu,World.size_setCell];omega
 ·rw[hu,heap_setCell_ne _ _ _ (show r≠nb by omega)];exact h.old r hr
end
section
variable{w w':World}{B:MK}{s:KSt}{tg:Bool}
theorem b119:Try.prog.built 119 [(0,.int .i64 (-1))]=some #[.int .i64 (-1),.int .i64 0]:=by kernel_rfl
theorem b121(tg:Bool):Try.prog.built 121 [(4,.bool tg),(2,.agg #[.int .i64 (-1),.int .i64 0])]=some #[.slice none 0 0,.slice none 0 0,.int .i64 (-1),.int .i64 0,.int .i64 0,.int .i64 0,.bool tg,.slice none 0 0]:=by kernel_rfl
@[go_sem] theorem run_b119(w:World):(Instr.build 119 #[(0,.int .i64 (-1))]).run Try.prog w= .ok (.agg #[.int .i64 (-1),.int .i64 0]) w:=run_build w _ _ _ b119
@[go_sem] theorem run_b121(w:World)(tg:Bool):(Instr.build 121 #[(4,.bool tg),(2,.agg #[.int .i64 (-1),.int .i64 0])]).run Try.prog w= .ok (.agg #[.slice none 0 0,.slice none 0 0,.int .i64 (-1),.int .i64 0,.int .i64 0,.int .i64 0,.bool tg,.slice none 0 0]) w:=run_build w _ _ _ (b121 tg)
theorem rnew_calls{size:Int}{n:Nat}(hn:min (max size 1) 65536=((n+1:Nat):Int))(tg:Bool):
 Calls Try.prog 66 #[.int .i64 size,.bool tg] w fun x w'=>∃B,x= .returned (.pointer (some ⟨B.mb,0,none⟩))∧NewK w w' B (knew (n+1) tg):=by
 obtain⟨i0,z0,hi,hz0,hz1,hz2,hz3⟩:=infoA2
 have H:Aside (∀u,Calls Try.prog 91 #[.int .i64 size,.int .i64 1,.int .i64 65536] u fun e w'=>e= .returned (.int .i64 ((n+1:Nat):Int))∧w'=u):=fun u=>held_calls (by omega) hn
 have hn2:n+1≤65536:=by omega
 clear hn
 go_enter Try.func66,Try.ntmps66
 go_wp2_with (go_at_call 91;refine(H.out _).mono ?_;rintro e w ⟨rfl,rfl⟩)
 go_loopg [7] (n+1) (fun g x wr=>∃(k:Nat) (na va:Option Addr) (nc vc:Nat),x= .int .i64 k∧k≤n+1∧g=n+1 - k∧RNew w wr tg (upN k) (List.replicate k 0) (.slice na k nc) (.slice va k vc))
 case atStart=>exact⟨0,none,none,0,0,rfl,Nat.zero_le _,rfl,⟨heap_alloc_new _ _,⟨rfl,.inl ⟨rfl,rfl⟩⟩,⟨rfl,.inl ⟨rfl,rfl⟩⟩,fun g h=>(by cases h),by simp,fun r hr=>heap_alloc_lt _ _ hr,fun g h=>(by cases h),fun g h=>(by cases h)⟩⟩
 case round=>
  obtain⟨k,na,va,nc,vc,rfl,hk,rfl,hN⟩:=hrel
  have N0:Aside (RNew w wr tg (upN k) (List.replicate k 0) (.slice na k nc) (.slice va k vc)):=hN
  rcases Nat.lt_or_ge k (n+1)with hlt|hge
  ·have hlt2:(k:Int)<((n+1:Nat):Int):=by omega
   have hwr:IntKind.i64.wrap ((k:Int)+1)=((k+1:Nat):Int):=IntWalk.i64_in _ (by omega)
   have f0:wr.cell? ⟨w.heap.size,0,none⟩=some (.slice na k nc):=by simp[World.cell?,hN.o]
   have f1:wr.cell? ⟨w.heap.size,1,none⟩=some (.slice va k vc):=by simp[World.cell?,hN.o]
   have y0:wr.frozen? ⟨w.heap.size,0,none⟩=false:=by simp[World.frozen?,hN.o]
   have y1:wr.frozen? ⟨w.heap.size,1,none⟩=false:=by simp[World.frozen?,hN.o]
   have hrow:=hN.n
   rw[upN_len]at hrow
   clear hN
   go_wp2_with (first
    | (at_builtin;refine wpList_append_fresh rfl (.tmp 23) (.tmp 26) 22 rfl 2 i0 z0 1 8 Try.underlying22 hi hz0 hz1 hz2 hz3 (by decide) (.slice na k nc) k ((upN k).map fun v=>.int .i64 v) rfl (hrow.alloc _) ⟨wr.heap.size,0,none⟩ 1 1 [.int .i64 ((k+1:Nat):Int)] rfl rfl (new_cells (X:=wr) (l:=[.int .i64 ((k+1:Nat):Int)]) rfl) (by intro u hu;simp at hu;subst hu;rfl) (by unfold maxLen;omega) (by omega) ?_;intro v1 w1 hown hgrow hfr;obtain⟨g1,c1,rfl⟩:=own_slice hown;have hold:∀r,r<wr.heap.size→some r≠(Value.slice na k nc).ownBlock→w1.heap[r]? =wr.heap[r]?:=fun r hr hn=>grown_old hgrow hr hn;have hk1:=hold w.heap.size N0.out.size (own_type N0.out.n N0.out.o (by decide));have k0:=(cell_heap (j:=0) hk1).1.trans f0;have k1:=(cell_heap (j:=0) hk1).2.trans y0;have q0:=(cell_heap (j:=1) hk1).1.trans f1;have q1:=(cell_heap (j:=1) hk1).2.trans y1;have N1:Aside (RNew w (w1.setCell ⟨w.heap.size,0,none⟩ (.slice (some ⟨g1,0,none⟩) (k+1) c1)) tg (upN k++[((k+1:Nat):Int)]) (List.replicate k 0) (.slice (some ⟨g1,0,none⟩) (k+1) c1) (.slice va k vc)):=N0.out.n1 (by rw[upN_len];exact hown) hold (Nat.le_trans (by simp) hgrow.size) (hfr.imp id fun⟨g',h1,h2⟩=>⟨g',h1,Nat.le_trans (by simp) h2⟩) rfl;have hrow2:World.ownsRow (w1.setCell ⟨w.heap.size,0,none⟩ (.slice (some ⟨g1,0,none⟩) (k+1) c1)) 0 2 1 (.slice va k vc) k ((List.replicate k (0:Int)).map fun v=>.int .i64 v):=(by have:=N1.out.v;rw[List.length_replicate]at this;exact this);clear hown hgrow hfr hk1 hold)
    | (at_builtin;refine wpList_append_fresh rfl (.tmp 34) (.tmp 35) 22 rfl 2 i0 z0 1 8 Try.underlying22 hi hz0 hz1 hz2 hz3 (by decide) (.slice va k vc) k ((List.replicate k (0:Int)).map fun v=>.int .i64 v) rfl (hrow2.alloc _) ⟨w1.heap.size,0,none⟩ 1 1 [.int .i64 0] rfl rfl (new_cells (X:=(w1.setCell ⟨w.heap.size,0,none⟩ (.slice (some ⟨g1,0,none⟩) (k+1) c1))) (l:=[.int .i64 0]) (by simp)) (by intro u hu;simp at hu;subst hu;rfl) (by unfold maxLen;omega) (by omega) ?_;intro v2 w2 hown hgrow hfr;obtain⟨g2,c2,rfl⟩:=own_slice hown;have hold:∀r,r<(World.heap (w1.setCell ⟨w.heap.size,0,none⟩ (.slice (some ⟨g1,0,none⟩) (k+1) c1))).size→some r≠(Value.slice va k vc).ownBlock→w2.heap[r]? =(World.heap (w1.setCell ⟨w.heap.size,0,none⟩ (.slice (some ⟨g1,0,none⟩) (k+1) c1)))[r]?:=fun r hr hn=>grown_old hgrow hr hn;have hk1:=hold w.heap.size N1.out.size (own_type N1.out.v N1.out.o (by decide));have ho2:=hk1.trans N1.out.o;have s0:w2.cell? ⟨w.heap.size,1,none⟩=some (.slice va k vc):=(by simp[World.cell?,ho2]);have s1:w2.frozen? ⟨w.heap.size,1,none⟩=false:=(by simp[World.frozen?,ho2]);have N2:Aside (RNew w (w2.setCell ⟨w.heap.size,1,none⟩ (.slice (some ⟨g2,0,none⟩) (k+1) c2)) tg (upN k++[((k+1:Nat):Int)]) (List.replicate k 0++[0]) (.slice (some ⟨g1,0,none⟩) (k+1) c1) (.slice (some ⟨g2,0,none⟩) (k+1) c2)):=N1.out.v1 (by rw[List.length_replicate];exact hown) hold (Nat.le_trans (by simp) hgrow.size) (hfr.imp id fun⟨g',h1,h2⟩=>⟨g',h1,Nat.le_trans (by simp) h2⟩) rfl;clear hown hgrow hfr hk1 hold ho2))
   go_roundg (n+1 - (k+1))
   case measure=>omega
   case rel=>
    refine⟨k+1,some ⟨g1,0,none⟩,some ⟨g2,0,none⟩,c1,c2,rfl,hlt,rfl,?_⟩
    rw[upN_succ,List.replicate_succ']
    exact N2.out
  ·obtain rfl:k=n+1:=by omega
   obtain⟨nb,cn,vb,cv,hv1,hv2,⟨c,hc,hcs⟩,hnm,hfin⟩:=hN.done
   rw[hv1,hv2]at hN
   simp only[Value.slice.injEq]at hv1 hv2
   obtain⟨rfl,_,rfl⟩:=hv1
   obtain⟨rfl,_,rfl⟩:=hv2
   have ho:=hN.o
   have f0:wr.cell? ⟨w.heap.size,0,none⟩=some (.slice (some ⟨nb,0,none⟩) (n+1) nc):=by simp[World.cell?,ho]
   have yb:wr.frozen? ⟨nb,n,none⟩=false:=by simp[World.frozen?,hc]
   have fb:wr.cell? ⟨nb,n,none⟩=some c[n]:=by simp[World.cell?,hc,hcs]
   have hge2:¬((n+1:Nat):Int)<((n+1:Nat):Int):=by omega
   have hwr:IntKind.i64.wrap (((n+1:Nat):Int) - 1)=(n:Int):=by rw[IntWalk.i64_in _ (by omega)];omega
   have hin:(n:Int)<((n+1:Nat):Int):=by omega
   have FN:Aside (∀u:World,u.heap=(wr.setCell ⟨nb,n,none⟩ (.int .i64 (-1))).heap→NewK w u ⟨w.heap.size,nb,vb,nc,vc,.slice none 0 0⟩ (knew (n+1) tg)):=hfin
   clear hN ho hc hfin
   go_wp2
   go_ret
   exact⟨⟨w.heap.size,nb,vb,nc,vc,.slice none 0 0⟩,rfl,FN.out _ rfl⟩
end
section
variable{w wr w' w1 u:World}{i k:Nat}{ops:Nat→List Op4}{la:Option Addr}{lc tb:Nat}{tbs:Nat→Nat}{opv:Nat→Value}{ov v':Value}
structure ThrNew(w wr:World)(i:Nat)(ops:Nat→List Op4)(la:Option Addr)(lc:Nat)(tbs:Nat→Nat)(opv:Nat→Value):Prop where
 l:wr.ownsRow 0 123 1 (.slice la i lc) i ((List.range i).map fun j=>.pointer (some ⟨tbs j,0,none⟩))
 t:∀j,j<i→TAt wr (tbs j) (opv j) t00 (.slice none 0 0) false
 o:∀j,j<i→wr.ownsRow 0 47 4 (opv j) (ops j).length (opsC (ops j))
 dt:∀a b,a<i→b<i→a≠b→tbs a≠tbs b
 nt:∀j,j<i→w.heap.size≤tbs j
 no:∀j g,j<i→(opv j).ownBlock=some g→w.heap.size≤g
 nl:∀g,(Value.slice la i lc).ownBlock=some g→w.heap.size≤g
 size:w.heap.size≤wr.heap.size
 old:∀r,r<w.heap.size→wr.heap[r]? =w.heap[r]?
theorem TAt.nil{tb:Nat}{op:Value}{t:RTh}{en:Bool}(h:w.heap[tb]? =some (.cells (thC op t (.slice none 0 0) en) 158 (0,0)))(ha:t.ans=[]):TAt w tb op t (.slice none 0 0) en:=⟨h,by rw[ha];exact⟨rfl,.inl ⟨rfl,rfl⟩⟩⟩
theorem ThrNew.same(h:ThrNew w wr i ops la lc tbs opv)(hs:wr.heap.size≤u.heap.size)(ho:∀r,r<w.heap.size→u.heap[r]? =wr.heap[r]?)(h1:∀j,j<i→u.heap[tbs j]? =wr.heap[tbs j]?)(h2:∀j g,j<i→(opv j).ownBlock=some g→u.heap[g]? =wr.heap[g]?)
 (h3:∀g,(Value.slice la i lc).ownBlock=some g→u.heap[g]? =wr.heap[g]?):ThrNew w u i ops la lc tbs opv:=
 ⟨ownsRow_same2 h.l fun b hb _=>h3 b hb,fun j hj=>(h.t j hj).same (h1 j hj) fun r hr=>by(cases hr),fun j hj=>ownsRow_same2 (h.o j hj) fun b hb _=>h2 j b hj hb,h.dt,h.nt,h.no,h.nl,Nat.le_trans h.size hs,fun r hr=>(ho r hr).trans (h.old r hr)⟩
structure ThI(w wr:World)(i:Nat)(ops:Nat→List Op4)(la:Option Addr)(lc:Nat)(tbs:Nat→Nat)(opv:Nat→Value)(tb:Nat)(ov:Value)(k:Nat):Prop where
 b:ThrNew w wr i ops la lc tbs opv
 t:TAt wr tb ov t00 (.slice none 0 0) false
 o:wr.ownsRow 0 47 4 ov k (opsC ((ops i).take k))
 nt:w.heap.size≤tb
 dt:∀j,j<i→tbs j≠tb
 no:∀g,ov.ownBlock=some g→w.heap.size≤g
 dv:∀j g,j<i→ov.ownBlock=some g→(opv j).ownBlock≠some g
theorem ThrNew.begin(h:ThrNew w wr i ops la lc tbs opv)(hu:u.heap=(wr.alloc (.cells (thC (.slice none 0 0) t00 (.slice none 0 0) false) 158)).heap):ThI w u i ops la lc tbs opv wr.heap.size (.slice none 0 0) 0:=by
 have ho:∀r,r<wr.heap.size→u.heap[r]? =wr.heap[r]?:=fun r hr=>by rw[hu];exact heap_alloc_lt _ _ hr
 have hsz:=h.size
 refine⟨h.same (by rw[hu];simp) (fun r hr=>ho r (by omega)) (fun j hj=>ho _ (h.t j hj).lt) (fun j g hj hg=>?_) (fun g hg=>?_),TAt.nil (by rw[hu];exact heap_alloc_new _ _) rfl,⟨rfl,.inl ⟨rfl,rfl⟩⟩,hsz,fun j hj=>by have:=(h.t j hj).lt;omega,fun g hg=>(by cases hg),fun j g hj hg=>(by cases hg)⟩
 ·obtain⟨c,hc⟩:=own_row_ty (h.o j hj) hg
  exact ho _ (alt hc)
 ·obtain⟨c,hc⟩:=own_row_ty h.l hg
  exact ho _ (alt hc)
theorem take_op{l:List Op4}{k:Nat}{x:Op4}(h:l[k]? =some x):l.take (k+1)=l.take k++[x]:=by
 rw[List.take_add_one,h];rfl
theorem ThI.more(h:ThI w wr i ops la lc tbs opv tb ov k){x:Op4}(hx:(ops i)[k]? =some x)(hown:w1.ownsRow 0 47 4 v' (k+1) (opsC ((ops i).take k)++[.int .i64 x.kd,.int .i64 x.a,.int .i64 x.b,.int .i64 x.c]))(hold:∀r,r<wr.heap.size→some r≠ov.ownBlock→w1.heap[r]? =wr.heap[r]?)(hsz:wr.heap.size≤w1.heap.size)
 (hfr:v'.ownBlock=ov.ownBlock∨∃g,v'.ownBlock=some g∧wr.heap.size≤g) (hu:u.heap=(w1.setCell ⟨tb,0,none⟩ v').heap):ThI w u i ops la lc tbs opv tb v' (k+1):=by
 obtain⟨hb,ht,ho,hnt,hdt,hno,hdv⟩:=h
 have hne:some tb≠ov.ownBlock:=own_type ho ht.o (by decide)
 have ht1:=(hold tb ht.lt hne).trans ht.o
 have hvt:v'.ownBlock≠some tb:=by
  have:=ht.lt
  rcases hfr with e|⟨g,e,hg⟩
  ·rw[e];exact fun h=>hne h.symm
  ·rw[e];intro h;cases h;omega
 have hou:∀r,r≠tb→u.heap[r]? =w1.heap[r]?:=fun r hr=>by rw[hu,heap_setCell_ne _ _ _ hr]
 have hall:∀r,r<wr.heap.size→r≠tb→some r≠ov.ownBlock→u.heap[r]? =wr.heap[r]?:=fun r h1 h2 h3=>(hou r h2).trans (hold r h1 h3)
 have hs:=hb.size
 have hlto:∀j g,j<i→(opv j).ownBlock=some g→g<wr.heap.size:=fun j g hj hg=>by
  obtain⟨c,hc⟩:=own_row_ty (hb.o j hj) hg
  exact(alt hc)
 refine⟨hb.same (by rw[hu,World.size_setCell];exact hsz) (fun r hr=>hall r (by omega) (by omega) fun e=>by have:=hno r e.symm;omega) (fun j hj=>hall _ (hb.t j hj).lt (hdt j hj) (own_type ho (hb.t j hj).o (by decide))) (fun j g hj hg=>?_) (fun g hg=>?_),⟨?_,⟨rfl,.inl ⟨rfl,rfl⟩⟩⟩,?_,hnt,hdt,fun g hg=>?_,fun j g hj hg=>?_⟩
 ·obtain⟨c,hc⟩:=own_row_ty (hb.o j hj) hg
  exact hall g (hlto j g hj hg) (heap_ty hc ht.o (by decide)) fun e=>hdv j g hj e.symm hg
 ·obtain⟨c,hc⟩:=own_row_ty hb.l hg
  exact hall g (alt hc) (heap_ty hc ht.o (by decide)) (own_type ho hc (by decide))
 ·rw[hu,heap_set_eq ht1];rfl
 ·rw[take_op hx,opsC_app]
  exact ownsRow_same2 hown fun b hb _=>hou b fun e=>hvt (e ▸ hb)
 ·rcases hfr with e|⟨g',e,hg'⟩
  ·exact hno g (e ▸ hg)
  ·rw[e]at hg;cases hg;omega
 ·rcases hfr with e|⟨g',e,hg'⟩
  ·exact hdv j g hj (e ▸ hg)
  ·rw[e]at hg;cases hg
   intro h;have:=hlto j _ hj h;omega
theorem ThI.done(h:ThI w wr i ops la lc tbs opv tb ov (ops i).length)(hown:w1.ownsRow 0 123 1 v' (i+1) (((List.range i).map fun j=>.pointer (some ⟨tbs j,0,none⟩))++[.pointer (some ⟨tb,0,none⟩)]))(hold:∀r,r<wr.heap.size→some r≠(Value.slice la i lc).ownBlock→w1.heap[r]? =wr.heap[r]?)(hsz:wr.heap.size≤w1.heap.size)
 (hfr:v'.ownBlock=(Value.slice la i lc).ownBlock∨∃g,v'.ownBlock=some g∧wr.heap.size≤g) (hu:u.heap=w1.heap):∃la' lc',v'= .slice la' (i+1) lc'∧ThrNew w u (i+1) ops la' lc' (updN tbs i tb) (updN opv i ov):=by
 obtain⟨hb,ht,ho,hnt,hdt,hno,hdv⟩:=h
 obtain⟨g,cap,rfl⟩:=own_slice hown
 have hs:=hb.size
 have hall:∀(r:Nat) (c:Array Value) (e:TypeId) (z:Nat×Nat),wr.heap[r]? =some (.cells c e z)→e≠123→u.heap[r]? =wr.heap[r]?:=fun r c e z hr he=>by
  rw[hu];exact hold r (alt hr) (own_type hb.l hr fun h=>he h.symm)
 refine⟨some ⟨g,0,none⟩,cap,rfl,⟨?_,fun j hj=>?_,fun j hj=>?_,fun a b ha hb' hab=>?_,fun j hj=>?_,fun j g' hj hg=>?_,fun g' hg=>?_,by rw[hu];omega,fun r hr=>?_⟩⟩
 ·have e1:((List.range (i+1)).map fun j=>Value.pointer (some ⟨updN tbs i tb j,0,none⟩))=((List.range i).map fun j=>.pointer (some ⟨tbs j,0,none⟩))++[.pointer (some ⟨tb,0,none⟩)]:=by
   rw[List.range_succ,List.map_append]
   congr 1
   ·exact List.map_congr_left fun j hj=>by rw[updN_ne _ _ (by have:=List.mem_range.1 hj;omega)]
   ·simp[updN_eq]
  rw[e1]
  exact ownsRow_same2 hown fun _ _ _=>by rw[hu]
 ·by_cases e:j=i
  ·subst e
   rw[updN_eq,updN_eq]
   exact ht.same (hall _ _ _ _ ht.o (by decide)) fun r hr=>(by cases hr)
  ·rw[updN_ne _ _ e,updN_ne _ _ e]
   exact(hb.t j (by omega)).same (hall _ _ _ _ (hb.t j (by omega)).o (by decide)) fun r hr=>(by cases hr)
 ·by_cases e:j=i
  ·subst e
   rw[updN_eq]
   rw[List.take_length]at ho
   exact ownsRow_same2 ho fun b hb _=>by
    obtain⟨c,hc⟩:=own_row_ty ho hb
    exact hall _ _ _ _ hc (by decide)
  ·rw[updN_ne _ _ e]
   exact ownsRow_same2 (hb.o j (by omega)) fun b hb' _=>by
    obtain⟨c,hc⟩:=own_row_ty (hb.o j (by omega)) hb'
    exact hall _ _ _ _ hc (by decide)
 ·by_cases ea:a=i
  ·have eb:b≠i:=fun e=>hab (ea.trans e.symm)
   rw[ea,updN_eq,updN_ne _ _ eb]
   exact(hdt b (by omega)).symm
  ·rw[updN_ne _ _ ea]
   by_cases eb:b=i
   ·rw[eb,updN_eq];exact hdt a (by omega)
   ·rw[updN_ne _ _ eb];exact hb.dt a b (by omega) (by omega) hab
 ·by_cases e:j=i
  ·rw[e,updN_eq];exact hnt
  ·rw[updN_ne _ _ e];exact hb.nt j (by omega)
 ·by_cases e:j=i
  ·rw[e,updN_eq]at hg;exact hno g' hg
  ·rw[updN_ne _ _ e]at hg;exact hb.no j g' (by omega) hg
 ·rcases hfr with e|⟨g2,e,h2⟩
  ·exact hb.nl g' (e ▸ hg)
  ·rw[e]at hg;cases hg;omega
 ·rw[hu]
  refine(hold r (by omega) fun e=>?_).trans (hb.old r hr)
  have:=hb.nl r e.symm;omega
theorem b158:Try.prog.built 158 []=some (thC (.slice none 0 0) t00 (.slice none 0 0) false):=by kernel_rfl
@[go_sem] theorem run_b158(w:World):(Instr.build 158 #[]).run Try.prog w= .ok (.agg (thC (.slice none 0 0) t00 (.slice none 0 0) false)) w:=run_build w _ _ _ b158
theorem infoA123:∃i z,Try.prog.info? 123=some i∧i.zero=some z∧i.size=1∧i.bytes=8∧z.cells.size=1:=infoOf (by kernel_rfl)
theorem infoA47:∃i z,Try.prog.info? 47=some i∧i.zero=some z∧i.size=4∧i.bytes=32∧z.cells.size=4:=infoOf (by kernel_rfl)
theorem threads_calls{N:Nat→Prop}{n b0 o tl tc:Nat}{ta sa:Option Addr}{oa:Nat→Option Addr}{ol oc:Nat→Nat}{S:List Int}(hI:OpsIn w N n b0 o tl ta oa ol oc ops S sa)(htl:tl<1000000000000):
 Calls Try.prog 67 #[.slice ta tl tc] w fun x w'=>∃la lc tbs opv,x= .returned (.slice la n lc)∧ThrNew w w' n ops la lc tbs opv:=by
 obtain⟨i0,z0,hi,hz0,hz1,hz2,hz3⟩:=infoA123
 obtain⟨j0,y0,hj,hy0,hy1,hy2,hy3⟩:=infoA47
 have A:Aside (OpsIn w N n b0 o tl ta oa ol oc ops S sa):=hI
 have hn:=hI.hn
 clear hI
 go_enter Try.func67,Try.ntmps67
 go_wp2
 go_loopg [3,4] n (fun g l x wr=>∃i la lc tbs opv,l= .slice la i lc∧x= .int .i64 (i:Nat)∧i≤n∧g=n - i∧ThrNew w wr i ops la lc tbs opv)
 case atStart=>exact⟨0,none,0,fun _=>0,fun _=>.slice none 0 0,rfl,rfl,Nat.zero_le _,rfl,⟨⟨rfl,.inl ⟨rfl,rfl⟩⟩,fun j h=>by omega,fun j h=>by omega,fun a b h=>by omega,fun j h=>by omega,fun j g h=>by omega,fun g h=>(by cases h),Nat.le_refl _,fun r _=>rfl⟩⟩
 case round=>
  obtain⟨i,la,lc,tbs,opv,rfl,rfl,hin,rfl,hT⟩:=hrel
  have T0:Aside (ThrNew w wr i ops la lc tbs opv):=hT
  clear hT
  rcases Nat.lt_or_ge i n with hlt|hge
  ·have h1:(i:Int)<(tl:Int):=by omega
   have h2:(i:Int)<64:=by omega
   obtain⟨rfl⟩:=A.out.hta (by omega)
   obtain⟨g1,g2,g3⟩:=A.out.hth i hlt
   have hlen:=A.out.hlen i hlt
   go_wp2
   have I0:Aside (ThI w (wr.alloc (.cells (thC (.slice none 0 0) t00 (.slice none 0 0) false) 158)) i ops la lc tbs opv wr.heap.size (.slice none 0 0) 0):=T0.out.begin rfl
   generalize hX:wr.alloc (.cells (thC (.slice none 0 0) t00 (.slice none 0 0) false) 158)=X at I0
   generalize hx0:wr.heap.size=tb at I0 ⊢
   go_loopg [6] (ops i).length (fun g x wx=>∃(k:Nat) (ov:Value),x= .int .i64 (k:Nat)∧k≤(ops i).length∧g=(ops i).length - k∧ThI w wx i ops la lc tbs opv tb ov k)
   case atStart=>exact⟨0,_,rfl,Nat.zero_le _,rfl,by first|exact I0.out|(subst hX;exact I0.out)⟩
   case round=>
    obtain⟨k,ov,rfl,hk,rfl,hT⟩:=hrel
    have T1:Aside (ThI w wr i ops la lc tbs opv tb ov k):=hT
    have hT1:=hT.b.old
    have hcell:∀{a:Addr} {v:Value},w.cell? a=some v→wr.cell? a=some v:=fun{a v} h=>by
     obtain⟨c,e,z,hb⟩:=cell_block h
     have e1:=hT1 _ (alt hb)
     rw[← h];unfold World.cell?;simp only[e1]
    have f1:=hcell g1
    clear hT hT1 hX
    rcases Nat.lt_or_ge k (ops i).length with hkl|hkl
    ·have h3:(k:Int)<(ol i:Int):=by omega
     have h4:(k:Int)<65536:=by omega
     obtain⟨x,hx⟩:∃x,(ops i)[k]? =some x:=⟨_,List.getElem?_eq_getElem hkl⟩
     obtain⟨opb,oo,e1,_,p0,p1,p2,p3,_⟩:=A.out.hop i hlt k x hx
     rw[e1]at f1
     have p0:=hcell p0
     have p1:=hcell p1
     have p2:=hcell p2
     have p3:=hcell p3
     have X1:Aside ((ops i)[k]? =some x):=hx
     have q0:wr.cell? ⟨tb,0,none⟩=some ov:=T1.out.t.fx.c0
     have y0':wr.frozen? ⟨tb,0,none⟩=false:=T1.out.t.fx.z 0
     have r0:=(cellB_alloc q0 (.cells #[.int .i64 x.kd,.int .i64 x.a,.int .i64 x.b,.int .i64 x.c] 47)).1
     have hrow:=T1.out.o
     have htl:=T1.out.t.lt
     have hwr:IntKind.i64.wrap ((k:Int)+1)=((k+1:Nat):Int):=IntWalk.i64_in _ (by omega)
     clear hcell hx
     go_wp2
     go_region_law (refine step_append_fresh rfl (.tmp 36) (.tmp 44) 34 rfl 47 j0 y0 4 32 Try.underlying34 hj hy0 hy1 hy2 hy3 (by decide) ov k (opsC ((ops i).take k)) (by simp[Act.eval,Act.put]) ((show wr.drew.ownsRow 0 47 4 _ _ _ from hrow).alloc _) ⟨wr.heap.size,0,none⟩ 1 1 [.int .i64 x.kd,.int .i64 x.a,.int .i64 x.b,.int .i64 x.c] (by simp[Act.eval,Act.put]) rfl (new_cells (X:=wr.drew) (l:=[.int .i64 x.kd,.int .i64 x.a,.int .i64 x.b,.int .i64 x.c]) rfl) (by intro u hu;simp at hu;rcases hu with rfl|rfl|rfl|rfl<;>rfl) (by unfold maxLen;omega) (by omega) ?_;intro v' w1 hown hgrow hfr;obtain⟨vg,vcap,rfl⟩:=own_slice hown;have hk1:=grown_old (W:=wr.drew) hgrow (r:=tb) htl (own_type hrow T1.out.t.o (by decide));have k0:=(cell_heap (j:=0) hk1).1.trans q0;have k1:=(cell_heap (j:=0) hk1).2.trans y0';have F:Aside (w1.ownsRow 0 47 4 (Value.slice (some ⟨vg,0,none⟩) (k+1) vcap) (k+1) (opsC ((ops i).take k)++[.int .i64 x.kd,.int .i64 x.a,.int .i64 x.b,.int .i64 x.c])∧(∀r,r<wr.heap.size→some r≠ov.ownBlock→w1.heap[r]? =wr.heap[r]?)∧wr.heap.size≤w1.heap.size∧((Value.slice (some ⟨vg,0,none⟩) (k+1) vcap).ownBlock=ov.ownBlock∨∃g',(Value.slice (some ⟨vg,0,none⟩) (k+1) vcap).ownBlock=some g'∧wr.heap.size≤g')):=⟨hown,fun r hr hn=>grown_old (W:=wr.drew) hgrow hr hn,Nat.le_trans (by simp[World.drew]) hgrow.size,hfr.imp id fun⟨g',h1,h2⟩=>⟨g',h1,Nat.le_trans (by simp[World.drew]) h2⟩⟩;clear hown hgrow hfr hk1)
     all_goals go_wp2
     all_goals(
      go_roundg ((ops i).length - (k+1))
      case measure=>omega
      case rel=>exact⟨k+1,_,rfl,hkl,rfl,T1.out.more X1.out F.out.1 F.out.2.1 F.out.2.2.1 F.out.2.2.2 rfl⟩)
    ·obtain rfl:k=(ops i).length:=by omega
     have hwr:IntKind.i64.wrap ((i:Int)+1)=((i+1:Nat):Int):=IntWalk.i64_in _ (by omega)
     have hrow:=T1.out.b.l
     clear hcell
     have cs:¬((ops i).length:Int)<(ol i:Int)∨(((ops i).length:Int)<(ol i:Int)∧¬((ops i).length:Int)<65536):=by omega
     obtain⟨gl,hgl⟩:∃gl,gl=(ops i).length:=⟨_,rfl⟩
     rw[← hgl]at cs ⊢
     clear hlen hgl
     rcases cs with c1|⟨c1,c2⟩
     all_goals(
      go_wp2_with (at_builtin;refine wpList_append_fresh rfl (.tmp 48) (.tmp 50) 116 rfl 123 i0 z0 1 8 Try.underlying116 hi hz0 hz1 hz2 hz3 (by decide) (.slice la i lc) i ((List.range i).map fun j=>.pointer (some ⟨tbs j,0,none⟩)) rfl (hrow.alloc _) ⟨wr.heap.size,0,none⟩ 1 1 [.pointer (some ⟨tb,0,none⟩)] rfl rfl (new_cells (X:=wr) (l:=[.pointer (some ⟨tb,0,none⟩)]) rfl) (by intro u hu;simp at hu;subst hu;rfl) (by unfold maxLen;omega) (by omega) ?_;intro v' w1 hown hgrow hfr;obtain⟨la',lc',hv,hD⟩:=T1.out.done hown (fun r hr hn=>grown_old hgrow hr hn) (Nat.le_trans (by simp) hgrow.size) (hfr.imp id fun⟨g',h1,h2⟩=>⟨g',h1,Nat.le_trans (by simp) h2⟩) (u:=w1) rfl;subst hv;have D:Aside (ThrNew w w1 (i+1) ops la' lc' (updN tbs i tb) (updN opv i ov)):=hD;clear hown hgrow hfr hD)
      go_roundg (n - (i+1))
      case measure=>omega
      case rel=>exact⟨i+1,la',lc',_,_,rfl,rfl,hlt,rfl,D.out⟩)
  ·obtain rfl:i=n:=by omega
   have cs:¬(i:Int)<(tl:Int)∨((i:Int)<(tl:Int)∧¬(i:Int)<64):=by omega
   rcases cs with c1|⟨c1,c2⟩
   all_goals(
    go_wp2
    go_ret
    first|exact⟨la,lc,tbs,opv,rfl,T0.out⟩|exact⟨la,lc,rfl,tbs,opv,T0.out⟩)
end
section
variable{w w':World}
def NTOut(w:World)(S:List Int)(M:Nat)(x:Ending)(w':World):Prop:=
 ∃ub la lc,x= .returned (.pointer (some ⟨ub,0,none⟩))∧TurnMem w' ub la S.length lc M 0 0 (.slice none 0 0) []∧w'.ownsRow 0 3 1 (.slice la S.length lc) S.length (S.map fun i:Int=>Value.int .i64 i)∧
  w.heap.size≤ub∧(∀g,(Value.slice la S.length lc).ownBlock=some g→w.heap.size≤g)∧(∀r,r<w.heap.size→w'.heap[r]? =w.heap[r]?)∧w.heap.size≤w'.heap.size
theorem b162(m:Int):Try.prog.built 162 [(3,.int .i64 m)]=some #[.slice none 0 0,.int .i64 0,.int .i64 0,.int .i64 m,.slice none 0 0,.bool false]:=by kernel_rfl
@[go_sem] theorem run_b162(w:World)(m:Int):(Instr.build 162 #[(3,.int .i64 m)]).run Try.prog w= .ok (.agg #[.slice none 0 0,.int .i64 0,.int .i64 0,.int .i64 m,.slice none 0 0,.bool false]) w:=run_build w _ _ _ (b162 m)
theorem newturn_nil{sa:Option Addr}{sc M:Nat}{mo:Int}(hM:min (max mo 0) 1048576=(M:Int)):Calls Try.prog 69 #[.slice sa 0 sc,.int .i64 mo] w fun x w'=>NTOut w [] M x w':=by
 have hap:Sem.run Try.prog (pure (#[]:Array Value)) w= .ok #[] w:=rfl
 have hap2:Sem.run Try.prog (Sem.pure (#[]:Array Value)) w= .ok #[] w:=rfl
 have key:∀(u:World) (m:Int),u.heap[w.heap.size]? =some (.cells #[.slice none 0 0,.int .i64 0,.int .i64 0,.int .i64 m,.slice none 0 0,.bool false] 162 (0,0))→m=M→w.heap.size<u.heap.size→(∀r,r<w.heap.size→u.heap[r]? =w.heap[r]?)→NTOut w [] M (.returned (.pointer (some ⟨w.heap.size,0,none⟩))) u:=fun u m h1 h2 h3 h4=>by
  subst h2
  exact⟨w.heap.size,none,0,rfl,⟨h1,⟨rfl,.inl ⟨rfl,rfl⟩⟩⟩,⟨rfl,.inl ⟨rfl,rfl⟩⟩,Nat.le_refl _,fun g h=>(by cases h),h4,Nat.le_of_lt h3⟩
 have K:Aside (∀(u:World) (m:Int),u.heap[w.heap.size]? =some (.cells #[.slice none 0 0,.int .i64 0,.int .i64 0,.int .i64 m,.slice none 0 0,.bool false] 162 (0,0))→m=M→w.heap.size<u.heap.size→(∀r,r<w.heap.size→u.heap[r]? =w.heap[r]?)→NTOut w [] M (.returned (.pointer (some ⟨w.heap.size,0,none⟩))) u):=key
 clear key
 have cs:mo<0∨(¬mo<0∧(1048576:Int)<mo)∨(¬mo<0∧¬(1048576:Int)<mo):=by omega
 rcases cs with c1|⟨c1,c2⟩|⟨c1,c2⟩
 all_goals rcases sa with _|ad
 all_goals(
  go_enter Try.func69,Try.ntmps69
  go_wp2
  try (simp only[hap,hap2,Result.andThen_ok];go_wp2)
  go_ret
  first
   | exact K.out _ _ (heap_alloc_new _ _) (by omega) (by simp) (fun r hr=>heap_alloc_lt _ _ hr)
   | exact K.out _ 0 ((heap_set_eq (heap_alloc_new _ _)).trans rfl) (by omega) (by simp) (fun r hr=>by rw[heap_setCell_ne _ _ _ (show r≠w.heap.size by omega)];exact heap_alloc_lt _ _ hr)
   | exact K.out _ 1048576 ((heap_set_eq (heap_alloc_new _ _)).trans rfl) (by omega) (by simp) (fun r hr=>by rw[heap_setCell_ne _ _ _ (show r≠w.heap.size by omega)];exact heap_alloc_lt _ _ hr))
theorem newturn_some{S:List Int}{ad:Addr}{sc M:Nat}{mo:Int}(hM:min (max mo 0) 1048576=(M:Int))(hl:S.length<10000000)(h0:0<S.length)(hS:∀j u,(S.map fun i:Int=>Value.int .i64 i)[j]? =some u→w.cell? (ad.add j)=some u):
 Calls Try.prog 69 #[.slice (some ad) S.length sc,.int .i64 mo] w fun x w'=>NTOut w S M x w':=by
 obtain⟨i0,z0,hi,hz0,hz1,hz2,hz3⟩:=infoA3
 have key:∀(g cap:Nat) (u:World) (m:Int),u.heap[w.heap.size]? =some (.cells #[.slice (some ⟨g,0,none⟩) S.length cap,.int .i64 0,.int .i64 0,.int .i64 m,.slice none 0 0,.bool false] 162 (0,0))→m=M→w.heap.size<u.heap.size→(∀r,r<w.heap.size→u.heap[r]? =w.heap[r]?)→u.ownsRow 0 3 1 (.slice (some ⟨g,0,none⟩) S.length cap) S.length (S.map fun i:Int=>Value.int .i64 i)→w.heap.size≤g→NTOut w S M (.returned (.pointer (some ⟨w.heap.size,0,none⟩))) u:=fun g cap u m h1 h2 h3 h4 h5 h6=>by
  subst h2
  exact⟨w.heap.size,some ⟨g,0,none⟩,cap,rfl,⟨h1,⟨rfl,.inl ⟨rfl,rfl⟩⟩⟩,h5,Nat.le_refl _,fun g' h=>(by simp only[Value.ownBlock,Option.some.injEq]at h;omega),h4,Nat.le_of_lt h3⟩
 have K:Aside (∀(g cap:Nat) (u:World) (m:Int),u.heap[w.heap.size]? =some (.cells #[.slice (some ⟨g,0,none⟩) S.length cap,.int .i64 0,.int .i64 0,.int .i64 m,.slice none 0 0,.bool false] 162 (0,0))→m=M→w.heap.size<u.heap.size→(∀r,r<w.heap.size→u.heap[r]? =w.heap[r]?)→u.ownsRow 0 3 1 (.slice (some ⟨g,0,none⟩) S.length cap) S.length (S.map fun i:Int=>Value.int .i64 i)→w.heap.size≤g→NTOut w S M (.returned (.pointer (some ⟨w.heap.size,0,none⟩))) u):=key
 have hS2:∀j u,(S.map fun i:Int=>Value.int .i64 i)[j]? =some u→(w.alloc (.cells #[.slice none 0 0,.int .i64 0,.int .i64 0,.int .i64 mo,.slice none 0 0,.bool false] 162)).cell? (ad.add j)=some u:=fun j u h=>(cellB_alloc (hS j u h) _).1
 have SS:Aside (∀j u,(S.map fun i:Int=>Value.int .i64 i)[j]? =some u→(w.alloc (.cells #[.slice none 0 0,.int .i64 0,.int .i64 0,.int .i64 mo,.slice none 0 0,.bool false] 162)).cell? (ad.add j)=some u):=hS2
 clear key hS hS2
 have cs:mo<0∨(¬mo<0∧(1048576:Int)<mo)∨(¬mo<0∧¬(1048576:Int)<mo):=by omega
 have hS:True:=trivial
 rcases cs with c1|⟨c1,c2⟩|⟨c1,c2⟩
 all_goals(
  go_enter Try.func69,Try.ntmps69
  go_wp2_with (at_builtin;refine wpList_append_fresh rfl (.tmp 13) (.tmp 14) 24 rfl 3 i0 z0 1 8 Try.underlying24 hi hz0 hz1 hz2 hz3 (by decide) (.slice none 0 0) 0 [] rfl ⟨rfl,.inl ⟨rfl,rfl⟩⟩ ad S.length sc (S.map fun i:Int=>Value.int .i64 i) rfl (by simp) SS.out (by intro u hu;obtain⟨i,_,rfl⟩:=List.mem_map.1 hu;rfl) (by unfold maxLen;omega) (by omega) ?_;intro v' w1 hown hgrow hfr;have hown:w1.ownsRow 0 3 1 v' S.length (S.map fun i:Int=>Value.int .i64 i):=(by simpa using hown);obtain⟨g,cap,hv,hg0⟩:∃g cap,v'= .slice (some ⟨g,0,none⟩) S.length cap∧w.heap.size<g:=(by
   have hb:∃g cap,v'= .slice (some ⟨g,0,none⟩) S.length cap:=by
    rcases hown.2 with⟨_,h⟩|⟨g,cap,_,h,_⟩
    ·omega
    ·exact⟨g,cap,h⟩
   obtain⟨g,cap,rfl⟩:=hb
   refine⟨g,cap,rfl,?_⟩
   rcases hfr with h|⟨g',h,hg⟩
   ·simp[Value.ownBlock]at h
   ·simp only[Value.ownBlock,Option.some.injEq]at h
    simp at hg;omega);subst hv;have ho:w1.heap[w.heap.size]? =some (.cells #[.slice none 0 0,.int .i64 0,.int .i64 0,.int .i64 mo,.slice none 0 0,.bool false] 162 (0,0)):=(hgrow.block _ (by simp) (by simp[Value.ownBlock])).trans (heap_alloc_new _ _);have F:Aside (w1.heap[w.heap.size]? =some (.cells #[.slice none 0 0,.int .i64 0,.int .i64 0,.int .i64 mo,.slice none 0 0,.bool false] 162 (0,0))∧(∀r,r<w.heap.size→w1.heap[r]? =w.heap[r]?)∧w.heap.size<w1.heap.size∧w1.ownsRow 0 3 1 (.slice (some ⟨g,0,none⟩) S.length cap) S.length (S.map fun i:Int=>Value.int .i64 i)∧w.heap.size<g):=⟨ho,fun r hr=>(hgrow.block _ (by simp;omega) (by simp[Value.ownBlock])).trans (heap_alloc_lt _ _ hr),(by have:=hgrow.size;simp at this;omega),hown,hg0⟩;have q0:w1.cell? ⟨w.heap.size,0,none⟩=some (.slice none 0 0):=(by simp[World.cell?,ho]);have q3:w1.cell? ⟨w.heap.size,3,none⟩=some (.int .i64 mo):=(by simp[World.cell?,ho]);have y0:w1.frozen? ⟨w.heap.size,0,none⟩=false:=(by simp[World.frozen?,ho]);have y3:w1.frozen? ⟨w.heap.size,3,none⟩=false:=(by simp[World.frozen?,ho]);clear hown hgrow hfr ho hg0)
  go_ret
  obtain⟨f1,f2,f3,f4,f5⟩:=F.out
  first
   | exact K.out g cap _ mo ((heap_set_eq f1).trans rfl) (by omega) (by simpa using f3) (fun r hr=>by rw[heap_setCell_ne _ _ _ (show r≠w.heap.size by omega)];exact f2 r hr) (ownsRow_same2 f4 fun b hb _=>heap_setCell_ne _ _ _ (by simp only[Value.ownBlock,Option.some.injEq]at hb;show b≠w.heap.size;omega)) (by omega)
   | exact K.out g cap _ 0 ((heap_set_eq (heap_set_eq f1)).trans rfl) (by omega) (by simpa using f3) (fun r hr=>by rw[heap_setCell_ne _ _ _ (show r≠w.heap.size by omega),heap_setCell_ne _ _ _ (show r≠w.heap.size by omega)];exact f2 r hr) (ownsRow_same2 f4 fun b hb _=>by simp only[Value.ownBlock,Option.some.injEq]at hb;rw[heap_setCell_ne _ _ _ (show b≠w.heap.size by omega),heap_setCell_ne _ _ _ (show b≠w.heap.size by omega)]) (by omega)
   | exact K.out g cap _ 1048576 ((heap_set_eq (heap_set_eq f1)).trans rfl) (by omega) (by simpa using f3) (fun r hr=>by rw[heap_setCell_ne _ _ _ (show r≠w.heap.size by omega),heap_setCell_ne _ _ _ (show r≠w.heap.size by omega)];exact f2 r hr) (ownsRow_same2 f4 fun b hb _=>by simp only[Value.ownBlock,Option.some.injEq]at hb;rw[heap_setCell_ne _ _ _ (show b≠w.heap.size by omega),heap_setCell_ne _ _ _ (show b≠w.heap.size by omega)]) (by omega))
end
section
variable{w w':World}
structure AnsAt(w wr:World)(ob:Nat)(y1 y2 y3:Value)(ovs:Nat→Value)(i:Nat)(xv:Value):Prop where
 o:wr.heap[ob]? =some (.cells #[xv,y1,y2,y3] 31 (0,0))
 z:wr.heap[w.heap.size]? =some (.cells #[.slice none 0 0,.slice none 0 0,.slice none 0 0,.bool false] 31 (0,0))
 row:wr.ownsRow 0 42 1 xv i ((List.range i).map ovs)
 old:∀r,r<w.heap.size→wr.heap[r]? =w.heap[r]?
 size:w.heap.size<wr.heap.size
 new:∀g,xv.ownBlock=some g→w.heap.size≤g
 ne:w.heap.size<ob
theorem AnsAt.more{wr w1 u:World}{ob:Nat}{y1 y2 y3:Value}{ovs:Nat→Value}{i:Nat}{xv v':Value}(h:AnsAt w wr ob y1 y2 y3 ovs i xv)(hown:w1.ownsRow 0 42 1 v' (i+1) ((List.range i).map ovs++[ovs i]))
 (hold:∀r,r<wr.heap.size→some r≠xv.ownBlock→w1.heap[r]? =wr.heap[r]?) (hsz:wr.heap.size≤w1.heap.size) (hfr:v'.ownBlock=xv.ownBlock∨∃g',v'.ownBlock=some g'∧wr.heap.size≤g')
 (hu:u.heap=(w1.setCell ⟨ob,0,none⟩ v').heap):AnsAt w u ob y1 y2 y3 ovs (i+1) v':=by
 have hs:=h.size
 have hobl:=(Array.getElem?_eq_some_iff.1 h.o).1
 have hob2:some ob≠xv.ownBlock:=own_type h.row h.o (by decide)
 have ho1:w1.heap[ob]? =_:=(hold ob hobl hob2).trans h.o
 have hne:v'.ownBlock≠some ob:=by
  rcases hfr with e|⟨g,e,hg⟩
  ·rw[e];exact fun h=>hob2 h.symm
  ·rw[e];intro h;cases h;omega
 refine⟨?_,?_,?_,fun r hr=>?_,by rw[hu,World.size_setCell];omega,fun g hg=>?_,h.ne⟩
 ·rw[hu,heap_set_eq ho1];rfl
 ·rw[hu,heap_setCell_ne _ _ _ (show w.heap.size≠ob by have:=h.ne;omega),hold _ hs (own_type h.row h.z (by decide))]
  exact h.z
 ·rw[List.range_succ,List.map_append]
  exact ownsRow_same2 hown fun b hb _=>by
   rw[hu]
   exact heap_setCell_ne _ _ _ fun e=>hne (by rw[← show b=ob from e];exact hb)
 ·have hob3:=h.ne
  rw[hu,heap_setCell_ne _ _ _ (show r≠ob by omega),hold r (by omega) fun e=>by have:=h.new r e.symm;omega]
  exact h.old r hr
 ·rcases hfr with e|⟨g2,e,h2⟩
  ·exact h.new g (e ▸ hg)
  ·rw[e]at hg;cases hg;omega
theorem infoB42:∃i z,Try.prog.info? 42=some i∧i.zero=some z∧i.size=1∧i.bytes=24∧z.cells.size=1:=infoOf (by kernel_rfl)
theorem b31t(a b:Option Addr)(n m k l:Nat)(s:Bool):Try.prog.built 31 [(1,.slice a n m),(2,.slice b k l),(3,.bool s)]=some #[.slice none 0 0,.slice a n m,.slice b k l,.bool s]:=by kernel_rfl
@[go_sem] theorem run_b31t(w:World)(a b:Option Addr)(n m k l:Nat)(s:Bool):(Instr.build 31 #[(1,.slice a n m),(2,.slice b k l),(3,.bool s)]).run Try.prog w= .ok (.agg #[.slice none 0 0,.slice a n m,.slice b k l,.bool s]) w:=run_build w _ _ _ (b31t a b n m k l s)
structure TrOut(w:World)(n:Nat)(ovs:Nat→Value)(xa:Option Addr)(xc:Nat)(w':World):Prop where
 row:w'.ownsRow 0 42 1 (.slice xa n xc) n ((List.range n).map ovs)
 old:∀r,r<w.heap.size→w'.heap[r]? =w.heap[r]?
 size:w.heap.size≤w'.heap.size
 new:∀g,(Value.slice xa n xc).ownBlock=some g→w.heap.size≤g
theorem trace_calls{ub n ec ll lc ol oc sl sc:Nat}{la ea oa sa:Option Addr}{p r m:Int}{st:Bool}{tbs:Nat→Nat}{va:Nat→Option Addr}{vl vc:Nat→Nat}(hn:n≤64)(hu:w.heap[ub]? =some (.cells #[.slice la ll lc,.int .i64 p,.int .i64 r,.int .i64 m,.slice oa ol oc,.bool st] 162 (0,0)))
 (hT:∀j,j<n→∃lb,ea=some ⟨lb,0,none⟩∧w.cell? ⟨lb,j,none⟩=some (.pointer (some ⟨tbs j,0,none⟩))∧w.cell? ⟨tbs j,12,none⟩=some (.slice (va j) (vl j) (vc j))):
 Calls Try.prog 72 #[.pointer (some ⟨ub,0,none⟩),.slice ea n ec,.slice sa sl sc] w fun x w'=>∃xa xc,x= .returned (.agg #[.slice xa n xc,.slice oa ol oc,.slice sa sl sc,.bool st])∧TrOut w n (fun j=>.slice (va j) (vl j) (vc j)) xa xc w':=by
 obtain⟨i0,z0,hi,hz0,hz1,hz2,hz3⟩:=infoB42
 have L:Aside (∀j,j<n→∃lb,ea=some ⟨lb,0,none⟩∧w.cell? ⟨lb,j,none⟩=some (.pointer (some ⟨tbs j,0,none⟩))∧w.cell? ⟨tbs j,12,none⟩=some (.slice (va j) (vl j) (vc j))):=hT
 have hlt:=(alt hu)
 have u4:(w.alloc (.cells #[.slice none 0 0,.slice none 0 0,.slice none 0 0,.bool false] 31)).cell? ⟨ub,4,none⟩=some (.slice oa ol oc):=(cellB_alloc (by simp[World.cell?,hu]) _).1
 have u5:(w.alloc (.cells #[.slice none 0 0,.slice none 0 0,.slice none 0 0,.bool false] 31)).cell? ⟨ub,5,none⟩=some (.bool st):=(cellB_alloc (by simp[World.cell?,hu]) _).1
 clear hT hu
 go_enter Try.func72,Try.ntmps72
 go_wp2
 have hz:=heap_alloc_new w (.cells #[.slice none 0 0,.slice none 0 0,.slice none 0 0,.bool false] 31)
 have hold:∀r,r<w.heap.size→(w.alloc (.cells #[.slice none 0 0,.slice none 0 0,.slice none 0 0,.bool false] 31)).heap[r]? =w.heap[r]?:=fun r hr=>heap_alloc_lt _ _ hr
 have hsz:(w.alloc (.cells #[.slice none 0 0,.slice none 0 0,.slice none 0 0,.bool false] 31)).heap.size=w.heap.size+1:=by simp
 generalize w.alloc (.cells #[.slice none 0 0,.slice none 0 0,.slice none 0 0,.bool false] 31)=W at u4 u5 hz hold hsz ⊢
 have WW:Aside (W.heap[w.heap.size]? =some (.cells #[.slice none 0 0,.slice none 0 0,.slice none 0 0,.bool false] 31 (0,0))∧(∀r,r<w.heap.size→W.heap[r]? =w.heap[r]?)∧W.heap.size=w.heap.size+1):=⟨hz,hold,hsz⟩
 have v4:=(cellB_alloc u4 (.cells #[.slice none 0 0,.slice none 0 0,.slice none 0 0,.bool false] 31)).1
 have v5:=(cellB_alloc u5 (.cells #[.slice none 0 0,.slice none 0 0,.slice none 0 0,.bool false] 31)).1
 have hub:¬ub=W.heap.size:=by omega
 clear hz hold hsz
 go_region
 all_goals(
  go_wp2
  generalize hob:W.heap.size=ob
  go_loopg [8] n (fun g x wr=>∃(i:Nat) (xv:Value),x= .int .i64 i∧i≤n∧g=n - i∧AnsAt w wr ob (.slice oa ol oc) (.slice sa sl sc) (.bool st) (fun j=>.slice (va j) (vl j) (vc j)) i xv)
  case atStart=>
   obtain⟨e1,e2,e3⟩:=WW.out
   subst hob
   exact⟨0,.slice none 0 0,rfl,Nat.zero_le _,rfl,⟨heap_alloc_new _ _,(heap_alloc_lt _ _ (by omega)).trans e1,⟨rfl,.inl ⟨rfl,rfl⟩⟩,fun r hr=>(heap_alloc_lt _ _ (by omega)).trans (e2 r hr),by show _<(W.alloc _).heap.size;simp;omega,fun g h=>(by cases h),by omega⟩⟩
  case round=>
   obtain⟨i,xv,rfl,hin,rfl,hA⟩:=hrel
   clear u4 u5 v4 v5
   have R:Aside (AnsAt w wr ob (.slice oa ol oc) (.slice sa sl sc) (.bool st) (fun j=>.slice (va j) (vl j) (vc j)) i xv):=hA
   have ho:=hA.o
   have hrow:=hA.row
   have hso:=hA.size
   rcases Nat.lt_or_ge i n with hlt|hge
   ·obtain⟨lb,rfl,e2,e4⟩:=L.out i hlt
    have hlt2:(i:Int)<(n:Int):=by omega
    have f0:wr.cell? ⟨ob,0,none⟩=some xv:=by simp[World.cell?,ho]
    have z0':wr.frozen? ⟨ob,0,none⟩=false:=by simp[World.frozen?,ho]
    have hkeep:∀{a:Addr} {v:Value},w.cell? a=some v→wr.cell? a=some v:=fun{a v} h=>by
     obtain⟨c,e,z,hb⟩:=cell_block h
     have:=hA.old a.block (alt hb)
     rw[← h];unfold World.cell?;simp only[this]
    have f1:=hkeep e2
    have f2:=hkeep e4
    have p0:=(cellB_alloc f0 (.cells #[.slice (va i) (vl i) (vc i)] 42)).1
    have hwr:IntKind.i64.wrap ((i:Int)+1)=((i+1:Nat):Int):=IntWalk.i64_in _ (by omega)
    have hoblt:ob<wr.heap.size:=(alt ho)
    clear hkeep e2 e4 hA ho
    go_wp2
    go_region_law (refine step_append_fresh rfl (.tmp 26) (.tmp 34) 29 rfl 42 i0 z0 1 24 Try.underlying29 hi hz0 hz1 hz2 hz3 (by decide) xv i ((List.range i).map fun j=>.slice (va j) (vl j) (vc j)) (by simp[Act.eval,Act.put]) ((show wr.drew.ownsRow 0 42 1 _ _ _ from hrow).alloc _) ⟨wr.heap.size,0,none⟩ 1 1 [.slice (va i) (vl i) (vc i)] (by simp[Act.eval,Act.put]) rfl (new_cells (X:=wr.drew) (l:=[.slice (va i) (vl i) (vc i)]) rfl) (by intro u hu;simp at hu;subst hu;rfl) (by unfold maxLen;omega) (by omega) ?_;intro v' w1 hown hgrow hfr;obtain⟨vg,vcap,rfl⟩:=own_slice hown;have hk1:=grown_old (W:=wr.drew) hgrow (r:=ob) hoblt (own_type hrow R.out.o (by decide));have k0:=(cell_heap (j:=0) hk1).1.trans f0;have k1:=(cell_heap (j:=0) hk1).2.trans z0';have F:Aside (w1.ownsRow 0 42 1 (Value.slice (some ⟨vg,0,none⟩) (i+1) vcap) (i+1) ((List.range i).map (fun j=>.slice (va j) (vl j) (vc j))++[.slice (va i) (vl i) (vc i)])∧(∀r,r<wr.heap.size→some r≠xv.ownBlock→w1.heap[r]? =wr.heap[r]?)∧wr.heap.size≤w1.heap.size∧((Value.slice (some ⟨vg,0,none⟩) (i+1) vcap).ownBlock=xv.ownBlock∨∃g',(Value.slice (some ⟨vg,0,none⟩) (i+1) vcap).ownBlock=some g'∧wr.heap.size≤g')):=⟨hown,fun r hr hn=>grown_old (W:=wr.drew) hgrow hr hn,Nat.le_trans (by simp[World.drew]) hgrow.size,hfr.imp id fun⟨g',h1,h2⟩=>⟨g',h1,Nat.le_trans (by simp[World.drew]) h2⟩⟩;clear hown hgrow hfr hk1)
    all_goals go_wp2
    all_goals(
     go_roundg (n - (i+1))
     case measure=>omega
     case rel=>exact⟨i+1,_,rfl,hlt,rfl,R.out.more F.out.1 F.out.2.1 F.out.2.2.1 F.out.2.2.2 rfl⟩)
   ·obtain rfl:i=n:=by omega
    have hge2:¬(i:Int)<(i:Int):=by omega
    obtain⟨xa,xc,rfl⟩:∃xa xc,xv= .slice xa i xc:=by
     rcases hrow.2 with⟨h1,h2⟩|⟨g,cap,cur,h1,_⟩
     ·exact⟨none,0,by rw[h1,h2]⟩
     ·exact⟨_,_,h1⟩
    have f0:wr.cell? ⟨ob,0,none⟩=some (.slice xa i xc):=by simp[World.cell?,ho]
    have f1:wr.cell? ⟨ob,1,none⟩=some (.slice oa ol oc):=by simp[World.cell?,ho]
    have f2:wr.cell? ⟨ob,2,none⟩=some (.slice sa sl sc):=by simp[World.cell?,ho]
    have f3:wr.cell? ⟨ob,3,none⟩=some (.bool st):=by simp[World.cell?,ho]
    have hz:=hA.z
    generalize hws:w.heap.size=t8 at hz
    have g0:wr.cell? ⟨t8,0,none⟩=some (.slice none 0 0):=by simp[World.cell?,hz]
    have g1:wr.cell? ⟨t8,1,none⟩=some (.slice none 0 0):=by simp[World.cell?,hz]
    have g2:wr.cell? ⟨t8,2,none⟩=some (.slice none 0 0):=by simp[World.cell?,hz]
    have g3:wr.cell? ⟨t8,3,none⟩=some (.bool false):=by simp[World.cell?,hz]
    have z:∀k,wr.frozen? ⟨t8,k,none⟩=false:=fun k=>by simp[World.frozen?,hz]
    have z0:=z 0
    have z1:=z 1
    have z2:=z 2
    have z3:=z 3
    have H2:Aside (wr.heap[t8]? =some (.cells #[.slice none 0 0,.slice none 0 0,.slice none 0 0,.bool false] 31 (0,0))∧w.heap.size=t8):=⟨hz,hws⟩
    clear z hz hA ho hrow hws
    go_wp2
    have hb:((((wr.setCell ⟨t8,0,none⟩ (.slice xa i xc)).setCell ⟨t8,1,none⟩ (.slice oa ol oc)).setCell ⟨t8,2,none⟩ (.slice sa sl sc)).setCell ⟨t8,3,none⟩ (.bool st)).heap[t8]? =some (.cells #[.slice xa i xc,.slice oa ol oc,.slice sa sl sc,.bool st] 31 (0,0)):=by
     rw[heap_set_eq (heap_set_eq (heap_set_eq (heap_set_eq H2.out.1)))];rfl
    have hne:∀r,r≠t8→((((wr.setCell ⟨t8,0,none⟩ (.slice xa i xc)).setCell ⟨t8,1,none⟩ (.slice oa ol oc)).setCell ⟨t8,2,none⟩ (.slice sa sl sc)).setCell ⟨t8,3,none⟩ (.bool st)).heap[r]? =wr.heap[r]?:=fun r hr=>by
     rw[heap_setCell_ne _ _ _ hr,heap_setCell_ne _ _ _ hr,heap_setCell_ne _ _ _ hr,heap_setCell_ne _ _ _ hr]
    have hO:TrOut w i (fun j=>.slice (va j) (vl j) (vc j)) xa xc ((((wr.setCell ⟨t8,0,none⟩ (.slice xa i xc)).setCell ⟨t8,1,none⟩ (.slice oa ol oc)).setCell ⟨t8,2,none⟩ (.slice sa sl sc)).setCell ⟨t8,3,none⟩ (.bool st)):=by
     refine⟨ownsRow_same2 R.out.row fun b hb' _=>hne b fun e=>?_,fun r hr=>(hne r (by have:=H2.out.2;omega)).trans (R.out.old r hr),by have:=R.out.size;simp;omega,R.out.new⟩
     subst e
     exact own_type R.out.row H2.out.1 (by decide) hb'.symm
    clear hne f0 f1 f2 f3 g0 g1 g2 g3 z0 z1 z2 z3
    generalize (((wr.setCell ⟨t8,0,none⟩ (.slice xa i xc)).setCell ⟨t8,1,none⟩ (.slice oa ol oc)).setCell ⟨t8,2,none⟩ (.slice sa sl sc)).setCell ⟨t8,3,none⟩ (.bool st)=W3 at hb hO ⊢
    have q0:W3.cell? ⟨t8,0,none⟩=some (.slice xa i xc):=by simp[World.cell?,hb]
    have q1:W3.cell? ⟨t8,1,none⟩=some (.slice oa ol oc):=by simp[World.cell?,hb]
    have q2:W3.cell? ⟨t8,2,none⟩=some (.slice sa sl sc):=by simp[World.cell?,hb]
    have q3:W3.cell? ⟨t8,3,none⟩=some (.bool st):=by simp[World.cell?,hb]
    exact bodyPost_ret (v:=.agg #[.slice xa i xc,.slice oa ol oc,.slice sa sl sc,.bool st]) (by simp[results,Try.f72,go_sem,q0,q1,q2,q3]) rfl ⟨xa,xc,rfl,hO⟩)
end
noncomputable section
variable{w w':World}
def RefOut6(w:World)(ops:Nat→List Op4)(n M:Nat)(S:List Int)(s0:GS KPl)(v:Value)(w':World):Prop:=
 ∃(s:GS KPl) (order:List Nat) (xa oa' sa':Option Addr) (xc oc' sc':Nat) (va:Nat→Option Addr) (vc:Nat→Nat),
  v= .agg #[.slice xa n xc,.slice oa' order.length oc',.slice sa' (KSt.state s.q).length sc',.bool (decide (0<cnt s.live n))]∧(∃k,∀f,k≤f→gOver ops n M S f s0=(s,order))∧
  RRow w' oa' (order.map fun i:Nat=>.int .i64 i)∧RRow w' sa' ((KSt.state s.q).map fun v=>.int .i64 v)∧RRow w' xa ((List.range n).map fun i=>.slice (va i) (s.th i).ans.length (vc i))∧(∀i,i<n→RRow w' (va i) (ansC (s.th i).ans))∧(∀r,r<w.heap.size→w'.heap[r]? =w.heap[r]?)∧w.heap.size≤w'.heap.size
theorem Addr.add_at(b o j:Nat):(⟨b,o,none⟩:Addr).add j=⟨b,o+j,none⟩:=by
 unfold Addr.add
 split
 ·subst_vars;rfl
 ·rfl
theorem newturn_calls{S:List Int}{sa:Option Addr}{sc M:Nat}{mo:Int}(hM:min (max mo 0) 1048576=(M:Int))(hl:S.length<10000000)(hS:0<S.length→∃sb so,sa=some ⟨sb,so,none⟩∧∀(j:Nat) (u:Value),(S.map fun i:Int=>Value.int .i64 i)[j]? =some u→w.cell? ⟨sb,so+j,none⟩=some u):
 Calls Try.prog 69 #[.slice sa S.length sc,.int .i64 mo] w fun x w'=>NTOut w S M x w':=by
 rcases Nat.eq_zero_or_pos S.length with h0|h0
 ·have:S=[]:=List.eq_nil_of_length_eq_zero h0
  subst this
  exact newturn_nil hM
 ·obtain⟨sb,so,rfl,h⟩:=hS h0
  exact newturn_some hM hl h0 fun j u hu=>by rw[Addr.add_at];exact h j u hu
def rp6Body:Code:=Try.f35.body.getD .skip
theorem rp6_body:Try.f35.body=some rp6Body:=by
 have h:∃c,Try.f35.body=some c:=⟨_,rfl⟩
 obtain⟨c,h⟩:=h
 rw[rp6Body,h]
 rfl
def rp6T(s:Nat→Value):Array Value:= #[s 0,s 1,s 2,s 3,s 4,s 5,s 6,s 7,s 8,s 9,s 10,s 11,s 12,s 13,s 14,s 15,s 16,s 17,s 18,s 19,s 20,s 21,s 22,s 23,s 24,s 25,s 26,s 27,s 28,s 29,s 30,s 31,s 32,s 33,s 34,s 35,s 36,s 37,s 38,s 39,s 40,s 41,s 42,s 43,s 44,s 45,s 46,s 47,s 48,s 49,s 50,s 51,s 52,s 53,s 54,s 55,s 56,s 57,s 58,s 59,s 60,s 61,s 62,s 63,s 64,s 65,s 66,s 67,s 68,s 69,s 70,s 71,s 72,s 73,s 74,s 75,s 76,s 77,s 78,s 79,s 80,s 81,s 82,s 83,s 84,s 85,s 86,s 87,s 88,s 89,s 90,s 91,s 92,s 93,s 94,s 95]
theorem rp6T_of{A:Array Value}(h:A.size=96):∃s,A=rp6T s:=by
 obtain⟨s,hs,_⟩:=arr_lit A h
 exact⟨s,hs⟩
theorem slots5{n m:Nat}{a b c d e:Value}(h:5+m=n):Slots n (#[a,b,c,d,e]++Array.replicate m undef) [(0,a),(1,b),(2,c),(3,d),(4,e)]:=by
 refine⟨by simp;omega,?_,?_,?_,?_,?_,trivial⟩
 ·simp[Array.getD_eq_getD_getElem?,Array.getElem?_append]
 ·simp[Array.getD_eq_getD_getElem?,Array.getElem?_append]
 ·simp[Array.getD_eq_getD_getElem?,Array.getElem?_append]
 ·simp[Array.getD_eq_getD_getElem?,Array.getElem?_append]
 ·simp[Array.getD_eq_getD_getElem?,Array.getElem?_append]
theorem MAt.thrs{B:MK}{s:KSt}{v:Value}(h:MAt w B s)(hw:w'.heap=(w.setCell ⟨B.mb,7,none⟩ v).heap):MAt w' {B with thr:=v} s:=by
 obtain⟨k1,k2⟩:=h.mn
 refine⟨?_,?_,?_,h.ne⟩
 ·rw[hw,heap_set_eq h.o];rfl
 ·rw[hw,heap_setCell_ne _ _ _ k1];exact h.n
 ·rw[hw,heap_setCell_ne _ _ _ k2];exact h.v
theorem born_start{W w1 w2:World}{n m:Nat}{ops:Nat→List Op4}{opv:Nat→Value}{B:MK}{tbs:Nat→Nat}{la:Option Addr}{lc:Nat}{tg:Bool}(hN:NewK W w1 B (knew (m+1) tg))(hm:m+1≤65536)(hT:ThrNew w1 w2 n ops la lc tbs opv)(hol:∀j,j<n→(ops j).length≤65536)
 {u:World} (hu:u.heap=(w2.setCell ⟨B.mb,7,none⟩ (.slice la n lc)).heap):
 PBorn W ops opv (m+1) n {B with thr:=.slice la n lc} tbs la lc (ks0 (m+1) tg) 0 (knew (m+1) tg) (fun _=>t00) (fun _=>.slice none 0 0) (fun _=>false) u:=by
 have hB:=hN.m.same (hT.old _ hN.m.mlt) (hT.old _ hN.m.nlt) (hT.old _ hN.m.vlt)
 have hs1:=hN.size
 have hs2:=hT.size
 have hty:∀(r:Nat) (c:Array Value) (e:TypeId) (z:Nat×Nat),w2.heap[r]? =some (.cells c e z)→e≠121→u.heap[r]? =w2.heap[r]?:=fun r c e z hr he=>by
  rw[hu];exact heap_setCell_ne _ _ _ (show r≠B.mb from heap_ty hr hB.o he)
 have hnm:=hN.nm
 refine⟨⟨by rw[hu,World.size_setCell];omega,fun r hr=>?_,hB.thrs hu,fun j hj=>?_,fun j hj=>?_,hT.dt,fun a b g _ _ _ h=>(by cases h),hN.nm,hN.nn,hN.nv,fun j hj=>by have:=hT.nt j hj;omega,fun j g _ h=>(by cases h)⟩,⟨rfl,knew_wf (by omega) hm tg,by simp[knew],fun j hj=>by omega,fun j hj=>by omega,fun j hj=>by omega⟩,?_,rfl,fun _ _ _=>rfl,hol,fun g hg=>by have:=hT.nl g hg;omega⟩
 ·rw[hu,heap_setCell_ne _ _ _ (show r≠B.mb by omega),hT.old r (by omega)]
  exact hN.old r hr
 ·exact(hT.t j hj).same (hty _ _ _ _ (hT.t j hj).o (by decide)) fun r hr=>(by cases hr)
 ·exact ownsRow_same2 (hT.o j hj) fun b hb _=>by
   obtain⟨c,hc⟩:=own_row_ty (hT.o j hj) hb
   exact hty _ _ _ _ hc (by decide)
 ·exact ownsRow_same2 hT.l fun b hb _=>by
   obtain⟨c,hc⟩:=own_row_ty hT.l hb
   exact hty _ _ _ _ hc (by decide)
theorem mid_start{W w1 w2:World}{n m M:Nat}{S:List Int}{ops:Nat→List Op4}{opv:Nat→Value}{B:MK}{tbs:Nat→Nat}{la ta:Option Addr}{lc ub tc:Nat}{s0:GS KPl}{s:KSt}{rt:Nat→RTh}{ovs:Nat→Value}{en:Nat→Bool}(h:PBorn W ops opv m n B tbs la lc s0 n s rt ovs en w1)
 (h1:TurnMem w2 ub ta S.length tc M 0 0 (.slice none 0 0) []) (h2:w2.ownsRow 0 3 1 (.slice ta S.length tc) S.length (S.map fun i:Int=>Value.int .i64 i)) (h3:w1.heap.size≤ub) (h4:∀g,(Value.slice ta S.length tc).ownBlock=some g→w1.heap.size≤g) (h5:∀r,r<w1.heap.size→w2.heap[r]? =w1.heap[r]?) (h6:w1.heap.size≤w2.heap.size):
 PMid W ops opv m n M S B tbs la lc ub ta tc (gBorns KPl ops n s0) [] 0 0 s rt ovs en (.slice none 0 0) w2:=by
 have hs:=h.r.size
 refine⟨h.r.more h6 h5,h.g,?_,h.th,by rw[Nat.zero_mod];exact h1,h2,Nat.zero_le _,Nat.zero_le _,Nat.zero_le _,h.nl,by omega,fun g hg=>by have:=h4 g hg;omega,fun g hg=>(by cases hg),fun g _ hg=>(by cases hg)⟩
 exact ownsRow_same2 h.l fun b hb _=>by
  obtain⟨c,hc⟩:=own_row_ty h.l hb
  exact h5 b (alt hc)
theorem end_out{W w1 w2 u:World}{n m M t10:Nat}{S:List Int}{ops:Nat→List Op4}{opv:Nat→Value}{B:MK}{tbs:Nat→Nat}{la oa sa xa:Option Addr}{lc ub oc sc xc:Nat}{s0 g:GS KPl}{order:List Nat}{s:KSt}{rt:Nat→RTh}{ovs:Nat→Value}{en:Nat→Bool}(hW:∀r,r<w.heap.size→W.heap[r]? =w.heap[r]?)(ht10:t10=w.heap.size)(hWs:W.heap.size=w.heap.size+1)(hz:W.heap[t10]? =some (.cells #[.slice none 0 0,.slice none 0 0,.slice none 0 0,.bool false] 31 (0,0)))
 (h:PEnd W ops opv m n M B tbs la lc ub g order s rt ovs en (.slice oa order.length oc) w1) (hS:ValsAt w1 w2 (.slice sa (KSt.state s).length sc) (KSt.state s)) (hT:TrOut w2 n ovs xa xc u) (hO:∃k,∀f,k≤f→gOver ops n M S f s0=(g,order))
 (hw:w'.heap=(((((u.setCell ⟨t10,0,none⟩ (.slice xa n xc)).setCell ⟨t10,1,none⟩ (.slice oa order.length oc)).setCell ⟨t10,2,none⟩ (.slice sa (KSt.state s).length sc)).setCell ⟨t10,3,none⟩ (.bool (decide (0<cnt g.live n))))).heap):
 RefOut6 w ops n M S s0 (.agg #[.slice xa n xc,.slice oa order.length oc,.slice sa (KSt.state s).length sc,.bool (decide (0<cnt g.live n))]) w'∧w'.heap[t10]? =some (.cells #[.slice xa n xc,.slice oa order.length oc,.slice sa (KSt.state s).length sc,.bool (decide (0<cnt g.live n))] 31 (0,0)):=by
 subst ht10
 have hq:g.q=s:=h.gr.q
 have hs1:=h.r.size
 have hs2:=hS.size
 have hs3:=hT.size
 have z1:w1.heap[w.heap.size]? =_:=(h.r.old _ (by omega)).trans hz
 have zl:=(alt z1)
 have z2:w2.heap[w.heap.size]? =_:=(hS.old _ zl).trans z1
 have z3:u.heap[w.heap.size]? =_:=(hT.old _ (by omega)).trans z2
 have hne:∀r,r≠w.heap.size→w'.heap[r]? =u.heap[r]?:=fun r hr=>by
  rw[hw,heap_setCell_ne _ _ _ hr,heap_setCell_ne _ _ _ hr,heap_setCell_ne _ _ _ hr,heap_setCell_ne _ _ _ hr]
 have k1:∀(r:Nat) (c:Array Value) (e:TypeId) (z:Nat×Nat),w1.heap[r]? =some (.cells c e z)→e≠31→w'.heap[r]? =w1.heap[r]?:=fun r c e z hr he=>by
  have hl:=(alt hr)
  rw[hne r (heap_ty hr z1 he),hT.old r (by omega),hS.old r hl]
 have k2:∀(r:Nat) (c:Array Value) (e:TypeId) (z:Nat×Nat),w2.heap[r]? =some (.cells c e z)→e≠31→w'.heap[r]? =w2.heap[r]?:=fun r c e z hr he=>by
  have hl:=(alt hr)
  rw[hne r (heap_ty hr z2 he),hT.old r hl]
 have hrow:∀j,j<n→∃a c,ovs j= .slice a (g.th j).ans.length c:=fun j hj=>by
  obtain⟨a,c,e⟩:=slice_row (h.r.t j hj).row
  exact⟨a,c,by rw[e,(h.gr.t j hj).ans];rfl⟩
 have hex:∀j,∃p:Option Addr×Nat,j<n→ovs j= .slice p.1 (g.th j).ans.length p.2:=fun j=>by
  by_cases hj:j<n
  ·obtain⟨a,c,e⟩:=hrow j hj
   exact⟨(a,c),fun _=>e⟩
  ·exact⟨(none,0),fun h=>absurd h hj⟩
 obtain⟨f,hf⟩:=Classical.axiomOfChoice hex
 refine⟨⟨g,order,xa,oa,sa,xc,oc,sc,fun j=>(f j).1,fun j=>(f j).2,by rw[hq],hO,?_,?_,?_,fun j hj=>?_,fun r hr=>?_,?_⟩,?_⟩
 ·exact rrow_of (ownsRow_same2 h.o fun b hb _=>by
   obtain⟨c,hc⟩:=own_row_ty h.o hb
   exact k1 _ _ _ _ hc (by decide))
 ·rw[hq]
  exact rrow_of (ownsRow_same2 hS.row fun b hb _=>by
   obtain⟨c,hc⟩:=own_row_ty hS.row hb
   exact k2 _ _ _ _ hc (by decide))
 ·have e:(List.range n).map ovs=(List.range n).map fun i=>Value.slice (f i).1 (g.th i).ans.length (f i).2:=List.map_congr_left fun j hj=>hf j (List.mem_range.1 hj)
  rw[← e]
  exact rrow_of (ownsRow_same2 hT.row fun b hb _=>by
   obtain⟨c,hc⟩:=own_row_ty hT.row hb
   exact hne b (heap_ty hc z3 (by decide)))
 ·have ht:=(h.r.t j hj).row
  have e:=(h.gr.t j hj).ans
  rw[hf j hj,e]at ht
  exact rrow_of (ownsRow_same2 ht fun b hb _=>by
   obtain⟨c,hc⟩:=own_row_ty ht hb
   exact k1 _ _ _ _ hc (by decide))
 ·rw[hne r (by omega),hT.old r (by omega),hS.old r (by omega),h.r.old r (by omega)]
  exact hW r hr
 ·rw[hw];simp;omega
 ·rw[hw,heap_set_eq (heap_set_eq (heap_set_eq (heap_set_eq z3)))];rfl
end
section
variable{w w':World}
theorem four_at{w3 u:World}{k1 k2 k3 k4:Int}(hu:u.heap=(w3.alloc (.cells #[.int .i64 k1,.int .i64 k2,.int .i64 k3,.int .i64 k4] 2)).heap):ValsAt w3 u (.slice (some ⟨w3.heap.size,0,none⟩) 4 4) [k1,k2,k3,k4]:=by
 refine⟨⟨rfl,.inr ⟨w3.heap.size,4,_,rfl,Nat.zero_le _,by rw[hu];exact heap_alloc_new _ _,by simp,by unfold maxLen;omega,by simp,by simp⟩⟩,by rw[hu];simp,fun r hr=>by rw[hu];exact heap_alloc_lt _ _ hr,fun g hg=>?_⟩
 simp only[Value.ownBlock,Option.some.injEq]at hg
 omega
theorem vals_some{u w4:World}{ov:Value}{xs:List Int}(h:ValsAt u w4 ov xs)(hx:xs≠[]):∃g cap,ov= .slice (some ⟨g,0,none⟩) xs.length cap:=by
 have:=List.length_pos_iff.2 hx
 rcases h.row.2 with⟨_,h⟩|⟨g,cap,_,rfl,_⟩
 ·omega
 ·exact⟨g,cap,rfl⟩
theorem some_slice{v:Value}{n size:Nat}{e:TypeId}{xs:List Value}(h:w.ownsRow 0 e size v n xs)(hn:0<n):∃g cap,v= .slice (some ⟨g,0,none⟩) n cap:=by
 rcases h.2 with⟨_,h⟩|⟨g,cap,_,h,_⟩
 ·omega
 ·exact⟨g,cap,h⟩
section
variable{W w3 w5:World}{n m M t10:Nat}{ops:Nat→List Op4}{opv:Nat→Value}{B:MK}{tbs:Nat→Nat}{la oa sa:Option Addr}{lc ub oc sl sc:Nat}{g:GS KPl}{order:List Nat}{s:KSt}{rt:Nat→RTh}{ovs:Nat→Value}{en:Nat→Bool}{xs:List Int}
theorem mach_end(E:PEnd W ops opv m n M B tbs la lc ub g order s rt ovs en (.slice oa order.length oc) w3)(Z:ValsAt w3 w5 (.slice sa sl sc) xs):w5.cell? ⟨B.mb,7,none⟩=some (.slice la n lc):=by
 have:=E.r.m.fx.m7
 rw[E.th]at this
 exact(cell_heap (Z.old _ E.r.m.mlt)).1.trans this
theorem trace_end(hn:n≤64)(E:PEnd W ops opv m n M B tbs la lc ub g order s rt ovs en (.slice oa order.length oc) w3)(Z:ValsAt w3 w5 (.slice sa sl sc) xs):
 Calls Try.prog 72 #[.pointer (some ⟨ub,0,none⟩),.slice la n lc,.slice sa sl sc] w5 fun x w'=>∃xa xc,x= .returned (.agg #[.slice xa n xc,.slice oa order.length oc,.slice sa sl sc,.bool (decide (0<cnt g.live n))])∧TrOut w5 n ovs xa xc w':=by
 obtain⟨a,b,c,d,e,hu⟩:=E.u
 have hex:∀j,∃p:Option Addr×Nat×Nat,j<n→ovs j= .slice p.1 p.2.1 p.2.2:=fun j=>by
  by_cases hj:j<n
  ·obtain⟨a,c,e⟩:=slice_row (E.r.t j hj).row
   exact⟨(a,_,c),fun _=>e⟩
  ·exact⟨(none,0,0),fun h=>absurd h hj⟩
 obtain⟨f,hf⟩:=Classical.axiomOfChoice hex
 refine(trace_calls (va:=fun j=>(f j).1) (vl:=fun j=>(f j).2.1) (vc:=fun j=>(f j).2.2) (tbs:=tbs) hn ((Z.old _ (alt hu)).trans hu) fun j hj=>?_).mono ?_
 ·obtain⟨lb,cap,e1,h1⟩:=row_get (k:=j) E.l (x:=.pointer (some ⟨tbs j,0,none⟩)) (by simp[hj])
  cases e1
  obtain⟨cl,hcl⟩:=own_row_ty E.l rfl
  refine⟨lb,rfl,(cell_heap (Z.old _ (alt hcl))).1.trans h1.c,?_⟩
  rw[← hf j hj]
  exact(cell_heap (Z.old _ (E.r.t j hj).lt)).1.trans (E.r.t j hj).fx.c12
 ·rintro x w6 ⟨xa,xc,rfl,hT⟩
  refine⟨xa,xc,rfl,⟨?_,hT.old,hT.size,hT.new⟩⟩
  have e:(List.range n).map ovs=(List.range n).map fun i=>Value.slice (f i).1 (f i).2.1 (f i).2.2:=List.map_congr_left fun j hj=>hf j (List.mem_range.1 hj)
  rw[e]
  exact hT.row
theorem zero_end{w6:World}{xa:Option Addr}{xc:Nat}(hz:W.heap[t10]? =some (.cells #[.slice none 0 0,.slice none 0 0,.slice none 0 0,.bool false] 31 (0,0)))(ht:t10<W.heap.size)(E:PEnd W ops opv m n M B tbs la lc ub g order s rt ovs en (.slice oa order.length oc) w3)(Z:ValsAt w3 w5 (.slice sa sl sc) xs)(T:TrOut w5 n ovs xa xc w6):
 w6.heap[t10]? =some (.cells #[.slice none 0 0,.slice none 0 0,.slice none 0 0,.bool false] 31 (0,0)):=by
 have h1:=E.r.size
 have h2:=Z.size
 rw[T.old _ (by omega),Z.old _ (by omega),E.r.old _ ht]
 exact hz
end
theorem play6_ref{size mo:Int}{tg:Bool}{m:Nat}(hm:min (max size 1) 65536=((m+1:Nat):Int)){N:Nat→Prop}{n tb o tl tc sc M:Nat}{ta sa:Option Addr}{oa:Nat→Option Addr}{ol oc:Nat→Nat}{ops:Nat→List Op4}{S:List Int}(hI:OpsIn w N n tb o tl ta oa ol oc ops S sa)(htl:tl<1000000000000)(hM:min (max mo 0) 1048576=(M:Int))(hSl:S.length<10000000):
 CallsB Try.prog Try.f35 #[.int .i64 size,.bool tg,.slice ta tl tc,.slice sa S.length sc,.int .i64 mo] w (RefOut6 w ops n M S (ks0 (m+1) tg)):=by
 obtain⟨i0,z00,hi,hz0,hz1,hz2,hz3⟩:=infoA2
 have hn64:n≤64:=by have:=hI.hn;omega
 have hm2:m+1≤65536:=by omega
 have hopl:∀j,j<n→(ops j).length≤65536:=fun j hj=>by rw[hI.hlen j hj];exact Nat.min_le_right _ _
 have HN:Aside (n≤64∧m+1≤65536∧M≤1048576∧S.length<10000000∧∀j,j<n→(ops j).length≤65536):=⟨hn64,hm2,by omega,hSl,hopl⟩
 have C66:Aside (∀u:World,Calls Try.prog 66 #[.int .i64 size,.bool tg] u fun x w'=>∃B,x= .returned (.pointer (some ⟨B.mb,0,none⟩))∧NewK u w' B (knew (m+1) tg)):=fun u=>rnew_calls hm tg
 have C67:Aside (∀u:World,w.heap.size≤u.heap.size→(∀r,r<w.heap.size→u.heap[r]? =w.heap[r]?)→Calls Try.prog 67 #[.slice ta tl tc] u fun x w'=>∃la lc tbs opv,x= .returned (.slice la n lc)∧ThrNew u w' n ops la lc tbs opv):=fun u h1 h2=>threads_calls (hI.later (N':=fun _=>False) h1 h2 fun r h=>h.elim) htl
 have C69:Aside (∀u:World,(∀r,r<w.heap.size→u.heap[r]? =w.heap[r]?)→Calls Try.prog 69 #[.slice sa S.length sc,.int .i64 mo] u fun x w'=>NTOut u S M x w'):=fun u h2=>newturn_calls hM hSl fun hp=>by
  obtain⟨sb,so,c,e,z,h1,_,h3,h4⟩:=hI.hS hp
  refine⟨sb,so,h1,fun j v hv=>?_⟩
  have:=h2 sb (alt h3)
  simp only[World.cell?,this,h3]
  exact(h4 j v hv).1
 clear hm hI htl hM hSl hn64 hm2 hopl
 refine callsB_of rp6_body ?_
 have hA0:Slots 96 (#[.int .i64 size,.bool tg,.slice ta tl tc,.slice sa S.length sc,.int .i64 mo]++Array.replicate 91 undef) [(0,.int .i64 size),(1,.bool tg),(2,.slice ta tl tc),(3,.slice sa S.length sc),(4,.int .i64 mo)]:=slots5 rfl
 simp only[Try.ntmps35,List.size_toArray,List.length_cons,List.length_nil,Nat.reduceAdd,Nat.reduceSub]
 generalize #[Value.int .i64 size,.bool tg,.slice ta tl tc,.slice sa S.length sc,.int .i64 mo]++Array.replicate 91 undef=A0 at hA0 ⊢
 obtain⟨hsz,h0,h1,h2,h3,h4,_⟩:=hA0
 obtain⟨s,rfl⟩:=rp6T_of hsz
 change s 0=_ at h0
 change s 1=_ at h1
 change s 2=_ at h2
 change s 3=_ at h3
 change s 4=_ at h4
 clear hsz
 have WF0:Aside ((∀r,r<w.heap.size→(w.alloc (.cells #[.slice none 0 0,.slice none 0 0,.slice none 0 0,.bool false] 31)).heap[r]? =w.heap[r]?)∧True∧(w.alloc (.cells #[.slice none 0 0,.slice none 0 0,.slice none 0 0,.bool false] 31)).heap.size=w.heap.size+1∧(w.alloc (.cells #[.slice none 0 0,.slice none 0 0,.slice none 0 0,.bool false] 31)).heap[w.heap.size]? =some (.cells #[.slice none 0 0,.slice none 0 0,.slice none 0 0,.bool false] 31 (0,0))):=⟨fun r hr=>heap_alloc_lt _ _ hr,trivial,by simp,heap_alloc_new _ _⟩
 simp only[rp6Body,Try.f35,Option.getD_some,rp6T,h0,h1,h2,h3,h4]
 clear h0 h1 h2 h3 h4
 go_wp2_with (first
  | (go_at_call 66;generalize w.alloc (.cells #[.slice none 0 0,.slice none 0 0,.slice none 0 0,.bool false] 31)=W at WF0 ⊢;have WF:=WF0;clear WF0;refine Calls.mono (C66.out _) ?_;rintro e w1 ⟨B,rfl,hN⟩;have N1:Aside (NewK W w1 B (knew (m+1) tg)):=hN;clear hN)
  | (go_at_call 67;refine Calls.mono (C67.out _ (by have:=N1.out.size;have:=WF.out.2.2.1;omega) (fun r hr=>by have:=WF.out.2.2.1;exact(N1.out.old r (by omega)).trans (WF.out.1 r hr))) ?_;rintro e w2 ⟨la,lc,tbs,opv,rfl,hT⟩;have T1:Aside (ThrNew w1 w2 n ops la lc tbs opv):=hT;have hM2:=N1.out.m.same (hT.old _ N1.out.m.mlt) (hT.old _ N1.out.m.nlt) (hT.old _ N1.out.m.vlt);have m7:=hM2.fx.m7;have y7:=hM2.fx.z 7;clear hT hM2))
 obtain⟨B2,hB2⟩:∃B2:MK,B2={B with thr:=.slice la n lc}:=⟨_,rfl⟩
 have hmb:B2.mb=B.mb:=by rw[hB2]
 have P0:Aside (∃u,u=w2.setCell ⟨B.mb,7,none⟩ (.slice la n lc)∧PBorn W ops opv (m+1) n B2 tbs la lc (ks0 (m+1) tg) 0 (knew (m+1) tg) (fun _=>t00) (fun _=>.slice none 0 0) (fun _=>false) u):=⟨_,rfl,by rw[hB2];exact born_start N1.out HN.out.2.1 T1.out HN.out.2.2.2.2 rfl⟩
 rw[← hmb]at P0 ⊢
 clear m7 y7 hB2 hmb
 go_loopg [12] n (fun g x wr=>∃(i:Nat) (s':KSt) (rt:Nat→RTh) (ovs:Nat→Value) (en:Nat→Bool),x= .int .i64 i∧i≤n∧g=n - i∧PBorn W ops opv (m+1) n B2 tbs la lc (ks0 (m+1) tg) i s' rt ovs en wr)
 case atStart=>
  obtain⟨u,rfl,h⟩:=P0.out
  exact⟨0,_,_,_,_,rfl,Nat.zero_le _,rfl,h⟩
 case round=>
  obtain⟨i,s1,rt,ovs,en,rfl,hin,rfl,hP⟩:=hrel
  have P:Aside (PBorn W ops opv (m+1) n B2 tbs la lc (ks0 (m+1) tg) i s1 rt ovs en wr):=hP
  clear P0
  have m7:=hP.r.m.fx.m7
  rw[hP.th]at m7
  rcases Nat.lt_or_ge i n with hlt|hge
  ·have hlt2:(i:Int)<(n:Int):=by omega
   have hwr:IntKind.i64.wrap ((i:Int)+1)=((i+1:Nat):Int):=IntWalk.i64_in _ (by have:=HN.out.1;omega)
   obtain⟨lb,cap,e1,h1⟩:=row_get (k:=i) hP.l (x:=.pointer (some ⟨tbs i,0,none⟩)) (by simp[hlt])
   simp only[Value.slice.injEq,true_and]at e1
   obtain⟨rfl,rfl⟩:=e1
   have f1:=h1.c
   have C68:=born_go P.out hlt rfl
   have C68:Aside (Calls Try.prog 68 #[.pointer (some ⟨B2.mb,0,none⟩),.pointer (some ⟨tbs i,0,none⟩)] wr fun x w'=>x= .returned (.tuple #[])∧∃s' rt' ovs' en',PBorn W ops opv (m+1) n B2 tbs (some ⟨lb,0,none⟩) lc (ks0 (m+1) tg) (i+1) s' rt' ovs' en' w'):=C68
   clear hP h1
   go_wp2_with (go_at_call 68;refine Calls.mono C68.out ?_;rintro e w3 ⟨rfl,s3,rt3,ovs3,en3,hP⟩;have P3:Aside (PBorn W ops opv (m+1) n B2 tbs (some ⟨lb,0,none⟩) lc (ks0 (m+1) tg) (i+1) s3 rt3 ovs3 en3 w3):=hP;clear hP)
   go_roundg (n - (i+1))
   case measure=>omega
   case rel=>exact⟨i+1,s3,rt3,ovs3,en3,rfl,hlt,rfl,P3.out⟩
  ·obtain rfl:n=i:=by omega
   have hge2:¬(n:Int)<(n:Int):=by omega
   clear hP
   go_wp2_with (go_at_call 69;refine Calls.mono (C69.out _ (fun r hr=>by have:=WF.out.2.2.1;exact(P.out.r.old r (by omega)).trans (WF.out.1 r hr))) ?_;rintro e w3 ⟨ub,ta2,tc2,rfl,t1,t2,t3,t4,t5,t6⟩;have Q0:Aside (PMid W ops opv (m+1) n M S B2 tbs la lc ub ta2 tc2 (gBorns KPl ops n (ks0 (m+1) tg)) [] 0 0 s1 rt ovs en (.slice none 0 0) w3):=mid_start P.out t1 t2 t3 t4 t5 t6;clear t1 t2 t3 t4 t5 t6)
   clear m7
   go_loopg [] M (fun g wr=>∃(gs:GS KPl) (order:List Nat) (p rd:Nat) (s3:KSt) (rt3:Nat→RTh) (ovs3:Nat→Value) (en3:Nat→Bool) (ov:Value),PMid W ops opv (m+1) n M S B2 tbs la lc ub ta2 tc2 gs order p rd s3 rt3 ovs3 en3 ov wr∧RefI ops n M S (ks0 (m+1) tg) gs order p rd∧g=M - order.length)
   case atStart=>exact⟨_,_,_,_,_,_,_,_,_,Q0.out,refI_start _,rfl⟩
   case round=>
    obtain⟨gs,order,p,rd,s3,rt3,ovs3,en3,ov,hMd,hRI,rfl⟩:=hrel
    have MM:Aside (PMid W ops opv (m+1) n M S B2 tbs la lc ub ta2 tc2 gs order p rd s3 rt3 ovs3 en3 ov wr):=hMd
    have II:Aside (RefI ops n M S (ks0 (m+1) tg) gs order p rd):=hRI
    have m7:=hMd.r.m.fx.m7
    rw[hMd.th]at m7
    clear hMd hRI
    by_cases hd:cnt gs.live n=0∨order.length=M
    ·have hdn:Aside (cnt gs.live n=0∨order.length=M):=hd
     clear hd
     obtain⟨oo,ooc,ho⟩:=slice_row MM.out.t.row
     subst ho
     go_wp2_with (go_at_call 70;refine Calls.mono (pick_end MM.out HN.out.1 hdn.out) ?_;rintro e w3 ⟨rfl,hE⟩;have E:Aside (PEnd W ops opv (m+1) n M B2 tbs la lc ub gs order s3 rt3 ovs3 en3 (.slice oo order.length ooc) w3):=hE;have m2:=hE.r.m.fx.m2;have m3:=hE.r.m.fx.m3;have m4:=hE.r.m.fx.m4;have m5:=hE.r.m.fx.m5;clear hE m7)
     have VL:Aside (s3.vals.length≤65536):=Nat.le_trans (walk_len _ _ _) E.out.gr.w.n3
     obtain⟨k1,hk1⟩:∃k1,s3.hd.1=k1:=⟨_,rfl⟩
     obtain⟨k2,hk2⟩:∃k2,s3.hd.2=k2:=⟨_,rfl⟩
     obtain⟨k3,hk3⟩:∃k3,s3.fr.1=k3:=⟨_,rfl⟩
     obtain⟨k4,hk4⟩:∃k4,s3.fr.2=k4:=⟨_,rfl⟩
     have ST:Aside (KSt.state s3=[k1,k2,k3,k4]++s3.vals):=by rw[← hk1,← hk2,← hk3,← hk4];rfl
     rw[hk1]at m2
     rw[hk2]at m3
     rw[hk3]at m4
     rw[hk4]at m5
     clear hk1 hk2 hk3 hk4
     go_region
     all_goals(
      by_cases hnn:s3.vals=[]
      ·have NV:Aside (s3.vals=[]):=hnn
       have ST2:Aside ((KSt.state s3).length=4):=by rw[ST.out,NV.out];rfl
       clear hnn
       go_wp2_with (first
        | (go_at_call 71;refine Calls.mono (rvalues_calls (by exact E.out.r.m.same (heap_alloc_lt _ _ E.out.r.m.mlt) (heap_alloc_lt _ _ E.out.r.m.nlt) (heap_alloc_lt _ _ E.out.r.m.vlt)) E.out.gr.w) ?_;rintro e w4 ⟨ov4,rfl,hV,hV2⟩;obtain rfl:=hV2 NV.out;have R1:Aside (ValsAt w3 w4 (.slice (some ⟨w3.heap.size,0,none⟩) 4 4) [k1,k2,k3,k4]):=(four_at (by rfl)).later hV;clear hV hV2)
        | (at_builtin;refine wpList_append_own_none rfl _ _ _ rfl 0 2 i0 1 Try.underlying22 hi (.slice (some ⟨w3.heap.size,0,none⟩) 4 4) 4 _ rfl R1.out.row rfl ?_;have Z:Aside (ValsAt w3 w4 (.slice (some ⟨w3.heap.size,0,none⟩) 4 4) (KSt.state s3)):=(by rw[ST.out,NV.out];exact R1.out);have m7:=mach_end E.out Z.out)
        | (go_at_call 72;refine Calls.mono (trace_end HN.out.1 E.out Z.out) ?_;rintro e w6 ⟨xa,xc,rfl,hT⟩;have TR:Aside (TrOut w4 n ovs3 xa xc w6):=hT;have hz6:=zero_end WF.out.2.2.2 (by rw[WF.out.2.2.1];omega) E.out Z.out hT;have ZZ:Aside (w6.heap[w.heap.size]? =some (.cells #[.slice none 0 0,.slice none 0 0,.slice none 0 0,.bool false] 31 (0,0))):=hz6;have z0:w6.cell? ⟨w.heap.size,0,none⟩=some (.slice none 0 0):=(by simp[World.cell?,hz6]);have z1:w6.cell? ⟨w.heap.size,1,none⟩=some (.slice none 0 0):=(by simp[World.cell?,hz6]);have z2:w6.cell? ⟨w.heap.size,2,none⟩=some (.slice none 0 0):=(by simp[World.cell?,hz6]);have z3:w6.cell? ⟨w.heap.size,3,none⟩=some (.bool false):=(by simp[World.cell?,hz6]);have y0:w6.frozen? ⟨w.heap.size,0,none⟩=false:=(by simp[World.frozen?,hz6]);have y1:w6.frozen? ⟨w.heap.size,1,none⟩=false:=(by simp[World.frozen?,hz6]);have y2:w6.frozen? ⟨w.heap.size,2,none⟩=false:=(by simp[World.frozen?,hz6]);have y3:w6.frozen? ⟨w.heap.size,3,none⟩=false:=(by simp[World.frozen?,hz6]);clear hT hz6))
       obtain⟨hR,hC⟩:=end_out (S:=S) (s0:=ks0 (m+1) tg) (sa:=(some ⟨w3.heap.size,0,none⟩)) (sc:=4) WF.out.1 rfl WF.out.2.2.1 WF.out.2.2.2 E.out (by first|exact Z.out|(rw[ST2.out];exact Z.out)) TR.out (refI_end II.out hdn.out) (w':=(((w6.setCell ⟨w.heap.size,0,none⟩ (.slice xa n xc)).setCell ⟨w.heap.size,1,none⟩ (.slice oo order.length ooc)).setCell ⟨w.heap.size,2,none⟩ (.slice (some ⟨w3.heap.size,0,none⟩) 4 4)).setCell ⟨w.heap.size,3,none⟩ (.bool (decide (0<cnt gs.live n)))) (by first|rfl|(rw[ST2.out]))
       simp only[ST2.out]at hR hC
       clear z0 z1 z2 z3 y0 y1 y2 y3
       generalize (((w6.setCell ⟨w.heap.size,0,none⟩ (.slice xa n xc)).setCell ⟨w.heap.size,1,none⟩ (.slice oo order.length ooc)).setCell ⟨w.heap.size,2,none⟩ (.slice (some ⟨w3.heap.size,0,none⟩) 4 4)).setCell ⟨w.heap.size,3,none⟩ (.bool (decide (0<cnt gs.live n)))=W9 at hR hC ⊢
       have q0:W9.cell? ⟨w.heap.size,0,none⟩=some (.slice xa n xc):=by simp[World.cell?,hC]
       have q1:W9.cell? ⟨w.heap.size,1,none⟩=some (.slice oo order.length ooc):=by simp[World.cell?,hC]
       have q2:W9.cell? ⟨w.heap.size,2,none⟩=some (.slice (some ⟨w3.heap.size,0,none⟩) 4 4):=by simp[World.cell?,hC]
       have q3:W9.cell? ⟨w.heap.size,3,none⟩=some (.bool (decide (0<cnt gs.live n))):=by simp[World.cell?,hC]
       exact bodyPost_ret (v:=.agg #[.slice xa n xc,.slice oo order.length ooc,.slice (some ⟨w3.heap.size,0,none⟩) 4 4,.bool (decide (0<cnt gs.live n))]) (by simp[results,Try.f35,go_sem,q0,q1,q2,q3]) rfl ⟨_,rfl,hR⟩
      ·have NV:Aside (s3.vals≠[]):=hnn
       have ST2:Aside ((KSt.state s3).length=4+s3.vals.length):=by rw[ST.out,List.length_append];rfl
       clear hnn
       go_wp2_with (first
        | (go_at_call 71;refine Calls.mono (rvalues_calls (by exact E.out.r.m.same (heap_alloc_lt _ _ E.out.r.m.mlt) (heap_alloc_lt _ _ E.out.r.m.nlt) (heap_alloc_lt _ _ E.out.r.m.vlt)) E.out.gr.w) ?_;rintro e w4 ⟨ov4,rfl,hV,hV2⟩;obtain⟨g4,cap4,rfl⟩:=vals_some hV NV.out;have R1:Aside (ValsAt w3 w4 (.slice (some ⟨w3.heap.size,0,none⟩) 4 4) [k1,k2,k3,k4]):=(four_at (by rfl)).later hV;have D:Aside (w4.ownsRow 0 2 1 (.slice (some ⟨g4,0,none⟩) s3.vals.length cap4) s3.vals.length (s3.vals.map fun v=>.int .i64 v)):=hV.row;clear hV hV2)
        | (at_builtin;refine wpList_append_fresh rfl (.tmp 77) (.tmp 78) 22 rfl 2 i0 z00 1 8 Try.underlying22 hi hz0 hz1 hz2 hz3 (by decide) (.slice (some ⟨w3.heap.size,0,none⟩) 4 4) 4 ([k1,k2,k3,k4].map fun v=>.int .i64 v) rfl R1.out.row ⟨g4,0,none⟩ s3.vals.length cap4 (s3.vals.map fun v=>.int .i64 v) rfl (by simp) (row_cells D.out) (by intro u hu;obtain⟨x,_,rfl⟩:=List.mem_map.1 hu;rfl) (by have:=VL.out;unfold maxLen;omega) (by have:=VL.out;omega) ?_;intro v5 w5 hown hgrow hfr;obtain⟨g5,cap5,rfl⟩:=some_slice hown (by omega);have Z:Aside (ValsAt w3 w5 (.slice (some ⟨g5,0,none⟩) (4+s3.vals.length) cap5) (KSt.state s3)):=(by rw[ST.out];exact R1.out.more hown hgrow hfr);have m7:=mach_end E.out Z.out;clear hown hgrow hfr)
        | (go_at_call 72;refine Calls.mono (trace_end HN.out.1 E.out Z.out) ?_;rintro e w6 ⟨xa,xc,rfl,hT⟩;have TR:Aside (TrOut w5 n ovs3 xa xc w6):=hT;have hz6:=zero_end WF.out.2.2.2 (by rw[WF.out.2.2.1];omega) E.out Z.out hT;have ZZ:Aside (w6.heap[w.heap.size]? =some (.cells #[.slice none 0 0,.slice none 0 0,.slice none 0 0,.bool false] 31 (0,0))):=hz6;have z0:w6.cell? ⟨w.heap.size,0,none⟩=some (.slice none 0 0):=(by simp[World.cell?,hz6]);have z1:w6.cell? ⟨w.heap.size,1,none⟩=some (.slice none 0 0):=(by simp[World.cell?,hz6]);have z2:w6.cell? ⟨w.heap.size,2,none⟩=some (.slice none 0 0):=(by simp[World.cell?,hz6]);have z3:w6.cell? ⟨w.heap.size,3,none⟩=some (.bool false):=(by simp[World.cell?,hz6]);have y0:w6.frozen? ⟨w.heap.size,0,none⟩=false:=(by simp[World.frozen?,hz6]);have y1:w6.frozen? ⟨w.heap.size,1,none⟩=false:=(by simp[World.frozen?,hz6]);have y2:w6.frozen? ⟨w.heap.size,2,none⟩=false:=(by simp[World.frozen?,hz6]);have y3:w6.frozen? ⟨w.heap.size,3,none⟩=false:=(by simp[World.frozen?,hz6]);clear hT hz6))
       obtain⟨hR,hC⟩:=end_out (S:=S) (s0:=ks0 (m+1) tg) (sa:=(some ⟨g5,0,none⟩)) (sc:=cap5) WF.out.1 rfl WF.out.2.2.1 WF.out.2.2.2 E.out (by first|exact Z.out|(rw[ST2.out];exact Z.out)) TR.out (refI_end II.out hdn.out) (w':=(((w6.setCell ⟨w.heap.size,0,none⟩ (.slice xa n xc)).setCell ⟨w.heap.size,1,none⟩ (.slice oo order.length ooc)).setCell ⟨w.heap.size,2,none⟩ (.slice (some ⟨g5,0,none⟩) (4+s3.vals.length) cap5)).setCell ⟨w.heap.size,3,none⟩ (.bool (decide (0<cnt gs.live n)))) (by first|rfl|(rw[ST2.out]))
       simp only[ST2.out]at hR hC
       clear z0 z1 z2 z3 y0 y1 y2 y3
       generalize (((w6.setCell ⟨w.heap.size,0,none⟩ (.slice xa n xc)).setCell ⟨w.heap.size,1,none⟩ (.slice oo order.length ooc)).setCell ⟨w.heap.size,2,none⟩ (.slice (some ⟨g5,0,none⟩) (4+s3.vals.length) cap5)).setCell ⟨w.heap.size,3,none⟩ (.bool (decide (0<cnt gs.live n)))=W9 at hR hC ⊢
       have q0:W9.cell? ⟨w.heap.size,0,none⟩=some (.slice xa n xc):=by simp[World.cell?,hC]
       have q1:W9.cell? ⟨w.heap.size,1,none⟩=some (.slice oo order.length ooc):=by simp[World.cell?,hC]
       have q2:W9.cell? ⟨w.heap.size,2,none⟩=some (.slice (some ⟨g5,0,none⟩) (4+s3.vals.length) cap5):=by simp[World.cell?,hC]
       have q3:W9.cell? ⟨w.heap.size,3,none⟩=some (.bool (decide (0<cnt gs.live n))):=by simp[World.cell?,hC]
       exact bodyPost_ret (v:=.agg #[.slice xa n xc,.slice oo order.length ooc,.slice (some ⟨g5,0,none⟩) (4+s3.vals.length) cap5,.bool (decide (0<cnt gs.live n))]) (by simp[results,Try.f35,go_sem,q0,q1,q2,q3]) rfl ⟨_,rfl,hR⟩)
    ·have hdn:Aside (¬(cnt gs.live n=0∨order.length=M)):=hd
     clear hd
     have h1:¬cnt gs.live n=0:=fun h=>hdn.out (.inl h)
     have h2:¬order.length=M:=fun h=>hdn.out (.inr h)
     have C70:Aside (Calls Try.prog 70 #[.pointer (some ⟨ub,0,none⟩),.slice la n lc] wr fun x w'=>∃y p1 r1 ov' c,x= .returned (.int .i64 (y:Nat))∧y<n∧(gs.th y).call=some c∧PMid W ops opv (m+1) n M S B2 tbs la lc ub ta2 tc2 gs (order++[y]) p1 r1 s3 rt3 ovs3 en3 ov' w'∧RefI ops n M S (ks0 (m+1) tg) (gs.put y (stpG KPl (ops y) gs.q (gs.th y))) (order++[y]) p1 r1):=pick_go MM.out II.out HN.out.1 HN.out.2.2.1 HN.out.2.2.2.1 h1 h2
     have hom:order.length<M:=by have:=MM.out.om;omega
     clear h1 h2
     go_wp2_with (first
      | (go_at_call 70;refine Calls.mono C70.out ?_;rintro e w3 ⟨y,p1,r1,ov',c,rfl,hy,hc,hMd,hRI⟩;have M3:Aside (PMid W ops opv (m+1) n M S B2 tbs la lc ub ta2 tc2 gs (order++[y]) p1 r1 s3 rt3 ovs3 en3 ov' w3∧RefI ops n M S (ks0 (m+1) tg) (gs.put y (stpG KPl (ops y) gs.q (gs.th y))) (order++[y]) p1 r1∧y<n):=⟨hMd,hRI,hy⟩;have C73:Aside (Calls Try.prog 73 #[.pointer (some ⟨B2.mb,0,none⟩),.pointer (some ⟨tbs y,0,none⟩)] w3 fun x w'=>x= .returned (.tuple #[])∧∃s' rt' ovs' en',PMid W ops opv (m+1) n M S B2 tbs la lc ub ta2 tc2 (gs.put y (stpG KPl (ops y) gs.q (gs.th y))) (order++[y]) p1 r1 s' rt' ovs' en' ov' w'):=step_go hMd hy hc;have hy0:¬((y:Nat):Int)<0:=(by omega);have hy1:((y:Nat):Int)<(n:Int):=(by omega);have m8:=hMd.r.m.fx.m7;rw[hMd.th]at m8;obtain⟨lb,cap,e1,h1⟩:=row_get (k:=y) hMd.l (x:=.pointer (some ⟨tbs y,0,none⟩)) (by simp[hy]);rw[e1]at m8;have f1:=h1.c;clear hMd hRI hc h1 m7 e1)
      | (go_at_call 73;refine Calls.mono C73.out ?_;rintro e w4 ⟨rfl,s',rt',ovs',en',hMd⟩;have M4:Aside (PMid W ops opv (m+1) n M S B2 tbs la lc ub ta2 tc2 (gs.put y (stpG KPl (ops y) gs.q (gs.th y))) (order++[y]) p1 r1 s' rt' ovs' en' ov' w4):=hMd;clear hMd))
     go_roundg (M - (order++[y]).length)
     case measure=>simp;omega
     case rel=>exact⟨_,_,_,_,_,_,_,_,_,M4.out,M3.out.2.1,rfl⟩
end
section
theorem bes_good{An:Anchor}{P:Program}{Post:Value→World→Prop}{fr:Frame}{W:World}(hA:An.Holds W)
 (hB:Bes An P (fun g w=>g.status= .running∧∀d,∃v,stepG P true g (w.at d)= .ended (.done v) (w.at d) #[]∧(An.Holds (w.at d)→Post v (w.at d))) (G fr []) W):
 ∃M last o w' t',runNT P (M+1) (solo (G fr []) W) #[]=(.ended o w',t')∧runN P M (solo (G fr []) W)= .next last∧step P last= .ended o w'∧Go.Conc.Good P Post last o w' t':=by
 rw[solo_eq_crowd]
 obtain⟨N,gs',g',w',sl',T',q',B',hr,h0',⟨hrun,hS⟩,hL',hP',hA'⟩:=hB #[G fr []] none #[] (fun _=>0) 0 rfl (leavers_one _ _) past_nil hA
 obtain⟨K,last,o,w2,t',e1,e2,e3,e4⟩:=beside_ends (P:=P) (Post:=Post) (D:=fun _ _ es=>∀e∈es,EvL NoShun B' e) (sl:=sl') (n:=0) (fun _ _ _ h=>h) h0' hL' hP' (Goes.stop fun w₂ r₂=>by
  obtain⟨d,rfl⟩:=r₂
  obtain⟨v,h1,h2⟩:=hS d
  exact⟨hrun,v,#[],h1,by simp,h2 (hA'.at d)⟩)
 refine⟨N+K,last,o,w2,t',?_,?_,e3,e4⟩
 ·rw[Nat.add_assoc,runNT_add,hr];exact e1
 ·rw[runN_add,← runNT_fst P _ _ #[],hr];exact e2
theorem below_of{W w':World}(h:(⟨W.heap.size,W⟩:Anchor).Holds w')(hc:∀(r:Nat) (c:Array Value) (e:TypeId) (z:Nat×Nat),W.heap[r]? =some (.cells c e z)→w'.heap[r]? =some (.cells c e z)):Below W.heap.size W w':=by
 refine⟨h.os,h.tape,h.output,h.low,fun r hr=>?_⟩
 obtain⟨o,ho⟩:∃o,W.heap[r]? =some o:=⟨_,Array.getElem?_eq_getElem hr⟩
 by_cases e:∃c e z,o= .cells c e z
 ·obtain⟨c,e,z,rfl⟩:=e
  rw[hc r c e z ho,ho]
 ·rw[h.obj r o hr ho fun c e1 z e2=>e ⟨c,e1,z,e2⟩,ho]
section
variable{An:Anchor}{W:World}
def LawPost(W:World)(v:Value)(w':World):Prop:=v= .bool true∧∀(r:Nat) (c:Array Value) (e:TypeId) (z:Nat×Nat),W.heap[r]? =some (.cells c e z)→w'.heap[r]? =some (.cells c e z)
def LawStop(An:Anchor)(Post:Value→World→Prop)(g:Goroutine)(w:World):Prop:=g.status= .running∧∀d,∃v,stepG Try.prog true g (w.at d)= .ended (.done v) (w.at d) #[]∧(An.Holds (w.at d)→Post v (w.at d))
end
theorem Try.own:ownKnob Try.prog.godebug=none:=by kernel_rfl
theorem Try.laidOut:laidOutB Try.prog=true:=by kernel_rfl
end
section
variable{An:Anchor}{W w w':World}
def S6l:List Nat:=[32,33,35,63,66,67,68,69,70,71,72,73,91,92,93,94,95,109]
theorem closed6:Closed Try.prog (fun f=>S6l.contains f) true:=closed_ofX (x:=[]) (fun f h=>by cases h) (by kernel_rfl)
theorem OpsIn.kept{N:Nat→Prop}{n tb o tl:Nat}{ta:Option Addr}{oa:Nat→Option Addr}{ol oc:Nat→Nat}{ops:Nat→List Op4}{S:List Int}{sa:Option Addr}(h:OpsIn w N n tb o tl ta oa ol oc ops S sa)(hs:w.heap.size≤w'.heap.size)
 (hold:∀(r:Nat) (c:Array Value) (e:TypeId) (z:Nat×Nat),w.heap[r]? =some (.cells c e z)→w'.heap[r]? =some (.cells c e z)):OpsIn w' N n tb o tl ta oa ol oc ops S sa:=by
 have hc:∀{a:Addr} {v:Value},w.cell? a=some v→w'.cell? a=some v∧w'.frozen? a=w.frozen? a:=fun{a v} h=>by
  obtain⟨c,e,z,ho⟩:=cell_block h
  have e1:w'.heap[a.block]? =w.heap[a.block]?:=(hold _ _ _ _ ho).trans ho.symm
  exact⟨by rw[← h];unfold World.cell?;simp only[e1],by unfold World.frozen?;simp only[e1]⟩
 refine⟨h.hn,h.hta,fun hp=>by have:=h.htb hp;omega,fun j hj=>?_,h.hlen,fun j hj k x hx=>?_,h.hsl,fun hp=>?_⟩
 ·obtain⟨h1,h2,h3⟩:=h.hth j hj
  exact⟨(hc h1).1,(hc h1).2.trans h2,h3⟩
 ·obtain⟨opb,oo,h1,h2,f0,f1,f2,f3,g0,g1,g2,g3⟩:=h.hop j hj k x hx
  exact⟨opb,oo,h1,h2,(hc f0).1,(hc f1).1,(hc f2).1,(hc f3).1,(hc f0).2.trans g0,(hc f1).2.trans g1,(hc f2).2.trans g2,(hc f3).2.trans g3⟩
 ·obtain⟨sb,so,c,e,z,h1,h2,h3,h4⟩:=h.hS hp
  exact⟨sb,so,c,e,z,h1,h2,hold _ _ _ _ h3,h4⟩
section
variable{m:Pl}{ops:Nat→List Op4}{n M:Nat}
theorem gTurn_le{s:GS m×List Nat}(h:s.2.length≤M)(i:Int):(gTurn ops n M s i).2.length≤M:=by
 unfold gTurn
 split
 ·rename_i hc
  have:=hc.2.2.2
  simp only[List.length_append,List.length_cons,List.length_nil]
  omega
 ·exact h
theorem gTurns_le:∀(l:List Int) (s:GS m×List Nat),s.2.length≤M→(gTurns ops n M l s).2.length≤M
 | [],_,h=>h
 | i::l,_,h=>gTurns_le l _ (gTurn_le h i)
theorem gRounds_le:∀(f:Nat) (s:GS m×List Nat),s.2.length≤M→(gRounds ops n M f s).2.length≤M
 | 0,_,h=>h
 | f+1,s,h=>by
   unfold gRounds
   split
   ·exact h
   ·exact gRounds_le f _ (gTurns_le _ _ h)
theorem gOver_le{S:List Int}{f:Nat}{s:GS m}:(gOver ops n M S f s).2.length≤M:=gRounds_le _ _ (gTurns_le _ _ (Nat.zero_le _))
variable{I:m.S→Prop}(hb:∀s o,I s→I (m.beg s o).1)(hs:∀s c,I s→I (m.stp s c).1)
end
end
noncomputable section
variable{F:Fz}{w:World}
def kalBody:Code:=Try.f10.body.getD .skip
def kals0:=pC [] kalBody
def kalr0:=pC [zt] kalBody
def kals1:=pC [zf] kalBody
def kals2:=pC [zf,zt] kalBody
def kalr1:=pC [zf,zt,zt] kalBody
def kalc23:=pC [zf,zt,zf] kalBody
def kals3:=pC [zf,zt,zf,zt] kalBody
def kals4:=pC [zf,zf] kalBody
def kalr3:=pC [zf,zf,zt] kalBody
def kals5:=pC [zf,zf,zf] kalBody
def kals6:=pC [zf,zf,zf,zt] kalBody
def kals8:=pC [zf,zf,zf,zf] kalBody
def kalr6:=pC [zf,zf,zf,zf,zt] kalBody
def kals9:=pC [zf,zf,zf,zf,zf] kalBody
def kals10:=pC [zf,zf,zf,zf,zf,zt] kalBody
def kalr7:=pC [zf,zf,zf,zf,zf,zt,zt] kalBody
def kalb0:=pC [zf,zf,zf,zf,zf,zt,zf] kalBody
def kall11:=pC [zf,zf,zf,zf,zf,zt,zf,zt] kalBody
def kals12:=pC [zf,zf,zf,zf,zf,zt,zf,zt,zt] kalBody
def kalr8:=pC [zf,zf,zf,zf,zf,zt,zf,zt,zt,zt] kalBody
def kals13:=pC [zf,zf,zf,zf,zf,zt,zf,zt,zt,zf] kalBody
def kalc42:=pC [zf,zf,zf,zf,zf,zt,zf,zt,zt,zf,zt] kalBody
def kals14:=pC [zf,zf,zf,zf,zf,zt,zf,zt,zt,zf,zf] kalBody
def kalb1:=pC [zf,zf,zf,zf,zf,zt,zf,zt,zt,zf,zf,zt] kalBody
def kals15:=pC [zf,zf,zf,zf,zf,zt,zf,zt,zt,zf,zf,zt,zt] kalBody
def kalr9:=pC [zf,zf,zf,zf,zf,zt,zf,zt,zt,zf,zf,zt,zt,zt] kalBody
def kals16:=pC [zf,zf,zf,zf,zf,zt,zf,zt,zt,zf,zf,zt,zt,zf] kalBody
def kalr10:=pC [zf,zf,zf,zf,zf,zt,zf,zt,zt,zf,zf,zt,zt,zf,zt] kalBody
def kals17:=pC [zf,zf,zf,zf,zf,zt,zf,zt,zt,zf,zf,zt,zt,zf,zf] kalBody
def kalr13:=pC [zf,zf,zf,zf,zf,zt,zf,zt,zt,zf,zf,zf] kalBody
def kals19:=pC [zf,zf,zf,zf,zf,zf] kalBody
def kalr14:=pC [zf,zf,zf,zf,zf,zf,zt] kalBody
def kals20:=pC [zf,zf,zf,zf,zf,zf,zf] kalBody
def kalr15:=pC [zf,zf,zf,zf,zf,zf,zf,zt] kalBody
def kals21:=pC [zf,zf,zf,zf,zf,zf,zf,zf] kalBody
def kalr16:=pC [zf,zf,zf,zf,zf,zf,zf,zf,zt] kalBody
def kals22:=pC [zf,zf,zf,zf,zf,zf,zf,zf,zf] kalBody
def kalr17:=pC [zf,zf,zf,zf,zf,zf,zf,zf,zf,zt] kalBody
theorem kals0':kals0= .seq kalr0 kals1:=by kernel_rfl
theorem kalr0':kalr0= .region 0 (oC kalr0) false:=by kernel_rfl
theorem kals1':kals1= .seq kals2 kals4:=by kernel_rfl
theorem kals2':kals2= .seq kalr1 kalc23:=by kernel_rfl
theorem kalr1':kalr1= .region 1 (oC kalr1) false:=by kernel_rfl
theorem kalc23':kalc23= .cond (.tmp 23) kals3 .skip:=by kernel_rfl
theorem kals4':kals4= .seq kalr3 kals5:=by kernel_rfl
theorem kals5':kals5= .seq kals6 kals8:=by kernel_rfl
theorem kals8':kals8= .seq kalr6 kals9:=by kernel_rfl
theorem kals9':kals9= .seq kals10 kals19:=by kernel_rfl
theorem kals10':kals10= .seq kalr7 kalb0:=by kernel_rfl
theorem kalb0':kalb0= .block 0 kall11:=by kernel_rfl
theorem kall11':kall11= .loop kals12:=by kernel_rfl
theorem kals12':kals12= .seq kalr8 kals13:=by kernel_rfl
theorem kalr8':kalr8= .region 8 (oC kalr8) false:=by kernel_rfl
theorem kals13':kals13= .seq kalc42 kals14:=by kernel_rfl
theorem kalc42':kalc42= .cond (.tmp 42) .skip (.exit 0):=by kernel_rfl
theorem kals14':kals14= .seq kalb1 kalr13:=by kernel_rfl
theorem kalb1':kalb1= .block 1 kals15:=by kernel_rfl
theorem kals15':kals15= .seq kalr9 kals16:=by kernel_rfl
theorem kals16':kals16= .seq kalr10 kals17:=by kernel_rfl
theorem kalr10':kalr10= .region 10 (oC kalr10) true:=by kernel_rfl
theorem kals19':kals19= .seq kalr14 kals20:=by kernel_rfl
theorem kals20':kals20= .seq kalr15 kals21:=by kernel_rfl
theorem kals21':kals21= .seq kalr16 kals22:=by kernel_rfl
theorem kals22':kals22= .seq kalr17 .ret:=by kernel_rfl
theorem enter_kal(args:Array Value):Frame.enter Try.prog 10 args .normal=(Go.Conc.base 10).at {tmps:=args++Array.replicate (155 - args.size) undef,defers:=[]} [.code kals0]:=enter_at args Try.func10 rfl
def kalT(s:Nat→Value):Array Value:= #[s 0,s 1,s 2,s 3,s 4,s 5,s 6,s 7,s 8,s 9,s 10,s 11,s 12,s 13,s 14,s 15,s 16,s 17,s 18,s 19,s 20,s 21,s 22,s 23,s 24,s 25,s 26,s 27,s 28,s 29,s 30,s 31,s 32,s 33,s 34,s 35,s 36,s 37,s 38,s 39,s 40,s 41,s 42,s 43,s 44,s 45,s 46,s 47,s 48,s 49,s 50,s 51,s 52,s 53,s 54,s 55,s 56,s 57,s 58,s 59,s 60,s 61,s 62,s 63,s 64,s 65,s 66,s 67,s 68,s 69,s 70,s 71,s 72,s 73,s 74,s 75,s 76,s 77,s 78,s 79,s 80,s 81,s 82,s 83,s 84,s 85,s 86,s 87,s 88,s 89,s 90,s 91,s 92,s 93,s 94,s 95,s 96,s 97,s 98,s 99,s 100,s 101,s 102,s 103,s 104,s 105,s 106,s 107,s 108,s 109,s 110,s 111,s 112,s 113,s 114,s 115,s 116,s 117,s 118,s 119,s 120,s 121,s 122,s 123,s 124,s 125,s 126,s 127,s 128,s 129,s 130,s 131,s 132,s 133,s 134,s 135,s 136,s 137,s 138,s 139,s 140,s 141,s 142,s 143,s 144,s 145,s 146,s 147,s 148,s 149,s 150,s 151,s 152,s 153,s 154]
theorem kalT_of{A:Array Value}(h:A.size=155):∃s,A=kalT s:=by
 obtain⟨s,hs,_⟩:=arr_lit A h
 exact⟨s,hs⟩
theorem kal_0{a b:Value}{cs:List Frame}{main:Bool}{Stop:Goroutine→World→Prop}
 (h:∀A,Slots 155 A [(0,a),(1,b)]→Own Try.prog main F Stop (G (Frame.enter Try.prog 30 #[] .normal) (((Go.Conc.base 10).at ⟨A,[]⟩ [.inRegion (oC kalr1) [0,1],.code kalc23,.code kals4])::cs)) w):
 Own Try.prog main F Stop (G (Frame.enter Try.prog 10 #[a,b] .normal) cs) w:=by
 rw[enter_kal]
 walk_nrm
 refine ogSR kals0' kalr0' ?_
 simp only[kalr0,kalBody,Try.f10,zz,Nat.reduceAdd]
 (refine oW fun dd K hK=>?_;go_simp;refine qT hK ?_;clear hK K)
 refine ogE ?_
 refine ogSE kals1' ?_
 refine ogSR kals2' kalr1' ?_
 simp only[kalr1,kalBody,Try.f10,zz,Nat.reduceAdd]
 refine oc callable30 #[] ?_
 refine h _ ?_
 exact⟨rfl,rfl,rfl,trivial⟩
theorem kal_1{a b:Value}{A:Array Value}(hA:Slots 155 A [(0,a),(1,b)]){cs:List Frame}{main:Bool}{Stop:Goroutine→World→Prop}
 (h:∀A,Slots 155 A [(0,a),(1,b)]→Own Try.prog main F Stop (G ((Go.Conc.base 10).at ⟨A,[]⟩ [.code kals4]) cs) w):
 Own Try.prog main F Stop (G (((Go.Conc.base 10).at ⟨A,[]⟩ [.inRegion (oC kalr1) [0,1],.code kalc23,.code kals4]).finish (.bool true)) cs) w:=by
 obtain⟨hsz,h0,h1,_⟩:=hA
 obtain⟨s,rfl⟩:=kalT_of hsz
 change s 0=_ at h0
 change s 1=_ at h1
 clear hsz
 simp only[kalT,h0,h1]
 clear h0 h1
 rw[Frame.finish_at]
 simp only[kalr1,kalBody,Try.f10,zz,Nat.reduceAdd]
 walk_nrm
 (refine oW fun dd K hK=>?_;go_simp;refine qT hK ?_;clear hK K)
 refine ogE ?_
 rw[kalc23']
 refine ogF ?_
 simp only[Bool.false_eq_true,if_false]
 refine ogK ?_
 refine h _ ?_
 exact⟨rfl,rfl,rfl,trivial⟩
theorem own_rest{P:Program}{S:FuncId→Bool}(hC:Closed P S true)(hE:NoEarly P){c:Code}(hc:codeOk P S true c=true){A:Array Value}{w:World}{R:Array Value→World→Prop}{b:Frame}{k:List Item}(hk:b.kind≠.early)
 (H:∀τ e,c.wp P (fun x a w=>x= .ret∧a.defers=[]∧R a.tmps w) ⟨A,[]⟩ (retape w τ e)) {cs:List Frame} {main:Bool} {Stop:Goroutine→World→Prop}
 (K:∀A' w' τ e t',R A' (retape w' τ e)→Gd F0 w w'→Own P main F0 Stop (G {b.at ⟨A',[]⟩ (.code .ret::t')with mode:=.returning} cs) w'):Own P main F0 Stop (G (b.at ⟨A,[]⟩ (.code c::k)) cs) w:=by
 refine lift (Q:=fun x a w=>x= .ret∧a.defers=[]∧R a.tmps w) hC (fun _ _=>rfl) hE hc (wf_E0 w) rfl (fun e a w hq=>.inr ⟨hq.1,hq.2.1⟩) (fun τ e=>?_) hk (fun a' w' τ e hq _ hg=>?_) (fun a' w' τ e t' hq _ hg=>?_)
 ·rw[mask_none (fun _=>rfl)]
  exact H τ e
 ·exact absurd hq.1 (by simp)
 ·obtain⟨_,hd,h⟩:=hq
  rw[mask_none (fun _=>rfl)]at h
  obtain⟨tm,df⟩:=a'
  simp only at hd
  subst hd
  exact K tm w' τ e t' h hg
theorem law_ends2{f k:Nat}{fn:Func}{A:Array Value}(h2:¬2=f)(hf:Try.prog.funcs[f]? =some fn)(hr:fn.results= #[.tmp k]){v:Value}(hA:A.getD k undef=v)(w:World)(t:List Item):
 stepG Try.prog true (G {(Go.Conc.base f).at ⟨A,[]⟩ (.code .ret::t)with mode:=.returning} []) w= .ended (.done v) w #[]:=by
 subst hA
 simp[G,stepG,unwind,doReturn,results,Frame.at,base,hf,hr,seen,GStep.after,h2]
theorem law_stop2{An:Anchor}{W:World}{f k:Nat}{fn:Func}{A:Array Value}(hf:Try.prog.funcs[f]? =some fn)(hr:fn.results= #[.tmp k])(h2:¬2=f)(hA:A.getD k undef= .bool true){w:World}(t:List Item)(h:∀(r:Nat) (c:Array Value) (e:TypeId) (z:Nat×Nat),W.heap[r]? =some (.cells c e z)→w.heap[r]? =some (.cells c e z)):
 LawStop An (LawPost W) (G {(Go.Conc.base f).at ⟨A,[]⟩ (.code .ret::t)with mode:=.returning} []) w:=
 ⟨rfl,fun d=>⟨_,law_ends2 h2 hf hr hA _ t,fun _=>⟨rfl,h⟩⟩⟩
end
section
variable{w w' W:World}
structure Ops10(w:World)(oa:Option Addr)(ol oc:Nat)(L:List Op4):Prop where
 lc:ol≤oc
 len:L.length=min ol 65536
 op:∀k x,L[k]? =some x→∃opb oo,oa=some ⟨opb,oo,none⟩∧
  w.cell? ⟨opb,oo+k*4,none⟩=some (.int .i64 x.kd)∧w.cell? ⟨opb,oo+k*4+1,none⟩=some (.int .i64 x.a)∧w.cell? ⟨opb,oo+k*4+2,none⟩=some (.int .i64 x.b)∧w.cell? ⟨opb,oo+k*4+3,none⟩=some (.int .i64 x.c)∧
  w.frozen? ⟨opb,oo+k*4,none⟩=false∧w.frozen? ⟨opb,oo+k*4+1,none⟩=false∧w.frozen? ⟨opb,oo+k*4+2,none⟩=false∧w.frozen? ⟨opb,oo+k*4+3,none⟩=false
theorem Ops10.olds{oa:Option Addr}{ol oc:Nat}{L:List Op4}(h:Ops10 w oa ol oc L)(hk:∀r,r<w.heap.size→w'.heap[r]? =w.heap[r]?):Ops10 w' oa ol oc L:=by
 have hc:∀{a:Addr} {v:Value},w.cell? a=some v→w'.cell? a=some v∧w'.frozen? a=w.frozen? a:=fun{a v} h=>by
  obtain⟨c,e,z,ho⟩:=cell_block h
  have e1:w'.heap[a.block]? =w.heap[a.block]?:=hk _ (alt ho)
  exact⟨by rw[← h];unfold World.cell?;simp only[e1],by unfold World.frozen?;simp only[e1]⟩
 refine⟨h.lc,h.len,fun k x hx=>?_⟩
 obtain⟨opb,oo,h1,f0,f1,f2,f3,g0,g1,g2,g3⟩:=h.op k x hx
 exact⟨opb,oo,h1,(hc f0).1,(hc f1).1,(hc f2).1,(hc f3).1,(hc f0).2.trans g0,(hc f1).2.trans g1,(hc f2).2.trans g2,(hc f3).2.trans g3⟩
theorem Ops10.opsIn{oa:Option Addr}{ol oc:Nat}{L:List Op4}(h:Ops10 w oa ol oc L):OpsIn (w.alloc (.cells #[.slice oa ol oc] 34)) (fun _=>False) 1 w.heap.size 0 1 (some ⟨w.heap.size,0,none⟩) (fun _=>oa) (fun _=>ol) (fun _=>oc) (fun _=>L) [] none:=by
 have hV:=h.olds (w':=w.alloc (.cells #[.slice oa ol oc] 34)) fun r hr=>heap_alloc_lt _ _ hr
 have hb:(w.alloc (.cells #[.slice oa ol oc] 34)).heap[w.heap.size]? =some (.cells #[.slice oa ol oc] 34 (0,0)):=heap_alloc_new _ _
 refine⟨rfl,fun _=>rfl,fun _=>by simp,fun j hj=>?_,fun j hj=>h.len,fun j hj k x hx=>?_,by decide,fun h=>by cases h⟩
 ·obtain rfl:j=0:=by omega
  refine⟨?_,?_,h.lc⟩
  ·unfold World.cell?;simp only[hb];rfl
  ·unfold World.frozen?;simp only[hb];rfl
 ·obtain⟨opb,oo,h1,h2⟩:=hV.op k x hx
  exact⟨opb,oo,h1,fun h=>h,h2⟩
structure D10(W:World)(s:GS KPl)(order:List Nat)(T:Nat)(xa va oa sa:Option Addr)(xc vc oc sc:Nat)(u:World):Prop where
 t:u.heap[T]? =some (.cells #[.slice xa 1 xc,.slice oa order.length oc,.slice sa (KSt.state s.q).length sc,.bool (decide (0<cnt s.live 1))] 31 (0,0))
 st:RRow u sa ((KSt.state s.q).map fun v=>.int .i64 v)
 an:RRow u xa [.slice va (s.th 0).ans.length vc]
 a0:RRow u va (ansC (s.th 0).ans)
 old:∀r,r<W.heap.size→u.heap[r]? =W.heap[r]?
 sz:W.heap.size≤u.heap.size
section
variable{s:GS KPl}{order:List Nat}{T:Nat}{xa va oa sa:Option Addr}{xc vc oc sc:Nat}
theorem D10.olds(h:D10 W s order T xa va oa sa xc vc oc sc w)(hk:∀r,r<w.heap.size→w'.heap[r]? =w.heap[r]?)(hs:w.heap.size≤w'.heap.size):D10 W s order T xa va oa sa xc vc oc sc w':=
 ⟨(hk _ (Array.getElem?_eq_some_iff.1 h.t).1).trans h.t,h.st.olds hk,h.an.olds hk,h.a0.olds hk,fun r hr=>(hk r (Nat.lt_of_lt_of_le hr h.sz)).trans (h.old r hr),Nat.le_trans h.sz hs⟩
end
def R10(W:World)(size:Int)(opv:Value)(L:List Op4)(m:Nat)(a:Act)(u:World):Prop:=
 a.defers=[]∧∃(s:GS KPl) (order:List Nat) (T:Nat) (xa va oa sa:Option Addr) (xc vc oc sc:Nat),Slots 155 a.tmps [(0,.int .i64 size),(1,opv),(5,.pointer (some ⟨T,0,none⟩))]∧
  (∃k,∀f,k≤f→gOver (fun _=>L) 1 1048576 [] f (ks0 (m+1) true)=(s,order))∧D10 W s order T xa va oa sa xc vc oc sc u
theorem kal_3{size:Int}{m:Nat}(hm:min (max size 1) 65536=((m+1:Nat):Int)){oa:Option Addr}{ol oc:Nat}{L:List Op4}(hO:Ops10 w oa ol oc L)
 {A:Array Value} (hA:Slots 155 A [(0,.int .i64 size),(1,.slice oa ol oc)]):
 kalr3.wp Try.prog (nrm (R10 w size (.slice oa ol oc) L m)) ⟨A,[]⟩ w:=by
 have C:Aside (Calls Try.prog 35 #[.int .i64 size,.bool true,.slice (some ⟨w.heap.size,0,none⟩) 1 1,.slice none 0 0,.int .i64 1048576] (w.alloc (.cells #[.slice oa ol oc] 34)) fun x w'=>∃v,x= .returned v∧RefOut6 (w.alloc (.cells #[.slice oa ol oc] 34)) (fun _=>L) 1 1048576 [] (ks0 (m+1) true) v w'):=
  (play6_ref (mo:=1048576) (M:=1048576) (tc:=1) (sc:=0) (tl:=1) (S:=[]) hm hO.opsIn (by decide) (by decide) (by decide)).calls Try.func35 rfl
 obtain⟨hsz,k0,k1,_⟩:=hA
 obtain⟨s,rfl⟩:=kalT_of hsz
 change s 0=_ at k0
 change s 1=_ at k1
 clear hsz hO hm
 simp only[kalr3,kalBody,pC,Try.f10,Option.getD_some,kalT,k0,k1]
 clear k0 k1
 go_wp2_with (go_at_call 35;refine C.out.mono ?_;rintro e u ⟨v,rfl,hR⟩;obtain⟨gs,order,xa,oa',sa',xc,oc',sc',va,vc,rfl,hov,r1,r2,r3,r4,hk,hks⟩:=hR;have R:Aside ((∃k,∀f,k≤f→gOver (fun _=>L) 1 1048576 [] f (ks0 (m+1) true)=(gs,order))∧RRow u sa' ((KSt.state gs.q).map fun v=>.int .i64 v)∧RRow u xa [.slice (va 0) (gs.th 0).ans.length (vc 0)]∧RRow u (va 0) (ansC (gs.th 0).ans)∧(∀r,r<w.heap.size→u.heap[r]? =w.heap[r]?)∧w.heap.size≤u.heap.size):=⟨hov,r2,r3,r4 0 (by decide),fun r hr=>(hk r (by simp;omega)).trans (heap_alloc_lt _ _ hr),Nat.le_trans (by simp) hks⟩;clear hov r1 r2 r3 r4 hk hks)
 obtain⟨p1,p2,p3,p4,p5,p6⟩:=R.out
 exact⟨rfl,gs,order,u.heap.size,xa,va 0,oa',sa',xc,vc 0,oc',sc',⟨rfl,rfl,rfl,rfl,trivial⟩,p1,heap_alloc_new _ _,p2.alloc _,p3.alloc _,p4.alloc _,fun r hr=>(heap_alloc_lt _ _ (Nat.lt_of_lt_of_le hr p6)).trans (p5 r hr),Nat.le_trans p6 (by simp)⟩
theorem alone_law{L:List Op4}{m:Nat}{s:GS KPl}{order:List Nat}(ho:∃k,∀f,k≤f→gOver (fun _=>L) 1 1048576 [] f (ks0 (m+1) true)=(s,order))(hc:cnt s.live 1=0):
 s.q=(als (knew (m+1) true) L).2.1∧(s.th 0).ans=(als (knew (m+1) true) L).1∧order.length=(als (knew (m+1) true) L).2.2∧order.length≤1048576:=by
 have h:=over_one (m:=KPl) (ops:=fun _=>L) (M:=1048576) (s0:=ks0 (m+1) true) (run1_k L (knew (m+1) true)) rfl ho hc
 obtain⟨k,hk⟩:=ho
 have e:=hk k (Nat.le_refl _)
 have h1:=gOver_le (ops:=fun _=>L) (n:=1) (M:=1048576) (S:=[]) (f:=k) (s:=ks0 (m+1) true)
 rw[e]at h1
 exact⟨h.1,h.2.1,h.2.2,h1⟩
theorem piece_mono{P:Program}{c:Code}{R R':Act→World→Prop}{a:Act}{w:World}(h:c.wp P (nrm R) a w)(hh:∀a u,R a u→R' a u):c.wp P (nrm R') a w:=wp_mono h fun e a u q=>by
 cases e with
 | normal=>exact hh _ _ q
 | _=>exact q.elim
theorem D10.same{W':World}{s:GS KPl}{order:List Nat}{T:Nat}{xa va oa sa:Option Addr}{xc vc oc sc:Nat}(h:D10 W s order T xa va oa sa xc vc oc sc w)(e:W'.heap=W.heap)(e':w'.heap=w.heap):D10 W' s order T xa va oa sa xc vc oc sc w':=
 ⟨by rw[e'];exact h.t,h.st.heap e',h.an.heap e',h.a0.heap e',fun r hr=>by rw[e',e];exact h.old r (by rw[← e];exact hr),by rw[e',e];exact h.sz⟩
theorem kal_4s{s:GS KPl}{order:List Nat}{T:Nat}{xa va oa sa:Option Addr}{xc vc oc sc:Nat}{A:Array Value}(hA:Slots 155 A [(5,.pointer (some ⟨T,0,none⟩))])(hD:D10 W s order T xa va oa sa xc vc oc sc w)(hc:0<cnt s.live 1):
 kals6.wp Try.prog (fun x a u=>x= .ret∧a.defers=[]∧(a.tmps.getD 4 undef= .bool true∧u.heap=w.heap)) ⟨A,[]⟩ w:=by
 have c3:w.cell? ⟨T,3,none⟩=some (.bool (decide (0<cnt s.live 1))):=by simp[World.cell?,hD.t]
 obtain⟨hsz,k5,_⟩:=hA
 obtain⟨s',rfl⟩:=kalT_of hsz
 change s' 5=_ at k5
 clear hsz hD
 rw[decide_eq_true hc]at c3
 simp only[kals6,kalBody,pC,Try.f10,Option.getD_some,kalT,k5]
 clear k5
 go_wp2
theorem kal_4{size:Int}{opv:Value}{s:GS KPl}{order:List Nat}{T:Nat}{xa va oa sa:Option Addr}{xc vc oc sc:Nat}{A:Array Value}(hA:Slots 155 A [(0,.int .i64 size),(1,opv),(5,.pointer (some ⟨T,0,none⟩))])(hD:D10 W s order T xa va oa sa xc vc oc sc w)(hc:cnt s.live 1=0):
 kals6.wp Try.prog (nrm fun a u=>a.defers=[]∧Slots 155 a.tmps [(0,.int .i64 size),(1,opv),(5,.pointer (some ⟨T,0,none⟩))]∧u.heap=w.heap) ⟨A,[]⟩ w:=by
 have c3:w.cell? ⟨T,3,none⟩=some (.bool (decide (0<cnt s.live 1))):=by simp[World.cell?,hD.t]
 obtain⟨hsz,k0,k1,k5,_⟩:=hA
 obtain⟨s',rfl⟩:=kalT_of hsz
 change s' 0=_ at k0
 change s' 1=_ at k1
 change s' 5=_ at k5
 clear hsz hD
 rw[decide_eq_false (by omega)]at c3
 simp only[kals6,kalBody,pC,Try.f10,Option.getD_some,kalT,k0,k1,k5]
 clear k0 k1 k5
 go_wp2
 exact⟨rfl,⟨rfl,rfl,rfl,rfl,trivial⟩,rfl⟩
end
section
variable{w w' W:World}
structure L10(w1:World)(ka kn la ln sb:Nat)(s u:KSt)(n:Nat)(w:World):Prop where
 k:KU ka ⟨s,kn⟩ w
 l:KU la ⟨u,ln⟩ w
 c:CntAt sb n w
 n1:sb≠ka∧sb≠kn∧sb≠la∧sb≠ln
 n2:ka≠la∧ka≠ln∧kn≠la∧kn≠ln
 ge:w1.heap.size≤ka∧w1.heap.size≤kn∧w1.heap.size≤la∧w1.heap.size≤ln∧w1.heap.size≤sb
 old:∀r,r<w1.heap.size→w.heap[r]? =w1.heap[r]?
 sz:w1.heap.size≤w.heap.size
section
variable{w1:World}{ka kn la ln sb n n':Nat}{s s' u u':KSt}
theorem L10.sb_lt(h:L10 w1 ka kn la ln sb s u n w):sb<w.heap.size:=(Array.getElem?_eq_some_iff.1 (show w.heap[sb]? =some (.cells #[.int .i64 n] 78 (0,0))from h.c)).1
theorem L10.grow(h:L10 w1 ka kn la ln sb s u n w)(hk:∀r,r<w.heap.size→w'.heap[r]? =w.heap[r]?)(hs:w.heap.size≤w'.heap.size):L10 w1 ka kn la ln sb s u n w':=
 ⟨h.k.same fun r hr=>hk r (h.k.low hr),h.l.same fun r hr=>hk r (h.l.low hr),(hk sb h.sb_lt).trans h.c,h.n1,h.n2,h.ge,fun r hr=>(hk r (Nat.lt_of_lt_of_le hr h.sz)).trans (h.old r hr),Nat.le_trans h.sz hs⟩
theorem L10.stepK(h:L10 w1 ka kn la ln sb s u n w)(a:AfK ka sb (CntAt sb) ⟨s,kn⟩ ⟨s',kn⟩ n' w w'):L10 w1 ka kn la ln sb s' u n' w':=by
 obtain⟨a1,a2,a3,a4⟩:=h.n1
 obtain⟨b1,b2,b3,b4⟩:=h.n2
 obtain⟨c1,c2,c3,c4,c5⟩:=h.ge
 refine⟨a.u,h.l.same fun r hr=>a.o r (h.l.low hr) ?_ ?_,a.x,h.n1,h.n2,h.ge,fun r hr=>(a.o r (Nat.lt_of_lt_of_le hr h.sz) (by omega) ?_).trans (h.old r hr),Nat.le_trans h.sz a.sz⟩
 ·rcases hr with e|e
  ·omega
  ·have e:r=ln:=e;omega
 ·rintro(e2|e2)
  ·rcases hr with e|e
   ·omega
   ·have e:r=ln:=e;omega
  ·have e2:r=kn:=e2
   rcases hr with e|e
   ·omega
   ·have e:r=ln:=e;omega
 ·rintro(e2|e2)
  ·omega
  ·have e2:r=kn:=e2;omega
theorem L10.stepL{X:Nat→World→Prop}{q j:Nat}(h:L10 w1 ka kn la ln sb s u n w)(a:AfK la q X ⟨u,ln⟩ ⟨u',ln⟩ j w w')(hq:w.heap.size≤q):L10 w1 ka kn la ln sb s u' n w':=by
 obtain⟨a1,a2,a3,a4⟩:=h.n1
 obtain⟨b1,b2,b3,b4⟩:=h.n2
 obtain⟨c1,c2,c3,c4,c5⟩:=h.ge
 have hsb:=h.sb_lt
 refine⟨h.k.same fun r hr=>a.o r (h.k.low hr) ?_ ?_,a.u,(a.o sb hsb (by omega) ?_).trans h.c,h.n1,h.n2,h.ge,fun r hr=>(a.o r (Nat.lt_of_lt_of_le hr h.sz) ?_ ?_).trans (h.old r hr),Nat.le_trans h.sz a.sz⟩
 ·have:=h.k.low hr
  omega
 ·rintro(e2|e2)
  ·rcases hr with e|e
   ·omega
   ·have e:r=kn:=e;omega
  ·have e2:r=ln:=e2
   rcases hr with e|e
   ·omega
   ·have e:r=kn:=e;omega
 ·rintro(e2|e2)
  ·omega
  ·have e2:sb=ln:=e2;omega
 ·have:=h.sz
  omega
 ·rintro(e2|e2)
  ·omega
  ·have e2:r=ln:=e2;omega
end
def R6(w1:World)(opv:Value)(T n:Nat)(a:Act)(u:World):Prop:=
 a.defers=[]∧∃ka kn la ln sb,Slots 155 a.tmps [(1,opv),(5,.pointer (some ⟨T,0,none⟩)),(6,.pointer (some ⟨ka,0,none⟩)),(7,.pointer (some ⟨la,0,none⟩)),(8,.pointer (some ⟨sb,0,none⟩))]∧L10 w1 ka kn la ln sb (knew n true) (knew n false) 0 u
theorem kal_6{size:Int}{m:Nat}(hm:min (max size 1) 65536=((m+1:Nat):Int)){opv:Value}{T:Nat}{A:Array Value}(hA:Slots 155 A [(0,.int .i64 size),(1,opv),(5,.pointer (some ⟨T,0,none⟩))]):
 kalr6.wp Try.prog (nrm (R6 w opv T (m+1))) ⟨A,[]⟩ w:=by
 have N1:Aside (∀(W:World) (b:Bool),Calls Try.prog 36 #[.int .i64 size,.bool b] W fun x w'=>x= .returned (.pointer (some ⟨W.heap.size+1,0,none⟩))∧KU (W.heap.size+1) ⟨knew (m+1) b,W.heap.size⟩ w'∧W.heap.size+2≤w'.heap.size∧∀r,r<W.heap.size→w'.heap[r]? =W.heap[r]?):=fun W b=>new_calls (n:=m+1) hm
 obtain⟨hsz,k0,k1,k5,_⟩:=hA
 obtain⟨s,rfl⟩:=kalT_of hsz
 change s 0=_ at k0
 change s 1=_ at k1
 change s 5=_ at k5
 clear hsz hm
 simp only[kalr6,kalBody,pC,Try.f10,Option.getD_some,kalT,k0,k1,k5]
 clear k0 k1 k5
 go_wp2_with (go_at_call 36;refine(N1.out _ _).mono ?_;rintro e u ⟨rfl,hu⟩;have MA:Aside _:=hu;clear hu)
 rename_i u0 M0
 obtain⟨a1,a2,a3⟩:=M0.out
 obtain⟨b1,b2,b3⟩:=MA.out
 have hl:∀r,r<u.heap.size→(u.alloc (.cells #[.int .i64 0] 78)).heap[r]? =u.heap[r]?:=fun r hr=>heap_alloc_lt _ _ hr
 refine⟨rfl,w.heap.size+1,w.heap.size,u0.heap.size+1,u0.heap.size,u.heap.size,⟨rfl,rfl,rfl,rfl,rfl,rfl,trivial⟩,?_⟩
 refine⟨a1.same fun r hr=>(hl r (by have:=a1.low hr;omega)).trans (b3 r (a1.low hr)),b1.same fun r hr=>hl r (b1.low hr),heap_alloc_new _ _,⟨by omega,by omega,by omega,by omega⟩,⟨by omega,by omega,by omega,by omega⟩,⟨by omega,by omega,by omega,by omega,by omega⟩,fun r hr=>(hl r (by omega)).trans ((b3 r (by omega)).trans (a3 r hr)),?_⟩
 show _≤(u.alloc _).heap.size
 simp
 omega
theorem kal_7{s:GS KPl}{order:List Nat}{T:Nat}{xa va oa sa:Option Addr}{xc vc oc sc:Nat}{opv x6 x7 x8:Value}{A:Array Value}(hA:Slots 155 A [(1,opv),(5,.pointer (some ⟨T,0,none⟩)),(6,x6),(7,x7),(8,x8)])(hD:D10 W s order T xa va oa sa xc vc oc sc w):
 kalr7.wp Try.prog (nrm fun a u=>a.defers=[]∧Slots 155 a.tmps [(1,opv),(5,.pointer (some ⟨T,0,none⟩)),(6,x6),(7,x7),(8,x8),(39,.slice va (s.th 0).ans.length vc),(40,.int .i64 (s.th 0).ans.length),(41,.int .i64 0)]∧u.heap=w.heap) ⟨A,[]⟩ w:=by
 have c0:w.cell? ⟨T,0,none⟩=some (.slice xa 1 xc):=by simp[World.cell?,hD.t]
 obtain⟨xb,xo,rfl,c1⟩:=hD.an.c 0 _ rfl
 rw[Nat.add_zero]at c1
 obtain⟨hsz,k1,k5,k6,k7,k8,_⟩:=hA
 obtain⟨s',rfl⟩:=kalT_of hsz
 change s' 1=_ at k1
 change s' 5=_ at k5
 change s' 6=_ at k6
 change s' 7=_ at k7
 change s' 8=_ at k8
 clear hsz hD
 simp only[kalr7,kalBody,pC,Try.f10,Option.getD_some,kalT,k1,k5,k6,k7,k8]
 clear k1 k5 k6 k7 k8
 go_wp2
 exact⟨rfl,⟨rfl,rfl,rfl,rfl,rfl,rfl,rfl,rfl,rfl,trivial⟩,rfl⟩
end
section
variable{w w' W:World}
theorem als_len:∀(l:List Op4) (s:KSt),(als s l).1.length=l.length
 | [],s=>rfl
 | o::l,s=>by simp[als,als_len l]
theorem als_snoc:∀(l:List Op4) (s:KSt) (o:Op4),als s (l++[o])=((als s l).1++[(al1 (als s l).2.1 o).1],(al1 (als s l).2.1 o).2.1,(als s l).2.2+(al1 (als s l).2.1 o).2.2)
 | [],s,o=>by simp[als]
 | x::l,s,o=>by simp[als,als_snoc l,Nat.add_assoc]
theorem als_take{l:List Op4}{i:Nat}{o:Op4}(h:l[i]? =some o)(s:KSt):als s (l.take (i+1))=((als s (l.take i)).1++[(al1 (als s (l.take i)).2.1 o).1],(al1 (als s (l.take i)).2.1 o).2.1,(als s (l.take i)).2.2+(al1 (als s (l.take i)).2.1 o).2.2):=by
 obtain⟨hl,e⟩:=List.getElem?_eq_some_iff.1 h
 rw[List.take_add_one,h]
 exact als_snoc _ _ _
theorem als_get:∀{l:List Op4} {i:Nat} {o:Op4} (_:l[i]? =some o) (s:KSt),(als s l).1[i]? =some (al1 (als s (l.take i)).2.1 o).1
 | [],i,o,h,s=>by simp at h
 | x::l,0,o,h,s=>by
   simp at h
   subst h
   simp[als]
 | x::l,i+1,o,h,s=>by
   simp only[List.getElem?_cons_succ]at h
   simp only[als,List.getElem?_cons_succ,List.take_succ_cons]
   exact als_get h _
theorem als_steps(s:KSt):∀(l:List Op4) (i:Nat),(als s (l.take i)).2.2≤(als s l).2.2:=by
 intro l
 induction l generalizing s with
 | nil=>intro i;simp
 | cons x l ih=>
   intro i
   cases i with
   | zero=>simp[als]
   | succ i=>
     simp only[List.take_succ_cons,als]
     have:=ih (al1 s x).2.1 i
     omega
theorem als_alk:∀(l:List Op4) {s u:KSt},Alk s u→Alk (als s l).2.1 (als u l).2.1
 | [],_,_,h=>h
 | o::l,_,_,h=>als_alk l (h.one o).2
structure Rd(w1:World)(ka kn la ln sb b10:Nat)(s u:KSt)(n:Nat)(a:Bool×Int)(w:World):Prop where
 l:L10 w1 ka kn la ln sb s u n w
 b:w.heap[b10]? =some (.cells #[.bool a.1,.int .i64 a.2,.slice none 0 0] 44 (0,0))
 d:b10≠sb∧b10≠ka∧b10≠kn∧b10≠la∧b10≠ln∧w1.heap.size≤b10
section
variable{w1:World}{ka kn la ln sb b10 n:Nat}{s u:KSt}{a:Bool×Int}
theorem Rd.cs(h:Rd w1 ka kn la ln sb b10 s u n a w):w.cell? ⟨b10,0,none⟩=some (.bool a.1)∧w.cell? ⟨b10,1,none⟩=some (.int .i64 a.2):=by simp[World.cell?,h.b]
theorem Rd.lt(h:Rd w1 ka kn la ln sb b10 s u n a w):b10<w.heap.size:=(Array.getElem?_eq_some_iff.1 h.b).1
theorem Rd.grow(h:Rd w1 ka kn la ln sb b10 s u n a w)(hk:∀r,r<w.heap.size→w'.heap[r]? =w.heap[r]?)(hs:w.heap.size≤w'.heap.size):Rd w1 ka kn la ln sb b10 s u n a w':=
 ⟨h.l.grow hk hs,(hk _ h.lt).trans h.b,h.d⟩
end
end
noncomputable section
variable{F:Fz}{w:World}
def kadBody:Code:=Try.f37.body.getD .skip
def kads0:=pC [] kadBody
def kadr0:=pC [zt] kadBody
def kads1:=pC [zf] kadBody
def kadr1:=pC [zf,zt] kadBody
def kads2:=pC [zf,zf] kadBody
def kads3:=pC [zf,zf,zt] kadBody
def kadr2:=pC [zf,zf,zt,zt] kadBody
def kadb0:=pC [zf,zf,zt,zf] kadBody
def kads4:=pC [zf,zf,zt,zf,zt] kadBody
def kadr3:=pC [zf,zf,zt,zf,zt,zt] kadBody
def kadc10:=pC [zf,zf,zt,zf,zt,zf] kadBody
def kadr4:=pC [zf,zf,zt,zf,zt,zf,zt] kadBody
def kads5:=pC [zf,zf,zt,zf,zt,zf,zf] kadBody
def kadr5:=pC [zf,zf,zt,zf,zt,zf,zf,zt] kadBody
def kadc18:=pC [zf,zf,zt,zf,zt,zf,zf,zf] kadBody
def kadr6:=pC [zf,zf,zt,zf,zt,zf,zf,zf,zt] kadBody
def kads6:=pC [zf,zf,zt,zf,zt,zf,zf,zf,zf] kadBody
def kadr7:=pC [zf,zf,zt,zf,zt,zf,zf,zf,zf,zt] kadBody
def kadc28:=pC [zf,zf,zt,zf,zt,zf,zf,zf,zf,zf] kadBody
def kadr8:=pC [zf,zf,zt,zf,zt,zf,zf,zf,zf,zf,zt] kadBody
def kads7:=pC [zf,zf,zt,zf,zt,zf,zf,zf,zf,zf,zf] kadBody
def kadr9:=pC [zf,zf,zt,zf,zt,zf,zf,zf,zf,zf,zf,zt] kadBody
def kadc38:=pC [zf,zf,zt,zf,zt,zf,zf,zf,zf,zf,zf,zf] kadBody
def kadr10:=pC [zf,zf,zt,zf,zt,zf,zf,zf,zf,zf,zf,zf,zt] kadBody
def kads8:=pC [zf,zf,zf] kadBody
theorem kads0':kads0= .seq kadr0 kads1:=by kernel_rfl
theorem kadr0':kadr0= .region 0 (oC kadr0) false:=by kernel_rfl
theorem kads1':kads1= .seq kadr1 kads2:=by kernel_rfl
theorem kadr1':kadr1= .region 1 (oC kadr1) false:=by kernel_rfl
theorem kads2':kads2= .seq kads3 kads8:=by kernel_rfl
theorem kads3':kads3= .seq kadr2 kadb0:=by kernel_rfl
theorem kadr2':kadr2= .region 2 (oC kadr2) false:=by kernel_rfl
theorem kadb0':kadb0= .block 0 kads4:=by kernel_rfl
theorem kads4':kads4= .seq kadr3 kadc10:=by kernel_rfl
theorem kadr3':kadr3= .region 3 (oC kadr3) false:=by kernel_rfl
theorem kadc10':kadc10= .cond (.tmp 10) kadr4 kads5:=by kernel_rfl
theorem kadr4':kadr4= .region 4 (oC kadr4) false:=by kernel_rfl
theorem kads5':kads5= .seq kadr5 kadc18:=by kernel_rfl
theorem kadr5':kadr5= .region 5 (oC kadr5) false:=by kernel_rfl
theorem kadc18':kadc18= .cond (.tmp 18) kadr6 kads6:=by kernel_rfl
theorem kadr6':kadr6= .region 6 (oC kadr6) false:=by kernel_rfl
theorem kads6':kads6= .seq kadr7 kadc28:=by kernel_rfl
theorem kadr7':kadr7= .region 7 (oC kadr7) false:=by kernel_rfl
theorem kadc28':kadc28= .cond (.tmp 28) kadr8 kads7:=by kernel_rfl
theorem kadr8':kadr8= .region 8 (oC kadr8) false:=by kernel_rfl
theorem kads7':kads7= .seq kadr9 kadc38:=by kernel_rfl
theorem kadr9':kadr9= .region 9 (oC kadr9) false:=by kernel_rfl
theorem kadc38':kadc38= .cond (.tmp 38) kadr10 .skip:=by kernel_rfl
theorem kadr10':kadr10= .region 10 (oC kadr10) false:=by kernel_rfl
theorem enter_kad(args:Array Value):Frame.enter Try.prog 37 args .normal=(Go.Conc.base 37).at {tmps:=args++Array.replicate (45 - args.size) undef,defers:=[]} [.code kads0]:=enter_at args Try.func37 rfl
theorem callable37:Callable 37:=callable Try.func37 rfl rfl
def kadT(s:Nat→Value):Array Value:= #[s 0,s 1,s 2,s 3,s 4,s 5,s 6,s 7,s 8,s 9,s 10,s 11,s 12,s 13,s 14,s 15,s 16,s 17,s 18,s 19,s 20,s 21,s 22,s 23,s 24,s 25,s 26,s 27,s 28,s 29,s 30,s 31,s 32,s 33,s 34,s 35,s 36,s 37,s 38,s 39,s 40,s 41,s 42,s 43,s 44]
theorem kadT_of{A:Array Value}(h:A.size=45):∃s,A=kadT s:=by
 obtain⟨s,hs,_⟩:=arr_lit A h
 exact⟨s,hs⟩
theorem own_tail{P:Program}{S:FuncId→Bool}(hC:Closed P S true)(hE:NoEarly P){c:Code}{b:Frame}{fn:Func}(hf:P.funcs[b.fn]? =some fn)(hn:b.kind= .normal)(hc:codeOk P S true c=true){A:Array Value}{w:World}{R:Value→World→Prop}{k:List Item}
 (H:∀τ e,c.wp P (fun x a u=>x= .ret∧a.defers=[]∧∃v,(results fn a.tmps).run P u= .ok v u∧R v u) ⟨A,[]⟩ (retape w τ e)) {cl:Frame} {cs:List Frame} {main:Bool} {Stop:Goroutine→World→Prop}
 (K:∀v w' τ e,R v (retape w' τ e)→Gd F0 w w'→Own P main F0 Stop (G (cl.finish v) cs) w'):Own P main F0 Stop (G (b.at ⟨A,[]⟩ (.code c::k)) (cl::cs)) w:=by
 refine lift (Q:=fun x a u=>x= .ret∧a.defers=[]∧∃v,(results fn a.tmps).run P u= .ok v u∧R v u) hC (fun _ _=>rfl) hE hc (wf_E0 w) rfl (fun e a w hq=>.inr ⟨hq.1,hq.2.1⟩) (fun τ e=>?_) (by rw[hn];simp) (fun a' w' τ e hq _ hg=>?_) (fun a' w' τ e t' hq _ hg=>?_)
 ·rw[mask_none (fun _=>rfl)]
  exact H τ e
 ·exact absurd hq.1 (by simp)
 ·obtain⟨_,hd,v,h1,h2⟩:=hq
  rw[mask_none (fun _=>rfl)]at h1 h2
  exact own_leave hn hd hf (fun d=>(res_any h1 d).1) (fun d x hx=>(res_any h1 d).2 x hx) (K v _ τ e h2 hg)
theorem kad_push0{n:Nat}(hU:Under F n)(hn:n≤w.heap.size){kb:Nat}{sv:Value}{x b c0:Int}{cs:List Frame}{main:Bool}{Stop:Goroutine→World→Prop}
 (h:∀A,Slots 45 A [(6,.pointer (some ⟨w.heap.size+1,0,none⟩)),(7,.pointer (some ⟨w.heap.size+1+1,0,none⟩))]→Own Try.prog main F Stop (G (Frame.enter Try.prog 45 #[.pointer (some ⟨kb,0,none⟩),sv,.int .i64 x] .normal) (((Go.Conc.base 37).at ⟨A,[]⟩ [.inRegion (oC kadr4) [4,5,6],.inBlock 0,.code kads8])::cs)) (w37 w 1 x b c0)):
 Own Try.prog main F Stop (G (Frame.enter Try.prog 37 #[.pointer (some ⟨kb,0,none⟩),sv,.agg #[.int .i64 1,.int .i64 x,.int .i64 b,.int .i64 c0]] .normal) cs) w:=by
 rw[enter_kad]
 walk_nrm
 refine ogSR kads0' kadr0' ?_
 simp only[kadr0,kadBody,Try.f37,zz,Nat.reduceAdd]
 iterate 2 (refine oW fun dd K hK=>?_;go_simp;refine qA hK hU ?_;clear hK K)
 refine ogE ?_
 refine ogSR kads1' kadr1' ?_
 simp only[kadr1,kadBody,Try.f37,zz,Nat.reduceAdd]
 (refine oW fun dd K hK=>?_;go_simp;refine qA hK hU ?_;clear hK K)
 refine ogE ?_
 refine ogSE kads2' ?_
 refine ogSR kads3' kadr2' ?_
 simp only[kadr2,kadBody,Try.f37,zz,Nat.reduceAdd]
 (refine oW fun dd K hK=>?_;go_simp;refine qT hK ?_;clear hK K)
 (refine oW fun dd K hK=>?_;go_simp;refine qL hK ?_;clear hK K)
 refine ogE ?_
 rw[kadb0']
 refine ogB ?_
 refine ogSR kads4' kadr3' ?_
 simp only[kadr3,kadBody,Try.f37,zz,Nat.reduceAdd]
 iterate 2 (refine oW fun dd K hK=>?_;go_simp;refine qT hK ?_;clear hK K)
 refine ogE ?_
 rw[kadc10']
 refine ogT ?_
 simp only[if_true]
 rw[kadr4']
 refine ogR ?_
 simp only[kadr4,kadBody,Try.f37,zz,Nat.reduceAdd]
 iterate 3 (refine oW fun dd K hK=>?_;go_simp;refine qT hK ?_;clear hK K)
 (refine oW fun dd K hK=>?_;go_simp;refine qL hK ?_;clear hK K)
 refine oc callable45 #[.pointer (some ⟨kb,0,none⟩),sv,.int .i64 x] ?_
 refine h _ ?_
 exact⟨rfl,rfl,rfl,trivial⟩
theorem kad_pop0{n:Nat}(hU:Under F n)(hn:n≤w.heap.size){kb:Nat}{sv:Value}{x b c0:Int}{cs:List Frame}{main:Bool}{Stop:Goroutine→World→Prop}
 (h:∀A,Slots 45 A [(6,.pointer (some ⟨w.heap.size+1,0,none⟩)),(7,.pointer (some ⟨w.heap.size+1+1,0,none⟩))]→Own Try.prog main F Stop (G (Frame.enter Try.prog 43 #[.pointer (some ⟨kb,0,none⟩),sv] .normal) (((Go.Conc.base 37).at ⟨A,[]⟩ [.inRegion (oC kadr6) [2,3,4,5,6,7,8,9],.inBlock 0,.code kads8])::cs)) (w37 w 2 x b c0)):
 Own Try.prog main F Stop (G (Frame.enter Try.prog 37 #[.pointer (some ⟨kb,0,none⟩),sv,.agg #[.int .i64 2,.int .i64 x,.int .i64 b,.int .i64 c0]] .normal) cs) w:=by
 rw[enter_kad]
 walk_nrm
 refine ogSR kads0' kadr0' ?_
 simp only[kadr0,kadBody,Try.f37,zz,Nat.reduceAdd]
 iterate 2 (refine oW fun dd K hK=>?_;go_simp;refine qA hK hU ?_;clear hK K)
 refine ogE ?_
 refine ogSR kads1' kadr1' ?_
 simp only[kadr1,kadBody,Try.f37,zz,Nat.reduceAdd]
 (refine oW fun dd K hK=>?_;go_simp;refine qA hK hU ?_;clear hK K)
 refine ogE ?_
 refine ogSE kads2' ?_
 refine ogSR kads3' kadr2' ?_
 simp only[kadr2,kadBody,Try.f37,zz,Nat.reduceAdd]
 (refine oW fun dd K hK=>?_;go_simp;refine qT hK ?_;clear hK K)
 (refine oW fun dd K hK=>?_;go_simp;refine qL hK ?_;clear hK K)
 refine ogE ?_
 rw[kadb0']
 refine ogB ?_
 refine ogSR kads4' kadr3' ?_
 simp only[kadr3,kadBody,Try.f37,zz,Nat.reduceAdd]
 iterate 2 (refine oW fun dd K hK=>?_;go_simp;refine qT hK ?_;clear hK K)
 refine ogE ?_
 rw[kadc10']
 refine ogF ?_
 simp only[Bool.false_eq_true,if_false]
 refine ogSR kads5' kadr5' ?_
 simp only[kadr5,kadBody,Try.f37,zz,Nat.reduceAdd]
 iterate 2 (refine oW fun dd K hK=>?_;go_simp;refine qT hK ?_;clear hK K)
 refine ogE ?_
 rw[kadc18']
 refine ogT ?_
 simp only[if_true]
 rw[kadr6']
 refine ogR ?_
 simp only[kadr6,kadBody,Try.f37,zz,Nat.reduceAdd]
 iterate 2 (refine oW fun dd K hK=>?_;go_simp;refine qT hK ?_;clear hK K)
 refine oc callable43 #[.pointer (some ⟨kb,0,none⟩),sv] ?_
 refine h _ ?_
 exact⟨rfl,rfl,rfl,trivial⟩
theorem kad_peek0{n:Nat}(hU:Under F n)(hn:n≤w.heap.size){kb:Nat}{sv:Value}{x b c0:Int}{cs:List Frame}{main:Bool}{Stop:Goroutine→World→Prop}
 (h:∀A,Slots 45 A [(6,.pointer (some ⟨w.heap.size+1,0,none⟩)),(7,.pointer (some ⟨w.heap.size+1+1,0,none⟩))]→Own Try.prog main F Stop (G (Frame.enter Try.prog 44 #[.pointer (some ⟨kb,0,none⟩),sv] .normal) (((Go.Conc.base 37).at ⟨A,[]⟩ [.inRegion (oC kadr8) [2,3,4,5,6,7,8,9],.inBlock 0,.code kads8])::cs)) (w37 w 3 x b c0)):
 Own Try.prog main F Stop (G (Frame.enter Try.prog 37 #[.pointer (some ⟨kb,0,none⟩),sv,.agg #[.int .i64 3,.int .i64 x,.int .i64 b,.int .i64 c0]] .normal) cs) w:=by
 rw[enter_kad]
 walk_nrm
 refine ogSR kads0' kadr0' ?_
 simp only[kadr0,kadBody,Try.f37,zz,Nat.reduceAdd]
 iterate 2 (refine oW fun dd K hK=>?_;go_simp;refine qA hK hU ?_;clear hK K)
 refine ogE ?_
 refine ogSR kads1' kadr1' ?_
 simp only[kadr1,kadBody,Try.f37,zz,Nat.reduceAdd]
 (refine oW fun dd K hK=>?_;go_simp;refine qA hK hU ?_;clear hK K)
 refine ogE ?_
 refine ogSE kads2' ?_
 refine ogSR kads3' kadr2' ?_
 simp only[kadr2,kadBody,Try.f37,zz,Nat.reduceAdd]
 (refine oW fun dd K hK=>?_;go_simp;refine qT hK ?_;clear hK K)
 (refine oW fun dd K hK=>?_;go_simp;refine qL hK ?_;clear hK K)
 refine ogE ?_
 rw[kadb0']
 refine ogB ?_
 refine ogSR kads4' kadr3' ?_
 simp only[kadr3,kadBody,Try.f37,zz,Nat.reduceAdd]
 iterate 2 (refine oW fun dd K hK=>?_;go_simp;refine qT hK ?_;clear hK K)
 refine ogE ?_
 rw[kadc10']
 refine ogF ?_
 simp only[Bool.false_eq_true,if_false]
 refine ogSR kads5' kadr5' ?_
 simp only[kadr5,kadBody,Try.f37,zz,Nat.reduceAdd]
 iterate 2 (refine oW fun dd K hK=>?_;go_simp;refine qT hK ?_;clear hK K)
 refine ogE ?_
 rw[kadc18']
 refine ogF ?_
 simp only[Bool.false_eq_true,if_false]
 refine ogSR kads6' kadr7' ?_
 simp only[kadr7,kadBody,Try.f37,zz,Nat.reduceAdd]
 iterate 2 (refine oW fun dd K hK=>?_;go_simp;refine qT hK ?_;clear hK K)
 refine ogE ?_
 rw[kadc28']
 refine ogT ?_
 simp only[if_true]
 rw[kadr8']
 refine ogR ?_
 simp only[kadr8,kadBody,Try.f37,zz,Nat.reduceAdd]
 iterate 2 (refine oW fun dd K hK=>?_;go_simp;refine qT hK ?_;clear hK K)
 refine oc callable44 #[.pointer (some ⟨kb,0,none⟩),sv] ?_
 refine h _ ?_
 exact⟨rfl,rfl,rfl,trivial⟩
theorem kad_emp0{n:Nat}(hU:Under F n)(hn:n≤w.heap.size){kb:Nat}{sv:Value}{x b c0:Int}{cs:List Frame}{main:Bool}{Stop:Goroutine→World→Prop}
 (h:∀A,Slots 45 A [(6,.pointer (some ⟨w.heap.size+1,0,none⟩)),(7,.pointer (some ⟨w.heap.size+1+1,0,none⟩))]→Own Try.prog main F Stop (G (Frame.enter Try.prog 46 #[.pointer (some ⟨kb,0,none⟩),sv] .normal) (((Go.Conc.base 37).at ⟨A,[]⟩ [.inRegion (oC kadr10) [2,3,4],.inBlock 0,.code kads8])::cs)) (w37 w 4 x b c0)):
 Own Try.prog main F Stop (G (Frame.enter Try.prog 37 #[.pointer (some ⟨kb,0,none⟩),sv,.agg #[.int .i64 4,.int .i64 x,.int .i64 b,.int .i64 c0]] .normal) cs) w:=by
 rw[enter_kad]
 walk_nrm
 refine ogSR kads0' kadr0' ?_
 simp only[kadr0,kadBody,Try.f37,zz,Nat.reduceAdd]
 iterate 2 (refine oW fun dd K hK=>?_;go_simp;refine qA hK hU ?_;clear hK K)
 refine ogE ?_
 refine ogSR kads1' kadr1' ?_
 simp only[kadr1,kadBody,Try.f37,zz,Nat.reduceAdd]
 (refine oW fun dd K hK=>?_;go_simp;refine qA hK hU ?_;clear hK K)
 refine ogE ?_
 refine ogSE kads2' ?_
 refine ogSR kads3' kadr2' ?_
 simp only[kadr2,kadBody,Try.f37,zz,Nat.reduceAdd]
 (refine oW fun dd K hK=>?_;go_simp;refine qT hK ?_;clear hK K)
 (refine oW fun dd K hK=>?_;go_simp;refine qL hK ?_;clear hK K)
 refine ogE ?_
 rw[kadb0']
 refine ogB ?_
 refine ogSR kads4' kadr3' ?_
 simp only[kadr3,kadBody,Try.f37,zz,Nat.reduceAdd]
 iterate 2 (refine oW fun dd K hK=>?_;go_simp;refine qT hK ?_;clear hK K)
 refine ogE ?_
 rw[kadc10']
 refine ogF ?_
 simp only[Bool.false_eq_true,if_false]
 refine ogSR kads5' kadr5' ?_
 simp only[kadr5,kadBody,Try.f37,zz,Nat.reduceAdd]
 iterate 2 (refine oW fun dd K hK=>?_;go_simp;refine qT hK ?_;clear hK K)
 refine ogE ?_
 rw[kadc18']
 refine ogF ?_
 simp only[Bool.false_eq_true,if_false]
 refine ogSR kads6' kadr7' ?_
 simp only[kadr7,kadBody,Try.f37,zz,Nat.reduceAdd]
 iterate 2 (refine oW fun dd K hK=>?_;go_simp;refine qT hK ?_;clear hK K)
 refine ogE ?_
 rw[kadc28']
 refine ogF ?_
 simp only[Bool.false_eq_true,if_false]
 refine ogSR kads7' kadr9' ?_
 simp only[kadr9,kadBody,Try.f37,zz,Nat.reduceAdd]
 iterate 2 (refine oW fun dd K hK=>?_;go_simp;refine qT hK ?_;clear hK K)
 refine ogE ?_
 rw[kadc38']
 refine ogT ?_
 simp only[if_true]
 rw[kadr10']
 refine ogR ?_
 simp only[kadr10,kadBody,Try.f37,zz,Nat.reduceAdd]
 iterate 2 (refine oW fun dd K hK=>?_;go_simp;refine qT hK ?_;clear hK K)
 refine oc callable46 #[.pointer (some ⟨kb,0,none⟩),sv] ?_
 refine h _ ?_
 exact⟨rfl,rfl,rfl,trivial⟩
end
section
variable{F:Fz}{w:World}
theorem kad_push1{b6 b7:Nat}(hc0:w.cell? ⟨b7,0,none⟩=some (.bool false))(hc1:w.cell? ⟨b7,1,none⟩=some (.int .i64 0))(hz0:w.frozen? ⟨b7,0,none⟩=false)(hz1:w.frozen? ⟨b7,1,none⟩=false)(hnh:∀k,¬held F ⟨b7,k,none⟩){ok:Bool}{A:Array Value}(hA:Slots 45 A [(6,.pointer (some ⟨b6,0,none⟩)),(7,.pointer (some ⟨b7,0,none⟩))]){c:Frame}{cs:List Frame}{main:Bool}{Stop:Goroutine→World→Prop}
 (h:∀A,Slots 45 A [(6,.pointer (some ⟨b6,0,none⟩)),(7,.pointer (some ⟨b7,0,none⟩))]→Own Try.prog main F Stop (G ((Go.Conc.base 37).at ⟨A,[]⟩ [.code kads8]) (c::cs)) (w.setCell ⟨b7,0,none⟩ (.bool ok))):
 Own Try.prog main F Stop (G (((Go.Conc.base 37).at ⟨A,[]⟩ [.inRegion (oC kadr4) [4,5,6],.inBlock 0,.code kads8]).finish (.bool ok)) (c::cs)) w:=by
 obtain⟨hsz,h6,h7,_⟩:=hA
 obtain⟨s,rfl⟩:=kadT_of hsz
 change s 6=_ at h6
 change s 7=_ at h7
 clear hsz
 simp only[kadT,h6,h7]
 clear h6 h7
 rw[Frame.finish_at]
 simp only[kadr4,kadBody,Try.f37,zz,Nat.reduceAdd]
 walk_nrm
 (refine oW fun dd K hK=>?_;go_simp;refine qT hK ?_;clear hK K)
 (refine oW fun dd K hK=>?_;go_simp;refine hK _ _ ⟨⟨⟨0,grew_setCell rfl (hnh _) _⟩,fun e he=>by(have hm:=mem_listed he;clear he hK;simp[go_sem,storedEv,hc0,hc1,hz0,hz1]at hm;subst hm;exact evT_write _ _ (hnh _))⟩,?_⟩;clear hK K;rw[setCell_at'];refine Own.at ?_ dd)
 refine ogE ?_
 refine ogI ?_
 refine h _ ?_
 exact⟨rfl,rfl,rfl,trivial⟩
theorem kad_pop1{b6 b7:Nat}(hc0:w.cell? ⟨b7,0,none⟩=some (.bool false))(hc1:w.cell? ⟨b7,1,none⟩=some (.int .i64 0))(hz0:w.frozen? ⟨b7,0,none⟩=false)(hz1:w.frozen? ⟨b7,1,none⟩=false)(hnh:∀k,¬held F ⟨b7,k,none⟩){ok:Bool}{n:Int}{A:Array Value}(hA:Slots 45 A [(6,.pointer (some ⟨b6,0,none⟩)),(7,.pointer (some ⟨b7,0,none⟩))]){c:Frame}{cs:List Frame}{main:Bool}{Stop:Goroutine→World→Prop}
 (h:∀A,Slots 45 A [(6,.pointer (some ⟨b6,0,none⟩)),(7,.pointer (some ⟨b7,0,none⟩))]→Own Try.prog main F Stop (G ((Go.Conc.base 37).at ⟨A,[]⟩ [.code kads8]) (c::cs)) ((w.setCell ⟨b7,1,none⟩ (.int .i64 n)).setCell ⟨b7,0,none⟩ (.bool ok))):
 Own Try.prog main F Stop (G (((Go.Conc.base 37).at ⟨A,[]⟩ [.inRegion (oC kadr6) [2,3,4,5,6,7,8,9],.inBlock 0,.code kads8]).finish (.tuple #[.int .i64 n,.bool ok])) (c::cs)) w:=by
 obtain⟨hsz,h6,h7,_⟩:=hA
 obtain⟨s,rfl⟩:=kadT_of hsz
 change s 6=_ at h6
 change s 7=_ at h7
 clear hsz
 simp only[kadT,h6,h7]
 clear h6 h7
 rw[Frame.finish_at]
 simp only[kadr6,kadBody,Try.f37,zz,Nat.reduceAdd]
 walk_nrm
 iterate 4 (refine oW fun dd K hK=>?_;go_simp;refine qT hK ?_;clear hK K)
 (refine oW fun dd K hK=>?_;go_simp;refine hK _ _ ⟨⟨⟨0,grew_setCell rfl (hnh _) _⟩,fun e he=>by(have hm:=mem_listed he;clear he hK;simp[go_sem,storedEv,hc0,hc1,hz0,hz1]at hm;subst hm;exact evT_write _ _ (hnh _))⟩,?_⟩;clear hK K;rw[setCell_at'];refine Own.at ?_ dd)
 (refine oW fun dd K hK=>?_;go_simp;refine qT hK ?_;clear hK K)
 (refine oW fun dd K hK=>?_;go_simp;refine hK _ _ ⟨⟨⟨0,grew_setCell rfl (hnh _) _⟩,fun e he=>by(have hm:=mem_listed he;clear he hK;simp[go_sem,storedEv,hc0,hc1,hz0,hz1]at hm;subst hm;exact evT_write _ _ (hnh _))⟩,?_⟩;clear hK K;rw[setCell_at'];refine Own.at ?_ dd)
 refine ogE ?_
 refine ogI ?_
 refine h _ ?_
 exact⟨rfl,rfl,rfl,trivial⟩
theorem kad_peek1{b6 b7:Nat}(hc0:w.cell? ⟨b7,0,none⟩=some (.bool false))(hc1:w.cell? ⟨b7,1,none⟩=some (.int .i64 0))(hz0:w.frozen? ⟨b7,0,none⟩=false)(hz1:w.frozen? ⟨b7,1,none⟩=false)(hnh:∀k,¬held F ⟨b7,k,none⟩){ok:Bool}{n:Int}{A:Array Value}(hA:Slots 45 A [(6,.pointer (some ⟨b6,0,none⟩)),(7,.pointer (some ⟨b7,0,none⟩))]){c:Frame}{cs:List Frame}{main:Bool}{Stop:Goroutine→World→Prop}
 (h:∀A,Slots 45 A [(6,.pointer (some ⟨b6,0,none⟩)),(7,.pointer (some ⟨b7,0,none⟩))]→Own Try.prog main F Stop (G ((Go.Conc.base 37).at ⟨A,[]⟩ [.code kads8]) (c::cs)) ((w.setCell ⟨b7,1,none⟩ (.int .i64 n)).setCell ⟨b7,0,none⟩ (.bool ok))):
 Own Try.prog main F Stop (G (((Go.Conc.base 37).at ⟨A,[]⟩ [.inRegion (oC kadr8) [2,3,4,5,6,7,8,9],.inBlock 0,.code kads8]).finish (.tuple #[.int .i64 n,.bool ok])) (c::cs)) w:=by
 obtain⟨hsz,h6,h7,_⟩:=hA
 obtain⟨s,rfl⟩:=kadT_of hsz
 change s 6=_ at h6
 change s 7=_ at h7
 clear hsz
 simp only[kadT,h6,h7]
 clear h6 h7
 rw[Frame.finish_at]
 simp only[kadr8,kadBody,Try.f37,zz,Nat.reduceAdd]
 walk_nrm
 iterate 4 (refine oW fun dd K hK=>?_;go_simp;refine qT hK ?_;clear hK K)
 (refine oW fun dd K hK=>?_;go_simp;refine hK _ _ ⟨⟨⟨0,grew_setCell rfl (hnh _) _⟩,fun e he=>by(have hm:=mem_listed he;clear he hK;simp[go_sem,storedEv,hc0,hc1,hz0,hz1]at hm;subst hm;exact evT_write _ _ (hnh _))⟩,?_⟩;clear hK K;rw[setCell_at'];refine Own.at ?_ dd)
 (refine oW fun dd K hK=>?_;go_simp;refine qT hK ?_;clear hK K)
 (refine oW fun dd K hK=>?_;go_simp;refine hK _ _ ⟨⟨⟨0,grew_setCell rfl (hnh _) _⟩,fun e he=>by(have hm:=mem_listed he;clear he hK;simp[go_sem,storedEv,hc0,hc1,hz0,hz1]at hm;subst hm;exact evT_write _ _ (hnh _))⟩,?_⟩;clear hK K;rw[setCell_at'];refine Own.at ?_ dd)
 refine ogE ?_
 refine ogI ?_
 refine h _ ?_
 exact⟨rfl,rfl,rfl,trivial⟩
theorem kad_emp1{b6 b7:Nat}(hc0:w.cell? ⟨b7,0,none⟩=some (.bool false))(hc1:w.cell? ⟨b7,1,none⟩=some (.int .i64 0))(hz0:w.frozen? ⟨b7,0,none⟩=false)(hz1:w.frozen? ⟨b7,1,none⟩=false)(hnh:∀k,¬held F ⟨b7,k,none⟩){ok:Bool}{A:Array Value}(hA:Slots 45 A [(6,.pointer (some ⟨b6,0,none⟩)),(7,.pointer (some ⟨b7,0,none⟩))]){c:Frame}{cs:List Frame}{main:Bool}{Stop:Goroutine→World→Prop}
 (h:∀A,Slots 45 A [(6,.pointer (some ⟨b6,0,none⟩)),(7,.pointer (some ⟨b7,0,none⟩))]→Own Try.prog main F Stop (G ((Go.Conc.base 37).at ⟨A,[]⟩ [.code kads8]) (c::cs)) (w.setCell ⟨b7,0,none⟩ (.bool ok))):
 Own Try.prog main F Stop (G (((Go.Conc.base 37).at ⟨A,[]⟩ [.inRegion (oC kadr10) [2,3,4],.inBlock 0,.code kads8]).finish (.bool ok)) (c::cs)) w:=by
 obtain⟨hsz,h6,h7,_⟩:=hA
 obtain⟨s,rfl⟩:=kadT_of hsz
 change s 6=_ at h6
 change s 7=_ at h7
 clear hsz
 simp only[kadT,h6,h7]
 clear h6 h7
 rw[Frame.finish_at]
 simp only[kadr10,kadBody,Try.f37,zz,Nat.reduceAdd]
 walk_nrm
 (refine oW fun dd K hK=>?_;go_simp;refine qT hK ?_;clear hK K)
 (refine oW fun dd K hK=>?_;go_simp;refine hK _ _ ⟨⟨⟨0,grew_setCell rfl (hnh _) _⟩,fun e he=>by(have hm:=mem_listed he;clear he hK;simp[go_sem,storedEv,hc0,hc1,hz0,hz1]at hm;subst hm;exact evT_write _ _ (hnh _))⟩,?_⟩;clear hK K;rw[setCell_at'];refine Own.at ?_ dd)
 refine ogE ?_
 refine ogI ?_
 refine h _ ?_
 exact⟨rfl,rfl,rfl,trivial⟩
theorem kad_other{n:Nat}(hU:Under F n)(hn:n≤w.heap.size){kb:Nat}{sv:Value}{kd x b c0:Int}(k1:(kd == 1)=false)(k2:(kd == 2)=false)(k3:(kd == 3)=false)(k4:(kd == 4)=false){c:Frame}{cs:List Frame}{main:Bool}{Stop:Goroutine→World→Prop}
 (h:∀A,Slots 45 A [(6,.pointer (some ⟨w.heap.size+1,0,none⟩)),(7,.pointer (some ⟨w.heap.size+1+1,0,none⟩))]→Own Try.prog main F Stop (G ((Go.Conc.base 37).at ⟨A,[]⟩ [.code kads8]) (c::cs)) (w37 w kd x b c0)):
 Own Try.prog main F Stop (G (Frame.enter Try.prog 37 #[.pointer (some ⟨kb,0,none⟩),sv,.agg #[.int .i64 kd,.int .i64 x,.int .i64 b,.int .i64 c0]] .normal) (c::cs)) w:=by
 rw[enter_kad]
 walk_nrm
 refine ogSR kads0' kadr0' ?_
 simp only[kadr0,kadBody,Try.f37,zz,Nat.reduceAdd]
 iterate 2 (refine oW fun dd K hK=>?_;go_simp;refine qA hK hU ?_;clear hK K)
 refine ogE ?_
 refine ogSR kads1' kadr1' ?_
 simp only[kadr1,kadBody,Try.f37,zz,Nat.reduceAdd]
 (refine oW fun dd K hK=>?_;go_simp;refine qA hK hU ?_;clear hK K)
 refine ogE ?_
 refine ogSE kads2' ?_
 refine ogSR kads3' kadr2' ?_
 simp only[kadr2,kadBody,Try.f37,zz,Nat.reduceAdd]
 (refine oW fun dd K hK=>?_;go_simp;refine qT hK ?_;clear hK K)
 (refine oW fun dd K hK=>?_;go_simp;refine qL hK ?_;clear hK K)
 refine ogE ?_
 rw[kadb0']
 refine ogB ?_
 refine ogSR kads4' kadr3' ?_
 simp only[kadr3,kadBody,Try.f37,zz,Nat.reduceAdd]
 iterate 2 (refine oW fun dd K hK=>?_;go_simp;refine qT hK ?_;clear hK K)
 refine ogE ?_
 rw[kadc10']
 refine ogF ?_
 simp only[Bool.false_eq_true,if_false]
 refine ogSR kads5' kadr5' ?_
 simp only[kadr5,kadBody,Try.f37,zz,Nat.reduceAdd]
 iterate 2 (refine oW fun dd K hK=>?_;go_simp;refine qT hK ?_;clear hK K)
 refine ogE ?_
 rw[kadc18']
 refine ogF ?_
 simp only[Bool.false_eq_true,if_false]
 refine ogSR kads6' kadr7' ?_
 simp only[kadr7,kadBody,Try.f37,zz,Nat.reduceAdd]
 iterate 2 (refine oW fun dd K hK=>?_;go_simp;refine qT hK ?_;clear hK K)
 refine ogE ?_
 rw[kadc28']
 refine ogF ?_
 simp only[Bool.false_eq_true,if_false]
 refine ogSR kads7' kadr9' ?_
 simp only[kadr9,kadBody,Try.f37,zz,Nat.reduceAdd]
 iterate 2 (refine oW fun dd K hK=>?_;go_simp;refine qT hK ?_;clear hK K)
 refine ogE ?_
 rw[kadc38']
 refine ogF ?_
 simp only[Bool.false_eq_true,if_false]
 refine ogK ?_
 refine ogI ?_
 refine h _ ?_
 exact⟨rfl,rfl,rfl,trivial⟩
theorem kad_tail{b6 b7:Nat}{ok:Bool}{n:Int}(hne:b6≠b7)(h0:w.cell? ⟨b7,0,none⟩=some (.bool ok))(h1:w.cell? ⟨b7,1,none⟩=some (.int .i64 n))(h2:w.cell? ⟨b7,2,none⟩=some (.slice none 0 0))
 (g0:w.cell? ⟨b6,0,none⟩=some (.bool false)) (g1:w.cell? ⟨b6,1,none⟩=some (.int .i64 0)) (g2:w.cell? ⟨b6,2,none⟩=some (.slice none 0 0)) (z:∀j,w.frozen? ⟨b6,j,none⟩=false)
 {A:Array Value} (hA:Slots 45 A [(6,.pointer (some ⟨b6,0,none⟩)),(7,.pointer (some ⟨b7,0,none⟩))]):
 kads8.wp Try.prog (fun x a u=>x= .ret∧a.defers=[]∧∃v,(results Try.f37 a.tmps).run Try.prog u= .ok v u∧(v= .agg #[.bool ok,.int .i64 n,.slice none 0 0]∧(∀r,r≠b6→u.heap[r]? =w.heap[r]?)∧u.heap.size=w.heap.size)) ⟨A,[]⟩ w:=by
 have z0:=z 0
 have z1:=z 1
 have z2:=z 2
 have hne2:=hne.symm
 obtain⟨hsz,k6,k7,_⟩:=hA
 obtain⟨s,rfl⟩:=kadT_of hsz
 change s 6=_ at k6
 change s 7=_ at k7
 clear hsz
 simp only[kads8,kadBody,pC,Try.f37,Option.getD_some,kadT,k6,k7]
 clear k6 k7
 go_wp2
 refine⟨.agg #[.bool ok,.int .i64 n,.slice none 0 0],by simp[results,go_sem,g0,g1,g2,z0,z1,z2],rfl,fun r hr=>?_⟩
 rw[heap_setCell_ne _ _ _ hr,heap_setCell_ne _ _ _ hr,heap_setCell_ne _ _ _ hr]
end
section
variable{w w':World}{kb:Nat}
section
variable{sv:Value}{main:Bool}{sb m:Nat}{X:Nat→World→Prop}{s:KS}{c:Frame}{cs:List Frame}{Stop:Goroutine→World→Prop}
theorem cells44{u:World}{b:Nat}{ok:Bool}{n:Int}(h:u.heap[b]? =some (.cells #[.bool ok,.int .i64 n,.slice none 0 0] 44 (0,0))):u.cell? ⟨b,0,none⟩=some (.bool ok)∧u.cell? ⟨b,1,none⟩=some (.int .i64 n)∧u.cell? ⟨b,2,none⟩=some (.slice none 0 0)∧∀j,u.frozen? ⟨b,j,none⟩=false:=by
 simp[World.cell?,World.frozen?,h]
theorem kad_end{kd x b c0:Int}{s':KS}{m':Nat}{u u2:World}{ok:Bool}{n:Int}(hkeep:∀m w w',X m w→w'.heap[sb]? =w.heap[sb]?→X m w')(hU:KU kb s w)(hsl:sb<w.heap.size∨w.heap.size+9<sb)(a:AlK kb sb X (w37 w kd x b c0) s s' m' u)
 (e7:u2.heap[w.heap.size+1+1]? =some (.cells #[.bool ok,.int .i64 n,.slice none 0 0] 44 (0,0))) (eo:∀r,r≠w.heap.size+1+1→u2.heap[r]? =u.heap[r]?) (es:u2.heap.size=u.heap.size)
 {A:Array Value} (hA:Slots 45 A [(6,.pointer (some ⟨w.heap.size+1,0,none⟩)),(7,.pointer (some ⟨w.heap.size+1+1,0,none⟩))])
 (K:∀w',AfK kb sb X s s' m' w w'→Own Try.prog main F0 Stop (G (c.finish (.agg #[.bool ok,.int .i64 n,.slice none 0 0])) cs) w'):
 Own Try.prog main F0 Stop (G ((Go.Conc.base 37).at ⟨A,[]⟩ [.code kads8]) (c::cs)) u2:=by
 have f0:=fr37 w kd x b c0
 have hz:(w37 w kd x b c0).heap.size=w.heap.size+3:=by simp
 have fr:u.heap[w.heap.size+1]? =(w37 w kd x b c0).heap[w.heap.size+1]?:=a.o _ (by omega) fun hk=>by have:=hU.low hk;omega
 have h6:u2.heap[w.heap.size+1]? =some (.cells #[.bool false,.int .i64 0,.slice none 0 0] 44 (0,0)):=(eo _ (by omega)).trans (fr.trans f0.h1)
 refine own_tail closed6 prog_late (fn:=Try.f37) Try.func37 rfl (by kernel_rfl) (R:=fun v w'=>v= .agg #[.bool ok,.int .i64 n,.slice none 0 0]∧(∀r,r≠w.heap.size+1→w'.heap[r]? =u2.heap[r]?)∧w'.heap.size=u2.heap.size) (fun τ e=>?_) fun v w' τ e hR hg=>?_
 ·obtain⟨p0,p1,p2,_⟩:=cells44 (u:=retape u2 τ e) e7
  obtain⟨q0,q1,q2,q3⟩:=cells44 (u:=retape u2 τ e) h6
  exact kad_tail (w:=retape u2 τ e) (by omega) p0 p1 p2 q0 q1 q2 q3 hA
 ·obtain⟨rfl,h1,h2⟩:=hR
  have h1:∀r,r≠w.heap.size+1→w'.heap[r]? =u2.heap[r]?:=h1
  have h2:w'.heap.size=u2.heap.size:=h2
  have k1:∀r,r<w.heap.size∨w.heap.size+9<r→w'.heap[r]? =u.heap[r]?:=fun r hr=>(h1 r (by omega)).trans (eo r (by omega))
  have hw:∀r,r<w.heap.size→(w37 w kd x b c0).heap[r]? =w.heap[r]?:=fun r hr=>by
   rw[heap_alloc_lt _ _ (by simp;omega),heap_alloc_lt _ _ (by simp;omega),heap_alloc_lt _ _ hr]
  refine K _ ⟨a.u.same fun r hr=>k1 r (.inl (hU.low ?_)),a.nb,hkeep _ _ _ a.x (k1 sb hsl),by rw[h2,es,a.sz,hz];omega,fun r hr hne hk=>by rw[k1 r (.inl hr),a.o r hne hk,hw r hr]⟩
  rcases hr with h|h
  ·exact .inl h
  ·exact .inr (h.trans a.nb)
theorem own_call37{o:Op4}(S:Stepr sv main sb X)(hU:KU kb s w)(hX:∀w',(∀r,r<w.heap.size→w'.heap[r]? =w.heap[r]?)→X m w')(hsl:sb<w.heap.size∨w.heap.size+9<sb)(hsb:¬KR kb s sb)(hm:m+20<4611686018427387904)
 (K:∀w',AfK kb sb X s ⟨(al1 s.k o).2.1,s.nb⟩ (m+(al1 s.k o).2.2) w w'→Own Try.prog main F0 Stop (G (c.finish (.agg #[.bool (al1 s.k o).1.1,.int .i64 (al1 s.k o).1.2,.slice none 0 0])) cs) w'):
 Own Try.prog main F0 Stop (G (Frame.enter Try.prog 37 #[.pointer (some ⟨kb,0,none⟩),sv,o.v] .normal) (c::cs)) w:=by
 obtain⟨kd,x,b,d⟩:=o
 have hw:∀kd,∀r,r<w.heap.size→(w37 w kd x b d).heap[r]? =w.heap[r]?:=fun kd r hr=>by
  rw[heap_alloc_lt _ _ (by simp;omega),heap_alloc_lt _ _ (by simp;omega),heap_alloc_lt _ _ hr]
 have hz:∀kd,(w37 w kd x b d).heap.size=w.heap.size+3:=fun kd=>by simp
 have hU0:∀kd,KU kb s (w37 w kd x b d):=fun kd=>hU.same fun r hr=>hw kd r (hU.low hr)
 have hX0:∀kd,X m (w37 w kd x b d):=fun kd=>hX _ (hw kd)
 have h7:∀{kd:Int} {s':KS} {m':Nat} {u:World},AlK kb sb X (w37 w kd x b d) s s' m' u→u.heap[w.heap.size+1+1]? =some (.cells #[.bool false,.int .i64 0,.slice none 0 0] 44 (0,0)):=fun{kd s' m' u} a=>(a.o _ (by omega) fun hk=>by have:=hU.low hk;omega).trans (fr37 w kd x b d).h2
 have un:Under F0 0:=under_F0
 have n0:0≤w.heap.size:=Nat.zero_le _
 by_cases k1:kd=1
 ·subst k1
  refine kad_push0 un n0 fun A hA=>own_push (v:=x) S (hU0 1) (hX0 1) (by omega) hsb fun u a=>?_
  obtain⟨c0,c1,c2,z⟩:=cells44 (h7 a)
  refine kad_push1 c0 c1 (z 0) (z 1) (fun k=>notF0 _) hA fun A2 hA2=>?_
  refine kad_end (n:=0) S.keep hU hsl a ?_ (fun r hr=>heap_setCell_ne _ _ _ hr) (by simp) hA2 fun w' h=>K w' h
  rw[heap_setCell_eq (h7 a)]
  rfl
 by_cases k2:kd=2
 ·subst k2
  refine kad_pop0 un n0 fun A hA=>own_pop S (hU0 2) (hX0 2) (by omega) hsb fun u a=>?_
  obtain⟨c0,c1,c2,z⟩:=cells44 (h7 a)
  refine kad_pop1 c0 c1 (z 0) (z 1) (fun k=>notF0 _) hA fun A2 hA2=>?_
  refine kad_end S.keep hU hsl a ?_ (fun r hr=>by rw[heap_setCell_ne _ _ _ hr,heap_setCell_ne _ _ _ hr]) (by simp) hA2 fun w' h=>K w' h
  rw[heap_setCell_eq (by rw[heap_setCell_eq (h7 a)])]
  rfl
 by_cases k3:kd=3
 ·subst k3
  refine kad_peek0 un n0 fun A hA=>own_peek S (hU0 3) (hX0 3) (by omega) hsb fun u a=>?_
  obtain⟨c0,c1,c2,z⟩:=cells44 (h7 a)
  refine kad_peek1 c0 c1 (z 0) (z 1) (fun k=>notF0 _) hA fun A2 hA2=>?_
  refine kad_end S.keep hU hsl a ?_ (fun r hr=>by rw[heap_setCell_ne _ _ _ hr,heap_setCell_ne _ _ _ hr]) (by simp) hA2 fun w' h=>K w' h
  rw[heap_setCell_eq (by rw[heap_setCell_eq (h7 a)])]
  rfl
 by_cases k4:kd=4
 ·subst k4
  refine kad_emp0 un n0 fun A hA=>own_empty S (hU0 4) (hX0 4) (by omega) hsb fun u a=>?_
  obtain⟨c0,c1,c2,z⟩:=cells44 (h7 a)
  refine kad_emp1 c0 c1 (z 0) (z 1) (fun k=>notF0 _) hA fun A2 hA2=>?_
  refine kad_end (n:=0) S.keep hU hsl a ?_ (fun r hr=>heap_setCell_ne _ _ _ hr) (by simp) hA2 fun w' h=>K w' h
  rw[heap_setCell_eq (h7 a)]
  rfl
 have e:al1 s.k ⟨kd,x,b,d⟩=((false,0),s.k,0):=by simp[al1,k1,k2,k3,k4]
 rw[e]at K
 refine kad_other un n0 (by simpa using k1) (by simpa using k2) (by simpa using k3) (by simpa using k4) fun A hA=>?_
 have a0:AlK kb sb X (w37 w kd x b d) s s m (w37 w kd x b d):=⟨hU0 kd,rfl,hX0 kd,rfl,fun _ _ _=>rfl⟩
 exact kad_end S.keep hU hsl a0 (h7 a0) (fun r _=>rfl) rfl hA fun w' h=>K w' h
end
end
section
variable{w w' W:World}
def Bk(r:Nat)(ok:Bool)(z:Int)(u:World):Prop:=u.heap[r]? =some (.cells #[.bool ok,.int .i64 z,.slice none 0 0] 44 (0,0))
theorem Bk.lt{r:Nat}{ok:Bool}{z:Int}(k:Bk r ok z w):r<w.heap.size:=(alt k)
theorem Bk.keep{r:Nat}{ok:Bool}{z:Int}(k:Bk r ok z w)(e:w'.heap[r]? =w.heap[r]?):Bk r ok z w':=e.trans k
theorem Bk.alloc{r:Nat}{ok:Bool}{z:Int}(k:Bk r ok z w)(o:Obj):Bk r ok z (w.alloc o):=k.keep (heap_alloc_lt _ _ k.lt)
theorem Bk.new(w:World):Bk w.heap.size false 0 (w.alloc (.cells #[.bool false,.int .i64 0,.slice none 0 0] 44)):=heap_alloc_new _ _
theorem Bk.put{r:Nat}{ok ok':Bool}{z z':Int}(k:Bk r ok z w):Bk r ok' z' (((w.setCell ⟨r,0,none⟩ (.bool ok')).setCell ⟨r,1,none⟩ (.int .i64 z')).setCell ⟨r,2,none⟩ (.slice none 0 0)):=by
 unfold Bk
 rw[heap_setCell_eq (by rw[heap_setCell_eq (by rw[heap_setCell_eq k])])]
 rfl
structure In10(w1:World)(ka kn la ln sb b10:Nat)(s u:KSt)(n:Nat)(a:Bool×Int)(xo yo:Option Nat)(w:World):Prop where
 r:Rd w1 ka kn la ln sb b10 s u n a w
 x:∀r,xo=some r→b10<r∧Bk r false 0 w
 y:∀r,yo=some r→b10<r∧Bk r false 0 w
 d:∀p q,xo=some p→yo=some q→p≠q
section
variable{w1:World}{ka kn la ln sb b10 n:Nat}{s u:KSt}{a:Bool×Int}{x y:Option Nat}
theorem In10.at(h:In10 w1 ka kn la ln sb b10 s u n a x y w)(d:Nat):In10 w1 ka kn la ln sb b10 s u n a x y (w.at d):=
 ⟨h.r.grow (fun r _=>rfl) (Nat.le_refl _),h.x,h.y,h.d⟩
theorem In10.allocX(h:In10 w1 ka kn la ln sb b10 s u n a none y w):In10 w1 ka kn la ln sb b10 s u n a (some w.heap.size) y (w.alloc (.cells #[.bool false,.int .i64 0,.slice none 0 0] 44)):=
 ⟨h.r.grow (fun r hr=>heap_alloc_lt _ _ hr) (by simp),fun r e=>by cases e;exact⟨h.r.lt,Bk.new w⟩,fun r e=>⟨(h.y r e).1,(h.y r e).2.alloc _⟩,fun p q e1 e2=>by
  cases e1
  have:=(h.y q e2).2.lt
  omega⟩
theorem In10.allocY(h:In10 w1 ka kn la ln sb b10 s u n a x none w):In10 w1 ka kn la ln sb b10 s u n a x (some w.heap.size) (w.alloc (.cells #[.bool false,.int .i64 0,.slice none 0 0] 44)):=
 ⟨h.r.grow (fun r hr=>heap_alloc_lt _ _ hr) (by simp),fun r e=>⟨(h.x r e).1,(h.x r e).2.alloc _⟩,fun r e=>by cases e;exact⟨h.r.lt,Bk.new w⟩,fun p q e1 e2=>by
  cases e2
  have:=(h.x p e1).2.lt
  omega⟩
variable{main:Bool}{c:Frame}{cs:List Frame}{Stop:Goroutine→World→Prop}{o:Op4}
theorem own_callK(h:In10 w1 ka kn la ln sb b10 s u n a x y w)(hb:sb<b10∧ka<b10∧kn<b10∧la<b10∧ln<b10)(hn:n+20<4611686018427387904)
 (K:∀w',In10 w1 ka kn la ln sb b10 (al1 s o).2.1 u (n+(al1 s o).2.2) a x y w'→Own Try.prog main F0 Stop (G (c.finish (.agg #[.bool (al1 s o).1.1,.int .i64 (al1 s o).1.2,.slice none 0 0])) cs) w'):
 Own Try.prog main F0 Stop (G (Frame.enter Try.prog 37 #[.pointer (some ⟨ka,0,none⟩),.iface 76 (.pointer (some ⟨sb,0,none⟩)),o.v] .normal) (c::cs)) w:=by
 obtain⟨d1,d2,d3,d4,d5,d6⟩:=h.r.d
 obtain⟨a1,a2,a3,a4⟩:=h.r.l.n1
 have hlt:=h.r.lt
 refine own_call37 (o:=o) (s:=⟨s,kn⟩) (cntS main sb) h.r.l.k (m:=n) (fun w' hw=>(hw sb h.r.l.sb_lt).trans h.r.l.c) (.inl h.r.l.sb_lt) ?_ hn fun w' h2=>K _ ?_
 ·rintro(e2|e2)
  ·omega
  ·have e2:sb=kn:=e2;omega
 ·have up:∀r,b10≤r→r<w.heap.size→w'.heap[r]? =w.heap[r]?:=fun r hr hl=>h2.o r hl (by omega) (by
   rintro(e2|e2)
   ·omega
   ·have e2:r=kn:=e2;omega)
  exact⟨⟨h.r.l.stepK h2,(up _ (Nat.le_refl _) hlt).trans h.r.b,h.r.d⟩,fun r e=>⟨(h.x r e).1,(h.x r e).2.keep (up r (Nat.le_of_lt (h.x r e).1) (h.x r e).2.lt)⟩,fun r e=>⟨(h.y r e).1,(h.y r e).2.keep (up r (Nat.le_of_lt (h.y r e).1) (h.y r e).2.lt)⟩,h.d⟩
theorem own_callL(h:In10 w1 ka kn la ln sb b10 s u n a x y w)(hb:sb<b10∧ka<b10∧kn<b10∧la<b10∧ln<b10)
 (K:∀w',In10 w1 ka kn la ln sb b10 s (al1 u o).2.1 n a x y w'→Own Try.prog main F0 Stop (G (c.finish (.agg #[.bool (al1 u o).1.1,.int .i64 (al1 u o).1.2,.slice none 0 0])) cs) w'):
 Own Try.prog main F0 Stop (G (Frame.enter Try.prog 37 #[.pointer (some ⟨la,0,none⟩),.nilIface,o.v] .normal) (c::cs)) w:=by
 obtain⟨d1,d2,d3,d4,d5,d6⟩:=h.r.d
 have hlt:=h.r.lt
 refine own_call37 (o:=o) (s:=⟨u,ln⟩) (nilS main (w.heap.size+50)) h.r.l.l (m:=0) (fun w' hw=>trivial) (.inr (by omega)) (fun hk=>by have:=h.r.l.l.low hk;omega) (by omega) fun w' h2=>K _ ?_
 have up:∀r,b10≤r→r<w.heap.size→w'.heap[r]? =w.heap[r]?:=fun r hr hl=>h2.o r hl (by omega) (by
  rintro(e2|e2)
  ·omega
  ·have e2:r=ln:=e2;omega)
 exact⟨⟨h.r.l.stepL h2 (by omega),(up _ (Nat.le_refl _) hlt).trans h.r.b,h.r.d⟩,fun r e=>⟨(h.x r e).1,(h.x r e).2.keep (up r (Nat.le_of_lt (h.x r e).1) (h.x r e).2.lt)⟩,fun r e=>⟨(h.y r e).1,(h.y r e).2.keep (up r (Nat.le_of_lt (h.y r e).1) (h.y r e).2.lt)⟩,h.d⟩
theorem Rd.above(h:Rd w1 ka kn la ln sb b10 s u n a w)(hb:sb<b10∧ka<b10∧kn<b10∧la<b10∧ln<b10)(e:∀q,q≤b10→w'.heap[q]? =w.heap[q]?)(hs:w'.heap.size=w.heap.size):Rd w1 ka kn la ln sb b10 s u n a w':=by
 obtain⟨d1,d2,d3,d4,d5,d6⟩:=h.d
 refine⟨⟨h.l.k.same fun q hq=>e q ?_,h.l.l.same fun q hq=>e q ?_,(e sb (by omega)).trans h.l.c,h.l.n1,h.l.n2,h.l.ge,fun q hq=>(e q (by omega)).trans (h.l.old q hq),by rw[hs];exact h.l.sz⟩,(e b10 (Nat.le_refl _)).trans h.b,h.d⟩
 ·rcases hq with e2|e2
  ·omega
  ·have e2:q=kn:=e2;omega
 ·rcases hq with e2|e2
  ·omega
  ·have e2:q=ln:=e2;omega
end
end
section
variable{w w':World}
structure OpS(b o:Nat)(x:Op4)(w:World):Prop where
 f0:w.cell? ⟨b,o,none⟩=some (.int .i64 x.kd)
 f1:w.cell? ⟨b,o+1,none⟩=some (.int .i64 x.a)
 f2:w.cell? ⟨b,o+2,none⟩=some (.int .i64 x.b)
 f3:w.cell? ⟨b,o+3,none⟩=some (.int .i64 x.c)
 g0:w.frozen? ⟨b,o,none⟩=false
 g1:w.frozen? ⟨b,o+1,none⟩=false
 g2:w.frozen? ⟨b,o+2,none⟩=false
 g3:w.frozen? ⟨b,o+3,none⟩=false
theorem OpS.at{b o:Nat}{x:Op4}(h:OpS b o x w)(d:Nat):OpS b o x (w.at d):=⟨h.f0,h.f1,h.f2,h.f3,h.g0,h.g1,h.g2,h.g3⟩
structure Pre10(w1:World)(ka kn la ln sb b10 n:Nat)(st ut:KSt)(o:Op4)(ok:Bool)(z:Int)(pb po:Nat):Prop where
 hb:sb<b10∧ka<b10∧kn<b10∧la<b10∧ln<b10
 hn:n+20<4611686018427387904
 hz:(al1 st o).1=(ok,z)
 hz2:(al1 ut o).1=(ok,z)
 hF:∀u:World,(∀r,r<w1.heap.size→u.heap[r]? =w1.heap[r]?)→OpS pb po o u
section
variable{P:Program}{main:Bool}{F:Fz}{fn:FuncId}{ops:Array Oper}{S:World→Prop}{last:Nat}{Z:Act→World→Prop}{fuel:Nat}{listed:Array Bool}{a:Act}
theorem fa1{p:Nat→Prop}{i:Nat}(h:p i):∀x∈[i],p x:=fun x hx=>by
 obtain rfl:x=i:=by simpa using hx
 exact h
theorem fa2{p:Nat→Prop}{i j:Nat}(h:p i)(h2:p j):∀x∈[i,j],p x:=List.forall_mem_cons.2 ⟨h,fa1 h2⟩
theorem fa3{p:Nat→Prop}{i j k:Nat}(h:p i)(h2:p j)(h3:p k):∀x∈[i,j,k],p x:=List.forall_mem_cons.2 ⟨h,fa2 h2 h3⟩
end
section
variable{w1:World}{ka kn la ln sb b10 n pb po i:Nat}{st ut:KSt}{o:Op4}{ok:Bool}{z:Int}{x1 x5 x39 x40 x41:Value}{main:Bool}{ops:Array Oper}{Z:Act→World→Prop}{xo yo:Option Nat}{op:Oper}{K:Act→World→Prop}{a:Act}
theorem opcK(P:Pre10 w1 ka kn la ln sb b10 n st ut o ok z pb po)(h:In10 w1 ka kn la ln sb b10 st ut n (ok,z) xo yo w)(ho:ops[i]? =some op)(hw:Region.wanted op (yielded ops a.tmps)=true)(r1:∀w,(execOp a.eval op).run Try.prog w= .ok (.enter 37 #[.pointer (some ⟨ka,0,none⟩),.iface 76 (.pointer (some ⟨sb,0,none⟩)),o.v]) w)(r2:∀w,(execOp a.eval op).events Try.prog w #[]= #[])
 (k:∀w',In10 w1 ka kn la ln sb b10 (al1 st o).2.1 ut (n+(al1 st o).2.2) (ok,z) xo yo w'→K (a.put op.dst (.agg #[.bool ok,.int .i64 z,.slice none 0 0])) w'):OpC Try.prog main F0 10 ops i K a w:=
 ⟨_,ho,.inr (.inr ⟨hw,37,_,fun v w'=>v= .agg #[.bool ok,.int .i64 z,.slice none 0 0]∧In10 w1 ka kn la ln sb b10 (al1 st o).2.1 ut (n+(al1 st o).2.2) (ok,z) xo yo w',r1,r2,fun c cs Stop q=>own_callK (o:=o) h P.hb P.hn fun w' h'=>q _ _ ⟨by rw[P.hz],h'⟩,by
  rintro v w' ⟨rfl,h'⟩
  exact k _ h'⟩)⟩
theorem opcL(P:Pre10 w1 ka kn la ln sb b10 n st ut o ok z pb po){s:KSt}{m:Nat}(h:In10 w1 ka kn la ln sb b10 s ut m (ok,z) xo yo w)(ho:ops[i]? =some op)(hw:Region.wanted op (yielded ops a.tmps)=true)(r1:∀w,(execOp a.eval op).run Try.prog w= .ok (.enter 37 #[.pointer (some ⟨la,0,none⟩),.nilIface,o.v]) w)(r2:∀w,(execOp a.eval op).events Try.prog w #[]= #[])
 (k:∀w',In10 w1 ka kn la ln sb b10 s (al1 ut o).2.1 m (ok,z) xo yo w'→K (a.put op.dst (.agg #[.bool ok,.int .i64 z,.slice none 0 0])) w'):OpC Try.prog main F0 10 ops i K a w:=
 ⟨_,ho,.inr (.inr ⟨hw,37,_,fun v w'=>v= .agg #[.bool ok,.int .i64 z,.slice none 0 0]∧In10 w1 ka kn la ln sb b10 s (al1 ut o).2.1 m (ok,z) xo yo w',r1,r2,fun c cs Stop q=>own_callL (o:=o) h P.hb fun w' h'=>q _ _ ⟨by rw[P.hz2],h'⟩,by
  rintro v w' ⟨rfl,h'⟩
  exact k _ h'⟩)⟩
theorem opcX(h:In10 w1 ka kn la ln sb b10 st ut n (ok,z) none yo w)(ho:ops[i]? =some op)(hw:Region.wanted op (yielded ops a.tmps)=true)(r1:∀w:World,(execOp a.eval op).run Try.prog w= .ok (.value (.pointer (some ⟨w.heap.size,0,none⟩))) (w.alloc (.cells #[.bool false,.int .i64 0,.slice none 0 0] 44)))(r2:∀w,(execOp a.eval op).events Try.prog w #[]= #[])(hK:∀a w d,K a w→K a (World.at w d))
 (k:∀w' x,In10 w1 ka kn la ln sb b10 st ut n (ok,z) (some x) yo w'→K (a.put op.dst (.pointer (some ⟨x,0,none⟩))) w'):OpC Try.prog main F0 10 ops i K a w:=
 ⟨_,ho,.inl ⟨hw,fun d=>by
  rw[r1]
  refine⟨⟨⟨0,grew_alloc under_F0 (Nat.zero_le _) _⟩,fun e he=>by(have hm:=mem_listed he;rw[r2]at hm;simp at hm)⟩,?_⟩
  exact hK _ _ d (k _ _ h.allocX)⟩⟩
theorem opcY(h:In10 w1 ka kn la ln sb b10 st ut n (ok,z) xo none w)(ho:ops[i]? =some op)(hw:Region.wanted op (yielded ops a.tmps)=true)(r1:∀w:World,(execOp a.eval op).run Try.prog w= .ok (.value (.pointer (some ⟨w.heap.size,0,none⟩))) (w.alloc (.cells #[.bool false,.int .i64 0,.slice none 0 0] 44)))(r2:∀w,(execOp a.eval op).events Try.prog w #[]= #[])(hK:∀a w d,K a w→K a (World.at w d))
 (k:∀w' x,In10 w1 ka kn la ln sb b10 st ut n (ok,z) xo (some x) w'→K (a.put op.dst (.pointer (some ⟨x,0,none⟩))) w'):OpC Try.prog main F0 10 ops i K a w:=
 ⟨_,ho,.inl ⟨hw,fun d=>by
  rw[r1]
  refine⟨⟨⟨0,grew_alloc under_F0 (Nat.zero_le _) _⟩,fun e he=>by(have hm:=mem_listed he;rw[r2]at hm;simp at hm)⟩,?_⟩
  exact hK _ _ d (k _ _ h.allocY)⟩⟩
def Fin10(w1:World)(ka kn la ln sb b10 n:Nat)(st ut:KSt)(o:Op4)(ok:Bool)(z:Int)(L:List (Nat×Value))(Z:Act→World→Prop):Prop:=
 ∀(A:Array Value) (w':World) (x y:Nat),Slots 155 A ((59,.agg #[.bool ok,.int .i64 z,.slice none 0 0])::(11,.pointer (some ⟨x,0,none⟩))::(12,.pointer (some ⟨y,0,none⟩))::L)→
  Rd w1 ka kn la ln sb b10 (al1 st o).2.1 (al1 ut o).2.1 (n+(al1 st o).2.2) (ok,z) w'→b10<x→b10<y→x≠y→Bk x ok z w'→Bk y false 0 w'→Z ⟨A,[]⟩ w'
abbrev L10s(ka la sb b10:Nat)(x1 x5 x39 x40 x41:Value):List (Nat×Value):=[(1,x1),(5,x5),(6,.pointer (some ⟨ka,0,none⟩)),(7,.pointer (some ⟨la,0,none⟩)),(8,.pointer (some ⟨sb,0,none⟩)),(10,.pointer (some ⟨b10,0,none⟩)),(39,x39),(40,x40),(41,x41)]
theorem kar_211(ho:ops=(oC kalr10))(P:Pre10 w1 ka kn la ln sb b10 n st ut o ok z pb po){x y:Nat}(h:In10 w1 ka kn la ln sb b10 (al1 st o).2.1 (al1 ut o).2.1 (n+(al1 st o).2.2) (ok,z) (some x) (some y) w)(hZ:∀a w d,Z a w→Z a (World.at w d))(K:Fin10 w1 ka kn la ln sb b10 n st ut o ok z (L10s ka la sb b10 x1 x5 x39 x40 x41) Z)
 {A:Array Value} (hA:Slots 155 A ((53,.agg #[.bool ok,.int .i64 z,.slice none 0 0])::(59,.agg #[.bool ok,.int .i64 z,.slice none 0 0])::(11,.pointer (some ⟨x,0,none⟩))::(12,.pointer (some ⟨y,0,none⟩))::L10s ka la sb b10 x1 x5 x39 x40 x41)):AnyC Try.prog main F0 10 ops (OpS pb po o) 17 Z 1 #[true,true,true,true,true,true,true,true,true,true,true,true,true,true,true,true,false,false] ⟨A,[]⟩ w:=by
 obtain⟨hsz,k53,k59,k11,k12,k1,k5,k6,k7,k8,k10,k39,k40,k41,_⟩:=hA
 obtain⟨s,rfl⟩:=kalT_of hsz
 change s 53=_ at k53
 change s 59=_ at k59
 change s 11=_ at k11
 change s 12=_ at k12
 change s 1=_ at k1
 change s 5=_ at k5
 change s 6=_ at k6
 change s 7=_ at k7
 change s 8=_ at k8
 change s 10=_ at k10
 change s 39=_ at k39
 change s 40=_ at k40
 change s 41=_ at k41
 clear hsz
 simp only[kalT,k53,k59,k11,k12,k1,k5,k6,k7,k8,k10,k39,k40,k41]
 clear k53 k59 k11 k12 k1 k5 k6 k7 k8 k10 k39 k40 k41
 have hS:∀u d,OpS pb po o u→OpS pb po o (World.at u d):=fun u d h=>h.at d
 subst ho
 simp only[kalr10,kalBody,Try.f10,zz,Nat.reduceAdd]
 refine anyC_all (r:=[16]) (by kernel_rfl) (by kernel_rfl) (fun i hi hil=>?_)
 simp only[List.mem_cons,List.not_mem_nil,or_false]at hi
 subst hi
 ·have hx:=h.x x rfl
  have hy:=h.y y rfl
  have hne:=h.d x y rfl rfl
  have c0:=cells44 hx.2
  have z0:=c0.2.2.2
  refine opc_k rfl rfl (fun d K' hK'=>?_)
  have c1:(w.at d).cell? ⟨x,0,none⟩=some (.bool false):=c0.1
  have c2:(w.at d).cell? ⟨x,1,none⟩=some (.int .i64 0):=c0.2.1
  have c3:(w.at d).cell? ⟨x,2,none⟩=some (.slice none 0 0):=c0.2.2.1
  have z1:(w.at d).frozen? ⟨x,0,none⟩=false:=z0 0
  have z2:(w.at d).frozen? ⟨x,1,none⟩=false:=z0 1
  have z3:(w.at d).frozen? ⟨x,2,none⟩=false:=z0 2
  have d1:w.cell? ⟨x,0,none⟩=some (.bool false):=c0.1
  have d2:w.cell? ⟨x,1,none⟩=some (.int .i64 0):=c0.2.1
  have d3:w.cell? ⟨x,2,none⟩=some (.slice none 0 0):=c0.2.2.1
  clear c0
  go_simp
  have hR:Rd w1 ka kn la ln sb b10 (al1 st o).2.1 (al1 ut o).2.1 (n+(al1 st o).2.2) (ok,z) (((w.setCell ⟨x,0,none⟩ (.bool ok)).setCell ⟨x,1,none⟩ (.int .i64 z)).setCell ⟨x,2,none⟩ (.slice none 0 0)):=h.r.above P.hb (fun q hq=>by rw[heap_setCell_ne _ _ _ (by simp only;omega),heap_setCell_ne _ _ _ (by simp only;omega),heap_setCell_ne _ _ _ (by simp only;omega)]) (by simp)
  refine hK' _ _ ⟨⟨⟨0,grew3 (fun k=>notF0 _) _ _ _⟩,fun e he=>by(have hm:=mem_listed he;clear he hK';simp[go_sem,storedEv,d1,d2,d3,z0]at hm;rcases hm with rfl|rfl|rfl<;>exact evT_write _ _ (notF0 _))⟩,?_⟩
  clear hK' K'
  simp only[setCell_at']
  refine⟨P.hF _ (hR.l.old),?_⟩
  refine anyC_at hS hZ _ _ _ _ ?_ d
  refine anyC_end (by kernel_rfl) ?_ _
  exact K _ _ x y ⟨rfl,rfl,rfl,rfl,rfl,rfl,rfl,rfl,rfl,rfl,rfl,rfl,rfl,trivial⟩ hR hx.1 hy.1 hne hx.2.put (hy.2.keep (by rw[heap_setCell_ne _ _ _ (by simp only;omega),heap_setCell_ne _ _ _ (by simp only;omega),heap_setCell_ne _ _ _ (by simp only;omega)]))
theorem kar_000(ho:ops=(oC kalr10))(P:Pre10 w1 ka kn la ln sb b10 n st ut o ok z pb po)(h:In10 w1 ka kn la ln sb b10 st ut n (ok,z) none none w)(hZ:∀a w d,Z a w→Z a (World.at w d))(K:Fin10 w1 ka kn la ln sb b10 n st ut o ok z (L10s ka la sb b10 x1 x5 x39 x40 x41) Z)
 {A:Array Value} (hA:Slots 155 A ((46,.pointer (some ⟨ka,0,none⟩))::(48,.iface 76 (.pointer (some ⟨sb,0,none⟩)))::(52,.agg #[.int .i64 o.kd,.int .i64 o.a,.int .i64 o.b,.int .i64 o.c])::(54,.pointer (some ⟨la,0,none⟩))::(58,.agg #[.int .i64 o.kd,.int .i64 o.a,.int .i64 o.b,.int .i64 o.c])::L10s ka la sb b10 x1 x5 x39 x40 x41)):AnyC Try.prog main F0 10 ops (OpS pb po o) 17 Z 5 #[true,true,true,true,true,true,true,false,true,true,true,true,true,false,false,false,false,false] ⟨A,[]⟩ w:=by
 obtain⟨hsz,k46,k48,k52,k54,k58,k1,k5,k6,k7,k8,k10,k39,k40,k41,_⟩:=hA
 obtain⟨s,rfl⟩:=kalT_of hsz
 change s 46=_ at k46
 change s 48=_ at k48
 change s 52=_ at k52
 change s 54=_ at k54
 change s 58=_ at k58
 change s 1=_ at k1
 change s 5=_ at k5
 change s 6=_ at k6
 change s 7=_ at k7
 change s 8=_ at k8
 change s 10=_ at k10
 change s 39=_ at k39
 change s 40=_ at k40
 change s 41=_ at k41
 clear hsz
 simp only[kalT,k46,k48,k52,k54,k58,k1,k5,k6,k7,k8,k10,k39,k40,k41]
 clear k46 k48 k52 k54 k58 k1 k5 k6 k7 k8 k10 k39 k40 k41
 have hS:∀u d,OpS pb po o u→OpS pb po o (World.at u d):=fun u d h=>h.at d
 subst ho
 simp only[kalr10,kalBody,Try.f10,zz,Nat.reduceAdd]
 iterate 4
  all_goals
   first
   | (have q:In10 _ _ _ _ _ _ _ st ut _ _ none none _:=h;clear q;refine anyC_all (r:=[7,14,15]) (by kernel_rfl) (by kernel_rfl) (fa3 (fun _=>?_) (fun _=>?_) fun _=>?_))
   | (have q:In10 _ _ _ _ _ _ _ st ut _ _ none (some _) _:=h;clear q;refine anyC_all (r:=[7,14]) (by kernel_rfl) (by kernel_rfl) (fa2 (fun _=>?_) fun _=>?_))
   | (have q:In10 _ _ _ _ _ _ _ st ut _ _ (some _) none _:=h;clear q;refine anyC_all (r:=[7,15]) (by kernel_rfl) (by kernel_rfl) (fa2 (fun _=>?_) fun _=>?_))
   | (have q:In10 _ _ _ _ _ _ _ st ut _ _ (some _) (some _) _:=h;clear q;refine anyC_all (r:=[7]) (by kernel_rfl) (by kernel_rfl) (fa1 fun _=>?_))
   | (have q:In10 _ _ _ _ _ _ _ (al1 st o).2.1 ut _ _ none none _:=h;clear q;refine anyC_all (r:=[13,14,15]) (by kernel_rfl) (by kernel_rfl) (fa3 (fun _=>?_) (fun _=>?_) fun _=>?_))
   | (have q:In10 _ _ _ _ _ _ _ (al1 st o).2.1 ut _ _ none (some _) _:=h;clear q;refine anyC_all (r:=[13,14]) (by kernel_rfl) (by kernel_rfl) (fa2 (fun _=>?_) fun _=>?_))
   | (have q:In10 _ _ _ _ _ _ _ (al1 st o).2.1 ut _ _ (some _) none _:=h;clear q;refine anyC_all (r:=[13,15]) (by kernel_rfl) (by kernel_rfl) (fa2 (fun _=>?_) fun _=>?_))
   | (have q:In10 _ _ _ _ _ _ _ (al1 st o).2.1 ut _ _ (some _) (some _) _:=h;clear q;refine anyC_all (r:=[13]) (by kernel_rfl) (by kernel_rfl) (fa1 fun _=>?_))
   | (have q:In10 _ _ _ _ _ _ _ _ (al1 ut o).2.1 _ _ none none _:=h;clear q;refine anyC_all (r:=[14,15]) (by kernel_rfl) (by kernel_rfl) (fa2 (fun _=>?_) fun _=>?_))
   | (have q:In10 _ _ _ _ _ _ _ _ (al1 ut o).2.1 _ _ none (some _) _:=h;clear q;refine anyC_all (r:=[14]) (by kernel_rfl) (by kernel_rfl) (fa1 fun _=>?_))
   | (have q:In10 _ _ _ _ _ _ _ _ (al1 ut o).2.1 _ _ (some _) none _:=h;clear q;refine anyC_all (r:=[15]) (by kernel_rfl) (by kernel_rfl) (fa1 fun _=>?_))
  all_goals
   first
   | (refine opcK (i:=7) P h rfl rfl ?_ ?_ fun w h=>⟨P.hF _ h.r.l.old,?_⟩;(intro w;simp[execOp,Act.eval,resolve,invoke,Deferred.ofValue,callable37.run,Op4.v]);(intro w;simp[execOp,Act.eval,resolve,invoke,Deferred.ofValue,callable37.run,callable37.quiet]);walk_nrm)
   | (refine opcL (i:=13) P h rfl rfl ?_ ?_ fun w h=>⟨P.hF _ h.r.l.old,?_⟩;(intro w;simp[execOp,Act.eval,resolve,invoke,Deferred.ofValue,callable37.run,Op4.v]);(intro w;simp[execOp,Act.eval,resolve,invoke,Deferred.ofValue,callable37.run,callable37.quiet]);walk_nrm)
   | (refine opcX (i:=14) h rfl rfl ?_ ?_ (fun a w d q=>⟨hS _ _ q.1,anyC_at hS hZ _ _ _ _ q.2 d⟩) fun w x h=>⟨P.hF _ h.r.l.old,?_⟩;(intro w;simp[go_sem,execOp,Act.eval]);(intro w;simp[go_sem,execOp,Act.eval]);walk_nrm)
   | (refine opcY (i:=15) h rfl rfl ?_ ?_ (fun a w d q=>⟨hS _ _ q.1,anyC_at hS hZ _ _ _ _ q.2 d⟩) fun w x h=>⟨P.hF _ h.r.l.old,?_⟩;(intro w;simp[go_sem,execOp,Act.eval]);(intro w;simp[go_sem,execOp,Act.eval]);walk_nrm)
 all_goals exact kar_211 (by kernel_rfl) P h hZ K ⟨rfl,rfl,rfl,rfl,rfl,rfl,rfl,rfl,rfl,rfl,rfl,rfl,rfl,rfl,trivial⟩
end
end
section
variable{w w':World}
theorem own_r10{w1:World}{ka kn la ln sb b10 n pb oo ol oc i:Nat}{st ut:KSt}{o:Op4}{ok:Bool}{z:Int}{x5 x39 x40 x41:Value}(P:Pre10 w1 ka kn la ln sb b10 n st ut o ok z pb (oo+i*4))(hi:i<ol)(hR:Rd w1 ka kn la ln sb b10 st ut n (ok,z) w)
 {A:Array Value} (hA:Slots 155 A [(1,.slice (some ⟨pb,oo,none⟩) ol oc),(5,x5),(6,.pointer (some ⟨ka,0,none⟩)),(7,.pointer (some ⟨la,0,none⟩)),(8,.pointer (some ⟨sb,0,none⟩)),(9,.int .i64 i),(10,.pointer (some ⟨b10,0,none⟩)),(39,x39),(40,x40),(41,x41)]) {cs:List Frame} {main:Bool} {Stop:Goroutine→World→Prop} {k:List Item}
 (K:∀A w' x y,Slots 155 A ((11,.pointer (some ⟨x,0,none⟩))::(12,.pointer (some ⟨y,0,none⟩))::L10s ka la sb b10 (.slice (some ⟨pb,oo,none⟩) ol oc) x5 x39 x40 x41)→Rd w1 ka kn la ln sb b10 (al1 st o).2.1 (al1 ut o).2.1 (n+(al1 st o).2.2) (ok,z) w'→Bk x ok z w'→Bk y ok z w'→Own Try.prog main F0 Stop (G ((Go.Conc.base 10).at ⟨A,[]⟩ k) cs) w'):
 Own Try.prog main F0 Stop (G ((Go.Conc.base 10).at ⟨A,[]⟩ (.code kalr10::k)) cs) w:=by
 have hi2:(i:Int)<(ol:Int):=by omega
 have hS:∀u d,OpS pb (oo+i*4) o u→OpS pb (oo+i*4) o (World.at u d):=fun u d h=>h.at d
 have hs:=P.hF _ hR.l.old
 have h0:In10 w1 ka kn la ln sb b10 st ut n (ok,z) none none w:=⟨hR,fun r e=>(by cases e),fun r e=>(by cases e),fun p q e=>(by cases e)⟩
 obtain⟨hsz,k1,k5,k6,k7,k8,k9,k10,k39,k40,k41,_⟩:=hA
 obtain⟨s,rfl⟩:=kalT_of hsz
 change s 1=_ at k1
 change s 5=_ at k5
 change s 6=_ at k6
 change s 7=_ at k7
 change s 8=_ at k8
 change s 9=_ at k9
 change s 10=_ at k10
 change s 39=_ at k39
 change s 40=_ at k40
 change s 41=_ at k41
 clear hsz
 simp only[kalT,k1,k5,k6,k7,k8,k9,k10,k39,k40,k41]
 clear k1 k5 k6 k7 k8 k9 k10 k39 k40 k41
 rw[kalr10']
 refine own_drawnC (OpS pb (oo+i*4) o) (last:=17) run_mixed (ll_of (by kernel_rfl)) (by decide) ?_
 simp only[kalr10,kalBody,Try.f10,zz,Nat.reduceAdd]
 refine anyC_take hS (fun _ _ d h=>h.at d) (i:=0) (v:=.pointer (some ⟨ka,0,none⟩)) hs rfl rfl (by kernel_rfl) (by kernel_rfl) (by kernel_rfl) (fun u hu=>.inl ⟨rfl,fun d=>⟨by simp[go_sem,execOp,Act.eval],fun e he=>by have hm:=mem_listed he;simp[go_sem,execOp,Act.eval]at hm⟩⟩) ?_
 walk_nrm
 refine anyC_take hS (fun _ _ d h=>h.at d) (i:=1) (v:=.pointer (some ⟨sb,0,none⟩)) hs rfl rfl (by kernel_rfl) (by kernel_rfl) (by kernel_rfl) (fun u hu=>.inl ⟨rfl,fun d=>⟨by simp[go_sem,execOp,Act.eval],fun e he=>by have hm:=mem_listed he;simp[go_sem,execOp,Act.eval]at hm⟩⟩) ?_
 walk_nrm
 refine anyC_take hS (fun _ _ d h=>h.at d) (i:=2) (v:=.iface 76 (.pointer (some ⟨sb,0,none⟩))) hs rfl rfl (by kernel_rfl) (by kernel_rfl) (by kernel_rfl) (fun u hu=>.inl ⟨rfl,fun d=>⟨by simp[go_sem,execOp,Act.eval],fun e he=>by have hm:=mem_listed he;simp[go_sem,execOp,Act.eval]at hm⟩⟩) ?_
 walk_nrm
 refine anyC_take hS (fun _ _ d h=>h.at d) (i:=3) (v:=.slice (some ⟨pb,oo,none⟩) ol oc) hs rfl rfl (by kernel_rfl) (by kernel_rfl) (by kernel_rfl) (fun u hu=>.inl ⟨rfl,fun d=>⟨by simp[go_sem,execOp,Act.eval],fun e he=>by have hm:=mem_listed he;simp[go_sem,execOp,Act.eval]at hm⟩⟩) ?_
 walk_nrm
 refine anyC_take hS (fun _ _ d h=>h.at d) (i:=4) (v:=.int .i64 i) hs rfl rfl (by kernel_rfl) (by kernel_rfl) (by kernel_rfl) (fun u hu=>.inl ⟨rfl,fun d=>⟨by simp[go_sem,execOp,Act.eval],fun e he=>by have hm:=mem_listed he;simp[go_sem,execOp,Act.eval]at hm⟩⟩) ?_
 walk_nrm
 refine anyC_take hS (fun _ _ d h=>h.at d) (i:=5) (v:=.pointer (some ⟨pb,oo+i*4,none⟩)) hs rfl rfl (by kernel_rfl) (by kernel_rfl) (by kernel_rfl) (fun u hu=>.inl ⟨rfl,fun d=>⟨by simp[go_sem,execOp,Act.eval,hi,hi2],fun e he=>by have hm:=mem_listed he;simp[go_sem,execOp,Act.eval,hi,hi2]at hm⟩⟩) ?_
 walk_nrm
 refine anyC_take hS (fun _ _ d h=>h.at d) (i:=6) (v:=.agg #[.int .i64 o.kd,.int .i64 o.a,.int .i64 o.b,.int .i64 o.c]) hs rfl rfl (by kernel_rfl) (by kernel_rfl) (by kernel_rfl) (fun u hu=>.inl ⟨rfl,fun d=>⟨by simp[go_sem,execOp,Act.eval,hu.f0,hu.f1,hu.f2,hu.f3,hu.g0,hu.g1,hu.g2,hu.g3],fun e he=>by have hm:=mem_listed he;simp[go_sem,execOp,Act.eval,hu.f0,hu.f1,hu.f2,hu.f3,hu.g0,hu.g1,hu.g2,hu.g3]at hm;rcases hm with rfl|rfl|rfl|rfl<;>exact evT_read _ _⟩⟩) ?_
 walk_nrm
 refine anyC_take hS (fun _ _ d h=>h.at d) (i:=8) (v:=.pointer (some ⟨la,0,none⟩)) hs rfl rfl (by kernel_rfl) (by kernel_rfl) (by kernel_rfl) (fun u hu=>.inl ⟨rfl,fun d=>⟨by simp[go_sem,execOp,Act.eval],fun e he=>by have hm:=mem_listed he;simp[go_sem,execOp,Act.eval]at hm⟩⟩) ?_
 walk_nrm
 refine anyC_take hS (fun _ _ d h=>h.at d) (i:=9) (v:=.slice (some ⟨pb,oo,none⟩) ol oc) hs rfl rfl (by kernel_rfl) (by kernel_rfl) (by kernel_rfl) (fun u hu=>.inl ⟨rfl,fun d=>⟨by simp[go_sem,execOp,Act.eval],fun e he=>by have hm:=mem_listed he;simp[go_sem,execOp,Act.eval]at hm⟩⟩) ?_
 walk_nrm
 refine anyC_take hS (fun _ _ d h=>h.at d) (i:=10) (v:=.int .i64 i) hs rfl rfl (by kernel_rfl) (by kernel_rfl) (by kernel_rfl) (fun u hu=>.inl ⟨rfl,fun d=>⟨by simp[go_sem,execOp,Act.eval],fun e he=>by have hm:=mem_listed he;simp[go_sem,execOp,Act.eval]at hm⟩⟩) ?_
 walk_nrm
 refine anyC_take hS (fun _ _ d h=>h.at d) (i:=11) (v:=.pointer (some ⟨pb,oo+i*4,none⟩)) hs rfl rfl (by kernel_rfl) (by kernel_rfl) (by kernel_rfl) (fun u hu=>.inl ⟨rfl,fun d=>⟨by simp[go_sem,execOp,Act.eval,hi,hi2],fun e he=>by have hm:=mem_listed he;simp[go_sem,execOp,Act.eval,hi,hi2]at hm⟩⟩) ?_
 walk_nrm
 refine anyC_take hS (fun _ _ d h=>h.at d) (i:=12) (v:=.agg #[.int .i64 o.kd,.int .i64 o.a,.int .i64 o.b,.int .i64 o.c]) hs rfl rfl (by kernel_rfl) (by kernel_rfl) (by kernel_rfl) (fun u hu=>.inl ⟨rfl,fun d=>⟨by simp[go_sem,execOp,Act.eval,hu.f0,hu.f1,hu.f2,hu.f3,hu.g0,hu.g1,hu.g2,hu.g3],fun e he=>by have hm:=mem_listed he;simp[go_sem,execOp,Act.eval,hu.f0,hu.f1,hu.f2,hu.f3,hu.g0,hu.g1,hu.g2,hu.g3]at hm;rcases hm with rfl|rfl|rfl|rfl<;>exact evT_read _ _⟩⟩) ?_
 walk_nrm
 refine kar_000 (x1:=.slice (some ⟨pb,oo,none⟩) ol oc) (by kernel_rfl) P h0 (fun _ _ d h=>h.at d) ?_ ⟨rfl,rfl,rfl,rfl,rfl,rfl,rfl,rfl,rfl,rfl,rfl,rfl,rfl,rfl,rfl,trivial⟩
 intro A w' x y hA hR hx hy hne bx hby
 show Own _ _ _ _ _ _
 have c0:=cells44 hby
 have z0:=c0.2.2.2
 obtain⟨hsz,j59,j11,j12,j1,j5,j6,j7,j8,j10,j39,j40,j41,_⟩:=hA
 obtain⟨s',rfl⟩:=kalT_of hsz
 change s' 59=_ at j59
 change s' 11=_ at j11
 change s' 12=_ at j12
 change s' 1=_ at j1
 change s' 5=_ at j5
 change s' 6=_ at j6
 change s' 7=_ at j7
 change s' 8=_ at j8
 change s' 10=_ at j10
 change s' 39=_ at j39
 change s' 40=_ at j40
 change s' 41=_ at j41
 clear hsz
 simp only[kalT,j59,j11,j12,j1,j5,j6,j7,j8,j10,j39,j40,j41]
 clear j59 j11 j12 j1 j5 j6 j7 j8 j10 j39 j40 j41
 refine oW fun d K' hK'=>?_
 have c1:(w'.at d).cell? ⟨y,0,none⟩=some (.bool false):=c0.1
 have c2:(w'.at d).cell? ⟨y,1,none⟩=some (.int .i64 0):=c0.2.1
 have c3:(w'.at d).cell? ⟨y,2,none⟩=some (.slice none 0 0):=c0.2.2.1
 have z1:(w'.at d).frozen? ⟨y,0,none⟩=false:=z0 0
 have z2:(w'.at d).frozen? ⟨y,1,none⟩=false:=z0 1
 have z3:(w'.at d).frozen? ⟨y,2,none⟩=false:=z0 2
 have d1:w'.cell? ⟨y,0,none⟩=some (.bool false):=c0.1
 have d2:w'.cell? ⟨y,1,none⟩=some (.int .i64 0):=c0.2.1
 have d3:w'.cell? ⟨y,2,none⟩=some (.slice none 0 0):=c0.2.2.1
 clear c0
 go_simp
 refine hK' _ _ ⟨⟨⟨0,grew3 (fun k=>notF0 _) _ _ _⟩,fun e he=>by(have hm:=mem_listed he;clear he hK';simp[go_sem,storedEv,d1,d2,d3,z0]at hm;rcases hm with rfl|rfl|rfl<;>exact evT_write _ _ (notF0 _))⟩,?_⟩
 clear hK' K'
 simp only[setCell_at']
 refine Own.at ?_ d
 refine ogE ?_
 refine K _ _ x y ?_ (hR.above P.hb (fun q hq=>by rw[heap_setCell_ne _ _ _ (by simp only;omega),heap_setCell_ne _ _ _ (by simp only;omega),heap_setCell_ne _ _ _ (by simp only;omega)]) (by simp)) (bx.keep (by rw[heap_setCell_ne _ _ _ (by simp only;omega),heap_setCell_ne _ _ _ (by simp only;omega),heap_setCell_ne _ _ _ (by simp only;omega)])) hby.put
 exact⟨rfl,rfl,rfl,rfl,rfl,rfl,rfl,rfl,rfl,rfl,rfl,rfl,trivial⟩
end
section
variable{w w':World}
theorem kal_9{vb vo i ol vc:Nat}{ok:Bool}{z:Int}(hi:i<ol)(g0:w.cell? ⟨vb,vo+i*3,none⟩=some (.bool ok))(g1:w.cell? ⟨vb,vo+i*3+1,none⟩=some (.int .i64 z))(g2:w.cell? ⟨vb,vo+i*3+2,none⟩=some (.slice none 0 0))
 {x1 x5 x6 x7 x8 x40:Value} {A:Array Value} (hA:Slots 155 A [(1,x1),(5,x5),(6,x6),(7,x7),(8,x8),(39,.slice (some ⟨vb,vo,none⟩) ol vc),(40,x40),(41,.int .i64 i)]):
 kalr9.wp Try.prog (nrm fun a u=>a.defers=[]∧Slots 155 a.tmps [(1,x1),(5,x5),(6,x6),(7,x7),(8,x8),(9,.int .i64 i),(10,.pointer (some ⟨w.heap.size,0,none⟩)),(39,.slice (some ⟨vb,vo,none⟩) ol vc),(40,x40),(41,.int .i64 i)]∧u.heap=(w.alloc (.cells #[.bool ok,.int .i64 z,.slice none 0 0] 44)).heap) ⟨A,[]⟩ w:=by
 have hi2:(i:Int)<(ol:Int):=by omega
 obtain⟨hsz,k1,k5,k6,k7,k8,k39,k40,k41,_⟩:=hA
 obtain⟨s,rfl⟩:=kalT_of hsz
 change s 1=_ at k1
 change s 5=_ at k5
 change s 6=_ at k6
 change s 7=_ at k7
 change s 8=_ at k8
 change s 39=_ at k39
 change s 40=_ at k40
 change s 41=_ at k41
 clear hsz
 simp only[kalr9,kalBody,pC,Try.f10,Option.getD_some,kalT,k1,k5,k6,k7,k8,k39,k40,k41]
 clear k1 k5 k6 k7 k8 k39 k40 k41
 go_wp2
 exact⟨rfl,⟨rfl,rfl,rfl,rfl,rfl,rfl,rfl,rfl,rfl,rfl,rfl,trivial⟩,rfl⟩
theorem kal_11{x y b10:Nat}{ok:Bool}{z:Int}(hx:Bk x ok z w)(hy:Bk y ok z w)(hb:Bk b10 ok z w){x1 x5 x6 x7 x8 x39 x40 x41:Value}
 {A:Array Value} (hA:Slots 155 A [(11,.pointer (some ⟨x,0,none⟩)),(12,.pointer (some ⟨y,0,none⟩)),(1,x1),(5,x5),(6,x6),(7,x7),(8,x8),(10,.pointer (some ⟨b10,0,none⟩)),(39,x39),(40,x40),(41,x41)]):
 kals17.wp Try.prog (nrm fun a u=>a.defers=[]∧Slots 155 a.tmps [(1,x1),(5,x5),(6,x6),(7,x7),(8,x8),(39,x39),(40,x40),(41,x41)]∧u.heap=w.heap) ⟨A,[]⟩ w:=by
 obtain⟨e0,e1,_⟩:=cells44 hx
 obtain⟨f0,f1,_⟩:=cells44 hy
 obtain⟨h0,h1,_⟩:=cells44 hb
 clear hx hy hb
 obtain⟨hsz,k11,k12,k1,k5,k6,k7,k8,k10,k39,k40,k41,_⟩:=hA
 obtain⟨s,rfl⟩:=kalT_of hsz
 change s 11=_ at k11
 change s 12=_ at k12
 change s 1=_ at k1
 change s 5=_ at k5
 change s 6=_ at k6
 change s 7=_ at k7
 change s 8=_ at k8
 change s 10=_ at k10
 change s 39=_ at k39
 change s 40=_ at k40
 change s 41=_ at k41
 clear hsz
 simp only[kals17,kalBody,pC,Try.f10,Option.getD_some,kalT,k11,k12,k1,k5,k6,k7,k8,k10,k39,k40,k41]
 clear k11 k12 k1 k5 k6 k7 k8 k10 k39 k40 k41
 go_wp2
 exact⟨rfl,⟨rfl,rfl,rfl,rfl,rfl,rfl,rfl,rfl,rfl,trivial⟩,rfl⟩
theorem kal_13{i:Nat}(hi:i<1000000000){x1 x5 x6 x7 x8 x39 x40:Value}{A:Array Value}(hA:Slots 155 A [(1,x1),(5,x5),(6,x6),(7,x7),(8,x8),(39,x39),(40,x40),(41,.int .i64 i)]):
 kalr13.wp Try.prog (nrm fun a u=>a.defers=[]∧Slots 155 a.tmps [(1,x1),(5,x5),(6,x6),(7,x7),(8,x8),(39,x39),(40,x40),(41,.int .i64 (i+1:Nat))]∧u.heap=w.heap) ⟨A,[]⟩ w:=by
 have hwr:IntKind.i64.wrap ((i:Int)+1)=((i+1:Nat):Int):=IntWalk.i64_in _ (by omega)
 obtain⟨hsz,k1,k5,k6,k7,k8,k39,k40,k41,_⟩:=hA
 obtain⟨s,rfl⟩:=kalT_of hsz
 change s 1=_ at k1
 change s 5=_ at k5
 change s 6=_ at k6
 change s 7=_ at k7
 change s 8=_ at k8
 change s 39=_ at k39
 change s 40=_ at k40
 change s 41=_ at k41
 clear hsz
 simp only[kalr13,kalBody,pC,Try.f10,Option.getD_some,kalT,k1,k5,k6,k7,k8,k39,k40,k41]
 clear k1 k5 k6 k7 k8 k39 k40 k41
 go_wp2
 exact⟨rfl,⟨rfl,rfl,rfl,rfl,rfl,rfl,rfl,rfl,rfl,trivial⟩,rfl⟩
theorem own_b0{w1:World}{ka kn la ln sb vc:Nat}{s0 u0:KSt}{oa va:Option Addr}{ol oc:Nat}{L:List Op4}{x5:Value}(hO:Ops10 w1 oa ol oc L)(hV:RRow w1 va (ansC (als s0 L).1))(hst:(als s0 L).2.2≤1048576)(hk:Alk s0 u0){cs:List Frame}{main:Bool}{Stop:Goroutine→World→Prop}{k:List Item}
 (K:∀A w',Slots 155 A [(5,x5),(6,.pointer (some ⟨ka,0,none⟩)),(7,.pointer (some ⟨la,0,none⟩)),(8,.pointer (some ⟨sb,0,none⟩))]→L10 w1 ka kn la ln sb (als s0 L).2.1 (als u0 L).2.1 (als s0 L).2.2 w'→Own Try.prog main F0 Stop (G ((Go.Conc.base 10).at ⟨A,[]⟩ k) cs) w'):
 ∀(j i:Nat) (A:Array Value) (w:World),j+i=L.length→L10 w1 ka kn la ln sb (als s0 (L.take i)).2.1 (als u0 (L.take i)).2.1 (als s0 (L.take i)).2.2 w→Slots 155 A [(1,.slice oa ol oc),(5,x5),(6,.pointer (some ⟨ka,0,none⟩)),(7,.pointer (some ⟨la,0,none⟩)),(8,.pointer (some ⟨sb,0,none⟩)),(39,.slice va L.length vc),(40,.int .i64 L.length),(41,.int .i64 i)]→
  Own Try.prog main F0 Stop (G ((Go.Conc.base 10).at ⟨A,[]⟩ (.code kals12:: .inLoop kals12:: .inBlock 0::k)) cs) w:=by
 have hL:L.length≤65536:=by rw[hO.len];exact Nat.min_le_right _ _
 have hLl:L.length≤ol:=by rw[hO.len];exact Nat.min_le_left _ _
 intro j
 induction j with
 | zero=>
   intro i A w hi h hA
   obtain rfl:i=L.length:=by omega
   rw[List.take_length]at h
   have hlt:decide ((L.length:Int)<(L.length:Int))=false:=by simp
   obtain⟨hsz,k1,k5,k6,k7,k8,k39,k40,k41,_⟩:=hA
   obtain⟨s,rfl⟩:=kalT_of hsz
   change s 1=_ at k1
   change s 5=_ at k5
   change s 6=_ at k6
   change s 7=_ at k7
   change s 8=_ at k8
   change s 39=_ at k39
   change s 40=_ at k40
   change s 41=_ at k41
   clear hsz
   simp only[kalT,k1,k5,k6,k7,k8,k39,k40,k41]
   clear k1 k5 k6 k7 k8 k39 k40 k41
   refine ogSR kals12' kalr8' ?_
   simp only[kalr8,kalBody,Try.f10,zz,Nat.reduceAdd]
   (refine oW fun dd K hK=>?_;go_simp;refine qT hK ?_;clear hK K)
   refine ogE ?_
   refine ogSE kals13' ?_
   rw[kalc42']
   refine ogF ?_
   simp only[Bool.false_eq_true,if_false]
   refine own_go rfl (fun d=>stepG_exit rfl) ?_
   exact K _ _ ⟨rfl,rfl,rfl,rfl,rfl,trivial⟩ h
 | succ j ih=>
   intro i A w hi h hA
   have hlt:i<L.length:=by omega
   obtain⟨o,ho⟩:∃o,L[i]? =some o:=⟨_,List.getElem?_eq_getElem hlt⟩
   have eT:=als_take ho s0
   have eU:=als_take ho u0
   have eG:=als_get ho s0
   have eS:=als_steps s0 L i
   have eA:=als_alk (L.take i) hk
   have ih:=ih (i+1)
   rw[eT,eU]at ih
   generalize als s0 (L.take i)=ps at h eT eG eS eA ih
   generalize als u0 (L.take i)=pu at h eU eA ih
   obtain⟨pa,st,n⟩:=ps
   obtain⟨qa,ut,qn⟩:=pu
   simp only at h eT eU eG eS eA ih
   obtain⟨⟨ok,z⟩,hz⟩:∃x,x=(al1 st o).1:=⟨_,rfl⟩
   have hz2:(al1 ut o).1=(ok,z):=by rw[hz];exact(eA.one o).1
   rw[← hz]at eG
   obtain⟨y0,y1,y2⟩:=ans_get (als s0 L).1 i
   rw[eG]at y0 y1 y2
   obtain⟨vb,vo,rfl,g0⟩:=hV.c _ _ y0
   obtain⟨_,_,e,g1⟩:=hV.c _ _ y1
   cases e
   obtain⟨_,_,e,g2⟩:=hV.c _ _ y2
   cases e
   obtain⟨pb,oo,rfl,_⟩:=hO.op i o ho
   have hF:∀u:World,(∀r,r<w1.heap.size→u.heap[r]? =w1.heap[r]?)→OpS pb (oo+i*4) o u:=fun u hu=>by
    obtain⟨_,_,e,f0,f1,f2,f3,q0,q1,q2,q3⟩:=(hO.olds hu).op i o ho
    cases e
    exact⟨f0,f1,f2,f3,q0,q1,q2,q3⟩
   have up:∀{a:Addr} {v:Value},w1.cell? a=some v→w.cell? a=some v:=fun{a v} hh=>by
    obtain⟨c,e,q,hb⟩:=cell_block hh
    have e1:=h.old _ (alt hb)
    rw[← hh];unfold World.cell?;simp only[e1]
   have g0:=up g0
   have g1:=up g1
   have g2:=up g2
   rw[show vo+(i*3+1)=vo+i*3+1 by omega]at g1
   rw[show vo+(i*3+2)=vo+i*3+2 by omega]at g2
   have hdl:decide ((i:Int)<(L.length:Int))=true:=by simp;omega
   obtain⟨p1,p2,p3,p4,p5⟩:sb<w.heap.size∧ka<w.heap.size∧kn<w.heap.size∧la<w.heap.size∧ln<w.heap.size:=⟨h.sb_lt,h.k.low (.inl rfl),h.k.low (.inr rfl),h.l.low (.inl rfl),h.l.low (.inr rfl)⟩
   obtain⟨hsz,k1,k5,k6,k7,k8,k39,k40,k41,_⟩:=hA
   obtain⟨s,rfl⟩:=kalT_of hsz
   change s 1=_ at k1
   change s 5=_ at k5
   change s 6=_ at k6
   change s 7=_ at k7
   change s 8=_ at k8
   change s 39=_ at k39
   change s 40=_ at k40
   change s 41=_ at k41
   clear hsz
   simp only[kalT,k1,k5,k6,k7,k8,k39,k40,k41]
   clear k1 k5 k6 k7 k8 k39 k40 k41
   refine ogSR kals12' kalr8' ?_
   simp only[kalr8,kalBody,Try.f10,zz,Nat.reduceAdd]
   (refine oW fun dd K hK=>?_;go_simp;refine qT hK ?_;clear hK K)
   refine ogE ?_
   refine ogSE kals13' ?_
   rw[kalc42']
   refine ogT ?_
   simp only[if_true]
   refine ogK ?_
   refine ogSE kals14' ?_
   rw[kalb1']
   refine ogB ?_
   refine ogSE kals15' ?_
   refine own_piece closed6 prog_late (by kernel_rfl) (R:=fun A u=>Slots 155 A [(1,.slice (some ⟨pb,oo,none⟩) ol oc),(5,x5),(6,.pointer (some ⟨ka,0,none⟩)),(7,.pointer (some ⟨la,0,none⟩)),(8,.pointer (some ⟨sb,0,none⟩)),(9,.int .i64 i),(10,.pointer (some ⟨w.heap.size,0,none⟩)),(39,.slice (some ⟨vb,vo,none⟩) L.length vc),(40,.int .i64 L.length),(41,.int .i64 i)]∧u.heap=(w.alloc (.cells #[.bool ok,.int .i64 z,.slice none 0 0] 44)).heap) (by decide) (fun τ e=>kal_9 (w:=retape w τ e) hlt g0 g1 g2 ⟨rfl,rfl,rfl,rfl,rfl,rfl,rfl,rfl,rfl,trivial⟩) fun A2 w2 τ e hR hg=>?_
   obtain⟨hA2,hw2⟩:=hR
   have hw2:w2.heap=(w.alloc (.cells #[.bool ok,.int .i64 z,.slice none 0 0] 44)).heap:=hw2
   have hA2:Slots 155 A2 [(1,.slice (some ⟨pb,oo,none⟩) ol oc),(5,x5),(6,.pointer (some ⟨ka,0,none⟩)),(7,.pointer (some ⟨la,0,none⟩)),(8,.pointer (some ⟨sb,0,none⟩)),(9,.int .i64 i),(10,.pointer (some ⟨w.heap.size,0,none⟩)),(39,.slice (some ⟨vb,vo,none⟩) L.length vc),(40,.int .i64 L.length),(41,.int .i64 i)]:=hA2
   have hR2:Rd w1 ka kn la ln sb w.heap.size st ut n (ok,z) w2:=⟨h.grow (fun r hr=>by rw[hw2];exact heap_alloc_lt _ _ hr) (by rw[hw2];simp),by rw[hw2];exact heap_alloc_new _ _,by omega,by omega,by omega,by omega,by omega,h.sz⟩
   refine ogSE kals16' ?_
   refine own_r10 (P:=⟨⟨p1,p2,p3,p4,p5⟩,by omega,hz.symm,hz2,hF⟩) (Nat.lt_of_lt_of_le hlt hLl) hR2 hA2 fun A3 w3 x y hA3 hR3 hx hy=>?_
   refine own_piece closed6 prog_late (by kernel_rfl) (R:=fun A u=>Slots 155 A [(1,.slice (some ⟨pb,oo,none⟩) ol oc),(5,x5),(6,.pointer (some ⟨ka,0,none⟩)),(7,.pointer (some ⟨la,0,none⟩)),(8,.pointer (some ⟨sb,0,none⟩)),(39,.slice (some ⟨vb,vo,none⟩) L.length vc),(40,.int .i64 L.length),(41,.int .i64 i)]∧u.heap=w3.heap) (by decide) (fun τ e=>kal_11 (w:=retape w3 τ e) hx hy hR3.b hA3) fun A4 w4 τ e hR hg=>?_
   obtain⟨hA4,hw4⟩:=hR
   have hw4:w4.heap=w3.heap:=hw4
   refine ogI ?_
   refine own_piece closed6 prog_late (by kernel_rfl) (R:=fun A u=>Slots 155 A [(1,.slice (some ⟨pb,oo,none⟩) ol oc),(5,x5),(6,.pointer (some ⟨ka,0,none⟩)),(7,.pointer (some ⟨la,0,none⟩)),(8,.pointer (some ⟨sb,0,none⟩)),(39,.slice (some ⟨vb,vo,none⟩) L.length vc),(40,.int .i64 L.length),(41,.int .i64 (i+1:Nat))]∧u.heap=w4.heap) (by decide) (fun τ e=>kal_13 (w:=retape w4 τ e) (by omega) hA4) fun A5 w5 τ e hR hg=>?_
   obtain⟨hA5,hw5⟩:=hR
   have hw5:w5.heap=w4.heap:=hw5
   refine ogL ?_
   exact ih A5 w5 (by omega) (hR3.l.grow (fun r _=>by rw[hw5,hw4]) (by rw[hw5,hw4];exact Nat.le_refl _)) hA5
end
section
variable{w w' W:World}
theorem ValsAt.slice{u:World}{ov:Value}{xs:List Int}(h:ValsAt w u ov xs):∃a c,ov= .slice a xs.length c∧RRow u a (xs.map fun v=>.int .i64 v):=by
 have hr:=h.row
 rcases h.row.2 with⟨h1,h2⟩|⟨g,cap,_,h1,_⟩
 ·subst h1
  cases xs with
  | nil=>exact⟨none,0,rfl,⟨fun k x hx=>by simp at hx⟩⟩
  | cons x xs=>simp at h2
 ·subst h1
  exact⟨_,_,rfl,rrow_of hr⟩
theorem kal_14{s:KS}{ka:Nat}(hU:KU ka s w){x5 x7 x8:Value}{A:Array Value}(hA:Slots 155 A [(5,x5),(6,.pointer (some ⟨ka,0,none⟩)),(7,x7),(8,x8)]):
 kalr14.wp Try.prog (nrm fun a u=>a.defers=[]∧Slots 155 a.tmps [(5,x5),(6,.pointer (some ⟨ka,0,none⟩)),(7,x7),(8,x8),(13,.int .i64 s.k.hd.1),(14,.int .i64 s.k.hd.2),(15,.int .i64 s.k.fr.1),(16,.int .i64 s.k.fr.2)]∧u.heap=w.heap) ⟨A,[]⟩ w:=by
 have H:Aside (Calls Try.prog 38 #[.pointer (some ⟨ka,0,none⟩)] w fun e w'=>e= .returned (.tuple #[.int .i64 s.k.hd.1,.int .i64 s.k.hd.2,.int .i64 s.k.fr.1,.int .i64 s.k.fr.2])∧w'.heap=w.heap):=heads_calls hU
 obtain⟨hsz,k5,k6,k7,k8,_⟩:=hA
 obtain⟨s',rfl⟩:=kalT_of hsz
 change s' 5=_ at k5
 change s' 6=_ at k6
 change s' 7=_ at k7
 change s' 8=_ at k8
 clear hsz hU
 simp only[kalr14,kalBody,pC,Try.f10,Option.getD_some,kalT,k5,k6,k7,k8]
 clear k5 k6 k7 k8
 go_wp2_with (go_at_call 38;refine H.out.mono ?_;rintro e w1 ⟨rfl,hw1⟩;have W1:Aside (w1.heap=w.heap):=hw1;clear hw1)
 exact⟨rfl,⟨rfl,rfl,rfl,rfl,rfl,rfl,rfl,rfl,rfl,trivial⟩,W1.out⟩
theorem kal_16{s:KS}{la:Nat}(hU:KU la s w){x5 x6 x8 x13 x15 x17:Value}{A:Array Value}(hA:Slots 155 A [(5,x5),(6,x6),(7,.pointer (some ⟨la,0,none⟩)),(8,x8),(13,x13),(15,x15),(17,x17)]):
 kalr16.wp Try.prog (nrm fun a u=>a.defers=[]∧Slots 155 a.tmps [(5,x5),(6,x6),(7,.pointer (some ⟨la,0,none⟩)),(8,x8),(13,x13),(15,x15),(17,x17),(18,.int .i64 s.k.hd.1),(19,.int .i64 s.k.hd.2),(20,.int .i64 s.k.fr.1),(21,.int .i64 s.k.fr.2)]∧u.heap=w.heap) ⟨A,[]⟩ w:=by
 have H:Aside (Calls Try.prog 38 #[.pointer (some ⟨la,0,none⟩)] w fun e w'=>e= .returned (.tuple #[.int .i64 s.k.hd.1,.int .i64 s.k.hd.2,.int .i64 s.k.fr.1,.int .i64 s.k.fr.2])∧w'.heap=w.heap):=heads_calls hU
 obtain⟨hsz,k5,k6,k7,k8,k13,k15,k17,_⟩:=hA
 obtain⟨s',rfl⟩:=kalT_of hsz
 change s' 5=_ at k5
 change s' 6=_ at k6
 change s' 7=_ at k7
 change s' 8=_ at k8
 change s' 13=_ at k13
 change s' 15=_ at k15
 change s' 17=_ at k17
 clear hsz hU
 simp only[kalr16,kalBody,pC,Try.f10,Option.getD_some,kalT,k5,k6,k7,k8,k13,k15,k17]
 clear k5 k6 k7 k8 k13 k15 k17
 go_wp2_with (go_at_call 38;refine H.out.mono ?_;rintro e w1 ⟨rfl,hw1⟩;have W1:Aside (w1.heap=w.heap):=hw1;clear hw1)
 exact⟨rfl,⟨rfl,rfl,rfl,rfl,rfl,rfl,rfl,rfl,rfl,rfl,rfl,rfl,trivial⟩,W1.out⟩
theorem kal_15{s:KS}{ka:Nat}(hU:KU ka s w){x5 x7 x8:Value}{A:Array Value}(hA:Slots 155 A [(5,x5),(6,.pointer (some ⟨ka,0,none⟩)),(7,x7),(8,x8),(13,.int .i64 s.k.hd.1),(14,.int .i64 s.k.hd.2),(15,.int .i64 s.k.fr.1),(16,.int .i64 s.k.fr.2)]):
 kalr15.wp Try.prog (nrm fun a u=>a.defers=[]∧∃ov,Slots 155 a.tmps [(5,x5),(6,.pointer (some ⟨ka,0,none⟩)),(7,x7),(8,x8),(13,.int .i64 s.k.hd.1),(15,.int .i64 s.k.fr.1),(17,ov)]∧ValsAt w u ov (KSt.state s.k)) ⟨A,[]⟩ w:=by
 show kalr15.wp Try.prog (nrm fun a u=>a.defers=[]∧∃ov,Slots 155 a.tmps [(5,x5),(6,.pointer (some ⟨ka,0,none⟩)),(7,x7),(8,x8),(13,.int .i64 s.k.hd.1),(15,.int .i64 s.k.fr.1),(17,ov)]∧ValsAt w u ov ([s.k.hd.1,s.k.hd.2,s.k.fr.1,s.k.fr.2]++s.k.vals)) ⟨A,[]⟩ w
 obtain⟨i0,z0,hi,hz0,hz1,hz2,hz3⟩:=infoA2
 have A0:Aside (KU ka s w):=hU
 have hvl:s.k.vals.length≤65536:=Nat.le_trans (walk_len _ _ _) hU.wf.n3
 have VV:Aside (∀W,KU ka s W→Calls Try.prog 39 #[.pointer (some ⟨ka,0,none⟩)] W fun x w'=>∃ov,x= .returned ov∧ValsAt W w' ov s.k.vals∧(s.k.vals=[]→ov= .slice none 0 0)):=fun W h=>values_calls h
 obtain⟨hsz,k5,k6,k7,k8,k13,k14,k15,k16,_⟩:=hA
 obtain⟨s',rfl⟩:=kalT_of hsz
 change s' 5=_ at k5
 change s' 6=_ at k6
 change s' 7=_ at k7
 change s' 8=_ at k8
 change s' 13=_ at k13
 change s' 14=_ at k14
 change s' 15=_ at k15
 change s' 16=_ at k16
 clear hsz hU
 generalize s.k.hd.1=x1 at*
 generalize s.k.hd.2=x2 at*
 generalize s.k.fr.1=x3 at*
 generalize s.k.fr.2=x4 at*
 generalize s.k.vals=vv at VV hvl ⊢
 have key:ValsAt w (w.alloc (.cells #[.int .i64 x1,.int .i64 x2,.int .i64 x3,.int .i64 x4] 2)) (.slice (some ⟨w.heap.size,0,none⟩) 4 4) [x1,x2,x3,x4]∧KU ka s (w.alloc (.cells #[.int .i64 x1,.int .i64 x2,.int .i64 x3,.int .i64 x4] 2)):=by
  refine⟨⟨⟨rfl,.inr ⟨w.heap.size,4,_,rfl,Nat.zero_le _,heap_alloc_new _ _,by simp,by unfold maxLen;omega,by simp,by simp⟩⟩,by simp,fun r hr=>heap_alloc_lt _ _ hr,fun g hg=>?_⟩,A0.out.same fun r hr=>heap_alloc_lt _ _ (A0.out.low hr)⟩
  simp only[Value.ownBlock,Option.some.injEq]at hg
  omega
 have KEY:Aside (ValsAt w (w.alloc (.cells #[.int .i64 x1,.int .i64 x2,.int .i64 x3,.int .i64 x4] 2)) (.slice (some ⟨w.heap.size,0,none⟩) 4 4) [x1,x2,x3,x4]∧KU ka s (w.alloc (.cells #[.int .i64 x1,.int .i64 x2,.int .i64 x3,.int .i64 x4] 2))):=key
 clear key A0
 simp only[kalr15,kalBody,pC,Try.f10,Option.getD_some,kalT,k5,k6,k7,k8,k13,k14,k15,k16]
 clear k5 k6 k7 k8 k13 k14 k15 k16
 by_cases hnn:vv=[]
 ·subst hnn
  have V1:Aside (∀W,KU ka s W→Calls Try.prog 39 #[.pointer (some ⟨ka,0,none⟩)] W fun x w'=>x= .returned (.slice none 0 0)∧ValsAt W w' (.slice none 0 0) []):=fun W h=>(VV.out W h).mono (by rintro e w2 ⟨ov,rfl,h1,h2⟩;obtain rfl:=h2 rfl;exact⟨rfl,h1⟩)
  clear VV
  go_wp2_with (first
   | (go_at_call 39;refine(V1.out _ KEY.out.2).mono ?_;rintro e w2 ⟨rfl,hV⟩;have R1:Aside (ValsAt w w2 (.slice (some ⟨w.heap.size,0,none⟩) 4 4) [x1,x2,x3,x4]):=KEY.out.1.later hV;clear hV)
   | (at_builtin;refine wpList_append_own_none rfl _ _ _ rfl 0 2 i0 1 Try.underlying22 hi (.slice (some ⟨w.heap.size,0,none⟩) 4 4) 4 _ rfl R1.out.row rfl ?_))
  exact⟨rfl,_,⟨rfl,rfl,rfl,rfl,rfl,rfl,rfl,rfl,trivial⟩,R1.out⟩
 ·have hpos:0<vv.length:=List.length_pos_iff.2 hnn
  have V1:Aside (∀W,KU ka s W→Calls Try.prog 39 #[.pointer (some ⟨ka,0,none⟩)] W fun x w'=>∃g cap,x= .returned (.slice (some ⟨g,0,none⟩) vv.length cap)∧ValsAt W w' (.slice (some ⟨g,0,none⟩) vv.length cap) vv):=fun W h=>(VV.out W h).mono (by
   rintro e w2 ⟨ov,rfl,h1,h2⟩
   rcases h1.row.2 with⟨_,h⟩|⟨g,cap,_,rfl,_⟩
   ·omega
   ·exact⟨g,cap,rfl,h1⟩)
  clear VV hnn
  go_wp2_with (first
   | (go_at_call 39;refine(V1.out _ KEY.out.2).mono ?_;rintro e w2 ⟨g,cap,rfl,hV⟩;have R1:Aside (ValsAt w w2 (.slice (some ⟨w.heap.size,0,none⟩) 4 4) [x1,x2,x3,x4]):=KEY.out.1.later hV;have D:Aside (w2.ownsRow 0 2 1 (.slice (some ⟨g,0,none⟩) vv.length cap) vv.length (vv.map fun v=>.int .i64 v)):=hV.row;clear hV)
   | (at_builtin;refine wpList_append_fresh rfl (.tmp 98) (.tmp 100) 22 rfl 2 i0 z0 1 8 Try.underlying22 hi hz0 hz1 hz2 hz3 (by decide) (.slice (some ⟨w.heap.size,0,none⟩) 4 4) 4 ([x1,x2,x3,x4].map fun v=>.int .i64 v) rfl R1.out.row ⟨g,0,none⟩ vv.length cap (vv.map fun v=>.int .i64 v) rfl (by simp) (row_cells D.out) (by intro u hu;obtain⟨x,_,rfl⟩:=List.mem_map.1 hu;rfl) (by unfold maxLen;omega) (by omega) ?_;intro v' w3 hown hgrow hfr;have Z:Aside (ValsAt w w3 v' ([x1,x2,x3,x4]++vv)):=R1.out.more hown hgrow hfr;clear hown hgrow hfr))
  exact⟨rfl,_,⟨rfl,rfl,rfl,rfl,rfl,rfl,rfl,rfl,trivial⟩,Z.out⟩
end
section
variable{w w' W:World}
def KeptW(w w':World):Prop:=w.heap.size≤w'.heap.size∧∀r,r<w.heap.size→w'.heap[r]? =w.heap[r]?
theorem KeptW.ku{kb:Nat}{s:KS}(h:KeptW w w')(hU:KU kb s w):KU kb s w':=hU.same fun r hr=>h.2 r (hU.low hr)
theorem kal_17{sk sl:KS}{ka la sb T ln oc sc c17:Nat}{oa sa a17:Option Addr}{xs:List Int}{y13 y15:Int}(hc:w.cell? ⟨sb,0,none⟩=some (.int .i64 ln))(ht1:w.cell? ⟨T,1,none⟩=some (.slice oa ln oc))(ht2:w.cell? ⟨T,2,none⟩=some (.slice sa xs.length sc))
 (hr1:RRow w a17 (xs.map fun v=>.int .i64 v)) (hr2:RRow w sa (xs.map fun v=>.int .i64 v)) (hxl:xs.length<100000000) (hK:KU ka sk w) (hL:KU la sl w) (hv:sl.k.vals=sk.k.vals) (hm:sl.m=sk.m)
 {A:Array Value} (hA:Slots 155 A [(5,.pointer (some ⟨T,0,none⟩)),(6,.pointer (some ⟨ka,0,none⟩)),(7,.pointer (some ⟨la,0,none⟩)),(8,.pointer (some ⟨sb,0,none⟩)),(13,.int .i64 y13),(15,.int .i64 y15),(17,.slice a17 xs.length c17),(18,.int .i64 y13),(19,.int .i64 0),(20,.int .i64 y15),(21,.int .i64 0)]):
 kalr17.wp Try.prog (nrm fun a u=>a.defers=[]∧a.tmps.getD 4 undef= .bool true∧KeptW w u) ⟨A,[]⟩ w:=by
 have hvl:sk.k.vals.length<100000000:=Nat.lt_of_le_of_lt (Nat.le_trans (walk_len _ _ _) hK.wf.n3) (by decide)
 have C1:Aside (∀W:World,KeptW w W→Calls Try.prog 32 #[.slice a17 xs.length c17,.slice sa xs.length sc] W fun e w'=>e= .returned (.bool true)∧KeptW w w'):=fun W h=>(same32 hxl (hr1.olds h.2) (hr2.olds h.2)).mono fun e w' ⟨h1,h2⟩=>⟨h1,by unfold KeptW;rw[h2];exact h⟩
 have VL:Aside (∀W:World,KeptW w W→Calls Try.prog 39 #[.pointer (some ⟨la,0,none⟩)] W fun e w'=>∃a c,e= .returned (.slice a sk.k.vals.length c)∧RRow w' a (sk.k.vals.map fun v=>.int .i64 v)∧KeptW w w'):=fun W h=>(values_calls (h.ku hL)).mono (by
  rintro e u ⟨ov,rfl,h1,_⟩
  rw[hv]at h1
  obtain⟨a,c,rfl,h2⟩:=h1.slice
  exact⟨a,c,rfl,h2,Nat.le_trans h.1 h1.size,fun r hr=>(h1.old r (Nat.lt_of_lt_of_le hr h.1)).trans (h.2 r hr)⟩)
 have VK:Aside (∀(u:World) (b:Option Addr),KeptW w u→RRow u b (sk.k.vals.map fun v=>.int .i64 v)→Calls Try.prog 39 #[.pointer (some ⟨ka,0,none⟩)] u fun e w'=>∃a c,e= .returned (.slice a sk.k.vals.length c)∧RRow w' a (sk.k.vals.map fun v=>.int .i64 v)∧RRow w' b (sk.k.vals.map fun v=>.int .i64 v)∧KeptW w w'):=fun W b h hb=>(values_calls (h.ku hK)).mono (by
  rintro e u ⟨ov,rfl,h1,_⟩
  obtain⟨a,c,rfl,h2⟩:=h1.slice
  exact⟨a,c,rfl,h2,hb.olds h1.old,Nat.le_trans h.1 h1.size,fun r hr=>(h1.old r (Nat.lt_of_lt_of_le hr h.1)).trans (h.2 r hr)⟩)
 have C2:Aside (∀(u:World) (a b:Option Addr) (ca cb:Nat),KeptW w u→RRow u a (sk.k.vals.map fun v=>.int .i64 v)→RRow u b (sk.k.vals.map fun v=>.int .i64 v)→Calls Try.prog 32 #[.slice a sk.k.vals.length ca,.slice b sk.k.vals.length cb] u fun e w'=>e= .returned (.bool true)∧KeptW w w'):=fun u a b ca cb h h1 h2=>(same32 hvl h1 h2).mono fun e w' ⟨q1,q2⟩=>⟨q1,by unfold KeptW;rw[q2];exact h⟩
 have SK:Aside (∀u:World,KeptW w u→Calls Try.prog 40 #[.pointer (some ⟨ka,0,none⟩)] u fun e w'=>e= .returned (.int .i64 sk.m)∧KeptW w w'):=fun u h=>(ksize_calls (h.ku hK)).mono fun e w' ⟨q1,q2⟩=>⟨q1,by rw[q2];exact h⟩
 have SL:Aside (∀u:World,KeptW w u→Calls Try.prog 40 #[.pointer (some ⟨la,0,none⟩)] u fun e w'=>e= .returned (.int .i64 sk.m)∧KeptW w w'):=fun u h=>(ksize_calls (h.ku hL)).mono fun e w' ⟨q1,q2⟩=>⟨by rw[q1,hm],by rw[q2];exact h⟩
 have SS:Aside (∀u:World,KeptW w u→KeptW w u∧u.cell? ⟨sb,0,none⟩=some (.int .i64 ln)∧u.cell? ⟨T,1,none⟩=some (.slice oa ln oc)∧u.cell? ⟨T,2,none⟩=some (.slice sa xs.length sc)):=fun u hu=>by
  have hcc:∀{a:Addr} {v:Value},w.cell? a=some v→u.cell? a=some v:=fun{a v} h=>by
   obtain⟨c,e,q,hb⟩:=cell_block h
   have e1:=hu.2 _ (alt hb)
   rw[← h];unfold World.cell?;simp only[e1]
  exact⟨hu,hcc hc,hcc ht1,hcc ht2⟩
 obtain⟨hsz,k5,k6,k7,k8,k13,k15,k17,k18,k19,k20,k21,_⟩:=hA
 obtain⟨s',rfl⟩:=kalT_of hsz
 change s' 5=_ at k5
 change s' 6=_ at k6
 change s' 7=_ at k7
 change s' 8=_ at k8
 change s' 13=_ at k13
 change s' 15=_ at k15
 change s' 17=_ at k17
 change s' 18=_ at k18
 change s' 19=_ at k19
 change s' 20=_ at k20
 change s' 21=_ at k21
 clear hsz hr1 hr2 hxl hK hL hv hm hvl
 generalize sk.k.vals=vals at*
 generalize vals.length=vl at*
 generalize xs.length=xl at*
 generalize sk.m=m at*
 simp only[kalr17,kalBody,pC,Try.f10,Option.getD_some,kalT,k5,k6,k7,k8,k13,k15,k17,k18,k19,k20,k21]
 clear k5 k6 k7 k8 k13 k15 k17 k18 k19 k20 k21
 go_wp2
 go_region_held3 (fun u:World=>KeptW w u∧u.cell? ⟨sb,0,none⟩=some (.int .i64 ln)∧u.cell? ⟨T,1,none⟩=some (.slice oa ln oc)∧u.cell? ⟨T,2,none⟩=some (.slice sa xl sc))
  (first
    | exact SS.out _ U6.out
    | exact SS.out _ U5.out
    | exact SS.out _ U4.out
    | exact SS.out _ U3.out.2.2
    | exact SS.out _ U2.out.2
    | exact SS.out _ U1.out
    | exact SS.out _ ⟨Nat.le_refl _,fun _ _=>rfl⟩)
  (first
    | (go_at_call_of 32 a17;refine(C1.out _ ?_).mono ?_;(exact⟨Nat.le_refl _,fun _ _=>rfl⟩);rintro e u1 ⟨rfl,hk⟩;have U1:Aside (KeptW w u1):=hk;clear hk)
    | (go_at_call_of 39 la;refine(VL.out _ U1.out).mono ?_;rintro e u2 ⟨a1,cp1,rfl,hr,hk⟩;have U2:Aside (RRow u2 a1 (vals.map fun v=>.int .i64 v)∧KeptW w u2):=⟨hr,hk⟩;clear hr hk)
    | (go_at_call_of 39 ka;refine(VK.out _ a1 U2.out.2 U2.out.1).mono ?_;rintro e u3 ⟨a2,cp2,rfl,hr,hr2,hk⟩;have U3:Aside (RRow u3 a2 (vals.map fun v=>.int .i64 v)∧RRow u3 a1 (vals.map fun v=>.int .i64 v)∧KeptW w u3):=⟨hr,hr2,hk⟩;clear hr hr2 hk)
    | (go_at_call_of 32 a2;refine(C2.out _ a1 a2 _ _ U3.out.2.2 U3.out.2.1 U3.out.1).mono ?_;rintro e u4 ⟨rfl,hk⟩;have U4:Aside (KeptW w u4):=hk;clear hk)
    | (go_at_call_of 40 ka;refine(SK.out _ U4.out).mono ?_;rintro e u5 ⟨rfl,hk⟩;have U5:Aside (KeptW w u5):=hk;clear hk)
    | (go_at_call_of 40 la;refine(SL.out _ U5.out).mono ?_;rintro e u6 ⟨rfl,hk⟩;have U6:Aside (KeptW w u6):=hk;clear hk))
 all_goals exact⟨rfl,rfl,U6.out⟩
end
section
variable{An:Anchor}{w w' W:World}
theorem al1_tg(s:KSt)(o:Op4):(al1 s o).2.1.tg=s.tg:=by
 unfold al1 KSt.push1 KSt.pop1
 repeat' split
 all_goals rfl
theorem als_tg:∀(l:List Op4) (s:KSt),(als s l).2.1.tg=s.tg
 | [],_=>rfl
 | o::l,s=>(als_tg l _).trans (al1_tg s o)
def S10l:List Nat:=kFns++[32,40]
theorem closed10:Closed Try.prog (fun f=>S10l.contains f) true:=closed_ofX extA (by kernel_rfl)
theorem L10.same{w1:World}{ka kn la ln sb n:Nat}{s u:KSt}(h:L10 w1 ka kn la ln sb s u n w)(e:w'.heap=w.heap):L10 w1 ka kn la ln sb s u n w':=h.grow (fun r _=>by rw[e]) (by rw[e];exact Nat.le_refl _)
theorem L10.base{w1 w2:World}{ka kn la ln sb n:Nat}{s u:KSt}(h:L10 w1 ka kn la ln sb s u n w)(e:w2.heap=w1.heap):L10 w2 ka kn la ln sb s u n w:=
 ⟨h.k,h.l,h.c,h.n1,h.n2,by rw[e];exact h.ge,fun r hr=>by rw[e];exact h.old r (by rw[← e];exact hr),by rw[e];exact h.sz⟩
theorem own_kalone{size:Int}{m:Nat}(hm:min (max size 1) 65536=((m+1:Nat):Int)){oa:Option Addr}{ol oc:Nat}{L:List Op4}(hO:Ops10 w oa ol oc L){main:Bool}{Stop:Goroutine→World→Prop}
 (K:∀A w' t,A.getD 4 undef= .bool true→(∀r,r<w.heap.size→w'.heap[r]? =w.heap[r]?)→Own Try.prog main F0 Stop (G {(Go.Conc.base 10).at ⟨A,[]⟩ (.code .ret::t)with mode:=.returning} []) w')
 {A:Array Value} (hA:Slots 155 A [(0,.int .i64 size),(1,.slice oa ol oc)]):
 Own Try.prog main F0 Stop (G ((Go.Conc.base 10).at ⟨A,[]⟩ [.code kals4]) []) w:=by
 refine ogSE kals4' ?_
 refine own_piece closed6 prog_late (by kernel_rfl) (R:=fun A u=>∃(s:GS KPl) (order:List Nat) (T:Nat) (xa va oa' sa:Option Addr) (xc vc oc' sc:Nat),Slots 155 A [(0,.int .i64 size),(1,.slice oa ol oc),(5,.pointer (some ⟨T,0,none⟩))]∧
  (∃k,∀f,k≤f→gOver (fun _=>L) 1 1048576 [] f (ks0 (m+1) true)=(s,order))∧D10 w s order T xa va oa' sa xc vc oc' sc u) (by decide) (fun τ e=>piece_mono (kal_3 (w:=retape w τ e) hm (hO.olds fun _ _=>rfl) hA) fun a u ⟨hd,s,order,T,xa,va,oa',sa,xc,vc,oc',sc,hS,hov,hD⟩=>⟨hd,s,order,T,xa,va,oa',sa,xc,vc,oc',sc,hS,hov,hD.same (W':=w) rfl rfl⟩) ?_
 intro A1 w1 τ1 e1 ⟨s,order,T,xa,va,oa',sa,xc,vc,oc',sc,hS,hov,hD⟩ hg1
 have hD1:D10 w s order T xa va oa' sa xc vc oc' sc w1:=hD.same (W':=w) (w':=w1) rfl rfl
 clear hD
 refine ogSE kals5' ?_
 by_cases hc:0<cnt s.live 1
 ·obtain⟨hsz,_,_,k5,_⟩:=hS
  refine own_rest closed6 prog_late (by kernel_rfl) (R:=fun A u=>A.getD 4 undef= .bool true∧u.heap=w1.heap) (by decide) (fun τ e=>kal_4s (w:=retape w1 τ e) (s:=s) (order:=order) ⟨hsz,k5,trivial⟩ (hD1.same (W':=w) (w':=retape w1 τ e) rfl rfl) hc) fun A2 w2 τ e t hR hg=>?_
  have hw2:w2.heap=w1.heap:=hR.2
  exact K A2 w2 t hR.1 fun r hr=>by rw[hw2];exact hD1.old r hr
 have hc0:cnt s.live 1=0:=by omega
 refine own_piece closed6 prog_late (by kernel_rfl) (R:=fun A u=>Slots 155 A [(0,.int .i64 size),(1,.slice oa ol oc),(5,.pointer (some ⟨T,0,none⟩))]∧u.heap=w1.heap) (by decide) (fun τ e=>kal_4 (w:=retape w1 τ e) hS (hD1.same (W':=w) (w':=retape w1 τ e) rfl rfl) hc0) ?_
 intro A2 w2 τ2 e2 ⟨hS2,hw2⟩ hg2
 have hw2:w2.heap=w1.heap:=hw2
 obtain⟨e1,e2,e3,e4⟩:=alone_law hov hc0
 have hD2:D10 w s order T xa va oa' sa xc vc oc' sc w2:=hD1.same (W':=w) (w':=w2) rfl hw2
 refine ogSE kals8' ?_
 refine own_piece closed10 prog_late (by kernel_rfl) (R:=fun A u=>∃ka kn la ln sb,Slots 155 A [(1,.slice oa ol oc),(5,.pointer (some ⟨T,0,none⟩)),(6,.pointer (some ⟨ka,0,none⟩)),(7,.pointer (some ⟨la,0,none⟩)),(8,.pointer (some ⟨sb,0,none⟩))]∧L10 w2 ka kn la ln sb (knew (m+1) true) (knew (m+1) false) 0 u) (by decide) (fun τ e=>piece_mono (kal_6 (w:=retape w2 τ e) hm hS2) fun a u ⟨hd,ka,kn,la,ln,sb,h1,h2⟩=>⟨hd,ka,kn,la,ln,sb,h1,h2.base (w2:=w2) rfl⟩) ?_
 intro A3 w3 τ3 e3' ⟨ka,kn,la,ln,sb,hS3,hL3⟩ hg3
 have hL3:L10 w2 ka kn la ln sb (knew (m+1) true) (knew (m+1) false) 0 w3:=hL3.same (w':=w3) rfl
 have hD3:D10 w s order T xa va oa' sa xc vc oc' sc w3:=hD2.olds hL3.old hL3.sz
 refine ogSE kals9' ?_
 refine ogSE kals10' ?_
 refine own_piece closed10 prog_late (by kernel_rfl) (R:=fun A u=>Slots 155 A [(1,.slice oa ol oc),(5,.pointer (some ⟨T,0,none⟩)),(6,.pointer (some ⟨ka,0,none⟩)),(7,.pointer (some ⟨la,0,none⟩)),(8,.pointer (some ⟨sb,0,none⟩)),(39,.slice va (s.th 0).ans.length vc),(40,.int .i64 (s.th 0).ans.length),(41,.int .i64 0)]∧u.heap=w3.heap) (by decide) (fun τ e=>kal_7 (w:=retape w3 τ e) (W:=w) (s:=s) (order:=order) hS3 (hD3.same (W':=w) (w':=retape w3 τ e) rfl rfl)) ?_
 intro A4 w4 τ4 e4' ⟨hS4,hu4⟩ hg4
 have hu4:w4.heap=w3.heap:=hu4
 have hL4:L10 w2 ka kn la ln sb (knew (m+1) true) (knew (m+1) false) 0 w4:=hL3.same hu4
 have el:(s.th 0).ans.length=L.length:=(congrArg List.length e2).trans (als_len L (knew (m+1) true))
 rw[el]at hS4
 have hO2:Ops10 w2 oa ol oc L:=hO.olds hD2.old
 have hV2:RRow w2 va (ansC (als (knew (m+1) true) L).1):=e2 ▸ hD2.a0
 rw[kalb0']
 refine ogB ?_
 rw[kall11']
 refine ogP ?_
 refine own_b0 (s0:=knew (m+1) true) (u0:=knew (m+1) false) hO2 hV2 (by rw[← e3];exact e4) (alk_new (m+1)) ?_ L.length 0 A4 w4 (Nat.add_zero _) hL4 hS4
 intro A5 w5 hS5 hL5
 have hal:=als_alk L (alk_new (m+1))
 have hwk:=hL5.k.wf
 have hwl:=hL5.l.wf
 have hD5:D10 w s order T xa va oa' sa xc vc oc' sc w5:=hD2.olds hL5.old hL5.sz
 have hst:(KSt.state s.q)=KSt.state (als (knew (m+1) true) L).2.1:=by rw[e1]
 refine ogSE kals19' ?_
 refine own_piece closed10 prog_late (by kernel_rfl) (R:=fun A u=>Slots 155 A [(5,.pointer (some ⟨T,0,none⟩)),(6,.pointer (some ⟨ka,0,none⟩)),(7,.pointer (some ⟨la,0,none⟩)),(8,.pointer (some ⟨sb,0,none⟩)),(13,.int .i64 (als (knew (m+1) true) L).2.1.hd.1),(14,.int .i64 (als (knew (m+1) true) L).2.1.hd.2),(15,.int .i64 (als (knew (m+1) true) L).2.1.fr.1),(16,.int .i64 (als (knew (m+1) true) L).2.1.fr.2)]∧u.heap=w5.heap) (by decide) (fun τ e=>kal_14 (w:=retape w5 τ e) (s:=⟨(als (knew (m+1) true) L).2.1,kn⟩) (hL5.k.heap rfl) hS5) ?_
 intro A6 w6 τ6 e6 ⟨hS6,hu6⟩ hg6
 have hu6:w6.heap=w5.heap:=hu6
 have hL6:=hL5.same (w':=w6) hu6
 refine ogSE kals20' ?_
 refine own_piece closed10 prog_late (by kernel_rfl) (R:=fun A u=>∃ov,Slots 155 A [(5,.pointer (some ⟨T,0,none⟩)),(6,.pointer (some ⟨ka,0,none⟩)),(7,.pointer (some ⟨la,0,none⟩)),(8,.pointer (some ⟨sb,0,none⟩)),(13,.int .i64 (als (knew (m+1) true) L).2.1.hd.1),(15,.int .i64 (als (knew (m+1) true) L).2.1.fr.1),(17,ov)]∧ValsAt w6 u ov (KSt.state (als (knew (m+1) true) L).2.1)) (by decide) (fun τ e=>piece_mono (kal_15 (w:=retape w6 τ e) (s:=⟨(als (knew (m+1) true) L).2.1,kn⟩) (hL6.k.heap rfl) hS6) fun a u ⟨hd,ov,h1,h2⟩=>⟨hd,ov,h1,⟨h2.row,h2.size,h2.old,h2.new⟩⟩) ?_
 intro A7 w7 τ7 e7 ⟨ov,hS7,hV7⟩ hg7
 have hL7:L10 w2 ka kn la ln sb (als (knew (m+1) true) L).2.1 (als (knew (m+1) false) L).2.1 (als (knew (m+1) true) L).2.2 w7:=(hL6.grow (w':=retape w7 τ7 e7) hV7.old hV7.size).same (w':=w7) rfl
 obtain⟨a17,c17,rfl,hr7⟩:=hV7.slice
 refine ogSE kals21' ?_
 refine own_piece closed10 prog_late (by kernel_rfl) (R:=fun A u=>Slots 155 A [(5,.pointer (some ⟨T,0,none⟩)),(6,.pointer (some ⟨ka,0,none⟩)),(7,.pointer (some ⟨la,0,none⟩)),(8,.pointer (some ⟨sb,0,none⟩)),(13,.int .i64 (als (knew (m+1) true) L).2.1.hd.1),(15,.int .i64 (als (knew (m+1) true) L).2.1.fr.1),(17,.slice a17 (KSt.state (als (knew (m+1) true) L).2.1).length c17),(18,.int .i64 (als (knew (m+1) false) L).2.1.hd.1),(19,.int .i64 (als (knew (m+1) false) L).2.1.hd.2),(20,.int .i64 (als (knew (m+1) false) L).2.1.fr.1),(21,.int .i64 (als (knew (m+1) false) L).2.1.fr.2)]∧u.heap=w7.heap) (by decide) (fun τ e=>kal_16 (w:=retape w7 τ e) (s:=⟨(als (knew (m+1) false) L).2.1,ln⟩) (hL7.l.heap rfl) hS7) ?_
 intro A8 w8 τ8 e8 ⟨hS8,hu8⟩ hg8
 have hu8:w8.heap=w7.heap:=hu8
 have hL8:=hL7.same (w':=w8) hu8
 have hD8:D10 w s order T xa va oa' sa xc vc oc' sc w8:=hD2.olds hL8.old hL8.sz
 have ht:=hwl.tg ?tgf
 case tgf=>exact als_tg L (knew (m+1) false)
 rw[hal.hd,hal.fr,ht.1,ht.2]at hS8
 refine ogSE kals22' ?_
 have hlen:(KSt.state (als (knew (m+1) true) L).2.1).length<100000000:=by
  have h3:=walk_len (als (knew (m+1) true) L).2.1 (als (knew (m+1) true) L).2.1.nx.length (als (knew (m+1) true) L).2.1.hd.1
  have h4:(KSt.state (als (knew (m+1) true) L).2.1).length=4+(KSt.vals (als (knew (m+1) true) L).2.1).length:=by simp only[KSt.state,List.length_append,List.length_cons,List.length_nil]
  have h5:(KSt.vals (als (knew (m+1) true) L).2.1).length≤(als (knew (m+1) true) L).2.1.nx.length:=h3
  have h6:=hwk.n3
  simp only at h6
  omega
 have hT:=hD8.t
 have hc8:=hL8.c
 rw[hst]at hT
 rw[← e3]at hc8
 have q0:w8.cell? ⟨sb,0,none⟩=some (.int .i64 order.length):=by simp[World.cell?,show w8.heap[sb]? =_ from hc8]
 have q1:w8.cell? ⟨T,1,none⟩=some (.slice oa' order.length oc'):=by simp[World.cell?,hT]
 have q2:w8.cell? ⟨T,2,none⟩=some (.slice sa (KSt.state (als (knew (m+1) true) L).2.1).length sc):=by simp[World.cell?,hT]
 refine own_piece closed10 prog_late (by kernel_rfl) (R:=fun A u=>A.getD 4 undef= .bool true∧KeptW w8 u) (by decide) (fun τ e=>kal_17 (w:=retape w8 τ e) (T:=T) (sb:=sb) (ln:=order.length) (oc:=oc') (oa:=oa') (sa:=sa) (sc:=sc) (xs:=KSt.state (als (knew (m+1) true) L).2.1) (sk:=⟨(als (knew (m+1) true) L).2.1,kn⟩) (sl:=⟨(als (knew (m+1) false) L).2.1,ln⟩) q0 q1 q2 (hr7.heap hu8) (by rw[← hst];exact hD8.st.heap rfl) hlen (hL8.k.heap rfl) (hL8.l.heap rfl) hal.vals (by show List.length _=List.length _;rw[hal.nx]) hS8) ?_
 intro A9 w9 τ9 e9 ⟨h4,hk⟩ hg9
 have hk2:∀r,r<w8.heap.size→w9.heap[r]? =w8.heap[r]?:=hk.2
 refine ogX ?_
 exact K A9 w9 _ h4 fun r hr=>(hk2 r (Nat.lt_of_lt_of_le hr hD8.sz)).trans (hD8.old r hr)
theorem Ops10.later{oa:Option Addr}{ol oc:Nat}{L:List Op4}(h:Ops10 w oa ol oc L)(hold:∀(r:Nat) (c:Array Value) (e:TypeId) (z:Nat×Nat),w.heap[r]? =some (.cells c e z)→w'.heap[r]? =some (.cells c e z)):Ops10 w' oa ol oc L:=by
 have hc:∀{a:Addr} {v:Value},w.cell? a=some v→w'.cell? a=some v∧w'.frozen? a=w.frozen? a:=fun{a v} h=>by
  obtain⟨c,e,z,ho⟩:=cell_block h
  have e1:w'.heap[a.block]? =w.heap[a.block]?:=(hold _ _ _ _ ho).trans ho.symm
  exact⟨by rw[← h];unfold World.cell?;simp only[e1],by unfold World.frozen?;simp only[e1]⟩
 refine⟨h.lc,h.len,fun k x hx=>?_⟩
 obtain⟨opb,oo,h1,f0,f1,f2,f3,g0,g1,g2,g3⟩:=h.op k x hx
 exact⟨opb,oo,h1,(hc f0).1,(hc f1).1,(hc f2).1,(hc f3).1,(hc f0).2.trans g0,(hc f1).2.trans g1,(hc f2).2.trans g2,(hc f3).2.trans g3⟩
theorem bes_kalone{size:Int}{m:Nat}(hm:min (max size 1) 65536=((m+1:Nat):Int)){oa:Option Addr}{ol oc:Nat}{L:List Op4}(hO:Ops10 W oa ol oc L):
 Bes An Try.prog (LawStop An (LawPost W)) (G (Frame.enter Try.prog 10 #[.int .i64 size,.slice oa ol oc] .normal) []) W:=by
 refine bes_own (F:=F0) (Stop:=fun a u=>∃A d,Slots 155 A [(0,.int .i64 size),(1,.slice oa ol oc)]∧u=W.at d∧a=G (Frame.enter Try.prog 30 #[] .normal) [(Go.Conc.base 10).at ⟨A,[]⟩ [.inRegion (oC kalr1) [0,1],.code kalc23,.code kals4]])
  (kal_0 fun A hA=>.stop fun d=>⟨A,d,hA,rfl,rfl⟩) fun a u ⟨A,d,hA,hu,ha⟩=>?_
 subst ha
 refine bes_turns fun w1 hs hold=>?_
 have hold1:∀(r:Nat) (c:Array Value) (e:TypeId) (z:Nat×Nat),W.heap[r]? =some (.cells c e z)→w1.heap[r]? =some (.cells c e z):=fun r c e z h=>hold r c e z (by rw[hu];exact h)
 refine bes_own (F:=F0) (Stop:=LawStop An (LawPost W)) ?_ fun a u h=>Bes.stop h
 refine kal_1 hA fun A2 hA2=>?_
 refine own_kalone hm (hO.later hold1) (fun A w' t h4 hk=>.stop fun d=>law_stop2 Try.func10 rfl (by decide) h4 t fun r c e z h=>?_) hA2
 have h1:=hold1 r c e z h
 exact(hk r (alt h1)).trans h1
end
section
open Go.ChangeShapes Go.WideShapes Go.ChangeAt
theorem bulk_one{H:Type}(d:DataW H):1≤Rows.uptoBulk d:=by
 cases d with
 | lit l=>cases l<;>simp[Rows.uptoBulk]
 | nil=>simp[Rows.uptoBulk]
 | ptr d=>simp[Rows.uptoBulk]
 | slice elems spare=>simp[Rows.uptoBulk]
 | agg parts=>simp[Rows.uptoBulk]
 | iface t d=>simp[Rows.uptoBulk]
 | map entries=>simp[Rows.uptoBulk]
 | held h=>simp[Rows.uptoBulk]
theorem bulk_part{H:Type}{d:DataW H}{l:List (DataW H)}(h:d∈l):Rows.uptoBulk d≤Rows.uptoBulkAll l:=by
 induction l with
 | nil=>cases h
 | cons x r ih=>
   simp only[Rows.uptoBulkAll]
   cases List.mem_cons.1 h with
   | inl e=>subst e;omega
   | inr e=>have:=ih e;omega
theorem bulk_length{H:Type}(l:List (DataW H)):l.length≤Rows.uptoBulkAll l:=by
 induction l with
 | nil=>simp[Rows.uptoBulkAll]
 | cons x r ih=>have:=bulk_one x;simp only[Rows.uptoBulkAll,List.length_cons];omega
theorem bulk_slice{H:Type}(elems spare:List (DataW H)):elems.length≤Rows.uptoBulk (.slice elems spare)∧∀d∈elems,Rows.uptoBulk d≤Rows.uptoBulk (.slice elems spare):=by
 have h1:=bulk_length elems
 simp only[Rows.uptoBulk]
 exact⟨by omega,fun d hd=>by have:=bulk_part hd;omega⟩
section
variable{H:Type}{enc:TypeId×Value→H}{W:World}
theorem cells47:Try.prog.cellsOf 47=4:=by kernel_rfl
theorem cells2:Try.prog.cellsOf 2=1:=by kernel_rfl
theorem cells3:Try.prog.cellsOf 3=1:=by kernel_rfl
structure OpLies(W:World)(b o:Nat)(x:Op4):Prop where
 f0:W.cell? ⟨b,o,none⟩=some (.int .i64 x.kd)
 f1:W.cell? ⟨b,o+1,none⟩=some (.int .i64 x.a)
 f2:W.cell? ⟨b,o+2,none⟩=some (.int .i64 x.b)
 f3:W.cell? ⟨b,o+3,none⟩=some (.int .i64 x.c)
 g0:W.frozen? ⟨b,o,none⟩=false
 g1:W.frozen? ⟨b,o+1,none⟩=false
 g2:W.frozen? ⟨b,o+2,none⟩=false
 g3:W.frozen? ⟨b,o+3,none⟩=false
instance:Inhabited Op4:=⟨⟨0,0,0,0⟩⟩
theorem ops_in{v:Value}{fuel:Nat}{d:DataW H}{p:List MemPlace}(h:DataW.trod enc Try.prog W 0 (fun _=>true) true fuel 34 [v]=some (d,p))(hz:W.noneFrozen p):
 ∃(a:Option Addr) (l c b o:Nat) (X:Nat→Op4),v= .slice a l c∧l≤c∧l≤Rows.uptoBulk d∧∀k,k<l→a=some ⟨b,o,none⟩∧OpLies W b (o+k*4) (X k):=by
 rcases Deep.open_slice Try.underlying34 h with⟨h1,h2⟩|⟨a,len,cap,m,n,D,Pl,h1,hb,hlc,_,hm,h2,hx⟩
 ·cases h1
  exact⟨none,0,0,0,0,fun _=>default,rfl,Nat.le_refl _,Nat.zero_le _,fun k hk=>by omega⟩
 ·simp only[if_true]at hm
  subst hm
  cases h1
  simp only[Prod.mk.injEq]at h2
  obtain⟨rfl,rfl⟩:=h2
  rw[cells47]at hx hz
  have hsp:0<len→a.spot=none:=fun hp=>by
   obtain⟨cs',e1,_⟩:=hx 0 (by omega)
   obtain⟨_,_,hcell⟩:=World.cells?_some e1
   have h0:=hcell 0 (by omega)
   rw[List.getElem?_eq_getElem (by omega)]at h0
   have:=World.cell?_spot h0
   simpa [Addr.add]using this
  have each:∀k,k<len→∃x:Op4,∃b o,a=⟨b,o,none⟩∧OpLies W b (o+k*4) x:=fun k hk=>by
   obtain⟨cs',e1,e2⟩:=hx k (by omega)
   obtain⟨_,hlen,hcell⟩:=World.cells?_some e1
   obtain⟨xs,n',hk',hxy,_,hxl,hf⟩:=DataW.trod_struct Try.underlying47 e2
   match xs,hxl,cs',hlen with
   | [y0,y1,y2,y3],_,[v0,v1,v2,v3],_=>
     have q0:=hf 0 _ rfl
     have q1:=hf 1 _ rfl
     have q2:=hf 2 _ rfl
     have q3:=hf 3 _ rfl
     simp[cells2,cells3]at q0 q1 q2 q3
     obtain⟨n0,r0,_,_⟩:=DataW.trod_int Try.underlying3 q0
     obtain⟨n1,r1,_,_⟩:=DataW.trod_int Try.underlying2 q1
     obtain⟨n2,r2,_,_⟩:=DataW.trod_int Try.underlying2 q2
     obtain⟨n3,r3,_,_⟩:=DataW.trod_int Try.underlying2 q3
     cases r0
     cases r1
     cases r2
     cases r3
     obtain⟨b,o,spot⟩:=a
     have c0:=hcell 0 (by omega)
     have c1:=hcell 1 (by omega)
     have c2:=hcell 2 (by omega)
     have c3:=hcell 3 (by omega)
     have hs:spot=none:=hsp (by omega)
     subst hs
     rw[add_plain,add_plain]at c0 c1 c2 c3
     have hfr:∀j,j<m*4→W.frozen? ⟨b,o+j,none⟩=false:=fun j hj=>hz b (o+j) (List.mem_append_left _ (by simp only[MemPlace.row,List.mem_map,List.mem_range];exact⟨j,hj,rfl⟩))
     exact⟨⟨n0,n1,n2,n3⟩,b,o,rfl,c0,c1,c2,c3,hfr _ (by omega),by rw[Nat.add_assoc];exact hfr _ (by omega),by rw[Nat.add_assoc];exact hfr _ (by omega),by rw[Nat.add_assoc];exact hfr _ (by omega)⟩
  obtain⟨X,hX⟩:=Deep.choose_lt each
  refine⟨some a,len,m,a.block,a.off,X,rfl,hlc,?_,fun k hk=>?_⟩
  ·have:=(bulk_slice (H:=H) ((List.range len).map D) ((List.range (m - len)).map fun j=>D (len+j))).1
   simpa using this
  ·obtain⟨b,o,rfl,hh⟩:=hX k hk
   exact⟨rfl,hh⟩
end
end
section
open Go.ChangeShapes Go.WideShapes Go.ChangeAt
theorem kalone_lifted(os:Os)(started:os.Started)(H:Type)(enc:TypeId×Value→H):
 ReturnsInLeavingWide {} Try.checked os 10 .any (Rows.stackAloneSpec.pre6 enc Try.prog Try.f10 Rows.stackAloneRow.domain false) (Rows.stackAloneSpec.post enc Try.prog Try.f10 false true false false):=by
 refine returnsInLeavingWide_of_change_sized (C:=Try.checked) Try.own started Try.func10
  (ChangeSpec.witness6 (enc:=enc) (C:=Try.checked) false ⟨#[],#[.int .i64 0,.slice none 0 0],[]⟩ 8 (by kernel_rfl) (by kernel_rfl) (by kernel_rfl) (by kernel_rfl)) ?_
 intro W base args ds gs before hval0 hW _ hsz0 _
 have hval:∀(j:Nat) t v,Try.f10.params[j]? =some t→args[j]? =some v→Value.okWide Try.prog W .any base t v:=hval0
 have hW':=hW
 obtain⟨p,q,hA0,hV,rfl,hfz,_⟩:=hW
 have hA:DataW.TrodAll enc Try.prog W 0 (fun _=>true) true Try.f10.params.toList args.toList ds p:=hA0
 rw[Try.params10]at hA hval
 obtain⟨v0,v1,d0,d1,p0,p1,rfl,rfl,rfl,h0,h1⟩:=trodAll_two hA
 obtain⟨rfl,rfl⟩:=trodVars_none hV
 obtain⟨sz,rfl,rfl,rfl,wsz⟩:=open_int Try.underlying3 (hval 0 3 v0 rfl rfl) h0
 clear hA0 hval0
 simp only[List.append_nil,List.nil_append]at hW' hfz
 have hlt:∀x∈p1,x.block<W.heap.size:=fun x hx=>by simpa using hW'.lt x hx
 obtain⟨fuel,hf⟩:=h1
 obtain⟨a0,l0,c0,rfl⟩:=okWide_slice Try.underlying34 (hval 1 34 v1 rfl rfl)
 obtain⟨a,l,c,b,o,X,e1,e2,_,e4⟩:=ops_in hf (fun b o h=>hfz b o (by simp[h]))
 cases e1
 have hO:Ops10 W a0 l0 c0 ((List.range (min l0 65536)).map X):=by
  refine⟨e2,by simp,fun k x hk=>?_⟩
  have hkl:=(List.getElem?_eq_some_iff.1 hk).1
  simp only[List.length_map,List.length_range]at hkl
  have hx':X k=x:=by
   rw[List.getElem?_map,List.getElem?_range hkl]at hk
   simpa using hk
  obtain⟨q1,q2⟩:=e4 k (by omega)
  rw[hx']at q2
  exact⟨_,_,q1,q2.f0,q2.f1,q2.f2,q2.f3,q2.g0,q2.g1,q2.g2,q2.g3⟩
 obtain⟨m,hm⟩:∃m:Nat,min (max sz 1) 65536=((m+1:Nat):Int):=⟨(min (max sz 1) 65536).toNat - 1,by omega⟩
 have hbes:=bes_kalone (An:=⟨W.heap.size,W⟩) (W:=W) hm hO
 obtain⟨N,last,o',w',t',g1,g2,g3,g4⟩:=bes_good (An:=⟨W.heap.size,W⟩) (Post:=fun v w'=>LawPost W v w'∧(⟨W.heap.size,W⟩:Anchor).Holds w') (W:=W) ⟨rfl,rfl,rfl,Nat.le_refl _,fun r o _ h _=>h⟩ (Bes.bind hbes fun g w h=>Bes.stop ⟨h.1,fun d=>by
  obtain⟨v,e1,e2⟩:=h.2 d
  exact⟨v,e1,fun hh=>⟨e2 hh,hh⟩⟩⟩)
 refine⟨N,last,o',w',t',g1,g2,g3,g4.mono fun v hF=>?_⟩
 obtain⟨⟨rfl,hk⟩,hh⟩:=hF
 have hbelow:=below_of hh hk
 have r1:=Below.trod Try.laidOut (by kernel_rfl) (of_decide_eq_true (by kernel_rfl)) ⟨fuel,hf⟩ hbelow (fun x hx=>hlt x hx)
 refine⟨_,_,_,[],[]++p1,[],hW',?_,?_,rfl,hbelow.frame _,fun h=>by cases h⟩
 ·exact trodAll_mk1 (shut_bool Try.underlying4 true)
 ·exact trodAll_mk2 (shut_int Try.underlying3 wsz) r1
theorem stackAlone_holds:Rows.StackAloneSaid:=
 OpenClaim.holds_of_wide_leaving 10 Try.f10 rfl rfl rfl rfl rfl rfl rfl ⟨rfl,rfl,rfl,rfl,rfl⟩ rfl rfl rfl rfl rfl (by kernel_rfl) Try.func10 (by kernel_rfl)
  (of_decide_eq_true (by kernel_rfl)) (by unfold Func.isWrapper;first|(rw[if_pos (by decide +kernel)];kernel_rfl)|(rw[if_neg (by decide +kernel)];exact⟨rfl,rfl⟩))
  (fun os started H enc _=>kalone_lifted os started H enc)
end
end Go.Proofs.Ytlcgkpapnpdfpaa
