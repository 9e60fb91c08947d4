/-
  What is proved: BitsPlaysUptoCardSaid: for every start, all threads, every schedule and every bound whose bulk is at most 1048576, bits.Play answers as the document's answer does. Conditions: those of the given row and card (the variable that is listed reads as its table; bulk at most 1048576).
  Part 5 of 6.
-/
import Derived.Test.YtlcgkpapnpdfpaaDoorZD
import Derived.Test.YtlcgkpapnpdfpaaDoorRows
import Derived.ProofKit
import Derived.JoinedCond
import Derived.Conc.Holds
import Derived.Conc.LeavingOf
import Derived.Test.YtlcgkpapnpdfpaaDoorCards
import Derived.Test.YtlcgkpapnpdfpaaDoorTie
import Derived.ChangeSame
import Derived.Deep.DeepHandedRow
import Derived.Lib.LaidTab
set_option linter.unusedSimpArgs false
set_option linter.unusedVariables false
set_option linter.unusedSectionVars false
set_option maxRecDepth 100000
set_option maxHeartbeats 8000000
namespace Go.Proofs.YtlcgkpapnpdfpaaDoor
open Go Go.Conc Go.RowKit Go.Proofs
section
variable{m:Pl}{ops:Nat→List P3}{n M:Nat}{S:List Int}
def D2{m:Pl}(s:GS m)(j:Nat):Bool:= !s.live j
theorem j0n{s:GS m×List Nat}{y:Int}(h:¬okS n (D2 s.1) y):V7 ops n M s y=s:=by
 unfold V7
 rw[if_neg]
 rintro⟨h1,h2,h3,_⟩
 exact h ⟨h1,h2,by simp[D2,h3]⟩
theorem p8:∀(l:List Int) (s:GS m×List Nat),(∀y,y∈l→¬okS n (D2 s.1) y)→U4 ops n M l s=s
 | [],s,_=>rfl
 | y::l,s,h=>by
   simp only[U4]
   rw[j0n (h y (by simp))]
   exact p8 l s fun y hy=>h y (by simp[hy])
theorem f0s:∀(l k:List Int) (s:GS m×List Nat),U4 ops n M (l++k) s=U4 ops n M k (U4 ops n M l s)
 | [],k,s=>rfl
 | y::l,k,s=>by
   simp only[U4,List.cons_append]
   exact f0s l k _
theorem p0j{s:GS m×List Nat}{x:Nat}(h:okS n (D2 s.1) x)(hM:s.2.length≠M):V7 ops n M s x=(s.1.put x (stpG m (ops x) s.1.q (s.1.th x)),s.2++[x]):=by
 unfold V7
 obtain⟨h1,h2,h3⟩:=h
 simp only[Int.toNat_natCast,D2,Bool.not_eq_false']at h3
 rw[if_pos ⟨h1,h2,by simpa using h3,hM⟩]
 simp
theorem e0h{s:GS m×List Nat}(hM:s.2.length=M):∀(l:List Int),U4 ops n M l s=s
 | []=>rfl
 | y::l=>by
   simp only[U4]
   have:V7 ops n M s y=s:=by unfold V7;rw[if_neg];rintro⟨_,_,_,h⟩;exact h hM
   rw[this]
   exact e0h hM l
def c0O(n:Nat):List Int:=(List.range n).map fun j:Nat=>(j:Int)
def k0k{m:Pl}(ops:Nat→List P3)(n M:Nat)(S:List Int)(s0:GS m)(s:GS m)(order:List Nat)(p rd:Nat):Prop:=
 ∃rest k,(∀f,k≤f→a0K ops n M S f s0=Z3 ops n M (f - k) (U4 ops n M rest (s,order)))∧((rest=S.drop p∧rd=0)∨(p=S.length∧rest=(c0O n).drop rd))
theorem q0U{l:List Int}{p r:Nat}{x:Int}(h1:p≤r)(h:l[r]? =some x):l.drop p=(l.drop p).take (r - p)++x::l.drop (r+1):=by
 obtain⟨hl,e⟩:=List.getElem?_eq_some_iff.1 h
 have h2:(l.drop p).drop (r - p)=x::l.drop (r+1):=by
  rw[List.drop_drop,show p+(r - p)=r by omega,List.drop_eq_getElem_cons hl,e]
 rw[← h2,List.take_append_drop]
theorem r0p{l:List Int}{p r:Nat}{y:Int}(h:y∈(l.drop p).take (r - p)):∃j,p≤j∧j<r∧l[j]? =some y:=by
 obtain⟨i,hi,e⟩:=List.mem_iff_getElem.1 h
 simp only[List.length_take,List.length_drop]at hi
 rw[List.getElem_take,List.getElem_drop]at e
 exact⟨p+i,by omega,by omega,by rw[List.getElem?_eq_getElem (by omega),e]⟩
theorem h0A{j:Nat}(h:j<n):(c0O n)[j]? =some (j:Int):=by
 unfold c0O
 rw[List.getElem?_map,List.getElem?_range h]
 rfl
theorem f0Q{s:GS m×List Nat}{l:List Int}{p r x:Nat}(h1:p≤r)(h:l[r]? =some (x:Int))(hd:∀j y,p≤j→j<r→l[j]? =some y→¬okS n (D2 s.1) y)(hx:okS n (D2 s.1) x)(hM:s.2.length≠M):
 U4 ops n M (l.drop p) s=U4 ops n M (l.drop (r+1)) (s.1.put x (stpG m (ops x) s.1.q (s.1.th x)),s.2++[x]):=by
 have e:U4 ops n M ((l.drop p).take (r - p)) s=s:=p8 _ _ fun y hy=>by
  obtain⟨j,a,b,c⟩:=r0p hy
  exact hd j y a b c
 rw[q0U h1 h,f0s,e]
 simp only[U4]
 rw[p0j hx hM]
theorem g0T{s:GS m×List Nat}(hd:¬U9 n M s){f:Nat}(hf:0<f):Z3 ops n M f s=Z3 ops n M (f - 1) (U4 ops n M (c0O n) s):=by
 obtain⟨f,rfl⟩:∃k,f=k+1:=⟨f - 1,by omega⟩
 simp only[Z3,if_neg hd]
 rfl
theorem m0J{s0 s:GS m}{order:List Nat}{p rd x p1 r1:Nat}(h:k0k ops n M S s0 s order p rd)(hp:j0N S n (D2 s) p rd x p1 r1)(hM:order.length≠M)(hM2:order.length≤M)(hrd:rd≤n)(hn:0<n):
 k0k ops n M S s0 (s.put x (stpG m (ops x) s.q (s.th x))) (order++[x]) p1 r1∧okS n (D2 s) x∧p1≤S.length∧r1≤n:=by
 obtain⟨rest,k,hk,hc⟩:=h
 have hdead:∀r,rd≤r→(∀j,rd≤j→j<r→D2 s (j % n)=true)→∀(a b c:Nat) (y:Int),rd≤a+c→(a+c) % n=a % n→a<n→a+c<r→(c0O n)[a]? =some y→¬okS n (D2 s) y:=by
  intro r h1 h2 a b c y hac hm hlt har hy
  rw[h0A hlt]at hy
  cases hy
  rintro⟨_,_,h3⟩
  have:=h2 (a+c) hac har
  rw[hm,Nat.mod_eq_of_lt hlt]at this
  simp only[Int.toNat_natCast]at h3
  rw[this]at h3
  cases h3
 rcases hp with⟨p',a1,a2,a3,a4,rfl,rfl⟩|⟨a1,rfl,r,b1,b2,b3,rfl,rfl⟩
 ·have hlt:=(List.getElem?_eq_some_iff.1 a3).1
  rcases hc with⟨rfl,rfl⟩|⟨rfl,rfl⟩
  ·refine⟨⟨S.drop (p'+1),k,fun f hf=>?_,.inl ⟨rfl,rfl⟩⟩,a4,hlt,hrd⟩
   rw[hk f hf,f0Q (s:=(s,order)) a1 a3 a2 a4 hM]
  ·omega
 ·have hxn:r % n<n:=Nat.mod_lt _ hn
  have hok:okS n (D2 s) (r % n:Nat):=⟨by omega,by omega,by rw[Int.toNat_natCast];exact b3⟩
  have hnd:¬U9 n M (s,order):=by
   rintro(h|h)
   ·have:=(a0I.1 h) _ hxn
    simp only[D2,Bool.not_eq_false']at b3
    rw[this]at b3
    cases b3
   ·simp only at h
    omega
  have pass:∀c,rd≤c→r<c+n→c≤r→c % n=0→U4 ops n M (c0O n) (s,order)=U4 ops n M ((c0O n).drop (r % n+1)) (s.put (r % n) (stpG m (ops (r % n)) s.q (s.th (r % n))),order++[r % n]):=by
   intro c h1 h2 h3 h4
   have hr:r % n=r - c:=by
    have e:r=(r - c)+c:=by omega
    rw[e,Nat.add_mod,h4,Nat.add_zero,Nat.mod_mod,Nat.mod_eq_of_lt (show r - c<n by omega)]
    omega
   have:=f0Q (ops:=ops) (M:=M) (s:=(s,order)) (l:=c0O n) (p:=0) (r:=r % n) (x:=r % n) (Nat.zero_le _) (h0A hxn) (fun j y _ hj hy=>hdead r b1 b2 j 0 c y (by omega) (by rw[Nat.add_mod,h4,Nat.add_zero,Nat.mod_mod]) (by omega) (by omega) hy) hok hM
   rw[List.drop_zero]at this
   exact this
  have hlim:r<rd+n:=by
   rcases Nat.lt_or_ge r (rd+n)with h|h
   ·exact h
   ·have:=b2 (r - n) (by omega) (by omega)
    have e:(r - n) % n=r % n:=by
     have:r=(r - n)+n:=by omega
     conv=>rhs;rw[this,Nat.add_mod_right]
    rw[e,b3]at this
    cases this
  refine⟨?_,hok,Nat.le_refl _,hxn⟩
  rcases hc with⟨rfl,rfl⟩|⟨rfl,rfl⟩
  ·have e1:U4 ops n M (S.drop p) (s,order)=(s,order):=p8 _ _ fun y hy=>by
    obtain⟨j,hj,e⟩:=List.mem_iff_getElem.1 hy
    simp only[List.length_drop]at hj
    rw[List.getElem_drop]at e
    exact a1 (p+j) y (by omega) (by rw[List.getElem?_eq_getElem (by omega),e])
   refine⟨(c0O n).drop (r % n+1),k+1,fun f hf=>?_,.inr ⟨rfl,rfl⟩⟩
   rw[hk f (by omega),e1,g0T hnd (by omega),pass 0 (by omega) (by omega) (by omega) (Nat.zero_mod _),Nat.sub_sub]
  ·rcases Nat.lt_or_ge r n with hr|hr
   ·have e2:r % n=r:=Nat.mod_eq_of_lt hr
    refine⟨(c0O n).drop (r % n+1),k,fun f hf=>?_,.inr ⟨rfl,rfl⟩⟩
    rw[hk f hf]
    congr 1
    rw[e2]at hok ⊢
    exact f0Q (s:=(s,order)) b1 (h0A hr) (fun j y h1 h2 hy=>hdead r b1 b2 j 0 0 y (by omega) rfl (by omega) (by omega) hy) hok hM
   ·have e1:U4 ops n M ((c0O n).drop rd) (s,order)=(s,order):=p8 _ _ fun y hy=>by
     obtain⟨j,hj,e⟩:=List.mem_iff_getElem.1 hy
     have hl:(c0O n).length=n:=by simp[c0O]
     simp only[List.length_drop,hl]at hj
     rw[List.getElem_drop]at e
     exact hdead r b1 b2 (rd+j) 0 0 y (by omega) rfl (by omega) (by omega) (by rw[List.getElem?_eq_getElem (by omega),e])
    refine⟨(c0O n).drop (r % n+1),k+1,fun f hf=>?_,.inr ⟨rfl,rfl⟩⟩
    rw[hk f (by omega),e1,g0T hnd (by omega),pass n (by omega) (by omega) hr (Nat.mod_self n),Nat.sub_sub]
theorem q0m{s0 s:GS m}{order:List Nat}{p rd:Nat}(h:k0k ops n M S s0 s order p rd)(hd:L5 s.live n=0∨order.length=M):∃k,∀f,k≤f→a0K ops n M S f s0=(s,order):=by
 obtain⟨rest,k,hk,_⟩:=h
 refine⟨k,fun f hf=>?_⟩
 rw[hk f hf]
 have e:U4 ops n M rest (s,order)=(s,order):=by
  rcases hd with h|h
  ·refine p8 _ _ fun y _=>?_
   rintro⟨h1,h2,h3⟩
   have:=(a0I.1 h) y.toNat (by omega)
   simp only[D2]at h3
   rw[this]at h3
   cases h3
  ·exact e0h h _
 rw[e]
 refine a8 ?_ _
 rcases hd with h|h
 ·exact .inl h
 ·exact .inr (by simp only;omega)
theorem j0C(s0:GS m):k0k ops n M S s0 (N6 m ops n s0) [] 0 0:=⟨S,0,fun f _=>rfl,.inl ⟨rfl,rfl⟩⟩
end
section
structure PlI(m:Pl)(P:m.S→Prop)(C:m.C→Prop)(A:m.A→Prop):Prop where
 beg:∀q o,P q→P (m.beg q o).1∧(∀c,(m.beg q o).2= .inl c→C c)∧∀a,(m.beg q o).2= .inr a→A a
 stp:∀q c,P q→C c→P (m.stp q c).1∧(∀c',(m.stp q c).2= .inl c'→C c')∧∀a,(m.stp q c).2= .inr a→A a
section
variable{m:Pl}{P:m.S→Prop}{C:m.C→Prop}{A:m.A→Prop}
structure PlT(m:Pl)(C:m.C→Prop)(A:m.A→Prop)(t:GT m):Prop where
 c:∀c,t.call=some c→C c
 a:∀a∈t.ans,A a
theorem PlI.adv(H:PlI m P C A):∀(l:List P3) (q:m.S) (t:GT m),P q→PlT m C A t→P (K4 m l q t).1∧PlT m C A (K4 m l q t).2
 | [],q,t,h,ht=>⟨h,ht⟩
 | o::l,q,t,h,ht=>by
   obtain⟨q',r,e⟩:∃q' r,m.beg q o=(q',r):=⟨_,_,rfl⟩
   have hr:=H.beg q o h
   rw[e]at hr
   cases r with
   | inl c=>
     simp only[K4,e]
     exact⟨hr.1,fun c' hc'=>(by cases hc';exact hr.2.1 _ rfl),ht.a⟩
   | inr a=>
     simp only[K4,e]
     refine PlI.adv H l q' _ hr.1 ⟨fun c hc=>(by cases hc),fun b hb=>?_⟩
     rcases List.mem_append.1 hb with hb|hb
     ·exact ht.a b hb
     ·rw[List.mem_singleton.1 hb];exact hr.2.2 _ rfl
theorem PlI.stpG(H:PlI m P C A){ops:List P3}{q:m.S}{t:GT m}(h:P q)(ht:PlT m C A t):P (stpG m ops q t).1∧PlT m C A (stpG m ops q t).2:=by
 cases hc:t.call with
 | none=>simp only[Go.Proofs.YtlcgkpapnpdfpaaDoor.stpG,hc];exact⟨h,ht⟩
 | some c=>
   obtain⟨q',r,e⟩:∃q' r,m.stp q c=(q',r):=⟨_,_,rfl⟩
   have hr:=H.stp q c h (ht.c c hc)
   rw[e]at hr
   cases r with
   | inl c'=>
     simp only[Go.Proofs.YtlcgkpapnpdfpaaDoor.stpG,hc,e]
     exact⟨hr.1,fun c'' hc'=>(by cases hc';exact hr.2.1 _ rfl),ht.a⟩
   | inr a=>
     simp only[Go.Proofs.YtlcgkpapnpdfpaaDoor.stpG,hc,e]
     refine H.adv _ q' _ hr.1 ⟨fun c hc=>(by cases hc),fun b hb=>?_⟩
     rcases List.mem_append.1 hb with hb|hb
     ·exact ht.a b hb
     ·rw[List.mem_singleton.1 hb];exact hr.2.2 _ rfl
structure PlG(m:Pl)(P:m.S→Prop)(C:m.C→Prop)(A:m.A→Prop)(s:GS m):Prop where
 q:P s.q
 t:∀i,PlT m C A (s.th i)
theorem PlG.put{s:GS m}(h:PlG m P C A s)(i:Nat){r:m.S×GT m}(hr:P r.1∧PlT m C A r.2):PlG m P C A (s.put i r):=
 ⟨hr.1,fun j=>by
  unfold GS.put
  simp only
  split
  ·exact hr.2
  ·exact h.t j⟩
variable{ops:Nat→List P3}{n M:Nat}
theorem PlI.borns(H:PlI m P C A){s:GS m}(h:PlG m P C A s):∀i,PlG m P C A (N6 m ops i s)
 | 0=>h
 | i+1=>(PlI.borns H h i).put i (H.adv _ _ _ (PlI.borns H h i).q ((PlI.borns H h i).t i))
theorem PlI.turn(H:PlI m P C A){s:GS m×List Nat}(h:PlG m P C A s.1)(i:Int):PlG m P C A (V7 ops n M s i).1:=by
 unfold V7
 split
 ·exact h.put _ (H.stpG h.q (h.t _))
 ·exact h
theorem PlI.turns(H:PlI m P C A):∀(l:List Int) (s:GS m×List Nat),PlG m P C A s.1→PlG m P C A (U4 ops n M l s).1
 | [],s,h=>h
 | i::l,s,h=>PlI.turns H l _ (H.turn h i)
theorem PlI.rounds(H:PlI m P C A):∀(f:Nat) (s:GS m×List Nat),PlG m P C A s.1→PlG m P C A (Z3 ops n M f s).1
 | 0,s,h=>h
 | f+1,s,h=>by
   unfold Z3
   split
   ·exact h
   ·exact PlI.rounds H f _ (H.turns _ _ h)
theorem PlI.over(H:PlI m P C A){S:List Int}{s:GS m}(h:PlG m P C A s)(f:Nat):PlG m P C A (a0K ops n M S f s).1:=H.rounds f _ (H.turns S _ (H.borns h n))
theorem m0w{s:GS m×List Nat}(h:s.2.length≤M)(i:Int):(V7 ops n M s i).2.length≤M:=by
 unfold V7
 split
 ·rename_i h1
  simp
  omega
 ·exact h
theorem c0x:∀(l:List Int) (s:GS m×List Nat),s.2.length≤M→(U4 ops n M l s).2.length≤M
 | [],_,h=>h
 | i::l,_,h=>c0x l _ (m0w h i)
theorem d07:∀(f:Nat) (s:GS m×List Nat),s.2.length≤M→(Z3 ops n M f s).2.length≤M
 | 0,_,h=>h
 | f+1,s,h=>by
   unfold Z3
   split
   ·exact h
   ·exact d07 f _ (c0x _ _ h)
theorem m0h{S:List Int}{f:Nat}{s:GS m}:(a0K ops n M S f s).2.length≤M:=d07 _ _ (c0x _ _ (Nat.zero_le _))
end
theorem j0z(k:V0):k.nums.length≤64*k.ws.length:=by
 rw[← W9]
 exact a06 k k.ws.length
theorem h07(n w:Nat)(x:BitVec 64):(X3 n w x).length≤64:=by
 unfold X3
 rw[List.length_map]
 exact Nat.le_trans (List.length_filter_le _ _) (by simp)
def ShC(N:Nat)(c:p9):Prop:=c.out.length≤64*c.w∧(c.kd=5∨c.kd=6→c.w<N)
def ShR(N:Nat)(r:V0×BRs):Prop:=r.1.ws.length=N∧(∀c,r.2= .inl c→ShC N c)∧∀a:m9,r.2= .inr a→a.2.2.length≤64*N
theorem ShR.inl{N:Nat}{s:V0}{c:p9}(h:s.ws.length=N)(hc:ShC N c):ShR N (s,.inl c):=⟨h,fun c e=>(by cases e;exact hc),fun a e=>(by cases e)⟩
theorem ShR.inr{N:Nat}{s:V0}{a:m9}(h:s.ws.length=N)(ha:a.2.2.length≤64*N):ShR N (s,.inr a):=⟨h,fun c e=>(by cases e),fun a e=>(by cases e;exact ha)⟩
theorem n0t{N:Nat}{q:V0}{o:P3}(h:q.ws.length=N):ShR N (q.begin o):=by
 unfold V0.begin
 split
 ·split
  ·exact .inr h (Nat.zero_le _)
  ·exact .inl h ⟨Nat.zero_le _,fun hk=>by simp only at hk;omega⟩
 ·split
  ·split
   ·exact .inr h (Nat.zero_le _)
   ·exact .inl h ⟨Nat.zero_le _,fun hk=>by simp at hk⟩
  ·split
   ·split
    ·exact .inr h (Nat.zero_le _)
    ·exact .inl h ⟨Nat.zero_le _,fun hk=>by simp only;omega⟩
   ·exact .inr h (Nat.zero_le _)
theorem r0F{N:Nat}{q:V0}{c:p9}(h:q.ws.length=N)(hc:ShC N c):ShR N (q.step c):=by
 obtain⟨h1,h2⟩:=hc
 unfold V0.step
 split
 ·rename_i hk
  unfold V0.claim
  split
  ·split
   ·exact .inl h ⟨h1,h2⟩
   ·split
    ·exact .inr h (Nat.zero_le _)
    ·exact .inl h ⟨by simp only;omega,fun hk2=>by simp only at hk2;omega⟩
  ·split
   ·exact .inr (by simpa using h) (Nat.zero_le _)
   ·exact .inl h ⟨h1,h2⟩
 ·split
  ·rename_i hk
   have h3:=h2 hk
   have h4:=h07 q.n c.w (q.wd c.w)
   unfold V0.look
   split
   ·refine .inr h ?_
    split
    ·exact Nat.zero_le _
    ·simp only[List.length_append];omega
   ·exact .inl h ⟨by simp only[List.length_append];omega,fun _=>by simp only;omega⟩
  ·rename_i hk
   unfold V0.one
   split
   ·split
    ·exact .inr h (Nat.zero_le _)
    ·split
     ·exact .inr h (Nat.zero_le _)
     ·exact .inl h ⟨h1,h2⟩
   ·split
    ·exact .inr (by simpa using h) (Nat.zero_le _)
    ·exact .inl h ⟨h1,h2⟩
theorem j0E(N:Nat):PlI BPl (fun q:V0=>q.ws.length=N) (ShC N) (fun a:m9=>a.2.2.length≤64*N):=⟨fun q o h=>n0t h,fun q c h hc=>r0F h hc⟩
theorem j0g{vs:List Int}{ops:Nat→List P3}{n M:Nat}{S:List Int}{f:Nat}(i:Nat)(a:m9)(ha:a∈(show List m9 from((a0K ops n M S f (bs0 vs)).1.th i).ans)):a.2.2.length≤65536:=by
 have hl:(b09 vs).ws.length≤1024:=by
  have:B6 vs≤65536:=by unfold B6;omega
  simp only[b09,b0K,List.length_replicate]
  omega
 have h:=((j0E (b09 vs).ws.length).over (S:=S) (ops:=ops) (n:=n) (M:=M) (s:=bs0 vs) ⟨rfl,fun i=>⟨fun c hc=>(by cases hc),fun a ha=>(by cases ha)⟩⟩ f).t i
 have:=h.a a ha
 omega
end
section
variable{F:Fz}{w:World}
theorem s00:Tryd.prog.built 62 []=some #[vI 0,.slice none 0 0]:=by kernel_rfl
@[go_sem] theorem y0u(w:World):(Instr.build 62 #[]).run Tryd.prog w= .ok (.agg #[vI 0,.slice none 0 0]) w:=run_build w _ _ _ s00
@[go_sem] theorem y0K(w:World)(es:Array Event):(Instr.build 62 #[]).events Tryd.prog w es=es:=l6 w es _ _ _ _ Tryd.underlying62 s00
theorem s0Z:Tryd.prog.built 42 []=some #[vI 0]:=by kernel_rfl
@[go_sem] theorem y0t(w:World):(Instr.build 42 #[]).run Tryd.prog w= .ok (.agg #[vI 0]) w:=run_build w _ _ _ s0Z
@[go_sem] theorem y0J(w:World)(es:Array Event):(Instr.build 42 #[]).events Tryd.prog w es=es:=l6 w es _ _ _ _ Tryd.underlying42 s0Z
structure OpF(pb:Nat)(kd a b c0:Int)(w:World):Prop where
 f0:w.cell? ⟨pb,0,none⟩=some (vI kd)
 f1:w.cell? ⟨pb,1,none⟩=some (vI a)
 f2:w.cell? ⟨pb,2,none⟩=some (vI b)
 f3:w.cell? ⟨pb,3,none⟩=some (vI c0)
theorem OpF.of{pb:Nat}{kd a b c0:Int}(h:w.heap[pb]? =some (.cells #[vI kd,vI a,vI b,vI c0] 44 (0,0))):OpF pb kd a b c0 w:=⟨(V1 h rfl).1,(V1 h rfl).1,(V1 h rfl).1,(V1 h rfl).1⟩
theorem i4{w w':World}{b k:Nat}{v:Value}(h:w.cell? ⟨b,k,none⟩=some v)(hs:∀r,r<w.heap.size→w'.heap[r]? =w.heap[r]?):w'.cell? ⟨b,k,none⟩=some v:=by
 rw[← h]
 unfold World.cell?
 rw[hs b (I9 h)]
theorem OpF.grow{w w':World}{pb:Nat}{kd a b c0:Int}(h:OpF pb kd a b c0 w)(hs:∀r,r<w.heap.size→w'.heap[r]? =w.heap[r]?):OpF pb kd a b c0 w':=⟨i4 h.f0 hs,i4 h.f1 hs,i4 h.f2 hs,i4 h.f3 hs⟩
structure NlS(pb:Nat)(kd a b c0:Int)(ls i:Nat)(xv:Value)(cb sb:Nat)(ok:Bool)(w:World):Prop where
 op:OpF pb kd a b c0 w
 ls:w.cell? ⟨ls,i,none⟩=some xv
 o6:w.cell? ⟨cb,6,none⟩=some (.bool ok)
 o7:w.cell? ⟨cb,7,none⟩=some (vI 0)
 o8:w.cell? ⟨cb,8,none⟩=some (.slice none 0 0)
 st:w.cell? ⟨sb,0,none⟩=some (vI 0)
 no:j0Z xv w
def NAt(w:World)(b:Nat)(ok:Bool):Prop:=w.heap[b]? =some (.cells #[.bool ok,vI 0,.slice none 0 0] 49 (0,0))
section
variable{pb:Nat}{kd a b c0:Int}{ls i:Nat}{xv:Value}{cb sb:Nat}{ok:Bool}
theorem NlS.grow{w w':World}(h:NlS pb kd a b c0 ls i xv cb sb ok w)(hs:∀r,r<w.heap.size→w'.heap[r]? =w.heap[r]?):NlS pb kd a b c0 ls i xv cb sb ok w':=⟨h.op.grow hs,i4 h.ls hs,i4 h.o6 hs,i4 h.o7 hs,i4 h.o8 hs,i4 h.st hs,h.no.heap hs⟩
theorem NlS.at{w:World}(h:NlS pb kd a b c0 ls i xv cb sb ok w)(d:Nat):NlS pb kd a b c0 ls i xv cb sb ok (w.at d):=h.grow fun _ _=>rfl
theorem NAt.grow{w w':World}{q:Nat}(h:NAt w q ok)(hs:∀r,r<w.heap.size→w'.heap[r]? =w.heap[r]?):NAt w' q ok:=(hs q (Q3 h)).trans h
theorem NAt.row{w:World}{q:Nat}(h:NAt w q ok):B5 w (some ⟨q,0,none⟩) (i5 [⟨(ok,0,[]),none,0,0⟩]):=⟨fun k x hx=>⟨q,0,rfl,by
 rw[Nat.zero_add]
 exact(V1 h (by simpa [i5,SA.v,j0K.cells]using hx)).1⟩⟩
end
end
section
variable{An:G3}{w w' w0:World}
structure NlW(pb:Nat)(o:P3)(ls:Nat)(cb:Nat)(ok:Bool)(w:World):Prop where
 op:OpF pb o.kd o.a o.b o.c w
 l0:w.cell? ⟨ls,0,none⟩=some (.pointer none)
 l1:∃zb,w.cell? ⟨ls,1,none⟩=some (vP zb 0)∧w.cell? ⟨zb,0,none⟩=some (vI 0)∧w.cell? ⟨zb,1,none⟩=some (.slice none 0 0)
 o6:w.cell? ⟨cb,6,none⟩=some (.bool ok)
 o7:w.cell? ⟨cb,7,none⟩=some (vI 0)
 o8:w.cell? ⟨cb,8,none⟩=some (.slice none 0 0)
theorem NlW.grow{pb:Nat}{o:P3}{ls cb:Nat}{ok:Bool}(h:NlW pb o ls cb ok w)(hs:∀r,r<w.heap.size→w'.heap[r]? =w.heap[r]?):NlW pb o ls cb ok w':=by
 obtain⟨zb,a,b,c⟩:=h.l1
 exact⟨h.op.grow hs,i4 h.l0 hs,⟨zb,i4 a hs,i4 b hs,i4 c hs⟩,i4 h.o6 hs,i4 h.o7 hs,i4 h.o8 hs⟩
end
section
open Go Go.Conc Go.ChangeShapes
section
variable{H:Type}{enc:TypeId×Value→H}
end
theorem b04{p:Pinned}{s:OpenSpec}{c:OpenClaim}(f:FuncId)(fn:Func)
 (hn:c.program=p.name) (hs:c.sum=p.sum) (hsp:c.spec=s.name)
 (hstart:c.start= .entering) (hout:c.outside=[]) (hin:c.inits=[]) (hun:c.under=none) (hi4:c.initsInPlace=[]∧c.initsUnfollowed=false∧c.initsRecurse=false∧c.initsNamed=[]∧c.initsPassed=[]) (hnb:c.noBlocks=false) (hlv:c.leaving=true) (hfo:c.followed=none) (hnar:c.narrowed=s.cond.isSome) (hstill:c.still=false)
 (hfn:p.checked.prog.funcNamed c.func=some f) (hf:p.checked.prog.funcs[f]? =some fn)
 (closed:joinedFacts p.checked.prog f fn s.bare c=true)
 (hinst:fn.isInstance p.checked.prog c.origin c.targs) (hwrap:fn.isWrapper p.checked.prog c.wrapper c.mainSum)
 (h:∀os:Os,os.Started→∀(H:Type) (enc:TypeId×Value→H),(∀a b,enc a=enc b→a=b)→∀F:Stop.Interp,
   ReturnsInLeavingWide c.assume p.checked os f .any (c.pre enc p.checked.prog fn s) ((s.at F).post enc p.checked.prog fn c.apart c.fresh c.handsOn c.again)):c.holds p s:=by
 simp only[joinedFacts,Bool.and_eq_true,beq_iff_eq,Array.all_eq_true_iff_forall_mem,List.all_eq_true,decide_eq_true_eq]at closed
 obtain⟨⟨⟨⟨⟨⟨⟨⟨⟨⟨⟨⟨⟨⟨⟨⟨⟨⟨⟨⟨⟨⟨⟨⟨⟨⟨⟨⟨⟨⟨⟨k1,k2⟩,k3⟩,k4⟩,k5⟩,k6⟩,k7⟩,k8⟩,k9⟩,k10⟩,k11⟩,k12⟩,k13⟩,k14⟩,k15⟩,k16⟩,k17⟩,k17b⟩,k18⟩,k19⟩,k20⟩,k21⟩,k22⟩,k23⟩,k23b⟩,k24⟩,k24b⟩,k24c⟩,k25⟩,k26⟩,k27⟩,k28⟩:=closed
 have hq:∀os:Os,Stop.quiet p.checked.prog os:=fun os k hk=>by rw[k9]at hk;cases hk
 refine⟨k1,hn,hs,hsp,k2,k3,by unfold OpenClaim.startFits;rw[hstart];exact k24,by unfold OpenClaim.startTold;rw[hstart];exact⟨hin,hun,hi4⟩,f,fn,hfn,hf,⟨k4,k19⟩,(fun hb=>by rw[hnb]at hb;cases hb),by unfold OpenClaim.namedList;rw[hfo];exact k5,hinst,hwrap,
  k6.trans k7.symm,⟨k8.trans k9.symm,by unfold Program.envWorded;rw[k9];rfl,k23b⟩,k10,k11,k12,k13,k14,⟨k15,k27,k28⟩,⟨k16,k20⟩,⟨k17,k21,k25,k26⟩,⟨k22,k24b,k24c,k17b⟩,(by rw[hout,hnar];cases hsh:c.shortTexts with|none=>simp|some _=>rw[hsh]at k23;cases k23),fun n hn'=>varReadable_some (k18 n hn'),
  ⟨_,by unfold OpenClaim.world;rw[hout,hstart];exact WideRow.started_initial,hq _⟩,[],by unfold OpenClaim.lists;rw[hfo],fun os st _ H enc inj=>?_⟩
 have st':os.Started:=by unfold OpenClaim.world at st;rw[hout,hstart]at st;exact st
 rw[OpenClaim.post_not_still hstill]
 unfold OpenClaim.form
 rw[hstart,k6]
 intro F
 have e1:c.okInput=Input.okWide:=by unfold OpenClaim.okInput;rw[hnb]
 have e2:c.atReturn p.checked.prog=leavingAtReturn p.checked.prog:=by unfold OpenClaim.atReturn;rw[hlv]
 have e3:c.always p.checked.prog []=nothingAlways:=by unfold OpenClaim.always;rw[hfo]
 have e4:s.post enc p.checked.prog fn F c.outside c.apart c.fresh c.handsOn c.again=(s.at F).post enc p.checked.prog fn c.apart c.fresh c.handsOn c.again:=by rw[hout];rfl
 rw[e1,e2,e3]
 show ReturnsInOpen _ _ _ _ _ _ _ _ (s.post enc p.checked.prog fn F c.outside c.apart c.fresh c.handsOn c.again) _ _
 rw[e4]
 exact h os st' H enc inj F k24
end
noncomputable section
open Go.ChangeShapes Go.WideShapes Go.ChangeAt
set_option maxRecDepth 100000
section
variable{H:Type}{enc:TypeId×Value→H}
end
theorem x0u : Tryd.prog.globalNamed "math/bits.deBruijn64tab" = some 0 := by kernel_rfl
theorem p0i:(Tryd.prog.globals[0]?).map (·.type)=some 145:=by kernel_rfl
theorem o0N:Tryd.prog.cellsOf 145=64:=by kernel_rfl
theorem q0W:Tryd.prog.cellsOf 5=1:=by kernel_rfl
theorem z0g{W:World}(h:laidMetH Tryd.prog Rows.bitsNilRow.laid W):d08 W:=by
 have ht : Lib.TabIs Tryd.prog W "math/bits.deBruijn64tab" .u8 (deB.map fun n : Nat => (n : Int)) := Lib.tabIs_of_head (rest := []) x0u p0i Tryd.underlying145 Tryd.underlying5 q0W o0N h
 have hc:∀k,k<64→W.cell? ⟨0,k,none⟩=some (.int .u8 ((deB.getD k 0:Nat):Int)):=fun k hk=>by
  have:=ht.cell x0u k (by rw[List.length_map];exact hk)
  rw[this]
  congr 2
  have hl:k<deB.length:=hk
  simp[List.getD_eq_getElem?_getD,hl]
 obtain⟨c,e,z,h0⟩:=M3 (hc 0 (by omega))
 refine⟨c,e,z,h0,fun k hk=>?_⟩
 have:=hc k hk
 have h0:W.heap[0]? =some (.cells c e z):=h0
 simpa [World.cell?,h0]using this
def c09(os:Os):World:=
 {World.holding Tryd.prog os ⟨#[],#[],[]⟩with heap:=(World.holding Tryd.prog os ⟨#[],#[],[]⟩).heap.modify 0 fun
  | .cells _ t frozen=>.cells (deB.map fun n:Nat=>Value.int .u8 (n:Int)).toArray t frozen
  | o=>o}
theorem m0i{p:Pinned}{s:OpenSpec}{c:OpenClaim}(kinds:List LaidKind)(tests:Bool)(har:Bool×String)(lk:Bool)
 (hc:c.holds p s) (hw:c.wfByText s=true) (htie:c.laidByTextAt .later p kinds tests)
 (hst:c.start= .entering) (hnb:c.noBlocks=false∧c.again=false) (hm:p.checked.prog.mainIs=some (har.1,har.2.toList)) (hn:(!har.1 && har.2.isEmpty && !lk)=false)
 (hl:∀f fn,p.checked.prog.funcNamed c.func=some f→p.checked.prog.funcs[f]? =some fn→lk=p.checked.prog.looks []∧∀(j:Nat) t,fn.params[j]? =some t→p.checked.prog.wantsStandIn t=false)
 (hg:true=c.goesBy p.checked.prog):
 Claim7.holds p (.plain s) {stood:={row:=c,standIns:=[],harness:=har,looks:=lk},kinds:=[],alts:=[],goes:=true,laidByText:=true,laidKinds:=kinds,laidTests:=tests,laidLooks:=.later}:=by
 have h6:∀r:OpenClaim,Claim7.isSixth {stood:={row:=r,standIns:=[],harness:=har,looks:=lk},kinds:=[]}=false:=fun r=>by simpa [Claim7.isSixth]using hn
 exact⟨Claim7.tied_new_at .later kinds tests (Claim7.new_of_sixth hc har lk hst hnb hm (h6 c) hl) hw,fun D hD=>(by cases hD),htie,(fun h=>by cases h),hg⟩
end
end Go.Proofs.YtlcgkpapnpdfpaaDoor
