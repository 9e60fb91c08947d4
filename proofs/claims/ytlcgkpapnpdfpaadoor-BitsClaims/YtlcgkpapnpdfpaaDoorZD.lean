/-
  BitsClaims: whatever the schedule, a number is claimed by one thread alone
  Part 4 of 4.
-/
import Derived.Test.YtlcgkpapnpdfpaaDoorZC
import Derived.ProofKit
import Derived.Conc.LeavingOf
import Derived.Deep.DrawnRows
import Derived.Lib.MinMax
import Derived.Test.YtlcgkpapnpdfpaaDoorRows
import Derived.JoinedCond
import Derived.Conc.Holds
import Derived.Test.YtlcgkpapnpdfpaaDoorCards
import Derived.Test.YtlcgkpapnpdfpaaDoorTie
import Derived.ChangeSame
import Derived.Deep.DeepHandedRow
import Derived.Lib.LaidTab
import Derived.Carry
import Derived.Deep.Slices
import Derived.ChangeSlices
set_option linter.unusedSimpArgs false
set_option linter.unusedVariables false
set_option linter.unusedSectionVars false
set_option maxRecDepth 100000
set_option maxHeartbeats 8000000
namespace Go.Proofs.YtlcgkpapnpdfpaaDoor
open Go Go.Conc Go.RowKit Go.Proofs
section
section
variable{m:Pl}{ops:Nat→List I6}{n M:Nat}{I:GS m→Nat→Prop}
theorem o0h(hs:∀s t i c,I s t→i<n→(s.th i).call=some c→I (s.put i (l0q m (ops i) s.q (s.th i))) (t+1)){s:GS m×List Nat}(h:I s.1 s.2.length)(i:Int):I (n0j ops n M s i).1 (n0j ops n M s i).2.length:=by
 unfold n0j
 split
 ·rename_i hc
  obtain⟨c,hcc⟩:=Option.isSome_iff_exists.1 hc.2.2.1
  have:=hs s.1 s.2.length i.toNat c h (by omega) hcc
  simpa using this
 ·exact h
theorem a0W(hs:∀s t i c,I s t→i<n→(s.th i).call=some c→I (s.put i (l0q m (ops i) s.q (s.th i))) (t+1)):∀(l:List Int) (s:GS m×List Nat),I s.1 s.2.length→I (b0M ops n M l s).1 (b0M ops n M l s).2.length
 | [],s,h=>h
 | i::l,s,h=>a0W hs l _ (o0h hs h i)
theorem b01(hs:∀s t i c,I s t→i<n→(s.th i).call=some c→I (s.put i (l0q m (ops i) s.q (s.th i))) (t+1)):∀(f:Nat) (s:GS m×List Nat),I s.1 s.2.length→I (X5 ops n M f s).1 (X5 ops n M f s).2.length
 | 0,s,h=>h
 | f+1,s,h=>by
   unfold X5
   split
   ·exact h
   ·exact b01 hs f _ (a0W hs _ _ h)
theorem m0T(hs:∀s t i c,I s t→i<n→(s.th i).call=some c→I (s.put i (l0q m (ops i) s.q (s.th i))) (t+1)){S:List Int}{f:Nat}{s:GS m}(h:I (f0T m ops n s) 0):I (e09 ops n M S f s).1 (e09 ops n M S f s).2.length:=
 b01 hs f _ (a0W hs _ _ h)
end
theorem g0A{m:Pl}{ops:List I6}{q q':m.S}{t:GT m}{c c':m.C}(hc:t.call=some c)(h:m.stp q c=(q',.inl c')):l0q m ops q t=(q',⟨t.k,some c',t.ans⟩):=by simp[l0q,hc,h]
theorem l0Q{m:Pl}{ops:List I6}{q q':m.S}{t:GT m}{c:m.C}{a:m.A}(hc:t.call=some c)(h:m.stp q c=(q',.inr a)):l0q m ops q t=f0v m (ops.drop (t.k+1)) q' ⟨t.k+1,none,t.ans++[a]⟩:=by simp[l0q,hc,h]
structure CI(in0:Nat→Bool)(n K B:Nat)(ops:Nat→List I6)(s:GS BPl)(t:Nat):Prop where
 wf:BWf s.q
 th:∀i,i<n→CT s.q (ops i) (s.th i)
 mem:∀x,x<(Z1.n s.q)→((Z1.has s.q) x=true↔in0 x=true∨x∈F1 (fun i=>(s.th i).ans) n)
 nd:(F1 (fun i=>(s.th i).ans) n).Nodup
 new:∀x∈F1 (fun i=>(s.th i).ans) n,x<(Z1.n s.q)∧in0 x=false
 phi:t+f5 (fun i=>Z6 s.q K (ops i).length (s.th i)) n≤B
theorem l0J{q q':Z1}{K len:Nat}{t:GT BPl}(hl:q'.ws.length=q.ws.length):Z6 q' K len t≤Z6 q K len t+2:=by
 unfold Z6
 split
 ·omega
 ·unfold K9
  rw[hl]
  split
  ·omega
  ·split<;>split<;>omega
theorem d0F{s:Z1}{c:BCl}(hp:c.ph=0)(hf:a08 s.n c.w (s.wd c.w)=none)(hw:c.w+1=s.ws.length):s.claim c=(s,.inr (false,0,[])):=by simp[Z1.claim,hp,hf,hw]
theorem l0a{s:Z1}{c:BCl}(hp:c.ph=0)(hf:a08 s.n c.w (s.wd c.w)=none)(hw:¬c.w+1=s.ws.length):s.claim c=(s,.inl {c with w:=c.w+1}):=by simp[Z1.claim,hp,hf,hw]
theorem m0m{s:Z1}{c:BCl}{j:Nat}(hp:c.ph=0)(hf:a08 s.n c.w (s.wd c.w)=some j):s.claim c=(s,.inl {c with ph:=1,old:=s.wd c.w}):=by simp[Z1.claim,hp,hf]
theorem m0n{s:Z1}{c:BCl}{j:Nat}(hp:c.ph=1)(hf:a08 s.n c.w c.old=some j)(hw:s.wd c.w=c.old):s.claim c=({s with ws:=s.ws.set c.w (s.wd c.w ||| bitI j)},.inr (true,((c.w*64+j:Nat):Int),[])):=by simp[Z1.claim,hp,hf,hw]
theorem k0S{s:Z1}{c:BCl}(hp:c.ph=1)(hw:¬s.wd c.w=c.old):s.claim c=(s,.inl {c with ph:=0}):=by simp[Z1.claim,hp,hw]
theorem q0g{s:Z1}{w j:Nat}(h:a08 s.n w (s.wd w)=some j):j<64∧w*64+j<s.n∧s.has (w*64+j)=false:=by
 obtain⟨h1,h2,h3,_,_⟩:=e08 h
 refine⟨h1,h2,?_⟩
 unfold Z1.has
 rw[show(w*64+j) / 64=w by omega,show(w*64+j) % 64=j by omega]
 exact h3
section
variable{in0:Nat→Bool}{n K B:Nat}{ops:Nat→List I6}{s:GS BPl}{t:Nat}
theorem CI.one(h:CI in0 n K B ops s t){i:Nat}(hi:i<n){t':GT BPl}(hans:(t'.ans:List s7)=(s.th i).ans)(hct:CT s.q (ops i) t')(hphi:Z6 s.q K (ops i).length t'+1≤Z6 s.q K (ops i).length (s.th i)):CI in0 n K B ops (s.put i (s.q,t')) (t+1):=by
 have hth:∀j,(s.put i (s.q,t')).th j=if j=i then t' else s.th j:=fun j=>rfl
 have hw:F1 (fun j=>((s.put i (s.q,t')).th j).ans) n=F1 (fun j=>(s.th j).ans) n:=S9 n fun j _=>by
  rw[hth]
  split
  ·rename_i e;subst e;exact hans
  ·rfl
 refine⟨h.wf,fun j hj=>?_,fun x hx=>?_,by rw[hw];exact h.nd,fun x hx=>h.new x (hw ▸ hx),?_⟩
 ·rw[hth]
  split
  ·rename_i e;subst e;exact hct
  ·exact h.th j hj
 ·rw[hw];exact h.mem x hx
 ·have h1:=c0z (f:=fun j=>Z6 s.q K (ops j).length (s.th j)) (g:=fun j=>Z6 s.q K (ops j).length ((s.put i (s.q,t')).th j)) (d:=0) n hi fun j hj hne=>by
   simp only[hth,if_neg hne];omega
  have h2:=h.phi
  simp only[hth,if_true]at h1
  have hsum:f5 (fun j=>Z6 (s.put i (s.q,t')).q K (ops j).length ((s.put i (s.q,t')).th j)) n=f5 (fun j=>Z6 s.q K (ops j).length (if j=i then t' else s.th j)) n:=rfl
  rw[hsum]
  omega
theorem CI.step'{q:Z1}{th:Nat→GT BPl}(hK:3*q.ws.length+2*n+3≤K)(hops:∀i,i<n→∀o∈ops i,o.kd=4)(h:CI in0 n K B ops ⟨q,th⟩ t){i:Nat}(hi:i<n){c:BCl}(hc:(th i).call=some c):CI in0 n K B ops (GS.put (m:=BPl) ⟨q,th⟩ i (l0q BPl (ops i) q (th i))) (t+1):=by
 have hct:CT q (ops i) (th i):=h.th i hi
 have hwf:BWf q:=h.wf
 have hmem:∀x,x<q.n→(q.has x=true↔in0 x=true∨x∈F1 (fun i=>(th i).ans) n):=h.mem
 have hnd:(F1 (fun i=>(th i).ans) n).Nodup:=h.nd
 have hnew:∀x∈F1 (fun i=>(th i).ans) n,x<q.n∧in0 x=false:=h.new
 have hphi:t+f5 (fun i=>Z6 q K (ops i).length (th i)) n≤B:=h.phi
 obtain⟨hk,h4,hw,hp,hbelow⟩:=hct.c1 c hc
 have hstep:BPl.stp q c=Z1.claim q c:=by
  show Z1.step q c=_
  unfold Z1.step
  rw[if_pos h4]
 obtain⟨an,han⟩:∃an:List s7,an=(th i).ans:=⟨_,rfl⟩
 have hthi:th i=(⟨(th i).k,some c,an⟩:GT BPl):=by
  have e:th i=⟨(th i).k,(th i).call,(th i).ans⟩:=rfl
  rw[hc]at e
  exact e.trans (by rw[han];rfl)
 have hal:an.length=(th i).k:=by rw[han];exact hct.al
 have hphi0:Z6 q K (ops i).length (th i)=((ops i).length - (th i).k)*K+K9 q c:=by
  rw[hthi]
  rfl
 have hmul:((ops i).length - (th i).k)*K=((ops i).length - ((th i).k+1))*K+K:=by
  rw[show(ops i).length - (th i).k=((ops i).length - ((th i).k+1))+1 by omega,Nat.succ_mul]
 have hcan:∀a:s7,a∈an→(∃x:Nat,a=(true,(x:Int),[]))∨(a=(false,0,[])∧∀x,x<q.n→q.has x=true):=fun a ha=>hct.an a (by rw[han]at ha;exact ha)
 rcases hp with hp|⟨hp,j,hj⟩
 ·cases hf:a08 q.n c.w (q.wd c.w)with
  | none=>
    have hfull:=m0q hf
    by_cases he:c.w+1=q.ws.length
    ·-- refused
     have hs:=l0Q (ops:=ops i) hc (hstep.trans (d0F hp hf he))
     have hall:∀x,x<q.n→q.has x=true:=fun x hx=>by
      rcases Nat.lt_or_ge x (64*c.w)with h1|h1
      ·exact hbelow x hx h1
      ·refine hfull x hx ?_
       have:=hwf.l
       omega
     obtain⟨t',r,e1,e2,e3,e4,e5⟩:=j0J (q:=q) hwf (hops i hi) (k:=(th i).k+1) (ans:=an++[(false,0,[])]) (by omega) (by rw[List.length_append,hal];rfl) (fun a ha=>by
      rcases List.mem_append.1 ha with ha|ha
      ·exact hcan a ha
      ·exact .inr ⟨by simpa using ha,hall⟩) K
     rw[← han]at hs
     rw[hs.trans e1]
     have hwT:j3 ([(false,0,[])]++r)=[]:=by rw[e9,e4];rfl
     have hth:∀j,(GS.put (m:=BPl) ⟨q,th⟩ i (q,t')).th j=if j=i then t' else th j:=fun j=>rfl
     have hpw:=b0r (f:=fun j=>(th j).ans) (g:=fun j=>((GS.put (m:=BPl) ⟨q,th⟩ i (q,t')).th j).ans) (i:=i) (l:=[(false,0,[])]++r) (by rw[hth,if_pos rfl,← han];exact e3.trans (List.append_assoc _ _ _)) (fun j hj=>by rw[hth,if_neg hj]) n hi
     rw[hwT,List.nil_append]at hpw
     refine⟨hwf,fun j hj=>?_,fun x hx=>(hmem x hx).trans (or_congr Iff.rfl (hpw.mem_iff).symm),hpw.nodup_iff.2 hnd,fun x hx=>hnew x (hpw.mem_iff.1 hx),?_⟩
     ·show CT q (ops j) (if j=i then t' else th j)
      split
      ·rename_i e;subst e;exact e2
      ·exact h.th j hj
     ·have h1:=c0z (f:=fun j=>Z6 q K (ops j).length (th j)) (g:=fun j=>Z6 q K (ops j).length (if j=i then t' else th j)) (d:=0) n hi fun j hj hne=>by
       simp only[if_neg hne];omega
      simp only[if_true]at h1
      show t+1+f5 (fun j=>Z6 q K (ops j).length (if j=i then t' else th j)) n≤B
      omega
    ·-- on to the next word
     rw[g0A (ops:=ops i) hc (hstep.trans (l0a hp hf he))]
     refine h.one hi rfl ⟨hct.k,hct.al,hct.an,(fun h=>by cases h),fun c' hc'=>?_⟩ ?_
     ·have hc':some {c with w:=c.w+1}=some c':=hc'
      cases hc'
      refine⟨hk,h4,?_,.inl hp,fun x hx h64=>?_⟩
      ·show c.w+1<q.ws.length
       omega
      ·rcases Nat.lt_or_ge x (64*c.w)with h1|h1
       ·exact hbelow x hx h1
       ·have h64:x<64*(c.w+1):=h64
        exact hfull x hx (by omega)
     ·show((ops i).length - (th i).k)*K+K9 q {c with w:=c.w+1}+1≤Z6 q K (ops i).length (th i)
      rw[hphi0]
      unfold K9
      simp only[if_pos hp]
      omega
  | some j=>
    rw[g0A (ops:=ops i) hc (hstep.trans (m0m hp hf))]
    refine h.one hi rfl ⟨hct.k,hct.al,hct.an,(fun h=>by cases h),fun c' hc'=>?_⟩ ?_
    ·have hc':some {c with ph:=1,old:=q.wd c.w}=some c':=hc'
     cases hc'
     exact⟨hk,h4,hw,.inr ⟨rfl,j,hf⟩,hbelow⟩
    ·show((ops i).length - (th i).k)*K+K9 q {c with ph:=1,old:=q.wd c.w}+1≤Z6 q K (ops i).length (th i)
     have x0:K9 q {c with ph:=1,old:=q.wd c.w}=3*(q.ws.length - c.w)+1:=by simp[K9]
     have x1:K9 q c=3*(q.ws.length - c.w)+2:=by simp[K9,hp]
     rw[hphi0,x0,x1]
     omega
 ·by_cases hv:q.wd c.w=c.old
  ·-- won
   have hj':a08 q.n c.w (q.wd c.w)=some j:=by rw[hv];exact hj
   obtain⟨f1,f2,f3⟩:=q0g hj'
   have hs:=l0Q (ops:=ops i) hc (hstep.trans (m0n hp hj hv))
   generalize hq':({q with ws:=q.ws.set c.w (q.wd c.w ||| bitI j)}:Z1)=q' at hs
   have hhas:∀x,q'.has x=(q.has x || decide (x=c.w*64+j)):=fun x=>by
    rw[← hq'];exact l0P hw f1 x
   have hn':q'.n=q.n:=by rw[← hq']
   have hl':q'.ws.length=q.ws.length:=by rw[← hq'];simp
   have hwf':BWf q':=by
    refine⟨by rw[hl',hn'];exact hwf.l,by rw[hn'];exact hwf.n,?_⟩
    rw[← hq']
    refine j0Q (n:=q.n) hwf.hi fun y hy=>?_
    rw[BitVec.getLsbD_or,hwf.hi _ _ hy,N7,Nat.mod_eq_of_lt f1]
    simp
    omega
   have hmono:∀x,q.has x=true→q'.has x=true:=fun x hx=>by rw[hhas,hx];rfl
   obtain⟨t',r,e1,e2,e3,e4,e5⟩:=j0J (q:=q') hwf' (hops i hi) (k:=(th i).k+1) (ans:=an++[(true,((c.w*64+j:Nat):Int),[])]) (by omega) (by rw[List.length_append,hal];rfl) (fun a ha=>by
    rcases List.mem_append.1 ha with ha|ha
    ·exact(hcan a ha).imp id fun⟨x1,x2⟩=>⟨x1,fun x hx=>hmono x (x2 x (hn' ▸ hx))⟩
    ·exact .inl ⟨_,List.mem_singleton.1 ha⟩) K
   rw[← han]at hs
   rw[hs.trans e1]
   have hwT:j3 ([(true,((c.w*64+j:Nat):Int),[])]++r)=[c.w*64+j]:=by
    rw[e9,e4]
    simp only[j3,List.filterMap_cons,if_true,List.filterMap_nil,List.append_nil,Int.toNat_natCast]
   have hth:∀j,(GS.put (m:=BPl) ⟨q,th⟩ i (q',t')).th j=if j=i then t' else th j:=fun j=>rfl
   have hpw:=b0r (f:=fun j=>(th j).ans) (g:=fun j=>((GS.put (m:=BPl) ⟨q,th⟩ i (q',t')).th j).ans) (i:=i) (l:=[(true,((c.w*64+j:Nat):Int),[])]++r) (by rw[hth,if_pos rfl,← han];exact e3.trans (List.append_assoc _ _ _)) (fun j hj=>by rw[hth,if_neg hj]) n hi
   rw[hwT,List.singleton_append]at hpw
   have hnot:c.w*64+j ∉ F1 (fun i=>(th i).ans) n:=fun hm=>by
    have:=(hmem (c.w*64+j) f2).2 (.inr hm)
    rw[f3]at this
    cases this
   have hin0:in0 (c.w*64+j)=false:=by
    cases hx:in0 (c.w*64+j)with
    | false=>rfl
    | true=>
      have:=(hmem (c.w*64+j) f2).2 (.inl hx)
      rw[f3]at this
      cases this
   refine⟨hwf',fun j' hj=>?_,fun x hx=>?_,hpw.nodup_iff.2 (List.nodup_cons.2 ⟨hnot,hnd⟩),fun x hx=>?_,?_⟩
   ·show CT q' (ops j') (if j'=i then t' else th j')
    split
    ·rename_i e;subst e;exact e2
    ·exact(h.th j' hj).mono hn' hl' hmono
   ·have hx:x<q'.n:=hx
    have h1:=hmem x (hn' ▸ hx)
    refine Iff.trans ?_ (or_congr Iff.rfl hpw.mem_iff.symm)
    show q'.has x=true↔_
    rw[hhas,Bool.or_eq_true,decide_eq_true_iff,List.mem_cons]
    constructor
    ·rintro(h2|h2)
     ·exact(h1.1 h2).imp id .inr
     ·exact .inr (.inl h2)
    ·rintro(h2|h2|h2)
     ·exact .inl (h1.2 (.inl h2))
     ·exact .inr h2
     ·exact .inl (h1.2 (.inr h2))
   ·show x<q'.n∧_
    rw[hn']
    rcases List.mem_cons.1 (hpw.mem_iff.1 hx)with rfl|h2
    ·exact⟨f2,hin0⟩
    ·exact hnew x h2
   ·have h1:=c0z (f:=fun j=>Z6 q K (ops j).length (th j)) (g:=fun j=>Z6 q' K (ops j).length (if j=i then t' else th j)) (d:=2) n hi fun j hj hne=>by
     simp only[if_neg hne];exact l0J hl'
    simp only[if_true]at h1
    show t+1+f5 (fun j=>Z6 q' K (ops j).length (if j=i then t' else th j)) n≤B
    rw[hl']at e5
    have h0:0≤K9 q c:=Nat.zero_le _
    omega
  ·rw[g0A (ops:=ops i) hc (hstep.trans (k0S hp hv))]
   refine h.one hi rfl ⟨hct.k,hct.al,hct.an,(fun h=>by cases h),fun c' hc'=>?_⟩ ?_
   ·have hc':some {c with ph:=0}=some c':=hc'
    cases hc'
    exact⟨hk,h4,hw,.inl rfl,hbelow⟩
   ·show((ops i).length - (th i).k)*K+K9 q {c with ph:=0}+1≤Z6 q K (ops i).length (th i)
    have x0:K9 q {c with ph:=0}=3*(q.ws.length - c.w)+2:=by simp[K9]
    have x1:K9 q c=3*(q.ws.length - c.w)+3:=by simp[K9,hp,hv]
    rw[hphi0,x0,x1]
    omega
theorem CI.step(hK:3*(Z1.ws s.q).length+2*n+3≤K)(hops:∀i,i<n→∀o∈ops i,o.kd=4)(h:CI in0 n K B ops s t){i:Nat}(hi:i<n){c:BCl}(hc:(s.th i).call=some c):CI in0 n K B ops (s.put i (l0q BPl (ops i) s.q (s.th i))) (t+1):=
 CI.step' (q:=s.q) (th:=s.th) hK hops h hi hc
end
end
section
section
variable{m:Pl}{ops:Nat→List I6}{n M:Nat}
variable{I:m.S→Prop}(hb:∀s o,I s→I (m.beg s o).1)(hs:∀s c,I s→I (m.stp s c).1)
include hb in
theorem c0L:∀(l:List I6) (q:m.S) (t:GT m),I q→I (f0v m l q t).1
 | [],q,t,h=>h
 | o::l,q,t,h=>by
   have h1:=hb q o h
   simp only[f0v]
   cases e:m.beg q o with
   | mk q' r=>
     rw[e]at h1
     cases r with
     | inl c=>exact h1
     | inr a=>exact c0L l q' _ h1
include hb hs in
theorem j0t(l:List I6)(q:m.S)(t:GT m)(h:I q):I (l0q m l q t).1:=by
 unfold l0q
 cases ht:t.call with
 | none=>exact h
 | some c=>
   have h1:=hs q c h
   simp only
   cases e:m.stp q c with
   | mk q' r=>
     rw[e]at h1
     cases r with
     | inl c=>exact h1
     | inr a=>exact c0L hb _ q' _ h1
include hb in
theorem c0T(s:GS m)(h:I s.q):∀i,I (f0T m ops i s).q
 | 0=>h
 | i+1=>by
   simp only[f0T]
   exact c0L hb _ _ _ (c0T s h i)
include hb hs in
theorem m0y{s:GS m×List Nat}(h:I s.1.q)(i:Int):I (n0j ops n M s i).1.q:=by
 unfold n0j
 split
 ·exact j0t hb hs _ _ _ h
 ·exact h
include hb hs in
theorem a0x:∀(l:List Int) (s:GS m×List Nat),I s.1.q→I (b0M ops n M l s).1.q
 | [],_,h=>h
 | i::l,_,h=>a0x l _ (m0y hb hs h i)
include hb hs in
theorem b0Q:∀(f:Nat) (s:GS m×List Nat),I s.1.q→I (X5 ops n M f s).1.q
 | 0,_,h=>h
 | f+1,s,h=>by
   unfold X5
   split
   ·exact h
   ·exact b0Q f _ (a0x hb hs _ _ h)
include hb hs in
theorem m0s{S:List Int}{f:Nat}{s:GS m}(h:I s.q):I (e09 ops n M S f s).1.q:=b0Q hb hs _ _ (a0x hb hs _ _ (c0T hb s h n))
end
theorem h0J{q:Z1}(hwf:BWf q){ops:Nat→List I6}{n:Nat}(hops:∀i,i<n→∀o∈ops i,o.kd=4)(K:Nat)(s0:GS BPl)(h0:s0.q=q)(ht:∀j,s0.th j=⟨0,none,[]⟩):∀i,i≤n→(f0T BPl ops i s0).q=q∧(∀j,i≤j→(f0T BPl ops i s0).th j=⟨0,none,[]⟩)∧
 ∀j,j<i→CT q (ops j) ((f0T BPl ops i s0).th j)∧j3 ((f0T BPl ops i s0).th j).ans=[]∧Z6 q K (ops j).length ((f0T BPl ops i s0).th j)≤(ops j).length*K+(3*q.ws.length+2)
 | 0,_=>⟨h0,fun j _=>ht j,fun j h=>by omega⟩
 | i+1,hi=>by
   obtain⟨h1,h2,h3⟩:=h0J hwf hops K s0 h0 ht i (by omega)
   obtain⟨t,r,e1,e2,e3,e4,e5⟩:=j0J (q:=q) hwf (l:=ops i) (hops i (by omega)) (k:=0) (ans:=[]) (Nat.zero_le _) rfl (fun a ha=>by cases ha) K
   rw[List.drop_zero]at e1
   have eb:f0T BPl ops (i+1) s0=(f0T BPl ops i s0).put i (q,t):=by
    simp only[f0T]
    rw[h2 i (Nat.le_refl _),h1]
    exact congrArg (GS.put (f0T BPl ops i s0) i) e1
   rw[eb]
   have hth:∀j,((f0T BPl ops i s0).put i (q,t)).th j=if j=i then t else(f0T BPl ops i s0).th j:=fun j=>rfl
   refine⟨rfl,fun j hj=>?_,fun j hj=>?_⟩
   ·rw[hth,if_neg (by omega)];exact h2 j (by omega)
   ·rw[hth]
    split
    ·rename_i e
     subst e
     refine⟨e2,?_,by simpa using e5⟩
     have e3:t.ans=r:=e3
     rw[e3];exact e4
    ·exact h3 j (by omega)
theorem f0z{f:Nat→List s7}:∀n,(∀j,j<n→j3 (f j)=[])→F1 f n=[]
 | 0,_=>rfl
 | n+1,h=>by rw[F1,f0z n fun j hj=>h j (by omega),h n (by omega)];rfl
theorem f0l{f g:Nat→Nat}:∀n,(∀j,j<n→g j≤f j)→f5 g n≤f5 f n
 | 0,_=>Nat.le_refl _
 | n+1,h=>by
   have h1:=f0l n fun j hj=>h j (by omega)
   have h2:=h n (by omega)
   simp only[f5];omega
theorem a0r(q:Z1)(o:I6):(q.begin o).1.n=q.n∧(q.begin o).1.ws.length=q.ws.length:=by rw[g0n];exact⟨rfl,rfl⟩
structure Z9(N:Nat)(in0:Nat→Bool)(n:Nat)(ops:Nat→List I6)(s:GS BPl):Prop where
 live:y5 s.live n=0
 sz:Z1.n s.q=N
 wf:BWf s.q
 len:∀i,i<n→List.length (α:=s7) (s.th i).ans=(ops i).length
 an:∀i,i<n→∀a:s7,a∈((s.th i).ans:List s7)→(∃x:Nat,a=(true,(x:Int),[]))∨(a=(false,0,[])∧∀x,x<N→Z1.has s.q x=true)
 mem:∀x,x<N→(Z1.has s.q x=true↔in0 x=true∨x∈F1 (fun i=>(s.th i).ans) n)
 nd:(F1 (fun i=>(s.th i).ans) n).Nodup
 new:∀x∈F1 (fun i=>(s.th i).ans) n,x<N∧in0 x=false
theorem l0i{vs:List Int}{ops:Nat→List I6}{n M:Nat}{S:List Int}{s:GS BPl}{order:List Nat}(hops:∀i,i<n→∀o∈ops i,o.kd=4)(hd:T7 n M (s,order))(h:∃k,∀f,k≤f→e09 ops n M S f (bs0 vs)=(s,order))
 (hM:f5 (fun i=>(ops i).length*(3*(k0z vs).ws.length+2*n+3)+(3*(k0z vs).ws.length+2)) n<M):Z9 (c0i vs) (k0z vs).has n ops s:=by
 obtain⟨f,hf⟩:=h
 have hf:=hf f (Nat.le_refl _)
 have hwf:=l0M vs
 obtain⟨K,hK⟩:∃K,K=3*(k0z vs).ws.length+2*n+3:=⟨_,rfl⟩
 rw[← hK]at hM
 obtain⟨B,hB⟩:∃B,B=f5 (fun i=>(ops i).length*K+(3*(k0z vs).ws.length+2)) n:=⟨_,rfl⟩
 rw[← hB]at hM
 obtain⟨b1,_,b3⟩:=h0J (q:=k0z vs) hwf hops K (bs0 vs) rfl (fun _=>rfl) n (Nat.le_refl _)
 have hw0:F1 (fun i=>((f0T BPl ops n (bs0 vs)).th i).ans) n=[]:=f0z n fun j hj=>(b3 j hj).2.1
 have c0:CI (k0z vs).has n K B ops (f0T BPl ops n (bs0 vs)) 0:=by
  refine⟨by rw[b1];exact hwf,fun i hi=>by rw[b1];exact(b3 i hi).1,fun x hx=>?_,by rw[hw0];exact List.nodup_nil,fun x hx=>(by rw[hw0]at hx;cases hx),?_⟩
  ·rw[hw0,b1]
   simp
  ·rw[b1,Nat.zero_add,hB]
   exact f0l n fun j hj=>(b3 j hj).2.2
 have hdim:Z1.n s.q=c0i vs∧(Z1.ws s.q).length=(k0z vs).ws.length:=by
  have:=m0s (m:=BPl) (ops:=ops) (n:=n) (M:=M) (I:=fun q:Z1=>q.n=c0i vs∧q.ws.length=(k0z vs).ws.length) (fun q o h=>⟨(a0r q o).1.trans h.1,(a0r q o).2.trans h.2⟩) (fun q c h=>⟨(k0B q c).2.trans h.1,(k0B q c).1.trans h.2⟩) (S:=S) (f:=f) (s:=bs0 vs) ⟨rfl,rfl⟩
  rw[hf]at this
  exact this
 have hk:∀s t i (c:BPl.C),(CI (k0z vs).has n K B ops s t∧(Z1.ws s.q).length=(k0z vs).ws.length)→i<n→(s.th i).call=some c→(CI (k0z vs).has n K B ops (s.put i (l0q BPl (ops i) s.q (s.th i))) (t+1)∧(Z1.ws (s.put i (l0q BPl (ops i) s.q (s.th i))).q).length=(k0z vs).ws.length):=fun s t i c h hi hc=>
  ⟨h.1.step (by have:=h.2;omega) hops hi hc,j0t (m:=BPl) (I:=fun q:Z1=>q.ws.length=(k0z vs).ws.length) (fun q o h=>(a0r q o).2.trans h) (fun q c h=>(k0B q c).1.trans h) _ _ _ h.2⟩
 have hfin:=m0T (m:=BPl) (ops:=ops) (n:=n) (M:=M) (I:=fun s t=>CI (k0z vs).has n K B ops s t∧(Z1.ws s.q).length=(k0z vs).ws.length) hk (S:=S) (f:=f) (s:=bs0 vs) ⟨c0,by rw[b1]⟩
 rw[hf]at hfin
 obtain⟨hci,_⟩:=hfin
 have hphi:=hci.phi
 have hlive:y5 s.live n=0:=by
  rcases hd with h|h
  ·exact h
  ·simp only at h hphi
   omega
 have hnone:∀i,i<n→(s.th i).call=none:=fun i hi=>by
  have:=d0t.1 hlive i hi
  unfold GS.live at this
  cases e:(s.th i).call with
  | none=>rfl
  | some c=>rw[e]at this;cases this
 exact⟨hlive,hdim.1,hci.wf,fun i hi=>(hci.th i hi).al.trans ((hci.th i hi).c0 (hnone i hi)),fun i hi a ha=>((hci.th i hi).an a ha).imp id fun⟨e,h⟩=>⟨e,fun x hx=>h x (by rw[hdim.1];exact hx)⟩,fun x hx=>hci.mem x (by show x<Z1.n s.q;rw[hdim.1];exact hx),hci.nd,fun x hx=>by have:=hci.new x hx;rw[show Z1.n s.q=c0i vs from hdim.1]at this;exact this⟩
end
noncomputable section
variable {cs:List Frame}{main:Bool}{Stop:Goroutine→World→Prop}
variable{F:Fz}{w:World}
theorem l0v(X:World)(x y z u x' y' z' u':Value):((((X.alloc (.cells #[x,y,z,u] 29)).setCell ⟨X.heap.size,0,none⟩ x').setCell ⟨X.heap.size,1,none⟩ y').setCell ⟨X.heap.size,2,none⟩ z').setCell ⟨X.heap.size,3,none⟩ u'=X.alloc (.cells #[x',y',z',u'] 29):=by go_simp
def S3:Code:=Tryd.f9.body.getD .skip
def u03:=pC [] S3
def q0L:=pC [zt] S3
def q0N:=pC [zf] S3
def g0D:=pC [zf,zt] S3
def j0v:=pC [zf] q0N
def e0V:=pC [zf,zf,zt] S3
def g0E:=pC [zf] j0v
def c0h:=pC [zf,zf,zf,zt] S3
def g0F:=pC [zf] g0E
def q0M:=pC [zf,zf,zf,zf,zt] S3
theorem k0Q(args:Array Value):Frame.enter Tryd.prog 9 args .normal=(Go.Conc.base 9).at {tmps:=args++Array.replicate (27 - args.size) undef,defers:=[]} [.code u03]:=enter_at args Tryd.func9 rfl
theorem k0E:X0 9:=G1 Tryd.func9 rfl rfl
def f0L(s:Nat→Value):Array Value:= #[s 0,s 1,s 2,s 3,s 4,s 5,s 6,s 7,s 8,s 9,s 10,s 11,s 12,s 13,s 14,s 15,s 16,s 17,s 18,s 19,s 20,s 21,s 22,s 23,s 24,s 25,s 26]
theorem x0V{A:Array Value}(h:A.size=27):∃s,A=f0L s:=by
 obtain⟨s,hs,_⟩:=F3 A h
 exact⟨s,hs⟩
theorem u0Y{n:Nat}(hU:Q1 F n)(hn:n≤w.heap.size){mo:Int}{va ta sa:Option Addr}{vl vc tl tc sl sc:Nat}
 (h:∀A,D0 27 A [(0,.slice va vl vc),(1,.slice ta tl tc),(2,.slice sa sl sc),(3,vI mo),(8,vP w.heap.size 0)]→E0 Tryd.prog main F Stop (G (Frame.enter Tryd.prog 27 #[.slice va vl vc] .normal) ((bA 9 A [.inRegion (oC g0D) [1,2,3,4,5,6],.code j0v])::cs)) (w.alloc (.cells #[.slice none 0 0,.slice none 0 0,.slice none 0 0,.bool false] 29))):
 E0 Tryd.prog main F Stop (G (Frame.enter Tryd.prog 9 #[.slice va vl vc,.slice ta tl tc,.slice sa sl sc,vI mo] .normal) cs) w:=by
 rw[k0Q]
 walk_nrm
 refine ogW q0L q0N ?_
 simp only[q0L,S3,Tryd.f9,zz,Nat.reduceAdd]
 refine oA hU ?_
 refine I0<|ogW g0D j0v ?_
 simp only[g0D,S3,Tryd.f9,zz,Nat.reduceAdd]
 refine oT ?_
 refine oc i0h #[.slice va vl vc] ?_
 refine h _ ?_
 exact⟨rfl,rfl,rfl,rfl,rfl,rfl,trivial⟩
theorem u0Z{kb cb xb rb:Nat}{mo:Int}{va ta sa:Option Addr}{vl vc tl tc sl sc:Nat}{A:Array Value}(hA:D0 27 A [(0,.slice va vl vc),(1,.slice ta tl tc),(2,.slice sa sl sc),(3,vI mo),(8,vP rb 0)])
 (h:∀A,D0 27 A [(8,vP rb 0),(9,vP kb 0)]→E0 Tryd.prog main F Stop (G (Frame.enter Tryd.prog 28 #[.slice ta tl tc,.func (.func 51) #[] #[vP cb 0,vP xb 0],.slice sa sl sc,vI mo] .normal) ((bA 9 A [.inRegion (oC e0V) [4,5,6],.code g0E])::cs)) w):
 E0 Tryd.prog main F Stop (G ((bA 9 A [.inRegion (oC g0D) [1,2,3,4,5,6],.code j0v]).finish (.tuple #[vP kb 0,.func (.func 51) #[] #[vP cb 0,vP xb 0]])) cs) w:=by
 obtain⟨s,rfl,h0,h1,h2,h3,h8,_⟩:=D5 f0L hA
 simp only[f0L,h0,h1,h2,h3,h8]
 clear h0 h1 h2 h3 h8
 rw[Frame.finish_at]
 simp only[g0D,S3,Tryd.f9,zz,Nat.reduceAdd]
 walk_nrm
 iterate 5 refine oT ?_
 refine I0<|ogW e0V g0E ?_
 simp only[e0V,S3,Tryd.f9,zz,Nat.reduceAdd]
 iterate 4 refine oT ?_
 refine oc i0i #[.slice ta tl tc,.func (.func 51) #[] #[vP cb 0,vP xb 0],.slice sa sl sc,vI mo] ?_
 refine h _ ?_
 exact⟨rfl,rfl,rfl,trivial⟩
theorem u00{n:Nat}(hU:Q1 F n)(hn:n≤w.heap.size){kb rb:Nat}{aa oa:Option Addr}{al ac ol oz:Nat}{st:Bool}{A:Array Value}(hA:D0 27 A [(8,vP rb 0),(9,vP kb 0)])
 (h:∀A,D0 27 A [(8,vP rb 0),(11,vP w.heap.size 0)]→E0 Tryd.prog main F Stop (G (Frame.enter Tryd.prog 30 #[vP kb 0,.nilIface] .normal) ((bA 9 A [.inRegion (oC c0h) [1,2,3,4],.code g0F])::cs)) (w.alloc (.cells #[.slice aa al ac,.slice oa ol oz,.slice none 0 0,.bool st] 29))):
 E0 Tryd.prog main F Stop (G ((bA 9 A [.inRegion (oC e0V) [4,5,6],.code g0E]).finish (.agg #[.slice aa al ac,.slice oa ol oz,.slice none 0 0,.bool st])) cs) w:=by
 obtain⟨s,rfl,h8,h9,_⟩:=D5 f0L hA
 simp only[f0L,h8,h9]
 clear h8 h9
 rw[Frame.finish_at]
 simp only[e0V,S3,Tryd.f9,zz,Nat.reduceAdd]
 walk_nrm
 refine oA hU ?_
 (refine oW fun dd K hK=>?_;go_simp;refine hK _ _ ⟨⟨⟨0,g0Y (fun k=>P2 hU (show n≤w.heap.size by omega)) _ _ _ _⟩,fun e he=>by(have hm:=mem_listed he;clear he hK;simp[go_sem,storedEv]at hm;rcases hm with rfl|rfl|rfl|rfl<;>exact V0 _ _ ((fun k=>P2 hU (show n≤w.heap.size by omega)) _))⟩,?_⟩;clear hK K;simp only[setCell_at'];refine E0.at ?_ dd)
 have e1:=l0v w (.slice none 0 0) (.slice none 0 0) (.slice none 0 0) (.bool false) (.slice aa al ac) (.slice oa ol oz) (.slice none 0 0) (.bool st)
 rw[e1]
 clear e1
 refine I0<|ogW c0h g0F ?_
 simp only[c0h,S3,Tryd.f9,zz,Nat.reduceAdd]
 refine oT ?_
 refine oc w8 #[vP kb 0,.nilIface] ?_
 refine h _ ?_
 exact⟨rfl,rfl,rfl,trivial⟩
theorem u01{rb tb:Nat}{lv:Value}{A:Array Value}(hA:D0 27 A [(8,vP rb 0),(11,vP tb 0)])
 (h:∀A,D0 27 A [(8,vP rb 0),(11,vP tb 0)]→E0 Tryd.prog main F Stop (G (Frame.enter Tryd.prog 29 #[lv] .normal) ((bA 9 A [.inRegion (oC c0h) [2,3,4],.code g0F])::cs)) w):
 E0 Tryd.prog main F Stop (G ((bA 9 A [.inRegion (oC c0h) [1,2,3,4],.code g0F]).finish lv) cs) w:=by
 obtain⟨s,rfl,h8,h11,_⟩:=D5 f0L hA
 simp only[f0L,h8,h11]
 clear h8 h11
 rw[Frame.finish_at]
 simp only[c0h,S3,Tryd.f9,zz,Nat.reduceAdd]
 walk_nrm
 refine oc d0l #[lv] ?_
 refine h _ ?_
 exact⟨rfl,rfl,rfl,trivial⟩
theorem u02{rb tb:Nat}{aa oa:Option Addr}{al ac ol oz xl xc:Nat}{xa:Option Addr}{st:Bool}{y0 y1 y2 y3:Value}(hne:rb≠tb)(hR:d6 w rb y0 y1 y2 y3)(hT:d6 w tb (.slice aa al ac) (.slice oa ol oz) (.slice none 0 0) (.bool st))(hnr:∀k,¬held F ⟨rb,k,none⟩)(hnt:∀k,¬held F ⟨tb,k,none⟩){A:Array Value}(hA:D0 27 A [(8,vP rb 0),(11,vP tb 0)]){c:Frame}
 (h:E0 Tryd.prog main F Stop (G (c.finish (.agg #[.slice aa al ac,.slice oa ol oz,.slice xa xl xc,.bool st])) cs) (trW (w.setCell ⟨tb,2,none⟩ (.slice xa xl xc)) rb (.slice aa al ac) (.slice oa ol oz) (.slice xa xl xc) (.bool st))):
 E0 Tryd.prog main F Stop (G ((bA 9 A [.inRegion (oC c0h) [2,3,4],.code g0F]).finish (.slice xa xl xc)) (c::cs)) w:=by
 obtain⟨s,rfl,h8,h11,_⟩:=D5 f0L hA
 simp only[f0L,h8,h11]
 clear h8 h11
 rw[Frame.finish_at]
 simp only[c0h,S3,Tryd.f9,zz,Nat.reduceAdd]
 walk_nrm
 refine oT ?_
 (refine oW fun dd K hK=>?_;have hc2:=(hT.at dd).c2;have hz0:=(hT.at dd).z;go_simp;refine hK _ _ ⟨⟨⟨0,M1 rfl (hnt 2) _⟩,fun e he=>by(have hm:=mem_listed he;clear he hK;simp[go_sem,storedEv,hc2,hz0]at hm;subst hm;exact V0 _ _ (hnt 2))⟩,?_⟩;clear hK K hc2 hz0;rw[setCell_at'];refine E0.at ?_ dd)
 have hT2:d6 (w.setCell ⟨tb,2,none⟩ (.slice xa xl xc)) tb (.slice aa al ac) (.slice oa ol oz) (.slice xa xl xc) (.bool st):=⟨by rw[Y1 hT.o];rfl⟩
 have hR2:d6 (w.setCell ⟨tb,2,none⟩ (.slice xa xl xc)) rb y0 y1 y2 y3:=⟨(m0 _ _ _ hne).trans hR.o⟩
 generalize w.setCell ⟨tb,2,none⟩ (.slice xa xl xc)=W at hT2 hR2 h ⊢
 refine I0<|ogW q0M .ret ?_
 simp only[q0M,S3,Tryd.f9,zz,Nat.reduceAdd]
 (refine oW fun dd K hK=>?_;have hc0:=(hT2.at dd).c0;have hc1:=(hT2.at dd).c1;have hc2:=(hT2.at dd).c2;have hc3:=(hT2.at dd).c3;have hz0:=(hT2.at dd).z;go_simp;refine hK _ _ ⟨⟨⟨0,i3.refl _ _⟩,fun e he=>by(have hm:=mem_listed he;clear he hK;simp[go_sem,hc0,hc1,hc2,hc3,hz0]at hm;rcases hm with rfl|rfl|rfl|rfl<;>exact M0 _ _)⟩,E0.at ?_ dd⟩;clear hK K hc0 hc1 hc2 hc3 hz0)
 (refine oW fun dd K hK=>?_;have hc0:=(hR2.at dd).c0;have hc1:=(hR2.at dd).c1;have hc2:=(hR2.at dd).c2;have hc3:=(hR2.at dd).c3;have hz0:=(hR2.at dd).z;go_simp;refine hK _ _ ⟨⟨⟨0,g0Y hnr _ _ _ _⟩,fun e he=>by(have hm:=mem_listed he;clear he hK;simp[go_sem,storedEv,hc0,hc1,hc2,hc3,hz0]at hm;rcases hm with rfl|rfl|rfl|rfl<;>exact V0 _ _ (hnr _))⟩,?_⟩;clear hK K hc0 hc1 hc2 hc3 hz0;simp only[setCell_at'];refine E0.at ?_ dd)
 refine I0<|ogX ?_
 have hT3:=hR2.put (.slice aa al ac) (.slice oa ol oz) (.slice xa xl xc) (.bool st)
 change E0 _ _ _ _ _ (trW W rb (.slice aa al ac) (.slice oa ol oz) (.slice xa xl xc) (.bool st))
 generalize (trW W rb (.slice aa al ac) (.slice oa ol oz) (.slice xa xl xc) (.bool st))=V at hT3 h ⊢
 have hc0:=hT3.c0
 have hc1:=hT3.c1
 have hc2:=hT3.c2
 have hc3:=hT3.c3
 have hz0:=hT3.z
 refine i2 (fn:=Tryd.f9) (v:=.agg #[.slice aa al ac,.slice oa ol oz,.slice xa xl xc,.bool st]) rfl rfl Tryd.func9 (fun d=>by simp[results,Tryd.f9,go_sem,hc0,hc1,hc2,hc3,hz0]) (fun d e he=>by simp[results,Tryd.f9,go_sem,hc0,hc1,hc2,hc3,hz0]at he;rcases he with rfl|rfl|rfl|rfl<;>exact M0 _ _) ?_
 exact h
end
section
variable{w w' w0:World}{lb wb:Nat}
theorem w0N(a:Addr):¬held F0 a:=fun h=>by obtain⟨z,hz,_⟩:=h;cases hz
structure g0i(sv:Value)(main:Bool)(sb:Option Nat)(X:Nat→World→Prop):Prop where
 tick:∀(m:Nat) (w:World) (c:Frame) (cs:List Frame) (Stop:Goroutine→World→Prop),X m w→m<4611686018427387904→(∀w',X (m+1) w'→w'.heap.size=w.heap.size→(∀r,some r≠sb→w'.heap[r]? =w.heap[r]?)→E0 Tryd.prog main F0 Stop (G (c.finish (.tuple #[])) cs) w')→
  E0 Tryd.prog main F0 Stop (G (Frame.enter Tryd.prog 48 #[sv] .normal) (c::cs)) w
 keep:∀(m:Nat) (w w':World),X m w→(∀b,sb=some b→b<w.heap.size→w'.heap[b]? =w.heap[b]?)→X m w'
theorem w0J(main:Bool):g0i .nilIface main none fun _ _=>True where
 tick:=fun m w c cs Stop _ _ h=>D8 (h w trivial rfl fun _ _=>rfl)
 keep:=fun _ _ _ _ _=>trivial
structure WU(lb wb:Nat)(k:Z1)(w:World):Prop where
 wf:BWf k
 o:w.heap[lb]? =some (.cells #[vI (k.n:Nat),vL wb 0 k.ws.length k.ws.length] 62 (0,0))
 ws:a0U w wb k.ws
 t:Tab w
 ne:wb≠lb
 z:wb≠0
theorem WU.bh{k:Z1}(h:WU lb wb k w):BH lb wb k.n k.ws.length w:=⟨by simp[World.cell?,h.o],by simp[World.cell?,h.o],h.wf.l,h.wf.n⟩
theorem WU.same{k:Z1}(h:WU lb wb k w)(h1:w'.heap[lb]? =w.heap[lb]?)(h2:w'.heap[wb]? =w.heap[wb]?)(h3:w'.heap[0]? =w.heap[0]?):WU lb wb k w':=⟨h.wf,h1.trans h.o,h2.trans h.ws,h.t.same h3,h.ne,h.z⟩
theorem WU.low{k:Z1}(h:WU lb wb k w):lb<w.heap.size∧wb<w.heap.size∧0<w.heap.size:=by
 have h1:=(Array.getElem?_eq_some_iff.1 h.o).1
 exact⟨h1,(Array.getElem?_eq_some_iff.1 (show w.heap[wb]? =_ from h.ws)).1,by omega⟩
theorem WU.wc{k:Z1}(h:WU lb wb k w){i:Nat}(hi:i<k.ws.length):w.cell? ⟨wb,i,none⟩=some (wV (k.wd i)):=h.ws.c hi
theorem WU.hz{k:Z1}(h:WU lb wb k w)(i:Nat):HiZ k.n i (k.wd i):=fun j _ hj=>h.wf.hi _ _ hj
theorem WU.setW{k:Z1}(h:WU lb wb k w){i:Nat}{z:BitVec 64}(hz:∀j,k.n≤i*64+j→z.getLsbD j=false):WU lb wb {k with ws:=k.ws.set i z} (w.setCell ⟨wb,i,none⟩ (wV z)):=by
 refine⟨⟨by simpa using h.wf.l,h.wf.n,j0Q (n:=k.n) h.wf.hi hz⟩,?_,h.ws.set _ _,h.t.same (m0 _ _ _ (Ne.symm h.z)),h.ne,h.z⟩
 rw[m0 _ _ _ (Ne.symm h.ne)]
 have:=h.o
 simpa using this
structure AlB(lb wb:Nat)(sb:Option Nat)(X:Nat→World→Prop)(w0:World)(k:Z1)(m:Nat)(w:World):Prop where
 u:WU lb wb k w
 x:X m w
 sz:w0.heap.size≤w.heap.size
 o:∀r,r<w0.heap.size→some r≠sb→r≠wb→w.heap[r]? =w0.heap[r]?
def Apt(lb wb:Nat)(sb:Option Nat):Prop:=∀b,sb=some b→b≠lb∧b≠wb∧b≠0
section
variable{sv:Value}{main:Bool}{sb:Option Nat}{m:Nat}{X:Nat→World→Prop}{k:Z1}
theorem AlB.tick(h:AlB lb wb sb X w0 k m w)(hsb:Apt lb wb sb)(hx:X (m+1) w')(hs:w'.heap.size=w.heap.size)(ho:∀r,some r≠sb→w'.heap[r]? =w.heap[r]?):AlB lb wb sb X w0 k (m+1) w':=
 ⟨h.u.same (ho _ fun e=>(hsb _ e.symm).1 rfl) (ho _ fun e=>(hsb _ e.symm).2.1 rfl) (ho _ fun e=>(hsb _ e.symm).2.2 rfl),hx,by rw[hs];exact h.sz,fun r hr h1 h2=>(ho r h1).trans (h.o r hr h1 h2)⟩
theorem AlB.grow(S:g0i sv main sb X)(h:AlB lb wb sb X w0 k m w)(hsb:Apt lb wb sb)(hsz:w.heap.size≤w'.heap.size)(ho:∀r,r<w0.heap.size→w'.heap[r]? =w.heap[r]?)(h1:w'.heap[lb]? =w.heap[lb]?)(h2:w'.heap[wb]? =w.heap[wb]?)(h3:w'.heap[0]? =w.heap[0]?)(hb:∀b,sb=some b→b<w.heap.size→w'.heap[b]? =w.heap[b]?):AlB lb wb sb X w0 k m w':=
 ⟨h.u.same h1 h2 h3,S.keep m _ _ h.x hb,Nat.le_trans h.sz hsz,fun r hr h1 h2=>(ho r hr).trans (h.o r hr h1 h2)⟩
theorem AlB.setW(S:g0i sv main sb X)(h:AlB lb wb sb X w0 k m w)(hsb:Apt lb wb sb){i:Nat}{z:BitVec 64}(hz:∀j,k.n≤i*64+j→z.getLsbD j=false):AlB lb wb sb X w0 {k with ws:=k.ws.set i z} m (w.setCell ⟨wb,i,none⟩ (wV z)):=
 ⟨h.u.setW hz,S.keep m _ _ h.x fun b hb _=>m0 _ _ _ (hsb b hb).2.1,by rw[World.size_setCell];exact h.sz,fun r hr h1 h2=>(m0 _ _ _ h2).trans (h.o r hr h1 h2)⟩
def Z1.numsTo(s:Z1)(i:Nat):List Int:=(List.range i).flatMap fun k=>J5 s.n k (s.wd k)
theorem v9(s:Z1)(i:Nat):s.numsTo (i+1)=s.numsTo i++J5 s.n i (s.wd i):=by simp[Z1.numsTo,List.range_succ]
theorem a0H(s:Z1):s.numsTo s.ws.length=s.nums:=rfl
theorem k04(n k:Nat)(x:BitVec 64):(J5 n k x).length≤64:=by
 unfold J5
 rw[List.length_map]
 exact Nat.le_trans (List.length_filter_le _ _) (by simp)
theorem a0I(s:Z1)(i:Nat):(s.numsTo i).length≤64*i:=by
 induction i with
 | zero=>simp[Z1.numsTo]
 | succ i ih=>
   rw[v9,List.length_append]
   have:=k04 s.n i (s.wd i)
   omega
theorem e0p(S:g0i sv main sb X)(hsb:Apt lb wb sb){w1:World}(hlow:lb<w1.heap.size∧wb<w1.heap.size∧0<w1.heap.size)(hsl:w0.heap.size≤w1.heap.size)(hsbl:∀b,sb=some b→b<w1.heap.size)(hm:m+2000<4611686018427387904){c:Frame}{cs:List Frame}{Stop:Goroutine→World→Prop}
 (K:∀w' ov,AlB lb wb sb X w0 k (m+k.ws.length) w'→w'.ownsRow 0 3 1 ov k.nums.length (k.nums.map fun v=>vI v)→(∀b,ov.ownBlock=some b→w1.heap.size≤b)→w1.heap.size≤w'.heap.size→(∀r,r<w1.heap.size→some r≠sb→w'.heap[r]? =w1.heap[r]?)→E0 Tryd.prog main F0 Stop (G (c.finish ov) cs) w'):
 ∀(j i:Nat) (w:World) (A:Array Value) (ov:Value),i+j+1=k.ws.length→AlB lb wb sb X w0 k (m+i) w→w.ownsRow 0 3 1 ov (k.numsTo i).length ((k.numsTo i).map fun v=>vI v)→(∀b,ov.ownBlock=some b→w1.heap.size≤b)→w1.heap.size≤w.heap.size→(∀r,r<w1.heap.size→some r≠sb→w.heap[r]? =w1.heap[r]?)→
  D0 40 A [(0,vP lb 0),(1,sv),(5,ov),(6,vI (i:Nat)),(11,vI (k.ws.length:Nat)),(12,vI (i:Nat))]→
  E0 Tryd.prog main F0 Stop (G (Frame.enter Tryd.prog 48 #[sv] .normal) ((bA 30 A [.inRegion (oC a0f) [1],.code o9,.inBlock 1,.code x4,.inLoop l7,.inBlock 0,.code U4])::c::cs)) w:=by
 intro j
 induction j with
 | zero=>
   intro i w A ov hi h hrow hnew hs ho hA
   have hl:=h.u.wf.l
   have hn:=h.u.wf.n
   refine S.tick _ _ _ _ _ h.x (by omega) fun w2 hx hz hq=>?_
   have h2:=h.tick hsb hx hz hq
   have hrow2:w2.ownsRow 0 3 1 ov (k.numsTo i).length ((k.numsTo i).map fun v=>vI v):=E1 hrow fun b hb _=>hq b fun e=>by have:=hsbl b e.symm;have:=hnew b hb;omega
   have hw:i<k.ws.length:=by omega
   have hlen:=a0I k i
   have hbl:=a0Z (k.wd i)
   have hnum:=R9 (h.u.hz i)
   refine p0t h2.u.bh hw (h2.u.wc hw) hA fun A' hA'=>?_
   refine c0I (w0:=w2) (ov0:=ov) (ys:=k.numsTo (i+1)) K1 (Nat.zero_le _) (by omega) h2.u.low.2.2 h2.u.t (fun e=>by have:=hnew 0 e.symm;omega) (fun q _=>rfl) (fun ov' w' A3 hrow3 hwf' hm' hA3=>?_) (O5 (k.wd i)) (k.wd i) (k.numsTo i) ov w2 A' rfl (by rw[v9,hnum]) (by omega) hrow2 (k0r _) (L4.refl _ _) hA'
   have hnw:∀r,r<w1.heap.size→w'.heap[r]? =w2.heap[r]?:=fun r hr=>hm'.old r (by omega) fun e=>by have:=hnew r e.symm;omega
   have h3:AlB lb wb sb X w0 k (m+i+1) w':=h2.grow S hsb hm'.size (fun r hr=>hnw r (by omega)) (hnw _ hlow.1) (hnw _ hlow.2.1) (hnw _ hlow.2.2) fun b hb _=>hnw b (hsbl b hb)
   have hnew':∀b,ov'.ownBlock=some b→w1.heap.size≤b:=fun b hb=>by
    rcases hm'.blk with h1|⟨q,h1,h2⟩
    ·exact hnew b (h1 ▸ hb)
    ·rw[h1]at hb;cases hb;omega
   have hms:=hm'.size
   have ho':∀r,r<w1.heap.size→some r≠sb→w'.heap[r]? =w1.heap[r]?:=fun r hr hrs=>(hnw r hr).trans ((hq r hrs).trans (ho r hr hrs))
   refine n0y (by omega) (by omega) hA3 (K w' ov' ?_ ?_ hnew' (by omega) ho')
   ·have e:m+i+1=m+k.ws.length:=by omega
    rw[← e];exact h3
   ·have e:i+1=k.ws.length:=by omega
    rw[e,a0H]at hrow3
    exact hrow3
 | succ j ih=>
   intro i w A ov hi h hrow hnew hs ho hA
   have hl:=h.u.wf.l
   have hn:=h.u.wf.n
   refine S.tick _ _ _ _ _ h.x (by omega) fun w2 hx hz hq=>?_
   have h2:=h.tick hsb hx hz hq
   have hrow2:w2.ownsRow 0 3 1 ov (k.numsTo i).length ((k.numsTo i).map fun v=>vI v):=E1 hrow fun b hb _=>hq b fun e=>by have:=hsbl b e.symm;have:=hnew b hb;omega
   have hw:i<k.ws.length:=by omega
   have hlen:=a0I k i
   have hbl:=a0Z (k.wd i)
   have hnum:=R9 (h.u.hz i)
   refine p0t h2.u.bh hw (h2.u.wc hw) hA fun A' hA'=>?_
   refine c0I (w0:=w2) (ov0:=ov) (ys:=k.numsTo (i+1)) K1 (Nat.zero_le _) (by omega) h2.u.low.2.2 h2.u.t (fun e=>by have:=hnew 0 e.symm;omega) (fun q _=>rfl) (fun ov' w' A3 hrow3 hwf' hm' hA3=>?_) (O5 (k.wd i)) (k.wd i) (k.numsTo i) ov w2 A' rfl (by rw[v9,hnum]) (by omega) hrow2 (k0r _) (L4.refl _ _) hA'
   have hnw:∀r,r<w1.heap.size→w'.heap[r]? =w2.heap[r]?:=fun r hr=>hm'.old r (by omega) fun e=>by have:=hnew r e.symm;omega
   have h3:AlB lb wb sb X w0 k (m+i+1) w':=h2.grow S hsb hm'.size (fun r hr=>hnw r (by omega)) (hnw _ hlow.1) (hnw _ hlow.2.1) (hnw _ hlow.2.2) fun b hb _=>hnw b (hsbl b hb)
   have hnew':∀b,ov'.ownBlock=some b→w1.heap.size≤b:=fun b hb=>by
    rcases hm'.blk with h1|⟨q,h1,h2⟩
    ·exact hnew b (h1 ▸ hb)
    ·rw[h1]at hb;cases hb;omega
   have hms:=hm'.size
   have ho':∀r,r<w1.heap.size→some r≠sb→w'.heap[r]? =w1.heap[r]?:=fun r hr hrs=>(hnw r hr).trans ((hq r hrs).trans (ho r hr hrs))
   refine n0x (by omega) (by omega) hA3 fun A4 hA4=>ih (i+1) w' A4 ov' (by omega) h3 hrow3 hnew' (by omega) ho' hA4
theorem h0b(S:g0i sv main sb X)(hsb:Apt lb wb sb)(h:AlB lb wb sb X w0 k m w)(hsbl:∀b,sb=some b→b<w.heap.size)(hm:m+2000<4611686018427387904){c:Frame}{cs:List Frame}{Stop:Goroutine→World→Prop}
 (K:∀w' ov,AlB lb wb sb X w0 k (m+k.ws.length) w'→w'.ownsRow 0 3 1 ov k.nums.length (k.nums.map fun v=>vI v)→(∀b,ov.ownBlock=some b→w.heap.size≤b)→w.heap.size≤w'.heap.size→(∀r,r<w.heap.size→some r≠sb→w'.heap[r]? =w.heap[r]?)→E0 Tryd.prog main F0 Stop (G (c.finish ov) cs) w'):
 E0 Tryd.prog main F0 Stop (G (Frame.enter Tryd.prog 30 #[vP lb 0,sv] .normal) (c::cs)) w:=by
 by_cases h0:k.ws.length=0
 ·refine n0w h.u.bh h0 (K w _ (by rw[h0];exact h) ?_ (fun b hb=>by simp[Value.ownBlock]at hb) (Nat.le_refl _) fun _ _ _=>rfl)
  have e:k.nums=[]:=by rw[← a0H,h0];rfl
  rw[e]
  exact World.ownsRow_nil _ _ _ _
 ·refine t0i h.u.bh (by omega) fun A hA=>?_
  exact e0p S hsb h.u.low h.sz hsbl hm K (k.ws.length - 1) 0 w A _ (by omega) h (World.ownsRow_nil _ _ _ _) (fun b hb=>by simp[Value.ownBlock]at hb) (Nat.le_refl _) (fun _ _ _=>rfl) hA
theorem h0g{lv:Value}{xs:List Int}(hl:xs.length≤70000)(hrow:w.ownsRow 0 3 1 lv xs.length (xs.map fun v=>vI v)){c:Frame}{cs:List Frame}{Stop:Goroutine→World→Prop}
 (K:∀w' ov,w'.ownsRow 0 2 1 ov xs.length (xs.map fun v=>vI v)→(∀b,ov.ownBlock=some b→w.heap.size≤b)→w.heap.size≤w'.heap.size→(∀r,r<w.heap.size→w'.heap[r]? =w.heap[r]?)→E0 Tryd.prog main F0 Stop (G (c.finish ov) cs) w'):
 E0 Tryd.prog main F0 Stop (G (Frame.enter Tryd.prog 29 #[lv] .normal) (c::cs)) w:=by
 obtain⟨la,lc,rfl⟩:=b0R hrow
 by_cases h0:xs.length=0
 ·refine o0C fun A6 hA6=>?_
  have hA7:D0 18 A6 [(3,.slice none 0 0),(6,.slice la xs.length lc),(7,vI (xs.length:Nat)),(8,vI (xs.length:Nat))]:=by rw[h0]at hA6 ⊢;exact hA6
  refine o0D hA7 (K w _ ?_ (fun b hb=>by simp[Value.ownBlock]at hb) (Nat.le_refl _) fun _ _=>rfl)
  have hy0:xs=[]:=List.length_eq_zero_iff.1 h0
  rw[hy0]
  exact World.ownsRow_nil _ _ _ _
 ·rcases hrow.2 with⟨e,_⟩|⟨gb,lc,cur,e,q1,q2,q3,q4,q5,q6⟩
  ·simp only[Value.slice.injEq]at e
   omega
  ·simp only[Value.slice.injEq]at e
   obtain⟨rfl,_,rfl⟩:=e
   refine o0C fun A6 hA6=>?_
   refine k0t (w0:=w) (xs:=xs) K1 (Nat.zero_le _) (by omega) (fun j x hj=>?_) (fun lv w2 A7 hr2 hwf2 hm2 hA7=>?_) xs.length 0 _ w A6 (by omega) (World.ownsRow_nil _ _ _ _) (k0r _) (L4.refl _ _) hA6
   ·obtain⟨b2,cap2,a1,a2⟩:=G8 hrow (k:=j) (x:=vI x) (by rw[List.getElem?_map,hj];rfl)
    cases a1
    exact a2.c
   ·refine o0D hA7 (K w2 lv hr2 (fun b hb=>?_) hm2.size fun r hr=>hm2.old r hr (by simp[Value.ownBlock]))
    rcases hm2.blk with h1|⟨g,h1,h2⟩
    ·rw[h1]at hb;simp[Value.ownBlock]at hb
    ·rw[h1]at hb;cases hb;exact h2
end
end
section
variable{F:Fz}{w w':World}
def e0d(w:World):Prop:=∃c e z,w.heap[0]? =some (.cells c e z)∧∀k,k<64→c[k]? =some (.int .u8 ((deB.getD k 0:Nat):Int))
def j0s(n:Nat)(xs:List Int):Z1:=⟨n,xs.foldl (a0v n) (List.replicate ((n+63) / 64) 0#64)⟩
theorem m0l{n:Nat}(hn:n≤65536)(xs:List Int):BWf (j0s n xs) where
 l:=by simp[j0s,e0J]
 n:=hn
 hi:=n0m _ _ (p0n _ _)
theorem f0m{sa:Option Addr}{sc n nn:Nat}{xs:List Int}(hU:Q1 F nn)(hn:nn≤w.heap.size)(hr:a0R w sa xs)(hl:xs.length<9223372036854775808)(hn6:n≤65536)(hg:e0d w){A:Array Value}(hA:D0 51 A [(0,.slice sa xs.length sc),(4,vI (n:Nat))]){c:Frame}{cs:List Frame}{main:Bool}{Stop:Goroutine→World→Prop}
 (K:∀w' g,BU (w.heap.size+1) (w.heap.size+4) (w.heap.size+3) (w.heap.size+2) ⟨j0s n xs,w.heap.size,g⟩ w'→w'.heap.size=w.heap.size+5→(∀r,r<w.heap.size→w'.heap[r]? =w.heap[r]?)→E0 Tryd.prog main F Stop (G (c.finish (.tuple #[vP (w.heap.size+1) 0,.func (.func 51) #[] #[vP (w.heap.size+4) 0,vP (w.heap.size+2) 0]])) cs) w'):
 E0 Tryd.prog main F Stop (G (Frame.enter Tryd.prog 11 #[vI (n:Nat)] .normal) (fMa A::c::cs)) w:=by
 have hnew:∀q,w.heap.size≤q→∀k,¬held F ⟨q,k,none⟩:=fun q hq k=>P2 hU (show nn≤q by omega)
 refine n08 hU hn hn6 rfl ?_
 have hx0:((w.alloc (.cells (madeCells #[.int .u64 0] ((n+63) / 64)) 113)).alloc (.cells #[vI (n:Nat),vL w.heap.size 0 ((n+63) / 64) ((n+63) / 64)] 62)).heap.size=w.heap.size+2:=by simp
 have hx1:∀r,r<w.heap.size→((w.alloc (.cells (madeCells #[.int .u64 0] ((n+63) / 64)) 113)).alloc (.cells #[vI (n:Nat),vL w.heap.size 0 ((n+63) / 64) ((n+63) / 64)] 62)).heap[r]? =w.heap[r]?:=fun r hr=>by rw[o0 _ _ (by simp;omega),o0 _ _ hr]
 have hx2:((w.alloc (.cells (madeCells #[.int .u64 0] ((n+63) / 64)) 113)).alloc (.cells #[vI (n:Nat),vL w.heap.size 0 ((n+63) / 64) ((n+63) / 64)] 62)).heap[w.heap.size+1]? =some (.cells #[vI (n:Nat),vL w.heap.size 0 ((n+63) / 64) ((n+63) / 64)] 62 (0,0)):=by
  have:=heap_alloc_new (w.alloc (.cells (madeCells #[.int .u64 0] ((n+63) / 64)) 113)) (.cells #[vI (n:Nat),vL w.heap.size 0 ((n+63) / 64) ((n+63) / 64)] 62)
  simpa using this
 have hx3:a0U ((w.alloc (.cells (madeCells #[.int .u64 0] ((n+63) / 64)) 113)).alloc (.cells #[vI (n:Nat),vL w.heap.size 0 ((n+63) / 64) ((n+63) / 64)] 62)) w.heap.size (List.replicate ((n+63) / 64) 0#64):=by
  show(World.heap _)[w.heap.size]? =_
  rw[o0 _ _ (by simp),heap_alloc_new]
  congr 2
  apply Array.toList_inj.1
  rw[toList_madeCells_one]
  simp[wV]
 generalize ((w.alloc (.cells (madeCells #[.int .u64 0] ((n+63) / 64)) 113)).alloc (.cells #[vI (n:Nat),vL w.heap.size 0 ((n+63) / 64) ((n+63) / 64)] 62))=X at hx0 hx1 hx2 hx3 ⊢
 refine y0I hU (by omega) hA fun A2 hA2=>?_
 rw[hx0]at hA2
 have hY0:(X.alloc (.cells #[vP (w.heap.size+1) 0] 33)).heap.size=w.heap.size+3:=by simp[hx0]
 have hY1:∀r,r<w.heap.size+2→(X.alloc (.cells #[vP (w.heap.size+1) 0] 33)).heap[r]? =X.heap[r]?:=fun r hr=>o0 _ _ (by omega)
 have hY2:(X.alloc (.cells #[vP (w.heap.size+1) 0] 33)).heap[w.heap.size+2]? =some (.cells #[vP (w.heap.size+1) 0] 33 (0,0)):=by
  rw[← hx0];exact heap_alloc_new _ _
 generalize X.alloc (.cells #[vP (w.heap.size+1) 0] 33)=Y at hY0 hY1 hY2 ⊢
 have hlo:∀b o,sa=some ⟨b,o,none⟩→0<xs.length→b<w.heap.size:=fun b o e hp=>by
  obtain⟨b2,o2,e2,h2⟩:=hr 0 xs[0] (List.getElem?_eq_getElem hp)
  rw[e]at e2
  simp only[Option.some.injEq,Addr.mk.injEq]at e2
  rw[e2.1]
  exact O6 h2
 have hrY:a0R Y sa xs:=hr.same fun r hr=>(hY1 r (by omega)).trans (hx1 r hr)
 have hcY:Y.cell? ⟨w.heap.size+2,0,none⟩=some (vP (w.heap.size+1) 0):=by simp[World.cell?,hY2]
 have hoY:Y.heap[w.heap.size+1]? =_:=(hY1 _ (by omega)).trans hx2
 have hBY:BH (w.heap.size+1) w.heap.size n ((n+63) / 64) Y:=⟨by simp[World.cell?,hoY],by simp[World.cell?,hoY],rfl,hn6⟩
 have hWY:a0U Y w.heap.size (List.replicate ((n+63) / 64) 0#64):=(hY1 _ (by omega)).trans hx3
 refine p0x (w0:=Y) (n:=n) (lb:=w.heap.size+1) (xb:=w.heap.size+2) (wb:=w.heap.size) (sc:=sc) (xs:=xs) hl hlo hrY (Nat.le_refl _) (by omega) (by omega) (hnew _ (Nat.le_refl _)) (List.replicate ((n+63) / 64) 0#64) (m:=(n+63) / 64) (by simp) (fun W A3 hB hc hs ho hW hA3=>?_) xs.length 0 Y A2 _ (by omega) (by simp) rfl hBY hcY rfl (fun _ _=>rfl) hWY hA2
 have hWs:W.heap.size=w.heap.size+3:=hs.trans hY0
 refine y0L hU (by omega) hc hA3 ?_
 obtain⟨tc,te,tz,hg1,hg2⟩:=hg
 have h0:0<w.heap.size:=(D4 hg1)
 have hZ0:∀r,r<w.heap.size+3→((W.alloc (.cells #[.func (.func 18) #[vP (w.heap.size+1) 0] #[],.func (.func 19) #[vP (w.heap.size+1) 0] #[],.func (.func 20) #[vP (w.heap.size+1) 0] #[]] 58)).alloc (.cells #[vL W.heap.size 0 3 3] 116)).heap[r]? =W.heap[r]?:=fun r hr=>by
  rw[o0 _ _ (by simp;omega),o0 _ _ (by omega)]
 have hold:∀r,r<w.heap.size→W.heap[r]? =w.heap[r]?:=fun r hr=>(ho r (by omega)).trans ((hY1 r (by omega)).trans (hx1 r hr))
 have hK:=K ((W.alloc (.cells #[.func (.func 18) #[vP (w.heap.size+1) 0] #[],.func (.func 19) #[vP (w.heap.size+1) 0] #[],.func (.func 20) #[vP (w.heap.size+1) 0] #[]] 58)).alloc (.cells #[vL W.heap.size 0 3 3] 116)) (.cells tc te tz) ⟨m0l hn6 xs,?_,?_,?_,?_,?_,?_,⟨tc,te,tz,rfl,hg2⟩,by show w.heap.size≠_;omega,by show w.heap.size≠_;omega,by show w.heap.size≠_;omega,by show w.heap.size≠_;omega,by show w.heap.size≠0;omega⟩ (by simp[hWs]) fun r hr=>(hZ0 r (by omega)).trans (hold r hr)
 ·rw[hWs]at hK ⊢
  exact hK
 ·rw[hZ0 _ (by omega),ho _ (by omega),hoY]
  simp[BS.m,j0s,e0J]
 ·rw[hZ0 _ (by simp)]
  exact hW
 ·have:=heap_alloc_new (W.alloc (.cells #[.func (.func 18) #[vP (w.heap.size+1) 0] #[],.func (.func 19) #[vP (w.heap.size+1) 0] #[],.func (.func 20) #[vP (w.heap.size+1) 0] #[]] 58)) (.cells #[vL W.heap.size 0 3 3] 116)
  simpa [hWs]using this
 ·have:=heap_alloc_new W (.cells #[.func (.func 18) #[vP (w.heap.size+1) 0] #[],.func (.func 19) #[vP (w.heap.size+1) 0] #[],.func (.func 20) #[vP (w.heap.size+1) 0] #[]] 58)
  rw[hWs]at this
  rw[o0 _ _ (by simp[hWs])]
  exact this
 ·rw[hZ0 _ (by omega),ho _ (by omega),hY2]
 ·rw[hZ0 _ (by omega),hold _ h0,hg1]
theorem o0e{va:Option Addr}{vc nn:Nat}{vs:List Int}(hU:Q1 F nn)(hn:nn≤w.heap.size)(hr:a0R w va vs)(hvc:vs.length≤vc)(hl:vs.length<9223372036854775808)(hg:e0d w){c:Frame}{cs:List Frame}{main:Bool}{Stop:Goroutine→World→Prop}
 (K:∀w' g,BU (w.heap.size+1) (w.heap.size+4) (w.heap.size+3) (w.heap.size+2) ⟨k0z vs,w.heap.size,g⟩ w'→w'.heap.size=w.heap.size+5→(∀r,r<w.heap.size→w'.heap[r]? =w.heap[r]?)→E0 Tryd.prog main F Stop (G (c.finish (.tuple #[vP (w.heap.size+1) 0,.func (.func 51) #[] #[vP (w.heap.size+4) 0,vP (w.heap.size+2) 0]])) cs) w'):
 E0 Tryd.prog main F Stop (G (Frame.enter Tryd.prog 27 #[.slice va vs.length vc] .normal) (c::cs)) w:=by
 cases vs with
 | nil=>
   refine w0D fun A hA=>?_
   exact f0m (xs:=[]) (n:=0) hU hn (fun i x h=>by simp at h) (by simp) (by omega) hg hA K
 | cons v xs=>
   obtain⟨b,o,rfl,hc⟩:=hr 0 v rfl
   simp only[List.length_cons]at hvc hl ⊢
   refine y0H (n:=c0i (v::xs)) hc hvc ?_ fun A hA=>?_
   ·have hb:=show((c0i (v::xs):Nat):Int)=min (max v 0) 65536 by unfold c0i;simp only[List.headD_cons];omega
    rw[hb]
    split<;>split<;>omega
   ·refine f0m (xs:=xs) hU hn (fun i x h=>?_) (by omega) (m0w _) hg hA K
    obtain⟨b2,o2,e2,h2⟩:=hr (i+1) x (by simpa using h)
    simp only[Option.some.injEq,Addr.mk.injEq]at e2
    obtain⟨rfl,rfl,_⟩:=e2
    have hi:i<xs.length:=(List.getElem?_eq_some_iff.1 h).1
    refine⟨b,o+1,by rw[if_neg (by omega)],?_⟩
    rw[← h2]
    congr 2
    omega
end
section
variable{An:O2}{w w':World}
theorem Z8.later3{N N':Nat→Prop}{n tb o tl:Nat}{ta:Option Addr}{oa:Nat→Option Addr}{ol oc:Nat→Nat}{ops:Nat→List I6}{S:List Int}{sa:Option Addr}(h:Z8 w N n tb o tl ta oa ol oc ops S sa)(hs:w.heap.size≤w'.heap.size)(hold:∀r,r<w.heap.size→w'.heap[r]? =w.heap[r]?)(hN:∀r,N' r→N r∨w.heap.size≤r):Z8 w' N' n tb o tl ta oa ol oc ops S sa:=by
 have hc:∀{a:Addr} {v:Value},w.cell? a=some v→w'.cell? a=some v∧w'.frozen? a=w.frozen? a:=fun{a v} h=>by
  obtain⟨c,e,z,ho⟩:=X4 h
  have e1:=hold _ (D4 ho)
  exact⟨by rw[← h];unfold World.cell?;simp only[e1],by unfold World.frozen?;simp only[e1]⟩
 refine⟨h.hn,h.hta,fun hp=>by have:=h.htb hp;omega,fun j hj=>?_,h.hlen,fun j hj k x hx=>?_,h.hsl,fun hp=>?_⟩
 ·obtain⟨h1,h2,h3⟩:=h.hth j hj
  exact⟨(hc h1).1,(hc h1).2.trans h2,h3⟩
 ·obtain⟨opb,oo,h1,h2,f0,f1,f2,f3,g0,g1,g2,g3⟩:=h.hop j hj k x hx
  obtain⟨c,e,z,ho⟩:=X4 f0
  have hlt:=(D4 ho)
  exact⟨opb,oo,h1,fun hn=>by rcases hN _ hn with h3|h3;exact h2 h3;simp only at hlt;omega,(hc f0).1,(hc f1).1,(hc f2).1,(hc f3).1,(hc f0).2.trans g0,(hc f1).2.trans g1,(hc f2).2.trans g2,(hc f3).2.trans g3⟩
 ·obtain⟨sb,so,c,e,z,h1,h2,h3,h4⟩:=h.hS hp
  have hlt:=(D4 h3)
  exact⟨sb,so,c,e,z,h1,fun hn=>by rcases hN _ hn with h5|h5;exact h2 h5;omega,(hold _ hlt).trans h3,h4⟩
theorem d0X{base n size:Nat}{e:TypeId}{v:Value}{xs:List Value}(h:w.ownsRow base e size v n xs)(hs:∀b c,w.heap[b]? =some (.cells c e (0,0))→base≤b→w'.heap[b]? =w.heap[b]?):w'.ownsRow base e size v n xs:=by
 refine⟨h.1,?_⟩
 rcases h.2 with h2|⟨b,cap,cur,rfl,h3,h4,h5⟩
 ·exact .inl h2
 ·exact .inr ⟨b,cap,cur,rfl,h3,(hs b cur h4 h3).trans h4,h5⟩
def o0J(w:World)(r:Nat):Prop:=∀c e z,w.heap[r]?≠some (.cells c e z)
structure f0s(w:World)(n:Nat)(ans:Nat→List s7)(state:List Int)(order:List Nat)(aa:Nat)(rows:Nat→Value)(av:Nat→List SA)(ov sv:Value)(w':World):Prop where
 size:w.heap.size≤w'.heap.size
 old:∀(r:Nat) (c:Array Value) (e:TypeId) (z:Nat×Nat),w.heap[r]? =some (.cells c e z)→w'.heap[r]? =some (.cells c e z)
 arr:∃c,w'.heap[aa]? =some (.cells c 55 (0,0))∧c.size=n∧∀i,i<n→c[i]? =some (rows i)
 row:∀i,i<n→(av i).map SA.an=ans i∧(av i).length≤65536∧w'.ownsRow 0 49 3 (rows i) (av i).length (((av i).map fun a=>a.v.cells).flatten)∧∀a∈av i,SAU a w'
 nwa:o0J w aa
 nwr:∀i,i<n→∀r,(rows i).ownBlock=some r→o0J w r
 nwl:∀i,i<n→∀a∈av i,∀r,a.row.ownBlock=some r→o0J w r
 dj:∀i j,i<n→j<n→i≠j→∀r,(rows i).ownBlock=some r→(rows j).ownBlock≠some r
 ord:w'.ownsRow w.heap.size 3 1 ov order.length (order.map fun i:Nat=>Value.int .i64 i)
 st:w'.ownsRow w.heap.size 2 1 sv state.length (state.map fun v=>vI v)
def k0w(lb cb fb xb:Nat):Abs (L2 lb cb fb xb) BPl:=⟨BS.k,BeC.c,SA.an⟩
theorem o0R(lb cb fb xb:Nat):(k0w lb cb fb xb).Ok where
 beg:=fun s i o y h=>by
  obtain⟨y1,y2⟩:=y
  have h2:=h.2.2
  cases y2<;>exact h2
 stp:=fun s c y h=>by
  obtain⟨y1,y2⟩:=y
  have h2:=h.2.2
  cases y2<;>exact h2
theorem n0G(k:Z1)(h:BWf k):k.nums.length≤65600:=by
 rw[← a0H]
 have:=a0I k k.ws.length
 have:=h.l
 have:=h.n
 omega
section
variable{L:X9}{p:Par}{g:S0}{P:L.S→Prop}
theorem i0W(hb:∀s i o y,L.beg s i o y→P s→P y.1){i:Nat}{a b:L.S×Thr L}(h:Adv L p i a b):P a.1→P b.1:=by
 induction h with
 | done _ _=>exact id
 | live _ h2=>exact hb _ _ _ _ h2
 | imm _ h2 _ ih=>exact fun h=>ih (hb _ _ _ _ h2 h)
theorem p0W(hb:∀s i o y,L.beg s i o y→P s→P y.1)(hs:∀s c y,L.stp s c y→P s→P y.1){i:Nat}{a b:L.S×Thr L}(h:Stp L p i a b):P a.1→P b.1:=by
 cases h with
 | live _ h2=>exact hs _ _ _ h2
 | ans _ h2 h3=>exact fun h=>i0W hb h3 (hs _ _ _ h2 h)
theorem e0U(hb:∀s i o y,L.beg s i o y→P s→P y.1):∀(i:Nat) (x y:OX L),a0P (I1 L p g) i x y→P x.s→P y.s
 | 0,x,y,h,hp=>by
   have h:y=x:=h
   rw[h];exact hp
 | i+1,x,z,⟨y,h1,h2⟩,hp=>i0W hb h2.1 (e0U hb i x y h1 hp)
theorem o0A(hb:∀s i o y,L.beg s i o y→P s→P y.1)(hs:∀s c y,L.stp s c y→P s→P y.1){n M:Nat}{s t:OX L×List Nat}{i:Int}(h:a0T (I1 L p g) n M s i t)(hp:P s.1.s):P t.1.s:=by
 unfold a0T at h
 split at h
 ·exact p0W hb hs h.1.1 hp
 ·rw[h];exact hp
theorem b0Y(hb:∀s i o y,L.beg s i o y→P s→P y.1)(hs:∀s c y,L.stp s c y→P s→P y.1){n M:Nat}:∀(l:List Int) (s t:OX L×List Nat),O4 (I1 L p g) n M l s t→P s.1.s→P t.1.s
 | [],s,t,h,hp=>by
   have h:t=s:=h
   rw[h];exact hp
 | i::l,s,t,⟨u,h1,h2⟩,hp=>b0Y hb hs l u t h2 (o0A hb hs h1 hp)
theorem i0H{Z:R2}{P:Z.X→Prop}{n M:Nat}(ht:∀l s t,O4 Z n M l s t→P s.1→P t.1){s t:Z.X×List Nat}(h:a9 Z n M s t):P s.1→P t.1:=by
 induction h with
 | done _=>exact id
 | more _ _ h3 _ ih=>exact fun hp=>ih (ht _ _ _ h3 hp)
theorem g05(hb:∀s i o y,L.beg s i o y→P s→P y.1)(hs:∀s c y,L.stp s c y→P s→P y.1){n M:Nat}{S:List Int}{x0:OX L}{t:OX L×List Nat}(h:a0S (I1 L p g) n M S x0 t)(hp:P x0.s):P t.1.s:=by
 obtain⟨x1,h1,s,h2,h3⟩:=h
 exact i0H (Z:=I1 L p g) (P:=fun x:OX L=>P x.s) (b0Y hb hs) h3 (b0Y hb hs _ _ _ h2 (e0U hb _ _ _ h1 hp))
end
theorem k0y{va:Option Addr}{vc:Nat}{vs:List Int}(hv:a0R w va vs)(hvc:vs.length≤vc)(hvl:vs.length<9223372036854775808)(hg:e0d w)
 {n tb o tl tc sc M:Nat} {mo:Int} {ta sa:Option Addr} {oa:Nat→Option Addr} {ol oc:Nat→Nat} {ops:Nat→List I6} {S:List Int} (hI:Z8 w (fun r=>r=0) n tb o tl ta oa ol oc ops S sa) (hM:min (max mo 0) 1048576=(M:Int)) {c:Frame} {cs:List Frame} {Stop:Goroutine→World→Prop}
 (hP:∀(s:GS BPl) order,T7 n M (s,order)→(∃k,∀f,k≤f→e09 ops n M S f (bs0 vs)=(s,order))→
   ∀aa rows av oa' oc' xa xc w',f0s w n (fun i=>(s.th i).ans) (Z1.nums s.q) order aa rows av (.slice oa' order.length oc') (.slice xa (Z1.nums s.q).length xc) w'→
    Bes An Tryd.prog Stop (G (c.finish (.agg #[vL aa 0 n n,.slice oa' order.length oc',.slice xa (Z1.nums s.q).length xc,.bool (decide (0<y5 s.live n))])) cs) w'):
 Bes An Tryd.prog Stop (G (Frame.enter Tryd.prog 9 #[.slice va vs.length vc,.slice ta tl tc,.slice sa S.length sc,vI mo] .normal) (c::cs)) w:=by
 have hF:∀a:Addr,¬held F0 a:=w0N
 have hrow0:∀r,r<w.heap.size→(w.alloc (.cells #[.slice none 0 0,.slice none 0 0,.slice none 0 0,.bool false] 29)).heap[r]? =w.heap[r]?:=fun r hr=>o0 _ _ hr
 have hs0:(w.alloc (.cells #[.slice none 0 0,.slice none 0 0,.slice none 0 0,.bool false] 29)).heap.size=w.heap.size+1:=by simp
 have htr:d6 (w.alloc (.cells #[.slice none 0 0,.slice none 0 0,.slice none 0 0,.bool false] 29)) w.heap.size (.slice none 0 0) (.slice none 0 0) (.slice none 0 0) (.bool false):=⟨heap_alloc_new _ _⟩
 have h00:0<w.heap.size:=by
  obtain⟨_,_,_,h,_⟩:=hg
  exact(D4 h)
 have hg1:e0d (w.alloc (.cells #[.slice none 0 0,.slice none 0 0,.slice none 0 0,.bool false] 29)):=by
  obtain⟨c0,e0,z0,h1,h2⟩:=hg
  exact⟨c0,e0,z0,(hrow0 0 h00).trans h1,h2⟩
 generalize hW0:w.alloc (.cells #[.slice none 0 0,.slice none 0 0,.slice none 0 0,.bool false] 29)=w0 at hrow0 hs0 htr hg1
 refine W5 (F:=F0) (Stop:=fun a u=>∃A g,a=G (Frame.enter Tryd.prog 28 #[.slice ta tl tc,.func (.func 51) #[] #[vP (w.heap.size+5) 0,vP (w.heap.size+3) 0],.slice sa S.length sc,vI mo] .normal) ((bA 9 A [.inRegion (oC e0V) [4,5,6],.code g0E])::c::cs)∧
  D0 27 A [(8,vP w.heap.size 0),(9,vP (w.heap.size+2) 0)]∧BU (w.heap.size+2) (w.heap.size+5) (w.heap.size+4) (w.heap.size+3) ⟨k0z vs,w.heap.size+1,g⟩ u∧u.heap.size=w.heap.size+6∧(∀r,r<w.heap.size+1→u.heap[r]? =w0.heap[r]?))
  (u0Y K1 (Nat.zero_le _) fun A hA=>?_) fun a W hS=>?_
 ·rw[hW0]
  refine o0e K1 (Nat.zero_le _) (hv.same hrow0) hvc hvl hg1 fun w1 g k1 k2 k3=>?_
  rw[hs0]at k1 k2 k3 ⊢
  exact u0Z hA fun A2 hA2=>.stop fun d=>⟨A2,g,rfl,hA2,k1.same fun _ _=>rfl,k2,k3⟩
 obtain⟨A,g,rfl,hA,hQ,hWs,hWo⟩:=hS
 have hold1:∀r,r<w.heap.size→W.heap[r]? =w.heap[r]?:=fun r hr=>(hWo r (by omega)).trans (hrow0 r hr)
 have hrb1:W.heap[w.heap.size]? =some (.cells #[.slice none 0 0,.slice none 0 0,.slice none 0 0,.bool false] 29 (0,0)):=(hWo _ (by omega)).trans htr.o
 have hNr:∀r,BR (w.heap.size+2) (w.heap.size+5) (w.heap.size+4) (w.heap.size+3) ⟨k0z vs,w.heap.size+1,g⟩ r→r=0∨w.heap.size+1≤r:=fun r hr=>by
  rcases hr with rfl|rfl|rfl|rfl|rfl|rfl<;>first|(exact .inl rfl)|(refine .inr ?_;first|omega|exact Nat.le_refl _)
 have hI1:Z8 W (BR (w.heap.size+2) (w.heap.size+5) (w.heap.size+4) (w.heap.size+3) ⟨k0z vs,w.heap.size+1,g⟩) n tb o tl ta oa ol oc ops S sa:=hI.later3 (by omega) hold1 fun r hr=>(hNr r hr).imp id (by omega)
 refine l05 (L:=L2 (w.heap.size+2) (w.heap.size+5) (w.heap.size+4) (w.heap.size+3)) (o0X _ _ _ _) (s0:=⟨k0z vs,w.heap.size+1,g⟩) hQ hI1 hM ?_
 intro gt p p' t u oa' oc' hgn hpn hpo hOk hrel hpn' hpo' hpa hU hord hnR hsz hkeep hpI
 obtain⟨hd,hover⟩:=k08 (ab:=k0w _ _ _ _) (o0R _ _ _ _) hOk (fun j hj=>⟨rfl,rfl⟩) hrel
 have htg:t.1.s.g=g:=g05 (L:=L2 (w.heap.size+2) (w.heap.size+5) (w.heap.size+4) (w.heap.size+3)) (P:=fun s:BS=>s.g=g) (fun s i o y h hp=>h.2.1.trans hp) (fun s c y h hp=>h.2.1.trans hp) hrel rfl
 have htw:t.1.s.wb=w.heap.size+1:=g05 (L:=L2 (w.heap.size+2) (w.heap.size+5) (w.heap.size+4) (w.heap.size+3)) (P:=fun s:BS=>s.wb=w.heap.size+1) (fun s i o y h hp=>h.1.trans hp) (fun s c y h hp=>h.1.trans hp) hrel rfl
 rw[hpo]at hover
 have hK:=hP _ _ hd hover
 have hQU:BU (w.heap.size+2) (w.heap.size+5) (w.heap.size+4) (w.heap.size+3) t.1.s u:=hU.su
 have hrb2:u.heap[w.heap.size]? =some (.cells #[.slice none 0 0,.slice none 0 0,.slice none 0 0,.bool false] 29 (0,0)):=hkeep _ _ _ _ hrb1 fun h=>by rcases hNr _ h with h|h<;>omega
 have hcnt:y5 ((I1 (L2 (w.heap.size+2) (w.heap.size+5) (w.heap.size+4) (w.heap.size+3)) p gt).liv t.1) n=y5 ((k0w _ _ _ _).x t.1).live n:=M9 fun j _=>d0G t.1 j
 rw[hcnt]
 have hnew:∀r,r≠0→OR (L2 (w.heap.size+2) (w.heap.size+5) (w.heap.size+4) (w.heap.size+3)) p' t.1 r→o0J w r:=fun r h0 hr c0 e0 z0 h=>by
  have hlt:=(D4 h)
  exact hpI r c0 e0 z0 ((hold1 r hlt).trans h) (fun h2=>by rcases hNr r h2 with h3|h3<;>omega) (hU.inone r hr)
 obtain⟨ca,hca,hcs,hci⟩:=hU.arr
 have hlt:=(D4 hca)
 have hlr:=(D4 hrb2)
 have hSR0:BR (w.heap.size+2) (w.heap.size+5) (w.heap.size+4) (w.heap.size+3) t.1.s 0:=.inr (.inr (.inr (.inr (.inr rfl))))
 have hT0:∀i,i<n→∀r,TR (t.1.th i) r→r≠0:=fun i hi r hr e=>(hU.ts i (by rw[hpn'];exact hi) r hr).1 (by rw[e];exact hSR0)
 have ha0:p'.aa≠0:=fun e=>hU.sa (by rw[e];exact hSR0)
 obtain⟨q,hq⟩:∃q:Z1,q=((k0w (w.heap.size+2) (w.heap.size+5) (w.heap.size+4) (w.heap.size+3)).x t.1).q:=⟨_,rfl⟩
 obtain⟨sb,hsb⟩:∃b:Bool,b=decide (0<y5 ((k0w (w.heap.size+2) (w.heap.size+5) (w.heap.size+4) (w.heap.size+3)).x t.1).live n):=⟨_,rfl⟩
 rw[← hsb]at hK ⊢
 rw[← hq]at hK
 have hqs:t.1.s.k=q:=hq.symm
 have htb:=heap_alloc_new u (.cells #[vL p.aa 0 n n,.slice oa' t.2.length oc',.slice none 0 0,.bool sb] 29)
 have htl:∀r,r<u.heap.size→(u.alloc (.cells #[vL p.aa 0 n n,.slice oa' t.2.length oc',.slice none 0 0,.bool sb] 29)).heap[r]? =u.heap[r]?:=fun r hr=>o0 _ _ hr
 have hts:(u.alloc (.cells #[vL p.aa 0 n n,.slice oa' t.2.length oc',.slice none 0 0,.bool sb] 29)).heap.size=u.heap.size+1:=by simp
 refine W5 (F:=F0) (Stop:=fun a u2=>∃xa xc,a=G (c.finish (.agg #[vL p.aa 0 n n,.slice oa' t.2.length oc',.slice xa (Z1.nums q).length xc,.bool sb])) cs∧
  f0s w n (fun i=>(((k0w (w.heap.size+2) (w.heap.size+5) (w.heap.size+4) (w.heap.size+3)).x t.1).th i).ans) (Z1.nums q) t.2 p.aa (fun i=>(t.1.th i).row) (fun i=>(t.1.th i).ans) (.slice oa' t.2.length oc') (.slice xa (Z1.nums q).length xc) u2)
  (u00 K1 (Nat.zero_le _) hA fun A2 hA2=>?_) fun a u2 ⟨xa,xc,ha,hu2⟩=>?_
 ·generalize u.alloc (.cells #[vL p.aa 0 n n,.slice oa' t.2.length oc',.slice none 0 0,.bool sb] 29)=U at htb htl hts ⊢
  have hUU:BU (w.heap.size+2) (w.heap.size+5) (w.heap.size+4) (w.heap.size+3) t.1.s U:=hQU.same fun r hr=>htl r (hQU.low hr)
  have hwf:BWf q:=hqs ▸ hQU.wf
  have hal:AlB (w.heap.size+2) t.1.s.wb none (fun _ _=>True) U q 0 U:=⟨⟨hwf,by have:=hUU.o;rw[← hqs];exact this,by have:=hUU.ws;rw[← hqs];exact this,hUU.tab,hUU.ne.1,hUU.ne.2.2.2.2⟩,trivial,Nat.le_refl _,fun _ _ _ _=>rfl⟩
  refine h0b (w0J true) (fun b h=>by cases h) hal (fun b h=>by cases h) (by omega) fun w1 lv _ hrow1 hnew1 hsz1 hold1'=>?_
  refine u01 hA2 fun A3 hA3=>?_
  refine h0g (by have:=n0G q hwf;omega) hrow1 fun w2 ov hrow2 hnew2 hsz2 hold2=>?_
  obtain⟨xa,xc,rfl⟩:=b0R hrow2
  have hw2U:∀r,r<U.heap.size→w2.heap[r]? =U.heap[r]?:=fun r hr=>(hold2 r (by omega)).trans (hold1' r hr (by simp))
  have hR:d6 w2 w.heap.size (.slice none 0 0) (.slice none 0 0) (.slice none 0 0) (.bool false):=⟨(hw2U _ (by omega)).trans ((htl _ hlr).trans hrb2)⟩
  have hT:d6 w2 u.heap.size (vL p.aa 0 n n) (.slice oa' t.2.length oc') (.slice none 0 0) (.bool sb):=⟨(hw2U _ (by omega)).trans htb⟩
  refine u02 (show w.heap.size≠u.heap.size by omega) hR hT (fun k=>hF _) (fun k=>hF _) hA3 (.stop fun d=>⟨xa,xc,rfl,?_⟩)
  have hlw:∀r,r<u.heap.size→w2.heap[r]? =u.heap[r]?:=fun r hr=>(hw2U _ (by omega)).trans (htl _ hr)
  have hne2:∀r,r≠w.heap.size→r≠u.heap.size→((trW (w2.setCell ⟨u.heap.size,2,none⟩ (.slice xa (Z1.nums q).length xc)) w.heap.size (vL p.aa 0 n n) (.slice oa' t.2.length oc') (.slice xa (Z1.nums q).length xc) (.bool sb)).at d).heap[r]? =w2.heap[r]?:=fun r hr hr2=>by
   show(trW _ _ _ _ _ _).heap[r]? =_
   unfold trW
   rw[m0 _ _ _ hr,m0 _ _ _ hr,m0 _ _ _ hr,m0 _ _ _ hr,m0 _ _ _ hr2]
  have hsz3:((trW (w2.setCell ⟨u.heap.size,2,none⟩ (.slice xa (Z1.nums q).length xc)) w.heap.size (vL p.aa 0 n n) (.slice oa' t.2.length oc') (.slice xa (Z1.nums q).length xc) (.bool sb)).at d).heap.size=w2.heap.size:=by
   show(trW _ _ _ _ _ _).heap.size=_
   unfold trW;simp
  generalize (trW (w2.setCell ⟨u.heap.size,2,none⟩ (.slice xa (Z1.nums q).length xc)) w.heap.size (vL p.aa 0 n n) (.slice oa' t.2.length oc') (.slice xa (Z1.nums q).length xc) (.bool sb)).at d=V at hne2 hsz3 ⊢
  have hty:∀(b:Nat) (c:Array Value) (e:TypeId) (z:Nat×Nat),u.heap[b]? =some (.cells c e z)→e≠29→V.heap[b]? =u.heap[b]?:=fun b cc e z hb he=>by
   have hbl:=(D4 hb)
   rw[hne2 b (fun h=>by rw[h,hrb2]at hb;cases hb;exact he rfl) (by omega),hlw b hbl]
  have hth:∀i,i<n→e0e (L2 (w.heap.size+2) (w.heap.size+5) (w.heap.size+4) (w.heap.size+3)) p' (gt.st i) i (t.1.th i) u:=fun i hi=>hU.thr i (by rw[hpn'];exact hi)
  refine⟨by omega,fun r cc e z hr=>?_,⟨ca,?_,?_,fun i hi=>?_⟩,fun i hi=>⟨rfl,?_,?_,fun a ha=>?_⟩,?_,fun i hi r hr=>?_,fun i hi a ha r hr=>?_,fun i j hi hj hne r h1 h2=>?_,?_,?_⟩
  ·have hlt:=(D4 hr)
   rw[hne2 r (by omega) (by omega),hlw r (by omega)]
   by_cases e0:r=0
   ·subst e0
    have h1:=hQ.g
    have h2:=hQU.g
    rw[htg]at h2
    rw[h2]
    have h3:=(hold1 0 hlt).symm.trans h1
    rw[hr]at h3
    exact h3.symm
   ·exact hkeep _ _ _ _ ((hold1 r hlt).trans hr) fun h=>by rcases hNr _ h with h|h<;>omega
  ·rw[hty _ _ _ _ (hpa ▸ hca) (by decide)]
   exact hpa ▸ hca
  ·rw[hcs,hpn']
  ·exact hci i (by rw[hpn'];exact hi)
  ·have ht:=hth i hi
   have h1:=ht.al
   have h2:=ht.kl
   rw[hpo',hI.hlen i hi]at h2
   exact Nat.le_trans (Nat.le_of_eq h1) (Nat.le_trans h2 (by omega))
  ·have hr:u.ownsRow 0 49 3 (t.1.th i).row (t.1.th i).ans.length (((t.1.th i).ans.map fun a=>a.v.cells).flatten):=(hth i hi).row
   exact d0X hr fun b cc hb _=>hty b cc _ _ hb (by decide)
  ·have h1:SAU a u:=(hth i hi).au a ha
   exact d0X h1 fun b cc hb _=>hty b cc _ _ hb (by decide)
  ·exact hnew _ (hpa ▸ ha0) (.inr (.inl hpa.symm))
  ·exact hnew _ (hT0 i hi r (.inl hr)) (.inr (.inr ⟨i,by rw[hpn'];exact hi,.inl hr⟩))
  ·exact hnew _ (hT0 i hi r (.inr (.inl ⟨a,ha,hr⟩))) (.inr (.inr ⟨i,by rw[hpn'];exact hi,.inr (.inl ⟨a,ha,hr⟩)⟩))
  ·exact hU.tt i j (by rw[hpn'];exact hi) (by rw[hpn'];exact hj) hne r (.inl h1) (.inl h2)
  ·exact C4 (by omega) (d0X hord fun b cc hb _=>hty b cc _ _ hb (by decide))
  ·have e2:V.ownsRow 0 2 1 (.slice xa (Z1.nums q).length xc) (Z1.nums q).length ((Z1.nums q).map fun v=>vI v):=by
    refine E1 hrow2 fun b hb _=>?_
    have:=hnew2 b hb
    exact hne2 b (by omega) (by omega)
   refine⟨e2.1,?_⟩
   rcases e2.2 with h|⟨b,cap,cur,h1,h2,h3⟩
   ·exact .inl h
   ·refine .inr ⟨b,cap,cur,h1,?_,h3⟩
    have:=hnew2 b (by rw[h1];rfl)
    omega
 ·subst ha
  exact hK _ _ _ _ _ _ _ _ hu2
end
noncomputable section
variable{F:Fz}{w:World}
theorem p0Z(X:World)(x y z u x' y' z' u':Value):((((X.alloc (.cells #[x,y,z,u] 29)).setCell ⟨X.heap.size,0,none⟩ x').setCell ⟨X.heap.size,1,none⟩ y').setCell ⟨X.heap.size,2,none⟩ z').setCell ⟨X.heap.size,3,none⟩ u'=X.alloc (.cells #[x',y',z',u'] 29):=by go_simp
theorem x0H(k:Int):Tryd.prog.built 44 [(0,vI k)]=some #[vI k,vI 0,vI 0,vI 0]:=by kernel_rfl
@[go_sem] theorem x0G(k:Int)(w:World):(Instr.build 44 #[(0,vI k)]).run Tryd.prog w= .ok (.agg #[vI k,vI 0,vI 0,vI 0]) w:=run_build w _ _ _ (x0H k)
@[go_sem] theorem x03(k:Int)(w:World)(es:Array Event):(Instr.build 44 #[(0,vI k)]).events Tryd.prog w es=es:=E4 w es _ _ _ _ Tryd.underlying44 (x0H k)
def v6:Code:=Tryd.f7.body.getD .skip
def u0x:=pC [] v6
def q0c:=pC [zt] v6
def u0y:=pC [zf] v6
def e0x:=pC [zf,zt] v6
def baws2:=pC [zf,zf] v6
theorem k0K(args:Array Value):Frame.enter Tryd.prog 7 args .normal=(Go.Conc.base 7).at {tmps:=args++Array.replicate (81 - args.size) undef,defers:=[]} [.code u0x]:=enter_at args Tryd.func7 rfl
theorem k0D:X0 7:=G1 Tryd.func7 rfl rfl
def o0T(s:Nat→Value):Array Value:= #[s 0,s 1,s 2,s 3,s 4,s 5,s 6,s 7,s 8,s 9,s 10,s 11,s 12,s 13,s 14,s 15,s 16,s 17,s 18,s 19,s 20,s 21,s 22,s 23,s 24,s 25,s 26,s 27,s 28,s 29,s 30,s 31,s 32,s 33,s 34,s 35,s 36,s 37,s 38,s 39,s 40,s 41,s 42,s 43,s 44,s 45,s 46,s 47,s 48,s 49,s 50,s 51,s 52,s 53,s 54,s 55,s 56,s 57,s 58,s 59,s 60,s 61,s 62,s 63,s 64,s 65,s 66,s 67,s 68,s 69,s 70,s 71,s 72,s 73,s 74,s 75,s 76,s 77,s 78,s 79,s 80]
theorem o0U{A:Array Value}(h:A.size=81):∃s,A=o0T s:=by
 obtain⟨s,hs,_⟩:=F3 A h
 exact⟨s,hs⟩
def awW(w:World):World:=(((((w.alloc (.cells #[vI 2] 2)).alloc (.cells #[vI 4,vI 0,vI 0,vI 0] 44)).alloc (.cells #[vI 4,vI 0,vI 0,vI 0] 44)).alloc (.cells #[vL (w.heap.size+1) 0 1 1,vL (w.heap.size+2) 0 1 1] 32)).alloc (.cells #[vI 0,vI 1,vI 0,vI 1,vI 1,vI 1] 3))
theorem y0a{n:Nat}(hU:Q1 F n)(hn:n≤w.heap.size){cs:List Frame}{main:Bool}{Stop:Goroutine→World→Prop}
 (h:∀A,A.size=81→E0 Tryd.prog main F Stop (G (Frame.enter Tryd.prog 9 #[vL w.heap.size 0 1 1,vL (w.heap.size+3) 0 2 2,vL (w.heap.size+4) 0 6 6,vI 100] .normal) ((bA 7 A [.inRegion (oC e0x) [7,8,9],.code baws2])::cs)) (awW w)):
 E0 Tryd.prog main F Stop (G (Frame.enter Tryd.prog 7 #[] .normal) cs) w:=by
 rw[k0K]
 walk_nrm
 refine ogW q0c u0y ?_
 simp only[q0c,v6,Tryd.f7,zz,Nat.reduceAdd]
 refine oT ?_
 refine I0<|ogW e0x baws2 ?_
 simp only[e0x,v6,Tryd.f7,zz,Nat.reduceAdd]
 refine oA hU ?_
 refine oT ?_
 refine oA hU ?_
 refine oT ?_
 iterate 3 refine oA hU ?_
 refine oc k0E #[vL w.heap.size 0 1 1,vL (w.heap.size+3) 0 2 2,vL (w.heap.size+4) 0 6 6,vI 100] ?_
 exact h _ rfl
theorem y0b{n:Nat}(hU:Q1 F n)(hn:n≤w.heap.size){aa oa xa:Option Addr}{al ac ol oz xl xc:Nat}{st:Bool}{A:Array Value}(hsz:A.size=81){cs:List Frame}{main:Bool}{Stop:Goroutine→World→Prop}
 (h:∀A,D0 81 A [(1,vP w.heap.size 0)]→E0 Tryd.prog main F Stop (G (bA 7 A [.code baws2]) cs) (w.alloc (.cells #[.slice aa al ac,.slice oa ol oz,.slice xa xl xc,.bool st] 29))):
 E0 Tryd.prog main F Stop (G ((bA 7 A [.inRegion (oC e0x) [7,8,9],.code baws2]).finish (.agg #[.slice aa al ac,.slice oa ol oz,.slice xa xl xc,.bool st])) cs) w:=by
 obtain⟨s,rfl⟩:=o0U hsz
 clear hsz
 simp only[o0T]
 rw[Frame.finish_at]
 simp only[e0x,v6,Tryd.f7,zz,Nat.reduceAdd]
 walk_nrm
 refine oA hU ?_
 (refine oW fun dd K hK=>?_;go_simp;refine hK _ _ ⟨⟨⟨0,g0Y (fun k=>P2 hU (show n≤w.heap.size by omega)) _ _ _ _⟩,fun e he=>by(have hm:=mem_listed he;clear he hK;simp[go_sem,storedEv]at hm;rcases hm with rfl|rfl|rfl|rfl<;>exact V0 _ _ ((fun k=>P2 hU (show n≤w.heap.size by omega)) _))⟩,?_⟩;clear hK K;simp only[setCell_at'];refine E0.at ?_ dd)
 have e1:=p0Z w (.slice none 0 0) (.slice none 0 0) (.slice none 0 0) (.bool false) (.slice aa al ac) (.slice oa ol oz) (.slice xa xl xc) (.bool st)
 rw[e1]
 clear e1
 refine I0 ?_
 refine h _ ?_
 exact⟨rfl,rfl,trivial⟩
end
section
variable{P:Program}
theorem k0q(w:World):Wf F0 w:=⟨fun r z h=>by cases h⟩
theorem k0l{fn:Func}{t:Array Value}{w:World}{τ:Tape}{e:Nat}{v:Value}(h:(results fn t).run P (retape w τ e)= .ok v (retape w τ e))(d:Nat):
 (results fn t).run P (w.at d)= .ok v (w.at d)∧∀x∈(results fn t).events P (w.at d) #[],EvT F0 x:=by
 obtain⟨w1,es,j,hu,r1,e1,t1,g1,hw1,l1⟩:=(F8 (P:=P) (F:=F0) fn t (retape w τ e) (k0q _)).ok (by rw[u4 (fun _=>rfl)];exact h)
 rw[u4 (fun _=>rfl)]at hu
 subst hu
 have hj:j=0:=by
  have:=g1.drawn
  omega
 subst hj
 have h2:=l1 (w.at d).tape (w.at d).drawn (by intro i q hi;omega)
 rw[u4 (fun _=>rfl)]at h2
 have h3:(results fn t).run P (w.at d)= .ok v (w.at d):=h2
 refine⟨h3,fun x hx=>?_⟩
 obtain⟨w2,es2,j2,hu2,r2,e2,t2,g2,hw2,l2⟩:=(F8 (P:=P) (F:=F0) fn t (w.at d) (k0q _)).ok (by rw[u4 (fun _=>rfl)];exact h3)
 rw[e2]at hx
 exact t2 x (by simpa using hx)
theorem b0P{S:FuncId→Bool}(hC:v4 P S true)(hE:V5 P){f:Nat}{fn:Func}{c:Code}(hf:P.funcs[f]? =some fn)(hb:fn.body=some c)(hc:W3 P S true c=true){args:Array Value}{w:World}{R:Value→World→Prop}
 (H:∀τ e,X8 P fn args (retape w τ e) R) {cl:Frame} {cs:List Frame} {main:Bool} {Stop:Goroutine→World→Prop}
 (K:∀v w' τ e,R v (retape w' τ e)→Gd F0 w w'→E0 P main F0 Stop (G (cl.finish v) cs) w'):E0 P main F0 Stop (G (Frame.enter P f args .normal) (cl::cs)) w:=by
 let b:Frame:={(default:Frame)with fn:=f,kind:=.normal}
 have henter:Frame.enter P f args .normal=b.at {tmps:=args++Array.replicate (fn.ntmps - args.size) undef,defers:=[]} [.code c]:=by
  simp[Frame.enter,Frame.at,hf,hb,b]
 rw[henter]
 have back:∀(a':Act) (w':World) (t':List Item) (τ:Tape) (e:Nat),a'.defers=[]→(∃v,(results fn a'.tmps).run P (retape (T0 F0 w') τ e)= .ok v (retape (T0 F0 w') τ e)∧∃v',Ending.returned v= .returned v'∧R v' (retape (T0 F0 w') τ e))→Gd F0 w w'→
  E0 P main F0 Stop (G {b.at a' t' with mode:=.returning} (cl::cs)) w':=fun a' w' t' τ e hd ⟨v,h1,v',h2,h3⟩ hg=>by
  cases h2
  rw[u4 (fun _=>rfl)]at h1 h3
  exact i2 rfl hd hf (fun d=>(k0l h1 d).1) (fun d x hx=>(k0l h1 d).2 x hx) (K _ _ τ e h3 hg)
 refine t0j (Q:=bodyPost P fn fun x w'=>∃v,x= .returned v∧R v w') hC (fun _ _=>rfl) hE hc (k0q w) rfl (fun e a w hq=>?_) (fun τ e=>?_) (by simp[b]) (fun a' w' τ e hq _ hg=>?_) (fun a' w' τ e t' hq _ hg=>?_)
 ·cases e with
  | normal=>exact .inl rfl
  | ret=>exact .inr ⟨rfl,hq.1⟩
  | panic ch=>obtain⟨_,v,h,_⟩:=hq;cases h
  | outgrown=>obtain⟨v,h,_⟩:=hq;cases h
  | exit _=>exact hq.elim
  | goto _=>exact hq.elim
 ·rw[u4 (fun _=>rfl)]
  exact H τ e c hb
 ·obtain⟨hd,h⟩:=hq
  have:b.at a' []=b.at ⟨a'.tmps,[]⟩ []:=by rw[← hd]
  rw[this]
  refine G0 rfl (fun d=>stepG_end) ?_
  exact back ⟨a'.tmps,[]⟩ w' [] τ e rfl h hg
 ·obtain⟨hd,h⟩:=hq
  exact back a' w' _ τ e hd h hg
def codeOkF(P:Program)(S:FuncId→Bool)(f:FuncId):Bool:=match P.funcs[f]? with
 | some fn => !(fn.name == "runtime.NumGoroutine") && match fn.body with
   | some c=>W3 P S true c
   | none=>false
 | none=>false
theorem i0p {P : Program} {S : FuncId → Bool} {f : FuncId} (h : codeOkF P S f = true) : ∃ fn, P.funcs[f]? = some fn ∧ (fn.name == "runtime.NumGoroutine") = false ∧ ∃ c, fn.body = some c ∧ W3 P S true c = true := by
 unfold codeOkF at h
 split at h
 ·rename_i fn hf
  rw[Bool.and_eq_true]at h
  obtain⟨h1,h2⟩:=h
  split at h2
  ·rename_i c hc
   exact⟨fn,hf,by simpa using h1,c,hc,h2⟩
  ·cases h2
 ·cases h
theorem m0o{l:List Nat}(h:l.all (codeOkF P fun f=>l.contains f)=true):v4 P (fun f=>l.contains f) true:=fun f hf=>by
 obtain⟨fn,h1,h2,c,h3,h4⟩:=i0p (List.all_eq_true.1 h f (List.contains_iff_mem.1 hf))
 exact⟨fn,h1,h2,.inl ⟨c,h3,h4⟩⟩
end
section
theorem l04{An:O2}{P:Program}{Post:Value→World→Prop}{fr:Frame}{W:World}(hA:An.Holds W)
 (hB:Bes An P (fun g w=>g.status= .running∧∀d,∃v,stepG P true g (w.at d)= .ended (.done v) (w.at d) #[]∧(An.Holds (w.at d)→Post v (w.at d))) (G fr []) W):
 ∃M last o w' t',runNT P (M+1) (solo (G fr []) W) #[]=(.ended o w',t')∧runN P M (solo (G fr []) W)= .next last∧step P last= .ended o w'∧Go.Conc.Good P Post last o w' t':=by
 rw[solo_eq_crowd]
 obtain⟨N,gs',g',w',sl',T',q',B',hr,h0',⟨hrun,hS⟩,hL',hP',hA'⟩:=hB #[G fr []] none #[] (fun _=>0) 0 rfl (leavers_one _ _) past_nil hA
 obtain⟨K,last,o,w2,t',e1,e2,e3,e4⟩:=beside_ends (P:=P) (Post:=Post) (D:=fun _ _ es=>∀e∈es,EvL Y8 B' e) (sl:=sl') (n:=0) (fun _ _ _ h=>h) h0' hL' hP' (Goes.stop fun w₂ r₂=>by
  obtain⟨d,rfl⟩:=r₂
  obtain⟨v,h1,h2⟩:=hS d
  exact⟨hrun,v,#[],h1,by simp,h2 (hA'.at d)⟩)
 refine⟨N+K,last,o,w2,t',?_,?_,e3,e4⟩
 ·rw[Nat.add_assoc,runNT_add,hr];exact e1
 ·rw[runN_add,← runNT_fst P _ _ #[],hr];exact e2
theorem l02{W w':World}(h:(⟨W.heap.size,W⟩:O2).Holds w')(hc:∀(r:Nat) (c:Array Value) (e:TypeId) (z:Nat×Nat),W.heap[r]? =some (.cells c e z)→w'.heap[r]? =some (.cells c e z)):Below W.heap.size W w':=by
 refine⟨h.os,h.tape,h.output,h.low,fun r hr=>?_⟩
 obtain⟨o,ho⟩:∃o,W.heap[r]? =some o:=⟨_,Array.getElem?_eq_getElem hr⟩
 by_cases e:∃c e z,o= .cells c e z
 ·obtain⟨c,e,z,rfl⟩:=e
  rw[hc r c e z ho,ho]
 ·rw[h.obj r o hr ho fun c e1 z e2=>e ⟨c,e1,z,e2⟩,ho]
theorem n0u{f k:Nat}{fn:Func}{A:Array Value}(h2:¬2=f)(hf:Tryd.prog.funcs[f]? =some fn)(hr:fn.results= #[.tmp k]){v:Value}(hA:A.getD k undef=v)(w:World):
 stepG Tryd.prog true (G {(base f).at ⟨A,[]⟩ [.code .ret]with mode:=.returning} []) w= .ended (.done v) w #[]:=by
 subst hA
 simp[G,stepG,unwind,doReturn,results,Frame.at,base,hf,hr,seen,GStep.after,h2]
section
variable{An:O2}{W:World}
def f0t(W:World)(v:Value)(w':World):Prop:=v= .bool true∧∀(r:Nat) (c:Array Value) (e:TypeId) (z:Nat×Nat),W.heap[r]? =some (.cells c e z)→w'.heap[r]? =some (.cells c e z)
def i0U(An:O2)(Post:Value→World→Prop)(g:Goroutine)(w:World):Prop:=g.status= .running∧∀d,∃v,stepG Tryd.prog true g (w.at d)= .ended (.done v) (w.at d) #[]∧(An.Holds (w.at d)→Post v (w.at d))
theorem n0v{f k:Nat}{fn:Func}{A:Array Value}(hf:Tryd.prog.funcs[f]? =some fn)(hr:fn.results= #[.tmp k])(h2:¬2=f)(hA:A.getD k undef= .bool true){w:World}(h:∀(r:Nat) (c:Array Value) (e:TypeId) (z:Nat×Nat),W.heap[r]? =some (.cells c e z)→w.heap[r]? =some (.cells c e z)):
 i0U An (f0t W) (G {(base f).at ⟨A,[]⟩ [.code .ret]with mode:=.returning} []) w:=
 ⟨rfl,fun d=>⟨_,n0u h2 hf hr hA _,fun _=>⟨rfl,h⟩⟩⟩
end
theorem Tryd.own:ownKnob Tryd.prog.godebug=none:=by kernel_rfl
theorem Tryd.laidOut:laidOutB Tryd.prog=true:=by kernel_rfl
end
section
structure u0n(P:Program)(f:FuncId):Prop where
 e : ∃ fn, P.funcs[f]? = some fn ∧ (fn.name == "runtime.NumGoroutine") = false ∧ fn.body = none ∧ Extern.findNext fn = none ∧ ∃ x, Extern.find fn = some x ∧ p02 P true x
theorem a0B{P:Program}{l x:List Nat}(hx:∀f∈x,u0n P f)(h:l.all (fun f=>x.contains f || codeOkF P (fun f=>l.contains f) f)=true):v4 P (fun f=>l.contains f) true:=fun f hf=>by
 have h1:=List.all_eq_true.1 h f (List.contains_iff_mem.1 hf)
 rw[Bool.or_eq_true]at h1
 rcases h1 with h1|h1
 ·obtain⟨fn,a1,a2,a3,a4,y,a5,a6⟩:=(hx f (List.contains_iff_mem.1 h1)).e
  exact⟨fn,a1,a2,.inr ⟨a3,a4,y,a5,a6⟩⟩
 ·obtain⟨fn,a1,a2,c,a3,a4⟩:=i0p h1
  exact⟨fn,a1,a2,.inl ⟨c,a3,a4⟩⟩
theorem X8.mono{P:Program}{fn:Func}{args:Array Value}{w:World}{R R':Value→World→Prop}(h:X8 P fn args w R)(hr:∀v u,R v u→R' v u):X8 P fn args w R':=fun c hc=>by
 refine Code.wp_mono (fun e a u hq=>?_) (h c hc)
 cases e with
 | normal=>obtain⟨h1,v,h2,v',h3,h4⟩:=hq;exact⟨h1,v,h2,v',h3,hr _ _ h4⟩
 | ret=>obtain⟨h1,v,h2,v',h3,h4⟩:=hq;exact⟨h1,v,h2,v',h3,hr _ _ h4⟩
 | panic ch=>obtain⟨h1,v',h3,h4⟩:=hq;exact⟨h1,v',h3,hr _ _ h4⟩
 | outgrown=>obtain⟨v',h3,h4⟩:=hq;exact⟨v',h3,hr _ _ h4⟩
 | exit _=>exact hq
 | goto _=>exact hq
end
section
variable{An:O2}{w w' w0:World}
def b0m(w w':World):Prop:=w.heap.size≤w'.heap.size∧∀(r:Nat) (c:Array Value) (e:TypeId) (z:Nat×Nat),w.heap[r]? =some (.cells c e z)→w'.heap[r]? =some (.cells c e z)
theorem b0m.refl(w:World):b0m w w:=⟨Nat.le_refl _,fun _ _ _ _ h=>h⟩
theorem b0m.trans{a b c:World}(h1:b0m a b)(h2:b0m b c):b0m a c:=⟨Nat.le_trans h1.1 h2.1,fun r x e z h=>h2.2 r x e z (h1.2 r x e z h)⟩
theorem b0m.of(h1:w.heap.size≤w'.heap.size)(h2:∀r,r<w.heap.size→w'.heap[r]? =w.heap[r]?):b0m w w':=⟨h1,fun r c e z h=>(h2 r (D4 h)).trans h⟩
theorem e0d.keep(h:e0d w)(k:b0m w w'):e0d w':=by
 obtain⟨c,e,z,h1,h2⟩:=h
 exact⟨c,e,z,k.2 _ _ _ _ h1,h2⟩
theorem e0h{m:Pl}{ops:Nat→List I6}{n M:Nat}:∀(f:Nat) (s:GS m×List Nat),T7 n M (X5 ops n M f s)→∀e,f≤e→X5 ops n M e s=X5 ops n M f s:=by
 intro f
 induction f with
 | zero=>
   intro s h e _
   exact B6 h e
 | succ f ih=>
   intro s h e he
   by_cases hd:T7 n M s
   ·rw[B6 hd,B6 hd]
   ·obtain⟨e,rfl⟩:∃k,e=k+1:=⟨e - 1,by omega⟩
    simp only[X5,if_neg hd]at h ⊢
    exact ih _ h e (by omega)
theorem n0l{m:Pl}{ops:Nat→List I6}{n M:Nat}{S:List Int}{s:GS m}{f0:Nat}(hd:T7 n M (e09 ops n M S f0 s))(t:GS m×List Nat)(h:∃k,∀f,k≤f→e09 ops n M S f s=t):t=e09 ops n M S f0 s:=by
 obtain⟨k,hk⟩:=h
 rw[← hk (max k f0) (by omega)]
 exact e0h f0 _ hd _ (by omega)
theorem L1{X:World}{k:Nat}{c:Array Value}{e:TypeId}(h:X.heap[k]? =some (.cells c e (0,0))){j:Nat}{v:Value}(hv:c[j]? =some v):X.cell? ⟨k,j,none⟩=some v∧X.frozen? ⟨k,j,none⟩=false:=⟨by simp only[World.cell?,h];simpa using hv,by simp[World.frozen?,h]⟩
theorem u0w{u:World}{N:Nat→Prop}{b0 b1 bt bs:Nat}(n0:¬N b0)(n1:¬N b1)(ns:¬N bs){k1 a1 x1 y1 k2 a2 x2 y2:Int}{S:List Int}(h0:u.heap[b0]? =some (.cells #[vI k1,vI a1,vI x1,vI y1] 44 (0,0)))(h1:u.heap[b1]? =some (.cells #[vI k2,vI a2,vI x2,vI y2] 44 (0,0)))(ht:u.heap[bt]? =some (.cells #[vL b0 0 1 1,vL b1 0 1 1] 32 (0,0)))(hs:u.heap[bs]? =some (.cells (S.map fun i:Int=>Value.int .i64 i).toArray 3 (0,0)))(hl:S.length<100):
 Z8 u N 2 bt 0 2 (some ⟨bt,0,none⟩) (fun i=>some ⟨if i=0 then b0 else b1,0,none⟩) (fun _=>1) (fun _=>1) (fun i=>if i=0 then[⟨k1,a1,x1,y1⟩]else if i=1 then[⟨k2,a2,x2,y2⟩]else[]) S (some ⟨bs,0,none⟩):=by
 refine⟨rfl,fun _=>rfl,fun _=>(D4 ht),fun j hj=>?_,fun j hj=>?_,fun j hj k x hx=>?_,by omega,fun _=>⟨_,_,_,_,_,rfl,ns,hs,fun k v hv=>⟨by rw[Nat.zero_add];simpa using hv,by simp⟩⟩⟩
 ·have:j=0∨j=1:=by omega
  rcases this with rfl|rfl
  ·exact⟨(L1 ht rfl).1,(L1 (j:=0) ht rfl).2,Nat.le_refl _⟩
  ·exact⟨(L1 ht rfl).1,(L1 (j:=1) ht rfl).2,Nat.le_refl _⟩
 ·have:j=0∨j=1:=by omega
  rcases this with rfl|rfl<;>rfl
 ·have:j=0∨j=1:=by omega
  rcases this with rfl|rfl
  ·have hk:k=0:=by
    have:=(List.getElem?_eq_some_iff.1 hx).1
    simp at this
    omega
   subst hk
   obtain rfl:(⟨k1,a1,x1,y1⟩:I6)=x:=by simpa using hx
   exact⟨_,_,rfl,n0,(L1 h0 rfl).1,(L1 h0 rfl).1,(L1 h0 rfl).1,(L1 h0 rfl).1,(L1 (j:=0) h0 rfl).2,(L1 (j:=1) h0 rfl).2,(L1 (j:=2) h0 rfl).2,(L1 (j:=3) h0 rfl).2⟩
  ·have hk:k=0:=by
    have:=(List.getElem?_eq_some_iff.1 hx).1
    simp at this
    omega
   subst hk
   obtain rfl:(⟨k2,a2,x2,y2⟩:I6)=x:=by simpa using hx
   exact⟨_,_,rfl,n1,(L1 h1 rfl).1,(L1 h1 rfl).1,(L1 h1 rfl).1,(L1 h1 rfl).1,(L1 (j:=0) h1 rfl).2,(L1 (j:=1) h1 rfl).2,(L1 (j:=2) h1 rfl).2,(L1 (j:=3) h1 rfl).2⟩
theorem s0a{u:World}{vb:Nat}{vs:List Int}(h:u.heap[vb]? =some (.cells (vs.map fun i:Int=>Value.int .i64 i).toArray 2 (0,0))):a0R u (some ⟨vb,0,none⟩) vs:=fun i x hx=>⟨vb,0,rfl,by
 rw[Nat.zero_add]
 exact(L1 h (by simp[hx])).1⟩
structure AwT(u:World)(T:Nat):Prop where
 t:∃aa oa oc xa xc g0 p0 g1 p1,u.cell? ⟨T,0,none⟩=some (vL aa 0 2 2)∧u.cell? ⟨T,1,none⟩=some (.slice oa 6 oc)∧u.cell? ⟨T,2,none⟩=some (vL xa 0 2 xc)∧u.cell? ⟨T,3,none⟩=some (.bool false)∧u.cell? ⟨aa,0,none⟩=some (vL g0 0 1 p0)∧u.cell? ⟨aa,1,none⟩=some (vL g1 0 1 p1)∧u.cell? ⟨g0,1,none⟩=some (vI 0)∧u.cell? ⟨g1,1,none⟩=some (vI 1)∧u.cell? ⟨g1,0,none⟩=some (.bool true)∧u.cell? ⟨xa,1,none⟩=some (vI 1)
theorem AwT.heap{u u':World}{T:Nat}(h:AwT u T)(e:u'.heap=u.heap):AwT u' T:=by
 obtain⟨t⟩:=h
 refine⟨?_⟩
 simpa only[World.cell?,e]using t
theorem l0F{u:World}{ans:Nat→List s7}{state:List Int}{order:List Nat}{aa:Nat}{rows:Nat→Value}{av:Nat→List SA}{ov sv:Value}(h:f0s w 2 ans state order aa rows av ov sv u){i:Nat}(hi:i<2){ok:Bool}{n1:Int}(ha:ans i=[(ok,n1,[])]):∃g p,rows i=vL g 0 1 p∧u.cell? ⟨g,0,none⟩=some (.bool ok)∧u.cell? ⟨g,1,none⟩=some (vI n1):=by
 obtain⟨r1,r2,r3,r4⟩:=h.row i hi
 rw[ha]at r1
 obtain⟨sa,hsa⟩:∃sa,av i=[sa]:=by
  cases hq:av i with
  | nil=>rw[hq]at r1;cases r1
  | cons x t=>
    cases t with
    | nil=>exact⟨x,rfl⟩
    | cons y t=>rw[hq]at r1;simp at r1
 rw[hsa]at r1 r3 r4
 have r1:sa.an=(ok,n1,[]):=by simpa using r1
 obtain⟨an,la,ll,lc⟩:=sa
 simp only at r1
 subst r1
 have r3:u.ownsRow 0 49 3 (rows i) (0+1) (SA.v ⟨(ok,n1,[]),la,ll,lc⟩).cells:=by simpa using r3
 obtain⟨g,cap,hg⟩:=l0e r3
 have hcells:(SA.v ⟨(ok,n1,[]),la,ll,lc⟩).cells=[.bool ok,vI n1,.slice la ll lc]:=rfl
 rw[hcells]at r3
 obtain⟨b,cp,e1,g0⟩:=G8 (k:=0) r3 rfl
 obtain⟨b2,cp2,e2,g2⟩:=G8 (k:=1) r3 rfl
 rw[hg]at e1 e2
 cases e1
 cases e2
 exact⟨g,cap,hg,g0.c,g2.c⟩
theorem s0b{u u':World}{ans:Nat→List s7}{order:List Nat}{aa:Nat}{rows:Nat→Value}{av:Nat→List SA}{oa xa:Option Addr}{oc xc:Nat}(h:f0s w 2 ans [0,1] order aa rows av (.slice oa order.length oc) (.slice xa ([0,1]:List Int).length xc) u)(h0:ans 0=[(true,0,[])])(h1:ans 1=[(true,1,[])])(ho6:order.length=6)
 (hT:u'.heap=(u.alloc (.cells #[vL aa 0 2 2,.slice oa order.length oc,.slice xa ([0,1]:List Int).length xc,.bool false] 29)).heap):AwT u' u.heap.size:=by
 have hn:u'.heap[u.heap.size]? =some (.cells #[vL aa 0 2 2,.slice oa order.length oc,.slice xa ([0,1]:List Int).length xc,.bool false] 29 (0,0)):=by rw[hT];exact heap_alloc_new _ _
 have ho:∀r,r<u.heap.size→u'.heap[r]? =u.heap[r]?:=fun r hr=>by rw[hT];exact o0 _ _ hr
 have hc:∀{a:Addr} {v:Value},u.cell? a=some v→u'.cell? a=some v:=fun{a v} h=>by
  obtain⟨c,e,z,hb⟩:=X4 h
  rw[← h];unfold World.cell?;simp only[ho _ (D4 hb)]
 obtain⟨c,a1,a2,a3⟩:=h.arr
 obtain⟨g0,p0,e0,c00,c01⟩:=l0F h (i:=0) (by decide) h0
 obtain⟨g1,p1,e1,c10,c11⟩:=l0F h (i:=1) (by decide) h1
 obtain⟨bx,cx,ex,x1⟩:=G8 (k:=1) h.st rfl
 cases ex
 refine⟨aa,oa,oc,bx,xc,g0,p0,g1,p1,(L1 hn rfl).1,?_,(L1 hn rfl).1,(L1 hn rfl).1,hc ?_,hc ?_,hc c01,hc c11,hc c10,hc x1.c⟩
 ·rw[← ho6];exact(L1 hn rfl).1
 ·have:=a3 0 (by decide)
  rw[e0]at this
  exact(L1 a1 this).1
 ·have:=a3 1 (by decide)
  rw[e1]at this
  exact(L1 a1 this).1
theorem o0g{P:Program}{S:FuncId→Bool}(hC:v4 P S true)(hE:V5 P){c:Code}(hc:W3 P S true c=true){A:Array Value}{w:World}{R:Array Value→World→Prop}{b:Frame}{k:List Item}(hk:b.kind≠.early)
 (H:∀τ e,c.wp P (fun x a w=>x= .ret∧a.defers=[]∧R a.tmps w) ⟨A,[]⟩ (retape w τ e)) {cs:List Frame} {main:Bool} {Stop:Goroutine→World→Prop}
 (K:∀A' w' τ e t',R A' (retape w' τ e)→Gd F0 w w'→E0 P main F0 Stop (G {b.at ⟨A',[]⟩ (.code .ret::t')with mode:=.returning} cs) w'):E0 P main F0 Stop (G (b.at ⟨A,[]⟩ (.code c::k)) cs) w:=by
 refine t0j (Q:=fun x a w=>x= .ret∧a.defers=[]∧R a.tmps w) hC (fun _ _=>rfl) hE hc (k0q w) rfl (fun e a w hq=>.inr ⟨hq.1,hq.2.1⟩) (fun τ e=>?_) hk (fun a' w' τ e hq _ hg=>?_) (fun a' w' τ e t' hq _ hg=>?_)
 ·rw[u4 (fun _=>rfl)]
  exact H τ e
 ·exact absurd hq.1 (by simp)
 ·obtain⟨_,hd,h⟩:=hq
  rw[u4 (fun _=>rfl)]at h
  obtain⟨tm,df⟩:=a'
  simp only at hd
  subst hd
  exact K tm w' τ e t' h hg
theorem m0V:v4 Tryd.prog (fun f=>([]:List Nat).contains f) true:=a0B (x:=[]) (fun f h=>by cases h) (by kernel_rfl)
theorem o0Q{T:Nat}(h:AwT w T){A:Array Value}(hA:D0 81 A [(1,vP T 0)]):
 baws2.wp Tryd.prog (fun x a u=>x= .ret∧a.defers=[]∧(a.tmps.getD 0 undef= .bool true∧u.heap=w.heap)) ⟨A,[]⟩ w:=by
 obtain⟨s,rfl,h1,_⟩:=D5 o0T hA
 obtain⟨aa,oa,oc,xa,xc,g0,p0,g1,p1,c1,c2,c3,c4,c5,c6,c7,c8,c9,c10⟩:=h.t
 clear h
 simp only[baws2,v6,pC,Tryd.f7,Option.getD_some,o0T,h1,List.append_eq,List.append,List.cons_append,List.nil_append]
 clear h1
 go_wp2
theorem k0x(hg:e0d w){c:Frame}{cs:List Frame}{Stop:Goroutine→World→Prop}(K:∀w',b0m w w'→Bes An Tryd.prog Stop (G (c.finish (.bool true)) cs) w'):
 Bes An Tryd.prog Stop (G (Frame.enter Tryd.prog 7 #[] .normal) (c::cs)) w:=by
 refine W5 (F:=F0) (Stop:=fun a u=>∃A,A.size=81∧u.heap=(awW w).heap∧a=G (Frame.enter Tryd.prog 9 #[vL w.heap.size 0 1 1,vL (w.heap.size+3) 0 2 2,vL (w.heap.size+4) 0 6 6,vI 100] .normal) ((bA 7 A [.inRegion (oC e0x) [7,8,9],.code baws2])::c::cs))
  (y0a K1 (Nat.zero_le _) fun A hA=>.stop fun d=>⟨A,hA,rfl,rfl⟩) fun a u ⟨A,hA,hu,ha⟩=>?_
 subst ha
 have h00:0<w.heap.size:=by
  obtain⟨_,_,_,h,_⟩:=hg
  exact(D4 h)
 have k1:b0m w u:=by
  refine .of (by rw[hu];simp[awW];omega) fun r hr=>?_
  rw[hu]
  simp only[awW]
  rw[o0 _ _ (by simp;omega),o0 _ _ (by simp;omega),o0 _ _ (by simp;omega),o0 _ _ (by simp;omega),o0 _ _ hr]
 have hsz:∀(X:World) (k:Nat) (o:Obj),X.heap.size=k→(X.alloc o).heap[k]? =some o:=fun X k o e=>by rw[← e];exact heap_alloc_new _ _
 have b0:u.heap[w.heap.size]? =some (.cells (([2]:List Int).map fun i:Int=>Value.int .i64 i).toArray 2 (0,0)):=by
  rw[hu]
  simp only[awW]
  rw[o0 _ _ (by simp;try omega),o0 _ _ (by simp;try omega),o0 _ _ (by simp;try omega),o0 _ _ (by simp)]
  exact hsz _ _ _ (by simp)
 have b1:u.heap[w.heap.size+1]? =some (.cells #[vI 4,vI 0,vI 0,vI 0] 44 (0,0)):=by
  rw[hu]
  simp only[awW]
  rw[o0 _ _ (by simp;try omega),o0 _ _ (by simp;try omega),o0 _ _ (by simp;try omega)]
  exact hsz _ _ _ (by simp)
 have b2:u.heap[w.heap.size+2]? =some (.cells #[vI 4,vI 0,vI 0,vI 0] 44 (0,0)):=by
  rw[hu]
  simp only[awW]
  rw[o0 _ _ (by simp;try omega),o0 _ _ (by simp;try omega)]
  exact hsz _ _ _ (by simp)
 have b3:u.heap[w.heap.size+3]? =some (.cells #[vL (w.heap.size+1) 0 1 1,vL (w.heap.size+2) 0 1 1] 32 (0,0)):=by
  rw[hu]
  simp only[awW]
  rw[o0 _ _ (by simp;try omega)]
  exact hsz _ _ _ (by simp)
 have b4:u.heap[w.heap.size+4]? =some (.cells (([0,1,0,1,1,1]:List Int).map fun i:Int=>Value.int .i64 i).toArray 3 (0,0)):=by
  rw[hu]
  simp only[awW]
  exact hsz _ _ _ (by simp)
 clear hu
 refine k0y (va:=some ⟨w.heap.size,0,none⟩) (vs:=[2]) (S:=[0,1,0,1,1,1]) (s0a b0) (by decide) (by decide) (hg.keep k1) (u0w (by omega) (by omega) (by omega) b1 b2 b3 b4 (by decide)) (M:=100) rfl fun s order hd hk aa rows av oa' oc' xa xc u1 hP=>?_
 obtain⟨rfl,rfl⟩:s=awE.1∧order=awE.2:=by
  have:=n0l l0E (s,order) hk
  exact⟨congrArg Prod.fst this,congrArg Prod.snd this⟩
 have hl:decide (0<y5 awE.1.live 2)=false:=by decide +kernel
 rw[hl]
 rw[r09]at hP ⊢
 have t1:∀u',u'.heap=(u1.alloc (.cells #[vL aa 0 2 2,.slice oa' awE.2.length oc',.slice xa ([0,1]:List Int).length xc,.bool false] 29)).heap→AwT u' u1.heap.size:=fun u' e=>s0b hP r07 r08 (by rw[o0P];rfl) e
 have k2:b0m u u1:=⟨hP.size,hP.old⟩
 clear hk hd b0 b1 b2 b3 b4 hP
 refine W5 (F:=F0) (Stop:=fun a u2=>a=G (c.finish (.bool true)) cs∧u1.heap.size≤u2.heap.size∧∀r,r<u1.heap.size→u2.heap[r]? =u1.heap[r]?)
  (y0b K1 (Nat.zero_le _) hA fun A hA=>?_) fun a u2 ⟨ha,hs2,ho2⟩=>?_
 ·have q1:=t1 _ rfl
  have ho:∀r,r<u1.heap.size→(u1.alloc (.cells #[vL aa 0 2 2,.slice oa' awE.2.length oc',.slice xa ([0,1]:List Int).length xc,.bool false] 29)).heap[r]? =u1.heap[r]?:=fun r hr=>o0 _ _ hr
  have hz:(u1.alloc (.cells #[vL aa 0 2 2,.slice oa' awE.2.length oc',.slice xa ([0,1]:List Int).length xc,.bool false] 29)).heap.size=u1.heap.size+1:=by simp
  generalize u1.alloc (.cells #[vL aa 0 2 2,.slice oa' awE.2.length oc',.slice xa ([0,1]:List Int).length xc,.bool false] 29)=V at q1 ho hz ⊢
  refine o0g m0V Z7 (by kernel_rfl) (by decide) (R:=fun A u=>A.getD 0 undef= .bool true∧u.heap=V.heap) (fun τ e=>o0Q (w:=retape V τ e) (q1.heap rfl) hA) fun A2 w2 τ e t' hR hgd=>?_
  obtain⟨r1,r2⟩:=hR
  rw[Array.getD_eq_getD_getElem?]at r1
  have r2:w2.heap=V.heap:=r2
  refine i2 (fn:=Tryd.f7) (v:=.bool true) rfl rfl Tryd.func7 (fun d=>by simp[results,Tryd.f7,go_sem,r1]) (fun d e he=>by simp[results,Tryd.f7,go_sem,r1]at he) (.stop fun d=>⟨rfl,?_,fun r hr=>?_⟩)
  ·show _≤w2.heap.size
   rw[r2];omega
  ·show w2.heap[r]? =_
   rw[r2];exact ho r hr
 ·subst ha
  exact K u2 (k1.trans (k2.trans (.of hs2 ho2)))
end
section
variable{w w':World}
def b0o(l:List SA):List Value:=(l.map fun a=>a.v.cells).flatten
theorem g0l(l:List SA):∀k a,l[k]? =some a→(b0o l)[k*3]? =some (.bool a.an.1)∧(b0o l)[k*3+1]? =some (vI a.an.2.1)∧(b0o l)[k*3+2]? =some (.slice a.la a.ll a.lc):=by
 induction l with
 | nil=>intro k a h;simp at h
 | cons x t ih=>
   intro k a h
   have e:b0o (x::t)= .bool x.an.1::vI x.an.2.1:: .slice x.la x.ll x.lc::b0o t:=rfl
   rw[e]
   cases k with
   | zero=>
     simp at h
     subst h
     exact⟨rfl,rfl,rfl⟩
   | succ k=>
     have h:t[k]? =some a:=by simpa using h
     obtain⟨h1,h2,h3⟩:=ih k a h
     rw[show(k+1)*3=k*3+3 by omega]
     exact⟨by simpa using h1,by simpa [show k*3+3+1=k*3+1+3 by omega]using h2,by simpa [show k*3+3+2=k*3+2+3 by omega]using h3⟩
structure SAL(a:SA)(w:World):Prop where
 l:a.ll=a.an.2.2.length
 r:T9 w a.la (a.an.2.2.map fun v=>vI v)
theorem SAL.heap{a:SA}(h:SAL a w)(e:w'.heap=w.heap):SAL a w':=⟨h.l,h.r.heap e⟩
theorem SAL.of{a:SA}(h:SAU a w):SAL a w:=by
 obtain⟨an,la,ll,lc⟩:=a
 have h1:w.ownsRow 0 2 1 (.slice la ll lc) an.2.2.length (an.2.2.map fun v=>vI v):=h
 have hl:ll=an.2.2.length:=by
  rcases h1.2 with⟨e,h5⟩|⟨_,_,_,e,_⟩
  ·cases e;exact h5.symm
  ·cases e;rfl
 subst hl
 exact⟨rfl,p0N h1⟩
end
section
variable{w w':World}
structure Old(w w':World):Prop where
 sz:w.heap.size≤w'.heap.size
 eq:∀r,r<w.heap.size→w'.heap[r]? =w.heap[r]?
theorem Old.refl(w:World):Old w w:=⟨Nat.le_refl _,fun _ _=>rfl⟩
theorem Old.of(h:w'.heap=w.heap):Old w w':=⟨by rw[h];exact Nat.le_refl _,fun r _=>by rw[h]⟩
theorem Old.trans{u:World}(h:Old w w')(k:Old w' u):Old w u:=⟨Nat.le_trans h.sz k.sz,fun r hr=>(k.eq r (Nat.lt_of_lt_of_le hr h.sz)).trans (h.eq r hr)⟩
theorem Old.cell(h:Old w w'){a:Addr}{v:Value}(hc:w.cell? a=some v):w'.cell? a=some v:=by
 obtain⟨c,e,z,ho⟩:=X4 hc
 have:=h.eq _ (D4 ho)
 rw[← hc]
 unfold World.cell?
 simp only[this]
theorem T9.grow{a:Option Addr}{xs:List Value}(h:T9 w a xs)(k:Old w w'):T9 w' a xs:=
 ⟨fun j x hx=>by
  obtain⟨b,o,h1,h2⟩:=h.c j x hx
  exact⟨b,o,h1,k.cell h2⟩⟩
def opC(l:List I6):List Value:=(l.map fun o=>[Value.int .i64 o.kd,vI o.a,vI o.b,vI o.c]).flatten
theorem q0W(l m:List I6):opC (l++m)=opC l++opC m:=by simp[opC]
theorem r0w(l:List I6):∀k o,l[k]? =some o→(opC l)[k*4]? =some (vI o.kd)∧(opC l)[k*4+1]? =some (vI o.a)∧(opC l)[k*4+2]? =some (vI o.b)∧(opC l)[k*4+3]? =some (vI o.c):=by
 induction l with
 | nil=>intro k o h;simp at h
 | cons x l ih=>
   intro k o h
   have e:opC (x::l)=Value.int .i64 x.kd::vI x.a::vI x.b::vI x.c::opC l:=rfl
   cases k with
   | zero=>
     simp only[List.getElem?_cons_zero,Option.some.injEq]at h
     subst h
     simp[e]
   | succ k=>
     have:=ih k o (by simpa using h)
     have e2:(k+1)*4=k*4+1+1+1+1:=by omega
     rw[e,e2]
     simpa using this
structure b0F(w wr:World)(ov:Value)(l:List I6):Prop where
 row:wr.ownsRow 0 44 4 ov l.length (opC l)
 size:w.heap.size≤wr.heap.size
 old:∀r,r<w.heap.size→wr.heap[r]? =w.heap[r]?
 new:∀g,ov.ownBlock=some g→w.heap.size≤g
structure N5(w wr:World)(ov:Value)(i:Nat)(xa:Nat→Option Addr)(xc:Nat→Nat)(ops:Nat→List I6):Prop where
 row:wr.ownsRow 0 32 1 ov i ((List.range i).map fun r=>.slice (xa r) (ops r).length (xc r))
 new:∀g,ov.ownBlock=some g→w.heap.size≤g
 old:Old w wr
 inn:∀r,r<i→wr.ownsRow 0 44 4 (.slice (xa r) (ops r).length (xc r)) (ops r).length (opC (ops r))∧∀g,(Value.slice (xa r) (ops r).length (xc r)).ownBlock=some g→w.heap.size≤g
theorem q0U:∃i z,Tryd.prog.info? 44=some i∧i.zero=some z∧i.size=4∧i.bytes=32∧z.cells.size=4:=n0r (by kernel_rfl)
theorem q0T:∃i z,Tryd.prog.info? 32=some i∧i.zero=some z∧i.size=1∧i.bytes=24∧z.cells.size=1:=n0r (by kernel_rfl)
theorem b0F.app{wr w1:World}{oa:Option Addr}{oc g cap k:Nat}{l:List I6}{o:I6}{ob:Obj}(h:b0F w wr (.slice oa l.length oc) l)(hk:l.length=k)
 (hown:w1.ownsRow 0 44 4 (vL g 0 (k+1) cap) (k+1) (opC l++[vI o.kd,vI o.a,vI o.b,vI o.c])) (hgrow:(wr.alloc ob).grownBy w1 (Value.slice oa k oc).ownBlock)
 (hfr:(Value.slice (some ⟨g,0,none⟩) (k+1) cap).ownBlock=(Value.slice oa k oc).ownBlock∨∃g',(Value.slice (some ⟨g,0,none⟩) (k+1) cap).ownBlock=some g'∧wr.heap.size+1≤g'):b0F w w1 (vL g 0 (k+1) cap) (l++[o]):=by
 subst hk
 have hs:=h.size
 have hgs:=hgrow.size
 simp only[World.size_alloc]at hgs
 refine⟨?_,by omega,fun r hr=>(b0p hgrow (by omega) fun e=>?_).trans (h.old r hr),fun g' hg=>?_⟩
 ·rw[q0W,show(l++[o]).length=l.length+1 by simp]
  exact hown
 ·have:=h.new r e.symm
  omega
 ·rcases hfr with e|⟨g2,e1,e2⟩
  ·exact h.new g' (by rw[← e];exact hg)
  ·rw[hg]at e1
   cases e1
   omega
theorem d9{base n size:Nat}{e:TypeId}{v:Value}{xs:List Value}(h:w.ownsRow base e size v n xs)(hk:∀b c,v.ownBlock=some b→w.heap[b]? =some (.cells c e (0,0))→w'.heap[b]? =w.heap[b]?):w'.ownsRow base e size v n xs:=by
 refine⟨h.1,?_⟩
 rcases h.2 with h2|⟨b,cap,cur,rfl,h3,h4,h5⟩
 ·exact .inl h2
 ·exact .inr ⟨b,cap,cur,rfl,h3,(hk b cur rfl h4).trans h4,h5⟩
theorem N5.app{w1 wr w3:World}{oa pa:Option Addr}{oc pc i j g cap:Nat}{xa:Nat→Option Addr}{xc:Nat→Nat}{ops:Nat→List I6}{ob:Obj}(h:N5 w w1 (.slice oa i oc) i xa xc ops)(p:b0F w1 wr (.slice pa j pc) (ops i))(hj:(ops i).length=j)
 (hown:w3.ownsRow 0 32 1 (vL g 0 (i+1) cap) (i+1) ((List.range i).map (fun r=>Value.slice (xa r) (ops r).length (xc r))++[.slice pa j pc])) (hgrow:(wr.alloc ob).grownBy w3 (Value.slice oa i oc).ownBlock)
 (hfr:(Value.slice (some ⟨g,0,none⟩) (i+1) cap).ownBlock=(Value.slice oa i oc).ownBlock∨∃g',(Value.slice (some ⟨g,0,none⟩) (i+1) cap).ownBlock=some g'∧wr.heap.size+1≤g'):
 N5 w w3 (vL g 0 (i+1) cap) (i+1) (fun r=>if r=i then pa else xa r) (fun r=>if r=i then pc else xc r) ops:=by
 have hs:=p.size
 have hs0:=h.old.sz
 have hgs:=hgrow.size
 simp only[World.size_alloc]at hgs
 have hrow:wr.ownsRow 0 32 1 (.slice oa i oc) i ((List.range i).map fun r=>.slice (xa r) (ops r).length (xc r)):=d9 h.row fun b c _ hb=>p.old b (D4 hb)
 have hkeep:∀(b:Nat) (c:Array Value),wr.heap[b]? =some (Obj.cells c 44 (0,0))→w3.heap[b]? =wr.heap[b]?:=fun b c hb=>b0p hgrow (D4 hb) (x9 hrow hb (by decide))
 refine⟨?_,fun g' hg=>?_,⟨by omega,fun r hr=>(b0p hgrow (by omega) fun e=>?_).trans ((p.old r (by omega)).trans (h.old.eq r hr))⟩,fun r hr=>?_⟩
 ·have e:(List.range (i+1)).map (fun r=>Value.slice (if r=i then pa else xa r) (ops r).length (if r=i then pc else xc r))=(List.range i).map (fun r=>Value.slice (xa r) (ops r).length (xc r))++[.slice pa j pc]:=by
   rw[List.range_succ,List.map_append]
   congr 1
   ·refine List.map_congr_left fun r hr=>?_
    have:=List.mem_range.1 hr
    rw[if_neg (by omega),if_neg (by omega)]
   ·simp[hj]
  rw[e]
  exact hown
 ·rcases hfr with e|⟨g2,e1,e2⟩
  ·exact h.new g' (by rw[← e];exact hg)
  ·rw[hg]at e1
   cases e1
   omega
 ·have:=h.new r e.symm
  omega
 ·by_cases e:r=i
  ·subst e
   simp only[if_pos]
   rw[hj]
   have hp:=p.row
   rw[hj]at hp
   exact⟨d9 hp fun b c _ hb=>hkeep b c hb,fun g hg=>by have:=p.new g hg;omega⟩
  ·simp only[if_neg e]
   obtain⟨h1,h2⟩:=h.inn r (by omega)
   exact⟨d9 h1 fun b c _ hb=>by
    have e1:=p.old b (D4 hb)
    exact(hkeep b c (e1.trans hb)).trans e1,h2⟩
theorem N5.base{w0 wr:World}{ov:Value}{i:Nat}{xa:Nat→Option Addr}{xc:Nat→Nat}{ops:Nat→List I6}(h:N5 w wr ov i xa xc ops)(e:w0.heap=w.heap):N5 w0 wr ov i xa xc ops:=
 ⟨h.row,fun g hg=>by rw[e];exact h.new g hg,⟨by rw[e];exact h.old.sz,fun r hr=>by rw[e]at hr ⊢;exact h.old.eq r hr⟩,fun r hr=>⟨(h.inn r hr).1,fun g hg=>by rw[e];exact(h.inn r hr).2 g hg⟩⟩
structure g0o(w:World)(x:Value)(m size:Nat)(news:List Value):Prop where
 h:(x= .slice none 0 0∧m=0∧news=[])∨∃a c,x= .slice (some a) m c∧news.length=m*size∧∀j u,news[j]? =some u→w.cell? (a.add j)=some u
 o:∀u∈news,u.oneCell'=true
theorem l0I{base n m size g cap:Nat}{e:TypeId}{xs ys:List Value}(h:w.ownsRow base e size (vL g 0 (n+m) cap) (n+m) (xs++ys))(hl:xs.length=n*size):w.ownsRow base e size (vL g 0 n cap) n xs:=by
 rcases h.2 with⟨h1,h2⟩|⟨b,cap',cur,h1,h2,h3,h4,h5,h6,h7⟩
 ·cases h1
 ·cases h1
  refine⟨hl,.inr ⟨g,cap,cur,rfl,h2,h3,by omega,h5,h6,?_⟩⟩
  have:(cur.toList.take ((n+m)*size)).take (n*size)=xs:=by
   rw[h7,← hl]
   exact List.take_left
  rw[List.take_take,Nat.min_eq_left (Nat.mul_le_mul_right _ (by omega))]at this
  exact this
theorem c0V{P:Program}{w:World}(t ty e:TypeId)(i:TypeInfo)(z:Value)(size bytes:Nat)(ht:P.underlying t=some (.slice e))(hi:P.info? e=some i)(hz:i.zero=some z)
 (P5:i.size=size) (hby:i.bytes=bytes) (hzs:z.cells.size=size) (hsz:0<size)
 (v:Value) (n:Nat) (xs:List Value) (hown:w.ownsRow 0 e size v n xs) (x:Value) (m:Nat) (news:List Value) (hs:g0o w x m size news) (h63:n+m≤maxLen) (hbytes:(n+m)*bytes≤140737488355328):
 ∃v' w',(Builtin.append_ #[t,t] ty #[v,x]).run P w= .ok v' w'∧w'.ownsRow 0 e size v' (n+m) (xs++news)∧w.grownBy w' v.ownBlock∧(v'.ownBlock=v.ownBlock∨∃g,v'.ownBlock=some g∧w.heap.size≤g)∧w'.ownsRow 0 e size v n xs:=by
 rcases hs.h with⟨rfl,rfl,rfl⟩|⟨a,c,rfl,hl,hnews⟩
 ·refine⟨v,w,run_append_owned_none (P:=P) w 0 t ty e i size ht hi v n xs hown,by simpa using hown,⟨rfl,rfl,rfl,Nat.le_refl _,fun _ _ _=>rfl⟩,.inl rfl,hown⟩
 ·rcases hown.2 with⟨rfl,rfl⟩|⟨g,cap,cur,rfl,h2,h3,h4,h5,h6,h7⟩
  ·obtain⟨v',w',r1,r2,r3,r4⟩:=b0T (P:=P) (w:=w) t ty e i z size bytes ht hi hz P5 hby hzs hsz _ 0 xs hown a m c news hl hnews hs.o h63 hbytes
   exact⟨v',w',r1,r2,r3,r4,⟨hown.1,.inl ⟨rfl,rfl⟩⟩⟩
  ·by_cases hroom:n+m≤cap
   ·obtain⟨w',hr,r1,r2⟩:=run_append_own_spare (P:=P) w 0 t ty e i size ht hi P5 g n cap xs hown a m c news hl hnews hs.o hroom
    exact⟨_,w',hr,r1,r2,.inl rfl,l0I r1 hown.1⟩
   ·obtain⟨v',w',hrun,r1,r2⟩:=run_append_arg_grows (P:=P) w t ty e i z size bytes ht hi hz P5 hby hzs hsz ⟨g,0,none⟩ n cap xs hown.1 (l0j hown) a m c news hl hnews (by omega) h63 hbytes
    refine⟨v',w',hrun,C4 (Nat.zero_le _) r1,⟨r2.os,r2.tape,r2.output,r2.size,fun k hk _=>r2.block k hk (by simp)⟩,?_,d9 hown fun b c hb hc=>r2.block b (D4 hc) (by simp)⟩
    rcases r1.2 with⟨rfl,h0⟩|⟨g',cap',cur',rfl,h2,_⟩
    ·omega
    ·exact .inr ⟨g',rfl,h2⟩
theorem c0x{P:Program}{ops:Array Oper}{rest:List Oper}{o:Oper}{a:Act}{w:World}{Q:Exit→Act→World→Prop}(hgd:Region.wanted o (yielded ops a.tmps)=true)(s x:Operand)(t:TypeId)
 (ho:o.op= .call {callee:=.builtin .append,args:= #[s,x],argTypes:= #[t,t]})
 (e:TypeId) (i:TypeInfo) (z:Value) (size bytes:Nat) (h1:P.underlying t=some (.slice e)) (h2:P.info? e=some i) (h3:i.zero=some z) (h4:i.size=size) (h5:i.bytes=bytes) (h6:z.cells.size=size) (h7:0<size)
 (v:Value) (n:Nat) (olds:List Value) (hs:a.eval s=v) (hown:w.ownsRow 0 e size v n olds)
 (xv:Value) (m:Nat) (news:List Value) (hx:a.eval x=xv) (hsr:g0o w xv m size news)
 (b1:n+m≤maxLen) (b2:(n+m)*bytes≤140737488355328)
 (h:∀v' w',w'.ownsRow 0 e size v' (n+m) (olds++news)→w.grownBy w' v.ownBlock→(v'.ownBlock=v.ownBlock∨∃g,v'.ownBlock=some g∧w.heap.size≤g)→w'.ownsRow 0 e size v n olds→wpList P ops Q rest (a.put o.dst v') w'):wpList P ops Q (o::rest) a w:=
 wpList_step fun _ hK=>by
  rw[if_pos hgd]
  obtain⟨v',w',hrun,r1,r2,r3,r4⟩:=c0V (P:=P) (w:=w) t o.type e i z size bytes h1 h2 h3 h4 h5 h6 h7 v n olds hown xv m news hsr b1 b2
  unfold Oper.wp execOp
  simp only[ho,resolve,invoke,builtin,Sem.run_bind,Sem.run_pure,Result.andThen_ok,List.map_toArray,List.map_cons,List.map_nil,hs,hx,hrun]
  exact hK _ _ (h v' w' r1 r2 r3 r4)
theorem q0B{base n size:Nat}{e:TypeId}{v:Value}{xs:List Value}(h:w.ownsRow base e size v n xs):∃a c,v= .slice a n c:=by
 rcases h.2 with⟨rfl,rfl⟩|⟨g,cap,cur,rfl,_⟩
 ·exact⟨_,_,rfl⟩
 ·exact⟨_,_,rfl⟩
def r9(k:Nat):List I6:=List.replicate k ⟨4,0,0,0⟩
theorem N8(k:Nat):(r9 k).length=k:=by simp[r9]
theorem k0O(k:Nat):r9 (k+1)=r9 k++[⟨4,0,0,0⟩]:=by simp[r9,List.replicate_succ']
structure g0p(w:World)(la:Option Addr)(B:List Nat):Prop where
 c:∀r x,B[r]? =some x→∃b o,la=some ⟨b,o,none⟩∧w.cell? ⟨b,o+r,none⟩=some (.int .u8 (x:Nat))∧x<256
theorem g0p.grow{la:Option Addr}{B:List Nat}(h:g0p w la B)(k:Old w w'):g0p w' la B:=⟨fun r x hx=>by
 obtain⟨b,o,h1,h2,h3⟩:=h.c r x hx
 exact⟨b,o,h1,k.cell h2,h3⟩⟩
def clN(B:List Nat)(i:Nat):List I6:=r9 (B.getD i 0 % 12)
theorem g0z{w0:World}(h0:w0.heap=w.heap){la:Option Addr}{lc:Nat}{B:List Nat}(hG:g0p w la B)(hBl:B.length<9223372036854775808):
 X8 Tryd.prog Tryd.f22 #[.slice la B.length lc] w fun x w'=>∃oa oc xa xc,x= .slice oa (min B.length 8) oc∧N5 w0 w' (.slice oa (min B.length 8) oc) (min B.length 8) xa xc (clN B):=by
 obtain⟨i0,z0,hi,hz0,hz1,hz2,hz3⟩:=q0U
 obtain⟨i1,z1,hi',hz0',hz1',hz2',hz3'⟩:=q0T
 have E:Aside (g0p w la B):=hG
 clear hG
 generalize hn:min B.length 8=n
 refine I2 rfl ?_
 simp only[Tryd.ntmps22,List.size_toArray,List.length_cons,List.length_nil,Nat.reduceAdd,Nat.reduceSub,Array.replicate_succ,Array.replicate_zero,List.push_toArray,List.append_toArray,List.nil_append,List.cons_append]
 go_wp2
 go_loopg [3,4,5,6] n (fun g ov iv x5 x6 wr=>∃(i:Nat) (oa:Option Addr) (oc:Nat) (xa:Nat→Option Addr) (xc:Nat→Nat),i≤n∧ov= .slice oa i oc∧iv=vI i∧g=n - i∧N5 w wr (.slice oa i oc) i xa xc (clN B))
 case atStart=>exact⟨0,none,0,fun _=>none,fun _=>0,Nat.zero_le _,rfl,rfl,rfl,⟨⟨rfl,.inl ⟨rfl,rfl⟩⟩,fun g h=>(by cases h),Old.refl _,fun r hr=>(by omega)⟩⟩
 case round=>
  obtain⟨i,oa,oc,xa,xc,hi9,rfl,rfl,rfl,hT⟩:=hrel
  obtain⟨w1,e1⟩:∃w1,w1=wr:=⟨wr,rfl⟩
  subst e1
  have T:Aside (N5 w w1 (.slice oa i oc) i xa xc (clN B)):=hT
  clear hT
  rcases Nat.lt_or_ge i n with hlt|hge
  ·have h1:i<B.length:=by omega
   have h2:(i:Int)<8:=by omega
   have hwr:IntKind.i64.wrap ((i:Int)+1)=(i:Int)+1:=IntWalk.i64_in _ (by omega)
   obtain⟨x,hx⟩:∃x,B[i]? =some x:=⟨_,List.getElem?_eq_getElem h1⟩
   have hB:Aside (B.getD i 0=x):=by
    have:B.getD i 0=x:=by rw[List.getD_eq_getElem?_getD,hx];rfl
    exact this
   have HX:Aside (B[i]? =some x):=hx
   have hx256:x<256:=by
    obtain⟨_,_,_,_,h⟩:=E.out.c i x hx
    exact h
   have hm:IntKind.u8.wrap ((x:Int).tmod 12)=((x % 12:Nat):Int):=by
    rw[show(x:Int).tmod 12=((x % 12:Nat):Int)from rfl,IntKind.wrap_u8]
    omega
   have hm2:IntKind.i64.wrap ((x % 12:Nat):Int)=((x % 12:Nat):Int):=IntWalk.i64_in _ (by omega)
   generalize hmm:x % 12=m at hm hm2
   clear hx
   go_wp2
   go_loopg [5,6] m (fun g ov jv w2=>∃(j:Nat) (pa:Option Addr) (pc:Nat),j≤m∧ov= .slice pa j pc∧jv=vI j∧g=m - j∧b0F w1 w2 (.slice pa j pc) (r9 j))
   case atStart=>exact⟨0,none,0,Nat.zero_le _,rfl,rfl,rfl,⟨⟨rfl,.inl ⟨rfl,rfl⟩⟩,Nat.le_refl _,fun r _=>rfl,fun g h=>by cases h⟩⟩
   case round=>
    obtain⟨j,pa,pc,hj,rfl,rfl,rfl,hP⟩:=hrel
    have P:Aside (b0F w1 wr (.slice pa j pc) (r9 j)):=hP
    have hO:Old w wr:=T.out.old.trans ⟨hP.size,hP.old⟩
    clear hP
    obtain⟨b1,o1,rfl,f1,_⟩:=(E.out.grow hO).c i x HX.out
    clear hO
    have hrow:=P.out.row
    rw[N8]at hrow
    have hsz:=P.out.size
    rcases Nat.lt_or_ge j m with hlt2|hge2
    ·have hwr2:IntKind.i64.wrap ((j:Int)+1)=(j:Int)+1:=IntWalk.i64_in _ (by omega)
     go_wp2_with (first
      | (at_builtin;refine G7 rfl (.tmp 27) (.tmp 29) 32 rfl 44 i0 z0 4 32 Tryd.underlying32 hi hz0 hz1 hz2 hz3 (by decide) (.slice pa j pc) j (opC (r9 j)) rfl ?c0 ⟨wr.heap.size,0,none⟩ 1 1 [vI 4,vI 0,vI 0,vI 0] rfl rfl ?c1 ?c2 ?c3 ?c4 ?_)
      | go_in)
     case c0=>exact World.ownsRow.alloc hrow _
     case c1=>exact f0f (X:=wr) (l:=[vI 4,vI 0,vI 0,vI 0]) rfl
     case c2=>intro u hu;simp at hu;rcases hu with rfl|rfl<;>rfl
     case c3=>unfold maxLen;omega
     case c4=>omega
     ·intro v' w3 hown hgrow hfr
      obtain⟨g,cap,rfl⟩:=l0e hown
      have F:Aside (b0F w1 w3 (vL g 0 (j+1) cap) (r9 (j+1))):=by
       have h:=P.out
       have:=b0F.app (o:=⟨4,0,0,0⟩) (by rw[N8];exact h) (N8 j) hown hgrow hfr
       rw[k0O]
       exact this
      clear hown hgrow hfr hrow
      go_wp2
      go_roundg (m - (j+1))
      case measure=>omega
      case rel=>exact⟨j+1,some ⟨g,0,none⟩,cap,hlt2,rfl,rfl,rfl,F.out⟩
    ·obtain rfl:j=m:=by omega
     have hrow:wr.ownsRow 0 32 1 (.slice oa i oc) i ((List.range i).map fun r=>.slice (xa r) (clN B r).length (xc r)):=d9 T.out.row fun b c _ hb=>P.out.old b (D4 hb)
     go_wp2_with (first
      | (at_builtin;refine G7 rfl (.tmp 31) (.tmp 33) 23 rfl 32 i1 z1 1 24 Tryd.underlying23 hi' hz0' hz1' hz2' hz3' (by decide) (.slice oa i oc) i ((List.range i).map fun r=>.slice (xa r) (clN B r).length (xc r)) rfl ?d0 ⟨wr.heap.size,0,none⟩ 1 1 [.slice pa j pc] rfl rfl ?d1 ?d2 ?d3 ?d4 ?_)
      | go_in)
     case d0=>exact World.ownsRow.alloc hrow _
     case d1=>exact f0f (X:=wr) (l:=[.slice pa j pc]) rfl
     case d2=>intro u hu;simp at hu;subst hu;rfl
     case d3=>unfold maxLen;omega
     case d4=>omega
     ·intro v' w3 hown hgrow hfr
      obtain⟨g,cap,rfl⟩:=l0e hown
      have F:Aside (N5 w w3 (vL g 0 (i+1) cap) (i+1) (fun r=>if r=i then pa else xa r) (fun r=>if r=i then pc else xc r) (clN B)):=T.out.app (j:=j) (by unfold clN;rw[hB.out,hmm];exact P.out) (by unfold clN;rw[hB.out,hmm,N8]) hown hgrow hfr
      clear hown hgrow hfr hrow
      go_wp2
      go_roundg (n - (i+1))
      case measure=>omega
      case rel=>exact⟨i+1,_,_,_,_,hlt,rfl,rfl,rfl,F.out⟩
  ·obtain rfl:i=n:=by omega
   by_cases h1:i<B.length
   ·have h2:decide ((i:Int)<8)=false:=by simp;omega
    have h3:decide (i<8)=false:=by simp;omega
    go_wp2
    go_ret
    exact⟨_,rfl,_,_,_,_,rfl,T.out.base h0⟩
   ·go_wp2
    go_ret
    exact⟨_,rfl,_,_,_,_,rfl,T.out.base h0⟩
end
section
variable{w w':World}
def p6:List Int→List Int
 | []=>[]
 | v::t=>(min v 300)::t
theorem h0M(vs:List Int):(p6 vs).length=vs.length:=by cases vs<;>rfl
theorem q0S:∃i z,Tryd.prog.info? 2=some i∧i.zero=some z∧i.size=1∧i.bytes=8∧z.cells.size=1:=n0r (by kernel_rfl)
theorem u0B{va:Option Addr}{vc:Nat}{vs:List Int}(hv:a0R w va vs)(h0:va=none→vc=0)(ho:∀a,va=some a→∃b o,a=⟨b,o,none⟩):g0o w (.slice va vs.length vc) vs.length 1 (vs.map fun v=>vI v):=by
 refine⟨?_,fun u hu=>by rw[List.mem_map]at hu;obtain⟨v,_,rfl⟩:=hu;rfl⟩
 cases va with
 | none=>
   obtain rfl:=h0 rfl
   cases vs with
   | nil=>exact .inl ⟨rfl,rfl,rfl⟩
   | cons v t=>obtain⟨_,_,h,_⟩:=hv 0 v rfl;cases h
 | some a=>
   refine .inr ⟨a,vc,rfl,by simp,fun j u hj=>?_⟩
   rw[List.getElem?_map]at hj
   obtain⟨x,hx,rfl⟩:=Option.map_eq_some_iff.1 hj
   obtain⟨b,o,e,h⟩:=hv j x hx
   cases e
   have e2:(⟨b,o,none⟩:Addr).add j=⟨b,o+j,none⟩:=by unfold Addr.add;split<;>simp_all
   rw[e2]
   exact h
theorem q0P{va:Option Addr}{vc:Nat}{vs:List Int}(hv:a0R w va vs)(h0:va=none→vc=0)(ho:∀a,va=some a→∃b o,a=⟨b,o,none⟩)(hl:vs.length≤2000000):
 X8 Tryd.prog Tryd.f21 #[.slice va vs.length vc] w fun x w'=>∃g gc,x= .slice g (p6 vs).length gc∧a0R w' g (p6 vs)∧(p6 vs).length≤gc∧Old w w':=by
 obtain⟨i0,z0,hi,hz0,hz1,hz2,hz3⟩:=q0S
 have E:Aside (g0o w (.slice va vs.length vc) vs.length 1 (vs.map fun v=>vI v)):=u0B hv h0 ho
 clear hv h0 ho
 refine I2 rfl ?_
 simp only[Tryd.ntmps21,List.size_toArray,List.length_cons,List.length_nil,Nat.reduceAdd,Nat.reduceSub,Array.replicate_succ,Array.replicate_zero,List.push_toArray,List.append_toArray,List.nil_append,List.cons_append]
 go_wp2_with (first
  | (at_builtin;refine c0x rfl (.tmp 4) (.tmp 5) 22 rfl 2 i0 z0 1 8 Tryd.underlying22 hi hz0 hz1 hz2 hz3 (by decide) (.slice none 0 0) 0 [] rfl (World.ownsRow_nil _ _ _ _) (.slice va vs.length vc) vs.length (vs.map fun v=>.int .i64 v) rfl E.out ?c1 ?c2 ?_)
  | go_in)
 case c1=>unfold maxLen;omega
 case c2=>omega
 intro v' w1 hown hgrow hfr _
 have hown:w1.ownsRow 0 2 1 v' vs.length (vs.map fun v=>vI v):=by simpa using hown
 have hold:Old w w1:=⟨hgrow.size,fun r hr=>hgrow.block r hr (by simp[Value.ownBlock])⟩
 obtain⟨g,gc,rfl⟩:=q0B hown
 cases vs with
 | nil=>
   go_wp2
   go_ret
   exact⟨_,rfl,g,gc,rfl,fun i x h=>(by cases h),Nat.zero_le _,hold⟩
 | cons v t=>
   rcases hown.2 with⟨e,e0⟩|⟨gb,cap,cur,e,b0,b1,b2,b3,b4⟩
   ·simp at e0
   ·cases e
    have hgb:w.heap.size≤gb:=by
     rcases hfr with h|⟨q,h,h2⟩
     ·simp[Value.ownBlock]at h
     ·simp only[Value.ownBlock,Option.some.injEq]at h;omega
    have hrow:∀i x,(v::t)[i]? =some x→w1.cell? ⟨gb,i,none⟩=some (vI x):=fun i x hx=>by
     obtain⟨b,cp,e,h⟩:=G8 hown (k:=i) (x:=vI x) (by rw[List.getElem?_map,hx];rfl)
     cases e
     exact h.c
    have c0:=hrow 0 v rfl
    have z0':w1.frozen? ⟨gb,0,none⟩=false:=by simp[World.frozen?,b1]
    have H:Aside ((∀i x,(v::t)[i]? =some x→w1.cell? ⟨gb,i,none⟩=some (vI x))∧Old w w1∧w.heap.size≤gb∧(v::t).length≤gc∧w1.heap[gb]? =some (.cells cur 2 (0,0))):=⟨hrow,hold,hgb,b2,b1⟩
    clear hrow hold hgb b0 b1 b2 b3 b4 hown hgrow hfr E
    simp only[List.length_cons]at*
    have hl1:(0:Int)<(t.length:Int)+1:=by omega
    have hl2:decide ((0:Int)<(t.length:Int)+1)=true:=decide_eq_true hl1
    go_wp2
    go_ret
    obtain⟨h1,h2,h3,h4,h5⟩:=H.out
    refine⟨_,rfl,_,_,rfl,fun i x hx=>⟨gb,0,rfl,?_⟩,by simpa [p6]using h4,⟨by simpa using h2.sz,fun r hr=>(m0 _ _ _ (by simp only;omega)).trans (h2.eq r hr)⟩⟩
    rw[Nat.zero_add]
    cases i with
    | zero=>
      have hx:some (min v 300)=some x:=hx
      cases hx
      have hlt:0<cur.size:=by
       have:=h1 0 v rfl
       simp only[World.cell?,h5]at this
       exact(Array.getElem?_eq_some_iff.1 (by simpa using this)).1
      have:=Y1 (o:=0) h5 (vI (min v 300))
      simp only[World.cell?,this]
      simp[hlt]
    | succ i=>
      have hx:t[i]? =some x:=hx
      rw[← h1 (i+1) x hx]
      have:=Y1 (o:=0) h5 (vI (min v 300))
      simp only[World.cell?,this,h5]
      simp
def K6(n:Nat)(b:List Bool)(x:Int):List Bool:=if 0≤x∧x<n then b.set x.toNat true else b
theorem i0f(n:Nat)(b:List Bool)(x:Int):(K6 n b x).length=b.length:=by unfold K6;split<;>simp
theorem e0Z(n:Nat)(l:List Int):∀b:List Bool,(l.foldl (K6 n) b).length=b.length:=by
 induction l with
 | nil=>intro b;rfl
 | cons x l ih=>intro b;rw[List.foldl_cons,ih,i0f]
def i0d(n:Nat)(l:List Int):List Bool:=l.foldl (K6 n) (List.replicate n false)
theorem m0Q(n:Nat)(l:List Int):(i0d n l).length=n:=by simp[i0d,e0Z]
theorem o05{n:Nat}{s:Z1}(hl:s.ws.length=(n+63) / 64)(x:Int){j:Nat}(hj:j<n):(⟨n,a0v n s.ws x⟩:Z1).has j=(s.has j || decide ((j:Int)=x)):=by
 unfold a0v
 split
 ·rename_i h
  have hw:x.toNat / 64<s.ws.length:=by omega
  have:=l0P (s:=⟨n,s.ws⟩) (w:=x.toNat / 64) (j:=x.toNat % 64) hw (Nat.mod_lt _ (by omega)) j
  have hb:bitI (x.toNat % 64)=bitI x.toNat:=by unfold bitI;rw[Nat.mod_mod]
  rw[hb]at this
  refine this.trans ?_
  congr 1
  by_cases e:(j:Int)=x
  ·have e2:j=x.toNat / 64*64+x.toNat % 64:=by omega
   rw[decide_eq_true e,decide_eq_true e2]
  ·have e2:¬j=x.toNat / 64*64+x.toNat % 64:=by omega
   rw[decide_eq_false e,decide_eq_false e2]
 ·rename_i h
  have e:¬(j:Int)=x:=by omega
  rw[decide_eq_false e,Bool.or_false]
  rfl
theorem p0U{n:Nat}(l:List Int):∀(ws:List (BitVec 64)) (b:List Bool),ws.length=(n+63) / 64→b.length=n→(∀j,j<n→b[j]? =some ((⟨n,ws⟩:Z1).has j))→∀j,j<n→(l.foldl (K6 n) b)[j]? =some ((⟨n,l.foldl (a0v n) ws⟩:Z1).has j):=by
 induction l with
 | nil=>exact fun ws b _ _ h=>h
 | cons x l ih=>
   intro ws b hl hb h
   rw[List.foldl_cons,List.foldl_cons]
   refine ih _ _ (by rw[m0v];exact hl) (by rw[i0f];exact hb) fun j hj=>?_
   rw[o05 (s:=⟨n,ws⟩) hl x hj]
   have h2:=h j hj
   unfold K6
   split
   ·rename_i hx
    rw[List.getElem?_set]
    by_cases e:(j:Int)=x
    ·have e2:x.toNat=j:=by omega
     rw[if_pos e2,if_pos (by omega),decide_eq_true e,Bool.or_true]
    ·have e2:¬x.toNat=j:=by omega
     rw[if_neg e2,h2,decide_eq_false e,Bool.or_false]
   ·rename_i hx
    have e:¬(j:Int)=x:=by omega
    rw[h2,decide_eq_false e,Bool.or_false]
theorem q0q(vs:List Int){j:Nat}(hj:j<c0i vs):(i0d (c0i vs) vs.tail)[j]? =some ((k0z vs).has j):=by
 refine p0U vs.tail _ _ (by simp) (by simp) (fun k hk=>?_) j hj
 rw[List.getElem?_replicate,if_pos hk]
 unfold Z1.has Z1.wd
 simp only[List.getD_eq_getElem?_getD,List.getElem?_replicate]
 split<;>simp
theorem t09:∃i z,Tryd.prog.info? 4=some i∧i.zero=some z∧i.size=1∧i.bytes=1∧z.cells= #[.bool false]:=by
 obtain⟨i,hi,h⟩:=Option.map_eq_some_iff.1 (show(Tryd.prog.info? 4).map (fun i=>(i.zero.map Value.cells,i.size,i.bytes))=some (some #[.bool false],1,1)by kernel_rfl)
 simp only[Prod.mk.injEq]at h
 obtain⟨z,hz,hc⟩:=Option.map_eq_some_iff.1 h.1
 exact⟨i,z,hi,hz,h.2.1,h.2.2,hc⟩
theorem u0U{m:Nat}(hm:m≤1024)(w:World):(Instr.makeSlice 69 (vI (m:Nat)) (vI (m:Nat))).run Tryd.prog w= .ok (vL w.heap.size 0 m m) (w.alloc (.cells (madeCells #[.bool false] m) 4)):=by
 obtain⟨i,z,hi,hz,hs,hb,hc⟩:=t09
 have:=run_make (P:=Tryd.prog) w 69 4 i _ Tryd.underlying69 hi hz .i64 .i64 m m (by omega) (by omega) (by rw[hb];omega) (by omega)
 rw[hs,hc]at this
 simpa using this
def g9(w:World)(b:Nat)(l:List Bool):Prop:=w.heap[b]? =some (.cells (l.map Value.bool).toArray 4 (0,0))
theorem g9.c{b:Nat}{l:List Bool}(h:g9 w b l){i:Nat}{x:Bool}(hx:l[i]? =some x):w.cell? ⟨b,i,none⟩=some (.bool x):=(L1 h (by simp[hx])).1
theorem g9.z{b:Nat}{l:List Bool}(h:g9 w b l)(i:Nat):w.frozen? ⟨b,i,none⟩=false:=by
 have h:w.heap[b]? =_:=h
 simp[World.frozen?,h]
theorem g9.set{b:Nat}{l:List Bool}(h:g9 w b l)(i:Nat)(x:Bool):g9 (w.setCell ⟨b,i,none⟩ (.bool x)) b (l.set i x):=by
 show(w.setCell ⟨b,i,none⟩ (.bool x)).heap[b]? =_
 rw[Y1 (o:=i) h (.bool x)]
 congr 2
 simp[List.map_set]
theorem o01(w:World)(n:Nat):g9 (w.alloc (.cells (madeCells #[.bool false] n) 4)) w.heap.size (List.replicate n false):=by
 show(World.heap _)[w.heap.size]? =_
 rw[heap_alloc_new]
 congr 2
 apply Array.toList_inj.1
 rw[toList_madeCells_one]
 simp
def P5(vs:List Int):Nat:=(min (max (vs.headD 0) 0) 300).toNat
theorem q0r{va:Option Addr}{vc:Nat}{vs:List Int}(hv:a0R w va vs)(hl:vs.length<9223372036854775807):
 X8 Tryd.prog Tryd.f24 #[.slice va vs.length vc] w fun x w'=>x=vL w.heap.size 0 (P5 vs) (P5 vs)∧g9 w' w.heap.size (i0d (P5 vs) vs.tail)∧Old w w'∧w'.heap.size=w.heap.size+1:=by
 obtain⟨n,hn⟩:∃n,n=P5 vs:=⟨_,rfl⟩
 have E:Aside (a0R w va vs∧n=P5 vs):=⟨hv,hn⟩
 have hn3:n≤300:=by rw[hn];unfold P5;omega
 have hm:=fun u=>u0U (m:=n) (by omega) u
 have hB0:Aside (g9 (w.alloc (.cells (madeCells #[.bool false] n) 4)) w.heap.size (List.replicate n false)):=o01 _ _
 have hS0:Aside ((w.alloc (.cells (madeCells #[.bool false] n) 4)).heap.size=w.heap.size+1∧∀r,r<w.heap.size→(w.alloc (.cells (madeCells #[.bool false] n) 4)).heap[r]? =w.heap[r]?):=⟨by simp,fun r hr=>o0 _ _ hr⟩
 refine I2 rfl ?_
 simp only[Tryd.ntmps24,List.size_toArray,List.length_cons,List.length_nil,Nat.reduceAdd,Nat.reduceSub,Array.replicate_succ,Array.replicate_zero,List.push_toArray,List.append_toArray,List.nil_append,List.cons_append]
 cases vs with
 | nil=>
   have e0:n=0:=by rw[hn];rfl
   subst e0
   clear hn hv
   have hm0:=hm w
   rw[show((0:Nat):Int)=0 from rfl]at hm0
   go_wp2
   go_loopg [5] 1 (fun g iv wr=>iv=vI 1∧g=1∧wr=w.alloc (.cells (madeCells #[.bool false] 0) 4))
   case atStart=>exact⟨rfl,rfl,rfl⟩
   case round=>
    obtain⟨rfl,rfl,rfl⟩:=hrel
    go_wp2
    go_ret
    exact⟨_,rfl,by rw[← E.out.2];rfl,by rw[← E.out.2];exact hB0.out,⟨by have:=hS0.out.1;omega,hS0.out.2⟩,hS0.out.1⟩
 | cons v t=>
   obtain⟨b,o,rfl,c0⟩:=hv 0 v rfl
   have hv2:min (max v 0) 300=(n:Int):=by
    rw[hn]
    unfold P5
    simp only[List.headD_cons]
    omega
   clear hn hv
   simp only[List.length_cons]at*
   have hl1:(0:Int)<(t.length:Int)+1:=by omega
   have hl2:decide ((0:Int)<(t.length:Int)+1)=true:=decide_eq_true hl1
   rw[Nat.add_zero]at c0
   have hm0:=hm w
   go_wp2
   go_loopg [5] (t.length+1) (fun g iv wr=>∃i:Nat,i≤t.length∧iv=vI ((i+1:Nat):Int)∧g=t.length+1 - i∧g9 wr w.heap.size ((t.take i).foldl (K6 n) (List.replicate n false))∧wr.heap.size=w.heap.size+1∧∀r,r<w.heap.size→wr.heap[r]? =w.heap[r]?)
   case atStart=>exact⟨0,Nat.zero_le _,rfl,rfl,hB0.out,hS0.out.1,hS0.out.2⟩
   case round=>
    obtain⟨i,hi,rfl,rfl,hb,hz,ho⟩:=hrel
    have R:Aside (g9 wr w.heap.size ((t.take i).foldl (K6 n) (List.replicate n false))∧wr.heap.size=w.heap.size+1∧∀r,r<w.heap.size→wr.heap[r]? =w.heap[r]?):=⟨hb,hz,ho⟩
    clear hb hz ho
    have hwr:IntKind.i64.wrap (((i+1:Nat):Int)+1)=((i+1+1:Nat):Int):=by rw[IntWalk.i64_in _ (by omega)];rfl
    rcases Nat.lt_or_ge i t.length with hlt|hge
    ·have hx:t[i]? =some t[i]:=List.getElem?_eq_getElem hlt
     obtain⟨b2,o2,e2,c1⟩:=E.out.1 (i+1) t[i] hx
     cases e2
     have c1':wr.cell? ⟨b,o+(i+1),none⟩=some (vI t[i]):=by
      rw[← c1];unfold World.cell?;rw[R.out.2.2 b (O6 c1)]
     have T:Aside (t.take (i+1)=t.take i++[t[i]]):=by
      have:t.take (i+1)=t.take i++[t[i]]:=by rw[List.take_add_one,hx];rfl
      exact this
     generalize t[i]=x at hx c1' T
     clear c1 hx
     have hd1:decide (((i+1:Nat):Int)<(t.length:Int)+1)=true:=decide_eq_true (by omega)
     have hd2:((i+1:Nat):Int)<(t.length:Int)+1:=by omega
     have hd3:i+1<t.length+1:=by omega
     by_cases hq:0≤x∧x<n
     ·obtain⟨q,rfl⟩:∃q:Nat,x=(q:Int):=⟨x.toNat,by omega⟩
      have hqn:q<n:=by omega
      have hqn2:(q:Int)<(n:Int):=by omega
      have hge:(0:Int)≤(q:Int):=by omega
      have hcq:wr.cell? ⟨w.heap.size,q,none⟩=some (.bool (((t.take i).foldl (K6 n) (List.replicate n false)).getD q false)):=R.out.1.c (by
       have hl:q<((t.take i).foldl (K6 n) (List.replicate n false)).length:=by rw[e0Z];simpa using hqn
       rw[List.getD_eq_getElem?_getD,List.getElem?_eq_getElem hl];rfl)
      have hzq:=R.out.1.z q
      have hp:Aside (K6 n ((t.take i).foldl (K6 n) (List.replicate n false)) (q:Int)=((t.take i).foldl (K6 n) (List.replicate n false)).set q true):=by
       have:K6 n ((t.take i).foldl (K6 n) (List.replicate n false)) (q:Int)=((t.take i).foldl (K6 n) (List.replicate n false)).set q true:=by unfold K6;rw[if_pos hq];rfl
       exact this
      clear hq
      go_wp2
      go_roundg (t.length+1 - (i+1))
      case measure=>omega
      case rel=>
       refine⟨i+1,hlt,rfl,rfl,?_,by simpa using R.out.2.1,fun r hr=>(m0 _ _ _ (by simp only;omega)).trans (R.out.2.2 r hr)⟩
       rw[T.out,List.foldl_append,List.foldl_cons,List.foldl_nil,hp.out]
       exact R.out.1.set q true
     ·have hp:Aside (K6 n ((t.take i).foldl (K6 n) (List.replicate n false)) x=(t.take i).foldl (K6 n) (List.replicate n false)):=by
       have:K6 n ((t.take i).foldl (K6 n) (List.replicate n false)) x=(t.take i).foldl (K6 n) (List.replicate n false):=by unfold K6;rw[if_neg hq]
       exact this
      by_cases hneg:x<0
      ·have hge:¬(0:Int)≤x:=by omega
       have hge2:decide ((0:Int)≤x)=false:=decide_eq_false hge
       clear hq
       go_wp2
       go_roundg (t.length+1 - (i+1))
       case measure=>omega
       case rel=>
        refine⟨i+1,hlt,rfl,rfl,?_,R.out.2.1,R.out.2.2⟩
        rw[T.out,List.foldl_append,List.foldl_cons,List.foldl_nil,hp.out]
        exact R.out.1
      ·have hge:(0:Int)≤x:=by omega
       have hge2:decide ((0:Int)≤x)=true:=decide_eq_true hge
       have hge3:¬x<(n:Int):=by omega
       have hge4:decide (x<(n:Int))=false:=decide_eq_false hge3
       clear hq
       go_wp2
       go_roundg (t.length+1 - (i+1))
       case measure=>omega
       case rel=>
        refine⟨i+1,hlt,rfl,rfl,?_,R.out.2.1,R.out.2.2⟩
        rw[T.out,List.foldl_append,List.foldl_cons,List.foldl_nil,hp.out]
        exact R.out.1
    ·obtain rfl:i=t.length:=by omega
     have hd1:decide (((t.length+1:Nat):Int)<(t.length:Int)+1)=false:=decide_eq_false (by omega)
     have hd2:¬((t.length+1:Nat):Int)<(t.length:Int)+1:=by omega
     have hd3:¬t.length+1<t.length+1:=by omega
     go_wp2
     go_ret
     have h:=R.out.1
     rw[List.take_length]at h
     refine⟨_,rfl,by rw[← E.out.2];rfl,by rw[← E.out.2];exact h,⟨by have:=R.out.2.1;omega,R.out.2.2⟩,R.out.2.1⟩
end
section
variable{w w':World}
def e7(l:List Bool)(i:Nat):List Int:=((List.range i).filter fun j=>l.getD j false).map fun j:Nat=>(j:Int)
theorem b0q(l:List Bool)(i:Nat):e7 l (i+1)=e7 l i++(if l.getD i false=true then[(i:Int)]else[]):=by
 unfold e7
 rw[List.range_succ,List.filter_append,List.map_append]
 congr 1
 by_cases h:l.getD i false=true
 ·simp only[List.filter_cons,h,if_true,List.filter_nil,List.map_cons,List.map_nil]
 ·have h2:l.getD i false=false:=by cases e:l.getD i false;rfl;exact absurd e h
  simp only[List.filter_cons,h2,Bool.false_eq_true,if_false,List.filter_nil,List.map_nil]
theorem i0S{l:List Bool}{i:Nat}:∀d,∃r,e7 l (i+d)=e7 l i++r
 | 0=>⟨[],by simp⟩
 | d+1=>by
   obtain⟨r,h⟩:=i0S (l:=l) (i:=i) d
   rw[show i+(d+1)=(i+d)+1 from rfl,b0q,h,List.append_assoc]
   exact⟨_,rfl⟩
theorem s0i{l:List Bool}{i N:Nat}(h:i<N)(hb:l.getD i false=true):(e7 l N)[(e7 l i).length]? =some (i:Int):=by
 obtain⟨r,e⟩:=i0S (l:=l) (i:=i+1) (N - (i+1))
 rw[show i+1+(N - (i+1))=N by omega,b0q,if_pos hb]at e
 rw[e,List.append_assoc,List.getElem?_append_right (Nat.le_refl _),Nat.sub_self]
 rfl
theorem i0F(l:List Bool)(i:Nat):(e7 l i).length≤i:=by
 unfold e7
 rw[List.length_map]
 exact Nat.le_trans (List.length_filter_le _ _) (by simp)
theorem l0H{inb N:Nat}{l:List Bool}(hl:l.length=N)(hb:g9 w inb l){xa:Option Addr}{xc:Nat}(hx:a0R w xa (e7 l N))(hN:N≤1000):
 X8 Tryd.prog Tryd.f50 #[vL inb 0 N N,.slice xa (e7 l N).length xc] w fun x w'=>x= .bool true∧w'=w:=by
 have E:Aside (g9 w inb l∧a0R w xa (e7 l N)):=⟨hb,hx⟩
 have hK:=i0F l N
 obtain⟨K,hKK⟩:∃K,K=(e7 l N).length:=⟨_,rfl⟩
 have EK:Aside (K=(e7 l N).length):=hKK
 rw[← hKK]at hK ⊢
 clear hb hx hKK
 refine I2 rfl ?_
 simp only[Tryd.ntmps50,List.size_toArray,List.length_cons,List.length_nil,Nat.reduceAdd,Nat.reduceSub,Array.replicate_succ,Array.replicate_zero,List.push_toArray,List.append_toArray,List.nil_append,List.cons_append]
 go_wp2
 go_loopg [5,6] (N+1) (fun g av iv wr=>∃i a:Nat,i≤N∧iv=vI i∧a=(e7 l i).length∧av=vI a∧g=N+1 - i∧wr=w)
 case atStart=>exact⟨0,0,Nat.zero_le _,rfl,rfl,rfl,rfl,rfl⟩
 case round=>
  obtain⟨i,a,hi,rfl,ha,rfl,rfl,hw⟩:=hrel
  have W:Aside (wr=w):=hw
  have A:Aside (a=(e7 l i).length):=ha
  have hai:a≤i:=by rw[ha];exact i0F l i
  have hwr:IntKind.i64.wrap ((i:Int)+1)=(i:Int)+1:=IntWalk.i64_in _ (by omega)
  have hwa:IntKind.i64.wrap ((a:Int)+1)=(a:Int)+1:=IntWalk.i64_in _ (by omega)
  rcases Nat.lt_or_ge i N with hlt|hge
  ·have hg:l[i]? =some (l.getD i false):=by
    rw[List.getD_eq_getElem?_getD,List.getElem?_eq_getElem (by omega)];rfl
   have c0:wr.cell? ⟨inb,i,none⟩=some (.bool (l.getD i false)):=by rw[hw];exact E.out.1.c hg
   have S1:=b0q l i
   have S:Aside (e7 l (i+1)=e7 l i++(if l.getD i false=true then[(i:Int)]else[])):=S1
   cases hb:l.getD i false with
   | true=>
     have hat:=s0i hlt hb
     rw[← ha]at hat
     have haK:a<K:=by
      rw[EK.out]
      exact(List.getElem?_eq_some_iff.1 hat).1
     obtain⟨b,o,rfl,c1⟩:=E.out.2 a _ hat
     rw[← hw]at c1
     rw[hb]at c0
     have haK2:(a:Int)<(K:Int):=by omega
     have haK3:decide ((K:Int)≤(a:Int))=false:=decide_eq_false (by omega)
     have haK4:decide (K≤a)=false:=decide_eq_false (by omega)
     clear hw ha hat S1 hg hai
     go_wp2
     go_roundg (N+1 - (i+1))
     case measure=>omega
     case rel=>
      refine⟨i+1,a+1,hlt,rfl,?_,rfl,rfl,W.out⟩
      rw[S.out,hb,if_pos rfl,List.length_append,A.out]
      rfl
   | false=>
     rw[hb]at c0
     clear hw ha S1 hg hai
     go_wp2
     go_roundg (N+1 - (i+1))
     case measure=>omega
     case rel=>
      refine⟨i+1,a,hlt,rfl,?_,rfl,rfl,W.out⟩
      rw[S.out,hb,if_neg (by simp),List.append_nil]
      exact A.out
  ·obtain rfl:i=N:=by omega
   have e:a=K:=by rw[ha,EK.out]
   clear ha
   subst e
   go_wp2
   go_ret
   exact⟨_,rfl,rfl,by first|rfl|exact W.out⟩
def F5(l:List Bool)(P:List Nat):List Bool:=P.foldl (fun b x=>b.set x true) l
theorem l0L(P:List Nat):∀l:List Bool,(F5 l P).length=l.length:=by
 induction P with
 | nil=>intro l;rfl
 | cons x P ih=>intro l;exact(ih _).trans (by simp)
theorem c0W(P:List Nat):∀(l:List Bool) (j:Nat),j<l.length→(F5 l P)[j]? =some (l.getD j false || decide (j∈P)):=by
 induction P with
 | nil=>
   intro l j hj
   simp[F5,List.getD_eq_getElem?_getD,hj]
 | cons x P ih=>
   intro l j hj
   have h:=ih (l.set x true) j (by simpa using hj)
   refine h.trans ?_
   congr 1
   rw[List.getD_eq_getElem?_getD,List.getElem?_set,List.getD_eq_getElem?_getD]
   by_cases e:x=j
   ·subst e
    simp[hj]
   ·rw[if_neg e]
    have:(j=x)↔False:=⟨fun h=>e h.symm,False.elim⟩
    simp[this]
theorem l0K(l:List Bool)(P:List Nat)(x:Nat):F5 l (P++[x])=(F5 l P).set x true:=by simp[F5]
theorem f0G(f:Nat→List s7){i:Nat}:∀d,∃R,F1 f (i+d)=F1 f i++R
 | 0=>⟨[],by simp⟩
 | d+1=>by
   obtain⟨R,h⟩:=f0G f (i:=i) d
   exact⟨R++j3 (f (i+d)),by rw[show i+(d+1)=(i+d)+1 from rfl,F1,h,List.append_assoc]⟩
theorem d0e{f:Nat→List s7}{n i k:Nat}{x:Int}{v:List Int}(hi:i<n)(hk:(f i)[k]? =some (true,x,v)):∃R,F1 f n=(F1 f i++j3 ((f i).take k))++x.toNat::R:=by
 obtain⟨R,h⟩:=f0G f (i:=i+1) (n - (i+1))
 rw[show i+1+(n - (i+1))=n by omega]at h
 obtain⟨hlt,e⟩:=List.getElem?_eq_some_iff.1 hk
 have hd:f i=(f i).take k++(true,x,v)::(f i).drop (k+1):=by
  rw[← e,← List.drop_eq_getElem_cons hlt,List.take_append_drop]
 have hw:j3 (f i)=j3 ((f i).take k)++x.toNat::j3 ((f i).drop (k+1)):=by
  conv=>lhs;rw[hd]
  rw[e9]
  rfl
 exact⟨j3 ((f i).drop (k+1))++R,by rw[h,F1,hw];simp⟩
theorem m0Y{l:List s7}{k:Nat}{a:s7}(h:l[k]? =some a):j3 (l.take (k+1))=j3 (l.take k)++(if a.1=true then[a.2.1.toNat]else[]):=by
 rw[List.take_add_one,h,Option.toList_some,e9]
 congr 1
 unfold j3
 by_cases e:a.1=true
 ·simp[e]
 ·simp[e]
def g8(l:List Bool)(i:Nat):Nat:=((List.range i).filter fun j=> !l.getD j false).length
theorem l0C(l:List Bool)(i:Nat):g8 l (i+1)=g8 l i+(if l.getD i false=true then 0 else 1):=by
 unfold g8
 rw[List.range_succ,List.filter_append,List.length_append]
 congr 1
 by_cases h:l.getD i false=true
 ·simp only[List.filter_cons,h,Bool.not_true,Bool.false_eq_true,if_false,List.filter_nil,List.length_nil,if_true]
 ·have h2:l.getD i false=false:=by cases e:l.getD i false;rfl;exact absurd e h
  simp only[List.filter_cons,h2,Bool.not_false,if_true,List.filter_nil,List.length_cons,List.length_nil,Bool.false_eq_true,if_false]
theorem q0d(l:List Bool)(i:Nat):g8 l i≤i:=by
 unfold g8
 exact Nat.le_trans (List.length_filter_le _ _) (by simp)
end
section
variable{w w':World}
structure s0O(w:World)(inb N:Nat)(l0:List Bool)(n:Nat)(oa:Option Addr)(L:Nat→Nat)(aa:Nat)(ra:Nat→Option Addr)(rc:Nat→Nat)(an:Nat→List s7)(xa:Option Addr):Prop where
 b:g9 w inb l0
 l:l0.length=N
 thr:∀i,i<n→∃b o a c,oa=some ⟨b,o,none⟩∧w.cell? ⟨b,o+i,none⟩=some (.slice a (L i) c)∧b≠inb
 arr:∀i,i<n→w.cell? ⟨aa,i,none⟩=some (.slice (ra i) (L i) (rc i))
 ai:aa≠inb
 row:∀i,i<n→∀k a,(an i)[k]? =some a→∃g,ra i=some ⟨g,0,none⟩∧g≠inb∧w.cell? ⟨g,k*3,none⟩=some (.bool a.1)∧w.cell? ⟨g,k*3+1,none⟩=some (vI a.2.1)∧∃v1 v2 v3,w.cell? ⟨g,k*3+2,none⟩=some (.slice v1 v2 v3)
 len:∀i,i<n→(an i).length=L i
 st:a0R w xa (e7 (F5 l0 (F1 an n)) N)
 xi:∀b o,xa=some ⟨b,o,none⟩→b≠inb
structure n8(W0:World)(inb:Nat)(l0:List Bool)(P:List Nat)(u:World):Prop where
 b:g9 u inb (F5 l0 P)
 sz:W0.heap.size≤u.heap.size
 o:∀r,r<W0.heap.size→r≠inb→u.heap[r]? =W0.heap[r]?
theorem n8.cell{W0 u:World}{inb:Nat}{l0:List Bool}{P:List Nat}(h:n8 W0 inb l0 P u){b k:Nat}{v:Value}(hc:W0.cell? ⟨b,k,none⟩=some v)(hb:b≠inb):u.cell? ⟨b,k,none⟩=some v:=by
 rw[← hc]
 unfold World.cell?
 rw[h.o b (O6 hc) hb]
theorem n8.more{W0 u v:World}{inb:Nat}{l0:List Bool}{P:List Nat}(h:n8 W0 inb l0 P u)(hs:u.heap.size≤v.heap.size)(ho:∀r,r<u.heap.size→v.heap[r]? =u.heap[r]?):n8 W0 inb l0 P v:=
 ⟨(ho inb (Array.getElem?_eq_some_iff.1 (show u.heap[inb]? =_ from h.b)).1).trans h.b,Nat.le_trans h.sz hs,fun r hr hne=>(ho r (Nat.lt_of_lt_of_le hr h.sz)).trans (h.o r hr hne)⟩
theorem n8.set{W0 u:World}{inb:Nat}{l0:List Bool}{P:List Nat}(h:n8 W0 inb l0 P u)(x:Nat):n8 W0 inb l0 (P++[x]) (u.setCell ⟨inb,x,none⟩ (.bool true)):=
 ⟨by rw[l0K];exact h.b.set x true,by rw[World.size_setCell];exact h.sz,fun r hr hne=>(m0 _ _ _ hne).trans (h.o r hr hne)⟩
theorem h0L{inb N n:Nat}{l0:List Bool}{oa xa:Option Addr}{oc oc2 xc:Nat}{L rc:Nat→Nat}{aa:Nat}{ra:Nat→Option Addr}{an:Nat→List s7}{oa2:Option Addr}{ol2:Nat}
 (h:s0O w inb N l0 n oa L aa ra rc an xa) (hN:N≤300) (hn:n≤8) (hL:∀i,i<n→L i≤11)
 (hok:∀i,i<n→∀a∈an i,a.1=true→∃x:Nat,a.2.1=(x:Int)∧x<N) (hnew:∀x∈F1 an n,l0.getD x false=false) (hnd:(F1 an n).Nodup)
 (hmin:min (f5 L n:Nat) (g8 l0 N:Nat)=(F1 an n).length) (hw:∀i,i≤n→(F1 an i).length≤100) (hs:∀i,i≤n→f5 L i≤100):
 X8 Tryd.prog Tryd.f23 #[vL inb 0 N N,.slice oa n oc,.agg #[vL aa 0 n n,.slice oa2 ol2 oc2,.slice xa (e7 (F5 l0 (F1 an n)) N).length xc,.bool false]] w fun x w'=>x= .bool true∧w.heap.size≤w'.heap.size∧∀r,r<w.heap.size→r≠inb→w'.heap[r]? =w.heap[r]?:=by
 obtain⟨K,hKK⟩:∃K,K=(e7 (F5 l0 (F1 an n)) N).length:=⟨_,rfl⟩
 have EK:Aside (K=(e7 (F5 l0 (F1 an n)) N).length):=hKK
 rw[← hKK]
 clear hKK
 have E:Aside (s0O w inb N l0 n oa L aa ra rc an xa∧(∀i,i<n→∀a∈an i,a.1=true→∃x:Nat,a.2.1=(x:Int)∧x<N)∧(∀x∈F1 an n,l0.getD x false=false)∧(F1 an n).Nodup∧min (f5 L n:Nat) (g8 l0 N:Nat)=(F1 an n).length∧((∀i,i≤n→(F1 an i).length≤100)∧(∀i,i≤n→f5 L i≤100)∧∀i,i<n→L i≤11)):=⟨h,hok,hnew,hnd,hmin,hw,hs,hL⟩
 clear h hok hnew hnd hmin hw hs hL
 have W0h:Aside ((w.alloc (.cells #[vL aa 0 n n,.slice oa2 ol2 oc2,.slice xa K xc,.bool false] 29)).heap[w.heap.size]? =some (.cells #[vL aa 0 n n,.slice oa2 ol2 oc2,.slice xa K xc,.bool false] 29 (0,0))∧(w.alloc (.cells #[vL aa 0 n n,.slice oa2 ol2 oc2,.slice xa K xc,.bool false] 29)).heap.size=w.heap.size+1∧∀r,r<w.heap.size→(w.alloc (.cells #[vL aa 0 n n,.slice oa2 ol2 oc2,.slice xa K xc,.bool false] 29)).heap[r]? =w.heap[r]?):=⟨heap_alloc_new _ _,by simp,fun r hr=>o0 _ _ hr⟩
 refine I2 rfl ?_
 simp only[Tryd.ntmps23,List.size_toArray,List.length_cons,List.length_nil,Nat.reduceAdd,Nat.reduceSub,Array.replicate_succ,Array.replicate_zero,List.push_toArray,List.append_toArray,List.nil_append,List.cons_append]
 go_wp2
 generalize w.alloc (.cells #[vL aa 0 n n,.slice oa2 ol2 oc2,.slice xa K xc,.bool false] 29)=W0 at W0h ⊢
 have B0:Aside (n8 W0 inb l0 [] W0):=by
  have:n8 W0 inb l0 [] W0:=⟨(W0h.out.2.2 inb (Array.getElem?_eq_some_iff.1 (show w.heap[inb]? =_ from E.out.1.b)).1).trans E.out.1.b,Nat.le_refl _,fun _ _ _=>rfl⟩
  exact this
 have TB:Aside (∀(u:World) (P:List Nat),n8 W0 inb l0 P u→u.cell? ⟨w.heap.size,0,none⟩=some (vL aa 0 n n)∧u.cell? ⟨w.heap.size,2,none⟩=some (.slice xa K xc)∧u.cell? ⟨w.heap.size,3,none⟩=some (.bool false)):=by
  have:∀(u:World) (P:List Nat),n8 W0 inb l0 P u→u.cell? ⟨w.heap.size,0,none⟩=some (vL aa 0 n n)∧u.cell? ⟨w.heap.size,2,none⟩=some (.slice xa K xc)∧u.cell? ⟨w.heap.size,3,none⟩=some (.bool false):=fun u P hu=>by
   have hne:w.heap.size≠inb:=by
    have:=(Array.getElem?_eq_some_iff.1 (show w.heap[inb]? =_ from E.out.1.b)).1
    omega
   exact⟨hu.cell (L1 W0h.out.1 rfl).1 hne,hu.cell (L1 W0h.out.1 rfl).1 hne,hu.cell (L1 W0h.out.1 rfl).1 hne⟩
  exact this
 have OW:Aside (Old w W0):=by
  have:Old w W0:=⟨by have:=W0h.out.2.1;omega,W0h.out.2.2⟩
  exact this
 have TH:Aside (∀(u:World) (P:List Nat),n8 W0 inb l0 P u→∀i,i<n→∃b o a c,oa=some ⟨b,o,none⟩∧u.cell? ⟨b,o+i,none⟩=some (.slice a (L i) c)):=by
  have:∀(u:World) (P:List Nat),n8 W0 inb l0 P u→∀i,i<n→∃b o a c,oa=some ⟨b,o,none⟩∧u.cell? ⟨b,o+i,none⟩=some (.slice a (L i) c):=fun u P hu i hi=>by
   obtain⟨b,o,a,c,e,h1,h2⟩:=E.out.1.thr i hi
   exact⟨b,o,a,c,e,hu.cell (OW.out.cell h1) h2⟩
  exact this
 have TA:Aside (∀(u:World) (P:List Nat),n8 W0 inb l0 P u→∀i,i<n→u.cell? ⟨aa,i,none⟩=some (.slice (ra i) (L i) (rc i))):=by
  have:∀(u:World) (P:List Nat),n8 W0 inb l0 P u→∀i,i<n→u.cell? ⟨aa,i,none⟩=some (.slice (ra i) (L i) (rc i)):=fun u P hu i hi=>hu.cell (OW.out.cell (E.out.1.arr i hi)) E.out.1.ai
  exact this
 go_loopg [9,10] (N+1) (fun g fv iv wr=>∃i f:Nat,i≤N∧iv=vI i∧f=g8 l0 i∧fv=vI f∧g=N+1 - i∧wr=W0)
 case atStart=>exact⟨0,0,Nat.zero_le _,rfl,rfl,rfl,rfl,rfl⟩
 case round=>
  obtain⟨i,f,hi,rfl,hf,rfl,rfl,hw⟩:=hrel
  have W:Aside (wr=W0):=hw
  have A:Aside (f=g8 l0 i):=hf
  have hfi:f≤i:=by rw[hf];exact q0d l0 i
  have hwr:IntKind.i64.wrap ((i:Int)+1)=(i:Int)+1:=IntWalk.i64_in _ (by omega)
  have hwa:IntKind.i64.wrap ((f:Int)+1)=(f:Int)+1:=IntWalk.i64_in _ (by omega)
  rcases Nat.lt_or_ge i N with hlt|hge
  ·have hg:l0[i]? =some (l0.getD i false):=by
    rw[List.getD_eq_getElem?_getD,List.getElem?_eq_getElem (by rw[E.out.1.l];exact hlt)];rfl
   have c0:wr.cell? ⟨inb,i,none⟩=some (.bool (l0.getD i false)):=by rw[hw];exact B0.out.b.c hg
   have S1:=l0C l0 i
   have S:Aside (g8 l0 (i+1)=g8 l0 i+(if l0.getD i false=true then 0 else 1)):=S1
   clear hf S1 hg hw
   cases hb:l0.getD i false with
   | true=>
     rw[hb]at c0
     go_wp2
     go_roundg (N+1 - (i+1))
     case measure=>omega
     case rel=>exact⟨i+1,f,hlt,rfl,by rw[S.out,hb,if_pos rfl,A.out];rfl,rfl,rfl,W.out⟩
   | false=>
     rw[hb]at c0
     go_wp2
     go_roundg (N+1 - (i+1))
     case measure=>omega
     case rel=>exact⟨i+1,f+1,hlt,rfl,by rw[S.out,hb,if_neg (by simp),A.out],rfl,rfl,W.out⟩
  ·obtain rfl:i=N:=by omega
   clear hf hw hge
   have hwr0:=W.out.symm
   subst hwr0
   obtain⟨t0,t2,t3⟩:=TB.out _ _ B0.out
   go_wp2
   go_loopg [7,8,11,12,13] (n+1) (fun g wv gv iv x12 x13 u=>∃j s p:Nat,j≤n∧iv=vI j∧s=f5 L j∧wv=vI s∧p=(F1 an j).length∧gv=vI p∧g=n+1 - j∧n8 W0 inb l0 (F1 an j) u)
   case atStart=>exact⟨0,0,0,Nat.zero_le _,rfl,rfl,rfl,rfl,rfl,rfl,B0.out⟩
   case round=>
    obtain⟨j,s,p,hj,rfl,hs,rfl,hp,rfl,rfl,hS⟩:=hrel
    have S:Aside (n8 W0 inb l0 (F1 an j) wr):=hS
    have PS:Aside (s=f5 L j∧p=(F1 an j).length):=⟨hs,hp⟩
    have hp100:p≤100:=by rw[hp];exact E.out.2.2.2.2.2.1 j hj
    have hs100:s≤100:=by rw[hs];exact E.out.2.2.2.2.2.2.1 j hj
    have hwj:IntKind.i64.wrap ((j:Int)+1)=(j:Int)+1:=IntWalk.i64_in _ (by omega)
    obtain⟨t0,t2,t3⟩:=TB.out _ _ hS
    clear hs hp hS
    rcases Nat.lt_or_ge j n with hlt|hge
    ·obtain⟨b,o,a0,c0,rfl,th⟩:=TH.out _ _ S.out j hlt
     have ta:=TA.out _ _ S.out j hlt
     have hL11:=E.out.2.2.2.2.2.2.2 j hlt
     have hwL:IntKind.i64.wrap ((s:Int)+(L j:Int))=((s+L j:Nat):Int):=by rw[IntWalk.i64_in _ (by omega)];rfl
     go_wp2
     go_quiet (fail)
     go_wp2
     go_loopg [8,12,13] (L j+1) (fun g gv kv x13 v=>∃k q:Nat,k≤L j∧kv=vI k∧q=(F1 an j++j3 ((an j).take k)).length∧gv=vI q∧g=L j+1 - k∧n8 W0 inb l0 (F1 an j++j3 ((an j).take k)) v)
     case atStart=>
      refine⟨0,p,Nat.zero_le _,rfl,?_,rfl,rfl,?_⟩
      ·rw[List.take_zero,PS.out.2];simp[j3]
      ·rw[List.take_zero,show j3 []=[]from rfl,List.append_nil]
       exact S.out.more (Nat.le_refl _) fun _ _=>rfl
     case round=>
      obtain⟨k,q,hk,rfl,hq,rfl,rfl,hS2⟩:=hrel
      have S2:Aside (n8 W0 inb l0 (F1 an j++j3 ((an j).take k)) wr):=hS2
      have Q2:Aside (q=(F1 an j++j3 ((an j).take k)).length):=hq
      have hwk:IntKind.i64.wrap ((k:Int)+1)=(k:Int)+1:=IntWalk.i64_in _ (by omega)
      have hq2:q≤200:=by
       have h1:(j3 ((an j).take k)).length≤11:=by
        unfold j3
        refine Nat.le_trans (List.length_filterMap_le _ _) ?_
        rw[List.length_take]
        omega
       have h2:=E.out.2.2.2.2.2.1 j hj
       rw[hq,List.length_append]
       omega
      have hwq:IntKind.i64.wrap ((q:Int)+1)=(q:Int)+1:=IntWalk.i64_in _ (by omega)
      obtain⟨u0,u2,u3⟩:=TB.out _ _ hS2
      have ua:=TA.out _ _ hS2 j hlt
      clear hq hS2 t0 t2 t3 th ta
      rcases Nat.lt_or_ge k (L j)with hlt2|hge2
      ·have hkl:k<(an j).length:=by rw[E.out.1.len j hlt];exact hlt2
       obtain⟨x,hx⟩:∃x,(an j)[k]? =some x:=⟨_,List.getElem?_eq_getElem hkl⟩
       obtain⟨g,eg,gne,r0,r1,v1,v2,v3,r2⟩:=E.out.1.row j hlt k x hx
       have r0:=S2.out.cell (OW.out.cell r0) gne
       have r1:=S2.out.cell (OW.out.cell r1) gne
       have r2:=S2.out.cell (OW.out.cell r2) gne
       rw[eg]at ua
       have TW:Aside (j3 ((an j).take (k+1))=j3 ((an j).take k)++(if x.1=true then[x.2.1.toNat]else[])):=m0Y hx
       have X:Aside ((an j)[k]? =some x):=hx
       clear eg hx gne hkl
       obtain⟨ok,xn,xl⟩:=x
       simp only at r0 r1 TW X
       cases ok with
       | false=>
         go_wp2
         go_roundg (L j+1 - (k+1))
         case measure=>omega
         case rel=>
          have e:F1 an j++j3 ((an j).take (k+1))=F1 an j++j3 ((an j).take k):=by rw[TW.out,if_neg (by simp),List.append_nil]
          refine⟨k+1,q,hlt2,rfl,by rw[e];exact Q2.out,rfl,rfl,?_⟩
          rw[e]
          exact S2.out.more (by simp) fun r hr=>o0 _ _ hr
       | true=>
         obtain⟨x,hxn,hxN⟩:=E.out.2.1 j hlt (true,xn,xl) (List.mem_of_getElem? X.out) rfl
         simp only at hxn
         subst hxn
         obtain⟨R,hR⟩:=d0e (f:=an) hlt X.out
         have hxf:(F5 l0 (F1 an j++j3 ((an j).take k)))[x]? =some false:=by
          rw[c0W _ _ _ (by rw[E.out.1.l];exact hxN)]
          have h1:l0.getD x false=false:=E.out.2.2.1 x (by rw[hR];simp)
          have h2:x ∉ F1 an j++j3 ((an j).take k):=fun hm=>by
           have:=E.out.2.2.2.1
           rw[hR]at this
           exact(List.nodup_append.1 this).2.2 x hm x (by simp) rfl
          rw[h1,decide_eq_false h2]
          rfl
         have cx:=S2.out.b.c hxf
         have zx:=S2.out.b.z x
         have hxN1:(x:Int)<(i:Int):=by omega
         have hxN2:decide ((i:Int)≤(x:Int))=false:=decide_eq_false (by omega)
         have hxN3:decide (i≤x)=false:=decide_eq_false (by omega)
         have hxN4:decide ((x:Int)<0)=false:=decide_eq_false (by omega)
         have TW2:Aside (F1 an j++j3 ((an j).take (k+1))=(F1 an j++j3 ((an j).take k))++[x]):=by
          have:F1 an j++j3 ((an j).take (k+1))=(F1 an j++j3 ((an j).take k))++[x]:=by rw[TW.out,if_pos rfl,List.append_assoc];rfl
          exact this
         have hinl:inb<wr.heap.size:=(Array.getElem?_eq_some_iff.1 (show wr.heap[inb]? =_ from S2.out.b)).1
         have hinl2:¬inb=wr.heap.size:=by omega
         clear hR hxf
         go_wp2
         go_roundg (L j+1 - (k+1))
         case measure=>omega
         case rel=>
          refine⟨k+1,q+1,hlt2,rfl,by rw[TW2.out,List.length_append,← Q2.out];rfl,rfl,rfl,?_⟩
          rw[TW2.out]
          exact(S2.out.set x).more (by simp) fun r hr=>o0 _ _ hr
      ·obtain rfl:k=L j:=by omega
       go_wp2
       go_roundg (n+1 - (j+1))
       case measure=>omega
       case rel=>
        have e:F1 an (j+1)=F1 an j++j3 ((an j).take (L j)):=by
         rw[F1,← E.out.1.len j hlt,List.take_length]
        refine⟨j+1,s+L j,q,hlt,rfl,by rw[f5,PS.out.1],rfl,by rw[e];exact Q2.out,rfl,rfl,by rw[e];exact S2.out⟩
    ·obtain rfl:j=n:=by omega
     have hm:min (s:Int) (f:Int)=(p:Int):=by
      have:=E.out.2.2.2.2.1
      rw[← PS.out.1,← PS.out.2,← A.out]at this
      omega
     have hxi:a0R wr xa (e7 (F5 l0 (F1 an j)) i):=fun a x hx=>by
      obtain⟨b,o,e,h2⟩:=E.out.1.st a x hx
      exact⟨b,o,e,S.out.cell (OW.out.cell h2) (E.out.1.xi b o e)⟩
     have C:Aside (Calls Tryd.prog 50 #[vL inb 0 i i,.slice xa K xc] wr fun x w'=>x= .returned (.bool true)∧w'=wr):=by
      have h:=l0H (w:=wr) (inb:=inb) (N:=i) (l:=F5 l0 (F1 an j)) (xa:=xa) (xc:=xc) (by rw[l0L];exact E.out.1.l) S.out.b hxi (by omega)
      rw[← EK.out]at h
      have h:=(h.calls Tryd.func50 rfl).mono (R':=fun x w'=>x= .returned (.bool true)∧w'=wr) (by rintro e u ⟨v,rfl,rfl,h⟩;exact⟨rfl,h⟩)
      exact h
     have hinw:inb<w.heap.size:=(Array.getElem?_eq_some_iff.1 (show w.heap[inb]? =_ from E.out.1.b)).1
     clear hxi
     go_wp2_with (go_at_call 50;refine C.out.mono ?_;rintro e u ⟨rfl,hu⟩;subst hu)
     go_ret
     refine⟨_,rfl,rfl,?_,fun r hr hne=>?_⟩
     ·have h1:=S.out.sz
      have h2:=W0h.out.2.1
      omega
     ·rw[S.out.o r (by have h2:=W0h.out.2.1;omega) hne]
      exact W0h.out.2.2 r hr
end
noncomputable section
variable {cs:List Frame}{main:Bool}{Stop:Goroutine→World→Prop}
variable{F:Fz}{w:World}
theorem j0U:X0 21:=G1 Tryd.func21 rfl rfl
theorem j0Z:X0 22:=G1 Tryd.func22 rfl rfl
theorem k0v:X0 23:=G1 Tryd.func23 rfl rfl
theorem k0N:X0 24:=G1 Tryd.func24 rfl rfl
def N3:Code:=Tryd.f6.body.getD .skip
def u0L:=pC [] N3
def s0G:=pC [zt] N3
def p0d:=pC [zf] N3
def s0H:=pC [zt] p0d
def e0n:=pC [zf,zt,zt] N3
def c0R:=pC [zf] s0H
def v0w:=pC [zt] c0R
def h0H:=pC [zf] p0d
def g0C:=pC [zf,zf,zt] N3
def l0N:=pC [zf] h0H
def g03:=pC [zf,zf,zf,zt] N3
def p0k:=pC [zf] l0N
def p9:=pC [zf,zf,zf,zf,zt] N3
theorem m0p(args:Array Value):Frame.enter Tryd.prog 6 args .normal=(Go.Conc.base 6).at {tmps:=args++Array.replicate (23 - args.size) undef,defers:=[]} [.code u0L]:=enter_at args Tryd.func6 rfl
def a01(s:Nat→Value):Array Value:= #[s 0,s 1,s 2,s 3,s 4,s 5,s 6,s 7,s 8,s 9,s 10,s 11,s 12,s 13,s 14,s 15,s 16,s 17,s 18,s 19,s 20,s 21,s 22]
theorem u0Q{A:Array Value}(h:A.size=23):∃s,A=a01 s:=by
 obtain⟨s,hs,_⟩:=F3 A h
 exact⟨s,hs⟩
theorem u0V{a b c0:Value}
 (h:∀A,D0 23 A [(0,a),(1,b),(2,c0)]→E0 Tryd.prog main F Stop (G (Frame.enter Tryd.prog 7 #[] .normal) ((bA 6 A [.inRegion (oC e0n) [0,1],.code c0R,.code h0H])::cs)) w):
 E0 Tryd.prog main F Stop (G (Frame.enter Tryd.prog 6 #[a,b,c0] .normal) cs) w:=by
 rw[m0p]
 walk_nrm
 refine ogW s0G p0d ?_
 simp only[s0G,N3,Tryd.f6,zz,Nat.reduceAdd]
 refine oT ?_
 refine I0<|ogV s0H h0H<|ogW e0n c0R ?_
 simp only[e0n,N3,Tryd.f6,zz,Nat.reduceAdd]
 refine oc k0D #[] ?_
 refine h _ ?_
 exact⟨rfl,rfl,rfl,rfl,trivial⟩
theorem v0h{a b c0:Value}{A:Array Value}(hA:D0 23 A [(0,a),(1,b),(2,c0)])
 (h:∀A,D0 23 A [(1,b),(2,c0)]→E0 Tryd.prog main F Stop (G (Frame.enter Tryd.prog 21 #[a] .normal) ((bA 6 A [.inRegion (oC g0C) [1,2],.code l0N])::cs)) w):
 E0 Tryd.prog main F Stop (G ((bA 6 A [.inRegion (oC e0n) [0,1],.code c0R,.code h0H]).finish (.bool true)) cs) w:=by
 obtain⟨s,rfl,h0,h1,h2,_⟩:=D5 a01 hA
 simp only[a01,h0,h1,h2]
 clear h0 h1 h2
 rw[Frame.finish_at]
 simp only[e0n,N3,Tryd.f6,zz,Nat.reduceAdd]
 walk_nrm
 refine oT ?_
 refine I0<|ogGn .skip<|ogK<|ogW g0C l0N ?_
 simp only[g0C,N3,Tryd.f6,zz,Nat.reduceAdd]
 refine oT ?_
 refine oc j0U #[a] ?_
 refine h _ ?_
 exact⟨rfl,rfl,rfl,trivial⟩
theorem v0i{b c0 x:Value}{A:Array Value}(hA:D0 23 A [(1,b),(2,c0)])
 (h:∀A,D0 23 A [(2,c0),(7,x)]→E0 Tryd.prog main F Stop (G (Frame.enter Tryd.prog 22 #[b] .normal) ((bA 6 A [.inRegion (oC g03) [1,2],.code p0k])::cs)) w):
 E0 Tryd.prog main F Stop (G ((bA 6 A [.inRegion (oC g0C) [1,2],.code l0N]).finish x) cs) w:=by
 obtain⟨s,rfl,h1,h2,_⟩:=D5 a01 hA
 simp only[a01,h1,h2]
 clear h1 h2
 rw[Frame.finish_at]
 simp only[g0C,N3,Tryd.f6,zz,Nat.reduceAdd]
 walk_nrm
 refine oT ?_
 refine I0<|ogW g03 p0k ?_
 simp only[g03,N3,Tryd.f6,zz,Nat.reduceAdd]
 refine oT ?_
 refine oc j0Z #[b] ?_
 refine h _ ?_
 exact⟨rfl,rfl,rfl,trivial⟩
theorem v0j{c0 x y:Value}{A:Array Value}(hA:D0 23 A [(2,c0),(7,x)])
 (h:∀A,D0 23 A [(2,c0),(7,x),(8,y)]→E0 Tryd.prog main F Stop (G (Frame.enter Tryd.prog 24 #[x] .normal) ((bA 6 A [.inRegion (oC p9) [1,2,3,4,5,6,7,8],.code .ret])::cs)) w):
 E0 Tryd.prog main F Stop (G ((bA 6 A [.inRegion (oC g03) [1,2],.code p0k]).finish y) cs) w:=by
 obtain⟨s,rfl,h2,h7,_⟩:=D5 a01 hA
 simp only[a01,h2,h7]
 clear h2 h7
 rw[Frame.finish_at]
 simp only[g03,N3,Tryd.f6,zz,Nat.reduceAdd]
 walk_nrm
 refine oT ?_
 refine I0<|ogW p9 .ret ?_
 simp only[p9,N3,Tryd.f6,zz,Nat.reduceAdd]
 refine oT ?_
 refine oc k0N #[x] ?_
 refine h _ ?_
 exact⟨rfl,rfl,rfl,rfl,trivial⟩
theorem v0s{c0 x y z:Value}{A:Array Value}(hA:D0 23 A [(2,c0),(7,x),(8,y)])
 (h:∀A,D0 23 A [(16,z),(17,y)]→E0 Tryd.prog main F Stop (G (Frame.enter Tryd.prog 9 #[x,y,c0,vI 1048576] .normal) ((bA 6 A [.inRegion (oC p9) [6,7,8],.code .ret])::cs)) w):
 E0 Tryd.prog main F Stop (G ((bA 6 A [.inRegion (oC p9) [1,2,3,4,5,6,7,8],.code .ret]).finish z) cs) w:=by
 obtain⟨s,rfl,h2,h7,h8,_⟩:=D5 a01 hA
 simp only[a01,h2,h7,h8]
 clear h2 h7 h8
 rw[Frame.finish_at]
 simp only[p9,N3,Tryd.f6,zz,Nat.reduceAdd]
 walk_nrm
 iterate 4 refine oT ?_
 refine oc k0E #[x,y,c0,vI 1048576] ?_
 refine h _ ?_
 exact⟨rfl,rfl,rfl,trivial⟩
theorem v0t{y z t:Value}{A:Array Value}(hA:D0 23 A [(16,z),(17,y)])
 (h:∀A,D0 23 A [(17,y)]→E0 Tryd.prog main F Stop (G (Frame.enter Tryd.prog 23 #[z,y,t] .normal) ((bA 6 A [.inRegion (oC p9) [7,8],.code .ret])::cs)) w):
 E0 Tryd.prog main F Stop (G ((bA 6 A [.inRegion (oC p9) [6,7,8],.code .ret]).finish t) cs) w:=by
 obtain⟨s,rfl,h16,h17,_⟩:=D5 a01 hA
 simp only[a01,h16,h17]
 clear h16 h17
 rw[Frame.finish_at]
 simp only[p9,N3,Tryd.f6,zz,Nat.reduceAdd]
 walk_nrm
 refine oc k0v #[z,y,t] ?_
 refine h _ ?_
 exact⟨rfl,rfl,trivial⟩
theorem v0u{x y:Value}{A:Array Value}(hA:D0 23 A [(17,y)])
 (h:∀A,D0 23 A [(6,x)]→E0 Tryd.prog main F Stop (G {bA 6 A [.code .ret]with mode:=.returning} cs) w):
 E0 Tryd.prog main F Stop (G ((bA 6 A [.inRegion (oC p9) [7,8],.code .ret]).finish x) cs) w:=by
 obtain⟨s,rfl,h17,_⟩:=D5 a01 hA
 simp only[a01,h17]
 clear h17
 rw[Frame.finish_at]
 simp only[p9,N3,Tryd.f6,zz,Nat.reduceAdd]
 walk_nrm
 refine oT ?_
 refine I0<|ogX ?_
 refine h _ ?_
 exact⟨rfl,rfl,trivial⟩
end
section
theorem e0y{α:Type} [BEq α] [LawfulBEq α] {W F:List α}(hn:W.Nodup)(h:∀x∈W,x∈F):W.length≤F.length:=by
 induction W generalizing F with
 | nil=>exact Nat.zero_le _
 | cons x W ih=>
   have hx:x∈F:=h x (by simp)
   have h1:=List.nodup_cons.1 hn
   have:=ih (F:=F.erase x) h1.2 fun y hy=>(List.mem_erase_of_ne (fun e=>h1.1 (by rw[← e];exact hy))).2 (h y (by simp[hy]))
   have h2:=List.length_erase_of_mem hx
   have h3:0<F.length:=List.length_pos_of_mem hx
   simp only[List.length_cons]
   omega
def h0Z(l:List Bool)(N:Nat):List Nat:=(List.range N).filter fun j=> !l.getD j false
theorem e0T{l:List Bool}{N x:Nat}:x∈h0Z l N↔x<N∧l.getD x false=false:=by
 unfold h0Z
 rw[List.mem_filter,List.mem_range]
 simp
theorem i0c(l:List Bool)(N:Nat):(h0Z l N).Nodup:=List.Nodup.sublist List.filter_sublist List.nodup_range
theorem q0D:∀l:List s7,(j3 l).length≤l.length:=fun l=>List.length_filterMap_le _ _
theorem f06:∀l:List s7,(∀a∈l,a.1=true)→(j3 l).length=l.length
 | [],_=>rfl
 | a::l,h=>by
   have e:j3 (a::l)=a.2.1.toNat::j3 l:=by simp[j3,h a (by simp)]
   rw[e,List.length_cons,List.length_cons,f06 l fun b hb=>h b (by simp[hb])]
theorem c0X{f:Nat→List s7}:∀n,(F1 f n).length≤f5 (fun i=>(f i).length) n
 | 0=>Nat.le_refl _
 | n+1=>by
   rw[F1,f5,List.length_append]
   have:=c0X (f:=f) n
   have:=q0D (f n)
   omega
theorem f0y{f:Nat→List s7}:∀n,(∀i,i<n→∀a∈f i,a.1=true)→(F1 f n).length=f5 (fun i=>(f i).length) n
 | 0,_=>rfl
 | n+1,h=>by
   rw[F1,f5,List.length_append,f0y n fun i hi=>h i (by omega),f06 _ (h n (by omega))]
theorem a0V{f g:Nat→Nat}:∀n,(∀j,j<n→g j=f j)→f5 g n=f5 f n
 | 0,_=>rfl
 | n+1,h=>by rw[f5,f5,a0V n fun j hj=>h j (by omega),h n (by omega)]
theorem a0y{f:Nat→Nat}{d:Nat}:∀n,(∀j,j<n→f j≤d)→f5 f n≤d*n
 | 0,_=>Nat.le_refl _
 | n+1,h=>by
   have h1:=a0y n fun j hj=>h j (by omega)
   have h2:=h n (by omega)
   rw[f5,Nat.mul_succ]
   omega
theorem h0K{N n:Nat}{l0:List Bool}{ops:Nat→List I6}{s:GS BPl}(h:Z9 N (fun x=>l0.getD x false) n ops s):
 min (f5 (fun i=>(ops i).length) n) (g8 l0 N)=(F1 (fun i=>(s.th i).ans) n).length:=by
 have e1:f5 (fun i=>(ops i).length) n=f5 (fun i=>List.length (α:=s7) (s.th i).ans) n:=a0V n fun j hj=>(h.len j hj).symm
 have a1:(F1 (fun i=>(s.th i).ans) n).length≤f5 (fun i=>(ops i).length) n:=by rw[e1];exact c0X n
 have a2:(F1 (fun i=>(s.th i).ans) n).length≤g8 l0 N:=e0y (F:=h0Z l0 N) h.nd fun x hx=>e0T.2 (h.new x hx)
 by_cases hall:∀i,i<n→∀a:s7,a∈((s.th i).ans:List s7)→a.1=true
 ·have:=f0y (f:=fun i=>(s.th i).ans) n hall
  rw[e1]
  omega
 ·obtain⟨i,hi,a,ha,hf⟩:∃i,i<n∧∃a:s7,a∈((s.th i).ans:List s7)∧a.1=false:=by
   simp only[Classical.not_forall]at hall
   obtain⟨i,hi,a,ha,hf⟩:=hall
   exact⟨i,hi,a,ha,by cases e:a.1;rfl;exact absurd e hf⟩
  have hfull:∀x,x<N→Z1.has s.q x=true:=by
   rcases h.an i hi a ha with⟨x,rfl⟩|⟨_,h2⟩
   ·cases hf
   ·exact h2
  have a3:g8 l0 N≤(F1 (fun i=>(s.th i).ans) n).length:=e0y (W:=h0Z l0 N) (i0c _ _) fun x hx=>by
   obtain⟨h1,h2⟩:=e0T.1 hx
   rcases(h.mem x h1).1 (hfull x h1)with h3|h3
   ·rw[h2]at h3;cases h3
   ·exact h3
  omega
theorem c0U{s:Z1}:∀K,s.numsTo K=((List.range (64*K)).filter fun x=>decide (x<s.n) && s.has x).map fun x:Nat=>(x:Int)
 | 0=>rfl
 | K+1=>by
   rw[v9,c0U K,Nat.mul_succ,List.range_add,List.filter_append,List.map_append]
   congr 1
   unfold J5
   rw[List.filter_map,List.map_map]
   have e:((List.range 64).filter fun j=>decide (K*64+j<s.n) && (s.wd K).getLsbD j)=(List.range 64).filter ((fun x=>decide (x<s.n) && s.has x) ∘ fun x=>64*K+x):=by
    refine List.filter_congr fun j hj=>?_
    have hj:=List.mem_range.1 hj
    simp only[Function.comp]
    unfold Z1.has
    rw[show(64*K+j) / 64=K by omega,show(64*K+j) % 64=j by omega,Nat.mul_comm 64 K]
   rw[e]
   refine List.map_congr_left fun j _=>?_
   simp only[Function.comp]
   rw[Nat.mul_comm K 64]
theorem h0N(p:Nat→Bool)(n:Nat):∀d,((List.range (n+d)).filter fun x=>decide (x<n) && p x)=(List.range n).filter p:=fun d=>by
 rw[List.range_add,List.filter_append]
 have e1:(List.range n).filter (fun x=>decide (x<n) && p x)=(List.range n).filter p:=List.filter_congr fun x hx=>by simp[List.mem_range.1 hx]
 have e2:((List.range d).map fun x=>n+x).filter (fun x=>decide (x<n) && p x)=[]:=by
  rw[List.filter_eq_nil_iff]
  intro x hx
  obtain⟨y,_,rfl⟩:=List.mem_map.1 hx
  rw[decide_eq_false (by omega)]
  simp
 rw[e1,e2,List.append_nil]
theorem q0A{s:Z1}(h:s.ws.length=(s.n+63) / 64):s.nums=((List.range s.n).filter s.has).map fun x:Nat=>(x:Int):=by
 rw[← a0H,c0U]
 have:64*s.ws.length=s.n+(64*s.ws.length - s.n):=by omega
 rw[this,h0N]
theorem d0W{N n:Nat}{l0:List Bool}(hl:l0.length=N){ops:Nat→List I6}{s:GS BPl}(h:Z9 N (fun x=>l0.getD x false) n ops s):Z1.nums s.q=e7 (F5 l0 (F1 (fun i=>(s.th i).ans) n)) N:=by
 rw[q0A h.wf.l]
 unfold e7
 congr 1
 have e:Z1.n s.q=N:=h.sz
 rw[e]
 refine List.filter_congr fun x hx=>?_
 have hx:=List.mem_range.1 hx
 rw[List.getD_eq_getElem?_getD,c0W _ _ _ (by rw[hl];exact hx),Option.getD_some]
 have:=h.mem x hx
 cases e1:Z1.has s.q x with
 | true=>
   rcases this.1 e1 with h2|h2
   ·rw[h2];rfl
   ·rw[decide_eq_true h2,Bool.or_true]
 | false=>
   have h2:¬(l0.getD x false=true∨x∈F1 (fun i=>(s.th i).ans) n):=fun h3=>by
    rw[this.2 h3]at e1;cases e1
   have h3:l0.getD x false=false:=by
    cases e4:l0.getD x false
    ·rfl
    ·exact absurd (.inl e4) h2
   rw[h3,decide_eq_false (fun h4=>h2 (.inr h4))]
   rfl
end
section
variable{An:O2}{W w w':World}
def ClL:List Nat:=[21,22,23,24,50]
def ClS(f:FuncId):Bool:=ClL.contains f
theorem c0S:ClL.all (codeOkF Tryd.prog fun f=>ClL.contains f)=true:=by kernel_rfl
theorem p0z:v4 Tryd.prog ClS true:=m0o c0S
theorem i9{f:Nat}(hS:ClS f=true){fn:Func}(hf:Tryd.prog.funcs[f]? =some fn){args:Array Value}{R:Value→World→Prop}
 (H:∀τ e,X8 Tryd.prog fn args (retape w τ e) R) {cl:Frame} {cs:List Frame} {main:Bool} {Stop:Goroutine→World→Prop}
 (K:∀v w' τ e,R v (retape w' τ e)→Gd F0 w w'→E0 Tryd.prog main F0 Stop (G (cl.finish v) cs) w'):E0 Tryd.prog main F0 Stop (G (Frame.enter Tryd.prog f args .normal) (cl::cs)) w:=by
 obtain⟨fn',h1,h2,c,h3,h4⟩:=i0p (List.all_eq_true.1 c0S f (List.contains_iff_mem.1 hS))
 rw[hf]at h1
 cases h1
 exact b0P p0z Z7 hf h3 h4 H K
theorem i0g{base n size:Nat}{e:TypeId}{v:Value}{xs:List Value}(h:w.ownsRow base e size v n xs)(k:Old w w'):w'.ownsRow base e size v n xs:=
 d9 h fun b c _ hb=>k.eq b (D4 hb)
theorem l0G{va:Option Addr}{xs:List Int}(h:a0R w va xs)(hk:b0m w w'):a0R w' va xs:=fun i x hx=>by
 obtain⟨b,o,e,h1⟩:=h i x hx
 refine⟨b,o,e,?_⟩
 obtain⟨c,e2,z,ho⟩:=X4 h1
 have:=hk.2 _ _ _ _ ho
 rw[← h1];unfold World.cell?;simp only[this,ho]
theorem o0V{la:Option Addr}{B:List Nat}(h:g0p w la B)(hk:b0m w w'):g0p w' la B:=⟨fun i x hx=>by
 obtain⟨b,o,e,h1,h2⟩:=h.c i x hx
 refine⟨b,o,e,?_,h2⟩
 obtain⟨c,e2,z,ho⟩:=X4 h1
 have:=hk.2 _ _ _ _ ho
 rw[← h1];unfold World.cell?;simp only[this,ho]⟩
theorem Old.keep(h:Old w w'):b0m w w':=.of h.sz h.eq
structure KB(w1 u:World)(inb:Nat)(l0:List Bool)(n:Nat)(ops:Nat→List I6)(oa:Option Addr)(oc:Nat)(xa:Nat→Option Addr)(xc:Nat→Nat)(ga:Option Addr)(vs:List Int):Prop where
 old:Old w1 u
 row:u.ownsRow 0 32 1 (.slice oa n oc) n ((List.range n).map fun r=>.slice (xa r) (ops r).length (xc r))
 new:∀g,(Value.slice oa n oc).ownBlock=some g→w1.heap.size≤g
 inn:∀r,r<n→u.ownsRow 0 44 4 (.slice (xa r) (ops r).length (xc r)) (ops r).length (opC (ops r))∧∀g,(Value.slice (xa r) (ops r).length (xc r)).ownBlock=some g→w1.heap.size≤g
 bl:g9 u inb l0
 ib:∀g,(Value.slice oa n oc).ownBlock=some g→g≠inb
 vs:a0R u ga vs
 inw:w1.heap.size≤inb
theorem KB.ops_in{w1:World}{inb n:Nat}{l0:List Bool}{ops:Nat→List I6}{oa ga:Option Addr}{oc:Nat}{xa:Nat→Option Addr}{xc:Nat→Nat}{vs:List Int}(h:KB w1 w inb l0 n ops oa oc xa xc ga vs)(h0:0<w1.heap.size)(hn:n≤8)(hol:∀i,i<n→(ops i).length≤11){S:List Int}{sa:Option Addr}(hsl:S.length<9223372036854775808)
 (hS:0<S.length→∃sb so c e z,sa=some ⟨sb,so,none⟩∧sb≠0∧w.heap[sb]? =some (.cells c e z)∧∀(k:Nat) (u:Value),(S.map fun i:Int=>Value.int .i64 i)[k]? =some u→c[so+k]? =some u∧(decide (z.1≤so+k) && decide (so+k<z.2))=false):
 ∃tb,Z8 w (fun r=>r=0) n tb 0 n oa xa (fun i=>(ops i).length) xc ops S sa∧(0<n→oa=some ⟨tb,0,none⟩):=by
 have htop:∃tb,(0<n→oa=some ⟨tb,0,none⟩∧tb<w.heap.size)∧∀j,j<n→At w ⟨tb,j,none⟩ (.slice (xa j) (ops j).length (xc j)):=by
  rcases h.row.2 with⟨_,h0⟩|⟨g,cap,cur,e,h1,h2,_⟩
  ·exact⟨0,fun hp=>by omega,fun j hj=>by omega⟩
  ·cases e
   refine⟨g,fun _=>⟨rfl,(D4 h2)⟩,fun j hj=>?_⟩
   obtain⟨b,cap',e,h3⟩:=G8 h.row (k:=j) (x:=.slice (xa j) (ops j).length (xc j)) (by simp[hj])
   cases e
   exact h3
 obtain⟨tb,ht1,ht2⟩:=htop
 refine⟨tb,⟨by omega,fun hp=>(ht1 hp).1,fun hp=>(ht1 hp).2,fun j hj=>?_,fun j hj=>?_,fun j hj k x hx=>?_,hsl,fun hp=>?_⟩,fun hp=>(ht1 hp).1⟩
 ·have:=ht2 j hj
  refine⟨by rw[Nat.zero_add];exact this.c,by rw[Nat.zero_add];exact this.z,?_⟩
  rcases(h.inn j hj).1.2 with⟨e,h0⟩|⟨g,cap,cur,e,_,_,h3,_⟩
  ·omega
  ·simp only[Value.slice.injEq]at e
   rw[e.2.2]
   exact h3
 ·have:=hol j hj
  omega
 ·obtain⟨f0,f1,f2,f3⟩:=r0w _ _ _ hx
  obtain⟨b,cap,e,g0⟩:=G8 (h.inn j hj).1 f0
  obtain⟨_,_,e1,g1⟩:=G8 (h.inn j hj).1 f1
  obtain⟨_,_,e2,g2⟩:=G8 (h.inn j hj).1 f2
  obtain⟨_,_,e3,g3⟩:=G8 (h.inn j hj).1 f3
  have hnew:=(h.inn j hj).2 b (by rw[e];rfl)
  rw[e]at e1 e2 e3
  cases e1
  cases e2
  cases e3
  simp only[Value.slice.injEq]at e
  refine⟨b,0,e.1,fun h=>by omega,?_,?_,?_,?_,?_,?_,?_,?_⟩<;>rw[Nat.zero_add]
  ·exact g0.c
  ·exact g1.c
  ·exact g2.c
  ·exact g3.c
  ·exact g0.z
  ·exact g1.z
  ·exact g2.z
  ·exact g3.z
 ·obtain⟨sb,so,c,e,z,h1,h1',h2,h3⟩:=hS hp
  exact⟨sb,so,c,e,z,h1,h1',h2,h3⟩
theorem Z9.congr{N n:Nat}{in0 in1:Nat→Bool}{ops:Nat→List I6}{s:GS BPl}(h:Z9 N in0 n ops s)(e:∀x,x<N→in1 x=in0 x):Z9 N in1 n ops s:=
 ⟨h.live,h.sz,h.wf,h.len,h.an,fun x hx=>by rw[e x hx];exact h.mem x hx,h.nd,fun x hx=>by have:=h.new x hx;exact⟨this.1,(e x this.1).trans this.2⟩⟩
theorem p0T(vs:List Int):c0i (p6 vs)=P5 (p6 vs)∧c0i (p6 vs)≤300:=by
 have:(p6 vs).headD 0≤300:=by cases vs<;>simp[p6]<;>omega
 unfold c0i P5
 omega
theorem g0y(B:List Nat)(i:Nat):(clN B i).length≤11:=by
 unfold clN
 rw[N8]
 omega
theorem t06(B:List Nat)(i:Nat):∀o∈clN B i,o.kd=4:=fun o ho=>by
 unfold clN r9 at ho
 rw[(List.mem_replicate.1 ho).2]
theorem s09{u:World}{n:Nat}{ans:Nat→List s7}{state:List Int}{order:List Nat}{aa:Nat}{rows:Nat→Value}{av:Nat→List SA}{ov sv:Value}{w0:World}(h:f0s w0 n ans state order aa rows av ov sv u){i:Nat}(hi:i<n){k:Nat}{a:s7}(ha:(ans i)[k]? =some a):
 ∃g cap,rows i=vL g 0 (ans i).length cap∧u.cell? ⟨g,k*3,none⟩=some (.bool a.1)∧u.cell? ⟨g,k*3+1,none⟩=some (vI a.2.1)∧∃v1 v2 v3,u.cell? ⟨g,k*3+2,none⟩=some (.slice v1 v2 v3):=by
 obtain⟨r1,r2,r3,r4⟩:=h.row i hi
 have hlen:(av i).length=(ans i).length:=by rw[← r1,List.length_map]
 rw[← r1,List.getElem?_map,Option.map_eq_some_iff]at ha
 obtain⟨x,hx,rfl⟩:=ha
 obtain⟨q0,q1,q2⟩:=g0l (av i) k x hx
 obtain⟨g,cap,e0,g0⟩:=G8 r3 q0
 obtain⟨_,_,e1,g1⟩:=G8 r3 q1
 obtain⟨_,_,e2,g2⟩:=G8 r3 q2
 rw[e0]at e1 e2
 cases e1
 cases e2
 exact⟨g,cap,by rw[e0,hlen],g0.c,g1.c,_,_,_,g2.c⟩
theorem m0U{base n size:Nat}{e:TypeId}{v:Value}{xs:List Value}(h:w.ownsRow base e size v n xs){g:Nat}(hg:v.ownBlock=some g):∃c,w.heap[g]? =some (.cells c e (0,0)):=by
 rcases h.2 with⟨rfl,_⟩|⟨b,cap,cur,rfl,_,h2,_⟩
 ·simp[Value.ownBlock]at hg
 ·simp only[Value.ownBlock,Option.some.injEq]at hg
  subst hg
  exact⟨cur,h2⟩
theorem g0B{va la sa:Option Addr}{vc lc sc:Nat}{vs:List Int}{B:List Nat}{S:List Int}(hg:e0d W)(hv:a0R W va vs)(hv0:va=none→vc=0)(hvo:∀a,va=some a→∃b o,a=⟨b,o,none⟩)(hvl:vs.length≤2000000)(hB:g0p W la B)(hBl:B.length<9223372036854775808)(hsl:S.length<9223372036854775808)
 (hS:0<S.length→∃sb so c e z,sa=some ⟨sb,so,none⟩∧sb≠0∧W.heap[sb]? =some (.cells c e z)∧∀(k:Nat) (u:Value),(S.map fun i:Int=>Value.int .i64 i)[k]? =some u→c[so+k]? =some u∧(decide (z.1≤so+k) && decide (so+k<z.2))=false):
 Bes An Tryd.prog (i0U An (f0t W)) (G (Frame.enter Tryd.prog 6 #[.slice va vs.length vc,.slice la B.length lc,.slice sa S.length sc] .normal) []) W:=by
 refine W5 (F:=F0) (Stop:=fun a u=>∃A,D0 23 A [(0,.slice va vs.length vc),(1,.slice la B.length lc),(2,.slice sa S.length sc)]∧u.heap=W.heap∧a=G (Frame.enter Tryd.prog 7 #[] .normal) [bA 6 A [.inRegion (oC e0n) [0,1],.code c0R,.code h0H]])
  (u0V fun A hA=>.stop fun d=>⟨A,hA,rfl,rfl⟩) fun a u ⟨A1,hA1,hu,ha⟩=>?_
 subst ha
 have k0:b0m W u:=.of (by rw[hu];exact Nat.le_refl _) fun r hr=>by rw[hu]
 refine k0x (hg.keep k0) fun w1 k1'=>?_
 have k1:=k0.trans k1'
 have hg1:=hg.keep k1
 have hv1:=l0G hv k1
 have hB1:=o0V hB k1
 have h00:0<w1.heap.size:=by
  obtain⟨_,_,_,h,_⟩:=hg1
  exact(D4 h)
 obtain⟨N,hN⟩:∃N,N=P5 (p6 vs):=⟨_,rfl⟩
 obtain⟨l0,hl0⟩:∃l0,l0=i0d N (p6 vs).tail:=⟨_,rfl⟩
 obtain⟨n,hnE⟩:∃n,n=min B.length 8:=⟨_,rfl⟩
 have hn8:n≤8:=by omega
 obtain⟨hbs1,hbs2⟩:=p0T vs
 rw[← hN]at hbs1
 have hN3:N≤300:=by omega
 have hl0l:l0.length=N:=by rw[hl0];exact m0Q _ _
 refine W5 (F:=F0) (Stop:=fun a u=>∃A d w4 inb oa oc xa xc ga gc,D0 23 A [(16,vL inb 0 N N),(17,.slice oa n oc)]∧KB w1 w4 inb l0 n (clN B) oa oc xa xc ga (p6 vs)∧(p6 vs).length≤gc∧u=w4.at d∧a=G (Frame.enter Tryd.prog 9 #[.slice ga (p6 vs).length gc,.slice oa n oc,.slice sa S.length sc,vI 1048576] .normal) [bA 6 A [.inRegion (oC p9) [6,7,8],.code .ret]])
  (v0h hA1 fun A2 hA2=>i9 (f:=21) rfl Tryd.func21 (R:=fun x u=>∃g gc,x= .slice g (p6 vs).length gc∧a0R u g (p6 vs)∧(p6 vs).length≤gc∧Old w1 u) (fun τ e=>(q0P (w:=retape w1 τ e) (fun i x h=>hv1 i x h) hv0 hvo hvl).mono fun v u ⟨g,gc,h1,h2,h3,h4⟩=>⟨g,gc,h1,h2,h3,⟨h4.sz,h4.eq⟩⟩) fun v w2 τ e hR hgd=>?_) fun a u ⟨A5,d5,w4,inb,oa,oc,xa,xc,ga,gc,hA5,hK,hgc,hu5,ha⟩=>?_
 ·obtain⟨ga,gc,rfl,hG2,hgc,hO2⟩:=hR
  have hG2:a0R w2 ga (p6 vs):=hG2
  have hO2:Old w1 w2:=⟨hO2.sz,hO2.eq⟩
  have hB2:=hB1.grow hO2
  refine v0i hA2 fun A3 hA3=>i9 (f:=22) rfl Tryd.func22 (R:=fun x u=>∃oa oc xa xc,x= .slice oa n oc∧N5 w2 u (.slice oa n oc) n xa xc (clN B)) (fun τ e=>by rw[hnE];exact g0z (w:=retape w2 τ e) (w0:=w2) rfl ⟨fun r x h=>hB2.c r x h⟩ hBl) fun v w3 τ e hR hgd=>?_
  obtain⟨oa,oc,xa,xc,rfl,hT⟩:=hR
  have hT:N5 w2 w3 (.slice oa n oc) n xa xc (clN B):=⟨hT.row,hT.new,⟨hT.old.sz,hT.old.eq⟩,hT.inn⟩
  have hG3:=hG2.same hT.old.eq
  have hl3:(p6 vs).length<9223372036854775807:=by rw[h0M];omega
  refine v0j hA3 fun A4 hA4=>i9 (f:=24) rfl Tryd.func24 (R:=fun x u=>x=vL w3.heap.size 0 N N∧g9 u w3.heap.size l0∧Old w3 u) (fun τ e=>by
   rw[hl0,hN]
   exact(q0r (w:=retape w3 τ e) (fun i x h=>hG3 i x h) hl3).mono fun v u ⟨h1,h2,h3,h4⟩=>⟨h1,h2,⟨h3.sz,h3.eq⟩⟩) fun v w4 τ e hR hgd=>?_
  obtain⟨rfl,hb4,hO4⟩:=hR
  have hb4:g9 w4 w3.heap.size l0:=hb4
  have hO4:Old w3 w4:=⟨hO4.sz,hO4.eq⟩
  have h12:=hO2.sz
  have hib:∀g,(Value.slice oa n oc).ownBlock=some g→g≠w3.heap.size:=fun g hg=>by
   obtain⟨c,hc⟩:=m0U hT.row hg
   have:=(D4 hc)
   omega
  refine v0s hA4 fun A5 hA5=>.stop fun d=>⟨A5,d,w4,w3.heap.size,oa,oc,xa,xc,ga,gc,hA5,⟨hO2.trans (hT.old.trans hO4),i0g hT.row hO4,fun g hg=>by have:=hT.new g hg;omega,fun r hr=>⟨i0g (hT.inn r hr).1 hO4,fun g hg=>by have:=(hT.inn r hr).2 g hg;omega⟩,hb4,hib,hG3.same hO4.eq,by have:=hT.old.sz;omega⟩,hgc,rfl,rfl⟩
 ·subst ha
  subst hu5
  have k4:b0m w1 w4:=hK.old.keep
  have k4':=k1.trans k4
  have hol:∀i,i<n→(clN B i).length≤11:=fun i _=>g0y B i
  obtain⟨tb,hI,hta⟩:=hK.ops_in h00 hn8 hol hsl (S:=S) (sa:=sa) fun hp=>by
   obtain⟨sb,so,c,e,z,h1,h1',h2,h3⟩:=hS hp
   exact⟨sb,so,c,e,z,h1,h1',k4'.2 _ _ _ _ h2,h3⟩
  have hI4:Z8 (w4.at d5) (fun r=>r=0) n tb 0 n oa xa (fun i=>(clN B i).length) xc (clN B) S sa:=⟨hI.hn,hI.hta,hI.htb,hI.hth,hI.hlen,hI.hop,hI.hsl,hI.hS⟩
  have hg4:e0d (w4.at d5):=hg1.keep k4
  have hl4:(p6 vs).length<9223372036854775808:=by rw[h0M];omega
  refine k0y (w:=w4.at d5) (M:=1048576) (fun i x h=>hK.vs i x h) hgc hl4 hg4 hI4 (by rfl) fun s order hd hover aa rows av oa' oc' xa' xc' w5 hU=>?_
  have hwl:(k0z (p6 vs)).ws.length≤5:=by
   have h1:=(l0M (p6 vs)).l
   have h2:(k0z (p6 vs)).n=c0i (p6 vs):=rfl
   omega
  have hCl0:=l0i (vs:=p6 vs) (ops:=clN B) (n:=n) (M:=1048576) (fun i _=>t06 B i) hd hover (by
   refine Nat.lt_of_le_of_lt (a0y (d:=408) n fun j hj=>?_) (by omega)
   have h1:=g0y B j
   have h2:(clN B j).length*(3*(k0z (p6 vs)).ws.length+2*n+3)≤11*34:=Nat.mul_le_mul h1 (by omega)
   omega)
  rw[hbs1]at hCl0
  have hCl:=hCl0.congr (in1:=fun x=>l0.getD x false) fun x hx=>by
   have:=q0q (p6 vs) (j:=x) (by omega)
   rw[hbs1,← hl0]at this
   simp only[List.getD_eq_getElem?_getD,this,Option.getD_some]
  have hst:=d0W hl0l hCl
  have hmin:=h0K hCl
  have hlive:=hCl.live
  rw[hlive,show decide (0<0)=false from rfl]
  refine W5 (F:=F0) (Stop:=i0U An (f0t W)) ?_ fun a u h=>Bes.stop h
  have hold5:∀(r:Nat) (c:Array Value) (e:TypeId) (z:Nat×Nat),w4.heap[r]? =some (.cells c e z)→w5.heap[r]? =some (.cells c e z):=hU.old
  have cell5:∀{a:Addr} {v:Value},w4.cell? a=some v→w5.cell? a=some v:=fun{a v} h=>by
   obtain⟨c,e,z,hb⟩:=X4 h
   have:=hold5 _ _ _ _ hb
   rw[← h];unfold World.cell?;simp only[this,hb]
  obtain⟨an,han⟩:∃an:Nat→List s7,an=fun i=>(s.th i).ans:=⟨_,rfl⟩
  have hst:Z1.nums s.q=e7 (F5 l0 (F1 an n)) N:=by rw[han];exact hst
  have hmin:min (f5 (fun i=>(clN B i).length) n) (g8 l0 N)=(F1 an n).length:=by rw[han];exact hmin
  have hlen:∀i,i<n→(an i).length=(clN B i).length:=fun i hi=>by rw[han];exact hCl.len i hi
  have hnd:(F1 an n).Nodup:=by rw[han];exact hCl.nd
  have hnew:∀x∈F1 an n,x<N∧l0.getD x false=false:=by rw[han];exact hCl.new
  have hs:∀i,i≤n→f5 (fun i=>(clN B i).length) i≤100:=fun i hi=>by
   have:=a0y (f:=fun i=>(clN B i).length) (d:=11) i fun j hj=>g0y B j
   omega
  have hw:∀i,i≤n→(F1 an i).length≤100:=fun i hi=>by
   have h1:=c0X (f:=an) i
   have h2:f5 (fun i=>(an i).length) i=f5 (fun i=>(clN B i).length) i:=a0V i fun j hj=>hlen j (by omega)
   have:=hs i hi
   omega
  obtain⟨ca,hca,hcs,hci⟩:=hU.arr
  have hinb:∃c e z,w4.heap[inb]? =some (.cells c e z):=⟨_,_,_,hK.bl⟩
  have hne:∀r,o0J (w4.at d5) r→r≠inb:=fun r hr e=>by
   subst e
   obtain⟨c,e,z,h⟩:=hinb
   exact hr c e z h
  have hlenU:∀i,i<n→(av i).length=(clN B i).length:=fun i hi=>by
   have h1:=(hU.row i hi).1
   have h2:=congrArg List.length h1
   rw[List.length_map]at h2
   rw[h2,← hlen i hi,han]
  have hrv:∀i,i<n→rows i= .slice (s0E (rows i)) (clN B i).length (s0F (rows i)):=fun i hi=>by
   have:=q0C (hU.row i hi).2.2.1
   rw[hlenU i hi]at this
   exact this
  have hstU:=hU.st
  have hcd:s0O w5 inb N l0 n oa (fun i=>(clN B i).length) aa (fun i=>s0E (rows i)) (fun i=>s0F (rows i)) an xa':=by
   refine⟨hold5 _ _ _ _ hK.bl,hl0l,fun i hi=>?_,fun i hi=>?_,hne _ hU.nwa,fun i hi k a ha=>?_,hlen,fun k x hx=>?_,fun b o e=>?_⟩
   ·obtain⟨b,cap,e,h1⟩:=G8 hK.row (k:=i) (x:=.slice (xa i) (clN B i).length (xc i)) (by simp[hi])
    cases e
    exact⟨b,0,xa i,xc i,rfl,by rw[Nat.zero_add];exact cell5 h1.c,hK.ib b rfl⟩
   ·have h1:=hci i hi
    rw[hrv i hi]at h1
    simpa [World.cell?,hca]using h1
   ·have ha':((fun i=>(s.th i).ans) i:List s7)[k]? =some a:=by rw[han]at ha;exact ha
    obtain⟨g,cap,e,g0,g1,g2⟩:=s09 hU hi ha'
    refine⟨g,by rw[e];rfl,hne _ (hU.nwr i hi g (by rw[e];rfl)),g0,g1,g2⟩
   ·rw[← hst]at hx
    obtain⟨b,cap,e,h1⟩:=G8 hstU (k:=k) (x:=vI x) (by rw[List.getElem?_map,hx];rfl)
    cases e
    exact⟨b,0,rfl,by rw[Nat.zero_add];exact h1.c⟩
   ·subst e
    rcases hstU.2 with⟨e,_⟩|⟨g,cap,cur,e,h1,_⟩
    ·cases e
    ·cases e
     have:=(Array.getElem?_eq_some_iff.1 (show w4.heap[inb]? =_ from hK.bl)).1
     have h1:w4.heap.size≤b:=h1
     omega
  rw[hst]
  refine v0t hA5 fun A6 hA6=>i9 (f:=23) rfl Tryd.func23 (R:=fun x u=>x= .bool true∧w5.heap.size≤u.heap.size∧∀r,r<w5.heap.size→r≠inb→u.heap[r]? =w5.heap[r]?) (fun τ e=>?_) fun v w6 τ e hR hgd=>?_
  ·exact h0L (w:=retape w5 τ e) (L:=fun i=>(clN B i).length) (ra:=fun i=>s0E (rows i)) (rc:=fun i=>s0F (rows i)) (an:=an) ⟨hcd.b,hcd.l,hcd.thr,hcd.arr,hcd.ai,hcd.row,hcd.len,fun i x h=>hcd.st i x h,hcd.xi⟩ hN3 hn8 hol (fun i hi a ha h1=>by
    have ha':a∈((s.th i).ans:List s7):=by rw[han]at ha;exact ha
    rcases hCl.an i hi a ha' with⟨x,rfl⟩|⟨rfl,_⟩
    ·refine⟨x,rfl,(hnew x ?_).1⟩
     obtain⟨k,hk⟩:=List.getElem?_of_mem ha
     obtain⟨R,hR⟩:=d0e (f:=an) hi hk
     rw[hR]
     simp
    ·cases h1) (fun x hx=>(hnew x hx).2) hnd hmin hw hs
  ·obtain⟨rfl,hz6,ho6⟩:=hR
   refine v0u hA6 fun A7 hA7=>.stop fun d=>n0v Tryd.func6 rfl (by decide) hA7.2.1 fun r c e z h=>?_
   have h4:=k4'.2 _ _ _ _ h
   have h5:=hold5 _ _ _ _ h4
   have hr:r≠inb:=fun hE=>by
    have h1:=(Array.getElem?_eq_some_iff.1 (k1.2 _ _ _ _ h)).1
    have h2:=hK.inw
    omega
   exact(ho6 r (D4 h5) hr).trans h5
end
section
variable{F:Fz}{w:World}
def Z5(xv:Value)(w:World):Prop:=xv= .pointer none∨∃lb,xv=vP lb 0∧w.cell? ⟨lb,0,none⟩=some (vI 0)∧w.cell? ⟨lb,1,none⟩=some (.slice none 0 0)
theorem Z5.heap{w w':World}{xv:Value}(h:Z5 xv w)(e:∀r,r<w.heap.size→w'.heap[r]? =w.heap[r]?):Z5 xv w':=by
 rcases h with h|⟨lb,h,h1,h2⟩
 ·exact .inl h
 ·refine .inr ⟨lb,h,?_,?_⟩
  ·rw[← h1];unfold World.cell?;rw[e lb (O6 h1)]
  ·rw[← h2];unfold World.cell?;rw[e lb (O6 h1)]
end
section
variable{F:Fz}{w:World}
end
section
variable{w w':World}
end
section
variable{w w':World}
structure f0u(w w':World)(b:Nat)(o:Obj):Prop where
 size:w'.heap.size=w.heap.size
 o:w'.heap[b]? =some o
 old:∀r,r≠b→w'.heap[r]? =w.heap[r]?
theorem f0u.trans{a b c:World}{p:Nat}{o1 o2:Obj}(h1:f0u a b p o1)(h2:f0u b c p o2):f0u a c p o2:=⟨h2.size.trans h1.size,h2.o,fun r hr=>(h2.old r hr).trans (h1.old r hr)⟩
structure RCl where
 kd:Int
 i:Int
 ph:Int
 w:Int
 old:BitVec 64
 done:Bool
 ok:Bool
 n:Int
 l:Value
def RCl.o(c:RCl):Obj:=.cells #[vI c.kd,vI c.i,vI c.ph,vI c.w,wV c.old,.bool c.done,.bool c.ok,vI c.n,c.l] 51
theorem t0c:∃i z,Tryd.prog.info? 47=some i∧i.zero=some z∧i.size=1∧i.bytes=8∧z.cells= #[.int .u64 0]:=by
 obtain⟨i,hi,h⟩:=Option.map_eq_some_iff.1 (show(Tryd.prog.info? 47).map (fun i=>(i.zero.map Value.cells,i.size,i.bytes))=some (some #[.int .u64 0],1,8)by kernel_rfl)
 simp only[Prod.mk.injEq]at h
 obtain⟨z,hz,hc⟩:=Option.map_eq_some_iff.1 h.1
 exact⟨i,z,hi,hz,h.2.1,h.2.2,hc⟩
@[go_sem] theorem z0d{m:Nat}(hm:m≤1024)(w:World):(Instr.makeSlice 96 (vI (m:Nat)) (vI (m:Nat))).run Tryd.prog w= .ok (vL w.heap.size 0 m m) (w.alloc (.cells (madeCells #[.int .u64 0] m) 47)):=by
 obtain⟨i,z,hi,hz,hs,hb,hc⟩:=t0c
 have:=run_make (P:=Tryd.prog) w 96 47 i _ Tryd.underlying96 hi hz .i64 .i64 m m (by omega) (by omega) (by rw[hb];omega) (by omega)
 rw[hs,hc]at this
 simpa using this
theorem y0k(n:Int)(a:Option Addr)(l c:Nat):Tryd.prog.built 98 [(0,vI n),(1,.slice a l c)]=some #[vI n,.slice a l c]:=by kernel_rfl
@[go_sem] theorem x06(n:Int)(a:Option Addr)(l c:Nat)(w:World):(Instr.build 98 #[(0,vI n),(1,.slice a l c)]).run Tryd.prog w= .ok (.agg #[vI n,.slice a l c]) w:=run_build w _ _ _ (y0k n a l c)
theorem y0j(k:Int):Tryd.prog.built 51 [(0,vI k),(2,vI 1)]=some #[vI k,vI 0,vI 1,vI 0,.int .u64 0,.bool false,.bool false,vI 0,.slice none 0 0]:=by kernel_rfl
@[go_sem] theorem x05(k:Int)(w:World):(Instr.build 51 #[(0,vI k),(2,vI 1)]).run Tryd.prog w= .ok (.agg #[vI k,vI 0,vI 1,vI 0,.int .u64 0,.bool false,.bool false,vI 0,.slice none 0 0]) w:=run_build w _ _ _ (y0j k)
end
section
variable{F:Fz}{w:World}
theorem q0R:Tryd.prog.built 62 []=some #[vI 0,.slice none 0 0]:=by kernel_rfl
@[go_sem] theorem x0F(w:World):(Instr.build 62 #[]).run Tryd.prog w= .ok (.agg #[vI 0,.slice none 0 0]) w:=run_build w _ _ _ q0R
@[go_sem] theorem x02(w:World)(es:Array Event):(Instr.build 62 #[]).events Tryd.prog w es=es:=E4 w es _ _ _ _ Tryd.underlying62 q0R
theorem q0Q:Tryd.prog.built 42 []=some #[vI 0]:=by kernel_rfl
@[go_sem] theorem x0E(w:World):(Instr.build 42 #[]).run Tryd.prog w= .ok (.agg #[vI 0]) w:=run_build w _ _ _ q0Q
@[go_sem] theorem x01(w:World)(es:Array Event):(Instr.build 42 #[]).events Tryd.prog w es=es:=E4 w es _ _ _ _ Tryd.underlying42 q0Q
structure OpF(pb:Nat)(kd a b c0:Int)(w:World):Prop where
 f0:w.cell? ⟨pb,0,none⟩=some (vI kd)
 f1:w.cell? ⟨pb,1,none⟩=some (vI a)
 f2:w.cell? ⟨pb,2,none⟩=some (vI b)
 f3:w.cell? ⟨pb,3,none⟩=some (vI c0)
theorem OpF.of{pb:Nat}{kd a b c0:Int}(h:w.heap[pb]? =some (.cells #[vI kd,vI a,vI b,vI c0] 44 (0,0))):OpF pb kd a b c0 w:=⟨(L1 h rfl).1,(L1 h rfl).1,(L1 h rfl).1,(L1 h rfl).1⟩
theorem o3{w w':World}{b k:Nat}{v:Value}(h:w.cell? ⟨b,k,none⟩=some v)(hs:∀r,r<w.heap.size→w'.heap[r]? =w.heap[r]?):w'.cell? ⟨b,k,none⟩=some v:=by
 rw[← h]
 unfold World.cell?
 rw[hs b (O6 h)]
theorem OpF.grow{w w':World}{pb:Nat}{kd a b c0:Int}(h:OpF pb kd a b c0 w)(hs:∀r,r<w.heap.size→w'.heap[r]? =w.heap[r]?):OpF pb kd a b c0 w':=⟨o3 h.f0 hs,o3 h.f1 hs,o3 h.f2 hs,o3 h.f3 hs⟩
structure J7(pb:Nat)(kd a b c0:Int)(ls i:Nat)(xv:Value)(cb sb:Nat)(ok:Bool)(w:World):Prop where
 op:OpF pb kd a b c0 w
 ls:w.cell? ⟨ls,i,none⟩=some xv
 o6:w.cell? ⟨cb,6,none⟩=some (.bool ok)
 o7:w.cell? ⟨cb,7,none⟩=some (vI 0)
 o8:w.cell? ⟨cb,8,none⟩=some (.slice none 0 0)
 st:w.cell? ⟨sb,0,none⟩=some (vI 0)
 no:Z5 xv w
def NAt(w:World)(b:Nat)(ok:Bool):Prop:=w.heap[b]? =some (.cells #[.bool ok,vI 0,.slice none 0 0] 49 (0,0))
section
variable{pb:Nat}{kd a b c0:Int}{ls i:Nat}{xv:Value}{cb sb:Nat}{ok:Bool}
theorem J7.grow{w w':World}(h:J7 pb kd a b c0 ls i xv cb sb ok w)(hs:∀r,r<w.heap.size→w'.heap[r]? =w.heap[r]?):J7 pb kd a b c0 ls i xv cb sb ok w':=⟨h.op.grow hs,o3 h.ls hs,o3 h.o6 hs,o3 h.o7 hs,o3 h.o8 hs,o3 h.st hs,h.no.heap hs⟩
theorem J7.at{w:World}(h:J7 pb kd a b c0 ls i xv cb sb ok w)(d:Nat):J7 pb kd a b c0 ls i xv cb sb ok (w.at d):=h.grow fun _ _=>rfl
theorem NAt.grow{w w':World}{q:Nat}(h:NAt w q ok)(hs:∀r,r<w.heap.size→w'.heap[r]? =w.heap[r]?):NAt w' q ok:=(hs q (D4 h)).trans h
theorem NAt.row{w:World}{q:Nat}(h:NAt w q ok):T9 w (some ⟨q,0,none⟩) (b0o [⟨(ok,0,[]),none,0,0⟩]):=⟨fun k x hx=>⟨q,0,rfl,by
 rw[Nat.zero_add]
 exact(L1 h (by simpa [b0o,SA.v,h0w.cells]using hx)).1⟩⟩
end
end
section
variable{An:O2}{w w' w0:World}
structure NlW(pb:Nat)(o:I6)(ls:Nat)(cb:Nat)(ok:Bool)(w:World):Prop where
 op:OpF pb o.kd o.a o.b o.c w
 l0:w.cell? ⟨ls,0,none⟩=some (.pointer none)
 l1:∃zb,w.cell? ⟨ls,1,none⟩=some (vP zb 0)∧w.cell? ⟨zb,0,none⟩=some (vI 0)∧w.cell? ⟨zb,1,none⟩=some (.slice none 0 0)
 o6:w.cell? ⟨cb,6,none⟩=some (.bool ok)
 o7:w.cell? ⟨cb,7,none⟩=some (vI 0)
 o8:w.cell? ⟨cb,8,none⟩=some (.slice none 0 0)
theorem NlW.grow{pb:Nat}{o:I6}{ls cb:Nat}{ok:Bool}(h:NlW pb o ls cb ok w)(hs:∀r,r<w.heap.size→w'.heap[r]? =w.heap[r]?):NlW pb o ls cb ok w':=by
 obtain⟨zb,a,b,c⟩:=h.l1
 exact⟨h.op.grow hs,o3 h.l0 hs,⟨zb,o3 a hs,o3 b hs,o3 c hs⟩,o3 h.o6 hs,o3 h.o7 hs,o3 h.o8 hs⟩
end
section
open Go Go.Conc Go.ChangeShapes
section
variable{H:Type}{enc:TypeId×Value→H}
end
theorem a0G{p:Pinned}{s:OpenSpec}{c:OpenClaim}(f:FuncId)(fn:Func)
 (hn:c.program=p.name) (hs:c.sum=p.sum) (hsp:c.spec=s.name)
 (hstart:c.start= .entering) (hout:c.outside=[]) (hin:c.inits=[]) (hun:c.under=none) (hi4:c.initsInPlace=[]∧c.initsUnfollowed=false∧c.initsRecurse=false∧c.initsNamed=[]∧c.initsPassed=[]) (hnb:c.noBlocks=false) (hlv:c.leaving=true) (hfo:c.followed=none) (hnar:c.narrowed=s.cond.isSome) (hstill:c.still=false)
 (hfn:p.checked.prog.funcNamed c.func=some f) (hf:p.checked.prog.funcs[f]? =some fn)
 (closed:joinedFacts p.checked.prog f fn s.bare c=true)
 (hinst:fn.isInstance p.checked.prog c.origin c.targs) (hwrap:fn.isWrapper p.checked.prog c.wrapper c.mainSum)
 (h:∀os:Os,os.Started→∀(H:Type) (enc:TypeId×Value→H),(∀a b,enc a=enc b→a=b)→∀F:Stop.Interp,
   ReturnsInLeavingWide c.assume p.checked os f .any (c.pre enc p.checked.prog fn s) ((s.at F).post enc p.checked.prog fn c.apart c.fresh c.handsOn c.again)):c.holds p s:=by
 simp only[joinedFacts,Bool.and_eq_true,beq_iff_eq,Array.all_eq_true_iff_forall_mem,List.all_eq_true,decide_eq_true_eq]at closed
 obtain⟨⟨⟨⟨⟨⟨⟨⟨⟨⟨⟨⟨⟨⟨⟨⟨⟨⟨⟨⟨⟨⟨⟨⟨⟨⟨⟨⟨⟨⟨⟨k1,k2⟩,k3⟩,k4⟩,k5⟩,k6⟩,k7⟩,k8⟩,k9⟩,k10⟩,k11⟩,k12⟩,k13⟩,k14⟩,k15⟩,k16⟩,k17⟩,k17b⟩,k18⟩,k19⟩,k20⟩,k21⟩,k22⟩,k23⟩,k23b⟩,k24⟩,k24b⟩,k24c⟩,k25⟩,k26⟩,k27⟩,k28⟩:=closed
 have hq:∀os:Os,Stop.quiet p.checked.prog os:=fun os k hk=>by rw[k9]at hk;cases hk
 refine⟨k1,hn,hs,hsp,k2,k3,by unfold OpenClaim.startFits;rw[hstart];exact k24,by unfold OpenClaim.startTold;rw[hstart];exact⟨hin,hun,hi4⟩,f,fn,hfn,hf,⟨k4,k19⟩,(fun hb=>by rw[hnb]at hb;cases hb),by unfold OpenClaim.namedList;rw[hfo];exact k5,hinst,hwrap,
  k6.trans k7.symm,⟨k8.trans k9.symm,by unfold Program.envWorded;rw[k9];rfl,k23b⟩,k10,k11,k12,k13,k14,⟨k15,k27,k28⟩,⟨k16,k20⟩,⟨k17,k21,k25,k26⟩,⟨k22,k24b,k24c,k17b⟩,(by rw[hout,hnar];cases hsh:c.shortTexts with|none=>simp|some _=>rw[hsh]at k23;cases k23),fun n hn'=>varReadable_some (k18 n hn'),
  ⟨_,by unfold OpenClaim.world;rw[hout,hstart];exact WideRow.started_initial,hq _⟩,[],by unfold OpenClaim.lists;rw[hfo],fun os st _ H enc inj=>?_⟩
 have st':os.Started:=by unfold OpenClaim.world at st;rw[hout,hstart]at st;exact st
 rw[OpenClaim.post_not_still hstill]
 unfold OpenClaim.form
 rw[hstart,k6]
 intro F
 have e1:c.okInput=Input.okWide:=by unfold OpenClaim.okInput;rw[hnb]
 have e2:c.atReturn p.checked.prog=leavingAtReturn p.checked.prog:=by unfold OpenClaim.atReturn;rw[hlv]
 have e3:c.always p.checked.prog []=nothingAlways:=by unfold OpenClaim.always;rw[hfo]
 have e4:s.post enc p.checked.prog fn F c.outside c.apart c.fresh c.handsOn c.again=(s.at F).post enc p.checked.prog fn c.apart c.fresh c.handsOn c.again:=by rw[hout];rfl
 rw[e1,e2,e3]
 show ReturnsInOpen _ _ _ _ _ _ _ _ (s.post enc p.checked.prog fn F c.outside c.apart c.fresh c.handsOn c.again) _ _
 rw[e4]
 exact h os st' H enc inj F k24
end
noncomputable section
open Go.ChangeShapes Go.WideShapes Go.ChangeAt
set_option maxRecDepth 100000
section
variable{H:Type}{enc:TypeId×Value→H}
end
theorem w0A : Tryd.prog.globalNamed "math/bits.deBruijn64tab" = some 0 := by kernel_rfl
theorem n0i:(Tryd.prog.globals[0]?).map (·.type)=some 145:=by kernel_rfl
theorem m0K:Tryd.prog.cellsOf 145=64:=by kernel_rfl
theorem o04:Tryd.prog.cellsOf 5=1:=by kernel_rfl
theorem y0Y{W:World}(h:laidMetH Tryd.prog Rows.bitsNilRow.laid W):e0d W:=by
 have ht : Lib.TabIs Tryd.prog W "math/bits.deBruijn64tab" .u8 (deB.map fun n : Nat => (n : Int)) := Lib.tabIs_of_head (rest := []) w0A n0i Tryd.underlying145 Tryd.underlying5 o04 m0K h
 have hc:∀k,k<64→W.cell? ⟨0,k,none⟩=some (.int .u8 ((deB.getD k 0:Nat):Int)):=fun k hk=>by
  have:=ht.cell w0A k (by rw[List.length_map];exact hk)
  rw[this]
  congr 2
  have hl:k<deB.length:=hk
  simp[List.getD_eq_getElem?_getD,hl]
 obtain⟨c,e,z,h0⟩:=X4 (hc 0 (by omega))
 refine⟨c,e,z,h0,fun k hk=>?_⟩
 have:=hc k hk
 have h0:W.heap[0]? =some (.cells c e z):=h0
 simpa [World.cell?,h0]using this
def b0N(os:Os):World:=
 {World.holding Tryd.prog os ⟨#[],#[],[]⟩with heap:=(World.holding Tryd.prog os ⟨#[],#[],[]⟩).heap.modify 0 fun
  | .cells _ t frozen=>.cells (deB.map fun n:Nat=>Value.int .u8 (n:Int)).toArray t frozen
  | o=>o}
theorem k0F{p:Pinned}{s:OpenSpec}{c:OpenClaim}(kinds:List LaidKind)(tests:Bool)(har:Bool×String)(lk:Bool)
 (hc:c.holds p s) (hw:c.wfByText s=true) (htie:c.laidByTextAt .later p kinds tests)
 (hst:c.start= .entering) (hnb:c.noBlocks=false∧c.again=false) (hm:p.checked.prog.mainIs=some (har.1,har.2.toList)) (hn:(!har.1 && har.2.isEmpty && !lk)=false)
 (hl:∀f fn,p.checked.prog.funcNamed c.func=some f→p.checked.prog.funcs[f]? =some fn→lk=p.checked.prog.looks []∧∀(j:Nat) t,fn.params[j]? =some t→p.checked.prog.wantsStandIn t=false)
 (hg:true=c.goesBy p.checked.prog):
 Claim7.holds p (.plain s) {stood:={row:=c,standIns:=[],harness:=har,looks:=lk},kinds:=[],alts:=[],goes:=true,laidByText:=true,laidKinds:=kinds,laidTests:=tests,laidLooks:=.later}:=by
 have h6:∀r:OpenClaim,Claim7.isSixth {stood:={row:=r,standIns:=[],harness:=har,looks:=lk},kinds:=[]}=false:=fun r=>by simpa [Claim7.isSixth]using hn
 exact⟨Claim7.tied_new_at .later kinds tests (Claim7.new_of_sixth hc har lk hst hnb hm (h6 c) hl) hw,fun D hD=>(by cases hD),htie,(fun h=>by cases h),hg⟩
end
section
open Go.ChangeShapes Go.WideShapes Go.ChangeAt
theorem p0l{H:Type}(d:DataW H):1≤Rows.uptoBulk d:=by
 cases d with
 | lit l=>cases l<;>simp[Rows.uptoBulk]
 | nil=>simp[Rows.uptoBulk]
 | ptr d=>simp[Rows.uptoBulk]
 | slice elems spare=>simp[Rows.uptoBulk]
 | agg parts=>simp[Rows.uptoBulk]
 | iface t d=>simp[Rows.uptoBulk]
 | map entries=>simp[Rows.uptoBulk]
 | held h=>simp[Rows.uptoBulk]
theorem a0q{H:Type}{d:DataW H}{l:List (DataW H)}(h:d∈l):Rows.uptoBulk d≤Rows.uptoBulkAll l:=by
 induction l with
 | nil=>cases h
 | cons x r ih=>
   simp only[Rows.uptoBulkAll]
   cases List.mem_cons.1 h with
   | inl e=>subst e;omega
   | inr e=>have:=ih e;omega
theorem h0I{H:Type}(l:List (DataW H)):l.length≤Rows.uptoBulkAll l:=by
 induction l with
 | nil=>simp[Rows.uptoBulkAll]
 | cons x r ih=>have:=p0l x;simp only[Rows.uptoBulkAll,List.length_cons];omega
theorem a0u{H:Type}(elems spare:List (DataW H)):elems.length≤Rows.uptoBulk (.slice elems spare)∧∀d∈elems,Rows.uptoBulk d≤Rows.uptoBulk (.slice elems spare):=by
 have h1:=h0I elems
 simp only[Rows.uptoBulk]
 exact⟨by omega,fun d hd=>by have:=a0q hd;omega⟩
section
variable{H:Type}{enc:TypeId×Value→H}{W:World}
theorem l0O{a:Addr}{v:Value}(h:W.cell? a=some v):∃c e z,W.heap[a.block]? =some (.cells c e z)∧c[a.off]? =some v:=by
 unfold World.cell? at h
 split at h
 ·rename_i c e z ho
  split at h
  ·cases h
  ·exact⟨c,e,z,ho,h⟩
 ·cases h
theorem m0r{b o:Nat}{c:Array Value}{e:TypeId}{z:Nat×Nat}(h:W.heap[b]? =some (.cells c e z))(hf:W.frozen? ⟨b,o,none⟩=false):(decide (z.1≤o) && decide (o<z.2))=false:=by
 simpa [World.frozen?,h]using hf
theorem q0y{t e:TypeId}(ht:Tryd.prog.underlying t=some (.slice e))(he:Tryd.prog.underlying e=some (.int .i64))(hc:Tryd.prog.cellsOf e=1){v:Value}{d:DataW H}{p:List MemPlace}(hv:∃a l c,v= .slice a l c)
 (h:DataW.Trod enc Tryd.prog W 0 (fun _=>true) true t v d p) (hz:W.noneFrozen p) (hl:∀x∈p,x.block<W.heap.size):
 ∃(a:Option Addr) (vs:List Int) (c b o:Nat),v= .slice a vs.length c∧vs.length≤Rows.uptoBulk d∧(0<vs.length→a=some ⟨b,o,none⟩∧b<W.heap.size∧∃c e z,W.heap[b]? =some (.cells c e z)∧∀(k:Nat) (u:Int),vs[k]? =some u→
  c[o+k]? =some (vI u)∧(decide (z.1≤o+k) && decide (o+k<z.2))=false∧W.cell? ⟨b,o+k,none⟩=some (vI u)∧W.frozen? ⟨b,o+k,none⟩=false):=by
 obtain⟨fuel,hf⟩:=h
 obtain⟨a0,l0,c0,rfl⟩:=hv
 rcases open_ints ht he hc hf with⟨h1,h2⟩|⟨a,len,cap,zs,h1,hb,hlc,_,hzl,h2,h3,_⟩
 ·simp[Value.cells]at h1
  obtain⟨rfl,rfl,rfl⟩:=h1
  exact⟨none,[],0,0,0,rfl,Nat.zero_le _,fun h=>by simp at h⟩
 ·simp only[if_true]at hzl
  simp[Value.cells]at h1
  obtain⟨rfl,rfl,rfl⟩:=h1
  simp only[Prod.mk.injEq]at h2
  obtain⟨rfl,rfl⟩:=h2
  have el:(zs.take l0).length=l0:=by simp;omega
  refine⟨some a,zs.take l0,c0,a.block,a.off,by rw[el],?_,fun hp=>?_⟩
  ·have:=(a0u (H:=H) (lits .i64 (zs.take l0)) (lits .i64 (zs.drop l0))).1
   simpa [lits]using this
  ·rw[el]at hp
   obtain⟨b,o,spot⟩:=a
   have hs:spot=none:=by
    have:=World.cell?_spot (h3 0 (by omega))
    simpa [Addr.add]using this
   subst hs
   have hc0:=h3 0 (by omega)
   rw[add_plain]at hc0
   obtain⟨c,e',z,ho,_⟩:=l0O hc0
   have hfr:∀k,k<zs.length→W.frozen? ⟨b,o+k,none⟩=false:=fun k hk=>hz b (o+k) (by simp only[MemPlace.row,List.mem_map,List.mem_range];exact⟨k,hk,rfl⟩)
   refine⟨rfl,(D4 ho),c,e',z,ho,fun k u hk=>?_⟩
   have hkl:=(List.getElem?_eq_some_iff.1 hk).1
   rw[el]at hkl
   have hu:zs.getD k 0=u:=by
    rw[List.getElem?_take_of_lt hkl]at hk
    simp[List.getD,hk]
   have hck:=h3 k (by omega)
   rw[add_plain,hu]at hck
   obtain⟨c',e2,z',ho',hcc⟩:=l0O hck
   rw[ho]at ho'
   cases ho'
   exact⟨hcc,m0r ho (hfr k (by omega)),hck,hfr k (by omega)⟩
theorem s0j{P:Program}{t e:TypeId}{base l c:Nat}{a:Addr}(ht:P.underlying t=some (.slice e))(h:Value.okWide P W .any base t (.slice (some a) l c)):∃b o,a=⟨b,o,none⟩:=by
 simp only[Value.okWide,ht,Cell.okWide,Cell.ok]at h
 obtain⟨_,_,_,h,_⟩:=h
 obtain⟨b,o,s⟩:=a
 simp only at h
 subst h
 exact⟨b,o,rfl⟩
theorem u0C{t e:TypeId}(ht:Tryd.prog.underlying t=some (.slice e))(he:Tryd.prog.underlying e=some (.int .u8))(hc:Tryd.prog.cellsOf e=1){v:Value}{d:DataW H}{p:List MemPlace}(hv:∃a l c,v= .slice a l c)
 (h:DataW.Trod enc Tryd.prog W 0 (fun _=>true) true t v d p):
 ∃(a:Option Addr) (B:List Nat) (c:Nat),v= .slice a B.length c∧B.length≤Rows.uptoBulk d∧g0p W a B:=by
 obtain⟨fuel,hf⟩:=h
 obtain⟨a0,l0,c0,rfl⟩:=hv
 rcases open_ints ht he hc hf with⟨h1,h2⟩|⟨a,len,cap,zs,h1,hb,hlc,_,hzl,h2,h3,h4⟩
 ·simp[Value.cells]at h1
  obtain⟨rfl,rfl,rfl⟩:=h1
  exact⟨none,[],0,rfl,Nat.zero_le _,⟨fun r x hx=>by simp at hx⟩⟩
 ·simp only[if_true]at hzl
  simp[Value.cells]at h1
  obtain⟨rfl,rfl,rfl⟩:=h1
  simp only[Prod.mk.injEq]at h2
  obtain⟨rfl,rfl⟩:=h2
  refine⟨some a,(zs.take l0).map Int.toNat,c0,?_,?_,⟨fun r x hx=>?_⟩⟩
  ·simp;omega
  ·have:=(a0u (H:=H) (lits .u8 (zs.take l0)) (lits .u8 (zs.drop l0))).1
   simpa [lits]using this
  ·rw[List.getElem?_map,Option.map_eq_some_iff]at hx
   obtain⟨z,hz,rfl⟩:=hx
   have hr:=(List.getElem?_eq_some_iff.1 hz).1
   simp only[List.length_take]at hr
   obtain⟨b,o,spot⟩:=a
   have hs:spot=none:=by
    have:=World.cell?_spot (h3 0 (by omega))
    simpa [Addr.add]using this
   subst hs
   have hz':zs[r]? =some z:=by rwa [List.getElem?_take_of_lt (by omega)]at hz
   have hwf:=h4 z (List.mem_of_getElem? hz')
   simp only[Lit.wf,Bool.and_eq_true,decide_eq_true_eq,IntKind.min,IntKind.max,IntKind.signed,IntKind.bits]at hwf
   have hw2:0≤z∧z<256:=by simp at hwf;omega
   have hck:=h3 r (by omega)
   rw[add_plain]at hck
   refine⟨b,o,rfl,?_,by omega⟩
   rw[hck]
   congr 2
   rw[Int.toNat_of_nonneg hw2.1]
   simp[List.getD,hz']
end
end
section
open Go.ChangeShapes Go.WideShapes Go.ChangeAt
set_option maxRecDepth 100000
section
variable{H:Type}{enc:TypeId×Value→H}{W:World}
theorem t04:Tryd.prog.cellsOf 2=1:=by kernel_rfl
theorem q0z{v:Value}{d:DataW H}{p:List MemPlace}(hv:Value.okWide Tryd.prog W .any W.heap.size 22 v)
 (h:DataW.Trod enc Tryd.prog W 0 (fun _=>true) true 22 v d p):
 ∃(a:Option Addr) (vs:List Int) (c:Nat),v= .slice a vs.length c∧vs.length≤Rows.uptoBulk d∧a0R W a vs∧(a=none→vs=[]∧c=0):=by
 obtain⟨fuel,hf⟩:=h
 obtain⟨a0,l0,c0,rfl⟩:=okWide_slice Tryd.underlying22 hv
 rcases open_ints Tryd.underlying22 Tryd.underlying2 t04 hf with⟨h1,h2⟩|⟨a,len,cap,zs,h1,hb,hlc,_,hzl,h2,h3,h4⟩
 ·simp[Value.cells]at h1
  obtain⟨rfl,rfl,rfl⟩:=h1
  exact⟨none,[],0,rfl,Nat.zero_le _,fun i x hx=>by simp at hx,fun _=>⟨rfl,rfl⟩⟩
 ·simp only[if_true]at hzl
  simp[Value.cells]at h1
  obtain⟨rfl,rfl,rfl⟩:=h1
  simp only[Prod.mk.injEq]at h2
  obtain⟨rfl,rfl⟩:=h2
  have el:(zs.take l0).length=l0:=by simp;omega
  refine⟨some a,zs.take l0,c0,by rw[el],?_,fun k u hk=>?_,(fun h=>by cases h)⟩
  ·have:=(a0u (H:=H) (lits .i64 (zs.take l0)) (lits .i64 (zs.drop l0))).1
   simpa [lits]using this
  ·have hkl:=(List.getElem?_eq_some_iff.1 hk).1
   rw[el]at hkl
   obtain⟨b,o,spot⟩:=a
   have hs:spot=none:=by
    have:=World.cell?_spot (h3 0 (by omega))
    simpa [Addr.add]using this
   subst hs
   have hu:zs.getD k 0=u:=by
    rw[List.getElem?_take_of_lt hkl]at hk
    simp[List.getD,hk]
   have hck:=h3 k (by omega)
   rw[add_plain,hu]at hck
   exact⟨b,o,rfl,hck⟩
theorem n0t{base:Nat}{spare:Nat→Bool}{held:Bool}{t t' t'':TypeId}{args:Array Value}{ds:List (DataW H)}{ps:List MemPlace}(h:DataW.TrodAll enc Tryd.prog W base spare held [t,t',t''] args.toList ds ps):
 ∃v v' v'' d d' d'' p p' p'',args= #[v,v',v'']∧ds=[d,d',d'']∧ps=p++p'++p''∧DataW.Trod enc Tryd.prog W base spare held t v d p∧DataW.Trod enc Tryd.prog W base spare held t' v' d' p'∧DataW.Trod enc Tryd.prog W base spare held t'' v'' d'' p'':=by
 obtain⟨v,vs,d,ds',p,q,hargs,rfl,rfl,hd,hrest⟩:=trodAll_cons h
 obtain⟨v',vs',d',ds'',p',q',rfl,rfl,rfl,hd',hrest'⟩:=trodAll_cons hrest
 obtain⟨v'',vs'',d'',dsx,p'',q'',rfl,rfl,rfl,hd'',hrest''⟩:=trodAll_cons hrest'
 obtain⟨rfl,rfl,rfl⟩:=trodAll_nil hrest''
 exact⟨v,v',v'',d,d',d'',p,p',p'',by cases args;simp_all,rfl,by simp,hd,hd',hd''⟩
end
section
variable{H:Type}{enc:TypeId×Value→H}
theorem c0g{a:Assume}{C:Checked}{os:Os}{f:FuncId}{fn:Func}{s:OpenSpec}{F:Stop.Interp}{conds:List PathCond}{apart fresh handsOn again:Bool}{laid:List (String×DataW Unit)}
 (own:ownKnob C.prog.godebug=none) (started:os.Started) (hfn:C.prog.funcs[f]? =some fn)
 (witness:∃(w:World) (tape:Tape) (i:Input),w.os=os∧(w.forCall tape i).Shaped C.prog∧i.vars=[]∧Input.okWide C.prog (w.forCall tape i) .any w.heap.size f i∧
   s.preRow enc C.prog fn conds apart laid (w.forCall tape i).memory i.args∧a.holds C.prog (lone (Frame.enter C.prog f i.args .normal) [] (w.forCall tape i)))
 (runs:∀(W:World) (base:Nat) (args:Array Value) (ds gs:List (DataW H)) (before:List MemPlace),
   (∀(j:Nat) t v,fn.params[j]? =some t→args[j]? =some v→Value.okWide C.prog W .any base t v)→
   DataW.Whole enc C.prog fn.params.toList s.vars apart W args.toList ds gs before→
   (∀k,s.cond=some k→k H (ds++gs)=true)→
   laidMetH C.prog laid W→W.ShapedOpen C.prog→
   a.holds C.prog (lone (Frame.enter C.prog f args .normal) [] W)→
   ∃M last o w' t',runNT C.prog (M+1) (solo (G (Frame.enter C.prog f args .normal) []) W) #[]=(.ended o w',t')∧runN C.prog M (solo (G (Frame.enter C.prog f args .normal) []) W)= .next last∧
    step C.prog last= .ended o w'∧Conc.Good C.prog (fun v W'=>(s.at F).post enc C.prog fn apart fresh handsOn again W args v W') last o w' t'):
 ReturnsInLeavingWide a C os f .any (s.preRow enc C.prog fn conds apart laid) ((s.at F).post enc C.prog fn apart fresh handsOn again):=by
 refine returnsInLeavingWide_of_good own started witness ?_
 intro w tape i _ hsh _ hok hpre hholds
 obtain⟨_,_,_,fn',hfn',_,_,_,_,hval⟩:=hok
 have e:fn'=fn:=Option.some.inj (hfn'.symm.trans hfn)
 subst e
 obtain⟨⟨hp,hl⟩,_⟩:=hpre
 obtain⟨ds,gs,before,hw,_,hk⟩:=OpenSpec.pre_parts hp
 have hw':=DataW.Whole.of_heap (w':=w.forCall tape i) (by rfl) hw
 obtain⟨M,last,o,w',t',h1,h2,h3,h4⟩:=runs (w.forCall tape i) w.heap.size i.args ds gs before hval hw' hk (hl.of_heap (by rfl)) hsh hholds
 exact⟨M,last,o,w',t',h1,h2,h3,h4.mono fun v hp=>ChangeSpec.post_blind hp⟩
end
theorem u0P:0<Tryd.prog.globals.size:=of_decide_eq_true (by kernel_rfl)
theorem v0v:∃x,((begin Tryd.prog (fun _ _=>0) default).world.heap[0]?).bind Obj.row? =some x∧x.1.size=64:=by
 obtain⟨x,h1,h2⟩:=Option.map_eq_some_iff.1 (show(((begin Tryd.prog (fun _ _=>0) default).world.heap[0]?).bind Obj.row?).map (fun x=>x.1.size)=some 64 by kernel_rfl)
 exact⟨x,h1,h2⟩
theorem q0V{W:World}(hs:W.ShapedOpen Tryd.prog)(hT:e0d W){sb so:Nat}{c:Array Value}{e:TypeId}{z:Nat×Nat}{k:IntKind}{u:Int}(hk:k≠.u8)(h:W.heap[sb]? =some (.cells c e z))(hc:c[so]? =some (.int k u)):sb≠0:=fun h0=>by
 subst h0
 obtain⟨⟨zero,t⟩,x1,x2⟩:=v0v
 obtain⟨cs,h1,h2,_⟩:=hs.1 0 zero t u0P x1
 rw[h]at h1
 cases h1
 obtain⟨c2,e2,z2,h3,h4⟩:=hT
 rw[h]at h3
 cases h3
 have hso:=(D4 hc)
 have:=h4 so (by simp only at x2;omega)
 rw[hc]at this
 cases this
 exact hk rfl
theorem q0E:Tryd.prog.cellsOf 3=1:=by kernel_rfl
theorem q0F:Tryd.prog.cellsOf 5=1:=by kernel_rfl
def wArgs3:Array Value:= #[.slice none 0 0,.slice none 0 0,.slice none 0 0]
theorem m0R(os:Os):laidMet Tryd.prog Rows.bitsNilRow.laid ((b0N os).forCall (fun _ _=>0) ⟨#[],wArgs3,[]⟩).memory:=
 laidMet_of_run' 8 (by kernel_rfl) (by kernel_rfl)
theorem u0A(os:Os){H:Type}(enc:TypeId×Value→H):∃places,DataW.whole enc Tryd.prog ((b0N os).forCall (fun _ _=>0) ⟨#[],wArgs3,[]⟩).memory Tryd.f6.params.toList (Rows.OpenSpec.upto Rows.bitsClaimsSpec).vars false wArgs3.toList 8=some ([.nil,.nil,.nil],[],places):=
 ⟨[],by kernel_rfl⟩
theorem c0Q(os:Os)(started:os.Started)(H:Type)(enc:TypeId×Value→H)(F:Stop.Interp):
 ReturnsInLeavingWide {} Tryd.checked os 6 .any ((Rows.OpenSpec.upto Rows.bitsClaimsSpec).preRow enc Tryd.prog Tryd.f6 Rows.bitsClaimsUptoRow.domain false Rows.bitsClaimsUptoRow.laid) (((Rows.OpenSpec.upto Rows.bitsClaimsSpec).at F).post enc Tryd.prog Tryd.f6 false true false false):=by
 obtain⟨places,hx⟩:=u0A os enc
 refine c0g (C:=Tryd.checked) (s:=Rows.OpenSpec.upto Rows.bitsClaimsSpec) Tryd.own started Tryd.func6
  (witness_row_at (enc:=enc) (C:=Tryd.checked) false (b0N os) wArgs3 rfl (by kernel_rfl) (by kernel_rfl) (by kernel_rfl)
    (OpenSpec.preRow_of_cond 8 hx (by kernel_rfl) (fun k hk=>by cases hk;kernel_rfl) (by kernel_rfl) (m0R os))) ?_
 intro W base args ds gs before hval0 hW hkk0 hL hsh _
 have hkk:Rows.uptoSmall H (ds++gs)=true:=hkk0 _ rfl
 have hT:e0d W:=y0Y hL
 have hval:∀(j:Nat) t v,Tryd.f6.params[j]? =some t→args[j]? =some v→Value.okWide Tryd.prog W .any base t v:=hval0
 have hW':=hW
 obtain⟨p,q,hA0,hV,rfl,hfz,_⟩:=hW
 have hA:DataW.TrodAll enc Tryd.prog W 0 (fun _=>true) true Tryd.f6.params.toList args.toList ds p:=hA0
 rw[Tryd.params6]at hA hval
 obtain⟨v0,v1,v2,d0,d1,d2,p0,p1,p2,rfl,rfl,rfl,h0,h1,h2⟩:=n0t hA
 obtain⟨rfl,rfl⟩:=trodVars_none hV
 clear hA0 hval0
 simp only[List.append_nil,List.nil_append]at hW' hfz hkk
 have hlt:∀x∈p0++p1++p2,x.block<W.heap.size:=fun x hx=>by simpa using hW'.lt x hx
 have hb:Rows.uptoBulkAll [d0,d1,d2]≤1048576:=by simpa [Rows.uptoSmall]using hkk
 have b0:Rows.uptoBulk d0≤1048576:=Nat.le_trans (a0q (by simp)) hb
 have b1:Rows.uptoBulk d1≤1048576:=Nat.le_trans (a0q (by simp)) hb
 have b2:Rows.uptoBulk d2≤1048576:=Nat.le_trans (a0q (by simp)) hb
 obtain⟨va,vs,vc,rfl,l0,r0,n0⟩:=q0z (hval 0 22 v0 rfl rfl) h0
 obtain⟨la,B,lc,rfl,l1,r1⟩:=u0C Tryd.underlying65 Tryd.underlying5 q0F (okWide_slice Tryd.underlying65 (hval 1 65 v1 rfl rfl)) h1
 obtain⟨sa,S,sc,sb,so,rfl,l2,r2⟩:=q0y Tryd.underlying24 Tryd.underlying3 q0E (okWide_slice Tryd.underlying24 (hval 2 24 v2 rfl rfl)) h2 (fun b o h=>hfz b o (by simp[h])) (fun x hx=>hlt x (by simp[hx]))
 have hv0:va=none→vc=0:=fun e=>(n0 e).2
 have hvo:∀a,va=some a→∃b o,a=⟨b,o,none⟩:=fun a e=>by
  subst e
  exact s0j Tryd.underlying22 (hval 0 22 _ rfl rfl)
 have hS:0<S.length→∃sb so c e z,sa=some ⟨sb,so,none⟩∧sb≠0∧W.heap[sb]? =some (.cells c e z)∧∀(k:Nat) (u:Value),(S.map fun i:Int=>Value.int .i64 i)[k]? =some u→c[so+k]? =some u∧(decide (z.1≤so+k) && decide (so+k<z.2))=false:=fun hp=>by
  obtain⟨e1,_,c,e,z,e2,e3⟩:=r2 hp
  have h00:=(e3 0 (S[0]) (by simp)).1
  refine⟨sb,so,c,e,z,e1,q0V hsh hT (k:=.i64) (by decide) e2 h00,e2,fun k u hk=>?_⟩
  rw[List.getElem?_map,Option.map_eq_some_iff]at hk
  obtain⟨x,hx,rfl⟩:=hk
  obtain⟨q1,q2,_⟩:=e3 k x hx
  exact⟨q1,q2⟩
 have hbes:=g0B (An:=⟨W.heap.size,W⟩) (W:=W) (lc:=lc) (sc:=sc) hT r0 hv0 hvo (by omega) r1 (by omega) (by omega) hS
 obtain⟨N,last,o',w',t',g1,g2,g3,g4⟩:=l04 (An:=⟨W.heap.size,W⟩) (Post:=fun v w'=>f0t W v w'∧(⟨W.heap.size,W⟩:O2).Holds w') (W:=W) ⟨rfl,rfl,rfl,Nat.le_refl _,fun r o _ h _=>h⟩ (Bes.bind hbes fun g w h=>Bes.stop ⟨h.1,fun d=>by
  obtain⟨v,e1,e2⟩:=h.2 d
  exact⟨v,e1,fun hh=>⟨e2 hh,hh⟩⟩⟩)
 refine⟨N,last,o',w',t',g1,g2,g3,g4.mono fun v hF=>?_⟩
 obtain⟨⟨rfl,hk⟩,hh⟩:=hF
 have hbelow:=l02 hh hk
 have q0:=Below.trod Tryd.laidOut (by kernel_rfl) (of_decide_eq_true (by kernel_rfl)) h0 hbelow (fun x hx=>hlt x (by simp[hx]))
 have q1:=Below.trod Tryd.laidOut (by kernel_rfl) (of_decide_eq_true (by kernel_rfl)) h1 hbelow (fun x hx=>hlt x (by simp[hx]))
 have q2:=Below.trod Tryd.laidOut (by kernel_rfl) (of_decide_eq_true (by kernel_rfl)) h2 hbelow (fun x hx=>hlt x (by simp[hx]))
 refine⟨_,_,_,[],p0++(p1++(p2++[])),[],hW',?_,?_,rfl,hbelow.frame _,fun h=>by cases h⟩
 ·exact trodAll_mk1 (shut_bool Tryd.underlying4 true)
 ·exact⟨p0,_,q0,⟨p1,_,q1,⟨p2,[],q2,trodAll_mk0,rfl⟩,rfl⟩,rfl⟩
theorem b02:Rows.BitsClaimsUptoSaid:=
 a0G 6 Tryd.f6 rfl rfl rfl rfl rfl rfl rfl ⟨rfl,rfl,rfl,rfl,rfl⟩ rfl rfl rfl rfl rfl (by kernel_rfl) Tryd.func6 (by kernel_rfl)
  (of_decide_eq_true (by kernel_rfl)) (by unfold Func.isWrapper;first|(rw[if_pos (by decide +kernel)];kernel_rfl)|(rw[if_neg (by decide +kernel)];exact⟨rfl,rfl⟩))
  (fun os started H enc _ F=>by rw[OpenClaim.pre_eq_preRow];exact c0Q os started H enc F)
theorem u0z (f : FuncId) (fn : Func) (hf : Tryd.pinned.checked.prog.funcNamed "carillon/carillonlaw04.BitsClaims" = some f) (hfn : Tryd.pinned.checked.prog.funcs[f]? = some fn) :
 true=Tryd.pinned.checked.prog.looks []∧∀(j:Nat) t,fn.params[j]? =some t→Tryd.pinned.checked.prog.wantsStandIn t=false:=by
 obtain rfl : f = 6 := Option.some.inj ((show Tryd.prog.funcNamed "carillon/carillonlaw04.BitsClaims" = some 6 by kernel_rfl).symm.trans hf) |>.symm
 obtain rfl:fn=Tryd.f6:=(Option.some.inj (Tryd.func6.symm.trans hfn)).symm
 refine⟨by kernel_rfl,fun j t ht=>?_⟩
 rw[Tryd.params6]at ht
 have hm:=Array.mem_of_getElem? ht
 have:t=22∨t=65∨t=24:=by simpa using hm
 rcases this with rfl|rfl|rfl
 ·exact(show Tryd.prog.wantsStandIn 22=false by kernel_rfl)
 ·exact(show Tryd.prog.wantsStandIn 65=false by kernel_rfl)
 ·exact(show Tryd.prog.wantsStandIn 24=false by kernel_rfl)
theorem bitsClaims_holds:Rows.BitsClaimsUptoCardSaid:=
 k0F _ _ _ _ b02 (by kernel_rfl) bitsClaimsUpto_row_tie rfl ⟨rfl,rfl⟩ (by kernel_rfl) rfl u0z (by kernel_rfl)
end
end Go.Proofs.YtlcgkpapnpdfpaaDoor
