/-
  What is proved: BitsCallsCardSaid: for every start, all operations and every bound, what the calls of a set answer by themselves, the steps that they take and the set behind them are the document's. Conditions: those of the given row and card (the variable that is listed reads as its table).
  Part 5 of 6.
-/
import Derived.Test.YtlcgkpapnpdfpaaDoorZD
import Derived.Deep.RegionHeld3
import Derived.Test.YtlcgkpapnpdfpaaDoorRows
import Derived.ProofKit
import Derived.JoinedCond
import Derived.Conc.Holds
import Derived.Conc.LeavingOf
import Derived.Test.YtlcgkpapnpdfpaaDoorCards
import Derived.Test.YtlcgkpapnpdfpaaDoorTie
import Derived.ChangeSame
import Derived.Deep.DeepHandedRow
import Derived.Lib.LaidTab
set_option linter.unusedSimpArgs false
set_option linter.unusedVariables false
set_option linter.unusedSectionVars false
set_option maxRecDepth 100000
set_option maxHeartbeats 8000000
namespace Go.Proofs.YtlcgkpapnpdfpaaDoor
open Go Go.Conc Go.RowKit Go.Proofs
section
def b0w(l:List g7):List Nat:=l.filterMap fun a=>if a.1=true then some a.2.1.toNat else none
def X6(f:Nat→List g7):Nat→List Nat
 | 0=>[]
 | n+1=>X6 f n++b0w (f n)
theorem d0k(l k:List g7):b0w (l++k)=b0w l++b0w k:=by simp[b0w]
theorem b0v{f g:Nat→List g7}:∀n,(∀i,i<n→g i=f i)→X6 g n=X6 f n
 | 0,_=>rfl
 | n+1,h=>by rw[X6,X6,b0v n fun i hi=>h i (by omega),h n (by omega)]
theorem d0j{f g:Nat→List g7}{i:Nat}{l:List g7}(hi:g i=f i++l)(hne:∀j,j≠i→g j=f j):∀n,i<n→(X6 g n).Perm (b0w l++X6 f n)
 | 0,h=>by omega
 | n+1,h=>by
   rw[X6,X6]
   by_cases e:i=n
   ·subst e
    rw[b0v i fun j hj=>hne j (by omega),hi,d0k]
    rw[← List.append_assoc]
    exact List.perm_append_comm
   ·rw[hne n (fun e2=>e e2.symm),← List.append_assoc]
    exact(d0j hi hne n (by omega)).append_right _
def c0Q(f:Nat→Nat):Nat→Nat
 | 0=>0
 | n+1=>c0Q f n+f n
theorem l07{f g:Nat→Nat}{d:Nat}:∀n,(∀j,j<n→g j≤f j+d)→c0Q g n≤c0Q f n+d*n
 | 0,_=>by simp[c0Q]
 | n+1,h=>by
   have h1:=l07 n fun j hj=>h j (by omega)
   have h2:=h n (by omega)
   simp only[c0Q,Nat.mul_succ]
   omega
theorem e0g{f g:Nat→Nat}{d i:Nat}:∀n,i<n→(∀j,j<n→j≠i→g j≤f j+d)→c0Q g n+f i≤c0Q f n+g i+d*n
 | 0,h,_=>by omega
 | n+1,h,hh=>by
   simp only[c0Q,Nat.mul_succ]
   by_cases e:i=n
   ·subst e
    have h1:=l07 (f:=f) (g:=g) (d:=d) i fun j hj=>hh j (by omega) (by omega)
    omega
   ·have h1:=e0g n (by omega) fun j hj hne=>hh j (by omega) hne
    have h2:=hh n (by omega) (fun e2=>e e2.symm)
    omega
def V0.has(s:V0)(x:Nat):Bool:=(s.wd (x / 64)).getLsbD (x % 64)
theorem q02{s:V0}{w j:Nat}(hw:w<s.ws.length)(hj:j<64)(x:Nat):({s with ws:=s.ws.set w (s.wd w ||| bitI j)}:V0).has x=(s.has x || decide (x=w*64+j)):=by
 unfold V0.has V0.wd
 simp only[List.getD_eq_getElem?_getD]
 by_cases e:x / 64=w
 ·rw[e,List.getElem?_set_self hw,Option.getD_some,BitVec.getLsbD_or,U8,Nat.mod_eq_of_lt hj]
  congr 1
  have:(x % 64=j)↔(x=w*64+j):=by omega
  by_cases h2:x % 64=j
  ·simp[h2,this.1 h2];omega
  ·have h3:¬x=w*64+j:=fun h=>h2 (this.2 h)
   simp[h2,h3]
 ·have h3:¬x=w*64+j:=by omega
  rw[List.getElem?_set_ne (fun e2=>e e2.symm)]
  simp[h3]
theorem m0A{s:V0}{w:Nat}(h:G4 s.n w (s.wd w)=none):∀x,x<s.n→x / 64=w→s.has x=true:=fun x hx e=>by
 unfold G4 at h
 rw[List.find?_eq_none]at h
 have:=h (x % 64) (by simp;omega)
 have e2:w*64+x % 64=x:=by omega
 rw[e2]at this
 unfold V0.has
 rw[e]
 simpa [hx]using this
structure CT(q:V0)(l:List P3)(t:GT BPl):Prop where
 k:t.k≤l.length
 al:List.length (α:=g7) t.ans=t.k
 an:∀a:g7,a∈(t.ans:List g7)→(∃x:Nat,a=(true,(x:Int),[]))∨(a=(false,0,[])∧∀x,x<q.n→q.has x=true)
 c0:t.call=none→t.k=l.length
 c1:∀c:p9,t.call=some c→t.k<l.length∧c.kd=4∧c.w<q.ws.length∧(c.ph=0∨c.ph=1∧∃j,G4 q.n c.w c.old=some j)∧∀x,x<q.n→x<64*c.w→q.has x=true
theorem CT.mono{q q':V0}{l:List P3}{t:GT BPl}(h:CT q l t)(hn:q'.n=q.n)(hl:q'.ws.length=q.ws.length)(hh:∀x,q.has x=true→q'.has x=true):CT q' l t:=
 ⟨h.k,h.al,fun a ha=>(h.an a ha).imp id fun⟨e,h2⟩=>⟨e,fun x hx=>hh x (h2 x (hn ▸ hx))⟩,h.c0,fun c hc=>by
  obtain⟨a,b,d,e,f⟩:=h.c1 c hc
  exact⟨a,b,hl ▸ d,by rw[hn];exact e,fun x hx h64=>hh x (f x (hn ▸ hx) h64)⟩⟩
def b0u(q:V0)(c:p9):Nat:=3*(q.ws.length - c.w)+(if c.ph=0 then 2 else if q.wd c.w=c.old then 1 else 3)
def Z8(q:V0)(K len:Nat)(t:GT BPl):Nat:=(len - t.k)*K+(match t.call with
 | none=>0
 | some c=>b0u q c)
theorem m06{q:V0}(hq:q.ws.length=0):∀(l:List P3) (k:Nat) (ans:List g7),(∀o∈l,o.kd=4)→K4 BPl l q ⟨k,none,ans⟩=(q,⟨k+l.length,none,ans++List.replicate l.length (false,0,[])⟩)
 | [],k,ans,_=>by
   show(q,(⟨k,none,ans⟩:GT BPl))=(q,(⟨k,none,(ans++[]:List g7)⟩:GT BPl))
   rw[List.append_nil]
 | o::l,k,ans,h=>by
   have e:BPl.beg q o=(q,.inr (false,0,[])):=by
    show V0.begin q o=_
    have h4:o.kd=4:=h o (by simp)
    simp[V0.begin,h4,hq]
    rfl
   have ih:=m06 hq l (k+1) (ans++[(false,0,[])]) fun o ho=>h o (by simp[ho])
   simp only[K4]
   rw[e]
   refine ih.trans ?_
   show(q,(⟨k+1+l.length,none,(ans++[(false,0,[])]++List.replicate l.length (false,0,[]):List g7)⟩:GT BPl))=(q,(⟨k+(o::l).length,none,(ans++List.replicate (o::l).length (false,0,[]):List g7)⟩:GT BPl))
   rw[List.length_cons,List.replicate_succ,List.append_assoc,Nat.add_right_comm]
   rfl
theorem m01{q:V0}(hwf:BWf q){l:List P3}(hl:∀o∈l,o.kd=4){k:Nat}{ans:List g7}(hk:k≤l.length)(hal:ans.length=k)(han:∀a∈ans,(∃x:Nat,a=(true,(x:Int),[]))∨(a=(false,0,[])∧∀x,x<q.n→q.has x=true))(K:Nat):
 ∃(t:GT BPl) (r:List g7),K4 BPl (l.drop k) q ⟨k,none,ans⟩=(q,t)∧CT q l t∧(t.ans:List g7)=ans++r∧b0w r=[]∧Z8 q K l.length t≤(l.length - k)*K+(3*q.ws.length+2):=by
 by_cases e:k=l.length
 ·refine⟨⟨k,none,ans⟩,[],?_,⟨hk,hal,han,fun _=>e,(fun c hc=>by cases hc)⟩,(List.append_nil ans).symm,rfl,?_⟩
  ·rw[e,List.drop_length];rfl
  ·simp[Z8]
 ·by_cases h0:q.ws.length=0
  ·have hn:q.n=0:=by have:=hwf.l;omega
   refine⟨_,List.replicate (l.length - k) (false,0,[]),m06 h0 _ _ _ fun o ho=>hl o (List.mem_of_mem_drop ho),⟨?_,?_,?_,fun _=>?_,(fun c hc=>by cases hc)⟩,?_,?_,?_⟩
   ·simp;omega
   ·show(ans++List.replicate (l.drop k).length _).length=k+(l.drop k).length
    simp[hal]
   ·intro a ha
    have ha:a∈ans++List.replicate (l.drop k).length (false,0,[]):=ha
    rcases List.mem_append.1 ha with h|h
    ·exact han a h
    ·refine .inr ⟨(List.mem_replicate.1 h).2,fun x hx=>by omega⟩
   ·show k+(l.drop k).length=l.length
    simp;omega
   ·show ans++List.replicate (l.drop k).length _=_
    simp
    rfl
   ·unfold b0w
    rw[List.filterMap_eq_nil_iff]
    intro a ha
    rw[(List.mem_replicate.1 ha).2]
    simp
   ·have:l.length - (k+(l.drop k).length)=0:=by simp;omega
    unfold Z8
    simp only[this]
    omega
  ·have hlt:k<l.length:=by omega
   refine⟨⟨k,some (⟨4,0,0,0,0#64,[]⟩:p9),ans⟩,[],?_,⟨hk,hal,han,(fun h=>by cases h),fun c hc=>?_⟩,(List.append_nil ans).symm,rfl,?_⟩
   ·rw[List.drop_eq_getElem_cons hlt]
    have e4:l[k].kd=4:=hl _ (List.getElem_mem hlt)
    have eb:BPl.beg q l[k]=(q,.inl (⟨4,0,0,0,0#64,[]⟩:p9)):=by
     show V0.begin q l[k]=_
     simp[V0.begin,e4,h0]
     try rfl
    simp only[K4]
    rw[eb]
    rfl
   ·have hc:some (⟨4,0,0,0,0#64,[]⟩:p9)=some c:=hc
    cases hc
    exact⟨hlt,rfl,by show 0<_;omega,.inl rfl,fun x _ h=>by simp at h⟩
   ·simp[Z8,b0u]
end
section
section
variable{m:Pl}{ops:Nat→List P3}{n M:Nat}{I:GS m→Nat→Prop}
end
theorem e0f{m:Pl}{ops:List P3}{q q':m.S}{t:GT m}{c c':m.C}(hc:t.call=some c)(h:m.stp q c=(q',.inl c')):stpG m ops q t=(q',⟨t.k,some c',t.ans⟩):=by simp[stpG,hc,h]
theorem h0D{m:Pl}{ops:List P3}{q q':m.S}{t:GT m}{c:m.C}{a:m.A}(hc:t.call=some c)(h:m.stp q c=(q',.inr a)):stpG m ops q t=K4 m (ops.drop (t.k+1)) q' ⟨t.k+1,none,t.ans++[a]⟩:=by simp[stpG,hc,h]
structure CI(in0:Nat→Bool)(n K B:Nat)(ops:Nat→List P3)(s:GS BPl)(t:Nat):Prop where
 wf:BWf s.q
 th:∀i,i<n→CT s.q (ops i) (s.th i)
 mem:∀x,x<(V0.n s.q)→((V0.has s.q) x=true↔in0 x=true∨x∈X6 (fun i=>(s.th i).ans) n)
 nd:(X6 (fun i=>(s.th i).ans) n).Nodup
 new:∀x∈X6 (fun i=>(s.th i).ans) n,x<(V0.n s.q)∧in0 x=false
 phi:t+c0Q (fun i=>Z8 s.q K (ops i).length (s.th i)) n≤B
theorem j0D{q q':V0}{K len:Nat}{t:GT BPl}(hl:q'.ws.length=q.ws.length):Z8 q' K len t≤Z8 q K len t+2:=by
 unfold Z8
 split
 ·omega
 ·unfold b0u
  rw[hl]
  split
  ·omega
  ·split<;>split<;>omega
theorem f0U{s:V0}{c:p9}(hp:c.ph=0)(hf:G4 s.n c.w (s.wd c.w)=none)(hw:c.w+1=s.ws.length):s.claim c=(s,.inr (false,0,[])):=by simp[V0.claim,hp,hf,hw]
theorem j0x{s:V0}{c:p9}(hp:c.ph=0)(hf:G4 s.n c.w (s.wd c.w)=none)(hw:¬c.w+1=s.ws.length):s.claim c=(s,.inl {c with w:=c.w+1}):=by simp[V0.claim,hp,hf,hw]
theorem m0j{s:V0}{c:p9}{j:Nat}(hp:c.ph=0)(hf:G4 s.n c.w (s.wd c.w)=some j):s.claim c=(s,.inl {c with ph:=1,old:=s.wd c.w}):=by simp[V0.claim,hp,hf]
theorem m0k{s:V0}{c:p9}{j:Nat}(hp:c.ph=1)(hf:G4 s.n c.w c.old=some j)(hw:s.wd c.w=c.old):s.claim c=({s with ws:=s.ws.set c.w (s.wd c.w ||| bitI j)},.inr (true,((c.w*64+j:Nat):Int),[])):=by simp[V0.claim,hp,hf,hw]
theorem j0w{s:V0}{c:p9}(hp:c.ph=1)(hw:¬s.wd c.w=c.old):s.claim c=(s,.inl {c with ph:=0}):=by simp[V0.claim,hp,hw]
theorem p0h{s:V0}{w j:Nat}(h:G4 s.n w (s.wd w)=some j):j<64∧w*64+j<s.n∧s.has (w*64+j)=false:=by
 obtain⟨h1,h2,h3,_,_⟩:=b0P h
 refine⟨h1,h2,?_⟩
 unfold V0.has
 rw[show(w*64+j) / 64=w by omega,show(w*64+j) % 64=j by omega]
 exact h3
section
variable{in0:Nat→Bool}{n K B:Nat}{ops:Nat→List P3}{s:GS BPl}{t:Nat}
theorem CI.one(h:CI in0 n K B ops s t){i:Nat}(hi:i<n){t':GT BPl}(hans:(t'.ans:List g7)=(s.th i).ans)(hct:CT s.q (ops i) t')(hphi:Z8 s.q K (ops i).length t'+1≤Z8 s.q K (ops i).length (s.th i)):CI in0 n K B ops (s.put i (s.q,t')) (t+1):=by
 have hth:∀j,(s.put i (s.q,t')).th j=if j=i then t' else s.th j:=fun j=>rfl
 have hw:X6 (fun j=>((s.put i (s.q,t')).th j).ans) n=X6 (fun j=>(s.th j).ans) n:=b0v n fun j _=>by
  rw[hth]
  split
  ·rename_i e;subst e;exact hans
  ·rfl
 refine⟨h.wf,fun j hj=>?_,fun x hx=>?_,by rw[hw];exact h.nd,fun x hx=>h.new x (hw ▸ hx),?_⟩
 ·rw[hth]
  split
  ·rename_i e;subst e;exact hct
  ·exact h.th j hj
 ·rw[hw];exact h.mem x hx
 ·have h1:=e0g (f:=fun j=>Z8 s.q K (ops j).length (s.th j)) (g:=fun j=>Z8 s.q K (ops j).length ((s.put i (s.q,t')).th j)) (d:=0) n hi fun j hj hne=>by
   simp only[hth,if_neg hne];omega
  have h2:=h.phi
  simp only[hth,if_true]at h1
  have hsum:c0Q (fun j=>Z8 (s.put i (s.q,t')).q K (ops j).length ((s.put i (s.q,t')).th j)) n=c0Q (fun j=>Z8 s.q K (ops j).length (if j=i then t' else s.th j)) n:=rfl
  rw[hsum]
  omega
theorem CI.step'{q:V0}{th:Nat→GT BPl}(hK:3*q.ws.length+2*n+3≤K)(hops:∀i,i<n→∀o∈ops i,o.kd=4)(h:CI in0 n K B ops ⟨q,th⟩ t){i:Nat}(hi:i<n){c:p9}(hc:(th i).call=some c):CI in0 n K B ops (GS.put (m:=BPl) ⟨q,th⟩ i (stpG BPl (ops i) q (th i))) (t+1):=by
 have hct:CT q (ops i) (th i):=h.th i hi
 have hwf:BWf q:=h.wf
 have hmem:∀x,x<q.n→(q.has x=true↔in0 x=true∨x∈X6 (fun i=>(th i).ans) n):=h.mem
 have hnd:(X6 (fun i=>(th i).ans) n).Nodup:=h.nd
 have hnew:∀x∈X6 (fun i=>(th i).ans) n,x<q.n∧in0 x=false:=h.new
 have hphi:t+c0Q (fun i=>Z8 q K (ops i).length (th i)) n≤B:=h.phi
 obtain⟨hk,h4,hw,hp,hbelow⟩:=hct.c1 c hc
 have hstep:BPl.stp q c=V0.claim q c:=by
  show V0.step q c=_
  unfold V0.step
  rw[if_pos h4]
 obtain⟨an,han⟩:∃an:List g7,an=(th i).ans:=⟨_,rfl⟩
 have hthi:th i=(⟨(th i).k,some c,an⟩:GT BPl):=by
  have e:th i=⟨(th i).k,(th i).call,(th i).ans⟩:=rfl
  rw[hc]at e
  exact e.trans (by rw[han];rfl)
 have hal:an.length=(th i).k:=by rw[han];exact hct.al
 have hphi0:Z8 q K (ops i).length (th i)=((ops i).length - (th i).k)*K+b0u q c:=by
  rw[hthi]
  rfl
 have hmul:((ops i).length - (th i).k)*K=((ops i).length - ((th i).k+1))*K+K:=by
  rw[show(ops i).length - (th i).k=((ops i).length - ((th i).k+1))+1 by omega,Nat.succ_mul]
 have hcan:∀a:g7,a∈an→(∃x:Nat,a=(true,(x:Int),[]))∨(a=(false,0,[])∧∀x,x<q.n→q.has x=true):=fun a ha=>hct.an a (by rw[han]at ha;exact ha)
 rcases hp with hp|⟨hp,j,hj⟩
 ·cases hf:G4 q.n c.w (q.wd c.w)with
  | none=>
    have hfull:=m0A hf
    by_cases he:c.w+1=q.ws.length
    ·-- refused
     have hs:=h0D (ops:=ops i) hc (hstep.trans (f0U hp hf he))
     have hall:∀x,x<q.n→q.has x=true:=fun x hx=>by
      rcases Nat.lt_or_ge x (64*c.w)with h1|h1
      ·exact hbelow x hx h1
      ·refine hfull x hx ?_
       have:=hwf.l
       omega
     obtain⟨t',r,e1,e2,e3,e4,e5⟩:=m01 (q:=q) hwf (hops i hi) (k:=(th i).k+1) (ans:=an++[(false,0,[])]) (by omega) (by rw[List.length_append,hal];rfl) (fun a ha=>by
      rcases List.mem_append.1 ha with ha|ha
      ·exact hcan a ha
      ·exact .inr ⟨by simpa using ha,hall⟩) K
     rw[← han]at hs
     rw[hs.trans e1]
     have hwT:b0w ([(false,0,[])]++r)=[]:=by rw[d0k,e4];rfl
     have hth:∀j,(GS.put (m:=BPl) ⟨q,th⟩ i (q,t')).th j=if j=i then t' else th j:=fun j=>rfl
     have hpw:=d0j (f:=fun j=>(th j).ans) (g:=fun j=>((GS.put (m:=BPl) ⟨q,th⟩ i (q,t')).th j).ans) (i:=i) (l:=[(false,0,[])]++r) (by rw[hth,if_pos rfl,← han];exact e3.trans (List.append_assoc _ _ _)) (fun j hj=>by rw[hth,if_neg hj]) n hi
     rw[hwT,List.nil_append]at hpw
     refine⟨hwf,fun j hj=>?_,fun x hx=>(hmem x hx).trans (or_congr Iff.rfl (hpw.mem_iff).symm),hpw.nodup_iff.2 hnd,fun x hx=>hnew x (hpw.mem_iff.1 hx),?_⟩
     ·show CT q (ops j) (if j=i then t' else th j)
      split
      ·rename_i e;subst e;exact e2
      ·exact h.th j hj
     ·have h1:=e0g (f:=fun j=>Z8 q K (ops j).length (th j)) (g:=fun j=>Z8 q K (ops j).length (if j=i then t' else th j)) (d:=0) n hi fun j hj hne=>by
       simp only[if_neg hne];omega
      simp only[if_true]at h1
      show t+1+c0Q (fun j=>Z8 q K (ops j).length (if j=i then t' else th j)) n≤B
      omega
    ·-- on to the next word
     rw[e0f (ops:=ops i) hc (hstep.trans (j0x hp hf he))]
     refine h.one hi rfl ⟨hct.k,hct.al,hct.an,(fun h=>by cases h),fun c' hc'=>?_⟩ ?_
     ·have hc':some {c with w:=c.w+1}=some c':=hc'
      cases hc'
      refine⟨hk,h4,?_,.inl hp,fun x hx h64=>?_⟩
      ·show c.w+1<q.ws.length
       omega
      ·rcases Nat.lt_or_ge x (64*c.w)with h1|h1
       ·exact hbelow x hx h1
       ·have h64:x<64*(c.w+1):=h64
        exact hfull x hx (by omega)
     ·show((ops i).length - (th i).k)*K+b0u q {c with w:=c.w+1}+1≤Z8 q K (ops i).length (th i)
      rw[hphi0]
      unfold b0u
      simp only[if_pos hp]
      omega
  | some j=>
    rw[e0f (ops:=ops i) hc (hstep.trans (m0j hp hf))]
    refine h.one hi rfl ⟨hct.k,hct.al,hct.an,(fun h=>by cases h),fun c' hc'=>?_⟩ ?_
    ·have hc':some {c with ph:=1,old:=q.wd c.w}=some c':=hc'
     cases hc'
     exact⟨hk,h4,hw,.inr ⟨rfl,j,hf⟩,hbelow⟩
    ·show((ops i).length - (th i).k)*K+b0u q {c with ph:=1,old:=q.wd c.w}+1≤Z8 q K (ops i).length (th i)
     have x0:b0u q {c with ph:=1,old:=q.wd c.w}=3*(q.ws.length - c.w)+1:=by simp[b0u]
     have x1:b0u q c=3*(q.ws.length - c.w)+2:=by simp[b0u,hp]
     rw[hphi0,x0,x1]
     omega
 ·by_cases hv:q.wd c.w=c.old
  ·-- won
   have hj':G4 q.n c.w (q.wd c.w)=some j:=by rw[hv];exact hj
   obtain⟨f1,f2,f3⟩:=p0h hj'
   have hs:=h0D (ops:=ops i) hc (hstep.trans (m0k hp hj hv))
   generalize hq':({q with ws:=q.ws.set c.w (q.wd c.w ||| bitI j)}:V0)=q' at hs
   have hhas:∀x,q'.has x=(q.has x || decide (x=c.w*64+j)):=fun x=>by
    rw[← hq'];exact q02 hw f1 x
   have hn':q'.n=q.n:=by rw[← hq']
   have hl':q'.ws.length=q.ws.length:=by rw[← hq'];simp
   have hwf':BWf q':=by
    refine⟨by rw[hl',hn'];exact hwf.l,by rw[hn'];exact hwf.n,?_⟩
    rw[← hq']
    refine h0y (n:=q.n) hwf.hi fun y hy=>?_
    rw[BitVec.getLsbD_or,hwf.hi _ _ hy,U8,Nat.mod_eq_of_lt f1]
    simp
    omega
   have hmono:∀x,q.has x=true→q'.has x=true:=fun x hx=>by rw[hhas,hx];rfl
   obtain⟨t',r,e1,e2,e3,e4,e5⟩:=m01 (q:=q') hwf' (hops i hi) (k:=(th i).k+1) (ans:=an++[(true,((c.w*64+j:Nat):Int),[])]) (by omega) (by rw[List.length_append,hal];rfl) (fun a ha=>by
    rcases List.mem_append.1 ha with ha|ha
    ·exact(hcan a ha).imp id fun⟨x1,x2⟩=>⟨x1,fun x hx=>hmono x (x2 x (hn' ▸ hx))⟩
    ·exact .inl ⟨_,List.mem_singleton.1 ha⟩) K
   rw[← han]at hs
   rw[hs.trans e1]
   have hwT:b0w ([(true,((c.w*64+j:Nat):Int),[])]++r)=[c.w*64+j]:=by
    rw[d0k,e4]
    simp only[b0w,List.filterMap_cons,if_true,List.filterMap_nil,List.append_nil,Int.toNat_natCast]
   have hth:∀j,(GS.put (m:=BPl) ⟨q,th⟩ i (q',t')).th j=if j=i then t' else th j:=fun j=>rfl
   have hpw:=d0j (f:=fun j=>(th j).ans) (g:=fun j=>((GS.put (m:=BPl) ⟨q,th⟩ i (q',t')).th j).ans) (i:=i) (l:=[(true,((c.w*64+j:Nat):Int),[])]++r) (by rw[hth,if_pos rfl,← han];exact e3.trans (List.append_assoc _ _ _)) (fun j hj=>by rw[hth,if_neg hj]) n hi
   rw[hwT,List.singleton_append]at hpw
   have hnot:c.w*64+j ∉ X6 (fun i=>(th i).ans) n:=fun hm=>by
    have:=(hmem (c.w*64+j) f2).2 (.inr hm)
    rw[f3]at this
    cases this
   have hin0:in0 (c.w*64+j)=false:=by
    cases hx:in0 (c.w*64+j)with
    | false=>rfl
    | true=>
      have:=(hmem (c.w*64+j) f2).2 (.inl hx)
      rw[f3]at this
      cases this
   refine⟨hwf',fun j' hj=>?_,fun x hx=>?_,hpw.nodup_iff.2 (List.nodup_cons.2 ⟨hnot,hnd⟩),fun x hx=>?_,?_⟩
   ·show CT q' (ops j') (if j'=i then t' else th j')
    split
    ·rename_i e;subst e;exact e2
    ·exact(h.th j' hj).mono hn' hl' hmono
   ·have hx:x<q'.n:=hx
    have h1:=hmem x (hn' ▸ hx)
    refine Iff.trans ?_ (or_congr Iff.rfl hpw.mem_iff.symm)
    show q'.has x=true↔_
    rw[hhas,Bool.or_eq_true,decide_eq_true_iff,List.mem_cons]
    constructor
    ·rintro(h2|h2)
     ·exact(h1.1 h2).imp id .inr
     ·exact .inr (.inl h2)
    ·rintro(h2|h2|h2)
     ·exact .inl (h1.2 (.inl h2))
     ·exact .inr h2
     ·exact .inl (h1.2 (.inr h2))
   ·show x<q'.n∧_
    rw[hn']
    rcases List.mem_cons.1 (hpw.mem_iff.1 hx)with rfl|h2
    ·exact⟨f2,hin0⟩
    ·exact hnew x h2
   ·have h1:=e0g (f:=fun j=>Z8 q K (ops j).length (th j)) (g:=fun j=>Z8 q' K (ops j).length (if j=i then t' else th j)) (d:=2) n hi fun j hj hne=>by
     simp only[if_neg hne];exact j0D hl'
    simp only[if_true]at h1
    show t+1+c0Q (fun j=>Z8 q' K (ops j).length (if j=i then t' else th j)) n≤B
    rw[hl']at e5
    have h0:0≤b0u q c:=Nat.zero_le _
    omega
  ·rw[e0f (ops:=ops i) hc (hstep.trans (j0w hp hv))]
   refine h.one hi rfl ⟨hct.k,hct.al,hct.an,(fun h=>by cases h),fun c' hc'=>?_⟩ ?_
   ·have hc':some {c with ph:=0}=some c':=hc'
    cases hc'
    exact⟨hk,h4,hw,.inl rfl,hbelow⟩
   ·show((ops i).length - (th i).k)*K+b0u q {c with ph:=0}+1≤Z8 q K (ops i).length (th i)
    have x0:b0u q {c with ph:=0}=3*(q.ws.length - c.w)+2:=by simp[b0u]
    have x1:b0u q c=3*(q.ws.length - c.w)+3:=by simp[b0u,hp,hv]
    rw[hphi0,x0,x1]
    omega
theorem CI.step(hK:3*(V0.ws s.q).length+2*n+3≤K)(hops:∀i,i<n→∀o∈ops i,o.kd=4)(h:CI in0 n K B ops s t){i:Nat}(hi:i<n){c:p9}(hc:(s.th i).call=some c):CI in0 n K B ops (s.put i (stpG BPl (ops i) s.q (s.th i))) (t+1):=
 CI.step' (q:=s.q) (th:=s.th) hK hops h hi hc
end
end
section
section
variable{m:Pl}{ops:Nat→List P3}{n M:Nat}
variable{I:m.S→Prop}(hb:∀s o,I s→I (m.beg s o).1)(hs:∀s c,I s→I (m.stp s c).1)
end
structure g01(N:Nat)(in0:Nat→Bool)(n:Nat)(ops:Nat→List P3)(s:GS BPl):Prop where
 live:L5 s.live n=0
 sz:V0.n s.q=N
 wf:BWf s.q
 len:∀i,i<n→List.length (α:=g7) (s.th i).ans=(ops i).length
 an:∀i,i<n→∀a:g7,a∈((s.th i).ans:List g7)→(∃x:Nat,a=(true,(x:Int),[]))∨(a=(false,0,[])∧∀x,x<N→V0.has s.q x=true)
 mem:∀x,x<N→(V0.has s.q x=true↔in0 x=true∨x∈X6 (fun i=>(s.th i).ans) n)
 nd:(X6 (fun i=>(s.th i).ans) n).Nodup
 new:∀x∈X6 (fun i=>(s.th i).ans) n,x<N∧in0 x=false
end
section
variable{w w':World}
structure Old(w w':World):Prop where
 sz:w.heap.size≤w'.heap.size
 eq:∀r,r<w.heap.size→w'.heap[r]? =w.heap[r]?
theorem Old.refl(w:World):Old w w:=⟨Nat.le_refl _,fun _ _=>rfl⟩
theorem Old.of(h:w'.heap=w.heap):Old w w':=⟨by rw[h];exact Nat.le_refl _,fun r _=>by rw[h]⟩
theorem Old.trans{u:World}(h:Old w w')(k:Old w' u):Old w u:=⟨Nat.le_trans h.sz k.sz,fun r hr=>(k.eq r (Nat.lt_of_lt_of_le hr h.sz)).trans (h.eq r hr)⟩
theorem Old.cell(h:Old w w'){a:Addr}{v:Value}(hc:w.cell? a=some v):w'.cell? a=some v:=by
 obtain⟨c,e,z,ho⟩:=M3 hc
 have:=h.eq _ (Q3 ho)
 rw[← hc]
 unfold World.cell?
 simp only[this]
theorem B5.grow{a:Option Addr}{xs:List Value}(h:B5 w a xs)(k:Old w w'):B5 w' a xs:=
 ⟨fun j x hx=>by
  obtain⟨b,o,h1,h2⟩:=h.c j x hx
  exact⟨b,o,h1,k.cell h2⟩⟩
def opC(l:List P3):List Value:=(l.map fun o=>[Value.int .i64 o.kd,vI o.a,vI o.b,vI o.c]).flatten
theorem r0m(l m:List P3):opC (l++m)=opC l++opC m:=by simp[opC]
theorem a0x(l:List P3):∀k o,l[k]? =some o→(opC l)[k*4]? =some (vI o.kd)∧(opC l)[k*4+1]? =some (vI o.a)∧(opC l)[k*4+2]? =some (vI o.b)∧(opC l)[k*4+3]? =some (vI o.c):=by
 induction l with
 | nil=>intro k o h;simp at h
 | cons x l ih=>
   intro k o h
   have e:opC (x::l)=Value.int .i64 x.kd::vI x.a::vI x.b::vI x.c::opC l:=rfl
   cases k with
   | zero=>
     simp only[List.getElem?_cons_zero,Option.some.injEq]at h
     subst h
     simp[e]
   | succ k=>
     have:=ih k o (by simpa using h)
     have e2:(k+1)*4=k*4+1+1+1+1:=by omega
     rw[e,e2]
     simpa using this
structure j01(w wr:World)(ov:Value)(l:List P3):Prop where
 row:wr.ownsRow 0 44 4 ov l.length (opC l)
 size:w.heap.size≤wr.heap.size
 old:∀r,r<w.heap.size→wr.heap[r]? =w.heap[r]?
 new:∀g,ov.ownBlock=some g→w.heap.size≤g
structure b0y(w wr:World)(ov:Value)(i:Nat)(xa:Nat→Option Addr)(xc:Nat→Nat)(ops:Nat→List P3):Prop where
 row:wr.ownsRow 0 32 1 ov i ((List.range i).map fun r=>.slice (xa r) (ops r).length (xc r))
 new:∀g,ov.ownBlock=some g→w.heap.size≤g
 old:Old w wr
 inn:∀r,r<i→wr.ownsRow 0 44 4 (.slice (xa r) (ops r).length (xc r)) (ops r).length (opC (ops r))∧∀g,(Value.slice (xa r) (ops r).length (xc r)).ownBlock=some g→w.heap.size≤g
theorem j01.app{wr w1:World}{oa:Option Addr}{oc g cap k:Nat}{l:List P3}{o:P3}{ob:Obj}(h:j01 w wr (.slice oa l.length oc) l)(hk:l.length=k)
 (hown:w1.ownsRow 0 44 4 (vL g 0 (k+1) cap) (k+1) (opC l++[vI o.kd,vI o.a,vI o.b,vI o.c])) (hgrow:(wr.alloc ob).grownBy w1 (Value.slice oa k oc).ownBlock)
 (hfr:(Value.slice (some ⟨g,0,none⟩) (k+1) cap).ownBlock=(Value.slice oa k oc).ownBlock∨∃g',(Value.slice (some ⟨g,0,none⟩) (k+1) cap).ownBlock=some g'∧wr.heap.size+1≤g'):j01 w w1 (vL g 0 (k+1) cap) (l++[o]):=by
 subst hk
 have hs:=h.size
 have hgs:=hgrow.size
 simp only[World.size_alloc]at hgs
 refine⟨?_,by omega,fun r hr=>(K3 hgrow (by omega) fun e=>?_).trans (h.old r hr),fun g' hg=>?_⟩
 ·rw[r0m,show(l++[o]).length=l.length+1 by simp]
  exact hown
 ·have:=h.new r e.symm
  omega
 ·rcases hfr with e|⟨g2,e1,e2⟩
  ·exact h.new g' (by rw[← e];exact hg)
  ·rw[hg]at e1
   cases e1
   omega
theorem p08{base n size:Nat}{e:TypeId}{v:Value}{xs:List Value}(h:w.ownsRow base e size v n xs)(hk:∀b c,v.ownBlock=some b→w.heap[b]? =some (.cells c e (0,0))→w'.heap[b]? =w.heap[b]?):w'.ownsRow base e size v n xs:=by
 refine⟨h.1,?_⟩
 rcases h.2 with h2|⟨b,cap,cur,rfl,h3,h4,h5⟩
 ·exact .inl h2
 ·exact .inr ⟨b,cap,cur,rfl,h3,(hk b cur rfl h4).trans h4,h5⟩
theorem b0y.app{w1 wr w3:World}{oa pa:Option Addr}{oc pc i j g cap:Nat}{xa:Nat→Option Addr}{xc:Nat→Nat}{ops:Nat→List P3}{ob:Obj}(h:b0y w w1 (.slice oa i oc) i xa xc ops)(p:j01 w1 wr (.slice pa j pc) (ops i))(hj:(ops i).length=j)
 (hown:w3.ownsRow 0 32 1 (vL g 0 (i+1) cap) (i+1) ((List.range i).map (fun r=>Value.slice (xa r) (ops r).length (xc r))++[.slice pa j pc])) (hgrow:(wr.alloc ob).grownBy w3 (Value.slice oa i oc).ownBlock)
 (hfr:(Value.slice (some ⟨g,0,none⟩) (i+1) cap).ownBlock=(Value.slice oa i oc).ownBlock∨∃g',(Value.slice (some ⟨g,0,none⟩) (i+1) cap).ownBlock=some g'∧wr.heap.size+1≤g'):
 b0y w w3 (vL g 0 (i+1) cap) (i+1) (fun r=>if r=i then pa else xa r) (fun r=>if r=i then pc else xc r) ops:=by
 have hs:=p.size
 have hs0:=h.old.sz
 have hgs:=hgrow.size
 simp only[World.size_alloc]at hgs
 have hrow:wr.ownsRow 0 32 1 (.slice oa i oc) i ((List.range i).map fun r=>.slice (xa r) (ops r).length (xc r)):=p08 h.row fun b c _ hb=>p.old b (Q3 hb)
 have hkeep:∀(b:Nat) (c:Array Value),wr.heap[b]? =some (Obj.cells c 44 (0,0))→w3.heap[b]? =wr.heap[b]?:=fun b c hb=>K3 hgrow (Q3 hb) (Q9 hrow hb (by decide))
 refine⟨?_,fun g' hg=>?_,⟨by omega,fun r hr=>(K3 hgrow (by omega) fun e=>?_).trans ((p.old r (by omega)).trans (h.old.eq r hr))⟩,fun r hr=>?_⟩
 ·have e:(List.range (i+1)).map (fun r=>Value.slice (if r=i then pa else xa r) (ops r).length (if r=i then pc else xc r))=(List.range i).map (fun r=>Value.slice (xa r) (ops r).length (xc r))++[.slice pa j pc]:=by
   rw[List.range_succ,List.map_append]
   congr 1
   ·refine List.map_congr_left fun r hr=>?_
    have:=List.mem_range.1 hr
    rw[if_neg (by omega),if_neg (by omega)]
   ·simp[hj]
  rw[e]
  exact hown
 ·rcases hfr with e|⟨g2,e1,e2⟩
  ·exact h.new g' (by rw[← e];exact hg)
  ·rw[hg]at e1
   cases e1
   omega
 ·have:=h.new r e.symm
  omega
 ·by_cases e:r=i
  ·subst e
   simp only[if_pos]
   rw[hj]
   have hp:=p.row
   rw[hj]at hp
   exact⟨p08 hp fun b c _ hb=>hkeep b c hb,fun g hg=>by have:=p.new g hg;omega⟩
  ·simp only[if_neg e]
   obtain⟨h1,h2⟩:=h.inn r (by omega)
   exact⟨p08 h1 fun b c _ hb=>by
    have e1:=p.old b (Q3 hb)
    exact(hkeep b c (e1.trans hb)).trans e1,h2⟩
theorem b0y.base{w0 wr:World}{ov:Value}{i:Nat}{xa:Nat→Option Addr}{xc:Nat→Nat}{ops:Nat→List P3}(h:b0y w wr ov i xa xc ops)(e:w0.heap=w.heap):b0y w0 wr ov i xa xc ops:=
 ⟨h.row,fun g hg=>by rw[e];exact h.new g hg,⟨by rw[e];exact h.old.sz,fun r hr=>by rw[e]at hr ⊢;exact h.old.eq r hr⟩,fun r hr=>⟨(h.inn r hr).1,fun g hg=>by rw[e];exact(h.inn r hr).2 g hg⟩⟩
theorem S2{base n size:Nat}{e:TypeId}{v:Value}{xs:List Value}(h:w.ownsRow base e size v n xs):∃a c,v= .slice a n c:=by
 rcases h.2 with⟨rfl,rfl⟩|⟨g,cap,cur,rfl,_⟩
 ·exact⟨_,_,rfl⟩
 ·exact⟨_,_,rfl⟩
structure t0t(w:World)(la:Option Addr)(B:List Nat):Prop where
 c:∀r x,B[r]? =some x→∃b o,la=some ⟨b,o,none⟩∧w.cell? ⟨b,o+r,none⟩=some (.int .u8 (x:Nat))∧x<256
theorem t0t.grow{la:Option Addr}{B:List Nat}(h:t0t w la B)(k:Old w w'):t0t w' la B:=⟨fun r x hx=>by
 obtain⟨b,o,h1,h2,h3⟩:=h.c r x hx
 exact⟨b,o,h1,k.cell h2,h3⟩⟩
end
section
variable{w w' u:World}
structure LK(w u:World)(cb:Nat)(rc:J4)(lv0:Value)(ys:List Int):Prop where
 c:F3 u cb rc
 row:u.ownsRow 0 2 1 rc.l ys.length (ys.map fun v=>vI v)
 sz:w.heap.size≤u.heap.size
 o:∀r,r<w.heap.size→r≠cb→lv0.ownBlock≠some r→u.heap[r]? =w.heap[r]?
 fr:rc.l.ownBlock=lv0.ownBlock∨∃g,rc.l.ownBlock=some g∧w.heap.size≤g
theorem LK.heap{u':World}{cb:Nat}{rc:J4}{lv0:Value}{ys:List Int}(h:LK w u cb rc lv0 ys)(e:u'.heap=u.heap):LK w u' cb rc lv0 ys:=
 ⟨by show u'.heap[cb]? =_;rw[e];exact h.c,p08 h.row fun b c _ _=>by rw[e],by rw[e];exact h.sz,fun r h1 h2 h3=>by rw[e];exact h.o r h1 h2 h3,h.fr⟩
theorem LK.set{cb k:Nat}{rc rc':J4}{lv0 v:Value}{ys:List Int}(h:LK w u cb rc lv0 ys)(hr:(Obj.cells ((match rc.o with| .cells c _ _=>c|_=> #[]).setIfInBounds k v) 51 (0,0))=rc'.o)(hl:rc'.l=rc.l):LK w (u.setCell ⟨cb,k,none⟩ v) cb rc' lv0 ys:=by
 have hne:∀b c,rc.l.ownBlock=some b→u.heap[b]? =some (.cells c 2 (0,0))→b≠cb:=fun b c _ hb e=>by
  have h2:u.heap[cb]? =some rc.o:=h.c
  subst e
  rw[hb]at h2
  unfold J4.o at h2
  simp at h2
 refine⟨?_,?_,by rw[World.size_setCell];exact h.sz,fun r h1 h2 h3=>(o0 _ _ _ h2).trans (h.o r h1 h2 h3),by rw[hl];exact h.fr⟩
 ·show(u.setCell ⟨cb,k,none⟩ v).heap[cb]? =_
  rw[U1 (o:=k) h.c,← hr]
  rfl
 ·rw[hl]
  exact p08 h.row fun b c hb hc=>o0 _ _ _ (hne b c hb hc)
theorem LK.app{w3:World}{cb:Nat}{rc:J4}{lv0 v:Value}{ys:List Int}{y:Int}{ob:Obj}(h:LK w u cb rc lv0 ys)(hown:w3.ownsRow 0 2 1 v (ys.length+1) (ys.map (fun v=>Value.int .i64 v)++[vI y]))(hgrow:(u.alloc ob).grownBy w3 rc.l.ownBlock)
 (hfr:v.ownBlock=rc.l.ownBlock∨∃g,v.ownBlock=some g∧u.heap.size+1≤g):LK w (w3.setCell ⟨cb,8,none⟩ v) cb {rc with l:=v} lv0 (ys++[y]):=by
 have hs:=h.sz
 have hgs:=hgrow.size
 simp only[World.size_alloc]at hgs
 have hcb:w3.heap[cb]? =some rc.o:=by
  have h1:=h.c
  exact(K3 hgrow (Q3 h1) (Q9 h.row h1 (by decide))).trans h1
 have hcl:=(Array.getElem?_eq_some_iff.1 h.c).1
 have hvc:v.ownBlock≠some cb:=fun e=>by
  obtain⟨c,hc⟩:∃c,w3.heap[cb]? =some (.cells c 2 (0,0)):=by
   rcases hown.2 with⟨rfl,_⟩|⟨b,cap,cur,rfl,_,h2,_⟩
   ·simp[Value.ownBlock]at e
   ·simp only[Value.ownBlock,Option.some.injEq]at e
    subst e
    exact⟨cur,h2⟩
  rw[hcb]at hc
  unfold J4.o at hc
  simp at hc
 refine⟨?_,?_,by rw[World.size_setCell];omega,fun r h1 h2 h3=>?_,?_⟩
 ·show(w3.setCell ⟨cb,8,none⟩ v).heap[cb]? =_
  rw[U1 (o:=8) hcb]
  rfl
 ·rw[List.map_append,List.length_append]
  exact p08 hown fun b c hb _=>o0 _ _ _ fun e=>hvc (by rw[← show b=cb from e];exact hb)
 ·rw[o0 _ _ _ h2]
  refine(K3 hgrow (by omega) fun e=>?_).trans (h.o r h1 h2 h3)
  rcases h.fr with f|⟨g,f1,f2⟩
  ·exact h3 (by rw[← f];exact e.symm)
  ·rw[f1]at e
   cases e
   omega
 ·rcases hfr with f|⟨g,f1,f2⟩
  ·rcases h.fr with k|⟨g,k1,k2⟩
   ·exact .inl (f.trans k)
   ·exact .inr ⟨g,f.trans k1,k2⟩
  ·exact .inr ⟨g,f1,by omega⟩
theorem v0s{xb wb cb wd:Nat}{k:V0}{ri rph rn:Int}{rold:BitVec 64}{rdone rok:Bool}{lv:Value}{out:List Int}(h:RS xb wb k w)(hc:F3 w cb ⟨6,ri,rph,(wd:Int),rold,rdone,rok,rn,lv⟩)(hrow:w.ownsRow 0 2 1 lv out.length (out.map fun v=>vI v))(hne:cb≠wb)(hne2:cb≠xb)(hl:wd<k.ws.length)(hl2:k.ws.length≤1024)(hn:k.n≤65536)(hol:out.length≤100000):
 Calls Tryd.prog 41 #[vP xb 0,vP cb 0] w fun y w'=>y= .returned (.tuple #[])∧RS xb wb k w'∧∃lv',LK w w' cb ⟨6,ri,rph,(wd:Int)+1,rold,(rdone || decide (wd+1=k.ws.length)),(rok || decide (wd+1=k.ws.length)),rn,lv'⟩ lv (out++X3 k.n wd (k.wd wd)):=by
 obtain⟨i0,z0,hi,hz0,hz1,hz2,hz3⟩:=l0G
 have H:Aside (RS xb wb k w):=h
 have hwb:Aside (cb≠wb∧cb≠xb∧lv.ownBlock≠some wb∧lv.ownBlock≠some xb):=⟨hne,hne2,fun e=>(Q9 hrow h.ws (by decide)) e.symm,fun e=>(Q9 hrow h.o (by decide)) e.symm⟩
 have c1:=(V1 h.o (j:=1) rfl).1
 have c3:=(V1 hc (j:=3) rfl).1
 obtain⟨cw,zw⟩:=h.word hl
 have hl3:(wd:Int)<(k.ws.length:Int):=by omega
 have w1:IntKind.i64.wrap ((wd:Int)*64)=((wd*64:Nat):Int):=by rw[IntWalk.i64_in _ (by omega)];omega
 have w2:IntKind.i64.wrap (((wd*64:Nat):Int)+64)=((wd*64+64:Nat):Int):=by rw[IntWalk.i64_in _ (by omega)];omega
 have w3:IntKind.i64.wrap ((wd:Int)+1)=(wd:Int)+1:=IntWalk.i64_in _ (by omega)
 obtain⟨x,hx⟩:∃x,x=k.wd wd:=⟨_,rfl⟩
 rw[← hx]at cw ⊢
 have S0:Aside (LK w w cb ⟨6,ri,rph,(wd:Int),rold,rdone,rok,rn,lv⟩ lv (out++R2 k.n wd x 0)):=by
  have:LK w w cb ⟨6,ri,rph,(wd:Int),rold,rdone,rok,rn,lv⟩ lv (out++R2 k.n wd x 0):=by
   rw[show R2 k.n wd x 0=[]from rfl,List.append_nil]
   exact⟨hc,hrow,Nat.le_refl _,fun _ _ _ _=>rfl,.inl rfl⟩
  exact this
 have XS:Aside (∀(u:World) (rc:J4) (ys:List Int),LK w u cb rc lv ys→RS xb wb k u):=by
  have:∀(u:World) (rc:J4) (ys:List Int),LK w u cb rc lv ys→RS xb wb k u:=fun u rc ys hh=>H.out.same (hh.o _ (Array.getElem?_eq_some_iff.1 H.out.o).1 hne2.symm hwb.out.2.2.2) (hh.o _ (Array.getElem?_eq_some_iff.1 H.out.ws).1 hne.symm hwb.out.2.2.1)
  exact this
 clear h hc hx hrow
 go_enter Tryd.func41,Tryd.ntmps41
 go_wp2
 go_quiet (fail)
 have c3':(w.drewN nq).cell? ⟨cb,3,none⟩=some (vI (wd:Nat)):=c3
 have S1:Aside (LK w (w.drewN nq) cb ⟨6,ri,rph,(wd:Int),rold,rdone,rok,rn,lv⟩ lv (out++R2 k.n wd x 0)):=S0.out.heap (by rfl)
 clear S0 c1 c3 cw zw
 generalize w.drewN nq=W0 at c3' S1 ⊢
 go_wp2
 go_loopg [5] 65 (fun g i u=>∃(j:Nat) (la:Option Addr) (lc:Nat),j≤64∧i=vI ((wd*64+j:Nat):Int)∧g=65 - j∧LK w u cb ⟨6,ri,rph,(wd:Int),rold,rdone,rok,rn,.slice la (out++R2 k.n wd x j).length lc⟩ lv (out++R2 k.n wd x j))
 case atStart=>
  obtain⟨la,lc,e⟩:=S2 S1.out.row
  have hs:=S1.out
  simp only at e
  rw[e]at hs
  refine⟨0,la,lc,Nat.zero_le _,rfl,rfl,?_⟩
  rw[e]
  exact hs
 case round=>
  obtain⟨j,la,lc,hj,rfl,rfl,hS⟩:=hrel
  have S:Aside (LK w wr cb ⟨6,ri,rph,(wd:Int),rold,rdone,rok,rn,.slice la (out++R2 k.n wd x j).length lc⟩ lv (out++R2 k.n wd x j)):=hS
  obtain⟨mm,hmm⟩:∃m,m=(out++R2 k.n wd x j).length:=⟨_,rfl⟩
  have MM:Aside (mm=(out++R2 k.n wd x j).length):=hmm
  have hc:F3 wr cb ⟨6,ri,rph,(wd:Int),rold,rdone,rok,rn,.slice la mm lc⟩:=by rw[hmm];exact hS.c
  have hml2:mm≤100064:=by
   have:=d0e k.n wd x j
   rw[hmm,List.length_append]
   omega
  have d0:=(V1 hc (j:=0) rfl).1
  have d3:=(V1 hc (j:=3) rfl).1
  have d8:=(V1 hc (j:=8) rfl).1
  have y3:=(V1 hc (j:=3) rfl).2
  have y8:=(V1 hc (j:=8) rfl).2
  have hX:=XS.out _ _ _ hS
  have x0:wr.cell? ⟨xb,0,none⟩=some (vI (k.n:Nat)):=(V1 hX.o (j:=0) rfl).1
  have hrow:wr.ownsRow 0 2 1 (.slice la mm lc) mm ((out++R2 k.n wd x j).map fun v=>vI v):=by rw[hmm];exact hS.row
  have e0:IntKind.i64.wrap (((wd*64+j:Nat):Int)+1)=((wd*64+(j+1):Nat):Int):=by rw[IntWalk.i64_in _ (by omega)];omega
  clear hS hmm hc hX
  by_cases hin:j<64∧wd*64+j<k.n
  ·obtain⟨hj2,hlt⟩:=hin
   have hm:(wd*64+j) % 64=j:=by omega
   have B:Aside (Calls Tryd.prog 56 #[vI ((wd*64+j:Nat):Int)] wr fun y w'=>y= .returned (wV (bitI (wd*64+j)))∧w'=wr):=O6 _
   have NS:Aside (R2 k.n wd x (j+1)=R2 k.n wd x j++(if wd*64+j<k.n∧x.getLsbD j=true then[((wd*64+j:Nat):Int)]else[])):=c0g _ _ _ _
   cases hb:x.getLsbD j with
   | false=>
     have hx:(bits .and .u64 (x.toNat:Int) ((bitI (wd*64+j)).toNat:Int) == 0)=true:=by rw[b0O,hm,hb];rfl
     have N2:Aside (R2 k.n wd x (j+1)=R2 k.n wd x j):=by
      have:R2 k.n wd x (j+1)=R2 k.n wd x j:=by rw[NS.out,if_neg (by rw[hb];simp),List.append_nil]
      exact this
     clear hrow
     go_wp2_with (go_at_call 56;refine B.out.mono ?_;rintro e u ⟨rfl,hu⟩;subst hu)
     go_roundg (65 - (j+1))
     case measure=>omega
     case rel=>exact⟨j+1,la,lc,by omega,rfl,rfl,by rw[N2.out];exact S.out⟩
   | true=>
     have hx:(bits .and .u64 (x.toNat:Int) ((bitI (wd*64+j)).toNat:Int) == 0)=false:=by rw[b0O,hm,hb];rfl
     have N2:Aside (R2 k.n wd x (j+1)=R2 k.n wd x j++[((wd*64+j:Nat):Int)]):=by
      have:R2 k.n wd x (j+1)=R2 k.n wd x j++[((wd*64+j:Nat):Int)]:=by rw[NS.out,if_pos ⟨hlt,hb⟩]
      exact this
     have RW:Aside (wr.ownsRow 0 2 1 (.slice la mm lc) mm ((out++R2 k.n wd x j).map fun v=>vI v)):=hrow
     clear hrow
     go_wp2_with (first
      | (go_at_call 56;refine B.out.mono ?_;rintro e u ⟨rfl,hu⟩;subst u)
      | (at_builtin;refine I3 rfl (.tmp 63) (.tmp 65) 22 rfl 2 i0 z0 1 8 Tryd.underlying22 hi hz0 hz1 hz2 hz3 (by decide) (.slice la mm lc) mm ((out++R2 k.n wd x j).map fun v=>.int .i64 v) rfl ?c0 ⟨wr.heap.size,0,none⟩ 1 1 [.int .i64 ((wd*64+j:Nat):Int)] rfl rfl ?c1 ?c2 ?c3 ?c4 ?_)
      | go_in)
     case c0=>exact World.ownsRow.alloc RW.out _
     case c1=>exact c0b (X:=wr) (l:=[vI ((wd*64+j:Nat):Int)]) rfl
     case c2=>intro u hu;simp at hu;subst hu;rfl
     case c3=>unfold maxLen;omega
     case c4=>omega
     ·intro v' w3 hown hgrow hfr
      obtain⟨g,cap,rfl⟩:=j5 hown
      have HC:w3.heap[cb]? =some (⟨6,ri,rph,(wd:Int),rold,rdone,rok,rn,.slice la mm lc⟩:J4).o:=by
       have h1:F3 wr cb ⟨6,ri,rph,(wd:Int),rold,rdone,rok,rn,.slice la mm lc⟩:=by rw[MM.out];exact S.out.c
       exact(K3 hgrow (Q3 h1) (Q9 RW.out h1 (by decide))).trans h1
      have F:Aside (LK w (w3.setCell ⟨cb,8,none⟩ (vL g 0 (mm+1) cap)) cb ⟨6,ri,rph,(wd:Int),rold,rdone,rok,rn,vL g 0 (out++R2 k.n wd x (j+1)).length cap⟩ lv (out++R2 k.n wd x (j+1))):=by
       have hh:=S.out
       rw[← MM.out]at hh
       have h1:=hh.app (v:=vL g 0 (mm+1) cap) (y:=((wd*64+j:Nat):Int)) (by rw[← MM.out,List.map_append,List.append_assoc];exact hown) hgrow hfr
       have e1:(out++R2 k.n wd x (j+1))=out++R2 k.n wd x j++[((wd*64+j:Nat):Int)]:=by rw[N2.out,List.append_assoc]
       have e2:(out++R2 k.n wd x (j+1)).length=mm+1:=by rw[e1,List.length_append,← MM.out];rfl
       rw[e2,e1]
       exact h1
      have d8:=(V1 HC (j:=8) rfl).1
      have y8:=(V1 HC (j:=8) rfl).2
      clear hown hgrow hfr HC d0 d3 x0 y3
      go_wp2
      go_roundg (65 - (j+1))
      case measure=>omega
      case rel=>exact⟨j+1,some ⟨g,0,none⟩,cap,by omega,rfl,rfl,F.out⟩
  ·have NE:Aside (R2 k.n wd x j=X3 k.n wd x):=by
    have:R2 k.n wd x j=X3 k.n wd x:=by
     rw[← h06]
     by_cases e:j<64
     ·have:=c0f (n:=k.n) (w:=wd) (x:=x) (j:=j) (by omega) (64 - j)
      rw[show j+(64 - j)=64 by omega]at this
      rw[this]
     ·rw[show j=64 by omega]
    exact this
   have b:64≤j∨(j<64∧k.n≤wd*64+j):=by omega
   have Q0:Aside (LK w (wr.setCell ⟨cb,3,none⟩ (vI ((wd:Int)+1))) cb ⟨6,ri,rph,(wd:Int)+1,rold,rdone,rok,rn,.slice la mm lc⟩ lv (out++X3 k.n wd x)):=by
    have hh:=S.out
    rw[← MM.out,NE.out]at hh
    exact hh.set (k:=3) (v:=vI ((wd:Int)+1)) rfl rfl
   rcases b with b0|⟨b0,b1⟩
   all_goals(
    go_wp2
    have x1':(wr.setCell ⟨cb,3,none⟩ (vI ((wd:Int)+1))).cell? ⟨xb,1,none⟩=some (vL wb 0 k.ws.length k.ws.length):=(V1 (XS.out _ _ _ Q0.out).o (j:=1) rfl).1
    have Q:Aside _:=Q0.out
    clear d0 d3 d8 y3 y8 x0 Q0 S MM NE hrow
    generalize wr.setCell ⟨cb,3,none⟩ (vI ((wd:Int)+1))=W at Q x1' ⊢
    have d3:=(V1 Q.out.c (j:=3) rfl).1
    have d5:=(V1 Q.out.c (j:=5) rfl).1
    have d6:=(V1 Q.out.c (j:=6) rfl).1
    have y5:=(V1 Q.out.c (j:=5) rfl).2
    have y6:=(V1 Q.out.c (j:=6) rfl).2
    by_cases he:wd+1=k.ws.length
    ·have he1:(((wd:Int)+1) == (k.ws.length:Int))=true:=by simp;omega
     go_quiet (fail)
     rename_i nq
     go_wp2
     go_end0
     refine⟨rfl,?_⟩
     have Q1:=(Q.out.heap (u':=W.drewN nq) rfl).set (k:=5) (v:=.bool true) (rc':=⟨6,ri,rph,(wd:Int)+1,rold,true,rok,rn,.slice la mm lc⟩) rfl rfl
     have Q2:=Q1.set (k:=6) (v:=.bool true) (rc':=⟨6,ri,rph,(wd:Int)+1,rold,true,true,rn,.slice la mm lc⟩) rfl rfl
     exact⟨XS.out _ _ _ Q2,_,Q2⟩
    ·have he1:(((wd:Int)+1) == (k.ws.length:Int))=false:=by simp;omega
     go_quiet (fail)
     rename_i nq
     go_wp2
     go_end0
     refine⟨rfl,?_⟩
     have Q1:=Q.out.heap (u':=W.drewN nq) rfl
     exact⟨XS.out _ _ _ Q1,_,Q1⟩)
end
section
variable{w w':World}
theorem j0P{xb cb:Nat}{rc:J4}{R:World→Prop}(hc:F3 w cb rc)(h4:rc.kd≠4)(h5:rc.kd≠5)(h6:rc.kd≠6)(h:Calls Tryd.prog 42 #[vP xb 0,vP cb 0] w fun y w'=>y= .returned (.tuple #[])∧R w'):
 Calls Tryd.prog 14 #[vP xb 0,vP cb 0] w fun y w'=>y= .returned (.tuple #[])∧R w':=by
 have c0:=(V1 hc (j:=0) rfl).1
 have q4:(rc.kd == 4)=false:=beq_eq_false_iff_ne.2 h4
 have q5:(rc.kd == 5)=false:=beq_eq_false_iff_ne.2 h5
 have q6:(rc.kd == 6)=false:=beq_eq_false_iff_ne.2 h6
 have C:Aside (Calls Tryd.prog 42 #[vP xb 0,vP cb 0] w fun y w'=>y= .returned (.tuple #[])∧R w'):=h
 clear h hc h4 h5 h6
 go_enter Tryd.func14,Tryd.ntmps14
 go_wp2_with (go_at_call 42;refine C.out.mono ?_;rintro e u ⟨rfl,hu⟩;have U:Aside (R u):=hu;clear hu)
 go_end0
 exact⟨rfl,U.out⟩
theorem h0C{xb cb:Nat}{rc:J4}{R:World→Prop}(hc:F3 w cb rc)(h4:rc.kd=4)(h:Calls Tryd.prog 40 #[vP xb 0,vP cb 0] w fun y w'=>y= .returned (.tuple #[])∧R w'):
 Calls Tryd.prog 14 #[vP xb 0,vP cb 0] w fun y w'=>y= .returned (.tuple #[])∧R w':=by
 have c0:=(V1 hc (j:=0) rfl).1
 rw[h4]at c0
 have C:Aside (Calls Tryd.prog 40 #[vP xb 0,vP cb 0] w fun y w'=>y= .returned (.tuple #[])∧R w'):=h
 clear h hc h4
 go_enter Tryd.func14,Tryd.ntmps14
 go_wp2_with (go_at_call 40;refine C.out.mono ?_;rintro e u ⟨rfl,hu⟩;have U:Aside (R u):=hu;clear hu)
 go_end0
 exact⟨rfl,U.out⟩
theorem i0h{xb cb:Nat}{rc:J4}{R:World→Prop}(hc:F3 w cb rc)(h5:rc.kd=5∨rc.kd=6)(h:Calls Tryd.prog 41 #[vP xb 0,vP cb 0] w fun y w'=>y= .returned (.tuple #[])∧R w'):
 Calls Tryd.prog 14 #[vP xb 0,vP cb 0] w fun y w'=>y= .returned (.tuple #[])∧R w':=by
 have c0:=(V1 hc (j:=0) rfl).1
 have C:Aside (Calls Tryd.prog 41 #[vP xb 0,vP cb 0] w fun y w'=>y= .returned (.tuple #[])∧R w'):=h
 clear h hc
 rcases h5 with h5|h5
 all_goals(
  rw[h5]at c0
  go_enter Tryd.func14,Tryd.ntmps14
  go_wp2_with (go_at_call 41;refine C.out.mono ?_;rintro e u ⟨rfl,hu⟩;have U:Aside (R u):=hu;clear hu)
  go_end0
  exact⟨rfl,U.out⟩)
def c0c(c:p9):List Int:=if c.kd=6 then c.out else[]
structure BDm(s:V0):Prop where
 l:s.ws.length=(s.n+63) / 64
 n:s.n≤65536
theorem BWf.dm{s:V0}(h:BWf s):BDm s:=⟨h.l,h.n⟩
theorem BDm.step{s:V0}(h:BDm s)(c:p9):BDm (s.step c).1:=⟨by rw[(x9 s c).1,(x9 s c).2];exact h.l,by rw[(x9 s c).2];exact h.n⟩
structure c0k(k:V0)(c:p9):Prop where
 w:c.w<k.ws.length
 ph:c.ph≤1
 kd:1≤c.kd∧c.kd≤6
 i:c.kd≤3→c.w=c.i / 64
 f:c.kd=4→c.ph=1→∃j,G4 k.n c.w c.old=some j
 p0:5≤c.kd→c.ph=0
 h0:c.kd=3→c.ph=0
 out:c.out.length≤64*c.w
 o4:c.kd≤4→c.out=[]
structure e0t(rc:J4)(c:p9):Prop where
 kd:rc.kd=c.kd
 done:rc.done=false
 ok:rc.ok=false
 ph:rc.ph=c.ph+1
 w:rc.w=c.w
 i:c.kd≤3→rc.i=c.i
 old:c.ph=1→rc.old=c.old
 n:rc.n=if c.kd=5 then(c.out.length:Int)else 0
structure f00(rc:J4)(a:g7):Prop where
 done:rc.done=true
 ok:rc.ok=a.1
 n:rc.n=a.2.1
def b9(w:World)(v:Value)(l:List Int):Prop:=w.ownsRow 0 2 1 v l.length (l.map fun v=>vI v)
theorem b9.keep{v:Value}{l:List Int}(h:b9 w v l)(hk:∀b c,v.ownBlock=some b→w.heap[b]? =some (.cells c 2 (0,0))→w'.heap[b]? =w.heap[b]?):b9 w' v l:=p08 h hk
structure q0z(w w':World)(cb wb:Nat)(l l':Value):Prop where
 sz:w.heap.size≤w'.heap.size
 o:∀r,r<w.heap.size→r≠cb→r≠wb→l.ownBlock≠some r→w'.heap[r]? =w.heap[r]?
 fr:l'.ownBlock=l.ownBlock∨∃g,l'.ownBlock=some g∧w.heap.size≤g
theorem RP.stp{xb wb cb:Nat}{k:V0}{c:J4}(h:RP w w' xb wb cb k c)(l:Value):q0z w w' cb wb l l:=⟨by rw[h.sz];exact Nat.le_refl _,fun r _ h1 h2 _=>h.o r h1 h2,.inl rfl⟩
theorem b9.rp{xb wb cb:Nat}{k0 k:V0}{c0 c:J4}{v:Value}{l:List Int}(hl:b9 w v l)(h:RP w w' xb wb cb k c)(h0:RS xb wb k0 w)(hc:F3 w cb c0):b9 w' v l:=
 hl.keep fun b d hb hd=>h.o b (fun e=>by subst e;exact Q9 hl hc (by decide) hb.symm) (fun e=>by subst e;exact Q9 hl h0.ws (by decide) hb.symm)
theorem LK.stp{cb wb:Nat}{rc:J4}{lv:Value}{ys:List Int}(h:LK w w' cb rc lv ys):q0z w w' cb wb lv rc.l:=⟨h.sz,fun r h1 h2 _ h3=>h.o r h1 h2 h3,h.fr⟩
def j07(w w':World)(k:V0)(rc':J4)(r:BRs):Prop:=match r with
 | .inl c'=>e0t rc' c'∧c0k k c'∧b9 w' rc'.l (c0c c')
 | .inr a=>f00 rc' a∧b9 w' rc'.l a.2.2
end
section
variable{w w':World}
def b0x(w w':World)(xb wb cb:Nat)(l0:Value)(r:V0×BRs):Prop:=
 RS xb wb r.1 w'∧∃rc',F3 w' cb rc'∧j07 w w' r.1 rc' r.2∧q0z w w' cb wb l0 rc'.l
theorem n7{xb wb cb:Nat}{k k':V0}{rc rc':J4}{lst:List Int}{r:BRs}(h:RP w w' xb wb cb k' rc')(hl:b9 w rc.l lst)(h0:RS xb wb k w)(hc:F3 w cb rc)(hle:rc'.l=rc.l)
 (he:match r with| .inl c'=>e0t rc' c'∧c0k k' c'∧c0c c'=lst| .inr a=>f00 rc' a∧a.2.2=lst):b0x w w' xb wb cb rc.l (k',r):=by
 have hl':=hl.rp h h0 hc
 have hst:=h.stp rc.l
 rw[← hle]at hl' hst
 refine⟨h.s,rc',h.c,?_,⟨hst.sz,fun r a b c d=>hst.o r a b c (by rw[hle];exact d),by rw[hle];exact .inl rfl⟩⟩
 unfold j07
 cases r with
 | inl c'=>exact⟨he.1,he.2.1,by rw[he.2.2];exact hl'⟩
 | inr a=>exact⟨he.1,by rw[he.2];exact hl'⟩
theorem r0E{k:V0}{c:p9}(h4:c.kd≠4)(h5:c.kd≠5)(h6:c.kd≠6):k.step c=k.one c:=by
 unfold V0.step
 rw[if_neg h4,if_neg (by rintro(h|h);exact h5 h;exact h6 h)]
theorem n0z(w j:Nat)(h:j<64):bitI (w*64+j)=bitI j:=by
 unfold bitI
 rw[show(w*64+j) % 64=j % 64 by omega]
theorem q0q{xb wb cb:Nat}{k:V0}{rc:J4}{c:p9}(h:RS xb wb k w)(hc:F3 w cb rc)(hr:e0t rc c)(hi:c0k k c)(hl:b9 w rc.l (c0c c))(hne:cb≠wb)(hne2:cb≠xb)(hk:k.ws.length≤1024)(h3:c.kd≤3):
 Calls Tryd.prog 14 #[vP xb 0,vP cb 0] w fun y w'=>y= .returned (.tuple #[])∧b0x w w' xb wb cb rc.l (k.step c):=by
 have hkd:=hi.kd
 have hw:=hi.i h3
 have hlt:c.i / 64<k.ws.length:=by rw[← hw];exact hi.w
 have hls:c0c c=[]:=by unfold c0c;rw[if_neg (by omega)]
 have ho:=hi.o4 (by omega)
 have en:rc.n=0:=by rw[hr.n,if_neg (by omega)]
 refine j0P hc (by rw[hr.kd];omega) (by rw[hr.kd];omega) (by rw[hr.kd];omega) ?_
 rw[r0E (by omega) (by omega) (by omega)]
 have hrel:=hr
 obtain⟨rkd,ri,rph,rw_,rold,rdone,rok,rn,rl⟩:=rc
 obtain⟨r1,r2,r3,r4,r5,r6,r7,r8⟩:=hr
 have r6':ri=(c.i:Int):=r6 h3
 clear r6
 simp only at r1 r2 r3 r4 r5 r7 r8 hl en
 rw[hw]at r5
 subst r1 r2 r3 r5 r6' en
 obtain⟨ck,cp,ci,cw,cold,cout⟩:=c
 simp only at*
 subst hw ho
 have hph:=hi.ph
 simp only at hph
 rcases Nat.eq_zero_or_pos cp with rfl|hp
 ·have r4:rph=1:=by omega
  subst r4
  cases hb:(k.wd (ci / 64)).getLsbD (ci % 64)with
  | true=>
    have:ck=1∨ck=2∨ck=3:=by omega
    rcases this with rfl|rfl|rfl
    ·refine(v0B h hc hne hne2 hlt hk hb).mono fun y u hu=>⟨hu.1,?_⟩
     have e:k.one ⟨1,0,ci,ci / 64,cold,[]⟩=(k,.inr (true,0,[])):=by simp[V0.one,hb]
     rw[e]
     exact n7 hu.2 hl h hc rfl ⟨⟨rfl,rfl,rfl⟩,rfl⟩
    ·refine(v0D h hc hne hne2 hlt hk hb).mono fun y u hu=>⟨hu.1,?_⟩
     have e:k.one ⟨2,0,ci,ci / 64,cold,[]⟩=(k,.inl ⟨2,1,ci,ci / 64,k.wd (ci / 64),[]⟩):=by simp[V0.one,hb]
     rw[e]
     exact n7 hu.2 hl h hc rfl ⟨⟨rfl,rfl,rfl,rfl,rfl,fun _=>rfl,fun _=>rfl,rfl⟩,⟨hlt,Nat.le_refl _,⟨by simp,by simp⟩,fun _=>rfl,fun h=>absurd h (by simp),fun h=>absurd h (by simp),fun h=>absurd h (by simp),Nat.zero_le _,fun _=>rfl⟩,rfl⟩
    ·refine(v0F h hc hne hne2 hlt hk hb).mono fun y u hu=>⟨hu.1,?_⟩
     have e:k.one ⟨3,0,ci,ci / 64,cold,[]⟩=(k,.inr (true,1,[])):=by simp[V0.one,hb]
     rw[e]
     exact n7 hu.2 hl h hc rfl ⟨⟨rfl,rfl,rfl⟩,rfl⟩
  | false=>
    have:ck=1∨ck=2∨ck=3:=by omega
    rcases this with rfl|rfl|rfl
    ·refine(v0A h hc hne hne2 hlt hk hb).mono fun y u hu=>⟨hu.1,?_⟩
     have e:k.one ⟨1,0,ci,ci / 64,cold,[]⟩=(k,.inl ⟨1,1,ci,ci / 64,k.wd (ci / 64),[]⟩):=by simp[V0.one,hb]
     rw[e]
     exact n7 hu.2 hl h hc rfl ⟨⟨rfl,rfl,rfl,rfl,rfl,fun _=>rfl,fun _=>rfl,rfl⟩,⟨hlt,Nat.le_refl _,⟨by simp,by simp⟩,fun _=>rfl,fun h=>absurd h (by simp),fun h=>absurd h (by simp),fun h=>absurd h (by simp),Nat.zero_le _,fun _=>rfl⟩,rfl⟩
    ·refine(v0C h hc hne hne2 hlt hk hb).mono fun y u hu=>⟨hu.1,?_⟩
     have e:k.one ⟨2,0,ci,ci / 64,cold,[]⟩=(k,.inr (true,0,[])):=by simp[V0.one,hb]
     rw[e]
     exact n7 hu.2 hl h hc rfl ⟨⟨rfl,rfl,rfl⟩,rfl⟩
    ·refine(v0E h hc hne hne2 hlt hk hb).mono fun y u hu=>⟨hu.1,?_⟩
     have e:k.one ⟨3,0,ci,ci / 64,cold,[]⟩=(k,.inr (true,0,[])):=by simp[V0.one,hb]
     rw[e]
     exact n7 hu.2 hl h hc rfl ⟨⟨rfl,rfl,rfl⟩,rfl⟩
 ·obtain rfl:cp=1:=by omega
  have r4:rph=2:=by omega
  subst r4
  have hold:rold=cold:=r7 rfl
  subst hold
  refine(x0E h hc hne hne2 hlt hk).mono fun y u hu=>⟨hu.1,?_⟩
  have hu:=hu.2
  unfold SwR at hu
  by_cases he:k.wd (ci / 64)=rold
  ·rw[if_pos he]at hu
   have e:k.one ⟨ck,1,ci,ci / 64,rold,[]⟩=({k with ws:=k.ws.set (ci / 64) (rold ^^^ bitI ci)},.inr (true,1,[])):=by simp[V0.one,he]
   rw[e]
   exact n7 hu hl h hc rfl ⟨⟨rfl,rfl,rfl⟩,hls.symm⟩
  ·rw[if_neg he]at hu
   have e:k.one ⟨ck,1,ci,ci / 64,rold,[]⟩=(k,.inl ⟨ck,0,ci,ci / 64,rold,[]⟩):=by simp[V0.one,he]
   rw[e]
   exact n7 hu hl h hc rfl ⟨⟨rfl,rfl,rfl,rfl,rfl,fun _=>rfl,fun h=>absurd h (by simp),r8⟩,⟨hlt,Nat.zero_le _,hkd,fun _=>rfl,fun _ h=>absurd h (by simp),fun _=>rfl,fun _=>rfl,Nat.zero_le _,fun _=>rfl⟩,rfl⟩
end
section
variable{w w':World}
theorem j0X{xb wb cb:Nat}{k:V0}{rc:J4}{c:p9}(h:RS xb wb k w)(hc:F3 w cb rc)(hr:e0t rc c)(hi:c0k k c)(hl:b9 w rc.l (c0c c))(hne:cb≠wb)(hne2:cb≠xb)(hk:k.ws.length≤1024)(hn:k.n≤65536)(h4:c.kd=4):
 Calls Tryd.prog 14 #[vP xb 0,vP cb 0] w fun y w'=>y= .returned (.tuple #[])∧b0x w w' xb wb cb rc.l (k.step c):=by
 have hlt:=hi.w
 have ho:=hi.o4 (by omega)
 have en:rc.n=0:=by rw[hr.n,if_neg (by omega)]
 refine h0C hc (by rw[hr.kd,h4];rfl) ?_
 have es:k.step c=k.claim c:=by unfold V0.step;rw[if_pos h4]
 rw[es]
 obtain⟨rkd,ri,rph,rw_,rold,rdone,rok,rn,rl⟩:=rc
 obtain⟨r1,r2,r3,r4,r5,r6,r7,r8⟩:=hr
 have hf:=hi.f h4
 have hph:=hi.ph
 obtain⟨ck,cp,ci,cw,cold,cout⟩:=c
 simp only at r1 r2 r3 r4 r5 r7 hl en h4 ho hlt hf hph
 subst r1 r2 r3 r5 en h4 ho
 have hls:c0c ⟨4,cp,ci,cw,cold,[]⟩=[]:=rfl
 rcases Nat.eq_zero_or_pos cp with rfl|hp
 ·have r4:rph=1:=by omega
  subst r4
  cases hx:G4 k.n cw (k.wd cw)with
  | some j=>
    refine(u0R h hc hne hne2 hlt hk hn hx).mono fun y u hu=>⟨hu.1,?_⟩
    have e:k.claim ⟨4,0,ci,cw,cold,[]⟩=(k,.inl ⟨4,1,ci,cw,k.wd cw,[]⟩):=by simp[V0.claim,hx]
    rw[e]
    exact n7 hu.2 hl h hc rfl ⟨⟨rfl,rfl,rfl,rfl,rfl,fun h=>absurd h (by simp),fun _=>rfl,rfl⟩,⟨hlt,Nat.le_refl _,⟨by simp,by simp⟩,fun h=>absurd h (by simp),fun _ _=>⟨j,hx⟩,fun h=>absurd h (by simp),fun h=>absurd h (by simp),Nat.zero_le _,fun _=>rfl⟩,rfl⟩
  | none=>
    by_cases he:cw+1=k.ws.length
    ·refine(u0J h hc hne hne2 hlt hk hn hx he).mono fun y u hu=>⟨hu.1,?_⟩
     have e:k.claim ⟨4,0,ci,cw,cold,[]⟩=(k,.inr (false,0,[])):=by simp[V0.claim,hx,he]
     rw[e]
     exact n7 hu.2 hl h hc rfl ⟨⟨rfl,rfl,rfl⟩,rfl⟩
    ·refine(u0Q h hc hne hne2 hlt hk hn hx he).mono fun y u hu=>⟨hu.1,?_⟩
     have e:k.claim ⟨4,0,ci,cw,cold,[]⟩=(k,.inl ⟨4,0,ci,cw+1,cold,[]⟩):=by simp[V0.claim,hx,he]
     rw[e]
     exact n7 hu.2 hl h hc rfl ⟨⟨rfl,rfl,rfl,rfl,rfl,fun h=>absurd h (by simp),fun h=>absurd h (by simp),rfl⟩,⟨by show cw+1<k.ws.length;omega,Nat.zero_le _,⟨by simp,by simp⟩,fun h=>absurd h (by simp),fun _ h=>absurd h (by simp),fun _=>rfl,fun _=>rfl,Nat.zero_le _,fun _=>rfl⟩,rfl⟩
 ·obtain rfl:cp=1:=by omega
  have r4:rph=2:=by omega
  subst r4
  have hold:rold=cold:=r7 rfl
  subst hold
  obtain⟨j,hj⟩:=hf rfl
  have hj64:=(b0P hj).1
  refine(x0e h hc hne hne2 hlt hk hn hj).mono fun y u hu=>⟨hu.1,?_⟩
  have hu:=hu.2
  unfold SwR at hu
  by_cases he:k.wd cw=rold
  ·rw[if_pos he,n0z _ _ hj64]at hu
   have e:k.claim ⟨4,1,ci,cw,rold,[]⟩=({k with ws:=k.ws.set cw (rold ||| bitI j)},.inr (true,((cw*64+j:Nat):Int),[])):=by simp[V0.claim,he,hj]
   rw[e]
   exact n7 hu hl h hc rfl ⟨⟨rfl,rfl,rfl⟩,rfl⟩
  ·rw[if_neg he]at hu
   have e:k.claim ⟨4,1,ci,cw,rold,[]⟩=(k,.inl ⟨4,0,ci,cw,rold,[]⟩):=by simp[V0.claim,he]
   rw[e]
   exact n7 hu hl h hc rfl ⟨⟨rfl,rfl,rfl,rfl,rfl,fun h=>absurd h (by simp),fun h=>absurd h (by simp),rfl⟩,⟨hlt,Nat.zero_le _,⟨by simp,by simp⟩,fun h=>absurd h (by simp),fun _ h=>absurd h (by simp),fun _=>rfl,fun _=>rfl,Nat.zero_le _,fun _=>rfl⟩,rfl⟩
theorem j0B(n w:Nat)(x:BitVec 64):(X3 n w x).length≤64:=d0e n w x 64
theorem m0Q{xb wb cb:Nat}{k:V0}{rc:J4}{c:p9}(h:RS xb wb k w)(hc:F3 w cb rc)(hr:e0t rc c)(hi:c0k k c)(hl:b9 w rc.l (c0c c))(hne:cb≠wb)(hne2:cb≠xb)(hk:k.ws.length≤1024)(hn:k.n≤65536)(h5:5≤c.kd):
 Calls Tryd.prog 14 #[vP xb 0,vP cb 0] w fun y w'=>y= .returned (.tuple #[])∧b0x w w' xb wb cb rc.l (k.step c):=by
 have hlt:=hi.w
 have hkd:=hi.kd
 have h56:c.kd=5∨c.kd=6:=by omega
 have es:k.step c=k.look c:=by unfold V0.step;rw[if_neg (by omega),if_pos h56]
 have hol:=hi.out
 refine i0h hc (by rw[hr.kd];omega) ?_
 rw[es]
 have hph:=hi.p0 h5
 obtain⟨rkd,ri,rph,rw_,rold,rdone,rok,rn,rl⟩:=rc
 obtain⟨r1,r2,r3,r4,r5,r6,r7,r8⟩:=hr
 obtain⟨ck,cp,ci,cw,cold,cout⟩:=c
 simp only at r1 r2 r3 r4 r5 r7 r8 hl h5 hlt hph hol h56 hkd
 subst r1 r2 r3 r5 hph
 have r4:rph=1:=by omega
 subst r4
 have hnl:=j0B k.n cw (k.wd cw)
 rcases h56 with rfl|rfl
 ·have r8:rn=(cout.length:Int):=by rw[r8];rfl
  subst r8
  refine(v0r h hc hne hne2 hlt hk hn (by omega)).mono fun y u hu=>⟨hu.1,?_⟩
  have hu:=hu.2
  by_cases he:cw+1=k.ws.length
  ·have e:k.look ⟨5,0,ci,cw,cold,cout⟩=(k,.inr (true,((cout++X3 k.n cw (k.wd cw)).length:Int),[])):=by simp[V0.look,he]
   rw[e]
   rw[decide_eq_true he]at hu
   exact n7 hu hl h hc rfl ⟨⟨rfl,rfl,by rw[List.length_append]⟩,rfl⟩
  ·have e:k.look ⟨5,0,ci,cw,cold,cout⟩=(k,.inl ⟨5,0,ci,cw+1,cold,cout++X3 k.n cw (k.wd cw)⟩):=by simp[V0.look,he]
   rw[e]
   rw[decide_eq_false he]at hu
   exact n7 hu hl h hc rfl ⟨⟨rfl,rfl,rfl,rfl,rfl,fun h=>absurd h (by simp),fun h=>absurd h (by simp),by rw[if_pos rfl,List.length_append]⟩,⟨by show cw+1<k.ws.length;omega,Nat.zero_le _,⟨by simp,by simp⟩,fun h=>absurd h (by simp),fun h=>absurd h (by simp),fun _=>rfl,fun _=>rfl,by rw[List.length_append];show _≤64*(cw+1);omega,fun h=>absurd h (by simp)⟩,rfl⟩
 ·have r8:rn=0:=by rw[r8];rfl
  subst r8
  refine(v0s h hc hl hne hne2 hlt hk hn (by show cout.length≤_;omega)).mono fun y u hu=>⟨hu.1,?_⟩
  obtain⟨hs,lv',hu⟩:=hu.2
  by_cases he:cw+1=k.ws.length
  ·have e:k.look ⟨6,0,ci,cw,cold,cout⟩=(k,.inr (true,0,cout++X3 k.n cw (k.wd cw))):=by simp[V0.look,he]
   rw[e]
   rw[decide_eq_true he]at hu
   exact⟨hs,_,hu.c,⟨⟨rfl,rfl,rfl⟩,hu.row⟩,hu.stp⟩
  ·have e:k.look ⟨6,0,ci,cw,cold,cout⟩=(k,.inl ⟨6,0,ci,cw+1,cold,cout++X3 k.n cw (k.wd cw)⟩):=by simp[V0.look,he]
   rw[e]
   rw[decide_eq_false he]at hu
   exact⟨hs,_,hu.c,⟨⟨rfl,rfl,rfl,rfl,rfl,fun h=>absurd h (by simp),fun h=>absurd h (by simp),rfl⟩,⟨by show cw+1<k.ws.length;omega,Nat.zero_le _,⟨by simp,by simp⟩,fun h=>absurd h (by simp),fun h=>absurd h (by simp),fun _=>rfl,fun _=>rfl,by rw[List.length_append];show _≤64*(cw+1);omega,fun h=>absurd h (by simp)⟩,hu.row⟩,hu.stp⟩
theorem q0r{xb wb cb:Nat}{k:V0}{rc:J4}{c:p9}(h:RS xb wb k w)(hwf:BDm k)(hc:F3 w cb rc)(hr:e0t rc c)(hi:c0k k c)(hl:b9 w rc.l (c0c c))(hne:cb≠wb)(hne2:cb≠xb):
 Calls Tryd.prog 14 #[vP xb 0,vP cb 0] w fun y w'=>y= .returned (.tuple #[])∧b0x w w' xb wb cb rc.l (k.step c):=by
 have hn:=hwf.n
 have hk:k.ws.length≤1024:=by rw[hwf.l];omega
 have hkd:=hi.kd
 rcases Nat.lt_or_ge c.kd 4 with h3|h4
 ·exact q0q h hc hr hi hl hne hne2 hk (by omega)
 ·by_cases e:c.kd=4
  ·exact j0X h hc hr hi hl hne hne2 hk hn e
  ·exact m0Q h hc hr hi hl hne hne2 hk hn (by omega)
theorem m0c{k:V0}{o:P3}(hwf:BDm k):match(k.begin o).2 with
 | .inl c=>e0t (M6 k o) c∧c0k k c∧c0c c=[]
 | .inr a=>f00 (M6 k o) a∧a.2.2=[]:=by
 have hl:=hwf.l
 unfold M6
 cases e:(k.begin o).2 with
 | inl c=>
   obtain⟨kd,a,b,d⟩:=o
   unfold V0.begin at e
   split at e
   ·rename_i hk
    split at e
    ·cases e
    ·rename_i ha
     simp only[Sum.inl.injEq]at e
     subst e
     refine⟨⟨?_,rfl,rfl,rfl,rfl,fun _=>rfl,fun h=>absurd h (by simp),?_⟩,⟨?_,Nat.zero_le _,⟨?_,?_⟩,fun _=>rfl,fun _ h=>absurd h (by simp),fun _=>rfl,fun _=>rfl,Nat.zero_le _,fun _=>rfl⟩,?_⟩
     ·simp only at hk ⊢;omega
     ·simp only at hk ⊢
      rw[if_neg (by omega)]
     ·simp only at ha ⊢
      omega
     ·simp only at hk ⊢;omega
     ·simp only at hk ⊢;omega
     ·unfold c0c
      split<;>rfl
   ·split at e
    ·rename_i hk
     split at e
     ·cases e
     ·rename_i hw
      simp only[Sum.inl.injEq]at e
      subst e
      simp only at hk
      subst hk
      exact⟨⟨rfl,rfl,rfl,rfl,rfl,fun _=>rfl,fun h=>absurd h (by simp),rfl⟩,⟨by show 0<_;omega,Nat.zero_le _,⟨by simp,by simp⟩,fun _=>rfl,fun _ h=>absurd h (by simp),fun _=>rfl,fun _=>rfl,Nat.zero_le _,fun _=>rfl⟩,rfl⟩
    ·split at e
     ·rename_i hk
      split at e
      ·cases e
      ·rename_i hw
       simp only[Sum.inl.injEq]at e
       subst e
       simp only at hk
       rcases hk with rfl|rfl
       ·exact⟨⟨rfl,rfl,rfl,rfl,rfl,fun _=>rfl,fun h=>absurd h (by simp),rfl⟩,⟨by show 0<_;omega,Nat.zero_le _,⟨by simp,by simp⟩,fun _=>rfl,fun _ h=>absurd h (by simp),fun _=>rfl,fun _=>rfl,Nat.zero_le _,fun _=>rfl⟩,rfl⟩
       ·exact⟨⟨rfl,rfl,rfl,rfl,rfl,fun _=>rfl,fun h=>absurd h (by simp),rfl⟩,⟨by show 0<_;omega,Nat.zero_le _,⟨by simp,by simp⟩,fun _=>rfl,fun _ h=>absurd h (by simp),fun _=>rfl,fun _=>rfl,Nat.zero_le _,fun _=>rfl⟩,rfl⟩
     ·cases e
 | inr a=>
   refine⟨⟨rfl,rfl,rfl⟩,?_⟩
   unfold V0.begin at e
   repeat' split at e
   all_goals first|(cases e;rfl)|(cases e)
end
section
variable{w w':World}
theorem q0z.trans{a b c:World}{cb wb:Nat}{l1 l2 l3:Value}(h:q0z a b cb wb l1 l2)(k:q0z b c cb wb l2 l3):q0z a c cb wb l1 l3:=
 ⟨Nat.le_trans h.sz k.sz,fun r h1 h2 h3 h4=>(k.o r (Nat.lt_of_lt_of_le h1 h.sz) h2 h3 (by
  rcases h.fr with e|⟨g,e,hg⟩
  ·rw[e];exact h4
  ·rw[e];intro h';cases h';omega)).trans (h.o r h1 h2 h3 h4),by
  rcases k.fr with e|⟨g,e,hg⟩
  ·rw[e];exact h.fr
  ·exact .inr ⟨g,e,Nat.le_trans h.sz hg⟩⟩
theorem q0z.refl(w:World)(cb wb:Nat)(l:Value):q0z w w cb wb l l:=⟨Nat.le_refl _,fun _ _ _ _ _=>rfl,.inl rfl⟩
def f0X(u:World)(rb wb cb:Nat)(q':V0)(a:g7)(n:Nat)(lv:Value):Prop:=
 (∃q c rc,Al q c q' a n∧RS rb wb q u∧BDm q∧F3 u cb rc∧e0t rc c∧c0k q c∧b9 u rc.l (c0c c)∧lv=rc.l)∨
 (n=0∧RS rb wb q' u∧BDm q'∧∃rc,F3 u cb rc∧f00 rc a∧b9 u rc.l a.2.2∧lv=rc.l)
theorem Al.pos{s s':V0}{c:p9}{a:g7}{n:Nat}(h:Al s c s' a n):0<n:=by cases h<;>omega
theorem v0J{A:Array Value}{a0 a1 a5 a9 a10 a11:Value}{rb wb cb n:Nat}{z:Int}{q':V0}{a:g7}{l0:Value}(hI:f0X w rb wb cb q' a n l0)(hne:cb≠wb)(hne2:cb≠rb)
 (hA:G0 140 A [(0,a0),(1,a1),(5,a5),(7,vP rb 0),(9,a9),(10,a10),(11,a11),(12,vP cb 0),(13,vI (IntKind.i64.wrap (z+((0:Nat):Int))))]) {Q:Act→World→Prop}
 (hQ:∀A' w' lv,G0 140 A' [(0,a0),(1,a1),(5,a5),(7,vP rb 0),(9,a9),(10,a10),(11,a11),(12,vP cb 0),(13,vI (IntKind.i64.wrap (z+(n:Int))))]→f0X w' rb wb cb q' a 0 lv→q0z w w' cb wb l0 lv→Q ⟨A',[]⟩ w'):bqcb2.wp Tryd.prog (F7 Q) ⟨A,[]⟩ w:=by
 obtain⟨s,rfl,h0,h1,h5,h7,h9,h10,h11,h12,h13,_⟩:=Y3 x5 hA
 have I0:Aside (f0X w rb wb cb q' a n l0):=hI
 have HQ:Aside (∀A' w' lv,G0 140 A' [(0,a0),(1,a1),(5,a5),(7,vP rb 0),(9,a9),(10,a10),(11,a11),(12,vP cb 0),(13,vI (IntKind.i64.wrap (z+(n:Int))))]→f0X w' rb wb cb q' a 0 lv→q0z w w' cb wb l0 lv→Q ⟨A',[]⟩ w'):=hQ
 have HN:Aside (cb≠wb∧cb≠rb):=⟨hne,hne2⟩
 clear hI hQ hne hne2
 simp only[bqcb2,i1,pC,Tryd.f4,Option.getD_some,x5,h0,h1,h5,h7,h9,h10,h11,h12,h13]
 clear h0 h1 h5 h7 h9 h10 h11 h12 h13
 go_wp2
 go_loopg [13] n (fun g x u=>∃k lv,k=g∧x=vI (IntKind.i64.wrap (z+((n - k:Nat):Int)))∧k≤n∧f0X u rb wb cb q' a k lv∧q0z w u cb wb l0 lv)
 case atStart=>exact⟨n,l0,rfl,by rw[Nat.sub_self],Nat.le_refl _,I0.out,q0z.refl _ _ _ _⟩
 case round=>
  obtain⟨g,lv,rfl,rfl,hg,hI,hF⟩:=hrel
  rcases hI with⟨q,c,rc,hAl,e1,e2,e3,e4,e5,e6,rfl⟩|⟨rfl,hrest⟩
  ·have hp:=hAl.pos
   have c5:=(V1 e3 (j:=5) rfl).1
   rw[e4.done]at c5
   have SP:=q0r e1 e2 e3 e4 e5 e6 HN.out.1 HN.out.2
   have C:Aside (Calls Tryd.prog 14 #[vP rb 0,vP cb 0] wr fun y u'=>y= .returned (.tuple #[])∧b0x wr u' rb wb cb rc.l (q.step c)):=SP
   have F:Aside (q0z w wr cb wb l0 rc.l∧Al q c q' a g∧BDm q∧g≤n∧0<g):=⟨hF,hAl,e2,hg,hp⟩
   clear e1 e2 e3 e4 e5 e6 hF hAl SP hg hp
   go_wp2_with (fail)
   go_at_call 14
   refine C.out.mono ?_
   rintro e u ⟨rfl,hS⟩
   have S1:Aside (b0x wr u rb wb cb rc.l (q.step c)):=hS
   clear hS c5
   go_wp2
   obtain⟨hF,hAl,hdm,hg,hp⟩:=F.out
   obtain⟨r1,rc',r2,r3,r4⟩:=S1.out
   go_roundg (g - 1)
   case measure=>omega
   case rel=>
    have hw2:IntKind.i64.wrap (RowKit.wrap64 (z+((n - g:Nat):Int))+1)=IntKind.i64.wrap (z+((n - (g - 1):Nat):Int)):=by rw[← IntWalk.i64_left,j02,show n - g+1=n - (g - 1)by omega]
    refine⟨g - 1,rc'.l,rfl,congrArg (Value.int .i64) ((IntWalk.i64_left _).symm.trans hw2),by omega,?_,hF.trans r4⟩
    have hdm2:=BDm.step hdm c
    cases hAl with
    | done hst=>
      rw[hst]at r1 r3 hdm2
      exact .inr ⟨rfl,r1,hdm2,rc',r2,r3.1,r3.2,rfl⟩
    | more hst hAl2=>
      rw[hst]at r1 r3 hdm2
      exact .inl ⟨_,_,rc',hAl2,r1,hdm2,r2,r3.1,r3.2.1,r3.2.2,rfl⟩
  ·obtain⟨f1,f2,rc,f3,f4,f5,rfl⟩:=hrest
   have c5:=(V1 f3 (j:=5) rfl).1
   rw[f4.done]at c5
   have F:Aside (q0z w wr cb wb l0 rc.l∧f0X wr rb wb cb q' a 0 rc.l):=⟨hF,.inr ⟨rfl,f1,f2,rc,f3,f4,f5,rfl⟩⟩
   clear f1 f2 f3 f4 f5 hF
   go_wp2
   exact HQ.out _ _ _ ⟨rfl,rfl,rfl,rfl,rfl,rfl,rfl,rfl,rfl,rfl,trivial⟩ F.out.2 F.out.1
end
section

end
section
variable{w w':World}
end
section
variable{w w':World}
structure m0S(w wr:World)(ub:Nat)(la:Option Addr)(ll lc M p rd:Nat)(ov:Value):Prop where
 o:wr.heap[ub]? =some (.cells #[.slice la ll lc,vI M,vI p,vI rd,ov] 93 (0,0))
 old:∀r,r≠ub→wr.heap[r]? =w.heap[r]?
 size:wr.heap.size=w.heap.size
theorem m0S.heap{wr:World}{ub:Nat}{la:Option Addr}{ll lc M p rd:Nat}{ov:Value}(h:m0S w wr ub la ll lc M p rd ov){u:World}(hu:u.heap=wr.heap):m0S w u ub la ll lc M p rd ov:=
 ⟨by rw[hu];exact h.o,fun r hr=>by rw[hu];exact h.old r hr,by rw[hu];exact h.size⟩
end
section
variable{w w':World}
end
section
variable{w w':World}
theorem B5.olds{a:Option Addr}{xs:List Value}(h:B5 w a xs)(hk:∀r,r<w.heap.size→w'.heap[r]? =w.heap[r]?):B5 w' a xs:=
 ⟨fun k x hx=>by
  obtain⟨b,o,h1,h2⟩:=h.c k x hx
  obtain⟨c,e,z,ho⟩:=M3 h2
  have:=hk b (Q3 ho)
  exact⟨b,o,h1,by rw[← h2];unfold World.cell?;simp only[this]⟩⟩
theorem SAL.olds{a:SA}(h:SAL a w)(hk:∀r,r<w.heap.size→w'.heap[r]? =w.heap[r]?):SAL a w':=⟨h.l,h.r.olds hk⟩
end
section
variable{w w':World}
theorem z0I{xb:Nat}{n:Nat}(h:w.cell? ⟨xb,0,none⟩=some (vI (n:Nat))):Calls Tryd.prog 17 #[vP xb 0] w fun x w'=>x= .returned (vI (n:Nat))∧w'=w:=by
 go_enter Tryd.func17,Tryd.ntmps17
 go_wp2
 go_ret
 exact⟨rfl,rfl⟩
structure Bw(w u:World):Prop where
 s:w.heap.size≤u.heap.size
 o:∀r,r<w.heap.size→u.heap[r]? =w.heap[r]?
theorem Bw.refl(w:World):Bw w w:=⟨Nat.le_refl _,fun _ _=>rfl⟩
theorem Bw.drew{u:World}(h:Bw w u):Bw w u.drew:=⟨h.s,h.o⟩
theorem Bw.alloc{u:World}(h:Bw w u)(o:Obj):Bw w (u.alloc o):=⟨by have:=h.s;simp;omega,fun r hr=>(D0 _ _ (Nat.lt_of_lt_of_le hr h.s)).trans (h.o r hr)⟩
theorem Bw.heap{u u':World}(h:Bw w u)(e:u'.heap=u.heap):Bw w u':=⟨by rw[e];exact h.s,fun r hr=>by rw[e];exact h.o r hr⟩
theorem z0M(o1 o2:Obj):((w.alloc o1).alloc o2).drew.heap[w.heap.size]? =some o1:=(D0 (w.alloc o1) o2 (by simp)).trans (heap_alloc_new _ _)
theorem z0O(o1 o2:Obj):((w.alloc o1).alloc o2).drew.heap[w.heap.size+1]? =some o2:=R5 (by simp) _
theorem z0Q(o1 o2:Obj):Bw w ((w.alloc o1).alloc o2).drew:=((Bw.refl w).alloc o1 |>.alloc o2).drew
theorem f0Q{u:World}{b k:Nat}{v:Value}(h:w.cell? ⟨b,k,none⟩=some v)(hk:∀r,r<w.heap.size→u.heap[r]? =w.heap[r]?):u.cell? ⟨b,k,none⟩=some v:=i4 h hk
theorem A06{u:World}{b1 b2:Nat}{a:g7}{la la2:Option Addr}{ll lc ll2 lc2:Nat}(hl:a.2.2.length<100000000)(h1:u.heap[b1]? =some (.cells #[.bool a.1,vI a.2.1,.slice la ll lc] 49 (0,0)))(h2:u.heap[b2]? =some (.cells #[.bool a.1,vI a.2.1,.slice la2 ll2 lc2] 49 (0,0)))(s1:SAL ⟨a,la,ll,lc⟩ u)(s2:SAL ⟨a,la2,ll2,lc2⟩ u):
 Calls Tryd.prog 16 #[vL b1 0 1 1,vL b2 0 1 1] u fun x w'=>x= .returned (.bool true)∧w'.heap=u.heap:=by
 have r1:B5 u (some ⟨b1,0,none⟩) (i5 [⟨a,la,ll,lc⟩]):=⟨fun k x hx=>⟨b1,0,rfl,by
  have e:i5 [⟨a,la,ll,lc⟩]=[.bool a.1,vI a.2.1,.slice la ll lc]:=rfl
  rw[e]at hx
  simp only[World.cell?,h1,Nat.zero_add]
  simpa using hx⟩⟩
 have r2:B5 u (some ⟨b2,0,none⟩) (i5 [⟨a,la2,ll2,lc2⟩]):=⟨fun k x hx=>⟨b2,0,rfl,by
  have e:i5 [⟨a,la2,ll2,lc2⟩]=[.bool a.1,vI a.2.1,.slice la2 ll2 lc2]:=rfl
  rw[e]at hx
  simp only[World.cell?,h2,Nat.zero_add]
  simpa using hx⟩⟩
 exact v0T (xs:=[⟨a,la,ll,lc⟩]) (ys:=[⟨a,la2,ll2,lc2⟩]) (ca:=1) (cb:=1) (show 1<100000000 by omega) rfl r1 r2 (fun x hx=>by rw[List.mem_singleton.1 hx];exact⟨s1,hl⟩) (fun x hx=>by rw[List.mem_singleton.1 hx];exact s2)
theorem z0W{A:Array Value}{a1 a7 a10:Value}{xb sb tb cb nv:Nat}{N:Int}{a:g7}{la la2:Option Addr}{ll lc ll2 lc2:Nat}(hal:a.2.2.length<100000000)(hs:w.cell? ⟨sb,0,none⟩=some (vI N))
 (t0:w.cell? ⟨tb,0,none⟩=some (.bool a.1)) (t1:w.cell? ⟨tb,1,none⟩=some (vI a.2.1)) (t2:w.cell? ⟨tb,2,none⟩=some (.slice la ll lc))
 (c0:w.cell? ⟨cb,6,none⟩=some (.bool a.1)) (c1:w.cell? ⟨cb,7,none⟩=some (vI a.2.1)) (c2:w.cell? ⟨cb,8,none⟩=some (.slice la2 ll2 lc2)) (x0:w.cell? ⟨xb,0,none⟩=some (vI (nv:Nat))) (s1:SAL ⟨a,la,ll,lc⟩ w) (s2:SAL ⟨a,la2,ll2,lc2⟩ w)
 (hA:G0 140 A [(0,vI (nv:Nat)),(1,a1),(5,vP xb 0),(7,a7),(9,vP sb 0),(10,a10),(12,vP cb 0),(13,vI N),(14,vP tb 0)]) {Q:Act→World→Prop}
 (hQ:∀A' w',G0 140 A' [(0,vI (nv:Nat)),(1,a1),(5,vP xb 0),(7,a7),(9,vP sb 0),(10,a10),(110,.bool false)]→w.heap.size≤w'.heap.size→(∀r,r<w.heap.size→w'.heap[r]? =w.heap[r]?)→Q ⟨A',[]⟩ w'):bqcr20.wp Tryd.prog (F7 Q) ⟨A,[]⟩ w:=by
 obtain⟨s,rfl,h0,h1,h5,h7,h9,h10,h12,h13,h14,_⟩:=Y3 x5 hA
 have SC:Aside (∀(u:World) (b1 b2:Nat),Bw w u→u.heap[b1]? =some (.cells #[.bool a.1,vI a.2.1,.slice la ll lc] 49 (0,0))→u.heap[b2]? =some (.cells #[.bool a.1,vI a.2.1,.slice la2 ll2 lc2] 49 (0,0))→Calls Tryd.prog 16 #[vL b1 0 1 1,vL b2 0 1 1] u fun x w'=>x= .returned (.bool true)∧w'.heap=u.heap):=fun u b1 b2 hu h1 h2=>A06 hal h1 h2 (s1.olds hu.o) (s2.olds hu.o)
 have SZ:Aside (∀u:World,Bw w u→Calls Tryd.prog 17 #[vP xb 0] u fun x w'=>x= .returned (vI (nv:Nat))∧w'=u):=fun u hu=>z0I (f0Q x0 hu.o)
 have K0:Aside (∀u:World,Bw w u→u.cell? ⟨sb,0,none⟩=some (vI N)∧u.cell? ⟨tb,0,none⟩=some (.bool a.1)∧u.cell? ⟨tb,1,none⟩=some (vI a.2.1)∧u.cell? ⟨tb,2,none⟩=some (.slice la ll lc)∧u.cell? ⟨cb,6,none⟩=some (.bool a.1)∧u.cell? ⟨cb,7,none⟩=some (vI a.2.1)∧u.cell? ⟨cb,8,none⟩=some (.slice la2 ll2 lc2)):=fun u hu=>⟨f0Q hs hu.o,f0Q t0 hu.o,f0Q t1 hu.o,f0Q t2 hu.o,f0Q c0 hu.o,f0Q c1 hu.o,f0Q c2 hu.o⟩
 have HQ:Aside (∀A' w',G0 140 A' [(0,vI (nv:Nat)),(1,a1),(5,vP xb 0),(7,a7),(9,vP sb 0),(10,a10),(110,.bool false)]→w.heap.size≤w'.heap.size→(∀r,r<w.heap.size→w'.heap[r]? =w.heap[r]?)→Q ⟨A',[]⟩ w'):=hQ
 clear hQ x0 s1 s2 hal
 simp only[bqcr20,i1,pC,Tryd.f4,Option.getD_some,x5,h0,h1,h5,h7,h9,h10,h12,h13,h14]
 clear h0 h1 h5 h7 h9 h10 h12 h13 h14
 go_wp2
 go_region_held3 (fun u:World=>u.cell? ⟨sb,0,none⟩=some (vI N)∧u.cell? ⟨tb,0,none⟩=some (.bool a.1)∧u.cell? ⟨tb,1,none⟩=some (vI a.2.1)∧u.cell? ⟨tb,2,none⟩=some (.slice la ll lc)∧u.cell? ⟨cb,6,none⟩=some (.bool a.1)∧u.cell? ⟨cb,7,none⟩=some (vI a.2.1)∧u.cell? ⟨cb,8,none⟩=some (.slice la2 ll2 lc2))
  (first
    | (refine K0.out _ ?_;(repeat(first|with_reducible exact E1.out|with_reducible exact Bw.refl _|with_reducible refine Bw.drew ?_|with_reducible refine Bw.alloc ?_ _));done))
  (first
    | (go_at_call 16;refine(SC.out _ _ _ (z0Q _ _) (by first|exact z0M _ _|exact z0O _ _) (by first|exact z0M _ _|exact z0O _ _)).mono ?_;rintro y u ⟨rfl,hu⟩;have E1:Aside (Bw w u):=Bw.heap (z0Q _ _) hu;clear hu)
    | (go_at_call 17;refine(SZ.out _ (by first|with_reducible exact E1.out|with_reducible exact E1.out.drew)).mono ?_;rintro y w2 ⟨rfl,hw2⟩;subst w2))
 all_goals exact HQ.out _ _ ⟨rfl,rfl,rfl,rfl,rfl,rfl,rfl,rfl,trivial⟩ E1.out.s E1.out.o
end
section
structure PlI(m:Pl)(P:m.S→Prop)(C:m.C→Prop)(A:m.A→Prop):Prop where
 beg:∀q o,P q→P (m.beg q o).1∧(∀c,(m.beg q o).2= .inl c→C c)∧∀a,(m.beg q o).2= .inr a→A a
 stp:∀q c,P q→C c→P (m.stp q c).1∧(∀c',(m.stp q c).2= .inl c'→C c')∧∀a,(m.stp q c).2= .inr a→A a
section
variable{m:Pl}{P:m.S→Prop}{C:m.C→Prop}{A:m.A→Prop}
structure PlT(m:Pl)(C:m.C→Prop)(A:m.A→Prop)(t:GT m):Prop where
 c:∀c,t.call=some c→C c
 a:∀a∈t.ans,A a
theorem PlI.adv(H:PlI m P C A):∀(l:List P3) (q:m.S) (t:GT m),P q→PlT m C A t→P (K4 m l q t).1∧PlT m C A (K4 m l q t).2
 | [],q,t,h,ht=>⟨h,ht⟩
 | o::l,q,t,h,ht=>by
   obtain⟨q',r,e⟩:∃q' r,m.beg q o=(q',r):=⟨_,_,rfl⟩
   have hr:=H.beg q o h
   rw[e]at hr
   cases r with
   | inl c=>
     simp only[K4,e]
     exact⟨hr.1,fun c' hc'=>(by cases hc';exact hr.2.1 _ rfl),ht.a⟩
   | inr a=>
     simp only[K4,e]
     refine PlI.adv H l q' _ hr.1 ⟨fun c hc=>(by cases hc),fun b hb=>?_⟩
     rcases List.mem_append.1 hb with hb|hb
     ·exact ht.a b hb
     ·rw[List.mem_singleton.1 hb];exact hr.2.2 _ rfl
theorem PlI.stpG(H:PlI m P C A){ops:List P3}{q:m.S}{t:GT m}(h:P q)(ht:PlT m C A t):P (stpG m ops q t).1∧PlT m C A (stpG m ops q t).2:=by
 cases hc:t.call with
 | none=>simp only[Go.Proofs.YtlcgkpapnpdfpaaDoor.stpG,hc];exact⟨h,ht⟩
 | some c=>
   obtain⟨q',r,e⟩:∃q' r,m.stp q c=(q',r):=⟨_,_,rfl⟩
   have hr:=H.stp q c h (ht.c c hc)
   rw[e]at hr
   cases r with
   | inl c'=>
     simp only[Go.Proofs.YtlcgkpapnpdfpaaDoor.stpG,hc,e]
     exact⟨hr.1,fun c'' hc'=>(by cases hc';exact hr.2.1 _ rfl),ht.a⟩
   | inr a=>
     simp only[Go.Proofs.YtlcgkpapnpdfpaaDoor.stpG,hc,e]
     refine H.adv _ q' _ hr.1 ⟨fun c hc=>(by cases hc),fun b hb=>?_⟩
     rcases List.mem_append.1 hb with hb|hb
     ·exact ht.a b hb
     ·rw[List.mem_singleton.1 hb];exact hr.2.2 _ rfl
structure PlG(m:Pl)(P:m.S→Prop)(C:m.C→Prop)(A:m.A→Prop)(s:GS m):Prop where
 q:P s.q
 t:∀i,PlT m C A (s.th i)
theorem PlG.put{s:GS m}(h:PlG m P C A s)(i:Nat){r:m.S×GT m}(hr:P r.1∧PlT m C A r.2):PlG m P C A (s.put i r):=
 ⟨hr.1,fun j=>by
  unfold GS.put
  simp only
  split
  ·exact hr.2
  ·exact h.t j⟩
variable{ops:Nat→List P3}{n M:Nat}
theorem PlI.borns(H:PlI m P C A){s:GS m}(h:PlG m P C A s):∀i,PlG m P C A (N6 m ops i s)
 | 0=>h
 | i+1=>(PlI.borns H h i).put i (H.adv _ _ _ (PlI.borns H h i).q ((PlI.borns H h i).t i))
theorem PlI.turn(H:PlI m P C A){s:GS m×List Nat}(h:PlG m P C A s.1)(i:Int):PlG m P C A (V7 ops n M s i).1:=by
 unfold V7
 split
 ·exact h.put _ (H.stpG h.q (h.t _))
 ·exact h
theorem PlI.turns(H:PlI m P C A):∀(l:List Int) (s:GS m×List Nat),PlG m P C A s.1→PlG m P C A (U4 ops n M l s).1
 | [],s,h=>h
 | i::l,s,h=>PlI.turns H l _ (H.turn h i)
theorem PlI.rounds(H:PlI m P C A):∀(f:Nat) (s:GS m×List Nat),PlG m P C A s.1→PlG m P C A (Z3 ops n M f s).1
 | 0,s,h=>h
 | f+1,s,h=>by
   unfold Z3
   split
   ·exact h
   ·exact PlI.rounds H f _ (H.turns _ _ h)
theorem PlI.over(H:PlI m P C A){S:List Int}{s:GS m}(h:PlG m P C A s)(f:Nat):PlG m P C A (a0K ops n M S f s).1:=H.rounds f _ (H.turns S _ (H.borns h n))
end
theorem h07(n w:Nat)(x:BitVec 64):(X3 n w x).length≤64:=by
 unfold X3
 rw[List.length_map]
 exact Nat.le_trans (List.length_filter_le _ _) (by simp)
def ShC(N:Nat)(c:p9):Prop:=c.out.length≤64*c.w∧(c.kd=5∨c.kd=6→c.w<N)
def ShR(N:Nat)(r:V0×BRs):Prop:=r.1.ws.length=N∧(∀c,r.2= .inl c→ShC N c)∧∀a:g7,r.2= .inr a→a.2.2.length≤64*N
theorem ShR.inl{N:Nat}{s:V0}{c:p9}(h:s.ws.length=N)(hc:ShC N c):ShR N (s,.inl c):=⟨h,fun c e=>(by cases e;exact hc),fun a e=>(by cases e)⟩
theorem ShR.inr{N:Nat}{s:V0}{a:g7}(h:s.ws.length=N)(ha:a.2.2.length≤64*N):ShR N (s,.inr a):=⟨h,fun c e=>(by cases e),fun a e=>(by cases e;exact ha)⟩
theorem n0t{N:Nat}{q:V0}{o:P3}(h:q.ws.length=N):ShR N (q.begin o):=by
 unfold V0.begin
 split
 ·split
  ·exact .inr h (Nat.zero_le _)
  ·exact .inl h ⟨Nat.zero_le _,fun hk=>by simp only at hk;omega⟩
 ·split
  ·split
   ·exact .inr h (Nat.zero_le _)
   ·exact .inl h ⟨Nat.zero_le _,fun hk=>by simp at hk⟩
  ·split
   ·split
    ·exact .inr h (Nat.zero_le _)
    ·exact .inl h ⟨Nat.zero_le _,fun hk=>by simp only;omega⟩
   ·exact .inr h (Nat.zero_le _)
theorem r0F{N:Nat}{q:V0}{c:p9}(h:q.ws.length=N)(hc:ShC N c):ShR N (q.step c):=by
 obtain⟨h1,h2⟩:=hc
 unfold V0.step
 split
 ·rename_i hk
  unfold V0.claim
  split
  ·split
   ·exact .inl h ⟨h1,h2⟩
   ·split
    ·exact .inr h (Nat.zero_le _)
    ·exact .inl h ⟨by simp only;omega,fun hk2=>by simp only at hk2;omega⟩
  ·split
   ·exact .inr (by simpa using h) (Nat.zero_le _)
   ·exact .inl h ⟨h1,h2⟩
 ·split
  ·rename_i hk
   have h3:=h2 hk
   have h4:=h07 q.n c.w (q.wd c.w)
   unfold V0.look
   split
   ·refine .inr h ?_
    split
    ·exact Nat.zero_le _
    ·simp only[List.length_append];omega
   ·exact .inl h ⟨by simp only[List.length_append];omega,fun _=>by simp only;omega⟩
  ·rename_i hk
   unfold V0.one
   split
   ·split
    ·exact .inr h (Nat.zero_le _)
    ·split
     ·exact .inr h (Nat.zero_le _)
     ·exact .inl h ⟨h1,h2⟩
   ·split
    ·exact .inr (by simpa using h) (Nat.zero_le _)
    ·exact .inl h ⟨h1,h2⟩
end
section
variable{w w':World}
theorem z0w{k:V0}:∀(d kk:Nat),kk+d+1=k.ws.length→∃k' a n,Al k ⟨4,0,0,kk,0#64,[]⟩ k' a n:=by
 intro d
 induction d with
 | zero=>
   intro kk hkk
   cases e:G4 k.n kk (k.wd kk)with
   | none=>exact⟨k,(false,0,[]),1,.done (by simp[V0.step,V0.claim,e];omega)⟩
   | some j=>exact⟨_,_,_,.more (s':=k) (c':=⟨4,1,0,kk,k.wd kk,[]⟩) (by simp[V0.step,V0.claim,e]) (.done (by simp[V0.step,V0.claim,e];exact⟨rfl,rfl⟩))⟩
 | succ d ih=>
   intro kk hkk
   cases e:G4 k.n kk (k.wd kk)with
   | none=>
     obtain⟨k',a,n,h⟩:=ih (kk+1) (by omega)
     exact⟨k',a,n+1,.more (s':=k) (c':=⟨4,0,0,kk+1,0#64,[]⟩) (by simp[V0.step,V0.claim,e];omega) h⟩
   | some j=>exact⟨_,_,_,.more (s':=k) (c':=⟨4,1,0,kk,k.wd kk,[]⟩) (by simp[V0.step,V0.claim,e]) (.done (by simp[V0.step,V0.claim,e];exact⟨rfl,rfl⟩))⟩
theorem A01{k:V0}{kd i:Nat}(h:kd=1∨kd=2∨kd=3):∃k' a n,Al k ⟨kd,0,i,i / 64,0#64,[]⟩ k' a n:=by
 have h4:kd≠4:=by omega
 have h56:¬(kd=5∨kd=6):=by omega
 by_cases h3:kd=3
 ·exact⟨k,_,1,.done (by simp only[V0.step,if_neg h4,if_neg h56,V0.one,if_pos,if_pos h3];rfl)⟩
 ·by_cases hb:(k.wd (i / 64)).getLsbD (i % 64)=decide (kd=1)
  ·exact⟨k,(true,0,[]),1,.done (by simp only[V0.step,if_neg h4,if_neg h56,V0.one,if_pos,if_neg h3,if_pos hb])⟩
  ·exact⟨_,_,2,.more (s':=k) (c':=⟨kd,1,i,i / 64,k.wd (i / 64),[]⟩) (by simp only[V0.step,if_neg h4,if_neg h56,V0.one,if_pos,if_neg h3,if_neg hb]) (.done (by simp only[V0.step,if_neg h4,if_neg h56,V0.one,if_neg (show ¬(1=0)by omega),if_pos];rfl))⟩
theorem A08{k:V0}(hn:k.ws.length≤1024){o:P3}{c:p9}(h:(k.begin o).2= .inl c):∃k' a n,Al k c k' a n:=by
 unfold V0.begin at h
 split at h
 ·rename_i h1
  split at h
  ·cases h
  ·cases h
   exact A01 (by omega)
 ·split at h
  ·split at h
   ·cases h
   ·cases h
    exact z0w (k.ws.length - 1) 0 (by omega)
  ·split at h
   ·rename_i h1
    split at h
    ·cases h
    ·cases h
     exact⟨_,_,_,m0N hn (by omega) (by omega)⟩
   ·cases h
theorem v0U{N:Nat}{s s':V0}{c:p9}{a:g7}{n:Nat}(h:Al s c s' a n):s.ws.length=N→ShC N c→a.2.2.length≤64*N:=by
 induction h with
 | done h=>
   intro h1 h2
   have:=r0F h1 h2
   rw[h]at this
   exact this.2.2 _ rfl
 | more h _ ih=>
   intro h1 h2
   have:=r0F h1 h2
   rw[h]at this
   exact ih this.1 (this.2.1 _ rfl)
theorem i05{k k':V0}{o:P3}{a:g7}{n:Nat}(h:B3 k o k' a n):a.2.2.length≤64*k.ws.length:=by
 have hb:=n0t (q:=k) (o:=o) rfl
 unfold B3 at h
 rcases e:(k.begin o).2 with c|x
 ·rw[e]at h
  exact v0U h rfl (hb.2.1 c e)
 ·rw[e]at h
  obtain⟨_,rfl,_⟩:=h
  exact hb.2.2 _ e
theorem m0J{k k1 k2:V0}{o:P3}{a1 a2:g7}{n1 n2:Nat}(h:B3 k o k1 a1 n1)(h2:B3 k o k2 a2 n2):k1=k2∧a1=a2∧n1=n2:=by
 unfold B3 at h h2
 rcases e:(k.begin o).2 with c|x
 ·rw[e]at h h2
  exact Al.det h h2
 ·rw[e]at h h2
  obtain⟨rfl,rfl,rfl⟩:=h
  obtain⟨rfl,rfl,rfl⟩:=h2
  exact⟨rfl,rfl,rfl⟩
theorem p0w{k:V0}(hn:k.ws.length≤1024)(o:P3):∃k' a n,B3 k o k' a n:=by
 rcases e:(k.begin o).2 with c|x
 ·obtain⟨k',a,n,h⟩:=A08 hn e
  exact⟨k',a,n,by unfold B3;rw[e];exact h⟩
 ·exact⟨k,x,0,by unfold B3;rw[e];exact⟨rfl,rfl,rfl⟩⟩
theorem v0K{k k':V0}{o:P3}{a:g7}{n:Nat}(h:B3 k o k' a n):k'.n=k.n∧k'.ws.length=k.ws.length:=by
 unfold B3 at h
 rcases e:(k.begin o).2 with c|x
 ·rw[e]at h
  exact⟨h.wf.2,h.wf.1⟩
 ·rw[e]at h
  obtain⟨rfl,_,_⟩:=h
  exact⟨rfl,rfl⟩
theorem z05{nv:Int}(h:nv<0∨65536<nv):Y6 Tryd.prog Tryd.f11 #[vI nv] w fun x w'=>x= .tuple #[.pointer none,vI 1]∧w'.heap=w.heap:=by
 refine I8 rfl ?_
 simp only[Tryd.ntmps11,List.size_toArray,List.length_cons,List.length_nil,Nat.reduceAdd,Nat.reduceSub,Array.replicate_succ,Array.replicate_zero,List.push_toArray,List.append_toArray,List.nil_append,List.cons_append]
 by_cases h0:nv<0
 ·have e0:decide (nv<0)=true:=decide_eq_true h0
  go_wp2
  go_ret2
  exact⟨_,rfl,rfl,rfl⟩
 ·have e0:decide (nv<0)=false:=decide_eq_false h0
  have e1:decide ((65536:Int)<nv)=true:=decide_eq_true (by omega)
  go_wp2
  go_ret2
  exact⟨_,rfl,rfl,rfl⟩
theorem z0G{nv:Int}(h:nv<0∨65536<nv):Y6 Tryd.prog Tryd.f12 #[vI nv] w fun x w'=>x= .tuple #[.pointer none,.bool false]∧w'.heap=w.heap:=by
 refine I8 rfl ?_
 simp only[Tryd.ntmps12,List.size_toArray,List.length_cons,List.length_nil,Nat.reduceAdd,Nat.reduceSub,Array.replicate_succ,Array.replicate_zero,List.push_toArray,List.append_toArray,List.nil_append,List.cons_append]
 by_cases h0:nv<0
 ·have e0:decide (nv<0)=true:=decide_eq_true h0
  go_wp2
  go_ret2
  exact⟨_,rfl,rfl,rfl⟩
 ·have e0:decide (nv<0)=false:=decide_eq_false h0
  have e1:decide ((65536:Int)<nv)=true:=decide_eq_true (by omega)
  go_wp2
  go_ret2
  exact⟨_,rfl,rfl,rfl⟩
theorem m0K:Z5 Tryd.prog (fun f=>[11,12].contains f) true:=a0b (x:=[]) (fun f h=>by cases h) (by kernel_rfl)
end
section
variable{w w':World}
def CpL:List Nat:=[14,16,17,26,39,40,41,42,56,58,59]
theorem q0l:CpL.all (codeOkF Tryd.prog fun f=>CpL.contains f)=true:=by kernel_rfl
theorem m0M:Z5 Tryd.prog (fun f=>CpL.contains f) true:=m0l q0l
theorem f0X.heap{u u':World}{rb wb cb:Nat}{q':V0}{a:g7}{n:Nat}{lv:Value}(h:f0X u rb wb cb q' a n lv)(e:u'.heap=u.heap):f0X u' rb wb cb q' a n lv:=by
 rcases h with⟨q,c,rc,h1,h2,h3,h4,h5,h6,h7,h8⟩|⟨h1,h2,h3,rc,h4,h5,h6,h7⟩
 ·exact .inl ⟨q,c,rc,h1,h2.same (by rw[e]) (by rw[e]),h3,by show u'.heap[cb]? =_;rw[e];exact h4,h5,h6,p08 h7 fun _ _ _ _=>by rw[e],h8⟩
 ·exact .inr ⟨h1,h2.same (by rw[e]) (by rw[e]),h3,rc,by show u'.heap[cb]? =_;rw[e];exact h4,h5,p08 h6 fun _ _ _ _=>by rw[e],h7⟩
theorem q0z.heap{a b a' b':World}{cb wb:Nat}{l1 l2:Value}(h:q0z a b cb wb l1 l2)(e1:a'.heap=a.heap)(e2:b'.heap=b.heap):q0z a' b' cb wb l1 l2:=
 ⟨by rw[e1,e2];exact h.sz,fun r h1 h2 h3 h4=>by rw[e1]at h1 ⊢;rw[e2];exact h.o r h1 h2 h3 h4,by rw[e1];exact h.fr⟩
structure NeB(W:World)(lb wl rb wr sb:Nat):Prop where
 z:0<W.heap.size
 l:W.heap.size≤lb
 w:W.heap.size≤wl
 r:W.heap.size≤rb
 v:W.heap.size≤wr
 s:W.heap.size≤sb
 d:lb≠rb∧lb≠wr∧lb≠sb∧wl≠rb∧wl≠wr∧wl≠sb∧sb≠rb∧sb≠wr
structure LpB(W u:World)(lb wl rb wr sb:Nat)(k:V0)(z:Int):Prop where
 al:n8 lb wl (some sb) (z0R z sb) W k 0 u
 rs:RS rb wr k u
theorem t01(k:V0)(o:P3):(M6 k o).l= .slice none 0 0:=by
 unfold M6
 split<;>rfl
theorem y0p{u:World}{rb wr cb:Nat}{k q':V0}{o:P3}{a:g7}{n:Nat}(hwf:BWf k)(hr:RS rb wr k u)(hc:F3 u cb (M6 k o))(hO:B3 k o q' a n):f0X u rb wr cb q' a n (.slice none 0 0):=by
 have hb:=m0c (o:=o) hwf.dm
 have hl:=t01 k o
 have hrow:b9 u (M6 k o).l []:=by rw[hl];exact World.ownsRow_nil _ _ _ _
 unfold B3 at hO
 rcases e:(k.begin o).2 with c|x
 ·rw[e]at hb hO
  exact .inl ⟨k,c,M6 k o,hO,hr,hwf.dm,hc,hb.1,hb.2.1,by rw[hb.2.2];exact hrow,hl.symm⟩
 ·rw[e]at hb hO
  obtain⟨rfl,rfl,rfl⟩:=hO
  exact .inr ⟨rfl,hr,hwf.dm,M6 q' o,hc,hb.1,by rw[hb.2];exact hrow,hl.symm⟩
theorem y0q{W u:World}{lb wl rb wr sb:Nat}{k:V0}{z:Int}(N:NeB W lb wl rb wr sb)(h:LpB W u lb wl rb wr sb k z){pb po ol oq i:Nat}{o:P3}(f0:u.cell? ⟨pb,po+i*4,none⟩=some (vI o.kd))(f1:u.cell? ⟨pb,po+i*4+1,none⟩=some (vI o.a))(f2:u.cell? ⟨pb,po+i*4+2,none⟩=some (vI o.b))(f3:u.cell? ⟨pb,po+i*4+3,none⟩=some (vI o.c))(hi:i<ol)(hi2:i<9223372036854775807)
 {n:Nat} (hn:n=k.n) {A:Array Value} (hA:G0 140 A [(0,vI (n:Nat)),(1,vL pb po ol oq),(5,vP lb 0),(7,vP rb 0),(9,vP sb 0),(10,vI (i:Nat))]) {cs:List Frame} {Stop:Goroutine→World→Prop}
 (K:∀k' z' u' A,n=k'.n→LpB W u' lb wl rb wr sb k' z'→G0 140 A [(0,vI (n:Nat)),(1,vL pb po ol oq),(5,vP lb 0),(7,vP rb 0),(9,vP sb 0),(10,vI (i+1:Nat))]→
   J0 Tryd.prog true F0 Stop (G (bA 4 A [.inRegion (oC x6) [0,1,2,3,4,5,6,7],.code m9,.code v8,.inLoop x4,.inBlock 0,.code I4]) cs) u'):
 J0 Tryd.prog true F0 Stop (G (bA 4 A [.inRegion (oC x6) [0,1,2,3,4,5,6,7],.code m9,.code v8,.inLoop x4,.inBlock 0,.code I4]) cs) u:=by
 obtain⟨kd,a,b,c0⟩:=o
 obtain⟨N0,N1,N2,N3,N4,N5,D1,D2,D3,D4,D5,D6,D7,D8⟩:=N
 have hal:=h.al
 have hlow:=hal.u.low
 have hn6:=hal.u.wf.n
 have hrl:=(Array.getElem?_eq_some_iff.1 h.rs.o).1
 have hwl:=(Array.getElem?_eq_some_iff.1 h.rs.ws).1
 have hsx:u.heap[sb]? =_:=hal.x
 have hsl:=(Q3 hsx)
 have hws:k.ws.length≤1024:=by have:=hal.u.wf.l;omega
 have hwz:=hal.sz
 refine C0I J1 (Nat.zero_le _) f0 f1 f2 f3 hi hA fun A1 hA1=>?_
 have o1:∀r,r<u.heap.size→(u.alloc (.cells #[vI kd,vI a,vI b,vI c0] 44)).heap[r]? =u.heap[r]?:=fun r hr=>D0 _ _ hr
 have z1:(u.alloc (.cells #[vI kd,vI a,vI b,vI c0] 44)).heap.size=u.heap.size+1:=by simp
 have q1:(u.alloc (.cells #[vI kd,vI a,vI b,vI c0] 44)).heap[u.heap.size]? =some (.cells #[vI kd,vI a,vI b,vI c0] 44 (0,0)):=heap_alloc_new _ _
 generalize u.alloc (.cells #[vI kd,vI a,vI b,vI c0] 44)=u1 at o1 z1 q1 ⊢
 refine C0J (OpF.of q1) hA1 fun A2 hA2=>?_
 refine v0Q (o:=⟨kd,a,b,c0⟩) (h.rs.same (o1 _ hrl) (o1 _ hwl)) hn6 fun u2 hc2 z2 o2=>?_
 have o12:∀r,r<u.heap.size→u2.heap[r]? =u.heap[r]?:=fun r hr=>(o2 r (by omega)).trans (o1 r hr)
 have hsx2:u2.heap[sb]? =_:=(o12 sb hsl).trans hsx
 refine C0K (cb:=u1.heap.size+1) (nq:=IntKind.i64.wrap (z+((0:Nat):Int))) (by simp[World.cell?,hsx2]) hA2 fun A3 hA3=>?_
 obtain⟨q',a',m,hO⟩:=p0w hws ⟨kd,a,b,c0⟩
 have hrs2:RS rb wr k u2:=h.rs.same (o12 _ hrl) (o12 _ hwl)
 have hIn:=y0p hal.u.wf hrs2 hc2 hO
 refine j0N m0M F6 (by kernel_rfl) (by simp[base]) (R:=fun A' w'=>∃lv,G0 140 A' [(0,vI (n:Nat)),(1,vL pb po ol oq),(5,vP lb 0),(7,vP rb 0),(9,vP sb 0),(10,vI (i:Nat)),(11,vP u.heap.size 0),(12,vP (u1.heap.size+1) 0),(13,vI (IntKind.i64.wrap (z+(m:Int))))]∧f0X w' rb wr (u1.heap.size+1) q' a' 0 lv∧q0z u2 w' (u1.heap.size+1) wr (.slice none 0 0) lv)
  (fun τ e=>v0J (w:=retape u2 τ e) (hIn.heap rfl) (by omega) (by omega) hA3 fun A' w' lv g1 g2 g3=>⟨rfl,lv,g1,g2,g3.heap rfl rfl⟩) fun A4 u3 τ e hR hgd=>?_
 obtain⟨lv,hA4,hI3,hS3⟩:=hR
 have hI3:f0X u3 rb wr (u1.heap.size+1) q' a' 0 lv:=hI3.heap rfl
 have hS3:q0z u2 u3 (u1.heap.size+1) wr (.slice none 0 0) lv:=hS3.heap rfl rfl
 have z3:=hS3.sz
 have o3:∀r,r<u2.heap.size→r≠u1.heap.size+1→r≠wr→u3.heap[r]? =u2.heap[r]?:=fun r h1 h2 h3=>hS3.o r h1 h2 h3 (by simp[Value.ownBlock])
 obtain⟨hrs3,hdm3,rc,hrc3,hdn3,hrow3,hlv⟩:RS rb wr q' u3∧BDm q'∧∃rc,F3 u3 (u1.heap.size+1) rc∧f00 rc a'∧b9 u3 rc.l a'.2.2∧lv=rc.l:=by
  rcases hI3 with⟨q,c,rc,h1,_⟩|⟨_,h2,h3,h4⟩
  ·exact absurd h1.pos (Nat.lt_irrefl 0)
  ·exact⟨h2,h3,h4⟩
 have q3:u3.heap[u.heap.size]? =some (.cells #[vI kd,vI a,vI b,vI c0] 44 (0,0)):=(o3 _ (by omega) (by omega) (by omega)).trans ((o2 _ (by omega)).trans q1)
 have o13:∀r,r<u.heap.size→r≠wr→u3.heap[r]? =u.heap[r]?:=fun r h1 h2=>(o3 r (by omega) (by omega) h2).trans (o12 r h1)
 refine C0M (OpF.of q3) hA4 fun A5 hA5=>?_
 have hsb:Apt lb wl (some sb):=fun b hb=>by cases hb;exact⟨Ne.symm D3,Ne.symm D6,by omega⟩
 have hsx3:u3.heap[sb]? =_:=(o13 sb hsl D8).trans hsx
 have hal3:n8 lb wl (some sb) (z0R z sb) u3 k 0 u3:=⟨hal.u.same (o13 _ hlow.1 D2) (o13 _ hlow.2.1 D5) (o13 _ hlow.2.2 (by omega)),hsx3,Nat.le_refl _,fun _ _ _ _=>rfl⟩
 refine v0R (o:=⟨kd,a,b,c0⟩) (C0p true z sb) hsb hal3 (by omega) (by omega) fun u4 k' a4 n4 la ll lc hO4 hB4 hS4 hblk=>?_
 obtain⟨e1,e2,e3⟩:=m0J hO hO4
 subst e1
 subst e2
 subst e3
 have hkn:=v0K hO
 have z4:=hB4.sz
 refine C0N J1 (Nat.zero_le _) hA5 fun A6 hA6=>?_
 have o5:∀r,r<u4.heap.size→(u4.alloc (.cells #[.bool a'.1,vI a'.2.1,.slice la ll lc] 49)).heap[r]? =u4.heap[r]?:=fun r hr=>D0 _ _ hr
 have z5:(u4.alloc (.cells #[.bool a'.1,vI a'.2.1,.slice la ll lc] 49)).heap.size=u4.heap.size+1:=by simp
 have q5:(u4.alloc (.cells #[.bool a'.1,vI a'.2.1,.slice la ll lc] 49)).heap[u4.heap.size]? =some (.cells #[.bool a'.1,vI a'.2.1,.slice la ll lc] 49 (0,0)):=heap_alloc_new _ _
 generalize u4.alloc (.cells #[.bool a'.1,vI a'.2.1,.slice la ll lc] 49)=u5 at o5 z5 q5 ⊢
 obtain⟨la2,lc2,hl2⟩:=d0f hrow3
 have hcl3:=(Q3 hrc3)
 have hrc4:u4.heap[u1.heap.size+1]? =some rc.o:=(hB4.o _ (by omega) (fun e=>by cases e;omega) (by omega)).trans hrc3
 have hrc5:u5.heap[u1.heap.size+1]? =some (.cells #[vI rc.kd,vI rc.i,vI rc.ph,vI rc.w,wV rc.old,.bool rc.done,.bool a'.1,vI a'.2.1,.slice la2 a'.2.2.length lc2] 51 (0,0)):=by
  rw[o5 _ (by omega),hrc4,← hl2,← hdn3.ok,← hdn3.n]
  rfl
 have hx4:u4.heap[sb]? =some (.cells #[vI (IntKind.i64.wrap (z+(m:Int)))] 42 (0,0)):=by
  have hx:u4.heap[sb]? =_:=hB4.x
  rw[hx,Nat.zero_add]
 have hx5:=(o5 sb (by omega)).trans hx4
 have hlo5:u5.heap[lb]? =_:=(o5 lb (by have:=hB4.u.low;omega)).trans hB4.u.o
 have s1:SAL ⟨a',la,ll,lc⟩ u5:=(SAL.of hS4).olds o5
 have s2:SAL ⟨a',la2,a'.2.2.length,lc2⟩ u5:=by
  have hrow4:u4.ownsRow 0 2 1 (.slice la2 a'.2.2.length lc2) a'.2.2.length (a'.2.2.map fun v=>vI v):=by
   rw[← hl2]
   refine p08 hrow3 fun g c hg hc=>hB4.o g (Q3 hc) (fun e=>?_) (fun e=>?_)
   ·cases e
    rw[hsx3]at hc
    simp at hc
   ·have hwsl:=(o13 wl hlow.2.1 D5).trans (show u.heap[wl]? =_ from hal.u.ws)
    rw[e,hwsl]at hc
    simp at hc
  exact(SAL.of (show SAU ⟨a',la2,a'.2.2.length,lc2⟩ u4 from hrow4)).olds o5
 have hshort:a'.2.2.length<100000000:=by have:=i05 hO;omega
 refine j0N m0M F6 (by kernel_rfl) (by simp[base]) (R:=fun A' w'=>G0 140 A' [(0,vI (n:Nat)),(1,vL pb po ol oq),(5,vP lb 0),(7,vP rb 0),(9,vP sb 0),(10,vI (i:Nat)),(110,.bool false)]∧u5.heap.size≤w'.heap.size∧∀r,r<u5.heap.size→w'.heap[r]? =u5.heap[r]?)
  (fun τ e=>z0W (w:=retape u5 τ e) (sb:=sb) (tb:=u4.heap.size) (cb:=u1.heap.size+1) (N:=IntKind.i64.wrap (z+(m:Int))) (a:=a') hshort ?_ ?_ ?_ ?_ ?_ ?_ ?_ ?_ (s1.heap rfl) (s2.heap rfl) ⟨hA6.1,hA6.2.1,hA6.2.2.1,hA6.2.2.2.1,hA6.2.2.2.2.1,hA6.2.2.2.2.2.1,hA6.2.2.2.2.2.2.1,hA6.2.2.2.2.2.2.2.2.1,hA6.2.2.2.2.2.2.2.2.2.1,hA6.2.2.2.2.2.2.2.2.2.2.1,trivial⟩ fun A' w' g1 g2 g3=>⟨rfl,g1,g2,g3⟩) fun A7 u6 τ e hR6 hgd6=>?_
 ·show u5.cell? _=_;simp[World.cell?,hx5]
 ·show u5.cell? _=_;simp[World.cell?,q5]
 ·show u5.cell? _=_;simp[World.cell?,q5]
 ·show u5.cell? _=_;simp[World.cell?,q5]
 ·show u5.cell? _=_;simp[World.cell?,hrc5]
 ·show u5.cell? _=_;simp[World.cell?,hrc5]
 ·show u5.cell? _=_;simp[World.cell?,hrc5]
 ·show u5.cell? _=_;simp[World.cell?,hlo5,hn,hkn.1]
 obtain⟨hA7,z6,o6⟩:=hR6
 have z6:u5.heap.size≤u6.heap.size:=z6
 have o6:∀r,r<u5.heap.size→u6.heap[r]? =u5.heap[r]?:=o6
 have o46:∀r,r<u4.heap.size→u6.heap[r]? =u4.heap[r]?:=fun r hr=>(o6 r (by omega)).trans (o5 r hr)
 have hl4:=hB4.u.low
 have al6:n8 lb wl (some sb) (z0R (z+(m:Int)) sb) W q' 0 u6:=⟨hB4.u.same (o46 _ hl4.1) (o46 _ hl4.2.1) (o46 _ hl4.2.2),by
  show u6.heap[sb]? =_
  rw[o46 sb (by omega),hx4]
  simp,by omega,fun r hr h1 h2=>(o46 r (by omega)).trans ((hB4.o r (by omega) h1 h2).trans ((o13 r (by omega) (by omega)).trans (hal.o r hr h1 h2)))⟩
 have rs6:RS rb wr q' u6:=hrs3.same ((o46 rb (by omega)).trans (hB4.o rb (by omega) (fun e=>by cases e;omega) (by omega))) ((o46 wr (by omega)).trans (hB4.o wr (by omega) (fun e=>by cases e;omega) (by omega)))
 have hge:¬((n:Nat):Int)<0:=by omega
 have hbig:(q'.n:Int)≤(n:Nat):=by rw[hkn.1,hn];exact Int.le_refl _
 refine C0O ⟨hA7.1,hA7.2.1,hA7.2.2.1,hA7.2.2.2.1,hA7.2.2.2.2.1,hA7.2.2.2.2.2.1,hA7.2.2.2.2.2.2.1,hA7.2.2.2.2.2.2.2.1,trivial⟩ fun A8 hA8=>?_
 refine t0q fun B1 hB1=>o03 (by omega) (g0R hB1 ?_)
 refine C0q hA8 fun A9 hA9=>?_
 refine v0g fun B2 hB2=>o02 al6.u.bh hge hbig (h0x hB2 ?_)
 refine C0r hA9 fun A10 hA10=>?_
 refine q00 al6.u.bh hge hbig ?_
 refine C0s hi2 hA10 fun A11 hA11=>?_
 exact K q' (z+(m:Int)) u6 A11 (by rw[hn,hkn.1]) ⟨al6,rs6⟩ hA11
end
section
variable{An:G3}{W w w':World}
theorem v0P{f k:Nat}{fn:Func}{A:Array Value}(h2:¬2=f)(hf:Tryd.prog.funcs[f]? =some fn)(hr:fn.results= #[.tmp k]){v:Value}(hA:A.getD k undef=v)(w:World)(t:List Item):
 stepG Tryd.prog true (G {(Go.Conc.base f).at ⟨A,[]⟩ (.code .ret::t)with mode:=.returning} []) w= .ended (.done v) w #[]:=by
 subst hA
 simp[G,stepG,unwind,doReturn,results,Frame.at,base,hf,hr,seen,GStep.after,h2]
theorem j0M{f k:Nat}{fn:Func}{A:Array Value}(hf:Tryd.prog.funcs[f]? =some fn)(hr:fn.results= #[.tmp k])(h2:¬2=f)(hA:A.getD k undef= .bool true){w:World}(t:List Item)(h:∀(r:Nat) (c:Array Value) (e:TypeId) (z:Nat×Nat),W.heap[r]? =some (.cells c e z)→w.heap[r]? =some (.cells c e z)):
 l0b An (g0M W) (G {(Go.Conc.base f).at ⟨A,[]⟩ (.code .ret::t)with mode:=.returning} []) w:=
 ⟨rfl,fun d=>⟨_,v0P h2 hf hr hA _ t,fun _=>⟨rfl,h⟩⟩⟩
theorem A07(h:d08 w):Tab w:=⟨fun k hk=>by
 obtain⟨c,e,z,h1,h2⟩:=h
 simp[World.cell?,h1,h2 k hk]⟩
structure s0T(w:World)(oa:Option Addr)(L:List P3):Prop where
 c:∀i o,L[i]? =some o→∃b o',oa=some ⟨b,o',none⟩∧w.cell? ⟨b,o'+i*4,none⟩=some (vI o.kd)∧w.cell? ⟨b,o'+i*4+1,none⟩=some (vI o.a)∧w.cell? ⟨b,o'+i*4+2,none⟩=some (vI o.b)∧w.cell? ⟨b,o'+i*4+3,none⟩=some (vI o.c)
theorem s0T.keep{oa:Option Addr}{L:List P3}(h:s0T w oa L)(hk:C9 w w'):s0T w' oa L:=⟨fun i o ho=>by
 have hc:∀{a:Addr} {v:Value},w.cell? a=some v→w'.cell? a=some v:=fun{a v} h=>by
  obtain⟨c,e,z,ho⟩:=M3 h
  have e1:w'.heap[a.block]? =w.heap[a.block]?:=(hk.2 _ _ _ _ ho).trans ho.symm
  rw[← h];unfold World.cell?;simp only[e1]
 obtain⟨b,o',e,c0,c1,c2,c3⟩:=h.c i o ho
 exact⟨b,o',e,hc c0,hc c1,hc c2,hc c3⟩⟩
theorem v0H{lb wl rb wr sb:Nat}(N:NeB w lb wl rb wr sb){oa:Option Addr}{oq n:Nat}{L:List P3}(hO:s0T w oa L)(hl:L.length<9223372036854775808)(hk:C9 W w):
 ∀(d i:Nat) (k:V0) (z:Int) (u:World) (A:Array Value),i+d=L.length→n=k.n→LpB w u lb wl rb wr sb k z→G0 140 A [(0,vI (n:Nat)),(1,.slice oa L.length oq),(5,vP lb 0),(7,vP rb 0),(9,vP sb 0),(10,vI (i:Nat))]→
  J0 Tryd.prog true F0 (l0b An (g0M W)) (G (bA 4 A [.inRegion (oC x6) [0,1,2,3,4,5,6,7],.code m9,.code v8,.inLoop x4,.inBlock 0,.code I4]) []) u:=by
 intro d
 induction d with
 | zero=>
   intro i k z u A hi hn h hA
   have e:i=L.length:=by omega
   subst e
   refine A04 hA fun A' t hA'=>.stop fun d=>j0M Tryd.func4 rfl (by decide) hA' t fun r c e z h0=>?_
   have h1:=hk.2 _ _ _ _ h0
   have hr:=(Q3 h1)
   exact(h.al.o r hr (fun e=>by cases e;have:=N.s;omega) (by have:=N.w;omega)).trans h1
 | succ d ih=>
   intro i k z u A hi hn h hA
   obtain⟨o,ho⟩:∃o,L[i]? =some o:=⟨_,List.getElem?_eq_getElem (by omega)⟩
   obtain⟨pb,po,rfl,c0,c1,c2,c3⟩:=hO.c i o ho
   have hpb:=I9 c0
   have hold:u.heap[pb]? =w.heap[pb]?:=h.al.o pb hpb (fun e=>by cases e;have:=N.s;omega) (by have:=N.w;omega)
   refine y0q N h (o:=o) ((F1 hold).1.trans c0) ((F1 hold).1.trans c1) ((F1 hold).1.trans c2) ((F1 hold).1.trans c3) (by omega) (by omega) hn hA fun k' z' u' A' hn' h' hA'=>ih (i+1) k' z' u' A' (by omega) hn' h' hA'
theorem m07(hg:d08 W){nv:Int}{oa:Option Addr}{oq:Nat}{L:List P3}(hO:s0T W oa L)(hl:L.length<9223372036854775808):
 Q4 An Tryd.prog (l0b An (g0M W)) (G (Frame.enter Tryd.prog 4 #[vI nv,.slice oa L.length oq] .normal) []) W:=by
 refine Z6 (F:=F0) (Stop:=fun a u=>∃A,G0 140 A [(0,vI nv),(1,.slice oa L.length oq)]∧u.heap=W.heap∧a=G (Frame.enter Tryd.prog 7 #[] .normal) [bA 4 A [.inRegion (oC j0n) [0,1],.code h0G,.code m0F]])
  (C0F fun A hA=>.stop fun d=>⟨A,hA,rfl,rfl⟩) fun a u ⟨A1,hA1,hu,ha⟩=>?_
 subst ha
 have k0:C9 W u:=.of (by rw[hu];exact Nat.le_refl _) fun r hr=>by rw[hu]
 refine m0f (hg.keep k0) fun w1 k1'=>?_
 have k1:=k0.trans k1'
 refine Z6 (F:=F0) (Stop:=l0b An (g0M W)) ?_ fun a u h=>Q4.stop h
 refine C0G hA1 fun A2 hA2=>?_
 by_cases hbad:nv<0∨65536<nv
 ·refine N7 m0K F6 Tryd.func11 rfl (by kernel_rfl) (R:=fun x u=>x= .tuple #[.pointer none,vI 1]∧u.heap=w1.heap) (fun τ e=>z05 (w:=retape w1 τ e) hbad) fun v u2 τ e hR hgd=>?_
  obtain⟨rfl,h2⟩:=hR
  have h2:u2.heap=w1.heap:=h2
  refine C0t hA2 fun A3 hA3=>?_
  refine N7 m0K F6 Tryd.func12 rfl (by kernel_rfl) (R:=fun x u=>x= .tuple #[.pointer none,.bool false]∧u.heap=u2.heap) (fun τ e=>z0G (w:=retape u2 τ e) hbad) fun v u3 τ e hR hgd=>?_
  obtain⟨rfl,h3⟩:=hR
  have h3:u3.heap=u2.heap:=h3
  refine A03 hA3 fun A' t hA'=>.stop fun d=>j0M Tryd.func4 rfl (by decide) hA' t fun r c e z h0=>?_
  show u3.heap[r]? =_
  rw[h3,h2]
  exact k1.2 _ _ _ _ h0
 ·obtain⟨n,rfl⟩:∃n:Nat,nv=(n:Int):=⟨nv.toNat,by omega⟩
  have hn6:n≤65536:=by omega
  have hg1:=hg.keep k1
  have h00:0<w1.heap.size:=by
   obtain⟨_,_,_,h,_⟩:=hg1
   exact(Q3 h)
  refine p04 J1 (Nat.zero_le _) hn6 rfl ?_
  have z2:((w1.alloc (.cells (madeCells #[.int .u64 0] ((n+63) / 64)) 113)).alloc (.cells #[vI (n:Nat),vL w1.heap.size 0 ((n+63) / 64) ((n+63) / 64)] 62)).heap.size=w1.heap.size+2:=by simp
  have o2:∀r,r<w1.heap.size→((w1.alloc (.cells (madeCells #[.int .u64 0] ((n+63) / 64)) 113)).alloc (.cells #[vI (n:Nat),vL w1.heap.size 0 ((n+63) / 64) ((n+63) / 64)] 62)).heap[r]? =w1.heap[r]?:=fun r hr=>B0y _ _ _ hr
  have b2:((w1.alloc (.cells (madeCells #[.int .u64 0] ((n+63) / 64)) 113)).alloc (.cells #[vI (n:Nat),vL w1.heap.size 0 ((n+63) / 64) ((n+63) / 64)] 62)).heap[w1.heap.size+1]? =some (.cells #[vI (n:Nat),vL w1.heap.size 0 ((n+63) / 64) ((n+63) / 64)] 62 (0,0)):=B0t _ _ _ _
  have a2:((w1.alloc (.cells (madeCells #[.int .u64 0] ((n+63) / 64)) 113)).alloc (.cells #[vI (n:Nat),vL w1.heap.size 0 ((n+63) / 64) ((n+63) / 64)] 62)).heap[w1.heap.size]? =some (.cells (madeCells #[.int .u64 0] ((n+63) / 64)) 113 (0,0)):=by rw[D0 _ _ (by simp),heap_alloc_new]
  generalize (w1.alloc (.cells (madeCells #[.int .u64 0] ((n+63) / 64)) 113)).alloc (.cells #[vI (n:Nat),vL w1.heap.size 0 ((n+63) / 64) ((n+63) / 64)] 62)=u2 at z2 o2 b2 a2 ⊢
  refine C0t (xa:=some ⟨w1.heap.size+1,0,none⟩) (ec:=0) hA2 fun A3 hA3=>?_
  refine z0A hn6 fun u3 hrs z3 o3=>?_
  refine C0H (xb:=w1.heap.size+1) (rb:=u2.heap.size+1) J1 (Nat.zero_le _) hA3 fun A4 hA4=>?_
  have z4:(u3.alloc (.cells #[vI 0] 42)).heap.size=u3.heap.size+1:=by simp
  have o4:∀r,r<u3.heap.size→(u3.alloc (.cells #[vI 0] 42)).heap[r]? =u3.heap[r]?:=fun r hr=>D0 _ _ hr
  have b4:=heap_alloc_new u3 (.cells #[vI 0] 42)
  generalize u3.alloc (.cells #[vI 0] 42)=u4 at z4 o4 b4 ⊢
  have o24:∀r,r<u2.heap.size→u4.heap[r]? =u2.heap[r]?:=fun r hr=>(o4 r (by omega)).trans (o3 r hr)
  have o14:∀r,r<w1.heap.size→u4.heap[r]? =w1.heap[r]?:=fun r hr=>(o24 r (by omega)).trans (o2 r hr)
  have hwu:WU (w1.heap.size+1) w1.heap.size (X8 n) u4:=by
   refine⟨h0R hn6 [],?_,?_,(A07 hg1).same (o14 0 h00),by omega,by omega⟩
   ·rw[o24 _ (by omega),b2]
    simp[X8]
   ·show u4.heap[w1.heap.size]? =_
    rw[o24 _ (by omega),a2]
    congr 2
    apply Array.toList_inj.1
    rw[toList_madeCells_one]
    simp[X8,wV]
  refine v0H (An:=An) (W:=W) (w:=w1) (lb:=w1.heap.size+1) (wl:=w1.heap.size) (rb:=u2.heap.size+1) (wr:=u2.heap.size) (sb:=u3.heap.size) ⟨h00,by omega,Nat.le_refl _,by omega,by omega,by omega,by omega,by omega,by omega,by omega,by omega,by omega,by omega,by omega⟩ (hO.keep k1) hl k1 L.length 0 (X8 n) 0 u4 A4 (by omega) rfl ⟨⟨hwu,?_,by omega,fun r hr _ _=>o14 r hr⟩,hrs.same (o4 _ (by omega)) (o4 _ (by omega))⟩ hA4
  show u4.heap[u3.heap.size]? =_
  rw[b4]
  rfl
end
section
variable{An:G3}{w w' w0:World}
structure NlW(pb:Nat)(o:P3)(ls:Nat)(cb:Nat)(ok:Bool)(w:World):Prop where
 op:OpF pb o.kd o.a o.b o.c w
 l0:w.cell? ⟨ls,0,none⟩=some (.pointer none)
 l1:∃zb,w.cell? ⟨ls,1,none⟩=some (vP zb 0)∧w.cell? ⟨zb,0,none⟩=some (vI 0)∧w.cell? ⟨zb,1,none⟩=some (.slice none 0 0)
 o6:w.cell? ⟨cb,6,none⟩=some (.bool ok)
 o7:w.cell? ⟨cb,7,none⟩=some (vI 0)
 o8:w.cell? ⟨cb,8,none⟩=some (.slice none 0 0)
theorem NlW.grow{pb:Nat}{o:P3}{ls cb:Nat}{ok:Bool}(h:NlW pb o ls cb ok w)(hs:∀r,r<w.heap.size→w'.heap[r]? =w.heap[r]?):NlW pb o ls cb ok w':=by
 obtain⟨zb,a,b,c⟩:=h.l1
 exact⟨h.op.grow hs,i4 h.l0 hs,⟨zb,i4 a hs,i4 b hs,i4 c hs⟩,i4 h.o6 hs,i4 h.o7 hs,i4 h.o8 hs⟩
end
section
open Go Go.Conc Go.ChangeShapes
section
variable{H:Type}{enc:TypeId×Value→H}
end
theorem b04{p:Pinned}{s:OpenSpec}{c:OpenClaim}(f:FuncId)(fn:Func)
 (hn:c.program=p.name) (hs:c.sum=p.sum) (hsp:c.spec=s.name)
 (hstart:c.start= .entering) (hout:c.outside=[]) (hin:c.inits=[]) (hun:c.under=none) (hi4:c.initsInPlace=[]∧c.initsUnfollowed=false∧c.initsRecurse=false∧c.initsNamed=[]∧c.initsPassed=[]) (hnb:c.noBlocks=false) (hlv:c.leaving=true) (hfo:c.followed=none) (hnar:c.narrowed=s.cond.isSome) (hstill:c.still=false)
 (hfn:p.checked.prog.funcNamed c.func=some f) (hf:p.checked.prog.funcs[f]? =some fn)
 (closed:joinedFacts p.checked.prog f fn s.bare c=true)
 (hinst:fn.isInstance p.checked.prog c.origin c.targs) (hwrap:fn.isWrapper p.checked.prog c.wrapper c.mainSum)
 (h:∀os:Os,os.Started→∀(H:Type) (enc:TypeId×Value→H),(∀a b,enc a=enc b→a=b)→∀F:Stop.Interp,
   ReturnsInLeavingWide c.assume p.checked os f .any (c.pre enc p.checked.prog fn s) ((s.at F).post enc p.checked.prog fn c.apart c.fresh c.handsOn c.again)):c.holds p s:=by
 simp only[joinedFacts,Bool.and_eq_true,beq_iff_eq,Array.all_eq_true_iff_forall_mem,List.all_eq_true,decide_eq_true_eq]at closed
 obtain⟨⟨⟨⟨⟨⟨⟨⟨⟨⟨⟨⟨⟨⟨⟨⟨⟨⟨⟨⟨⟨⟨⟨⟨⟨⟨⟨⟨⟨⟨⟨k1,k2⟩,k3⟩,k4⟩,k5⟩,k6⟩,k7⟩,k8⟩,k9⟩,k10⟩,k11⟩,k12⟩,k13⟩,k14⟩,k15⟩,k16⟩,k17⟩,k17b⟩,k18⟩,k19⟩,k20⟩,k21⟩,k22⟩,k23⟩,k23b⟩,k24⟩,k24b⟩,k24c⟩,k25⟩,k26⟩,k27⟩,k28⟩:=closed
 have hq:∀os:Os,Stop.quiet p.checked.prog os:=fun os k hk=>by rw[k9]at hk;cases hk
 refine⟨k1,hn,hs,hsp,k2,k3,by unfold OpenClaim.startFits;rw[hstart];exact k24,by unfold OpenClaim.startTold;rw[hstart];exact⟨hin,hun,hi4⟩,f,fn,hfn,hf,⟨k4,k19⟩,(fun hb=>by rw[hnb]at hb;cases hb),by unfold OpenClaim.namedList;rw[hfo];exact k5,hinst,hwrap,
  k6.trans k7.symm,⟨k8.trans k9.symm,by unfold Program.envWorded;rw[k9];rfl,k23b⟩,k10,k11,k12,k13,k14,⟨k15,k27,k28⟩,⟨k16,k20⟩,⟨k17,k21,k25,k26⟩,⟨k22,k24b,k24c,k17b⟩,(by rw[hout,hnar];cases hsh:c.shortTexts with|none=>simp|some _=>rw[hsh]at k23;cases k23),fun n hn'=>varReadable_some (k18 n hn'),
  ⟨_,by unfold OpenClaim.world;rw[hout,hstart];exact WideRow.started_initial,hq _⟩,[],by unfold OpenClaim.lists;rw[hfo],fun os st _ H enc inj=>?_⟩
 have st':os.Started:=by unfold OpenClaim.world at st;rw[hout,hstart]at st;exact st
 rw[OpenClaim.post_not_still hstill]
 unfold OpenClaim.form
 rw[hstart,k6]
 intro F
 have e1:c.okInput=Input.okWide:=by unfold OpenClaim.okInput;rw[hnb]
 have e2:c.atReturn p.checked.prog=leavingAtReturn p.checked.prog:=by unfold OpenClaim.atReturn;rw[hlv]
 have e3:c.always p.checked.prog []=nothingAlways:=by unfold OpenClaim.always;rw[hfo]
 have e4:s.post enc p.checked.prog fn F c.outside c.apart c.fresh c.handsOn c.again=(s.at F).post enc p.checked.prog fn c.apart c.fresh c.handsOn c.again:=by rw[hout];rfl
 rw[e1,e2,e3]
 show ReturnsInOpen _ _ _ _ _ _ _ _ (s.post enc p.checked.prog fn F c.outside c.apart c.fresh c.handsOn c.again) _ _
 rw[e4]
 exact h os st' H enc inj F k24
end
noncomputable section
open Go.ChangeShapes Go.WideShapes Go.ChangeAt
set_option maxRecDepth 100000
section
variable{H:Type}{enc:TypeId×Value→H}
end
theorem x0u : Tryd.prog.globalNamed "math/bits.deBruijn64tab" = some 0 := by kernel_rfl
theorem p0i:(Tryd.prog.globals[0]?).map (·.type)=some 145:=by kernel_rfl
theorem o0N:Tryd.prog.cellsOf 145=64:=by kernel_rfl
theorem q0W:Tryd.prog.cellsOf 5=1:=by kernel_rfl
theorem z0g{W:World}(h:laidMetH Tryd.prog Rows.bitsNilRow.laid W):d08 W:=by
 have ht : Lib.TabIs Tryd.prog W "math/bits.deBruijn64tab" .u8 (deB.map fun n : Nat => (n : Int)) := Lib.tabIs_of_head (rest := []) x0u p0i Tryd.underlying145 Tryd.underlying5 q0W o0N h
 have hc:∀k,k<64→W.cell? ⟨0,k,none⟩=some (.int .u8 ((deB.getD k 0:Nat):Int)):=fun k hk=>by
  have:=ht.cell x0u k (by rw[List.length_map];exact hk)
  rw[this]
  congr 2
  have hl:k<deB.length:=hk
  simp[List.getD_eq_getElem?_getD,hl]
 obtain⟨c,e,z,h0⟩:=M3 (hc 0 (by omega))
 refine⟨c,e,z,h0,fun k hk=>?_⟩
 have:=hc k hk
 have h0:W.heap[0]? =some (.cells c e z):=h0
 simpa [World.cell?,h0]using this
def c09(os:Os):World:=
 {World.holding Tryd.prog os ⟨#[],#[],[]⟩with heap:=(World.holding Tryd.prog os ⟨#[],#[],[]⟩).heap.modify 0 fun
  | .cells _ t frozen=>.cells (deB.map fun n:Nat=>Value.int .u8 (n:Int)).toArray t frozen
  | o=>o}
theorem m0i{p:Pinned}{s:OpenSpec}{c:OpenClaim}(kinds:List LaidKind)(tests:Bool)(har:Bool×String)(lk:Bool)
 (hc:c.holds p s) (hw:c.wfByText s=true) (htie:c.laidByTextAt .later p kinds tests)
 (hst:c.start= .entering) (hnb:c.noBlocks=false∧c.again=false) (hm:p.checked.prog.mainIs=some (har.1,har.2.toList)) (hn:(!har.1 && har.2.isEmpty && !lk)=false)
 (hl:∀f fn,p.checked.prog.funcNamed c.func=some f→p.checked.prog.funcs[f]? =some fn→lk=p.checked.prog.looks []∧∀(j:Nat) t,fn.params[j]? =some t→p.checked.prog.wantsStandIn t=false)
 (hg:true=c.goesBy p.checked.prog):
 Claim7.holds p (.plain s) {stood:={row:=c,standIns:=[],harness:=har,looks:=lk},kinds:=[],alts:=[],goes:=true,laidByText:=true,laidKinds:=kinds,laidTests:=tests,laidLooks:=.later}:=by
 have h6:∀r:OpenClaim,Claim7.isSixth {stood:={row:=r,standIns:=[],harness:=har,looks:=lk},kinds:=[]}=false:=fun r=>by simpa [Claim7.isSixth]using hn
 exact⟨Claim7.tied_new_at .later kinds tests (Claim7.new_of_sixth hc har lk hst hnb hm (h6 c) hl) hw,fun D hD=>(by cases hD),htie,(fun h=>by cases h),hg⟩
end
end Go.Proofs.YtlcgkpapnpdfpaaDoor
