/-
  What is proved: BitsCallsCardSaid: for every start, all operations and every bound, what the calls of a set answer by themselves, the steps that they take and the set behind them are the document's. Conditions: those of the given row and card (the variable that is listed reads as its table).
  Part 3 of 6.
-/
import Derived.Test.YtlcgkpapnpdfpaaDoorZB
import Derived.Laws.BitsLemmas
import Derived.Laws.Bits64
import Derived.Deep.RegionLaw
import Derived.Deep.RegionLawGrows
import Derived.Deep.DeepAppendRoom
import Derived.ArgAppend
set_option linter.unusedSimpArgs false
set_option linter.unusedVariables false
set_option linter.unusedSectionVars false
set_option maxRecDepth 100000
set_option maxHeartbeats 8000000
namespace Go.Proofs.YtlcgkpapnpdfpaaDoor
open Go Go.Conc Go.RowKit Go.Proofs
noncomputable section
structure Pl where
 S:Type
 C:Type
 A:Type
 beg:S→P3→S×(C ⊕ A)
 stp:S→C→S×(C ⊕ A)
variable{m:Pl}
structure GT(m:Pl)where
 k:Nat
 call:Option m.C
 ans:List m.A
def K4(m:Pl):List P3→m.S→GT m→m.S×GT m
 | [],q,t=>(q,t)
 | o::l,q,t=>match m.beg q o with
   | (q',.inl c)=>(q',{t with call:=some c})
   | (q',.inr a)=>K4 m l q' ⟨t.k+1,none,t.ans++[a]⟩
def stpG(m:Pl)(ops:List P3)(q:m.S)(t:GT m):m.S×GT m:=match t.call with
 | none=>(q,t)
 | some c=>match m.stp q c with
   | (q',.inl c')=>(q',{t with call:=some c'})
   | (q',.inr a)=>K4 m (ops.drop (t.k+1)) q' ⟨t.k+1,none,t.ans++[a]⟩
structure GS(m:Pl)where
 q:m.S
 th:Nat→GT m
def GS.put(s:GS m)(i:Nat)(r:m.S×GT m):GS m:=⟨r.1,fun j=>if j=i then r.2 else s.th j⟩
def GS.live(s:GS m)(j:Nat):Bool:=(s.th j).call.isSome
def N6(m:Pl)(ops:Nat→List P3):Nat→GS m→GS m
 | 0,s=>s
 | i+1,s=>let y:=N6 m ops i s;y.put i (K4 m (ops i) y.q (y.th i))
def V7(ops:Nat→List P3)(n M:Nat)(s:GS m×List Nat)(i:Int):GS m×List Nat:=
 if 0≤i∧i<n∧s.1.live i.toNat=true∧s.2.length≠M then(s.1.put i.toNat (stpG m (ops i.toNat) s.1.q (s.1.th i.toNat)),s.2++[i.toNat])else s
def U4(ops:Nat→List P3)(n M:Nat):List Int→GS m×List Nat→GS m×List Nat
 | [],s=>s
 | i::l,s=>U4 ops n M l (V7 ops n M s i)
def U9(n M:Nat)(s:GS m×List Nat):Prop:=L5 s.1.live n=0∨M≤s.2.length
instance(n M:Nat)(s:GS m×List Nat):Decidable (U9 n M s):=by unfold U9;infer_instance
def Z3(ops:Nat→List P3)(n M:Nat):Nat→GS m×List Nat→GS m×List Nat
 | 0,s=>s
 | f+1,s=>if U9 n M s then s else Z3 ops n M f (U4 ops n M ((List.range n).map fun j:Nat=>(j:Int)) s)
theorem a8{ops:Nat→List P3}{n M:Nat}{s:GS m×List Nat}(h:U9 n M s)(f:Nat):Z3 ops n M f s=s:=by
 cases f with
 | zero=>rfl
 | succ f=>exact if_pos h
def a0K(ops:Nat→List P3)(n M:Nat)(S:List Int)(f:Nat)(s:GS m):GS m×List Nat:=Z3 ops n M f (U4 ops n M S (N6 m ops n s,[]))
structure Abs(L:l8)(m:Pl)where
 s:L.S→m.S
 c:L.C→m.C
 a:L.A→m.A
def Abs.r{L:l8}(ab:Abs L m):L.C ⊕ L.A→m.C ⊕ m.A
 | .inl c=>.inl (ab.c c)
 | .inr a=>.inr (ab.a a)
structure Abs.Ok{L:l8}(ab:Abs L m):Prop where
 beg:∀s i o y,L.beg s i o y→(ab.s y.1,ab.r y.2)=m.beg (ab.s s) o
 stp:∀s c y,L.stp s c y→(ab.s y.1,ab.r y.2)=m.stp (ab.s s) (ab.c c)
variable{L:l8}{ab:Abs L m}{p:T9}{g:M1}
def Abs.t(ab:Abs L m)(t:D9 L):GT m:=⟨t.k,t.call.map fun c=>ab.c c.1,t.ans.map ab.a⟩
def Abs.x(ab:Abs L m)(x:OX L):GS m:=⟨ab.s x.s,fun j=>ab.t (x.th j)⟩
theorem i0n(ok:ab.Ok){i:Nat}{a b:L.S×D9 L}(h:Adv L p i a b):a.2.call=none→(ab.s b.1,ab.t b.2)=K4 m ((p.ops i).drop a.2.k) (ab.s a.1) (ab.t a.2):=by
 induction h with
 | done h1 h2=>
   intro _
   rw[h2,List.drop_length]
   rfl
 | @live s s' t o c A a2 ho hb=>
   intro hc
   obtain⟨hlt,e⟩:=List.getElem?_eq_some_iff.1 ho
   have hb2:=ok.beg _ _ _ _ hb
   show _=K4 m ((p.ops i).drop t.k) (ab.s s) (ab.t t)
   rw[List.drop_eq_getElem_cons hlt,e]
   simp only[K4]
   rw[← hb2]
   rfl
 | @imm s s' t o an row y ho hb _ ih=>
   intro hc
   obtain⟨hlt,e⟩:=List.getElem?_eq_some_iff.1 ho
   have hb2:=ok.beg _ _ _ _ hb
   have ih:=ih rfl
   show _=K4 m ((p.ops i).drop t.k) (ab.s s) (ab.t t)
   rw[List.drop_eq_getElem_cons hlt,e]
   simp only[K4]
   rw[← hb2]
   simp only[Abs.r]
   rw[ih]
   simp[Abs.t]
theorem r0f(ok:ab.Ok){i:Nat}{a b:L.S×D9 L}(h:Stp L p i a b):(ab.s b.1,ab.t b.2)=stpG m (p.ops i) (ab.s a.1) (ab.t a.2):=by
 cases h with
 | @live s s' t c c' A a2 hc hb=>
   have hb2:=ok.stp _ _ _ hb
   have e:(ab.t t).call=some (ab.c c):=by simp[Abs.t,hc]
   show _=stpG m (p.ops i) (ab.s s) (ab.t t)
   simp only[stpG,e]
   rw[← hb2]
   rfl
 | @ans s s' t c A a2 an row y hc hb ha=>
   have hb2:=ok.stp _ _ _ hb
   have e:(ab.t t).call=some (ab.c c):=by simp[Abs.t,hc]
   have ih:=i0n ok ha rfl
   show _=stpG m (p.ops i) (ab.s s) (ab.t t)
   simp only[stpG,e]
   rw[← hb2]
   simp only[Abs.r]
   rw[ih]
   simp[Abs.t]
abbrev LUs(L:l8)(p:T9)(g:M1):C4:=U2 L p g
theorem i08{x y:OX L}{i:Nat}{r:m.S×GT m}(hr:(ab.s y.s,ab.t (y.th i))=r)(h:∀j,j≠i→y.th j=x.th j):ab.x y=(ab.x x).put i r:=by
 subst hr
 simp only[Abs.x,GS.put,GS.mk.injEq,true_and]
 funext j
 by_cases e:j=i
 ·rw[if_pos e,e]
 ·rw[if_neg e,h j e]
theorem e0S(x:OX L)(j:Nat):(LUs L p g).liv x j=(ab.x x).live j:=by
 show(x.th j).call.isSome=((x.th j).call.map _).isSome
 rw[Option.isSome_map]
theorem m02(ok:ab.Ok){x y:OX L}{i:Nat}(hn:(LUs L p g).nw x i)(h:(LUs L p g).bor x i y):ab.x y=(ab.x x).put i (K4 m (p.ops i) (ab.x x).q ((ab.x x).th i)):=by
 refine i08 ?_ h.2
 have h1:=i0n ok h.1 hn.1
 have h2:(x.th i).k=0:=hn.2
 rw[show(x.s,x.th i).2.k=0 from h2,List.drop_zero]at h1
 exact h1
theorem e0j(ok:ab.Ok)(zok:(LUs L p g).Ok g):∀(i:Nat) (x y:OX L),(∀j,j<i→(LUs L p g).nw x j)→d0h (LUs L p g) i x y→ab.x y=N6 m p.ops i (ab.x x)
 | 0,x,y,_,h=>by
   have h:y=x:=h
   rw[h];rfl
 | i+1,x,z,hn,⟨y,h1,h2⟩=>by
   have e:=e0j ok zok i x y (fun j hj=>hn j (by omega)) h1
   have hny:(LUs L p g).nw y i:=e0k zok i x y h1 i (Nat.le_refl i) (hn i (by omega))
   simp only[N6]
   rw[← e]
   exact m02 ok hny h2
theorem o0g(ok:ab.Ok){n M:Nat}{s t:OX L×List Nat}{i:Int}(h:d0T (LUs L p g) n M s i t):(ab.x t.1,t.2)=V7 p.ops n M (ab.x s.1,s.2) i:=by
 unfold d0T at h
 unfold V7
 simp only[← e0S (ab:=ab) (p:=p) (g:=g)]
 split at h
 ·rename_i hc
  rw[if_pos hc]
  obtain⟨h1,h2⟩:=h
  refine Prod.ext ?_ h2
  exact i08 (r0f ok h1.1) h1.2
 ·rename_i hc
  rw[if_neg hc,h]
theorem c0j(ok:ab.Ok){n M:Nat}:∀(l:List Int) (s t:OX L×List Nat),Q6 (LUs L p g) n M l s t→(ab.x t.1,t.2)=U4 p.ops n M l (ab.x s.1,s.2)
 | [],s,t,h=>by
   have h:t=s:=h
   rw[h];rfl
 | i::l,s,t,⟨u,h1,h2⟩=>by
   simp only[U4]
   rw[← o0g ok h1]
   exact c0j ok l u t h2
theorem j0f{Z:C4}{ops:Nat→List P3}{n M:Nat}(ab:Z.X→GS m)(hl:∀x j,Z.liv x j=(ab x).live j)(ht:∀l s t,Q6 Z n M l s t→(ab t.1,t.2)=U4 ops n M l (ab s.1,s.2)){s t:Z.X×List Nat}(h:b0Q Z n M s t):U9 n M (ab t.1,t.2)∧∃k,∀f,k≤f→Z3 ops n M f (ab s.1,s.2)=(ab t.1,t.2):=by
 have hc:∀x,L5 (Z.liv x) n=L5 (ab x).live n:=fun x=>b0e fun j _=>hl x j
 induction h with
 | done h=>
   rw[hc]at h
   have h:U9 n M (ab _,_):=h
   exact⟨h,0,fun f _=>a8 h f⟩
 | more h1 h2 h3 _ ih=>
   obtain⟨hd,k,hk⟩:=ih
   refine⟨hd,k+1,fun f hf=>?_⟩
   obtain⟨f,rfl⟩:∃e,f=e+1:=⟨f - 1,by omega⟩
   rw[hc]at h1
   simp only[Z3]
   rw[if_neg (fun h=>h.elim (fun h=>by simp only at h;omega) fun h=>by simp only at h;omega),← ht _ _ _ h3]
   exact hk f (by omega)
theorem j0e(ok:ab.Ok){n M:Nat}{s t:OX L×List Nat}(h:b0Q (LUs L p g) n M s t):U9 n M (ab.x t.1,t.2)∧∃k,∀f,k≤f→Z3 p.ops n M f (ab.x s.1,s.2)=(ab.x t.1,t.2):=
 j0f (Z:=LUs L p g) ab.x e0S (c0j ok) h
theorem n0N(ok:ab.Ok)(zok:(LUs L p g).Ok g){n M:Nat}{S:List Int}{x0:OX L}(hnw:∀j,j<n→(LUs L p g).nw x0 j){t:OX L×List Nat}(h:d0X (LUs L p g) n M S x0 t):U9 n M (ab.x t.1,t.2)∧∃k,∀f,k≤f→a0K p.ops n M S f (ab.x x0)=(ab.x t.1,t.2):=by
 obtain⟨x1,h1,s,h2,h3⟩:=h
 obtain⟨hd,k,hk⟩:=j0e ok h3
 refine⟨hd,k,fun f hf=>?_⟩
 rw[← hk f hf,c0j ok _ _ _ h2,e0j ok zok n x0 x1 hnw h1]
 rfl
end
section
structure V0 where
 n:Nat
 ws:List (BitVec 64)
structure p9 where
 kd:Nat
 ph:Nat
 i:Nat
 w:Nat
 old:BitVec 64
 out:List Int
abbrev g7:=Bool×Int×List Int
abbrev BRs:=p9 ⊕ g7
def V0.wd(s:V0)(k:Nat):BitVec 64:=s.ws.getD k 0#64
def bitI(i:Nat):BitVec 64:=1#64 <<< (i % 64)
def G4(n w:Nat)(old:BitVec 64):Option Nat:=(List.range 64).find? fun j=>decide (w*64+j<n) && !old.getLsbD j
def X3(n w:Nat)(x:BitVec 64):List Int:=((List.range 64).filter fun j=>decide (w*64+j<n) && x.getLsbD j).map fun j=>((w*64+j:Nat):Int)
def V0.begin(s:V0)(o:P3):V0×BRs:=
 if o.kd=1∨o.kd=2∨o.kd=3 then(if o.a<0∨(s.n:Int)≤o.a then(s,.inr (false,0,[]))else(s,.inl ⟨o.kd.toNat,0,o.a.toNat,o.a.toNat / 64,0#64,[]⟩))
 else if o.kd=4 then(if s.ws.length=0 then(s,.inr (false,0,[]))else(s,.inl ⟨4,0,0,0,0#64,[]⟩))
 else if o.kd=5∨o.kd=6 then(if s.ws.length=0 then(s,.inr (true,0,[]))else(s,.inl ⟨o.kd.toNat,0,0,0,0#64,[]⟩))
 else(s,.inr (false,0,[]))
def V0.one(s:V0)(c:p9):V0×BRs:=
 if c.ph=0 then
  (if c.kd=3 then(s,.inr (true,if(s.wd c.w).getLsbD (c.i % 64)=true then 1 else 0,[]))
   else if(s.wd c.w).getLsbD (c.i % 64)=decide (c.kd=1)then(s,.inr (true,0,[]))
   else(s,.inl {c with ph:=1,old:=s.wd c.w}))
 else if s.wd c.w=c.old then({s with ws:=s.ws.set c.w (c.old ^^^ bitI c.i)},.inr (true,1,[]))
 else(s,.inl {c with ph:=0})
def V0.claim(s:V0)(c:p9):V0×BRs:=
 if c.ph=0 then
  (if(G4 s.n c.w (s.wd c.w)).isSome=true then(s,.inl {c with ph:=1,old:=s.wd c.w})
   else if c.w+1=s.ws.length then(s,.inr (false,0,[]))
   else(s,.inl {c with w:=c.w+1}))
 else if s.wd c.w=c.old then({s with ws:=s.ws.set c.w (c.old ||| bitI ((G4 s.n c.w c.old).getD 0))},.inr (true,((c.w*64+(G4 s.n c.w c.old).getD 0:Nat):Int),[]))
 else(s,.inl {c with ph:=0})
def V0.look(s:V0)(c:p9):V0×BRs:=
 if c.w+1=s.ws.length then(s,.inr (if c.kd=5 then(true,((c.out++X3 s.n c.w (s.wd c.w)).length:Int),[])else(true,0,c.out++X3 s.n c.w (s.wd c.w))))
 else(s,.inl {c with w:=c.w+1,out:=c.out++X3 s.n c.w (s.wd c.w)})
def V0.step(s:V0)(c:p9):V0×BRs:=
 if c.kd=4 then s.claim c else if c.kd=5∨c.kd=6 then s.look c else s.one c
def BPl:Pl:=⟨V0,p9,g7,V0.begin,V0.step⟩
def B6(vs:List Int):Nat:=(min (max (vs.headD 0) 0) 65536).toNat
def Y8(n:Nat)(ws:List (BitVec 64))(i:Int):List (BitVec 64):=if 0≤i∧i<n then ws.set (i.toNat / 64) (ws.getD (i.toNat / 64) 0#64 ||| bitI i.toNat)else ws
def b09(vs:List Int):V0:=⟨B6 vs,vs.tail.foldl (Y8 (B6 vs)) (List.replicate ((B6 vs+63) / 64) 0#64)⟩
def V0.nums(s:V0):List Int:=(List.range s.ws.length).flatMap fun k=>X3 s.n k (s.wd k)
structure BWf(s:V0):Prop where
 l:s.ws.length=(s.n+63) / 64
 n:s.n≤65536
 hi:∀k j,s.n≤k*64+j→(s.wd k).getLsbD j=false
theorem x9(s:V0)(c:p9):(s.step c).1.ws.length=s.ws.length∧(s.step c).1.n=s.n:=by
 unfold V0.step V0.claim V0.look V0.one
 repeat' split
 all_goals simp
theorem a0l(s:V0)(o:P3):(s.begin o).1=s:=by
 unfold V0.begin
 repeat' split
 all_goals rfl
def v05:Nat→List P3:=fun i=>if i=0 then[⟨4,0,0,0⟩]else if i=1 then[⟨4,0,0,0⟩]else[]
def bs0(vs:List Int):GS BPl:=⟨b09 vs,fun _=>⟨0,none,[]⟩⟩
def awE:GS BPl×List Nat:=a0K v05 2 100 [0,1,0,1,1,1] 10 (bs0 [2])
theorem n0b:U9 2 100 awE:=by decide +kernel
theorem q0B:awE.2=[0,1,0,1,1,1]:=by decide +kernel
theorem t0u:(show List g7 from(awE.1.th 0).ans)=[(true,0,[])]:=by decide +kernel
theorem t0v:(show List g7 from(awE.1.th 1).ans)=[(true,1,[])]:=by decide +kernel
theorem t0w:V0.nums awE.1.q=[0,1]:=by decide +kernel
end
section
abbrev wV(x:BitVec 64):Value:=.int .u64 (x.toNat:Int)
theorem y0w(n:Nat):IntKind.u64.wrap (n:Int)=((BitVec.ofNat 64 n).toNat:Int):=by
 rw[IntKind.wrap_u64,BitVec.toNat_ofNat];omega
theorem f0P(x:BitVec 64):IntKind.u64.wrap (x.toNat:Int)=(x.toNat:Int):=by
 rw[IntKind.wrap_u64];have:=x.isLt;omega
theorem f0r(x:BitVec 64):BitVec.ofInt IntKind.u64.bits (x.toNat:Int)=x:=by
 show BitVec.ofInt 64 (x.toNat:Int)=x
 rw[BitVec.ofInt_natCast,BitVec.ofNat_toNat,BitVec.setWidth_eq]
theorem g02(x y:BitVec 64):bits .and .u64 (x.toNat:Int) (y.toNat:Int)=((x &&& y).toNat:Int):=by
 simp only[bits,f0r];exact f0P _
theorem l01(x y:BitVec 64):bits .or .u64 (x.toNat:Int) (y.toNat:Int)=((x ||| y).toNat:Int):=by
 simp only[bits,f0r];exact f0P _
theorem c0i(x y:BitVec 64):bits .xor .u64 (x.toNat:Int) (y.toNat:Int)=((x ^^^ y).toNat:Int):=by
 simp only[bits,f0r];exact f0P _
theorem v0y(x:BitVec 64):bits .xor .u64 18446744073709551615 (x.toNat:Int)=((~~~x).toNat:Int):=by
 have h:=c0i (BitVec.allOnes 64) x
 rw[show((BitVec.allOnes 64).toNat:Int)=18446744073709551615 by decide]at h
 rw[h]
 congr 2
theorem v0x(x:BitVec 64):IntKind.u64.wrap (0 - (x.toNat:Int))=((-x).toNat:Int):=by
 rw[IntKind.wrap_u64,BitVec.toNat_neg]
 have:=x.isLt
 omega
theorem l04(x:BitVec 64):IntKind.u64.wrap ((x.toNat:Int) - 1)=((x - 1#64).toNat:Int):=by
 rw[IntKind.wrap_u64,BitVec.toNat_sub]
 have:=x.isLt
 simp only[BitVec.toNat_ofNat]
 omega
theorem e0e(i:Nat):IntKind.u64.wrap (1*2 ^ i)=((1#64 <<< i).toNat:Int):=by
 have e:(1*2 ^ i:Int)=((2 ^ i:Nat):Int):=by push_cast;omega
 rw[e,y0w]
 congr 1
 rw[BitVec.toNat_shiftLeft,BitVec.toNat_ofNat,BitVec.toNat_ofNat,Nat.shiftLeft_eq]
 simp
theorem q0A(x:BitVec 64):bits .and .u64 (x.toNat:Int) 1=((x &&& 1#64).toNat:Int):=g02 x 1#64
theorem q0n(x:BitVec 64)(i:Nat):((x.toNat:Int) / 2 ^ i)=((x >>> i).toNat:Int):=by
 rw[BitVec.toNat_ushiftRight,Nat.shiftRight_eq_div_pow]
 norm_cast
theorem v0t(x:BitVec 64)(i:Nat):(x &&& -x).getLsbD i=(x.getLsbD i && !decide (∃j<i,x.getLsbD j=true)):=by
 rw[BitVec.getLsbD_and,BitVec.getLsbD_neg]
 by_cases hi:i<64
 ·cases x.getLsbD i<;>simp[hi]
 ·simp[BitVec.getLsbD_of_ge x i (by omega)]
theorem v0u(x:BitVec 64)(i:Nat):(x &&& (x - 1#64)).getLsbD i=(x.getLsbD i && decide (∃j<i,x.getLsbD j=true)):=by
 have e:x - 1#64= ~~~(-x):=by rw[BitVec.not_neg]
 rw[e,BitVec.getLsbD_and,BitVec.getLsbD_not,BitVec.getLsbD_neg]
 by_cases hi:i<64
 ·cases x.getLsbD i<;>simp[hi]
 ·simp[BitVec.getLsbD_of_ge x i (by omega)]
def N8(x:BitVec 64):Nat:=((List.range 64).find? fun j=>x.getLsbD j).getD 64
theorem b0t{x:BitVec 64}(h:x≠0#64):N8 x<64∧x.getLsbD (N8 x)=true∧∀j,j<N8 x→x.getLsbD j=false:=by
 have hex:∃j,j<64∧x.getLsbD j=true:=by
  apply Classical.byContradiction
  intro hn
  apply h
  apply BitVec.eq_of_getLsbD_eq
  intro i hi
  have:=mt (fun e=>(⟨i,hi,e⟩:∃j,j<64∧x.getLsbD j=true)) hn
  simpa using this
 unfold N8
 cases hf:(List.range 64).find? fun j=>x.getLsbD j with
 | none=>
   rw[List.find?_eq_none]at hf
   obtain⟨j,hj,e⟩:=hex
   exact absurd e (hf j (List.mem_range.2 hj))
 | some j=>
   rw[List.find?_range_eq_some]at hf
   simp only[Option.getD_some]
   exact⟨List.mem_range.1 hf.2.1,hf.1,fun i hi=>by simpa using hf.2.2 i hi⟩
theorem r0j{x:BitVec 64}(h:x≠0#64):x &&& -x=1#64 <<< N8 x:=by
 obtain⟨h1,h2,h3⟩:=b0t h
 apply BitVec.eq_of_getLsbD_eq
 intro i hi
 rw[v0t,BitVec.getLsbD_shiftLeft]
 by_cases e:i=N8 x
 ·subst e
  have:¬∃j<N8 x,x.getLsbD j=true:=fun⟨j,hj,e⟩=>by rw[h3 j hj]at e;cases e
  simp[h1,h2,this]
 ·by_cases l:i<N8 x
  ·simp[h3 i l,l]
  ·have:∃j<i,x.getLsbD j=true:=⟨N8 x,by omega,h2⟩
   have hne:¬(i - N8 x=0):=by omega
   simp[this,hi,l,BitVec.getLsbD_one,hne]
end
noncomputable section
variable{F:Fz}{w:World}
structure BH(lb wb n m:Nat)(w:World):Prop where
 c0:w.cell? ⟨lb,0,none⟩=some (vI (n:Nat))
 c1:w.cell? ⟨lb,1,none⟩=some (vL wb 0 m m)
 hm:m=(n+63) / 64
 hn:n≤65536
theorem BH.at{lb wb n m:Nat}{w:World}(h:BH lb wb n m w)(d:Nat):BH lb wb n m (w.at d):=⟨h.c0,h.c1,h.hm,h.hn⟩
@[go_sem] theorem v0k(a:Addr)(w:World)(es:Array Event):(binOp .eql 33 (.pointer (some a)) (.pointer none)).events Tryd.prog w es=es:=by kernel_rfl
@[go_sem] theorem t0m(w:World)(es:Array Event):(binOp .eql 33 (.pointer none) (.pointer none)).events Tryd.prog w es=es:=by kernel_rfl
@[go_sem] theorem y0I(b c:Bool)(w:World)(es:Array Event):(binOp .eql 4 (.bool b) (.bool c)).events Tryd.prog w es=es:=by
 cases b<;>cases c<;>kernel_rfl
def a0z:Code:=Tryd.f17.body.getD .skip
def w0N:=pC [] a0z
def s0V:=pC [zt] a0z
def o0q:=pC [zf] a0z
def s0Y:=pC [zt] o0q
def s0W:=pC [zf,zt,zt] a0z
def s0U:=pC [zf] s0Y
def z0m:=pC [zt] s0U
def w0O:=pC [zf] o0q
def s0X:=pC [zf,zf,zt] a0z
theorem m0x(args:Array Value):Frame.enter Tryd.prog 17 args .normal=(Go.Conc.base 17).at {tmps:=args++Array.replicate (9 - args.size) undef,defers:=[]} [.code w0N]:=enter_at args Tryd.func17 rfl
theorem Y9:O1 17:=G2 Tryd.func17 rfl rfl
theorem a0T{lb wb n m:Nat}(hs:BH lb wb n m w){c:Frame}{cs:List Frame}{main:Bool}{Stop:Goroutine→World→Prop}
 (h:J0 Tryd.prog main F Stop (G (c.finish (vI (n:Nat))) cs) w):
 J0 Tryd.prog main F Stop (G (Frame.enter Tryd.prog 17 #[vP lb 0] .normal) (c::cs)) w:=by
 have c0:=hs.c0
 rw[m0x]
 walk_nrm
 refine ogW s0V o0q ?_
 simp only[oC,s0V,pC,a0z,Tryd.f17,Option.getD_some,List.size_toArray,List.length_cons,List.length_nil,Nat.reduceAdd,Nat.zero_add,List.range,List.range.loop]
 refine oT ?_
 refine ogE<|ogV s0Y w0O<|ogW s0W s0U ?_
 simp only[oC,s0W,pC,a0z,Tryd.f17,Option.getD_some,List.size_toArray,List.length_cons,List.length_nil,Nat.reduceAdd,Nat.zero_add,List.range,List.range.loop]
 iterate 2 refine oT ?_
 refine ogE<|ogGn .skip<|ogK<|ogW s0X .ret ?_
 simp only[oC,s0X,pC,a0z,Tryd.f17,Option.getD_some,List.size_toArray,List.length_cons,List.length_nil,Nat.reduceAdd,Nat.zero_add,List.range,List.range.loop]
 iterate 3 refine oT ?_
 refine oL ?_
 refine oT ?_
 refine ogE<|ogX ?_
 refine M0 rfl (fun d=>stepG_leave (fn:=Tryd.f17) (v:=vI (n:Nat)) rfl rfl Tryd.func17 (by simp[results,Tryd.f17]) (by simp[results,Tryd.f17,go_sem])) ?_
 exact h
end
section
variable{P:Program}{main:Bool}{F:Fz}{fn:FuncId}{ops:Array Oper}{S:World→Prop}{last:Nat}{Z:Act→World→Prop}
def Callee(P:Program)(main:Bool)(F:Fz)(f:FuncId)(args:Array Value)(Post:Value→World→Prop)(w:World):Prop:=
 ∀(c:Frame) (cs:List Frame) (Stop:Goroutine→World→Prop),(∀v w',Post v w'→J0 P main F Stop (G (c.finish v) cs) w')→J0 P main F Stop (G (Frame.enter P f args .normal) (c::cs)) w
def OpC(P:Program)(main:Bool)(F:Fz)(fn:FuncId)(ops:Array Oper)(i:Nat)(K:Act→World→Prop)(a:Act)(w:World):Prop:=
 ∃o,ops[i]? =some o∧((Region.wanted o (yielded ops a.tmps)=true∧∀d,uponK o a (fun a' w'=>H7 F (w.at d) w' (listed P fn a o (w.at d))∧K a' w') ((execOp a.eval o).run P (w.at d)))∨
  (Region.wanted o (yielded ops a.tmps)=false∧K (a.put o.dst undef) w)∨
  (Region.wanted o (yielded ops a.tmps)=true∧∃f args Post,(∀w,(execOp a.eval o).run P w= .ok (.enter f args) w)∧(∀w,(execOp a.eval o).events P w #[]= #[])∧Callee P main F f args Post w∧∀v w',Post v w'→K (a.put o.dst v) w'))
def R6(P:Program)(main:Bool)(F:Fz)(fn:FuncId)(ops:Array Oper)(S:World→Prop)(last:Nat)(Z:Act→World→Prop):Nat→Array Bool→Act→World→Prop
 | 0,listed,a,w=>((∀j∈Region.ready .any ops listed,j=last)→Z a w)∧∀j∈Region.ready .any ops listed,j=last
 | fuel+1,listed,a,w=>((∀j∈Region.ready .any ops listed,j=last)→Z a w)∧∀i∈Region.ready .any ops listed,i≠last→OpC P main F fn ops i (fun a w=>S w∧R6 P main F fn ops S last Z fuel (listed.setIfInBounds i true) a w) a w
theorem i0l{i:Nat}{a:Act}{w:World}{K K':Act→World→Prop}(h:∀a w,K a w→K' a w)(hh:OpC P main F fn ops i K a w):OpC P main F fn ops i K' a w:=by
 obtain⟨o,h1,⟨h2,h3⟩|⟨h2,h3⟩|⟨h2,f,args,Post,r1,r2,r3,r4⟩⟩:=hh
 ·exact⟨o,h1,.inl ⟨h2,fun d=>f0z (fun u w ⟨x,y⟩=>⟨x,h _ _ y⟩) (h3 d)⟩⟩
 ·exact⟨o,h1,.inr (.inl ⟨h2,h _ _ h3⟩)⟩
 ·exact⟨o,h1,.inr (.inr ⟨h2,f,args,Post,r1,r2,r3,fun v w' hp=>h _ _ (r4 v w' hp)⟩)⟩
theorem w0x{i:Nat}{a:Act}{w:World}{K:Act→World→Prop}(hK:∀a w d,K a w→K a (World.at w d))(h:OpC P main F fn ops i K a w)(d:Nat):OpC P main F fn ops i K a (w.at d):=by
 obtain⟨o,h1,⟨h2,h3⟩|⟨h2,h3⟩|⟨h2,f,args,Post,r1,r2,r3,r4⟩⟩:=h
 ·exact⟨o,h1,.inl ⟨h2,fun d'=>by rw[at_at'];exact h3 d'⟩⟩
 ·exact⟨o,h1,.inr (.inl ⟨h2,hK _ _ _ h3⟩)⟩
 ·exact⟨o,h1,.inr (.inr ⟨h2,f,args,Post,r1,r2,fun c cs Stop k=>(r3 c cs Stop k).at d,r4⟩)⟩
theorem X4(hS:∀w d,S w→S (World.at w d))(hZ:∀a w d,Z a w→Z a (World.at w d)):∀(fuel:Nat) (listed:Array Bool) (a:Act) (w:World),R6 P main F fn ops S last Z fuel listed a w→∀d,R6 P main F fn ops S last Z fuel listed a (w.at d):=by
 intro fuel
 induction fuel with
 | zero=>exact fun listed a w h d=>⟨fun x=>hZ _ _ _ (h.1 x),h.2⟩
 | succ fuel ih=>exact fun listed a w h d=>⟨fun x=>hZ _ _ _ (h.1 x),fun i hi hl=>w0x (fun a w d ⟨x,y⟩=>⟨hS _ _ x,ih _ _ _ y d⟩) (h.2 i hi hl) d⟩
theorem r0T{i j:Nat}{oi oj:Oper}{v:Value}(hj:ops[j]? =some oj)(hap:oi.apart ops oj=true)(hsj:∀cs b,oj.op≠.select cs b){K:Act→World→Prop}{a:Act}{w:World}
 (h:OpC P main F fn ops j K (a.put oi.dst v) w):OpC P main F fn ops j (fun a' w'=>∃u,a'=a.put oj.dst u∧K (a'.put oi.dst v) w') a w:=by
 obtain⟨h1,h2,h3⟩:=Oper.apart_spec hap
 obtain⟨o,ho,hh⟩:=h
 rw[hj]at ho
 cases ho
 have e1:execOp (a.put oi.dst v).eval oj=execOp a.eval oj:=execOp_put oj hsj a oi.dst v h1
 have e2:=wanted_put oj a oi.dst v h1
 refine⟨oj,hj,?_⟩
 unfold listed at*
 rw[e1,e2]at hh
 rcases hh with⟨hw,hh⟩|⟨hw,hh⟩|⟨hw,f,args,Post,r1,r2,r3,r4⟩
 ·refine .inl ⟨hw,fun d=>?_⟩
  have:=hh d
  cases hr:(execOp a.eval oj).run P (w.at d)with
  | halt _ _=>rw[hr]at this;exact this
  | ok x w'=>
    rw[hr]at this
    cases x with
    | value u=>exact⟨this.1,u,rfl,by rw[← Act.put_comm a v u h2];exact this.2⟩
    | skip=>exact⟨this.1,undef,rfl,by rw[← Act.put_comm a v undef h2];exact this.2⟩
    | _=>exact this
 ·exact .inr (.inl ⟨hw,undef,rfl,by rw[← Act.put_comm a v undef h2];exact hh⟩)
 ·exact .inr (.inr ⟨hw,f,args,Post,r1,r2,r3,fun u w' hp=>⟨u,rfl,by rw[← Act.put_comm a v u h2];exact r4 u w' hp⟩⟩)
theorem j0Q(hS:∀w d,S w→S (World.at w d))(hZ:∀a w d,Z a w→Z a (World.at w d)){i:Nat}{oi:Oper}{v:Value}(hi:ops[i]? =some oi)(hil:i≠last)(hsel:∀(j:Nat) (o:Oper) cs b,ops[j]? =some o→o.op≠.select cs b):
 ∀(fuel:Nat) (listed:Array Bool) (a:Act) (w:World),S w→
  (∀j oj,ops[j]? =some oj→j≠i→listed.getD j true=false→(∀e∈oj.after,Region.binds .any e=true→e.on≠i)→oi.apart ops oj=true)→
  i∈Region.ready .any ops listed→(∀w,S w→YQ P F fn ops w oi v a)→
  R6 P main F fn ops S last Z fuel (listed.setIfInBounds i true) (a.put oi.dst v) w→R6 P main F fn ops S last Z (fuel+1) listed a w:=by
 have self:∀(fuel:Nat) (listed:Array Bool) (a:Act) (w:World),S w→(∀w,S w→YQ P F fn ops w oi v a)→R6 P main F fn ops S last Z fuel (listed.setIfInBounds i true) (a.put oi.dst v) w→
  OpC P main F fn ops i (fun a w=>S w∧R6 P main F fn ops S last Z fuel (listed.setIfInBounds i true) a w) a w:=by
  intro fuel listed a w hw hy H
  rcases hy w hw with⟨h1,h2⟩|⟨h1,rfl⟩
  ·exact⟨oi,hi,.inl ⟨h1,fun d=>by rw[(h2 d).1];exact⟨⟨⟨0,V3.refl F _⟩,(h2 d).2⟩,hS _ _ hw,X4 hS hZ _ _ _ _ H d⟩⟩⟩
  ·exact⟨oi,hi,.inr (.inl ⟨h1,hw,H⟩)⟩
 intro fuel
 induction fuel with
 | zero=>
   intro listed a w hw _ hr hy H
   refine⟨fun h=>absurd (h i hr) hil,fun j hj hjl=>?_⟩
   by_cases hji:j=i
   ·subst hji;exact self _ _ _ _ hw hy H
   ·exact absurd (H.2 j (ready_mono hj hji)) hjl
 | succ fuel ih=>
   intro listed a w hw hfree hr hy H
   refine⟨fun h=>absurd (h i hr) hil,fun j hj hjl=>?_⟩
   by_cases hji:j=i
   ·subst hji;exact self _ _ _ _ hw hy H
   ·have h1:=H.2 j (ready_mono hj hji) hjl
    obtain⟨hjun,oj,hoj,hall⟩:=mem_ready.1 hj
    have hnot:∀e∈oj.after,Region.binds .any e=true→e.on≠i:=fun e he hb heq=>by
     have h1:=hall e he hb
     have h0:=(mem_ready.1 hr).1
     rw[heq]at h1
     rcases Nat.lt_or_ge i listed.size with h'|h'
     ·simp[h']at h0 h1;rw[h0]at h1;cases h1
     ·simp[Array.getElem?_eq_none h']at h1
    have hap:=hfree j oj hoj hji hjun hnot
    obtain⟨p1,p2,p3⟩:=Oper.apart_spec hap
    have h2:=r0T (i:=i) (oi:=oi) hoj hap (fun cs b=>hsel j oj cs b hoj) h1
    have hfree':∀k ok,ops[k]? =some ok→k≠i→(listed.setIfInBounds j true).getD k true=false→
     (∀e∈ok.after,Region.binds .any e=true→e.on≠i)→oi.apart ops ok=true:=fun k ok hk hki hun hno=>by
     refine hfree k ok hk hki ?_ hno
     by_cases hjk:j=k
     ·subst hjk;exact hjun
     ·rw[getD_set_ne true hjk]at hun;exact hun
    refine i0l (fun a' w' h3=>?_) h2
    obtain⟨u,rfl,hw',h4⟩:=h3
    refine⟨hw',ih (listed.setIfInBounds j true) _ _ hw' hfree' (ready_mono hr (Ne.symm hji)) (fun w hw=>(hy w hw).of_same (execOp_put oi (fun cs b=>hsel i oi cs b hi) a oj.dst u p3) (wanted_put oi a oj.dst u p3)) ?_⟩
    rw[Array.setIfInBounds_comm _ _ hji]
    exact h4
theorem G9(hS:∀w d,S w→S (World.at w d))(hZ:∀a w d,Z a w→Z a (World.at w d)){i:Nat}{oi:Oper}{v:Value}{fuel:Nat}{listed:Array Bool}{a:Act}{w:World}(hw:S w)(hi:ops[i]? =some oi)(hil:(i != last)=true)(hs:Region.noSelect ops=true)(hf:Region.free .any ops listed i=true)
 (hr:(Region.ready .any ops listed).contains i=true) (hy:∀w,S w→YQ P F fn ops w oi v a) (h:R6 P main F fn ops S last Z fuel (listed.setIfInBounds i true) (a.put oi.dst v) w):R6 P main F fn ops S last Z (fuel+1) listed a w:=
 j0Q hS hZ hi (by simpa using hil) (Region.noSelect_spec hs) fuel listed a w hw (Region.free_spec hi hf) (by simpa using hr) hy h
theorem F9{listed:Array Bool}{a:Act}{w:World}(hr:Region.ready .any ops listed=[last])(h:Z a w):∀fuel,R6 P main F fn ops S last Z fuel listed a w
 | 0=>⟨fun _=>h,by rw[hr];simp⟩
 | _+1=>⟨fun _=>h,fun i hi hne=>absurd (by rw[hr]at hi;simpa using hi) hne⟩
theorem s0N{Stop:Goroutine→World→Prop}{b:Frame}{a:Act}{w:World}{k:List Item}{cs:List Frame}{i:Nat}{rest:List Nat}(hk:b.kind≠.early)
 (h:OpC P main F b.fn ops i (fun a w=>J0 P main F Stop (G (b.at a (.inRegion ops rest::k)) cs) w) a w):J0 P main F Stop (G (b.at a (.inRegion ops (i::rest)::k)) cs) w:=by
 obtain⟨o,ho,⟨hw,hh⟩|⟨hw,hh⟩|⟨hw,f,args,Post,r1,r2,r3,r4⟩⟩:=h
 ·refine .step rfl fun d=>?_
  have:=hh d
  cases hr:(execOp a.eval o).run P (w.at d)with
  | halt _ _=>rw[hr]at this;exact this.elim
  | ok x w'=>
    rw[hr]at this
    cases x with
    | value u=>exact⟨_,_,_,stepG_value ho hw hk hr,this.1,this.2⟩
    | skip=>exact⟨_,_,_,stepG_none ho hw hk hr,this.1,this.2⟩
    | _=>exact this.elim
 ·exact .step rfl fun d=>⟨_,_,#[],stepG_unwanted ho hw,⟨⟨0,V3.refl F _⟩,by simp⟩,hh.at d⟩
 ·refine Y7 ho hw hk r1 r2 (r3 _ _ _ fun v w' hp=>?_)
  have hfin:(b.at a (.inRegion ops (i::rest)::k)).finish v=b.at (a.put o.dst v) (.inRegion ops rest::k):=by rw[Frame.finish_at,ho];rfl
  rw[hfin]
  exact r4 v w' hp
theorem j0R(L:LL ops last){Stop:Goroutine→World→Prop}{b:Frame}{k:List Item}{cs:List Frame}(hk:b.kind≠.early):
 ∀(fuel t:Nat) (listed:Array Bool) (a:Act) (w:World),listed.size=ops.size→g0L ops listed→listed.getD last true=false→
  R6 P main F b.fn ops S last (fun a w=>J0 P main F Stop (G (b.at a (.inRegion ops [last]::k)) cs) w) fuel listed a w→
  J0 P main F Stop (G (b.at a (.inRegion ops (Region.linearise.go .any ops (fuel+1) t listed [])::k)) cs) w:=by
 intro fuel
 induction fuel with
 | zero=>?_
 | succ fuel ih=>?_
 all_goals
  intro t listed a w hs hc hl H
  obtain⟨i0,hi0⟩:=c0d L hs last hl
  have hlen:0<(Region.ready .any ops listed).length:=List.length_pos_of_mem hi0
  obtain⟨i,hi⟩:∃i,(Region.ready .any ops listed)[t % (Region.ready .any ops listed).length]? =some i:=⟨_,List.getElem?_eq_getElem (Nat.mod_lt _ hlen)⟩
  have hmem:=List.mem_of_getElem? hi
  rw[Region.linearise.go]
  change J0 P main F Stop (G (b.at a (.inRegion ops (match(Region.ready .any ops listed)[t % (Region.ready .any ops listed).length]? with
   | some i=>Region.linearise.go .any ops _ (t / (Region.ready .any ops listed).length) (listed.setIfInBounds i true) [i]
   | none=>[].reverse)::k)) cs) w
  rw[hi]
  simp only[]
  rw[linearise_go_acc,List.reverse_singleton,List.singleton_append]
 ·obtain rfl:=H.2 i hmem
  simp only[Region.linearise.go,List.reverse_nil]
  exact H.1 H.2
 ·by_cases hil:i=last
  ·subst hil
   have hall:=b0R L hs hc hmem i
   have hre:∀j∈Region.ready .any ops listed,j=i:=by
    intro j hj
    obtain⟨h0,o,ho,_⟩:=mem_ready.1 hj
    have hlt:=(Q3 ho)
    have hsz:=L.size
    rcases Nat.lt_or_ge j i with h|h
    ·have:=hall j (by omega) h
     rw[Q7 (by omega),this]at h0;cases h0
    ·omega
   have hnil:Region.ready .any ops (listed.setIfInBounds i true)=[]:=by
    apply List.eq_nil_iff_forall_not_mem.2
    intro j hj
    obtain⟨h0,o,ho,_⟩:=mem_ready.1 hj
    have hlt:=(Q3 ho)
    have hsz:=L.size
    by_cases e:i=j
    ·subst e
     rw[Q7 (by simp;omega)]at h0
     have:i<listed.size:=by omega
     simp[this]at h0
    ·rw[getD_set_ne true e,Q7 (by omega),hall j (by omega) (by omega)]at h0;cases h0
   have:Region.linearise.go .any ops (fuel+1) (t / (Region.ready .any ops listed).length) (listed.setIfInBounds i true) []=[]:=by
    rw[Region.linearise.go]
    change(match(Region.ready .any ops (listed.setIfInBounds i true))[(t / (Region.ready .any ops listed).length) % (Region.ready .any ops (listed.setIfInBounds i true)).length]? with
     | some i=>_
     | none=>[].reverse)=[]
    rw[hnil];rfl
   rw[this]
   exact H.1 hre
  ·refine s0N hk (i0l (fun a' w' ⟨_,hK⟩=>ih _ _ _ _ (by simpa using hs) (fun j o' hj hlj e he hb=>?_) (by rw[getD_set_ne true hil];exact hl) hK) (H.2 i hmem hil))
   by_cases e2:i=j
   ·subst e2
    obtain⟨_,o2,ho2,hd⟩:=mem_ready.1 hmem
    rw[hj]at ho2
    cases ho2
    exact getD_set_true (hd e he hb)
   ·rw[getD_set_ne false e2]at hlj
    exact getD_set_true (hc j o' hj hlj e he hb)
theorem T8(S:World→Prop)(hm:P.follows .mixedOrders=true)(L:LL ops last){id:Nat}{Stop:Goroutine→World→Prop}{b:Frame}{a:Act}{w:World}{k:List Item}{cs:List Frame}(hk:b.kind≠.early)
 (h:R6 P main F b.fn ops S last (fun a w=>J0 P main F Stop (G (b.at a (.inRegion ops [last]::k)) cs) w) last (Array.replicate ops.size false) a w):
 J0 P main F Stop (G (b.at a (.code (.region id ops true)::k)) cs) w:=by
 refine .step rfl fun d=>⟨_,_,_,stepG_region_draw,⟨⟨1,?_⟩,by simp⟩,?_⟩
 ·exact⟨rfl,rfl,rfl,rfl,Nat.le_refl _,fun _ _ h=>.inr h,fun _ _=>rfl⟩
 ·have hs:=L.size
  have:=j0R (S:=S) (cs:=cs) (k:=k) L hk last ((w.at d).tape (w.at d).drawn (.order b.fn id)) (Array.replicate ops.size false) a w (by simp) (fun j o _ hl=>by
   simp at hl
   rcases Nat.lt_or_ge j ops.size with h1|h1<;>simp[h1]at hl) (by simp[hs]) h
  rw[← hs]at this
  simp only[Region.schedule,hm,Bool.true_or,if_true]
  exact this.at (d+1)
section
variable {fuel : Nat} {listed : Array Bool} {a : Act} {w : World} {oi : Oper}
theorem tkC (i : Nat) (v : Value) (hS : ∀ w d, S w → S (World.at w d)) (hw : S w) (h : R6 P main F fn ops S last Z fuel (listed.setIfInBounds i true) (a.put oi.dst v) w) (hZ : ∀ a w d, Z a w → Z a (World.at w d) := by exact fun _ _ d h => h.at d) (hi : ops[i]? = some oi := by exact rfl) (hil : (i != last) = true := by exact rfl) (hs : Region.noSelect ops = true := by kernel_rfl) (hf : Region.free .any ops listed i = true := by kernel_rfl) (hr : (Region.ready .any ops listed).contains i = true := by kernel_rfl) (hy : ∀ w, S w → YQ P F fn ops w oi v a := by exact fun u hu => .inl ⟨rfl, fun d => ⟨by simp [go_sem, execOp, Act.eval], fun e he => by have hm := mem_listed he; simp [go_sem, execOp, Act.eval] at hm⟩⟩) : R6 P main F fn ops S last Z (fuel + 1) listed a w := G9 hS hZ hw hi hil hs hf hr hy h
theorem t09 {Q : World → Prop} (i : Nat) (v : Value) (f : ∀ u, S u → Q u) (hS : ∀ w d, S w → S (World.at w d)) (hw : S w) (h : R6 P main F fn ops S last Z fuel (listed.setIfInBounds i true) (a.put oi.dst v) w) (hZ : ∀ a w d, Z a w → Z a (World.at w d) := by exact fun _ _ d h => h.at d) (hi : ops[i]? = some oi := by exact rfl) (hil : (i != last) = true := by exact rfl) (hs : Region.noSelect ops = true := by kernel_rfl) (hf : Region.free .any ops listed i = true := by kernel_rfl) (hr : (Region.ready .any ops listed).contains i = true := by kernel_rfl) (hy : (∀ u, S u → Q u) → ∀ w, S w → YQ P F fn ops w oi v a := by intro f0; exact fun u hu => (fun f => .inl ⟨rfl, fun d => ⟨by simp [go_sem, execOp, Act.eval, f], fun e he => by have hm := mem_listed he; simp [go_sem, execOp, Act.eval, f] at hm⟩⟩) (f0 u hu)) : R6 P main F fn ops S last Z (fuel + 1) listed a w := G9 hS hZ hw hi hil hs hf hr (hy f) h
theorem V9 {Q : World → Prop} (i : Nat) (v : Value) (f : ∀ u, S u → Q u) (hS : ∀ w d, S w → S (World.at w d)) (hw : S w) (h : R6 P main F fn ops S last Z fuel (listed.setIfInBounds i true) (a.put oi.dst v) w) (hZ : ∀ a w d, Z a w → Z a (World.at w d) := by exact fun _ _ d h => h.at d) (hi : ops[i]? = some oi := by exact rfl) (hil : (i != last) = true := by exact rfl) (hs : Region.noSelect ops = true := by kernel_rfl) (hf : Region.free .any ops listed i = true := by kernel_rfl) (hr : (Region.ready .any ops listed).contains i = true := by kernel_rfl) (hy : (∀ u, S u → Q u) → ∀ w, S w → YQ P F fn ops w oi v a := by intro f0; exact fun u hu => (fun f => .inl ⟨rfl, fun d => ⟨by simp [go_sem, execOp, Act.eval, f], fun e he => by have hm := mem_listed he; simp [go_sem, execOp, Act.eval, f] at hm; first | (subst hm; exact I1 _ _) | (rcases hm with rfl | rfl | rfl <;> exact I1 _ _) | (rcases hm with rfl | rfl | rfl | rfl <;> exact I1 _ _)⟩⟩) (f0 u hu)) : R6 P main F fn ops S last Z (fuel + 1) listed a w := G9 hS hZ hw hi hil hs hf hr (hy f) h
end
end
noncomputable section
variable {cs:List Frame}{main:Bool}{Stop:Goroutine→World→Prop}
variable{F:Fz}{w:World}
def X2:Code:=Tryd.f47.body.getD .skip
def r0Z:=pC [] X2
def d0l:=pC [zt] X2
def f08:=pC [zf] X2
def h0H:=pC [zt] f08
def d0m:=pC [zf,zt,zt] X2
def e0v:=pC [zf] h0H
def n0h:=pC [zt] e0v
def f06:=pC [zf,zt,zf,zt,zt] X2
def k0w:=pC [zf] f08
def k0l:=pC [zf,zf,zt] X2
def n0d:=pC [zf] k0w
def n0f:=pC [zt] n0d
def b0a:=pC [zt] n0f
def r00:=pC [zt] b0a
def b0m:=pC [zf,zf,zf,zt,zt,zt,zt] X2
def d0A:=pC [zf] r00
def k0q:=pC [zf,zf,zf,zt,zt,zt,zf,zt] X2
def k0x:=pC [zf] d0A
def n0i:=pC [zt] k0x
def k0s:=pC [zf,zf,zf,zt,zt,zt,zf,zf,zt,zt] X2
def i0x:=pC [zf] n0i
def t0S:=pC [zt] i0x
def r0W:=pC [zf,zf,zf,zt,zt,zt,zf,zf,zt,zf,zt,zt] X2
def i0z:=pC [zf] k0x
def d0n:=pC [zf,zf,zf,zt,zt,zt,zf,zf,zf,zt] X2
def c0S:=pC [zf] i0z
def k0u:=pC [zf,zf,zf,zt,zt,zt,zf,zf,zf,zf,zt] X2
def i0y:=pC [zf] c0S
def t0T:=pC [zt] i0y
def n0g:=pC [zf,zf,zf,zt,zt,zt,zf,zf,zf,zf,zf,zt,zt] X2
theorem t0Q:r0Z= .seq d0l f08:=by kernel_rfl
theorem t0M:d0l= .region 0 (oC d0l) false:=by kernel_rfl
theorem t0R:f08= .seq h0H k0w:=by kernel_rfl
theorem t0U:h0H= .seq d0m e0v:=by kernel_rfl
theorem t0N:d0m= .region 1 (oC d0m) false:=by kernel_rfl
theorem q0H:e0v= .cond (.tmp 20) n0h .skip:=by kernel_rfl
theorem t0V:n0h= .seq f06 .ret:=by kernel_rfl
theorem t0O:f06= .region 2 (oC f06) false:=by kernel_rfl
theorem t0P:k0l= .region 3 (oC k0l) true:=by kernel_rfl
theorem t0K:n0d= .block 0 n0f:=by kernel_rfl
theorem t0L:n0f= .loop b0a:=by kernel_rfl
theorem n0e:b0a= .block 1 r00:=by kernel_rfl
theorem c07(args:Array Value):Frame.enter Tryd.prog 47 args .normal=(Go.Conc.base 47).at {tmps:=args++Array.replicate (49 - args.size) undef,defers:=[]} [.code r0Z]:=enter_at args Tryd.func47 rfl
theorem j03:O1 47:=G2 Tryd.func47 rfl rfl
def h0g(s:Nat→Value):Array Value:= #[s 0,s 1,s 2,s 3,s 4,s 5,s 6,s 7,s 8,s 9,s 10,s 11,s 12,s 13,s 14,s 15,s 16,s 17,s 18,s 19,s 20,s 21,s 22,s 23,s 24,s 25,s 26,s 27,s 28,s 29,s 30,s 31,s 32,s 33,s 34,s 35,s 36,s 37,s 38,s 39,s 40,s 41,s 42,s 43,s 44,s 45,s 46,s 47,s 48]
theorem y0x{A:Array Value}(h:A.size=49):∃s,A=h0g s:=by
 obtain⟨s,hs,_⟩:=Y4 A h
 exact⟨s,hs⟩
theorem o03{lb:Nat}{sv:Value}{inn:Bool}{i:Int}(hi:i<0){c:Frame}
 (h:J0 Tryd.prog main F Stop (G (c.finish (.tuple #[.bool false,.int .i64 1])) cs) w):
 J0 Tryd.prog main F Stop (G (Frame.enter Tryd.prog 47 #[.pointer (some ⟨lb,0,none⟩),sv,.int .i64 i,.bool inn] .normal) (c::cs)) w:=by
 have e0:decide (i<0)=true:=decide_eq_true hi
 rw[c07]
 walk_nrm
 refine ogSR t0Q t0M ?_
 simp only[oC,d0l,pC,X2,Tryd.f47,Option.getD_some,List.size_toArray,List.length_cons,List.length_nil,Nat.reduceAdd,Nat.zero_add,List.range,List.range.loop]
 iterate 2 (refine oW fun dd K hK=>?_;go_simp;refine qT hK ?_;clear hK K)
 refine ogE ?_
 refine F0v t0R ?_
 refine ogSR t0U t0N ?_
 simp only[oC,d0m,pC,X2,Tryd.f47,Option.getD_some,List.size_toArray,List.length_cons,List.length_nil,Nat.reduceAdd,Nat.zero_add,List.range,List.range.loop]
 iterate 3 (refine oW fun dd K hK=>?_;go_simp;refine qT hK ?_;clear hK K)
 iterate 4 refine ogU rfl rfl ?_
 (refine oW fun dd K hK=>?_;go_simp;refine qT hK ?_;clear hK K)
 refine ogE ?_
 rw[q0H]
 refine ogT ?_
 simp only[if_true]
 refine ogSR t0V t0O ?_
 simp only[oC,f06,pC,X2,Tryd.f47,Option.getD_some,List.size_toArray,List.length_cons,List.length_nil,Nat.reduceAdd,Nat.zero_add,List.range,List.range.loop]
 iterate 2 (refine oW fun dd K hK=>?_;go_simp;refine qT hK ?_;clear hK K)
 refine ogE ?_
 refine ogX ?_
 refine M0 rfl (fun d=>stepG_leave (fn:=Tryd.f47) (v:=.tuple #[.bool false,.int .i64 1]) rfl rfl Tryd.func47 (by simp[results,Tryd.f47]) (by simp[results,Tryd.f47,go_sem])) ?_
 exact h
theorem o02{lb wb n m:Nat}{sv:Value}{inn:Bool}{i:Int}(hs:BH lb wb n m w)(h0:¬i<0)(hi:(n:Int)≤i){c:Frame}
 (h:J0 Tryd.prog main F Stop (G (c.finish (.tuple #[.bool false,vI 1])) cs) w):
 J0 Tryd.prog main F Stop (G (Frame.enter Tryd.prog 47 #[vP lb 0,sv,vI i,.bool inn] .normal) (c::cs)) w:=by
 have e0:decide (i<0)=false:=decide_eq_false h0
 have e1:decide ((n:Int)≤i)=true:=decide_eq_true hi
 rw[c07]
 walk_nrm
 refine ogW d0l f08 ?_
 simp only[oC,d0l,pC,X2,Tryd.f47,Option.getD_some,List.size_toArray,List.length_cons,List.length_nil,Nat.reduceAdd,Nat.zero_add,List.range,List.range.loop]
 iterate 2 refine oT ?_
 refine ogE<|ogV h0H k0w<|ogW d0m e0v ?_
 simp only[oC,d0m,pC,X2,Tryd.f47,Option.getD_some,List.size_toArray,List.length_cons,List.length_nil,Nat.reduceAdd,Nat.zero_add,List.range,List.range.loop]
 iterate 5 refine oT ?_
 refine oc Y9 #[vP lb 0] ?_
 refine a0T hs ?_
 rw[Frame.finish_at]
 walk_nrm
 iterate 2 refine oT ?_
 refine ogE<|ogYn n0h<|ogW f06 .ret ?_
 simp only[oC,f06,pC,X2,Tryd.f47,Option.getD_some,List.size_toArray,List.length_cons,List.length_nil,Nat.reduceAdd,Nat.zero_add,List.range,List.range.loop]
 iterate 2 refine oT ?_
 refine ogE<|ogX ?_
 refine M0 rfl (fun d=>stepG_leave (fn:=Tryd.f47) (v:=.tuple #[.bool false,vI 1]) rfl rfl Tryd.func47 (by simp[results,Tryd.f47]) (by simp[results,Tryd.f47,go_sem])) ?_
 exact h
theorem u0I{lb wb n m:Nat}{sv:Value}{inn:Bool}{i:Nat}(hs:BH lb wb n m w)(hi:i<n)
 (h:∀A,G0 49 A [(1,sv),(3,.bool inn),(10,vP wb (i / 64)),(11,wV (bitI i))]→J0 Tryd.prog main F Stop (G (Frame.enter Tryd.prog 48 #[sv] .normal) ((bA 47 A [.inRegion (oC b0m) [1],.code d0A,.inBlock 1,.inLoop b0a,.inBlock 0])::cs)) w):
 J0 Tryd.prog main F Stop (G (Frame.enter Tryd.prog 47 #[vP lb 0,sv,vI (i:Nat),.bool inn] .normal) cs) w:=by
 have hS:∀w d,BH lb wb n m w→BH lb wb n m (World.at w d):=fun w d h=>h.at d
 have hn:=hs.hn
 have e0:decide ((i:Int)<0)=false:=decide_eq_false (by omega)
 have e1:decide (n≤i)=false:=decide_eq_false (by omega)
 have hq:IntKind.i64.wrap ((i:Int) / 64)=(i:Int) / 64:=IntWalk.i64_in _ (by omega)
 have hd:0≤(i:Int) / 64∧(i:Int) / 64<(m:Int):=by have:=hs.hm;omega
 have ht:((i:Int) / 64).toNat=i / 64:=by omega
 have hm:(i:Int).tmod 64=(i:Int) % 64:=Int.tmod_eq_emod_of_nonneg (by omega)
 have hsh:IntKind.u64.wrap (2 ^ ((i:Int) % 64).toNat)=((bitI i).toNat:Int):=by
  have e:((i:Int) % 64).toNat=i % 64:=by omega
  have h:=e0e (i % 64)
  rw[Int.one_mul]at h
  rw[e]
  exact h
 rw[c07]
 walk_nrm
 refine ogW d0l f08 ?_
 simp only[oC,d0l,pC,X2,Tryd.f47,Option.getD_some,List.size_toArray,List.length_cons,List.length_nil,Nat.reduceAdd,Nat.zero_add,List.range,List.range.loop]
 iterate 2 refine oT ?_
 refine ogE<|ogV h0H k0w<|ogW d0m e0v ?_
 simp only[oC,d0m,pC,X2,Tryd.f47,Option.getD_some,List.size_toArray,List.length_cons,List.length_nil,Nat.reduceAdd,Nat.zero_add,List.range,List.range.loop]
 iterate 5 refine oT ?_
 refine oc Y9 #[vP lb 0] ?_
 refine a0T hs ?_
 rw[Frame.finish_at]
 walk_nrm
 iterate 2 refine oT ?_
 refine ogE<|ogGn .skip<|ogK<|ogV k0l n0d ?_
 rw[t0P]
 refine T8 (BH lb wb n m) (last:=11) S3 (z8 (by kernel_rfl)) (by decide) ?_
 simp only[oC,k0l,pC,X2,Tryd.f47,Option.getD_some,List.size_toArray,List.length_cons,List.length_nil,Nat.reduceAdd,Nat.zero_add,List.range,List.range.loop]
 refine tkC 0 (vP lb 0) hS hs ?_
 walk_nrm
 refine tkC 1 (vP lb 0) hS hs ?_
 walk_nrm
 refine tkC 2 (vP lb 1) hS hs ?_
 walk_nrm
 refine V9 3 (vL wb 0 m m) (fun u hu=>hu.c1) hS hs ?_
 walk_nrm
 refine tkC 4 (vI (i:Nat)) hS hs ?_
 walk_nrm
 refine t09 5 (vI ((i / 64:Nat):Int)) (fun u hu=>hq) hS hs ?_
 walk_nrm
 refine t09 6 (vP wb (i / 64)) (fun u hu=>(And.intro hd ht)) hS hs ?_
 walk_nrm
 refine tkC 10 (vP wb (i / 64)) hS hs ?_
 walk_nrm
 refine tkC 7 (vI (i:Nat)) hS hs ?_
 walk_nrm
 refine t09 8 (vI ((i % 64:Nat):Int)) (fun u hu=>hm) hS hs ?_
 walk_nrm
 refine t09 9 (wV (bitI i)) (fun u hu=>hsh) hS hs ?_
 walk_nrm
 refine F9 (by kernel_rfl) ?_ _
 refine oT ?_
 refine ogE ?_
 rw[t0K]
 refine L7 ?_
 rw[t0L]
 refine ogP ?_
 rw[n0e]
 refine L7<|ogW b0m d0A ?_
 simp only[oC,b0m,pC,X2,Tryd.f47,Option.getD_some,List.size_toArray,List.length_cons,List.length_nil,Nat.reduceAdd,Nat.zero_add,List.range,List.range.loop]
 refine oT ?_
 refine oc j04 #[sv] ?_
 refine h _ ?_
 exact⟨rfl,rfl,rfl,rfl,rfl,trivial⟩
theorem o0O{wb i:Nat}{sv:Value}{inn b:Bool}{x:BitVec 64}(hc:w.cell? ⟨wb,i / 64,none⟩=some (wV x))(hx:(bits .and .u64 (x.toNat:Int) ((bitI i).toNat:Int) != 0)=b)(hb:(b == inn)=true){A:Array Value}(hA:G0 49 A [(1,sv),(3,.bool inn),(10,vP wb (i / 64)),(11,wV (bitI i))]){c:Frame}
 (h:J0 Tryd.prog main F Stop (G (c.finish (.tuple #[.bool false,vI 0])) cs) w):
 J0 Tryd.prog main F Stop (G ((bA 47 A [.inRegion (oC b0m) [1],.code d0A,.inBlock 1,.inLoop b0a,.inBlock 0]).finish (.tuple #[])) (c::cs)) w:=by
 obtain⟨s,rfl,h1,h3,h10,h11,_⟩:=Y3 h0g hA
 simp only[h0g,h1,h3,h10,h11]
 clear h1 h3 h10 h11
 rw[Frame.finish_at]
 simp only[oC,b0m,pC,X2,Tryd.f47,Option.getD_some,List.size_toArray,List.length_cons,List.length_nil,Nat.reduceAdd,Nat.zero_add,List.range,List.range.loop]
 walk_nrm
 refine ogE<|ogW k0q k0x ?_
 simp only[oC,k0q,pC,X2,Tryd.f47,Option.getD_some,List.size_toArray,List.length_cons,List.length_nil,Nat.reduceAdd,Nat.zero_add,List.range,List.range.loop]
 refine oT ?_
 refine oc j05 #[vP wb (i / 64)] ?_
 refine a07 hc rfl ?_
 rw[Frame.finish_at]
 walk_nrm
 refine oT ?_
 refine ogE<|ogV n0i i0z<|ogW k0s i0x ?_
 simp only[oC,k0s,pC,X2,Tryd.f47,Option.getD_some,List.size_toArray,List.length_cons,List.length_nil,Nat.reduceAdd,Nat.zero_add,List.range,List.range.loop]
 iterate 6 refine oT ?_
 refine ogE<|ogYn t0S<|ogW r0W .ret ?_
 simp only[oC,r0W,pC,X2,Tryd.f47,Option.getD_some,List.size_toArray,List.length_cons,List.length_nil,Nat.reduceAdd,Nat.zero_add,List.range,List.range.loop]
 iterate 2 refine oT ?_
 refine ogE<|ogX ?_
 refine M0 rfl (fun d=>stepG_leave (fn:=Tryd.f47) (v:=.tuple #[.bool false,vI 0]) rfl rfl Tryd.func47 (by simp[results,Tryd.f47]) (by simp[results,Tryd.f47,go_sem])) ?_
 exact h
theorem o0P{wb i:Nat}{sv:Value}{inn b:Bool}{x:BitVec 64}(hc:w.cell? ⟨wb,i / 64,none⟩=some (wV x))(hx:(bits .and .u64 (x.toNat:Int) ((bitI i).toNat:Int) != 0)=b)(hb:(b == inn)=false){A:Array Value}(hA:G0 49 A [(1,sv),(3,.bool inn),(10,vP wb (i / 64)),(11,wV (bitI i))])
 (h:∀A,G0 49 A [(1,sv),(3,.bool inn),(10,vP wb (i / 64)),(11,wV (bitI i)),(12,wV x)]→J0 Tryd.prog main F Stop (G (Frame.enter Tryd.prog 48 #[sv] .normal) ((bA 47 A [.inRegion (oC d0n) [1],.code c0S,.inBlock 1,.inLoop b0a,.inBlock 0])::cs)) w):
 J0 Tryd.prog main F Stop (G ((bA 47 A [.inRegion (oC b0m) [1],.code d0A,.inBlock 1,.inLoop b0a,.inBlock 0]).finish (.tuple #[])) (cs)) w:=by
 obtain⟨s,rfl,h1,h3,h10,h11,_⟩:=Y3 h0g hA
 simp only[h0g,h1,h3,h10,h11]
 clear h1 h3 h10 h11
 rw[Frame.finish_at]
 simp only[oC,b0m,pC,X2,Tryd.f47,Option.getD_some,List.size_toArray,List.length_cons,List.length_nil,Nat.reduceAdd,Nat.zero_add,List.range,List.range.loop]
 walk_nrm
 refine ogE<|ogW k0q k0x ?_
 simp only[oC,k0q,pC,X2,Tryd.f47,Option.getD_some,List.size_toArray,List.length_cons,List.length_nil,Nat.reduceAdd,Nat.zero_add,List.range,List.range.loop]
 refine oT ?_
 refine oc j05 #[vP wb (i / 64)] ?_
 refine a07 hc rfl ?_
 rw[Frame.finish_at]
 walk_nrm
 refine oT ?_
 refine ogE<|ogV n0i i0z<|ogW k0s i0x ?_
 simp only[oC,k0s,pC,X2,Tryd.f47,Option.getD_some,List.size_toArray,List.length_cons,List.length_nil,Nat.reduceAdd,Nat.zero_add,List.range,List.range.loop]
 iterate 6 refine oT ?_
 refine ogE<|ogGn .skip<|ogK<|ogW d0n c0S ?_
 simp only[oC,d0n,pC,X2,Tryd.f47,Option.getD_some,List.size_toArray,List.length_cons,List.length_nil,Nat.reduceAdd,Nat.zero_add,List.range,List.range.loop]
 refine oT ?_
 refine oc j04 #[sv] ?_
 refine h _ ?_
 exact⟨rfl,rfl,rfl,rfl,rfl,rfl,trivial⟩
theorem o0S{wb i:Nat}{sv:Value}{inn:Bool}{x y z:BitVec 64}(hxor:bits .xor .u64 (x.toNat:Int) ((bitI i).toNat:Int)=(z.toNat:Int))(hq:((y.toNat:Int) == (x.toNat:Int))=true)(hc:w.cell? ⟨wb,i / 64,none⟩=some (wV y))(hz:w.frozen? ⟨wb,i / 64,none⟩=false)(hnh:¬held F ⟨wb,i / 64,none⟩){A:Array Value}(hA:G0 49 A [(1,sv),(3,.bool inn),(10,vP wb (i / 64)),(11,wV (bitI i)),(12,wV x)]){c:Frame}
 (h:J0 Tryd.prog main F Stop (G (c.finish (.tuple #[.bool true,vI 0])) cs) (w.setCell ⟨wb,i / 64,none⟩ (wV z))):
 J0 Tryd.prog main F Stop (G ((bA 47 A [.inRegion (oC d0n) [1],.code c0S,.inBlock 1,.inLoop b0a,.inBlock 0]).finish (.tuple #[])) (c::cs)) w:=by
 obtain⟨s,rfl,h1,h3,h10,h11,h12,_⟩:=Y3 h0g hA
 simp only[h0g,h1,h3,h10,h11,h12]
 clear h1 h3 h10 h11 h12
 rw[Frame.finish_at]
 simp only[oC,d0n,pC,X2,Tryd.f47,Option.getD_some,List.size_toArray,List.length_cons,List.length_nil,Nat.reduceAdd,Nat.zero_add,List.range,List.range.loop]
 walk_nrm
 refine ogE<|ogW k0u i0y ?_
 simp only[oC,k0u,pC,X2,Tryd.f47,Option.getD_some,List.size_toArray,List.length_cons,List.length_nil,Nat.reduceAdd,Nat.zero_add,List.range,List.range.loop]
 iterate 5 refine oT ?_
 refine oc L3 #[vP wb (i / 64),wV x,wV z] ?_
 refine c0J (t:=true) hq hc rfl hz hnh ?_
 rw[Frame.finish_at]
 walk_nrm
 simp only[if_true]
 refine ogE<|ogYn t0T<|ogW n0g .ret ?_
 simp only[oC,n0g,pC,X2,Tryd.f47,Option.getD_some,List.size_toArray,List.length_cons,List.length_nil,Nat.reduceAdd,Nat.zero_add,List.range,List.range.loop]
 iterate 2 refine oT ?_
 refine ogE<|ogX ?_
 refine M0 rfl (fun d=>stepG_leave (fn:=Tryd.f47) (v:=.tuple #[.bool true,vI 0]) rfl rfl Tryd.func47 (by simp[results,Tryd.f47]) (by simp[results,Tryd.f47,go_sem])) ?_
 exact h
theorem t0i{wb i:Nat}{sv:Value}{inn:Bool}{x y z:BitVec 64}(hxor:bits .xor .u64 (x.toNat:Int) ((bitI i).toNat:Int)=(z.toNat:Int))(hq:((y.toNat:Int) == (x.toNat:Int))=false)(hc:w.cell? ⟨wb,i / 64,none⟩=some (wV y))(hz:w.frozen? ⟨wb,i / 64,none⟩=false)(hnh:¬held F ⟨wb,i / 64,none⟩){A:Array Value}(hA:G0 49 A [(1,sv),(3,.bool inn),(10,vP wb (i / 64)),(11,wV (bitI i)),(12,wV x)])
 (h:∀A,G0 49 A [(1,sv),(3,.bool inn),(10,vP wb (i / 64)),(11,wV (bitI i))]→J0 Tryd.prog main F Stop (G (Frame.enter Tryd.prog 48 #[sv] .normal) ((bA 47 A [.inRegion (oC b0m) [1],.code d0A,.inBlock 1,.inLoop b0a,.inBlock 0])::cs)) w):
 J0 Tryd.prog main F Stop (G ((bA 47 A [.inRegion (oC d0n) [1],.code c0S,.inBlock 1,.inLoop b0a,.inBlock 0]).finish (.tuple #[])) (cs)) w:=by
 obtain⟨s,rfl,h1,h3,h10,h11,h12,_⟩:=Y3 h0g hA
 simp only[h0g,h1,h3,h10,h11,h12]
 clear h1 h3 h10 h11 h12
 rw[Frame.finish_at]
 simp only[oC,d0n,pC,X2,Tryd.f47,Option.getD_some,List.size_toArray,List.length_cons,List.length_nil,Nat.reduceAdd,Nat.zero_add,List.range,List.range.loop]
 walk_nrm
 refine ogE<|ogW k0u i0y ?_
 simp only[oC,k0u,pC,X2,Tryd.f47,Option.getD_some,List.size_toArray,List.length_cons,List.length_nil,Nat.reduceAdd,Nat.zero_add,List.range,List.range.loop]
 iterate 5 refine oT ?_
 refine oc L3 #[vP wb (i / 64),wV x,wV z] ?_
 refine c0J (t:=false) hq hc rfl hz hnh ?_
 rw[Frame.finish_at]
 walk_nrm
 simp only[Bool.false_eq_true,if_false]
 refine ogE<|ogGn .skip<|ogK<|ogI<|ogL ?_
 rw[n0e]
 refine L7<|ogW b0m d0A ?_
 simp only[oC,b0m,pC,X2,Tryd.f47,Option.getD_some,List.size_toArray,List.length_cons,List.length_nil,Nat.reduceAdd,Nat.zero_add,List.range,List.range.loop]
 refine oT ?_
 refine oc j04 #[sv] ?_
 refine h _ ?_
 exact⟨rfl,rfl,rfl,rfl,rfl,trivial⟩
end
noncomputable section
variable{F:Fz}{w:World}
@[go_sem] theorem z0h{k:Nat}(hk:k<64)(w:World)(es:Array Event):(Instr.indexAt 145 (vP 0 0) (.int .u64 (k:Nat))).events Tryd.prog w es=es:=
 events_indexAt_array 145 5 64 ⟨0,0,none⟩ .u64 (k:Nat) Tryd.underlying145 (by omega)
def a0A:Code:=Tryd.f55.body.getD .skip
def w0P:=pC [] a0A
def s02:=pC [zt] a0A
def o0r:=pC [zf] a0A
def s06:=pC [zt] o0r
def s03:=pC [zf,zt,zt] a0A
def s01:=pC [zf] s06
def z0n:=pC [zt] s01
def w0Q:=pC [zf] o0r
def s04:=pC [zf,zf,zt] a0A
theorem m0y(args:Array Value):Frame.enter Tryd.prog 55 args .normal=(Go.Conc.base 55).at {tmps:=args++Array.replicate (14 - args.size) undef,defers:=[]} [.code w0P]:=enter_at args Tryd.func55 rfl
theorem f0i:O1 55:=G2 Tryd.func55 rfl rfl
theorem y0T{x nx y z:BitVec 64}{k v:Nat}(hx:((x.toNat:Int) == 0)=false)(hneg:IntKind.u64.wrap (-(x.toNat:Int))=(nx.toNat:Int))(hand:bits .and .u64 (x.toNat:Int) (nx.toNat:Int)=(y.toNat:Int))(hmul:IntKind.u64.wrap ((y.toNat:Int)*285870213051353865)=(z.toNat:Int))(hsh:(z.toNat:Int) / 288230376151711744=(k:Int))(hk:k<64)(hv:v<65)(hT:w.cell? ⟨0,k,none⟩=some (.int .u8 (v:Nat))){c:Frame}{cs:List Frame}{main:Bool}{Stop:Goroutine→World→Prop}
 (h:J0 Tryd.prog main F Stop (G (c.finish (vI (v:Nat))) cs) w):
 J0 Tryd.prog main F Stop (G (Frame.enter Tryd.prog 55 #[wV x] .normal) (c::cs)) w:=by
 have hk2:(k:Int)<64:=by omega
 have hw64:IntKind.i64.wrap (v:Int)=(v:Int):=IntWalk.i64_in _ (by omega)
 rw[m0y]
 walk_nrm
 refine ogW s02 o0r ?_
 simp only[oC,s02,pC,a0A,Tryd.f55,Option.getD_some,List.size_toArray,List.length_cons,List.length_nil,Nat.reduceAdd,Nat.zero_add,List.range,List.range.loop]
 refine oT ?_
 refine ogE<|ogV s06 w0Q<|ogW s03 s01 ?_
 simp only[oC,s03,pC,a0A,Tryd.f55,Option.getD_some,List.size_toArray,List.length_cons,List.length_nil,Nat.reduceAdd,Nat.zero_add,List.range,List.range.loop]
 iterate 2 refine oT ?_
 refine ogE<|ogGn .skip<|ogK<|ogW s04 .ret ?_
 simp only[oC,s04,pC,a0A,Tryd.f55,Option.getD_some,List.size_toArray,List.length_cons,List.length_nil,Nat.reduceAdd,Nat.zero_add,List.range,List.range.loop]
 iterate 6 refine oT ?_
 refine oX ?_
 refine oL ?_
 iterate 2 refine oT ?_
 refine ogE<|ogX ?_
 refine M0 rfl (fun d=>stepG_leave (fn:=Tryd.f55) (v:=vI (v:Nat)) rfl rfl Tryd.func55 (by simp[results,Tryd.f55]) (by simp[results,Tryd.f55,go_sem])) ?_
 exact h
def deB:List Nat:=[0,1,56,2,57,49,28,3,61,58,42,50,38,29,17,4,62,47,59,36,45,43,51,22,53,39,33,30,24,18,12,5,63,55,48,27,60,41,37,16,46,35,44,21,52,32,23,11,54,26,40,15,34,20,31,10,25,14,19,9,13,8,7,6]
structure Tab(w:World):Prop where
 c:∀k,k<64→w.cell? ⟨0,k,none⟩=some (.int .u8 ((deB.getD k 0:Nat):Int))
theorem q0Y:∀j:_root_.Fin 64,(((1#64 <<< j.val)*285870213051353865#64) >>> 58).toNat<64∧deB.getD (((1#64 <<< j.val)*285870213051353865#64) >>> 58).toNat 0=j.val:=by decide +kernel
theorem v0w(x:BitVec 64):IntKind.u64.wrap ((x.toNat:Int)*285870213051353865)=((x*285870213051353865#64).toNat:Int):=by
 rw[IntKind.wrap_u64,BitVec.toNat_mul]
 simp only[BitVec.toNat_ofNat]
 omega
theorem l03{x:BitVec 64}(hT:Tab w)(h0:x≠0#64){c:Frame}{cs:List Frame}{main:Bool}{Stop:Goroutine→World→Prop}
 (h:J0 Tryd.prog main F Stop (G (c.finish (vI (N8 x:Nat))) cs) w):
 J0 Tryd.prog main F Stop (G (Frame.enter Tryd.prog 55 #[wV x] .normal) (c::cs)) w:=by
 have hj:=(b0t h0).1
 have e:=r0j h0
 obtain⟨h1,h2⟩:=q0Y ⟨N8 x,hj⟩
 simp only[← e]at h1 h2
 have hne:((x.toNat:Int) == 0)=false:=by
  have:x.toNat≠0:=fun e=>h0 (BitVec.eq_of_toNat_eq e)
  simp;omega
 have hneg:=v0x x
 rw[Int.zero_sub]at hneg
 have hsh:=q0n ((x &&& -x)*285870213051353865#64) 58
 rw[show((2:Int) ^ 58)=288230376151711744 by decide]at hsh
 have hc:=hT.c _ h1
 rw[h2]at hc
 exact y0T hne hneg (g02 x (-x)) (v0w (x &&& -x)) hsh h1 (by omega) hc h
end
noncomputable section
variable {cs:List Frame}{main:Bool}{Stop:Goroutine→World→Prop}
variable{F:Fz}{w:World}
def O5:Code:=Tryd.f60.body.getD .skip
def w0h:=pC [] O5
def k0K:=pC [zt] O5
def k0N:=pC [zf] O5
def n0v:=pC [zt] k0N
def k0L:=pC [zf,zt,zt] O5
def n0w:=pC [zf] n0v
def k0M:=pC [zf,zt,zf,zt] O5
def i09:=pC [zf] n0w
def w0i:=pC [zt] i09
def s0f:=pC [zf,zt,zf,zf,zt,zt] O5
def s0h:=pC [zf] k0N
def s0g:=pC [zf,zf,zt] O5
theorem g0C(args:Array Value):Frame.enter Tryd.prog 60 args .normal=(Go.Conc.base 60).at {tmps:=args++Array.replicate (18 - args.size) undef,defers:=[]} [.code w0h]:=enter_at args Tryd.func60 rfl
theorem e0s:O1 60:=G2 Tryd.func60 rfl rfl
theorem v0m{lb wb n m:Nat}{k:Nat}{z z1:BitVec 64}(hs:BH lb wb n m w)(hk:k<m)(hl:n<64*k+64)(hz:IntKind.u64.wrap (2 ^ ((n:Int) - 64*(k:Int)).toNat)=(z.toNat:Int))(hz1:IntKind.u64.wrap ((z.toNat:Int) - 1)=(z1.toNat:Int)){c:Frame}
 (h:J0 Tryd.prog main F Stop (G (c.finish (wV z1)) cs) w):
 J0 Tryd.prog main F Stop (G (Frame.enter Tryd.prog 60 #[vP lb 0,vI (k:Nat)] .normal) (c::cs)) w:=by
 have c0:=hs.c0
 have hn:=hs.hn
 have hm:=hs.hm
 have w1:IntKind.i64.wrap (64*(k:Int))=64*(k:Int):=IntWalk.i64_in _ (by omega)
 have w2:IntKind.i64.wrap ((n:Int) - 64*(k:Int))=(n:Int) - 64*(k:Int):=IntWalk.i64_in _ (by omega)
 have hd:decide ((n:Int) - 64*(k:Int)<64)=true:=decide_eq_true (by omega)
 have h0:0≤(n:Int) - 64*(k:Int):=by omega
 have h64:(n:Int) - 64*(k:Int)≤64:=by omega
 rw[g0C]
 walk_nrm
 refine ogW k0K k0N ?_
 simp only[oC,k0K,pC,O5,Tryd.f60,Option.getD_some,List.size_toArray,List.length_cons,List.length_nil,Nat.reduceAdd,Nat.zero_add,List.range,List.range.loop]
 refine oT ?_
 refine ogE<|ogV n0v s0h<|ogW k0L n0w ?_
 simp only[oC,k0L,pC,O5,Tryd.f60,Option.getD_some,List.size_toArray,List.length_cons,List.length_nil,Nat.reduceAdd,Nat.zero_add,List.range,List.range.loop]
 iterate 3 refine oT ?_
 refine oL ?_
 iterate 4 refine oT ?_
 refine ogE<|ogW k0M i09 ?_
 simp only[oC,k0M,pC,O5,Tryd.f60,Option.getD_some,List.size_toArray,List.length_cons,List.length_nil,Nat.reduceAdd,Nat.zero_add,List.range,List.range.loop]
 iterate 2 refine oT ?_
 refine ogE<|ogYn w0i<|ogW s0f .ret ?_
 simp only[oC,s0f,pC,O5,Tryd.f60,Option.getD_some,List.size_toArray,List.length_cons,List.length_nil,Nat.reduceAdd,Nat.zero_add,List.range,List.range.loop]
 iterate 4 refine oT ?_
 refine ogE<|ogX ?_
 refine M0 rfl (fun d=>stepG_leave (fn:=Tryd.f60) (v:=wV z1) rfl rfl Tryd.func60 (by simp[results,Tryd.f60]) (by simp[results,Tryd.f60,go_sem])) ?_
 exact h
theorem v0n{lb wb n m:Nat}{k:Nat}(hs:BH lb wb n m w)(hk:k<m)(hl:64*k+64≤n){c:Frame}
 (h:J0 Tryd.prog main F Stop (G (c.finish (wV (BitVec.allOnes 64))) cs) w):
 J0 Tryd.prog main F Stop (G (Frame.enter Tryd.prog 60 #[vP lb 0,vI (k:Nat)] .normal) (c::cs)) w:=by
 have c0:=hs.c0
 have hn:=hs.hn
 have hm:=hs.hm
 have w1:IntKind.i64.wrap (64*(k:Int))=64*(k:Int):=IntWalk.i64_in _ (by omega)
 have w2:IntKind.i64.wrap ((n:Int) - 64*(k:Int))=(n:Int) - 64*(k:Int):=IntWalk.i64_in _ (by omega)
 have hd:decide ((n:Int) - 64*(k:Int)<64)=false:=decide_eq_false (by omega)
 rw[g0C]
 walk_nrm
 refine ogW k0K k0N ?_
 simp only[oC,k0K,pC,O5,Tryd.f60,Option.getD_some,List.size_toArray,List.length_cons,List.length_nil,Nat.reduceAdd,Nat.zero_add,List.range,List.range.loop]
 refine oT ?_
 refine ogE<|ogV n0v s0h<|ogW k0L n0w ?_
 simp only[oC,k0L,pC,O5,Tryd.f60,Option.getD_some,List.size_toArray,List.length_cons,List.length_nil,Nat.reduceAdd,Nat.zero_add,List.range,List.range.loop]
 iterate 3 refine oT ?_
 refine oL ?_
 iterate 4 refine oT ?_
 refine ogE<|ogW k0M i09 ?_
 simp only[oC,k0M,pC,O5,Tryd.f60,Option.getD_some,List.size_toArray,List.length_cons,List.length_nil,Nat.reduceAdd,Nat.zero_add,List.range,List.range.loop]
 iterate 2 refine oT ?_
 refine ogE<|ogGn .skip<|ogK<|ogW s0g .ret ?_
 simp only[oC,s0g,pC,O5,Tryd.f60,Option.getD_some,List.size_toArray,List.length_cons,List.length_nil,Nat.reduceAdd,Nat.zero_add,List.range,List.range.loop]
 refine oT ?_
 refine ogE<|ogX ?_
 refine M0 rfl (fun d=>stepG_leave (fn:=Tryd.f60) (v:=wV (BitVec.allOnes 64)) rfl rfl Tryd.func60 (by simp[results,Tryd.f60]) (by simp[results,Tryd.f60,go_sem])) ?_
 exact h
def c0I(n k:Nat):BitVec 64:=if n<64*k+64 then(1#64 <<< (n - 64*k)) - 1#64 else BitVec.allOnes 64
theorem f0B{lb wb n m:Nat}{k:Nat}(hs:BH lb wb n m w)(hk:k<m){c:Frame}
 (h:J0 Tryd.prog main F Stop (G (c.finish (wV (c0I n k))) cs) w):
 J0 Tryd.prog main F Stop (G (Frame.enter Tryd.prog 60 #[vP lb 0,vI (k:Nat)] .normal) (c::cs)) w:=by
 unfold c0I at h
 have hm:=hs.hm
 by_cases hl:n<64*k+64
 ·rw[if_pos hl]at h
  have e:=e0e (n - 64*k)
  rw[Int.one_mul,show n - 64*k=((n:Int) - 64*(k:Int)).toNat by omega]at e
  rw[show n - 64*k=((n:Int) - 64*(k:Int)).toNat by omega]at h
  exact v0m hs hk hl e (l04 _) h
 ·rw[if_neg hl]at h
  exact v0n hs hk (by omega) h
def a02:Code:=Tryd.f18.body.getD .skip
def w0u:=pC [] a02
def s0R:=pC [zt] a02
def w0v:=pC [zf] a02
def g0x:=pC [zf,zt] a02
theorem m0v(args:Array Value):Frame.enter Tryd.prog 18 args .normal=(Go.Conc.base 18).at {tmps:=args++Array.replicate (14 - args.size) undef,defers:=[]} [.code w0u]:=enter_at args Tryd.func18 rfl
theorem e0o:O1 18:=G2 Tryd.func18 rfl rfl
def u0y(s:Nat→Value):Array Value:= #[s 0,s 1,s 2,s 3,s 4,s 5,s 6,s 7,s 8,s 9,s 10,s 11,s 12,s 13]
theorem y0F{A:Array Value}(h:A.size=14):∃s,A=u0y s:=by
 obtain⟨s,hs,_⟩:=Y4 A h
 exact⟨s,hs⟩
theorem t0q{xv sv iv:Value}
 (h:∀A,G0 14 A [(0,xv)]→J0 Tryd.prog main F Stop (G (Frame.enter Tryd.prog 47 #[xv,sv,iv,.bool true] .normal) ((bA 18 A [.inRegion (oC g0x) [3,4,5,6,7],.code .ret])::cs)) w):
 J0 Tryd.prog main F Stop (G (Frame.enter Tryd.prog 18 #[xv,sv,iv] .normal) cs) w:=by
 rw[m0v]
 walk_nrm
 refine ogW s0R w0v ?_
 simp only[oC,s0R,pC,a02,Tryd.f18,Option.getD_some,List.size_toArray,List.length_cons,List.length_nil,Nat.reduceAdd,Nat.zero_add,List.range,List.range.loop]
 iterate 2 refine oT ?_
 refine ogE<|ogW g0x .ret ?_
 simp only[oC,g0x,pC,a02,Tryd.f18,Option.getD_some,List.size_toArray,List.length_cons,List.length_nil,Nat.reduceAdd,Nat.zero_add,List.range,List.range.loop]
 iterate 3 refine oT ?_
 refine oc j03 #[xv,sv,iv,.bool true] ?_
 refine h _ ?_
 exact⟨rfl,rfl,trivial⟩
theorem g0R{xv u v:Value}{A:Array Value}(hA:G0 14 A [(0,xv)]){c:Frame}
 (h:J0 Tryd.prog main F Stop (G (c.finish (.tuple #[u,v])) cs) w):
 J0 Tryd.prog main F Stop (G ((bA 18 A [.inRegion (oC g0x) [3,4,5,6,7],.code .ret]).finish (.tuple #[u,v])) (c::cs)) w:=by
 obtain⟨s,rfl,h0,_⟩:=Y3 u0y hA
 simp only[u0y,h0]
 clear h0
 rw[Frame.finish_at]
 simp only[oC,g0x,pC,a02,Tryd.f18,Option.getD_some,List.size_toArray,List.length_cons,List.length_nil,Nat.reduceAdd,Nat.zero_add,List.range,List.range.loop]
 walk_nrm
 iterate 4 refine oT ?_
 refine ogE<|ogX ?_
 refine M0 rfl (fun d=>stepG_leave (fn:=Tryd.f18) (v:=.tuple #[u,v]) rfl rfl Tryd.func18 (by simp[results,Tryd.f18]) (by simp[results,Tryd.f18,go_sem])) ?_
 exact h
def a0Y:Code:=Tryd.f19.body.getD .skip
def w0f:=pC [] a0Y
def r08:=pC [zt] a0Y
def w0g:=pC [zf] a0Y
def g0o:=pC [zf,zt] a0Y
theorem m0q(args:Array Value):Frame.enter Tryd.prog 19 args .normal=(Go.Conc.base 19).at {tmps:=args++Array.replicate (14 - args.size) undef,defers:=[]} [.code w0f]:=enter_at args Tryd.func19 rfl
theorem a0Z:O1 19:=G2 Tryd.func19 rfl rfl
def t00(s:Nat→Value):Array Value:= #[s 0,s 1,s 2,s 3,s 4,s 5,s 6,s 7,s 8,s 9,s 10,s 11,s 12,s 13]
theorem y0B{A:Array Value}(h:A.size=14):∃s,A=t00 s:=by
 obtain⟨s,hs,_⟩:=Y4 A h
 exact⟨s,hs⟩
theorem v0g{xv sv iv:Value}
 (h:∀A,G0 14 A [(0,xv)]→J0 Tryd.prog main F Stop (G (Frame.enter Tryd.prog 47 #[xv,sv,iv,.bool false] .normal) ((bA 19 A [.inRegion (oC g0o) [3,4,5,6,7],.code .ret])::cs)) w):
 J0 Tryd.prog main F Stop (G (Frame.enter Tryd.prog 19 #[xv,sv,iv] .normal) cs) w:=by
 rw[m0q]
 walk_nrm
 refine ogW r08 w0g ?_
 simp only[oC,r08,pC,a0Y,Tryd.f19,Option.getD_some,List.size_toArray,List.length_cons,List.length_nil,Nat.reduceAdd,Nat.zero_add,List.range,List.range.loop]
 iterate 2 refine oT ?_
 refine ogE<|ogW g0o .ret ?_
 simp only[oC,g0o,pC,a0Y,Tryd.f19,Option.getD_some,List.size_toArray,List.length_cons,List.length_nil,Nat.reduceAdd,Nat.zero_add,List.range,List.range.loop]
 iterate 3 refine oT ?_
 refine oc j03 #[xv,sv,iv,.bool false] ?_
 refine h _ ?_
 exact⟨rfl,rfl,trivial⟩
theorem h0x{xv u v:Value}{A:Array Value}(hA:G0 14 A [(0,xv)]){c:Frame}
 (h:J0 Tryd.prog main F Stop (G (c.finish (.tuple #[u,v])) cs) w):
 J0 Tryd.prog main F Stop (G ((bA 19 A [.inRegion (oC g0o) [3,4,5,6,7],.code .ret]).finish (.tuple #[u,v])) (c::cs)) w:=by
 obtain⟨s,rfl,h0,_⟩:=Y3 t00 hA
 simp only[t00,h0]
 clear h0
 rw[Frame.finish_at]
 simp only[oC,g0o,pC,a0Y,Tryd.f19,Option.getD_some,List.size_toArray,List.length_cons,List.length_nil,Nat.reduceAdd,Nat.zero_add,List.range,List.range.loop]
 walk_nrm
 iterate 4 refine oT ?_
 refine ogE<|ogX ?_
 refine M0 rfl (fun d=>stepG_leave (fn:=Tryd.f19) (v:=.tuple #[u,v]) rfl rfl Tryd.func19 (by simp[results,Tryd.f19]) (by simp[results,Tryd.f19,go_sem])) ?_
 exact h
def P4:Code:=Tryd.f20.body.getD .skip
def s0j:=pC [] P4
def d0G:=pC [zt] P4
def g0s:=pC [zf] P4
def h0K:=pC [zt] g0s
def d0H:=pC [zf,zt,zt] P4
def e06:=pC [zf] h0K
def n0y:=pC [zt] e06
def g0q:=pC [zf,zt,zf,zt,zt] P4
def k0O:=pC [zf] g0s
def g0r:=pC [zf,zf,zt] P4
def k0P:=pC [zf] k0O
def s0i:=pC [zf,zf,zf,zt] P4
theorem t06:s0j= .seq d0G g0s:=by kernel_rfl
theorem t03:d0G= .region 0 (oC d0G) false:=by kernel_rfl
theorem t07:g0s= .seq h0K k0O:=by kernel_rfl
theorem t08:h0K= .seq d0H e06:=by kernel_rfl
theorem t04:d0H= .region 1 (oC d0H) false:=by kernel_rfl
theorem q0I:e06= .cond (.tmp 15) n0y .skip:=by kernel_rfl
theorem u0c:n0y= .seq g0q .ret:=by kernel_rfl
theorem t05:g0q= .region 2 (oC g0q) false:=by kernel_rfl
theorem c08(args:Array Value):Frame.enter Tryd.prog 20 args .normal=(Go.Conc.base 20).at {tmps:=args++Array.replicate (31 - args.size) undef,defers:=[]} [.code s0j]:=enter_at args Tryd.func20 rfl
theorem j0o:O1 20:=G2 Tryd.func20 rfl rfl
def t02(s:Nat→Value):Array Value:= #[s 0,s 1,s 2,s 3,s 4,s 5,s 6,s 7,s 8,s 9,s 10,s 11,s 12,s 13,s 14,s 15,s 16,s 17,s 18,s 19,s 20,s 21,s 22,s 23,s 24,s 25,s 26,s 27,s 28,s 29,s 30]
theorem y0C{A:Array Value}(h:A.size=31):∃s,A=t02 s:=by
 obtain⟨s,hs,_⟩:=Y4 A h
 exact⟨s,hs⟩
theorem q01{lb:Nat}{sv:Value}{i:Int}(hi:i<0){c:Frame}
 (h:J0 Tryd.prog main F Stop (G (c.finish (.tuple #[.bool false,.int .i64 1])) cs) w):
 J0 Tryd.prog main F Stop (G (Frame.enter Tryd.prog 20 #[.pointer (some ⟨lb,0,none⟩),sv,.int .i64 i] .normal) (c::cs)) w:=by
 have e0:decide (i<0)=true:=decide_eq_true hi
 rw[c08]
 walk_nrm
 refine ogSR t06 t03 ?_
 simp only[oC,d0G,pC,P4,Tryd.f20,Option.getD_some,List.size_toArray,List.length_cons,List.length_nil,Nat.reduceAdd,Nat.zero_add,List.range,List.range.loop]
 iterate 2 (refine oW fun dd K hK=>?_;go_simp;refine qT hK ?_;clear hK K)
 refine ogE ?_
 refine F0v t07 ?_
 refine ogSR t08 t04 ?_
 simp only[oC,d0H,pC,P4,Tryd.f20,Option.getD_some,List.size_toArray,List.length_cons,List.length_nil,Nat.reduceAdd,Nat.zero_add,List.range,List.range.loop]
 iterate 3 (refine oW fun dd K hK=>?_;go_simp;refine qT hK ?_;clear hK K)
 iterate 4 refine ogU rfl rfl ?_
 (refine oW fun dd K hK=>?_;go_simp;refine qT hK ?_;clear hK K)
 refine ogE ?_
 rw[q0I]
 refine ogT ?_
 simp only[if_true]
 refine ogSR u0c t05 ?_
 simp only[oC,g0q,pC,P4,Tryd.f20,Option.getD_some,List.size_toArray,List.length_cons,List.length_nil,Nat.reduceAdd,Nat.zero_add,List.range,List.range.loop]
 iterate 2 (refine oW fun dd K hK=>?_;go_simp;refine qT hK ?_;clear hK K)
 refine ogE ?_
 refine ogX ?_
 refine M0 rfl (fun d=>stepG_leave (fn:=Tryd.f20) (v:=.tuple #[.bool false,.int .i64 1]) rfl rfl Tryd.func20 (by simp[results,Tryd.f20]) (by simp[results,Tryd.f20,go_sem])) ?_
 exact h
theorem q00{lb wb n m:Nat}{sv:Value}{i:Int}(hs:BH lb wb n m w)(h0:¬i<0)(hi:(n:Int)≤i){c:Frame}
 (h:J0 Tryd.prog main F Stop (G (c.finish (.tuple #[.bool false,vI 1])) cs) w):
 J0 Tryd.prog main F Stop (G (Frame.enter Tryd.prog 20 #[vP lb 0,sv,vI i] .normal) (c::cs)) w:=by
 have e0:decide (i<0)=false:=decide_eq_false h0
 have e1:decide ((n:Int)≤i)=true:=decide_eq_true hi
 rw[c08]
 walk_nrm
 refine ogW d0G g0s ?_
 simp only[oC,d0G,pC,P4,Tryd.f20,Option.getD_some,List.size_toArray,List.length_cons,List.length_nil,Nat.reduceAdd,Nat.zero_add,List.range,List.range.loop]
 iterate 2 refine oT ?_
 refine ogE<|ogV h0K k0O<|ogW d0H e06 ?_
 simp only[oC,d0H,pC,P4,Tryd.f20,Option.getD_some,List.size_toArray,List.length_cons,List.length_nil,Nat.reduceAdd,Nat.zero_add,List.range,List.range.loop]
 iterate 5 refine oT ?_
 refine oc Y9 #[vP lb 0] ?_
 refine a0T hs ?_
 rw[Frame.finish_at]
 walk_nrm
 iterate 2 refine oT ?_
 refine ogE<|ogYn n0y<|ogW g0q .ret ?_
 simp only[oC,g0q,pC,P4,Tryd.f20,Option.getD_some,List.size_toArray,List.length_cons,List.length_nil,Nat.reduceAdd,Nat.zero_add,List.range,List.range.loop]
 iterate 2 refine oT ?_
 refine ogE<|ogX ?_
 refine M0 rfl (fun d=>stepG_leave (fn:=Tryd.f20) (v:=.tuple #[.bool false,vI 1]) rfl rfl Tryd.func20 (by simp[results,Tryd.f20]) (by simp[results,Tryd.f20,go_sem])) ?_
 exact h
theorem x0w{lb wb n m:Nat}{sv:Value}{i:Nat}(hs:BH lb wb n m w)(hi:i<n)
 (h:∀A,G0 31 A [(0,vP lb 0),(1,sv),(2,vI (i:Nat))]→J0 Tryd.prog main F Stop (G (Frame.enter Tryd.prog 48 #[sv] .normal) ((bA 20 A [.inRegion (oC g0r) [1],.code k0P])::cs)) w):
 J0 Tryd.prog main F Stop (G (Frame.enter Tryd.prog 20 #[vP lb 0,sv,vI (i:Nat)] .normal) cs) w:=by
 have e0:decide ((i:Int)<0)=false:=decide_eq_false (by omega)
 have e1:decide (n≤i)=false:=decide_eq_false (by omega)
 rw[c08]
 walk_nrm
 refine ogW d0G g0s ?_
 simp only[oC,d0G,pC,P4,Tryd.f20,Option.getD_some,List.size_toArray,List.length_cons,List.length_nil,Nat.reduceAdd,Nat.zero_add,List.range,List.range.loop]
 iterate 2 refine oT ?_
 refine ogE<|ogV h0K k0O<|ogW d0H e06 ?_
 simp only[oC,d0H,pC,P4,Tryd.f20,Option.getD_some,List.size_toArray,List.length_cons,List.length_nil,Nat.reduceAdd,Nat.zero_add,List.range,List.range.loop]
 iterate 5 refine oT ?_
 refine oc Y9 #[vP lb 0] ?_
 refine a0T hs ?_
 rw[Frame.finish_at]
 walk_nrm
 iterate 2 refine oT ?_
 refine ogE<|ogGn .skip<|ogK<|ogW g0r k0P ?_
 simp only[oC,g0r,pC,P4,Tryd.f20,Option.getD_some,List.size_toArray,List.length_cons,List.length_nil,Nat.reduceAdd,Nat.zero_add,List.range,List.range.loop]
 refine oT ?_
 refine oc j04 #[sv] ?_
 refine h _ ?_
 exact⟨rfl,rfl,rfl,rfl,trivial⟩
theorem t0o{lb wb n m:Nat}{sv:Value}{i:Nat}{b:Bool}{x:BitVec 64}(hs:BH lb wb n m w)(hi:i<n)(hc:w.cell? ⟨wb,i / 64,none⟩=some (wV x))(hx:(bits .and .u64 ((x.toNat:Int) / 2 ^ ((i:Int) % 64).toNat) 1 == 1)=b){A:Array Value}(hA:G0 31 A [(0,vP lb 0),(1,sv),(2,vI (i:Nat))]){c:Frame}
 (h:J0 Tryd.prog main F Stop (G (c.finish (.tuple #[.bool b,vI 0])) cs) w):
 J0 Tryd.prog main F Stop (G ((bA 20 A [.inRegion (oC g0r) [1],.code k0P]).finish (.tuple #[])) (c::cs)) w:=by
 obtain⟨s,rfl,h0,h1,h2,_⟩:=Y3 t02 hA
 simp only[t02,h0,h1,h2]
 clear h0 h1 h2
 have hn:=hs.hn
 have c1:=hs.c1
 have hq:IntKind.i64.wrap ((i:Int) / 64)=(i:Int) / 64:=IntWalk.i64_in _ (by omega)
 have hd:0≤(i:Int) / 64∧(i:Int) / 64<(m:Int):=by have:=hs.hm;omega
 have ht:((i:Int) / 64).toNat=i / 64:=by omega
 have hm:(i:Int).tmod 64=(i:Int) % 64:=Int.tmod_eq_emod_of_nonneg (by omega)
 have h0:0≤(i:Int) % 64:=by omega
 have h64:(i:Int) % 64≤64:=by omega
 rw[Frame.finish_at]
 simp only[oC,g0r,pC,P4,Tryd.f20,Option.getD_some,List.size_toArray,List.length_cons,List.length_nil,Nat.reduceAdd,Nat.zero_add,List.range,List.range.loop]
 walk_nrm
 refine ogE<|ogW s0i .ret ?_
 simp only[oC,s0i,pC,P4,Tryd.f20,Option.getD_some,List.size_toArray,List.length_cons,List.length_nil,Nat.reduceAdd,Nat.zero_add,List.range,List.range.loop]
 iterate 3 refine oT ?_
 refine oL ?_
 iterate 2 refine oT ?_
 refine oX ?_
 refine oc j05 #[vP wb (i / 64)] ?_
 refine a07 hc rfl ?_
 rw[Frame.finish_at]
 walk_nrm
 iterate 7 refine oT ?_
 refine ogE<|ogX ?_
 refine M0 rfl (fun d=>stepG_leave (fn:=Tryd.f20) (v:=.tuple #[.bool b,vI 0]) rfl rfl Tryd.func20 (by simp[results,Tryd.f20]) (by simp[results,Tryd.f20,go_sem])) ?_
 exact h
end
noncomputable section
variable {cs:List Frame}{main:Bool}{Stop:Goroutine→World→Prop}
variable{F:Fz}{w:World}
def P1:Code:=Tryd.f45.body.getD .skip
def v09:=pC [] P1
def k0z:=pC [zt] P1
def k0E:=pC [zf] P1
def n0p:=pC [zt] k0E
def k0A:=pC [zf,zt,zt] P1
def i0L:=pC [zf] n0p
def z0j:=pC [zt] i0L
def k0G:=pC [zf] k0E
def n0q:=pC [zt] k0G
def k0D:=pC [zf,zf,zt,zt] P1
def k0y:=pC [zf] n0q
def n0k:=pC [zt] k0y
def a0m:=pC [zt] n0k
def g0k:=pC [zt] a0m
def b0V:=pC [zf,zf,zt,zf,zt,zt,zt,zt] P1
def e0y:=pC [zf] g0k
def e0x:=pC [zf] a0m
def r04:=pC [zt] e0x
def s6:=pC [zf,zf,zt,zf,zt,zt,zf,zt,zt] P1
def R9:=pC [zf] r04
def g0i:=pC [zf,zf,zt,zf,zt,zt,zf,zt,zf,zt] P1
def e0z:=pC [zf] R9
def h0k:=pC [zt] e0z
def g0j:=pC [zf,zf,zt,zf,zt,zt,zf,zt,zf,zf,zt,zt] P1
def h0h:=pC [zf] h0k
def i0O:=pC [zt] h0h
def h0I:=pC [zf,zf,zt,zf,zt,zt,zf,zt,zf,zf,zt,zf,zt,zt] P1
def h0l:=pC [zf] e0z
def r03:=pC [zf,zf,zt,zf,zt,zt,zf,zt,zf,zf,zf,zt] P1
def n0o:=pC [zf] h0l
def b0n:=pC [zf,zf,zt,zf,zt,zt,zf,zt,zf,zf,zf,zf,zt] P1
def c0X:=pC [zf] n0o
def c0V:=pC [zf,zf,zt,zf,zt,zt,zf,zt,zf,zf,zf,zf,zf,zt] P1
def i0M:=pC [zf] c0X
def t0W:=pC [zt] i0M
def n0m:=pC [zf,zf,zt,zf,zt,zt,zf,zt,zf,zf,zf,zf,zf,zf,zt,zt] P1
def B8:=pC [zf] k0G
def h0i:=pC [zf,zf,zf,zt] P1
theorem n0j:k0y= .block 0 n0k:=by kernel_rfl
theorem n0l:n0k= .loop a0m:=by kernel_rfl
theorem i0I:e0x= .block 1 r04:=by kernel_rfl
theorem k0F:i0O= .seq h0I (.exit 1):=by kernel_rfl
theorem n0n:h0I= .region 8 (oC h0I) false:=by kernel_rfl
theorem k0C:c0V= .region 11 (oC c0V) true:=by kernel_rfl
theorem g0B(args:Array Value):Frame.enter Tryd.prog 45 args .normal=(Go.Conc.base 45).at {tmps:=args++Array.replicate (55 - args.size) undef,defers:=[]} [.code v09]:=enter_at args Tryd.func45 rfl
theorem j0p:O1 45:=G2 Tryd.func45 rfl rfl
def e0w(s:Nat→Value):Array Value:= #[s 0,s 1,s 2,s 3,s 4,s 5,s 6,s 7,s 8,s 9,s 10,s 11,s 12,s 13,s 14,s 15,s 16,s 17,s 18,s 19,s 20,s 21,s 22,s 23,s 24,s 25,s 26,s 27,s 28,s 29,s 30,s 31,s 32,s 33,s 34,s 35,s 36,s 37,s 38,s 39,s 40,s 41,s 42,s 43,s 44,s 45,s 46,s 47,s 48,s 49,s 50,s 51,s 52,s 53,s 54]
theorem y0y{A:Array Value}(h:A.size=55):∃s,A=e0w s:=by
 obtain⟨s,hs,_⟩:=Y4 A h
 exact⟨s,hs⟩
theorem w0W{lb wb n m:Nat}{sv:Value}(hs:BH lb wb n m w)(h0:m=0){c:Frame}
 (h:J0 Tryd.prog main F Stop (G (c.finish (.tuple #[vI 0,vI 3])) cs) w):
 J0 Tryd.prog main F Stop (G (Frame.enter Tryd.prog 45 #[vP lb 0,sv] .normal) (c::cs)) w:=by
 have c1:=hs.c1
 have hd:decide (0<m)=false:=decide_eq_false (by omega)
 rw[g0B]
 walk_nrm
 refine ogW k0z k0E ?_
 simp only[oC,k0z,pC,P1,Tryd.f45,Option.getD_some,List.size_toArray,List.length_cons,List.length_nil,Nat.reduceAdd,Nat.zero_add,List.range,List.range.loop]
 iterate 2 refine oT ?_
 refine ogE<|ogV n0p k0G<|ogW k0A i0L ?_
 simp only[oC,k0A,pC,P1,Tryd.f45,Option.getD_some,List.size_toArray,List.length_cons,List.length_nil,Nat.reduceAdd,Nat.zero_add,List.range,List.range.loop]
 iterate 2 refine oT ?_
 refine ogE<|ogGn .skip<|ogK<|ogV n0q B8<|ogW k0D k0y ?_
 simp only[oC,k0D,pC,P1,Tryd.f45,Option.getD_some,List.size_toArray,List.length_cons,List.length_nil,Nat.reduceAdd,Nat.zero_add,List.range,List.range.loop]
 refine oT ?_
 refine ogE ?_
 rw[n0j]
 refine L7 ?_
 rw[n0l]
 refine ogP<|ogV g0k e0x<|ogW b0V e0y ?_
 simp only[oC,b0V,pC,P1,Tryd.f45,Option.getD_some,List.size_toArray,List.length_cons,List.length_nil,Nat.reduceAdd,Nat.zero_add,List.range,List.range.loop]
 iterate 4 refine oT ?_
 refine oL ?_
 iterate 2 refine oT ?_
 refine ogE<|ogGn (.exit 0) ?_
 refine M0 rfl (fun d=>stepG_exit rfl) ?_
 refine ogW h0i .ret ?_
 simp only[oC,h0i,pC,P1,Tryd.f45,Option.getD_some,List.size_toArray,List.length_cons,List.length_nil,Nat.reduceAdd,Nat.zero_add,List.range,List.range.loop]
 iterate 2 refine oT ?_
 refine ogE<|ogX ?_
 refine M0 rfl (fun d=>stepG_leave (fn:=Tryd.f45) (v:=.tuple #[vI 0,vI 3]) rfl rfl Tryd.func45 (by simp[results,Tryd.f45]) (by simp[results,Tryd.f45,go_sem])) ?_
 exact h
theorem y0S{lb wb n m:Nat}{sv:Value}(hs:BH lb wb n m w)(h0:0<m)
 (h:∀A,G0 55 A [(0,vP lb 0),(1,sv),(6,vI (0:Nat))]→J0 Tryd.prog main F Stop (G (Frame.enter Tryd.prog 48 #[sv] .normal) ((bA 45 A [.inRegion (oC s6) [1],.code R9,.inBlock 1,.inLoop a0m,.inBlock 0,.code B8])::cs)) w):
 J0 Tryd.prog main F Stop (G (Frame.enter Tryd.prog 45 #[vP lb 0,sv] .normal) cs) w:=by
 have c1:=hs.c1
 have hd:decide (0<m)=true:=decide_eq_true h0
 rw[g0B]
 walk_nrm
 refine ogW k0z k0E ?_
 simp only[oC,k0z,pC,P1,Tryd.f45,Option.getD_some,List.size_toArray,List.length_cons,List.length_nil,Nat.reduceAdd,Nat.zero_add,List.range,List.range.loop]
 iterate 2 refine oT ?_
 refine ogE<|ogV n0p k0G<|ogW k0A i0L ?_
 simp only[oC,k0A,pC,P1,Tryd.f45,Option.getD_some,List.size_toArray,List.length_cons,List.length_nil,Nat.reduceAdd,Nat.zero_add,List.range,List.range.loop]
 iterate 2 refine oT ?_
 refine ogE<|ogGn .skip<|ogK<|ogV n0q B8<|ogW k0D k0y ?_
 simp only[oC,k0D,pC,P1,Tryd.f45,Option.getD_some,List.size_toArray,List.length_cons,List.length_nil,Nat.reduceAdd,Nat.zero_add,List.range,List.range.loop]
 refine oT ?_
 refine ogE ?_
 rw[n0j]
 refine L7 ?_
 rw[n0l]
 refine ogP<|ogV g0k e0x<|ogW b0V e0y ?_
 simp only[oC,b0V,pC,P1,Tryd.f45,Option.getD_some,List.size_toArray,List.length_cons,List.length_nil,Nat.reduceAdd,Nat.zero_add,List.range,List.range.loop]
 iterate 4 refine oT ?_
 refine oL ?_
 iterate 2 refine oT ?_
 refine ogE<|ogYn .skip<|ogK ?_
 rw[i0I]
 refine L7<|ogW s6 R9 ?_
 simp only[oC,s6,pC,P1,Tryd.f45,Option.getD_some,List.size_toArray,List.length_cons,List.length_nil,Nat.reduceAdd,Nat.zero_add,List.range,List.range.loop]
 refine oT ?_
 refine oc j04 #[sv] ?_
 refine h _ ?_
 exact⟨rfl,rfl,rfl,rfl,trivial⟩
theorem w0Y{lb wb n m:Nat}{k:Nat}{sv:Value}{x:BitVec 64}(hs:BH lb wb n m w)(hk:k<m)(hc:w.cell? ⟨wb,k,none⟩=some (wV x))(he:((x.toNat:Int) == ((c0I n k).toNat:Int))=true)(hl:k+1<m){A:Array Value}(hA:G0 55 A [(0,vP lb 0),(1,sv),(6,vI (k:Nat))])
 (h:∀A,G0 55 A [(0,vP lb 0),(1,sv),(6,vI (k+1:Nat))]→J0 Tryd.prog main F Stop (G (Frame.enter Tryd.prog 48 #[sv] .normal) ((bA 45 A [.inRegion (oC s6) [1],.code R9,.inBlock 1,.inLoop a0m,.inBlock 0,.code B8])::cs)) w):
 J0 Tryd.prog main F Stop (G ((bA 45 A [.inRegion (oC s6) [1],.code R9,.inBlock 1,.inLoop a0m,.inBlock 0,.code B8]).finish (.tuple #[])) (cs)) w:=by
 obtain⟨s,rfl,h0,h1,h6,_⟩:=Y3 e0w hA
 simp only[e0w,h0,h1,h6]
 clear h0 h1 h6
 have c1:=hs.c1
 have hm1k:m≤1024:=by have:=hs.hm;have:=hs.hn;omega
 have hki:(k:Int)<(m:Int):=by omega
 have hw64:IntKind.i64.wrap ((k:Int)+1)=(k:Int)+1:=IntWalk.i64_in _ (by omega)
 have hd:decide ((k:Int)+1<(m:Int))=true:=decide_eq_true (by omega)
 have hd2:decide (k+1<m)=true:=decide_eq_true hl
 rw[Frame.finish_at]
 simp only[oC,s6,pC,P1,Tryd.f45,Option.getD_some,List.size_toArray,List.length_cons,List.length_nil,Nat.reduceAdd,Nat.zero_add,List.range,List.range.loop]
 walk_nrm
 refine ogE<|ogW g0i e0z ?_
 simp only[oC,g0i,pC,P1,Tryd.f45,Option.getD_some,List.size_toArray,List.length_cons,List.length_nil,Nat.reduceAdd,Nat.zero_add,List.range,List.range.loop]
 iterate 3 refine oT ?_
 refine oL ?_
 refine oT ?_
 refine oX ?_
 refine oc j05 #[vP wb k] ?_
 refine a07 hc rfl ?_
 rw[Frame.finish_at]
 walk_nrm
 refine oT ?_
 refine ogE<|ogV h0k h0l<|ogW g0j h0h ?_
 simp only[oC,g0j,pC,P1,Tryd.f45,Option.getD_some,List.size_toArray,List.length_cons,List.length_nil,Nat.reduceAdd,Nat.zero_add,List.range,List.range.loop]
 iterate 3 refine oT ?_
 refine oc e0s #[vP lb 0,vI (k:Nat)] ?_
 refine f0B hs hk ?_
 rw[Frame.finish_at]
 walk_nrm
 refine oT ?_
 refine ogE<|ogYn i0O<|ogSR k0F n0n ?_
 simp only[oC,h0I,pC,P1,Tryd.f45,Option.getD_some,List.size_toArray,List.length_cons,List.length_nil,Nat.reduceAdd,Nat.zero_add,List.range,List.range.loop]
 iterate 3 refine oT ?_
 refine ogE ?_
 refine M0 rfl (fun d=>stepG_exit rfl) ?_
 refine ogL<|ogV g0k e0x<|ogW b0V e0y ?_
 simp only[oC,b0V,pC,P1,Tryd.f45,Option.getD_some,List.size_toArray,List.length_cons,List.length_nil,Nat.reduceAdd,Nat.zero_add,List.range,List.range.loop]
 iterate 4 refine oT ?_
 refine oL ?_
 iterate 2 refine oT ?_
 refine ogE<|ogYn .skip<|ogK ?_
 rw[i0I]
 refine L7<|ogW s6 R9 ?_
 simp only[oC,s6,pC,P1,Tryd.f45,Option.getD_some,List.size_toArray,List.length_cons,List.length_nil,Nat.reduceAdd,Nat.zero_add,List.range,List.range.loop]
 refine oT ?_
 refine oc j04 #[sv] ?_
 refine h _ ?_
 exact⟨rfl,rfl,rfl,rfl,trivial⟩
theorem w0Z{lb wb n m:Nat}{k:Nat}{sv:Value}{x:BitVec 64}(hs:BH lb wb n m w)(hk:k<m)(hc:w.cell? ⟨wb,k,none⟩=some (wV x))(he:((x.toNat:Int) == ((c0I n k).toNat:Int))=true)(hl:k+1=m){A:Array Value}(hA:G0 55 A [(0,vP lb 0),(1,sv),(6,vI (k:Nat))]){c:Frame}
 (h:J0 Tryd.prog main F Stop (G (c.finish (.tuple #[vI 0,vI 3])) cs) w):
 J0 Tryd.prog main F Stop (G ((bA 45 A [.inRegion (oC s6) [1],.code R9,.inBlock 1,.inLoop a0m,.inBlock 0,.code B8]).finish (.tuple #[])) (c::cs)) w:=by
 obtain⟨s,rfl,h0,h1,h6,_⟩:=Y3 e0w hA
 simp only[e0w,h0,h1,h6]
 clear h0 h1 h6
 have c1:=hs.c1
 have hm1k:m≤1024:=by have:=hs.hm;have:=hs.hn;omega
 have hki:(k:Int)<(m:Int):=by omega
 have hw64:IntKind.i64.wrap ((k:Int)+1)=(k:Int)+1:=IntWalk.i64_in _ (by omega)
 have hd:decide ((k:Int)+1<(m:Int))=false:=decide_eq_false (by omega)
 have hd2:decide (k+1<m)=false:=decide_eq_false (by omega)
 rw[Frame.finish_at]
 simp only[oC,s6,pC,P1,Tryd.f45,Option.getD_some,List.size_toArray,List.length_cons,List.length_nil,Nat.reduceAdd,Nat.zero_add,List.range,List.range.loop]
 walk_nrm
 refine ogE<|ogW g0i e0z ?_
 simp only[oC,g0i,pC,P1,Tryd.f45,Option.getD_some,List.size_toArray,List.length_cons,List.length_nil,Nat.reduceAdd,Nat.zero_add,List.range,List.range.loop]
 iterate 3 refine oT ?_
 refine oL ?_
 refine oT ?_
 refine oX ?_
 refine oc j05 #[vP wb k] ?_
 refine a07 hc rfl ?_
 rw[Frame.finish_at]
 walk_nrm
 refine oT ?_
 refine ogE<|ogV h0k h0l<|ogW g0j h0h ?_
 simp only[oC,g0j,pC,P1,Tryd.f45,Option.getD_some,List.size_toArray,List.length_cons,List.length_nil,Nat.reduceAdd,Nat.zero_add,List.range,List.range.loop]
 iterate 3 refine oT ?_
 refine oc e0s #[vP lb 0,vI (k:Nat)] ?_
 refine f0B hs hk ?_
 rw[Frame.finish_at]
 walk_nrm
 refine oT ?_
 refine ogE<|ogYn i0O<|ogSR k0F n0n ?_
 simp only[oC,h0I,pC,P1,Tryd.f45,Option.getD_some,List.size_toArray,List.length_cons,List.length_nil,Nat.reduceAdd,Nat.zero_add,List.range,List.range.loop]
 iterate 3 refine oT ?_
 refine ogE ?_
 refine M0 rfl (fun d=>stepG_exit rfl) ?_
 refine ogL<|ogV g0k e0x<|ogW b0V e0y ?_
 simp only[oC,b0V,pC,P1,Tryd.f45,Option.getD_some,List.size_toArray,List.length_cons,List.length_nil,Nat.reduceAdd,Nat.zero_add,List.range,List.range.loop]
 iterate 4 refine oT ?_
 refine oL ?_
 iterate 2 refine oT ?_
 refine ogE<|ogGn (.exit 0) ?_
 refine M0 rfl (fun d=>stepG_exit rfl) ?_
 refine ogW h0i .ret ?_
 simp only[oC,h0i,pC,P1,Tryd.f45,Option.getD_some,List.size_toArray,List.length_cons,List.length_nil,Nat.reduceAdd,Nat.zero_add,List.range,List.range.loop]
 iterate 2 refine oT ?_
 refine ogE<|ogX ?_
 refine M0 rfl (fun d=>stepG_leave (fn:=Tryd.f45) (v:=.tuple #[vI 0,vI 3]) rfl rfl Tryd.func45 (by simp[results,Tryd.f45]) (by simp[results,Tryd.f45,go_sem])) ?_
 exact h
theorem w01{lb wb n m:Nat}{k:Nat}{sv:Value}{x:BitVec 64}(hs:BH lb wb n m w)(hk:k<m)(hc:w.cell? ⟨wb,k,none⟩=some (wV x))(he:((x.toNat:Int) == ((c0I n k).toNat:Int))=false){nx:BitVec 64}(hT:Tab w)(hnx:nx≠0#64)(hxo:bits .xor .u64 (if IntKind.u64.signed=true then -1 else IntKind.u64.max) (x.toNat:Int)=(nx.toNat:Int)){A:Array Value}(hA:G0 55 A [(0,vP lb 0),(1,sv),(6,vI (k:Nat))])
 (h:∀A,G0 55 A [(0,vP lb 0),(1,sv),(6,vI (k:Nat)),(7,wV x),(8,vI (N8 nx:Nat))]→J0 Tryd.prog main F Stop (G (Frame.enter Tryd.prog 48 #[sv] .normal) ((bA 45 A [.inRegion (oC b0n) [1],.code c0X,.inBlock 1,.inLoop a0m,.inBlock 0,.code B8])::cs)) w):
 J0 Tryd.prog main F Stop (G ((bA 45 A [.inRegion (oC s6) [1],.code R9,.inBlock 1,.inLoop a0m,.inBlock 0,.code B8]).finish (.tuple #[])) (cs)) w:=by
 obtain⟨s,rfl,h0,h1,h6,_⟩:=Y3 e0w hA
 simp only[e0w,h0,h1,h6]
 clear h0 h1 h6
 have c1:=hs.c1
 have hm1k:m≤1024:=by have:=hs.hm;have:=hs.hn;omega
 have hki:(k:Int)<(m:Int):=by omega
 have hw64:IntKind.i64.wrap ((k:Int)+1)=(k:Int)+1:=IntWalk.i64_in _ (by omega)
 rw[Frame.finish_at]
 simp only[oC,s6,pC,P1,Tryd.f45,Option.getD_some,List.size_toArray,List.length_cons,List.length_nil,Nat.reduceAdd,Nat.zero_add,List.range,List.range.loop]
 walk_nrm
 refine ogE<|ogW g0i e0z ?_
 simp only[oC,g0i,pC,P1,Tryd.f45,Option.getD_some,List.size_toArray,List.length_cons,List.length_nil,Nat.reduceAdd,Nat.zero_add,List.range,List.range.loop]
 iterate 3 refine oT ?_
 refine oL ?_
 refine oT ?_
 refine oX ?_
 refine oc j05 #[vP wb k] ?_
 refine a07 hc rfl ?_
 rw[Frame.finish_at]
 walk_nrm
 refine oT ?_
 refine ogE<|ogV h0k h0l<|ogW g0j h0h ?_
 simp only[oC,g0j,pC,P1,Tryd.f45,Option.getD_some,List.size_toArray,List.length_cons,List.length_nil,Nat.reduceAdd,Nat.zero_add,List.range,List.range.loop]
 iterate 3 refine oT ?_
 refine oc e0s #[vP lb 0,vI (k:Nat)] ?_
 refine f0B hs hk ?_
 rw[Frame.finish_at]
 walk_nrm
 refine oT ?_
 refine ogE<|ogGn .skip<|ogK<|ogW r03 n0o ?_
 simp only[oC,r03,pC,P1,Tryd.f45,Option.getD_some,List.size_toArray,List.length_cons,List.length_nil,Nat.reduceAdd,Nat.zero_add,List.range,List.range.loop]
 iterate 2 refine oT ?_
 refine oc f0i #[wV nx] ?_
 refine l03 hT hnx ?_
 rw[Frame.finish_at]
 walk_nrm
 refine oT ?_
 refine ogE<|ogW b0n c0X ?_
 simp only[oC,b0n,pC,P1,Tryd.f45,Option.getD_some,List.size_toArray,List.length_cons,List.length_nil,Nat.reduceAdd,Nat.zero_add,List.range,List.range.loop]
 refine oT ?_
 refine oc j04 #[sv] ?_
 refine h _ ?_
 exact⟨rfl,rfl,rfl,rfl,rfl,rfl,trivial⟩
theorem w02{lb wb n m:Nat}{k i:Nat}{sv:Value}{x y z bb:BitVec 64}(hs:BH lb wb n m w)(hk:k<m)(hi:i<64)(hbb:IntKind.u64.wrap (2 ^ i)=(bb.toNat:Int))(hor:bits .or .u64 (x.toNat:Int) (bb.toNat:Int)=(z.toNat:Int))(hq:((y.toNat:Int) == (x.toNat:Int))=true)(hc:w.cell? ⟨wb,k,none⟩=some (wV y))(hz:w.frozen? ⟨wb,k,none⟩=false)(hnh:¬held F ⟨wb,k,none⟩){A:Array Value}(hA:G0 55 A [(0,vP lb 0),(1,sv),(6,vI (k:Nat)),(7,wV x),(8,vI (i:Nat))]){c:Frame}
 (h:J0 Tryd.prog main F Stop (G (c.finish (.tuple #[vI (64*(k:Int)+(i:Int)),vI 0])) cs) (w.setCell ⟨wb,k,none⟩ (wV z))):
 J0 Tryd.prog main F Stop (G ((bA 45 A [.inRegion (oC b0n) [1],.code c0X,.inBlock 1,.inLoop a0m,.inBlock 0,.code B8]).finish (.tuple #[])) (c::cs)) w:=by
 obtain⟨s,rfl,h0,h1,h6,h7,h8,_⟩:=Y3 e0w hA
 simp only[e0w,h0,h1,h6,h7,h8]
 clear h0 h1 h6 h7 h8
 have hS:∀w d,BH lb wb n m w→BH lb wb n m (World.at w d):=fun w d h=>h.at d
 have c1:=hs.c1
 have hm1k:m≤1024:=by have:=hs.hm;have:=hs.hn;omega
 have hki:(k:Int)<(m:Int):=by omega
 have hw64:IntKind.i64.wrap ((k:Int)+1)=(k:Int)+1:=IntWalk.i64_in _ (by omega)
 have hi64:(i:Int)≤64:=by omega
 have hm1:IntKind.i64.wrap (64*(k:Int))=64*(k:Int):=IntWalk.i64_in _ (by omega)
 have hm2:IntKind.i64.wrap (64*(k:Int)+(i:Int))=64*(k:Int)+(i:Int):=IntWalk.i64_in _ (by omega)
 rw[Frame.finish_at]
 simp only[oC,b0n,pC,P1,Tryd.f45,Option.getD_some,List.size_toArray,List.length_cons,List.length_nil,Nat.reduceAdd,Nat.zero_add,List.range,List.range.loop]
 walk_nrm
 refine ogE<|ogV c0V i0M ?_
 rw[k0C]
 refine T8 (BH lb wb n m) (last:=11) S3 (z8 (by kernel_rfl)) (by decide) ?_
 simp only[oC,c0V,pC,P1,Tryd.f45,Option.getD_some,List.size_toArray,List.length_cons,List.length_nil,Nat.reduceAdd,Nat.zero_add,List.range,List.range.loop]
 refine tkC 0 (vP lb 0) hS hs ?_
 walk_nrm
 refine tkC 1 (vP lb 0) hS hs ?_
 walk_nrm
 refine tkC 2 (vP lb 1) hS hs ?_
 walk_nrm
 refine V9 3 (vL wb 0 m m) (fun u hu=>hu.c1) hS hs ?_
 walk_nrm
 refine tkC 4 (vI (k:Nat)) hS hs ?_
 walk_nrm
 refine t09 5 (vP wb k) (fun u hu=>(And.intro hki hk)) hS hs ?_
 walk_nrm
 refine tkC 6 (wV x) hS hs ?_
 walk_nrm
 refine tkC 7 (wV x) hS hs ?_
 walk_nrm
 refine tkC 8 (vI (i:Nat)) hS hs ?_
 walk_nrm
 refine t09 9 (wV bb) (fun u hu=>(And.intro hi (And.intro hbb hi64))) hS hs ?_
 walk_nrm
 refine t09 10 (wV z) (fun u hu=>hor) hS hs ?_
 walk_nrm
 refine F9 (by kernel_rfl) ?_ _
 refine oc L3 #[vP wb k,wV x,wV z] ?_
 refine c0J (t:=true) hq hc rfl hz hnh ?_
 rw[Frame.finish_at]
 walk_nrm
 simp only[if_true]
 refine ogE<|ogYn t0W<|ogW n0m .ret ?_
 simp only[oC,n0m,pC,P1,Tryd.f45,Option.getD_some,List.size_toArray,List.length_cons,List.length_nil,Nat.reduceAdd,Nat.zero_add,List.range,List.range.loop]
 iterate 6 refine oT ?_
 refine ogE<|ogX ?_
 refine M0 rfl (fun d=>stepG_leave (fn:=Tryd.f45) (v:=.tuple #[vI (64*(k:Int)+(i:Int)),vI 0]) rfl rfl Tryd.func45 (by simp[results,Tryd.f45]) (by simp[results,Tryd.f45,go_sem])) ?_
 exact h
theorem w03{lb wb n m:Nat}{k i:Nat}{sv:Value}{x y z bb:BitVec 64}(hs:BH lb wb n m w)(hk:k<m)(hi:i<64)(hbb:IntKind.u64.wrap (2 ^ i)=(bb.toNat:Int))(hor:bits .or .u64 (x.toNat:Int) (bb.toNat:Int)=(z.toNat:Int))(hq:((y.toNat:Int) == (x.toNat:Int))=false)(hc:w.cell? ⟨wb,k,none⟩=some (wV y))(hz:w.frozen? ⟨wb,k,none⟩=false)(hnh:¬held F ⟨wb,k,none⟩){A:Array Value}(hA:G0 55 A [(0,vP lb 0),(1,sv),(6,vI (k:Nat)),(7,wV x),(8,vI (i:Nat))])
 (h:∀A,G0 55 A [(0,vP lb 0),(1,sv),(6,vI (k:Nat))]→J0 Tryd.prog main F Stop (G (Frame.enter Tryd.prog 48 #[sv] .normal) ((bA 45 A [.inRegion (oC s6) [1],.code R9,.inBlock 1,.inLoop a0m,.inBlock 0,.code B8])::cs)) w):
 J0 Tryd.prog main F Stop (G ((bA 45 A [.inRegion (oC b0n) [1],.code c0X,.inBlock 1,.inLoop a0m,.inBlock 0,.code B8]).finish (.tuple #[])) (cs)) w:=by
 obtain⟨s,rfl,h0,h1,h6,h7,h8,_⟩:=Y3 e0w hA
 simp only[e0w,h0,h1,h6,h7,h8]
 clear h0 h1 h6 h7 h8
 have hS:∀w d,BH lb wb n m w→BH lb wb n m (World.at w d):=fun w d h=>h.at d
 have c1:=hs.c1
 have hm1k:m≤1024:=by have:=hs.hm;have:=hs.hn;omega
 have hki:(k:Int)<(m:Int):=by omega
 have hw64:IntKind.i64.wrap ((k:Int)+1)=(k:Int)+1:=IntWalk.i64_in _ (by omega)
 have hi64:(i:Int)≤64:=by omega
 have hm1:IntKind.i64.wrap (64*(k:Int))=64*(k:Int):=IntWalk.i64_in _ (by omega)
 have hm2:IntKind.i64.wrap (64*(k:Int)+(i:Int))=64*(k:Int)+(i:Int):=IntWalk.i64_in _ (by omega)
 have hd:decide ((k:Int)<(m:Int))=true:=decide_eq_true (by omega)
 have hd2:decide (k<m)=true:=decide_eq_true hk
 rw[Frame.finish_at]
 simp only[oC,b0n,pC,P1,Tryd.f45,Option.getD_some,List.size_toArray,List.length_cons,List.length_nil,Nat.reduceAdd,Nat.zero_add,List.range,List.range.loop]
 walk_nrm
 refine ogE<|ogV c0V i0M ?_
 rw[k0C]
 refine T8 (BH lb wb n m) (last:=11) S3 (z8 (by kernel_rfl)) (by decide) ?_
 simp only[oC,c0V,pC,P1,Tryd.f45,Option.getD_some,List.size_toArray,List.length_cons,List.length_nil,Nat.reduceAdd,Nat.zero_add,List.range,List.range.loop]
 refine tkC 0 (vP lb 0) hS hs ?_
 walk_nrm
 refine tkC 1 (vP lb 0) hS hs ?_
 walk_nrm
 refine tkC 2 (vP lb 1) hS hs ?_
 walk_nrm
 refine V9 3 (vL wb 0 m m) (fun u hu=>hu.c1) hS hs ?_
 walk_nrm
 refine tkC 4 (vI (k:Nat)) hS hs ?_
 walk_nrm
 refine t09 5 (vP wb k) (fun u hu=>(And.intro hki hk)) hS hs ?_
 walk_nrm
 refine tkC 6 (wV x) hS hs ?_
 walk_nrm
 refine tkC 7 (wV x) hS hs ?_
 walk_nrm
 refine tkC 8 (vI (i:Nat)) hS hs ?_
 walk_nrm
 refine t09 9 (wV bb) (fun u hu=>(And.intro hi (And.intro hbb hi64))) hS hs ?_
 walk_nrm
 refine t09 10 (wV z) (fun u hu=>hor) hS hs ?_
 walk_nrm
 refine F9 (by kernel_rfl) ?_ _
 refine oc L3 #[vP wb k,wV x,wV z] ?_
 refine c0J (t:=false) hq hc rfl hz hnh ?_
 rw[Frame.finish_at]
 walk_nrm
 simp only[Bool.false_eq_true,if_false]
 refine ogE<|ogGn .skip<|ogK<|ogI<|ogL<|ogV g0k e0x<|ogW b0V e0y ?_
 simp only[oC,b0V,pC,P1,Tryd.f45,Option.getD_some,List.size_toArray,List.length_cons,List.length_nil,Nat.reduceAdd,Nat.zero_add,List.range,List.range.loop]
 iterate 4 refine oT ?_
 refine oL ?_
 iterate 2 refine oT ?_
 refine ogE<|ogYn .skip<|ogK ?_
 rw[i0I]
 refine L7<|ogW s6 R9 ?_
 simp only[oC,s6,pC,P1,Tryd.f45,Option.getD_some,List.size_toArray,List.length_cons,List.length_nil,Nat.reduceAdd,Nat.zero_add,List.range,List.range.loop]
 refine oT ?_
 refine oc j04 #[sv] ?_
 refine h _ ?_
 exact⟨rfl,rfl,rfl,rfl,trivial⟩
end
section
variable{w w':World}
theorem F1{b j:Nat}(hw:w'.heap[b]? =w.heap[b]?):w'.cell? ⟨b,j,none⟩=w.cell? ⟨b,j,none⟩∧w'.frozen? ⟨b,j,none⟩=w.frozen? ⟨b,j,none⟩:=by
 constructor
 ·unfold World.cell?;simp only[hw]
 ·unfold World.frozen?;simp only[hw]
theorem c0Z{base n size cap g:Nat}{e:TypeId}{xs:List Value}(h:w.ownsRow base e size (vL g 0 n cap) n xs):∀j u,xs[j]? =some u→w.cell? ((⟨g,0,none⟩:Addr).add j)=some u:=by
 intro j u hj
 obtain⟨b,c,e1,h1⟩:=M5 h hj
 cases e1
 have e1:(⟨g,0,none⟩:Addr).add j=⟨g,j,none⟩:=by
  unfold Addr.add
  split
  ·subst_vars;rfl
  ·simp
 rw[e1]
 exact h1.c
theorem G6{P:Program}{w:World}(t ty e:TypeId)(i:TypeInfo)(z:Value)(size bytes:Nat)(ht:P.underlying t=some (.slice e))(hi:P.info? e=some i)(hz:i.zero=some z)
 (g0K:i.size=size) (hby:i.bytes=bytes) (hzs:z.cells.size=size) (hsz:0<size)
 (v:Value) (n:Nat) (xs:List Value) (hown:w.ownsRow 0 e size v n xs)
 (a:Addr) (m c:Nat) (news:List Value) (hl:news.length=m*size) (hnews:∀j u,news[j]? =some u→w.cell? (a.add j)=some u) (h1:∀u∈news,u.oneCell'=true)
 (h63:n+m≤maxLen) (hbytes:(n+m)*bytes≤140737488355328):
 ∃v' w',(Builtin.append_ #[t,t] ty #[v,.slice (some a) m c]).run P w= .ok v' w'∧w'.ownsRow 0 e size v' (n+m) (xs++news)∧w.grownBy w' v.ownBlock∧(v'.ownBlock=v.ownBlock∨∃g,v'.ownBlock=some g∧w.heap.size≤g):=by
 rcases hown.2 with⟨rfl,rfl⟩|⟨g,cap,cur,rfl,h2,h3,h4,h5,h6,h7⟩
 ·have hxs:xs=[]:=List.eq_nil_of_length_eq_zero (by have:=hown.1;simpa using this)
  subst hxs
  obtain⟨v',w',hrun,r1,r2,_⟩:=run_append_own (P:=P) w w.heap.size t ty e i z size bytes ht hi hz g0K hby hzs hsz (.slice none 0 0) 0 [] (World.ownsRow_nil w _ e size) a m c news hl hnews h1 h63 hbytes (Nat.le_refl _)
  refine⟨v',w',hrun,j4 (Nat.zero_le _) r1,r2,?_⟩
  rcases r1.2 with⟨rfl,_⟩|⟨g',cap',cur',rfl,h2,_⟩
  ·exact .inl rfl
  ·exact .inr ⟨g',rfl,h2⟩
 ·by_cases hroom:n+m≤cap
  ·obtain⟨w',hr,r1,r2⟩:=run_append_own_spare (P:=P) w 0 t ty e i size ht hi g0K g n cap xs hown a m c news hl hnews h1 hroom
   exact⟨_,w',hr,r1,r2,.inl rfl⟩
  ·obtain⟨v',w',hrun,r1,r2⟩:=run_append_arg_grows (P:=P) w t ty e i z size bytes ht hi hz g0K hby hzs hsz ⟨g,0,none⟩ n cap xs hown.1 (c0Z hown) a m c news hl hnews (by omega) h63 hbytes
   refine⟨v',w',hrun,j4 (Nat.zero_le _) r1,⟨r2.os,r2.tape,r2.output,r2.size,fun k hk _=>r2.block k hk (by simp)⟩,?_⟩
   rcases r1.2 with⟨rfl,h0⟩|⟨g',cap',cur',rfl,h2,_⟩
   ·omega
   ·exact .inr ⟨g',rfl,h2⟩
theorem I3{P:Program}{ops:Array Oper}{rest:List Oper}{o:Oper}{a:Act}{w:World}{Q:Exit→Act→World→Prop}(hgd:o.guard=none)(s x:Operand)(t:TypeId)
 (ho:o.op= .call {callee:=.builtin .append,args:= #[s,x],argTypes:= #[t,t]})
 (e:TypeId) (i:TypeInfo) (z:Value) (size bytes:Nat) (h1:P.underlying t=some (.slice e)) (h2:P.info? e=some i) (h3:i.zero=some z) (h4:i.size=size) (h5:i.bytes=bytes) (h6:z.cells.size=size) (h7:0<size)
 (v:Value) (n:Nat) (olds:List Value) (hs:a.eval s=v) (hown:w.ownsRow 0 e size v n olds)
 (ad:Addr) (m c:Nat) (news:List Value) (hx:a.eval x= .slice (some ad) m c) (hn:news.length=m*size) (hc:∀j u,news[j]? =some u→w.cell? (ad.add j)=some u) (h1c:∀u∈news,u.oneCell'=true)
 (b1:n+m≤maxLen) (b2:(n+m)*bytes≤140737488355328)
 (h:∀v' w',w'.ownsRow 0 e size v' (n+m) (olds++news)→w.grownBy w' v.ownBlock→(v'.ownBlock=v.ownBlock∨∃g,v'.ownBlock=some g∧w.heap.size≤g)→wpList P ops Q rest (a.put o.dst v') w'):wpList P ops Q (o::rest) a w:=
 wpList_plain hgd fun _ hK=>by
  obtain⟨v',w',hrun,r1,r2,r3⟩:=G6 (P:=P) (w:=w) t o.type e i z size bytes h1 h2 h3 h4 h5 h6 h7 v n olds hown ad m c news hn hc h1c b1 b2
  unfold Oper.wp execOp
  simp only[ho,resolve,invoke,builtin,Sem.run_bind,Sem.run_pure,Result.andThen_ok,List.map_toArray,List.map_cons,List.map_nil,hs,hx,hrun]
  exact hK _ _ (h v' w' r1 r2 r3)
theorem g03{P:Program}{t:TypeId}{s b:Nat}(h:(P.info? t).map (fun i=>(i.zero.map (·.cells.size),i.size,i.bytes))=some (some s,s,b)):∃i z,P.info? t=some i∧i.zero=some z∧i.size=s∧i.bytes=b∧z.cells.size=s:=by
 obtain⟨i,hi,h1⟩:=Option.map_eq_some_iff.1 h
 simp only[Prod.mk.injEq]at h1
 obtain⟨z,hz,h2⟩:=Option.map_eq_some_iff.1 h1.1
 exact⟨i,z,hi,hz,h1.2.1,h1.2.2,h2⟩
theorem t0j:∃i z,Tryd.prog.info? 3=some i∧i.zero=some z∧i.size=1∧i.bytes=8∧z.cells.size=1:=g03 (by kernel_rfl)
theorem i8:∃i z,Tryd.prog.info? 2=some i∧i.zero=some z∧i.size=1∧i.bytes=8∧z.cells.size=1:=g03 (by kernel_rfl)
theorem c0b{X:World}{l:List Value}{e:TypeId}{z:Nat}(hz:X.heap.size=z):∀(j:Nat) (u:Value),l[j]? =some u→(X.alloc (.cells l.toArray e)).cell? ((⟨z,0,none⟩:Addr).add j)=some u:=by
 intro j u h
 subst hz
 have hb:=heap_alloc_new X (.cells l.toArray e)
 have e1:(⟨X.heap.size,0,none⟩:Addr).add j=⟨X.heap.size,j,none⟩:=by
  unfold Addr.add
  split
  ·subst_vars;rfl
  ·simp
 rw[e1]
 simp only[World.cell?,hb]
 simpa using h
theorem j5{v:Value}{base n size:Nat}{e:TypeId}{xs:List Value}(h:w.ownsRow base e size v (n+1) xs):∃g cap,v=vL g 0 (n+1) cap:=by
 rcases h.2 with⟨_,h⟩|⟨g,cap,_,h,_⟩
 ·omega
 ·exact⟨g,cap,h⟩
theorem K3{W w1:World}{o:Obj}{row:Option Nat}(hg:(W.alloc o).grownBy w1 row){r:Nat}(hr:r<W.heap.size)(hne:some r≠row):w1.heap[r]? =W.heap[r]?:=
 (hg.block r (by simp;omega) hne).trans (D0 _ _ hr)
structure B5(w:World)(a:Option Addr)(xs:List Value):Prop where
 c:∀k x,xs[k]? =some x→∃b o,a=some ⟨b,o,none⟩∧w.cell? ⟨b,o+k,none⟩=some x
theorem B5.heap{a:Option Addr}{xs:List Value}(h:B5 w a xs)(e:w'.heap=w.heap):B5 w' a xs:=
 ⟨fun k x hx=>by
  obtain⟨b,o,h1,h2⟩:=h.c k x hx
  exact⟨b,o,h1,by simpa only[World.cell?,e]using h2⟩⟩
theorem c0E{base n size c:Nat}{e:TypeId}{a:Option Addr}{xs:List Value}(h:w.ownsRow base e size (.slice a n c) n xs):B5 w a xs:=
 ⟨fun k x hx=>by
  obtain⟨b,cap,e1,h1⟩:=M5 h hx
  cases e1
  exact⟨b,0,rfl,by rw[Nat.zero_add];exact h1.c⟩⟩
end
section
variable{F:Fz}{w:World}
theorem d0z{b:Frame}{a:Act}{k:List Item}{cs:List Frame}{ops:Array Oper}{i:Nat}{rest:List Nat}{o:Oper}{main:Bool}{Stop:Goroutine→World→Prop}(ho:ops[i]? =some o)(hwn:Region.wanted o (yielded ops a.tmps)=true)(hk:b.kind≠.early)(hok:h0a Tryd.prog (fun _=>false) false o.op=true)(hw:Wf F w)
 (H:∀d,∃v u,(execOp a.eval o).run Tryd.prog (L1 F (w.at d))= .ok (.value v) u∧∀w',u=L1 F w'→(∃j,V3 F (w.at d) w' j)→Wf F w'→J0 Tryd.prog main F Stop (G (b.at (a.put o.dst v) (.inRegion ops rest::k)) cs) w'):
 J0 Tryd.prog main F Stop (G (b.at a (.inRegion ops (i::rest)::k)) cs) w:=by
 refine oW (fun d K hK=>?_) ho hwn hk
 obtain⟨v,u,hr,hc⟩:=H d
 have hs:=a0J (P:=Tryd.prog) (F:=F) (S:=fun _=>false) (px:=false) (fun f h=>by cases h) (fun h=>by cases h) a.eval (fun _=>rfl) (fun _=>rfl) o hok (w.at d) ⟨hw.own⟩
 obtain⟨w',es,j,hu,r1,e1,t1,g1,hw1,_⟩:=hs.ok hr
 rw[r1]
 refine hK _ _ ⟨⟨⟨j,g1⟩,fun e he=>?_⟩,hc w' hu ⟨j,g1⟩ hw1⟩
 have hm:=mem_listed he
 rw[e1]at hm
 exact t1 e (by simpa using hm)
theorem S8{t e:TypeId}{sz bytes:Nat}(ht:Tryd.prog.underlying t=some (.slice e))(hi:∃i z,Tryd.prog.info? e=some i∧i.zero=some z∧i.size=sz∧i.bytes=bytes∧z.cells.size=sz)(hsz:0<sz)
 {b:Frame} {a:Act} {k:List Item} {cs:List Frame} {ops:Array Oper} {i:Nat} {rest:List Nat} {o:Oper} {main:Bool} {Stop:Goroutine→World→Prop} {s x:Operand} (ho:ops[i]? =some o) (hwn:Region.wanted o (yielded ops a.tmps)=true) (hk:b.kind≠.early)
 (hop:o.op= .call {callee:=.builtin .append,args:= #[s,x],argTypes:= #[t,t]}) (hw:Wf F w) {v:Value} {n m c:Nat} {xs news:List Value} {ad:Addr} (hs:a.eval s=v) (hx:a.eval x= .slice (some ad) m c) (hrow:w.ownsRow 0 e sz v n xs) (hF:∀b,v.ownBlock=some b→F b=none)
 (hl:news.length=m*sz) (hc:∀j u,news[j]? =some u→w.cell? (ad.add j)=some u) (h1:∀u∈news,u.oneCell'=true) (b1:n+m≤maxLen) (b2:(n+m)*bytes≤140737488355328)
 (K:∀v' w',w'.ownsRow 0 e sz v' (n+m) (xs++news)→Wf F w'→w.heap.size≤w'.heap.size→(∀r,r<w.heap.size→some r≠v.ownBlock→w'.heap[r]? =w.heap[r]?)→(v'.ownBlock=v.ownBlock∨∃g,v'.ownBlock=some g∧w.heap.size≤g)→J0 Tryd.prog main F Stop (G (b.at (a.put o.dst v') (.inRegion ops rest::k)) cs) w'):
 J0 Tryd.prog main F Stop (G (b.at a (.inRegion ops (i::rest)::k)) cs) w:=by
 obtain⟨i0,z0,q1,q2,q3,q4,q5⟩:=hi
 refine d0z ho hwn hk (by rw[hop];rfl) hw fun d=>?_
 have hrowm:(L1 F (w.at d)).ownsRow 0 e sz v n xs:=G1 hrow fun b hb _=>by rw[I2 (hF b hb)];rfl
 obtain⟨v',u,hr,r1,r2,r3⟩:=G6 (P:=Tryd.prog) (w:=L1 F (w.at d)) t o.type e i0 z0 sz bytes ht q1 q2 q3 q4 q5 hsz v n xs hrowm ad m c news hl (fun j u hu=>(l9 _).trans (hc j u hu)) h1 b1 b2
 refine⟨v',u,V6 s x t hop hs hx hr,fun w' hu hg hw'=>?_⟩
 subst hu
 obtain⟨j,hg⟩:=hg
 have hsm:(L1 F (w.at d)).heap.size=w.heap.size:=by rw[M4];rfl
 have hs2:w.heap.size≤w'.heap.size:=by
  have:=r2.size
  rw[hsm,M4]at this
  exact this
 have hn:∀b,v'.ownBlock=some b→F b=none:=fun b hb=>by
  rcases r3 with e|⟨g,e,h⟩
  ·exact hF b (by rw[← e];exact hb)
  ·have hbg:b=g:=by rw[e]at hb;exact(Option.some.inj hb).symm
   rw[hsm]at h
   rw[hbg]
   cases hz:F g with
   | none=>rfl
   | some z=>
     obtain⟨c,e,z0,h2,_⟩:=hw.own g z hz
     have:=(Q3 h2)
     omega
 refine K v' w' (G1 r1 fun b hb _=>(I2 (hn b hb)).symm) hw' hs2 (fun r hr hne=>?_) (r3.imp_right fun⟨g,h1,h2⟩=>⟨g,h1,by rw[hsm]at h2;exact h2⟩)
 exact c0U (w:=w.at d) hg (r2.block r (by rw[hsm];exact hr) hne) hr
structure e0r(e:TypeId)(F:Fz)(w w':World)(ov ov':Value)(xs:List Int)(u:Int):Prop where
 row:w'.ownsRow 0 e 1 ov' (xs.length+1) ((xs++[u]).map fun v=>vI v)
 wf:Wf F w'
 size:w.heap.size≤w'.heap.size
 old:∀r,r<w.heap.size→some r≠ov.ownBlock→w'.heap[r]? =w.heap[r]?
 blk:ov'.ownBlock=ov.ownBlock∨∃g,ov'.ownBlock=some g∧w.heap.size≤g
end
noncomputable section
variable {cs:List Frame}{main:Bool}{Stop:Goroutine→World→Prop}
variable{F:Fz}{w:World}
def J2:Code:=Tryd.f30.body.getD .skip
def w0j:=pC [] J2
def k0T:=pC [zt] J2
def n0V:=pC [zf] J2
def k0U:=pC [zf,zt] J2
def k05:=pC [zf] n0V
def n0W:=pC [zt] k05
def k0W:=pC [zf,zf,zt,zt] J2
def k0R:=pC [zf] n0W
def n0R:=pC [zt] k0R
def a0v:=pC [zt] n0R
def d0J:=pC [zf,zf,zt,zf,zt,zt,zt] J2
def g0t:=pC [zf] a0v
def h0q:=pC [zt] g0t
def h0N:=pC [zf] g0t
def k0S:=pC [zt] h0N
def s0q:=pC [zt] k0S
def k01:=pC [zf,zf,zt,zf,zt,zt,zf,zf,zt,zt,zt] J2
def n0X:=pC [zf] s0q
def b0W:=pC [zf,zf,zt,zf,zt,zt,zf,zf,zt,zt,zf,zt] J2
def b0q:=pC [zf] n0X
def s0p:=pC [zf,zf,zt,zf,zt,zt,zf,zf,zt,zt,zf,zf,zt] J2
def n0H:=pC [zf] b0q
def j0i:=pC [zt] n0H
def a0O:=pC [zt] j0i
def j0j:=pC [zt] a0O
def a0u:=pC [zf,zf,zt,zf,zt,zt,zf,zf,zt,zt,zf,zf,zf,zt,zt,zt,zt] J2
def a00:=pC [zf] j0j
def a0P:=pC [zf] a0O
def s0o:=pC [zt] a0P
def k04:=pC [zf,zf,zt,zf,zt,zt,zf,zf,zt,zt,zf,zf,zf,zt,zt,zf,zt,zt] J2
def k03:=pC [zf,zf,zt,zf,zt,zt,zf,zf,zt,zt,zf,zf,zf,zt,zt,zf,zf] J2
def f6:=pC [zf,zf,zt,zf,zt,zt,zf,zf,zf] J2
def J7:=pC [zf] k05
def h0r:=pC [zf,zf,zf,zt] J2
theorem n0F:k0R= .block 0 n0R:=by kernel_rfl
theorem n0T:n0R= .loop a0v:=by kernel_rfl
theorem n0G:k0S= .block 1 s0q:=by kernel_rfl
theorem u0f:n0H= .block 2 j0i:=by kernel_rfl
theorem q0K:j0i= .loop a0O:=by kernel_rfl
theorem u0g:s0o= .block 3 k04:=by kernel_rfl
theorem u0p:k04= .region 9 (oC k04) false:=by kernel_rfl
theorem u0i:k03= .region 8 (oC k03) false:=by kernel_rfl
theorem k0V:f6= .region 10 (oC f6) false:=by kernel_rfl
theorem g0D(args:Array Value):Frame.enter Tryd.prog 30 args .normal=(Go.Conc.base 30).at {tmps:=args++Array.replicate (40 - args.size) undef,defers:=[]} [.code w0j]:=enter_at args Tryd.func30 rfl
theorem c0a:O1 30:=G2 Tryd.func30 rfl rfl
def h0p(s:Nat→Value):Array Value:= #[s 0,s 1,s 2,s 3,s 4,s 5,s 6,s 7,s 8,s 9,s 10,s 11,s 12,s 13,s 14,s 15,s 16,s 17,s 18,s 19,s 20,s 21,s 22,s 23,s 24,s 25,s 26,s 27,s 28,s 29,s 30,s 31,s 32,s 33,s 34,s 35,s 36,s 37,s 38,s 39]
theorem y0D{A:Array Value}(h:A.size=40):∃s,A=h0p s:=by
 obtain⟨s,hs,_⟩:=Y4 A h
 exact⟨s,hs⟩
theorem p0q{lb wb n m:Nat}{sv:Value}(hs:BH lb wb n m w)(h0:m=0){c:Frame}
 (h:J0 Tryd.prog main F Stop (G (c.finish (.slice none 0 0)) cs) w):
 J0 Tryd.prog main F Stop (G (Frame.enter Tryd.prog 30 #[vP lb 0,sv] .normal) (c::cs)) w:=by
 have hn:=hs.hn
 have hmm:=hs.hm
 have w1:IntKind.i64.wrap ((n:Int)+63)=(n:Int)+63:=IntWalk.i64_in _ (by omega)
 have w2:IntKind.i64.wrap (((n:Int)+63).tdiv 64)=(m:Int):=by
  rw[Int.tdiv_eq_ediv_of_nonneg (by omega),IntWalk.i64_in _ (by omega)]
  omega
 clear hmm
 have hd:decide (0<m)=false:=decide_eq_false (by omega)
 have hd2:decide (0<(m:Int))=false:=decide_eq_false (by omega)
 rw[g0D]
 walk_nrm
 refine ogW k0T n0V ?_
 simp only[oC,k0T,pC,J2,Tryd.f30,Option.getD_some,List.size_toArray,List.length_cons,List.length_nil,Nat.reduceAdd,Nat.zero_add,List.range,List.range.loop]
 refine oT ?_
 refine ogE<|ogW k0U k05 ?_
 simp only[oC,k0U,pC,J2,Tryd.f30,Option.getD_some,List.size_toArray,List.length_cons,List.length_nil,Nat.reduceAdd,Nat.zero_add,List.range,List.range.loop]
 refine oT ?_
 refine ogE<|ogV n0W J7<|ogW k0W k0R ?_
 simp only[oC,k0W,pC,J2,Tryd.f30,Option.getD_some,List.size_toArray,List.length_cons,List.length_nil,Nat.reduceAdd,Nat.zero_add,List.range,List.range.loop]
 refine oT ?_
 refine oc Y9 #[vP lb 0] ?_
 refine a0T hs ?_
 rw[Frame.finish_at]
 walk_nrm
 iterate 3 refine oT ?_
 refine ogE ?_
 rw[n0F]
 refine L7 ?_
 rw[n0T]
 refine ogP<|ogW d0J g0t ?_
 simp only[oC,d0J,pC,J2,Tryd.f30,Option.getD_some,List.size_toArray,List.length_cons,List.length_nil,Nat.reduceAdd,Nat.zero_add,List.range,List.range.loop]
 refine oT ?_
 refine ogE<|ogV h0q h0N<|ogGn (.exit 0) ?_
 refine M0 rfl (fun d=>stepG_exit rfl) ?_
 refine ogW h0r .ret ?_
 simp only[oC,h0r,pC,J2,Tryd.f30,Option.getD_some,List.size_toArray,List.length_cons,List.length_nil,Nat.reduceAdd,Nat.zero_add,List.range,List.range.loop]
 iterate 2 refine oT ?_
 refine ogE<|ogX ?_
 refine M0 rfl (fun d=>stepG_leave (fn:=Tryd.f30) (v:=.slice none 0 0) rfl rfl Tryd.func30 (by simp[results,Tryd.f30]) (by simp[results,Tryd.f30,go_sem])) ?_
 exact h
theorem v0q{lb wb n m:Nat}{sv:Value}(hs:BH lb wb n m w)(h0:0<m)
 (h:∀A,G0 40 A [(0,vP lb 0),(1,sv),(5,.slice none 0 0),(6,vI (0:Nat)),(11,vI (m:Nat)),(12,vI (0:Nat))]→J0 Tryd.prog main F Stop (G (Frame.enter Tryd.prog 48 #[sv] .normal) ((bA 30 A [.inRegion (oC b0W) [1],.code b0q,.inBlock 1,.code f6,.inLoop a0v,.inBlock 0,.code J7])::cs)) w):
 J0 Tryd.prog main F Stop (G (Frame.enter Tryd.prog 30 #[vP lb 0,sv] .normal) cs) w:=by
 have hn:=hs.hn
 have hmm:=hs.hm
 have w1:IntKind.i64.wrap ((n:Int)+63)=(n:Int)+63:=IntWalk.i64_in _ (by omega)
 have w2:IntKind.i64.wrap (((n:Int)+63).tdiv 64)=(m:Int):=by
  rw[Int.tdiv_eq_ediv_of_nonneg (by omega),IntWalk.i64_in _ (by omega)]
  omega
 clear hmm
 have hd:decide (0<m)=true:=decide_eq_true (by omega)
 have hd2:decide (0<(m:Int))=true:=decide_eq_true (by omega)
 rw[g0D]
 walk_nrm
 refine ogW k0T n0V ?_
 simp only[oC,k0T,pC,J2,Tryd.f30,Option.getD_some,List.size_toArray,List.length_cons,List.length_nil,Nat.reduceAdd,Nat.zero_add,List.range,List.range.loop]
 refine oT ?_
 refine ogE<|ogW k0U k05 ?_
 simp only[oC,k0U,pC,J2,Tryd.f30,Option.getD_some,List.size_toArray,List.length_cons,List.length_nil,Nat.reduceAdd,Nat.zero_add,List.range,List.range.loop]
 refine oT ?_
 refine ogE<|ogV n0W J7<|ogW k0W k0R ?_
 simp only[oC,k0W,pC,J2,Tryd.f30,Option.getD_some,List.size_toArray,List.length_cons,List.length_nil,Nat.reduceAdd,Nat.zero_add,List.range,List.range.loop]
 refine oT ?_
 refine oc Y9 #[vP lb 0] ?_
 refine a0T hs ?_
 rw[Frame.finish_at]
 walk_nrm
 iterate 3 refine oT ?_
 refine ogE ?_
 rw[n0F]
 refine L7 ?_
 rw[n0T]
 refine ogP<|ogW d0J g0t ?_
 simp only[oC,d0J,pC,J2,Tryd.f30,Option.getD_some,List.size_toArray,List.length_cons,List.length_nil,Nat.reduceAdd,Nat.zero_add,List.range,List.range.loop]
 refine oT ?_
 refine ogE<|ogV h0q h0N<|ogYn .skip<|ogK<|ogV k0S f6 ?_
 rw[n0G]
 refine L7<|ogW k01 n0X ?_
 simp only[oC,k01,pC,J2,Tryd.f30,Option.getD_some,List.size_toArray,List.length_cons,List.length_nil,Nat.reduceAdd,Nat.zero_add,List.range,List.range.loop]
 iterate 2 refine oT ?_
 refine ogE<|ogW b0W b0q ?_
 simp only[oC,b0W,pC,J2,Tryd.f30,Option.getD_some,List.size_toArray,List.length_cons,List.length_nil,Nat.reduceAdd,Nat.zero_add,List.range,List.range.loop]
 refine oT ?_
 refine oc j04 #[sv] ?_
 refine h _ ?_
 exact⟨rfl,rfl,rfl,rfl,rfl,rfl,rfl,trivial⟩
theorem r0g{lb wb n m:Nat}{k:Nat}{sv ov:Value}{x:BitVec 64}(hs:BH lb wb n m w)(hk:k<m)(hc:w.cell? ⟨wb,k,none⟩=some (wV x)){A:Array Value}(hA:G0 40 A [(0,vP lb 0),(1,sv),(5,ov),(6,vI (k:Nat)),(11,vI (m:Nat)),(12,vI (k:Nat))])
 (h:∀A,G0 40 A [(0,vP lb 0),(1,sv),(5,ov),(6,vI (k:Nat)),(7,wV x),(11,vI (m:Nat)),(12,vI (k:Nat))]→J0 Tryd.prog main F Stop (G (bA 30 A [.inRegion (oC a0u) [0,1],.code a00,.code a0P,.inLoop a0O,.inBlock 2,.inBlock 1,.code f6,.inLoop a0v,.inBlock 0,.code J7]) cs) w):
 J0 Tryd.prog main F Stop (G ((bA 30 A [.inRegion (oC b0W) [1],.code b0q,.inBlock 1,.code f6,.inLoop a0v,.inBlock 0,.code J7]).finish (.tuple #[])) (cs)) w:=by
 obtain⟨s,rfl,h0,h1,h5,h6,h11,h12,_⟩:=Y3 h0p hA
 simp only[h0p,h0,h1,h5,h6,h11,h12]
 clear h0 h1 h5 h6 h11 h12
 have c1:=hs.c1
 have hki:(k:Int)<(m:Int):=by omega
 rw[Frame.finish_at]
 simp only[oC,b0W,pC,J2,Tryd.f30,Option.getD_some,List.size_toArray,List.length_cons,List.length_nil,Nat.reduceAdd,Nat.zero_add,List.range,List.range.loop]
 walk_nrm
 refine ogE<|ogW s0p n0H ?_
 simp only[oC,s0p,pC,J2,Tryd.f30,Option.getD_some,List.size_toArray,List.length_cons,List.length_nil,Nat.reduceAdd,Nat.zero_add,List.range,List.range.loop]
 iterate 3 refine oT ?_
 refine oL ?_
 refine oT ?_
 refine oX ?_
 refine oc j05 #[vP wb k] ?_
 refine a07 hc rfl ?_
 rw[Frame.finish_at]
 walk_nrm
 refine oT ?_
 refine ogE ?_
 rw[u0f]
 refine L7 ?_
 rw[q0K]
 refine ogP<|ogV j0j a0P<|ogW a0u a00 ?_
 simp only[oC,a0u,pC,J2,Tryd.f30,Option.getD_some,List.size_toArray,List.length_cons,List.length_nil,Nat.reduceAdd,Nat.zero_add,List.range,List.range.loop]
 refine h _ ?_
 exact⟨rfl,rfl,rfl,rfl,rfl,rfl,rfl,rfl,trivial⟩
theorem p0r{lb m k:Nat}{sv ov:Value}(hm:m≤1024)(hl:k+1<m){A:Array Value}(hA:G0 40 A [(0,vP lb 0),(1,sv),(5,ov),(6,vI (k:Nat)),(7,wV 0#64),(11,vI (m:Nat)),(12,vI (k:Nat))])
 (h:∀A,G0 40 A [(0,vP lb 0),(1,sv),(5,ov),(6,vI (k+1:Nat)),(11,vI (m:Nat)),(12,vI (k+1:Nat))]→J0 Tryd.prog main F Stop (G (Frame.enter Tryd.prog 48 #[sv] .normal) ((bA 30 A [.inRegion (oC b0W) [1],.code b0q,.inBlock 1,.code f6,.inLoop a0v,.inBlock 0,.code J7])::cs)) w):
 J0 Tryd.prog main F Stop (G (bA 30 A [.inRegion (oC a0u) [0,1],.code a00,.code a0P,.inLoop a0O,.inBlock 2,.inBlock 1,.code f6,.inLoop a0v,.inBlock 0,.code J7]) cs) w:=by
 obtain⟨s,rfl,h0,h1,h5,h6,h7,h11,h12,_⟩:=Y3 h0p hA
 simp only[h0p,h0,h1,h5,h6,h7,h11,h12]
 clear h0 h1 h5 h6 h7 h11 h12
 have hk64:IntKind.i64.wrap ((k:Int)+1)=(k:Int)+1:=IntWalk.i64_in _ (by omega)
 have hd:decide ((k:Int)+1<(m:Int))=true:=by simp;omega
 have hd2:decide (k+1<m)=true:=by simp;omega
 simp only[oC,a0u,pC,J2,Tryd.f30,Option.getD_some,List.size_toArray,List.length_cons,List.length_nil,Nat.reduceAdd,Nat.zero_add,List.range,List.range.loop]
 iterate 2 refine oT ?_
 refine ogE<|ogGn (.exit 2) ?_
 refine M0 rfl (fun d=>stepG_exit rfl) ?_
 refine ogI ?_
 rw[k0V]
 refine ogR ?_
 simp only[oC,f6,pC,J2,Tryd.f30,Option.getD_some,List.size_toArray,List.length_cons,List.length_nil,Nat.reduceAdd,Nat.zero_add,List.range,List.range.loop]
 iterate 2 refine oT ?_
 refine ogE<|ogL<|ogW d0J g0t ?_
 simp only[oC,d0J,pC,J2,Tryd.f30,Option.getD_some,List.size_toArray,List.length_cons,List.length_nil,Nat.reduceAdd,Nat.zero_add,List.range,List.range.loop]
 refine oT ?_
 refine ogE<|ogV h0q h0N<|ogYn .skip<|ogK<|ogV k0S f6 ?_
 rw[n0G]
 refine L7<|ogW k01 n0X ?_
 simp only[oC,k01,pC,J2,Tryd.f30,Option.getD_some,List.size_toArray,List.length_cons,List.length_nil,Nat.reduceAdd,Nat.zero_add,List.range,List.range.loop]
 iterate 2 refine oT ?_
 refine ogE<|ogW b0W b0q ?_
 simp only[oC,b0W,pC,J2,Tryd.f30,Option.getD_some,List.size_toArray,List.length_cons,List.length_nil,Nat.reduceAdd,Nat.zero_add,List.range,List.range.loop]
 refine oT ?_
 refine oc j04 #[sv] ?_
 refine h _ ?_
 exact⟨rfl,rfl,rfl,rfl,rfl,rfl,rfl,trivial⟩
theorem p0s{lb m k:Nat}{sv ov:Value}(hm:m≤1024)(hl:k+1=m){A:Array Value}(hA:G0 40 A [(0,vP lb 0),(1,sv),(5,ov),(6,vI (k:Nat)),(7,wV 0#64),(11,vI (m:Nat)),(12,vI (k:Nat))]){c:Frame}
 (h:J0 Tryd.prog main F Stop (G (c.finish ov) cs) w):
 J0 Tryd.prog main F Stop (G (bA 30 A [.inRegion (oC a0u) [0,1],.code a00,.code a0P,.inLoop a0O,.inBlock 2,.inBlock 1,.code f6,.inLoop a0v,.inBlock 0,.code J7]) (c::cs)) w:=by
 obtain⟨s,rfl,h0,h1,h5,h6,h7,h11,h12,_⟩:=Y3 h0p hA
 simp only[h0p,h0,h1,h5,h6,h7,h11,h12]
 clear h0 h1 h5 h6 h7 h11 h12
 have hk64:IntKind.i64.wrap ((k:Int)+1)=(k:Int)+1:=IntWalk.i64_in _ (by omega)
 have hd:decide ((k:Int)+1<(m:Int))=false:=by simp;omega
 have hd2:decide (k+1<m)=false:=by simp;omega
 simp only[oC,a0u,pC,J2,Tryd.f30,Option.getD_some,List.size_toArray,List.length_cons,List.length_nil,Nat.reduceAdd,Nat.zero_add,List.range,List.range.loop]
 iterate 2 refine oT ?_
 refine ogE<|ogGn (.exit 2) ?_
 refine M0 rfl (fun d=>stepG_exit rfl) ?_
 refine ogI ?_
 rw[k0V]
 refine ogR ?_
 simp only[oC,f6,pC,J2,Tryd.f30,Option.getD_some,List.size_toArray,List.length_cons,List.length_nil,Nat.reduceAdd,Nat.zero_add,List.range,List.range.loop]
 iterate 2 refine oT ?_
 refine ogE<|ogL<|ogW d0J g0t ?_
 simp only[oC,d0J,pC,J2,Tryd.f30,Option.getD_some,List.size_toArray,List.length_cons,List.length_nil,Nat.reduceAdd,Nat.zero_add,List.range,List.range.loop]
 refine oT ?_
 refine ogE<|ogV h0q h0N<|ogGn (.exit 0) ?_
 refine M0 rfl (fun d=>stepG_exit rfl) ?_
 refine ogW h0r .ret ?_
 simp only[oC,h0r,pC,J2,Tryd.f30,Option.getD_some,List.size_toArray,List.length_cons,List.length_nil,Nat.reduceAdd,Nat.zero_add,List.range,List.range.loop]
 iterate 2 refine oT ?_
 refine ogE<|ogX ?_
 refine M0 rfl (fun d=>stepG_leave (fn:=Tryd.f30) (v:=ov) rfl rfl Tryd.func30 (by simp[results,Tryd.f30]) (by simp[results,Tryd.f30,go_sem])) ?_
 exact h
theorem y0X{lb m k:Nat}{sv ov:Value}{y y1 y2:BitVec 64}{xs:List Int}{nn:Nat}(hU:i2 F nn)(hn:nn≤w.heap.size)(hwf:Wf F w)(hT:Tab w)(hy:y≠0#64)(hyd:((y.toNat:Int) != 0)=true)(hp:IntKind.u64.wrap ((y.toNat:Int) - 1)=(y1.toNat:Int))(ha:bits .and .u64 (y.toNat:Int) (y1.toNat:Int)=(y2.toNat:Int))(hx:xs.length≤65536)(hkb:k≤1024)(hrow:w.ownsRow 0 3 1 ov xs.length (xs.map fun v=>vI v))(hF:∀b,ov.ownBlock=some b→F b=none){A:Array Value}(hA:G0 40 A [(0,vP lb 0),(1,sv),(5,ov),(6,vI (k:Nat)),(7,wV y),(11,vI (m:Nat)),(12,vI (k:Nat))])
 (h:∀ov' w' A,e0r 3 F w w' ov ov' xs (64*(k:Int)+(N8 y:Nat))→G0 40 A [(0,vP lb 0),(1,sv),(5,ov'),(6,vI (k:Nat)),(7,wV y2),(11,vI (m:Nat)),(12,vI (k:Nat))]→J0 Tryd.prog main F Stop (G (bA 30 A [.inRegion (oC a0u) [0,1],.code a00,.code a0P,.inLoop a0O,.inBlock 2,.inBlock 1,.code f6,.inLoop a0v,.inBlock 0,.code J7]) cs) w'):
 J0 Tryd.prog main F Stop (G (bA 30 A [.inRegion (oC a0u) [0,1],.code a00,.code a0P,.inLoop a0O,.inBlock 2,.inBlock 1,.code f6,.inLoop a0v,.inBlock 0,.code J7]) cs) w:=by
 obtain⟨s,rfl,h0,h1,h5,h6,h7,h11,h12,_⟩:=Y3 h0p hA
 simp only[h0p,h0,h1,h5,h6,h7,h11,h12]
 clear h0 h1 h5 h6 h7 h11 h12
 have hj:=(b0t hy).1
 have w1:IntKind.i64.wrap (64*(k:Int))=64*(k:Int):=IntWalk.i64_in _ (by omega)
 have w2:IntKind.i64.wrap (64*(k:Int)+(N8 y:Nat))=64*(k:Int)+(N8 y:Nat):=IntWalk.i64_in _ (by omega)
 simp only[oC,a0u,pC,J2,Tryd.f30,Option.getD_some,List.size_toArray,List.length_cons,List.length_nil,Nat.reduceAdd,Nat.zero_add,List.range,List.range.loop]
 iterate 2 refine oT ?_
 refine ogE<|ogYn .skip<|ogK<|ogV s0o k03 ?_
 rw[u0g]
 refine L7 ?_
 rw[u0p]
 refine ogR ?_
 simp only[oC,k04,pC,J2,Tryd.f30,Option.getD_some,List.size_toArray,List.length_cons,List.length_nil,Nat.reduceAdd,Nat.zero_add,List.range,List.range.loop]
 iterate 4 refine oT ?_
 refine oc f0i #[wV y] ?_
 refine l03 hT hy ?_
 rw[Frame.finish_at]
 walk_nrm
 refine oT ?_
 refine oA hU ?_
 refine S8 (s:=.tmp 30) (x:=.tmp 36) (t:=24) (e:=3) (sz:=1) (bytes:=8) (news:=[vI (64*(k:Int)+(N8 y:Nat))]) (m:=1) (c:=1) (ad:=⟨w.heap.size,0,none⟩) Tryd.underlying24 t0j (by decide) rfl rfl (by decide) rfl (hwf.of_grew (Y0 hU hn _)) (v:=ov) rfl rfl (hrow.alloc _) hF rfl (c0b (X:=w) (l:=[vI (64*(k:Int)+(N8 y:Nat))]) rfl) (by intro q hq;simp at hq;subst hq;rfl) (by unfold maxLen;omega) (by omega) fun ov' w' g1 g2 g3 g4 g5=>?_
 have hg:e0r 3 F w w' ov ov' xs (64*(k:Int)+(N8 y:Nat)):=⟨by rw[List.map_append];exact g1,g2,by simp at g3;omega,fun q hq hne=>by rw[g4 q (by simp;omega) hne,D0 _ _ hq],g5.imp_right fun⟨g,h1,h2⟩=>⟨g,h1,by simp at h2;omega⟩⟩
 clear g1 g2 g3 g4 g5 hrow hwf
 walk_nrm
 refine oT ?_
 refine ogE<|ogI ?_
 rw[u0i]
 refine ogR ?_
 simp only[oC,k03,pC,J2,Tryd.f30,Option.getD_some,List.size_toArray,List.length_cons,List.length_nil,Nat.reduceAdd,Nat.zero_add,List.range,List.range.loop]
 iterate 5 refine oT ?_
 refine ogE<|ogL<|ogV j0j a0P<|ogW a0u a00 ?_
 simp only[oC,a0u,pC,J2,Tryd.f30,Option.getD_some,List.size_toArray,List.length_cons,List.length_nil,Nat.reduceAdd,Nat.zero_add,List.range,List.range.loop]
 refine h ov' w' _ hg ?_
 exact⟨rfl,rfl,rfl,rfl,rfl,rfl,rfl,rfl,trivial⟩
end
noncomputable section
variable {cs:List Frame}{main:Bool}{Stop:Goroutine→World→Prop}
variable{F:Fz}{w:World}
def a0W:Code:=Tryd.f46.body.getD .skip
def w0a:=pC [] a0W
def r05:=pC [zt] a0W
def w0b:=pC [zf] a0W
def g0m:=pC [zf,zt] a0W
theorem m0p(args:Array Value):Frame.enter Tryd.prog 46 args .normal=(Go.Conc.base 46).at {tmps:=args++Array.replicate (9 - args.size) undef,defers:=[]} [.code w0a]:=enter_at args Tryd.func46 rfl
theorem j0q:O1 46:=G2 Tryd.func46 rfl rfl
def t0X(s:Nat→Value):Array Value:= #[s 0,s 1,s 2,s 3,s 4,s 5,s 6,s 7,s 8]
theorem y0z{A:Array Value}(h:A.size=9):∃s,A=t0X s:=by
 obtain⟨s,hs,_⟩:=Y4 A h
 exact⟨s,hs⟩
theorem q0X{xv sv:Value}
 (h:∀A,G0 9 A [(0,xv)]→J0 Tryd.prog main F Stop (G (Frame.enter Tryd.prog 30 #[xv,sv] .normal) ((bA 46 A [.inRegion (oC g0m) [2,3,4],.code .ret])::cs)) w):
 J0 Tryd.prog main F Stop (G (Frame.enter Tryd.prog 46 #[xv,sv] .normal) cs) w:=by
 rw[m0p]
 walk_nrm
 refine ogW r05 w0b ?_
 simp only[oC,r05,pC,a0W,Tryd.f46,Option.getD_some,List.size_toArray,List.length_cons,List.length_nil,Nat.reduceAdd,Nat.zero_add,List.range,List.range.loop]
 refine oT ?_
 refine ogE<|ogW g0m .ret ?_
 simp only[oC,g0m,pC,a0W,Tryd.f46,Option.getD_some,List.size_toArray,List.length_cons,List.length_nil,Nat.reduceAdd,Nat.zero_add,List.range,List.range.loop]
 iterate 2 refine oT ?_
 refine oc c0a #[xv,sv] ?_
 refine h _ ?_
 exact⟨rfl,rfl,trivial⟩
theorem l0v{xv:Value}{a:Option Addr}{l c0:Nat}{A:Array Value}(hA:G0 9 A [(0,xv)]){c:Frame}
 (h:J0 Tryd.prog main F Stop (G (c.finish (vI (l:Nat))) cs) w):
 J0 Tryd.prog main F Stop (G ((bA 46 A [.inRegion (oC g0m) [2,3,4],.code .ret]).finish (.slice a l c0)) (c::cs)) w:=by
 obtain⟨s,rfl,h0,_⟩:=Y3 t0X hA
 simp only[t0X,h0]
 clear h0
 rw[Frame.finish_at]
 simp only[oC,g0m,pC,a0W,Tryd.f46,Option.getD_some,List.size_toArray,List.length_cons,List.length_nil,Nat.reduceAdd,Nat.zero_add,List.range,List.range.loop]
 walk_nrm
 iterate 2 refine oT ?_
 refine ogE<|ogX ?_
 refine M0 rfl (fun d=>stepG_leave (fn:=Tryd.f46) (v:=vI (l:Nat)) rfl rfl Tryd.func46 (by simp[results,Tryd.f46]) (by simp[results,Tryd.f46,go_sem])) ?_
 exact h
def l7:Code:=Tryd.f52.body.getD .skip
def w0T:=pC [] l7
def l0r:=pC [zt] l7
def l0t:=pC [zf] l7
def o0M:=pC [zt] l0t
def l0s:=pC [zf,zt,zt] l7
def o0L:=pC [zf] o0M
def w0U:=pC [zt] o0L
def t0f:=pC [zf,zt,zf,zt,zt] l7
def t0h:=pC [zf] l0t
def t0g:=pC [zf,zf,zt] l7
theorem g0F(args:Array Value):Frame.enter Tryd.prog 52 args .normal=(Go.Conc.base 52).at {tmps:=args++Array.replicate (4 - args.size) undef,defers:=[]} [.code w0T]:=enter_at args Tryd.func52 rfl
theorem e0q:O1 52:=G2 Tryd.func52 rfl rfl
theorem q0v{c:Frame}
 (h:J0 Tryd.prog main F Stop (G (c.finish (vI 1)) cs) w):
 J0 Tryd.prog main F Stop (G (Frame.enter Tryd.prog 52 #[.bool true] .normal) (c::cs)) w:=by
 rw[g0F]
 walk_nrm
 refine ogW l0r l0t ?_
 simp only[oC,l0r,pC,l7,Tryd.f52,Option.getD_some,List.size_toArray,List.length_cons,List.length_nil,Nat.reduceAdd,Nat.zero_add,List.range,List.range.loop]
 refine oT ?_
 refine ogE<|ogV o0M t0h<|ogW l0s o0L ?_
 simp only[oC,l0s,pC,l7,Tryd.f52,Option.getD_some,List.size_toArray,List.length_cons,List.length_nil,Nat.reduceAdd,Nat.zero_add,List.range,List.range.loop]
 refine oT ?_
 refine ogE<|ogYn w0U<|ogW t0f .ret ?_
 simp only[oC,t0f,pC,l7,Tryd.f52,Option.getD_some,List.size_toArray,List.length_cons,List.length_nil,Nat.reduceAdd,Nat.zero_add,List.range,List.range.loop]
 refine oT ?_
 refine ogE<|ogX ?_
 refine M0 rfl (fun d=>stepG_leave (fn:=Tryd.f52) (v:=vI 1) rfl rfl Tryd.func52 (by simp[results,Tryd.f52]) (by simp[results,Tryd.f52,go_sem])) ?_
 exact h
theorem g0U{c:Frame}
 (h:J0 Tryd.prog main F Stop (G (c.finish (vI 0)) cs) w):
 J0 Tryd.prog main F Stop (G (Frame.enter Tryd.prog 52 #[.bool false] .normal) (c::cs)) w:=by
 rw[g0F]
 walk_nrm
 refine ogW l0r l0t ?_
 simp only[oC,l0r,pC,l7,Tryd.f52,Option.getD_some,List.size_toArray,List.length_cons,List.length_nil,Nat.reduceAdd,Nat.zero_add,List.range,List.range.loop]
 refine oT ?_
 refine ogE<|ogV o0M t0h<|ogW l0s o0L ?_
 simp only[oC,l0s,pC,l7,Tryd.f52,Option.getD_some,List.size_toArray,List.length_cons,List.length_nil,Nat.reduceAdd,Nat.zero_add,List.range,List.range.loop]
 refine oT ?_
 refine ogE<|ogGn .skip<|ogK<|ogW t0g .ret ?_
 simp only[oC,t0g,pC,l7,Tryd.f52,Option.getD_some,List.size_toArray,List.length_cons,List.length_nil,Nat.reduceAdd,Nat.zero_add,List.range,List.range.loop]
 refine oT ?_
 refine ogE<|ogX ?_
 refine M0 rfl (fun d=>stepG_leave (fn:=Tryd.f52) (v:=vI 0) rfl rfl Tryd.func52 (by simp[results,Tryd.f52]) (by simp[results,Tryd.f52,go_sem])) ?_
 exact h
def s4:Code:=Tryd.f29.body.getD .skip
def w0R:=pC [] s4
def s08:=pC [zt] s4
def t0d:=pC [zf] s4
def s09:=pC [zf,zt] s4
def o0F:=pC [zf] t0d
def t0e:=pC [zt] o0F
def t0a:=pC [zf,zf,zt,zt] s4
def o0A:=pC [zf] t0e
def o0E:=pC [zt] o0A
def d0S:=pC [zt] o0E
def b0k:=pC [zf,zf,zt,zf,zt,zt,zt] s4
def b0Y:=pC [zf] d0S
def s07:=pC [zt] b0Y
def o0K:=pC [zf] b0Y
def o0D:=pC [zt] o0K
def w0S:=pC [zt] o0D
def t0b:=pC [zf,zf,zt,zf,zt,zt,zf,zf,zt,zt,zt] s4
def l0p:=pC [zf,zf,zt,zf,zt,zt,zf,zf,zt,zt,zf] s4
def l0q:=pC [zf,zf,zt,zf,zt,zt,zf,zf,zf] s4
def f0f:=pC [zf] o0F
def t0c:=pC [zf,zf,zf,zt] s4
theorem u0z:o0A= .block 0 o0E:=by kernel_rfl
theorem u0B:o0E= .loop d0S:=by kernel_rfl
theorem u0A:o0D= .block 1 w0S:=by kernel_rfl
theorem u0C:l0p= .region 5 (oC l0p) false:=by kernel_rfl
theorem u0H:l0q= .region 6 (oC l0q) false:=by kernel_rfl
theorem m0z(args:Array Value):Frame.enter Tryd.prog 29 args .normal=(Go.Conc.base 29).at {tmps:=args++Array.replicate (18 - args.size) undef,defers:=[]} [.code w0R]:=enter_at args Tryd.func29 rfl
theorem f0h:O1 29:=G2 Tryd.func29 rfl rfl
def o0y(s:Nat→Value):Array Value:= #[s 0,s 1,s 2,s 3,s 4,s 5,s 6,s 7,s 8,s 9,s 10,s 11,s 12,s 13,s 14,s 15,s 16,s 17]
theorem y0H{A:Array Value}(h:A.size=18):∃s,A=o0y s:=by
 obtain⟨s,hs,_⟩:=Y4 A h
 exact⟨s,hs⟩
theorem q0t{la:Option Addr}{l lc:Nat}
 (h:∀A,G0 18 A [(3,.slice none 0 0),(6,.slice la l lc),(7,vI (l:Nat)),(8,vI (0:Nat))]→J0 Tryd.prog main F Stop (G (bA 29 A [.inRegion (oC b0k) [0],.code b0Y,.inLoop d0S,.inBlock 0,.code f0f]) cs) w):
 J0 Tryd.prog main F Stop (G (Frame.enter Tryd.prog 29 #[.slice la l lc] .normal) cs) w:=by
 rw[m0z]
 walk_nrm
 refine ogW s08 t0d ?_
 simp only[oC,s08,pC,s4,Tryd.f29,Option.getD_some,List.size_toArray,List.length_cons,List.length_nil,Nat.reduceAdd,Nat.zero_add,List.range,List.range.loop]
 refine oT ?_
 refine ogE<|ogW s09 o0F ?_
 simp only[oC,s09,pC,s4,Tryd.f29,Option.getD_some,List.size_toArray,List.length_cons,List.length_nil,Nat.reduceAdd,Nat.zero_add,List.range,List.range.loop]
 refine oT ?_
 refine ogE<|ogV t0e f0f<|ogW t0a o0A ?_
 simp only[oC,t0a,pC,s4,Tryd.f29,Option.getD_some,List.size_toArray,List.length_cons,List.length_nil,Nat.reduceAdd,Nat.zero_add,List.range,List.range.loop]
 iterate 3 refine oT ?_
 refine ogE ?_
 rw[u0z]
 refine L7 ?_
 rw[u0B]
 refine ogP<|ogW b0k b0Y ?_
 simp only[oC,b0k,pC,s4,Tryd.f29,Option.getD_some,List.size_toArray,List.length_cons,List.length_nil,Nat.reduceAdd,Nat.zero_add,List.range,List.range.loop]
 refine h _ ?_
 exact⟨rfl,rfl,rfl,rfl,rfl,trivial⟩
theorem q0u{la:Option Addr}{l lc:Nat}{ov:Value}{A:Array Value}(hA:G0 18 A [(3,ov),(6,.slice la l lc),(7,vI (l:Nat)),(8,vI (l:Nat))]){c:Frame}
 (h:J0 Tryd.prog main F Stop (G (c.finish ov) cs) w):
 J0 Tryd.prog main F Stop (G (bA 29 A [.inRegion (oC b0k) [0],.code b0Y,.inLoop d0S,.inBlock 0,.code f0f]) (c::cs)) w:=by
 obtain⟨s,rfl,h3,h6,h7,h8,_⟩:=Y3 o0y hA
 simp only[o0y,h3,h6,h7,h8]
 clear h3 h6 h7 h8
 have hd:decide ((l:Int)<(l:Int))=false:=by simp
 have hd2:decide (l<l)=false:=by simp
 simp only[oC,b0k,pC,s4,Tryd.f29,Option.getD_some,List.size_toArray,List.length_cons,List.length_nil,Nat.reduceAdd,Nat.zero_add,List.range,List.range.loop]
 refine oT ?_
 refine ogE<|ogV s07 o0K<|ogGn (.exit 0) ?_
 refine M0 rfl (fun d=>stepG_exit rfl) ?_
 refine ogW t0c .ret ?_
 simp only[oC,t0c,pC,s4,Tryd.f29,Option.getD_some,List.size_toArray,List.length_cons,List.length_nil,Nat.reduceAdd,Nat.zero_add,List.range,List.range.loop]
 iterate 2 refine oT ?_
 refine ogE<|ogX ?_
 refine M0 rfl (fun d=>stepG_leave (fn:=Tryd.f29) (v:=ov) rfl rfl Tryd.func29 (by simp[results,Tryd.f29]) (by simp[results,Tryd.f29,go_sem])) ?_
 exact h
theorem z0i{gb go l lc i:Nat}{ov:Value}{u:Int}{xs:List Int}{nn:Nat}(hU:i2 F nn)(hn:nn≤w.heap.size)(hwf:Wf F w)(hc:w.cell? ⟨gb,go+i,none⟩=some (vI u))(hi:i<l)(hl:l≤70000)(hx:xs.length≤70000)(hrow:w.ownsRow 0 2 1 ov xs.length (xs.map fun v=>vI v))(hF:∀b,ov.ownBlock=some b→F b=none){A:Array Value}(hA:G0 18 A [(3,ov),(6,vL gb go l lc),(7,vI (l:Nat)),(8,vI (i:Nat))])
 (h:∀ov' w' A,e0r 2 F w w' ov ov' xs u→G0 18 A [(3,ov'),(6,vL gb go l lc),(7,vI (l:Nat)),(8,vI (i+1:Nat))]→J0 Tryd.prog main F Stop (G (bA 29 A [.inRegion (oC b0k) [0],.code b0Y,.inLoop d0S,.inBlock 0,.code f0f]) cs) w'):
 J0 Tryd.prog main F Stop (G (bA 29 A [.inRegion (oC b0k) [0],.code b0Y,.inLoop d0S,.inBlock 0,.code f0f]) cs) w:=by
 obtain⟨s,rfl,h3,h6,h7,h8,_⟩:=Y3 o0y hA
 simp only[o0y,h3,h6,h7,h8]
 clear h3 h6 h7 h8
 have hd:decide ((i:Int)<(l:Int))=true:=by simp;omega
 have hd2:decide (i<l)=true:=by simp;omega
 have hin:(i:Int)<(l:Int):=by omega
 have hk64:IntKind.i64.wrap ((i:Int)+1)=(i:Int)+1:=IntWalk.i64_in _ (by omega)
 simp only[oC,b0k,pC,s4,Tryd.f29,Option.getD_some,List.size_toArray,List.length_cons,List.length_nil,Nat.reduceAdd,Nat.zero_add,List.range,List.range.loop]
 refine oT ?_
 refine ogE<|ogV s07 o0K<|ogYn .skip<|ogK<|ogV o0D l0q ?_
 rw[u0A]
 refine L7<|ogW t0b l0p ?_
 simp only[oC,t0b,pC,s4,Tryd.f29,Option.getD_some,List.size_toArray,List.length_cons,List.length_nil,Nat.reduceAdd,Nat.zero_add,List.range,List.range.loop]
 refine oX ?_
 refine oL ?_
 refine oT ?_
 refine ogE ?_
 rw[u0C]
 refine ogR ?_
 simp only[oC,l0p,pC,s4,Tryd.f29,Option.getD_some,List.size_toArray,List.length_cons,List.length_nil,Nat.reduceAdd,Nat.zero_add,List.range,List.range.loop]
 iterate 2 refine oT ?_
 refine oA hU ?_
 refine S8 (s:=.tmp 12) (x:=.tmp 14) (t:=22) (e:=2) (sz:=1) (bytes:=8) (news:=[vI u]) (m:=1) (c:=1) (ad:=⟨w.heap.size,0,none⟩) Tryd.underlying22 i8 (by decide) rfl rfl (by decide) rfl (hwf.of_grew (Y0 hU hn _)) (v:=ov) rfl rfl (hrow.alloc _) hF rfl (c0b (X:=w) (l:=[vI u]) rfl) (by intro q hq;simp at hq;subst hq;rfl) (by unfold maxLen;omega) (by omega) fun ov' w' g1 g2 g3 g4 g5=>?_
 have hg:e0r 2 F w w' ov ov' xs u:=⟨by rw[List.map_append];exact g1,g2,by simp at g3;omega,fun q hq hne=>by rw[g4 q (by simp;omega) hne,D0 _ _ hq],g5.imp_right fun⟨g,h1,h2⟩=>⟨g,h1,by simp at h2;omega⟩⟩
 clear g1 g2 g3 g4 g5 hrow hwf
 walk_nrm
 refine oT ?_
 refine ogE<|ogI ?_
 rw[u0H]
 refine ogR ?_
 simp only[oC,l0q,pC,s4,Tryd.f29,Option.getD_some,List.size_toArray,List.length_cons,List.length_nil,Nat.reduceAdd,Nat.zero_add,List.range,List.range.loop]
 iterate 2 refine oT ?_
 refine ogE<|ogL<|ogW b0k b0Y ?_
 simp only[oC,b0k,pC,s4,Tryd.f29,Option.getD_some,List.size_toArray,List.length_cons,List.length_nil,Nat.reduceAdd,Nat.zero_add,List.range,List.range.loop]
 refine h ov' w' _ hg ?_
 exact⟨rfl,rfl,rfl,rfl,rfl,trivial⟩
end
section
variable{P:Program}{main:Bool}{F:Fz}{ops:Array Oper}{S:World→Prop}{mid:Nat}
structure h0F(ops:Array Oper)(mid:Nat):Prop where
 size:mid<ops.size
 deps:∀j o,ops[j]? =some o→∀e∈o.after,Region.binds .any e=true→e.on<j
 used:∀j,j<mid→∃s o e,j<s∧s≤mid∧ops[s]? =some o∧e∈o.after∧Region.binds .any e=true∧e.on=j
 late:∀j o,ops[j]? =some o→mid<j→∃e∈o.after,Region.binds .any e=true∧mid≤e.on
def l0I(ops:Array Oper)(mid:Nat):Bool:=
 decide (mid<ops.size) && (List.range ops.size).all (fun j=>(ops[j]?).all fun o=>o.after.all fun e=> !Region.binds .any e || decide (e.on<j)) &&
 (List.range mid).all (fun j=>(List.range (mid+1)).any fun s=>decide (j<s) && (ops[s]?).any (fun o=>o.after.any fun e=>Region.binds .any e && e.on == j)) &&
 (List.range ops.size).all (fun j=> !decide (mid<j) || (ops[j]?).all fun o=>o.after.any fun e=>Region.binds .any e && decide (mid≤e.on))
theorem p0u(h:l0I ops mid=true):h0F ops mid:=by
 simp only[l0I,Bool.and_eq_true,decide_eq_true_eq,List.all_eq_true,List.mem_range]at h
 obtain⟨⟨⟨h1,h2⟩,h3⟩,h4⟩:=h
 refine⟨h1,fun j o ho e he hb=>?_,fun j hj=>?_,fun j o ho hj=>?_⟩
 ·have hlt:=(Q3 ho)
  have:=h2 j hlt
  rw[ho]at this
  simp only[Option.all_some,Array.all_eq_true_iff_forall_mem]at this
  have:=this e he
  rw[hb]at this
  simpa using this
 ·have:=h3 j hj
  simp only[List.any_eq_true,List.mem_range,Bool.and_eq_true,decide_eq_true_eq]at this
  obtain⟨s,hs,hjs,h5⟩:=this
  cases ho:ops[s]? with
  | none=>rw[ho]at h5;cases h5
  | some o=>
    rw[ho]at h5
    simp only[Option.any_some,Array.any_eq_true']at h5
    obtain⟨e,he,h6⟩:=h5
    simp only[Bool.and_eq_true,beq_iff_eq]at h6
    exact⟨s,o,e,hjs,by omega,ho,he,h6.1,h6.2⟩
 ·have hlt:=(Q3 ho)
  have:=h4 j hlt
  rw[ho]at this
  simp only[hj,decide_true,Bool.not_true,Bool.false_or,Option.all_some,Array.any_eq_true']at this
  obtain⟨e,he,h6⟩:=this
  simp only[Bool.and_eq_true,decide_eq_true_eq]at h6
  exact⟨e,he,h6.1,h6.2⟩
theorem p0t(L:h0F ops mid){listed:Array Bool}(hs:listed.size=ops.size)(hc:g0L ops listed)(hr:mid∈Region.ready .any ops listed):∀n j,mid - j≤n→j<mid→listed.getD j false=true:=by
 obtain⟨h0,ol,hol,hall⟩:=mem_ready.1 hr
 intro n
 induction n with
 | zero=>intro j h1 h2;omega
 | succ n ih=>
   intro j h1 h2
   obtain⟨s,o,e,hjs,hsm,ho,he,hb,rfl⟩:=L.used j h2
   rcases Nat.lt_or_ge s mid with h3|h3
   ·exact hc s o ho (ih s (by omega) h3) e he hb
   ·have:s=mid:=by omega
    subst this
    rw[hol]at ho
    cases ho
    exact hall e he hb
theorem l0H(L:h0F ops mid){listed:Array Bool}(hs:listed.size=ops.size)(hc:g0L ops listed)(hr:listed.getD mid true=false):∀j,mid<j→listed.getD j false=false:=by
 intro j
 induction j using Nat.strongRecOn with
 | _ j ih=>
   intro hj
   cases hl:listed.getD j false with
   | false=>rfl
   | true=>
     have hlt:j<ops.size:=by
      rcases Nat.lt_or_ge j ops.size with h|h
      ·exact h
      ·rw[Array.getD_eq_getD_getElem?,Array.getElem?_eq_none (by omega)]at hl;cases hl
     obtain⟨e,he,hb,hm⟩:=L.late j _ (Array.getElem?_eq_getElem hlt) hj
     have h1:=hc j _ (Array.getElem?_eq_getElem hlt) hl e he hb
     have h2:=L.deps j _ (Array.getElem?_eq_getElem hlt) e he hb
     rcases Nat.lt_or_ge mid e.on with h3|h3
     ·rw[ih e.on h2 h3]at h1;cases h1
     ·have h4:e.on=mid:=by omega
      rw[h4,← Q7 (by have:=L.size;omega),hr]at h1
      cases h1
def lmA(ops:Array Oper)(mid:Nat):Array Bool:=(Array.range ops.size).map fun j=>decide (j≤mid)
theorem g0N(L:h0F ops mid){listed:Array Bool}(hs:listed.size=ops.size)(hc:g0L ops listed)(hr:mid∈Region.ready .any ops listed):listed.setIfInBounds mid true=lmA ops mid:=by
 have hm0:=(mem_ready.1 hr).1
 refine Array.ext (by simp[lmA,hs]) fun j h1 h2=>?_
 have hj:j<ops.size:=by simpa [hs]using h1
 have hl:=L.size
 simp only[lmA,Array.getElem_map,Array.getElem_range]
 rw[Array.getElem_setIfInBounds]
 by_cases e:mid=j
 ·simp[e]
 ·rw[if_neg e]
  rcases Nat.lt_or_ge j mid with h|h
  ·have:=p0t L hs hc hr mid j (by omega) h
   rw[Array.getD_eq_getD_getElem?,Array.getElem?_eq_getElem (by omega)]at this
   simp only[Option.getD_some]at this
   rw[this];simp;omega
  ·have:=l0H L hs hc hm0 j (by omega)
   rw[Array.getD_eq_getD_getElem?,Array.getElem?_eq_getElem (by omega)]at this
   simp only[Option.getD_some]at this
   rw[this];simp;omega
 omega
theorem r0i(L:h0F ops mid){listed:Array Bool}(hs:listed.size=ops.size):∀j,listed.getD j true=false→∃i,i∈Region.ready .any ops listed:=by
 intro j
 induction j using Nat.strongRecOn with
 | _ j ih=>
   intro hj
   have hlt:j<listed.size:=by
    rcases Nat.lt_or_ge j listed.size with h|h
    ·exact h
    ·simp[Array.getElem?_eq_none h]at hj
   cases ho:ops[j]? with
   | none=>rw[Array.getElem?_eq_none_iff]at ho;omega
   | some o=>
     by_cases hall:∀e∈o.after,Region.binds .any e=true→listed.getD e.on false=true
     ·exact⟨j,mem_ready.2 ⟨hj,o,ho,hall⟩⟩
     ·have:∃e,e∈o.after∧Region.binds .any e=true∧¬listed.getD e.on false=true:=by
       apply Classical.byContradiction
       intro hn
       exact hall fun e he hb=>Classical.byContradiction fun hx=>hn ⟨e,he,hb,hx⟩
      obtain⟨e,he,hb,hx⟩:=this
      have he':=L.deps j o ho e he hb
      exact ih e.on he' (by rw[Q7 (by omega)];simpa using hx)
theorem r0h(L:h0F ops mid){listed:Array Bool}(hs:listed.size=ops.size)(hc:g0L ops listed)(hr:mid∈Region.ready .any ops listed):∀j∈Region.ready .any ops listed,j=mid:=by
 intro j hj
 obtain⟨h0,o,ho,hd⟩:=mem_ready.1 hj
 have hlt:=(Q3 ho)
 have hm:=L.size
 rcases Nat.lt_trichotomy j mid with h|h|h
 ·have:=p0t L hs hc hr mid j (by omega) h
  rw[Q7 (by omega),this]at h0;cases h0
 ·exact h
 ·obtain⟨e,he,hb,hme⟩:=L.late j o ho h
  have h1:=hd e he hb
  have h2:=L.deps j o ho e he hb
  have h0m:=(mem_ready.1 hr).1
  rcases Nat.lt_or_ge mid e.on with h3|h3
  ·rw[l0H L hs hc h0m _ h3]at h1;cases h1
  ·have h4:e.on=mid:=by omega
   rw[h4,← Q7 (by omega),h0m]at h1;cases h1
theorem p0v(L:h0F ops mid){Stop:Goroutine→World→Prop}{b:Frame}{k:List Item}{cs:List Frame}(hk:b.kind≠.early)(R:Nat){Q:List Nat→Prop}(hQ:∀t f,R≤f→Q (Region.linearise.go .any ops f t (lmA ops mid) [])):
 ∀(fuel t:Nat) (listed:Array Bool) (a:Act) (w:World),listed.size=ops.size→g0L ops listed→listed.getD mid true=false→
  R6 P main F b.fn ops S mid (fun a w=>∀rest,Q rest→J0 P main F Stop (G (b.at a (.inRegion ops (mid::rest)::k)) cs) w) fuel listed a w→
  J0 P main F Stop (G (b.at a (.inRegion ops (Region.linearise.go .any ops (fuel+1+R) t listed [])::k)) cs) w:=by
 intro fuel
 induction fuel with
 | zero=>?_
 | succ fuel ih=>?_
 all_goals
  intro t listed a w hs hc hl H
  obtain⟨i0,hi0⟩:=r0i L hs mid hl
  have hlen:0<(Region.ready .any ops listed).length:=List.length_pos_of_mem hi0
  obtain⟨i,hi⟩:∃i,(Region.ready .any ops listed)[t % (Region.ready .any ops listed).length]? =some i:=⟨_,List.getElem?_eq_getElem (Nat.mod_lt _ hlen)⟩
  have hmem:=List.mem_of_getElem? hi
 ·rw[show 0+1+R=R+1 by omega,Region.linearise.go]
  change J0 P main F Stop (G (b.at a (.inRegion ops (match(Region.ready .any ops listed)[t % (Region.ready .any ops listed).length]? with
   | some i=>Region.linearise.go .any ops _ (t / (Region.ready .any ops listed).length) (listed.setIfInBounds i true) [i]
   | none=>[].reverse)::k)) cs) w
  rw[hi]
  simp only[]
  rw[linearise_go_acc,List.reverse_singleton,List.singleton_append]
  obtain rfl:=H.2 i hmem
  rw[g0N L hs hc hmem]
  exact H.1 H.2 _ (hQ _ _ (Nat.le_refl _))
 ·rw[show fuel+1+1+R=(fuel+1+R)+1 by omega,Region.linearise.go]
  change J0 P main F Stop (G (b.at a (.inRegion ops (match(Region.ready .any ops listed)[t % (Region.ready .any ops listed).length]? with
   | some i=>Region.linearise.go .any ops _ (t / (Region.ready .any ops listed).length) (listed.setIfInBounds i true) [i]
   | none=>[].reverse)::k)) cs) w
  rw[hi]
  simp only[]
  rw[linearise_go_acc,List.reverse_singleton,List.singleton_append]
  by_cases hil:i=mid
  ·subst hil
   rw[g0N L hs hc hmem]
   exact H.1 (r0h L hs hc hmem) _ (hQ _ _ (by omega))
  ·refine s0N hk (i0l (fun a' w' ⟨_,hK⟩=>ih _ _ _ _ (by simpa using hs) (fun j o' hj hlj e he hb=>?_) (by rw[getD_set_ne true hil];exact hl) hK) (H.2 i hmem hil))
   by_cases e2:i=j
   ·subst e2
    obtain⟨_,o2,ho2,hd⟩:=mem_ready.1 hmem
    rw[hj]at ho2
    cases ho2
    exact getD_set_true (hd e he hb)
   ·rw[getD_set_ne false e2]at hlj
    exact getD_set_true (hc j o' hj hlj e he hb)
theorem c0h(S:World→Prop)(hm:P.follows .mixedOrders=true)(L:h0F ops mid){Q:List Nat→Prop}(hQ:∀t f,ops.size - mid - 1≤f→Q (Region.linearise.go .any ops f t (lmA ops mid) [])){id:Nat}{Stop:Goroutine→World→Prop}{b:Frame}{a:Act}{w:World}{k:List Item}{cs:List Frame}(hk:b.kind≠.early)
 (h:R6 P main F b.fn ops S mid (fun a w=>∀rest,Q rest→J0 P main F Stop (G (b.at a (.inRegion ops (mid::rest)::k)) cs) w) mid (Array.replicate ops.size false) a w):
 J0 P main F Stop (G (b.at a (.code (.region id ops true)::k)) cs) w:=by
 refine .step rfl fun d=>⟨_,_,_,stepG_region_draw,⟨⟨1,?_⟩,by simp⟩,?_⟩
 ·exact⟨rfl,rfl,rfl,rfl,Nat.le_refl _,fun _ _ h=>.inr h,fun _ _=>rfl⟩
 ·have hs:=L.size
  have:=p0v (S:=S) (cs:=cs) (k:=k) L hk (ops.size - mid - 1) hQ mid ((w.at d).tape (w.at d).drawn (.order b.fn id)) (Array.replicate ops.size false) a w (by simp) (fun j o _ hl=>by
   simp at hl
   rcases Nat.lt_or_ge j ops.size with h1|h1<;>simp[h1]at hl) (by simp[hs]) h
  rw[show mid+1+(ops.size - mid - 1)=ops.size by omega]at this
  simp only[Region.schedule,hm,Bool.true_or,if_true]
  exact this.at (d+1)
end
noncomputable section
variable {cs:List Frame}{main:Bool}{Stop:Goroutine→World→Prop}
variable{F:Fz}{w:World}
structure CH(cb fb xb lb:Nat)(w:World):Prop where
 c:w.cell? ⟨cb,0,none⟩=some (vL fb 0 3 3)
 f0:w.cell? ⟨fb,0,none⟩=some (.func (.func 18) #[vP lb 0] #[])
 f1:w.cell? ⟨fb,1,none⟩=some (.func (.func 19) #[vP lb 0] #[])
 f2:w.cell? ⟨fb,2,none⟩=some (.func (.func 20) #[vP lb 0] #[])
 x:w.cell? ⟨xb,0,none⟩=some (vP lb 0)
theorem h0V(b:Bool)(a:Option Addr)(l c:Nat):Tryd.prog.built 49 [(0,.bool b),(2,.slice a l c)]=some #[.bool b,vI 0,.slice a l c]:=by kernel_rfl
@[go_sem] theorem r0u(b:Bool)(a:Option Addr)(l c:Nat)(w:World):(Instr.build 49 #[(0,.bool b),(2,.slice a l c)]).run Tryd.prog w= .ok (.agg #[.bool b,vI 0,.slice a l c]) w:=run_build w _ _ _ (h0V b a l c)
@[go_sem] theorem t0n(b:Bool)(a:Option Addr)(l c:Nat)(w:World)(es:Array Event):(Instr.build 49 #[(0,.bool b),(2,.slice a l c)]).events Tryd.prog w es=es:=l6 w es _ _ _ _ Tryd.underlying49 (h0V b a l c)
def m08(w:World)(ab:Nat)(b:Bool)(v:Value):World:=((w.setCell ⟨ab,0,none⟩ (.bool b)).setCell ⟨ab,1,none⟩ (vI 0)).setCell ⟨ab,2,none⟩ v
def L0:Code:=Tryd.f51.body.getD .skip
def w0e:=pC [] L0
def a0n:=pC [zt] L0
def c0v:=pC [zf] L0
def d0E:=pC [zt] c0v
def a0r:=pC [zf,zt,zt] L0
def c0n:=pC [zf] d0E
def n0s:=pC [zt] c0n
def d0F:=pC [zt] n0s
def a0s:=pC [zf,zt,zf,zt,zt,zt] L0
def b0p:=pC [zf] d0F
def e0J:=pC [zf] b0p
def b0b:=pC [zf,zt,zf,zt,zt,zf,zf,zt] L0
def b0H:=pC [zf] e0J
def b0i:=pC [zf,zt,zf,zt,zt,zf,zf,zf,zf] L0
def C7:=pC [zf] n0s
def k0I:=pC [zt] C7
def E3:=pC [zf,zt,zf,zt,zf,zt,zt] L0
def k0J:=pC [zf] k0I
def g0n:=pC [zf,zt,zf,zt,zf,zt,zf,zt] L0
def h0J:=pC [zf] C7
def d0B:=pC [zf,zt,zf,zt,zf,zf,zt] L0
def c03:=pC [zf] h0J
def r07:=pC [zt] c03
def d0C:=pC [zf,zt,zf,zt,zf,zf,zf,zt,zt] L0
def e0I:=pC [zf] r07
def k0H:=pC [zf,zt,zf,zt,zf,zf,zf,zt,zf,zt] L0
def h0o:=pC [zf] c03
def c04:=pC [zf,zt,zf,zt,zf,zf,zf,zf,zt] L0
def e0B:=pC [zf] h0o
def t0Y:=pC [zt] e0B
def c05:=pC [zf,zt,zf,zt,zf,zf,zf,zf,zf,zt,zt] L0
def i0Y:=pC [zf] e0B
def h0n:=pC [zf,zt,zf,zt,zf,zf,zf,zf,zf,zf,zt] L0
def i0P:=pC [zf] i0Y
def t0Z:=pC [zt] i0P
def a0X:=pC [zf,zt,zf,zt,zf,zf,zf,zf,zf,zf,zf,zt,zt] L0
def J5:=pC [zf] c0v
def n0r:=pC [zf,zf,zt] L0
theorem b06:c0n= .block 0 n0s:=by kernel_rfl
theorem e0F:b0i= .region 4 (oC b0i) false:=by kernel_rfl
theorem i0U:E3= .region 5 (oC E3) true:=by kernel_rfl
theorem J8(args:Array Value):Frame.enter Tryd.prog 51 args .normal=(Go.Conc.base 51).at {tmps:=args++Array.replicate (63 - args.size) undef,defers:=[]} [.code w0e]:=enter_at args Tryd.func51 rfl
theorem j0r:O1 51:=G2 Tryd.func51 rfl rfl
def b0o(s:Nat→Value):Array Value:= #[s 0,s 1,s 2,s 3,s 4,s 5,s 6,s 7,s 8,s 9,s 10,s 11,s 12,s 13,s 14,s 15,s 16,s 17,s 18,s 19,s 20,s 21,s 22,s 23,s 24,s 25,s 26,s 27,s 28,s 29,s 30,s 31,s 32,s 33,s 34,s 35,s 36,s 37,s 38,s 39,s 40,s 41,s 42,s 43,s 44,s 45,s 46,s 47,s 48,s 49,s 50,s 51,s 52,s 53,s 54,s 55,s 56,s 57,s 58,s 59,s 60,s 61,s 62]
theorem y0A{A:Array Value}(h:A.size=63):∃s,A=b0o s:=by
 obtain⟨s,hs,_⟩:=Y4 A h
 exact⟨s,hs⟩
theorem o08{nn:Nat}(hU:i2 F nn)(hn:nn≤w.heap.size){sv:Value}{cb xb j:Nat}{kd a b c0:Int}(k1:(kd == 1)=false)(k2:(kd == 2)=false)(k3:(kd == 3)=false)(k4:(kd == 4)=false)(k5:(kd == 5)=false)(k6:(kd == 6)=false){c:Frame}
 (h:J0 Tryd.prog main F Stop (G (c.finish (.agg #[.bool false,vI 0,.slice none 0 0])) cs) (d09 ((w.alloc (.cells #[vI kd,vI a,vI b,vI c0] 44)).alloc (.cells #[.bool false,vI 0,.slice none 0 0] 49)) (w.heap.size+1) false 0)):
 J0 Tryd.prog main F Stop (G (Frame.enter Tryd.prog 51 #[sv,vI j,.agg #[vI kd,vI a,vI b,vI c0],vP cb 0,vP xb 0] .normal) (c::cs)) w:=by
 rw[J8]
 walk_nrm
 refine ogW a0n c0v ?_
 simp only[oC,a0n,pC,L0,Tryd.f51,Option.getD_some,List.size_toArray,List.length_cons,List.length_nil,Nat.reduceAdd,Nat.zero_add,List.range,List.range.loop]
 iterate 2 refine oA hU ?_
 refine ogE<|ogV d0E J5<|ogW a0r c0n ?_
 simp only[oC,a0r,pC,L0,Tryd.f51,Option.getD_some,List.size_toArray,List.length_cons,List.length_nil,Nat.reduceAdd,Nat.zero_add,List.range,List.range.loop]
 refine oT ?_
 refine oL ?_
 refine ogE ?_
 rw[b06]
 refine L7<|ogV d0F C7<|ogW a0s b0p ?_
 simp only[oC,a0s,pC,L0,Tryd.f51,Option.getD_some,List.size_toArray,List.length_cons,List.length_nil,Nat.reduceAdd,Nat.zero_add,List.range,List.range.loop]
 iterate 2 refine oT ?_
 refine ogE<|ogGn e0J<|ogW b0b b0H ?_
 simp only[oC,b0b,pC,L0,Tryd.f51,Option.getD_some,List.size_toArray,List.length_cons,List.length_nil,Nat.reduceAdd,Nat.zero_add,List.range,List.range.loop]
 iterate 2 refine oT ?_
 refine ogE<|ogGn b0i ?_
 rw[e0F]
 refine ogR ?_
 simp only[oC,b0i,pC,L0,Tryd.f51,Option.getD_some,List.size_toArray,List.length_cons,List.length_nil,Nat.reduceAdd,Nat.zero_add,List.range,List.range.loop]
 iterate 2 refine oT ?_
 refine ogE<|ogGn h0J<|ogW d0B c03 ?_
 simp only[oC,d0B,pC,L0,Tryd.f51,Option.getD_some,List.size_toArray,List.length_cons,List.length_nil,Nat.reduceAdd,Nat.zero_add,List.range,List.range.loop]
 iterate 2 refine oT ?_
 refine ogE<|ogGn h0o<|ogW c04 e0B ?_
 simp only[oC,c04,pC,L0,Tryd.f51,Option.getD_some,List.size_toArray,List.length_cons,List.length_nil,Nat.reduceAdd,Nat.zero_add,List.range,List.range.loop]
 iterate 2 refine oT ?_
 refine ogE<|ogGn i0Y<|ogW h0n i0P ?_
 simp only[oC,h0n,pC,L0,Tryd.f51,Option.getD_some,List.size_toArray,List.length_cons,List.length_nil,Nat.reduceAdd,Nat.zero_add,List.range,List.range.loop]
 iterate 2 refine oT ?_
 refine ogE<|ogGn .skip<|ogK<|ogI<|ogW n0r .ret ?_
 simp only[oC,n0r,pC,L0,Tryd.f51,Option.getD_some,List.size_toArray,List.length_cons,List.length_nil,Nat.reduceAdd,Nat.zero_add,List.range,List.range.loop]
 refine oT ?_
 (refine oW fun dd K hK=>?_;go_simp;refine hK _ _ ⟨⟨⟨0,K6 (fun k=>O4 hU (show nn≤w.heap.size+1 by omega)) _ _ _⟩,fun e he=>by(have hm:=mem_listed he;clear he hK;simp[go_sem,storedEv]at hm;rcases hm with rfl|rfl|rfl<;>exact U0 _ _ ((fun k=>O4 hU (show nn≤w.heap.size+1 by omega)) _))⟩,?_⟩;clear hK K;simp only[setCell_at'];refine J0.at ?_ dd)
 refine ogE<|ogX ?_
 refine p4 (fn:=Tryd.f51) (v:=.agg #[.bool false,vI 0,.slice none 0 0]) rfl rfl Tryd.func51 (fun d=>by simp[results,Tryd.f51,go_sem]) (fun d e he=>by(simp[results,Tryd.f51,go_sem]at he;rcases he with rfl|rfl|rfl<;>exact I1 _ _)) ?_
 exact h
theorem CH.kept{cb fb xb lb:Nat}{w u:World}(h:CH cb fb xb lb w)(k:∀r,r<w.heap.size→u.heap[r]? =w.heap[r]?):CH cb fb xb lb u:=by
 have key:∀{a:Addr} {v:Value},w.cell? a=some v→u.cell? a=some v:=fun{a v} hc=>by
  have hl:a.block<w.heap.size:=by
   rcases Nat.lt_or_ge a.block w.heap.size with h|h
   ·exact h
   ·simp[World.cell?,Array.getElem?_eq_none h]at hc
  rw[← hc];unfold World.cell?;simp only[k _ hl]
 exact⟨key h.c,key h.f0,key h.f1,key h.f2,key h.x⟩
structure DoS(cb fb xb lb ob:Nat)(kd a b c0:Int)(u:World):Prop where
 h:CH cb fb xb lb u
 o:u.heap[ob]? =some (.cells #[vI kd,vI a,vI b,vI c0] 44 (0,0))
theorem DoS.at{cb fb xb lb ob:Nat}{kd a b c0:Int}{u:World}(h:DoS cb fb xb lb ob kd a b c0 u)(d:Nat):DoS cb fb xb lb ob kd a b c0 (u.at d):=⟨⟨h.h.c,h.h.f0,h.h.f1,h.h.f2,h.h.x⟩,h.o⟩
theorem DoS.k0{cb fb xb lb ob:Nat}{kd a b c0:Int}{u:World}(h:DoS cb fb xb lb ob kd a b c0 u):u.cell? ⟨ob,0,none⟩=some (vI kd):=by simp[World.cell?,h.o]
theorem DoS.k1{cb fb xb lb ob:Nat}{kd a b c0:Int}{u:World}(h:DoS cb fb xb lb ob kd a b c0 u):u.cell? ⟨ob,1,none⟩=some (vI a):=by simp[World.cell?,h.o]
theorem c02(t f:Nat)(hf:5≤f):Region.linearise.go .any (oC E3) f t (lmA (oC E3) 9) []=[10,11,12,13,14]∨Region.linearise.go .any (oC E3) f t (lmA (oC E3) 9) []=[10,11,13,12,14]∨Region.linearise.go .any (oC E3) f t (lmA (oC E3) 9) []=[10,12,11,13,14]:=by
 have hA:lmA (oC E3) 9= #[true,true,true,true,true,true,true,true,true,true,false,false,false,false,false]:=by kernel_rfl
 have r1:Region.ready .any (oC E3) #[true,true,true,true,true,true,true,true,true,true,false,false,false,false,false]=[10]:=by kernel_rfl
 have r2:Region.ready .any (oC E3) #[true,true,true,true,true,true,true,true,true,true,true,false,false,false,false]=[11,12]:=by kernel_rfl
 have r3:Region.ready .any (oC E3) #[true,true,true,true,true,true,true,true,true,true,true,true,false,false,false]=[12,13]:=by kernel_rfl
 have r8:Region.ready .any (oC E3) #[true,true,true,true,true,true,true,true,true,true,true,true,false,true,false]=[12]:=by kernel_rfl
 have r4:Region.ready .any (oC E3) #[true,true,true,true,true,true,true,true,true,true,true,false,true,false,false]=[11]:=by kernel_rfl
 have r5:Region.ready .any (oC E3) #[true,true,true,true,true,true,true,true,true,true,true,true,true,false,false]=[13]:=by kernel_rfl
 have r6:Region.ready .any (oC E3) #[true,true,true,true,true,true,true,true,true,true,true,true,true,true,false]=[14]:=by kernel_rfl
 have r7:Region.ready .any (oC E3) #[true,true,true,true,true,true,true,true,true,true,true,true,true,true,true]=[]:=by kernel_rfl
 have step:∀(f t:Nat) (l:Array Bool) (acc:List Nat),Region.linearise.go .any (oC E3) (f+1) t l acc=match(Region.ready .any (oC E3) l)[t % (Region.ready .any (oC E3) l).length]? with
  | some i=>Region.linearise.go .any (oC E3) f (t / (Region.ready .any (oC E3) l).length) (l.setIfInBounds i true) (i::acc)
  | none=>acc.reverse:=fun f t l acc=>by rw[Region.linearise.go];rfl
 have endd:∀(f t:Nat) (acc:List Nat),Region.linearise.go .any (oC E3) f t #[true,true,true,true,true,true,true,true,true,true,true,true,true,true,true] acc=acc.reverse:=fun f t acc=>by
  cases f with
  | zero=>rfl
  | succ f=>rw[step,r7];rfl
 obtain⟨f,rfl⟩:∃g,f=g+5:=⟨f - 5,by omega⟩
 rw[hA,step,r1]
 simp only[List.length_singleton,Nat.mod_one,List.getElem?_cons_zero,Nat.div_one]
 change Region.linearise.go .any (oC E3) (f+4) t #[true,true,true,true,true,true,true,true,true,true,true,false,false,false,false] [10]=_∨Region.linearise.go .any (oC E3) (f+4) t #[true,true,true,true,true,true,true,true,true,true,true,false,false,false,false] [10]=_∨Region.linearise.go .any (oC E3) (f+4) t #[true,true,true,true,true,true,true,true,true,true,true,false,false,false,false] [10]=_
 rw[step,r2]
 simp only[List.length_cons,List.length_nil]
 rcases Nat.mod_two_eq_zero_or_one t with h|h
 ·rw[show(0+1+1)=2 from rfl,h]
  simp only[List.getElem?_cons_zero]
  rw[← or_assoc]
  left
  change Region.linearise.go .any (oC E3) (f+3) _ #[true,true,true,true,true,true,true,true,true,true,true,true,false,false,false] [11,10]=_∨Region.linearise.go .any (oC E3) (f+3) _ #[true,true,true,true,true,true,true,true,true,true,true,true,false,false,false] [11,10]=_
  rw[step,r3]
  simp only[List.length_cons,List.length_nil]
  generalize t / 2=t1
  rcases Nat.mod_two_eq_zero_or_one t1 with h|h
  ·left
   rw[show(0+1+1)=2 from rfl,h]
   simp only[List.getElem?_cons_zero]
   change Region.linearise.go .any (oC E3) (f+2) _ #[true,true,true,true,true,true,true,true,true,true,true,true,true,false,false] [12,11,10]=_
   rw[step,r5]
   simp only[List.length_singleton,Nat.mod_one,List.getElem?_cons_zero,Nat.div_one]
   change Region.linearise.go .any (oC E3) (f+1) _ #[true,true,true,true,true,true,true,true,true,true,true,true,true,true,false] [13,12,11,10]=_
   rw[step,r6]
   simp only[List.length_singleton,Nat.mod_one,List.getElem?_cons_zero,Nat.div_one]
   exact endd _ _ _
  ·right
   rw[show(0+1+1)=2 from rfl,h]
   simp only[List.getElem?_cons_succ,List.getElem?_cons_zero]
   change Region.linearise.go .any (oC E3) (f+2) _ #[true,true,true,true,true,true,true,true,true,true,true,true,false,true,false] [13,11,10]=_
   rw[step,r8]
   simp only[List.length_singleton,Nat.mod_one,List.getElem?_cons_zero,Nat.div_one]
   change Region.linearise.go .any (oC E3) (f+1) _ #[true,true,true,true,true,true,true,true,true,true,true,true,true,true,false] [12,13,11,10]=_
   rw[step,r6]
   simp only[List.length_singleton,Nat.mod_one,List.getElem?_cons_zero,Nat.div_one]
   exact endd _ _ _
 ·right
  right
  rw[show(0+1+1)=2 from rfl,h]
  simp only[List.getElem?_cons_succ,List.getElem?_cons_zero]
  change Region.linearise.go .any (oC E3) (f+3) _ #[true,true,true,true,true,true,true,true,true,true,true,false,true,false,false] [12,10]=_
  rw[step,r4]
  simp only[List.length_singleton,Nat.mod_one,List.getElem?_cons_zero,Nat.div_one]
  change Region.linearise.go .any (oC E3) (f+2) _ #[true,true,true,true,true,true,true,true,true,true,true,true,true,false,false] [11,12,10]=_
  rw[step,r5]
  simp only[List.length_singleton,Nat.mod_one,List.getElem?_cons_zero,Nat.div_one]
  change Region.linearise.go .any (oC E3) (f+1) _ #[true,true,true,true,true,true,true,true,true,true,true,true,true,true,false] [13,11,12,10]=_
  rw[step,r6]
  simp only[List.length_singleton,Nat.mod_one,List.getElem?_cons_zero,Nat.div_one]
  exact endd _ _ _
def a0g(r:List Nat):Prop:=r=[10,11,12,13,14]∨r=[10,11,13,12,14]∨r=[10,12,11,13,14]
def c0C(A:Array Value)(r:List Nat):Frame:=bA 51 A [.inRegion (oC E3) (9::r),.code k0J,.inBlock 0,.code J5]
theorem q0o:(oC E3).size=15:=by kernel_rfl
theorem x0f{nn:Nat}(hU:i2 F nn)(hn:nn≤w.heap.size){sv:Value}{cb fb xb lb j:Nat}{a b c0:Int}(hC:CH cb fb xb lb w)
 (h:∀A rest,a0g rest→G0 63 A [(8,vP (w.heap.size+1) 0)]→J0 Tryd.prog main F Stop (G (Frame.enter Tryd.prog 18 #[vP lb 0,sv,vI a] .normal) (c0C A rest::cs)) ((w.alloc (.cells #[vI 1,vI a,vI b,vI c0] 44)).alloc (.cells #[.bool false,vI 0,.slice none 0 0] 49))):
 J0 Tryd.prog main F Stop (G (Frame.enter Tryd.prog 51 #[sv,vI j,.agg #[vI 1,vI a,vI b,vI c0],vP cb 0,vP xb 0] .normal) cs) w:=by
 have hw:IntKind.i64.wrap 0=0:=by decide
 have hs:DoS cb fb xb lb w.heap.size 1 a b c0 ((w.alloc (.cells #[vI 1,vI a,vI b,vI c0] 44)).alloc (.cells #[.bool false,vI 0,.slice none 0 0] 49)):=⟨hC.kept fun r hr=>by rw[D0 _ _ (by simp;omega),D0 _ _ hr],by rw[D0 _ _ (by simp)];exact heap_alloc_new _ _⟩
 have hS:∀u d,DoS cb fb xb lb w.heap.size 1 a b c0 u→DoS cb fb xb lb w.heap.size 1 a b c0 (World.at u d):=fun u d h=>h.at d
 rw[J8]
 walk_nrm
 refine ogW a0n c0v ?_
 simp only[oC,a0n,pC,L0,Tryd.f51,Option.getD_some,List.size_toArray,List.length_cons,List.length_nil,Nat.reduceAdd,Nat.zero_add,List.range,List.range.loop]
 iterate 2 refine oA hU ?_
 refine ogE<|ogV d0E J5<|ogW a0r c0n ?_
 simp only[oC,a0r,pC,L0,Tryd.f51,Option.getD_some,List.size_toArray,List.length_cons,List.length_nil,Nat.reduceAdd,Nat.zero_add,List.range,List.range.loop]
 refine oT ?_
 refine oL ?_
 refine ogE ?_
 rw[b06]
 refine L7<|ogV d0F C7<|ogW a0s b0p ?_
 simp only[oC,a0s,pC,L0,Tryd.f51,Option.getD_some,List.size_toArray,List.length_cons,List.length_nil,Nat.reduceAdd,Nat.zero_add,List.range,List.range.loop]
 iterate 2 refine oT ?_
 refine ogE<|ogYn .skip<|ogK<|ogYn k0I<|ogV E3 k0J ?_
 rw[i0U]
 refine c0h (DoS cb fb xb lb w.heap.size 1 a b c0) (mid:=9) S3 (p0u (by kernel_rfl)) (Q:=a0g) (fun t f hf=>c02 t f (by rw[q0o]at hf;omega)) (by decide) ?_
 have ho5:∃o,o=(oC E3):=⟨_,rfl⟩
 simp only[oC,E3,pC,L0,Tryd.f51,Option.getD_some,List.size_toArray,List.length_cons,List.length_nil,Nat.reduceAdd,Nat.zero_add,List.range,List.range.loop]
 refine G9 hS (fun _ _ d h r hr=>(h r hr).at d) (i:=0) (v:=vL fb 0 3 3) hs rfl rfl (by kernel_rfl) (by kernel_rfl) (by kernel_rfl) (fun u hu=>.inl ⟨rfl,fun d=>⟨by simp[go_sem,execOp,Act.eval,hu.h.c],fun e he=>by have hm:=mem_listed he;simp[go_sem,execOp,Act.eval,hu.h.c]at hm;subst hm;exact I1 _ _⟩⟩) ?_
 walk_nrm
 refine G9 hS (fun _ _ d h r hr=>(h r hr).at d) (i:=1) (v:=vP w.heap.size 0) hs rfl rfl (by kernel_rfl) (by kernel_rfl) (by kernel_rfl) (fun u hu=>.inl ⟨rfl,fun d=>⟨by simp[go_sem,execOp,Act.eval],fun e he=>by have hm:=mem_listed he;simp[go_sem,execOp,Act.eval]at hm⟩⟩) ?_
 walk_nrm
 refine G9 hS (fun _ _ d h r hr=>(h r hr).at d) (i:=2) (v:=vI 1) hs rfl rfl (by kernel_rfl) (by kernel_rfl) (by kernel_rfl) (fun u hu=>.inl ⟨rfl,fun d=>⟨by simp[go_sem,execOp,Act.eval,hu.k0],fun e he=>by have hm:=mem_listed he;simp[go_sem,execOp,Act.eval,hu.k0]at hm;subst hm;exact I1 _ _⟩⟩) ?_
 walk_nrm
 refine G9 hS (fun _ _ d h r hr=>(h r hr).at d) (i:=3) (v:=vI 0) hs rfl rfl (by kernel_rfl) (by kernel_rfl) (by kernel_rfl) (fun u hu=>.inl ⟨rfl,fun d=>⟨by simp[go_sem,execOp,Act.eval,hw],fun e he=>by have hm:=mem_listed he;simp[go_sem,execOp,Act.eval,hw]at hm⟩⟩) ?_
 walk_nrm
 refine G9 hS (fun _ _ d h r hr=>(h r hr).at d) (i:=4) (v:=vP fb 0) hs rfl rfl (by kernel_rfl) (by kernel_rfl) (by kernel_rfl) (fun u hu=>.inl ⟨rfl,fun d=>⟨by simp[go_sem,execOp,Act.eval],fun e he=>by have hm:=mem_listed he;simp[go_sem,execOp,Act.eval]at hm⟩⟩) ?_
 walk_nrm
 refine G9 hS (fun _ _ d h r hr=>(h r hr).at d) (i:=5) (v:=.func (.func 18) #[vP lb 0] #[]) hs rfl rfl (by kernel_rfl) (by kernel_rfl) (by kernel_rfl) (fun u hu=>.inl ⟨rfl,fun d=>⟨by simp[go_sem,execOp,Act.eval,hu.h.f0],fun e he=>by have hm:=mem_listed he;simp[go_sem,execOp,Act.eval,hu.h.f0]at hm;subst hm;exact I1 _ _⟩⟩) ?_
 walk_nrm
 refine G9 hS (fun _ _ d h r hr=>(h r hr).at d) (i:=6) (v:=sv) hs rfl rfl (by kernel_rfl) (by kernel_rfl) (by kernel_rfl) (fun u hu=>.inl ⟨rfl,fun d=>⟨by simp[go_sem,execOp,Act.eval],fun e he=>by have hm:=mem_listed he;simp[go_sem,execOp,Act.eval]at hm⟩⟩) ?_
 walk_nrm
 refine G9 hS (fun _ _ d h r hr=>(h r hr).at d) (i:=7) (v:=vP w.heap.size 1) hs rfl rfl (by kernel_rfl) (by kernel_rfl) (by kernel_rfl) (fun u hu=>.inl ⟨rfl,fun d=>⟨by simp[go_sem,execOp,Act.eval],fun e he=>by have hm:=mem_listed he;simp[go_sem,execOp,Act.eval]at hm⟩⟩) ?_
 walk_nrm
 refine G9 hS (fun _ _ d h r hr=>(h r hr).at d) (i:=8) (v:=vI a) hs rfl rfl (by kernel_rfl) (by kernel_rfl) (by kernel_rfl) (fun u hu=>.inl ⟨rfl,fun d=>⟨by simp[go_sem,execOp,Act.eval,hu.k1],fun e he=>by have hm:=mem_listed he;simp[go_sem,execOp,Act.eval,hu.k1]at hm;subst hm;exact I1 _ _⟩⟩) ?_
 walk_nrm
 refine F9 (by kernel_rfl) (fun rest hr=>?_) _
 refine oc e0o #[vP lb 0,sv,vI a] ?_
 refine h _ rest hr ?_
 exact⟨rfl,rfl,trivial⟩
theorem x0i{nn:Nat}(hU:i2 F nn)(hn:nn≤w.heap.size){sv:Value}{cb fb xb lb j:Nat}{a b c0:Int}(hC:CH cb fb xb lb w)
 (h:∀A rest,a0g rest→G0 63 A [(8,vP (w.heap.size+1) 0)]→J0 Tryd.prog main F Stop (G (Frame.enter Tryd.prog 19 #[vP lb 0,sv,vI a] .normal) (c0C A rest::cs)) ((w.alloc (.cells #[vI 2,vI a,vI b,vI c0] 44)).alloc (.cells #[.bool false,vI 0,.slice none 0 0] 49))):
 J0 Tryd.prog main F Stop (G (Frame.enter Tryd.prog 51 #[sv,vI j,.agg #[vI 2,vI a,vI b,vI c0],vP cb 0,vP xb 0] .normal) cs) w:=by
 have hw:IntKind.i64.wrap 1=1:=by decide
 have hs:DoS cb fb xb lb w.heap.size 2 a b c0 ((w.alloc (.cells #[vI 2,vI a,vI b,vI c0] 44)).alloc (.cells #[.bool false,vI 0,.slice none 0 0] 49)):=⟨hC.kept fun r hr=>by rw[D0 _ _ (by simp;omega),D0 _ _ hr],by rw[D0 _ _ (by simp)];exact heap_alloc_new _ _⟩
 have hS:∀u d,DoS cb fb xb lb w.heap.size 2 a b c0 u→DoS cb fb xb lb w.heap.size 2 a b c0 (World.at u d):=fun u d h=>h.at d
 rw[J8]
 walk_nrm
 refine ogW a0n c0v ?_
 simp only[oC,a0n,pC,L0,Tryd.f51,Option.getD_some,List.size_toArray,List.length_cons,List.length_nil,Nat.reduceAdd,Nat.zero_add,List.range,List.range.loop]
 iterate 2 refine oA hU ?_
 refine ogE<|ogV d0E J5<|ogW a0r c0n ?_
 simp only[oC,a0r,pC,L0,Tryd.f51,Option.getD_some,List.size_toArray,List.length_cons,List.length_nil,Nat.reduceAdd,Nat.zero_add,List.range,List.range.loop]
 refine oT ?_
 refine oL ?_
 refine ogE ?_
 rw[b06]
 refine L7<|ogV d0F C7<|ogW a0s b0p ?_
 simp only[oC,a0s,pC,L0,Tryd.f51,Option.getD_some,List.size_toArray,List.length_cons,List.length_nil,Nat.reduceAdd,Nat.zero_add,List.range,List.range.loop]
 iterate 2 refine oT ?_
 refine ogE<|ogGn e0J<|ogW b0b b0H ?_
 simp only[oC,b0b,pC,L0,Tryd.f51,Option.getD_some,List.size_toArray,List.length_cons,List.length_nil,Nat.reduceAdd,Nat.zero_add,List.range,List.range.loop]
 iterate 2 refine oT ?_
 refine ogE<|ogYn .skip<|ogK<|ogYn k0I<|ogV E3 k0J ?_
 rw[i0U]
 refine c0h (DoS cb fb xb lb w.heap.size 2 a b c0) (mid:=9) S3 (p0u (by kernel_rfl)) (Q:=a0g) (fun t f hf=>c02 t f (by rw[q0o]at hf;omega)) (by decide) ?_
 have ho5:∃o,o=(oC E3):=⟨_,rfl⟩
 simp only[oC,E3,pC,L0,Tryd.f51,Option.getD_some,List.size_toArray,List.length_cons,List.length_nil,Nat.reduceAdd,Nat.zero_add,List.range,List.range.loop]
 refine G9 hS (fun _ _ d h r hr=>(h r hr).at d) (i:=0) (v:=vL fb 0 3 3) hs rfl rfl (by kernel_rfl) (by kernel_rfl) (by kernel_rfl) (fun u hu=>.inl ⟨rfl,fun d=>⟨by simp[go_sem,execOp,Act.eval,hu.h.c],fun e he=>by have hm:=mem_listed he;simp[go_sem,execOp,Act.eval,hu.h.c]at hm;subst hm;exact I1 _ _⟩⟩) ?_
 walk_nrm
 refine G9 hS (fun _ _ d h r hr=>(h r hr).at d) (i:=1) (v:=vP w.heap.size 0) hs rfl rfl (by kernel_rfl) (by kernel_rfl) (by kernel_rfl) (fun u hu=>.inl ⟨rfl,fun d=>⟨by simp[go_sem,execOp,Act.eval],fun e he=>by have hm:=mem_listed he;simp[go_sem,execOp,Act.eval]at hm⟩⟩) ?_
 walk_nrm
 refine G9 hS (fun _ _ d h r hr=>(h r hr).at d) (i:=2) (v:=vI 2) hs rfl rfl (by kernel_rfl) (by kernel_rfl) (by kernel_rfl) (fun u hu=>.inl ⟨rfl,fun d=>⟨by simp[go_sem,execOp,Act.eval,hu.k0],fun e he=>by have hm:=mem_listed he;simp[go_sem,execOp,Act.eval,hu.k0]at hm;subst hm;exact I1 _ _⟩⟩) ?_
 walk_nrm
 refine G9 hS (fun _ _ d h r hr=>(h r hr).at d) (i:=3) (v:=vI 1) hs rfl rfl (by kernel_rfl) (by kernel_rfl) (by kernel_rfl) (fun u hu=>.inl ⟨rfl,fun d=>⟨by simp[go_sem,execOp,Act.eval,hw],fun e he=>by have hm:=mem_listed he;simp[go_sem,execOp,Act.eval,hw]at hm⟩⟩) ?_
 walk_nrm
 refine G9 hS (fun _ _ d h r hr=>(h r hr).at d) (i:=4) (v:=vP fb 1) hs rfl rfl (by kernel_rfl) (by kernel_rfl) (by kernel_rfl) (fun u hu=>.inl ⟨rfl,fun d=>⟨by simp[go_sem,execOp,Act.eval],fun e he=>by have hm:=mem_listed he;simp[go_sem,execOp,Act.eval]at hm⟩⟩) ?_
 walk_nrm
 refine G9 hS (fun _ _ d h r hr=>(h r hr).at d) (i:=5) (v:=.func (.func 19) #[vP lb 0] #[]) hs rfl rfl (by kernel_rfl) (by kernel_rfl) (by kernel_rfl) (fun u hu=>.inl ⟨rfl,fun d=>⟨by simp[go_sem,execOp,Act.eval,hu.h.f1],fun e he=>by have hm:=mem_listed he;simp[go_sem,execOp,Act.eval,hu.h.f1]at hm;subst hm;exact I1 _ _⟩⟩) ?_
 walk_nrm
 refine G9 hS (fun _ _ d h r hr=>(h r hr).at d) (i:=6) (v:=sv) hs rfl rfl (by kernel_rfl) (by kernel_rfl) (by kernel_rfl) (fun u hu=>.inl ⟨rfl,fun d=>⟨by simp[go_sem,execOp,Act.eval],fun e he=>by have hm:=mem_listed he;simp[go_sem,execOp,Act.eval]at hm⟩⟩) ?_
 walk_nrm
 refine G9 hS (fun _ _ d h r hr=>(h r hr).at d) (i:=7) (v:=vP w.heap.size 1) hs rfl rfl (by kernel_rfl) (by kernel_rfl) (by kernel_rfl) (fun u hu=>.inl ⟨rfl,fun d=>⟨by simp[go_sem,execOp,Act.eval],fun e he=>by have hm:=mem_listed he;simp[go_sem,execOp,Act.eval]at hm⟩⟩) ?_
 walk_nrm
 refine G9 hS (fun _ _ d h r hr=>(h r hr).at d) (i:=8) (v:=vI a) hs rfl rfl (by kernel_rfl) (by kernel_rfl) (by kernel_rfl) (fun u hu=>.inl ⟨rfl,fun d=>⟨by simp[go_sem,execOp,Act.eval,hu.k1],fun e he=>by have hm:=mem_listed he;simp[go_sem,execOp,Act.eval,hu.k1]at hm;subst hm;exact I1 _ _⟩⟩) ?_
 walk_nrm
 refine F9 (by kernel_rfl) (fun rest hr=>?_) _
 refine oc a0Z #[vP lb 0,sv,vI a] ?_
 refine h _ rest hr ?_
 exact⟨rfl,rfl,trivial⟩
theorem x0j{nn:Nat}(hU:i2 F nn)(hn:nn≤w.heap.size){sv:Value}{cb fb xb lb j:Nat}{a b c0:Int}(hC:CH cb fb xb lb w)
 (h:∀A rest,a0g rest→G0 63 A [(8,vP (w.heap.size+1) 0)]→J0 Tryd.prog main F Stop (G (Frame.enter Tryd.prog 20 #[vP lb 0,sv,vI a] .normal) (c0C A rest::cs)) ((w.alloc (.cells #[vI 3,vI a,vI b,vI c0] 44)).alloc (.cells #[.bool false,vI 0,.slice none 0 0] 49))):
 J0 Tryd.prog main F Stop (G (Frame.enter Tryd.prog 51 #[sv,vI j,.agg #[vI 3,vI a,vI b,vI c0],vP cb 0,vP xb 0] .normal) cs) w:=by
 have hw:IntKind.i64.wrap 2=2:=by decide
 have hs:DoS cb fb xb lb w.heap.size 3 a b c0 ((w.alloc (.cells #[vI 3,vI a,vI b,vI c0] 44)).alloc (.cells #[.bool false,vI 0,.slice none 0 0] 49)):=⟨hC.kept fun r hr=>by rw[D0 _ _ (by simp;omega),D0 _ _ hr],by rw[D0 _ _ (by simp)];exact heap_alloc_new _ _⟩
 have hS:∀u d,DoS cb fb xb lb w.heap.size 3 a b c0 u→DoS cb fb xb lb w.heap.size 3 a b c0 (World.at u d):=fun u d h=>h.at d
 rw[J8]
 walk_nrm
 refine ogW a0n c0v ?_
 simp only[oC,a0n,pC,L0,Tryd.f51,Option.getD_some,List.size_toArray,List.length_cons,List.length_nil,Nat.reduceAdd,Nat.zero_add,List.range,List.range.loop]
 iterate 2 refine oA hU ?_
 refine ogE<|ogV d0E J5<|ogW a0r c0n ?_
 simp only[oC,a0r,pC,L0,Tryd.f51,Option.getD_some,List.size_toArray,List.length_cons,List.length_nil,Nat.reduceAdd,Nat.zero_add,List.range,List.range.loop]
 refine oT ?_
 refine oL ?_
 refine ogE ?_
 rw[b06]
 refine L7<|ogV d0F C7<|ogW a0s b0p ?_
 simp only[oC,a0s,pC,L0,Tryd.f51,Option.getD_some,List.size_toArray,List.length_cons,List.length_nil,Nat.reduceAdd,Nat.zero_add,List.range,List.range.loop]
 iterate 2 refine oT ?_
 refine ogE<|ogGn e0J<|ogW b0b b0H ?_
 simp only[oC,b0b,pC,L0,Tryd.f51,Option.getD_some,List.size_toArray,List.length_cons,List.length_nil,Nat.reduceAdd,Nat.zero_add,List.range,List.range.loop]
 iterate 2 refine oT ?_
 refine ogE<|ogGn b0i ?_
 rw[e0F]
 refine ogR ?_
 simp only[oC,b0i,pC,L0,Tryd.f51,Option.getD_some,List.size_toArray,List.length_cons,List.length_nil,Nat.reduceAdd,Nat.zero_add,List.range,List.range.loop]
 iterate 2 refine oT ?_
 refine ogE<|ogYn k0I<|ogV E3 k0J ?_
 rw[i0U]
 refine c0h (DoS cb fb xb lb w.heap.size 3 a b c0) (mid:=9) S3 (p0u (by kernel_rfl)) (Q:=a0g) (fun t f hf=>c02 t f (by rw[q0o]at hf;omega)) (by decide) ?_
 have ho5:∃o,o=(oC E3):=⟨_,rfl⟩
 simp only[oC,E3,pC,L0,Tryd.f51,Option.getD_some,List.size_toArray,List.length_cons,List.length_nil,Nat.reduceAdd,Nat.zero_add,List.range,List.range.loop]
 refine G9 hS (fun _ _ d h r hr=>(h r hr).at d) (i:=0) (v:=vL fb 0 3 3) hs rfl rfl (by kernel_rfl) (by kernel_rfl) (by kernel_rfl) (fun u hu=>.inl ⟨rfl,fun d=>⟨by simp[go_sem,execOp,Act.eval,hu.h.c],fun e he=>by have hm:=mem_listed he;simp[go_sem,execOp,Act.eval,hu.h.c]at hm;subst hm;exact I1 _ _⟩⟩) ?_
 walk_nrm
 refine G9 hS (fun _ _ d h r hr=>(h r hr).at d) (i:=1) (v:=vP w.heap.size 0) hs rfl rfl (by kernel_rfl) (by kernel_rfl) (by kernel_rfl) (fun u hu=>.inl ⟨rfl,fun d=>⟨by simp[go_sem,execOp,Act.eval],fun e he=>by have hm:=mem_listed he;simp[go_sem,execOp,Act.eval]at hm⟩⟩) ?_
 walk_nrm
 refine G9 hS (fun _ _ d h r hr=>(h r hr).at d) (i:=2) (v:=vI 3) hs rfl rfl (by kernel_rfl) (by kernel_rfl) (by kernel_rfl) (fun u hu=>.inl ⟨rfl,fun d=>⟨by simp[go_sem,execOp,Act.eval,hu.k0],fun e he=>by have hm:=mem_listed he;simp[go_sem,execOp,Act.eval,hu.k0]at hm;subst hm;exact I1 _ _⟩⟩) ?_
 walk_nrm
 refine G9 hS (fun _ _ d h r hr=>(h r hr).at d) (i:=3) (v:=vI 2) hs rfl rfl (by kernel_rfl) (by kernel_rfl) (by kernel_rfl) (fun u hu=>.inl ⟨rfl,fun d=>⟨by simp[go_sem,execOp,Act.eval,hw],fun e he=>by have hm:=mem_listed he;simp[go_sem,execOp,Act.eval,hw]at hm⟩⟩) ?_
 walk_nrm
 refine G9 hS (fun _ _ d h r hr=>(h r hr).at d) (i:=4) (v:=vP fb 2) hs rfl rfl (by kernel_rfl) (by kernel_rfl) (by kernel_rfl) (fun u hu=>.inl ⟨rfl,fun d=>⟨by simp[go_sem,execOp,Act.eval],fun e he=>by have hm:=mem_listed he;simp[go_sem,execOp,Act.eval]at hm⟩⟩) ?_
 walk_nrm
 refine G9 hS (fun _ _ d h r hr=>(h r hr).at d) (i:=5) (v:=.func (.func 20) #[vP lb 0] #[]) hs rfl rfl (by kernel_rfl) (by kernel_rfl) (by kernel_rfl) (fun u hu=>.inl ⟨rfl,fun d=>⟨by simp[go_sem,execOp,Act.eval,hu.h.f2],fun e he=>by have hm:=mem_listed he;simp[go_sem,execOp,Act.eval,hu.h.f2]at hm;subst hm;exact I1 _ _⟩⟩) ?_
 walk_nrm
 refine G9 hS (fun _ _ d h r hr=>(h r hr).at d) (i:=6) (v:=sv) hs rfl rfl (by kernel_rfl) (by kernel_rfl) (by kernel_rfl) (fun u hu=>.inl ⟨rfl,fun d=>⟨by simp[go_sem,execOp,Act.eval],fun e he=>by have hm:=mem_listed he;simp[go_sem,execOp,Act.eval]at hm⟩⟩) ?_
 walk_nrm
 refine G9 hS (fun _ _ d h r hr=>(h r hr).at d) (i:=7) (v:=vP w.heap.size 1) hs rfl rfl (by kernel_rfl) (by kernel_rfl) (by kernel_rfl) (fun u hu=>.inl ⟨rfl,fun d=>⟨by simp[go_sem,execOp,Act.eval],fun e he=>by have hm:=mem_listed he;simp[go_sem,execOp,Act.eval]at hm⟩⟩) ?_
 walk_nrm
 refine G9 hS (fun _ _ d h r hr=>(h r hr).at d) (i:=8) (v:=vI a) hs rfl rfl (by kernel_rfl) (by kernel_rfl) (by kernel_rfl) (fun u hu=>.inl ⟨rfl,fun d=>⟨by simp[go_sem,execOp,Act.eval,hu.k1],fun e he=>by have hm:=mem_listed he;simp[go_sem,execOp,Act.eval,hu.k1]at hm;subst hm;exact I1 _ _⟩⟩) ?_
 walk_nrm
 refine F9 (by kernel_rfl) (fun rest hr=>?_) _
 refine oc j0o #[vP lb 0,sv,vI a] ?_
 refine h _ rest hr ?_
 exact⟨rfl,rfl,trivial⟩
end
section
variable {cs:List Frame}{main:Bool}{Stop:Goroutine→World→Prop}
variable{F:Fz}{w:World}
theorem p0f{ab:Nat}(ha:s9 w ab)(hnh:∀k,¬held F ⟨ab,k,none⟩){A:Array Value}{rest:List Nat}(hr:a0g rest)(hA:G0 63 A [(8,vP ab 0)]){c:Frame}
 (h:J0 Tryd.prog main F Stop (G (c.finish (.agg #[.bool true,vI 1,.slice none 0 0])) cs) (d09 w ab true 1)):
 J0 Tryd.prog main F Stop (G ((c0C A rest).finish (.tuple #[.bool true,vI 0])) (c::cs)) w:=by
 obtain⟨s,rfl,h8,_⟩:=Y3 b0o hA
 simp only[b0o,h8]
 clear h8
 obtain⟨x0,x1,x2,c0,c1,c2⟩:=ha.c
 have z0:=ha.z 0
 have z1:=ha.z 1
 have z2:=ha.z 2
 unfold c0C
 rcases hr with rfl|rfl|rfl
 all_goals
  rw[Frame.finish_at]
  simp only[oC,E3,pC,L0,Tryd.f51,Option.getD_some,List.size_toArray,List.length_cons,List.length_nil,Nat.reduceAdd,Nat.zero_add,List.range,List.range.loop]
  walk_nrm
  iterate 5 refine oT ?_
  refine ogE<|ogW g0n .ret ?_
  simp only[oC,g0n,pC,L0,Tryd.f51,Option.getD_some,List.size_toArray,List.length_cons,List.length_nil,Nat.reduceAdd,Nat.zero_add,List.range,List.range.loop]
  iterate 3 refine oT ?_
  refine oc e0q #[.bool true] ?_
  refine q0v ?_
  rw[Frame.finish_at]
  walk_nrm
  refine oT ?_
  (refine oW fun dd K hK=>?_;go_simp;refine hK _ _ ⟨⟨⟨0,K6 hnh _ _ _⟩,fun e he=>by(have hm:=mem_listed he;clear he hK;simp[go_sem,storedEv,c0,c1,c2,z0,z1,z2]at hm;rcases hm with rfl|rfl|rfl<;>exact U0 _ _ (hnh _))⟩,?_⟩;clear hK K;simp only[setCell_at'];refine J0.at ?_ dd)
  refine ogE<|ogX ?_
  refine p4 (fn:=Tryd.f51) (v:=.agg #[.bool true,vI 1,.slice none 0 0]) rfl rfl Tryd.func51 (fun d=>by simp[results,Tryd.f51,go_sem,c0,c1,c2,z0,z1,z2]) (fun d e he=>by(simp[results,Tryd.f51,go_sem,c0,c1,c2,z0,z1,z2]at he;rcases he with rfl|rfl|rfl<;>exact I1 _ _)) ?_
  exact h
theorem p0e{ab:Nat}(ha:s9 w ab)(hnh:∀k,¬held F ⟨ab,k,none⟩){A:Array Value}{rest:List Nat}(hr:a0g rest)(hA:G0 63 A [(8,vP ab 0)]){c:Frame}
 (h:J0 Tryd.prog main F Stop (G (c.finish (.agg #[.bool true,vI 0,.slice none 0 0])) cs) (d09 w ab true 0)):
 J0 Tryd.prog main F Stop (G ((c0C A rest).finish (.tuple #[.bool false,vI 0])) (c::cs)) w:=by
 obtain⟨s,rfl,h8,_⟩:=Y3 b0o hA
 simp only[b0o,h8]
 clear h8
 obtain⟨x0,x1,x2,c0,c1,c2⟩:=ha.c
 have z0:=ha.z 0
 have z1:=ha.z 1
 have z2:=ha.z 2
 unfold c0C
 rcases hr with rfl|rfl|rfl
 all_goals
  rw[Frame.finish_at]
  simp only[oC,E3,pC,L0,Tryd.f51,Option.getD_some,List.size_toArray,List.length_cons,List.length_nil,Nat.reduceAdd,Nat.zero_add,List.range,List.range.loop]
  walk_nrm
  iterate 5 refine oT ?_
  refine ogE<|ogW g0n .ret ?_
  simp only[oC,g0n,pC,L0,Tryd.f51,Option.getD_some,List.size_toArray,List.length_cons,List.length_nil,Nat.reduceAdd,Nat.zero_add,List.range,List.range.loop]
  iterate 3 refine oT ?_
  refine oc e0q #[.bool false] ?_
  refine g0U ?_
  rw[Frame.finish_at]
  walk_nrm
  refine oT ?_
  (refine oW fun dd K hK=>?_;go_simp;refine hK _ _ ⟨⟨⟨0,K6 hnh _ _ _⟩,fun e he=>by(have hm:=mem_listed he;clear he hK;simp[go_sem,storedEv,c0,c1,c2,z0,z1,z2]at hm;rcases hm with rfl|rfl|rfl<;>exact U0 _ _ (hnh _))⟩,?_⟩;clear hK K;simp only[setCell_at'];refine J0.at ?_ dd)
  refine ogE<|ogX ?_
  refine p4 (fn:=Tryd.f51) (v:=.agg #[.bool true,vI 0,.slice none 0 0]) rfl rfl Tryd.func51 (fun d=>by simp[results,Tryd.f51,go_sem,c0,c1,c2,z0,z1,z2]) (fun d e he=>by(simp[results,Tryd.f51,go_sem,c0,c1,c2,z0,z1,z2]at he;rcases he with rfl|rfl|rfl<;>exact I1 _ _)) ?_
  exact h
theorem g0A{ab:Nat}(ha:s9 w ab)(hnh:∀k,¬held F ⟨ab,k,none⟩){A:Array Value}{rest:List Nat}(hr:a0g rest)(hA:G0 63 A [(8,vP ab 0)]){c:Frame}
 (h:J0 Tryd.prog main F Stop (G (c.finish (.agg #[.bool false,vI 0,.slice none 0 0])) cs) (d09 w ab false 0)):
 J0 Tryd.prog main F Stop (G ((c0C A rest).finish (.tuple #[.bool false,vI 1])) (c::cs)) w:=by
 obtain⟨s,rfl,h8,_⟩:=Y3 b0o hA
 simp only[b0o,h8]
 clear h8
 obtain⟨x0,x1,x2,c0,c1,c2⟩:=ha.c
 have z0:=ha.z 0
 have z1:=ha.z 1
 have z2:=ha.z 2
 unfold c0C
 rcases hr with rfl|rfl|rfl
 all_goals
  rw[Frame.finish_at]
  simp only[oC,E3,pC,L0,Tryd.f51,Option.getD_some,List.size_toArray,List.length_cons,List.length_nil,Nat.reduceAdd,Nat.zero_add,List.range,List.range.loop]
  walk_nrm
  iterate 5 refine oT ?_
  refine ogE<|ogW g0n .ret ?_
  simp only[oC,g0n,pC,L0,Tryd.f51,Option.getD_some,List.size_toArray,List.length_cons,List.length_nil,Nat.reduceAdd,Nat.zero_add,List.range,List.range.loop]
  iterate 3 refine oT ?_
  refine oc e0q #[.bool false] ?_
  refine g0U ?_
  rw[Frame.finish_at]
  walk_nrm
  refine oT ?_
  (refine oW fun dd K hK=>?_;go_simp;refine hK _ _ ⟨⟨⟨0,K6 hnh _ _ _⟩,fun e he=>by(have hm:=mem_listed he;clear he hK;simp[go_sem,storedEv,c0,c1,c2,z0,z1,z2]at hm;rcases hm with rfl|rfl|rfl<;>exact U0 _ _ (hnh _))⟩,?_⟩;clear hK K;simp only[setCell_at'];refine J0.at ?_ dd)
  refine ogE<|ogX ?_
  refine p4 (fn:=Tryd.f51) (v:=.agg #[.bool false,vI 0,.slice none 0 0]) rfl rfl Tryd.func51 (fun d=>by simp[results,Tryd.f51,go_sem,c0,c1,c2,z0,z1,z2]) (fun d e he=>by(simp[results,Tryd.f51,go_sem,c0,c1,c2,z0,z1,z2]at he;rcases he with rfl|rfl|rfl<;>exact I1 _ _)) ?_
  exact h
end
section
variable {cs:List Frame}{main:Bool}{Stop:Goroutine→World→Prop}
variable{F:Fz}{w:World}
theorem x0k{nn:Nat}(hU:i2 F nn)(hn:nn≤w.heap.size){sv:Value}{cb fb xb lb j:Nat}{a b c0:Int}(hC:CH cb fb xb lb w)
 (h:∀A,G0 63 A [(8,vP (w.heap.size+1) 0)]→J0 Tryd.prog main F Stop (G (Frame.enter Tryd.prog 45 #[vP lb 0,sv] .normal) ((bA 51 A [.inRegion (oC d0C) [2,3,4,5,6,7],.code e0I,.inBlock 0,.code J5])::cs)) ((w.alloc (.cells #[vI 4,vI a,vI b,vI c0] 44)).alloc (.cells #[.bool false,vI 0,.slice none 0 0] 49))):
 J0 Tryd.prog main F Stop (G (Frame.enter Tryd.prog 51 #[sv,vI j,.agg #[vI 4,vI a,vI b,vI c0],vP cb 0,vP xb 0] .normal) cs) w:=by
 have hx:((w.alloc (.cells #[vI 4,vI a,vI b,vI c0] 44)).alloc (.cells #[.bool false,vI 0,.slice none 0 0] 49)).cell? ⟨xb,0,none⟩=some (vP lb 0):=(hC.kept (u:=((w.alloc (.cells #[vI 4,vI a,vI b,vI c0] 44)).alloc (.cells #[.bool false,vI 0,.slice none 0 0] 49))) fun r hr=>by rw[D0 _ _ (by simp;omega),D0 _ _ hr]).x
 rw[J8]
 walk_nrm
 refine ogW a0n c0v ?_
 simp only[oC,a0n,pC,L0,Tryd.f51,Option.getD_some,List.size_toArray,List.length_cons,List.length_nil,Nat.reduceAdd,Nat.zero_add,List.range,List.range.loop]
 iterate 2 refine oA hU ?_
 refine ogE<|ogV d0E J5<|ogW a0r c0n ?_
 simp only[oC,a0r,pC,L0,Tryd.f51,Option.getD_some,List.size_toArray,List.length_cons,List.length_nil,Nat.reduceAdd,Nat.zero_add,List.range,List.range.loop]
 refine oT ?_
 refine oL ?_
 refine ogE ?_
 rw[b06]
 refine L7<|ogV d0F C7<|ogW a0s b0p ?_
 simp only[oC,a0s,pC,L0,Tryd.f51,Option.getD_some,List.size_toArray,List.length_cons,List.length_nil,Nat.reduceAdd,Nat.zero_add,List.range,List.range.loop]
 iterate 2 refine oT ?_
 refine ogE<|ogGn e0J<|ogW b0b b0H ?_
 simp only[oC,b0b,pC,L0,Tryd.f51,Option.getD_some,List.size_toArray,List.length_cons,List.length_nil,Nat.reduceAdd,Nat.zero_add,List.range,List.range.loop]
 iterate 2 refine oT ?_
 refine ogE<|ogGn b0i ?_
 rw[e0F]
 refine ogR ?_
 simp only[oC,b0i,pC,L0,Tryd.f51,Option.getD_some,List.size_toArray,List.length_cons,List.length_nil,Nat.reduceAdd,Nat.zero_add,List.range,List.range.loop]
 iterate 2 refine oT ?_
 refine ogE<|ogGn h0J<|ogW d0B c03 ?_
 simp only[oC,d0B,pC,L0,Tryd.f51,Option.getD_some,List.size_toArray,List.length_cons,List.length_nil,Nat.reduceAdd,Nat.zero_add,List.range,List.range.loop]
 iterate 2 refine oT ?_
 refine ogE<|ogYn r07<|ogW d0C e0I ?_
 simp only[oC,d0C,pC,L0,Tryd.f51,Option.getD_some,List.size_toArray,List.length_cons,List.length_nil,Nat.reduceAdd,Nat.zero_add,List.range,List.range.loop]
 refine oL ?_
 refine oT ?_
 refine oc j0p #[vP lb 0,sv] ?_
 refine h _ ?_
 exact⟨rfl,rfl,trivial⟩
theorem x0l{nn:Nat}(hU:i2 F nn)(hn:nn≤w.heap.size){sv:Value}{cb fb xb lb j:Nat}{a b c0:Int}(hC:CH cb fb xb lb w)
 (h:∀A,G0 63 A [(8,vP (w.heap.size+1) 0)]→J0 Tryd.prog main F Stop (G (Frame.enter Tryd.prog 46 #[vP lb 0,sv] .normal) ((bA 51 A [.inRegion (oC c05) [2,3,4],.code .ret,.inBlock 0,.code J5])::cs)) ((w.alloc (.cells #[vI 5,vI a,vI b,vI c0] 44)).alloc (.cells #[.bool false,vI 0,.slice none 0 0] 49))):
 J0 Tryd.prog main F Stop (G (Frame.enter Tryd.prog 51 #[sv,vI j,.agg #[vI 5,vI a,vI b,vI c0],vP cb 0,vP xb 0] .normal) cs) w:=by
 have hx:((w.alloc (.cells #[vI 5,vI a,vI b,vI c0] 44)).alloc (.cells #[.bool false,vI 0,.slice none 0 0] 49)).cell? ⟨xb,0,none⟩=some (vP lb 0):=(hC.kept (u:=((w.alloc (.cells #[vI 5,vI a,vI b,vI c0] 44)).alloc (.cells #[.bool false,vI 0,.slice none 0 0] 49))) fun r hr=>by rw[D0 _ _ (by simp;omega),D0 _ _ hr]).x
 rw[J8]
 walk_nrm
 refine ogW a0n c0v ?_
 simp only[oC,a0n,pC,L0,Tryd.f51,Option.getD_some,List.size_toArray,List.length_cons,List.length_nil,Nat.reduceAdd,Nat.zero_add,List.range,List.range.loop]
 iterate 2 refine oA hU ?_
 refine ogE<|ogV d0E J5<|ogW a0r c0n ?_
 simp only[oC,a0r,pC,L0,Tryd.f51,Option.getD_some,List.size_toArray,List.length_cons,List.length_nil,Nat.reduceAdd,Nat.zero_add,List.range,List.range.loop]
 refine oT ?_
 refine oL ?_
 refine ogE ?_
 rw[b06]
 refine L7<|ogV d0F C7<|ogW a0s b0p ?_
 simp only[oC,a0s,pC,L0,Tryd.f51,Option.getD_some,List.size_toArray,List.length_cons,List.length_nil,Nat.reduceAdd,Nat.zero_add,List.range,List.range.loop]
 iterate 2 refine oT ?_
 refine ogE<|ogGn e0J<|ogW b0b b0H ?_
 simp only[oC,b0b,pC,L0,Tryd.f51,Option.getD_some,List.size_toArray,List.length_cons,List.length_nil,Nat.reduceAdd,Nat.zero_add,List.range,List.range.loop]
 iterate 2 refine oT ?_
 refine ogE<|ogGn b0i ?_
 rw[e0F]
 refine ogR ?_
 simp only[oC,b0i,pC,L0,Tryd.f51,Option.getD_some,List.size_toArray,List.length_cons,List.length_nil,Nat.reduceAdd,Nat.zero_add,List.range,List.range.loop]
 iterate 2 refine oT ?_
 refine ogE<|ogGn h0J<|ogW d0B c03 ?_
 simp only[oC,d0B,pC,L0,Tryd.f51,Option.getD_some,List.size_toArray,List.length_cons,List.length_nil,Nat.reduceAdd,Nat.zero_add,List.range,List.range.loop]
 iterate 2 refine oT ?_
 refine ogE<|ogGn h0o<|ogW c04 e0B ?_
 simp only[oC,c04,pC,L0,Tryd.f51,Option.getD_some,List.size_toArray,List.length_cons,List.length_nil,Nat.reduceAdd,Nat.zero_add,List.range,List.range.loop]
 iterate 2 refine oT ?_
 refine ogE<|ogYn t0Y<|ogW c05 .ret ?_
 simp only[oC,c05,pC,L0,Tryd.f51,Option.getD_some,List.size_toArray,List.length_cons,List.length_nil,Nat.reduceAdd,Nat.zero_add,List.range,List.range.loop]
 refine oL ?_
 refine oT ?_
 refine oc j0q #[vP lb 0,sv] ?_
 refine h _ ?_
 exact⟨rfl,rfl,trivial⟩
theorem x0m{nn:Nat}(hU:i2 F nn)(hn:nn≤w.heap.size){sv:Value}{cb fb xb lb j:Nat}{a b c0:Int}(hC:CH cb fb xb lb w)
 (h:∀A,G0 63 A [(8,vP (w.heap.size+1) 0)]→J0 Tryd.prog main F Stop (G (Frame.enter Tryd.prog 30 #[vP lb 0,sv] .normal) ((bA 51 A [.inRegion (oC a0X) [2,3,4,5],.code .ret,.inBlock 0,.code J5])::cs)) ((w.alloc (.cells #[vI 6,vI a,vI b,vI c0] 44)).alloc (.cells #[.bool false,vI 0,.slice none 0 0] 49))):
 J0 Tryd.prog main F Stop (G (Frame.enter Tryd.prog 51 #[sv,vI j,.agg #[vI 6,vI a,vI b,vI c0],vP cb 0,vP xb 0] .normal) cs) w:=by
 have hx:((w.alloc (.cells #[vI 6,vI a,vI b,vI c0] 44)).alloc (.cells #[.bool false,vI 0,.slice none 0 0] 49)).cell? ⟨xb,0,none⟩=some (vP lb 0):=(hC.kept (u:=((w.alloc (.cells #[vI 6,vI a,vI b,vI c0] 44)).alloc (.cells #[.bool false,vI 0,.slice none 0 0] 49))) fun r hr=>by rw[D0 _ _ (by simp;omega),D0 _ _ hr]).x
 rw[J8]
 walk_nrm
 refine ogW a0n c0v ?_
 simp only[oC,a0n,pC,L0,Tryd.f51,Option.getD_some,List.size_toArray,List.length_cons,List.length_nil,Nat.reduceAdd,Nat.zero_add,List.range,List.range.loop]
 iterate 2 refine oA hU ?_
 refine ogE<|ogV d0E J5<|ogW a0r c0n ?_
 simp only[oC,a0r,pC,L0,Tryd.f51,Option.getD_some,List.size_toArray,List.length_cons,List.length_nil,Nat.reduceAdd,Nat.zero_add,List.range,List.range.loop]
 refine oT ?_
 refine oL ?_
 refine ogE ?_
 rw[b06]
 refine L7<|ogV d0F C7<|ogW a0s b0p ?_
 simp only[oC,a0s,pC,L0,Tryd.f51,Option.getD_some,List.size_toArray,List.length_cons,List.length_nil,Nat.reduceAdd,Nat.zero_add,List.range,List.range.loop]
 iterate 2 refine oT ?_
 refine ogE<|ogGn e0J<|ogW b0b b0H ?_
 simp only[oC,b0b,pC,L0,Tryd.f51,Option.getD_some,List.size_toArray,List.length_cons,List.length_nil,Nat.reduceAdd,Nat.zero_add,List.range,List.range.loop]
 iterate 2 refine oT ?_
 refine ogE<|ogGn b0i ?_
 rw[e0F]
 refine ogR ?_
 simp only[oC,b0i,pC,L0,Tryd.f51,Option.getD_some,List.size_toArray,List.length_cons,List.length_nil,Nat.reduceAdd,Nat.zero_add,List.range,List.range.loop]
 iterate 2 refine oT ?_
 refine ogE<|ogGn h0J<|ogW d0B c03 ?_
 simp only[oC,d0B,pC,L0,Tryd.f51,Option.getD_some,List.size_toArray,List.length_cons,List.length_nil,Nat.reduceAdd,Nat.zero_add,List.range,List.range.loop]
 iterate 2 refine oT ?_
 refine ogE<|ogGn h0o<|ogW c04 e0B ?_
 simp only[oC,c04,pC,L0,Tryd.f51,Option.getD_some,List.size_toArray,List.length_cons,List.length_nil,Nat.reduceAdd,Nat.zero_add,List.range,List.range.loop]
 iterate 2 refine oT ?_
 refine ogE<|ogGn i0Y<|ogW h0n i0P ?_
 simp only[oC,h0n,pC,L0,Tryd.f51,Option.getD_some,List.size_toArray,List.length_cons,List.length_nil,Nat.reduceAdd,Nat.zero_add,List.range,List.range.loop]
 iterate 2 refine oT ?_
 refine ogE<|ogYn t0Z<|ogW a0X .ret ?_
 simp only[oC,a0X,pC,L0,Tryd.f51,Option.getD_some,List.size_toArray,List.length_cons,List.length_nil,Nat.reduceAdd,Nat.zero_add,List.range,List.range.loop]
 refine oL ?_
 refine oT ?_
 refine oc c0a #[vP lb 0,sv] ?_
 refine h _ ?_
 exact⟨rfl,rfl,trivial⟩
theorem v0f{ab:Nat}(ha:s9 w ab)(hnh:∀k,¬held F ⟨ab,k,none⟩){v:Int}{A:Array Value}(hA:G0 63 A [(8,vP ab 0)]){c:Frame}
 (h:J0 Tryd.prog main F Stop (G (c.finish (.agg #[.bool true,vI v,.slice none 0 0])) cs) (d09 w ab true v)):
 J0 Tryd.prog main F Stop (G ((bA 51 A [.inRegion (oC d0C) [2,3,4,5,6,7],.code e0I,.inBlock 0,.code J5]).finish (.tuple #[vI v,vI 0])) (c::cs)) w:=by
 obtain⟨s,rfl,h8,_⟩:=Y3 b0o hA
 simp only[b0o,h8]
 clear h8
 obtain⟨x0,x1,x2,c0,c1,c2⟩:=ha.c
 have z0:=ha.z 0
 have z1:=ha.z 1
 have z2:=ha.z 2
 rw[Frame.finish_at]
 simp only[oC,d0C,pC,L0,Tryd.f51,Option.getD_some,List.size_toArray,List.length_cons,List.length_nil,Nat.reduceAdd,Nat.zero_add,List.range,List.range.loop]
 walk_nrm
 iterate 5 refine oT ?_
 refine ogE<|ogW k0H .ret ?_
 simp only[oC,k0H,pC,L0,Tryd.f51,Option.getD_some,List.size_toArray,List.length_cons,List.length_nil,Nat.reduceAdd,Nat.zero_add,List.range,List.range.loop]
 iterate 4 refine oT ?_
 (refine oW fun dd K hK=>?_;go_simp;refine hK _ _ ⟨⟨⟨0,K6 hnh _ _ _⟩,fun e he=>by(have hm:=mem_listed he;clear he hK;simp[go_sem,storedEv,c0,c1,c2,z0,z1,z2]at hm;rcases hm with rfl|rfl|rfl<;>exact U0 _ _ (hnh _))⟩,?_⟩;clear hK K;simp only[setCell_at'];refine J0.at ?_ dd)
 refine ogE<|ogX ?_
 refine p4 (fn:=Tryd.f51) (v:=.agg #[.bool true,vI v,.slice none 0 0]) rfl rfl Tryd.func51 (fun d=>by simp[results,Tryd.f51,go_sem,c0,c1,c2,z0,z1,z2]) (fun d e he=>by(simp[results,Tryd.f51,go_sem,c0,c1,c2,z0,z1,z2]at he;rcases he with rfl|rfl|rfl<;>exact I1 _ _)) ?_
 exact h
theorem o09{ab:Nat}(ha:s9 w ab)(hnh:∀k,¬held F ⟨ab,k,none⟩){A:Array Value}(hA:G0 63 A [(8,vP ab 0)]){c:Frame}
 (h:J0 Tryd.prog main F Stop (G (c.finish (.agg #[.bool false,vI 0,.slice none 0 0])) cs) (d09 w ab false 0)):
 J0 Tryd.prog main F Stop (G ((bA 51 A [.inRegion (oC d0C) [2,3,4,5,6,7],.code e0I,.inBlock 0,.code J5]).finish (.tuple #[vI 0,vI 3])) (c::cs)) w:=by
 obtain⟨s,rfl,h8,_⟩:=Y3 b0o hA
 simp only[b0o,h8]
 clear h8
 obtain⟨x0,x1,x2,c0,c1,c2⟩:=ha.c
 have z0:=ha.z 0
 have z1:=ha.z 1
 have z2:=ha.z 2
 rw[Frame.finish_at]
 simp only[oC,d0C,pC,L0,Tryd.f51,Option.getD_some,List.size_toArray,List.length_cons,List.length_nil,Nat.reduceAdd,Nat.zero_add,List.range,List.range.loop]
 walk_nrm
 iterate 5 refine oT ?_
 refine ogE<|ogW k0H .ret ?_
 simp only[oC,k0H,pC,L0,Tryd.f51,Option.getD_some,List.size_toArray,List.length_cons,List.length_nil,Nat.reduceAdd,Nat.zero_add,List.range,List.range.loop]
 iterate 4 refine oT ?_
 (refine oW fun dd K hK=>?_;go_simp;refine hK _ _ ⟨⟨⟨0,K6 hnh _ _ _⟩,fun e he=>by(have hm:=mem_listed he;clear he hK;simp[go_sem,storedEv,c0,c1,c2,z0,z1,z2]at hm;rcases hm with rfl|rfl|rfl<;>exact U0 _ _ (hnh _))⟩,?_⟩;clear hK K;simp only[setCell_at'];refine J0.at ?_ dd)
 refine ogE<|ogX ?_
 refine p4 (fn:=Tryd.f51) (v:=.agg #[.bool false,vI 0,.slice none 0 0]) rfl rfl Tryd.func51 (fun d=>by simp[results,Tryd.f51,go_sem,c0,c1,c2,z0,z1,z2]) (fun d e he=>by(simp[results,Tryd.f51,go_sem,c0,c1,c2,z0,z1,z2]at he;rcases he with rfl|rfl|rfl<;>exact I1 _ _)) ?_
 exact h
theorem t0k{ab:Nat}(ha:s9 w ab)(hnh:∀k,¬held F ⟨ab,k,none⟩){v:Int}{A:Array Value}(hA:G0 63 A [(8,vP ab 0)]){c:Frame}
 (h:J0 Tryd.prog main F Stop (G (c.finish (.agg #[.bool true,vI v,.slice none 0 0])) cs) (d09 w ab true v)):
 J0 Tryd.prog main F Stop (G ((bA 51 A [.inRegion (oC c05) [2,3,4],.code .ret,.inBlock 0,.code J5]).finish (vI v)) (c::cs)) w:=by
 obtain⟨s,rfl,h8,_⟩:=Y3 b0o hA
 simp only[b0o,h8]
 clear h8
 obtain⟨x0,x1,x2,c0,c1,c2⟩:=ha.c
 have z0:=ha.z 0
 have z1:=ha.z 1
 have z2:=ha.z 2
 rw[Frame.finish_at]
 simp only[oC,c05,pC,L0,Tryd.f51,Option.getD_some,List.size_toArray,List.length_cons,List.length_nil,Nat.reduceAdd,Nat.zero_add,List.range,List.range.loop]
 walk_nrm
 refine oT ?_
 (refine oW fun dd K hK=>?_;go_simp;refine hK _ _ ⟨⟨⟨0,K6 hnh _ _ _⟩,fun e he=>by(have hm:=mem_listed he;clear he hK;simp[go_sem,storedEv,c0,c1,c2,z0,z1,z2]at hm;rcases hm with rfl|rfl|rfl<;>exact U0 _ _ (hnh _))⟩,?_⟩;clear hK K;simp only[setCell_at'];refine J0.at ?_ dd)
 refine ogE<|ogX ?_
 refine p4 (fn:=Tryd.f51) (v:=.agg #[.bool true,vI v,.slice none 0 0]) rfl rfl Tryd.func51 (fun d=>by simp[results,Tryd.f51,go_sem,c0,c1,c2,z0,z1,z2]) (fun d e he=>by(simp[results,Tryd.f51,go_sem,c0,c1,c2,z0,z1,z2]at he;rcases he with rfl|rfl|rfl<;>exact I1 _ _)) ?_
 exact h
theorem t0l{ab:Nat}{lv:Value}{A:Array Value}(hA:G0 63 A [(8,vP ab 0)])
 (h:∀A,G0 63 A [(8,vP ab 0)]→J0 Tryd.prog main F Stop (G (Frame.enter Tryd.prog 29 #[lv] .normal) ((bA 51 A [.inRegion (oC a0X) [3,4,5],.code .ret,.inBlock 0,.code J5])::cs)) w):
 J0 Tryd.prog main F Stop (G ((bA 51 A [.inRegion (oC a0X) [2,3,4,5],.code .ret,.inBlock 0,.code J5]).finish lv) cs) w:=by
 obtain⟨s,rfl,h8,_⟩:=Y3 b0o hA
 simp only[b0o,h8]
 clear h8
 rw[Frame.finish_at]
 simp only[oC,a0X,pC,L0,Tryd.f51,Option.getD_some,List.size_toArray,List.length_cons,List.length_nil,Nat.reduceAdd,Nat.zero_add,List.range,List.range.loop]
 walk_nrm
 refine oc f0h #[lv] ?_
 refine h _ ?_
 exact⟨rfl,rfl,trivial⟩
theorem p0a{ab:Nat}(ha:s9 w ab)(hnh:∀k,¬held F ⟨ab,k,none⟩){la:Option Addr}{ll lc:Nat}{A:Array Value}(hA:G0 63 A [(8,vP ab 0)]){c:Frame}
 (h:J0 Tryd.prog main F Stop (G (c.finish (.agg #[.bool true,vI 0,.slice la ll lc])) cs) (m08 w ab true (.slice la ll lc))):
 J0 Tryd.prog main F Stop (G ((bA 51 A [.inRegion (oC a0X) [3,4,5],.code .ret,.inBlock 0,.code J5]).finish (.slice la ll lc)) (c::cs)) w:=by
 obtain⟨s,rfl,h8,_⟩:=Y3 b0o hA
 simp only[b0o,h8]
 clear h8
 obtain⟨x0,x1,x2,c0,c1,c2⟩:=ha.c
 have z0:=ha.z 0
 have z1:=ha.z 1
 have z2:=ha.z 2
 rw[Frame.finish_at]
 simp only[oC,a0X,pC,L0,Tryd.f51,Option.getD_some,List.size_toArray,List.length_cons,List.length_nil,Nat.reduceAdd,Nat.zero_add,List.range,List.range.loop]
 walk_nrm
 refine oT ?_
 (refine oW fun dd K hK=>?_;go_simp;refine hK _ _ ⟨⟨⟨0,K6 hnh _ _ _⟩,fun e he=>by(have hm:=mem_listed he;clear he hK;simp[go_sem,storedEv,c0,c1,c2,z0,z1,z2]at hm;rcases hm with rfl|rfl|rfl<;>exact U0 _ _ (hnh _))⟩,?_⟩;clear hK K;simp only[setCell_at'];refine J0.at ?_ dd)
 refine ogE<|ogX ?_
 refine p4 (fn:=Tryd.f51) (v:=.agg #[.bool true,vI 0,.slice la ll lc]) rfl rfl Tryd.func51 (fun d=>by simp[results,Tryd.f51,go_sem,c0,c1,c2,z0,z1,z2]) (fun d e he=>by(simp[results,Tryd.f51,go_sem,c0,c1,c2,z0,z1,z2]at he;rcases he with rfl|rfl|rfl<;>exact I1 _ _)) ?_
 exact h
end
section
theorem o0t(z:BitVec 64):((z.toNat:Int) != 0)=decide (z≠0#64):=by
 have h:(z.toNat:Int)=0↔z=0#64:=by
  rw[← BitVec.toNat_inj]
  simp
 by_cases e:z=0#64
 ·simp[e]
 ·have:¬(z.toNat:Int)=0:=fun h1=>e (h.1 h1)
  rw[decide_eq_true e]
  exact bne_iff_ne.2 this
theorem b0X(y x:BitVec 64):((y.toNat:Int) == (x.toNat:Int))=decide (y=x):=by
 by_cases e:y=x
 ·simp[e]
 ·have:¬(y.toNat:Int)=(x.toNat:Int):=fun h1=>e (BitVec.eq_of_toNat_eq (by exact_mod_cast h1))
  simp[e,this]
theorem k0Q(x:BitVec 64){j:Nat}(hj:j<64):x &&& (1#64 <<< j)=if x.getLsbD j then 1#64 <<< j else 0#64:=BitVec.and_twoPow x j
theorem u0e(j:Nat)(hj:j<64):(1#64 <<< j)≠0#64:=fun h=>by
 have:=congrArg (fun z:BitVec 64=>z.getLsbD j) h
 simp[BitVec.getLsbD_shiftLeft,hj]at this
theorem b0s(x:BitVec 64)(i:Nat):(bits .and .u64 (x.toNat:Int) ((bitI i).toNat:Int) != 0)=x.getLsbD (i % 64):=by
 have hj:i % 64<64:=Nat.mod_lt _ (by decide)
 rw[g02,o0t]
 unfold bitI
 rw[k0Q x hj]
 cases h:x.getLsbD (i % 64)
 ·simp
 ·simp only[if_true]
  exact decide_eq_true (u0e _ hj)
theorem l0y(x:BitVec 64)(i:Nat):(bits .and .u64 ((x.toNat:Int) / 2 ^ ((i:Int) % 64).toNat) 1 == 1)=x.getLsbD (i % 64):=by
 rw[show((i:Int) % 64).toNat=i % 64 by omega,q0n,q0A]
 have h:=k0Q (x >>> (i % 64)) (j:=0) (by decide)
 rw[show(1#64 <<< 0)=1#64 by decide]at h
 rw[h,BitVec.getLsbD_ushiftRight,Nat.add_zero]
 cases x.getLsbD (i % 64)<;>decide
theorem h0Y{n k:Nat}(hk:64*k≤n){j:Nat}(hj:j<64):(c0I n k).getLsbD j=decide (k*64+j<n):=by
 unfold c0I
 by_cases hl:n<64*k+64
 ·rw[if_pos hl]
  have hd:n - 64*k<64:=by omega
  have e:((1#64 <<< (n - 64*k)) - 1#64).toNat=2 ^ (n - 64*k) - 1:=by
   have hp:2 ^ (n - 64*k)<2 ^ 64:=Nat.pow_lt_pow_right (by decide) hd
   have h1:0<2 ^ (n - 64*k):=Nat.two_pow_pos _
   rw[BitVec.toNat_sub,BitVec.toNat_shiftLeft,Nat.shiftLeft_eq]
   simp only[BitVec.toNat_ofNat]
   omega
  rw[BitVec.getLsbD,e,Nat.testBit_two_pow_sub_one]
  exact decide_eq_decide.2 (by omega)
 ·rw[if_neg hl,BitVec.getLsbD_allOnes]
  exact decide_eq_decide.2 (by omega)
def HiZ(n k:Nat)(x:BitVec 64):Prop:=∀j,j<64→n≤k*64+j→x.getLsbD j=false
theorem g0H{n k:Nat}{x:BitVec 64}(hk:64*k≤n)(hz:HiZ n k x):x=c0I n k↔G4 n k x=none:=by
 unfold G4
 rw[List.find?_eq_none]
 constructor
 ·intro h j hj
  have hj':=List.mem_range.1 hj
  rw[h,h0Y hk hj']
  simp
 ·intro h
  apply BitVec.eq_of_getLsbD_eq
  intro j hj
  rw[h0Y hk hj]
  by_cases hn:k*64+j<n
  ·have:=h j (List.mem_range.2 hj)
   simp only[hn,decide_true,Bool.true_and,Bool.not_eq_true,Bool.not_eq_false']at this
   rw[this];simp[hn]
  ·rw[hz j hj (by omega)];simp[hn]
theorem u0T{x:BitVec 64}{j:Nat}(hj:j<64)(h1:x.getLsbD j=true)(h2:∀i,i<j→x.getLsbD i=false):N8 x=j:=by
 have h0:x≠0#64:=fun e=>by rw[e]at h1;simp at h1
 obtain⟨a,b,c⟩:=b0t h0
 rcases Nat.lt_trichotomy (N8 x) j with h|h|h
 ·rw[h2 _ h]at b;cases b
 ·exact h
 ·rw[c _ h]at h1;cases h1
theorem b0P{n k:Nat}{x:BitVec 64}{j:Nat}(h:G4 n k x=some j):j<64∧k*64+j<n∧x.getLsbD j=false∧N8 (~~~x)=j∧~~~x≠0#64:=by
 unfold G4 at h
 rw[List.find?_range_eq_some]at h
 obtain⟨h1,h2,h3⟩:=h
 have hj:=List.mem_range.1 h2
 simp only[Bool.and_eq_true,decide_eq_true_eq,Bool.not_eq_true']at h1
 have hb:(~~~x).getLsbD j=true:=by rw[BitVec.getLsbD_not,h1.2];simp[hj]
 refine⟨hj,h1.1,h1.2,u0T hj hb fun i hi=>?_,fun e=>by rw[e]at hb;simp at hb⟩
 have:=h3 i hi
 rw[BitVec.getLsbD_not]
 simp only[Bool.not_eq_true',Bool.and_eq_false_iff,decide_eq_false_iff_not,Bool.not_eq_false']at this
 rcases this with h|h
 ·omega
 ·simp[h]
def H8(y:BitVec 64):List Nat:=(List.range 64).filter fun j=>y.getLsbD j
theorem b0T{n k:Nat}{x:BitVec 64}(hz:HiZ n k x):X3 n k x=(H8 x).map fun j=>(64*(k:Int)+(j:Nat)):=by
 unfold X3 H8
 have e:(List.range 64).filter (fun j=>decide (k*64+j<n) && x.getLsbD j)=(List.range 64).filter fun j=>x.getLsbD j:=List.filter_congr fun j hj=>by
  have hj':=List.mem_range.1 hj
  by_cases hn:k*64+j<n
  ·simp[hn]
  ·simp[hn,hz j hj' (by omega)]
 rw[e]
 exact List.map_congr_left fun j _=>by push_cast;omega
theorem h0L:H8 0#64=[]:=by decide
theorem d0I{y:BitVec 64}(h:y≠0#64):H8 y=N8 y::H8 (y &&& (y - 1#64)):=by
 obtain⟨h1,h2,h3⟩:=b0t h
 have hclr:∀j,(y &&& (y - 1#64)).getLsbD j=(y.getLsbD j && decide (j≠N8 y)):=fun j=>by
  rw[v0u]
  cases hj:y.getLsbD j with
  | false=>simp
  | true=>
    simp only[Bool.true_and]
    refine decide_eq_decide.2 ⟨fun⟨i,hi,hb⟩ e=>?_,fun e=>⟨N8 y,?_,h2⟩⟩
    ·subst e;rw[h3 i hi]at hb;cases hb
    ·rcases Nat.lt_trichotomy (N8 y) j with h|h|h
     ·exact h
     ·exact absurd h.symm e
     ·rw[h3 j h]at hj;cases hj
 unfold H8
 have e:List.range 64=List.range (N8 y)++N8 y::(List.range (64 - N8 y - 1)).map fun i=>N8 y+1+i:=by
  have e1:64=N8 y+(1+(64 - N8 y - 1)):=by omega
  rw[show List.range 64=List.range (N8 y+(1+(64 - N8 y - 1)))by rw[← e1],List.range_add,List.range_add]
  simp[List.range_succ,Nat.add_assoc]
 rw[e]
 simp only[List.filter_append,List.filter_cons,h2,if_true]
 have f1:(List.range (N8 y)).filter (fun j=>y.getLsbD j)=[]:=List.filter_eq_nil_iff.2 fun j hj=>by simp[h3 j (List.mem_range.1 hj)]
 have f2:(List.range (N8 y)).filter (fun j=>(y &&& (y - 1#64)).getLsbD j)=[]:=List.filter_eq_nil_iff.2 fun j hj=>by rw[hclr];simp[h3 j (List.mem_range.1 hj)]
 have f3:(y &&& (y - 1#64)).getLsbD (N8 y)=false:=by rw[hclr];simp
 rw[f1,f2,f3]
 simp only[List.nil_append,Bool.false_eq_true,if_false]
 congr 1
 refine List.filter_congr fun j hj=>?_
 obtain⟨i,_,rfl⟩:=List.mem_map.1 hj
 rw[hclr]
 have:N8 y+1+i≠N8 y:=by omega
 simp[this]
end
section
variable{F:Fz}{w w':World}
theorem T3{b:Nat}(h:F b=none)(k:Nat):¬held F ⟨b,k,none⟩:=by
 rintro⟨z,hz,_⟩
 rw[h]at hz
 cases hz
theorem f03{ab:Nat}{b:Bool}{n:Int}{r:Nat}(hr:r≠ab):(d09 w ab b n).heap[r]? =w.heap[r]?:=by
 unfold d09
 rw[o0 _ _ _ hr,o0 _ _ _ hr,o0 _ _ _ hr]
theorem I5{f:FuncId}(h:∃fn,Tryd.prog.funcs[f]? =some fn)(A:Array Value)(k:List Item):f0V ((Go.Conc.base f).at ⟨A,[]⟩ k):=⟨rfl,rfl,h⟩
theorem d0L(w:World)(a b:Obj):((w.alloc a).alloc b).heap.size=w.heap.size+2:=by simp
theorem B0y(w:World)(a b:Obj){r:Nat}(h:r<w.heap.size):((w.alloc a).alloc b).heap[r]? =w.heap[r]?:=by
 rw[D0 _ _ (by simp;omega),D0 _ _ h]
theorem B0t(w:World)(a:Obj)(c:Array Value)(t:TypeId):((w.alloc a).alloc (.cells c t)).heap[w.heap.size+1]? =some (.cells c t (0,0)):=by
 have:=heap_alloc_new (w.alloc a) (.cells c t)
 simpa using this
end
noncomputable section
variable{F:Fz}{w w':World}{lb cb fb xb st:Nat}
theorem I9{w:World}{b k:Nat}{v:Value}(h:w.cell? ⟨b,k,none⟩=some v):b<w.heap.size:=by
 obtain⟨c,e,z,h1⟩:=M3 h
 exact(Q3 h1)
structure BS where
 k:V0
 wb:Nat
 g:Obj
abbrev BS.m(s:BS):Nat:=s.k.ws.length
structure BU(lb cb fb xb:Nat)(s:BS)(w:World):Prop where
 wf:BWf s.k
 o:w.heap[lb]? =some (.cells #[vI (s.k.n:Nat),vL s.wb 0 s.m s.m] 62 (0,0))
 ws:w.heap[s.wb]? =some (.cells ((s.k.ws.map fun x=>wV x).toArray) 113 (0,0))
 c:w.heap[cb]? =some (.cells #[vL fb 0 3 3] 116 (0,0))
 f:w.heap[fb]? =some (.cells #[.func (.func 18) #[vP lb 0] #[],.func (.func 19) #[vP lb 0] #[],.func (.func 20) #[vP lb 0] #[]] 58 (0,0))
 x:w.heap[xb]? =some (.cells #[vP lb 0] 33 (0,0))
 g:w.heap[0]? =some s.g
 t:∃c e z,s.g= .cells c e z∧∀k,k<64→c[k]? =some (.int .u8 ((deB.getD k 0:Nat):Int))
 ne:s.wb≠lb∧s.wb≠cb∧s.wb≠fb∧s.wb≠xb∧s.wb≠0
def BR(lb cb fb xb:Nat)(s:BS)(r:Nat):Prop:=r=lb∨r=s.wb∨r=cb∨r=fb∨r=xb∨r=0
section
variable{s:BS}
theorem BU.low(h:BU lb cb fb xb s w){r:Nat}(hr:BR lb cb fb xb s r):r<w.heap.size:=by
 rcases hr with rfl|rfl|rfl|rfl|rfl|rfl
 ·exact(Array.getElem?_eq_some_iff.1 h.o).1
 ·exact(Array.getElem?_eq_some_iff.1 h.ws).1
 ·exact(Array.getElem?_eq_some_iff.1 h.c).1
 ·exact(Array.getElem?_eq_some_iff.1 h.f).1
 ·exact(Array.getElem?_eq_some_iff.1 h.x).1
 ·exact(Array.getElem?_eq_some_iff.1 h.g).1
theorem BU.same(h:BU lb cb fb xb s w)(hs:∀r,BR lb cb fb xb s r→w'.heap[r]? =w.heap[r]?):BU lb cb fb xb s w':=
 ⟨h.wf,(hs _ (.inl rfl)).trans h.o,(hs _ (.inr (.inl rfl))).trans h.ws,(hs _ (.inr (.inr (.inl rfl)))).trans h.c,(hs _ (.inr (.inr (.inr (.inl rfl))))).trans h.f,(hs _ (.inr (.inr (.inr (.inr (.inl rfl)))))).trans h.x,(hs _ (.inr (.inr (.inr (.inr (.inr rfl)))))).trans h.g,h.t,h.ne⟩
theorem BU.bh(h:BU lb cb fb xb s w):BH lb s.wb s.k.n s.m w:=⟨by simp[World.cell?,h.o],by simp[World.cell?,h.o],h.wf.l,h.wf.n⟩
theorem BU.ch(h:BU lb cb fb xb s w):CH cb fb xb lb w:=⟨by simp[World.cell?,h.c],by simp[World.cell?,h.f],by simp[World.cell?,h.f],by simp[World.cell?,h.f],by simp[World.cell?,h.x]⟩
theorem BU.tab(h:BU lb cb fb xb s w):Tab w:=⟨fun k hk=>by
 obtain⟨c,e,z,e1,e2⟩:=h.t
 have:=h.g
 rw[e1]at this
 simp[World.cell?,this,e2 k hk]⟩
theorem BU.wc(h:BU lb cb fb xb s w){k:Nat}(hk:k<s.m):w.cell? ⟨s.wb,k,none⟩=some (wV (s.k.wd k)):=by
 simp[World.cell?,h.ws,V0.wd,hk]
theorem BU.wz(h:BU lb cb fb xb s w)(k:Nat):w.frozen? ⟨s.wb,k,none⟩=false:=by simp[World.frozen?,h.ws]
theorem BU.setW(h:BU lb cb fb xb s w){k:Nat}{z:BitVec 64}(hz:∀j,s.k.n≤k*64+j→z.getLsbD j=false):BU lb cb fb xb {s with k:={s.k with ws:=s.k.ws.set k z}} (w.setCell ⟨s.wb,k,none⟩ (wV z)):=by
 obtain⟨n1,n2,n3,n4,n5⟩:=h.ne
 refine⟨⟨by simpa using h.wf.l,h.wf.n,fun i j hj=>?_⟩,?_,?_,?_,?_,?_,?_,h.t,h.ne⟩
 ·have hj:s.k.n≤i*64+j:=hj
  show((s.k.ws.set k z).getD i 0#64).getLsbD j=false
  rw[List.getD_eq_getElem?_getD,List.getElem?_set]
  split
  ·rename_i e
   subst e
   split
   ·exact hz j hj
   ·simp
  ·have:=h.wf.hi i j hj
   rwa [V0.wd,List.getD_eq_getElem?_getD]at this
 ·rw[o0 _ _ _ (Ne.symm n1)]
  have:=h.o
  simpa [BS.m]using this
 ·have:=U1 (o:=k) h.ws (wV z)
  rw[this]
  congr 2
  simp[List.map_set]
 ·rw[o0 _ _ _ (Ne.symm n2)];exact h.c
 ·rw[o0 _ _ _ (Ne.symm n3)];exact h.f
 ·rw[o0 _ _ _ (Ne.symm n4)];exact h.x
 ·rw[o0 _ _ _ (Ne.symm n5)];exact h.g
end
def x0p(A:Array Value):Frame:=(bA 47 A [.inRegion (oC b0m) [1],.code d0A,.inBlock 1,.inLoop b0a,.inBlock 0])
def x0r(A:Array Value):Frame:=(bA 47 A [.inRegion (oC d0n) [1],.code c0S,.inBlock 1,.inLoop b0a,.inBlock 0])
def fPu(A:Array Value):Frame:=(bA 18 A [.inRegion (oC g0x) [3,4,5,6,7],.code .ret])
def fDr(A:Array Value):Frame:=(bA 19 A [.inRegion (oC g0o) [3,4,5,6,7],.code .ret])
def fHa(A:Array Value):Frame:=(bA 20 A [.inRegion (oC g0r) [1],.code k0P])
def y0U(A:Array Value):Frame:=(bA 45 A [.inRegion (oC s6) [1],.code R9,.inBlock 1,.inLoop a0m,.inBlock 0,.code B8])
def y0V(A:Array Value):Frame:=(bA 45 A [.inRegion (oC b0n) [1],.code c0X,.inBlock 1,.inLoop a0m,.inBlock 0,.code B8])
def fLi(A:Array Value):Frame:=(bA 30 A [.inRegion (oC b0W) [1],.code b0q,.inBlock 1,.code f6,.inLoop a0v,.inBlock 0,.code J7])
def fCo(A:Array Value):Frame:=(bA 46 A [.inRegion (oC g0m) [2,3,4],.code .ret])
def E0s(A:Array Value):Frame:=(bA 51 A [.inRegion (oC d0C) [2,3,4,5,6,7],.code e0I,.inBlock 0,.code J5])
def E0t(A:Array Value):Frame:=(bA 51 A [.inRegion (oC c05) [2,3,4],.code .ret,.inBlock 0,.code J5])
def y0W(A:Array Value):Frame:=(bA 51 A [.inRegion (oC a0X) [2,3,4,5],.code .ret,.inBlock 0,.code J5])
structure BeC where
 c:p9
 A:Array Value
 A1:Array Value
 A2:Array Value
 rest:List Nat
 ab:Nat
 ov:Value
abbrev p9.pc(c:p9):Nat:=c.kd*10+c.ph
def BeC.fr(c:BeC):List Frame:=match c.c.pc with
 | 10=>[x0p c.A,fPu c.A1,c0C c.A2 c.rest]
 | 11=>[x0r c.A,fPu c.A1,c0C c.A2 c.rest]
 | 20=>[x0p c.A,fDr c.A1,c0C c.A2 c.rest]
 | 21=>[x0r c.A,fDr c.A1,c0C c.A2 c.rest]
 | 30=>[fHa c.A,c0C c.A2 c.rest]
 | 40=>[y0U c.A,E0s c.A2]
 | 41=>[y0V c.A,E0s c.A2]
 | 50=>[fLi c.A,fCo c.A1,E0t c.A2]
 | _=>[fLi c.A,y0W c.A2]
def a01(lb:Nat):Value:=vP lb 0
def chS(st wb:Nat)(c:p9):List (Nat×Value):=[(1,Z0 st),(3,.bool (decide (c.kd=1))),(10,vP wb (c.i / 64)),(11,wV (bitI c.i))]
def w0V(st wb:Nat)(c:p9):List (Nat×Value):=[(1,Z0 st),(3,.bool (decide (c.kd=1))),(10,vP wb (c.i / 64)),(11,wV (bitI c.i)),(12,wV c.old)]
def haS(lb st:Nat)(c:p9):List (Nat×Value):=[(0,a01 lb),(1,Z0 st),(2,vI (c.i:Nat))]
def clS(lb st:Nat)(c:p9):List (Nat×Value):=[(0,a01 lb),(1,Z0 st),(6,vI (c.w:Nat))]
def y0R(lb st:Nat)(c:p9):List (Nat×Value):=[(0,a01 lb),(1,Z0 st),(6,vI (c.w:Nat)),(7,wV c.old),(8,vI (N8 (~~~c.old):Nat))]
def liS(lb st m:Nat)(c:BeC):List (Nat×Value):=[(0,a01 lb),(1,Z0 st),(5,c.ov),(6,vI (c.c.w:Nat)),(11,vI (m:Nat)),(12,vI (c.c.w:Nat))]
def BSl(lb st wb m:Nat)(c:BeC):Prop:=match c.c.pc with
 | 10=>G0 49 c.A (chS st wb c.c)∧G0 14 c.A1 [(0,a01 lb)]∧a0g c.rest
 | 20=>G0 49 c.A (chS st wb c.c)∧G0 14 c.A1 [(0,a01 lb)]∧a0g c.rest
 | 11=>G0 49 c.A (w0V st wb c.c)∧G0 14 c.A1 [(0,a01 lb)]∧a0g c.rest
 | 21=>G0 49 c.A (w0V st wb c.c)∧G0 14 c.A1 [(0,a01 lb)]∧a0g c.rest
 | 30=>G0 31 c.A (haS lb st c.c)∧a0g c.rest
 | 40=>G0 55 c.A (clS lb st c.c)
 | 41=>G0 55 c.A (y0R lb st c.c)
 | 50=>G0 40 c.A (liS lb st m c)∧G0 9 c.A1 [(0,a01 lb)]
 | 60=>G0 40 c.A (liS lb st m c)
 | _=>False
structure BeV(n m:Nat)(c:p9):Prop where
 pc:(c.kd,c.ph)∈[(1,0),(1,1),(2,0),(2,1),(3,0),(4,0),(4,1),(5,0),(6,0)]
 i:c.kd≤3→c.i<n∧c.w=c.i / 64
 w:c.w<m
 f:(c.kd,c.ph)=(4,1)→∃j,G4 n c.w c.old=some j
 out:c.out.length≤64*c.w
structure BJ(lb st wb n m:Nat)(c:BeC):Prop where
 v:BeV n m c.c
 s:BSl lb st wb m c
 a:G0 63 c.A2 [(8,vP c.ab 0)]
structure BCU(c:BeC)(w:World):Prop where
 a:s9 w c.ab
 ov:w.ownsRow 0 3 1 c.ov c.c.out.length (c.c.out.map fun v=>vI v)
 on:c.ov.ownBlock≠some c.ab
def w8(c:BeC)(r:Nat):Prop:=r=c.ab∨c.ov.ownBlock=some r
structure SA where
 an:g7
 la:Option Addr
 ll:Nat
 lc:Nat
def SA.row(a:SA):Value:=.slice a.la a.ll a.lc
def SA.v(a:SA):j0K:=⟨a.an.1,a.an.2.1,a.la,a.ll,a.lc⟩
def SAU(a:SA)(w:World):Prop:=w.ownsRow 0 2 1 a.row a.an.2.2.length (a.an.2.2.map fun v=>vI v)
def v00(y:BeC ⊕ SA):BRs:=match y with
 | .inl c=>.inl c.c
 | .inr a=>.inr a.an
def O3(lb cb fb xb:Nat):l8 where
 S:=BS
 C:=BeC
 A:=SA
 SU:=BU lb cb fb xb
 SR:=BR lb cb fb xb
 CU:=BCU
 CR:=w8
 AV:=SA.v
 AU:=SAU
 AR:=fun a r=>a.row.ownBlock=some r
 cf:=fun st c=>f0N stK ⟨st,0,none⟩::c.fr
 df:=51
 first:= #[]
 capt:= #[vP cb 0,vP xb 0]
 beg:=fun s _ o y=>y.1.wb=s.wb∧y.1.g=s.g∧(y.1.k,v00 y.2)=s.k.begin o
 stp:=fun s c y=>y.1.wb=s.wb∧y.1.g=s.g∧(y.1.k,v00 y.2)=s.k.step c.c
 J:=fun st s c=>BJ lb st s.wb s.k.n s.m c
end
section
variable{F:Fz}{w w':World}{lb cb fb xb st:Nat}
theorem i0f{e:TypeId}{n:Nat}{v:Value}{xs:List Value}(h:w.ownsRow 0 e 1 v n xs){r:Nat}(hr:v.ownBlock=some r):r<w.heap.size:=by
 rcases h.2 with⟨rfl,_⟩|⟨b,cap,cur,rfl,_,h4,_⟩
 ·simp[Value.ownBlock]at hr
 ·simp only[Value.ownBlock,Option.some.injEq]at hr
  subst hr
  exact(Q3 h4)
theorem BCU.low{c:BeC}(h:BCU c w){r:Nat}(hr:w8 c r):r<w.heap.size:=by
 rcases hr with rfl|hr
 ·obtain⟨_,_,_,h1⟩:=h.a.o
  exact(Q3 h1)
 ·exact i0f h.ov hr
theorem BCU.same{c:BeC}(h:BCU c w)(hs:∀r,w8 c r→w'.heap[r]? =w.heap[r]?):BCU c w':=
 ⟨E9 h.a (hs _ (.inl rfl)),G1 h.ov fun b hb _=>hs b (.inr hb),h.on⟩
section
variable{s:BS}{c c':BeC}{k':V0}{cs:List Frame}
theorem a0V{fs:List Frame}(hf:fs=(O3 lb cb fb xb).cf st c'++cs)(hU:BU lb cb fb xb ⟨k',s.wb,s.g⟩ w')(hr:(k',.inl c'.c)=s.k.step c.c)(hJ:BJ lb st s.wb k'.n k'.ws.length c')(hcu:BCU c' w')(hcr:∀q,w8 c' q→w8 c q∨w.heap.size≤q)(hs:BU lb cb fb xb s w)(hdis:∀q,w8 c q→¬BR lb cb fb xb s q)(d:Nat):
 (O3 lb cb fb xb).Out st s (w8 c) ((O3 lb cb fb xb).stp s c) w cs (G (Frame.enter Tryd.prog 87 #[vP st 0] .normal) fs) (w'.at d):=by
 subst hf
 refine⟨⟨k',s.wb,s.g⟩,.inl c',⟨rfl,rfl,hr⟩,hU.same fun _ _=>rfl,fun q h=>.inl h,hJ,hcu.same fun _ _=>rfl,hcr,fun q h h2=>?_,rfl⟩
 rcases hcr q h with h3|h3
 ·exact hdis q h3 h2
 ·exact absurd (hs.low (r:=q) h2) (by omega)
theorem b0U{a:SA}(hU:BU lb cb fb xb ⟨k',s.wb,s.g⟩ w')(hr:(k',.inr a.an)=s.k.step c.c)(hau:SAU a w')(har:∀q,a.row.ownBlock=some q→w8 c q∨w.heap.size≤q)(hs:BU lb cb fb xb s w)(hdis:∀q,w8 c q→¬BR lb cb fb xb s q)(d:Nat):
 (O3 lb cb fb xb).Out st s (w8 c) ((O3 lb cb fb xb).stp s c) w cs (back (.agg #[.bool a.an.1,vI a.an.2.1,.slice a.la a.ll a.lc]) cs) (w'.at d):=by
 refine⟨⟨k',s.wb,s.g⟩,.inr a,⟨rfl,rfl,hr⟩,hU.same fun _ _=>rfl,fun q h=>.inl h,?_,har,fun q h h2=>?_,rfl⟩
 ·exact G1 (W':=w'.at d) hau fun _ _ _=>rfl
 ·rcases har q h with h3|h3
  ·exact hdis q h3 h2
  ·exact absurd (hs.low (r:=q) h2) (by omega)
theorem f04{o:P3}{i:Nat}{fs:List Frame}(hf:fs=(O3 lb cb fb xb).cf st c'++cs)(hs:BU lb cb fb xb s w)(hU:∀r,r<w.heap.size→w'.heap[r]? =w.heap[r]?)(hr:(s.k,.inl c'.c)=s.k.begin o)(hJ:BJ lb st s.wb s.k.n s.m c')(hcu:BCU c' w')(hcr:∀q,w8 c' q→w.heap.size≤q)(d:Nat):
 (O3 lb cb fb xb).Out st s (fun _=>False) ((O3 lb cb fb xb).beg s i o) w cs (G (Frame.enter Tryd.prog 87 #[vP st 0] .normal) fs) (w'.at d):=by
 subst hf
 refine⟨s,.inl c',⟨rfl,rfl,hr⟩,hs.same fun r h=>hU r (hs.low h),fun q h=>.inl h,hJ,hcu.same fun _ _=>rfl,fun q h=>.inr (hcr q h),fun q h h2=>?_,rfl⟩
 exact absurd (hs.low (r:=q) h2) (by have:=hcr q h;omega)
theorem X5{o:P3}{i:Nat}{ok:Bool}{v:Int}(hs:BU lb cb fb xb s w)(hU:∀r,r<w.heap.size→w'.heap[r]? =w.heap[r]?)(hr:(s.k,.inr (ok,v,[]))=s.k.begin o)(d:Nat):
 (O3 lb cb fb xb).Out st s (fun _=>False) ((O3 lb cb fb xb).beg s i o) w cs (back (.agg #[.bool ok,vI v,.slice none 0 0]) cs) (w'.at d):=by
 refine⟨s,.inr ⟨(ok,v,[]),none,0,0⟩,⟨rfl,rfl,hr⟩,hs.same fun r h=>hU r (hs.low h),fun q h=>.inl h,World.ownsRow_nil _ _ _ _,fun q h=>?_,fun q h=>?_,rfl⟩
 ·simp[O3,SA.row,Value.ownBlock]at h
 ·simp[O3,SA.row,Value.ownBlock]at h
end
section
variable{s:BS}{kd a b0 c0:Int}{i:Nat}
def e0K(w:World)(kd a b0 c0:Int):World:=(w.alloc (.cells #[vI kd,vI a,vI b0,vI c0] 44)).alloc (.cells #[.bool false,vI 0,.slice none 0 0] 49)
theorem K5{r:Nat}(hr:r<w.heap.size):(e0K w kd a b0 c0).heap[r]? =w.heap[r]?:=B0y _ _ _ hr
theorem W6:s9 (e0K w kd a b0 c0) (w.heap.size+1):=⟨_,_,_,B0t _ _ _ _⟩
theorem e9(hwf:Wf F w)(k:Nat):¬held F ⟨w.heap.size+1,k,none⟩:=O4 (W5 hwf) (by simp only;omega)
theorem Y5{ok:Bool}{v:Int}{r:Nat}(hr:r<w.heap.size):(d09 (e0K w kd a b0 c0) (w.heap.size+1) ok v).heap[r]? =w.heap[r]?:=by
 rw[f03 (by omega),K5 hr]
theorem b0J{c:p9}(ho:c.out=[]){A A1 A2:Array Value}{rest:List Nat}:BCU ⟨c,A,A1,A2,rest,w.heap.size+1,.slice none 0 0⟩ (e0K w kd a b0 c0):=
 ⟨W6,by show World.ownsRow _ 0 3 1 _ c.out.length _;rw[ho];exact World.ownsRow_nil _ _ _ _,by simp[Value.ownBlock]⟩
theorem b0I{c:p9}{A A1 A2:Array Value}{rest:List Nat}(q:Nat)(h:w8 ⟨c,A,A1,A2,rest,w.heap.size+1,.slice none 0 0⟩ q):w.heap.size≤q:=by
 rcases h with rfl|h
 ·simp only;omega
 ·simp[Value.ownBlock]at h
theorem t0A(hs:BU lb cb fb xb s w)(hwf:Wf F w)(b:Frame)(cs:List Frame):
 J0 Tryd.prog false F ((O3 lb cb fb xb).Out st s (fun _=>False) ((O3 lb cb fb xb).beg s i ⟨1,a,b0,c0⟩) w (b::cs)) (G (Frame.enter Tryd.prog 51 #[Z0 st,vI i,.agg #[vI 1,vI a,vI b0,vI c0],vP cb 0,vP xb 0] .normal) (b::cs)) w:=by
 have hs2:BU lb cb fb xb s (e0K w 1 a b0 c0):=hs.same fun r hr=>K5 (hs.low hr)
 refine x0f (sv:=Z0 st) (W5 hwf) (Nat.le_refl _) hs.ch fun A2 rest hr hA2=>?_
 refine t0q fun A1 hA1=>?_
 by_cases h0:a<0
 ·refine o03 h0 (g0R hA1 (g0A W6 (e9 hwf) hr hA2 (.stop fun d=>?_)))
  exact X5 hs (fun r hr=>Y5 hr) (by simp[V0.begin,h0]) d
 ·by_cases h1:(s.k.n:Int)≤a
  ·refine o02 hs2.bh h0 h1 (g0R hA1 (g0A W6 (e9 hwf) hr hA2 (.stop fun d=>?_)))
   exact X5 hs (fun r hr=>Y5 hr) (by simp[V0.begin,h1]) d
  ·obtain⟨k,rfl⟩:∃k:Nat,a=(k:Int):=⟨a.toNat,by omega⟩
   have hk:k<s.k.n:=by omega
   refine u0I hs2.bh hk fun A hA=>?_
   refine M2 (K:=stK) (.stop fun d=>?_)
   have hl:=hs.wf.l
   refine f04 (st:=st) (c':=⟨⟨1,0,k,k / 64,0#64,[]⟩,A,A1,A2,rest,w.heap.size+1,.slice none 0 0⟩) (by rfl) hs (fun r hr=>K5 hr) ?_ ⟨⟨by simp,fun _=>⟨hk,rfl⟩,by simp only[BS.m];omega,fun h=>by simp at h,by simp⟩,(by exact⟨hA,hA1,hr⟩),hA2⟩ (b0J rfl) b0I d
   simp[V0.begin,h0,hk]
theorem t0B(hs:BU lb cb fb xb s w)(hwf:Wf F w)(b:Frame)(cs:List Frame):
 J0 Tryd.prog false F ((O3 lb cb fb xb).Out st s (fun _=>False) ((O3 lb cb fb xb).beg s i ⟨2,a,b0,c0⟩) w (b::cs)) (G (Frame.enter Tryd.prog 51 #[Z0 st,vI i,.agg #[vI 2,vI a,vI b0,vI c0],vP cb 0,vP xb 0] .normal) (b::cs)) w:=by
 have hs2:BU lb cb fb xb s (e0K w 2 a b0 c0):=hs.same fun r hr=>K5 (hs.low hr)
 refine x0i (sv:=Z0 st) (W5 hwf) (Nat.le_refl _) hs.ch fun A2 rest hr hA2=>?_
 refine v0g fun A1 hA1=>?_
 by_cases h0:a<0
 ·refine o03 h0 (h0x hA1 (g0A W6 (e9 hwf) hr hA2 (.stop fun d=>?_)))
  exact X5 hs (fun r hr=>Y5 hr) (by simp[V0.begin,h0]) d
 ·by_cases h1:(s.k.n:Int)≤a
  ·refine o02 hs2.bh h0 h1 (h0x hA1 (g0A W6 (e9 hwf) hr hA2 (.stop fun d=>?_)))
   exact X5 hs (fun r hr=>Y5 hr) (by simp[V0.begin,h1]) d
  ·obtain⟨k,rfl⟩:∃k:Nat,a=(k:Int):=⟨a.toNat,by omega⟩
   have hk:k<s.k.n:=by omega
   refine u0I hs2.bh hk fun A hA=>?_
   refine M2 (K:=stK) (.stop fun d=>?_)
   have hl:=hs.wf.l
   refine f04 (st:=st) (c':=⟨⟨2,0,k,k / 64,0#64,[]⟩,A,A1,A2,rest,w.heap.size+1,.slice none 0 0⟩) (by rfl) hs (fun r hr=>K5 hr) ?_ ⟨⟨by simp,fun _=>⟨hk,rfl⟩,by simp only[BS.m];omega,fun h=>by simp at h,by simp⟩,(by exact⟨hA,hA1,hr⟩),hA2⟩ (b0J rfl) b0I d
   simp[V0.begin,h0,hk]
theorem t0C(hs:BU lb cb fb xb s w)(hwf:Wf F w)(b:Frame)(cs:List Frame):
 J0 Tryd.prog false F ((O3 lb cb fb xb).Out st s (fun _=>False) ((O3 lb cb fb xb).beg s i ⟨3,a,b0,c0⟩) w (b::cs)) (G (Frame.enter Tryd.prog 51 #[Z0 st,vI i,.agg #[vI 3,vI a,vI b0,vI c0],vP cb 0,vP xb 0] .normal) (b::cs)) w:=by
 have hs2:BU lb cb fb xb s (e0K w 3 a b0 c0):=hs.same fun r hr=>K5 (hs.low hr)
 refine x0j (sv:=Z0 st) (W5 hwf) (Nat.le_refl _) hs.ch fun A2 rest hr hA2=>?_
 by_cases h0:a<0
 ·refine q01 h0 (g0A W6 (e9 hwf) hr hA2 (.stop fun d=>?_))
  exact X5 hs (fun r hr=>Y5 hr) (by simp[V0.begin,h0]) d
 ·by_cases h1:(s.k.n:Int)≤a
  ·refine q00 hs2.bh h0 h1 (g0A W6 (e9 hwf) hr hA2 (.stop fun d=>?_))
   exact X5 hs (fun r hr=>Y5 hr) (by simp[V0.begin,h1]) d
  ·obtain⟨k,rfl⟩:∃k:Nat,a=(k:Int):=⟨a.toNat,by omega⟩
   have hk:k<s.k.n:=by omega
   refine x0w hs2.bh hk fun A hA=>?_
   refine M2 (K:=stK) (.stop fun d=>?_)
   have hl:=hs.wf.l
   refine f04 (st:=st) (c':=⟨⟨3,0,k,k / 64,0#64,[]⟩,A,A,A2,rest,w.heap.size+1,.slice none 0 0⟩) (by rfl) hs (fun r hr=>K5 hr) ?_ ⟨⟨by simp,fun _=>⟨hk,rfl⟩,by simp only[BS.m];omega,fun h=>by simp at h,by simp⟩,(by exact⟨hA,hr⟩),hA2⟩ (b0J rfl) b0I d
   simp[V0.begin,h0,hk]
theorem t0D(hs:BU lb cb fb xb s w)(hwf:Wf F w)(b:Frame)(cs:List Frame):
 J0 Tryd.prog false F ((O3 lb cb fb xb).Out st s (fun _=>False) ((O3 lb cb fb xb).beg s i ⟨4,a,b0,c0⟩) w (b::cs)) (G (Frame.enter Tryd.prog 51 #[Z0 st,vI i,.agg #[vI 4,vI a,vI b0,vI c0],vP cb 0,vP xb 0] .normal) (b::cs)) w:=by
 have hs2:BU lb cb fb xb s (e0K w 4 a b0 c0):=hs.same fun r hr=>K5 (hs.low hr)
 refine x0k (sv:=Z0 st) (W5 hwf) (Nat.le_refl _) hs.ch fun A2 hA2=>?_
 by_cases h0:s.m=0
 ·refine w0W hs2.bh h0 (o09 W6 (e9 hwf) hA2 (.stop fun d=>?_))
  exact X5 hs (fun r hr=>Y5 hr) (by simp only[BS.m]at h0;simp[V0.begin,h0]) d
 ·refine y0S hs2.bh (by omega) fun A hA=>?_
  refine M2 (K:=stK) (.stop fun d=>?_)
  refine f04 (st:=st) (c':=⟨⟨4,0,0,0,0#64,[]⟩,A,A,A2,[],w.heap.size+1,.slice none 0 0⟩) (by rfl) hs (fun r hr=>K5 hr) ?_ ⟨⟨by simp,fun h=>absurd h (by simp),by simp only;omega,fun h=>by simp at h,by simp⟩,(by exact hA),hA2⟩ (b0J rfl) b0I d
  simp only[BS.m]at h0
  simp[V0.begin,h0]
theorem t0E(hs:BU lb cb fb xb s w)(hwf:Wf F w)(b:Frame)(cs:List Frame):
 J0 Tryd.prog false F ((O3 lb cb fb xb).Out st s (fun _=>False) ((O3 lb cb fb xb).beg s i ⟨5,a,b0,c0⟩) w (b::cs)) (G (Frame.enter Tryd.prog 51 #[Z0 st,vI i,.agg #[vI 5,vI a,vI b0,vI c0],vP cb 0,vP xb 0] .normal) (b::cs)) w:=by
 have hs2:BU lb cb fb xb s (e0K w 5 a b0 c0):=hs.same fun r hr=>K5 (hs.low hr)
 refine x0l (sv:=Z0 st) (W5 hwf) (Nat.le_refl _) hs.ch fun A2 hA2=>?_
 refine q0X fun A1 hA1=>?_
 by_cases h0:s.m=0
 ·refine p0q hs2.bh h0 (l0v hA1 (t0k W6 (e9 hwf) hA2 (.stop fun d=>?_)))
  exact X5 hs (fun r hr=>Y5 hr) (by simp only[BS.m]at h0;simp[V0.begin,h0]) d
 ·refine v0q hs2.bh (by omega) fun A hA=>?_
  refine M2 (K:=stK) (.stop fun d=>?_)
  refine f04 (st:=st) (c':=⟨⟨5,0,0,0,0#64,[]⟩,A,A1,A2,[],w.heap.size+1,.slice none 0 0⟩) (by rfl) hs (fun r hr=>K5 hr) ?_ ⟨⟨by simp,fun h=>absurd h (by simp),by simp only;omega,fun h=>by simp at h,by simp⟩,(by exact⟨hA,hA1⟩),hA2⟩ (b0J rfl) b0I d
  simp only[BS.m]at h0
  simp[V0.begin,h0]
theorem t0J(hs:BU lb cb fb xb s w)(hwf:Wf F w)(b:Frame)(cs:List Frame):
 J0 Tryd.prog false F ((O3 lb cb fb xb).Out st s (fun _=>False) ((O3 lb cb fb xb).beg s i ⟨6,a,b0,c0⟩) w (b::cs)) (G (Frame.enter Tryd.prog 51 #[Z0 st,vI i,.agg #[vI 6,vI a,vI b0,vI c0],vP cb 0,vP xb 0] .normal) (b::cs)) w:=by
 have hs2:BU lb cb fb xb s (e0K w 6 a b0 c0):=hs.same fun r hr=>K5 (hs.low hr)
 refine x0m (sv:=Z0 st) (W5 hwf) (Nat.le_refl _) hs.ch fun A2 hA2=>?_
 by_cases h0:s.m=0
 ·refine p0q hs2.bh h0 (t0l hA2 fun A2 hA2=>q0t fun A hA=>q0u hA (p0a W6 (e9 hwf) hA2 (.stop fun d=>?_)))
  exact X5 hs (fun r hr=>Y5 hr) (by simp only[BS.m]at h0;simp[V0.begin,h0]) d
 ·refine v0q hs2.bh (by omega) fun A hA=>?_
  refine M2 (K:=stK) (.stop fun d=>?_)
  refine f04 (st:=st) (c':=⟨⟨6,0,0,0,0#64,[]⟩,A,A,A2,[],w.heap.size+1,.slice none 0 0⟩) (by rfl) hs (fun r hr=>K5 hr) ?_ ⟨⟨by simp,fun h=>absurd h (by simp),by simp only;omega,fun h=>by simp at h,by simp⟩,(by exact hA),hA2⟩ (b0J rfl) b0I d
  simp only[BS.m]at h0
  simp[V0.begin,h0]
theorem i0w(h1:kd≠1)(h2:kd≠2)(h3:kd≠3)(h4:kd≠4)(h5:kd≠5)(h6:kd≠6)(hs:BU lb cb fb xb s w)(hwf:Wf F w)(b:Frame)(cs:List Frame):
 J0 Tryd.prog false F ((O3 lb cb fb xb).Out st s (fun _=>False) ((O3 lb cb fb xb).beg s i ⟨kd,a,b0,c0⟩) w (b::cs)) (G (Frame.enter Tryd.prog 51 #[Z0 st,vI i,.agg #[vI kd,vI a,vI b0,vI c0],vP cb 0,vP xb 0] .normal) (b::cs)) w:=by
 refine o08 (sv:=Z0 st) (W5 hwf) (Nat.le_refl _) (by simpa using h1) (by simpa using h2) (by simpa using h3) (by simpa using h4) (by simpa using h5) (by simpa using h6) (.stop fun d=>?_)
 exact X5 (w':=d09 (e0K w kd a b0 c0) (w.heap.size+1) false 0) hs (fun r hr=>Y5 hr) (by simp[V0.begin,h1,h2,h3,h4,h5,h6]) d
end
end
section
variable{F:Fz}{w w':World}{lb cb fb xb st:Nat}
theorem U8(i j:Nat):(bitI i).getLsbD j=decide (j=i % 64):=by
 have hi:i % 64<64:=Nat.mod_lt _ (by decide)
 unfold bitI
 rw[BitVec.getLsbD_shiftLeft]
 by_cases e:j=i % 64
 ·subst e;simp[hi]
 ·by_cases l:j<i % 64
  ·simp[l,e]
  ·have hne:¬(j - i % 64=0):=by omega
   simp[e,l,BitVec.getLsbD_one,hne]
section
variable{s:BS}{i cw:Nat}{old:BitVec 64}{out:List Int}{A A1 A2:Array Value}{rest:List Nat}{ab:Nat}{ov:Value}
theorem a03(hU:BU lb cb fb xb s w)(hne:¬BR lb cb fb xb s ab){ok:Bool}{v:Int}:BU lb cb fb xb s (d09 w ab ok v):=hU.same fun q hq=>f03 (fun e=>hne (e ▸ hq))
theorem g04{b k:Nat}{v:Value}(h:s9 w ab)(hne:b≠ab):s9 (w.setCell ⟨b,k,none⟩ v) ab:=E9 h (o0 _ _ _ (Ne.symm hne))
theorem w0C(hJ:BJ lb st s.wb s.k.n s.m ⟨⟨1,0,i,cw,old,out⟩,A,A1,A2,rest,ab,ov⟩)(hs:BU lb cb fb xb s w)(hc:BCU ⟨⟨1,0,i,cw,old,out⟩,A,A1,A2,rest,ab,ov⟩ w)(hdis:∀q,w8 ⟨⟨1,0,i,cw,old,out⟩,A,A1,A2,rest,ab,ov⟩ q→¬BR lb cb fb xb s q)(hwf:Wf F w)(hF:∀r,BR lb cb fb xb s r∨w8 ⟨⟨1,0,i,cw,old,out⟩,A,A1,A2,rest,ab,ov⟩ r→F r=none)(b:Frame)(cs:List Frame):
 J0 Tryd.prog false F ((O3 lb cb fb xb).Out st s (w8 ⟨⟨1,0,i,cw,old,out⟩,A,A1,A2,rest,ab,ov⟩) ((O3 lb cb fb xb).stp s ⟨⟨1,0,i,cw,old,out⟩,A,A1,A2,rest,ab,ov⟩) w (b::cs)) (back (.tuple #[]) ((O3 lb cb fb xb).cf st ⟨⟨1,0,i,cw,old,out⟩,A,A1,A2,rest,ab,ov⟩++b::cs)) w:=by
 have hans:∀k,¬held F ⟨ab,k,none⟩:=fun k=>T3 (hF _ (.inr (.inl rfl))) k
 have hwb:∀k,¬held F ⟨s.wb,k,none⟩:=fun k=>T3 (hF _ (.inl (.inr (.inl rfl)))) k
 have hab:¬BR lb cb fb xb s ab:=hdis _ (.inl rfl)
 have hne:s.wb≠ab:=fun e=>hab (.inr (.inl e.symm))
 have hS:=hJ.s
 have hw:=hJ.v.w
 refine v4 (K:=stK) (sa:=⟨st,0,none⟩) ?_
 obtain⟨hi,hcw⟩:=hJ.v.i (by simp)
 simp only at hi hw hcw
 subst hcw
 have hc0:=hs.wc hw
 by_cases e:(s.k.wd (i / 64)).getLsbD (i % 64)=true
 ·refine o0O (sv:=Z0 st) (inn:=decide (1=1)) hc0 (b0s _ _) (by rw[e];rfl) hS.1 (g0R hS.2.1 (p0e hc.a hans hS.2.2 hJ.a (.stop fun d=>?_)))
  exact b0U (st:=st) (c:=⟨⟨1,0,i,i / 64,old,out⟩,A,A1,A2,rest,ab,ov⟩) (a:=⟨(true,0,[]),none,0,0⟩) (k':=s.k) (a03 hs hab) (by simp[V0.step,V0.one,e]) (World.ownsRow_nil _ _ _ _) (fun q h=>by simp[SA.row,Value.ownBlock]at h) hs hdis d
 ·have e':(s.k.wd (i / 64)).getLsbD (i % 64)= !true:=by simpa using e
  refine o0P (sv:=Z0 st) (inn:=decide (1=1)) hc0 (b0s _ _) (by rw[e'];rfl) hS.1 fun A' hA'=>M2 (K:=stK) (.stop fun d=>?_)
  exact a0V (st:=st) (c:=⟨⟨1,0,i,i / 64,old,out⟩,A,A1,A2,rest,ab,ov⟩) (c':=⟨⟨1,1,i,i / 64,s.k.wd (i / 64),out⟩,A',A1,A2,rest,ab,ov⟩) (k':=s.k) (by rfl) hs (by simp[V0.step,V0.one,e']) ⟨⟨by simp,fun _=>⟨hi,rfl⟩,hw,fun h=>by simp at h,hJ.v.out⟩,(by exact⟨hA',hS.2.1,hS.2.2⟩),hJ.a⟩ ⟨hc.a,hc.ov,hc.on⟩ (fun q h=>.inl h) hs hdis d
theorem w0F(hJ:BJ lb st s.wb s.k.n s.m ⟨⟨1,1,i,cw,old,out⟩,A,A1,A2,rest,ab,ov⟩)(hs:BU lb cb fb xb s w)(hc:BCU ⟨⟨1,1,i,cw,old,out⟩,A,A1,A2,rest,ab,ov⟩ w)(hdis:∀q,w8 ⟨⟨1,1,i,cw,old,out⟩,A,A1,A2,rest,ab,ov⟩ q→¬BR lb cb fb xb s q)(hwf:Wf F w)(hF:∀r,BR lb cb fb xb s r∨w8 ⟨⟨1,1,i,cw,old,out⟩,A,A1,A2,rest,ab,ov⟩ r→F r=none)(b:Frame)(cs:List Frame):
 J0 Tryd.prog false F ((O3 lb cb fb xb).Out st s (w8 ⟨⟨1,1,i,cw,old,out⟩,A,A1,A2,rest,ab,ov⟩) ((O3 lb cb fb xb).stp s ⟨⟨1,1,i,cw,old,out⟩,A,A1,A2,rest,ab,ov⟩) w (b::cs)) (back (.tuple #[]) ((O3 lb cb fb xb).cf st ⟨⟨1,1,i,cw,old,out⟩,A,A1,A2,rest,ab,ov⟩++b::cs)) w:=by
 have hans:∀k,¬held F ⟨ab,k,none⟩:=fun k=>T3 (hF _ (.inr (.inl rfl))) k
 have hwb:∀k,¬held F ⟨s.wb,k,none⟩:=fun k=>T3 (hF _ (.inl (.inr (.inl rfl)))) k
 have hab:¬BR lb cb fb xb s ab:=hdis _ (.inl rfl)
 have hne:s.wb≠ab:=fun e=>hab (.inr (.inl e.symm))
 have hS:=hJ.s
 have hw:=hJ.v.w
 refine v4 (K:=stK) (sa:=⟨st,0,none⟩) ?_
 obtain⟨hi,hcw⟩:=hJ.v.i (by simp)
 simp only at hi hw hcw
 subst hcw
 have hc0:=hs.wc hw
 by_cases e:s.k.wd (i / 64)=old
 ·refine o0S (sv:=Z0 st) (inn:=decide (1=1)) (c0i old (bitI i)) ((b0X _ _).trans (decide_eq_true e)) hc0 (hs.wz _) (hwb _) hS.1 (g0R hS.2.1 (p0f (g04 hc.a hne) hans hS.2.2 hJ.a (.stop fun d=>?_)))
  have hz:∀j,s.k.n≤i / 64*64+j→(old ^^^ bitI i).getLsbD j=false:=fun j hj=>by
   rw[BitVec.getLsbD_xor,← e,hs.wf.hi _ _ hj,U8]
   simp;omega
  exact b0U (st:=st) (c:=⟨⟨1,1,i,i / 64,old,out⟩,A,A1,A2,rest,ab,ov⟩) (a:=⟨(true,1,[]),none,0,0⟩) (k':={s.k with ws:=s.k.ws.set (i / 64) (old ^^^ bitI i)}) (a03 (s:=⟨_,s.wb,s.g⟩) (hs.setW hz) hab) (by simp[V0.step,V0.one,e]) (World.ownsRow_nil _ _ _ _) (fun q h=>by simp[SA.row,Value.ownBlock]at h) hs hdis d
 ·refine t0i (sv:=Z0 st) (inn:=decide (1=1)) (c0i old (bitI i)) ((b0X _ _).trans (decide_eq_false e)) hc0 (hs.wz _) (hwb _) hS.1 fun A' hA'=>M2 (K:=stK) (.stop fun d=>?_)
  exact a0V (st:=st) (c:=⟨⟨1,1,i,i / 64,old,out⟩,A,A1,A2,rest,ab,ov⟩) (c':=⟨⟨1,0,i,i / 64,old,out⟩,A',A1,A2,rest,ab,ov⟩) (k':=s.k) (by rfl) hs (by simp[V0.step,V0.one,e]) ⟨⟨by simp,fun _=>⟨hi,rfl⟩,hw,fun h=>by simp at h,hJ.v.out⟩,(by exact⟨hA',hS.2.1,hS.2.2⟩),hJ.a⟩ ⟨hc.a,hc.ov,hc.on⟩ (fun q h=>.inl h) hs hdis d
theorem w0G(hJ:BJ lb st s.wb s.k.n s.m ⟨⟨2,0,i,cw,old,out⟩,A,A1,A2,rest,ab,ov⟩)(hs:BU lb cb fb xb s w)(hc:BCU ⟨⟨2,0,i,cw,old,out⟩,A,A1,A2,rest,ab,ov⟩ w)(hdis:∀q,w8 ⟨⟨2,0,i,cw,old,out⟩,A,A1,A2,rest,ab,ov⟩ q→¬BR lb cb fb xb s q)(hwf:Wf F w)(hF:∀r,BR lb cb fb xb s r∨w8 ⟨⟨2,0,i,cw,old,out⟩,A,A1,A2,rest,ab,ov⟩ r→F r=none)(b:Frame)(cs:List Frame):
 J0 Tryd.prog false F ((O3 lb cb fb xb).Out st s (w8 ⟨⟨2,0,i,cw,old,out⟩,A,A1,A2,rest,ab,ov⟩) ((O3 lb cb fb xb).stp s ⟨⟨2,0,i,cw,old,out⟩,A,A1,A2,rest,ab,ov⟩) w (b::cs)) (back (.tuple #[]) ((O3 lb cb fb xb).cf st ⟨⟨2,0,i,cw,old,out⟩,A,A1,A2,rest,ab,ov⟩++b::cs)) w:=by
 have hans:∀k,¬held F ⟨ab,k,none⟩:=fun k=>T3 (hF _ (.inr (.inl rfl))) k
 have hwb:∀k,¬held F ⟨s.wb,k,none⟩:=fun k=>T3 (hF _ (.inl (.inr (.inl rfl)))) k
 have hab:¬BR lb cb fb xb s ab:=hdis _ (.inl rfl)
 have hne:s.wb≠ab:=fun e=>hab (.inr (.inl e.symm))
 have hS:=hJ.s
 have hw:=hJ.v.w
 refine v4 (K:=stK) (sa:=⟨st,0,none⟩) ?_
 obtain⟨hi,hcw⟩:=hJ.v.i (by simp)
 simp only at hi hw hcw
 subst hcw
 have hc0:=hs.wc hw
 by_cases e:(s.k.wd (i / 64)).getLsbD (i % 64)=false
 ·refine o0O (sv:=Z0 st) (inn:=decide (2=1)) hc0 (b0s _ _) (by rw[e];rfl) hS.1 (h0x hS.2.1 (p0e hc.a hans hS.2.2 hJ.a (.stop fun d=>?_)))
  exact b0U (st:=st) (c:=⟨⟨2,0,i,i / 64,old,out⟩,A,A1,A2,rest,ab,ov⟩) (a:=⟨(true,0,[]),none,0,0⟩) (k':=s.k) (a03 hs hab) (by simp[V0.step,V0.one,e]) (World.ownsRow_nil _ _ _ _) (fun q h=>by simp[SA.row,Value.ownBlock]at h) hs hdis d
 ·have e':(s.k.wd (i / 64)).getLsbD (i % 64)= !false:=by simpa using e
  refine o0P (sv:=Z0 st) (inn:=decide (2=1)) hc0 (b0s _ _) (by rw[e'];rfl) hS.1 fun A' hA'=>M2 (K:=stK) (.stop fun d=>?_)
  exact a0V (st:=st) (c:=⟨⟨2,0,i,i / 64,old,out⟩,A,A1,A2,rest,ab,ov⟩) (c':=⟨⟨2,1,i,i / 64,s.k.wd (i / 64),out⟩,A',A1,A2,rest,ab,ov⟩) (k':=s.k) (by rfl) hs (by simp[V0.step,V0.one,e']) ⟨⟨by simp,fun _=>⟨hi,rfl⟩,hw,fun h=>by simp at h,hJ.v.out⟩,(by exact⟨hA',hS.2.1,hS.2.2⟩),hJ.a⟩ ⟨hc.a,hc.ov,hc.on⟩ (fun q h=>.inl h) hs hdis d
theorem w0H(hJ:BJ lb st s.wb s.k.n s.m ⟨⟨2,1,i,cw,old,out⟩,A,A1,A2,rest,ab,ov⟩)(hs:BU lb cb fb xb s w)(hc:BCU ⟨⟨2,1,i,cw,old,out⟩,A,A1,A2,rest,ab,ov⟩ w)(hdis:∀q,w8 ⟨⟨2,1,i,cw,old,out⟩,A,A1,A2,rest,ab,ov⟩ q→¬BR lb cb fb xb s q)(hwf:Wf F w)(hF:∀r,BR lb cb fb xb s r∨w8 ⟨⟨2,1,i,cw,old,out⟩,A,A1,A2,rest,ab,ov⟩ r→F r=none)(b:Frame)(cs:List Frame):
 J0 Tryd.prog false F ((O3 lb cb fb xb).Out st s (w8 ⟨⟨2,1,i,cw,old,out⟩,A,A1,A2,rest,ab,ov⟩) ((O3 lb cb fb xb).stp s ⟨⟨2,1,i,cw,old,out⟩,A,A1,A2,rest,ab,ov⟩) w (b::cs)) (back (.tuple #[]) ((O3 lb cb fb xb).cf st ⟨⟨2,1,i,cw,old,out⟩,A,A1,A2,rest,ab,ov⟩++b::cs)) w:=by
 have hans:∀k,¬held F ⟨ab,k,none⟩:=fun k=>T3 (hF _ (.inr (.inl rfl))) k
 have hwb:∀k,¬held F ⟨s.wb,k,none⟩:=fun k=>T3 (hF _ (.inl (.inr (.inl rfl)))) k
 have hab:¬BR lb cb fb xb s ab:=hdis _ (.inl rfl)
 have hne:s.wb≠ab:=fun e=>hab (.inr (.inl e.symm))
 have hS:=hJ.s
 have hw:=hJ.v.w
 refine v4 (K:=stK) (sa:=⟨st,0,none⟩) ?_
 obtain⟨hi,hcw⟩:=hJ.v.i (by simp)
 simp only at hi hw hcw
 subst hcw
 have hc0:=hs.wc hw
 by_cases e:s.k.wd (i / 64)=old
 ·refine o0S (sv:=Z0 st) (inn:=decide (2=1)) (c0i old (bitI i)) ((b0X _ _).trans (decide_eq_true e)) hc0 (hs.wz _) (hwb _) hS.1 (h0x hS.2.1 (p0f (g04 hc.a hne) hans hS.2.2 hJ.a (.stop fun d=>?_)))
  have hz:∀j,s.k.n≤i / 64*64+j→(old ^^^ bitI i).getLsbD j=false:=fun j hj=>by
   rw[BitVec.getLsbD_xor,← e,hs.wf.hi _ _ hj,U8]
   simp;omega
  exact b0U (st:=st) (c:=⟨⟨2,1,i,i / 64,old,out⟩,A,A1,A2,rest,ab,ov⟩) (a:=⟨(true,1,[]),none,0,0⟩) (k':={s.k with ws:=s.k.ws.set (i / 64) (old ^^^ bitI i)}) (a03 (s:=⟨_,s.wb,s.g⟩) (hs.setW hz) hab) (by simp[V0.step,V0.one,e]) (World.ownsRow_nil _ _ _ _) (fun q h=>by simp[SA.row,Value.ownBlock]at h) hs hdis d
 ·refine t0i (sv:=Z0 st) (inn:=decide (2=1)) (c0i old (bitI i)) ((b0X _ _).trans (decide_eq_false e)) hc0 (hs.wz _) (hwb _) hS.1 fun A' hA'=>M2 (K:=stK) (.stop fun d=>?_)
  exact a0V (st:=st) (c:=⟨⟨2,1,i,i / 64,old,out⟩,A,A1,A2,rest,ab,ov⟩) (c':=⟨⟨2,0,i,i / 64,old,out⟩,A',A1,A2,rest,ab,ov⟩) (k':=s.k) (by rfl) hs (by simp[V0.step,V0.one,e]) ⟨⟨by simp,fun _=>⟨hi,rfl⟩,hw,fun h=>by simp at h,hJ.v.out⟩,(by exact⟨hA',hS.2.1,hS.2.2⟩),hJ.a⟩ ⟨hc.a,hc.ov,hc.on⟩ (fun q h=>.inl h) hs hdis d
theorem w0I(hJ:BJ lb st s.wb s.k.n s.m ⟨⟨3,0,i,cw,old,out⟩,A,A1,A2,rest,ab,ov⟩)(hs:BU lb cb fb xb s w)(hc:BCU ⟨⟨3,0,i,cw,old,out⟩,A,A1,A2,rest,ab,ov⟩ w)(hdis:∀q,w8 ⟨⟨3,0,i,cw,old,out⟩,A,A1,A2,rest,ab,ov⟩ q→¬BR lb cb fb xb s q)(hwf:Wf F w)(hF:∀r,BR lb cb fb xb s r∨w8 ⟨⟨3,0,i,cw,old,out⟩,A,A1,A2,rest,ab,ov⟩ r→F r=none)(b:Frame)(cs:List Frame):
 J0 Tryd.prog false F ((O3 lb cb fb xb).Out st s (w8 ⟨⟨3,0,i,cw,old,out⟩,A,A1,A2,rest,ab,ov⟩) ((O3 lb cb fb xb).stp s ⟨⟨3,0,i,cw,old,out⟩,A,A1,A2,rest,ab,ov⟩) w (b::cs)) (back (.tuple #[]) ((O3 lb cb fb xb).cf st ⟨⟨3,0,i,cw,old,out⟩,A,A1,A2,rest,ab,ov⟩++b::cs)) w:=by
 have hans:∀k,¬held F ⟨ab,k,none⟩:=fun k=>T3 (hF _ (.inr (.inl rfl))) k
 have hwb:∀k,¬held F ⟨s.wb,k,none⟩:=fun k=>T3 (hF _ (.inl (.inr (.inl rfl)))) k
 have hab:¬BR lb cb fb xb s ab:=hdis _ (.inl rfl)
 have hne:s.wb≠ab:=fun e=>hab (.inr (.inl e.symm))
 have hS:=hJ.s
 have hw:=hJ.v.w
 refine v4 (K:=stK) (sa:=⟨st,0,none⟩) ?_
 obtain⟨hi,hcw⟩:=hJ.v.i (by simp)
 simp only at hi hw hcw
 subst hcw
 have hc0:=hs.wc hw
 cases e:(s.k.wd (i / 64)).getLsbD (i % 64)with
 | true=>
   refine t0o (sv:=Z0 st) hs.bh hi hc0 ((l0y _ _).trans e) hS.1 (p0f hc.a hans hS.2 hJ.a (.stop fun d=>?_))
   exact b0U (st:=st) (c:=⟨⟨3,0,i,i / 64,old,out⟩,A,A1,A2,rest,ab,ov⟩) (a:=⟨(true,1,[]),none,0,0⟩) (k':=s.k) (a03 hs hab) (by simp[V0.step,V0.one,e]) (World.ownsRow_nil _ _ _ _) (fun q h=>by simp[SA.row,Value.ownBlock]at h) hs hdis d
 | false=>
   refine t0o (sv:=Z0 st) hs.bh hi hc0 ((l0y _ _).trans e) hS.1 (p0e hc.a hans hS.2 hJ.a (.stop fun d=>?_))
   exact b0U (st:=st) (c:=⟨⟨3,0,i,i / 64,old,out⟩,A,A1,A2,rest,ab,ov⟩) (a:=⟨(true,0,[]),none,0,0⟩) (k':=s.k) (a03 hs hab) (by simp[V0.step,V0.one,e]) (World.ownsRow_nil _ _ _ _) (fun q h=>by simp[SA.row,Value.ownBlock]at h) hs hdis d
end
end
section
variable{F:Fz}{w w':World}{lb cb fb xb st:Nat}
section
variable{s:BS}{i cw:Nat}{old:BitVec 64}{out:List Int}{A A1 A2:Array Value}{rest:List Nat}{ab:Nat}{ov:Value}
theorem v0z(x:BitVec 64):bits .xor .u64 (if IntKind.u64.signed=true then -1 else IntKind.u64.max) (x.toNat:Int)=((~~~x).toNat:Int):=by
 rw[show(if IntKind.u64.signed=true then(-1:Int)else IntKind.u64.max)=18446744073709551615 by decide]
 exact v0y x
theorem w0J(hJ:BJ lb st s.wb s.k.n s.m ⟨⟨4,0,i,cw,old,out⟩,A,A1,A2,rest,ab,ov⟩)(hs:BU lb cb fb xb s w)(hc:BCU ⟨⟨4,0,i,cw,old,out⟩,A,A1,A2,rest,ab,ov⟩ w)(hdis:∀q,w8 ⟨⟨4,0,i,cw,old,out⟩,A,A1,A2,rest,ab,ov⟩ q→¬BR lb cb fb xb s q)(hwf:Wf F w)(hF:∀r,BR lb cb fb xb s r∨w8 ⟨⟨4,0,i,cw,old,out⟩,A,A1,A2,rest,ab,ov⟩ r→F r=none)(b:Frame)(cs:List Frame):
 J0 Tryd.prog false F ((O3 lb cb fb xb).Out st s (w8 ⟨⟨4,0,i,cw,old,out⟩,A,A1,A2,rest,ab,ov⟩) ((O3 lb cb fb xb).stp s ⟨⟨4,0,i,cw,old,out⟩,A,A1,A2,rest,ab,ov⟩) w (b::cs)) (back (.tuple #[]) ((O3 lb cb fb xb).cf st ⟨⟨4,0,i,cw,old,out⟩,A,A1,A2,rest,ab,ov⟩++b::cs)) w:=by
 have hans:∀k,¬held F ⟨ab,k,none⟩:=fun k=>T3 (hF _ (.inr (.inl rfl))) k
 have hwb:∀k,¬held F ⟨s.wb,k,none⟩:=fun k=>T3 (hF _ (.inl (.inr (.inl rfl)))) k
 have hab:¬BR lb cb fb xb s ab:=hdis _ (.inl rfl)
 have hne:s.wb≠ab:=fun e=>hab (.inr (.inl e.symm))
 have hS:=hJ.s
 have hw:=hJ.v.w
 refine v4 (K:=stK) (sa:=⟨st,0,none⟩) ?_
 simp only at hw
 have hl:=hs.wf.l
 have hc0:=hs.wc hw
 have hk:64*cw≤s.k.n:=by simp only[BS.m]at hw;omega
 have hz:HiZ s.k.n cw (s.k.wd cw):=fun j _ h=>hs.wf.hi _ _ h
 have ho:=hJ.v.out
 simp only at ho
 cases e:G4 s.k.n cw (s.k.wd cw)with
 | none=>
   have hf:=(g0H hk hz).2 e
   by_cases hm:cw+1=s.m
   ·refine w0Z (sv:=Z0 st) hs.bh hw hc0 ((b0X _ _).trans (decide_eq_true hf)) hm hS (o09 hc.a hans hJ.a (.stop fun d=>?_))
    simp only[BS.m]at hm
    exact b0U (st:=st) (c:=⟨⟨4,0,i,cw,old,out⟩,A,A1,A2,rest,ab,ov⟩) (a:=⟨(false,0,[]),none,0,0⟩) (k':=s.k) (a03 hs hab) (by simp[V0.step,V0.claim,e,hm]) (World.ownsRow_nil _ _ _ _) (fun q h=>by simp[SA.row,Value.ownBlock]at h) hs hdis d
   ·refine w0Y (sv:=Z0 st) hs.bh hw hc0 ((b0X _ _).trans (decide_eq_true hf)) (by omega) hS fun A' hA'=>M2 (K:=stK) (.stop fun d=>?_)
    have hm2:cw+1<s.m:=by omega
    simp only[BS.m]at hm
    exact a0V (st:=st) (c:=⟨⟨4,0,i,cw,old,out⟩,A,A1,A2,rest,ab,ov⟩) (c':=⟨⟨4,0,i,cw+1,old,out⟩,A',A1,A2,rest,ab,ov⟩) (k':=s.k) (by rfl) hs (by simp[V0.step,V0.claim,e,hm]) ⟨⟨by simp,fun h=>absurd h (by simp),hm2,fun h=>by simp at h,by simp only;omega⟩,(by exact hA'),hJ.a⟩ ⟨hc.a,hc.ov,hc.on⟩ (fun q h=>.inl h) hs hdis d
 | some j=>
   obtain⟨h1,h2,h3,h4,h5⟩:=b0P e
   have hf:s.k.wd cw≠c0I s.k.n cw:=fun h=>by rw[(g0H hk hz).1 h]at e;cases e
   refine w01 (sv:=Z0 st) hs.bh hw hc0 ((b0X _ _).trans (decide_eq_false hf)) hs.tab h5 (v0z _) hS fun A' hA'=>M2 (K:=stK) (.stop fun d=>?_)
   exact a0V (st:=st) (c:=⟨⟨4,0,i,cw,old,out⟩,A,A1,A2,rest,ab,ov⟩) (c':=⟨⟨4,1,i,cw,s.k.wd cw,out⟩,A',A1,A2,rest,ab,ov⟩) (k':=s.k) (by rfl) hs (by simp[V0.step,V0.claim,e]) ⟨⟨by simp,fun h=>absurd h (by simp),hw,fun _=>⟨j,e⟩,ho⟩,(by exact hA'),hJ.a⟩ ⟨hc.a,hc.ov,hc.on⟩ (fun q h=>.inl h) hs hdis d
theorem w0K(hJ:BJ lb st s.wb s.k.n s.m ⟨⟨4,1,i,cw,old,out⟩,A,A1,A2,rest,ab,ov⟩)(hs:BU lb cb fb xb s w)(hc:BCU ⟨⟨4,1,i,cw,old,out⟩,A,A1,A2,rest,ab,ov⟩ w)(hdis:∀q,w8 ⟨⟨4,1,i,cw,old,out⟩,A,A1,A2,rest,ab,ov⟩ q→¬BR lb cb fb xb s q)(hwf:Wf F w)(hF:∀r,BR lb cb fb xb s r∨w8 ⟨⟨4,1,i,cw,old,out⟩,A,A1,A2,rest,ab,ov⟩ r→F r=none)(b:Frame)(cs:List Frame):
 J0 Tryd.prog false F ((O3 lb cb fb xb).Out st s (w8 ⟨⟨4,1,i,cw,old,out⟩,A,A1,A2,rest,ab,ov⟩) ((O3 lb cb fb xb).stp s ⟨⟨4,1,i,cw,old,out⟩,A,A1,A2,rest,ab,ov⟩) w (b::cs)) (back (.tuple #[]) ((O3 lb cb fb xb).cf st ⟨⟨4,1,i,cw,old,out⟩,A,A1,A2,rest,ab,ov⟩++b::cs)) w:=by
 have hans:∀k,¬held F ⟨ab,k,none⟩:=fun k=>T3 (hF _ (.inr (.inl rfl))) k
 have hwb:∀k,¬held F ⟨s.wb,k,none⟩:=fun k=>T3 (hF _ (.inl (.inr (.inl rfl)))) k
 have hab:¬BR lb cb fb xb s ab:=hdis _ (.inl rfl)
 have hne:s.wb≠ab:=fun e=>hab (.inr (.inl e.symm))
 have hS:=hJ.s
 have hw:=hJ.v.w
 refine v4 (K:=stK) (sa:=⟨st,0,none⟩) ?_
 simp only at hw
 have hl:=hs.wf.l
 have hc0:=hs.wc hw
 have ho:=hJ.v.out
 simp only at ho
 obtain⟨j,e⟩:=hJ.v.f rfl
 simp only at e
 obtain⟨h1,h2,h3,h4,h5⟩:=b0P e
 have hS1:G0 55 A [(0,a01 lb),(1,Z0 st),(6,vI (cw:Nat)),(7,wV old),(8,vI (j:Nat))]:=by
  have:=hS
  rw[← h4]
  exact this
 have hb:bitI j=1#64 <<< j:=by unfold bitI;rw[Nat.mod_eq_of_lt h1]
 have hbb:IntKind.u64.wrap (2 ^ j)=((bitI j).toNat:Int):=by
  have:=e0e j
  rw[Int.one_mul]at this
  rw[hb];exact this
 by_cases ey:s.k.wd cw=old
 ·refine w02 (sv:=Z0 st) hs.bh hw h1 hbb (l01 old (bitI j)) ((b0X _ _).trans (decide_eq_true ey)) hc0 (hs.wz _) (hwb _) hS1 (v0f (g04 hc.a hne) hans hJ.a (.stop fun d=>?_))
  have hz:∀q,s.k.n≤cw*64+q→(old ||| bitI j).getLsbD q=false:=fun q hq=>by
   rw[BitVec.getLsbD_or,← ey,hs.wf.hi _ _ hq,U8,Nat.mod_eq_of_lt h1]
   simp;omega
  exact b0U (st:=st) (c:=⟨⟨4,1,i,cw,old,out⟩,A,A1,A2,rest,ab,ov⟩) (a:=⟨(true,64*(cw:Int)+(j:Int),[]),none,0,0⟩) (k':={s.k with ws:=s.k.ws.set cw (old ||| bitI j)}) (a03 (s:=⟨_,s.wb,s.g⟩) (hs.setW hz) hab) (by simp[V0.step,V0.claim,e,ey];omega) (World.ownsRow_nil _ _ _ _) (fun q h=>by simp[SA.row,Value.ownBlock]at h) hs hdis d
 ·refine w03 (sv:=Z0 st) hs.bh hw h1 hbb (l01 old (bitI j)) ((b0X _ _).trans (decide_eq_false ey)) hc0 (hs.wz _) (hwb _) hS1 fun A' hA'=>M2 (K:=stK) (.stop fun d=>?_)
  exact a0V (st:=st) (c:=⟨⟨4,1,i,cw,old,out⟩,A,A1,A2,rest,ab,ov⟩) (c':=⟨⟨4,0,i,cw,old,out⟩,A',A1,A2,rest,ab,ov⟩) (k':=s.k) (by rfl) hs (by simp[V0.step,V0.claim,ey]) ⟨⟨by simp,fun h=>absurd h (by simp),hw,fun h=>by simp at h,ho⟩,(by exact hA'),hJ.a⟩ ⟨hc.a,hc.ov,hc.on⟩ (fun q h=>.inl h) hs hdis d
end
end
section
variable{F:Fz}{w w' w0:World}{lb cb fb xb st:Nat}
structure P6(w0 w:World)(ov0 ov:Value):Prop where
 size:w0.heap.size≤w.heap.size
 old:∀r,r<w0.heap.size→some r≠ov0.ownBlock→w.heap[r]? =w0.heap[r]?
 blk:ov.ownBlock=ov0.ownBlock∨∃g,ov.ownBlock=some g∧w0.heap.size≤g
theorem P6.refl(w:World)(ov:Value):P6 w w ov ov:=⟨Nat.le_refl _,fun _ _ _=>rfl,.inl rfl⟩
theorem P6.step{e:TypeId}{ov0 ov ov':Value}{xs:List Int}{u:Int}(h:P6 w0 w ov0 ov)(g:e0r e F w w' ov ov' xs u):P6 w0 w' ov0 ov':=by
 refine⟨Nat.le_trans h.size g.size,fun r hr hne=>?_,?_⟩
 ·rw[g.old r (Nat.lt_of_lt_of_le hr h.size) fun e=>?_,h.old r hr hne]
  rcases h.blk with h1|⟨q,h1,h2⟩
  ·exact hne (e.trans h1)
  ·rw[h1]at e;cases e;omega
 ·rcases g.blk with h1|⟨q,h1,h2⟩
  ·rw[h1];exact h.blk
  ·exact .inr ⟨q,h1,Nat.le_trans h.size h2⟩
theorem P6.free{ov0 ov:Value}{nn:Nat}(h:P6 w0 w ov0 ov)(hU:i2 F nn)(hn:nn≤w0.heap.size)(hF:∀b,ov0.ownBlock=some b→F b=none):∀b,ov.ownBlock=some b→F b=none:=fun b hb=>by
 rcases h.blk with h1|⟨q,h1,h2⟩
 ·exact hF b (h1 ▸ hb)
 ·rw[h1]at hb
  cases hb
  cases hz:F b with
  | none=>rfl
  | some z=>have:=hU b z hz;omega
theorem Tab.same(h:Tab w)(hs:w'.heap[0]? =w.heap[0]?):Tab w':=⟨fun k hk=>by rw[← h.c k hk];unfold World.cell?;simp only[hs]⟩
theorem e0d{m k nn:Nat}{sv ov0:Value}{ys:List Int}(hU:i2 F nn)(hn:nn≤w0.heap.size)(hkb:k≤1024)(h0:0<w0.heap.size)(hT:Tab w0)(ht:some 0≠ov0.ownBlock)(hF:∀b,ov0.ownBlock=some b→F b=none){cs:List Frame}{main:Bool}{Stop:Goroutine→World→Prop}
 (K:∀ov w A,w.ownsRow 0 3 1 ov ys.length (ys.map fun v=>vI v)→Wf F w→P6 w0 w ov0 ov→G0 40 A [(0,vP lb 0),(1,sv),(5,ov),(6,vI (k:Nat)),(7,wV 0#64),(11,vI (m:Nat)),(12,vI (k:Nat))]→J0 Tryd.prog main F Stop (G (bA 30 A [.inRegion (oC a0u) [0,1],.code a00,.code a0P,.inLoop a0O,.inBlock 2,.inBlock 1,.code f6,.inLoop a0v,.inBlock 0,.code J7]) cs) w):
 ∀(L:List Nat) (y:BitVec 64) (xs:List Int) (ov:Value) (w:World) (A:Array Value),H8 y=L→xs++L.map (fun j=>64*(k:Int)+(j:Nat))=ys→xs.length+L.length≤65536→w.ownsRow 0 3 1 ov xs.length (xs.map fun v=>vI v)→Wf F w→P6 w0 w ov0 ov→G0 40 A [(0,vP lb 0),(1,sv),(5,ov),(6,vI (k:Nat)),(7,wV y),(11,vI (m:Nat)),(12,vI (k:Nat))]→J0 Tryd.prog main F Stop (G (bA 30 A [.inRegion (oC a0u) [0,1],.code a00,.code a0P,.inLoop a0O,.inBlock 2,.inBlock 1,.code f6,.inLoop a0v,.inBlock 0,.code J7]) cs) w:=by
 intro L
 induction L with
 | nil=>
   intro y xs ov w A hy hx hl hrow hwf hm hA
   have e:y=0#64:=Classical.byContradiction fun h=>by rw[d0I h]at hy;cases hy
   subst e
   simp only[List.map_nil,List.append_nil]at hx
   subst hx
   exact K ov w A hrow hwf hm hA
 | cons j L ih=>
   intro y xs ov w A hy hx hl hrow hwf hm hA
   have e:y≠0#64:=fun h=>by rw[h,h0L]at hy;cases hy
   rw[d0I e]at hy
   simp only[List.cons.injEq]at hy
   obtain⟨rfl,hy⟩:=hy
   have hT':Tab w:=hT.same (hm.old 0 h0 ht)
   simp only[List.length_cons]at hl
   have hs:=hm.size
   refine y0X (sv:=sv) hU (by omega) hwf hT' e ((o0t y).trans (decide_eq_true e)) (l04 y) (g02 y (y - 1#64)) (by omega) hkb hrow (hm.free hU hn hF) hA fun ov' w' A' g hA'=>?_
   refine ih _ (xs++[64*(k:Int)+(N8 y:Nat)]) ov' w' A' hy ?_ ?_ ?_ g.wf (hm.step g) hA'
   ·rw[← hx];simp
   ·simp;omega
   ·have:=g.row
    simpa using this
section
variable{s:BS}{i cw:Nat}{old:BitVec 64}{out:List Int}{A A1 A2:Array Value}{rest:List Nat}{ab:Nat}{ov:Value}
theorem f0l(y:BitVec 64):(H8 y).length≤64:=by
 have:=List.length_filter_le (fun j=>y.getLsbD j) (List.range 64)
 simpa [H8]using this
theorem l0o{ov':Value}(hs:BU lb cb fb xb s w)(hm:P6 w w' ov ov')(hd:∀q,ov.ownBlock=some q→¬BR lb cb fb xb s q):BU lb cb fb xb s w':=hs.same fun q hq=>hm.old q (hs.low hq) fun e=>hd q e.symm hq
theorem d0f{e:TypeId}{n:Nat}{v:Value}{xs:List Value}(h:w.ownsRow 0 e 1 v n xs):∃a c,v= .slice a n c:=by
 rcases h.2 with⟨rfl,h1⟩|⟨b,cap,cur,rfl,_⟩
 ·exact⟨none,0,by rw[h1]⟩
 ·exact⟨_,_,rfl⟩
theorem w0L(hJ:BJ lb st s.wb s.k.n s.m ⟨⟨5,0,i,cw,old,out⟩,A,A1,A2,rest,ab,ov⟩)(hs:BU lb cb fb xb s w)(hc:BCU ⟨⟨5,0,i,cw,old,out⟩,A,A1,A2,rest,ab,ov⟩ w)(hdis:∀q,w8 ⟨⟨5,0,i,cw,old,out⟩,A,A1,A2,rest,ab,ov⟩ q→¬BR lb cb fb xb s q)(hwf:Wf F w)(hF:∀r,BR lb cb fb xb s r∨w8 ⟨⟨5,0,i,cw,old,out⟩,A,A1,A2,rest,ab,ov⟩ r→F r=none)(b:Frame)(cs:List Frame):
 J0 Tryd.prog false F ((O3 lb cb fb xb).Out st s (w8 ⟨⟨5,0,i,cw,old,out⟩,A,A1,A2,rest,ab,ov⟩) ((O3 lb cb fb xb).stp s ⟨⟨5,0,i,cw,old,out⟩,A,A1,A2,rest,ab,ov⟩) w (b::cs)) (back (.tuple #[]) ((O3 lb cb fb xb).cf st ⟨⟨5,0,i,cw,old,out⟩,A,A1,A2,rest,ab,ov⟩++b::cs)) w:=by
 have hans:∀k,¬held F ⟨ab,k,none⟩:=fun k=>T3 (hF _ (.inr (.inl rfl))) k
 have hwb:∀k,¬held F ⟨s.wb,k,none⟩:=fun k=>T3 (hF _ (.inl (.inr (.inl rfl)))) k
 have hab:¬BR lb cb fb xb s ab:=hdis _ (.inl rfl)
 have hne:s.wb≠ab:=fun e=>hab (.inr (.inl e.symm))
 have hS:=hJ.s
 have hw:=hJ.v.w
 refine v4 (K:=stK) (sa:=⟨st,0,none⟩) ?_
 simp only at hw
 have hl:=hs.wf.l
 have hln:=hs.wf.n
 have hc0:=hs.wc hw
 have hz:HiZ s.k.n cw (s.k.wd cw):=fun j _ h=>hs.wf.hi _ _ h
 have ho:=hJ.v.out
 simp only at ho
 have hm1k:s.m≤1024:=by simp only[BS.m];omega
 have hnum:=b0T hz
 have hb64:=f0l (s.k.wd cw)
 have hd:∀q,ov.ownBlock=some q→¬BR lb cb fb xb s q:=fun q hq=>hdis q (.inr hq)
 have habl:ab<w.heap.size:=hc.low (.inl rfl)
 refine r0g (sv:=Z0 st) hs.bh hw hc0 hS.1 fun A' hA'=>?_
 refine e0d (w0:=w) (sv:=Z0 st) (ov0:=ov) (ys:=out++X3 s.k.n cw (s.k.wd cw)) (W5 hwf) (Nat.le_refl _) (by omega) (hs.low (.inr (.inr (.inr (.inr (.inr rfl)))))) hs.tab (fun e=>hd 0 e.symm (.inr (.inr (.inr (.inr (.inr rfl)))))) (fun q hq=>hF q (.inr (.inr hq))) (fun ov' w' A3 hrow hwf' hm hA3=>?_) (H8 (s.k.wd cw)) (s.k.wd cw) out ov w A' rfl (by rw[hnum]) (by omega) hc.ov hwf (P6.refl _ _) hA'
 have hU':BU lb cb fb xb s w':=l0o hs hm hd
 have hon:ov'.ownBlock≠some ab:=fun e=>by
  rcases hm.blk with h1|⟨q,h1,h2⟩
  ·exact hc.on (h1 ▸ e)
  ·rw[h1]at e;cases e;omega
 have ha':s9 w' ab:=E9 hc.a (hm.old ab habl fun e=>hc.on e.symm)
 have hcr':∀q,ov'.ownBlock=some q→w8 ⟨⟨5,0,i,cw,old,out⟩,A,A1,A2,rest,ab,ov⟩ q∨w.heap.size≤q:=fun q hq=>by
  rcases hm.blk with h1|⟨g,h1,h2⟩
  ·exact .inl (.inr (h1 ▸ hq))
  ·rw[h1]at hq;cases hq;exact .inr h2
 have hlen:(out++X3 s.k.n cw (s.k.wd cw)).length≤64*(cw+1):=by rw[hnum];simp;omega
 by_cases hx:cw+1=s.m
 ·refine p0s (sv:=Z0 st) hm1k hx hA3 ?_
  obtain⟨la,lc,rfl⟩:=d0f hrow
  refine l0v hS.2 (t0k ha' hans hJ.a (.stop fun d=>?_))
  simp only[BS.m]at hx
  exact b0U (st:=st) (c:=⟨⟨5,0,i,cw,old,out⟩,A,A1,A2,rest,ab,ov⟩) (a:=⟨(true,((out++X3 s.k.n cw (s.k.wd cw)).length:Int),[]),none,0,0⟩) (k':=s.k) (a03 hU' hab) (by simp[V0.step,V0.look,hx]) (World.ownsRow_nil _ _ _ _) (fun q h=>by simp[SA.row,Value.ownBlock]at h) hs hdis d
 ·refine p0r (sv:=Z0 st) hm1k (by omega) hA3 fun A4 hA4=>M2 (K:=stK) (.stop fun d=>?_)
  have hm2:cw+1<s.m:=by omega
  simp only[BS.m]at hx
  exact a0V (st:=st) (c:=⟨⟨5,0,i,cw,old,out⟩,A,A1,A2,rest,ab,ov⟩) (c':=⟨⟨5,0,i,cw+1,old,out++X3 s.k.n cw (s.k.wd cw)⟩,A4,A1,A2,rest,ab,ov'⟩) (k':=s.k) (by rfl) hU' (by simp[V0.step,V0.look,hx]) ⟨⟨by simp,fun h=>absurd h (by simp),hm2,fun h=>by simp at h,hlen⟩,(by exact⟨hA4,hS.2⟩),hJ.a⟩ ⟨ha',hrow,hon⟩ (fun q h=>h.elim (fun e=>.inl (.inl e)) (hcr' q)) hs hdis d
end
end
section
variable{F:Fz}{w w' w0:World}{lb cb fb xb st:Nat}
theorem l08{gb lc nn:Nat}{xs:List Int}(hU:i2 F nn)(hn:nn≤w0.heap.size)(hl:xs.length≤70000)(hc:∀j x,xs[j]? =some x→w0.cell? ⟨gb,j,none⟩=some (vI x)){cs:List Frame}{main:Bool}{Stop:Goroutine→World→Prop}
 (K:∀ov w A,w.ownsRow 0 2 1 ov xs.length (xs.map fun v=>vI v)→Wf F w→P6 w0 w (.slice none 0 0) ov→G0 18 A [(3,ov),(6,vL gb 0 xs.length lc),(7,vI (xs.length:Nat)),(8,vI (xs.length:Nat))]→J0 Tryd.prog main F Stop (G (bA 29 A [.inRegion (oC b0k) [0],.code b0Y,.inLoop d0S,.inBlock 0,.code f0f]) cs) w):
 ∀(n i:Nat) (ov:Value) (w:World) (A:Array Value),i+n=xs.length→w.ownsRow 0 2 1 ov (xs.take i).length ((xs.take i).map fun v=>vI v)→Wf F w→P6 w0 w (.slice none 0 0) ov→G0 18 A [(3,ov),(6,vL gb 0 xs.length lc),(7,vI (xs.length:Nat)),(8,vI (i:Nat))]→J0 Tryd.prog main F Stop (G (bA 29 A [.inRegion (oC b0k) [0],.code b0Y,.inLoop d0S,.inBlock 0,.code f0f]) cs) w:=by
 intro n
 induction n with
 | zero=>
   intro i ov w A hi hrow hwf hm hA
   obtain rfl:i=xs.length:=by omega
   rw[List.take_length]at hrow
   exact K ov w A hrow hwf hm hA
 | succ n ih=>
   intro i ov w A hi hrow hwf hm hA
   have hx:xs[i]? =some xs[i]:=List.getElem?_eq_getElem (by omega)
   have hc0:=hc i _ hx
   have hlt:gb<w0.heap.size:=I9 hc0
   have hci:w.cell? ⟨gb,0+i,none⟩=some (vI xs[i]):=by
    rw[Nat.zero_add,← hc0]
    unfold World.cell?
    simp only[hm.old gb hlt (by simp[Value.ownBlock])]
   have hs:=hm.size
   have htl:(xs.take i).length=i:=by rw[List.length_take];omega
   refine z0i hU (by omega) hwf hci (by omega) hl (by omega) hrow (hm.free hU hn fun b hb=>by simp[Value.ownBlock]at hb) hA fun ov' w' A' g hA'=>?_
   have hsnoc:xs.take (i+1)=xs.take i++[xs[i]]:=by rw[List.take_add_one,hx];rfl
   refine ih (i+1) ov' w' A' (by omega) ?_ g.wf (hm.step g) hA'
   have h2:=g.row
   have e2:(xs.take i++[xs[i]]).length=(xs.take i).length+1:=by rw[List.length_append];rfl
   rw[hsnoc,e2]
   exact h2
section
variable{s:BS}{i cw:Nat}{old:BitVec 64}{out:List Int}{A A1 A2:Array Value}{rest:List Nat}{ab:Nat}{ov:Value}
theorem f01{ok:Bool}{v:Value}{r:Nat}(hr:r≠ab):(m08 w ab ok v).heap[r]? =w.heap[r]?:=by
 unfold m08
 rw[o0 _ _ _ hr,o0 _ _ _ hr,o0 _ _ _ hr]
theorem w0M(hJ:BJ lb st s.wb s.k.n s.m ⟨⟨6,0,i,cw,old,out⟩,A,A1,A2,rest,ab,ov⟩)(hs:BU lb cb fb xb s w)(hc:BCU ⟨⟨6,0,i,cw,old,out⟩,A,A1,A2,rest,ab,ov⟩ w)(hdis:∀q,w8 ⟨⟨6,0,i,cw,old,out⟩,A,A1,A2,rest,ab,ov⟩ q→¬BR lb cb fb xb s q)(hwf:Wf F w)(hF:∀r,BR lb cb fb xb s r∨w8 ⟨⟨6,0,i,cw,old,out⟩,A,A1,A2,rest,ab,ov⟩ r→F r=none)(b:Frame)(cs:List Frame):
 J0 Tryd.prog false F ((O3 lb cb fb xb).Out st s (w8 ⟨⟨6,0,i,cw,old,out⟩,A,A1,A2,rest,ab,ov⟩) ((O3 lb cb fb xb).stp s ⟨⟨6,0,i,cw,old,out⟩,A,A1,A2,rest,ab,ov⟩) w (b::cs)) (back (.tuple #[]) ((O3 lb cb fb xb).cf st ⟨⟨6,0,i,cw,old,out⟩,A,A1,A2,rest,ab,ov⟩++b::cs)) w:=by
 have hans:∀k,¬held F ⟨ab,k,none⟩:=fun k=>T3 (hF _ (.inr (.inl rfl))) k
 have hwb:∀k,¬held F ⟨s.wb,k,none⟩:=fun k=>T3 (hF _ (.inl (.inr (.inl rfl)))) k
 have hab:¬BR lb cb fb xb s ab:=hdis _ (.inl rfl)
 have hne:s.wb≠ab:=fun e=>hab (.inr (.inl e.symm))
 have hS:=hJ.s
 have hw:=hJ.v.w
 refine v4 (K:=stK) (sa:=⟨st,0,none⟩) ?_
 simp only at hw
 have hl:=hs.wf.l
 have hln:=hs.wf.n
 have hc0:=hs.wc hw
 have hz:HiZ s.k.n cw (s.k.wd cw):=fun j _ h=>hs.wf.hi _ _ h
 have ho:=hJ.v.out
 simp only at ho
 have hm1k:s.m≤1024:=by simp only[BS.m];omega
 have hnum:=b0T hz
 have hb64:=f0l (s.k.wd cw)
 have hd:∀q,ov.ownBlock=some q→¬BR lb cb fb xb s q:=fun q hq=>hdis q (.inr hq)
 have habl:ab<w.heap.size:=hc.low (.inl rfl)
 refine r0g (sv:=Z0 st) hs.bh hw hc0 hS fun A' hA'=>?_
 refine e0d (w0:=w) (sv:=Z0 st) (ov0:=ov) (ys:=out++X3 s.k.n cw (s.k.wd cw)) (W5 hwf) (Nat.le_refl _) (by omega) (hs.low (.inr (.inr (.inr (.inr (.inr rfl)))))) hs.tab (fun e=>hd 0 e.symm (.inr (.inr (.inr (.inr (.inr rfl)))))) (fun q hq=>hF q (.inr (.inr hq))) (fun ov' w' A3 hrow hwf' hm hA3=>?_) (H8 (s.k.wd cw)) (s.k.wd cw) out ov w A' rfl (by rw[hnum]) (by omega) hc.ov hwf (P6.refl _ _) hA'
 have hU':BU lb cb fb xb s w':=l0o hs hm hd
 have hon:ov'.ownBlock≠some ab:=fun e=>by
  rcases hm.blk with h1|⟨q,h1,h2⟩
  ·exact hc.on (h1 ▸ e)
  ·rw[h1]at e;cases e;omega
 have ha':s9 w' ab:=E9 hc.a (hm.old ab habl fun e=>hc.on e.symm)
 have hcr':∀q,ov'.ownBlock=some q→w8 ⟨⟨6,0,i,cw,old,out⟩,A,A1,A2,rest,ab,ov⟩ q∨w.heap.size≤q:=fun q hq=>by
  rcases hm.blk with h1|⟨g,h1,h2⟩
  ·exact .inl (.inr (h1 ▸ hq))
  ·rw[h1]at hq;cases hq;exact .inr h2
 have hlen:(out++X3 s.k.n cw (s.k.wd cw)).length≤64*(cw+1):=by rw[hnum];simp;omega
 by_cases hx:cw+1=s.m
 ·refine p0s (sv:=Z0 st) hm1k hx hA3 (t0l hJ.a fun A5 hA5=>?_)
  simp only[BS.m]at hx
  generalize hys:out++X3 s.k.n cw (s.k.wd cw)=ys at hrow hlen
  have hfin:∀lv w2 A6,w2.ownsRow 0 2 1 lv ys.length (ys.map fun v=>vI v)→P6 w' w2 (.slice none 0 0) lv→G0 63 A6 [(8,vP ab 0)]→∀la lc,lv= .slice la ys.length lc→∀d,(O3 lb cb fb xb).Out st s (w8 ⟨⟨6,0,i,cw,old,out⟩,A,A1,A2,rest,ab,ov⟩) ((O3 lb cb fb xb).stp s ⟨⟨6,0,i,cw,old,out⟩,A,A1,A2,rest,ab,ov⟩) w (b::cs) (back (.agg #[.bool true,vI 0,.slice la ys.length lc]) (b::cs)) ((m08 w2 ab true (.slice la ys.length lc)).at d):=fun lv w2 A6 hr2 hm2 hA6 la lc e d=>by
   subst e
   have hb2:BU lb cb fb xb s w2:=hU'.same fun q hq=>hm2.old q (hU'.low hq) (by simp[Value.ownBlock])
   have hnew:∀q,(Value.slice la ys.length lc).ownBlock=some q→w'.heap.size≤q:=fun q hq=>by
    rcases hm2.blk with h1|⟨g,h1,h2⟩
    ·rw[h1]at hq;simp[Value.ownBlock]at hq
    ·rw[h1]at hq;cases hq;exact h2
   have hsz:=hm.size
   have hrow2:(m08 w2 ab true (.slice la ys.length lc)).ownsRow 0 2 1 (.slice la ys.length lc) ys.length (ys.map fun v=>vI v):=G1 hr2 fun q hq _=>f01 (by have:=hnew q hq;omega)
   exact b0U (st:=st) (c:=⟨⟨6,0,i,cw,old,out⟩,A,A1,A2,rest,ab,ov⟩) (a:=⟨(true,0,ys),la,ys.length,lc⟩) (k':=s.k) (hb2.same fun q hq=>f01 (ab:=ab) fun e=>hab (by rw[← e];exact hq)) (by rw[← hys];simp[V0.step,V0.look,hx]) hrow2 (fun q h=>.inr (Nat.le_trans hsz (hnew q h))) hs hdis d
  have haw:∀{w2 lv},P6 w' w2 (.slice none 0 0) lv→s9 w2 ab:=fun{w2 lv} hm2=>E9 ha' (hm2.old ab (by have:=hm.size;omega) (by simp[Value.ownBlock]))
  by_cases h0:ys.length=0
  ·obtain⟨la,lc,rfl⟩:=d0f hrow
   refine q0t fun A6 hA6=>?_
   have hA7:G0 18 A6 [(3,.slice none 0 0),(6,.slice la ys.length lc),(7,vI (ys.length:Nat)),(8,vI (ys.length:Nat))]:=by rw[h0]at hA6 ⊢;exact hA6
   refine q0u hA7 (p0a (haw (P6.refl _ _)) hans hA5 (.stop fun d=>?_))
   have hy0:ys=[]:=List.length_eq_zero_iff.1 h0
   have:=hfin (.slice none 0 0) w' A5 (by rw[hy0];exact World.ownsRow_nil _ _ _ _) (P6.refl _ _) hA5 none 0 (by rw[h0]) d
   rw[h0]at this
   exact this
  ·rcases hrow.2 with⟨e,_⟩|⟨gb,lc,cur,e,q1,q2,q3,q4,q5,q6⟩
   ·obtain⟨la,lc,e2⟩:=d0f hrow
    rw[e]at e2
    simp only[Value.slice.injEq]at e2
    omega
   ·subst e
    refine q0t fun A6 hA6=>?_
    refine l08 (w0:=w') (xs:=ys) (W5 hwf) hm.size (by omega) (fun j x hj=>?_) (fun lv w2 A7 hr2 hwf2 hm2 hA7=>?_) ys.length 0 _ w' A6 (by omega) (World.ownsRow_nil _ _ _ _) hwf' (P6.refl _ _) hA6
    ·obtain⟨b2,cap2,a1,a2⟩:=M5 hrow (k:=j) (x:=vI x) (by rw[List.getElem?_map,hj];rfl)
     cases a1
     exact a2.c
    ·obtain⟨la,lc2,e2⟩:=d0f hr2
     subst e2
     refine q0u hA7 (p0a (haw hm2) hans hA5 (.stop fun d=>?_))
     exact hfin _ w2 A5 hr2 hm2 hA5 la lc2 rfl d
 ·refine p0r (sv:=Z0 st) hm1k (by omega) hA3 fun A4 hA4=>M2 (K:=stK) (.stop fun d=>?_)
  have hm2:cw+1<s.m:=by omega
  simp only[BS.m]at hx
  exact a0V (st:=st) (c:=⟨⟨6,0,i,cw,old,out⟩,A,A1,A2,rest,ab,ov⟩) (c':=⟨⟨6,0,i,cw+1,old,out++X3 s.k.n cw (s.k.wd cw)⟩,A4,A1,A2,rest,ab,ov'⟩) (k':=s.k) (by rfl) hU' (by simp[V0.step,V0.look,hx]) ⟨⟨by simp,fun h=>absurd h (by simp),hm2,fun h=>by simp at h,hlen⟩,(by exact hA4),hJ.a⟩ ⟨ha',hrow,hon⟩ (fun q h=>h.elim (fun e=>.inl (.inl e)) (hcr' q)) hs hdis d
end
end
section
variable{F:Fz}{w w':World}{st:Nat}
theorem q0J(lb cb fb xb:Nat):(O3 lb cb fb xb).Ok where
 call:=j0r
 jb:=fun st s s' c i o r h hb=>by
  obtain⟨e1,e2,e3⟩:=hb
  have e:s'.k=s.k:=(congrArg (fun x:V0×BRs=>x.1) e3).trans (a0l _ _)
  show BJ lb st s'.wb s'.k.n s'.k.ws.length c
  rw[e,e1]
  exact h
 js:=fun st s s' c c1 r h hb=>by
  obtain⟨e1,e2,e3⟩:=hb
  obtain⟨l1,l2⟩:=x9 s.k c1.c
  have e:s'.k.ws.length=s.k.ws.length:=(congrArg (fun x:V0×BRs=>x.1.ws.length) e3).trans l1
  have e':s'.k.n=s.k.n:=(congrArg (fun x:V0×BRs=>x.1.n) e3).trans l2
  show BJ lb st s'.wb s'.k.n s'.k.ws.length c
  rw[e,e',e1]
  exact h
 plain:=by
  intro st c
  refine⟨by simp[O3],fun u hu=>?_⟩
  have hu:u∈f0N stK ⟨st,0,none⟩::c.fr:=hu
  rcases List.mem_cons.1 hu with rfl|hu
  ·exact I5 ⟨_,Tryd.func48⟩ _ _
  ·unfold BeC.fr at hu
   split at hu<;>
   ·simp only[List.mem_cons,List.mem_nil_iff,or_false,List.not_mem_nil]at hu
    repeat'(rcases hu with rfl|hu)
    all_goals first
     | exact I5 ⟨_,Tryd.func47⟩ _ _
     | exact I5 ⟨_,Tryd.func18⟩ _ _
     | exact I5 ⟨_,Tryd.func19⟩ _ _
     | exact I5 ⟨_,Tryd.func20⟩ _ _
     | exact I5 ⟨_,Tryd.func45⟩ _ _
     | exact I5 ⟨_,Tryd.func30⟩ _ _
     | exact I5 ⟨_,Tryd.func46⟩ _ _
     | exact I5 ⟨_,Tryd.func51⟩ _ _
     | (subst hu
        exact I5 ⟨_,Tryd.func51⟩ _ _)
 sS:=fun s w w' h _ hs=>BU.same h hs
 sC:=fun c w w' h _ hs=>BCU.same h hs
 sA:=fun a w w' h _ hs=>G1 h fun q hq _=>hs q hq
 lS:=fun s w r h hr=>BU.low h hr
 lC:=fun c w r h hr=>BCU.low h hr
 lA:=fun a w r h hr=>i0f h hr
 beg:=by
  intro s i o st F w c cs hs hwf hF
  obtain⟨kd,a,b0,c0⟩:=o
  by_cases h1:kd=1
  ·subst h1
   exact t0A hs hwf c cs
  by_cases h2:kd=2
  ·subst h2
   exact t0B hs hwf c cs
  by_cases h3:kd=3
  ·subst h3
   exact t0C hs hwf c cs
  by_cases h4:kd=4
  ·subst h4
   exact t0D hs hwf c cs
  by_cases h5:kd=5
  ·subst h5
   exact t0E hs hwf c cs
  by_cases h6:kd=6
  ·subst h6
   exact t0J hs hwf c cs
  exact i0w h1 h2 h3 h4 h5 h6 hs hwf c cs
 stp:=by
  intro s c st F w b cs hJ hs hc hdis hwf hF
  obtain⟨⟨kd,ph,i,cw,old,out⟩,A,A1,A2,rest,ab,ov⟩:=c
  have hJ:BJ lb st s.wb s.k.n s.m ⟨⟨kd,ph,i,cw,old,out⟩,A,A1,A2,rest,ab,ov⟩:=hJ
  have hpc:=hJ.v.pc
  simp only[List.mem_cons,Prod.mk.injEq,List.not_mem_nil,or_false]at hpc
  rcases hpc with⟨rfl,rfl⟩|⟨rfl,rfl⟩|⟨rfl,rfl⟩|⟨rfl,rfl⟩|⟨rfl,rfl⟩|⟨rfl,rfl⟩|⟨rfl,rfl⟩|⟨rfl,rfl⟩|⟨rfl,rfl⟩
  ·exact w0C hJ hs hc hdis hwf hF b cs
  ·exact w0F hJ hs hc hdis hwf hF b cs
  ·exact w0G hJ hs hc hdis hwf hF b cs
  ·exact w0H hJ hs hc hdis hwf hF b cs
  ·exact w0I hJ hs hc hdis hwf hF b cs
  ·exact w0J hJ hs hc hdis hwf hF b cs
  ·exact w0K hJ hs hc hdis hwf hF b cs
  ·exact w0L hJ hs hc hdis hwf hF b cs
  ·exact w0M hJ hs hc hdis hwf hF b cs
end
section
variable{F:Fz}{w:World}
def j0Z(xv:Value)(w:World):Prop:=xv= .pointer none∨∃lb,xv=vP lb 0∧w.cell? ⟨lb,0,none⟩=some (vI 0)∧w.cell? ⟨lb,1,none⟩=some (.slice none 0 0)
theorem j0Z.heap{w w':World}{xv:Value}(h:j0Z xv w)(e:∀r,r<w.heap.size→w'.heap[r]? =w.heap[r]?):j0Z xv w':=by
 rcases h with h|⟨lb,h,h1,h2⟩
 ·exact .inl h
 ·refine .inr ⟨lb,h,?_,?_⟩
  ·rw[← h1];unfold World.cell?;rw[e lb (I9 h1)]
  ·rw[← h2];unfold World.cell?;rw[e lb (I9 h1)]
end
noncomputable section
variable {cs:List Frame}{main:Bool}{Stop:Goroutine→World→Prop}
variable{F:Fz}{w:World}
theorem e0m(X:World)(x y z x' y' z':Value):(((X.alloc (.cells #[x,y,z] 49)).setCell ⟨X.heap.size,0,none⟩ x').setCell ⟨X.heap.size,1,none⟩ y').setCell ⟨X.heap.size,2,none⟩ z'=X.alloc (.cells #[x',y',z'] 49):=by go_simp
def b0l:Code:=Tryd.f44.body.getD .skip
def B0d:=pC [] b0l
def z08:=pC [zt] b0l
def B0e:=pC [zf] b0l
def A0H:=pC [zf,zt] b0l
theorem v0L(args:Array Value):Frame.enter Tryd.prog 44 args .normal=(Go.Conc.base 44).at {tmps:=args++Array.replicate (6 - args.size) undef,defers:=[]} [.code B0d]:=enter_at args Tryd.func44 rfl
theorem e0h:O1 44:=G2 Tryd.func44 rfl rfl
theorem f0s{v:Int}{c:Frame}
 (h:J0 Tryd.prog main F Stop (G (c.finish (vI (if(1073741824:Int)<(if v< -1 then -1 else v)then 1073741824 else(if v< -1 then -1 else v)))) cs) w):
 J0 Tryd.prog main F Stop (G (Frame.enter Tryd.prog 44 #[vI v] .normal) (c::cs)) w:=by
 rw[v0L]
 walk_nrm
 refine ogW z08 B0e ?_
 simp only[oC,z08,pC,b0l,Tryd.f44,Option.getD_some,List.size_toArray,List.length_cons,List.length_nil,Nat.reduceAdd,Nat.zero_add,List.range,List.range.loop]
 refine oT ?_
 refine ogE<|ogW A0H .ret ?_
 simp only[oC,A0H,pC,b0l,Tryd.f44,Option.getD_some,List.size_toArray,List.length_cons,List.length_nil,Nat.reduceAdd,Nat.zero_add,List.range,List.range.loop]
 iterate 4 refine oT ?_
 refine ogE<|ogX ?_
 refine M0 rfl (fun d=>stepG_leave (fn:=Tryd.f44) (v:=vI (if(1073741824:Int)<(if v< -1 then -1 else v)then 1073741824 else(if v< -1 then -1 else v))) rfl rfl Tryd.func44 (by simp[results,Tryd.f44]) (by simp[results,Tryd.f44,go_sem])) ?_
 exact h
def S4:Code:=Tryd.f43.body.getD .skip
def B0g:=pC [] S4
def j0z:=pC [zt] S4
def m0G:=pC [zf] S4
def r0o:=pC [zt] m0G
def j0C:=pC [zf,zt,zt] S4
def r0l:=pC [zf] r0o
def B0h:=pC [zt] r0l
def A0M:=pC [zf,zt,zf,zt,zt] S4
def m0I:=pC [zf] m0G
def z0q:=pC [zt] m0I
def r0n:=pC [zf,zf,zt,zt] S4
def z0l:=pC [zf] z0q
def B0i:=pC [zt] z0l
def A0N:=pC [zf,zf,zt,zf,zt,zt] S4
def A0Q:=pC [zf] m0I
def A0O:=pC [zf,zf,zf,zt] S4
theorem f0q(args:Array Value):Frame.enter Tryd.prog 43 args .normal=(Go.Conc.base 43).at {tmps:=args++Array.replicate (11 - args.size) undef,defers:=[]} [.code B0g]:=enter_at args Tryd.func43 rfl
theorem d07:O1 43:=G2 Tryd.func43 rfl rfl
theorem f0A{nn:Nat}(hU:i2 F nn)(hn:nn≤w.heap.size){b:Bool}{c:Frame}
 (h:J0 Tryd.prog main F Stop (G (c.finish (.agg #[.bool false,vI 0,.slice none 0 0])) cs) (w.alloc (.cells #[.bool false,vI 0,.slice none 0 0] 49))):
 J0 Tryd.prog main F Stop (G (Frame.enter Tryd.prog 43 #[.bool b,vI 1] .normal) (c::cs)) w:=by
 rw[f0q]
 walk_nrm
 refine ogW j0z m0G ?_
 simp only[oC,j0z,pC,S4,Tryd.f43,Option.getD_some,List.size_toArray,List.length_cons,List.length_nil,Nat.reduceAdd,Nat.zero_add,List.range,List.range.loop]
 refine oA hU ?_
 refine ogE<|ogV r0o m0I<|ogW j0C r0l ?_
 simp only[oC,j0C,pC,S4,Tryd.f43,Option.getD_some,List.size_toArray,List.length_cons,List.length_nil,Nat.reduceAdd,Nat.zero_add,List.range,List.range.loop]
 iterate 2 refine oT ?_
 refine ogE<|ogYn B0h<|ogW A0M .ret ?_
 simp only[oC,A0M,pC,S4,Tryd.f43,Option.getD_some,List.size_toArray,List.length_cons,List.length_nil,Nat.reduceAdd,Nat.zero_add,List.range,List.range.loop]
 refine oT ?_
 (refine oW fun dd K hK=>?_;go_simp;refine hK _ _ ⟨⟨⟨0,K6 (fun k=>O4 hU (show nn≤w.heap.size by omega)) _ _ _⟩,fun e he=>by(have hm:=mem_listed he;clear he hK;simp[go_sem,storedEv]at hm;rcases hm with rfl|rfl|rfl<;>exact U0 _ _ ((fun k=>O4 hU (show nn≤w.heap.size by omega)) _))⟩,?_⟩;clear hK K;simp only[setCell_at'];refine J0.at ?_ dd)
 have e1:=e0m w (.bool false) (vI 0) (.slice none 0 0) (.bool false) (vI 0) (.slice none 0 0)
 rw[e1]
 clear e1
 refine ogE<|ogX ?_
 refine p4 (fn:=Tryd.f43) (v:=.agg #[.bool false,vI 0,.slice none 0 0]) rfl rfl Tryd.func43 (fun d=>by simp[results,Tryd.f43,go_sem]) (fun d e he=>by(simp[results,Tryd.f43,go_sem]at he;rcases he with rfl|rfl|rfl<;>exact I1 _ _)) ?_
 exact h
theorem q0D{nn:Nat}(hU:i2 F nn)(hn:nn≤w.heap.size){c:Frame}
 (h:J0 Tryd.prog main F Stop (G (c.finish (.agg #[.bool true,vI 1,.slice none 0 0])) cs) (w.alloc (.cells #[.bool true,vI 1,.slice none 0 0] 49))):
 J0 Tryd.prog main F Stop (G (Frame.enter Tryd.prog 43 #[.bool true,vI 0] .normal) (c::cs)) w:=by
 rw[f0q]
 walk_nrm
 refine ogW j0z m0G ?_
 simp only[oC,j0z,pC,S4,Tryd.f43,Option.getD_some,List.size_toArray,List.length_cons,List.length_nil,Nat.reduceAdd,Nat.zero_add,List.range,List.range.loop]
 refine oA hU ?_
 refine ogE<|ogV r0o m0I<|ogW j0C r0l ?_
 simp only[oC,j0C,pC,S4,Tryd.f43,Option.getD_some,List.size_toArray,List.length_cons,List.length_nil,Nat.reduceAdd,Nat.zero_add,List.range,List.range.loop]
 iterate 2 refine oT ?_
 refine ogE<|ogGn .skip<|ogK<|ogV z0q A0Q<|ogW r0n z0l ?_
 simp only[oC,r0n,pC,S4,Tryd.f43,Option.getD_some,List.size_toArray,List.length_cons,List.length_nil,Nat.reduceAdd,Nat.zero_add,List.range,List.range.loop]
 refine oT ?_
 refine ogE<|ogYn B0i<|ogW A0N .ret ?_
 simp only[oC,A0N,pC,S4,Tryd.f43,Option.getD_some,List.size_toArray,List.length_cons,List.length_nil,Nat.reduceAdd,Nat.zero_add,List.range,List.range.loop]
 refine oT ?_
 (refine oW fun dd K hK=>?_;go_simp;refine hK _ _ ⟨⟨⟨0,K6 (fun k=>O4 hU (show nn≤w.heap.size by omega)) _ _ _⟩,fun e he=>by(have hm:=mem_listed he;clear he hK;simp[go_sem,storedEv]at hm;rcases hm with rfl|rfl|rfl<;>exact U0 _ _ ((fun k=>O4 hU (show nn≤w.heap.size by omega)) _))⟩,?_⟩;clear hK K;simp only[setCell_at'];refine J0.at ?_ dd)
 have e1:=e0m w (.bool false) (vI 0) (.slice none 0 0) (.bool true) (vI 1) (.slice none 0 0)
 rw[e1]
 clear e1
 refine ogE<|ogX ?_
 refine p4 (fn:=Tryd.f43) (v:=.agg #[.bool true,vI 1,.slice none 0 0]) rfl rfl Tryd.func43 (fun d=>by simp[results,Tryd.f43,go_sem]) (fun d e he=>by(simp[results,Tryd.f43,go_sem]at he;rcases he with rfl|rfl|rfl<;>exact I1 _ _)) ?_
 exact h
theorem q0w{nn:Nat}(hU:i2 F nn)(hn:nn≤w.heap.size){c:Frame}
 (h:J0 Tryd.prog main F Stop (G (c.finish (.agg #[.bool true,vI 0,.slice none 0 0])) cs) (w.alloc (.cells #[.bool true,vI 0,.slice none 0 0] 49))):
 J0 Tryd.prog main F Stop (G (Frame.enter Tryd.prog 43 #[.bool false,vI 0] .normal) (c::cs)) w:=by
 rw[f0q]
 walk_nrm
 refine ogW j0z m0G ?_
 simp only[oC,j0z,pC,S4,Tryd.f43,Option.getD_some,List.size_toArray,List.length_cons,List.length_nil,Nat.reduceAdd,Nat.zero_add,List.range,List.range.loop]
 refine oA hU ?_
 refine ogE<|ogV r0o m0I<|ogW j0C r0l ?_
 simp only[oC,j0C,pC,S4,Tryd.f43,Option.getD_some,List.size_toArray,List.length_cons,List.length_nil,Nat.reduceAdd,Nat.zero_add,List.range,List.range.loop]
 iterate 2 refine oT ?_
 refine ogE<|ogGn .skip<|ogK<|ogV z0q A0Q<|ogW r0n z0l ?_
 simp only[oC,r0n,pC,S4,Tryd.f43,Option.getD_some,List.size_toArray,List.length_cons,List.length_nil,Nat.reduceAdd,Nat.zero_add,List.range,List.range.loop]
 refine oT ?_
 refine ogE<|ogGn .skip<|ogK<|ogW A0O .ret ?_
 simp only[oC,A0O,pC,S4,Tryd.f43,Option.getD_some,List.size_toArray,List.length_cons,List.length_nil,Nat.reduceAdd,Nat.zero_add,List.range,List.range.loop]
 refine oT ?_
 (refine oW fun dd K hK=>?_;go_simp;refine hK _ _ ⟨⟨⟨0,K6 (fun k=>O4 hU (show nn≤w.heap.size by omega)) _ _ _⟩,fun e he=>by(have hm:=mem_listed he;clear he hK;simp[go_sem,storedEv]at hm;rcases hm with rfl|rfl|rfl<;>exact U0 _ _ ((fun k=>O4 hU (show nn≤w.heap.size by omega)) _))⟩,?_⟩;clear hK K;simp only[setCell_at'];refine J0.at ?_ dd)
 have e1:=e0m w (.bool false) (vI 0) (.slice none 0 0) (.bool true) (vI 0) (.slice none 0 0)
 rw[e1]
 clear e1
 refine ogE<|ogX ?_
 refine p4 (fn:=Tryd.f43) (v:=.agg #[.bool true,vI 0,.slice none 0 0]) rfl rfl Tryd.func43 (fun d=>by simp[results,Tryd.f43,go_sem]) (fun d e he=>by(simp[results,Tryd.f43,go_sem]at he;rcases he with rfl|rfl|rfl<;>exact I1 _ _)) ?_
 exact h
def T0:Code:=Tryd.f15.body.getD .skip
def A09:=pC [] T0
def w7:=pC [zt] T0
def f0e:=pC [zf] T0
def f0O:=pC [zt] f0e
def f8:=pC [zf,zt,zt] T0
def e07:=pC [zf] f0O
def z07:=pC [zt] e07
def g8:=pC [zf,zt,zf,zt,zt] T0
def V8:=pC [zf] z07
def B0a:=pC [zt] V8
def X9:=pC [zf,zt,zf,zt,zf,zt,zt] T0
def h0z:=pC [zf] V8
def v9:=pC [zf,zt,zf,zt,zf,zf,zt] T0
def z9:=pC [zf] h0z
def B0b:=pC [zt] z9
def a0d:=pC [zf,zt,zf,zt,zf,zf,zf,zt,zt] T0
def j0h:=pC [zf] z9
def c0O:=pC [zf,zt,zf,zt,zf,zf,zf,zf,zt] T0
def d05:=pC [zf] j0h
def B0c:=pC [zt] d05
def a0U:=pC [zf,zt,zf,zt,zf,zf,zf,zf,zf,zt,zt] T0
def m0D:=pC [zf] d05
def f0M:=pC [zf,zt,zf,zt,zf,zf,zf,zf,zf,zf,zt] T0
def f0m:=pC [zf] m0D
def y0l:=pC [zt] f0m
def h0v:=pC [zf,zt,zf,zt,zf,zf,zf,zf,zf,zf,zf,zt,zt] T0
def k0k:=pC [zf] y0l
def j06:=pC [zf,zt,zf,zt,zf,zf,zf,zf,zf,zf,zf,zt,zf,zt] T0
def l0n:=pC [zf] f0m
def f0n:=pC [zf,zt,zf,zt,zf,zf,zf,zf,zf,zf,zf,zf,zt] T0
def g0y:=pC [zf] l0n
def A0T:=pC [zt] g0y
def g0P:=pC [zf,zt,zf,zt,zf,zf,zf,zf,zf,zf,zf,zf,zf,zt,zt] T0
def m0Z:=pC [zf] g0y
def j08:=pC [zf,zt,zf,zt,zf,zf,zf,zf,zf,zf,zf,zf,zf,zf,zt] T0
def m0X:=pC [zf] m0Z
def y0m:=pC [zt] m0X
def w0B:=pC [zf,zt,zf,zt,zf,zf,zf,zf,zf,zf,zf,zf,zf,zf,zf,zt,zt] T0
def y0n:=pC [zf] y0m
def g0T:=pC [zf,zt,zf,zt,zf,zf,zf,zf,zf,zf,zf,zf,zf,zf,zf,zt,zf,zt] T0
def h0w:=pC [zf] y0n
def y0o:=pC [zt] h0w
def x0v:=pC [zf,zt,zf,zt,zf,zf,zf,zf,zf,zf,zf,zf,zf,zf,zf,zt,zf,zf,zt,zt] T0
def v0W:=pC [zf] y0o
def m0Y:=pC [zt] v0W
def p8:=pC [zt] m0Y
def m00:=pC [zt] p8
def w6:=pC [zf,zt,zf,zt,zf,zf,zf,zf,zf,zf,zf,zf,zf,zf,zf,zt,zf,zf,zt,zf,zt,zt,zt,zt] T0
def g9:=pC [zf] m00
def s8:=pC [zf] p8
def v0X:=pC [zt] s8
def A0U:=pC [zt] v0X
def y0i:=pC [zf,zt,zf,zt,zf,zf,zf,zf,zf,zf,zf,zf,zf,zf,zf,zt,zf,zf,zt,zf,zt,zt,zf,zt,zt,zt] T0
def k0a:=pC [zf,zt,zf,zt,zf,zf,zf,zf,zf,zf,zf,zf,zf,zf,zf,zt,zf,zf,zt,zf,zt,zt,zf,zt,zt,zf] T0
def j09:=pC [zf,zt,zf,zt,zf,zf,zf,zf,zf,zf,zf,zf,zf,zf,zf,zt,zf,zf,zt,zf,zt,zt,zf,zf] T0
def a04:=pC [zf] h0w
def y0j:=pC [zf,zt,zf,zt,zf,zf,zf,zf,zf,zf,zf,zf,zf,zf,zf,zt,zf,zf,zf,zt] T0
def Z2:=pC [zf] f0e
def y0k:=pC [zf,zf,zt] T0
theorem d0W:e07= .block 0 z07:=by kernel_rfl
theorem A0R:v0W= .block 1 m0Y:=by kernel_rfl
theorem z0T:m0Y= .loop p8:=by kernel_rfl
theorem A0S:v0X= .block 2 A0U:=by kernel_rfl
theorem z0V:k0a= .region 20 (oC k0a) false:=by kernel_rfl
theorem z0U:j09= .region 18 (oC j09) false:=by kernel_rfl
theorem H6(args:Array Value):Frame.enter Tryd.prog 15 args .normal=(Go.Conc.base 15).at {tmps:=args++Array.replicate (95 - args.size) undef,defers:=[]} [.code A09]:=enter_at args Tryd.func15 rfl
theorem q0j:O1 15:=G2 Tryd.func15 rfl rfl
def H5(s:Nat→Value):Array Value:= #[s 0,s 1,s 2,s 3,s 4,s 5,s 6,s 7,s 8,s 9,s 10,s 11,s 12,s 13,s 14,s 15,s 16,s 17,s 18,s 19,s 20,s 21,s 22,s 23,s 24,s 25,s 26,s 27,s 28,s 29,s 30,s 31,s 32,s 33,s 34,s 35,s 36,s 37,s 38,s 39,s 40,s 41,s 42,s 43,s 44,s 45,s 46,s 47,s 48,s 49,s 50,s 51,s 52,s 53,s 54,s 55,s 56,s 57,s 58,s 59,s 60,s 61,s 62,s 63,s 64,s 65,s 66,s 67,s 68,s 69,s 70,s 71,s 72,s 73,s 74,s 75,s 76,s 77,s 78,s 79,s 80,s 81,s 82,s 83,s 84,s 85,s 86,s 87,s 88,s 89,s 90,s 91,s 92,s 93,s 94]
theorem C0x{A:Array Value}(h:A.size=95):∃s,A=H5 s:=by
 obtain⟨s,hs,_⟩:=Y4 A h
 exact⟨s,hs⟩
theorem B0k{nn:Nat}(hU:i2 F nn)(hn:nn≤w.heap.size){xv:Value}{sb:Nat}{a b c0:Int}
 (h:∀A,G0 95 A [(6,vP (w.heap.size+1) 0),(16,xv),(18,.iface 40 (vP sb 0))]→J0 Tryd.prog main F Stop (G (Frame.enter Tryd.prog 44 #[vI a] .normal) ((bA 15 A [.inRegion (oC X9) [5,6,7,8,9,10],.code .ret,.inBlock 0,.code Z2])::cs)) ((w.alloc (.cells #[vI 1,vI a,vI b,vI c0] 44)).alloc (.cells #[.bool false,vI 0,.slice none 0 0] 49))):
 J0 Tryd.prog main F Stop (G (Frame.enter Tryd.prog 15 #[xv,vP sb 0,.agg #[vI 1,vI a,vI b,vI c0]] .normal) cs) w:=by
 rw[H6]
 walk_nrm
 refine ogW w7 f0e ?_
 simp only[oC,w7,pC,T0,Tryd.f15,Option.getD_some,List.size_toArray,List.length_cons,List.length_nil,Nat.reduceAdd,Nat.zero_add,List.range,List.range.loop]
 iterate 2 refine oA hU ?_
 refine ogE<|ogV f0O Z2<|ogW f8 e07 ?_
 simp only[oC,f8,pC,T0,Tryd.f15,Option.getD_some,List.size_toArray,List.length_cons,List.length_nil,Nat.reduceAdd,Nat.zero_add,List.range,List.range.loop]
 refine oT ?_
 refine oL ?_
 refine ogE ?_
 rw[d0W]
 refine L7<|ogW g8 V8 ?_
 simp only[oC,g8,pC,T0,Tryd.f15,Option.getD_some,List.size_toArray,List.length_cons,List.length_nil,Nat.reduceAdd,Nat.zero_add,List.range,List.range.loop]
 iterate 2 refine oT ?_
 refine ogE<|ogYn B0a<|ogW X9 .ret ?_
 simp only[oC,X9,pC,T0,Tryd.f15,Option.getD_some,List.size_toArray,List.length_cons,List.length_nil,Nat.reduceAdd,Nat.zero_add,List.range,List.range.loop]
 iterate 4 refine oT ?_
 refine oL ?_
 refine oc e0h #[vI a] ?_
 refine h _ ?_
 exact⟨rfl,rfl,rfl,rfl,trivial⟩
theorem B0q{ab:Nat}{xv:Value}{sb:Nat}{v:Int}{A:Array Value}(hA:G0 95 A [(6,vP ab 0),(16,xv),(18,.iface 40 (vP sb 0))])
 (h:∀A,G0 95 A [(6,vP ab 0)]→J0 Tryd.prog main F Stop (G (Frame.enter Tryd.prog 18 #[xv,.iface 40 (vP sb 0),vI v] .normal) ((bA 15 A [.inRegion (oC X9) [6,7,8,9,10],.code .ret,.inBlock 0,.code Z2])::cs)) w):
 J0 Tryd.prog main F Stop (G ((bA 15 A [.inRegion (oC X9) [5,6,7,8,9,10],.code .ret,.inBlock 0,.code Z2]).finish (vI v)) cs) w:=by
 obtain⟨s,rfl,h6,h16,h18,_⟩:=Y3 H5 hA
 simp only[H5,h6,h16,h18]
 clear h6 h16 h18
 rw[Frame.finish_at]
 simp only[oC,X9,pC,T0,Tryd.f15,Option.getD_some,List.size_toArray,List.length_cons,List.length_nil,Nat.reduceAdd,Nat.zero_add,List.range,List.range.loop]
 walk_nrm
 refine oc e0o #[xv,.iface 40 (vP sb 0),vI v] ?_
 refine h _ ?_
 exact⟨rfl,rfl,trivial⟩
theorem z0s{ab:Nat}{bv:Bool}{ev:Int}{A:Array Value}(hA:G0 95 A [(6,vP ab 0)])
 (h:∀A,G0 95 A [(6,vP ab 0)]→J0 Tryd.prog main F Stop (G (Frame.enter Tryd.prog 43 #[.bool bv,vI ev] .normal) ((bA 15 A [.inRegion (oC X9) [9,10],.code .ret,.inBlock 0,.code Z2])::cs)) w):
 J0 Tryd.prog main F Stop (G ((bA 15 A [.inRegion (oC X9) [6,7,8,9,10],.code .ret,.inBlock 0,.code Z2]).finish (.tuple #[.bool bv,vI ev])) cs) w:=by
 obtain⟨s,rfl,h6,_⟩:=Y3 H5 hA
 simp only[H5,h6]
 clear h6
 rw[Frame.finish_at]
 simp only[oC,X9,pC,T0,Tryd.f15,Option.getD_some,List.size_toArray,List.length_cons,List.length_nil,Nat.reduceAdd,Nat.zero_add,List.range,List.range.loop]
 walk_nrm
 iterate 2 refine oT ?_
 refine oc d07 #[.bool bv,vI ev] ?_
 refine h _ ?_
 exact⟨rfl,rfl,trivial⟩
theorem r0p{ab:Nat}(ha:s9 w ab)(hnh:∀k,¬held F ⟨ab,k,none⟩){ok:Bool}{v:Int}{A:Array Value}(hA:G0 95 A [(6,vP ab 0)]){c:Frame}
 (h:J0 Tryd.prog main F Stop (G (c.finish (.agg #[.bool ok,vI v,.slice none 0 0])) cs) (d09 w ab ok v)):
 J0 Tryd.prog main F Stop (G ((bA 15 A [.inRegion (oC X9) [9,10],.code .ret,.inBlock 0,.code Z2]).finish (.agg #[.bool ok,vI v,.slice none 0 0])) (c::cs)) w:=by
 obtain⟨s,rfl,h6,_⟩:=Y3 H5 hA
 simp only[H5,h6]
 clear h6
 obtain⟨x0,x1,x2,c0x,c1x,c2x⟩:=ha.c
 have z0:=ha.z 0
 have z1:=ha.z 1
 have z2:=ha.z 2
 rw[Frame.finish_at]
 simp only[oC,X9,pC,T0,Tryd.f15,Option.getD_some,List.size_toArray,List.length_cons,List.length_nil,Nat.reduceAdd,Nat.zero_add,List.range,List.range.loop]
 walk_nrm
 (refine oW fun dd K hK=>?_;go_simp;refine hK _ _ ⟨⟨⟨0,K6 hnh _ _ _⟩,fun e he=>by(have hm:=mem_listed he;clear he hK;simp[go_sem,storedEv,c0x,c1x,c2x,z0,z1,z2]at hm;rcases hm with rfl|rfl|rfl<;>exact U0 _ _ (hnh _))⟩,?_⟩;clear hK K;simp only[setCell_at'];refine J0.at ?_ dd)
 refine ogE<|ogX ?_
 refine p4 (fn:=Tryd.f15) (v:=.agg #[.bool ok,vI v,.slice none 0 0]) rfl rfl Tryd.func15 (fun d=>by simp[results,Tryd.f15,go_sem,c0x,c1x,c2x,z0,z1,z2]) (fun d e he=>by(simp[results,Tryd.f15,go_sem,c0x,c1x,c2x,z0,z1,z2]at he;rcases he with rfl|rfl|rfl<;>exact I1 _ _)) ?_
 exact h
theorem B0l{nn:Nat}(hU:i2 F nn)(hn:nn≤w.heap.size){xv:Value}{sb:Nat}{a b c0:Int}
 (h:∀A,G0 95 A [(6,vP (w.heap.size+1) 0),(28,xv),(30,.iface 40 (vP sb 0))]→J0 Tryd.prog main F Stop (G (Frame.enter Tryd.prog 44 #[vI a] .normal) ((bA 15 A [.inRegion (oC a0d) [5,6,7,8,9,10],.code .ret,.inBlock 0,.code Z2])::cs)) ((w.alloc (.cells #[vI 2,vI a,vI b,vI c0] 44)).alloc (.cells #[.bool false,vI 0,.slice none 0 0] 49))):
 J0 Tryd.prog main F Stop (G (Frame.enter Tryd.prog 15 #[xv,vP sb 0,.agg #[vI 2,vI a,vI b,vI c0]] .normal) cs) w:=by
 rw[H6]
 walk_nrm
 refine ogW w7 f0e ?_
 simp only[oC,w7,pC,T0,Tryd.f15,Option.getD_some,List.size_toArray,List.length_cons,List.length_nil,Nat.reduceAdd,Nat.zero_add,List.range,List.range.loop]
 iterate 2 refine oA hU ?_
 refine ogE<|ogV f0O Z2<|ogW f8 e07 ?_
 simp only[oC,f8,pC,T0,Tryd.f15,Option.getD_some,List.size_toArray,List.length_cons,List.length_nil,Nat.reduceAdd,Nat.zero_add,List.range,List.range.loop]
 refine oT ?_
 refine oL ?_
 refine ogE ?_
 rw[d0W]
 refine L7<|ogW g8 V8 ?_
 simp only[oC,g8,pC,T0,Tryd.f15,Option.getD_some,List.size_toArray,List.length_cons,List.length_nil,Nat.reduceAdd,Nat.zero_add,List.range,List.range.loop]
 iterate 2 refine oT ?_
 refine ogE<|ogGn h0z<|ogW v9 z9 ?_
 simp only[oC,v9,pC,T0,Tryd.f15,Option.getD_some,List.size_toArray,List.length_cons,List.length_nil,Nat.reduceAdd,Nat.zero_add,List.range,List.range.loop]
 iterate 2 refine oT ?_
 refine ogE<|ogYn B0b<|ogW a0d .ret ?_
 simp only[oC,a0d,pC,T0,Tryd.f15,Option.getD_some,List.size_toArray,List.length_cons,List.length_nil,Nat.reduceAdd,Nat.zero_add,List.range,List.range.loop]
 iterate 4 refine oT ?_
 refine oL ?_
 refine oc e0h #[vI a] ?_
 refine h _ ?_
 exact⟨rfl,rfl,rfl,rfl,trivial⟩
theorem B0w{ab:Nat}{xv:Value}{sb:Nat}{v:Int}{A:Array Value}(hA:G0 95 A [(6,vP ab 0),(28,xv),(30,.iface 40 (vP sb 0))])
 (h:∀A,G0 95 A [(6,vP ab 0)]→J0 Tryd.prog main F Stop (G (Frame.enter Tryd.prog 19 #[xv,.iface 40 (vP sb 0),vI v] .normal) ((bA 15 A [.inRegion (oC a0d) [6,7,8,9,10],.code .ret,.inBlock 0,.code Z2])::cs)) w):
 J0 Tryd.prog main F Stop (G ((bA 15 A [.inRegion (oC a0d) [5,6,7,8,9,10],.code .ret,.inBlock 0,.code Z2]).finish (vI v)) cs) w:=by
 obtain⟨s,rfl,h6,h28,h30,_⟩:=Y3 H5 hA
 simp only[H5,h6,h28,h30]
 clear h6 h28 h30
 rw[Frame.finish_at]
 simp only[oC,a0d,pC,T0,Tryd.f15,Option.getD_some,List.size_toArray,List.length_cons,List.length_nil,Nat.reduceAdd,Nat.zero_add,List.range,List.range.loop]
 walk_nrm
 refine oc a0Z #[xv,.iface 40 (vP sb 0),vI v] ?_
 refine h _ ?_
 exact⟨rfl,rfl,trivial⟩
theorem z0t{ab:Nat}{bv:Bool}{ev:Int}{A:Array Value}(hA:G0 95 A [(6,vP ab 0)])
 (h:∀A,G0 95 A [(6,vP ab 0)]→J0 Tryd.prog main F Stop (G (Frame.enter Tryd.prog 43 #[.bool bv,vI ev] .normal) ((bA 15 A [.inRegion (oC a0d) [9,10],.code .ret,.inBlock 0,.code Z2])::cs)) w):
 J0 Tryd.prog main F Stop (G ((bA 15 A [.inRegion (oC a0d) [6,7,8,9,10],.code .ret,.inBlock 0,.code Z2]).finish (.tuple #[.bool bv,vI ev])) cs) w:=by
 obtain⟨s,rfl,h6,_⟩:=Y3 H5 hA
 simp only[H5,h6]
 clear h6
 rw[Frame.finish_at]
 simp only[oC,a0d,pC,T0,Tryd.f15,Option.getD_some,List.size_toArray,List.length_cons,List.length_nil,Nat.reduceAdd,Nat.zero_add,List.range,List.range.loop]
 walk_nrm
 iterate 2 refine oT ?_
 refine oc d07 #[.bool bv,vI ev] ?_
 refine h _ ?_
 exact⟨rfl,rfl,trivial⟩
theorem r0s{ab:Nat}(ha:s9 w ab)(hnh:∀k,¬held F ⟨ab,k,none⟩){ok:Bool}{v:Int}{A:Array Value}(hA:G0 95 A [(6,vP ab 0)]){c:Frame}
 (h:J0 Tryd.prog main F Stop (G (c.finish (.agg #[.bool ok,vI v,.slice none 0 0])) cs) (d09 w ab ok v)):
 J0 Tryd.prog main F Stop (G ((bA 15 A [.inRegion (oC a0d) [9,10],.code .ret,.inBlock 0,.code Z2]).finish (.agg #[.bool ok,vI v,.slice none 0 0])) (c::cs)) w:=by
 obtain⟨s,rfl,h6,_⟩:=Y3 H5 hA
 simp only[H5,h6]
 clear h6
 obtain⟨x0,x1,x2,c0x,c1x,c2x⟩:=ha.c
 have z0:=ha.z 0
 have z1:=ha.z 1
 have z2:=ha.z 2
 rw[Frame.finish_at]
 simp only[oC,a0d,pC,T0,Tryd.f15,Option.getD_some,List.size_toArray,List.length_cons,List.length_nil,Nat.reduceAdd,Nat.zero_add,List.range,List.range.loop]
 walk_nrm
 (refine oW fun dd K hK=>?_;go_simp;refine hK _ _ ⟨⟨⟨0,K6 hnh _ _ _⟩,fun e he=>by(have hm:=mem_listed he;clear he hK;simp[go_sem,storedEv,c0x,c1x,c2x,z0,z1,z2]at hm;rcases hm with rfl|rfl|rfl<;>exact U0 _ _ (hnh _))⟩,?_⟩;clear hK K;simp only[setCell_at'];refine J0.at ?_ dd)
 refine ogE<|ogX ?_
 refine p4 (fn:=Tryd.f15) (v:=.agg #[.bool ok,vI v,.slice none 0 0]) rfl rfl Tryd.func15 (fun d=>by simp[results,Tryd.f15,go_sem,c0x,c1x,c2x,z0,z1,z2]) (fun d e he=>by(simp[results,Tryd.f15,go_sem,c0x,c1x,c2x,z0,z1,z2]at he;rcases he with rfl|rfl|rfl<;>exact I1 _ _)) ?_
 exact h
theorem B0m{nn:Nat}(hU:i2 F nn)(hn:nn≤w.heap.size){xv:Value}{sb:Nat}{a b c0:Int}
 (h:∀A,G0 95 A [(6,vP (w.heap.size+1) 0),(40,xv),(42,.iface 40 (vP sb 0))]→J0 Tryd.prog main F Stop (G (Frame.enter Tryd.prog 44 #[vI a] .normal) ((bA 15 A [.inRegion (oC a0U) [5,6,7,8,9,10],.code .ret,.inBlock 0,.code Z2])::cs)) ((w.alloc (.cells #[vI 3,vI a,vI b,vI c0] 44)).alloc (.cells #[.bool false,vI 0,.slice none 0 0] 49))):
 J0 Tryd.prog main F Stop (G (Frame.enter Tryd.prog 15 #[xv,vP sb 0,.agg #[vI 3,vI a,vI b,vI c0]] .normal) cs) w:=by
 rw[H6]
 walk_nrm
 refine ogW w7 f0e ?_
 simp only[oC,w7,pC,T0,Tryd.f15,Option.getD_some,List.size_toArray,List.length_cons,List.length_nil,Nat.reduceAdd,Nat.zero_add,List.range,List.range.loop]
 iterate 2 refine oA hU ?_
 refine ogE<|ogV f0O Z2<|ogW f8 e07 ?_
 simp only[oC,f8,pC,T0,Tryd.f15,Option.getD_some,List.size_toArray,List.length_cons,List.length_nil,Nat.reduceAdd,Nat.zero_add,List.range,List.range.loop]
 refine oT ?_
 refine oL ?_
 refine ogE ?_
 rw[d0W]
 refine L7<|ogW g8 V8 ?_
 simp only[oC,g8,pC,T0,Tryd.f15,Option.getD_some,List.size_toArray,List.length_cons,List.length_nil,Nat.reduceAdd,Nat.zero_add,List.range,List.range.loop]
 iterate 2 refine oT ?_
 refine ogE<|ogGn h0z<|ogW v9 z9 ?_
 simp only[oC,v9,pC,T0,Tryd.f15,Option.getD_some,List.size_toArray,List.length_cons,List.length_nil,Nat.reduceAdd,Nat.zero_add,List.range,List.range.loop]
 iterate 2 refine oT ?_
 refine ogE<|ogGn j0h<|ogW c0O d05 ?_
 simp only[oC,c0O,pC,T0,Tryd.f15,Option.getD_some,List.size_toArray,List.length_cons,List.length_nil,Nat.reduceAdd,Nat.zero_add,List.range,List.range.loop]
 iterate 2 refine oT ?_
 refine ogE<|ogYn B0c<|ogW a0U .ret ?_
 simp only[oC,a0U,pC,T0,Tryd.f15,Option.getD_some,List.size_toArray,List.length_cons,List.length_nil,Nat.reduceAdd,Nat.zero_add,List.range,List.range.loop]
 iterate 4 refine oT ?_
 refine oL ?_
 refine oc e0h #[vI a] ?_
 refine h _ ?_
 exact⟨rfl,rfl,rfl,rfl,trivial⟩
theorem B0x{ab:Nat}{xv:Value}{sb:Nat}{v:Int}{A:Array Value}(hA:G0 95 A [(6,vP ab 0),(40,xv),(42,.iface 40 (vP sb 0))])
 (h:∀A,G0 95 A [(6,vP ab 0)]→J0 Tryd.prog main F Stop (G (Frame.enter Tryd.prog 20 #[xv,.iface 40 (vP sb 0),vI v] .normal) ((bA 15 A [.inRegion (oC a0U) [6,7,8,9,10],.code .ret,.inBlock 0,.code Z2])::cs)) w):
 J0 Tryd.prog main F Stop (G ((bA 15 A [.inRegion (oC a0U) [5,6,7,8,9,10],.code .ret,.inBlock 0,.code Z2]).finish (vI v)) cs) w:=by
 obtain⟨s,rfl,h6,h40,h42,_⟩:=Y3 H5 hA
 simp only[H5,h6,h40,h42]
 clear h6 h40 h42
 rw[Frame.finish_at]
 simp only[oC,a0U,pC,T0,Tryd.f15,Option.getD_some,List.size_toArray,List.length_cons,List.length_nil,Nat.reduceAdd,Nat.zero_add,List.range,List.range.loop]
 walk_nrm
 refine oc j0o #[xv,.iface 40 (vP sb 0),vI v] ?_
 refine h _ ?_
 exact⟨rfl,rfl,trivial⟩
theorem z0u{ab:Nat}{bv:Bool}{ev:Int}{A:Array Value}(hA:G0 95 A [(6,vP ab 0)])
 (h:∀A,G0 95 A [(6,vP ab 0)]→J0 Tryd.prog main F Stop (G (Frame.enter Tryd.prog 43 #[.bool bv,vI ev] .normal) ((bA 15 A [.inRegion (oC a0U) [9,10],.code .ret,.inBlock 0,.code Z2])::cs)) w):
 J0 Tryd.prog main F Stop (G ((bA 15 A [.inRegion (oC a0U) [6,7,8,9,10],.code .ret,.inBlock 0,.code Z2]).finish (.tuple #[.bool bv,vI ev])) cs) w:=by
 obtain⟨s,rfl,h6,_⟩:=Y3 H5 hA
 simp only[H5,h6]
 clear h6
 rw[Frame.finish_at]
 simp only[oC,a0U,pC,T0,Tryd.f15,Option.getD_some,List.size_toArray,List.length_cons,List.length_nil,Nat.reduceAdd,Nat.zero_add,List.range,List.range.loop]
 walk_nrm
 iterate 2 refine oT ?_
 refine oc d07 #[.bool bv,vI ev] ?_
 refine h _ ?_
 exact⟨rfl,rfl,trivial⟩
theorem r0t{ab:Nat}(ha:s9 w ab)(hnh:∀k,¬held F ⟨ab,k,none⟩){ok:Bool}{v:Int}{A:Array Value}(hA:G0 95 A [(6,vP ab 0)]){c:Frame}
 (h:J0 Tryd.prog main F Stop (G (c.finish (.agg #[.bool ok,vI v,.slice none 0 0])) cs) (d09 w ab ok v)):
 J0 Tryd.prog main F Stop (G ((bA 15 A [.inRegion (oC a0U) [9,10],.code .ret,.inBlock 0,.code Z2]).finish (.agg #[.bool ok,vI v,.slice none 0 0])) (c::cs)) w:=by
 obtain⟨s,rfl,h6,_⟩:=Y3 H5 hA
 simp only[H5,h6]
 clear h6
 obtain⟨x0,x1,x2,c0x,c1x,c2x⟩:=ha.c
 have z0:=ha.z 0
 have z1:=ha.z 1
 have z2:=ha.z 2
 rw[Frame.finish_at]
 simp only[oC,a0U,pC,T0,Tryd.f15,Option.getD_some,List.size_toArray,List.length_cons,List.length_nil,Nat.reduceAdd,Nat.zero_add,List.range,List.range.loop]
 walk_nrm
 (refine oW fun dd K hK=>?_;go_simp;refine hK _ _ ⟨⟨⟨0,K6 hnh _ _ _⟩,fun e he=>by(have hm:=mem_listed he;clear he hK;simp[go_sem,storedEv,c0x,c1x,c2x,z0,z1,z2]at hm;rcases hm with rfl|rfl|rfl<;>exact U0 _ _ (hnh _))⟩,?_⟩;clear hK K;simp only[setCell_at'];refine J0.at ?_ dd)
 refine ogE<|ogX ?_
 refine p4 (fn:=Tryd.f15) (v:=.agg #[.bool ok,vI v,.slice none 0 0]) rfl rfl Tryd.func15 (fun d=>by simp[results,Tryd.f15,go_sem,c0x,c1x,c2x,z0,z1,z2]) (fun d e he=>by(simp[results,Tryd.f15,go_sem,c0x,c1x,c2x,z0,z1,z2]at he;rcases he with rfl|rfl|rfl<;>exact I1 _ _)) ?_
 exact h
theorem B0n{nn:Nat}(hU:i2 F nn)(hn:nn≤w.heap.size){xv:Value}{sb:Nat}{a b c0:Int}
 (h:∀A,G0 95 A [(6,vP (w.heap.size+1) 0)]→J0 Tryd.prog main F Stop (G (Frame.enter Tryd.prog 45 #[xv,.iface 40 (vP sb 0)] .normal) ((bA 15 A [.inRegion (oC h0v) [3,4,5,6,7,8],.code k0k,.inBlock 0,.code Z2])::cs)) ((w.alloc (.cells #[vI 4,vI a,vI b,vI c0] 44)).alloc (.cells #[.bool false,vI 0,.slice none 0 0] 49))):
 J0 Tryd.prog main F Stop (G (Frame.enter Tryd.prog 15 #[xv,vP sb 0,.agg #[vI 4,vI a,vI b,vI c0]] .normal) cs) w:=by
 rw[H6]
 walk_nrm
 refine ogW w7 f0e ?_
 simp only[oC,w7,pC,T0,Tryd.f15,Option.getD_some,List.size_toArray,List.length_cons,List.length_nil,Nat.reduceAdd,Nat.zero_add,List.range,List.range.loop]
 iterate 2 refine oA hU ?_
 refine ogE<|ogV f0O Z2<|ogW f8 e07 ?_
 simp only[oC,f8,pC,T0,Tryd.f15,Option.getD_some,List.size_toArray,List.length_cons,List.length_nil,Nat.reduceAdd,Nat.zero_add,List.range,List.range.loop]
 refine oT ?_
 refine oL ?_
 refine ogE ?_
 rw[d0W]
 refine L7<|ogW g8 V8 ?_
 simp only[oC,g8,pC,T0,Tryd.f15,Option.getD_some,List.size_toArray,List.length_cons,List.length_nil,Nat.reduceAdd,Nat.zero_add,List.range,List.range.loop]
 iterate 2 refine oT ?_
 refine ogE<|ogGn h0z<|ogW v9 z9 ?_
 simp only[oC,v9,pC,T0,Tryd.f15,Option.getD_some,List.size_toArray,List.length_cons,List.length_nil,Nat.reduceAdd,Nat.zero_add,List.range,List.range.loop]
 iterate 2 refine oT ?_
 refine ogE<|ogGn j0h<|ogW c0O d05 ?_
 simp only[oC,c0O,pC,T0,Tryd.f15,Option.getD_some,List.size_toArray,List.length_cons,List.length_nil,Nat.reduceAdd,Nat.zero_add,List.range,List.range.loop]
 iterate 2 refine oT ?_
 refine ogE<|ogGn m0D<|ogW f0M f0m ?_
 simp only[oC,f0M,pC,T0,Tryd.f15,Option.getD_some,List.size_toArray,List.length_cons,List.length_nil,Nat.reduceAdd,Nat.zero_add,List.range,List.range.loop]
 iterate 2 refine oT ?_
 refine ogE<|ogYn y0l<|ogW h0v k0k ?_
 simp only[oC,h0v,pC,T0,Tryd.f15,Option.getD_some,List.size_toArray,List.length_cons,List.length_nil,Nat.reduceAdd,Nat.zero_add,List.range,List.range.loop]
 iterate 3 refine oT ?_
 refine oc j0p #[xv,.iface 40 (vP sb 0)] ?_
 refine h _ ?_
 exact⟨rfl,rfl,trivial⟩
theorem B0o{nn:Nat}(hU:i2 F nn)(hn:nn≤w.heap.size){xv:Value}{sb:Nat}{a b c0:Int}
 (h:∀A,G0 95 A [(6,vP (w.heap.size+1) 0)]→J0 Tryd.prog main F Stop (G (Frame.enter Tryd.prog 46 #[xv,.iface 40 (vP sb 0)] .normal) ((bA 15 A [.inRegion (oC g0P) [3,4,5],.code .ret,.inBlock 0,.code Z2])::cs)) ((w.alloc (.cells #[vI 5,vI a,vI b,vI c0] 44)).alloc (.cells #[.bool false,vI 0,.slice none 0 0] 49))):
 J0 Tryd.prog main F Stop (G (Frame.enter Tryd.prog 15 #[xv,vP sb 0,.agg #[vI 5,vI a,vI b,vI c0]] .normal) cs) w:=by
 rw[H6]
 walk_nrm
 refine ogW w7 f0e ?_
 simp only[oC,w7,pC,T0,Tryd.f15,Option.getD_some,List.size_toArray,List.length_cons,List.length_nil,Nat.reduceAdd,Nat.zero_add,List.range,List.range.loop]
 iterate 2 refine oA hU ?_
 refine ogE<|ogV f0O Z2<|ogW f8 e07 ?_
 simp only[oC,f8,pC,T0,Tryd.f15,Option.getD_some,List.size_toArray,List.length_cons,List.length_nil,Nat.reduceAdd,Nat.zero_add,List.range,List.range.loop]
 refine oT ?_
 refine oL ?_
 refine ogE ?_
 rw[d0W]
 refine L7<|ogW g8 V8 ?_
 simp only[oC,g8,pC,T0,Tryd.f15,Option.getD_some,List.size_toArray,List.length_cons,List.length_nil,Nat.reduceAdd,Nat.zero_add,List.range,List.range.loop]
 iterate 2 refine oT ?_
 refine ogE<|ogGn h0z<|ogW v9 z9 ?_
 simp only[oC,v9,pC,T0,Tryd.f15,Option.getD_some,List.size_toArray,List.length_cons,List.length_nil,Nat.reduceAdd,Nat.zero_add,List.range,List.range.loop]
 iterate 2 refine oT ?_
 refine ogE<|ogGn j0h<|ogW c0O d05 ?_
 simp only[oC,c0O,pC,T0,Tryd.f15,Option.getD_some,List.size_toArray,List.length_cons,List.length_nil,Nat.reduceAdd,Nat.zero_add,List.range,List.range.loop]
 iterate 2 refine oT ?_
 refine ogE<|ogGn m0D<|ogW f0M f0m ?_
 simp only[oC,f0M,pC,T0,Tryd.f15,Option.getD_some,List.size_toArray,List.length_cons,List.length_nil,Nat.reduceAdd,Nat.zero_add,List.range,List.range.loop]
 iterate 2 refine oT ?_
 refine ogE<|ogGn l0n<|ogW f0n g0y ?_
 simp only[oC,f0n,pC,T0,Tryd.f15,Option.getD_some,List.size_toArray,List.length_cons,List.length_nil,Nat.reduceAdd,Nat.zero_add,List.range,List.range.loop]
 iterate 2 refine oT ?_
 refine ogE<|ogYn A0T<|ogW g0P .ret ?_
 simp only[oC,g0P,pC,T0,Tryd.f15,Option.getD_some,List.size_toArray,List.length_cons,List.length_nil,Nat.reduceAdd,Nat.zero_add,List.range,List.range.loop]
 iterate 3 refine oT ?_
 refine oc j0q #[xv,.iface 40 (vP sb 0)] ?_
 refine h _ ?_
 exact⟨rfl,rfl,trivial⟩
theorem B0p{nn:Nat}(hU:i2 F nn)(hn:nn≤w.heap.size){xv:Value}{sb:Nat}{a b c0:Int}
 (h:∀A,G0 95 A [(6,vP (w.heap.size+1) 0),(9,.slice none 0 0)]→J0 Tryd.prog main F Stop (G (Frame.enter Tryd.prog 30 #[xv,.iface 40 (vP sb 0)] .normal) ((bA 15 A [.inRegion (oC g0T) [3,4],.code h0w,.inBlock 0,.code Z2])::cs)) ((w.alloc (.cells #[vI 6,vI a,vI b,vI c0] 44)).alloc (.cells #[.bool false,vI 0,.slice none 0 0] 49))):
 J0 Tryd.prog main F Stop (G (Frame.enter Tryd.prog 15 #[xv,vP sb 0,.agg #[vI 6,vI a,vI b,vI c0]] .normal) cs) w:=by
 rw[H6]
 walk_nrm
 refine ogW w7 f0e ?_
 simp only[oC,w7,pC,T0,Tryd.f15,Option.getD_some,List.size_toArray,List.length_cons,List.length_nil,Nat.reduceAdd,Nat.zero_add,List.range,List.range.loop]
 iterate 2 refine oA hU ?_
 refine ogE<|ogV f0O Z2<|ogW f8 e07 ?_
 simp only[oC,f8,pC,T0,Tryd.f15,Option.getD_some,List.size_toArray,List.length_cons,List.length_nil,Nat.reduceAdd,Nat.zero_add,List.range,List.range.loop]
 refine oT ?_
 refine oL ?_
 refine ogE ?_
 rw[d0W]
 refine L7<|ogW g8 V8 ?_
 simp only[oC,g8,pC,T0,Tryd.f15,Option.getD_some,List.size_toArray,List.length_cons,List.length_nil,Nat.reduceAdd,Nat.zero_add,List.range,List.range.loop]
 iterate 2 refine oT ?_
 refine ogE<|ogGn h0z<|ogW v9 z9 ?_
 simp only[oC,v9,pC,T0,Tryd.f15,Option.getD_some,List.size_toArray,List.length_cons,List.length_nil,Nat.reduceAdd,Nat.zero_add,List.range,List.range.loop]
 iterate 2 refine oT ?_
 refine ogE<|ogGn j0h<|ogW c0O d05 ?_
 simp only[oC,c0O,pC,T0,Tryd.f15,Option.getD_some,List.size_toArray,List.length_cons,List.length_nil,Nat.reduceAdd,Nat.zero_add,List.range,List.range.loop]
 iterate 2 refine oT ?_
 refine ogE<|ogGn m0D<|ogW f0M f0m ?_
 simp only[oC,f0M,pC,T0,Tryd.f15,Option.getD_some,List.size_toArray,List.length_cons,List.length_nil,Nat.reduceAdd,Nat.zero_add,List.range,List.range.loop]
 iterate 2 refine oT ?_
 refine ogE<|ogGn l0n<|ogW f0n g0y ?_
 simp only[oC,f0n,pC,T0,Tryd.f15,Option.getD_some,List.size_toArray,List.length_cons,List.length_nil,Nat.reduceAdd,Nat.zero_add,List.range,List.range.loop]
 iterate 2 refine oT ?_
 refine ogE<|ogGn m0Z<|ogW j08 m0X ?_
 simp only[oC,j08,pC,T0,Tryd.f15,Option.getD_some,List.size_toArray,List.length_cons,List.length_nil,Nat.reduceAdd,Nat.zero_add,List.range,List.range.loop]
 iterate 2 refine oT ?_
 refine ogE<|ogYn y0m<|ogW w0B y0n ?_
 simp only[oC,w0B,pC,T0,Tryd.f15,Option.getD_some,List.size_toArray,List.length_cons,List.length_nil,Nat.reduceAdd,Nat.zero_add,List.range,List.range.loop]
 refine oT ?_
 refine ogE<|ogW g0T h0w ?_
 simp only[oC,g0T,pC,T0,Tryd.f15,Option.getD_some,List.size_toArray,List.length_cons,List.length_nil,Nat.reduceAdd,Nat.zero_add,List.range,List.range.loop]
 iterate 3 refine oT ?_
 refine oc c0a #[xv,.iface 40 (vP sb 0)] ?_
 refine h _ ?_
 exact⟨rfl,rfl,rfl,trivial⟩
theorem A0Z{ab:Nat}(ha:s9 w ab)(hnh:∀k,¬held F ⟨ab,k,none⟩){v:Int}{A:Array Value}(hA:G0 95 A [(6,vP ab 0)]){c:Frame}
 (h:J0 Tryd.prog main F Stop (G (c.finish (.agg #[.bool true,vI v,.slice none 0 0])) cs) (d09 w ab true v)):
 J0 Tryd.prog main F Stop (G ((bA 15 A [.inRegion (oC h0v) [3,4,5,6,7,8],.code k0k,.inBlock 0,.code Z2]).finish (.tuple #[vI v,vI 0])) (c::cs)) w:=by
 obtain⟨s,rfl,h6,_⟩:=Y3 H5 hA
 simp only[H5,h6]
 clear h6
 obtain⟨x0,x1,x2,c0x,c1x,c2x⟩:=ha.c
 have z0:=ha.z 0
 have z1:=ha.z 1
 have z2:=ha.z 2
 rw[Frame.finish_at]
 simp only[oC,h0v,pC,T0,Tryd.f15,Option.getD_some,List.size_toArray,List.length_cons,List.length_nil,Nat.reduceAdd,Nat.zero_add,List.range,List.range.loop]
 walk_nrm
 iterate 5 refine oT ?_
 refine ogE<|ogW j06 .ret ?_
 simp only[oC,j06,pC,T0,Tryd.f15,Option.getD_some,List.size_toArray,List.length_cons,List.length_nil,Nat.reduceAdd,Nat.zero_add,List.range,List.range.loop]
 iterate 4 refine oT ?_
 (refine oW fun dd K hK=>?_;go_simp;refine hK _ _ ⟨⟨⟨0,K6 hnh _ _ _⟩,fun e he=>by(have hm:=mem_listed he;clear he hK;simp[go_sem,storedEv,c0x,c1x,c2x,z0,z1,z2]at hm;rcases hm with rfl|rfl|rfl<;>exact U0 _ _ (hnh _))⟩,?_⟩;clear hK K;simp only[setCell_at'];refine J0.at ?_ dd)
 refine ogE<|ogX ?_
 refine p4 (fn:=Tryd.f15) (v:=.agg #[.bool true,vI v,.slice none 0 0]) rfl rfl Tryd.func15 (fun d=>by simp[results,Tryd.f15,go_sem,c0x,c1x,c2x,z0,z1,z2]) (fun d e he=>by(simp[results,Tryd.f15,go_sem,c0x,c1x,c2x,z0,z1,z2]at he;rcases he with rfl|rfl|rfl<;>exact I1 _ _)) ?_
 exact h
theorem z0r{ab:Nat}(ha:s9 w ab)(hnh:∀k,¬held F ⟨ab,k,none⟩){v:Int}{A:Array Value}(hA:G0 95 A [(6,vP ab 0)]){c:Frame}
 (h:J0 Tryd.prog main F Stop (G (c.finish (.agg #[.bool false,vI v,.slice none 0 0])) cs) (d09 w ab false v)):
 J0 Tryd.prog main F Stop (G ((bA 15 A [.inRegion (oC h0v) [3,4,5,6,7,8],.code k0k,.inBlock 0,.code Z2]).finish (.tuple #[vI v,vI 3])) (c::cs)) w:=by
 obtain⟨s,rfl,h6,_⟩:=Y3 H5 hA
 simp only[H5,h6]
 clear h6
 obtain⟨x0,x1,x2,c0x,c1x,c2x⟩:=ha.c
 have z0:=ha.z 0
 have z1:=ha.z 1
 have z2:=ha.z 2
 rw[Frame.finish_at]
 simp only[oC,h0v,pC,T0,Tryd.f15,Option.getD_some,List.size_toArray,List.length_cons,List.length_nil,Nat.reduceAdd,Nat.zero_add,List.range,List.range.loop]
 walk_nrm
 iterate 5 refine oT ?_
 refine ogE<|ogW j06 .ret ?_
 simp only[oC,j06,pC,T0,Tryd.f15,Option.getD_some,List.size_toArray,List.length_cons,List.length_nil,Nat.reduceAdd,Nat.zero_add,List.range,List.range.loop]
 iterate 4 refine oT ?_
 (refine oW fun dd K hK=>?_;go_simp;refine hK _ _ ⟨⟨⟨0,K6 hnh _ _ _⟩,fun e he=>by(have hm:=mem_listed he;clear he hK;simp[go_sem,storedEv,c0x,c1x,c2x,z0,z1,z2]at hm;rcases hm with rfl|rfl|rfl<;>exact U0 _ _ (hnh _))⟩,?_⟩;clear hK K;simp only[setCell_at'];refine J0.at ?_ dd)
 refine ogE<|ogX ?_
 refine p4 (fn:=Tryd.f15) (v:=.agg #[.bool false,vI v,.slice none 0 0]) rfl rfl Tryd.func15 (fun d=>by simp[results,Tryd.f15,go_sem,c0x,c1x,c2x,z0,z1,z2]) (fun d e he=>by(simp[results,Tryd.f15,go_sem,c0x,c1x,c2x,z0,z1,z2]at he;rcases he with rfl|rfl|rfl<;>exact I1 _ _)) ?_
 exact h
theorem B0z{ab:Nat}(ha:s9 w ab)(hnh:∀k,¬held F ⟨ab,k,none⟩){v:Int}{A:Array Value}(hA:G0 95 A [(6,vP ab 0)]){c:Frame}
 (h:J0 Tryd.prog main F Stop (G (c.finish (.agg #[.bool true,vI v,.slice none 0 0])) cs) (d09 w ab true v)):
 J0 Tryd.prog main F Stop (G ((bA 15 A [.inRegion (oC g0P) [3,4,5],.code .ret,.inBlock 0,.code Z2]).finish (vI v)) (c::cs)) w:=by
 obtain⟨s,rfl,h6,_⟩:=Y3 H5 hA
 simp only[H5,h6]
 clear h6
 obtain⟨x0,x1,x2,c0x,c1x,c2x⟩:=ha.c
 have z0:=ha.z 0
 have z1:=ha.z 1
 have z2:=ha.z 2
 rw[Frame.finish_at]
 simp only[oC,g0P,pC,T0,Tryd.f15,Option.getD_some,List.size_toArray,List.length_cons,List.length_nil,Nat.reduceAdd,Nat.zero_add,List.range,List.range.loop]
 walk_nrm
 refine oT ?_
 (refine oW fun dd K hK=>?_;go_simp;refine hK _ _ ⟨⟨⟨0,K6 hnh _ _ _⟩,fun e he=>by(have hm:=mem_listed he;clear he hK;simp[go_sem,storedEv,c0x,c1x,c2x,z0,z1,z2]at hm;rcases hm with rfl|rfl|rfl<;>exact U0 _ _ (hnh _))⟩,?_⟩;clear hK K;simp only[setCell_at'];refine J0.at ?_ dd)
 refine ogE<|ogX ?_
 refine p4 (fn:=Tryd.f15) (v:=.agg #[.bool true,vI v,.slice none 0 0]) rfl rfl Tryd.func15 (fun d=>by simp[results,Tryd.f15,go_sem,c0x,c1x,c2x,z0,z1,z2]) (fun d e he=>by(simp[results,Tryd.f15,go_sem,c0x,c1x,c2x,z0,z1,z2]at he;rcases he with rfl|rfl|rfl<;>exact I1 _ _)) ?_
 exact h
theorem B0A{ab:Nat}{la:Option Addr}{ll lc:Nat}{A:Array Value}(hA:G0 95 A [(6,vP ab 0),(9,.slice none 0 0)])
 (h:∀A,G0 95 A [(6,vP ab 0),(9,.slice none 0 0),(10,.slice la ll lc),(11,vI (0:Nat))]→J0 Tryd.prog main F Stop (G (bA 15 A [.inRegion (oC w6) [0,1,2,3],.code g9,.code s8,.inLoop p8,.inBlock 1,.code a04,.inBlock 0,.code Z2]) cs) w):
 J0 Tryd.prog main F Stop (G ((bA 15 A [.inRegion (oC g0T) [3,4],.code h0w,.inBlock 0,.code Z2]).finish (.slice la ll lc)) cs) w:=by
 obtain⟨s,rfl,h6,h9,_⟩:=Y3 H5 hA
 simp only[H5,h6,h9]
 clear h6 h9
 rw[Frame.finish_at]
 simp only[oC,g0T,pC,T0,Tryd.f15,Option.getD_some,List.size_toArray,List.length_cons,List.length_nil,Nat.reduceAdd,Nat.zero_add,List.range,List.range.loop]
 walk_nrm
 refine oT ?_
 refine ogE<|ogV y0o a04<|ogW x0v v0W ?_
 simp only[oC,x0v,pC,T0,Tryd.f15,Option.getD_some,List.size_toArray,List.length_cons,List.length_nil,Nat.reduceAdd,Nat.zero_add,List.range,List.range.loop]
 refine oT ?_
 refine ogE ?_
 rw[A0R]
 refine L7 ?_
 rw[z0T]
 refine ogP<|ogV m00 s8<|ogW w6 g9 ?_
 simp only[oC,w6,pC,T0,Tryd.f15,Option.getD_some,List.size_toArray,List.length_cons,List.length_nil,Nat.reduceAdd,Nat.zero_add,List.range,List.range.loop]
 refine h _ ?_
 exact⟨rfl,rfl,rfl,rfl,rfl,trivial⟩
theorem C0o{ab:Nat}(ha:s9 w ab)(hnh:∀k,¬held F ⟨ab,k,none⟩){la va:Option Addr}{ll lc vl vc:Nat}{A:Array Value}(hA:G0 95 A [(6,vP ab 0),(9,.slice va vl vc),(10,.slice la ll lc),(11,vI (ll:Nat))]){c:Frame}
 (h:J0 Tryd.prog main F Stop (G (c.finish (.agg #[.bool true,vI 0,.slice va vl vc])) cs) (m08 w ab true (.slice va vl vc))):
 J0 Tryd.prog main F Stop (G (bA 15 A [.inRegion (oC w6) [0,1,2,3],.code g9,.code s8,.inLoop p8,.inBlock 1,.code a04,.inBlock 0,.code Z2]) (c::cs)) w:=by
 obtain⟨s,rfl,h6,h9,h10,h11,_⟩:=Y3 H5 hA
 simp only[H5,h6,h9,h10,h11]
 clear h6 h9 h10 h11
 obtain⟨x0,x1,x2,c0x,c1x,c2x⟩:=ha.c
 have z0:=ha.z 0
 have z1:=ha.z 1
 have z2:=ha.z 2
 have hd:decide ((ll:Int)<(ll:Int))=false:=by simp
 have hd2:decide (ll<ll)=false:=by simp
 simp only[oC,w6,pC,T0,Tryd.f15,Option.getD_some,List.size_toArray,List.length_cons,List.length_nil,Nat.reduceAdd,Nat.zero_add,List.range,List.range.loop]
 iterate 4 refine oT ?_
 refine ogE<|ogGn (.exit 1) ?_
 refine M0 rfl (fun d=>stepG_exit rfl) ?_
 refine ogW y0j .ret ?_
 simp only[oC,y0j,pC,T0,Tryd.f15,Option.getD_some,List.size_toArray,List.length_cons,List.length_nil,Nat.reduceAdd,Nat.zero_add,List.range,List.range.loop]
 iterate 2 refine oT ?_
 (refine oW fun dd K hK=>?_;go_simp;refine hK _ _ ⟨⟨⟨0,K6 hnh _ _ _⟩,fun e he=>by(have hm:=mem_listed he;clear he hK;simp[go_sem,storedEv,c0x,c1x,c2x,z0,z1,z2]at hm;rcases hm with rfl|rfl|rfl<;>exact U0 _ _ (hnh _))⟩,?_⟩;clear hK K;simp only[setCell_at'];refine J0.at ?_ dd)
 refine ogE<|ogX ?_
 refine p4 (fn:=Tryd.f15) (v:=.agg #[.bool true,vI 0,.slice va vl vc]) rfl rfl Tryd.func15 (fun d=>by simp[results,Tryd.f15,go_sem,c0x,c1x,c2x,z0,z1,z2]) (fun d e he=>by(simp[results,Tryd.f15,go_sem,c0x,c1x,c2x,z0,z1,z2]at he;rcases he with rfl|rfl|rfl<;>exact I1 _ _)) ?_
 exact h
theorem B0j{nn:Nat}(hU:i2 F nn)(hn:nn≤w.heap.size){xv:Value}{sb:Nat}{a b c0:Int}{kd:Int}(k1:(kd == 1)=false)(k2:(kd == 2)=false)(k3:(kd == 3)=false)(k4:(kd == 4)=false)(k5:(kd == 5)=false)(k6:(kd == 6)=false){c:Frame}
 (h:∀w',w'.heap.size=w.heap.size+2→(∀r,r<w.heap.size→w'.heap[r]? =w.heap[r]?)→J0 Tryd.prog main F Stop (G (c.finish (.agg #[.bool false,vI 0,.slice none 0 0])) cs) w'):
 J0 Tryd.prog main F Stop (G (Frame.enter Tryd.prog 15 #[xv,vP sb 0,.agg #[vI kd,vI a,vI b,vI c0]] .normal) (c::cs)) w:=by
 rw[H6]
 walk_nrm
 refine ogW w7 f0e ?_
 simp only[oC,w7,pC,T0,Tryd.f15,Option.getD_some,List.size_toArray,List.length_cons,List.length_nil,Nat.reduceAdd,Nat.zero_add,List.range,List.range.loop]
 iterate 2 refine oA hU ?_
 refine ogE<|ogV f0O Z2<|ogW f8 e07 ?_
 simp only[oC,f8,pC,T0,Tryd.f15,Option.getD_some,List.size_toArray,List.length_cons,List.length_nil,Nat.reduceAdd,Nat.zero_add,List.range,List.range.loop]
 refine oT ?_
 refine oL ?_
 refine ogE ?_
 rw[d0W]
 refine L7<|ogW g8 V8 ?_
 simp only[oC,g8,pC,T0,Tryd.f15,Option.getD_some,List.size_toArray,List.length_cons,List.length_nil,Nat.reduceAdd,Nat.zero_add,List.range,List.range.loop]
 iterate 2 refine oT ?_
 refine ogE<|ogGn h0z<|ogW v9 z9 ?_
 simp only[oC,v9,pC,T0,Tryd.f15,Option.getD_some,List.size_toArray,List.length_cons,List.length_nil,Nat.reduceAdd,Nat.zero_add,List.range,List.range.loop]
 iterate 2 refine oT ?_
 refine ogE<|ogGn j0h<|ogW c0O d05 ?_
 simp only[oC,c0O,pC,T0,Tryd.f15,Option.getD_some,List.size_toArray,List.length_cons,List.length_nil,Nat.reduceAdd,Nat.zero_add,List.range,List.range.loop]
 iterate 2 refine oT ?_
 refine ogE<|ogGn m0D<|ogW f0M f0m ?_
 simp only[oC,f0M,pC,T0,Tryd.f15,Option.getD_some,List.size_toArray,List.length_cons,List.length_nil,Nat.reduceAdd,Nat.zero_add,List.range,List.range.loop]
 iterate 2 refine oT ?_
 refine ogE<|ogGn l0n<|ogW f0n g0y ?_
 simp only[oC,f0n,pC,T0,Tryd.f15,Option.getD_some,List.size_toArray,List.length_cons,List.length_nil,Nat.reduceAdd,Nat.zero_add,List.range,List.range.loop]
 iterate 2 refine oT ?_
 refine ogE<|ogGn m0Z<|ogW j08 m0X ?_
 simp only[oC,j08,pC,T0,Tryd.f15,Option.getD_some,List.size_toArray,List.length_cons,List.length_nil,Nat.reduceAdd,Nat.zero_add,List.range,List.range.loop]
 iterate 2 refine oT ?_
 refine ogE<|ogGn .skip<|ogK<|ogI<|ogW y0k .ret ?_
 simp only[oC,y0k,pC,T0,Tryd.f15,Option.getD_some,List.size_toArray,List.length_cons,List.length_nil,Nat.reduceAdd,Nat.zero_add,List.range,List.range.loop]
 refine oT ?_
 (refine oW fun dd K hK=>?_;go_simp;refine hK _ _ ⟨⟨⟨0,K6 (fun k=>O4 hU (show nn≤w.heap.size+1 by omega)) _ _ _⟩,fun e he=>by(have hm:=mem_listed he;clear he hK;simp[go_sem,storedEv]at hm;rcases hm with rfl|rfl|rfl<;>exact U0 _ _ ((fun k=>O4 hU (show nn≤w.heap.size+1 by omega)) _))⟩,?_⟩;clear hK K;simp only[setCell_at'];refine J0.at ?_ dd)
 refine ogE<|ogX ?_
 refine p4 (fn:=Tryd.f15) (v:=.agg #[.bool false,vI 0,.slice none 0 0]) rfl rfl Tryd.func15 (fun d=>by simp[results,Tryd.f15,go_sem]) (fun d e he=>by(simp[results,Tryd.f15,go_sem]at he;rcases he with rfl|rfl|rfl<;>exact I1 _ _)) ?_
 refine h _ (by simp) (fun r h1=>?_)
 rw[o0 _ _ _ (by simp;omega),o0 _ _ _ (by simp;omega),o0 _ _ _ (by simp;omega),D0 _ _ (by simp;omega),D0 _ _ h1]
end
noncomputable section
variable {cs:List Frame}{main:Bool}{Stop:Goroutine→World→Prop}
variable{F:Fz}{w:World}
def F4:Code:=Tryd.f53.body.getD .skip
def E0m:=pC [] F4
def A0v:=pC [zt] F4
def A0E:=pC [zf] F4
def A0w:=pC [zf,zt] F4
def s0d:=pC [zf] A0E
def A0x:=pC [zf,zf,zt] F4
def A0F:=pC [zf] s0d
def A0y:=pC [zf,zf,zf,zt] F4
def x0c:=pC [zf] A0F
def A0G:=pC [zt] x0c
def A0z:=pC [zf,zf,zf,zf,zt,zt] F4
def w08:=pC [zf] A0G
def x0a:=pC [zt] w08
def c0q:=pC [zt] x0a
def s0c:=pC [zf,zf,zf,zf,zt,zf,zt,zt,zt] F4
def s0e:=pC [zf] c0q
def u0E:=pC [zt] s0e
def x0d:=pC [zf] s0e
def w09:=pC [zt] x0d
def u0F:=pC [zt] w09
def A0A:=pC [zf,zf,zf,zf,zt,zf,zt,zt,zf,zf,zt,zt,zt] F4
def u0G:=pC [zf] u0F
def i0E:=pC [zf,zf,zf,zf,zt,zf,zt,zt,zf,zf,zt,zt,zf,zt] F4
def o0R:=pC [zf,zf,zf,zf,zt,zf,zt,zt,zf,zf,zt,zt,zf,zf] F4
def m05:=pC [zf,zf,zf,zf,zt,zf,zt,zt,zf,zf,zf] F4
def d0o:=pC [zf] x0c
def c0p:=pC [zf,zf,zf,zf,zf,zt] F4
theorem A0s:w08= .block 0 x0a:=by kernel_rfl
theorem A0u:x0a= .loop c0q:=by kernel_rfl
theorem A0t:w09= .block 1 u0F:=by kernel_rfl
theorem A0B:i0E= .region 7 (oC i0E) true:=by kernel_rfl
theorem A0C:o0R= .region 8 (oC o0R) false:=by kernel_rfl
theorem A0D:m05= .region 9 (oC m05) false:=by kernel_rfl
theorem x0b:c0p= .region 10 (oC c0p) true:=by kernel_rfl
theorem o0V(args:Array Value):Frame.enter Tryd.prog 53 args .normal=(Go.Conc.base 53).at {tmps:=args++Array.replicate (38 - args.size) undef,defers:=[]} [.code E0m]:=enter_at args Tryd.func53 rfl
theorem a0a:O1 53:=G2 Tryd.func53 rfl rfl
def diT(s:Nat→Value):Array Value:= #[s 0,s 1,s 2,s 3,s 4,s 5,s 6,s 7,s 8,s 9,s 10,s 11,s 12,s 13,s 14,s 15,s 16,s 17,s 18,s 19,s 20,s 21,s 22,s 23,s 24,s 25,s 26,s 27,s 28,s 29,s 30,s 31,s 32,s 33,s 34,s 35,s 36,s 37]
theorem E0e{A:Array Value}(h:A.size=38):∃s,A=diT s:=by
 obtain⟨s,hs,_⟩:=Y4 A h
 exact⟨s,hs⟩
theorem p0m:∃i,Tryd.prog.info? 55=some i∧i.zero=some (.slice none 0 0)∧i.size=1∧i.bytes=24:=by
 have h:(Tryd.prog.info? 55).map (fun i=>(i.size,i.bytes))=some (1,24):=by kernel_rfl
 have h0:(Tryd.prog.info? 55).bind (·.zero)=some (.slice none 0 0):=by kernel_rfl
 obtain⟨i,hi,h1⟩:=Option.map_eq_some_iff.1 h
 rw[hi]at h0
 simp only[Prod.mk.injEq]at h1
 exact⟨i,hi,h0,h1.1,h1.2⟩
section
variable{n:Nat}{es:Array Event}
@[go_sem] theorem v0Y(h:n≤64):(Instr.makeSlice 27 (vI n) (vI n)).run Tryd.prog w= .ok (vL w.heap.size 0 n n) (w.alloc (.cells (madeCells #[.slice none 0 0] n) 55)):=by
 obtain⟨i,hi,hz,hs,hb⟩:=p0m
 have:=run_make (P:=Tryd.prog) w 27 55 i (.slice none 0 0) Tryd.underlying27 hi hz .i64 .i64 n n (by omega) (by omega) (by rw[hb];omega) (by omega)
 rw[hs]at this
 simpa [Value.cells]using this
@[go_sem] theorem j0A(h:n≤64):(Instr.makeSlice 27 (vI n) (vI n)).events Tryd.prog w es=es:=by
 obtain⟨i,hi,hz,hs,hb⟩:=p0m
 exact events_make (P:=Tryd.prog) w 27 55 i (.slice none 0 0) Tryd.underlying27 hi hz .i64 .i64 n n (by omega) (by omega) (by rw[hb];omega) (by omega) (by rw[hb];omega) es
end
theorem n04(X:World)(u v:Value):(X.alloc (.cells #[u] 27)).setCell ⟨X.heap.size,0,none⟩ v=X.alloc (.cells #[v] 27):=by go_simp
theorem E0f{nn:Nat}(hU:i2 F nn)(hn:nn≤w.heap.size){ta:Option Addr}{tl tc n df:Nat}{first capt:Array Value}(hn1:min tl 64=n)
 (h:∀A,G0 38 A [(0,.slice ta tl tc),(3,vP w.heap.size 0),(6,vI n)]→J0 Tryd.prog main F Stop (G (bA 53 A [.code s0d]) cs) (w.alloc (.cells #[.func (.func df) first capt] 74))):
 J0 Tryd.prog main F Stop (G (Frame.enter Tryd.prog 53 #[.slice ta tl tc,.func (.func df) first capt] .normal) cs) w:=by
 have hn2:(if(64:Int)<(tl:Int)then(64:Int)else tl)=(n:Int):=by split<;>omega
 rw[o0V]
 walk_nrm
 refine ogW A0v A0E ?_
 simp only[oC,A0v,pC,F4,Tryd.f53,Option.getD_some,List.size_toArray,List.length_cons,List.length_nil,Nat.reduceAdd,Nat.zero_add,List.range,List.range.loop]
 refine oA hU ?_
 iterate 2 refine oT ?_
 refine ogE<|ogW A0w s0d ?_
 simp only[oC,A0w,pC,F4,Tryd.f53,Option.getD_some,List.size_toArray,List.length_cons,List.length_nil,Nat.reduceAdd,Nat.zero_add,List.range,List.range.loop]
 iterate 4 refine oT ?_
 refine ogE ?_
 refine h _ ?_
 exact⟨rfl,rfl,rfl,rfl,trivial⟩
theorem E0g{nn:Nat}(hU:i2 F nn)(hn:nn≤w.heap.size){ta:Option Addr}{tl tc n db:Nat}(hn64:n≤64){A:Array Value}(hA:G0 38 A [(0,.slice ta tl tc),(3,vP db 0),(6,vI n)])
 (h:∀A,G0 38 A [(0,.slice ta tl tc),(3,vP db 0),(6,vI n),(7,vP (w.heap.size+1) 0),(8,.slice none 0 0),(16,vI n),(17,vI (0:Nat))]→J0 Tryd.prog main F Stop (G (bA 53 A [.code c0q,.inLoop c0q,.inBlock 0,.code d0o]) cs) ((w.alloc (.cells (madeCells #[.slice none 0 0] n) 55)).alloc (.cells #[vL w.heap.size 0 n n] 27))):
 J0 Tryd.prog main F Stop (G (bA 53 A [.code s0d]) cs) w:=by
 obtain⟨s,rfl,h0,h3,h6,_⟩:=Y3 diT hA
 simp only[diT,h0,h3,h6]
 clear h0 h3 h6
 refine ogW A0x A0F ?_
 simp only[oC,A0x,pC,F4,Tryd.f53,Option.getD_some,List.size_toArray,List.length_cons,List.length_nil,Nat.reduceAdd,Nat.zero_add,List.range,List.range.loop]
 refine oT ?_
 (refine oW fun dd K hK=>?_;go_simp;refine hK _ _ ⟨⟨⟨0,Y0 hU (by first|(simp[go_sem];done)|(simp[go_sem];omega)) _⟩,fun e he=>by(have hm:=mem_listed he;clear he hK;simp[go_sem,storedEv,j0A hn64]at hm)⟩,?_⟩;clear hK K;rw[alloc_at'];refine J0.at ?_ dd)
 refine oA hU ?_
 (refine oW fun dd K hK=>?_;go_simp;refine qS hK hU ?_;clear hK K)
 have e1:=n04 (w.alloc (.cells (madeCells #[.slice none 0 0] n) 55)) (.slice none 0 0) (vL w.heap.size 0 n n)
 simp only[World.size_alloc]at e1
 rw[e1]
 clear e1
 refine ogE<|ogW A0y x0c ?_
 simp only[oC,A0y,pC,F4,Tryd.f53,Option.getD_some,List.size_toArray,List.length_cons,List.length_nil,Nat.reduceAdd,Nat.zero_add,List.range,List.range.loop]
 refine oT ?_
 refine ogE<|ogV A0G d0o<|ogW A0z w08 ?_
 simp only[oC,A0z,pC,F4,Tryd.f53,Option.getD_some,List.size_toArray,List.length_cons,List.length_nil,Nat.reduceAdd,Nat.zero_add,List.range,List.range.loop]
 iterate 2 refine oT ?_
 refine ogE ?_
 rw[A0s]
 refine L7 ?_
 rw[A0u]
 refine ogP ?_
 refine h _ ?_
 exact⟨rfl,rfl,rfl,rfl,rfl,rfl,rfl,rfl,trivial⟩
theorem E0k{ta:Option Addr}{tl tc n db av:Nat}{l:Value}{A:Array Value}(hA:G0 38 A [(0,.slice ta tl tc),(3,vP db 0),(6,vI n),(7,vP av 0),(8,l),(16,vI n),(17,vI n)])
 (h:∀A,G0 38 A [(0,.slice ta tl tc),(3,vP db 0),(6,vI n),(7,vP av 0),(8,l),(16,vI n),(17,vI n)]→J0 Tryd.prog main F Stop (G (bA 53 A [.code c0p,.code .ret]) cs) w):
 J0 Tryd.prog main F Stop (G (bA 53 A [.code c0q,.inLoop c0q,.inBlock 0,.code d0o]) cs) w:=by
 obtain⟨s,rfl,h0,h3,h6,h7,h8,h16,h17,_⟩:=Y3 diT hA
 simp only[diT,h0,h3,h6,h7,h8,h16,h17]
 clear h0 h3 h6 h7 h8 h16 h17
 have hlt:decide ((n:Int)<(n:Int))=false:=by simp
 refine ogW s0c s0e ?_
 simp only[oC,s0c,pC,F4,Tryd.f53,Option.getD_some,List.size_toArray,List.length_cons,List.length_nil,Nat.reduceAdd,Nat.zero_add,List.range,List.range.loop]
 refine oT ?_
 refine ogE<|ogV u0E x0d<|ogGn (.exit 0) ?_
 refine M0 rfl (fun d=>stepG_exit rfl) ?_
 refine ogV c0p .ret ?_
 refine h _ ?_
 exact⟨rfl,rfl,rfl,rfl,rfl,rfl,rfl,rfl,trivial⟩
theorem E0h{nn:Nat}(hU:i2 F nn)(hn:nn≤w.heap.size){ta:Option Addr}{tl tc n db av k:Nat}{l:Value}(hk:k<n){A:Array Value}(hA:G0 38 A [(0,.slice ta tl tc),(3,vP db 0),(6,vI n),(7,vP av 0),(8,l),(16,vI n),(17,vI k)])
 (h:∀A,G0 38 A ((9,vP w.heap.size 0)::[(0,.slice ta tl tc),(3,vP db 0),(6,vI n),(7,vP av 0),(8,l),(16,vI n),(17,vI k)])→J0 Tryd.prog main F Stop (G (bA 53 A [.code u0G,.inBlock 1,.code m05,.inLoop c0q,.inBlock 0,.code d0o]) cs) (w.alloc (.cells #[vI k] 3))):
 J0 Tryd.prog main F Stop (G (bA 53 A [.code c0q,.inLoop c0q,.inBlock 0,.code d0o]) cs) w:=by
 obtain⟨s,rfl,h0,h3,h6,h7,h8,h16,h17,_⟩:=Y3 diT hA
 simp only[diT,h0,h3,h6,h7,h8,h16,h17]
 clear h0 h3 h6 h7 h8 h16 h17
 have hlt:decide ((k:Int)<(n:Int))=true:=by simp;omega
 have hlt2:decide (k<n)=true:=by simp;omega
 refine ogW s0c s0e ?_
 simp only[oC,s0c,pC,F4,Tryd.f53,Option.getD_some,List.size_toArray,List.length_cons,List.length_nil,Nat.reduceAdd,Nat.zero_add,List.range,List.range.loop]
 refine oT ?_
 refine ogE<|ogV u0E x0d<|ogYn .skip<|ogK<|ogV w09 m05 ?_
 rw[A0t]
 refine L7<|ogW A0A u0G ?_
 simp only[oC,A0A,pC,F4,Tryd.f53,Option.getD_some,List.size_toArray,List.length_cons,List.length_nil,Nat.reduceAdd,Nat.zero_add,List.range,List.range.loop]
 refine oT ?_
 refine oA hU ?_
 (refine oW fun dd K hK=>?_;go_simp;refine qS hK hU ?_;clear hK K)
 rw[d06]
 refine ogE ?_
 refine h _ ?_
 exact⟨rfl,rfl,rfl,rfl,rfl,rfl,rfl,rfl,rfl,trivial⟩
end
end Go.Proofs.YtlcgkpapnpdfpaaDoor
