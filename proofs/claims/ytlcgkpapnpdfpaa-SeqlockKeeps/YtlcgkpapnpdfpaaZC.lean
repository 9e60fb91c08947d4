/-
  SeqlockKeeps, where what it reads is of bulk at most 1048576
  Part 3 of 5.
-/
import Derived.Test.YtlcgkpapnpdfpaaZB
import Derived.Deep.RegionLaw
import Derived.Deep.RegionLawGrows
import Derived.Deep.DeepAppendRoom
import Derived.ArgAppend
import Derived.Laws.BitsLemmas
import Derived.Laws.Bits64
import Derived.Laws.LoneSync
import Derived.Laws.MakeOwn
set_option linter.unusedSimpArgs false
set_option linter.unusedVariables false
set_option linter.unusedSectionVars false
set_option maxRecDepth 100000
set_option maxHeartbeats 8000000
namespace Go.Proofs.Ytlcgkpapnpdfpaa
open Go Go.Conc Go.RowKit Go.Proofs
noncomputable section
variable {cs:List Frame}{main:Bool}{Stop:Goroutine→World→Prop}
section
variable{P:Program}{F:Fz}{w w':World}{main:Bool}{b:Frame}{a:Act}{kk:List Item}{cs:List Frame}{ops:Array Oper}{i:Nat}{rest:List Nat}{o:Oper}{Stop:Goroutine→World→Prop}{f:FuncId}{fn:Func}{ats:Array TypeId}{k:IntKind}
theorem i0Y{x y:Operand}(ho:ops[i]? =some o)(hw:Region.wanted o (yielded ops a.tmps)=true)(hk:b.kind≠.early)(hop:o.op= .call {callee:=.value (.func f),args:= #[x,y],argTypes:=ats})
 (hf : P.funcs[f]? = some fn) (hname : (fn.name == "runtime.NumGoroutine") = false) (hb : fn.body.isNone = true) (hn : Extern.findNext fn = none)
 (he:Extern.find fn=some (Extern.Atomic.update (Op.intArith .add) k true)) {ad:Addr} {v n:Int} (hs:ad.spot=none) (hx:a.eval x= .pointer (some ad)) (hy:a.eval y= .int k n) (hc:w.cell? ad=some (.int k v)) (hfz:w.frozen? ad=false) (hnh:¬held F ad)
 (h:J0 P main F Stop (G (b.at (a.put o.dst (.int k (k.wrap (v+n)))) (.inRegion ops rest::kk)) cs) (w.setCell ad (.int k (k.wrap (v+n))))):J0 P main F Stop (G (b.at a (.inRegion ops (i::rest)::kk)) cs) w:=by
 have e1:execOp a.eval o=callFunc f #[.pointer (some ad),.int k n]:=f9 hop (by simp[hx,hy])
 refine d03 (w':=w.setCell ad (.int k (k.wrap (v+n)))) ho hw hk (fun d=>?_) (fun d=>⟨0,by simpa [setCell_at']using E0 (w:=w.at d) hs hnh (.int k (k.wrap (v+n)))⟩) (fun d e hm=>?_) h
 ·have hc':(w.at d).cell? ad=some (.int k v):=hc
  have hz':(w.at d).frozen? ad=false:=hfz
  rw[e1,run_callFunc_extern hf hname hb hn he]
  change(Sem.run P (do
   let a' ← asAddr (.pointer (some ad))
   let old ← Extern.Atomic.read (.int k) a'
   let new ← Op.intArith .add k (← asInt old) (← asInt (.int k n))
   store a' new .atomic
   pure (if true then new else old)) (w.at d)).andThen _=_
  simp[Extern.Atomic.read,Op.intArith,asAddr,asInt,asIntOf,hc',hz',run_store P (w.at d) ad (.int k (k.wrap (v+n))) .atomic rfl,Result.andThen,setCell_at']
 ·have hc':(w.at d).cell? ad=some (.int k v):=hc
  have hz':(w.at d).frozen? ad=false:=hfz
  rw[e1,events_callFunc_extern hf hname hb hn he]at hm
  change e∈Sem.events P (do
   let a' ← asAddr (.pointer (some ad))
   let old ← Extern.Atomic.read (.int k) a'
   let new ← Op.intArith .add k (← asInt old) (← asInt (.int k n))
   store a' new .atomic
   pure (if true then new else old)) (w.at d) _ at hm
  simp[Extern.Atomic.read,Op.intArith,asAddr,asInt,asIntOf,hc',hz',events_load,run_store P (w.at d) ad (.int k (k.wrap (v+n))) .atomic rfl,events_store P (w.at d) _ ad (.int k (k.wrap (v+n))) .atomic rfl]at hm
  rcases hm with rfl|rfl|rfl
  ·exact c0s f
  ·exact I1 _ _
  ·exact U0 _ _ hnh
end
variable{F:Fz}{w:World}
@[go_sem] theorem z0I(w:World)(es:Array Event):(binOp .neq 105 .nilIface .nilIface).events Try.prog w es=es:=by kernel_rfl
def p9:Code:=Try.f61.body.getD .skip
def D0y:=pC [] p9
def m0A:=pC [zt] p9
def w0b:=pC [zf] p9
def g0E:=pC [zf,zt] p9
theorem z0s:g0E= .region 1 (oC g0E) false:=by kernel_rfl
theorem f05(args:Array Value):Frame.enter Try.prog 61 args .normal=(Go.Conc.base 61).at {tmps:=args++Array.replicate (6 - args.size) undef,defers:=[]} [.code D0y]:=enter_at args Try.func61 rfl
theorem L3:O1 61:=G2 Try.func61 rfl rfl
def b0r:Code:=Try.f108.body.getD .skip
def C06:=pC [] b0r
def v0I:=pC [zt] b0r
def C07:=pC [zf] b0r
def v0J:=pC [zf,zt] b0r
theorem n0j(args:Array Value):Frame.enter Try.prog 108 args .normal=(Go.Conc.base 108).at {tmps:=args++Array.replicate (13 - args.size) undef,defers:=[]} [.code C06]:=enter_at args Try.func108 rfl
theorem d0k:O1 108:=G2 Try.func108 rfl rfl
def b0q:Code:=Try.f59.body.getD .skip
def C04:=pC [] b0q
def v0G:=pC [zt] b0q
def C05:=pC [zf] b0q
def v0H:=pC [zf,zt] b0q
theorem n0i(args:Array Value):Frame.enter Try.prog 59 args .normal=(Go.Conc.base 59).at {tmps:=args++Array.replicate (10 - args.size) undef,defers:=[]} [.code C04]:=enter_at args Try.func59 rfl
theorem j06:O1 59:=G2 Try.func59 rfl rfl
def j0E(K:StK)(sa:Addr):Frame:=(Go.Conc.base 61).at ⟨#[.iface K.t (.pointer (some sa)),undef,.iface K.t (.pointer (some sa)),.bool true,.iface K.t (.pointer (some sa)),undef],[]⟩ [.inRegion (oC g0E) [1]]
theorem J2{K:StK}{sa:Addr}(h:J0 Try.prog main F Stop (G (Frame.enter Try.prog K.f #[.pointer (some sa)] .normal) (j0E K sa::cs)) w):
 J0 Try.prog main F Stop (G (Frame.enter Try.prog 61 #[.iface K.t (.pointer (some sa))] .normal) cs) w:=by
 rw[f05]
 walk_nrm
 refine ogW m0A w0b ?_
 simp only[m0A,p9,Try.f61,zz,Nat.reduceAdd]
 iterate 2 refine oT ?_
 refine S0<|ogYn g0E ?_
 rw[z0s]
 refine ogR ?_
 simp only[g0E,p9,Try.f61,zz,Nat.reduceAdd]
 refine oT ?_
 refine Y7 (f:=K.f) (args:= #[.pointer (some sa)]) rfl rfl (by decide) (fun w=>by simp[execOp,Act.eval,resolve,invoke,Deferred.ofValue,K.cb.run,K.run]) (fun w=>by simp[execOp,Act.eval,resolve,invoke,Deferred.ofValue,K.cb.run,K.cb.quiet,K.run,K.ev]) ?_
 exact h
theorem K3{K:StK}{sa:Addr}{c:Frame}(h:J0 Try.prog main F Stop (G (c.finish (.tuple #[])) cs) w):
 J0 Try.prog main F Stop (G ((j0E K sa).finish (.tuple #[])) (c::cs)) w:=by
 unfold j0E
 rw[Frame.finish_at]
 simp only[g0E,p9,Try.f61,zz,Nat.reduceAdd]
 walk_nrm
 refine S0 ?_
 refine Q0 rfl (fun d=>stepG_end) ?_
 refine Q0 rfl (fun d=>stepG_leave (fn:=Try.f61) (v:=.tuple #[]) rfl rfl Try.func61 (by simp[results,Try.f61]) (by simp[results,Try.f61,go_sem])) ?_
 exact h
theorem i05{c:Frame}(h:J0 Try.prog main F Stop (G (c.finish (.tuple #[])) cs) w):
 J0 Try.prog main F Stop (G (Frame.enter Try.prog 61 #[.nilIface] .normal) (c::cs)) w:=by
 rw[f05]
 walk_nrm
 refine ogW m0A w0b ?_
 simp only[m0A,p9,Try.f61,zz,Nat.reduceAdd]
 iterate 2 refine oT ?_
 refine S0<|ogGn .skip<|ogK ?_
 refine Q0 rfl (fun d=>stepG_end) ?_
 refine Q0 rfl (fun d=>stepG_leave (fn:=Try.f61) (v:=.tuple #[]) rfl rfl Try.func61 (by simp[results,Try.f61]) (by simp[results,Try.f61,go_sem])) ?_
 exact h
theorem i0Z{ad:Addr}{v u n:Int}{t:Bool}(ht:(v == u)=t)(hc:w.cell? ad=some (vI v))(hs:ad.spot=none)(hz:w.frozen? ad=false)(hnh:¬held F ad){c:Frame}(h:J0 Try.prog main F Stop (G (c.finish (.bool t)) cs) (if t then w.setCell ad (vI n)else w)):
 J0 Try.prog main F Stop (G (Frame.enter Try.prog 108 #[.pointer (some ad),vI u,vI n] .normal) (c::cs)) w:=by
 obtain⟨ab,ao,asp⟩:=ad
 simp only at hs
 subst hs
 rw[n0j]
 walk_nrm
 refine ogW v0I C07 ?_
 simp only[v0I,b0r,Try.f108,zz,Nat.reduceAdd]
 refine oT ?_
 refine S0<|ogW v0J .ret ?_
 simp only[v0J,b0r,Try.f108,zz,Nat.reduceAdd]
 iterate 5 refine oT ?_
 refine i00 (k:=.i64) (f:=113) (fn:=Try.f113) rfl rfl (by decide) rfl Try.func113 rfl rfl rfl rfl ht rfl rfl rfl rfl hc hz hnh ?_
 walk_nrm
 refine oT ?_
 refine S0<|ogX ?_
 refine Q0 rfl (fun d=>stepG_leave (fn:=Try.f108) (v:=.bool t) rfl rfl Try.func108 (by simp[results,Try.f108]) (by simp[results,Try.f108,go_sem])) ?_
 exact h
theorem p04{ad:Addr}{v n:Int}(hc:w.cell? ad=some (vI v))(hs:ad.spot=none)(hz:w.frozen? ad=false)(hnh:¬held F ad){c:Frame}(h:J0 Try.prog main F Stop (G (c.finish (vI (IntKind.i64.wrap (v+n)))) cs) (w.setCell ad (vI (IntKind.i64.wrap (v+n))))):
 J0 Try.prog main F Stop (G (Frame.enter Try.prog 59 #[.pointer (some ad),vI n] .normal) (c::cs)) w:=by
 obtain⟨ab,ao,asp⟩:=ad
 simp only at hs
 subst hs
 rw[n0i]
 walk_nrm
 refine ogW v0G C05 ?_
 simp only[v0G,b0q,Try.f59,zz,Nat.reduceAdd]
 refine oT ?_
 refine S0<|ogW v0H .ret ?_
 simp only[v0H,b0q,Try.f59,zz,Nat.reduceAdd]
 iterate 4 refine oT ?_
 refine i0Y (k:=.i64) (f:=90) (fn:=Try.f90) rfl rfl (by decide) rfl Try.func90 rfl rfl rfl rfl rfl rfl rfl hc hz hnh ?_
 walk_nrm
 refine oT ?_
 refine S0<|ogX ?_
 refine Q0 rfl (fun d=>stepG_leave (fn:=Try.f59) (v:=vI (IntKind.i64.wrap (v+n))) rfl rfl Try.func59 (by simp[results,Try.f59]) (by simp[results,Try.f59,go_sem])) ?_
 exact h
end
noncomputable section
variable {cs:List Frame}{main:Bool}{Stop:Goroutine→World→Prop}
variable{F:Fz}{w:World}
structure SH(lb wb wo n:Nat)(w:World):Prop where
 c2:w.cell? ⟨lb,2,none⟩=some (vL wb wo n n)∨(w.cell? ⟨lb,2,none⟩=some (.slice none 0 0)∧wb=lb∧wo=1∧n=1)
 n1:0<n
 n2:n≤16
theorem SH.at{lb wb wo n:Nat}{w:World}(h:SH lb wb wo n w)(d:Nat):SH lb wb wo n (w.at d):=⟨h.c2,h.n1,h.n2⟩
@[go_sem] theorem D0S(a:Addr)(w:World)(es:Array Event):(Instr.sliceAt 61 (.pointer (some a)) none none none).events Try.prog w es=es:=by kernel_rfl
@[go_sem] theorem x0e(a:Addr)(w:World)(es:Array Event):(binOp .eql 35 (.pointer (some a)) (.pointer none)).events Try.prog w es=es:=by kernel_rfl
@[go_sem] theorem u0J(w:World)(es:Array Event):(binOp .eql 35 (.pointer none) (.pointer none)).events Try.prog w es=es:=by kernel_rfl
def g6:Code:=Try.f53.body.getD .skip
def D0D:=pC [] g6
def m0D:=pC [zt] g6
def m0G:=pC [zf] g6
def m0B:=pC [zt] m0G
def w0k:=pC [zt] m0B
def m0E:=pC [zf,zt,zt,zt] g6
def m0C:=pC [zf] w0k
def F0q:=pC [zt] m0C
def r0i:=pC [zf] m0C
def m0F:=pC [zf,zt,zt,zf,zf,zt] g6
def r0h:=pC [zf] r0i
def D0E:=pC [zt] r0h
def w0i:=pC [zf,zt,zt,zf,zf,zf,zt,zt] g6
def w0l:=pC [zf] m0G
def w0j:=pC [zf,zf,zt] g6
theorem r0g:m0B= .block 0 w0k:=by kernel_rfl
theorem f06(args:Array Value):Frame.enter Try.prog 53 args .normal=(Go.Conc.base 53).at {tmps:=args++Array.replicate (21 - args.size) undef,defers:=[]} [.code D0D]:=enter_at args Try.func53 rfl
theorem a0a:O1 53:=G2 Try.func53 rfl rfl
theorem k0z{lb wb wo n:Nat}(c2:w.cell? ⟨lb,2,none⟩=some (vL wb wo n n))(n1:0<n){c:Frame}
 (h:J0 Try.prog main F Stop (G (c.finish (vL wb wo n n)) cs) w):
 J0 Try.prog main F Stop (G (Frame.enter Try.prog 53 #[vP lb 0] .normal) (c::cs)) w:=by
 have hn:((n:Int) == 0)=false:=by simp;omega
 rw[f06]
 walk_nrm
 refine ogW m0D m0G ?_
 simp only[m0D,g6,Try.f53,zz,Nat.reduceAdd]
 refine oT ?_
 refine S0<|ogV m0B w0l ?_
 rw[r0g]
 refine L7<|ogW m0E m0C ?_
 simp only[m0E,g6,Try.f53,zz,Nat.reduceAdd]
 iterate 3 refine oT ?_
 refine S0<|ogGn r0i<|ogW m0F r0h ?_
 simp only[m0F,g6,Try.f53,zz,Nat.reduceAdd]
 iterate 3 refine oT ?_
 refine oL ?_
 iterate 3 refine oT ?_
 refine S0<|ogGn .skip<|ogK<|ogI<|ogW w0j .ret ?_
 simp only[w0j,g6,Try.f53,zz,Nat.reduceAdd]
 iterate 3 refine oT ?_
 refine oL ?_
 refine oT ?_
 refine S0<|ogX ?_
 refine Q0 rfl (fun d=>stepG_leave (fn:=Try.f53) (v:=vL wb wo n n) rfl rfl Try.func53 (by simp[results,Try.f53]) (by simp[results,Try.f53,go_sem])) ?_
 exact h
theorem k0A{lb:Nat}(c2:w.cell? ⟨lb,2,none⟩=some (.slice none 0 0)){c:Frame}
 (h:J0 Try.prog main F Stop (G (c.finish (vL lb 1 1 1)) cs) w):
 J0 Try.prog main F Stop (G (Frame.enter Try.prog 53 #[vP lb 0] .normal) (c::cs)) w:=by
 rw[f06]
 walk_nrm
 refine ogW m0D m0G ?_
 simp only[m0D,g6,Try.f53,zz,Nat.reduceAdd]
 refine oT ?_
 refine S0<|ogV m0B w0l ?_
 rw[r0g]
 refine L7<|ogW m0E m0C ?_
 simp only[m0E,g6,Try.f53,zz,Nat.reduceAdd]
 iterate 3 refine oT ?_
 refine S0<|ogGn r0i<|ogW m0F r0h ?_
 simp only[m0F,g6,Try.f53,zz,Nat.reduceAdd]
 iterate 3 refine oT ?_
 refine oL ?_
 iterate 3 refine oT ?_
 refine S0<|ogYn D0E<|ogW w0i .ret ?_
 simp only[w0i,g6,Try.f53,zz,Nat.reduceAdd]
 iterate 5 refine oT ?_
 refine S0<|ogX ?_
 refine Q0 rfl (fun d=>stepG_leave (fn:=Try.f53) (v:=vL lb 1 1 1) rfl rfl Try.func53 (by simp[results,Try.f53]) (by simp[results,Try.f53,go_sem])) ?_
 exact h
theorem b0l{lb wb wo n:Nat}(hs:SH lb wb wo n w){c:Frame}
 (h:J0 Try.prog main F Stop (G (c.finish (vL wb wo n n)) cs) w):
 J0 Try.prog main F Stop (G (Frame.enter Try.prog 53 #[vP lb 0] .normal) (c::cs)) w:=by
 rcases hs.c2 with h2|⟨h2,rfl,rfl,rfl⟩
 ·exact k0z h2 hs.n1 h
 ·exact k0A h2 h
def b0s:Code:=Try.f18.body.getD .skip
def C08:=pC [] b0s
def v0K:=pC [zt] b0s
def C09:=pC [zf] b0s
def v0L:=pC [zf,zt] b0s
theorem n0k(args:Array Value):Frame.enter Try.prog 18 args .normal=(Go.Conc.base 18).at {tmps:=args++Array.replicate (6 - args.size) undef,defers:=[]} [.code C08]:=enter_at args Try.func18 rfl
theorem e0o:O1 18:=G2 Try.func18 rfl rfl
theorem l0Z{lb wb wo n:Nat}(hs:SH lb wb wo n w){c:Frame}
 (h:J0 Try.prog main F Stop (G (c.finish (vI n)) cs) w):
 J0 Try.prog main F Stop (G (Frame.enter Try.prog 18 #[vP lb 0] .normal) (c::cs)) w:=by
 rw[n0k]
 walk_nrm
 refine ogW v0K C09 ?_
 simp only[v0K,b0s,Try.f18,zz,Nat.reduceAdd]
 refine oT ?_
 refine S0<|ogW v0L .ret ?_
 simp only[v0L,b0s,Try.f18,zz,Nat.reduceAdd]
 refine oT ?_
 refine oc a0a #[vP lb 0] ?_
 refine b0l hs ?_
 rw[Frame.finish_at]
 walk_nrm
 iterate 2 refine oT ?_
 refine S0<|ogX ?_
 refine Q0 rfl (fun d=>stepG_leave (fn:=Try.f18) (v:=vI n) rfl rfl Try.func18 (by simp[results,Try.f18]) (by simp[results,Try.f18,go_sem])) ?_
 exact h
def b0v:Code:=Try.f60.body.getD .skip
def D0z:=pC [] b0v
def w0e:=pC [zt] b0v
def D0A:=pC [zf] b0v
def w0f:=pC [zf,zt] b0v
theorem n0q(args:Array Value):Frame.enter Try.prog 60 args .normal=(Go.Conc.base 60).at {tmps:=args++Array.replicate (6 - args.size) undef,defers:=[]} [.code D0z]:=enter_at args Try.func60 rfl
theorem e0s:O1 60:=G2 Try.func60 rfl rfl
theorem g0k{a:Int}{c:Frame}
 (h:J0 Try.prog main F Stop (G (c.finish (vI (N2 a))) cs) w):
 J0 Try.prog main F Stop (G (Frame.enter Try.prog 60 #[vI a] .normal) (c::cs)) w:=by
 rw[n0q]
 walk_nrm
 refine ogW w0e D0A ?_
 simp only[w0e,b0v,Try.f60,zz,Nat.reduceAdd]
 refine oT ?_
 refine S0<|ogW w0f .ret ?_
 simp only[w0f,b0v,Try.f60,zz,Nat.reduceAdd]
 iterate 4 refine oT ?_
 refine S0<|ogX ?_
 have e:(if(1024:Int)<if a<1 then 1 else a then 1024 else if a<1 then 1 else a)=(N2 a:Nat):=by unfold N2;split<;>split<;>omega
 refine Q0 rfl (fun d=>stepG_leave (fn:=Try.f60) (v:=vI (N2 a)) rfl rfl Try.func60 (by simp[results,Try.f60,e]) (by simp[results,Try.f60,go_sem,e])) ?_
 exact h
def o4:Code:=Try.f89.body.getD .skip
def C0R:=pC [] o4
def v0m:=pC [zt] o4
def v0o:=pC [zf] o4
def d0E:=pC [zf,zt] o4
def g0p:=pC [zf] v0o
def m0i:=pC [zf,zf,zt] o4
def m0l:=pC [zf] g0p
def q0A:=pC [zt] m0l
def m0j:=pC [zf,zf,zf,zt,zt] o4
def k0K:=pC [zf] q0A
def C0S:=pC [zt] k0K
def v0n:=pC [zf,zf,zf,zt,zf,zt,zt] o4
def q0B:=pC [zf] m0l
def d0F:=pC [zf,zf,zf,zf,zt] o4
def j0o:=pC [zf] q0B
def m0k:=pC [zf,zf,zf,zf,zf,zt] o4
theorem n0d(args:Array Value):Frame.enter Try.prog 89 args .normal=(Go.Conc.base 89).at {tmps:=args++Array.replicate (26 - args.size) undef,defers:=[]} [.code C0R]:=enter_at args Try.func89 rfl
theorem e0t:O1 89:=G2 Try.func89 rfl rfl
def h0T(s:Nat→Value):Array Value:= #[s 0,s 1,s 2,s 3,s 4,s 5,s 6,s 7,s 8,s 9,s 10,s 11,s 12,s 13,s 14,s 15,s 16,s 17,s 18,s 19,s 20,s 21,s 22,s 23,s 24,s 25]
theorem D0W{A:Array Value}(h:A.size=26):∃s,A=h0T s:=by
 obtain⟨s,hs,_⟩:=Y4 A h
 exact⟨s,hs⟩
theorem m01{sv:Value}{lb:Nat}
 (h:∀A,G0 26 A [(0,vP lb 0),(1,sv)]→J0 Try.prog main F Stop (G (Frame.enter Try.prog 61 #[sv] .normal) ((bA 89 A [.inRegion (oC d0E) [1],.code g0p])::cs)) w):
 J0 Try.prog main F Stop (G (Frame.enter Try.prog 89 #[vP lb 0,sv] .normal) cs) w:=by
 rw[n0d]
 walk_nrm
 refine ogW v0m v0o ?_
 simp only[v0m,o4,Try.f89,zz,Nat.reduceAdd]
 iterate 2 refine oT ?_
 refine S0<|ogW d0E g0p ?_
 simp only[d0E,o4,Try.f89,zz,Nat.reduceAdd]
 refine oT ?_
 refine oc L3 #[sv] ?_
 refine h _ ?_
 exact⟨rfl,rfl,rfl,trivial⟩
theorem u0r{sv:Value}{lb:Nat}{v:Int}(hv:(v.tmod 2 != 0)=true)(hc:w.cell? ⟨lb,0,none⟩=some (vI v)){A:Array Value}(hA:G0 26 A [(0,vP lb 0),(1,sv)]){c:Frame}
 (h:J0 Try.prog main F Stop (G (c.finish (.tuple #[vI 0,.bool false])) cs) w):
 J0 Try.prog main F Stop (G ((bA 89 A [.inRegion (oC d0E) [1],.code g0p]).finish (.tuple #[])) (c::cs)) w:=by
 obtain⟨s,rfl,h0,h1,_⟩:=Y3 h0T hA
 simp only[h0T,h0,h1]
 clear h0 h1
 rw[Frame.finish_at]
 simp only[d0E,o4,Try.f89,zz,Nat.reduceAdd]
 walk_nrm
 refine S0<|ogW m0i m0l ?_
 simp only[m0i,o4,Try.f89,zz,Nat.reduceAdd]
 iterate 3 refine oT ?_
 refine oc T4 #[vP lb 0] ?_
 refine C7 hc rfl ?_
 rw[Frame.finish_at]
 walk_nrm
 refine oT ?_
 refine S0<|ogV q0A q0B<|ogW m0j k0K ?_
 simp only[m0j,o4,Try.f89,zz,Nat.reduceAdd]
 iterate 3 refine oT ?_
 refine S0<|ogYn C0S<|ogW v0n .ret ?_
 simp only[v0n,o4,Try.f89,zz,Nat.reduceAdd]
 iterate 2 refine oT ?_
 refine S0<|ogX ?_
 refine Q0 rfl (fun d=>stepG_leave (fn:=Try.f89) (v:=.tuple #[vI 0,.bool false]) rfl rfl Try.func89 (by simp[results,Try.f89]) (by simp[results,Try.f89,go_sem])) ?_
 exact h
theorem l0g{sv:Value}{lb:Nat}{v:Int}(hv:(v.tmod 2 != 0)=false)(hc:w.cell? ⟨lb,0,none⟩=some (vI v)){A:Array Value}(hA:G0 26 A [(0,vP lb 0),(1,sv)])
 (h:∀A,G0 26 A [(0,vP lb 0),(1,sv),(6,vI v)]→J0 Try.prog main F Stop (G (Frame.enter Try.prog 61 #[sv] .normal) ((bA 89 A [.inRegion (oC d0F) [1],.code j0o])::cs)) w):
 J0 Try.prog main F Stop (G ((bA 89 A [.inRegion (oC d0E) [1],.code g0p]).finish (.tuple #[])) (cs)) w:=by
 obtain⟨s,rfl,h0,h1,_⟩:=Y3 h0T hA
 simp only[h0T,h0,h1]
 clear h0 h1
 rw[Frame.finish_at]
 simp only[d0E,o4,Try.f89,zz,Nat.reduceAdd]
 walk_nrm
 refine S0<|ogW m0i m0l ?_
 simp only[m0i,o4,Try.f89,zz,Nat.reduceAdd]
 iterate 3 refine oT ?_
 refine oc T4 #[vP lb 0] ?_
 refine C7 hc rfl ?_
 rw[Frame.finish_at]
 walk_nrm
 refine oT ?_
 refine S0<|ogV q0A q0B<|ogW m0j k0K ?_
 simp only[m0j,o4,Try.f89,zz,Nat.reduceAdd]
 iterate 3 refine oT ?_
 refine S0<|ogGn .skip<|ogK<|ogW d0F j0o ?_
 simp only[d0F,o4,Try.f89,zz,Nat.reduceAdd]
 refine oT ?_
 refine oc L3 #[sv] ?_
 refine h _ ?_
 exact⟨rfl,rfl,rfl,rfl,trivial⟩
theorem l0h{sv:Value}{lb:Nat}{v u:Int}(hq:(u == v)=true)(hc:w.cell? ⟨lb,0,none⟩=some (vI u))(hz:w.frozen? ⟨lb,0,none⟩=false)(hnh:¬held F ⟨lb,0,none⟩){A:Array Value}(hA:G0 26 A [(0,vP lb 0),(1,sv),(6,vI v)]){c:Frame}
 (h:J0 Try.prog main F Stop (G (c.finish (.tuple #[vI v,.bool true])) cs) (w.setCell ⟨lb,0,none⟩ (vI (i6 (v+1))))):
 J0 Try.prog main F Stop (G ((bA 89 A [.inRegion (oC d0F) [1],.code j0o]).finish (.tuple #[])) (c::cs)) w:=by
 obtain⟨s,rfl,h0,h1,h6,_⟩:=Y3 h0T hA
 simp only[h0T,h0,h1,h6]
 clear h0 h1 h6
 rw[Frame.finish_at]
 simp only[d0F,o4,Try.f89,zz,Nat.reduceAdd]
 walk_nrm
 refine S0<|ogW m0k .ret ?_
 simp only[m0k,o4,Try.f89,zz,Nat.reduceAdd]
 iterate 7 refine oT ?_
 refine oc d0k #[vP lb 0,vI v,vI (i6 (v+1))] ?_
 refine i0Z (t:=true) hq hc rfl hz hnh ?_
 rw[Frame.finish_at]
 walk_nrm
 simp only[if_true]
 iterate 2 refine oT ?_
 refine S0<|ogX ?_
 refine Q0 rfl (fun d=>stepG_leave (fn:=Try.f89) (v:=.tuple #[vI v,.bool true]) rfl rfl Try.func89 (by simp[results,Try.f89]) (by simp[results,Try.f89,go_sem])) ?_
 exact h
theorem u0s{sv:Value}{lb:Nat}{v u:Int}(hq:(u == v)=false)(hc:w.cell? ⟨lb,0,none⟩=some (vI u))(hz:w.frozen? ⟨lb,0,none⟩=false)(hnh:¬held F ⟨lb,0,none⟩){A:Array Value}(hA:G0 26 A [(0,vP lb 0),(1,sv),(6,vI v)]){c:Frame}
 (h:J0 Try.prog main F Stop (G (c.finish (.tuple #[vI v,.bool false])) cs) w):
 J0 Try.prog main F Stop (G ((bA 89 A [.inRegion (oC d0F) [1],.code j0o]).finish (.tuple #[])) (c::cs)) w:=by
 obtain⟨s,rfl,h0,h1,h6,_⟩:=Y3 h0T hA
 simp only[h0T,h0,h1,h6]
 clear h0 h1 h6
 rw[Frame.finish_at]
 simp only[d0F,o4,Try.f89,zz,Nat.reduceAdd]
 walk_nrm
 refine S0<|ogW m0k .ret ?_
 simp only[m0k,o4,Try.f89,zz,Nat.reduceAdd]
 iterate 7 refine oT ?_
 refine oc d0k #[vP lb 0,vI v,vI (i6 (v+1))] ?_
 refine i0Z (t:=false) hq hc rfl hz hnh ?_
 rw[Frame.finish_at]
 walk_nrm
 simp only[Bool.false_eq_true,if_false]
 iterate 2 refine oT ?_
 refine S0<|ogX ?_
 refine Q0 rfl (fun d=>stepG_leave (fn:=Try.f89) (v:=.tuple #[vI v,.bool false]) rfl rfl Try.func89 (by simp[results,Try.f89]) (by simp[results,Try.f89,go_sem])) ?_
 exact h
end
noncomputable section
variable {cs:List Frame}{main:Bool}{Stop:Goroutine→World→Prop}
variable{F:Fz}{w:World}
def m0H:Code:=Try.f57.body.getD .skip
def m0I:=pC [] m0H
theorem z0v:m0I= .region 0 (oC m0I) false:=by kernel_rfl
theorem n0s(args:Array Value):Frame.enter Try.prog 57 args .normal=(Go.Conc.base 57).at {tmps:=args++Array.replicate (7 - args.size) undef,defers:=[]} [.code m0I]:=enter_at args Try.func57 rfl
theorem b0U:O1 57:=G2 Try.func57 rfl rfl
theorem e06{wb wo i:Nat}{u x:Int}(hc:w.cell? ⟨wb,wo+i,none⟩=some (vI u))(hz:w.frozen? ⟨wb,wo+i,none⟩=false)(hnh:¬held F ⟨wb,wo+i,none⟩){c:Frame}
 (h:J0 Try.prog main F Stop (G (c.finish (.tuple #[])) cs) (w.setCell ⟨wb,wo+i,none⟩ (vI x))):
 J0 Try.prog main F Stop (G (Frame.enter Try.prog 57 #[vP wb (wo+i),vI x] .normal) (c::cs)) w:=by
 rw[n0s]
 walk_nrm
 rw[z0v]
 refine ogR ?_
 simp only[m0I,m0H,Try.f57,zz,Nat.reduceAdd]
 iterate 2 refine oT ?_
 refine oc e0q #[vP wb (wo+i),vI x] ?_
 refine l01 hc rfl hz hnh ?_
 rw[Frame.finish_at]
 walk_nrm
 refine S0 ?_
 refine Q0 rfl (fun d=>stepG_end) ?_
 refine Q0 rfl (fun d=>stepG_leave (fn:=Try.f57) (v:=.tuple #[]) rfl rfl Try.func57 (by simp[results,Try.f57]) (by simp[results,Try.f57,go_sem])) ?_
 exact h
def m0g:Code:=Try.f58.body.getD .skip
def m0h:=pC [] m0g
theorem y06:m0h= .region 0 (oC m0h) false:=by kernel_rfl
theorem n0c(args:Array Value):Frame.enter Try.prog 58 args .normal=(Go.Conc.base 58).at {tmps:=args++Array.replicate (7 - args.size) undef,defers:=[]} [.code m0h]:=enter_at args Try.func58 rfl
theorem b0V:O1 58:=G2 Try.func58 rfl rfl
theorem e07{wb wo i:Nat}{u x:Int}(hc:w.cell? ⟨wb,wo+i,none⟩=some (vI u))(hz:w.frozen? ⟨wb,wo+i,none⟩=false)(hnh:¬held F ⟨wb,wo+i,none⟩){c:Frame}
 (h:J0 Try.prog main F Stop (G (c.finish (.tuple #[])) cs) (w.setCell ⟨wb,wo+i,none⟩ (vI (IntKind.i64.wrap (u+x))))):
 J0 Try.prog main F Stop (G (Frame.enter Try.prog 58 #[vP wb (wo+i),vI x] .normal) (c::cs)) w:=by
 rw[n0c]
 walk_nrm
 rw[y06]
 refine ogR ?_
 simp only[m0h,m0g,Try.f58,zz,Nat.reduceAdd]
 iterate 2 refine oT ?_
 refine oc j06 #[vP wb (wo+i),vI x] ?_
 refine p04 hc rfl hz hnh ?_
 rw[Frame.finish_at]
 walk_nrm
 refine S0 ?_
 refine Q0 rfl (fun d=>stepG_end) ?_
 refine Q0 rfl (fun d=>stepG_leave (fn:=Try.f58) (v:=.tuple #[]) rfl rfl Try.func58 (by simp[results,Try.f58]) (by simp[results,Try.f58,go_sem])) ?_
 exact h
def L0:Code:=Try.f56.body.getD .skip
def D0F:=pC [] L0
def w0m:=pC [zt] L0
def r0r:=pC [zf] L0
def w0p:=pC [zt] r0r
def w0n:=pC [zf,zt,zt] L0
def r0m:=pC [zf] w0p
def F0r:=pC [zt] r0m
def r0u:=pC [zf] r0r
def w0q:=pC [zt] r0u
def w0o:=pC [zf,zf,zt,zt] L0
def r0j:=pC [zf] w0q
def r0n:=pC [zt] r0j
def Y5:=pC [zt] r0n
def g0H:=pC [zf,zf,zt,zf,zt,zt,zt] L0
def j0G:=pC [zf] Y5
def h0N:=pC [zt] j0G
def m0P:=pC [zf] j0G
def m0J:=pC [zt] m0P
def r0s:=pC [zt] m0J
def Y8:=pC [zf,zf,zt,zf,zt,zt,zf,zf,zt,zt,zt] L0
def Z8:=pC [zf] r0s
def f0r:=pC [zt] Z8
def d0O:=pC [zf,zf,zt,zf,zt,zt,zf,zf,zt,zt,zf,zt,zt] L0
def i0f:=pC [zf] f0r
def f0s:=pC [zf] Z8
def m0N:=pC [zf,zf,zt,zf,zt,zt,zf,zf,zt,zt,zf,zf,zt] L0
def i0h:=pC [zf] f0s
def k05:=pC [zt] i0h
def m0O:=pC [zf,zf,zt,zf,zt,zt,zf,zf,zt,zt,zf,zf,zf,zt,zt] L0
def m0K:=pC [zf] k05
def k04:=pC [zt] m0K
def Z6:=pC [zt] k04
def B8:=pC [zf,zf,zt,zf,zt,zt,zf,zf,zt,zt,zf,zf,zf,zt,zf,zt,zt,zt] L0
def A9:=pC [zf] Z6
def a06:=pC [zt] A9
def a0s:=pC [zf] A9
def d0N:=pC [zt] a0s
def r0t:=pC [zt] d0N
def r8:=pC [zf,zf,zt,zf,zt,zt,zf,zf,zt,zt,zf,zf,zf,zt,zf,zt,zt,zf,zf,zt,zt,zt] L0
def c0g:=pC [zf] r0t
def v8:=pC [zf,zf,zt,zf,zt,zt,zf,zf,zt,zt,zf,zf,zf,zt,zf,zt,zt,zf,zf,zt,zt,zf,zt] L0
def a08:=pC [zf] c0g
def c0h:=pC [zt] a08
def w8:=pC [zf,zf,zt,zf,zt,zt,zf,zf,zt,zt,zf,zf,zf,zt,zf,zt,zt,zf,zf,zt,zt,zf,zf,zt,zt] L0
def d0f:=pC [zf] c0h
def a07:=pC [zf,zf,zt,zf,zt,zt,zf,zf,zt,zt,zf,zf,zf,zt,zf,zt,zt,zf,zf,zt,zt,zf,zf,zt,zf,zt] L0
def d0g:=pC [zf] a08
def S3:=pC [zf,zf,zt,zf,zt,zt,zf,zf,zt,zt,zf,zf,zf,zt,zf,zt,zt,zf,zf,zt,zt,zf,zf,zf,zt] L0
def J4:=pC [zf,zf,zt,zf,zt,zt,zf,zf,zt,zt,zf,zf,zf,zt,zf,zt,zt,zf,zf,zt,zt,zf,zf,zf,zf] L0
def K4:=pC [zf,zf,zt,zf,zt,zt,zf,zf,zt,zt,zf,zf,zf,zt,zf,zt,zt,zf,zf,zf] L0
def Q6:=pC [zf] i0h
def a0r:=pC [zf,zf,zt,zf,zt,zt,zf,zf,zt,zt,zf,zf,zf,zf,zt] L0
def c0i:=pC [zf] Q6
def r0o:=pC [zf,zf,zt,zf,zt,zt,zf,zf,zt,zt,zf,zf,zf,zf,zf,zt] L0
def z0y:=pC [zf] c0i
def r0p:=pC [zf,zf,zt,zf,zt,zt,zf,zf,zt,zt,zf,zf,zf,zf,zf,zf,zt] L0
def X3:=pC [zf,zf,zt,zf,zt,zt,zf,zf,zf] L0
def P4:=pC [zf] r0u
def r0q:=pC [zf,zf,zf,zt] L0
theorem z0w:r0j= .block 0 r0n:=by kernel_rfl
theorem z0x:r0n= .loop Y5:=by kernel_rfl
theorem r0k:m0J= .block 1 r0s:=by kernel_rfl
theorem r0l:m0K= .block 2 k04:=by kernel_rfl
theorem m0L:k04= .loop Z6:=by kernel_rfl
theorem d0e:d0N= .block 3 r0t:=by kernel_rfl
theorem i0g:a07= .region 13 (oC a07) false:=by kernel_rfl
theorem b0x:J4= .region 15 (oC J4) false:=by kernel_rfl
theorem b0y:K4= .region 16 (oC K4) false:=by kernel_rfl
theorem m0M:X3= .region 20 (oC X3) false:=by kernel_rfl
theorem n0t(args:Array Value):Frame.enter Try.prog 56 args .normal=(Go.Conc.base 56).at {tmps:=args++Array.replicate (63 - args.size) undef,defers:=[]} [.code D0F]:=enter_at args Try.func56 rfl
theorem e0r:O1 56:=G2 Try.func56 rfl rfl
def X8(s:Nat→Value):Array Value:= #[s 0,s 1,s 2,s 3,s 4,s 5,s 6,s 7,s 8,s 9,s 10,s 11,s 12,s 13,s 14,s 15,s 16,s 17,s 18,s 19,s 20,s 21,s 22,s 23,s 24,s 25,s 26,s 27,s 28,s 29,s 30,s 31,s 32,s 33,s 34,s 35,s 36,s 37,s 38,s 39,s 40,s 41,s 42,s 43,s 44,s 45,s 46,s 47,s 48,s 49,s 50,s 51,s 52,s 53,s 54,s 55,s 56,s 57,s 58,s 59,s 60,s 61,s 62]
theorem D03{A:Array Value}(h:A.size=63):∃s,A=X8 s:=by
 obtain⟨s,hs,_⟩:=Y4 A h
 exact⟨s,hs⟩
theorem u0f{sv one:Value}{lb:Nat}{va:Option Addr}{m vc:Nat}{a:Int}
 (h:∀A,G0 63 A [(0,vP lb 0),(1,sv),(3,.slice va m vc),(4,one),(19,vI (N2 a:Nat)),(20,vI (0:Nat))]→J0 Try.prog main F Stop (G (Frame.enter Try.prog 89 #[vP lb 0,sv] .normal) ((bA 56 A [.inRegion (oC Y8) [2,3,4,5,6,7],.code Z8,.inBlock 1,.code X3,.inLoop Y5,.inBlock 0,.code P4])::cs)) w):
 J0 Try.prog main F Stop (G (Frame.enter Try.prog 56 #[vP lb 0,sv,vI a,.slice va m vc,one] .normal) cs) w:=by
 have hp:=(A5 a).1
 have hlt:decide ((0:Int)<(N2 a:Int))=true:=by simp;omega
 have hlt2:decide (0<N2 a)=true:=by simp;omega
 rw[n0t]
 walk_nrm
 refine ogW w0m r0r ?_
 simp only[w0m,L0,Try.f56,zz,Nat.reduceAdd]
 refine oT ?_
 refine S0<|ogV w0p r0u<|ogW w0n r0m ?_
 simp only[w0n,L0,Try.f56,zz,Nat.reduceAdd]
 iterate 2 refine oT ?_
 refine S0<|ogGn .skip<|ogK<|ogV w0q P4<|ogW w0o r0j ?_
 simp only[w0o,L0,Try.f56,zz,Nat.reduceAdd]
 refine oT ?_
 refine oc e0s #[vI a] ?_
 refine g0k ?_
 rw[Frame.finish_at]
 walk_nrm
 refine oT ?_
 refine S0 ?_
 rw[z0w]
 refine L7 ?_
 rw[z0x]
 refine ogP<|ogW g0H j0G ?_
 simp only[g0H,L0,Try.f56,zz,Nat.reduceAdd]
 refine oT ?_
 refine S0<|ogV h0N m0P<|ogYn .skip<|ogK<|ogV m0J X3 ?_
 rw[r0k]
 refine L7<|ogW Y8 Z8 ?_
 simp only[Y8,L0,Try.f56,zz,Nat.reduceAdd]
 iterate 2 refine oT ?_
 refine oc e0t #[vP lb 0,sv] ?_
 refine h _ ?_
 exact⟨rfl,rfl,rfl,rfl,rfl,rfl,rfl,trivial⟩
theorem w0r{sv one:Value}{lb:Nat}{va:Option Addr}{m vc:Nat}{nv:Int}{T r:Nat}(hT:T≤1024)(hr:r+1<T){A:Array Value}(hA:G0 63 A [(0,vP lb 0),(1,sv),(3,.slice va m vc),(4,one),(19,vI (T:Nat)),(20,vI (r:Nat))])
 (h:∀A,G0 63 A [(0,vP lb 0),(1,sv),(3,.slice va m vc),(4,one),(19,vI (T:Nat)),(20,vI (r+1:Nat))]→J0 Try.prog main F Stop (G (Frame.enter Try.prog 89 #[vP lb 0,sv] .normal) ((bA 56 A [.inRegion (oC Y8) [2,3,4,5,6,7],.code Z8,.inBlock 1,.code X3,.inLoop Y5,.inBlock 0,.code P4])::cs)) w):
 J0 Try.prog main F Stop (G ((bA 56 A [.inRegion (oC Y8) [2,3,4,5,6,7],.code Z8,.inBlock 1,.code X3,.inLoop Y5,.inBlock 0,.code P4]).finish (.tuple #[vI nv,.bool false])) cs) w:=by
 obtain⟨s,rfl,h0,h1,h3,h4,h19,h20,_⟩:=Y3 X8 hA
 simp only[X8,h0,h1,h3,h4,h19,h20]
 clear h0 h1 h3 h4 h19 h20
 have hk64:IntKind.i64.wrap ((r:Int)+1)=(r:Int)+1:=IntWalk.i64_in _ (by omega)
 have hlt:decide ((r:Int)+1<(T:Int))=true:=by simp;omega
 have hlt2:decide (r+1<T)=true:=by simp;omega
 rw[Frame.finish_at]
 simp only[Y8,L0,Try.f56,zz,Nat.reduceAdd]
 walk_nrm
 iterate 5 refine oT ?_
 refine S0<|ogV f0r f0s<|ogW d0O i0f ?_
 simp only[d0O,L0,Try.f56,zz,Nat.reduceAdd]
 iterate 2 refine oT ?_
 refine S0<|ogYn (.exit 1) ?_
 refine Q0 rfl (fun d=>stepG_exit rfl) ?_
 rw[m0M]
 refine ogR ?_
 simp only[X3,L0,Try.f56,zz,Nat.reduceAdd]
 iterate 2 refine oT ?_
 refine S0<|ogL<|ogW g0H j0G ?_
 simp only[g0H,L0,Try.f56,zz,Nat.reduceAdd]
 refine oT ?_
 refine S0<|ogV h0N m0P<|ogYn .skip<|ogK<|ogV m0J X3 ?_
 rw[r0k]
 refine L7<|ogW Y8 Z8 ?_
 simp only[Y8,L0,Try.f56,zz,Nat.reduceAdd]
 iterate 2 refine oT ?_
 refine oc e0t #[vP lb 0,sv] ?_
 refine h _ ?_
 exact⟨rfl,rfl,rfl,rfl,rfl,rfl,rfl,trivial⟩
theorem w0s{sv one:Value}{lb:Nat}{va:Option Addr}{m vc:Nat}{nv:Int}{T r:Nat}(hT:T≤1024)(hr:r+1=T){A:Array Value}(hA:G0 63 A [(0,vP lb 0),(1,sv),(3,.slice va m vc),(4,one),(19,vI (T:Nat)),(20,vI (r:Nat))]){c:Frame}
 (h:J0 Try.prog main F Stop (G (c.finish (.bool false)) cs) w):
 J0 Try.prog main F Stop (G ((bA 56 A [.inRegion (oC Y8) [2,3,4,5,6,7],.code Z8,.inBlock 1,.code X3,.inLoop Y5,.inBlock 0,.code P4]).finish (.tuple #[vI nv,.bool false])) (c::cs)) w:=by
 obtain⟨s,rfl,h0,h1,h3,h4,h19,h20,_⟩:=Y3 X8 hA
 simp only[X8,h0,h1,h3,h4,h19,h20]
 clear h0 h1 h3 h4 h19 h20
 have hk64:IntKind.i64.wrap ((r:Int)+1)=(r:Int)+1:=IntWalk.i64_in _ (by omega)
 have hlt:decide ((r:Int)+1<(T:Int))=false:=by simp;omega
 have hlt2:decide (r+1<T)=false:=by simp;omega
 rw[Frame.finish_at]
 simp only[Y8,L0,Try.f56,zz,Nat.reduceAdd]
 walk_nrm
 iterate 5 refine oT ?_
 refine S0<|ogV f0r f0s<|ogW d0O i0f ?_
 simp only[d0O,L0,Try.f56,zz,Nat.reduceAdd]
 iterate 2 refine oT ?_
 refine S0<|ogYn (.exit 1) ?_
 refine Q0 rfl (fun d=>stepG_exit rfl) ?_
 rw[m0M]
 refine ogR ?_
 simp only[X3,L0,Try.f56,zz,Nat.reduceAdd]
 iterate 2 refine oT ?_
 refine S0<|ogL<|ogW g0H j0G ?_
 simp only[g0H,L0,Try.f56,zz,Nat.reduceAdd]
 refine oT ?_
 refine S0<|ogV h0N m0P<|ogGn (.exit 0) ?_
 refine Q0 rfl (fun d=>stepG_exit rfl) ?_
 refine ogW r0q .ret ?_
 simp only[r0q,L0,Try.f56,zz,Nat.reduceAdd]
 refine oT ?_
 refine S0<|ogX ?_
 refine Q0 rfl (fun d=>stepG_leave (fn:=Try.f56) (v:=.bool false) rfl rfl Try.func56 (by simp[results,Try.f56]) (by simp[results,Try.f56,go_sem])) ?_
 exact h
theorem m0V{sv one:Value}{lb m vc:Nat}{vb:Nat}{wb wo n T r:Nat}{v x:Int}(hs:SH lb wb wo n w)(hm:0<m)(hx:w.cell? ⟨vb,0,none⟩=some (vI x)){A:Array Value}(hA:G0 63 A [(0,vP lb 0),(1,sv),(3,vL vb 0 m vc),(4,one),(19,vI (T:Nat)),(20,vI (r:Nat))])
 (h:∀A,G0 63 A [(0,vP lb 0),(1,sv),(3,vL vb 0 m vc),(4,one),(11,vI v),(13,vL wb wo n n),(14,vI (0:Nat)),(15,vI x),(33,vI (n:Nat)),(34,vI (0:Nat))]→J0 Try.prog main F Stop (G (Frame.enter Try.prog 61 #[sv] .normal) ((bA 56 A [.inRegion (oC S3) [1],.code J4,.inBlock 3,.code K4,.inLoop Z6,.inBlock 2,.code Q6,.inBlock 1,.code X3,.inLoop Y5,.inBlock 0,.code P4])::cs)) w):
 J0 Try.prog main F Stop (G ((bA 56 A [.inRegion (oC Y8) [2,3,4,5,6,7],.code Z8,.inBlock 1,.code X3,.inLoop Y5,.inBlock 0,.code P4]).finish (.tuple #[vI v,.bool true])) cs) w:=by
 obtain⟨s,rfl,h0,h1,h3,h4,h19,h20,_⟩:=Y3 X8 hA
 simp only[X8,h0,h1,h3,h4,h19,h20]
 clear h0 h1 h3 h4 h19 h20
 have n1:=hs.n1
 have hlt:decide ((0:Int)<(n:Int))=true:=by simp;omega
 have hlt2:decide (0<n)=true:=by simp;omega
 have hmt:decide ((0:Int)<(m:Int))=true:=by simp;omega
 have hmt2:decide (0<m)=true:=by simp;omega
 rw[Frame.finish_at]
 simp only[Y8,L0,Try.f56,zz,Nat.reduceAdd]
 walk_nrm
 iterate 5 refine oT ?_
 refine S0<|ogV f0r f0s<|ogW d0O i0f ?_
 simp only[d0O,L0,Try.f56,zz,Nat.reduceAdd]
 iterate 2 refine oT ?_
 refine S0<|ogGn .skip<|ogK<|ogW m0N i0h ?_
 simp only[m0N,L0,Try.f56,zz,Nat.reduceAdd]
 refine oT ?_
 refine oc a0a #[vP lb 0] ?_
 refine b0l hs ?_
 rw[Frame.finish_at]
 walk_nrm
 refine oT ?_
 refine S0<|ogV k05 Q6<|ogW m0O m0K ?_
 simp only[m0O,L0,Try.f56,zz,Nat.reduceAdd]
 iterate 3 refine oT ?_
 refine S0 ?_
 rw[r0l]
 refine L7 ?_
 rw[m0L]
 refine ogP<|ogW B8 A9 ?_
 simp only[B8,L0,Try.f56,zz,Nat.reduceAdd]
 refine oT ?_
 refine S0<|ogV a06 a0s<|ogYn .skip<|ogK<|ogV d0N K4 ?_
 rw[d0e]
 refine L7<|ogW r8 c0g ?_
 simp only[r8,L0,Try.f56,zz,Nat.reduceAdd]
 iterate 2 refine oT ?_
 refine S0<|ogW v8 a08 ?_
 simp only[v8,L0,Try.f56,zz,Nat.reduceAdd]
 refine oT ?_
 refine S0<|ogV c0h d0g<|ogW w8 d0f ?_
 simp only[w8,L0,Try.f56,zz,Nat.reduceAdd]
 iterate 4 refine oT ?_
 refine S0<|ogYn a07 ?_
 rw[i0g]
 refine ogR ?_
 simp only[a07,L0,Try.f56,zz,Nat.reduceAdd]
 iterate 2 refine oT ?_
 refine oX ?_
 refine oL ?_
 refine oT ?_
 refine S0<|ogW S3 J4 ?_
 simp only[S3,L0,Try.f56,zz,Nat.reduceAdd]
 refine oT ?_
 refine oc L3 #[sv] ?_
 refine h _ ?_
 exact⟨rfl,rfl,rfl,rfl,rfl,rfl,rfl,rfl,rfl,rfl,rfl,trivial⟩
theorem w0t{sv one:Value}{lb m vc:Nat}{va:Option Addr}{wb wo n T r:Nat}{v:Int}(hs:SH lb wb wo n w)(hm:m=0){A:Array Value}(hA:G0 63 A [(0,vP lb 0),(1,sv),(3,.slice va m vc),(4,one),(19,vI (T:Nat)),(20,vI (r:Nat))])
 (h:∀A,G0 63 A [(0,vP lb 0),(1,sv),(3,.slice va m vc),(4,one),(11,vI v),(13,vL wb wo n n),(14,vI (0:Nat)),(15,vI 0),(33,vI (n:Nat)),(34,vI (0:Nat))]→J0 Try.prog main F Stop (G (Frame.enter Try.prog 61 #[sv] .normal) ((bA 56 A [.inRegion (oC S3) [1],.code J4,.inBlock 3,.code K4,.inLoop Z6,.inBlock 2,.code Q6,.inBlock 1,.code X3,.inLoop Y5,.inBlock 0,.code P4])::cs)) w):
 J0 Try.prog main F Stop (G ((bA 56 A [.inRegion (oC Y8) [2,3,4,5,6,7],.code Z8,.inBlock 1,.code X3,.inLoop Y5,.inBlock 0,.code P4]).finish (.tuple #[vI v,.bool true])) cs) w:=by
 obtain⟨s,rfl,h0,h1,h3,h4,h19,h20,_⟩:=Y3 X8 hA
 simp only[X8,h0,h1,h3,h4,h19,h20]
 clear h0 h1 h3 h4 h19 h20
 have n1:=hs.n1
 have hlt:decide ((0:Int)<(n:Int))=true:=by simp;omega
 have hlt2:decide (0<n)=true:=by simp;omega
 have hmt:decide ((0:Int)<(m:Int))=false:=by simp;omega
 have hmt2:decide (0<m)=false:=by simp;omega
 clear hm
 rw[Frame.finish_at]
 simp only[Y8,L0,Try.f56,zz,Nat.reduceAdd]
 walk_nrm
 iterate 5 refine oT ?_
 refine S0<|ogV f0r f0s<|ogW d0O i0f ?_
 simp only[d0O,L0,Try.f56,zz,Nat.reduceAdd]
 iterate 2 refine oT ?_
 refine S0<|ogGn .skip<|ogK<|ogW m0N i0h ?_
 simp only[m0N,L0,Try.f56,zz,Nat.reduceAdd]
 refine oT ?_
 refine oc a0a #[vP lb 0] ?_
 refine b0l hs ?_
 rw[Frame.finish_at]
 walk_nrm
 refine oT ?_
 refine S0<|ogV k05 Q6<|ogW m0O m0K ?_
 simp only[m0O,L0,Try.f56,zz,Nat.reduceAdd]
 iterate 3 refine oT ?_
 refine S0 ?_
 rw[r0l]
 refine L7 ?_
 rw[m0L]
 refine ogP<|ogW B8 A9 ?_
 simp only[B8,L0,Try.f56,zz,Nat.reduceAdd]
 refine oT ?_
 refine S0<|ogV a06 a0s<|ogYn .skip<|ogK<|ogV d0N K4 ?_
 rw[d0e]
 refine L7<|ogW r8 c0g ?_
 simp only[r8,L0,Try.f56,zz,Nat.reduceAdd]
 iterate 2 refine oT ?_
 refine S0<|ogW v8 a08 ?_
 simp only[v8,L0,Try.f56,zz,Nat.reduceAdd]
 refine oT ?_
 refine S0<|ogV c0h d0g<|ogW w8 d0f ?_
 simp only[w8,L0,Try.f56,zz,Nat.reduceAdd]
 iterate 4 refine oT ?_
 refine S0<|ogGn .skip<|ogK<|ogW S3 J4 ?_
 simp only[S3,L0,Try.f56,zz,Nat.reduceAdd]
 refine oT ?_
 refine oc L3 #[sv] ?_
 refine h _ ?_
 exact⟨rfl,rfl,rfl,rfl,rfl,rfl,rfl,rfl,rfl,rfl,rfl,trivial⟩
theorem r0D{sv:Value}{lb m vc:Nat}{vb:Nat}{wb wo n i:Nat}{v u x y:Int}(hn:n≤16)(hi:i+1<n)(hc:w.cell? ⟨wb,wo+i,none⟩=some (vI u))(hz:w.frozen? ⟨wb,wo+i,none⟩=false)(hnh:¬held F ⟨wb,wo+i,none⟩)(hm:i+1<m)(hx:(w.setCell ⟨wb,wo+i,none⟩ (vI x)).cell? ⟨vb,i+1,none⟩=some (vI y)){A:Array Value}(hA:G0 63 A [(0,vP lb 0),(1,sv),(3,vL vb 0 m vc),(4,.func (.func 57) #[] #[]),(11,vI v),(13,vL wb wo n n),(14,vI (i:Nat)),(15,vI x),(33,vI (n:Nat)),(34,vI (i:Nat))])
 (h:∀A,G0 63 A [(0,vP lb 0),(1,sv),(3,vL vb 0 m vc),(4,.func (.func 57) #[] #[]),(11,vI v),(13,vL wb wo n n),(14,vI (i+1:Nat)),(15,vI y),(33,vI (n:Nat)),(34,vI (i+1:Nat))]→J0 Try.prog main F Stop (G (Frame.enter Try.prog 61 #[sv] .normal) ((bA 56 A [.inRegion (oC S3) [1],.code J4,.inBlock 3,.code K4,.inLoop Z6,.inBlock 2,.code Q6,.inBlock 1,.code X3,.inLoop Y5,.inBlock 0,.code P4])::cs)) (w.setCell ⟨wb,wo+i,none⟩ (vI x))):
 J0 Try.prog main F Stop (G ((bA 56 A [.inRegion (oC S3) [1],.code J4,.inBlock 3,.code K4,.inLoop Z6,.inBlock 2,.code Q6,.inBlock 1,.code X3,.inLoop Y5,.inBlock 0,.code P4]).finish (.tuple #[])) (cs)) w:=by
 obtain⟨s,rfl,h0,h1,h3,h4,h11,h13,h14,h15,h33,h34,_⟩:=Y3 X8 hA
 simp only[X8,h0,h1,h3,h4,h11,h13,h14,h15,h33,h34]
 clear h0 h1 h3 h4 h11 h13 h14 h15 h33 h34
 have hk64:IntKind.i64.wrap ((i:Int)+1)=(i:Int)+1:=IntWalk.i64_in _ (by omega)
 have hin:(i:Int)<(n:Int):=by omega
 have hin2:i<n:=by omega
 have hlt:decide ((i:Int)+1<(n:Int))=true:=by simp;omega
 have hlt2:decide (i+1<n)=true:=by simp;omega
 have hmt:decide ((i:Int)+1<(m:Int))=true:=by simp;omega
 have hmt2:decide (i+1<m)=true:=by simp;omega
 have hmi:(i:Int)+1<(m:Int):=by omega
 have hnn:(0:Int)≤(i:Int)+1:=by omega
 have hnb:¬((i:Int)+1<0):=by omega
 rw[Frame.finish_at]
 simp only[S3,L0,Try.f56,zz,Nat.reduceAdd]
 walk_nrm
 refine S0 ?_
 rw[b0x]
 refine ogR ?_
 simp only[J4,L0,Try.f56,zz,Nat.reduceAdd]
 iterate 3 refine oT ?_
 refine oX ?_
 refine oT ?_
 refine oc b0U #[vP wb (wo+i),vI x] ?_
 refine e06 hc hz hnh ?_
 rw[Frame.finish_at]
 walk_nrm
 refine S0<|ogI ?_
 rw[b0y]
 refine ogR ?_
 simp only[K4,L0,Try.f56,zz,Nat.reduceAdd]
 iterate 2 refine oT ?_
 refine S0<|ogL<|ogW B8 A9 ?_
 simp only[B8,L0,Try.f56,zz,Nat.reduceAdd]
 refine oT ?_
 refine S0<|ogV a06 a0s<|ogYn .skip<|ogK<|ogV d0N K4 ?_
 rw[d0e]
 refine L7<|ogW r8 c0g ?_
 simp only[r8,L0,Try.f56,zz,Nat.reduceAdd]
 iterate 2 refine oT ?_
 refine S0<|ogW v8 a08 ?_
 simp only[v8,L0,Try.f56,zz,Nat.reduceAdd]
 refine oT ?_
 refine S0<|ogV c0h d0g<|ogW w8 d0f ?_
 simp only[w8,L0,Try.f56,zz,Nat.reduceAdd]
 iterate 4 refine oT ?_
 refine S0<|ogYn a07 ?_
 rw[i0g]
 refine ogR ?_
 simp only[a07,L0,Try.f56,zz,Nat.reduceAdd]
 iterate 2 refine oT ?_
 refine oX ?_
 refine oL ?_
 refine oT ?_
 refine S0<|ogW S3 J4 ?_
 simp only[S3,L0,Try.f56,zz,Nat.reduceAdd]
 refine oT ?_
 refine oc L3 #[sv] ?_
 refine h _ ?_
 exact⟨rfl,rfl,rfl,rfl,rfl,rfl,rfl,rfl,rfl,rfl,rfl,trivial⟩
theorem z0A{sv:Value}{lb m vc:Nat}{va:Option Addr}{wb wo n i:Nat}{v u x:Int}(hn:n≤16)(hi:i+1<n)(hc:w.cell? ⟨wb,wo+i,none⟩=some (vI u))(hz:w.frozen? ⟨wb,wo+i,none⟩=false)(hnh:¬held F ⟨wb,wo+i,none⟩)(hm:m≤i+1){A:Array Value}(hA:G0 63 A [(0,vP lb 0),(1,sv),(3,.slice va m vc),(4,.func (.func 57) #[] #[]),(11,vI v),(13,vL wb wo n n),(14,vI (i:Nat)),(15,vI x),(33,vI (n:Nat)),(34,vI (i:Nat))])
 (h:∀A,G0 63 A [(0,vP lb 0),(1,sv),(3,.slice va m vc),(4,.func (.func 57) #[] #[]),(11,vI v),(13,vL wb wo n n),(14,vI (i+1:Nat)),(15,vI 0),(33,vI (n:Nat)),(34,vI (i+1:Nat))]→J0 Try.prog main F Stop (G (Frame.enter Try.prog 61 #[sv] .normal) ((bA 56 A [.inRegion (oC S3) [1],.code J4,.inBlock 3,.code K4,.inLoop Z6,.inBlock 2,.code Q6,.inBlock 1,.code X3,.inLoop Y5,.inBlock 0,.code P4])::cs)) (w.setCell ⟨wb,wo+i,none⟩ (vI x))):
 J0 Try.prog main F Stop (G ((bA 56 A [.inRegion (oC S3) [1],.code J4,.inBlock 3,.code K4,.inLoop Z6,.inBlock 2,.code Q6,.inBlock 1,.code X3,.inLoop Y5,.inBlock 0,.code P4]).finish (.tuple #[])) (cs)) w:=by
 obtain⟨s,rfl,h0,h1,h3,h4,h11,h13,h14,h15,h33,h34,_⟩:=Y3 X8 hA
 simp only[X8,h0,h1,h3,h4,h11,h13,h14,h15,h33,h34]
 clear h0 h1 h3 h4 h11 h13 h14 h15 h33 h34
 have hk64:IntKind.i64.wrap ((i:Int)+1)=(i:Int)+1:=IntWalk.i64_in _ (by omega)
 have hin:(i:Int)<(n:Int):=by omega
 have hin2:i<n:=by omega
 have hlt:decide ((i:Int)+1<(n:Int))=true:=by simp;omega
 have hlt2:decide (i+1<n)=true:=by simp;omega
 have hmt:decide ((i:Int)+1<(m:Int))=false:=by simp;omega
 have hmt2:decide (i+1<m)=false:=by simp;omega
 rw[Frame.finish_at]
 simp only[S3,L0,Try.f56,zz,Nat.reduceAdd]
 walk_nrm
 refine S0 ?_
 rw[b0x]
 refine ogR ?_
 simp only[J4,L0,Try.f56,zz,Nat.reduceAdd]
 iterate 3 refine oT ?_
 refine oX ?_
 refine oT ?_
 refine oc b0U #[vP wb (wo+i),vI x] ?_
 refine e06 hc hz hnh ?_
 rw[Frame.finish_at]
 walk_nrm
 refine S0<|ogI ?_
 rw[b0y]
 refine ogR ?_
 simp only[K4,L0,Try.f56,zz,Nat.reduceAdd]
 iterate 2 refine oT ?_
 refine S0<|ogL<|ogW B8 A9 ?_
 simp only[B8,L0,Try.f56,zz,Nat.reduceAdd]
 refine oT ?_
 refine S0<|ogV a06 a0s<|ogYn .skip<|ogK<|ogV d0N K4 ?_
 rw[d0e]
 refine L7<|ogW r8 c0g ?_
 simp only[r8,L0,Try.f56,zz,Nat.reduceAdd]
 iterate 2 refine oT ?_
 refine S0<|ogW v8 a08 ?_
 simp only[v8,L0,Try.f56,zz,Nat.reduceAdd]
 refine oT ?_
 refine S0<|ogV c0h d0g<|ogW w8 d0f ?_
 simp only[w8,L0,Try.f56,zz,Nat.reduceAdd]
 iterate 4 refine oT ?_
 refine S0<|ogGn .skip<|ogK<|ogW S3 J4 ?_
 simp only[S3,L0,Try.f56,zz,Nat.reduceAdd]
 refine oT ?_
 refine oc L3 #[sv] ?_
 refine h _ ?_
 exact⟨rfl,rfl,rfl,rfl,rfl,rfl,rfl,rfl,rfl,rfl,rfl,trivial⟩
theorem r0F{sv:Value}{lb m vc:Nat}{va:Option Addr}{wb wo n i:Nat}{v u x:Int}(hn:n≤16)(hi:i+1=n)(hc:w.cell? ⟨wb,wo+i,none⟩=some (vI u))(hz:w.frozen? ⟨wb,wo+i,none⟩=false)(hnh:¬held F ⟨wb,wo+i,none⟩){A:Array Value}(hA:G0 63 A [(0,vP lb 0),(1,sv),(3,.slice va m vc),(4,.func (.func 57) #[] #[]),(11,vI v),(13,vL wb wo n n),(14,vI (i:Nat)),(15,vI x),(33,vI (n:Nat)),(34,vI (i:Nat))])
 (h:∀A,G0 63 A [(0,vP lb 0),(1,sv),(11,vI v)]→J0 Try.prog main F Stop (G (Frame.enter Try.prog 61 #[sv] .normal) ((bA 56 A [.inRegion (oC a0r) [1],.code c0i,.inBlock 1,.code X3,.inLoop Y5,.inBlock 0,.code P4])::cs)) (w.setCell ⟨wb,wo+i,none⟩ (vI x))):
 J0 Try.prog main F Stop (G ((bA 56 A [.inRegion (oC S3) [1],.code J4,.inBlock 3,.code K4,.inLoop Z6,.inBlock 2,.code Q6,.inBlock 1,.code X3,.inLoop Y5,.inBlock 0,.code P4]).finish (.tuple #[])) (cs)) w:=by
 obtain⟨s,rfl,h0,h1,h3,h4,h11,h13,h14,h15,h33,h34,_⟩:=Y3 X8 hA
 simp only[X8,h0,h1,h3,h4,h11,h13,h14,h15,h33,h34]
 clear h0 h1 h3 h4 h11 h13 h14 h15 h33 h34
 have hk64:IntKind.i64.wrap ((i:Int)+1)=(i:Int)+1:=IntWalk.i64_in _ (by omega)
 have hin:(i:Int)<(n:Int):=by omega
 have hin2:i<n:=by omega
 have hlt:decide ((i:Int)+1<(n:Int))=false:=by simp;omega
 have hlt2:decide (i+1<n)=false:=by simp;omega
 rw[Frame.finish_at]
 simp only[S3,L0,Try.f56,zz,Nat.reduceAdd]
 walk_nrm
 refine S0 ?_
 rw[b0x]
 refine ogR ?_
 simp only[J4,L0,Try.f56,zz,Nat.reduceAdd]
 iterate 3 refine oT ?_
 refine oX ?_
 refine oT ?_
 refine oc b0U #[vP wb (wo+i),vI x] ?_
 refine e06 hc hz hnh ?_
 rw[Frame.finish_at]
 walk_nrm
 refine S0<|ogI ?_
 rw[b0y]
 refine ogR ?_
 simp only[K4,L0,Try.f56,zz,Nat.reduceAdd]
 iterate 2 refine oT ?_
 refine S0<|ogL<|ogW B8 A9 ?_
 simp only[B8,L0,Try.f56,zz,Nat.reduceAdd]
 refine oT ?_
 refine S0<|ogV a06 a0s<|ogGn (.exit 2) ?_
 refine Q0 rfl (fun d=>stepG_exit rfl) ?_
 refine ogW a0r c0i ?_
 simp only[a0r,L0,Try.f56,zz,Nat.reduceAdd]
 refine oT ?_
 refine oc L3 #[sv] ?_
 refine h _ ?_
 exact⟨rfl,rfl,rfl,rfl,trivial⟩
theorem r0E{sv:Value}{lb m vc:Nat}{vb:Nat}{wb wo n i:Nat}{v u x y:Int}(hn:n≤16)(hi:i+1<n)(hc:w.cell? ⟨wb,wo+i,none⟩=some (vI u))(hz:w.frozen? ⟨wb,wo+i,none⟩=false)(hnh:¬held F ⟨wb,wo+i,none⟩)(hm:i+1<m)(hx:(w.setCell ⟨wb,wo+i,none⟩ (vI (IntKind.i64.wrap (u+x)))).cell? ⟨vb,i+1,none⟩=some (vI y)){A:Array Value}(hA:G0 63 A [(0,vP lb 0),(1,sv),(3,vL vb 0 m vc),(4,.func (.func 58) #[] #[]),(11,vI v),(13,vL wb wo n n),(14,vI (i:Nat)),(15,vI x),(33,vI (n:Nat)),(34,vI (i:Nat))])
 (h:∀A,G0 63 A [(0,vP lb 0),(1,sv),(3,vL vb 0 m vc),(4,.func (.func 58) #[] #[]),(11,vI v),(13,vL wb wo n n),(14,vI (i+1:Nat)),(15,vI y),(33,vI (n:Nat)),(34,vI (i+1:Nat))]→J0 Try.prog main F Stop (G (Frame.enter Try.prog 61 #[sv] .normal) ((bA 56 A [.inRegion (oC S3) [1],.code J4,.inBlock 3,.code K4,.inLoop Z6,.inBlock 2,.code Q6,.inBlock 1,.code X3,.inLoop Y5,.inBlock 0,.code P4])::cs)) (w.setCell ⟨wb,wo+i,none⟩ (vI (IntKind.i64.wrap (u+x))))):
 J0 Try.prog main F Stop (G ((bA 56 A [.inRegion (oC S3) [1],.code J4,.inBlock 3,.code K4,.inLoop Z6,.inBlock 2,.code Q6,.inBlock 1,.code X3,.inLoop Y5,.inBlock 0,.code P4]).finish (.tuple #[])) (cs)) w:=by
 obtain⟨s,rfl,h0,h1,h3,h4,h11,h13,h14,h15,h33,h34,_⟩:=Y3 X8 hA
 simp only[X8,h0,h1,h3,h4,h11,h13,h14,h15,h33,h34]
 clear h0 h1 h3 h4 h11 h13 h14 h15 h33 h34
 have hk64:IntKind.i64.wrap ((i:Int)+1)=(i:Int)+1:=IntWalk.i64_in _ (by omega)
 have hin:(i:Int)<(n:Int):=by omega
 have hin2:i<n:=by omega
 have hlt:decide ((i:Int)+1<(n:Int))=true:=by simp;omega
 have hlt2:decide (i+1<n)=true:=by simp;omega
 have hmt:decide ((i:Int)+1<(m:Int))=true:=by simp;omega
 have hmt2:decide (i+1<m)=true:=by simp;omega
 have hmi:(i:Int)+1<(m:Int):=by omega
 have hnn:(0:Int)≤(i:Int)+1:=by omega
 have hnb:¬((i:Int)+1<0):=by omega
 rw[Frame.finish_at]
 simp only[S3,L0,Try.f56,zz,Nat.reduceAdd]
 walk_nrm
 refine S0 ?_
 rw[b0x]
 refine ogR ?_
 simp only[J4,L0,Try.f56,zz,Nat.reduceAdd]
 iterate 3 refine oT ?_
 refine oX ?_
 refine oT ?_
 refine oc b0V #[vP wb (wo+i),vI x] ?_
 refine e07 hc hz hnh ?_
 rw[Frame.finish_at]
 walk_nrm
 refine S0<|ogI ?_
 rw[b0y]
 refine ogR ?_
 simp only[K4,L0,Try.f56,zz,Nat.reduceAdd]
 iterate 2 refine oT ?_
 refine S0<|ogL<|ogW B8 A9 ?_
 simp only[B8,L0,Try.f56,zz,Nat.reduceAdd]
 refine oT ?_
 refine S0<|ogV a06 a0s<|ogYn .skip<|ogK<|ogV d0N K4 ?_
 rw[d0e]
 refine L7<|ogW r8 c0g ?_
 simp only[r8,L0,Try.f56,zz,Nat.reduceAdd]
 iterate 2 refine oT ?_
 refine S0<|ogW v8 a08 ?_
 simp only[v8,L0,Try.f56,zz,Nat.reduceAdd]
 refine oT ?_
 refine S0<|ogV c0h d0g<|ogW w8 d0f ?_
 simp only[w8,L0,Try.f56,zz,Nat.reduceAdd]
 iterate 4 refine oT ?_
 refine S0<|ogYn a07 ?_
 rw[i0g]
 refine ogR ?_
 simp only[a07,L0,Try.f56,zz,Nat.reduceAdd]
 iterate 2 refine oT ?_
 refine oX ?_
 refine oL ?_
 refine oT ?_
 refine S0<|ogW S3 J4 ?_
 simp only[S3,L0,Try.f56,zz,Nat.reduceAdd]
 refine oT ?_
 refine oc L3 #[sv] ?_
 refine h _ ?_
 exact⟨rfl,rfl,rfl,rfl,rfl,rfl,rfl,rfl,rfl,rfl,rfl,trivial⟩
theorem z0B{sv:Value}{lb m vc:Nat}{va:Option Addr}{wb wo n i:Nat}{v u x:Int}(hn:n≤16)(hi:i+1<n)(hc:w.cell? ⟨wb,wo+i,none⟩=some (vI u))(hz:w.frozen? ⟨wb,wo+i,none⟩=false)(hnh:¬held F ⟨wb,wo+i,none⟩)(hm:m≤i+1){A:Array Value}(hA:G0 63 A [(0,vP lb 0),(1,sv),(3,.slice va m vc),(4,.func (.func 58) #[] #[]),(11,vI v),(13,vL wb wo n n),(14,vI (i:Nat)),(15,vI x),(33,vI (n:Nat)),(34,vI (i:Nat))])
 (h:∀A,G0 63 A [(0,vP lb 0),(1,sv),(3,.slice va m vc),(4,.func (.func 58) #[] #[]),(11,vI v),(13,vL wb wo n n),(14,vI (i+1:Nat)),(15,vI 0),(33,vI (n:Nat)),(34,vI (i+1:Nat))]→J0 Try.prog main F Stop (G (Frame.enter Try.prog 61 #[sv] .normal) ((bA 56 A [.inRegion (oC S3) [1],.code J4,.inBlock 3,.code K4,.inLoop Z6,.inBlock 2,.code Q6,.inBlock 1,.code X3,.inLoop Y5,.inBlock 0,.code P4])::cs)) (w.setCell ⟨wb,wo+i,none⟩ (vI (IntKind.i64.wrap (u+x))))):
 J0 Try.prog main F Stop (G ((bA 56 A [.inRegion (oC S3) [1],.code J4,.inBlock 3,.code K4,.inLoop Z6,.inBlock 2,.code Q6,.inBlock 1,.code X3,.inLoop Y5,.inBlock 0,.code P4]).finish (.tuple #[])) (cs)) w:=by
 obtain⟨s,rfl,h0,h1,h3,h4,h11,h13,h14,h15,h33,h34,_⟩:=Y3 X8 hA
 simp only[X8,h0,h1,h3,h4,h11,h13,h14,h15,h33,h34]
 clear h0 h1 h3 h4 h11 h13 h14 h15 h33 h34
 have hk64:IntKind.i64.wrap ((i:Int)+1)=(i:Int)+1:=IntWalk.i64_in _ (by omega)
 have hin:(i:Int)<(n:Int):=by omega
 have hin2:i<n:=by omega
 have hlt:decide ((i:Int)+1<(n:Int))=true:=by simp;omega
 have hlt2:decide (i+1<n)=true:=by simp;omega
 have hmt:decide ((i:Int)+1<(m:Int))=false:=by simp;omega
 have hmt2:decide (i+1<m)=false:=by simp;omega
 rw[Frame.finish_at]
 simp only[S3,L0,Try.f56,zz,Nat.reduceAdd]
 walk_nrm
 refine S0 ?_
 rw[b0x]
 refine ogR ?_
 simp only[J4,L0,Try.f56,zz,Nat.reduceAdd]
 iterate 3 refine oT ?_
 refine oX ?_
 refine oT ?_
 refine oc b0V #[vP wb (wo+i),vI x] ?_
 refine e07 hc hz hnh ?_
 rw[Frame.finish_at]
 walk_nrm
 refine S0<|ogI ?_
 rw[b0y]
 refine ogR ?_
 simp only[K4,L0,Try.f56,zz,Nat.reduceAdd]
 iterate 2 refine oT ?_
 refine S0<|ogL<|ogW B8 A9 ?_
 simp only[B8,L0,Try.f56,zz,Nat.reduceAdd]
 refine oT ?_
 refine S0<|ogV a06 a0s<|ogYn .skip<|ogK<|ogV d0N K4 ?_
 rw[d0e]
 refine L7<|ogW r8 c0g ?_
 simp only[r8,L0,Try.f56,zz,Nat.reduceAdd]
 iterate 2 refine oT ?_
 refine S0<|ogW v8 a08 ?_
 simp only[v8,L0,Try.f56,zz,Nat.reduceAdd]
 refine oT ?_
 refine S0<|ogV c0h d0g<|ogW w8 d0f ?_
 simp only[w8,L0,Try.f56,zz,Nat.reduceAdd]
 iterate 4 refine oT ?_
 refine S0<|ogGn .skip<|ogK<|ogW S3 J4 ?_
 simp only[S3,L0,Try.f56,zz,Nat.reduceAdd]
 refine oT ?_
 refine oc L3 #[sv] ?_
 refine h _ ?_
 exact⟨rfl,rfl,rfl,rfl,rfl,rfl,rfl,rfl,rfl,rfl,rfl,trivial⟩
theorem r0G{sv:Value}{lb m vc:Nat}{va:Option Addr}{wb wo n i:Nat}{v u x:Int}(hn:n≤16)(hi:i+1=n)(hc:w.cell? ⟨wb,wo+i,none⟩=some (vI u))(hz:w.frozen? ⟨wb,wo+i,none⟩=false)(hnh:¬held F ⟨wb,wo+i,none⟩){A:Array Value}(hA:G0 63 A [(0,vP lb 0),(1,sv),(3,.slice va m vc),(4,.func (.func 58) #[] #[]),(11,vI v),(13,vL wb wo n n),(14,vI (i:Nat)),(15,vI x),(33,vI (n:Nat)),(34,vI (i:Nat))])
 (h:∀A,G0 63 A [(0,vP lb 0),(1,sv),(11,vI v)]→J0 Try.prog main F Stop (G (Frame.enter Try.prog 61 #[sv] .normal) ((bA 56 A [.inRegion (oC a0r) [1],.code c0i,.inBlock 1,.code X3,.inLoop Y5,.inBlock 0,.code P4])::cs)) (w.setCell ⟨wb,wo+i,none⟩ (vI (IntKind.i64.wrap (u+x))))):
 J0 Try.prog main F Stop (G ((bA 56 A [.inRegion (oC S3) [1],.code J4,.inBlock 3,.code K4,.inLoop Z6,.inBlock 2,.code Q6,.inBlock 1,.code X3,.inLoop Y5,.inBlock 0,.code P4]).finish (.tuple #[])) (cs)) w:=by
 obtain⟨s,rfl,h0,h1,h3,h4,h11,h13,h14,h15,h33,h34,_⟩:=Y3 X8 hA
 simp only[X8,h0,h1,h3,h4,h11,h13,h14,h15,h33,h34]
 clear h0 h1 h3 h4 h11 h13 h14 h15 h33 h34
 have hk64:IntKind.i64.wrap ((i:Int)+1)=(i:Int)+1:=IntWalk.i64_in _ (by omega)
 have hin:(i:Int)<(n:Int):=by omega
 have hin2:i<n:=by omega
 have hlt:decide ((i:Int)+1<(n:Int))=false:=by simp;omega
 have hlt2:decide (i+1<n)=false:=by simp;omega
 rw[Frame.finish_at]
 simp only[S3,L0,Try.f56,zz,Nat.reduceAdd]
 walk_nrm
 refine S0 ?_
 rw[b0x]
 refine ogR ?_
 simp only[J4,L0,Try.f56,zz,Nat.reduceAdd]
 iterate 3 refine oT ?_
 refine oX ?_
 refine oT ?_
 refine oc b0V #[vP wb (wo+i),vI x] ?_
 refine e07 hc hz hnh ?_
 rw[Frame.finish_at]
 walk_nrm
 refine S0<|ogI ?_
 rw[b0y]
 refine ogR ?_
 simp only[K4,L0,Try.f56,zz,Nat.reduceAdd]
 iterate 2 refine oT ?_
 refine S0<|ogL<|ogW B8 A9 ?_
 simp only[B8,L0,Try.f56,zz,Nat.reduceAdd]
 refine oT ?_
 refine S0<|ogV a06 a0s<|ogGn (.exit 2) ?_
 refine Q0 rfl (fun d=>stepG_exit rfl) ?_
 refine ogW a0r c0i ?_
 simp only[a0r,L0,Try.f56,zz,Nat.reduceAdd]
 refine oT ?_
 refine oc L3 #[sv] ?_
 refine h _ ?_
 exact⟨rfl,rfl,rfl,rfl,trivial⟩
theorem u0g{sv:Value}{lb:Nat}{v:Int}{u:Value}(hc:w.cell? ⟨lb,0,none⟩=some u)(hz:w.frozen? ⟨lb,0,none⟩=false)(hnh:¬held F ⟨lb,0,none⟩){A:Array Value}(hA:G0 63 A [(0,vP lb 0),(1,sv),(11,vI v)]){c:Frame}
 (h:J0 Try.prog main F Stop (G (c.finish (.bool true)) cs) (w.setCell ⟨lb,0,none⟩ (vI (i6 (v+2))))):
 J0 Try.prog main F Stop (G ((bA 56 A [.inRegion (oC a0r) [1],.code c0i,.inBlock 1,.code X3,.inLoop Y5,.inBlock 0,.code P4]).finish (.tuple #[])) (c::cs)) w:=by
 obtain⟨s,rfl,h0,h1,h11,_⟩:=Y3 X8 hA
 simp only[X8,h0,h1,h11]
 clear h0 h1 h11
 rw[Frame.finish_at]
 simp only[a0r,L0,Try.f56,zz,Nat.reduceAdd]
 walk_nrm
 refine S0<|ogW r0o z0y ?_
 simp only[r0o,L0,Try.f56,zz,Nat.reduceAdd]
 iterate 5 refine oT ?_
 refine oc e0q #[vP lb 0,vI (i6 (v+2))] ?_
 refine l01 hc rfl hz hnh ?_
 rw[Frame.finish_at]
 walk_nrm
 refine S0<|ogW r0p .ret ?_
 simp only[r0p,L0,Try.f56,zz,Nat.reduceAdd]
 refine oT ?_
 refine S0<|ogX ?_
 refine Q0 rfl (fun d=>stepG_leave (fn:=Try.f56) (v:=.bool true) rfl rfl Try.func56 (by simp[results,Try.f56]) (by simp[results,Try.f56,go_sem])) ?_
 exact h
def a0m:Code:=Try.f24.body.getD .skip
def C0P:=pC [] a0m
def v0l:=pC [zt] a0m
def C0Q:=pC [zf] a0m
def g0n:=pC [zf,zt] a0m
theorem n0b(args:Array Value):Frame.enter Try.prog 24 args .normal=(Go.Conc.base 24).at {tmps:=args++Array.replicate (14 - args.size) undef,defers:=[]} [.code C0P]:=enter_at args Try.func24 rfl
theorem b0a:O1 24:=G2 Try.func24 rfl rfl
def C0O(s:Nat→Value):Array Value:= #[s 0,s 1,s 2,s 3,s 4,s 5,s 6,s 7,s 8,s 9,s 10,s 11,s 12,s 13]
theorem t0K{A:Array Value}(h:A.size=14):∃s,A=C0O s:=by
 obtain⟨s,hs,_⟩:=Y4 A h
 exact⟨s,hs⟩
theorem w0u{sv:Value}{lb:Nat}{va:Option Addr}{m vc:Nat}{a:Int}
 (h:∀A,A.size=14→J0 Try.prog main F Stop (G (Frame.enter Try.prog 56 #[vP lb 0,sv,vI a,.slice va m vc,.func (.func 57) #[] #[]] .normal) ((bA 24 A [.inRegion (oC g0n) [4,5],.code .ret])::cs)) w):
 J0 Try.prog main F Stop (G (Frame.enter Try.prog 24 #[vP lb 0,sv,vI a,.slice va m vc] .normal) cs) w:=by
 rw[n0b]
 walk_nrm
 refine ogW v0l C0Q ?_
 simp only[v0l,a0m,Try.f24,zz,Nat.reduceAdd]
 refine oT ?_
 refine S0<|ogW g0n .ret ?_
 simp only[g0n,a0m,Try.f24,zz,Nat.reduceAdd]
 iterate 4 refine oT ?_
 refine oc e0r #[vP lb 0,sv,vI a,.slice va m vc,.func (.func 57) #[] #[]] ?_
 exact h _ rfl
theorem r0M{b:Bool}{A:Array Value}(hsz:A.size=14){c:Frame}(h:J0 Try.prog main F Stop (G (c.finish (.bool b)) cs) w):J0 Try.prog main F Stop (G ((bA 24 A [.inRegion (oC g0n) [4,5],.code .ret]).finish (.bool b)) (c::cs)) w:=by
 obtain⟨s,rfl⟩:=t0K hsz
 clear hsz
 simp only[C0O]
 rw[Frame.finish_at]
 simp only[g0n,a0m,Try.f24,zz,Nat.reduceAdd]
 walk_nrm
 refine oT ?_
 refine S0<|ogX ?_
 refine Q0 rfl (fun d=>stepG_leave (fn:=Try.f24) (v:=.bool b) rfl rfl Try.func24 (by simp[results,Try.f24]) (by simp[results,Try.f24,go_sem])) ?_
 exact h
def a0l:Code:=Try.f25.body.getD .skip
def C0J:=pC [] a0l
def v0k:=pC [zt] a0l
def C0K:=pC [zf] a0l
def g0m:=pC [zf,zt] a0l
theorem n0a(args:Array Value):Frame.enter Try.prog 25 args .normal=(Go.Conc.base 25).at {tmps:=args++Array.replicate (14 - args.size) undef,defers:=[]} [.code C0J]:=enter_at args Try.func25 rfl
theorem b0i:O1 25:=G2 Try.func25 rfl rfl
def C0I(s:Nat→Value):Array Value:= #[s 0,s 1,s 2,s 3,s 4,s 5,s 6,s 7,s 8,s 9,s 10,s 11,s 12,s 13]
theorem t0J{A:Array Value}(h:A.size=14):∃s,A=C0I s:=by
 obtain⟨s,hs,_⟩:=Y4 A h
 exact⟨s,hs⟩
theorem w0v{sv:Value}{lb:Nat}{va:Option Addr}{m vc:Nat}{a:Int}
 (h:∀A,A.size=14→J0 Try.prog main F Stop (G (Frame.enter Try.prog 56 #[vP lb 0,sv,vI a,.slice va m vc,.func (.func 58) #[] #[]] .normal) ((bA 25 A [.inRegion (oC g0m) [4,5],.code .ret])::cs)) w):
 J0 Try.prog main F Stop (G (Frame.enter Try.prog 25 #[vP lb 0,sv,vI a,.slice va m vc] .normal) cs) w:=by
 rw[n0a]
 walk_nrm
 refine ogW v0k C0K ?_
 simp only[v0k,a0l,Try.f25,zz,Nat.reduceAdd]
 refine oT ?_
 refine S0<|ogW g0m .ret ?_
 simp only[g0m,a0l,Try.f25,zz,Nat.reduceAdd]
 iterate 4 refine oT ?_
 refine oc e0r #[vP lb 0,sv,vI a,.slice va m vc,.func (.func 58) #[] #[]] ?_
 exact h _ rfl
theorem r0N{b:Bool}{A:Array Value}(hsz:A.size=14){c:Frame}(h:J0 Try.prog main F Stop (G (c.finish (.bool b)) cs) w):J0 Try.prog main F Stop (G ((bA 25 A [.inRegion (oC g0m) [4,5],.code .ret]).finish (.bool b)) (c::cs)) w:=by
 obtain⟨s,rfl⟩:=t0J hsz
 clear hsz
 simp only[C0I]
 rw[Frame.finish_at]
 simp only[g0m,a0l,Try.f25,zz,Nat.reduceAdd]
 walk_nrm
 refine oT ?_
 refine S0<|ogX ?_
 refine Q0 rfl (fun d=>stepG_leave (fn:=Try.f25) (v:=.bool b) rfl rfl Try.func25 (by simp[results,Try.f25]) (by simp[results,Try.f25,go_sem])) ?_
 exact h
end
section
variable{w w':World}
theorem F1{b j:Nat}(hw:w'.heap[b]? =w.heap[b]?):w'.cell? ⟨b,j,none⟩=w.cell? ⟨b,j,none⟩∧w'.frozen? ⟨b,j,none⟩=w.frozen? ⟨b,j,none⟩:=by
 constructor
 ·unfold World.cell?;simp only[hw]
 ·unfold World.frozen?;simp only[hw]
theorem c0Z{base n size cap g:Nat}{e:TypeId}{xs:List Value}(h:w.ownsRow base e size (vL g 0 n cap) n xs):∀j u,xs[j]? =some u→w.cell? ((⟨g,0,none⟩:Addr).add j)=some u:=by
 intro j u hj
 obtain⟨b,c,e1,h1⟩:=M5 h hj
 cases e1
 have e1:(⟨g,0,none⟩:Addr).add j=⟨g,j,none⟩:=by
  unfold Addr.add
  split
  ·subst_vars;rfl
  ·simp
 rw[e1]
 exact h1.c
theorem G6{P:Program}{w:World}(t ty e:TypeId)(i:TypeInfo)(z:Value)(size bytes:Nat)(ht:P.underlying t=some (.slice e))(hi:P.info? e=some i)(hz:i.zero=some z)
 (hsize:i.size=size) (hby:i.bytes=bytes) (hzs:z.cells.size=size) (hsz:0<size)
 (v:Value) (n:Nat) (xs:List Value) (hown:w.ownsRow 0 e size v n xs)
 (a:Addr) (m c:Nat) (news:List Value) (hl:news.length=m*size) (hnews:∀j u,news[j]? =some u→w.cell? (a.add j)=some u) (h1:∀u∈news,u.oneCell'=true)
 (h63:n+m≤maxLen) (hbytes:(n+m)*bytes≤140737488355328):
 ∃v' w',(Builtin.append_ #[t,t] ty #[v,.slice (some a) m c]).run P w= .ok v' w'∧w'.ownsRow 0 e size v' (n+m) (xs++news)∧w.grownBy w' v.ownBlock∧(v'.ownBlock=v.ownBlock∨∃g,v'.ownBlock=some g∧w.heap.size≤g):=by
 rcases hown.2 with⟨rfl,rfl⟩|⟨g,cap,cur,rfl,h2,h3,h4,h5,h6,h7⟩
 ·have hxs:xs=[]:=List.eq_nil_of_length_eq_zero (by have:=hown.1;simpa using this)
  subst hxs
  obtain⟨v',w',hrun,r1,r2,_⟩:=run_append_own (P:=P) w w.heap.size t ty e i z size bytes ht hi hz hsize hby hzs hsz (.slice none 0 0) 0 [] (World.ownsRow_nil w _ e size) a m c news hl hnews h1 h63 hbytes (Nat.le_refl _)
  refine⟨v',w',hrun,j4 (Nat.zero_le _) r1,r2,?_⟩
  rcases r1.2 with⟨rfl,_⟩|⟨g',cap',cur',rfl,h2,_⟩
  ·exact .inl rfl
  ·exact .inr ⟨g',rfl,h2⟩
 ·by_cases hroom:n+m≤cap
  ·obtain⟨w',hr,r1,r2⟩:=run_append_own_spare (P:=P) w 0 t ty e i size ht hi hsize g n cap xs hown a m c news hl hnews h1 hroom
   exact⟨_,w',hr,r1,r2,.inl rfl⟩
  ·obtain⟨v',w',hrun,r1,r2⟩:=run_append_arg_grows (P:=P) w t ty e i z size bytes ht hi hz hsize hby hzs hsz ⟨g,0,none⟩ n cap xs hown.1 (c0Z hown) a m c news hl hnews (by omega) h63 hbytes
   refine⟨v',w',hrun,j4 (Nat.zero_le _) r1,⟨r2.os,r2.tape,r2.output,r2.size,fun k hk _=>r2.block k hk (by simp)⟩,?_⟩
   rcases r1.2 with⟨rfl,h0⟩|⟨g',cap',cur',rfl,h2,_⟩
   ·omega
   ·exact .inr ⟨g',rfl,h2⟩
theorem g03{P:Program}{t:TypeId}{s b:Nat}(h:(P.info? t).map (fun i=>(i.zero.map (·.cells.size),i.size,i.bytes))=some (some s,s,b)):∃i z,P.info? t=some i∧i.zero=some z∧i.size=s∧i.bytes=b∧z.cells.size=s:=by
 obtain⟨i,hi,h1⟩:=Option.map_eq_some_iff.1 h
 simp only[Prod.mk.injEq]at h1
 obtain⟨z,hz,h2⟩:=Option.map_eq_some_iff.1 h1.1
 exact⟨i,z,hi,hz,h1.2.1,h1.2.2,h2⟩
theorem m08:∃i z,Try.prog.info? 44=some i∧i.zero=some z∧i.size=3∧i.bytes=40∧z.cells.size=3:=g03 (by kernel_rfl)
theorem t0j:∃i z,Try.prog.info? 3=some i∧i.zero=some z∧i.size=1∧i.bytes=8∧z.cells.size=1:=g03 (by kernel_rfl)
theorem i8:∃i z,Try.prog.info? 2=some i∧i.zero=some z∧i.size=1∧i.bytes=8∧z.cells.size=1:=g03 (by kernel_rfl)
theorem N4{X:World}{l:List Value}{e:TypeId}{z:Nat}(hz:X.heap.size=z):∀(j:Nat) (u:Value),l[j]? =some u→(X.alloc (.cells l.toArray e)).cell? ((⟨z,0,none⟩:Addr).add j)=some u:=by
 intro j u h
 subst hz
 have hb:=heap_alloc_new X (.cells l.toArray e)
 have e1:(⟨X.heap.size,0,none⟩:Addr).add j=⟨X.heap.size,j,none⟩:=by
  unfold Addr.add
  split
  ·subst_vars;rfl
  ·simp
 rw[e1]
 simp only[World.cell?,hb]
 simpa using h
theorem j5{v:Value}{base n size:Nat}{e:TypeId}{xs:List Value}(h:w.ownsRow base e size v (n+1) xs):∃g cap,v=vL g 0 (n+1) cap:=by
 rcases h.2 with⟨_,h⟩|⟨g,cap,_,h,_⟩
 ·omega
 ·exact⟨g,cap,h⟩
structure X9(w wr:World)(ov:Value)(xs:List Int):Prop where
 row:wr.ownsRow 0 2 1 ov xs.length (xs.map fun v=>vI v)
 size:w.heap.size≤wr.heap.size
 old:∀r,r<w.heap.size→wr.heap[r]? =w.heap[r]?
 new:∀g,ov.ownBlock=some g→w.heap.size≤g
structure B5(w:World)(a:Option Addr)(xs:List Value):Prop where
 c:∀k x,xs[k]? =some x→∃b o,a=some ⟨b,o,none⟩∧w.cell? ⟨b,o+k,none⟩=some x
theorem B5.heap{a:Option Addr}{xs:List Value}(h:B5 w a xs)(e:w'.heap=w.heap):B5 w' a xs:=
 ⟨fun k x hx=>by
  obtain⟨b,o,h1,h2⟩:=h.c k x hx
  exact⟨b,o,h1,by simpa only[World.cell?,e]using h2⟩⟩
theorem c0E{base n size c:Nat}{e:TypeId}{a:Option Addr}{xs:List Value}(h:w.ownsRow base e size (.slice a n c) n xs):B5 w a xs:=
 ⟨fun k x hx=>by
  obtain⟨b,cap,e1,h1⟩:=M5 h hx
  cases e1
  exact⟨b,0,rfl,by rw[Nat.zero_add];exact h1.c⟩⟩
end
noncomputable section
variable {cs:List Frame}{main:Bool}{Stop:Goroutine→World→Prop}
variable{F:Fz}{w:World}
theorem d0z{b:Frame}{a:Act}{k:List Item}{cs:List Frame}{ops:Array Oper}{i:Nat}{rest:List Nat}{o:Oper}{main:Bool}{Stop:Goroutine→World→Prop}(ho:ops[i]? =some o)(hwn:Region.wanted o (yielded ops a.tmps)=true)(hk:b.kind≠.early)(hok:h0a Try.prog (fun _=>false) false o.op=true)(hw:Wf F w)
 (H:∀d,∃v u,(execOp a.eval o).run Try.prog (L1 F (w.at d))= .ok (.value v) u∧∀w',u=L1 F w'→(∃j,V3 F (w.at d) w' j)→Wf F w'→J0 Try.prog main F Stop (G (b.at (a.put o.dst v) (.inRegion ops rest::k)) cs) w'):
 J0 Try.prog main F Stop (G (b.at a (.inRegion ops (i::rest)::k)) cs) w:=by
 refine oW (fun d K hK=>?_) ho hwn hk
 obtain⟨v,u,hr,hc⟩:=H d
 have hs:=a0J (P:=Try.prog) (F:=F) (S:=fun _=>false) (px:=false) (fun f h=>by cases h) (fun h=>by cases h) a.eval (fun _=>rfl) (fun _=>rfl) o hok (w.at d) ⟨hw.own⟩
 obtain⟨w',es,j,hu,r1,e1,t1,g1,hw1,_⟩:=hs.ok hr
 rw[r1]
 refine hK _ _ ⟨⟨⟨j,g1⟩,fun e he=>?_⟩,hc w' hu ⟨j,g1⟩ hw1⟩
 have hm:=mem_listed he
 rw[e1]at hm
 exact t1 e (by simpa using hm)
theorem S8{t e:TypeId}{sz bytes:Nat}(ht:Try.prog.underlying t=some (.slice e))(hi:∃i z,Try.prog.info? e=some i∧i.zero=some z∧i.size=sz∧i.bytes=bytes∧z.cells.size=sz)(hsz:0<sz)
 {b:Frame} {a:Act} {k:List Item} {cs:List Frame} {ops:Array Oper} {i:Nat} {rest:List Nat} {o:Oper} {main:Bool} {Stop:Goroutine→World→Prop} {s x:Operand} (ho:ops[i]? =some o) (hwn:Region.wanted o (yielded ops a.tmps)=true) (hk:b.kind≠.early)
 (hop:o.op= .call {callee:=.builtin .append,args:= #[s,x],argTypes:= #[t,t]}) (hw:Wf F w) {v:Value} {n m c:Nat} {xs news:List Value} {ad:Addr} (hs:a.eval s=v) (hx:a.eval x= .slice (some ad) m c) (hrow:w.ownsRow 0 e sz v n xs) (hF:∀b,v.ownBlock=some b→F b=none)
 (hl:news.length=m*sz) (hc:∀j u,news[j]? =some u→w.cell? (ad.add j)=some u) (h1:∀u∈news,u.oneCell'=true) (b1:n+m≤maxLen) (b2:(n+m)*bytes≤140737488355328)
 (K:∀v' w',w'.ownsRow 0 e sz v' (n+m) (xs++news)→Wf F w'→w.heap.size≤w'.heap.size→(∀r,r<w.heap.size→some r≠v.ownBlock→w'.heap[r]? =w.heap[r]?)→(v'.ownBlock=v.ownBlock∨∃g,v'.ownBlock=some g∧w.heap.size≤g)→J0 Try.prog main F Stop (G (b.at (a.put o.dst v') (.inRegion ops rest::k)) cs) w'):
 J0 Try.prog main F Stop (G (b.at a (.inRegion ops (i::rest)::k)) cs) w:=by
 obtain⟨i0,z0,q1,q2,q3,q4,q5⟩:=hi
 refine d0z ho hwn hk (by rw[hop];rfl) hw fun d=>?_
 have hrowm:(L1 F (w.at d)).ownsRow 0 e sz v n xs:=K0 hrow fun b hb _=>by rw[I2 (hF b hb)];rfl
 obtain⟨v',u,hr,r1,r2,r3⟩:=G6 (P:=Try.prog) (w:=L1 F (w.at d)) t o.type e i0 z0 sz bytes ht q1 q2 q3 q4 q5 hsz v n xs hrowm ad m c news hl (fun j u hu=>(A7 _).trans (hc j u hu)) h1 b1 b2
 refine⟨v',u,V6 s x t hop hs hx hr,fun w' hu hg hw'=>?_⟩
 subst hu
 obtain⟨j,hg⟩:=hg
 have hsm:(L1 F (w.at d)).heap.size=w.heap.size:=by rw[M4];rfl
 have hs2:w.heap.size≤w'.heap.size:=by
  have:=r2.size
  rw[hsm,M4]at this
  exact this
 have hn:∀b,v'.ownBlock=some b→F b=none:=fun b hb=>by
  rcases r3 with e|⟨g,e,h⟩
  ·exact hF b (by rw[← e];exact hb)
  ·have hbg:b=g:=by rw[e]at hb;exact(Option.some.inj hb).symm
   rw[hsm]at h
   rw[hbg]
   cases hz:F g with
   | none=>rfl
   | some z=>
     obtain⟨c,e,z0,h2,_⟩:=hw.own g z hz
     have:=(Q3 h2)
     omega
 refine K v' w' (K0 r1 fun b hb _=>(I2 (hn b hb)).symm) hw' hs2 (fun r hr hne=>?_) (r3.imp_right fun⟨g,h1,h2⟩=>⟨g,h1,by rw[hsm]at h2;exact h2⟩)
 exact c0U (w:=w.at d) hg (r2.block r (by rw[hsm];exact hr) hne) hr
structure f8(F:Fz)(w w':World)(ov ov':Value)(xs:List Int)(u:Int):Prop where
 row:w'.ownsRow 0 2 1 ov' (xs.length+1) ((xs++[u]).map fun v=>vI v)
 wf:Wf F w'
 size:w.heap.size≤w'.heap.size
 old:∀r,r<w.heap.size→some r≠ov.ownBlock→w'.heap[r]? =w.heap[r]?
 blk:ov'.ownBlock=ov.ownBlock∨∃g,ov'.ownBlock=some g∧w.heap.size≤g
def D3:Code:=Try.f28.body.getD .skip
def D0i:=pC [] D3
def v00:=pC [zt] D3
def v05:=pC [zf] D3
def v01:=pC [zf,zt] D3
def v06:=pC [zf] v05
def v02:=pC [zf,zf,zt] D3
def r0b:=pC [zf] v06
def v07:=pC [zt] r0b
def v03:=pC [zf,zf,zf,zt,zt] D3
def q05:=pC [zf] v07
def q07:=pC [zt] q05
def f0o:=pC [zt] q07
def g0D:=pC [zf,zf,zf,zt,zf,zt,zt,zt] D3
def j0D:=pC [zf] f0o
def k0W:=pC [zt] j0D
def m0z:=pC [zf] j0D
def m0x:=pC [zt] m0z
def v08:=pC [zt] m0x
def m0y:=pC [zf,zf,zf,zt,zf,zt,zt,zf,zf,zt,zt,zt] D3
def r0a:=pC [zf] v08
def a02:=pC [zf,zf,zf,zt,zf,zt,zt,zf,zf,zt,zt,zf,zt] D3
def a03:=pC [zf,zf,zf,zt,zf,zt,zt,zf,zf,zt,zt,zf,zf] D3
def a04:=pC [zf,zf,zf,zt,zf,zt,zt,zf,zf,zf] D3
def c08:=pC [zf] r0b
def v04:=pC [zf,zf,zf,zf,zt] D3
theorem z0q:q05= .block 0 q07:=by kernel_rfl
theorem z0r:q07= .loop f0o:=by kernel_rfl
theorem q06:m0x= .block 1 v08:=by kernel_rfl
theorem q08:a03= .region 7 (oC a03) false:=by kernel_rfl
theorem q09:a04= .region 8 (oC a04) false:=by kernel_rfl
theorem n0o(args:Array Value):Frame.enter Try.prog 28 args .normal=(Go.Conc.base 28).at {tmps:=args++Array.replicate (26 - args.size) undef,defers:=[]} [.code D0i]:=enter_at args Try.func28 rfl
theorem Z9:O1 28:=G2 Try.func28 rfl rfl
def q04(s:Nat→Value):Array Value:= #[s 0,s 1,s 2,s 3,s 4,s 5,s 6,s 7,s 8,s 9,s 10,s 11,s 12,s 13,s 14,s 15,s 16,s 17,s 18,s 19,s 20,s 21,s 22,s 23,s 24,s 25]
theorem D02{A:Array Value}(h:A.size=26):∃s,A=q04 s:=by
 obtain⟨s,hs,_⟩:=Y4 A h
 exact⟨s,hs⟩
theorem y01{sv:Value}{lb:Nat}{wb wo n:Nat}(hs:SH lb wb wo n w)
 (h:∀A,G0 26 A [(0,vP lb 0),(1,sv),(5,.slice none 0 0),(6,vL wb wo n n),(7,vI (0:Nat)),(11,vI (n:Nat)),(12,vI (0:Nat))]→J0 Try.prog main F Stop (G (Frame.enter Try.prog 61 #[sv] .normal) ((bA 28 A [.inRegion (oC a02) [1],.code a03,.inBlock 1,.code a04,.inLoop f0o,.inBlock 0,.code c08])::cs)) w):
 J0 Try.prog main F Stop (G (Frame.enter Try.prog 28 #[vP lb 0,sv] .normal) cs) w:=by
 have n1:=hs.n1
 have hlt:decide ((0:Int)<(n:Int))=true:=by simp;omega
 have hlt2:decide (0<n)=true:=by simp;omega
 rw[n0o]
 walk_nrm
 refine ogW v00 v05 ?_
 simp only[v00,D3,Try.f28,zz,Nat.reduceAdd]
 refine oT ?_
 refine S0<|ogW v01 v06 ?_
 simp only[v01,D3,Try.f28,zz,Nat.reduceAdd]
 refine oT ?_
 refine S0<|ogW v02 r0b ?_
 simp only[v02,D3,Try.f28,zz,Nat.reduceAdd]
 refine oT ?_
 refine oc a0a #[vP lb 0] ?_
 refine b0l hs ?_
 rw[Frame.finish_at]
 walk_nrm
 refine oT ?_
 refine S0<|ogV v07 c08<|ogW v03 q05 ?_
 simp only[v03,D3,Try.f28,zz,Nat.reduceAdd]
 iterate 3 refine oT ?_
 refine S0 ?_
 rw[z0q]
 refine L7 ?_
 rw[z0r]
 refine ogP<|ogW g0D j0D ?_
 simp only[g0D,D3,Try.f28,zz,Nat.reduceAdd]
 refine oT ?_
 refine S0<|ogV k0W m0z<|ogYn .skip<|ogK<|ogV m0x a04 ?_
 rw[q06]
 refine L7<|ogW m0y r0a ?_
 simp only[m0y,D3,Try.f28,zz,Nat.reduceAdd]
 iterate 2 refine oT ?_
 refine S0<|ogW a02 a03 ?_
 simp only[a02,D3,Try.f28,zz,Nat.reduceAdd]
 refine oT ?_
 refine oc L3 #[sv] ?_
 refine h _ ?_
 exact⟨rfl,rfl,rfl,rfl,rfl,rfl,rfl,rfl,trivial⟩
theorem y02{sv:Value}{lb:Nat}{wb wo n i:Nat}{u:Int}{ov:Value}{xs:List Int}(hn16:n≤16)(hx:xs.length≤16){nn:Nat}(hU:P2 F nn)(hn:nn≤w.heap.size)(hwf:Wf F w)(hc:w.cell? ⟨wb,wo+i,none⟩=some (vI u))(hrow:w.ownsRow 0 2 1 ov xs.length (xs.map fun v=>vI v))(hF:∀b,ov.ownBlock=some b→F b=none)(hi:i+1<n){A:Array Value}(hA:G0 26 A [(0,vP lb 0),(1,sv),(5,ov),(6,vL wb wo n n),(7,vI (i:Nat)),(11,vI (n:Nat)),(12,vI (i:Nat))])
 (h:∀ov' w' A,f8 F w w' ov ov' xs u→G0 26 A [(0,vP lb 0),(1,sv),(5,ov'),(6,vL wb wo n n),(7,vI (i+1:Nat)),(11,vI (n:Nat)),(12,vI (i+1:Nat))]→J0 Try.prog main F Stop (G (Frame.enter Try.prog 61 #[sv] .normal) ((bA 28 A [.inRegion (oC a02) [1],.code a03,.inBlock 1,.code a04,.inLoop f0o,.inBlock 0,.code c08])::cs)) w'):
 J0 Try.prog main F Stop (G ((bA 28 A [.inRegion (oC a02) [1],.code a03,.inBlock 1,.code a04,.inLoop f0o,.inBlock 0,.code c08]).finish (.tuple #[])) (cs)) w:=by
 obtain⟨s,rfl,h0,h1,h5,h6,h7,h11,h12,_⟩:=Y3 q04 hA
 simp only[q04,h0,h1,h5,h6,h7,h11,h12]
 clear h0 h1 h5 h6 h7 h11 h12
 have hk64:IntKind.i64.wrap ((i:Int)+1)=(i:Int)+1:=IntWalk.i64_in _ (by omega)
 have hin:(i:Int)<(n:Int):=by omega
 have hin2:i<n:=by omega
 have hlt:decide ((i:Int)+1<(n:Int))=true:=by simp;omega
 have hlt2:decide (i+1<n)=true:=by simp;omega
 rw[Frame.finish_at]
 simp only[a02,D3,Try.f28,zz,Nat.reduceAdd]
 walk_nrm
 refine S0 ?_
 rw[q08]
 refine ogR ?_
 simp only[a03,D3,Try.f28,zz,Nat.reduceAdd]
 iterate 3 refine oT ?_
 refine oX ?_
 refine oc T4 #[vP wb (wo+i)] ?_
 refine C7 hc rfl ?_
 rw[Frame.finish_at]
 walk_nrm
 refine oA hU ?_
 refine S8 (s:=.tmp 17) (x:=.tmp 22) (t:=22) (e:=2) (sz:=1) (bytes:=8) (news:=[vI u]) (m:=1) (c:=1) (ad:=⟨w.heap.size,0,none⟩) Try.underlying22 i8 (by decide) rfl rfl (by decide) rfl (hwf.of_grew (P0 hU hn _)) (v:=ov) rfl rfl (hrow.alloc _) hF rfl (N4 (X:=w) (l:=[vI u]) rfl) (by intro q hq;simp at hq;subst hq;rfl) (by unfold maxLen;omega) (by omega) fun ov' w' g1 g2 g3 g4 g5=>?_
 have hg:f8 F w w' ov ov' xs u:=⟨by rw[List.map_append];exact g1,g2,by simp at g3;omega,fun q hq hne=>by rw[g4 q (by simp;omega) hne,D0 _ _ hq],g5.imp_right fun⟨g,h1,h2⟩=>⟨g,h1,by simp at h2;omega⟩⟩
 clear g1 g2 g3 g4 g5 hrow hwf
 walk_nrm
 refine oT ?_
 refine S0<|ogI ?_
 rw[q09]
 refine ogR ?_
 simp only[a04,D3,Try.f28,zz,Nat.reduceAdd]
 iterate 2 refine oT ?_
 refine S0<|ogL<|ogW g0D j0D ?_
 simp only[g0D,D3,Try.f28,zz,Nat.reduceAdd]
 refine oT ?_
 refine S0<|ogV k0W m0z<|ogYn .skip<|ogK<|ogV m0x a04 ?_
 rw[q06]
 refine L7<|ogW m0y r0a ?_
 simp only[m0y,D3,Try.f28,zz,Nat.reduceAdd]
 iterate 2 refine oT ?_
 refine S0<|ogW a02 a03 ?_
 simp only[a02,D3,Try.f28,zz,Nat.reduceAdd]
 refine oT ?_
 refine oc L3 #[sv] ?_
 refine h ov' w' _ hg ?_
 exact⟨rfl,rfl,rfl,rfl,rfl,rfl,rfl,rfl,trivial⟩
theorem y03{sv:Value}{lb:Nat}{wb wo n i:Nat}{u:Int}{ov:Value}{xs:List Int}(hn16:n≤16)(hx:xs.length≤16){nn:Nat}(hU:P2 F nn)(hn:nn≤w.heap.size)(hwf:Wf F w)(hc:w.cell? ⟨wb,wo+i,none⟩=some (vI u))(hrow:w.ownsRow 0 2 1 ov xs.length (xs.map fun v=>vI v))(hF:∀b,ov.ownBlock=some b→F b=none)(hi:i+1=n){A:Array Value}(hA:G0 26 A [(0,vP lb 0),(1,sv),(5,ov),(6,vL wb wo n n),(7,vI (i:Nat)),(11,vI (n:Nat)),(12,vI (i:Nat))]){c:Frame}
 (h:∀ov' w',f8 F w w' ov ov' xs u→J0 Try.prog main F Stop (G (c.finish ov') cs) w'):
 J0 Try.prog main F Stop (G ((bA 28 A [.inRegion (oC a02) [1],.code a03,.inBlock 1,.code a04,.inLoop f0o,.inBlock 0,.code c08]).finish (.tuple #[])) (c::cs)) w:=by
 obtain⟨s,rfl,h0,h1,h5,h6,h7,h11,h12,_⟩:=Y3 q04 hA
 simp only[q04,h0,h1,h5,h6,h7,h11,h12]
 clear h0 h1 h5 h6 h7 h11 h12
 have hk64:IntKind.i64.wrap ((i:Int)+1)=(i:Int)+1:=IntWalk.i64_in _ (by omega)
 have hin:(i:Int)<(n:Int):=by omega
 have hin2:i<n:=by omega
 have hlt:decide ((i:Int)+1<(n:Int))=false:=by simp;omega
 have hlt2:decide (i+1<n)=false:=by simp;omega
 rw[Frame.finish_at]
 simp only[a02,D3,Try.f28,zz,Nat.reduceAdd]
 walk_nrm
 refine S0 ?_
 rw[q08]
 refine ogR ?_
 simp only[a03,D3,Try.f28,zz,Nat.reduceAdd]
 iterate 3 refine oT ?_
 refine oX ?_
 refine oc T4 #[vP wb (wo+i)] ?_
 refine C7 hc rfl ?_
 rw[Frame.finish_at]
 walk_nrm
 refine oA hU ?_
 refine S8 (s:=.tmp 17) (x:=.tmp 22) (t:=22) (e:=2) (sz:=1) (bytes:=8) (news:=[vI u]) (m:=1) (c:=1) (ad:=⟨w.heap.size,0,none⟩) Try.underlying22 i8 (by decide) rfl rfl (by decide) rfl (hwf.of_grew (P0 hU hn _)) (v:=ov) rfl rfl (hrow.alloc _) hF rfl (N4 (X:=w) (l:=[vI u]) rfl) (by intro q hq;simp at hq;subst hq;rfl) (by unfold maxLen;omega) (by omega) fun ov' w' g1 g2 g3 g4 g5=>?_
 have hg:f8 F w w' ov ov' xs u:=⟨by rw[List.map_append];exact g1,g2,by simp at g3;omega,fun q hq hne=>by rw[g4 q (by simp;omega) hne,D0 _ _ hq],g5.imp_right fun⟨g,h1,h2⟩=>⟨g,h1,by simp at h2;omega⟩⟩
 clear g1 g2 g3 g4 g5 hrow hwf
 walk_nrm
 refine oT ?_
 refine S0<|ogI ?_
 rw[q09]
 refine ogR ?_
 simp only[a04,D3,Try.f28,zz,Nat.reduceAdd]
 iterate 2 refine oT ?_
 refine S0<|ogL<|ogW g0D j0D ?_
 simp only[g0D,D3,Try.f28,zz,Nat.reduceAdd]
 refine oT ?_
 refine S0<|ogV k0W m0z<|ogGn (.exit 0) ?_
 refine Q0 rfl (fun d=>stepG_exit rfl) ?_
 refine ogW v04 .ret ?_
 simp only[v04,D3,Try.f28,zz,Nat.reduceAdd]
 iterate 2 refine oT ?_
 refine S0<|ogX ?_
 refine Q0 rfl (fun d=>stepG_leave (fn:=Try.f28) (v:=ov') rfl rfl Try.func28 (by simp[results,Try.f28]) (by simp[results,Try.f28,go_sem])) ?_
 exact h ov' w' hg
def Y1:Code:=Try.f26.body.getD .skip
def D0h:=pC [] Y1
def v0V:=pC [zt] Y1
def q01:=pC [zf] Y1
def v0Y:=pC [zt] q01
def v0W:=pC [zf,zt,zt] Y1
def q0Y:=pC [zf] v0Y
def F0p:=pC [zt] q0Y
def q03:=pC [zf] q01
def v0Z:=pC [zt] q03
def v0X:=pC [zf,zf,zt,zt] Y1
def q0X:=pC [zf] v0Z
def q0Z:=pC [zt] q0X
def a8:=pC [zt] q0Z
def b0J:=pC [zf,zf,zt,zf,zt,zt,zt] Y1
def f0n:=pC [zf] a8
def f0k:=pC [zt] f0n
def g0C:=pC [zf] f0n
def j0C:=pC [zt] g0C
def q02:=pC [zt] j0C
def A8:=pC [zf,zf,zt,zf,zt,zt,zf,zf,zt,zt,zt] Y1
def V8:=pC [zf] q02
def g0z:=pC [zf,zf,zt,zf,zt,zt,zf,zf,zt,zt,zf,zt] Y1
def f0l:=pC [zf] V8
def h09:=pC [zt] f0l
def g0A:=pC [zf,zf,zt,zf,zt,zt,zf,zf,zt,zt,zf,zf,zt,zt] Y1
def k0V:=pC [zf] h09
def i0a:=pC [zf] f0l
def g0B:=pC [zf,zf,zt,zf,zt,zt,zf,zf,zt,zt,zf,zf,zf,zt] Y1
def f0m:=pC [zf] i0a
def b0K:=pC [zf,zf,zt,zf,zt,zt,zf,zf,zt,zt,zf,zf,zf,zf,zt] Y1
def c0f:=pC [zf] f0m
def c07:=pC [zf,zf,zt,zf,zt,zt,zf,zf,zt,zt,zf,zf,zf,zf,zf,zt] Y1
def h07:=pC [zf] c0f
def z0p:=pC [zt] h07
def q00:=pC [zf,zf,zt,zf,zt,zt,zf,zf,zt,zt,zf,zf,zf,zf,zf,zf,zt,zt] Y1
def S4:=pC [zf,zf,zt,zf,zt,zt,zf,zf,zf] Y1
def P6:=pC [zf] q03
def h08:=pC [zf,zf,zf,zt] Y1
theorem z0n:q0X= .block 0 q0Z:=by kernel_rfl
theorem z0o:q0Z= .loop a8:=by kernel_rfl
theorem k0U:j0C= .block 1 q02:=by kernel_rfl
theorem d09:S4= .region 12 (oC S4) false:=by kernel_rfl
theorem n0n(args:Array Value):Frame.enter Try.prog 26 args .normal=(Go.Conc.base 26).at {tmps:=args++Array.replicate (38 - args.size) undef,defers:=[]} [.code D0h]:=enter_at args Try.func26 rfl
theorem b0T:O1 26:=G2 Try.func26 rfl rfl
def c0e(s:Nat→Value):Array Value:= #[s 0,s 1,s 2,s 3,s 4,s 5,s 6,s 7,s 8,s 9,s 10,s 11,s 12,s 13,s 14,s 15,s 16,s 17,s 18,s 19,s 20,s 21,s 22,s 23,s 24,s 25,s 26,s 27,s 28,s 29,s 30,s 31,s 32,s 33,s 34,s 35,s 36,s 37]
theorem D01{A:Array Value}(h:A.size=38):∃s,A=c0e s:=by
 obtain⟨s,hs,_⟩:=Y4 A h
 exact⟨s,hs⟩
theorem C0u{sv:Value}{lb:Nat}{a:Int}
 (h:∀A,G0 38 A [(0,vP lb 0),(1,sv),(13,vI (N2 a:Nat)),(14,vI (0:Nat))]→J0 Try.prog main F Stop (G (Frame.enter Try.prog 61 #[sv] .normal) ((bA 26 A [.inRegion (oC A8) [1],.code V8,.inBlock 1,.code S4,.inLoop a8,.inBlock 0,.code P6])::cs)) w):
 J0 Try.prog main F Stop (G (Frame.enter Try.prog 26 #[vP lb 0,sv,vI a] .normal) cs) w:=by
 have hp:=(A5 a).1
 have hlt:decide ((0:Int)<(N2 a:Int))=true:=by simp;omega
 have hlt2:decide (0<N2 a)=true:=by simp;omega
 rw[n0n]
 walk_nrm
 refine ogW v0V q01 ?_
 simp only[v0V,Y1,Try.f26,zz,Nat.reduceAdd]
 iterate 2 refine oT ?_
 refine S0<|ogV v0Y q03<|ogW v0W q0Y ?_
 simp only[v0W,Y1,Try.f26,zz,Nat.reduceAdd]
 iterate 2 refine oT ?_
 refine S0<|ogGn .skip<|ogK<|ogV v0Z P6<|ogW v0X q0X ?_
 simp only[v0X,Y1,Try.f26,zz,Nat.reduceAdd]
 refine oT ?_
 refine oc e0s #[vI a] ?_
 refine g0k ?_
 rw[Frame.finish_at]
 walk_nrm
 refine oT ?_
 refine S0 ?_
 rw[z0n]
 refine L7 ?_
 rw[z0o]
 refine ogP<|ogW b0J f0n ?_
 simp only[b0J,Y1,Try.f26,zz,Nat.reduceAdd]
 refine oT ?_
 refine S0<|ogV f0k g0C<|ogYn .skip<|ogK<|ogV j0C S4 ?_
 rw[k0U]
 refine L7<|ogW A8 V8 ?_
 simp only[A8,Y1,Try.f26,zz,Nat.reduceAdd]
 refine oT ?_
 refine oc L3 #[sv] ?_
 refine h _ ?_
 exact⟨rfl,rfl,rfl,rfl,rfl,trivial⟩
theorem C0v{sv:Value}{lb:Nat}{T r:Nat}{v:Int}(hT:T≤1024)(hr:r+1<T)(hv:(v.tmod 2 != 0)=true)(hc:w.cell? ⟨lb,0,none⟩=some (vI v)){A:Array Value}(hA:G0 38 A [(0,vP lb 0),(1,sv),(13,vI (T:Nat)),(14,vI (r:Nat))])
 (h:∀A,G0 38 A [(0,vP lb 0),(1,sv),(13,vI (T:Nat)),(14,vI (r+1:Nat))]→J0 Try.prog main F Stop (G (Frame.enter Try.prog 61 #[sv] .normal) ((bA 26 A [.inRegion (oC A8) [1],.code V8,.inBlock 1,.code S4,.inLoop a8,.inBlock 0,.code P6])::cs)) w):
 J0 Try.prog main F Stop (G ((bA 26 A [.inRegion (oC A8) [1],.code V8,.inBlock 1,.code S4,.inLoop a8,.inBlock 0,.code P6]).finish (.tuple #[])) (cs)) w:=by
 obtain⟨s,rfl,h0,h1,h13,h14,_⟩:=Y3 c0e hA
 simp only[c0e,h0,h1,h13,h14]
 clear h0 h1 h13 h14
 have hk64:IntKind.i64.wrap ((r:Int)+1)=(r:Int)+1:=IntWalk.i64_in _ (by omega)
 have hlt:decide ((r:Int)+1<(T:Int))=true:=by simp;omega
 have hlt2:decide (r+1<T)=true:=by simp;omega
 rw[Frame.finish_at]
 simp only[A8,Y1,Try.f26,zz,Nat.reduceAdd]
 walk_nrm
 refine S0<|ogW g0z f0l ?_
 simp only[g0z,Y1,Try.f26,zz,Nat.reduceAdd]
 iterate 3 refine oT ?_
 refine oc T4 #[vP lb 0] ?_
 refine C7 hc rfl ?_
 rw[Frame.finish_at]
 walk_nrm
 refine oT ?_
 refine S0<|ogV h09 i0a<|ogW g0A k0V ?_
 simp only[g0A,Y1,Try.f26,zz,Nat.reduceAdd]
 iterate 3 refine oT ?_
 refine S0<|ogYn (.exit 1) ?_
 refine Q0 rfl (fun d=>stepG_exit rfl) ?_
 rw[d09]
 refine ogR ?_
 simp only[S4,Y1,Try.f26,zz,Nat.reduceAdd]
 iterate 2 refine oT ?_
 refine S0<|ogL<|ogW b0J f0n ?_
 simp only[b0J,Y1,Try.f26,zz,Nat.reduceAdd]
 refine oT ?_
 refine S0<|ogV f0k g0C<|ogYn .skip<|ogK<|ogV j0C S4 ?_
 rw[k0U]
 refine L7<|ogW A8 V8 ?_
 simp only[A8,Y1,Try.f26,zz,Nat.reduceAdd]
 refine oT ?_
 refine oc L3 #[sv] ?_
 refine h _ ?_
 exact⟨rfl,rfl,rfl,rfl,rfl,trivial⟩
theorem C0w{sv:Value}{lb:Nat}{T r:Nat}{v:Int}(hT:T≤1024)(hr:r+1=T)(hv:(v.tmod 2 != 0)=true)(hc:w.cell? ⟨lb,0,none⟩=some (vI v)){A:Array Value}(hA:G0 38 A [(0,vP lb 0),(1,sv),(13,vI (T:Nat)),(14,vI (r:Nat))]){c:Frame}
 (h:J0 Try.prog main F Stop (G (c.finish (.tuple #[.slice none 0 0,.bool false])) cs) w):
 J0 Try.prog main F Stop (G ((bA 26 A [.inRegion (oC A8) [1],.code V8,.inBlock 1,.code S4,.inLoop a8,.inBlock 0,.code P6]).finish (.tuple #[])) (c::cs)) w:=by
 obtain⟨s,rfl,h0,h1,h13,h14,_⟩:=Y3 c0e hA
 simp only[c0e,h0,h1,h13,h14]
 clear h0 h1 h13 h14
 have hk64:IntKind.i64.wrap ((r:Int)+1)=(r:Int)+1:=IntWalk.i64_in _ (by omega)
 have hlt:decide ((r:Int)+1<(T:Int))=false:=by simp;omega
 have hlt2:decide (r+1<T)=false:=by simp;omega
 rw[Frame.finish_at]
 simp only[A8,Y1,Try.f26,zz,Nat.reduceAdd]
 walk_nrm
 refine S0<|ogW g0z f0l ?_
 simp only[g0z,Y1,Try.f26,zz,Nat.reduceAdd]
 iterate 3 refine oT ?_
 refine oc T4 #[vP lb 0] ?_
 refine C7 hc rfl ?_
 rw[Frame.finish_at]
 walk_nrm
 refine oT ?_
 refine S0<|ogV h09 i0a<|ogW g0A k0V ?_
 simp only[g0A,Y1,Try.f26,zz,Nat.reduceAdd]
 iterate 3 refine oT ?_
 refine S0<|ogYn (.exit 1) ?_
 refine Q0 rfl (fun d=>stepG_exit rfl) ?_
 rw[d09]
 refine ogR ?_
 simp only[S4,Y1,Try.f26,zz,Nat.reduceAdd]
 iterate 2 refine oT ?_
 refine S0<|ogL<|ogW b0J f0n ?_
 simp only[b0J,Y1,Try.f26,zz,Nat.reduceAdd]
 refine oT ?_
 refine S0<|ogV f0k g0C<|ogGn (.exit 0) ?_
 refine Q0 rfl (fun d=>stepG_exit rfl) ?_
 refine ogW h08 .ret ?_
 simp only[h08,Y1,Try.f26,zz,Nat.reduceAdd]
 iterate 2 refine oT ?_
 refine S0<|ogX ?_
 refine Q0 rfl (fun d=>stepG_leave (fn:=Try.f26) (v:=.tuple #[.slice none 0 0,.bool false]) rfl rfl Try.func26 (by simp[results,Try.f26]) (by simp[results,Try.f26,go_sem])) ?_
 exact h
theorem v0f{sv:Value}{lb:Nat}{T r:Nat}{v:Int}(hv:(v.tmod 2 != 0)=false)(hc:w.cell? ⟨lb,0,none⟩=some (vI v)){A:Array Value}(hA:G0 38 A [(0,vP lb 0),(1,sv),(13,vI (T:Nat)),(14,vI (r:Nat))])
 (h:∀A,G0 38 A [(0,vP lb 0),(1,sv),(8,vI v),(13,vI (T:Nat)),(14,vI (r:Nat))]→J0 Try.prog main F Stop (G (Frame.enter Try.prog 28 #[vP lb 0,sv] .normal) ((bA 26 A [.inRegion (oC g0B) [2,3],.code f0m,.inBlock 1,.code S4,.inLoop a8,.inBlock 0,.code P6])::cs)) w):
 J0 Try.prog main F Stop (G ((bA 26 A [.inRegion (oC A8) [1],.code V8,.inBlock 1,.code S4,.inLoop a8,.inBlock 0,.code P6]).finish (.tuple #[])) (cs)) w:=by
 obtain⟨s,rfl,h0,h1,h13,h14,_⟩:=Y3 c0e hA
 simp only[c0e,h0,h1,h13,h14]
 clear h0 h1 h13 h14
 rw[Frame.finish_at]
 simp only[A8,Y1,Try.f26,zz,Nat.reduceAdd]
 walk_nrm
 refine S0<|ogW g0z f0l ?_
 simp only[g0z,Y1,Try.f26,zz,Nat.reduceAdd]
 iterate 3 refine oT ?_
 refine oc T4 #[vP lb 0] ?_
 refine C7 hc rfl ?_
 rw[Frame.finish_at]
 walk_nrm
 refine oT ?_
 refine S0<|ogV h09 i0a<|ogW g0A k0V ?_
 simp only[g0A,Y1,Try.f26,zz,Nat.reduceAdd]
 iterate 3 refine oT ?_
 refine S0<|ogGn .skip<|ogK<|ogW g0B f0m ?_
 simp only[g0B,Y1,Try.f26,zz,Nat.reduceAdd]
 iterate 2 refine oT ?_
 refine oc Z9 #[vP lb 0,sv] ?_
 refine h _ ?_
 exact⟨rfl,rfl,rfl,rfl,rfl,rfl,trivial⟩
theorem C0x{sv:Value}{lb:Nat}{ov:Value}{T r:Nat}{v:Int}{A:Array Value}(hA:G0 38 A [(0,vP lb 0),(1,sv),(8,vI v),(13,vI (T:Nat)),(14,vI (r:Nat))])
 (h:∀A,G0 38 A [(0,vP lb 0),(1,sv),(8,vI v),(9,ov),(13,vI (T:Nat)),(14,vI (r:Nat))]→J0 Try.prog main F Stop (G (Frame.enter Try.prog 61 #[sv] .normal) ((bA 26 A [.inRegion (oC b0K) [1],.code c0f,.inBlock 1,.code S4,.inLoop a8,.inBlock 0,.code P6])::cs)) w):
 J0 Try.prog main F Stop (G ((bA 26 A [.inRegion (oC g0B) [2,3],.code f0m,.inBlock 1,.code S4,.inLoop a8,.inBlock 0,.code P6]).finish ov) cs) w:=by
 obtain⟨s,rfl,h0,h1,h8,h13,h14,_⟩:=Y3 c0e hA
 simp only[c0e,h0,h1,h8,h13,h14]
 clear h0 h1 h8 h13 h14
 rw[Frame.finish_at]
 simp only[g0B,Y1,Try.f26,zz,Nat.reduceAdd]
 walk_nrm
 refine oT ?_
 refine S0<|ogW b0K c0f ?_
 simp only[b0K,Y1,Try.f26,zz,Nat.reduceAdd]
 refine oT ?_
 refine oc L3 #[sv] ?_
 refine h _ ?_
 exact⟨rfl,rfl,rfl,rfl,rfl,rfl,rfl,trivial⟩
theorem v0g{sv:Value}{lb:Nat}{ov:Value}{u:Int}{T r:Nat}{v:Int}(hq:(u == v)=true)(hc:w.cell? ⟨lb,0,none⟩=some (vI u)){A:Array Value}(hA:G0 38 A [(0,vP lb 0),(1,sv),(8,vI v),(9,ov),(13,vI (T:Nat)),(14,vI (r:Nat))]){c:Frame}
 (h:J0 Try.prog main F Stop (G (c.finish (.tuple #[ov,.bool true])) cs) w):
 J0 Try.prog main F Stop (G ((bA 26 A [.inRegion (oC b0K) [1],.code c0f,.inBlock 1,.code S4,.inLoop a8,.inBlock 0,.code P6]).finish (.tuple #[])) (c::cs)) w:=by
 obtain⟨s,rfl,h0,h1,h8,h9,h13,h14,_⟩:=Y3 c0e hA
 simp only[c0e,h0,h1,h8,h9,h13,h14]
 clear h0 h1 h8 h9 h13 h14
 rw[Frame.finish_at]
 simp only[b0K,Y1,Try.f26,zz,Nat.reduceAdd]
 walk_nrm
 refine S0<|ogW c07 h07 ?_
 simp only[c07,Y1,Try.f26,zz,Nat.reduceAdd]
 iterate 3 refine oT ?_
 refine oc T4 #[vP lb 0] ?_
 refine C7 hc rfl ?_
 rw[Frame.finish_at]
 walk_nrm
 iterate 2 refine oT ?_
 refine S0<|ogYn z0p<|ogW q00 .ret ?_
 simp only[q00,Y1,Try.f26,zz,Nat.reduceAdd]
 iterate 3 refine oT ?_
 refine S0<|ogX ?_
 refine Q0 rfl (fun d=>stepG_leave (fn:=Try.f26) (v:=.tuple #[ov,.bool true]) rfl rfl Try.func26 (by simp[results,Try.f26]) (by simp[results,Try.f26,go_sem])) ?_
 exact h
theorem C0y{sv:Value}{lb:Nat}{ov:Value}{u:Int}{T r:Nat}{v:Int}(hT:T≤1024)(hr:r+1<T)(hq:(u == v)=false)(hc:w.cell? ⟨lb,0,none⟩=some (vI u)){A:Array Value}(hA:G0 38 A [(0,vP lb 0),(1,sv),(8,vI v),(9,ov),(13,vI (T:Nat)),(14,vI (r:Nat))])
 (h:∀A,G0 38 A [(0,vP lb 0),(1,sv),(13,vI (T:Nat)),(14,vI (r+1:Nat))]→J0 Try.prog main F Stop (G (Frame.enter Try.prog 61 #[sv] .normal) ((bA 26 A [.inRegion (oC A8) [1],.code V8,.inBlock 1,.code S4,.inLoop a8,.inBlock 0,.code P6])::cs)) w):
 J0 Try.prog main F Stop (G ((bA 26 A [.inRegion (oC b0K) [1],.code c0f,.inBlock 1,.code S4,.inLoop a8,.inBlock 0,.code P6]).finish (.tuple #[])) (cs)) w:=by
 obtain⟨s,rfl,h0,h1,h8,h9,h13,h14,_⟩:=Y3 c0e hA
 simp only[c0e,h0,h1,h8,h9,h13,h14]
 clear h0 h1 h8 h9 h13 h14
 have hk64:IntKind.i64.wrap ((r:Int)+1)=(r:Int)+1:=IntWalk.i64_in _ (by omega)
 have hlt:decide ((r:Int)+1<(T:Int))=true:=by simp;omega
 have hlt2:decide (r+1<T)=true:=by simp;omega
 rw[Frame.finish_at]
 simp only[b0K,Y1,Try.f26,zz,Nat.reduceAdd]
 walk_nrm
 refine S0<|ogW c07 h07 ?_
 simp only[c07,Y1,Try.f26,zz,Nat.reduceAdd]
 iterate 3 refine oT ?_
 refine oc T4 #[vP lb 0] ?_
 refine C7 hc rfl ?_
 rw[Frame.finish_at]
 walk_nrm
 iterate 2 refine oT ?_
 refine S0<|ogGn .skip<|ogK<|ogI ?_
 rw[d09]
 refine ogR ?_
 simp only[S4,Y1,Try.f26,zz,Nat.reduceAdd]
 iterate 2 refine oT ?_
 refine S0<|ogL<|ogW b0J f0n ?_
 simp only[b0J,Y1,Try.f26,zz,Nat.reduceAdd]
 refine oT ?_
 refine S0<|ogV f0k g0C<|ogYn .skip<|ogK<|ogV j0C S4 ?_
 rw[k0U]
 refine L7<|ogW A8 V8 ?_
 simp only[A8,Y1,Try.f26,zz,Nat.reduceAdd]
 refine oT ?_
 refine oc L3 #[sv] ?_
 refine h _ ?_
 exact⟨rfl,rfl,rfl,rfl,rfl,trivial⟩
theorem C0z{sv:Value}{lb:Nat}{ov:Value}{u:Int}{T r:Nat}{v:Int}(hT:T≤1024)(hr:r+1=T)(hq:(u == v)=false)(hc:w.cell? ⟨lb,0,none⟩=some (vI u)){A:Array Value}(hA:G0 38 A [(0,vP lb 0),(1,sv),(8,vI v),(9,ov),(13,vI (T:Nat)),(14,vI (r:Nat))]){c:Frame}
 (h:J0 Try.prog main F Stop (G (c.finish (.tuple #[.slice none 0 0,.bool false])) cs) w):
 J0 Try.prog main F Stop (G ((bA 26 A [.inRegion (oC b0K) [1],.code c0f,.inBlock 1,.code S4,.inLoop a8,.inBlock 0,.code P6]).finish (.tuple #[])) (c::cs)) w:=by
 obtain⟨s,rfl,h0,h1,h8,h9,h13,h14,_⟩:=Y3 c0e hA
 simp only[c0e,h0,h1,h8,h9,h13,h14]
 clear h0 h1 h8 h9 h13 h14
 have hk64:IntKind.i64.wrap ((r:Int)+1)=(r:Int)+1:=IntWalk.i64_in _ (by omega)
 have hlt:decide ((r:Int)+1<(T:Int))=false:=by simp;omega
 have hlt2:decide (r+1<T)=false:=by simp;omega
 rw[Frame.finish_at]
 simp only[b0K,Y1,Try.f26,zz,Nat.reduceAdd]
 walk_nrm
 refine S0<|ogW c07 h07 ?_
 simp only[c07,Y1,Try.f26,zz,Nat.reduceAdd]
 iterate 3 refine oT ?_
 refine oc T4 #[vP lb 0] ?_
 refine C7 hc rfl ?_
 rw[Frame.finish_at]
 walk_nrm
 iterate 2 refine oT ?_
 refine S0<|ogGn .skip<|ogK<|ogI ?_
 rw[d09]
 refine ogR ?_
 simp only[S4,Y1,Try.f26,zz,Nat.reduceAdd]
 iterate 2 refine oT ?_
 refine S0<|ogL<|ogW b0J f0n ?_
 simp only[b0J,Y1,Try.f26,zz,Nat.reduceAdd]
 refine oT ?_
 refine S0<|ogV f0k g0C<|ogGn (.exit 0) ?_
 refine Q0 rfl (fun d=>stepG_exit rfl) ?_
 refine ogW h08 .ret ?_
 simp only[h08,Y1,Try.f26,zz,Nat.reduceAdd]
 iterate 2 refine oT ?_
 refine S0<|ogX ?_
 refine Q0 rfl (fun d=>stepG_leave (fn:=Try.f26) (v:=.tuple #[.slice none 0 0,.bool false]) rfl rfl Try.func26 (by simp[results,Try.f26]) (by simp[results,Try.f26,go_sem])) ?_
 exact h
def H6:Code:=Try.f27.body.getD .skip
def D0a:=pC [] H6
def v0M:=pC [zt] H6
def q0U:=pC [zf] H6
def v0Q:=pC [zt] q0U
def v0N:=pC [zf,zt,zt] H6
def q0T:=pC [zf] v0Q
def F0o:=pC [zt] q0T
def v0R:=pC [zf] q0U
def g0x:=pC [zf,zf,zt] H6
def j0x:=pC [zf] v0R
def v0O:=pC [zf,zf,zf,zt] H6
def D0b:=pC [zf] j0x
def v0P:=pC [zf,zf,zf,zf,zt] H6
theorem n0l(args:Array Value):Frame.enter Try.prog 27 args .normal=(Go.Conc.base 27).at {tmps:=args++Array.replicate (21 - args.size) undef,defers:=[]} [.code D0a]:=enter_at args Try.func27 rfl
theorem e0p:O1 27:=G2 Try.func27 rfl rfl
def z0m(s:Nat→Value):Array Value:= #[s 0,s 1,s 2,s 3,s 4,s 5,s 6,s 7,s 8,s 9,s 10,s 11,s 12,s 13,s 14,s 15,s 16,s 17,s 18,s 19,s 20]
theorem D0Z{A:Array Value}(h:A.size=21):∃s,A=z0m s:=by
 obtain⟨s,hs,_⟩:=Y4 A h
 exact⟨s,hs⟩
theorem B0w{sv:Value}{lb:Nat}{a:Int}
 (h:∀A,G0 21 A [(0,vP lb 0),(1,sv),(2,vI a)]→J0 Try.prog main F Stop (G (Frame.enter Try.prog 61 #[sv] .normal) ((bA 27 A [.inRegion (oC g0x) [1],.code j0x])::cs)) w):
 J0 Try.prog main F Stop (G (Frame.enter Try.prog 27 #[vP lb 0,sv,vI a] .normal) cs) w:=by
 rw[n0l]
 walk_nrm
 refine ogW v0M q0U ?_
 simp only[v0M,H6,Try.f27,zz,Nat.reduceAdd]
 iterate 2 refine oT ?_
 refine S0<|ogV v0Q v0R<|ogW v0N q0T ?_
 simp only[v0N,H6,Try.f27,zz,Nat.reduceAdd]
 iterate 2 refine oT ?_
 refine S0<|ogGn .skip<|ogK<|ogW g0x j0x ?_
 simp only[g0x,H6,Try.f27,zz,Nat.reduceAdd]
 refine oT ?_
 refine oc L3 #[sv] ?_
 refine h _ ?_
 exact⟨rfl,rfl,rfl,rfl,trivial⟩
theorem B0x{sv:Value}{lb:Nat}{a v:Int}(hc:w.cell? ⟨lb,0,none⟩=some (vI v)){A:Array Value}(hA:G0 21 A [(0,vP lb 0),(1,sv),(2,vI a)]){c:Frame}
 (h:J0 Try.prog main F Stop (G (c.finish (.tuple #[vI v,.bool (decide (a<v))])) cs) w):
 J0 Try.prog main F Stop (G ((bA 27 A [.inRegion (oC g0x) [1],.code j0x]).finish (.tuple #[])) (c::cs)) w:=by
 obtain⟨s,rfl,h0,h1,h2,_⟩:=Y3 z0m hA
 simp only[z0m,h0,h1,h2]
 clear h0 h1 h2
 rw[Frame.finish_at]
 simp only[g0x,H6,Try.f27,zz,Nat.reduceAdd]
 walk_nrm
 refine S0<|ogW v0O D0b ?_
 simp only[v0O,H6,Try.f27,zz,Nat.reduceAdd]
 iterate 3 refine oT ?_
 refine oc T4 #[vP lb 0] ?_
 refine C7 hc rfl ?_
 rw[Frame.finish_at]
 walk_nrm
 refine oT ?_
 refine S0<|ogW v0P .ret ?_
 simp only[v0P,H6,Try.f27,zz,Nat.reduceAdd]
 iterate 6 refine oT ?_
 refine S0<|ogX ?_
 refine Q0 rfl (fun d=>stepG_leave (fn:=Try.f27) (v:=.tuple #[vI v,.bool (decide (a<v))]) rfl rfl Try.func27 (by simp[results,Try.f27]) (by simp[results,Try.f27,go_sem])) ?_
 exact h
end
noncomputable section
variable {cs:List Frame}{main:Bool}{Stop:Goroutine→World→Prop}
variable{F:Fz}{w:World}
theorem SH.alloc{lb wb wo n:Nat}{w:World}(h:SH lb wb wo n w)(o:Obj):SH lb wb wo n (w.alloc o):=⟨h.c2.imp (fun h=>(O0 h o).1) fun h=>⟨(O0 h.1 o).1,h.2⟩,h.n1,h.n2⟩
theorem c0V{w:World}{r:Nat}{x:Obj}(h:w.heap[r]? =some x)(o:Obj):(w.alloc o).heap[r]? =some x:=by
 rw[D0 _ _ (Q3 h),h]
theorem G4{w:World}{r ab k:Nat}{v:Value}(h:r≠ab):(w.setCell ⟨ab,k,none⟩ v).heap[r]? =w.heap[r]?:=I0 _ _ _ h
structure f0A(w:World)(ab:Nat):Prop where
 o:w.heap[ab]? =some (.cells #[.bool false,vI 0,.slice none 0 0] 44 (0,0))
theorem f0A.c{w:World}{ab:Nat}(h:f0A w ab):w.cell? ⟨ab,0,none⟩=some (.bool false)∧w.cell? ⟨ab,1,none⟩=some (vI 0)∧w.cell? ⟨ab,2,none⟩=some (.slice none 0 0):=⟨by simp[World.cell?,h.o],by simp[World.cell?,h.o],by simp[World.cell?,h.o]⟩
theorem f0A.z{w:World}{ab:Nat}(h:f0A w ab)(k:Nat):w.frozen? ⟨ab,k,none⟩=false:=by simp[World.frozen?,h.o]
structure e0b(w w':World)(ab rb:Nat):Prop where
 size:w'.heap.size=w.heap.size
 old:∀r,r≠ab→r≠rb→w'.heap[r]? =w.heap[r]?
def V0:Code:=Try.f48.body.getD .skip
def C01:=pC [] V0
def v0v:=pC [zt] V0
def v0z:=pC [zf] V0
def v0w:=pC [zf,zt] V0
def q0P:=pC [zf] v0z
def v0A:=pC [zt] q0P
def v0x:=pC [zf,zf,zt,zt] V0
def q0K:=pC [zf] v0A
def q0N:=pC [zt] q0K
def X5:=pC [zt] q0N
def l9:=pC [zf,zf,zt,zf,zt,zt,zt] V0
def c0J:=pC [zf] X5
def c0a:=pC [zt] c0J
def d0J:=pC [zf] c0J
def q0L:=pC [zt] d0J
def C02:=pC [zt] q0L
def v0y:=pC [zf,zf,zt,zf,zt,zt,zf,zf,zt,zt,zt] V0
def m0q:=pC [zf,zf,zt,zf,zt,zt,zf,zf,zt,zt,zf] V0
def m0r:=pC [zf,zf,zt,zf,zt,zt,zf,zf,zf] V0
def m9:=pC [zf] q0P
def a0z:=pC [zf,zf,zf,zt] V0
def a0Y:=pC [zf] m9
def c0c:=pC [zt] a0Y
def a0A:=pC [zf,zf,zf,zf,zt,zt] V0
def d0I:=pC [zf] c0c
def q0O:=pC [zt] d0I
def a0B:=pC [zf,zf,zf,zf,zt,zf,zt,zt] V0
def c0b:=pC [zf] q0O
def a0S:=pC [zf,zf,zf,zf,zt,zf,zt,zf,zt] V0
def c05:=pC [zf] c0b
def z9:=pC [zf,zf,zf,zf,zt,zf,zt,zf,zf,zt] V0
def c03:=pC [zf] c05
def a0T:=pC [zf,zf,zf,zf,zt,zf,zt,zf,zf,zf,zt] V0
def f0h:=pC [zf] c03
def a0U:=pC [zf,zf,zf,zf,zt,zf,zt,zf,zf,zf,zf,zt] V0
def f0g:=pC [zf] f0h
def a0V:=pC [zf,zf,zf,zf,zt,zf,zt,zf,zf,zf,zf,zf,zt] V0
def h04:=pC [zf] f0g
def c04:=pC [zf,zf,zf,zf,zt,zf,zt,zf,zf,zf,zf,zf,zf,zt] V0
def h0Z:=pC [zf] h04
def a0W:=pC [zf,zf,zf,zf,zt,zf,zt,zf,zf,zf,zf,zf,zf,zf,zt] V0
def k0Q:=pC [zf] h0Z
def h00:=pC [zf,zf,zf,zf,zt,zf,zt,zf,zf,zf,zf,zf,zf,zf,zf,zt] V0
def q0M:=pC [zf] k0Q
def a0X:=pC [zf,zf,zf,zf,zt,zf,zt,zf,zf,zf,zf,zf,zf,zf,zf,zf,zt] V0
def K5:=pC [zf] a0Y
def p8:=pC [zf,zf,zf,zf,zf,zt] V0
theorem z0g:q0K= .block 0 q0N:=by kernel_rfl
theorem z0i:q0N= .loop X5:=by kernel_rfl
theorem z0h:q0L= .block 1 C02:=by kernel_rfl
theorem z0j:m0q= .region 5 (oC m0q) false:=by kernel_rfl
theorem z0k:m0r= .region 6 (oC m0r) false:=by kernel_rfl
theorem c02:d0I= .block 2 q0O:=by kernel_rfl
theorem t0T:a0S= .region 10 (oC a0S) false:=by kernel_rfl
theorem t0U:a0T= .region 12 (oC a0T) false:=by kernel_rfl
theorem t0V:a0V= .region 14 (oC a0V) false:=by kernel_rfl
theorem t0W:a0W= .region 16 (oC a0W) false:=by kernel_rfl
theorem t0X:a0X= .region 18 (oC a0X) false:=by kernel_rfl
theorem n0g(args:Array Value):Frame.enter Try.prog 48 args .normal=(Go.Conc.base 48).at {tmps:=args++Array.replicate (80 - args.size) undef,defers:=[]} [.code C01]:=enter_at args Try.func48 rfl
theorem j04:O1 48:=G2 Try.func48 rfl rfl
def o8(s:Nat→Value):Array Value:= #[s 0,s 1,s 2,s 3,s 4,s 5,s 6,s 7,s 8,s 9,s 10,s 11,s 12,s 13,s 14,s 15,s 16,s 17,s 18,s 19,s 20,s 21,s 22,s 23,s 24,s 25,s 26,s 27,s 28,s 29,s 30,s 31,s 32,s 33,s 34,s 35,s 36,s 37,s 38,s 39,s 40,s 41,s 42,s 43,s 44,s 45,s 46,s 47,s 48,s 49,s 50,s 51,s 52,s 53,s 54,s 55,s 56,s 57,s 58,s 59,s 60,s 61,s 62,s 63,s 64,s 65,s 66,s 67,s 68,s 69,s 70,s 71,s 72,s 73,s 74,s 75,s 76,s 77,s 78,s 79]
theorem D0Y{A:Array Value}(h:A.size=80):∃s,A=o8 s:=by
 obtain⟨s,hs,_⟩:=Y4 A h
 exact⟨s,hs⟩
theorem E0n{nn:Nat}(hU:P2 F nn)(hn:nn≤w.heap.size){sv:Value}{lb wb wo n j:Nat}{kd a b c0:Int}(hs:SH lb wb wo n w)
 (h:∀A,G0 80 A [(0,vP lb 0),(1,sv),(7,vP w.heap.size 0),(8,vP (w.heap.size+1) 0),(9,.slice none 0 0),(13,vI (n:Nat)),(14,vI (0:Nat))]→J0 Try.prog main F Stop (G (bA 48 A [.code X5,.inLoop X5,.inBlock 0,.code m9]) cs) ((w.alloc (.cells #[vI kd,vI a,vI b,vI c0] 47)).alloc (.cells #[.bool false,vI 0,.slice none 0 0] 44))):
 J0 Try.prog main F Stop (G (Frame.enter Try.prog 48 #[vP lb 0,sv,vI j,.agg #[vI kd,vI a,vI b,vI c0]] .normal) cs) w:=by
 rw[n0g]
 walk_nrm
 refine ogW v0v v0z ?_
 simp only[v0v,V0,Try.f48,zz,Nat.reduceAdd]
 iterate 2 refine oA hU ?_
 refine S0<|ogW v0w q0P ?_
 simp only[v0w,V0,Try.f48,zz,Nat.reduceAdd]
 refine oT ?_
 refine S0<|ogV v0A m9<|ogW v0x q0K ?_
 simp only[v0x,V0,Try.f48,zz,Nat.reduceAdd]
 refine oT ?_
 refine oc e0o #[vP lb 0] ?_
 refine l0Z ((hs.alloc _).alloc _) ?_
 rw[Frame.finish_at]
 walk_nrm
 refine oT ?_
 refine S0 ?_
 rw[z0g]
 refine L7 ?_
 rw[z0i]
 refine ogP ?_
 refine h _ ?_
 exact⟨rfl,rfl,rfl,rfl,rfl,rfl,rfl,rfl,trivial⟩
theorem E0o{sv ov:Value}{lb ob rb n i:Nat}{kd a b c0:Int}(hn16:n≤16)(hi:i<n){xs:List Int}(hx:xs.length≤16){nn:Nat}(hU:P2 F nn)(hn:nn≤w.heap.size)(hwf:Wf F w)(hrow:w.ownsRow 0 2 1 ov xs.length (xs.map fun v=>vI v))(hF:∀b,ov.ownBlock=some b→F b=none)(hob:w.heap[ob]? =some (.cells #[vI kd,vI a,vI b,vI c0] 47 (0,0))){A:Array Value}(hA:G0 80 A [(0,vP lb 0),(1,sv),(7,vP ob 0),(8,vP rb 0),(9,ov),(13,vI (n:Nat)),(14,vI (i:Nat))])
 (h:∀ov' w' A,f8 F w w' ov ov' xs (i6 (b+i6 (i*c0)))→G0 80 A [(0,vP lb 0),(1,sv),(7,vP ob 0),(8,vP rb 0),(9,ov'),(13,vI (n:Nat)),(14,vI (i+1:Nat))]→J0 Try.prog main F Stop (G (bA 48 A [.code X5,.inLoop X5,.inBlock 0,.code m9]) cs) w'):
 J0 Try.prog main F Stop (G (bA 48 A [.code X5,.inLoop X5,.inBlock 0,.code m9]) cs) w:=by
 obtain⟨s,rfl,h0,h1,h7,h8,h9,h13,h14,_⟩:=Y3 o8 hA
 simp only[o8,h0,h1,h7,h8,h9,h13,h14]
 clear h0 h1 h7 h8 h9 h13 h14
 have hk64:IntKind.i64.wrap ((i:Int)+1)=(i:Int)+1:=IntWalk.i64_in _ (by omega)
 have hin:(i:Int)<(n:Int):=by omega
 have hin2:i<n:=by omega
 have hlt:decide ((i:Int)<(n:Int))=true:=by simp;omega
 have hlt2:decide (i<n)=true:=by simp;omega
 have cb0:w.cell? ⟨ob,0,none⟩=some (vI kd):=by simp[World.cell?,hob]
 have cb1:w.cell? ⟨ob,1,none⟩=some (vI a):=by simp[World.cell?,hob]
 have cb2:w.cell? ⟨ob,2,none⟩=some (vI b):=by simp[World.cell?,hob]
 have cb3:w.cell? ⟨ob,3,none⟩=some (vI c0):=by simp[World.cell?,hob]
 refine ogW l9 c0J ?_
 simp only[l9,V0,Try.f48,zz,Nat.reduceAdd]
 refine oT ?_
 refine S0<|ogV c0a d0J<|ogYn .skip<|ogK<|ogV q0L m0r ?_
 rw[z0h]
 refine L7<|ogW v0y m0q ?_
 simp only[v0y,V0,Try.f48,zz,Nat.reduceAdd]
 iterate 2 refine oT ?_
 refine S0 ?_
 rw[z0j]
 refine ogR ?_
 simp only[m0q,V0,Try.f48,zz,Nat.reduceAdd]
 iterate 2 refine oT ?_
 refine oL ?_
 iterate 2 refine oT ?_
 refine oL ?_
 iterate 2 refine oT ?_
 refine oA hU ?_
 refine S8 (s:=.tmp 17) (x:=.tmp 25) (t:=22) (e:=2) (sz:=1) (bytes:=8) (news:=[vI (i6 (b+i6 (i*c0)))]) (m:=1) (c:=1) (ad:=⟨w.heap.size,0,none⟩) Try.underlying22 i8 (by decide) rfl rfl (by decide) rfl (hwf.of_grew (P0 hU hn _)) (v:=ov) rfl rfl (hrow.alloc _) hF rfl (N4 (X:=w) (l:=[vI (i6 (b+i6 (i*c0)))]) rfl) (by intro q hq;simp at hq;subst hq;rfl) (by unfold maxLen;omega) (by omega) fun ov' w' g1 g2 g3 g4 g5=>?_
 have hg:f8 F w w' ov ov' xs (i6 (b+i6 (i*c0))):=⟨by rw[List.map_append];exact g1,g2,by simp at g3;omega,fun q hq hne=>by rw[g4 q (by simp;omega) hne,D0 _ _ hq],g5.imp_right fun⟨g,h1,h2⟩=>⟨g,h1,by simp at h2;omega⟩⟩
 clear g1 g2 g3 g4 g5 hrow hwf
 walk_nrm
 refine oT ?_
 refine S0<|ogI ?_
 rw[z0k]
 refine ogR ?_
 simp only[m0r,V0,Try.f48,zz,Nat.reduceAdd]
 iterate 2 refine oT ?_
 refine S0<|ogL ?_
 refine h ov' w' _ hg ?_
 exact⟨rfl,rfl,rfl,rfl,rfl,rfl,rfl,rfl,trivial⟩
theorem E0p{sv:Value}{lb ob rb n:Nat}{kd a b c0:Int}(hn16:n≤16){m0 nn:Nat}(hU:P2 F nn)(hm0:nn≤m0){w0:World}(hob0:ob<m0)(hob:w0.heap[ob]? =some (.cells #[vI kd,vI a,vI b,vI c0] 47 (0,0)))
 (h:∀ov u A,u.ownsRow 0 2 1 ov n ((V2 n b c0).map fun v=>vI v)→Wf F u→m0≤u.heap.size→(∀r,r<m0→u.heap[r]? =w0.heap[r]?)→(∀g,ov.ownBlock=some g→m0≤g)→G0 80 A [(0,vP lb 0),(1,sv),(7,vP ob 0),(8,vP rb 0),(9,ov),(13,vI (n:Nat)),(14,vI (n:Nat))]→J0 Try.prog main F Stop (G (bA 48 A [.code X5,.inLoop X5,.inBlock 0,.code m9]) cs) u):
 ∀k i ov u A,i+k=n→u.ownsRow 0 2 1 ov i ((V2 i b c0).map fun v=>vI v)→Wf F u→m0≤u.heap.size→(∀r,r<m0→u.heap[r]? =w0.heap[r]?)→(∀g,ov.ownBlock=some g→m0≤g)→G0 80 A [(0,vP lb 0),(1,sv),(7,vP ob 0),(8,vP rb 0),(9,ov),(13,vI (n:Nat)),(14,vI (i:Nat))]→J0 Try.prog main F Stop (G (bA 48 A [.code X5,.inLoop X5,.inBlock 0,.code m9]) cs) u:=by
 intro k
 induction k with
 | zero=>
   intro i ov u A hi hrow hwf hsz hold hg hA
   have e:i=n:=by omega
   subst e
   exact h ov u A hrow hwf hsz hold hg hA
 | succ k ih=>
   intro i ov u A hi hrow hwf hsz hold hg hA
   have hl:=G5 i b c0
   have hF:∀b,ov.ownBlock=some b→F b=none:=fun q hq=>by
    cases hz:F q with
    | none=>rfl
    | some z=>exact absurd (hU q z hz) (by have:=hg q hq;omega)
   refine E0o (kd:=kd) (a:=a) (b:=b) (c0:=c0) (xs:=V2 i b c0) hn16 (by omega) (by omega) hU (by omega) hwf (by rw[hl];exact hrow) hF ((hold _ hob0).trans hob) hA fun ov' w' A' g hA'=>?_
   have e:V2 (i+1) b c0=V2 i b c0++[i6 (b+i6 (i*c0))]:=by simp[V2,List.range_succ]
   refine ih (i+1) ov' w' A' (by omega) ?_ g.wf (Nat.le_trans hsz g.size) (fun r hr=>?_) (fun q hq=>?_) hA'
   ·have:=g.row
    rw[hl]at this
    rw[e]
    exact this
   ·rw[g.old r (by omega) ?_,hold r hr]
    intro e2
    exact absurd (hg r e2.symm) (by omega)
   ·rcases g.blk with e2|⟨q2,e2,h2⟩
    ·exact hg q (e2 ▸ hq)
    ·rw[hq]at e2
     cases e2
     omega
theorem A0K{sv ov:Value}{lb ob rb n:Nat}{a b c0:Int}{nn:Nat}(hU:P2 F nn)(hn:nn≤w.heap.size)(hob:w.heap[ob]? =some (.cells #[vI 1,vI a,vI b,vI c0] 47 (0,0))){A:Array Value}(hA:G0 80 A [(0,vP lb 0),(1,sv),(7,vP ob 0),(8,vP rb 0),(9,ov),(13,vI (n:Nat)),(14,vI (n:Nat))])
 (h:∀A,G0 80 A [(8,vP rb 0),(11,vP w.heap.size 0)]→J0 Try.prog main F Stop (G (Frame.enter Try.prog 24 #[vP lb 0,sv,vI a,ov] .normal) ((bA 48 A [.inRegion (oC a0S) [5,6,7],.inBlock 2,.code K5])::cs)) (w.alloc (.cells #[.bool false,vI 0,.slice none 0 0] 44))):
 J0 Try.prog main F Stop (G (bA 48 A [.code X5,.inLoop X5,.inBlock 0,.code m9]) cs) w:=by
 obtain⟨s,rfl,h0,h1,h7,h8,h9,h13,h14,_⟩:=Y3 o8 hA
 simp only[o8,h0,h1,h7,h8,h9,h13,h14]
 clear h0 h1 h7 h8 h9 h13 h14
 have hlt:decide ((n:Int)<(n:Int))=false:=by simp
 have hlt2:decide (n<n)=false:=by simp
 have cb0:w.cell? ⟨ob,0,none⟩=some (vI 1):=by simp[World.cell?,hob]
 have cb1:w.cell? ⟨ob,1,none⟩=some (vI a):=by simp[World.cell?,hob]
 have cb2:w.cell? ⟨ob,2,none⟩=some (vI b):=by simp[World.cell?,hob]
 have cb3:w.cell? ⟨ob,3,none⟩=some (vI c0):=by simp[World.cell?,hob]
 have ca0:(w.alloc (.cells #[.bool false,vI 0,.slice none 0 0] 44)).cell? ⟨ob,0,none⟩=some (vI 1):=by rw[(O0 cb0 _).1]
 have ca1:(w.alloc (.cells #[.bool false,vI 0,.slice none 0 0] 44)).cell? ⟨ob,1,none⟩=some (vI a):=by rw[(O0 cb1 _).1]
 refine ogW l9 c0J ?_
 simp only[l9,V0,Try.f48,zz,Nat.reduceAdd]
 refine oT ?_
 refine S0<|ogV c0a d0J<|ogGn (.exit 0) ?_
 refine Q0 rfl (fun d=>stepG_exit rfl) ?_
 refine ogW a0z a0Y ?_
 simp only[a0z,V0,Try.f48,zz,Nat.reduceAdd]
 refine oA hU ?_
 refine S0<|ogV c0c K5<|ogW a0A d0I ?_
 simp only[a0A,V0,Try.f48,zz,Nat.reduceAdd]
 refine oT ?_
 refine oL ?_
 refine S0 ?_
 rw[c02]
 refine L7<|ogW a0B c0b ?_
 simp only[a0B,V0,Try.f48,zz,Nat.reduceAdd]
 iterate 2 refine oT ?_
 refine S0<|ogYn a0S ?_
 rw[t0T]
 refine ogR ?_
 simp only[a0S,V0,Try.f48,zz,Nat.reduceAdd]
 iterate 3 refine oT ?_
 refine oL ?_
 refine oT ?_
 refine oc b0a #[vP lb 0,sv,vI a,ov] ?_
 refine h _ ?_
 exact⟨rfl,rfl,rfl,trivial⟩
theorem A0L{sv ov:Value}{lb ob rb n:Nat}{a b c0:Int}{nn:Nat}(hU:P2 F nn)(hn:nn≤w.heap.size)(hob:w.heap[ob]? =some (.cells #[vI 2,vI a,vI b,vI c0] 47 (0,0))){A:Array Value}(hA:G0 80 A [(0,vP lb 0),(1,sv),(7,vP ob 0),(8,vP rb 0),(9,ov),(13,vI (n:Nat)),(14,vI (n:Nat))])
 (h:∀A,G0 80 A [(8,vP rb 0),(11,vP w.heap.size 0)]→J0 Try.prog main F Stop (G (Frame.enter Try.prog 25 #[vP lb 0,sv,vI a,ov] .normal) ((bA 48 A [.inRegion (oC a0T) [5,6,7],.inBlock 2,.code K5])::cs)) (w.alloc (.cells #[.bool false,vI 0,.slice none 0 0] 44))):
 J0 Try.prog main F Stop (G (bA 48 A [.code X5,.inLoop X5,.inBlock 0,.code m9]) cs) w:=by
 obtain⟨s,rfl,h0,h1,h7,h8,h9,h13,h14,_⟩:=Y3 o8 hA
 simp only[o8,h0,h1,h7,h8,h9,h13,h14]
 clear h0 h1 h7 h8 h9 h13 h14
 have hlt:decide ((n:Int)<(n:Int))=false:=by simp
 have hlt2:decide (n<n)=false:=by simp
 have cb0:w.cell? ⟨ob,0,none⟩=some (vI 2):=by simp[World.cell?,hob]
 have cb1:w.cell? ⟨ob,1,none⟩=some (vI a):=by simp[World.cell?,hob]
 have cb2:w.cell? ⟨ob,2,none⟩=some (vI b):=by simp[World.cell?,hob]
 have cb3:w.cell? ⟨ob,3,none⟩=some (vI c0):=by simp[World.cell?,hob]
 have ca0:(w.alloc (.cells #[.bool false,vI 0,.slice none 0 0] 44)).cell? ⟨ob,0,none⟩=some (vI 2):=by rw[(O0 cb0 _).1]
 have ca1:(w.alloc (.cells #[.bool false,vI 0,.slice none 0 0] 44)).cell? ⟨ob,1,none⟩=some (vI a):=by rw[(O0 cb1 _).1]
 refine ogW l9 c0J ?_
 simp only[l9,V0,Try.f48,zz,Nat.reduceAdd]
 refine oT ?_
 refine S0<|ogV c0a d0J<|ogGn (.exit 0) ?_
 refine Q0 rfl (fun d=>stepG_exit rfl) ?_
 refine ogW a0z a0Y ?_
 simp only[a0z,V0,Try.f48,zz,Nat.reduceAdd]
 refine oA hU ?_
 refine S0<|ogV c0c K5<|ogW a0A d0I ?_
 simp only[a0A,V0,Try.f48,zz,Nat.reduceAdd]
 refine oT ?_
 refine oL ?_
 refine S0 ?_
 rw[c02]
 refine L7<|ogW a0B c0b ?_
 simp only[a0B,V0,Try.f48,zz,Nat.reduceAdd]
 iterate 2 refine oT ?_
 refine S0<|ogGn c05<|ogW z9 c03 ?_
 simp only[z9,V0,Try.f48,zz,Nat.reduceAdd]
 iterate 2 refine oT ?_
 refine S0<|ogYn a0T ?_
 rw[t0U]
 refine ogR ?_
 simp only[a0T,V0,Try.f48,zz,Nat.reduceAdd]
 iterate 3 refine oT ?_
 refine oL ?_
 refine oT ?_
 refine oc b0i #[vP lb 0,sv,vI a,ov] ?_
 refine h _ ?_
 exact⟨rfl,rfl,rfl,trivial⟩
theorem A0M{sv ov:Value}{lb ob rb n:Nat}{a b c0:Int}{nn:Nat}(hU:P2 F nn)(hn:nn≤w.heap.size)(hob:w.heap[ob]? =some (.cells #[vI 3,vI a,vI b,vI c0] 47 (0,0))){A:Array Value}(hA:G0 80 A [(0,vP lb 0),(1,sv),(7,vP ob 0),(8,vP rb 0),(9,ov),(13,vI (n:Nat)),(14,vI (n:Nat))])
 (h:∀A,G0 80 A [(8,vP rb 0),(11,vP w.heap.size 0)]→J0 Try.prog main F Stop (G (Frame.enter Try.prog 26 #[vP lb 0,sv,vI a] .normal) ((bA 48 A [.inRegion (oC a0V) [4,5,6,7,8,9,10,11],.inBlock 2,.code K5])::cs)) (w.alloc (.cells #[.bool false,vI 0,.slice none 0 0] 44))):
 J0 Try.prog main F Stop (G (bA 48 A [.code X5,.inLoop X5,.inBlock 0,.code m9]) cs) w:=by
 obtain⟨s,rfl,h0,h1,h7,h8,h9,h13,h14,_⟩:=Y3 o8 hA
 simp only[o8,h0,h1,h7,h8,h9,h13,h14]
 clear h0 h1 h7 h8 h9 h13 h14
 have hlt:decide ((n:Int)<(n:Int))=false:=by simp
 have hlt2:decide (n<n)=false:=by simp
 have cb0:w.cell? ⟨ob,0,none⟩=some (vI 3):=by simp[World.cell?,hob]
 have cb1:w.cell? ⟨ob,1,none⟩=some (vI a):=by simp[World.cell?,hob]
 have cb2:w.cell? ⟨ob,2,none⟩=some (vI b):=by simp[World.cell?,hob]
 have cb3:w.cell? ⟨ob,3,none⟩=some (vI c0):=by simp[World.cell?,hob]
 have ca0:(w.alloc (.cells #[.bool false,vI 0,.slice none 0 0] 44)).cell? ⟨ob,0,none⟩=some (vI 3):=by rw[(O0 cb0 _).1]
 have ca1:(w.alloc (.cells #[.bool false,vI 0,.slice none 0 0] 44)).cell? ⟨ob,1,none⟩=some (vI a):=by rw[(O0 cb1 _).1]
 refine ogW l9 c0J ?_
 simp only[l9,V0,Try.f48,zz,Nat.reduceAdd]
 refine oT ?_
 refine S0<|ogV c0a d0J<|ogGn (.exit 0) ?_
 refine Q0 rfl (fun d=>stepG_exit rfl) ?_
 refine ogW a0z a0Y ?_
 simp only[a0z,V0,Try.f48,zz,Nat.reduceAdd]
 refine oA hU ?_
 refine S0<|ogV c0c K5<|ogW a0A d0I ?_
 simp only[a0A,V0,Try.f48,zz,Nat.reduceAdd]
 refine oT ?_
 refine oL ?_
 refine S0 ?_
 rw[c02]
 refine L7<|ogW a0B c0b ?_
 simp only[a0B,V0,Try.f48,zz,Nat.reduceAdd]
 iterate 2 refine oT ?_
 refine S0<|ogGn c05<|ogW z9 c03 ?_
 simp only[z9,V0,Try.f48,zz,Nat.reduceAdd]
 iterate 2 refine oT ?_
 refine S0<|ogGn f0h<|ogW a0U f0g ?_
 simp only[a0U,V0,Try.f48,zz,Nat.reduceAdd]
 iterate 2 refine oT ?_
 refine S0<|ogYn a0V ?_
 rw[t0V]
 refine ogR ?_
 simp only[a0V,V0,Try.f48,zz,Nat.reduceAdd]
 iterate 3 refine oT ?_
 refine oL ?_
 refine oc b0T #[vP lb 0,sv,vI a] ?_
 refine h _ ?_
 exact⟨rfl,rfl,rfl,trivial⟩
theorem A0N{sv ov:Value}{lb ob rb n:Nat}{a b c0:Int}{nn:Nat}(hU:P2 F nn)(hn:nn≤w.heap.size)(hob:w.heap[ob]? =some (.cells #[vI 4,vI a,vI b,vI c0] 47 (0,0))){A:Array Value}(hA:G0 80 A [(0,vP lb 0),(1,sv),(7,vP ob 0),(8,vP rb 0),(9,ov),(13,vI (n:Nat)),(14,vI (n:Nat))])
 (h:∀A,G0 80 A [(8,vP rb 0),(11,vP w.heap.size 0)]→J0 Try.prog main F Stop (G (Frame.enter Try.prog 28 #[vP lb 0,sv] .normal) ((bA 48 A [.inRegion (oC a0W) [2,3,4,5,6],.inBlock 2,.code K5])::cs)) (w.alloc (.cells #[.bool false,vI 0,.slice none 0 0] 44))):
 J0 Try.prog main F Stop (G (bA 48 A [.code X5,.inLoop X5,.inBlock 0,.code m9]) cs) w:=by
 obtain⟨s,rfl,h0,h1,h7,h8,h9,h13,h14,_⟩:=Y3 o8 hA
 simp only[o8,h0,h1,h7,h8,h9,h13,h14]
 clear h0 h1 h7 h8 h9 h13 h14
 have hlt:decide ((n:Int)<(n:Int))=false:=by simp
 have hlt2:decide (n<n)=false:=by simp
 have cb0:w.cell? ⟨ob,0,none⟩=some (vI 4):=by simp[World.cell?,hob]
 have cb1:w.cell? ⟨ob,1,none⟩=some (vI a):=by simp[World.cell?,hob]
 have cb2:w.cell? ⟨ob,2,none⟩=some (vI b):=by simp[World.cell?,hob]
 have cb3:w.cell? ⟨ob,3,none⟩=some (vI c0):=by simp[World.cell?,hob]
 have ca0:(w.alloc (.cells #[.bool false,vI 0,.slice none 0 0] 44)).cell? ⟨ob,0,none⟩=some (vI 4):=by rw[(O0 cb0 _).1]
 have ca1:(w.alloc (.cells #[.bool false,vI 0,.slice none 0 0] 44)).cell? ⟨ob,1,none⟩=some (vI a):=by rw[(O0 cb1 _).1]
 refine ogW l9 c0J ?_
 simp only[l9,V0,Try.f48,zz,Nat.reduceAdd]
 refine oT ?_
 refine S0<|ogV c0a d0J<|ogGn (.exit 0) ?_
 refine Q0 rfl (fun d=>stepG_exit rfl) ?_
 refine ogW a0z a0Y ?_
 simp only[a0z,V0,Try.f48,zz,Nat.reduceAdd]
 refine oA hU ?_
 refine S0<|ogV c0c K5<|ogW a0A d0I ?_
 simp only[a0A,V0,Try.f48,zz,Nat.reduceAdd]
 refine oT ?_
 refine oL ?_
 refine S0 ?_
 rw[c02]
 refine L7<|ogW a0B c0b ?_
 simp only[a0B,V0,Try.f48,zz,Nat.reduceAdd]
 iterate 2 refine oT ?_
 refine S0<|ogGn c05<|ogW z9 c03 ?_
 simp only[z9,V0,Try.f48,zz,Nat.reduceAdd]
 iterate 2 refine oT ?_
 refine S0<|ogGn f0h<|ogW a0U f0g ?_
 simp only[a0U,V0,Try.f48,zz,Nat.reduceAdd]
 iterate 2 refine oT ?_
 refine S0<|ogGn h04<|ogW c04 h0Z ?_
 simp only[c04,V0,Try.f48,zz,Nat.reduceAdd]
 iterate 2 refine oT ?_
 refine S0<|ogYn a0W ?_
 rw[t0W]
 refine ogR ?_
 simp only[a0W,V0,Try.f48,zz,Nat.reduceAdd]
 iterate 2 refine oT ?_
 refine oc Z9 #[vP lb 0,sv] ?_
 refine h _ ?_
 exact⟨rfl,rfl,rfl,trivial⟩
theorem A0O{sv ov:Value}{lb ob rb n:Nat}{a b c0:Int}{nn:Nat}(hU:P2 F nn)(hn:nn≤w.heap.size)(hob:w.heap[ob]? =some (.cells #[vI 5,vI a,vI b,vI c0] 47 (0,0))){A:Array Value}(hA:G0 80 A [(0,vP lb 0),(1,sv),(7,vP ob 0),(8,vP rb 0),(9,ov),(13,vI (n:Nat)),(14,vI (n:Nat))])
 (h:∀A,G0 80 A [(8,vP rb 0),(11,vP w.heap.size 0)]→J0 Try.prog main F Stop (G (Frame.enter Try.prog 27 #[vP lb 0,sv,vI a] .normal) ((bA 48 A [.inRegion (oC a0X) [4,5,6,7,8,9,10,11],.inBlock 2,.code K5])::cs)) (w.alloc (.cells #[.bool false,vI 0,.slice none 0 0] 44))):
 J0 Try.prog main F Stop (G (bA 48 A [.code X5,.inLoop X5,.inBlock 0,.code m9]) cs) w:=by
 obtain⟨s,rfl,h0,h1,h7,h8,h9,h13,h14,_⟩:=Y3 o8 hA
 simp only[o8,h0,h1,h7,h8,h9,h13,h14]
 clear h0 h1 h7 h8 h9 h13 h14
 have hlt:decide ((n:Int)<(n:Int))=false:=by simp
 have hlt2:decide (n<n)=false:=by simp
 have cb0:w.cell? ⟨ob,0,none⟩=some (vI 5):=by simp[World.cell?,hob]
 have cb1:w.cell? ⟨ob,1,none⟩=some (vI a):=by simp[World.cell?,hob]
 have cb2:w.cell? ⟨ob,2,none⟩=some (vI b):=by simp[World.cell?,hob]
 have cb3:w.cell? ⟨ob,3,none⟩=some (vI c0):=by simp[World.cell?,hob]
 have ca0:(w.alloc (.cells #[.bool false,vI 0,.slice none 0 0] 44)).cell? ⟨ob,0,none⟩=some (vI 5):=by rw[(O0 cb0 _).1]
 have ca1:(w.alloc (.cells #[.bool false,vI 0,.slice none 0 0] 44)).cell? ⟨ob,1,none⟩=some (vI a):=by rw[(O0 cb1 _).1]
 refine ogW l9 c0J ?_
 simp only[l9,V0,Try.f48,zz,Nat.reduceAdd]
 refine oT ?_
 refine S0<|ogV c0a d0J<|ogGn (.exit 0) ?_
 refine Q0 rfl (fun d=>stepG_exit rfl) ?_
 refine ogW a0z a0Y ?_
 simp only[a0z,V0,Try.f48,zz,Nat.reduceAdd]
 refine oA hU ?_
 refine S0<|ogV c0c K5<|ogW a0A d0I ?_
 simp only[a0A,V0,Try.f48,zz,Nat.reduceAdd]
 refine oT ?_
 refine oL ?_
 refine S0 ?_
 rw[c02]
 refine L7<|ogW a0B c0b ?_
 simp only[a0B,V0,Try.f48,zz,Nat.reduceAdd]
 iterate 2 refine oT ?_
 refine S0<|ogGn c05<|ogW z9 c03 ?_
 simp only[z9,V0,Try.f48,zz,Nat.reduceAdd]
 iterate 2 refine oT ?_
 refine S0<|ogGn f0h<|ogW a0U f0g ?_
 simp only[a0U,V0,Try.f48,zz,Nat.reduceAdd]
 iterate 2 refine oT ?_
 refine S0<|ogGn h04<|ogW c04 h0Z ?_
 simp only[c04,V0,Try.f48,zz,Nat.reduceAdd]
 iterate 2 refine oT ?_
 refine S0<|ogGn k0Q<|ogW h00 q0M ?_
 simp only[h00,V0,Try.f48,zz,Nat.reduceAdd]
 iterate 2 refine oT ?_
 refine S0<|ogYn a0X ?_
 rw[t0X]
 refine ogR ?_
 simp only[a0X,V0,Try.f48,zz,Nat.reduceAdd]
 iterate 3 refine oT ?_
 refine oL ?_
 refine oc e0p #[vP lb 0,sv,vI a] ?_
 refine h _ ?_
 exact⟨rfl,rfl,rfl,trivial⟩
theorem u0H{ab rb:Nat}(ha:f0A w ab)(hb:Ans w rb)(hne:ab≠rb)(hnh:∀k,¬held F ⟨ab,k,none⟩)(hnh2:∀k,¬held F ⟨rb,k,none⟩){ok:Bool}{A:Array Value}(hA:G0 80 A [(8,vP rb 0),(11,vP ab 0)]){c:Frame}
 (h:∀w',e0b w w' ab rb→J0 Try.prog main F Stop (G (c.finish (.agg #[.bool ok,vI 0,.slice none 0 0])) cs) w'):
 J0 Try.prog main F Stop (G ((bA 48 A [.inRegion (oC a0S) [5,6,7],.inBlock 2,.code K5]).finish (.bool ok)) (c::cs)) w:=by
 obtain⟨s,rfl,h8,h11,_⟩:=Y3 o8 hA
 simp only[o8,h8,h11]
 clear h8 h11
 obtain⟨c0,c1,c2⟩:=ha.c
 have z0:=ha.z 0
 have z1:=ha.z 1
 have z2:=ha.z 2
 obtain⟨x0,x1,x2,d0,d1,d2⟩:=hb.c
 have y0:=hb.z 0
 have y1:=hb.z 1
 have y2:=hb.z 2
 have hne2:=Ne.symm hne
 rw[Frame.finish_at]
 simp only[a0S,V0,Try.f48,zz,Nat.reduceAdd]
 walk_nrm
 refine oT ?_
 (refine oW fun dd K hK=>?_;go_simp;refine hK _ _ ⟨⟨⟨0,E0 rfl (hnh 0) _⟩,fun e he=>by(have hm:=mem_listed he;clear he hK;simp[go_sem,storedEv,c0,c1,c2,z0,z1,z2,d0,d1,d2,y0,y1,y2,hne,hne2]at hm;subst hm;exact U0 _ _ (hnh 0))⟩,?_⟩;clear hK K;simp only[setCell_at'];refine J0.at ?_ dd)
 refine S0<|ogI<|ogW p8 .ret ?_
 simp only[p8,V0,Try.f48,zz,Nat.reduceAdd]
 (refine oW fun dd K hK=>?_;go_simp;refine hK _ _ ⟨⟨⟨0,V3.refl _ _⟩,fun e he=>by(have hm:=mem_listed he;clear he hK;simp[go_sem,c0,c1,c2,z0,z1,z2,d0,d1,d2,y0,y1,y2,hne,hne2]at hm;rcases hm with rfl|rfl|rfl<;>exact I1 _ _)⟩,J0.at ?_ dd⟩;clear hK K)
 (refine oW fun dd K hK=>?_;go_simp;refine hK _ _ ⟨⟨⟨0,K6 hnh2 _ _ _⟩,fun e he=>by(have hm:=mem_listed he;clear he hK;simp[go_sem,storedEv,c0,c1,c2,z0,z1,z2,d0,d1,d2,y0,y1,y2,hne,hne2]at hm;rcases hm with rfl|rfl|rfl<;>exact U0 _ _ (hnh2 _))⟩,?_⟩;clear hK K;simp only[setCell_at'];refine J0.at ?_ dd)
 refine S0<|ogX ?_
 refine p4 (fn:=Try.f48) (v:=.agg #[.bool ok,vI 0,.slice none 0 0]) rfl rfl Try.func48 (fun d=>by simp[results,Try.f48,go_sem,c0,c1,c2,z0,z1,z2,d0,d1,d2,y0,y1,y2,hne,hne2]) (fun d e he=>by(simp[results,Try.f48,go_sem,c0,c1,c2,z0,z1,z2,d0,d1,d2,y0,y1,y2,hne,hne2]at he;rcases he with rfl|rfl|rfl<;>exact I1 _ _)) ?_
 exact h _ ⟨by simp,fun r h1 h2=>by simp[G4 h1,G4 h2]⟩
theorem u0I{ab rb:Nat}(ha:f0A w ab)(hb:Ans w rb)(hne:ab≠rb)(hnh:∀k,¬held F ⟨ab,k,none⟩)(hnh2:∀k,¬held F ⟨rb,k,none⟩){ok:Bool}{A:Array Value}(hA:G0 80 A [(8,vP rb 0),(11,vP ab 0)]){c:Frame}
 (h:∀w',e0b w w' ab rb→J0 Try.prog main F Stop (G (c.finish (.agg #[.bool ok,vI 0,.slice none 0 0])) cs) w'):
 J0 Try.prog main F Stop (G ((bA 48 A [.inRegion (oC a0T) [5,6,7],.inBlock 2,.code K5]).finish (.bool ok)) (c::cs)) w:=by
 obtain⟨s,rfl,h8,h11,_⟩:=Y3 o8 hA
 simp only[o8,h8,h11]
 clear h8 h11
 obtain⟨c0,c1,c2⟩:=ha.c
 have z0:=ha.z 0
 have z1:=ha.z 1
 have z2:=ha.z 2
 obtain⟨x0,x1,x2,d0,d1,d2⟩:=hb.c
 have y0:=hb.z 0
 have y1:=hb.z 1
 have y2:=hb.z 2
 have hne2:=Ne.symm hne
 rw[Frame.finish_at]
 simp only[a0T,V0,Try.f48,zz,Nat.reduceAdd]
 walk_nrm
 refine oT ?_
 (refine oW fun dd K hK=>?_;go_simp;refine hK _ _ ⟨⟨⟨0,E0 rfl (hnh 0) _⟩,fun e he=>by(have hm:=mem_listed he;clear he hK;simp[go_sem,storedEv,c0,c1,c2,z0,z1,z2,d0,d1,d2,y0,y1,y2,hne,hne2]at hm;subst hm;exact U0 _ _ (hnh 0))⟩,?_⟩;clear hK K;simp only[setCell_at'];refine J0.at ?_ dd)
 refine S0<|ogI<|ogW p8 .ret ?_
 simp only[p8,V0,Try.f48,zz,Nat.reduceAdd]
 (refine oW fun dd K hK=>?_;go_simp;refine hK _ _ ⟨⟨⟨0,V3.refl _ _⟩,fun e he=>by(have hm:=mem_listed he;clear he hK;simp[go_sem,c0,c1,c2,z0,z1,z2,d0,d1,d2,y0,y1,y2,hne,hne2]at hm;rcases hm with rfl|rfl|rfl<;>exact I1 _ _)⟩,J0.at ?_ dd⟩;clear hK K)
 (refine oW fun dd K hK=>?_;go_simp;refine hK _ _ ⟨⟨⟨0,K6 hnh2 _ _ _⟩,fun e he=>by(have hm:=mem_listed he;clear he hK;simp[go_sem,storedEv,c0,c1,c2,z0,z1,z2,d0,d1,d2,y0,y1,y2,hne,hne2]at hm;rcases hm with rfl|rfl|rfl<;>exact U0 _ _ (hnh2 _))⟩,?_⟩;clear hK K;simp only[setCell_at'];refine J0.at ?_ dd)
 refine S0<|ogX ?_
 refine p4 (fn:=Try.f48) (v:=.agg #[.bool ok,vI 0,.slice none 0 0]) rfl rfl Try.func48 (fun d=>by simp[results,Try.f48,go_sem,c0,c1,c2,z0,z1,z2,d0,d1,d2,y0,y1,y2,hne,hne2]) (fun d e he=>by(simp[results,Try.f48,go_sem,c0,c1,c2,z0,z1,z2,d0,d1,d2,y0,y1,y2,hne,hne2]at he;rcases he with rfl|rfl|rfl<;>exact I1 _ _)) ?_
 exact h _ ⟨by simp,fun r h1 h2=>by simp[G4 h1,G4 h2]⟩
theorem o0S{ab rb:Nat}(ha:f0A w ab)(hb:Ans w rb)(hne:ab≠rb)(hnh:∀k,¬held F ⟨ab,k,none⟩)(hnh2:∀k,¬held F ⟨rb,k,none⟩){ok:Bool}{la:Option Addr}{ll lc:Nat}{A:Array Value}(hA:G0 80 A [(8,vP rb 0),(11,vP ab 0)]){c:Frame}
 (h:∀w',e0b w w' ab rb→J0 Try.prog main F Stop (G (c.finish (.agg #[.bool ok,vI 0,.slice la ll lc])) cs) w'):
 J0 Try.prog main F Stop (G ((bA 48 A [.inRegion (oC a0V) [4,5,6,7,8,9,10,11],.inBlock 2,.code K5]).finish (.tuple #[.slice la ll lc,.bool ok])) (c::cs)) w:=by
 obtain⟨s,rfl,h8,h11,_⟩:=Y3 o8 hA
 simp only[o8,h8,h11]
 clear h8 h11
 obtain⟨c0,c1,c2⟩:=ha.c
 have z0:=ha.z 0
 have z1:=ha.z 1
 have z2:=ha.z 2
 obtain⟨x0,x1,x2,d0,d1,d2⟩:=hb.c
 have y0:=hb.z 0
 have y1:=hb.z 1
 have y2:=hb.z 2
 have hne2:=Ne.symm hne
 rw[Frame.finish_at]
 simp only[a0V,V0,Try.f48,zz,Nat.reduceAdd]
 walk_nrm
 iterate 4 refine oT ?_
 (refine oW fun dd K hK=>?_;go_simp;refine hK _ _ ⟨⟨⟨0,E0 rfl (hnh 2) _⟩,fun e he=>by(have hm:=mem_listed he;clear he hK;simp[go_sem,storedEv,c0,c1,c2,z0,z1,z2,d0,d1,d2,y0,y1,y2,hne,hne2]at hm;subst hm;exact U0 _ _ (hnh 2))⟩,?_⟩;clear hK K;simp only[setCell_at'];refine J0.at ?_ dd)
 refine oT ?_
 (refine oW fun dd K hK=>?_;go_simp;refine hK _ _ ⟨⟨⟨0,E0 rfl (hnh 0) _⟩,fun e he=>by(have hm:=mem_listed he;clear he hK;simp[go_sem,storedEv,c0,c1,c2,z0,z1,z2,d0,d1,d2,y0,y1,y2,hne,hne2]at hm;subst hm;exact U0 _ _ (hnh 0))⟩,?_⟩;clear hK K;simp only[setCell_at'];refine J0.at ?_ dd)
 refine S0<|ogI<|ogW p8 .ret ?_
 simp only[p8,V0,Try.f48,zz,Nat.reduceAdd]
 (refine oW fun dd K hK=>?_;go_simp;refine hK _ _ ⟨⟨⟨0,V3.refl _ _⟩,fun e he=>by(have hm:=mem_listed he;clear he hK;simp[go_sem,c0,c1,c2,z0,z1,z2,d0,d1,d2,y0,y1,y2,hne,hne2]at hm;rcases hm with rfl|rfl|rfl<;>exact I1 _ _)⟩,J0.at ?_ dd⟩;clear hK K)
 (refine oW fun dd K hK=>?_;go_simp;refine hK _ _ ⟨⟨⟨0,K6 hnh2 _ _ _⟩,fun e he=>by(have hm:=mem_listed he;clear he hK;simp[go_sem,storedEv,c0,c1,c2,z0,z1,z2,d0,d1,d2,y0,y1,y2,hne,hne2]at hm;rcases hm with rfl|rfl|rfl<;>exact U0 _ _ (hnh2 _))⟩,?_⟩;clear hK K;simp only[setCell_at'];refine J0.at ?_ dd)
 refine S0<|ogX ?_
 refine p4 (fn:=Try.f48) (v:=.agg #[.bool ok,vI 0,.slice la ll lc]) rfl rfl Try.func48 (fun d=>by simp[results,Try.f48,go_sem,c0,c1,c2,z0,z1,z2,d0,d1,d2,y0,y1,y2,hne,hne2]) (fun d e he=>by(simp[results,Try.f48,go_sem,c0,c1,c2,z0,z1,z2,d0,d1,d2,y0,y1,y2,hne,hne2]at he;rcases he with rfl|rfl|rfl<;>exact I1 _ _)) ?_
 exact h _ ⟨by simp,fun r h1 h2=>by simp[G4 h1,G4 h2]⟩
theorem A0H{ab rb:Nat}(ha:f0A w ab)(hb:Ans w rb)(hne:ab≠rb)(hnh:∀k,¬held F ⟨ab,k,none⟩)(hnh2:∀k,¬held F ⟨rb,k,none⟩){la:Option Addr}{ll lc:Nat}{A:Array Value}(hA:G0 80 A [(8,vP rb 0),(11,vP ab 0)]){c:Frame}
 (h:∀w',e0b w w' ab rb→J0 Try.prog main F Stop (G (c.finish (.agg #[.bool true,vI 0,.slice la ll lc])) cs) w'):
 J0 Try.prog main F Stop (G ((bA 48 A [.inRegion (oC a0W) [2,3,4,5,6],.inBlock 2,.code K5]).finish (.slice la ll lc)) (c::cs)) w:=by
 obtain⟨s,rfl,h8,h11,_⟩:=Y3 o8 hA
 simp only[o8,h8,h11]
 clear h8 h11
 obtain⟨c0,c1,c2⟩:=ha.c
 have z0:=ha.z 0
 have z1:=ha.z 1
 have z2:=ha.z 2
 obtain⟨x0,x1,x2,d0,d1,d2⟩:=hb.c
 have y0:=hb.z 0
 have y1:=hb.z 1
 have y2:=hb.z 2
 have hne2:=Ne.symm hne
 rw[Frame.finish_at]
 simp only[a0W,V0,Try.f48,zz,Nat.reduceAdd]
 walk_nrm
 refine oT ?_
 (refine oW fun dd K hK=>?_;go_simp;refine hK _ _ ⟨⟨⟨0,E0 rfl (hnh 2) _⟩,fun e he=>by(have hm:=mem_listed he;clear he hK;simp[go_sem,storedEv,c0,c1,c2,z0,z1,z2,d0,d1,d2,y0,y1,y2,hne,hne2]at hm;subst hm;exact U0 _ _ (hnh 2))⟩,?_⟩;clear hK K;simp only[setCell_at'];refine J0.at ?_ dd)
 refine oT ?_
 (refine oW fun dd K hK=>?_;go_simp;refine hK _ _ ⟨⟨⟨0,E0 rfl (hnh 0) _⟩,fun e he=>by(have hm:=mem_listed he;clear he hK;simp[go_sem,storedEv,c0,c1,c2,z0,z1,z2,d0,d1,d2,y0,y1,y2,hne,hne2]at hm;subst hm;exact U0 _ _ (hnh 0))⟩,?_⟩;clear hK K;simp only[setCell_at'];refine J0.at ?_ dd)
 refine S0<|ogI<|ogW p8 .ret ?_
 simp only[p8,V0,Try.f48,zz,Nat.reduceAdd]
 (refine oW fun dd K hK=>?_;go_simp;refine hK _ _ ⟨⟨⟨0,V3.refl _ _⟩,fun e he=>by(have hm:=mem_listed he;clear he hK;simp[go_sem,c0,c1,c2,z0,z1,z2,d0,d1,d2,y0,y1,y2,hne,hne2]at hm;rcases hm with rfl|rfl|rfl<;>exact I1 _ _)⟩,J0.at ?_ dd⟩;clear hK K)
 (refine oW fun dd K hK=>?_;go_simp;refine hK _ _ ⟨⟨⟨0,K6 hnh2 _ _ _⟩,fun e he=>by(have hm:=mem_listed he;clear he hK;simp[go_sem,storedEv,c0,c1,c2,z0,z1,z2,d0,d1,d2,y0,y1,y2,hne,hne2]at hm;rcases hm with rfl|rfl|rfl<;>exact U0 _ _ (hnh2 _))⟩,?_⟩;clear hK K;simp only[setCell_at'];refine J0.at ?_ dd)
 refine S0<|ogX ?_
 refine p4 (fn:=Try.f48) (v:=.agg #[.bool true,vI 0,.slice la ll lc]) rfl rfl Try.func48 (fun d=>by simp[results,Try.f48,go_sem,c0,c1,c2,z0,z1,z2,d0,d1,d2,y0,y1,y2,hne,hne2]) (fun d e he=>by(simp[results,Try.f48,go_sem,c0,c1,c2,z0,z1,z2,d0,d1,d2,y0,y1,y2,hne,hne2]at he;rcases he with rfl|rfl|rfl<;>exact I1 _ _)) ?_
 exact h _ ⟨by simp,fun r h1 h2=>by simp[G4 h1,G4 h2]⟩
theorem A0I{ab rb:Nat}(ha:f0A w ab)(hb:Ans w rb)(hne:ab≠rb)(hnh:∀k,¬held F ⟨ab,k,none⟩)(hnh2:∀k,¬held F ⟨rb,k,none⟩){ok:Bool}{v:Int}{A:Array Value}(hA:G0 80 A [(8,vP rb 0),(11,vP ab 0)]){c:Frame}
 (h:∀w',e0b w w' ab rb→J0 Try.prog main F Stop (G (c.finish (.agg #[.bool ok,vI v,.slice none 0 0])) cs) w'):
 J0 Try.prog main F Stop (G ((bA 48 A [.inRegion (oC a0X) [4,5,6,7,8,9,10,11],.inBlock 2,.code K5]).finish (.tuple #[vI v,.bool ok])) (c::cs)) w:=by
 obtain⟨s,rfl,h8,h11,_⟩:=Y3 o8 hA
 simp only[o8,h8,h11]
 clear h8 h11
 obtain⟨c0,c1,c2⟩:=ha.c
 have z0:=ha.z 0
 have z1:=ha.z 1
 have z2:=ha.z 2
 obtain⟨x0,x1,x2,d0,d1,d2⟩:=hb.c
 have y0:=hb.z 0
 have y1:=hb.z 1
 have y2:=hb.z 2
 have hne2:=Ne.symm hne
 rw[Frame.finish_at]
 simp only[a0X,V0,Try.f48,zz,Nat.reduceAdd]
 walk_nrm
 iterate 4 refine oT ?_
 (refine oW fun dd K hK=>?_;go_simp;refine hK _ _ ⟨⟨⟨0,E0 rfl (hnh 1) _⟩,fun e he=>by(have hm:=mem_listed he;clear he hK;simp[go_sem,storedEv,c0,c1,c2,z0,z1,z2,d0,d1,d2,y0,y1,y2,hne,hne2]at hm;subst hm;exact U0 _ _ (hnh 1))⟩,?_⟩;clear hK K;simp only[setCell_at'];refine J0.at ?_ dd)
 refine oT ?_
 (refine oW fun dd K hK=>?_;go_simp;refine hK _ _ ⟨⟨⟨0,E0 rfl (hnh 0) _⟩,fun e he=>by(have hm:=mem_listed he;clear he hK;simp[go_sem,storedEv,c0,c1,c2,z0,z1,z2,d0,d1,d2,y0,y1,y2,hne,hne2]at hm;subst hm;exact U0 _ _ (hnh 0))⟩,?_⟩;clear hK K;simp only[setCell_at'];refine J0.at ?_ dd)
 refine S0<|ogI<|ogW p8 .ret ?_
 simp only[p8,V0,Try.f48,zz,Nat.reduceAdd]
 (refine oW fun dd K hK=>?_;go_simp;refine hK _ _ ⟨⟨⟨0,V3.refl _ _⟩,fun e he=>by(have hm:=mem_listed he;clear he hK;simp[go_sem,c0,c1,c2,z0,z1,z2,d0,d1,d2,y0,y1,y2,hne,hne2]at hm;rcases hm with rfl|rfl|rfl<;>exact I1 _ _)⟩,J0.at ?_ dd⟩;clear hK K)
 (refine oW fun dd K hK=>?_;go_simp;refine hK _ _ ⟨⟨⟨0,K6 hnh2 _ _ _⟩,fun e he=>by(have hm:=mem_listed he;clear he hK;simp[go_sem,storedEv,c0,c1,c2,z0,z1,z2,d0,d1,d2,y0,y1,y2,hne,hne2]at hm;rcases hm with rfl|rfl|rfl<;>exact U0 _ _ (hnh2 _))⟩,?_⟩;clear hK K;simp only[setCell_at'];refine J0.at ?_ dd)
 refine S0<|ogX ?_
 refine p4 (fn:=Try.f48) (v:=.agg #[.bool ok,vI v,.slice none 0 0]) rfl rfl Try.func48 (fun d=>by simp[results,Try.f48,go_sem,c0,c1,c2,z0,z1,z2,d0,d1,d2,y0,y1,y2,hne,hne2]) (fun d e he=>by(simp[results,Try.f48,go_sem,c0,c1,c2,z0,z1,z2,d0,d1,d2,y0,y1,y2,hne,hne2]at he;rcases he with rfl|rfl|rfl<;>exact I1 _ _)) ?_
 exact h _ ⟨by simp,fun r h1 h2=>by simp[G4 h1,G4 h2]⟩
theorem A0J{sv ov:Value}{lb ob rb n:Nat}{kd a b c0:Int}{nn:Nat}(hU:P2 F nn)(hn:nn≤w.heap.size)(k1:(kd == 1)=false)(k2:(kd == 2)=false)(k3:(kd == 3)=false)(k4:(kd == 4)=false)(k5:(kd == 5)=false)(hob:w.heap[ob]? =some (.cells #[vI kd,vI a,vI b,vI c0] 47 (0,0)))(hb:Ans w rb)(hnh2:∀k,¬held F ⟨rb,k,none⟩){A:Array Value}(hA:G0 80 A [(0,vP lb 0),(1,sv),(7,vP ob 0),(8,vP rb 0),(9,ov),(13,vI (n:Nat)),(14,vI (n:Nat))]){c:Frame}
 (h:∀w',w'.heap.size=w.heap.size+1→(∀r,r<w.heap.size→r≠rb→w'.heap[r]? =w.heap[r]?)→J0 Try.prog main F Stop (G (c.finish (.agg #[.bool false,vI 0,.slice none 0 0])) cs) w'):
 J0 Try.prog main F Stop (G (bA 48 A [.code X5,.inLoop X5,.inBlock 0,.code m9]) (c::cs)) w:=by
 obtain⟨s,rfl,h0,h1,h7,h8,h9,h13,h14,_⟩:=Y3 o8 hA
 simp only[o8,h0,h1,h7,h8,h9,h13,h14]
 clear h0 h1 h7 h8 h9 h13 h14
 have hlt:decide ((n:Int)<(n:Int))=false:=by simp
 have hlt2:decide (n<n)=false:=by simp
 have cb0:w.cell? ⟨ob,0,none⟩=some (vI kd):=by simp[World.cell?,hob]
 have cb1:w.cell? ⟨ob,1,none⟩=some (vI a):=by simp[World.cell?,hob]
 have cb2:w.cell? ⟨ob,2,none⟩=some (vI b):=by simp[World.cell?,hob]
 have cb3:w.cell? ⟨ob,3,none⟩=some (vI c0):=by simp[World.cell?,hob]
 have ca0:(w.alloc (.cells #[.bool false,vI 0,.slice none 0 0] 44)).cell? ⟨ob,0,none⟩=some (vI kd):=by rw[(O0 cb0 _).1]
 have ca1:(w.alloc (.cells #[.bool false,vI 0,.slice none 0 0] 44)).cell? ⟨ob,1,none⟩=some (vI a):=by rw[(O0 cb1 _).1]
 have hb2:Ans (w.alloc (.cells #[.bool false,vI 0,.slice none 0 0] 44)) rb:=by
  obtain⟨x,y,z,h1⟩:=hb.o
  exact⟨⟨x,y,z,c0V h1 _⟩⟩
 obtain⟨x0,x1,x2,d0,d1,d2⟩:=hb2.c
 have y0:=hb2.z 0
 have y1:=hb2.z 1
 have y2:=hb2.z 2
 refine ogW l9 c0J ?_
 simp only[l9,V0,Try.f48,zz,Nat.reduceAdd]
 refine oT ?_
 refine S0<|ogV c0a d0J<|ogGn (.exit 0) ?_
 refine Q0 rfl (fun d=>stepG_exit rfl) ?_
 refine ogW a0z a0Y ?_
 simp only[a0z,V0,Try.f48,zz,Nat.reduceAdd]
 refine oA hU ?_
 refine S0<|ogV c0c K5<|ogW a0A d0I ?_
 simp only[a0A,V0,Try.f48,zz,Nat.reduceAdd]
 refine oT ?_
 refine oL ?_
 refine S0 ?_
 rw[c02]
 refine L7<|ogW a0B c0b ?_
 simp only[a0B,V0,Try.f48,zz,Nat.reduceAdd]
 iterate 2 refine oT ?_
 refine S0<|ogGn c05<|ogW z9 c03 ?_
 simp only[z9,V0,Try.f48,zz,Nat.reduceAdd]
 iterate 2 refine oT ?_
 refine S0<|ogGn f0h<|ogW a0U f0g ?_
 simp only[a0U,V0,Try.f48,zz,Nat.reduceAdd]
 iterate 2 refine oT ?_
 refine S0<|ogGn h04<|ogW c04 h0Z ?_
 simp only[c04,V0,Try.f48,zz,Nat.reduceAdd]
 iterate 2 refine oT ?_
 refine S0<|ogGn k0Q<|ogW h00 q0M ?_
 simp only[h00,V0,Try.f48,zz,Nat.reduceAdd]
 iterate 2 refine oT ?_
 refine S0<|ogGn .skip<|ogK<|ogI<|ogW p8 .ret ?_
 simp only[p8,V0,Try.f48,zz,Nat.reduceAdd]
 (refine oW fun dd K hK=>?_;go_simp;refine hK _ _ ⟨⟨⟨0,V3.refl _ _⟩,fun e he=>by(have hm:=mem_listed he;clear he hK;simp[go_sem]at hm;rcases hm with rfl|rfl|rfl<;>exact I1 _ _)⟩,J0.at ?_ dd⟩;clear hK K)
 (refine oW fun dd K hK=>?_;go_simp;refine hK _ _ ⟨⟨⟨0,K6 hnh2 _ _ _⟩,fun e he=>by(have hm:=mem_listed he;clear he hK;simp[go_sem,storedEv,d0,d1,d2,y0,y1,y2]at hm;rcases hm with rfl|rfl|rfl<;>exact U0 _ _ (hnh2 _))⟩,?_⟩;clear hK K;simp only[setCell_at'];refine J0.at ?_ dd)
 refine S0<|ogX ?_
 refine p4 (fn:=Try.f48) (v:=.agg #[.bool false,vI 0,.slice none 0 0]) rfl rfl Try.func48 (fun d=>by simp[results,Try.f48,go_sem,d0,d1,d2,y0,y1,y2]) (fun d e he=>by(simp[results,Try.f48,go_sem,d0,d1,d2,y0,y1,y2]at he;rcases he with rfl|rfl|rfl<;>exact I1 _ _)) ?_
 exact h _ (by simp) (fun r h1 h2=>by simp[G4 h2,D0 _ _ h1])
end
section
variable{F:Fz}{w w':World}
theorem K1{b:Nat}(h:F b=none)(k:Nat):¬held F ⟨b,k,none⟩:=by
 rintro⟨z,hz,_⟩
 rw[h]at hz
 cases hz
theorem I5{f:FuncId}(h:∃fn,Try.prog.funcs[f]? =some fn)(A:Array Value)(k:List Item):f0V ((Go.Conc.base f).at ⟨A,[]⟩ k):=⟨rfl,rfl,h⟩
theorem d0L(w:World)(a b:Obj):((w.alloc a).alloc b).heap.size=w.heap.size+2:=by simp
theorem B0y(w:World)(a b:Obj){r:Nat}(h:r<w.heap.size):((w.alloc a).alloc b).heap[r]? =w.heap[r]?:=by
 rw[D0 _ _ (by simp;omega),D0 _ _ h]
theorem B0t(w:World)(a:Obj)(c:Array Value)(t:TypeId):((w.alloc a).alloc (.cells c t)).heap[w.heap.size+1]? =some (.cells c t (0,0)):=by
 have:=heap_alloc_new (w.alloc a) (.cells c t)
 simpa using this
end
noncomputable section
variable{F:Fz}{w w':World}{lb st:Nat}
structure SS where
 k:R1
 wb:Nat
 wo:Nat
abbrev SS.n(s:SS):Nat:=s.k.ws.length
structure SU(lb:Nat)(s:SS)(w:World):Prop where
 wf:SWf s.k
 h:SH lb s.wb s.wo s.n w
 v:At w ⟨lb,0,none⟩ (vI s.k.ver)
 ws:∀i,i<s.n→At w ⟨s.wb,s.wo+i,none⟩ (vI (s.k.ws.getD i 0))
 dis:s.wb=lb→s.wo=1∧s.n=1
def SR(lb:Nat)(s:SS)(r:Nat):Prop:=r=lb∨r=s.wb
theorem I9{w:World}{b k:Nat}{v:Value}(h:w.cell? ⟨b,k,none⟩=some v):b<w.heap.size:=by
 obtain⟨c,e,z,h1⟩:=M3 h
 exact(Q3 h1)
theorem l0f{b k:Nat}{v:Value}(h:At w ⟨b,k,none⟩ v)(hs:w'.heap[b]? =w.heap[b]?):At w' ⟨b,k,none⟩ v:=by
 obtain⟨e1,e2⟩:=F1 (j:=k) hs
 exact⟨e1.trans h.c,e2.trans h.z⟩
theorem SH.same{wb wo n:Nat}(h:SH lb wb wo n w)(hs:w'.heap[lb]? =w.heap[lb]?):SH lb wb wo n w':=by
 have e:=(F1 (j:=2) hs).1
 exact⟨h.c2.imp (fun h=>e.trans h) fun h=>⟨e.trans h.1,h.2⟩,h.n1,h.n2⟩
theorem SH.set{wb wo n b k:Nat}{v:Value}(h:SH lb wb wo n w)(hne:b=lb→k≠2):SH lb wb wo n (w.setCell ⟨b,k,none⟩ v):=by
 have e:(w.setCell ⟨b,k,none⟩ v).cell? ⟨lb,2,none⟩=w.cell? ⟨lb,2,none⟩:=World.cell?_setCell_other _ _ _ _ (fun e=>by injection e with e1 e2;exact hne e1 e2)
 exact⟨h.c2.imp (fun h=>e.trans h) fun h=>⟨e.trans h.1,h.2⟩,h.n1,h.n2⟩
theorem At.set_ne{a b:Addr}{v u:Value}(h:At w a v)(hne:b≠a):At (w.setCell b u) a v:=⟨(World.cell?_setCell_other _ _ _ _ hne).trans h.c,(World.frozen?_setCell _ _ _ _).trans h.z⟩
theorem At.set_eq{a:Addr}{v u:Value}(h:At w a v):At (w.setCell a u) a u:=⟨World.cell?_setCell_same _ _ _ h.c,(World.frozen?_setCell _ _ _ _).trans h.z⟩
section
variable{s:SS}
theorem SU.low(h:SU lb s w){r:Nat}(hr:SR lb s r):r<w.heap.size:=by
 rcases hr with rfl|rfl
 ·exact I9 h.v.c
 ·exact I9 (h.ws 0 h.wf.n1).c
theorem SU.same(h:SU lb s w)(hs:∀r,SR lb s r→w'.heap[r]? =w.heap[r]?):SU lb s w':=
 ⟨h.wf,h.h.same (hs _ (.inl rfl)),l0f h.v (hs _ (.inl rfl)),fun i hi=>l0f (h.ws i hi) (hs _ (.inr rfl)),h.dis⟩
theorem SU.setV(h:SU lb s w)(v:Int):SU lb {s with k:={s.k with ver:=v}} (w.setCell ⟨lb,0,none⟩ (vI v)):=by
 refine⟨⟨h.wf.n1,h.wf.n2⟩,h.h.set (fun _=>by omega),h.v.set_eq,fun i hi=>(h.ws i hi).set_ne ?_,h.dis⟩
 intro e
 injection e with e1 e2
 have:=(h.dis e1.symm).1
 omega
theorem SU.setW(h:SU lb s w){i:Nat}(hi:i<s.n)(v:Int):SU lb {s with k:={s.k with ws:=s.k.ws.set i v}} (w.setCell ⟨s.wb,s.wo+i,none⟩ (vI v)):=by
 have hd:=h.dis
 have hn:(s.k.ws.set i v).length=s.k.ws.length:=List.length_set
 have hh:SH lb s.wb s.wo s.n (w.setCell ⟨s.wb,s.wo+i,none⟩ (vI v)):=h.h.set (fun e=>by have:=hd e;omega)
 refine⟨⟨by simpa using h.wf.n1,by simpa using h.wf.n2⟩,?_,h.v.set_ne ?_,fun j hj=>?_,fun e=>?_⟩
 ·show SH lb s.wb s.wo (s.k.ws.set i v).length _
  rw[hn]
  exact hh
 ·intro e
  injection e with e1 e2
  have:=hd e1
  omega
 ·have hj:j<s.n:=by simpa [SS.n]using hj
  show At _ ⟨s.wb,s.wo+j,none⟩ (vI ((s.k.ws.set i v).getD j 0))
  by_cases e:i=j
  ·subst e
   have:(s.k.ws.set i v).getD i 0=v:=by simp[List.getD_eq_getElem?_getD,List.getElem?_set,show i<s.k.ws.length from hi]
   rw[this]
   exact(h.ws i hj).set_eq
  ·have:(s.k.ws.set i v).getD j 0=s.k.ws.getD j 0:=by simp[List.getD_eq_getElem?_getD,List.getElem?_set,e]
   rw[this]
   exact(h.ws j hj).set_ne (fun e2=>by injection e2 with _ e3;omega)
 ·show s.wo=1∧(s.k.ws.set i v).length=1
  rw[hn]
  exact hd e
end
def A0U(A:Array Value):Frame:=(bA 89 A [.inRegion (oC d0E) [1],.code g0p])
def A0V(A:Array Value):Frame:=(bA 89 A [.inRegion (oC d0F) [1],.code j0o])
def n0v(A:Array Value):Frame:=(bA 56 A [.inRegion (oC Y8) [2,3,4,5,6,7],.code Z8,.inBlock 1,.code X3,.inLoop Y5,.inBlock 0,.code P4])
def n0w(A:Array Value):Frame:=(bA 56 A [.inRegion (oC S3) [1],.code J4,.inBlock 3,.code K4,.inLoop Z6,.inBlock 2,.code Q6,.inBlock 1,.code X3,.inLoop Y5,.inBlock 0,.code P4])
def s0o(A:Array Value):Frame:=(bA 56 A [.inRegion (oC a0r) [1],.code c0i,.inBlock 1,.code X3,.inLoop Y5,.inBlock 0,.code P4])
def fWW(A:Array Value):Frame:=(bA 24 A [.inRegion (oC g0n) [4,5],.code .ret])
def fAA(A:Array Value):Frame:=(bA 25 A [.inRegion (oC g0m) [4,5],.code .ret])
def fRw(A:Array Value):Frame:=(bA 28 A [.inRegion (oC a02) [1],.code a03,.inBlock 1,.code a04,.inLoop f0o,.inBlock 0,.code c08])
def E0u(A:Array Value):Frame:=(bA 26 A [.inRegion (oC A8) [1],.code V8,.inBlock 1,.code S4,.inLoop a8,.inBlock 0,.code P6])
def E0v(A:Array Value):Frame:=(bA 26 A [.inRegion (oC g0B) [2,3],.code f0m,.inBlock 1,.code S4,.inLoop a8,.inBlock 0,.code P6])
def E0w(A:Array Value):Frame:=(bA 26 A [.inRegion (oC b0K) [1],.code c0f,.inBlock 1,.code S4,.inLoop a8,.inBlock 0,.code P6])
def fNw(A:Array Value):Frame:=(bA 27 A [.inRegion (oC g0x) [1],.code j0x])
def o02(A:Array Value):Frame:=(bA 48 A [.inRegion (oC a0S) [5,6,7],.inBlock 2,.code K5])
def o03(A:Array Value):Frame:=(bA 48 A [.inRegion (oC a0T) [5,6,7],.inBlock 2,.code K5])
def x0k(A:Array Value):Frame:=(bA 48 A [.inRegion (oC a0V) [4,5,6,7,8,9,10,11],.inBlock 2,.code K5])
def E0s(A:Array Value):Frame:=(bA 48 A [.inRegion (oC a0W) [2,3,4,5,6],.inBlock 2,.code K5])
def E0t(A:Array Value):Frame:=(bA 48 A [.inRegion (oC a0X) [4,5,6,7,8,9,10,11],.inBlock 2,.code K5])
structure u8 where
 c:J8
 A:Array Value
 A1:Array Value
 A2:Array Value
 A3:Array Value
 ab:Nat
 rb:Nat
 vv:Value
 ov:Value
abbrev J8.pc(c:J8):Nat:=c.kd*10+c.ph
def u8.fr(c:u8):List Frame:=match c.c.pc with
 | 10=>[A0U c.A,n0v c.A1,fWW c.A2,o02 c.A3]
 | 11=>[A0V c.A,n0v c.A1,fWW c.A2,o02 c.A3]
 | 12=>[n0w c.A1,fWW c.A2,o02 c.A3]
 | 13=>[s0o c.A1,fWW c.A2,o02 c.A3]
 | 20=>[A0U c.A,n0v c.A1,fAA c.A2,o03 c.A3]
 | 21=>[A0V c.A,n0v c.A1,fAA c.A2,o03 c.A3]
 | 22=>[n0w c.A1,fAA c.A2,o03 c.A3]
 | 23=>[s0o c.A1,fAA c.A2,o03 c.A3]
 | 30=>[E0u c.A1,x0k c.A3]
 | 31=>[fRw c.A,E0v c.A1,x0k c.A3]
 | 32=>[E0w c.A1,x0k c.A3]
 | 41=>[fRw c.A,E0s c.A3]
 | _=>[fNw c.A1,E0t c.A3]
def a01(lb:Nat):Value:=vP lb 0
def B0z(kd:Nat):Value:=.func (.func (56+kd)) #[] #[]
def o0i(lb st:Nat)(c:u8):List (Nat×Value):=[(0,a01 lb),(1,Z0 st),(3,c.vv),(4,B0z c.c.kd),(19,vI (c.c.T:Nat)),(20,vI (c.c.r:Nat))]
def u0e(lb st wb wo n:Nat)(c:u8):List (Nat×Value):=[(0,a01 lb),(1,Z0 st),(3,c.vv),(4,B0z c.c.kd),(11,vI c.c.v),(13,vL wb wo n n),(14,vI (c.c.i:Nat)),(15,vI (c.c.vs.getD c.c.i 0)),(33,vI (n:Nat)),(34,vI (c.c.i:Nat))]
def D0J(lb st:Nat)(c:u8):List (Nat×Value):=[(0,a01 lb),(1,Z0 st),(11,vI c.c.v)]
def z0Y(lb st:Nat):List (Nat×Value):=[(0,a01 lb),(1,Z0 st)]
def z0Z(lb st:Nat)(c:u8):List (Nat×Value):=[(0,a01 lb),(1,Z0 st),(6,vI c.c.v)]
def E0V(lb st:Nat)(c:u8):List (Nat×Value):=[(0,a01 lb),(1,Z0 st),(13,vI (c.c.T:Nat)),(14,vI (c.c.r:Nat))]
def E0W(lb st:Nat)(c:u8):List (Nat×Value):=[(0,a01 lb),(1,Z0 st),(8,vI c.c.v),(13,vI (c.c.T:Nat)),(14,vI (c.c.r:Nat))]
def E0X(lb st:Nat)(c:u8):List (Nat×Value):=[(0,a01 lb),(1,Z0 st),(8,vI c.c.v),(9,c.ov),(13,vI (c.c.T:Nat)),(14,vI (c.c.r:Nat))]
def C0H(lb st wb wo n:Nat)(c:u8):List (Nat×Value):=[(0,a01 lb),(1,Z0 st),(5,c.ov),(6,vL wb wo n n),(7,vI (c.c.i:Nat)),(11,vI (n:Nat)),(12,vI (c.c.i:Nat))]
def E0N(lb st:Nat)(c:u8):List (Nat×Value):=[(0,a01 lb),(1,Z0 st),(2,vI c.c.a)]
def SSl(lb st wb wo n:Nat)(c:u8):Prop:=match c.c.pc with
 | 10=>G0 26 c.A (z0Y lb st)∧G0 63 c.A1 (o0i lb st c)∧c.A2.size=14
 | 20=>G0 26 c.A (z0Y lb st)∧G0 63 c.A1 (o0i lb st c)∧c.A2.size=14
 | 11=>G0 26 c.A (z0Z lb st c)∧G0 63 c.A1 (o0i lb st c)∧c.A2.size=14
 | 21=>G0 26 c.A (z0Z lb st c)∧G0 63 c.A1 (o0i lb st c)∧c.A2.size=14
 | 12=>G0 63 c.A1 (u0e lb st wb wo n c)∧c.A2.size=14
 | 22=>G0 63 c.A1 (u0e lb st wb wo n c)∧c.A2.size=14
 | 13=>G0 63 c.A1 (D0J lb st c)∧c.A2.size=14
 | 23=>G0 63 c.A1 (D0J lb st c)∧c.A2.size=14
 | 30=>G0 38 c.A1 (E0V lb st c)
 | 31=>G0 26 c.A (C0H lb st wb wo n c)∧G0 38 c.A1 (E0W lb st c)
 | 32=>G0 38 c.A1 (E0X lb st c)
 | 41=>G0 26 c.A (C0H lb st wb wo n c)
 | 50=>G0 21 c.A1 (E0N lb st c)
 | _=>False
structure SeV(n:Nat)(c:J8):Prop where
 pc:(c.kd,c.ph)∈[(1,0),(1,1),(1,2),(1,3),(2,0),(2,1),(2,2),(2,3),(3,0),(3,1),(3,2),(4,1),(5,0)]
 T:c.T≤1024
 r:c.r<c.T
 i:c.i<n
 vs:c.kd≤2→c.vs.length=n∧c.out=[]
 out:(c.kd,c.ph)∈[(3,1),(4,1)]→c.out.length=c.i
 out2:(c.kd,c.ph)=(3,2)→c.out.length≤n
 nv:3≤c.kd→c.vs=[]
structure SJ(lb st wb wo n:Nat)(c:u8):Prop where
 v:SeV n c.c
 s:SSl lb st wb wo n c
 a:G0 80 c.A3 [(8,vP c.rb 0),(11,vP c.ab 0)]
 nvv:3≤c.c.kd→c.vv= .slice none 0 0
structure b9(c:u8)(w:World):Prop where
 a:f0A w c.ab
 r:Ans w c.rb
 ne:c.ab≠c.rb
 vv:w.ownsRow 0 2 1 c.vv c.c.vs.length (c.c.vs.map fun v=>vI v)
 ov:w.ownsRow 0 2 1 c.ov c.c.out.length (c.c.out.map fun v=>vI v)
 vn:c.vv.ownBlock≠some c.ab∧c.vv.ownBlock≠some c.rb
 on:c.ov.ownBlock≠some c.ab∧c.ov.ownBlock≠some c.rb
def L6(c:u8)(r:Nat):Prop:=r=c.ab∨r=c.rb∨c.vv.ownBlock=some r∨c.ov.ownBlock=some r
structure SA where
 an:g8
 la:Option Addr
 ll:Nat
 lc:Nat
def SA.row(a:SA):Value:=.slice a.la a.ll a.lc
def SA.v(a:SA):j0K:=⟨a.an.1,a.an.2.1,a.la,a.ll,a.lc⟩
def SAU(a:SA)(w:World):Prop:=w.ownsRow 0 2 1 a.row a.an.2.2.length (a.an.2.2.map fun v=>vI v)
def w0B(y:u8 ⊕ SA):SRs:=match y with
 | .inl c=>.inl c.c
 | .inr a=>.inr a.an
def I3(lb:Nat):l8 where
 S:=SS
 C:=u8
 A:=SA
 SU:=SU lb
 SR:=SR lb
 CU:=b9
 CR:=L6
 AV:=SA.v
 AU:=SAU
 AR:=fun a r=>a.row.ownBlock=some r
 cf:=fun st c=>j0E w6 ⟨st,0,none⟩::c.fr
 df:=48
 first:= #[vP lb 0]
 capt:= #[]
 beg:=fun s _ o y=>y.1.wb=s.wb∧y.1.wo=s.wo∧(y.1.k,w0B y.2)=s.k.begin o
 stp:=fun s c y=>y.1.wb=s.wb∧y.1.wo=s.wo∧(y.1.k,w0B y.2)=s.k.step c.c
 J:=fun st s c=>SJ lb st s.wb s.wo s.n c
theorem F3{n:Nat}{v:Value}{xs:List Value}(h:w.ownsRow 0 2 1 v n xs):∃la ll lc,v= .slice la ll lc:=by
 rcases h.2 with⟨rfl,_⟩|⟨b,cap,cur,rfl,_⟩
 ·exact⟨_,_,_,rfl⟩
 ·exact⟨_,_,_,rfl⟩
theorem b0m{n:Nat}{v:Value}{xs:List Value}(h:w.ownsRow 0 2 1 v n xs){r:Nat}(hr:v.ownBlock=some r):r<w.heap.size:=by
 rcases h.2 with⟨rfl,_⟩|⟨b,cap,cur,rfl,_,h4,_⟩
 ·simp[Value.ownBlock]at hr
 ·simp only[Value.ownBlock,Option.some.injEq]at hr
  subst hr
  exact(Q3 h4)
theorem b9.low{c:u8}(h:b9 c w){r:Nat}(hr:L6 c r):r<w.heap.size:=by
 rcases hr with rfl|rfl|hr|hr
 ·exact(Array.getElem?_eq_some_iff.1 h.a.o).1
 ·obtain⟨_,_,_,h1⟩:=h.r.o
  exact(Q3 h1)
 ·exact b0m h.vv hr
 ·exact b0m h.ov hr
theorem b9.same{c:u8}(h:b9 c w)(hs:∀r,L6 c r→w'.heap[r]? =w.heap[r]?):b9 c w':=by
 refine⟨⟨(hs _ (.inl rfl)).trans h.a.o⟩,E9 h.r (hs _ (.inr (.inl rfl))),h.ne,K0 h.vv fun b hb _=>hs b (.inr (.inr (.inl hb))),K0 h.ov fun b hb _=>hs b (.inr (.inr (.inr hb))),h.vn,h.on⟩
section
variable{s:SS}{c c':u8}{k':R1}{cs:List Frame}
theorem O6{fs:List Frame}(hf:fs=(I3 lb).cf st c'++cs)(hU:SU lb ⟨k',s.wb,s.wo⟩ w')(hr:(k',.inl c'.c)=s.k.step c.c)(hJ:SJ lb st s.wb s.wo k'.ws.length c')(hcu:b9 c' w')(hcr:∀q,L6 c' q→L6 c q∨w.heap.size≤q)(hs:SU lb s w)(hdis:∀q,L6 c q→¬SR lb s q)(d:Nat):
 (I3 lb).Out st s (L6 c) ((I3 lb).stp s c) w cs (G (Frame.enter Try.prog 133 #[vP st 0] .normal) fs) (w'.at d):=by
 subst hf
 refine⟨⟨k',s.wb,s.wo⟩,.inl c',⟨rfl,rfl,hr⟩,hU.same fun _ _=>rfl,fun q h=>.inl h,hJ,hcu.same fun _ _=>rfl,hcr,fun q h h2=>?_,rfl⟩
 rcases hcr q h with h3|h3
 ·exact hdis q h3 h2
 ·exact absurd (hs.low (r:=q) h2) (by omega)
theorem c0H{a:SA}(hU:SU lb ⟨k',s.wb,s.wo⟩ w')(hr:(k',.inr a.an)=s.k.step c.c)(hau:SAU a w')(har:∀q,a.row.ownBlock=some q→L6 c q∨w.heap.size≤q)(hs:SU lb s w)(hdis:∀q,L6 c q→¬SR lb s q)(d:Nat):
 (I3 lb).Out st s (L6 c) ((I3 lb).stp s c) w cs (back (.agg #[.bool a.an.1,vI a.an.2.1,.slice a.la a.ll a.lc]) cs) (w'.at d):=by
 refine⟨⟨k',s.wb,s.wo⟩,.inr a,⟨rfl,rfl,hr⟩,hU.same fun _ _=>rfl,fun q h=>.inl h,?_,har,fun q h h2=>?_,rfl⟩
 ·exact K0 (W':=w'.at d) hau fun _ _ _=>rfl
 ·rcases har q h with h3|h3
  ·exact hdis q h3 h2
  ·exact absurd (hs.low (r:=q) h2) (by omega)
theorem j0l{o:P3}{i:Nat}{fs:List Frame}(hf:fs=(I3 lb).cf st c'++cs)(hs:SU lb s w)(hU:∀r,r<w.heap.size→w'.heap[r]? =w.heap[r]?)(hr:(s.k,.inl c'.c)=s.k.begin o)(hJ:SJ lb st s.wb s.wo s.n c')(hcu:b9 c' w')(hcr:∀q,L6 c' q→w.heap.size≤q)(d:Nat):
 (I3 lb).Out st s (fun _=>False) ((I3 lb).beg s i o) w cs (G (Frame.enter Try.prog 133 #[vP st 0] .normal) fs) (w'.at d):=by
 subst hf
 refine⟨s,.inl c',⟨rfl,rfl,hr⟩,hs.same fun r h=>hU r (hs.low h),fun q h=>.inl h,hJ,hcu.same fun _ _=>rfl,fun q h=>.inr (hcr q h),fun q h h2=>?_,rfl⟩
 exact absurd (hs.low (r:=q) h2) (by have:=hcr q h;omega)
end
end
section
variable{F:Fz}{w w':World}{lb st:Nat}
structure SB(F:Fz)(w u:World)(ov:Value)(n:Nat)(kd a b0 c0:Int):Prop where
 row:u.ownsRow 0 2 1 ov n ((V2 n b0 c0).map fun v=>vI v)
 wf:Wf F u
 sz:w.heap.size+2≤u.heap.size
 old:∀r,r<w.heap.size→u.heap[r]? =w.heap[r]?
 ob:u.heap[w.heap.size]? =some (.cells #[vI kd,vI a,vI b0,vI c0] 47 (0,0))
 rb:u.heap[w.heap.size+1]? =some (.cells #[.bool false,vI 0,.slice none 0 0] 44 (0,0))
 blk:∀g,ov.ownBlock=some g→w.heap.size+2≤g
def dS0(lb:Nat)(sv:Value)(ob rb n:Nat)(ov:Value):List (Nat×Value):=[(0,vP lb 0),(1,sv),(7,vP ob 0),(8,vP rb 0),(9,ov),(13,vI (n:Nat)),(14,vI (n:Nat))]
section
variable{s:SS}{kd a b0 c0:Int}{j:Nat}{sv:Value}
theorem f04(hs:SU lb s w)(hwf:Wf F w){cs:List Frame}{main:Bool}{Stop:Goroutine→World→Prop}
 (h:∀ov u A,SB F w u ov s.n kd a b0 c0→G0 80 A (dS0 lb sv w.heap.size (w.heap.size+1) s.n ov)→J0 Try.prog main F Stop (G (bA 48 A [.code X5,.inLoop X5,.inBlock 0,.code m9]) cs) u):
 J0 Try.prog main F Stop (G (Frame.enter Try.prog 48 #[vP lb 0,sv,vI j,.agg #[vI kd,vI a,vI b0,vI c0]] .normal) cs) w:=by
 have hU:=o6 hwf
 refine E0n (b:=b0) hU (Nat.le_refl _) hs.h fun A hA=>?_
 have sz2:((w.alloc (.cells #[vI kd,vI a,vI b0,vI c0] 47)).alloc (.cells #[.bool false,vI 0,.slice none 0 0] 44)).heap.size=w.heap.size+2:=d0L _ _ _
 have e0:((w.alloc (.cells #[vI kd,vI a,vI b0,vI c0] 47)).alloc (.cells #[.bool false,vI 0,.slice none 0 0] 44)).heap[w.heap.size]? =some (.cells #[vI kd,vI a,vI b0,vI c0] 47 (0,0)):=by
  rw[D0 _ _ (by simp)]
  exact heap_alloc_new _ _
 refine E0p (kd:=kd) (a:=a) (b:=b0) (c0:=c0) (m0:=w.heap.size+2) (w0:=(w.alloc (.cells #[vI kd,vI a,vI b0,vI c0] 47)).alloc (.cells #[.bool false,vI 0,.slice none 0 0] 44)) hs.wf.n2 hU (by omega) (by omega) e0 (fun ov u A hrow hwu hsz hold hg hA=>?_) s.n 0 _ _ _ (Nat.zero_add _) (World.ownsRow_nil _ _ _ _) ?_ (by rw[sz2];exact Nat.le_refl _) (fun _ _=>rfl) (fun g hg=>by simp[Value.ownBlock]at hg) hA
 ·exact h ov u A ⟨hrow,hwu,hsz,fun r hr=>(hold r (by omega)).trans (B0y _ _ _ hr),(hold _ (by omega)).trans e0,(hold _ (by omega)).trans (B0t _ _ _ _),hg⟩ hA
 ·exact(hwf.of_grew (P0 hU (Nat.le_refl _) _)).of_grew (P0 hU (by simp) _)
variable{u:World}{n:Nat}{ov:Value}
theorem SB.low(h:SB F w u ov n kd a b0 c0){g:Nat}(hg:ov.ownBlock=some g):g<u.heap.size:=b0m h.row hg
theorem SB.cuV(h:SB F w u ov n kd a b0 c0){c:J8}(hv:c.vs=V2 n b0 c0)(ho:c.out=[]){A A1 A2 A3:Array Value}:b9 ⟨c,A,A1,A2,A3,u.heap.size,w.heap.size+1,ov,.slice none 0 0⟩ (u.alloc (.cells #[.bool false,vI 0,.slice none 0 0] 44)):=by
 have h1:=h.sz
 refine⟨⟨heap_alloc_new _ _⟩,⟨_,_,_,c0V h.rb _⟩,by simp only;omega,?_,?_,⟨fun e=>?_,fun e=>?_⟩,⟨by simp[Value.ownBlock],by simp[Value.ownBlock]⟩⟩
 ·show(u.alloc _).ownsRow 0 2 1 ov c.vs.length (c.vs.map fun v=>vI v)
  rw[hv,G5]
  exact h.row.alloc _
 ·show(u.alloc _).ownsRow 0 2 1 _ c.out.length (c.out.map fun v=>vI v)
  rw[ho]
  exact World.ownsRow_nil _ _ _ _
 ·exact absurd (h.low e) (by simp)
 ·have:=h.blk _ e
  simp only at this
  omega
theorem SB.cu0(h:SB F w u ov n kd a b0 c0){c:J8}(hv:c.vs=[])(ho:c.out=[]){A A1 A2 A3:Array Value}:b9 ⟨c,A,A1,A2,A3,u.heap.size,w.heap.size+1,.slice none 0 0,.slice none 0 0⟩ (u.alloc (.cells #[.bool false,vI 0,.slice none 0 0] 44)):=by
 have h1:=h.sz
 refine⟨⟨heap_alloc_new _ _⟩,⟨_,_,_,c0V h.rb _⟩,by simp only;omega,?_,?_,⟨by simp[Value.ownBlock],by simp[Value.ownBlock]⟩,⟨by simp[Value.ownBlock],by simp[Value.ownBlock]⟩⟩
 ·show(u.alloc _).ownsRow 0 2 1 _ c.vs.length (c.vs.map fun v=>vI v)
  rw[hv]
  exact World.ownsRow_nil _ _ _ _
 ·show(u.alloc _).ownsRow 0 2 1 _ c.out.length (c.out.map fun v=>vI v)
  rw[ho]
  exact World.ownsRow_nil _ _ _ _
theorem SB.old'(h:SB F w u ov n kd a b0 c0)(o:Obj):∀r,r<w.heap.size→(u.alloc o).heap[r]? =w.heap[r]?:=fun r hr=>by
 have:=h.sz
 rw[D0 _ _ (by omega),h.old r hr]
end
section
variable{s:SS}{a b0 c0:Int}{i:Nat}
theorem y07(hs:SU lb s w)(hwf:Wf F w)(b:Frame)(cs:List Frame):
 J0 Try.prog false F ((I3 lb).Out st s (fun _=>False) ((I3 lb).beg s i ⟨1,a,b0,c0⟩) w (b::cs)) (G (Frame.enter Try.prog 48 #[vP lb 0,Z0 st,vI i,.agg #[vI 1,vI a,vI b0,vI c0]] .normal) (b::cs)) w:=by
 have hn:=hs.wf.n1
 obtain⟨t1,t2⟩:=A5 a
 refine f04 (sv:=Z0 st) hs hwf fun ov u A3 hB hA3=>?_
 have hsz:=hB.sz
 obtain⟨la,ll,lc,rfl⟩:=F3 hB.row
 refine A0K (sv:=Z0 st) (o6 hwf) (by omega) hB.ob hA3 fun A3 hA3=>?_
 refine w0u fun A2 hA2=>?_
 refine u0f fun A1 hA1=>?_
 refine m01 fun A hA=>?_
 refine J2 (K:=w6) (.stop fun d=>?_)
 refine j0l (st:=st) (c':=⟨⟨1,0,0,N2 a,0,0,[],V2 s.n b0 c0,0⟩,A,A1,A2,A3,u.heap.size,w.heap.size+1,.slice la ll lc,.slice none 0 0⟩) (by rfl) hs (hB.old' _) (by simp[R1.begin]) ⟨⟨by simp,t2,t1,hn,fun _=>⟨G5 _ _ _,rfl⟩,fun h=>by simp at h,fun h=>by simp at h,fun h=>by simp at h⟩,(by exact⟨hA,hA1,hA2⟩),hA3,fun h=>by simp at h⟩ (hB.cuV rfl rfl) (fun q hq=>?_) d
 rcases hq with rfl|rfl|hq|hq
 ·simp only;omega
 ·simp only;omega
 ·have:=hB.blk q hq;omega
 ·simp[Value.ownBlock]at hq
theorem y08(hs:SU lb s w)(hwf:Wf F w)(b:Frame)(cs:List Frame):
 J0 Try.prog false F ((I3 lb).Out st s (fun _=>False) ((I3 lb).beg s i ⟨2,a,b0,c0⟩) w (b::cs)) (G (Frame.enter Try.prog 48 #[vP lb 0,Z0 st,vI i,.agg #[vI 2,vI a,vI b0,vI c0]] .normal) (b::cs)) w:=by
 have hn:=hs.wf.n1
 obtain⟨t1,t2⟩:=A5 a
 refine f04 (sv:=Z0 st) hs hwf fun ov u A3 hB hA3=>?_
 have hsz:=hB.sz
 obtain⟨la,ll,lc,rfl⟩:=F3 hB.row
 refine A0L (sv:=Z0 st) (o6 hwf) (by omega) hB.ob hA3 fun A3 hA3=>?_
 refine w0v fun A2 hA2=>?_
 refine u0f fun A1 hA1=>?_
 refine m01 fun A hA=>?_
 refine J2 (K:=w6) (.stop fun d=>?_)
 refine j0l (st:=st) (c':=⟨⟨2,0,0,N2 a,0,0,[],V2 s.n b0 c0,0⟩,A,A1,A2,A3,u.heap.size,w.heap.size+1,.slice la ll lc,.slice none 0 0⟩) (by rfl) hs (hB.old' _) (by simp[R1.begin]) ⟨⟨by simp,t2,t1,hn,fun _=>⟨G5 _ _ _,rfl⟩,fun h=>by simp at h,fun h=>by simp at h,fun h=>by simp at h⟩,(by exact⟨hA,hA1,hA2⟩),hA3,fun h=>by simp at h⟩ (hB.cuV rfl rfl) (fun q hq=>?_) d
 rcases hq with rfl|rfl|hq|hq
 ·simp only;omega
 ·simp only;omega
 ·have:=hB.blk q hq;omega
 ·simp[Value.ownBlock]at hq
theorem y09(hs:SU lb s w)(hwf:Wf F w)(b:Frame)(cs:List Frame):
 J0 Try.prog false F ((I3 lb).Out st s (fun _=>False) ((I3 lb).beg s i ⟨3,a,b0,c0⟩) w (b::cs)) (G (Frame.enter Try.prog 48 #[vP lb 0,Z0 st,vI i,.agg #[vI 3,vI a,vI b0,vI c0]] .normal) (b::cs)) w:=by
 have hn:=hs.wf.n1
 obtain⟨t1,t2⟩:=A5 a
 refine f04 (sv:=Z0 st) hs hwf fun ov u A3 hB hA3=>?_
 have hsz:=hB.sz
 refine A0M (sv:=Z0 st) (o6 hwf) (by omega) hB.ob hA3 fun A3 hA3=>?_
 refine C0u fun A1 hA1=>?_
 refine J2 (K:=w6) (.stop fun d=>?_)
 refine j0l (st:=st) (c':=⟨⟨3,0,0,N2 a,0,0,[],[],0⟩,A1,A1,A1,A3,u.heap.size,w.heap.size+1,.slice none 0 0,.slice none 0 0⟩) (by rfl) hs (hB.old' _) (by simp[R1.begin]) ⟨⟨by simp,t2,t1,hn,fun h=>absurd h (by simp),fun h=>by simp at h ⊢,fun h=>by simp at h,fun _=>rfl⟩,(by exact hA1),hA3,fun _=>rfl⟩ (hB.cu0 rfl rfl) (fun q hq=>?_) d
 rcases hq with rfl|rfl|hq|hq
 ·simp only;omega
 ·simp only;omega
 ·simp[Value.ownBlock]at hq
 ·simp[Value.ownBlock]at hq
theorem z0a(hs:SU lb s w)(hwf:Wf F w)(b:Frame)(cs:List Frame):
 J0 Try.prog false F ((I3 lb).Out st s (fun _=>False) ((I3 lb).beg s i ⟨4,a,b0,c0⟩) w (b::cs)) (G (Frame.enter Try.prog 48 #[vP lb 0,Z0 st,vI i,.agg #[vI 4,vI a,vI b0,vI c0]] .normal) (b::cs)) w:=by
 have hn:=hs.wf.n1
 obtain⟨t1,t2⟩:=A5 a
 refine f04 (sv:=Z0 st) hs hwf fun ov u A3 hB hA3=>?_
 have hsz:=hB.sz
 refine A0N (sv:=Z0 st) (o6 hwf) (by omega) hB.ob hA3 fun A3 hA3=>?_
 have hh:SH lb s.wb s.wo s.n (u.alloc (.cells #[.bool false,vI 0,.slice none 0 0] 44)):=hs.h.same (hB.old' _ _ (hs.low (.inl rfl)))
 refine y01 hh fun A hA=>?_
 refine J2 (K:=w6) (.stop fun d=>?_)
 refine j0l (st:=st) (c':=⟨⟨4,1,0,1,0,0,[],[],0⟩,A,A,A,A3,u.heap.size,w.heap.size+1,.slice none 0 0,.slice none 0 0⟩) (by rfl) hs (hB.old' _) (by simp[R1.begin]) ⟨⟨by simp,(by decide:(1:Nat)≤1024),(by decide:(0:Nat)<1),hn,fun h=>absurd h (by simp),fun h=>by simp at h ⊢,fun h=>by simp at h,fun _=>rfl⟩,(by exact hA),hA3,fun _=>rfl⟩ (hB.cu0 rfl rfl) (fun q hq=>?_) d
 rcases hq with rfl|rfl|hq|hq
 ·simp only;omega
 ·simp only;omega
 ·simp[Value.ownBlock]at hq
 ·simp[Value.ownBlock]at hq
theorem z0b(hs:SU lb s w)(hwf:Wf F w)(b:Frame)(cs:List Frame):
 J0 Try.prog false F ((I3 lb).Out st s (fun _=>False) ((I3 lb).beg s i ⟨5,a,b0,c0⟩) w (b::cs)) (G (Frame.enter Try.prog 48 #[vP lb 0,Z0 st,vI i,.agg #[vI 5,vI a,vI b0,vI c0]] .normal) (b::cs)) w:=by
 have hn:=hs.wf.n1
 obtain⟨t1,t2⟩:=A5 a
 refine f04 (sv:=Z0 st) hs hwf fun ov u A3 hB hA3=>?_
 have hsz:=hB.sz
 refine A0O (sv:=Z0 st) (o6 hwf) (by omega) hB.ob hA3 fun A3 hA3=>?_
 refine B0w fun A1 hA1=>?_
 refine J2 (K:=w6) (.stop fun d=>?_)
 refine j0l (st:=st) (c':=⟨⟨5,0,0,1,0,0,[],[],a⟩,A1,A1,A1,A3,u.heap.size,w.heap.size+1,.slice none 0 0,.slice none 0 0⟩) (by rfl) hs (hB.old' _) (by simp[R1.begin]) ⟨⟨by simp,(by decide:(1:Nat)≤1024),(by decide:(0:Nat)<1),hn,fun h=>absurd h (by simp),fun h=>by simp at h ⊢,fun h=>by simp at h,fun _=>rfl⟩,(by exact hA1),hA3,fun _=>rfl⟩ (hB.cu0 rfl rfl) (fun q hq=>?_) d
 rcases hq with rfl|rfl|hq|hq
 ·simp only;omega
 ·simp only;omega
 ·simp[Value.ownBlock]at hq
 ·simp[Value.ownBlock]at hq
theorem k0I{kd:Int}(h1:kd≠1)(h2:kd≠2)(h3:kd≠3)(h4:kd≠4)(h5:kd≠5)(hs:SU lb s w)(hwf:Wf F w)(b:Frame)(cs:List Frame):
 J0 Try.prog false F ((I3 lb).Out st s (fun _=>False) ((I3 lb).beg s i ⟨kd,a,b0,c0⟩) w (b::cs)) (G (Frame.enter Try.prog 48 #[vP lb 0,Z0 st,vI i,.agg #[vI kd,vI a,vI b0,vI c0]] .normal) (b::cs)) w:=by
 refine f04 (sv:=Z0 st) hs hwf fun ov u A3 hB hA3=>?_
 have hsz:=hB.sz
 have hU:=o6 hwf
 refine A0J (sv:=Z0 st) (n:=s.n) hU (by omega) (by simpa using h1) (by simpa using h2) (by simpa using h3) (by simpa using h4) (by simpa using h5) hB.ob ⟨_,_,_,hB.rb⟩ (fun k=>Q2 hU (by simp only;omega)) hA3 fun w' h6 h7=>.stop fun d=>?_
 refine⟨s,.inr ⟨(false,0,[]),none,0,0⟩,⟨rfl,rfl,by simp[R1.begin,w0B,h1,h2,h3,h4,h5]⟩,hs.same fun r hr=>?_,fun r hr=>.inl hr,World.ownsRow_nil _ _ _ _,fun q h=>by simp[I3,SA.row,Value.ownBlock]at h,fun q h=>by simp[I3,SA.row,Value.ownBlock]at h,rfl⟩
 have hlt:=hs.low hr
 exact(h7 r (by omega) (by omega)).trans (hB.old r hlt)
end
end
section
variable{F:Fz}{w w':World}{lb st:Nat}
theorem f0Q{n kd ph r T i:Nat}{v a:Int}{vs:List Int}(hp:(kd,ph)∈[(1,0),(1,1),(1,2),(1,3),(2,0),(2,1),(2,2),(2,3)])(hT:T≤1024)(hr:r<T)(hi:i<n)(hv:vs.length=n):SeV n ⟨kd,ph,r,T,v,i,[],vs,a⟩:=by
 simp only[List.mem_cons,Prod.mk.injEq,List.not_mem_nil,or_false]at hp
 rcases hp with⟨rfl,rfl⟩|⟨rfl,rfl⟩|⟨rfl,rfl⟩|⟨rfl,rfl⟩|⟨rfl,rfl⟩|⟨rfl,rfl⟩|⟨rfl,rfl⟩|⟨rfl,rfl⟩<;>exact⟨by simp,hT,hr,hi,fun _=>⟨hv,rfl⟩,fun h=>by simp at h,fun h=>by simp at h,fun h=>by simp at h⟩
theorem u0c{vs:List Int}{i:Nat}(h:i<vs.length):(vs.map fun v=>Value.int .i64 v)[i]? =some (vI (vs.getD i 0)):=by simp[List.getD_eq_getElem?_getD,h]
theorem b9.turn{c c':u8}(h:b9 c w)(h1:c'.ab=c.ab)(h2:c'.rb=c.rb)(h3:c'.vv=c.vv)(h4:c'.c.vs=c.c.vs)(h5:c'.ov=c.ov)(h6:c'.c.out=c.c.out):b9 c' w:=by
 refine⟨h1 ▸ h.a,h2 ▸ h.r,by rw[h1,h2];exact h.ne,by rw[h3,h4];exact h.vv,by rw[h5,h6];exact h.ov,by rw[h1,h2,h3];exact h.vn,by rw[h1,h2,h5];exact h.on⟩
theorem X6{c c':u8}(h1:c'.ab=c.ab)(h2:c'.rb=c.rb)(h3:c'.vv=c.vv)(h5:c'.ov=c.ov){m:Nat}(q:Nat)(h:L6 c' q):L6 c q∨m≤q:=by
 left
 unfold L6 at h ⊢
 rw[← h1,← h2,← h3,← h5]
 exact h
theorem b9.keep{c:u8}{s:SS}(h:b9 c w)(hdis:∀q,L6 c q→¬SR lb s q)(hsame:∀q,¬SR lb s q→w'.heap[q]? =w.heap[q]?):b9 c w':=h.same fun q hq=>hsame q (hdis q hq)
theorem b0o{s:SS}{v:Value}{k:Nat}:∀q,¬SR lb s q→(w.setCell ⟨lb,k,none⟩ v).heap[q]? =w.heap[q]?:=fun q hq=>I0 _ _ _ fun e=>hq (.inl e)
theorem g0s{s:SS}{v:Value}{k:Nat}:∀q,¬SR lb s q→(w.setCell ⟨s.wb,k,none⟩ v).heap[q]? =w.heap[q]?:=fun q hq=>I0 _ _ _ fun e=>hq (.inr e)
section
variable{s:SS}{r T i:Nat}{v a:Int}{out vs:List Int}{A A1 A2 A3:Array Value}{ab rb:Nat}{vv ov:Value}
theorem j0j{nv:Int}{ph:Nat}{la:Option Addr}{ll lc:Nat}(hJv:SeV s.n ⟨1,ph,r,T,v,i,[],vs,a⟩)(ha3:G0 80 A3 [(8,vP rb 0),(11,vP ab 0)])(hA1:G0 63 A1 (o0i lb st ⟨⟨1,ph,r,T,v,i,[],vs,a⟩,A,A1,A2,A3,ab,rb,.slice la ll lc,ov⟩))(hA2:A2.size=14)(hs:SU lb s w)(hc:b9 ⟨⟨1,ph,r,T,v,i,[],vs,a⟩,A,A1,A2,A3,ab,rb,.slice la ll lc,ov⟩ w)(hdis:∀q,L6 ⟨⟨1,ph,r,T,v,i,[],vs,a⟩,A,A1,A2,A3,ab,rb,.slice la ll lc,ov⟩ q→¬SR lb s q)(hF:∀r,SR lb s r∨L6 ⟨⟨1,ph,r,T,v,i,[],vs,a⟩,A,A1,A2,A3,ab,rb,.slice la ll lc,ov⟩ r→F r=none)(b:Frame)(cs:List Frame)
 (hrel:s.k.step ⟨1,ph,r,T,v,i,[],vs,a⟩=s.k.again ⟨1,ph,r,T,v,i,[],vs,a⟩):
 J0 Try.prog false F ((I3 lb).Out st s (L6 ⟨⟨1,ph,r,T,v,i,[],vs,a⟩,A,A1,A2,A3,ab,rb,.slice la ll lc,ov⟩) ((I3 lb).stp s ⟨⟨1,ph,r,T,v,i,[],vs,a⟩,A,A1,A2,A3,ab,rb,.slice la ll lc,ov⟩) w (b::cs)) (G ((n0v A1).finish (.tuple #[vI nv,.bool false])) (fWW A2::o02 A3::b::cs)) w:=by
 have hans:∀k,¬held F ⟨ab,k,none⟩:=fun k=>K1 (hF _ (.inr (.inl rfl))) k
 have hrbh:∀k,¬held F ⟨rb,k,none⟩:=fun k=>K1 (hF _ (.inr (.inr (.inl rfl)))) k
 obtain⟨_,vT,vr,vi,vvs,vo,vo2,_⟩:=hJv
 simp only at vT vr vi vvs vo vo2
 by_cases h:r+1<T
 ·refine w0r (sv:=Z0 st) vT h hA1 fun A1' hA1'=>m01 fun A' hA'=>J2 (K:=w6) (.stop fun d=>?_)
  exact O6 (st:=st) (c:=⟨⟨1,ph,r,T,v,i,[],vs,a⟩,A,A1,A2,A3,ab,rb,.slice la ll lc,ov⟩) (c':=⟨⟨1,0,(r+1),T,v,i,[],vs,a⟩,A',A1',A2,A3,ab,rb,.slice la ll lc,ov⟩) (k':=s.k) (by rfl) hs (by rw[hrel];simp[R1.again,h]) ⟨f0Q (by simp) vT h vi (vvs (by decide)).1,(by exact⟨hA',hA1',hA2⟩),ha3,fun h=>by simp at h⟩ (hc.turn rfl rfl rfl rfl rfl rfl) (X6 rfl rfl rfl rfl) hs hdis d
 ·refine w0s (sv:=Z0 st) (T:=T) (r:=r) vT (by omega) hA1 ?_
  refine r0M hA2 ?_
  refine u0H hc.a hc.r hc.ne hans hrbh ha3 fun w' hw'=>.stop fun d=>?_
  exact c0H (st:=st) (c:=⟨⟨1,ph,r,T,v,i,[],vs,a⟩,A,A1,A2,A3,ab,rb,.slice la ll lc,ov⟩) (a:=⟨(false,0,[]),none,0,0⟩) (k':=s.k) (hs.same fun q hq=>hw'.old q (fun e=>hdis q (.inl e) hq) (fun e=>hdis q (.inr (.inl e)) hq)) (by rw[hrel];simp[R1.again,h]) (World.ownsRow_nil _ _ _ _) (fun q h=>by simp[SA.row,Value.ownBlock]at h) hs hdis d
theorem D0j(hJ:SJ lb st s.wb s.wo s.n ⟨⟨1,0,r,T,v,i,out,vs,a⟩,A,A1,A2,A3,ab,rb,vv,ov⟩)(hs:SU lb s w)(hc:b9 ⟨⟨1,0,r,T,v,i,out,vs,a⟩,A,A1,A2,A3,ab,rb,vv,ov⟩ w)(hdis:∀q,L6 ⟨⟨1,0,r,T,v,i,out,vs,a⟩,A,A1,A2,A3,ab,rb,vv,ov⟩ q→¬SR lb s q)(hwf:Wf F w)(hF:∀r,SR lb s r∨L6 ⟨⟨1,0,r,T,v,i,out,vs,a⟩,A,A1,A2,A3,ab,rb,vv,ov⟩ r→F r=none)(b:Frame)(cs:List Frame):
 J0 Try.prog false F ((I3 lb).Out st s (L6 ⟨⟨1,0,r,T,v,i,out,vs,a⟩,A,A1,A2,A3,ab,rb,vv,ov⟩) ((I3 lb).stp s ⟨⟨1,0,r,T,v,i,out,vs,a⟩,A,A1,A2,A3,ab,rb,vv,ov⟩) w (b::cs)) (back (.tuple #[]) ((I3 lb).cf st ⟨⟨1,0,r,T,v,i,out,vs,a⟩,A,A1,A2,A3,ab,rb,vv,ov⟩++b::cs)) w:=by
 have hlb:F lb=none:=hF _ (.inl (.inl rfl))
 have hwb:F s.wb=none:=hF _ (.inl (.inr rfl))
 have hans:∀k,¬held F ⟨ab,k,none⟩:=fun k=>K1 (hF _ (.inr (.inl rfl))) k
 have hrbh:∀k,¬held F ⟨rb,k,none⟩:=fun k=>K1 (hF _ (.inr (.inr (.inl rfl)))) k
 have hn16:=hs.wf.n2
 have hn1:=hs.wf.n1
 have hnn:s.n=s.k.ws.length:=rfl
 have hS:=hJ.s
 obtain⟨_,vT,vr,vi,vvs,vo,vo2,_⟩:=hJ.v
 simp only at vT vr vi vvs vo vo2
 obtain⟨hvl,rfl⟩:=vvs (by decide)
 obtain⟨la,ll,lc,hsl⟩:=F3 hc.vv
 simp only at hsl
 subst hsl
 refine K3 (K:=w6) (sa:=⟨st,0,none⟩) ?_
 by_cases e:s.k.ver.tmod 2=0
 ·refine l0g (sv:=Z0 st) (v:=s.k.ver) (by simp[e]) hs.v.c hS.1 fun A' hA'=>J2 (K:=w6) (.stop fun d=>?_)
  exact O6 (st:=st) (c:=⟨⟨1,0,r,T,v,i,[],vs,a⟩,A,A1,A2,A3,ab,rb,.slice la ll lc,ov⟩) (c':=⟨⟨1,1,r,T,s.k.ver,i,[],vs,a⟩,A',A1,A2,A3,ab,rb,.slice la ll lc,ov⟩) (k':=s.k) (by rfl) hs (by simp[R1.step,R1.wstep,e]) ⟨f0Q (by simp) vT vr vi hvl,(by exact⟨hA',hS.2.1,hS.2.2⟩),hJ.a,hJ.nvv⟩ (hc.turn rfl rfl rfl rfl rfl rfl) (X6 rfl rfl rfl rfl) hs hdis d
 ·refine u0r (sv:=Z0 st) (v:=s.k.ver) (by simpa using e) hs.v.c hS.1 ?_
  exact j0j hJ.v hJ.a hS.2.1 hS.2.2 hs hc hdis hF b cs (by simp[R1.step,R1.wstep,e])
theorem D0k(hJ:SJ lb st s.wb s.wo s.n ⟨⟨1,1,r,T,v,i,out,vs,a⟩,A,A1,A2,A3,ab,rb,vv,ov⟩)(hs:SU lb s w)(hc:b9 ⟨⟨1,1,r,T,v,i,out,vs,a⟩,A,A1,A2,A3,ab,rb,vv,ov⟩ w)(hdis:∀q,L6 ⟨⟨1,1,r,T,v,i,out,vs,a⟩,A,A1,A2,A3,ab,rb,vv,ov⟩ q→¬SR lb s q)(hwf:Wf F w)(hF:∀r,SR lb s r∨L6 ⟨⟨1,1,r,T,v,i,out,vs,a⟩,A,A1,A2,A3,ab,rb,vv,ov⟩ r→F r=none)(b:Frame)(cs:List Frame):
 J0 Try.prog false F ((I3 lb).Out st s (L6 ⟨⟨1,1,r,T,v,i,out,vs,a⟩,A,A1,A2,A3,ab,rb,vv,ov⟩) ((I3 lb).stp s ⟨⟨1,1,r,T,v,i,out,vs,a⟩,A,A1,A2,A3,ab,rb,vv,ov⟩) w (b::cs)) (back (.tuple #[]) ((I3 lb).cf st ⟨⟨1,1,r,T,v,i,out,vs,a⟩,A,A1,A2,A3,ab,rb,vv,ov⟩++b::cs)) w:=by
 have hlb:F lb=none:=hF _ (.inl (.inl rfl))
 have hwb:F s.wb=none:=hF _ (.inl (.inr rfl))
 have hans:∀k,¬held F ⟨ab,k,none⟩:=fun k=>K1 (hF _ (.inr (.inl rfl))) k
 have hrbh:∀k,¬held F ⟨rb,k,none⟩:=fun k=>K1 (hF _ (.inr (.inr (.inl rfl)))) k
 have hn16:=hs.wf.n2
 have hn1:=hs.wf.n1
 have hnn:s.n=s.k.ws.length:=rfl
 have hS:=hJ.s
 obtain⟨_,vT,vr,vi,vvs,vo,vo2,_⟩:=hJ.v
 simp only at vT vr vi vvs vo vo2
 obtain⟨hvl,rfl⟩:=vvs (by decide)
 obtain⟨la,ll,lc,hsl⟩:=F3 hc.vv
 simp only at hsl
 subst hsl
 refine K3 (K:=w6) (sa:=⟨st,0,none⟩) ?_
 by_cases e:s.k.ver=v
 ·refine l0h (sv:=Z0 st) (u:=s.k.ver) (by simp[e]) hs.v.c hs.v.z (K1 hlb _) hS.1 ?_
  have hU:=hs.setV (i6 (v+1))
  have hcu:b9 ⟨⟨1,1,r,T,v,i,[],vs,a⟩,A,A1,A2,A3,ab,rb,.slice la ll lc,ov⟩ (w.setCell ⟨lb,0,none⟩ (vI (i6 (v+1)))):=hc.keep hdis b0o
  obtain⟨vb,vc,hvv,hat⟩:=M5 (k:=0) hcu.vv (u0c (vs:=vs) (i:=0) (by omega))
  simp only at hvv
  cases hvv
  refine m0V (sv:=Z0 st) (v:=v) (x:=vs.getD 0 0) hU.h (by omega) hat.c hS.2.1 fun A1' hA1'=>J2 (K:=w6) (.stop fun d=>?_)
  exact O6 (st:=st) (c:=⟨⟨1,1,r,T,v,i,[],vs,a⟩,A,A1,A2,A3,ab,rb,vL vb 0 vs.length lc,ov⟩) (c':=⟨⟨1,2,r,T,v,0,[],vs,a⟩,A,A1',A2,A3,ab,rb,vL vb 0 vs.length lc,ov⟩) (k':={s.k with ver:=i6 (v+1)}) (by rfl) hU (by simp[R1.step,R1.wstep,e]) ⟨f0Q (by simp) vT vr hn1 hvl,(by exact⟨hA1',hS.2.2⟩),hJ.a,hJ.nvv⟩ (hcu.turn rfl rfl rfl rfl rfl rfl) (X6 rfl rfl rfl rfl) hs hdis d
 ·refine u0s (sv:=Z0 st) (u:=s.k.ver) (by simp[e]) hs.v.c hs.v.z (K1 hlb _) hS.1 ?_
  exact j0j hJ.v hJ.a hS.2.1 hS.2.2 hs hc hdis hF b cs (by simp[R1.step,R1.wstep,e])
theorem D0l(hJ:SJ lb st s.wb s.wo s.n ⟨⟨1,2,r,T,v,i,out,vs,a⟩,A,A1,A2,A3,ab,rb,vv,ov⟩)(hs:SU lb s w)(hc:b9 ⟨⟨1,2,r,T,v,i,out,vs,a⟩,A,A1,A2,A3,ab,rb,vv,ov⟩ w)(hdis:∀q,L6 ⟨⟨1,2,r,T,v,i,out,vs,a⟩,A,A1,A2,A3,ab,rb,vv,ov⟩ q→¬SR lb s q)(hwf:Wf F w)(hF:∀r,SR lb s r∨L6 ⟨⟨1,2,r,T,v,i,out,vs,a⟩,A,A1,A2,A3,ab,rb,vv,ov⟩ r→F r=none)(b:Frame)(cs:List Frame):
 J0 Try.prog false F ((I3 lb).Out st s (L6 ⟨⟨1,2,r,T,v,i,out,vs,a⟩,A,A1,A2,A3,ab,rb,vv,ov⟩) ((I3 lb).stp s ⟨⟨1,2,r,T,v,i,out,vs,a⟩,A,A1,A2,A3,ab,rb,vv,ov⟩) w (b::cs)) (back (.tuple #[]) ((I3 lb).cf st ⟨⟨1,2,r,T,v,i,out,vs,a⟩,A,A1,A2,A3,ab,rb,vv,ov⟩++b::cs)) w:=by
 have hlb:F lb=none:=hF _ (.inl (.inl rfl))
 have hwb:F s.wb=none:=hF _ (.inl (.inr rfl))
 have hans:∀k,¬held F ⟨ab,k,none⟩:=fun k=>K1 (hF _ (.inr (.inl rfl))) k
 have hrbh:∀k,¬held F ⟨rb,k,none⟩:=fun k=>K1 (hF _ (.inr (.inr (.inl rfl)))) k
 have hn16:=hs.wf.n2
 have hn1:=hs.wf.n1
 have hnn:s.n=s.k.ws.length:=rfl
 have hS:=hJ.s
 obtain⟨_,vT,vr,vi,vvs,vo,vo2,_⟩:=hJ.v
 simp only at vT vr vi vvs vo vo2
 obtain⟨hvl,rfl⟩:=vvs (by decide)
 obtain⟨la,ll,lc,hsl⟩:=F3 hc.vv
 simp only at hsl
 subst hsl
 refine K3 (K:=w6) (sa:=⟨st,0,none⟩) ?_
 have hU:=hs.setW vi (vs.getD i 0)
 have hl:(s.k.ws.set i (vs.getD i 0)).length=s.n:=List.length_set
 have hcu:b9 ⟨⟨1,2,r,T,v,i,[],vs,a⟩,A,A1,A2,A3,ab,rb,.slice la ll lc,ov⟩ (w.setCell ⟨s.wb,s.wo+i,none⟩ (vI (vs.getD i 0))):=hc.keep hdis g0s
 by_cases e:i+1<s.n
 ·obtain⟨vb,vc,hvv,hat⟩:=M5 (k:=i+1) hcu.vv (u0c (vs:=vs) (i:=i+1) (by omega))
  simp only at hvv
  cases hvv
  refine r0D (sv:=Z0 st) (y:=vs.getD (i+1) 0) hn16 e (hs.ws i vi).c (hs.ws i vi).z (K1 hwb _) (by omega) hat.c hS.1 fun A1' hA1'=>J2 (K:=w6) (.stop fun d=>?_)
  exact O6 (st:=st) (c:=⟨⟨1,2,r,T,v,i,[],vs,a⟩,A,A1,A2,A3,ab,rb,vL vb 0 vs.length lc,ov⟩) (c':=⟨⟨1,2,r,T,v,(i+1),[],vs,a⟩,A,A1',A2,A3,ab,rb,vL vb 0 vs.length lc,ov⟩) (k':={s.k with ws:=s.k.ws.set i (vs.getD i 0)}) (by rfl) hU (by simp[R1.step,R1.wstep,a0M,e]) ⟨f0Q (by simp) vT vr (by rw[hl];exact e) (hvl.trans hl.symm),(by exact⟨by show G0 63 A1' (u0e lb st s.wb s.wo (s.k.ws.set i (vs.getD i 0)).length _);rw[hl];exact hA1',hS.2⟩),hJ.a,hJ.nvv⟩ (hcu.turn rfl rfl rfl rfl rfl rfl) (X6 rfl rfl rfl rfl) hs hdis d
 ·refine r0F (sv:=Z0 st) (n:=s.n) hn16 (by omega) (hs.ws i vi).c (hs.ws i vi).z (K1 hwb _) hS.1 fun A1' hA1'=>J2 (K:=w6) (.stop fun d=>?_)
  exact O6 (st:=st) (c:=⟨⟨1,2,r,T,v,i,[],vs,a⟩,A,A1,A2,A3,ab,rb,.slice la ll lc,ov⟩) (c':=⟨⟨1,3,r,T,v,i,[],vs,a⟩,A,A1',A2,A3,ab,rb,.slice la ll lc,ov⟩) (k':={s.k with ws:=s.k.ws.set i (vs.getD i 0)}) (by rfl) hU (by simp[R1.step,R1.wstep,a0M,e]) ⟨f0Q (by simp) vT vr (by rw[hl];exact vi) (hvl.trans hl.symm),(by exact⟨hA1',hS.2⟩),hJ.a,hJ.nvv⟩ (hcu.turn rfl rfl rfl rfl rfl rfl) (X6 rfl rfl rfl rfl) hs hdis d
theorem D0m(hJ:SJ lb st s.wb s.wo s.n ⟨⟨1,3,r,T,v,i,out,vs,a⟩,A,A1,A2,A3,ab,rb,vv,ov⟩)(hs:SU lb s w)(hc:b9 ⟨⟨1,3,r,T,v,i,out,vs,a⟩,A,A1,A2,A3,ab,rb,vv,ov⟩ w)(hdis:∀q,L6 ⟨⟨1,3,r,T,v,i,out,vs,a⟩,A,A1,A2,A3,ab,rb,vv,ov⟩ q→¬SR lb s q)(hwf:Wf F w)(hF:∀r,SR lb s r∨L6 ⟨⟨1,3,r,T,v,i,out,vs,a⟩,A,A1,A2,A3,ab,rb,vv,ov⟩ r→F r=none)(b:Frame)(cs:List Frame):
 J0 Try.prog false F ((I3 lb).Out st s (L6 ⟨⟨1,3,r,T,v,i,out,vs,a⟩,A,A1,A2,A3,ab,rb,vv,ov⟩) ((I3 lb).stp s ⟨⟨1,3,r,T,v,i,out,vs,a⟩,A,A1,A2,A3,ab,rb,vv,ov⟩) w (b::cs)) (back (.tuple #[]) ((I3 lb).cf st ⟨⟨1,3,r,T,v,i,out,vs,a⟩,A,A1,A2,A3,ab,rb,vv,ov⟩++b::cs)) w:=by
 have hlb:F lb=none:=hF _ (.inl (.inl rfl))
 have hwb:F s.wb=none:=hF _ (.inl (.inr rfl))
 have hans:∀k,¬held F ⟨ab,k,none⟩:=fun k=>K1 (hF _ (.inr (.inl rfl))) k
 have hrbh:∀k,¬held F ⟨rb,k,none⟩:=fun k=>K1 (hF _ (.inr (.inr (.inl rfl)))) k
 have hn16:=hs.wf.n2
 have hn1:=hs.wf.n1
 have hnn:s.n=s.k.ws.length:=rfl
 have hS:=hJ.s
 obtain⟨_,vT,vr,vi,vvs,vo,vo2,_⟩:=hJ.v
 simp only at vT vr vi vvs vo vo2
 obtain⟨hvl,rfl⟩:=vvs (by decide)
 obtain⟨la,ll,lc,hsl⟩:=F3 hc.vv
 simp only at hsl
 subst hsl
 refine K3 (K:=w6) (sa:=⟨st,0,none⟩) ?_
 refine u0g (sv:=Z0 st) (v:=v) hs.v.c hs.v.z (K1 hlb _) hS.1 ?_
 have hU:=hs.setV (i6 (v+2))
 have hcu:b9 ⟨⟨1,3,r,T,v,i,[],vs,a⟩,A,A1,A2,A3,ab,rb,.slice la ll lc,ov⟩ (w.setCell ⟨lb,0,none⟩ (vI (i6 (v+2)))):=hc.keep hdis b0o
 refine r0M hS.2 ?_
 refine u0H hcu.a hcu.r hcu.ne hans hrbh hJ.a fun w' hw'=>.stop fun d=>?_
 exact c0H (st:=st) (c:=⟨⟨1,3,r,T,v,i,[],vs,a⟩,A,A1,A2,A3,ab,rb,.slice la ll lc,ov⟩) (a:=⟨(true,0,[]),none,0,0⟩) (k':={s.k with ver:=i6 (v+2)}) (hU.same fun q hq=>hw'.old q (fun e=>hdis q (.inl e) hq) (fun e=>hdis q (.inr (.inl e)) hq)) (by simp[R1.step,R1.wstep]) (World.ownsRow_nil _ _ _ _) (fun q h=>by simp[SA.row,Value.ownBlock]at h) hs hdis d
theorem j0k{nv:Int}{ph:Nat}{la:Option Addr}{ll lc:Nat}(hJv:SeV s.n ⟨2,ph,r,T,v,i,[],vs,a⟩)(ha3:G0 80 A3 [(8,vP rb 0),(11,vP ab 0)])(hA1:G0 63 A1 (o0i lb st ⟨⟨2,ph,r,T,v,i,[],vs,a⟩,A,A1,A2,A3,ab,rb,.slice la ll lc,ov⟩))(hA2:A2.size=14)(hs:SU lb s w)(hc:b9 ⟨⟨2,ph,r,T,v,i,[],vs,a⟩,A,A1,A2,A3,ab,rb,.slice la ll lc,ov⟩ w)(hdis:∀q,L6 ⟨⟨2,ph,r,T,v,i,[],vs,a⟩,A,A1,A2,A3,ab,rb,.slice la ll lc,ov⟩ q→¬SR lb s q)(hF:∀r,SR lb s r∨L6 ⟨⟨2,ph,r,T,v,i,[],vs,a⟩,A,A1,A2,A3,ab,rb,.slice la ll lc,ov⟩ r→F r=none)(b:Frame)(cs:List Frame)
 (hrel:s.k.step ⟨2,ph,r,T,v,i,[],vs,a⟩=s.k.again ⟨2,ph,r,T,v,i,[],vs,a⟩):
 J0 Try.prog false F ((I3 lb).Out st s (L6 ⟨⟨2,ph,r,T,v,i,[],vs,a⟩,A,A1,A2,A3,ab,rb,.slice la ll lc,ov⟩) ((I3 lb).stp s ⟨⟨2,ph,r,T,v,i,[],vs,a⟩,A,A1,A2,A3,ab,rb,.slice la ll lc,ov⟩) w (b::cs)) (G ((n0v A1).finish (.tuple #[vI nv,.bool false])) (fAA A2::o03 A3::b::cs)) w:=by
 have hans:∀k,¬held F ⟨ab,k,none⟩:=fun k=>K1 (hF _ (.inr (.inl rfl))) k
 have hrbh:∀k,¬held F ⟨rb,k,none⟩:=fun k=>K1 (hF _ (.inr (.inr (.inl rfl)))) k
 obtain⟨_,vT,vr,vi,vvs,vo,vo2,_⟩:=hJv
 simp only at vT vr vi vvs vo vo2
 by_cases h:r+1<T
 ·refine w0r (sv:=Z0 st) vT h hA1 fun A1' hA1'=>m01 fun A' hA'=>J2 (K:=w6) (.stop fun d=>?_)
  exact O6 (st:=st) (c:=⟨⟨2,ph,r,T,v,i,[],vs,a⟩,A,A1,A2,A3,ab,rb,.slice la ll lc,ov⟩) (c':=⟨⟨2,0,(r+1),T,v,i,[],vs,a⟩,A',A1',A2,A3,ab,rb,.slice la ll lc,ov⟩) (k':=s.k) (by rfl) hs (by rw[hrel];simp[R1.again,h]) ⟨f0Q (by simp) vT h vi (vvs (by decide)).1,(by exact⟨hA',hA1',hA2⟩),ha3,fun h=>by simp at h⟩ (hc.turn rfl rfl rfl rfl rfl rfl) (X6 rfl rfl rfl rfl) hs hdis d
 ·refine w0s (sv:=Z0 st) (T:=T) (r:=r) vT (by omega) hA1 ?_
  refine r0N hA2 ?_
  refine u0I hc.a hc.r hc.ne hans hrbh ha3 fun w' hw'=>.stop fun d=>?_
  exact c0H (st:=st) (c:=⟨⟨2,ph,r,T,v,i,[],vs,a⟩,A,A1,A2,A3,ab,rb,.slice la ll lc,ov⟩) (a:=⟨(false,0,[]),none,0,0⟩) (k':=s.k) (hs.same fun q hq=>hw'.old q (fun e=>hdis q (.inl e) hq) (fun e=>hdis q (.inr (.inl e)) hq)) (by rw[hrel];simp[R1.again,h]) (World.ownsRow_nil _ _ _ _) (fun q h=>by simp[SA.row,Value.ownBlock]at h) hs hdis d
theorem D0n(hJ:SJ lb st s.wb s.wo s.n ⟨⟨2,0,r,T,v,i,out,vs,a⟩,A,A1,A2,A3,ab,rb,vv,ov⟩)(hs:SU lb s w)(hc:b9 ⟨⟨2,0,r,T,v,i,out,vs,a⟩,A,A1,A2,A3,ab,rb,vv,ov⟩ w)(hdis:∀q,L6 ⟨⟨2,0,r,T,v,i,out,vs,a⟩,A,A1,A2,A3,ab,rb,vv,ov⟩ q→¬SR lb s q)(hwf:Wf F w)(hF:∀r,SR lb s r∨L6 ⟨⟨2,0,r,T,v,i,out,vs,a⟩,A,A1,A2,A3,ab,rb,vv,ov⟩ r→F r=none)(b:Frame)(cs:List Frame):
 J0 Try.prog false F ((I3 lb).Out st s (L6 ⟨⟨2,0,r,T,v,i,out,vs,a⟩,A,A1,A2,A3,ab,rb,vv,ov⟩) ((I3 lb).stp s ⟨⟨2,0,r,T,v,i,out,vs,a⟩,A,A1,A2,A3,ab,rb,vv,ov⟩) w (b::cs)) (back (.tuple #[]) ((I3 lb).cf st ⟨⟨2,0,r,T,v,i,out,vs,a⟩,A,A1,A2,A3,ab,rb,vv,ov⟩++b::cs)) w:=by
 have hlb:F lb=none:=hF _ (.inl (.inl rfl))
 have hwb:F s.wb=none:=hF _ (.inl (.inr rfl))
 have hans:∀k,¬held F ⟨ab,k,none⟩:=fun k=>K1 (hF _ (.inr (.inl rfl))) k
 have hrbh:∀k,¬held F ⟨rb,k,none⟩:=fun k=>K1 (hF _ (.inr (.inr (.inl rfl)))) k
 have hn16:=hs.wf.n2
 have hn1:=hs.wf.n1
 have hnn:s.n=s.k.ws.length:=rfl
 have hS:=hJ.s
 obtain⟨_,vT,vr,vi,vvs,vo,vo2,_⟩:=hJ.v
 simp only at vT vr vi vvs vo vo2
 obtain⟨hvl,rfl⟩:=vvs (by decide)
 obtain⟨la,ll,lc,hsl⟩:=F3 hc.vv
 simp only at hsl
 subst hsl
 refine K3 (K:=w6) (sa:=⟨st,0,none⟩) ?_
 by_cases e:s.k.ver.tmod 2=0
 ·refine l0g (sv:=Z0 st) (v:=s.k.ver) (by simp[e]) hs.v.c hS.1 fun A' hA'=>J2 (K:=w6) (.stop fun d=>?_)
  exact O6 (st:=st) (c:=⟨⟨2,0,r,T,v,i,[],vs,a⟩,A,A1,A2,A3,ab,rb,.slice la ll lc,ov⟩) (c':=⟨⟨2,1,r,T,s.k.ver,i,[],vs,a⟩,A',A1,A2,A3,ab,rb,.slice la ll lc,ov⟩) (k':=s.k) (by rfl) hs (by simp[R1.step,R1.wstep,e]) ⟨f0Q (by simp) vT vr vi hvl,(by exact⟨hA',hS.2.1,hS.2.2⟩),hJ.a,hJ.nvv⟩ (hc.turn rfl rfl rfl rfl rfl rfl) (X6 rfl rfl rfl rfl) hs hdis d
 ·refine u0r (sv:=Z0 st) (v:=s.k.ver) (by simpa using e) hs.v.c hS.1 ?_
  exact j0k hJ.v hJ.a hS.2.1 hS.2.2 hs hc hdis hF b cs (by simp[R1.step,R1.wstep,e])
theorem D0o(hJ:SJ lb st s.wb s.wo s.n ⟨⟨2,1,r,T,v,i,out,vs,a⟩,A,A1,A2,A3,ab,rb,vv,ov⟩)(hs:SU lb s w)(hc:b9 ⟨⟨2,1,r,T,v,i,out,vs,a⟩,A,A1,A2,A3,ab,rb,vv,ov⟩ w)(hdis:∀q,L6 ⟨⟨2,1,r,T,v,i,out,vs,a⟩,A,A1,A2,A3,ab,rb,vv,ov⟩ q→¬SR lb s q)(hwf:Wf F w)(hF:∀r,SR lb s r∨L6 ⟨⟨2,1,r,T,v,i,out,vs,a⟩,A,A1,A2,A3,ab,rb,vv,ov⟩ r→F r=none)(b:Frame)(cs:List Frame):
 J0 Try.prog false F ((I3 lb).Out st s (L6 ⟨⟨2,1,r,T,v,i,out,vs,a⟩,A,A1,A2,A3,ab,rb,vv,ov⟩) ((I3 lb).stp s ⟨⟨2,1,r,T,v,i,out,vs,a⟩,A,A1,A2,A3,ab,rb,vv,ov⟩) w (b::cs)) (back (.tuple #[]) ((I3 lb).cf st ⟨⟨2,1,r,T,v,i,out,vs,a⟩,A,A1,A2,A3,ab,rb,vv,ov⟩++b::cs)) w:=by
 have hlb:F lb=none:=hF _ (.inl (.inl rfl))
 have hwb:F s.wb=none:=hF _ (.inl (.inr rfl))
 have hans:∀k,¬held F ⟨ab,k,none⟩:=fun k=>K1 (hF _ (.inr (.inl rfl))) k
 have hrbh:∀k,¬held F ⟨rb,k,none⟩:=fun k=>K1 (hF _ (.inr (.inr (.inl rfl)))) k
 have hn16:=hs.wf.n2
 have hn1:=hs.wf.n1
 have hnn:s.n=s.k.ws.length:=rfl
 have hS:=hJ.s
 obtain⟨_,vT,vr,vi,vvs,vo,vo2,_⟩:=hJ.v
 simp only at vT vr vi vvs vo vo2
 obtain⟨hvl,rfl⟩:=vvs (by decide)
 obtain⟨la,ll,lc,hsl⟩:=F3 hc.vv
 simp only at hsl
 subst hsl
 refine K3 (K:=w6) (sa:=⟨st,0,none⟩) ?_
 by_cases e:s.k.ver=v
 ·refine l0h (sv:=Z0 st) (u:=s.k.ver) (by simp[e]) hs.v.c hs.v.z (K1 hlb _) hS.1 ?_
  have hU:=hs.setV (i6 (v+1))
  have hcu:b9 ⟨⟨2,1,r,T,v,i,[],vs,a⟩,A,A1,A2,A3,ab,rb,.slice la ll lc,ov⟩ (w.setCell ⟨lb,0,none⟩ (vI (i6 (v+1)))):=hc.keep hdis b0o
  obtain⟨vb,vc,hvv,hat⟩:=M5 (k:=0) hcu.vv (u0c (vs:=vs) (i:=0) (by omega))
  simp only at hvv
  cases hvv
  refine m0V (sv:=Z0 st) (v:=v) (x:=vs.getD 0 0) hU.h (by omega) hat.c hS.2.1 fun A1' hA1'=>J2 (K:=w6) (.stop fun d=>?_)
  exact O6 (st:=st) (c:=⟨⟨2,1,r,T,v,i,[],vs,a⟩,A,A1,A2,A3,ab,rb,vL vb 0 vs.length lc,ov⟩) (c':=⟨⟨2,2,r,T,v,0,[],vs,a⟩,A,A1',A2,A3,ab,rb,vL vb 0 vs.length lc,ov⟩) (k':={s.k with ver:=i6 (v+1)}) (by rfl) hU (by simp[R1.step,R1.wstep,e]) ⟨f0Q (by simp) vT vr hn1 hvl,(by exact⟨hA1',hS.2.2⟩),hJ.a,hJ.nvv⟩ (hcu.turn rfl rfl rfl rfl rfl rfl) (X6 rfl rfl rfl rfl) hs hdis d
 ·refine u0s (sv:=Z0 st) (u:=s.k.ver) (by simp[e]) hs.v.c hs.v.z (K1 hlb _) hS.1 ?_
  exact j0k hJ.v hJ.a hS.2.1 hS.2.2 hs hc hdis hF b cs (by simp[R1.step,R1.wstep,e])
theorem D0p(hJ:SJ lb st s.wb s.wo s.n ⟨⟨2,2,r,T,v,i,out,vs,a⟩,A,A1,A2,A3,ab,rb,vv,ov⟩)(hs:SU lb s w)(hc:b9 ⟨⟨2,2,r,T,v,i,out,vs,a⟩,A,A1,A2,A3,ab,rb,vv,ov⟩ w)(hdis:∀q,L6 ⟨⟨2,2,r,T,v,i,out,vs,a⟩,A,A1,A2,A3,ab,rb,vv,ov⟩ q→¬SR lb s q)(hwf:Wf F w)(hF:∀r,SR lb s r∨L6 ⟨⟨2,2,r,T,v,i,out,vs,a⟩,A,A1,A2,A3,ab,rb,vv,ov⟩ r→F r=none)(b:Frame)(cs:List Frame):
 J0 Try.prog false F ((I3 lb).Out st s (L6 ⟨⟨2,2,r,T,v,i,out,vs,a⟩,A,A1,A2,A3,ab,rb,vv,ov⟩) ((I3 lb).stp s ⟨⟨2,2,r,T,v,i,out,vs,a⟩,A,A1,A2,A3,ab,rb,vv,ov⟩) w (b::cs)) (back (.tuple #[]) ((I3 lb).cf st ⟨⟨2,2,r,T,v,i,out,vs,a⟩,A,A1,A2,A3,ab,rb,vv,ov⟩++b::cs)) w:=by
 have hlb:F lb=none:=hF _ (.inl (.inl rfl))
 have hwb:F s.wb=none:=hF _ (.inl (.inr rfl))
 have hans:∀k,¬held F ⟨ab,k,none⟩:=fun k=>K1 (hF _ (.inr (.inl rfl))) k
 have hrbh:∀k,¬held F ⟨rb,k,none⟩:=fun k=>K1 (hF _ (.inr (.inr (.inl rfl)))) k
 have hn16:=hs.wf.n2
 have hn1:=hs.wf.n1
 have hnn:s.n=s.k.ws.length:=rfl
 have hS:=hJ.s
 obtain⟨_,vT,vr,vi,vvs,vo,vo2,_⟩:=hJ.v
 simp only at vT vr vi vvs vo vo2
 obtain⟨hvl,rfl⟩:=vvs (by decide)
 obtain⟨la,ll,lc,hsl⟩:=F3 hc.vv
 simp only at hsl
 subst hsl
 refine K3 (K:=w6) (sa:=⟨st,0,none⟩) ?_
 have hU:=hs.setW vi (i6 (s.k.ws.getD i 0+vs.getD i 0))
 have hl:(s.k.ws.set i (i6 (s.k.ws.getD i 0+vs.getD i 0))).length=s.n:=List.length_set
 have hcu:b9 ⟨⟨2,2,r,T,v,i,[],vs,a⟩,A,A1,A2,A3,ab,rb,.slice la ll lc,ov⟩ (w.setCell ⟨s.wb,s.wo+i,none⟩ (vI (i6 (s.k.ws.getD i 0+vs.getD i 0)))):=hc.keep hdis g0s
 by_cases e:i+1<s.n
 ·obtain⟨vb,vc,hvv,hat⟩:=M5 (k:=i+1) hcu.vv (u0c (vs:=vs) (i:=i+1) (by omega))
  simp only at hvv
  cases hvv
  refine r0E (sv:=Z0 st) (y:=vs.getD (i+1) 0) hn16 e (hs.ws i vi).c (hs.ws i vi).z (K1 hwb _) (by omega) hat.c hS.1 fun A1' hA1'=>J2 (K:=w6) (.stop fun d=>?_)
  exact O6 (st:=st) (c:=⟨⟨2,2,r,T,v,i,[],vs,a⟩,A,A1,A2,A3,ab,rb,vL vb 0 vs.length lc,ov⟩) (c':=⟨⟨2,2,r,T,v,(i+1),[],vs,a⟩,A,A1',A2,A3,ab,rb,vL vb 0 vs.length lc,ov⟩) (k':={s.k with ws:=s.k.ws.set i (i6 (s.k.ws.getD i 0+vs.getD i 0))}) (by rfl) hU (by simp[R1.step,R1.wstep,a0M,e]) ⟨f0Q (by simp) vT vr (by rw[hl];exact e) (hvl.trans hl.symm),(by exact⟨by show G0 63 A1' (u0e lb st s.wb s.wo (s.k.ws.set i (i6 (s.k.ws.getD i 0+vs.getD i 0))).length _);rw[hl];exact hA1',hS.2⟩),hJ.a,hJ.nvv⟩ (hcu.turn rfl rfl rfl rfl rfl rfl) (X6 rfl rfl rfl rfl) hs hdis d
 ·refine r0G (sv:=Z0 st) (n:=s.n) hn16 (by omega) (hs.ws i vi).c (hs.ws i vi).z (K1 hwb _) hS.1 fun A1' hA1'=>J2 (K:=w6) (.stop fun d=>?_)
  exact O6 (st:=st) (c:=⟨⟨2,2,r,T,v,i,[],vs,a⟩,A,A1,A2,A3,ab,rb,.slice la ll lc,ov⟩) (c':=⟨⟨2,3,r,T,v,i,[],vs,a⟩,A,A1',A2,A3,ab,rb,.slice la ll lc,ov⟩) (k':={s.k with ws:=s.k.ws.set i (i6 (s.k.ws.getD i 0+vs.getD i 0))}) (by rfl) hU (by simp[R1.step,R1.wstep,a0M,e]) ⟨f0Q (by simp) vT vr (by rw[hl];exact vi) (hvl.trans hl.symm),(by exact⟨hA1',hS.2⟩),hJ.a,hJ.nvv⟩ (hcu.turn rfl rfl rfl rfl rfl rfl) (X6 rfl rfl rfl rfl) hs hdis d
theorem D0q(hJ:SJ lb st s.wb s.wo s.n ⟨⟨2,3,r,T,v,i,out,vs,a⟩,A,A1,A2,A3,ab,rb,vv,ov⟩)(hs:SU lb s w)(hc:b9 ⟨⟨2,3,r,T,v,i,out,vs,a⟩,A,A1,A2,A3,ab,rb,vv,ov⟩ w)(hdis:∀q,L6 ⟨⟨2,3,r,T,v,i,out,vs,a⟩,A,A1,A2,A3,ab,rb,vv,ov⟩ q→¬SR lb s q)(hwf:Wf F w)(hF:∀r,SR lb s r∨L6 ⟨⟨2,3,r,T,v,i,out,vs,a⟩,A,A1,A2,A3,ab,rb,vv,ov⟩ r→F r=none)(b:Frame)(cs:List Frame):
 J0 Try.prog false F ((I3 lb).Out st s (L6 ⟨⟨2,3,r,T,v,i,out,vs,a⟩,A,A1,A2,A3,ab,rb,vv,ov⟩) ((I3 lb).stp s ⟨⟨2,3,r,T,v,i,out,vs,a⟩,A,A1,A2,A3,ab,rb,vv,ov⟩) w (b::cs)) (back (.tuple #[]) ((I3 lb).cf st ⟨⟨2,3,r,T,v,i,out,vs,a⟩,A,A1,A2,A3,ab,rb,vv,ov⟩++b::cs)) w:=by
 have hlb:F lb=none:=hF _ (.inl (.inl rfl))
 have hwb:F s.wb=none:=hF _ (.inl (.inr rfl))
 have hans:∀k,¬held F ⟨ab,k,none⟩:=fun k=>K1 (hF _ (.inr (.inl rfl))) k
 have hrbh:∀k,¬held F ⟨rb,k,none⟩:=fun k=>K1 (hF _ (.inr (.inr (.inl rfl)))) k
 have hn16:=hs.wf.n2
 have hn1:=hs.wf.n1
 have hnn:s.n=s.k.ws.length:=rfl
 have hS:=hJ.s
 obtain⟨_,vT,vr,vi,vvs,vo,vo2,_⟩:=hJ.v
 simp only at vT vr vi vvs vo vo2
 obtain⟨hvl,rfl⟩:=vvs (by decide)
 obtain⟨la,ll,lc,hsl⟩:=F3 hc.vv
 simp only at hsl
 subst hsl
 refine K3 (K:=w6) (sa:=⟨st,0,none⟩) ?_
 refine u0g (sv:=Z0 st) (v:=v) hs.v.c hs.v.z (K1 hlb _) hS.1 ?_
 have hU:=hs.setV (i6 (v+2))
 have hcu:b9 ⟨⟨2,3,r,T,v,i,[],vs,a⟩,A,A1,A2,A3,ab,rb,.slice la ll lc,ov⟩ (w.setCell ⟨lb,0,none⟩ (vI (i6 (v+2)))):=hc.keep hdis b0o
 refine r0N hS.2 ?_
 refine u0I hcu.a hcu.r hcu.ne hans hrbh hJ.a fun w' hw'=>.stop fun d=>?_
 exact c0H (st:=st) (c:=⟨⟨2,3,r,T,v,i,[],vs,a⟩,A,A1,A2,A3,ab,rb,.slice la ll lc,ov⟩) (a:=⟨(true,0,[]),none,0,0⟩) (k':={s.k with ver:=i6 (v+2)}) (hU.same fun q hq=>hw'.old q (fun e=>hdis q (.inl e) hq) (fun e=>hdis q (.inr (.inl e)) hq)) (by simp[R1.step,R1.wstep]) (World.ownsRow_nil _ _ _ _) (fun q h=>by simp[SA.row,Value.ownBlock]at h) hs hdis d
end
end
section
variable{F:Fz}{w w':World}{lb st:Nat}
theorem o0a{n kd ph r T i:Nat}{v a:Int}{out:List Int}(hp:(kd,ph)∈[(3,0),(3,1),(3,2),(4,1),(5,0)])(hT:T≤1024)(hr:r<T)(hi:i<n)(ho:(kd,ph)∈[(3,1),(4,1)]→out.length=i)(ho2:(kd,ph)=(3,2)→out.length≤n):SeV n ⟨kd,ph,r,T,v,i,out,[],a⟩:=by
 simp only[List.mem_cons,Prod.mk.injEq,List.not_mem_nil,or_false]at hp
 rcases hp with⟨rfl,rfl⟩|⟨rfl,rfl⟩|⟨rfl,rfl⟩|⟨rfl,rfl⟩|⟨rfl,rfl⟩<;>exact⟨by simp,hT,hr,hi,fun h=>absurd h (by simp),ho,ho2,fun _=>rfl⟩
theorem b9.drop{c c':u8}(h:b9 c w)(h1:c'.ab=c.ab)(h2:c'.rb=c.rb)(h3:c'.vv=c.vv)(h4:c'.c.vs=c.c.vs)(h5:c'.ov= .slice none 0 0)(h6:c'.c.out=[]):b9 c' w:=by
 refine⟨h1 ▸ h.a,h2 ▸ h.r,by rw[h1,h2];exact h.ne,by rw[h3,h4];exact h.vv,by rw[h5,h6];exact World.ownsRow_nil _ _ _ _,by rw[h1,h2,h3];exact h.vn,by rw[h5];exact⟨by simp[Value.ownBlock],by simp[Value.ownBlock]⟩⟩
theorem f0f{c c':u8}{q:Nat}(h:L6 c' q)(h1:c'.ab=c.ab)(h2:c'.rb=c.rb)(h3:c'.vv=c.vv)(h5:c'.ov= .slice none 0 0){m:Nat}:L6 c q∨m≤q:=by
 left
 unfold L6 at h ⊢
 rw[h1,h2,h3,h5]at h
 rcases h with h|h|h|h
 ·exact .inl h
 ·exact .inr (.inl h)
 ·exact .inr (.inr (.inl h))
 ·simp[Value.ownBlock]at h
theorem b9.more{c c':u8}{u:Int}{ov':Value}(h:b9 c w)(hg:f8 F w w' c.ov ov' c.c.out u)(hvo:∀q,c.vv.ownBlock=some q→c.ov.ownBlock≠some q)(h1:c'.ab=c.ab)(h2:c'.rb=c.rb)(h3:c'.vv=c.vv)(h4:c'.c.vs=c.c.vs)(h5:c'.ov=ov')(h6:c'.c.out=c.c.out++[u]):b9 c' w':=by
 have ha:c.ab<w.heap.size:=h.low (.inl rfl)
 have hr:c.rb<w.heap.size:=h.low (.inr (.inl rfl))
 refine⟨h1 ▸ ⟨(hg.old _ ha (Ne.symm h.on.1)).trans h.a.o⟩,h2 ▸ E9 h.r (hg.old _ hr (Ne.symm h.on.2)),by rw[h1,h2];exact h.ne,by rw[h3,h4];exact K0 h.vv fun q hq _=>hg.old q (h.low (.inr (.inr (.inl hq)))) (Ne.symm (hvo q hq)),by rw[h5,h6];simpa using hg.row,by rw[h1,h2,h3];exact h.vn,?_⟩
 rw[h1,h2,h5]
 rcases hg.blk with e|⟨g,e,hge⟩
 ·rw[e];exact h.on
 ·rw[e]
  refine⟨fun e2=>?_,fun e2=>?_⟩
  ·have:=Option.some.inj e2;omega
  ·have:=Option.some.inj e2;omega
theorem c0I{c c':u8}{u:Int}{ov':Value}(hg:f8 F w w' c.ov ov' c.c.out u)(h1:c'.ab=c.ab)(h2:c'.rb=c.rb)(h3:c'.vv=c.vv)(h5:c'.ov=ov')(q:Nat)(h:L6 c' q):L6 c q∨w.heap.size≤q:=by
 unfold L6 at h ⊢
 rw[h1,h2,h3,h5]at h
 rcases h with h|h|h|h
 ·exact .inl (.inl h)
 ·exact .inl (.inr (.inl h))
 ·exact .inl (.inr (.inr (.inl h)))
 ·rcases hg.blk with e|⟨g,e,hge⟩
  ·exact .inl (.inr (.inr (.inr (e ▸ h))))
  ·rw[e]at h
   have:=Option.some.inj h
   right;omega
theorem SU.more{s:SS}{c:u8}{u:Int}{ov':Value}(hs:SU lb s w)(hdis:∀q,L6 c q→¬SR lb s q)(hg:f8 F w w' c.ov ov' c.c.out u):SU lb s w':=hs.same fun q hq=>hg.old q (hs.low hq) fun e=>hdis q (.inr (.inr (.inr e.symm))) hq
section
variable{s:SS}{r T i:Nat}{v a:Int}{out vs:List Int}{A A1 A2 A3:Array Value}{ab rb:Nat}{vv ov:Value}
theorem D0r(hJ:SJ lb st s.wb s.wo s.n ⟨⟨3,0,r,T,v,i,out,[],a⟩,A,A1,A2,A3,ab,rb,(.slice none 0 0),ov⟩)(hs:SU lb s w)(hc:b9 ⟨⟨3,0,r,T,v,i,out,[],a⟩,A,A1,A2,A3,ab,rb,(.slice none 0 0),ov⟩ w)(hdis:∀q,L6 ⟨⟨3,0,r,T,v,i,out,[],a⟩,A,A1,A2,A3,ab,rb,(.slice none 0 0),ov⟩ q→¬SR lb s q)(hwf:Wf F w)(hF:∀r,SR lb s r∨L6 ⟨⟨3,0,r,T,v,i,out,[],a⟩,A,A1,A2,A3,ab,rb,(.slice none 0 0),ov⟩ r→F r=none)(b:Frame)(cs:List Frame):
 J0 Try.prog false F ((I3 lb).Out st s (L6 ⟨⟨3,0,r,T,v,i,out,[],a⟩,A,A1,A2,A3,ab,rb,(.slice none 0 0),ov⟩) ((I3 lb).stp s ⟨⟨3,0,r,T,v,i,out,[],a⟩,A,A1,A2,A3,ab,rb,(.slice none 0 0),ov⟩) w (b::cs)) (back (.tuple #[]) ((I3 lb).cf st ⟨⟨3,0,r,T,v,i,out,[],a⟩,A,A1,A2,A3,ab,rb,(.slice none 0 0),ov⟩++b::cs)) w:=by
 have hlb:F lb=none:=hF _ (.inl (.inl rfl))
 have hwb:F s.wb=none:=hF _ (.inl (.inr rfl))
 have hans:∀k,¬held F ⟨ab,k,none⟩:=fun k=>K1 (hF _ (.inr (.inl rfl))) k
 have hrbh:∀k,¬held F ⟨rb,k,none⟩:=fun k=>K1 (hF _ (.inr (.inr (.inl rfl)))) k
 have hn16:=hs.wf.n2
 have hn1:=hs.wf.n1
 have hnn:s.n=s.k.ws.length:=rfl
 have hS:=hJ.s
 obtain⟨_,vT,vr,vi,vvs,vo,vo2,_⟩:=hJ.v
 simp only at vT vr vi vvs vo vo2
 refine K3 (K:=w6) (sa:=⟨st,0,none⟩) ?_
 by_cases e:s.k.ver.tmod 2=0
 ·refine v0f (sv:=Z0 st) (v:=s.k.ver) (by simp[e]) hs.v.c hS fun A1' hA1'=>y01 hs.h fun A' hA'=>J2 (K:=w6) (.stop fun d=>?_)
  exact O6 (st:=st) (c:=⟨⟨3,0,r,T,v,i,out,[],a⟩,A,A1,A2,A3,ab,rb,.slice none 0 0,ov⟩) (c':=⟨⟨3,1,r,T,s.k.ver,0,[],[],a⟩,A',A1',A2,A3,ab,rb,.slice none 0 0,.slice none 0 0⟩) (k':=s.k) (by rfl) hs (by simp[R1.step,R1.rstep,e]) ⟨o0a (by simp) vT vr hn1 (fun _=>rfl) (fun h=>by simp at h),(by exact⟨hA',hA1'⟩),hJ.a,hJ.nvv⟩ (by exact hc.drop rfl rfl rfl rfl rfl rfl) (fun q h=>f0f (c:=⟨⟨3,0,r,T,v,i,out,[],a⟩,A,A1,A2,A3,ab,rb,.slice none 0 0,ov⟩) h rfl rfl rfl rfl) hs hdis d
 ·by_cases h:r+1<T
  ·refine C0v (sv:=Z0 st) (v:=s.k.ver) vT h (by simpa using e) hs.v.c hS fun A1' hA1'=>J2 (K:=w6) (.stop fun d=>?_)
   exact O6 (st:=st) (c:=⟨⟨3,0,r,T,v,i,out,[],a⟩,A,A1,A2,A3,ab,rb,.slice none 0 0,ov⟩) (c':=⟨⟨3,0,(r+1),T,v,i,[],[],a⟩,A,A1',A2,A3,ab,rb,.slice none 0 0,.slice none 0 0⟩) (k':=s.k) (by rfl) hs (by simp[R1.step,R1.rstep,R1.again,e,h]) ⟨o0a (by simp) vT h vi (fun h=>by simp at h) (fun h=>by simp at h),(by exact hA1'),hJ.a,hJ.nvv⟩ (by exact hc.drop rfl rfl rfl rfl rfl rfl) (fun q h=>f0f (c:=⟨⟨3,0,r,T,v,i,out,[],a⟩,A,A1,A2,A3,ab,rb,.slice none 0 0,ov⟩) h rfl rfl rfl rfl) hs hdis d
  ·refine C0w (sv:=Z0 st) (T:=T) (r:=r) (v:=s.k.ver) vT (by omega) (by simpa using e) hs.v.c hS ?_
   refine o0S hc.a hc.r hc.ne hans hrbh hJ.a fun w' hw'=>.stop fun d=>?_
   exact c0H (st:=st) (c:=⟨⟨3,0,r,T,v,i,out,[],a⟩,A,A1,A2,A3,ab,rb,.slice none 0 0,ov⟩) (a:=⟨(false,0,[]),none,0,0⟩) (k':=s.k) (hs.same fun q hq=>hw'.old q (fun e=>hdis q (.inl e) hq) (fun e=>hdis q (.inr (.inl e)) hq)) (by simp[R1.step,R1.rstep,R1.again,e,h]) (World.ownsRow_nil _ _ _ _) (fun q h=>by simp[SA.row,Value.ownBlock]at h) hs hdis d
theorem D0s(hJ:SJ lb st s.wb s.wo s.n ⟨⟨3,1,r,T,v,i,out,[],a⟩,A,A1,A2,A3,ab,rb,(.slice none 0 0),ov⟩)(hs:SU lb s w)(hc:b9 ⟨⟨3,1,r,T,v,i,out,[],a⟩,A,A1,A2,A3,ab,rb,(.slice none 0 0),ov⟩ w)(hdis:∀q,L6 ⟨⟨3,1,r,T,v,i,out,[],a⟩,A,A1,A2,A3,ab,rb,(.slice none 0 0),ov⟩ q→¬SR lb s q)(hwf:Wf F w)(hF:∀r,SR lb s r∨L6 ⟨⟨3,1,r,T,v,i,out,[],a⟩,A,A1,A2,A3,ab,rb,(.slice none 0 0),ov⟩ r→F r=none)(b:Frame)(cs:List Frame):
 J0 Try.prog false F ((I3 lb).Out st s (L6 ⟨⟨3,1,r,T,v,i,out,[],a⟩,A,A1,A2,A3,ab,rb,(.slice none 0 0),ov⟩) ((I3 lb).stp s ⟨⟨3,1,r,T,v,i,out,[],a⟩,A,A1,A2,A3,ab,rb,(.slice none 0 0),ov⟩) w (b::cs)) (back (.tuple #[]) ((I3 lb).cf st ⟨⟨3,1,r,T,v,i,out,[],a⟩,A,A1,A2,A3,ab,rb,(.slice none 0 0),ov⟩++b::cs)) w:=by
 have hlb:F lb=none:=hF _ (.inl (.inl rfl))
 have hwb:F s.wb=none:=hF _ (.inl (.inr rfl))
 have hans:∀k,¬held F ⟨ab,k,none⟩:=fun k=>K1 (hF _ (.inr (.inl rfl))) k
 have hrbh:∀k,¬held F ⟨rb,k,none⟩:=fun k=>K1 (hF _ (.inr (.inr (.inl rfl)))) k
 have hn16:=hs.wf.n2
 have hn1:=hs.wf.n1
 have hnn:s.n=s.k.ws.length:=rfl
 have hS:=hJ.s
 obtain⟨_,vT,vr,vi,vvs,vo,vo2,_⟩:=hJ.v
 simp only at vT vr vi vvs vo vo2
 refine K3 (K:=w6) (sa:=⟨st,0,none⟩) ?_
 have hol:=vo (by simp)
 by_cases e:i+1<s.n
 ·refine y02 (sv:=Z0 st) (xs:=out) hn16 (by omega) (o6 hwf) (Nat.le_refl _) hwf (hs.ws i vi).c hc.ov (fun q hq=>hF q (.inr (.inr (.inr (.inr hq))))) e hS.1 fun ov' w' A' hg hA'=>J2 (K:=w6) (.stop fun d=>?_)
  exact O6 (st:=st) (c:=⟨⟨3,1,r,T,v,i,out,[],a⟩,A,A1,A2,A3,ab,rb,.slice none 0 0,ov⟩) (c':=⟨⟨3,1,r,T,v,(i+1),(out++[s.k.ws.getD i 0]),[],a⟩,A',A1,A2,A3,ab,rb,.slice none 0 0,ov'⟩) (k':=s.k) (by rfl) (hs.more hdis hg) (by simp[R1.step,R1.rstep,e]) ⟨o0a (by simp) vT vr e (fun _=>by simp[hol]) (fun h=>by simp at h),(by exact⟨hA',hS.2⟩),hJ.a,hJ.nvv⟩ (by exact hc.more hg (fun q hq=>by simp[Value.ownBlock]at hq) rfl rfl rfl rfl rfl rfl) (by exact c0I (c:=⟨⟨3,1,r,T,v,i,out,[],a⟩,A,A1,A2,A3,ab,rb,.slice none 0 0,ov⟩) hg rfl rfl rfl rfl) hs hdis d
 ·refine y03 (sv:=Z0 st) (xs:=out) hn16 (by omega) (o6 hwf) (Nat.le_refl _) hwf (hs.ws i vi).c hc.ov (fun q hq=>hF q (.inr (.inr (.inr (.inr hq))))) (by omega) hS.1 fun ov' w' hg=>C0x (sv:=Z0 st) hS.2 fun A1' hA1'=>J2 (K:=w6) (.stop fun d=>?_)
  exact O6 (st:=st) (c:=⟨⟨3,1,r,T,v,i,out,[],a⟩,A,A1,A2,A3,ab,rb,.slice none 0 0,ov⟩) (c':=⟨⟨3,2,r,T,v,i,(out++[s.k.ws.getD i 0]),[],a⟩,A,A1',A2,A3,ab,rb,.slice none 0 0,ov'⟩) (k':=s.k) (by rfl) (hs.more hdis hg) (by simp[R1.step,R1.rstep,e]) ⟨o0a (by simp) vT vr vi (fun h=>by simp at h) (fun _=>by simp;omega),(by exact hA1'),hJ.a,hJ.nvv⟩ (by exact hc.more hg (fun q hq=>by simp[Value.ownBlock]at hq) rfl rfl rfl rfl rfl rfl) (by exact c0I (c:=⟨⟨3,1,r,T,v,i,out,[],a⟩,A,A1,A2,A3,ab,rb,.slice none 0 0,ov⟩) hg rfl rfl rfl rfl) hs hdis d
theorem D0t(hJ:SJ lb st s.wb s.wo s.n ⟨⟨3,2,r,T,v,i,out,[],a⟩,A,A1,A2,A3,ab,rb,(.slice none 0 0),ov⟩)(hs:SU lb s w)(hc:b9 ⟨⟨3,2,r,T,v,i,out,[],a⟩,A,A1,A2,A3,ab,rb,(.slice none 0 0),ov⟩ w)(hdis:∀q,L6 ⟨⟨3,2,r,T,v,i,out,[],a⟩,A,A1,A2,A3,ab,rb,(.slice none 0 0),ov⟩ q→¬SR lb s q)(hwf:Wf F w)(hF:∀r,SR lb s r∨L6 ⟨⟨3,2,r,T,v,i,out,[],a⟩,A,A1,A2,A3,ab,rb,(.slice none 0 0),ov⟩ r→F r=none)(b:Frame)(cs:List Frame):
 J0 Try.prog false F ((I3 lb).Out st s (L6 ⟨⟨3,2,r,T,v,i,out,[],a⟩,A,A1,A2,A3,ab,rb,(.slice none 0 0),ov⟩) ((I3 lb).stp s ⟨⟨3,2,r,T,v,i,out,[],a⟩,A,A1,A2,A3,ab,rb,(.slice none 0 0),ov⟩) w (b::cs)) (back (.tuple #[]) ((I3 lb).cf st ⟨⟨3,2,r,T,v,i,out,[],a⟩,A,A1,A2,A3,ab,rb,(.slice none 0 0),ov⟩++b::cs)) w:=by
 have hlb:F lb=none:=hF _ (.inl (.inl rfl))
 have hwb:F s.wb=none:=hF _ (.inl (.inr rfl))
 have hans:∀k,¬held F ⟨ab,k,none⟩:=fun k=>K1 (hF _ (.inr (.inl rfl))) k
 have hrbh:∀k,¬held F ⟨rb,k,none⟩:=fun k=>K1 (hF _ (.inr (.inr (.inl rfl)))) k
 have hn16:=hs.wf.n2
 have hn1:=hs.wf.n1
 have hnn:s.n=s.k.ws.length:=rfl
 have hS:=hJ.s
 obtain⟨_,vT,vr,vi,vvs,vo,vo2,_⟩:=hJ.v
 simp only at vT vr vi vvs vo vo2
 refine K3 (K:=w6) (sa:=⟨st,0,none⟩) ?_
 obtain⟨la,ll,lc,rfl⟩:∃la ll lc,ov= .slice la ll lc:=F3 hc.ov
 by_cases e:s.k.ver=v
 ·refine v0g (sv:=Z0 st) (u:=s.k.ver) (v:=v) (by simp[e]) hs.v.c hS ?_
  refine o0S hc.a hc.r hc.ne hans hrbh hJ.a fun w' hw'=>.stop fun d=>?_
  exact c0H (st:=st) (c:=⟨⟨3,2,r,T,v,i,out,[],a⟩,A,A1,A2,A3,ab,rb,.slice none 0 0,.slice la ll lc⟩) (a:=⟨(true,0,out),la,ll,lc⟩) (k':=s.k) (hs.same fun q hq=>hw'.old q (fun e=>hdis q (.inl e) hq) (fun e=>hdis q (.inr (.inl e)) hq)) (by simp[R1.step,R1.rstep,e]) (K0 hc.ov fun q hq _=>hw'.old q (fun e=>hc.on.1 (e ▸ hq)) (fun e=>hc.on.2 (e ▸ hq))) (fun q h=>.inl (.inr (.inr (.inr h)))) hs hdis d
 ·by_cases h:r+1<T
  ·refine C0y (sv:=Z0 st) (u:=s.k.ver) (v:=v) vT h (by simp[e]) hs.v.c hS fun A1' hA1'=>J2 (K:=w6) (.stop fun d=>?_)
   exact O6 (st:=st) (c:=⟨⟨3,2,r,T,v,i,out,[],a⟩,A,A1,A2,A3,ab,rb,.slice none 0 0,.slice la ll lc⟩) (c':=⟨⟨3,0,(r+1),T,v,i,[],[],a⟩,A,A1',A2,A3,ab,rb,.slice none 0 0,.slice none 0 0⟩) (k':=s.k) (by rfl) hs (by simp[R1.step,R1.rstep,R1.again,e,h]) ⟨o0a (by simp) vT h vi (fun h=>by simp at h) (fun h=>by simp at h),(by exact hA1'),hJ.a,hJ.nvv⟩ (by exact hc.drop rfl rfl rfl rfl rfl rfl) (fun q h=>f0f (c:=⟨⟨3,2,r,T,v,i,out,[],a⟩,A,A1,A2,A3,ab,rb,.slice none 0 0,.slice la ll lc⟩) h rfl rfl rfl rfl) hs hdis d
  ·refine C0z (sv:=Z0 st) (T:=T) (r:=r) (u:=s.k.ver) (v:=v) vT (by omega) (by simp[e]) hs.v.c hS ?_
   refine o0S hc.a hc.r hc.ne hans hrbh hJ.a fun w' hw'=>.stop fun d=>?_
   exact c0H (st:=st) (c:=⟨⟨3,2,r,T,v,i,out,[],a⟩,A,A1,A2,A3,ab,rb,.slice none 0 0,.slice la ll lc⟩) (a:=⟨(false,0,[]),none,0,0⟩) (k':=s.k) (hs.same fun q hq=>hw'.old q (fun e=>hdis q (.inl e) hq) (fun e=>hdis q (.inr (.inl e)) hq)) (by simp[R1.step,R1.rstep,R1.again,e,h]) (World.ownsRow_nil _ _ _ _) (fun q h=>by simp[SA.row,Value.ownBlock]at h) hs hdis d
theorem D0u(hJ:SJ lb st s.wb s.wo s.n ⟨⟨4,1,r,T,v,i,out,[],a⟩,A,A1,A2,A3,ab,rb,(.slice none 0 0),ov⟩)(hs:SU lb s w)(hc:b9 ⟨⟨4,1,r,T,v,i,out,[],a⟩,A,A1,A2,A3,ab,rb,(.slice none 0 0),ov⟩ w)(hdis:∀q,L6 ⟨⟨4,1,r,T,v,i,out,[],a⟩,A,A1,A2,A3,ab,rb,(.slice none 0 0),ov⟩ q→¬SR lb s q)(hwf:Wf F w)(hF:∀r,SR lb s r∨L6 ⟨⟨4,1,r,T,v,i,out,[],a⟩,A,A1,A2,A3,ab,rb,(.slice none 0 0),ov⟩ r→F r=none)(b:Frame)(cs:List Frame):
 J0 Try.prog false F ((I3 lb).Out st s (L6 ⟨⟨4,1,r,T,v,i,out,[],a⟩,A,A1,A2,A3,ab,rb,(.slice none 0 0),ov⟩) ((I3 lb).stp s ⟨⟨4,1,r,T,v,i,out,[],a⟩,A,A1,A2,A3,ab,rb,(.slice none 0 0),ov⟩) w (b::cs)) (back (.tuple #[]) ((I3 lb).cf st ⟨⟨4,1,r,T,v,i,out,[],a⟩,A,A1,A2,A3,ab,rb,(.slice none 0 0),ov⟩++b::cs)) w:=by
 have hlb:F lb=none:=hF _ (.inl (.inl rfl))
 have hwb:F s.wb=none:=hF _ (.inl (.inr rfl))
 have hans:∀k,¬held F ⟨ab,k,none⟩:=fun k=>K1 (hF _ (.inr (.inl rfl))) k
 have hrbh:∀k,¬held F ⟨rb,k,none⟩:=fun k=>K1 (hF _ (.inr (.inr (.inl rfl)))) k
 have hn16:=hs.wf.n2
 have hn1:=hs.wf.n1
 have hnn:s.n=s.k.ws.length:=rfl
 have hS:=hJ.s
 obtain⟨_,vT,vr,vi,vvs,vo,vo2,_⟩:=hJ.v
 simp only at vT vr vi vvs vo vo2
 refine K3 (K:=w6) (sa:=⟨st,0,none⟩) ?_
 have hol:=vo (by simp)
 by_cases e:i+1<s.n
 ·refine y02 (sv:=Z0 st) (xs:=out) hn16 (by omega) (o6 hwf) (Nat.le_refl _) hwf (hs.ws i vi).c hc.ov (fun q hq=>hF q (.inr (.inr (.inr (.inr hq))))) e hS fun ov' w' A' hg hA'=>J2 (K:=w6) (.stop fun d=>?_)
  exact O6 (st:=st) (c:=⟨⟨4,1,r,T,v,i,out,[],a⟩,A,A1,A2,A3,ab,rb,.slice none 0 0,ov⟩) (c':=⟨⟨4,1,r,T,v,(i+1),(out++[s.k.ws.getD i 0]),[],a⟩,A',A1,A2,A3,ab,rb,.slice none 0 0,ov'⟩) (k':=s.k) (by rfl) (hs.more hdis hg) (by simp[R1.step,e]) ⟨o0a (by simp) vT vr e (fun _=>by simp[hol]) (fun h=>by simp at h),(by exact hA'),hJ.a,hJ.nvv⟩ (by exact hc.more hg (fun q hq=>by simp[Value.ownBlock]at hq) rfl rfl rfl rfl rfl rfl) (by exact c0I (c:=⟨⟨4,1,r,T,v,i,out,[],a⟩,A,A1,A2,A3,ab,rb,.slice none 0 0,ov⟩) hg rfl rfl rfl rfl) hs hdis d
 ·refine y03 (sv:=Z0 st) (xs:=out) hn16 (by omega) (o6 hwf) (Nat.le_refl _) hwf (hs.ws i vi).c hc.ov (fun q hq=>hF q (.inr (.inr (.inr (.inr hq))))) (by omega) hS fun ov' w1 hg=>?_
  have hcu:b9 ⟨⟨4,1,r,T,v,i,(out++[s.k.ws.getD i 0]),[],a⟩,A,A1,A2,A3,ab,rb,.slice none 0 0,ov'⟩ w1:=hc.more hg (fun q hq=>by simp[Value.ownBlock]at hq) rfl rfl rfl rfl rfl rfl
  obtain⟨la,ll,lc,hov⟩:∃la ll lc,ov'= .slice la ll lc:=F3 hcu.ov
  subst hov
  refine A0H hcu.a hcu.r hcu.ne hans hrbh hJ.a fun w' hw'=>.stop fun d=>?_
  exact c0H (st:=st) (c:=⟨⟨4,1,r,T,v,i,out,[],a⟩,A,A1,A2,A3,ab,rb,.slice none 0 0,ov⟩) (a:=⟨(true,0,out++[s.k.ws.getD i 0]),la,ll,lc⟩) (k':=s.k) ((hs.more hdis hg).same fun q hq=>hw'.old q (fun e=>hdis q (.inl e) hq) (fun e=>hdis q (.inr (.inl e)) hq)) (by simp[R1.step,e]) (K0 hcu.ov fun q hq _=>hw'.old q (fun e=>hcu.on.1 (e ▸ hq)) (fun e=>hcu.on.2 (e ▸ hq))) (fun q h=>c0I (c:=⟨⟨4,1,r,T,v,i,out,[],a⟩,A,A1,A2,A3,ab,rb,.slice none 0 0,ov⟩) (c':=⟨⟨4,1,r,T,v,i,(out++[s.k.ws.getD i 0]),[],a⟩,A,A1,A2,A3,ab,rb,.slice none 0 0,.slice la ll lc⟩) hg rfl rfl rfl rfl q (.inr (.inr (.inr h)))) hs hdis d
theorem D0v(hJ:SJ lb st s.wb s.wo s.n ⟨⟨5,0,r,T,v,i,out,[],a⟩,A,A1,A2,A3,ab,rb,(.slice none 0 0),ov⟩)(hs:SU lb s w)(hc:b9 ⟨⟨5,0,r,T,v,i,out,[],a⟩,A,A1,A2,A3,ab,rb,(.slice none 0 0),ov⟩ w)(hdis:∀q,L6 ⟨⟨5,0,r,T,v,i,out,[],a⟩,A,A1,A2,A3,ab,rb,(.slice none 0 0),ov⟩ q→¬SR lb s q)(hwf:Wf F w)(hF:∀r,SR lb s r∨L6 ⟨⟨5,0,r,T,v,i,out,[],a⟩,A,A1,A2,A3,ab,rb,(.slice none 0 0),ov⟩ r→F r=none)(b:Frame)(cs:List Frame):
 J0 Try.prog false F ((I3 lb).Out st s (L6 ⟨⟨5,0,r,T,v,i,out,[],a⟩,A,A1,A2,A3,ab,rb,(.slice none 0 0),ov⟩) ((I3 lb).stp s ⟨⟨5,0,r,T,v,i,out,[],a⟩,A,A1,A2,A3,ab,rb,(.slice none 0 0),ov⟩) w (b::cs)) (back (.tuple #[]) ((I3 lb).cf st ⟨⟨5,0,r,T,v,i,out,[],a⟩,A,A1,A2,A3,ab,rb,(.slice none 0 0),ov⟩++b::cs)) w:=by
 have hlb:F lb=none:=hF _ (.inl (.inl rfl))
 have hwb:F s.wb=none:=hF _ (.inl (.inr rfl))
 have hans:∀k,¬held F ⟨ab,k,none⟩:=fun k=>K1 (hF _ (.inr (.inl rfl))) k
 have hrbh:∀k,¬held F ⟨rb,k,none⟩:=fun k=>K1 (hF _ (.inr (.inr (.inl rfl)))) k
 have hn16:=hs.wf.n2
 have hn1:=hs.wf.n1
 have hnn:s.n=s.k.ws.length:=rfl
 have hS:=hJ.s
 obtain⟨_,vT,vr,vi,vvs,vo,vo2,_⟩:=hJ.v
 simp only at vT vr vi vvs vo vo2
 refine K3 (K:=w6) (sa:=⟨st,0,none⟩) ?_
 refine B0x (sv:=Z0 st) (v:=s.k.ver) hs.v.c hS ?_
 refine A0I hc.a hc.r hc.ne hans hrbh hJ.a fun w' hw'=>.stop fun d=>?_
 exact c0H (st:=st) (c:=⟨⟨5,0,r,T,v,i,out,[],a⟩,A,A1,A2,A3,ab,rb,.slice none 0 0,ov⟩) (a:=⟨(decide (a<s.k.ver),s.k.ver,[]),none,0,0⟩) (k':=s.k) (hs.same fun q hq=>hw'.old q (fun e=>hdis q (.inl e) hq) (fun e=>hdis q (.inr (.inl e)) hq)) (by simp[R1.step]) (World.ownsRow_nil _ _ _ _) (fun q h=>by simp[SA.row,Value.ownBlock]at h) hs hdis d
end
end
section
variable{F:Fz}{w w':World}{lb st:Nat}
theorem k0J(s:R1)(o:P3):(s.begin o).1.ws.length=s.ws.length:=by
 unfold R1.begin
 repeat' split
 all_goals rfl
theorem t00(lb:Nat):(I3 lb).Ok where
 call:=j04
 jb:=fun st s s' c i o r h hb=>by
  obtain⟨e1,e2,e3⟩:=hb
  have e:s'.n=s.n:=(congrArg (fun x:R1×SRs=>x.1.ws.length) e3).trans (k0J _ _)
  show SJ lb st s'.wb s'.wo s'.n c
  rw[e,e1,e2]
  exact h
 js:=fun st s s' c c1 r h hb=>by
  obtain⟨e1,e2,e3⟩:=hb
  have e:s'.n=s.n:=(congrArg (fun x:R1×SRs=>x.1.ws.length) e3).trans (c09 _ _)
  show SJ lb st s'.wb s'.wo s'.n c
  rw[e,e1,e2]
  exact h
 plain:=by
  intro st c
  refine⟨by simp[I3],fun u hu=>?_⟩
  have hu:u∈j0E w6 ⟨st,0,none⟩::c.fr:=hu
  rcases List.mem_cons.1 hu with rfl|hu
  ·exact I5 ⟨_,Try.func61⟩ _ _
  ·unfold u8.fr at hu
   split at hu<;>
   ·simp only[List.mem_cons,List.mem_nil_iff,or_false,List.not_mem_nil]at hu
    repeat'(rcases hu with rfl|hu)
    all_goals first
     | exact I5 ⟨_,Try.func89⟩ _ _
     | exact I5 ⟨_,Try.func56⟩ _ _
     | exact I5 ⟨_,Try.func24⟩ _ _
     | exact I5 ⟨_,Try.func25⟩ _ _
     | exact I5 ⟨_,Try.func26⟩ _ _
     | exact I5 ⟨_,Try.func27⟩ _ _
     | exact I5 ⟨_,Try.func28⟩ _ _
     | exact I5 ⟨_,Try.func48⟩ _ _
     | (subst hu
        exact I5 ⟨_,Try.func48⟩ _ _)
 sS:=fun s w w' h _ hs=>SU.same h hs
 sC:=fun c w w' h _ hs=>b9.same h hs
 sA:=fun a w w' h _ hs=>K0 h fun q hq _=>hs q hq
 lS:=fun s w r h hr=>SU.low h hr
 lC:=fun c w r h hr=>b9.low h hr
 lA:=fun a w r h hr=>b0m h hr
 beg:=by
  intro s i o st F w c cs hs hwf hF
  obtain⟨kd,a,b0,c0⟩:=o
  by_cases h1:kd=1
  ·subst h1
   exact y07 hs hwf c cs
  ·by_cases h2:kd=2
   ·subst h2
    exact y08 hs hwf c cs
   ·by_cases h3:kd=3
    ·subst h3
     exact y09 hs hwf c cs
    ·by_cases h4:kd=4
     ·subst h4
      exact z0a hs hwf c cs
     ·by_cases h5:kd=5
      ·subst h5
       exact z0b hs hwf c cs
      ·exact k0I h1 h2 h3 h4 h5 hs hwf c cs
 stp:=by
  intro s c st F w b cs hJ hs hc hdis hwf hF
  obtain⟨⟨kd,ph,r,T,v,i,out,vs,a⟩,A,A1,A2,A3,ab,rb,vv,ov⟩:=c
  have hJ:SJ lb st s.wb s.wo s.n ⟨⟨kd,ph,r,T,v,i,out,vs,a⟩,A,A1,A2,A3,ab,rb,vv,ov⟩:=hJ
  have hpc:=hJ.v.pc
  simp only[List.mem_cons,Prod.mk.injEq,List.not_mem_nil,or_false]at hpc
  rcases hpc with⟨rfl,rfl⟩|⟨rfl,rfl⟩|⟨rfl,rfl⟩|⟨rfl,rfl⟩|⟨rfl,rfl⟩|⟨rfl,rfl⟩|⟨rfl,rfl⟩|⟨rfl,rfl⟩|⟨rfl,rfl⟩|⟨rfl,rfl⟩|⟨rfl,rfl⟩|⟨rfl,rfl⟩|⟨rfl,rfl⟩
  ·exact D0j hJ hs hc hdis hwf hF b cs
  ·exact D0k hJ hs hc hdis hwf hF b cs
  ·exact D0l hJ hs hc hdis hwf hF b cs
  ·exact D0m hJ hs hc hdis hwf hF b cs
  ·exact D0n hJ hs hc hdis hwf hF b cs
  ·exact D0o hJ hs hc hdis hwf hF b cs
  ·exact D0p hJ hs hc hdis hwf hF b cs
  ·exact D0q hJ hs hc hdis hwf hF b cs
  ·obtain rfl:=hJ.v.nv (by simp)
   obtain rfl:=hJ.nvv (by simp)
   exact D0r hJ hs hc hdis hwf hF b cs
  ·obtain rfl:=hJ.v.nv (by simp)
   obtain rfl:=hJ.nvv (by simp)
   exact D0s hJ hs hc hdis hwf hF b cs
  ·obtain rfl:=hJ.v.nv (by simp)
   obtain rfl:=hJ.nvv (by simp)
   exact D0t hJ hs hc hdis hwf hF b cs
  ·obtain rfl:=hJ.v.nv (by simp)
   obtain rfl:=hJ.nvv (by simp)
   exact D0u hJ hs hc hdis hwf hF b cs
  ·obtain rfl:=hJ.v.nv (by simp)
   obtain rfl:=hJ.nvv (by simp)
   exact D0v hJ hs hc hdis hwf hF b cs
end
section
variable{P:Program}
theorem m0T(w:World):Wf F0 w:=⟨fun r z h=>by cases h⟩
theorem m0d{fn:Func}{t:Array Value}{w:World}{τ:Tape}{e:Nat}{v:Value}(h:(results fn t).run P (retape w τ e)= .ok v (retape w τ e))(d:Nat):
 (results fn t).run P (w.at d)= .ok v (w.at d)∧∀x∈(results fn t).events P (w.at d) #[],J9 F0 x:=by
 obtain⟨w1,es,j,hu,r1,e1,t1,g1,hw1,l1⟩:=(a0i (P:=P) (F:=F0) fn t (retape w τ e) (m0T _)).ok (by rw[p6 (fun _=>rfl)];exact h)
 rw[p6 (fun _=>rfl)]at hu
 subst hu
 have hj:j=0:=by
  have:=g1.drawn
  omega
 subst hj
 have h2:=l1 (w.at d).tape (w.at d).drawn (by intro i q hi;omega)
 rw[p6 (fun _=>rfl)]at h2
 have h3:(results fn t).run P (w.at d)= .ok v (w.at d):=h2
 refine⟨h3,fun x hx=>?_⟩
 obtain⟨w2,es2,j2,hu2,r2,e2,t2,g2,hw2,l2⟩:=(a0i (P:=P) (F:=F0) fn t (w.at d) (m0T _)).ok (by rw[p6 (fun _=>rfl)];exact h3)
 rw[e2]at hx
 exact t2 x (by simpa using hx)
theorem N7{S:FuncId→Bool}(hC:Z5 P S true)(hE:P7 P){f:Nat}{fn:Func}{c:Code}(hf:P.funcs[f]? =some fn)(hb:fn.body=some c)(hc:Q5 P S true c=true){args:Array Value}{w:World}{R:Value→World→Prop}
 (H:∀τ e,Y6 P fn args (retape w τ e) R) {cl:Frame} {cs:List Frame} {main:Bool} {Stop:Goroutine→World→Prop}
 (K:∀v w' τ e,R v (retape w' τ e)→Gd F0 w w'→J0 P main F0 Stop (G (cl.finish v) cs) w'):J0 P main F0 Stop (G (Frame.enter P f args .normal) (cl::cs)) w:=by
 let b:Frame:={(default:Frame)with fn:=f,kind:=.normal}
 have henter:Frame.enter P f args .normal=b.at {tmps:=args++Array.replicate (fn.ntmps - args.size) undef,defers:=[]} [.code c]:=by
  simp[Frame.enter,Frame.at,hf,hb,b]
 rw[henter]
 have back:∀(a':Act) (w':World) (t':List Item) (τ:Tape) (e:Nat),a'.defers=[]→(∃v,(results fn a'.tmps).run P (retape (L1 F0 w') τ e)= .ok v (retape (L1 F0 w') τ e)∧∃v',Ending.returned v= .returned v'∧R v' (retape (L1 F0 w') τ e))→Gd F0 w w'→
  J0 P main F0 Stop (G {b.at a' t' with mode:=.returning} (cl::cs)) w':=fun a' w' t' τ e hd ⟨v,h1,v',h2,h3⟩ hg=>by
  cases h2
  rw[p6 (fun _=>rfl)]at h1 h3
  exact p4 rfl hd hf (fun d=>(m0d h1 d).1) (fun d x hx=>(m0d h1 d).2 x hx) (K _ _ τ e h3 hg)
 refine x0A (Q:=bodyPost P fn fun x w'=>∃v,x= .returned v∧R v w') hC (fun _ _=>rfl) hE hc (m0T w) rfl (fun e a w hq=>?_) (fun τ e=>?_) (by simp[b]) (fun a' w' τ e hq _ hg=>?_) (fun a' w' τ e t' hq _ hg=>?_)
 ·cases e with
  | normal=>exact .inl rfl
  | ret=>exact .inr ⟨rfl,hq.1⟩
  | panic ch=>obtain⟨_,v,h,_⟩:=hq;cases h
  | outgrown=>obtain⟨v,h,_⟩:=hq;cases h
  | exit _=>exact hq.elim
  | goto _=>exact hq.elim
 ·rw[p6 (fun _=>rfl)]
  exact H τ e c hb
 ·obtain⟨hd,h⟩:=hq
  have:b.at a' []=b.at ⟨a'.tmps,[]⟩ []:=by rw[← hd]
  rw[this]
  refine Q0 rfl (fun d=>stepG_end) ?_
  exact back ⟨a'.tmps,[]⟩ w' [] τ e rfl h hg
 ·obtain⟨hd,h⟩:=hq
  exact back a' w' _ τ e hd h hg
def codeOkF(P:Program)(S:FuncId→Bool)(f:FuncId):Bool:=match P.funcs[f]? with
 | some fn => !(fn.name == "runtime.NumGoroutine") && match fn.body with
   | some c=>Q5 P S true c
   | none=>false
 | none=>false
theorem k0b {P : Program} {S : FuncId → Bool} {f : FuncId} (h : codeOkF P S f = true) : ∃ fn, P.funcs[f]? = some fn ∧ (fn.name == "runtime.NumGoroutine") = false ∧ ∃ c, fn.body = some c ∧ Q5 P S true c = true := by
 unfold codeOkF at h
 split at h
 ·rename_i fn hf
  rw[Bool.and_eq_true]at h
  obtain⟨h1,h2⟩:=h
  split at h2
  ·rename_i c hc
   exact⟨fn,hf,by simpa using h1,c,hc,h2⟩
  ·cases h2
 ·cases h
theorem n0R{S:FuncId→Bool}(hC:Z5 P S true)(hE:P7 P){c:Code}(hc:Q5 P S true c=true){A:Array Value}{w:World}{R:Array Value→World→Prop}{b:Frame}{k:List Item}(hk:b.kind≠.early)
 (H:∀τ e,c.wp P (F7 fun a w=>a.defers=[]∧R a.tmps w) ⟨A,[]⟩ (retape w τ e)) {cs:List Frame} {main:Bool} {Stop:Goroutine→World→Prop}
 (K:∀A' w' τ e,R A' (retape w' τ e)→Gd F0 w w'→J0 P main F0 Stop (G (b.at ⟨A',[]⟩ k) cs) w'):J0 P main F0 Stop (G (b.at ⟨A,[]⟩ (.code c::k)) cs) w:=by
 refine x0A (Q:=F7 fun a w=>a.defers=[]∧R a.tmps w) hC (fun _ _=>rfl) hE hc (m0T w) rfl (fun e a w hq=>?_) (fun τ e=>?_) hk (fun a' w' τ e hq _ hg=>?_) (fun a' w' τ e t' hq _ hg=>?_)
 ·cases e with
  | normal=>exact .inl rfl
  | _=>exact hq.elim
 ·rw[p6 (fun _=>rfl)]
  exact H τ e
 ·obtain⟨hd,h⟩:=hq
  rw[p6 (fun _=>rfl)]at h
  obtain⟨tm,df⟩:=a'
  simp only at hd
  subst hd
  exact K tm w' τ e h hg
 ·exact hq.elim
end
noncomputable section
variable {cs:List Frame}{main:Bool}{Stop:Goroutine→World→Prop}
variable{F:Fz}{w:World}
def F4:Code:=Try.f81.body.getD .skip
def E0m:=pC [] F4
def A0v:=pC [zt] F4
def A0E:=pC [zf] F4
def A0w:=pC [zf,zt] F4
def s0d:=pC [zf] A0E
def A0x:=pC [zf,zf,zt] F4
def A0F:=pC [zf] s0d
def A0y:=pC [zf,zf,zf,zt] F4
def x0c:=pC [zf] A0F
def A0G:=pC [zt] x0c
def A0z:=pC [zf,zf,zf,zf,zt,zt] F4
def w08:=pC [zf] A0G
def x0a:=pC [zt] w08
def c0q:=pC [zt] x0a
def s0c:=pC [zf,zf,zf,zf,zt,zf,zt,zt,zt] F4
def s0e:=pC [zf] c0q
def u0E:=pC [zt] s0e
def x0d:=pC [zf] s0e
def w09:=pC [zt] x0d
def u0F:=pC [zt] w09
def A0A:=pC [zf,zf,zf,zf,zt,zf,zt,zt,zf,zf,zt,zt,zt] F4
def u0G:=pC [zf] u0F
def i0E:=pC [zf,zf,zf,zf,zt,zf,zt,zt,zf,zf,zt,zt,zf,zt] F4
def o0R:=pC [zf,zf,zf,zf,zt,zf,zt,zt,zf,zf,zt,zt,zf,zf] F4
def m05:=pC [zf,zf,zf,zf,zt,zf,zt,zt,zf,zf,zf] F4
def d0o:=pC [zf] x0c
def c0p:=pC [zf,zf,zf,zf,zf,zt] F4
theorem A0s:w08= .block 0 x0a:=by kernel_rfl
theorem A0u:x0a= .loop c0q:=by kernel_rfl
theorem A0t:w09= .block 1 u0F:=by kernel_rfl
theorem A0B:i0E= .region 7 (oC i0E) true:=by kernel_rfl
theorem A0C:o0R= .region 8 (oC o0R) false:=by kernel_rfl
theorem A0D:m05= .region 9 (oC m05) false:=by kernel_rfl
theorem x0b:c0p= .region 10 (oC c0p) true:=by kernel_rfl
theorem o0V(args:Array Value):Frame.enter Try.prog 81 args .normal=(Go.Conc.base 81).at {tmps:=args++Array.replicate (38 - args.size) undef,defers:=[]} [.code E0m]:=enter_at args Try.func81 rfl
theorem j07:O1 81:=G2 Try.func81 rfl rfl
def diT(s:Nat→Value):Array Value:= #[s 0,s 1,s 2,s 3,s 4,s 5,s 6,s 7,s 8,s 9,s 10,s 11,s 12,s 13,s 14,s 15,s 16,s 17,s 18,s 19,s 20,s 21,s 22,s 23,s 24,s 25,s 26,s 27,s 28,s 29,s 30,s 31,s 32,s 33,s 34,s 35,s 36,s 37]
theorem E0e{A:Array Value}(h:A.size=38):∃s,A=diT s:=by
 obtain⟨s,hs,_⟩:=Y4 A h
 exact⟨s,hs⟩
theorem p0f:∃i,Try.prog.info? 42=some i∧i.zero=some (.slice none 0 0)∧i.size=1∧i.bytes=24:=by
 have h:(Try.prog.info? 42).map (fun i=>(i.size,i.bytes))=some (1,24):=by kernel_rfl
 have h0:(Try.prog.info? 42).bind (·.zero)=some (.slice none 0 0):=by kernel_rfl
 obtain⟨i,hi,h1⟩:=Option.map_eq_some_iff.1 h
 rw[hi]at h0
 simp only[Prod.mk.injEq]at h1
 exact⟨i,hi,h0,h1.1,h1.2⟩
section
variable{n:Nat}{es:Array Event}
@[go_sem] theorem z0G(h:n≤64):(Instr.makeSlice 29 (vI n) (vI n)).run Try.prog w= .ok (vL w.heap.size 0 n n) (w.alloc (.cells (madeCells #[.slice none 0 0] n) 42)):=by
 obtain⟨i,hi,hz,hs,hb⟩:=p0f
 have:=run_make (P:=Try.prog) w 29 42 i (.slice none 0 0) Try.underlying29 hi hz .i64 .i64 n n (by omega) (by omega) (by rw[hb];omega) (by omega)
 rw[hs]at this
 simpa [Value.cells]using this
@[go_sem] theorem k0q(h:n≤64):(Instr.makeSlice 29 (vI n) (vI n)).events Try.prog w es=es:=by
 obtain⟨i,hi,hz,hs,hb⟩:=p0f
 exact events_make (P:=Try.prog) w 29 42 i (.slice none 0 0) Try.underlying29 hi hz .i64 .i64 n n (by omega) (by omega) (by rw[hb];omega) (by omega) (by rw[hb];omega) es
end
theorem n04(X:World)(u v:Value):(X.alloc (.cells #[u] 29)).setCell ⟨X.heap.size,0,none⟩ v=X.alloc (.cells #[v] 29):=by go_simp
theorem E0f{nn:Nat}(hU:P2 F nn)(hn:nn≤w.heap.size){ta:Option Addr}{tl tc n df:Nat}{first capt:Array Value}(hn1:min tl 64=n)
 (h:∀A,G0 38 A [(0,.slice ta tl tc),(3,vP w.heap.size 0),(6,vI n)]→J0 Try.prog main F Stop (G (bA 81 A [.code s0d]) cs) (w.alloc (.cells #[.func (.func df) first capt] 98))):
 J0 Try.prog main F Stop (G (Frame.enter Try.prog 81 #[.slice ta tl tc,.func (.func df) first capt] .normal) cs) w:=by
 have hn2:(if(64:Int)<(tl:Int)then(64:Int)else tl)=(n:Int):=by split<;>omega
 rw[o0V]
 walk_nrm
 refine ogW A0v A0E ?_
 simp only[A0v,F4,Try.f81,zz,Nat.reduceAdd]
 refine oA hU ?_
 iterate 2 refine oT ?_
 refine S0<|ogW A0w s0d ?_
 simp only[A0w,F4,Try.f81,zz,Nat.reduceAdd]
 iterate 4 refine oT ?_
 refine S0 ?_
 refine h _ ?_
 exact⟨rfl,rfl,rfl,rfl,trivial⟩
theorem E0g{nn:Nat}(hU:P2 F nn)(hn:nn≤w.heap.size){ta:Option Addr}{tl tc n db:Nat}(hn64:n≤64){A:Array Value}(hA:G0 38 A [(0,.slice ta tl tc),(3,vP db 0),(6,vI n)])
 (h:∀A,G0 38 A [(0,.slice ta tl tc),(3,vP db 0),(6,vI n),(7,vP (w.heap.size+1) 0),(8,.slice none 0 0),(16,vI n),(17,vI (0:Nat))]→J0 Try.prog main F Stop (G (bA 81 A [.code c0q,.inLoop c0q,.inBlock 0,.code d0o]) cs) ((w.alloc (.cells (madeCells #[.slice none 0 0] n) 42)).alloc (.cells #[vL w.heap.size 0 n n] 29))):
 J0 Try.prog main F Stop (G (bA 81 A [.code s0d]) cs) w:=by
 obtain⟨s,rfl,h0,h3,h6,_⟩:=Y3 diT hA
 simp only[diT,h0,h3,h6]
 clear h0 h3 h6
 refine ogW A0x A0F ?_
 simp only[A0x,F4,Try.f81,zz,Nat.reduceAdd]
 refine oT ?_
 (refine oW fun dd K hK=>?_;go_simp;refine hK _ _ ⟨⟨⟨0,P0 hU (by first|(simp[go_sem];done)|(simp[go_sem];omega)) _⟩,fun e he=>by(have hm:=mem_listed he;clear he hK;simp[go_sem,storedEv,k0q hn64]at hm)⟩,?_⟩;clear hK K;rw[alloc_at'];refine J0.at ?_ dd)
 refine oA hU ?_
 (refine oW fun dd K hK=>?_;go_simp;refine qS hK hU ?_;clear hK K)
 have e1:=n04 (w.alloc (.cells (madeCells #[.slice none 0 0] n) 42)) (.slice none 0 0) (vL w.heap.size 0 n n)
 simp only[World.size_alloc]at e1
 rw[e1]
 clear e1
 refine S0<|ogW A0y x0c ?_
 simp only[A0y,F4,Try.f81,zz,Nat.reduceAdd]
 refine oT ?_
 refine S0<|ogV A0G d0o<|ogW A0z w08 ?_
 simp only[A0z,F4,Try.f81,zz,Nat.reduceAdd]
 iterate 2 refine oT ?_
 refine S0 ?_
 rw[A0s]
 refine L7 ?_
 rw[A0u]
 refine ogP ?_
 refine h _ ?_
 exact⟨rfl,rfl,rfl,rfl,rfl,rfl,rfl,rfl,trivial⟩
theorem E0k{ta:Option Addr}{tl tc n db av:Nat}{l:Value}{A:Array Value}(hA:G0 38 A [(0,.slice ta tl tc),(3,vP db 0),(6,vI n),(7,vP av 0),(8,l),(16,vI n),(17,vI n)])
 (h:∀A,G0 38 A [(0,.slice ta tl tc),(3,vP db 0),(6,vI n),(7,vP av 0),(8,l),(16,vI n),(17,vI n)]→J0 Try.prog main F Stop (G (bA 81 A [.code c0p,.code .ret]) cs) w):
 J0 Try.prog main F Stop (G (bA 81 A [.code c0q,.inLoop c0q,.inBlock 0,.code d0o]) cs) w:=by
 obtain⟨s,rfl,h0,h3,h6,h7,h8,h16,h17,_⟩:=Y3 diT hA
 simp only[diT,h0,h3,h6,h7,h8,h16,h17]
 clear h0 h3 h6 h7 h8 h16 h17
 have hlt:decide ((n:Int)<(n:Int))=false:=by simp
 refine ogW s0c s0e ?_
 simp only[s0c,F4,Try.f81,zz,Nat.reduceAdd]
 refine oT ?_
 refine S0<|ogV u0E x0d<|ogGn (.exit 0) ?_
 refine Q0 rfl (fun d=>stepG_exit rfl) ?_
 refine ogV c0p .ret ?_
 refine h _ ?_
 exact⟨rfl,rfl,rfl,rfl,rfl,rfl,rfl,rfl,trivial⟩
theorem E0h{nn:Nat}(hU:P2 F nn)(hn:nn≤w.heap.size){ta:Option Addr}{tl tc n db av k:Nat}{l:Value}(hk:k<n){A:Array Value}(hA:G0 38 A [(0,.slice ta tl tc),(3,vP db 0),(6,vI n),(7,vP av 0),(8,l),(16,vI n),(17,vI k)])
 (h:∀A,G0 38 A ((9,vP w.heap.size 0)::[(0,.slice ta tl tc),(3,vP db 0),(6,vI n),(7,vP av 0),(8,l),(16,vI n),(17,vI k)])→J0 Try.prog main F Stop (G (bA 81 A [.code u0G,.inBlock 1,.code m05,.inLoop c0q,.inBlock 0,.code d0o]) cs) (w.alloc (.cells #[vI k] 3))):
 J0 Try.prog main F Stop (G (bA 81 A [.code c0q,.inLoop c0q,.inBlock 0,.code d0o]) cs) w:=by
 obtain⟨s,rfl,h0,h3,h6,h7,h8,h16,h17,_⟩:=Y3 diT hA
 simp only[diT,h0,h3,h6,h7,h8,h16,h17]
 clear h0 h3 h6 h7 h8 h16 h17
 have hlt:decide ((k:Int)<(n:Int))=true:=by simp;omega
 have hlt2:decide (k<n)=true:=by simp;omega
 refine ogW s0c s0e ?_
 simp only[s0c,F4,Try.f81,zz,Nat.reduceAdd]
 refine oT ?_
 refine S0<|ogV u0E x0d<|ogYn .skip<|ogK<|ogV w09 m05 ?_
 rw[A0t]
 refine L7<|ogW A0A u0G ?_
 simp only[A0A,F4,Try.f81,zz,Nat.reduceAdd]
 refine oT ?_
 refine oA hU ?_
 (refine oW fun dd K hK=>?_;go_simp;refine qS hK hU ?_;clear hK K)
 rw[d06]
 refine S0 ?_
 refine h _ ?_
 exact⟨rfl,rfl,rfl,rfl,rfl,rfl,rfl,rfl,rfl,trivial⟩
end
section
variable{F:Fz}{w:World}
structure SD(nn ib tb o k ol oc:Nat)(oa:Option Addr)(u:World):Prop where
 top:nn≤u.heap.size
 il:ib<u.heap.size
 tl:tb<u.heap.size
 ci:u.cell? ⟨ib,0,none⟩=some (vI k)
 zi:u.frozen? ⟨ib,0,none⟩=false
 ct:u.cell? ⟨tb,o+k,none⟩=some (.slice oa ol oc)
 zt:u.frozen? ⟨tb,o+k,none⟩=false
section
variable{nn ib tb o k ol oc:Nat}{oa:Option Addr}{u:World}
theorem SD.at(h:SD nn ib tb o k ol oc oa u)(d:Nat):SD nn ib tb o k ol oc oa (u.at d):=⟨h.top,h.il,h.tl,h.ci,h.zi,h.ct,h.zt⟩
theorem SD.alloc(h:SD nn ib tb o k ol oc oa u)(ob:Obj):SD nn ib tb o k ol oc oa (u.alloc ob):=by
 have e1:(u.alloc ob).heap[ib]? =u.heap[ib]?:=D0 _ _ h.il
 have e2:(u.alloc ob).heap[tb]? =u.heap[tb]?:=D0 _ _ h.tl
 refine⟨by simp;have:=h.top;omega,by simp;have:=h.il;omega,by simp;have:=h.tl;omega,?_,?_,?_,?_⟩
 ·rw[← h.ci];unfold World.cell?;simp only[e1]
 ·rw[← h.zi];unfold World.frozen?;simp only[e1]
 ·rw[← h.ct];unfold World.cell?;simp only[e2]
 ·rw[← h.zt];unfold World.frozen?;simp only[e2]
end
theorem n05(X:World)(u v:Value):(X.alloc (.cells #[u] 34)).setCell ⟨X.heap.size,0,none⟩ v=X.alloc (.cells #[v] 34):=by go_simp
theorem p0g:∃i,Try.prog.info? 47=some i∧i.size=4:=by
 have h:(Try.prog.info? 47).map (fun i=>i.size)=some 4:=by kernel_rfl
 obtain⟨i,hi,h1⟩:=Option.map_eq_some_iff.1 h
 exact⟨i,hi,h1⟩
theorem m0u{w:World}{a:Option Addr}{ol oc m:Nat}(hmc:m≤oc):(Instr.sliceAt 34 (.slice a ol oc) none (some (vI m)) none).run Try.prog w= .ok (.slice a m oc) w:=by
 obtain⟨i,hi,hs⟩:=p0g
 have hu:Try.prog.underlying 34=some (.slice 47):=Try.underlying34
 have e:a.map (fun x:Addr=>x.add 0)=a:=by
  cases a with
  | none=>rfl
  | some x=>simp[Addr.add]
 have hm:(m:Int)≤oc:=by omega
 simp[Instr.sliceAt,Instr.slice,run_underlying hu,Instr.sliceBounds,run_sliceBound,sizeOf,typeInfo,hi,hs,hmc,hm,e]
theorem j0v{w:World}{es:Array Event}{a:Option Addr}{ol oc m:Nat}(hmc:m≤oc):(Instr.sliceAt 34 (.slice a ol oc) none (some (vI m)) none).events Try.prog w es=es:=by
 obtain⟨i,hi,hs⟩:=p0g
 have hu:Try.prog.underlying 34=some (.slice 47):=Try.underlying34
 have hm:(m:Int)≤oc:=by omega
 simp[Instr.sliceAt,Instr.slice,run_underlying hu,Instr.sliceBounds,Instr.sliceBound,asIntOf,run_sliceBound,sizeOf,typeInfo,hi,hs,hmc,hm]
theorem E0i {nn : Nat} (hU : P2 F nn) {tb o tl tc n db av ib k ol oc m : Nat} {oa : Option Addr} {l : Value} (hkt : k < tl) (hm0 : min ol 65536 = m) (hoc : ol ≤ oc) (hs : SD nn ib tb o k ol oc oa w) {A : Array Value} (hA : G0 38 A ((9, vP ib 0) :: [(0, vL tb o tl tc), (3, vP db 0), (6, vI n), (7, vP av 0), (8, l), (16, vI n), (17, vI k)])) {cs : List Frame} {main : Bool} {Stop : Goroutine → World → Prop} {kk : List Item}
    (h : ∀ A, G0 38 A ((9, vP ib 0) :: (10, vP w.heap.size 0) :: [(0, vL tb o tl tc), (3, vP db 0), (6, vI n), (7, vP av 0), (8, l), (16, vI n), (17, vI k)]) → J0 Try.prog main F Stop (G (bA 81 A kk) cs) (w.alloc (.cells #[.slice oa m oc] 34))) :
    J0 Try.prog main F Stop (G (bA 81 A (.code i0E :: kk)) cs) w := by
  obtain ⟨s, rfl, h9, h0, h3, h6, h7, h8, h16, h17, _⟩ := Y3 diT hA
  simp only [diT, h9, h0, h3, h6, h7, h8, h16, h17]
  clear h9 h0 h3 h6 h7 h8 h16 h17
  have hmc : m ≤ oc := by omega
  have hm2 : (if (65536 : Int) < (ol : Int) then (65536 : Int) else ol) = (m : Int) := by split <;> omega
  have hS : ∀ u d, SD nn ib tb o k ol oc oa u → SD nn ib tb o k ol oc oa (World.at u d) := fun u d h => h.at d
  rw [A0B]
  refine O7 (SD nn ib tb o k ol oc oa) (last := 12) E2 (z8 (by kernel_rfl)) (by decide) ?_
  simp only [i0E, F4, Try.f81, zz, Nat.reduceAdd]
  have hZ : ∀ a u d, J0 Try.prog main F Stop (G ((Go.Conc.base 81).at a (.inRegion (oC i0E) [12] :: kk)) cs) u → J0 Try.prog main F Stop (G ((Go.Conc.base 81).at a (.inRegion (oC i0E) [12] :: kk)) cs) (World.at u d) := fun a u d h => h.at d
  simp only [i0E, F4, Try.f81, zz, Nat.reduceAdd] at hZ
  refine tkM 0 (vL tb o tl tc) hS hs ?_ hZ
  walk_nrm
  refine a0t 1 (vI k) (fun u hu => (And.intro hu.ci hu.zi)) hS hs ?_ hZ
  walk_nrm
  refine r0v 2 (vP tb (o + k)) (fun u hu => hkt) hS hs ?_ hZ
  walk_nrm
  refine a0t 3 (.slice oa ol oc) (fun u hu => (And.intro hu.ct hu.zt)) hS hs ?_ hZ
  walk_nrm
  refine tkM 4 (vL tb o tl tc) hS hs ?_ hZ
  walk_nrm
  refine a0t 5 (vI k) (fun u hu => (And.intro hu.ci hu.zi)) hS hs ?_ hZ
  walk_nrm
  refine r0v 6 (vP tb (o + k)) (fun u hu => hkt) hS hs ?_ hZ
  walk_nrm
  refine a0t 7 (.slice oa ol oc) (fun u hu => (And.intro hu.ct hu.zt)) hS hs ?_ hZ
  walk_nrm
  refine tkM 8 (vI ol) hS hs ?_ hZ
  walk_nrm
  refine r0v 9 (vI m) (fun u hu => hm2) hS hs ?_ hZ
  walk_nrm
  refine b0c hS hZ (i := 10) (v := .slice oa m oc) hs rfl rfl (by kernel_rfl) (by kernel_rfl) (by kernel_rfl) (fun u hu => .inl ⟨rfl, fun d => ⟨by simp [go_sem, execOp, Act.eval, m0u hmc, j0v hmc], fun e he => by have hm := mem_listed he; simp [go_sem, execOp, Act.eval, m0u hmc, j0v hmc] at hm⟩⟩) ?_
  walk_nrm
  refine i3 (r := [11]) (by kernel_rfl) (by kernel_rfl) (fun i hi hil => ?_)
  simp only [List.mem_cons, List.not_mem_nil, or_false] at hi
  subst hi
  refine V4 rfl rfl (fun d K' hK' => ?_)
  go_simp
  refine hK' _ _ ⟨⟨⟨0, P0 hU (show nn ≤ (w.at d).heap.size from hs.top) _⟩, fun e he => by (have hm := mem_listed he; simp [go_sem] at hm)⟩, (hs.at d).alloc _, ?_⟩
  clear hK' K'
  rw [alloc_at']
  refine Y2 hS hZ _ _ _ _ ?_ d
  refine P5 (by kernel_rfl) ?_ _
  have hn := hs.top
  (refine oW fun dd K hK => ?_; go_simp; refine qS hK hU ?_; clear hK K)
  rw [n05]
  refine S0 ?_
  refine h _ ?_
  exact ⟨rfl, rfl, rfl, rfl, rfl, rfl, rfl, rfl, rfl, rfl, trivial⟩
end
section
variable{w:World}
theorem l0K(w:World):L1 F0 w=w:=by
 have e:(L1 F0 w).heap=w.heap:=by
  apply Array.ext_getElem?
  intro r
  rw[L4]
  cases h:w.heap[r]? with
  | none=>rfl
  | some o=>cases o<;>rfl
 calc L1 F0 w={w with heap:=(L1 F0 w).heap}:=rfl
  _=w:=by rw[e]
theorem J1:P2 F0 0:=fun r z h=>by cases h
theorem g0J(w:World):Wf F0 w:=⟨fun r z h=>by cases h⟩
theorem s0r:∃i,Try.prog.info? 112=some i∧i.zero=some .nilFunc∧i.size=1∧i.bytes=8:=by
 have h:(Try.prog.info? 112).map (fun i=>(i.size,i.bytes))=some (1,8):=by kernel_rfl
 have h0:(Try.prog.info? 112).bind (·.zero)=some .nilFunc:=by kernel_rfl
 obtain⟨i,hi,h1⟩:=Option.map_eq_some_iff.1 h
 rw[hi]at h0
 simp only[Prod.mk.injEq]at h1
 exact⟨i,hi,h0,h1.1,h1.2⟩
def c0o(ob db ib av:Nat):Value:=.func (.func 99) #[] #[vP ob 0,vP db 0,vP ib 0,vP av 0]
theorem E0j{ta:Option Addr}{tl tc n db av ib ob k base:Nat}{l:Value}{xs:List Value}(hk:k<64)(hb:base≤w.heap.size)(hrow:w.ownsRow base 112 1 l k xs){A:Array Value}(hA:G0 38 A ((9,vP ib 0)::(10,vP ob 0)::[(0,.slice ta tl tc),(3,vP db 0),(6,vI n),(7,vP av 0),(8,l),(16,vI n),(17,vI k)])){cs:List Frame}{main:Bool}{Stop:Goroutine→World→Prop}
 (h:∀(w':World) (l':Value) (A:Array Value),w'.ownsRow base 112 1 l' (k+1) (xs++[c0o ob db ib av])→w.heap.size≤w'.heap.size→(∀r,r<w.heap.size→some r≠Value.ownBlock l→w'.heap[r]? =w.heap[r]?)→G0 38 A [(0,.slice ta tl tc),(3,vP db 0),(6,vI n),(7,vP av 0),(8,l'),(16,vI n),(17,vI (k+1:Nat))]→J0 Try.prog main F0 Stop (G (bA 81 A [.code c0q,.inLoop c0q,.inBlock 0,.code d0o]) cs) w'):
 J0 Try.prog main F0 Stop (G (bA 81 A [.code o0R,.inBlock 1,.code m05,.inLoop c0q,.inBlock 0,.code d0o]) cs) w:=by
 have hU:=J1
 have hn:0≤w.heap.size:=Nat.zero_le _
 have hk64:IntKind.i64.wrap ((k:Int)+1)=(k:Int)+1:=IntWalk.i64_in _ (by omega)
 obtain⟨s,rfl,h9,h10,h0,h3,h6,h7,h8,h16,h17,_⟩:=Y3 diT hA
 simp only[diT,h9,h10,h0,h3,h6,h7,h8,h16,h17]
 clear h9 h10 h0 h3 h6 h7 h8 h16 h17
 rw[A0C]
 refine ogR ?_
 simp only[o0R,F4,Try.f81,zz,Nat.reduceAdd]
 iterate 2 refine oT ?_
 refine oA hU ?_
 have hrow2:=hrow.alloc (.cells #[c0o ob db ib av] 112)
 have hcell:=cell_one_new w (c0o ob db ib av) 112
 have hsz:(w.alloc (.cells #[c0o ob db ib av] 112)).heap.size=w.heap.size+1:=by simp
 have hold:∀r,r<w.heap.size→(w.alloc (.cells #[c0o ob db ib av] 112)).heap[r]? =w.heap[r]?:=fun r hr=>D0 _ _ hr
 change J0 _ _ _ _ _ (w.alloc (.cells #[c0o ob db ib av] 112))
 generalize w.alloc (.cells #[c0o ob db ib av] 112)=W at hrow2 hcell hsz hold ⊢
 obtain⟨i0,hi0,hz0,hz1,hz2⟩:=s0r
 refine l00 (by decide) ?_
 refine e0Z (S':=fun _=>false) (px:=false) (ready0.shut false) (by simp) rfl rfl rfl (g0J _) (fun d=>?_)
 rw[l0K]
 obtain⟨l',u,hr,hown,hgrow,_⟩:=run_append_own (P:=Try.prog) (W.at d) base 139 139 112 i0 _ 1 8 Try.underlying139 hi0 hz0 hz1 hz2 rfl (by decide) l k xs hrow2 ⟨w.heap.size,0,none⟩ 1 1 [c0o ob db ib av] rfl
  hcell (fun q hq=>by simp at hq;subst hq;rfl) (by unfold maxLen;omega) (by omega) (by show base≤W.heap.size;omega)
 refine⟨l',u,V6 (.tmp 31) (.tmp 33) 139 rfl rfl rfl hr,fun w' hu hg hwf'=>?_⟩
 rw[l0K]at hu
 subst hu
 have hsz2:W.heap.size≤u.heap.size:=hgrow.size
 have hold2:∀r,r<w.heap.size→some r≠Value.ownBlock l→u.heap[r]? =w.heap[r]?:=fun r h1 h2=>(hgrow.block r (by show r<W.heap.size;omega) h2).trans (hold r h1)
 have hsz3:w.heap.size≤u.heap.size:=by omega
 clear hrow2 hcell hsz hold hr hgrow hsz2 hg hwf' hz0 hz1 hz2 hi0
 walk_nrm
 refine oT ?_
 refine S0<|ogI ?_
 rw[A0D]
 refine ogR ?_
 simp only[m05,F4,Try.f81,zz,Nat.reduceAdd]
 iterate 2 refine oT ?_
 refine S0<|ogL ?_
 refine h _ l' _ hown hsz3 hold2 ?_
 exact⟨rfl,rfl,rfl,rfl,rfl,rfl,rfl,rfl,trivial⟩
end
section
variable{w w' w0:World}{lb:Nat}
theorem o7(a:Addr):¬held F0 a:=fun h=>by obtain⟨z,hz,_⟩:=h;cases hz
def part(kd:Nat)(vs ws:List Int)(i:Nat):List Int:=(List.range ws.length).map fun j=>if j<i then a0M kd (ws.getD j 0) (vs.getD j 0)else ws.getD j 0
theorem U8(kd:Nat)(vs ws:List Int)(i:Nat):(part kd vs ws i).length=ws.length:=by simp[part]
theorem c0X(kd:Nat)(vs ws:List Int):part kd vs ws 0=ws:=by
 apply List.ext_getElem (by simp[part])
 intro j h1 h2
 simp[part,List.getD_eq_getElem?_getD,h2]
theorem R9(kd:Nat)(vs ws:List Int){i:Nat}(hi:i<ws.length):(part kd vs ws i).getD i 0=ws.getD i 0:=by
 simp[part,List.getD_eq_getElem?_getD,hi]
theorem S9(kd:Nat)(vs ws:List Int){i:Nat}(hi:i<ws.length):(part kd vs ws i).set i (a0M kd (ws.getD i 0) (vs.getD i 0))=part kd vs ws (i+1):=by
 apply List.ext_getElem (by simp[part])
 intro j h1 h2
 have hj:j<ws.length:=by simpa [part]using h2
 rw[List.getElem_set]
 split
 ·subst_vars
  simp[part]
 ·rename_i hne
  simp only[part,List.getElem_map,List.getElem_range]
  by_cases h:j<i
  ·rw[if_pos h,if_pos (by omega)]
  ·rw[if_neg h,if_neg (by omega)]
def R1.wrote(kd:Nat)(vs:List Int)(s:R1):R1:=⟨i6 (s.ver+2),part kd vs s.ws s.ws.length⟩
structure R7(sv:Value)(main:Bool)(sb:Option Nat)(X:Nat→World→Prop):Prop where
 tick:∀(m:Nat) (w:World) (c:Frame) (cs:List Frame) (Stop:Goroutine→World→Prop),X m w→m<4611686018427387904→(∀w',X (m+1) w'→w'.heap.size=w.heap.size→(∀r,some r≠sb→w'.heap[r]? =w.heap[r]?)→J0 Try.prog main F0 Stop (G (c.finish (.tuple #[])) cs) w')→
  J0 Try.prog main F0 Stop (G (Frame.enter Try.prog 61 #[sv] .normal) (c::cs)) w
 keep:∀(m:Nat) (w w':World),X m w→(∀b,sb=some b→b<w.heap.size→w'.heap[b]? =w.heap[b]?)→X m w'
structure J7(lb:Nat)(sb:Option Nat)(X:Nat→World→Prop)(w0:World)(s:SS)(m:Nat)(w:World):Prop where
 u:SU lb s w
 x:X m w
 sz:w0.heap.size≤w.heap.size
 o:∀r,r<w0.heap.size→some r≠sb→r≠lb→r≠s.wb→w.heap[r]? =w0.heap[r]?
section
variable{sv:Value}{main:Bool}{sb:Option Nat}{m:Nat}{X:Nat→World→Prop}{s s':SS}
theorem J7.tick(h:J7 lb sb X w0 s m w)(hsb:∀b,sb=some b→¬SR lb s b)(hx:X (m+1) w')(hs:w'.heap.size=w.heap.size)(ho:∀r,some r≠sb→w'.heap[r]? =w.heap[r]?):J7 lb sb X w0 s (m+1) w':=
 ⟨h.u.same fun r hr=>ho r fun e=>hsb r e.symm hr,hx,by rw[hs];exact h.sz,fun r hr h1 h2 h3=>(ho r h1).trans (h.o r hr h1 h2 h3)⟩
theorem J7.setV(S:R7 sv main sb X)(h:J7 lb sb X w0 s m w)(hsb:∀b,sb=some b→¬SR lb s b)(v:Int):J7 lb sb X w0 ⟨{s.k with ver:=v},s.wb,s.wo⟩ m (w.setCell ⟨lb,0,none⟩ (vI v)):=
 ⟨h.u.setV v,S.keep m _ _ h.x fun b hb _=>I0 _ _ _ fun e=>hsb b hb (.inl e),by rw[World.size_setCell];exact h.sz,fun r hr h1 h2 h3=>(I0 _ _ _ h2).trans (h.o r hr h1 h2 h3)⟩
theorem J7.setW(S:R7 sv main sb X)(h:J7 lb sb X w0 s m w)(hsb:∀b,sb=some b→¬SR lb s b){i:Nat}(hi:i<s.n)(v:Int):J7 lb sb X w0 ⟨{s.k with ws:=s.k.ws.set i v},s.wb,s.wo⟩ m (w.setCell ⟨s.wb,s.wo+i,none⟩ (vI v)):=
 ⟨h.u.setW hi v,S.keep m _ _ h.x fun b hb _=>I0 _ _ _ fun e=>hsb b hb (.inr e),by rw[World.size_setCell];exact h.sz,fun r hr h1 h2 h3=>(I0 _ _ _ h3).trans (h.o r hr h1 h2 h3)⟩
theorem J7.grow(S:R7 sv main sb X)(h:J7 lb sb X w0 s m w)(hsz:w.heap.size≤w'.heap.size)(ho:∀r,r<w0.heap.size→w'.heap[r]? =w.heap[r]?)(hl:∀r,SR lb s r→w'.heap[r]? =w.heap[r]?)(hb:∀b,sb=some b→b<w.heap.size→w'.heap[b]? =w.heap[b]?):J7 lb sb X w0 s m w':=
 ⟨h.u.same hl,S.keep m _ _ h.x hb,Nat.le_trans h.sz hsz,fun r hr h1 h2 h3=>(ho r hr).trans (h.o r hr h1 h2 h3)⟩
def VS(w:World)(va:Option Addr)(vs:List Int):Prop:=0<vs.length→∃vb,va=some ⟨vb,0,none⟩∧∀i,i<vs.length→w.cell? ⟨vb,i,none⟩=some (vI (vs.getD i 0))
theorem VS.same{va:Option Addr}{vs:List Int}(h:VS w va vs)(hs:∀y,va=some y→w'.heap[y.block]? =w.heap[y.block]?):VS w' va vs:=fun hp=>by
 obtain⟨vb,rfl,h1⟩:=h hp
 exact⟨vb,rfl,fun i hi=>(F1 (j:=i) (hs _ rfl)).1.trans (h1 i hi)⟩
def e0e(lb:Nat)(sb:Option Nat)(s:SS)(va:Option Addr):Prop:=∀y,va=some y→y.block≠lb∧y.block≠s.wb∧some y.block≠sb
theorem f0N(S:R7 sv main sb X){va:Option Addr}{vc:Nat}{vs:List Int}{v:Int}(hsb:∀b,sb=some b→¬SR lb s b)(hap:e0e lb sb s va){cs:List Frame}{Stop:Goroutine→World→Prop}{v0:Int}
 (K:∀w' A,J7 lb sb X w0 ⟨⟨v0,part 1 vs s.k.ws s.n⟩,s.wb,s.wo⟩ (m+s.n) w'→G0 63 A [(0,a01 lb),(1,sv),(11,vI v)]→J0 Try.prog main F0 Stop (G ((s0o A).finish (.tuple #[])) cs) w'):
 ∀k i w A,i+k+1=s.n→m+s.n<4611686018427387904→J7 lb sb X w0 ⟨⟨v0,part 1 vs s.k.ws i⟩,s.wb,s.wo⟩ (m+i) w→VS w va vs→G0 63 A [(0,a01 lb),(1,sv),(3,.slice va vs.length vc),(4,.func (.func 57) #[] #[]),(11,vI v),(13,vL s.wb s.wo s.n s.n),(14,vI (i:Nat)),(15,vI (vs.getD i 0)),(33,vI (s.n:Nat)),(34,vI (i:Nat))]→J0 Try.prog main F0 Stop (G ((n0w A).finish (.tuple #[])) cs) w:=by
 intro k
 induction k with
 | zero=>
   intro i w A hk hm h hv hA
   have hi:i<s.n:=by omega
   have hl:=U8 1 vs s.k.ws i
   have hc:=h.u.ws i (by simp only[SS.n];rw[hl];exact hi)
   simp only[R9 1 vs s.k.ws hi]at hc
   have hn16:s.n≤16:=by have:=h.u.wf.n2;simp only at this;rw[hl]at this;exact this
   refine r0F (sv:=sv) hn16 (by omega) hc.c hc.z (o7 _) hA fun A hA=>?_
   have h2:=h.setW S hsb (i:=i) (by simp only[SS.n];rw[hl];exact hi) (a0M 1 (s.k.ws.getD i 0) (vs.getD i 0))
   simp only[S9 1 vs s.k.ws hi]at h2
   refine S.tick _ _ _ _ _ h2.x (by omega) fun w1 hx hz ho=>?_
   have h3:=h2.tick hsb hx hz ho
   have e:i+1=s.n:=by omega
   rw[Nat.add_assoc,e]at h3
   exact K w1 A h3 hA
 | succ k ih=>
   intro i w A hk hm h hv hA
   have hi:i<s.n:=by omega
   have hl:=U8 1 vs s.k.ws i
   have hc:=h.u.ws i (by simp only[SS.n];rw[hl];exact hi)
   simp only[R9 1 vs s.k.ws hi]at hc
   have hn16:s.n≤16:=by have:=h.u.wf.n2;simp only at this;rw[hl]at this;exact this
   have h2:=h.setW S hsb (i:=i) (by simp only[SS.n];rw[hl];exact hi) (a0M 1 (s.k.ws.getD i 0) (vs.getD i 0))
   simp only[S9 1 vs s.k.ws hi]at h2
   have hv2:VS (w.setCell ⟨s.wb,s.wo+i,none⟩ (vI (a0M 1 (s.k.ws.getD i 0) (vs.getD i 0)))) va vs:=hv.same fun y hy=>I0 _ _ _ (hap y hy).2.1
   by_cases hlt:i+1<vs.length
   ·obtain⟨vb,rfl,hcell⟩:=hv2 (by omega)
    refine r0D (sv:=sv) (y:=vs.getD (i+1) 0) hn16 (by omega) hc.c hc.z (o7 _) hlt (hcell (i+1) hlt) hA fun A hA=>?_
    refine S.tick _ _ _ _ _ h2.x (by omega) fun w1 hx hz ho=>?_
    exact ih (i+1) w1 A (by omega) hm (h2.tick hsb hx hz ho) (hv2.same fun y hy=>ho _ (hap y hy).2.2) hA
   ·refine z0A (sv:=sv) hn16 (by omega) hc.c hc.z (o7 _) (by omega) hA fun A hA=>?_
    refine S.tick _ _ _ _ _ h2.x (by omega) fun w1 hx hz ho=>?_
    have e0:vs.getD (i+1) 0=0:=by simp[List.getD_eq_getElem?_getD,List.getElem?_eq_none (show vs.length≤i+1 by omega)]
    exact ih (i+1) w1 A (by omega) hm (h2.tick hsb hx hz ho) (hv2.same fun y hy=>ho _ (hap y hy).2.2) (by rw[e0];exact hA)
theorem b0G(S:R7 sv main sb X)(h:J7 lb sb X w0 s m w)(hsb:∀b,sb=some b→¬SR lb s b)(hev:s.k.ver.tmod 2=0)(hm:m+32<4611686018427387904){va:Option Addr}{vc:Nat}{vs:List Int}(hv:VS w va vs)(hap:e0e lb sb s va){a:Int}{c:Frame}{cs:List Frame}{Stop:Goroutine→World→Prop}
 (K:∀w',J7 lb sb X w0 ⟨s.k.wrote 1 vs,s.wb,s.wo⟩ (m+s.n+3) w'→J0 Try.prog main F0 Stop (G (c.finish (.bool true)) cs) w'):
 J0 Try.prog main F0 Stop (G (Frame.enter Try.prog 24 #[vP lb 0,sv,vI a,.slice va vs.length vc] .normal) (c::cs)) w:=by
 have hn1:0<s.n:=h.u.wf.n1
 have hn16:s.n≤16:=h.u.wf.n2
 have hv2:∀{w1:World},(∀r,some r≠sb→w1.heap[r]? =w.heap[r]?)→VS w1 va vs:=fun ho=>hv.same fun y hy=>ho _ (hap y hy).2.2
 refine w0u fun A2 hA2=>u0f fun A1 hA1=>m01 fun A hA=>S.tick _ _ _ _ _ h.x (by omega) fun w1 hx hz ho=>?_
 have h1:=h.tick hsb hx hz ho
 have v1:=hv2 ho
 clear hx hz ho
 refine l0g (sv:=sv) (v:=s.k.ver) (by simp[hev]) h1.u.v.c hA fun A hA=>S.tick _ _ _ _ _ h1.x (by omega) fun w2 hx hz ho=>?_
 have h2:=h1.tick hsb hx hz ho
 have v2:=v1.same fun y hy=>ho _ (hap y hy).2.2
 clear hx hz ho
 refine l0h (sv:=sv) (u:=s.k.ver) (by simp) h2.u.v.c h2.u.v.z (o7 _) hA ?_
 have h3:=h2.setV S hsb (i6 (s.k.ver+1))
 have v3:VS (w2.setCell ⟨lb,0,none⟩ (vI (i6 (s.k.ver+1)))) va vs:=v2.same fun y hy=>I0 _ _ _ (hap y hy).1
 have K2:∀A,G0 63 A [(0,a01 lb),(1,sv),(3,.slice va vs.length vc),(4,.func (.func 57) #[] #[]),(11,vI s.k.ver),(13,vL s.wb s.wo s.n s.n),(14,vI (0:Nat)),(15,vI (vs.getD 0 0)),(33,vI (s.n:Nat)),(34,vI (0:Nat))]→J0 Try.prog main F0 Stop (G (Frame.enter Try.prog 61 #[sv] .normal) (n0w A::fWW A2::c::cs)) (w2.setCell ⟨lb,0,none⟩ (vI (i6 (s.k.ver+1)))):=fun A hA=>by
  refine S.tick _ _ _ _ _ h3.x (by omega) fun w3 hx hz ho=>?_
  have h4:=h3.tick hsb hx hz ho
  have v4:=v3.same fun y hy=>ho _ (hap y hy).2.2
  clear hx hz ho
  refine f0N (m:=m+1+1+1) (w0:=w0) (v0:=i6 (s.k.ver+1)) (s:=s) S hsb hap (fun w' A h5 hA=>?_) (s.n - 1) 0 w3 A (by omega) (by omega) (by rw[c0X];exact h4) v4 hA
  have h6:=h5.setV S hsb (i6 (s.k.ver+2))
  refine u0g (sv:=sv) (v:=s.k.ver) h5.u.v.c h5.u.v.z (o7 _) hA ?_
  refine r0M hA2 ?_
  exact K _ (by
   have e:m+1+1+1+s.n=m+s.n+3:=by omega
   rw[e]at h6
   exact h6)
 by_cases hp:0<vs.length
 ·obtain⟨vb,rfl,hcell⟩:=v3 hp
  exact m0V (sv:=sv) (v:=s.k.ver) (x:=vs.getD 0 0) h3.u.h hp (hcell 0 hp) hA1 fun A hA=>K2 A hA
 ·have e0:vs.getD 0 0=0:=by simp[List.getD_eq_getElem?_getD,List.getElem?_eq_none (show vs.length≤0 by omega)]
  exact w0t (sv:=sv) (v:=s.k.ver) h3.u.h (by omega) hA1 fun A hA=>K2 A (by rw[e0];exact hA)
theorem f0O(S:R7 sv main sb X){va:Option Addr}{vc:Nat}{vs:List Int}{v:Int}(hsb:∀b,sb=some b→¬SR lb s b)(hap:e0e lb sb s va){cs:List Frame}{Stop:Goroutine→World→Prop}{v0:Int}
 (K:∀w' A,J7 lb sb X w0 ⟨⟨v0,part 2 vs s.k.ws s.n⟩,s.wb,s.wo⟩ (m+s.n) w'→G0 63 A [(0,a01 lb),(1,sv),(11,vI v)]→J0 Try.prog main F0 Stop (G ((s0o A).finish (.tuple #[])) cs) w'):
 ∀k i w A,i+k+1=s.n→m+s.n<4611686018427387904→J7 lb sb X w0 ⟨⟨v0,part 2 vs s.k.ws i⟩,s.wb,s.wo⟩ (m+i) w→VS w va vs→G0 63 A [(0,a01 lb),(1,sv),(3,.slice va vs.length vc),(4,.func (.func 58) #[] #[]),(11,vI v),(13,vL s.wb s.wo s.n s.n),(14,vI (i:Nat)),(15,vI (vs.getD i 0)),(33,vI (s.n:Nat)),(34,vI (i:Nat))]→J0 Try.prog main F0 Stop (G ((n0w A).finish (.tuple #[])) cs) w:=by
 intro k
 induction k with
 | zero=>
   intro i w A hk hm h hv hA
   have hi:i<s.n:=by omega
   have hl:=U8 2 vs s.k.ws i
   have hc:=h.u.ws i (by simp only[SS.n];rw[hl];exact hi)
   simp only[R9 2 vs s.k.ws hi]at hc
   have hn16:s.n≤16:=by have:=h.u.wf.n2;simp only at this;rw[hl]at this;exact this
   refine r0G (sv:=sv) hn16 (by omega) hc.c hc.z (o7 _) hA fun A hA=>?_
   have h2:=h.setW S hsb (i:=i) (by simp only[SS.n];rw[hl];exact hi) (a0M 2 (s.k.ws.getD i 0) (vs.getD i 0))
   simp only[S9 2 vs s.k.ws hi]at h2
   refine S.tick _ _ _ _ _ h2.x (by omega) fun w1 hx hz ho=>?_
   have h3:=h2.tick hsb hx hz ho
   have e:i+1=s.n:=by omega
   rw[Nat.add_assoc,e]at h3
   exact K w1 A h3 hA
 | succ k ih=>
   intro i w A hk hm h hv hA
   have hi:i<s.n:=by omega
   have hl:=U8 2 vs s.k.ws i
   have hc:=h.u.ws i (by simp only[SS.n];rw[hl];exact hi)
   simp only[R9 2 vs s.k.ws hi]at hc
   have hn16:s.n≤16:=by have:=h.u.wf.n2;simp only at this;rw[hl]at this;exact this
   have h2:=h.setW S hsb (i:=i) (by simp only[SS.n];rw[hl];exact hi) (a0M 2 (s.k.ws.getD i 0) (vs.getD i 0))
   simp only[S9 2 vs s.k.ws hi]at h2
   have hv2:VS (w.setCell ⟨s.wb,s.wo+i,none⟩ (vI (a0M 2 (s.k.ws.getD i 0) (vs.getD i 0)))) va vs:=hv.same fun y hy=>I0 _ _ _ (hap y hy).2.1
   by_cases hlt:i+1<vs.length
   ·obtain⟨vb,rfl,hcell⟩:=hv2 (by omega)
    refine r0E (sv:=sv) (y:=vs.getD (i+1) 0) hn16 (by omega) hc.c hc.z (o7 _) hlt (hcell (i+1) hlt) hA fun A hA=>?_
    refine S.tick _ _ _ _ _ h2.x (by omega) fun w1 hx hz ho=>?_
    exact ih (i+1) w1 A (by omega) hm (h2.tick hsb hx hz ho) (hv2.same fun y hy=>ho _ (hap y hy).2.2) hA
   ·refine z0B (sv:=sv) hn16 (by omega) hc.c hc.z (o7 _) (by omega) hA fun A hA=>?_
    refine S.tick _ _ _ _ _ h2.x (by omega) fun w1 hx hz ho=>?_
    have e0:vs.getD (i+1) 0=0:=by simp[List.getD_eq_getElem?_getD,List.getElem?_eq_none (show vs.length≤i+1 by omega)]
    exact ih (i+1) w1 A (by omega) hm (h2.tick hsb hx hz ho) (hv2.same fun y hy=>ho _ (hap y hy).2.2) (by rw[e0];exact hA)
theorem b0H(S:R7 sv main sb X)(h:J7 lb sb X w0 s m w)(hsb:∀b,sb=some b→¬SR lb s b)(hev:s.k.ver.tmod 2=0)(hm:m+32<4611686018427387904){va:Option Addr}{vc:Nat}{vs:List Int}(hv:VS w va vs)(hap:e0e lb sb s va){a:Int}{c:Frame}{cs:List Frame}{Stop:Goroutine→World→Prop}
 (K:∀w',J7 lb sb X w0 ⟨s.k.wrote 2 vs,s.wb,s.wo⟩ (m+s.n+3) w'→J0 Try.prog main F0 Stop (G (c.finish (.bool true)) cs) w'):
 J0 Try.prog main F0 Stop (G (Frame.enter Try.prog 25 #[vP lb 0,sv,vI a,.slice va vs.length vc] .normal) (c::cs)) w:=by
 have hn1:0<s.n:=h.u.wf.n1
 have hn16:s.n≤16:=h.u.wf.n2
 have hv2:∀{w1:World},(∀r,some r≠sb→w1.heap[r]? =w.heap[r]?)→VS w1 va vs:=fun ho=>hv.same fun y hy=>ho _ (hap y hy).2.2
 refine w0v fun A2 hA2=>u0f fun A1 hA1=>m01 fun A hA=>S.tick _ _ _ _ _ h.x (by omega) fun w1 hx hz ho=>?_
 have h1:=h.tick hsb hx hz ho
 have v1:=hv2 ho
 clear hx hz ho
 refine l0g (sv:=sv) (v:=s.k.ver) (by simp[hev]) h1.u.v.c hA fun A hA=>S.tick _ _ _ _ _ h1.x (by omega) fun w2 hx hz ho=>?_
 have h2:=h1.tick hsb hx hz ho
 have v2:=v1.same fun y hy=>ho _ (hap y hy).2.2
 clear hx hz ho
 refine l0h (sv:=sv) (u:=s.k.ver) (by simp) h2.u.v.c h2.u.v.z (o7 _) hA ?_
 have h3:=h2.setV S hsb (i6 (s.k.ver+1))
 have v3:VS (w2.setCell ⟨lb,0,none⟩ (vI (i6 (s.k.ver+1)))) va vs:=v2.same fun y hy=>I0 _ _ _ (hap y hy).1
 have K2:∀A,G0 63 A [(0,a01 lb),(1,sv),(3,.slice va vs.length vc),(4,.func (.func 58) #[] #[]),(11,vI s.k.ver),(13,vL s.wb s.wo s.n s.n),(14,vI (0:Nat)),(15,vI (vs.getD 0 0)),(33,vI (s.n:Nat)),(34,vI (0:Nat))]→J0 Try.prog main F0 Stop (G (Frame.enter Try.prog 61 #[sv] .normal) (n0w A::fAA A2::c::cs)) (w2.setCell ⟨lb,0,none⟩ (vI (i6 (s.k.ver+1)))):=fun A hA=>by
  refine S.tick _ _ _ _ _ h3.x (by omega) fun w3 hx hz ho=>?_
  have h4:=h3.tick hsb hx hz ho
  have v4:=v3.same fun y hy=>ho _ (hap y hy).2.2
  clear hx hz ho
  refine f0O (m:=m+1+1+1) (w0:=w0) (v0:=i6 (s.k.ver+1)) (s:=s) S hsb hap (fun w' A h5 hA=>?_) (s.n - 1) 0 w3 A (by omega) (by omega) (by rw[c0X];exact h4) v4 hA
  have h6:=h5.setV S hsb (i6 (s.k.ver+2))
  refine u0g (sv:=sv) (v:=s.k.ver) h5.u.v.c h5.u.v.z (o7 _) hA ?_
  refine r0N hA2 ?_
  exact K _ (by
   have e:m+1+1+1+s.n=m+s.n+3:=by omega
   rw[e]at h6
   exact h6)
 by_cases hp:0<vs.length
 ·obtain⟨vb,rfl,hcell⟩:=v3 hp
  exact m0V (sv:=sv) (v:=s.k.ver) (x:=vs.getD 0 0) h3.u.h hp (hcell 0 hp) hA1 fun A hA=>K2 A hA
 ·have e0:vs.getD 0 0=0:=by simp[List.getD_eq_getElem?_getD,List.getElem?_eq_none (show vs.length≤0 by omega)]
  exact w0t (sv:=sv) (v:=s.k.ver) h3.u.h (by omega) hA1 fun A hA=>K2 A (by rw[e0];exact hA)
structure g0N(w1 w:World)(ov:Value)(xs:List Int):Prop where
 row:w.ownsRow 0 2 1 ov xs.length (xs.map fun v=>vI v)
 blk:∀g,ov.ownBlock=some g→w1.heap.size≤g
theorem h0i(S:R7 sv main sb X)(hsb:∀b,sb=some b→¬SR lb s b){w1:World}(hlow:∀r,SR lb s r→r<w1.heap.size)(hsl:w0.heap.size≤w1.heap.size)(hsbl:∀b,sb=some b→b<w1.heap.size){c:Frame}{cs:List Frame}{Stop:Goroutine→World→Prop}
 (K:∀w' ov,J7 lb sb X w0 s (m+s.n) w'→g0N w1 w' ov s.k.ws→w1.heap.size≤w'.heap.size→(∀r,r<w1.heap.size→some r≠sb→w'.heap[r]? =w1.heap[r]?)→J0 Try.prog main F0 Stop (G (c.finish ov) cs) w'):
 ∀k i w A ov,i+k+1=s.n→m+1+s.n<4611686018427387904→J7 lb sb X w0 s (m+i+1) w→g0N w1 w ov (s.k.ws.take i)→w1.heap.size≤w.heap.size→(∀r,r<w1.heap.size→some r≠sb→w.heap[r]? =w1.heap[r]?)→G0 26 A [(0,a01 lb),(1,sv),(5,ov),(6,vL s.wb s.wo s.n s.n),(7,vI (i:Nat)),(11,vI (s.n:Nat)),(12,vI (i:Nat))]→J0 Try.prog main F0 Stop (G ((fRw A).finish (.tuple #[])) (c::cs)) w:=by
 intro k
 have grow:∀{w w':World} {ov ov':Value} {i:Nat} {u:Int} {q:Nat},J7 lb sb X w0 s q w→g0N w1 w ov (s.k.ws.take i)→w1.heap.size≤w.heap.size→f8 F0 w w' ov ov' (s.k.ws.take i) u→i<s.n→u=s.k.ws.getD i 0→(∀r,r<w1.heap.size→some r≠sb→w.heap[r]? =w1.heap[r]?)→J7 lb sb X w0 s q w'∧g0N w1 w' ov' (s.k.ws.take (i+1))∧w1.heap.size≤w'.heap.size∧(∀r,r<w1.heap.size→some r≠sb→w'.heap[r]? =w1.heap[r]?):=by
  intro w w' ov ov' i u q h hr hsz hg hi hu ho
  have hkeep:∀r,r<w1.heap.size→w'.heap[r]? =w.heap[r]?:=fun r hr1=>hg.old r (by omega) fun e=>absurd (hr.blk r e.symm) (by omega)
  refine⟨h.grow S hg.size (fun r hr1=>hkeep r (by omega)) (fun r hr1=>hkeep r (hlow r hr1)) fun b hb _=>hkeep b (hsbl b hb),⟨?_,fun g hgb=>?_⟩,by have:=hg.size;omega,fun r hr1 h2=>(hkeep r hr1).trans (ho r hr1 h2)⟩
  ·have e:s.k.ws.take (i+1)=s.k.ws.take i++[u]:=by
    rw[List.take_add_one,hu]
    have hi':i<s.k.ws.length:=hi
    simp[List.getD_eq_getElem?_getD,hi']
   rw[e]
   simpa using hg.row
  ·rcases hg.blk with e|⟨g2,e,hge⟩
   ·exact hr.blk g (e ▸ hgb)
   ·rw[hgb]at e
    cases e
    omega
 induction k with
 | zero=>
   intro i w A ov hk hm h hr hsz ho hA
   have hi:i<s.n:=by omega
   have hc:=h.u.ws i hi
   have hl:(s.k.ws.take i).length≤16:=by have:=h.u.wf.n2;simp;omega
   have hnn:s.n=s.k.ws.length:=rfl
   refine y03 (sv:=sv) (xs:=s.k.ws.take i) h.u.wf.n2 hl J1 (Nat.zero_le _) (g0J _) hc.c hr.row (fun _ _=>rfl) (by omega) hA fun ov' w' hg=>?_
   obtain⟨g1,g2,g3,g4⟩:=grow h hr hsz hg hi rfl ho
   have e:i+1=s.n:=by omega
   rw[e,List.take_of_length_le (Nat.le_refl _)]at g2
   rw[Nat.add_assoc,e]at g1
   exact K w' ov' g1 g2 g3 g4
 | succ k ih=>
   intro i w A ov hk hm h hr hsz ho hA
   have hi:i<s.n:=by omega
   have hc:=h.u.ws i hi
   have hl:(s.k.ws.take i).length≤16:=by have:=h.u.wf.n2;simp;omega
   have hnn:s.n=s.k.ws.length:=rfl
   refine y02 (sv:=sv) (xs:=s.k.ws.take i) h.u.wf.n2 hl J1 (Nat.zero_le _) (g0J _) hc.c hr.row (fun _ _=>rfl) (by omega) hA fun ov' w' A hg hA=>?_
   obtain⟨g1,g2,g3,g4⟩:=grow h hr hsz hg hi rfl ho
   refine S.tick _ _ _ _ _ g1.x (by omega) fun w2 hx hz ho2=>?_
   refine ih (i+1) w2 A ov' (by omega) hm (g1.tick hsb hx hz ho2) ⟨K0 g2.row fun b hb _=>ho2 b ?_,g2.blk⟩ (by rw[hz];exact g3) (fun r hr1 h2=>(ho2 r h2).trans (g4 r hr1 h2)) hA
   intro e
   have:=g2.blk b hb
   have:=hsbl b e.symm
   omega
theorem b06(S:R7 sv main sb X)(h:J7 lb sb X w0 s m w)(hsb:∀b,sb=some b→¬SR lb s b)(hsbl:∀b,sb=some b→b<w.heap.size)(hm:m+32<4611686018427387904){c:Frame}{cs:List Frame}{Stop:Goroutine→World→Prop}
 (K:∀w' ov,J7 lb sb X w0 s (m+s.n) w'→g0N w w' ov s.k.ws→w.heap.size≤w'.heap.size→(∀r,r<w.heap.size→some r≠sb→w'.heap[r]? =w.heap[r]?)→J0 Try.prog main F0 Stop (G (c.finish ov) cs) w'):
 J0 Try.prog main F0 Stop (G (Frame.enter Try.prog 28 #[vP lb 0,sv] .normal) (c::cs)) w:=by
 have hn1:0<s.n:=h.u.wf.n1
 have hn16:s.n≤16:=h.u.wf.n2
 refine y01 h.u.h fun A hA=>S.tick _ _ _ _ _ h.x (by omega) fun w1 hx hz ho=>?_
 have h1:=h.tick hsb hx hz ho
 refine h0i (m:=m) (w1:=w) S hsb (fun r hr=>h.u.low hr) h.sz hsbl (fun w' ov g1 g2 g3 g4=>K w' ov g1 g2 g3 g4) (s.n - 1) 0 w1 A (.slice none 0 0) (by omega) (by omega) h1 ⟨World.ownsRow_nil _ _ _ _,fun g hg=>by simp[Value.ownBlock]at hg⟩ (by rw[hz];exact Nat.le_refl _) (fun r _ h2=>ho r h2) hA
theorem d0A(S:R7 sv main sb X)(h:J7 lb sb X w0 s m w)(hsb:∀b,sb=some b→¬SR lb s b)(hsbl:∀b,sb=some b→b<w.heap.size)(hev:s.k.ver.tmod 2=0)(hm:m+64<4611686018427387904){a:Int}{c:Frame}{cs:List Frame}{Stop:Goroutine→World→Prop}
 (K:∀w' ov,J7 lb sb X w0 s (m+s.n+2) w'→g0N w w' ov s.k.ws→w.heap.size≤w'.heap.size→(∀r,r<w.heap.size→some r≠sb→w'.heap[r]? =w.heap[r]?)→J0 Try.prog main F0 Stop (G (c.finish (.tuple #[ov,.bool true])) cs) w'):
 J0 Try.prog main F0 Stop (G (Frame.enter Try.prog 26 #[vP lb 0,sv,vI a] .normal) (c::cs)) w:=by
 have hn16:s.n≤16:=h.u.wf.n2
 refine C0u fun A1 hA1=>S.tick _ _ _ _ _ h.x (by omega) fun w1 hx hz ho=>?_
 have h1:=h.tick hsb hx hz ho
 refine v0f (sv:=sv) (v:=s.k.ver) (by simp[hev]) h1.u.v.c hA1 fun A1 hA1=>?_
 refine b06 S h1 hsb (fun b hb=>by rw[hz];exact hsbl b hb) (by omega) fun w2 ov h2 hr hs2 ho2=>?_
 refine C0x (sv:=sv) hA1 fun A1 hA1=>S.tick _ _ _ _ _ h2.x (by omega) fun w3 hx3 hz3 ho3=>?_
 have h3:=h2.tick hsb hx3 hz3 ho3
 refine v0g (sv:=sv) (u:=s.k.ver) (v:=s.k.ver) (by simp) h3.u.v.c hA1 ?_
 have e:m+1+s.n+1=m+s.n+2:=by omega
 rw[e]at h3
 refine K w3 ov h3 ⟨K0 hr.row fun b hb _=>ho3 b fun e=>?_,fun g hg=>by have:=hr.blk g hg;omega⟩ (by omega) fun r h1 h2=>(ho3 r h2).trans ((ho2 r (by omega) h2).trans (ho r h2))
 have:=hr.blk b hb
 have:=hsbl b e.symm
 omega
end
theorem e0W(main:Bool):R7 .nilIface main none fun _ _=>True where
 tick:=fun m w c cs Stop _ _ K=>i05 (K w trivial rfl fun _ _=>rfl)
 keep:=fun _ _ _ _ _=>trivial
end
section
variable{F:Fz}{w:World}
def pk(h:Int×Int):Int:=(h.1+1)*4294967296+h.2
end
section
structure KSt where
 nx:List Int
 vl:List Int
 hd:Int×Int
 fr:Int×Int
 tg:Bool
structure KCl where
 pc:Nat
 n0:Int
 n1:Int
 n2:Int
 n3:Int
 n4:Int
 a:Int
abbrev KRs:=KCl ⊕ (Bool×Int)
def KSt.turn(s:KSt)(h:Int×Int)(node tag to:Int):Option (Int×Int):=
 if h=(node,tag)then some (to,if s.tg=true then(tag+1) % 2147483648 else 0)else none
def KSt.nxt(s:KSt)(i:Int):Int:=s.nx.getD i.toNat 0
def KSt.val(s:KSt)(i:Int):Int:=s.vl.getD i.toNat 0
def KSt.begin(s:KSt)(o:P3):KSt×KRs:=
 if o.kd=1 then(s,.inl ⟨10,0,0,0,0,0,o.a⟩)
 else if o.kd=2 then(s,.inl ⟨20,0,0,0,0,0,0⟩)
 else if o.kd=3 then(s,.inl ⟨30,0,0,0,0,0,0⟩)
 else if o.kd=4 then(s,.inl ⟨40,0,0,0,0,0,0⟩)
 else(s,.inr (false,0))
def KSt.step(s:KSt)(c:KCl):KSt×KRs:=
 match c.pc with
 | 10=>if s.fr.1<0 then(s,.inr (false,0))else(s,.inl {c with n0:=s.fr.1,n1:=s.fr.2,pc:=11})
 | 11=>(s,.inl {c with n2:=s.nxt c.n0,pc:=12})
 | 12=>match s.turn s.fr c.n0 c.n1 c.n2 with
   | some f=>({s with fr:=f},.inl {c with n4:=c.n0,pc:=13})
   | none=>(s,.inl {c with pc:=10})
 | 13=>({s with vl:=s.vl.set c.n4.toNat c.a},.inl {c with pc:=14})
 | 14=>(s,.inl {c with n0:=s.hd.1,n1:=s.hd.2,pc:=15})
 | 15=>({s with nx:=s.nx.set c.n4.toNat c.n0},.inl {c with pc:=16})
 | 16=>match s.turn s.hd c.n0 c.n1 c.n4 with
   | some f=>({s with hd:=f},.inr (true,0))
   | none=>(s,.inl {c with pc:=14})
 | 20=>if s.hd.1<0 then(s,.inr (false,0))else(s,.inl {c with n0:=s.hd.1,n1:=s.hd.2,pc:=21})
 | 21=>(s,.inl {c with n2:=s.nxt c.n0,pc:=22})
 | 22=>match s.turn s.hd c.n0 c.n1 c.n2 with
   | some f=>({s with hd:=f},.inl {c with n4:=c.n0,pc:=23})
   | none=>(s,.inl {c with pc:=20})
 | 23=>(s,.inl {c with n3:=s.val c.n4,pc:=24})
 | 24=>(s,.inl {c with n0:=s.fr.1,n1:=s.fr.2,pc:=25})
 | 25=>({s with nx:=s.nx.set c.n4.toNat c.n0},.inl {c with pc:=26})
 | 26=>match s.turn s.fr c.n0 c.n1 c.n4 with
   | some f=>({s with fr:=f},.inr (true,c.n3))
   | none=>(s,.inl {c with pc:=24})
 | 30=>if s.hd.1<0 then(s,.inr (false,0))else(s,.inl {c with n0:=s.hd.1,n1:=s.hd.2,pc:=31})
 | 31=>(s,.inl {c with n3:=s.val c.n0,pc:=32})
 | 32=>if s.hd=(c.n0,c.n1)then(s,.inr (true,c.n3))else if s.hd.1<0 then(s,.inr (false,0))else(s,.inl {c with n0:=s.hd.1,n1:=s.hd.2,pc:=31})
 | _=>(s,.inr (decide (s.hd.1<0),0))
structure KWf(s:KSt):Prop where
 n1:s.nx.length=s.vl.length
 n2:0<s.nx.length
 n3:s.nx.length≤65536
 nx:∀v,v∈s.nx→-1≤v∧v<s.nx.length
 hd: -1≤s.hd.1∧s.hd.1<s.nx.length∧0≤s.hd.2∧s.hd.2<2147483648
 fr: -1≤s.fr.1∧s.fr.1<s.nx.length∧0≤s.fr.2∧s.fr.2<2147483648
 tg:s.tg=false→s.hd.2=0∧s.fr.2=0
end
section
variable{P:Program}{main:Bool}{F:Fz}{fn:FuncId}{ops:Array Oper}{S:World→Prop}{last:Nat}{Z:Act→World→Prop}
def Callee(P:Program)(main:Bool)(F:Fz)(f:FuncId)(args:Array Value)(Post:Value→World→Prop)(w:World):Prop:=
 ∀(c:Frame) (cs:List Frame) (Stop:Goroutine→World→Prop),(∀v w',Post v w'→J0 P main F Stop (G (c.finish v) cs) w')→J0 P main F Stop (G (Frame.enter P f args .normal) (c::cs)) w
def OpC(P:Program)(main:Bool)(F:Fz)(fn:FuncId)(ops:Array Oper)(i:Nat)(K:Act→World→Prop)(a:Act)(w:World):Prop:=
 ∃o,ops[i]? =some o∧((Region.wanted o (yielded ops a.tmps)=true∧∀d,uponK o a (fun a' w'=>H7 F (w.at d) w' (listed P fn a o (w.at d))∧K a' w') ((execOp a.eval o).run P (w.at d)))∨
  (Region.wanted o (yielded ops a.tmps)=false∧K (a.put o.dst undef) w)∨
  (Region.wanted o (yielded ops a.tmps)=true∧∃f args Post,(∀w,(execOp a.eval o).run P w= .ok (.enter f args) w)∧(∀w,(execOp a.eval o).events P w #[]= #[])∧Callee P main F f args Post w∧∀v w',Post v w'→K (a.put o.dst v) w'))
def R6(P:Program)(main:Bool)(F:Fz)(fn:FuncId)(ops:Array Oper)(S:World→Prop)(last:Nat)(Z:Act→World→Prop):Nat→Array Bool→Act→World→Prop
 | 0,listed,a,w=>((∀j∈Region.ready .any ops listed,j=last)→Z a w)∧∀j∈Region.ready .any ops listed,j=last
 | fuel+1,listed,a,w=>((∀j∈Region.ready .any ops listed,j=last)→Z a w)∧∀i∈Region.ready .any ops listed,i≠last→OpC P main F fn ops i (fun a w=>S w∧R6 P main F fn ops S last Z fuel (listed.setIfInBounds i true) a w) a w
theorem i0l{i:Nat}{a:Act}{w:World}{K K':Act→World→Prop}(h:∀a w,K a w→K' a w)(hh:OpC P main F fn ops i K a w):OpC P main F fn ops i K' a w:=by
 obtain⟨o,h1,⟨h2,h3⟩|⟨h2,h3⟩|⟨h2,f,args,Post,r1,r2,r3,r4⟩⟩:=hh
 ·exact⟨o,h1,.inl ⟨h2,fun d=>f0z (fun u w ⟨x,y⟩=>⟨x,h _ _ y⟩) (h3 d)⟩⟩
 ·exact⟨o,h1,.inr (.inl ⟨h2,h _ _ h3⟩)⟩
 ·exact⟨o,h1,.inr (.inr ⟨h2,f,args,Post,r1,r2,r3,fun v w' hp=>h _ _ (r4 v w' hp)⟩)⟩
theorem w0x{i:Nat}{a:Act}{w:World}{K:Act→World→Prop}(hK:∀a w d,K a w→K a (World.at w d))(h:OpC P main F fn ops i K a w)(d:Nat):OpC P main F fn ops i K a (w.at d):=by
 obtain⟨o,h1,⟨h2,h3⟩|⟨h2,h3⟩|⟨h2,f,args,Post,r1,r2,r3,r4⟩⟩:=h
 ·exact⟨o,h1,.inl ⟨h2,fun d'=>by rw[at_at'];exact h3 d'⟩⟩
 ·exact⟨o,h1,.inr (.inl ⟨h2,hK _ _ _ h3⟩)⟩
 ·exact⟨o,h1,.inr (.inr ⟨h2,f,args,Post,r1,r2,fun c cs Stop k=>(r3 c cs Stop k).at d,r4⟩)⟩
theorem X4(hS:∀w d,S w→S (World.at w d))(hZ:∀a w d,Z a w→Z a (World.at w d)):∀(fuel:Nat) (listed:Array Bool) (a:Act) (w:World),R6 P main F fn ops S last Z fuel listed a w→∀d,R6 P main F fn ops S last Z fuel listed a (w.at d):=by
 intro fuel
 induction fuel with
 | zero=>exact fun listed a w h d=>⟨fun x=>hZ _ _ _ (h.1 x),h.2⟩
 | succ fuel ih=>exact fun listed a w h d=>⟨fun x=>hZ _ _ _ (h.1 x),fun i hi hl=>w0x (fun a w d ⟨x,y⟩=>⟨hS _ _ x,ih _ _ _ y d⟩) (h.2 i hi hl) d⟩
theorem r0T{i j:Nat}{oi oj:Oper}{v:Value}(hj:ops[j]? =some oj)(hap:oi.apart ops oj=true)(hsj:∀cs b,oj.op≠.select cs b){K:Act→World→Prop}{a:Act}{w:World}
 (h:OpC P main F fn ops j K (a.put oi.dst v) w):OpC P main F fn ops j (fun a' w'=>∃u,a'=a.put oj.dst u∧K (a'.put oi.dst v) w') a w:=by
 obtain⟨h1,h2,h3⟩:=Oper.apart_spec hap
 obtain⟨o,ho,hh⟩:=h
 rw[hj]at ho
 cases ho
 have e1:execOp (a.put oi.dst v).eval oj=execOp a.eval oj:=execOp_put oj hsj a oi.dst v h1
 have e2:=wanted_put oj a oi.dst v h1
 refine⟨oj,hj,?_⟩
 unfold listed at*
 rw[e1,e2]at hh
 rcases hh with⟨hw,hh⟩|⟨hw,hh⟩|⟨hw,f,args,Post,r1,r2,r3,r4⟩
 ·refine .inl ⟨hw,fun d=>?_⟩
  have:=hh d
  cases hr:(execOp a.eval oj).run P (w.at d)with
  | halt _ _=>rw[hr]at this;exact this
  | ok x w'=>
    rw[hr]at this
    cases x with
    | value u=>exact⟨this.1,u,rfl,by rw[← Act.put_comm a v u h2];exact this.2⟩
    | skip=>exact⟨this.1,undef,rfl,by rw[← Act.put_comm a v undef h2];exact this.2⟩
    | _=>exact this
 ·exact .inr (.inl ⟨hw,undef,rfl,by rw[← Act.put_comm a v undef h2];exact hh⟩)
 ·exact .inr (.inr ⟨hw,f,args,Post,r1,r2,r3,fun u w' hp=>⟨u,rfl,by rw[← Act.put_comm a v u h2];exact r4 u w' hp⟩⟩)
theorem j0Q(hS:∀w d,S w→S (World.at w d))(hZ:∀a w d,Z a w→Z a (World.at w d)){i:Nat}{oi:Oper}{v:Value}(hi:ops[i]? =some oi)(hil:i≠last)(hsel:∀(j:Nat) (o:Oper) cs b,ops[j]? =some o→o.op≠.select cs b):
 ∀(fuel:Nat) (listed:Array Bool) (a:Act) (w:World),S w→
  (∀j oj,ops[j]? =some oj→j≠i→listed.getD j true=false→(∀e∈oj.after,Region.binds .any e=true→e.on≠i)→oi.apart ops oj=true)→
  i∈Region.ready .any ops listed→(∀w,S w→YQ P F fn ops w oi v a)→
  R6 P main F fn ops S last Z fuel (listed.setIfInBounds i true) (a.put oi.dst v) w→R6 P main F fn ops S last Z (fuel+1) listed a w:=by
 have self:∀(fuel:Nat) (listed:Array Bool) (a:Act) (w:World),S w→(∀w,S w→YQ P F fn ops w oi v a)→R6 P main F fn ops S last Z fuel (listed.setIfInBounds i true) (a.put oi.dst v) w→
  OpC P main F fn ops i (fun a w=>S w∧R6 P main F fn ops S last Z fuel (listed.setIfInBounds i true) a w) a w:=by
  intro fuel listed a w hw hy H
  rcases hy w hw with⟨h1,h2⟩|⟨h1,rfl⟩
  ·exact⟨oi,hi,.inl ⟨h1,fun d=>by rw[(h2 d).1];exact⟨⟨⟨0,V3.refl F _⟩,(h2 d).2⟩,hS _ _ hw,X4 hS hZ _ _ _ _ H d⟩⟩⟩
  ·exact⟨oi,hi,.inr (.inl ⟨h1,hw,H⟩)⟩
 intro fuel
 induction fuel with
 | zero=>
   intro listed a w hw _ hr hy H
   refine⟨fun h=>absurd (h i hr) hil,fun j hj hjl=>?_⟩
   by_cases hji:j=i
   ·subst hji;exact self _ _ _ _ hw hy H
   ·exact absurd (H.2 j (ready_mono hj hji)) hjl
 | succ fuel ih=>
   intro listed a w hw hfree hr hy H
   refine⟨fun h=>absurd (h i hr) hil,fun j hj hjl=>?_⟩
   by_cases hji:j=i
   ·subst hji;exact self _ _ _ _ hw hy H
   ·have h1:=H.2 j (ready_mono hj hji) hjl
    obtain⟨hjun,oj,hoj,hall⟩:=mem_ready.1 hj
    have hnot:∀e∈oj.after,Region.binds .any e=true→e.on≠i:=fun e he hb heq=>by
     have h1:=hall e he hb
     have h0:=(mem_ready.1 hr).1
     rw[heq]at h1
     rcases Nat.lt_or_ge i listed.size with h'|h'
     ·simp[h']at h0 h1;rw[h0]at h1;cases h1
     ·simp[Array.getElem?_eq_none h']at h1
    have hap:=hfree j oj hoj hji hjun hnot
    obtain⟨p1,p2,p3⟩:=Oper.apart_spec hap
    have h2:=r0T (i:=i) (oi:=oi) hoj hap (fun cs b=>hsel j oj cs b hoj) h1
    have hfree':∀k ok,ops[k]? =some ok→k≠i→(listed.setIfInBounds j true).getD k true=false→
     (∀e∈ok.after,Region.binds .any e=true→e.on≠i)→oi.apart ops ok=true:=fun k ok hk hki hun hno=>by
     refine hfree k ok hk hki ?_ hno
     by_cases hjk:j=k
     ·subst hjk;exact hjun
     ·rw[getD_set_ne true hjk]at hun;exact hun
    refine i0l (fun a' w' h3=>?_) h2
    obtain⟨u,rfl,hw',h4⟩:=h3
    refine⟨hw',ih (listed.setIfInBounds j true) _ _ hw' hfree' (ready_mono hr (Ne.symm hji)) (fun w hw=>(hy w hw).of_same (execOp_put oi (fun cs b=>hsel i oi cs b hi) a oj.dst u p3) (wanted_put oi a oj.dst u p3)) ?_⟩
    rw[Array.setIfInBounds_comm _ _ hji]
    exact h4
theorem G9(hS:∀w d,S w→S (World.at w d))(hZ:∀a w d,Z a w→Z a (World.at w d)){i:Nat}{oi:Oper}{v:Value}{fuel:Nat}{listed:Array Bool}{a:Act}{w:World}(hw:S w)(hi:ops[i]? =some oi)(hil:(i != last)=true)(hs:Region.noSelect ops=true)(hf:Region.free .any ops listed i=true)
 (hr:(Region.ready .any ops listed).contains i=true) (hy:∀w,S w→YQ P F fn ops w oi v a) (h:R6 P main F fn ops S last Z fuel (listed.setIfInBounds i true) (a.put oi.dst v) w):R6 P main F fn ops S last Z (fuel+1) listed a w:=
 j0Q hS hZ hi (by simpa using hil) (Region.noSelect_spec hs) fuel listed a w hw (Region.free_spec hi hf) (by simpa using hr) hy h
theorem Z2{fuel:Nat}{listed:Array Bool}{a:Act}{w:World}{r:List Nat}(hr:Region.ready .any ops listed=r)(hl:r.any (· != last)=true)
 (h:∀i∈r,i≠last→OpC P main F fn ops i (fun a w=>S w∧R6 P main F fn ops S last Z fuel (listed.setIfInBounds i true) a w) a w):R6 P main F fn ops S last Z (fuel+1) listed a w:=
 ⟨fun hn=>by
  rw[hr]at hn
  obtain⟨i,hi,hil⟩:=List.any_eq_true.1 hl
  exact absurd (hn i hi) (by simpa using hil),by rw[hr];exact h⟩
theorem F9{listed:Array Bool}{a:Act}{w:World}(hr:Region.ready .any ops listed=[last])(h:Z a w):∀fuel,R6 P main F fn ops S last Z fuel listed a w
 | 0=>⟨fun _=>h,by rw[hr];simp⟩
 | _+1=>⟨fun _=>h,fun i hi hne=>absurd (by rw[hr]at hi;simpa using hi) hne⟩
theorem s0N{Stop:Goroutine→World→Prop}{b:Frame}{a:Act}{w:World}{k:List Item}{cs:List Frame}{i:Nat}{rest:List Nat}(hk:b.kind≠.early)
 (h:OpC P main F b.fn ops i (fun a w=>J0 P main F Stop (G (b.at a (.inRegion ops rest::k)) cs) w) a w):J0 P main F Stop (G (b.at a (.inRegion ops (i::rest)::k)) cs) w:=by
 obtain⟨o,ho,⟨hw,hh⟩|⟨hw,hh⟩|⟨hw,f,args,Post,r1,r2,r3,r4⟩⟩:=h
 ·refine .step rfl fun d=>?_
  have:=hh d
  cases hr:(execOp a.eval o).run P (w.at d)with
  | halt _ _=>rw[hr]at this;exact this.elim
  | ok x w'=>
    rw[hr]at this
    cases x with
    | value u=>exact⟨_,_,_,stepG_value ho hw hk hr,this.1,this.2⟩
    | skip=>exact⟨_,_,_,stepG_none ho hw hk hr,this.1,this.2⟩
    | _=>exact this.elim
 ·exact .step rfl fun d=>⟨_,_,#[],stepG_unwanted ho hw,⟨⟨0,V3.refl F _⟩,by simp⟩,hh.at d⟩
 ·refine Y7 ho hw hk r1 r2 (r3 _ _ _ fun v w' hp=>?_)
  have hfin:(b.at a (.inRegion ops (i::rest)::k)).finish v=b.at (a.put o.dst v) (.inRegion ops rest::k):=by rw[Frame.finish_at,ho];rfl
  rw[hfin]
  exact r4 v w' hp
theorem j0R(L:LL ops last){Stop:Goroutine→World→Prop}{b:Frame}{k:List Item}{cs:List Frame}(hk:b.kind≠.early):
 ∀(fuel t:Nat) (listed:Array Bool) (a:Act) (w:World),listed.size=ops.size→g0L ops listed→listed.getD last true=false→
  R6 P main F b.fn ops S last (fun a w=>J0 P main F Stop (G (b.at a (.inRegion ops [last]::k)) cs) w) fuel listed a w→
  J0 P main F Stop (G (b.at a (.inRegion ops (Region.linearise.go .any ops (fuel+1) t listed [])::k)) cs) w:=by
 intro fuel
 induction fuel with
 | zero=>?_
 | succ fuel ih=>?_
 all_goals
  intro t listed a w hs hc hl H
  obtain⟨i0,hi0⟩:=c0d L hs last hl
  have hlen:0<(Region.ready .any ops listed).length:=List.length_pos_of_mem hi0
  obtain⟨i,hi⟩:∃i,(Region.ready .any ops listed)[t % (Region.ready .any ops listed).length]? =some i:=⟨_,List.getElem?_eq_getElem (Nat.mod_lt _ hlen)⟩
  have hmem:=List.mem_of_getElem? hi
  rw[Region.linearise.go]
  change J0 P main F Stop (G (b.at a (.inRegion ops (match(Region.ready .any ops listed)[t % (Region.ready .any ops listed).length]? with
   | some i=>Region.linearise.go .any ops _ (t / (Region.ready .any ops listed).length) (listed.setIfInBounds i true) [i]
   | none=>[].reverse)::k)) cs) w
  rw[hi]
  simp only[]
  rw[linearise_go_acc,List.reverse_singleton,List.singleton_append]
 ·obtain rfl:=H.2 i hmem
  simp only[Region.linearise.go,List.reverse_nil]
  exact H.1 H.2
 ·by_cases hil:i=last
  ·subst hil
   have hall:=b0R L hs hc hmem i
   have hre:∀j∈Region.ready .any ops listed,j=i:=by
    intro j hj
    obtain⟨h0,o,ho,_⟩:=mem_ready.1 hj
    have hlt:=(Q3 ho)
    have hsz:=L.size
    rcases Nat.lt_or_ge j i with h|h
    ·have:=hall j (by omega) h
     rw[Q7 (by omega),this]at h0;cases h0
    ·omega
   have hnil:Region.ready .any ops (listed.setIfInBounds i true)=[]:=by
    apply List.eq_nil_iff_forall_not_mem.2
    intro j hj
    obtain⟨h0,o,ho,_⟩:=mem_ready.1 hj
    have hlt:=(Q3 ho)
    have hsz:=L.size
    by_cases e:i=j
    ·subst e
     rw[Q7 (by simp;omega)]at h0
     have:i<listed.size:=by omega
     simp[this]at h0
    ·rw[getD_set_ne true e,Q7 (by omega),hall j (by omega) (by omega)]at h0;cases h0
   have:Region.linearise.go .any ops (fuel+1) (t / (Region.ready .any ops listed).length) (listed.setIfInBounds i true) []=[]:=by
    rw[Region.linearise.go]
    change(match(Region.ready .any ops (listed.setIfInBounds i true))[(t / (Region.ready .any ops listed).length) % (Region.ready .any ops (listed.setIfInBounds i true)).length]? with
     | some i=>_
     | none=>[].reverse)=[]
    rw[hnil];rfl
   rw[this]
   exact H.1 hre
  ·refine s0N hk (i0l (fun a' w' ⟨_,hK⟩=>ih _ _ _ _ (by simpa using hs) (fun j o' hj hlj e he hb=>?_) (by rw[getD_set_ne true hil];exact hl) hK) (H.2 i hmem hil))
   by_cases e2:i=j
   ·subst e2
    obtain⟨_,o2,ho2,hd⟩:=mem_ready.1 hmem
    rw[hj]at ho2
    cases ho2
    exact getD_set_true (hd e he hb)
   ·rw[getD_set_ne false e2]at hlj
    exact getD_set_true (hc j o' hj hlj e he hb)
theorem T8(S:World→Prop)(hm:P.follows .mixedOrders=true)(L:LL ops last){id:Nat}{Stop:Goroutine→World→Prop}{b:Frame}{a:Act}{w:World}{k:List Item}{cs:List Frame}(hk:b.kind≠.early)
 (h:R6 P main F b.fn ops S last (fun a w=>J0 P main F Stop (G (b.at a (.inRegion ops [last]::k)) cs) w) last (Array.replicate ops.size false) a w):
 J0 P main F Stop (G (b.at a (.code (.region id ops true)::k)) cs) w:=by
 refine .step rfl fun d=>⟨_,_,_,stepG_region_draw,⟨⟨1,?_⟩,by simp⟩,?_⟩
 ·exact⟨rfl,rfl,rfl,rfl,Nat.le_refl _,fun _ _ h=>.inr h,fun _ _=>rfl⟩
 ·have hs:=L.size
  have:=j0R (S:=S) (cs:=cs) (k:=k) L hk last ((w.at d).tape (w.at d).drawn (.order b.fn id)) (Array.replicate ops.size false) a w (by simp) (fun j o _ hl=>by
   simp at hl
   rcases Nat.lt_or_ge j ops.size with h1|h1<;>simp[h1]at hl) (by simp[hs]) h
  rw[← hs]at this
  simp only[Region.schedule,hm,Bool.true_or,if_true]
  exact this.at (d+1)
section
variable {fuel : Nat} {listed : Array Bool} {a : Act} {w : World} {oi : Oper}
theorem c9 (i : Nat) (v : Value) (hS : ∀ w d, S w → S (World.at w d)) (hw : S w) (h : R6 P main F fn ops S last Z fuel (listed.setIfInBounds i true) (a.put oi.dst v) w) (hZ : ∀ a w d, Z a w → Z a (World.at w d) := by exact fun _ _ d h => h.at d) (hi : ops[i]? = some oi := by exact rfl) (hil : (i != last) = true := by exact rfl) (hs : Region.noSelect ops = true := by kernel_rfl) (hf : Region.free .any ops listed i = true := by kernel_rfl) (hr : (Region.ready .any ops listed).contains i = true := by kernel_rfl) (hy : ∀ w, S w → YQ P F fn ops w oi v a := by exact fun u hu => .inl ⟨rfl, fun d => ⟨by simp [go_sem, execOp, Act.eval], fun e he => by have hm := mem_listed he; simp [go_sem, execOp, Act.eval] at hm⟩⟩) : R6 P main F fn ops S last Z (fuel + 1) listed a w := G9 hS hZ hw hi hil hs hf hr hy h
theorem t09 {Q : World → Prop} (i : Nat) (v : Value) (f : ∀ u, S u → Q u) (hS : ∀ w d, S w → S (World.at w d)) (hw : S w) (h : R6 P main F fn ops S last Z fuel (listed.setIfInBounds i true) (a.put oi.dst v) w) (hZ : ∀ a w d, Z a w → Z a (World.at w d) := by exact fun _ _ d h => h.at d) (hi : ops[i]? = some oi := by exact rfl) (hil : (i != last) = true := by exact rfl) (hs : Region.noSelect ops = true := by kernel_rfl) (hf : Region.free .any ops listed i = true := by kernel_rfl) (hr : (Region.ready .any ops listed).contains i = true := by kernel_rfl) (hy : (∀ u, S u → Q u) → ∀ w, S w → YQ P F fn ops w oi v a := by intro f0; exact fun u hu => (fun f => .inl ⟨rfl, fun d => ⟨by simp [go_sem, execOp, Act.eval, f], fun e he => by have hm := mem_listed he; simp [go_sem, execOp, Act.eval, f] at hm⟩⟩) (f0 u hu)) : R6 P main F fn ops S last Z (fuel + 1) listed a w := G9 hS hZ hw hi hil hs hf hr (hy f) h
theorem V9 {Q : World → Prop} (i : Nat) (v : Value) (f : ∀ u, S u → Q u) (hS : ∀ w d, S w → S (World.at w d)) (hw : S w) (h : R6 P main F fn ops S last Z fuel (listed.setIfInBounds i true) (a.put oi.dst v) w) (hZ : ∀ a w d, Z a w → Z a (World.at w d) := by exact fun _ _ d h => h.at d) (hi : ops[i]? = some oi := by exact rfl) (hil : (i != last) = true := by exact rfl) (hs : Region.noSelect ops = true := by kernel_rfl) (hf : Region.free .any ops listed i = true := by kernel_rfl) (hr : (Region.ready .any ops listed).contains i = true := by kernel_rfl) (hy : (∀ u, S u → Q u) → ∀ w, S w → YQ P F fn ops w oi v a := by intro f0; exact fun u hu => (fun f => .inl ⟨rfl, fun d => ⟨by simp [go_sem, execOp, Act.eval, f], fun e he => by have hm := mem_listed he; simp [go_sem, execOp, Act.eval, f] at hm; first | (subst hm; exact I1 _ _) | (rcases hm with rfl | rfl | rfl <;> exact I1 _ _) | (rcases hm with rfl | rfl | rfl | rfl <;> exact I1 _ _)⟩⟩) (f0 u hu)) : R6 P main F fn ops S last Z (fuel + 1) listed a w := G9 hS hZ hw hi hil hs hf hr (hy f) h
end
end
noncomputable section
variable{F:Fz}{w:World}
structure KH(kb nb m:Nat)(w:World):Prop where
 c2:w.cell? ⟨kb,2,none⟩=some (vL nb 0 m m)
theorem KH.at{kb nb m:Nat}{w:World}(h:KH kb nb m w)(d:Nat):KH kb nb m (w.at d):=⟨h.c2⟩
def s0B:Code:=Try.f78.body.getD .skip
def i0P:=pC [zf,zt,zt] s0B
def B0o:=pC [zt,zt] i0P
def p0v:=pC [zt,zf] i0P
def B0p:=pC [zf,zf,zf,zt] p0v
def p0w:=pC [zf,zf,zf,zf] p0v
def B0q:=pC [zf,zt] p0w
def x0z:=pC [zf,zf] p0w
def s0z:Code:=Try.f80.body.getD .skip
def i0O:=pC [zt,zt] s0z
def A07:=pC [zt,zt] i0O
def p0m:=pC [zt,zf] i0O
def A08:=pC [zf,zt] p0m
def p0n:=pC [zf,zf] p0m
def A09:=pC [zf,zt] p0n
def B0a:=pC [zf,zf] p0n
end
noncomputable section
variable{F:Fz}{w:World}
@[go_sem] theorem x0f(a:Addr)(w:World)(es:Array Event):(binOp .eql 74 (.pointer (some a)) (.pointer none)).events Try.prog w es=es:=by kernel_rfl
def l0I:Code:=Try.f45.body.getD .skip
def B0k:=pC [zf,zf,zt] l0I
def p0t:=pC [zf,zf,zf] l0I
def B0l:=pC [zf,zt] p0t
def p0u:=pC [zf,zf] p0t
def B0m:=pC [zf,zt] p0u
def x0y:=pC [zf,zf] p0u
def l0H:Code:=Try.f43.body.getD .skip
def B0g:=pC [zf,zf,zt] l0H
def p0r:=pC [zf,zf,zf] l0H
def B0h:=pC [zf,zt] p0r
def p0s:=pC [zf,zf] p0r
def B0i:=pC [zf,zt] p0s
def x0x:=pC [zf,zf] p0s
def l0F:Code:=Try.f44.body.getD .skip
def B0c:=pC [zf,zf,zt] l0F
def p0q:=pC [zf,zf,zf] l0F
def l0G:=pC [zf,zt,zt,zt] p0q
def B0d:=pC [zf,zt,zt] l0G
def k0l:=pC [zf,zt,zf] l0G
def B0e:=pC [zf,zt] k0l
def x0w:=pC [zf,zf] k0l
def p0p:=pC [zf,zf] p0q
def l0E:Code:=Try.f46.body.getD .skip
def A04:=pC [zf,zf,zt] l0E
def A05:=pC [zf,zf,zf] l0E
end
noncomputable section
variable{F:Fz}{w:World}
def a0d:Code:=Try.f64.body.getD .skip
def A0Z:=pC [zf,zt,zf,zt,zf,zt,zt] a0d
def A00:=pC [zf,zt,zf,zt,zf,zf,zf,zt,zt] a0d
def A02:=pC [zf,zt,zf,zt,zf,zf,zf,zt,zf] a0d
def A01:=pC [zf,zt,zf,zt,zf,zf,zf,zf,zf,zt,zt] a0d
def x0v:=pC [zf,zt,zf,zt,zf,zf,zf,zf,zf,zt,zf] a0d
def x0u:=pC [zf,zt,zf,zt,zf,zf,zf,zf,zf,zf,zf,zt,zt] a0d
def g04:=pC [zf,zf] a0d
end
section
variable{F:Fz}{w w':World}{kb:Nat}
structure KS where
 k:KSt
 nb:Nat
abbrev KS.m(s:KS):Nat:=s.k.nx.length
structure KU(kb:Nat)(s:KS)(w:World):Prop where
 wf:KWf s.k
 o:w.heap[kb]? =some (.cells #[.int .u64 (pk s.k.hd),.int .u64 (pk s.k.fr),vL s.nb 0 s.m s.m,.bool s.k.tg] 92 (0,0))
 n:∃c,w.heap[s.nb]? =some (.cells c 129 (0,0))∧c.size=s.m*2∧∀i,i<s.m→c[i*2]? =some (vI (s.k.nx.getD i 0))∧c[i*2+1]? =some (vI (s.k.vl.getD i 0))
def KR(kb:Nat)(s:KS)(r:Nat):Prop:=r=kb∨r=s.nb
section
variable{s:KS}
theorem KU.ne(h:KU kb s w):s.nb≠kb:=by
 intro e
 obtain⟨c,h1,_⟩:=h.n
 rw[e,h.o]at h1
 simp only[Option.some.injEq,Obj.cells.injEq]at h1
 exact absurd h1.2.1 (by decide)
theorem KU.low(h:KU kb s w){r:Nat}(hr:KR kb s r):r<w.heap.size:=by
 rcases hr with rfl|rfl
 ·exact(Array.getElem?_eq_some_iff.1 h.o).1
 ·obtain⟨c,h1,_⟩:=h.n
  exact(Q3 h1)
theorem KU.same(h:KU kb s w)(hs:∀r,KR kb s r→w'.heap[r]? =w.heap[r]?):KU kb s w':=by
 obtain⟨c,h1,h2⟩:=h.n
 exact⟨h.wf,(hs _ (.inl rfl)).trans h.o,c,(hs _ (.inr rfl)).trans h1,h2⟩
theorem KU.c0(h:KU kb s w):w.cell? ⟨kb,0,none⟩=some (.int .u64 (pk s.k.hd)):=by simp[World.cell?,h.o]
theorem KU.c1(h:KU kb s w):w.cell? ⟨kb,1,none⟩=some (.int .u64 (pk s.k.fr)):=by simp[World.cell?,h.o]
theorem KU.c2(h:KU kb s w):KH kb s.nb s.m w:=⟨by simp[World.cell?,h.o]⟩
theorem KU.c3(h:KU kb s w):w.cell? ⟨kb,3,none⟩=some (.bool s.k.tg):=by simp[World.cell?,h.o]
theorem KU.z(h:KU kb s w)(j:Nat):w.frozen? ⟨kb,j,none⟩=false:=by simp[World.frozen?,h.o]
theorem KU.nc(h:KU kb s w){i:Nat}(hi:i<s.m):w.cell? ⟨s.nb,i*2,none⟩=some (vI (s.k.nx.getD i 0))∧w.cell? ⟨s.nb,i*2+1,none⟩=some (vI (s.k.vl.getD i 0))∧∀j,w.frozen? ⟨s.nb,j,none⟩=false:=by
 obtain⟨c,h1,h2,h3⟩:=h.n
 obtain⟨e1,e2⟩:=h3 i hi
 exact⟨by simp only[World.cell?,h1];simpa using e1,by simp only[World.cell?,h1];simpa using e2,fun j=>by simp[World.frozen?,h1]⟩
end
end
section
variable{w w':World}{kb:Nat}
theorem n0G{b o:Nat}{v:Int}(hc:w.cell? ⟨b,o,none⟩=some (vI v)):
 Calls Try.prog 54 #[vP b o] w fun e w'=>e= .returned (vI v)∧w'=w:=by
 have hl:=run_call_load (P:=Try.prog) Try.func88 (by kernel_rfl) (by kernel_rfl) (by kernel_rfl) .i64 (by kernel_rfl) hc
 go_enter Try.func54,Try.ntmps54
 go_wp2
 go_ret
 exact⟨rfl,rfl⟩
theorem n06{b o:Nat}{u:Value}{v:Int}(hc:w.cell? ⟨b,o,none⟩=some u)(hz:w.frozen? ⟨b,o,none⟩=false):
 Calls Try.prog 52 #[vP b o,vI v] w fun e w'=>e= .returned (.tuple #[])∧w'=w.setCell ⟨b,o,none⟩ (vI v):=by
 have hl:=run_call_store (P:=Try.prog) Try.func87 (by kernel_rfl) (by kernel_rfl) (by kernel_rfl) (by kernel_rfl) (k:=.i64) (y:=v) hc hz
 go_enter Try.func52,Try.ntmps52
 go_wp2
 go_end0
 exact⟨rfl,rfl⟩
end
section
variable{w w':World}{kb:Nat}
theorem KU.hn{s:KS}(h:KU kb s w):((-1≤s.k.hd.1∧s.k.hd.1<65536)∧0≤s.k.hd.2∧s.k.hd.2<2147483648)∧(-1≤s.k.fr.1∧s.k.fr.1<65536)∧0≤s.k.fr.2∧s.k.fr.2<2147483648:=by
 obtain⟨a1,a2,a3,a4⟩:=h.wf.hd
 obtain⟨b1,b2,b3,b4⟩:=h.wf.fr
 have hm:=h.wf.n3
 exact⟨⟨⟨a1,by omega⟩,a3,a4⟩,⟨b1,by omega⟩,b3,b4⟩
theorem KU.heap{s:KS}(h:KU kb s w)(e:w'.heap=w.heap):KU kb s w':=h.same fun r _=>by rw[e]
def KSt.walk(s:KSt):Nat→Int→List Int
 | 0,_=>[]
 | f+1,i=>if i<0 then[]else s.val i::s.walk f (s.nxt i)
def KSt.vals(s:KSt):List Int:=s.walk s.nx.length s.hd.1
theorem X9.more{w u w1:World}{ov:Value}{xs ys:List Int}(h:X9 w u ov xs){v':Value}(hown:w1.ownsRow 0 2 1 v' (xs.length+ys.length) ((xs.map fun v=>vI v)++ys.map fun v=>vI v))(hg:u.grownBy w1 ov.ownBlock)(hf:v'.ownBlock=ov.ownBlock∨∃g,v'.ownBlock=some g∧u.heap.size≤g):X9 w w1 v' (xs++ys):=by
 refine⟨by simpa using hown,by have:=h.size;have:=hg.size;omega,fun r hr=>?_,fun g hgv=>?_⟩
 ·have hsz:=h.size
  refine(hg.block r (by omega) fun e=>?_).trans (h.old r hr)
  have:=h.new r e.symm
  omega
 ·rcases hf with e|⟨g',e,h2⟩
  ·exact h.new g (e ▸ hgv)
  ·rw[e]at hgv
   cases hgv
   have:=h.size
   omega
end
section
variable{w w':World}{kb:Nat}
def c0v(n:Nat)(tg:Bool):KSt:=⟨(List.range n).map fun i=>if i+1=n then -1 else((i+1:Nat):Int),List.replicate n 0,(-1,0),(0,0),tg⟩
structure KMk(w:World)(n k:Nat)(tg:Bool)(wr:World):Prop where
 o:wr.heap[w.heap.size+1]? =some (.cells #[.int .u64 0,.int .u64 0,vL w.heap.size 0 n n,.bool tg] 92 (0,0))
 n:∃c,wr.heap[w.heap.size]? =some (.cells c 129 (0,0))∧c.size=n*2∧∀i,i<n→c[i*2]? =some (vI (if i<k then((i+1:Nat):Int)else 0))∧c[i*2+1]? =some (vI 0)
 s:wr.heap.size=w.heap.size+2
 old:∀r,r<w.heap.size→wr.heap[r]? =w.heap[r]?
theorem KMk.next{n k:Nat}{tg:Bool}{wr:World}(h:KMk w n k tg wr)(hk:k<n):KMk w n (k+1) tg (wr.setCell ⟨w.heap.size,k*2,none⟩ (vI ((k:Int)+1))):=by
 obtain⟨c,h1,h2,h3⟩:=h.n
 refine⟨(I0 _ _ _ (by simp)).trans h.o,⟨c.setIfInBounds (k*2) (vI ((k:Int)+1)),by rw[U1 h1],by simpa using h2,fun i hi=>?_⟩,by rw[World.size_setCell];exact h.s,fun r hr=>(I0 _ _ _ (by simp only;omega)).trans (h.old r hr)⟩
 obtain⟨e1,e2⟩:=h3 i hi
 refine⟨?_,by rw[Array.getElem?_setIfInBounds_ne (by omega)];exact e2⟩
 by_cases e:k=i
 ·subst e
  rw[Array.getElem?_setIfInBounds_self_of_lt (by omega),if_pos (by omega)]
  simp
 ·rw[Array.getElem?_setIfInBounds_ne (by omega),e1]
  by_cases e2:i<k
  ·rw[if_pos e2,if_pos (by omega)]
  ·rw[if_neg e2,if_neg (by omega)]
theorem p0o{n:Nat}{tg:Bool}{i:Nat}(hi:i<n):(c0v n tg).nx.getD i 0=(if i+1=n then -1 else((i+1:Nat):Int))∧(c0v n tg).vl.getD i 0=0:=by
 simp[c0v,List.getD_eq_getElem?_getD,List.getElem?_map,List.getElem?_range hi,List.getElem?_replicate,hi]
theorem s0A{n:Nat}(h0:0<n)(h1:n≤65536)(tg:Bool):KWf (c0v n tg):=by
 refine⟨by simp[c0v],by simpa [c0v]using h0,by simpa [c0v]using h1,fun v hv=>?_,?_,?_,fun _=>⟨rfl,rfl⟩⟩
 ·simp only[c0v,List.mem_map,List.mem_range]at hv
  obtain⟨i,hi,rfl⟩:=hv
  simp only[c0v,List.length_map,List.length_range]
  split<;>omega
 ·simp[c0v]
  omega
 ·simp[c0v]
  omega
theorem KMk.done{n:Nat}{tg:Bool}{wr:World}(h:KMk w n n tg wr)(h0:0<n)(h1:n≤65536):KU (w.heap.size+1) ⟨c0v n tg,w.heap.size⟩ ((wr.setCell ⟨w.heap.size,(n - 1)*2,none⟩ (vI (-1))).setCell ⟨w.heap.size+1,1,none⟩ (.int .u64 (pk (0,0)))):=by
 obtain⟨c,h1',h2,h3⟩:=h.n
 have hm:(KS.m ⟨c0v n tg,w.heap.size⟩)=n:=by simp[KS.m,c0v]
 refine⟨s0A h0 h1 tg,?_,c.setIfInBounds ((n - 1)*2) (vI (-1)),?_,by rw[hm];simpa using h2,fun i hi=>?_⟩
 ·rw[U1 (show(wr.setCell ⟨w.heap.size,(n - 1)*2,none⟩ (vI (-1))).heap[w.heap.size+1]? =_ from(I0 _ _ _ (by simp)).trans h.o),hm]
  rfl
 ·rw[I0 _ _ _ (by simp),U1 h1']
 ·rw[hm]at hi
  obtain⟨e1,e2⟩:=h3 i hi
  obtain⟨g1,g2⟩:=p0o (tg:=tg) hi
  refine⟨?_,?_⟩
  ·simp only
   rw[g1]
   by_cases e:i+1=n
   ·rw[if_pos e,show(n - 1)*2=i*2 by omega,Array.getElem?_setIfInBounds_self_of_lt (by omega)]
   ·rw[if_neg e,Array.getElem?_setIfInBounds_ne (by omega),e1,if_pos hi]
  ·simp only
   rw[g2,Array.getElem?_setIfInBounds_ne (by omega)]
   exact e2
end
section
structure a0E(P:Program)(f:FuncId):Prop where
 e : ∃ fn, P.funcs[f]? = some fn ∧ (fn.name == "runtime.NumGoroutine") = false ∧ fn.body = none ∧ Extern.findNext fn = none ∧ ∃ x, Extern.find fn = some x ∧ u0j P true x
theorem a0b{P:Program}{l x:List Nat}(hx:∀f∈x,a0E P f)(h:l.all (fun f=>x.contains f || codeOkF P (fun f=>l.contains f) f)=true):Z5 P (fun f=>l.contains f) true:=fun f hf=>by
 have h1:=List.all_eq_true.1 h f (List.contains_iff_mem.1 hf)
 rw[Bool.or_eq_true]at h1
 rcases h1 with h1|h1
 ·obtain⟨fn,a1,a2,a3,a4,y,a5,a6⟩:=(hx f (List.contains_iff_mem.1 h1)).e
  exact⟨fn,a1,a2,.inr ⟨a3,a4,y,a5,a6⟩⟩
 ·obtain⟨fn,a1,a2,c,a3,a4⟩:=k0b h1
  exact⟨fn,a1,a2,.inl ⟨c,a3,a4⟩⟩
theorem i0I {f : FuncId} {fn : Func} {t : Extern.Atomic.T} (h1 : Try.prog.funcs[f]? = some fn) (h2 : (fn.name == "runtime.NumGoroutine") = false) (h3 : fn.body = none) (h4 : Extern.findNext fn = none) (h5 : Extern.find fn = some (Extern.Atomic.loadT t)) : a0E Try.prog f :=
 ⟨fn,h1,h2,h3,h4,_,h5,fun F _ args=>j0.loadT t args⟩
theorem f08 {f : FuncId} {fn : Func} (h1 : Try.prog.funcs[f]? = some fn) (h2 : (fn.name == "runtime.NumGoroutine") = false) (h3 : fn.body = none) (h4 : Extern.findNext fn = none) (h5 : Extern.find fn = some Extern.Atomic.storeT) : a0E Try.prog f :=
 ⟨fn,h1,h2,h3,h4,_,h5,fun F _ args=>j0.storeT args⟩
theorem l0y {f : FuncId} {fn : Func} {t : Extern.Atomic.T} (h1 : Try.prog.funcs[f]? = some fn) (h2 : (fn.name == "runtime.NumGoroutine") = false) (h3 : fn.body = none) (h4 : Extern.findNext fn = none) (h5 : Extern.find fn = some (Extern.Atomic.casT t)) : a0E Try.prog f :=
 ⟨fn,h1,h2,h3,h4,_,h5,fun F hF args=>j0.casT t (hF rfl) args⟩
theorem A0Q:a0E Try.prog 87:=f08 Try.func87 (by kernel_rfl) (by kernel_rfl) (by kernel_rfl) (by kernel_rfl)
theorem A0R:a0E Try.prog 88:=i0I (t:=.int .i64) Try.func88 (by kernel_rfl) (by kernel_rfl) (by kernel_rfl) (by kernel_rfl)
theorem A0S:a0E Try.prog 96:=f08 Try.func96 (by kernel_rfl) (by kernel_rfl) (by kernel_rfl) (by kernel_rfl)
theorem A0T:a0E Try.prog 97:=i0I (t:=.int .u64) Try.func97 (by kernel_rfl) (by kernel_rfl) (by kernel_rfl) (by kernel_rfl)
theorem x0i:a0E Try.prog 113:=l0y (t:=.int .i64) Try.func113 (by kernel_rfl) (by kernel_rfl) (by kernel_rfl) (by kernel_rfl)
theorem x0j:a0E Try.prog 114:=l0y (t:=.int .u64) Try.func114 (by kernel_rfl) (by kernel_rfl) (by kernel_rfl) (by kernel_rfl)
theorem E0r:∀f∈[87,88,96,97,113,114],a0E Try.prog f:=by
 intro f hf
 simp only[List.mem_cons,List.not_mem_nil,or_false]at hf
 rcases hf with rfl|rfl|rfl|rfl|rfl|rfl
 ·exact A0Q
 ·exact A0R
 ·exact A0S
 ·exact A0T
 ·exact x0i
 ·exact x0j
theorem Y6.mono{P:Program}{fn:Func}{args:Array Value}{w:World}{R R':Value→World→Prop}(h:Y6 P fn args w R)(hr:∀v u,R v u→R' v u):Y6 P fn args w R':=fun c hc=>by
 refine Code.wp_mono (fun e a u hq=>?_) (h c hc)
 cases e with
 | normal=>obtain⟨h1,v,h2,v',h3,h4⟩:=hq;exact⟨h1,v,h2,v',h3,hr _ _ h4⟩
 | ret=>obtain⟨h1,v,h2,v',h3,h4⟩:=hq;exact⟨h1,v,h2,v',h3,hr _ _ h4⟩
 | panic ch=>obtain⟨h1,v',h3,h4⟩:=hq;exact⟨h1,v',h3,hr _ _ h4⟩
 | outgrown=>obtain⟨v',h3,h4⟩:=hq;exact⟨v',h3,hr _ _ h4⟩
 | exit _=>exact hq
 | goto _=>exact hq
variable{w w':World}{kb:Nat}
end
section
variable{w w':World}{lb:Nat}
theorem x0r:∃i z,Try.prog.info? 60=some i∧i.zero=some z∧i.size=1∧i.bytes=8∧z.cells= #[vI 0]:=by
 obtain⟨i,hi,h⟩:=Option.map_eq_some_iff.1 (show(Try.prog.info? 60).map (fun i=>(i.zero.map Value.cells,i.size,i.bytes))=some (some #[vI 0],1,8)by kernel_rfl)
 simp only[Prod.mk.injEq]at h
 obtain⟨z,hz,hc⟩:=Option.map_eq_some_iff.1 h.1
 exact⟨i,z,hi,hz,h.2.1,h.2.2,hc⟩
theorem E0J{n:Nat}(hn:n≤16)(w:World):(Instr.makeSlice 62 (vI n) (vI n)).run Try.prog w= .ok (vL w.heap.size 0 n n) (w.alloc (.cells (madeCells #[vI 0] n) 60)):=by
 obtain⟨i,z,hi,hz,hs,hb,hc⟩:=x0r
 have:=run_make (P:=Try.prog) w 62 60 i _ Try.underlying62 hi hz .i64 .i64 n n (by omega) (by omega) (by rw[hb];omega) (by omega)
 rw[hs,hc]at this
 simpa using this
theorem n0H(n k:Nat)(h:k<n):(madeCells #[vI 0] n)[k]? =some (vI 0):=by
 simp only[madeCells,Array.getElem?_map,Array.getElem?_range]
 rw[if_pos h]
 simp[Nat.mod_one]
def o5(w:World)(va:Option Addr)(xs:List Int):Prop:=∀i x,xs[i]? =some x→∃b o,va=some ⟨b,o,none⟩∧w.cell? ⟨b,o+i,none⟩=some (vI x)
theorem o5.same{va:Option Addr}{xs:List Int}(h:o5 w va xs)(hs:∀r,r<w.heap.size→w'.heap[r]? =w.heap[r]?):o5 w' va xs:=fun i x hx=>by
 obtain⟨b,o,e,h1⟩:=h i x hx
 exact⟨b,o,e,(F1 (j:=o+i) (hs b (I9 h1))).1.trans h1⟩
structure SMk(w:World)(n k:Nat)(xs:List Int)(wr:World):Prop where
 o:wr.heap[w.heap.size+1]? =some (.cells #[vI 0,vI 0,vL w.heap.size 0 n n] 64 (0,0))
 n:∃c,wr.heap[w.heap.size]? =some (.cells c 60 (0,0))∧c.size=n∧∀i,i<n→c[i]? =some (vI (if i<k then xs.getD i 0 else 0))
 s:wr.heap.size=w.heap.size+2
 old:∀r,r<w.heap.size→wr.heap[r]? =w.heap[r]?
theorem SMk.next{n k:Nat}{xs:List Int}{wr:World}(h:SMk w n k xs wr)(hk:k<n):SMk w n (k+1) xs (wr.setCell ⟨w.heap.size,k,none⟩ (vI (xs.getD k 0))):=by
 obtain⟨c,h1,h2,h3⟩:=h.n
 refine⟨(I0 _ _ _ (by simp)).trans h.o,⟨c.setIfInBounds k (vI (xs.getD k 0)),by rw[U1 h1],by simpa using h2,fun i hi=>?_⟩,by rw[World.size_setCell];exact h.s,fun r hr=>(I0 _ _ _ (by simp only;omega)).trans (h.old r hr)⟩
 have e1:=h3 i hi
 by_cases e:k=i
 ·subst e
  rw[Array.getElem?_setIfInBounds_self_of_lt (by omega),if_pos (by omega)]
 ·rw[Array.getElem?_setIfInBounds_ne (by omega),e1]
  by_cases e2:i<k
  ·rw[if_pos e2,if_pos (by omega)]
  ·rw[if_neg e2,if_neg (by omega)]
theorem SMk.done{n k:Nat}{xs:List Int}{wr:World}(h:SMk w n k xs wr)(hn:n=min (max xs.length 1) 16)(hk:k=min xs.length 16):SU (w.heap.size+1) ⟨I4 xs,w.heap.size,0⟩ wr:=by
 obtain⟨c,h1,h2,h3⟩:=h.n
 have hl:(I4 xs).ws.length=n:=by simp[I4,hn]
 refine⟨⟨by show 0<(I4 xs).ws.length;omega,by show(I4 xs).ws.length≤16;omega⟩,⟨.inl ?_,?_,?_⟩,⟨by simp[World.cell?,h.o,I4],by simp[World.frozen?,h.o]⟩,fun i hi=>?_,fun e=>by simp at e⟩
 ·simp only[SS.n,hl,World.cell?,h.o]
  rfl
 ·simp only[SS.n,hl];omega
 ·simp only[SS.n,hl];omega
 ·have hi':i<n:=by simpa [SS.n,hl]using hi
  have e:(I4 xs).ws.getD i 0=if i<k then xs.getD i 0 else 0:=by
   have hi2:i<min (max xs.length 1) 16:=by omega
   simp only[I4,List.getD_eq_getElem?_getD,List.getElem?_map,List.getElem?_range hi2,Option.map_some,Option.getD_some]
   by_cases e:i<k
   ·rw[if_pos e]
   ·rw[if_neg e,List.getElem?_eq_none (by omega)]
    rfl
  refine⟨?_,by simp[World.frozen?,h1]⟩
  simp only[Nat.zero_add,World.cell?,h1]
  rw[e]
  simpa using h3 i hi'
theorem j0w{va:Option Addr}{vc:Nat}{xs:List Int}(hx:o5 w va xs)(hlen:xs.length<9223372036854775808):
 Y6 Try.prog Try.f17 #[.slice va xs.length vc] w fun x w'=>x=vP (w.heap.size+1) 0∧SU (w.heap.size+1) ⟨I4 xs,w.heap.size,0⟩ w'∧w.heap.size+2≤w'.heap.size∧∀r,r<w.heap.size→w'.heap[r]? =w.heap[r]?:=by
 obtain⟨n,hn⟩:∃n,n=min (max xs.length 1) 16:=⟨_,rfl⟩
 obtain⟨q,hq⟩:∃q,q=min xs.length 16:=⟨_,rfl⟩
 have h0:0<n:=by omega
 have h1:n≤16:=by omega
 have hmk:=E0J h1 w
 have M0:Aside (SMk w n 0 xs ((w.alloc (.cells (madeCells #[vI 0] n) 60)).alloc (.cells #[vI 0,vI 0,vL w.heap.size 0 n n] 64))):=by
  refine⟨B0t w _ _ 64,⟨_,(D0 _ _ (by simp)).trans (heap_alloc_new _ _),size_madeCells _ _,fun i hi=>by rw[if_neg (by omega)];exact n0H _ _ (by omega)⟩,d0L _ _ _,fun r hr=>B0y _ _ _ hr⟩
 obtain⟨mx,hs1⟩:∃mx:Int,(if(xs.length:Int)<1 then(1:Int)else(xs.length:Int))=mx:=⟨_,rfl⟩
 have hs2:(if(16:Int)<mx then(16:Int)else mx)=(n:Int):=by
  subst hs1
  by_cases h:(xs.length:Int)<1
  ·rw[if_pos h,if_neg (by omega)];omega
  ·rw[if_neg h];split<;>omega
 have hs3:(if(16:Int)<(xs.length:Int)then(16:Int)else(xs.length:Int))=(q:Int):=by split<;>omega
 have S:Aside (∀(W:World) (k:Nat),k<n→SMk w n k xs W→Calls Try.prog 52 #[vP w.heap.size k,vI (xs.getD k 0)] W fun e w'=>e= .returned (.tuple #[])∧SMk w n (k+1) xs w'):=fun W k hk h=>by
  obtain⟨c,c1,c2,c3⟩:=h.n
  have d1:=c3 k hk
  refine(n06 (u:=_) (v:=xs.getD k 0) (by simp only[World.cell?,c1];simpa using d1) (by simp[World.frozen?,c1])).mono ?_
  rintro e w' ⟨rfl,rfl⟩
  exact⟨rfl,h.next hk⟩
 have N:Aside (n=min (max xs.length 1) 16∧q=min xs.length 16∧0<n∧n≤16∧xs.length<9223372036854775808):=⟨hn,hq,h0,h1,hlen⟩
 have X:Aside (o5 w va xs):=hx
 clear hn hq h0 h1 hx hlen
 refine I8 rfl ?_
 simp only[Try.ntmps17,List.size_toArray,List.length_cons,List.length_nil,Nat.reduceAdd,Nat.reduceSub,Array.replicate_succ,Array.replicate_zero,List.push_toArray,List.append_toArray,List.nil_append,List.cons_append]
 go_wp2
 clear hs1 hs2 hs3 hmk
 go_loopg [15] q (fun g i wr=>∃k:Nat,k≤q∧i=vI k∧g=q - k∧SMk w n k xs wr)
 case atStart=>exact⟨0,Nat.zero_le _,rfl,rfl,M0.out⟩
 case round=>
  obtain⟨k,hk,rfl,hg,hM⟩:=hrel
  have c2:wr.cell? ⟨w.heap.size+1,2,none⟩=some (vL w.heap.size 0 n n):=by simp[World.cell?,hM.o]
  have M:Aside (SMk w n k xs wr):=hM
  clear hM
  rcases Nat.lt_or_ge k q with hlt|hge
  ·have hlt':(k:Int)<(q:Int):=by omega
   have hkn:k<n:=by have:=N.out;omega
   have hkl:k<xs.length:=by have:=N.out;omega
   have hkn':(k:Int)<(n:Int):=by omega
   have hkl':(k:Int)<(xs.length:Int):=by omega
   have hwr:IntKind.i64.wrap ((k:Int)+1)=(k:Int)+1:=IntWalk.i64_in _ (by have:=N.out;omega)
   obtain⟨x,hx⟩:∃x,xs[k]? =some x:=⟨_,List.getElem?_eq_getElem hkl⟩
   obtain⟨vb,vo,hva,hcell⟩:=X.out k x hx
   have hcell2:wr.cell? ⟨vb,vo+k,none⟩=some (vI x):=(F1 (j:=vo+k) (M.out.old vb (I9 hcell))).1.trans hcell
   have hxd:Aside (xs.getD k 0=x):=by unfold Aside;simp[List.getD_eq_getElem?_getD,hx]
   subst hva
   have G:Aside (gk=q - k∧k<q∧k<n):=⟨hg,hlt,hkn⟩
   clear hg hk hx hcell
   go_wp2
   go_region_with (go_at_call 52;refine(show Calls Try.prog 52 #[vP w.heap.size k,vI x] _ _ from hxd.out ▸ S.out _ _ G.out.2.2 (by exact⟨M.out.o,M.out.n,M.out.s,M.out.old⟩)).mono ?_;rintro e w1 ⟨rfl,hM1⟩;have M1:Aside (SMk w n (k+1) xs w1):=hM1;clear hM1)
   all_goals(
    go_wp2
    go_roundg (q - (k+1))
    case measure=>have:=G.out;omega
    case rel=>exact⟨k+1,G.out.2.1,rfl,rfl,M1.out⟩)
  ·have e:k=q:=by omega
   subst e
   clear hg hk hge
   go_wp2
   go_ret
   exact⟨_,rfl,rfl,(M.out.done N.out.1 N.out.2.1),by have:=M.out.s;omega,M.out.old⟩
def sFns:List Nat:=[17,19,52,54,87,88]
theorem l0n:Z5 Try.prog (fun f=>sFns.contains f) true:=a0b E0r (by kernel_rfl)
theorem c0C{va:Option Addr}{vc:Nat}{xs:List Int}(hx:o5 w va xs)(hlen:xs.length<9223372036854775808){c:Frame}{cs:List Frame}{main:Bool}{Stop:Goroutine→World→Prop}
 (K:∀w1,SU (w.heap.size+1) ⟨I4 xs,w.heap.size,0⟩ w1→w.heap.size+2≤w1.heap.size→(∀r,r<w.heap.size→w1.heap[r]? =w.heap[r]?)→J0 Try.prog main F0 Stop (G (c.finish (vP (w.heap.size+1) 0)) cs) w1):
 J0 Try.prog main F0 Stop (G (Frame.enter Try.prog 17 #[.slice va xs.length vc] .normal) (c::cs)) w:=by
 refine N7 l0n F6 Try.func17 rfl (by kernel_rfl) (R:=fun x w'=>x=vP (w.heap.size+1) 0∧SU (w.heap.size+1) ⟨I4 xs,w.heap.size,0⟩ w'∧w.heap.size+2≤w'.heap.size∧∀r,r<w.heap.size→w'.heap[r]? =w.heap[r]?) (fun τ e=>j0w (w:=retape w τ e) (fun i x h=>hx i x h) hlen) fun v w' τ e hR hg=>?_
 obtain⟨rfl,h1,h2,h3⟩:=hR
 exact K w' (h1.same fun _ _=>rfl) h2 h3
end
noncomputable section
variable {cs:List Frame}{main:Bool}{Stop:Goroutine→World→Prop}
variable{F:Fz}{w:World}
theorem i0e{lb:Nat}{v:Int}(hc:w.cell? ⟨lb,0,none⟩=some (vI v)):Y6 Try.prog Try.f19 #[vP lb 0] w fun x w'=>x=vI v∧w'.heap=w.heap:=by
 have L:=n0G (w:=w) (b:=lb) (o:=0) hc
 refine I8 rfl ?_
 simp only[Try.ntmps19,List.size_toArray,List.length_cons,List.length_nil,Nat.reduceAdd,Nat.reduceSub,Array.replicate_succ,Array.replicate_zero,List.push_toArray,List.append_toArray,List.nil_append,List.cons_append]
 go_wp2_with (go_at_call 54;refine L.mono ?_;rintro e w1 ⟨rfl,rfl⟩)
 go_ret
 exact⟨_,rfl,rfl,rfl⟩
theorem a0Z:O1 19:=G2 Try.func19 rfl rfl
theorem b0k{lb:Nat}{v:Int}(hc:w.cell? ⟨lb,0,none⟩=some (vI v)){c:Frame}
 (K:∀w1,w1.heap=w.heap→J0 Try.prog main F0 Stop (G (c.finish (vI v)) cs) w1):
 J0 Try.prog main F0 Stop (G (Frame.enter Try.prog 19 #[vP lb 0] .normal) (c::cs)) w:=by
 refine N7 l0n F6 Try.func19 rfl (by kernel_rfl) (R:=fun x w'=>x=vI v∧w'.heap=w.heap) (fun τ e=>i0e (w:=retape w τ e) hc) fun v w' τ e hR hg=>?_
 obtain⟨rfl,h⟩:=hR
 exact K w' h
theorem SU.heap{lb:Nat}{s:SS}{w w':World}(h:SU lb s w)(e:w'.heap=w.heap):SU lb s w':=h.same fun r _=>by rw[e]
theorem t0E{X:World}{v:Int}:(X.alloc (.cells #[vI v] 2)).ownsRow 0 2 1 (vL X.heap.size 0 1 1) 1 [vI v]:=
 ⟨rfl,.inr ⟨X.heap.size,1,#[vI v],rfl,Nat.zero_le _,heap_alloc_new _ _,Nat.le_refl _,by decide,rfl,rfl⟩⟩
def b0w:Code:=Try.f23.body.getD .skip
def D0B:=pC [] b0w
def w0g:=pC [zt] b0w
def D0C:=pC [zf] b0w
def w0h:=pC [zf,zt] b0w
theorem n0r(args:Array Value):Frame.enter Try.prog 23 args .normal=(Go.Conc.base 23).at {tmps:=args++Array.replicate (5 - args.size) undef,defers:=[]} [.code D0B]:=enter_at args Try.func23 rfl
theorem e0I:O1 23:=G2 Try.func23 rfl rfl
theorem a0P{lb:Nat}{s:SS}(hU:SU lb s w){c:Frame}
 (K:∀w' ov,SU lb s w'→g0N w w' ov s.k.ws→w.heap.size≤w'.heap.size→(∀r,r<w.heap.size→w'.heap[r]? =w.heap[r]?)→J0 Try.prog main F0 Stop (G (c.finish ov) cs) w'):
 J0 Try.prog main F0 Stop (G (Frame.enter Try.prog 23 #[vP lb 0] .normal) (c::cs)) w:=by
 rw[n0r]
 walk_nrm
 refine ogW w0g D0C ?_
 simp only[w0g,b0w,Try.f23,zz,Nat.reduceAdd]
 refine oT ?_
 refine S0<|ogW w0h .ret ?_
 simp only[w0h,b0w,Try.f23,zz,Nat.reduceAdd]
 refine oT ?_
 refine oc Z9 #[vP lb 0,.nilIface] ?_
 refine b06 (e0W main) (w0:=w) (m:=0) ⟨hU,trivial,Nat.le_refl _,fun _ _ _ _ _=>rfl⟩ (fun _ h=>by cases h) (fun _ h=>by cases h) (by decide) fun w' ov h1 h2 h3 h4=>?_
 rw[Frame.finish_at]
 walk_nrm
 refine oT ?_
 refine S0<|ogX ?_
 refine Q0 rfl (fun d=>stepG_leave (fn:=Try.f23) (v:=ov) rfl rfl Try.func23 (by simp[results,Try.f23]) (by simp[results,Try.f23,go_sem])) ?_
 exact K w' ov h1.u h2 h3 fun r hr=>h4 r hr (by simp)
def b0t:Code:=Try.f49.body.getD .skip
def D0w:=pC [] b0t
def v09:=pC [zt] b0t
def D0x:=pC [zf] b0t
def w0a:=pC [zf,zt] b0t
theorem n0p(args:Array Value):Frame.enter Try.prog 49 args .normal=(Go.Conc.base 49).at {tmps:=args++Array.replicate (9 - args.size) undef,defers:=[]} [.code D0w]:=enter_at args Try.func49 rfl
theorem j05:O1 49:=G2 Try.func49 rfl rfl
theorem k0y{lb:Nat}{s:SS}(hU:SU lb s w){c:Frame}
 (K:∀w1 ov,X9 w w1 ov s.k.state→J0 Try.prog main F0 Stop (G (c.finish ov) cs) w1):
 J0 Try.prog main F0 Stop (G (Frame.enter Try.prog 49 #[vP lb 0] .normal) (c::cs)) w:=by
 rw[n0p]
 walk_nrm
 refine ogW v09 D0x ?_
 simp only[v09,b0t,Try.f49,zz,Nat.reduceAdd]
 refine oT ?_
 refine S0<|ogW w0a .ret ?_
 simp only[w0a,b0t,Try.f49,zz,Nat.reduceAdd]
 refine oT ?_
 refine oc a0Z #[vP lb 0] ?_
 refine b0k hU.v.c fun w1 e1=>?_
 rw[Frame.finish_at]
 walk_nrm
 have hU1:=hU.heap e1
 have E1:Aside (w1.heap=w.heap):=e1
 clear e1
 have hU:P2 F0 0:=J1
 have hn:0≤w1.heap.size:=Nat.zero_le _
 refine oA hU ?_
 refine oT ?_
 refine oc e0I #[vP lb 0] ?_
 refine a0P (hU1.same fun r hr=>D0 _ _ (hU1.low hr)) fun w2 ov h1 h2 h3 h4=>?_
 rw[Frame.finish_at]
 walk_nrm
 have hU:=hU1
 obtain⟨hrow,hblk⟩:=h2
 obtain⟨g,cap,hov⟩:∃g cap,ov=vL g 0 s.k.ws.length cap:=by
  rcases hrow.2 with⟨_,h⟩|⟨g,cap,_,h,_⟩
  ·have:=hU.wf.n1;omega
  ·exact⟨g,cap,h⟩
 subst hov
 have hg:=hblk g rfl
 have hrow1:w2.ownsRow 0 2 1 (vL w1.heap.size 0 1 1) 1 [vI s.k.ver]:=K0 t0E fun b hb _=>by simp only[Value.ownBlock,Option.some.injEq]at hb;subst hb;exact h4 _ (by simp)
 refine S8 (s:=.tmp 5) (x:=.tmp 7) (t:=22) (e:=2) (sz:=1) (bytes:=8) (news:=s.k.ws.map fun v=>vI v) (m:=s.k.ws.length) (c:=cap) (ad:=⟨g,0,none⟩) Try.underlying22 i8 (by decide) rfl rfl (by decide) rfl (g0J _) (v:=vL w1.heap.size 0 1 1) rfl rfl hrow1 (fun _ _=>rfl) (by simp) (c0Z hrow) (by intro q hq;simp at hq;obtain⟨_,_,rfl⟩:=hq;rfl) (by have:=hU.wf.n2;unfold maxLen;omega) (by have:=hU.wf.n2;omega) fun ov' w' g1 g2 g3 g4 g5=>?_
 walk_nrm
 refine oT ?_
 refine S0<|ogX ?_
 refine Q0 rfl (fun d=>stepG_leave (fn:=Try.f49) (v:=ov') rfl rfl Try.func49 (by simp[results,Try.f49]) (by simp[results,Try.f49,go_sem])) ?_
 have e1:=E1.out
 have hs1:(w1.alloc (.cells #[vI s.k.ver] 2)).heap.size=w.heap.size+1:=by simp[e1]
 have ho:∀r,r<w.heap.size→(w1.alloc (.cells #[vI s.k.ver] 2)).heap[r]? =w.heap[r]?:=fun r hr=>by rw[D0 _ _ (by rw[e1];exact hr),e1]
 have e1s:w1.heap.size=w.heap.size:=by rw[e1]
 refine K w' ov' ⟨?_,by omega,fun r hr=>?_,fun b hb=>?_⟩
 ·have e:1+s.k.ws.length=s.k.state.length:=by simp[R1.state];omega
  rw[← e]
  exact g1
 ·rw[g4 r (by omega) (by simp[Value.ownBlock];omega),h4 r (by omega),ho r hr]
 ·rcases g5 with e|⟨q,e,hq⟩
  ·rw[e]at hb
   simp only[Value.ownBlock,Option.some.injEq]at hb
   omega
  ·rw[e]at hb
   cases hb
   omega
end
section
variable{w:World}
structure SV(av:Nat)(v:Value)(u:World):Prop where
 c:u.cell? ⟨av,0,none⟩=some v
 z:u.frozen? ⟨av,0,none⟩=false
theorem E0l{ta:Option Addr}{tl tc n db av:Nat}{l x:Value}(hs:SV av x w){A:Array Value}(hA:G0 38 A [(0,.slice ta tl tc),(3,vP db 0),(6,vI n),(7,vP av 0),(8,l),(16,vI n),(17,vI n)]){c:Frame}{cs:List Frame}{Stop:Goroutine→World→Prop}
 (h:J0 Try.prog true F0 Stop (G (c.finish (.tuple #[l,x])) cs) w):
 J0 Try.prog true F0 Stop (G (bA 81 A [.code c0p,.code .ret]) (c::cs)) w:=by
 obtain⟨s,rfl,h0,h3,h6,h7,h8,h16,h17,_⟩:=Y3 diT hA
 simp only[diT,h0,h3,h6,h7,h8,h16,h17]
 clear h0 h3 h6 h7 h8 h16 h17
 have hS:∀u d,SV av x u→SV av x (World.at u d):=fun u d h=>⟨h.c,h.z⟩
 rw[x0b]
 refine O7 (SV av x) (last:=3) E2 (z8 (by kernel_rfl)) (by decide) ?_
 simp only[c0p,F4,Try.f81,zz,Nat.reduceAdd]
 have hZ:∀a u d,J0 Try.prog true F0 Stop (G ((Go.Conc.base 81).at a [.inRegion (oC c0p) [3],.code .ret]) (c::cs)) u→J0 Try.prog true F0 Stop (G ((Go.Conc.base 81).at a [.inRegion (oC c0p) [3],.code .ret]) (c::cs)) (World.at u d):=fun a u d h=>h.at d
 simp only[c0p,F4,Try.f81,zz,Nat.reduceAdd]at hZ
 refine tkM 0 l hS hs ?_ hZ
 walk_nrm
 refine a0t 1 x (fun u hu=>(And.intro hu.c hu.z)) hS hs ?_ hZ
 walk_nrm
 refine tkM 2 l hS hs ?_ hZ
 walk_nrm
 refine P5 (by kernel_rfl) ?_ _
 refine oT ?_
 refine S0<|ogX ?_
 refine Q0 rfl (fun d=>stepG_leave (fn:=Try.f81) (v:=.tuple #[l,x]) rfl rfl Try.func81 (by simp[results,Try.f81,go_sem]) (by simp[results,Try.f81,go_sem])) ?_
 exact h
structure DI(w0:World)(n k db aa av:Nat)(dv:Value)(oa:Nat→Option Addr)(m oc ib ob:Nat→Nat)(l:Value)(w:World):Prop where
 size:w0.heap.size≤w.heap.size
 old:∀r,r<w0.heap.size→w.heap[r]? =w0.heap[r]?
 hdb:w.heap[db]? =some (.cells #[dv] 98 (0,0))
 haa:w.heap[aa]? =some (.cells (madeCells #[.slice none 0 0] n) 42 (0,0))
 hav:w.heap[av]? =some (.cells #[vL aa 0 n n] 29 (0,0))
 hib:∀j,j<k→w.heap[ib j]? =some (.cells #[vI j] 3 (0,0))
 hob:∀j,j<k→w.heap[ob j]? =some (.cells #[.slice (oa j) (m j) (oc j)] 34 (0,0))
 lo:∀j,j<k→w0.heap.size≤ib j∧w0.heap.size≤ob j
 new:w0.heap.size≤db∧w0.heap.size≤aa∧w0.heap.size≤av
 row:w.ownsRow w0.heap.size 112 1 l k ((List.range k).map fun j=>c0o (ob j) db (ib j) av)
theorem DI.same{w0 w w':World}{n k db aa av:Nat}{dv:Value}{oa:Nat→Option Addr}{m oc ib ob:Nat→Nat}{l:Value}(h:DI w0 n k db aa av dv oa m oc ib ob l w)(hsz:w.heap.size≤w'.heap.size)(hs:∀r,r<w.heap.size→w'.heap[r]? =w.heap[r]?):DI w0 n k db aa av dv oa m oc ib ob l w':=by
 have lt:∀{r:Nat} {o:Obj},w.heap[r]? =some o→w'.heap[r]? =some o:=fun hr=>(hs _ (Q3 hr)).trans hr
 exact⟨Nat.le_trans h.size hsz,fun r hr=>(hs r (Nat.lt_of_lt_of_le hr h.size)).trans (h.old r hr),lt h.hdb,lt h.haa,lt h.hav,fun j hj=>lt (h.hib j hj),fun j hj=>lt (h.hob j hj),h.lo,h.new,K0 h.row fun b hb _=>hs b (h.row.lt b hb).2⟩
theorem e04{w0:World}{tb o tl tc n db aa av:Nat}{dv:Value}(hntl:n≤tl)(hn64:n≤64){oa:Nat→Option Addr}{ol m oc:Nat→Nat}(htb:0<n→tb<w0.heap.size)(hth:∀j,j<n→w0.cell? ⟨tb,o+j,none⟩=some (.slice (oa j) (ol j) (oc j))∧w0.frozen? ⟨tb,o+j,none⟩=false∧ol j≤oc j∧min (ol j) 65536=m j){ta:Option Addr}(hta:0<n→ta=some ⟨tb,o,none⟩){c:Frame}{cs:List Frame}{Stop:Goroutine→World→Prop}
 (K:∀w' l ib ob,DI w0 n n db aa av dv oa m oc ib ob l w'→J0 Try.prog true F0 Stop (G (c.finish (.tuple #[l,vL aa 0 n n])) cs) w'):
 ∀(q k:Nat),k+q=n→∀(w:World) (l:Value) (ib ob:Nat→Nat) (A:Array Value),DI w0 n k db aa av dv oa m oc ib ob l w→G0 38 A [(0,.slice ta tl tc),(3,vP db 0),(6,vI n),(7,vP av 0),(8,l),(16,vI n),(17,vI k)]→
  J0 Try.prog true F0 Stop (G (bA 81 A [.code c0q,.inLoop c0q,.inBlock 0,.code d0o]) (c::cs)) w:=by
 intro q
 induction q with
 | zero=>
   intro k hk w l ib ob A hD hA
   obtain rfl:k=n:=by omega
   refine E0k hA fun A2 hA2=>?_
   refine E0l (x:=vL aa 0 k k) ⟨by simp[World.cell?,hD.hav],by simp[World.frozen?,hD.hav]⟩ hA2 ?_
   exact K w l ib ob hD
 | succ q ih=>
   intro k hk w l ib ob A hD hA
   have hkn:k<n:=by omega
   obtain rfl:=hta (by omega)
   obtain⟨t1,t2,t3,t4⟩:=hth k hkn
   have htl:=htb (by omega)
   have htb2:=hD.old tb htl
   have hsz0:=hD.size
   refine E0h J1 (Nat.zero_le _) hkn hA fun A2 hA2=>?_
   have e1:∀r,r<w.heap.size→(w.alloc (.cells #[vI k] 3)).heap[r]? =w.heap[r]?:=fun r hr=>D0 _ _ hr
   have e2:=heap_alloc_new w (.cells #[vI k] 3)
   have e3:(w.alloc (.cells #[vI k] 3)).heap.size=w.heap.size+1:=by simp
   generalize w.alloc (.cells #[vI k] 3)=W1 at e1 e2 e3 ⊢
   refine ogV i0E o0R ?_
   have htb3:W1.heap[tb]? =w0.heap[tb]?:=(e1 tb (by omega)).trans htb2
   refine E0i (nn:=0) (m:=m k) J1 (by omega) t4 t3 ⟨Nat.zero_le _,by omega,by omega,by simp[World.cell?,e2],by simp[World.frozen?,e2],by rw[← t1];unfold World.cell?;simp only[htb3],by rw[← t2];unfold World.frozen?;simp only[htb3]⟩ hA2 fun A3 hA3=>?_
   have f1:∀r,r<W1.heap.size→(W1.alloc (.cells #[.slice (oa k) (m k) (oc k)] 34)).heap[r]? =W1.heap[r]?:=fun r hr=>D0 _ _ hr
   have f2:=heap_alloc_new W1 (.cells #[.slice (oa k) (m k) (oc k)] 34)
   have f3:(W1.alloc (.cells #[.slice (oa k) (m k) (oc k)] 34)).heap.size=W1.heap.size+1:=by simp
   generalize W1.alloc (.cells #[.slice (oa k) (m k) (oc k)] 34)=W2 at f1 f2 f3 ⊢
   have hD2:DI w0 n k db aa av dv oa m oc ib ob l W2:=hD.same (by omega) fun r hr=>(f1 r (by omega)).trans (e1 r hr)
   refine E0j (base:=w0.heap.size) (by omega) (by omega) hD2.row hA3 fun w' l' A4 g1 g2 g3 hA4=>?_
   have hne:∀{r:Nat} {cc:Array Value} {t:TypeId},W2.heap[r]? =some (.cells cc t (0,0))→t≠112→w'.heap[r]? =some (.cells cc t (0,0)):=fun hr ht=>(g3 _ (Q3 hr) (Q9 hD2.row hr (fun e=>ht e.symm))).trans hr
   have hold:∀r,r<w0.heap.size→w'.heap[r]? =w0.heap[r]?:=fun r hr=>(g3 r (by omega) (fun e=>by
    have:=(hD2.row.lt r e.symm).1;omega)).trans (hD2.old r hr)
   refine ih (k+1) (by omega) w' l' (fun j=>if j=k then w.heap.size else ib j) (fun j=>if j=k then W1.heap.size else ob j) A4 ⟨by omega,hold,hne hD2.hdb (by decide),hne hD2.haa (by decide),hne hD2.hav (by decide),fun j hj=>?_,fun j hj=>?_,fun j hj=>?_,hD.new,?_⟩ hA4
   ·by_cases e:j=k
    ·subst e
     simp only[if_true]
     exact hne ((f1 _ (by omega)).trans e2) (by decide)
    ·simp only[if_neg e]
     exact hne (hD2.hib j (by omega)) (by decide)
   ·by_cases e:j=k
    ·subst e
     simp only[if_true]
     exact hne f2 (by decide)
    ·simp only[if_neg e]
     exact hne (hD2.hob j (by omega)) (by decide)
   ·by_cases e:j=k
    ·subst e
     simp only[if_true]
     omega
    ·simp only[if_neg e]
     exact hD.lo j (by omega)
   ·have e5:((List.range (k+1)).map fun j=>c0o (if j=k then W1.heap.size else ob j) db (if j=k then w.heap.size else ib j) av)=((List.range k).map fun j=>c0o (ob j) db (ib j) av)++[c0o W1.heap.size db w.heap.size av]:=by
     rw[List.range_succ,List.map_append]
     congr 1
     ·apply List.map_congr_left
      intro j hj
      have:j<k:=List.mem_range.1 hj
      simp only[if_neg (show ¬j=k by omega)]
     ·simp
    rw[e5]
    exact g1
theorem n0P{tb o tl tc n df:Nat}{first capt:Array Value}(hn1:min tl 64=n){oa:Nat→Option Addr}{ol m oc:Nat→Nat}(htb:0<n→tb<w.heap.size)(hth:∀j,j<n→w.cell? ⟨tb,o+j,none⟩=some (.slice (oa j) (ol j) (oc j))∧w.frozen? ⟨tb,o+j,none⟩=false∧ol j≤oc j∧min (ol j) 65536=m j){ta:Option Addr}(hta:0<n→ta=some ⟨tb,o,none⟩){c:Frame}{cs:List Frame}{Stop:Goroutine→World→Prop}
 (K:∀w' l ib ob db aa av,DI w n n db aa av (.func (.func df) first capt) oa m oc ib ob l w'→J0 Try.prog true F0 Stop (G (c.finish (.tuple #[l,vL aa 0 n n])) cs) w'):
 J0 Try.prog true F0 Stop (G (Frame.enter Try.prog 81 #[.slice ta tl tc,.func (.func df) first capt] .normal) (c::cs)) w:=by
 refine E0f J1 (Nat.zero_le _) hn1 fun A hA=>?_
 refine E0g J1 (Nat.zero_le _) (by omega) hA fun A2 hA2=>?_
 have e1:∀r,r<w.heap.size→(((w.alloc (.cells #[.func (.func df) first capt] 98)).alloc (.cells (madeCells #[.slice none 0 0] n) 42)).alloc (.cells #[vL ((w.alloc (.cells #[.func (.func df) first capt] 98)).heap.size) 0 n n] 29)).heap[r]? =w.heap[r]?:=fun r hr=>by
  rw[D0 _ _ (by simp;omega),D0 _ _ (by simp;omega),D0 _ _ hr]
 refine e04 (w0:=w) (n:=n) (tl:=tl) (dv:=.func (.func df) first capt) (oa:=oa) (ol:=ol) (m:=m) (oc:=oc) (tb:=tb) (o:=o) (db:=w.heap.size) (aa:=w.heap.size+1) (av:=w.heap.size+2) (by omega) (by omega) htb hth hta (fun w' l ib ob hD=>K w' l ib ob _ _ _ hD) n 0 (by omega) _ (.slice none 0 0) (fun _=>0) (fun _=>0) A2 ⟨by simp;omega,e1,?_,?_,?_,fun j hj=>by omega,fun j hj=>by omega,fun j hj=>by omega,⟨by omega,by omega,by omega⟩,World.ownsRow_nil _ _ _ _⟩ (by simpa using hA2)
 ·rw[D0 _ _ (by simp;omega),D0 _ _ (by simp)]
  exact heap_alloc_new _ _
 ·have:=heap_alloc_new (w.alloc (.cells #[.func (.func df) first capt] 98)) (.cells (madeCells #[.slice none 0 0] n) 42)
  rw[D0 _ _ (by simp)]
  simpa using this
 ·have:=heap_alloc_new ((w.alloc (.cells #[.func (.func df) first capt] 98)).alloc (.cells (madeCells #[.slice none 0 0] n) 42)) (.cells #[vL ((w.alloc (.cells #[.func (.func df) first capt] 98)).heap.size) 0 n n] 29)
  simpa using this
end
noncomputable section
variable {cs:List Frame}{main:Bool}{Stop:Goroutine→World→Prop}
variable{F:Fz}{w:World}
theorem l0j(a b c:Option Addr)(n m k l:Nat)(s:Bool):Try.prog.built 31 [(0,.slice a n m),(1,.slice b k l),(3,.bool s)]=some #[.slice a n m,.slice b k l,.slice none 0 0,.bool s]:=by kernel_rfl
@[go_sem] theorem v0i(a b:Option Addr)(n m k l:Nat)(s:Bool)(w:World):(Instr.build 31 #[(0,.slice a n m),(1,.slice b k l),(3,.bool s)]).run Try.prog w= .ok (.agg #[.slice a n m,.slice b k l,.slice none 0 0,.bool s]) w:=run_build w _ _ _ (l0j a b a n m k l s)
@[go_sem] theorem x0g(a b:Option Addr)(n m k l:Nat)(s:Bool)(w:World)(es:Array Event):(Instr.build 31 #[(0,.slice a n m),(1,.slice b k l),(3,.bool s)]).events Try.prog w es=es:=l6 w es _ _ _ _ Try.underlying31 (l0j a b a n m k l s)
def trW(w:World)(tb:Nat)(a b c d:Value):World:=(((w.setCell ⟨tb,0,none⟩ a).setCell ⟨tb,1,none⟩ b).setCell ⟨tb,2,none⟩ c).setCell ⟨tb,3,none⟩ d
structure S7(w:World)(tb:Nat)(a b c d:Value):Prop where
 o:w.heap[tb]? =some (.cells #[a,b,c,d] 31 (0,0))
section
variable{tb:Nat}{a b c d:Value}
theorem S7.at(h:S7 w tb a b c d)(e:Nat):S7 (w.at e) tb a b c d:=⟨h.o⟩
theorem S7.c0(h:S7 w tb a b c d):w.cell? ⟨tb,0,none⟩=some a:=by simp[World.cell?,h.o]
theorem S7.c1(h:S7 w tb a b c d):w.cell? ⟨tb,1,none⟩=some b:=by simp[World.cell?,h.o]
theorem S7.c2(h:S7 w tb a b c d):w.cell? ⟨tb,2,none⟩=some c:=by simp[World.cell?,h.o]
theorem S7.c3(h:S7 w tb a b c d):w.cell? ⟨tb,3,none⟩=some d:=by simp[World.cell?,h.o]
theorem S7.z(h:S7 w tb a b c d)(k:Nat):w.frozen? ⟨tb,k,none⟩=false:=by simp[World.frozen?,h.o]
theorem S7.put(h:S7 w tb a b c d)(a' b' c' d':Value):S7 (trW w tb a' b' c' d') tb a' b' c' d':=by
 constructor
 unfold trW
 rw[U1 (U1 (U1 (U1 h.o _) _) _) _]
 rfl
end
def j8:Code:=Try.f47.body.getD .skip
def E0S:=pC [] j8
def B0B:=pC [zt] j8
def B0D:=pC [zf] j8
def p0C:=pC [zf,zt] j8
def s0E:=pC [zf] B0D
def n0K:=pC [zf,zf,zt] j8
def s0F:=pC [zf] s0E
def B0C:=pC [zf,zf,zf,zt] j8
theorem o0W(args:Array Value):Frame.enter Try.prog 47 args .normal=(Go.Conc.base 47).at {tmps:=args++Array.replicate (32 - args.size) undef,defers:=[]} [.code E0S]:=enter_at args Try.func47 rfl
theorem j03:O1 47:=G2 Try.func47 rfl rfl
def opT(s:Nat→Value):Array Value:= #[s 0,s 1,s 2,s 3,s 4,s 5,s 6,s 7,s 8,s 9,s 10,s 11,s 12,s 13,s 14,s 15,s 16,s 17,s 18,s 19,s 20,s 21,s 22,s 23,s 24,s 25,s 26,s 27,s 28,s 29,s 30,s 31]
theorem E0O{A:Array Value}(h:A.size=32):∃s,A=opT s:=by
 obtain⟨s,hs,_⟩:=Y4 A h
 exact⟨s,hs⟩
theorem E0P{n:Nat}(hU:P2 F n)(hn:n≤w.heap.size){ta sa:Option Addr}{tl tc sl sc:Nat}{dv:Value}{mo:Int}
 (h:∀A,G0 32 A [(0,.slice ta tl tc),(1,dv),(2,.slice sa sl sc),(3,vI mo),(8,vP w.heap.size 0)]→J0 Try.prog main F Stop (G (Frame.enter Try.prog 81 #[.slice ta tl tc,dv] .normal) ((bA 47 A [.inRegion (oC p0C) [2,3,4,5,6,7],.code s0E])::cs)) (w.alloc (.cells #[.slice none 0 0,.slice none 0 0,.slice none 0 0,.bool false] 31))):
 J0 Try.prog main F Stop (G (Frame.enter Try.prog 47 #[.slice ta tl tc,dv,.slice sa sl sc,vI mo] .normal) cs) w:=by
 rw[o0W]
 walk_nrm
 refine ogW B0B B0D ?_
 simp only[B0B,j8,Try.f47,zz,Nat.reduceAdd]
 refine oA hU ?_
 refine S0<|ogW p0C s0E ?_
 simp only[p0C,j8,Try.f47,zz,Nat.reduceAdd]
 iterate 2 refine oT ?_
 refine oc j07 #[.slice ta tl tc,dv] ?_
 refine h _ ?_
 exact⟨rfl,rfl,rfl,rfl,rfl,rfl,trivial⟩
theorem E0Q{ta sa:Option Addr}{tl tc sl sc tb:Nat}{dv l an:Value}{mo:Int}{A:Array Value}(hA:G0 32 A [(0,.slice ta tl tc),(1,dv),(2,.slice sa sl sc),(3,vI mo),(8,vP tb 0)])
 (h:∀A,G0 32 A [(8,vP tb 0),(10,an)]→J0 Try.prog main F Stop (G (Frame.enter Try.prog 82 #[l,.slice sa sl sc,vI mo] .normal) ((bA 47 A [.inRegion (oC n0K) [3,4,5,6,7,8,9,10],.code s0F])::cs)) w):
 J0 Try.prog main F Stop (G ((bA 47 A [.inRegion (oC p0C) [2,3,4,5,6,7],.code s0E]).finish (.tuple #[l,an])) cs) w:=by
 obtain⟨s,rfl,h0,h1,h2,h3,h8,_⟩:=Y3 opT hA
 simp only[opT,h0,h1,h2,h3,h8]
 clear h0 h1 h2 h3 h8
 rw[Frame.finish_at]
 simp only[p0C,j8,Try.f47,zz,Nat.reduceAdd]
 walk_nrm
 iterate 5 refine oT ?_
 refine S0<|ogW n0K s0F ?_
 simp only[n0K,j8,Try.f47,zz,Nat.reduceAdd]
 iterate 3 refine oT ?_
 refine oc j08 #[l,.slice sa sl sc,vI mo] ?_
 refine h _ ?_
 exact⟨rfl,rfl,rfl,trivial⟩
theorem E0R{tb:Nat}{x0 x1 x2 x3:Value}(hT:S7 w tb x0 x1 x2 x3)(hnh:∀k,¬held F ⟨tb,k,none⟩){aa oa:Option Addr}{al ac ol oc:Nat}{st:Bool}{bv:Value}{A:Array Value}(hA:G0 32 A [(8,vP tb 0),(10,.slice aa al ac)]){c:Frame}
 (h:J0 Try.prog main F Stop (G (c.finish (.agg #[.slice aa al ac,.slice oa ol oc,.slice none 0 0,.bool st])) cs) (trW w tb (.slice aa al ac) (.slice oa ol oc) (.slice none 0 0) (.bool st))):
 J0 Try.prog main F Stop (G ((bA 47 A [.inRegion (oC n0K) [3,4,5,6,7,8,9,10],.code s0F]).finish (.tuple #[.slice oa ol oc,.bool st,bv])) (c::cs)) w:=by
 obtain⟨s,rfl,h8,h10,_⟩:=Y3 opT hA
 simp only[opT,h8,h10]
 clear h8 h10
 rw[Frame.finish_at]
 simp only[n0K,j8,Try.f47,zz,Nat.reduceAdd]
 walk_nrm
 iterate 7 refine oT ?_
 refine S0<|ogW B0C .ret ?_
 simp only[B0C,j8,Try.f47,zz,Nat.reduceAdd]
 iterate 4 refine oT ?_
 (refine oW fun dd K hK=>?_;have hc0:=(hT.at dd).c0;have hc1:=(hT.at dd).c1;have hc2:=(hT.at dd).c2;have hc3:=(hT.at dd).c3;have hz0:=(hT.at dd).z;go_simp;refine hK _ _ ⟨⟨⟨0,e0L (fun k=>hnh k) _ _ _ _⟩,fun e he=>by(have hm:=mem_listed he;clear he hK;simp[go_sem,storedEv,hc0,hc1,hc2,hc3,hz0]at hm;rcases hm with rfl|rfl|rfl|rfl<;>exact U0 _ _ ((fun k=>hnh k) _))⟩,?_⟩;clear hK K hc0 hc1 hc2 hc3 hz0;simp only[setCell_at'];refine J0.at ?_ dd)
 refine S0<|ogX ?_
 have hT2:=hT.put (.slice aa al ac) (.slice oa ol oc) (.slice none 0 0) (.bool st)
 change J0 _ _ _ _ _ (trW w tb (.slice aa al ac) (.slice oa ol oc) (.slice none 0 0) (.bool st))
 generalize trW w tb (.slice aa al ac) (.slice oa ol oc) (.slice none 0 0) (.bool st)=W at hT2 h ⊢
 have hc0:=hT2.c0
 have hc1:=hT2.c1
 have hc2:=hT2.c2
 have hc3:=hT2.c3
 have hz0:=hT2.z
 refine p4 (fn:=Try.f47) (v:=.agg #[.slice aa al ac,.slice oa ol oc,.slice none 0 0,.bool st]) rfl rfl Try.func47 (fun d=>by simp[results,Try.f47,go_sem,hc0,hc1,hc2,hc3,hz0]) (fun d e he=>by simp[results,Try.f47,go_sem,hc0,hc1,hc2,hc3,hz0]at he;rcases he with rfl|rfl|rfl|rfl<;>exact I1 _ _) ?_
 exact h
end
end Go.Proofs.Ytlcgkpapnpdfpaa
