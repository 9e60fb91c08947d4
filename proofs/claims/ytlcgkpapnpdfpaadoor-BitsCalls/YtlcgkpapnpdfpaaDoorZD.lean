/-
  What is proved: BitsCallsCardSaid: for every start, all operations and every bound, what the calls of a set answer by themselves, the steps that they take and the set behind them are the document's. Conditions: those of the given row and card (the variable that is listed reads as its table).
  Part 4 of 6.
-/
import Derived.Test.YtlcgkpapnpdfpaaDoorZC
import Derived.ProofKit
import Derived.Conc.LeavingOf
import Derived.Deep.DrawnRows
import Derived.BigQuiet
import Derived.Deep.QuietTactic
import Derived.StillTailTactics
import Derived.Deep.RegionLaw
set_option linter.unusedSimpArgs false
set_option linter.unusedVariables false
set_option linter.unusedSectionVars false
set_option maxRecDepth 100000
set_option maxHeartbeats 8000000
namespace Go.Proofs.YtlcgkpapnpdfpaaDoor
open Go Go.Conc Go.RowKit Go.Proofs
section
variable{F:Fz}{w:World}
structure SD(nn ib tb o k ol oc:Nat)(oa:Option Addr)(u:World):Prop where
 top:nn≤u.heap.size
 il:ib<u.heap.size
 tl:tb<u.heap.size
 ci:u.cell? ⟨ib,0,none⟩=some (vI k)
 zi:u.frozen? ⟨ib,0,none⟩=false
 ct:u.cell? ⟨tb,o+k,none⟩=some (.slice oa ol oc)
 zt:u.frozen? ⟨tb,o+k,none⟩=false
section
variable{nn ib tb o k ol oc:Nat}{oa:Option Addr}{u:World}
theorem SD.at(h:SD nn ib tb o k ol oc oa u)(d:Nat):SD nn ib tb o k ol oc oa (u.at d):=⟨h.top,h.il,h.tl,h.ci,h.zi,h.ct,h.zt⟩
theorem SD.alloc(h:SD nn ib tb o k ol oc oa u)(ob:Obj):SD nn ib tb o k ol oc oa (u.alloc ob):=by
 have e1:(u.alloc ob).heap[ib]? =u.heap[ib]?:=D0 _ _ h.il
 have e2:(u.alloc ob).heap[tb]? =u.heap[tb]?:=D0 _ _ h.tl
 refine⟨by simp;have:=h.top;omega,by simp;have:=h.il;omega,by simp;have:=h.tl;omega,?_,?_,?_,?_⟩
 ·rw[← h.ci];unfold World.cell?;simp only[e1]
 ·rw[← h.zi];unfold World.frozen?;simp only[e1]
 ·rw[← h.ct];unfold World.cell?;simp only[e2]
 ·rw[← h.zt];unfold World.frozen?;simp only[e2]
end
theorem n05(X:World)(u v:Value):(X.alloc (.cells #[u] 32)).setCell ⟨X.heap.size,0,none⟩ v=X.alloc (.cells #[v] 32):=by go_simp
theorem x0q:∃i,Tryd.prog.info? 44=some i∧i.size=4:=by
 have h:(Tryd.prog.info? 44).map (fun i=>i.size)=some 4:=by kernel_rfl
 obtain⟨i,hi,h1⟩:=Option.map_eq_some_iff.1 h
 exact⟨i,hi,h1⟩
theorem m0u{w:World}{a:Option Addr}{ol oc m:Nat}(hmc:m≤oc):(Instr.sliceAt 32 (.slice a ol oc) none (some (vI m)) none).run Tryd.prog w= .ok (.slice a m oc) w:=by
 obtain⟨i,hi,hs⟩:=x0q
 have hu:Tryd.prog.underlying 32=some (.slice 44):=Tryd.underlying32
 have e:a.map (fun x:Addr=>x.add 0)=a:=by
  cases a with
  | none=>rfl
  | some x=>simp[Addr.add]
 have hm:(m:Int)≤oc:=by omega
 simp[Instr.sliceAt,Instr.slice,run_underlying hu,Instr.sliceBounds,run_sliceBound,sizeOf,typeInfo,hi,hs,hmc,hm,e]
theorem j0v{w:World}{es:Array Event}{a:Option Addr}{ol oc m:Nat}(hmc:m≤oc):(Instr.sliceAt 32 (.slice a ol oc) none (some (vI m)) none).events Tryd.prog w es=es:=by
 obtain⟨i,hi,hs⟩:=x0q
 have hu:Tryd.prog.underlying 32=some (.slice 44):=Tryd.underlying32
 have hm:(m:Int)≤oc:=by omega
 simp[Instr.sliceAt,Instr.slice,run_underlying hu,Instr.sliceBounds,Instr.sliceBound,asIntOf,run_sliceBound,sizeOf,typeInfo,hi,hs,hmc,hm]
theorem E0i {nn : Nat} (hU : i2 F nn) {tb o tl tc n db av ib k ol oc m : Nat} {oa : Option Addr} {l : Value} (hkt : k < tl) (hm0 : min ol 65536 = m) (hoc : ol ≤ oc) (hs : SD nn ib tb o k ol oc oa w) {A : Array Value} (hA : G0 38 A ((9, vP ib 0) :: [(0, vL tb o tl tc), (3, vP db 0), (6, vI n), (7, vP av 0), (8, l), (16, vI n), (17, vI k)])) {cs : List Frame} {main : Bool} {Stop : Goroutine → World → Prop} {kk : List Item}
    (h : ∀ A, G0 38 A ((9, vP ib 0) :: (10, vP w.heap.size 0) :: [(0, vL tb o tl tc), (3, vP db 0), (6, vI n), (7, vP av 0), (8, l), (16, vI n), (17, vI k)]) → J0 Tryd.prog main F Stop (G (bA 53 A kk) cs) (w.alloc (.cells #[.slice oa m oc] 32))) :
    J0 Tryd.prog main F Stop (G (bA 53 A (.code i0E :: kk)) cs) w := by
  obtain ⟨s, rfl, h9, h0, h3, h6, h7, h8, h16, h17, _⟩ := Y3 diT hA
  simp only [diT, h9, h0, h3, h6, h7, h8, h16, h17]
  clear h9 h0 h3 h6 h7 h8 h16 h17
  have hmc : m ≤ oc := by omega
  have hm2 : (if (65536 : Int) < (ol : Int) then (65536 : Int) else ol) = (m : Int) := by split <;> omega
  have hS : ∀ u d, SD nn ib tb o k ol oc oa u → SD nn ib tb o k ol oc oa (World.at u d) := fun u d h => h.at d
  rw [A0B]
  refine O7 (SD nn ib tb o k ol oc oa) (last := 12) S3 (z8 (by kernel_rfl)) (by decide) ?_
  simp only [oC, i0E, pC, F4, Tryd.f53, Option.getD_some, List.size_toArray, List.length_cons, List.length_nil, Nat.reduceAdd, Nat.zero_add, List.range, List.range.loop]
  have hZ : ∀ a u d, J0 Tryd.prog main F Stop (G ((Go.Conc.base 53).at a (.inRegion (oC i0E) [12] :: kk)) cs) u → J0 Tryd.prog main F Stop (G ((Go.Conc.base 53).at a (.inRegion (oC i0E) [12] :: kk)) cs) (World.at u d) := fun a u d h => h.at d
  simp only [oC, i0E, pC, F4, Tryd.f53, Option.getD_some, List.size_toArray, List.length_cons, List.length_nil, Nat.reduceAdd, Nat.zero_add, List.range, List.range.loop] at hZ
  refine tkM 0 (vL tb o tl tc) hS hs ?_ hZ
  walk_nrm
  refine a0t 1 (vI k) (fun u hu => (And.intro hu.ci hu.zi)) hS hs ?_ hZ
  walk_nrm
  refine r0v 2 (vP tb (o + k)) (fun u hu => hkt) hS hs ?_ hZ
  walk_nrm
  refine a0t 3 (.slice oa ol oc) (fun u hu => (And.intro hu.ct hu.zt)) hS hs ?_ hZ
  walk_nrm
  refine tkM 4 (vL tb o tl tc) hS hs ?_ hZ
  walk_nrm
  refine a0t 5 (vI k) (fun u hu => (And.intro hu.ci hu.zi)) hS hs ?_ hZ
  walk_nrm
  refine r0v 6 (vP tb (o + k)) (fun u hu => hkt) hS hs ?_ hZ
  walk_nrm
  refine a0t 7 (.slice oa ol oc) (fun u hu => (And.intro hu.ct hu.zt)) hS hs ?_ hZ
  walk_nrm
  refine tkM 8 (vI ol) hS hs ?_ hZ
  walk_nrm
  refine r0v 9 (vI m) (fun u hu => hm2) hS hs ?_ hZ
  walk_nrm
  refine b0c hS hZ (i := 10) (v := .slice oa m oc) hs rfl rfl (by kernel_rfl) (by kernel_rfl) (by kernel_rfl) (fun u hu => .inl ⟨rfl, fun d => ⟨by simp [go_sem, execOp, Act.eval, m0u hmc, j0v hmc], fun e he => by have hm := mem_listed he; simp [go_sem, execOp, Act.eval, m0u hmc, j0v hmc] at hm⟩⟩) ?_
  walk_nrm
  refine i3 (r := [11]) (by kernel_rfl) (by kernel_rfl) (fun i hi hil => ?_)
  simp only [List.mem_cons, List.not_mem_nil, or_false] at hi
  subst hi
  refine V4 rfl rfl (fun d K' hK' => ?_)
  go_simp
  refine hK' _ _ ⟨⟨⟨0, Y0 hU (show nn ≤ (w.at d).heap.size from hs.top) _⟩, fun e he => by (have hm := mem_listed he; simp [go_sem] at hm)⟩, (hs.at d).alloc _, ?_⟩
  clear hK' K'
  rw [alloc_at']
  refine Y2 hS hZ _ _ _ _ ?_ d
  refine P5 (by kernel_rfl) ?_ _
  have hn := hs.top
  (refine oW fun dd K hK => ?_; go_simp; refine qS hK hU ?_; clear hK K)
  rw [n05]
  refine ogE ?_
  refine h _ ?_
  exact ⟨rfl, rfl, rfl, rfl, rfl, rfl, rfl, rfl, rfl, rfl, trivial⟩
end
section
variable{w:World}
theorem l0K(w:World):L1 F0 w=w:=by
 have e:(L1 F0 w).heap=w.heap:=by
  apply Array.ext_getElem?
  intro r
  rw[L4]
  cases h:w.heap[r]? with
  | none=>rfl
  | some o=>cases o<;>rfl
 calc L1 F0 w={w with heap:=(L1 F0 w).heap}:=rfl
  _=w:=by rw[e]
theorem J1:i2 F0 0:=fun r z h=>by cases h
theorem g0J(w:World):Wf F0 w:=⟨fun r z h=>by cases h⟩
theorem q06:∃i,Tryd.prog.info? 108=some i∧i.zero=some .nilFunc∧i.size=1∧i.bytes=8:=by
 have h:(Tryd.prog.info? 108).map (fun i=>(i.size,i.bytes))=some (1,8):=by kernel_rfl
 have h0:(Tryd.prog.info? 108).bind (·.zero)=some .nilFunc:=by kernel_rfl
 obtain⟨i,hi,h1⟩:=Option.map_eq_some_iff.1 h
 rw[hi]at h0
 simp only[Prod.mk.injEq]at h1
 exact⟨i,hi,h0,h1.1,h1.2⟩
def c0o(ob db ib av:Nat):Value:=.func (.func 63) #[] #[vP ob 0,vP db 0,vP ib 0,vP av 0]
theorem E0j{ta:Option Addr}{tl tc n db av ib ob k base:Nat}{l:Value}{xs:List Value}(hk:k<64)(hb:base≤w.heap.size)(hrow:w.ownsRow base 108 1 l k xs){A:Array Value}(hA:G0 38 A ((9,vP ib 0)::(10,vP ob 0)::[(0,.slice ta tl tc),(3,vP db 0),(6,vI n),(7,vP av 0),(8,l),(16,vI n),(17,vI k)])){cs:List Frame}{main:Bool}{Stop:Goroutine→World→Prop}
 (h:∀(w':World) (l':Value) (A:Array Value),w'.ownsRow base 108 1 l' (k+1) (xs++[c0o ob db ib av])→w.heap.size≤w'.heap.size→(∀r,r<w.heap.size→some r≠Value.ownBlock l→w'.heap[r]? =w.heap[r]?)→G0 38 A [(0,.slice ta tl tc),(3,vP db 0),(6,vI n),(7,vP av 0),(8,l'),(16,vI n),(17,vI (k+1:Nat))]→J0 Tryd.prog main F0 Stop (G (bA 53 A [.code c0q,.inLoop c0q,.inBlock 0,.code d0o]) cs) w'):
 J0 Tryd.prog main F0 Stop (G (bA 53 A [.code o0R,.inBlock 1,.code m05,.inLoop c0q,.inBlock 0,.code d0o]) cs) w:=by
 have hU:=J1
 have hn:0≤w.heap.size:=Nat.zero_le _
 have hk64:IntKind.i64.wrap ((k:Int)+1)=(k:Int)+1:=IntWalk.i64_in _ (by omega)
 obtain⟨s,rfl,h9,h10,h0,h3,h6,h7,h8,h16,h17,_⟩:=Y3 diT hA
 simp only[diT,h9,h10,h0,h3,h6,h7,h8,h16,h17]
 clear h9 h10 h0 h3 h6 h7 h8 h16 h17
 rw[A0C]
 refine ogR ?_
 simp only[oC,o0R,pC,F4,Tryd.f53,Option.getD_some,List.size_toArray,List.length_cons,List.length_nil,Nat.reduceAdd,Nat.zero_add,List.range,List.range.loop]
 iterate 2 refine oT ?_
 refine oA hU ?_
 have hrow2:=hrow.alloc (.cells #[c0o ob db ib av] 108)
 have hcell:=cell_one_new w (c0o ob db ib av) 108
 have hsz:(w.alloc (.cells #[c0o ob db ib av] 108)).heap.size=w.heap.size+1:=by simp
 have hold:∀r,r<w.heap.size→(w.alloc (.cells #[c0o ob db ib av] 108)).heap[r]? =w.heap[r]?:=fun r hr=>D0 _ _ hr
 change J0 _ _ _ _ _ (w.alloc (.cells #[c0o ob db ib av] 108))
 generalize w.alloc (.cells #[c0o ob db ib av] 108)=W at hrow2 hcell hsz hold ⊢
 obtain⟨i0,hi0,hz0,hz1,hz2⟩:=q06
 refine l00 (by decide) ?_
 refine e0Z (S':=fun _=>false) (px:=false) (ready0.shut false) (by simp) rfl rfl rfl (g0J _) (fun d=>?_)
 rw[l0K]
 obtain⟨l',u,hr,hown,hgrow,_⟩:=run_append_own (P:=Tryd.prog) (W.at d) base 118 118 108 i0 _ 1 8 Tryd.underlying118 hi0 hz0 hz1 hz2 rfl (by decide) l k xs hrow2 ⟨w.heap.size,0,none⟩ 1 1 [c0o ob db ib av] rfl
  hcell (fun q hq=>by simp at hq;subst hq;rfl) (by unfold maxLen;omega) (by omega) (by show base≤W.heap.size;omega)
 refine⟨l',u,V6 (.tmp 31) (.tmp 33) 118 rfl rfl rfl hr,fun w' hu hg hwf'=>?_⟩
 rw[l0K]at hu
 subst hu
 have hsz2:W.heap.size≤u.heap.size:=hgrow.size
 have hold2:∀r,r<w.heap.size→some r≠Value.ownBlock l→u.heap[r]? =w.heap[r]?:=fun r h1 h2=>(hgrow.block r (by show r<W.heap.size;omega) h2).trans (hold r h1)
 have hsz3:w.heap.size≤u.heap.size:=by omega
 clear hrow2 hcell hsz hold hr hgrow hsz2 hg hwf' hz0 hz1 hz2 hi0
 walk_nrm
 refine oT ?_
 refine ogE<|ogI ?_
 rw[A0D]
 refine ogR ?_
 simp only[oC,m05,pC,F4,Tryd.f53,Option.getD_some,List.size_toArray,List.length_cons,List.length_nil,Nat.reduceAdd,Nat.zero_add,List.range,List.range.loop]
 iterate 2 refine oT ?_
 refine ogE<|ogL ?_
 refine h _ l' _ hown hsz3 hold2 ?_
 exact⟨rfl,rfl,rfl,rfl,rfl,rfl,rfl,rfl,trivial⟩
end
section
variable{w:World}
structure SV(av:Nat)(v:Value)(u:World):Prop where
 c:u.cell? ⟨av,0,none⟩=some v
 z:u.frozen? ⟨av,0,none⟩=false
theorem E0l{ta:Option Addr}{tl tc n db av:Nat}{l x:Value}(hs:SV av x w){A:Array Value}(hA:G0 38 A [(0,.slice ta tl tc),(3,vP db 0),(6,vI n),(7,vP av 0),(8,l),(16,vI n),(17,vI n)]){c:Frame}{cs:List Frame}{Stop:Goroutine→World→Prop}
 (h:J0 Tryd.prog true F0 Stop (G (c.finish (.tuple #[l,x])) cs) w):
 J0 Tryd.prog true F0 Stop (G (bA 53 A [.code c0p,.code .ret]) (c::cs)) w:=by
 obtain⟨s,rfl,h0,h3,h6,h7,h8,h16,h17,_⟩:=Y3 diT hA
 simp only[diT,h0,h3,h6,h7,h8,h16,h17]
 clear h0 h3 h6 h7 h8 h16 h17
 have hS:∀u d,SV av x u→SV av x (World.at u d):=fun u d h=>⟨h.c,h.z⟩
 rw[x0b]
 refine O7 (SV av x) (last:=3) S3 (z8 (by kernel_rfl)) (by decide) ?_
 simp only[oC,c0p,pC,F4,Tryd.f53,Option.getD_some,List.size_toArray,List.length_cons,List.length_nil,Nat.reduceAdd,Nat.zero_add,List.range,List.range.loop]
 have hZ:∀a u d,J0 Tryd.prog true F0 Stop (G ((Go.Conc.base 53).at a [.inRegion (oC c0p) [3],.code .ret]) (c::cs)) u→J0 Tryd.prog true F0 Stop (G ((Go.Conc.base 53).at a [.inRegion (oC c0p) [3],.code .ret]) (c::cs)) (World.at u d):=fun a u d h=>h.at d
 simp only[oC,c0p,pC,F4,Tryd.f53,Option.getD_some,List.size_toArray,List.length_cons,List.length_nil,Nat.reduceAdd,Nat.zero_add,List.range,List.range.loop]at hZ
 refine tkM 0 l hS hs ?_ hZ
 walk_nrm
 refine a0t 1 x (fun u hu=>(And.intro hu.c hu.z)) hS hs ?_ hZ
 walk_nrm
 refine tkM 2 l hS hs ?_ hZ
 walk_nrm
 refine P5 (by kernel_rfl) ?_ _
 refine oT ?_
 refine ogE<|ogX ?_
 refine M0 rfl (fun d=>stepG_leave (fn:=Tryd.f53) (v:=.tuple #[l,x]) rfl rfl Tryd.func53 (by simp[results,Tryd.f53,go_sem]) (by simp[results,Tryd.f53,go_sem])) ?_
 exact h
structure DI(w0:World)(n k db aa av:Nat)(dv:Value)(oa:Nat→Option Addr)(m oc ib ob:Nat→Nat)(l:Value)(w:World):Prop where
 size:w0.heap.size≤w.heap.size
 old:∀r,r<w0.heap.size→w.heap[r]? =w0.heap[r]?
 hdb:w.heap[db]? =some (.cells #[dv] 74 (0,0))
 haa:w.heap[aa]? =some (.cells (madeCells #[.slice none 0 0] n) 55 (0,0))
 hav:w.heap[av]? =some (.cells #[vL aa 0 n n] 27 (0,0))
 hib:∀j,j<k→w.heap[ib j]? =some (.cells #[vI j] 3 (0,0))
 hob:∀j,j<k→w.heap[ob j]? =some (.cells #[.slice (oa j) (m j) (oc j)] 32 (0,0))
 lo:∀j,j<k→w0.heap.size≤ib j∧w0.heap.size≤ob j
 new:w0.heap.size≤db∧w0.heap.size≤aa∧w0.heap.size≤av
 row:w.ownsRow w0.heap.size 108 1 l k ((List.range k).map fun j=>c0o (ob j) db (ib j) av)
theorem DI.same{w0 w w':World}{n k db aa av:Nat}{dv:Value}{oa:Nat→Option Addr}{m oc ib ob:Nat→Nat}{l:Value}(h:DI w0 n k db aa av dv oa m oc ib ob l w)(hsz:w.heap.size≤w'.heap.size)(hs:∀r,r<w.heap.size→w'.heap[r]? =w.heap[r]?):DI w0 n k db aa av dv oa m oc ib ob l w':=by
 have lt:∀{r:Nat} {o:Obj},w.heap[r]? =some o→w'.heap[r]? =some o:=fun hr=>(hs _ (Q3 hr)).trans hr
 exact⟨Nat.le_trans h.size hsz,fun r hr=>(hs r (Nat.lt_of_lt_of_le hr h.size)).trans (h.old r hr),lt h.hdb,lt h.haa,lt h.hav,fun j hj=>lt (h.hib j hj),fun j hj=>lt (h.hob j hj),h.lo,h.new,G1 h.row fun b hb _=>hs b (h.row.lt b hb).2⟩
theorem e04{w0:World}{tb o tl tc n db aa av:Nat}{dv:Value}(hntl:n≤tl)(hn64:n≤64){oa:Nat→Option Addr}{ol m oc:Nat→Nat}(htb:0<n→tb<w0.heap.size)(hth:∀j,j<n→w0.cell? ⟨tb,o+j,none⟩=some (.slice (oa j) (ol j) (oc j))∧w0.frozen? ⟨tb,o+j,none⟩=false∧ol j≤oc j∧min (ol j) 65536=m j){ta:Option Addr}(hta:0<n→ta=some ⟨tb,o,none⟩){c:Frame}{cs:List Frame}{Stop:Goroutine→World→Prop}
 (K:∀w' l ib ob,DI w0 n n db aa av dv oa m oc ib ob l w'→J0 Tryd.prog true F0 Stop (G (c.finish (.tuple #[l,vL aa 0 n n])) cs) w'):
 ∀(q k:Nat),k+q=n→∀(w:World) (l:Value) (ib ob:Nat→Nat) (A:Array Value),DI w0 n k db aa av dv oa m oc ib ob l w→G0 38 A [(0,.slice ta tl tc),(3,vP db 0),(6,vI n),(7,vP av 0),(8,l),(16,vI n),(17,vI k)]→
  J0 Tryd.prog true F0 Stop (G (bA 53 A [.code c0q,.inLoop c0q,.inBlock 0,.code d0o]) (c::cs)) w:=by
 intro q
 induction q with
 | zero=>
   intro k hk w l ib ob A hD hA
   obtain rfl:k=n:=by omega
   refine E0k hA fun A2 hA2=>?_
   refine E0l (x:=vL aa 0 k k) ⟨by simp[World.cell?,hD.hav],by simp[World.frozen?,hD.hav]⟩ hA2 ?_
   exact K w l ib ob hD
 | succ q ih=>
   intro k hk w l ib ob A hD hA
   have hkn:k<n:=by omega
   obtain rfl:=hta (by omega)
   obtain⟨t1,t2,t3,t4⟩:=hth k hkn
   have htl:=htb (by omega)
   have htb2:=hD.old tb htl
   have hsz0:=hD.size
   refine E0h J1 (Nat.zero_le _) hkn hA fun A2 hA2=>?_
   have e1:∀r,r<w.heap.size→(w.alloc (.cells #[vI k] 3)).heap[r]? =w.heap[r]?:=fun r hr=>D0 _ _ hr
   have e2:=heap_alloc_new w (.cells #[vI k] 3)
   have e3:(w.alloc (.cells #[vI k] 3)).heap.size=w.heap.size+1:=by simp
   generalize w.alloc (.cells #[vI k] 3)=W1 at e1 e2 e3 ⊢
   refine ogV i0E o0R ?_
   have htb3:W1.heap[tb]? =w0.heap[tb]?:=(e1 tb (by omega)).trans htb2
   refine E0i (nn:=0) (m:=m k) J1 (by omega) t4 t3 ⟨Nat.zero_le _,by omega,by omega,by simp[World.cell?,e2],by simp[World.frozen?,e2],by rw[← t1];unfold World.cell?;simp only[htb3],by rw[← t2];unfold World.frozen?;simp only[htb3]⟩ hA2 fun A3 hA3=>?_
   have f1:∀r,r<W1.heap.size→(W1.alloc (.cells #[.slice (oa k) (m k) (oc k)] 32)).heap[r]? =W1.heap[r]?:=fun r hr=>D0 _ _ hr
   have f2:=heap_alloc_new W1 (.cells #[.slice (oa k) (m k) (oc k)] 32)
   have f3:(W1.alloc (.cells #[.slice (oa k) (m k) (oc k)] 32)).heap.size=W1.heap.size+1:=by simp
   generalize W1.alloc (.cells #[.slice (oa k) (m k) (oc k)] 32)=W2 at f1 f2 f3 ⊢
   have hD2:DI w0 n k db aa av dv oa m oc ib ob l W2:=hD.same (by omega) fun r hr=>(f1 r (by omega)).trans (e1 r hr)
   refine E0j (base:=w0.heap.size) (by omega) (by omega) hD2.row hA3 fun w' l' A4 g1 g2 g3 hA4=>?_
   have hne:∀{r:Nat} {cc:Array Value} {t:TypeId},W2.heap[r]? =some (.cells cc t (0,0))→t≠108→w'.heap[r]? =some (.cells cc t (0,0)):=fun hr ht=>(g3 _ (Q3 hr) (Q9 hD2.row hr (fun e=>ht e.symm))).trans hr
   have hold:∀r,r<w0.heap.size→w'.heap[r]? =w0.heap[r]?:=fun r hr=>(g3 r (by omega) (fun e=>by
    have:=(hD2.row.lt r e.symm).1;omega)).trans (hD2.old r hr)
   refine ih (k+1) (by omega) w' l' (fun j=>if j=k then w.heap.size else ib j) (fun j=>if j=k then W1.heap.size else ob j) A4 ⟨by omega,hold,hne hD2.hdb (by decide),hne hD2.haa (by decide),hne hD2.hav (by decide),fun j hj=>?_,fun j hj=>?_,fun j hj=>?_,hD.new,?_⟩ hA4
   ·by_cases e:j=k
    ·subst e
     simp only[if_true]
     exact hne ((f1 _ (by omega)).trans e2) (by decide)
    ·simp only[if_neg e]
     exact hne (hD2.hib j (by omega)) (by decide)
   ·by_cases e:j=k
    ·subst e
     simp only[if_true]
     exact hne f2 (by decide)
    ·simp only[if_neg e]
     exact hne (hD2.hob j (by omega)) (by decide)
   ·by_cases e:j=k
    ·subst e
     simp only[if_true]
     omega
    ·simp only[if_neg e]
     exact hD.lo j (by omega)
   ·have e5:((List.range (k+1)).map fun j=>c0o (if j=k then W1.heap.size else ob j) db (if j=k then w.heap.size else ib j) av)=((List.range k).map fun j=>c0o (ob j) db (ib j) av)++[c0o W1.heap.size db w.heap.size av]:=by
     rw[List.range_succ,List.map_append]
     congr 1
     ·apply List.map_congr_left
      intro j hj
      have:j<k:=List.mem_range.1 hj
      simp only[if_neg (show ¬j=k by omega)]
     ·simp
    rw[e5]
    exact g1
theorem n0P{tb o tl tc n df:Nat}{first capt:Array Value}(hn1:min tl 64=n){oa:Nat→Option Addr}{ol m oc:Nat→Nat}(htb:0<n→tb<w.heap.size)(hth:∀j,j<n→w.cell? ⟨tb,o+j,none⟩=some (.slice (oa j) (ol j) (oc j))∧w.frozen? ⟨tb,o+j,none⟩=false∧ol j≤oc j∧min (ol j) 65536=m j){ta:Option Addr}(hta:0<n→ta=some ⟨tb,o,none⟩){c:Frame}{cs:List Frame}{Stop:Goroutine→World→Prop}
 (K:∀w' l ib ob db aa av,DI w n n db aa av (.func (.func df) first capt) oa m oc ib ob l w'→J0 Tryd.prog true F0 Stop (G (c.finish (.tuple #[l,vL aa 0 n n])) cs) w'):
 J0 Tryd.prog true F0 Stop (G (Frame.enter Tryd.prog 53 #[.slice ta tl tc,.func (.func df) first capt] .normal) (c::cs)) w:=by
 refine E0f J1 (Nat.zero_le _) hn1 fun A hA=>?_
 refine E0g J1 (Nat.zero_le _) (by omega) hA fun A2 hA2=>?_
 have e1:∀r,r<w.heap.size→(((w.alloc (.cells #[.func (.func df) first capt] 74)).alloc (.cells (madeCells #[.slice none 0 0] n) 55)).alloc (.cells #[vL ((w.alloc (.cells #[.func (.func df) first capt] 74)).heap.size) 0 n n] 27)).heap[r]? =w.heap[r]?:=fun r hr=>by
  rw[D0 _ _ (by simp;omega),D0 _ _ (by simp;omega),D0 _ _ hr]
 refine e04 (w0:=w) (n:=n) (tl:=tl) (dv:=.func (.func df) first capt) (oa:=oa) (ol:=ol) (m:=m) (oc:=oc) (tb:=tb) (o:=o) (db:=w.heap.size) (aa:=w.heap.size+1) (av:=w.heap.size+2) (by omega) (by omega) htb hth hta (fun w' l ib ob hD=>K w' l ib ob _ _ _ hD) n 0 (by omega) _ (.slice none 0 0) (fun _=>0) (fun _=>0) A2 ⟨by simp;omega,e1,?_,?_,?_,fun j hj=>by omega,fun j hj=>by omega,fun j hj=>by omega,⟨by omega,by omega,by omega⟩,World.ownsRow_nil _ _ _ _⟩ (by simpa using hA2)
 ·rw[D0 _ _ (by simp;omega),D0 _ _ (by simp)]
  exact heap_alloc_new _ _
 ·have:=heap_alloc_new (w.alloc (.cells #[.func (.func df) first capt] 74)) (.cells (madeCells #[.slice none 0 0] n) 55)
  rw[D0 _ _ (by simp)]
  simpa using this
 ·have:=heap_alloc_new ((w.alloc (.cells #[.func (.func df) first capt] 74)).alloc (.cells (madeCells #[.slice none 0 0] n) 55)) (.cells #[vL ((w.alloc (.cells #[.func (.func df) first capt] 74)).heap.size) 0 n n] 27)
  simpa using this
end
noncomputable section
variable {cs:List Frame}{main:Bool}{Stop:Goroutine→World→Prop}
variable{F:Fz}{w:World}
theorem l0j(a b c:Option Addr)(n m k l:Nat)(s:Bool):Tryd.prog.built 29 [(0,.slice a n m),(1,.slice b k l),(3,.bool s)]=some #[.slice a n m,.slice b k l,.slice none 0 0,.bool s]:=by kernel_rfl
@[go_sem] theorem v0i(a b:Option Addr)(n m k l:Nat)(s:Bool)(w:World):(Instr.build 29 #[(0,.slice a n m),(1,.slice b k l),(3,.bool s)]).run Tryd.prog w= .ok (.agg #[.slice a n m,.slice b k l,.slice none 0 0,.bool s]) w:=run_build w _ _ _ (l0j a b a n m k l s)
@[go_sem] theorem x0g(a b:Option Addr)(n m k l:Nat)(s:Bool)(w:World)(es:Array Event):(Instr.build 29 #[(0,.slice a n m),(1,.slice b k l),(3,.bool s)]).events Tryd.prog w es=es:=l6 w es _ _ _ _ Tryd.underlying29 (l0j a b a n m k l s)
def trW(w:World)(tb:Nat)(a b c d:Value):World:=(((w.setCell ⟨tb,0,none⟩ a).setCell ⟨tb,1,none⟩ b).setCell ⟨tb,2,none⟩ c).setCell ⟨tb,3,none⟩ d
structure S7(w:World)(tb:Nat)(a b c d:Value):Prop where
 o:w.heap[tb]? =some (.cells #[a,b,c,d] 29 (0,0))
section
variable{tb:Nat}{a b c d:Value}
theorem S7.at(h:S7 w tb a b c d)(e:Nat):S7 (w.at e) tb a b c d:=⟨h.o⟩
theorem S7.c0(h:S7 w tb a b c d):w.cell? ⟨tb,0,none⟩=some a:=by simp[World.cell?,h.o]
theorem S7.c1(h:S7 w tb a b c d):w.cell? ⟨tb,1,none⟩=some b:=by simp[World.cell?,h.o]
theorem S7.c2(h:S7 w tb a b c d):w.cell? ⟨tb,2,none⟩=some c:=by simp[World.cell?,h.o]
theorem S7.c3(h:S7 w tb a b c d):w.cell? ⟨tb,3,none⟩=some d:=by simp[World.cell?,h.o]
theorem S7.z(h:S7 w tb a b c d)(k:Nat):w.frozen? ⟨tb,k,none⟩=false:=by simp[World.frozen?,h.o]
theorem S7.put(h:S7 w tb a b c d)(a' b' c' d':Value):S7 (trW w tb a' b' c' d') tb a' b' c' d':=by
 constructor
 unfold trW
 rw[U1 (U1 (U1 (U1 h.o _) _) _) _]
 rfl
end
def j8:Code:=Tryd.f28.body.getD .skip
def E0S:=pC [] j8
def B0B:=pC [zt] j8
def B0D:=pC [zf] j8
def p0C:=pC [zf,zt] j8
def s0E:=pC [zf] B0D
def n0K:=pC [zf,zf,zt] j8
def s0F:=pC [zf] s0E
def B0C:=pC [zf,zf,zf,zt] j8
theorem o0W(args:Array Value):Frame.enter Tryd.prog 28 args .normal=(Go.Conc.base 28).at {tmps:=args++Array.replicate (32 - args.size) undef,defers:=[]} [.code E0S]:=enter_at args Tryd.func28 rfl
theorem Z9:O1 28:=G2 Tryd.func28 rfl rfl
def opT(s:Nat→Value):Array Value:= #[s 0,s 1,s 2,s 3,s 4,s 5,s 6,s 7,s 8,s 9,s 10,s 11,s 12,s 13,s 14,s 15,s 16,s 17,s 18,s 19,s 20,s 21,s 22,s 23,s 24,s 25,s 26,s 27,s 28,s 29,s 30,s 31]
theorem E0O{A:Array Value}(h:A.size=32):∃s,A=opT s:=by
 obtain⟨s,hs,_⟩:=Y4 A h
 exact⟨s,hs⟩
theorem E0P{n:Nat}(hU:i2 F n)(hn:n≤w.heap.size){ta sa:Option Addr}{tl tc sl sc:Nat}{dv:Value}{mo:Int}
 (h:∀A,G0 32 A [(0,.slice ta tl tc),(1,dv),(2,.slice sa sl sc),(3,vI mo),(8,vP w.heap.size 0)]→J0 Tryd.prog main F Stop (G (Frame.enter Tryd.prog 53 #[.slice ta tl tc,dv] .normal) ((bA 28 A [.inRegion (oC p0C) [2,3,4,5,6,7],.code s0E])::cs)) (w.alloc (.cells #[.slice none 0 0,.slice none 0 0,.slice none 0 0,.bool false] 29))):
 J0 Tryd.prog main F Stop (G (Frame.enter Tryd.prog 28 #[.slice ta tl tc,dv,.slice sa sl sc,vI mo] .normal) cs) w:=by
 rw[o0W]
 walk_nrm
 refine ogW B0B B0D ?_
 simp only[oC,B0B,pC,j8,Tryd.f28,Option.getD_some,List.size_toArray,List.length_cons,List.length_nil,Nat.reduceAdd,Nat.zero_add,List.range,List.range.loop]
 refine oA hU ?_
 refine ogE<|ogW p0C s0E ?_
 simp only[oC,p0C,pC,j8,Tryd.f28,Option.getD_some,List.size_toArray,List.length_cons,List.length_nil,Nat.reduceAdd,Nat.zero_add,List.range,List.range.loop]
 iterate 2 refine oT ?_
 refine oc a0a #[.slice ta tl tc,dv] ?_
 refine h _ ?_
 exact⟨rfl,rfl,rfl,rfl,rfl,rfl,trivial⟩
theorem E0Q{ta sa:Option Addr}{tl tc sl sc tb:Nat}{dv l an:Value}{mo:Int}{A:Array Value}(hA:G0 32 A [(0,.slice ta tl tc),(1,dv),(2,.slice sa sl sc),(3,vI mo),(8,vP tb 0)])
 (h:∀A,G0 32 A [(8,vP tb 0),(10,an)]→J0 Tryd.prog main F Stop (G (Frame.enter Tryd.prog 54 #[l,.slice sa sl sc,vI mo] .normal) ((bA 28 A [.inRegion (oC n0K) [3,4,5,6,7,8,9,10],.code s0F])::cs)) w):
 J0 Tryd.prog main F Stop (G ((bA 28 A [.inRegion (oC p0C) [2,3,4,5,6,7],.code s0E]).finish (.tuple #[l,an])) cs) w:=by
 obtain⟨s,rfl,h0,h1,h2,h3,h8,_⟩:=Y3 opT hA
 simp only[opT,h0,h1,h2,h3,h8]
 clear h0 h1 h2 h3 h8
 rw[Frame.finish_at]
 simp only[oC,p0C,pC,j8,Tryd.f28,Option.getD_some,List.size_toArray,List.length_cons,List.length_nil,Nat.reduceAdd,Nat.zero_add,List.range,List.range.loop]
 walk_nrm
 iterate 5 refine oT ?_
 refine ogE<|ogW n0K s0F ?_
 simp only[oC,n0K,pC,j8,Tryd.f28,Option.getD_some,List.size_toArray,List.length_cons,List.length_nil,Nat.reduceAdd,Nat.zero_add,List.range,List.range.loop]
 iterate 3 refine oT ?_
 refine oc T4 #[l,.slice sa sl sc,vI mo] ?_
 refine h _ ?_
 exact⟨rfl,rfl,rfl,trivial⟩
theorem E0R{tb:Nat}{x0 x1 x2 x3:Value}(hT:S7 w tb x0 x1 x2 x3)(hnh:∀k,¬held F ⟨tb,k,none⟩){aa oa:Option Addr}{al ac ol oc:Nat}{st:Bool}{bv:Value}{A:Array Value}(hA:G0 32 A [(8,vP tb 0),(10,.slice aa al ac)]){c:Frame}
 (h:J0 Tryd.prog main F Stop (G (c.finish (.agg #[.slice aa al ac,.slice oa ol oc,.slice none 0 0,.bool st])) cs) (trW w tb (.slice aa al ac) (.slice oa ol oc) (.slice none 0 0) (.bool st))):
 J0 Tryd.prog main F Stop (G ((bA 28 A [.inRegion (oC n0K) [3,4,5,6,7,8,9,10],.code s0F]).finish (.tuple #[.slice oa ol oc,.bool st,bv])) (c::cs)) w:=by
 obtain⟨s,rfl,h8,h10,_⟩:=Y3 opT hA
 simp only[opT,h8,h10]
 clear h8 h10
 rw[Frame.finish_at]
 simp only[oC,n0K,pC,j8,Tryd.f28,Option.getD_some,List.size_toArray,List.length_cons,List.length_nil,Nat.reduceAdd,Nat.zero_add,List.range,List.range.loop]
 walk_nrm
 iterate 7 refine oT ?_
 refine ogE<|ogW B0C .ret ?_
 simp only[oC,B0C,pC,j8,Tryd.f28,Option.getD_some,List.size_toArray,List.length_cons,List.length_nil,Nat.reduceAdd,Nat.zero_add,List.range,List.range.loop]
 iterate 4 refine oT ?_
 (refine oW fun dd K hK=>?_;have hc0:=(hT.at dd).c0;have hc1:=(hT.at dd).c1;have hc2:=(hT.at dd).c2;have hc3:=(hT.at dd).c3;have hz0:=(hT.at dd).z;go_simp;refine hK _ _ ⟨⟨⟨0,e0L (fun k=>hnh k) _ _ _ _⟩,fun e he=>by(have hm:=mem_listed he;clear he hK;simp[go_sem,storedEv,hc0,hc1,hc2,hc3,hz0]at hm;rcases hm with rfl|rfl|rfl|rfl<;>exact U0 _ _ ((fun k=>hnh k) _))⟩,?_⟩;clear hK K hc0 hc1 hc2 hc3 hz0;simp only[setCell_at'];refine J0.at ?_ dd)
 refine ogE<|ogX ?_
 have hT2:=hT.put (.slice aa al ac) (.slice oa ol oc) (.slice none 0 0) (.bool st)
 change J0 _ _ _ _ _ (trW w tb (.slice aa al ac) (.slice oa ol oc) (.slice none 0 0) (.bool st))
 generalize trW w tb (.slice aa al ac) (.slice oa ol oc) (.slice none 0 0) (.bool st)=W at hT2 h ⊢
 have hc0:=hT2.c0
 have hc1:=hT2.c1
 have hc2:=hT2.c2
 have hc3:=hT2.c3
 have hz0:=hT2.z
 refine p4 (fn:=Tryd.f28) (v:=.agg #[.slice aa al ac,.slice oa ol oc,.slice none 0 0,.bool st]) rfl rfl Tryd.func28 (fun d=>by simp[results,Tryd.f28,go_sem,hc0,hc1,hc2,hc3,hz0]) (fun d e he=>by simp[results,Tryd.f28,go_sem,hc0,hc1,hc2,hc3,hz0]at he;rcases he with rfl|rfl|rfl|rfl<;>exact I1 _ _) ?_
 exact h
end
noncomputable section
variable{w w':World}{L:l8}
open Classical in
def IW(w:World)(N:Nat→Prop):Nat→Option Obj:=fun r=>if N r then none else match w.heap[r]? with
 | some (.cells c e z)=>some (.cells c e z)
 | _=>none
theorem x0t{N:Nat→Prop}{r:Nat}(h:N r):IW w N r=none:=if_pos h
theorem p0l{N:Nat→Prop}{r:Nat}{c:Array Value}{e:TypeId}{z:Nat×Nat}(h:¬N r)(ho:w.heap[r]? =some (.cells c e z)):IW w N r=some (.cells c e z):=by
 unfold IW
 rw[if_neg h,ho]
theorem s0y{N:Nat→Prop}{r:Nat}{o:Obj}(h:IW w N r=some o):¬N r∧w.heap[r]? =some o∧∃c e z,o= .cells c e z:=by
 unfold IW at h
 split at h
 ·cases h
 ·rename_i hm
  split at h
  ·rename_i c e z ho
   cases h
   exact⟨hm,ho,c,e,z,rfl⟩
  ·cases h
theorem f0I(n j:Nat)(h:j<n):(madeCells #[Value.slice none 0 0] n)[j]? =some (.slice none 0 0):=by
 simp[madeCells,h,Nat.mod_one]
theorem e0T(n:Nat)(v:Value):(madeCells #[v] n).size=n:=by
 simp[madeCells]
def x00(s0:L.S):OX L:=⟨s0,fun _=>⟨0,none,[],.slice none 0 0⟩⟩
theorem z0z{r:Nat}:¬TR (⟨0,none,[],.slice none 0 0⟩:D9 L) r:=by
 rintro(h|⟨a,ha,_⟩|⟨c,A,ab,h,_⟩)
 ·cases h
 ·cases ha
 ·cases h
def o9(L:l8)(s0:L.S)(W:World)(n db aa av:Nat)(ib ob:Nat→Nat)(oa:Nat→Option Addr)(oc:Nat→Nat)(ops:Nat→List P3):T9:=
 ⟨n,aa,av,db,ib,ob,ops,oa,oc,IW W (fun r=>r=aa∨L.SR s0 r)⟩
theorem E6{s0:L.S}{W:World}{n db aa av:Nat}{ib ob:Nat→Nat}{oa:Nat→Option Addr}{oc:Nat→Nat}{ops:Nat→List P3}{r:Nat}{c:Array Value}{e:TypeId}{z:Nat×Nat}(h:¬(r=aa∨L.SR s0 r))(ho:W.heap[r]? =some (.cells c e z)):(o9 L s0 W n db aa av ib ob oa oc ops).I r=some (.cells c e z):=by
 exact p0l (w:=W) (N:=fun r=>r=aa∨L.SR s0 r) h ho
theorem i06{s0:L.S}{W:World}{n db aa av:Nat}{ib ob:Nat→Nat}{oa:Nat→Option Addr}{oc:Nat→Nat}{ops:Nat→List P3}{r:Nat}{o:Obj}(h:(o9 L s0 W n db aa av ib ob oa oc ops).I r=some o):¬(r=aa∨L.SR s0 r)∧W.heap[r]? =some o∧∃c e z,o= .cells c e z:=by
 exact s0y (w:=W) (N:=fun r=>r=aa∨L.SR s0 r) h
theorem l02{s0:L.S}{W:World}{n db aa av:Nat}{ib ob:Nat→Nat}{oa:Nat→Option Addr}{oc:Nat→Nat}{ops:Nat→List P3}{r:Nat}(h:r=aa∨L.SR s0 r):(o9 L s0 W n db aa av ib ob oa oc ops).I r=none:=by
 exact x0t (w:=W) (N:=fun r=>r=aa∨L.SR s0 r) h
section
variable{s0:L.S}{W w0:World}{n db aa av tb o tl:Nat}{ib ob:Nat→Nat}{oa:Nat→Option Addr}{ol oc m:Nat→Nat}{ops:Nat→List P3}{ta sa:Option Addr}{S:List Int}{l:Value}
theorem b0f{dv:Value}(hL:L.Ok)(hsu:L.SU s0 w0)(hD:DI w0 n n db aa av dv oa m oc ib ob l W){r:Nat}{c:Array Value}{e:TypeId}{z:Nat×Nat}(ho:W.heap[r]? =some (.cells c e z))(h84:e≠55)(hr:w0.heap.size≤r):¬(r=aa∨L.SR s0 r):=by
 rintro(rfl|h)
 ·rw[hD.haa]at ho
  cases ho
  exact h84 rfl
 ·have:=hL.lS _ _ _ hsu h
  omega
theorem y0h(hL:L.Ok)(hsu:L.SU s0 w0)(hI:x8 w0 (L.SR s0) n tb o tl ta oa ol oc ops S sa)(hD:DI w0 n n db aa av (.func (.func L.df) L.first L.capt) oa (fun j=>(ops j).length) oc ib ob l W):(o9 L s0 W n db aa av ib ob oa oc ops).Ok L where
 cells:=fun r o h=>(i06 h).2.2
 len:=fun i hi=>by
  have:(ops i).length=min (ol i) 65536:=hI.hlen i hi
  show(ops i).length≤65536
  omega
 inI:=⟨by
  show(o9 L s0 W n db aa av ib ob oa oc ops).I av≠none
  rw[E6 (b0f hL hsu hD hD.hav (by decide) hD.new.2.2) hD.hav];simp,fun i hi=>by
  show(o9 L s0 W n db aa av ib ob oa oc ops).I (ib i)≠none
  rw[E6 (b0f hL hsu hD (hD.hib i hi) (by decide) (hD.lo i hi).1) (hD.hib i hi)];simp⟩
 av:=fun u hu=>⟨⟨_,_,hu _ _ (E6 (b0f hL hsu hD hD.hav (by decide) hD.new.2.2) hD.hav),rfl⟩,rfl⟩
 db:=fun u hu=>⟨⟨_,_,hu _ _ (E6 (b0f hL hsu hD hD.hdb (by decide) hD.new.1) hD.hdb),rfl⟩,rfl⟩
 ib:=fun u hu i hi=>⟨⟨_,_,hu _ _ (E6 (b0f hL hsu hD (hD.hib i hi) (by decide) (hD.lo i hi).1) (hD.hib i hi)),rfl⟩,rfl⟩
 ob:=fun u hu i hi=>⟨⟨_,_,hu _ _ (E6 (b0f hL hsu hD (hD.hob i hi) (by decide) (hD.lo i hi).2) (hD.hob i hi)),rfl⟩,rfl⟩
 op:=fun u hu i hi k x hx=>by
  obtain⟨opb,oo,h1,h2,f0,f1,f2,f3,g0,g1,g2,g3⟩:=hI.hop i hi k x hx
  obtain⟨c,e,z,ho⟩:=M3 f0
  simp only at ho
  have hlt:=(Q3 ho)
  have hW:=(hD.old opb hlt).trans ho
  have hN:¬(opb=aa∨L.SR s0 opb):=by
   rintro(h|h)
   ·have:=hD.new.2.1;omega
   ·exact h2 h
  have hU:=hu _ _ (E6 hN hW)
  have e1:u.heap[opb]? =w0.heap[opb]?:=hU.trans ho.symm
  have ec:∀k,u.cell? ⟨opb,k,none⟩=w0.cell? ⟨opb,k,none⟩:=fun k=>by unfold World.cell?;simp only[e1]
  have ez:∀k,u.frozen? ⟨opb,k,none⟩=w0.frozen? ⟨opb,k,none⟩:=fun k=>by unfold World.frozen?;simp only[e1]
  exact⟨opb,oo,h1,(ec _).trans f0,(ec _).trans f1,(ec _).trans f2,(ec _).trans f3,(ez _).trans g0,(ez _).trans g1,(ez _).trans g2,(ez _).trans g3⟩
theorem p0E{g:M1}(hL:L.Ok)(hsu:L.SU s0 w0)(hD:DI w0 n n db aa av (.func (.func L.df) L.first L.capt) oa (fun j=>(ops j).length) oc ib ob l W):OU L (o9 L s0 W n db aa av ib ob oa oc ops) g (x00 s0) W where
 fix:=fun r o h=>(i06 h).2.1
 su:=hL.sS _ _ _ hsu hD.size fun r hr=>hD.old r (hL.lS _ _ _ hsu hr)
 arr:=⟨_,hD.haa,e0T _ _,fun i hi=>f0I _ _ hi⟩
 thr:=fun i hi=>⟨World.ownsRow_nil _ _ _ _,fun a ha=>(by cases ha),rfl,Nat.zero_le _,fun a ha=>(by cases ha),fun c A ab h=>(by cases h)⟩
 ts:=fun i hi r hr=>absurd hr z0z
 sa:=fun h=>by
  have:=hL.lS _ _ _ hsu h
  have h2:=hD.new.2.1
  show False
  have h3:(o9 L s0 W n db aa av ib ob oa oc ops).aa=aa:=rfl
  omega
 jj:=fun i hi c A ab h=>(by cases h)
 tt:=fun i j hi hj hne r hr=>absurd hr z0z
 inone:=by
  rintro r (h|h|⟨i,hi,h⟩)
  ·exact l02 (.inr h)
  ·exact l02 (.inl h)
  ·exact absurd h z0z
end
end
section
variable{An:G3}{w w':World}{L:l8}
theorem x8.alloc{N:Nat→Prop}{n tb o tl:Nat}{ta:Option Addr}{oa:Nat→Option Addr}{ol oc:Nat→Nat}{ops:Nat→List P3}{S:List Int}{sa:Option Addr}(h:x8 w N n tb o tl ta oa ol oc ops S sa)(ob:Obj):x8 (w.alloc ob) N n tb o tl ta oa ol oc ops S sa:=by
 refine⟨h.hn,h.hta,fun hp=>by have:=h.htb hp;simp;omega,fun j hj=>?_,h.hlen,fun j hj k x hx=>?_,h.hsl,fun hp=>?_⟩
 ·obtain⟨h1,h2,h3⟩:=h.hth j hj
  exact⟨(O0 h1 ob).1,(O0 h1 ob).2.trans h2,h3⟩
 ·obtain⟨opb,oo,h1,h2,f0,f1,f2,f3,g0,g1,g2,g3⟩:=h.hop j hj k x hx
  exact⟨opb,oo,h1,h2,(O0 f0 ob).1,(O0 f1 ob).1,(O0 f2 ob).1,(O0 f3 ob).1,(O0 f0 ob).2.trans g0,(O0 f1 ob).2.trans g1,(O0 f2 ob).2.trans g2,(O0 f3 ob).2.trans g3⟩
 ·obtain⟨sb,so,c,e,z,h1,h2,h3,h4⟩:=h.hS hp
  exact⟨sb,so,c,e,z,h1,h2,(D0 _ _ (Q3 h3)).trans h3,h4⟩
def T9.re(p:T9)(I:Nat→Option Obj):T9:=⟨p.n,p.aa,p.av,p.db,p.ib,p.ob,p.ops,p.oa,p.oc,I⟩
theorem f0C.re{p:T9}{I:Nat→Option Obj}{st i:Nat}{t:D9 L}(h:f0C L p st i t w):f0C L (p.re I) st i t w:=⟨h.row,h.au,h.al,h.kl,h.ar,h.call⟩
theorem OU.re{p:T9}{g:M1}{x:OX L}(h:OU L p g x w){I:Nat→Option Obj}(hI:∀r o,I r=some o→p.I r=some o):OU L (p.re I) g x w:=
 ⟨fun r o e=>h.fix r o (hI r o e),h.su,h.arr,fun i hi=>(h.thr i hi).re,h.ts,h.sa,h.jj,h.tt,fun r hr=>by
  cases e:I r with
  | none=>exact e
  | some o=>
    have:=h.inone r hr
    rw[hI r o e]at this
    cases this⟩
theorem o0w(hL:L.Ok){s0:L.S}(hsu:L.SU s0 w){n tb o tl tc sc M:Nat}{mo:Int}{ta sa:Option Addr}{oa:Nat→Option Addr}{ol oc:Nat→Nat}{ops:Nat→List P3}{S:List Int}(hI:x8 w (L.SR s0) n tb o tl ta oa ol oc ops S sa)(hM:min (max mo 0) 1048576=(M:Int)){c:Frame}{cs:List Frame}{Stop:Goroutine→World→Prop}
 (hk:∀(g:M1) (p p':T9) (t:OX L×List Nat) (w':World) (oa':Option Addr) (oc':Nat),g.n=n→p.n=n→p.ops=ops→(U2 L p g).Ok g→d0X (U2 L p g) n M S (x00 s0) t→p'.n=n→p'.ops=ops→p'.aa=p.aa→OU L p' g t.1 w'→
   w'.ownsRow w.heap.size 3 1 (.slice oa' t.2.length oc') t.2.length (t.2.map fun i:Nat=>Value.int .i64 i)→(∀y,oa'=some y→¬OR L p' t.1 y.block)→w.heap.size≤w'.heap.size→(∀r c e z,w.heap[r]? =some (.cells c e z)→¬L.SR s0 r→w'.heap[r]? =some (.cells c e z))→(∀r c e z,w.heap[r]? =some (.cells c e z)→¬L.SR s0 r→p'.I r≠none)→
   Q4 An Tryd.prog Stop (G (c.finish (.agg #[vL p.aa 0 n n,.slice oa' t.2.length oc',.slice none 0 0,.bool (decide (0<L5 ((U2 L p g).liv t.1) n))])) cs) w'):
 Q4 An Tryd.prog Stop (G (Frame.enter Tryd.prog 28 #[.slice ta tl tc,.func (.func L.df) L.first L.capt,.slice sa S.length sc,vI mo] .normal) (c::cs)) w:=by
 have hw0:∀r,r<w.heap.size→(w.alloc (.cells #[.slice none 0 0,.slice none 0 0,.slice none 0 0,.bool false] 29)).heap[r]? =w.heap[r]?:=fun r hr=>D0 _ _ hr
 have hs0:(w.alloc (.cells #[.slice none 0 0,.slice none 0 0,.slice none 0 0,.bool false] 29)).heap.size=w.heap.size+1:=by simp
 have htr:S7 (w.alloc (.cells #[.slice none 0 0,.slice none 0 0,.slice none 0 0,.bool false] 29)) w.heap.size (.slice none 0 0) (.slice none 0 0) (.slice none 0 0) (.bool false):=⟨heap_alloc_new _ _⟩
 have hI0:=hI.alloc (.cells #[.slice none 0 0,.slice none 0 0,.slice none 0 0,.bool false] 29)
 refine Z6 (F:=F0) (Stop:=fun a u=>∃A l ib ob db aa av,a=G (Frame.enter Tryd.prog 54 #[l,.slice sa S.length sc,vI mo] .normal) ((bA 28 A [.inRegion (oC n0K) [3,4,5,6,7,8,9,10],.code s0F])::c::cs)∧
  DI (w.alloc (.cells #[.slice none 0 0,.slice none 0 0,.slice none 0 0,.bool false] 29)) n n db aa av (.func (.func L.df) L.first L.capt) oa (fun j=>(ops j).length) oc ib ob l u∧G0 32 A [(8,vP w.heap.size 0),(10,vL aa 0 n n)])
  (E0P J1 (Nat.zero_le _) fun A hA=>n0P hI0.hn hI0.htb (fun j hj=>⟨(hI0.hth j hj).1,(hI0.hth j hj).2.1,(hI0.hth j hj).2.2,(hI0.hlen j hj).symm⟩) hI0.hta fun w1 l ib ob db aa av hD=>E0Q hA fun A2 hA2=>.stop fun d=>⟨A2,l,ib,ob,db,aa,av,rfl,hD.same (Nat.le_refl _) fun _ _=>rfl,hA2⟩) fun a W hS=>?_
 obtain⟨A,l,ib,ob,db,aa,av,rfl,hD,hA⟩:=hS
 generalize w.alloc (.cells #[.slice none 0 0,.slice none 0 0,.slice none 0 0,.bool false] 29)=w0 at hw0 hs0 htr hI0 hD
 have hsu0:L.SU s0 w0:=hL.sS _ _ _ hsu (by omega) fun r hr=>hw0 r (hL.lS _ _ _ hsu hr)
 have hpok:=y0h hL hsu0 hI0 hD
 have hn64:n≤64:=by have:=hI.hn;omega
 have hU1:∀g,OU L (o9 L s0 W n db aa av ib ob oa oc ops) g (x00 s0) W:=fun g=>p0E hL hsu0 hD
 have hsrlt:∀r,L.SR s0 r→r<w.heap.size:=fun r hr=>hL.lS _ _ _ hsu hr
 have hDs:=hD.size
 have hDn:=hD.new
 obtain⟨la,lc,rfl,hla⟩:∃la lc,l= .slice la n lc∧(0<n→∃lb cur,la=some ⟨lb,0,none⟩∧w0.heap.size≤lb∧W.heap[lb]? =some (.cells cur 108 (0,0))∧cur.toList.take n=(List.range n).map fun j=>c0o (ob j) db (ib j) av):=by
  rcases hD.row.2 with⟨h1,h2⟩|⟨b,cap,cur,h1,h2,h3,h4,h5,h6,h7⟩
  ·exact⟨none,0,by rw[h1,h2],fun h=>by omega⟩
  ·exact⟨_,cap,h1,fun _=>⟨b,cur,rfl,h2,h3,by simpa using h7⟩⟩
 have hnm:∀r c e z,W.heap[r]? =some (.cells c e z)→e≠55→¬L.SR s0 r→(o9 L s0 W n db aa av ib ob oa oc ops).I r=some (.cells c e z):=fun r c e z h1 h2 h3=>E6 (by
  rintro(rfl|h)
  ·rw[hD.haa]at h1
   cases h1
   exact h2 rfl
  ·exact h3 h) h1
 have hnA:∀r c e z,W.heap[r]? =some (.cells c e z)→r≠aa→¬L.SR s0 r→(o9 L s0 W n db aa av ib ob oa oc ops).I r=some (.cells c e z):=fun r c e z h1 h2 h3=>E6 (fun h=>h.elim h2 h3) h1
 have hnewS:∀r,w0.heap.size≤r→¬L.SR s0 r:=fun r hr h=>by have:=hsrlt r h;omega
 have hthr:∃lb,(0<n→la=some ⟨lb,0,none⟩)∧∀g:M1,d0i (U2 L (o9 L s0 W n db aa av ib ob oa oc ops) g) lb 0 ((List.range n).map fun j=>.func (.func 63) #[] ((U2 L (o9 L s0 W n db aa av ib ob oa oc ops) g).cap j)):=by
  by_cases h0:0<n
  ·obtain⟨lb,cur,h1,h2,h3,h4⟩:=hla h0
   refine⟨lb,fun _=>h1,fun g=>⟨cur,108,(0,0),hnm lb _ _ _ h3 (by decide) (hnewS lb h2),fun k u hku=>⟨?_,by simp⟩⟩⟩
   have hku:((List.range n).map fun j=>c0o (ob j) db (ib j) av)[k]? =some u:=hku
   rw[← h4]at hku
   have hkn:k<n:=by
    have:=(List.getElem?_eq_some_iff.1 hku).1
    rw[List.length_take]at this
    omega
   rw[List.getElem?_take_of_lt hkn]at hku
   simpa using hku
  ·refine⟨av,fun h=>absurd h h0,fun g=>⟨_,_,_,hnm av _ _ _ hD.hav (by decide) (hnewS av hDn.2.2),fun k u hku=>?_⟩⟩
   have:n=0:=by omega
   rw[this]at hku
   simp at hku
 obtain⟨lb,hlb,hrow⟩:=hthr
 have hsch:∃sb so,(0<S.length→sa=some ⟨sb,so,none⟩)∧∀g:M1,d0i (U2 L (o9 L s0 W n db aa av ib ob oa oc ops) g) sb so (S.map fun i:Int=>Value.int .i64 i):=by
  by_cases h0:0<S.length
  ·obtain⟨sb,so,cc,e,z,h1,h2,h3,h4⟩:=hI0.hS h0
   have hlt:=(Q3 h3)
   refine⟨sb,so,fun _=>h1,fun g=>⟨cc,e,z,hnA sb _ _ _ ((hD.old sb hlt).trans h3) (by omega) h2,h4⟩⟩
  ·refine⟨av,0,fun h=>absurd h h0,fun g=>⟨_,_,_,hnm av _ _ _ hD.hav (by decide) (hnewS av hDn.2.2),fun k u hku=>?_⟩⟩
   have:S=[]:=List.length_eq_zero_iff.1 (by omega)
   rw[this]at hku
   simp at hku
 obtain⟨sb,so,hsb,hsrow⟩:=hsch
 have htrI:(o9 L s0 W n db aa av ib ob oa oc ops).I w.heap.size=some (.cells #[.slice none 0 0,.slice none 0 0,.slice none 0 0,.bool false] 29 (0,0)):=
  hnm _ _ _ _ ((hD.old _ (by omega)).trans htr.o) (by decide) fun h=>by have:=hsrlt _ h;omega
 refine o0x (Z:=fun g=>U2 L (o9 L s0 W n db aa av ib ob oa oc ops) g) (x0:=fun g=>x00 s0) (tb:=lb) (so:=so) (sb:=sb) hn64 hM hI.hsl (fun g hg _=>p0D hL hpok hg) (fun g w2 _ h1 h2=>OU.stable hL (hU1 g) h1 fun r hr=>?_) (fun g hg j hj=>⟨rfl,rfl⟩) (fun g r hr=>OU.low (g:=g) hL (hU1 g) hr) (fun g r hr=>⟨K9 (p:=o9 L s0 W n db aa av ib ob oa oc ops) (hU1 g).fix hr,fun h=>hr ((hU1 g).inone r h)⟩) hlb (fun g _=>hrow g) hsb (fun g _=>hsrow g) ?_
 ·have hlt:r<W.heap.size:=hr.elim (OU.low hL (hU1 g)) (K9 (hU1 g).fix)
  rw[h2 r _ (Array.getElem?_eq_getElem hlt),Array.getElem?_eq_getElem hlt]
 ·intro g t u oa' oc' bv hg hrel hU hord hnR hsz
  have hU:OU L (o9 L s0 W n db aa av ib ob oa oc ops) g t.1 u:=hU
  have hT:S7 u w.heap.size (.slice none 0 0) (.slice none 0 0) (.slice none 0 0) (.bool false):=⟨hU.fix _ _ htrI⟩
  refine Z6 (F:=F0) (Stop:=fun a u2=>a=G (c.finish (.agg #[vL aa 0 n n,.slice oa' t.2.length oc',.slice none 0 0,.bool (decide (0<L5 ((U2 L (o9 L s0 W n db aa av ib ob oa oc ops) g).liv t.1) n))])) cs∧∃d,u2=(trW u w.heap.size (vL aa 0 n n) (.slice oa' t.2.length oc') (.slice none 0 0) (.bool (decide (0<L5 ((U2 L (o9 L s0 W n db aa av ib ob oa oc ops) g).liv t.1) n)))).at d)
   (E0R hT (fun k h=>by obtain⟨z,hz,_⟩:=h;cases hz) hA (.stop fun d=>⟨rfl,d,rfl⟩)) fun a u2 ⟨ha,d,hu2⟩=>?_
  subst ha
  subst hu2
  have hne:∀r,r≠w.heap.size→((trW u w.heap.size (vL aa 0 n n) (.slice oa' t.2.length oc') (.slice none 0 0) (.bool (decide (0<L5 ((U2 L (o9 L s0 W n db aa av ib ob oa oc ops) g).liv t.1) n)))).at d).heap[r]? =u.heap[r]?:=fun r hr=>by
   show(trW _ _ _ _ _ _).heap[r]? =_
   unfold trW
   rw[o0 _ _ _ hr,o0 _ _ _ hr,o0 _ _ _ hr,o0 _ _ _ hr]
  have hsz2:((trW u w.heap.size (vL aa 0 n n) (.slice oa' t.2.length oc') (.slice none 0 0) (.bool (decide (0<L5 ((U2 L (o9 L s0 W n db aa av ib ob oa oc ops) g).liv t.1) n)))).at d).heap.size=u.heap.size:=by
   show(trW _ _ _ _ _ _).heap.size=_
   unfold trW
   simp
  generalize (trW u w.heap.size (vL aa 0 n n) (.slice oa' t.2.length oc') (.slice none 0 0) (.bool (decide (0<L5 ((U2 L (o9 L s0 W n db aa av ib ob oa oc ops) g).liv t.1) n)))).at d=V at hne hsz2 ⊢
  let I':Nat→Option Obj:=fun r=>if r=w.heap.size then none else(o9 L s0 W n db aa av ib ob oa oc ops).I r
  have hI':∀r o,I' r=some o→r≠w.heap.size∧(o9 L s0 W n db aa av ib ob oa oc ops).I r=some o:=fun r o h=>by
   by_cases e:r=w.heap.size
   ·simp[I',e]at h
   ·exact⟨e,by simpa [I',e]using h⟩
  have htrR:¬OR L (o9 L s0 W n db aa av ib ob oa oc ops) t.1 w.heap.size:=fun h=>by
   have:=hU.inone _ h
   rw[htrI]at this
   cases this
  have hU2:OU L ((o9 L s0 W n db aa av ib ob oa oc ops).re I') g t.1 u:=hU.re fun r o h=>(hI' r o h).2
  refine hk g (o9 L s0 W n db aa av ib ob oa oc ops) ((o9 L s0 W n db aa av ib ob oa oc ops).re I') t V oa' oc' hg rfl rfl (p0D hL hpok hg) hrel rfl rfl rfl (hU2.stable hL (by omega) fun r hr=>hne r ?_) ?_ hnR (by omega) (fun r cc e z hr hnS=>?_) fun r cc e z hr hnS=>?_
  ·rintro rfl
   rcases hr with hr|hr
   ·exact htrR hr
   ·cases e:I' w.heap.size with
    | none=>exact hr e
    | some o=>exact(hI' _ _ e).1 rfl
  ·refine j4 (by omega) (G1 hord fun b hb hbn=>hne b (by omega))
  ·have hlt:=(Q3 hr)
   rw[hne r (by omega)]
   exact hU.fix _ _ (hnA r _ _ _ ((hD.old r (by omega)).trans ((hw0 r hlt).trans hr)) (by omega) hnS)
  ·have hlt:=(Q3 hr)
   have h1:=hnA r _ _ _ ((hD.old r (by omega)).trans ((hw0 r hlt).trans hr)) (by omega) hnS
   show I' r≠none
   simp only[I']
   rw[if_neg (by omega),h1]
   simp
end
section
variable{F:Fz}{w:World}
theorem neq_nn106(w:World):(binOp .neq 106 .nilIface .nilIface).run Tryd.prog w= .ok (.bool false) w:=by kernel_rfl
theorem neq_nn106e(w:World)(es:Array Event):(binOp .neq 106 .nilIface .nilIface).events Tryd.prog w es=es:=by kernel_rfl
attribute [go_sem] neq_nn106 neq_nn106e
theorem a08{c:Frame}{cs:List Frame}{main:Bool}{Stop:Goroutine→World→Prop}
 (h:J0 Tryd.prog main F Stop (G (c.finish (.tuple #[])) cs) w):
 J0 Tryd.prog main F Stop (G (Frame.enter Tryd.prog 48 #[.nilIface] .normal) (c::cs)) w:=by
 rw[g0G]
 walk_nrm
 refine ogW l05 t0r ?_
 simp only[oC,l05,pC,a0L,Tryd.f48,Option.getD_some,List.size_toArray,List.length_cons,List.length_nil,Nat.reduceAdd,Nat.zero_add,List.range,List.range.loop]
 iterate 2 refine oT ?_
 refine ogE<|ogGn .skip<|ogK ?_
 refine M0 rfl (fun d=>stepG_end) ?_
 refine M0 rfl (fun d=>stepG_leave (fn:=Tryd.f48) (v:=.tuple #[]) rfl rfl Tryd.func48 (by simp[results,Tryd.f48]) (by simp[results,Tryd.f48,go_sem])) ?_
 exact h
end
section
variable{F:Fz}{w w':World}
theorem r0q{x:BitVec 64}{i:Nat}(h:x.getLsbD (i % 64)=true):x ||| bitI i=x:=by
 apply BitVec.eq_of_getLsbD_eq
 intro j hj
 rw[BitVec.getLsbD_or,U8]
 by_cases e:j=i % 64
 ·subst e;simp[h]
 ·simp[e]
theorem v0G{x:BitVec 64}{i:Nat}(h:x.getLsbD (i % 64)=false):x ^^^ bitI i=x ||| bitI i:=by
 apply BitVec.eq_of_getLsbD_eq
 intro j hj
 rw[BitVec.getLsbD_or,BitVec.getLsbD_xor,U8]
 by_cases e:j=i % 64
 ·subst e;simp[h]
 ·simp[e]
def c0m(w:World)(wb:Nat)(ws:List (BitVec 64)):Prop:=w.heap[wb]? =some (.cells ((ws.map fun x=>wV x).toArray) 113 (0,0))
theorem c0m.c{wb:Nat}{ws:List (BitVec 64)}(h:c0m w wb ws){k:Nat}(hk:k<ws.length):w.cell? ⟨wb,k,none⟩=some (wV (ws.getD k 0#64)):=by
 have h:w.heap[wb]? =_:=h
 simp[World.cell?,h,hk]
theorem c0m.z{wb:Nat}{ws:List (BitVec 64)}(h:c0m w wb ws)(k:Nat):w.frozen? ⟨wb,k,none⟩=false:=by
 have h:w.heap[wb]? =_:=h
 simp[World.frozen?,h]
theorem c0m.set{wb:Nat}{ws:List (BitVec 64)}(h:c0m w wb ws)(k:Nat)(z:BitVec 64):c0m (w.setCell ⟨wb,k,none⟩ (wV z)) wb (ws.set k z):=by
 show(w.setCell ⟨wb,k,none⟩ (wV z)).heap[wb]? =_
 rw[U1 (o:=k) h (wV z)]
 congr 2
 simp[List.map_set]
theorem i0a{n m lb wb i:Nat}{ws:List (BitVec 64)}(hs:BH lb wb n m w)(hw:c0m w wb ws)(hl:ws.length=m)(hi:i<n)(hnh:∀k,¬held F ⟨wb,k,none⟩){c:Frame}{cs:List Frame}{main:Bool}{Stop:Goroutine→World→Prop}
 (K:∀b w',w'.heap.size=w.heap.size→(∀r,r≠wb→w'.heap[r]? =w.heap[r]?)→c0m w' wb (ws.set (i / 64) (ws.getD (i / 64) 0#64 ||| bitI i))→J0 Tryd.prog main F Stop (G (c.finish (.tuple #[.bool b,vI 0])) cs) w'):
 J0 Tryd.prog main F Stop (G (Frame.enter Tryd.prog 18 #[vP lb 0,.nilIface,vI (i:Nat)] .normal) (c::cs)) w:=by
 have hk:i / 64<ws.length:=by rw[hl,hs.hm];omega
 have hc:=hw.c hk
 refine t0q fun A1 hA1=>?_
 refine u0I hs hi fun A hA=>a08 ?_
 cases e:(ws.getD (i / 64) 0#64).getLsbD (i % 64)with
 | true=>
   refine o0O hc ((b0s _ _).trans e) rfl hA (g0R hA1 (K false w rfl (fun _ _=>rfl) ?_))
   rw[r0q e]
   have:ws.set (i / 64) (ws.getD (i / 64) 0#64)=ws:=by
    rw[List.getD_eq_getElem?_getD,List.getElem?_eq_getElem hk]
    simp
   rw[this]
   exact hw
 | false=>
   refine o0P hc ((b0s _ _).trans e) rfl hA fun A' hA'=>a08 ?_
   refine o0S (c0i _ (bitI i)) ((b0X _ _).trans (decide_eq_true rfl)) hc (hw.z _) (hnh _) hA' (g0R hA1 (K true _ (by simp) (fun r hr=>o0 _ _ _ hr) ?_))
   rw[v0G e]
   exact hw.set _ _
end
noncomputable section
variable{F:Fz}{w:World}
theorem l0F:∃i z,Tryd.prog.info? 113=some i∧i.zero=some z∧i.size=1∧i.bytes=8∧z.cells= #[.int .u64 0]:=by
 obtain⟨i,hi,h⟩:=Option.map_eq_some_iff.1 (show(Tryd.prog.info? 113).map (fun i=>(i.zero.map Value.cells,i.size,i.bytes))=some (some #[.int .u64 0],1,8)by kernel_rfl)
 simp only[Prod.mk.injEq]at h
 obtain⟨z,hz,hc⟩:=Option.map_eq_some_iff.1 h.1
 exact⟨i,z,hi,hz,h.2.1,h.2.2,hc⟩
theorem y03{m:Nat}(hm:m≤1024)(w:World):(Instr.makeSlice 60 (vI (m:Nat)) (vI (m:Nat))).run Tryd.prog w= .ok (vL w.heap.size 0 m m) (w.alloc (.cells (madeCells #[.int .u64 0] m) 113)):=by
 obtain⟨i,z,hi,hz,hs,hb,hc⟩:=l0F
 have:=run_make (P:=Tryd.prog) w 60 113 i _ Tryd.underlying60 hi hz .i64 .i64 m m (by omega) (by omega) (by rw[hb];omega) (by omega)
 rw[hs,hc]at this
 simpa using this
theorem t0p{m:Nat}(hm:m≤1024)(w:World)(es:Array Event):(Instr.makeSlice 60 (vI (m:Nat)) (vI (m:Nat))).events Tryd.prog w es=es:=by
 obtain⟨i,z,hi,hz,hs,hb,hc⟩:=l0F
 exact events_make (P:=Tryd.prog) w 60 113 i _ Tryd.underlying60 hi hz .i64 .i64 m m (by omega) (by omega) (by rw[hb];omega) (by omega) (by rw[hb];simp;omega) es
theorem h0W(n:Int)(a:Option Addr)(l c:Nat):Tryd.prog.built 62 [(0,vI n),(1,.slice a l c)]=some #[vI n,.slice a l c]:=by kernel_rfl
@[go_sem] theorem t0s(n:Int)(a:Option Addr)(l c:Nat)(w:World):(Instr.build 62 #[(0,vI n),(1,.slice a l c)]).run Tryd.prog w= .ok (.agg #[vI n,.slice a l c]) w:=run_build w _ _ _ (h0W n a l c)
@[go_sem] theorem v0l(n:Int)(a:Option Addr)(l c:Nat)(w:World)(es:Array Event):(Instr.build 62 #[(0,vI n),(1,.slice a l c)]).events Tryd.prog w es=es:=l6 w es _ _ _ _ Tryd.underlying62 (h0W n a l c)
def a0w:Code:=Tryd.f11.body.getD .skip
def w0m:=pC [] a0w
def s0v:=pC [zt] a0w
def o0i:=pC [zf] a0w
def s0z:=pC [zt] o0i
def s0w:=pC [zf,zt,zt] a0w
def s0u:=pC [zf] s0z
def z0k:=pC [zt] s0u
def w0n:=pC [zf] o0i
def s0x:=pC [zf,zf,zt] a0w
theorem m0r(args:Array Value):Frame.enter Tryd.prog 11 args .normal=(Go.Conc.base 11).at {tmps:=args++Array.replicate (17 - args.size) undef,defers:=[]} [.code w0m]:=enter_at args Tryd.func11 rfl
theorem f0g:O1 11:=G2 Tryd.func11 rfl rfl
theorem p04{n m nn:Nat}(hU:i2 F nn)(hn:nn≤w.heap.size)(hn6:n≤65536)(hm:m=(n+63) / 64){c:Frame}{cs:List Frame}{main:Bool}{Stop:Goroutine→World→Prop}
 (h:J0 Tryd.prog main F Stop (G (c.finish (.tuple #[vP (w.heap.size+1) 0,vI 0])) cs) ((w.alloc (.cells (madeCells #[.int .u64 0] m) 113)).alloc (.cells #[vI (n:Nat),vL w.heap.size 0 m m] 62))):
 J0 Tryd.prog main F Stop (G (Frame.enter Tryd.prog 11 #[vI (n:Nat)] .normal) (c::cs)) w:=by
 have hm1:m≤1024:=by omega
 have e0:decide ((n:Int)<0)=false:=decide_eq_false (by omega)
 have e1:decide ((65536:Int)<(n:Int))=false:=decide_eq_false (by omega)
 have e2:decide (65536<n)=false:=decide_eq_false (by omega)
 have w1:IntKind.i64.wrap ((n:Int)+63)=(n:Int)+63:=IntWalk.i64_in _ (by omega)
 have w2:IntKind.i64.wrap (((n:Int)+63).tdiv 64)=(m:Int):=by
  rw[Int.tdiv_eq_ediv_of_nonneg (by omega),IntWalk.i64_in _ (by omega)]
  omega
 clear hm
 have hk:=y03 hm1
 have hke:=t0p hm1
 rw[m0r]
 walk_nrm
 refine ogW s0v o0i ?_
 simp only[oC,s0v,pC,a0w,Tryd.f11,Option.getD_some,List.size_toArray,List.length_cons,List.length_nil,Nat.reduceAdd,Nat.zero_add,List.range,List.range.loop]
 iterate 2 refine oT ?_
 refine ogE<|ogV s0z w0n<|ogW s0w s0u ?_
 simp only[oC,s0w,pC,a0w,Tryd.f11,Option.getD_some,List.size_toArray,List.length_cons,List.length_nil,Nat.reduceAdd,Nat.zero_add,List.range,List.range.loop]
 iterate 6 refine oT ?_
 refine ogE<|ogGn .skip<|ogK<|ogW s0x .ret ?_
 simp only[oC,s0x,pC,a0w,Tryd.f11,Option.getD_some,List.size_toArray,List.length_cons,List.length_nil,Nat.reduceAdd,Nat.zero_add,List.range,List.range.loop]
 iterate 4 refine oT ?_
 (refine oW fun dd K hK=>?_;go_simp;refine hK _ _ ⟨⟨⟨0,Y0 hU (by first|(simp[go_sem];done)|(simp[go_sem];omega)) _⟩,fun e he=>by(have hm:=mem_listed he;clear he hK;simp[go_sem,t0p hm1,storedEv]at hm)⟩,?_⟩;clear hK K;rw[alloc_at'];refine J0.at ?_ dd)
 refine oT ?_
 refine oA hU ?_
 iterate 2 refine oT ?_
 refine ogE<|ogX ?_
 refine M0 rfl (fun d=>stepG_leave (fn:=Tryd.f11) (v:=.tuple #[vP (w.heap.size+1) 0,vI 0]) rfl rfl Tryd.func11 (by simp[results,Tryd.f11]) (by simp[results,Tryd.f11,go_sem])) ?_
 exact h
end
noncomputable section
variable{F:Fz}{w:World}
theorem s05:∃i,Tryd.prog.info? 2=some i∧i.size=1:=by
 obtain⟨i,hi,h⟩:=Option.map_eq_some_iff.1 (show(Tryd.prog.info? 2).map (·.size)=some 1 by kernel_rfl)
 exact⟨i,hi,h⟩
theorem v0V{b o l vc:Nat}(h:l+1≤vc)(w:World):(Instr.sliceAt 22 (vL b o (l+1) vc) (some (vI 1)) none none).run Tryd.prog w= .ok (vL b (if vc=1 then o else o+1) l (vc - 1)) w:=by
 obtain⟨i,hi,hs⟩:=s05
 have hu:Tryd.prog.underlying 22=some (.slice 2):=Tryd.underlying22
 have h1:(1:Int)≤(l:Int)+1:=by omega
 have h2:(l:Int)+1≤(vc:Int):=by omega
 simp[Instr.sliceAt,Instr.slice,run_underlying hu,Instr.sliceBounds,run_sliceBound,sizeOf,typeInfo,hi,hs,h,h1,h2,Addr.add]
 by_cases e:vc=1<;>simp[e]
theorem r0D{b o l vc:Nat}(h:l+1≤vc)(w:World)(es:Array Event):(Instr.sliceAt 22 (vL b o (l+1) vc) (some (vI 1)) none none).events Tryd.prog w es=es:=by
 obtain⟨i,hi,hs⟩:=s05
 have hu:Tryd.prog.underlying 22=some (.slice 2):=Tryd.underlying22
 have h1:(1:Int)≤(l:Int)+1:=by omega
 have h2:(l:Int)+1≤(vc:Int):=by omega
 simp[Instr.sliceAt,Instr.slice,run_underlying hu,Instr.sliceBounds,Instr.sliceBound,asIntOf,run_sliceBound,sizeOf,typeInfo,hi,hs,h,h1,h2]
def X1:Code:=Tryd.f27.body.getD .skip
def w0k:=pC [] X1
def k08:=pC [zt] X1
def n08:=pC [zf] X1
def l0d:=pC [zf,zt] X1
def l0g:=pC [zf] n08
def o0a:=pC [zt] l0g
def l0e:=pC [zf,zf,zt,zt] X1
def j0l:=pC [zf] o0a
def w0l:=pC [zt] j0l
def s0r:=pC [zf,zf,zt,zf,zt,zt] X1
def l0f:=pC [zf,zf,zt,zf,zt,zf] X1
def o0f:=pC [zf] l0g
def c0z:=pC [zf,zf,zf,zt] X1
def d0O:=pC [zf] o0f
def s0t:=pC [zt] d0O
def s0s:=pC [zf,zf,zf,zf,zt,zt] X1
def n0Y:=pC [zf] s0t
def n02:=pC [zt] n0Y
def S9:=pC [zt] n02
def i6:=pC [zf,zf,zf,zf,zt,zf,zt,zt,zt] X1
def n6:=pC [zf] S9
def f0a:=pC [zt] n6
def c06:=pC [zf] n6
def h0O:=pC [zt] c06
def j0m:=pC [zt] h0O
def d0K:=pC [zf,zf,zf,zf,zt,zf,zt,zt,zf,zf,zt,zt,zt] X1
def f0d:=pC [zf] j0m
def d0N:=pC [zf,zf,zf,zf,zt,zf,zt,zt,zf,zf,zt,zt,zf,zt] X1
def h0s:=pC [zf] f0d
def b0r:=pC [zf,zf,zf,zf,zt,zf,zt,zt,zf,zf,zt,zt,zf,zf,zt] X1
def a0S:=pC [zf,zf,zf,zf,zt,zf,zt,zt,zf,zf,zf] X1
def W7:=pC [zf] d0O
def n03:=pC [zf,zf,zf,zf,zf,zt] X1
def u0w:=pC [zf] W7
def n06:=pC [zf,zf,zf,zf,zf,zf,zt] X1
theorem u0s:l0f= .region 4 (oC l0f) false:=by kernel_rfl
theorem u0q:n0Y= .block 0 n02:=by kernel_rfl
theorem u0r:n02= .loop S9:=by kernel_rfl
theorem u0x:S9= .seq i6 n6:=by kernel_rfl
theorem u0t:i6= .region 7 (oC i6) false:=by kernel_rfl
theorem q0P:n6= .seq f0a c06:=by kernel_rfl
theorem q0M:f0a= .cond (.tmp 28) .skip (.exit 0):=by kernel_rfl
theorem q0R:c06= .seq h0O a0S:=by kernel_rfl
theorem j0k:h0O= .block 1 j0m:=by kernel_rfl
theorem q0S:j0m= .seq d0K f0d:=by kernel_rfl
theorem u0u:d0K= .region 8 (oC d0K) false:=by kernel_rfl
theorem q0T:f0d= .seq d0N h0s:=by kernel_rfl
theorem u0v:d0N= .region 9 (oC d0N) false:=by kernel_rfl
theorem q0N:h0s= .cond (.tmp 37) b0r .skip:=by kernel_rfl
theorem q0O:b0r= .region 10 (oC b0r) false:=by kernel_rfl
theorem h0t:a0S= .region 11 (oC a0S) false:=by kernel_rfl
theorem g0E(args:Array Value):Frame.enter Tryd.prog 27 args .normal=(Go.Conc.base 27).at {tmps:=args++Array.replicate (51 - args.size) undef,defers:=[]} [.code w0k]:=enter_at args Tryd.func27 rfl
theorem e0p:O1 27:=G2 Tryd.func27 rfl rfl
def e0b(s:Nat→Value):Array Value:= #[s 0,s 1,s 2,s 3,s 4,s 5,s 6,s 7,s 8,s 9,s 10,s 11,s 12,s 13,s 14,s 15,s 16,s 17,s 18,s 19,s 20,s 21,s 22,s 23,s 24,s 25,s 26,s 27,s 28,s 29,s 30,s 31,s 32,s 33,s 34,s 35,s 36,s 37,s 38,s 39,s 40,s 41,s 42,s 43,s 44,s 45,s 46,s 47,s 48,s 49,s 50]
theorem q0L{A:Array Value}(h:A.size=51):∃s,A=e0b s:=by
 obtain⟨s,hs,_⟩:=Y4 A h
 exact⟨s,hs⟩
theorem x0x{va:Option Addr}{vc:Nat}{cs:List Frame}{main:Bool}{Stop:Goroutine→World→Prop}
 (h:∀A,G0 51 A [(0,.slice va 0 vc),(4,vI 0)]→J0 Tryd.prog main F Stop (G (Frame.enter Tryd.prog 11 #[vI 0] .normal) ((bA 27 A [.inRegion (oC c0z) [1,2,3,4,5,6,7],.code d0O])::cs)) w):
 J0 Tryd.prog main F Stop (G (Frame.enter Tryd.prog 27 #[.slice va 0 vc] .normal) cs) w:=by
 rw[g0E]
 walk_nrm
 refine ogW k08 n08 ?_
 simp only[oC,k08,pC,X1,Tryd.f27,Option.getD_some,List.size_toArray,List.length_cons,List.length_nil,Nat.reduceAdd,Nat.zero_add,List.range,List.range.loop]
 iterate 2 refine oT ?_
 refine ogE<|ogW l0d l0g ?_
 simp only[oC,l0d,pC,X1,Tryd.f27,Option.getD_some,List.size_toArray,List.length_cons,List.length_nil,Nat.reduceAdd,Nat.zero_add,List.range,List.range.loop]
 refine oT ?_
 refine ogE<|ogV o0a o0f<|ogW l0e j0l ?_
 simp only[oC,l0e,pC,X1,Tryd.f27,Option.getD_some,List.size_toArray,List.length_cons,List.length_nil,Nat.reduceAdd,Nat.zero_add,List.range,List.range.loop]
 iterate 3 refine oT ?_
 refine ogE<|ogGn .skip<|ogK<|ogW c0z d0O ?_
 simp only[oC,c0z,pC,X1,Tryd.f27,Option.getD_some,List.size_toArray,List.length_cons,List.length_nil,Nat.reduceAdd,Nat.zero_add,List.range,List.range.loop]
 refine oT ?_
 refine oc f0g #[vI 0] ?_
 refine h _ ?_
 exact⟨rfl,rfl,rfl,trivial⟩
theorem y0Y{vb vo l vc n:Nat}{v0:Int}(hc:w.cell? ⟨vb,vo,none⟩=some (vI v0))(hl:l+1≤vc)(hn:(if 65536<if v0<0 then 0 else v0 then 65536 else if v0<0 then 0 else v0)=(n:Int)){cs:List Frame}{main:Bool}{Stop:Goroutine→World→Prop}
 (h:∀A,G0 51 A [(0,vL vb (if vc=1 then vo else vo+1) l (vc - 1)),(4,vI (n:Nat))]→J0 Tryd.prog main F Stop (G (Frame.enter Tryd.prog 11 #[vI (n:Nat)] .normal) ((bA 27 A [.inRegion (oC c0z) [1,2,3,4,5,6,7],.code d0O])::cs)) w):
 J0 Tryd.prog main F Stop (G (Frame.enter Tryd.prog 27 #[vL vb vo (l+1) vc] .normal) cs) w:=by
 have hd:decide ((0:Int)<(l:Int)+1)=true:=decide_eq_true (by omega)
 have hsl:=fun w=>v0V (b:=vb) (o:=vo) (l:=l) hl w
 have hsle:=fun w es=>r0D (b:=vb) (o:=vo) (l:=l) hl w es
 rw[g0E]
 walk_nrm
 refine ogW k08 n08 ?_
 simp only[oC,k08,pC,X1,Tryd.f27,Option.getD_some,List.size_toArray,List.length_cons,List.length_nil,Nat.reduceAdd,Nat.zero_add,List.range,List.range.loop]
 iterate 2 refine oT ?_
 refine ogE<|ogW l0d l0g ?_
 simp only[oC,l0d,pC,X1,Tryd.f27,Option.getD_some,List.size_toArray,List.length_cons,List.length_nil,Nat.reduceAdd,Nat.zero_add,List.range,List.range.loop]
 refine oT ?_
 refine ogE<|ogV o0a o0f<|ogW l0e j0l ?_
 simp only[oC,l0e,pC,X1,Tryd.f27,Option.getD_some,List.size_toArray,List.length_cons,List.length_nil,Nat.reduceAdd,Nat.zero_add,List.range,List.range.loop]
 iterate 3 refine oT ?_
 refine ogE<|ogYn w0l<|ogW s0r l0f ?_
 simp only[oC,s0r,pC,X1,Tryd.f27,Option.getD_some,List.size_toArray,List.length_cons,List.length_nil,Nat.reduceAdd,Nat.zero_add,List.range,List.range.loop]
 refine oT ?_
 refine oX ?_
 refine oL ?_
 iterate 3 refine oT ?_
 refine ogE ?_
 rw[u0s]
 refine ogR ?_
 simp only[oC,l0f,pC,X1,Tryd.f27,Option.getD_some,List.size_toArray,List.length_cons,List.length_nil,Nat.reduceAdd,Nat.zero_add,List.range,List.range.loop]
 refine oT ?_
 (refine oW fun dd K hK=>?_;go_simp;refine hK _ _ ⟨⟨⟨0,V3.refl _ _⟩,fun e he=>by(have hm:=mem_listed he;clear he hK;simp[go_sem,hsle]at hm)⟩,J0.at ?_ dd⟩;clear hK K)
 refine oT ?_
 refine ogE<|ogW c0z d0O ?_
 simp only[oC,c0z,pC,X1,Tryd.f27,Option.getD_some,List.size_toArray,List.length_cons,List.length_nil,Nat.reduceAdd,Nat.zero_add,List.range,List.range.loop]
 refine oT ?_
 refine oc f0g #[vI (n:Nat)] ?_
 refine h _ ?_
 exact⟨rfl,rfl,rfl,trivial⟩
end
section
variable{F:Fz}{w:World}
theorem m0O(X:World)(u v:Value):(X.alloc (.cells #[u] 33)).setCell ⟨X.heap.size,0,none⟩ v=X.alloc (.cells #[v] 33):=by go_simp
theorem y0Z{lb n l sc nn:Nat}{sa:Option Addr}(hU:i2 F nn)(hn:nn≤w.heap.size){A:Array Value}(hA:G0 51 A [(0,.slice sa l sc),(4,vI (n:Nat))]){cs:List Frame}{main:Bool}{Stop:Goroutine→World→Prop}
 (h:∀A,G0 51 A [(0,.slice sa l sc),(4,vI (n:Nat)),(5,vP w.heap.size 0),(25,.slice sa l sc),(26,vI (l:Nat)),(27,vI (0:Nat))]→J0 Tryd.prog main F Stop (G (bA 27 A [.inRegion (oC i6) [0],.code n6,.inLoop S9,.inBlock 0,.code W7]) cs) (w.alloc (.cells #[vP lb 0] 33))):
 J0 Tryd.prog main F Stop (G ((bA 27 A [.inRegion (oC c0z) [1,2,3,4,5,6,7],.code d0O]).finish (.tuple #[vP lb 0,vI 0])) cs) w:=by
 obtain⟨s,rfl,h0,h4,_⟩:=Y3 e0b hA
 simp only[e0b,h0,h4]
 clear h0 h4
 rw[Frame.finish_at]
 simp only[oC,c0z,pC,X1,Tryd.f27,Option.getD_some,List.size_toArray,List.length_cons,List.length_nil,Nat.reduceAdd,Nat.zero_add,List.range,List.range.loop]
 walk_nrm
 iterate 3 refine oT ?_
 refine oA hU ?_
 (refine oW fun dd K hK=>?_;go_simp;refine qS hK hU ?_;clear hK K)
 rw[m0O]
 refine oT ?_
 refine ogE<|ogV s0t W7<|ogW s0s n0Y ?_
 simp only[oC,s0s,pC,X1,Tryd.f27,Option.getD_some,List.size_toArray,List.length_cons,List.length_nil,Nat.reduceAdd,Nat.zero_add,List.range,List.range.loop]
 iterate 3 refine oT ?_
 refine ogE ?_
 rw[u0q]
 refine L7 ?_
 rw[u0r]
 refine ogP<|ogW i6 n6 ?_
 simp only[oC,i6,pC,X1,Tryd.f27,Option.getD_some,List.size_toArray,List.length_cons,List.length_nil,Nat.reduceAdd,Nat.zero_add,List.range,List.range.loop]
 refine h _ ?_
 exact⟨rfl,rfl,rfl,rfl,rfl,rfl,rfl,trivial⟩
end
section
variable{F:Fz}{w:World}
theorem y00{vb vo l sc n xb lb i q:Nat}(hi:i<l)(hl:l<9223372036854775808)(hc:w.cell? ⟨vb,vo+i,none⟩=some (vI (q:Nat)))(hq:q<n)(hx:w.cell? ⟨xb,0,none⟩=some (vP lb 0)){A:Array Value}(hA:G0 51 A [(0,vL vb vo l sc),(4,vI (n:Nat)),(5,vP xb 0),(25,vL vb vo l sc),(26,vI (l:Nat)),(27,vI (i:Nat))]){cs:List Frame}{main:Bool}{Stop:Goroutine→World→Prop}
 (h:∀A,G0 51 A [(0,vL vb vo l sc),(4,vI (n:Nat)),(5,vP xb 0),(25,vL vb vo l sc),(26,vI (l:Nat)),(27,vI (i:Nat))]→J0 Tryd.prog main F Stop (G (Frame.enter Tryd.prog 18 #[vP lb 0,.nilIface,vI (q:Nat)] .normal) ((bA 27 A [.inRegion (oC b0r) [2],.inBlock 1,.code a0S,.inLoop S9,.inBlock 0,.code W7])::cs)) w):
 J0 Tryd.prog main F Stop (G (bA 27 A [.inRegion (oC i6) [0],.code n6,.inLoop S9,.inBlock 0,.code W7]) cs) w:=by
 obtain⟨s,rfl,h0,h4,h5,h25,h26,h27,_⟩:=Y3 e0b hA
 simp only[e0b,h0,h4,h5,h25,h26,h27]
 clear h0 h4 h5 h25 h26 h27
 have hd:decide ((i:Int)<(l:Int))=true:=by simp;omega
 have hd2:decide (i<l)=true:=by simp;omega
 have hin:(i:Int)<(l:Int):=by omega
 have hk64:IntKind.i64.wrap ((i:Int)+1)=(i:Int)+1:=IntWalk.i64_in _ (by omega)
 have e1:decide ((0:Int)≤(q:Int))=true:=decide_eq_true (by omega)
 have e2:decide (q<n)=true:=decide_eq_true hq
 simp only[oC,i6,pC,X1,Tryd.f27,Option.getD_some,List.size_toArray,List.length_cons,List.length_nil,Nat.reduceAdd,Nat.zero_add,List.range,List.range.loop]
 refine oT ?_
 refine ogE<|ogV f0a c06<|ogYn .skip<|ogK<|ogV h0O a0S ?_
 rw[j0k]
 refine L7<|ogW d0K f0d ?_
 simp only[oC,d0K,pC,X1,Tryd.f27,Option.getD_some,List.size_toArray,List.length_cons,List.length_nil,Nat.reduceAdd,Nat.zero_add,List.range,List.range.loop]
 refine oX ?_
 refine oL ?_
 refine oT ?_
 refine ogE<|ogW d0N h0s ?_
 simp only[oC,d0N,pC,X1,Tryd.f27,Option.getD_some,List.size_toArray,List.length_cons,List.length_nil,Nat.reduceAdd,Nat.zero_add,List.range,List.range.loop]
 iterate 7 refine oT ?_
 refine ogE<|ogYn b0r ?_
 rw[q0O]
 refine ogR ?_
 simp only[oC,b0r,pC,X1,Tryd.f27,Option.getD_some,List.size_toArray,List.length_cons,List.length_nil,Nat.reduceAdd,Nat.zero_add,List.range,List.range.loop]
 refine oL ?_
 refine oT ?_
 refine oc e0o #[vP lb 0,.nilIface,vI (q:Nat)] ?_
 refine h _ ?_
 exact⟨rfl,rfl,rfl,rfl,rfl,rfl,rfl,trivial⟩
theorem y01{vb vo l sc n xb i:Nat}{b:Bool}(hi:i<l)(hl:l<9223372036854775808){A:Array Value}(hA:G0 51 A [(0,vL vb vo l sc),(4,vI (n:Nat)),(5,vP xb 0),(25,vL vb vo l sc),(26,vI (l:Nat)),(27,vI (i:Nat))]){cs:List Frame}{main:Bool}{Stop:Goroutine→World→Prop}
 (h:∀A,G0 51 A [(0,vL vb vo l sc),(4,vI (n:Nat)),(5,vP xb 0),(25,vL vb vo l sc),(26,vI (l:Nat)),(27,vI (i+1:Nat))]→J0 Tryd.prog main F Stop (G (bA 27 A [.inRegion (oC i6) [0],.code n6,.inLoop S9,.inBlock 0,.code W7]) cs) w):
 J0 Tryd.prog main F Stop (G ((bA 27 A [.inRegion (oC b0r) [2],.inBlock 1,.code a0S,.inLoop S9,.inBlock 0,.code W7]).finish (.tuple #[.bool b,vI 0])) cs) w:=by
 obtain⟨s,rfl,h0,h4,h5,h25,h26,h27,_⟩:=Y3 e0b hA
 simp only[e0b,h0,h4,h5,h25,h26,h27]
 clear h0 h4 h5 h25 h26 h27
 have hd:decide ((i:Int)<(l:Int))=true:=by simp;omega
 have hd2:decide (i<l)=true:=by simp;omega
 have hin:(i:Int)<(l:Int):=by omega
 have hk64:IntKind.i64.wrap ((i:Int)+1)=(i:Int)+1:=IntWalk.i64_in _ (by omega)
 rw[Frame.finish_at]
 simp only[oC,b0r,pC,X1,Tryd.f27,Option.getD_some,List.size_toArray,List.length_cons,List.length_nil,Nat.reduceAdd,Nat.zero_add,List.range,List.range.loop]
 walk_nrm
 refine ogE<|ogI ?_
 rw[h0t]
 refine ogR ?_
 simp only[oC,a0S,pC,X1,Tryd.f27,Option.getD_some,List.size_toArray,List.length_cons,List.length_nil,Nat.reduceAdd,Nat.zero_add,List.range,List.range.loop]
 iterate 2 refine oT ?_
 refine ogE<|ogL<|ogW i6 n6 ?_
 simp only[oC,i6,pC,X1,Tryd.f27,Option.getD_some,List.size_toArray,List.length_cons,List.length_nil,Nat.reduceAdd,Nat.zero_add,List.range,List.range.loop]
 refine h _ ?_
 exact⟨rfl,rfl,rfl,rfl,rfl,rfl,rfl,trivial⟩
end
section
variable{F:Fz}{w:World}
theorem x0y{vb vo l sc n xb i:Nat}{v:Int}(hi:i<l)(hl:l<9223372036854775808)(hc:w.cell? ⟨vb,vo+i,none⟩=some (.int .i64 v))(hq:v<0){A:Array Value}(hA:G0 51 A [(0,.slice (some ⟨vb,vo,none⟩) l sc),(4,.int .i64 (n:Nat)),(5,.pointer (some ⟨xb,0,none⟩)),(25,.slice (some ⟨vb,vo,none⟩) l sc),(26,.int .i64 (l:Nat)),(27,.int .i64 (i:Nat))]){cs:List Frame}{main:Bool}{Stop:Goroutine→World→Prop}
 (h:∀A,G0 51 A [(0,.slice (some ⟨vb,vo,none⟩) l sc),(4,.int .i64 (n:Nat)),(5,.pointer (some ⟨xb,0,none⟩)),(25,.slice (some ⟨vb,vo,none⟩) l sc),(26,.int .i64 (l:Nat)),(27,.int .i64 (i+1:Nat))]→J0 Tryd.prog main F Stop (G ((Go.Conc.base 27).at ⟨A,[]⟩ [.inRegion (oC i6) [0],.code n6,.inLoop S9,.inBlock 0,.code W7]) cs) w):
 J0 Tryd.prog main F Stop (G ((Go.Conc.base 27).at ⟨A,[]⟩ [.inRegion (oC i6) [0],.code n6,.inLoop S9,.inBlock 0,.code W7]) cs) w:=by
 obtain⟨hsz,h0,h4,h5,h25,h26,h27,_⟩:=hA
 obtain⟨s,rfl⟩:=q0L hsz
 change s 0=_ at h0
 change s 4=_ at h4
 change s 5=_ at h5
 change s 25=_ at h25
 change s 26=_ at h26
 change s 27=_ at h27
 clear hsz
 simp only[e0b,h0,h4,h5,h25,h26,h27]
 clear h0 h4 h5 h25 h26 h27
 have hd:decide ((i:Int)<(l:Int))=true:=by simp;omega
 have hd2:decide (i<l)=true:=by simp;omega
 have hin:(i:Int)<(l:Int):=by omega
 have hk64:IntKind.i64.wrap ((i:Int)+1)=(i:Int)+1:=IntWalk.i64_in _ (by omega)
 have e1:decide ((0:Int)≤v)=false:=decide_eq_false (by omega)
 simp only[oC,i6,pC,X1,Tryd.f27,Option.getD_some,List.size_toArray,List.length_cons,List.length_nil,Nat.reduceAdd,Nat.zero_add,List.range,List.range.loop]
 (refine oW fun dd K hK=>?_;go_simp;refine qT hK ?_;clear hK K)
 refine ogE ?_
 refine F0v q0P ?_
 rw[q0M]
 refine ogT ?_
 simp only[if_true]
 refine ogK ?_
 refine F0v q0R ?_
 rw[j0k]
 refine L7 ?_
 refine ogSR q0S u0u ?_
 simp only[oC,d0K,pC,X1,Tryd.f27,Option.getD_some,List.size_toArray,List.length_cons,List.length_nil,Nat.reduceAdd,Nat.zero_add,List.range,List.range.loop]
 (refine oW fun dd K hK=>?_;go_simp;refine qX hK ?_;clear hK K)
 (refine oW fun dd K hK=>?_;go_simp;refine qL hK ?_;clear hK K)
 (refine oW fun dd K hK=>?_;go_simp;refine qT hK ?_;clear hK K)
 refine ogE ?_
 refine ogSR q0T u0v ?_
 simp only[oC,d0N,pC,X1,Tryd.f27,Option.getD_some,List.size_toArray,List.length_cons,List.length_nil,Nat.reduceAdd,Nat.zero_add,List.range,List.range.loop]
 iterate 3 (refine oW fun dd K hK=>?_;go_simp;refine qT hK ?_;clear hK K)
 iterate 3 refine ogU rfl rfl ?_
 (refine oW fun dd K hK=>?_;go_simp;refine qT hK ?_;clear hK K)
 refine ogE ?_
 rw[q0N]
 refine ogF ?_
 simp only[Bool.false_eq_true,if_false]
 refine ogK ?_
 refine ogI ?_
 rw[h0t]
 refine ogR ?_
 simp only[oC,a0S,pC,X1,Tryd.f27,Option.getD_some,List.size_toArray,List.length_cons,List.length_nil,Nat.reduceAdd,Nat.zero_add,List.range,List.range.loop]
 iterate 2 (refine oW fun dd K hK=>?_;go_simp;refine qT hK ?_;clear hK K)
 refine ogE ?_
 refine ogL ?_
 refine ogSR u0x u0t ?_
 simp only[oC,i6,pC,X1,Tryd.f27,Option.getD_some,List.size_toArray,List.length_cons,List.length_nil,Nat.reduceAdd,Nat.zero_add,List.range,List.range.loop]
 refine h _ ?_
 exact⟨rfl,rfl,rfl,rfl,rfl,rfl,rfl,trivial⟩
theorem x0z{vb vo l sc n xb i:Nat}{v:Int}(hi:i<l)(hl:l<9223372036854775808)(hc:w.cell? ⟨vb,vo+i,none⟩=some (vI v))(h0:0≤v)(hq:(n:Int)≤v){A:Array Value}(hA:G0 51 A [(0,vL vb vo l sc),(4,vI (n:Nat)),(5,vP xb 0),(25,vL vb vo l sc),(26,vI (l:Nat)),(27,vI (i:Nat))]){cs:List Frame}{main:Bool}{Stop:Goroutine→World→Prop}
 (h:∀A,G0 51 A [(0,vL vb vo l sc),(4,vI (n:Nat)),(5,vP xb 0),(25,vL vb vo l sc),(26,vI (l:Nat)),(27,vI (i+1:Nat))]→J0 Tryd.prog main F Stop (G (bA 27 A [.inRegion (oC i6) [0],.code n6,.inLoop S9,.inBlock 0,.code W7]) cs) w):
 J0 Tryd.prog main F Stop (G (bA 27 A [.inRegion (oC i6) [0],.code n6,.inLoop S9,.inBlock 0,.code W7]) cs) w:=by
 obtain⟨s,rfl,h0,h4,h5,h25,h26,h27,_⟩:=Y3 e0b hA
 simp only[e0b,h0,h4,h5,h25,h26,h27]
 clear h0 h4 h5 h25 h26 h27
 have hd:decide ((i:Int)<(l:Int))=true:=by simp;omega
 have hd2:decide (i<l)=true:=by simp;omega
 have hin:(i:Int)<(l:Int):=by omega
 have hk64:IntKind.i64.wrap ((i:Int)+1)=(i:Int)+1:=IntWalk.i64_in _ (by omega)
 have e1:decide ((0:Int)≤v)=true:=decide_eq_true h0
 have e2:decide (v<(n:Int))=false:=decide_eq_false (by omega)
 simp only[oC,i6,pC,X1,Tryd.f27,Option.getD_some,List.size_toArray,List.length_cons,List.length_nil,Nat.reduceAdd,Nat.zero_add,List.range,List.range.loop]
 refine oT ?_
 refine ogE<|ogV f0a c06<|ogYn .skip<|ogK<|ogV h0O a0S ?_
 rw[j0k]
 refine L7<|ogW d0K f0d ?_
 simp only[oC,d0K,pC,X1,Tryd.f27,Option.getD_some,List.size_toArray,List.length_cons,List.length_nil,Nat.reduceAdd,Nat.zero_add,List.range,List.range.loop]
 refine oX ?_
 refine oL ?_
 refine oT ?_
 refine ogE<|ogW d0N h0s ?_
 simp only[oC,d0N,pC,X1,Tryd.f27,Option.getD_some,List.size_toArray,List.length_cons,List.length_nil,Nat.reduceAdd,Nat.zero_add,List.range,List.range.loop]
 iterate 7 refine oT ?_
 refine ogE<|ogGn .skip<|ogK<|ogI ?_
 rw[h0t]
 refine ogR ?_
 simp only[oC,a0S,pC,X1,Tryd.f27,Option.getD_some,List.size_toArray,List.length_cons,List.length_nil,Nat.reduceAdd,Nat.zero_add,List.range,List.range.loop]
 iterate 2 refine oT ?_
 refine ogE<|ogL<|ogW i6 n6 ?_
 simp only[oC,i6,pC,X1,Tryd.f27,Option.getD_some,List.size_toArray,List.length_cons,List.length_nil,Nat.reduceAdd,Nat.zero_add,List.range,List.range.loop]
 refine h _ ?_
 exact⟨rfl,rfl,rfl,rfl,rfl,rfl,rfl,trivial⟩
end
noncomputable section
variable{F:Fz}{w:World}
theorem j0L(X:World)(u v:Value):(X.alloc (.cells #[u] 116)).setCell ⟨X.heap.size,0,none⟩ v=X.alloc (.cells #[v] 116):=by go_simp
def fMa(A:Array Value):Frame:=(bA 27 A [.inRegion (oC c0z) [1,2,3,4,5,6,7],.code d0O])
theorem y02{lb n l sc xb nn:Nat}{sa:Option Addr}(hU:i2 F nn)(hn:nn≤w.heap.size)(hx:w.cell? ⟨xb,0,none⟩=some (vP lb 0)){A:Array Value}(hA:G0 51 A [(0,.slice sa l sc),(4,vI (n:Nat)),(5,vP xb 0),(25,.slice sa l sc),(26,vI (l:Nat)),(27,vI (l:Nat))]){c:Frame}{cs:List Frame}{main:Bool}{Stop:Goroutine→World→Prop}
 (h:J0 Tryd.prog main F Stop (G (c.finish (.tuple #[vP lb 0,.func (.func 51) #[] #[vP (w.heap.size+1) 0,vP xb 0]])) cs) ((w.alloc (.cells #[.func (.func 18) #[vP lb 0] #[],.func (.func 19) #[vP lb 0] #[],.func (.func 20) #[vP lb 0] #[]] 58)).alloc (.cells #[vL w.heap.size 0 3 3] 116))):
 J0 Tryd.prog main F Stop (G (bA 27 A [.inRegion (oC i6) [0],.code n6,.inLoop S9,.inBlock 0,.code W7]) (c::cs)) w:=by
 obtain⟨s,rfl,h0,h4,h5,h25,h26,h27,_⟩:=Y3 e0b hA
 simp only[e0b,h0,h4,h5,h25,h26,h27]
 clear h0 h4 h5 h25 h26 h27
 have hd:decide ((l:Int)<(l:Int))=false:=by simp
 have hd2:decide (l<l)=false:=by simp
 have hxl:=I9 hx
 simp only[oC,i6,pC,X1,Tryd.f27,Option.getD_some,List.size_toArray,List.length_cons,List.length_nil,Nat.reduceAdd,Nat.zero_add,List.range,List.range.loop]
 refine oT ?_
 refine ogE<|ogV f0a c06<|ogGn (.exit 0) ?_
 refine M0 rfl (fun d=>stepG_exit rfl) ?_
 refine ogW n03 u0w ?_
 simp only[oC,n03,pC,X1,Tryd.f27,Option.getD_some,List.size_toArray,List.length_cons,List.length_nil,Nat.reduceAdd,Nat.zero_add,List.range,List.range.loop]
 refine oL ?_
 refine oT ?_
 refine oL ?_
 refine oT ?_
 refine oL ?_
 refine oT ?_
 iterate 2 refine oA hU ?_
 (refine oW fun dd K hK=>?_;go_simp;refine qS hK hU ?_;clear hK K)
 have e1:=j0L (w.alloc (.cells #[.func (.func 18) #[vP lb 0] #[],.func (.func 19) #[vP lb 0] #[],.func (.func 20) #[vP lb 0] #[]] 58)) (.slice none 0 0) (vL w.heap.size 0 3 3)
 have e2:(w.alloc (.cells #[.func (.func 18) #[vP lb 0] #[],.func (.func 19) #[vP lb 0] #[],.func (.func 20) #[vP lb 0] #[]] 58)).heap.size=w.heap.size+1:=by simp
 rw[e2]at e1
 rw[e1]
 clear e1 e2
 have hx2:((w.alloc (.cells #[.func (.func 18) #[vP lb 0] #[],.func (.func 19) #[vP lb 0] #[],.func (.func 20) #[vP lb 0] #[]] 58)).alloc (.cells #[vL w.heap.size 0 3 3] 116)).cell? ⟨xb,0,none⟩=some (vP lb 0):=by rw[b0Z _ _ _ (by simp;omega),b0Z _ _ _ hxl];exact hx
 generalize ((w.alloc (.cells #[.func (.func 18) #[vP lb 0] #[],.func (.func 19) #[vP lb 0] #[],.func (.func 20) #[vP lb 0] #[]] 58)).alloc (.cells #[vL w.heap.size 0 3 3] 116))=W at hx2 h ⊢
 refine ogE<|ogW n06 .ret ?_
 simp only[oC,n06,pC,X1,Tryd.f27,Option.getD_some,List.size_toArray,List.length_cons,List.length_nil,Nat.reduceAdd,Nat.zero_add,List.range,List.range.loop]
 refine oL ?_
 iterate 3 refine oT ?_
 refine ogE<|ogX ?_
 refine M0 rfl (fun d=>stepG_leave (fn:=Tryd.f27) (v:=.tuple #[vP lb 0,.func (.func 51) #[] #[vP (w.heap.size+1) 0,vP xb 0]]) rfl rfl Tryd.func27 (by simp[results,Tryd.f27]) (by simp[results,Tryd.f27,go_sem])) ?_
 exact h
end
noncomputable section
variable {cs:List Frame}{main:Bool}{Stop:Goroutine→World→Prop}
variable{F:Fz}{w:World}
theorem m0V(X:World)(x y z u x' y' z' u':Value):((((X.alloc (.cells #[x,y,z,u] 29)).setCell ⟨X.heap.size,0,none⟩ x').setCell ⟨X.heap.size,1,none⟩ y').setCell ⟨X.heap.size,2,none⟩ z').setCell ⟨X.heap.size,3,none⟩ u'=X.alloc (.cells #[x',y',z',u'] 29):=by go_simp
def G5:Code:=Tryd.f9.body.getD .skip
def w0t:=pC [] G5
def s0A:=pC [zt] G5
def s0G:=pC [zf] G5
def h0S:=pC [zf,zt] G5
def l0l:=pC [zf] s0G
def g0v:=pC [zf,zf,zt] G5
def h0T:=pC [zf] l0l
def d0R:=pC [zf,zf,zf,zt] G5
def h0U:=pC [zf] h0T
def s0B:=pC [zf,zf,zf,zf,zt] G5
theorem m0t(args:Array Value):Frame.enter Tryd.prog 9 args .normal=(Go.Conc.base 9).at {tmps:=args++Array.replicate (27 - args.size) undef,defers:=[]} [.code w0t]:=enter_at args Tryd.func9 rfl
theorem g0z:O1 9:=G2 Tryd.func9 rfl rfl
def h0u(s:Nat→Value):Array Value:= #[s 0,s 1,s 2,s 3,s 4,s 5,s 6,s 7,s 8,s 9,s 10,s 11,s 12,s 13,s 14,s 15,s 16,s 17,s 18,s 19,s 20,s 21,s 22,s 23,s 24,s 25,s 26]
theorem y0E{A:Array Value}(h:A.size=27):∃s,A=h0u s:=by
 obtain⟨s,hs,_⟩:=Y4 A h
 exact⟨s,hs⟩
theorem w0o{n:Nat}(hU:i2 F n)(hn:n≤w.heap.size){mo:Int}{va ta sa:Option Addr}{vl vc tl tc sl sc:Nat}
 (h:∀A,G0 27 A [(0,.slice va vl vc),(1,.slice ta tl tc),(2,.slice sa sl sc),(3,vI mo),(8,vP w.heap.size 0)]→J0 Tryd.prog main F Stop (G (Frame.enter Tryd.prog 27 #[.slice va vl vc] .normal) ((bA 9 A [.inRegion (oC h0S) [1,2,3,4,5,6],.code l0l])::cs)) (w.alloc (.cells #[.slice none 0 0,.slice none 0 0,.slice none 0 0,.bool false] 29))):
 J0 Tryd.prog main F Stop (G (Frame.enter Tryd.prog 9 #[.slice va vl vc,.slice ta tl tc,.slice sa sl sc,vI mo] .normal) cs) w:=by
 rw[m0t]
 walk_nrm
 refine ogW s0A s0G ?_
 simp only[oC,s0A,pC,G5,Tryd.f9,Option.getD_some,List.size_toArray,List.length_cons,List.length_nil,Nat.reduceAdd,Nat.zero_add,List.range,List.range.loop]
 refine oA hU ?_
 refine ogE<|ogW h0S l0l ?_
 simp only[oC,h0S,pC,G5,Tryd.f9,Option.getD_some,List.size_toArray,List.length_cons,List.length_nil,Nat.reduceAdd,Nat.zero_add,List.range,List.range.loop]
 refine oT ?_
 refine oc e0p #[.slice va vl vc] ?_
 refine h _ ?_
 exact⟨rfl,rfl,rfl,rfl,rfl,rfl,trivial⟩
theorem w0p{kb cb xb rb:Nat}{mo:Int}{va ta sa:Option Addr}{vl vc tl tc sl sc:Nat}{A:Array Value}(hA:G0 27 A [(0,.slice va vl vc),(1,.slice ta tl tc),(2,.slice sa sl sc),(3,vI mo),(8,vP rb 0)])
 (h:∀A,G0 27 A [(8,vP rb 0),(9,vP kb 0)]→J0 Tryd.prog main F Stop (G (Frame.enter Tryd.prog 28 #[.slice ta tl tc,.func (.func 51) #[] #[vP cb 0,vP xb 0],.slice sa sl sc,vI mo] .normal) ((bA 9 A [.inRegion (oC g0v) [4,5,6],.code h0T])::cs)) w):
 J0 Tryd.prog main F Stop (G ((bA 9 A [.inRegion (oC h0S) [1,2,3,4,5,6],.code l0l]).finish (.tuple #[vP kb 0,.func (.func 51) #[] #[vP cb 0,vP xb 0]])) cs) w:=by
 obtain⟨s,rfl,h0,h1,h2,h3,h8,_⟩:=Y3 h0u hA
 simp only[h0u,h0,h1,h2,h3,h8]
 clear h0 h1 h2 h3 h8
 rw[Frame.finish_at]
 simp only[oC,h0S,pC,G5,Tryd.f9,Option.getD_some,List.size_toArray,List.length_cons,List.length_nil,Nat.reduceAdd,Nat.zero_add,List.range,List.range.loop]
 walk_nrm
 iterate 5 refine oT ?_
 refine ogE<|ogW g0v h0T ?_
 simp only[oC,g0v,pC,G5,Tryd.f9,Option.getD_some,List.size_toArray,List.length_cons,List.length_nil,Nat.reduceAdd,Nat.zero_add,List.range,List.range.loop]
 iterate 4 refine oT ?_
 refine oc Z9 #[.slice ta tl tc,.func (.func 51) #[] #[vP cb 0,vP xb 0],.slice sa sl sc,vI mo] ?_
 refine h _ ?_
 exact⟨rfl,rfl,rfl,trivial⟩
theorem w0q{n:Nat}(hU:i2 F n)(hn:n≤w.heap.size){kb rb:Nat}{aa oa:Option Addr}{al ac ol oz:Nat}{st:Bool}{A:Array Value}(hA:G0 27 A [(8,vP rb 0),(9,vP kb 0)])
 (h:∀A,G0 27 A [(8,vP rb 0),(11,vP w.heap.size 0)]→J0 Tryd.prog main F Stop (G (Frame.enter Tryd.prog 30 #[vP kb 0,.nilIface] .normal) ((bA 9 A [.inRegion (oC d0R) [1,2,3,4],.code h0U])::cs)) (w.alloc (.cells #[.slice aa al ac,.slice oa ol oz,.slice none 0 0,.bool st] 29))):
 J0 Tryd.prog main F Stop (G ((bA 9 A [.inRegion (oC g0v) [4,5,6],.code h0T]).finish (.agg #[.slice aa al ac,.slice oa ol oz,.slice none 0 0,.bool st])) cs) w:=by
 obtain⟨s,rfl,h8,h9,_⟩:=Y3 h0u hA
 simp only[h0u,h8,h9]
 clear h8 h9
 rw[Frame.finish_at]
 simp only[oC,g0v,pC,G5,Tryd.f9,Option.getD_some,List.size_toArray,List.length_cons,List.length_nil,Nat.reduceAdd,Nat.zero_add,List.range,List.range.loop]
 walk_nrm
 refine oA hU ?_
 (refine oW fun dd K hK=>?_;go_simp;refine hK _ _ ⟨⟨⟨0,e0L (fun k=>O4 hU (show n≤w.heap.size by omega)) _ _ _ _⟩,fun e he=>by(have hm:=mem_listed he;clear he hK;simp[go_sem,storedEv]at hm;rcases hm with rfl|rfl|rfl|rfl<;>exact U0 _ _ ((fun k=>O4 hU (show n≤w.heap.size by omega)) _))⟩,?_⟩;clear hK K;simp only[setCell_at'];refine J0.at ?_ dd)
 have e1:=m0V w (.slice none 0 0) (.slice none 0 0) (.slice none 0 0) (.bool false) (.slice aa al ac) (.slice oa ol oz) (.slice none 0 0) (.bool st)
 rw[e1]
 clear e1
 refine ogE<|ogW d0R h0U ?_
 simp only[oC,d0R,pC,G5,Tryd.f9,Option.getD_some,List.size_toArray,List.length_cons,List.length_nil,Nat.reduceAdd,Nat.zero_add,List.range,List.range.loop]
 refine oT ?_
 refine oc c0a #[vP kb 0,.nilIface] ?_
 refine h _ ?_
 exact⟨rfl,rfl,rfl,trivial⟩
theorem w0r{rb tb:Nat}{lv:Value}{A:Array Value}(hA:G0 27 A [(8,vP rb 0),(11,vP tb 0)])
 (h:∀A,G0 27 A [(8,vP rb 0),(11,vP tb 0)]→J0 Tryd.prog main F Stop (G (Frame.enter Tryd.prog 29 #[lv] .normal) ((bA 9 A [.inRegion (oC d0R) [2,3,4],.code h0U])::cs)) w):
 J0 Tryd.prog main F Stop (G ((bA 9 A [.inRegion (oC d0R) [1,2,3,4],.code h0U]).finish lv) cs) w:=by
 obtain⟨s,rfl,h8,h11,_⟩:=Y3 h0u hA
 simp only[h0u,h8,h11]
 clear h8 h11
 rw[Frame.finish_at]
 simp only[oC,d0R,pC,G5,Tryd.f9,Option.getD_some,List.size_toArray,List.length_cons,List.length_nil,Nat.reduceAdd,Nat.zero_add,List.range,List.range.loop]
 walk_nrm
 refine oc f0h #[lv] ?_
 refine h _ ?_
 exact⟨rfl,rfl,rfl,trivial⟩
theorem w0s{rb tb:Nat}{aa oa:Option Addr}{al ac ol oz xl xc:Nat}{xa:Option Addr}{st:Bool}{y0 y1 y2 y3:Value}(hne:rb≠tb)(hR:S7 w rb y0 y1 y2 y3)(hT:S7 w tb (.slice aa al ac) (.slice oa ol oz) (.slice none 0 0) (.bool st))(hnr:∀k,¬held F ⟨rb,k,none⟩)(hnt:∀k,¬held F ⟨tb,k,none⟩){A:Array Value}(hA:G0 27 A [(8,vP rb 0),(11,vP tb 0)]){c:Frame}
 (h:J0 Tryd.prog main F Stop (G (c.finish (.agg #[.slice aa al ac,.slice oa ol oz,.slice xa xl xc,.bool st])) cs) (trW (w.setCell ⟨tb,2,none⟩ (.slice xa xl xc)) rb (.slice aa al ac) (.slice oa ol oz) (.slice xa xl xc) (.bool st))):
 J0 Tryd.prog main F Stop (G ((bA 9 A [.inRegion (oC d0R) [2,3,4],.code h0U]).finish (.slice xa xl xc)) (c::cs)) w:=by
 obtain⟨s,rfl,h8,h11,_⟩:=Y3 h0u hA
 simp only[h0u,h8,h11]
 clear h8 h11
 rw[Frame.finish_at]
 simp only[oC,d0R,pC,G5,Tryd.f9,Option.getD_some,List.size_toArray,List.length_cons,List.length_nil,Nat.reduceAdd,Nat.zero_add,List.range,List.range.loop]
 walk_nrm
 refine oT ?_
 (refine oW fun dd K hK=>?_;have hc2:=(hT.at dd).c2;have hz0:=(hT.at dd).z;go_simp;refine hK _ _ ⟨⟨⟨0,E0 rfl (hnt 2) _⟩,fun e he=>by(have hm:=mem_listed he;clear he hK;simp[go_sem,storedEv,hc2,hz0]at hm;subst hm;exact U0 _ _ (hnt 2))⟩,?_⟩;clear hK K hc2 hz0;rw[setCell_at'];refine J0.at ?_ dd)
 have hT2:S7 (w.setCell ⟨tb,2,none⟩ (.slice xa xl xc)) tb (.slice aa al ac) (.slice oa ol oz) (.slice xa xl xc) (.bool st):=⟨by rw[U1 hT.o];rfl⟩
 have hR2:S7 (w.setCell ⟨tb,2,none⟩ (.slice xa xl xc)) rb y0 y1 y2 y3:=⟨(o0 _ _ _ hne).trans hR.o⟩
 generalize w.setCell ⟨tb,2,none⟩ (.slice xa xl xc)=W at hT2 hR2 h ⊢
 refine ogE<|ogW s0B .ret ?_
 simp only[oC,s0B,pC,G5,Tryd.f9,Option.getD_some,List.size_toArray,List.length_cons,List.length_nil,Nat.reduceAdd,Nat.zero_add,List.range,List.range.loop]
 (refine oW fun dd K hK=>?_;have hc0:=(hT2.at dd).c0;have hc1:=(hT2.at dd).c1;have hc2:=(hT2.at dd).c2;have hc3:=(hT2.at dd).c3;have hz0:=(hT2.at dd).z;go_simp;refine hK _ _ ⟨⟨⟨0,V3.refl _ _⟩,fun e he=>by(have hm:=mem_listed he;clear he hK;simp[go_sem,hc0,hc1,hc2,hc3,hz0]at hm;rcases hm with rfl|rfl|rfl|rfl<;>exact I1 _ _)⟩,J0.at ?_ dd⟩;clear hK K hc0 hc1 hc2 hc3 hz0)
 (refine oW fun dd K hK=>?_;have hc0:=(hR2.at dd).c0;have hc1:=(hR2.at dd).c1;have hc2:=(hR2.at dd).c2;have hc3:=(hR2.at dd).c3;have hz0:=(hR2.at dd).z;go_simp;refine hK _ _ ⟨⟨⟨0,e0L hnr _ _ _ _⟩,fun e he=>by(have hm:=mem_listed he;clear he hK;simp[go_sem,storedEv,hc0,hc1,hc2,hc3,hz0]at hm;rcases hm with rfl|rfl|rfl|rfl<;>exact U0 _ _ (hnr _))⟩,?_⟩;clear hK K hc0 hc1 hc2 hc3 hz0;simp only[setCell_at'];refine J0.at ?_ dd)
 refine ogE<|ogX ?_
 have hT3:=hR2.put (.slice aa al ac) (.slice oa ol oz) (.slice xa xl xc) (.bool st)
 change J0 _ _ _ _ _ (trW W rb (.slice aa al ac) (.slice oa ol oz) (.slice xa xl xc) (.bool st))
 generalize (trW W rb (.slice aa al ac) (.slice oa ol oz) (.slice xa xl xc) (.bool st))=V at hT3 h ⊢
 have hc0:=hT3.c0
 have hc1:=hT3.c1
 have hc2:=hT3.c2
 have hc3:=hT3.c3
 have hz0:=hT3.z
 refine p4 (fn:=Tryd.f9) (v:=.agg #[.slice aa al ac,.slice oa ol oz,.slice xa xl xc,.bool st]) rfl rfl Tryd.func9 (fun d=>by simp[results,Tryd.f9,go_sem,hc0,hc1,hc2,hc3,hz0]) (fun d e he=>by simp[results,Tryd.f9,go_sem,hc0,hc1,hc2,hc3,hz0]at he;rcases he with rfl|rfl|rfl|rfl<;>exact I1 _ _) ?_
 exact h
end
section
variable{F:Fz}{w w' w0:World}{lb cb fb xb wb n:Nat}
theorem o0j(n:Nat)(ws:List (BitVec 64))(i:Int):(Y8 n ws i).length=ws.length:=by
 unfold Y8;split<;>simp
theorem b0K(n:Nat)(xs:List Int):∀ws:List (BitVec 64),(xs.foldl (Y8 n) ws).length=ws.length:=by
 induction xs with
 | nil=>intro ws;rfl
 | cons x xs ih=>intro ws;rw[List.foldl_cons,ih,o0j]
def HiW(n:Nat)(ws:List (BitVec 64)):Prop:=∀k j,n≤k*64+j→(ws.getD k 0#64).getLsbD j=false
theorem q04(n m:Nat):HiW n (List.replicate m 0#64):=fun k j _=>by
 rw[List.getD_eq_getElem?_getD,List.getElem?_replicate]
 split<;>simp
theorem h0y{ws:List (BitVec 64)}(h:HiW n ws){k:Nat}{z:BitVec 64}(hz:∀j,n≤k*64+j→z.getLsbD j=false):HiW n (ws.set k z):=fun i j hj=>by
 rw[List.getD_eq_getElem?_getD,List.getElem?_set]
 split
 ·rename_i e
  subst e
  split
  ·exact hz j hj
  ·simp
 ·have:=h i j hj
  rwa [List.getD_eq_getElem?_getD]at this
theorem q03{ws:List (BitVec 64)}(h:HiW n ws)(i:Int):HiW n (Y8 n ws i):=by
 unfold Y8
 split
 ·rename_i e
  refine h0y h fun j hj=>?_
  rw[BitVec.getLsbD_or,h _ _ hj,U8]
  simp
  omega
 ·exact h
theorem p0k(xs:List Int):∀ws:List (BitVec 64),HiW n ws→HiW n (xs.foldl (Y8 n) ws):=by
 induction xs with
 | nil=>exact fun ws h=>h
 | cons x xs ih=>exact fun ws h=>ih _ (q03 h x)
theorem o0l(vs:List Int):B6 vs≤65536:=by unfold B6;omega
def c0K(w:World)(va:Option Addr)(xs:List Int):Prop:=∀i x,xs[i]? =some x→∃b o,va=some ⟨b,o,none⟩∧w.cell? ⟨b,o+i,none⟩=some (vI x)
theorem c0K.same{va:Option Addr}{xs:List Int}(h:c0K w va xs)(hs:∀r,r<w.heap.size→w'.heap[r]? =w.heap[r]?):c0K w' va xs:=fun i x hx=>by
 obtain⟨b,o,e,h2⟩:=h i x hx
 refine⟨b,o,e,?_⟩
 rw[← h2]
 unfold World.cell?
 rw[hs b (I9 h2)]
theorem r0k{sa:Option Addr}{sc:Nat}{xs:List Int}{N0 m:Nat}(hl:xs.length<9223372036854775808)(hlo:∀b o,sa=some ⟨b,o,none⟩→0<xs.length→b<N0)(hr:c0K w0 sa xs)(hwb:N0≤wb)(hlb:wb≠lb)(hxb:wb≠xb)(hnh:∀k,¬held F ⟨wb,k,none⟩){cs:List Frame}{main:Bool}{Stop:Goroutine→World→Prop}
 (ws0:List (BitVec 64)) (hm:ws0.length=m)
 (K:∀w A,BH lb wb n m w→w.cell? ⟨xb,0,none⟩=some (vP lb 0)→w.heap.size=w0.heap.size→(∀r,r≠wb→w.heap[r]? =w0.heap[r]?)→c0m w wb (xs.foldl (Y8 n) ws0)→G0 51 A [(0,.slice sa xs.length sc),(4,vI (n:Nat)),(5,vP xb 0),(25,.slice sa xs.length sc),(26,vI (xs.length:Nat)),(27,vI (xs.length:Nat))]→J0 Tryd.prog main F Stop (G (bA 27 A [.inRegion (oC i6) [0],.code n6,.inLoop S9,.inBlock 0,.code W7]) cs) w):
 ∀(k i:Nat) (w:World) (A:Array Value) (ws:List (BitVec 64)),i+k=xs.length→ws.length=m→(xs.drop i).foldl (Y8 n) ws=xs.foldl (Y8 n) ws0→BH lb wb n m w→w.cell? ⟨xb,0,none⟩=some (vP lb 0)→w.heap.size=w0.heap.size→(∀r,r≠wb→w.heap[r]? =w0.heap[r]?)→c0m w wb ws→G0 51 A [(0,.slice sa xs.length sc),(4,vI (n:Nat)),(5,vP xb 0),(25,.slice sa xs.length sc),(26,vI (xs.length:Nat)),(27,vI (i:Nat))]→J0 Tryd.prog main F Stop (G (bA 27 A [.inRegion (oC i6) [0],.code n6,.inLoop S9,.inBlock 0,.code W7]) cs) w:=by
 intro k
 induction k with
 | zero=>
   intro i w A ws hk hw hf hB hx hs ho hW hA
   obtain rfl:i=xs.length:=by omega
   rw[List.drop_length]at hf
   simp only[List.foldl_nil]at hf
   subst hf
   exact K w A hB hx hs ho hW hA
 | succ k ih=>
   intro i w A ws hk hw hf hB hx hs ho hW hA
   have hi:i<xs.length:=by omega
   have hxi:xs[i]? =some xs[i]:=List.getElem?_eq_getElem hi
   obtain⟨b,o,rfl,hc⟩:=hr i _ hxi
   have hb:=hlo b o rfl (by omega)
   have hc2:w.cell? ⟨b,o+i,none⟩=some (vI xs[i]):=by
    rw[← hc]
    unfold World.cell?
    rw[ho b (by omega)]
   have hd:xs.drop i=xs[i]::xs.drop (i+1):=List.drop_eq_getElem_cons hi
   rw[hd,List.foldl_cons]at hf
   generalize xs[i]=x at hc2 hf
   by_cases hq:0≤x∧x<n
   ·obtain⟨q,rfl⟩:∃q:Nat,x=(q:Int):=⟨x.toNat,by omega⟩
    have hqn:q<n:=by omega
    refine y00 hi hl hc2 hqn hx hA fun A2 hA2=>?_
    have hp:Y8 n ws (q:Int)=ws.set (q / 64) (ws.getD (q / 64) 0#64 ||| bitI q):=by
     unfold Y8;rw[if_pos hq];rfl
    refine i0a hB hW hw hqn hnh fun bb w2 h1 h2 h3=>y01 hi hl hA2 fun A3 hA3=>?_
    refine ih (i+1) w2 A3 _ (by omega) ?_ (by rw[← hp];exact hf) ⟨?_,?_,hB.hm,hB.hn⟩ ?_ (h1.trans hs) (fun r hr=>(h2 r hr).trans (ho r hr)) h3 hA3
    ·simp[hw]
    ·rw[← hB.c0];unfold World.cell?;rw[h2 _ (Ne.symm hlb)]
    ·rw[← hB.c1];unfold World.cell?;rw[h2 _ (Ne.symm hlb)]
    ·rw[← hx];unfold World.cell?;rw[h2 _ (Ne.symm hxb)]
   ·have hp:Y8 n ws x=ws:=by unfold Y8;rw[if_neg hq]
    rw[hp]at hf
    by_cases h0:x<0
    ·exact x0y hi hl hc2 h0 hA fun A2 hA2=>ih (i+1) w A2 ws (by omega) hw hf hB hx hs ho hW hA2
    ·exact x0z hi hl hc2 (by omega) (by omega) hA fun A2 hA2=>ih (i+1) w A2 ws (by omega) hw hf hB hx hs ho hW hA2
end
section
variable{w w' w0:World}{lb wb:Nat}
theorem y05(a:Addr):¬held F0 a:=fun h=>by obtain⟨z,hz,_⟩:=h;cases hz
structure R7(sv:Value)(main:Bool)(sb:Option Nat)(X:Nat→World→Prop):Prop where
 tick:∀(m:Nat) (w:World) (c:Frame) (cs:List Frame) (Stop:Goroutine→World→Prop),X m w→m<4611686018427387904→(∀w',X (m+1) w'→w'.heap.size=w.heap.size→(∀r,some r≠sb→w'.heap[r]? =w.heap[r]?)→J0 Tryd.prog main F0 Stop (G (c.finish (.tuple #[])) cs) w')→
  J0 Tryd.prog main F0 Stop (G (Frame.enter Tryd.prog 48 #[sv] .normal) (c::cs)) w
 keep:∀(m:Nat) (w w':World),X m w→(∀b,sb=some b→b<w.heap.size→w'.heap[b]? =w.heap[b]?)→X m w'
theorem e0W(main:Bool):R7 .nilIface main none fun _ _=>True where
 tick:=fun m w c cs Stop _ _ h=>a08 (h w trivial rfl fun _ _=>rfl)
 keep:=fun _ _ _ _ _=>trivial
structure WU(lb wb:Nat)(k:V0)(w:World):Prop where
 wf:BWf k
 o:w.heap[lb]? =some (.cells #[vI (k.n:Nat),vL wb 0 k.ws.length k.ws.length] 62 (0,0))
 ws:c0m w wb k.ws
 t:Tab w
 ne:wb≠lb
 z:wb≠0
theorem WU.bh{k:V0}(h:WU lb wb k w):BH lb wb k.n k.ws.length w:=⟨by simp[World.cell?,h.o],by simp[World.cell?,h.o],h.wf.l,h.wf.n⟩
theorem WU.same{k:V0}(h:WU lb wb k w)(h1:w'.heap[lb]? =w.heap[lb]?)(h2:w'.heap[wb]? =w.heap[wb]?)(h3:w'.heap[0]? =w.heap[0]?):WU lb wb k w':=⟨h.wf,h1.trans h.o,h2.trans h.ws,h.t.same h3,h.ne,h.z⟩
theorem WU.low{k:V0}(h:WU lb wb k w):lb<w.heap.size∧wb<w.heap.size∧0<w.heap.size:=by
 have h1:=(Array.getElem?_eq_some_iff.1 h.o).1
 exact⟨h1,(Array.getElem?_eq_some_iff.1 (show w.heap[wb]? =_ from h.ws)).1,by omega⟩
theorem WU.wc{k:V0}(h:WU lb wb k w){i:Nat}(hi:i<k.ws.length):w.cell? ⟨wb,i,none⟩=some (wV (k.wd i)):=h.ws.c hi
theorem WU.hz{k:V0}(h:WU lb wb k w)(i:Nat):HiZ k.n i (k.wd i):=fun j _ hj=>h.wf.hi _ _ hj
theorem WU.setW{k:V0}(h:WU lb wb k w){i:Nat}{z:BitVec 64}(hz:∀j,k.n≤i*64+j→z.getLsbD j=false):WU lb wb {k with ws:=k.ws.set i z} (w.setCell ⟨wb,i,none⟩ (wV z)):=by
 refine⟨⟨by simpa using h.wf.l,h.wf.n,h0y (n:=k.n) h.wf.hi hz⟩,?_,h.ws.set _ _,h.t.same (o0 _ _ _ (Ne.symm h.z)),h.ne,h.z⟩
 rw[o0 _ _ _ (Ne.symm h.ne)]
 have:=h.o
 simpa using this
structure n8(lb wb:Nat)(sb:Option Nat)(X:Nat→World→Prop)(w0:World)(k:V0)(m:Nat)(w:World):Prop where
 u:WU lb wb k w
 x:X m w
 sz:w0.heap.size≤w.heap.size
 o:∀r,r<w0.heap.size→some r≠sb→r≠wb→w.heap[r]? =w0.heap[r]?
def Apt(lb wb:Nat)(sb:Option Nat):Prop:=∀b,sb=some b→b≠lb∧b≠wb∧b≠0
section
variable{sv:Value}{main:Bool}{sb:Option Nat}{m:Nat}{X:Nat→World→Prop}{k:V0}
theorem n8.tick(h:n8 lb wb sb X w0 k m w)(hsb:Apt lb wb sb)(hx:X (m+1) w')(hs:w'.heap.size=w.heap.size)(ho:∀r,some r≠sb→w'.heap[r]? =w.heap[r]?):n8 lb wb sb X w0 k (m+1) w':=
 ⟨h.u.same (ho _ fun e=>(hsb _ e.symm).1 rfl) (ho _ fun e=>(hsb _ e.symm).2.1 rfl) (ho _ fun e=>(hsb _ e.symm).2.2 rfl),hx,by rw[hs];exact h.sz,fun r hr h1 h2=>(ho r h1).trans (h.o r hr h1 h2)⟩
theorem n8.grow(S:R7 sv main sb X)(h:n8 lb wb sb X w0 k m w)(hsb:Apt lb wb sb)(hsz:w.heap.size≤w'.heap.size)(ho:∀r,r<w0.heap.size→w'.heap[r]? =w.heap[r]?)(h1:w'.heap[lb]? =w.heap[lb]?)(h2:w'.heap[wb]? =w.heap[wb]?)(h3:w'.heap[0]? =w.heap[0]?)(hb:∀b,sb=some b→b<w.heap.size→w'.heap[b]? =w.heap[b]?):n8 lb wb sb X w0 k m w':=
 ⟨h.u.same h1 h2 h3,S.keep m _ _ h.x hb,Nat.le_trans h.sz hsz,fun r hr h1 h2=>(ho r hr).trans (h.o r hr h1 h2)⟩
theorem n8.setW(S:R7 sv main sb X)(h:n8 lb wb sb X w0 k m w)(hsb:Apt lb wb sb){i:Nat}{z:BitVec 64}(hz:∀j,k.n≤i*64+j→z.getLsbD j=false):n8 lb wb sb X w0 {k with ws:=k.ws.set i z} m (w.setCell ⟨wb,i,none⟩ (wV z)):=
 ⟨h.u.setW hz,S.keep m _ _ h.x fun b hb _=>o0 _ _ _ (hsb b hb).2.1,by rw[World.size_setCell];exact h.sz,fun r hr h1 h2=>(o0 _ _ _ h2).trans (h.o r hr h1 h2)⟩
def V0.numsTo(s:V0)(i:Nat):List Int:=(List.range i).flatMap fun k=>X3 s.n k (s.wd k)
theorem a0F(s:V0)(i:Nat):s.numsTo (i+1)=s.numsTo i++X3 s.n i (s.wd i):=by simp[V0.numsTo,List.range_succ]
theorem W9(s:V0):s.numsTo s.ws.length=s.nums:=rfl
theorem m0H(n k:Nat)(x:BitVec 64):(X3 n k x).length≤64:=by
 unfold X3
 rw[List.length_map]
 exact Nat.le_trans (List.length_filter_le _ _) (by simp)
theorem a06(s:V0)(i:Nat):(s.numsTo i).length≤64*i:=by
 induction i with
 | zero=>simp[V0.numsTo]
 | succ i ih=>
   rw[a0F,List.length_append]
   have:=m0H s.n i (s.wd i)
   omega
theorem f0Z(S:R7 sv main sb X)(hsb:Apt lb wb sb){w1:World}(hlow:lb<w1.heap.size∧wb<w1.heap.size∧0<w1.heap.size)(hsl:w0.heap.size≤w1.heap.size)(hsbl:∀b,sb=some b→b<w1.heap.size)(hm:m+2000<4611686018427387904){c:Frame}{cs:List Frame}{Stop:Goroutine→World→Prop}
 (K:∀w' ov,n8 lb wb sb X w0 k (m+k.ws.length) w'→w'.ownsRow 0 3 1 ov k.nums.length (k.nums.map fun v=>vI v)→(∀b,ov.ownBlock=some b→w1.heap.size≤b)→w1.heap.size≤w'.heap.size→(∀r,r<w1.heap.size→some r≠sb→w'.heap[r]? =w1.heap[r]?)→J0 Tryd.prog main F0 Stop (G (c.finish ov) cs) w'):
 ∀(j i:Nat) (w:World) (A:Array Value) (ov:Value),i+j+1=k.ws.length→n8 lb wb sb X w0 k (m+i) w→w.ownsRow 0 3 1 ov (k.numsTo i).length ((k.numsTo i).map fun v=>vI v)→(∀b,ov.ownBlock=some b→w1.heap.size≤b)→w1.heap.size≤w.heap.size→(∀r,r<w1.heap.size→some r≠sb→w.heap[r]? =w1.heap[r]?)→
  G0 40 A [(0,vP lb 0),(1,sv),(5,ov),(6,vI (i:Nat)),(11,vI (k.ws.length:Nat)),(12,vI (i:Nat))]→
  J0 Tryd.prog main F0 Stop (G (Frame.enter Tryd.prog 48 #[sv] .normal) ((bA 30 A [.inRegion (oC b0W) [1],.code b0q,.inBlock 1,.code f6,.inLoop a0v,.inBlock 0,.code J7])::c::cs)) w:=by
 intro j
 induction j with
 | zero=>
   intro i w A ov hi h hrow hnew hs ho hA
   have hl:=h.u.wf.l
   have hn:=h.u.wf.n
   refine S.tick _ _ _ _ _ h.x (by omega) fun w2 hx hz hq=>?_
   have h2:=h.tick hsb hx hz hq
   have hrow2:w2.ownsRow 0 3 1 ov (k.numsTo i).length ((k.numsTo i).map fun v=>vI v):=G1 hrow fun b hb _=>hq b fun e=>by have:=hsbl b e.symm;have:=hnew b hb;omega
   have hw:i<k.ws.length:=by omega
   have hlen:=a06 k i
   have hbl:=f0l (k.wd i)
   have hnum:=b0T (h.u.hz i)
   refine r0g h2.u.bh hw (h2.u.wc hw) hA fun A' hA'=>?_
   refine e0d (w0:=w2) (ov0:=ov) (ys:=k.numsTo (i+1)) J1 (Nat.zero_le _) (by omega) h2.u.low.2.2 h2.u.t (fun e=>by have:=hnew 0 e.symm;omega) (fun q _=>rfl) (fun ov' w' A3 hrow3 hwf' hm' hA3=>?_) (H8 (k.wd i)) (k.wd i) (k.numsTo i) ov w2 A' rfl (by rw[a0F,hnum]) (by omega) hrow2 (g0J _) (P6.refl _ _) hA'
   have hnw:∀r,r<w1.heap.size→w'.heap[r]? =w2.heap[r]?:=fun r hr=>hm'.old r (by omega) fun e=>by have:=hnew r e.symm;omega
   have h3:n8 lb wb sb X w0 k (m+i+1) w':=h2.grow S hsb hm'.size (fun r hr=>hnw r (by omega)) (hnw _ hlow.1) (hnw _ hlow.2.1) (hnw _ hlow.2.2) fun b hb _=>hnw b (hsbl b hb)
   have hnew':∀b,ov'.ownBlock=some b→w1.heap.size≤b:=fun b hb=>by
    rcases hm'.blk with h1|⟨q,h1,h2⟩
    ·exact hnew b (h1 ▸ hb)
    ·rw[h1]at hb;cases hb;omega
   have hms:=hm'.size
   have ho':∀r,r<w1.heap.size→some r≠sb→w'.heap[r]? =w1.heap[r]?:=fun r hr hrs=>(hnw r hr).trans ((hq r hrs).trans (ho r hr hrs))
   refine p0s (by omega) (by omega) hA3 (K w' ov' ?_ ?_ hnew' (by omega) ho')
   ·have e:m+i+1=m+k.ws.length:=by omega
    rw[← e];exact h3
   ·have e:i+1=k.ws.length:=by omega
    rw[e,W9]at hrow3
    exact hrow3
 | succ j ih=>
   intro i w A ov hi h hrow hnew hs ho hA
   have hl:=h.u.wf.l
   have hn:=h.u.wf.n
   refine S.tick _ _ _ _ _ h.x (by omega) fun w2 hx hz hq=>?_
   have h2:=h.tick hsb hx hz hq
   have hrow2:w2.ownsRow 0 3 1 ov (k.numsTo i).length ((k.numsTo i).map fun v=>vI v):=G1 hrow fun b hb _=>hq b fun e=>by have:=hsbl b e.symm;have:=hnew b hb;omega
   have hw:i<k.ws.length:=by omega
   have hlen:=a06 k i
   have hbl:=f0l (k.wd i)
   have hnum:=b0T (h.u.hz i)
   refine r0g h2.u.bh hw (h2.u.wc hw) hA fun A' hA'=>?_
   refine e0d (w0:=w2) (ov0:=ov) (ys:=k.numsTo (i+1)) J1 (Nat.zero_le _) (by omega) h2.u.low.2.2 h2.u.t (fun e=>by have:=hnew 0 e.symm;omega) (fun q _=>rfl) (fun ov' w' A3 hrow3 hwf' hm' hA3=>?_) (H8 (k.wd i)) (k.wd i) (k.numsTo i) ov w2 A' rfl (by rw[a0F,hnum]) (by omega) hrow2 (g0J _) (P6.refl _ _) hA'
   have hnw:∀r,r<w1.heap.size→w'.heap[r]? =w2.heap[r]?:=fun r hr=>hm'.old r (by omega) fun e=>by have:=hnew r e.symm;omega
   have h3:n8 lb wb sb X w0 k (m+i+1) w':=h2.grow S hsb hm'.size (fun r hr=>hnw r (by omega)) (hnw _ hlow.1) (hnw _ hlow.2.1) (hnw _ hlow.2.2) fun b hb _=>hnw b (hsbl b hb)
   have hnew':∀b,ov'.ownBlock=some b→w1.heap.size≤b:=fun b hb=>by
    rcases hm'.blk with h1|⟨q,h1,h2⟩
    ·exact hnew b (h1 ▸ hb)
    ·rw[h1]at hb;cases hb;omega
   have hms:=hm'.size
   have ho':∀r,r<w1.heap.size→some r≠sb→w'.heap[r]? =w1.heap[r]?:=fun r hr hrs=>(hnw r hr).trans ((hq r hrs).trans (ho r hr hrs))
   refine p0r (by omega) (by omega) hA3 fun A4 hA4=>ih (i+1) w' A4 ov' (by omega) h3 hrow3 hnew' (by omega) ho' hA4
theorem h09(S:R7 sv main sb X)(hsb:Apt lb wb sb)(h:n8 lb wb sb X w0 k m w)(hsbl:∀b,sb=some b→b<w.heap.size)(hm:m+2000<4611686018427387904){c:Frame}{cs:List Frame}{Stop:Goroutine→World→Prop}
 (K:∀w' ov,n8 lb wb sb X w0 k (m+k.ws.length) w'→w'.ownsRow 0 3 1 ov k.nums.length (k.nums.map fun v=>vI v)→(∀b,ov.ownBlock=some b→w.heap.size≤b)→w.heap.size≤w'.heap.size→(∀r,r<w.heap.size→some r≠sb→w'.heap[r]? =w.heap[r]?)→J0 Tryd.prog main F0 Stop (G (c.finish ov) cs) w'):
 J0 Tryd.prog main F0 Stop (G (Frame.enter Tryd.prog 30 #[vP lb 0,sv] .normal) (c::cs)) w:=by
 by_cases h0:k.ws.length=0
 ·refine p0q h.u.bh h0 (K w _ (by rw[h0];exact h) ?_ (fun b hb=>by simp[Value.ownBlock]at hb) (Nat.le_refl _) fun _ _ _=>rfl)
  have e:k.nums=[]:=by rw[← W9,h0];rfl
  rw[e]
  exact World.ownsRow_nil _ _ _ _
 ·refine v0q h.u.bh (by omega) fun A hA=>?_
  exact f0Z S hsb h.u.low h.sz hsbl hm K (k.ws.length - 1) 0 w A _ (by omega) h (World.ownsRow_nil _ _ _ _) (fun b hb=>by simp[Value.ownBlock]at hb) (Nat.le_refl _) (fun _ _ _=>rfl) hA
theorem i0e{lv:Value}{xs:List Int}(hl:xs.length≤70000)(hrow:w.ownsRow 0 3 1 lv xs.length (xs.map fun v=>vI v)){c:Frame}{cs:List Frame}{Stop:Goroutine→World→Prop}
 (K:∀w' ov,w'.ownsRow 0 2 1 ov xs.length (xs.map fun v=>vI v)→(∀b,ov.ownBlock=some b→w.heap.size≤b)→w.heap.size≤w'.heap.size→(∀r,r<w.heap.size→w'.heap[r]? =w.heap[r]?)→J0 Tryd.prog main F0 Stop (G (c.finish ov) cs) w'):
 J0 Tryd.prog main F0 Stop (G (Frame.enter Tryd.prog 29 #[lv] .normal) (c::cs)) w:=by
 obtain⟨la,lc,rfl⟩:=d0f hrow
 by_cases h0:xs.length=0
 ·refine q0t fun A6 hA6=>?_
  have hA7:G0 18 A6 [(3,.slice none 0 0),(6,.slice la xs.length lc),(7,vI (xs.length:Nat)),(8,vI (xs.length:Nat))]:=by rw[h0]at hA6 ⊢;exact hA6
  refine q0u hA7 (K w _ ?_ (fun b hb=>by simp[Value.ownBlock]at hb) (Nat.le_refl _) fun _ _=>rfl)
  have hy0:xs=[]:=List.length_eq_zero_iff.1 h0
  rw[hy0]
  exact World.ownsRow_nil _ _ _ _
 ·rcases hrow.2 with⟨e,_⟩|⟨gb,lc,cur,e,q1,q2,q3,q4,q5,q6⟩
  ·simp only[Value.slice.injEq]at e
   omega
  ·simp only[Value.slice.injEq]at e
   obtain⟨rfl,_,rfl⟩:=e
   refine q0t fun A6 hA6=>?_
   refine l08 (w0:=w) (xs:=xs) J1 (Nat.zero_le _) (by omega) (fun j x hj=>?_) (fun lv w2 A7 hr2 hwf2 hm2 hA7=>?_) xs.length 0 _ w A6 (by omega) (World.ownsRow_nil _ _ _ _) (g0J _) (P6.refl _ _) hA6
   ·obtain⟨b2,cap2,a1,a2⟩:=M5 hrow (k:=j) (x:=vI x) (by rw[List.getElem?_map,hj];rfl)
    cases a1
    exact a2.c
   ·refine q0u hA7 (K w2 lv hr2 (fun b hb=>?_) hm2.size fun r hr=>hm2.old r hr (by simp[Value.ownBlock]))
    rcases hm2.blk with h1|⟨g,h1,h2⟩
    ·rw[h1]at hb;simp[Value.ownBlock]at hb
    ·rw[h1]at hb;cases hb;exact h2
end
end
section
variable{F:Fz}{w w':World}
def d08(w:World):Prop:=∃c e z,w.heap[0]? =some (.cells c e z)∧∀k,k<64→c[k]? =some (.int .u8 ((deB.getD k 0:Nat):Int))
def l0h(n:Nat)(xs:List Int):V0:=⟨n,xs.foldl (Y8 n) (List.replicate ((n+63) / 64) 0#64)⟩
theorem h0R{n:Nat}(hn:n≤65536)(xs:List Int):BWf (l0h n xs) where
 l:=by simp[l0h,b0K]
 n:=hn
 hi:=p0k _ _ (q04 _ _)
theorem g0Q{sa:Option Addr}{sc n nn:Nat}{xs:List Int}(hU:i2 F nn)(hn:nn≤w.heap.size)(hr:c0K w sa xs)(hl:xs.length<9223372036854775808)(hn6:n≤65536)(hg:d08 w){A:Array Value}(hA:G0 51 A [(0,.slice sa xs.length sc),(4,vI (n:Nat))]){c:Frame}{cs:List Frame}{main:Bool}{Stop:Goroutine→World→Prop}
 (K:∀w' g,BU (w.heap.size+1) (w.heap.size+4) (w.heap.size+3) (w.heap.size+2) ⟨l0h n xs,w.heap.size,g⟩ w'→w'.heap.size=w.heap.size+5→(∀r,r<w.heap.size→w'.heap[r]? =w.heap[r]?)→J0 Tryd.prog main F Stop (G (c.finish (.tuple #[vP (w.heap.size+1) 0,.func (.func 51) #[] #[vP (w.heap.size+4) 0,vP (w.heap.size+2) 0]])) cs) w'):
 J0 Tryd.prog main F Stop (G (Frame.enter Tryd.prog 11 #[vI (n:Nat)] .normal) (fMa A::c::cs)) w:=by
 have hnew:∀q,w.heap.size≤q→∀k,¬held F ⟨q,k,none⟩:=fun q hq k=>O4 hU (show nn≤q by omega)
 refine p04 hU hn hn6 rfl ?_
 have hx0:((w.alloc (.cells (madeCells #[.int .u64 0] ((n+63) / 64)) 113)).alloc (.cells #[vI (n:Nat),vL w.heap.size 0 ((n+63) / 64) ((n+63) / 64)] 62)).heap.size=w.heap.size+2:=by simp
 have hx1:∀r,r<w.heap.size→((w.alloc (.cells (madeCells #[.int .u64 0] ((n+63) / 64)) 113)).alloc (.cells #[vI (n:Nat),vL w.heap.size 0 ((n+63) / 64) ((n+63) / 64)] 62)).heap[r]? =w.heap[r]?:=fun r hr=>by rw[D0 _ _ (by simp;omega),D0 _ _ hr]
 have hx2:((w.alloc (.cells (madeCells #[.int .u64 0] ((n+63) / 64)) 113)).alloc (.cells #[vI (n:Nat),vL w.heap.size 0 ((n+63) / 64) ((n+63) / 64)] 62)).heap[w.heap.size+1]? =some (.cells #[vI (n:Nat),vL w.heap.size 0 ((n+63) / 64) ((n+63) / 64)] 62 (0,0)):=by
  have:=heap_alloc_new (w.alloc (.cells (madeCells #[.int .u64 0] ((n+63) / 64)) 113)) (.cells #[vI (n:Nat),vL w.heap.size 0 ((n+63) / 64) ((n+63) / 64)] 62)
  simpa using this
 have hx3:c0m ((w.alloc (.cells (madeCells #[.int .u64 0] ((n+63) / 64)) 113)).alloc (.cells #[vI (n:Nat),vL w.heap.size 0 ((n+63) / 64) ((n+63) / 64)] 62)) w.heap.size (List.replicate ((n+63) / 64) 0#64):=by
  show(World.heap _)[w.heap.size]? =_
  rw[D0 _ _ (by simp),heap_alloc_new]
  congr 2
  apply Array.toList_inj.1
  rw[toList_madeCells_one]
  simp[wV]
 generalize ((w.alloc (.cells (madeCells #[.int .u64 0] ((n+63) / 64)) 113)).alloc (.cells #[vI (n:Nat),vL w.heap.size 0 ((n+63) / 64) ((n+63) / 64)] 62))=X at hx0 hx1 hx2 hx3 ⊢
 refine y0Z hU (by omega) hA fun A2 hA2=>?_
 rw[hx0]at hA2
 have hY0:(X.alloc (.cells #[vP (w.heap.size+1) 0] 33)).heap.size=w.heap.size+3:=by simp[hx0]
 have hY1:∀r,r<w.heap.size+2→(X.alloc (.cells #[vP (w.heap.size+1) 0] 33)).heap[r]? =X.heap[r]?:=fun r hr=>D0 _ _ (by omega)
 have hY2:(X.alloc (.cells #[vP (w.heap.size+1) 0] 33)).heap[w.heap.size+2]? =some (.cells #[vP (w.heap.size+1) 0] 33 (0,0)):=by
  rw[← hx0];exact heap_alloc_new _ _
 generalize X.alloc (.cells #[vP (w.heap.size+1) 0] 33)=Y at hY0 hY1 hY2 ⊢
 have hlo:∀b o,sa=some ⟨b,o,none⟩→0<xs.length→b<w.heap.size:=fun b o e hp=>by
  obtain⟨b2,o2,e2,h2⟩:=hr 0 xs[0] (List.getElem?_eq_getElem hp)
  rw[e]at e2
  simp only[Option.some.injEq,Addr.mk.injEq]at e2
  rw[e2.1]
  exact I9 h2
 have hrY:c0K Y sa xs:=hr.same fun r hr=>(hY1 r (by omega)).trans (hx1 r hr)
 have hcY:Y.cell? ⟨w.heap.size+2,0,none⟩=some (vP (w.heap.size+1) 0):=by simp[World.cell?,hY2]
 have hoY:Y.heap[w.heap.size+1]? =_:=(hY1 _ (by omega)).trans hx2
 have hBY:BH (w.heap.size+1) w.heap.size n ((n+63) / 64) Y:=⟨by simp[World.cell?,hoY],by simp[World.cell?,hoY],rfl,hn6⟩
 have hWY:c0m Y w.heap.size (List.replicate ((n+63) / 64) 0#64):=(hY1 _ (by omega)).trans hx3
 refine r0k (w0:=Y) (n:=n) (lb:=w.heap.size+1) (xb:=w.heap.size+2) (wb:=w.heap.size) (sc:=sc) (xs:=xs) hl hlo hrY (Nat.le_refl _) (by omega) (by omega) (hnew _ (Nat.le_refl _)) (List.replicate ((n+63) / 64) 0#64) (m:=(n+63) / 64) (by simp) (fun W A3 hB hc hs ho hW hA3=>?_) xs.length 0 Y A2 _ (by omega) (by simp) rfl hBY hcY rfl (fun _ _=>rfl) hWY hA2
 have hWs:W.heap.size=w.heap.size+3:=hs.trans hY0
 refine y02 hU (by omega) hc hA3 ?_
 obtain⟨tc,te,tz,hg1,hg2⟩:=hg
 have h0:0<w.heap.size:=(Q3 hg1)
 have hZ0:∀r,r<w.heap.size+3→((W.alloc (.cells #[.func (.func 18) #[vP (w.heap.size+1) 0] #[],.func (.func 19) #[vP (w.heap.size+1) 0] #[],.func (.func 20) #[vP (w.heap.size+1) 0] #[]] 58)).alloc (.cells #[vL W.heap.size 0 3 3] 116)).heap[r]? =W.heap[r]?:=fun r hr=>by
  rw[D0 _ _ (by simp;omega),D0 _ _ (by omega)]
 have hold:∀r,r<w.heap.size→W.heap[r]? =w.heap[r]?:=fun r hr=>(ho r (by omega)).trans ((hY1 r (by omega)).trans (hx1 r hr))
 have hK:=K ((W.alloc (.cells #[.func (.func 18) #[vP (w.heap.size+1) 0] #[],.func (.func 19) #[vP (w.heap.size+1) 0] #[],.func (.func 20) #[vP (w.heap.size+1) 0] #[]] 58)).alloc (.cells #[vL W.heap.size 0 3 3] 116)) (.cells tc te tz) ⟨h0R hn6 xs,?_,?_,?_,?_,?_,?_,⟨tc,te,tz,rfl,hg2⟩,by show w.heap.size≠_;omega,by show w.heap.size≠_;omega,by show w.heap.size≠_;omega,by show w.heap.size≠_;omega,by show w.heap.size≠0;omega⟩ (by simp[hWs]) fun r hr=>(hZ0 r (by omega)).trans (hold r hr)
 ·rw[hWs]at hK ⊢
  exact hK
 ·rw[hZ0 _ (by omega),ho _ (by omega),hoY]
  simp[BS.m,l0h,b0K]
 ·rw[hZ0 _ (by simp)]
  exact hW
 ·have:=heap_alloc_new (W.alloc (.cells #[.func (.func 18) #[vP (w.heap.size+1) 0] #[],.func (.func 19) #[vP (w.heap.size+1) 0] #[],.func (.func 20) #[vP (w.heap.size+1) 0] #[]] 58)) (.cells #[vL W.heap.size 0 3 3] 116)
  simpa [hWs]using this
 ·have:=heap_alloc_new W (.cells #[.func (.func 18) #[vP (w.heap.size+1) 0] #[],.func (.func 19) #[vP (w.heap.size+1) 0] #[],.func (.func 20) #[vP (w.heap.size+1) 0] #[]] 58)
  rw[hWs]at this
  rw[D0 _ _ (by simp[hWs])]
  exact this
 ·rw[hZ0 _ (by omega),ho _ (by omega),hY2]
 ·rw[hZ0 _ (by omega),hold _ h0,hg1]
theorem q0g{va:Option Addr}{vc nn:Nat}{vs:List Int}(hU:i2 F nn)(hn:nn≤w.heap.size)(hr:c0K w va vs)(hvc:vs.length≤vc)(hl:vs.length<9223372036854775808)(hg:d08 w){c:Frame}{cs:List Frame}{main:Bool}{Stop:Goroutine→World→Prop}
 (K:∀w' g,BU (w.heap.size+1) (w.heap.size+4) (w.heap.size+3) (w.heap.size+2) ⟨b09 vs,w.heap.size,g⟩ w'→w'.heap.size=w.heap.size+5→(∀r,r<w.heap.size→w'.heap[r]? =w.heap[r]?)→J0 Tryd.prog main F Stop (G (c.finish (.tuple #[vP (w.heap.size+1) 0,.func (.func 51) #[] #[vP (w.heap.size+4) 0,vP (w.heap.size+2) 0]])) cs) w'):
 J0 Tryd.prog main F Stop (G (Frame.enter Tryd.prog 27 #[.slice va vs.length vc] .normal) (c::cs)) w:=by
 cases vs with
 | nil=>
   refine x0x fun A hA=>?_
   exact g0Q (xs:=[]) (n:=0) hU hn (fun i x h=>by simp at h) (by simp) (by omega) hg hA K
 | cons v xs=>
   obtain⟨b,o,rfl,hc⟩:=hr 0 v rfl
   simp only[List.length_cons]at hvc hl ⊢
   refine y0Y (n:=B6 (v::xs)) hc hvc ?_ fun A hA=>?_
   ·have hb:=show((B6 (v::xs):Nat):Int)=min (max v 0) 65536 by unfold B6;simp only[List.headD_cons];omega
    rw[hb]
    split<;>split<;>omega
   ·refine g0Q (xs:=xs) hU hn (fun i x h=>?_) (by omega) (o0l _) hg hA K
    obtain⟨b2,o2,e2,h2⟩:=hr (i+1) x (by simpa using h)
    simp only[Option.some.injEq,Addr.mk.injEq]at e2
    obtain⟨rfl,rfl,_⟩:=e2
    have hi:i<xs.length:=(List.getElem?_eq_some_iff.1 h).1
    refine⟨b,o+1,by rw[if_neg (by omega)],?_⟩
    rw[← h2]
    congr 2
    omega
end
section
variable{An:G3}{w w':World}
theorem x8.later3{N N':Nat→Prop}{n tb o tl:Nat}{ta:Option Addr}{oa:Nat→Option Addr}{ol oc:Nat→Nat}{ops:Nat→List P3}{S:List Int}{sa:Option Addr}(h:x8 w N n tb o tl ta oa ol oc ops S sa)(hs:w.heap.size≤w'.heap.size)(hold:∀r,r<w.heap.size→w'.heap[r]? =w.heap[r]?)(hN:∀r,N' r→N r∨w.heap.size≤r):x8 w' N' n tb o tl ta oa ol oc ops S sa:=by
 have hc:∀{a:Addr} {v:Value},w.cell? a=some v→w'.cell? a=some v∧w'.frozen? a=w.frozen? a:=fun{a v} h=>by
  obtain⟨c,e,z,ho⟩:=M3 h
  have e1:=hold _ (Q3 ho)
  exact⟨by rw[← h];unfold World.cell?;simp only[e1],by unfold World.frozen?;simp only[e1]⟩
 refine⟨h.hn,h.hta,fun hp=>by have:=h.htb hp;omega,fun j hj=>?_,h.hlen,fun j hj k x hx=>?_,h.hsl,fun hp=>?_⟩
 ·obtain⟨h1,h2,h3⟩:=h.hth j hj
  exact⟨(hc h1).1,(hc h1).2.trans h2,h3⟩
 ·obtain⟨opb,oo,h1,h2,f0,f1,f2,f3,g0,g1,g2,g3⟩:=h.hop j hj k x hx
  obtain⟨c,e,z,ho⟩:=M3 f0
  have hlt:=(Q3 ho)
  exact⟨opb,oo,h1,fun hn=>by rcases hN _ hn with h3|h3;exact h2 h3;simp only at hlt;omega,(hc f0).1,(hc f1).1,(hc f2).1,(hc f3).1,(hc f0).2.trans g0,(hc f1).2.trans g1,(hc f2).2.trans g2,(hc f3).2.trans g3⟩
 ·obtain⟨sb,so,c,e,z,h1,h2,h3,h4⟩:=h.hS hp
  have hlt:=(Q3 h3)
  exact⟨sb,so,c,e,z,h1,fun hn=>by rcases hN _ hn with h5|h5;exact h2 h5;omega,(hold _ hlt).trans h3,h4⟩
theorem T5{base n size:Nat}{e:TypeId}{v:Value}{xs:List Value}(h:w.ownsRow base e size v n xs)(hs:∀b c,w.heap[b]? =some (.cells c e (0,0))→base≤b→w'.heap[b]? =w.heap[b]?):w'.ownsRow base e size v n xs:=by
 refine⟨h.1,?_⟩
 rcases h.2 with h2|⟨b,cap,cur,rfl,h3,h4,h5⟩
 ·exact .inl h2
 ·exact .inr ⟨b,cap,cur,rfl,h3,(hs b cur h4 h3).trans h4,h5⟩
def r0S(w:World)(r:Nat):Prop:=∀c e z,w.heap[r]?≠some (.cells c e z)
structure e0n(w:World)(n:Nat)(ans:Nat→List g7)(state:List Int)(order:List Nat)(aa:Nat)(rows:Nat→Value)(av:Nat→List SA)(ov sv:Value)(w':World):Prop where
 size:w.heap.size≤w'.heap.size
 old:∀(r:Nat) (c:Array Value) (e:TypeId) (z:Nat×Nat),w.heap[r]? =some (.cells c e z)→w'.heap[r]? =some (.cells c e z)
 arr:∃c,w'.heap[aa]? =some (.cells c 55 (0,0))∧c.size=n∧∀i,i<n→c[i]? =some (rows i)
 row:∀i,i<n→(av i).map SA.an=ans i∧(av i).length≤65536∧w'.ownsRow 0 49 3 (rows i) (av i).length (((av i).map fun a=>a.v.cells).flatten)∧∀a∈av i,SAU a w'
 nwa:r0S w aa
 nwr:∀i,i<n→∀r,(rows i).ownBlock=some r→r0S w r
 nwl:∀i,i<n→∀a∈av i,∀r,a.row.ownBlock=some r→r0S w r
 dj:∀i j,i<n→j<n→i≠j→∀r,(rows i).ownBlock=some r→(rows j).ownBlock≠some r
 ord:w'.ownsRow w.heap.size 3 1 ov order.length (order.map fun i:Nat=>Value.int .i64 i)
 st:w'.ownsRow w.heap.size 2 1 sv state.length (state.map fun v=>vI v)
def m0a(lb cb fb xb:Nat):Abs (O3 lb cb fb xb) BPl:=⟨BS.k,BeC.c,SA.an⟩
theorem q0E(lb cb fb xb:Nat):(m0a lb cb fb xb).Ok where
 beg:=fun s i o y h=>by
  obtain⟨y1,y2⟩:=y
  have h2:=h.2.2
  cases y2<;>exact h2
 stp:=fun s c y h=>by
  obtain⟨y1,y2⟩:=y
  have h2:=h.2.2
  cases y2<;>exact h2
theorem p0N(k:V0)(h:BWf k):k.nums.length≤65600:=by
 rw[← W9]
 have:=a06 k k.ws.length
 have:=h.l
 have:=h.n
 omega
section
variable{L:l8}{p:T9}{g:M1}{P:L.S→Prop}
theorem k0d(hb:∀s i o y,L.beg s i o y→P s→P y.1){i:Nat}{a b:L.S×D9 L}(h:Adv L p i a b):P a.1→P b.1:=by
 induction h with
 | done _ _=>exact id
 | live _ h2=>exact hb _ _ _ _ h2
 | imm _ h2 _ ih=>exact fun h=>ih (hb _ _ _ _ h2 h)
theorem r0G(hb:∀s i o y,L.beg s i o y→P s→P y.1)(hs:∀s c y,L.stp s c y→P s→P y.1){i:Nat}{a b:L.S×D9 L}(h:Stp L p i a b):P a.1→P b.1:=by
 cases h with
 | live _ h2=>exact hs _ _ _ h2
 | ans _ h2 h3=>exact fun h=>k0d hb h3 (hs _ _ _ h2 h)
theorem g0u(hb:∀s i o y,L.beg s i o y→P s→P y.1):∀(i:Nat) (x y:OX L),d0h (U2 L p g) i x y→P x.s→P y.s
 | 0,x,y,h,hp=>by
   have h:y=x:=h
   rw[h];exact hp
 | i+1,x,z,⟨y,h1,h2⟩,hp=>k0d hb h2.1 (g0u hb i x y h1 hp)
theorem q0s(hb:∀s i o y,L.beg s i o y→P s→P y.1)(hs:∀s c y,L.stp s c y→P s→P y.1){n M:Nat}{s t:OX L×List Nat}{i:Int}(h:d0T (U2 L p g) n M s i t)(hp:P s.1.s):P t.1.s:=by
 unfold d0T at h
 split at h
 ·exact r0G hb hs h.1.1 hp
 ·rw[h];exact hp
theorem d0g(hb:∀s i o y,L.beg s i o y→P s→P y.1)(hs:∀s c y,L.stp s c y→P s→P y.1){n M:Nat}:∀(l:List Int) (s t:OX L×List Nat),Q6 (U2 L p g) n M l s t→P s.1.s→P t.1.s
 | [],s,t,h,hp=>by
   have h:t=s:=h
   rw[h];exact hp
 | i::l,s,t,⟨u,h1,h2⟩,hp=>d0g hb hs l u t h2 (q0s hb hs h1 hp)
theorem j0F{Z:C4}{P:Z.X→Prop}{n M:Nat}(ht:∀l s t,Q6 Z n M l s t→P s.1→P t.1){s t:Z.X×List Nat}(h:b0Q Z n M s t):P s.1→P t.1:=by
 induction h with
 | done _=>exact id
 | more _ _ h3 _ ih=>exact fun hp=>ih (ht _ _ _ h3 hp)
theorem h08(hb:∀s i o y,L.beg s i o y→P s→P y.1)(hs:∀s c y,L.stp s c y→P s→P y.1){n M:Nat}{S:List Int}{x0:OX L}{t:OX L×List Nat}(h:d0X (U2 L p g) n M S x0 t)(hp:P x0.s):P t.1.s:=by
 obtain⟨x1,h1,s,h2,h3⟩:=h
 exact j0F (Z:=U2 L p g) (P:=fun x:OX L=>P x.s) (d0g hb hs) h3 (d0g hb hs _ _ _ h2 (g0u hb _ _ _ h1 hp))
end
theorem g0p{va:Option Addr}{vc:Nat}{vs:List Int}(hv:c0K w va vs)(hvc:vs.length≤vc)(hvl:vs.length<9223372036854775808)(hg:d08 w)
 {n tb o tl tc sc M:Nat} {mo:Int} {ta sa:Option Addr} {oa:Nat→Option Addr} {ol oc:Nat→Nat} {ops:Nat→List P3} {S:List Int} (hI:x8 w (fun r=>r=0) n tb o tl ta oa ol oc ops S sa) (hM:min (max mo 0) 1048576=(M:Int)) {c:Frame} {cs:List Frame} {Stop:Goroutine→World→Prop}
 (hP:∀(s:GS BPl) order,U9 n M (s,order)→(∃k,∀f,k≤f→a0K ops n M S f (bs0 vs)=(s,order))→
   ∀aa rows av oa' oc' xa xc w',e0n w n (fun i=>(s.th i).ans) (V0.nums s.q) order aa rows av (.slice oa' order.length oc') (.slice xa (V0.nums s.q).length xc) w'→
    Q4 An Tryd.prog Stop (G (c.finish (.agg #[vL aa 0 n n,.slice oa' order.length oc',.slice xa (V0.nums s.q).length xc,.bool (decide (0<L5 s.live n))])) cs) w'):
 Q4 An Tryd.prog Stop (G (Frame.enter Tryd.prog 9 #[.slice va vs.length vc,.slice ta tl tc,.slice sa S.length sc,vI mo] .normal) (c::cs)) w:=by
 have hF:∀a:Addr,¬held F0 a:=y05
 have hrow0:∀r,r<w.heap.size→(w.alloc (.cells #[.slice none 0 0,.slice none 0 0,.slice none 0 0,.bool false] 29)).heap[r]? =w.heap[r]?:=fun r hr=>D0 _ _ hr
 have hs0:(w.alloc (.cells #[.slice none 0 0,.slice none 0 0,.slice none 0 0,.bool false] 29)).heap.size=w.heap.size+1:=by simp
 have htr:S7 (w.alloc (.cells #[.slice none 0 0,.slice none 0 0,.slice none 0 0,.bool false] 29)) w.heap.size (.slice none 0 0) (.slice none 0 0) (.slice none 0 0) (.bool false):=⟨heap_alloc_new _ _⟩
 have h00:0<w.heap.size:=by
  obtain⟨_,_,_,h,_⟩:=hg
  exact(Q3 h)
 have hg1:d08 (w.alloc (.cells #[.slice none 0 0,.slice none 0 0,.slice none 0 0,.bool false] 29)):=by
  obtain⟨c0,e0,z0,h1,h2⟩:=hg
  exact⟨c0,e0,z0,(hrow0 0 h00).trans h1,h2⟩
 generalize hW0:w.alloc (.cells #[.slice none 0 0,.slice none 0 0,.slice none 0 0,.bool false] 29)=w0 at hrow0 hs0 htr hg1
 refine Z6 (F:=F0) (Stop:=fun a u=>∃A g,a=G (Frame.enter Tryd.prog 28 #[.slice ta tl tc,.func (.func 51) #[] #[vP (w.heap.size+5) 0,vP (w.heap.size+3) 0],.slice sa S.length sc,vI mo] .normal) ((bA 9 A [.inRegion (oC g0v) [4,5,6],.code h0T])::c::cs)∧
  G0 27 A [(8,vP w.heap.size 0),(9,vP (w.heap.size+2) 0)]∧BU (w.heap.size+2) (w.heap.size+5) (w.heap.size+4) (w.heap.size+3) ⟨b09 vs,w.heap.size+1,g⟩ u∧u.heap.size=w.heap.size+6∧(∀r,r<w.heap.size+1→u.heap[r]? =w0.heap[r]?))
  (w0o J1 (Nat.zero_le _) fun A hA=>?_) fun a W hS=>?_
 ·rw[hW0]
  refine q0g J1 (Nat.zero_le _) (hv.same hrow0) hvc hvl hg1 fun w1 g k1 k2 k3=>?_
  rw[hs0]at k1 k2 k3 ⊢
  exact w0p hA fun A2 hA2=>.stop fun d=>⟨A2,g,rfl,hA2,k1.same fun _ _=>rfl,k2,k3⟩
 obtain⟨A,g,rfl,hA,hQ,hWs,hWo⟩:=hS
 have hold1:∀r,r<w.heap.size→W.heap[r]? =w.heap[r]?:=fun r hr=>(hWo r (by omega)).trans (hrow0 r hr)
 have hrb1:W.heap[w.heap.size]? =some (.cells #[.slice none 0 0,.slice none 0 0,.slice none 0 0,.bool false] 29 (0,0)):=(hWo _ (by omega)).trans htr.o
 have hNr:∀r,BR (w.heap.size+2) (w.heap.size+5) (w.heap.size+4) (w.heap.size+3) ⟨b09 vs,w.heap.size+1,g⟩ r→r=0∨w.heap.size+1≤r:=fun r hr=>by
  rcases hr with rfl|rfl|rfl|rfl|rfl|rfl<;>first|(exact .inl rfl)|(refine .inr ?_;first|omega|exact Nat.le_refl _)
 have hI1:x8 W (BR (w.heap.size+2) (w.heap.size+5) (w.heap.size+4) (w.heap.size+3) ⟨b09 vs,w.heap.size+1,g⟩) n tb o tl ta oa ol oc ops S sa:=hI.later3 (by omega) hold1 fun r hr=>(hNr r hr).imp id (by omega)
 refine o0w (L:=O3 (w.heap.size+2) (w.heap.size+5) (w.heap.size+4) (w.heap.size+3)) (q0J _ _ _ _) (s0:=⟨b09 vs,w.heap.size+1,g⟩) hQ hI1 hM ?_
 intro gt p p' t u oa' oc' hgn hpn hpo hOk hrel hpn' hpo' hpa hU hord hnR hsz hkeep hpI
 obtain⟨hd,hover⟩:=n0N (ab:=m0a _ _ _ _) (q0E _ _ _ _) hOk (fun j hj=>⟨rfl,rfl⟩) hrel
 have htg:t.1.s.g=g:=h08 (L:=O3 (w.heap.size+2) (w.heap.size+5) (w.heap.size+4) (w.heap.size+3)) (P:=fun s:BS=>s.g=g) (fun s i o y h hp=>h.2.1.trans hp) (fun s c y h hp=>h.2.1.trans hp) hrel rfl
 have htw:t.1.s.wb=w.heap.size+1:=h08 (L:=O3 (w.heap.size+2) (w.heap.size+5) (w.heap.size+4) (w.heap.size+3)) (P:=fun s:BS=>s.wb=w.heap.size+1) (fun s i o y h hp=>h.1.trans hp) (fun s c y h hp=>h.1.trans hp) hrel rfl
 rw[hpo]at hover
 have hK:=hP _ _ hd hover
 have hQU:BU (w.heap.size+2) (w.heap.size+5) (w.heap.size+4) (w.heap.size+3) t.1.s u:=hU.su
 have hrb2:u.heap[w.heap.size]? =some (.cells #[.slice none 0 0,.slice none 0 0,.slice none 0 0,.bool false] 29 (0,0)):=hkeep _ _ _ _ hrb1 fun h=>by rcases hNr _ h with h|h<;>omega
 have hcnt:L5 ((U2 (O3 (w.heap.size+2) (w.heap.size+5) (w.heap.size+4) (w.heap.size+3)) p gt).liv t.1) n=L5 ((m0a _ _ _ _).x t.1).live n:=b0e fun j _=>e0S t.1 j
 rw[hcnt]
 have hnew:∀r,r≠0→OR (O3 (w.heap.size+2) (w.heap.size+5) (w.heap.size+4) (w.heap.size+3)) p' t.1 r→r0S w r:=fun r h0 hr c0 e0 z0 h=>by
  have hlt:=(Q3 h)
  exact hpI r c0 e0 z0 ((hold1 r hlt).trans h) (fun h2=>by rcases hNr r h2 with h3|h3<;>omega) (hU.inone r hr)
 obtain⟨ca,hca,hcs,hci⟩:=hU.arr
 have hlt:=(Q3 hca)
 have hlr:=(Q3 hrb2)
 have hSR0:BR (w.heap.size+2) (w.heap.size+5) (w.heap.size+4) (w.heap.size+3) t.1.s 0:=.inr (.inr (.inr (.inr (.inr rfl))))
 have hT0:∀i,i<n→∀r,TR (t.1.th i) r→r≠0:=fun i hi r hr e=>(hU.ts i (by rw[hpn'];exact hi) r hr).1 (by rw[e];exact hSR0)
 have ha0:p'.aa≠0:=fun e=>hU.sa (by rw[e];exact hSR0)
 obtain⟨q,hq⟩:∃q:V0,q=((m0a (w.heap.size+2) (w.heap.size+5) (w.heap.size+4) (w.heap.size+3)).x t.1).q:=⟨_,rfl⟩
 obtain⟨sb,hsb⟩:∃b:Bool,b=decide (0<L5 ((m0a (w.heap.size+2) (w.heap.size+5) (w.heap.size+4) (w.heap.size+3)).x t.1).live n):=⟨_,rfl⟩
 rw[← hsb]at hK ⊢
 rw[← hq]at hK
 have hqs:t.1.s.k=q:=hq.symm
 have htb:=heap_alloc_new u (.cells #[vL p.aa 0 n n,.slice oa' t.2.length oc',.slice none 0 0,.bool sb] 29)
 have htl:∀r,r<u.heap.size→(u.alloc (.cells #[vL p.aa 0 n n,.slice oa' t.2.length oc',.slice none 0 0,.bool sb] 29)).heap[r]? =u.heap[r]?:=fun r hr=>D0 _ _ hr
 have hts:(u.alloc (.cells #[vL p.aa 0 n n,.slice oa' t.2.length oc',.slice none 0 0,.bool sb] 29)).heap.size=u.heap.size+1:=by simp
 refine Z6 (F:=F0) (Stop:=fun a u2=>∃xa xc,a=G (c.finish (.agg #[vL p.aa 0 n n,.slice oa' t.2.length oc',.slice xa (V0.nums q).length xc,.bool sb])) cs∧
  e0n w n (fun i=>(((m0a (w.heap.size+2) (w.heap.size+5) (w.heap.size+4) (w.heap.size+3)).x t.1).th i).ans) (V0.nums q) t.2 p.aa (fun i=>(t.1.th i).row) (fun i=>(t.1.th i).ans) (.slice oa' t.2.length oc') (.slice xa (V0.nums q).length xc) u2)
  (w0q J1 (Nat.zero_le _) hA fun A2 hA2=>?_) fun a u2 ⟨xa,xc,ha,hu2⟩=>?_
 ·generalize u.alloc (.cells #[vL p.aa 0 n n,.slice oa' t.2.length oc',.slice none 0 0,.bool sb] 29)=U at htb htl hts ⊢
  have hUU:BU (w.heap.size+2) (w.heap.size+5) (w.heap.size+4) (w.heap.size+3) t.1.s U:=hQU.same fun r hr=>htl r (hQU.low hr)
  have hwf:BWf q:=hqs ▸ hQU.wf
  have hal:n8 (w.heap.size+2) t.1.s.wb none (fun _ _=>True) U q 0 U:=⟨⟨hwf,by have:=hUU.o;rw[← hqs];exact this,by have:=hUU.ws;rw[← hqs];exact this,hUU.tab,hUU.ne.1,hUU.ne.2.2.2.2⟩,trivial,Nat.le_refl _,fun _ _ _ _=>rfl⟩
  refine h09 (e0W true) (fun b h=>by cases h) hal (fun b h=>by cases h) (by omega) fun w1 lv _ hrow1 hnew1 hsz1 hold1'=>?_
  refine w0r hA2 fun A3 hA3=>?_
  refine i0e (by have:=p0N q hwf;omega) hrow1 fun w2 ov hrow2 hnew2 hsz2 hold2=>?_
  obtain⟨xa,xc,rfl⟩:=d0f hrow2
  have hw2U:∀r,r<U.heap.size→w2.heap[r]? =U.heap[r]?:=fun r hr=>(hold2 r (by omega)).trans (hold1' r hr (by simp))
  have hR:S7 w2 w.heap.size (.slice none 0 0) (.slice none 0 0) (.slice none 0 0) (.bool false):=⟨(hw2U _ (by omega)).trans ((htl _ hlr).trans hrb2)⟩
  have hT:S7 w2 u.heap.size (vL p.aa 0 n n) (.slice oa' t.2.length oc') (.slice none 0 0) (.bool sb):=⟨(hw2U _ (by omega)).trans htb⟩
  refine w0s (show w.heap.size≠u.heap.size by omega) hR hT (fun k=>hF _) (fun k=>hF _) hA3 (.stop fun d=>⟨xa,xc,rfl,?_⟩)
  have hlw:∀r,r<u.heap.size→w2.heap[r]? =u.heap[r]?:=fun r hr=>(hw2U _ (by omega)).trans (htl _ hr)
  have hne2:∀r,r≠w.heap.size→r≠u.heap.size→((trW (w2.setCell ⟨u.heap.size,2,none⟩ (.slice xa (V0.nums q).length xc)) w.heap.size (vL p.aa 0 n n) (.slice oa' t.2.length oc') (.slice xa (V0.nums q).length xc) (.bool sb)).at d).heap[r]? =w2.heap[r]?:=fun r hr hr2=>by
   show(trW _ _ _ _ _ _).heap[r]? =_
   unfold trW
   rw[o0 _ _ _ hr,o0 _ _ _ hr,o0 _ _ _ hr,o0 _ _ _ hr,o0 _ _ _ hr2]
  have hsz3:((trW (w2.setCell ⟨u.heap.size,2,none⟩ (.slice xa (V0.nums q).length xc)) w.heap.size (vL p.aa 0 n n) (.slice oa' t.2.length oc') (.slice xa (V0.nums q).length xc) (.bool sb)).at d).heap.size=w2.heap.size:=by
   show(trW _ _ _ _ _ _).heap.size=_
   unfold trW;simp
  generalize (trW (w2.setCell ⟨u.heap.size,2,none⟩ (.slice xa (V0.nums q).length xc)) w.heap.size (vL p.aa 0 n n) (.slice oa' t.2.length oc') (.slice xa (V0.nums q).length xc) (.bool sb)).at d=V at hne2 hsz3 ⊢
  have hty:∀(b:Nat) (c:Array Value) (e:TypeId) (z:Nat×Nat),u.heap[b]? =some (.cells c e z)→e≠29→V.heap[b]? =u.heap[b]?:=fun b cc e z hb he=>by
   have hbl:=(Q3 hb)
   rw[hne2 b (fun h=>by rw[h,hrb2]at hb;cases hb;exact he rfl) (by omega),hlw b hbl]
  have hth:∀i,i<n→f0C (O3 (w.heap.size+2) (w.heap.size+5) (w.heap.size+4) (w.heap.size+3)) p' (gt.st i) i (t.1.th i) u:=fun i hi=>hU.thr i (by rw[hpn'];exact hi)
  refine⟨by omega,fun r cc e z hr=>?_,⟨ca,?_,?_,fun i hi=>?_⟩,fun i hi=>⟨rfl,?_,?_,fun a ha=>?_⟩,?_,fun i hi r hr=>?_,fun i hi a ha r hr=>?_,fun i j hi hj hne r h1 h2=>?_,?_,?_⟩
  ·have hlt:=(Q3 hr)
   rw[hne2 r (by omega) (by omega),hlw r (by omega)]
   by_cases e0:r=0
   ·subst e0
    have h1:=hQ.g
    have h2:=hQU.g
    rw[htg]at h2
    rw[h2]
    have h3:=(hold1 0 hlt).symm.trans h1
    rw[hr]at h3
    exact h3.symm
   ·exact hkeep _ _ _ _ ((hold1 r hlt).trans hr) fun h=>by rcases hNr _ h with h|h<;>omega
  ·rw[hty _ _ _ _ (hpa ▸ hca) (by decide)]
   exact hpa ▸ hca
  ·rw[hcs,hpn']
  ·exact hci i (by rw[hpn'];exact hi)
  ·have ht:=hth i hi
   have h1:=ht.al
   have h2:=ht.kl
   rw[hpo',hI.hlen i hi]at h2
   exact Nat.le_trans (Nat.le_of_eq h1) (Nat.le_trans h2 (by omega))
  ·have hr:u.ownsRow 0 49 3 (t.1.th i).row (t.1.th i).ans.length (((t.1.th i).ans.map fun a=>a.v.cells).flatten):=(hth i hi).row
   exact T5 hr fun b cc hb _=>hty b cc _ _ hb (by decide)
  ·have h1:SAU a u:=(hth i hi).au a ha
   exact T5 h1 fun b cc hb _=>hty b cc _ _ hb (by decide)
  ·exact hnew _ (hpa ▸ ha0) (.inr (.inl hpa.symm))
  ·exact hnew _ (hT0 i hi r (.inl hr)) (.inr (.inr ⟨i,by rw[hpn'];exact hi,.inl hr⟩))
  ·exact hnew _ (hT0 i hi r (.inr (.inl ⟨a,ha,hr⟩))) (.inr (.inr ⟨i,by rw[hpn'];exact hi,.inr (.inl ⟨a,ha,hr⟩)⟩))
  ·exact hU.tt i j (by rw[hpn'];exact hi) (by rw[hpn'];exact hj) hne r (.inl h1) (.inl h2)
  ·exact j4 (by omega) (T5 hord fun b cc hb _=>hty b cc _ _ hb (by decide))
  ·have e2:V.ownsRow 0 2 1 (.slice xa (V0.nums q).length xc) (V0.nums q).length ((V0.nums q).map fun v=>vI v):=by
    refine G1 hrow2 fun b hb _=>?_
    have:=hnew2 b hb
    exact hne2 b (by omega) (by omega)
   refine⟨e2.1,?_⟩
   rcases e2.2 with h|⟨b,cap,cur,h1,h2,h3⟩
   ·exact .inl h
   ·refine .inr ⟨b,cap,cur,h1,?_,h3⟩
    have:=hnew2 b (by rw[h1];rfl)
    omega
 ·subst ha
  exact hK _ _ _ _ _ _ _ _ hu2
end
noncomputable section
variable{F:Fz}{w:World}
theorem r0H(X:World)(x y z u x' y' z' u':Value):((((X.alloc (.cells #[x,y,z,u] 29)).setCell ⟨X.heap.size,0,none⟩ x').setCell ⟨X.heap.size,1,none⟩ y').setCell ⟨X.heap.size,2,none⟩ z').setCell ⟨X.heap.size,3,none⟩ u'=X.alloc (.cells #[x',y',z',u'] 29):=by go_simp
theorem C0L(k:Int):Tryd.prog.built 44 [(0,vI k)]=some #[vI k,vI 0,vI 0,vI 0]:=by kernel_rfl
@[go_sem] theorem C0E(k:Int)(w:World):(Instr.build 44 #[(0,vI k)]).run Tryd.prog w= .ok (.agg #[vI k,vI 0,vI 0,vI 0]) w:=run_build w _ _ _ (C0L k)
@[go_sem] theorem D0P(k:Int)(w:World)(es:Array Event):(Instr.build 44 #[(0,vI k)]).events Tryd.prog w es=es:=l6 w es _ _ _ _ Tryd.underlying44 (C0L k)
def d9:Code:=Tryd.f7.body.getD .skip
def v07:=pC [] d9
def r0N:=pC [zt] d9
def v08:=pC [zf] d9
def f05:=pC [zf,zt] d9
def baws2:=pC [zf,zf] d9
theorem m0o(args:Array Value):Frame.enter Tryd.prog 7 args .normal=(Go.Conc.base 7).at {tmps:=args++Array.replicate (81 - args.size) undef,defers:=[]} [.code v07]:=enter_at args Tryd.func7 rfl
theorem m0g:O1 7:=G2 Tryd.func7 rfl rfl
def q0F(s:Nat→Value):Array Value:= #[s 0,s 1,s 2,s 3,s 4,s 5,s 6,s 7,s 8,s 9,s 10,s 11,s 12,s 13,s 14,s 15,s 16,s 17,s 18,s 19,s 20,s 21,s 22,s 23,s 24,s 25,s 26,s 27,s 28,s 29,s 30,s 31,s 32,s 33,s 34,s 35,s 36,s 37,s 38,s 39,s 40,s 41,s 42,s 43,s 44,s 45,s 46,s 47,s 48,s 49,s 50,s 51,s 52,s 53,s 54,s 55,s 56,s 57,s 58,s 59,s 60,s 61,s 62,s 63,s 64,s 65,s 66,s 67,s 68,s 69,s 70,s 71,s 72,s 73,s 74,s 75,s 76,s 77,s 78,s 79,s 80]
theorem q0G{A:Array Value}(h:A.size=81):∃s,A=q0F s:=by
 obtain⟨s,hs,_⟩:=Y4 A h
 exact⟨s,hs⟩
def awW(w:World):World:=(((((w.alloc (.cells #[vI 2] 2)).alloc (.cells #[vI 4,vI 0,vI 0,vI 0] 44)).alloc (.cells #[vI 4,vI 0,vI 0,vI 0] 44)).alloc (.cells #[vL (w.heap.size+1) 0 1 1,vL (w.heap.size+2) 0 1 1] 32)).alloc (.cells #[vI 0,vI 1,vI 0,vI 1,vI 1,vI 1] 3))
theorem y0N{n:Nat}(hU:i2 F n)(hn:n≤w.heap.size){cs:List Frame}{main:Bool}{Stop:Goroutine→World→Prop}
 (h:∀A,A.size=81→J0 Tryd.prog main F Stop (G (Frame.enter Tryd.prog 9 #[vL w.heap.size 0 1 1,vL (w.heap.size+3) 0 2 2,vL (w.heap.size+4) 0 6 6,vI 100] .normal) ((bA 7 A [.inRegion (oC f05) [7,8,9],.code baws2])::cs)) (awW w)):
 J0 Tryd.prog main F Stop (G (Frame.enter Tryd.prog 7 #[] .normal) cs) w:=by
 rw[m0o]
 walk_nrm
 refine ogW r0N v08 ?_
 simp only[oC,r0N,pC,d9,Tryd.f7,Option.getD_some,List.size_toArray,List.length_cons,List.length_nil,Nat.reduceAdd,Nat.zero_add,List.range,List.range.loop]
 refine oT ?_
 refine ogE<|ogW f05 baws2 ?_
 simp only[oC,f05,pC,d9,Tryd.f7,Option.getD_some,List.size_toArray,List.length_cons,List.length_nil,Nat.reduceAdd,Nat.zero_add,List.range,List.range.loop]
 refine oA hU ?_
 refine oT ?_
 refine oA hU ?_
 refine oT ?_
 iterate 3 refine oA hU ?_
 refine oc g0z #[vL w.heap.size 0 1 1,vL (w.heap.size+3) 0 2 2,vL (w.heap.size+4) 0 6 6,vI 100] ?_
 exact h _ rfl
theorem y0O{n:Nat}(hU:i2 F n)(hn:n≤w.heap.size){aa oa xa:Option Addr}{al ac ol oz xl xc:Nat}{st:Bool}{A:Array Value}(hsz:A.size=81){cs:List Frame}{main:Bool}{Stop:Goroutine→World→Prop}
 (h:∀A,G0 81 A [(1,vP w.heap.size 0)]→J0 Tryd.prog main F Stop (G (bA 7 A [.code baws2]) cs) (w.alloc (.cells #[.slice aa al ac,.slice oa ol oz,.slice xa xl xc,.bool st] 29))):
 J0 Tryd.prog main F Stop (G ((bA 7 A [.inRegion (oC f05) [7,8,9],.code baws2]).finish (.agg #[.slice aa al ac,.slice oa ol oz,.slice xa xl xc,.bool st])) cs) w:=by
 obtain⟨s,rfl⟩:=q0G hsz
 clear hsz
 simp only[q0F]
 rw[Frame.finish_at]
 simp only[oC,f05,pC,d9,Tryd.f7,Option.getD_some,List.size_toArray,List.length_cons,List.length_nil,Nat.reduceAdd,Nat.zero_add,List.range,List.range.loop]
 walk_nrm
 refine oA hU ?_
 (refine oW fun dd K hK=>?_;go_simp;refine hK _ _ ⟨⟨⟨0,e0L (fun k=>O4 hU (show n≤w.heap.size by omega)) _ _ _ _⟩,fun e he=>by(have hm:=mem_listed he;clear he hK;simp[go_sem,storedEv]at hm;rcases hm with rfl|rfl|rfl|rfl<;>exact U0 _ _ ((fun k=>O4 hU (show n≤w.heap.size by omega)) _))⟩,?_⟩;clear hK K;simp only[setCell_at'];refine J0.at ?_ dd)
 have e1:=r0H w (.slice none 0 0) (.slice none 0 0) (.slice none 0 0) (.bool false) (.slice aa al ac) (.slice oa ol oz) (.slice xa xl xc) (.bool st)
 rw[e1]
 clear e1
 refine ogE ?_
 refine h _ ?_
 exact⟨rfl,rfl,trivial⟩
end
section
variable{P:Program}
theorem m0T(w:World):Wf F0 w:=⟨fun r z h=>by cases h⟩
theorem m0d{fn:Func}{t:Array Value}{w:World}{τ:Tape}{e:Nat}{v:Value}(h:(results fn t).run P (retape w τ e)= .ok v (retape w τ e))(d:Nat):
 (results fn t).run P (w.at d)= .ok v (w.at d)∧∀x∈(results fn t).events P (w.at d) #[],J9 F0 x:=by
 obtain⟨w1,es,j,hu,r1,e1,t1,g1,hw1,l1⟩:=(a0i (P:=P) (F:=F0) fn t (retape w τ e) (m0T _)).ok (by rw[p6 (fun _=>rfl)];exact h)
 rw[p6 (fun _=>rfl)]at hu
 subst hu
 have hj:j=0:=by
  have:=g1.drawn
  omega
 subst hj
 have h2:=l1 (w.at d).tape (w.at d).drawn (by intro i q hi;omega)
 rw[p6 (fun _=>rfl)]at h2
 have h3:(results fn t).run P (w.at d)= .ok v (w.at d):=h2
 refine⟨h3,fun x hx=>?_⟩
 obtain⟨w2,es2,j2,hu2,r2,e2,t2,g2,hw2,l2⟩:=(a0i (P:=P) (F:=F0) fn t (w.at d) (m0T _)).ok (by rw[p6 (fun _=>rfl)];exact h3)
 rw[e2]at hx
 exact t2 x (by simpa using hx)
theorem N7{S:FuncId→Bool}(hC:Z5 P S true)(hE:P7 P){f:Nat}{fn:Func}{c:Code}(hf:P.funcs[f]? =some fn)(hb:fn.body=some c)(hc:Q5 P S true c=true){args:Array Value}{w:World}{R:Value→World→Prop}
 (H:∀τ e,Y6 P fn args (retape w τ e) R) {cl:Frame} {cs:List Frame} {main:Bool} {Stop:Goroutine→World→Prop}
 (K:∀v w' τ e,R v (retape w' τ e)→Gd F0 w w'→J0 P main F0 Stop (G (cl.finish v) cs) w'):J0 P main F0 Stop (G (Frame.enter P f args .normal) (cl::cs)) w:=by
 let b:Frame:={(default:Frame)with fn:=f,kind:=.normal}
 have henter:Frame.enter P f args .normal=b.at {tmps:=args++Array.replicate (fn.ntmps - args.size) undef,defers:=[]} [.code c]:=by
  simp[Frame.enter,Frame.at,hf,hb,b]
 rw[henter]
 have back:∀(a':Act) (w':World) (t':List Item) (τ:Tape) (e:Nat),a'.defers=[]→(∃v,(results fn a'.tmps).run P (retape (L1 F0 w') τ e)= .ok v (retape (L1 F0 w') τ e)∧∃v',Ending.returned v= .returned v'∧R v' (retape (L1 F0 w') τ e))→Gd F0 w w'→
  J0 P main F0 Stop (G {b.at a' t' with mode:=.returning} (cl::cs)) w':=fun a' w' t' τ e hd ⟨v,h1,v',h2,h3⟩ hg=>by
  cases h2
  rw[p6 (fun _=>rfl)]at h1 h3
  exact p4 rfl hd hf (fun d=>(m0d h1 d).1) (fun d x hx=>(m0d h1 d).2 x hx) (K _ _ τ e h3 hg)
 refine x0A (Q:=bodyPost P fn fun x w'=>∃v,x= .returned v∧R v w') hC (fun _ _=>rfl) hE hc (m0T w) rfl (fun e a w hq=>?_) (fun τ e=>?_) (by simp[b]) (fun a' w' τ e hq _ hg=>?_) (fun a' w' τ e t' hq _ hg=>?_)
 ·cases e with
  | normal=>exact .inl rfl
  | ret=>exact .inr ⟨rfl,hq.1⟩
  | panic ch=>obtain⟨_,v,h,_⟩:=hq;cases h
  | outgrown=>obtain⟨v,h,_⟩:=hq;cases h
  | exit _=>exact hq.elim
  | goto _=>exact hq.elim
 ·rw[p6 (fun _=>rfl)]
  exact H τ e c hb
 ·obtain⟨hd,h⟩:=hq
  have:b.at a' []=b.at ⟨a'.tmps,[]⟩ []:=by rw[← hd]
  rw[this]
  refine M0 rfl (fun d=>stepG_end) ?_
  exact back ⟨a'.tmps,[]⟩ w' [] τ e rfl h hg
 ·obtain⟨hd,h⟩:=hq
  exact back a' w' _ τ e hd h hg
def codeOkF(P:Program)(S:FuncId→Bool)(f:FuncId):Bool:=match P.funcs[f]? with
 | some fn => !(fn.name == "runtime.NumGoroutine") && match fn.body with
   | some c=>Q5 P S true c
   | none=>false
 | none=>false
theorem k0b {P : Program} {S : FuncId → Bool} {f : FuncId} (h : codeOkF P S f = true) : ∃ fn, P.funcs[f]? = some fn ∧ (fn.name == "runtime.NumGoroutine") = false ∧ ∃ c, fn.body = some c ∧ Q5 P S true c = true := by
 unfold codeOkF at h
 split at h
 ·rename_i fn hf
  rw[Bool.and_eq_true]at h
  obtain⟨h1,h2⟩:=h
  split at h2
  ·rename_i c hc
   exact⟨fn,hf,by simpa using h1,c,hc,h2⟩
  ·cases h2
 ·cases h
theorem m0l{l:List Nat}(h:l.all (codeOkF P fun f=>l.contains f)=true):Z5 P (fun f=>l.contains f) true:=fun f hf=>by
 obtain⟨fn,h1,h2,c,h3,h4⟩:=k0b (List.all_eq_true.1 h f (List.contains_iff_mem.1 hf))
 exact⟨fn,h1,h2,.inl ⟨c,h3,h4⟩⟩
theorem j0N{S:FuncId→Bool}(hC:Z5 P S true)(hE:P7 P){c:Code}(hc:Q5 P S true c=true){A:Array Value}{w:World}{R:Array Value→World→Prop}{b:Frame}{k:List Item}(hk:b.kind≠.early)
 (H:∀τ e,c.wp P (F7 fun a w=>a.defers=[]∧R a.tmps w) ⟨A,[]⟩ (retape w τ e)) {cs:List Frame} {main:Bool} {Stop:Goroutine→World→Prop}
 (K:∀A' w' τ e,R A' (retape w' τ e)→Gd F0 w w'→J0 P main F0 Stop (G (b.at ⟨A',[]⟩ k) cs) w'):J0 P main F0 Stop (G (b.at ⟨A,[]⟩ (.code c::k)) cs) w:=by
 refine x0A (Q:=F7 fun a w=>a.defers=[]∧R a.tmps w) hC (fun _ _=>rfl) hE hc (m0T w) rfl (fun e a w hq=>?_) (fun τ e=>?_) hk (fun a' w' τ e hq _ hg=>?_) (fun a' w' τ e t' hq _ hg=>?_)
 ·cases e with
  | normal=>exact .inl rfl
  | _=>exact hq.elim
 ·rw[p6 (fun _=>rfl)]
  exact H τ e
 ·obtain⟨hd,h⟩:=hq
  rw[p6 (fun _=>rfl)]at h
  obtain⟨tm,df⟩:=a'
  simp only at hd
  subst hd
  exact K tm w' τ e h hg
 ·exact hq.elim
end
section
theorem o0v{An:G3}{P:Program}{Post:Value→World→Prop}{fr:Frame}{W:World}(hA:An.Holds W)
 (hB:Q4 An P (fun g w=>g.status= .running∧∀d,∃v,stepG P true g (w.at d)= .ended (.done v) (w.at d) #[]∧(An.Holds (w.at d)→Post v (w.at d))) (G fr []) W):
 ∃M last o w' t',runNT P (M+1) (solo (G fr []) W) #[]=(.ended o w',t')∧runN P M (solo (G fr []) W)= .next last∧step P last= .ended o w'∧Go.Conc.Good P Post last o w' t':=by
 rw[solo_eq_crowd]
 obtain⟨N,gs',g',w',sl',T',q',B',hr,h0',⟨hrun,hS⟩,hL',hP',hA'⟩:=hB #[G fr []] none #[] (fun _=>0) 0 rfl (leavers_one _ _) past_nil hA
 obtain⟨K,last,o,w2,t',e1,e2,e3,e4⟩:=beside_ends (P:=P) (Post:=Post) (D:=fun _ _ es=>∀e∈es,EvL a0G B' e) (sl:=sl') (n:=0) (fun _ _ _ h=>h) h0' hL' hP' (Goes.stop fun w₂ r₂=>by
  obtain⟨d,rfl⟩:=r₂
  obtain⟨v,h1,h2⟩:=hS d
  exact⟨hrun,v,#[],h1,by simp,h2 (hA'.at d)⟩)
 refine⟨N+K,last,o,w2,t',?_,?_,e3,e4⟩
 ·rw[Nat.add_assoc,runNT_add,hr];exact e1
 ·rw[runN_add,← runNT_fst P _ _ #[],hr];exact e2
theorem o0u{W w':World}(h:(⟨W.heap.size,W⟩:G3).Holds w')(hc:∀(r:Nat) (c:Array Value) (e:TypeId) (z:Nat×Nat),W.heap[r]? =some (.cells c e z)→w'.heap[r]? =some (.cells c e z)):Below W.heap.size W w':=by
 refine⟨h.os,h.tape,h.output,h.low,fun r hr=>?_⟩
 obtain⟨o,ho⟩:∃o,W.heap[r]? =some o:=⟨_,Array.getElem?_eq_getElem hr⟩
 by_cases e:∃c e z,o= .cells c e z
 ·obtain⟨c,e,z,rfl⟩:=e
  rw[hc r c e z ho,ho]
 ·rw[h.obj r o hr ho fun c e1 z e2=>e ⟨c,e1,z,e2⟩,ho]
section
variable{An:G3}{W:World}
def g0M(W:World)(v:Value)(w':World):Prop:=v= .bool true∧∀(r:Nat) (c:Array Value) (e:TypeId) (z:Nat×Nat),W.heap[r]? =some (.cells c e z)→w'.heap[r]? =some (.cells c e z)
def l0b(An:G3)(Post:Value→World→Prop)(g:Goroutine)(w:World):Prop:=g.status= .running∧∀d,∃v,stepG Tryd.prog true g (w.at d)= .ended (.done v) (w.at d) #[]∧(An.Holds (w.at d)→Post v (w.at d))
end
theorem Tryd.own:ownKnob Tryd.prog.godebug=none:=by kernel_rfl
theorem Tryd.laidOut:laidOutB Tryd.prog=true:=by kernel_rfl
end
section
structure a0E(P:Program)(f:FuncId):Prop where
 e : ∃ fn, P.funcs[f]? = some fn ∧ (fn.name == "runtime.NumGoroutine") = false ∧ fn.body = none ∧ Extern.findNext fn = none ∧ ∃ x, Extern.find fn = some x ∧ u0j P true x
theorem a0b{P:Program}{l x:List Nat}(hx:∀f∈x,a0E P f)(h:l.all (fun f=>x.contains f || codeOkF P (fun f=>l.contains f) f)=true):Z5 P (fun f=>l.contains f) true:=fun f hf=>by
 have h1:=List.all_eq_true.1 h f (List.contains_iff_mem.1 hf)
 rw[Bool.or_eq_true]at h1
 rcases h1 with h1|h1
 ·obtain⟨fn,a1,a2,a3,a4,y,a5,a6⟩:=(hx f (List.contains_iff_mem.1 h1)).e
  exact⟨fn,a1,a2,.inr ⟨a3,a4,y,a5,a6⟩⟩
 ·obtain⟨fn,a1,a2,c,a3,a4⟩:=k0b h1
  exact⟨fn,a1,a2,.inl ⟨c,a3,a4⟩⟩
theorem Y6.mono{P:Program}{fn:Func}{args:Array Value}{w:World}{R R':Value→World→Prop}(h:Y6 P fn args w R)(hr:∀v u,R v u→R' v u):Y6 P fn args w R':=fun c hc=>by
 refine Code.wp_mono (fun e a u hq=>?_) (h c hc)
 cases e with
 | normal=>obtain⟨h1,v,h2,v',h3,h4⟩:=hq;exact⟨h1,v,h2,v',h3,hr _ _ h4⟩
 | ret=>obtain⟨h1,v,h2,v',h3,h4⟩:=hq;exact⟨h1,v,h2,v',h3,hr _ _ h4⟩
 | panic ch=>obtain⟨h1,v',h3,h4⟩:=hq;exact⟨h1,v',h3,hr _ _ h4⟩
 | outgrown=>obtain⟨v',h3,h4⟩:=hq;exact⟨v',h3,hr _ _ h4⟩
 | exit _=>exact hq
 | goto _=>exact hq
end
section
variable{An:G3}{w w' w0:World}
def C9(w w':World):Prop:=w.heap.size≤w'.heap.size∧∀(r:Nat) (c:Array Value) (e:TypeId) (z:Nat×Nat),w.heap[r]? =some (.cells c e z)→w'.heap[r]? =some (.cells c e z)
theorem C9.refl(w:World):C9 w w:=⟨Nat.le_refl _,fun _ _ _ _ h=>h⟩
theorem C9.trans{a b c:World}(h1:C9 a b)(h2:C9 b c):C9 a c:=⟨Nat.le_trans h1.1 h2.1,fun r x e z h=>h2.2 r x e z (h1.2 r x e z h)⟩
theorem C9.of(h1:w.heap.size≤w'.heap.size)(h2:∀r,r<w.heap.size→w'.heap[r]? =w.heap[r]?):C9 w w':=⟨h1,fun r c e z h=>(h2 r (Q3 h)).trans h⟩
theorem d08.keep(h:d08 w)(k:C9 w w'):d08 w':=by
 obtain⟨c,e,z,h1,h2⟩:=h
 exact⟨c,e,z,k.2 _ _ _ _ h1,h2⟩
theorem f0F{m:Pl}{ops:Nat→List P3}{n M:Nat}:∀(f:Nat) (s:GS m×List Nat),U9 n M (Z3 ops n M f s)→∀e,f≤e→Z3 ops n M e s=Z3 ops n M f s:=by
 intro f
 induction f with
 | zero=>
   intro s h e _
   exact a8 h e
 | succ f ih=>
   intro s h e he
   by_cases hd:U9 n M s
   ·rw[a8 hd,a8 hd]
   ·obtain⟨e,rfl⟩:∃k,e=k+1:=⟨e - 1,by omega⟩
    simp only[Z3,if_neg hd]at h ⊢
    exact ih _ h e (by omega)
theorem i0N{m:Pl}{ops:Nat→List P3}{n M:Nat}{S:List Int}{s:GS m}{f0:Nat}(hd:U9 n M (a0K ops n M S f0 s))(t:GS m×List Nat)(h:∃k,∀f,k≤f→a0K ops n M S f s=t):t=a0K ops n M S f0 s:=by
 obtain⟨k,hk⟩:=h
 rw[← hk (max k f0) (by omega)]
 exact f0F f0 _ hd _ (by omega)
theorem V1{X:World}{k:Nat}{c:Array Value}{e:TypeId}(h:X.heap[k]? =some (.cells c e (0,0))){j:Nat}{v:Value}(hv:c[j]? =some v):X.cell? ⟨k,j,none⟩=some v∧X.frozen? ⟨k,j,none⟩=false:=⟨by simp only[World.cell?,h];simpa using hv,by simp[World.frozen?,h]⟩
theorem v06{u:World}{N:Nat→Prop}{b0 b1 bt bs:Nat}(n0:¬N b0)(n1:¬N b1)(ns:¬N bs){k1 a1 x1 y1 k2 a2 x2 y2:Int}{S:List Int}(h0:u.heap[b0]? =some (.cells #[vI k1,vI a1,vI x1,vI y1] 44 (0,0)))(h1:u.heap[b1]? =some (.cells #[vI k2,vI a2,vI x2,vI y2] 44 (0,0)))(ht:u.heap[bt]? =some (.cells #[vL b0 0 1 1,vL b1 0 1 1] 32 (0,0)))(hs:u.heap[bs]? =some (.cells (S.map fun i:Int=>Value.int .i64 i).toArray 3 (0,0)))(hl:S.length<100):
 x8 u N 2 bt 0 2 (some ⟨bt,0,none⟩) (fun i=>some ⟨if i=0 then b0 else b1,0,none⟩) (fun _=>1) (fun _=>1) (fun i=>if i=0 then[⟨k1,a1,x1,y1⟩]else if i=1 then[⟨k2,a2,x2,y2⟩]else[]) S (some ⟨bs,0,none⟩):=by
 refine⟨rfl,fun _=>rfl,fun _=>(Q3 ht),fun j hj=>?_,fun j hj=>?_,fun j hj k x hx=>?_,by omega,fun _=>⟨_,_,_,_,_,rfl,ns,hs,fun k v hv=>⟨by rw[Nat.zero_add];simpa using hv,by simp⟩⟩⟩
 ·have:j=0∨j=1:=by omega
  rcases this with rfl|rfl
  ·exact⟨(V1 ht rfl).1,(V1 (j:=0) ht rfl).2,Nat.le_refl _⟩
  ·exact⟨(V1 ht rfl).1,(V1 (j:=1) ht rfl).2,Nat.le_refl _⟩
 ·have:j=0∨j=1:=by omega
  rcases this with rfl|rfl<;>rfl
 ·have:j=0∨j=1:=by omega
  rcases this with rfl|rfl
  ·have hk:k=0:=by
    have:=(List.getElem?_eq_some_iff.1 hx).1
    simp at this
    omega
   subst hk
   obtain rfl:(⟨k1,a1,x1,y1⟩:P3)=x:=by simpa using hx
   exact⟨_,_,rfl,n0,(V1 h0 rfl).1,(V1 h0 rfl).1,(V1 h0 rfl).1,(V1 h0 rfl).1,(V1 (j:=0) h0 rfl).2,(V1 (j:=1) h0 rfl).2,(V1 (j:=2) h0 rfl).2,(V1 (j:=3) h0 rfl).2⟩
  ·have hk:k=0:=by
    have:=(List.getElem?_eq_some_iff.1 hx).1
    simp at this
    omega
   subst hk
   obtain rfl:(⟨k2,a2,x2,y2⟩:P3)=x:=by simpa using hx
   exact⟨_,_,rfl,n1,(V1 h1 rfl).1,(V1 h1 rfl).1,(V1 h1 rfl).1,(V1 h1 rfl).1,(V1 (j:=0) h1 rfl).2,(V1 (j:=1) h1 rfl).2,(V1 (j:=2) h1 rfl).2,(V1 (j:=3) h1 rfl).2⟩
theorem t0x{u:World}{vb:Nat}{vs:List Int}(h:u.heap[vb]? =some (.cells (vs.map fun i:Int=>Value.int .i64 i).toArray 2 (0,0))):c0K u (some ⟨vb,0,none⟩) vs:=fun i x hx=>⟨vb,0,rfl,by
 rw[Nat.zero_add]
 exact(V1 h (by simp[hx])).1⟩
structure AwT(u:World)(T:Nat):Prop where
 t:∃aa oa oc xa xc g0 p0 g1 p1,u.cell? ⟨T,0,none⟩=some (vL aa 0 2 2)∧u.cell? ⟨T,1,none⟩=some (.slice oa 6 oc)∧u.cell? ⟨T,2,none⟩=some (vL xa 0 2 xc)∧u.cell? ⟨T,3,none⟩=some (.bool false)∧u.cell? ⟨aa,0,none⟩=some (vL g0 0 1 p0)∧u.cell? ⟨aa,1,none⟩=some (vL g1 0 1 p1)∧u.cell? ⟨g0,1,none⟩=some (vI 0)∧u.cell? ⟨g1,1,none⟩=some (vI 1)∧u.cell? ⟨g1,0,none⟩=some (.bool true)∧u.cell? ⟨xa,1,none⟩=some (vI 1)
theorem AwT.heap{u u':World}{T:Nat}(h:AwT u T)(e:u'.heap=u.heap):AwT u' T:=by
 obtain⟨t⟩:=h
 refine⟨?_⟩
 simpa only[World.cell?,e]using t
theorem n0c{u:World}{ans:Nat→List g7}{state:List Int}{order:List Nat}{aa:Nat}{rows:Nat→Value}{av:Nat→List SA}{ov sv:Value}(h:e0n w 2 ans state order aa rows av ov sv u){i:Nat}(hi:i<2){ok:Bool}{n1:Int}(ha:ans i=[(ok,n1,[])]):∃g p,rows i=vL g 0 1 p∧u.cell? ⟨g,0,none⟩=some (.bool ok)∧u.cell? ⟨g,1,none⟩=some (vI n1):=by
 obtain⟨r1,r2,r3,r4⟩:=h.row i hi
 rw[ha]at r1
 obtain⟨sa,hsa⟩:∃sa,av i=[sa]:=by
  cases hq:av i with
  | nil=>rw[hq]at r1;cases r1
  | cons x t=>
    cases t with
    | nil=>exact⟨x,rfl⟩
    | cons y t=>rw[hq]at r1;simp at r1
 rw[hsa]at r1 r3 r4
 have r1:sa.an=(ok,n1,[]):=by simpa using r1
 obtain⟨an,la,ll,lc⟩:=sa
 simp only at r1
 subst r1
 have r3:u.ownsRow 0 49 3 (rows i) (0+1) (SA.v ⟨(ok,n1,[]),la,ll,lc⟩).cells:=by simpa using r3
 obtain⟨g,cap,hg⟩:=j5 r3
 have hcells:(SA.v ⟨(ok,n1,[]),la,ll,lc⟩).cells=[.bool ok,vI n1,.slice la ll lc]:=rfl
 rw[hcells]at r3
 obtain⟨b,cp,e1,g0⟩:=M5 (k:=0) r3 rfl
 obtain⟨b2,cp2,e2,g2⟩:=M5 (k:=1) r3 rfl
 rw[hg]at e1 e2
 cases e1
 cases e2
 exact⟨g,cap,hg,g0.c,g2.c⟩
theorem t0y{u u':World}{ans:Nat→List g7}{order:List Nat}{aa:Nat}{rows:Nat→Value}{av:Nat→List SA}{oa xa:Option Addr}{oc xc:Nat}(h:e0n w 2 ans [0,1] order aa rows av (.slice oa order.length oc) (.slice xa ([0,1]:List Int).length xc) u)(h0:ans 0=[(true,0,[])])(h1:ans 1=[(true,1,[])])(ho6:order.length=6)
 (hT:u'.heap=(u.alloc (.cells #[vL aa 0 2 2,.slice oa order.length oc,.slice xa ([0,1]:List Int).length xc,.bool false] 29)).heap):AwT u' u.heap.size:=by
 have hn:u'.heap[u.heap.size]? =some (.cells #[vL aa 0 2 2,.slice oa order.length oc,.slice xa ([0,1]:List Int).length xc,.bool false] 29 (0,0)):=by rw[hT];exact heap_alloc_new _ _
 have ho:∀r,r<u.heap.size→u'.heap[r]? =u.heap[r]?:=fun r hr=>by rw[hT];exact D0 _ _ hr
 have hc:∀{a:Addr} {v:Value},u.cell? a=some v→u'.cell? a=some v:=fun{a v} h=>by
  obtain⟨c,e,z,hb⟩:=M3 h
  rw[← h];unfold World.cell?;simp only[ho _ (Q3 hb)]
 obtain⟨c,a1,a2,a3⟩:=h.arr
 obtain⟨g0,p0,e0,c00,c01⟩:=n0c h (i:=0) (by decide) h0
 obtain⟨g1,p1,e1,c10,c11⟩:=n0c h (i:=1) (by decide) h1
 obtain⟨bx,cx,ex,x1⟩:=M5 (k:=1) h.st rfl
 cases ex
 refine⟨aa,oa,oc,bx,xc,g0,p0,g1,p1,(V1 hn rfl).1,?_,(V1 hn rfl).1,(V1 hn rfl).1,hc ?_,hc ?_,hc c01,hc c11,hc c10,hc x1.c⟩
 ·rw[← ho6];exact(V1 hn rfl).1
 ·have:=a3 0 (by decide)
  rw[e0]at this
  exact(V1 a1 this).1
 ·have:=a3 1 (by decide)
  rw[e1]at this
  exact(V1 a1 this).1
theorem q0h{P:Program}{S:FuncId→Bool}(hC:Z5 P S true)(hE:P7 P){c:Code}(hc:Q5 P S true c=true){A:Array Value}{w:World}{R:Array Value→World→Prop}{b:Frame}{k:List Item}(hk:b.kind≠.early)
 (H:∀τ e,c.wp P (fun x a w=>x= .ret∧a.defers=[]∧R a.tmps w) ⟨A,[]⟩ (retape w τ e)) {cs:List Frame} {main:Bool} {Stop:Goroutine→World→Prop}
 (K:∀A' w' τ e t',R A' (retape w' τ e)→Gd F0 w w'→J0 P main F0 Stop (G {b.at ⟨A',[]⟩ (.code .ret::t')with mode:=.returning} cs) w'):J0 P main F0 Stop (G (b.at ⟨A,[]⟩ (.code c::k)) cs) w:=by
 refine x0A (Q:=fun x a w=>x= .ret∧a.defers=[]∧R a.tmps w) hC (fun _ _=>rfl) hE hc (m0T w) rfl (fun e a w hq=>.inr ⟨hq.1,hq.2.1⟩) (fun τ e=>?_) hk (fun a' w' τ e hq _ hg=>?_) (fun a' w' τ e t' hq _ hg=>?_)
 ·rw[p6 (fun _=>rfl)]
  exact H τ e
 ·exact absurd hq.1 (by simp)
 ·obtain⟨_,hd,h⟩:=hq
  rw[p6 (fun _=>rfl)]at h
  obtain⟨tm,df⟩:=a'
  simp only at hd
  subst hd
  exact K tm w' τ e t' h hg
theorem o07:Z5 Tryd.prog (fun f=>([]:List Nat).contains f) true:=a0b (x:=[]) (fun f h=>by cases h) (by kernel_rfl)
theorem q0C{T:Nat}(h:AwT w T){A:Array Value}(hA:G0 81 A [(1,vP T 0)]):
 baws2.wp Tryd.prog (fun x a u=>x= .ret∧a.defers=[]∧(a.tmps.getD 0 undef= .bool true∧u.heap=w.heap)) ⟨A,[]⟩ w:=by
 obtain⟨s,rfl,h1,_⟩:=Y3 q0F hA
 obtain⟨aa,oa,oc,xa,xc,g0,p0,g1,p1,c1,c2,c3,c4,c5,c6,c7,c8,c9,c10⟩:=h.t
 clear h
 simp only[baws2,d9,pC,Tryd.f7,Option.getD_some,q0F,h1,List.append_eq,List.append,List.cons_append,List.nil_append]
 clear h1
 go_wp2
theorem m0f(hg:d08 w){c:Frame}{cs:List Frame}{Stop:Goroutine→World→Prop}(K:∀w',C9 w w'→Q4 An Tryd.prog Stop (G (c.finish (.bool true)) cs) w'):
 Q4 An Tryd.prog Stop (G (Frame.enter Tryd.prog 7 #[] .normal) (c::cs)) w:=by
 refine Z6 (F:=F0) (Stop:=fun a u=>∃A,A.size=81∧u.heap=(awW w).heap∧a=G (Frame.enter Tryd.prog 9 #[vL w.heap.size 0 1 1,vL (w.heap.size+3) 0 2 2,vL (w.heap.size+4) 0 6 6,vI 100] .normal) ((bA 7 A [.inRegion (oC f05) [7,8,9],.code baws2])::c::cs))
  (y0N J1 (Nat.zero_le _) fun A hA=>.stop fun d=>⟨A,hA,rfl,rfl⟩) fun a u ⟨A,hA,hu,ha⟩=>?_
 subst ha
 have h00:0<w.heap.size:=by
  obtain⟨_,_,_,h,_⟩:=hg
  exact(Q3 h)
 have k1:C9 w u:=by
  refine .of (by rw[hu];simp[awW];omega) fun r hr=>?_
  rw[hu]
  simp only[awW]
  rw[D0 _ _ (by simp;omega),D0 _ _ (by simp;omega),D0 _ _ (by simp;omega),D0 _ _ (by simp;omega),D0 _ _ hr]
 have hsz:∀(X:World) (k:Nat) (o:Obj),X.heap.size=k→(X.alloc o).heap[k]? =some o:=fun X k o e=>by rw[← e];exact heap_alloc_new _ _
 have b0:u.heap[w.heap.size]? =some (.cells (([2]:List Int).map fun i:Int=>Value.int .i64 i).toArray 2 (0,0)):=by
  rw[hu]
  simp only[awW]
  rw[D0 _ _ (by simp;try omega),D0 _ _ (by simp;try omega),D0 _ _ (by simp;try omega),D0 _ _ (by simp)]
  exact hsz _ _ _ (by simp)
 have b1:u.heap[w.heap.size+1]? =some (.cells #[vI 4,vI 0,vI 0,vI 0] 44 (0,0)):=by
  rw[hu]
  simp only[awW]
  rw[D0 _ _ (by simp;try omega),D0 _ _ (by simp;try omega),D0 _ _ (by simp;try omega)]
  exact hsz _ _ _ (by simp)
 have b2:u.heap[w.heap.size+2]? =some (.cells #[vI 4,vI 0,vI 0,vI 0] 44 (0,0)):=by
  rw[hu]
  simp only[awW]
  rw[D0 _ _ (by simp;try omega),D0 _ _ (by simp;try omega)]
  exact hsz _ _ _ (by simp)
 have b3:u.heap[w.heap.size+3]? =some (.cells #[vL (w.heap.size+1) 0 1 1,vL (w.heap.size+2) 0 1 1] 32 (0,0)):=by
  rw[hu]
  simp only[awW]
  rw[D0 _ _ (by simp;try omega)]
  exact hsz _ _ _ (by simp)
 have b4:u.heap[w.heap.size+4]? =some (.cells (([0,1,0,1,1,1]:List Int).map fun i:Int=>Value.int .i64 i).toArray 3 (0,0)):=by
  rw[hu]
  simp only[awW]
  exact hsz _ _ _ (by simp)
 clear hu
 refine g0p (va:=some ⟨w.heap.size,0,none⟩) (vs:=[2]) (S:=[0,1,0,1,1,1]) (t0x b0) (by decide) (by decide) (hg.keep k1) (v06 (by omega) (by omega) (by omega) b1 b2 b3 b4 (by decide)) (M:=100) rfl fun s order hd hk aa rows av oa' oc' xa xc u1 hP=>?_
 obtain⟨rfl,rfl⟩:s=awE.1∧order=awE.2:=by
  have:=i0N n0b (s,order) hk
  exact⟨congrArg Prod.fst this,congrArg Prod.snd this⟩
 have hl:decide (0<L5 awE.1.live 2)=false:=by decide +kernel
 rw[hl]
 rw[t0w]at hP ⊢
 have t1:∀u',u'.heap=(u1.alloc (.cells #[vL aa 0 2 2,.slice oa' awE.2.length oc',.slice xa ([0,1]:List Int).length xc,.bool false] 29)).heap→AwT u' u1.heap.size:=fun u' e=>t0y hP t0u t0v (by rw[q0B];rfl) e
 have k2:C9 u u1:=⟨hP.size,hP.old⟩
 clear hk hd b0 b1 b2 b3 b4 hP
 refine Z6 (F:=F0) (Stop:=fun a u2=>a=G (c.finish (.bool true)) cs∧u1.heap.size≤u2.heap.size∧∀r,r<u1.heap.size→u2.heap[r]? =u1.heap[r]?)
  (y0O J1 (Nat.zero_le _) hA fun A hA=>?_) fun a u2 ⟨ha,hs2,ho2⟩=>?_
 ·have q1:=t1 _ rfl
  have ho:∀r,r<u1.heap.size→(u1.alloc (.cells #[vL aa 0 2 2,.slice oa' awE.2.length oc',.slice xa ([0,1]:List Int).length xc,.bool false] 29)).heap[r]? =u1.heap[r]?:=fun r hr=>D0 _ _ hr
  have hz:(u1.alloc (.cells #[vL aa 0 2 2,.slice oa' awE.2.length oc',.slice xa ([0,1]:List Int).length xc,.bool false] 29)).heap.size=u1.heap.size+1:=by simp
  generalize u1.alloc (.cells #[vL aa 0 2 2,.slice oa' awE.2.length oc',.slice xa ([0,1]:List Int).length xc,.bool false] 29)=V at q1 ho hz ⊢
  refine q0h o07 F6 (by kernel_rfl) (by decide) (R:=fun A u=>A.getD 0 undef= .bool true∧u.heap=V.heap) (fun τ e=>q0C (w:=retape V τ e) (q1.heap rfl) hA) fun A2 w2 τ e t' hR hgd=>?_
  obtain⟨r1,r2⟩:=hR
  rw[Array.getD_eq_getD_getElem?]at r1
  have r2:w2.heap=V.heap:=r2
  refine p4 (fn:=Tryd.f7) (v:=.bool true) rfl rfl Tryd.func7 (fun d=>by simp[results,Tryd.f7,go_sem,r1]) (fun d e he=>by simp[results,Tryd.f7,go_sem,r1]at he) (.stop fun d=>⟨rfl,?_,fun r hr=>?_⟩)
  ·show _≤w2.heap.size
   rw[r2];omega
  ·show w2.heap[r]? =_
   rw[r2];exact ho r hr
 ·subst ha
  exact K u2 (k1.trans (k2.trans (.of hs2 ho2)))
end
section
variable{w w':World}
theorem j0g{ab:Nat}{b:Bool}{n:Int}:(d09 w ab b n).heap.size=w.heap.size:=by unfold d09;simp
theorem v0o{ab:Nat}{b:Bool}{v:Value}:(m08 w ab b v).heap.size=w.heap.size:=by unfold m08;simp
abbrev opV(o:P3):Value:=.agg #[vI o.kd,vI o.a,vI o.b,vI o.c]
end
section
inductive Al:V0→p9→V0→g7→Nat→Prop
 | done {s s':V0} {c:p9} {a:g7}:s.step c=(s',.inr a)→Al s c s' a 1
 | more {s s' s2:V0} {c c':p9} {a:g7} {n:Nat}:s.step c=(s',.inl c')→Al s' c' s2 a n→Al s c s2 a (n+1)
theorem Al.det{s s1 s2:V0}{c:p9}{a1 a2:g7}{n1 n2:Nat}(h:Al s c s1 a1 n1)(k:Al s c s2 a2 n2):s1=s2∧a1=a2∧n1=n2:=by
 induction h generalizing s2 a2 n2 with
 | done h=>
   cases k with
   | done k=>rw[h]at k;cases k;exact⟨rfl,rfl,rfl⟩
   | more k _=>rw[h]at k;cases k
 | more h _ ih=>
   cases k with
   | done k=>rw[h]at k;cases k
   | more k k2=>
     rw[h]at k;cases k
     obtain⟨e1,e2,e3⟩:=ih k2
     exact⟨e1,e2,by rw[e3]⟩
theorem Al.wf{s s1:V0}{c:p9}{a:g7}{n:Nat}(h:Al s c s1 a n):s1.ws.length=s.ws.length∧s1.n=s.n:=by
 induction h with
 | @done s s' c a h=>
   have:=x9 s c
   rw[h]at this
   exact this
 | @more s s' s2 c c' a n h _ ih=>
   have:=x9 s c
   rw[h]at this
   exact⟨ih.1.trans this.1,ih.2.trans this.2⟩
section
variable{sv:Value}{main:Bool}{sb:Option Nat}{m lb wb:Nat}{X:Nat→World→Prop}{k:V0}{w w0:World}
theorem z0x(hwf:BWf k){i:Nat}(hi:i<k.n):∀j,k.n≤i / 64*64+j→(k.wd (i / 64) ^^^ bitI i).getLsbD j=false:=fun j hj=>by
 rw[BitVec.getLsbD_xor,hwf.hi _ _ hj,U8]
 simp
 omega
theorem q0p(S:R7 sv main sb X)(hsb:Apt lb wb sb)(h:n8 lb wb sb X w0 k m w)(hm:m+2000<4611686018427387904){i:Nat}(hi:i<k.n){c:Frame}{cs:List Frame}{Stop:Goroutine→World→Prop}
 (K:∀w' b n k',Al k ⟨1,0,i,i / 64,0#64,[]⟩ k' (true,if b=true then 1 else 0,[]) n→n≤1200→n8 lb wb sb X w0 k' (m+n) w'→w'.heap.size=w.heap.size→J0 Tryd.prog main F0 Stop (G (c.finish (.tuple #[.bool b,vI 0])) cs) w'):
 J0 Tryd.prog main F0 Stop (G (Frame.enter Tryd.prog 18 #[vP lb 0,sv,vI (i:Nat)] .normal) (c::cs)) w:=by
 have hk:i / 64<k.ws.length:=by rw[h.u.wf.l];omega
 refine t0q fun A1 hA1=>u0I h.u.bh hi fun A hA=>S.tick m w _ _ _ h.x (by omega) fun w1 hx hs1 ho1=>?_
 have h1:=h.tick hsb hx hs1 ho1
 have hc:=h1.u.wc hk
 cases e:(k.wd (i / 64)).getLsbD (i % 64)with
 | true=>exact o0O hc ((b0s _ _).trans e) rfl hA (g0R hA1 (K w1 false 1 k (.done (by simp[V0.step,V0.one,e])) (by omega) h1 hs1))
 | false=>
   refine o0P hc ((b0s _ _).trans e) rfl hA fun A' hA'=>S.tick (m+1) w1 _ _ _ hx (by omega) fun w2 hx2 hs2 ho2=>?_
   have h2:=h1.tick hsb hx2 hs2 ho2
   exact o0S (c0i _ (bitI i)) ((b0X _ _).trans (decide_eq_true rfl)) (h2.u.wc hk) (h2.u.ws.z _) (y05 _) hA' (g0R hA1 (K _ true 2 {k with ws:=k.ws.set (i / 64) (k.wd (i / 64) ^^^ bitI i)} (.more (s':=k) (c':=⟨1,1,i,i / 64,k.wd (i / 64),[]⟩) (by simp[V0.step,V0.one,e]) (.done (by simp[V0.step,V0.one]))) (by omega) (h2.setW S hsb (z0x h.u.wf hi)) (by rw[World.size_setCell,hs2,hs1])))
theorem m0P(S:R7 sv main sb X)(hsb:Apt lb wb sb)(h:n8 lb wb sb X w0 k m w)(hm:m+2000<4611686018427387904){i:Nat}(hi:i<k.n){c:Frame}{cs:List Frame}{Stop:Goroutine→World→Prop}
 (K:∀w' b n k',Al k ⟨2,0,i,i / 64,0#64,[]⟩ k' (true,if b=true then 1 else 0,[]) n→n≤1200→n8 lb wb sb X w0 k' (m+n) w'→w'.heap.size=w.heap.size→J0 Tryd.prog main F0 Stop (G (c.finish (.tuple #[.bool b,vI 0])) cs) w'):
 J0 Tryd.prog main F0 Stop (G (Frame.enter Tryd.prog 19 #[vP lb 0,sv,vI (i:Nat)] .normal) (c::cs)) w:=by
 have hk:i / 64<k.ws.length:=by rw[h.u.wf.l];omega
 refine v0g fun A1 hA1=>u0I h.u.bh hi fun A hA=>S.tick m w _ _ _ h.x (by omega) fun w1 hx hs1 ho1=>?_
 have h1:=h.tick hsb hx hs1 ho1
 have hc:=h1.u.wc hk
 cases e:(k.wd (i / 64)).getLsbD (i % 64)with
 | false=>exact o0O hc ((b0s _ _).trans e) rfl hA (h0x hA1 (K w1 false 1 k (.done (by simp[V0.step,V0.one,e])) (by omega) h1 hs1))
 | true=>
   refine o0P hc ((b0s _ _).trans e) rfl hA fun A' hA'=>S.tick (m+1) w1 _ _ _ hx (by omega) fun w2 hx2 hs2 ho2=>?_
   have h2:=h1.tick hsb hx2 hs2 ho2
   exact o0S (c0i _ (bitI i)) ((b0X _ _).trans (decide_eq_true rfl)) (h2.u.wc hk) (h2.u.ws.z _) (y05 _) hA' (h0x hA1 (K _ true 2 {k with ws:=k.ws.set (i / 64) (k.wd (i / 64) ^^^ bitI i)} (.more (s':=k) (c':=⟨2,1,i,i / 64,k.wd (i / 64),[]⟩) (by simp[V0.step,V0.one,e]) (.done (by simp[V0.step,V0.one]))) (by omega) (h2.setW S hsb (z0x h.u.wf hi)) (by rw[World.size_setCell,hs2,hs1])))
theorem q0m(S:R7 sv main sb X)(hsb:Apt lb wb sb)(h:n8 lb wb sb X w0 k m w)(hm:m+2000<4611686018427387904){i:Nat}(hi:i<k.n){c:Frame}{cs:List Frame}{Stop:Goroutine→World→Prop}
 (K:∀w' b n k',Al k ⟨3,0,i,i / 64,0#64,[]⟩ k' (true,if b=true then 1 else 0,[]) n→n≤1200→n8 lb wb sb X w0 k' (m+n) w'→w'.heap.size=w.heap.size→J0 Tryd.prog main F0 Stop (G (c.finish (.tuple #[.bool b,vI 0])) cs) w'):
 J0 Tryd.prog main F0 Stop (G (Frame.enter Tryd.prog 20 #[vP lb 0,sv,vI (i:Nat)] .normal) (c::cs)) w:=by
 have hk:i / 64<k.ws.length:=by rw[h.u.wf.l];omega
 refine x0w h.u.bh hi fun A hA=>S.tick m w _ _ _ h.x (by omega) fun w1 hx hs1 ho1=>?_
 have h1:=h.tick hsb hx hs1 ho1
 have hc:=h1.u.wc hk
 obtain⟨b,e⟩:∃b,(k.wd (i / 64)).getLsbD (i % 64)=b:=⟨_,rfl⟩
 exact t0o h1.u.bh hi hc ((l0y _ _).trans e) hA (K w1 b 1 k (.done (by simp[V0.step,V0.one,e])) (by omega) h1 hs1)
theorem c0R(S:R7 sv main sb X)(hsb:Apt lb wb sb){n0:Nat}{c:Frame}{cs:List Frame}{Stop:Goroutine→World→Prop}{k0:V0}{m0:Nat}(hm:m0+3000<4611686018427387904)
 (K1:∀w' v n k',Al k0 ⟨4,0,0,0,0#64,[]⟩ k' (true,v,[]) n→n≤1200→n8 lb wb sb X w0 k' (m0+n) w'→w'.heap.size=n0→J0 Tryd.prog main F0 Stop (G (c.finish (.tuple #[vI v,vI 0])) cs) w')
 (hl0:k0.ws.length≤1024) {d kk j:Nat} {w1:World} {A:Array Value} (hkk:kk+d+1=k0.ws.length) (hAl:∀k' a n,Al k0 ⟨4,0,0,kk,0#64,[]⟩ k' a n→Al k0 ⟨4,0,0,0,0#64,[]⟩ k' a (kk+n)) (h1:n8 lb wb sb X w0 k0 (m0+kk+1) w1) (hz:w1.heap.size=n0) (hx:X (m0+kk+1) w1) (e:G4 k0.n kk (k0.wd kk)=some j)
 (hA:G0 55 A [(0,vP lb 0),(1,sv),(6,vI (kk:Nat))]):
 J0 Tryd.prog main F0 Stop (G ((bA 45 A [.inRegion (oC s6) [1],.code R9,.inBlock 1,.inLoop a0m,.inBlock 0,.code B8]).finish (.tuple #[])) (c::cs)) w1:=by
 have hk:kk<k0.ws.length:=by omega
 have hc0:=h1.u.wc hk
 have hkn:64*kk≤k0.n:=by have:=h1.u.wf.l;omega
 obtain⟨q1,q2,q3,q4,q5⟩:=b0P e
 have hf:k0.wd kk≠c0I k0.n kk:=fun h=>by rw[(g0H hkn (h1.u.hz kk)).1 h]at e;cases e
 refine w01 h1.u.bh hk hc0 ((b0X _ _).trans (decide_eq_false hf)) h1.u.t q5 (v0z _) hA fun A' hA'=>S.tick _ w1 _ _ _ hx (by omega) fun w2 hx2 hs2 ho2=>?_
 have h2:=h1.tick hsb hx2 hs2 ho2
 have hS1:G0 55 A' [(0,vP lb 0),(1,sv),(6,vI (kk:Nat)),(7,wV (k0.wd kk)),(8,vI (j:Nat))]:=by
  have:=hA'
  rw[← q4]
  exact this
 have hb:bitI j=1#64 <<< j:=by unfold bitI;rw[Nat.mod_eq_of_lt q1]
 have hbb:IntKind.u64.wrap (2 ^ j)=((bitI j).toNat:Int):=by
  have:=e0e j
  rw[Int.one_mul]at this
  rw[hb];exact this
 have hz3:∀q,k0.n≤kk*64+q→(k0.wd kk ||| bitI j).getLsbD q=false:=fun q hq=>by
  rw[BitVec.getLsbD_or,h1.u.wf.hi _ _ hq,U8,Nat.mod_eq_of_lt q1]
  simp;omega
 refine w02 h2.u.bh hk q1 hbb (l01 (k0.wd kk) (bitI j)) ((b0X _ _).trans (decide_eq_true rfl)) (h2.u.wc hk) (h2.u.ws.z _) (y05 _) hS1 ?_
 refine K1 _ _ (kk+2) {k0 with ws:=k0.ws.set kk (k0.wd kk ||| bitI j)} (hAl _ _ _ (.more (s':=k0) (c':=⟨4,1,0,kk,k0.wd kk,[]⟩) (by simp[V0.step,V0.claim,e]) (.done ?_))) (by omega) (h2.setW S hsb hz3) (by rw[World.size_setCell,hs2,hz])
 simp[V0.step,V0.claim,e]
 omega
theorem i0u(S:R7 sv main sb X)(hsb:Apt lb wb sb){n0:Nat}{c:Frame}{cs:List Frame}{Stop:Goroutine→World→Prop}{k0:V0}{m0:Nat}(hm:m0+3000<4611686018427387904)
 (K1:∀w' v n k',Al k0 ⟨4,0,0,0,0#64,[]⟩ k' (true,v,[]) n→n≤1200→n8 lb wb sb X w0 k' (m0+n) w'→w'.heap.size=n0→J0 Tryd.prog main F0 Stop (G (c.finish (.tuple #[vI v,vI 0])) cs) w')
 (K2:∀w' n k',Al k0 ⟨4,0,0,0,0#64,[]⟩ k' (false,0,[]) n→n≤1200→n8 lb wb sb X w0 k' (m0+n) w'→w'.heap.size=n0→J0 Tryd.prog main F0 Stop (G (c.finish (.tuple #[vI 0,vI 3])) cs) w') (hl0:k0.ws.length≤1024):
 ∀(d kk:Nat) (w:World) (A:Array Value),kk+d+1=k0.ws.length→(∀k' a n,Al k0 ⟨4,0,0,kk,0#64,[]⟩ k' a n→Al k0 ⟨4,0,0,0,0#64,[]⟩ k' a (kk+n))→n8 lb wb sb X w0 k0 (m0+kk) w→w.heap.size=n0→G0 55 A [(0,vP lb 0),(1,sv),(6,vI (kk:Nat))]→
  J0 Tryd.prog main F0 Stop (G (Frame.enter Tryd.prog 48 #[sv] .normal) ((bA 45 A [.inRegion (oC s6) [1],.code R9,.inBlock 1,.inLoop a0m,.inBlock 0,.code B8])::c::cs)) w:=by
 intro d
 induction d with
 | zero=>
   intro kk w A hkk hAl h hz hA
   refine S.tick _ w _ _ _ h.x (by omega) fun w1 hx hs1 ho1=>?_
   have h1:=h.tick hsb hx hs1 ho1
   have hk:kk<k0.ws.length:=by omega
   have hc0:=h1.u.wc hk
   have hkn:64*kk≤k0.n:=by have:=h.u.wf.l;omega
   cases e:G4 k0.n kk (k0.wd kk)with
   | none=>
     have hf:=(g0H hkn (h1.u.hz kk)).2 e
     exact w0Z h1.u.bh hk hc0 ((b0X _ _).trans (decide_eq_true hf)) (by omega) hA (K2 w1 (kk+1) k0 (hAl _ _ _ (.done (by simp[V0.step,V0.claim,e];omega))) (by omega) h1 (hs1.trans hz))
   | some j=>exact c0R (d:=k0.ws.length - kk - 1) S hsb hm K1 hl0 (by omega) hAl h1 (hs1.trans hz) hx e hA
 | succ d ih=>
   intro kk w A hkk hAl h hz hA
   refine S.tick _ w _ _ _ h.x (by omega) fun w1 hx hs1 ho1=>?_
   have h1:=h.tick hsb hx hs1 ho1
   have hk:kk<k0.ws.length:=by omega
   have hc0:=h1.u.wc hk
   have hkn:64*kk≤k0.n:=by have:=h.u.wf.l;omega
   cases e:G4 k0.n kk (k0.wd kk)with
   | none=>
     have hf:=(g0H hkn (h1.u.hz kk)).2 e
     refine w0Y h1.u.bh hk hc0 ((b0X _ _).trans (decide_eq_true hf)) (by omega) hA fun A' hA'=>?_
     refine ih (kk+1) w1 A' (by omega) (fun k' a n hA2=>?_) h1 (hs1.trans hz) hA'
     have:=hAl k' a (n+1) (.more (s':=k0) (c':=⟨4,0,0,kk+1,0#64,[]⟩) (by simp[V0.step,V0.claim,e];omega) hA2)
     rw[show kk+1+n=kk+(n+1)by omega]
     exact this
   | some j=>exact c0R (d:=k0.ws.length - kk - 1) S hsb hm K1 hl0 (by omega) hAl h1 (hs1.trans hz) hx e hA
theorem m0B(S:R7 sv main sb X)(hsb:Apt lb wb sb)(h:n8 lb wb sb X w0 k m w)(hm:m+3000<4611686018427387904)(h0:0<k.ws.length){c:Frame}{cs:List Frame}{Stop:Goroutine→World→Prop}
 (K1:∀w' v n k',Al k ⟨4,0,0,0,0#64,[]⟩ k' (true,v,[]) n→n≤1200→n8 lb wb sb X w0 k' (m+n) w'→w'.heap.size=w.heap.size→J0 Tryd.prog main F0 Stop (G (c.finish (.tuple #[vI v,vI 0])) cs) w')
 (K2:∀w' n k',Al k ⟨4,0,0,0,0#64,[]⟩ k' (false,0,[]) n→n≤1200→n8 lb wb sb X w0 k' (m+n) w'→w'.heap.size=w.heap.size→J0 Tryd.prog main F0 Stop (G (c.finish (.tuple #[vI 0,vI 3])) cs) w'):
 J0 Tryd.prog main F0 Stop (G (Frame.enter Tryd.prog 45 #[vP lb 0,sv] .normal) (c::cs)) w:=
 y0S h.u.bh h0 fun A hA=>i0u S hsb hm K1 K2 (by have:=h.u.wf.l;have:=h.u.wf.n;omega) (k.ws.length - 1) 0 w A (by omega) (fun _ _ n hA=>by rw[Nat.zero_add];exact hA) h rfl hA
theorem z04(h6:k.ws.length≤1024){kd:Nat}(hkd:kd=5∨kd=6):∀(d kk:Nat),kk+d+1=k.ws.length→Al k ⟨kd,0,0,kk,0#64,k.numsTo kk⟩ k (if kd=5 then(true,(k.nums.length:Int),[])else(true,0,k.nums)) (d+1):=by
 intro d
 induction d with
 | zero=>
   intro kk hkk
   refine .done ?_
   have e:kk+1=k.ws.length:=by omega
   have e2:k.numsTo kk++X3 k.n kk (k.wd kk)=k.nums:=by rw[← a0F,e,W9]
   have h4:kd≠4:=by omega
   simp only[V0.step,if_neg h4,if_pos hkd,V0.look,if_pos e,e2]
 | succ d ih=>
   intro kk hkk
   have e:¬kk+1=k.ws.length:=by omega
   have h4:kd≠4:=by omega
   refine .more (s':=k) (c':=⟨kd,0,0,kk+1,0#64,k.numsTo (kk+1)⟩) ?_ (ih (kk+1) (by omega))
   simp only[V0.step,if_neg h4,if_pos hkd,V0.look,if_neg e,← a0F]
theorem m0N(h6:k.ws.length≤1024)(h0:0<k.ws.length){kd:Nat}(hkd:kd=5∨kd=6):Al k ⟨kd,0,0,0,0#64,[]⟩ k (if kd=5 then(true,(k.nums.length:Int),[])else(true,0,k.nums)) k.ws.length:=by
 have:=z04 h6 hkd (k.ws.length - 1) 0 (by omega)
 rw[show k.ws.length - 1+1=k.ws.length by omega]at this
 exact this
end
end
section
variable{F:Fz}{w:World}
theorem C0n{ab gb go l lc i:Nat}{ov:Value}{u:Int}{xs:List Int}{nn:Nat}(hU:i2 F nn)(hn:nn≤w.heap.size)(hn2:nn≤gb)(hwf:Wf F w)(hc:w.cell? ⟨gb,go+i,none⟩=some (vI u))(hz:w.frozen? ⟨gb,go+i,none⟩=false)(hgb:gb<w.heap.size)(hne:some gb≠ov.ownBlock)(hi:i<l)(hl:l≤70000)(hx:xs.length≤70000)(hrow:w.ownsRow 0 2 1 ov xs.length (xs.map fun v=>vI v))(hF:∀b,ov.ownBlock=some b→F b=none){A:Array Value}(hA:G0 95 A [(6,vP ab 0),(9,ov),(10,vL gb go l lc),(11,vI (i:Nat))]){cs:List Frame}{main:Bool}{Stop:Goroutine→World→Prop}
 (h:∀ov' w' A,e0r 2 F w w' ov ov' xs u→G0 95 A [(6,vP ab 0),(9,ov'),(10,vL gb go l lc),(11,vI (i+1:Nat))]→J0 Tryd.prog main F Stop (G (bA 15 A [.inRegion (oC w6) [0,1,2,3],.code g9,.code s8,.inLoop p8,.inBlock 1,.code a04,.inBlock 0,.code Z2]) cs) (w'.setCell ⟨gb,go+i,none⟩ (vI (-5)))):
 J0 Tryd.prog main F Stop (G (bA 15 A [.inRegion (oC w6) [0,1,2,3],.code g9,.code s8,.inLoop p8,.inBlock 1,.code a04,.inBlock 0,.code Z2]) cs) w:=by
 obtain⟨s,rfl,h6,h9,h10,h11,_⟩:=Y3 H5 hA
 simp only[H5,h6,h9,h10,h11]
 clear h6 h9 h10 h11
 have hd:decide ((i:Int)<(l:Int))=true:=by simp;omega
 have hd2:decide (i<l)=true:=by simp;omega
 have hin:(i:Int)<(l:Int):=by omega
 have hk64:IntKind.i64.wrap ((i:Int)+1)=(i:Int)+1:=IntWalk.i64_in _ (by omega)
 simp only[oC,w6,pC,T0,Tryd.f15,Option.getD_some,List.size_toArray,List.length_cons,List.length_nil,Nat.reduceAdd,Nat.zero_add,List.range,List.range.loop]
 iterate 4 refine oT ?_
 refine ogE<|ogYn .skip<|ogK<|ogV v0X j09 ?_
 rw[A0S]
 refine L7<|ogW y0i k0a ?_
 simp only[oC,y0i,pC,T0,Tryd.f15,Option.getD_some,List.size_toArray,List.length_cons,List.length_nil,Nat.reduceAdd,Nat.zero_add,List.range,List.range.loop]
 iterate 3 refine oT ?_
 refine oX ?_
 refine oL ?_
 refine oA hU ?_
 refine S8 (s:=.tmp 82) (x:=.tmp 87) (t:=22) (e:=2) (sz:=1) (bytes:=8) (news:=[vI u]) (m:=1) (c:=1) (ad:=⟨w.heap.size,0,none⟩) Tryd.underlying22 i8 (by decide) rfl rfl (by decide) rfl (hwf.of_grew (Y0 hU hn _)) (v:=ov) rfl rfl (hrow.alloc _) hF rfl (c0b (X:=w) (l:=[vI u]) rfl) (by intro q hq;simp at hq;subst hq;rfl) (by unfold maxLen;omega) (by omega) fun ov' w' g1 g2 g3 g4 g5=>?_
 have hg:e0r 2 F w w' ov ov' xs u:=⟨by rw[List.map_append];exact g1,g2,by simp at g3;omega,fun q hq hne=>by rw[g4 q (by simp;omega) hne,D0 _ _ hq],g5.imp_right fun⟨g,h1,h2⟩=>⟨g,h1,by simp at h2;omega⟩⟩
 have hc2:=(F1 (j:=go+i) (hg.old gb hgb hne)).1.trans hc
 have hz2:=(F1 (j:=go+i) (hg.old gb hgb hne)).2.trans hz
 clear g1 g2 g3 g4 g5 hrow hwf hc hz
 walk_nrm
 refine oT ?_
 refine ogE ?_
 rw[z0V]
 refine ogR ?_
 simp only[oC,k0a,pC,T0,Tryd.f15,Option.getD_some,List.size_toArray,List.length_cons,List.length_nil,Nat.reduceAdd,Nat.zero_add,List.range,List.range.loop]
 iterate 2 refine oT ?_
 refine oX ?_
 (refine oW fun dd K hK=>?_;go_simp;refine qS hK hU ?_ (he:=by(intro e he;have hm:=mem_listed he;simp[go_sem,storedEv,hc2,hz2]at hm;exact hm));clear hK K)
 refine ogE<|ogI ?_
 rw[z0U]
 refine ogR ?_
 simp only[oC,j09,pC,T0,Tryd.f15,Option.getD_some,List.size_toArray,List.length_cons,List.length_nil,Nat.reduceAdd,Nat.zero_add,List.range,List.range.loop]
 iterate 3 refine oT ?_
 refine ogE<|ogL<|ogV m00 s8<|ogW w6 g9 ?_
 simp only[oC,w6,pC,T0,Tryd.f15,Option.getD_some,List.size_toArray,List.length_cons,List.length_nil,Nat.reduceAdd,Nat.zero_add,List.range,List.range.loop]
 refine h ov' w' _ hg ?_
 exact⟨rfl,rfl,rfl,rfl,rfl,trivial⟩
end
noncomputable section
variable{F:Fz}{w:World}
def r0I:Code:=Tryd.f86.body.getD .skip
def s0S:=pC [] r0I
theorem A00:s0S= .region 0 (oC s0S) false:=by kernel_rfl
theorem v0N(args:Array Value):Frame.enter Tryd.prog 86 args .normal=(Go.Conc.base 86).at {tmps:=args++Array.replicate (9 - args.size) undef,defers:=[]} [.code s0S]:=enter_at args Tryd.func86 rfl
theorem q0k:O1 86:=G2 Tryd.func86 rfl rfl
theorem z02{a:Addr}{v:Option Value}(h:w.cell? a=v)(d:Nat):(w.at d).cell? a=v:=h
theorem z03{a:Addr}{v:Bool}(h:w.frozen? a=v)(d:Nat):(w.at d).frozen? a=v:=h
theorem z0Z (a : Addr) (w : World) : (callMethod (.iface 40 (.pointer (some a))) "Step" #[]).run Tryd.prog w = .ok (.enter 86 #[.pointer (some a)]) w := by kernel_rfl
theorem z0v (a : Addr) (w : World) (es : Array Event) : (callMethod (.iface 40 (.pointer (some a))) "Step" #[]).events Tryd.prog w es = es := by kernel_rfl
def kcK:StK:=⟨40,86,q0k,z0Z,z0v⟩
theorem z0B{sb:Nat}{m:Int}(hc:w.cell? ⟨sb,0,none⟩=some (vI m))(hz:w.frozen? ⟨sb,0,none⟩=false)(hnh:¬held F ⟨sb,0,none⟩){c:Frame}{cs:List Frame}{main:Bool}{Stop:Goroutine→World→Prop}(h:J0 Tryd.prog main F Stop (G (c.finish (.tuple #[])) cs) (w.setCell ⟨sb,0,none⟩ (vI (IntKind.i64.wrap (m+1))))):
 J0 Tryd.prog main F Stop (G (Frame.enter Tryd.prog 86 #[vP sb 0] .normal) (c::cs)) w:=by
 rw[v0N]
 walk_nrm
 rw[A00]
 refine ogR ?_
 simp only[oC,s0S,pC,r0I,Tryd.f86,Option.getD_some,List.size_toArray,List.length_cons,List.length_nil,Nat.reduceAdd,Nat.zero_add,List.range,List.range.loop]
 iterate 3 refine oT ?_
 refine oL ?_
 iterate 3 refine oT ?_
 (refine oW fun dd K hK=>?_;have hc0:=(z02 (w:=w) hc dd);have hz0:=(z03 (w:=w) hz dd);go_simp;refine hK _ _ ⟨⟨⟨0,E0 rfl hnh _⟩,fun e he=>by(have hm:=mem_listed he;clear he hK;simp[go_sem,storedEv,hc0,hz0]at hm;subst hm;exact U0 _ _ hnh)⟩,?_⟩;clear hK K hc0 hz0;rw[setCell_at'];refine J0.at ?_ dd)
 refine ogE ?_
 refine M0 rfl (fun d=>stepG_end) ?_
 refine M0 rfl (fun d=>stepG_leave (fn:=Tryd.f86) (v:=.tuple #[]) rfl rfl Tryd.func86 (by simp[results,Tryd.f86]) (by simp[results,Tryd.f86,go_sem])) ?_
 exact h
def z0R(z:Int)(sb m:Nat)(w:World):Prop:=w.heap[sb]? =some (.cells #[vI (IntKind.i64.wrap (z+(m:Int)))] 42 (0,0))
theorem j02(z:Int)(m:Nat):IntKind.i64.wrap (IntKind.i64.wrap (z+(m:Int))+1)=IntKind.i64.wrap (z+((m+1:Nat):Int)):=by
 simp only[IntWalk.i64_left,wrap64]
 omega
theorem C0p(main:Bool)(z:Int)(sb:Nat):R7 (.iface 40 (vP sb 0)) main (some sb) (z0R z sb) where
 tick:=fun m w c cs Stop hx hm K=>M2 (K:=kcK) (z0B (by simp[World.cell?,show w.heap[sb]? =_ from hx];rfl) (by simp[World.frozen?,show w.heap[sb]? =_ from hx]) (y05 _) (v4 (K:=kcK) (K _ (by
  have hx:w.heap[sb]? =_:=hx
  show(w.setCell ⟨sb,0,none⟩ _).heap[sb]? =_
  rw[U1 hx,← j02];rfl) (World.size_setCell _ _ _) fun r hr=>o0 _ _ _ fun e=>hr (by rw[e]))))
 keep:=fun m w w' hx he=>by
  have hx:w.heap[sb]? =_:=hx
  show w'.heap[sb]? =_
  rw[he sb rfl (Q3 hx)]
  exact hx
def B3(k:V0)(o:P3)(k':V0)(a:g7)(n:Nat):Prop:=match(k.begin o).2 with
 | .inr x=>k'=k∧a=x∧n=0
 | .inl c=>Al k c k' a n
section
variable{main:Bool}{sb m lb wb:Nat}{X:Nat→World→Prop}{k:V0}
theorem n8.fin3{sv:Value}{W2 w' w3:World}(S:R7 sv main (some sb) X)(h:n8 lb wb (some sb) X W2 k m w')(hl:lb<w.heap.size∧wb<w.heap.size∧0<w.heap.size)(hsl:sb<w.heap.size)(hs:w.heap.size≤W2.heap.size)(ho2:∀r,r<w.heap.size→W2.heap[r]? =w.heap[r]?)(hs3:w'.heap.size≤w3.heap.size)(ho3:∀r,r<w.heap.size→w3.heap[r]? =w'.heap[r]?):n8 lb wb (some sb) X w k m w3:=
 ⟨h.u.same (ho3 _ hl.1) (ho3 _ hl.2.1) (ho3 _ hl.2.2),S.keep m _ _ h.x (fun b hb _=>by cases hb;exact ho3 _ hsl),by have:=h.sz;omega,fun r hr h1 h2=>(ho3 r hr).trans ((h.o r (by omega) h1 h2).trans (ho2 r hr))⟩
theorem m0C(x:g7)(hx:x.2.2=[]):SAU ⟨x,none,0,0⟩ w:=by
 unfold SAU
 rw[hx]
 exact World.ownsRow_nil _ _ _ _
structure CW(w W:World):Prop where
 s:W.heap.size=w.heap.size+2
 o:∀r,r<w.heap.size→W.heap[r]? =w.heap[r]?
 a:W.heap[w.heap.size+1]? =some (.cells #[.bool false,vI 0,.slice none 0 0] 49 (0,0))
theorem CW.of(w:World)(x:Obj):CW w ((w.alloc x).alloc (.cells #[.bool false,vI 0,.slice none 0 0] 49)):=
 ⟨by simp,fun r hr=>by rw[D0 _ _ (by simp;omega),D0 _ _ hr],B0t _ _ _ _⟩
theorem CW.al{sv:Value}{W:World}(S:R7 sv main (some sb) X)(h:n8 lb wb (some sb) X w k m w)(hsl:sb<w.heap.size)(c:CW w W):n8 lb wb (some sb) X W k m W:=by
 have hl:=h.u.low
 exact⟨h.u.same (c.o _ hl.1) (c.o _ hl.2.1) (c.o _ hl.2.2),S.keep m _ _ h.x (fun b hb _=>by cases hb;exact c.o _ hsl),Nat.le_refl _,fun _ _ _ _=>rfl⟩
theorem CW.ans{W w':World}{k':V0}{m':Nat}(c:CW w W)(hl:wb<w.heap.size)(hsl:sb<w.heap.size)(h:n8 lb wb (some sb) X W k' m' w'):s9 w' (w.heap.size+1):=
 ⟨_,_,_,(h.o _ (by rw[c.s];omega) (fun e=>by cases e;omega) (by omega)).trans c.a⟩
theorem s9.more{w:World}{ab:Nat}(h:s9 w ab)(x:Obj):s9 (w.alloc x) ab:=by
 obtain⟨a,b,c,h⟩:=h.o
 exact⟨a,b,c,by rw[D0 _ _ (Q3 h)];exact h⟩
theorem z0y{w1:World}{xs:List Int}(hl:xs.length≤70000){gb lc ab:Nat}(hgb:gb<w1.heap.size){cs:List Frame}{Stop:Goroutine→World→Prop}
 (K:∀u acc A,w1.heap.size≤u.heap.size→(∀r,r<w1.heap.size→r≠gb→u.heap[r]? =w1.heap[r]?)→u.ownsRow 0 2 1 acc xs.length (xs.map fun v=>vI v)→(∀g,acc.ownBlock=some g→w1.heap.size≤g)→G0 95 A [(6,vP ab 0),(9,acc),(10,vL gb 0 xs.length lc),(11,vI (xs.length:Nat))]→
   J0 Tryd.prog main F0 Stop (G (bA 15 A [.inRegion (oC w6) [0,1,2,3],.code g9,.code s8,.inLoop p8,.inBlock 1,.code a04,.inBlock 0,.code Z2]) cs) u):
 ∀(d i:Nat) (u:World) (acc:Value) (A cur:Array Value),i+d=xs.length→w1.heap.size≤u.heap.size→(∀r,r<w1.heap.size→r≠gb→u.heap[r]? =w1.heap[r]?)→u.heap[gb]? =some (.cells cur 3 (0,0))→(∀j,i≤j→j<xs.length→cur[j]? =some (vI (xs.getD j 0)))→u.ownsRow 0 2 1 acc (xs.take i).length ((xs.take i).map fun v=>vI v)→(∀g,acc.ownBlock=some g→w1.heap.size≤g)→
  G0 95 A [(6,vP ab 0),(9,acc),(10,vL gb 0 xs.length lc),(11,vI (i:Nat))]→J0 Tryd.prog main F0 Stop (G (bA 15 A [.inRegion (oC w6) [0,1,2,3],.code g9,.code s8,.inLoop p8,.inBlock 1,.code a04,.inBlock 0,.code Z2]) cs) u:=by
 intro d
 induction d with
 | zero=>
   intro i u acc A cur hi hs ho hg hc hrow hblk hA
   have e:i=xs.length:=by omega
   subst e
   rw[List.take_length]at hrow
   exact K u acc A hs ho hrow hblk hA
 | succ d ih=>
   intro i u acc A cur hi hs ho hg hc hrow hblk hA
   have hil:i<xs.length:=by omega
   have hci:=hc i (Nat.le_refl _) hil
   have hne:some gb≠acc.ownBlock:=fun e=>by have:=hblk gb e.symm;omega
   refine C0n (go:=0) (xs:=xs.take i) (u:=xs.getD i 0) J1 (Nat.zero_le _) (Nat.zero_le _) (m0T _) (by rw[Nat.zero_add];simp[World.cell?,hg,hci]) (by simp[World.frozen?,hg]) (by omega) hne hil hl (by rw[List.length_take];omega) hrow (fun _ _=>rfl) hA fun ov' w' A' hG hA'=>?_
   have hg':=hG.old gb (by omega) hne
   rw[hg]at hg'
   have hnb:∀g,ov'.ownBlock=some g→w1.heap.size≤g:=fun g hg2=>by
    rcases hG.blk with e|⟨g',e,h2⟩
    ·exact hblk g (e ▸ hg2)
    ·rw[e]at hg2;cases hg2;omega
   have et:xs.take (i+1)=xs.take i++[xs.getD i 0]:=by
    rw[List.take_add_one,List.getElem?_eq_getElem hil]
    simp[List.getD,hil]
   refine ih (i+1) _ ov' A' (cur.setIfInBounds (0+i) (vI (-5))) (by omega) (by rw[World.size_setCell];have:=hG.size;omega) (fun r hr h1=>?_) (by rw[U1 (o:=0+i) hg']) (fun j h1 h2=>?_) ?_ hnb hA'
   ·rw[o0 _ _ _ h1]
    exact(hG.old r (by omega) (fun e=>by have:=hblk r e.symm;omega)).trans (ho r hr h1)
   ·rw[Array.getElem?_setIfInBounds_ne (by omega)]
    exact hc j (by omega) h2
   ·rw[et,List.length_append,List.length_singleton]
    exact G1 hG.row fun g hg2 _=>o0 _ _ _ (show g≠gb by have:=hnb g hg2;omega)
theorem v0R(S:R7 (.iface 40 (vP sb 0)) main (some sb) X)(hsb:Apt lb wb (some sb))(h:n8 lb wb (some sb) X w k m w)(hsl:sb<w.heap.size)(hm:m+4000<4611686018427387904){o:P3}{c:Frame}{cs:List Frame}{Stop:Goroutine→World→Prop}
 (K:∀w' k' a n la ll lc,B3 k o k' a n→n8 lb wb (some sb) X w k' (m+n) w'→SAU ⟨a,la,ll,lc⟩ w'→(∀g,(Value.slice la ll lc).ownBlock=some g→w.heap.size≤g)→J0 Tryd.prog main F0 Stop (G (c.finish (.agg #[.bool a.1,vI a.2.1,.slice la ll lc])) cs) w'):
 J0 Tryd.prog main F0 Stop (G (Frame.enter Tryd.prog 15 #[vP lb 0,vP sb 0,opV o] .normal) (c::cs)) w:=by
 obtain⟨kd,a,b,c0⟩:=o
 have hl:=h.u.low
 have hn6:=h.u.wf.n
 have hnh:∀j,¬held F0 ⟨w.heap.size+1,j,none⟩:=fun j=>y05 _
 have fin1:∀(W w':World) (k':V0) (n:Nat) (ok:Bool) (v:Int) (x:Obj),CW w W→n8 lb wb (some sb) X W k' (m+n) w'→B3 k ⟨kd,a,b,c0⟩ k' (ok,v,[]) n→J0 Tryd.prog main F0 Stop (G (c.finish (.agg #[.bool ok,vI v,.slice none 0 0])) cs) (d09 (w'.alloc x) (w.heap.size+1) ok v):=fun W w' k' n ok v x hc hB hO=>
  K _ k' (ok,v,[]) n none 0 0 hO (hB.fin3 S hl hsl (by rw[hc.s];omega) hc.o (by rw[j0g];simp) fun r hr=>by rw[f03 (by omega),D0 _ _ (by have:=hB.sz;have:=hc.s;omega)]) (m0C _ rfl) (fun g hg=>by simp[Value.ownBlock]at hg)
 have fin2:∀(W w':World) (k':V0) (n:Nat) (ok:Bool) (v:Int),CW w W→n8 lb wb (some sb) X W k' (m+n) w'→B3 k ⟨kd,a,b,c0⟩ k' (ok,v,[]) n→J0 Tryd.prog main F0 Stop (G (c.finish (.agg #[.bool ok,vI v,.slice none 0 0])) cs) (d09 w' (w.heap.size+1) ok v):=fun W w' k' n ok v hc hB hO=>
  K _ k' (ok,v,[]) n none 0 0 hO (hB.fin3 S hl hsl (by rw[hc.s];omega) hc.o (by rw[j0g];exact Nat.le_refl _) fun r hr=>by rw[f03 (by omega)]) (m0C _ rfl) (fun g hg=>by simp[Value.ownBlock]at hg)
 obtain⟨v,hv⟩:∃v,v=(if(1073741824:Int)<(if a< -1 then -1 else a)then 1073741824 else(if a< -1 then -1 else a)):=⟨_,rfl⟩
 have hv1:a<0→v<0:=fun h=>by rw[hv];split<;>split<;>omega
 have hv2:¬a<0→¬v<0:=fun h=>by rw[hv];split<;>split<;>omega
 have hv3:(k.n:Int)≤a→(k.n:Int)≤v:=fun h=>by rw[hv];split<;>split<;>omega
 have hv4:¬a<0→¬(k.n:Int)≤a→v=((a.toNat:Nat):Int):=fun h h2=>by rw[hv];split<;>split<;>omega
 have hbad:(kd=1∨kd=2∨kd=3)→(a<0∨(k.n:Int)≤a)→B3 k ⟨kd,a,b,c0⟩ k (false,0,[]) 0:=fun h1 h2=>by
  have:k.begin ⟨kd,a,b,c0⟩=(k,.inr (false,0,[])):=by simp only[V0.begin,if_pos h1,if_pos h2]
  unfold B3
  rw[this]
  exact⟨rfl,rfl,rfl⟩
 have hgood:(kd=1∨kd=2∨kd=3)→¬a<0→¬(k.n:Int)≤a→(k.begin ⟨kd,a,b,c0⟩).2= .inl ⟨kd.toNat,0,a.toNat,a.toNat / 64,0#64,[]⟩:=fun h1 h2 h3=>by
  simp only[V0.begin,if_pos h1,if_neg (not_or.2 ⟨h2,h3⟩)]
 simp only[opV]
 by_cases k1:kd=1
 ·subst k1
  refine B0k J1 (Nat.zero_le _) fun A hA=>f0s ?_
  rw[← hv]
  refine B0q hA fun A hA=>?_
  have hc:=CW.of w (.cells #[vI 1,vI a,vI b,vI c0] 44)
  generalize (w.alloc (.cells #[vI 1,vI a,vI b,vI c0] 44)).alloc (.cells #[.bool false,vI 0,.slice none 0 0] 49)=W at hc ⊢
  have aW:=hc.al S h hsl
  by_cases q1:a<0
  ·exact t0q fun A1 hA1=>o03 (hv1 q1) (g0R hA1 (z0s hA fun A hA=>f0A J1 (Nat.zero_le _) (r0p ((hc.ans hl.2.1 hsl aW).more _) hnh hA (fin1 W W k 0 false 0 _ hc aW (hbad (.inl rfl) (.inl q1))))))
  by_cases q2:(k.n:Int)≤a
  ·exact t0q fun A1 hA1=>o02 aW.u.bh (hv2 q1) (hv3 q2) (g0R hA1 (z0s hA fun A hA=>f0A J1 (Nat.zero_le _) (r0p ((hc.ans hl.2.1 hsl aW).more _) hnh hA (fin1 W W k 0 false 0 _ hc aW (hbad (.inl rfl) (.inr q2))))))
  rw[hv4 q1 q2]
  refine q0p S hsb aW (by omega) (by omega) fun w' b' n k' hAl hn hB hz=>z0s hA fun A hA=>?_
  have hO:B3 k ⟨1,a,b,c0⟩ k' (true,if b'=true then 1 else 0,[]) n:=by
   unfold B3
   rw[hgood (.inl rfl) q1 q2]
   exact hAl
  cases b' with
  | true=>exact q0D J1 (Nat.zero_le _) (r0p ((hc.ans hl.2.1 hsl hB).more _) hnh hA (fin1 W w' k' n true 1 _ hc hB hO))
  | false=>exact q0w J1 (Nat.zero_le _) (r0p ((hc.ans hl.2.1 hsl hB).more _) hnh hA (fin1 W w' k' n true 0 _ hc hB hO))
 by_cases k2:kd=2
 ·subst k2
  refine B0l J1 (Nat.zero_le _) fun A hA=>f0s ?_
  rw[← hv]
  refine B0w hA fun A hA=>?_
  have hc:=CW.of w (.cells #[vI 2,vI a,vI b,vI c0] 44)
  generalize (w.alloc (.cells #[vI 2,vI a,vI b,vI c0] 44)).alloc (.cells #[.bool false,vI 0,.slice none 0 0] 49)=W at hc ⊢
  have aW:=hc.al S h hsl
  by_cases q1:a<0
  ·exact v0g fun A1 hA1=>o03 (hv1 q1) (h0x hA1 (z0t hA fun A hA=>f0A J1 (Nat.zero_le _) (r0s ((hc.ans hl.2.1 hsl aW).more _) hnh hA (fin1 W W k 0 false 0 _ hc aW (hbad (.inr (.inl rfl)) (.inl q1))))))
  by_cases q2:(k.n:Int)≤a
  ·exact v0g fun A1 hA1=>o02 aW.u.bh (hv2 q1) (hv3 q2) (h0x hA1 (z0t hA fun A hA=>f0A J1 (Nat.zero_le _) (r0s ((hc.ans hl.2.1 hsl aW).more _) hnh hA (fin1 W W k 0 false 0 _ hc aW (hbad (.inr (.inl rfl)) (.inr q2))))))
  rw[hv4 q1 q2]
  refine m0P S hsb aW (by omega) (by omega) fun w' b' n k' hAl hn hB hz=>z0t hA fun A hA=>?_
  have hO:B3 k ⟨2,a,b,c0⟩ k' (true,if b'=true then 1 else 0,[]) n:=by
   unfold B3
   rw[hgood (.inr (.inl rfl)) q1 q2]
   exact hAl
  cases b' with
  | true=>exact q0D J1 (Nat.zero_le _) (r0s ((hc.ans hl.2.1 hsl hB).more _) hnh hA (fin1 W w' k' n true 1 _ hc hB hO))
  | false=>exact q0w J1 (Nat.zero_le _) (r0s ((hc.ans hl.2.1 hsl hB).more _) hnh hA (fin1 W w' k' n true 0 _ hc hB hO))
 by_cases k3:kd=3
 ·subst k3
  refine B0m J1 (Nat.zero_le _) fun A hA=>f0s ?_
  rw[← hv]
  refine B0x hA fun A hA=>?_
  have hc:=CW.of w (.cells #[vI 3,vI a,vI b,vI c0] 44)
  generalize (w.alloc (.cells #[vI 3,vI a,vI b,vI c0] 44)).alloc (.cells #[.bool false,vI 0,.slice none 0 0] 49)=W at hc ⊢
  have aW:=hc.al S h hsl
  by_cases q1:a<0
  ·exact q01 (hv1 q1) (z0u hA fun A hA=>f0A J1 (Nat.zero_le _) (r0t ((hc.ans hl.2.1 hsl aW).more _) hnh hA (fin1 W W k 0 false 0 _ hc aW (hbad (.inr (.inr rfl)) (.inl q1)))))
  by_cases q2:(k.n:Int)≤a
  ·exact q00 aW.u.bh (hv2 q1) (hv3 q2) (z0u hA fun A hA=>f0A J1 (Nat.zero_le _) (r0t ((hc.ans hl.2.1 hsl aW).more _) hnh hA (fin1 W W k 0 false 0 _ hc aW (hbad (.inr (.inr rfl)) (.inr q2)))))
  rw[hv4 q1 q2]
  refine q0m S hsb aW (by omega) (by omega) fun w' b' n k' hAl hn hB hz=>z0u hA fun A hA=>?_
  have hO:B3 k ⟨3,a,b,c0⟩ k' (true,if b'=true then 1 else 0,[]) n:=by
   unfold B3
   rw[hgood (.inr (.inr rfl)) q1 q2]
   exact hAl
  cases b' with
  | true=>exact q0D J1 (Nat.zero_le _) (r0t ((hc.ans hl.2.1 hsl hB).more _) hnh hA (fin1 W w' k' n true 1 _ hc hB hO))
  | false=>exact q0w J1 (Nat.zero_le _) (r0t ((hc.ans hl.2.1 hsl hB).more _) hnh hA (fin1 W w' k' n true 0 _ hc hB hO))
 have h123:¬(kd=1∨kd=2∨kd=3):=by omega
 by_cases k4:kd=4
 ·subst k4
  refine B0n J1 (Nat.zero_le _) fun A hA=>?_
  have hc:=CW.of w (.cells #[vI 4,vI a,vI b,vI c0] 44)
  generalize (w.alloc (.cells #[vI 4,vI a,vI b,vI c0] 44)).alloc (.cells #[.bool false,vI 0,.slice none 0 0] 49)=W at hc ⊢
  have aW:=hc.al S h hsl
  by_cases q0:k.ws.length=0
  ·refine w0W aW.u.bh q0 (z0r (hc.ans hl.2.1 hsl aW) hnh hA (fin2 W W k 0 false 0 hc aW ?_))
   have:k.begin ⟨4,a,b,c0⟩=(k,.inr (false,0,[])):=by simp[V0.begin,q0]
   unfold B3
   rw[this]
   exact⟨rfl,rfl,rfl⟩
  ·have hbg:(k.begin ⟨4,a,b,c0⟩).2= .inl ⟨4,0,0,0,0#64,[]⟩:=by simp[V0.begin,q0]
   refine m0B S hsb aW (by omega) (by omega) (fun w' v n k' hAl hn hB hz=>A0Z (hc.ans hl.2.1 hsl hB) hnh hA (fin2 W w' k' n true v hc hB ?_)) (fun w' n k' hAl hn hB hz=>z0r (hc.ans hl.2.1 hsl hB) hnh hA (fin2 W w' k' n false 0 hc hB ?_))
   all_goals(
    unfold B3
    rw[hbg]
    exact hAl)
 have h56:(kd=5∨kd=6)→B3 k ⟨kd,a,b,c0⟩ k (if kd=5 then(true,(k.nums.length:Int),[])else(true,0,k.nums)) k.ws.length:=fun h56=>by
  unfold B3
  by_cases q0:k.ws.length=0
  ·have:k.begin ⟨kd,a,b,c0⟩=(k,.inr (true,0,[])):=by simp only[V0.begin,if_neg h123,if_neg k4,if_pos h56,if_pos q0]
   have hn0:k.nums=[]:=by rw[← W9,q0];rfl
   rw[this,hn0,q0]
   refine⟨rfl,?_,rfl⟩
   split<;>rfl
  ·have:k.begin ⟨kd,a,b,c0⟩=(k,.inl ⟨kd.toNat,0,0,0,0#64,[]⟩):=by simp only[V0.begin,if_neg h123,if_neg k4,if_pos h56,if_neg q0]
   rw[this]
   have:=m0N (k:=k) (kd:=kd.toNat) (by have:=h.u.wf.l;omega) (by omega) (by omega)
   have e:(kd.toNat=5)=(kd=5):=propext ⟨fun h=>by omega,fun h=>by omega⟩
   simp only[e]at this
   exact this
 have hws:k.ws.length≤1024:=by have:=h.u.wf.l;omega
 by_cases k5:kd=5
 ·subst k5
  refine B0o J1 (Nat.zero_le _) fun A hA=>?_
  have hc:=CW.of w (.cells #[vI 5,vI a,vI b,vI c0] 44)
  generalize (w.alloc (.cells #[vI 5,vI a,vI b,vI c0] 44)).alloc (.cells #[.bool false,vI 0,.slice none 0 0] 49)=W at hc ⊢
  have aW:=hc.al S h hsl
  refine q0X fun A1 hA1=>h09 S hsb aW (fun b hb=>by cases hb;rw[hc.s];omega) (by omega) fun w' ov hB hrow hblk hs ho=>?_
  obtain⟨la,lc,rfl⟩:=d0f hrow
  exact l0v hA1 (B0z (hc.ans hl.2.1 hsl hB) hnh hA (fin2 W w' k k.ws.length true k.nums.length hc hB (h56 (.inl rfl))))
 by_cases k6:kd=6
 ·subst k6
  refine B0p J1 (Nat.zero_le _) fun A hA=>?_
  have hc:=CW.of w (.cells #[vI 6,vI a,vI b,vI c0] 44)
  generalize (w.alloc (.cells #[vI 6,vI a,vI b,vI c0] 44)).alloc (.cells #[.bool false,vI 0,.slice none 0 0] 49)=W at hc ⊢
  have aW:=hc.al S h hsl
  refine h09 S hsb aW (fun b hb=>by cases hb;rw[hc.s];omega) (by omega) fun w' ov hB hrow hblk hs ho=>?_
  obtain⟨la,lc,rfl⟩:=d0f hrow
  refine B0A hA fun A hA=>?_
  have hnl:k.nums.length≤70000:=by
   have:=a06 k k.ws.length
   rw[W9]at this
   omega
  have hwz:=hB.sz
  have fin3:∀(u:World) (acc:Value) (A:Array Value),w'.heap.size≤u.heap.size→(∀r,r<w.heap.size+2→u.heap[r]? =w'.heap[r]?)→u.ownsRow 0 2 1 acc k.nums.length (k.nums.map fun v=>vI v)→(∀g,acc.ownBlock=some g→w'.heap.size≤g)→G0 95 A [(6,vP (w.heap.size+1) 0),(9,acc),(10,.slice la k.nums.length lc),(11,vI (k.nums.length:Nat))]→
   J0 Tryd.prog main F0 Stop (G (bA 15 A [.inRegion (oC w6) [0,1,2,3],.code g9,.code s8,.inLoop p8,.inBlock 1,.code a04,.inBlock 0,.code Z2]) (c::cs)) u:=fun u acc A hs2 ho2 hr2 hb2 hA2=>by
   obtain⟨va,vc,rfl⟩:=d0f hr2
   have hans:s9 u (w.heap.size+1):=by
    obtain⟨x,y,z,h⟩:=(hc.ans hl.2.1 hsl hB).o
    exact⟨x,y,z,(ho2 _ (by omega)).trans h⟩
   refine C0o hans hnh hA2 ?_
   refine K _ k (true,0,k.nums) k.ws.length va k.nums.length vc (h56 (.inr rfl)) (hB.fin3 S hl hsl (by rw[hc.s];omega) hc.o (by rw[v0o];exact hs2) fun r hr=>by rw[f01 (by omega)];exact ho2 r (by omega)) ?_ (fun g hg=>by have:=hb2 g hg;have:=hc.s;omega)
   exact G1 hr2 fun g hg _=>f01 (by have:=hb2 g hg;have:=hc.s;omega)
  rcases hrow.2 with⟨e,h0⟩|⟨g,cap,cur,e,h1,h2,h3,h4,h5,h6⟩
  ·have hA0:G0 95 A [(6,vP (w.heap.size+1) 0),(9,.slice none 0 0),(10,.slice la k.nums.length lc),(11,vI (k.nums.length:Nat))]:=by rw[h0]at hA ⊢;exact hA
   refine fin3 w' (.slice none 0 0) A (Nat.le_refl _) (fun _ _=>rfl) ?_ (fun g hg=>by simp[Value.ownBlock]at hg) hA0
   rw[List.eq_nil_of_length_eq_zero h0]
   exact World.ownsRow_nil _ _ _ _
  ·cases e
   have hgl:=(Q3 h2)
   have hgW:W.heap.size≤g:=hblk g rfl
   refine z0y (w1:=w') hnl hgl (fun u acc A h1 h2 h3 h4 h5=>fin3 u acc A h1 (fun r hr=>h2 r (by have:=hc.s;omega) (by have:=hc.s;omega)) h3 h4 h5) k.nums.length 0 w' (.slice none 0 0) A cur (by omega) (Nat.le_refl _) (fun _ _ _=>rfl) h2 (fun j _ hj=>?_) (World.ownsRow_nil _ _ _ _) (fun g hg=>by simp[Value.ownBlock]at hg) hA
   have h7:=congrArg (fun l=>l[j]?) h6
   simp only[List.getElem?_map]at h7
   rw[List.getElem?_take_of_lt (by omega),List.getElem?_eq_getElem hj,Array.getElem?_toList]at h7
   rw[h7]
   simp[List.getD,hj]
 refine B0j J1 (Nat.zero_le _) (beq_eq_false_iff_ne.2 k1) (beq_eq_false_iff_ne.2 k2) (beq_eq_false_iff_ne.2 k3) (beq_eq_false_iff_ne.2 k4) (beq_eq_false_iff_ne.2 k5) (beq_eq_false_iff_ne.2 k6) fun W hs ho=>?_
 refine K W k (false,0,[]) 0 none 0 0 ?_ ⟨h.u.same (ho _ hl.1) (ho _ hl.2.1) (ho _ hl.2.2),S.keep m _ _ h.x (fun b hb _=>by cases hb;exact ho _ hsl),by omega,fun r hr _ _=>ho r hr⟩ (m0C _ rfl) (fun g hg=>by simp[Value.ownBlock]at hg)
 have:k.begin ⟨kd,a,b,c0⟩=(k,.inr (false,0,[])):=by simp only[V0.begin,if_neg h123,if_neg k4,if_neg (show ¬(kd=5∨kd=6)by omega)]
 unfold B3
 rw[this]
 exact⟨rfl,rfl,rfl⟩
end
end
section
variable{w w':World}
theorem l06{aa ab:Option Addr}{ca cb:Nat}{xs:List Int}(hl:xs.length<100000000)(hA:B5 w aa (xs.map fun v=>vI v))(hB:B5 w ab (xs.map fun v=>vI v)):
 Calls Tryd.prog 26 #[.slice aa xs.length ca,.slice ab xs.length cb] w fun x w'=>x= .returned (.bool true)∧∃m,w'=w.drewN m:=by
 have E:Aside (B5 w aa (xs.map fun v=>vI v)∧B5 w ab (xs.map fun v=>vI v)):=⟨hA,hB⟩
 clear hA hB
 go_enter Tryd.func26,Tryd.ntmps26
 go_wp2
 go_loopg [5] xs.length (fun g i wr=>∃k:Nat,k≤xs.length∧i=vI k∧g=xs.length - k∧∃m,wr=w.drewN m)
 case atStart=>exact⟨0,Nat.zero_le _,rfl,rfl,0,rfl⟩
 case round=>
  obtain⟨k,hk,rfl,rfl,m0,hw⟩:=hrel
  have W:Aside (wr=w.drewN m0):=hw
  have hh:wr.heap=w.heap:=by rw[hw];rfl
  clear hw
  rcases Nat.lt_or_ge k xs.length with hlt|hge
  ·obtain⟨b1,o1,rfl,h1⟩:=(E.out.1.heap hh).c k (vI xs[k]) (by simp[hlt])
   obtain⟨b2,o2,rfl,h2⟩:=(E.out.2.heap hh).c k (vI xs[k]) (by simp[hlt])
   have hwr:IntKind.i64.wrap ((k:Int)+1)=(k:Int)+1:=IntWalk.i64_in _ (by omega)
   clear hh
   go_wp2
   go_quiet (fail)
   go_wp2
   go_roundg (xs.length - (k+1))
   case measure=>omega
   case rel=>exact⟨k+1,hlt,rfl,rfl,_,by rw[W.out,World.drewN_drewN]⟩
  ·have:k=xs.length:=by omega
   subst this
   clear hh
   go_wp2
   go_ret
   exact⟨rfl,m0,W.out⟩
def i5(l:List SA):List Value:=(l.map fun a=>a.v.cells).flatten
theorem e0i(l:List SA):∀k a,l[k]? =some a→(i5 l)[k*3]? =some (.bool a.an.1)∧(i5 l)[k*3+1]? =some (vI a.an.2.1)∧(i5 l)[k*3+2]? =some (.slice a.la a.ll a.lc):=by
 induction l with
 | nil=>intro k a h;simp at h
 | cons x t ih=>
   intro k a h
   have e:i5 (x::t)= .bool x.an.1::vI x.an.2.1:: .slice x.la x.ll x.lc::i5 t:=rfl
   rw[e]
   cases k with
   | zero=>
     simp at h
     subst h
     exact⟨rfl,rfl,rfl⟩
   | succ k=>
     have h:t[k]? =some a:=by simpa using h
     obtain⟨h1,h2,h3⟩:=ih k a h
     rw[show(k+1)*3=k*3+3 by omega]
     exact⟨by simpa using h1,by simpa [show k*3+3+1=k*3+1+3 by omega]using h2,by simpa [show k*3+3+2=k*3+2+3 by omega]using h3⟩
structure SAL(a:SA)(w:World):Prop where
 l:a.ll=a.an.2.2.length
 r:B5 w a.la (a.an.2.2.map fun v=>vI v)
theorem SAL.heap{a:SA}(h:SAL a w)(e:w'.heap=w.heap):SAL a w':=⟨h.l,h.r.heap e⟩
theorem SAL.of{a:SA}(h:SAU a w):SAL a w:=by
 obtain⟨an,la,ll,lc⟩:=a
 have h1:w.ownsRow 0 2 1 (.slice la ll lc) an.2.2.length (an.2.2.map fun v=>vI v):=h
 have hl:ll=an.2.2.length:=by
  rcases h1.2 with⟨e,h5⟩|⟨_,_,_,e,_⟩
  ·cases e;exact h5.symm
  ·cases e;rfl
 subst hl
 exact⟨rfl,c0E h1⟩
theorem r0C{aa ab:Option Addr}{ca cb:Nat}{xs ys:List SA}(hl:xs.length<100000000)(he:xs.map SA.an=ys.map SA.an)(hA:B5 w aa (i5 xs))(hB:B5 w ab (i5 ys))(hx:∀a∈xs,SAL a w∧a.an.2.2.length<100000000)(hy:∀a∈ys,SAL a w):
 Y6 Tryd.prog Tryd.f16 #[.slice aa xs.length ca,.slice ab xs.length cb] w fun x w'=>x= .bool true∧w'.heap=w.heap:=by
 have E:Aside (B5 w aa (i5 xs)∧B5 w ab (i5 ys)∧xs.map SA.an=ys.map SA.an∧(∀a∈xs,SAL a w∧a.an.2.2.length<100000000)∧∀a∈ys,SAL a w):=⟨hA,hB,he,hx,hy⟩
 clear hA hB he hx hy
 refine I8 rfl ?_
 simp only[Tryd.ntmps16,List.size_toArray,List.length_cons,List.length_nil,Nat.reduceAdd,Nat.reduceSub,Array.replicate_succ,Array.replicate_zero,List.push_toArray,List.append_toArray,List.nil_append,List.cons_append]
 go_wp2
 go_loopg [5] xs.length (fun g i wr=>∃k:Nat,k≤xs.length∧i=vI k∧g=xs.length - k∧wr.heap=w.heap)
 case atStart=>exact⟨0,Nat.zero_le _,rfl,rfl,rfl⟩
 case round=>
  obtain⟨k,hk,rfl,rfl,hw⟩:=hrel
  rcases Nat.lt_or_ge k xs.length with hlt|hge
  ·have hq:=congrArg (fun l=>l[k]?) E.out.2.2.1
   simp only[List.getElem?_map,List.getElem?_eq_getElem hlt,Option.map_some]at hq
   obtain⟨y,hyk,hya⟩:=Option.map_eq_some_iff.1 hq.symm
   obtain⟨g1,g2,g3⟩:=e0i xs k _ (List.getElem?_eq_getElem hlt)
   obtain⟨j1,j2,j3⟩:=e0i ys k _ hyk
   have hsx:=(E.out.2.2.2.1 _ (List.getElem_mem hlt))
   have hsy:=E.out.2.2.2.2 y (List.mem_of_getElem? hyk)
   rw[hya]at j1 j2
   obtain⟨sl1,sr1⟩:=hsx.1.heap hw
   obtain⟨sl2,sr2⟩:=hsy.heap hw
   have hlen:=hsx.2
   rw[hya]at sl2 sr2
   generalize xs[k]=x at g1 g2 g3 j1 j2 sl1 sr1 sl2 sr2 hlen
   obtain⟨⟨ok,n,l⟩,la,ll,lc⟩:=x
   obtain⟨an2,la2,ll2,lc2⟩:=y
   simp only at g1 g2 g3 j1 j2 j3 sl1 sr1 sl2 sr2 hlen
   subst sl1
   subst sl2
   obtain⟨b1,o1,rfl,f0⟩:=(E.out.1.heap hw).c (k*3) _ g1
   obtain⟨_,_,e1,f1⟩:=(E.out.1.heap hw).c (k*3+1) _ g2
   cases e1
   obtain⟨_,_,e1,f2⟩:=(E.out.1.heap hw).c (k*3+2) _ g3
   cases e1
   obtain⟨b2,o2,rfl,h0⟩:=(E.out.2.1.heap hw).c (k*3) _ j1
   obtain⟨_,_,e1,h1⟩:=(E.out.2.1.heap hw).c (k*3+1) _ j2
   cases e1
   obtain⟨_,_,e1,h2⟩:=(E.out.2.1.heap hw).c (k*3+2) _ j3
   cases e1
   rw[← Nat.add_assoc]at f1 f2 h1 h2
   have H:Aside (∀m,Calls Tryd.prog 26 #[.slice la l.length lc,.slice la2 l.length lc2] (wr.drewN m) fun x w''=>x= .returned (.bool true)∧∃m',w''=wr.drewN m'):=fun m=>(l06 (w:=wr.drewN m) hlen (sr1.heap rfl) (sr2.heap rfl)).mono (by
    rintro e u ⟨rfl,m',rfl⟩
    exact⟨rfl,_,World.drewN_drewN _ _ _⟩)
   have hwr:IntKind.i64.wrap ((k:Int)+1)=(k:Int)+1:=IntWalk.i64_in _ (by omega)
   have W:Aside (wr.heap=w.heap):=hw
   clear g1 g2 g3 j1 j2 j3 hw hq hyk hya hsx hsy sr1 sr2 hlen
   cases ok
   all_goals(
    go_wp2
    go_quiet ((go_at_call 26;exact H.out _))
    go_wp2
    go_roundg (xs.length - (k+1))
    case measure=>omega
    case rel=>exact⟨k+1,hlt,rfl,rfl,W.out⟩)
  ·have:k=xs.length:=by omega
   subst this
   go_wp2
   go_ret
   exact⟨_,rfl,rfl,hw⟩
theorem v0T{aa ab:Option Addr}{ca cb:Nat}{xs ys:List SA}(hl:xs.length<100000000)(he:xs.map SA.an=ys.map SA.an)(hA:B5 w aa (i5 xs))(hB:B5 w ab (i5 ys))(hx:∀a∈xs,SAL a w∧a.an.2.2.length<100000000)(hy:∀a∈ys,SAL a w):
 Calls Tryd.prog 16 #[.slice aa xs.length ca,.slice ab xs.length cb] w fun x w'=>x= .returned (.bool true)∧w'.heap=w.heap:=
 ((r0C hl he hA hB hx hy).calls Tryd.func16 rfl).mono (by rintro e u ⟨v,rfl,rfl,h⟩;exact⟨rfl,h⟩)
end
section
variable{w w':World}
structure B4(w w':World)(b:Nat)(o:Obj):Prop where
 size:w'.heap.size=w.heap.size
 o:w'.heap[b]? =some o
 old:∀r,r≠b→w'.heap[r]? =w.heap[r]?
theorem Y1{w:World}{b k:Nat}{c:Array Value}{e:TypeId}{v:Value}(h:w.heap[b]? =some (.cells c e (0,0))):B4 w (w.setCell ⟨b,k,none⟩ v) b (.cells (c.setIfInBounds k v) e (0,0)):=
 ⟨by simp,U1 (o:=k) h v,fun r hr=>o0 _ _ _ hr⟩
theorem B4.trans{a b c:World}{p:Nat}{o1 o2:Obj}(h1:B4 a b p o1)(h2:B4 b c p o2):B4 a c p o2:=⟨h2.size.trans h1.size,h2.o,fun r hr=>(h2.old r hr).trans (h1.old r hr)⟩
structure J4 where
 kd:Int
 i:Int
 ph:Int
 w:Int
 old:BitVec 64
 done:Bool
 ok:Bool
 n:Int
 l:Value
def J4.o(c:J4):Obj:=.cells #[vI c.kd,vI c.i,vI c.ph,vI c.w,wV c.old,.bool c.done,.bool c.ok,vI c.n,c.l] 51
abbrev F3(w:World)(cb:Nat)(c:J4):Prop:=w.heap[cb]? =some c.o
structure RS(xb wb:Nat)(k:V0)(w:World):Prop where
 o:w.heap[xb]? =some (.cells #[vI (k.n:Nat),vL wb 0 k.ws.length k.ws.length] 98 (0,0))
 ws:w.heap[wb]? =some (.cells ((k.ws.map fun x=>wV x).toArray) 47 (0,0))
 ne:xb≠wb
theorem a0B{cb:Nat}{c:J4}{ok:Bool}{n:Int}(h:F3 w cb c):Calls Tryd.prog 39 #[vP cb 0,.bool ok,vI n] w fun x w'=>x= .returned (.tuple #[])∧B4 w w' cb ({c with done:=true,ok:=ok,n:=n}:J4).o:=by
 have H:Aside (F3 w cb c):=h
 have c5:=(V1 h (j:=5) rfl).1
 have c6:=(V1 h (j:=6) rfl).1
 have c7:=(V1 h (j:=7) rfl).1
 have z5:=(V1 h (j:=5) rfl).2
 have z6:=(V1 h (j:=6) rfl).2
 have z7:=(V1 h (j:=7) rfl).2
 clear h
 go_enter Tryd.func39,Tryd.ntmps39
 go_wp2
 go_end0
 refine⟨rfl,?_⟩
 exact((Y1 (k:=5) H.out).trans (Y1 (k:=6) (Y1 (k:=5) H.out).o)).trans (Y1 (k:=7) (Y1 (k:=6) (Y1 (k:=5) H.out).o).o)
theorem p0g:∃i z,Tryd.prog.info? 47=some i∧i.zero=some z∧i.size=1∧i.bytes=8∧z.cells= #[.int .u64 0]:=by
 obtain⟨i,hi,h⟩:=Option.map_eq_some_iff.1 (show(Tryd.prog.info? 47).map (fun i=>(i.zero.map Value.cells,i.size,i.bytes))=some (some #[.int .u64 0],1,8)by kernel_rfl)
 simp only[Prod.mk.injEq]at h
 obtain⟨z,hz,hc⟩:=Option.map_eq_some_iff.1 h.1
 exact⟨i,z,hi,hz,h.2.1,h.2.2,hc⟩
@[go_sem] theorem z0o{m:Nat}(hm:m≤1024)(w:World):(Instr.makeSlice 96 (vI (m:Nat)) (vI (m:Nat))).run Tryd.prog w= .ok (vL w.heap.size 0 m m) (w.alloc (.cells (madeCells #[.int .u64 0] m) 47)):=by
 obtain⟨i,z,hi,hz,hs,hb,hc⟩:=p0g
 have:=run_make (P:=Tryd.prog) w 96 47 i _ Tryd.underlying96 hi hz .i64 .i64 m m (by omega) (by omega) (by rw[hb];omega) (by omega)
 rw[hs,hc]at this
 simpa using this
theorem y0Q(n:Int)(a:Option Addr)(l c:Nat):Tryd.prog.built 98 [(0,vI n),(1,.slice a l c)]=some #[vI n,.slice a l c]:=by kernel_rfl
@[go_sem] theorem y0M(n:Int)(a:Option Addr)(l c:Nat)(w:World):(Instr.build 98 #[(0,vI n),(1,.slice a l c)]).run Tryd.prog w= .ok (.agg #[vI n,.slice a l c]) w:=run_build w _ _ _ (y0Q n a l c)
theorem y0P(k:Int):Tryd.prog.built 51 [(0,vI k),(2,vI 1)]=some #[vI k,vI 0,vI 1,vI 0,.int .u64 0,.bool false,.bool false,vI 0,.slice none 0 0]:=by kernel_rfl
@[go_sem] theorem y0L(k:Int)(w:World):(Instr.build 51 #[(0,vI k),(2,vI 1)]).run Tryd.prog w= .ok (.agg #[vI k,vI 0,vI 1,vI 0,.int .u64 0,.bool false,.bool false,vI 0,.slice none 0 0]) w:=run_build w _ _ _ (y0P k)
def X8(n:Nat):V0:=⟨n,List.replicate ((n+63) / 64) 0#64⟩
theorem m0L{n:Nat}(hn:n≤65536):Y6 Tryd.prog Tryd.f12 #[vI (n:Nat)] w fun x w'=>x= .tuple #[vP (w.heap.size+1) 0,.bool true]∧RS (w.heap.size+1) w.heap.size (X8 n) w'∧w'.heap.size=w.heap.size+2∧∀r,r<w.heap.size→w'.heap[r]? =w.heap[r]?:=by
 obtain⟨m,hm⟩:∃m,m=(n+63) / 64:=⟨_,rfl⟩
 have hm1:m≤1024:=by omega
 have e0:decide ((n:Int)<0)=false:=decide_eq_false (by omega)
 have e1:decide ((65536:Int)<(n:Int))=false:=decide_eq_false (by omega)
 have e2:decide (65536<n)=false:=decide_eq_false (by omega)
 have w1:IntKind.i64.wrap ((n:Int)+63)=(n:Int)+63:=IntWalk.i64_in _ (by omega)
 have w2:IntKind.i64.wrap (((n:Int)+63).tdiv 64)=(m:Int):=by
  rw[Int.tdiv_eq_ediv_of_nonneg (by omega),IntWalk.i64_in _ (by omega)]
  omega
 have M:Aside (m=(n+63) / 64):=hm
 clear hm
 refine I8 rfl ?_
 simp only[Tryd.ntmps12,List.size_toArray,List.length_cons,List.length_nil,Nat.reduceAdd,Nat.reduceSub,Array.replicate_succ,Array.replicate_zero,List.push_toArray,List.append_toArray,List.nil_append,List.cons_append]
 go_wp2
 go_ret2
 refine⟨_,rfl,rfl,⟨?_,?_,by omega⟩,by simp,fun r hr=>B0y _ _ _ hr⟩
 ·rw[show(X8 n).ws.length=m by rw[M.out];simp[X8]]
  exact B0t _ _ _ _
 ·rw[D0 _ _ (by simp),heap_alloc_new]
  congr 2
  apply Array.toList_inj.1
  rw[toList_madeCells_one]
  simp[X8,wV,M.out]
def M6(s:V0)(o:P3):J4:=match(s.begin o).2 with
 | .inl c=>⟨o.kd,c.i,1,c.w,0#64,false,false,0,.slice none 0 0⟩
 | .inr a=>⟨o.kd,0,1,0,0#64,true,a.1,a.2.1,.slice none 0 0⟩
theorem i0Z{xb wb:Nat}{k:V0}{o:P3}(h:RS xb wb k w)(hn:k.n≤65536):Y6 Tryd.prog Tryd.f13 #[vP xb 0,opV o] w fun x w'=>x=vP (w.heap.size+1) 0∧F3 w' (w.heap.size+1) (M6 k o)∧w'.heap.size=w.heap.size+2∧∀r,r<w.heap.size→w'.heap[r]? =w.heap[r]?:=by
 obtain⟨kd,a,b,c⟩:=o
 have c0:=(V1 h.o (j:=0) rfl).1
 have c1:=(V1 h.o (j:=1) rfl).1
 have hxl:xb<w.heap.size:=(Array.getElem?_eq_some_iff.1 h.o).1
 have E:Aside (∀(ok:Bool) (n:Int),Calls Tryd.prog 39 #[vP (w.heap.size+1) 0,.bool ok,vI n] ((w.alloc (.cells #[vI kd,vI a,vI b,vI c] 44)).alloc (.cells #[vI kd,vI 0,vI 1,vI 0,.int .u64 0,.bool false,.bool false,vI 0,.slice none 0 0] 51)) fun x w'=>x= .returned (.tuple #[])∧B4 ((w.alloc (.cells #[vI kd,vI a,vI b,vI c] 44)).alloc (.cells #[vI kd,vI 0,vI 1,vI 0,.int .u64 0,.bool false,.bool false,vI 0,.slice none 0 0] 51)) w' (w.heap.size+1) (⟨kd,0,1,0,0#64,true,ok,n,.slice none 0 0⟩:J4).o):=
  fun ok n=>a0B (c:=⟨kd,0,1,0,0#64,false,false,0,.slice none 0 0⟩) (B0t _ _ _ _)
 have E2:Aside (∀(m:Nat) (ok:Bool) (n:Int),Calls Tryd.prog 39 #[vP (w.heap.size+1) 0,.bool ok,vI n] (((w.alloc (.cells #[vI kd,vI a,vI b,vI c] 44)).alloc (.cells #[vI kd,vI 0,vI 1,vI 0,.int .u64 0,.bool false,.bool false,vI 0,.slice none 0 0] 51)).drewN m) fun x w'=>x= .returned (.tuple #[])∧B4 ((w.alloc (.cells #[vI kd,vI a,vI b,vI c] 44)).alloc (.cells #[vI kd,vI 0,vI 1,vI 0,.int .u64 0,.bool false,.bool false,vI 0,.slice none 0 0] 51)) w' (w.heap.size+1) (⟨kd,0,1,0,0#64,true,ok,n,.slice none 0 0⟩:J4).o):=
  fun m ok n=>(a0B (w:=((w.alloc (.cells #[vI kd,vI a,vI b,vI c] 44)).alloc (.cells #[vI kd,vI 0,vI 1,vI 0,.int .u64 0,.bool false,.bool false,vI 0,.slice none 0 0] 51)).drewN m) (c:=⟨kd,0,1,0,0#64,false,false,0,.slice none 0 0⟩) (B0t _ _ _ _)).mono fun x u h=>⟨h.1,h.2.size,h.2.o,h.2.old⟩
 have F:Aside (∀(ok:Bool) (n:Int) (u:World),(k.begin ⟨kd,a,b,c⟩).2= .inr (ok,n,[])→B4 ((w.alloc (.cells #[vI kd,vI a,vI b,vI c] 44)).alloc (.cells #[vI kd,vI 0,vI 1,vI 0,.int .u64 0,.bool false,.bool false,vI 0,.slice none 0 0] 51)) u (w.heap.size+1) (⟨kd,0,1,0,0#64,true,ok,n,.slice none 0 0⟩:J4).o→F3 u (w.heap.size+1) (M6 k ⟨kd,a,b,c⟩)∧u.heap.size=w.heap.size+2∧∀r,r<w.heap.size→u.heap[r]? =w.heap[r]?):=fun ok n u hb hp=>by
  refine⟨?_,hp.size.trans (d0L _ _ _),fun r hr=>(hp.old r (by omega)).trans (B0y _ _ _ hr)⟩
  unfold M6
  rw[hb]
  exact hp.o
 have hX:Aside (∀m,(((w.alloc (.cells #[vI kd,vI a,vI b,vI c] 44)).alloc (.cells #[vI kd,vI 0,vI 1,vI 0,.int .u64 0,.bool false,.bool false,vI 0,.slice none 0 0] 51)).drewN m).heap[w.heap.size+1]? =some (.cells #[vI kd,vI 0,vI 1,vI 0,.int .u64 0,.bool false,.bool false,vI 0,.slice none 0 0] 51 (0,0))):=fun m=>B0t _ _ _ _
 have hX0:Aside (((w.alloc (.cells #[vI kd,vI a,vI b,vI c] 44)).alloc (.cells #[vI kd,vI 0,vI 1,vI 0,.int .u64 0,.bool false,.bool false,vI 0,.slice none 0 0] 51)).heap[w.heap.size+1]? =some (.cells #[vI kd,vI 0,vI 1,vI 0,.int .u64 0,.bool false,.bool false,vI 0,.slice none 0 0] 51 (0,0))):=B0t _ _ _ _
 have wlen:Aside (k.ws.length=0∨¬((k.ws.length:Int)=0)):=by rcases Nat.eq_zero_or_pos k.ws.length with h|h;exact .inl h;exact .inr (by omega)
 clear h
 simp only[opV]
 by_cases k1:kd=1
 ·subst k1
  by_cases h0:a<0
  ·have B0:(k.begin ⟨1,a,b,c⟩).2= .inr (false,0,[]):=by simp[V0.begin,h0]
   have B:Aside _:=B0
   clear B0
   have e0:decide (a<0)=true:=decide_eq_true h0
   refine I8 rfl ?_
   simp only[Tryd.ntmps13,List.size_toArray,List.length_cons,List.length_nil,Nat.reduceAdd,Nat.reduceSub,Array.replicate_succ,Array.replicate_zero,List.push_toArray,List.append_toArray,List.nil_append,List.cons_append]
   go_wp2
   go_quiet (fail)
   go_wp2_with (go_at_call 39;refine(E2.out _ _ _).mono ?_;rintro e u ⟨rfl,hu⟩;have U:Aside (F3 u (w.heap.size+1) (M6 k ⟨1,a,b,c⟩)∧u.heap.size=w.heap.size+2∧∀r,r<w.heap.size→u.heap[r]? =w.heap[r]?):=F.out _ _ _ B.out hu;clear hu)
   go_ret
   exact⟨_,rfl,rfl,U.out⟩
  by_cases h1:(k.n:Int)≤a
  ·have B0:(k.begin ⟨1,a,b,c⟩).2= .inr (false,0,[]):=by simp[V0.begin,h1]
   have B:Aside _:=B0
   clear B0
   have e0:decide (a<0)=false:=decide_eq_false h0
   have e1:decide ((k.n:Int)≤a)=true:=decide_eq_true h1
   refine I8 rfl ?_
   simp only[Tryd.ntmps13,List.size_toArray,List.length_cons,List.length_nil,Nat.reduceAdd,Nat.reduceSub,Array.replicate_succ,Array.replicate_zero,List.push_toArray,List.append_toArray,List.nil_append,List.cons_append]
   go_wp2
   go_quiet (fail)
   go_wp2_with (go_at_call 39;refine(E2.out _ _ _).mono ?_;rintro e u ⟨rfl,hu⟩;have U:Aside (F3 u (w.heap.size+1) (M6 k ⟨1,a,b,c⟩)∧u.heap.size=w.heap.size+2∧∀r,r<w.heap.size→u.heap[r]? =w.heap[r]?):=F.out _ _ _ B.out hu;clear hu)
   go_ret
   exact⟨_,rfl,rfl,U.out⟩
  obtain⟨q,rfl⟩:∃q:Nat,a=(q:Int):=⟨a.toNat,by omega⟩
  have B0:(k.begin ⟨1,(q:Int),b,c⟩).2= .inl ⟨1,0,q,q / 64,0#64,[]⟩:=by
   have hq:¬k.n≤q:=by omega
   simp[V0.begin,hq]
   rw[if_neg h0]
  have B:Aside _:=B0
  clear B0
  have e0:decide ((q:Int)<0)=false:=decide_eq_false h0
  have e1:decide ((k.n:Int)≤(q:Int))=false:=decide_eq_false h1
  have e3:decide (k.n≤q)=false:=decide_eq_false (by omega)
  have w2:IntKind.i64.wrap ((q:Int).tdiv 64)=((q / 64:Nat):Int):=by
   rw[Int.tdiv_eq_ediv_of_nonneg (by omega),IntWalk.i64_in _ (by omega)]
   omega
  refine I8 rfl ?_
  simp only[Tryd.ntmps13,List.size_toArray,List.length_cons,List.length_nil,Nat.reduceAdd,Nat.reduceSub,Array.replicate_succ,Array.replicate_zero,List.push_toArray,List.append_toArray,List.nil_append,List.cons_append]
  go_wp2
  go_quiet (fail)
  go_wp2
  go_ret
  refine⟨_,rfl,rfl,?_,by simp,fun r hr=>?_⟩
  ·have hp:=((Y1 (k:=1) (v:=vI (q:Nat)) (hX.out 0)).trans (Y1 (k:=3) (v:=vI ((q / 64:Nat):Int)) (Y1 (k:=1) (v:=vI (q:Nat)) (hX.out 0)).o)).o
   unfold M6
   rw[B.out]
   exact hp
  ·rw[o0 _ _ _ (show r≠w.heap.size+1 by omega),o0 _ _ _ (show r≠w.heap.size+1 by omega)]
   exact B0y _ _ _ hr
 by_cases k2:kd=2
 ·subst k2
  by_cases h0:a<0
  ·have B0:(k.begin ⟨2,a,b,c⟩).2= .inr (false,0,[]):=by simp[V0.begin,h0]
   have B:Aside _:=B0
   clear B0
   have e0:decide (a<0)=true:=decide_eq_true h0
   refine I8 rfl ?_
   simp only[Tryd.ntmps13,List.size_toArray,List.length_cons,List.length_nil,Nat.reduceAdd,Nat.reduceSub,Array.replicate_succ,Array.replicate_zero,List.push_toArray,List.append_toArray,List.nil_append,List.cons_append]
   go_wp2
   go_quiet (fail)
   go_wp2_with (go_at_call 39;refine(E2.out _ _ _).mono ?_;rintro e u ⟨rfl,hu⟩;have U:Aside (F3 u (w.heap.size+1) (M6 k ⟨2,a,b,c⟩)∧u.heap.size=w.heap.size+2∧∀r,r<w.heap.size→u.heap[r]? =w.heap[r]?):=F.out _ _ _ B.out hu;clear hu)
   go_ret
   exact⟨_,rfl,rfl,U.out⟩
  by_cases h1:(k.n:Int)≤a
  ·have B0:(k.begin ⟨2,a,b,c⟩).2= .inr (false,0,[]):=by simp[V0.begin,h1]
   have B:Aside _:=B0
   clear B0
   have e0:decide (a<0)=false:=decide_eq_false h0
   have e1:decide ((k.n:Int)≤a)=true:=decide_eq_true h1
   refine I8 rfl ?_
   simp only[Tryd.ntmps13,List.size_toArray,List.length_cons,List.length_nil,Nat.reduceAdd,Nat.reduceSub,Array.replicate_succ,Array.replicate_zero,List.push_toArray,List.append_toArray,List.nil_append,List.cons_append]
   go_wp2
   go_quiet (fail)
   go_wp2_with (go_at_call 39;refine(E2.out _ _ _).mono ?_;rintro e u ⟨rfl,hu⟩;have U:Aside (F3 u (w.heap.size+1) (M6 k ⟨2,a,b,c⟩)∧u.heap.size=w.heap.size+2∧∀r,r<w.heap.size→u.heap[r]? =w.heap[r]?):=F.out _ _ _ B.out hu;clear hu)
   go_ret
   exact⟨_,rfl,rfl,U.out⟩
  obtain⟨q,rfl⟩:∃q:Nat,a=(q:Int):=⟨a.toNat,by omega⟩
  have B0:(k.begin ⟨2,(q:Int),b,c⟩).2= .inl ⟨2,0,q,q / 64,0#64,[]⟩:=by
   have hq:¬k.n≤q:=by omega
   simp[V0.begin,hq]
   rw[if_neg h0]
  have B:Aside _:=B0
  clear B0
  have e0:decide ((q:Int)<0)=false:=decide_eq_false h0
  have e1:decide ((k.n:Int)≤(q:Int))=false:=decide_eq_false h1
  have e3:decide (k.n≤q)=false:=decide_eq_false (by omega)
  have w2:IntKind.i64.wrap ((q:Int).tdiv 64)=((q / 64:Nat):Int):=by
   rw[Int.tdiv_eq_ediv_of_nonneg (by omega),IntWalk.i64_in _ (by omega)]
   omega
  refine I8 rfl ?_
  simp only[Tryd.ntmps13,List.size_toArray,List.length_cons,List.length_nil,Nat.reduceAdd,Nat.reduceSub,Array.replicate_succ,Array.replicate_zero,List.push_toArray,List.append_toArray,List.nil_append,List.cons_append]
  go_wp2
  go_quiet (fail)
  go_wp2
  go_ret
  refine⟨_,rfl,rfl,?_,by simp,fun r hr=>?_⟩
  ·have hp:=((Y1 (k:=1) (v:=vI (q:Nat)) (hX.out 0)).trans (Y1 (k:=3) (v:=vI ((q / 64:Nat):Int)) (Y1 (k:=1) (v:=vI (q:Nat)) (hX.out 0)).o)).o
   unfold M6
   rw[B.out]
   exact hp
  ·rw[o0 _ _ _ (show r≠w.heap.size+1 by omega),o0 _ _ _ (show r≠w.heap.size+1 by omega)]
   exact B0y _ _ _ hr
 by_cases k3:kd=3
 ·subst k3
  by_cases h0:a<0
  ·have B0:(k.begin ⟨3,a,b,c⟩).2= .inr (false,0,[]):=by simp[V0.begin,h0]
   have B:Aside _:=B0
   clear B0
   have e0:decide (a<0)=true:=decide_eq_true h0
   refine I8 rfl ?_
   simp only[Tryd.ntmps13,List.size_toArray,List.length_cons,List.length_nil,Nat.reduceAdd,Nat.reduceSub,Array.replicate_succ,Array.replicate_zero,List.push_toArray,List.append_toArray,List.nil_append,List.cons_append]
   go_wp2
   go_quiet (fail)
   go_wp2_with (go_at_call 39;refine(E2.out _ _ _).mono ?_;rintro e u ⟨rfl,hu⟩;have U:Aside (F3 u (w.heap.size+1) (M6 k ⟨3,a,b,c⟩)∧u.heap.size=w.heap.size+2∧∀r,r<w.heap.size→u.heap[r]? =w.heap[r]?):=F.out _ _ _ B.out hu;clear hu)
   go_ret
   exact⟨_,rfl,rfl,U.out⟩
  by_cases h1:(k.n:Int)≤a
  ·have B0:(k.begin ⟨3,a,b,c⟩).2= .inr (false,0,[]):=by simp[V0.begin,h1]
   have B:Aside _:=B0
   clear B0
   have e0:decide (a<0)=false:=decide_eq_false h0
   have e1:decide ((k.n:Int)≤a)=true:=decide_eq_true h1
   refine I8 rfl ?_
   simp only[Tryd.ntmps13,List.size_toArray,List.length_cons,List.length_nil,Nat.reduceAdd,Nat.reduceSub,Array.replicate_succ,Array.replicate_zero,List.push_toArray,List.append_toArray,List.nil_append,List.cons_append]
   go_wp2
   go_quiet (fail)
   go_wp2_with (go_at_call 39;refine(E2.out _ _ _).mono ?_;rintro e u ⟨rfl,hu⟩;have U:Aside (F3 u (w.heap.size+1) (M6 k ⟨3,a,b,c⟩)∧u.heap.size=w.heap.size+2∧∀r,r<w.heap.size→u.heap[r]? =w.heap[r]?):=F.out _ _ _ B.out hu;clear hu)
   go_ret
   exact⟨_,rfl,rfl,U.out⟩
  obtain⟨q,rfl⟩:∃q:Nat,a=(q:Int):=⟨a.toNat,by omega⟩
  have B0:(k.begin ⟨3,(q:Int),b,c⟩).2= .inl ⟨3,0,q,q / 64,0#64,[]⟩:=by
   have hq:¬k.n≤q:=by omega
   simp[V0.begin,hq]
   rw[if_neg h0]
  have B:Aside _:=B0
  clear B0
  have e0:decide ((q:Int)<0)=false:=decide_eq_false h0
  have e1:decide ((k.n:Int)≤(q:Int))=false:=decide_eq_false h1
  have e3:decide (k.n≤q)=false:=decide_eq_false (by omega)
  have w2:IntKind.i64.wrap ((q:Int).tdiv 64)=((q / 64:Nat):Int):=by
   rw[Int.tdiv_eq_ediv_of_nonneg (by omega),IntWalk.i64_in _ (by omega)]
   omega
  refine I8 rfl ?_
  simp only[Tryd.ntmps13,List.size_toArray,List.length_cons,List.length_nil,Nat.reduceAdd,Nat.reduceSub,Array.replicate_succ,Array.replicate_zero,List.push_toArray,List.append_toArray,List.nil_append,List.cons_append]
  go_wp2
  go_quiet (fail)
  go_wp2
  go_ret
  refine⟨_,rfl,rfl,?_,by simp,fun r hr=>?_⟩
  ·have hp:=((Y1 (k:=1) (v:=vI (q:Nat)) (hX.out 0)).trans (Y1 (k:=3) (v:=vI ((q / 64:Nat):Int)) (Y1 (k:=1) (v:=vI (q:Nat)) (hX.out 0)).o)).o
   unfold M6
   rw[B.out]
   exact hp
  ·rw[o0 _ _ _ (show r≠w.heap.size+1 by omega),o0 _ _ _ (show r≠w.heap.size+1 by omega)]
   exact B0y _ _ _ hr
 by_cases k4:kd=4
 ·subst k4
  rcases wlen.out with h0|h0
  ·have B0:(k.begin ⟨4,a,b,c⟩).2= .inr (false,0,[]):=by simp[V0.begin,h0]
   have B:Aside _:=B0
   clear B0
   rw[h0]at c1
   refine I8 rfl ?_
   simp only[Tryd.ntmps13,List.size_toArray,List.length_cons,List.length_nil,Nat.reduceAdd,Nat.reduceSub,Array.replicate_succ,Array.replicate_zero,List.push_toArray,List.append_toArray,List.nil_append,List.cons_append]
   go_wp2_with (go_at_call 39;refine(E.out _ _).mono ?_;rintro e u ⟨rfl,hu⟩;have U:Aside (F3 u (w.heap.size+1) (M6 k ⟨4,a,b,c⟩)∧u.heap.size=w.heap.size+2∧∀r,r<w.heap.size→u.heap[r]? =w.heap[r]?):=F.out _ _ _ B.out hu;clear hu)
   go_ret
   exact⟨_,rfl,rfl,U.out⟩
  ·have hq:¬k.ws.length=0:=by omega
   have B0:(k.begin ⟨4,a,b,c⟩).2= .inl ⟨4,0,0,0,0#64,[]⟩:=by simp[V0.begin,hq]
   have B:Aside _:=B0
   clear B0
   have e0:((k.ws.length:Int) == 0)=false:=beq_eq_false_iff_ne.2 h0
   refine I8 rfl ?_
   simp only[Tryd.ntmps13,List.size_toArray,List.length_cons,List.length_nil,Nat.reduceAdd,Nat.reduceSub,Array.replicate_succ,Array.replicate_zero,List.push_toArray,List.append_toArray,List.nil_append,List.cons_append]
   go_wp2
   go_ret
   refine⟨_,rfl,rfl,?_,by simp,fun r hr=>B0y _ _ _ hr⟩
   unfold M6
   rw[B.out]
   exact hX0.out
 by_cases k5:kd=5
 ·subst k5
  rcases wlen.out with h0|h0
  ·have B0:(k.begin ⟨5,a,b,c⟩).2= .inr (true,0,[]):=by simp[V0.begin,h0]
   have B:Aside _:=B0
   clear B0
   rw[h0]at c1
   refine I8 rfl ?_
   simp only[Tryd.ntmps13,List.size_toArray,List.length_cons,List.length_nil,Nat.reduceAdd,Nat.reduceSub,Array.replicate_succ,Array.replicate_zero,List.push_toArray,List.append_toArray,List.nil_append,List.cons_append]
   go_wp2_with (go_at_call 39;refine(E.out _ _).mono ?_;rintro e u ⟨rfl,hu⟩;have U:Aside (F3 u (w.heap.size+1) (M6 k ⟨5,a,b,c⟩)∧u.heap.size=w.heap.size+2∧∀r,r<w.heap.size→u.heap[r]? =w.heap[r]?):=F.out _ _ _ B.out hu;clear hu)
   go_ret
   exact⟨_,rfl,rfl,U.out⟩
  ·have hq:¬k.ws.length=0:=by omega
   have B0:(k.begin ⟨5,a,b,c⟩).2= .inl ⟨5,0,0,0,0#64,[]⟩:=by simp[V0.begin,hq]
   have B:Aside _:=B0
   clear B0
   have e0:((k.ws.length:Int) == 0)=false:=beq_eq_false_iff_ne.2 h0
   refine I8 rfl ?_
   simp only[Tryd.ntmps13,List.size_toArray,List.length_cons,List.length_nil,Nat.reduceAdd,Nat.reduceSub,Array.replicate_succ,Array.replicate_zero,List.push_toArray,List.append_toArray,List.nil_append,List.cons_append]
   go_wp2
   go_ret
   refine⟨_,rfl,rfl,?_,by simp,fun r hr=>B0y _ _ _ hr⟩
   unfold M6
   rw[B.out]
   exact hX0.out
 by_cases k6:kd=6
 ·subst k6
  rcases wlen.out with h0|h0
  ·have B0:(k.begin ⟨6,a,b,c⟩).2= .inr (true,0,[]):=by simp[V0.begin,h0]
   have B:Aside _:=B0
   clear B0
   rw[h0]at c1
   refine I8 rfl ?_
   simp only[Tryd.ntmps13,List.size_toArray,List.length_cons,List.length_nil,Nat.reduceAdd,Nat.reduceSub,Array.replicate_succ,Array.replicate_zero,List.push_toArray,List.append_toArray,List.nil_append,List.cons_append]
   go_wp2_with (go_at_call 39;refine(E.out _ _).mono ?_;rintro e u ⟨rfl,hu⟩;have U:Aside (F3 u (w.heap.size+1) (M6 k ⟨6,a,b,c⟩)∧u.heap.size=w.heap.size+2∧∀r,r<w.heap.size→u.heap[r]? =w.heap[r]?):=F.out _ _ _ B.out hu;clear hu)
   go_ret
   exact⟨_,rfl,rfl,U.out⟩
  ·have hq:¬k.ws.length=0:=by omega
   have B0:(k.begin ⟨6,a,b,c⟩).2= .inl ⟨6,0,0,0,0#64,[]⟩:=by simp[V0.begin,hq]
   have B:Aside _:=B0
   clear B0
   have e0:((k.ws.length:Int) == 0)=false:=beq_eq_false_iff_ne.2 h0
   refine I8 rfl ?_
   simp only[Tryd.ntmps13,List.size_toArray,List.length_cons,List.length_nil,Nat.reduceAdd,Nat.reduceSub,Array.replicate_succ,Array.replicate_zero,List.push_toArray,List.append_toArray,List.nil_append,List.cons_append]
   go_wp2
   go_ret
   refine⟨_,rfl,rfl,?_,by simp,fun r hr=>B0y _ _ _ hr⟩
   unfold M6
   rw[B.out]
   exact hX0.out
 have B0:(k.begin ⟨kd,a,b,c⟩).2= .inr (false,0,[]):=by simp[V0.begin,k1,k2,k3,k4,k5,k6]
 have B:Aside _:=B0
 clear B0
 have q1:(kd == 1)=false:=beq_eq_false_iff_ne.2 k1
 have q2:(kd == 2)=false:=beq_eq_false_iff_ne.2 k2
 have q3:(kd == 3)=false:=beq_eq_false_iff_ne.2 k3
 have q4:(kd == 4)=false:=beq_eq_false_iff_ne.2 k4
 have q5:(kd == 5)=false:=beq_eq_false_iff_ne.2 k5
 have q6:(kd == 6)=false:=beq_eq_false_iff_ne.2 k6
 refine I8 rfl ?_
 simp only[Tryd.ntmps13,List.size_toArray,List.length_cons,List.length_nil,Nat.reduceAdd,Nat.reduceSub,Array.replicate_succ,Array.replicate_zero,List.push_toArray,List.append_toArray,List.nil_append,List.cons_append]
 go_wp2_with (go_at_call 39;refine(E.out _ _).mono ?_;rintro e u ⟨rfl,hu⟩;have U:Aside (F3 u (w.heap.size+1) (M6 k ⟨kd,a,b,c⟩)∧u.heap.size=w.heap.size+2∧∀r,r<w.heap.size→u.heap[r]? =w.heap[r]?):=F.out _ _ _ B.out hu;clear hu)
 go_ret
 exact⟨_,rfl,rfl,U.out⟩
theorem j0E:Z5 Tryd.prog (fun f=>[12,13,39].contains f) true:=a0b (x:=[]) (fun f h=>by cases h) (by kernel_rfl)
theorem z0A{n:Nat}(hn:n≤65536){c:Frame}{cs:List Frame}{main:Bool}{Stop:Goroutine→World→Prop}(K:∀w',RS (w.heap.size+1) w.heap.size (X8 n) w'→w'.heap.size=w.heap.size+2→(∀r,r<w.heap.size→w'.heap[r]? =w.heap[r]?)→J0 Tryd.prog main F0 Stop (G (c.finish (.tuple #[vP (w.heap.size+1) 0,.bool true])) cs) w'):
 J0 Tryd.prog main F0 Stop (G (Frame.enter Tryd.prog 12 #[vI (n:Nat)] .normal) (c::cs)) w:=by
 refine N7 j0E F6 Tryd.func12 rfl (by kernel_rfl) (R:=fun x w'=>x= .tuple #[vP (w.heap.size+1) 0,.bool true]∧RS (w.heap.size+1) w.heap.size (X8 n) w'∧w'.heap.size=w.heap.size+2∧∀r,r<w.heap.size→w'.heap[r]? =w.heap[r]?) (fun τ e=>m0L (w:=retape w τ e) hn) fun v w' τ e hR hg=>?_
 obtain⟨rfl,h1,h2,h3⟩:=hR
 exact K w' ⟨h1.o,h1.ws,h1.ne⟩ h2 h3
theorem v0Q{xb wb:Nat}{k:V0}{o:P3}(h:RS xb wb k w)(hn:k.n≤65536){c:Frame}{cs:List Frame}{main:Bool}{Stop:Goroutine→World→Prop}(K:∀w',F3 w' (w.heap.size+1) (M6 k o)→w'.heap.size=w.heap.size+2→(∀r,r<w.heap.size→w'.heap[r]? =w.heap[r]?)→J0 Tryd.prog main F0 Stop (G (c.finish (vP (w.heap.size+1) 0)) cs) w'):
 J0 Tryd.prog main F0 Stop (G (Frame.enter Tryd.prog 13 #[vP xb 0,opV o] .normal) (c::cs)) w:=by
 refine N7 j0E F6 Tryd.func13 rfl (by kernel_rfl) (R:=fun x w'=>x=vP (w.heap.size+1) 0∧F3 w' (w.heap.size+1) (M6 k o)∧w'.heap.size=w.heap.size+2∧∀r,r<w.heap.size→w'.heap[r]? =w.heap[r]?) (fun τ e=>i0Z (w:=retape w τ e) ⟨h.o,h.ws,h.ne⟩ hn) fun v w' τ e hR hg=>?_
 obtain⟨rfl,h1,h2,h3⟩:=hR
 exact K w' h1 h2 h3
end
section
variable{F:Fz}{w:World}
theorem p0A:O1 12:=G2 Tryd.func12 rfl rfl
theorem q0i:O1 13:=G2 Tryd.func13 rfl rfl
theorem s00:Tryd.prog.built 62 []=some #[vI 0,.slice none 0 0]:=by kernel_rfl
@[go_sem] theorem y0u(w:World):(Instr.build 62 #[]).run Tryd.prog w= .ok (.agg #[vI 0,.slice none 0 0]) w:=run_build w _ _ _ s00
@[go_sem] theorem y0K(w:World)(es:Array Event):(Instr.build 62 #[]).events Tryd.prog w es=es:=l6 w es _ _ _ _ Tryd.underlying62 s00
theorem s0Z:Tryd.prog.built 42 []=some #[vI 0]:=by kernel_rfl
@[go_sem] theorem y0t(w:World):(Instr.build 42 #[]).run Tryd.prog w= .ok (.agg #[vI 0]) w:=run_build w _ _ _ s0Z
@[go_sem] theorem y0J(w:World)(es:Array Event):(Instr.build 42 #[]).events Tryd.prog w es=es:=l6 w es _ _ _ _ Tryd.underlying42 s0Z
structure OpF(pb:Nat)(kd a b c0:Int)(w:World):Prop where
 f0:w.cell? ⟨pb,0,none⟩=some (vI kd)
 f1:w.cell? ⟨pb,1,none⟩=some (vI a)
 f2:w.cell? ⟨pb,2,none⟩=some (vI b)
 f3:w.cell? ⟨pb,3,none⟩=some (vI c0)
theorem OpF.of{pb:Nat}{kd a b c0:Int}(h:w.heap[pb]? =some (.cells #[vI kd,vI a,vI b,vI c0] 44 (0,0))):OpF pb kd a b c0 w:=⟨(V1 h rfl).1,(V1 h rfl).1,(V1 h rfl).1,(V1 h rfl).1⟩
theorem i4{w w':World}{b k:Nat}{v:Value}(h:w.cell? ⟨b,k,none⟩=some v)(hs:∀r,r<w.heap.size→w'.heap[r]? =w.heap[r]?):w'.cell? ⟨b,k,none⟩=some v:=by
 rw[← h]
 unfold World.cell?
 rw[hs b (I9 h)]
theorem OpF.grow{w w':World}{pb:Nat}{kd a b c0:Int}(h:OpF pb kd a b c0 w)(hs:∀r,r<w.heap.size→w'.heap[r]? =w.heap[r]?):OpF pb kd a b c0 w':=⟨i4 h.f0 hs,i4 h.f1 hs,i4 h.f2 hs,i4 h.f3 hs⟩
structure NlS(pb:Nat)(kd a b c0:Int)(ls i:Nat)(xv:Value)(cb sb:Nat)(ok:Bool)(w:World):Prop where
 op:OpF pb kd a b c0 w
 ls:w.cell? ⟨ls,i,none⟩=some xv
 o6:w.cell? ⟨cb,6,none⟩=some (.bool ok)
 o7:w.cell? ⟨cb,7,none⟩=some (vI 0)
 o8:w.cell? ⟨cb,8,none⟩=some (.slice none 0 0)
 st:w.cell? ⟨sb,0,none⟩=some (vI 0)
 no:j0Z xv w
def NAt(w:World)(b:Nat)(ok:Bool):Prop:=w.heap[b]? =some (.cells #[.bool ok,vI 0,.slice none 0 0] 49 (0,0))
section
variable{pb:Nat}{kd a b c0:Int}{ls i:Nat}{xv:Value}{cb sb:Nat}{ok:Bool}
theorem NlS.grow{w w':World}(h:NlS pb kd a b c0 ls i xv cb sb ok w)(hs:∀r,r<w.heap.size→w'.heap[r]? =w.heap[r]?):NlS pb kd a b c0 ls i xv cb sb ok w':=⟨h.op.grow hs,i4 h.ls hs,i4 h.o6 hs,i4 h.o7 hs,i4 h.o8 hs,i4 h.st hs,h.no.heap hs⟩
theorem NlS.at{w:World}(h:NlS pb kd a b c0 ls i xv cb sb ok w)(d:Nat):NlS pb kd a b c0 ls i xv cb sb ok (w.at d):=h.grow fun _ _=>rfl
theorem NAt.grow{w w':World}{q:Nat}(h:NAt w q ok)(hs:∀r,r<w.heap.size→w'.heap[r]? =w.heap[r]?):NAt w' q ok:=(hs q (Q3 h)).trans h
theorem NAt.row{w:World}{q:Nat}(h:NAt w q ok):B5 w (some ⟨q,0,none⟩) (i5 [⟨(ok,0,[]),none,0,0⟩]):=⟨fun k x hx=>⟨q,0,rfl,by
 rw[Nat.zero_add]
 exact(V1 h (by simpa [i5,SA.v,j0K.cells]using hx)).1⟩⟩
end
end
noncomputable section
variable {cs:List Frame}{main:Bool}{Stop:Goroutine→World→Prop}
variable{F:Fz}{w:World}
theorem callable11q:O1 11:=G2 Tryd.func11 rfl rfl
theorem t0z(X:World)(x y z u x' y' z' u':Value):((((X.alloc (.cells #[x,y,z,u] 44)).setCell ⟨X.heap.size,0,none⟩ x').setCell ⟨X.heap.size,1,none⟩ y').setCell ⟨X.heap.size,2,none⟩ z').setCell ⟨X.heap.size,3,none⟩ u'=X.alloc (.cells #[x',y',z',u'] 44):=by go_simp
@[go_sem] theorem C0z(x y:Bool)(w:World)(es:Array Event):(binOp .neq 4 (.bool x) (.bool y)).events Tryd.prog w es=es:=by cases x<;>cases y<;>kernel_rfl
@[go_sem] theorem C0A(w:World)(es:Array Event):(binOp .neq 33 (.pointer none) (.pointer none)).events Tryd.prog w es=es:=by kernel_rfl
@[go_sem] theorem C0B(b:Nat)(w:World)(es:Array Event):(binOp .neq 33 (vP b 0) (.pointer none)).events Tryd.prog w es=es:=by kernel_rfl
@[go_sem] theorem C0w(b:Nat)(w:World):(binOp .neq 33 (vP b 0) (.pointer none)).run Tryd.prog w= .ok (.bool true) w:=by kernel_rfl
@[go_sem] theorem C0v(w:World):(binOp .neq 33 (.pointer none) (.pointer none)).run Tryd.prog w= .ok (.bool false) w:=by kernel_rfl
@[go_sem] theorem C0u(x y:Bool)(w:World):(binOp .neq 4 (.bool x) (.bool y)).run Tryd.prog w= .ok (.bool (x != y)) w:=by cases x<;>cases y<;>kernel_rfl
def i1:Code:=Tryd.f4.body.getD .skip
def B0f:=pC [] i1
def A0I:=pC [zt] i1
def y09:=pC [zf] i1
def A0L:=pC [zt] y09
def j0n:=pC [zf,zt,zt] i1
def h0G:=pC [zf] A0L
def C0P:=pC [zt] h0G
def m0F:=pC [zf] y09
def m0E:=pC [zf,zf,zt] i1
def r0d:=pC [zf] m0F
def i0g:=pC [zf,zf,zf,zt] i1
def j0y:=pC [zf] r0d
def z0f:=pC [zt] j0y
def r0a:=pC [zf,zf,zf,zf,zt,zt] i1
def n0a:=pC [zf] z0f
def C0Q:=pC [zt] n0a
def r0e:=pC [zf] j0y
def p0j:=pC [zt] r0e
def r0b:=pC [zf,zf,zf,zf,zf,zt,zt] i1
def o0k:=pC [zf] p0j
def A0Y:=pC [zt] o0k
def A0J:=pC [zf,zf,zf,zf,zf,zt,zf,zt,zt] i1
def p0n:=pC [zf] r0e
def A0K:=pC [zf,zf,zf,zf,zf,zf,zt] i1
def p0o:=pC [zf] p0n
def z0a:=pC [zt] p0o
def y0v:=pC [zf,zf,zf,zf,zf,zf,zf,zt,zt] i1
def y0r:=pC [zf] z0a
def o04:=pC [zt] y0r
def x4:=pC [zt] o04
def p0p:=pC [zt] x4
def x6:=pC [zf,zf,zf,zf,zf,zf,zf,zt,zf,zt,zt,zt,zt] i1
def m9:=pC [zf] p0p
def v8:=pC [zf] x4
def y0s:=pC [zt] v8
def z0b:=pC [zt] y0s
def y0G:=pC [zf,zf,zf,zf,zf,zf,zf,zt,zf,zt,zt,zf,zt,zt,zt] i1
def z0c:=pC [zf] z0b
def b0j:=pC [zf,zf,zf,zf,zf,zf,zf,zt,zf,zt,zt,zf,zt,zt,zf,zt] i1
def f0o:=pC [zf] z0c
def y06:=pC [zf,zf,zf,zf,zf,zf,zf,zt,zf,zt,zt,zf,zt,zt,zf,zf,zt] i1
def z0d:=pC [zf] f0o
def bqcb2:=pC [zf,zf,zf,zf,zf,zf,zf,zt,zf,zt,zt,zf,zt,zt,zf,zf,zf,zt] i1
def l0Z:=pC [zf] z0d
def h0X:=pC [zf,zf,zf,zf,zf,zf,zf,zt,zf,zt,zt,zf,zt,zt,zf,zf,zf,zf,zt] i1
def i0j:=pC [zf] l0Z
def z0e:=pC [zt] i0j
def bqcr20:=pC [zf,zf,zf,zf,zf,zf,zf,zt,zf,zt,zt,zf,zt,zt,zf,zf,zf,zf,zf,zt,zt] i1
def f09:=pC [zf] z0e
def C0C:=pC [zt] f09
def l09:=pC [zf] i0j
def h0Z:=pC [zf,zf,zf,zf,zf,zf,zf,zt,zf,zt,zt,zf,zt,zt,zf,zf,zf,zf,zf,zf,zt] i1
def m0b:=pC [zf] l09
def h03:=pC [zf,zf,zf,zf,zf,zf,zf,zt,zf,zt,zt,zf,zt,zt,zf,zf,zf,zf,zf,zf,zf,zt] i1
def m0h:=pC [zf] m0b
def h04:=pC [zf,zf,zf,zf,zf,zf,zf,zt,zf,zt,zt,zf,zt,zt,zf,zf,zf,zf,zf,zf,zf,zf,zt] i1
def m0w:=pC [zf] m0h
def y07:=pC [zf,zf,zf,zf,zf,zf,zf,zt,zf,zt,zt,zf,zt,zt,zf,zf,zf,zf,zf,zf,zf,zf,zf,zt] i1
def q0U:=pC [zf] m0w
def C0D:=pC [zt] q0U
def v5:=pC [zf,zf,zf,zf,zf,zf,zf,zt,zf,zt,zt,zf,zf] i1
def I4:=pC [zf] p0o
def y08:=pC [zf,zf,zf,zf,zf,zf,zf,zf,zt] i1
theorem C07:j0y= .seq z0f r0e:=by kernel_rfl
theorem C08:z0f= .seq r0a n0a:=by kernel_rfl
theorem C04:r0a= .region 5 (oC r0a) false:=by kernel_rfl
theorem C0R:n0a= .cond (.tmp 48) C0Q .skip:=by kernel_rfl
theorem C09:r0e= .seq p0j p0n:=by kernel_rfl
theorem C0X:p0j= .seq r0b o0k:=by kernel_rfl
theorem C05:r0b= .region 7 (oC r0b) false:=by kernel_rfl
theorem C0S:o0k= .cond (.tmp 50) A0Y .skip:=by kernel_rfl
theorem C0Y:p0n= .seq A0K p0o:=by kernel_rfl
theorem C06:A0K= .region 9 (oC A0K) false:=by kernel_rfl
theorem C0Z:p0o= .seq z0a I4:=by kernel_rfl
theorem C00:z0a= .seq y0v y0r:=by kernel_rfl
theorem C0U:y0v= .region 10 (oC y0v) false:=by kernel_rfl
theorem A0V:y0r= .block 0 o04:=by kernel_rfl
theorem z0X:o04= .loop x4:=by kernel_rfl
theorem C01:x4= .seq p0p v8:=by kernel_rfl
theorem C02:p0p= .seq x6 m9:=by kernel_rfl
theorem C0V:x6= .region 11 (oC x6) false:=by kernel_rfl
theorem C0T:m9= .cond (.tmp 60) .skip (.exit 0):=by kernel_rfl
theorem A0W:y0s= .block 1 z0b:=by kernel_rfl
theorem z0Y:v5= .region 12 (oC v5) false:=by kernel_rfl
theorem C03:I4= .seq y08 .ret:=by kernel_rfl
theorem C0W:y08= .region 27 (oC y08) false:=by kernel_rfl
theorem v0M(args:Array Value):Frame.enter Tryd.prog 4 args .normal=(Go.Conc.base 4).at {tmps:=args++Array.replicate (140 - args.size) undef,defers:=[]} [.code B0f]:=enter_at args Tryd.func4 rfl
def x5(s:Nat→Value):Array Value:= #[s 0,s 1,s 2,s 3,s 4,s 5,s 6,s 7,s 8,s 9,s 10,s 11,s 12,s 13,s 14,s 15,s 16,s 17,s 18,s 19,s 20,s 21,s 22,s 23,s 24,s 25,s 26,s 27,s 28,s 29,s 30,s 31,s 32,s 33,s 34,s 35,s 36,s 37,s 38,s 39,s 40,s 41,s 42,s 43,s 44,s 45,s 46,s 47,s 48,s 49,s 50,s 51,s 52,s 53,s 54,s 55,s 56,s 57,s 58,s 59,s 60,s 61,s 62,s 63,s 64,s 65,s 66,s 67,s 68,s 69,s 70,s 71,s 72,s 73,s 74,s 75,s 76,s 77,s 78,s 79,s 80,s 81,s 82,s 83,s 84,s 85,s 86,s 87,s 88,s 89,s 90,s 91,s 92,s 93,s 94,s 95,s 96,s 97,s 98,s 99,s 100,s 101,s 102,s 103,s 104,s 105,s 106,s 107,s 108,s 109,s 110,s 111,s 112,s 113,s 114,s 115,s 116,s 117,s 118,s 119,s 120,s 121,s 122,s 123,s 124,s 125,s 126,s 127,s 128,s 129,s 130,s 131,s 132,s 133,s 134,s 135,s 136,s 137,s 138,s 139]
theorem C0y{A:Array Value}(h:A.size=140):∃s,A=x5 s:=by
 obtain⟨s,hs,_⟩:=Y4 A h
 exact⟨s,hs⟩
theorem C0F{nv:Int}{oa:Option Addr}{ol oq:Nat}
 (h:∀A,G0 140 A [(0,vI nv),(1,.slice oa ol oq)]→J0 Tryd.prog main F Stop (G (Frame.enter Tryd.prog 7 #[] .normal) ((bA 4 A [.inRegion (oC j0n) [0,1],.code h0G,.code m0F])::cs)) w):
 J0 Tryd.prog main F Stop (G (Frame.enter Tryd.prog 4 #[vI nv,.slice oa ol oq] .normal) cs) w:=by
 rw[v0M]
 walk_nrm
 refine ogW A0I y09 ?_
 simp only[oC,A0I,pC,i1,Tryd.f4,Option.getD_some,List.size_toArray,List.length_cons,List.length_nil,Nat.reduceAdd,Nat.zero_add,List.range,List.range.loop]
 refine oT ?_
 refine ogE<|ogV A0L m0F<|ogW j0n h0G ?_
 simp only[oC,j0n,pC,i1,Tryd.f4,Option.getD_some,List.size_toArray,List.length_cons,List.length_nil,Nat.reduceAdd,Nat.zero_add,List.range,List.range.loop]
 refine oc m0g #[] ?_
 refine h _ ?_
 exact⟨rfl,rfl,rfl,trivial⟩
theorem C0G{nv:Int}{oa:Option Addr}{ol oq:Nat}{A:Array Value}(hA:G0 140 A [(0,vI nv),(1,.slice oa ol oq)])
 (h:∀A,G0 140 A [(0,vI nv),(1,.slice oa ol oq)]→J0 Tryd.prog main F Stop (G (Frame.enter Tryd.prog 11 #[vI nv] .normal) ((bA 4 A [.inRegion (oC m0E) [1,2,3,4,5,6],.code r0d])::cs)) w):
 J0 Tryd.prog main F Stop (G ((bA 4 A [.inRegion (oC j0n) [0,1],.code h0G,.code m0F]).finish (.bool true)) cs) w:=by
 obtain⟨s,rfl,h0,h1,_⟩:=Y3 x5 hA
 simp only[x5,h0,h1]
 clear h0 h1
 rw[Frame.finish_at]
 simp only[oC,j0n,pC,i1,Tryd.f4,Option.getD_some,List.size_toArray,List.length_cons,List.length_nil,Nat.reduceAdd,Nat.zero_add,List.range,List.range.loop]
 walk_nrm
 refine oT ?_
 refine ogE<|ogGn .skip<|ogK<|ogW m0E r0d ?_
 simp only[oC,m0E,pC,i1,Tryd.f4,Option.getD_some,List.size_toArray,List.length_cons,List.length_nil,Nat.reduceAdd,Nat.zero_add,List.range,List.range.loop]
 refine oT ?_
 refine Y7 (f:=11) (args:= #[vI nv]) rfl rfl (by decide) (fun w=>by simp[execOp,Act.eval,resolve,invoke,Deferred.ofValue,callable11q.run]) (fun w=>by simp[execOp,Act.eval,resolve,invoke,Deferred.ofValue,callable11q.run,callable11q.quiet]) ?_
 refine h _ ?_
 exact⟨rfl,rfl,rfl,trivial⟩
theorem C0t{nv:Int}{oa:Option Addr}{ol oq:Nat}{xa:Option Addr}{ec:Int}{A:Array Value}(hA:G0 140 A [(0,vI nv),(1,.slice oa ol oq)])
 (h:∀A,G0 140 A [(0,vI nv),(1,.slice oa ol oq),(5,.pointer xa),(6,vI ec)]→J0 Tryd.prog main F Stop (G (Frame.enter Tryd.prog 12 #[vI nv] .normal) ((bA 4 A [.inRegion (oC i0g) [1,2,3,4,5,6],.code j0y])::cs)) w):
 J0 Tryd.prog main F Stop (G ((bA 4 A [.inRegion (oC m0E) [1,2,3,4,5,6],.code r0d]).finish (.tuple #[.pointer xa,vI ec])) cs) w:=by
 obtain⟨s,rfl,h0,h1,_⟩:=Y3 x5 hA
 simp only[x5,h0,h1]
 clear h0 h1
 rw[Frame.finish_at]
 simp only[oC,m0E,pC,i1,Tryd.f4,Option.getD_some,List.size_toArray,List.length_cons,List.length_nil,Nat.reduceAdd,Nat.zero_add,List.range,List.range.loop]
 walk_nrm
 iterate 5 refine oT ?_
 refine ogE<|ogW i0g j0y ?_
 simp only[oC,i0g,pC,i1,Tryd.f4,Option.getD_some,List.size_toArray,List.length_cons,List.length_nil,Nat.reduceAdd,Nat.zero_add,List.range,List.range.loop]
 refine oT ?_
 refine oc p0A #[vI nv] ?_
 refine h _ ?_
 exact⟨rfl,rfl,rfl,rfl,rfl,trivial⟩
theorem A03{nv:Int}{oa:Option Addr}{ol oq:Nat}{A:Array Value}(hA:G0 140 A [(0,vI nv),(1,.slice oa ol oq),(5,.pointer none),(6,vI 1)])
 (h:∀A t,A.getD 4 undef= .bool true→J0 Tryd.prog main F Stop (G {bA 4 A (.code .ret::t)with mode:=.returning} cs) w):
 J0 Tryd.prog main F Stop (G ((bA 4 A [.inRegion (oC i0g) [1,2,3,4,5,6],.code j0y]).finish (.tuple #[.pointer none,.bool false])) cs) w:=by
 obtain⟨s,rfl,h0,h1,h5,h6,_⟩:=Y3 x5 hA
 simp only[x5,h0,h1,h5,h6]
 clear h0 h1 h5 h6
 rw[Frame.finish_at]
 simp only[oC,i0g,pC,i1,Tryd.f4,Option.getD_some,List.size_toArray,List.length_cons,List.length_nil,Nat.reduceAdd,Nat.zero_add,List.range,List.range.loop]
 walk_nrm
 iterate 5 refine oT ?_
 refine ogE<|ogV z0f r0e<|ogW r0a n0a ?_
 simp only[oC,r0a,pC,i1,Tryd.f4,Option.getD_some,List.size_toArray,List.length_cons,List.length_nil,Nat.reduceAdd,Nat.zero_add,List.range,List.range.loop]
 iterate 16 refine oT ?_
 refine ogE<|ogGn .skip<|ogK<|ogV p0j p0n<|ogW r0b o0k ?_
 simp only[oC,r0b,pC,i1,Tryd.f4,Option.getD_some,List.size_toArray,List.length_cons,List.length_nil,Nat.reduceAdd,Nat.zero_add,List.range,List.range.loop]
 iterate 2 refine oT ?_
 refine ogE<|ogYn A0Y<|ogW A0J .ret ?_
 simp only[oC,A0J,pC,i1,Tryd.f4,Option.getD_some,List.size_toArray,List.length_cons,List.length_nil,Nat.reduceAdd,Nat.zero_add,List.range,List.range.loop]
 refine oT ?_
 refine ogE<|ogX ?_
 exact h _ _ rfl
theorem C0H{nn:Nat}(hU:i2 F nn)(hn:nn≤w.heap.size){nv:Int}{oa:Option Addr}{ol oq:Nat}{xb rb:Nat}{A:Array Value}(hA:G0 140 A [(0,.int .i64 nv),(1,.slice oa ol oq),(5,.pointer (some ⟨xb,0,none⟩)),(6,.int .i64 0)])
 (h:∀A,G0 140 A [(0,.int .i64 nv),(1,.slice oa ol oq),(5,.pointer (some ⟨xb,0,none⟩)),(7,.pointer (some ⟨rb,0,none⟩)),(9,.pointer (some ⟨w.heap.size,0,none⟩)),(10,.int .i64 (0:Nat))]→J0 Tryd.prog main F Stop (G ((Go.Conc.base 4).at ⟨A,[]⟩ [.inRegion (oC x6) [0,1,2,3,4,5,6,7],.code m9,.code v8,.inLoop x4,.inBlock 0,.code I4]) cs) (w.alloc (.cells #[.int .i64 0] 42))):
 J0 Tryd.prog main F Stop (G (((Go.Conc.base 4).at ⟨A,[]⟩ [.inRegion (oC i0g) [1,2,3,4,5,6],.code j0y]).finish (.tuple #[.pointer (some ⟨rb,0,none⟩),.bool true])) cs) w:=by
 obtain⟨hsz,h0,h1,h5,h6,_⟩:=hA
 obtain⟨s,rfl⟩:=C0y hsz
 change s 0=_ at h0
 change s 1=_ at h1
 change s 5=_ at h5
 change s 6=_ at h6
 clear hsz
 simp only[x5,h0,h1,h5,h6]
 clear h0 h1 h5 h6
 rw[Frame.finish_at]
 simp only[oC,i0g,pC,i1,Tryd.f4,Option.getD_some,List.size_toArray,List.length_cons,List.length_nil,Nat.reduceAdd,Nat.zero_add,List.range,List.range.loop]
 walk_nrm
 iterate 5 (refine oW fun dd K hK=>?_;go_simp;refine qT hK ?_;clear hK K)
 refine ogE ?_
 refine F0v C07 ?_
 refine ogSR C08 C04 ?_
 simp only[oC,r0a,pC,i1,Tryd.f4,Option.getD_some,List.size_toArray,List.length_cons,List.length_nil,Nat.reduceAdd,Nat.zero_add,List.range,List.range.loop]
 iterate 8 (refine oW fun dd K hK=>?_;go_simp;refine qT hK ?_;clear hK K)
 iterate 6 refine ogU rfl rfl ?_
 iterate 2 (refine oW fun dd K hK=>?_;go_simp;refine qT hK ?_;clear hK K)
 refine ogE ?_
 rw[C0R]
 refine ogF ?_
 simp only[Bool.false_eq_true,if_false]
 refine ogK ?_
 refine F0v C09 ?_
 refine ogSR C0X C05 ?_
 simp only[oC,r0b,pC,i1,Tryd.f4,Option.getD_some,List.size_toArray,List.length_cons,List.length_nil,Nat.reduceAdd,Nat.zero_add,List.range,List.range.loop]
 iterate 2 (refine oW fun dd K hK=>?_;go_simp;refine qT hK ?_;clear hK K)
 refine ogE ?_
 rw[C0S]
 refine ogF ?_
 simp only[Bool.false_eq_true,if_false]
 refine ogK ?_
 refine ogSR C0Y C06 ?_
 simp only[oC,A0K,pC,i1,Tryd.f4,Option.getD_some,List.size_toArray,List.length_cons,List.length_nil,Nat.reduceAdd,Nat.zero_add,List.range,List.range.loop]
 (refine oW fun dd K hK=>?_;go_simp;refine qT hK ?_;clear hK K)
 (refine oW fun dd K hK=>?_;go_simp;refine qA hK hU ?_;clear hK K)
 (refine oW fun dd K hK=>?_;go_simp;refine qT hK ?_;clear hK K)
 refine ogE ?_
 refine F0v C0Z ?_
 refine ogSR C00 C0U ?_
 simp only[oC,y0v,pC,i1,Tryd.f4,Option.getD_some,List.size_toArray,List.length_cons,List.length_nil,Nat.reduceAdd,Nat.zero_add,List.range,List.range.loop]
 (refine oW fun dd K hK=>?_;go_simp;refine qT hK ?_;clear hK K)
 refine ogE ?_
 rw[A0V]
 refine L7 ?_
 rw[z0X]
 refine ogP ?_
 refine F0v C01 ?_
 refine ogSR C02 C0V ?_
 simp only[oC,x6,pC,i1,Tryd.f4,Option.getD_some,List.size_toArray,List.length_cons,List.length_nil,Nat.reduceAdd,Nat.zero_add,List.range,List.range.loop]
 refine h _ ?_
 exact⟨rfl,rfl,rfl,rfl,rfl,rfl,rfl,trivial⟩
theorem A04{nv:Int}{oa:Option Addr}{ol oq xb rb sb:Nat}{A:Array Value}(hA:G0 140 A [(0,.int .i64 nv),(1,.slice oa ol oq),(5,.pointer (some ⟨xb,0,none⟩)),(7,.pointer (some ⟨rb,0,none⟩)),(9,.pointer (some ⟨sb,0,none⟩)),(10,.int .i64 (ol:Nat))])
 (h:∀A t,A.getD 4 undef= .bool true→J0 Tryd.prog main F Stop (G {(Go.Conc.base 4).at ⟨A,[]⟩ (.code .ret::t)with mode:=.returning} cs) w):
 J0 Tryd.prog main F Stop (G ((Go.Conc.base 4).at ⟨A,[]⟩ [.inRegion (oC x6) [0,1,2,3,4,5,6,7],.code m9,.code v8,.inLoop x4,.inBlock 0,.code I4]) cs) w:=by
 obtain⟨hsz,h0,h1,h5,h7,h9,h10,_⟩:=hA
 obtain⟨s,rfl⟩:=C0y hsz
 change s 0=_ at h0
 change s 1=_ at h1
 change s 5=_ at h5
 change s 7=_ at h7
 change s 9=_ at h9
 change s 10=_ at h10
 clear hsz
 simp only[x5,h0,h1,h5,h7,h9,h10]
 clear h0 h1 h5 h7 h9 h10
 have hd:decide ((ol:Int)<(ol:Int))=false:=by simp
 have hd2:decide (ol<ol)=false:=by simp
 simp only[oC,x6,pC,i1,Tryd.f4,Option.getD_some,List.size_toArray,List.length_cons,List.length_nil,Nat.reduceAdd,Nat.zero_add,List.range,List.range.loop]
 iterate 5 (refine oW fun dd K hK=>?_;go_simp;refine qT hK ?_;clear hK K)
 iterate 2 refine ogU rfl rfl ?_
 (refine oW fun dd K hK=>?_;go_simp;refine qT hK ?_;clear hK K)
 refine ogE ?_
 rw[C0T]
 refine ogF ?_
 simp only[Bool.false_eq_true,if_false]
 refine M0 rfl (fun d=>stepG_exit rfl) ?_
 refine ogSR C03 C0W ?_
 simp only[oC,y08,pC,i1,Tryd.f4,Option.getD_some,List.size_toArray,List.length_cons,List.length_nil,Nat.reduceAdd,Nat.zero_add,List.range,List.range.loop]
 iterate 3 (refine oW fun dd K hK=>?_;go_simp;refine qT hK ?_;clear hK K)
 refine ogE ?_
 refine ogX ?_
 exact h _ _ rfl
theorem C0I{nn:Nat}(hU:i2 F nn)(hn:nn≤w.heap.size){nv kd a b c0:Int}{pb po ol oq xb rb sb i:Nat}(f0:w.cell? ⟨pb,po+i*4,none⟩=some (vI kd))(f1:w.cell? ⟨pb,po+i*4+1,none⟩=some (vI a))(f2:w.cell? ⟨pb,po+i*4+2,none⟩=some (vI b))(f3:w.cell? ⟨pb,po+i*4+3,none⟩=some (vI c0))(hi:i<ol){A:Array Value}(hA:G0 140 A [(0,vI nv),(1,vL pb po ol oq),(5,vP xb 0),(7,vP rb 0),(9,vP sb 0),(10,vI (i:Nat))])
 (h:∀A,G0 140 A [(0,vI nv),(1,vL pb po ol oq),(5,vP xb 0),(7,vP rb 0),(9,vP sb 0),(10,vI (i:Nat)),(11,vP w.heap.size 0)]→J0 Tryd.prog main F Stop (G (bA 4 A [.inRegion (oC b0j) [0,1,2,3],.code f0o,.inBlock 1,.code v5,.inLoop x4,.inBlock 0,.code I4]) cs) (w.alloc (.cells #[vI kd,vI a,vI b,vI c0] 44))):
 J0 Tryd.prog main F Stop (G (bA 4 A [.inRegion (oC x6) [0,1,2,3,4,5,6,7],.code m9,.code v8,.inLoop x4,.inBlock 0,.code I4]) cs) w:=by
 obtain⟨s,rfl,h0,h1,h5,h7,h9,h10,_⟩:=Y3 x5 hA
 simp only[x5,h0,h1,h5,h7,h9,h10]
 clear h0 h1 h5 h7 h9 h10
 have hd:decide ((i:Int)<(ol:Int))=true:=by simp;omega
 have hd2:decide (i<ol)=true:=by simp;omega
 have hin:(i:Int)<(ol:Int):=by omega
 simp only[oC,x6,pC,i1,Tryd.f4,Option.getD_some,List.size_toArray,List.length_cons,List.length_nil,Nat.reduceAdd,Nat.zero_add,List.range,List.range.loop]
 iterate 8 refine oT ?_
 refine ogE<|ogYn .skip<|ogK<|ogV y0s v5 ?_
 rw[A0W]
 refine L7<|ogW y0G z0c ?_
 simp only[oC,y0G,pC,i1,Tryd.f4,Option.getD_some,List.size_toArray,List.length_cons,List.length_nil,Nat.reduceAdd,Nat.zero_add,List.range,List.range.loop]
 iterate 2 refine oT ?_
 refine oX ?_
 (refine oW fun dd K hK=>?_;go_simp;refine hK _ _ ⟨⟨⟨0,V3.refl _ _⟩,fun e he=>by(have hm:=mem_listed he;clear he hK;simp[go_sem,f0,f1,f2,f3]at hm;rcases hm with rfl|rfl|rfl|rfl<;>exact I1 _ _)⟩,J0.at ?_ dd⟩;clear hK K)
 refine oA hU ?_
 (refine oW fun dd K hK=>?_;go_simp;refine hK _ _ ⟨⟨⟨0,e0L (fun k=>O4 hU (show nn≤w.heap.size by omega)) _ _ _ _⟩,fun e he=>by(have hm:=mem_listed he;clear he hK;simp[go_sem,storedEv]at hm;rcases hm with rfl|rfl|rfl|rfl<;>exact U0 _ _ ((fun k=>O4 hU (show nn≤w.heap.size by omega)) _))⟩,?_⟩;clear hK K;simp only[setCell_at'];refine J0.at ?_ dd)
 rw[t0z]
 refine ogE<|ogW b0j f0o ?_
 simp only[oC,b0j,pC,i1,Tryd.f4,Option.getD_some,List.size_toArray,List.length_cons,List.length_nil,Nat.reduceAdd,Nat.zero_add,List.range,List.range.loop]
 refine h _ ?_
 exact⟨rfl,rfl,rfl,rfl,rfl,rfl,rfl,rfl,trivial⟩
end
section
variable {cs:List Frame}{main:Bool}{Stop:Goroutine→World→Prop}
variable{F:Fz}{w:World}
theorem C0J{nv:Int}{pb po ol oq xb rb sb i:Nat}{kd a b c0:Int}{qb:Nat}(hs:OpF qb kd a b c0 w){A:Array Value}(hA:G0 140 A [(0,vI nv),(1,vL pb po ol oq),(5,vP xb 0),(7,vP rb 0),(9,vP sb 0),(10,vI (i:Nat)),(11,vP qb 0)])
 (h:∀A,G0 140 A [(0,vI nv),(1,vL pb po ol oq),(5,vP xb 0),(7,vP rb 0),(9,vP sb 0),(10,vI (i:Nat)),(11,vP qb 0)]→J0 Tryd.prog main F Stop (G (Frame.enter Tryd.prog 13 #[vP rb 0,.agg #[vI kd,vI a,vI b,vI c0]] .normal) ((bA 4 A [.inRegion (oC b0j) [2,3],.code f0o,.inBlock 1,.code v5,.inLoop x4,.inBlock 0,.code I4])::cs)) w):
 J0 Tryd.prog main F Stop (G (bA 4 A [.inRegion (oC b0j) [0,1,2,3],.code f0o,.inBlock 1,.code v5,.inLoop x4,.inBlock 0,.code I4]) cs) w:=by
 obtain⟨s,rfl,h0,h1,h5,h7,h9,h10,h11,_⟩:=Y3 x5 hA
 simp only[x5,h0,h1,h5,h7,h9,h10,h11]
 clear h0 h1 h5 h7 h9 h10 h11
 have cb0:=hs.f0
 have cb1:=hs.f1
 have cb2:=hs.f2
 have cb3:=hs.f3
 simp only[oC,b0j,pC,i1,Tryd.f4,Option.getD_some,List.size_toArray,List.length_cons,List.length_nil,Nat.reduceAdd,Nat.zero_add,List.range,List.range.loop]
 refine oT ?_
 (refine oW fun dd K hK=>?_;go_simp;refine hK _ _ ⟨⟨⟨0,V3.refl _ _⟩,fun e he=>by(have hm:=mem_listed he;clear he hK;simp[go_sem,cb0,cb1,cb2,cb3]at hm;rcases hm with rfl|rfl|rfl|rfl<;>exact I1 _ _)⟩,J0.at ?_ dd⟩;clear hK K)
 refine oc q0i #[vP rb 0,.agg #[vI kd,vI a,vI b,vI c0]] ?_
 refine h _ ?_
 exact⟨rfl,rfl,rfl,rfl,rfl,rfl,rfl,rfl,trivial⟩
theorem C0K{nv:Int}{pb po ol oq xb rb sb i:Nat}{qb cb:Nat}{nq:Int}(hc:w.cell? ⟨sb,0,none⟩=some (vI nq)){A:Array Value}(hA:G0 140 A [(0,vI nv),(1,vL pb po ol oq),(5,vP xb 0),(7,vP rb 0),(9,vP sb 0),(10,vI (i:Nat)),(11,vP qb 0)])
 (h:∀A,G0 140 A [(0,vI nv),(1,vL pb po ol oq),(5,vP xb 0),(7,vP rb 0),(9,vP sb 0),(10,vI (i:Nat)),(11,vP qb 0),(12,vP cb 0),(13,vI nq)]→J0 Tryd.prog main F Stop (G (bA 4 A [.code bqcb2,.code l0Z,.inBlock 1,.code v5,.inLoop x4,.inBlock 0,.code I4]) cs) w):
 J0 Tryd.prog main F Stop (G ((bA 4 A [.inRegion (oC b0j) [2,3],.code f0o,.inBlock 1,.code v5,.inLoop x4,.inBlock 0,.code I4]).finish (vP cb 0)) cs) w:=by
 obtain⟨s,rfl,h0,h1,h5,h7,h9,h10,h11,_⟩:=Y3 x5 hA
 simp only[x5,h0,h1,h5,h7,h9,h10,h11]
 clear h0 h1 h5 h7 h9 h10 h11
 rw[Frame.finish_at]
 simp only[oC,b0j,pC,i1,Tryd.f4,Option.getD_some,List.size_toArray,List.length_cons,List.length_nil,Nat.reduceAdd,Nat.zero_add,List.range,List.range.loop]
 walk_nrm
 refine oT ?_
 refine ogE<|ogW y06 z0d ?_
 simp only[oC,y06,pC,i1,Tryd.f4,Option.getD_some,List.size_toArray,List.length_cons,List.length_nil,Nat.reduceAdd,Nat.zero_add,List.range,List.range.loop]
 iterate 3 refine oT ?_
 refine oL ?_
 refine oT ?_
 refine ogE<|ogV bqcb2 l0Z ?_
 refine h _ ?_
 exact⟨rfl,rfl,rfl,rfl,rfl,rfl,rfl,rfl,rfl,rfl,trivial⟩
theorem C0M{nv:Int}{pb po ol oq xb rb sb i:Nat}{kd a b c0:Int}{qb:Nat}{cb:Nat}{nq:Int}(hs:OpF qb kd a b c0 w){A:Array Value}(hA:G0 140 A [(0,vI nv),(1,vL pb po ol oq),(5,vP xb 0),(7,vP rb 0),(9,vP sb 0),(10,vI (i:Nat)),(11,vP qb 0),(12,vP cb 0),(13,vI nq)])
 (h:∀A,G0 140 A [(0,vI nv),(1,vL pb po ol oq),(5,vP xb 0),(7,vP rb 0),(9,vP sb 0),(10,vI (i:Nat)),(11,vP qb 0),(12,vP cb 0),(13,vI nq)]→J0 Tryd.prog main F Stop (G (Frame.enter Tryd.prog 15 #[vP xb 0,vP sb 0,.agg #[vI kd,vI a,vI b,vI c0]] .normal) ((bA 4 A [.inRegion (oC h0X) [3,4,5],.code i0j,.inBlock 1,.code v5,.inLoop x4,.inBlock 0,.code I4])::cs)) w):
 J0 Tryd.prog main F Stop (G (bA 4 A [.code l0Z,.inBlock 1,.code v5,.inLoop x4,.inBlock 0,.code I4]) cs) w:=by
 obtain⟨s,rfl,h0,h1,h5,h7,h9,h10,h11,h12,h13,_⟩:=Y3 x5 hA
 simp only[x5,h0,h1,h5,h7,h9,h10,h11,h12,h13]
 clear h0 h1 h5 h7 h9 h10 h11 h12 h13
 have cb0:=hs.f0
 have cb1:=hs.f1
 have cb2:=hs.f2
 have cb3:=hs.f3
 refine ogW h0X i0j ?_
 simp only[oC,h0X,pC,i1,Tryd.f4,Option.getD_some,List.size_toArray,List.length_cons,List.length_nil,Nat.reduceAdd,Nat.zero_add,List.range,List.range.loop]
 iterate 2 refine oT ?_
 (refine oW fun dd K hK=>?_;go_simp;refine hK _ _ ⟨⟨⟨0,V3.refl _ _⟩,fun e he=>by(have hm:=mem_listed he;clear he hK;simp[go_sem,cb0,cb1,cb2,cb3]at hm;rcases hm with rfl|rfl|rfl|rfl<;>exact I1 _ _)⟩,J0.at ?_ dd⟩;clear hK K)
 refine oc q0j #[vP xb 0,vP sb 0,.agg #[vI kd,vI a,vI b,vI c0]] ?_
 refine h _ ?_
 exact⟨rfl,rfl,rfl,rfl,rfl,rfl,rfl,rfl,rfl,rfl,trivial⟩
theorem C0N{nn:Nat}(hU:i2 F nn)(hn:nn≤w.heap.size){nv:Int}{pb po ol oq xb rb sb i:Nat}{qb cb:Nat}{nq:Int}{ok:Bool}{v:Int}{la:Option Addr}{ll lc:Nat}{A:Array Value}(hA:G0 140 A [(0,vI nv),(1,vL pb po ol oq),(5,vP xb 0),(7,vP rb 0),(9,vP sb 0),(10,vI (i:Nat)),(11,vP qb 0),(12,vP cb 0),(13,vI nq)])
 (h:∀A,G0 140 A [(0,vI nv),(1,vL pb po ol oq),(5,vP xb 0),(7,vP rb 0),(9,vP sb 0),(10,vI (i:Nat)),(11,vP qb 0),(12,vP cb 0),(13,vI nq),(14,vP w.heap.size 0)]→J0 Tryd.prog main F Stop (G (bA 4 A [.code bqcr20,.code f09,.code l09,.inBlock 1,.code v5,.inLoop x4,.inBlock 0,.code I4]) cs) (w.alloc (.cells #[.bool ok,vI v,.slice la ll lc] 49))):
 J0 Tryd.prog main F Stop (G ((bA 4 A [.inRegion (oC h0X) [3,4,5],.code i0j,.inBlock 1,.code v5,.inLoop x4,.inBlock 0,.code I4]).finish (.agg #[.bool ok,vI v,.slice la ll lc])) cs) w:=by
 obtain⟨s,rfl,h0,h1,h5,h7,h9,h10,h11,h12,h13,_⟩:=Y3 x5 hA
 simp only[x5,h0,h1,h5,h7,h9,h10,h11,h12,h13]
 clear h0 h1 h5 h7 h9 h10 h11 h12 h13
 rw[Frame.finish_at]
 simp only[oC,h0X,pC,i1,Tryd.f4,Option.getD_some,List.size_toArray,List.length_cons,List.length_nil,Nat.reduceAdd,Nat.zero_add,List.range,List.range.loop]
 walk_nrm
 refine oA hU ?_
 (refine oW fun dd K hK=>?_;go_simp;refine hK _ _ ⟨⟨⟨0,K6 (fun k=>O4 hU (show nn≤w.heap.size by omega)) _ _ _⟩,fun e he=>by(have hm:=mem_listed he;clear he hK;simp[go_sem,storedEv]at hm;rcases hm with rfl|rfl|rfl<;>exact U0 _ _ ((fun k=>O4 hU (show nn≤w.heap.size by omega)) _))⟩,?_⟩;clear hK K;simp only[setCell_at'];refine J0.at ?_ dd)
 rw[e0m]
 refine ogE<|ogV z0e l09<|ogV bqcr20 f09 ?_
 refine h _ ?_
 exact⟨rfl,rfl,rfl,rfl,rfl,rfl,rfl,rfl,rfl,rfl,rfl,trivial⟩
theorem C0O{nv:Int}{pb po ol oq xb rb sb i:Nat}{A:Array Value}(hA:G0 140 A [(0,vI nv),(1,vL pb po ol oq),(5,vP xb 0),(7,vP rb 0),(9,vP sb 0),(10,vI (i:Nat)),(110,.bool false)])
 (h:∀A,G0 140 A [(0,vI nv),(1,vL pb po ol oq),(5,vP xb 0),(7,vP rb 0),(9,vP sb 0),(10,vI (i:Nat))]→J0 Tryd.prog main F Stop (G (Frame.enter Tryd.prog 18 #[vP xb 0,.nilIface,vI (-1)] .normal) ((bA 4 A [.inRegion (oC h0Z) [1,2,3,4,5,6],.code m0b,.inBlock 1,.code v5,.inLoop x4,.inBlock 0,.code I4])::cs)) w):
 J0 Tryd.prog main F Stop (G (bA 4 A [.code f09,.code l09,.inBlock 1,.code v5,.inLoop x4,.inBlock 0,.code I4]) cs) w:=by
 obtain⟨s,rfl,h0,h1,h5,h7,h9,h10,h110,_⟩:=Y3 x5 hA
 simp only[x5,h0,h1,h5,h7,h9,h10,h110]
 clear h0 h1 h5 h7 h9 h10 h110
 refine ogGn .skip<|ogK<|ogW h0Z m0b ?_
 simp only[oC,h0Z,pC,i1,Tryd.f4,Option.getD_some,List.size_toArray,List.length_cons,List.length_nil,Nat.reduceAdd,Nat.zero_add,List.range,List.range.loop]
 refine oT ?_
 refine oc e0o #[vP xb 0,.nilIface,vI (-1)] ?_
 refine h _ ?_
 exact⟨rfl,rfl,rfl,rfl,rfl,rfl,rfl,trivial⟩
theorem C0q{nv:Int}{pb po ol oq xb rb sb i:Nat}{A:Array Value}(hA:G0 140 A [(0,vI nv),(1,vL pb po ol oq),(5,vP xb 0),(7,vP rb 0),(9,vP sb 0),(10,vI (i:Nat))])
 (h:∀A,G0 140 A [(0,vI nv),(1,vL pb po ol oq),(5,vP xb 0),(7,vP rb 0),(9,vP sb 0),(10,vI (i:Nat)),(16,vI 1)]→J0 Tryd.prog main F Stop (G (Frame.enter Tryd.prog 19 #[vP xb 0,.nilIface,vI nv] .normal) ((bA 4 A [.inRegion (oC h03) [2,3,4,5,6,7],.code m0h,.inBlock 1,.code v5,.inLoop x4,.inBlock 0,.code I4])::cs)) w):
 J0 Tryd.prog main F Stop (G ((bA 4 A [.inRegion (oC h0Z) [1,2,3,4,5,6],.code m0b,.inBlock 1,.code v5,.inLoop x4,.inBlock 0,.code I4]).finish (.tuple #[.bool false,vI 1])) cs) w:=by
 obtain⟨s,rfl,h0,h1,h5,h7,h9,h10,_⟩:=Y3 x5 hA
 simp only[x5,h0,h1,h5,h7,h9,h10]
 clear h0 h1 h5 h7 h9 h10
 rw[Frame.finish_at]
 simp only[oC,h0Z,pC,i1,Tryd.f4,Option.getD_some,List.size_toArray,List.length_cons,List.length_nil,Nat.reduceAdd,Nat.zero_add,List.range,List.range.loop]
 walk_nrm
 iterate 5 refine oT ?_
 refine ogE<|ogW h03 m0h ?_
 simp only[oC,h03,pC,i1,Tryd.f4,Option.getD_some,List.size_toArray,List.length_cons,List.length_nil,Nat.reduceAdd,Nat.zero_add,List.range,List.range.loop]
 iterate 2 refine oT ?_
 refine oc a0Z #[vP xb 0,.nilIface,vI nv] ?_
 refine h _ ?_
 exact⟨rfl,rfl,rfl,rfl,rfl,rfl,rfl,rfl,trivial⟩
theorem C0r{nv:Int}{pb po ol oq xb rb sb i:Nat}{A:Array Value}(hA:G0 140 A [(0,vI nv),(1,vL pb po ol oq),(5,vP xb 0),(7,vP rb 0),(9,vP sb 0),(10,vI (i:Nat)),(16,vI 1)])
 (h:∀A,G0 140 A [(0,vI nv),(1,vL pb po ol oq),(5,vP xb 0),(7,vP rb 0),(9,vP sb 0),(10,vI (i:Nat)),(16,vI 1),(18,vI 1)]→J0 Tryd.prog main F Stop (G (Frame.enter Tryd.prog 20 #[vP xb 0,.nilIface,vI nv] .normal) ((bA 4 A [.inRegion (oC h04) [2,3,4,5,6,7],.code m0w,.inBlock 1,.code v5,.inLoop x4,.inBlock 0,.code I4])::cs)) w):
 J0 Tryd.prog main F Stop (G ((bA 4 A [.inRegion (oC h03) [2,3,4,5,6,7],.code m0h,.inBlock 1,.code v5,.inLoop x4,.inBlock 0,.code I4]).finish (.tuple #[.bool false,vI 1])) cs) w:=by
 obtain⟨s,rfl,h0,h1,h5,h7,h9,h10,h16,_⟩:=Y3 x5 hA
 simp only[x5,h0,h1,h5,h7,h9,h10,h16]
 clear h0 h1 h5 h7 h9 h10 h16
 rw[Frame.finish_at]
 simp only[oC,h03,pC,i1,Tryd.f4,Option.getD_some,List.size_toArray,List.length_cons,List.length_nil,Nat.reduceAdd,Nat.zero_add,List.range,List.range.loop]
 walk_nrm
 iterate 5 refine oT ?_
 refine ogE<|ogW h04 m0w ?_
 simp only[oC,h04,pC,i1,Tryd.f4,Option.getD_some,List.size_toArray,List.length_cons,List.length_nil,Nat.reduceAdd,Nat.zero_add,List.range,List.range.loop]
 iterate 2 refine oT ?_
 refine oc j0o #[vP xb 0,.nilIface,vI nv] ?_
 refine h _ ?_
 exact⟨rfl,rfl,rfl,rfl,rfl,rfl,rfl,rfl,rfl,trivial⟩
theorem C0s{nv:Int}{pb po ol oq xb rb sb i:Nat}(hi:i<9223372036854775807){A:Array Value}(hA:G0 140 A [(0,vI nv),(1,vL pb po ol oq),(5,vP xb 0),(7,vP rb 0),(9,vP sb 0),(10,vI (i:Nat)),(16,vI 1),(18,vI 1)])
 (h:∀A,G0 140 A [(0,vI nv),(1,vL pb po ol oq),(5,vP xb 0),(7,vP rb 0),(9,vP sb 0),(10,vI (i+1:Nat))]→J0 Tryd.prog main F Stop (G (bA 4 A [.inRegion (oC x6) [0,1,2,3,4,5,6,7],.code m9,.code v8,.inLoop x4,.inBlock 0,.code I4]) cs) w):
 J0 Tryd.prog main F Stop (G ((bA 4 A [.inRegion (oC h04) [2,3,4,5,6,7],.code m0w,.inBlock 1,.code v5,.inLoop x4,.inBlock 0,.code I4]).finish (.tuple #[.bool false,vI 1])) cs) w:=by
 obtain⟨s,rfl,h0,h1,h5,h7,h9,h10,h16,h18,_⟩:=Y3 x5 hA
 simp only[x5,h0,h1,h5,h7,h9,h10,h16,h18]
 clear h0 h1 h5 h7 h9 h10 h16 h18
 have hk64:IntKind.i64.wrap ((i:Int)+1)=(i:Int)+1:=IntWalk.i64_in _ (by omega)
 rw[Frame.finish_at]
 simp only[oC,h04,pC,i1,Tryd.f4,Option.getD_some,List.size_toArray,List.length_cons,List.length_nil,Nat.reduceAdd,Nat.zero_add,List.range,List.range.loop]
 walk_nrm
 iterate 5 refine oT ?_
 refine ogE<|ogW y07 q0U ?_
 simp only[oC,y07,pC,i1,Tryd.f4,Option.getD_some,List.size_toArray,List.length_cons,List.length_nil,Nat.reduceAdd,Nat.zero_add,List.range,List.range.loop]
 iterate 10 refine oT ?_
 refine ogE<|ogGn .skip<|ogK<|ogI ?_
 rw[z0Y]
 refine ogR ?_
 simp only[oC,v5,pC,i1,Tryd.f4,Option.getD_some,List.size_toArray,List.length_cons,List.length_nil,Nat.reduceAdd,Nat.zero_add,List.range,List.range.loop]
 iterate 3 refine oT ?_
 refine ogE<|ogL<|ogV p0p v8<|ogW x6 m9 ?_
 simp only[oC,x6,pC,i1,Tryd.f4,Option.getD_some,List.size_toArray,List.length_cons,List.length_nil,Nat.reduceAdd,Nat.zero_add,List.range,List.range.loop]
 refine h _ ?_
 exact⟨rfl,rfl,rfl,rfl,rfl,rfl,rfl,trivial⟩
end
section
variable{w w':World}
theorem n0E(i:Nat):IntKind.u64.wrap (2 ^ (i % 64))=((bitI i).toNat:Int):=by
 have:=e0e (i % 64)
 rw[Int.one_mul]at this
 exact this
theorem O6(i:Nat):Calls Tryd.prog 56 #[vI (i:Nat)] w fun x w'=>x= .returned (wV (bitI i))∧w'=w:=by
 have h1:((i:Int).tmod 64)=((i % 64:Nat):Int):=by rw[Int.tmod_eq_emod_of_nonneg (by omega)];omega
 have h2:IntKind.u64.wrap ((i % 64:Nat):Int)=((i % 64:Nat):Int):=by rw[IntKind.wrap_u64];omega
 have h3:=n0E i
 go_enter Tryd.func56,Tryd.ntmps56
 go_wp2
 go_ret
 exact⟨congrArg (fun z=>Ending.returned (Value.int .u64 z)) h3,rfl⟩
theorem b0O(x:BitVec 64)(i:Nat):(bits .and .u64 (x.toNat:Int) ((bitI i).toNat:Int) == 0)= !x.getLsbD (i % 64):=by
 have:=b0s x i
 rw[← this]
 simp[bne]
theorem q0Z{n w k:Nat}{x:BitVec 64}(hk:k<64)(hn:w*64+k<n)(hb:x.getLsbD k=false)(hl:∀j,j<k→w*64+j<n→x.getLsbD j=true):G4 n w x=some k:=by
 unfold G4
 rw[List.find?_range_eq_some]
 refine⟨by simp[hn,hb],List.mem_range.2 hk,fun j hj=>?_⟩
 by_cases h:w*64+j<n
 ·simp[hl j hj h]
 ·simp[h]
theorem l0w{n w:Nat}{x:BitVec 64}(hl:∀j,j<64→w*64+j<n→x.getLsbD j=true):G4 n w x=none:=by
 unfold G4
 rw[List.find?_eq_none]
 intro j hj
 have hj:=List.mem_range.1 hj
 by_cases h:w*64+j<n
 ·simp[hl j hj h]
 ·simp[h]
def d04(n w:Nat)(x:BitVec 64):Value:=match G4 n w x with
 | some j=>.tuple #[.int .i64 ((w*64+j:Nat):Int),.bool true]
 | none=>.tuple #[.int .i64 0,.bool false]
theorem c0H{xb wb:Nat}{k:V0}(h:RS xb wb k w)(hn:k.n≤65536)(wd:Nat)(hw:wd≤2000)(x:BitVec 64):Calls Tryd.prog 58 #[vP xb 0,vI (wd:Nat),wV x] w fun y w'=>y= .returned (d04 k.n wd x)∧w'=w:=by
 have H:Aside (RS xb wb k w):=h
 have c0:=(V1 h.o (j:=0) rfl).1
 clear h
 have w1:IntKind.i64.wrap ((wd:Int)*64)=((wd*64:Nat):Int):=by rw[IntWalk.i64_in _ (by omega)];omega
 have w2:IntKind.i64.wrap (((wd*64:Nat):Int)+64)=((wd*64+64:Nat):Int):=by rw[IntWalk.i64_in _ (by omega)];omega
 go_enter Tryd.func58,Tryd.ntmps58
 go_wp2
 go_loopg [8] 65 (fun g i u=>∃j:Nat,j≤64∧(∀q,q<j→wd*64+q<k.n→x.getLsbD q=true)∧i=vI ((wd*64+j:Nat):Int)∧g=65 - j∧u=w)
 case atStart=>exact⟨0,Nat.zero_le _,fun q hq=>by omega,rfl,rfl,rfl⟩
 case round=>
  obtain⟨j,hj,hl0,rfl,rfl,rfl⟩:=hrel
  have L:Aside (∀q,q<j→wd*64+q<k.n→x.getLsbD q=true):=hl0
  clear hl0
  have e0:IntKind.i64.wrap (((wd*64+j:Nat):Int)+1)=((wd*64+(j+1):Nat):Int):=by rw[IntWalk.i64_in _ (by omega)];omega
  by_cases hj2:j<64
  ·have d0:decide (((wd*64+j:Nat):Int)<((wd*64+64:Nat):Int))=true:=decide_eq_true (by omega)
   have d0':decide (wd*64+j<wd*64+64)=true:=decide_eq_true (by omega)
   by_cases hlt:wd*64+j<k.n
   ·have d1:decide (((wd*64+j:Nat):Int)<(k.n:Int))=true:=decide_eq_true (by omega)
    have d1':decide (wd*64+j<k.n)=true:=decide_eq_true (by omega)
    have hm:(wd*64+j) % 64=j:=by omega
    have B:Aside (Calls Tryd.prog 56 #[vI ((wd*64+j:Nat):Int)] wr fun y w'=>y= .returned (wV (bitI (wd*64+j)))∧w'=wr):=O6 _
    cases hb:x.getLsbD j with
    | false=>
      have hx:(bits .and .u64 (x.toNat:Int) ((bitI (wd*64+j)).toNat:Int) == 0)=true:=by rw[b0O,hm,hb];rfl
      have FA:Aside (G4 k.n wd x=some j):=q0Z hj2 hlt hb L.out
      go_wp2_with (go_at_call 56;refine B.out.mono ?_;rintro e u ⟨rfl,hu⟩;subst hu)
      go_ret2
      refine⟨?_,rfl⟩
      unfold d04
      rw[FA.out]
      have e:((wd*64+j:Nat):Int)=(wd:Int)*64+(j:Int):=by omega
      simp only[e]
      rfl
    | true=>
      have hx:(bits .and .u64 (x.toNat:Int) ((bitI (wd*64+j)).toNat:Int) == 0)=false:=by rw[b0O,hm,hb];rfl
      have L2:Aside (∀q,q<j+1→wd*64+q<k.n→x.getLsbD q=true):=by
       have:∀q,q<j+1→wd*64+q<k.n→x.getLsbD q=true:=fun q hq h=>by
        by_cases e:q=j
        ·subst e;exact hb
        ·exact L.out q (by omega) h
       exact this
      go_wp2_with (go_at_call 56;refine B.out.mono ?_;rintro e u ⟨rfl,hu⟩;subst hu)
      go_roundg (65 - (j+1))
      case measure=>omega
      case rel=>exact⟨j+1,by omega,L2.out,rfl,rfl,rfl⟩
   ·have d1:decide (((wd*64+j:Nat):Int)<(k.n:Int))=false:=decide_eq_false (by omega)
    have d1':decide (wd*64+j<k.n)=false:=decide_eq_false (by omega)
    have FN:Aside (G4 k.n wd x=none):=l0w fun q hq h=>L.out q (by omega) h
    go_wp2
    go_ret2
    refine⟨?_,rfl⟩
    unfold d04
    rw[FN.out]
    rfl
  ·have d0:decide (((wd*64+j:Nat):Int)<((wd*64+64:Nat):Int))=false:=decide_eq_false (by omega)
   have d0':decide (wd*64+j<wd*64+64)=false:=decide_eq_false (by omega)
   have FN:Aside (G4 k.n wd x=none):=l0w fun q hq h=>L.out q (by omega) h
   go_wp2
   go_ret2
   refine⟨?_,rfl⟩
   unfold d04
   rw[FN.out]
   rfl
end
section
variable{w w':World}
theorem RS.word{xb wb:Nat}{k:V0}(h:RS xb wb k w){i:Nat}(hi:i<k.ws.length):w.cell? ⟨wb,i,none⟩=some (wV (k.wd i))∧w.frozen? ⟨wb,i,none⟩=false:=by
 have:=V1 h.ws (j:=i) (v:=wV (k.wd i)) (by simp[V0.wd,List.getD_eq_getElem?_getD,hi])
 exact this
theorem RS.same{xb wb:Nat}{k:V0}(h:RS xb wb k w)(h1:w'.heap[xb]? =w.heap[xb]?)(h2:w'.heap[wb]? =w.heap[wb]?):RS xb wb k w':=⟨h1.trans h.o,h2.trans h.ws,h.ne⟩
theorem RS.set{xb wb:Nat}{k:V0}(h:RS xb wb k w)(i:Nat)(x:BitVec 64):RS xb wb {k with ws:=k.ws.set i x} (w.setCell ⟨wb,i,none⟩ (wV x)):=by
 refine⟨?_,?_,h.ne⟩
 ·rw[o0 _ _ _ (fun e=>h.ne e),h.o]
  simp
 ·rw[U1 (o:=i) h.ws]
  congr 2
  simp[List.map_set]
structure RP(w w':World)(xb wb cb:Nat)(k:V0)(c:J4):Prop where
 s:RS xb wb k w'
 c:F3 w' cb c
 sz:w'.heap.size=w.heap.size
 o:∀r,r≠cb→r≠wb→w'.heap[r]? =w.heap[r]?
theorem r0r{cb:Nat}{c:J4}(h:F3 w cb c)(p:Int):F3 (w.setCell ⟨cb,2,none⟩ (vI p)) cb {c with ph:=p}:=U1 (o:=2) h _
theorem x0D{x y:BitVec 64}(h:x≠y):((x.toNat:Int) == (y.toNat:Int))=false∧(x.toNat == y.toNat)=false∧(x == y)=false:=by
 have:x.toNat≠y.toNat:=fun e=>h (BitVec.eq_of_toNat_eq e)
 refine⟨?_,?_,?_⟩
 ·simp;omega
 ·simp[this]
 ·simp[h]
def SwR(w w':World)(xb wb cb:Nat)(k:V0)(wd:Nat)(old next:BitVec 64)(c1 c2:J4):Prop:=
 if k.wd wd=old then RP w w' xb wb cb {k with ws:=k.ws.set wd next} c1 else RP w w' xb wb cb k c2
theorem SwR.base{w u w':World}{xb wb cb:Nat}{k:V0}{wd:Nat}{old next:BitVec 64}{c1 c2:J4}(h:SwR w w' xb wb cb k wd old next c1 c2)(e:w.heap=u.heap):SwR u w' xb wb cb k wd old next c1 c2:=by
 unfold SwR at h ⊢
 split at h
 ·rename_i he;rw[if_pos he];exact⟨h.s,h.c,by rw[← e];exact h.sz,by rw[← e];exact h.o⟩
 ·rename_i he;rw[if_neg he];exact⟨h.s,h.c,by rw[← e];exact h.sz,by rw[← e];exact h.o⟩
theorem i0i{xb wb cb:Nat}{k:V0}{rc:J4}(h:RS xb wb k w)(hc:F3 w cb rc)(hne:cb≠wb)(hne2:cb≠xb){wd:Nat}(hw:rc.w=(wd:Int))(hl:wd<k.ws.length)(hl2:k.ws.length≤1024)(next:BitVec 64)(n:Int):
 Calls Tryd.prog 59 #[vP xb 0,vP cb 0,wV next,vI n] w fun y w'=>y= .returned (.tuple #[])∧
  SwR w w' xb wb cb k wd rc.old next {rc with done:=true,ok:=true,n:=n} {rc with ph:=1}:=by
 obtain⟨rkd,ri,rph,rw,rold,rdone,rok,rn,rl⟩:=rc
 simp only at hw
 subst hw
 have H:Aside (RS xb wb k w∧F3 w cb ⟨rkd,ri,rph,(wd:Int),rold,rdone,rok,rn,rl⟩):=⟨h,hc⟩
 have c1:=(V1 h.o (j:=1) rfl).1
 have c3:=(V1 hc (j:=3) rfl).1
 have c4:=(V1 hc (j:=4) rfl).1
 have c2:=(V1 hc (j:=2) rfl).1
 have z2:=(V1 hc (j:=2) rfl).2
 obtain⟨cw,zw⟩:=h.word hl
 have hl3:(wd:Int)<(k.ws.length:Int):=by omega
 have hwb:Aside (wb≠xb∧cb≠wb∧cb≠xb):=⟨fun e=>h.ne e.symm,hne,hne2⟩
 clear h hc
 by_cases he:k.wd wd=rold
 ·rw[he]at cw
  have e1:((rold.toNat:Int) != (rold.toNat:Int))=false:=by simp
  go_enter Tryd.func59,Tryd.ntmps59
  go_wp2
  go_quiet (fail)
  rename_i nq
  go_wp2
  have E39:Aside (∀(u:World),F3 u cb ⟨rkd,ri,rph,(wd:Int),rold,rdone,rok,rn,rl⟩→Calls Tryd.prog 39 #[vP cb 0,.bool true,vI n] u fun x w'=>x= .returned (.tuple #[])∧B4 u w' cb ({(⟨rkd,ri,rph,(wd:Int),rold,rdone,rok,rn,rl⟩:J4)with done:=true,ok:=true,n:=n}:J4).o):=fun u hu=>a0B hu
  have H2:Aside (F3 (((w.drewN nq).setCell ⟨wb,wd,none⟩ (wV next)).drew) cb ⟨rkd,ri,rph,(wd:Int),rold,rdone,rok,rn,rl⟩):=(o0 _ _ _ hne).trans H.out.2
  have f1:(w.drewN nq).cell? ⟨xb,1,none⟩=some (vL wb 0 k.ws.length k.ws.length):=c1
  have f2:(w.drewN nq).cell? ⟨cb,3,none⟩=some (vI (wd:Nat)):=c3
  have f3:(w.drewN nq).cell? ⟨wb,wd,none⟩=some (wV rold):=cw
  have f4:(w.drewN nq).frozen? ⟨wb,wd,none⟩=false:=zw
  have HW:Aside ((w.drewN nq).heap=w.heap):=by exact(rfl:(w.drewN nq).heap=w.heap)
  generalize w.drewN nq=W at f1 f2 f3 f4 H2 HW ⊢
  go_still_tail 10,(by kernel_rfl)
  change wpList _ _ _ _ _ W.drew
  go_wp2_with (go_at_call 39;refine(E39.out _ H2.out).mono ?_;rintro e u ⟨rfl,hu⟩;have U:Aside _:=hu;clear hu)
  go_end0
  refine⟨rfl,?_⟩
  unfold SwR
  rw[if_pos he]
  have hs:=H.out.1.set wd next
  have ho:∀r,r≠cb→u.heap[r]? =(W.setCell ⟨wb,wd,none⟩ (wV next)).heap[r]?:=U.out.old
  have hx:∀r,(W.setCell ⟨wb,wd,none⟩ (wV next)).heap[r]? =(w.setCell ⟨wb,wd,none⟩ (wV next)).heap[r]?:=fun r=>by
   by_cases e:r=wb
   ·subst e
    rw[U1 (o:=wd) (H.out.1.ws),U1 (o:=wd) (show W.heap[r]? =_ by rw[HW.out];exact H.out.1.ws)]
   ·rw[o0 _ _ _ e,o0 _ _ _ e,HW.out]
  refine⟨hs.same ((ho _ hwb.out.2.2.symm).trans (hx _)) ((ho _ hwb.out.2.1.symm).trans (hx _)),U.out.o,?_,fun r h1 h2=>((ho r h1).trans (hx r)).trans (o0 _ _ _ h2)⟩
  rw[U.out.size]
  show(W.setCell ⟨wb,wd,none⟩ (wV next)).heap.size=_
  rw[World.size_setCell,HW.out]
 ·obtain⟨e1,e2,e3⟩:=x0D he
  have e4:(((k.wd wd).toNat:Int) != (rold.toNat:Int))=true:=by simp[bne,e1]
  go_enter Tryd.func59,Tryd.ntmps59
  go_wp2
  go_quiet (fail)
  go_wp2
  refine bodyPost_ret (v:=.tuple #[]) (by simp[results,Tryd.f59,go_sem]) rfl ⟨rfl,?_⟩
  unfold SwR
  rw[if_neg he]
  exact⟨H.out.1.same (o0 _ _ _ (fun e=>hne2 e.symm)) (o0 _ _ _ (fun e=>hne e.symm)),r0r H.out.2 1,by rw[World.size_setCell];rfl,fun r h1 h2=>o0 _ _ _ h1⟩
end
section
variable{w w':World}
theorem RP.of{w W u:World}{xb wb cb:Nat}{k:V0}{c:J4}(h:RS xb wb k w)(hs:W.heap.size=w.heap.size)(ho:∀r,r≠cb→W.heap[r]? =w.heap[r]?)(h2:cb≠wb)(h3:cb≠xb)(hc:F3 W cb c):RP w W xb wb cb k c:=
 ⟨h.same (ho _ h3.symm) (ho _ h2.symm),hc,hs,fun r h1 _=>ho r h1⟩
theorem c0e(x:BitVec 64)(i:Nat)(b:Bool)(h:x.getLsbD (i % 64)=b):(bits .and .u64 (x.toNat:Int) ((bitI i).toNat:Int) != 0)=b:=(b0s x i).trans h
theorem z0p{P:Program}{ops:Array Oper}{o:Oper}{a:Act}{w:World}{K:Act→World→Prop}{Q:Exit→Act→World→Prop}{E:Prop}(hg:o.guard=none)(f:FuncId)(args:Array Value)(v:Value)
 (hr:(execOp a.eval o).run P w= .ok (.enter f args) w) {R:World→Prop} (hC:Calls P f args w fun e w'=>e= .returned v∧R w') (hK:∀w',R w'→K (a.put o.dst v) w'):
 if Region.wanted o (yielded ops a.tmps)=true then Oper.wp P o a w K Q else E:=by
 have hw:Region.wanted o (yielded ops a.tmps)=true:=by simp[Region.wanted,hg]
 rw[if_pos hw]
 unfold Oper.wp
 rw[hr,Oper.upon_enter]
 exact hC.mono fun e w' ⟨h1,h2⟩=>by subst h1;exact hK w' h2
theorem callable56:O1 56:=G2 Tryd.func56 rfl rfl
theorem callable59:O1 59:=G2 Tryd.func59 rfl rfl
theorem v0F{xb wb cb i:Nat}{k:V0}{rold:BitVec 64}{rdone rok:Bool}{rn:Int}{rl:Value}(h:RS xb wb k w)(hc:F3 w cb ⟨3,(i:Int),1,((i / 64:Nat):Int),rold,rdone,rok,rn,rl⟩)(hne:cb≠wb)(hne2:cb≠xb)(hl:i / 64<k.ws.length)(hl2:k.ws.length≤1024)(hb:(k.wd (i / 64)).getLsbD (i % 64)=true):
 Calls Tryd.prog 42 #[vP xb 0,vP cb 0] w fun y w'=>y= .returned (.tuple #[])∧RP w w' xb wb cb k ({(⟨3,(i:Int),1,((i / 64:Nat):Int),rold,rdone,rok,rn,rl⟩:J4)with old:=k.wd (i / 64),done:=true,ok:=true,n:=1}:J4):=by
 have H:Aside (RS xb wb k w∧F3 w cb ⟨3,(i:Int),1,((i / 64:Nat):Int),rold,rdone,rok,rn,rl⟩):=⟨h,hc⟩
 have c1:=(V1 h.o (j:=1) rfl).1
 have c2:=(V1 hc (j:=2) rfl).1
 have c3:=(V1 hc (j:=3) rfl).1
 have c4:=(V1 hc (j:=4) rfl).1
 have z4:=(V1 hc (j:=4) rfl).2
 obtain⟨cw,zw⟩:=h.word hl
 generalize hwd:i / 64=wd at*
 have hl3:(wd:Int)<(k.ws.length:Int):=by omega
 have hwb:Aside (cb≠wb∧cb≠xb):=⟨hne,hne2⟩
 have hx:Aside ((bits .and .u64 ((k.wd wd).toNat:Int) ((bitI i).toNat:Int) != 0)=true):=c0e _ _ _ hb
 clear h hc hb hwd
 go_enter Tryd.func42,Tryd.ntmps42
 go_wp2
 go_still_tail 13,(by kernel_rfl)
 change wpList _ _ _ _ _ w.drew
 go_wp2
 have q:=Y1 (w:=w) (k:=4) (v:=wV (k.wd wd)) H.out.2
 have P:Aside (B4 w ((w.setCell ⟨cb,4,none⟩ (wV (k.wd wd))).drew) cb (⟨3,(i:Int),1,(wd:Int),k.wd wd,rdone,rok,rn,rl⟩:J4).o):=⟨q.size,q.o,q.old⟩
 clear q
 generalize (w.setCell ⟨cb,4,none⟩ (wV (k.wd wd))).drew=W at P ⊢
 have d0:=(V1 P.out.o (j:=0) rfl).1
 have d1:=(V1 P.out.o (j:=1) rfl).1
 have d2:=(V1 P.out.o (j:=2) rfl).1
 have d4:=(V1 P.out.o (j:=4) rfl).1
 have y2:=(V1 P.out.o (j:=2) rfl).2
 have hx2:=hx.out
 clear c1 c2 c3 c4 z4 cw zw
 go_quiet ((go_at_call 56;exact Calls.quiet_of_same (O6 i)))
 rename_i nq
 have P2:Aside (B4 w (W.drewN nq) cb (⟨3,(i:Int),1,(wd:Int),k.wd wd,rdone,rok,rn,rl⟩:J4).o):=⟨P.out.size,P.out.o,P.out.old⟩
 have E39:Aside (∀u:World,u.heap=W.heap→Calls Tryd.prog 39 #[vP cb 0,.bool true,vI 1] u fun x w'=>x= .returned (.tuple #[])∧B4 u w' cb ({(⟨3,(i:Int),1,(wd:Int),k.wd wd,rdone,rok,rn,rl⟩:J4)with done:=true,ok:=true,n:=1}:J4).o):=by
  have:∀u:World,u.heap=W.heap→Calls Tryd.prog 39 #[vP cb 0,.bool true,vI 1] u fun x w'=>x= .returned (.tuple #[])∧B4 u w' cb ({(⟨3,(i:Int),1,(wd:Int),k.wd wd,rdone,rok,rn,rl⟩:J4)with done:=true,ok:=true,n:=1}:J4).o:=fun u hu=>a0B (c:=⟨3,(i:Int),1,(wd:Int),k.wd wd,rdone,rok,rn,rl⟩) (by show u.heap[cb]? =_;rw[hu];exact P.out.o)
  exact this
 go_wp2_with (go_at_call 39;refine(E39.out _ (by rfl)).mono ?_;rintro e u ⟨rfl,hu⟩;have U:Aside (B4 W u cb _):=⟨hu.size,hu.o,hu.old⟩;clear hu)
 go_end0
 refine⟨rfl,?_⟩
 exact RP.of (u:=w) H.out.1 (U.out.size.trans P.out.size) (fun r hr=>(U.out.old r hr).trans (P.out.old r hr)) hwb.out.1 hwb.out.2 U.out.o
theorem v0E{xb wb cb i:Nat}{k:V0}{rold:BitVec 64}{rdone rok:Bool}{rn:Int}{rl:Value}(h:RS xb wb k w)(hc:F3 w cb ⟨3,(i:Int),1,((i / 64:Nat):Int),rold,rdone,rok,rn,rl⟩)(hne:cb≠wb)(hne2:cb≠xb)(hl:i / 64<k.ws.length)(hl2:k.ws.length≤1024)(hb:(k.wd (i / 64)).getLsbD (i % 64)=false):
 Calls Tryd.prog 42 #[vP xb 0,vP cb 0] w fun y w'=>y= .returned (.tuple #[])∧RP w w' xb wb cb k ({(⟨3,(i:Int),1,((i / 64:Nat):Int),rold,rdone,rok,rn,rl⟩:J4)with old:=k.wd (i / 64),done:=true,ok:=true,n:=0}:J4):=by
 have H:Aside (RS xb wb k w∧F3 w cb ⟨3,(i:Int),1,((i / 64:Nat):Int),rold,rdone,rok,rn,rl⟩):=⟨h,hc⟩
 have c1:=(V1 h.o (j:=1) rfl).1
 have c2:=(V1 hc (j:=2) rfl).1
 have c3:=(V1 hc (j:=3) rfl).1
 have c4:=(V1 hc (j:=4) rfl).1
 have z4:=(V1 hc (j:=4) rfl).2
 obtain⟨cw,zw⟩:=h.word hl
 generalize hwd:i / 64=wd at*
 have hl3:(wd:Int)<(k.ws.length:Int):=by omega
 have hwb:Aside (cb≠wb∧cb≠xb):=⟨hne,hne2⟩
 have hx:Aside ((bits .and .u64 ((k.wd wd).toNat:Int) ((bitI i).toNat:Int) != 0)=false):=c0e _ _ _ hb
 clear h hc hb hwd
 go_enter Tryd.func42,Tryd.ntmps42
 go_wp2
 go_still_tail 13,(by kernel_rfl)
 change wpList _ _ _ _ _ w.drew
 go_wp2
 have q:=Y1 (w:=w) (k:=4) (v:=wV (k.wd wd)) H.out.2
 have P:Aside (B4 w ((w.setCell ⟨cb,4,none⟩ (wV (k.wd wd))).drew) cb (⟨3,(i:Int),1,(wd:Int),k.wd wd,rdone,rok,rn,rl⟩:J4).o):=⟨q.size,q.o,q.old⟩
 clear q
 generalize (w.setCell ⟨cb,4,none⟩ (wV (k.wd wd))).drew=W at P ⊢
 have d0:=(V1 P.out.o (j:=0) rfl).1
 have d1:=(V1 P.out.o (j:=1) rfl).1
 have d2:=(V1 P.out.o (j:=2) rfl).1
 have d4:=(V1 P.out.o (j:=4) rfl).1
 have y2:=(V1 P.out.o (j:=2) rfl).2
 have hx2:=hx.out
 clear c1 c2 c3 c4 z4 cw zw
 go_quiet ((go_at_call 56;exact Calls.quiet_of_same (O6 i)))
 rename_i nq
 have P2:Aside (B4 w (W.drewN nq) cb (⟨3,(i:Int),1,(wd:Int),k.wd wd,rdone,rok,rn,rl⟩:J4).o):=⟨P.out.size,P.out.o,P.out.old⟩
 have E39:Aside (∀u:World,u.heap=W.heap→Calls Tryd.prog 39 #[vP cb 0,.bool true,vI 0] u fun x w'=>x= .returned (.tuple #[])∧B4 u w' cb ({(⟨3,(i:Int),1,(wd:Int),k.wd wd,rdone,rok,rn,rl⟩:J4)with done:=true,ok:=true,n:=0}:J4).o):=by
  have:∀u:World,u.heap=W.heap→Calls Tryd.prog 39 #[vP cb 0,.bool true,vI 0] u fun x w'=>x= .returned (.tuple #[])∧B4 u w' cb ({(⟨3,(i:Int),1,(wd:Int),k.wd wd,rdone,rok,rn,rl⟩:J4)with done:=true,ok:=true,n:=0}:J4).o:=fun u hu=>a0B (c:=⟨3,(i:Int),1,(wd:Int),k.wd wd,rdone,rok,rn,rl⟩) (by show u.heap[cb]? =_;rw[hu];exact P.out.o)
  exact this
 go_wp2_with (go_at_call 39;refine(E39.out _ (by rfl)).mono ?_;rintro e u ⟨rfl,hu⟩;have U:Aside (B4 W u cb _):=⟨hu.size,hu.o,hu.old⟩;clear hu)
 go_end0
 refine⟨rfl,?_⟩
 exact RP.of (u:=w) H.out.1 (U.out.size.trans P.out.size) (fun r hr=>(U.out.old r hr).trans (P.out.old r hr)) hwb.out.1 hwb.out.2 U.out.o
theorem v0B{xb wb cb i:Nat}{k:V0}{rold:BitVec 64}{rdone rok:Bool}{rn:Int}{rl:Value}(h:RS xb wb k w)(hc:F3 w cb ⟨1,(i:Int),1,((i / 64:Nat):Int),rold,rdone,rok,rn,rl⟩)(hne:cb≠wb)(hne2:cb≠xb)(hl:i / 64<k.ws.length)(hl2:k.ws.length≤1024)(hb:(k.wd (i / 64)).getLsbD (i % 64)=true):
 Calls Tryd.prog 42 #[vP xb 0,vP cb 0] w fun y w'=>y= .returned (.tuple #[])∧RP w w' xb wb cb k ({(⟨1,(i:Int),1,((i / 64:Nat):Int),rold,rdone,rok,rn,rl⟩:J4)with old:=k.wd (i / 64),done:=true,ok:=true,n:=0}:J4):=by
 have H:Aside (RS xb wb k w∧F3 w cb ⟨1,(i:Int),1,((i / 64:Nat):Int),rold,rdone,rok,rn,rl⟩):=⟨h,hc⟩
 have c1:=(V1 h.o (j:=1) rfl).1
 have c2:=(V1 hc (j:=2) rfl).1
 have c3:=(V1 hc (j:=3) rfl).1
 have c4:=(V1 hc (j:=4) rfl).1
 have z4:=(V1 hc (j:=4) rfl).2
 obtain⟨cw,zw⟩:=h.word hl
 generalize hwd:i / 64=wd at*
 have hl3:(wd:Int)<(k.ws.length:Int):=by omega
 have hwb:Aside (cb≠wb∧cb≠xb):=⟨hne,hne2⟩
 have hx:Aside ((bits .and .u64 ((k.wd wd).toNat:Int) ((bitI i).toNat:Int) != 0)=true):=c0e _ _ _ hb
 clear h hc hb hwd
 go_enter Tryd.func42,Tryd.ntmps42
 go_wp2
 go_still_tail 13,(by kernel_rfl)
 change wpList _ _ _ _ _ w.drew
 go_wp2
 have q:=Y1 (w:=w) (k:=4) (v:=wV (k.wd wd)) H.out.2
 have P:Aside (B4 w ((w.setCell ⟨cb,4,none⟩ (wV (k.wd wd))).drew) cb (⟨1,(i:Int),1,(wd:Int),k.wd wd,rdone,rok,rn,rl⟩:J4).o):=⟨q.size,q.o,q.old⟩
 clear q
 generalize (w.setCell ⟨cb,4,none⟩ (wV (k.wd wd))).drew=W at P ⊢
 have d0:=(V1 P.out.o (j:=0) rfl).1
 have d1:=(V1 P.out.o (j:=1) rfl).1
 have d2:=(V1 P.out.o (j:=2) rfl).1
 have d4:=(V1 P.out.o (j:=4) rfl).1
 have y2:=(V1 P.out.o (j:=2) rfl).2
 have hx2:=hx.out
 clear c1 c2 c3 c4 z4 cw zw
 go_quiet ((go_at_call 56;exact Calls.quiet_of_same (O6 i)))
 rename_i nq
 have P2:Aside (B4 w (W.drewN nq) cb (⟨1,(i:Int),1,(wd:Int),k.wd wd,rdone,rok,rn,rl⟩:J4).o):=⟨P.out.size,P.out.o,P.out.old⟩
 have E39:Aside (∀u:World,u.heap=W.heap→Calls Tryd.prog 39 #[vP cb 0,.bool true,vI 0] u fun x w'=>x= .returned (.tuple #[])∧B4 u w' cb ({(⟨1,(i:Int),1,(wd:Int),k.wd wd,rdone,rok,rn,rl⟩:J4)with done:=true,ok:=true,n:=0}:J4).o):=by
  have:∀u:World,u.heap=W.heap→Calls Tryd.prog 39 #[vP cb 0,.bool true,vI 0] u fun x w'=>x= .returned (.tuple #[])∧B4 u w' cb ({(⟨1,(i:Int),1,(wd:Int),k.wd wd,rdone,rok,rn,rl⟩:J4)with done:=true,ok:=true,n:=0}:J4).o:=fun u hu=>a0B (c:=⟨1,(i:Int),1,(wd:Int),k.wd wd,rdone,rok,rn,rl⟩) (by show u.heap[cb]? =_;rw[hu];exact P.out.o)
  exact this
 go_wp2_with (go_at_call 39;refine(E39.out _ (by rfl)).mono ?_;rintro e u ⟨rfl,hu⟩;have U:Aside (B4 W u cb _):=⟨hu.size,hu.o,hu.old⟩;clear hu)
 go_end0
 refine⟨rfl,?_⟩
 exact RP.of (u:=w) H.out.1 (U.out.size.trans P.out.size) (fun r hr=>(U.out.old r hr).trans (P.out.old r hr)) hwb.out.1 hwb.out.2 U.out.o
theorem v0A{xb wb cb i:Nat}{k:V0}{rold:BitVec 64}{rdone rok:Bool}{rn:Int}{rl:Value}(h:RS xb wb k w)(hc:F3 w cb ⟨1,(i:Int),1,((i / 64:Nat):Int),rold,rdone,rok,rn,rl⟩)(hne:cb≠wb)(hne2:cb≠xb)(hl:i / 64<k.ws.length)(hl2:k.ws.length≤1024)(hb:(k.wd (i / 64)).getLsbD (i % 64)=false):
 Calls Tryd.prog 42 #[vP xb 0,vP cb 0] w fun y w'=>y= .returned (.tuple #[])∧RP w w' xb wb cb k ({(⟨1,(i:Int),1,((i / 64:Nat):Int),rold,rdone,rok,rn,rl⟩:J4)with old:=k.wd (i / 64),ph:=2}:J4):=by
 have H:Aside (RS xb wb k w∧F3 w cb ⟨1,(i:Int),1,((i / 64:Nat):Int),rold,rdone,rok,rn,rl⟩):=⟨h,hc⟩
 have c1:=(V1 h.o (j:=1) rfl).1
 have c2:=(V1 hc (j:=2) rfl).1
 have c3:=(V1 hc (j:=3) rfl).1
 have c4:=(V1 hc (j:=4) rfl).1
 have z4:=(V1 hc (j:=4) rfl).2
 obtain⟨cw,zw⟩:=h.word hl
 generalize hwd:i / 64=wd at*
 have hl3:(wd:Int)<(k.ws.length:Int):=by omega
 have hwb:Aside (cb≠wb∧cb≠xb):=⟨hne,hne2⟩
 have hx:Aside ((bits .and .u64 ((k.wd wd).toNat:Int) ((bitI i).toNat:Int) != 0)=false):=c0e _ _ _ hb
 clear h hc hb hwd
 go_enter Tryd.func42,Tryd.ntmps42
 go_wp2
 go_still_tail 13,(by kernel_rfl)
 change wpList _ _ _ _ _ w.drew
 go_wp2
 have q:=Y1 (w:=w) (k:=4) (v:=wV (k.wd wd)) H.out.2
 have P:Aside (B4 w ((w.setCell ⟨cb,4,none⟩ (wV (k.wd wd))).drew) cb (⟨1,(i:Int),1,(wd:Int),k.wd wd,rdone,rok,rn,rl⟩:J4).o):=⟨q.size,q.o,q.old⟩
 clear q
 generalize (w.setCell ⟨cb,4,none⟩ (wV (k.wd wd))).drew=W at P ⊢
 have d0:=(V1 P.out.o (j:=0) rfl).1
 have d1:=(V1 P.out.o (j:=1) rfl).1
 have d2:=(V1 P.out.o (j:=2) rfl).1
 have d4:=(V1 P.out.o (j:=4) rfl).1
 have y2:=(V1 P.out.o (j:=2) rfl).2
 have hx2:=hx.out
 clear c1 c2 c3 c4 z4 cw zw
 go_quiet ((go_at_call 56;exact Calls.quiet_of_same (O6 i)))
 rename_i nq
 have P2:Aside (B4 w (W.drewN nq) cb (⟨1,(i:Int),1,(wd:Int),k.wd wd,rdone,rok,rn,rl⟩:J4).o):=⟨P.out.size,P.out.o,P.out.old⟩
 go_wp2
 go_end0
 refine⟨rfl,?_⟩
 have U:B4 (W.drewN nq) ((W.drewN nq).setCell ⟨cb,2,none⟩ (vI 2)) cb _:=Y1 (w:=W.drewN nq) (k:=2) P.out.o
 exact RP.of (u:=w) H.out.1 (U.size.trans P.out.size) (fun r hr=>(U.old r hr).trans (P.out.old r hr)) hwb.out.1 hwb.out.2 U.o
theorem v0D{xb wb cb i:Nat}{k:V0}{rold:BitVec 64}{rdone rok:Bool}{rn:Int}{rl:Value}(h:RS xb wb k w)(hc:F3 w cb ⟨2,(i:Int),1,((i / 64:Nat):Int),rold,rdone,rok,rn,rl⟩)(hne:cb≠wb)(hne2:cb≠xb)(hl:i / 64<k.ws.length)(hl2:k.ws.length≤1024)(hb:(k.wd (i / 64)).getLsbD (i % 64)=true):
 Calls Tryd.prog 42 #[vP xb 0,vP cb 0] w fun y w'=>y= .returned (.tuple #[])∧RP w w' xb wb cb k ({(⟨2,(i:Int),1,((i / 64:Nat):Int),rold,rdone,rok,rn,rl⟩:J4)with old:=k.wd (i / 64),ph:=2}:J4):=by
 have H:Aside (RS xb wb k w∧F3 w cb ⟨2,(i:Int),1,((i / 64:Nat):Int),rold,rdone,rok,rn,rl⟩):=⟨h,hc⟩
 have c1:=(V1 h.o (j:=1) rfl).1
 have c2:=(V1 hc (j:=2) rfl).1
 have c3:=(V1 hc (j:=3) rfl).1
 have c4:=(V1 hc (j:=4) rfl).1
 have z4:=(V1 hc (j:=4) rfl).2
 obtain⟨cw,zw⟩:=h.word hl
 generalize hwd:i / 64=wd at*
 have hl3:(wd:Int)<(k.ws.length:Int):=by omega
 have hwb:Aside (cb≠wb∧cb≠xb):=⟨hne,hne2⟩
 have hx:Aside ((bits .and .u64 ((k.wd wd).toNat:Int) ((bitI i).toNat:Int) != 0)=true):=c0e _ _ _ hb
 clear h hc hb hwd
 go_enter Tryd.func42,Tryd.ntmps42
 go_wp2
 go_still_tail 13,(by kernel_rfl)
 change wpList _ _ _ _ _ w.drew
 go_wp2
 have q:=Y1 (w:=w) (k:=4) (v:=wV (k.wd wd)) H.out.2
 have P:Aside (B4 w ((w.setCell ⟨cb,4,none⟩ (wV (k.wd wd))).drew) cb (⟨2,(i:Int),1,(wd:Int),k.wd wd,rdone,rok,rn,rl⟩:J4).o):=⟨q.size,q.o,q.old⟩
 clear q
 generalize (w.setCell ⟨cb,4,none⟩ (wV (k.wd wd))).drew=W at P ⊢
 have d0:=(V1 P.out.o (j:=0) rfl).1
 have d1:=(V1 P.out.o (j:=1) rfl).1
 have d2:=(V1 P.out.o (j:=2) rfl).1
 have d4:=(V1 P.out.o (j:=4) rfl).1
 have y2:=(V1 P.out.o (j:=2) rfl).2
 have hx2:=hx.out
 clear c1 c2 c3 c4 z4 cw zw
 go_quiet ((go_at_call 56;exact Calls.quiet_of_same (O6 i)))
 rename_i nq
 have P2:Aside (B4 w (W.drewN nq) cb (⟨2,(i:Int),1,(wd:Int),k.wd wd,rdone,rok,rn,rl⟩:J4).o):=⟨P.out.size,P.out.o,P.out.old⟩
 go_wp2
 go_end0
 refine⟨rfl,?_⟩
 have U:B4 (W.drewN nq) ((W.drewN nq).setCell ⟨cb,2,none⟩ (vI 2)) cb _:=Y1 (w:=W.drewN nq) (k:=2) P.out.o
 exact RP.of (u:=w) H.out.1 (U.size.trans P.out.size) (fun r hr=>(U.old r hr).trans (P.out.old r hr)) hwb.out.1 hwb.out.2 U.o
theorem v0C{xb wb cb i:Nat}{k:V0}{rold:BitVec 64}{rdone rok:Bool}{rn:Int}{rl:Value}(h:RS xb wb k w)(hc:F3 w cb ⟨2,(i:Int),1,((i / 64:Nat):Int),rold,rdone,rok,rn,rl⟩)(hne:cb≠wb)(hne2:cb≠xb)(hl:i / 64<k.ws.length)(hl2:k.ws.length≤1024)(hb:(k.wd (i / 64)).getLsbD (i % 64)=false):
 Calls Tryd.prog 42 #[vP xb 0,vP cb 0] w fun y w'=>y= .returned (.tuple #[])∧RP w w' xb wb cb k ({(⟨2,(i:Int),1,((i / 64:Nat):Int),rold,rdone,rok,rn,rl⟩:J4)with old:=k.wd (i / 64),done:=true,ok:=true,n:=0}:J4):=by
 have H:Aside (RS xb wb k w∧F3 w cb ⟨2,(i:Int),1,((i / 64:Nat):Int),rold,rdone,rok,rn,rl⟩):=⟨h,hc⟩
 have c1:=(V1 h.o (j:=1) rfl).1
 have c2:=(V1 hc (j:=2) rfl).1
 have c3:=(V1 hc (j:=3) rfl).1
 have c4:=(V1 hc (j:=4) rfl).1
 have z4:=(V1 hc (j:=4) rfl).2
 obtain⟨cw,zw⟩:=h.word hl
 generalize hwd:i / 64=wd at*
 have hl3:(wd:Int)<(k.ws.length:Int):=by omega
 have hwb:Aside (cb≠wb∧cb≠xb):=⟨hne,hne2⟩
 have hx:Aside ((bits .and .u64 ((k.wd wd).toNat:Int) ((bitI i).toNat:Int) != 0)=false):=c0e _ _ _ hb
 clear h hc hb hwd
 go_enter Tryd.func42,Tryd.ntmps42
 go_wp2
 go_still_tail 13,(by kernel_rfl)
 change wpList _ _ _ _ _ w.drew
 go_wp2
 have q:=Y1 (w:=w) (k:=4) (v:=wV (k.wd wd)) H.out.2
 have P:Aside (B4 w ((w.setCell ⟨cb,4,none⟩ (wV (k.wd wd))).drew) cb (⟨2,(i:Int),1,(wd:Int),k.wd wd,rdone,rok,rn,rl⟩:J4).o):=⟨q.size,q.o,q.old⟩
 clear q
 generalize (w.setCell ⟨cb,4,none⟩ (wV (k.wd wd))).drew=W at P ⊢
 have d0:=(V1 P.out.o (j:=0) rfl).1
 have d1:=(V1 P.out.o (j:=1) rfl).1
 have d2:=(V1 P.out.o (j:=2) rfl).1
 have d4:=(V1 P.out.o (j:=4) rfl).1
 have y2:=(V1 P.out.o (j:=2) rfl).2
 have hx2:=hx.out
 clear c1 c2 c3 c4 z4 cw zw
 go_quiet ((go_at_call 56;exact Calls.quiet_of_same (O6 i)))
 rename_i nq
 have P2:Aside (B4 w (W.drewN nq) cb (⟨2,(i:Int),1,(wd:Int),k.wd wd,rdone,rok,rn,rl⟩:J4).o):=⟨P.out.size,P.out.o,P.out.old⟩
 have E39:Aside (∀u:World,u.heap=W.heap→Calls Tryd.prog 39 #[vP cb 0,.bool true,vI 0] u fun x w'=>x= .returned (.tuple #[])∧B4 u w' cb ({(⟨2,(i:Int),1,(wd:Int),k.wd wd,rdone,rok,rn,rl⟩:J4)with done:=true,ok:=true,n:=0}:J4).o):=by
  have:∀u:World,u.heap=W.heap→Calls Tryd.prog 39 #[vP cb 0,.bool true,vI 0] u fun x w'=>x= .returned (.tuple #[])∧B4 u w' cb ({(⟨2,(i:Int),1,(wd:Int),k.wd wd,rdone,rok,rn,rl⟩:J4)with done:=true,ok:=true,n:=0}:J4).o:=fun u hu=>a0B (c:=⟨2,(i:Int),1,(wd:Int),k.wd wd,rdone,rok,rn,rl⟩) (by show u.heap[cb]? =_;rw[hu];exact P.out.o)
  exact this
 go_wp2_with (go_at_call 39;refine(E39.out _ (by rfl)).mono ?_;rintro e u ⟨rfl,hu⟩;have U:Aside (B4 W u cb _):=⟨hu.size,hu.o,hu.old⟩;clear hu)
 go_end0
 refine⟨rfl,?_⟩
 exact RP.of (u:=w) H.out.1 (U.out.size.trans P.out.size) (fun r hr=>(U.out.old r hr).trans (P.out.old r hr)) hwb.out.1 hwb.out.2 U.out.o
theorem x0E{xb wb cb i:Nat}{k:V0}{rkd:Int}{rold:BitVec 64}{rdone rok:Bool}{rn:Int}{rl:Value}(h:RS xb wb k w)(hc:F3 w cb ⟨rkd,(i:Int),2,((i / 64:Nat):Int),rold,rdone,rok,rn,rl⟩)(hne:cb≠wb)(hne2:cb≠xb)(hl:i / 64<k.ws.length)(hl2:k.ws.length≤1024):
 Calls Tryd.prog 42 #[vP xb 0,vP cb 0] w fun y w'=>y= .returned (.tuple #[])∧
  SwR w w' xb wb cb k (i / 64) rold (rold ^^^ bitI i) ⟨rkd,(i:Int),2,((i / 64:Nat):Int),rold,true,true,1,rl⟩ ⟨rkd,(i:Int),1,((i / 64:Nat):Int),rold,rdone,rok,rn,rl⟩:=by
 have ES:Aside (∀u:World,u.heap=w.heap→Calls Tryd.prog 59 #[vP xb 0,vP cb 0,wV (rold ^^^ bitI i),vI 1] u fun y w'=>y= .returned (.tuple #[])∧
  SwR u w' xb wb cb k (i / 64) rold (rold ^^^ bitI i) ⟨rkd,(i:Int),2,((i / 64:Nat):Int),rold,true,true,1,rl⟩ ⟨rkd,(i:Int),1,((i / 64:Nat):Int),rold,rdone,rok,rn,rl⟩):=by
  have:∀u:World,u.heap=w.heap→Calls Tryd.prog 59 #[vP xb 0,vP cb 0,wV (rold ^^^ bitI i),vI 1] u fun y w'=>y= .returned (.tuple #[])∧
   SwR u w' xb wb cb k (i / 64) rold (rold ^^^ bitI i) ⟨rkd,(i:Int),2,((i / 64:Nat):Int),rold,true,true,1,rl⟩ ⟨rkd,(i:Int),1,((i / 64:Nat):Int),rold,rdone,rok,rn,rl⟩:=fun u hu=>
   i0i (rc:=⟨rkd,(i:Int),2,((i / 64:Nat):Int),rold,rdone,rok,rn,rl⟩) (h.same (by rw[hu]) (by rw[hu])) (by show u.heap[cb]? =_;rw[hu];exact hc) hne hne2 rfl hl hl2 _ 1
  exact this
 have c1:=(V1 hc (j:=1) rfl).1
 have c2:=(V1 hc (j:=2) rfl).1
 have c4:=(V1 hc (j:=4) rfl).1
 have hX:=c0i rold (bitI i)
 clear h hc
 go_enter Tryd.func42,Tryd.ntmps42
 go_wp2
 have B:Aside (∀u:World,Calls Tryd.prog 56 #[vI (i:Int)] u fun y w'=>y= .returned (wV (bitI i))∧w'=u):=fun u=>O6 i
 go_region_law (first
  | (refine z0p (o:={dst:=some 20,op:=_,type:=_,pos:=_,after:=_,guard:=none}) rfl 56 #[vI (i:Int)] (wV (bitI i)) (by simp[execOp,Act.eval,Act.put,resolve,invoke,Deferred.ofValue,callable56.run]) (B.out _) ?_;intro u hu;subst hu)
  | (refine z0p rfl 59 #[vP xb 0,vP cb 0,wV (rold ^^^ bitI i),vI 1] (.tuple #[]) (by simp[execOp,Act.eval,Act.put,resolve,invoke,Deferred.ofValue,callable59.run,hX]) (ES.out _ (by rfl)) ?_;intro u hu;have U:Aside (SwR _ u xb wb cb k (i / 64) rold (rold ^^^ bitI i) ⟨rkd,(i:Int),2,((i / 64:Nat):Int),rold,true,true,1,rl⟩ ⟨rkd,(i:Int),1,((i / 64:Nat):Int),rold,rdone,rok,rn,rl⟩):=hu;clear hu))
 all_goals(
  go_wp2
  refine bodyPost_ret (v:=.tuple #[]) (by simp[results,Tryd.f42,go_sem]) rfl ⟨rfl,?_⟩
  exact U.out.base rfl)
end
section
variable{w w':World}
theorem x0e{j:Nat}{xb wb cb wd:Nat}{k:V0}{ri:Int}{rold:BitVec 64}{rdone rok:Bool}{rn:Int}{rl:Value}(h:RS xb wb k w)(hc:F3 w cb ⟨4,ri,2,(wd:Int),rold,rdone,rok,rn,rl⟩)(hne:cb≠wb)(hne2:cb≠xb)(hl:wd<k.ws.length)(hl2:k.ws.length≤1024)(hn:k.n≤65536)(hf:G4 k.n wd rold=some j):
 Calls Tryd.prog 40 #[vP xb 0,vP cb 0] w fun y w'=>y= .returned (.tuple #[])∧SwR w w' xb wb cb k wd rold (rold ||| bitI (wd*64+j)) ⟨4,ri,2,(wd:Int),rold,true,true,((wd*64+j:Nat):Int),rl⟩ ⟨4,ri,1,(wd:Int),rold,rdone,rok,rn,rl⟩:=by
 have ES:Aside (∀u:World,u.heap=w.heap→Calls Tryd.prog 59 #[vP xb 0,vP cb 0,wV (rold ||| bitI (wd*64+j)),vI ((wd*64+j:Nat):Int)] u fun y w'=>y= .returned (.tuple #[])∧
  SwR u w' xb wb cb k wd rold (rold ||| bitI (wd*64+j)) ⟨4,ri,2,(wd:Int),rold,true,true,((wd*64+j:Nat):Int),rl⟩ ⟨4,ri,1,(wd:Int),rold,rdone,rok,rn,rl⟩):=by
  have:∀u:World,u.heap=w.heap→Calls Tryd.prog 59 #[vP xb 0,vP cb 0,wV (rold ||| bitI (wd*64+j)),vI ((wd*64+j:Nat):Int)] u fun y w'=>y= .returned (.tuple #[])∧
   SwR u w' xb wb cb k wd rold (rold ||| bitI (wd*64+j)) ⟨4,ri,2,(wd:Int),rold,true,true,((wd*64+j:Nat):Int),rl⟩ ⟨4,ri,1,(wd:Int),rold,rdone,rok,rn,rl⟩:=fun u hu=>
   i0i (rc:=⟨4,ri,2,(wd:Int),rold,rdone,rok,rn,rl⟩) (h.same (by rw[hu]) (by rw[hu])) (by show u.heap[cb]? =_;rw[hu];exact hc) hne hne2 rfl hl hl2 _ _
  exact this
 have EF:Aside (∀u:World,u.heap=w.heap→Calls Tryd.prog 58 #[vP xb 0,vI (wd:Nat),wV rold] u fun y w'=>y= .returned (.tuple #[vI ((wd*64+j:Nat):Int),.bool true])∧w'=u):=by
  have:∀u:World,u.heap=w.heap→Calls Tryd.prog 58 #[vP xb 0,vI (wd:Nat),wV rold] u fun y w'=>y= .returned (.tuple #[vI ((wd*64+j:Nat):Int),.bool true])∧w'=u:=fun u hu=>by
   have e:=c0H (w:=u) (h.same (by rw[hu]) (by rw[hu])) hn wd (by omega) rold
   unfold d04 at e
   rw[hf]at e
   exact e
  exact this
 have B:Aside (∀u:World,Calls Tryd.prog 56 #[vI ((wd*64+j:Nat):Int)] u fun y w'=>y= .returned (wV (bitI (wd*64+j)))∧w'=u):=fun u=>O6 _
 have c2:=(V1 hc (j:=2) rfl).1
 have c3:=(V1 hc (j:=3) rfl).1
 have c4:=(V1 hc (j:=4) rfl).1
 have hX:=l01 rold (bitI (wd*64+j))
 obtain⟨q,hq⟩:∃q,q=wd*64+j:=⟨_,rfl⟩
 rw[← hq]at ES EF B hX ⊢
 clear h hc hf hq
 go_enter Tryd.func40,Tryd.ntmps40
 go_wp2
 go_quiet ((go_at_call 58;exact Calls.quiet_of_same (EF.out _ (by rfl))))
 rename_i nq
 have d4:(w.drewN nq).cell? ⟨cb,4,none⟩=some (wV rold):=c4
 have ES2:Aside (∀u:World,u.heap=(w.drewN nq).heap→Calls Tryd.prog 59 #[vP xb 0,vP cb 0,wV (rold ||| bitI q),vI (q:Int)] u fun y w'=>y= .returned (.tuple #[])∧
  SwR w w' xb wb cb k wd rold (rold ||| bitI q) ⟨4,ri,2,(wd:Int),rold,true,true,(q:Int),rl⟩ ⟨4,ri,1,(wd:Int),rold,rdone,rok,rn,rl⟩):=by
  have:∀u:World,u.heap=(w.drewN nq).heap→Calls Tryd.prog 59 #[vP xb 0,vP cb 0,wV (rold ||| bitI q),vI (q:Int)] u fun y w'=>y= .returned (.tuple #[])∧
   SwR w w' xb wb cb k wd rold (rold ||| bitI q) ⟨4,ri,2,(wd:Int),rold,true,true,(q:Int),rl⟩ ⟨4,ri,1,(wd:Int),rold,rdone,rok,rn,rl⟩:=fun u hu=>(ES.out u hu).mono fun y w' h=>⟨h.1,h.2.base hu⟩
  exact this
 clear ES EF c2 c3 c4
 generalize w.drewN nq=W at d4 ES2 ⊢
 go_wp2
 go_region_law (first
  | (refine z0p (o:={dst:=some 33,op:=_,type:=_,pos:=_,after:=_,guard:=none}) rfl 56 #[vI (q:Int)] (wV (bitI q)) (by simp[execOp,Act.eval,Act.put,resolve,invoke,Deferred.ofValue,callable56.run]) (B.out _) ?_;intro u hu;subst hu)
  | (refine z0p rfl 59 #[vP xb 0,vP cb 0,wV (rold ||| bitI q),vI (q:Int)] (.tuple #[]) (by simp[execOp,Act.eval,Act.put,resolve,invoke,Deferred.ofValue,callable59.run,hX]) (ES2.out _ (by rfl)) ?_;intro u hu;have U:Aside (SwR w u xb wb cb k wd rold (rold ||| bitI q) ⟨4,ri,2,(wd:Int),rold,true,true,(q:Int),rl⟩ ⟨4,ri,1,(wd:Int),rold,rdone,rok,rn,rl⟩):=hu;clear hu))
 all_goals(
  go_wp2
  exact bodyPost_ret (v:=.tuple #[]) (by simp[results,Tryd.f40,go_sem]) rfl ⟨rfl,U.out⟩)
theorem u0R{j:Nat}{xb wb cb wd:Nat}{k:V0}{ri:Int}{rold:BitVec 64}{rdone rok:Bool}{rn:Int}{rl:Value}(h:RS xb wb k w)(hc:F3 w cb ⟨4,ri,1,(wd:Int),rold,rdone,rok,rn,rl⟩)(hne:cb≠wb)(hne2:cb≠xb)(hl:wd<k.ws.length)(hl2:k.ws.length≤1024)(hn:k.n≤65536)(hf:G4 k.n wd (k.wd wd)=some j):
 Calls Tryd.prog 40 #[vP xb 0,vP cb 0] w fun y w'=>y= .returned (.tuple #[])∧RP w w' xb wb cb k ⟨4,ri,2,(wd:Int),k.wd wd,rdone,rok,rn,rl⟩:=by
 have H:Aside (RS xb wb k w∧F3 w cb ⟨4,ri,1,(wd:Int),rold,rdone,rok,rn,rl⟩):=⟨h,hc⟩
 have EF:Aside (∀u:World,(∀r,r≠cb→u.heap[r]? =w.heap[r]?)→Calls Tryd.prog 58 #[vP xb 0,vI (wd:Nat),wV (k.wd wd)] u fun y w'=>y= .returned (.tuple #[vI ((wd*64+j:Nat):Int),.bool true])∧w'=u):=by
  have:∀u:World,(∀r,r≠cb→u.heap[r]? =w.heap[r]?)→Calls Tryd.prog 58 #[vP xb 0,vI (wd:Nat),wV (k.wd wd)] u fun y w'=>y= .returned (.tuple #[vI ((wd*64+j:Nat):Int),.bool true])∧w'=u:=fun u hu=>by
   have e:=c0H (w:=u) (h.same (hu _ hne2.symm) (hu _ hne.symm)) hn wd (by omega) (k.wd wd)
   unfold d04 at e
   rw[hf]at e
   exact e
  exact this
 have c1:=(V1 h.o (j:=1) rfl).1
 have c2:=(V1 hc (j:=2) rfl).1
 have c3:=(V1 hc (j:=3) rfl).1
 have c4:=(V1 hc (j:=4) rfl).1
 have z4:=(V1 hc (j:=4) rfl).2
 obtain⟨cw,zw⟩:=h.word hl
 have hl3:(wd:Int)<(k.ws.length:Int):=by omega
 have hwb:Aside (cb≠wb∧cb≠xb):=⟨hne,hne2⟩
 have hw1:IntKind.i64.wrap ((wd:Int)+1)=(wd:Int)+1:=IntWalk.i64_in _ (by omega)
 clear h hc hf
 go_enter Tryd.func40,Tryd.ntmps40
 go_wp2
 go_still_tail 13,(by kernel_rfl)
 change wpList _ _ _ _ _ w.drew
 go_wp2
 have q:=Y1 (w:=w) (k:=4) (v:=wV (k.wd wd)) H.out.2
 have P:Aside (B4 w ((w.setCell ⟨cb,4,none⟩ (wV (k.wd wd))).drew) cb (⟨4,ri,1,(wd:Int),k.wd wd,rdone,rok,rn,rl⟩:J4).o):=⟨q.size,q.o,q.old⟩
 clear q
 generalize (w.setCell ⟨cb,4,none⟩ (wV (k.wd wd))).drew=W at P ⊢
 have d2:=(V1 P.out.o (j:=2) rfl).1
 have d3:=(V1 P.out.o (j:=3) rfl).1
 have d4:=(V1 P.out.o (j:=4) rfl).1
 have y2:=(V1 P.out.o (j:=2) rfl).2
 have y3:=(V1 P.out.o (j:=3) rfl).2
 have d1:W.cell? ⟨xb,1,none⟩=some (vL wb 0 k.ws.length k.ws.length):=(V1 ((P.out.old _ hwb.out.2.symm).trans H.out.1.o) (j:=1) rfl).1
 clear c1 c2 c3 c4 z4 cw zw
 go_quiet ((go_at_call 58;exact Calls.quiet_of_same (EF.out _ (fun r hr=>P.out.old r hr))))
 rename_i nq
 go_wp2
 have U:B4 W ((W.drewN nq).setCell ⟨cb,2,none⟩ (vI 2)) cb _:=⟨(Y1 (w:=W) (k:=2) (v:=vI 2) P.out.o).size,(Y1 (w:=W) (k:=2) (v:=vI 2) P.out.o).o,(Y1 (w:=W) (k:=2) (v:=vI 2) P.out.o).old⟩
 refine bodyPost_ret (v:=.tuple #[]) (by simp[results,Tryd.f40,go_sem]) rfl ⟨rfl,?_⟩
 exact RP.of (u:=w) H.out.1 (U.size.trans P.out.size) (fun r hr=>(U.old r hr).trans (P.out.old r hr)) hwb.out.1 hwb.out.2 U.o
theorem u0J{xb wb cb wd:Nat}{k:V0}{ri:Int}{rold:BitVec 64}{rdone rok:Bool}{rn:Int}{rl:Value}(h:RS xb wb k w)(hc:F3 w cb ⟨4,ri,1,(wd:Int),rold,rdone,rok,rn,rl⟩)(hne:cb≠wb)(hne2:cb≠xb)(hl:wd<k.ws.length)(hl2:k.ws.length≤1024)(hn:k.n≤65536)(hf:G4 k.n wd (k.wd wd)=none)(he:wd+1=k.ws.length):
 Calls Tryd.prog 40 #[vP xb 0,vP cb 0] w fun y w'=>y= .returned (.tuple #[])∧RP w w' xb wb cb k ⟨4,ri,1,(wd:Int)+1,k.wd wd,true,false,0,rl⟩:=by
 have H:Aside (RS xb wb k w∧F3 w cb ⟨4,ri,1,(wd:Int),rold,rdone,rok,rn,rl⟩):=⟨h,hc⟩
 have EF:Aside (∀u:World,(∀r,r≠cb→u.heap[r]? =w.heap[r]?)→Calls Tryd.prog 58 #[vP xb 0,vI (wd:Nat),wV (k.wd wd)] u fun y w'=>y= .returned (.tuple #[vI 0,.bool false])∧w'=u):=by
  have:∀u:World,(∀r,r≠cb→u.heap[r]? =w.heap[r]?)→Calls Tryd.prog 58 #[vP xb 0,vI (wd:Nat),wV (k.wd wd)] u fun y w'=>y= .returned (.tuple #[vI 0,.bool false])∧w'=u:=fun u hu=>by
   have e:=c0H (w:=u) (h.same (hu _ hne2.symm) (hu _ hne.symm)) hn wd (by omega) (k.wd wd)
   unfold d04 at e
   rw[hf]at e
   exact e
  exact this
 have c1:=(V1 h.o (j:=1) rfl).1
 have c2:=(V1 hc (j:=2) rfl).1
 have c3:=(V1 hc (j:=3) rfl).1
 have c4:=(V1 hc (j:=4) rfl).1
 have z4:=(V1 hc (j:=4) rfl).2
 obtain⟨cw,zw⟩:=h.word hl
 have hl3:(wd:Int)<(k.ws.length:Int):=by omega
 have hwb:Aside (cb≠wb∧cb≠xb):=⟨hne,hne2⟩
 have hw1:IntKind.i64.wrap ((wd:Int)+1)=(wd:Int)+1:=IntWalk.i64_in _ (by omega)
 have he1:(((wd:Int)+1) == (k.ws.length:Int))=true:=by simp;omega
 clear h hc hf
 go_enter Tryd.func40,Tryd.ntmps40
 go_wp2
 go_still_tail 13,(by kernel_rfl)
 change wpList _ _ _ _ _ w.drew
 go_wp2
 have q:=Y1 (w:=w) (k:=4) (v:=wV (k.wd wd)) H.out.2
 have P:Aside (B4 w ((w.setCell ⟨cb,4,none⟩ (wV (k.wd wd))).drew) cb (⟨4,ri,1,(wd:Int),k.wd wd,rdone,rok,rn,rl⟩:J4).o):=⟨q.size,q.o,q.old⟩
 clear q
 generalize (w.setCell ⟨cb,4,none⟩ (wV (k.wd wd))).drew=W at P ⊢
 have d2:=(V1 P.out.o (j:=2) rfl).1
 have d3:=(V1 P.out.o (j:=3) rfl).1
 have d4:=(V1 P.out.o (j:=4) rfl).1
 have y2:=(V1 P.out.o (j:=2) rfl).2
 have y3:=(V1 P.out.o (j:=3) rfl).2
 have d1:W.cell? ⟨xb,1,none⟩=some (vL wb 0 k.ws.length k.ws.length):=(V1 ((P.out.old _ hwb.out.2.symm).trans H.out.1.o) (j:=1) rfl).1
 clear c1 c2 c3 c4 z4 cw zw
 go_quiet ((go_at_call 58;exact Calls.quiet_of_same (EF.out _ (fun r hr=>P.out.old r hr))))
 rename_i nq
 go_wp2
 have q:=Y1 (w:=W) (k:=3) (v:=vI ((wd:Int)+1)) P.out.o
 have P2:Aside (B4 w ((W.drewN nq).setCell ⟨cb,3,none⟩ (vI ((wd:Int)+1))) cb (⟨4,ri,1,(wd:Int)+1,k.wd wd,rdone,rok,rn,rl⟩:J4).o):=⟨q.size.trans P.out.size,q.o,fun r hr=>(q.old r hr).trans (P.out.old r hr)⟩
 have d1':((W.drewN nq).setCell ⟨cb,3,none⟩ (vI ((wd:Int)+1))).cell? ⟨xb,1,none⟩=some (vL wb 0 k.ws.length k.ws.length):=(V1 ((P2.out.old _ hwb.out.2.symm).trans H.out.1.o) (j:=1) rfl).1
 clear q P d1 d2 d3 d4 y2 y3
 generalize (W.drewN nq).setCell ⟨cb,3,none⟩ (vI ((wd:Int)+1))=W2 at P2 d1' ⊢
 have d3:=(V1 P2.out.o (j:=3) rfl).1
 go_quiet (fail)
 rename_i nq2
 have E39:Aside (∀u:World,u.heap=W2.heap→Calls Tryd.prog 39 #[vP cb 0,.bool false,vI 0] u fun x w'=>x= .returned (.tuple #[])∧B4 u w' cb (⟨4,ri,1,(wd:Int)+1,k.wd wd,true,false,0,rl⟩:J4).o):=by
  have:∀u:World,u.heap=W2.heap→Calls Tryd.prog 39 #[vP cb 0,.bool false,vI 0] u fun x w'=>x= .returned (.tuple #[])∧B4 u w' cb (⟨4,ri,1,(wd:Int)+1,k.wd wd,true,false,0,rl⟩:J4).o:=fun u hu=>a0B (c:=⟨4,ri,1,(wd:Int)+1,k.wd wd,rdone,rok,rn,rl⟩) (by show u.heap[cb]? =_;rw[hu];exact P2.out.o)
  exact this
 go_wp2_with (go_at_call 39;refine(E39.out _ (by rfl)).mono ?_;rintro e u ⟨rfl,hu⟩;have U:Aside (B4 W2 u cb _):=⟨hu.size,hu.o,hu.old⟩;clear hu)
 go_end0
 refine⟨rfl,?_⟩
 exact RP.of (u:=w) H.out.1 (U.out.size.trans P2.out.size) (fun r hr=>(U.out.old r hr).trans (P2.out.old r hr)) hwb.out.1 hwb.out.2 U.out.o
theorem u0Q{xb wb cb wd:Nat}{k:V0}{ri:Int}{rold:BitVec 64}{rdone rok:Bool}{rn:Int}{rl:Value}(h:RS xb wb k w)(hc:F3 w cb ⟨4,ri,1,(wd:Int),rold,rdone,rok,rn,rl⟩)(hne:cb≠wb)(hne2:cb≠xb)(hl:wd<k.ws.length)(hl2:k.ws.length≤1024)(hn:k.n≤65536)(hf:G4 k.n wd (k.wd wd)=none)(he:wd+1≠k.ws.length):
 Calls Tryd.prog 40 #[vP xb 0,vP cb 0] w fun y w'=>y= .returned (.tuple #[])∧RP w w' xb wb cb k ⟨4,ri,1,(wd:Int)+1,k.wd wd,rdone,rok,rn,rl⟩:=by
 have H:Aside (RS xb wb k w∧F3 w cb ⟨4,ri,1,(wd:Int),rold,rdone,rok,rn,rl⟩):=⟨h,hc⟩
 have EF:Aside (∀u:World,(∀r,r≠cb→u.heap[r]? =w.heap[r]?)→Calls Tryd.prog 58 #[vP xb 0,vI (wd:Nat),wV (k.wd wd)] u fun y w'=>y= .returned (.tuple #[vI 0,.bool false])∧w'=u):=by
  have:∀u:World,(∀r,r≠cb→u.heap[r]? =w.heap[r]?)→Calls Tryd.prog 58 #[vP xb 0,vI (wd:Nat),wV (k.wd wd)] u fun y w'=>y= .returned (.tuple #[vI 0,.bool false])∧w'=u:=fun u hu=>by
   have e:=c0H (w:=u) (h.same (hu _ hne2.symm) (hu _ hne.symm)) hn wd (by omega) (k.wd wd)
   unfold d04 at e
   rw[hf]at e
   exact e
  exact this
 have c1:=(V1 h.o (j:=1) rfl).1
 have c2:=(V1 hc (j:=2) rfl).1
 have c3:=(V1 hc (j:=3) rfl).1
 have c4:=(V1 hc (j:=4) rfl).1
 have z4:=(V1 hc (j:=4) rfl).2
 obtain⟨cw,zw⟩:=h.word hl
 have hl3:(wd:Int)<(k.ws.length:Int):=by omega
 have hwb:Aside (cb≠wb∧cb≠xb):=⟨hne,hne2⟩
 have hw1:IntKind.i64.wrap ((wd:Int)+1)=(wd:Int)+1:=IntWalk.i64_in _ (by omega)
 have he1:(((wd:Int)+1) == (k.ws.length:Int))=false:=by simp;omega
 clear h hc hf
 go_enter Tryd.func40,Tryd.ntmps40
 go_wp2
 go_still_tail 13,(by kernel_rfl)
 change wpList _ _ _ _ _ w.drew
 go_wp2
 have q:=Y1 (w:=w) (k:=4) (v:=wV (k.wd wd)) H.out.2
 have P:Aside (B4 w ((w.setCell ⟨cb,4,none⟩ (wV (k.wd wd))).drew) cb (⟨4,ri,1,(wd:Int),k.wd wd,rdone,rok,rn,rl⟩:J4).o):=⟨q.size,q.o,q.old⟩
 clear q
 generalize (w.setCell ⟨cb,4,none⟩ (wV (k.wd wd))).drew=W at P ⊢
 have d2:=(V1 P.out.o (j:=2) rfl).1
 have d3:=(V1 P.out.o (j:=3) rfl).1
 have d4:=(V1 P.out.o (j:=4) rfl).1
 have y2:=(V1 P.out.o (j:=2) rfl).2
 have y3:=(V1 P.out.o (j:=3) rfl).2
 have d1:W.cell? ⟨xb,1,none⟩=some (vL wb 0 k.ws.length k.ws.length):=(V1 ((P.out.old _ hwb.out.2.symm).trans H.out.1.o) (j:=1) rfl).1
 clear c1 c2 c3 c4 z4 cw zw
 go_quiet ((go_at_call 58;exact Calls.quiet_of_same (EF.out _ (fun r hr=>P.out.old r hr))))
 rename_i nq
 go_wp2
 have q:=Y1 (w:=W) (k:=3) (v:=vI ((wd:Int)+1)) P.out.o
 have P2:Aside (B4 w ((W.drewN nq).setCell ⟨cb,3,none⟩ (vI ((wd:Int)+1))) cb (⟨4,ri,1,(wd:Int)+1,k.wd wd,rdone,rok,rn,rl⟩:J4).o):=⟨q.size.trans P.out.size,q.o,fun r hr=>(q.old r hr).trans (P.out.old r hr)⟩
 have d1':((W.drewN nq).setCell ⟨cb,3,none⟩ (vI ((wd:Int)+1))).cell? ⟨xb,1,none⟩=some (vL wb 0 k.ws.length k.ws.length):=(V1 ((P2.out.old _ hwb.out.2.symm).trans H.out.1.o) (j:=1) rfl).1
 clear q P d1 d2 d3 d4 y2 y3
 generalize (W.drewN nq).setCell ⟨cb,3,none⟩ (vI ((wd:Int)+1))=W2 at P2 d1' ⊢
 have d3:=(V1 P2.out.o (j:=3) rfl).1
 go_quiet (fail)
 rename_i nq2
 go_wp2
 go_end0
 refine⟨rfl,?_⟩
 exact RP.of (u:=w) H.out.1 P2.out.size (fun r hr=>P2.out.old r hr) hwb.out.1 hwb.out.2 P2.out.o
end
section
variable{w w':World}
def R2(n w:Nat)(x:BitVec 64)(j:Nat):List Int:=((List.range j).filter fun j=>decide (w*64+j<n) && x.getLsbD j).map fun j=>((w*64+j:Nat):Int)
theorem h06(n w:Nat)(x:BitVec 64):R2 n w x 64=X3 n w x:=rfl
theorem c0g(n w:Nat)(x:BitVec 64)(j:Nat):R2 n w x (j+1)=R2 n w x j++(if w*64+j<n∧x.getLsbD j=true then[((w*64+j:Nat):Int)]else[]):=by
 unfold R2
 rw[List.range_succ,List.filter_append,List.map_append]
 congr 1
 by_cases h:w*64+j<n∧x.getLsbD j=true
 ·simp[h]
 ·rw[if_neg h]
  have:(decide (w*64+j<n) && x.getLsbD j)=false:=by
   cases e1:decide (w*64+j<n)with
   | false=>rfl
   | true=>
     cases e2:x.getLsbD j with
     | false=>rfl
     | true=>exact absurd ⟨of_decide_eq_true e1,e2⟩ h
  simp only[List.filter_cons,this,Bool.false_eq_true,if_false,List.filter_nil,List.map_nil]
theorem d0e(n w:Nat)(x:BitVec 64)(j:Nat):(R2 n w x j).length≤j:=by
 unfold R2
 rw[List.length_map]
 exact Nat.le_trans (List.length_filter_le _ _) (by simp)
theorem c0f{n w:Nat}{x:BitVec 64}{j:Nat}(h:n≤w*64+j):∀d,R2 n w x (j+d)=R2 n w x j
 | 0=>rfl
 | d+1=>by
   rw[show j+(d+1)=(j+d)+1 from rfl,c0g,c0f h d,if_neg (by omega),List.append_nil]
theorem l0G:∃i z,Tryd.prog.info? 2=some i∧i.zero=some z∧i.size=1∧i.bytes=8∧z.cells.size=1:=g03 (by kernel_rfl)
theorem v0r{xb wb cb wd c:Nat}{k:V0}{ri rph:Int}{rold:BitVec 64}{rdone rok:Bool}{rl:Value}(h:RS xb wb k w)(hc:F3 w cb ⟨5,ri,rph,(wd:Int),rold,rdone,rok,((c:Nat):Int),rl⟩)(hne:cb≠wb)(hne2:cb≠xb)(hl:wd<k.ws.length)(hl2:k.ws.length≤1024)(hn:k.n≤65536)(hcl:c≤100000):
 Calls Tryd.prog 41 #[vP xb 0,vP cb 0] w fun y w'=>y= .returned (.tuple #[])∧RP w w' xb wb cb k ⟨5,ri,rph,(wd:Int)+1,rold,(rdone || decide (wd+1=k.ws.length)),(rok || decide (wd+1=k.ws.length)),((c+(X3 k.n wd (k.wd wd)).length:Nat):Int),rl⟩:=by
 have H:Aside (RS xb wb k w∧F3 w cb ⟨5,ri,rph,(wd:Int),rold,rdone,rok,((c:Nat):Int),rl⟩):=⟨h,hc⟩
 have hwb:Aside (cb≠wb∧cb≠xb):=⟨hne,hne2⟩
 have c1:=(V1 h.o (j:=1) rfl).1
 have c3:=(V1 hc (j:=3) rfl).1
 obtain⟨cw,zw⟩:=h.word hl
 have hl3:(wd:Int)<(k.ws.length:Int):=by omega
 have w1:IntKind.i64.wrap ((wd:Int)*64)=((wd*64:Nat):Int):=by rw[IntWalk.i64_in _ (by omega)];omega
 have w2:IntKind.i64.wrap (((wd*64:Nat):Int)+64)=((wd*64+64:Nat):Int):=by rw[IntWalk.i64_in _ (by omega)];omega
 have w3:IntKind.i64.wrap ((wd:Int)+1)=(wd:Int)+1:=IntWalk.i64_in _ (by omega)
 obtain⟨x,hx⟩:∃x,x=k.wd wd:=⟨_,rfl⟩
 rw[← hx]at cw ⊢
 have S0:Aside (B4 w w cb (⟨5,ri,rph,(wd:Int),rold,rdone,rok,((c+(R2 k.n wd x 0).length:Nat):Int),rl⟩:J4).o):=⟨rfl,hc,fun _ _=>rfl⟩
 clear h hc hx
 go_enter Tryd.func41,Tryd.ntmps41
 go_wp2
 go_quiet (fail)
 have c3':(w.drewN nq).cell? ⟨cb,3,none⟩=some (vI (wd:Nat)):=c3
 have S1:Aside (B4 w (w.drewN nq) cb (⟨5,ri,rph,(wd:Int),rold,rdone,rok,((c+(R2 k.n wd x 0).length:Nat):Int),rl⟩:J4).o):=⟨rfl,S0.out.o,fun _ _=>rfl⟩
 clear S0 c1 c3 cw zw
 generalize w.drewN nq=W0 at c3' S1 ⊢
 go_wp2
 go_loopg [5] 65 (fun g i u=>∃j:Nat,j≤64∧i=vI ((wd*64+j:Nat):Int)∧g=65 - j∧B4 w u cb (⟨5,ri,rph,(wd:Int),rold,rdone,rok,((c+(R2 k.n wd x j).length:Nat):Int),rl⟩:J4).o)
 case atStart=>exact⟨0,Nat.zero_le _,rfl,rfl,S1.out⟩
 case round=>
  obtain⟨j,hj,rfl,rfl,hS⟩:=hrel
  have S:Aside (B4 w wr cb (⟨5,ri,rph,(wd:Int),rold,rdone,rok,((c+(R2 k.n wd x j).length:Nat):Int),rl⟩:J4).o):=hS
  have d0:=(V1 S.out.o (j:=0) rfl).1
  have d3:=(V1 S.out.o (j:=3) rfl).1
  have d7:=(V1 S.out.o (j:=7) rfl).1
  have y3:=(V1 S.out.o (j:=3) rfl).2
  have y5:=(V1 S.out.o (j:=5) rfl).2
  have y6:=(V1 S.out.o (j:=6) rfl).2
  have y7:=(V1 S.out.o (j:=7) rfl).2
  have d5:=(V1 S.out.o (j:=5) rfl).1
  have d6:=(V1 S.out.o (j:=6) rfl).1
  have x0:wr.cell? ⟨xb,0,none⟩=some (vI (k.n:Nat)):=(V1 ((S.out.old _ hwb.out.2.symm).trans H.out.1.o) (j:=0) rfl).1
  have x1:wr.cell? ⟨xb,1,none⟩=some (vL wb 0 k.ws.length k.ws.length):=(V1 ((S.out.old _ hwb.out.2.symm).trans H.out.1.o) (j:=1) rfl).1
  have e0:IntKind.i64.wrap (((wd*64+j:Nat):Int)+1)=((wd*64+(j+1):Nat):Int):=by rw[IntWalk.i64_in _ (by omega)];omega
  have hml:=d0e k.n wd x j
  clear hS
  have END:Aside ((R2 k.n wd x j).length=(X3 k.n wd x).length→B4 w wr cb (⟨5,ri,rph,(wd:Int),rold,rdone,rok,((c+(X3 k.n wd x).length:Nat):Int),rl⟩:J4).o):=by
   have:(R2 k.n wd x j).length=(X3 k.n wd x).length→B4 w wr cb (⟨5,ri,rph,(wd:Int),rold,rdone,rok,((c+(X3 k.n wd x).length:Nat):Int),rl⟩:J4).o:=fun e=>by rw[← e];exact S.out
   exact this
  by_cases hin:j<64∧wd*64+j<k.n
  ·obtain⟨hj2,hlt⟩:=hin
   have b0:decide (((wd*64+j:Nat):Int)<((wd*64+64:Nat):Int))=true:=decide_eq_true (by omega)
   have b0':decide (wd*64+j<wd*64+64)=true:=decide_eq_true (by omega)
   have b1:decide (((wd*64+j:Nat):Int)<(k.n:Int))=true:=decide_eq_true (by omega)
   have b1':decide (wd*64+j<k.n)=true:=decide_eq_true (by omega)
   have hm:(wd*64+j) % 64=j:=by omega
   have B:Aside (Calls Tryd.prog 56 #[vI ((wd*64+j:Nat):Int)] wr fun y w'=>y= .returned (wV (bitI (wd*64+j)))∧w'=wr):=O6 _
   have NS:Aside (R2 k.n wd x (j+1)=R2 k.n wd x j++(if wd*64+j<k.n∧x.getLsbD j=true then[((wd*64+j:Nat):Int)]else[])):=c0g _ _ _ _
   cases hb:x.getLsbD j with
   | false=>
     have hx:(bits .and .u64 (x.toNat:Int) ((bitI (wd*64+j)).toNat:Int) == 0)=true:=by rw[b0O,hm,hb];rfl
     have N2:Aside (R2 k.n wd x (j+1)=R2 k.n wd x j):=by
      have:R2 k.n wd x (j+1)=R2 k.n wd x j:=by rw[NS.out,if_neg (by rw[hb];simp),List.append_nil]
      exact this
     go_wp2_with (go_at_call 56;refine B.out.mono ?_;rintro e u ⟨rfl,hu⟩;subst hu)
     go_roundg (65 - (j+1))
     case measure=>omega
     case rel=>exact⟨j+1,by omega,rfl,rfl,by rw[N2.out];exact S.out⟩
   | true=>
     have hx:(bits .and .u64 (x.toNat:Int) ((bitI (wd*64+j)).toNat:Int) == 0)=false:=by rw[b0O,hm,hb];rfl
     have N2:Aside ((R2 k.n wd x (j+1)).length=(R2 k.n wd x j).length+1):=by
      have:(R2 k.n wd x (j+1)).length=(R2 k.n wd x j).length+1:=by rw[NS.out,if_pos ⟨hlt,hb⟩,List.length_append];rfl
      exact this
     generalize hm2:(R2 k.n wd x j).length=m at*
     have e7:IntKind.i64.wrap (((c+m:Nat):Int)+1)=((c+(m+1):Nat):Int):=by rw[IntWalk.i64_in _ (by omega)];omega
     go_wp2_with (go_at_call 56;refine B.out.mono ?_;rintro e u ⟨rfl,hu⟩;subst hu)
     go_roundg (65 - (j+1))
     case measure=>omega
     case rel=>
      refine⟨j+1,by omega,rfl,rfl,?_⟩
      rw[N2.out]
      have q:=Y1 (k:=7) (v:=vI ((c+(m+1):Nat):Int)) S.out.o
      exact⟨q.size.trans S.out.size,q.o,fun r hr=>(q.old r hr).trans (S.out.old r hr)⟩
  ·have NE:Aside ((R2 k.n wd x j).length=(X3 k.n wd x).length):=by
    have:(R2 k.n wd x j).length=(X3 k.n wd x).length:=by
     rw[← h06]
     by_cases e:j<64
     ·have:=c0f (n:=k.n) (w:=wd) (x:=x) (j:=j) (by omega) (64 - j)
      rw[show j+(64 - j)=64 by omega]at this
      rw[this]
     ·rw[show j=64 by omega]
    exact this
   have P:=END.out NE.out
   have P0:Aside _:=P
   clear P
   have b:64≤j∨(j<64∧k.n≤wd*64+j):=by omega
   have T:Aside (∀u:World,u.heap=(wr.setCell ⟨cb,3,none⟩ (vI ((wd:Int)+1))).heap→B4 w u cb (⟨5,ri,rph,(wd:Int)+1,rold,rdone,rok,((c+(X3 k.n wd x).length:Nat):Int),rl⟩:J4).o):=by
    have:∀u:World,u.heap=(wr.setCell ⟨cb,3,none⟩ (vI ((wd:Int)+1))).heap→B4 w u cb (⟨5,ri,rph,(wd:Int)+1,rold,rdone,rok,((c+(X3 k.n wd x).length:Nat):Int),rl⟩:J4).o:=fun u hu=>by
     have q:=Y1 (k:=3) (v:=vI ((wd:Int)+1)) P0.out.o
     exact⟨by rw[hu];exact q.size.trans P0.out.size,by rw[hu];exact q.o,fun r hr=>by rw[hu];exact(q.old r hr).trans (P0.out.old r hr)⟩
    exact this
   rcases b with b0|⟨b0,b1⟩
   all_goals(
    go_wp2
    have Q:Aside _:=T.out (wr.setCell ⟨cb,3,none⟩ (vI ((wd:Int)+1))) rfl
    have x1':(wr.setCell ⟨cb,3,none⟩ (vI ((wd:Int)+1))).cell? ⟨xb,1,none⟩=some (vL wb 0 k.ws.length k.ws.length):=(V1 ((Q.out.old _ hwb.out.2.symm).trans H.out.1.o) (j:=1) rfl).1
    clear d0 d3 d7 y3 y5 y6 y7 d5 d6 x0 x1 T END S P0 NE
    generalize wr.setCell ⟨cb,3,none⟩ (vI ((wd:Int)+1))=W at Q x1' ⊢
    have d3:=(V1 Q.out.o (j:=3) rfl).1
    have d5:=(V1 Q.out.o (j:=5) rfl).1
    have d6:=(V1 Q.out.o (j:=6) rfl).1
    have y5:=(V1 Q.out.o (j:=5) rfl).2
    have y6:=(V1 Q.out.o (j:=6) rfl).2
    by_cases he:wd+1=k.ws.length
    ·have he1:(((wd:Int)+1) == (k.ws.length:Int))=true:=by simp;omega
     go_quiet (fail)
     rename_i nq
     go_wp2
     go_end0
     refine⟨rfl,?_⟩
     have q:=(Y1 (k:=5) (v:=.bool true) Q.out.o).trans (Y1 (k:=6) (v:=.bool true) (Y1 (k:=5) (v:=.bool true) Q.out.o).o)
     exact RP.of (u:=w) H.out.1 (q.size.trans Q.out.size) (fun r hr=>(q.old r hr).trans (Q.out.old r hr)) hwb.out.1 hwb.out.2 q.o
    ·have he1:(((wd:Int)+1) == (k.ws.length:Int))=false:=by simp;omega
     go_quiet (fail)
     rename_i nq
     go_wp2
     go_end0
     refine⟨rfl,?_⟩
     exact RP.of (u:=w) H.out.1 Q.out.size Q.out.old hwb.out.1 hwb.out.2 Q.out.o)
end
end Go.Proofs.YtlcgkpapnpdfpaaDoor
