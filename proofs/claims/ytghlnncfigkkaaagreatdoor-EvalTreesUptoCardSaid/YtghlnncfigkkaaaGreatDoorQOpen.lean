/-
  A law's arguments, opened: what a reading of an argument says of the value that came in. What the frames of the lex laws share: the six listed variables, a world that meets the condition, openers with the arguments' sizes. A row of integers among the arguments, with its bulk. A row of words among the arguments, with its bulk.
-/
import Derived.Test.YtghlnncfigkkaaaGreatDoorQNum
import Derived.Test.YtghlnncfigkkaaaGreatDoorQScan
import Derived.ProofKit
import Derived.OpenShut
import Derived.ShutString
import Derived.ChangeOld
import Derived.Carry
import Derived.Test.YtghlnncfigkkaaaGreatDoorRows
import Derived.LaidMore
import Derived.Stop.LaidErr
import Derived.ChangeSame
import Derived.ChangeVars
import Derived.JoinedOf
import Derived.RowKit
import Derived.RowKitTokens
import Derived.LaidLaws
import Derived.LaidHandle
import Derived.Stop.Joined
import Derived.SizedLaws
namespace Go.Proofs.YtghlnncfigkkaaaGreatDoor
set_option linter.unusedVariables false
set_option linter.unusedSimpArgs false
open Go.RowKit Go.ChangeShapes Go.WideShapes
section
variable {H:Type} {enc:TypeId × Value→H} {P:Program} {w:World}
theorem Zju {a:Addr} {v:Value} (h:w.cell? a=some v):a=⟨a.block,a.off,none⟩:=by
 unfold World.cell? at h
 obtain ⟨b,o,s⟩:=a
 cases s with
 | none=>rfl
 | some n=>
  split at h
  ·simp at h
  ·cases h
theorem ZmF (b o j:Nat):(⟨b,o,none⟩:Addr).add j=⟨b,o+j,none⟩:=by unfold Addr.add;split <;> simp_all
theorem Zlk (zs:List Int) (h:∀ n∈zs,(Lit.int .u64 n).wf=true):∃ l:List UInt64,zs=l.map fun x=>(x.toNat:Int):=by
 induction zs with
 | nil=>exact ⟨[],rfl⟩
 | cons z zs ih=>
  obtain ⟨l,hl⟩:=ih fun n hn=>h n (List.mem_cons_of_mem _ hn)
  obtain ⟨x,hx⟩:=Zn7 (h z (by simp))
  exact ⟨x::l,by rw [List.map_cons,←hl,hx]⟩
end
open Go.ChangeShapes Go.WideShapes Go.RowKit
theorem dOwn:ownKnob Tryz.prog.godebug=none:=by kernel_rfl
theorem Zfd:laidOutB Tryz.prog=true:=by kernel_rfl
theorem dEt : Tryz.prog.globalNamed "errors.errorType"=some 0:=by kernel_rfl
theorem dRt:(Tryz.prog.cutTypes.find? (·.1=="internal/reflectlite.rtype")).map (·.2)=some 237:=by kernel_rfl
theorem dOne:((List.range Tryz.prog.types.size).filter fun t => Tryz.prog.rowNamed t [101,114,114,111,114])=[28]:=by kernel_rfl
theorem ZmG:typeHandle Tryz.prog 28=hand 28:=by kernel_rfl
abbrev LaidW (W:World):Prop:=laidMetH Tryz.prog [("math/bits.deBruijn32tab",Rows.laid_math_bits_deBruijn32tab),("math/bits.deBruijn64tab",Rows.laid_math_bits_deBruijn64tab),("internal/strconv.uint64pow10",Rows.laid_internal_strconv_uint64pow10),("errors.errorType",Rows.laid_errors_errorType),("strconv.ErrRange",Rows.laid_strconv_ErrRange),("strconv.ErrSyntax",Rows.laid_strconv_ErrSyntax)] W
theorem Zeg {W:World} (h:LaidW W):ETyped W:=by
 have h':laidMet Tryz.prog [("math/bits.deBruijn32tab",Rows.laid_math_bits_deBruijn32tab),("math/bits.deBruijn64tab",Rows.laid_math_bits_deBruijn64tab),("internal/strconv.uint64pow10",Rows.laid_internal_strconv_uint64pow10),("strconv.ErrRange",Rows.laid_strconv_ErrRange),("strconv.ErrSyntax",Rows.laid_strconv_ErrSyntax)] W∧handlesMet Tryz.prog [("errors.errorType",Rows.laid_errors_errorType)] W:=h
 obtain ⟨name,u,ty,e1,e2,e3,e4,e5⟩:=h'.2 _ (List.mem_singleton.2 rfl)
 have en:name=[101,114,114,111,114]:=(Option.some.inj e1).symm
 subst en
 obtain rfl:=Option.some.inj (dRt.symm.trans e2)
 have hm:ty∈(List.range Tryz.prog.types.size).filter fun t => Tryz.prog.rowNamed t [101,114,114,111,114]:=List.mem_filter.2 ⟨List.mem_range.2 e3,e4⟩
 rw [dOne] at hm
 obtain rfl:=List.mem_singleton.1 hm
 rw [ZmG] at e5
 have hc:=World.var?_cell dEt e5 0
 unfold ETyped
 simpa [ETy] using hc
theorem dRg : Tryz.prog.globalNamed "strconv.ErrRange"=some 3:=by kernel_rfl
theorem dRgT:(Tryz.prog.globals[3]?).map (·.type)=some 28:=by kernel_rfl
theorem ZfP {W:World} (h:LaidW W):ErrT W:=by
 have h':laidMet Tryz.prog [("math/bits.deBruijn32tab",Rows.laid_math_bits_deBruijn32tab),("math/bits.deBruijn64tab",Rows.laid_math_bits_deBruijn64tab),("internal/strconv.uint64pow10",Rows.laid_internal_strconv_uint64pow10),("strconv.ErrRange",Rows.laid_strconv_ErrRange),("strconv.ErrSyntax",Rows.laid_strconv_ErrSyntax)] W∧handlesMet Tryz.prog [("errors.errorType",Rows.laid_errors_errorType)] W:=h
 have h2:=h'.1.tail.tail.tail
 obtain ⟨ps,⟨g0,t0,cs0,f0,p0,q0,hg0,ht0,hv0,hd0,_,e0⟩,_,_⟩:=h2
 obtain rfl:=Option.some.inj (dRg.symm.trans hg0)
 obtain rfl:=Option.some.inj (dRgT.symm.trans ht0)
 obtain ⟨l0⟩:=cs0
 obtain ⟨_,u,v,hl,_⟩:=iface_of_trod Tryz.underlying28 hd0
 have hc:=World.var?_cell dRg hv0 0
 subst hl
 exact ⟨u,v,by simpa using hc⟩
noncomputable abbrev ZlL (os:Os):World:=World.doorLaid Tryz.prog 69 os
theorem ZhT (os:Os) (args:Array Value):LaidW ((ZlL os).forCall (fun _ _=>0) ⟨#[],args,[]⟩).memory:=
 laidMetH_of_parts (laidMet_of_run' 8 (by kernel_rfl) (by kernel_rfl)) (by kernel_rfl)
section
variable {H:Type} {enc:TypeId × Value→H} {w:World}
end
set_option maxRecDepth 100000
open Go.ChangeShapes Go.WideShapes Go.ChangeAt Go.RowKit
section
variable {H:Type} {enc:TypeId × Value→H} {w:World}
theorem Zd2 {r:Reach} {b0:Nat} {t e:TypeId} {k:IntKind} {v:Value} {d:DataW H} {p:List MemPlace} (ht : Tryz.prog.underlying t=some (.slice e)) (he : Tryz.prog.underlying e=some (.int k)) (hc : Tryz.prog.cellsOf e=1)
  (hv:Value.okWide Tryz.prog w r b0 t v) (h:DataW.Trod enc Tryz.prog w 0 (fun _=>true) true t v d p)
  {ts:List TypeId} {ds:List (DataW H)} (hsz:(DataW.weightsEach Tryz.prog ts ds).all (· ≤ reachBytes)=true) (j:Nat) (hj:ts[j]?=some t) (hd:ds[j]?=some d):
  ∃ (A:Option Addr) (c:Nat) (zs:List Int),v=.slice A zs.length c∧zs.length≤c∧c≤maxLen∧c * Tryz.prog.bytesOf e≤reachBytes∧Rd w w.heap.size A (zs.map (Value.int k))∧∀ n∈zs,(Lit.int k n).wf=true:=by
 obtain ⟨A,n,c,rfl⟩:=okWide_slice ht hv
 obtain ⟨fuel,hf⟩:=h
 rcases open_ints ht he hc hf with ⟨hcs,_⟩ | ⟨x,len,cap,zs,hcs,_,hl,hm,hz,hx,hcell,hwz⟩
 ·simp [Value.cells] at hcs
  obtain ⟨rfl,rfl,rfl⟩:=hcs
  exact ⟨none,0,[],rfl,by simp,by simp,by simp,.inl rfl,by simp⟩
 ·simp [Value.cells] at hcs
  obtain ⟨rfl,rfl,rfl⟩:=hcs
  simp only [if_true] at hz
  have hlen:(zs.take n).length=n:=by rw [List.length_take];omega
  have hdx:d=.slice (lits k (zs.take n)) (lits k (zs.drop n)):=(Prod.mk.inj hx).1
  have hs:=sized_slice hsz hj (hd.trans (congrArg some hdx)) ht
  have hsum:(lits (H:=H) k (zs.take n)).length+(lits (H:=H) k (zs.drop n)).length=c:=by
   simp only [lits,List.length_map,List.length_take,List.length_drop]
   omega
  rw [hsum] at hs
  refine ⟨some x,c,zs.take n,by rw [hlen],by omega,hm,hs,?_,fun m hm=>hwz m (List.mem_of_mem_take hm)⟩
  rcases Nat.eq_zero_or_pos n with h0 | h0
  ·exact .inl (by subst h0;simp)
  ·have hx:=hcell 0 (by omega)
   rw [show x.add 0=x from rfl] at hx
   have hx':=Zju hx
   refine .inr ⟨x.block,x.off,by rw [←hx'],World.block_lt_of_cell? w _ hx,fun j v hv => ?_⟩
   rw [List.getElem?_map,List.getElem?_take] at hv
   split at hv
   ·rename_i hj
    have hj2:=hcell j (by omega)
    rw [hx',ZmF] at hj2
    rw [hj2,←hv,List.getElem?_eq_getElem (by omega),List.getD_eq_getElem?_getD,List.getElem?_eq_getElem (by omega)]
    rfl
   ·cases hv
end
set_option maxRecDepth 100000
section
variable {H:Type} {enc:TypeId × Value→H} {w:World}
theorem ZbW {r:Reach} {b0:Nat} {t e:TypeId} {v:Value} {d:DataW H} {p:List MemPlace} (ht : Tryz.prog.underlying t=some (.slice e)) (he : Tryz.prog.underlying e=some (.int .u64)) (hc : Tryz.prog.cellsOf e=1) (hb : Tryz.prog.bytesOf e=8)
  (hv:Value.okWide Tryz.prog w r b0 t v) (h:DataW.Trod enc Tryz.prog w 0 (fun _=>true) true t v d p)
  {ts:List TypeId} {ds:List (DataW H)} (hsz:(DataW.weightsEach Tryz.prog ts ds).all (· ≤ reachBytes)=true) (j:Nat) (hj:ts[j]?=some t) (hd:ds[j]?=some d):
  ∃ (A:Option Addr) (c:Nat) (l:List UInt64),v=.slice A l.length c∧l.length≤c∧c≤17592186043904∧Rd w w.heap.size A (l.map U):=by
 obtain ⟨A,c,zs,hv,hl,hm,hs,hr,hw⟩:=Zd2 ht he hc hv h hsz j hj hd
 obtain ⟨l,rfl⟩:=Zlk zs hw
 rw [hb] at hs
 refine ⟨A,c,l,by rw [hv,List.length_map],by simpa using hl,by simp only [reachBytes] at hs;omega,?_⟩
 rw [List.map_map] at hr
 exact hr
end
end Go.Proofs.YtghlnncfigkkaaaGreatDoor
