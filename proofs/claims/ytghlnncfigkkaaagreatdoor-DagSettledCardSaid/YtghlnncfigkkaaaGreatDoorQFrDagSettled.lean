/-
 The law DagSettled: for every input the call returns true, and each argument reads as it read before; the six.
-/
import Derived.Test.YtghlnncfigkkaaaGreatDoorQDjE
import Derived.Test.YtghlnncfigkkaaaGreatDoorQOpen
import Derived.Test.YtghlnncfigkkaaaGreatDoorTie
import Derived.Test.YtghlnncfigkkaaaGreatDoorCards
import Derived.SevenTiedAt
set_option maxRecDepth 100000
set_option linter.unusedVariables false
set_option linter.unusedSimpArgs false
namespace Go.Proofs.YtghlnncfigkkaaaGreatDoor.lawDagSettled
open Go Go.ChangeShapes Go.WideShapes Go.ChangeAt Go.RowKit
theorem Zn2 (os:Os) (started:os.Started) (H:Type) (enc:TypeId × Value→H):
  ReturnsInHanded {} Tryz.checked os 13 .any (fun w args=>(Rows.dagSettledSpec.pre enc Tryz.prog Tryz.f13 [] false w args∧LaidW w)∧sizedMet enc Tryz.prog Tryz.f13 (OpenSpec.ofChange Rows.dagSettledSpec) false w args)
   (Rows.dagSettledSpec.post enc Tryz.prog Tryz.f13 false true false false):=by
 refine returnsInHanded_of_change_and (C := Tryz.checked) (X:=fun w _=>LaidW w) (fun _ _ _ hh h=>h.of_heap hh) dOwn started (by kernel_rfl) Tryz.func13
  (ChangeSpec.witness_shaped (enc:=enc) (C := Tryz.checked) (os:=os) (X:=fun w _=>LaidW w) false (ZlL os) #[.string ⟨#[]⟩,.agg #[.bool false,.bool false,.bool false],.slice none 0 0] 8 rfl (World.shaped_of_RefB (by kernel_rfl) (by kernel_rfl)) (by kernel_rfl) (by kernel_rfl) (by kernel_rfl) (ZhT os _)) ?_
 intro W base args ds gs before hval0 hW _ hsz0 hL _
 have hval:∀ (j:Nat) t v,Tryz.f13.params[j]?=some t→args[j]?=some v→Value.okWide Tryz.prog W .any base t v:=hval0
 have hW':=hW
 have hg:=Zeg hL
 have ht:=ZfP hL
 obtain ⟨p,q,hA0,hV,rfl,hfz,hnd⟩:=hW
 have hA:DataW.TrodAll enc Tryz.prog W 0 (fun _=>true) true Tryz.f13.params.toList args.toList ds p:=hA0
 have hsz:(DataW.weightsEach Tryz.prog (Tryz.f13.params.toList++Rows.dagSettledSpec.plain.varTypes Tryz.prog) (ds++gs)).all (· ≤ reachBytes)=true:=hsz0
 rw [Tryz.params13] at hA hval hsz
 obtain ⟨v0,vs0,d0,ds0,p0,q0,hargs,rfl,rfl,h0,r0⟩:=trodAll_cons hA
 obtain ⟨v1,vs1,d1,ds1,p1,q1,rfl,rfl,rfl,h1,r1⟩:=trodAll_cons r0
 obtain ⟨v2,vs2,d2,ds2,p2,q2,rfl,rfl,rfl,h2,r2⟩:=trodAll_cons r1
 obtain ⟨rfl,rfl,rfl⟩:=trodAll_nil r2
 obtain rfl:args=#[v0,v1,v2]:=by cases args;simp_all
 obtain ⟨rfl,rfl⟩:gs=[]∧q=[]:=trodVars_none hV
 have k0:=h0
 have lt0:∀ x∈p0,x.block<W.heap.size:=by obtain ⟨m,hm⟩:=k0;exact DataW.trod_lt m _ _ _ hm
 obtain ⟨a0,rfl,e0,f0,m0⟩:=Go.ChangeMaps.open_string Tryz.underlying9 (hval 0 9 v0 rfl rfl) h0
 have k1:=h1
 have lt1:∀ x∈p1,x.block<W.heap.size:=by obtain ⟨m,hm⟩:=k1;exact DataW.trod_lt m _ _ _ hm
 obtain ⟨x1,y1,z1,rfl⟩:=open_opt (hval 1 72 v1 rfl rfl) h1
 have k2:=h2
 have lt2:∀ x∈p2,x.block<W.heap.size:=by obtain ⟨m,hm⟩:=k2;exact DataW.trod_lt m _ _ _ hm
 obtain ⟨a2,c2,l2,rfl,m2,s2,n2⟩:=ZbW Tryz.underlying40 Tryz.underlying39 (by kernel_rfl) (by kernel_rfl) (hval 2 40 v2 rfl rfl) h2 hsz 2 rfl rfl
 clear hA0 hval0 hsz0 hsz
 refine (DagSettled_walk W hg ht a0 m0 x1 y1 z1 a2 c2 l2 m2 s2 n2).mono fun e W' ⟨he,bel⟩ => ?_
 subst he
 exact ⟨_,rfl,_,_,_,[],_,[],hW',trodAll_mk1 (shut_bool Tryz.underlying4 _),(trodAll_cons_mk (Below.trod Zfd (by kernel_rfl) (of_decide_eq_true (by kernel_rfl)) k0 bel lt0) (trodAll_cons_mk (Below.trod Zfd (by kernel_rfl) (of_decide_eq_true (by kernel_rfl)) k1 bel lt1) (trodAll_cons_mk (Below.trod Zfd (by kernel_rfl) (of_decide_eq_true (by kernel_rfl)) k2 bel lt2) trodAll_mk0))),rfl,bel.frame _,fun h=>by cases h⟩
theorem w1:joinedFacts Tryz.pinned.checked.prog 13 Tryz.f13 Rows.dagSettledSpec Rows.dagSettledRow=true:=by kernel_rfl
theorem w2:Rows.dagSettledRow.spec=Rows.dagSettledSpec.name:=rfl
theorem w3 (os:Os) (started:os.Started) (H:Type) (enc:TypeId × Value→H):ReturnsInHanded Rows.dagSettledRow.assume Tryz.pinned.checked os 13 .any (Rows.dagSettledRow.pre enc Tryz.pinned.checked.prog Tryz.f13 (OpenSpec.ofChange Rows.dagSettledSpec)) (Rows.dagSettledSpec.post enc Tryz.pinned.checked.prog Tryz.f13 Rows.dagSettledRow.apart Rows.dagSettledRow.fresh Rows.dagSettledRow.handsOn Rows.dagSettledRow.again):=Zn2 os started H enc
theorem w4 : Tryz.pinned.checked.prog.funcNamed Rows.dagSettledRow.func=some 13:=by kernel_rfl
theorem w5 : Tryz.f13.isInstance Tryz.pinned.checked.prog Rows.dagSettledRow.origin Rows.dagSettledRow.targs:=of_decide_eq_true (by kernel_rfl)
theorem w6 : Tryz.f13.isWrapper Tryz.pinned.checked.prog Rows.dagSettledRow.wrapper Rows.dagSettledRow.mainSum:=by unfold Func.isWrapper;first | (rw [if_pos (by decide +kernel)];kernel_rfl) | (rw [if_neg (by decide +kernel)];exact ⟨rfl,rfl⟩)
theorem over:Rows.DagSettledSaid:=
 OpenClaim.holds_of_wide 13 Tryz.f13 rfl rfl w2 rfl rfl rfl rfl ⟨rfl,rfl,rfl,rfl,rfl⟩ rfl rfl rfl rfl rfl w4 Tryz.func13 w1 w5 w6
  (fun os started H enc _=>w3 os started H enc)
theorem proved:Rows.DagSettledCardSaid:=
 Claim7.holds_tied_plain_at .later [] [.data,.data,.data,.handle,.sentinel,.sentinel] true Rows.dagSettledCard.stood.harness true
  over (fun _ h=>by cases h) (by kernel_rfl) (fun _ h=>by cases h) dagSettled_row_tie rfl ⟨rfl,rfl⟩ (by kernel_rfl) rfl
  (fun f fn hf hfn=>by
   obtain rfl:f=13:=Option.some.inj ((show Tryz.prog.funcNamed "twain/twainlaw16.DagSettled"=some 13 by kernel_rfl).symm.trans hf) |>.symm
   obtain rfl:fn = Tryz.f13:=(Option.some.inj (Tryz.func13.symm.trans hfn)).symm
   exact ⟨by kernel_rfl,fun j t ht=>by
    rw [Tryz.params13] at ht
    have hm:t∈[9,72,40]:=Kam (by simpa using ht)
    have hall:∀ t∈[9,72,40],Tryz.prog.wantsStandIn t=false:=by
     intro t ht
     simp only [List.mem_cons,List.not_mem_nil,or_false] at ht
     rcases ht with rfl | rfl | rfl <;> kernel_rfl
    exact hall t hm⟩)
  (by kernel_rfl)
end Go.Proofs.YtghlnncfigkkaaaGreatDoor.lawDagSettled
