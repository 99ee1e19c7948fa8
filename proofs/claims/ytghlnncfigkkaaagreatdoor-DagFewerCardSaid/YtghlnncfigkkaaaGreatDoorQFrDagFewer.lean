/-
 The law DagFewer: for every input the call returns true, and each argument reads as it read before; the six.
-/
import Derived.Test.YtghlnncfigkkaaaGreatDoorQDgM
import Derived.Test.YtghlnncfigkkaaaGreatDoorQOpen
import Derived.Test.YtghlnncfigkkaaaGreatDoorTie
import Derived.Test.YtghlnncfigkkaaaGreatDoorCards
import Derived.SevenTiedAt
set_option maxRecDepth 100000
set_option linter.unusedVariables false
set_option linter.unusedSimpArgs false
namespace Go.Proofs.YtghlnncfigkkaaaGreatDoor.lawDagFewer
open Go Go.ChangeShapes Go.WideShapes Go.ChangeAt Go.RowKit
theorem Zn2 (os:Os) (started:os.Started) (H:Type) (enc:TypeId × Value→H):
  ReturnsInHanded {} Tryz.checked os 11 .any (fun w args=>(Rows.dagFewerSpec.pre enc Tryz.prog Tryz.f11 [] false w args∧LaidW w)∧sizedMet enc Tryz.prog Tryz.f11 (OpenSpec.ofChange Rows.dagFewerSpec) false w args)
   (Rows.dagFewerSpec.post enc Tryz.prog Tryz.f11 false true false false):=by
 refine returnsInHanded_of_change_and (C := Tryz.checked) (X:=fun w _=>LaidW w) (fun _ _ _ hh h=>h.of_heap hh) dOwn started (by kernel_rfl) Tryz.func11
  (ChangeSpec.witness_shaped (enc:=enc) (C := Tryz.checked) (os:=os) (X:=fun w _=>LaidW w) false (ZlL os) #[.string ⟨#[]⟩] 8 rfl (World.shaped_of_RefB (by kernel_rfl) (by kernel_rfl)) (by kernel_rfl) (by kernel_rfl) (by kernel_rfl) (ZhT os _)) ?_
 intro W base args ds gs before hval0 hW _ hsz0 hL _
 have hval:∀ (j:Nat) t v,Tryz.f11.params[j]?=some t→args[j]?=some v→Value.okWide Tryz.prog W .any base t v:=hval0
 have hW':=hW
 have hg:=Zeg hL
 have ht:=ZfP hL
 obtain ⟨p,q,hA0,hV,rfl,hfz,hnd⟩:=hW
 have hA:DataW.TrodAll enc Tryz.prog W 0 (fun _=>true) true Tryz.f11.params.toList args.toList ds p:=hA0
 have hsz:(DataW.weightsEach Tryz.prog (Tryz.f11.params.toList++Rows.dagFewerSpec.plain.varTypes Tryz.prog) (ds++gs)).all (· ≤ reachBytes)=true:=hsz0
 rw [Tryz.params11] at hA hval hsz
 obtain ⟨v0,vs0,d0,ds0,p0,q0,hargs,rfl,rfl,h0,r0⟩:=trodAll_cons hA
 obtain ⟨rfl,rfl,rfl⟩:=trodAll_nil r0
 obtain rfl:args=#[v0]:=by cases args;simp_all
 obtain ⟨rfl,rfl⟩:gs=[]∧q=[]:=trodVars_none hV
 have k0:=h0
 have lt0:∀ x∈p0,x.block<W.heap.size:=by obtain ⟨m,hm⟩:=k0;exact DataW.trod_lt m _ _ _ hm
 obtain ⟨a0,rfl,e0,f0,m0⟩:=Go.ChangeMaps.open_string Tryz.underlying9 (hval 0 9 v0 rfl rfl) h0
 clear hA0 hval0 hsz0 hsz
 refine (DagFewer_walk W hg ht a0 m0).mono fun e W' ⟨he,bel⟩ => ?_
 subst he
 exact ⟨_,rfl,_,_,_,[],_,[],hW',trodAll_mk1 (shut_bool Tryz.underlying4 _),(trodAll_cons_mk (Below.trod Zfd (by kernel_rfl) (of_decide_eq_true (by kernel_rfl)) k0 bel lt0) trodAll_mk0),rfl,bel.frame _,fun h=>by cases h⟩
theorem over:Rows.DagFewerSaid:=
 OpenClaim.holds_of_wide 11 Tryz.f11 rfl rfl rfl rfl rfl rfl rfl ⟨rfl,rfl,rfl,rfl,rfl⟩ rfl rfl rfl rfl rfl (by kernel_rfl) Tryz.func11 (by kernel_rfl)
  (of_decide_eq_true (by kernel_rfl)) (by unfold Func.isWrapper;first | (rw [if_pos (by decide +kernel)];kernel_rfl) | (rw [if_neg (by decide +kernel)];exact ⟨rfl,rfl⟩))
  (fun os started H enc _=>Zn2 os started H enc)
theorem proved:Rows.DagFewerCardSaid:=
 Claim7.holds_tied_plain_at .later [] [.data,.data,.data,.handle,.sentinel,.sentinel] true Rows.dagFewerCard.stood.harness true
  over (fun _ h=>by cases h) (by kernel_rfl) (fun _ h=>by cases h) dagFewer_row_tie rfl ⟨rfl,rfl⟩ (by kernel_rfl) rfl
  (fun f fn hf hfn=>by
   obtain rfl:f=11:=Option.some.inj ((show Tryz.prog.funcNamed "twain/twainlaw16.DagFewer"=some 11 by kernel_rfl).symm.trans hf) |>.symm
   obtain rfl:fn = Tryz.f11:=(Option.some.inj (Tryz.func11.symm.trans hfn)).symm
   exact ⟨by kernel_rfl,fun j t ht=>by
    rw [Tryz.params11] at ht
    have hm:t∈[9]:=Kam (by simpa using ht)
    have hall:∀ t∈[9],Tryz.prog.wantsStandIn t=false:=by
     intro t ht
     simp only [List.mem_cons,List.not_mem_nil,or_false] at ht
     subst ht;kernel_rfl
    exact hall t hm⟩)
  (by kernel_rfl)
end Go.Proofs.YtghlnncfigkkaaaGreatDoor.lawDagFewer
