/-
  Walk of the document's evaluation.
-/
import Derived.Test.YtghlnncfigkkaaaGreatDoorQTk
import Derived.Test.YtghlnncfigkkaaaGreatDoorQChkQ
import Derived.Test.YtghlnncfigkkaaaGreatDoorQRgRef
import Derived.Deep.RegionLaw
import Derived.Deep.RegionHeld3
set_option maxRecDepth 100000
set_option maxHeartbeats 8000000
open Go.Lib (hid)
namespace Go.Proofs.YtghlnncfigkkaaaGreatDoor
set_option linter.unusedVariables false
set_option linter.unusedSimpArgs false
open Go.RowKit
theorem Zc7 {es:List EI} {m:Nat→Bool} {names:Names} {c:Nat} {p:Int}:∀ (n k:Nat) (sh:List (List Int)),Zay es m names n k sh=.inr (c,p)→c=140∨c=141
 | 0,k,sh,h=>by cases h
 | n+1,k,sh,h=>by
  unfold Zay at h
  split at h
  ·split at h
   ·cases h
   ·split at h
    ·rename_i c' hc
     injection h with h
     injection h with h _
     subst h
     exact Zet hc
    ·exact Zc7 n _ _ h
  ·exact Zc7 n _ _ h
theorem Zed {es:List EI} {c:Nat} {p:Int}:∀ (ss:List SI) (names:Names) (sh:List (List Int)) (inp:Nat),Zaj es ss names sh inp=.inr (c,p)→c≠0
 | [],names,sh,inp,h=>by cases h
 | s::ss,names,sh,inp,h=>by
  unfold Zaj at h
  dsimp only at h
  repeat' split at h
  all_goals first
   | exact Zed ss _ _ _ h
   | (injection h with h;injection h with h _;omega)
   | (rename_i x hx;injection h with h;subst h;have:=Zc7 _ _ _ hx;omega)
theorem ZgE {ss:List SI} {es:List EI} {c:Nat} {p:Int} (h:ZaA ss es=.inr (c,p)):c≠0:=by
 unfold ZaA at h
 split at h
 ·exact Zed _ _ _ _ h
 ·injection h with h
  injection h with h _
  omega
theorem Zd1 (ss:List SI) (p:Int):(Zae ss p).length≤ss.length:=by
 unfold Zae
 rw [List.length_map]
 exact List.length_filter_le _ _
def ZlA (w:World) (r:Sum (List TN) Nat) (e:Ending) (w':World):Prop:=
 Below w.heap.size w w' ∧
 match r with
 | .inl outs=>∃ A n c,e=.returned (.tuple #[.slice A n c,.int .i64 0])∧n=outs.length∧RdTN w' w'.heap.size A outs
 | .inr c=>e=.returned (.tuple #[.slice none 0 0,.int .i64 (c:Int)])
theorem ZjM {w w2:World} {v0 v1 u0 u1:Value} {T1 T2:TypeId} (h:w2=(w.alloc (.cells #[v0,v1] T1)).alloc (.cells #[u0,u1] T2)):w2.heap[w.heap.size]?=some (.cells #[v0,v1] T1 (0,0))∧w2.heap[w.heap.size+1]?=some (.cells #[u0,u1] T2 (0,0))∧Below w.heap.size w w2∧w2.heap.size=w.heap.size+2:=by
 refine ⟨?_,?_,?_,?_⟩
 ·rw [h,Below.heap_alloc _ _ _ (by simp)];exact heap_alloc_new w _
 ·rw [h]
  have:=heap_alloc_new (w.alloc (.cells #[v0,v1] T1)) (.cells #[u0,u1] T2)
  rwa [World.size_alloc] at this
 ·rw [h];exact ((Below.refl _ _).alloc (Nat.le_refl _) _).alloc (by simp) _
 ·rw [h,World.size_alloc,World.size_alloc]
theorem ZjN (SA EA:Option Addr) (ns ne sc ec:Nat) (ss:List SI) (es:List EI) (I0 I1:Option Addr) (m0 m1 k0 k1:Nat) (in0 in1:List TN) (w:World) (hns:ns=ss.length) (hne:ne=es.length) (hl1:ns≤100000) (hl2:ne≤100000)
  (h1:RdSI w w.heap.size SA ss) (h3:RdEI w w.heap.size EA es) (hnum:∀ e∈es,e.num≤18446744073709551615) (hsm:∀ s∈ss,s.shape.length≤1000000)
  (hm0:m0=in0.length) (hm1:m1=in1.length) (hk0:m0≤1000000) (hk1:m1≤1000000) (hi0:RdTN w w.heap.size I0 in0) (hi1:RdTN w w.heap.size I1 in1):
  Calls Tryz.prog 31 #[.agg #[.slice SA ns sc,.slice EA ne ec],.agg #[.slice I0 m0 k0,.slice I1 m1 k1]] w (ZlA w (evalR ss es in0 in1)):=by
 obtain ⟨w2,hw2⟩:∃ w2,w2=(w.alloc (.cells #[.slice SA ns sc,.slice EA ne ec] 26)).alloc (.cells #[.slice I0 m0 k0,.slice I1 m1 k1] 45):=⟨_,rfl⟩
 obtain ⟨hA,hI,hb2,hsz⟩:=ZjM hw2
 have HW2:=hid hw2
 have HB2:=hid hb2
 have HSZ:=hid hsz
 have HNS:=hid hns
 have HNE:=hid hne
 have H1:=hid (h1.next hb2)
 have H3:=hid (h3.next hb2)
 have HNU:=hid hnum
 have HSM:=hid hsm
 have HM0:=hid hm0
 have HM1:=hid hm1
 have HI0:=hid (hi0.next hb2)
 have HI1:=hid (hi1.next hb2)
 have HCH:=hid (Zh2 SA EA ns ne sc ec ss es w2 hns hne hl1 hl2 (h1.next hb2) (h3.next hb2))
 have HTW:=hid (fun W (hW:Below w2.heap.size w2 W)=>(hW.block _ (Array.getElem?_eq_some_iff.1 hA).1).trans hA)
 have HIW:=hid (fun W (hW:Below w2.heap.size w2 W)=>(hW.block _ (Array.getElem?_eq_some_iff.1 hI).1).trans hI)
 have HCW:=hid (show ∀ W,Below w2.heap.size w2 W→W.cell? ⟨w.heap.size,0,none⟩=some (.slice SA ns sc)∧W.cell? ⟨w.heap.size,1,none⟩=some (.slice EA ne ec)∧W.cell? ⟨w.heap.size+1,0,none⟩=some (.slice I0 m0 k0)∧W.cell? ⟨w.heap.size+1,1,none⟩=some (.slice I1 m1 k1) from fun W hW=>by
  have h0:=(hW.block _ (Array.getElem?_eq_some_iff.1 hA).1).trans hA
  have h1:=(hW.block _ (Array.getElem?_eq_some_iff.1 hI).1).trans hI
  exact ⟨cell_of_row _ _ 0 _ _ _ h0,cell_of_row _ _ 1 _ _ _ h0,cell_of_row _ _ 0 _ _ _ h1,cell_of_row _ _ 1 _ _ _ h1⟩)
 obtain ⟨z0,z1,z2,z3⟩:=HCW.out _ (Below.refl _ _)
 clear hw2 hb2 hA hI hns hne h1 h3 hnum hsm hm0 hm1 hi0 hi1 hsz
 go_enter Tryz.func31,Tryz.ntmps31
 go_wp2_with fail
 rw [←HW2.out]
 cases hcc:ZaA ss es with
 | inr r=>
  obtain ⟨cc,cp⟩:=r
  rw [hcc] at HCH
  have HZ:=hid (show evalR ss es in0 in1=.inr cc from by unfold evalR;rw [hcc])
  have hc0:((cc:Int) != 0)=true:=by have:=ZgE hcc;simp;omega
  clear hcc
  go_wp2_with (go_at_call 59;refine HCH.out.mono ?_;rintro e w3 ⟨hb3,rfl⟩)
  go_ret2
  refine ⟨bnext HB2.out hb3,?_⟩
  rw [HZ.out]
  rfl
 | inl shF=>
  rw [hcc] at HCH
  have HCC:=hid hcc
  have HIN:=hid (fun (p:Int) W (hW:Below w2.heap.size w2 W)=>ZgD SA EA ns ne sc ec ss p W HNS.out (by omega) (H1.out.next hW) HSM.out)
  have HF0:=hid (fun W A n c (hW:Below w2.heap.size w2 W) (hn:n=(Zae ss 0).length) (hr:RdSh W A (Zae ss 0))=>Zhu A I0 n m0 c k0 (Zae ss 0) in0 W hn HM0.out (by have:=Zd1 ss 0;have:=HNS.out;omega) hk0 hr (HI0.out.next hW))
  have HF1:=hid (fun W A n c (hW:Below w2.heap.size w2 W) (hn:n=(Zae ss 1).length) (hr:RdSh W A (Zae ss 1))=>Zhu A I1 n m1 c k1 (Zae ss 1) in1 W hn HM1.out (by have:=Zd1 ss 1;have:=HNS.out;omega) hk1 hr (HI1.out.next hW))
  clear hcc
  go_upto_region 4 with (go_at_call 59;refine HCH.out.mono ?_;rintro e w3 ⟨hb3,qz,Xz,rfl,-,-⟩;have B3:=hid hb3;clear hb3)
  obtain ⟨y0,y1,y2,y3⟩:=HCW.out _ B3.out
  clear z0 z1 z2 z3 HCH
  have HS5:=hid (show ∀ W,Below w2.heap.size w2 W→W.cell? ⟨w.heap.size,0,none⟩=some (.slice SA ns sc)∧W.cell? ⟨w.heap.size,1,none⟩=some (.slice EA ne ec)∧W.cell? ⟨w.heap.size+1,0,none⟩=some (.slice I0 m0 k0)∧W.cell? ⟨w.heap.size+1,1,none⟩=some (.slice I1 m1 k1)∧Below w2.heap.size w2 W from fun W hW=>by
   obtain ⟨q0,q1,q2,q3⟩:=HCW.out W hW
   exact ⟨q0,q1,q2,q3,hW⟩)
  clear y0 y1 y2 y3
  cases hf0:fitT (Zae ss 0) in0 with
  | false=>
   rw [hf0] at HF0
   have HZ:=hid (show evalR ss es in0 in1=.inr 201 from by unfold evalR;rw [HCC.out];dsimp only;rw [if_pos (.inl hf0)])
   clear hf0
   refine wp_region_held_drew (S:=(fun w'=>w'.cell? ⟨w.heap.size,0,none⟩=some (.slice SA ns sc)∧w'.cell? ⟨w.heap.size,1,none⟩=some (.slice EA ne ec)∧w'.cell? ⟨w.heap.size+1,0,none⟩=some (.slice I0 m0 k0)∧w'.cell? ⟨w.heap.size+1,1,none⟩=some (.slice I1 m1 k1)∧Below w2.heap.size w2 w')) (by kernel_rfl) (HS5.out _ B3.out.drew) (fun hHeld => ?_)
   refine tk 0 ?_
   simp only [tkS]
   refine tk 2 ?_
   simp only [tkS]
   refine tk 3 ?_
   simp only [tkS]
   refine wpAnyH_ready (rs:=[1]) (by kernel_rfl) (by simp) ?_
   refine AllReadyH.cons (o:=_) rfl (fun K hK => ?_) AllReadyH.nil
   go_simp
   go_at_call 61
   refine (HIN.out 0 w3.drew B3.out.drew).mono ?_
   rintro e w4 ⟨b4,A4,n4,c4,rfl,hn4,hr4⟩
   have B4:=hid (bnext (B3.out.drew) b4)
   have N4:=hid hn4
   have R4:=hid hr4
   clear b4 hn4 hr4
   refine hK.out _ _ (HS5.out _ B4.out) (fun hHeld => ?_)
   clear hK K
   try simp only [tkS]
   refine wpAnyH_ready (rs:=[4]) (by kernel_rfl) (by simp) ?_
   refine AllReadyH.cons (o:=_) rfl (fun K hK => ?_) AllReadyH.nil
   go_simp
   go_at_call 60
   refine (HF0.out w4 A4 n4 c4 B4.out N4.out R4.out).mono ?_
   rintro e w5 ⟨rfl,b5⟩
   have B5:=hid (bnext B4.out b5)
   clear b5
   refine hK.out _ _ (HS5.out _ B5.out) (fun hHeld => ?_)
   clear hK K
   try simp only [tkS]
   refine tk 5 ?_
   simp only [tkS]
   refine tk 6 ?_
   simp only [tkS]
   refine tn 7 ?_
   simp only [tkS]
   refine tn 8 ?_
   simp only [tkS]
   refine tn 9 ?_
   simp only [tkS]
   refine tn 10 ?_
   simp only [tkS]
   refine tn 11 ?_
   simp only [tkS]
   refine tn 12 ?_
   simp only [tkS]
   refine tk 13 ?_
   simp only [tkS]
   refine wpAnyH_done (by kernel_rfl) ?_ _
   go_wp2
   go_ret2
   refine ⟨bnext HB2.out B5.out,?_⟩
   rw [HZ.out]
   rfl
  | true=>
   rw [hf0] at HF0
   cases hf1:fitT (Zae ss 1) in1 with
   | false=>
    rw [hf1] at HF1
    have HZ:=hid (show evalR ss es in0 in1=.inr 201 from by unfold evalR;rw [HCC.out];dsimp only;rw [if_pos (.inr hf1)])
    clear hf0 hf1
    refine wp_region_held_drew (S:=(fun w'=>w'.cell? ⟨w.heap.size,0,none⟩=some (.slice SA ns sc)∧w'.cell? ⟨w.heap.size,1,none⟩=some (.slice EA ne ec)∧w'.cell? ⟨w.heap.size+1,0,none⟩=some (.slice I0 m0 k0)∧w'.cell? ⟨w.heap.size+1,1,none⟩=some (.slice I1 m1 k1)∧Below w2.heap.size w2 w')) (by kernel_rfl) (HS5.out _ B3.out.drew) (fun hHeld => ?_)
    refine tk 0 ?_
    simp only [tkS]
    refine tk 2 ?_
    simp only [tkS]
    refine tk 3 ?_
    simp only [tkS]
    refine wpAnyH_ready (rs:=[1]) (by kernel_rfl) (by simp) ?_
    refine AllReadyH.cons (o:=_) rfl (fun K hK => ?_) AllReadyH.nil
    go_simp
    go_at_call 61
    refine (HIN.out 0 w3.drew B3.out.drew).mono ?_
    rintro e w4 ⟨b4,A4,n4,c4,rfl,hn4,hr4⟩
    have B4:=hid (bnext (B3.out.drew) b4)
    have N4:=hid hn4
    have R4:=hid hr4
    clear b4 hn4 hr4
    refine hK.out _ _ (HS5.out _ B4.out) (fun hHeld => ?_)
    clear hK K
    try simp only [tkS]
    refine wpAnyH_ready (rs:=[4]) (by kernel_rfl) (by simp) ?_
    refine AllReadyH.cons (o:=_) rfl (fun K hK => ?_) AllReadyH.nil
    go_simp
    go_at_call 60
    refine (HF0.out w4 A4 n4 c4 B4.out N4.out R4.out).mono ?_
    rintro e w5 ⟨rfl,b5⟩
    have B5:=hid (bnext B4.out b5)
    clear b5
    refine hK.out _ _ (HS5.out _ B5.out) (fun hHeld => ?_)
    clear hK K
    try simp only [tkS]
    refine tk 5 ?_
    simp only [tkS]
    refine tk 6 ?_
    simp only [tkS]
    refine tk 7 ?_
    simp only [tkS]
    refine tk 9 ?_
    simp only [tkS]
    refine tk 10 ?_
    simp only [tkS]
    refine wpAnyH_ready (rs:=[8]) (by kernel_rfl) (by simp) ?_
    refine AllReadyH.cons (o:=_) rfl (fun K hK => ?_) AllReadyH.nil
    go_simp
    go_at_call 61
    refine (HIN.out 1 w5 B5.out).mono ?_
    rintro e w6 ⟨b6,A6,n6,c6,rfl,hn6,hr6⟩
    have B6:=hid (bnext (B5.out) b6)
    have N6:=hid hn6
    have R6:=hid hr6
    clear b6 hn6 hr6
    refine hK.out _ _ (HS5.out _ B6.out) (fun hHeld => ?_)
    clear hK K
    try simp only [tkS]
    refine wpAnyH_ready (rs:=[11]) (by kernel_rfl) (by simp) ?_
    refine AllReadyH.cons (o:=_) rfl (fun K hK => ?_) AllReadyH.nil
    go_simp
    go_at_call 60
    refine (HF1.out w6 A6 n6 c6 B6.out N6.out R6.out).mono ?_
    rintro e w7 ⟨rfl,b7⟩
    have B7:=hid (bnext B6.out b7)
    clear b7
    refine hK.out _ _ (HS5.out _ B7.out) (fun hHeld => ?_)
    clear hK K
    try simp only [tkS]
    refine tk 12 ?_
    simp only [tkS]
    refine tk 13 ?_
    simp only [tkS]
    refine wpAnyH_done (by kernel_rfl) ?_ _
    go_wp2
    go_ret2
    refine ⟨bnext HB2.out B7.out,?_⟩
    rw [HZ.out]
    rfl
   | true=>
    rw [hf1] at HF1
    have HFT0:=hid hf0
    have HFT1:=hid hf1
    have HZ:=hid (show evalR ss es in0 in1=.inl (ZaG es in0 in1 ss [] 0 0 []) from by unfold evalR;rw [HCC.out];dsimp only;rw [if_neg (by rw [hf0,hf1];decide)])
    clear hf0 hf1
    refine wp_region_held_drew (S:=(fun w'=>w'.cell? ⟨w.heap.size,0,none⟩=some (.slice SA ns sc)∧w'.cell? ⟨w.heap.size,1,none⟩=some (.slice EA ne ec)∧w'.cell? ⟨w.heap.size+1,0,none⟩=some (.slice I0 m0 k0)∧w'.cell? ⟨w.heap.size+1,1,none⟩=some (.slice I1 m1 k1)∧Below w2.heap.size w2 w')) (by kernel_rfl) (HS5.out _ B3.out.drew) (fun hHeld => ?_)
    refine tk 0 ?_
    simp only [tkS]
    refine tk 2 ?_
    simp only [tkS]
    refine tk 3 ?_
    simp only [tkS]
    refine wpAnyH_ready (rs:=[1]) (by kernel_rfl) (by simp) ?_
    refine AllReadyH.cons (o:=_) rfl (fun K hK => ?_) AllReadyH.nil
    go_simp
    go_at_call 61
    refine (HIN.out 0 w3.drew B3.out.drew).mono ?_
    rintro e w4 ⟨b4,A4,n4,c4,rfl,hn4,hr4⟩
    have B4:=hid (bnext (B3.out.drew) b4)
    have N4:=hid hn4
    have R4:=hid hr4
    clear b4 hn4 hr4
    refine hK.out _ _ (HS5.out _ B4.out) (fun hHeld => ?_)
    clear hK K
    try simp only [tkS]
    refine wpAnyH_ready (rs:=[4]) (by kernel_rfl) (by simp) ?_
    refine AllReadyH.cons (o:=_) rfl (fun K hK => ?_) AllReadyH.nil
    go_simp
    go_at_call 60
    refine (HF0.out w4 A4 n4 c4 B4.out N4.out R4.out).mono ?_
    rintro e w5 ⟨rfl,b5⟩
    have B5:=hid (bnext B4.out b5)
    clear b5
    refine hK.out _ _ (HS5.out _ B5.out) (fun hHeld => ?_)
    clear hK K
    try simp only [tkS]
    refine tk 5 ?_
    simp only [tkS]
    refine tk 6 ?_
    simp only [tkS]
    refine tk 7 ?_
    simp only [tkS]
    refine tk 9 ?_
    simp only [tkS]
    refine tk 10 ?_
    simp only [tkS]
    refine wpAnyH_ready (rs:=[8]) (by kernel_rfl) (by simp) ?_
    refine AllReadyH.cons (o:=_) rfl (fun K hK => ?_) AllReadyH.nil
    go_simp
    go_at_call 61
    refine (HIN.out 1 w5 B5.out).mono ?_
    rintro e w6 ⟨b6,A6,n6,c6,rfl,hn6,hr6⟩
    have B6:=hid (bnext (B5.out) b6)
    have N6:=hid hn6
    have R6:=hid hr6
    clear b6 hn6 hr6
    refine hK.out _ _ (HS5.out _ B6.out) (fun hHeld => ?_)
    clear hK K
    try simp only [tkS]
    refine wpAnyH_ready (rs:=[11]) (by kernel_rfl) (by simp) ?_
    refine AllReadyH.cons (o:=_) rfl (fun K hK => ?_) AllReadyH.nil
    go_simp
    go_at_call 60
    refine (HF1.out w6 A6 n6 c6 B6.out N6.out R6.out).mono ?_
    rintro e w7 ⟨rfl,b7⟩
    have B7:=hid (bnext B6.out b7)
    clear b7
    refine hK.out _ _ (HS5.out _ B7.out) (fun hHeld => ?_)
    clear hK K
    try simp only [tkS]
    refine tk 12 ?_
    simp only [tkS]
    refine tk 13 ?_
    simp only [tkS]
    refine wpAnyH_done (by kernel_rfl) ?_ _
    obtain ⟨v,hv⟩:∃ v,v=w7.alloc (.cells #[.int .i64 0,.int .i64 0] 114):=⟨_,rfl⟩
    obtain ⟨nb,hnbe⟩:∃ nb,nb=w7.heap.size:=⟨_,rfl⟩
    have hb8:Below w7.heap.size w7 v:=by rw [hv];exact (Below.refl _ _).alloc (Nat.le_refl _) _
    have hnb:v.heap[nb]?=some (.cells #[.int .i64 0,.int .i64 0] 114 (0,0)):=by rw [hv,hnbe];exact heap_alloc_new w7 _
    have HV:=hid hv
    have B8:=hid (bnext B7.out hb8)
    have HNB:=hid hnb
    have HST:=hid (show Zas es shF ss [] from (ZbI HCC.out).2.1)
    have HRS:=hid (show RefSt w2 v none none 0 0 0 0 nb [] [] from ⟨⟨[],World.ownsRow_nil v w2.heap.size _ 3,rfl,trivial⟩,OwnTn.nil _ _ _ _,.inl rfl,by rw [hnbe];exact B7.out.size,(Array.getElem?_eq_some_iff.1 hnb).1,by simp [blk],by simp [blk],B8.out⟩)
    obtain ⟨z0,z1,z2,z3⟩:=HCW.out _ B8.out
    clear hHeld hv hb8 hnb HIN HF0 HF1 N4 R4 N6 R6 HS5
    go_upto_region 9 with fail
    rw [←HV.out,←hnbe]
    clear hnbe
    go_wp2_with fail
    go_loopw [9,10,41] (fun nvv ov iv wr=>∃ (k i0 i1:Nat) (names:Zah) (NA OA:Option Addr) (nn nc no oc:Nat) (outs:List TN),k≤ns∧iv=.int .i64 k∧nvv=.slice NA nn nc∧ov=.slice OA no oc∧nn≤k∧no≤k∧ZaG es in0 in1 ss [] 0 0 []=ZaG es in0 in1 (ss.drop k) names i0 i1 outs∧Zas es shF (ss.drop k) (shN names)∧Left (ss.drop k) 0 in0 i0∧Left (ss.drop k) 1 in1 i1∧RefSt w2 wr NA OA nn nc no oc nb names outs∧wr.heap[nb]?=some (.cells #[.int .i64 i0,.int .i64 i1] 114 (0,0))) (fun _ _ iv _=>ns-(intOf iv).toNat)
    case atStart=>exact ⟨0,0,0,[],none,none,0,0,0,0,[],by omega,rfl,rfl,rfl,by omega,by omega,rfl,HST.out,by unfold Left;rw [List.drop_zero,List.drop_zero];exact (Zb0 HFT0.out).1,by unfold Left;rw [List.drop_zero,List.drop_zero];exact (Zb0 HFT1.out).1,HRS.out,HNB.out⟩
    case round=>
     clear HRS HNB z0 z1 z2 z3
     obtain ⟨k,i0,i1,names,NA,OA,nn,nc,no,oc,outs,hk,rfl,rfl,rfl,hnk,hok,hR,hSO,hL0,hL1,hS,hnb⟩:=hrel
     have HR:=hid hR
     have HSO:=hid hSO
     have HL0:=hid hL0
     have HL1:=hid hL1
     have HS:=hid hS
     have HNB:=hid hnb
     clear hR hSO hL0 hL1 hS hnb
     by_cases hlt:k<ns
     ·have ht:ss[k]?=some (ss[k]'(by rw [←HNS.out];exact hlt)):=List.getElem?_eq_getElem _
      obtain ⟨d,hd⟩:∃ d,d=ss[k]'(by rw [←HNS.out];exact hlt):=⟨_,rfl⟩
      rw [←hd] at ht
      have hdr:ss.drop k=d::ss.drop (k+1):=by
       obtain ⟨hi,he⟩:=List.getElem?_eq_some_iff.1 ht
       rw [List.drop_eq_getElem_cons hi,he]
      have hso:=HSO.out
      have hl0:=HL0.out
      have hl1:=HL1.out
      have hR:=HR.out
      rw [hdr] at hso hl0 hl1 hR
      have hsmk:smOk es.length d=true:=by
       have:=(Zbz HCC.out).1
       unfold treeP at this
       rw [Bool.and_eq_true,List.all_eq_true] at this
       exact this.2 d (List.mem_of_getElem? ht)
      obtain ⟨b,o,rfl,hbl,c0,c1,c2,⟨A',c',c3,c3r,c3n,c3c,c3d⟩,c4,c5⟩:=(H1.out.below HS.out.hb).at_ ht
      have j0:(0:Int)≤(k:Int):=by omega
      have j1:(k:Int)<(ns:Int):=by omega
      obtain ⟨dk,dp,dn,dsh,de,dq⟩:=d
      dsimp only at c0 c1 c2 c3 c3r c3n c3c c4 c5
      obtain ⟨sl,hsl⟩:∃ sl,sl=dsh.length:=⟨_,rfl⟩
      rw [←hsl] at c3 c3n c3c
      obtain ⟨w4,hw4⟩:∃ w4,w4=wr.alloc (.cells #[.int .i64 dk,.int .i64 dp,.string dn,.slice A' sl c',.int .i64 de,.int .i64 dq] 93):=⟨_,rfl⟩
      have b4:Below wr.heap.size wr w4:=by rw [hw4];exact (Below.refl _ _).alloc (Nat.le_refl _) _
      have hE:w4.heap[wr.heap.size]?=some (.cells #[.int .i64 dk,.int .i64 dp,.string dn,.slice A' sl c',.int .i64 de,.int .i64 dq] 93 (0,0)):=by rw [hw4];exact heap_alloc_new wr _
      have HW4:=hid hw4
      have HS4:=hid (HS.out.next b4)
      have HB4:=hid HS4.out.hb
      have HNB4:=hid ((b4.block nb (Array.getElem?_eq_some_iff.1 HNB.out).1).trans HNB.out)
      obtain ⟨eb,heb⟩:∃ eb,eb=wr.heap.size:=⟨_,rfl⟩
      rw [←heb] at hE
      have HEB:=hid heb
      have HKE:=hid (show ∀ (w':World),Below w4.heap.size w4 w'→w'.heap[eb]?=some (.cells #[.int .i64 dk,.int .i64 dp,.string dn,.slice A' sl c',.int .i64 de,.int .i64 dq] 93 (0,0))∧w'.heap[nb]?=some (.cells #[.int .i64 i0,.int .i64 i1] 114 (0,0))∧w'.heap[w.heap.size+1]?=some (.cells #[.slice I0 m0 k0,.slice I1 m1 k1] 45 (0,0)) from fun w' h=>⟨(h.block _ (Array.getElem?_eq_some_iff.1 hE).1).trans hE,(h.block _ (Array.getElem?_eq_some_iff.1 HNB4.out).1).trans HNB4.out,HIW.out _ (bnext HB4.out h)⟩)
      have hdk:dk=1∨dk=3∨dk=2∧0≤de∧de<(es.length:Int):=by
       unfold smOk at hsmk
       simp only [Bool.or_eq_true,Bool.and_eq_true,beq_iff_eq,decide_eq_true_eq] at hsmk
       rcases hsmk with (h | h) | h
       ·exact .inl h
       ·exact .inr (.inl h)
       ·exact .inr (.inr ⟨h.1.1,h.1.2,h.2⟩)
      have HRR:=hid hR
      obtain ⟨z0,z1,z2,z3⟩:=HCW.out _ HS.out.hb
      clear ht hd hdr hsmk hbl b4 hE heb hw4 hsl c3r c3n c3c c3d hR
      rcases hdk with rfl | rfl | ⟨rfl,hde0,hde1⟩
      ·have hso1:(dp=0∨dp=1)∧Zad dsh≠0∧ZaC (shN names) dn=false∧Zas es shF (ss.drop (k+1)) (shN names++[(dn,dsh)]):=by
        unfold Zas at hso
        rwa [if_pos rfl] at hso
       obtain ⟨q1,q2,q3,q4⟩:=hso1
       rcases q1 with rfl | rfl
       ·obtain ⟨tsh,tl,til⟩:=hl0.take rfl rfl
        have tls:=hl1.skip (.inr (show ((0:Int))≠1 by decide))
        have hx:in0[i0]?=some (in0[i0]'til):=List.getElem?_eq_getElem _
        obtain ⟨x,hxx⟩:∃ x,x=in0[i0]'til:=⟨_,rfl⟩
        rw [←hxx] at hx
        have hgx:in0.getD i0 zTN=x:=by rw [List.getD_eq_getElem?_getD,hx];rfl
        rw [hgx] at tsh
        have hok:TnOk x:=⟨by rw [tsh];exact q2,(Zb0 HFT0.out).2 x (List.mem_of_getElem? hx)⟩
        obtain ⟨bi,oi,hIe,hbi,hta⟩:=(HI0.out.below HB4.out).at_ hx
        obtain ⟨B1,d1,B2,d2,y0,y1,htv⟩:=hta.tnv (X:=rfX NA OA nb) (ZaX hok.1) HS4.out.ge HB4.out.size
        have b45:Below w4.heap.size w4 (w4.alloc (.cells #[.string dn,.slice B1 x.sh.length d1,.slice B2 x.el.length d2] 125)).drew:=((Below.refl _ _).alloc (Nat.le_refl _) _).drew
        have HS5:=hid (HS4.out.next b45)
        have HX5:=hid (show (w4.alloc (.cells #[.string dn,.slice B1 x.sh.length d1,.slice B2 x.el.length d2] 125)).drew.heap[w4.heap.size]?=some (.cells #[.string dn,.slice B1 x.sh.length d1,.slice B2 x.el.length d2] 125 (0,0)) from heap_alloc_new w4 _)
        have HTV5:=hid (htv.next b45)
        subst hIe
        have HYC:=hid (show ∀ W,Below w2.heap.size w2 W→W.cell? ⟨bi,oi+i0*2,none⟩=some (.slice B1 x.sh.length d1)∧W.cell? ⟨bi,oi+i0*2+1,none⟩=some (.slice B2 x.el.length d2) from fun W hW=>⟨(hW.cell (p:=⟨bi,oi+i0*2,none⟩) hbi).trans ((HB4.out.cell (p:=⟨bi,oi+i0*2,none⟩) hbi).symm.trans y0),(hW.cell (p:=⟨bi,oi+i0*2+1,none⟩) hbi).trans ((HB4.out.cell (p:=⟨bi,oi+i0*2+1,none⟩) hbi).symm.trans y1)⟩)
        have H45A:=hid (show (w4.alloc (.cells #[.string dn,.slice B1 x.sh.length d1,.slice B2 x.el.length d2] 125)).drew.cell? ⟨eb,1,none⟩=some (.int .i64 0)∧(w4.alloc (.cells #[.string dn,.slice B1 x.sh.length d1,.slice B2 x.el.length d2] 125)).drew.cell? ⟨eb,2,none⟩=some (.string dn)∧(w4.alloc (.cells #[.string dn,.slice B1 x.sh.length d1,.slice B2 x.el.length d2] 125)).drew.cell? ⟨w.heap.size+1,0,none⟩=some (.slice (some ⟨bi,oi,none⟩) m0 k0)∧(w4.alloc (.cells #[.string dn,.slice B1 x.sh.length d1,.slice B2 x.el.length d2] 125)).drew.cell? ⟨nb,0,none⟩=some (.int .i64 i0)∧(w4.alloc (.cells #[.string dn,.slice B1 x.sh.length d1,.slice B2 x.el.length d2] 125)).drew.cell? ⟨bi,oi+i0*2,none⟩=some (.slice B1 x.sh.length d1)∧(w4.alloc (.cells #[.string dn,.slice B1 x.sh.length d1,.slice B2 x.el.length d2] 125)).drew.cell? ⟨bi,oi+i0*2+1,none⟩=some (.slice B2 x.el.length d2) from ⟨cell_of_row _ _ 1 _ _ _ (HKE.out _ b45).1,cell_of_row _ _ 2 _ _ _ (HKE.out _ b45).1,cell_of_row _ _ 0 _ _ _ (HKE.out _ b45).2.2,cell_of_row _ _ 0 _ _ _ (HKE.out _ b45).2.1,HYC.out _ HS5.out.hb⟩)
        obtain ⟨nv,n1,n2,n3⟩:=HS5.out.hn
        have N1:=hid n1
        have N2:=hid n2
        have N3:=hid n3
        have HOK:=hid hok
        have HBS:=hid (show w2.heap.size≤(w4.alloc (.cells #[.string dn,.slice B1 x.sh.length d1,.slice B2 x.el.length d2] 125)).drew.heap.size from HS5.out.hb.size)
        obtain ⟨e4',n4',q4'⟩:=HKE.out w4 (Below.refl _ _)
        have H45:=hid (HKE.out _ b45)
        have f0:=cell_of_row _ _ 0 _ _ _ e4'
        have f1:=cell_of_row _ _ 1 _ _ _ e4'
        have f2:=cell_of_row _ _ 2 _ _ _ e4'
        have p0:=cell_of_row _ _ 0 _ _ _ q4'
        have u0:=cell_of_row _ _ 0 _ _ _ n4'
        have mi:i0<m0:=by rw [HM0.out];exact til
        have x0:(0:Int)≤(i0:Int):=by omega
        have x1:(i0:Int)<(m0:Int):=by omega
        have HXR:=hid (show ZaG es in0 in1 ss [] 0 0 []=ZaG es in0 in1 (ss.drop (k+1)) (names++[(dn,x)]) (i0+1) i1 outs from by
         rw [HRR.out,ZaG,if_pos rfl,if_pos rfl,hgx])
        have HSN:=hid (show Zas es shF (ss.drop (k+1)) (shN (names++[(dn,x)])) from by rw [Zbs,tsh];exact q4)
        have HTL:=hid tl
        have HTS:=hid tls
        have hnn1:nn≤1000000:=by omega
        clear tsh tl til tls hx hxx hgx hok hta htv e4' n4' q4' q2 q3 q4 hso hl0 hl1 mi hbi n1 n2 n3 b45
        go_wp2_with fail
        rw [←HW4.out,←HEB.out]
        go_wp2_with fail
        refine wp_region_held_drew (S:=(fun w'=>w'.cell? ⟨eb,1,none⟩=some (.int .i64 0)∧w'.cell? ⟨eb,2,none⟩=some (.string dn)∧w'.cell? ⟨w.heap.size+1,0,none⟩=some (.slice (some ⟨bi,oi,none⟩) m0 k0)∧w'.cell? ⟨nb,0,none⟩=some (.int .i64 i0)∧w'.cell? ⟨bi,oi+i0*2,none⟩=some (.slice B1 x.sh.length d1)∧w'.cell? ⟨bi,oi+i0*2+1,none⟩=some (.slice B2 x.el.length d2))) (by kernel_rfl) ⟨f1,f2,p0,u0,y0,y1⟩ (fun hHeld => ?_)
        refine tk 0 ?_
        simp only [tkS]
        refine tk 1 ?_
        simp only [tkS]
        refine tk 2 ?_
        simp only [tkS]
        refine tk 3 ?_
        simp only [tkS]
        refine tk 4 ?_
        simp only [tkS]
        refine tk 5 ?_
        simp only [tkS]
        refine tk 6 ?_
        simp only [tkS]
        refine tk 7 ?_
        simp only [tkS]
        refine tk 8 ?_
        simp only [tkS]
        refine tk 9 ?_
        simp only [tkS]
        refine tk 10 ?_
        simp only [tkS]
        refine tk 11 ?_
        simp only [tkS]
        refine tk 12 ?_
        simp only [tkS]
        refine tk 13 ?_
        simp only [tkS]
        refine wpAnyH_ready (rs:=[14]) (by kernel_rfl) (by simp) ?_
        refine AllReadyH.cons (o:=_) rfl (fun K hK => ?_) AllReadyH.nil
        go_simp
        refine hK.out _ _ (show (fun w'=>w'.cell? ⟨eb,1,none⟩=some (.int .i64 0)∧w'.cell? ⟨eb,2,none⟩=some (.string dn)∧w'.cell? ⟨w.heap.size+1,0,none⟩=some (.slice (some ⟨bi,oi,none⟩) m0 k0)∧w'.cell? ⟨nb,0,none⟩=some (.int .i64 i0)∧w'.cell? ⟨bi,oi+i0*2,none⟩=some (.slice B1 x.sh.length d1)∧w'.cell? ⟨bi,oi+i0*2+1,none⟩=some (.slice B2 x.el.length d2)) (w4.alloc (.cells #[.string dn,.slice B1 x.sh.length d1,.slice B2 x.el.length d2] 125)).drew from ⟨H45A.out.1,H45A.out.2.1,H45A.out.2.2.1,H45A.out.2.2.2.1,H45A.out.2.2.2.2.1,H45A.out.2.2.2.2.2⟩) (fun hHeld => ?_)
        clear hK K
        try simp only [tkS]
        refine wpAnyH_ready (rs:=[15]) (by kernel_rfl) (by simp) ?_
        refine AllReadyH.cons (o:=_) rfl (fun K hK => ?_) AllReadyH.nil
        refine Zcl rfl (.tmp 60) (.tmp 74) rfl w2.heap.size NA nc nn (nv.flatMap nm3C) rfl N1.out w4.heap.size rfl dn _ _ HX5.out rfl rfl hnn1 HBS.out ?_
        intro A8 c8 w8 h8 g8 e8
        have S8:=hid (HS5.out.put HTV5.out HOK.out N2.out N3.out h8 g8 e8)
        have he8:=(g8.block eb (Nat.lt_of_lt_of_le (Array.getElem?_eq_some_iff.1 H45.out.1).1 (Nat.le_refl _)) (fun e=>by have:=HS.out.lt eb (.inl e.symm);have:=HEB.out;omega)).trans H45.out.1
        have hn8:=(g8.block nb (Nat.lt_of_lt_of_le (Array.getElem?_eq_some_iff.1 H45.out.2.1).1 (Nat.le_refl _)) (fun e=>HS5.out.nb3 e.symm)).trans H45.out.2.1
        have hI8:=HIW.out _ S8.out.hb
        have g1:=cell_of_row _ _ 1 _ _ _ he8
        have u8:=cell_of_row _ _ 0 _ _ _ hn8
        have fr8:w8.frozen? ⟨nb,0,none⟩=false:=by simp [World.frozen?,hn8]
        refine hK.out _ _ (show (fun w'=>w'.cell? ⟨eb,1,none⟩=some (.int .i64 0)∧w'.cell? ⟨eb,2,none⟩=some (.string dn)∧w'.cell? ⟨w.heap.size+1,0,none⟩=some (.slice (some ⟨bi,oi,none⟩) m0 k0)∧w'.cell? ⟨nb,0,none⟩=some (.int .i64 i0)∧w'.cell? ⟨bi,oi+i0*2,none⟩=some (.slice B1 x.sh.length d1)∧w'.cell? ⟨bi,oi+i0*2+1,none⟩=some (.slice B2 x.el.length d2)) w8 from ⟨g1,cell_of_row _ _ 2 _ _ _ he8,cell_of_row _ _ 0 _ _ _ hI8,u8,HYC.out w8 S8.out.hb⟩) (fun hHeld => ?_)
        clear hK K he8 hI8 h8 g8 e8
        try simp only [tkS]
        refine tk 16 ?_
        simp only [tkS]
        refine wpAnyH_done (by kernel_rfl) ?_ _
        have HN8:=hid hn8
        clear f0 f1 f2 p0 u0 y0 y1 hHeld
        go_wp2_with fail
        obtain ⟨W9,hW9⟩:∃ W9,W9=w8.setCell ⟨nb,0,none⟩ (.int .i64 ((i0:Int)+1)):=⟨_,rfl⟩
        have hn9:W9.heap[nb]?=some (.cells #[.int .i64 ((i0:Int)+1),.int .i64 (i1:Int)] 114 (0,0)):=by rw [hW9];simp [World.setCell,Array.getElem?_modify,HN8.out]
        have hS9:=S8.out.count 0 (.int .i64 ((i0:Int)+1))
        rw [←hW9] at hS9
        try rw [←hW9]
        exact ⟨⟨k+1,(i0+1),i1,_,A8,OA,nn+1,c8,no,oc,outs,by omega,rfl,rfl,rfl,by omega,by omega,HXR.out,HSN.out,HTL.out,HTS.out,hS9,hn9⟩,by simp [intOf];omega⟩
       ·obtain ⟨tsh,tl,til⟩:=hl1.take rfl rfl
        have tls:=hl0.skip (.inr (show ((1:Int))≠0 by decide))
        have hx:in1[i1]?=some (in1[i1]'til):=List.getElem?_eq_getElem _
        obtain ⟨x,hxx⟩:∃ x,x=in1[i1]'til:=⟨_,rfl⟩
        rw [←hxx] at hx
        have hgx:in1.getD i1 zTN=x:=by rw [List.getD_eq_getElem?_getD,hx];rfl
        rw [hgx] at tsh
        have hok:TnOk x:=⟨by rw [tsh];exact q2,(Zb0 HFT1.out).2 x (List.mem_of_getElem? hx)⟩
        obtain ⟨bi,oi,hIe,hbi,hta⟩:=(HI1.out.below HB4.out).at_ hx
        obtain ⟨B1,d1,B2,d2,y0,y1,htv⟩:=hta.tnv (X:=rfX NA OA nb) (ZaX hok.1) HS4.out.ge HB4.out.size
        have b45:Below w4.heap.size w4 (w4.alloc (.cells #[.string dn,.slice B1 x.sh.length d1,.slice B2 x.el.length d2] 125)).drew:=((Below.refl _ _).alloc (Nat.le_refl _) _).drew
        have HS5:=hid (HS4.out.next b45)
        have HX5:=hid (show (w4.alloc (.cells #[.string dn,.slice B1 x.sh.length d1,.slice B2 x.el.length d2] 125)).drew.heap[w4.heap.size]?=some (.cells #[.string dn,.slice B1 x.sh.length d1,.slice B2 x.el.length d2] 125 (0,0)) from heap_alloc_new w4 _)
        have HTV5:=hid (htv.next b45)
        subst hIe
        have HYC:=hid (show ∀ W,Below w2.heap.size w2 W→W.cell? ⟨bi,oi+i1*2,none⟩=some (.slice B1 x.sh.length d1)∧W.cell? ⟨bi,oi+i1*2+1,none⟩=some (.slice B2 x.el.length d2) from fun W hW=>⟨(hW.cell (p:=⟨bi,oi+i1*2,none⟩) hbi).trans ((HB4.out.cell (p:=⟨bi,oi+i1*2,none⟩) hbi).symm.trans y0),(hW.cell (p:=⟨bi,oi+i1*2+1,none⟩) hbi).trans ((HB4.out.cell (p:=⟨bi,oi+i1*2+1,none⟩) hbi).symm.trans y1)⟩)
        have H45A:=hid (show (w4.alloc (.cells #[.string dn,.slice B1 x.sh.length d1,.slice B2 x.el.length d2] 125)).drew.cell? ⟨eb,1,none⟩=some (.int .i64 1)∧(w4.alloc (.cells #[.string dn,.slice B1 x.sh.length d1,.slice B2 x.el.length d2] 125)).drew.cell? ⟨eb,2,none⟩=some (.string dn)∧(w4.alloc (.cells #[.string dn,.slice B1 x.sh.length d1,.slice B2 x.el.length d2] 125)).drew.cell? ⟨w.heap.size+1,1,none⟩=some (.slice (some ⟨bi,oi,none⟩) m1 k1)∧(w4.alloc (.cells #[.string dn,.slice B1 x.sh.length d1,.slice B2 x.el.length d2] 125)).drew.cell? ⟨nb,1,none⟩=some (.int .i64 i1)∧(w4.alloc (.cells #[.string dn,.slice B1 x.sh.length d1,.slice B2 x.el.length d2] 125)).drew.cell? ⟨bi,oi+i1*2,none⟩=some (.slice B1 x.sh.length d1)∧(w4.alloc (.cells #[.string dn,.slice B1 x.sh.length d1,.slice B2 x.el.length d2] 125)).drew.cell? ⟨bi,oi+i1*2+1,none⟩=some (.slice B2 x.el.length d2) from ⟨cell_of_row _ _ 1 _ _ _ (HKE.out _ b45).1,cell_of_row _ _ 2 _ _ _ (HKE.out _ b45).1,cell_of_row _ _ 1 _ _ _ (HKE.out _ b45).2.2,cell_of_row _ _ 1 _ _ _ (HKE.out _ b45).2.1,HYC.out _ HS5.out.hb⟩)
        obtain ⟨nv,n1,n2,n3⟩:=HS5.out.hn
        have N1:=hid n1
        have N2:=hid n2
        have N3:=hid n3
        have HOK:=hid hok
        have HBS:=hid (show w2.heap.size≤(w4.alloc (.cells #[.string dn,.slice B1 x.sh.length d1,.slice B2 x.el.length d2] 125)).drew.heap.size from HS5.out.hb.size)
        obtain ⟨e4',n4',q4'⟩:=HKE.out w4 (Below.refl _ _)
        have H45:=hid (HKE.out _ b45)
        have f0:=cell_of_row _ _ 0 _ _ _ e4'
        have f1:=cell_of_row _ _ 1 _ _ _ e4'
        have f2:=cell_of_row _ _ 2 _ _ _ e4'
        have p0:=cell_of_row _ _ 1 _ _ _ q4'
        have u0:=cell_of_row _ _ 1 _ _ _ n4'
        have mi:i1<m1:=by rw [HM1.out];exact til
        have x0:(0:Int)≤(i1:Int):=by omega
        have x1:(i1:Int)<(m1:Int):=by omega
        have HXR:=hid (show ZaG es in0 in1 ss [] 0 0 []=ZaG es in0 in1 (ss.drop (k+1)) (names++[(dn,x)]) i0 (i1+1) outs from by
         rw [HRR.out,ZaG,if_pos rfl,if_neg (show ¬ (1:Int)=0 by decide),hgx])
        have HSN:=hid (show Zas es shF (ss.drop (k+1)) (shN (names++[(dn,x)])) from by rw [Zbs,tsh];exact q4)
        have HTL:=hid tl
        have HTS:=hid tls
        have hnn1:nn≤1000000:=by omega
        clear tsh tl til tls hx hxx hgx hok hta htv e4' n4' q4' q2 q3 q4 hso hl0 hl1 mi hbi n1 n2 n3 b45
        go_wp2_with fail
        rw [←HW4.out,←HEB.out]
        go_wp2_with fail
        refine wp_region_held_drew (S:=(fun w'=>w'.cell? ⟨eb,1,none⟩=some (.int .i64 1)∧w'.cell? ⟨eb,2,none⟩=some (.string dn)∧w'.cell? ⟨w.heap.size+1,1,none⟩=some (.slice (some ⟨bi,oi,none⟩) m1 k1)∧w'.cell? ⟨nb,1,none⟩=some (.int .i64 i1)∧w'.cell? ⟨bi,oi+i1*2,none⟩=some (.slice B1 x.sh.length d1)∧w'.cell? ⟨bi,oi+i1*2+1,none⟩=some (.slice B2 x.el.length d2))) (by kernel_rfl) ⟨f1,f2,p0,u0,y0,y1⟩ (fun hHeld => ?_)
        refine tk 0 ?_
        simp only [tkS]
        refine tk 1 ?_
        simp only [tkS]
        refine tk 2 ?_
        simp only [tkS]
        refine tk 3 ?_
        simp only [tkS]
        refine tk 4 ?_
        simp only [tkS]
        refine tk 5 ?_
        simp only [tkS]
        refine tk 6 ?_
        simp only [tkS]
        refine tk 7 ?_
        simp only [tkS]
        refine tk 8 ?_
        simp only [tkS]
        refine tk 9 ?_
        simp only [tkS]
        refine tk 10 ?_
        simp only [tkS]
        refine tk 11 ?_
        simp only [tkS]
        refine tk 12 ?_
        simp only [tkS]
        refine tk 13 ?_
        simp only [tkS]
        refine wpAnyH_ready (rs:=[14]) (by kernel_rfl) (by simp) ?_
        refine AllReadyH.cons (o:=_) rfl (fun K hK => ?_) AllReadyH.nil
        go_simp
        refine hK.out _ _ (show (fun w'=>w'.cell? ⟨eb,1,none⟩=some (.int .i64 1)∧w'.cell? ⟨eb,2,none⟩=some (.string dn)∧w'.cell? ⟨w.heap.size+1,1,none⟩=some (.slice (some ⟨bi,oi,none⟩) m1 k1)∧w'.cell? ⟨nb,1,none⟩=some (.int .i64 i1)∧w'.cell? ⟨bi,oi+i1*2,none⟩=some (.slice B1 x.sh.length d1)∧w'.cell? ⟨bi,oi+i1*2+1,none⟩=some (.slice B2 x.el.length d2)) (w4.alloc (.cells #[.string dn,.slice B1 x.sh.length d1,.slice B2 x.el.length d2] 125)).drew from ⟨H45A.out.1,H45A.out.2.1,H45A.out.2.2.1,H45A.out.2.2.2.1,H45A.out.2.2.2.2.1,H45A.out.2.2.2.2.2⟩) (fun hHeld => ?_)
        clear hK K
        try simp only [tkS]
        refine wpAnyH_ready (rs:=[15]) (by kernel_rfl) (by simp) ?_
        refine AllReadyH.cons (o:=_) rfl (fun K hK => ?_) AllReadyH.nil
        refine Zcl rfl (.tmp 60) (.tmp 74) rfl w2.heap.size NA nc nn (nv.flatMap nm3C) rfl N1.out w4.heap.size rfl dn _ _ HX5.out rfl rfl hnn1 HBS.out ?_
        intro A8 c8 w8 h8 g8 e8
        have S8:=hid (HS5.out.put HTV5.out HOK.out N2.out N3.out h8 g8 e8)
        have he8:=(g8.block eb (Nat.lt_of_lt_of_le (Array.getElem?_eq_some_iff.1 H45.out.1).1 (Nat.le_refl _)) (fun e=>by have:=HS.out.lt eb (.inl e.symm);have:=HEB.out;omega)).trans H45.out.1
        have hn8:=(g8.block nb (Nat.lt_of_lt_of_le (Array.getElem?_eq_some_iff.1 H45.out.2.1).1 (Nat.le_refl _)) (fun e=>HS5.out.nb3 e.symm)).trans H45.out.2.1
        have hI8:=HIW.out _ S8.out.hb
        have g1:=cell_of_row _ _ 1 _ _ _ he8
        have u8:=cell_of_row _ _ 1 _ _ _ hn8
        have fr8:w8.frozen? ⟨nb,1,none⟩=false:=by simp [World.frozen?,hn8]
        refine hK.out _ _ (show (fun w'=>w'.cell? ⟨eb,1,none⟩=some (.int .i64 1)∧w'.cell? ⟨eb,2,none⟩=some (.string dn)∧w'.cell? ⟨w.heap.size+1,1,none⟩=some (.slice (some ⟨bi,oi,none⟩) m1 k1)∧w'.cell? ⟨nb,1,none⟩=some (.int .i64 i1)∧w'.cell? ⟨bi,oi+i1*2,none⟩=some (.slice B1 x.sh.length d1)∧w'.cell? ⟨bi,oi+i1*2+1,none⟩=some (.slice B2 x.el.length d2)) w8 from ⟨g1,cell_of_row _ _ 2 _ _ _ he8,cell_of_row _ _ 1 _ _ _ hI8,u8,HYC.out w8 S8.out.hb⟩) (fun hHeld => ?_)
        clear hK K he8 hI8 h8 g8 e8
        try simp only [tkS]
        refine tk 16 ?_
        simp only [tkS]
        refine wpAnyH_done (by kernel_rfl) ?_ _
        have HN8:=hid hn8
        clear f0 f1 f2 p0 u0 y0 y1 hHeld
        go_wp2_with fail
        obtain ⟨W9,hW9⟩:∃ W9,W9=w8.setCell ⟨nb,1,none⟩ (.int .i64 ((i1:Int)+1)):=⟨_,rfl⟩
        have hn9:W9.heap[nb]?=some (.cells #[.int .i64 (i0:Int),.int .i64 ((i1:Int)+1)] 114 (0,0)):=by rw [hW9];simp [World.setCell,Array.getElem?_modify,HN8.out]
        have hS9:=S8.out.count 1 (.int .i64 ((i1:Int)+1))
        rw [←hW9] at hS9
        try rw [←hW9]
        exact ⟨⟨k+1,i0,(i1+1),_,A8,OA,nn+1,c8,no,oc,outs,by omega,rfl,rfl,rfl,by omega,by omega,HXR.out,HSN.out,HTS.out,HTL.out,hS9,hn9⟩,by simp [intOf];omega⟩
      ·have hso3:(findN (shN names) dn).isSome=true∧Zas es shF (ss.drop (k+1)) (shN names):=by
        unfold Zas at hso
        rwa [if_neg (show ¬ (3:Int)=1 by decide),if_neg (show ¬ (3:Int)=2 by decide)] at hso
       obtain ⟨q1,q2⟩:=hso3
       have HT0:=hid (hl0.skip (.inl (show ((3:Int))≠1 by decide)))
       have HT1:=hid (hl1.skip (.inl (show ((3:Int))≠1 by decide)))
       obtain ⟨nv,n1,n2,n3⟩:=HS4.out.names
       obtain ⟨t,ht⟩:∃ t,t=findT names dn:=⟨_,rfl⟩
       have hnn1:nn≤1000000:=by omega
       have hno1:no≤1000000:=by omega
       have HFD:=hid (ZeE (rfX NA OA nb) NA nn nc nv names dn w4 n1 hnn1 n2 n3 q1)
       rw [←ht] at HFD
       have HXR:=hid (show ZaG es in0 in1 ss [] 0 0 []=ZaG es in0 in1 (ss.drop (k+1)) names i0 i1 (outs++[t]) from by
        rw [HRR.out,ZaG,if_neg (show ¬ (3:Int)=1 by decide),if_neg (show ¬ (3:Int)=2 by decide),ht])
       have HSN:=hid q2
       obtain ⟨e4',n4',q4'⟩:=HKE.out w4 (Below.refl _ _)
       have f0:=cell_of_row _ _ 0 _ _ _ e4'
       have f2:=cell_of_row _ _ 2 _ _ _ e4'
       clear q1 q2 ht n1 n2 n3 e4' n4' q4' hso hl0 hl1
       go_wp2_with fail
       rw [←HW4.out,←HEB.out]
       go_wp2_with (first
        | (go_at_call 63;refine HFD.out.mono ?_;rintro e w5 ⟨hb5,sv,ev,rfl,htv⟩;have htv2:=htv;obtain ⟨⟨A1,k1,rfl,_⟩,A2,k2,rfl,_⟩:=htv2;obtain ⟨n1,hn1⟩:∃ n1,n1=t.sh.length:=⟨_,rfl⟩;obtain ⟨n2,hn2⟩:∃ n2,n2=t.el.length:=⟨_,rfl⟩;rw [←hn1,←hn2] at htv ⊢;have b55:Below w5.heap.size w5 (w5.alloc (.cells #[.slice A1 n1 k1,.slice A2 n2 k2] 43)):=(Below.refl _ _).alloc (Nat.le_refl _) _;have B45:=hid (bnext hb5 b55);have HS5:=hid (HS4.out.next B45.out);have HTV5:=hid (htv.next b55);have HX5:=hid (show (w5.alloc (.cells #[.slice A1 n1 k1,.slice A2 n2 k2] 43)).heap[w5.heap.size]?=some (.cells #[.slice A1 n1 k1,.slice A2 n2 k2] 43 (0,0)) from heap_alloc_new w5 _);obtain ⟨vs,o1,o2,o3,o4⟩:=HS5.out.ho;have O1:=hid o1;have O2:=hid o2;have O4:=hid o4;clear o1 o2 o3 o4 htv hn1 hn2 b55 hb5)
        | (refine ZmU rfl (.tmp 51) (.tmp 56) rfl w2.heap.size OA oc no (vs.flatMap tnC) rfl O1.out w5.heap.size rfl _ _ HX5.out rfl rfl hno1 HS5.out.hb.size ?_;intro A8 c8 w8 h8 g8 e8))
       have S8:=hid (HS5.out.give HTV5.out O2.out O4.out h8 g8 e8)
       have hn8:=(g8.block nb (Nat.lt_of_lt_of_le (Array.getElem?_eq_some_iff.1 (HKE.out _ B45.out).2.1).1 (Nat.le_refl _)) (fun e=>HS5.out.nb4 e.symm)).trans (HKE.out _ B45.out).2.1
       exact ⟨⟨k+1,i0,i1,names,NA,A8,nn,nc,no+1,c8,outs++[t],by omega,rfl,rfl,rfl,by omega,by omega,HXR.out,HSN.out,HT0.out,HT1.out,S8.out,hn8⟩,by simp [intOf];omega⟩
      ·obtain ⟨root,rfl⟩:∃ root:Nat,de=(root:Int):=⟨de.toNat,by omega⟩
       have hso2:LetOk es (shN names) shF root∧ZaC (shN names) dn=false∧Zas es shF (ss.drop (k+1)) (shN names++[(dn,shF.getD root [])]):=by
        unfold Zas at hso
        rw [if_neg (show ¬ (2:Int)=1 by decide),if_pos rfl] at hso
        dsimp only at hso
        rwa [Int.toNat_natCast] at hso
       obtain ⟨q1,q2,q3⟩:=hso2
       have HT0:=hid (hl0.skip (.inl (show ((2:Int))≠1 by decide)))
       have HT1:=hid (hl1.skip (.inl (show ((2:Int))≠1 by decide)))
       have hex:exsOk 0 es=true:=by
        have:=(Zbz HCC.out).1
        unfold treeP at this
        rw [Bool.and_eq_true] at this
        exact this.1
       have hroot:root<ne:=by rw [HNE.out];exact q1.1
       have hnok:∀ p∈names,TnOk p.2:=by
        obtain ⟨nv,_,_,hnt⟩:=HS4.out.hn
        exact hnt.ok
       obtain ⟨ee,hee⟩:∃ ee,es[root]?=some ee:=⟨_,List.getElem?_eq_getElem q1.1⟩
       have hlo:=(ZjI hex (ZaU hex) q1 hnok (ZaI es root) hee).2
       obtain ⟨t,ht⟩:∃ t,t=letR es (Zac es root) names (root+1) root:=⟨_,rfl⟩
       rw [←ht] at hlo
       have hnn1:nn≤1000000:=by omega
       obtain ⟨n1,hn1⟩:∃ n1,n1=t.sh.length:=⟨_,rfl⟩
       obtain ⟨n2,hn2⟩:∃ n2,n2=t.el.length:=⟨_,rfl⟩
       have HVA:=hid (show ∀ W,Below w4.heap.size w4 W→Calls Tryz.prog 62 #[.agg #[.slice (some ⟨b,o,none⟩) ns sc,.slice EA ne ec],.int .i64 (root:Int),.slice NA nn nc] W (fun e w'=>∃ A1 k1 A2 k2,e=.returned (.agg #[.slice A1 n1 k1,.slice A2 n2 k2])∧TnV (rfX NA OA nb) w' (.slice A1 n1 k1) (.slice A2 n2 k2) t∧Below w4.heap.size w4 w'∧w'.cell? ⟨eb,2,none⟩=some (.string dn)) from fun W hW=>by
        obtain ⟨nv,m1,m2,m3⟩:=(HS4.out.next hW).names
        refine (Zie (rfX NA OA nb) (some ⟨b,o,none⟩) EA ns sc ne ec es shF root NA nn nc nv names W HNE.out hroot hl2 (H3.out.next (bnext HB4.out hW)) hex q1 HNU.out m1 hnn1 m2 m3 (HS4.out.next hW).lt).mono ?_
        rintro e w' ⟨hb,sv,ev,rfl,htv⟩
        rw [←ht] at htv
        have htv2:=htv
        obtain ⟨⟨A1,k1,rfl,_⟩,A2,k2,rfl,_⟩:=htv2
        rw [←hn1,←hn2] at htv ⊢
        exact ⟨A1,k1,A2,k2,rfl,htv,bnext hW hb,cell_of_row _ _ 2 _ _ _ (HKE.out _ (bnext hW hb)).1⟩)
       have HLO:=hid hlo
       have HXR:=hid (show ZaG es in0 in1 ss [] 0 0 []=ZaG es in0 in1 (ss.drop (k+1)) (names++[(dn,t)]) i0 i1 outs from by
        rw [HRR.out,ZaG,if_neg (show ¬ (2:Int)=1 by decide),if_pos rfl]
        dsimp only
        rw [Int.toNat_natCast,←ht])
       have HSN:=hid (show Zas es shF (ss.drop (k+1)) (shN (names++[(dn,t)])) from by rw [Zbs,hlo.2];exact q3)
       obtain ⟨e4',n4',q4'⟩:=HKE.out w4 (Below.refl _ _)
       have f0:=cell_of_row _ _ 0 _ _ _ e4'
       have f2:=cell_of_row _ _ 2 _ _ _ e4'
       have f4:=cell_of_row _ _ 4 _ _ _ e4'
       obtain ⟨y0,y1,y2,y3⟩:=HCW.out _ HB4.out
       clear hlo q1 q2 q3 hex hnok hso hl0 hl1 e4' n4' q4' hde0 hde1 hee hn1 hn2 ht
       go_wp2_with fail
       rw [←HW4.out,←HEB.out]
       go_wp2_with fail
       go_region_law (first
        | (rw [if_pos (by rfl)];go_simp;go_at_call 62;refine (HVA.out _ ((Below.refl _ _).drew)).mono ?_;rintro e w5 ⟨A1,k1,A2,k2,rfl,htv,hb5,f5⟩;have b55:Below w5.heap.size w5 (w5.alloc (.cells #[.string dn,.slice A1 n1 k1,.slice A2 n2 k2] 125)):=(Below.refl _ _).alloc (Nat.le_refl _) _;have B45:=hid (bnext hb5 b55);have HS5:=hid (HS4.out.next B45.out);have HTV5:=hid (htv.next b55);have HX5:=hid (show (w5.alloc (.cells #[.string dn,.slice A1 n1 k1,.slice A2 n2 k2] 125)).heap[w5.heap.size]?=some (.cells #[.string dn,.slice A1 n1 k1,.slice A2 n2 k2] 125 (0,0)) from heap_alloc_new w5 _);obtain ⟨nv,o1,o2,o3⟩:=HS5.out.hn;have O1:=hid o1;have O2:=hid o2;have O3:=hid o3;clear o1 o2 o3 htv b55 hb5)
        | (refine Zcl rfl (.tmp 84) (.tmp 93) rfl w2.heap.size NA nc nn (nv.flatMap nm3C) rfl O1.out w5.heap.size rfl dn _ _ HX5.out rfl rfl hnn1 HS5.out.hb.size ?_;intro A8 c8 w8 h8 g8 e8))
       all_goals
        have S8:=hid (HS5.out.put HTV5.out HLO.out.1 O2.out O3.out h8 g8 e8)
        have hn8:=(g8.block nb (Nat.lt_of_lt_of_le (Array.getElem?_eq_some_iff.1 (HKE.out _ B45.out).2.1).1 (Nat.le_refl _)) (fun e=>HS5.out.nb3 e.symm)).trans (HKE.out _ B45.out).2.1
        clear h8 g8 e8 f0 f2 f4 y0 y1 y2 y3
        go_wp2_with fail
        exact ⟨⟨k+1,i0,i1,_,A8,OA,nn+1,c8,no,oc,outs,by omega,rfl,rfl,rfl,by omega,by omega,HXR.out,HSN.out,HT0.out,HT1.out,S8.out,hn8⟩,by simp [intOf];omega⟩
     ·obtain rfl:k=ns:=by omega
      have HZ2:=hid (show evalR ss es in0 in1=.inl outs from by
       rw [HZ.out,HR.out,HNS.out,List.drop_length]
       rfl)
      have HL:=hid HS.out.ho.len
      go_wp2
      go_ret2
      refine ⟨bnext HB2.out HS.out.hb,?_⟩
      rw [HZ2.out]
      exact ⟨OA,no,oc,rfl,HL.out.symm,HS.out.rd⟩
end Go.Proofs.YtghlnncfigkkaaaGreatDoor
