/-
 dag.Build walked.
-/
import Derived.Test.YtghlnncfigkkaaaGreatDoorQDgE
import Derived.RegionTactic
import Derived.BigQuiet
set_option maxRecDepth 100000
set_option maxHeartbeats 16000000
open Go.Lib (hid)
set_option linter.unusedVariables false
set_option linter.unusedSimpArgs false
namespace Go.Proofs.YtghlnncfigkkaaaGreatDoor
open Go.RowKit
theorem build_any (SA EA:Option Addr) (ns ne sc ec:Nat) (ss:List SI) (es:List EI) (f s d:Bool) (w:World) (hns:ns=ss.length) (hne:ne=es.length) (hl1:ns≤900) (hl2:ne≤900)
  (h1:RdSI w w.heap.size SA ss) (h3:RdEI w w.heap.size EA es) (hg:ETyped w) (hnum:∀ e∈es,e.num≤18446744073709551615) (hsm:∀ s∈ss,s.shape.length≤1000000):
  Calls Tryz.prog 34 #[.agg #[.slice SA ns sc,.slice EA ne ec],.agg #[.bool f,.bool s,.bool d]] w (BuildOut w ss (buildD f s d ss es)):=by
 obtain ⟨w2,hw2⟩:∃ w2,w2=((w.alloc (.cells #[.slice SA ns sc,.slice EA ne ec] 26)).alloc (.cells #[.bool f,.bool s,.bool d] 72)).alloc (.cells #[.slice none 0 0,.slice none 0 0,.slice none 0 0,.slice none 0 0] 68):=⟨_,rfl⟩
 obtain ⟨tb,htb⟩:∃ b,b=w.heap.size:=⟨_,rfl⟩
 obtain ⟨ob,hob⟩:∃ b,b=w.heap.size+1:=⟨_,rfl⟩
 obtain ⟨rb,hrb⟩:∃ b,b=w.heap.size+1+1:=⟨_,rfl⟩
 have hb2:Below w.heap.size w w2:=by rw [hw2];exact (((Kai _ _).alloc (Kag _) _).alloc (by simp) _).alloc (by simp;omega) _
 have hA:w2.heap[tb]?=some (.cells #[.slice SA ns sc,.slice EA ne ec] 26 (0,0)):=by
  rw [hw2,htb,Below.heap_alloc _ _ _ (by simp;omega),Below.heap_alloc _ _ _ (by simp)];exact Kac w _
 have hO:w2.heap[ob]?=some (.cells #[.bool f,.bool s,.bool d] 72 (0,0)):=by
  rw [hw2,hob,Below.heap_alloc _ _ _ (by simp)]
  have:=Kac (w.alloc (.cells #[.slice SA ns sc,.slice EA ne ec] 26)) (.cells #[.bool f,.bool s,.bool d] 72)
  rwa [World.size_alloc] at this
 have hR:w2.heap[rb]?=some (.cells #[.slice none 0 0,.slice none 0 0,.slice none 0 0,.slice none 0 0] 68 (0,0)):=by
  rw [hw2,hrb]
  have:=Kac ((w.alloc (.cells #[.slice SA ns sc,.slice EA ne ec] 26)).alloc (.cells #[.bool f,.bool s,.bool d] 72)) (.cells #[.slice none 0 0,.slice none 0 0,.slice none 0 0,.slice none 0 0] 68)
  rwa [World.size_alloc,World.size_alloc] at this
 have HGW:=hid hg.lt
 have HW2:=hid hw2
 have HB2:=hid hb2
 have HNS:=hid hns
 have HNE:=hid hne
 have H1:=hid h1
 have H3:=hid h3
 have HG:=hid hg
 have HNU:=hid hnum
 have HSM:=hid hsm
 have HCH:=hid (Zi3 SA EA ns ne sc ec ss es w2 hns hne (by omega) (by omega) (h1.next hb2) (h3.next hb2) (hg.next hb2))
 have HAW:=hid (fun W (hW:Below w2.heap.size w2 W)=>(hW.block _ (Kab.1 hA).1).trans hA)
 have HOW:=hid (fun W (hW:Below w2.heap.size w2 W)=>(hW.block _ (Kab.1 hO).1).trans hO)
 have HRW:=hid (fun W (hW:Below w2.heap.size w2 W)=>(hW.block _ (Kab.1 hR).1).trans hR)
 have HTB:=hid htb
 have HOB:=hid hob
 have HRB:=hid hrb
 have HRL:=hid (show w.heap.size≤rb from by rw [hrb];omega)
 have z0:=Kaa _ _ 0 _ _ _ hA
 have z1:=Kaa _ _ 1 _ _ _ hA
 clear hw2 hb2 hA hO hR htb hob hrb hns hne h1 h3 hg hnum hsm
 cases hcc:ZaA ss es with
 | inr r=>
  obtain ⟨cc,cp⟩:=r
  rw [hcc] at HCH
  have HZ:=hid (show buildD f s d ss es=.inr cc from by unfold buildD;rw [hcc])
  clear hcc
  go_enter Tryz.func34,Tryz.ntmps34
  go_upto_region 1 with fail
  rw [←HW2.out,←HRB.out,←HOB.out,←HTB.out]
  go_wp2_with (go_at_call 51;refine HCH.out.mono ?_;rintro e w3 ⟨hb3,ve,rfl,hve⟩;have b3r:=HRW.out _ hb3;have q0:=Kaa _ _ 0 _ _ _ b3r;have q1:=Kaa _ _ 1 _ _ _ b3r;have q2:=Kaa _ _ 2 _ _ _ b3r;have q3:=Kaa _ _ 3 _ _ _ b3r;have fr:∀ k,w3.frozen? ⟨rb,k,none⟩=false:=fun k=>(by simp [World.frozen?,b3r]);obtain ⟨ti,xi,rfl,hve⟩:=(show ∃ ti xi,ve=.iface ti xi∧IsErr w3 ve [(chkN,cp)] cc from by obtain ⟨ti,xi,h⟩:=hve.iface;exact ⟨ti,xi,h,hve⟩))
  have r9:=b3r
  have r0:=q0
  have r1:=q1
  have r2:=q2
  have r3:=q3
  obtain ⟨wf,hwf⟩:∃ wf,wf=set4 w3 rb (.slice none 0 0) (.slice none 0 0) (.slice none 0 0) (.slice none 0 0):=⟨_,rfl⟩
  have hfr:=set4_row (a:=.slice none 0 0) (b:=.slice none 0 0) (c:=.slice none 0 0) (d:=.slice none 0 0) r9
  rw [←hwf] at hfr
  have d0:=Kaa _ _ 0 _ _ _ hfr
  have d1:=Kaa _ _ 1 _ _ _ hfr
  have d2:=Kaa _ _ 2 _ _ _ hfr
  have d3:=Kaa _ _ 3 _ _ _ hfr
  have HBO:=hid (build_err (ss:=ss) HZ.out (bnext HB2.out hb3) HRL.out r9 hve)
  rw [←hwf] at HBO
  unfold set4 at hwf
  rw [←hwf]
  clear hwf r0 r1 r2 r3 fr
  exact bodyPost_ret (v:=.tuple #[.agg #[.slice none 0 0,.slice none 0 0,.slice none 0 0,.slice none 0 0],.iface ti xi]) (by simp [results,Tryz.results34,go_sem,d0,d1,d2,d3]) rfl HBO.out
 | inl shF=>
  rw [hcc] at HCH
  have HCC:=hid hcc
  obtain ⟨p1,p2,p3,p4⟩:=build_pre hcc
  have HEX:=hid p1
  have HAE:=hid p2
  have HOK:=hid p3
  have HSL:=hid p4
  clear hcc p1 p2 p3 p4
  have HBB:=hid (show ∀ W,Below w.heap.size w W→RdSI W w.heap.size SA ss∧RdEI W w.heap.size EA es∧ETyped W from fun W h=>⟨H1.out.below h,H3.out.below h,HG.out.far HGW.out h⟩)
  go_enter Tryz.func34,Tryz.ntmps34
  go_upto_region 1 with fail
  rw [←HW2.out,←HRB.out,←HOB.out,←HTB.out]
  go_upto_region 4 with (go_at_call 51;refine HCH.out.mono ?_;rintro e w3 ⟨hb3,q,rfl,hq⟩)
  have HB3:=hid (bnext HB2.out hb3)
  have hA3:=HAW.out _ hb3
  have hO3:=HOW.out _ hb3
  have hR3:=HRW.out _ hb3
  have HSH:=hid (outsh_shb hq)
  have o0:=Kaa _ _ 0 _ _ _ hO3
  have o1:=Kaa _ _ 1 _ _ _ hO3
  have o2:=Kaa _ _ 2 _ _ _ hO3
  have HTL:=hid (show tb<w3.heap.size from (Kab.1 hA3).1)
  have HOL:=hid (show ob<w3.heap.size from (Kab.1 hO3).1)
  have HRBL:=hid (show rb<w3.heap.size from (Kab.1 hR3).1)
  have HA3:=hid hA3
  have HO3:=hid hO3
  have HR3:=hid hR3
  clear z0 z1 hb3 hA3 hO3 hR3 hq HCH
  obtain ⟨B,hB⟩:∃ B,B=w3.heap.size:=⟨_,rfl⟩
  obtain ⟨cb,hcb⟩:∃ b,b=w3.heap.size+1:=⟨_,rfl⟩
  obtain ⟨w4,hw4⟩:∃ w4,w4=(w3.alloc (.map #[] 0)).alloc (.cells #[.bool f,.bool s,.bool d,.slice none 0 0,.slice none 0 0,.slice none 0 0,.slice none 0 0,.map (some w3.heap.size)] 131):=⟨_,rfl⟩
  have hb4:Below w3.heap.size w3 w4:=by rw [hw4];exact (alloc_below _ _).alloc (by simp) _
  have HM4:=hid (show w4.heap[B]?=some (.map #[] 0) from by
   rw [hw4,hB,Below.heap_alloc _ _ _ (by simp)]
   exact Kac w3 _)
  have HC4:=hid (show w4.heap[cb]?=some (.cells #[.bool f,.bool s,.bool d,.slice none 0 0,.slice none 0 0,.slice none 0 0,.slice none 0 0,.map (some B)] 131 (0,0)) from by
   rw [hw4,hcb,hB]
   have:=Kac (w3.alloc (.map #[] 0)) (.cells #[.bool f,.bool s,.bool d,.slice none 0 0,.slice none 0 0,.slice none 0 0,.slice none 0 0,.map (some w3.heap.size)] 131)
   rwa [World.size_alloc] at this)
  have HBC:=hid (show cb=B+1 from by omega)
  have HB4:=hid (bnext HB3.out hb4)
  have HB34:=hid (show Below B w3 w4 from by rw [hB];exact hb4)
  rw [←hB] at HTL HOL HRBL
  have HZ4:=hid (show B≤w4.heap.size from by rw [hB];exact hb4.size)
  have HSH4:=hid (show ShB w3 B (some ⟨q,0,none⟩) shF from by rw [hB];exact HSH.out)
  have HBW':=hid (show B≤w3.heap.size from Nat.le_of_eq hB)
  have HBW:=hid (show w.heap.size≤B from by rw [hB];exact HB3.out.size)
  have HIN:=hid (Zep SA EA ns ne sc ec ss w4 HNS.out (by omega) (H1.out.next HB4.out) HSM.out)
  have HW4:=hid hw4
  have HCB:=hid hcb
  have HBEQ:=hid hB
  have hmm := @run_makeMap Tryz.prog
  clear hb4 hw4 hcb hB HSH
  go_upto_region 5 with fail
  rw [←HW4.out,←HCB.out]
  have hA4:=(HB34.out.block tb HTL.out).trans HA3.out
  have z0:=Kaa _ _ 0 _ _ _ hA4
  have z1:=Kaa _ _ 1 _ _ _ hA4
  have HCL4:=hid (show cb<w4.heap.size from (Kab.1 HC4.out).1)
  clear hmm o0 o1 o2 hA4
  go_upto_region 6 with (go_at_call 32;refine HIN.out.mono ?_;rintro e w5 ⟨hb5,I0,m0,p0,I1,m1,p1,rfl,hr0,hr1⟩;have hC5:=(hb5.block cb HCL4.out).trans HC4.out;have k5:=Kaa _ _ 5 _ _ _ hC5;have k6:=Kaa _ _ 6 _ _ _ hC5;have fk:∀ k,w5.frozen? ⟨cb,k,none⟩=false:=(fun k=>(by simp [World.frozen?,hC5])))
  obtain ⟨w6,hw6⟩:∃ w6,w6=(w5.setCell ⟨cb,5,none⟩ (.slice I0 m0 p0)).setCell ⟨cb,6,none⟩ (.slice I1 m1 p1):=⟨_,rfl⟩
  rw [←hw6]
  have hC6:w6.heap[cb]?=some (.cells #[.bool f,.bool s,.bool d,.slice none 0 0,.slice none 0 0,.slice I0 m0 p0,.slice I1 m1 p1,.map (some B)] 131 (0,0)):=by
   have e1:(w5.setCell ⟨cb,5,none⟩ (.slice I0 m0 p0)).heap[cb]?=some (.cells #[.bool f,.bool s,.bool d,.slice none 0 0,.slice none 0 0,.slice I0 m0 p0,.slice none 0 0,.map (some B)] 131 (0,0)):=by simp [World.setCell,Array.getElem?_modify,hC5]
   rw [hw6]
   exact heap_setCell_same _ _ _ _ _ _ e1
  have hne6:∀ b,b≠cb→w6.heap[b]?=w5.heap[b]?:=fun b hb=>by rw [hw6,ZaS _ _ _ hb,ZaS _ _ _ hb]
  have hM6:w6.heap[B]?=some (.map #[] 0):=(hne6 B (by have:=HBC.out;omega)).trans ((hb5.block B (Kab.1 HM4.out).1).trans HM4.out)
  have hB6:Below B w3 w6:=by rw [hw6];exact setCell_below' (setCell_below' (HB34.out.trans (hb5.mono HZ4.out)) (by have:=HBC.out;omega) _) (by have:=HBC.out;omega) _
  have hR0:InRow w6 B I0 m0 p0 (Zae ss 0):=(hr0.base HZ4.out).other hC5 (by decide) (by decide) (fun b _ hb=>hne6 b hb)
  have hR1:InRow w6 B I1 m1 p1 (Zae ss 1):=(hr1.base HZ4.out).other hC5 (by decide) (by decide) (fun b _ hb=>hne6 b hb)
  have hS6:DgSt w6 B cb B f s d none 0 [] none 0 [] I0 I1 m0 p0 m1 p1 []:=⟨by have:=HBC.out;omega,Kag _,hC6,⟨#[],0,hM6,rfl⟩,NdRow.nil _ _,Own.nil _ _ _,by simp⟩
  have y5:=Kaa _ _ 5 _ _ _ hC6
  have y6:=Kaa _ _ 6 _ _ _ hC6
  have HN0:=hid (show m0=(Zae ss 0).length from by obtain ⟨vs,e1,_,e2,_⟩:=hr0;omega)
  have HN1:=hid (show m1=(Zae ss 1).length from by obtain ⟨vs,e1,_,e2,_⟩:=hr1;omega)
  have hm0:m0≤900:=by have:=HN0.out;have:=ZbR ss 0;have:=HNS.out;omega
  have hm1:m1≤900:=by have:=HN1.out;have:=ZbR ss 1;have:=HNS.out;omega
  have HR06:=hid hR0
  have HR16:=hid hR1
  have HS6:=hid hS6
  have HB6:=hid hB6
  clear k5 k6 fk hC5 hw6 hne6 hb5 z0 z1 hC6 hM6 hR0 hR1 hS6 hB6 hr0 hr1
  go_quiet (fail)
  clear y5 y6
  obtain ⟨w7,hw7⟩:∃ w7,w7=w6.drewN nq:=⟨_,rfl⟩
  rw [←hw7]
  have b7:Below w6.heap.size w6 w7:=by rw [hw7];exact Zaa (Kai _ _) _
  have HZ6:=hid (show B≤w6.heap.size from Kah HBW'.out HB6.out.size)
  have HS7:=hid (HS6.out.next b7)
  have HR07:=hid (HR06.out.next b7)
  have HR17:=hid (HR16.out.next b7)
  have HB37:=hid (show Below B w3 w7 from HB6.out.trans (b7.mono HZ6.out))
  have HTC:=hid (fun W (hW:Below B w3 W)=>And.intro (Kaa _ _ 0 _ _ _ ((hW.block tb HTL.out).trans HA3.out)) (Kaa _ _ 1 _ _ _ ((hW.block tb HTL.out).trans HA3.out)))
  have HOC:=hid (fun W (hW:Below B w3 W)=>Kaa _ _ 2 _ _ _ ((hW.block ob HOL.out).trans HO3.out))
  have HRC:=hid (fun W (hW:Below B w3 W)=>(hW.block rb HRBL.out).trans HR3.out)
  have HGB:=hid (show ∀ W,Below B w3 W→ETyped W from fun W hW=>(HBB.out W (HB3.out.trans (hW.mono HBW.out))).2.2)
  clear hw7 b7
  have z1:=(HTC.out _ HB37.out).2
  go_wp2_with fail
  clear z1
  have HSX:=hid (show ∀ x∈ss,smOk ne x=true from by
   have h:=(Zbz HCC.out).1
   unfold treeP at h
   rw [Bool.and_eq_true,List.all_eq_true] at h
   rw [HNE.out]
   exact h.2)
  have HZ7:=hid (show B≤w7.heap.size from Kah HBW'.out HB37.out.size)
  go_loopw [9,52] (fun cv iv wq=>∃ k cn:Nat,k≤ne∧iv=.int .i64 k∧cv=.int .i64 cn∧cn≤m0+m1+k∧cn=m0+m1+((es.take k).filter fun e=>e.kind != 2).length∧Below w7.heap.size w7 wq) (fun _ iv _=>ne-(intOf iv).toNat)
  case atStart=>exact ⟨0,m0+m1,by omega,rfl,rfl,by omega,by simp,Kai _ _⟩
  case round=>
  rename World=>wq
  obtain ⟨k,cn,hk,rfl,rfl,hcn,hce,hb⟩:=hrel
  have HCE:=hid hce
  have HBr:=hid hb
  have HB3q:=hid (show Below B w3 wq from HB37.out.trans (hb.mono HZ7.out))
  clear hce hb
  by_cases hlt:k<ne
  ·have ht:es[k]?=some (es[k]'(by rw [←HNE.out];exact hlt)):=Kad _
   obtain ⟨e0,he0⟩:∃ d,d=es[k]'(by rw [←HNE.out];exact hlt):=⟨_,rfl⟩
   rw [←he0] at ht
   obtain ⟨b,o,rfl,hbl,c0,c1,c2,⟨A',c',c3,c3r,c3n,c3c,c3d⟩,c4⟩:=(HBB.out wq (HB3.out.trans (HB3q.out.mono HBW.out))).2.1.at_ ht
   have HCN:=hid (cnt_snoc ht)
   obtain ⟨dk,dn,du,da,dp⟩:=e0
   dsimp only at c0 c1 c2 c3 c3r c3n c3c c4 HCN
   obtain ⟨al,hal⟩:∃ al,al=da.length:=⟨_,rfl⟩
   rw [←hal] at c3
   have j0:(0:Int)≤(k:Int):=by omega
   have j1:(k:Int)<(ne:Int):=by omega
   obtain ⟨w8,hw8⟩:∃ w8,w8=wq.alloc (.cells #[.int .i64 dk,.string dn,.int .u64 (du:Int),.slice A' al c',.int .i64 dp] 90):=⟨_,rfl⟩
   obtain ⟨eb,heb⟩:∃ q,q=wq.heap.size:=⟨_,rfl⟩
   have HE8:=hid (show w8.heap[eb]?=some (.cells #[.int .i64 dk,.string dn,.int .u64 (du:Int),.slice A' al c',.int .i64 dp] 90 (0,0)) from by rw [hw8,heb];exact Kac wq _)
   have HB8:=hid (show Below w7.heap.size w7 w8 from by rw [hw8];exact HBr.out.alloc HBr.out.size _)
   have HW8:=hid hw8
   have HEB:=hid heb
   clear ht he0 hal hw8 heb hbl c3r c3n c3c c3d
   go_upto_region 10 with fail
   rw [←HW8.out,←HEB.out]
   clear c0 c1 c2 c3 c4
   have e0:=Kaa _ _ 0 _ _ _ HE8.out
   by_cases h2:dk=2
   ·have q2:(dk==2)=true:=by rw [h2];rfl
    have q3:(dk != 2)=false:=by unfold bne;rw [q2];rfl
    have HX:=hid (show cn=m0+m1+((es.take (k+1)).filter fun e=>e.kind != 2).length from by rw [HCN.out,if_pos h2,Nat.add_zero];exact HCE.out)
    clear h2
    go_wp2_with fail
    exact ⟨⟨k+1,cn,by omega,rfl,rfl,by omega,HX.out,HB8.out⟩,by simp [intOf];omega⟩
   ·have q2:(dk==2)=false:=by rw [Kaj];exact h2
    have q3:(dk != 2)=true:=by unfold bne;rw [q2];rfl
    have HX:=hid (show cn+1=m0+m1+((es.take (k+1)).filter fun e=>e.kind != 2).length from by rw [HCN.out,if_neg h2];have:=HCE.out;omega)
    clear h2
    go_wp2_with fail
    exact ⟨⟨k+1,cn+1,by omega,rfl,rfl,by omega,HX.out,HB8.out⟩,by simp [intOf];omega⟩
  obtain rfl:ne=k:=by omega
  have HCNT:=hid (show cn=countD ss es from by rw [HCE.out,HNE.out,List.take_length,HN0.out,HN1.out];rfl)
  clear hlt hk
  by_cases h64:64<cn
  ·have q6:decide ((64:Int)<(cn:Int))=true:=by simp;omega
   have q6':decide ((cn:Int) > 64)=true:=q6
   have HZ:=hid (build_big (f:=f) (s:=s) (d:=d) HCC.out (by rw [←HCNT.out];exact h64))
   have HWR:=hid (ZdE 160 dagN (cn:Int) wq (HGB.out _ HB3q.out))
   go_wp2_with (go_at_call 53;refine HWR.out.mono ?_;rintro e w9 ⟨ve,rfl,hve,hb9⟩;have HB9:=hid (HB3q.out.trans (hb9.mono (Kah HBW'.out HB3q.out.size)));have r9:=HRC.out _ HB9.out;have r0:=Kaa _ _ 0 _ _ _ r9;have r1:=Kaa _ _ 1 _ _ _ r9;have r2:=Kaa _ _ 2 _ _ _ r9;have r3:=Kaa _ _ 3 _ _ _ r9;have fr:∀ k,w9.frozen? ⟨rb,k,none⟩=false:=(fun k=>(by simp [World.frozen?,r9])))
   obtain ⟨wf,hwf⟩:∃ wf,wf=set4 w9 rb (.slice none 0 0) (.slice none 0 0) (.slice none 0 0) (.slice none 0 0):=⟨_,rfl⟩
   have hfr:=set4_row (a:=.slice none 0 0) (b:=.slice none 0 0) (c:=.slice none 0 0) (d:=.slice none 0 0) r9
   rw [←hwf] at hfr
   have d0:=Kaa _ _ 0 _ _ _ hfr
   have d1:=Kaa _ _ 1 _ _ _ hfr
   have d2:=Kaa _ _ 2 _ _ _ hfr
   have d3:=Kaa _ _ 3 _ _ _ hfr
   have HBO:=hid (build_err (ss:=ss) HZ.out (HB3.out.trans (HB9.out.mono HBW.out)) HRL.out r9 hve)
   rw [←hwf] at HBO
   unfold set4 at hwf
   rw [←hwf]
   clear hwf r0 r1 r2 r3 fr
   exact bodyPost_ret (v:=.tuple #[.agg #[.slice none 0 0,.slice none 0 0,.slice none 0 0,.slice none 0 0],ve]) (by simp [results,Tryz.results34,go_sem,d0,d1,d2,d3]) rfl HBO.out
  have HCB64:=hid (show ¬ 64<countD ss es from by rw [←HCNT.out];exact h64)
  have q6:decide ((64:Int)<(cn:Int))=false:=by simp;omega
  have q6':decide ((cn:Int) > 64)=false:=q6
  have z0:=(HTC.out _ HB3q.out).1
  obtain ⟨nx,hnx⟩:∃ q,q=wq.heap.size:=⟨_,rfl⟩
  obtain ⟨wn,hwn⟩:∃ x,x=wq.alloc (.cells #[.int .i64 0,.int .i64 0] 114):=⟨_,rfl⟩
  have bn:Below wq.heap.size wq wn:=by rw [hwn];exact alloc_below _ _
  have HBw:=hid (show B≤w3.heap.size from HBW'.out)
  have HBQ:=hid (show B≤wq.heap.size from Kah HBw.out HB3q.out.size)
  have HNX:=hid (show wq.heap.size≤nx from Nat.le_of_eq hnx.symm)
  have HM0:=hid (show BldM wq wn B cb B f s d none 0 [] none 0 [] I0 I1 m0 p0 m1 p1 [] nx 0 0 from
   ⟨HS7.out.next (bnext HBr.out bn),(fun b hb k hk=>(by
    have:b=none:=by simpa [blk] using hb
    rw [this] at hk
    cases hk)),(by rw [hwn,hnx];exact Kac wq _),KG.of (KD.of bn),bn.mono HBQ.out⟩)
  have HRQ0:=hid (HR07.out.next HBr.out)
  have HRQ1:=hid (HR17.out.next HBr.out)
  have HGM:=hid (show ∃ es c,wq.heap[B]?=some (.map es c) from by obtain ⟨es,c,h1,_⟩:=(HS7.out.next HBr.out).hn;exact ⟨es,c,h1⟩)
  have HCBQ:=hid (HS7.out.next HBr.out).hc
  have HI0:=hid (BldInv.start (f:=f) (s:=s) HOK.out)
  have z0n:=(HTC.out _ (HB3q.out.trans (bn.mono HBQ.out))).1
  have HWN:=hid hwn
  have HNXE:=hid hnx
  have HSLn:=hid (show shF.length=ne from by rw [HSL.out,HNE.out])
  clear hwn hnx bn h64 hcn
  go_upto_region 16 with fail
  rw [←HWN.out,←HNXE.out]
  clear q6 q6' z0
  go_wp2_with fail
  clear z0n
  go_loopw [71] (fun iv wr=>∃ (k:Nat) (NA:Option Addr) (nc:Nat) (ms:List (ND × NV)) (OA:Option Addr) (oc:Nat) (outs:List Nat) (names:PlacesD) (sn:Names) (i0 i1:Nat),k≤ns∧iv=.int .i64 k∧i0≤k∧i1≤k∧outs.length≤k∧BldInv f s ss es shF (ss.drop k) names sn (ms.map Prod.fst) i0 i1 outs∧BldM wq wr B cb B f s d NA nc ms OA oc outs I0 I1 m0 p0 m1 p1 names nx i0 i1) (fun iv _=>ns-(intOf iv).toNat)
  case atStart=>exact ⟨0,none,0,[],none,0,[],[],[],0,0,by omega,rfl,by omega,by omega,by simp,HI0.out,HM0.out⟩
  case round=>
  clear HI0 HM0
  obtain ⟨k,NA,nc,ms,OA,oc,outs,names,sn,i0,i1,hk,rfl,hi0,hi1,hol,hI,hM⟩:=hrel
  have HI:=hid hI
  have HM:=hid hM
  have HB3r:=hid (HB3q.out.trans hM.below)
  clear hI hM
  by_cases hlt:k<ns
  ·have ht:ss[k]?=some (ss[k]'(by rw [←HNS.out];exact hlt)):=Kad _
   obtain ⟨x,hx⟩:∃ d,d=ss[k]'(by rw [←HNS.out];exact hlt):=⟨_,rfl⟩
   rw [←hx] at ht
   have hsm:=HSX.out x (Kam ht)
   have hsl1:=HSM.out x (Kam ht)
   have HIX:=hid (show BldInv f s ss es shF (x::ss.drop (k+1)) names sn (ms.map Prod.fst) i0 i1 outs from by
    have h:=HI.out
    obtain ⟨hi,he⟩:=Kaf.1 ht
    rw [List.drop_eq_getElem_cons hi,he] at h
    exact h)
   obtain ⟨b,o,hSA,hbl,c0,c1,c2,⟨A',c',c3,c3r,c3n,c3c,c3d⟩,c4,c5⟩:=(HBB.out wr (HB3.out.trans (HB3r.out.mono HBW.out))).1.at_ ht
   subst hSA
   have j0:(0:Int)≤(k:Int):=by omega
   have j1:(k:Int)<(ns:Int):=by omega
   obtain ⟨dk,dp,dn,dsh,de,dq⟩:=x
   dsimp only at c0 c1 c2 c3 c3r c3n c3c c4 c5 hsl1
   obtain ⟨sl,hsl⟩:∃ sl,sl=dsh.length:=⟨_,rfl⟩
   rw [←hsl] at c3 c3n c3c hsl1
   have HSZ:=hid hsl1
   have HSLx:=hid hsl
   obtain ⟨wt,hwt⟩:∃ x,x=wr.alloc (.cells #[.int .i64 dk,.int .i64 dp,.string dn,.slice A' sl c',.int .i64 de,.int .i64 dq] 93):=⟨_,rfl⟩
   obtain ⟨eb,heb⟩:∃ q,q=wr.heap.size:=⟨_,rfl⟩
   have bt:Below wr.heap.size wr wt:=by rw [hwt];exact alloc_below _ _
   have HE:=hid (show wt.heap[eb]?=some (.cells #[.int .i64 dk,.int .i64 dp,.string dn,.slice A' sl c',.int .i64 de,.int .i64 dq] 93 (0,0)) from by rw [hwt,heb];exact Kac wr _)
   have HEL:=hid (show eb<wt.heap.size from (Kab.1 HE.out).1)
   have HMt:=hid (HM.out.next bt)
   have HB3t:=hid (show Below B w3 wt from HB3r.out.trans (bt.mono (Kah HBw.out HB3r.out.size)))
   have HRS:=hid (show ∀ W,Below wt.heap.size wt W→Rd W W.heap.size A' (dsh.map VI) from fun W hW=>(c3r.more (Kah HBW.out (Kah HBw.out HB3r.out.size))).next (bnext bt hW))
   have HEBB:=hid (show ¬ B=eb from by have:=HM.out.st.b1;have:=HM.out.st.lt;omega)
   have HECB:=hid (show ¬ eb=cb from by have:=HM.out.st.lt;omega)
   have HWT:=hid hwt
   have HEB:=hid heb
   have hdk:dk=1∨dk=3∨dk=2∧0≤de∧de<(ne:Int):=by
    unfold smOk at hsm
    simp only [Bool.or_eq_true,Bool.and_eq_true,beq_iff_eq,decide_eq_true_eq] at hsm
    rcases hsm with (h | h) | h
    ·exact .inl h
    ·exact .inr (.inl h)
    ·exact .inr (.inr ⟨h.1.1,h.1.2,h.2⟩)
   have hpp:dk=1→dp=0∨dp=1:=fun h=>(HIX.out.inn h).1
   clear ht hx hsm hbl c3r c3n c3c c3d hsl hwt heb bt HI HM
   rcases hdk with rfl | rfl | ⟨rfl,hde0,hde1⟩
   ·rcases hpp rfl with rfl | rfl
    ·clear hpp
     have HSC:=hid (show ∀ W,KD wt W→W.cell? ⟨cb,7,none⟩=some (.map (some B))→W.cell? ⟨cb,7,none⟩=some (.map (some B))∧W.cell? ⟨eb,1,none⟩=some (.int .i64 0)∧W.cell? ⟨eb,2,none⟩=some (.string dn)∧W.cell? ⟨eb,3,none⟩=some (.slice A' sl c')∧W.cell? ⟨nx,0,none⟩=some (.int .i64 i0) from fun W hW h7=>by
      have hE:=hW.2 _ _ HE.out ⟨by decide,by decide⟩
      have hX:=hW.2 _ _ HMt.out.hx ⟨by decide,by decide⟩
      exact ⟨h7,Kaa _ _ 1 _ _ _ hE,Kaa _ _ 2 _ _ _ hE,Kaa _ _ 3 _ _ _ hE,Kaa _ _ 0 _ _ _ hX⟩)
     have HIN:=hid (HIX.out.inn rfl)
     go_upto_region 21 with fail
     rw [←HWT.out,←HEB.out]
     clear c0 c1 c2 c3 c4 c5
     refine wp_region_held_drew (S:=(fun w'=>w'.cell? ⟨cb,7,none⟩=some (.map (some B))∧w'.cell? ⟨eb,1,none⟩=some (.int .i64 0)∧w'.cell? ⟨eb,2,none⟩=some (.string dn)∧w'.cell? ⟨eb,3,none⟩=some (.slice A' sl c')∧w'.cell? ⟨nx,0,none⟩=some (.int .i64 i0))) (by kernel_rfl) (HSC.out _ (KD.of (Kai _ _).drew) (HMt.out.next (Kai _ _).drew).st.cells.2.2.2.2.2.2.2.1) (fun hHeld => ?_)
     obtain ⟨wd,hwd⟩:∃ wd,wd=wt.drew:=⟨_,rfl⟩
     rw [←hwd] at hHeld ⊢
     have BD:=hid (show Below wt.heap.size wt wd from by rw [hwd];exact (Kai _ _).drew)
     clear hwd
     refine tk 0 ?_
     simp only [tkS]
     refine tk 1 ?_
     simp only [tkS]
     refine tk 2 ?_
     simp only [tkS]
     refine tk 3 ?_
     simp only [tkS]
     refine tk 4 ?_
     simp only [tkS]
     refine tk 5 ?_
     simp only [tkS]
     refine tk 6 ?_
     simp only [tkS]
     refine tk 7 ?_
     simp only [tkS]
     refine tk 8 ?_
     simp only [tkS]
     refine tk 10 ?_
     simp only [tkS]
     refine tk 11 ?_
     simp only [tkS]
     refine tk 12 ?_
     simp only [tkS]
     refine tk 13 ?_
     simp only [tkS]
     refine tk 14 ?_
     simp only [tkS]
     refine tk 15 ?_
     simp only [tkS]
     have HCL:=hid (ZdH A' sl c' dsh wd HSLx.out HSZ.out (HRS.out wd BD.out))
     refine wpAnyH_ready (rs:=[9]) (by kernel_rfl) (by simp) ?_
     refine AllReadyH.cons (o:=_) rfl (fun K hK => ?_) (AllReadyH.nil)
     go_simp
     go_at_call 55
     refine HCL.out.mono ?_
     rintro e wc ⟨Ax,cx,rfl,ox,bc⟩
     have BC:=hid (bnext BD.out bc)
     have OX:=hid (ox.more BD.out.size)
     clear ox bc HCL
     refine hK.out _ _ (HSC.out _ (KD.of BC.out) (HMt.out.next BC.out).st.cells.2.2.2.2.2.2.2.1) (fun hHeld => ?_)
     clear hK K
     try simp only [tkS]
     refine tk 16 ?_
     simp only [tkS]
     have HMD:=hid (show Calls Tryz.prog 64 #[.pointer (some ⟨cb,0,none⟩),.agg #[.int .i64 1,.slice Ax sl cx,.slice none 0 0,.int .i64 0,.int .i64 i0,.int .i64 0,.slice none 0 0]] wc _ from HMt.out.made (i:=i0) (x:=⟨1,0,dn,dsh,de,dq⟩) BC.out OX.out HSLx.out (by rw [←HSLx.out];exact HSZ.out) HIN.out.1 HIX.out.wf HIN.out.2.2.2 (HGB.out _ (HB3t.out.trans (BC.out.mono (Kah HBw.out HB3t.out.size)))) (by have:=HIX.out.l64;rw [Kak] at this;omega))
     refine wpAnyH_ready (rs:=[17]) (by kernel_rfl) (by simp) ?_
     refine AllReadyH.cons (o:=_) rfl (fun K hK => ?_) (AllReadyH.nil)
     go_simp
     go_at_call 64
     refine HMD.out.mono ?_
     rintro e w7 ⟨NA2,nc2,ms2,hms2,rfl,hm7,hk7⟩
     have HM7:=hid hm7
     have HMS:=hid hms2
     have HK7:=hid ((KD.of BC.out).trans hk7)
     clear hm7 hms2 hk7 HMD
     obtain ⟨pp,hpp⟩:∃ x,x=(madeD f s (ms.map Prod.fst) (inD ⟨1,0,dn,dsh,de,dq⟩ i0)).2:=⟨_,rfl⟩
     rw [←hpp]
     have HPP:=hid hpp
     clear hpp
     refine hK.out _ _ (HSC.out _ HK7.out HM7.out.st.cells.2.2.2.2.2.2.2.1) (fun hHeld => ?_)
     clear hK K
     try simp only [tkS]
     obtain ⟨ob8,hob8⟩:=pl_store_all HM7.out.st.hn dn pp HIN.out.2.2.1
     have hup:=(hob8 w7 rfl).1
     refine wpAnyH_ready (rs:=[18]) (by kernel_rfl) (by simp) ?_
     refine AllReadyH.cons (o:=_) rfl (fun K hK => ?_) (AllReadyH.nil)
     go_simp
     obtain ⟨w8,hw8⟩:∃ w8,w8={ w7 with heap:=w7.heap.setIfInBounds B ob8 }:=⟨_,rfl⟩
     rw [←hw8]
     have HM8:=hid (show BldM wq w8 B cb B f s d NA2 nc2 ms2 OA oc outs I0 I1 m0 p0 m1 p1 (names++[(dn,pp)]) nx i0 i1 from by rw [hw8];exact HM7.out.name (hob8 w7 rfl).2)
     have HE8:=hid (show w8.heap[eb]?=some (.cells #[.int .i64 1,.int .i64 0,.string dn,.slice A' sl c',.int .i64 de,.int .i64 dq] 93 (0,0)) from by rw [hw8];show (w7.heap.setIfInBounds B ob8)[eb]?=_;rw [Array.getElem?_setIfInBounds_ne (fun e=>absurd e HEBB.out)];exact HK7.out.2 _ _ HE.out ⟨by decide,by decide⟩)
     clear hw8 hup hob8
     refine hK.out _ _ (by have hE:=HE8.out;have hX:=HM8.out.hx;exact ⟨HM8.out.st.cells.2.2.2.2.2.2.2.1,Kaa _ _ 1 _ _ _ hE,Kaa _ _ 2 _ _ _ hE,Kaa _ _ 3 _ _ _ hE,Kaa _ _ 0 _ _ _ hX⟩) (fun hHeld => ?_)
     clear hK K
     try simp only [tkS]
     refine wpAnyH_done (by kernel_rfl) ?_ _
     have e1:=Kaa _ _ 1 _ _ _ HE8.out
     have x1:=Kaa _ _ 0 _ _ _ HM8.out.hx
     have fx:∀ k,w8.frozen? ⟨nx,k,none⟩=false:=fun k=>by simp [World.frozen?,HM8.out.hx]
     obtain ⟨w9,hw9⟩:∃ w9,w9=w8.setCell ⟨nx,0,none⟩ (.int .i64 ((i0+1:Nat):Int)):=⟨_,rfl⟩
     have HM9:=hid (show BldM wq w9 B cb B f s d NA2 nc2 ms2 OA oc outs I0 I1 m0 p0 m1 p1 (names++[(dn,pp)]) nx (i0+1) i1 from by rw [hw9];exact HM8.out.num HNX.out HBQ.out rfl)
     have HW9:=hid (show w9=w8.setCell ⟨nx,0,none⟩ (.int .i64 ((i0:Int)+1)) from by rw [hw9];rfl)
     clear hw9
     go_upto_region 27 with fail
     rw [←HW9.out]
     clear e1 x1 fx
     have HQ:=hid (show ms2.map Prod.fst=(madeD f s (ms.map Prod.fst) (inD ⟨1,0,dn,dsh,de,dq⟩ (if (0:Int)=0 then i0 else i1))).1 from HMS.out)
     have HPQ:=hid (show pp=(madeD f s (ms.map Prod.fst) (inD ⟨1,0,dn,dsh,de,dq⟩ (if (0:Int)=0 then i0 else i1))).2 from HPP.out)
     have y3:=HM9.out.st.cells.2.2.2.1
     have HB3w:=hid (HB3q.out.trans HM9.out.below)
     by_cases h64:64<ms2.length
     ·have q6:decide ((64:Int)<(ms2.length:Int))=true:=by simp;omega
      have q6':decide ((ms2.length:Int) > 64)=true:=q6
      have HZ:=hid (build_full (d:=d) HCC.out HCB64.out (by rw [HIX.out.inn_eq rfl rfl,if_pos (by rw [←HQ.out,Kak];exact h64)]))
      have HWR:=hid (ZdE 160 dagN (ms2.length:Int) w9 (HGB.out _ HB3w.out))
      have y3':=y3
      go_wp2_with (go_at_call 53;refine HWR.out.mono ?_;rintro e w9 ⟨ve,rfl,hve,hb9⟩;have HB9:=hid (HB3w.out.trans (hb9.mono (Kah HBw.out HB3w.out.size)));have r9:=HRC.out _ HB9.out;have r0:=Kaa _ _ 0 _ _ _ r9;have r1:=Kaa _ _ 1 _ _ _ r9;have r2:=Kaa _ _ 2 _ _ _ r9;have r3:=Kaa _ _ 3 _ _ _ r9;have fr:∀ k,w9.frozen? ⟨rb,k,none⟩=false:=(fun k=>(by simp [World.frozen?,r9])))
      obtain ⟨wf,hwf⟩:∃ wf,wf=set4 w9 rb (.slice none 0 0) (.slice none 0 0) (.slice none 0 0) (.slice none 0 0):=⟨_,rfl⟩
      have hfr:=set4_row (a:=.slice none 0 0) (b:=.slice none 0 0) (c:=.slice none 0 0) (d:=.slice none 0 0) r9
      rw [←hwf] at hfr
      have d0:=Kaa _ _ 0 _ _ _ hfr
      have d1:=Kaa _ _ 1 _ _ _ hfr
      have d2:=Kaa _ _ 2 _ _ _ hfr
      have d3:=Kaa _ _ 3 _ _ _ hfr
      have HBO:=hid (build_err (ss:=ss) HZ.out (HB3.out.trans (HB9.out.mono HBW.out)) HRL.out r9 hve)
      rw [←hwf] at HBO
      unfold set4 at hwf
      rw [←hwf]
      clear hwf r0 r1 r2 r3 fr
      exact bodyPost_ret (v:=.tuple #[.agg #[.slice none 0 0,.slice none 0 0,.slice none 0 0,.slice none 0 0],ve]) (by simp [results,Tryz.results34,go_sem,d0,d1,d2,d3]) rfl HBO.out
     ·have q6:decide ((64:Int)<(ms2.length:Int))=false:=by simp;omega
      have q6':decide ((ms2.length:Int) > 64)=false:=q6
      obtain ⟨sn',hI'⟩:=(show ∃ sn',BldInv f s ss es shF (ss.drop (k+1)) (names++[(dn,pp)]) sn' (ms2.map Prod.fst) (i0+1) i1 outs from by rw [HPQ.out,HQ.out];exact HIX.out.inn_next rfl rfl (by rw [←HQ.out,Kak];exact h64))
      have HI':=hid hI'
      clear hI' h64
      go_wp2_with fail
      exact ⟨⟨k+1,NA2,nc2,ms2,OA,oc,outs,(names++[(dn,pp)]),sn',(i0+1),i1,by omega,rfl,by omega,by omega,by (try rw [List.length_append,List.length_singleton]);omega,HI'.out,HM9.out⟩,by simp [intOf];omega⟩
    ·clear hpp
     have HSC:=hid (show ∀ W,KD wt W→W.cell? ⟨cb,7,none⟩=some (.map (some B))→W.cell? ⟨cb,7,none⟩=some (.map (some B))∧W.cell? ⟨eb,1,none⟩=some (.int .i64 1)∧W.cell? ⟨eb,2,none⟩=some (.string dn)∧W.cell? ⟨eb,3,none⟩=some (.slice A' sl c')∧W.cell? ⟨nx,1,none⟩=some (.int .i64 i1) from fun W hW h7=>by
      have hE:=hW.2 _ _ HE.out ⟨by decide,by decide⟩
      have hX:=hW.2 _ _ HMt.out.hx ⟨by decide,by decide⟩
      exact ⟨h7,Kaa _ _ 1 _ _ _ hE,Kaa _ _ 2 _ _ _ hE,Kaa _ _ 3 _ _ _ hE,Kaa _ _ 1 _ _ _ hX⟩)
     have HIN:=hid (HIX.out.inn rfl)
     go_upto_region 21 with fail
     rw [←HWT.out,←HEB.out]
     clear c0 c1 c2 c3 c4 c5
     refine wp_region_held_drew (S:=(fun w'=>w'.cell? ⟨cb,7,none⟩=some (.map (some B))∧w'.cell? ⟨eb,1,none⟩=some (.int .i64 1)∧w'.cell? ⟨eb,2,none⟩=some (.string dn)∧w'.cell? ⟨eb,3,none⟩=some (.slice A' sl c')∧w'.cell? ⟨nx,1,none⟩=some (.int .i64 i1))) (by kernel_rfl) (HSC.out _ (KD.of (Kai _ _).drew) (HMt.out.next (Kai _ _).drew).st.cells.2.2.2.2.2.2.2.1) (fun hHeld => ?_)
     obtain ⟨wd,hwd⟩:∃ wd,wd=wt.drew:=⟨_,rfl⟩
     rw [←hwd] at hHeld ⊢
     have BD:=hid (show Below wt.heap.size wt wd from by rw [hwd];exact (Kai _ _).drew)
     clear hwd
     refine tk 0 ?_
     simp only [tkS]
     refine tk 1 ?_
     simp only [tkS]
     refine tk 2 ?_
     simp only [tkS]
     refine tk 3 ?_
     simp only [tkS]
     refine tk 4 ?_
     simp only [tkS]
     refine tk 5 ?_
     simp only [tkS]
     refine tk 6 ?_
     simp only [tkS]
     refine tk 7 ?_
     simp only [tkS]
     refine tk 8 ?_
     simp only [tkS]
     refine tk 10 ?_
     simp only [tkS]
     refine tk 11 ?_
     simp only [tkS]
     refine tk 12 ?_
     simp only [tkS]
     refine tk 13 ?_
     simp only [tkS]
     refine tk 14 ?_
     simp only [tkS]
     refine tk 15 ?_
     simp only [tkS]
     have HCL:=hid (ZdH A' sl c' dsh wd HSLx.out HSZ.out (HRS.out wd BD.out))
     refine wpAnyH_ready (rs:=[9]) (by kernel_rfl) (by simp) ?_
     refine AllReadyH.cons (o:=_) rfl (fun K hK => ?_) (AllReadyH.nil)
     go_simp
     go_at_call 55
     refine HCL.out.mono ?_
     rintro e wc ⟨Ax,cx,rfl,ox,bc⟩
     have BC:=hid (bnext BD.out bc)
     have OX:=hid (ox.more BD.out.size)
     clear ox bc HCL
     refine hK.out _ _ (HSC.out _ (KD.of BC.out) (HMt.out.next BC.out).st.cells.2.2.2.2.2.2.2.1) (fun hHeld => ?_)
     clear hK K
     try simp only [tkS]
     refine tk 16 ?_
     simp only [tkS]
     have HMD:=hid (show Calls Tryz.prog 64 #[.pointer (some ⟨cb,0,none⟩),.agg #[.int .i64 1,.slice Ax sl cx,.slice none 0 0,.int .i64 1,.int .i64 i1,.int .i64 0,.slice none 0 0]] wc _ from HMt.out.made (i:=i1) (x:=⟨1,1,dn,dsh,de,dq⟩) BC.out OX.out HSLx.out (by rw [←HSLx.out];exact HSZ.out) HIN.out.1 HIX.out.wf HIN.out.2.2.2 (HGB.out _ (HB3t.out.trans (BC.out.mono (Kah HBw.out HB3t.out.size)))) (by have:=HIX.out.l64;rw [Kak] at this;omega))
     refine wpAnyH_ready (rs:=[17]) (by kernel_rfl) (by simp) ?_
     refine AllReadyH.cons (o:=_) rfl (fun K hK => ?_) (AllReadyH.nil)
     go_simp
     go_at_call 64
     refine HMD.out.mono ?_
     rintro e w7 ⟨NA2,nc2,ms2,hms2,rfl,hm7,hk7⟩
     have HM7:=hid hm7
     have HMS:=hid hms2
     have HK7:=hid ((KD.of BC.out).trans hk7)
     clear hm7 hms2 hk7 HMD
     obtain ⟨pp,hpp⟩:∃ x,x=(madeD f s (ms.map Prod.fst) (inD ⟨1,1,dn,dsh,de,dq⟩ i1)).2:=⟨_,rfl⟩
     rw [←hpp]
     have HPP:=hid hpp
     clear hpp
     refine hK.out _ _ (HSC.out _ HK7.out HM7.out.st.cells.2.2.2.2.2.2.2.1) (fun hHeld => ?_)
     clear hK K
     try simp only [tkS]
     obtain ⟨ob8,hob8⟩:=pl_store_all HM7.out.st.hn dn pp HIN.out.2.2.1
     have hup:=(hob8 w7 rfl).1
     refine wpAnyH_ready (rs:=[18]) (by kernel_rfl) (by simp) ?_
     refine AllReadyH.cons (o:=_) rfl (fun K hK => ?_) (AllReadyH.nil)
     go_simp
     obtain ⟨w8,hw8⟩:∃ w8,w8={ w7 with heap:=w7.heap.setIfInBounds B ob8 }:=⟨_,rfl⟩
     rw [←hw8]
     have HM8:=hid (show BldM wq w8 B cb B f s d NA2 nc2 ms2 OA oc outs I0 I1 m0 p0 m1 p1 (names++[(dn,pp)]) nx i0 i1 from by rw [hw8];exact HM7.out.name (hob8 w7 rfl).2)
     have HE8:=hid (show w8.heap[eb]?=some (.cells #[.int .i64 1,.int .i64 1,.string dn,.slice A' sl c',.int .i64 de,.int .i64 dq] 93 (0,0)) from by rw [hw8];show (w7.heap.setIfInBounds B ob8)[eb]?=_;rw [Array.getElem?_setIfInBounds_ne (fun e=>absurd e HEBB.out)];exact HK7.out.2 _ _ HE.out ⟨by decide,by decide⟩)
     clear hw8 hup hob8
     refine hK.out _ _ (by have hE:=HE8.out;have hX:=HM8.out.hx;exact ⟨HM8.out.st.cells.2.2.2.2.2.2.2.1,Kaa _ _ 1 _ _ _ hE,Kaa _ _ 2 _ _ _ hE,Kaa _ _ 3 _ _ _ hE,Kaa _ _ 1 _ _ _ hX⟩) (fun hHeld => ?_)
     clear hK K
     try simp only [tkS]
     refine wpAnyH_done (by kernel_rfl) ?_ _
     have e1:=Kaa _ _ 1 _ _ _ HE8.out
     have x1:=Kaa _ _ 1 _ _ _ HM8.out.hx
     have fx:∀ k,w8.frozen? ⟨nx,k,none⟩=false:=fun k=>by simp [World.frozen?,HM8.out.hx]
     obtain ⟨w9,hw9⟩:∃ w9,w9=w8.setCell ⟨nx,1,none⟩ (.int .i64 ((i1+1:Nat):Int)):=⟨_,rfl⟩
     have HM9:=hid (show BldM wq w9 B cb B f s d NA2 nc2 ms2 OA oc outs I0 I1 m0 p0 m1 p1 (names++[(dn,pp)]) nx i0 (i1+1) from by rw [hw9];exact HM8.out.num HNX.out HBQ.out rfl)
     have HW9:=hid (show w9=w8.setCell ⟨nx,1,none⟩ (.int .i64 ((i1:Int)+1)) from by rw [hw9];rfl)
     clear hw9
     go_upto_region 27 with fail
     rw [←HW9.out]
     clear e1 x1 fx
     have HQ:=hid (show ms2.map Prod.fst=(madeD f s (ms.map Prod.fst) (inD ⟨1,1,dn,dsh,de,dq⟩ (if (1:Int)=0 then i0 else i1))).1 from HMS.out)
     have HPQ:=hid (show pp=(madeD f s (ms.map Prod.fst) (inD ⟨1,1,dn,dsh,de,dq⟩ (if (1:Int)=0 then i0 else i1))).2 from HPP.out)
     have y3:=HM9.out.st.cells.2.2.2.1
     have HB3w:=hid (HB3q.out.trans HM9.out.below)
     by_cases h64:64<ms2.length
     ·have q6:decide ((64:Int)<(ms2.length:Int))=true:=by simp;omega
      have q6':decide ((ms2.length:Int) > 64)=true:=q6
      have HZ:=hid (build_full (d:=d) HCC.out HCB64.out (by rw [HIX.out.inn_eq rfl rfl,if_pos (by rw [←HQ.out,Kak];exact h64)]))
      have HWR:=hid (ZdE 160 dagN (ms2.length:Int) w9 (HGB.out _ HB3w.out))
      have y3':=y3
      go_wp2_with (go_at_call 53;refine HWR.out.mono ?_;rintro e w9 ⟨ve,rfl,hve,hb9⟩;have HB9:=hid (HB3w.out.trans (hb9.mono (Kah HBw.out HB3w.out.size)));have r9:=HRC.out _ HB9.out;have r0:=Kaa _ _ 0 _ _ _ r9;have r1:=Kaa _ _ 1 _ _ _ r9;have r2:=Kaa _ _ 2 _ _ _ r9;have r3:=Kaa _ _ 3 _ _ _ r9;have fr:∀ k,w9.frozen? ⟨rb,k,none⟩=false:=(fun k=>(by simp [World.frozen?,r9])))
      obtain ⟨wf,hwf⟩:∃ wf,wf=set4 w9 rb (.slice none 0 0) (.slice none 0 0) (.slice none 0 0) (.slice none 0 0):=⟨_,rfl⟩
      have hfr:=set4_row (a:=.slice none 0 0) (b:=.slice none 0 0) (c:=.slice none 0 0) (d:=.slice none 0 0) r9
      rw [←hwf] at hfr
      have d0:=Kaa _ _ 0 _ _ _ hfr
      have d1:=Kaa _ _ 1 _ _ _ hfr
      have d2:=Kaa _ _ 2 _ _ _ hfr
      have d3:=Kaa _ _ 3 _ _ _ hfr
      have HBO:=hid (build_err (ss:=ss) HZ.out (HB3.out.trans (HB9.out.mono HBW.out)) HRL.out r9 hve)
      rw [←hwf] at HBO
      unfold set4 at hwf
      rw [←hwf]
      clear hwf r0 r1 r2 r3 fr
      exact bodyPost_ret (v:=.tuple #[.agg #[.slice none 0 0,.slice none 0 0,.slice none 0 0,.slice none 0 0],ve]) (by simp [results,Tryz.results34,go_sem,d0,d1,d2,d3]) rfl HBO.out
     ·have q6:decide ((64:Int)<(ms2.length:Int))=false:=by simp;omega
      have q6':decide ((ms2.length:Int) > 64)=false:=q6
      obtain ⟨sn',hI'⟩:=(show ∃ sn',BldInv f s ss es shF (ss.drop (k+1)) (names++[(dn,pp)]) sn' (ms2.map Prod.fst) i0 (i1+1) outs from by rw [HPQ.out,HQ.out];exact HIX.out.inn_next rfl rfl (by rw [←HQ.out,Kak];exact h64))
      have HI':=hid hI'
      clear hI' h64
      go_wp2_with fail
      exact ⟨⟨k+1,NA2,nc2,ms2,OA,oc,outs,(names++[(dn,pp)]),sn',i0,(i1+1),by omega,rfl,by omega,by omega,by (try rw [List.length_append,List.length_singleton]);omega,HI'.out,HM9.out⟩,by simp [intOf];omega⟩
   ·clear hpp
    have HSC:=hid (show ∀ W,KD wt W→W.cell? ⟨cb,7,none⟩=some (.map (some B))→W.cell? ⟨cb,7,none⟩=some (.map (some B))∧W.cell? ⟨eb,2,none⟩=some (.string dn) from fun W hW h7=>by
     have hE:=hW.2 _ _ HE.out ⟨by decide,by decide⟩
     exact ⟨h7,Kaa _ _ 2 _ _ _ hE⟩)
    obtain ⟨on,hon⟩:∃ n,n=outs.length:=⟨_,rfl⟩
    have HON:=hid hon
    rw [←hon] at hol
    clear hon
    obtain ⟨pp,hpp⟩:∃ x,x=placeD names dn:=⟨_,rfl⟩
    have HPP:=hid hpp
    clear hpp
    go_upto_region 26 with fail
    rw [←HWT.out,←HEB.out]
    clear c0 c1 c2 c3 c4 c5
    refine wp_region_held_drew (S:=(fun w'=>w'.cell? ⟨cb,7,none⟩=some (.map (some B))∧w'.cell? ⟨eb,2,none⟩=some (.string dn))) (by kernel_rfl) (HSC.out _ (KD.of (Kai _ _).drew) (HMt.out.next (Kai _ _).drew).st.cells.2.2.2.2.2.2.2.1) (fun hHeld => ?_)
    obtain ⟨wd,hwd⟩:∃ wd,wd=wt.drew:=⟨_,rfl⟩
    rw [←hwd] at hHeld ⊢
    have BD:=hid (show Below wt.heap.size wt wd from by rw [hwd];exact (Kai _ _).drew)
    clear hwd
    refine tk 0 ?_
    simp only [tkS]
    refine tk 1 ?_
    simp only [tkS]
    refine tk 2 ?_
    simp only [tkS]
    refine tk 3 ?_
    simp only [tkS]
    refine tk 4 ?_
    simp only [tkS]
    refine tk 6 ?_
    simp only [tkS]
    refine tk 7 ?_
    simp only [tkS]
    refine tk 8 ?_
    simp only [tkS]
    refine tk 9 ?_
    simp only [tkS]
    refine tk 10 ?_
    simp only [tkS]
    refine tk 11 ?_
    simp only [tkS]
    refine wpAnyH_ready (rs:=[5,12]) (by kernel_rfl) (by simp) ?_
    refine AllReadyH.cons (o:=_) rfl (fun K hK => ?_) (AllReadyH.cons (o:=_) rfl (fun K hK => ?_) (AllReadyH.nil))
    ·have y4:=(HMt.out.next BD.out).st.cells.2.2.2.2.1
     rw [←HON.out] at y4
     go_simp
     clear y4
     refine hK.out _ _ (HSC.out _ (KD.of BD.out) (HMt.out.next BD.out).st.cells.2.2.2.2.2.2.2.1) (fun hHeld => ?_)
     clear hK K
     try simp only [tkS]
     refine wpAnyH_ready (rs:=[12]) (by kernel_rfl) (by simp) ?_
     refine AllReadyH.cons (o:=_) rfl (fun K hK => ?_) (AllReadyH.nil)
     have hlk:=run_pl_lookup (HMt.out.next BD.out).st.hn dn
     rw [←HPP.out] at hlk
     go_simp
     clear hlk
     refine hK.out _ _ (HSC.out _ (KD.of BD.out) (HMt.out.next BD.out).st.cells.2.2.2.2.2.2.2.1) (fun hHeld => ?_)
     clear hK K
     try simp only [tkS]
     refine wpAnyH_ready (rs:=[13]) (by kernel_rfl) (by simp) ?_
     refine AllReadyH.cons (o:=_) rfl (fun K hK => ?_) (AllReadyH.nil)
     go_simp
     obtain ⟨wa,hwa⟩:∃ wa,wa=wd.alloc (.cells #[.int .i64 (pp:Int)] 3):=⟨_,rfl⟩
     obtain ⟨ga,hga⟩:∃ q,q=wd.heap.size:=⟨_,rfl⟩
     rw [←hwa,←hga]
     have ba:Below wd.heap.size wd wa:=by rw [hwa];exact alloc_below _ _
     have BA:=hid (bnext BD.out ba)
     have HGA:=hid (show wa.heap[ga]?=some (.cells #[.int .i64 (pp:Int)] 3 (0,0)) from by rw [hwa,hga];exact Kac wd _)
     clear hwa hga ba
     refine hK.out _ _ (HSC.out _ (KD.of BA.out) (HMt.out.next BA.out).st.cells.2.2.2.2.2.2.2.1) (fun hHeld => ?_)
     clear hK K
     try simp only [tkS]
     have HMa:=hid (HMt.out.next BA.out)
     refine wpAnyH_ready (rs:=[14]) (by kernel_rfl) (by simp) ?_
     refine AllReadyH.cons (o:=_) rfl (fun K hK => ?_) (AllReadyH.nil)
     refine wp_app2 (.tmp 124) (.tmp 132) rfl B OA oc on (outs.map VNt) (by rw [Kak];exact HON.out) rfl HMa.out.st.ho ga rfl (.int .i64 (pp:Int)) HGA.out rfl (by omega) (Kah HMa.out.st.b1 (Nat.le_of_lt HMa.out.st.lt)) ?_
     intro A8 c8 w8 o8 g8 h8
     have HO8:=hid (show Own w8 B 3 A8 c8 ((outs++[pp]).map VNt) from by rw [List.map_append];exact o8)
     have HC8:=hid (grown_other HMa.out.st.ho g8 HMa.out.st.hc (by decide))
     have HE8:=hid (grown_other HMa.out.st.ho g8 ((BA.out.block eb HEL.out).trans HE.out) (by decide))
     have HMo:=hid (HMa.out.out HBQ.out g8 HO8.out h8)
     clear o8 g8 h8
     refine hK.out _ _ ⟨Kaa _ _ 7 _ _ _ HC8.out,Kaa _ _ 2 _ _ _ HE8.out⟩ (fun hHeld => ?_)
     clear hK K
     try simp only [tkS]
     refine tk 15 ?_
     simp only [tkS]
     refine tk 16 ?_
     simp only [tkS]
     refine tk 17 ?_
     simp only [tkS]
     have d4:=Kaa _ _ 4 _ _ _ HC8.out
     have fz:∀ k,w8.frozen? ⟨cb,k,none⟩=false:=fun k=>by simp [World.frozen?,HC8.out]
     refine wpAnyH_ready (rs:=[18]) (by kernel_rfl) (by simp) ?_
     refine AllReadyH.cons (o:=_) rfl (fun K hK => ?_) (AllReadyH.nil)
     go_simp
     obtain ⟨w9,hw9⟩:∃ w9,w9=w8.setCell ⟨cb,4,none⟩ (.slice A8 (on+1) c8):=⟨_,rfl⟩
     rw [←hw9]
     have HM9:=hid (show BldM wq w9 B cb B f s d NA nc ms A8 c8 (outs++[pp]) I0 I1 m0 p0 m1 p1 names nx i0 i1 from by rw [hw9,HON.out];exact HMo.out)
     have HE9:=hid (show w9.heap[eb]?=some (.cells #[.int .i64 3,.int .i64 dp,.string dn,.slice A' sl c',.int .i64 de,.int .i64 dq] 93 (0,0)) from by rw [hw9];exact (ZaS _ _ _ (fun e=>absurd e HECB.out)).trans HE8.out)
     clear hw9 d4 fz
     refine hK.out _ _ ⟨HM9.out.st.cells.2.2.2.2.2.2.2.1,Kaa _ _ 2 _ _ _ HE9.out⟩ (fun hHeld => ?_)
     clear hK K
     try simp only [tkS]
     refine wpAnyH_done (by kernel_rfl) ?_ _
     go_upto_region 27 with fail
     have y3:=HM9.out.st.cells.2.2.2.1
     have h64:¬ 64<ms.length:=by have:=HIX.out.l64;rw [Kak] at this;omega
     have q6:decide ((64:Int)<(ms.length:Int))=false:=by simp;omega
     have q6':decide ((ms.length:Int) > 64)=false:=q6
     have HI':=hid (show BldInv f s ss es shF (ss.drop (k+1)) names sn (ms.map Prod.fst) i0 i1 (outs++[pp]) from by rw [HPP.out];exact HIX.out.out (show (3:Int)≠1 by decide) (show (3:Int)≠2 by decide))
     go_wp2_with fail
     exact ⟨⟨k+1,NA,nc,ms,A8,c8,outs++[pp],names,sn,i0,i1,by omega,rfl,by omega,by omega,by rw [List.length_append,List.length_singleton,←HON.out];omega,HI'.out,HM9.out⟩,by simp [intOf];omega⟩
    ·have hlk:=run_pl_lookup (HMt.out.next BD.out).st.hn dn
     rw [←HPP.out] at hlk
     go_simp
     clear hlk
     refine hK.out _ _ (HSC.out _ (KD.of BD.out) (HMt.out.next BD.out).st.cells.2.2.2.2.2.2.2.1) (fun hHeld => ?_)
     clear hK K
     try simp only [tkS]
     refine wpAnyH_ready (rs:=[5,13]) (by kernel_rfl) (by simp) ?_
     refine AllReadyH.cons (o:=_) rfl (fun K hK => ?_) (AllReadyH.cons (o:=_) rfl (fun K hK => ?_) (AllReadyH.nil))
     ·have y4:=(HMt.out.next BD.out).st.cells.2.2.2.2.1
      rw [←HON.out] at y4
      go_simp
      clear y4
      refine hK.out _ _ (HSC.out _ (KD.of BD.out) (HMt.out.next BD.out).st.cells.2.2.2.2.2.2.2.1) (fun hHeld => ?_)
      clear hK K
      try simp only [tkS]
      refine wpAnyH_ready (rs:=[13]) (by kernel_rfl) (by simp) ?_
      refine AllReadyH.cons (o:=_) rfl (fun K hK => ?_) (AllReadyH.nil)
      go_simp
      obtain ⟨wa,hwa⟩:∃ wa,wa=wd.alloc (.cells #[.int .i64 (pp:Int)] 3):=⟨_,rfl⟩
      obtain ⟨ga,hga⟩:∃ q,q=wd.heap.size:=⟨_,rfl⟩
      rw [←hwa,←hga]
      have ba:Below wd.heap.size wd wa:=by rw [hwa];exact alloc_below _ _
      have BA:=hid (bnext BD.out ba)
      have HGA:=hid (show wa.heap[ga]?=some (.cells #[.int .i64 (pp:Int)] 3 (0,0)) from by rw [hwa,hga];exact Kac wd _)
      clear hwa hga ba
      refine hK.out _ _ (HSC.out _ (KD.of BA.out) (HMt.out.next BA.out).st.cells.2.2.2.2.2.2.2.1) (fun hHeld => ?_)
      clear hK K
      try simp only [tkS]
      have HMa:=hid (HMt.out.next BA.out)
      refine wpAnyH_ready (rs:=[14]) (by kernel_rfl) (by simp) ?_
      refine AllReadyH.cons (o:=_) rfl (fun K hK => ?_) (AllReadyH.nil)
      refine wp_app2 (.tmp 124) (.tmp 132) rfl B OA oc on (outs.map VNt) (by rw [Kak];exact HON.out) rfl HMa.out.st.ho ga rfl (.int .i64 (pp:Int)) HGA.out rfl (by omega) (Kah HMa.out.st.b1 (Nat.le_of_lt HMa.out.st.lt)) ?_
      intro A8 c8 w8 o8 g8 h8
      have HO8:=hid (show Own w8 B 3 A8 c8 ((outs++[pp]).map VNt) from by rw [List.map_append];exact o8)
      have HC8:=hid (grown_other HMa.out.st.ho g8 HMa.out.st.hc (by decide))
      have HE8:=hid (grown_other HMa.out.st.ho g8 ((BA.out.block eb HEL.out).trans HE.out) (by decide))
      have HMo:=hid (HMa.out.out HBQ.out g8 HO8.out h8)
      clear o8 g8 h8
      refine hK.out _ _ ⟨Kaa _ _ 7 _ _ _ HC8.out,Kaa _ _ 2 _ _ _ HE8.out⟩ (fun hHeld => ?_)
      clear hK K
      try simp only [tkS]
      refine tk 15 ?_
      simp only [tkS]
      refine tk 16 ?_
      simp only [tkS]
      refine tk 17 ?_
      simp only [tkS]
      have d4:=Kaa _ _ 4 _ _ _ HC8.out
      have fz:∀ k,w8.frozen? ⟨cb,k,none⟩=false:=fun k=>by simp [World.frozen?,HC8.out]
      refine wpAnyH_ready (rs:=[18]) (by kernel_rfl) (by simp) ?_
      refine AllReadyH.cons (o:=_) rfl (fun K hK => ?_) (AllReadyH.nil)
      go_simp
      obtain ⟨w9,hw9⟩:∃ w9,w9=w8.setCell ⟨cb,4,none⟩ (.slice A8 (on+1) c8):=⟨_,rfl⟩
      rw [←hw9]
      have HM9:=hid (show BldM wq w9 B cb B f s d NA nc ms A8 c8 (outs++[pp]) I0 I1 m0 p0 m1 p1 names nx i0 i1 from by rw [hw9,HON.out];exact HMo.out)
      have HE9:=hid (show w9.heap[eb]?=some (.cells #[.int .i64 3,.int .i64 dp,.string dn,.slice A' sl c',.int .i64 de,.int .i64 dq] 93 (0,0)) from by rw [hw9];exact (ZaS _ _ _ (fun e=>absurd e HECB.out)).trans HE8.out)
      clear hw9 d4 fz
      refine hK.out _ _ ⟨HM9.out.st.cells.2.2.2.2.2.2.2.1,Kaa _ _ 2 _ _ _ HE9.out⟩ (fun hHeld => ?_)
      clear hK K
      try simp only [tkS]
      refine wpAnyH_done (by kernel_rfl) ?_ _
      go_upto_region 27 with fail
      have y3:=HM9.out.st.cells.2.2.2.1
      have h64:¬ 64<ms.length:=by have:=HIX.out.l64;rw [Kak] at this;omega
      have q6:decide ((64:Int)<(ms.length:Int))=false:=by simp;omega
      have q6':decide ((ms.length:Int) > 64)=false:=q6
      have HI':=hid (show BldInv f s ss es shF (ss.drop (k+1)) names sn (ms.map Prod.fst) i0 i1 (outs++[pp]) from by rw [HPP.out];exact HIX.out.out (show (3:Int)≠1 by decide) (show (3:Int)≠2 by decide))
      go_wp2_with fail
      exact ⟨⟨k+1,NA,nc,ms,A8,c8,outs++[pp],names,sn,i0,i1,by omega,rfl,by omega,by omega,by rw [List.length_append,List.length_singleton,←HON.out];omega,HI'.out,HM9.out⟩,by simp [intOf];omega⟩
     ·go_simp
      obtain ⟨wa,hwa⟩:∃ wa,wa=wd.alloc (.cells #[.int .i64 (pp:Int)] 3):=⟨_,rfl⟩
      obtain ⟨ga,hga⟩:∃ q,q=wd.heap.size:=⟨_,rfl⟩
      rw [←hwa,←hga]
      have ba:Below wd.heap.size wd wa:=by rw [hwa];exact alloc_below _ _
      have BA:=hid (bnext BD.out ba)
      have HGA:=hid (show wa.heap[ga]?=some (.cells #[.int .i64 (pp:Int)] 3 (0,0)) from by rw [hwa,hga];exact Kac wd _)
      clear hwa hga ba
      refine hK.out _ _ (HSC.out _ (KD.of BA.out) (HMt.out.next BA.out).st.cells.2.2.2.2.2.2.2.1) (fun hHeld => ?_)
      clear hK K
      try simp only [tkS]
      refine wpAnyH_ready (rs:=[5]) (by kernel_rfl) (by simp) ?_
      refine AllReadyH.cons (o:=_) rfl (fun K hK => ?_) (AllReadyH.nil)
      have y4:=(HMt.out.next BA.out).st.cells.2.2.2.2.1
      rw [←HON.out] at y4
      go_simp
      clear y4
      refine hK.out _ _ (HSC.out _ (KD.of BA.out) (HMt.out.next BA.out).st.cells.2.2.2.2.2.2.2.1) (fun hHeld => ?_)
      clear hK K
      try simp only [tkS]
      have HMa:=hid (HMt.out.next BA.out)
      refine wpAnyH_ready (rs:=[14]) (by kernel_rfl) (by simp) ?_
      refine AllReadyH.cons (o:=_) rfl (fun K hK => ?_) (AllReadyH.nil)
      refine wp_app2 (.tmp 124) (.tmp 132) rfl B OA oc on (outs.map VNt) (by rw [Kak];exact HON.out) rfl HMa.out.st.ho ga rfl (.int .i64 (pp:Int)) HGA.out rfl (by omega) (Kah HMa.out.st.b1 (Nat.le_of_lt HMa.out.st.lt)) ?_
      intro A8 c8 w8 o8 g8 h8
      have HO8:=hid (show Own w8 B 3 A8 c8 ((outs++[pp]).map VNt) from by rw [List.map_append];exact o8)
      have HC8:=hid (grown_other HMa.out.st.ho g8 HMa.out.st.hc (by decide))
      have HE8:=hid (grown_other HMa.out.st.ho g8 ((BA.out.block eb HEL.out).trans HE.out) (by decide))
      have HMo:=hid (HMa.out.out HBQ.out g8 HO8.out h8)
      clear o8 g8 h8
      refine hK.out _ _ ⟨Kaa _ _ 7 _ _ _ HC8.out,Kaa _ _ 2 _ _ _ HE8.out⟩ (fun hHeld => ?_)
      clear hK K
      try simp only [tkS]
      refine tk 15 ?_
      simp only [tkS]
      refine tk 16 ?_
      simp only [tkS]
      refine tk 17 ?_
      simp only [tkS]
      have d4:=Kaa _ _ 4 _ _ _ HC8.out
      have fz:∀ k,w8.frozen? ⟨cb,k,none⟩=false:=fun k=>by simp [World.frozen?,HC8.out]
      refine wpAnyH_ready (rs:=[18]) (by kernel_rfl) (by simp) ?_
      refine AllReadyH.cons (o:=_) rfl (fun K hK => ?_) (AllReadyH.nil)
      go_simp
      obtain ⟨w9,hw9⟩:∃ w9,w9=w8.setCell ⟨cb,4,none⟩ (.slice A8 (on+1) c8):=⟨_,rfl⟩
      rw [←hw9]
      have HM9:=hid (show BldM wq w9 B cb B f s d NA nc ms A8 c8 (outs++[pp]) I0 I1 m0 p0 m1 p1 names nx i0 i1 from by rw [hw9,HON.out];exact HMo.out)
      have HE9:=hid (show w9.heap[eb]?=some (.cells #[.int .i64 3,.int .i64 dp,.string dn,.slice A' sl c',.int .i64 de,.int .i64 dq] 93 (0,0)) from by rw [hw9];exact (ZaS _ _ _ (fun e=>absurd e HECB.out)).trans HE8.out)
      clear hw9 d4 fz
      refine hK.out _ _ ⟨HM9.out.st.cells.2.2.2.2.2.2.2.1,Kaa _ _ 2 _ _ _ HE9.out⟩ (fun hHeld => ?_)
      clear hK K
      try simp only [tkS]
      refine wpAnyH_done (by kernel_rfl) ?_ _
      go_upto_region 27 with fail
      have y3:=HM9.out.st.cells.2.2.2.1
      have h64:¬ 64<ms.length:=by have:=HIX.out.l64;rw [Kak] at this;omega
      have q6:decide ((64:Int)<(ms.length:Int))=false:=by simp;omega
      have q6':decide ((ms.length:Int) > 64)=false:=q6
      have HI':=hid (show BldInv f s ss es shF (ss.drop (k+1)) names sn (ms.map Prod.fst) i0 i1 (outs++[pp]) from by rw [HPP.out];exact HIX.out.out (show (3:Int)≠1 by decide) (show (3:Int)≠2 by decide))
      go_wp2_with fail
      exact ⟨⟨k+1,NA,nc,ms,A8,c8,outs++[pp],names,sn,i0,i1,by omega,rfl,by omega,by omega,by rw [List.length_append,List.length_singleton,←HON.out];omega,HI'.out,HM9.out⟩,by simp [intOf];omega⟩
   ·clear hpp
    obtain ⟨rt,hrt⟩:∃ rt:Nat,de=(rt:Int):=⟨de.toNat,by omega⟩
    subst hrt
    have HSC:=hid (show ∀ W,KD wt W→W.cell? ⟨cb,7,none⟩=some (.map (some B))→W.cell? ⟨cb,7,none⟩=some (.map (some B))∧W.cell? ⟨eb,2,none⟩=some (.string dn)∧W.cell? ⟨eb,4,none⟩=some (.int .i64 (rt:Int))∧W.cell? ⟨tb,0,none⟩=some (.slice (some ⟨b,o,none⟩) ns sc)∧W.cell? ⟨tb,1,none⟩=some (.slice EA ne ec) from fun W hW h7=>by
     have hE:=hW.2 _ _ HE.out ⟨by decide,by decide⟩
     have hT:=hW.2 _ _ ((HB3t.out.block tb HTL.out).trans HA3.out) ⟨by decide,by decide⟩
     exact ⟨h7,Kaa _ _ 2 _ _ _ hE,Kaa _ _ 4 _ _ _ hE,Kaa _ _ 0 _ _ _ hT,Kaa _ _ 1 _ _ _ hT⟩)
    have HLT:=hid (HIX.out.lett rfl)
    go_upto_region 24 with fail
    rw [←HWT.out,←HEB.out]
    clear c0 c1 c2 c3 c4 c5
    refine wp_region_held_drew (S:=(fun w'=>w'.cell? ⟨cb,7,none⟩=some (.map (some B))∧w'.cell? ⟨eb,2,none⟩=some (.string dn)∧w'.cell? ⟨eb,4,none⟩=some (.int .i64 (rt:Int))∧w'.cell? ⟨tb,0,none⟩=some (.slice (some ⟨b,o,none⟩) ns sc)∧w'.cell? ⟨tb,1,none⟩=some (.slice EA ne ec))) (by kernel_rfl) (HSC.out _ (KD.of (Kai _ _).drew) (HMt.out.next (Kai _ _).drew).st.cells.2.2.2.2.2.2.2.1) (fun hHeld => ?_)
    obtain ⟨wd,hwd⟩:∃ wd,wd=wt.drew:=⟨_,rfl⟩
    rw [←hwd] at hHeld ⊢
    have BD:=hid (show Below wt.heap.size wt wd from by rw [hwd];exact (Kai _ _).drew)
    clear hwd
    refine tk 0 ?_
    simp only [tkS]
    refine tk 1 ?_
    simp only [tkS]
    refine tk 2 ?_
    simp only [tkS]
    refine tk 3 ?_
    simp only [tkS]
    refine tk 4 ?_
    simp only [tkS]
    refine tk 5 ?_
    simp only [tkS]
    refine tk 6 ?_
    simp only [tkS]
    refine tk 7 ?_
    simp only [tkS]
    refine tk 8 ?_
    simp only [tkS]
    refine tk 9 ?_
    simp only [tkS]
    refine tk 10 ?_
    simp only [tkS]
    have HMD:=hid ((HMt.out.next BD.out).lett (SV:=.slice (some ⟨b,o,none⟩) ns sc) (ec:=ec) rfl HNE.out (by omega) (((HBB.out wd (HB3.out.trans ((HB3t.out.trans (BD.out.mono (Kah HBw.out HB3t.out.size))).mono HBW.out))).2.1).more HBW.out) HNU.out (HSH4.out.below (HB3t.out.trans (BD.out.mono (Kah HBw.out HB3t.out.size)))) (HSLn.out) HEX.out HAE.out (root:=rt) HLT.out.1 HIX.out.wf HIX.out.nm (fun W hW=>HGB.out W ((HB3t.out.trans (BD.out.mono (Kah HBw.out HB3t.out.size))).trans hW)) (by have:=HIX.out.l64;rw [Kak] at this;omega))
    refine wpAnyH_ready (rs:=[11]) (by kernel_rfl) (by simp) ?_
    refine AllReadyH.cons (o:=_) rfl (fun K hK => ?_) (AllReadyH.nil)
    go_simp
    go_at_call 65
    refine HMD.out.mono ?_
    rintro e w7 ⟨NA2,nc2,ms2,hms2,rfl,hm7,hk7⟩
    have HM7:=hid hm7
    have HMS:=hid hms2
    have HK7:=hid ((KD.of BD.out).trans hk7)
    clear hm7 hms2 hk7 HMD
    obtain ⟨pp,hpp⟩:∃ x,x=(letD f s es shF names (Zac es rt) (ms.map Prod.fst) (rt+1)).2 rt:=⟨_,rfl⟩
    rw [←hpp]
    have HPP:=hid hpp
    clear hpp
    refine hK.out _ _ (HSC.out _ HK7.out HM7.out.st.cells.2.2.2.2.2.2.2.1) (fun hHeld => ?_)
    clear hK K
    try simp only [tkS]
    obtain ⟨ob8,hob8⟩:=pl_store_all HM7.out.st.hn dn pp HLT.out.2
    have hup:=(hob8 w7 rfl).1
    refine wpAnyH_ready (rs:=[12]) (by kernel_rfl) (by simp) ?_
    refine AllReadyH.cons (o:=_) rfl (fun K hK => ?_) (AllReadyH.nil)
    go_simp
    obtain ⟨w8,hw8⟩:∃ w8,w8={ w7 with heap:=w7.heap.setIfInBounds B ob8 }:=⟨_,rfl⟩
    rw [←hw8]
    have HM8:=hid (show BldM wq w8 B cb B f s d NA2 nc2 ms2 OA oc outs I0 I1 m0 p0 m1 p1 (names++[(dn,pp)]) nx i0 i1 from by rw [hw8];exact HM7.out.name (hob8 w7 rfl).2)
    have hs8:∀ q,q≠B→w8.heap[q]?=w7.heap[q]?:=fun q hq=>by rw [hw8];show (w7.heap.setIfInBounds B ob8)[q]?=_;rw [Array.getElem?_setIfInBounds_ne (fun e=>hq e.symm)]
    have HE8:=hid ((hs8 eb (fun e=>HEBB.out e.symm)).trans (HK7.out.2 _ _ HE.out ⟨by decide,by decide⟩))
    have HT8:=hid ((hs8 tb (by have:=HTL.out;omega)).trans (HK7.out.2 _ _ ((HB3t.out.block tb HTL.out).trans HA3.out) ⟨by decide,by decide⟩))
    clear hw8 hup hob8 hs8
    refine hK.out _ _ (by have hE:=HE8.out;have hT:=HT8.out;exact ⟨HM8.out.st.cells.2.2.2.2.2.2.2.1,Kaa _ _ 2 _ _ _ hE,Kaa _ _ 4 _ _ _ hE,Kaa _ _ 0 _ _ _ hT,Kaa _ _ 1 _ _ _ hT⟩) (fun hHeld => ?_)
    clear hK K
    try simp only [tkS]
    refine wpAnyH_done (by kernel_rfl) ?_ _
    go_upto_region 27 with fail
    have HQ:=hid (show ms2.map Prod.fst=(letD f s es shF names (Zac es ((rt:Int)).toNat) (ms.map Prod.fst) (((rt:Int)).toNat+1)).1 from HMS.out)
    have HPQ:=hid (show pp=(letD f s es shF names (Zac es ((rt:Int)).toNat) (ms.map Prod.fst) (((rt:Int)).toNat+1)).2 ((rt:Int)).toNat from HPP.out)
    have y3:=HM8.out.st.cells.2.2.2.1
    have HB3w:=hid (HB3q.out.trans HM8.out.below)
    by_cases h64:64<ms2.length
    ·have q6:decide ((64:Int)<(ms2.length:Int))=true:=by simp;omega
     have q6':decide ((ms2.length:Int) > 64)=true:=q6
     have HZ:=hid (build_full (d:=d) HCC.out HCB64.out (by rw [HIX.out.let_eq rfl rfl,if_pos (by rw [←HQ.out,Kak];exact h64)]))
     have HWR:=hid (ZdE 160 dagN (ms2.length:Int) w8 (HGB.out _ HB3w.out))
     have y3':=y3
     go_wp2_with (go_at_call 53;refine HWR.out.mono ?_;rintro e w9 ⟨ve,rfl,hve,hb9⟩;have HB9:=hid (HB3w.out.trans (hb9.mono (Kah HBw.out HB3w.out.size)));have r9:=HRC.out _ HB9.out;have r0:=Kaa _ _ 0 _ _ _ r9;have r1:=Kaa _ _ 1 _ _ _ r9;have r2:=Kaa _ _ 2 _ _ _ r9;have r3:=Kaa _ _ 3 _ _ _ r9;have fr:∀ k,w9.frozen? ⟨rb,k,none⟩=false:=(fun k=>(by simp [World.frozen?,r9])))
     obtain ⟨wf,hwf⟩:∃ wf,wf=set4 w9 rb (.slice none 0 0) (.slice none 0 0) (.slice none 0 0) (.slice none 0 0):=⟨_,rfl⟩
     have hfr:=set4_row (a:=.slice none 0 0) (b:=.slice none 0 0) (c:=.slice none 0 0) (d:=.slice none 0 0) r9
     rw [←hwf] at hfr
     have d0:=Kaa _ _ 0 _ _ _ hfr
     have d1:=Kaa _ _ 1 _ _ _ hfr
     have d2:=Kaa _ _ 2 _ _ _ hfr
     have d3:=Kaa _ _ 3 _ _ _ hfr
     have HBO:=hid (build_err (ss:=ss) HZ.out (HB3.out.trans (HB9.out.mono HBW.out)) HRL.out r9 hve)
     rw [←hwf] at HBO
     unfold set4 at hwf
     rw [←hwf]
     clear hwf r0 r1 r2 r3 fr
     exact bodyPost_ret (v:=.tuple #[.agg #[.slice none 0 0,.slice none 0 0,.slice none 0 0,.slice none 0 0],ve]) (by simp [results,Tryz.results34,go_sem,d0,d1,d2,d3]) rfl HBO.out
    ·have q6:decide ((64:Int)<(ms2.length:Int))=false:=by simp;omega
     have q6':decide ((ms2.length:Int) > 64)=false:=q6
     obtain ⟨sn',hI'⟩:=(show ∃ sn',BldInv f s ss es shF (ss.drop (k+1)) (names++[(dn,pp)]) sn' (ms2.map Prod.fst) i0 i1 outs from by rw [HPQ.out,HQ.out];exact HIX.out.let_next HEX.out HAE.out rfl rfl (by rw [←HQ.out,Kak];exact h64))
     have HI':=hid hI'
     clear hI' h64
     go_wp2_with fail
     exact ⟨⟨k+1,NA2,nc2,ms2,OA,oc,outs,(names++[(dn,pp)]),sn',i0,i1,by omega,rfl,by omega,by omega,by (try rw [List.length_append,List.length_singleton]);omega,HI'.out,HM8.out⟩,by simp [intOf];omega⟩
  obtain rfl:ns=k:=by omega
  have HII:=hid (show BldInv f s ss es shF [] names sn (ms.map Prod.fst) i0 i1 outs from by
   have h:=HI.out
   rw [HNS.out,List.drop_length] at h
   exact h)
  have HF:=hid HII.out.fin
  have o2:=HOC.out _ HB3r.out
  have hml:ms.length≤64:=by have:=HII.out.l64;rwa [Kak] at this
  clear hlt hk hi0 hi1
  cases d with
  | false=>
   have HZ:=hid (show buildD f s false ss es=.inl (ms.map Prod.fst,outs) from build_done HCC.out HCB64.out HF.out)
   have y3:=HM.out.st.cells.2.2.2.1
   have y4:=HM.out.st.cells.2.2.2.2.1
   have y5:=HM.out.st.cells.2.2.2.2.2.1
   have y6:=HM.out.st.cells.2.2.2.2.2.2.1
   have r9:=HRC.out _ HB3r.out
   have r0:=Kaa _ _ 0 _ _ _ r9
   have r1:=Kaa _ _ 1 _ _ _ r9
   have r2:=Kaa _ _ 2 _ _ _ r9
   have r3:=Kaa _ _ 3 _ _ _ r9
   have fr:∀ k,wr.frozen? ⟨rb,k,none⟩=false:=(fun k=>(by simp [World.frozen?,r9]))
   go_wp2_with fail
   obtain ⟨wf,hwf⟩:∃ wf,wf=set4 wr rb (.slice NA ms.length nc) (.slice OA outs.length oc) (.slice I0 m0 p0) (.slice I1 m1 p1):=⟨_,rfl⟩
   have hfr:=set4_row (a:=.slice NA ms.length nc) (b:=.slice OA outs.length oc) (c:=.slice I0 m0 p0) (d:=.slice I1 m1 p1) r9
   rw [←hwf] at hfr
   have d0:=Kaa _ _ 0 _ _ _ hfr
   have d1:=Kaa _ _ 1 _ _ _ hfr
   have d2:=Kaa _ _ 2 _ _ _ hfr
   have d3:=Kaa _ _ 3 _ _ _ hfr
   have HBO:=hid (build_ok (ss:=ss) HZ.out rfl (HB3.out.trans (HB3r.out.mono HBW.out)) HBW.out HRL.out HM.out.st (HM.out.kg.inRow HGM.out HRQ0.out) (HM.out.kg.inRow HGM.out HRQ1.out) r9)
   rw [←hwf] at HBO
   unfold set4 at hwf
   rw [←hwf]
   clear hwf r0 r1 r2 r3 fr
   exact bodyPost_ret (v:=.tuple #[.agg #[.slice NA ms.length nc,.slice OA outs.length oc,.slice I0 m0 p0,.slice I1 m1 p1],.nilIface]) (by simp [results,Tryz.results34,go_sem,d0,d1,d2,d3]) rfl HBO.out
  | true=>
   have HZ:=hid (show buildD f s true ss es=.inl ((dropD (ms.map Prod.fst) outs).1,(dropD (ms.map Prod.fst) outs).2) from build_done HCC.out HCB64.out HF.out)
   have HDR:=hid (drop_any (Zae ss 0) (Zae ss 1) B cb B f s true NA nc ms OA oc outs I0 I1 m0 p0 m1 p1 names wr HM.out.st HII.out.wf (fun o ho=>by have:=HII.out.ob o ho;rwa [Kak] at this) (by omega) (by omega))
   go_wp2_with (go_at_call 66;refine HDR.out.mono ?_;rintro e w9 ⟨rfl,NA2,nc2,ms2,outs2,h1,h2,h3,h4,h5⟩;have H2:=hid h2;clear h2;have HK9:=hid (KG.drop HM.out.kg h5 HM.out.far HCBQ.out);have HB9:=hid (HB3r.out.trans h4);have HS9:=hid h3;have y3:=h3.cells.2.2.2.1;have y4:=h3.cells.2.2.2.2.1;have y5:=h3.cells.2.2.2.2.2.1;have y6:=h3.cells.2.2.2.2.2.2.1;have r9:=HRC.out _ HB9.out;have r0:=Kaa _ _ 0 _ _ _ r9;have r1:=Kaa _ _ 1 _ _ _ r9;have r2:=Kaa _ _ 2 _ _ _ r9;have r3:=Kaa _ _ 3 _ _ _ r9;have fr:∀ k,w9.frozen? ⟨rb,k,none⟩=false:=(fun k=>(by simp [World.frozen?,r9])))
   obtain ⟨wf,hwf⟩:∃ wf,wf=set4 w9 rb (.slice NA2 ms2.length nc2) (.slice OA outs2.length oc) (.slice I0 m0 p0) (.slice I1 m1 p1):=⟨_,rfl⟩
   have hfr:=set4_row (a:=.slice NA2 ms2.length nc2) (b:=.slice OA outs2.length oc) (c:=.slice I0 m0 p0) (d:=.slice I1 m1 p1) r9
   rw [←hwf] at hfr
   have d0:=Kaa _ _ 0 _ _ _ hfr
   have d1:=Kaa _ _ 1 _ _ _ hfr
   have d2:=Kaa _ _ 2 _ _ _ hfr
   have d3:=Kaa _ _ 3 _ _ _ hfr
   have HBO:=hid (build_ok (ss:=ss) (outs:=outs2) (r:=buildD f s true ss es) (by rw [HZ.out,←H2.out]) h1 (HB3.out.trans (HB9.out.mono HBW.out)) HBW.out HRL.out HS9.out (HK9.out.inRow HGM.out HRQ0.out) (HK9.out.inRow HGM.out HRQ1.out) r9)
   rw [←hwf] at HBO
   unfold set4 at hwf
   rw [←hwf]
   clear hwf r0 r1 r2 r3 fr
   exact bodyPost_ret (v:=.tuple #[.agg #[.slice NA2 ms2.length nc2,.slice OA outs2.length oc,.slice I0 m0 p0,.slice I1 m1 p1],.nilIface]) (by simp [results,Tryz.results34,go_sem,d0,d1,d2,d3]) rfl HBO.out
end Go.Proofs.YtghlnncfigkkaaaGreatDoor
