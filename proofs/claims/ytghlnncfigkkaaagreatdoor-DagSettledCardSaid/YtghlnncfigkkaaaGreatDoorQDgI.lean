/-
 dag.Build walked.
-/
import Derived.Test.YtghlnncfigkkaaaGreatDoorQDgE
import Derived.RegionTactic
import Derived.BigQuiet
set_option maxRecDepth 100000
set_option maxHeartbeats 16000000
set_option linter.unusedVariables false
set_option linter.unusedSimpArgs false
namespace Go.Proofs.YtghlnncfigkkaaaGreatDoor
open Go.RowKit
theorem build_any (SA EA:Option Addr) (ns ne sc ec:Nat) (ss:List SI) (es:List EI) (f s d:Bool) (w:World) (hns:ns=ss.length) (hne:ne=es.length) (hl1:ns≤900) (hl2:ne≤900)
  (h1:RdSI w w.heap.size SA ss) (h3:RdEI w w.heap.size EA es) (hg:ETyped w) (hnum:∀ e∈es,e.num≤18446744073709551615) (hsm:∀ s∈ss,s.shape.length≤1000000):
  Calls Tryz.prog 34 #[.agg #[.slice SA ns sc,.slice EA ne ec],.agg #[.bool f,.bool s,.bool d]] w (BuildOut w ss (buildD f s d ss es)):=by
 obtain ⟨w2,hw2⟩:=Ky (((w.alloc (.cells #[.slice SA ns sc,.slice EA ne ec] 26)).alloc (.cells #[.bool f,.bool s,.bool d] 72)).alloc (.cells #[.slice none 0 0,.slice none 0 0,.slice none 0 0,.slice none 0 0] 68))
 obtain ⟨tb,htb⟩:=Ky w.heap.size
 obtain ⟨ob,hob⟩:=Ky (w.heap.size+1)
 obtain ⟨rb,hrb⟩:=Ky (w.heap.size+1+1)
 have hb2:Below w.heap.size w w2:=by rw [hw2];exact (((Kai _ _).alloc (Kag _) _).alloc (by simp) _).alloc (by simp;omega) _
 have hA:w2.heap[tb]?=some (.cells #[.slice SA ns sc,.slice EA ne ec] 26 (0,0)):=by
  rw [hw2,htb,Below.heap_alloc _ _ _ (by simp;omega),Below.heap_alloc _ _ _ (by simp)];exact Kac w _
 have hO:w2.heap[ob]?=some (.cells #[.bool f,.bool s,.bool d] 72 (0,0)):=by
  rw [hw2,hob,Below.heap_alloc _ _ _ (by simp)]
  have:=Kac (w.alloc (.cells #[.slice SA ns sc,.slice EA ne ec] 26)) (.cells #[.bool f,.bool s,.bool d] 72)
  rwa [World.size_alloc] at this
 have hR:w2.heap[rb]?=some (.cells #[.slice none 0 0,.slice none 0 0,.slice none 0 0,.slice none 0 0] 68 (0,0)):=by
  rw [hw2,hrb]
  have:=Kac ((w.alloc (.cells #[.slice SA ns sc,.slice EA ne ec] 26)).alloc (.cells #[.bool f,.bool s,.bool d] 72)) (.cells #[.slice none 0 0,.slice none 0 0,.slice none 0 0,.slice none 0 0] 68)
  rwa [World.size_alloc,World.size_alloc] at this
 have HGW:=Kz hg.lt
 have HW2:=Kz hw2
 have HB2:=Kz hb2
 have HNS:=Kz hns
 have HNE:=Kz hne
 have H1:=Kz h1
 have H3:=Kz h3
 have HG:=Kz hg
 have HNU:=Kz hnum
 have HSM:=Kz hsm
 have HCH:=Kz (Zi3 SA EA ns ne sc ec ss es w2 hns hne (by omega) (by omega) (h1.next hb2) (h3.next hb2) (hg.next hb2))
 have HAW:=Kz (fun W (hW:Below w2.heap.size w2 W)=>(hW.block _ (Kab.1 hA).1).trans hA)
 have HOW:=Kz (fun W (hW:Below w2.heap.size w2 W)=>(hW.block _ (Kab.1 hO).1).trans hO)
 have HRW:=Kz (fun W (hW:Below w2.heap.size w2 W)=>(hW.block _ (Kab.1 hR).1).trans hR)
 have HTB:=Kz htb
 have HOB:=Kz hob
 have HRB:=Kz hrb
 have HRL:=Kz (show w.heap.size≤rb from by rw [hrb];omega)
 have z0:=Kaa 0 hA
 have z1:=Kaa 1 hA
 clear hw2 hb2 hA hO hR htb hob hrb hns hne h1 h3 hg hnum hsm
 cases hcc:ZaA ss es with
 | inr r=>
  obtain ⟨cc,cp⟩:=r
  rw [hcc] at HCH
  have HZ:=Kz (show buildD f s d ss es=.inr cc from by unfold buildD;rw [hcc])
  clear hcc
  go_enter Tryz.func34,Tryz.ntmps34
  go_upto_region 1 with fail
  rw [←HW2.o,←HRB.o,←HOB.o,←HTB.o]
  go_wp2_with (go_at_call 51;refine HCH.o.mono ?_;rintro e w3 ⟨hb3,ve,rfl,hve⟩;have b3r:=HRW.o _ hb3;have q0:=Kaa 0 b3r;have q1:=Kaa 1 b3r;have q2:=Kaa 2 b3r;have q3:=Kaa 3 b3r;have fr:∀ k,w3.frozen? ⟨rb,k,none⟩=false:=fun k=>(by simp [World.frozen?,b3r]);obtain ⟨ti,xi,rfl,hve⟩:=(show ∃ ti xi,ve=.iface ti xi∧IsErr w3 ve [(chkN,cp)] cc from by obtain ⟨ti,xi,h⟩:=hve.iface;exact ⟨ti,xi,h,hve⟩))
  have r9:=b3r
  have r0:=q0
  have r1:=q1
  have r2:=q2
  have r3:=q3
  obtain ⟨wf,hwf⟩:=Ky (set4 w3 rb (.slice none 0 0) (.slice none 0 0) (.slice none 0 0) (.slice none 0 0))
  have hfr:=set4_row (a:=.slice none 0 0) (b:=.slice none 0 0) (c:=.slice none 0 0) (d:=.slice none 0 0) r9
  rw [←hwf] at hfr
  have d0:=Kaa 0 hfr
  have d1:=Kaa 1 hfr
  have d2:=Kaa 2 hfr
  have d3:=Kaa 3 hfr
  have HBO:=Kz (build_err (ss:=ss) HZ.o (bnext HB2.o hb3) HRL.o r9 hve)
  rw [←hwf] at HBO
  unfold set4 at hwf
  rw [←hwf]
  clear hwf r0 r1 r2 r3 fr
  exact bodyPost_ret (v:=.tuple #[.agg #[.slice none 0 0,.slice none 0 0,.slice none 0 0,.slice none 0 0],.iface ti xi]) (by simp [results,Tryz.results34,go_sem,d0,d1,d2,d3]) rfl HBO.o
 | inl shF=>
  rw [hcc] at HCH
  have HCC:=Kz hcc
  obtain ⟨p1,p2,p3,p4⟩:=build_pre hcc
  have HEX:=Kz p1
  have HAE:=Kz p2
  have HOK:=Kz p3
  have HSL:=Kz p4
  clear hcc p1 p2 p3 p4
  have HBB:=Kz (show ∀ W,Below w.heap.size w W→RdSI W w.heap.size SA ss∧RdEI W w.heap.size EA es∧ETyped W from fun W h=>⟨H1.o.below h,H3.o.below h,HG.o.far HGW.o h⟩)
  go_enter Tryz.func34,Tryz.ntmps34
  go_upto_region 1 with fail
  rw [←HW2.o,←HRB.o,←HOB.o,←HTB.o]
  go_upto_region 4 with (go_at_call 51;refine HCH.o.mono ?_;rintro e w3 ⟨hb3,q,rfl,hq⟩)
  have HB3:=Kz (bnext HB2.o hb3)
  have hA3:=HAW.o _ hb3
  have hO3:=HOW.o _ hb3
  have hR3:=HRW.o _ hb3
  have HSH:=Kz (outsh_shb hq)
  have o0:=Kaa 0 hO3
  have o1:=Kaa 1 hO3
  have o2:=Kaa 2 hO3
  have HTL:=Kz (show tb<w3.heap.size from (Kab.1 hA3).1)
  have HOL:=Kz (show ob<w3.heap.size from (Kab.1 hO3).1)
  have HRBL:=Kz (show rb<w3.heap.size from (Kab.1 hR3).1)
  have HA3:=Kz hA3
  have HO3:=Kz hO3
  have HR3:=Kz hR3
  clear z0 z1 hb3 hA3 hO3 hR3 hq HCH
  obtain ⟨B,hB⟩:=Ky w3.heap.size
  obtain ⟨cb,hcb⟩:=Ky (w3.heap.size+1)
  obtain ⟨w4,hw4⟩:=Ky ((w3.alloc (.map #[] 0)).alloc (.cells #[.bool f,.bool s,.bool d,.slice none 0 0,.slice none 0 0,.slice none 0 0,.slice none 0 0,.map (some w3.heap.size)] 131))
  have hb4:Below w3.heap.size w3 w4:=by rw [hw4];exact (alloc_below _ _).alloc (by simp) _
  have HM4:=Kz (show w4.heap[B]?=some (.map #[] 0) from by
   rw [hw4,hB,Below.heap_alloc _ _ _ (by simp)]
   exact Kac w3 _)
  have HC4:=Kz (show w4.heap[cb]?=some (.cells #[.bool f,.bool s,.bool d,.slice none 0 0,.slice none 0 0,.slice none 0 0,.slice none 0 0,.map (some B)] 131 (0,0)) from by
   rw [hw4,hcb,hB]
   have:=Kac (w3.alloc (.map #[] 0)) (.cells #[.bool f,.bool s,.bool d,.slice none 0 0,.slice none 0 0,.slice none 0 0,.slice none 0 0,.map (some w3.heap.size)] 131)
   rwa [World.size_alloc] at this)
  have HBC:=Kz (show cb=B+1 from by omega)
  have HB4:=Kz (bnext HB3.o hb4)
  have HB34:=Kz (show Below B w3 w4 from by rw [hB];exact hb4)
  rw [←hB] at HTL HOL HRBL
  have HZ4:=Kz (show B≤w4.heap.size from by rw [hB];exact hb4.size)
  have HSH4:=Kz (show ShB w3 B (some ⟨q,0,none⟩) shF from by rw [hB];exact HSH.o)
  have HBW':=Kz (show B≤w3.heap.size from Nat.le_of_eq hB)
  have HBW:=Kz (show w.heap.size≤B from by rw [hB];exact HB3.o.size)
  have HIN:=Kz (Zep SA EA ns ne sc ec ss w4 HNS.o (by omega) (H1.o.next HB4.o) HSM.o)
  have HW4:=Kz hw4
  have HCB:=Kz hcb
  have HBEQ:=Kz hB
  have hmm := @run_makeMap Tryz.prog
  clear hb4 hw4 hcb hB HSH
  go_upto_region 5 with fail
  rw [←HW4.o,←HCB.o]
  have hA4:=(HB34.o.block tb HTL.o).trans HA3.o
  have z0:=Kaa 0 hA4
  have z1:=Kaa 1 hA4
  have HCL4:=Kz (show cb<w4.heap.size from (Kab.1 HC4.o).1)
  clear hmm o0 o1 o2 hA4
  go_upto_region 6 with (go_at_call 32;refine HIN.o.mono ?_;rintro e w5 ⟨hb5,I0,m0,p0,I1,m1,p1,rfl,hr0,hr1⟩;have hC5:=(hb5.block cb HCL4.o).trans HC4.o;have k5:=Kaa 5 hC5;have k6:=Kaa 6 hC5;have fk:∀ k,w5.frozen? ⟨cb,k,none⟩=false:=(fun k=>(by simp [World.frozen?,hC5])))
  obtain ⟨w6,hw6⟩:=Ky ((w5.setCell ⟨cb,5,none⟩ (.slice I0 m0 p0)).setCell ⟨cb,6,none⟩ (.slice I1 m1 p1))
  rw [←hw6]
  have hC6:w6.heap[cb]?=some (.cells #[.bool f,.bool s,.bool d,.slice none 0 0,.slice none 0 0,.slice I0 m0 p0,.slice I1 m1 p1,.map (some B)] 131 (0,0)):=by
   have e1:(w5.setCell ⟨cb,5,none⟩ (.slice I0 m0 p0)).heap[cb]?=some (.cells #[.bool f,.bool s,.bool d,.slice none 0 0,.slice none 0 0,.slice I0 m0 p0,.slice none 0 0,.map (some B)] 131 (0,0)):=by simp [World.setCell,Array.getElem?_modify,hC5]
   rw [hw6]
   exact heap_setCell_same _ _ _ _ _ _ e1
  have hne6:∀ b,b≠cb→w6.heap[b]?=w5.heap[b]?:=fun b hb=>by rw [hw6,ZaS _ _ _ hb,ZaS _ _ _ hb]
  have hM6:w6.heap[B]?=some (.map #[] 0):=(hne6 B (by have:=HBC.o;omega)).trans ((hb5.block B (Kab.1 HM4.o).1).trans HM4.o)
  have hB6:Below B w3 w6:=by rw [hw6];exact setCell_below' (setCell_below' (HB34.o.trans (hb5.mono HZ4.o)) (by have:=HBC.o;omega) _) (by have:=HBC.o;omega) _
  have hR0:InRow w6 B I0 m0 p0 (Zae ss 0):=(hr0.base HZ4.o).other hC5 (by decide) (by decide) (fun b _ hb=>hne6 b hb)
  have hR1:InRow w6 B I1 m1 p1 (Zae ss 1):=(hr1.base HZ4.o).other hC5 (by decide) (by decide) (fun b _ hb=>hne6 b hb)
  have hS6:DgSt w6 B cb B f s d none 0 [] none 0 [] I0 I1 m0 p0 m1 p1 []:=⟨by have:=HBC.o;omega,Kag _,hC6,⟨#[],0,hM6,rfl⟩,NdRow.nil _ _,Own.nil _ _ _,by simp⟩
  have y5:=Kaa 5 hC6
  have y6:=Kaa 6 hC6
  have HN0:=Kz (show m0=(Zae ss 0).length from by obtain ⟨vs,e1,_,e2,_⟩:=hr0;omega)
  have HN1:=Kz (show m1=(Zae ss 1).length from by obtain ⟨vs,e1,_,e2,_⟩:=hr1;omega)
  have hm0:m0≤900:=by have:=HN0.o;have:=ZbR ss 0;have:=HNS.o;omega
  have hm1:m1≤900:=by have:=HN1.o;have:=ZbR ss 1;have:=HNS.o;omega
  have HR06:=Kz hR0
  have HR16:=Kz hR1
  have HS6:=Kz hS6
  have HB6:=Kz hB6
  clear k5 k6 fk hC5 hw6 hne6 hb5 z0 z1 hC6 hM6 hR0 hR1 hS6 hB6 hr0 hr1
  go_quiet (fail)
  clear y5 y6
  obtain ⟨w7,hw7⟩:=Ky (w6.drewN nq)
  rw [←hw7]
  have b7:Below w6.heap.size w6 w7:=by rw [hw7];exact Zaa (Kai _ _) _
  have HZ6:=Kz (show B≤w6.heap.size from Kah HBW'.o HB6.o.size)
  have HS7:=Kz (HS6.o.next b7)
  have HR07:=Kz (HR06.o.next b7)
  have HR17:=Kz (HR16.o.next b7)
  have HB37:=Kz (show Below B w3 w7 from HB6.o.trans (b7.mono HZ6.o))
  have HTC:=Kz (fun W (hW:Below B w3 W)=>And.intro (Kaa 0 ((hW.block tb HTL.o).trans HA3.o)) (Kaa 1 ((hW.block tb HTL.o).trans HA3.o)))
  have HOC:=Kz (fun W (hW:Below B w3 W)=>Kaa 2 ((hW.block ob HOL.o).trans HO3.o))
  have HRC:=Kz (fun W (hW:Below B w3 W)=>(hW.block rb HRBL.o).trans HR3.o)
  have HGB:=Kz (show ∀ W,Below B w3 W→ETyped W from fun W hW=>(HBB.o W (HB3.o.trans (hW.mono HBW.o))).2.2)
  clear hw7 b7
  have z1:=(HTC.o _ HB37.o).2
  go_wp2_with fail
  clear z1
  have HSX:=Kz (show ∀ x∈ss,smOk ne x=true from by
   have h:=(Zbz HCC.o).1
   unfold treeP at h
   rw [Bool.and_eq_true,List.all_eq_true] at h
   rw [HNE.o]
   exact h.2)
  have HZ7:=Kz (show B≤w7.heap.size from Kah HBW'.o HB37.o.size)
  go_loopw [9,52] (fun cv iv wq=>∃ k cn:Nat,k≤ne∧iv=.int .i64 k∧cv=.int .i64 cn∧cn≤m0+m1+k∧cn=m0+m1+((es.take k).filter fun e=>e.kind != 2).length∧Below w7.heap.size w7 wq) (fun _ iv _=>ne-(intOf iv).toNat)
  case atStart=>exact ⟨0,m0+m1,by omega,rfl,rfl,by omega,by simp,Kai _ _⟩
  case round=>
  rename World=>wq
  obtain ⟨k,cn,hk,rfl,rfl,hcn,hce,hb⟩:=hrel
  have HCE:=Kz hce
  have HBr:=Kz hb
  have HB3q:=Kz (show Below B w3 wq from HB37.o.trans (hb.mono HZ7.o))
  clear hce hb
  by_cases hlt:k<ne
  ·have ht:es[k]?=some (es[k]'(by rw [←HNE.o];exact hlt)):=Kad _
   obtain ⟨e0,he0⟩:=Ky (es[k]'(by rw [←HNE.o];exact hlt))
   rw [←he0] at ht
   obtain ⟨b,o,rfl,hbl,c0,c1,c2,⟨A',c',c3,c3r,c3n,c3c,c3d⟩,c4⟩:=(HBB.o wq (HB3.o.trans (HB3q.o.mono HBW.o))).2.1.at_ ht
   have HCN:=Kz (cnt_snoc ht)
   obtain ⟨dk,dn,du,da,dp⟩:=e0
   dsimp only at c0 c1 c2 c3 c3r c3n c3c c4 HCN
   obtain ⟨al,hal⟩:=Ky da.length
   rw [←hal] at c3
   have j0:(0:Int)≤(k:Int):=by omega
   have j1:(k:Int)<(ne:Int):=by omega
   obtain ⟨w8,hw8⟩:=Ky (wq.alloc (.cells #[.int .i64 dk,.string dn,.int .u64 (du:Int),.slice A' al c',.int .i64 dp] 90))
   obtain ⟨eb,heb⟩:=Ky wq.heap.size
   have HE8:=Kz (Kx hw8 heb)
   have HB8:=Kz (show Below w7.heap.size w7 w8 from by rw [hw8];exact HBr.o.alloc HBr.o.size _)
   have HW8:=Kz hw8
   have HEB:=Kz heb
   clear ht he0 hal hw8 heb hbl c3r c3n c3c c3d
   go_upto_region 10 with fail
   rw [←HW8.o,←HEB.o]
   clear c0 c1 c2 c3 c4
   have e0:=Kaa 0 HE8.o
   by_cases h2:dk=2
   ·have q2:(dk==2)=true:=by rw [h2];rfl
    have q3:(dk != 2)=false:=by unfold bne;rw [q2];rfl
    have HX:=Kz (show cn=m0+m1+((es.take (k+1)).filter fun e=>e.kind != 2).length from by rw [HCN.o,if_pos h2,Nat.add_zero];exact HCE.o)
    clear h2
    go_wp2_with fail
    exact ⟨⟨k+1,cn,by omega,rfl,rfl,by omega,HX.o,HB8.o⟩,by simp [intOf];omega⟩
   ·have q2:(dk==2)=false:=by rw [Kaj];exact h2
    have q3:(dk != 2)=true:=by unfold bne;rw [q2];rfl
    have HX:=Kz (show cn+1=m0+m1+((es.take (k+1)).filter fun e=>e.kind != 2).length from by rw [HCN.o,if_neg h2];have:=HCE.o;omega)
    clear h2
    go_wp2_with fail
    exact ⟨⟨k+1,cn+1,by omega,rfl,rfl,by omega,HX.o,HB8.o⟩,by simp [intOf];omega⟩
  obtain rfl:ne=k:=by omega
  have HCNT:=Kz (show cn=countD ss es from by rw [HCE.o,HNE.o,List.take_length,HN0.o,HN1.o];rfl)
  clear hlt hk
  by_cases h64:64<cn
  ·have q6:decide ((64:Int)<(cn:Int))=true:=by simp;omega
   have q6':decide ((cn:Int) > 64)=true:=q6
   have HZ:=Kz (build_big (f:=f) (s:=s) (d:=d) HCC.o (by rw [←HCNT.o];exact h64))
   have HWR:=Kz (ZdE 160 dagN (cn:Int) wq (HGB.o _ HB3q.o))
   go_wp2_with (go_at_call 53;refine HWR.o.mono ?_;rintro e w9 ⟨ve,rfl,hve,hb9⟩;have HB9:=Kz (HB3q.o.trans (hb9.mono (Kah HBW'.o HB3q.o.size)));have r9:=HRC.o _ HB9.o;have r0:=Kaa 0 r9;have r1:=Kaa 1 r9;have r2:=Kaa 2 r9;have r3:=Kaa 3 r9;have fr:∀ k,w9.frozen? ⟨rb,k,none⟩=false:=(fun k=>(by simp [World.frozen?,r9])))
   obtain ⟨wf,hwf⟩:=Ky (set4 w9 rb (.slice none 0 0) (.slice none 0 0) (.slice none 0 0) (.slice none 0 0))
   have hfr:=set4_row (a:=.slice none 0 0) (b:=.slice none 0 0) (c:=.slice none 0 0) (d:=.slice none 0 0) r9
   rw [←hwf] at hfr
   have d0:=Kaa 0 hfr
   have d1:=Kaa 1 hfr
   have d2:=Kaa 2 hfr
   have d3:=Kaa 3 hfr
   have HBO:=Kz (build_err (ss:=ss) HZ.o (HB3.o.trans (HB9.o.mono HBW.o)) HRL.o r9 hve)
   rw [←hwf] at HBO
   unfold set4 at hwf
   rw [←hwf]
   clear hwf r0 r1 r2 r3 fr
   exact bodyPost_ret (v:=.tuple #[.agg #[.slice none 0 0,.slice none 0 0,.slice none 0 0,.slice none 0 0],ve]) (by simp [results,Tryz.results34,go_sem,d0,d1,d2,d3]) rfl HBO.o
  have HCB64:=Kz (show ¬ 64<countD ss es from by rw [←HCNT.o];exact h64)
  have q6:decide ((64:Int)<(cn:Int))=false:=by simp;omega
  have q6':decide ((cn:Int) > 64)=false:=q6
  have z0:=(HTC.o _ HB3q.o).1
  obtain ⟨nx,hnx⟩:=Ky wq.heap.size
  obtain ⟨wn,hwn⟩:=Ky (wq.alloc (.cells #[.int .i64 0,.int .i64 0] 114))
  have bn:=Kv hwn
  have HBw:=Kz (show B≤w3.heap.size from HBW'.o)
  have HBQ:=Kz (show B≤wq.heap.size from Kah HBw.o HB3q.o.size)
  have HNX:=Kz (show wq.heap.size≤nx from Nat.le_of_eq hnx.symm)
  have HM0:=Kz (show BldM wq wn B cb B f s d none 0 [] none 0 [] I0 I1 m0 p0 m1 p1 [] nx 0 0 from
   ⟨HS7.o.next (bnext HBr.o bn),(fun b hb k hk=>(by
    have:b=none:=by simpa [blk] using hb
    rw [this] at hk
    cases hk)),(by rw [hwn,hnx];exact Kac wq _),KG.of (KD.of bn),bn.mono HBQ.o⟩)
  have HRQ0:=Kz (HR07.o.next HBr.o)
  have HRQ1:=Kz (HR17.o.next HBr.o)
  have HGM:=Kz (show ∃ es c,wq.heap[B]?=some (.map es c) from by obtain ⟨es,c,h1,_⟩:=(HS7.o.next HBr.o).hn;exact ⟨es,c,h1⟩)
  have HCBQ:=Kz (HS7.o.next HBr.o).hc
  have HI0:=Kz (BldInv.start (f:=f) (s:=s) HOK.o)
  have z0n:=(HTC.o _ (HB3q.o.trans (bn.mono HBQ.o))).1
  have HWN:=Kz hwn
  have HNXE:=Kz hnx
  have HSLn:=Kz (show shF.length=ne from by rw [HSL.o,HNE.o])
  clear hwn hnx bn h64 hcn
  go_upto_region 16 with fail
  rw [←HWN.o,←HNXE.o]
  clear q6 q6' z0
  go_wp2_with fail
  clear z0n
  go_loopw [71] (fun iv wr=>∃ (k:Nat) (NA:Option Addr) (nc:Nat) (ms:List (ND × NV)) (OA:Option Addr) (oc:Nat) (outs:List Nat) (names:PlacesD) (sn:Names) (i0 i1:Nat),k≤ns∧iv=.int .i64 k∧i0≤k∧i1≤k∧outs.length≤k∧BldInv f s ss es shF (ss.drop k) names sn (ms.map Prod.fst) i0 i1 outs∧BldM wq wr B cb B f s d NA nc ms OA oc outs I0 I1 m0 p0 m1 p1 names nx i0 i1) (fun iv _=>ns-(intOf iv).toNat)
  case atStart=>exact ⟨0,none,0,[],none,0,[],[],[],0,0,by omega,rfl,by omega,by omega,by simp,HI0.o,HM0.o⟩
  case round=>
  clear HI0 HM0
  obtain ⟨k,NA,nc,ms,OA,oc,outs,names,sn,i0,i1,hk,rfl,hi0,hi1,hol,hI,hM⟩:=hrel
  have HI:=Kz hI
  have HM:=Kz hM
  have HB3r:=Kz (HB3q.o.trans hM.below)
  clear hI hM
  by_cases hlt:k<ns
  ·have ht:ss[k]?=some (ss[k]'(by rw [←HNS.o];exact hlt)):=Kad _
   obtain ⟨x,hx⟩:=Ky (ss[k]'(by rw [←HNS.o];exact hlt))
   rw [←hx] at ht
   have hsm:=HSX.o x (Kam ht)
   have hsl1:=HSM.o x (Kam ht)
   have HIX:=Kz (show BldInv f s ss es shF (x::ss.drop (k+1)) names sn (ms.map Prod.fst) i0 i1 outs from by
    have h:=HI.o
    obtain ⟨hi,he⟩:=Kaf.1 ht
    rw [List.drop_eq_getElem_cons hi,he] at h
    exact h)
   obtain ⟨b,o,hSA,hbl,c0,c1,c2,⟨A',c',c3,c3r,c3n,c3c,c3d⟩,c4,c5⟩:=(HBB.o wr (HB3.o.trans (HB3r.o.mono HBW.o))).1.at_ ht
   subst hSA
   have j0:(0:Int)≤(k:Int):=by omega
   have j1:(k:Int)<(ns:Int):=by omega
   obtain ⟨dk,dp,dn,dsh,de,dq⟩:=x
   dsimp only at c0 c1 c2 c3 c3r c3n c3c c4 c5 hsl1
   obtain ⟨sl,hsl⟩:=Ky dsh.length
   rw [←hsl] at c3 c3n c3c hsl1
   have HSZ:=Kz hsl1
   have HSLx:=Kz hsl
   obtain ⟨wt,hwt⟩:=Ky (wr.alloc (.cells #[.int .i64 dk,.int .i64 dp,.string dn,.slice A' sl c',.int .i64 de,.int .i64 dq] 93))
   obtain ⟨eb,heb⟩:=Ky wr.heap.size
   have bt:=Kv hwt
   have HE:=Kz (Kx hwt heb)
   have HEL:=Kz (show eb<wt.heap.size from (Kab.1 HE.o).1)
   have HMt:=Kz (HM.o.next bt)
   have HB3t:=Kz (show Below B w3 wt from HB3r.o.trans (bt.mono (Kah HBw.o HB3r.o.size)))
   have HRS:=Kz (show ∀ W,Below wt.heap.size wt W→Rd W W.heap.size A' (dsh.map VI) from fun W hW=>(c3r.more (Kah HBW.o (Kah HBw.o HB3r.o.size))).next (bnext bt hW))
   have HEBB:=Kz (show ¬ B=eb from by have:=HM.o.st.b1;have:=HM.o.st.lt;omega)
   have HECB:=Kz (show ¬ eb=cb from by have:=HM.o.st.lt;omega)
   have HWT:=Kz hwt
   have HEB:=Kz heb
   have hdk:dk=1∨dk=3∨dk=2∧0≤de∧de<(ne:Int):=by
    unfold smOk at hsm
    simp only [Bool.or_eq_true,Bool.and_eq_true,beq_iff_eq,decide_eq_true_eq] at hsm
    rcases hsm with (h | h) | h
    ·exact .inl h
    ·exact .inr (.inl h)
    ·exact .inr (.inr ⟨h.1.1,h.1.2,h.2⟩)
   have hpp:dk=1→dp=0∨dp=1:=fun h=>(HIX.o.inn h).1
   clear ht hx hsm hbl c3r c3n c3c c3d hsl hwt heb bt HI HM
   rcases hdk with rfl | rfl | ⟨rfl,hde0,hde1⟩
   ·rcases hpp rfl with rfl | rfl
    ·clear hpp
     have HSC:=Kz (show ∀ W,KD wt W→W.cell? ⟨cb,7,none⟩=some (.map (some B))→W.cell? ⟨cb,7,none⟩=some (.map (some B))∧W.cell? ⟨eb,1,none⟩=some (.int .i64 0)∧W.cell? ⟨eb,2,none⟩=some (.string dn)∧W.cell? ⟨eb,3,none⟩=some (.slice A' sl c')∧W.cell? ⟨nx,0,none⟩=some (.int .i64 i0) from fun W hW h7=>by
      have hE:=hW.2 _ _ HE.o ⟨by decide,by decide⟩
      have hX:=hW.2 _ _ HMt.o.hx ⟨by decide,by decide⟩
      exact ⟨h7,Kaa 1 hE,Kaa 2 hE,Kaa 3 hE,Kaa 0 hX⟩)
     have HIN:=Kz (HIX.o.inn rfl)
     go_upto_region 21 with fail
     rw [←HWT.o,←HEB.o]
     clear c0 c1 c2 c3 c4 c5
     refine wp_region_held_drew (S:=(fun w'=>w'.cell? ⟨cb,7,none⟩=some (.map (some B))∧w'.cell? ⟨eb,1,none⟩=some (.int .i64 0)∧w'.cell? ⟨eb,2,none⟩=some (.string dn)∧w'.cell? ⟨eb,3,none⟩=some (.slice A' sl c')∧w'.cell? ⟨nx,0,none⟩=some (.int .i64 i0))) (by kernel_rfl) (HSC.o _ (KD.of (Kai _ _).drew) (HMt.o.next (Kai _ _).drew).st.cells.2.2.2.2.2.2.2.1) (fun hHeld => ?_)
     obtain ⟨wd,hwd⟩:=Ky wt.drew
     rw [←hwd] at hHeld ⊢
     have BD:=Kz (show Below wt.heap.size wt wd from by rw [hwd];exact (Kai _ _).drew)
     clear hwd
     refine tk 0 ?_
     simp only [tkS]
     refine tk 1 ?_
     simp only [tkS]
     refine tk 2 ?_
     simp only [tkS]
     refine tk 3 ?_
     simp only [tkS]
     refine tk 4 ?_
     simp only [tkS]
     refine tk 5 ?_
     simp only [tkS]
     refine tk 6 ?_
     simp only [tkS]
     refine tk 7 ?_
     simp only [tkS]
     refine tk 8 ?_
     simp only [tkS]
     refine tk 10 ?_
     simp only [tkS]
     refine tk 11 ?_
     simp only [tkS]
     refine tk 12 ?_
     simp only [tkS]
     refine tk 13 ?_
     simp only [tkS]
     refine tk 14 ?_
     simp only [tkS]
     refine tk 15 ?_
     simp only [tkS]
     have HCL:=Kz (ZdH A' sl c' dsh wd HSLx.o HSZ.o (HRS.o wd BD.o))
     refine Kr 9 fun K hK=>?_
     go_simp
     go_at_call 55
     refine HCL.o.mono ?_
     rintro e wc ⟨Ax,cx,rfl,ox,bc⟩
     have BC:=Kz (bnext BD.o bc)
     have OX:=Kz (ox.more BD.o.size)
     clear ox bc HCL
     refine hK.out _ _ (HSC.o _ (KD.of BC.o) (HMt.o.next BC.o).st.cells.2.2.2.2.2.2.2.1) (fun hHeld => ?_)
     clear hK K
     try simp only [tkS]
     refine tk 16 ?_
     simp only [tkS]
     have HMD:=Kz (show Calls Tryz.prog 64 #[.pointer (some ⟨cb,0,none⟩),.agg #[.int .i64 1,.slice Ax sl cx,.slice none 0 0,.int .i64 0,.int .i64 i0,.int .i64 0,.slice none 0 0]] wc _ from HMt.o.made (i:=i0) (x:=⟨1,0,dn,dsh,de,dq⟩) BC.o OX.o HSLx.o (by rw [←HSLx.o];exact HSZ.o) HIN.o.1 HIX.o.wf HIN.o.2.2.2 (HGB.o _ (HB3t.o.trans (BC.o.mono (Kah HBw.o HB3t.o.size)))) (by have:=HIX.o.l64;rw [Kak] at this;omega))
     refine Kr 17 fun K hK=>?_
     go_simp
     go_at_call 64
     refine HMD.o.mono ?_
     rintro e w7 ⟨NA2,nc2,ms2,hms2,rfl,hm7,hk7⟩
     have HM7:=Kz hm7
     have HMS:=Kz hms2
     have HK7:=Kz ((KD.of BC.o).trans hk7)
     clear hm7 hms2 hk7 HMD
     obtain ⟨pp,hpp⟩:=Ky ((madeD f s (ms.map Prod.fst) (inD ⟨1,0,dn,dsh,de,dq⟩ i0)).2)
     rw [←hpp]
     have HPP:=Kz hpp
     clear hpp
     refine hK.out _ _ (HSC.o _ HK7.o HM7.o.st.cells.2.2.2.2.2.2.2.1) (fun hHeld => ?_)
     clear hK K
     try simp only [tkS]
     obtain ⟨ob8,hob8⟩:=pl_store_all HM7.o.st.hn dn pp HIN.o.2.2.1
     have hup:=(hob8 w7 rfl).1
     refine Kr 18 fun K hK=>?_
     go_simp
     obtain ⟨w8,hw8⟩:=Ky ({ w7 with heap:=w7.heap.setIfInBounds B ob8 })
     rw [←hw8]
     have HM8:=Kz (show BldM wq w8 B cb B f s d NA2 nc2 ms2 OA oc outs I0 I1 m0 p0 m1 p1 (names++[(dn,pp)]) nx i0 i1 from by rw [hw8];exact HM7.o.name (hob8 w7 rfl).2)
     have HE8:=Kz (show w8.heap[eb]?=some (.cells #[.int .i64 1,.int .i64 0,.string dn,.slice A' sl c',.int .i64 de,.int .i64 dq] 93 (0,0)) from by rw [hw8];show (w7.heap.setIfInBounds B ob8)[eb]?=_;rw [Array.getElem?_setIfInBounds_ne (fun e=>absurd e HEBB.o)];exact HK7.o.2 _ _ HE.o ⟨by decide,by decide⟩)
     clear hw8 hup hob8
     refine hK.out _ _ (by have hE:=HE8.o;have hX:=HM8.o.hx;exact ⟨HM8.o.st.cells.2.2.2.2.2.2.2.1,Kaa 1 hE,Kaa 2 hE,Kaa 3 hE,Kaa 0 hX⟩) (fun hHeld => ?_)
     clear hK K
     try simp only [tkS]
     refine Kq ?_
     have e1:=Kaa 1 HE8.o
     have x1:=Kaa 0 HM8.o.hx
     have fx:∀ k,w8.frozen? ⟨nx,k,none⟩=false:=fun k=>by simp [World.frozen?,HM8.o.hx]
     obtain ⟨w9,hw9⟩:=Ky (w8.setCell ⟨nx,0,none⟩ (.int .i64 ((i0+1:Nat):Int)))
     have HM9:=Kz (show BldM wq w9 B cb B f s d NA2 nc2 ms2 OA oc outs I0 I1 m0 p0 m1 p1 (names++[(dn,pp)]) nx (i0+1) i1 from by rw [hw9];exact HM8.o.num HNX.o HBQ.o rfl)
     have HW9:=Kz (show w9=w8.setCell ⟨nx,0,none⟩ (.int .i64 ((i0:Int)+1)) from by rw [hw9];rfl)
     clear hw9
     go_upto_region 27 with fail
     rw [←HW9.o]
     clear e1 x1 fx
     have HQ:=Kz (show ms2.map Prod.fst=(madeD f s (ms.map Prod.fst) (inD ⟨1,0,dn,dsh,de,dq⟩ (if (0:Int)=0 then i0 else i1))).1 from HMS.o)
     have HPQ:=Kz (show pp=(madeD f s (ms.map Prod.fst) (inD ⟨1,0,dn,dsh,de,dq⟩ (if (0:Int)=0 then i0 else i1))).2 from HPP.o)
     have y3:=HM9.o.st.cells.2.2.2.1
     have HB3w:=Kz (HB3q.o.trans HM9.o.below)
     by_cases h64:64<ms2.length
     ·have q6:decide ((64:Int)<(ms2.length:Int))=true:=by simp;omega
      have q6':decide ((ms2.length:Int) > 64)=true:=q6
      have HZ:=Kz (build_full (d:=d) HCC.o HCB64.o (by rw [HIX.o.inn_eq rfl rfl,if_pos (by rw [←HQ.o,Kak];exact h64)]))
      have HWR:=Kz (ZdE 160 dagN (ms2.length:Int) w9 (HGB.o _ HB3w.o))
      have y3':=y3
      go_wp2_with (go_at_call 53;refine HWR.o.mono ?_;rintro e w9 ⟨ve,rfl,hve,hb9⟩;have HB9:=Kz (HB3w.o.trans (hb9.mono (Kah HBw.o HB3w.o.size)));have r9:=HRC.o _ HB9.o;have r0:=Kaa 0 r9;have r1:=Kaa 1 r9;have r2:=Kaa 2 r9;have r3:=Kaa 3 r9;have fr:∀ k,w9.frozen? ⟨rb,k,none⟩=false:=(fun k=>(by simp [World.frozen?,r9])))
      obtain ⟨wf,hwf⟩:=Ky (set4 w9 rb (.slice none 0 0) (.slice none 0 0) (.slice none 0 0) (.slice none 0 0))
      have hfr:=set4_row (a:=.slice none 0 0) (b:=.slice none 0 0) (c:=.slice none 0 0) (d:=.slice none 0 0) r9
      rw [←hwf] at hfr
      have d0:=Kaa 0 hfr
      have d1:=Kaa 1 hfr
      have d2:=Kaa 2 hfr
      have d3:=Kaa 3 hfr
      have HBO:=Kz (build_err (ss:=ss) HZ.o (HB3.o.trans (HB9.o.mono HBW.o)) HRL.o r9 hve)
      rw [←hwf] at HBO
      unfold set4 at hwf
      rw [←hwf]
      clear hwf r0 r1 r2 r3 fr
      exact bodyPost_ret (v:=.tuple #[.agg #[.slice none 0 0,.slice none 0 0,.slice none 0 0,.slice none 0 0],ve]) (by simp [results,Tryz.results34,go_sem,d0,d1,d2,d3]) rfl HBO.o
     ·have q6:decide ((64:Int)<(ms2.length:Int))=false:=by simp;omega
      have q6':decide ((ms2.length:Int) > 64)=false:=q6
      obtain ⟨sn',hI'⟩:=(show ∃ sn',BldInv f s ss es shF (ss.drop (k+1)) (names++[(dn,pp)]) sn' (ms2.map Prod.fst) (i0+1) i1 outs from by rw [HPQ.o,HQ.o];exact HIX.o.inn_next rfl rfl (by rw [←HQ.o,Kak];exact h64))
      have HI':=Kz hI'
      clear hI' h64
      go_wp2_with fail
      exact ⟨⟨k+1,NA2,nc2,ms2,OA,oc,outs,(names++[(dn,pp)]),sn',(i0+1),i1,by omega,rfl,by omega,by omega,by (try rw [List.length_append,List.length_singleton]);omega,HI'.o,HM9.o⟩,by simp [intOf];omega⟩
    ·clear hpp
     have HSC:=Kz (show ∀ W,KD wt W→W.cell? ⟨cb,7,none⟩=some (.map (some B))→W.cell? ⟨cb,7,none⟩=some (.map (some B))∧W.cell? ⟨eb,1,none⟩=some (.int .i64 1)∧W.cell? ⟨eb,2,none⟩=some (.string dn)∧W.cell? ⟨eb,3,none⟩=some (.slice A' sl c')∧W.cell? ⟨nx,1,none⟩=some (.int .i64 i1) from fun W hW h7=>by
      have hE:=hW.2 _ _ HE.o ⟨by decide,by decide⟩
      have hX:=hW.2 _ _ HMt.o.hx ⟨by decide,by decide⟩
      exact ⟨h7,Kaa 1 hE,Kaa 2 hE,Kaa 3 hE,Kaa 1 hX⟩)
     have HIN:=Kz (HIX.o.inn rfl)
     go_upto_region 21 with fail
     rw [←HWT.o,←HEB.o]
     clear c0 c1 c2 c3 c4 c5
     refine wp_region_held_drew (S:=(fun w'=>w'.cell? ⟨cb,7,none⟩=some (.map (some B))∧w'.cell? ⟨eb,1,none⟩=some (.int .i64 1)∧w'.cell? ⟨eb,2,none⟩=some (.string dn)∧w'.cell? ⟨eb,3,none⟩=some (.slice A' sl c')∧w'.cell? ⟨nx,1,none⟩=some (.int .i64 i1))) (by kernel_rfl) (HSC.o _ (KD.of (Kai _ _).drew) (HMt.o.next (Kai _ _).drew).st.cells.2.2.2.2.2.2.2.1) (fun hHeld => ?_)
     obtain ⟨wd,hwd⟩:=Ky wt.drew
     rw [←hwd] at hHeld ⊢
     have BD:=Kz (show Below wt.heap.size wt wd from by rw [hwd];exact (Kai _ _).drew)
     clear hwd
     refine tk 0 ?_
     simp only [tkS]
     refine tk 1 ?_
     simp only [tkS]
     refine tk 2 ?_
     simp only [tkS]
     refine tk 3 ?_
     simp only [tkS]
     refine tk 4 ?_
     simp only [tkS]
     refine tk 5 ?_
     simp only [tkS]
     refine tk 6 ?_
     simp only [tkS]
     refine tk 7 ?_
     simp only [tkS]
     refine tk 8 ?_
     simp only [tkS]
     refine tk 10 ?_
     simp only [tkS]
     refine tk 11 ?_
     simp only [tkS]
     refine tk 12 ?_
     simp only [tkS]
     refine tk 13 ?_
     simp only [tkS]
     refine tk 14 ?_
     simp only [tkS]
     refine tk 15 ?_
     simp only [tkS]
     have HCL:=Kz (ZdH A' sl c' dsh wd HSLx.o HSZ.o (HRS.o wd BD.o))
     refine Kr 9 fun K hK=>?_
     go_simp
     go_at_call 55
     refine HCL.o.mono ?_
     rintro e wc ⟨Ax,cx,rfl,ox,bc⟩
     have BC:=Kz (bnext BD.o bc)
     have OX:=Kz (ox.more BD.o.size)
     clear ox bc HCL
     refine hK.out _ _ (HSC.o _ (KD.of BC.o) (HMt.o.next BC.o).st.cells.2.2.2.2.2.2.2.1) (fun hHeld => ?_)
     clear hK K
     try simp only [tkS]
     refine tk 16 ?_
     simp only [tkS]
     have HMD:=Kz (show Calls Tryz.prog 64 #[.pointer (some ⟨cb,0,none⟩),.agg #[.int .i64 1,.slice Ax sl cx,.slice none 0 0,.int .i64 1,.int .i64 i1,.int .i64 0,.slice none 0 0]] wc _ from HMt.o.made (i:=i1) (x:=⟨1,1,dn,dsh,de,dq⟩) BC.o OX.o HSLx.o (by rw [←HSLx.o];exact HSZ.o) HIN.o.1 HIX.o.wf HIN.o.2.2.2 (HGB.o _ (HB3t.o.trans (BC.o.mono (Kah HBw.o HB3t.o.size)))) (by have:=HIX.o.l64;rw [Kak] at this;omega))
     refine Kr 17 fun K hK=>?_
     go_simp
     go_at_call 64
     refine HMD.o.mono ?_
     rintro e w7 ⟨NA2,nc2,ms2,hms2,rfl,hm7,hk7⟩
     have HM7:=Kz hm7
     have HMS:=Kz hms2
     have HK7:=Kz ((KD.of BC.o).trans hk7)
     clear hm7 hms2 hk7 HMD
     obtain ⟨pp,hpp⟩:=Ky ((madeD f s (ms.map Prod.fst) (inD ⟨1,1,dn,dsh,de,dq⟩ i1)).2)
     rw [←hpp]
     have HPP:=Kz hpp
     clear hpp
     refine hK.out _ _ (HSC.o _ HK7.o HM7.o.st.cells.2.2.2.2.2.2.2.1) (fun hHeld => ?_)
     clear hK K
     try simp only [tkS]
     obtain ⟨ob8,hob8⟩:=pl_store_all HM7.o.st.hn dn pp HIN.o.2.2.1
     have hup:=(hob8 w7 rfl).1
     refine Kr 18 fun K hK=>?_
     go_simp
     obtain ⟨w8,hw8⟩:=Ky ({ w7 with heap:=w7.heap.setIfInBounds B ob8 })
     rw [←hw8]
     have HM8:=Kz (show BldM wq w8 B cb B f s d NA2 nc2 ms2 OA oc outs I0 I1 m0 p0 m1 p1 (names++[(dn,pp)]) nx i0 i1 from by rw [hw8];exact HM7.o.name (hob8 w7 rfl).2)
     have HE8:=Kz (show w8.heap[eb]?=some (.cells #[.int .i64 1,.int .i64 1,.string dn,.slice A' sl c',.int .i64 de,.int .i64 dq] 93 (0,0)) from by rw [hw8];show (w7.heap.setIfInBounds B ob8)[eb]?=_;rw [Array.getElem?_setIfInBounds_ne (fun e=>absurd e HEBB.o)];exact HK7.o.2 _ _ HE.o ⟨by decide,by decide⟩)
     clear hw8 hup hob8
     refine hK.out _ _ (by have hE:=HE8.o;have hX:=HM8.o.hx;exact ⟨HM8.o.st.cells.2.2.2.2.2.2.2.1,Kaa 1 hE,Kaa 2 hE,Kaa 3 hE,Kaa 1 hX⟩) (fun hHeld => ?_)
     clear hK K
     try simp only [tkS]
     refine Kq ?_
     have e1:=Kaa 1 HE8.o
     have x1:=Kaa 1 HM8.o.hx
     have fx:∀ k,w8.frozen? ⟨nx,k,none⟩=false:=fun k=>by simp [World.frozen?,HM8.o.hx]
     obtain ⟨w9,hw9⟩:=Ky (w8.setCell ⟨nx,1,none⟩ (.int .i64 ((i1+1:Nat):Int)))
     have HM9:=Kz (show BldM wq w9 B cb B f s d NA2 nc2 ms2 OA oc outs I0 I1 m0 p0 m1 p1 (names++[(dn,pp)]) nx i0 (i1+1) from by rw [hw9];exact HM8.o.num HNX.o HBQ.o rfl)
     have HW9:=Kz (show w9=w8.setCell ⟨nx,1,none⟩ (.int .i64 ((i1:Int)+1)) from by rw [hw9];rfl)
     clear hw9
     go_upto_region 27 with fail
     rw [←HW9.o]
     clear e1 x1 fx
     have HQ:=Kz (show ms2.map Prod.fst=(madeD f s (ms.map Prod.fst) (inD ⟨1,1,dn,dsh,de,dq⟩ (if (1:Int)=0 then i0 else i1))).1 from HMS.o)
     have HPQ:=Kz (show pp=(madeD f s (ms.map Prod.fst) (inD ⟨1,1,dn,dsh,de,dq⟩ (if (1:Int)=0 then i0 else i1))).2 from HPP.o)
     have y3:=HM9.o.st.cells.2.2.2.1
     have HB3w:=Kz (HB3q.o.trans HM9.o.below)
     by_cases h64:64<ms2.length
     ·have q6:decide ((64:Int)<(ms2.length:Int))=true:=by simp;omega
      have q6':decide ((ms2.length:Int) > 64)=true:=q6
      have HZ:=Kz (build_full (d:=d) HCC.o HCB64.o (by rw [HIX.o.inn_eq rfl rfl,if_pos (by rw [←HQ.o,Kak];exact h64)]))
      have HWR:=Kz (ZdE 160 dagN (ms2.length:Int) w9 (HGB.o _ HB3w.o))
      have y3':=y3
      go_wp2_with (go_at_call 53;refine HWR.o.mono ?_;rintro e w9 ⟨ve,rfl,hve,hb9⟩;have HB9:=Kz (HB3w.o.trans (hb9.mono (Kah HBw.o HB3w.o.size)));have r9:=HRC.o _ HB9.o;have r0:=Kaa 0 r9;have r1:=Kaa 1 r9;have r2:=Kaa 2 r9;have r3:=Kaa 3 r9;have fr:∀ k,w9.frozen? ⟨rb,k,none⟩=false:=(fun k=>(by simp [World.frozen?,r9])))
      obtain ⟨wf,hwf⟩:=Ky (set4 w9 rb (.slice none 0 0) (.slice none 0 0) (.slice none 0 0) (.slice none 0 0))
      have hfr:=set4_row (a:=.slice none 0 0) (b:=.slice none 0 0) (c:=.slice none 0 0) (d:=.slice none 0 0) r9
      rw [←hwf] at hfr
      have d0:=Kaa 0 hfr
      have d1:=Kaa 1 hfr
      have d2:=Kaa 2 hfr
      have d3:=Kaa 3 hfr
      have HBO:=Kz (build_err (ss:=ss) HZ.o (HB3.o.trans (HB9.o.mono HBW.o)) HRL.o r9 hve)
      rw [←hwf] at HBO
      unfold set4 at hwf
      rw [←hwf]
      clear hwf r0 r1 r2 r3 fr
      exact bodyPost_ret (v:=.tuple #[.agg #[.slice none 0 0,.slice none 0 0,.slice none 0 0,.slice none 0 0],ve]) (by simp [results,Tryz.results34,go_sem,d0,d1,d2,d3]) rfl HBO.o
     ·have q6:decide ((64:Int)<(ms2.length:Int))=false:=by simp;omega
      have q6':decide ((ms2.length:Int) > 64)=false:=q6
      obtain ⟨sn',hI'⟩:=(show ∃ sn',BldInv f s ss es shF (ss.drop (k+1)) (names++[(dn,pp)]) sn' (ms2.map Prod.fst) i0 (i1+1) outs from by rw [HPQ.o,HQ.o];exact HIX.o.inn_next rfl rfl (by rw [←HQ.o,Kak];exact h64))
      have HI':=Kz hI'
      clear hI' h64
      go_wp2_with fail
      exact ⟨⟨k+1,NA2,nc2,ms2,OA,oc,outs,(names++[(dn,pp)]),sn',i0,(i1+1),by omega,rfl,by omega,by omega,by (try rw [List.length_append,List.length_singleton]);omega,HI'.o,HM9.o⟩,by simp [intOf];omega⟩
   ·clear hpp
    have HSC:=Kz (show ∀ W,KD wt W→W.cell? ⟨cb,7,none⟩=some (.map (some B))→W.cell? ⟨cb,7,none⟩=some (.map (some B))∧W.cell? ⟨eb,2,none⟩=some (.string dn) from fun W hW h7=>by
     have hE:=hW.2 _ _ HE.o ⟨by decide,by decide⟩
     exact ⟨h7,Kaa 2 hE⟩)
    obtain ⟨on,hon⟩:=Ky outs.length
    have HON:=Kz hon
    rw [←hon] at hol
    clear hon
    obtain ⟨pp,hpp⟩:=Ky (placeD names dn)
    have HPP:=Kz hpp
    clear hpp
    go_upto_region 26 with fail
    rw [←HWT.o,←HEB.o]
    clear c0 c1 c2 c3 c4 c5
    refine wp_region_held_drew (S:=(fun w'=>w'.cell? ⟨cb,7,none⟩=some (.map (some B))∧w'.cell? ⟨eb,2,none⟩=some (.string dn))) (by kernel_rfl) (HSC.o _ (KD.of (Kai _ _).drew) (HMt.o.next (Kai _ _).drew).st.cells.2.2.2.2.2.2.2.1) (fun hHeld => ?_)
    obtain ⟨wd,hwd⟩:=Ky wt.drew
    rw [←hwd] at hHeld ⊢
    have BD:=Kz (show Below wt.heap.size wt wd from by rw [hwd];exact (Kai _ _).drew)
    clear hwd
    refine tk 0 ?_
    simp only [tkS]
    refine tk 1 ?_
    simp only [tkS]
    refine tk 2 ?_
    simp only [tkS]
    refine tk 3 ?_
    simp only [tkS]
    refine tk 4 ?_
    simp only [tkS]
    refine tk 6 ?_
    simp only [tkS]
    refine tk 7 ?_
    simp only [tkS]
    refine tk 8 ?_
    simp only [tkS]
    refine tk 9 ?_
    simp only [tkS]
    refine tk 10 ?_
    simp only [tkS]
    refine tk 11 ?_
    simp only [tkS]
    refine wpAnyH_ready (rs:=[5,12]) (by kernel_rfl) (by simp) ?_
    refine AllReadyH.cons (o:=_) rfl (fun K hK => ?_) (AllReadyH.cons (o:=_) rfl (fun K hK => ?_) (AllReadyH.nil))
    ·have y4:=(HMt.o.next BD.o).st.cells.2.2.2.2.1
     rw [←HON.o] at y4
     go_simp
     clear y4
     refine hK.out _ _ (HSC.o _ (KD.of BD.o) (HMt.o.next BD.o).st.cells.2.2.2.2.2.2.2.1) (fun hHeld => ?_)
     clear hK K
     try simp only [tkS]
     refine Kr 12 fun K hK=>?_
     have hlk:=run_pl_lookup (HMt.o.next BD.o).st.hn dn
     rw [←HPP.o] at hlk
     go_simp
     clear hlk
     refine hK.out _ _ (HSC.o _ (KD.of BD.o) (HMt.o.next BD.o).st.cells.2.2.2.2.2.2.2.1) (fun hHeld => ?_)
     clear hK K
     try simp only [tkS]
     refine Kr 13 fun K hK=>?_
     go_simp
     obtain ⟨wa,hwa⟩:=Ky (wd.alloc (.cells #[.int .i64 (pp:Int)] 3))
     obtain ⟨ga,hga⟩:=Ky wd.heap.size
     rw [←hwa,←hga]
     have ba:=Kv hwa
     have BA:=Kz (bnext BD.o ba)
     have HGA:=Kz (Kx hwa hga)
     clear hwa hga ba
     refine hK.out _ _ (HSC.o _ (KD.of BA.o) (HMt.o.next BA.o).st.cells.2.2.2.2.2.2.2.1) (fun hHeld => ?_)
     clear hK K
     try simp only [tkS]
     have HMa:=Kz (HMt.o.next BA.o)
     refine Kr 14 fun K hK=>?_
     refine wp_app2 (.tmp 124) (.tmp 132) rfl B OA oc on (outs.map VNt) (by rw [Kak];exact HON.o) rfl HMa.o.st.ho ga rfl (.int .i64 (pp:Int)) HGA.o rfl (by omega) (Kah HMa.o.st.b1 (Nat.le_of_lt HMa.o.st.lt)) ?_
     intro A8 c8 w8 o8 g8 h8
     have HO8:=Kz (show Own w8 B 3 A8 c8 ((outs++[pp]).map VNt) from by rw [List.map_append];exact o8)
     have HC8:=Kz (grown_other HMa.o.st.ho g8 HMa.o.st.hc (by decide))
     have HE8:=Kz (grown_other HMa.o.st.ho g8 ((BA.o.block eb HEL.o).trans HE.o) (by decide))
     have HMo:=Kz (HMa.o.o HBQ.o g8 HO8.o h8)
     clear o8 g8 h8
     refine hK.out _ _ ⟨Kaa 7 HC8.o,Kaa 2 HE8.o⟩ (fun hHeld => ?_)
     clear hK K
     try simp only [tkS]
     refine tk 15 ?_
     simp only [tkS]
     refine tk 16 ?_
     simp only [tkS]
     refine tk 17 ?_
     simp only [tkS]
     have d4:=Kaa 4 HC8.o
     have fz:∀ k,w8.frozen? ⟨cb,k,none⟩=false:=fun k=>by simp [World.frozen?,HC8.o]
     refine Kr 18 fun K hK=>?_
     go_simp
     obtain ⟨w9,hw9⟩:=Ky (w8.setCell ⟨cb,4,none⟩ (.slice A8 (on+1) c8))
     rw [←hw9]
     have HM9:=Kz (show BldM wq w9 B cb B f s d NA nc ms A8 c8 (outs++[pp]) I0 I1 m0 p0 m1 p1 names nx i0 i1 from by rw [hw9,HON.o];exact HMo.o)
     have HE9:=Kz (show w9.heap[eb]?=some (.cells #[.int .i64 3,.int .i64 dp,.string dn,.slice A' sl c',.int .i64 de,.int .i64 dq] 93 (0,0)) from by rw [hw9];exact (ZaS _ _ _ (fun e=>absurd e HECB.o)).trans HE8.o)
     clear hw9 d4 fz
     refine hK.out _ _ ⟨HM9.o.st.cells.2.2.2.2.2.2.2.1,Kaa 2 HE9.o⟩ (fun hHeld => ?_)
     clear hK K
     try simp only [tkS]
     refine Kq ?_
     go_upto_region 27 with fail
     have y3:=HM9.o.st.cells.2.2.2.1
     have h64:¬ 64<ms.length:=by have:=HIX.o.l64;rw [Kak] at this;omega
     have q6:decide ((64:Int)<(ms.length:Int))=false:=by simp;omega
     have q6':decide ((ms.length:Int) > 64)=false:=q6
     have HI':=Kz (show BldInv f s ss es shF (ss.drop (k+1)) names sn (ms.map Prod.fst) i0 i1 (outs++[pp]) from by rw [HPP.o];exact HIX.o.o (show (3:Int)≠1 by decide) (show (3:Int)≠2 by decide))
     go_wp2_with fail
     exact ⟨⟨k+1,NA,nc,ms,A8,c8,outs++[pp],names,sn,i0,i1,by omega,rfl,by omega,by omega,by rw [List.length_append,List.length_singleton,←HON.o];omega,HI'.o,HM9.o⟩,by simp [intOf];omega⟩
    ·have hlk:=run_pl_lookup (HMt.o.next BD.o).st.hn dn
     rw [←HPP.o] at hlk
     go_simp
     clear hlk
     refine hK.out _ _ (HSC.o _ (KD.of BD.o) (HMt.o.next BD.o).st.cells.2.2.2.2.2.2.2.1) (fun hHeld => ?_)
     clear hK K
     try simp only [tkS]
     refine wpAnyH_ready (rs:=[5,13]) (by kernel_rfl) (by simp) ?_
     refine AllReadyH.cons (o:=_) rfl (fun K hK => ?_) (AllReadyH.cons (o:=_) rfl (fun K hK => ?_) (AllReadyH.nil))
     ·have y4:=(HMt.o.next BD.o).st.cells.2.2.2.2.1
      rw [←HON.o] at y4
      go_simp
      clear y4
      refine hK.out _ _ (HSC.o _ (KD.of BD.o) (HMt.o.next BD.o).st.cells.2.2.2.2.2.2.2.1) (fun hHeld => ?_)
      clear hK K
      try simp only [tkS]
      refine Kr 13 fun K hK=>?_
      go_simp
      obtain ⟨wa,hwa⟩:=Ky (wd.alloc (.cells #[.int .i64 (pp:Int)] 3))
      obtain ⟨ga,hga⟩:=Ky wd.heap.size
      rw [←hwa,←hga]
      have ba:=Kv hwa
      have BA:=Kz (bnext BD.o ba)
      have HGA:=Kz (Kx hwa hga)
      clear hwa hga ba
      refine hK.out _ _ (HSC.o _ (KD.of BA.o) (HMt.o.next BA.o).st.cells.2.2.2.2.2.2.2.1) (fun hHeld => ?_)
      clear hK K
      try simp only [tkS]
      have HMa:=Kz (HMt.o.next BA.o)
      refine Kr 14 fun K hK=>?_
      refine wp_app2 (.tmp 124) (.tmp 132) rfl B OA oc on (outs.map VNt) (by rw [Kak];exact HON.o) rfl HMa.o.st.ho ga rfl (.int .i64 (pp:Int)) HGA.o rfl (by omega) (Kah HMa.o.st.b1 (Nat.le_of_lt HMa.o.st.lt)) ?_
      intro A8 c8 w8 o8 g8 h8
      have HO8:=Kz (show Own w8 B 3 A8 c8 ((outs++[pp]).map VNt) from by rw [List.map_append];exact o8)
      have HC8:=Kz (grown_other HMa.o.st.ho g8 HMa.o.st.hc (by decide))
      have HE8:=Kz (grown_other HMa.o.st.ho g8 ((BA.o.block eb HEL.o).trans HE.o) (by decide))
      have HMo:=Kz (HMa.o.o HBQ.o g8 HO8.o h8)
      clear o8 g8 h8
      refine hK.out _ _ ⟨Kaa 7 HC8.o,Kaa 2 HE8.o⟩ (fun hHeld => ?_)
      clear hK K
      try simp only [tkS]
      refine tk 15 ?_
      simp only [tkS]
      refine tk 16 ?_
      simp only [tkS]
      refine tk 17 ?_
      simp only [tkS]
      have d4:=Kaa 4 HC8.o
      have fz:∀ k,w8.frozen? ⟨cb,k,none⟩=false:=fun k=>by simp [World.frozen?,HC8.o]
      refine Kr 18 fun K hK=>?_
      go_simp
      obtain ⟨w9,hw9⟩:=Ky (w8.setCell ⟨cb,4,none⟩ (.slice A8 (on+1) c8))
      rw [←hw9]
      have HM9:=Kz (show BldM wq w9 B cb B f s d NA nc ms A8 c8 (outs++[pp]) I0 I1 m0 p0 m1 p1 names nx i0 i1 from by rw [hw9,HON.o];exact HMo.o)
      have HE9:=Kz (show w9.heap[eb]?=some (.cells #[.int .i64 3,.int .i64 dp,.string dn,.slice A' sl c',.int .i64 de,.int .i64 dq] 93 (0,0)) from by rw [hw9];exact (ZaS _ _ _ (fun e=>absurd e HECB.o)).trans HE8.o)
      clear hw9 d4 fz
      refine hK.out _ _ ⟨HM9.o.st.cells.2.2.2.2.2.2.2.1,Kaa 2 HE9.o⟩ (fun hHeld => ?_)
      clear hK K
      try simp only [tkS]
      refine Kq ?_
      go_upto_region 27 with fail
      have y3:=HM9.o.st.cells.2.2.2.1
      have h64:¬ 64<ms.length:=by have:=HIX.o.l64;rw [Kak] at this;omega
      have q6:decide ((64:Int)<(ms.length:Int))=false:=by simp;omega
      have q6':decide ((ms.length:Int) > 64)=false:=q6
      have HI':=Kz (show BldInv f s ss es shF (ss.drop (k+1)) names sn (ms.map Prod.fst) i0 i1 (outs++[pp]) from by rw [HPP.o];exact HIX.o.o (show (3:Int)≠1 by decide) (show (3:Int)≠2 by decide))
      go_wp2_with fail
      exact ⟨⟨k+1,NA,nc,ms,A8,c8,outs++[pp],names,sn,i0,i1,by omega,rfl,by omega,by omega,by rw [List.length_append,List.length_singleton,←HON.o];omega,HI'.o,HM9.o⟩,by simp [intOf];omega⟩
     ·go_simp
      obtain ⟨wa,hwa⟩:=Ky (wd.alloc (.cells #[.int .i64 (pp:Int)] 3))
      obtain ⟨ga,hga⟩:=Ky wd.heap.size
      rw [←hwa,←hga]
      have ba:=Kv hwa
      have BA:=Kz (bnext BD.o ba)
      have HGA:=Kz (Kx hwa hga)
      clear hwa hga ba
      refine hK.out _ _ (HSC.o _ (KD.of BA.o) (HMt.o.next BA.o).st.cells.2.2.2.2.2.2.2.1) (fun hHeld => ?_)
      clear hK K
      try simp only [tkS]
      refine Kr 5 fun K hK=>?_
      have y4:=(HMt.o.next BA.o).st.cells.2.2.2.2.1
      rw [←HON.o] at y4
      go_simp
      clear y4
      refine hK.out _ _ (HSC.o _ (KD.of BA.o) (HMt.o.next BA.o).st.cells.2.2.2.2.2.2.2.1) (fun hHeld => ?_)
      clear hK K
      try simp only [tkS]
      have HMa:=Kz (HMt.o.next BA.o)
      refine Kr 14 fun K hK=>?_
      refine wp_app2 (.tmp 124) (.tmp 132) rfl B OA oc on (outs.map VNt) (by rw [Kak];exact HON.o) rfl HMa.o.st.ho ga rfl (.int .i64 (pp:Int)) HGA.o rfl (by omega) (Kah HMa.o.st.b1 (Nat.le_of_lt HMa.o.st.lt)) ?_
      intro A8 c8 w8 o8 g8 h8
      have HO8:=Kz (show Own w8 B 3 A8 c8 ((outs++[pp]).map VNt) from by rw [List.map_append];exact o8)
      have HC8:=Kz (grown_other HMa.o.st.ho g8 HMa.o.st.hc (by decide))
      have HE8:=Kz (grown_other HMa.o.st.ho g8 ((BA.o.block eb HEL.o).trans HE.o) (by decide))
      have HMo:=Kz (HMa.o.o HBQ.o g8 HO8.o h8)
      clear o8 g8 h8
      refine hK.out _ _ ⟨Kaa 7 HC8.o,Kaa 2 HE8.o⟩ (fun hHeld => ?_)
      clear hK K
      try simp only [tkS]
      refine tk 15 ?_
      simp only [tkS]
      refine tk 16 ?_
      simp only [tkS]
      refine tk 17 ?_
      simp only [tkS]
      have d4:=Kaa 4 HC8.o
      have fz:∀ k,w8.frozen? ⟨cb,k,none⟩=false:=fun k=>by simp [World.frozen?,HC8.o]
      refine Kr 18 fun K hK=>?_
      go_simp
      obtain ⟨w9,hw9⟩:=Ky (w8.setCell ⟨cb,4,none⟩ (.slice A8 (on+1) c8))
      rw [←hw9]
      have HM9:=Kz (show BldM wq w9 B cb B f s d NA nc ms A8 c8 (outs++[pp]) I0 I1 m0 p0 m1 p1 names nx i0 i1 from by rw [hw9,HON.o];exact HMo.o)
      have HE9:=Kz (show w9.heap[eb]?=some (.cells #[.int .i64 3,.int .i64 dp,.string dn,.slice A' sl c',.int .i64 de,.int .i64 dq] 93 (0,0)) from by rw [hw9];exact (ZaS _ _ _ (fun e=>absurd e HECB.o)).trans HE8.o)
      clear hw9 d4 fz
      refine hK.out _ _ ⟨HM9.o.st.cells.2.2.2.2.2.2.2.1,Kaa 2 HE9.o⟩ (fun hHeld => ?_)
      clear hK K
      try simp only [tkS]
      refine Kq ?_
      go_upto_region 27 with fail
      have y3:=HM9.o.st.cells.2.2.2.1
      have h64:¬ 64<ms.length:=by have:=HIX.o.l64;rw [Kak] at this;omega
      have q6:decide ((64:Int)<(ms.length:Int))=false:=by simp;omega
      have q6':decide ((ms.length:Int) > 64)=false:=q6
      have HI':=Kz (show BldInv f s ss es shF (ss.drop (k+1)) names sn (ms.map Prod.fst) i0 i1 (outs++[pp]) from by rw [HPP.o];exact HIX.o.o (show (3:Int)≠1 by decide) (show (3:Int)≠2 by decide))
      go_wp2_with fail
      exact ⟨⟨k+1,NA,nc,ms,A8,c8,outs++[pp],names,sn,i0,i1,by omega,rfl,by omega,by omega,by rw [List.length_append,List.length_singleton,←HON.o];omega,HI'.o,HM9.o⟩,by simp [intOf];omega⟩
   ·clear hpp
    obtain ⟨rt,hrt⟩:∃ rt:Nat,de=(rt:Int):=⟨de.toNat,by omega⟩
    subst hrt
    have HSC:=Kz (show ∀ W,KD wt W→W.cell? ⟨cb,7,none⟩=some (.map (some B))→W.cell? ⟨cb,7,none⟩=some (.map (some B))∧W.cell? ⟨eb,2,none⟩=some (.string dn)∧W.cell? ⟨eb,4,none⟩=some (.int .i64 (rt:Int))∧W.cell? ⟨tb,0,none⟩=some (.slice (some ⟨b,o,none⟩) ns sc)∧W.cell? ⟨tb,1,none⟩=some (.slice EA ne ec) from fun W hW h7=>by
     have hE:=hW.2 _ _ HE.o ⟨by decide,by decide⟩
     have hT:=hW.2 _ _ ((HB3t.o.block tb HTL.o).trans HA3.o) ⟨by decide,by decide⟩
     exact ⟨h7,Kaa 2 hE,Kaa 4 hE,Kaa 0 hT,Kaa 1 hT⟩)
    have HLT:=Kz (HIX.o.lett rfl)
    go_upto_region 24 with fail
    rw [←HWT.o,←HEB.o]
    clear c0 c1 c2 c3 c4 c5
    refine wp_region_held_drew (S:=(fun w'=>w'.cell? ⟨cb,7,none⟩=some (.map (some B))∧w'.cell? ⟨eb,2,none⟩=some (.string dn)∧w'.cell? ⟨eb,4,none⟩=some (.int .i64 (rt:Int))∧w'.cell? ⟨tb,0,none⟩=some (.slice (some ⟨b,o,none⟩) ns sc)∧w'.cell? ⟨tb,1,none⟩=some (.slice EA ne ec))) (by kernel_rfl) (HSC.o _ (KD.of (Kai _ _).drew) (HMt.o.next (Kai _ _).drew).st.cells.2.2.2.2.2.2.2.1) (fun hHeld => ?_)
    obtain ⟨wd,hwd⟩:=Ky wt.drew
    rw [←hwd] at hHeld ⊢
    have BD:=Kz (show Below wt.heap.size wt wd from by rw [hwd];exact (Kai _ _).drew)
    clear hwd
    refine tk 0 ?_
    simp only [tkS]
    refine tk 1 ?_
    simp only [tkS]
    refine tk 2 ?_
    simp only [tkS]
    refine tk 3 ?_
    simp only [tkS]
    refine tk 4 ?_
    simp only [tkS]
    refine tk 5 ?_
    simp only [tkS]
    refine tk 6 ?_
    simp only [tkS]
    refine tk 7 ?_
    simp only [tkS]
    refine tk 8 ?_
    simp only [tkS]
    refine tk 9 ?_
    simp only [tkS]
    refine tk 10 ?_
    simp only [tkS]
    have HMD:=Kz ((HMt.o.next BD.o).lett (SV:=.slice (some ⟨b,o,none⟩) ns sc) (ec:=ec) rfl HNE.o (by omega) (((HBB.o wd (HB3.o.trans ((HB3t.o.trans (BD.o.mono (Kah HBw.o HB3t.o.size))).mono HBW.o))).2.1).more HBW.o) HNU.o (HSH4.o.below (HB3t.o.trans (BD.o.mono (Kah HBw.o HB3t.o.size)))) (HSLn.o) HEX.o HAE.o (root:=rt) HLT.o.1 HIX.o.wf HIX.o.nm (fun W hW=>HGB.o W ((HB3t.o.trans (BD.o.mono (Kah HBw.o HB3t.o.size))).trans hW)) (by have:=HIX.o.l64;rw [Kak] at this;omega))
    refine Kr 11 fun K hK=>?_
    go_simp
    go_at_call 65
    refine HMD.o.mono ?_
    rintro e w7 ⟨NA2,nc2,ms2,hms2,rfl,hm7,hk7⟩
    have HM7:=Kz hm7
    have HMS:=Kz hms2
    have HK7:=Kz ((KD.of BD.o).trans hk7)
    clear hm7 hms2 hk7 HMD
    obtain ⟨pp,hpp⟩:=Ky ((letD f s es shF names (Zac es rt) (ms.map Prod.fst) (rt+1)).2 rt)
    rw [←hpp]
    have HPP:=Kz hpp
    clear hpp
    refine hK.out _ _ (HSC.o _ HK7.o HM7.o.st.cells.2.2.2.2.2.2.2.1) (fun hHeld => ?_)
    clear hK K
    try simp only [tkS]
    obtain ⟨ob8,hob8⟩:=pl_store_all HM7.o.st.hn dn pp HLT.o.2
    have hup:=(hob8 w7 rfl).1
    refine Kr 12 fun K hK=>?_
    go_simp
    obtain ⟨w8,hw8⟩:=Ky ({ w7 with heap:=w7.heap.setIfInBounds B ob8 })
    rw [←hw8]
    have HM8:=Kz (show BldM wq w8 B cb B f s d NA2 nc2 ms2 OA oc outs I0 I1 m0 p0 m1 p1 (names++[(dn,pp)]) nx i0 i1 from by rw [hw8];exact HM7.o.name (hob8 w7 rfl).2)
    have hs8:∀ q,q≠B→w8.heap[q]?=w7.heap[q]?:=fun q hq=>by rw [hw8];show (w7.heap.setIfInBounds B ob8)[q]?=_;rw [Array.getElem?_setIfInBounds_ne (fun e=>hq e.symm)]
    have HE8:=Kz ((hs8 eb (fun e=>HEBB.o e.symm)).trans (HK7.o.2 _ _ HE.o ⟨by decide,by decide⟩))
    have HT8:=Kz ((hs8 tb (by have:=HTL.o;omega)).trans (HK7.o.2 _ _ ((HB3t.o.block tb HTL.o).trans HA3.o) ⟨by decide,by decide⟩))
    clear hw8 hup hob8 hs8
    refine hK.out _ _ (by have hE:=HE8.o;have hT:=HT8.o;exact ⟨HM8.o.st.cells.2.2.2.2.2.2.2.1,Kaa 2 hE,Kaa 4 hE,Kaa 0 hT,Kaa 1 hT⟩) (fun hHeld => ?_)
    clear hK K
    try simp only [tkS]
    refine Kq ?_
    go_upto_region 27 with fail
    have HQ:=Kz (show ms2.map Prod.fst=(letD f s es shF names (Zac es ((rt:Int)).toNat) (ms.map Prod.fst) (((rt:Int)).toNat+1)).1 from HMS.o)
    have HPQ:=Kz (show pp=(letD f s es shF names (Zac es ((rt:Int)).toNat) (ms.map Prod.fst) (((rt:Int)).toNat+1)).2 ((rt:Int)).toNat from HPP.o)
    have y3:=HM8.o.st.cells.2.2.2.1
    have HB3w:=Kz (HB3q.o.trans HM8.o.below)
    by_cases h64:64<ms2.length
    ·have q6:decide ((64:Int)<(ms2.length:Int))=true:=by simp;omega
     have q6':decide ((ms2.length:Int) > 64)=true:=q6
     have HZ:=Kz (build_full (d:=d) HCC.o HCB64.o (by rw [HIX.o.let_eq rfl rfl,if_pos (by rw [←HQ.o,Kak];exact h64)]))
     have HWR:=Kz (ZdE 160 dagN (ms2.length:Int) w8 (HGB.o _ HB3w.o))
     have y3':=y3
     go_wp2_with (go_at_call 53;refine HWR.o.mono ?_;rintro e w9 ⟨ve,rfl,hve,hb9⟩;have HB9:=Kz (HB3w.o.trans (hb9.mono (Kah HBw.o HB3w.o.size)));have r9:=HRC.o _ HB9.o;have r0:=Kaa 0 r9;have r1:=Kaa 1 r9;have r2:=Kaa 2 r9;have r3:=Kaa 3 r9;have fr:∀ k,w9.frozen? ⟨rb,k,none⟩=false:=(fun k=>(by simp [World.frozen?,r9])))
     obtain ⟨wf,hwf⟩:=Ky (set4 w9 rb (.slice none 0 0) (.slice none 0 0) (.slice none 0 0) (.slice none 0 0))
     have hfr:=set4_row (a:=.slice none 0 0) (b:=.slice none 0 0) (c:=.slice none 0 0) (d:=.slice none 0 0) r9
     rw [←hwf] at hfr
     have d0:=Kaa 0 hfr
     have d1:=Kaa 1 hfr
     have d2:=Kaa 2 hfr
     have d3:=Kaa 3 hfr
     have HBO:=Kz (build_err (ss:=ss) HZ.o (HB3.o.trans (HB9.o.mono HBW.o)) HRL.o r9 hve)
     rw [←hwf] at HBO
     unfold set4 at hwf
     rw [←hwf]
     clear hwf r0 r1 r2 r3 fr
     exact bodyPost_ret (v:=.tuple #[.agg #[.slice none 0 0,.slice none 0 0,.slice none 0 0,.slice none 0 0],ve]) (by simp [results,Tryz.results34,go_sem,d0,d1,d2,d3]) rfl HBO.o
    ·have q6:decide ((64:Int)<(ms2.length:Int))=false:=by simp;omega
     have q6':decide ((ms2.length:Int) > 64)=false:=q6
     obtain ⟨sn',hI'⟩:=(show ∃ sn',BldInv f s ss es shF (ss.drop (k+1)) (names++[(dn,pp)]) sn' (ms2.map Prod.fst) i0 i1 outs from by rw [HPQ.o,HQ.o];exact HIX.o.let_next HEX.o HAE.o rfl rfl (by rw [←HQ.o,Kak];exact h64))
     have HI':=Kz hI'
     clear hI' h64
     go_wp2_with fail
     exact ⟨⟨k+1,NA2,nc2,ms2,OA,oc,outs,(names++[(dn,pp)]),sn',i0,i1,by omega,rfl,by omega,by omega,by (try rw [List.length_append,List.length_singleton]);omega,HI'.o,HM8.o⟩,by simp [intOf];omega⟩
  obtain rfl:ns=k:=by omega
  have HII:=Kz (show BldInv f s ss es shF [] names sn (ms.map Prod.fst) i0 i1 outs from by
   have h:=HI.o
   rw [HNS.o,List.drop_length] at h
   exact h)
  have HF:=Kz HII.o.fin
  have o2:=HOC.o _ HB3r.o
  have hml:ms.length≤64:=by have:=HII.o.l64;rwa [Kak] at this
  clear hlt hk hi0 hi1
  cases d with
  | false=>
   have HZ:=Kz (show buildD f s false ss es=.inl (ms.map Prod.fst,outs) from build_done HCC.o HCB64.o HF.o)
   have y3:=HM.o.st.cells.2.2.2.1
   have y4:=HM.o.st.cells.2.2.2.2.1
   have y5:=HM.o.st.cells.2.2.2.2.2.1
   have y6:=HM.o.st.cells.2.2.2.2.2.2.1
   have r9:=HRC.o _ HB3r.o
   have r0:=Kaa 0 r9
   have r1:=Kaa 1 r9
   have r2:=Kaa 2 r9
   have r3:=Kaa 3 r9
   have fr:∀ k,wr.frozen? ⟨rb,k,none⟩=false:=(fun k=>(by simp [World.frozen?,r9]))
   go_wp2_with fail
   obtain ⟨wf,hwf⟩:=Ky (set4 wr rb (.slice NA ms.length nc) (.slice OA outs.length oc) (.slice I0 m0 p0) (.slice I1 m1 p1))
   have hfr:=set4_row (a:=.slice NA ms.length nc) (b:=.slice OA outs.length oc) (c:=.slice I0 m0 p0) (d:=.slice I1 m1 p1) r9
   rw [←hwf] at hfr
   have d0:=Kaa 0 hfr
   have d1:=Kaa 1 hfr
   have d2:=Kaa 2 hfr
   have d3:=Kaa 3 hfr
   have HBO:=Kz (build_ok (ss:=ss) HZ.o rfl (HB3.o.trans (HB3r.o.mono HBW.o)) HBW.o HRL.o HM.o.st (HM.o.kg.inRow HGM.o HRQ0.o) (HM.o.kg.inRow HGM.o HRQ1.o) r9)
   rw [←hwf] at HBO
   unfold set4 at hwf
   rw [←hwf]
   clear hwf r0 r1 r2 r3 fr
   exact bodyPost_ret (v:=.tuple #[.agg #[.slice NA ms.length nc,.slice OA outs.length oc,.slice I0 m0 p0,.slice I1 m1 p1],.nilIface]) (by simp [results,Tryz.results34,go_sem,d0,d1,d2,d3]) rfl HBO.o
  | true=>
   have HZ:=Kz (show buildD f s true ss es=.inl ((dropD (ms.map Prod.fst) outs).1,(dropD (ms.map Prod.fst) outs).2) from build_done HCC.o HCB64.o HF.o)
   have HDR:=Kz (drop_any (Zae ss 0) (Zae ss 1) B cb B f s true NA nc ms OA oc outs I0 I1 m0 p0 m1 p1 names wr HM.o.st HII.o.wf (fun o ho=>by have:=HII.o.ob o ho;rwa [Kak] at this) (by omega) (by omega))
   go_wp2_with (go_at_call 66;refine HDR.o.mono ?_;rintro e w9 ⟨rfl,NA2,nc2,ms2,outs2,h1,h2,h3,h4,h5⟩;have H2:=Kz h2;clear h2;have HK9:=Kz (KG.drop HM.o.kg h5 HM.o.far HCBQ.o);have HB9:=Kz (HB3r.o.trans h4);have HS9:=Kz h3;have y3:=h3.cells.2.2.2.1;have y4:=h3.cells.2.2.2.2.1;have y5:=h3.cells.2.2.2.2.2.1;have y6:=h3.cells.2.2.2.2.2.2.1;have r9:=HRC.o _ HB9.o;have r0:=Kaa 0 r9;have r1:=Kaa 1 r9;have r2:=Kaa 2 r9;have r3:=Kaa 3 r9;have fr:∀ k,w9.frozen? ⟨rb,k,none⟩=false:=(fun k=>(by simp [World.frozen?,r9])))
   obtain ⟨wf,hwf⟩:=Ky (set4 w9 rb (.slice NA2 ms2.length nc2) (.slice OA outs2.length oc) (.slice I0 m0 p0) (.slice I1 m1 p1))
   have hfr:=set4_row (a:=.slice NA2 ms2.length nc2) (b:=.slice OA outs2.length oc) (c:=.slice I0 m0 p0) (d:=.slice I1 m1 p1) r9
   rw [←hwf] at hfr
   have d0:=Kaa 0 hfr
   have d1:=Kaa 1 hfr
   have d2:=Kaa 2 hfr
   have d3:=Kaa 3 hfr
   have HBO:=Kz (build_ok (ss:=ss) (outs:=outs2) (r:=buildD f s true ss es) (by rw [HZ.o,←H2.o]) h1 (HB3.o.trans (HB9.o.mono HBW.o)) HBW.o HRL.o HS9.o (HK9.o.inRow HGM.o HRQ0.o) (HK9.o.inRow HGM.o HRQ1.o) r9)
   rw [←hwf] at HBO
   unfold set4 at hwf
   rw [←hwf]
   clear hwf r0 r1 r2 r3 fr
   exact bodyPost_ret (v:=.tuple #[.agg #[.slice NA2 ms2.length nc2,.slice OA outs2.length oc,.slice I0 m0 p0,.slice I1 m1 p1],.nilIface]) (by simp [results,Tryz.results34,go_sem,d0,d1,d2,d3]) rfl HBO.o
end Go.Proofs.YtghlnncfigkkaaaGreatDoor
