/-
 Walk of eval.Eval.
-/
import Derived.Test.YtghlnncfigkkaaaGreatDoorQEvS
import Derived.Test.YtghlnncfigkkaaaGreatDoorQEvB
import Derived.Test.YtghlnncfigkkaaaGreatDoorQEvY
import Derived.Test.YtghlnncfigkkaaaGreatDoorQChkI
import Derived.Deep.DeepCutAuto
set_option maxRecDepth 100000
set_option maxHeartbeats 8000000
open Go.Lib (hid)
set_option linter.unusedVariables false
set_option linter.unusedSimpArgs false
namespace Go.Proofs.YtghlnncfigkkaaaGreatDoor
open Go.RowKit
def evalN:ByteArray:=⟨#[101,118,97,108]⟩
def ZiF (w:World) (r:Sum (List TN) (Nat × Int × Bool)) (e:Ending) (w':World):Prop:=
 Below w.heap.size w w' ∧
 match r with
 | .inl outs=>∃ A c,e=.returned (.tuple #[.slice A outs.length c,.nilIface])∧OutT w' w.heap.size A outs.length c outs
 | .inr (c,p,b)=>∃ v,e=.returned (.tuple #[.slice none 0 0,v])∧IsErr w' v [(if b then evalN else chkN,p)] c
theorem Zh7 (A A':Option Addr) (n n' c c':Nat) (w:World):(Instr.index 63 (.agg #[.slice A n c,.slice A' n' c']) (.int .i64 0)).run Tryz.prog w=.ok (.slice A n c) w:=by kernel_rfl
theorem Zh8 (A A':Option Addr) (n n' c c':Nat) (w:World):(Instr.index 63 (.agg #[.slice A n c,.slice A' n' c']) (.int .i64 1)).run Tryz.prog w=.ok (.slice A' n' c') w:=by kernel_rfl
theorem InRow.rd {w:World} {B:Nat} {A:Option Addr} {n c:Nat} {l:List (List Int)} (h:InRow w B A n c l) (hl:∀ s∈l,s.length≤1000000):RdSh w A l∧n=l.length:=by
 obtain ⟨vs,h1,h2,h3,h4⟩:=h
 refine ⟨?_,by omega⟩
 rcases h2.rd with h | ⟨b,o,hA,hb,hc⟩
 ·left
  rw [h] at h3
  exact List.eq_nil_of_length_eq_zero h3.symm
 ·refine .inr ⟨b,o,hA,hb,fun j x hx => ?_⟩
  have hj:j<vs.length:=by have:=(Kaf.1 hx).1;omega
  obtain ⟨A',c',e,ho⟩:=h4 j _ x (Kad hj) hx
  refine ⟨A',c',?_,ho.rd,hl x (Kam hx)⟩
  rw [hc j _ (Kad hj),e]
theorem ZbR (ss:List SI) (p:Int):(Zae ss p).length≤ss.length:=by
 unfold Zae
 rw [Kak]
 exact List.length_filter_le _ _
theorem Zcq {ss:List SI} {p:Int} {x:List Int} (h:x∈Zae ss p):∃ s∈ss,x=s.shape:=by
 unfold Zae at h
 obtain ⟨s,hs,rfl⟩:=List.mem_map.1 h
 exact ⟨s,(List.mem_filter.1 hs).1,rfl⟩
attribute [local go_sem] Zh7 Zh8
theorem Zf6 (SA EA:Option Addr) (ns ne sc ec:Nat) (ss:List SI) (es:List EI) (I0 I1:Option Addr) (m0 m1 k0 k1:Nat) (in0 in1:List TN) (w:World) (hns:ns=ss.length) (hne:ne=es.length) (hl1:ns≤100000) (hl2:ne≤100000)
  (h1:RdSI w w.heap.size SA ss) (h3:RdEI w w.heap.size EA es) (hg:ETyped w) (hnum:∀ e∈es,e.num≤18446744073709551615) (hsm:∀ s∈ss,s.shape.length≤1000000)
  (hm0:m0=in0.length) (hm1:m1=in1.length) (hk0:m0≤1000000) (hk1:m1≤1000000) (hi0:RdTN w w.heap.size I0 in0) (hi1:RdTN w w.heap.size I1 in1):
  Calls Tryz.prog 23 #[.agg #[.slice SA ns sc,.slice EA ne ec],.agg #[.slice I0 m0 k0,.slice I1 m1 k1]] w (ZiF w (evalE ss es in0 in1)):=by
 obtain ⟨w2,hw2⟩:∃ w2,w2=(w.alloc (.cells #[.slice SA ns sc,.slice EA ne ec] 26)).alloc (.cells #[.slice I0 m0 k0,.slice I1 m1 k1] 45):=⟨_,rfl⟩
 have hb2:Below w.heap.size w w2:=by rw [hw2];exact ((Kai _ _).alloc (Kag _) _).alloc (by simp) _
 have hA:w2.heap[w.heap.size]?=some (.cells #[.slice SA ns sc,.slice EA ne ec] 26 (0,0)):=by
  rw [hw2,Below.heap_alloc _ _ _ (by simp)];exact Kac w _
 have hI:w2.heap[w.heap.size+1]?=some (.cells #[.slice I0 m0 k0,.slice I1 m1 k1] 45 (0,0)):=by
  rw [hw2]
  have:=Kac (w.alloc (.cells #[.slice SA ns sc,.slice EA ne ec] 26)) (.cells #[.slice I0 m0 k0,.slice I1 m1 k1] 45)
  rwa [World.size_alloc] at this
 have HGW:=hid hg.lt
 have HW2:=hid hw2
 have HB2:=hid hb2
 have HNS:=hid hns
 have HNE:=hid hne
 have H1:=hid h1
 have H3:=hid h3
 have HG:=hid hg
 have HNU:=hid hnum
 have HSM:=hid hsm
 have HM0:=hid hm0
 have HM1:=hid hm1
 have HI0:=hid hi0
 have HI1:=hid hi1
 have HCH:=hid (Zi3 SA EA ns ne sc ec ss es w2 hns hne hl1 hl2 (h1.next hb2) (h3.next hb2) (hg.next hb2))
 have HAW:=hid (fun W (hW:Below w2.heap.size w2 W)=>(hW.block _ (Kab.1 hA).1).trans hA)
 have HIW:=hid (fun W (hW:Below w2.heap.size w2 W)=>(hW.block _ (Kab.1 hI).1).trans hI)
 have z0:=Kaa _ _ 0 _ _ _ hA
 have z1:=Kaa _ _ 1 _ _ _ hA
 have HLI:=hid (Kab.1 hI).1
 clear hw2 hb2 hA hI hns hne h1 h3 hg hnum hsm hm0 hm1 hi0 hi1
 cases hcc:ZaA ss es with
 | inr r=>
  obtain ⟨cc,cp⟩:=r
  rw [hcc] at HCH
  have HZ:=hid (show evalE ss es in0 in1=.inr (cc,cp,false) from by unfold evalE;rw [hcc])
  clear hcc
  go_enter Tryz.func23,Tryz.ntmps23
  go_wp2_with fail
  rw [←HW2.out]
  go_wp2_with (go_at_call 51;refine HCH.out.mono ?_;rintro e w3 ⟨hb3,ve,rfl,hve⟩;obtain ⟨ti,xi,rfl,hve⟩:=(show ∃ ti xi,ve=.iface ti xi∧IsErr w3 ve [(chkN,cp)] cc from by obtain ⟨ti,xi,h⟩:=hve.iface;exact ⟨ti,xi,h,hve⟩))
  go_ret2
  refine ⟨bnext HB2.out hb3,?_⟩
  rw [HZ.out]
  exact ⟨_,rfl,hve⟩
 | inl shF=>
  rw [hcc] at HCH
  have HCC:=hid hcc
  have HEV:=hid (show evalE ss es in0 in1=if fitT (Zae ss 0) in0=false then .inr (201,0,true) else if fitT (Zae ss 1) in1=false then .inr (201,1,true) else .inl (ZaJ es shF in0 in1 ss [] (fun _=>zTN) 0 0 []) from by unfold evalE;rw [hcc])
  clear hcc
  go_enter Tryz.func23,Tryz.ntmps23
  go_wp2_with fail
  rw [←HW2.out]
  refine HCH.out.mono ?_
  rintro e w3 ⟨hb3,q,rfl,hsh⟩
  have HB3:=hid hb3
  have HB30:=hid (bnext HB2.out hb3)
  have HSH:=hid hsh
  have a3:=HAW.out _ hb3
  have y0:=Kaa _ _ 0 _ _ _ a3
  have y1:=Kaa _ _ 1 _ _ _ a3
  have HIN:=hid (Zep SA EA ns ne sc ec ss w3 HNS.out hl1 ((H1.out.below HB30.out).more HB30.out.size) HSM.out)
  clear z0 z1 hb3 hsh a3
  go_wp2_with (go_at_call 32;refine HIN.out.mono ?_;rintro e w4 ⟨hb4,A0,n0,c0,A1,n1,c1,rfl,hr0,hr1⟩;have HB4:=hid hb4;have HR0:=hid (hr0.rd (fun x hx=>by obtain ⟨y,hy,rfl⟩:=Zcq hx;exact HSM.out y hy));have HR1:=hid (hr1.rd (fun x hx=>by obtain ⟨y,hy,rfl⟩:=Zcq hx;exact HSM.out y hy));clear hb4 hr0 hr1)
  have HB40:=hid (bnext HB30.out HB4.out)
  have HB42:=hid (bnext HB3.out HB4.out)
  clear y0 y1
  go_loopw [26] (fun iv wr=>Below w4.heap.size w4 wr∧(iv=.int .i64 0∨(iv=.int .i64 1∧fitT (Zae ss 0) in0=true)∨(iv=.int .i64 2∧fitT (Zae ss 0) in0=true∧fitT (Zae ss 1) in1=true))) (fun iv _=>2-(intOf iv).toNat)
  case atStart=>exact ⟨Kai _ _,.inl rfl⟩
  case round=>
   obtain ⟨hb,hcs⟩:=hrel
   have HB5:=hid hb
   have i5:=HIW.out _ (bnext HB42.out hb)
   have y0:=Kaa _ _ 0 _ _ _ i5
   have y1:=Kaa _ _ 1 _ _ _ i5
   have HBW5:=hid (bnext HB40.out hb)
   have HG5:=hid (HG.out.far HGW.out HBW5.out)
   clear hb i5
   rcases hcs with rfl | ⟨rfl,hf0⟩ | ⟨rfl,hf0,hf1⟩
   ·have HEI:=hid (ZdP A0 I0 n0 m0 c0 k0 (Zae ss 0) in0 wr HR0.out.2 HM0.out (by have:=ZbR ss 0;have:=HR0.out.2;have:=HNS.out;omega) hk0 (HR0.out.1.next HB5.out) ((HI0.out.below HBW5.out).more HBW5.out.size))
    cases hf:fitT (Zae ss 0) in0 with
    | true=>
     rw [hf] at HEI
     have HF:=hid hf
     clear hf
     go_wp2_with (go_at_call 52;refine HEI.out.mono ?_;rintro e w6 ⟨rfl,b6⟩;have B6:=hid b6;clear b6)
     exact ⟨⟨bnext HB5.out B6.out,.inr (.inl ⟨rfl,(by first | trivial | exact HF.out)⟩)⟩,by simp [intOf]⟩
    | false=>
     rw [hf] at HEI
     have HZ:=hid (show evalE ss es in0 in1=.inr (201,0,true) from by rw [HEV.out,if_pos hf])
     have HWR:=hid (fun W (hW:Below wr.heap.size wr W)=>ZdE 201 evalN 0 W (HG5.out.next hW))
     unfold evalN at HWR
     clear hf
     go_wp2_with (first
      | (go_at_call 52;refine HEI.out.mono ?_;rintro e w6 ⟨rfl,b6⟩;have B6:=hid b6;clear b6)
      | (go_at_call 53;refine (HWR.out _ B6.out).mono ?_;rintro e w7 ⟨ve,rfl,hve,b7⟩))
     go_ret2
     refine ⟨bnext (bnext HBW5.out B6.out) b7,?_⟩
     rw [HZ.out]
     exact ⟨_,rfl,hve⟩
   ·have HEI:=hid (ZdP A1 I1 n1 m1 c1 k1 (Zae ss 1) in1 wr HR1.out.2 HM1.out (by have:=ZbR ss 1;have:=HR1.out.2;have:=HNS.out;omega) hk1 (HR1.out.1.next HB5.out) ((HI1.out.below HBW5.out).more HBW5.out.size))
    have HF0:=hid hf0
    clear hf0
    cases hf:fitT (Zae ss 1) in1 with
    | true=>
     rw [hf] at HEI
     have HF:=hid hf
     clear hf
     go_wp2_with (go_at_call 52;refine HEI.out.mono ?_;rintro e w6 ⟨rfl,b6⟩;have B6:=hid b6;clear b6)
     exact ⟨⟨bnext HB5.out B6.out,.inr (.inr ⟨rfl,HF0.out,(by first | trivial | exact HF.out)⟩)⟩,by simp [intOf]⟩
    | false=>
     rw [hf] at HEI
     have HZ:=hid (show evalE ss es in0 in1=.inr (201,1,true) from by rw [HEV.out,if_neg (by rw [HF0.out];decide),if_pos hf])
     have HWR:=hid (fun W (hW:Below wr.heap.size wr W)=>ZdE 201 evalN 1 W (HG5.out.next hW))
     unfold evalN at HWR
     clear hf
     go_wp2_with (first
      | (go_at_call 52;refine HEI.out.mono ?_;rintro e w6 ⟨rfl,b6⟩;have B6:=hid b6;clear b6)
      | (go_at_call 53;refine (HWR.out _ B6.out).mono ?_;rintro e w7 ⟨ve,rfl,hve,b7⟩))
     go_ret2
     refine ⟨bnext (bnext HBW5.out B6.out) b7,?_⟩
     rw [HZ.out]
     exact ⟨_,rfl,hve⟩
   ·have HF0:=hid hf0
    have HF1:=hid hf1
    have HEV2:=hid (show evalE ss es in0 in1=.inl (ZaJ es shF in0 in1 ss [] (fun _=>zTN) 0 0 []) from by rw [HEV.out,if_neg (by rw [hf0];decide),if_neg (by rw [hf1];decide)])
    clear hf0 hf1 y0 y1
    obtain ⟨w5,hw5⟩:∃ w5,w5=wr:=⟨_,rfl⟩
    rw [←hw5] at HB5 HBW5 HG5 ⊢
    have a5:=HAW.out _ (bnext HB42.out HB5.out)
    have y0:=Kaa _ _ 0 _ _ _ a5
    have y1:=Kaa _ _ 1 _ _ _ a5
    have hmm := @run_makeMap Tryz.prog
    have hmk:=fun W=>Zdu ne (by omega) W (ne:Int) rfl
    have hlt5:w.heap.size<w5.heap.size:=(Kab.1 a5).1
    have hne3:w.heap.size≠w5.heap.size:=by omega
    have hne4:w.heap.size≠w5.heap.size+1:=by omega
    have HA5:=hid a5
    have hb35:Below w3.heap.size w3 w5:=bnext HB4.out HB5.out
    have HNW:=hid (show ∀ (cb g vg:Nat) (wx:World),w5.heap.size≤cb→w5.heap.size≤g→w5.heap.size≤vg→cb≠g→cb≠vg→g≠vg→wx.heap[cb]?=some (.cells #[.slice SA ns sc,.slice EA ne ec,.map (some g),.slice (some ⟨vg,0,none⟩) ne ne,.slice (some ⟨q,0,none⟩) ne ne] 113 (0,0))→wx.heap[g]?=some (.map #[] 0)→wx.heap[vg]?=some (.cells (Array.replicate (ne*2) (Value.slice none 0 0)) 43 (0,0))→Below w5.heap.size w5 wx→EvNew w5 w.heap.size [] SA EA (some ⟨q,0,none⟩) ns sc ne ec shF (.pointer (some ⟨cb,0,none⟩)) wx from fun cb g vg wx e1 e2 e3 e4 e5 e6 e7 e8 e9 e10=>by
     obtain ⟨svs,s1,s2,s3,s4,_⟩:=HSH.out
     have hq3:q<w3.heap.size:=(Kab.1 s1).1
     have hlen:shF.length=ne:=by rw [HNE.out];exact (ZbI HCC.out).2.2
     refine evnew HBW5.out.size e1 e2 e3 e4 e5 e6 (Rd.of_block (l:=svs) ((hb35.block q hq3).trans s1) (Kae hq3 hb35.size) (by simp)) (by rw [s3];exact hlen) hlen (fun j v l hv hl => ?_) e7 e8 e9 e10
     obtain ⟨q0,A,c,e,ho⟩:=s4 j v l hv hl
     have ho5:=ho.next hb35
     have hcp:=Zfl ho5
     rw [Kak] at hcp
     exact ⟨A,c,e,hcp.2.1,hcp.2.2,q0,ho5.rd⟩)
    clear hw5 a5 hb35
    go_wp2_with fail
    go_cut [10] (fun s wx=>EvNew w5 w.heap.size [] SA EA (some ⟨q,0,none⟩) ns sc ne ec shF s wx)
    case first=>
     go_region
     all_goals
      go_wp2_with fail
      go_meet
      first
       | (obtain ⟨t0,t1,t2,tb⟩:=ZcI w5 (.map #[] 0) (.cells (Array.replicate (ne*2) (Value.slice none 0 0)) 43) (.cells #[.slice SA ns sc,.slice EA ne ec,.map (some w5.heap.size),.slice (some ⟨w5.heap.size+1,0,none⟩) ne ne,.slice (some ⟨q,0,none⟩) ne ne] 113);exact HNW.out _ _ _ _ (by omega) (by omega) (by omega) (by omega) (by omega) (by omega) t2 t0 t1 tb)
       | (obtain ⟨t0,t1,t2,tb⟩:=ZcI w5 (.cells (Array.replicate (ne*2) (Value.slice none 0 0)) 43) (.map #[] 0) (.cells #[.slice SA ns sc,.slice EA ne ec,.map (some (w5.heap.size+1)),.slice (some ⟨w5.heap.size,0,none⟩) ne ne,.slice (some ⟨q,0,none⟩) ne ne] 113);exact HNW.out _ _ _ _ (by omega) (by omega) (by omega) (by omega) (by omega) (by omega) t2 t1 t0 tb)
    case rest=>
     obtain ⟨cb,g,vg,rfl,hS,hb,hge1,hge2,hge3⟩:=hcut
     have hib5:w.heap.size+1<w5.heap.size:=Kae HLI.out (bnext HB42.out HB5.out).size
     obtain ⟨w6,hw6⟩:∃ w6,w6=wc:=⟨_,rfl⟩
     rw [←hw6] at hS hb ⊢
     have hA6:=(hb.block _ hlt5).trans HA5.out
     obtain ⟨w7,hw7⟩:∃ w7,w7=w6.alloc (.cells #[.int .i64 0,.int .i64 0] 114):=⟨_,rfl⟩
     have hb7:Below w6.heap.size w6 w7:=by rw [hw7];exact (Kai _ _).alloc (Kag _) _
     have v0:=(Kaa _ _ 0 _ _ _ ((hb7.block _ (Kab.1 hA6).1).trans hA6))
     rw [hw7] at v0
     have hnb:w7.heap[w6.heap.size]?=some (.cells #[.int .i64 0,.int .i64 0] 114 (0,0)):=by rw [hw7];exact Kac w6 _
     have HW7:=hid hw7
     have HB7:=hid (bnext (bnext HBW5.out hb) hb7)
     have HI7:=hid (HIW.out _ (bnext (bnext (bnext HB42.out HB5.out) hb) hb7))
     have HNB:=hid hnb
     have HS7:=hid (hS.turn (w':=w7) (Z':=[w6.heap.size]) hb7.size (fun k hk _=>hb7.block k hk) (fun k hk=>by rw [List.mem_singleton.1 hk];exact ⟨.inr (Kag _),(Kab.1 hnb).1⟩))
     have hix:¬ evX cb g vg [w6.heap.size] (w.heap.size+1):=fun hx=>by
      rcases hx with e | e | e | e
      ·omega
      ·omega
      ·omega
      ·have:=List.mem_singleton.1 e
       have:=hb.size
       omega
     obtain ⟨nb,hnbe⟩:∃ nb,nb=w6.heap.size:=⟨_,rfl⟩
     rw [←hnbe] at HNB HS7 hix
     have HIX:=hid hix
     have HNL:=hid (show w.heap.size≤nb from by rw [hnbe];exact (bnext HBW5.out hb).size)
     have HNI:=hid (show nb≠w.heap.size+1 from by rw [hnbe];have:=HLI.out;have:=(bnext (bnext HB42.out HB5.out) hb).size;omega)
     have HST:=hid (show Zas es shF ss []∧Ahead es from ⟨(ZbI HCC.out).2.1,(ZbI HCC.out).1⟩)
     clear hge1 hge2 hge3 hib5 y0 y1 hne3 hne4 hmm hmk hw6 hw7 hb7 hnb hix hA6 hS hb HNW HA5 HSH HIN HR0 HR1 HCH HAW HIW hlt5
     go_wp2_with fail
     rw [←HW7.out,←hnbe]
     clear v0 hnbe
     go_loopw [12,52] (fun ov iv wr=>∃ (k i0 i1:Nat) (names:Zah) (V:Nat→TN) (A:Option Addr) (no c:Nat) (out:List TN),k≤ns∧iv=.int .i64 k∧ov=.slice A no c∧no=out.length∧no≤k∧ZaJ es shF in0 in1 ss [] (fun _=>zTN) 0 0 []=ZaJ es shF in0 in1 (ss.drop k) names V i0 i1 out∧Zas es shF (ss.drop k) (shN names)∧Left (ss.drop k) 0 in0 i0∧Left (ss.drop k) 1 in1 i1∧EvSt wr w.heap.size cb g vg (nb::(blk A).toList) SA EA (some ⟨q,0,none⟩) ns sc ne ec names V shF∧Below w.heap.size w wr∧OutT wr w.heap.size A no c out∧wr.heap[nb]?=some (.cells #[.int .i64 i0,.int .i64 i1] 114 (0,0))∧wr.heap[w.heap.size+1]?=some (.cells #[.slice I0 m0 k0,.slice I1 m1 k1] 45 (0,0))∧¬ evX cb g vg (nb::(blk A).toList) (w.heap.size+1)∧(∀ q,blk A=some q→q≠nb)) (fun _ iv _=>ns-(intOf iv).toNat)
     case atStart=>exact ⟨0,0,0,[],fun _=>zTN,none,0,0,[],by omega,rfl,rfl,rfl,by omega,rfl,HST.out.1,by unfold Left;rw [List.drop_zero,List.drop_zero];exact (Zb0 HF0.out).1,by unfold Left;rw [List.drop_zero,List.drop_zero];exact (Zb0 HF1.out).1,HS7.out,HB7.out,OutT.nil _ _,HNB.out,HI7.out,HIX.out,fun q hq=>by cases hq⟩
     case round=>
      clear HS7 HB7 HI7 HNB HIX
      obtain ⟨k,i0,i1,names,V,A,no,c,out,hk,rfl,rfl,hno,hnk,hR,hSO,hL0,hL1,hS,hB,hO,hnb,hib,hix,han⟩:=hrel
      have HR:=hid hR
      have HSO:=hid hSO
      have HL0:=hid hL0
      have HL1:=hid hL1
      have HS:=hid hS
      have HB:=hid hB
      have HO:=hid hO
      have HNB:=hid hnb
      have HIB:=hid hib
      have HIX:=hid hix
      have HNO:=hid hno
      have HAN:=hid han
      clear hR hSO hL0 hL1 hS hB hO hnb hib hix hno han
      by_cases hlt:k<ns
      ·have ht:ss[k]?=some (ss[k]'(by rw [←HNS.out];exact hlt)):=Kad _
       obtain ⟨d,hd⟩:∃ d,d=ss[k]'(by rw [←HNS.out];exact hlt):=⟨_,rfl⟩
       rw [←hd] at ht
       have hdr:ss.drop k=d::ss.drop (k+1):=by
        obtain ⟨hi,he⟩:=Kaf.1 ht
        rw [List.drop_eq_getElem_cons hi,he]
       have hso:=HSO.out
       have hl0:=HL0.out
       have hl1:=HL1.out
       have hR:=HR.out
       rw [hdr] at hso hl0 hl1 hR
       have hsmk:smOk es.length d=true:=by
        have:=(Zbz HCC.out).1
        unfold treeP at this
        rw [Bool.and_eq_true,List.all_eq_true] at this
        exact this.2 d (Kam ht)
       obtain ⟨b,o,rfl,hbl,c0,c1,c2,⟨A',c',c3,c3r,c3n,c3c,c3d⟩,c4,c5⟩:=(H1.out.below HB.out).at_ ht
       have j0:(0:Int)≤(k:Int):=by omega
       have j1:(k:Int)<(ns:Int):=by omega
       obtain ⟨dk,dp,dn,dsh,de,dq⟩:=d
       dsimp only at c0 c1 c2 c3 c3r c3n c3c c4 c5
       obtain ⟨sl,hsl⟩:∃ sl,sl=dsh.length:=⟨_,rfl⟩
       rw [←hsl] at c3 c3n c3c
       obtain ⟨w4,hw4⟩:∃ w4,w4=wr.alloc (.cells #[.int .i64 dk,.int .i64 dp,.string dn,.slice A' sl c',.int .i64 de,.int .i64 dq] 93):=⟨_,rfl⟩
       have b4:Below wr.heap.size wr w4:=by rw [hw4];exact (Kai _ _).alloc (Kag _) _
       have hE:w4.heap[wr.heap.size]?=some (.cells #[.int .i64 dk,.int .i64 dp,.string dn,.slice A' sl c',.int .i64 de,.int .i64 dq] 93 (0,0)):=by rw [hw4];exact Kac wr _
       have HW4:=hid hw4
       have HS4:=hid (HS.out.next b4)
       have HB4:=hid (bnext HB.out b4)
       have HO4:=hid (HO.out.next b4)
       have hnbl:=(Kab.1 HNB.out).1
       have hibl:=(Kab.1 HIB.out).1
       have HNB4:=hid ((b4.block nb hnbl).trans HNB.out)
       have HIB4:=hid ((b4.block _ hibl).trans HIB.out)
       obtain ⟨eb,heb⟩:∃ eb,eb=wr.heap.size:=⟨_,rfl⟩
       rw [←heb] at hE
       have HEB:=hid heb
       have hebx:¬ evX cb g vg (nb::(blk A).toList) eb:=fun hx=>by have:=HS.out.lt _ hx;omega
       have heb4:eb<w4.heap.size:=(Kab.1 hE).1
       have hnz:=HS.out.hz nb (by simp)
       have HKE:=hid (show ∀ (w':World),(∀ k,k<w4.heap.size→k≠g→k≠vg→w'.heap[k]?=w4.heap[k]?)→w'.heap[eb]?=some (.cells #[.int .i64 dk,.int .i64 dp,.string dn,.slice A' sl c',.int .i64 de,.int .i64 dq] 93 (0,0))∧w'.heap[nb]?=some (.cells #[.int .i64 i0,.int .i64 i1] 114 (0,0))∧w'.heap[w.heap.size+1]?=some (.cells #[.slice I0 m0 k0,.slice I1 m1 k1] 45 (0,0)) from fun w' h=>⟨(h eb heb4 (fun e=>hebx (.inr (.inl e))) (fun e=>hebx (.inr (.inr (.inl e))))).trans hE,(h nb (Kae hnbl b4.size) hnz.2.2.2.1 hnz.2.2.2.2).trans HNB4.out,(h _ (Kae hibl b4.size) (fun e=>HIX.out (.inr (.inl e))) (fun e=>HIX.out (.inr (.inr (.inl e))))).trans HIB4.out⟩)
       have HEZ:=hid (show eb≠nb∧eb≠w.heap.size+1∧nb≠w.heap.size+1∧w.heap.size≤nb∧w.heap.size≤eb from ⟨by omega,by omega,HNI.out,HNL.out,by rw [heb];exact HB.out.size⟩)
       have hdk:dk=1∨dk=3∨dk=2∧0≤de∧de<(es.length:Int):=by
        unfold smOk at hsmk
        simp only [Bool.or_eq_true,Bool.and_eq_true,beq_iff_eq,decide_eq_true_eq] at hsmk
        rcases hsmk with (h | h) | h
        ·exact .inl h
        ·exact .inr (.inl h)
        ·exact .inr (.inr ⟨h.1.1,h.1.2,h.2⟩)
       have HRR:=hid hR
       clear ht hd hdr hsmk hbl b4 hE heb hebx heb4 hnbl hibl hnz hw4 hsl c3r c3n c3c c3d hR
       rcases hdk with rfl | rfl | ⟨rfl,hde0,hde1⟩
       ·have hso1:(dp=0∨dp=1)∧Zad dsh≠0∧ZaC (shN names) dn=false∧Zas es shF (ss.drop (k+1)) (shN names++[(dn,dsh)]):=by
         unfold Zas at hso
         rwa [if_pos rfl] at hso
        obtain ⟨q1,q2,q3,q4⟩:=hso1
        rcases q1 with rfl | rfl
        ·obtain ⟨tsh,tl,til⟩:=hl0.take rfl rfl
         have tls:=hl1.skip (.inr (show ((0:Int))≠1 by decide))
         have hx:in0[i0]?=some (in0[i0]'til):=Kad _
         obtain ⟨x,hxx⟩:∃ x,x=in0[i0]'til:=⟨_,rfl⟩
         rw [←hxx] at hx
         have hgx:in0.getD i0 zTN=x:=by rw [List.getD_eq_getElem?_getD,hx];rfl
         rw [hgx] at tsh
         have hok:TnOk x:=⟨by rw [tsh];exact q2,(Zb0 HF0.out).2 x (Kam hx)⟩
         obtain ⟨bi,oi,hIe,hbi,hta⟩:=(HI0.out.below HB4.out).at_ hx
         obtain ⟨B1,d1,B2,d2,y0,y1,htv⟩:=hta.tnv (X:=evX cb g vg (nb::(blk A).toList)) (ZaX hok.1) HS4.out.ge HB4.out.size
         have hfn:findN (shN names) dn=none:=by
          unfold ZaC at q3
          rw [Bool.or_eq_false_iff] at q3
          cases hf:findN (shN names) dn with
          | none=>rfl
          | some z=>rw [hf] at q3;cases q3.1
         obtain ⟨ob,hob⟩:=HS4.out.store hfn htv hok
         obtain ⟨r1,r2,r3,r4⟩:=hob w4.drew rfl (Kai _ _).drew
         obtain ⟨W8,hW8⟩:∃ W8,W8={ w4.drew with heap:=w4.drew.heap.setIfInBounds g ob }:=⟨_,rfl⟩
         rw [←hW8] at r1 r2 r3 r4
         obtain ⟨e8,n8,b8⟩:=HKE.out W8 (fun k hk hg _=>r3.2 k hk hg)
         obtain ⟨e4',n4',b4'⟩:=HKE.out w4 (fun _ _ _ _=>rfl)
         have z2:=Kaa _ _ 2 _ _ _ HS4.out.hc
         have f0:=Kaa _ _ 0 _ _ _ e4'
         have f1:=Kaa _ _ 1 _ _ _ e4'
         have f2:=Kaa _ _ 2 _ _ _ e4'
         have g1:=Kaa _ _ 1 _ _ _ e8
         have p0:=Kaa _ _ 0 _ _ _ b4'
         have u0:=Kaa _ _ 0 _ _ _ n4'
         have u8:=Kaa _ _ 0 _ _ _ n8
         have fr8:W8.frozen? ⟨nb,0,none⟩=false:=by simp [World.frozen?,n8]
         have mi:i0<m0:=by rw [HM0.out];exact til
         have x0:(0:Int)≤(i0:Int):=by omega
         have x1:(i0:Int)<(m0:Int):=by omega
         have HIE:=hid hIe
         have HXR:=hid (show ZaJ es shF in0 in1 ss [] (fun _=>zTN) 0 0 []=ZaJ es shF in0 in1 (ss.drop (k+1)) (names++[(dn,x)]) V (i0+1) i1 out from by
          rw [HRR.out,ZaJ,if_pos rfl,if_pos rfl,hgx])
         have HSN:=hid (show Zas es shF (ss.drop (k+1)) (shN (names++[(dn,x)])) from by rw [Zbs,tsh];exact q4)
         have HTL:=hid tl
         have HTS:=hid tls
         have R2:=hid r2
         have R3:=hid r3
         have R4:=hid r4
         have HN8:=hid n8
         have HB8:=hid b8
         have HBI:=hid hbi
         subst hIe
         clear tsh tl til tls hx hxx hgx hok hta htv hfn hob r2 r3 r4 hW8 e8 n8 b8 e4' n4' b4' q2 q3 q4 hso hl0 hl1 mi hbi
         go_wp2_with fail
         rw [←HW4.out,←HEB.out]
         go_wp2_with fail
         go_region
         all_goals
          go_wp2
          obtain ⟨W9,hW9⟩:∃ W9,W9=W8.setCell ⟨nb,0,none⟩ (.int .i64 ((i0:Int)+1)):=⟨_,rfl⟩
          have hbk:∀ k,k≠nb→W9.heap[k]?=W8.heap[k]?:=fun k hk=>by rw [hW9];exact ZaS _ _ _ hk
          have hn9:W9.heap[nb]?=some (.cells #[.int .i64 ((i0:Int)+1),.int .i64 ((i1:Int))] 114 (0,0)):=by rw [hW9];simp [World.setCell,Array.getElem?_modify,HN8.out]
          have hs9:W9.heap.size=W8.heap.size:=by rw [hW9];simp [World.setCell]
          have hO9:OutT W9 w.heap.size A no c out:=by
           refine HO4.out.keepT (fun q hq => ?_) (fun q cur T hq hT => ?_)
           ·have hz:=HS4.out.hz q (by rw [hq];simp)
            rw [hbk q (HAN.out q hq),R3.out.2 q hz.2.1 hz.2.2.2.1]
           ·have hql:=(Kab.1 hq).1
            have hqg:q≠g:=fun e=>by
             obtain ⟨nv,⟨es',cl,hm,_⟩,_⟩:=HS4.out.hn
             rw [e,hm] at hq
             cases hq
            have hqn:q≠nb:=fun e=>by
             rw [e,HNB4.out] at hq
             injection hq with hq
             injection hq with _ hq _
             rw [←hq] at hT
             exact absurd hT (by decide)
            rw [hbk q hqn,R3.out.2 q hql hqg]
          try rw [←hW9]
          exact ⟨⟨k+1,(i0+1),i1,_,V,A,no,c,out,by omega,rfl,rfl,HNO.out,by omega,HXR.out,HSN.out,HTL.out,HTS.out,R2.out.turn (Nat.le_of_eq hs9.symm) (fun q hq hqz=>hbk q (fun e=>hqz (by rw [e];simp))) (fun q hq=>⟨.inl hq,by rw [hs9];exact (R2.out.hz q hq).2.1⟩),(by rw [hW9];exact Zaf (HB4.out.trans R4.out) HEZ.out.2.2.2.1 _),hO9,hn9,(hbk _ HEZ.out.2.2.1.symm).trans HB8.out,HIX.out,HAN.out⟩,by simp [intOf];omega⟩
        ·obtain ⟨tsh,tl,til⟩:=hl1.take rfl rfl
         have tls:=hl0.skip (.inr (show ((1:Int))≠0 by decide))
         have hx:in1[i1]?=some (in1[i1]'til):=Kad _
         obtain ⟨x,hxx⟩:∃ x,x=in1[i1]'til:=⟨_,rfl⟩
         rw [←hxx] at hx
         have hgx:in1.getD i1 zTN=x:=by rw [List.getD_eq_getElem?_getD,hx];rfl
         rw [hgx] at tsh
         have hok:TnOk x:=⟨by rw [tsh];exact q2,(Zb0 HF1.out).2 x (Kam hx)⟩
         obtain ⟨bi,oi,hIe,hbi,hta⟩:=(HI1.out.below HB4.out).at_ hx
         obtain ⟨B1,d1,B2,d2,y0,y1,htv⟩:=hta.tnv (X:=evX cb g vg (nb::(blk A).toList)) (ZaX hok.1) HS4.out.ge HB4.out.size
         have hfn:findN (shN names) dn=none:=by
          unfold ZaC at q3
          rw [Bool.or_eq_false_iff] at q3
          cases hf:findN (shN names) dn with
          | none=>rfl
          | some z=>rw [hf] at q3;cases q3.1
         obtain ⟨ob,hob⟩:=HS4.out.store hfn htv hok
         obtain ⟨r1,r2,r3,r4⟩:=hob w4.drew rfl (Kai _ _).drew
         obtain ⟨W8,hW8⟩:∃ W8,W8={ w4.drew with heap:=w4.drew.heap.setIfInBounds g ob }:=⟨_,rfl⟩
         rw [←hW8] at r1 r2 r3 r4
         obtain ⟨e8,n8,b8⟩:=HKE.out W8 (fun k hk hg _=>r3.2 k hk hg)
         obtain ⟨e4',n4',b4'⟩:=HKE.out w4 (fun _ _ _ _=>rfl)
         have z2:=Kaa _ _ 2 _ _ _ HS4.out.hc
         have f0:=Kaa _ _ 0 _ _ _ e4'
         have f1:=Kaa _ _ 1 _ _ _ e4'
         have f2:=Kaa _ _ 2 _ _ _ e4'
         have g1:=Kaa _ _ 1 _ _ _ e8
         have p0:=Kaa _ _ 1 _ _ _ b4'
         have u0:=Kaa _ _ 1 _ _ _ n4'
         have u8:=Kaa _ _ 1 _ _ _ n8
         have fr8:W8.frozen? ⟨nb,1,none⟩=false:=by simp [World.frozen?,n8]
         have mi:i1<m1:=by rw [HM1.out];exact til
         have x0:(0:Int)≤(i1:Int):=by omega
         have x1:(i1:Int)<(m1:Int):=by omega
         have HIE:=hid hIe
         have HXR:=hid (show ZaJ es shF in0 in1 ss [] (fun _=>zTN) 0 0 []=ZaJ es shF in0 in1 (ss.drop (k+1)) (names++[(dn,x)]) V i0 (i1+1) out from by
          rw [HRR.out,ZaJ,if_pos rfl,if_neg (show ¬ (1:Int)=0 by decide),hgx])
         have HSN:=hid (show Zas es shF (ss.drop (k+1)) (shN (names++[(dn,x)])) from by rw [Zbs,tsh];exact q4)
         have HTL:=hid tl
         have HTS:=hid tls
         have R2:=hid r2
         have R3:=hid r3
         have R4:=hid r4
         have HN8:=hid n8
         have HB8:=hid b8
         have HBI:=hid hbi
         subst hIe
         clear tsh tl til tls hx hxx hgx hok hta htv hfn hob r2 r3 r4 hW8 e8 n8 b8 e4' n4' b4' q2 q3 q4 hso hl0 hl1 mi hbi
         go_wp2_with fail
         rw [←HW4.out,←HEB.out]
         go_wp2_with fail
         go_region
         all_goals
          go_wp2
          obtain ⟨W9,hW9⟩:∃ W9,W9=W8.setCell ⟨nb,1,none⟩ (.int .i64 ((i1:Int)+1)):=⟨_,rfl⟩
          have hbk:∀ k,k≠nb→W9.heap[k]?=W8.heap[k]?:=fun k hk=>by rw [hW9];exact ZaS _ _ _ hk
          have hn9:W9.heap[nb]?=some (.cells #[.int .i64 ((i0:Int)),.int .i64 ((i1:Int)+1)] 114 (0,0)):=by rw [hW9];simp [World.setCell,Array.getElem?_modify,HN8.out]
          have hs9:W9.heap.size=W8.heap.size:=by rw [hW9];simp [World.setCell]
          have hO9:OutT W9 w.heap.size A no c out:=by
           refine HO4.out.keepT (fun q hq => ?_) (fun q cur T hq hT => ?_)
           ·have hz:=HS4.out.hz q (by rw [hq];simp)
            rw [hbk q (HAN.out q hq),R3.out.2 q hz.2.1 hz.2.2.2.1]
           ·have hql:=(Kab.1 hq).1
            have hqg:q≠g:=fun e=>by
             obtain ⟨nv,⟨es',cl,hm,_⟩,_⟩:=HS4.out.hn
             rw [e,hm] at hq
             cases hq
            have hqn:q≠nb:=fun e=>by
             rw [e,HNB4.out] at hq
             injection hq with hq
             injection hq with _ hq _
             rw [←hq] at hT
             exact absurd hT (by decide)
            rw [hbk q hqn,R3.out.2 q hql hqg]
          try rw [←hW9]
          exact ⟨⟨k+1,i0,(i1+1),_,V,A,no,c,out,by omega,rfl,rfl,HNO.out,by omega,HXR.out,HSN.out,HTS.out,HTL.out,R2.out.turn (Nat.le_of_eq hs9.symm) (fun q hq hqz=>hbk q (fun e=>hqz (by rw [e];simp))) (fun q hq=>⟨.inl hq,by rw [hs9];exact (R2.out.hz q hq).2.1⟩),(by rw [hW9];exact Zaf (HB4.out.trans R4.out) HEZ.out.2.2.2.1 _),hO9,hn9,(hbk _ HEZ.out.2.2.1.symm).trans HB8.out,HIX.out,HAN.out⟩,by simp [intOf];omega⟩
       ·have hso3:(findN (shN names) dn).isSome=true∧Zas es shF (ss.drop (k+1)) (shN names):=by
         unfold Zas at hso
         rwa [if_neg (show ¬ (3:Int)=1 by decide),if_neg (show ¬ (3:Int)=2 by decide)] at hso
        obtain ⟨q1,q2⟩:=hso3
        have tl0:=hl0.skip (.inl (show ((3:Int))≠1 by decide))
        have tl1:=hl1.skip (.inl (show ((3:Int))≠1 by decide))
        obtain ⟨nv,hnm,hnt⟩:=HS4.out.hn
        rcases hnt.find dn with ⟨_,h2⟩ | ⟨sv,ev,h1,h2,htv,hok⟩
        ·rw [h2] at q1;cases q1
        ·obtain ⟨t,ht⟩:∃ t,t=findT names dn:=⟨_,rfl⟩
         rw [←ht] at htv hok
         have htv2:=htv
         obtain ⟨⟨A1,k1,rfl,_,_,hl2,_⟩,A2,k2,rfl,_⟩:=htv2
         have HXR:=hid (show ZaJ es shF in0 in1 ss [] (fun _=>zTN) 0 0 []=ZaJ es shF in0 in1 (ss.drop (k+1)) names V i0 i1 (out++[t]) from by
          rw [HRR.out,ZaJ,if_neg (show ¬ (3:Int)=1 by decide),if_neg (show ¬ (3:Int)=2 by decide),ht])
         obtain ⟨n1,hn1⟩:∃ n1,n1=t.sh.length:=⟨_,rfl⟩
         obtain ⟨n2,hn2⟩:∃ n2,n2=t.el.length:=⟨_,rfl⟩
         rw [←hn1,←hn2] at htv h1
         have HN1:=hid hn1
         have HN2:=hid hn2
         have HTV:=hid htv
         have HOK:=hid hok
         have HSN:=hid q2
         have HT0:=hid tl0
         have HT1:=hid tl1
         have hlk:=ZbS (w:=w4.drew) (show NamM w4.drew g nv from hnm) dn h1
         have hlk2:=ZbS (w:=(w4.alloc (.cells #[.slice none 0 0,.slice none 0 0] 43)).drew) (show NamM (w4.alloc (.cells #[.slice none 0 0,.slice none 0 0] 43)).drew g nv from by
          obtain ⟨es',cl,m1,m2⟩:=hnm
          exact ⟨es',cl,(Below.heap_alloc w4 _ g (Kab.1 m1).1).trans m1,m2⟩) dn h1
         have z2:=Kaa _ _ 2 _ _ _ HS4.out.hc
         obtain ⟨e4',n4',b4'⟩:=HKE.out w4 (fun _ _ _ _=>rfl)
         have f0:=Kaa _ _ 0 _ _ _ e4'
         have f2:=Kaa _ _ 2 _ _ _ e4'
         have f2':=(World.cell?_alloc_lt w4 (.cells #[.slice none 0 0,.slice none 0 0] 43) ⟨eb,2,none⟩ (Kab.1 e4').1).trans f2
         have z2':=(World.cell?_alloc_lt w4 (.cells #[.slice none 0 0,.slice none 0 0] 43) ⟨cb,2,none⟩ (HS4.out.lt _ (.inl rfl))).trans z2
         clear htv hok q1 q2 tl0 tl1 hn1 hn2 ht hnm hnt h1 h2 hso hl0 hl1 hl2 e4' n4' b4'
         go_wp2_with fail
         rw [←HW4.out,←HEB.out]
         go_wp2_with fail
         go_region
         all_goals
          obtain ⟨w5,hw5⟩:∃ w5,w5=(w4.alloc (.cells #[.slice A1 n1 k1,.slice A2 n2 k2] 43)).drew:=⟨_,rfl⟩
          have hb5:Below w4.heap.size w4 w5:=by rw [hw5];exact ((Kai _ _).alloc (Kag _) _).drew
          have hX5:w5.heap[w4.heap.size]?=some (.cells #[.slice A1 n1 k1,.slice A2 n2 k2] 43 (0,0)):=by rw [hw5];exact Kac w4 _
          rw [←hw5]
          have HS5:=hid (HS4.out.next hb5)
          have HB5':=hid (bnext HB4.out hb5)
          have HO5:=hid (HO4.out.next hb5)
          have hnbl:=(Kab.1 HNB4.out).1
          have hibl:=(Kab.1 HIB4.out).1
          have HNB5:=hid ((hb5.block nb hnbl).trans HNB4.out)
          have HIB5:=hid ((hb5.block _ hibl).trans HIB4.out)
          obtain ⟨xb,hxb⟩:∃ xb,xb=w4.heap.size:=⟨_,rfl⟩
          rw [←hxb] at hX5 ⊢
          have HXC:=hid (show ∀ W,Below w5.heap.size w5 W→W.cell? ⟨xb,0,none⟩=some (.slice A1 n1 k1)∧W.cell? ⟨xb,1,none⟩=some (.slice A2 n2 k2) from fun W hW=>by
           have h:=(hW.block xb (Kab.1 hX5).1).trans hX5
           exact ⟨Kaa _ _ 0 _ _ _ h,Kaa _ _ 1 _ _ _ h⟩)
          obtain ⟨x0,x1⟩:=HXC.out _ (Kai _ _)
          obtain ⟨y0,y1⟩:=HXC.out _ (Kai _ _).drew
          have HTV5:=hid (HTV.out.next hb5)
          have HC1:=hid (show ∀ W,Below w5.heap.size w5 W→Calls Tryz.prog 55 #[.slice A1 n1 k1] W (fun e w'=>∃ Aa ca,e=.returned (.slice Aa n1 ca)∧Own w' w5.heap.size 3 Aa ca (t.sh.map VI)∧(∀ k,blk Aa=some k→W.heap.size≤k∧k<w'.heap.size)∧Below W.heap.size W w'∧Below w5.heap.size w5 w'∧w'.cell? ⟨xb,0,none⟩=some (.slice A1 n1 k1)∧w'.cell? ⟨xb,1,none⟩=some (.slice A2 n2 k2)) from fun W hW=>by
           obtain ⟨_,c9,e9,_,_,h29,r9⟩:=HTV5.out.1
           injection e9 with e9 _ _
           subst e9
           refine (ZdH A1 n1 k1 t.sh W HN1.out (by have:=HN1.out;omega) ((r9.keep (KeepX.of hW)).rd)).mono ?_
           rintro e w' ⟨Aa,ca,rfl,ho,hb⟩
           obtain ⟨c1,c2⟩:=HXC.out _ (bnext hW hb)
           exact ⟨Aa,ca,rfl,ho.more hW.size,ho.lt,hb,bnext hW hb,c1,c2⟩)
          have HC2:=hid (show ∀ W,Below w5.heap.size w5 W→Calls Tryz.prog 56 #[.slice A2 n2 k2] W (fun e w'=>∃ Aa ca,e=.returned (.slice Aa n2 ca)∧Own w' w5.heap.size 39 Aa ca (t.el.map U)∧(∀ k,blk Aa=some k→W.heap.size≤k∧k<w'.heap.size)∧Below W.heap.size W w'∧Below w5.heap.size w5 w'∧w'.cell? ⟨xb,0,none⟩=some (.slice A1 n1 k1)∧w'.cell? ⟨xb,1,none⟩=some (.slice A2 n2 k2)) from fun W hW=>by
           obtain ⟨_,c9,e9,_,_,r9⟩:=HTV5.out.2
           injection e9 with e9 _ _
           subst e9
           have hl:=ZaQ HOK.out
           refine (Zh6 A2 n2 k2 t.el W HN2.out (by have:=HN2.out;omega) ((r9.keep (KeepX.of hW)).rd)).mono ?_
           rintro e w' ⟨Aa,ca,rfl,ho,hb⟩
           obtain ⟨c1,c2⟩:=HXC.out _ (bnext hW hb)
           exact ⟨Aa,ca,rfl,ho.more hW.size,ho.lt,hb,bnext hW hb,c1,c2⟩)
          clear hw5 hb5 hX5 hnbl hibl hxb f0 f2 f2' z2 z2' hlk hlk2
          go_wp2_with fail
          go_region_law (first
           | (rw [if_pos (by rfl)];go_simp;go_at_call 55;refine (HC1.out _ ?_).mono ?_;(first | exact (Kai _ _).drew | exact BB.out);rintro e wa ⟨Aa,ca,rfl,oa,fa,la,bb,xa0,xa1⟩;have OA:=hid oa;have FA:=hid fa;have LA:=hid la;have BB:=hid bb;clear oa fa la bb)
           | (rw [if_pos (by rfl)];go_simp;go_at_call 56;refine (HC2.out _ ?_).mono ?_;(first | exact (Kai _ _).drew | exact BB.out);rintro e wb ⟨Ab,cb',rfl,ob,fb,lb,bb,xb0,xb1⟩;have OB:=hid ob;have FB:=hid fb;have LB:=hid lb;have BB:=hid bb;clear ob fb lb bb)
           | (refine Zgj rfl (.tmp 111) (.tmp 119) rfl w.heap.size A c no out rfl w5 _ HO5.out HB5'.out.size BB.out Aa Ab ca cb' n1 n2 t HN1.out HN2.out (Kah (ZaX HOK.out.1) (by decide)) ?_ ?_ ?_ rfl rfl (by omega) ?_;(first | exact OA.out | exact OA.out.next LB.out);(first | exact OB.out | exact OB.out.next LA.out);(first | exact ZgY (fun k hk=>(FA.out k hk).2) (fun k hk=>(FB.out k hk).1) | exact Zk6 (fun k hk=>(FA.out k hk).1) (fun k hk=>(FB.out k hk).2));intro A8 c8 w8 hO8 hg8 hA8;have HO8:=hid hO8;have HG8:=hid hg8;have HA8:=hid hA8;clear hO8 hg8 hA8))
          all_goals
           obtain ⟨gs,gk,ga⟩:=Zgk BB.out HG8.out HA8.out
           have hnbl:=(Kab.1 HNB5.out).1
           have hibl:=(Kab.1 HIB5.out).1
           have hEv:=HS5.out.turn (Z':=nb::(blk A8).toList) gs (fun q hq hz=>gk q hq (fun e=>hz (by rw [e];simp))) (fun q hq=>by
            rcases List.mem_cons.1 hq with rfl | hq
            ·exact ⟨.inl (by simp),Kae hnbl gs⟩
            ·have hq':blk A8=some q:=by simpa using hq
             refine ⟨?_,(HO8.out.lt q hq').2⟩
             rcases ga with e | ⟨z,e,hz⟩
             ·left
              rw [e] at hq'
              rw [hq']
              simp
             ·right
              rw [e] at hq'
              injection hq' with hq'
              omega)
           have HEV:=hid hEv
           have HNB8:=hid ((gk nb hnbl (fun e=>HAN.out nb e rfl)).trans HNB5.out)
           have HIB8:=hid ((gk _ hibl (fun e=>HIX.out (.inr (.inr (.inr (by rw [e];simp)))))).trans HIB5.out)
           have HIX8:=hid (show ¬ evX cb g vg (nb::(blk A8).toList) (w.heap.size+1) from fun hx=>by
            rcases hx with e | e | e | e
            ·exact HIX.out (.inl e)
            ·exact HIX.out (.inr (.inl e))
            ·exact HIX.out (.inr (.inr (.inl e)))
            ·rcases List.mem_cons.1 e with e | e
             ·exact HEZ.out.2.2.1 e.symm
             ·have e':blk A8=some (w.heap.size+1):=by simpa using e
              rcases ga with ga | ⟨z,ga,hz⟩
              ·rw [ga] at e'
               exact HIX.out (.inr (.inr (.inr (by rw [e'];simp))))
              ·rw [ga] at e'
               injection e' with e'
               omega)
           have HAN8:=hid (show ∀ q,blk A8=some q→q≠nb from fun q hq=>by
            rcases ga with ga | ⟨z,ga,hz⟩
            ·exact HAN.out q (ga ▸ hq)
            ·rw [ga] at hq
             injection hq with hq
             omega)
           have HB8:=hid (Zal ((bnext HB5'.out BB.out).alloc (bnext HB5'.out BB.out).size _) HG8.out (Kah (bnext HB5'.out BB.out).size (by simp)) (fun q hq=>(HO5.out.lt q hq).1))
           have HLN:=hid (show no+1=(out++[t]).length from by rw [List.length_append,←HNO.out];rfl)
           clear hEv gs gk ga hnbl hibl
           go_wp2
           exact ⟨⟨k+1,i0,i1,names,V,A8,no+1,c8,out++[t],by omega,rfl,rfl,HLN.out,by omega,HXR.out,HSN.out,HT0.out,HT1.out,HEV.out,HB8.out,HO8.out,HNB8.out,HIB8.out,HIX8.out,HAN8.out⟩,by simp [intOf];omega⟩
       ·obtain ⟨root,rfl⟩:∃ root:Nat,de=(root:Int):=⟨de.toNat,by omega⟩
        have hso2:LetOk es (shN names) shF root∧ZaC (shN names) dn=false∧Zas es shF (ss.drop (k+1)) (shN names++[(dn,shF.getD root [])]):=by
         unfold Zas at hso
         rw [if_neg (show ¬ (2:Int)=1 by decide),if_pos rfl] at hso
         dsimp only at hso
         rwa [Int.toNat_natCast] at hso
        obtain ⟨q1,q2,q3⟩:=hso2
        have tl0:=hl0.skip (.inl (show ((2:Int))≠1 by decide))
        have tl1:=hl1.skip (.inl (show ((2:Int))≠1 by decide))
        have hex:exsOk 0 es=true:=by
         have:=(Zbz HCC.out).1
         unfold treeP at this
         rw [Bool.and_eq_true] at this
         exact this.1
        have hroot:root<ne:=by rw [HNE.out];exact q1.1
        have hnok:∀ p∈names,TnOk p.2:=by
         obtain ⟨nv,_,hnt⟩:=HS4.out.hn
         exact hnt.ok
        have hlo:=(ZiN (V:=V) hex (ZaU hex) q1 hnok root (ZaI es root)).1
        have HLT:=hid (ZkJ w.heap.size cb g vg (nb::(blk A).toList) (some ⟨b,o,none⟩) EA (some ⟨q,0,none⟩) ns sc ne ec es names V shF root w4 HNE.out hroot hl2 (H3.out.below HB4.out) hex q1 HNU.out HS4.out)
        obtain ⟨V',hV'⟩:∃ V',V'=letF es (Zac es root) shF names V (root+1):=⟨_,rfl⟩
        rw [←hV'] at hlo HLT
        have hfn:findN (shN names) dn=none:=by
         unfold ZaC at q2
         rw [Bool.or_eq_false_iff] at q2
         cases hf:findN (shN names) dn with
         | none=>rfl
         | some z=>rw [hf] at q2;cases q2.1
        have HFN:=hid hfn
        have HLO:=hid hlo
        have HXR:=hid (show ZaJ es shF in0 in1 ss [] (fun _=>zTN) 0 0 []=ZaJ es shF in0 in1 (ss.drop (k+1)) (names++[(dn,V' root)]) V' i0 i1 out from by
         rw [HRR.out,ZaJ,if_neg (show ¬ (2:Int)=1 by decide),if_pos rfl]
         dsimp only
         rw [Int.toNat_natCast,←hV'])
        have HSN:=hid (show Zas es shF (ss.drop (k+1)) (shN (names++[(dn,V' root)])) from by rw [Zbs,hlo.2];exact q3)
        have HT0:=hid tl0
        have HT1:=hid tl1
        have HRT:=hid hroot
        obtain ⟨e4',n4',b4'⟩:=HKE.out w4 (fun _ _ _ _=>rfl)
        have f0:=Kaa _ _ 0 _ _ _ e4'
        have f4:=Kaa _ _ 4 _ _ _ e4'
        clear hlo hfn q1 q2 q3 tl0 tl1 hex hnok hV' hso hl0 hl1 e4' n4' b4' hde0 hde1
        go_wp2_with fail
        rw [←HW4.out,←HEB.out]
        go_upto_region 22 with (go_at_call 54;refine HLT.out.mono ?_;rintro e w5 ⟨rfl,hk5,hb5,hs5⟩)
        clear f0 f4
        obtain ⟨B1,d1,B2,d2,y0,y1,htv⟩:=hs5.val (a:=root) HRT.out
        obtain ⟨ob,hob⟩:=hs5.store HFN.out htv HLO.out.1
        obtain ⟨r1,r2,r3,r4⟩:=hob w5.drew rfl (Kai _ _).drew
        obtain ⟨W8,hW8⟩:∃ W8,W8={ w5.drew with heap:=w5.drew.heap.setIfInBounds g ob }:=⟨_,rfl⟩
        rw [←hW8] at r1 r2 r3 r4
        obtain ⟨e5,n5,b5⟩:=HKE.out w5 (fun k hk _ hv=>hk5.2 k hk hv)
        obtain ⟨e8,n8,b8⟩:=HKE.out W8 (fun k hk hg hv=>(r3.2 k (Kae hk hk5.1) hg).trans (hk5.2 k hk hv))
        have z2:=Kaa _ _ 2 _ _ _ hs5.hc
        have z3:=Kaa _ _ 3 _ _ _ hs5.hc
        have f2:=Kaa _ _ 2 _ _ _ e5
        have f4:=Kaa _ _ 4 _ _ _ e5
        have x0:(0:Int)≤(root:Int):=by omega
        have x1:(root:Int)<(ne:Int):=by have:=HRT.out;omega
        have hO8:OutT W8 w.heap.size A no c out:=by
         have hO5:OutT w5 w.heap.size A no c out:=by
          refine HO4.out.keepT (fun q hq => ?_) (fun q cur T hq hT => ?_)
          ·have hz:=HS4.out.hz q (by rw [hq];simp)
           exact hk5.2 q hz.2.1 hz.2.2.2.2
          ·have hql:=(Kab.1 hq).1
           refine hk5.2 q hql (fun e => ?_)
           obtain ⟨cs,v1,_⟩:=HS4.out.hv
           rw [e,v1] at hq
           injection hq with hq
           injection hq with _ hq _
           rw [←hq] at hT
           exact absurd hT (by decide)
         refine hO5.keepT (fun q hq => ?_) (fun q cur T hq hT => ?_)
         ·have hz:=hs5.hz q (by rw [hq];simp)
          exact r3.2 q hz.2.1 hz.2.2.2.1
         ·have hql:=(Kab.1 hq).1
          refine r3.2 q hql (fun e => ?_)
          obtain ⟨nv,⟨es',cl,hm,_⟩,_⟩:=hs5.hn
          rw [e,hm] at hq
          cases hq
        have HO8:=hid hO8
        have HN8:=hid n8
        have HI8:=hid b8
        have R2:=hid r2
        have HB8:=hid ((HB4.out.trans hb5).trans r4)
        clear hO8 n8 b8 e8 n5 b5 e5 r2 r3 r4 hob htv hk5 hb5 hs5 hW8
        go_wp2_with fail
        go_region
        all_goals
         go_wp2
         exact ⟨⟨k+1,i0,i1,_,V',A,no,c,out,by omega,rfl,rfl,HNO.out,by omega,HXR.out,HSN.out,HT0.out,HT1.out,R2.out,HB8.out,HO8.out,HN8.out,HI8.out,HIX.out,HAN.out⟩,by simp [intOf];omega⟩
      ·obtain rfl:k=ns:=by omega
       have HZ:=hid (show evalE ss es in0 in1=.inl out from by
        rw [HEV2.out,HR.out,HNS.out,List.drop_length]
        rfl)
       go_wp2
       go_ret2
       refine ⟨HB.out,?_⟩
       rw [HZ.out]
       exact ⟨A,c,by rw [←HNO.out];rfl,by rw [←HNO.out];exact HO.out⟩
end Go.Proofs.YtghlnncfigkkaaaGreatDoor
