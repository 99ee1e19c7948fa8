/-
 The walk of the law DagKeeps.
-/
import Derived.Test.YtghlnncfigkkaaaGreatDoorQDgJ
import Derived.Test.YtghlnncfigkkaaaGreatDoorQParA
import Derived.Deep.RegionHeld3
import Derived.Test.YtghlnncfigkkaaaGreatDoorQDjD
import Derived.Test.YtghlnncfigkkaaaGreatDoorQDjC
set_option maxRecDepth 100000
set_option maxHeartbeats 16000000
set_option linter.unusedVariables false
set_option linter.unusedSimpArgs false
namespace Go.Proofs.YtghlnncfigkkaaaGreatDoor
open Go.RowKit
theorem few_w (x:Int) (h:0≤x) (h2:x≤1000):IntKind.i64.wrap x=x:=ZaE (by omega) (by omega)
theorem build_160 {f s d:Bool} {ss:List SI} {es:List EI} {g:List ND × List Nat} {c:Nat} (h0:buildD false false false ss es=.inl g) (h:buildD f s d ss es=.inr c):c=160:=by
 obtain ⟨sh,l,outs,hc,_⟩:=buildD_parts h0
 unfold buildD at h
 rw [hc] at h
 dsimp only at h
 split at h
 ·injection h with h;exact h.symm
 ·split at h
  ·injection h with h;exact h.symm
  ·cases h
theorem DagKeeps_walk (w:World) (hg:ETyped w) (ht:ErrT w) (s:ByteArray) (hsz:s.size≤maxLen) (Aa:Option Addr) (ca:Nat) (a:List UInt64) (hlc:a.length≤ca) (hcm:ca≤17592186043904) (hA:Rd w w.heap.size Aa (a.map U))
  (Ab:Option Addr) (cb:Nat) (b:List UInt64) (hlc':b.length≤cb) (hcm':cb≤17592186043904) (hA':Rd w w.heap.size Ab (b.map U)):
  Calls Tryz.prog 14 #[.string s,.slice Aa a.length ca,.slice Ab b.length cb] w fun e w'=>e=.returned (.bool true)∧Below w.heap.size w w':=by
 obtain ⟨na,hna⟩:=Ky a.length
 obtain ⟨nb,hnb⟩:=Ky b.length
 rw [←hna,←hnb]
 have b1:na≤9223372036854775807:=by omega
 have b2:nb≤9223372036854775807:=by omega
 have HW:=Kz (dawake_true w hg ht)
 have HG:=Kz hg
 obtain ⟨s2,hs2⟩:=Ky (s.extract 0 (minN s.size 4200))
 have hz2:s2.size≤100000:=by
  have:=(Zjt s.size 4200).2.1
  rw [hs2,ByteArray.size_extract]
  omega
 obtain ⟨F,hF,hF2⟩:∃ F,(∀ l,scanM s2=.toks l→12*l.length+20≤F)∧F≤10000:=by
  cases h:scanM s2 with
  | toks l=>exact ⟨12*l.length+20,fun l' h'=>by injection h' with h';subst h';exact Kag _,by have:=(ZdU h).1;omega⟩
  | err c p=>exact ⟨0,fun l' h'=>(by cases h'),by omega⟩
 have HF:=Kz hF
 have HZ2:=Kz hz2
 have HCUT:=Kz (fun W=>Zml s hsz W)
 rw [←hs2] at HCUT
 have HT:=Kz ht
 have HA:=Kz hA
 have HNA:=Kz hna
 have HAB:=Kz hA'
 have HNB:=Kz hnb
 have HB0:=Kz (Kai w.heap.size w)
 clear hs2 hz2 hF hg ht hA hna hA' hnb hlc hcm hlc' hcm'
 go_enter Tryz.func14,Tryz.ntmps14
 go_wp2_with (first
  | (go_at_call 33;refine HW.o.mono ?_;rintro e w1 ⟨rfl,b1⟩;have HB1:=Kz (bnext HB0.o b1);have HG1:=Kz (HG.o.next b1);have HT1:=Kz (HT.o.next b1);clear b1)
  | (go_at_call 17;refine (HCUT.o _).mono ?_;rintro e w' ⟨rfl,rfl⟩))
 refine (Zhh s2 F w1 HZ2.o HG1.o HT1.o HF.o).mono ?_
 rintro e w2 ⟨hb2,h⟩
 rcases h with ⟨l,hl,he,SA,sc,EA,ec,rfl,oS,oE⟩ | ⟨l,c,p,v,hl,he,rfl,hv⟩ | ⟨c,p,v,hl,rfl,hv⟩
 ·have hlen:=(ZdU hl).1
  have hns:=Zih he
  have hne:=ZlE F l
  have hnm:=ZhK (ZhJ hl) F
  have hsp:=ZkK (Zgp hl) F
  have hS:=oS.int
  have hE:=oE.int
  obtain ⟨ss,hss⟩:=Ky ((Zao F l).ss.map SI.of)
  obtain ⟨es,hes⟩:=Ky ((Zao F l).es.map EI.of)
  rw [←hss] at hS
  rw [←hes] at hE
  have HNM:=Kz (show ∀ e∈es,e.num≤18446744073709551615 from fun e he=>by
   rw [hes] at he
   obtain ⟨x,hx,rfl⟩:=List.mem_map.1 he
   exact hnm x hx)
  have HSP:=Kz (show ∀ s∈ss,s.shape.length≤1000000 from fun e he=>by
   rw [hss] at he
   obtain ⟨x,hx,rfl⟩:=List.mem_map.1 he
   have:=(hsp x hx).2
   show (x.shape.map Int.ofNat).length≤_
   rw [Kak]
   omega)
  obtain ⟨ns,hn1⟩:=Ky ((Zao F l).ss.length)
  obtain ⟨ne,hn2⟩:=Ky ((Zao F l).es.length)
  have hls:=Kz (show ns=ss.length from by rw [hss,Kak,hn1])
  have hle:=Kz (show ne=es.length from by rw [hes,Kak,hn2])
  have hns':ns≤64:=by rw [hn1];exact hns
  have hne':ne≤513:=by rw [hn2];exact Kah hne hlen
  rw [←hn1,←hn2]
  have HG2:=Kz (HG1.o.next hb2)
  have HB2:=Kz (bnext HB1.o hb2)
  have HS2:=Kz hS
  have HE2:=Kz hE
  clear hlen hns hne hS hE hss hes hn1 hn2 oS oE hl he hb2 hnm hsp
  go_upto_region 6 with fail
  obtain ⟨w3,hw3⟩:=Ky (w2.alloc (.cells #[.slice SA ns sc,.slice EA ne ec] 26))
  rw [←hw3]
  have hb3:=Kv hw3
  have hA:=Kw hw3
  have HTC:=Kz (show ∀ W,Below w3.heap.size w3 W→W.cell? ⟨w2.heap.size,0,none⟩=some (.slice SA ns sc)∧W.cell? ⟨w2.heap.size,1,none⟩=some (.slice EA ne ec) from fun W hW=>by
   have h:=(hW.block _ (Kab.1 hA).1).trans hA
   exact ⟨Kaa 0 h,Kaa 1 h⟩)
  have HB3:=Kz (bnext HB2.o hb3)
  have HS3:=Kz (HS2.o.next hb3)
  have HE3:=Kz (HE2.o.next hb3)
  have HG3:=Kz (HG2.o.next hb3)
  clear hw3 hb3 hA
  go_wp2_with fail
  go_loopw [9] (fun iv wr=>∃ k:Nat,k≤8∧iv=.int .i64 k∧(0<k→∃ g,buildD false false false ss es=.inl g)∧Below w3.heap.size w3 wr) (fun iv _=>8-(intOf iv).toNat)
  case atStart=>exact ⟨0,by omega,rfl,fun h=>absurd h (by omega),Kai _ _⟩
  case round=>
  obtain ⟨k,hk,rfl,hK,hb⟩:=hrel
  have HBr:=Kz hb
  have HB0r:=Kz (bnext HB3.o hb)
  have HK:=Kz hK
  clear hb hK
  by_cases hlt:k<8
  ·have h8k:decide ((k:Int)<8)=true:=by simp;omega
   obtain ⟨fb,hfb⟩:=Ky (k % 2==1)
   obtain ⟨sb,hsb⟩:=Ky (k / 2 % 2==1)
   obtain ⟨db,hdb⟩:=Ky (k / 4==1)
   have qf:((k:Int) % 2==1)=fb:=by rw [hfb,Bool.eq_iff_iff,beq_iff_eq,beq_iff_eq];omega
   have qs:((k:Int) / 2 % 2==1)=sb:=by rw [hsb,Bool.eq_iff_iff,beq_iff_eq,beq_iff_eq];omega
   have qd:((k:Int) / 4==1)=db:=by rw [hdb,Bool.eq_iff_iff,beq_iff_eq,beq_iff_eq];omega
   have HFB:=Kz (show k=0→fb=false∧sb=false∧db=false from fun h=>by subst h;exact ⟨hfb,hsb,hdb⟩)
   clear hfb hsb hdb
   have k0:(0:Int)≤(k:Int):=by omega
   have k1:(k:Int)<8:=by omega
   have HBD:=Kz (build_any SA EA ns ne sc ec ss es fb sb db wr hls.o hle.o (by omega) (by omega) (HS3.o.next HBr.o) (HE3.o.next HBr.o) (HG3.o.next HBr.o) HNM.o HSP.o)
   obtain ⟨z0,z1⟩:=HTC.o _ HBr.o
   cases hbd:buildD fb sb db ss es with
   | inr c=>
    rw [hbd] at HBD
    by_cases hk0:k=0
    ·have qk:((k:Int)==0)=true:=by rw [beq_iff_eq];omega
     clear hbd hk0
     go_wp2_with (go_at_call 34;refine HBD.o.mono ?_;rintro e w4 hb;obtain ⟨hb4,ti,xi,ps,rfl,hve⟩:=hb.bad)
     go_ret
     exact ⟨rfl,(bnext HB0r.o hb4).alloc (Kah HB0r.o.size hb4.size) _⟩
    ·obtain ⟨g0,hg0⟩:=HK.o (by omega)
     have hc:=build_160 hg0 hbd
     subst hc
     have qk:((k:Int)==0)=false:=by rw [Kaj];omega
     clear hbd hg0
     go_upto_region 11 with (go_at_call 34;refine HBD.o.mono ?_;rintro e w4 hb;obtain ⟨hb4,ti,xi,ps,rfl,hve⟩:=hb.bad)
     obtain ⟨w5,hw5⟩:=Ky (w4.alloc (.cells #[.slice none 0 0,.slice none 0 0,.slice none 0 0,.slice none 0 0] 68))
     have hb5:=Kv hw5
     rw [←hw5]
     have HCD:=Kz (ZjW _ _ _ w5 (HG3.o.next (bnext HBr.o (bnext hb4 hb5))) (hve.next hb5))
     have HB5:=Kz (bnext HB0r.o (bnext hb4 hb5))
     clear hw5 hb4 hb5 hve z0 z1
     go_wp2_with (go_at_call 20;refine HCD.o.mono ?_;rintro e w6 ⟨rfl,b6⟩;have HB6:=Kz (bnext HB5.o b6);clear b6)
     go_ret
     exact ⟨rfl,HB6.o⟩
   | inl G=>
    rw [hbd] at HBD
    have HBK:=Kz hbd
    have HK1:=Kz (show ∃ g,buildD false false false ss es=.inl g from by
     by_cases hk0:k=0
     ·obtain ⟨h1,h2,h3⟩:=HFB.o hk0
      rw [h1,h2,h3] at hbd
      exact ⟨_,hbd⟩
     ·exact HK.o (by omega))
    clear hbd
    go_upto_region 12 with (go_at_call 34;refine HBD.o.mono ?_;rintro e w4 hb;obtain ⟨hb4,NA,nc,ms,OA,oc,A0,n0,c0,A1,n1,c1,B,rfl,hB,hfst,hr,ho,h0,h1⟩:=hb.ok)
    clear z0 z1
    have HFST:=Kz hfst
    obtain ⟨q8,qs0,qs1⟩:=built_in HBK.o
    obtain ⟨wf1,wf2,wf3,wf4⟩:=built_wf HBK.o
    have hml:ms.length≤64:=by have:=congrArg List.length hfst;rw [Kak] at this;omega
    have hol:G.2.length≤1000:=by have:=hls.o;have:=outsN_le ss;omega
    have HWF:=Kz (show WfD (Zae ss 0) (Zae ss 1) (ms.map Prod.fst) from by rw [hfst];exact wf1)
    have HOU:=Kz (show ∀ o∈G.2,o<ms.length from fun o h=>by have:=wf2 o h;rw [←hfst,Kak] at this;exact this)
    have HQ8:=Kz q8
    have HQS0:=Kz qs0
    have HQS1:=Kz qs1
    obtain ⟨on,hon⟩:=Ky G.2.length
    obtain ⟨L,hL⟩:=Ky ms.length
    rw [←hon,←hL]
    obtain ⟨w5,hw5⟩:=Ky (w4.alloc (.cells #[.slice NA L nc,.slice OA on oc,.slice A0 n0 c0,.slice A1 n1 c1] 68))
    obtain ⟨gb,hgb⟩:=Ky w4.heap.size
    rw [←hw5,←hgb]
    have hb5:=Kv hw5
    have hGB:=Kx hw5 hgb
    have HGC:=Kz (show ∀ W,Below w5.heap.size w5 W→W.cell? ⟨gb,0,none⟩=some (.slice NA L nc)∧W.cell? ⟨gb,1,none⟩=some (.slice OA on oc)∧W.cell? ⟨gb,2,none⟩=some (.slice A0 n0 c0)∧W.cell? ⟨gb,3,none⟩=some (.slice A1 n1 c1) from fun W hW=>by
     have h:=(hW.block _ (Kab.1 hGB).1).trans hGB
     exact ⟨Kaa 0 h,Kaa 1 h,Kaa 2 h,Kaa 3 h⟩)
    have hsm:∀ l:List (List Int),(∀ x∈l,Zad x≠0)→∀ x∈l,x.length≤1000000:=fun l h x hx=>by have:=sh_small (h x hx);omega
    obtain ⟨r0,e0⟩:=h0.rd (hsm _ qs0)
    obtain ⟨r1,e1⟩:=h1.rd (hsm _ qs1)
    have R0:=Kz (r0.next hb5)
    have R1:=Kz (r1.next hb5)
    have HN0:=Kz e0
    have HN1:=Kz e1
    have hl0:n0≤1000:=by omega
    have hl1:n1≤1000:=by omega
    have HR5:=Kz (hr.next hb5)
    have HO5:=Kz (ho.next hb5)
    have H05:=Kz (h0.next hb5)
    have H15:=Kz (h1.next hb5)
    have HB45:=Kz (bnext hb4 hb5)
    have HL:=Kz hL
    have HON:=Kz hon
    have HW5:=Kz hw5
    have HGBE:=Kz hgb
    rw [←hL] at hml
    rw [←hon] at hol
    clear hb4 hB hfst hr ho h0 h1 hon hL hw5 hgb hb5 hGB r0 e0 r1 e1 hsm q8 qs0 qs1 wf1 wf2 wf3 wf4
    have HB35:=Kz (bnext HBr.o HB45.o)
    have HB5:=Kz (bnext HB0r.o HB45.o)
    have HPC:=Kz (fun W (hW:Below w5.heap.size w5 W)=>(show W.cell? ⟨gb,2,none⟩=some (.slice A0 n0 c0)∧W.cell? ⟨gb,3,none⟩=some (.slice A1 n1 c1) from ⟨(HGC.o W hW).2.2.1,(HGC.o W hW).2.2.2⟩))
    have HF0:=Kz (fun W (hW:Below w5.heap.size w5 W)=>ZgX A0 n0 c0 (Zae ss 0) Aa na ca a W HN0.o HNA.o hl0 b1 (R0.o.next hW) ((HA.o.below (bnext HB5.o hW)).more (bnext HB5.o hW).size))
    have HF1:=Kz (fun W (hW:Below w5.heap.size w5 W)=>ZgX A1 n1 c1 (Zae ss 1) Ab nb cb b W HN1.o HNB.o hl1 b2 (R1.o.next hW) ((HAB.o.below (bnext HB5.o hW)).more (bnext HB5.o hW).size))
    go_cut [12] (fun pv wx=>DCut w5 n0 n1 (fillP (Zae ss 0) a 0) (fillP (Zae ss 1) b 0) pv wx)
    case first=>
     refine wp_region_held_drew (S:=(fun w'=>w'.cell? ⟨gb,2,none⟩=some (.slice A0 n0 c0)∧w'.cell? ⟨gb,3,none⟩=some (.slice A1 n1 c1))) (by kernel_rfl) (HPC.o _ (Kai _ _).drew) (fun hHeld => ?_)
     obtain ⟨wd,hwd⟩:=Ky w5.drew
     rw [←hwd] at hHeld ⊢
     have BD:=Kz (show Below w5.heap.size w5 wd from by rw [hwd];exact (Kai _ _).drew)
     clear hwd
     refine tk 0 ?_
     simp only [tkS]
     refine tk 1 ?_
     simp only [tkS]
     refine tk 2 ?_
     simp only [tkS]
     refine tk 3 ?_
     simp only [tkS]
     refine tk 5 ?_
     simp only [tkS]
     refine tk 6 ?_
     simp only [tkS]
     refine tk 7 ?_
     simp only [tkS]
     refine tk 8 ?_
     simp only [tkS]
     refine wpAnyH_ready (rs:=[4,11]) (by kernel_rfl) (by simp) ?_
     refine AllReadyH.cons (o:=_) rfl (fun K hK => ?_) (AllReadyH.cons (o:=_) rfl (fun K hK => ?_) (AllReadyH.nil))
     ·go_simp
      go_at_call 25
      refine (HF0.o wd BD.o).mono ?_
      rintro e wf1 ⟨b6,I0,k0,rfl,o0⟩
      have BF1:=Kz (bnext BD.o b6)
      have O0:=Kz o0
      clear b6 o0
      refine hK.out _ _ (HPC.o _ BF1.o) (fun hHeld => ?_)
      clear hK K
      try simp only [tkS]
      refine wpAnyH_ready (rs:=[9,11]) (by kernel_rfl) (by simp) ?_
      refine AllReadyH.cons (o:=_) rfl (fun K hK => ?_) (AllReadyH.cons (o:=_) rfl (fun K hK => ?_) (AllReadyH.nil))
      ·go_simp
       go_at_call 25
       refine (HF1.o wf1 BF1.o).mono ?_
       rintro e wf2 ⟨b6,I1,k1,rfl,o1⟩
       have BF2:=Kz (bnext BF1.o b6)
       have O0:=Kz (O0.o.next b6)
       have O1:=Kz o1
       clear b6 o1
       refine hK.out _ _ (HPC.o _ BF2.o) (fun hHeld => ?_)
       clear hK K
       try simp only [tkS]
       refine tk 10 ?_
       simp only [tkS]
       refine Kr 11 fun K hK=>?_
       ·go_simp
        obtain ⟨wq3,hwq⟩:=Ky (wf2.alloc (.cells #[.slice none 0 0,.slice none 0 0] 45))
        obtain ⟨qb,hqb⟩:=Ky wf2.heap.size
        try rw [←hwq]
        try rw [←hqb]
        have ba:=Kv hwq
        have BF3:=Kz (bnext BF2.o ba)
        have HQ:=Kz (Kx hwq hqb)
        have HQ5:=Kz (show w5.heap.size≤qb from by rw [hqb];exact BF2.o.size)
        have O0:=Kz (O0.o.next ba)
        have O1:=Kz (O1.o.next ba)
        clear hwq hqb ba
        refine hK.out _ _ (HPC.o _ BF3.o) (fun hHeld => ?_)
        clear hK K
        try simp only [tkS]
        have v0:=Kaa 0 HQ.o
        have v1:=Kaa 1 HQ.o
        have g0:wq3.frozen? ⟨qb,0,none⟩=false:=by simp [World.frozen?,HQ.o]
        have g1:wq3.frozen? ⟨qb,1,none⟩=false:=by simp [World.frozen?,HQ.o]
        have HC:=Kz (din_done BF3.o HQ.o HQ5.o O0.o O1.o)
        refine Kr 12 fun K hK=>?_
        go_simp
        refine hK.out _ _ (HPC.o _ HC.o.bel) (fun hHeld => ?_)
        clear hK K
        try simp only [tkS]
        refine Kq ?_
        go_wp2_with fail
        go_meet
        exact ⟨qb,I0,I1,k0,k1,rfl,HC.o⟩
      ·go_simp
       obtain ⟨wq4,hwq⟩:=Ky (wf1.alloc (.cells #[.slice none 0 0,.slice none 0 0] 45))
       obtain ⟨qb,hqb⟩:=Ky wf1.heap.size
       try rw [←hwq]
       try rw [←hqb]
       have ba:=Kv hwq
       have BF4:=Kz (bnext BF1.o ba)
       have HQ:=Kz (Kx hwq hqb)
       have HQ5:=Kz (show w5.heap.size≤qb from by rw [hqb];exact BF1.o.size)
       have O0:=Kz (O0.o.next ba)
       clear hwq hqb ba
       refine hK.out _ _ (HPC.o _ BF4.o) (fun hHeld => ?_)
       clear hK K
       try simp only [tkS]
       refine Kr 9 fun K hK=>?_
       ·go_simp
        go_at_call 25
        refine (HF1.o wq4 BF4.o).mono ?_
        rintro e wf5 ⟨b6,I1,k1,rfl,o1⟩
        have BF5:=Kz (bnext BF4.o b6)
        have HQ:=Kz ((b6.block qb (Kab.1 HQ.o).1).trans HQ.o)
        have O0:=Kz (O0.o.next b6)
        have O1:=Kz o1
        clear b6 o1
        refine hK.out _ _ (HPC.o _ BF5.o) (fun hHeld => ?_)
        clear hK K
        try simp only [tkS]
        refine tk 10 ?_
        simp only [tkS]
        have v0:=Kaa 0 HQ.o
        have v1:=Kaa 1 HQ.o
        have g0:wf5.frozen? ⟨qb,0,none⟩=false:=by simp [World.frozen?,HQ.o]
        have g1:wf5.frozen? ⟨qb,1,none⟩=false:=by simp [World.frozen?,HQ.o]
        have HC:=Kz (din_done BF5.o HQ.o HQ5.o O0.o O1.o)
        refine Kr 12 fun K hK=>?_
        go_simp
        refine hK.out _ _ (HPC.o _ HC.o.bel) (fun hHeld => ?_)
        clear hK K
        try simp only [tkS]
        refine Kq ?_
        go_wp2_with fail
        go_meet
        exact ⟨qb,I0,I1,k0,k1,rfl,HC.o⟩
     ·go_simp
      obtain ⟨wq6,hwq⟩:=Ky (wd.alloc (.cells #[.slice none 0 0,.slice none 0 0] 45))
      obtain ⟨qb,hqb⟩:=Ky wd.heap.size
      try rw [←hwq]
      try rw [←hqb]
      have ba:=Kv hwq
      have BF6:=Kz (bnext BD.o ba)
      have HQ:=Kz (Kx hwq hqb)
      have HQ5:=Kz (show w5.heap.size≤qb from by rw [hqb];exact BD.o.size)
      clear hwq hqb ba
      refine hK.out _ _ (HPC.o _ BF6.o) (fun hHeld => ?_)
      clear hK K
      try simp only [tkS]
      refine Kr 4 fun K hK=>?_
      ·go_simp
       go_at_call 25
       refine (HF0.o wq6 BF6.o).mono ?_
       rintro e wf7 ⟨b6,I0,k0,rfl,o0⟩
       have BF7:=Kz (bnext BF6.o b6)
       have HQ:=Kz ((b6.block qb (Kab.1 HQ.o).1).trans HQ.o)
       have O0:=Kz o0
       clear b6 o0
       refine hK.out _ _ (HPC.o _ BF7.o) (fun hHeld => ?_)
       clear hK K
       try simp only [tkS]
       refine Kr 9 fun K hK=>?_
       ·go_simp
        go_at_call 25
        refine (HF1.o wf7 BF7.o).mono ?_
        rintro e wf8 ⟨b6,I1,k1,rfl,o1⟩
        have BF8:=Kz (bnext BF7.o b6)
        have HQ:=Kz ((b6.block qb (Kab.1 HQ.o).1).trans HQ.o)
        have O0:=Kz (O0.o.next b6)
        have O1:=Kz o1
        clear b6 o1
        refine hK.out _ _ (HPC.o _ BF8.o) (fun hHeld => ?_)
        clear hK K
        try simp only [tkS]
        refine tk 10 ?_
        simp only [tkS]
        have v0:=Kaa 0 HQ.o
        have v1:=Kaa 1 HQ.o
        have g0:wf8.frozen? ⟨qb,0,none⟩=false:=by simp [World.frozen?,HQ.o]
        have g1:wf8.frozen? ⟨qb,1,none⟩=false:=by simp [World.frozen?,HQ.o]
        have HC:=Kz (din_done BF8.o HQ.o HQ5.o O0.o O1.o)
        refine Kr 12 fun K hK=>?_
        go_simp
        refine hK.out _ _ (HPC.o _ HC.o.bel) (fun hHeld => ?_)
        clear hK K
        try simp only [tkS]
        refine Kq ?_
        go_wp2_with fail
        go_meet
        exact ⟨qb,I0,I1,k0,k1,rfl,HC.o⟩
    case rest=>
     obtain ⟨qb,I0,I1,k0,k1,rfl,hin⟩:=hcut
     obtain ⟨w6,hw6⟩:=Ky wc
     rw [←hw6] at hin ⊢
     have HIN:=Kz hin
     have HB56:=Kz hin.bel
     have HB36:=Kz (bnext HB35.o hin.bel)
     have HBX:=Kz (show ∀ W,Below w6.heap.size w6 W→W.cell? ⟨qb,0,none⟩=some (.slice I0 n0 k0)∧W.cell? ⟨qb,1,none⟩=some (.slice I1 n1 k1) from fun W hW=>by
      have h:=(hW.block _ (Kab.1 hin.bx).1).trans hin.bx
      exact ⟨Kaa 0 h,Kaa 1 h⟩)
     obtain ⟨V,hV⟩:=Ky (outD (fillP (Zae ss 0) a 0) (fillP (Zae ss 1) b 0) (ms.map Prod.fst) G.2)
     have HEV:=Kz (geval_any (Zae ss 0) (Zae ss 1) (fillP (Zae ss 0) a 0) (fillP (Zae ss 1) b 0) B nc oc NA OA ms G.2 A0 A1 I0 I1 n0 c0 n1 c1 k0 k1 w6 (HR5.o.next HB56.o) (HO5.o.next HB56.o) (H05.o.next HB56.o) (H15.o.next HB56.o) HWF.o HOU.o (by rw [←HL.o];exact hml) (by rw [←HON.o];exact hol) HQ8.o HQS0.o HQS1.o (fill_fits _ _ _) (fill_fits _ _ _) HIN.o.r0 HIN.o.r1 (HG3.o.next HB36.o))
     rw [←HL.o,←HON.o,←hV] at HEV
     have HVL:=Kz (show on=V.length from by rw [hV,HON.o];unfold outD;rw [Kak])
     have HEE:=Kz (fun W (hW:Below w6.heap.size w6 W)=>Zf6 SA EA ns ne sc ec ss es I0 I1 n0 n1 k0 k1 (fillP (Zae ss 0) a 0) (fillP (Zae ss 1) b 0) W hls.o hle.o (by omega) (by omega) (HS3.o.next (bnext HB36.o hW)) (HE3.o.next (bnext HB36.o hW)) (HG3.o.next (bnext HB36.o hW)) HNM.o HSP.o (by rw [ZdI];exact HN0.o) (by rw [ZdI];exact HN1.o) (by omega) (by omega) (HIN.o.r0.next hW) (HIN.o.r1.next hW))
     rw [keeps_law HBK.o (fill_fits _ _ _) (fill_fits _ _ _),←HFST.o,←hV] at HEE
     have HEE:=Kz (show ∀ W,Below w6.heap.size w6 W→Calls Tryz.prog 23 #[.agg #[.slice SA ns sc,.slice EA ne ec],.agg #[.slice I0 n0 k0,.slice I1 n1 k1]] W fun e w'=>Below W.heap.size W w'∧∃ A c,e=.returned (.tuple #[.slice A on c,.nilIface])∧OutT w' W.heap.size A on c V from fun W hW=>(HEE.o W hW).mono fun e w' h=>by rw [HVL.o];exact h)
     clear hV hin hw6 HPC HF0 HF1
     obtain ⟨y0,y1,y2,y3⟩:=HGC.o _ HB56.o
     obtain ⟨z2,z3⟩:=HBX.o _ (Kai _ _)
     go_upto_region 14 with (go_at_call 41;refine HEV.o.mono ?_;rintro e w7 ⟨b7,A7,c7,D7,rfl,hD7,o7⟩;have HB7:=Kz b7;have HO7:=Kz o7;clear b7 hD7 o7)
     clear y0 y1 y2 y3 z2 z3
     obtain ⟨z0,z1⟩:=HTC.o _ (bnext HB36.o HB7.o)
     obtain ⟨z2,z3⟩:=HBX.o _ HB7.o
     go_upto_region 15 with (go_at_call 23;refine (HEE.o w7 HB7.o).mono ?_;rintro e w8 ⟨b8,A8,c8,rfl,o8⟩;have HB8:=Kz (bnext HB7.o b8);have HO7:=Kz (HO7.o.next b8);have HO8:=Kz o8;clear b8 o8)
     clear z0 z1 z2 z3
     have HSA:=Kz (ZlG A7 A8 on c7 c8 V w8 HVL.o (by omega) (outT_rd HO7.o) (outT_rd HO8.o))
     have hwk:IntKind.i64.wrap ((k:Int)+1)=((k+1:Nat):Int):=by rw [few_w _ (by omega) (by omega)];omega
     go_wp2_with (go_at_call 26;refine HSA.o.mono ?_;rintro e w9 ⟨rfl,b9⟩;have HB9:=Kz (bnext HB8.o b9);clear b9)
     exact ⟨⟨k+1,by omega,rfl,fun _=>HK1.o,bnext HB36.o HB9.o⟩,by simp [intOf];omega⟩
  ·obtain rfl:8=k:=by omega
   go_wp2_with fail
   go_ret
   exact ⟨rfl,HB0r.o⟩
 ·obtain ⟨ti,xi,rfl⟩:=hv.iface
  have HB2:=Kz (bnext HB1.o hb2)
  clear hb2 hv hl he
  go_wp2_with fail
  go_ret
  exact ⟨rfl,HB2.o.alloc HB2.o.size _⟩
 ·obtain ⟨ti,xi,rfl⟩:=hv.iface
  have HB2:=Kz (bnext HB1.o hb2)
  clear hb2 hv hl
  go_wp2_with fail
  go_ret
  exact ⟨rfl,HB2.o.alloc HB2.o.size _⟩
end Go.Proofs.YtghlnncfigkkaaaGreatDoor
