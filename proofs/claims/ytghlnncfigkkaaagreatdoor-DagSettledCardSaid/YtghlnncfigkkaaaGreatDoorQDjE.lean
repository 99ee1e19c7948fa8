/-
 The walk of the law DagSettled.
-/
import Derived.Test.YtghlnncfigkkaaaGreatDoorQDgJ
import Derived.Test.YtghlnncfigkkaaaGreatDoorQParA
import Derived.Deep.RegionHeld3
import Derived.Test.YtghlnncfigkkaaaGreatDoorQDjD
import Derived.Test.YtghlnncfigkkaaaGreatDoorQDjC
import Derived.Test.YtghlnncfigkkaaaGreatDoorQOpen
import Derived.Lib.SmallJoins
set_option maxRecDepth 100000
set_option maxHeartbeats 16000000
set_option linter.unusedVariables false
set_option linter.unusedSimpArgs false
namespace Go.Proofs.YtghlnncfigkkaaaGreatDoor
open Go.RowKit
theorem DagSettled_walk (w:World) (hg:ETyped w) (ht:ErrT w) (s:ByteArray) (hsz:s.size≤maxLen) (fb sb db:Bool) (Aa:Option Addr) (ca:Nat) (a:List UInt64) (hlc:a.length≤ca) (hcm:ca≤17592186043904) (hA:Rd w w.heap.size Aa (a.map U)):
  Calls Tryz.prog 13 #[.string s,.agg #[.bool fb,.bool sb,.bool db],.slice Aa a.length ca] w fun e w'=>e=.returned (.bool true)∧Below w.heap.size w w':=by
 obtain ⟨na,hna⟩:=Ky a.length
 rw [←hna]
 have b1:na≤9223372036854775807:=by omega
 obtain ⟨w0,hw0⟩:=Ky (w.alloc (.cells #[.bool fb,.bool sb,.bool db] 72))
 obtain ⟨ob,hob⟩:=Ky w.heap.size
 have hb0:=Kv hw0
 have hO:=Kx hw0 hob
 have HOC:=Kz (show ∀ W,Below w0.heap.size w0 W→W.cell? ⟨ob,0,none⟩=some (.bool fb)∧W.cell? ⟨ob,1,none⟩=some (.bool sb)∧W.cell? ⟨ob,2,none⟩=some (.bool db) from fun W hW=>by
  have h:=(hW.block _ (Kab.1 hO).1).trans hO
  exact ⟨Kaa 0 h,Kaa 1 h,Kaa 2 h⟩)
 have HW:=Kz (dawake_true w0 (hg.next hb0) (ht.next hb0))
 have HG:=Kz (hg.next hb0)
 have ht:=ht.next hb0
 obtain ⟨s2,hs2⟩:=Ky (s.extract 0 (minN s.size 4200))
 have hz2:s2.size≤100000:=by
  have:=(Zjt s.size 4200).2.1
  rw [hs2,ByteArray.size_extract]
  omega
 obtain ⟨F,hF,hF2⟩:∃ F,(∀ l,scanM s2=.toks l→12*l.length+20≤F)∧F≤10000:=by
  cases h:scanM s2 with
  | toks l=>exact ⟨12*l.length+20,fun l' h'=>by injection h' with h';subst h';exact Kag _,by have:=(ZdU h).1;omega⟩
  | err c p=>exact ⟨0,fun l' h'=>(by cases h'),by omega⟩
 have HF:=Kz hF
 have HZ2:=Kz hz2
 have HCUT:=Kz (fun W=>Zml s hsz W)
 rw [←hs2] at HCUT
 have HT:=Kz ht
 have HA:=Kz hA
 have HNA:=Kz hna
 have HB0:=Kz hb0
 have HW0:=Kz hw0
 have HOB:=Kz hob
 clear hs2 hz2 hF hg ht hA hna hw0 hob hb0 hO hlc hcm
 go_enter Tryz.func13,Tryz.ntmps13
 go_upto_region 1 with fail
 rw [←HW0.o,←HOB.o]
 go_wp2_with (first
  | (go_at_call 33;refine HW.o.mono ?_;rintro e w1 ⟨rfl,b1⟩;have HB1:=Kz (bnext HB0.o b1);have HG1:=Kz (HG.o.next b1);have HT1:=Kz (HT.o.next b1);have HB01:=Kz b1;clear b1)
  | (go_at_call 17;refine (HCUT.o _).mono ?_;rintro e w' ⟨rfl,rfl⟩))
 refine (Zhh s2 F w1 HZ2.o HG1.o HT1.o HF.o).mono ?_
 rintro e w2 ⟨hb2,h⟩
 rcases h with ⟨l,hl,he,SA,sc,EA,ec,rfl,oS,oE⟩ | ⟨l,c,p,v,hl,he,rfl,hv⟩ | ⟨c,p,v,hl,rfl,hv⟩
 ·have hlen:=(ZdU hl).1
  have hns:=Zih he
  have hne:=ZlE F l
  have hnm:=ZhK (ZhJ hl) F
  have hsp:=ZkK (Zgp hl) F
  have hS:=oS.int
  have hE:=oE.int
  obtain ⟨ss,hss⟩:=Ky ((Zao F l).ss.map SI.of)
  obtain ⟨es,hes⟩:=Ky ((Zao F l).es.map EI.of)
  rw [←hss] at hS
  rw [←hes] at hE
  have HNM:=Kz (show ∀ e∈es,e.num≤18446744073709551615 from fun e he=>by
   rw [hes] at he
   obtain ⟨x,hx,rfl⟩:=List.mem_map.1 he
   exact hnm x hx)
  have HSP:=Kz (show ∀ s∈ss,s.shape.length≤1000000 from fun e he=>by
   rw [hss] at he
   obtain ⟨x,hx,rfl⟩:=List.mem_map.1 he
   have:=(hsp x hx).2
   show (x.shape.map Int.ofNat).length≤_
   rw [Kak]
   omega)
  obtain ⟨ns,hn1⟩:=Ky ((Zao F l).ss.length)
  obtain ⟨ne,hn2⟩:=Ky ((Zao F l).es.length)
  have hls:=Kz (show ns=ss.length from by rw [hss,Kak,hn1])
  have hle:=Kz (show ne=es.length from by rw [hes,Kak,hn2])
  have hns':ns≤64:=by rw [hn1];exact hns
  have hne':ne≤513:=by rw [hn2];exact Kah hne hlen
  rw [←hn1,←hn2]
  have HG2:=Kz (HG1.o.next hb2)
  have HB2:=Kz (bnext HB1.o hb2)
  have HS2:=Kz hS
  have HB02:=Kz (bnext HB01.o hb2)
  have HE2:=Kz hE
  clear hlen hns hne hS hE hss hes hn1 hn2 oS oE hl he hb2 hnm hsp
  go_upto_region 6 with fail
  obtain ⟨w3,hw3⟩:=Ky (w2.alloc (.cells #[.slice SA ns sc,.slice EA ne ec] 26))
  rw [←hw3]
  have hb3:=Kv hw3
  have hA:=Kw hw3
  have HTC:=Kz (show ∀ W,Below w3.heap.size w3 W→W.cell? ⟨w2.heap.size,0,none⟩=some (.slice SA ns sc)∧W.cell? ⟨w2.heap.size,1,none⟩=some (.slice EA ne ec) from fun W hW=>by
   have h:=(hW.block _ (Kab.1 hA).1).trans hA
   exact ⟨Kaa 0 h,Kaa 1 h⟩)
  have HB3:=Kz (bnext HB2.o hb3)
  have HB03:=Kz (bnext HB02.o hb3)
  have HS3:=Kz (HS2.o.next hb3)
  have HE3:=Kz (HE2.o.next hb3)
  have HG3:=Kz (HG2.o.next hb3)
  obtain ⟨o0,o1,o2⟩:=HOC.o w3 HB03.o
  obtain ⟨z0,z1⟩:=HTC.o w3 (Kai _ _)
  have HBD:=Kz (build_any SA EA ns ne sc ec ss es fb sb db w3 hls.o hle.o (by omega) (by omega) HS3.o HE3.o HG3.o HNM.o HSP.o)
  clear hw3 hb3 hA
  cases hbd:buildD fb sb db ss es with
  | inr c=>
   rw [hbd] at HBD
   go_wp2_with (go_at_call 34;refine HBD.o.mono ?_;rintro e w4 hb;obtain ⟨hb4,ti,xi,ps,rfl,hve⟩:=hb.bad)
   go_ret
   exact ⟨rfl,(bnext HB3.o hb4).alloc (Kah HB3.o.size hb4.size) _⟩
  | inl G=>
   rw [hbd] at HBD
   have HBK:=Kz hbd
   clear hbd
   go_upto_region 9 with (go_at_call 34;refine HBD.o.mono ?_;rintro e w4 hb;obtain ⟨hb4,NA,nc,ms,OA,oc,A0,n0,c0,A1,n1,c1,B,rfl,hB,hfst,hr,ho,h0,h1⟩:=hb.ok)
   clear o0 o1 o2 z0 z1
   have HFST:=Kz hfst
   obtain ⟨q8,qs0,qs1⟩:=built_in HBK.o
   obtain ⟨wf1,wf2,wf3,wf4⟩:=built_wf HBK.o
   have hml:ms.length≤64:=by have:=congrArg List.length hfst;rw [Kak] at this;omega
   have hol:G.2.length≤1000:=by have:=hls.o;have:=outsN_le ss;omega
   have HWF:=Kz (show WfD (Zae ss 0) (Zae ss 1) (ms.map Prod.fst) from by rw [hfst];exact wf1)
   have HOU:=Kz (show ∀ o∈G.2,o<ms.length from fun o h=>by have:=wf2 o h;rw [←hfst,Kak] at this;exact this)
   have HQ8:=Kz q8
   have HQS0:=Kz qs0
   have HQS1:=Kz qs1
   obtain ⟨on,hon⟩:=Ky G.2.length
   obtain ⟨L,hL⟩:=Ky ms.length
   rw [←hon,←hL]
   obtain ⟨w5,hw5⟩:=Ky (w4.alloc (.cells #[.slice NA L nc,.slice OA on oc,.slice A0 n0 c0,.slice A1 n1 c1] 68))
   obtain ⟨gb,hgb⟩:=Ky w4.heap.size
   rw [←hw5,←hgb]
   have hb5:=Kv hw5
   have hGB:=Kx hw5 hgb
   have HGC:=Kz (show ∀ W,Below w5.heap.size w5 W→W.cell? ⟨gb,0,none⟩=some (.slice NA L nc)∧W.cell? ⟨gb,1,none⟩=some (.slice OA on oc)∧W.cell? ⟨gb,2,none⟩=some (.slice A0 n0 c0)∧W.cell? ⟨gb,3,none⟩=some (.slice A1 n1 c1) from fun W hW=>by
    have h:=(hW.block _ (Kab.1 hGB).1).trans hGB
    exact ⟨Kaa 0 h,Kaa 1 h,Kaa 2 h,Kaa 3 h⟩)
   have hsm:∀ l:List (List Int),(∀ x∈l,Zad x≠0)→∀ x∈l,x.length≤1000000:=fun l h x hx=>by have:=sh_small (h x hx);omega
   obtain ⟨r0,e0⟩:=h0.rd (hsm _ qs0)
   obtain ⟨r1,e1⟩:=h1.rd (hsm _ qs1)
   have R0:=Kz (r0.next hb5)
   have R1:=Kz (r1.next hb5)
   have HN0:=Kz e0
   have HN1:=Kz e1
   have hl0:n0≤1000:=by omega
   have hl1:n1≤1000:=by omega
   have HR5:=Kz (hr.next hb5)
   have HO5:=Kz (ho.next hb5)
   have H05:=Kz (h0.next hb5)
   have H15:=Kz (h1.next hb5)
   have HB45:=Kz (bnext hb4 hb5)
   have HL:=Kz hL
   have HON:=Kz hon
   have HW5:=Kz hw5
   have HGBE:=Kz hgb
   rw [←hL] at hml
   rw [←hon] at hol
   clear hb4 hB hfst hr ho h0 h1 hon hL hw5 hgb hb5 hGB r0 e0 r1 e1 hsm q8 qs0 qs1 wf1 wf2 wf3 wf4
   have HB5:=Kz (bnext HB3.o HB45.o)
   obtain ⟨y0,y1,y2,y3⟩:=HGC.o w5 (Kai _ _)
   go_wp2_with fail
   clear y0 y1 y2 y3
   go_loopw [39] (fun iv wr=>∃ i:Nat,i≤L∧iv=.int .i64 i∧Below w5.heap.size w5 wr) (fun iv _=>L-(intOf iv).toNat)
   case atStart=>exact ⟨0,by omega,rfl,Kai _ _⟩
   case round=>
   obtain ⟨i,hi,rfl,hb⟩:=hrel
   have HBr:=Kz hb
   clear hb
   by_cases hlt:i<L
   ·obtain ⟨⟨n,⟨sv,av,ev⟩⟩,hmi⟩:∃ x,ms[i]?=some x:=⟨ms[i]'(by rw [←HL.o];exact hlt),Kad _⟩
    obtain ⟨q,hNA,hql,hc,hv⟩:=HR5.o.at_ hmi
    subst hNA
    obtain ⟨_,hla,_,⟨X1,x1,e1,_⟩,⟨X2,x2,e2,oa⟩,X3,x3,e3,_⟩:=hv
    change sv=.slice X1 n.shape.length x1 at e1
    change av=.slice X2 n.args.length x2 at e2
    change ev=.slice X3 n.elems.length x3 at e3
    subst e1 e2 e3
    change n.args.length≤1000000 at hla
    have HAH:=Kz (HWF.o i n (by rw [Kal,hmi];rfl)).ahead
    have HRA:=Kz (show ∀ W,Below w5.heap.size w5 W→Rd W W.heap.size X2 (n.args.map VNt) from fun W hW=>oa.rd.next hW)
    have c0':wr.cell? ⟨q,i*7,none⟩=some (.int .i64 n.kind):=(HBr.o.cell (p:=⟨q,i*7,none⟩) hql).trans (hc 0 _ rfl (by omega))
    have c1':wr.cell? ⟨q,i*7+1,none⟩=some (.slice X1 n.shape.length x1):=(HBr.o.cell (p:=⟨q,i*7+1,none⟩) hql).trans (hc 1 _ rfl (by omega))
    have c2':wr.cell? ⟨q,i*7+2,none⟩=some (.slice X2 n.args.length x2):=(HBr.o.cell (p:=⟨q,i*7+2,none⟩) hql).trans (hc 2 _ rfl (by omega))
    have c3':wr.cell? ⟨q,i*7+3,none⟩=some (.int .i64 n.party):=(HBr.o.cell (p:=⟨q,i*7+3,none⟩) hql).trans (hc 3 _ rfl (by omega))
    have c4':wr.cell? ⟨q,i*7+4,none⟩=some (.int .i64 n.input):=(HBr.o.cell (p:=⟨q,i*7+4,none⟩) hql).trans (hc 4 _ rfl (by omega))
    have c5':wr.cell? ⟨q,i*7+5,none⟩=some (.int .i64 n.k):=(HBr.o.cell (p:=⟨q,i*7+5,none⟩) hql).trans (hc 5 _ rfl (by omega))
    have c6':wr.cell? ⟨q,i*7+6,none⟩=some (.slice X3 n.elems.length x3):=(HBr.o.cell (p:=⟨q,i*7+6,none⟩) hql).trans (hc 6 _ rfl (by omega))
    obtain ⟨w8,hw8⟩:=Ky (wr.alloc (.cells #[.int .i64 n.kind,.slice X1 n.shape.length x1,.slice X2 n.args.length x2,.int .i64 n.party,.int .i64 n.input,.int .i64 n.k,.slice X3 n.elems.length x3] 77))
    obtain ⟨nb,hnb⟩:=Ky wr.heap.size
    have HN8:=Kz (Kx hw8 hnb)
    have HB58:=Kz (show Below w5.heap.size w5 w8 from by rw [hw8];exact HBr.o.alloc HBr.o.size _)
    have HW8:=Kz hw8
    have HNB:=Kz hnb
    have i0:(0:Int)≤(i:Int):=by omega
    have i1:(i:Int)<(L:Int):=by omega
    clear hmi hc oa hw8 hnb
    go_upto_region 12 with fail
    rw [←HW8.o,←HNB.o]
    clear c0' c1' c2' c3' c4' c5' c6'
    have e2:=Kaa 2 HN8.o
    go_wp2_with fail
    clear e2
    go_loopw [47] (fun jv wq=>∃ k:Nat,k≤n.args.length∧jv=.int .i64 k∧Below w8.heap.size w8 wq) (fun jv _=>n.args.length-(intOf jv).toNat)
    case atStart=>exact ⟨0,by omega,rfl,Kai _ _⟩
    case round=>
    rename World=>wq
    obtain ⟨k,hk,rfl,hbq⟩:=hrel
    have HBQ:=Kz hbq
    clear hbq
    by_cases hlk:k<n.args.length
    ·have htk:n.args[k]?=some (n.args[k]'hlk):=Kad _
     obtain ⟨x,hx⟩:=Ky (n.args[k]'hlk)
     rw [←hx] at htk
     have ha:=HAH.o x (Kam htk)
     obtain ⟨b2,o2,hX2,hbl2,d1⟩:=(HRA.o _ (bnext HB58.o HBQ.o)).at_ (show (n.args.map VNt)[k]?=some (VNt x) by rw [Kal,htk];rfl)
     have d0:wq.cell? ⟨b2,o2+k,none⟩=some (.int .i64 (x:Int)):=d1
     subst hX2
     have j0:(0:Int)≤(k:Int):=by omega
     have j1:(k:Int)<(n.args.length:Int):=by omega
     have t1:decide ((x:Int)<0)=false:=decide_eq_false (by omega)
     have t2:decide ((x:Int) ≥ (i:Int))=false:=decide_eq_false (by omega)
     have t2':decide ((i:Int)≤(x:Int))=false:=t2
     have t3:decide (i≤x)=false:=decide_eq_false (by omega)
     have t4:¬ (i≤x):=by omega
     have t5:decide (x<i)=true:=decide_eq_true ha
     clear htk hx ha hbl2 d1
     go_wp2_with fail
     exact ⟨⟨k+1,by omega,rfl,HBQ.o⟩,by simp [intOf];omega⟩
    ·obtain rfl:n.args.length=k:=by omega
     go_wp2_with fail
     exact ⟨⟨i+1,by omega,rfl,bnext HB58.o HBQ.o⟩,by simp [intOf];omega⟩
   ·obtain rfl:L=i:=by omega
    have HB0r:=Kz (bnext HB5.o HBr.o)
    have HPC:=Kz (fun W (hW:Below wr.heap.size wr W)=>(show W.cell? ⟨gb,2,none⟩=some (.slice A0 n0 c0)∧W.cell? ⟨gb,3,none⟩=some (.slice A1 n1 c1) from ⟨(HGC.o W (bnext HBr.o hW)).2.2.1,(HGC.o W (bnext HBr.o hW)).2.2.2⟩))
    have HF0:=Kz (fun W (hW:Below wr.heap.size wr W)=>ZgX A0 n0 c0 (Zae ss 0) Aa na ca a W HN0.o HNA.o hl0 b1 (R0.o.next (bnext HBr.o hW)) ((HA.o.below (bnext HB0r.o hW)).more (bnext HB0r.o hW).size))
    have HF1:=Kz (fun W (hW:Below wr.heap.size wr W)=>ZgX A1 n1 c1 (Zae ss 1) Aa na ca a W HN1.o HNA.o hl1 b1 (R1.o.next (bnext HBr.o hW)) ((HA.o.below (bnext HB0r.o hW)).more (bnext HB0r.o hW).size))
    go_upto_region 19 with fail
    go_cut [14] (fun pv wx=>DCut wr n0 n1 (fillP (Zae ss 0) a 0) (fillP (Zae ss 1) a 0) pv wx)
    case first=>
     refine wp_region_held_drew (S:=(fun w'=>w'.cell? ⟨gb,2,none⟩=some (.slice A0 n0 c0)∧w'.cell? ⟨gb,3,none⟩=some (.slice A1 n1 c1))) (by kernel_rfl) (HPC.o _ (Kai _ _).drew) (fun hHeld => ?_)
     obtain ⟨wd,hwd⟩:=Ky wr.drew
     rw [←hwd] at hHeld ⊢
     have BD:=Kz (show Below wr.heap.size wr wd from by rw [hwd];exact (Kai _ _).drew)
     clear hwd
     refine tk 0 ?_
     simp only [tkS]
     refine tk 1 ?_
     simp only [tkS]
     refine tk 2 ?_
     simp only [tkS]
     refine tk 3 ?_
     simp only [tkS]
     refine tk 5 ?_
     simp only [tkS]
     refine tk 6 ?_
     simp only [tkS]
     refine tk 7 ?_
     simp only [tkS]
     refine tk 8 ?_
     simp only [tkS]
     refine wpAnyH_ready (rs:=[4,11]) (by kernel_rfl) (by simp) ?_
     refine AllReadyH.cons (o:=_) rfl (fun K hK => ?_) (AllReadyH.cons (o:=_) rfl (fun K hK => ?_) (AllReadyH.nil))
     ·go_simp
      go_at_call 25
      refine (HF0.o wd BD.o).mono ?_
      rintro e wf1 ⟨b6,I0,k0,rfl,o0⟩
      have BF1:=Kz (bnext BD.o b6)
      have O0:=Kz o0
      clear b6 o0
      refine hK.out _ _ (HPC.o _ BF1.o) (fun hHeld => ?_)
      clear hK K
      try simp only [tkS]
      refine wpAnyH_ready (rs:=[9,11]) (by kernel_rfl) (by simp) ?_
      refine AllReadyH.cons (o:=_) rfl (fun K hK => ?_) (AllReadyH.cons (o:=_) rfl (fun K hK => ?_) (AllReadyH.nil))
      ·go_simp
       go_at_call 25
       refine (HF1.o wf1 BF1.o).mono ?_
       rintro e wf2 ⟨b6,I1,k1,rfl,o1⟩
       have BF2:=Kz (bnext BF1.o b6)
       have O0:=Kz (O0.o.next b6)
       have O1:=Kz o1
       clear b6 o1
       refine hK.out _ _ (HPC.o _ BF2.o) (fun hHeld => ?_)
       clear hK K
       try simp only [tkS]
       refine tk 10 ?_
       simp only [tkS]
       refine Kr 11 fun K hK=>?_
       ·go_simp
        obtain ⟨wq3,hwq⟩:=Ky (wf2.alloc (.cells #[.slice none 0 0,.slice none 0 0] 45))
        obtain ⟨qb,hqb⟩:=Ky wf2.heap.size
        try rw [←hwq]
        try rw [←hqb]
        have ba:=Kv hwq
        have BF3:=Kz (bnext BF2.o ba)
        have HQ:=Kz (Kx hwq hqb)
        have HQ5:=Kz (show wr.heap.size≤qb from by rw [hqb];exact BF2.o.size)
        have O0:=Kz (O0.o.next ba)
        have O1:=Kz (O1.o.next ba)
        clear hwq hqb ba
        refine hK.out _ _ (HPC.o _ BF3.o) (fun hHeld => ?_)
        clear hK K
        try simp only [tkS]
        have v0:=Kaa 0 HQ.o
        have v1:=Kaa 1 HQ.o
        have g0:wq3.frozen? ⟨qb,0,none⟩=false:=by simp [World.frozen?,HQ.o]
        have g1:wq3.frozen? ⟨qb,1,none⟩=false:=by simp [World.frozen?,HQ.o]
        have HC:=Kz (din_done BF3.o HQ.o HQ5.o O0.o O1.o)
        refine Kr 12 fun K hK=>?_
        go_simp
        refine hK.out _ _ (HPC.o _ HC.o.bel) (fun hHeld => ?_)
        clear hK K
        try simp only [tkS]
        refine Kq ?_
        go_wp2_with fail
        go_meet
        exact ⟨qb,I0,I1,k0,k1,rfl,HC.o⟩
      ·go_simp
       obtain ⟨wq4,hwq⟩:=Ky (wf1.alloc (.cells #[.slice none 0 0,.slice none 0 0] 45))
       obtain ⟨qb,hqb⟩:=Ky wf1.heap.size
       try rw [←hwq]
       try rw [←hqb]
       have ba:=Kv hwq
       have BF4:=Kz (bnext BF1.o ba)
       have HQ:=Kz (Kx hwq hqb)
       have HQ5:=Kz (show wr.heap.size≤qb from by rw [hqb];exact BF1.o.size)
       have O0:=Kz (O0.o.next ba)
       clear hwq hqb ba
       refine hK.out _ _ (HPC.o _ BF4.o) (fun hHeld => ?_)
       clear hK K
       try simp only [tkS]
       refine Kr 9 fun K hK=>?_
       ·go_simp
        go_at_call 25
        refine (HF1.o wq4 BF4.o).mono ?_
        rintro e wf5 ⟨b6,I1,k1,rfl,o1⟩
        have BF5:=Kz (bnext BF4.o b6)
        have HQ:=Kz ((b6.block qb (Kab.1 HQ.o).1).trans HQ.o)
        have O0:=Kz (O0.o.next b6)
        have O1:=Kz o1
        clear b6 o1
        refine hK.out _ _ (HPC.o _ BF5.o) (fun hHeld => ?_)
        clear hK K
        try simp only [tkS]
        refine tk 10 ?_
        simp only [tkS]
        have v0:=Kaa 0 HQ.o
        have v1:=Kaa 1 HQ.o
        have g0:wf5.frozen? ⟨qb,0,none⟩=false:=by simp [World.frozen?,HQ.o]
        have g1:wf5.frozen? ⟨qb,1,none⟩=false:=by simp [World.frozen?,HQ.o]
        have HC:=Kz (din_done BF5.o HQ.o HQ5.o O0.o O1.o)
        refine Kr 12 fun K hK=>?_
        go_simp
        refine hK.out _ _ (HPC.o _ HC.o.bel) (fun hHeld => ?_)
        clear hK K
        try simp only [tkS]
        refine Kq ?_
        go_wp2_with fail
        go_meet
        exact ⟨qb,I0,I1,k0,k1,rfl,HC.o⟩
     ·go_simp
      obtain ⟨wq6,hwq⟩:=Ky (wd.alloc (.cells #[.slice none 0 0,.slice none 0 0] 45))
      obtain ⟨qb,hqb⟩:=Ky wd.heap.size
      try rw [←hwq]
      try rw [←hqb]
      have ba:=Kv hwq
      have BF6:=Kz (bnext BD.o ba)
      have HQ:=Kz (Kx hwq hqb)
      have HQ5:=Kz (show wr.heap.size≤qb from by rw [hqb];exact BD.o.size)
      clear hwq hqb ba
      refine hK.out _ _ (HPC.o _ BF6.o) (fun hHeld => ?_)
      clear hK K
      try simp only [tkS]
      refine Kr 4 fun K hK=>?_
      ·go_simp
       go_at_call 25
       refine (HF0.o wq6 BF6.o).mono ?_
       rintro e wf7 ⟨b6,I0,k0,rfl,o0⟩
       have BF7:=Kz (bnext BF6.o b6)
       have HQ:=Kz ((b6.block qb (Kab.1 HQ.o).1).trans HQ.o)
       have O0:=Kz o0
       clear b6 o0
       refine hK.out _ _ (HPC.o _ BF7.o) (fun hHeld => ?_)
       clear hK K
       try simp only [tkS]
       refine Kr 9 fun K hK=>?_
       ·go_simp
        go_at_call 25
        refine (HF1.o wf7 BF7.o).mono ?_
        rintro e wf8 ⟨b6,I1,k1,rfl,o1⟩
        have BF8:=Kz (bnext BF7.o b6)
        have HQ:=Kz ((b6.block qb (Kab.1 HQ.o).1).trans HQ.o)
        have O0:=Kz (O0.o.next b6)
        have O1:=Kz o1
        clear b6 o1
        refine hK.out _ _ (HPC.o _ BF8.o) (fun hHeld => ?_)
        clear hK K
        try simp only [tkS]
        refine tk 10 ?_
        simp only [tkS]
        have v0:=Kaa 0 HQ.o
        have v1:=Kaa 1 HQ.o
        have g0:wf8.frozen? ⟨qb,0,none⟩=false:=by simp [World.frozen?,HQ.o]
        have g1:wf8.frozen? ⟨qb,1,none⟩=false:=by simp [World.frozen?,HQ.o]
        have HC:=Kz (din_done BF8.o HQ.o HQ5.o O0.o O1.o)
        refine Kr 12 fun K hK=>?_
        go_simp
        refine hK.out _ _ (HPC.o _ HC.o.bel) (fun hHeld => ?_)
        clear hK K
        try simp only [tkS]
        refine Kq ?_
        go_wp2_with fail
        go_meet
        exact ⟨qb,I0,I1,k0,k1,rfl,HC.o⟩
    case rest=>
     obtain ⟨qb,I0,I1,k0,k1,rfl,hin⟩:=hcut
     obtain ⟨w6,hw6⟩:=Ky wc
     rw [←hw6] at hin ⊢
     have HIN:=Kz hin
     have HB56:=Kz (bnext HBr.o hin.bel)
     have HB06:=Kz (bnext HB0r.o hin.bel)
     have HBX:=Kz (show ∀ W,Below w6.heap.size w6 W→W.cell? ⟨qb,0,none⟩=some (.slice I0 n0 k0)∧W.cell? ⟨qb,1,none⟩=some (.slice I1 n1 k1) from fun W hW=>by
      have h:=(hW.block _ (Kab.1 hin.bx).1).trans hin.bx
      exact ⟨Kaa 0 h,Kaa 1 h⟩)
     obtain ⟨V,hV⟩:=Ky (outD (fillP (Zae ss 0) a 0) (fillP (Zae ss 1) a 0) (ms.map Prod.fst) G.2)
     have HEV:=Kz (fun W (hW:Below w6.heap.size w6 W)=>geval_any (Zae ss 0) (Zae ss 1) (fillP (Zae ss 0) a 0) (fillP (Zae ss 1) a 0) B nc oc NA OA ms G.2 A0 A1 I0 I1 n0 c0 n1 c1 k0 k1 W (HR5.o.next (bnext HB56.o hW)) (HO5.o.next (bnext HB56.o hW)) (H05.o.next (bnext HB56.o hW)) (H15.o.next (bnext HB56.o hW)) HWF.o HOU.o (by rw [←HL.o];exact hml) (by rw [←HON.o];exact hol) HQ8.o HQS0.o HQS1.o (fill_fits _ _ _) (fill_fits _ _ _) (HIN.o.r0.next hW) (HIN.o.r1.next hW) (HG3.o.next (bnext HB45.o (bnext HB56.o hW))))
     rw [←HL.o,←HON.o,←hV] at HEV
     have HVL:=Kz (show on=V.length from by rw [hV,HON.o];unfold outD;rw [Kak])
     have HGK:=Kz (fun W (hW:Below w6.heap.size w6 W)=>gcheck_any (Zae ss 0) (Zae ss 1) B nc oc NA OA ms G.2 A0 A1 n0 c0 n1 c1 W (HR5.o.next (bnext HB56.o hW)) (HO5.o.next (bnext HB56.o hW)) (H05.o.next (bnext HB56.o hW)) (H15.o.next (bnext HB56.o hW)) HWF.o HOU.o (by rw [←HL.o];exact hml) (by rw [←HON.o];exact hol) HQ8.o HQS0.o HQS1.o (HG3.o.next (bnext HB45.o (bnext HB56.o hW))))
     rw [←HL.o,←HON.o] at HGK
     clear hV hin hw6 HPC HF0 HF1
     obtain ⟨y0,y1,y2,y3⟩:=HGC.o _ HB56.o
     obtain ⟨z2,z3⟩:=HBX.o _ (Kai _ _)
     go_upto_region 21 with (go_at_call 41;refine (HEV.o w6 (Kai _ _)).mono ?_;rintro e w7 ⟨b7,A7,c7,D7,rfl,hD7,o7⟩;have HB7:=Kz b7;have HO7:=Kz o7;clear b7 hD7 o7)
     clear y0 y1 y2 y3 z2 z3
     obtain ⟨y0,y1,y2,y3⟩:=HGC.o _ (bnext HB56.o HB7.o)
     obtain ⟨z2,z3⟩:=HBX.o _ HB7.o
     go_upto_region 22 with (go_at_call 41;refine (HEV.o w7 HB7.o).mono ?_;rintro e w8 ⟨b8,A8,c8,D8,rfl,hD8,o8⟩;have HB8:=Kz (bnext HB7.o b8);have HO7:=Kz (HO7.o.next b8);have HO8:=Kz o8;clear b8 hD8 o8)
     clear y0 y1 y2 y3 z2 z3
     obtain ⟨y0,y1,y2,y3⟩:=HGC.o _ (bnext HB56.o HB8.o)
     go_wp2_with (first
      | (go_at_call 40;refine (HGK.o w8 HB8.o).mono ?_;rintro e w9 ⟨rfl,b9⟩;have HB9:=Kz b9;clear b9)
      | (go_at_call 26;refine (ZlG A7 A8 on c7 c8 V w9 HVL.o (by omega) (outT_rd (HO7.o.next HB9.o)) (outT_rd (HO8.o.next HB9.o))).mono ?_;rintro e w10 ⟨rfl,b10⟩;have HB10:=Kz (bnext HB9.o b10);clear b10))
     go_ret
     exact ⟨rfl,bnext HB06.o (bnext HB8.o HB10.o)⟩
 ·obtain ⟨ti,xi,rfl⟩:=hv.iface
  have HB2:=Kz (bnext HB1.o hb2)
  clear hb2 hv hl he
  go_wp2_with fail
  go_ret
  exact ⟨rfl,HB2.o.alloc HB2.o.size _⟩
 ·obtain ⟨ti,xi,rfl⟩:=hv.iface
  have HB2:=Kz (bnext HB1.o hb2)
  clear hb2 hv hl
  go_wp2_with fail
  go_ret
  exact ⟨rfl,HB2.o.alloc HB2.o.size _⟩
set_option maxRecDepth 100000
open Go.ChangeShapes Go.WideShapes Go.ChangeAt Go.RowKit Go.Joins
theorem open_opt {H:Type} {enc:TypeId × Value→H} {w:World} {r:Reach} {b0:Nat} {v:Value} {d:DataW H} {p:List MemPlace}
  (hv:Value.okWide Tryz.prog w r b0 72 v) (h:DataW.Trod enc Tryz.prog w 0 (fun _=>true) true 72 v d p):∃ x y z:Bool,v=.agg #[.bool x,.bool y,.bool z]:=by
 obtain ⟨v0,v1,v2,y0,y1,y2,n,rfl,rfl,rfl,h0,h1,h2⟩:=open_agg3 Tryz.underlying72 (by kernel_rfl) (by kernel_rfl) hv h
 obtain ⟨x,q0,_⟩:=DataW.trod_bool Tryz.underlying4 h0
 obtain ⟨y,q1,_⟩:=DataW.trod_bool Tryz.underlying4 h1
 obtain ⟨z,q2,_⟩:=DataW.trod_bool Tryz.underlying4 h2
 injection q0 with q0
 injection q1 with q1
 injection q2 with q2
 subst q0 q1 q2
 exact ⟨x,y,z,rfl⟩
end Go.Proofs.YtghlnncfigkkaaaGreatDoor
