/-
 Walk of the checker's expr.
-/
import Derived.Test.YtghlnncfigkkaaaGreatDoorQChkP
import Derived.BigQuiet
import Derived.Deep.DeepCutAuto
import Derived.RegionTactic
set_option maxRecDepth 100000
set_option maxHeartbeats 8000000
open Go.Lib (hid)
namespace Go.Proofs.YtghlnncfigkkaaaGreatDoor
set_option linter.unusedVariables false
set_option linter.unusedSimpArgs false
open Go.RowKit
theorem ZdG:(Tryz.prog.info? 41).map (fun i=>(i.zero,i.size,i.bytes))=some (some (.slice none 0 0),1,24):=by kernel_rfl
theorem appS {w:World} {ops:Array Oper} {rest:List Oper} {o:Oper} {a:Act} {Q:Exit→Act→World→Prop} (hgd:o.guard=none) (s x:Operand)
  (ho:o.op=.call { callee:=.builtin .append,args:=#[s,x],argTypes:=#[51,51] }) (base:Nat)
  (A:Option Addr) (cap:Nat) (xs:List Value) (n:Nat) (hn:xs.length=n) (hs:a.eval s=.slice A n cap) (hown:Own w base 41 A cap xs)
  (A2:Option Addr) (c B:Nat) (v:Value) (hx:a.eval x=.slice A2 1 c) (hr:Rd w B A2 [v]) (hnil:A2=none→1=0) (hv:v.oneCell'=true)
  (hbytes:n≤1000000) (hbase:base≤w.heap.size)
  (h:∀ A' cap' w',Own w' base 41 A' cap' (xs++[v])→Below base w w'→wpList Tryz.prog ops Q rest (a.put o.dst (.slice A' (n+1) cap')) w'):
  wpList Tryz.prog ops Q (o::rest) a w:=by
 obtain ⟨i0,hi0,hz0,hz1,hz2⟩:=info_parts ZdG
 refine Zbu hgd s x 51 ho base 41 i0 _ 24 Tryz.underlying51 hi0 hz0 hz1 hz2 rfl A cap xs n hn hs hown A2 1 c B [v] rfl hx hr hnil (fun u hu=>by rw [List.mem_singleton.1 hu];exact hv) (by simp only [maxLen];omega) (by omega) hbase ?_
 intro A' cap' w' h1 h2 h3
 exact h A' cap' w' h1 (Zal (Kai _ _) h2 hbase (fun k hk=>(hown.lt k hk).1))
def ZeQ (w:World) (B cb g sg:Nat) (SA EA:Option Addr) (ns sc ne ec:Nat) (names:Names) (r:Sum (List (List Int)) (Nat × Int)) (e:Ending) (w':World):Prop:=
 KeepX (ckX cb g sg) w w'∧Below B w w' ∧
 match r with
 | .inl shapes'=>e=.returned .nilIface∧CkSt w' B cb g sg SA EA ns sc ne ec names shapes'
 | .inr (c,p)=>∃ v,e=.returned v∧IsErr w' v [(chkN,p)] c
theorem ETyped.far {w w':World} {B:Nat} (h:ETyped w) (hB:0<B) (hb:Below B w w'):ETyped w':=(hb.cell (p:=⟨0,0,none⟩) hB).trans h
theorem Zf1 {i:Nat} {e:EI} (h:exOk i e=true):madeP e.kind=(e.args.length:Int):=by
 unfold exOk at h
 rw [Bool.and_eq_true,beq_iff_eq] at h
 exact h.1
theorem Zgg (k:Int):madeP k≤3:=by
 unfold madeP
 repeat' split
 all_goals omega
theorem Zky (B cb g sg:Nat) (SA EA:Option Addr) (ns sc ne ec:Nat) (es:List EI) (names:Names) (shapes:List (List Int)) (root:Nat) (w:World)
  (hne:ne=es.length) (hr:root<ne) (hn:ne≤100000) (hRd:RdEI w B EA es) (hok:exsOk 0 es=true) (hg:ETyped w) (hgB:0<B)
  (hS:CkSt w B cb g sg SA EA ns sc ne ec names shapes):
  Calls Tryz.prog 96 #[.pointer (some ⟨cb,0,none⟩),.int .i64 root] w (ZeQ w B cb g sg SA EA ns sc ne ec names (Zay es (Zac es root) names (root+1) 0 shapes)):=by
 have HNE:=hid hne
 have HOK:=hid hok
 have HRD:=hid hRd
 have hlt:=hS.lt
 have hge:=hS.ge
 have hBw:B≤w.heap.size:=by have:=hS.b1;have:=hlt _ (.inl rfl);omega
 have HP:=hid (Zis cb EA ne ec es root w hne hr hn (hRd.more hBw) (hlt _ (.inl rfl)) (Kaa _ _ 1 _ _ _ hS.hc) hok)
 have HS:=hid hS
 have HG:=hid hg
 have HBW:=hid hBw
 have HLT:=hid hlt
 have HGE:=hid hge
 clear hne hRd hok hlt hge hS hg hBw
 go_enter Tryz.func96,Tryz.ntmps96
 go_wp2_with (go_at_call 151;refine HP.out.mono ?_;rintro e w1 ⟨rfl,hM,hb1⟩)
 have HS1:=hid (HS.out.next hb1)
 have HB1:=hid (hb1.mono HBW.out)
 have HK1:=hid (KeepX.of (X:=ckX cb g sg) hb1)
 have hMX:RdX (ckX cb g sg) w1 (some ⟨w.heap.size,0,none⟩) ((List.range (root+1)).map (fun i=>bI (Zac es root i))):=
  .inr ⟨w.heap.size,0,rfl,hM.lt,(fun hx=>absurd (HLT.out _ hx) (by omega)),fun j v hv=>by
   rw [Kal,Option.map_eq_some_iff] at hv
   obtain ⟨a,ha,rfl⟩:=hv
   have hj:j<root+1:=by
    have:=(Kaf.1 ha).1
    simpa using this
   have:a=j:=by
    rw [List.getElem?_range hj] at ha
    injection ha with ha
    exact ha.symm
   subst this
   rw [Nat.zero_add]
   exact hM.cell hj⟩
 have HMX:=hid hMX
 obtain ⟨gm,hgm⟩:∃ gm,gm=w.heap.size:=⟨_,rfl⟩
 rw [←hgm] at HMX ⊢
 clear hMX hM hb1 HP hgm
 go_loopw [17] (fun iv wr=>∃ (i:Nat) (sh:List (List Int)),i≤root+1∧iv=.int .i64 i∧Zay es (Zac es root) names (root+1) 0 shapes=Zay es (Zac es root) names (root+1-i) i sh∧CkSt wr B cb g sg SA EA ns sc ne ec names sh∧KeepX (ckX cb g sg) w wr∧Below B w wr∧RdX (ckX cb g sg) wr (some ⟨gm,0,none⟩) ((List.range (root+1)).map (fun i=>bI (Zac es root i)))) (fun iv _=>root+1-(intOf iv).toNat)
 case atStart=>exact ⟨0,shapes,by omega,rfl,rfl,HS1.out,HK1.out,HB1.out,HMX.out⟩
 case round=>
  clear HS1 HB1 HK1 HMX
  obtain ⟨i,sh,hi,rfl,hR,hS,hK,hB,hM⟩:=hrel
  have HR:=hid hR
  have HS:=hid hS
  have HK:=hid hK
  have HB:=hid hB
  have HM:=hid hM
  clear hR hS hK hB hM
  by_cases hlt:i<root+1
  ·obtain ⟨k,hk⟩:∃ k,root+1-i=k+1:=⟨root-i,by omega⟩
   have hk2:root+1-(i+1)=k:=by omega
   have i0:(0:Int)≤(i:Int):=by omega
   have i1:(i:Int)<((root+1:Nat):Int):=by omega
   have i2:(i:Int)<(ne:Int):=by omega
   obtain ⟨b',o',e',hb',_,hcm⟩:=(HM.out.resolve_left (by simp))
   injection e' with e'
   injection e' with e' e'' _
   subst e' e''
   have cm:wr.cell? ⟨gm,i,none⟩=some (bI (Zac es root i)):=by
    have:=hcm i _ (by rw [Kal,List.getElem?_range hlt];rfl)
    rwa [Nat.zero_add] at this
   clear hcm hb'
   cases hmi:Zac es root i with
   | false=>
    have HX:=hid (show Zay es (Zac es root) names (root+1) 0 shapes=Zay es (Zac es root) names (root+1-(i+1)) (i+1) sh from by
     rw [HR.out,hk,hk2]
     show (if Zac es root i then _ else _)=_
     rw [hmi]
     rfl)
    rw [hmi] at cm
    simp only [bI,Bool.false_eq_true,if_false] at cm
    clear hmi hk hk2
    go_wp2
    exact ⟨⟨i+1,sh,by omega,rfl,HX.out,HS.out,HK.out,HB.out,HM.out⟩,by simp [intOf];omega⟩
   | true=>
    have ht:es[i]?=some (es[i]'(by rw [←HNE.out];omega)):=Kad _
    obtain ⟨d,hd⟩:∃ d,d=es[i]'(by rw [←HNE.out];omega):=⟨_,rfl⟩
    rw [←hd] at ht
    have HT:=hid ht
    have HX:=hid (show Zay es (Zac es root) names (root+1) 0 shapes=(match exprC d sh names with | .inr c=>.inr (c,d.pos) | .inl s=>Zay es (Zac es root) names (root+1-(i+1)) (i+1) (sh.set i s)) from by
     rw [HR.out,hk,hk2]
     show (if Zac es root i then _ else _)=_
     rw [hmi,if_pos rfl,ht]
     dsimp only
     cases exprC d sh names <;> rfl)
    rw [hmi] at cm
    simp only [bI,if_true] at cm
    obtain ⟨b,o,rfl,hbl,c0,c1,c2,⟨A',c',c3,c3r,c3n,-⟩,c4⟩:=(HRD.out.below HB.out).at_ ht
    have cc:=Kaa _ _ 1 _ _ _ HS.out.hc
    clear hmi hk hk2 hd ht
    go_wp2_with fail
    obtain ⟨dk,dn,du,da,dp⟩:=d
    dsimp only at c0 c1 c2 c3 c3r c3n c4
    obtain ⟨al,hal⟩:∃ al,al=da.length:=⟨_,rfl⟩
    rw [←hal] at c3 c3n ⊢
    obtain ⟨w4,hw4⟩:∃ w4,w4=wr.alloc (.cells #[.int .i64 dk,.string dn,.int .u64 (du:Int),.slice A' al c',.int .i64 dp] 90):=⟨_,rfl⟩
    rw [←hw4]
    have b4:Below wr.heap.size wr w4:=by rw [hw4];exact (Kai _ _).alloc (Kag _) _
    have hE:w4.heap[wr.heap.size]?=some (.cells #[.int .i64 dk,.string dn,.int .u64 (du:Int),.slice A' al c',.int .i64 dp] 90 (0,0)):=by rw [hw4];exact Kac wr _
    have HS4:=hid (HS.out.next b4)
    have HK4:=hid (HK.out.trans (KeepX.of (X:=ckX cb g sg) b4))
    have HB4:=hid (HB.out.trans (b4.mono (Kah HBW.out HB.out.size)))
    have HM4:=hid (HM.out.keep (KeepX.of (X:=ckX cb g sg) b4))
    have HDR:=hid (((c3r.more (Kah HBW.out HB.out.size)).next b4))
    obtain ⟨eb,heb⟩:∃ eb,eb=wr.heap.size:=⟨_,rfl⟩
    rw [←heb] at hE ⊢
    have HE:=hid (fun W (hW:Below w4.heap.size w4 W)=>(hW.block eb (Kab.1 hE).1).trans hE)
    have HAL:=hid hal
    have hmd:=Zf1 (Zd4 es 0 i _ HOK.out HT.out)
    dsimp only at hmd
    have hal3:al≤3:=by have:=Zgg dk;omega
    have HMD:=hid hmd
    clear hmd
    have hsm:=hid (fun (k:Nat) (x:Int) (hx:da[k]?=some x)=>Zc0 HOK.out HT.out hx)
    have HBW4:=hid (Kah HBW.out HB4.out.size)
    clear hw4 b4 heb c0 c1 c2 c3 c4 c3r cc cm hal hE HS HK HB HM hbl
    go_loopw [8,35] (fun xv kv wr=>∃ (k:Nat) (A:Option Addr) (c:Nat) (vs:List Value),k≤al∧kv=.int .i64 k∧xv=.slice A k c∧vs.length=k∧Own wr w4.heap.size 41 A c vs∧Below w4.heap.size w4 wr∧∀ (j:Nat) (v:Value) (l:List Int),vs[j]?=some v→(da.map fun a=>sh.getD a.toNat [])[j]?=some l→ShV (ckX cb g sg) w4 v l) (fun _ kv _=>al-(intOf kv).toNat)
    case atStart=>exact ⟨0,none,0,[],by omega,rfl,rfl,rfl,Own.nil _ _ _,Kai _ _,fun j v l h=>by simp at h⟩
    case round=>
     obtain ⟨k,A,c,vs,hk,rfl,rfl,hvs,hO,hb,hvl⟩:=hrel
     have HVS:=hid hvs
     have HO:=hid hO
     have HBi:=hid hb
     have HVL:=hid hvl
     have hEb:=HE.out _ hb
     have hCb:=(HS4.out.next hb).hc
     clear hvs hO hb hvl
     by_cases hlk:k<al
     ·have ht:da[k]?=some (da[k]'(by rw [←HAL.out];exact hlk)):=Kad _
      obtain ⟨x,hx⟩:∃ d,d=da[k]'(by rw [←HAL.out];exact hlk):=⟨_,rfl⟩
      rw [←hx] at ht
      obtain ⟨x0,x1⟩:=hsm.out k x ht
      obtain ⟨a,rfl⟩:∃ a:Nat,x=(a:Int):=⟨x.toNat,by omega⟩
      have ha:a<ne:=by omega
      obtain ⟨b2,o2,rfl,hbl2,d0⟩:=(HDR.out.next HBi.out).at_ (show (da.map VI)[k]?=some (VI (a:Int)) by rw [Kal,ht];rfl)
      unfold VI at d0
      obtain ⟨Aj,cj,nj,sj,-,svj⟩:=HS4.out.shape ha
      have sj2:=(HBi.out.cell (p:=⟨sg,a,none⟩) (HS4.out.lt _ (.inr (.inr rfl)))).trans sj
      have k0:(0:Int)≤(k:Int):=by omega
      have k1:(k:Int)<(al:Int):=by omega
      have a0:(0:Int)≤(a:Int):=by omega
      have a1:(a:Int)<(ne:Int):=by omega
      have z3:=Kaa _ _ 3 _ _ _ hCb
      have HNV:=hid (show ∀ (j:Nat) (v:Value) (l:List Int),(vs++[Value.slice Aj nj cj])[j]?=some v→(da.map fun a=>sh.getD a.toNat [])[j]?=some l→ShV (ckX cb g sg) w4 v l from fun j v l hv hl=>by
       by_cases hj:j<k
       ·rw [List.getElem?_append_left (by rw [HVS.out];exact hj)] at hv
        exact HVL.out j v l hv hl
       ·rw [List.getElem?_append_right (by rw [HVS.out];omega),HVS.out] at hv
        have hj0:j-k=0:=by
         have:=(Kaf.1 hv).1
         simp at this
         omega
        have hjk:j=k:=by omega
        subst hjk
        rw [hj0] at hv
        simp at hv
        rw [Kal,ht] at hl
        simp at hl
        rw [←hv,←hl]
        simpa using svj)
      clear ht hx hbl2 x0 x1 sj svj hEb hCb
      go_wp2_with (at_builtin;(refine appS rfl (.tmp 39) (.tmp 47) rfl w4.heap.size A c vs k HVS.out rfl (HO.out.alloc _) (some ⟨wr.heap.size,0,none⟩) 1 (wr.heap.size+1) (.slice Aj nj cj) rfl (Rd.one _ _ _) (fun h=>by cases h) rfl (by omega) (by have:=HBi.out.size;simp;omega) ?_);intro A3 k3 w3 o3 b3;have O3:=hid o3;have B3:=hid ((HBi.out.alloc HBi.out.size _).trans b3);clear o3 b3)
      exact ⟨⟨k+1,A3,k3,_,by omega,rfl,rfl,by rw [List.length_append,HVS.out];rfl,O3.out,B3.out,HNV.out⟩,by simp [intOf];omega⟩
     ·obtain rfl:al=k:=by omega
      obtain ⟨r1,hr1⟩:∃ r1,r1=(Zab dk du (da.map fun a=>sh.getD a.toNat [])).1:=⟨_,rfl⟩
      obtain ⟨r2,hr2⟩:∃ r2,r2=(Zab dk du (da.map fun a=>sh.getD a.toNat [])).2:=⟨_,rfl⟩
      have HL:ShL (ckX cb g sg) wr A (da.map fun a=>sh.getD a.toNat []):=⟨vs,by rw [Kak,←HAL.out];exact HVS.out,HO.out.rd,fun j v l hv hl=>(HVL.out j v l hv hl).next HBi.out⟩
      have HSH:=hid (Zip (ckX cb g sg) dk dn du (.slice A' al c') dp (da.map fun a=>sh.getD a.toNat []) A al c wr (by rw [Kak];exact HAL.out) (by rw [Kak];exact HMD.out) (HS4.out.next HBi.out).lt HL)
      rw [←hr1,←hr2] at HSH
      have HR1:=hid hr1
      have HR2:=hid hr2
      have e0:=Kaa _ _ 0 _ _ _ hEb
      have e1:=Kaa _ _ 1 _ _ _ hEb
      have e2:=Kaa _ _ 2 _ _ _ hEb
      have e3:=Kaa _ _ 3 _ _ _ hEb
      have e4:=Kaa _ _ 4 _ _ _ hEb
      clear HL hr1 hr2 hk hlk hEb hCb HVS HO HVL
      go_upto_region 13 with (go_at_call 152;refine HSH.out.mono ?_;rintro e w5 ⟨v,rfl,hv,hb5⟩)
      have b5:=bnext HBi.out hb5
      have hE5:=HE.out _ b5
      have hS5:=HS4.out.next b5
      have f0:=Kaa _ _ 0 _ _ _ hE5
      have f1:=Kaa _ _ 1 _ _ _ hE5
      have f4:=Kaa _ _ 4 _ _ _ hE5
      have g2:=Kaa _ _ 2 _ _ _ hS5.hc
      have g3:=Kaa _ _ 3 _ _ _ hS5.hc
      have HS5:=hid hS5
      have HK5:=hid (HK4.out.trans (KeepX.of (X:=ckX cb g sg) b5))
      have HB5:=hid (HB4.out.trans (b5.mono HBW4.out))
      have HM5:=hid (HM4.out.keep (KeepX.of (X:=ckX cb g sg) b5))
      have HG5:=hid (HG.out.far hgB HB5.out)
      have hi3:i<ne:=by omega
      obtain ⟨Ai,ci,ni,si,-,-⟩:=hS5.shape hi3
      have fri:=hS5.free i
      have HV:=hid hv
      have HPOST:=hid (show ∀ (c:Nat) (w6:World) (ve:Value),exprC ⟨dk,dn,du,da,dp⟩ sh names=.inr c→IsErr w6 ve [(chkN,dp)] c→Below w5.heap.size w5 w6→ZeQ w B cb g sg SA (some ⟨b,o,none⟩) ns sc ne ec names (Zay es (Zac es root) names (root+1) 0 shapes) (.returned ve) w6 from fun c w6 ve hc he h6=>by
       refine ⟨HK5.out.trans (KeepX.of h6),HB5.out.trans (h6.mono (Kah HBW.out HB5.out.size)),?_⟩
       rw [HX.out,hc]
       exact ⟨ve,rfl,he⟩)
      have HNEXT:=hid (show ∀ (l:List Int) (vl:Value) (q:Nat),exprC ⟨dk,dn,du,da,dp⟩ sh names=.inl l→ShV (ckX cb g sg) w5 vl l→(Zay es (Zac es root) names (root+1) 0 shapes=Zay es (Zac es root) names (root+1-(i+1)) (i+1) (sh.set i l)∧CkSt ((w5.drewN q).setCell ⟨sg,i,none⟩ vl) B cb g sg SA (some ⟨b,o,none⟩) ns sc ne ec names (sh.set i l)∧KeepX (ckX cb g sg) w ((w5.drewN q).setCell ⟨sg,i,none⟩ vl)∧Below B w ((w5.drewN q).setCell ⟨sg,i,none⟩ vl)∧RdX (ckX cb g sg) ((w5.drewN q).setCell ⟨sg,i,none⟩ vl) (some ⟨gm,0,none⟩) ((List.range (root+1)).map (fun i=>bI (Zac es root i)))) from fun l vl q hc hvl=>by
       have hq:=Zag (ckX cb g sg) w5 q
       obtain ⟨t1,t2,t3⟩:=(HS5.out.drewN q).set hi3 (hvl.keep hq)
       refine ⟨by rw [HX.out,hc],t1,HK5.out.trans (hq.trans t2),HB5.out.trans ((Zaa (Kai _ _) q).trans t3),(HM5.out.keep hq).keep t2⟩)
      clear hS5 hE5 b5 hb5 hv e0 e1 e2 e3 e4 HSH
      by_cases hk2:dk=2
      ·subst hk2
       obtain ⟨nv,hnm,hnr⟩:=HS5.out.hn
       have hlk:=fun q=>Zbn (w:=w5.drewN q) (show NamM (w5.drewN q) g nv from hnm) dn
       rcases hnr.find dn with ⟨h1,h2⟩ | ⟨vl,l,h1,h2,h3,h4⟩
       ·have HEC:=hid (show exprC ⟨2,dn,du,da,dp⟩ sh names=.inr 140 from by
         unfold exprC
         rw [if_pos rfl]
         dsimp only
         rw [h2])
        simp only [h1] at hlk
        clear h1 h2 hnm hnr
        go_wp2_with fail
        go_quiet (fail)
        go_wp2_with (go_at_call 94;refine (Zb8 140 dp _ (HG5.out.drewN _)).mono ?_;rintro e w6 ⟨ve,rfl,hve,hb6⟩)
        go_ret
        exact HPOST.out 140 _ _ HEC.out hve ((Zaa (Kai _ _) _).trans hb6)
       ·have HEC:=hid (show exprC ⟨2,dn,du,da,dp⟩ sh names=.inl l from by
         unfold exprC
         rw [if_pos rfl]
         dsimp only
         rw [h2])
        obtain ⟨Av,cv,rfl,v1,v2,v3,v4⟩:=h3
        have HVV:=hid (show ShV (ckX cb g sg) w5 (.slice Av l.length cv) l from ⟨Av,cv,rfl,v1,v2,v3,v4⟩)
        have q4:(Zad l==0)=false:=by rw [Kaj];exact h4
        have HEL:=hid (fun q=>ZcE Av l.length cv l (w5.drewN q) rfl (by omega) (v4.rd.drewN q))
        simp only [h1] at hlk
        obtain ⟨nl,hnl⟩:∃ nl,nl=l.length:=⟨_,rfl⟩
        rw [←hnl] at hlk HEL HVV
        clear h1 h2 h4 hnm hnr v1 v2 v3 v4 hnl
        obtain ⟨el,hel⟩:∃ el,el=Zad l:=⟨_,rfl⟩
        rw [←hel] at q4 HEL
        clear hel
        go_wp2_with fail
        go_quiet (fail)
        go_wp2_with (go_at_call 73;refine (HEL.out _).mono ?_;rintro e w' ⟨rfl,rfl⟩)
        obtain ⟨t1,t2,t3,t4,t5⟩:=HNEXT.out l _ nq HEC.out HVV.out
        exact ⟨⟨i+1,_,by omega,rfl,t1,t2,t3,t4,t5⟩,by simp [intOf];omega⟩
      ·have q2:(dk==2)=false:=by rw [Kaj];exact hk2
       have HEC:=hid (show exprC ⟨dk,dn,du,da,dp⟩ sh names=if r2=false∨Zad r1=0 then .inr 141 else .inl r1 from by
        unfold exprC
        rw [if_neg hk2,HR1.out,HR2.out])
       clear hk2
       cases r2 with
       | false=>
        go_wp2_with (go_at_call 94;refine (Zb8 141 dp _ HG5.out).mono ?_;rintro e w6 ⟨ve,rfl,hve,hb6⟩)
        go_ret
        exact HPOST.out 141 _ _ (by rw [HEC.out];simp) hve hb6
       | true=>
        obtain ⟨Av,cv,rfl,v1,v2,v3,v4⟩:=HV.out
        have HVV:=hid (show ShV (ckX cb g sg) w5 (.slice Av r1.length cv) r1 from ⟨Av,cv,rfl,v1,v2,v3,v4⟩)
        have HEL:=hid (ZcE Av r1.length cv r1 w5 rfl (by omega) v4.rd)
        obtain ⟨nl,hnl⟩:∃ nl,nl=r1.length:=⟨_,rfl⟩
        rw [←hnl] at HEL HVV ⊢
        obtain ⟨el,hel⟩:∃ el,el=Zad r1:=⟨_,rfl⟩
        rw [←hel] at HEL HEC
        clear hel v1 v2 v3 v4 hnl HV
        by_cases h0:el=0
        ·subst h0
         go_wp2_with (first
          | (go_at_call 73;refine HEL.out.mono ?_;rintro e w' ⟨rfl,rfl⟩)
          | (go_at_call 94;refine (Zb8 141 dp _ HG5.out).mono ?_;rintro e w6 ⟨ve,rfl,hve,hb6⟩))
         go_ret
         exact HPOST.out 141 _ _ (by rw [HEC.out];simp) hve hb6
        ·have q4:(el==0)=false:=by rw [Kaj];exact h0
         have HEC2:=hid (show exprC ⟨dk,dn,du,da,dp⟩ sh names=.inl r1 from by rw [HEC.out,if_neg (by simp;exact h0)])
         clear h0
         go_wp2_with (go_at_call 73;refine HEL.out.mono ?_;rintro e w' ⟨rfl,rfl⟩)
         obtain ⟨t1,t2,t3,t4,t5⟩:=HNEXT.out r1 _ 0 HEC2.out HVV.out
         exact ⟨⟨i+1,_,by omega,rfl,t1,t2,t3,t4,t5⟩,by simp [intOf];omega⟩
  ·obtain rfl:i=root+1:=by omega
   have HX:=hid (show Zay es (Zac es root) names (root+1) 0 shapes=.inl sh from by rw [HR.out,Nat.sub_self];rfl)
   clear hlt hi
   go_wp2
   go_ret
   refine ⟨HK.out,HB.out,?_⟩
   rw [HX.out]
   exact ⟨rfl,HS.out⟩
theorem Zi4 {w:World} {g:Nat} {ns:List (ByteArray × Value)} (h:NamM w g ns) (n:ByteArray) (v:Value) (hn:findV ns n=none):
  ∃ o,∀ W:World,W.heap=w.heap→(Instr.mapUpdate 183 (.map (some g)) (.string n) v).run Tryz.prog W=.ok () { W with heap:=W.heap.setIfInBounds g o }∧NamM { W with heap:=W.heap.setIfInBounds g o } g (ns++[(n,v)]):=by
 obtain ⟨es,clock,hg,he⟩:=h
 refine ⟨.map (es.push { key:=.string n,val:=v,born:=clock }) (clock+1),fun W hW => ?_⟩
 have hg':W.heap[g]?=some (.map es clock):=by rw [hW];exact hg
 refine ⟨?_,es.push { key:=.string n,val:=v,born:=clock },clock+1,(Go.MapKept.heap_set hg').1,?_⟩
 ·unfold Instr.mapUpdate
  simp only [Sem.run_bind,run_underlying Tryz.underlying183,Result.andThen_ok,Go.MapKept.run_getObj_map hg']
  rw [Go.MapKept.run_checkKey Tryz.underlying9 (show Go.MapKept.IsKey .string (.string n) from trivial)]
  simp only [Result.andThen_ok]
  rcases Zbx n es.toList ns 0 he with ⟨h1,h2⟩ | ⟨v',i,h1,h2⟩
  ·rw [Go.MapKept.run_findKey Tryz.underlying9 h2]
   simp only [Result.andThen_ok]
   exact Go.MapKept.run_setObj_map _ hg'
  ·rw [hn] at h1;cases h1
 ·rw [Array.toList_push,List.map_append,List.map_append,he]
  rfl
theorem CkSt.store {w:World} {B cb g sg ns sc ne ec:Nat} {SA EA:Option Addr} {names:Names} {shapes:List (List Int)} (h:CkSt w B cb g sg SA EA ns sc ne ec names shapes)
  {n:ByteArray} {v:Value} {l:List Int} (hn:findN names n=none) (hv:ShV (ckX cb g sg) w v l) (he:Zad l≠0):
  ∃ o,∀ W:World,W.heap=w.heap→Below w.heap.size w W→(Instr.mapUpdate 183 (.map (some g)) (.string n) v).run Tryz.prog W=.ok () { W with heap:=W.heap.setIfInBounds g o } ∧
   CkSt { W with heap:=W.heap.setIfInBounds g o } B cb g sg SA EA ns sc ne ec (names++[(n,l)]) shapes∧KeepX (ckX cb g sg) w { W with heap:=W.heap.setIfInBounds g o }∧Below B w { W with heap:=W.heap.setIfInBounds g o }:=by
 have hlt:=h.lt
 obtain ⟨b1,b2,b3,n1,n2,n3,hc,⟨nv,hm,hr⟩,svs,s1,s2,s3,s4⟩:=h
 have hfn:findV nv n=none:=by
  rcases hr.find n with ⟨h1,_⟩ | ⟨v,l,_,h2,_⟩
  ·exact h1
  ·rw [hn] at h2;cases h2
 obtain ⟨o,ho⟩:=Zi4 hm n v hfn
 refine ⟨o,fun W hW hB => ?_⟩
 obtain ⟨r1,r2⟩:=ho W hW
 have hblk:∀ k,k≠g→({ W with heap:=W.heap.setIfInBounds g o }:World).heap[k]?=w.heap[k]?:=fun k hk=>by
  show (W.heap.setIfInBounds g o)[k]?=_
  rw [Array.getElem?_setIfInBounds,if_neg (fun e=>hk e.symm),hW]
 have hsz:({ W with heap:=W.heap.setIfInBounds g o }:World).heap.size=w.heap.size:=by
  show (W.heap.setIfInBounds g o).size=_
  rw [Array.size_setIfInBounds,hW]
 have hkeep:KeepX (ckX cb g sg) w { W with heap:=W.heap.setIfInBounds g o }:=by
  refine ⟨Nat.le_of_eq hsz.symm,fun p hp hx => ?_⟩
  unfold World.cell?
  rw [hblk p.block (fun e=>hx (.inr (.inl e)))]
 refine ⟨r1,⟨b1,b2,b3,n1,n2,n3,(hblk cb n1).trans hc,⟨_,r2,(hr.keep hkeep).append (hv.keep hkeep) he⟩,svs,(hblk sg (fun e=>n3 e.symm)).trans s1,s2,s3,fun j u m hu hm=>(s4 j u m hu hm).keep hkeep⟩,hkeep,⟨hB.os,hB.tape,hB.output,Nat.le_of_eq hsz.symm,fun k hk=>hblk k (by omega)⟩⟩
def ZaC (names:Names) (n:ByteArray):Bool:=(findN names n).isSome||n.size==0
def Zdc (w:World) (B cb g sg:Nat) (SA EA:Option Addr) (ns sc ne ec:Nat) (names:Names) (shapes:List (List Int)) (n:ByteArray) (l:List Int) (p:Int) (e:Ending) (w':World):Prop:=
 KeepX (ckX cb g sg) w w'∧Below B w w' ∧
 if ZaC names n then ∃ v,e=.returned v∧IsErr w' v [(chkN,p)] 140
 else e=.returned .nilIface∧CkSt w' B cb g sg SA EA ns sc ne ec (names++[(n,l)]) shapes
theorem ZgP (n:ByteArray):n.toList.isEmpty=(n.size==0):=by
 rw [ByteArray.toList_eq]
 obtain ⟨⟨l⟩⟩:=n
 cases l with
 | nil=>rfl
 | cons a r=>rfl
theorem ZgQ (B cb g sg:Nat) (SA EA:Option Addr) (ns sc ne ec:Nat) (names:Names) (shapes:List (List Int)) (xk xp xe xq:Int) (xn:ByteArray) (SV:Value) (vl:Value) (l:List Int) (w:World)
  (hg:ETyped w) (hgB:0<B) (hS:CkSt w B cb g sg SA EA ns sc ne ec names shapes) (hv:ShV (ckX cb g sg) w vl l) (he:Zad l≠0):
  Calls Tryz.prog 95 #[.pointer (some ⟨cb,0,none⟩),.agg #[.int .i64 xk,.int .i64 xp,.string xn,SV,.int .i64 xe,.int .i64 xq],vl] w (Zdc w B cb g sg SA EA ns sc ne ec names shapes xn l xq):=by
 obtain ⟨w2,hw2⟩:∃ w2,w2=w.alloc (.cells #[.int .i64 xk,.int .i64 xp,.string xn,SV,.int .i64 xe,.int .i64 xq] 93):=⟨_,rfl⟩
 have hb2:Below w.heap.size w w2:=by rw [hw2];exact (Kai _ _).alloc (Kag _) _
 have hE:w2.heap[w.heap.size]?=some (.cells #[.int .i64 xk,.int .i64 xp,.string xn,SV,.int .i64 xe,.int .i64 xq] 93 (0,0)):=by rw [hw2];exact Kac w _
 have hBw:B≤w.heap.size:=by have:=hS.b1;have:=hS.lt _ (.inl rfl);omega
 have hS2:=hS.next hb2
 have c0:=Kaa _ _ 2 _ _ _ hS2.hc
 have e2:=Kaa _ _ 2 _ _ _ hE
 have e5:=Kaa _ _ 5 _ _ _ hE
 have HW2:=hid hw2
 have HS2:=hid hS2
 have HV2:=hid (hv.next hb2)
 have HK2:=hid (KeepX.of (X:=ckX cb g sg) hb2)
 have HB2:=hid (hb2.mono hBw)
 have HG2:=hid (hg.next hb2)
 have HHE:=hid he
 have HBW:=hid hBw
 obtain ⟨nv,hnm,hnr⟩:=hS2.hn
 have hlk:=fun q=>Zbn (w:=w2.drewN q) (show NamM (w2.drewN q) g nv from hnm) xn
 have z1:=ZgP xn
 have HBAD:=hid (show ∀ (q:Nat) (w6:World) (ve:Value),ZaC names xn=true→IsErr w6 ve [(chkN,xq)] 140→Below (w2.drewN q).heap.size (w2.drewN q) w6→Zdc w B cb g sg SA EA ns sc ne ec names shapes xn l xq (.returned ve) w6 from fun q w6 ve ht hv h6=>by
  have h7:=(Zaa (Kai w2.heap.size w2) q).trans h6
  refine ⟨HK2.out.trans (KeepX.of h7),HB2.out.trans (h7.mono (Kah HBW.out HK2.out.1)),?_⟩
  rw [ht]
  exact ⟨ve,rfl,hv⟩)
 clear hw2 hb2 hE hS hv hg he hBw hS2
 rcases hnr.find xn with ⟨h1,h2⟩ | ⟨vl2,l2,h1,h2,h3,h4⟩
 ·simp only [h1] at hlk
  cases hz:(xn.size==0) with
  | true=>
   rw [hz] at z1
   have HT:=hid (show ZaC names xn=true from by unfold ZaC;rw [hz];simp)
   clear hz h1 h2 hnm hnr
   go_enter Tryz.func95,Tryz.ntmps95
   go_wp2_with fail
   rw [←HW2.out]
   go_quiet (fail)
   go_wp2_with (go_at_call 94;refine (Zb8 140 xq _ (HG2.out.drewN _)).mono ?_;rintro e w6 ⟨ve,rfl,hve,hb6⟩)
   go_ret
   exact HBAD.out _ _ _ HT.out hve hb6
  | false=>
   rw [hz] at z1
   have HT:=hid (show ZaC names xn=false from by unfold ZaC;rw [hz,h2];rfl)
   obtain ⟨o,ho⟩:=HS2.out.store h2 HV2.out HHE.out
   have HO:=hid ho
   clear hz h1 h2 hnm hnr ho
   go_enter Tryz.func95,Tryz.ntmps95
   go_wp2_with fail
   rw [←HW2.out]
   go_quiet (fail)
   obtain ⟨r1,r2,r3,r4⟩:=HO.out (w2.drewN (nq+1)) rfl (Zaa (Kai _ _) _)
   have R2:=hid r2
   have R3:=hid r3
   have R4:=hid r4
   clear r2 r3 r4 hlk
   go_wp2_with fail
   go_region
   all_goals
    go_wp2
    go_ret
    refine ⟨HK2.out.trans R3.out,HB2.out.trans R4.out,?_⟩
    rw [HT.out]
    exact ⟨rfl,R2.out⟩
 ·obtain ⟨A2,k2,rfl,-⟩:=h3
  simp only [h1] at hlk
  have HT:=hid (show ZaC names xn=true from by unfold ZaC;rw [h2];rfl)
  clear h1 h2 h4 hnm hnr
  go_enter Tryz.func95,Tryz.ntmps95
  go_wp2_with fail
  rw [←HW2.out]
  go_quiet (fail)
  go_wp2_with (go_at_call 94;refine (Zb8 140 xq _ (HG2.out.drewN _)).mono ?_;rintro e w6 ⟨ve,rfl,hve,hb6⟩)
  go_ret
  exact HBAD.out _ _ _ HT.out hve hb6
theorem ZdH (A:Option Addr) (n c:Nat) (l:List Int) (w:World) (hn:n=l.length) (hl:n≤1000000) (h:Rd w w.heap.size A (l.map VI)):
  Calls Tryz.prog 55 #[.slice A n c] w fun e w'=>∃ A' c',e=.returned (.slice A' n c')∧Own w' w.heap.size 3 A' c' (l.map VI)∧Below w.heap.size w w':=by
 have q22:∀ (w:World) (a:Option Addr) (n c n' c':Nat),(binOp .eql 41 (.slice a n c) (.slice none n' c')).run Tryz.prog w=.ok (.bool a.isNone) w:=fun w a n c n' c'=>Lib.run_eql_slice_nil w _ _ a n c n' c' Tryz.underlying41
 cases A with
 | none=>
  have hl0:l=[]:=List.eq_nil_of_length_eq_zero (ZaW h rfl)
  subst hl0
  subst hn
  clear h
  go_enter Tryz.func55,Tryz.ntmps55
  go_wp2
  go_ret
  exact ⟨none,0,rfl,Own.nil _ _ _,Kai _ _⟩
 | some ad=>
  have HN:=hid hn
  have H:=hid h
  clear hn h
  go_enter Tryz.func55,Tryz.ntmps55
  go_wp2_with (at_builtin;(refine appV rfl (.tmp 5) (.tmp 6) rfl w.heap.size (some ⟨w.heap.size,0,none⟩) 0 [] 0 rfl rfl (Own.made w 3 (Kag _)) (some ad) n c w.heap.size l HN.out.symm rfl (H.out.alloc (Kag _) _) (fun e=>by cases e) (by omega) (by simp) ?_);intro A3 k3 w3 o3 g3 h3;have O3:=hid o3;have B3:=hid (Zal ((Kai w.heap.size w).alloc (Kag _) _) g3 (by simp) (fun k hk=>by cases hk;exact Kag _));clear o3 g3 h3)
  go_ret
  exact ⟨A3,k3,by rw [←Nat.zero_add n];rfl,O3.out,B3.out⟩
theorem Zc1 (n:Nat) (hn:n≤1000000) (w:World) (e:Int) (he:e=n):
  (Instr.makeSlice 51 (.int .i64 e) (.int .i64 e)).run Tryz.prog w=.ok (.slice (some ⟨w.heap.size,0,none⟩) n n) (w.alloc (.cells (List.replicate n (Value.slice none 0 0)).toArray 41)):=by
 obtain ⟨i0,hi0,hz0,hz1,hz2⟩:=info_parts ZdG
 have hr:=run_make (P := Tryz.prog) w 51 41 i0 (.slice none 0 0) Tryz.underlying51 hi0 hz0 .i64 .i64 e e (by omega) (by omega) (by rw [hz2];omega) (by omega)
 rw [hr,he,hz1]
 have:(madeCells (Value.slice none 0 0).cells ((n:Int).toNat*1))=(List.replicate n (Value.slice none 0 0)).toArray:=by
  apply Array.ext'
  rw [show (Value.slice none 0 0).cells=#[Value.slice none 0 0] from rfl,toList_madeCells_one]
  simp
 rw [this]
 rfl
def ZeR (names:Names):Prop:=∀ p∈names,Zad p.2≠0
theorem NamR.ok {X:Nat→Prop} {w:World}:∀ {ps:List (ByteArray × Value)} {qs:Names},NamR X w ps qs→ZeR qs
 | [],[],_=>by intro p hp;simp at hp
 | p::ps,q::qs,h=>by
  intro x hx
  rcases List.mem_cons.1 hx with rfl | hx
  ·exact h.2.2.1
  ·exact NamR.ok h.2.2.2 x hx
 | [],_::_,h=>h.elim
 | _::_,[],h=>h.elim
theorem ZgR {n:ByteArray}:∀ {names:Names} {l:List Int},ZeR names→findN names n=some l→Zad l≠0
 | [],l,_,h=>by cases h
 | (t,s)::r,l,ho,h=>by
  unfold findN at h
  split at h
  ·injection h with h
   subst h
   exact ho (t,s) (by simp)
  ·exact ZgR (fun p hp=>ho p (by simp [hp])) h
theorem Zkz {e:EI} {sh:List (List Int)} {names:Names} {l:List Int} (ho:ZeR names) (h:exprC e sh names=.inl l):Zad l≠0:=by
 unfold exprC at h
 split at h
 ·split at h
  ·cases h
  ·rename_i s hs
   injection h with h
   subst h
   exact ZgR ho hs
 ·dsimp only at h
  split at h
  ·cases h
  ·rename_i hne
   injection h with h
   subst h
   exact fun e=>hne (.inr e)
theorem Zcp {es:List EI} {m:Nat→Bool} {names:Names}:∀ (n k:Nat) (sh sh':List (List Int)),Zay es m names n k sh=.inl sh'→sh'.length=sh.length
 | 0,k,sh,sh',h=>by injection h with h;rw [h]
 | n+1,k,sh,sh',h=>by
  unfold Zay at h
  split at h
  ·split at h
   ·injection h with h;rw [h]
   ·split at h
    ·cases h
    ·rw [Zcp n _ _ _ h,List.length_set]
  ·exact Zcp n _ _ _ h
theorem ZcJ {es:List EI} {m:Nat→Bool} {names:Names} {root:Nat} (ho:ZeR names) (hm:m root=true) (hr:root<es.length):∀ (n k:Nat) (sh sh':List (List Int)),k+n=root+1→0<n→sh.length=es.length→Zay es m names n k sh=.inl sh'→Zad (sh'.getD root [])≠0
 | 0,k,sh,sh',_,h0,_,_=>by omega
 | n+1,k,sh,sh',hk,_,hl,h=>by
  unfold Zay at h
  split at h
  ·have hke:es[k]?=some (es[k]'(by omega)):=Kad _
   rw [hke] at h
   dsimp only at h
   split at h
   ·cases h
   ·rename_i s hs
    cases n with
    | zero=>
     injection h with h
     subst h
     have:k=root:=by omega
     subst this
     rw [List.getD_eq_getElem?_getD,List.getElem?_set_self (by omega)]
     exact Zkz ho hs
    | succ n=>exact ZcJ ho hm hr (n+1) (k+1) _ sh' (by omega) (by omega) (by simpa using hl) h
  ·rename_i hmk
   cases n with
   | zero=>
    have:k=root:=by omega
    subst this
    exact absurd hm hmk
   | succ n=>exact ZcJ ho hm hr (n+1) (k+1) _ sh' (by omega) (by omega) hl h
theorem Zdd {es:List EI} {root a:Nat}:∀ (n:Nat) (m:Nat→Bool),m a=true→markP es root n m a=true
 | 0,m,h=>h
 | n+1,m,h=>Zdd n _ (by rw [h];rfl)
theorem ZaI (es:List EI) (root:Nat):Zac es root root=true:=Zdd _ _ (by simp)
end Go.Proofs.YtghlnncfigkkaaaGreatDoor
