/-
 dag.Check walked at a good graph.
-/
import Derived.Test.YtghlnncfigkkaaaGreatDoorQDjB
import Derived.Test.YtghlnncfigkkaaaGreatDoorQDjA
import Derived.BigQuiet
import Derived.Test.YtghlnncfigkkaaaGreatDoorQDgC
import Derived.Test.YtghlnncfigkkaaaGreatDoorQEvL
import Derived.Deep.RegionHeld3
import Derived.Test.YtghlnncfigkkaaaGreatDoorQParA
set_option maxRecDepth 100000
set_option maxHeartbeats 16000000
set_option linter.unusedVariables false
set_option linter.unusedSimpArgs false
namespace Go.Proofs.YtghlnncfigkkaaaGreatDoor
open Go.RowKit
theorem gcheck_any (in0 in1:List (List Int)) (B nc oc:Nat) (NA OA:Option Addr) (ms:List (ND × NV)) (outs:List Nat) (A0 A1:Option Addr) (n0 c0 n1 c1:Nat) (w:World) (hr:NdRow w B NA nc ms) (ho:Own w B 3 OA oc (outs.map VNt)) (h0:InRow w B A0 n0 c0 in0) (h1:InRow w B A1 n1 c1 in1) (hw:WfD in0 in1 (ms.map Prod.fst)) (hou:∀ o∈outs,o<ms.length) (hl:ms.length≤64) (hol:outs.length≤1000)
  (h8:in0.length+in1.length≤8) (hs0:∀ x∈in0,Zad x≠0) (hs1:∀ x∈in1,Zad x≠0) (hg:ETyped w):
  Calls Tryz.prog 40 #[.agg #[.slice NA ms.length nc,.slice OA outs.length oc,.slice A0 n0 c0,.slice A1 n1 c1]] w fun e w'=>e=.returned .nilIface∧Below w.heap.size w w':=by
 obtain ⟨w2,hw2⟩:=Ky (w.alloc (.cells #[.slice NA ms.length nc,.slice OA outs.length oc,.slice A0 n0 c0,.slice A1 n1 c1] 68))
 have hb2:=Kv hw2
 obtain ⟨gb,hgb⟩:=Ky w.heap.size
 have hA:=Kx hw2 hgb
 have hsm:∀ l:List (List Int),(∀ x∈l,Zad x≠0)→∀ x∈l,x.length≤1000000:=fun l h x hx=>by have:=sh_small (h x hx);omega
 obtain ⟨r0,e0⟩:=h0.rd (hsm _ hs0)
 obtain ⟨r1,e1⟩:=h1.rd (hsm _ hs1)
 have HGW:=Kz (fun W (hW:Below w2.heap.size w2 W)=>(hW.block _ (Kab.1 hA).1).trans hA)
 have HC0:=Kz (fun W (hW:Below w2.heap.size w2 W)=>conS_any A0 n0 c0 in0 W e0 (by omega) ((r0.next hb2).next hW) hs0)
 have HC1:=Kz (fun W (hW:Below w2.heap.size w2 W)=>conS_any A1 n1 c1 in1 W e1 (by omega) ((r1.next hb2).next hW) hs1)
 have HCO:=Kz (fun W (hW:Below w2.heap.size w2 W)=>conO_any gb ms.length nc NA OA outs.length oc outs W (Kaa 0 ((hW.block _ (Kab.1 hA).1).trans hA)) hou rfl (by omega) ((ho.rd.next hb2).next hW))
 have HLK:=Kz (fun W (hW:Below w2.heap.size w2 W) (i:Nat) (hi:i<ms.length)=>look_any in0 in1 B nc NA ms (.slice OA outs.length oc) A0 A1 n0 c0 n1 c1 i W rfl (hr.next (bnext hb2 hW)) (h0.next (bnext hb2 hW)) (h1.next (bnext hb2 hW)) hw hi (by omega) (hg.next (bnext hb2 hW)))
 have HW2:=Kz hw2
 have HB2:=Kz hb2
 have HGB:=Kz hgb
 have q1:decide ((64:Int)<(ms.length:Int))=false:=by simp;omega
 have q1':decide ((ms.length:Int) > 64)=false:=q1
 have hn8:n0+n1≤8:=by omega
 have hwr:IntKind.i64.wrap ((n0:Int)+(n1:Int))=((n0+n1:Nat):Int):=by rw [ZaE (by omega) (by omega)];omega
 have q2:decide ((8:Int)<(n0:Int)+(n1:Int))=false:=by simp;omega
 have q2':decide ((n0:Int)+(n1:Int) > 8)=false:=q2
 have y0:=Kaa 0 (HGW.o w2 (Kai _ _))
 have y2:=Kaa 2 (HGW.o w2 (Kai _ _))
 have y3:=Kaa 3 (HGW.o w2 (Kai _ _))
 clear hw2 hb2 hgb hA hsm r0 e0 r1 e1 hr ho h0 h1 hw hou hs0 hs1 hg h8
 go_enter Tryz.func40,Tryz.ntmps40
 go_upto_region 1 with fail
 rw [←HW2.o,←HGB.o]
 go_wp2_with fail
 clear y0 y2 y3 q1 q1' q2 q2' hwr
 go_loopw [3,22] (fun bv iv wr=>(∃ p:Nat,p≤2∧iv=.int .i64 p∧bv=.bool false)∧Below w2.heap.size w2 wr) (fun _ iv _=>2-(intOf iv).toNat)
 case atStart=>exact ⟨⟨0,by omega,rfl,rfl⟩,Kai _ _⟩
 case round=>
 obtain ⟨⟨p,hp,rfl,rfl⟩,hb⟩:=hrel
 have HB:=Kz hb
 have y0:=Kaa 0 (HGW.o _ hb)
 have y2:=Kaa 2 (HGW.o _ hb)
 have y3:=Kaa 3 (HGW.o _ hb)
 clear hb
 rcases (by omega:p=0∨p=1∨p=2) with rfl | rfl | rfl
 ·go_wp2_with (go_at_call 71;refine (HC0.o _ HB.o).mono ?_;rintro e w' ⟨rfl,rfl⟩)
  exact ⟨⟨⟨1,by omega,rfl,rfl⟩,HB.o⟩,by simp [intOf]⟩
 ·go_wp2_with (go_at_call 71;refine (HC1.o _ HB.o).mono ?_;rintro e w' ⟨rfl,rfl⟩)
  exact ⟨⟨⟨2,by omega,rfl,rfl⟩,HB.o⟩,by simp [intOf]⟩
 go_wp2_with fail
 clear y0 y2 y3
 go_loopw [3,5] (fun bv iv wr=>(∃ i:Nat,i≤ms.length∧iv=.int .i64 i∧bv=.bool false)∧Below w2.heap.size w2 wr) (fun _ iv _=>ms.length-(intOf iv).toNat)
 case atStart=>exact ⟨⟨0,by omega,rfl,rfl⟩,HB.o⟩
 case round=>
 clear HB
 obtain ⟨⟨i,hi,rfl,rfl⟩,hb⟩:=hrel
 have HB:=Kz hb
 have y0:=Kaa 0 (HGW.o _ hb)
 have y1:=Kaa 1 (HGW.o _ hb)
 have y2:=Kaa 2 (HGW.o _ hb)
 have y3:=Kaa 3 (HGW.o _ hb)
 clear hb
 by_cases hlt:i<ms.length
 ·have u1:decide ((i:Int)<(ms.length:Int))=true:=by simp;omega
  have u2:decide (i<ms.length)=true:=by simp;omega
  have HL:=Kz (HLK.o _ HB.o i hlt)
  go_wp2_with (go_at_call 74;refine HL.o.mono ?_;rintro e w9 ⟨rfl,b9⟩;have HB9:=Kz (bnext HB.o b9);clear b9)
  exact ⟨⟨_,_,_,_,_,_,_,_,_,_,_,_,_,_,_,_,_,⟨⟨i+1,by omega,rfl,rfl⟩,HB9.o⟩,rfl⟩,by simp [intOf];omega⟩
 obtain rfl:ms.length=i:=by omega
 have u1:decide ((ms.length:Int)<(ms.length:Int))=false:=by simp
 go_wp2_with (go_at_call 75;refine (HCO.o _ HB.o).mono ?_;rintro e w' ⟨rfl,rfl⟩)
 go_ret
 exact ⟨rfl,bnext HB2.o HB.o⟩
theorem evl1_any (As A1 A2:Option Addr) (ns cs n1 c1 n2 c2:Nat) (s:List Int) (el:List UInt64) (w:World) (hs:ns=s.length) (h1:n1=s.length) (h2:n2=el.length) (hl:ns≤1000000) (he:(el.length:Int)=Zad s) (r0:Rd w w.heap.size As (s.map VI)) (r1:Rd w w.heap.size A1 (s.map VI)):
  Calls Tryz.prog 78 #[.slice As ns cs,.agg #[.slice A1 n1 c1,.slice A2 n2 c2]] w fun e w'=>e=.returned (.bool true)∧Below w.heap.size w w':=by
 obtain ⟨w2,hw2⟩:=Ky (w.alloc (.cells #[.slice A1 n1 c1,.slice A2 n2 c2] 43))
 have hb2:=Kv hw2
 obtain ⟨tb,htb⟩:=Ky w.heap.size
 have hA:=Kx hw2 htb
 have y0:=Kaa 0 hA
 have y1:=Kaa 1 hA
 have HEQ:=Kz (show ∀ W,Below w2.heap.size w2 W→Calls Tryz.prog 79 #[.slice As ns cs,.slice A1 n1 c1] W fun e w'=>e=.returned (.bool true)∧∃ q,w'=W.drewN q from fun W hW=>by
  have h:=ZcA As A1 ns n1 cs c1 s s W hs h1 (by omega) (by omega) ((r0.next hb2).next hW) ((r1.next hb2).next hW)
  rw [beq_self_eq_true] at h
  exact h)
 obtain ⟨e0,he0⟩:=Ky (Zad s)
 have HEL:=Kz (show ∀ W,Below w2.heap.size w2 W→Calls Tryz.prog 73 #[.slice As ns cs] W fun e w'=>e=.returned (.int .i64 e0)∧∃ q,w'=W.drewN q from fun W hW=>by
  rw [he0]
  exact (ZcE As ns cs s W hs (by omega) ((r0.next hb2).next hW)).mono (fun e w' h=>⟨h.1,0,h.2 ▸ rfl⟩))
 have qe:((n2:Int)==e0)=true:=by rw [beq_iff_eq,he0,h2];exact he
 have HW2:=Kz hw2
 have HTB:=Kz htb
 have HB2:=Kz hb2
 clear hw2 hb2 htb hA he0 he hs h1 h2 r0 r1
 go_enter Tryz.func78,Tryz.ntmps78
 go_upto_region 1 with fail
 rw [←HW2.o,←HTB.o]
 go_quiet (first
  | (go_at_call 79;exact Calls.quiet_of (HEQ.o _ (Zaa (Kai _ _) _)))
  | (go_at_call 73;exact Calls.quiet_of (HEL.o _ (Zaa (Kai _ _) _))))
 go_wp2_with fail
 go_ret
 exact ⟨rfl,Zaa HB2.o _⟩
theorem evq_any (A I:Option Addr) (n c k:Nat) (xs:List (List Int)) (ts:List TN) (w:World) (hn:n=xs.length) (hm:n=ts.length) (hl:n≤1000000) (h:RdSh w A xs) (h':RdTN w w.heap.size I ts) (hf:∀ (j:Nat) (x:List Int) (t:TN),xs[j]?=some x→ts[j]?=some t→t.sh=x∧(t.el.length:Int)=Zad x):
  Calls Tryz.prog 77 #[.slice A n c,.slice I n k,.func (.func 78) #[] #[]] w fun e w'=>e=.returned (.bool true)∧Below w.heap.size w w':=by
 have HN:=Kz hn
 have HM:=Kz hm
 have H:=Kz h
 have H':=Kz h'
 have HF:=Kz hf
 have q0:((n:Int) != (n:Int))=false:=by simp
 clear h h' hn hm hf
 go_enter Tryz.func77,Tryz.ntmps77
 go_wp2
 go_loopw [17] (fun iv wr=>(∃ i:Nat,i≤n∧iv=.int .i64 i)∧Below w.heap.size w wr) (fun iv _=>n-(intOf iv).toNat)
 case atStart=>exact ⟨⟨0,by omega,rfl⟩,Kai _ _⟩
 case round=>
  obtain ⟨⟨i,hi,rfl⟩,hb⟩:=hrel
  have HB:=Kz hb
  clear hb
  by_cases hlt:i<n
  ·have hx:xs[i]?=some (xs[i]'(by rw [←HN.o];exact hlt)):=Kad _
   obtain ⟨x,hxx⟩:=Ky (xs[i]'(by rw [←HN.o];exact hlt))
   rw [←hxx] at hx
   have ht:ts[i]?=some (ts[i]'(by rw [←HM.o];exact hlt)):=Kad _
   obtain ⟨t,htt⟩:=Ky (ts[i]'(by rw [←HM.o];exact hlt))
   rw [←htt] at ht
   obtain ⟨f1,f2⟩:=HF.o i x t hx ht
   obtain ⟨b,o,rfl,hbl,hc⟩:=(H.o.next HB.o).resolve_left (fun e=>by rw [e] at hx;simp at hx)
   obtain ⟨A0,c0,d0,r0,l0⟩:=hc i x hx
   obtain ⟨b',o',rfl,hbl',⟨A1,c1,d1,r1,_,_,_⟩,A2,c2,d2,_⟩:=(H'.o.next HB.o).at_ ht
   rw [f1] at d1 r1
   obtain ⟨n0,hn0⟩:=Ky x.length
   obtain ⟨n2,hn2⟩:=Ky t.el.length
   rw [←hn0] at d0 d1
   rw [←hn2] at d2
   have i0:(0:Int)≤(i:Int):=by omega
   have i1:(i:Int)<(n:Int):=by omega
   obtain ⟨w4,hw4⟩:=Ky (wr.alloc (.cells #[.slice A1 n0 c1,.slice A2 n2 c2] 43))
   obtain ⟨tb,htb⟩:=Ky wr.heap.size
   have b4:=Kv hw4
   have hT:=Kx hw4 htb
   have HCALL:=Kz (evl1_any A0 A1 A2 n0 c0 n0 c1 n2 c2 x t.el w4 hn0 hn0 hn2 (by omega) f2 (r0.next b4) (r1.next b4))
   have HB4:=Kz (bnext HB.o b4)
   have y0:=Kaa 0 hT
   have y1:=Kaa 1 hT
   have HW4:=Kz hw4
   have HTB:=Kz htb
   clear hx hxx ht htt f1 f2 hc r0 l0 r1 hn0 hn2 hw4 htb b4 hT hbl hbl'
   go_upto_region 7 with fail
   rw [←HW4.o,←HTB.o]
   go_wp2_with (go_at_call 78;refine HCALL.o.mono ?_;rintro e w5 ⟨rfl,b5⟩;have HB5:=Kz (bnext HB4.o b5);clear b5)
   exact ⟨⟨⟨i+1,by omega,rfl⟩,HB5.o⟩,by simp [intOf];omega⟩
  ·obtain rfl:n=i:=by omega
   go_wp2
   go_ret
   exact ⟨rfl,HB.o⟩
theorem fitD_map {ws:List (List Int)} {ts:List TN} (h:ts.map TN.sh=ws):FitD ws ts:=by
 intro i s hs
 rw [←h,Kal,Option.map_eq_some_iff] at hs
 obtain ⟨t,ht,e⟩:=hs
 rw [List.getD_eq_getElem?_getD,ht]
 exact e
theorem in_get {ws:List (List Int)} {ts:List TN} (h:ts.map TN.sh=ws) {i:Nat} {s:List Int} (hs:ws[i]?=some s):∃ t,ts[i]?=some t∧ts.getD i zTN=t∧t.sh=s:=by
 rw [←h,Kal,Option.map_eq_some_iff] at hs
 obtain ⟨t,ht,e⟩:=hs
 exact ⟨t,ht,by rw [List.getD_eq_getElem?_getD,ht];rfl,e⟩
section
variable {w0 w1:List (List Int)} {in0 in1:List TN} {l:List ND}
theorem valOf_ok (hw:WfD w0 w1 l) (m0:in0.map TN.sh=w0) (m1:in1.map TN.sh=w1) (o0:∀ t∈in0,TnOk t) (o1:∀ t∈in1,TnOk t):∀ a,a<l.length→TnOk (valOf in0 in1 l a):=by
 intro a
 induction a using Nat.strongRecOn with
 | _ a ih=>
  intro h
  have hn:=hw a _ (atD_lt h)
  rw [valOf_eq hw.ahead]
  unfold nodeV
  rcases hn.kinds with q | q | q
  ·rw [if_pos q.1]
   rcases q.2.2.2.2 with ⟨p0,p1⟩ | ⟨p0,p1⟩
   ·rw [if_pos p0]
    obtain ⟨t,ht,e,_⟩:=in_get m0 p1
    rw [e]
    exact o0 t (Kam ht)
   ·rw [if_neg (by omega)]
    obtain ⟨t,ht,e,_⟩:=in_get m1 p1
    rw [e]
    exact o1 t (Kam ht)
  ·rw [if_neg (by omega),if_pos q.1]
   exact ⟨hn.shape,q.2.2.2.2.2⟩
  ·rw [if_neg (by omega),if_neg (by omega)]
   refine ⟨hn.shape,node_words ⟨q.1,q.2.1⟩ q.2.2.2.2.2.2.1 (by rw [Kak]) (fun t ht => ?_) hn.shape ?_⟩
   ·obtain ⟨b,hb,rfl⟩:=List.mem_map.1 ht
    have:=hn.ahead b hb
    exact ih b this (by omega)
   ·rw [List.map_map,show (List.map (TN.sh ∘ valOf in0 in1 l) (atD l a).args)=(atD l a).args.map fun b=>(atD l b).shape from List.map_congr_left fun b hb=>valOf_sh hw (fitD_map m0) (fitD_map m1) (by have:=hn.ahead b hb;omega)]
    exact q.2.2.2.2.2.2.2
theorem vals_succ (i j:Nat):valsD in0 in1 l (i+1) j=if j=i then nodeV in0 in1 (valsD in0 in1 l i) (atD l i) else valsD in0 in1 l i j:=rfl
theorem nodeV_in0 {V:Nat→TN} {n:ND} (h:n.kind=1) (h2:n.party=0):nodeV in0 in1 V n=in0.getD n.input zTN:=by unfold nodeV;rw [if_pos h,if_pos h2]
theorem nodeV_in1 {V:Nat→TN} {n:ND} (h:n.kind=1) (h2:n.party=1):nodeV in0 in1 V n=in1.getD n.input zTN:=by unfold nodeV;rw [if_pos h,if_neg (by omega)]
theorem nodeV_c {V:Nat→TN} {n:ND} (h:n.kind=2):nodeV in0 in1 V n=⟨n.shape,n.elems⟩:=by unfold nodeV;rw [if_neg (by omega),if_pos h];rfl
theorem nodeV_w {V:Nat→TN} {n:ND} (h:3≤n.kind):nodeV in0 in1 V n=⟨n.shape,Zbc n.kind n.k (Zad n.shape).toNat (n.args.map V)⟩:=by unfold nodeV;rw [if_neg (by omega),if_neg (by omega)]
end
def vX (vg k:Nat):Prop:=k=vg
section
variable {w w':World} {vg n:Nat} {V:Nat→TN}
theorem gv_lt (h:VRow (vX vg) w vg n V):vg<w.heap.size:=by
 obtain ⟨cs,h1,_⟩:=h
 exact (Kab.1 h1).1
theorem gv_next (h:VRow (vX vg) w vg n V) (hb:Below w.heap.size w w'):VRow (vX vg) w' vg n V:=by
 have hl:=gv_lt h
 obtain ⟨cs,h1,h2,h3⟩:=h
 refine ⟨cs,(hb.block _ hl).trans h1,h2,fun j hj => ?_⟩
 obtain ⟨sv,ev,e1,e2,e3⟩:=h3 j hj
 exact ⟨sv,ev,e1,e2,e3.next hb⟩
theorem gv_val (h:VRow (vX vg) w vg n V) {a:Nat} (ha:a<n):∃ A c A' c',w.cell? ⟨vg,a*2,none⟩=some (.slice A (V a).sh.length c)∧w.cell? ⟨vg,a*2+1,none⟩=some (.slice A' (V a).el.length c')∧TnV (vX vg) w (.slice A (V a).sh.length c) (.slice A' (V a).el.length c') (V a):=by
 obtain ⟨cs,v1,v2,v3⟩:=h
 obtain ⟨sv,ev,e1,e2,e3⟩:=v3 a ha
 have k:=e3
 obtain ⟨⟨A,c,rfl,_⟩,A',c',rfl,_⟩:=k
 exact ⟨A,c,A',c',by rw [cell_of_row w _ _ _ _ (0,0) v1];simpa using e1,by rw [cell_of_row w _ _ _ _ (0,0) v1];simpa using e2,e3⟩
theorem gv_free (h:VRow (vX vg) w vg n V) (k:Nat):w.frozen? ⟨vg,k,none⟩=false:=by
 obtain ⟨cs,v1,_⟩:=h
 simp [World.frozen?,v1]
theorem gv_set (h:VRow (vX vg) w vg n V) {a:Nat} (ha:a<n) {sv ev:Value} {t:TN} (hv:TnV (vX vg) w sv ev t) {W:World} (hW:W=(w.setCell ⟨vg,a*2,none⟩ sv).setCell ⟨vg,a*2+1,none⟩ ev) (V':Nat→TN) (hV':∀ j,V' j=if j=a then t else V j):
  VRow (vX vg) W vg n V':=by
 have hblk:∀ k,k≠vg→W.heap[k]?=w.heap[k]?:=fun k hk=>by
  rw [hW,ZaS _ _ _ hk,ZaS _ _ _ hk]
 have hsz:W.heap.size=w.heap.size:=by rw [hW];simp [World.setCell]
 have hkeep:KeepX (vX vg) w W:=⟨Nat.le_of_eq hsz.symm,fun p hp hx=>by unfold World.cell?;rw [hblk p.block (fun e=>hx e)]⟩
 obtain ⟨cs,v1,v2,v3⟩:=h
 refine ⟨(cs.set (a*2) sv).set (a*2+1) ev,?_,by simpa using v2,fun j hj => ?_⟩
 ·rw [hW]
  simp [World.setCell,Array.getElem?_modify,v1]
 ·rw [hV' j]
  by_cases e:j=a
  ·subst e
   rw [if_pos rfl]
   refine ⟨sv,ev,?_,?_,hv.keep hkeep⟩
   ·rw [List.getElem?_set_ne (by omega),List.getElem?_set_self (by omega)]
   ·rw [List.getElem?_set_self (by rw [List.length_set];omega)]
  ·rw [if_neg e]
   obtain ⟨sv',ev',e1,e2,e3⟩:=v3 j hj
   refine ⟨sv',ev',?_,?_,e3.keep hkeep⟩
   ·rw [List.getElem?_set_ne (by omega),List.getElem?_set_ne (by omega)]
    exact e1
   ·rw [List.getElem?_set_ne (by omega),List.getElem?_set_ne (by omega)]
    exact e2
theorem gv_made (w:World) (n:Nat) {W:World} (hW:W=w.alloc (.cells (List.replicate (n*2) (Value.slice none 0 0)).toArray 43)):VRow (vX w.heap.size) W w.heap.size n (fun _=>zTN):=by
 refine ⟨List.replicate (n*2) (.slice none 0 0),by rw [hW];exact Kac w _,by simp;omega,fun j hj=>⟨.slice none 0 0,.slice none 0 0,?_,?_,TnV.nil _ _⟩⟩
 ·rw [List.getElem?_replicate,if_pos (by omega)]
 ·rw [List.getElem?_replicate,if_pos (by omega)]
theorem rd_vX {B:Nat} {A:Option Addr} {xs:List Value} (h:Rd w B A xs) (hB:B≤vg) (hv:vg≤w.heap.size):RdX (vX vg) w A xs:=by
 rcases h with h | ⟨b,o,hA,hb,hc⟩
 ·exact .inl h
 ·exact .inr ⟨b,o,hA,by omega,fun e=>by have e:b=vg:=e;omega,hc⟩
theorem own_vX {B c:Nat} {T:TypeId} {A:Option Addr} {xs:List Value} (h:Own w B T A c xs) (hB:vg<B):RdX (vX vg) w A xs:=by
 have hl:=h.lt
 rcases h.rd with h | ⟨b,o,hA,hb,hc⟩
 ·exact .inl h
 ·exact .inr ⟨b,o,hA,hb,fun e=>by
   have e:b=vg:=e
   have:=(hl b (by rw [hA];rfl)).1
   omega,hc⟩
end
theorem fit_each {ws:List (List Int)} {ts:List TN} (h:fitT ws ts=true):∀ (j:Nat) (x:List Int) (t:TN),ws[j]?=some x→ts[j]?=some t→t.sh=x∧(t.el.length:Int)=Zad x:=by
 intro j x t hx ht
 obtain ⟨s,e⟩:=Zb0 h
 rw [←s,Kal,ht] at hx
 injection hx with hx
 exact ⟨hx,by rw [←hx];exact e t (Kam ht)⟩
theorem geval_any (w0s w1s:List (List Int)) (in0 in1:List TN) (B nc oc:Nat) (NA OA:Option Addr) (ms:List (ND × NV)) (outs:List Nat) (A0 A1 I0 I1:Option Addr) (n0 c0 n1 c1 k0 k1:Nat) (w:World)
  (hr:NdRow w B NA nc ms) (ho:Own w B 3 OA oc (outs.map VNt)) (h0:InRow w B A0 n0 c0 w0s) (h1:InRow w B A1 n1 c1 w1s) (hw:WfD w0s w1s (ms.map Prod.fst)) (hou:∀ o∈outs,o<ms.length) (hl:ms.length≤64) (hol:outs.length≤1000)
  (h8:w0s.length+w1s.length≤8) (hs0:∀ x∈w0s,Zad x≠0) (hs1:∀ x∈w1s,Zad x≠0) (hf0:fitT w0s in0=true) (hf1:fitT w1s in1=true) (hi0:RdTN w w.heap.size I0 in0) (hi1:RdTN w w.heap.size I1 in1) (hg:ETyped w):
  Calls Tryz.prog 41 #[.agg #[.slice NA ms.length nc,.slice OA outs.length oc,.slice A0 n0 c0,.slice A1 n1 c1],.agg #[.slice I0 n0 k0,.slice I1 n1 k1]] w fun e w'=>Below w.heap.size w w'∧∃ (A:Option Addr) (c D:Nat),e=.returned (.tuple #[.slice A outs.length c,.nilIface])∧w.heap.size≤D∧OutT w' D A outs.length c (outD in0 in1 (ms.map Prod.fst) outs):=by
 obtain ⟨s0,t0⟩:=Zb0 hf0
 obtain ⟨s1,t1⟩:=Zb0 hf1
 have ok0:∀ t∈in0,TnOk t:=fun t ht=>⟨hs0 t.sh (by rw [←s0];exact List.mem_map_of_mem ht),t0 t ht⟩
 have ok1:∀ t∈in1,TnOk t:=fun t ht=>⟨hs1 t.sh (by rw [←s1];exact List.mem_map_of_mem ht),t1 t ht⟩
 have HVO:=Kz (valOf_ok hw s0 s1 ok0 ok1)
 have HVS:=Kz (fun a (h:a<(ms.map Prod.fst).length)=>valOf_sh (in0:=in0) (in1:=in1) hw (fitD_map s0) (fitD_map s1) h)
 have hsm:∀ l:List (List Int),(∀ x∈l,Zad x≠0)→∀ x∈l,x.length≤1000000:=fun l h x hx=>by have:=sh_small (h x hx);omega
 obtain ⟨r0,e0⟩:=h0.rd (hsm _ hs0)
 obtain ⟨r1,e1⟩:=h1.rd (hsm _ hs1)
 have d0:n0=in0.length:=by rw [e0,←s0,Kak]
 have d1:n1=in1.length:=by rw [e1,←s1,Kak]
 obtain ⟨w2,hw2⟩:=Ky (w.alloc (.cells #[.slice NA ms.length nc,.slice OA outs.length oc,.slice A0 n0 c0,.slice A1 n1 c1] 68))
 obtain ⟨w3,hw3⟩:=Ky (w2.alloc (.cells #[.slice I0 n0 k0,.slice I1 n1 k1] 45))
 have hb2:=Kv hw2
 have hb3:=Kv hw3
 obtain ⟨gb,hgb⟩:=Ky w.heap.size
 obtain ⟨ib,hib⟩:=Ky (w.heap.size+1)
 have hG2:=Kx hw2 hgb
 have hz2:w2.heap.size=w.heap.size+1:=by rw [hw2];simp
 have hI3:w3.heap[ib]?=some (.cells #[.slice I0 n0 k0,.slice I1 n1 k1] 45 (0,0)):=by rw [hw3,hib,←hz2];exact Kac w2 _
 have hG3:=(hb3.block _ (Kab.1 hG2).1).trans hG2
 have hb:=bnext hb2 hb3
 have HB3:=Kz hb
 have HCH:=Kz (gcheck_any w0s w1s B nc oc NA OA ms outs A0 A1 n0 c0 n1 c1 w3 (hr.next hb) (ho.next hb) (h0.next hb) (h1.next hb) hw hou hl hol h8 hs0 hs1 (hg.next hb))
 obtain ⟨L,hL⟩:=Ky ms.length
 obtain ⟨on,hon⟩:=Ky outs.length
 rw [←hL] at HCH hw2 hG3 hl
 rw [←hon] at HCH hw2 hG3 hol
 rw [←hL,←hon]
 have HGC:=Kz (show ∀ W,Below w3.heap.size w3 W→W.cell? ⟨gb,0,none⟩=some (.slice NA L nc)∧W.cell? ⟨gb,1,none⟩=some (.slice OA on oc)∧W.cell? ⟨gb,2,none⟩=some (.slice A0 n0 c0)∧W.cell? ⟨gb,3,none⟩=some (.slice A1 n1 c1)∧W.cell? ⟨ib,0,none⟩=some (.slice I0 n0 k0)∧W.cell? ⟨ib,1,none⟩=some (.slice I1 n1 k1) from fun W hW=>by
  have h:=(hW.block _ (Kab.1 hG3).1).trans hG3
  have h':=(hW.block _ (Kab.1 hI3).1).trans hI3
  exact ⟨Kaa 0 h,Kaa 1 h,Kaa 2 h,Kaa 3 h,Kaa 0 h',Kaa 1 h'⟩)
 have HEQ0:=Kz (fun W (hW:Below w3.heap.size w3 W)=>evq_any A0 I0 n0 c0 k0 w0s in0 W e0 d0 (by omega) ((r0.next hb).next hW) ((hi0.next hb).next hW) (fit_each hf0))
 have HEQ1:=Kz (fun W (hW:Below w3.heap.size w3 W)=>evq_any A1 I1 n1 c1 k1 w1s in1 W e1 d1 (by omega) ((r1.next hb).next hW) ((hi1.next hb).next hW) (fit_each hf1))
 have HR3:=Kz (hr.next hb)
 have HRO:=Kz (fun W (hW:Below w3.heap.size w3 W)=>(ho.rd.next hb).next hW)
 have HI0:=Kz (fun W (hW:Below w3.heap.size w3 W)=>hi0.below (bnext hb hW))
 have HI1:=Kz (fun W (hW:Below w3.heap.size w3 W)=>hi1.below (bnext hb hW))
 have HIS0:=Kz (fun i s (h:w0s[i]?=some s)=>in_get s0 h)
 have HIS1:=Kz (fun i s (h:w1s[i]?=some s)=>in_get s1 h)
 have HOK0:=Kz ok0
 have HOK1:=Kz ok1
 have HD0:=Kz d0
 have HD1:=Kz d1
 have HWF:=Kz hw
 have HOU:=Kz hou
 have HL:=Kz hL
 have HON:=Kz hon
 have HG3:=Kz (hg.next hb)
 have HW2:=Kz hw2
 have HW3:=Kz hw3
 have HGB:=Kz hgb
 have HIB:=Kz hib
 have HIBL:=Kz (show ib<w3.heap.size from (Kab.1 hI3).1)
 have HLN:=Kz (show (ms.map Prod.fst).length=L from by rw [Kak,hL])
 have hnn:n0≤8∧n1≤8:=by omega
 clear hr ho h0 h1 hw hou h8 hs0 hs1 hf0 hf1 hi0 hi1 hg s0 t0 s1 t1 ok0 ok1 hsm r0 e0 r1 e1 d0 d1 hw2 hw3 hb2 hb3 hgb hib hG2 hz2 hI3 hG3 hb hL hon
 obtain ⟨y0,y1,y2,y3,x0,x1⟩:=HGC.o w3 (Kai _ _)
 go_enter Tryz.func41,Tryz.ntmps41
 go_upto_region 1 with fail
 rw [←HW2.o,←HW3.o,←HIB.o,←HGB.o]
 go_upto_region 4 with (go_at_call 40;refine HCH.o.mono ?_;rintro e w4 ⟨rfl,b4⟩;have HB4:=Kz b4;clear b4)
 clear y0 y1 y2 y3 x0 x1
 obtain ⟨y0,y1,y2,y3,x0,x1⟩:=HGC.o w4 HB4.o
 go_wp2_with fail
 clear y0 y1 y2 y3 x0 x1
 go_loopw [27] (fun iv wr=>(iv=.int .i64 0∨iv=.int .i64 1∨iv=.int .i64 2)∧Below w3.heap.size w3 wr) (fun iv _=>2-(intOf iv).toNat)
 case atStart=>exact ⟨.inl rfl,HB4.o⟩
 case round=>
 obtain ⟨hiv,hb⟩:=hrel
 have HBr:=Kz hb
 clear hb
 obtain ⟨y0,y1,y2,y3,x0,x1⟩:=HGC.o wr HBr.o
 rcases hiv with rfl | rfl | rfl
 ·have tix:=fun W=>Zh7 A0 A1 n0 n1 c0 c1 W
  go_wp2_with (go_at_call 77;refine (HEQ0.o wr HBr.o).mono ?_;rintro e w5 ⟨rfl,b5⟩;have HB5:=Kz (bnext HBr.o b5);clear b5)
  exact ⟨⟨.inr (.inl rfl),HB5.o⟩,by simp [intOf]⟩
 ·have tix:=fun W=>Zh8 A0 A1 n0 n1 c0 c1 W
  go_wp2_with (go_at_call 77;refine (HEQ1.o wr HBr.o).mono ?_;rintro e w5 ⟨rfl,b5⟩;have HB5:=Kz (bnext HBr.o b5);clear b5)
  exact ⟨⟨.inr (.inr rfl),HB5.o⟩,by simp [intOf]⟩
 ·have hmk:=fun W=>Zdu L (by omega) W (L:Int) rfl
  obtain ⟨w5,hw5⟩:=Ky (wr.alloc (.cells (Array.replicate (L*2) (Value.slice none 0 0)) 43))
  obtain ⟨vg,hvg⟩:=Ky wr.heap.size
  have HV5:=Kz (show VRow (vX vg) w5 vg L (valsD in0 in1 (ms.map Prod.fst) 0) from by rw [hvg];exact gv_made wr L (by rw [hw5];simp))
  have b5:=Kv hw5
  have HB5:=Kz (bnext HBr.o b5)
  have HVG:=Kz (show w3.heap.size≤vg from by rw [hvg];exact HBr.o.size)
  have HW5:=Kz hw5
  have HVB:=Kz hvg
  clear hw5 hvg b5
  go_upto_region 12 with fail
  rw [←HW5.o,←HVB.o]
  clear y0 y1 y2 y3 x0 x1 hmk
  obtain ⟨y0,y1,y2,y3,x0,x1⟩:=HGC.o w5 HB5.o
  go_wp2_with fail
  clear y0 y1 y2 y3 x0 x1
  go_loopw [49] (fun iv wq=>∃ i:Nat,i≤L∧iv=.int .i64 i∧VRow (vX vg) wq vg L (valsD in0 in1 (ms.map Prod.fst) i)∧Below w3.heap.size w3 wq) (fun iv _=>L-(intOf iv).toNat)
  case atStart=>exact ⟨0,by omega,rfl,HV5.o,HB5.o⟩
  case round=>
  rename World=>wq
  obtain ⟨i,hi,rfl,hV,hb⟩:=hrel
  have HVr:=Kz hV
  have HBq:=Kz hb
  clear hV hb
  by_cases hlt:i<L
  ·obtain ⟨⟨n,⟨sv,av,ev⟩⟩,hmi⟩:∃ x,ms[i]?=some x:=⟨ms[i]'(by rw [←HL.o];exact hlt),Kad _⟩
   obtain ⟨q,hNA,hql,hc,hv⟩:=HR3.o.at_ hmi
   subst hNA
   have HNV:=Kz hv
   obtain ⟨hls,hla,hle,⟨X1,x1,e1,o1⟩,⟨X2,x2,e2,oa⟩,X3,x3,e3,o3⟩:=hv
   change sv=.slice X1 n.shape.length x1 at e1
   change av=.slice X2 n.args.length x2 at e2
   change ev=.slice X3 n.elems.length x3 at e3
   change Own w3 B 3 X1 x1 (n.shape.map VI) at o1
   change Own w3 B 3 X2 x2 (n.args.map VNt) at oa
   change Own w3 B 39 X3 x3 (n.elems.map U) at o3
   subst e1 e2 e3
   change n.args.length≤1000000 at hla
   have hat:atD (ms.map Prod.fst) i=n:=atD_some (by rw [Kal,hmi];rfl)
   have hil:i<(ms.map Prod.fst).length:=by rw [HLN.o];exact hlt
   have hno:=HWF.o i n (by rw [Kal,hmi];rfl)
   have HNO:=Kz hno
   have HAT:=Kz hat
   have pc1:=own_capsN o1
   have pc3:=own_capsN o3
   rw [Kak] at pc1 pc3
   have hsh2:=sh_small hno.shape
   have HSV:=Kz (show ∀ W,Below w3.heap.size w3 W→vg≤W.heap.size→ShV (vX vg) W (.slice X1 n.shape.length x1) n.shape from fun W hW hv=>⟨X1,x1,rfl,pc1.1,pc1.2,hsh2,rd_vX (o1.rd.keep (fun p hp=>hW.cell hp)) HVG.o hv⟩)
   have HEV:=Kz (show ∀ W,Below w3.heap.size w3 W→vg≤W.heap.size→WoV (vX vg) W (.slice X3 n.elems.length x3) n.elems from fun W hW hv=>⟨X3,x3,rfl,pc3.1,pc3.2,rd_vX (o3.rd.keep (fun p hp=>hW.cell hp)) HVG.o hv⟩)
   have HRA:=Kz (show ∀ W,Below w3.heap.size w3 W→Rd W W.heap.size X2 (n.args.map VNt) from fun W hW=>oa.rd.next hW)
   have c0':wq.cell? ⟨q,i*7,none⟩=some (.int .i64 n.kind):=(HBq.o.cell (p:=⟨q,i*7,none⟩) hql).trans (hc 0 _ rfl (by omega))
   have c1':wq.cell? ⟨q,i*7+1,none⟩=some (.slice X1 n.shape.length x1):=(HBq.o.cell (p:=⟨q,i*7+1,none⟩) hql).trans (hc 1 _ rfl (by omega))
   have c2':wq.cell? ⟨q,i*7+2,none⟩=some (.slice X2 n.args.length x2):=(HBq.o.cell (p:=⟨q,i*7+2,none⟩) hql).trans (hc 2 _ rfl (by omega))
   have c3':wq.cell? ⟨q,i*7+3,none⟩=some (.int .i64 n.party):=(HBq.o.cell (p:=⟨q,i*7+3,none⟩) hql).trans (hc 3 _ rfl (by omega))
   have c4':wq.cell? ⟨q,i*7+4,none⟩=some (.int .i64 n.input):=(HBq.o.cell (p:=⟨q,i*7+4,none⟩) hql).trans (hc 4 _ rfl (by omega))
   have c5':wq.cell? ⟨q,i*7+5,none⟩=some (.int .i64 n.k):=(HBq.o.cell (p:=⟨q,i*7+5,none⟩) hql).trans (hc 5 _ rfl (by omega))
   have c6':wq.cell? ⟨q,i*7+6,none⟩=some (.slice X3 n.elems.length x3):=(HBq.o.cell (p:=⟨q,i*7+6,none⟩) hql).trans (hc 6 _ rfl (by omega))
   obtain ⟨w8,hw8⟩:=Ky (wq.alloc (.cells #[.int .i64 n.kind,.slice X1 n.shape.length x1,.slice X2 n.args.length x2,.int .i64 n.party,.int .i64 n.input,.int .i64 n.k,.slice X3 n.elems.length x3] 77))
   obtain ⟨nb,hnb⟩:=Ky wq.heap.size
   have hN8:=Kx hw8 hnb
   have b8:=Kv hw8
   obtain ⟨w9,hw9⟩:=Ky (w8.alloc (.cells #[.slice X1 n.shape.length x1,.slice X3 n.elems.length x3] 43))
   obtain ⟨tb,htb⟩:=Ky w8.heap.size
   have b9:=Kv hw9
   have HT9:=Kz (Kx hw9 htb)
   have HN9:=Kz ((b9.block nb (Kab.1 hN8).1).trans hN8)
   have HN8:=Kz hN8
   have HTL:=Kz (show wq.heap.size≤tb from by rw [htb];exact b8.size)
   have HBQ9:=Kz (bnext b8 b9)
   have HB9:=Kz (bnext HBq.o (bnext b8 b9))
   have hvl:=gv_lt HVr.o
   have HVL:=Kz hvl
   have HW8:=Kz hw8
   have HNB:=Kz hnb
   have HW9:=Kz hw9
   have HTB:=Kz htb
   have HVF:=Kz (show ∀ (W W':World) (sv ev:Value),Below wq.heap.size wq W→TnV (vX vg) W sv ev (nodeV in0 in1 (valsD in0 in1 (ms.map Prod.fst) i) n)→W'=(W.setCell ⟨vg,i*2,none⟩ sv).setCell ⟨vg,i*2+1,none⟩ ev→VRow (vX vg) W' vg L (valsD in0 in1 (ms.map Prod.fst) (i+1))∧Below w3.heap.size w3 W' from fun W W' sv ev hW hT hW'=>⟨gv_set (gv_next HVr.o hW) hlt hT hW' _ (fun j=>by rw [vals_succ,HAT.o]),by rw [hW'];exact Zaf (Zaf (bnext HBq.o hW) HVG.o _) HVG.o _⟩)
   have HFZ:=Kz (show ∀ (W:World),Below wq.heap.size wq W→∀ k,W.frozen? ⟨vg,k,none⟩=false from fun W hW k=>gv_free (gv_next HVr.o hW) k)
   have HVC:=Kz (show ∀ a,a<i→∃ A c A' c',wq.cell? ⟨vg,a*2,none⟩=some (.slice A (valsD in0 in1 (ms.map Prod.fst) i a).sh.length c)∧wq.cell? ⟨vg,a*2+1,none⟩=some (.slice A' (valsD in0 in1 (ms.map Prod.fst) i a).el.length c')∧TnV (vX vg) wq (.slice A (valsD in0 in1 (ms.map Prod.fst) i a).sh.length c) (.slice A' (valsD in0 in1 (ms.map Prod.fst) i a).el.length c') (valsD in0 in1 (ms.map Prod.fst) i a) from fun a ha=>gv_val HVr.o (by omega))
   have HVI:=Kz (show ∀ W,Below wq.heap.size wq W→∃ r0 r1:Value,W.cell? ⟨vg,i*2,none⟩=some r0∧W.cell? ⟨vg,i*2+1,none⟩=some r1 from fun W hW=>by
    obtain ⟨_,_,_,_,h1,h2,_⟩:=gv_val (gv_next HVr.o hW) hlt
    exact ⟨_,_,h1,h2⟩)
   have HLT:=Kz (show ∀ a∈n.args,a<i from hno.ahead)
   have i0:(0:Int)≤(i:Int):=by omega
   have i1:(i:Int)<(L:Int):=by omega
   obtain ⟨nl,hnl⟩:=Ky n.shape.length
   obtain ⟨el,hel⟩:=Ky n.elems.length
   obtain ⟨al,hal⟩:=Ky n.args.length
   have HNL:=Kz hnl
   have HEL:=Kz hel
   have HAL:=Kz hal
   rw [←hnl] at c1' HW8 HN8 HN9 HT9 HW9 HSV HNV
   rw [←hal] at c2' HW8 HN8 HN9 hla HNV
   rw [←hel] at c6' HW8 HN8 HN9 HT9 HW9 HEV HNV
   clear hc o1 oa o3 hls hle hmi hat hno pc1 pc3 hsh2 hw8 hnb hN8 b8 hw9 htb b9 hvl hnl hel hal
   go_upto_region 15 with fail
   rw [←HW8.o,←HNB.o]
   clear c0' c1' c2' c3' c4' c5' c6'
   have e1:=Kaa 1 HN8.o
   have e6:=Kaa 6 HN8.o
   go_upto_region 16 with fail
   rw [←HW9.o,←HTB.o]
   clear e1 e6
   have a':=fun k v hv=>cells_node (m:=(n,⟨.slice X1 nl x1,.slice X2 al x2,.slice X3 el x3⟩)) HN9.o k v hv
   have a0:w9.cell? ⟨nb,0,none⟩=some (.int .i64 n.kind):=a' 0 _ rfl
   have a1:w9.cell? ⟨nb,1,none⟩=some (.slice X1 nl x1):=a' 1 _ rfl
   have a2:w9.cell? ⟨nb,2,none⟩=some (.slice X2 al x2):=a' 2 _ rfl
   have a3:w9.cell? ⟨nb,3,none⟩=some (.int .i64 n.party):=a' 3 _ rfl
   have a4:w9.cell? ⟨nb,4,none⟩=some (.int .i64 n.input):=a' 4 _ rfl
   have a5:w9.cell? ⟨nb,5,none⟩=some (.int .i64 n.k):=a' 5 _ rfl
   have a6:w9.cell? ⟨nb,6,none⟩=some (.slice X3 el x3):=a' 6 _ rfl
   clear a'
   have t0:=Kaa 0 HT9.o
   have t1:=Kaa 1 HT9.o
   rcases HNO.o.kinds with hk | hk | hk
   ·have q2:((n.kind:Int)==2)=false:=by rw [Kaj];omega
    have q1:((n.kind:Int)==1)=true:=by rw [beq_iff_eq];omega
    rcases hk.2.2.2.2 with ⟨p0,p1⟩ | ⟨p0,p1⟩
    ·obtain ⟨t,ht,hgt,hts⟩:=HIS0.o _ _ p1
     have htok:=HOK0.o t (Kam ht)
     have hnv:nodeV in0 in1 (valsD in0 in1 (ms.map Prod.fst) i) n=t:=by rw [nodeV_in0 hk.1 p0,hgt]
     obtain ⟨b,o,rfl,hbl,hta⟩:=(HI0.o w9 HB9.o).at_ ht
     obtain ⟨T1,u1,T2,u2,g0,g1,htv⟩:=hta.tnv (X:=vX vg) (sh_small htok.1) (fun k hk=>by have hk:k=vg:=hk;have:=HVG.o;have:=HB3.o.size;omega) (bnext HB3.o HB9.o).size
     have hin:n.input<n0:=by have:=(Kaf.1 ht).1;have:=HD0.o;omega
     obtain ⟨l1,hl1⟩:=Ky t.sh.length
     obtain ⟨l2,hl2⟩:=Ky t.el.length
     rw [←hl1] at g0 htv
     rw [←hl2] at g1 htv
     have HTN:=Kz htv
     have HTI:=Kz ht
     have HT2:=Kz (sh_small htok.1)
     have HNV1:=Kz hnv
     obtain ⟨y0,y1,y2,y3,x0,x1⟩:=HGC.o w9 HB9.o
     rw [p0] at a3
     have HS:=Kz (show w9.cell? ⟨nb,3,none⟩=some (.int .i64 (0:Nat))∧w9.cell? ⟨nb,4,none⟩=some (.int .i64 n.input)∧w9.cell? ⟨ib,0,none⟩=some (.slice (some ⟨b,o,none⟩) n0 k0)∧w9.cell? ⟨b,o+n.input*2,none⟩=some (.slice T1 l1 u1)∧w9.cell? ⟨b,o+n.input*2+1,none⟩=some (.slice T2 l2 u2) from ⟨a3,a4,x0,g0,g1⟩)
     have HBL:=Kz (show b<wq.heap.size from by have:=HB3.o.size;have:=HBq.o.size;omega)
     have hnt:nb≠tb:=fun e=>by have h1:=HT9.o;have h2:=HN9.o;rw [e,h1] at h2;injection h2 with h2;injection h2 with _ h2 _;exact absurd h2 (by decide)
     have HNT:=Kz hnt
     have j0:(0:Int)≤(n.input:Int):=by omega
     have j1:(n.input:Int)<(n0:Int):=by omega
     clear ht hgt hts htok hnv hbl hta htv hl1 hl2 g0 g1 hk p1 hnt
     go_upto_region 26 with fail
     clear a0 a1 a2 a3 a4 a5 a6 t0 t1 q1 q2 y0 y1 y2 y3 x0 x1
     refine wp_region_held_drew (S:=(fun w'=>w'.cell? ⟨nb,3,none⟩=some (.int .i64 (0:Nat))∧w'.cell? ⟨nb,4,none⟩=some (.int .i64 n.input)∧w'.cell? ⟨ib,0,none⟩=some (.slice (some ⟨b,o,none⟩) n0 k0)∧w'.cell? ⟨b,o+n.input*2,none⟩=some (.slice T1 l1 u1)∧w'.cell? ⟨b,o+n.input*2+1,none⟩=some (.slice T2 l2 u2))) (by kernel_rfl) HS.o (fun hHeld => ?_)
     obtain ⟨wd,hwd⟩:=Ky w9.drew
     rw [←hwd] at hHeld ⊢
     have HBD:=Kz (show Below wq.heap.size wq wd from by rw [hwd];exact HBQ9.o.drew)
     have HTD:=Kz (show wd.heap[tb]?=some (.cells #[.slice X1 nl x1,.slice X3 el x3] 43 (0,0)) from by rw [hwd];exact HT9.o)
     have HTND:=Kz (show TnV (vX vg) wd (.slice T1 l1 u1) (.slice T2 l2 u2) t from by rw [hwd];exact HTN.o.next (Kai _ _).drew)
     clear hwd
     refine tk 0 ?_
     simp only [tkS]
     refine tk 1 ?_
     simp only [tkS]
     refine tk 2 ?_
     simp only [tkS]
     refine tk 3 ?_
     simp only [tkS]
     refine tk 4 ?_
     simp only [tkS]
     refine tk 5 ?_
     simp only [tkS]
     refine tk 6 ?_
     simp only [tkS]
     refine tk 7 ?_
     simp only [tkS]
     have tz0:=Kaa 0 HTD.o
     have tz1:=Kaa 1 HTD.o
     have fb:∀ k,wd.frozen? ⟨tb,k,none⟩=false:=fun k=>by simp [World.frozen?,HTD.o]
     obtain ⟨wx,hwx⟩:=Ky ((wd.setCell ⟨tb,0,none⟩ (.slice T1 l1 u1)).setCell ⟨tb,1,none⟩ (.slice T2 l2 u2))
     have HBX:=Kz (show Below wq.heap.size wq wx from by rw [hwx];exact Zaf (Zaf HBD.o HTL.o _) HTL.o _)
     have HTX:=Kz (show wx.heap[tb]?=some (.cells #[.slice T1 l1 u1,.slice T2 l2 u2] 43 (0,0)) from by have h9:=HTD.o;rw [hwx];simp [World.setCell,Array.getElem?_modify,h9])
     have hx:∀ p:Addr,p.block≠tb→wx.cell? p=wd.cell? p:=fun p hp=>by unfold World.cell?;rw [hwx,ZaS _ _ _ hp,ZaS _ _ _ hp]
     have HSX:=Kz (show wx.cell? ⟨nb,3,none⟩=some (.int .i64 (0:Nat))∧wx.cell? ⟨nb,4,none⟩=some (.int .i64 n.input)∧wx.cell? ⟨ib,0,none⟩=some (.slice (some ⟨b,o,none⟩) n0 k0)∧wx.cell? ⟨b,o+n.input*2,none⟩=some (.slice T1 l1 u1)∧wx.cell? ⟨b,o+n.input*2+1,none⟩=some (.slice T2 l2 u2) from by
      have hz:=HB3.o.size
      have hz2:=HBq.o.size
      have hz3:=HTL.o
      have hz4:=HBL.o
      have hib:ib<w3.heap.size:=HIBL.o
      rw [hx _ HNT.o,hx _ HNT.o,hx _ (show ib≠tb by omega),hx _ (show b≠tb by omega),hx _ (show b≠tb by omega)]
      exact hHeld)
     have HTV:=Kz (show TnV (vX vg) wx (.slice T1 l1 u1) (.slice T2 l2 u2) (nodeV in0 in1 (valsD in0 in1 (ms.map Prod.fst) i) n) from by
      rw [HNV1.o]
      obtain ⟨b',o',hA',hbl',hta'⟩:=(HI0.o wx (bnext HBq.o HBX.o)).at_ HTI.o
      injection hA' with hA'
      injection hA' with hA' hA2 _
      subst hA' hA2
      obtain ⟨T1',u1',T2',u2',g0',g1',htv'⟩:=hta'.tnv (X:=vX vg) HT2.o (fun k hk=>by have hk:k=vg:=hk;have:=HVG.o;have:=HB3.o.size;omega) (bnext HB3.o (bnext HBq.o HBX.o)).size
      obtain ⟨_,_,_,f0,f1⟩:=HSX.o
      rw [f0] at g0'
      rw [f1] at g1'
      injection g0' with g0'
      injection g1' with g1'
      rw [←g0',←g1'] at htv'
      exact htv')
     have HWX:=Kz hwx
     clear hwx hx
     refine Kr 8 fun K hK=>?_
     go_simp
     rw [←HWX.o]
     refine hK.out _ _ HSX.o (fun hHeld => ?_)
     clear hK K
     try simp only [tkS]
     clear fb tz0 tz1 j0 j1 hHeld
     refine Kq ?_
     have z0:wx.cell? ⟨tb,0,none⟩=some (.slice T1 l1 u1):=Kaa 0 HTX.o
     have z1:wx.cell? ⟨tb,1,none⟩=some (.slice T2 l2 u2):=Kaa 1 HTX.o
     have fz:=HFZ.o wx HBX.o
     obtain ⟨r0,r1,vz0,vz1⟩:=HVI.o wx HBX.o
     obtain ⟨wz,hwz⟩:=Ky ((wx.setCell ⟨vg,i*2,none⟩ (.slice T1 l1 u1)).setCell ⟨vg,i*2+1,none⟩ (.slice T2 l2 u2))
     have HZ:=Kz (HVF.o wx wz (.slice T1 l1 u1) (.slice T2 l2 u2) HBX.o HTV.o hwz)
     have HWZ:=Kz hwz
     clear hwz
     go_upto_region 28 with fail
     rw [←HWZ.o]
     clear z0 z1 fz vz0 vz1
     go_wp2_with fail
     exact ⟨⟨i+1,by omega,rfl,HZ.o.1,HZ.o.2⟩,by simp [intOf];omega⟩
    ·obtain ⟨t,ht,hgt,hts⟩:=HIS1.o _ _ p1
     have htok:=HOK1.o t (Kam ht)
     have hnv:nodeV in0 in1 (valsD in0 in1 (ms.map Prod.fst) i) n=t:=by rw [nodeV_in1 hk.1 p0,hgt]
     obtain ⟨b,o,rfl,hbl,hta⟩:=(HI1.o w9 HB9.o).at_ ht
     obtain ⟨T1,u1,T2,u2,g0,g1,htv⟩:=hta.tnv (X:=vX vg) (sh_small htok.1) (fun k hk=>by have hk:k=vg:=hk;have:=HVG.o;have:=HB3.o.size;omega) (bnext HB3.o HB9.o).size
     have hin:n.input<n1:=by have:=(Kaf.1 ht).1;have:=HD1.o;omega
     obtain ⟨l1,hl1⟩:=Ky t.sh.length
     obtain ⟨l2,hl2⟩:=Ky t.el.length
     rw [←hl1] at g0 htv
     rw [←hl2] at g1 htv
     have HTN:=Kz htv
     have HTI:=Kz ht
     have HT2:=Kz (sh_small htok.1)
     have HNV1:=Kz hnv
     obtain ⟨y0,y1,y2,y3,x0,x1⟩:=HGC.o w9 HB9.o
     rw [p0] at a3
     have HS:=Kz (show w9.cell? ⟨nb,3,none⟩=some (.int .i64 (1:Nat))∧w9.cell? ⟨nb,4,none⟩=some (.int .i64 n.input)∧w9.cell? ⟨ib,1,none⟩=some (.slice (some ⟨b,o,none⟩) n1 k1)∧w9.cell? ⟨b,o+n.input*2,none⟩=some (.slice T1 l1 u1)∧w9.cell? ⟨b,o+n.input*2+1,none⟩=some (.slice T2 l2 u2) from ⟨a3,a4,x1,g0,g1⟩)
     have HBL:=Kz (show b<wq.heap.size from by have:=HB3.o.size;have:=HBq.o.size;omega)
     have hnt:nb≠tb:=fun e=>by have h1:=HT9.o;have h2:=HN9.o;rw [e,h1] at h2;injection h2 with h2;injection h2 with _ h2 _;exact absurd h2 (by decide)
     have HNT:=Kz hnt
     have j0:(0:Int)≤(n.input:Int):=by omega
     have j1:(n.input:Int)<(n1:Int):=by omega
     clear ht hgt hts htok hnv hbl hta htv hl1 hl2 g0 g1 hk p1 hnt
     go_upto_region 26 with fail
     clear a0 a1 a2 a3 a4 a5 a6 t0 t1 q1 q2 y0 y1 y2 y3 x0 x1
     refine wp_region_held_drew (S:=(fun w'=>w'.cell? ⟨nb,3,none⟩=some (.int .i64 (1:Nat))∧w'.cell? ⟨nb,4,none⟩=some (.int .i64 n.input)∧w'.cell? ⟨ib,1,none⟩=some (.slice (some ⟨b,o,none⟩) n1 k1)∧w'.cell? ⟨b,o+n.input*2,none⟩=some (.slice T1 l1 u1)∧w'.cell? ⟨b,o+n.input*2+1,none⟩=some (.slice T2 l2 u2))) (by kernel_rfl) HS.o (fun hHeld => ?_)
     obtain ⟨wd,hwd⟩:=Ky w9.drew
     rw [←hwd] at hHeld ⊢
     have HBD:=Kz (show Below wq.heap.size wq wd from by rw [hwd];exact HBQ9.o.drew)
     have HTD:=Kz (show wd.heap[tb]?=some (.cells #[.slice X1 nl x1,.slice X3 el x3] 43 (0,0)) from by rw [hwd];exact HT9.o)
     have HTND:=Kz (show TnV (vX vg) wd (.slice T1 l1 u1) (.slice T2 l2 u2) t from by rw [hwd];exact HTN.o.next (Kai _ _).drew)
     clear hwd
     refine tk 0 ?_
     simp only [tkS]
     refine tk 1 ?_
     simp only [tkS]
     refine tk 2 ?_
     simp only [tkS]
     refine tk 3 ?_
     simp only [tkS]
     refine tk 4 ?_
     simp only [tkS]
     refine tk 5 ?_
     simp only [tkS]
     refine tk 6 ?_
     simp only [tkS]
     refine tk 7 ?_
     simp only [tkS]
     have tz0:=Kaa 0 HTD.o
     have tz1:=Kaa 1 HTD.o
     have fb:∀ k,wd.frozen? ⟨tb,k,none⟩=false:=fun k=>by simp [World.frozen?,HTD.o]
     obtain ⟨wx,hwx⟩:=Ky ((wd.setCell ⟨tb,0,none⟩ (.slice T1 l1 u1)).setCell ⟨tb,1,none⟩ (.slice T2 l2 u2))
     have HBX:=Kz (show Below wq.heap.size wq wx from by rw [hwx];exact Zaf (Zaf HBD.o HTL.o _) HTL.o _)
     have HTX:=Kz (show wx.heap[tb]?=some (.cells #[.slice T1 l1 u1,.slice T2 l2 u2] 43 (0,0)) from by have h9:=HTD.o;rw [hwx];simp [World.setCell,Array.getElem?_modify,h9])
     have hx:∀ p:Addr,p.block≠tb→wx.cell? p=wd.cell? p:=fun p hp=>by unfold World.cell?;rw [hwx,ZaS _ _ _ hp,ZaS _ _ _ hp]
     have HSX:=Kz (show wx.cell? ⟨nb,3,none⟩=some (.int .i64 (1:Nat))∧wx.cell? ⟨nb,4,none⟩=some (.int .i64 n.input)∧wx.cell? ⟨ib,1,none⟩=some (.slice (some ⟨b,o,none⟩) n1 k1)∧wx.cell? ⟨b,o+n.input*2,none⟩=some (.slice T1 l1 u1)∧wx.cell? ⟨b,o+n.input*2+1,none⟩=some (.slice T2 l2 u2) from by
      have hz:=HB3.o.size
      have hz2:=HBq.o.size
      have hz3:=HTL.o
      have hz4:=HBL.o
      have hib:ib<w3.heap.size:=HIBL.o
      rw [hx _ HNT.o,hx _ HNT.o,hx _ (show ib≠tb by omega),hx _ (show b≠tb by omega),hx _ (show b≠tb by omega)]
      exact hHeld)
     have HTV:=Kz (show TnV (vX vg) wx (.slice T1 l1 u1) (.slice T2 l2 u2) (nodeV in0 in1 (valsD in0 in1 (ms.map Prod.fst) i) n) from by
      rw [HNV1.o]
      obtain ⟨b',o',hA',hbl',hta'⟩:=(HI1.o wx (bnext HBq.o HBX.o)).at_ HTI.o
      injection hA' with hA'
      injection hA' with hA' hA2 _
      subst hA' hA2
      obtain ⟨T1',u1',T2',u2',g0',g1',htv'⟩:=hta'.tnv (X:=vX vg) HT2.o (fun k hk=>by have hk:k=vg:=hk;have:=HVG.o;have:=HB3.o.size;omega) (bnext HB3.o (bnext HBq.o HBX.o)).size
      obtain ⟨_,_,_,f0,f1⟩:=HSX.o
      rw [f0] at g0'
      rw [f1] at g1'
      injection g0' with g0'
      injection g1' with g1'
      rw [←g0',←g1'] at htv'
      exact htv')
     have HWX:=Kz hwx
     clear hwx hx
     refine Kr 8 fun K hK=>?_
     go_simp
     rw [←HWX.o]
     refine hK.out _ _ HSX.o (fun hHeld => ?_)
     clear hK K
     try simp only [tkS]
     clear fb tz0 tz1 j0 j1 hHeld
     refine Kq ?_
     have z0:wx.cell? ⟨tb,0,none⟩=some (.slice T1 l1 u1):=Kaa 0 HTX.o
     have z1:wx.cell? ⟨tb,1,none⟩=some (.slice T2 l2 u2):=Kaa 1 HTX.o
     have fz:=HFZ.o wx HBX.o
     obtain ⟨r0,r1,vz0,vz1⟩:=HVI.o wx HBX.o
     obtain ⟨wz,hwz⟩:=Ky ((wx.setCell ⟨vg,i*2,none⟩ (.slice T1 l1 u1)).setCell ⟨vg,i*2+1,none⟩ (.slice T2 l2 u2))
     have HZ:=Kz (HVF.o wx wz (.slice T1 l1 u1) (.slice T2 l2 u2) HBX.o HTV.o hwz)
     have HWZ:=Kz hwz
     clear hwz
     go_upto_region 28 with fail
     rw [←HWZ.o]
     clear z0 z1 fz vz0 vz1
     go_wp2_with fail
     exact ⟨⟨i+1,by omega,rfl,HZ.o.1,HZ.o.2⟩,by simp [intOf];omega⟩
   ·have q2:((n.kind:Int)==2)=true:=by rw [beq_iff_eq];omega
    have HTX:=Kz HT9.o
    have HBX:=Kz HBQ9.o
    have HTV:=Kz (show TnV (vX vg) w9 (.slice X1 nl x1) (.slice X3 el x3) (nodeV in0 in1 (valsD in0 in1 (ms.map Prod.fst) i) n) from by
     rw [nodeV_c hk.1]
     have hv:vg≤w9.heap.size:=by have:=HVL.o;have:=HBQ9.o.size;omega
     exact ⟨HSV.o w9 HB9.o hv,HEV.o w9 HB9.o hv⟩)
    clear hk
    go_upto_region 27 with fail
    clear a0 a1 a2 a3 a4 a5 a6 t0 t1 q2
    have z0:w9.cell? ⟨tb,0,none⟩=some (.slice X1 nl x1):=Kaa 0 HTX.o
    have z1:w9.cell? ⟨tb,1,none⟩=some (.slice X3 el x3):=Kaa 1 HTX.o
    have fz:=HFZ.o w9 HBX.o
    obtain ⟨r0,r1,vz0,vz1⟩:=HVI.o w9 HBX.o
    obtain ⟨wz,hwz⟩:=Ky ((w9.setCell ⟨vg,i*2,none⟩ (.slice X1 nl x1)).setCell ⟨vg,i*2+1,none⟩ (.slice X3 el x3))
    have HZ:=Kz (HVF.o w9 wz (.slice X1 nl x1) (.slice X3 el x3) HBX.o HTV.o hwz)
    have HWZ:=Kz hwz
    clear hwz
    go_upto_region 28 with fail
    rw [←HWZ.o]
    clear z0 z1 fz vz0 vz1
    go_wp2_with fail
    exact ⟨⟨i+1,by omega,rfl,HZ.o.1,HZ.o.2⟩,by simp [intOf];omega⟩
   ·have q2:((n.kind:Int)==2)=false:=by rw [Kaj];omega
    have q1:((n.kind:Int)==1)=false:=by rw [Kaj];omega
    have HV:=Kz (nodeV_w (in0:=in0) (in1:=in1) (V:=valsD in0 in1 (ms.map Prod.fst) i) hk.1)
    have HTS:=Kz (show ∀ a∈n.args,TnOk (valsD in0 in1 (ms.map Prod.fst) i a)∧(valsD in0 in1 (ms.map Prod.fst) i a).sh=(atD (ms.map Prod.fst) a).shape from fun a ha=>by
     have hai:=HLT.o a ha
     rw [valsD_stay i a hai]
     exact ⟨HVO.o a (by omega),HVS.o a (by omega)⟩)
    have HWORDS:=Kz (fun (AX:Option Addr) (nx cx:Nat) W (hx:nx=(n.args.map (valsD in0 in1 (ms.map Prod.fst) i)).length) (h:RdTN W W.heap.size AX (n.args.map (valsD in0 in1 (ms.map Prod.fst) i))) (hgW:ETyped W)=>words_any (n,⟨.slice X1 nl x1,.slice X2 al x2,.slice X3 el x3⟩) (n.args.map (valsD in0 in1 (ms.map Prod.fst) i)) AX nx cx W hx h hgW ⟨hk.1,hk.2.1⟩ HNO.o.k63 (by rw [Kak];exact hk.2.2.2.2.2.2.1) (fun t ht=>by
     obtain ⟨a,ha,rfl⟩:=List.mem_map.1 ht
     exact (HTS.o a ha).1) HNO.o.shape (by
     rw [List.map_map,show List.map (TN.sh ∘ valsD in0 in1 (ms.map Prod.fst) i) n.args=n.args.map fun a=>(atD (ms.map Prod.fst) a).shape from List.map_congr_left fun a ha=>(HTS.o a ha).2]
     exact hk.2.2.2.2.2.2.2))
    obtain ⟨WS,hWS⟩:=Ky (Zbc n.kind n.k (Zad n.shape).toNat (n.args.map (valsD in0 in1 (ms.map Prod.fst) i)))
    have HWS:=Kz hWS
    obtain ⟨args,hargs⟩:=Ky n.args
    have HAR:=Kz hargs
    obtain ⟨V,hVV⟩:=Ky (valsD in0 in1 (ms.map Prod.fst) i)
    have HVV:=Kz hVV
    have HNA:=Kz (show al=args.length from by rw [HAL.o,hargs])
    rw [←hVV] at HTS HVC
    rw [←hargs] at HRA HTS HLT
    clear hk hWS hargs hVV
    go_upto_region 18 with fail
    go_wp2_with fail
    clear a0 a1 a2 a3 a4 a5 a6 t0 t1 q1 q2
    go_loopw [14,64] (fun xv iv wt=>∃ (k:Nat) (A:Option Addr) (c:Nat),k≤al∧iv=.int .i64 k∧xv=.slice A k c∧OwnTn (vX vg) w9 wt w9.heap.size A k c ((args.take k).map V)∧Below w9.heap.size w9 wt) (fun _ iv _=>al-(intOf iv).toNat)
    case atStart=>exact ⟨0,none,0,by omega,rfl,rfl,OwnTn.nil _ _ _ _,Kai _ _⟩
    case round=>
    rename World=>wt
    obtain ⟨k,A,c,hk,rfl,rfl,hO,hB⟩:=hrel
    have HOT:=Kz hO
    have HBt:=Kz hB
    clear hO hB
    by_cases hlk:k<al
    ·have ht:args[k]?=some (args[k]'(by rw [←HNA.o];exact hlk)):=Kad _
     obtain ⟨a,haa⟩:=Ky (args[k]'(by rw [←HNA.o];exact hlk))
     rw [←haa] at ht
     obtain ⟨b,o,rfl,hbl,k0⟩:=(HRA.o wt (bnext HB9.o HBt.o)).at_ (show (args.map VNt)[k]?=some (VNt a) by rw [Kal,ht];rfl)
     have k0':wt.cell? ⟨b,o+k,none⟩=some (.int .i64 (a:Int)):=k0
     have hai:=HLT.o a (Kam ht)
     obtain ⟨T1,u1,T2,u2,g0,g1,gt⟩:=HVC.o a hai
     have bqt:=bnext HBQ9.o HBt.o
     have g0':=(bqt.cell (p:=⟨vg,a*2,none⟩) HVL.o).trans g0
     have g1':=(bqt.cell (p:=⟨vg,a*2+1,none⟩) HVL.o).trans g1
     have HTN:=Kz (gt.next HBQ9.o)
     have HAT2:=Kz ht
     have i2:(0:Int)≤(a:Int):=by omega
     have i3:(a:Int)<(L:Int):=by omega
     have i4:(0:Int)≤(k:Int):=by omega
     have i5:(k:Int)<(al:Int):=by omega
     obtain ⟨l1,hl1⟩:=Ky ((V a).sh.length)
     obtain ⟨l2,hl2⟩:=Ky ((V a).el.length)
     rw [←hl1] at g0' HTN
     rw [←hl2] at g1' HTN
     clear ht haa hbl k0 hai g0 g1 gt bqt hl1 hl2
     go_wp2_with (at_builtin;(refine appTn rfl (.tmp 68) (.tmp 73) rfl w9.heap.size A c k ((args.take k).map V) rfl (HOT.o.next ((Kai _ _).alloc (Kag _) _)) wt.heap.size rfl (.slice T1 l1 u1,.slice T2 l2 u2) (V a) (Kac wt _) HTN.o (by omega) (Kah HBt.o.size (alloc_below wt _).size) ?_);intro A8 c8 w10 o8 b8;have O8:=Kz o8;have B8:=Kz ((HBt.o.alloc HBt.o.size _).trans b8);clear o8 b8)
     exact ⟨⟨k+1,A8,c8,by omega,rfl,rfl,by rw [take_map_snoc HAT2.o];exact O8.o,B8.o⟩,by simp [intOf];omega⟩
    ·obtain rfl:al=k:=by omega
     have HF:=Kz (show (args.take al)=args from by rw [HNA.o];exact List.take_length)
     have HCALL:=Kz (show Calls Tryz.prog 80 #[ndA (n,(⟨.slice X1 nl x1,.slice X2 al x2,.slice X3 el x3⟩:NV)),.slice A al c] wt fun e w'=>∃ A n c,e=.returned (.slice A n c)∧n=WS.length∧Own w' wt.heap.size 39 A c (WS.map U)∧Below wt.heap.size wt w' from by
      rw [HWS.o]
      refine HWORDS.o A al c wt (by rw [Kak,←HAR.o];exact HNA.o) ?_ (HG3.o.next (bnext HB9.o HBt.o))
      rw [←HAR.o,←HVV.o]
      have h:=HOT.o.rdTN HBt.o (by
       intro t ht
       rw [HF.o] at ht
       obtain ⟨a,ha,rfl⟩:=List.mem_map.1 ht
       have h1:=(HTS.o a ha).1
       have h2:=sh_small h1.1
       have h3:=h1.2
       have h4:=elems_small (V a).sh
       omega)
      rw [HF.o] at h
      exact h)
     unfold ndA at HCALL
     dsimp only at HCALL
     have hNt:=(HBt.o.block nb (Kab.1 HN9.o).1).trans HN9.o
     have a':=fun k v hv=>cells_node (m:=(n,⟨.slice X1 nl x1,.slice X2 al x2,.slice X3 el x3⟩)) hNt k v hv
     have a0:wt.cell? ⟨nb,0,none⟩=some (.int .i64 n.kind):=a' 0 _ rfl
     have a1:wt.cell? ⟨nb,1,none⟩=some (.slice X1 nl x1):=a' 1 _ rfl
     have a2:wt.cell? ⟨nb,2,none⟩=some (.slice X2 al x2):=a' 2 _ rfl
     have a3:wt.cell? ⟨nb,3,none⟩=some (.int .i64 n.party):=a' 3 _ rfl
     have a4:wt.cell? ⟨nb,4,none⟩=some (.int .i64 n.input):=a' 4 _ rfl
     have a5:wt.cell? ⟨nb,5,none⟩=some (.int .i64 n.k):=a' 5 _ rfl
     have a6:wt.cell? ⟨nb,6,none⟩=some (.slice X3 el x3):=a' 6 _ rfl
     have HTt:=Kz ((HBt.o.block tb (Kab.1 HT9.o).1).trans HT9.o)
     have HTBt:=Kz (show tb<wt.heap.size from (Kab.1 HTt.o).1)
     clear a' hNt
     go_upto_region 27 with (go_at_call 80;refine HCALL.o.mono ?_;rintro e w11 ⟨A3,n3,c3,rfl,hn3,o3,b3⟩;have HB11:=Kz b3;have HO11:=Kz o3;have HN11:=Kz hn3;have ft:∀ k,w11.frozen? ⟨tb,k,none⟩=false:=(fun k=>by have h:=(b3.block tb HTBt.o).trans HTt.o;simp [World.frozen?,h]);have HT11:=Kz ((b3.block tb HTBt.o).trans HTt.o);have u1:=Kaa 1 HT11.o;clear b3 o3 hn3)
     clear a0 a1 a2 a3 a4 a5 a6 ft u1
     obtain ⟨wx,hwx⟩:=Ky (w11.setCell ⟨tb,1,none⟩ (.slice A3 n3 c3))
     rw [←hwx]
     have b11:=bnext HBQ9.o (bnext HBt.o HB11.o)
     have bx:Below wq.heap.size wq wx:=by rw [hwx];exact Zaf b11 HTL.o _
     have HBX:=Kz bx
     have HTX:=Kz (show wx.heap[tb]?=some (.cells #[.slice X1 nl x1,.slice A3 n3 c3] 43 (0,0)) from by have h9:=HT11.o;rw [hwx];simp [World.setCell,Array.getElem?_modify,h9])
     have HTV:=Kz (show TnV (vX vg) wx (.slice X1 nl x1) (.slice A3 n3 c3) (nodeV in0 in1 (valsD in0 in1 (ms.map Prod.fst) i) n) from by
      have hv:vg<wt.heap.size:=Kae HVL.o (bnext HBQ9.o HBt.o).size
      have ho:Own wx wt.heap.size 39 A3 c3 (WS.map U):=own_at HO11.o (fun g hg=>by rw [hwx];exact ZaS _ _ _ (by have:=(HO11.o.lt g hg).1;have:=HTBt.o;show g≠tb;omega))
      have hc:=own_capsN ho
      rw [Kak] at hc
      rw [HV.o,←HWS.o,HN11.o]
      refine ⟨HSV.o wx (bnext HBq.o bx) (by have:=bx.size;have:=HVL.o;omega),A3,c3,rfl,hc.1,hc.2,own_vX ho hv⟩)
     clear hwx b11 bx
     have z0:wx.cell? ⟨tb,0,none⟩=some (.slice X1 nl x1):=Kaa 0 HTX.o
     have z1:wx.cell? ⟨tb,1,none⟩=some (.slice A3 n3 c3):=Kaa 1 HTX.o
     have fz:=HFZ.o wx HBX.o
     obtain ⟨r0,r1,vz0,vz1⟩:=HVI.o wx HBX.o
     obtain ⟨wz,hwz⟩:=Ky ((wx.setCell ⟨vg,i*2,none⟩ (.slice X1 nl x1)).setCell ⟨vg,i*2+1,none⟩ (.slice A3 n3 c3))
     have HZ:=Kz (HVF.o wx wz (.slice X1 nl x1) (.slice A3 n3 c3) HBX.o HTV.o hwz)
     have HWZ:=Kz hwz
     clear hwz
     go_upto_region 28 with fail
     rw [←HWZ.o]
     clear z0 z1 fz vz0 vz1
     go_wp2_with fail
     exact ⟨⟨i+1,by omega,rfl,HZ.o.1,HZ.o.2⟩,by simp [intOf];omega⟩
  ·obtain rfl:L=i:=by omega
   obtain ⟨y0,y1,y2,y3,x0,x1⟩:=HGC.o wq HBq.o
   go_upto_region 30 with fail
   go_wp2_with fail
   clear y0 y1 y2 y3 x0 x1
   have hvl:=gv_lt HVr.o
   have HVL:=Kz hvl
   have HVC:=Kz (show ∀ a,a<L→∃ A c A' c',wq.cell? ⟨vg,a*2,none⟩=some (.slice A (valOf in0 in1 (ms.map Prod.fst) a).sh.length c)∧wq.cell? ⟨vg,a*2+1,none⟩=some (.slice A' (valOf in0 in1 (ms.map Prod.fst) a).el.length c')∧TnV (vX vg) wq (.slice A (valOf in0 in1 (ms.map Prod.fst) a).sh.length c) (.slice A' (valOf in0 in1 (ms.map Prod.fst) a).el.length c') (valOf in0 in1 (ms.map Prod.fst) a)∧TnOk (valOf in0 in1 (ms.map Prod.fst) a) from fun a ha=>by
    have h:=gv_val HVr.o ha
    rw [valsD_stay L a ha] at h
    obtain ⟨A,c,A',c',h1,h2,h3⟩:=h
    exact ⟨A,c,A',c',h1,h2,h3,HVO.o a (by rw [HLN.o];exact ha)⟩)
   obtain ⟨V,hVV⟩:=Ky (valOf in0 in1 (ms.map Prod.fst))
   have HVV:=Kz (show outD in0 in1 (ms.map Prod.fst) outs=outs.map V from by rw [hVV];rfl)
   rw [←hVV] at HVC
   clear hVV hvl
   go_loopw [17,100] (fun xv iv wt=>∃ (k:Nat) (A:Option Addr) (c:Nat),k≤on∧iv=.int .i64 k∧xv=.slice A k c∧OutT wt wq.heap.size A k c ((outs.take k).map V)∧Below wq.heap.size wq wt) (fun _ iv _=>on-(intOf iv).toNat)
   case atStart=>exact ⟨0,none,0,by omega,rfl,rfl,OutT.nil _ _,Kai _ _⟩
   case round=>
   rename World=>wt
   obtain ⟨k,A,c,hk,rfl,rfl,hO,hB⟩:=hrel
   have HOT:=Kz hO
   have HBt:=Kz hB
   clear hO hB
   by_cases hlk:k<on
   ·have ht:outs[k]?=some (outs[k]'(by rw [←HON.o];exact hlk)):=Kad _
    obtain ⟨a,haa⟩:=Ky (outs[k]'(by rw [←HON.o];exact hlk))
    rw [←haa] at ht
    obtain ⟨b,o,rfl,hbl,k0⟩:=(HRO.o wt (bnext HBq.o HBt.o)).at_ (show (outs.map VNt)[k]?=some (VNt a) by rw [Kal,ht];rfl)
    have k0':wt.cell? ⟨b,o+k,none⟩=some (.int .i64 (a:Int)):=k0
    have hai:a<L:=by rw [HL.o];exact HOU.o a (Kam ht)
    obtain ⟨T1,u1,T2,u2,g0,g1,gt,gok⟩:=HVC.o a hai
    have HTN:=Kz gt
    have HOK:=Kz gok
    have HAT2:=Kz ht
    obtain ⟨l1,hl1⟩:=Ky ((V a).sh.length)
    obtain ⟨l2,hl2⟩:=Ky ((V a).el.length)
    rw [←hl1] at g0 HTN
    rw [←hl2] at g1 HTN
    have HN1:=Kz hl1
    have HN2:=Kz hl2
    have HS:=Kz (show ∀ W,Below wq.heap.size wq W→W.cell? ⟨vg,a*2,none⟩=some (.slice T1 l1 u1)∧W.cell? ⟨vg,a*2+1,none⟩=some (.slice T2 l2 u2) from fun W hW=>⟨(hW.cell (p:=⟨vg,a*2,none⟩) HVL.o).trans g0,(hW.cell (p:=⟨vg,a*2+1,none⟩) HVL.o).trans g1⟩)
    have i2:(0:Int)≤(a:Int):=by omega
    have i3:(a:Int)<(L:Int):=by omega
    have i4:(0:Int)≤(k:Int):=by omega
    have i5:(k:Int)<(on:Int):=by omega
    have HC1:=Kz (show ∀ W,Below wq.heap.size wq W→Calls Tryz.prog 55 #[.slice T1 l1 u1] W (fun e w'=>∃ Aa ca,e=.returned (.slice Aa l1 ca)∧Own w' W.heap.size 3 Aa ca ((V a).sh.map VI)∧Below W.heap.size W w') from fun W hW=>by
     obtain ⟨_,c9,e9,_,_,h29,r9⟩:=HTN.o.1
     injection e9 with e9 _ _
     subst e9
     exact ZdH T1 l1 u1 (V a).sh W HN1.o (by have:=HN1.o;omega) ((r9.keep (KeepX.of hW)).rd))
    have HC2:=Kz (show ∀ W,Below wq.heap.size wq W→Calls Tryz.prog 56 #[.slice T2 l2 u2] W (fun e w'=>∃ Aa ca,e=.returned (.slice Aa l2 ca)∧Own w' W.heap.size 39 Aa ca ((V a).el.map U)∧Below W.heap.size W w') from fun W hW=>by
     obtain ⟨_,c9,e9,_,_,r9⟩:=HTN.o.2
     injection e9 with e9 _ _
     subst e9
     have hl:=ZaQ HOK.o
     exact Zh6 T2 l2 u2 (V a).el W HN2.o (by have:=HN2.o;omega) ((r9.keep (KeepX.of hW)).rd))
    have hsl:(V a).sh.length≤1000000:=by have:=sh_small gok.1;omega
    clear ht haa hbl k0 hai g0 g1 gt gok hl1 hl2
    go_upto_region 33 with fail
    refine wp_region_held_drew (S:=(fun w'=>w'.cell? ⟨vg,a*2,none⟩=some (.slice T1 l1 u1)∧w'.cell? ⟨vg,a*2+1,none⟩=some (.slice T2 l2 u2))) (by kernel_rfl) (HS.o _ HBt.o.drew) (fun hHeld => ?_)
    obtain ⟨wd,hwd⟩:=Ky wt.drew
    rw [←hwd] at hHeld ⊢
    have HBd:=Kz (show Below wq.heap.size wq wd from by rw [hwd];exact HBt.o.drew)
    have HOD:=Kz (show OutT wd wq.heap.size A k c ((outs.take k).map V) from by rw [hwd];exact HOT.o.next (Kai _ _).drew)
    clear hwd k0'
    refine tk 0 ?_
    simp only [tkS]
    refine tk 1 ?_
    simp only [tkS]
    refine tk 2 ?_
    simp only [tkS]
    refine tk 3 ?_
    simp only [tkS]
    refine tk 4 ?_
    simp only [tkS]
    refine tk 5 ?_
    simp only [tkS]
    refine tk 7 ?_
    simp only [tkS]
    refine tk 8 ?_
    simp only [tkS]
    refine tk 9 ?_
    simp only [tkS]
    refine tk 10 ?_
    simp only [tkS]
    refine tk 11 ?_
    simp only [tkS]
    refine Kr 6 fun K hK=>?_
    go_simp
    go_at_call 55
    refine (HC1.o wd HBd.o).mono ?_
    rintro e wa ⟨Aa,ca,rfl,oa,ba⟩
    have HBa:=Kz ba
    have HOa:=Kz oa
    clear oa ba
    refine hK.out _ _ (HS.o _ (bnext HBd.o HBa.o)) (fun hHeld => ?_)
    clear hK K
    try simp only [tkS]
    refine Kr 12 fun K hK=>?_
    go_simp
    go_at_call 56
    refine (HC2.o wa (bnext HBd.o HBa.o)).mono ?_
    rintro e wb ⟨Ab,cb,rfl,ob,bb⟩
    have HBb:=Kz bb
    have HOb:=Kz ob
    clear ob bb
    refine hK.out _ _ (HS.o _ (bnext (bnext HBd.o HBa.o) HBb.o)) (fun hHeld => ?_)
    clear hK K
    try simp only [tkS]
    refine tk 13 ?_
    simp only [tkS]
    refine Kr 14 fun K hK=>?_
    go_simp
    obtain ⟨wc,hwc⟩:=Ky (wb.alloc (.cells #[.slice Aa l1 ca,.slice Ab l2 cb] 43))
    rw [←hwc]
    have HBc:=Kz (show Below wq.heap.size wq wc from by rw [hwc];exact bnext (bnext (bnext HBd.o HBa.o) HBb.o) (alloc_below _ _))
    have HWC:=Kz hwc
    clear hwc
    refine hK.out _ _ (HS.o _ HBc.o) (fun hHeld => ?_)
    clear hK K
    try simp only [tkS]
    refine Kr 15 fun K hK=>?_
    refine Zf5 (.tmp 104) (.tmp 118) rfl wq.heap.size A c k ((outs.take k).map V) rfl wd wb HOD.o HBd.o.size (bnext HBa.o HBb.o) Aa Ab ca cb l1 l2 (V a) HN1.o HN2.o hsl (HOa.o.next HBb.o) (HOb.o.more HBa.o.size) (ZgY (fun g hg=>(HOa.o.lt g hg).2) (fun g hg=>(HOb.o.lt g hg).1)) HWC.o rfl (by omega) ?_
    intro A8 c8 w8 o8 g8 a8
    have O8:=Kz o8
    have B8:=Kz (Zal HBc.o g8 HBc.o.size (fun g hg=>(HOD.o.lt g hg).1))
    clear o8 g8 a8
    refine hK.out _ _ (HS.o _ B8.o) (fun hHeld => ?_)
    clear hK K
    try simp only [tkS]
    refine tk 16 ?_
    simp only [tkS]
    refine Kq ?_
    go_wp2_with fail
    exact ⟨⟨k+1,A8,c8,by omega,rfl,rfl,by rw [take_map_snoc HAT2.o];exact O8.o,B8.o⟩,by simp [intOf];omega⟩
   ·obtain rfl:on=k:=by omega
    have HF:=Kz (show outs.take on=outs from by rw [HON.o];exact List.take_length)
    go_wp2_with fail
    go_ret2
    refine ⟨bnext (bnext HB3.o HBq.o) HBt.o,A,c,wq.heap.size,rfl,Kah HB3.o.size HBq.o.size,?_⟩
    have h:=HOT.o
    rw [HF.o] at h
    rw [HVV.o]
    exact h
end Go.Proofs.YtghlnncfigkkaaaGreatDoor
