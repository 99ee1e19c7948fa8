/-
 Walks of the checker's tree: its closures, and slices.ContainsFunc over them.
-/
import Derived.Test.YtghlnncfigkkaaaGreatDoorQTree
import Derived.BigQuiet
import Derived.Deep.DeepCutAuto
import Derived.RegionTactic
set_option maxRecDepth 100000
set_option maxHeartbeats 4000000
open Go.Lib (hid)
namespace Go.Proofs.YtghlnncfigkkaaaGreatDoor
set_option linter.unusedVariables false
set_option linter.unusedSimpArgs false
open Go.RowKit
theorem Zil (i:Nat) (a:Int) (B:Nat) (w:World) (hc:w.cell? ⟨B,0,none⟩=some (.int .i64 i)):
  Calls Tryz.prog 148 #[.int .i64 a,.pointer (some ⟨B,0,none⟩)] w fun e w'=>e=.returned (.bool (!argOk i a))∧w=w':=by
 by_cases h1:a<0
 ·have q1:decide (a<0)=true:=by simp;omega
  have HR:=hid (show argOk i a=false from by unfold argOk;simp;omega)
  clear h1
  go_enter Tryz.func148,Tryz.ntmps148
  go_wp2
  go_ret
  exact ⟨by rw [HR.out];rfl,rfl⟩
 ·have q1:decide (a<0)=false:=by simp;omega
  by_cases h2:(i:Int)≤a
  ·have q2:decide ((i:Int)≤a)=true:=by simp;omega
   have HR:=hid (show argOk i a=false from by unfold argOk;simp;omega)
   clear h1 h2
   go_enter Tryz.func148,Tryz.ntmps148
   go_wp2
   go_ret
   exact ⟨by rw [HR.out];rfl,rfl⟩
  ·have q2:decide ((i:Int)≤a)=false:=by simp;omega
   have HR:=hid (show argOk i a=true from by unfold argOk;simp;omega)
   clear h1 h2
   go_enter Tryz.func148,Tryz.ntmps148
   go_wp2
   go_ret
   exact ⟨by rw [HR.out];rfl,rfl⟩
theorem Zkb (i:Nat) (B:Nat) (A:Option Addr) (n c:Nat) (l:List Int) (w:World) (hn:n=l.length) (hl:n≤9223372036854775807) (h:Rd w w.heap.size A (l.map VI)) (hc:w.cell? ⟨B,0,none⟩=some (.int .i64 i)):
  Calls Tryz.prog 118 #[.slice A n c,.func (.func 148) #[] #[.pointer (some ⟨B,0,none⟩)]] w fun e w'=>(∃ r:Int,e=.returned (.int .i64 r)∧decide ((0:Int)≤r) = !l.all (argOk i))∧w=w':=by
 have HN:=hid hn
 have H:=hid h
 have HC:=hid (fun a=>Zil i a B w hc)
 clear h hc hn
 go_enter Tryz.func118,Tryz.ntmps118
 go_wp2
 go_loop [5,8] (fun _ iv=>∃ k:Nat,k≤n∧iv=.int .i64 k∧l.all (argOk i)=(l.drop k).all (argOk i)) (fun _ iv=>n-(intOf iv).toNat)
 case atStart=>exact ⟨0,by omega,rfl,rfl⟩
 case round=>
  obtain ⟨k,hk,rfl,hr⟩:=hrel
  have HR:=hid hr
  clear hr
  by_cases hlt:k<n
  ·have ht:l[k]?=some (l[k]'(by rw [←HN.out];exact hlt)):=Kad _
   obtain ⟨d,hd⟩:∃ d,d=l[k]'(by rw [←HN.out];exact hlt):=⟨_,rfl⟩
   rw [←hd] at ht
   have ht2:(l.map VI)[k]?=some (VI d):=by rw [Kal,ht];rfl
   obtain ⟨b,o,rfl,hbl,c0⟩:=H.out.at_ ht2
   have c0':w.cell? ⟨b,o+k,none⟩=some (.int .i64 d):=c0
   have i0:(0:Int)≤(k:Int):=by omega
   have i1:(k:Int)<(n:Int):=by omega
   have hD:=hid (show (l.drop k).all (argOk i)=(argOk i d&&(l.drop (k+1)).all (argOk i)) from by
    obtain ⟨hi,he⟩:=Kaf.1 ht
    rw [List.drop_eq_getElem_cons hi,List.all_cons,he])
   clear ht ht2 hd c0
   cases ho:argOk i d with
   | false=>
    have HO:=hid ho
    have hcall:=HC.out d
    rw [ho] at hcall
    clear ho
    go_wp2_with (go_at_call 148;refine hcall.mono ?_;rintro e w' ⟨rfl,rfl⟩)
    go_ret
    exact ⟨⟨_,rfl,by rw [HR.out,hD.out,HO.out];simp⟩,rfl⟩
   | true=>
    have HO:=hid ho
    have hcall:=HC.out d
    rw [ho] at hcall
    clear ho
    go_wp2_with (go_at_call 148;refine hcall.mono ?_;rintro e w' ⟨rfl,rfl⟩)
    exact ⟨⟨k+1,by omega,rfl,(by rw [HR.out,hD.out,HO.out];rfl)⟩,by simp [intOf];omega⟩
  ·obtain rfl:n=k:=by omega
   have HE:=hid (show l.all (argOk i)=true from by rw [HR.out,HN.out,List.drop_length];rfl)
   go_wp2
   go_ret
   exact ⟨⟨-1,rfl,by rw [HE.out];rfl⟩,rfl⟩
theorem Zkc (i:Nat) (B:Nat) (A:Option Addr) (n c:Nat) (l:List Int) (w:World) (hn:n=l.length) (hl:n≤9223372036854775807) (h:Rd w w.heap.size A (l.map VI)) (hc:w.cell? ⟨B,0,none⟩=some (.int .i64 i)):
  Calls Tryz.prog 75 #[.slice A n c,.func (.func 148) #[] #[.pointer (some ⟨B,0,none⟩)]] w fun e w'=>e=.returned (.bool (!l.all (argOk i)))∧w=w':=by
 have HC:=hid (Zkb i B A n c l w hn hl h hc)
 clear h hc hn
 go_enter Tryz.func75,Tryz.ntmps75
 go_wp2_with (go_at_call 118;refine HC.out.mono ?_;rintro e w' ⟨⟨r,rfl,hr⟩,rfl⟩)
 go_ret
 exact ⟨rfl,rfl⟩
def Zim (x:SI) (A:Option Addr) (c:Nat):Array Value:=#[.int .i64 x.kind,.int .i64 x.party,.string x.name,.slice A x.shape.length c,.int .i64 x.expr,.int .i64 x.pos]
theorem Zin (x:SI) (A:Option Addr) (c:Nat) (B n ec:Nat) (EA:Option Addr) (w:World) (hB:B<w.heap.size) (hc:w.cell? ⟨B,1,none⟩=some (.slice EA n ec)):
  Calls Tryz.prog 150 #[.agg (Zim x A c),.pointer (some ⟨B,0,none⟩)] w fun e w'=>e=.returned (.bool (!smOk n x))∧Below w.heap.size w w':=by
 obtain ⟨xk,xp,xn,xs,xe,xq⟩:=x
 show Calls Tryz.prog 150 #[.agg #[.int .i64 xk,.int .i64 xp,.string xn,.slice A xs.length c,.int .i64 xe,.int .i64 xq],.pointer (some ⟨B,0,none⟩)] w _
 generalize xs.length=sl
 have hcA:∀ o:Obj,(w.alloc o).cell? ⟨B,1,none⟩=some (.slice EA n ec):=fun o=>(World.cell?_alloc_lt w o ⟨B,1,none⟩ hB).trans hc
 have hne:B≠w.heap.size:=by omega
 rcases (show xk=1∨xk=2∨xk=3∨(xk≠1∧xk≠2∧xk≠3) by omega) with rfl | rfl | rfl | ⟨k1,k2,k3⟩
 ·have HR:=hid (show smOk n ⟨1,xp,xn,xs,xe,xq⟩=true from by unfold smOk;simp)
  go_enter Tryz.func150,Tryz.ntmps150
  go_wp2
  go_ret
  exact ⟨by rw [HR.out];rfl,(Kai _ _).alloc (Kag _) _⟩
 ·by_cases h1:xe<0
  ·have q1:decide (xe<0)=true:=by simp;omega
   have HR:=hid (show smOk n ⟨2,xp,xn,xs,xe,xq⟩=false from by unfold smOk;simp <;> omega)
   go_enter Tryz.func150,Tryz.ntmps150
   go_wp2
   go_ret
   exact ⟨by rw [HR.out];rfl,(Kai _ _).alloc (Kag _) _⟩
  ·have q1:decide (xe<0)=false:=by simp;omega
   by_cases h2:(n:Int)≤xe
   ·have q2:decide ((n:Int)≤xe)=true:=by simp;omega
    have HR:=hid (show smOk n ⟨2,xp,xn,xs,xe,xq⟩=false from by unfold smOk;simp <;> omega)
    go_enter Tryz.func150,Tryz.ntmps150
    go_wp2
    go_ret
    exact ⟨by rw [HR.out];rfl,(Kai _ _).alloc (Kag _) _⟩
   ·have q2:decide ((n:Int)≤xe)=false:=by simp;omega
    have HR:=hid (show smOk n ⟨2,xp,xn,xs,xe,xq⟩=true from by unfold smOk;simp <;> omega)
    go_enter Tryz.func150,Tryz.ntmps150
    go_wp2
    go_ret
    exact ⟨by rw [HR.out];rfl,(Kai _ _).alloc (Kag _) _⟩
 ·have HR:=hid (show smOk n ⟨3,xp,xn,xs,xe,xq⟩=true from by unfold smOk;simp)
  go_enter Tryz.func150,Tryz.ntmps150
  go_wp2
  go_ret
  exact ⟨by rw [HR.out];rfl,(Kai _ _).alloc (Kag _) _⟩
 ·have q1:(xk==1)=false:=by rw [Kaj];exact k1
  have q2:(xk==2)=false:=by rw [Kaj];exact k2
  have q3:(xk==3)=false:=by rw [Kaj];exact k3
  have HR:=hid (show smOk n ⟨xk,xp,xn,xs,xe,xq⟩=false from by unfold smOk;simp only [q1,q2,q3];rfl)
  go_enter Tryz.func150,Tryz.ntmps150
  go_wp2
  go_ret
  exact ⟨by rw [HR.out];rfl,(Kai _ _).alloc (Kag _) _⟩
theorem Zkd (B n ec:Nat) (EA:Option Addr) (A:Option Addr) (m c:Nat) (l:List SI) (w:World) (hm:m=l.length) (hl:m≤9223372036854775807) (h:RdSI w w.heap.size A l) (hB:B<w.heap.size) (hc:w.cell? ⟨B,1,none⟩=some (.slice EA n ec)):
  Calls Tryz.prog 179 #[.slice A m c,.func (.func 150) #[] #[.pointer (some ⟨B,0,none⟩)]] w fun e w'=>(∃ r:Int,e=.returned (.int .i64 r)∧decide ((0:Int)≤r) = !l.all (smOk n))∧Below w.heap.size w w':=by
 have HN:=hid hm
 have H:=hid h
 have HC:=hid (fun x A' c' (W:World) (hb:Below w.heap.size w W)=>Zin x A' c' B n ec EA W (Kae hB hb.size) ((hb.cell (p:=⟨B,1,none⟩) hB).trans hc))
 clear h hc hm hB
 go_enter Tryz.func179,Tryz.ntmps179
 go_wp2
 go_loopw [5,8] (fun _ iv wr=>(∃ k:Nat,k≤m∧iv=.int .i64 k∧l.all (smOk n)=(l.drop k).all (smOk n))∧Below w.heap.size w wr) (fun _ iv _=>m-(intOf iv).toNat)
 case atStart=>exact ⟨⟨0,by omega,rfl,rfl⟩,Kai _ _⟩
 case round=>
  obtain ⟨⟨k,hk,rfl,hr⟩,hb⟩:=hrel
  have HR:=hid hr
  have HB:=hid hb
  clear hr
  by_cases hlt:k<m
  ·have ht:l[k]?=some (l[k]'(by rw [←HN.out];exact hlt)):=Kad _
   obtain ⟨d,hd⟩:∃ d,d=l[k]'(by rw [←HN.out];exact hlt):=⟨_,rfl⟩
   rw [←hd] at ht
   obtain ⟨b,o,rfl,hbl,c0,c1,c2,⟨A',c',c3,c3r,c3n,-⟩,c4,c5⟩:=(H.out.below hb).at_ ht
   have i0:(0:Int)≤(k:Int):=by omega
   have i1:(k:Int)<(m:Int):=by omega
   have hD:=hid (show (l.drop k).all (smOk n)=(smOk n d&&(l.drop (k+1)).all (smOk n)) from by
    obtain ⟨hi,he⟩:=Kaf.1 ht
    rw [List.drop_eq_getElem_cons hi,List.all_cons,he])
   have hcall:=HC.out d A' c' wr hb
   have hsz:=hb.size
   clear ht hd c3r c3n hb
   unfold Zim at hcall
   cases ho:smOk n d with
   | false=>
    have HO:=hid ho
    rw [ho] at hcall
    clear ho
    go_wp2_with (go_at_call 150;refine hcall.mono ?_;rintro e w' ⟨rfl,hb'⟩)
    go_ret
    exact ⟨⟨_,rfl,by rw [HR.out,hD.out,HO.out];simp⟩,bnext HB.out hb'⟩
   | true=>
    have HO:=hid ho
    rw [ho] at hcall
    clear ho
    go_wp2_with (go_at_call 150;refine hcall.mono ?_;rintro e w' ⟨rfl,hb'⟩)
    exact ⟨⟨⟨k+1,by omega,rfl,(by rw [HR.out,hD.out,HO.out];rfl)⟩,bnext HB.out hb'⟩,by simp [intOf];omega⟩
  ·obtain rfl:m=k:=by omega
   have HE:=hid (show l.all (smOk n)=true from by rw [HR.out,HN.out,List.drop_length];rfl)
   go_wp2
   go_ret
   exact ⟨⟨-1,rfl,by rw [HE.out];rfl⟩,HB.out⟩
theorem Zke (B n ec:Nat) (EA:Option Addr) (A:Option Addr) (m c:Nat) (l:List SI) (w:World) (hm:m=l.length) (hl:m≤9223372036854775807) (h:RdSI w w.heap.size A l) (hB:B<w.heap.size) (hc:w.cell? ⟨B,1,none⟩=some (.slice EA n ec)):
  Calls Tryz.prog 149 #[.slice A m c,.func (.func 150) #[] #[.pointer (some ⟨B,0,none⟩)]] w fun e w'=>e=.returned (.bool (!l.all (smOk n)))∧Below w.heap.size w w':=by
 have HC:=hid (Zkd B n ec EA A m c l w hm hl h hB hc)
 clear h hc hm hB
 go_enter Tryz.func149,Tryz.ntmps149
 go_wp2_with (go_at_call 179;refine HC.out.mono ?_;rintro e w' ⟨⟨r,rfl,hr⟩,hb⟩)
 go_ret
 exact ⟨rfl,hb⟩
theorem Zen {es:List EI} {i:Nat} {e:EI} (h:es[i]?=some e):exsOk i (es.drop i)=(exOk i e&&exsOk (i+1) (es.drop (i+1))):=by
 obtain ⟨hi,he⟩:=Kaf.1 h
 rw [List.drop_eq_getElem_cons hi,he]
 rfl
theorem Zav {P:Program} {f:FuncId} {args:Array Value} {w:World} {v:Value} (h:Calls P f args w fun e w'=>e=.returned v∧w=w'):Calls P f args w fun e w'=>e=.returned v∧w'=w:=
 h.mono fun _ _ ⟨he,hw⟩=>⟨he,hw.symm⟩
theorem Zkf (SA EA:Option Addr) (ns ne sc ec:Nat) (ss:List SI) (es:List EI) (w:World) (hns:ns=ss.length) (hne:ne=es.length)
  (hl:ns≤9223372036854775807∧ne≤9223372036854775807) (h1:RdSI w w.heap.size SA ss) (h3:RdEI w w.heap.size EA es):
  Calls Tryz.prog 93 #[.agg #[.slice SA ns sc,.slice EA ne ec]] w fun e w'=>e=.returned (.bool (treeP ss es))∧Below w.heap.size w w':=by
 obtain ⟨w2,hw2⟩:∃ w2,w2=w.alloc (.cells #[.slice SA ns sc,.slice EA ne ec] 26):=⟨_,rfl⟩
 have hb2:Below w.heap.size w w2:=by rw [hw2];exact (Kai _ _).alloc (Kag _) _
 have hA:w2.heap[w.heap.size]?=some (.cells #[.slice SA ns sc,.slice EA ne ec] 26 (0,0)):=by
  rw [hw2]
  exact Kac w _
 have HW2:=hid hw2
 have HB2:=hid hb2
 have HA:=hid (fun W (hW:Below w2.heap.size w2 W)=>(hW.block _ (Kab.1 hA).1).trans hA)
 have H1:=hid (h1.next hb2)
 have H3:=hid (h3.next hb2)
 have HNS:=hid hns
 have HNE:=hid hne
 obtain ⟨hl1,hl2⟩:=hl
 have z0:=Kaa _ _ 0 _ _ _ hA
 have z1:=Kaa _ _ 1 _ _ _ hA
 clear hw2 hb2 hA h1 h3 hns hne
 go_enter Tryz.func93,Tryz.ntmps93
 go_wp2
 rw [←HW2.out]
 go_wp2
 clear z0 z1
 go_loopw [8] (fun iv wr=>(∃ i:Nat,i≤ne∧iv=.int .i64 i∧exsOk 0 es=exsOk i (es.drop i))∧Below w2.heap.size w2 wr) (fun iv _=>ne-(intOf iv).toNat)
 case atStart=>exact ⟨⟨0,by omega,rfl,rfl⟩,Kai _ _⟩
 case round=>
  obtain ⟨⟨i,hi,rfl,hr⟩,hb⟩:=hrel
  have HR:=hid hr
  have HB:=hid hb
  have hA:=HA.out _ hb
  have z0:=Kaa _ _ 0 _ _ _ hA
  have z1:=Kaa _ _ 1 _ _ _ hA
  clear hr
  by_cases hlt:i<ne
  ·have ht:es[i]?=some (es[i]'(by rw [←HNE.out];exact hlt)):=Kad _
   obtain ⟨d,hd⟩:∃ d,d=es[i]'(by rw [←HNE.out];exact hlt):=⟨_,rfl⟩
   rw [←hd] at ht
   have hD:=hid (Zen ht)
   obtain ⟨b,o,rfl,hbl,c0,c1,c2,⟨A',c',c3,c3r,c3n,-⟩,c4⟩:=(H3.out.next hb).at_ ht
   have i0:(0:Int)≤(i:Int):=by omega
   have i1:(i:Int)<(ne:Int):=by omega
   have HCR:=hid c3r
   clear ht hd c3r hb hA
   go_wp2_with fail
   obtain ⟨w4,hw4⟩:∃ w4,w4=(wr.alloc (.cells #[.int .i64 (i:Int)] 3)).alloc (.cells #[.int .i64 d.kind,.string d.name,.int .u64 (d.num:Int),.slice A' d.args.length c',.int .i64 d.pos] 90):=⟨_,rfl⟩
   rw [←hw4]
   have b4:Below wr.heap.size wr w4:=by rw [hw4];exact ((Kai _ _).alloc (Kag _) _).alloc (by simp) _
   have k0:w4.cell? ⟨wr.heap.size,0,none⟩=some (.int .i64 (i:Int)):=by
    rw [hw4,World.cell?_alloc_lt _ _ _ (by simp)]
    exact Kaa _ _ 0 _ _ _ (Kac wr _)
   have hE:w4.heap[wr.heap.size+1]?=some (.cells #[.int .i64 d.kind,.string d.name,.int .u64 (d.num:Int),.slice A' d.args.length c',.int .i64 d.pos] 90 (0,0)):=by
    rw [hw4]
    have:=Kac (wr.alloc (.cells #[.int .i64 (i:Int)] 3)) (.cells #[.int .i64 d.kind,.string d.name,.int .u64 (d.num:Int),.slice A' d.args.length c',.int .i64 d.pos] 90)
    rwa [World.size_alloc] at this
   have e0:=Kaa _ _ 0 _ _ _ hE
   have e3:=Kaa _ _ 3 _ _ _ hE
   have HB4:=hid (bnext HB.out b4)
   have HM:=hid (fun W=>Zkn d.kind W)
   have HK:=hid (fun q=>Zkc i wr.heap.size A' d.args.length c' d.args (w4.drewN q) rfl c3n ((HCR.out.next b4).drewN q) k0)
   obtain ⟨dk,dn,du,da,dp⟩:=d
   dsimp only at *
   obtain ⟨al,hal⟩:∃ al,al=da.length:=⟨_,rfl⟩
   rw [←hal] at e3 c3n HK ⊢
   have HAL:=hid hal
   clear hw4 b4 k0 hE c0 c1 c2 c3 c4 z0 z1 hbl hal
   obtain ⟨mp,hmp⟩:∃ mp,mp=madeP dk:=⟨_,rfl⟩
   rw [←hmp] at HM
   have HMP:=hid hmp
   clear hmp
   by_cases hq:mp=(al:Int)
   ·have q1:(mp==(al:Int))=true:=by rw [beq_iff_eq];exact hq
    have q2:(mp != (al:Int))=false:=by unfold bne;rw [q1];rfl
    cases ha:da.all (argOk i) with
    | true=>
     rw [ha] at HK
     have HX:=hid (show exsOk 0 es=exsOk (i+1) (es.drop (i+1)) from by
      rw [HR.out,hD.out]
      unfold exOk
      rw [show ((madeP dk==((da.length:Nat):Int)):Bool)=true from by rw [←HMP.out,←HAL.out];exact q1,ha]
      rfl)
     clear ha hq
     go_quiet (first
      | (go_at_call 147;exact Calls.quiet_of_same (Zav (HM.out _)))
      | (go_at_call 75;exact Calls.quiet_of_same (Zav (HK.out _))))
     go_wp2
     exact ⟨⟨⟨i+1,by omega,rfl,HX.out⟩,Zaa HB4.out _⟩,by simp [intOf];omega⟩
    | false=>
     rw [ha] at HK
     have HX:=hid (show treeP ss es=false from by
      unfold treeP
      rw [HR.out,hD.out]
      unfold exOk
      rw [ha]
      simp)
     clear ha hq
     go_quiet (first
      | (go_at_call 147;exact Calls.quiet_of_same (Zav (HM.out _)))
      | (go_at_call 75;exact Calls.quiet_of_same (Zav (HK.out _))))
     go_wp2
     go_ret
     exact ⟨by rw [HX.out];rfl,HB2.out.trans (Zaa (HB4.out.mono HB2.out.size) _)⟩
   ·have q1:(mp==(al:Int))=false:=by rw [Kaj];exact hq
    have q2:(mp != (al:Int))=true:=by unfold bne;rw [q1];rfl
    have HX:=hid (show treeP ss es=false from by
     unfold treeP
     rw [HR.out,hD.out]
     unfold exOk
     rw [show ((madeP dk==((da.length:Nat):Int)):Bool)=false from by rw [←HMP.out,←HAL.out];exact q1]
     simp)
    clear hq
    go_quiet (first
     | (go_at_call 147;exact Calls.quiet_of_same (Zav (HM.out _)))
     | fail)
    go_wp2
    go_ret
    exact ⟨by rw [HX.out];rfl,HB2.out.trans (Zaa (HB4.out.mono HB2.out.size) _)⟩
  ·obtain rfl:ne=i:=by omega
   have HX:=hid (show treeP ss es=ss.all (smOk ne) from by
    unfold treeP
    rw [HR.out,HNE.out,List.drop_length]
    rfl)
   have HK:=hid (Zke w.heap.size ne ec EA SA ns sc ss wr HNS.out hl1 (H1.out.next hb) (by have:=(Kab.1 hA).1;omega) z1)
   clear hb hA
   go_wp2_with (go_at_call 149;refine HK.out.mono ?_;rintro e w' ⟨rfl,hb'⟩)
   go_ret
   exact ⟨by rw [HX.out];simp,HB2.out.trans ((bnext HB.out hb').mono HB2.out.size)⟩
end Go.Proofs.YtghlnncfigkkaaaGreatDoor
