/-
  The reference's within. Walks of the reference's Shape. The reference's find and expr. The reference's state in memory; a name is appended. The reference's Tree, walked. Walk of the reference's Check.
-/
import Derived.Test.YtghlnncfigkkaaaGreatDoorQChkD
import Derived.Test.YtghlnncfigkkaaaGreatDoorQChkF
import Derived.Test.YtghlnncfigkkaaaGreatDoorQChkP
import Derived.Test.YtghlnncfigkkaaaGreatDoorQChkY
import Derived.Test.YtghlnncfigkkaaaGreatDoorQChkA
import Derived.Test.YtghlnncfigkkaaaGreatDoorQChkV
import Derived.Test.YtghlnncfigkkaaaGreatDoorQAppN
import Derived.BigQuiet
import Derived.Deep.RegionWith
import Derived.Deep.RegionHeld3
set_option maxRecDepth 100000
set_option maxHeartbeats 8000000
open Go.Lib (hid)
namespace Go.Proofs.YtghlnncfigkkaaaGreatDoor
set_option linter.unusedVariables false
set_option linter.unusedSimpArgs false
open Go.RowKit
theorem Zit:(Tryz.prog.info? 4).map (fun i=>(i.zero,i.size,i.bytes))=some (some (.bool false),1,1):=by kernel_rfl
theorem Zer (n:Nat) (hn:n≤1099511627776) (w:World) (e:Int) (he:e=n):
  (Instr.makeSlice 73 (.int .i64 e) (.int .i64 e)).run Tryz.prog w=.ok (.slice (some ⟨w.heap.size,0,none⟩) n n) (w.alloc (.cells ((List.range n).map fun _=>Value.bool false).toArray 4)):=by
 obtain ⟨i0,hi0,hz0,hz1,hz2⟩:=info_parts Zit
 have hr:=run_make (P := Tryz.prog) w 73 4 i0 (.bool false) Tryz.underlying73 hi0 hz0 .i64 .i64 e e (by omega) (by omega) (by rw [hz2];omega) (by omega)
 rw [hr,he,hz1]
 have:(madeCells (Value.bool false).cells ((n:Int).toNat*1))=((List.range n).map fun _=>Value.bool false).toArray:=by
  apply Array.ext'
  rw [show (Value.bool false).cells=#[Value.bool false] from rfl,toList_madeCells_one]
  simp
  symm
  rw [List.eq_replicate_iff]
  simp
 rw [this]
 rfl
theorem Zh0 (SA EA:Option Addr) (ns sc ne ec:Nat) (es:List EI) (root:Nat) (w:World) (hne:ne=es.length) (hr:root<ne) (hn:ne≤100000) (hRd:RdEI w w.heap.size EA es) (hok:exsOk 0 es=true):
  Calls Tryz.prog 103 #[.agg #[.slice SA ns sc,.slice EA ne ec],.int .i64 root] w fun e w'=>e=.returned (.slice (some ⟨w.heap.size+1,0,none⟩) ne ne)∧MkB w' 4 (w.heap.size+1) ne (fun i=>.bool (Zac es root i))∧Below w.heap.size w w':=by
 obtain ⟨w2,hw2⟩:∃ w2,w2=w.alloc (.cells #[.slice SA ns sc,.slice EA ne ec] 26):=⟨_,rfl⟩
 have hb2:Below w.heap.size w w2:=by rw [hw2];exact (Below.refl _ _).alloc (Nat.le_refl _) _
 have hA:w2.heap[w.heap.size]?=some (.cells #[.slice SA ns sc,.slice EA ne ec] 26 (0,0)):=by rw [hw2];exact heap_alloc_new w _
 have hsz:w2.heap.size=w.heap.size+1:=by rw [hw2];simp
 have HSZ:=hid hsz
 have HW2:=hid hw2
 have HB2:=hid hb2
 have HC:=hid (fun W (hW:Below w2.heap.size w2 W)=>cell_of_row _ _ 1 _ _ _ ((hW.block _ (Array.getElem?_eq_some_iff.1 hA).1).trans hA))
 have HNE:=hid hne
 have HRD:=hid (hRd.next hb2)
 have HOK:=hid hok
 obtain ⟨W0,hW0⟩:∃ W0,W0=w2.alloc (.cells ((List.range ne).map fun _=>Value.bool false).toArray 4):=⟨_,rfl⟩
 have hm0:MkB W0 4 (w.heap.size+1) ne (fun _=>.bool false):=by rw [hW0,←hsz];exact heap_alloc_new w2 _
 have hb0:Below w2.heap.size w2 W0:=by rw [hW0];exact (Below.refl _ _).alloc (Nat.le_refl _) _
 have HM0:=hid hm0
 have HB0:=hid hb0
 have fr0:W0.frozen? ⟨w.heap.size+1,root,none⟩=false:=hm0.free root
 have hi0:(0:Int)≤(root:Int):=by omega
 have hi1:(root:Int)<(ne:Int):=by omega
 have cw0:=hm0.cell (i:=root) (by omega)
 have hmk:(Instr.makeSlice 73 (.int .i64 (ne:Int)) (.int .i64 (ne:Int))).run Tryz.prog (w.alloc (.cells #[.slice SA ns sc,.slice EA ne ec] 26))=.ok (.slice (some ⟨w.heap.size+1,0,none⟩) ne ne) W0:=by
  rw [hW0,←hw2,←hsz];exact Zer ne (by omega) w2 (ne:Int) rfl
 have z1:=HC.out _ (Below.refl _ _)
 clear hW0 hm0 hb0 hne hRd hok hw2 hb2 hA hsz
 go_enter Tryz.func103,Tryz.ntmps103
 go_wp2
 have HM1:=hid (HM0.out.set (i:=root) hr (.bool true) (fun a=>.bool (a==root)) (fun a=>by
  by_cases h:a=root
  ·subst h;simp
  ·simp [h]))
 have HB1:=hid (Zaf (k:=root) HB0.out (Nat.le_of_eq HSZ.out) (.bool true))
 clear fr0 cw0 hmk HM0 HB0 hi0 hi1 z1
 go_loopw [6] (fun iv wr=>(∃ (j:Nat) (m:Nat→Bool),j≤root+1∧iv=.int .i64 ((j:Int)-1)∧Zac es root=markP es root j m∧MkB wr 4 (w.heap.size+1) ne (fun a=>.bool (m a)))∧Below w2.heap.size w2 wr) (fun iv _=>(intOf iv+1).toNat)
 case atStart=>exact ⟨⟨root+1,fun a=>a==root,Nat.le_refl _,(by rw [show ((root+1:Nat):Int)-1=(root:Int) by omega]),rfl,HM1.out⟩,HB1.out⟩
 case round=>
  clear HM1 HB1
  obtain ⟨⟨j,m,hj,rfl,hwm,hM⟩,hb⟩:=hrel
  have HW:=hid hwm
  have HM:=hid hM
  have HB:=hid hb
  clear hwm hM hb
  match j,hj,HW with
  | 0,hj,HW=>
   rw [show (((0:Nat):Int)-1) = -1 by omega]
   go_wp2
   go_ret
   refine ⟨rfl,?_,HB2.out.trans (HB.out.mono HB2.out.size)⟩
   rw [HW.out]
   exact HM.out
  | i+1,hj,HW=>
   rw [show (((i+1:Nat):Int)-1)=(i:Int) by omega]
   have ht:es[i]?=some (es[i]'(by rw [←HNE.out];omega)):=List.getElem?_eq_getElem _
   obtain ⟨d,hd⟩:∃ d,d=es[i]'(by rw [←HNE.out];omega):=⟨_,rfl⟩
   rw [←hd] at ht
   have HT:=hid ht
   obtain ⟨dk,dn,du,da,dp⟩:=d
   obtain ⟨al,hal⟩:∃ al,al=da.length:=⟨_,rfl⟩
   have HAL:=hid hal
   have hsm:=hid (fun (k:Nat) (x:Int) (hx:da[k]?=some x)=>Zc0 HOK.out HT.out hx)
   have i0:(0:Int)≤(i:Int):=by omega
   have i1:(i:Int)<(ne:Int):=by omega
   clear ht hd hal
   go_wp2
   go_loopw [7] (fun kv wr=>(∃ k:Nat,k≤al∧kv=.int .i64 k∧MkB wr 4 (w.heap.size+1) ne (fun a=>.bool (mrkK m i da k a)))∧Below w2.heap.size w2 wr) (fun kv _=>al-(intOf kv).toNat)
   case atStart=>exact ⟨⟨0,by omega,rfl,by rw [ZcF];exact HM.out⟩,HB.out⟩
   case round=>
    clear HM HB
    obtain ⟨⟨k,hk,rfl,hM⟩,hb⟩:=hrel
    have HM:=hid hM
    have HB:=hid hb
    have cc:=HC.out _ hb
    clear hM hb
    have ci:=HM.out.cell (i:=i) (by omega)
    rw [ZcG (fun j d hd=>(hsm.out j d hd).2)] at ci
    obtain ⟨b,o,rfl,hbl,c0,c1,c2,⟨A',c',c3,c3r,c3n,-⟩,c4⟩:=(HRD.out.below HB.out).at_ HT.out
    dsimp only at c3 c3r c3n
    rw [←HAL.out] at c3 c3n
    cases hmi:m i with
    | false=>
     rw [hmi] at ci
     have HX:=hid (show Zac es root=markP es root i (mrkK m i da k) from by
      rw [HW.out,Zbv HT.out]
      congr 1
      funext a
      unfold mrkK
      rw [hmi]
      simp)
     clear hk hmi c0 c1 c2 c4 c3r
     go_wp2
     exact ⟨⟨⟨i,_,by omega,rfl,HX.out,HM.out⟩,HB.out⟩,by simp [intOf]⟩
    | true=>
     rw [hmi] at ci
     have HMI:=hid hmi
     by_cases hlk:k<al
     ·have ht:da[k]?=some (da[k]'(by rw [←HAL.out];exact hlk)):=List.getElem?_eq_getElem _
      obtain ⟨x,hx⟩:∃ d,d=da[k]'(by rw [←HAL.out];exact hlk):=⟨_,rfl⟩
      rw [←hx] at ht
      obtain ⟨x0,x1⟩:=hsm.out k x ht
      obtain ⟨a,rfl⟩:∃ a:Nat,x=(a:Int):=⟨x.toNat,by omega⟩
      have ha:a<i:=by omega
      obtain ⟨b2,o2,rfl,hbl2,d0⟩:=c3r.at_ (show (da.map VI)[k]?=some (VI (a:Int)) by rw [List.getElem?_map,ht];rfl)
      unfold VI at d0
      have k0:(0:Int)≤(k:Int):=by omega
      have k1:(k:Int)<(al:Int):=by omega
      have k2:decide ((k:Int)<(al:Int))=true:=by simp;omega
      have a0:(0:Int)≤(a:Int):=by omega
      have a1:(a:Int)<(ne:Int):=by omega
      have ca:=HM.out.cell (i:=a) (by omega)
      have fa:=HM.out.free a
      have HST:=hid (HM.out.set (i:=a) (by omega) (.bool true) (fun y=>.bool (mrkK m i da (k+1) y)) (fun y=>by
       rw [ZcH m i da ht y,HMI.out]
       split
       ·simp
       ·rfl))
      have HBT:=hid (Zaf (k:=a) HB.out (Nat.le_of_eq HSZ.out) (.bool true))
      clear ht hx hbl2 x0 x1 hmi c0 c1 c2 c4
      go_wp2
      exact ⟨⟨⟨k+1,by omega,rfl,HST.out⟩,HBT.out⟩,by simp [intOf];omega⟩
     ·obtain rfl:al=k:=by omega
      have k2:decide ((al:Int)<(al:Int))=false:=by simp
      have HX:=hid (show Zac es root=markP es root i (mrkK m i da al) from by rw [HW.out,Zbv HT.out,HAL.out])
      clear hk hlk hmi c0 c1 c2 c4 c3r
      go_wp2
      exact ⟨⟨⟨i,_,by omega,rfl,HX.out,HM.out⟩,HB.out⟩,by simp [intOf]⟩
theorem Zbj {w:World} {ops:Array Oper} {o:Oper} {a:Act} {K:Act→World→Prop} {Q:Exit→Act→World→Prop} {E:Prop} (hgd:o.guard=none) (s x:Operand)
  (ho:o.op=.call { callee:=.builtin .append,args:=#[s,x],argTypes:=#[41,41] }) (base:Nat)
  (A:Option Addr) (cap:Nat) (xs:List Int) (n:Nat) (hn:xs.length=n) (hs:a.eval s=.slice A n cap) (hown:Own w base 3 A cap (xs.map VI))
  (A2:Option Addr) (m c B:Nat) (news:List Int) (hm:news.length=m) (hx:a.eval x=.slice A2 m c) (hr:Rd w B A2 (news.map VI)) (hnil:A2=none→m=0)
  (hbytes:n+m≤26388279066624) (hbase:base≤w.heap.size)
  (h:∀ A' cap' w',Own w' base 3 A' cap' ((xs++news).map VI)→Below base w w'→K (a.put o.dst (.slice A' (n+m) cap')) w'):
  if Region.wanted o (yielded ops a.tmps)=true then Oper.wp Tryz.prog o a w K Q else E:=by
 obtain ⟨i0,hi0,hz0,hz1,hz2⟩:=info_parts ZcB
 refine ZeG hgd s x 41 ho base 3 i0 _ 8 Tryz.underlying41 hi0 hz0 hz1 hz2 rfl A cap (xs.map VI) n (by rw [List.length_map];exact hn) hs hown A2 m c B (news.map VI) (by rw [List.length_map];exact hm) hx hr hnil (Zfs _) (by simp only [maxLen];omega) (by omega) hbase ?_
 intro A' cap' w' h1 h2 h3
 rw [←List.map_append] at h1
 exact h A' cap' w' h1 (Zal (Below.refl _ _) h2 hbase (fun k hk=>(hown.lt k hk).1))
theorem Zkp (X:Nat→Prop) (nm:ByteArray) (num:Nat) (av:Value) (pos:Int) (XA:Option Addr) (xc:Nat) (w:World) (hX:∀ k,X k→k<w.heap.size) (hL:ShL X w XA ([]:List (List Int))):
  Calls Tryz.prog 105 #[.agg #[.int .i64 1,.string nm,.int .u64 (num:Int),av,.int .i64 pos],.slice XA 0 xc] w fun e w'=>∃ v,e=.returned (.tuple #[v,.bool (Zab 1 num []).2])∧ShV X w' v (Zab 1 num []).1∧Below w.heap.size w w':=by
 obtain ⟨w2,hw2⟩:∃ w2,w2=w.alloc (.cells #[.int .i64 1,.string nm,.int .u64 (num:Int),av,.int .i64 pos] 90):=⟨_,rfl⟩
 have hb2:Below w.heap.size w w2:=by rw [hw2];exact (Below.refl _ _).alloc (Nat.le_refl _) _
 have hE:w2.heap[w.heap.size]?=some (.cells #[.int .i64 1,.string nm,.int .u64 (num:Int),av,.int .i64 pos] 90 (0,0)):=by rw [hw2];exact heap_alloc_new w _
 have HW2:=hid hw2
 have HB2:=hid hb2
 have HXX:=hid (fun k hk=>Nat.lt_of_lt_of_le (hX k hk) hb2.size)
 have e0:=cell_of_row _ _ 0 _ _ _ hE
 have e2:=cell_of_row _ _ 2 _ _ _ hE
 clear hL hX
 have HQ:=hid (show Zab 1 num []=([],true) from rfl)
 clear hw2 hb2 hE
 go_enter Tryz.func105,Tryz.ntmps105
 go_wp2_with fail
 rw [←HW2.out]
 go_wp2
 go_ret2
 exact ⟨_,by rw [HQ.out];rfl,by rw [HQ.out];exact ShV.nil _ _,HB2.out⟩
theorem Ziu (X:Nat→Prop) (nm:ByteArray) (num:Nat) (av:Value) (pos:Int) (x0:List Int) (XA:Option Addr) (xc:Nat) (w:World) (hX:∀ k,X k→k<w.heap.size) (hL:ShL X w XA [x0]):
  Calls Tryz.prog 105 #[.agg #[.int .i64 11,.string nm,.int .u64 (num:Int),av,.int .i64 pos],.slice XA 1 xc] w fun e w'=>∃ v,e=.returned (.tuple #[v,.bool (Zab 11 num [x0]).2])∧ShV X w' v (Zab 11 num [x0]).1∧Below w.heap.size w w':=by
 obtain ⟨w2,hw2⟩:∃ w2,w2=w.alloc (.cells #[.int .i64 11,.string nm,.int .u64 (num:Int),av,.int .i64 pos] 90):=⟨_,rfl⟩
 have hb2:Below w.heap.size w w2:=by rw [hw2];exact (Below.refl _ _).alloc (Nat.le_refl _) _
 have hE:w2.heap[w.heap.size]?=some (.cells #[.int .i64 11,.string nm,.int .u64 (num:Int),av,.int .i64 pos] 90 (0,0)):=by rw [hw2];exact heap_alloc_new w _
 have HW2:=hid hw2
 have HB2:=hid hb2
 have HXX:=hid (fun k hk=>Nat.lt_of_lt_of_le (hX k hk) hb2.size)
 have e0:=cell_of_row _ _ 0 _ _ _ hE
 have e2:=cell_of_row _ _ 2 _ _ _ hE
 obtain ⟨b,o,rfl,hb,hc⟩:=(hL.keep hb2).cells (by simp)
 obtain ⟨v0,c0,s0⟩:=hc 0 x0 rfl
 have HS0:=hid s0
 obtain ⟨A0,k0,rfl,p0,pp0,l0,r0⟩:=s0
 have c0:w2.cell? ⟨b,o,none⟩=_:=c0
 obtain ⟨n0,hn0⟩:∃ n,n=x0.length:=⟨_,rfl⟩
 have HR0:=hid r0.rd
 rw [←hn0] at c0 p0 l0 HS0
 have HN0:=hid hn0
 have cu0:=c0
 rw [hw2] at cu0
 have HC:=hid hc
 clear hc hL hX r0
 have HQ:=hid (show Zab 11 num [x0]=([],true) from rfl)
 clear hw2 hb2 hE hn0
 go_enter Tryz.func105,Tryz.ntmps105
 go_wp2_with fail
 rw [←HW2.out]
 go_wp2
 go_ret2
 exact ⟨_,by rw [HQ.out];rfl,by rw [HQ.out];exact ShV.nil _ _,HB2.out⟩
theorem Zkq (X:Nat→Prop) (nm:ByteArray) (num:Nat) (av:Value) (pos:Int) (x0:List Int) (XA:Option Addr) (xc:Nat) (w:World) (hX:∀ k,X k→k<w.heap.size) (hL:ShL X w XA [x0]):
  Calls Tryz.prog 105 #[.agg #[.int .i64 3,.string nm,.int .u64 (num:Int),av,.int .i64 pos],.slice XA 1 xc] w fun e w'=>∃ v,e=.returned (.tuple #[v,.bool (Zab 3 num [x0]).2])∧ShV X w' v (Zab 3 num [x0]).1∧Below w.heap.size w w':=by
 obtain ⟨w2,hw2⟩:∃ w2,w2=w.alloc (.cells #[.int .i64 3,.string nm,.int .u64 (num:Int),av,.int .i64 pos] 90):=⟨_,rfl⟩
 have hb2:Below w.heap.size w w2:=by rw [hw2];exact (Below.refl _ _).alloc (Nat.le_refl _) _
 have hE:w2.heap[w.heap.size]?=some (.cells #[.int .i64 3,.string nm,.int .u64 (num:Int),av,.int .i64 pos] 90 (0,0)):=by rw [hw2];exact heap_alloc_new w _
 have HW2:=hid hw2
 have HB2:=hid hb2
 have HXX:=hid (fun k hk=>Nat.lt_of_lt_of_le (hX k hk) hb2.size)
 have e0:=cell_of_row _ _ 0 _ _ _ hE
 have e2:=cell_of_row _ _ 2 _ _ _ hE
 obtain ⟨b,o,rfl,hb,hc⟩:=(hL.keep hb2).cells (by simp)
 obtain ⟨v0,c0,s0⟩:=hc 0 x0 rfl
 have HS0:=hid s0
 obtain ⟨A0,k0,rfl,p0,pp0,l0,r0⟩:=s0
 have c0:w2.cell? ⟨b,o,none⟩=_:=c0
 obtain ⟨n0,hn0⟩:∃ n,n=x0.length:=⟨_,rfl⟩
 have HR0:=hid r0.rd
 rw [←hn0] at c0 p0 l0 HS0
 have HN0:=hid hn0
 have cu0:=c0
 rw [hw2] at cu0
 have HC:=hid hc
 clear hc hL hX r0
 have HQ:=hid (show Zab 3 num [x0]=(x0,true) from rfl)
 clear hw2 hb2 hE hn0
 go_enter Tryz.func105,Tryz.ntmps105
 go_wp2_with fail
 rw [←HW2.out]
 go_wp2
 go_ret2
 exact ⟨_,by rw [HQ.out];rfl,by rw [HQ.out];exact HS0.out,HB2.out⟩
theorem Ziv (X:Nat→Prop) (nm:ByteArray) (num:Nat) (av:Value) (pos:Int) (x0:List Int) (XA:Option Addr) (xc:Nat) (w:World) (hX:∀ k,X k→k<w.heap.size) (hL:ShL X w XA [x0]):
  Calls Tryz.prog 105 #[.agg #[.int .i64 10,.string nm,.int .u64 (num:Int),av,.int .i64 pos],.slice XA 1 xc] w fun e w'=>∃ v,e=.returned (.tuple #[v,.bool (Zab 10 num [x0]).2])∧ShV X w' v (Zab 10 num [x0]).1∧Below w.heap.size w w':=by
 obtain ⟨w2,hw2⟩:∃ w2,w2=w.alloc (.cells #[.int .i64 10,.string nm,.int .u64 (num:Int),av,.int .i64 pos] 90):=⟨_,rfl⟩
 have hb2:Below w.heap.size w w2:=by rw [hw2];exact (Below.refl _ _).alloc (Nat.le_refl _) _
 have hE:w2.heap[w.heap.size]?=some (.cells #[.int .i64 10,.string nm,.int .u64 (num:Int),av,.int .i64 pos] 90 (0,0)):=by rw [hw2];exact heap_alloc_new w _
 have HW2:=hid hw2
 have HB2:=hid hb2
 have HXX:=hid (fun k hk=>Nat.lt_of_lt_of_le (hX k hk) hb2.size)
 have e0:=cell_of_row _ _ 0 _ _ _ hE
 have e2:=cell_of_row _ _ 2 _ _ _ hE
 obtain ⟨b,o,rfl,hb,hc⟩:=(hL.keep hb2).cells (by simp)
 obtain ⟨v0,c0,s0⟩:=hc 0 x0 rfl
 have HS0:=hid s0
 obtain ⟨A0,k0,rfl,p0,pp0,l0,r0⟩:=s0
 have c0:w2.cell? ⟨b,o,none⟩=_:=c0
 obtain ⟨n0,hn0⟩:∃ n,n=x0.length:=⟨_,rfl⟩
 have HR0:=hid r0.rd
 rw [←hn0] at c0 p0 l0 HS0
 have HN0:=hid hn0
 have cu0:=c0
 rw [hw2] at cu0
 have HC:=hid hc
 clear hc hL hX r0
 have HQ:=hid (show Zab 10 num [x0]=(x0,true) from rfl)
 clear hw2 hb2 hE hn0
 go_enter Tryz.func105,Tryz.ntmps105
 go_wp2_with fail
 rw [←HW2.out]
 go_wp2
 go_ret2
 exact ⟨_,by rw [HQ.out];rfl,by rw [HQ.out];exact HS0.out,HB2.out⟩
theorem Zkr (X:Nat→Prop) (nm:ByteArray) (num:Nat) (av:Value) (pos:Int) (x0:List Int) (XA:Option Addr) (xc:Nat) (w:World) (hX:∀ k,X k→k<w.heap.size) (hL:ShL X w XA [x0]):
  Calls Tryz.prog 105 #[.agg #[.int .i64 9,.string nm,.int .u64 (num:Int),av,.int .i64 pos],.slice XA 1 xc] w fun e w'=>∃ v,e=.returned (.tuple #[v,.bool (Zab 9 num [x0]).2])∧ShV X w' v (Zab 9 num [x0]).1∧Below w.heap.size w w':=by
 obtain ⟨w2,hw2⟩:∃ w2,w2=w.alloc (.cells #[.int .i64 9,.string nm,.int .u64 (num:Int),av,.int .i64 pos] 90):=⟨_,rfl⟩
 have hb2:Below w.heap.size w w2:=by rw [hw2];exact (Below.refl _ _).alloc (Nat.le_refl _) _
 have hE:w2.heap[w.heap.size]?=some (.cells #[.int .i64 9,.string nm,.int .u64 (num:Int),av,.int .i64 pos] 90 (0,0)):=by rw [hw2];exact heap_alloc_new w _
 have HW2:=hid hw2
 have HB2:=hid hb2
 have HXX:=hid (fun k hk=>Nat.lt_of_lt_of_le (hX k hk) hb2.size)
 have e0:=cell_of_row _ _ 0 _ _ _ hE
 have e2:=cell_of_row _ _ 2 _ _ _ hE
 obtain ⟨b,o,rfl,hb,hc⟩:=(hL.keep hb2).cells (by simp)
 obtain ⟨v0,c0,s0⟩:=hc 0 x0 rfl
 have HS0:=hid s0
 obtain ⟨A0,k0,rfl,p0,pp0,l0,r0⟩:=s0
 have c0:w2.cell? ⟨b,o,none⟩=_:=c0
 obtain ⟨n0,hn0⟩:∃ n,n=x0.length:=⟨_,rfl⟩
 have HR0:=hid r0.rd
 rw [←hn0] at c0 p0 l0 HS0
 have HN0:=hid hn0
 have cu0:=c0
 rw [hw2] at cu0
 have HC:=hid hc
 clear hc hL hX r0
 have HQ:=hid (show Zab 9 num [x0]=(x0,decide (num≤63)) from rfl)
 have HD:=hid (show decide (num≤63)=decide ((num:Int)≤63) from by simp;omega)
 clear hw2 hb2 hE hn0
 go_enter Tryz.func105,Tryz.ntmps105
 go_wp2_with fail
 rw [←HW2.out]
 go_wp2_with fail
 go_quiet (fail)
 go_wp2
 go_ret2
 exact ⟨_,by rw [HQ.out,HD.out];rfl,by rw [HQ.out];exact HS0.out.keep (Zag _ _ _),Zaa HB2.out _⟩
theorem Ziw (X:Nat→Prop) (nm:ByteArray) (num:Nat) (av:Value) (pos:Int) (x0:List Int) (XA:Option Addr) (xc:Nat) (w:World) (hX:∀ k,X k→k<w.heap.size) (hL:ShL X w XA [x0]):
  Calls Tryz.prog 105 #[.agg #[.int .i64 12,.string nm,.int .u64 (num:Int),av,.int .i64 pos],.slice XA 1 xc] w fun e w'=>∃ v,e=.returned (.tuple #[v,.bool (Zab 12 num [x0]).2])∧ShV X w' v (Zab 12 num [x0]).1∧Below w.heap.size w w':=by
 obtain ⟨w2,hw2⟩:∃ w2,w2=w.alloc (.cells #[.int .i64 12,.string nm,.int .u64 (num:Int),av,.int .i64 pos] 90):=⟨_,rfl⟩
 have hb2:Below w.heap.size w w2:=by rw [hw2];exact (Below.refl _ _).alloc (Nat.le_refl _) _
 have hE:w2.heap[w.heap.size]?=some (.cells #[.int .i64 12,.string nm,.int .u64 (num:Int),av,.int .i64 pos] 90 (0,0)):=by rw [hw2];exact heap_alloc_new w _
 have HW2:=hid hw2
 have HB2:=hid hb2
 have HXX:=hid (fun k hk=>Nat.lt_of_lt_of_le (hX k hk) hb2.size)
 have e0:=cell_of_row _ _ 0 _ _ _ hE
 have e2:=cell_of_row _ _ 2 _ _ _ hE
 obtain ⟨b,o,rfl,hb,hc⟩:=(hL.keep hb2).cells (by simp)
 obtain ⟨v0,c0,s0⟩:=hc 0 x0 rfl
 have HS0:=hid s0
 obtain ⟨A0,k0,rfl,p0,pp0,l0,r0⟩:=s0
 have c0:w2.cell? ⟨b,o,none⟩=_:=c0
 obtain ⟨n0,hn0⟩:∃ n,n=x0.length:=⟨_,rfl⟩
 have HR0:=hid r0.rd
 rw [←hn0] at c0 p0 l0 HS0
 have HN0:=hid hn0
 have cu0:=c0
 rw [hw2] at cu0
 have HC:=hid hc
 clear hc hL hX r0
 have HQ:=hid (show Zab 12 num [x0]=([],x0.length==1) from rfl)
 have HD:=hid (show (x0.length==1)=((n0:Int)==1) from by
  rw [←hn0]
  by_cases h:n0=1
  ·subst h;rfl
  ·rw [beq_eq_false_iff_ne.2 h,beq_eq_false_iff_ne.2 (by omega)])
 clear hw2 hb2 hE hn0
 go_enter Tryz.func105,Tryz.ntmps105
 go_wp2_with fail
 rw [←HW2.out]
 go_wp2_with fail
 go_quiet (fail)
 go_wp2
 go_ret2
 exact ⟨_,by rw [HQ.out,HD.out];rfl,by rw [HQ.out];exact ShV.nil _ _,Zaa HB2.out _⟩
theorem Zks (X:Nat→Prop) (nm:ByteArray) (num:Nat) (av:Value) (pos:Int) (x0 x1:List Int) (XA:Option Addr) (xc:Nat) (w:World) (hX:∀ k,X k→k<w.heap.size) (hL:ShL X w XA [x0,x1]):
  Calls Tryz.prog 105 #[.agg #[.int .i64 4,.string nm,.int .u64 (num:Int),av,.int .i64 pos],.slice XA 2 xc] w fun e w'=>∃ v,e=.returned (.tuple #[v,.bool (Zab 4 num [x0,x1]).2])∧ShV X w' v (Zab 4 num [x0,x1]).1∧Below w.heap.size w w':=by
 obtain ⟨w2,hw2⟩:∃ w2,w2=w.alloc (.cells #[.int .i64 4,.string nm,.int .u64 (num:Int),av,.int .i64 pos] 90):=⟨_,rfl⟩
 have hb2:Below w.heap.size w w2:=by rw [hw2];exact (Below.refl _ _).alloc (Nat.le_refl _) _
 have hE:w2.heap[w.heap.size]?=some (.cells #[.int .i64 4,.string nm,.int .u64 (num:Int),av,.int .i64 pos] 90 (0,0)):=by rw [hw2];exact heap_alloc_new w _
 have HW2:=hid hw2
 have HB2:=hid hb2
 have HXX:=hid (fun k hk=>Nat.lt_of_lt_of_le (hX k hk) hb2.size)
 have e0:=cell_of_row _ _ 0 _ _ _ hE
 have e2:=cell_of_row _ _ 2 _ _ _ hE
 obtain ⟨b,o,rfl,hb,hc⟩:=(hL.keep hb2).cells (by simp)
 obtain ⟨v0,c0,s0⟩:=hc 0 x0 rfl
 have HS0:=hid s0
 obtain ⟨A0,k0,rfl,p0,pp0,l0,r0⟩:=s0
 obtain ⟨v1,c1,s1⟩:=hc 1 x1 rfl
 have HS1:=hid s1
 obtain ⟨A1,k1,rfl,p1,pp1,l1,r1⟩:=s1
 have c0:w2.cell? ⟨b,o,none⟩=_:=c0
 obtain ⟨n0,hn0⟩:∃ n,n=x0.length:=⟨_,rfl⟩
 have HR0:=hid r0.rd
 obtain ⟨n1,hn1⟩:∃ n,n=x1.length:=⟨_,rfl⟩
 have HR1:=hid r1.rd
 rw [←hn0] at c0 p0 l0 HS0
 have HN0:=hid hn0
 rw [←hn1] at c1 p1 l1 HS1
 have HN1:=hid hn1
 have cu0:=c0
 rw [hw2] at cu0
 have cu1:=c1
 rw [hw2] at cu1
 have HC:=hid hc
 clear hc hL hX r0 r1
 have HQ:=hid (show Zab 4 num [x0,x1]=wideP x0 x1 from rfl)
 by_cases h0:n0=0
 ·have HZ:=hid (show wideP x0 x1=(x1,true) from by unfold wideP;rw [if_pos (by omega)])
  subst h0
  clear hw2 hb2 hE hn0 hn1
  go_enter Tryz.func105,Tryz.ntmps105
  go_wp2_with fail
  rw [←HW2.out]
  go_wp2
  go_ret2
  exact ⟨_,by rw [HQ.out,HZ.out];rfl,by rw [HQ.out,HZ.out];exact HS1.out,HB2.out⟩
 ·have q0:((n0:Int)==0)=false:=by rw [beq_eq_false_iff_ne];omega
  by_cases h1:n1=0
  ·have HZ:=hid (show wideP x0 x1=(x0,true) from by unfold wideP;rw [if_neg (by omega),show (x1.length==0)=true from by rw [←hn1,h1];rfl];rfl)
   subst h1
   clear h0
   clear hw2 hb2 hE hn0 hn1
   go_enter Tryz.func105,Tryz.ntmps105
   go_wp2_with fail
   rw [←HW2.out]
   go_wp2_with fail
   go_quiet (fail)
   go_wp2
   go_ret2
   exact ⟨_,by rw [HQ.out,HZ.out];rfl,by rw [HQ.out,HZ.out];exact HS0.out.keep (Zag _ _ _),Zaa HB2.out _⟩
  ·have q1:((n1:Int)==0)=false:=by rw [beq_eq_false_iff_ne];omega
   have HZ:=hid (show wideP x0 x1=(x0,x0==x1) from by unfold wideP;rw [if_neg (by omega),show (x1.length==0)=false from by rw [←hn1,beq_eq_false_iff_ne];exact h1];rfl)
   have HE:=hid (fun q=>Zba A0 A1 n0 n1 k0 k1 x0 x1 (w2.drewN q) hn0 hn1 (by omega) (by omega) (HR0.out.drewN q) (HR1.out.drewN q))
   clear h0 h1
   clear hw2 hb2 hE hn0 hn1
   go_enter Tryz.func105,Tryz.ntmps105
   go_wp2_with fail
   rw [←HW2.out]
   go_wp2_with fail
   go_quiet ((go_at_call 49;exact Calls.quiet_of (HE.out _)))
   go_wp2
   go_ret2
   exact ⟨_,by rw [HQ.out,HZ.out];rfl,by rw [HQ.out,HZ.out];exact HS0.out.keep (Zag _ _ _),Zaa HB2.out _⟩
theorem Zkt (X:Nat→Prop) (nm:ByteArray) (num:Nat) (av:Value) (pos:Int) (x0 x1:List Int) (XA:Option Addr) (xc:Nat) (w:World) (hX:∀ k,X k→k<w.heap.size) (hL:ShL X w XA [x0,x1]):
  Calls Tryz.prog 105 #[.agg #[.int .i64 5,.string nm,.int .u64 (num:Int),av,.int .i64 pos],.slice XA 2 xc] w fun e w'=>∃ v,e=.returned (.tuple #[v,.bool (Zab 5 num [x0,x1]).2])∧ShV X w' v (Zab 5 num [x0,x1]).1∧Below w.heap.size w w':=by
 obtain ⟨w2,hw2⟩:∃ w2,w2=w.alloc (.cells #[.int .i64 5,.string nm,.int .u64 (num:Int),av,.int .i64 pos] 90):=⟨_,rfl⟩
 have hb2:Below w.heap.size w w2:=by rw [hw2];exact (Below.refl _ _).alloc (Nat.le_refl _) _
 have hE:w2.heap[w.heap.size]?=some (.cells #[.int .i64 5,.string nm,.int .u64 (num:Int),av,.int .i64 pos] 90 (0,0)):=by rw [hw2];exact heap_alloc_new w _
 have HW2:=hid hw2
 have HB2:=hid hb2
 have HXX:=hid (fun k hk=>Nat.lt_of_lt_of_le (hX k hk) hb2.size)
 have e0:=cell_of_row _ _ 0 _ _ _ hE
 have e2:=cell_of_row _ _ 2 _ _ _ hE
 obtain ⟨b,o,rfl,hb,hc⟩:=(hL.keep hb2).cells (by simp)
 obtain ⟨v0,c0,s0⟩:=hc 0 x0 rfl
 have HS0:=hid s0
 obtain ⟨A0,k0,rfl,p0,pp0,l0,r0⟩:=s0
 obtain ⟨v1,c1,s1⟩:=hc 1 x1 rfl
 have HS1:=hid s1
 obtain ⟨A1,k1,rfl,p1,pp1,l1,r1⟩:=s1
 have c0:w2.cell? ⟨b,o,none⟩=_:=c0
 obtain ⟨n0,hn0⟩:∃ n,n=x0.length:=⟨_,rfl⟩
 have HR0:=hid r0.rd
 obtain ⟨n1,hn1⟩:∃ n,n=x1.length:=⟨_,rfl⟩
 have HR1:=hid r1.rd
 rw [←hn0] at c0 p0 l0 HS0
 have HN0:=hid hn0
 rw [←hn1] at c1 p1 l1 HS1
 have HN1:=hid hn1
 have cu0:=c0
 rw [hw2] at cu0
 have cu1:=c1
 rw [hw2] at cu1
 have HC:=hid hc
 clear hc hL hX r0 r1
 have HQ:=hid (show Zab 5 num [x0,x1]=wideP x0 x1 from rfl)
 by_cases h0:n0=0
 ·have HZ:=hid (show wideP x0 x1=(x1,true) from by unfold wideP;rw [if_pos (by omega)])
  subst h0
  clear hw2 hb2 hE hn0 hn1
  go_enter Tryz.func105,Tryz.ntmps105
  go_wp2_with fail
  rw [←HW2.out]
  go_wp2
  go_ret2
  exact ⟨_,by rw [HQ.out,HZ.out];rfl,by rw [HQ.out,HZ.out];exact HS1.out,HB2.out⟩
 ·have q0:((n0:Int)==0)=false:=by rw [beq_eq_false_iff_ne];omega
  by_cases h1:n1=0
  ·have HZ:=hid (show wideP x0 x1=(x0,true) from by unfold wideP;rw [if_neg (by omega),show (x1.length==0)=true from by rw [←hn1,h1];rfl];rfl)
   subst h1
   clear h0
   clear hw2 hb2 hE hn0 hn1
   go_enter Tryz.func105,Tryz.ntmps105
   go_wp2_with fail
   rw [←HW2.out]
   go_wp2_with fail
   go_quiet (fail)
   go_wp2
   go_ret2
   exact ⟨_,by rw [HQ.out,HZ.out];rfl,by rw [HQ.out,HZ.out];exact HS0.out.keep (Zag _ _ _),Zaa HB2.out _⟩
  ·have q1:((n1:Int)==0)=false:=by rw [beq_eq_false_iff_ne];omega
   have HZ:=hid (show wideP x0 x1=(x0,x0==x1) from by unfold wideP;rw [if_neg (by omega),show (x1.length==0)=false from by rw [←hn1,beq_eq_false_iff_ne];exact h1];rfl)
   have HE:=hid (fun q=>Zba A0 A1 n0 n1 k0 k1 x0 x1 (w2.drewN q) hn0 hn1 (by omega) (by omega) (HR0.out.drewN q) (HR1.out.drewN q))
   clear h0 h1
   clear hw2 hb2 hE hn0 hn1
   go_enter Tryz.func105,Tryz.ntmps105
   go_wp2_with fail
   rw [←HW2.out]
   go_wp2_with fail
   go_quiet ((go_at_call 49;exact Calls.quiet_of (HE.out _)))
   go_wp2
   go_ret2
   exact ⟨_,by rw [HQ.out,HZ.out];rfl,by rw [HQ.out,HZ.out];exact HS0.out.keep (Zag _ _ _),Zaa HB2.out _⟩
theorem Zku (X:Nat→Prop) (nm:ByteArray) (num:Nat) (av:Value) (pos:Int) (x0 x1:List Int) (XA:Option Addr) (xc:Nat) (w:World) (hX:∀ k,X k→k<w.heap.size) (hL:ShL X w XA [x0,x1]):
  Calls Tryz.prog 105 #[.agg #[.int .i64 6,.string nm,.int .u64 (num:Int),av,.int .i64 pos],.slice XA 2 xc] w fun e w'=>∃ v,e=.returned (.tuple #[v,.bool (Zab 6 num [x0,x1]).2])∧ShV X w' v (Zab 6 num [x0,x1]).1∧Below w.heap.size w w':=by
 obtain ⟨w2,hw2⟩:∃ w2,w2=w.alloc (.cells #[.int .i64 6,.string nm,.int .u64 (num:Int),av,.int .i64 pos] 90):=⟨_,rfl⟩
 have hb2:Below w.heap.size w w2:=by rw [hw2];exact (Below.refl _ _).alloc (Nat.le_refl _) _
 have hE:w2.heap[w.heap.size]?=some (.cells #[.int .i64 6,.string nm,.int .u64 (num:Int),av,.int .i64 pos] 90 (0,0)):=by rw [hw2];exact heap_alloc_new w _
 have HW2:=hid hw2
 have HB2:=hid hb2
 have HXX:=hid (fun k hk=>Nat.lt_of_lt_of_le (hX k hk) hb2.size)
 have e0:=cell_of_row _ _ 0 _ _ _ hE
 have e2:=cell_of_row _ _ 2 _ _ _ hE
 obtain ⟨b,o,rfl,hb,hc⟩:=(hL.keep hb2).cells (by simp)
 obtain ⟨v0,c0,s0⟩:=hc 0 x0 rfl
 have HS0:=hid s0
 obtain ⟨A0,k0,rfl,p0,pp0,l0,r0⟩:=s0
 obtain ⟨v1,c1,s1⟩:=hc 1 x1 rfl
 have HS1:=hid s1
 obtain ⟨A1,k1,rfl,p1,pp1,l1,r1⟩:=s1
 have c0:w2.cell? ⟨b,o,none⟩=_:=c0
 obtain ⟨n0,hn0⟩:∃ n,n=x0.length:=⟨_,rfl⟩
 have HR0:=hid r0.rd
 obtain ⟨n1,hn1⟩:∃ n,n=x1.length:=⟨_,rfl⟩
 have HR1:=hid r1.rd
 rw [←hn0] at c0 p0 l0 HS0
 have HN0:=hid hn0
 rw [←hn1] at c1 p1 l1 HS1
 have HN1:=hid hn1
 have cu0:=c0
 rw [hw2] at cu0
 have cu1:=c1
 rw [hw2] at cu1
 have HC:=hid hc
 clear hc hL hX r0 r1
 have HQ:=hid (show Zab 6 num [x0,x1]=wideP x0 x1 from rfl)
 by_cases h0:n0=0
 ·have HZ:=hid (show wideP x0 x1=(x1,true) from by unfold wideP;rw [if_pos (by omega)])
  subst h0
  clear hw2 hb2 hE hn0 hn1
  go_enter Tryz.func105,Tryz.ntmps105
  go_wp2_with fail
  rw [←HW2.out]
  go_wp2
  go_ret2
  exact ⟨_,by rw [HQ.out,HZ.out];rfl,by rw [HQ.out,HZ.out];exact HS1.out,HB2.out⟩
 ·have q0:((n0:Int)==0)=false:=by rw [beq_eq_false_iff_ne];omega
  by_cases h1:n1=0
  ·have HZ:=hid (show wideP x0 x1=(x0,true) from by unfold wideP;rw [if_neg (by omega),show (x1.length==0)=true from by rw [←hn1,h1];rfl];rfl)
   subst h1
   clear h0
   clear hw2 hb2 hE hn0 hn1
   go_enter Tryz.func105,Tryz.ntmps105
   go_wp2_with fail
   rw [←HW2.out]
   go_wp2_with fail
   go_quiet (fail)
   go_wp2
   go_ret2
   exact ⟨_,by rw [HQ.out,HZ.out];rfl,by rw [HQ.out,HZ.out];exact HS0.out.keep (Zag _ _ _),Zaa HB2.out _⟩
  ·have q1:((n1:Int)==0)=false:=by rw [beq_eq_false_iff_ne];omega
   have HZ:=hid (show wideP x0 x1=(x0,x0==x1) from by unfold wideP;rw [if_neg (by omega),show (x1.length==0)=false from by rw [←hn1,beq_eq_false_iff_ne];exact h1];rfl)
   have HE:=hid (fun q=>Zba A0 A1 n0 n1 k0 k1 x0 x1 (w2.drewN q) hn0 hn1 (by omega) (by omega) (HR0.out.drewN q) (HR1.out.drewN q))
   clear h0 h1
   clear hw2 hb2 hE hn0 hn1
   go_enter Tryz.func105,Tryz.ntmps105
   go_wp2_with fail
   rw [←HW2.out]
   go_wp2_with fail
   go_quiet ((go_at_call 49;exact Calls.quiet_of (HE.out _)))
   go_wp2
   go_ret2
   exact ⟨_,by rw [HQ.out,HZ.out];rfl,by rw [HQ.out,HZ.out];exact HS0.out.keep (Zag _ _ _),Zaa HB2.out _⟩
theorem Zkv (X:Nat→Prop) (nm:ByteArray) (num:Nat) (av:Value) (pos:Int) (x0 x1:List Int) (XA:Option Addr) (xc:Nat) (w:World) (hX:∀ k,X k→k<w.heap.size) (hL:ShL X w XA [x0,x1]):
  Calls Tryz.prog 105 #[.agg #[.int .i64 8,.string nm,.int .u64 (num:Int),av,.int .i64 pos],.slice XA 2 xc] w fun e w'=>∃ v,e=.returned (.tuple #[v,.bool (Zab 8 num [x0,x1]).2])∧ShV X w' v (Zab 8 num [x0,x1]).1∧Below w.heap.size w w':=by
 obtain ⟨w2,hw2⟩:∃ w2,w2=w.alloc (.cells #[.int .i64 8,.string nm,.int .u64 (num:Int),av,.int .i64 pos] 90):=⟨_,rfl⟩
 have hb2:Below w.heap.size w w2:=by rw [hw2];exact (Below.refl _ _).alloc (Nat.le_refl _) _
 have hE:w2.heap[w.heap.size]?=some (.cells #[.int .i64 8,.string nm,.int .u64 (num:Int),av,.int .i64 pos] 90 (0,0)):=by rw [hw2];exact heap_alloc_new w _
 have HW2:=hid hw2
 have HB2:=hid hb2
 have HXX:=hid (fun k hk=>Nat.lt_of_lt_of_le (hX k hk) hb2.size)
 have e0:=cell_of_row _ _ 0 _ _ _ hE
 have e2:=cell_of_row _ _ 2 _ _ _ hE
 obtain ⟨b,o,rfl,hb,hc⟩:=(hL.keep hb2).cells (by simp)
 obtain ⟨v0,c0,s0⟩:=hc 0 x0 rfl
 have HS0:=hid s0
 obtain ⟨A0,k0,rfl,p0,pp0,l0,r0⟩:=s0
 obtain ⟨v1,c1,s1⟩:=hc 1 x1 rfl
 have HS1:=hid s1
 obtain ⟨A1,k1,rfl,p1,pp1,l1,r1⟩:=s1
 have c0:w2.cell? ⟨b,o,none⟩=_:=c0
 obtain ⟨n0,hn0⟩:∃ n,n=x0.length:=⟨_,rfl⟩
 have HR0:=hid r0.rd
 obtain ⟨n1,hn1⟩:∃ n,n=x1.length:=⟨_,rfl⟩
 have HR1:=hid r1.rd
 rw [←hn0] at c0 p0 l0 HS0
 have HN0:=hid hn0
 rw [←hn1] at c1 p1 l1 HS1
 have HN1:=hid hn1
 have cu0:=c0
 rw [hw2] at cu0
 have cu1:=c1
 rw [hw2] at cu1
 have HC:=hid hc
 clear hc hL hX r0 r1
 have HQ:=hid (show Zab 8 num [x0,x1]=wideP x0 x1 from rfl)
 by_cases h0:n0=0
 ·have HZ:=hid (show wideP x0 x1=(x1,true) from by unfold wideP;rw [if_pos (by omega)])
  subst h0
  clear hw2 hb2 hE hn0 hn1
  go_enter Tryz.func105,Tryz.ntmps105
  go_wp2_with fail
  rw [←HW2.out]
  go_wp2
  go_ret2
  exact ⟨_,by rw [HQ.out,HZ.out];rfl,by rw [HQ.out,HZ.out];exact HS1.out,HB2.out⟩
 ·have q0:((n0:Int)==0)=false:=by rw [beq_eq_false_iff_ne];omega
  by_cases h1:n1=0
  ·have HZ:=hid (show wideP x0 x1=(x0,true) from by unfold wideP;rw [if_neg (by omega),show (x1.length==0)=true from by rw [←hn1,h1];rfl];rfl)
   subst h1
   clear h0
   clear hw2 hb2 hE hn0 hn1
   go_enter Tryz.func105,Tryz.ntmps105
   go_wp2_with fail
   rw [←HW2.out]
   go_wp2_with fail
   go_quiet (fail)
   go_wp2
   go_ret2
   exact ⟨_,by rw [HQ.out,HZ.out];rfl,by rw [HQ.out,HZ.out];exact HS0.out.keep (Zag _ _ _),Zaa HB2.out _⟩
  ·have q1:((n1:Int)==0)=false:=by rw [beq_eq_false_iff_ne];omega
   have HZ:=hid (show wideP x0 x1=(x0,x0==x1) from by unfold wideP;rw [if_neg (by omega),show (x1.length==0)=false from by rw [←hn1,beq_eq_false_iff_ne];exact h1];rfl)
   have HE:=hid (fun q=>Zba A0 A1 n0 n1 k0 k1 x0 x1 (w2.drewN q) hn0 hn1 (by omega) (by omega) (HR0.out.drewN q) (HR1.out.drewN q))
   clear h0 h1
   clear hw2 hb2 hE hn0 hn1
   go_enter Tryz.func105,Tryz.ntmps105
   go_wp2_with fail
   rw [←HW2.out]
   go_wp2_with fail
   go_quiet ((go_at_call 49;exact Calls.quiet_of (HE.out _)))
   go_wp2
   go_ret2
   exact ⟨_,by rw [HQ.out,HZ.out];rfl,by rw [HQ.out,HZ.out];exact HS0.out.keep (Zag _ _ _),Zaa HB2.out _⟩
theorem Zix (X:Nat→Prop) (nm:ByteArray) (num:Nat) (av:Value) (pos:Int) (x0 x1:List Int) (XA:Option Addr) (xc:Nat) (w:World) (hX:∀ k,X k→k<w.heap.size) (hL:ShL X w XA [x0,x1]):
  Calls Tryz.prog 105 #[.agg #[.int .i64 13,.string nm,.int .u64 (num:Int),av,.int .i64 pos],.slice XA 2 xc] w fun e w'=>∃ v,e=.returned (.tuple #[v,.bool (Zab 13 num [x0,x1]).2])∧ShV X w' v (Zab 13 num [x0,x1]).1∧Below w.heap.size w w':=by
 obtain ⟨w2,hw2⟩:∃ w2,w2=w.alloc (.cells #[.int .i64 13,.string nm,.int .u64 (num:Int),av,.int .i64 pos] 90):=⟨_,rfl⟩
 have hb2:Below w.heap.size w w2:=by rw [hw2];exact (Below.refl _ _).alloc (Nat.le_refl _) _
 have hE:w2.heap[w.heap.size]?=some (.cells #[.int .i64 13,.string nm,.int .u64 (num:Int),av,.int .i64 pos] 90 (0,0)):=by rw [hw2];exact heap_alloc_new w _
 have HW2:=hid hw2
 have HB2:=hid hb2
 have HXX:=hid (fun k hk=>Nat.lt_of_lt_of_le (hX k hk) hb2.size)
 have e0:=cell_of_row _ _ 0 _ _ _ hE
 have e2:=cell_of_row _ _ 2 _ _ _ hE
 obtain ⟨b,o,rfl,hb,hc⟩:=(hL.keep hb2).cells (by simp)
 obtain ⟨v0,c0,s0⟩:=hc 0 x0 rfl
 have HS0:=hid s0
 obtain ⟨A0,k0,rfl,p0,pp0,l0,r0⟩:=s0
 obtain ⟨v1,c1,s1⟩:=hc 1 x1 rfl
 have HS1:=hid s1
 obtain ⟨A1,k1,rfl,p1,pp1,l1,r1⟩:=s1
 have c0:w2.cell? ⟨b,o,none⟩=_:=c0
 obtain ⟨n0,hn0⟩:∃ n,n=x0.length:=⟨_,rfl⟩
 have HR0:=hid r0.rd
 obtain ⟨n1,hn1⟩:∃ n,n=x1.length:=⟨_,rfl⟩
 have HR1:=hid r1.rd
 rw [←hn0] at c0 p0 l0 HS0
 have HN0:=hid hn0
 rw [←hn1] at c1 p1 l1 HS1
 have HN1:=hid hn1
 have cu0:=c0
 rw [hw2] at cu0
 have cu1:=c1
 rw [hw2] at cu1
 have HC:=hid hc
 clear hc hL hX r0 r1
 have HQ:=hid (show Zab 13 num [x0,x1]=wideP x0 x1 from rfl)
 by_cases h0:n0=0
 ·have HZ:=hid (show wideP x0 x1=(x1,true) from by unfold wideP;rw [if_pos (by omega)])
  subst h0
  clear hw2 hb2 hE hn0 hn1
  go_enter Tryz.func105,Tryz.ntmps105
  go_wp2_with fail
  rw [←HW2.out]
  go_wp2
  go_ret2
  exact ⟨_,by rw [HQ.out,HZ.out];rfl,by rw [HQ.out,HZ.out];exact HS1.out,HB2.out⟩
 ·have q0:((n0:Int)==0)=false:=by rw [beq_eq_false_iff_ne];omega
  by_cases h1:n1=0
  ·have HZ:=hid (show wideP x0 x1=(x0,true) from by unfold wideP;rw [if_neg (by omega),show (x1.length==0)=true from by rw [←hn1,h1];rfl];rfl)
   subst h1
   clear h0
   clear hw2 hb2 hE hn0 hn1
   go_enter Tryz.func105,Tryz.ntmps105
   go_wp2_with fail
   rw [←HW2.out]
   go_wp2_with fail
   go_quiet (fail)
   go_wp2
   go_ret2
   exact ⟨_,by rw [HQ.out,HZ.out];rfl,by rw [HQ.out,HZ.out];exact HS0.out.keep (Zag _ _ _),Zaa HB2.out _⟩
  ·have q1:((n1:Int)==0)=false:=by rw [beq_eq_false_iff_ne];omega
   have HZ:=hid (show wideP x0 x1=(x0,x0==x1) from by unfold wideP;rw [if_neg (by omega),show (x1.length==0)=false from by rw [←hn1,beq_eq_false_iff_ne];exact h1];rfl)
   have HE:=hid (fun q=>Zba A0 A1 n0 n1 k0 k1 x0 x1 (w2.drewN q) hn0 hn1 (by omega) (by omega) (HR0.out.drewN q) (HR1.out.drewN q))
   clear h0 h1
   clear hw2 hb2 hE hn0 hn1
   go_enter Tryz.func105,Tryz.ntmps105
   go_wp2_with fail
   rw [←HW2.out]
   go_wp2_with fail
   go_quiet ((go_at_call 49;exact Calls.quiet_of (HE.out _)))
   go_wp2
   go_ret2
   exact ⟨_,by rw [HQ.out,HZ.out];rfl,by rw [HQ.out,HZ.out];exact HS0.out.keep (Zag _ _ _),Zaa HB2.out _⟩
theorem Ziy (X:Nat→Prop) (nm:ByteArray) (num:Nat) (av:Value) (pos:Int) (x0 x1 x2:List Int) (XA:Option Addr) (xc:Nat) (w:World) (hX:∀ k,X k→k<w.heap.size) (hL:ShL X w XA [x0,x1,x2]):
  Calls Tryz.prog 105 #[.agg #[.int .i64 14,.string nm,.int .u64 (num:Int),av,.int .i64 pos],.slice XA 3 xc] w fun e w'=>∃ v,e=.returned (.tuple #[v,.bool (Zab 14 num [x0,x1,x2]).2])∧ShV X w' v (Zab 14 num [x0,x1,x2]).1∧Below w.heap.size w w':=by
 obtain ⟨w2,hw2⟩:∃ w2,w2=w.alloc (.cells #[.int .i64 14,.string nm,.int .u64 (num:Int),av,.int .i64 pos] 90):=⟨_,rfl⟩
 have hb2:Below w.heap.size w w2:=by rw [hw2];exact (Below.refl _ _).alloc (Nat.le_refl _) _
 have hE:w2.heap[w.heap.size]?=some (.cells #[.int .i64 14,.string nm,.int .u64 (num:Int),av,.int .i64 pos] 90 (0,0)):=by rw [hw2];exact heap_alloc_new w _
 have HW2:=hid hw2
 have HB2:=hid hb2
 have HXX:=hid (fun k hk=>Nat.lt_of_lt_of_le (hX k hk) hb2.size)
 have e0:=cell_of_row _ _ 0 _ _ _ hE
 have e2:=cell_of_row _ _ 2 _ _ _ hE
 obtain ⟨b,o,rfl,hb,hc⟩:=(hL.keep hb2).cells (by simp)
 obtain ⟨v0,c0,s0⟩:=hc 0 x0 rfl
 have HS0:=hid s0
 obtain ⟨A0,k0,rfl,p0,pp0,l0,r0⟩:=s0
 obtain ⟨v1,c1,s1⟩:=hc 1 x1 rfl
 have HS1:=hid s1
 obtain ⟨A1,k1,rfl,p1,pp1,l1,r1⟩:=s1
 obtain ⟨v2,c2,s2⟩:=hc 2 x2 rfl
 have HS2:=hid s2
 obtain ⟨A2,k2,rfl,p2,pp2,l2,r2⟩:=s2
 have c0:w2.cell? ⟨b,o,none⟩=_:=c0
 obtain ⟨n0,hn0⟩:∃ n,n=x0.length:=⟨_,rfl⟩
 have HR0:=hid r0.rd
 obtain ⟨n1,hn1⟩:∃ n,n=x1.length:=⟨_,rfl⟩
 have HR1:=hid r1.rd
 obtain ⟨n2,hn2⟩:∃ n,n=x2.length:=⟨_,rfl⟩
 have HR2:=hid r2.rd
 rw [←hn0] at c0 p0 l0 HS0
 have HN0:=hid hn0
 rw [←hn1] at c1 p1 l1 HS1
 have HN1:=hid hn1
 rw [←hn2] at c2 p2 l2 HS2
 have HN2:=hid hn2
 have cu0:=c0
 rw [hw2] at cu0
 have cu1:=c1
 rw [hw2] at cu1
 have cu2:=c2
 rw [hw2] at cu2
 have HC:=hid hc
 clear hc hL hX r0 r1 r2
 have HQ:=hid (show Zab 14 num [x0,x1,x2]=(x1,(x1==x2)&&(x0.length==0||x0==x1)) from rfl)
 have HE1:=hid (fun q=>Zba A1 A2 n1 n2 k1 k2 x1 x2 (w2.drewN q) hn1 hn2 (by omega) (by omega) (HR1.out.drewN q) (HR2.out.drewN q))
 have HE2:=hid (fun q=>Zba A0 A1 n0 n1 k0 k1 x0 x1 (w2.drewN q) hn0 hn1 (by omega) (by omega) (HR0.out.drewN q) (HR1.out.drewN q))
 cases h1:(x1==x2) with
 | false=>
  rw [h1] at HE1
  have HZ:=hid (show ((x1==x2)&&(x0.length==0||x0==x1))=false from by rw [h1];rfl)
  clear h1 HE2
  clear hw2 hb2 hE hn0 hn1 hn2
  go_enter Tryz.func105,Tryz.ntmps105
  go_wp2_with fail
  rw [←HW2.out]
  go_wp2_with fail
  go_quiet ((go_at_call 49;exact Calls.quiet_of (HE1.out _)))
  go_wp2
  go_ret2
  exact ⟨_,by rw [HQ.out,HZ.out];rfl,by rw [HQ.out];exact HS1.out.keep (Zag _ _ _),Zaa HB2.out _⟩
 | true=>
  rw [h1] at HE1
  by_cases h0:n0=0
  ·have HZ:=hid (show ((x1==x2)&&(x0.length==0||x0==x1))=true from by rw [h1,←hn0,h0];rfl)
   subst h0
   clear h1 HE2
   clear hw2 hb2 hE hn0 hn1 hn2
   go_enter Tryz.func105,Tryz.ntmps105
   go_wp2_with fail
   rw [←HW2.out]
   go_wp2_with fail
   go_quiet ((go_at_call 49;exact Calls.quiet_of (HE1.out _)))
   go_wp2
   go_ret2
   exact ⟨_,by rw [HQ.out,HZ.out];rfl,by rw [HQ.out];exact HS1.out.keep (Zag _ _ _),Zaa HB2.out _⟩
  ·have q0:((n0:Int)==0)=false:=by rw [beq_eq_false_iff_ne];omega
   obtain ⟨bo,hbo⟩:∃ bo,bo=(x0==x1):=⟨_,rfl⟩
   rw [←hbo] at HE2
   have HZ:=hid (show ((x1==x2)&&(x0.length==0||x0==x1))=bo from by
    rw [h1,←hn0,←hbo,beq_eq_false_iff_ne.2 h0]
    cases bo <;> rfl)
   clear h1 h0 hbo
   clear hw2 hb2 hE hn0 hn1 hn2
   go_enter Tryz.func105,Tryz.ntmps105
   go_wp2_with fail
   rw [←HW2.out]
   go_wp2_with fail
   go_quiet (first
    | (go_at_call_of 49 A2;exact Calls.quiet_of (HE1.out _))
    | (go_at_call_of 49 A0;exact Calls.quiet_of (HE2.out _)))
   go_wp2
   go_ret2
   exact ⟨_,by rw [HQ.out,HZ.out];rfl,by rw [HQ.out];exact HS1.out.keep (Zag _ _ _),Zaa HB2.out _⟩
theorem Zdt {w:World} {A:Option Addr} {l:List Int} (h:Rd w w.heap.size A (l.map VI)) (hl:0<l.length):∃ b o,A=some ⟨b,o,none⟩∧b<w.heap.size∧∀ (j:Nat) (d:Int),l[j]?=some d→w.cell? ⟨b,o+j,none⟩=some (.int .i64 d):=by
 rcases h with h | ⟨b,o,hA,hb,hc⟩
 ·have:=congrArg List.length h
  rw [List.length_map] at this
  simp at this
  subst this
  simp at hl
 ·exact ⟨b,o,hA,hb,fun j d hd=>hc j _ (by rw [List.getElem?_map,hd];rfl)⟩
theorem ZdF {w2 w w':World} {b o:Nat} {u v:Value} (hb:b<w2.heap.size) (h:w2.heap.size≤w.heap.size∧w.cell? ⟨b,o,none⟩=some u∧w.cell? ⟨b,o+1,none⟩=some v∧Below w2.heap.size w2 w) (hw:Below w2.heap.size w w'):
  w2.heap.size≤w'.heap.size∧w'.cell? ⟨b,o,none⟩=some u∧w'.cell? ⟨b,o+1,none⟩=some v∧Below w2.heap.size w2 w':=
 ⟨Nat.le_trans h.1 hw.size,(hw.cell (p:=⟨b,o,none⟩) hb).trans h.2.1,(hw.cell (p:=⟨b,o+1,none⟩) hb).trans h.2.2.1,h.2.2.2.trans hw⟩
theorem Zd5 {w2 w:World} {b o:Nat} {u v:Value} (hb:b<w2.heap.size) (h:w2.heap.size≤w.heap.size∧w.cell? ⟨b,o,none⟩=some u∧w.cell? ⟨b,o+1,none⟩=some v∧Below w2.heap.size w2 w) (ob:Obj):
  w2.heap.size≤(w.alloc ob).heap.size∧(w.alloc ob).cell? ⟨b,o,none⟩=some u∧(w.alloc ob).cell? ⟨b,o+1,none⟩=some v∧Below w2.heap.size w2 (w.alloc ob):=
 ZdF hb h ((Below.refl _ _).alloc h.1 ob)
theorem Zgb (X:Nat→Prop) (nm:ByteArray) (num:Nat) (av:Value) (pos:Int) (p q:Int) (XA:Option Addr) (xc:Nat) (w:World) (hX:∀ k,X k→k<w.heap.size) (hL:ShL X w XA [[p],[q]]):
  Calls Tryz.prog 105 #[.agg #[.int .i64 7,.string nm,.int .u64 (num:Int),av,.int .i64 pos],.slice XA 2 xc] w fun e w'=>∃ v,e=.returned (.tuple #[v,.bool (Zab 7 num [[p],[q]]).2])∧ShV X w' v (Zab 7 num [[p],[q]]).1∧Below w.heap.size w w':=by
 obtain ⟨w2,hw2⟩:∃ w2,w2=w.alloc (.cells #[.int .i64 7,.string nm,.int .u64 (num:Int),av,.int .i64 pos] 90):=⟨_,rfl⟩
 have hb2:Below w.heap.size w w2:=by rw [hw2];exact (Below.refl _ _).alloc (Nat.le_refl _) _
 have hE:w2.heap[w.heap.size]?=some (.cells #[.int .i64 7,.string nm,.int .u64 (num:Int),av,.int .i64 pos] 90 (0,0)):=by rw [hw2];exact heap_alloc_new w _
 have HW2:=hid hw2
 have HB2:=hid hb2
 have HXX:=hid (fun k hk=>Nat.lt_of_lt_of_le (hX k hk) hb2.size)
 have e0:=cell_of_row _ _ 0 _ _ _ hE
 have e2:=cell_of_row _ _ 2 _ _ _ hE
 obtain ⟨b,o,rfl,hb,hc⟩:=(hL.keep hb2).cells (by simp)
 obtain ⟨v0,c0,s0⟩:=hc 0 [p] rfl
 have HS0:=hid s0
 obtain ⟨A0,k0,rfl,p0,pp0,l0,r0⟩:=s0
 obtain ⟨v1,c1,s1⟩:=hc 1 [q] rfl
 have HS1:=hid s1
 obtain ⟨A1,k1,rfl,p1,pp1,l1,r1⟩:=s1
 have c0:w2.cell? ⟨b,o,none⟩=_:=c0
 obtain ⟨n0,hn0⟩:∃ n,n=[p].length:=⟨_,rfl⟩
 have HR0:=hid r0.rd
 obtain ⟨n1,hn1⟩:∃ n,n=[q].length:=⟨_,rfl⟩
 have HR1:=hid r1.rd
 rw [←hn0] at c0 p0 l0 HS0
 have HN0:=hid hn0
 rw [←hn1] at c1 p1 l1 HS1
 have HN1:=hid hn1
 have cu0:=c0
 rw [hw2] at cu0
 have cu1:=c1
 rw [hw2] at cu1
 have HC:=hid hc
 clear hc hL hX r0 r1
 obtain ⟨b0,o0,rfl,_,d0⟩:=Zdt HR0.out (by simp)
 obtain ⟨b1,o1,rfl,_,d1⟩:=Zdt HR1.out (by simp)
 have g0:w2.cell? ⟨b0,o0,none⟩=some (.int .i64 p):=d0 0 _ rfl
 have g1:w2.cell? ⟨b1,o1,none⟩=some (.int .i64 q):=d1 0 _ rfl
 have w1:IntKind.i64.wrap 1=1:=rfl
 have w0:IntKind.i64.wrap 0=0:=rfl
 obtain rfl:n0=1:=hn0
 obtain rfl:n1=1:=hn1
 by_cases hpq:p=q
 ·have t1:(p==q)=true:=by rw [beq_iff_eq];exact hpq
  have t2:(p != q)=false:=by unfold bne;rw [t1];rfl
  have HQ:=hid (show Zab 7 num [[p],[q]]=([],true) from by show matP _ _=_;unfold matP;rw [if_neg (by simp;exact hpq)];rfl)
  have f1:∀ W,(Instr.sliceAt 41 (.slice (some ⟨b0,o0,none⟩) 1 k0) none (some (.int .i64 0)) none).run Tryz.prog W=.ok (.slice (cutA (some ⟨b0,o0,none⟩) 0 1 k0) 0 k0) W:=fun W=>ZaB (P := Tryz.prog) Tryz.underlying41 Za8 (some ⟨b0,o0,none⟩) (n:=1) (c:=k0) (h:=0) (by omega) W
  have f2:∀ W,(Instr.sliceAt 41 (.slice (some ⟨b1,o1,none⟩) 1 k1) (some (.int .i64 1)) none none).run Tryz.prog W=.ok (.slice (cutA (some ⟨b1,o1,none⟩) 1 1 k1) 0 (k1-1)) W:=fun W=>Za2 (P := Tryz.prog) Tryz.underlying41 Za8 (some ⟨b1,o1,none⟩) (n:=1) (c:=k1) (k:=1) (by omega) W
  have hA:=Zbl (some ⟨b0,o0,none⟩) 1 k0 (.inr ⟨b0,o0,rfl⟩)
  obtain ⟨C1,hC1⟩:∃ C1,C1=cutA (some ⟨b1,o1,none⟩) 1 1 k1:=⟨_,rfl⟩
  rw [←hC1] at f2
  rw [hA] at f1
  have RA:=hid (show Rd w2 w2.heap.size (some ⟨b0,o0,none⟩) (([]:List Int).map VI) from by
   have:=HR0.out.take 0
   simpa using this)
  have RB:=hid (show Rd w2 w2.heap.size C1 (([]:List Int).map VI) from by
   rw [hC1]
   have:=HR1.out.cut (k:=1) (c:=k1) (by simp;omega)
   simpa using this)
  have hnC:=ZaW RB.out
  have HX2:=hid (show ∀ k,X k→k<w2.heap.size from HXX.out)
  clear hpq d0 d1 hA hC1
  clear hw2 hb2 hE
  go_enter Tryz.func105,Tryz.ntmps105
  go_wp2_with fail
  rw [←HW2.out]
  go_quiet (fail)
  go_wp2_with fail
  obtain ⟨w3,hw3⟩:∃ w3,w3=w2.drewN nq:=⟨_,rfl⟩
  rw [←hw3]
  have S0:=hid (show w2.heap.size≤w3.drew.heap.size∧w3.drew.cell? ⟨b,o,none⟩=some (.slice (some ⟨b0,o0,none⟩) 1 k0)∧w3.drew.cell? ⟨b,o+1,none⟩=some (.slice (some ⟨b1,o1,none⟩) 1 k1)∧Below w2.heap.size w2 w3.drew from by rw [hw3];exact ⟨Nat.le_refl _,c0,c1,(Zaa (Below.refl _ _) _).drew⟩)
  have HBS:=hid hb
  clear hw3 c0 c1 cu0 cu1 e0 e2
  go_region_held3 (fun w'=>w2.heap.size≤w'.heap.size∧w'.cell? ⟨b,o,none⟩=some (.slice (some ⟨b0,o0,none⟩) 1 k0)∧w'.cell? ⟨b,o+1,none⟩=some (.slice (some ⟨b1,o1,none⟩) 1 k1)∧Below w2.heap.size w2 w')
   (first | with_reducible exact S0.out | assumption | exact ZdF HBS.out (by assumption) (by assumption) | exact Zd5 HBS.out (by assumption) _)
   (first
    | (refine Zbj rfl (.tmp 95) (.tmp 101) rfl w2.heap.size _ 0 [] 0 rfl rfl (Own.made _ _ (And.left (by assumption))) (some ⟨b0,o0,none⟩) 0 k0 w2.heap.size ([]:List Int) rfl rfl (RA.out.below (And.right (And.right (And.right (by assumption))))) (fun h=>by cases h) (by omega) (And.left (by assumption)) ?_;intro A3 k3 w4 ho4 hb4)
    | (refine Zbj rfl (.tmp 102) (.tmp 106) rfl w2.heap.size A3 k3 ([]++([]:List Int)) 0 rfl rfl ho4 C1 0 (k1-1) w2.heap.size ([]:List Int) rfl rfl (RB.out.below (And.right (And.right (And.right (by assumption))))) hnC (by omega) (And.left (by assumption)) ?_;intro A5 k5 w5 ho5 hb5))
  all_goals
   go_wp2
   go_ret2
   have hS:w2.heap.size≤w5.heap.size∧w5.cell? ⟨b,o,none⟩=some (.slice (some ⟨b0,o0,none⟩) 1 k0)∧w5.cell? ⟨b,o+1,none⟩=some (.slice (some ⟨b1,o1,none⟩) 1 k1)∧Below w2.heap.size w2 w5:=by assumption
   exact ⟨_,by rw [HQ.out];rfl,by rw [HQ.out];exact ShV.of_own ho5 HX2.out rfl (by simp),HB2.out.trans (hS.2.2.2.mono HB2.out.size)⟩
 ·have t1:(p==q)=false:=by rw [beq_eq_false_iff_ne];exact hpq
  have t2:(p != q)=true:=by unfold bne;rw [t1];rfl
  have HQ:=hid (show Zab 7 num [[p],[q]]=([],false) from by show matP _ _=_;unfold matP;rw [if_pos (by simp;exact hpq)])
  clear hpq d0 d1
  clear hw2 hb2 hE
  go_enter Tryz.func105,Tryz.ntmps105
  go_wp2_with fail
  rw [←HW2.out]
  go_quiet (fail)
  go_wp2
  go_ret2
  exact ⟨_,by rw [HQ.out];rfl,by rw [HQ.out];exact ShV.nil _ _,Zaa HB2.out _⟩
theorem Zgc (X:Nat→Prop) (nm:ByteArray) (num:Nat) (av:Value) (pos:Int) (p q q2:Int) (XA:Option Addr) (xc:Nat) (w:World) (hX:∀ k,X k→k<w.heap.size) (hL:ShL X w XA [[p],[q,q2]]):
  Calls Tryz.prog 105 #[.agg #[.int .i64 7,.string nm,.int .u64 (num:Int),av,.int .i64 pos],.slice XA 2 xc] w fun e w'=>∃ v,e=.returned (.tuple #[v,.bool (Zab 7 num [[p],[q,q2]]).2])∧ShV X w' v (Zab 7 num [[p],[q,q2]]).1∧Below w.heap.size w w':=by
 obtain ⟨w2,hw2⟩:∃ w2,w2=w.alloc (.cells #[.int .i64 7,.string nm,.int .u64 (num:Int),av,.int .i64 pos] 90):=⟨_,rfl⟩
 have hb2:Below w.heap.size w w2:=by rw [hw2];exact (Below.refl _ _).alloc (Nat.le_refl _) _
 have hE:w2.heap[w.heap.size]?=some (.cells #[.int .i64 7,.string nm,.int .u64 (num:Int),av,.int .i64 pos] 90 (0,0)):=by rw [hw2];exact heap_alloc_new w _
 have HW2:=hid hw2
 have HB2:=hid hb2
 have HXX:=hid (fun k hk=>Nat.lt_of_lt_of_le (hX k hk) hb2.size)
 have e0:=cell_of_row _ _ 0 _ _ _ hE
 have e2:=cell_of_row _ _ 2 _ _ _ hE
 obtain ⟨b,o,rfl,hb,hc⟩:=(hL.keep hb2).cells (by simp)
 obtain ⟨v0,c0,s0⟩:=hc 0 [p] rfl
 have HS0:=hid s0
 obtain ⟨A0,k0,rfl,p0,pp0,l0,r0⟩:=s0
 obtain ⟨v1,c1,s1⟩:=hc 1 [q,q2] rfl
 have HS1:=hid s1
 obtain ⟨A1,k1,rfl,p1,pp1,l1,r1⟩:=s1
 have c0:w2.cell? ⟨b,o,none⟩=_:=c0
 obtain ⟨n0,hn0⟩:∃ n,n=[p].length:=⟨_,rfl⟩
 have HR0:=hid r0.rd
 obtain ⟨n1,hn1⟩:∃ n,n=[q,q2].length:=⟨_,rfl⟩
 have HR1:=hid r1.rd
 rw [←hn0] at c0 p0 l0 HS0
 have HN0:=hid hn0
 rw [←hn1] at c1 p1 l1 HS1
 have HN1:=hid hn1
 have cu0:=c0
 rw [hw2] at cu0
 have cu1:=c1
 rw [hw2] at cu1
 have HC:=hid hc
 clear hc hL hX r0 r1
 obtain ⟨b0,o0,rfl,_,d0⟩:=Zdt HR0.out (by simp)
 obtain ⟨b1,o1,rfl,_,d1⟩:=Zdt HR1.out (by simp)
 have g0:w2.cell? ⟨b0,o0,none⟩=some (.int .i64 p):=d0 0 _ rfl
 have g1:w2.cell? ⟨b1,o1,none⟩=some (.int .i64 q):=d1 0 _ rfl
 have w1:IntKind.i64.wrap 1=1:=rfl
 have w0:IntKind.i64.wrap 0=0:=rfl
 obtain rfl:n0=1:=hn0
 obtain rfl:n1=2:=hn1
 by_cases hpq:p=q
 ·have t1:(p==q)=true:=by rw [beq_iff_eq];exact hpq
  have t2:(p != q)=false:=by unfold bne;rw [t1];rfl
  have HQ:=hid (show Zab 7 num [[p],[q,q2]]=([q2],true) from by show matP _ _=_;unfold matP;rw [if_neg (by simp;exact hpq)];rfl)
  have f1:∀ W,(Instr.sliceAt 41 (.slice (some ⟨b0,o0,none⟩) 1 k0) none (some (.int .i64 0)) none).run Tryz.prog W=.ok (.slice (cutA (some ⟨b0,o0,none⟩) 0 1 k0) 0 k0) W:=fun W=>ZaB (P := Tryz.prog) Tryz.underlying41 Za8 (some ⟨b0,o0,none⟩) (n:=1) (c:=k0) (h:=0) (by omega) W
  have f2:∀ W,(Instr.sliceAt 41 (.slice (some ⟨b1,o1,none⟩) 2 k1) (some (.int .i64 1)) none none).run Tryz.prog W=.ok (.slice (cutA (some ⟨b1,o1,none⟩) 1 1 k1) 1 (k1-1)) W:=fun W=>Za2 (P := Tryz.prog) Tryz.underlying41 Za8 (some ⟨b1,o1,none⟩) (n:=2) (c:=k1) (k:=1) (by omega) W
  have hA:=Zbl (some ⟨b0,o0,none⟩) 1 k0 (.inr ⟨b0,o0,rfl⟩)
  obtain ⟨C1,hC1⟩:∃ C1,C1=cutA (some ⟨b1,o1,none⟩) 1 1 k1:=⟨_,rfl⟩
  rw [←hC1] at f2
  rw [hA] at f1
  have RA:=hid (show Rd w2 w2.heap.size (some ⟨b0,o0,none⟩) (([]:List Int).map VI) from by
   have:=HR0.out.take 0
   simpa using this)
  have RB:=hid (show Rd w2 w2.heap.size C1 (([q2]:List Int).map VI) from by
   rw [hC1]
   have:=HR1.out.cut (k:=1) (c:=k1) (by simp;omega)
   simpa using this)
  have hnC:=ZaW RB.out
  have HX2:=hid (show ∀ k,X k→k<w2.heap.size from HXX.out)
  clear hpq d0 d1 hA hC1
  clear hw2 hb2 hE
  go_enter Tryz.func105,Tryz.ntmps105
  go_wp2_with fail
  rw [←HW2.out]
  go_quiet (fail)
  go_wp2_with fail
  obtain ⟨w3,hw3⟩:∃ w3,w3=w2.drewN nq:=⟨_,rfl⟩
  rw [←hw3]
  have S0:=hid (show w2.heap.size≤w3.drew.heap.size∧w3.drew.cell? ⟨b,o,none⟩=some (.slice (some ⟨b0,o0,none⟩) 1 k0)∧w3.drew.cell? ⟨b,o+1,none⟩=some (.slice (some ⟨b1,o1,none⟩) 2 k1)∧Below w2.heap.size w2 w3.drew from by rw [hw3];exact ⟨Nat.le_refl _,c0,c1,(Zaa (Below.refl _ _) _).drew⟩)
  have HBS:=hid hb
  clear hw3 c0 c1 cu0 cu1 e0 e2
  go_region_held3 (fun w'=>w2.heap.size≤w'.heap.size∧w'.cell? ⟨b,o,none⟩=some (.slice (some ⟨b0,o0,none⟩) 1 k0)∧w'.cell? ⟨b,o+1,none⟩=some (.slice (some ⟨b1,o1,none⟩) 2 k1)∧Below w2.heap.size w2 w')
   (first | with_reducible exact S0.out | assumption | exact ZdF HBS.out (by assumption) (by assumption) | exact Zd5 HBS.out (by assumption) _)
   (first
    | (refine Zbj rfl (.tmp 95) (.tmp 101) rfl w2.heap.size _ 0 [] 0 rfl rfl (Own.made _ _ (And.left (by assumption))) (some ⟨b0,o0,none⟩) 0 k0 w2.heap.size ([]:List Int) rfl rfl (RA.out.below (And.right (And.right (And.right (by assumption))))) (fun h=>by cases h) (by omega) (And.left (by assumption)) ?_;intro A3 k3 w4 ho4 hb4)
    | (refine Zbj rfl (.tmp 102) (.tmp 106) rfl w2.heap.size A3 k3 ([]++([]:List Int)) 0 rfl rfl ho4 C1 1 (k1-1) w2.heap.size ([q2]:List Int) rfl rfl (RB.out.below (And.right (And.right (And.right (by assumption))))) hnC (by omega) (And.left (by assumption)) ?_;intro A5 k5 w5 ho5 hb5))
  all_goals
   go_wp2
   go_ret2
   have hS:w2.heap.size≤w5.heap.size∧w5.cell? ⟨b,o,none⟩=some (.slice (some ⟨b0,o0,none⟩) 1 k0)∧w5.cell? ⟨b,o+1,none⟩=some (.slice (some ⟨b1,o1,none⟩) 2 k1)∧Below w2.heap.size w2 w5:=by assumption
   exact ⟨_,by rw [HQ.out];rfl,by rw [HQ.out];exact ShV.of_own ho5 HX2.out rfl (by simp),HB2.out.trans (hS.2.2.2.mono HB2.out.size)⟩
 ·have t1:(p==q)=false:=by rw [beq_eq_false_iff_ne];exact hpq
  have t2:(p != q)=true:=by unfold bne;rw [t1];rfl
  have HQ:=hid (show Zab 7 num [[p],[q,q2]]=([],false) from by show matP _ _=_;unfold matP;rw [if_pos (by simp;exact hpq)])
  clear hpq d0 d1
  clear hw2 hb2 hE
  go_enter Tryz.func105,Tryz.ntmps105
  go_wp2_with fail
  rw [←HW2.out]
  go_quiet (fail)
  go_wp2
  go_ret2
  exact ⟨_,by rw [HQ.out];rfl,by rw [HQ.out];exact ShV.nil _ _,Zaa HB2.out _⟩
theorem Zgd (X:Nat→Prop) (nm:ByteArray) (num:Nat) (av:Value) (pos:Int) (p p2 q:Int) (XA:Option Addr) (xc:Nat) (w:World) (hX:∀ k,X k→k<w.heap.size) (hL:ShL X w XA [[p,p2],[q]]):
  Calls Tryz.prog 105 #[.agg #[.int .i64 7,.string nm,.int .u64 (num:Int),av,.int .i64 pos],.slice XA 2 xc] w fun e w'=>∃ v,e=.returned (.tuple #[v,.bool (Zab 7 num [[p,p2],[q]]).2])∧ShV X w' v (Zab 7 num [[p,p2],[q]]).1∧Below w.heap.size w w':=by
 obtain ⟨w2,hw2⟩:∃ w2,w2=w.alloc (.cells #[.int .i64 7,.string nm,.int .u64 (num:Int),av,.int .i64 pos] 90):=⟨_,rfl⟩
 have hb2:Below w.heap.size w w2:=by rw [hw2];exact (Below.refl _ _).alloc (Nat.le_refl _) _
 have hE:w2.heap[w.heap.size]?=some (.cells #[.int .i64 7,.string nm,.int .u64 (num:Int),av,.int .i64 pos] 90 (0,0)):=by rw [hw2];exact heap_alloc_new w _
 have HW2:=hid hw2
 have HB2:=hid hb2
 have HXX:=hid (fun k hk=>Nat.lt_of_lt_of_le (hX k hk) hb2.size)
 have e0:=cell_of_row _ _ 0 _ _ _ hE
 have e2:=cell_of_row _ _ 2 _ _ _ hE
 obtain ⟨b,o,rfl,hb,hc⟩:=(hL.keep hb2).cells (by simp)
 obtain ⟨v0,c0,s0⟩:=hc 0 [p,p2] rfl
 have HS0:=hid s0
 obtain ⟨A0,k0,rfl,p0,pp0,l0,r0⟩:=s0
 obtain ⟨v1,c1,s1⟩:=hc 1 [q] rfl
 have HS1:=hid s1
 obtain ⟨A1,k1,rfl,p1,pp1,l1,r1⟩:=s1
 have c0:w2.cell? ⟨b,o,none⟩=_:=c0
 obtain ⟨n0,hn0⟩:∃ n,n=[p,p2].length:=⟨_,rfl⟩
 have HR0:=hid r0.rd
 obtain ⟨n1,hn1⟩:∃ n,n=[q].length:=⟨_,rfl⟩
 have HR1:=hid r1.rd
 rw [←hn0] at c0 p0 l0 HS0
 have HN0:=hid hn0
 rw [←hn1] at c1 p1 l1 HS1
 have HN1:=hid hn1
 have cu0:=c0
 rw [hw2] at cu0
 have cu1:=c1
 rw [hw2] at cu1
 have HC:=hid hc
 clear hc hL hX r0 r1
 obtain ⟨b0,o0,rfl,_,d0⟩:=Zdt HR0.out (by simp)
 obtain ⟨b1,o1,rfl,_,d1⟩:=Zdt HR1.out (by simp)
 have g0:w2.cell? ⟨b0,o0+1,none⟩=some (.int .i64 p2):=d0 1 _ rfl
 have g1:w2.cell? ⟨b1,o1,none⟩=some (.int .i64 q):=d1 0 _ rfl
 have w1:IntKind.i64.wrap 1=1:=rfl
 have w0:IntKind.i64.wrap 0=0:=rfl
 obtain rfl:n0=2:=hn0
 obtain rfl:n1=1:=hn1
 by_cases hpq:p2=q
 ·have t1:(p2==q)=true:=by rw [beq_iff_eq];exact hpq
  have t2:(p2 != q)=false:=by unfold bne;rw [t1];rfl
  have HQ:=hid (show Zab 7 num [[p,p2],[q]]=([p],true) from by show matP _ _=_;unfold matP;rw [if_neg (by simp;exact hpq)];rfl)
  have f1:∀ W,(Instr.sliceAt 41 (.slice (some ⟨b0,o0,none⟩) 2 k0) none (some (.int .i64 1)) none).run Tryz.prog W=.ok (.slice (cutA (some ⟨b0,o0,none⟩) 0 1 k0) 1 k0) W:=fun W=>ZaB (P := Tryz.prog) Tryz.underlying41 Za8 (some ⟨b0,o0,none⟩) (n:=2) (c:=k0) (h:=1) (by omega) W
  have f2:∀ W,(Instr.sliceAt 41 (.slice (some ⟨b1,o1,none⟩) 1 k1) (some (.int .i64 1)) none none).run Tryz.prog W=.ok (.slice (cutA (some ⟨b1,o1,none⟩) 1 1 k1) 0 (k1-1)) W:=fun W=>Za2 (P := Tryz.prog) Tryz.underlying41 Za8 (some ⟨b1,o1,none⟩) (n:=1) (c:=k1) (k:=1) (by omega) W
  have hA:=Zbl (some ⟨b0,o0,none⟩) 1 k0 (.inr ⟨b0,o0,rfl⟩)
  obtain ⟨C1,hC1⟩:∃ C1,C1=cutA (some ⟨b1,o1,none⟩) 1 1 k1:=⟨_,rfl⟩
  rw [←hC1] at f2
  rw [hA] at f1
  have RA:=hid (show Rd w2 w2.heap.size (some ⟨b0,o0,none⟩) (([p]:List Int).map VI) from by
   have:=HR0.out.take 1
   simpa using this)
  have RB:=hid (show Rd w2 w2.heap.size C1 (([]:List Int).map VI) from by
   rw [hC1]
   have:=HR1.out.cut (k:=1) (c:=k1) (by simp;omega)
   simpa using this)
  have hnC:=ZaW RB.out
  have HX2:=hid (show ∀ k,X k→k<w2.heap.size from HXX.out)
  clear hpq d0 d1 hA hC1
  clear hw2 hb2 hE
  go_enter Tryz.func105,Tryz.ntmps105
  go_wp2_with fail
  rw [←HW2.out]
  go_quiet (fail)
  go_wp2_with fail
  obtain ⟨w3,hw3⟩:∃ w3,w3=w2.drewN nq:=⟨_,rfl⟩
  rw [←hw3]
  have S0:=hid (show w2.heap.size≤w3.drew.heap.size∧w3.drew.cell? ⟨b,o,none⟩=some (.slice (some ⟨b0,o0,none⟩) 2 k0)∧w3.drew.cell? ⟨b,o+1,none⟩=some (.slice (some ⟨b1,o1,none⟩) 1 k1)∧Below w2.heap.size w2 w3.drew from by rw [hw3];exact ⟨Nat.le_refl _,c0,c1,(Zaa (Below.refl _ _) _).drew⟩)
  have HBS:=hid hb
  clear hw3 c0 c1 cu0 cu1 e0 e2
  go_region_held3 (fun w'=>w2.heap.size≤w'.heap.size∧w'.cell? ⟨b,o,none⟩=some (.slice (some ⟨b0,o0,none⟩) 2 k0)∧w'.cell? ⟨b,o+1,none⟩=some (.slice (some ⟨b1,o1,none⟩) 1 k1)∧Below w2.heap.size w2 w')
   (first | with_reducible exact S0.out | assumption | exact ZdF HBS.out (by assumption) (by assumption) | exact Zd5 HBS.out (by assumption) _)
   (first
    | (refine Zbj rfl (.tmp 95) (.tmp 101) rfl w2.heap.size _ 0 [] 0 rfl rfl (Own.made _ _ (And.left (by assumption))) (some ⟨b0,o0,none⟩) 1 k0 w2.heap.size ([p]:List Int) rfl rfl (RA.out.below (And.right (And.right (And.right (by assumption))))) (fun h=>by cases h) (by omega) (And.left (by assumption)) ?_;intro A3 k3 w4 ho4 hb4)
    | (refine Zbj rfl (.tmp 102) (.tmp 106) rfl w2.heap.size A3 k3 ([]++([p]:List Int)) 1 rfl rfl ho4 C1 0 (k1-1) w2.heap.size ([]:List Int) rfl rfl (RB.out.below (And.right (And.right (And.right (by assumption))))) hnC (by omega) (And.left (by assumption)) ?_;intro A5 k5 w5 ho5 hb5))
  all_goals
   go_wp2
   go_ret2
   have hS:w2.heap.size≤w5.heap.size∧w5.cell? ⟨b,o,none⟩=some (.slice (some ⟨b0,o0,none⟩) 2 k0)∧w5.cell? ⟨b,o+1,none⟩=some (.slice (some ⟨b1,o1,none⟩) 1 k1)∧Below w2.heap.size w2 w5:=by assumption
   exact ⟨_,by rw [HQ.out];rfl,by rw [HQ.out];exact ShV.of_own ho5 HX2.out rfl (by simp),HB2.out.trans (hS.2.2.2.mono HB2.out.size)⟩
 ·have t1:(p2==q)=false:=by rw [beq_eq_false_iff_ne];exact hpq
  have t2:(p2 != q)=true:=by unfold bne;rw [t1];rfl
  have HQ:=hid (show Zab 7 num [[p,p2],[q]]=([],false) from by show matP _ _=_;unfold matP;rw [if_pos (by simp;exact hpq)])
  clear hpq d0 d1
  clear hw2 hb2 hE
  go_enter Tryz.func105,Tryz.ntmps105
  go_wp2_with fail
  rw [←HW2.out]
  go_quiet (fail)
  go_wp2
  go_ret2
  exact ⟨_,by rw [HQ.out];rfl,by rw [HQ.out];exact ShV.nil _ _,Zaa HB2.out _⟩
theorem Zge (X:Nat→Prop) (nm:ByteArray) (num:Nat) (av:Value) (pos:Int) (p p2 q q2:Int) (XA:Option Addr) (xc:Nat) (w:World) (hX:∀ k,X k→k<w.heap.size) (hL:ShL X w XA [[p,p2],[q,q2]]):
  Calls Tryz.prog 105 #[.agg #[.int .i64 7,.string nm,.int .u64 (num:Int),av,.int .i64 pos],.slice XA 2 xc] w fun e w'=>∃ v,e=.returned (.tuple #[v,.bool (Zab 7 num [[p,p2],[q,q2]]).2])∧ShV X w' v (Zab 7 num [[p,p2],[q,q2]]).1∧Below w.heap.size w w':=by
 obtain ⟨w2,hw2⟩:∃ w2,w2=w.alloc (.cells #[.int .i64 7,.string nm,.int .u64 (num:Int),av,.int .i64 pos] 90):=⟨_,rfl⟩
 have hb2:Below w.heap.size w w2:=by rw [hw2];exact (Below.refl _ _).alloc (Nat.le_refl _) _
 have hE:w2.heap[w.heap.size]?=some (.cells #[.int .i64 7,.string nm,.int .u64 (num:Int),av,.int .i64 pos] 90 (0,0)):=by rw [hw2];exact heap_alloc_new w _
 have HW2:=hid hw2
 have HB2:=hid hb2
 have HXX:=hid (fun k hk=>Nat.lt_of_lt_of_le (hX k hk) hb2.size)
 have e0:=cell_of_row _ _ 0 _ _ _ hE
 have e2:=cell_of_row _ _ 2 _ _ _ hE
 obtain ⟨b,o,rfl,hb,hc⟩:=(hL.keep hb2).cells (by simp)
 obtain ⟨v0,c0,s0⟩:=hc 0 [p,p2] rfl
 have HS0:=hid s0
 obtain ⟨A0,k0,rfl,p0,pp0,l0,r0⟩:=s0
 obtain ⟨v1,c1,s1⟩:=hc 1 [q,q2] rfl
 have HS1:=hid s1
 obtain ⟨A1,k1,rfl,p1,pp1,l1,r1⟩:=s1
 have c0:w2.cell? ⟨b,o,none⟩=_:=c0
 obtain ⟨n0,hn0⟩:∃ n,n=[p,p2].length:=⟨_,rfl⟩
 have HR0:=hid r0.rd
 obtain ⟨n1,hn1⟩:∃ n,n=[q,q2].length:=⟨_,rfl⟩
 have HR1:=hid r1.rd
 rw [←hn0] at c0 p0 l0 HS0
 have HN0:=hid hn0
 rw [←hn1] at c1 p1 l1 HS1
 have HN1:=hid hn1
 have cu0:=c0
 rw [hw2] at cu0
 have cu1:=c1
 rw [hw2] at cu1
 have HC:=hid hc
 clear hc hL hX r0 r1
 obtain ⟨b0,o0,rfl,_,d0⟩:=Zdt HR0.out (by simp)
 obtain ⟨b1,o1,rfl,_,d1⟩:=Zdt HR1.out (by simp)
 have g0:w2.cell? ⟨b0,o0+1,none⟩=some (.int .i64 p2):=d0 1 _ rfl
 have g1:w2.cell? ⟨b1,o1,none⟩=some (.int .i64 q):=d1 0 _ rfl
 have w1:IntKind.i64.wrap 1=1:=rfl
 have w0:IntKind.i64.wrap 0=0:=rfl
 obtain rfl:n0=2:=hn0
 obtain rfl:n1=2:=hn1
 by_cases hpq:p2=q
 ·have t1:(p2==q)=true:=by rw [beq_iff_eq];exact hpq
  have t2:(p2 != q)=false:=by unfold bne;rw [t1];rfl
  have HQ:=hid (show Zab 7 num [[p,p2],[q,q2]]=([p,q2],true) from by show matP _ _=_;unfold matP;rw [if_neg (by simp;exact hpq)];rfl)
  have f1:∀ W,(Instr.sliceAt 41 (.slice (some ⟨b0,o0,none⟩) 2 k0) none (some (.int .i64 1)) none).run Tryz.prog W=.ok (.slice (cutA (some ⟨b0,o0,none⟩) 0 1 k0) 1 k0) W:=fun W=>ZaB (P := Tryz.prog) Tryz.underlying41 Za8 (some ⟨b0,o0,none⟩) (n:=2) (c:=k0) (h:=1) (by omega) W
  have f2:∀ W,(Instr.sliceAt 41 (.slice (some ⟨b1,o1,none⟩) 2 k1) (some (.int .i64 1)) none none).run Tryz.prog W=.ok (.slice (cutA (some ⟨b1,o1,none⟩) 1 1 k1) 1 (k1-1)) W:=fun W=>Za2 (P := Tryz.prog) Tryz.underlying41 Za8 (some ⟨b1,o1,none⟩) (n:=2) (c:=k1) (k:=1) (by omega) W
  have hA:=Zbl (some ⟨b0,o0,none⟩) 1 k0 (.inr ⟨b0,o0,rfl⟩)
  obtain ⟨C1,hC1⟩:∃ C1,C1=cutA (some ⟨b1,o1,none⟩) 1 1 k1:=⟨_,rfl⟩
  rw [←hC1] at f2
  rw [hA] at f1
  have RA:=hid (show Rd w2 w2.heap.size (some ⟨b0,o0,none⟩) (([p]:List Int).map VI) from by
   have:=HR0.out.take 1
   simpa using this)
  have RB:=hid (show Rd w2 w2.heap.size C1 (([q2]:List Int).map VI) from by
   rw [hC1]
   have:=HR1.out.cut (k:=1) (c:=k1) (by simp;omega)
   simpa using this)
  have hnC:=ZaW RB.out
  have HX2:=hid (show ∀ k,X k→k<w2.heap.size from HXX.out)
  clear hpq d0 d1 hA hC1
  clear hw2 hb2 hE
  go_enter Tryz.func105,Tryz.ntmps105
  go_wp2_with fail
  rw [←HW2.out]
  go_quiet (fail)
  go_wp2_with fail
  obtain ⟨w3,hw3⟩:∃ w3,w3=w2.drewN nq:=⟨_,rfl⟩
  rw [←hw3]
  have S0:=hid (show w2.heap.size≤w3.drew.heap.size∧w3.drew.cell? ⟨b,o,none⟩=some (.slice (some ⟨b0,o0,none⟩) 2 k0)∧w3.drew.cell? ⟨b,o+1,none⟩=some (.slice (some ⟨b1,o1,none⟩) 2 k1)∧Below w2.heap.size w2 w3.drew from by rw [hw3];exact ⟨Nat.le_refl _,c0,c1,(Zaa (Below.refl _ _) _).drew⟩)
  have HBS:=hid hb
  clear hw3 c0 c1 cu0 cu1 e0 e2
  go_region_held3 (fun w'=>w2.heap.size≤w'.heap.size∧w'.cell? ⟨b,o,none⟩=some (.slice (some ⟨b0,o0,none⟩) 2 k0)∧w'.cell? ⟨b,o+1,none⟩=some (.slice (some ⟨b1,o1,none⟩) 2 k1)∧Below w2.heap.size w2 w')
   (first | with_reducible exact S0.out | assumption | exact ZdF HBS.out (by assumption) (by assumption) | exact Zd5 HBS.out (by assumption) _)
   (first
    | (refine Zbj rfl (.tmp 95) (.tmp 101) rfl w2.heap.size _ 0 [] 0 rfl rfl (Own.made _ _ (And.left (by assumption))) (some ⟨b0,o0,none⟩) 1 k0 w2.heap.size ([p]:List Int) rfl rfl (RA.out.below (And.right (And.right (And.right (by assumption))))) (fun h=>by cases h) (by omega) (And.left (by assumption)) ?_;intro A3 k3 w4 ho4 hb4)
    | (refine Zbj rfl (.tmp 102) (.tmp 106) rfl w2.heap.size A3 k3 ([]++([p]:List Int)) 1 rfl rfl ho4 C1 1 (k1-1) w2.heap.size ([q2]:List Int) rfl rfl (RB.out.below (And.right (And.right (And.right (by assumption))))) hnC (by omega) (And.left (by assumption)) ?_;intro A5 k5 w5 ho5 hb5))
  all_goals
   go_wp2
   go_ret2
   have hS:w2.heap.size≤w5.heap.size∧w5.cell? ⟨b,o,none⟩=some (.slice (some ⟨b0,o0,none⟩) 2 k0)∧w5.cell? ⟨b,o+1,none⟩=some (.slice (some ⟨b1,o1,none⟩) 2 k1)∧Below w2.heap.size w2 w5:=by assumption
   exact ⟨_,by rw [HQ.out];rfl,by rw [HQ.out];exact ShV.of_own ho5 HX2.out rfl (by simp),HB2.out.trans (hS.2.2.2.mono HB2.out.size)⟩
 ·have t1:(p2==q)=false:=by rw [beq_eq_false_iff_ne];exact hpq
  have t2:(p2 != q)=true:=by unfold bne;rw [t1];rfl
  have HQ:=hid (show Zab 7 num [[p,p2],[q,q2]]=([],false) from by show matP _ _=_;unfold matP;rw [if_pos (by simp;exact hpq)])
  clear hpq d0 d1
  clear hw2 hb2 hE
  go_enter Tryz.func105,Tryz.ntmps105
  go_wp2_with fail
  rw [←HW2.out]
  go_quiet (fail)
  go_wp2
  go_ret2
  exact ⟨_,by rw [HQ.out];rfl,by rw [HQ.out];exact ShV.nil _ _,Zaa HB2.out _⟩
theorem ZeK (X:Nat→Prop) (nm:ByteArray) (num:Nat) (av:Value) (pos:Int) (x0 x1:List Int) (XA:Option Addr) (xc:Nat) (w:World) (h00:x0.length=0∨x1.length=0) (hX:∀ k,X k→k<w.heap.size) (hL:ShL X w XA [x0,x1]):
  Calls Tryz.prog 105 #[.agg #[.int .i64 7,.string nm,.int .u64 (num:Int),av,.int .i64 pos],.slice XA 2 xc] w fun e w'=>∃ v,e=.returned (.tuple #[v,.bool (Zab 7 num [x0,x1]).2])∧ShV X w' v (Zab 7 num [x0,x1]).1∧Below w.heap.size w w':=by
 obtain ⟨w2,hw2⟩:∃ w2,w2=w.alloc (.cells #[.int .i64 7,.string nm,.int .u64 (num:Int),av,.int .i64 pos] 90):=⟨_,rfl⟩
 have hb2:Below w.heap.size w w2:=by rw [hw2];exact (Below.refl _ _).alloc (Nat.le_refl _) _
 have hE:w2.heap[w.heap.size]?=some (.cells #[.int .i64 7,.string nm,.int .u64 (num:Int),av,.int .i64 pos] 90 (0,0)):=by rw [hw2];exact heap_alloc_new w _
 have HW2:=hid hw2
 have HB2:=hid hb2
 have HXX:=hid (fun k hk=>Nat.lt_of_lt_of_le (hX k hk) hb2.size)
 have e0:=cell_of_row _ _ 0 _ _ _ hE
 have e2:=cell_of_row _ _ 2 _ _ _ hE
 obtain ⟨b,o,rfl,hb,hc⟩:=(hL.keep hb2).cells (by simp)
 obtain ⟨v0,c0,s0⟩:=hc 0 x0 rfl
 have HS0:=hid s0
 obtain ⟨A0,k0,rfl,p0,pp0,l0,r0⟩:=s0
 obtain ⟨v1,c1,s1⟩:=hc 1 x1 rfl
 have HS1:=hid s1
 obtain ⟨A1,k1,rfl,p1,pp1,l1,r1⟩:=s1
 have c0:w2.cell? ⟨b,o,none⟩=_:=c0
 obtain ⟨n0,hn0⟩:∃ n,n=x0.length:=⟨_,rfl⟩
 have HR0:=hid r0.rd
 obtain ⟨n1,hn1⟩:∃ n,n=x1.length:=⟨_,rfl⟩
 have HR1:=hid r1.rd
 rw [←hn0] at c0 p0 l0 HS0
 have HN0:=hid hn0
 rw [←hn1] at c1 p1 l1 HS1
 have HN1:=hid hn1
 have cu0:=c0
 rw [hw2] at cu0
 have cu1:=c1
 rw [hw2] at cu1
 have HC:=hid hc
 clear hc hL hX r0 r1
 have HQ:=hid (show Zab 7 num [x0,x1]=([],false) from by
  show matP _ _=_
  unfold matP
  rw [if_pos (by rcases h00 with h | h;exact .inl h;exact .inr (.inl h))])
 rw [←hn0,←hn1] at h00
 by_cases h0:n0=0
 ·subst h0
  clear h00
  clear hw2 hb2 hE hn0 hn1
  go_enter Tryz.func105,Tryz.ntmps105
  go_wp2_with fail
  rw [←HW2.out]
  go_quiet (fail)
  go_wp2
  go_ret2
  exact ⟨_,by rw [HQ.out];rfl,by rw [HQ.out];exact ShV.nil _ _,Zaa HB2.out _⟩
 ·have q0:((n0:Int)==0)=false:=by rw [beq_eq_false_iff_ne];omega
  obtain rfl:n1=0:=by omega
  clear h00 h0
  clear hw2 hb2 hE hn0 hn1
  go_enter Tryz.func105,Tryz.ntmps105
  go_wp2_with fail
  rw [←HW2.out]
  go_quiet (fail)
  go_wp2
  go_ret2
  exact ⟨_,by rw [HQ.out];rfl,by rw [HQ.out];exact ShV.nil _ _,Zaa HB2.out _⟩
theorem Zkw (X:Nat→Prop) (nm:ByteArray) (num:Nat) (av:Value) (pos:Int) (x0 x1:List Int) (XA:Option Addr) (xc:Nat) (w:World) (hX:∀ k,X k→k<w.heap.size) (hL:ShL X w XA [x0,x1]):
  Calls Tryz.prog 105 #[.agg #[.int .i64 7,.string nm,.int .u64 (num:Int),av,.int .i64 pos],.slice XA 2 xc] w fun e w'=>∃ v,e=.returned (.tuple #[v,.bool (Zab 7 num [x0,x1]).2])∧ShV X w' v (Zab 7 num [x0,x1]).1∧Below w.heap.size w w':=by
 by_cases h0:x0.length=0∨x1.length=0
 ·exact ZeK X nm num av pos x0 x1 XA xc w h0 hX hL
 ·have hl:∀ (l:List Int),l∈[x0,x1]→l.length≤2:=fun l hl=>by
   obtain ⟨b,o,_,_,hc⟩:=hL.cells (by simp)
   obtain ⟨j,hj,he⟩:=List.getElem_of_mem hl
   obtain ⟨v,_,A,c,_,_,_,h2,_⟩:=hc j l (by rw [List.getElem?_eq_getElem hj,he])
   exact h2
  have l0:=hl x0 (by simp)
  have l1:=hl x1 (by simp)
  clear hl
  match x0,x1,l0,l1,h0,hL with
  | [p],[q],_,_,_,hL=>exact Zgb X nm num av pos p q XA xc w hX hL
  | [p],[q,q2],_,_,_,hL=>exact Zgc X nm num av pos p q q2 XA xc w hX hL
  | [p,p2],[q],_,_,_,hL=>exact Zgd X nm num av pos p p2 q XA xc w hX hL
  | [p,p2],[q,q2],_,_,_,hL=>exact Zge X nm num av pos p p2 q q2 XA xc w hX hL
  | [],_,_,_,h0,_=>exact absurd (.inl rfl) h0
  | _,[],_,_,h0,_=>exact absurd (.inr rfl) h0
  | _::_::_::_,_,l0,_,_,_=>simp at l0
  | _,_::_::_::_,_,l1,_,_=>simp at l1
theorem Zes (X:Nat→Prop) (k:Int) (nm:ByteArray) (num:Nat) (av:Value) (pos:Int) (xs:List (List Int)) (XA:Option Addr) (n xc:Nat) (w:World) (hn:n=xs.length) (hk2:k≠2) (hm:madeP k=(xs.length:Int)) (hX:∀ k,X k→k<w.heap.size) (hL:ShL X w XA xs):
  Calls Tryz.prog 105 #[.agg #[.int .i64 k,.string nm,.int .u64 (num:Int),av,.int .i64 pos],.slice XA n xc] w fun e w'=>∃ v,e=.returned (.tuple #[v,.bool (Zab k num xs).2])∧ShV X w' v (Zab k num xs).1∧Below w.heap.size w w':=by
 subst hn
 have h1:∀ {ys:List (List Int)},(1:Int)=(ys.length:Int)→∃ x,ys=[x]:=fun {ys} h=>by
  match ys,h with
  | [x],_=>exact ⟨x,rfl⟩
  | [],h=>simp at h
  | _::_::_,h=>simp at h;omega
 have h2:∀ {ys:List (List Int)},(2:Int)=(ys.length:Int)→∃ x y,ys=[x,y]:=fun {ys} h=>by
  match ys,h with
  | [x,y],_=>exact ⟨x,y,rfl⟩
  | [],h=>simp at h
  | [_],h=>simp at h
  | _::_::_::_,h=>simp at h;omega
 have h3:∀ {ys:List (List Int)},(3:Int)=(ys.length:Int)→∃ x y z,ys=[x,y,z]:=fun {ys} h=>by
  match ys,h with
  | [x,y,z],_=>exact ⟨x,y,z,rfl⟩
  | [],h=>simp at h
  | [_],h=>simp at h
  | [_,_],h=>simp at h
  | _::_::_::_::_,h=>simp at h;omega
 have h0:∀ {ys:List (List Int)},(0:Int)=(ys.length:Int)→ys=[]:=fun {ys} h=>by
  match ys,h with
  | [],_=>rfl
  | _::_,h=>simp at h;omega
 rcases ZbF k with rfl | rfl | rfl | rfl | rfl | rfl | rfl | rfl | rfl | rfl | rfl | rfl | rfl | rfl | ⟨q1,q2,q3,q4,q5,q6,q7,q8,q9,q10,q11,q12,q13,q14⟩
 ·obtain rfl:=h0 hm
  exact Zkp X nm num av pos XA xc w hX hL
 ·exact absurd rfl hk2
 ·obtain ⟨x0,rfl⟩:=h1 hm
  exact Zkq X nm num av pos x0 XA xc w hX hL
 ·obtain ⟨x0,x1,rfl⟩:=h2 hm
  exact Zks X nm num av pos x0 x1 XA xc w hX hL
 ·obtain ⟨x0,x1,rfl⟩:=h2 hm
  exact Zkt X nm num av pos x0 x1 XA xc w hX hL
 ·obtain ⟨x0,x1,rfl⟩:=h2 hm
  exact Zku X nm num av pos x0 x1 XA xc w hX hL
 ·obtain ⟨x0,x1,rfl⟩:=h2 hm
  exact Zkw X nm num av pos x0 x1 XA xc w hX hL
 ·obtain ⟨x0,x1,rfl⟩:=h2 hm
  exact Zkv X nm num av pos x0 x1 XA xc w hX hL
 ·obtain ⟨x0,rfl⟩:=h1 hm
  exact Zkr X nm num av pos x0 XA xc w hX hL
 ·obtain ⟨x0,rfl⟩:=h1 hm
  exact Ziv X nm num av pos x0 XA xc w hX hL
 ·obtain ⟨x0,rfl⟩:=h1 hm
  exact Ziu X nm num av pos x0 XA xc w hX hL
 ·obtain ⟨x0,rfl⟩:=h1 hm
  exact Ziw X nm num av pos x0 XA xc w hX hL
 ·obtain ⟨x0,x1,rfl⟩:=h2 hm
  exact Zix X nm num av pos x0 x1 XA xc w hX hL
 ·obtain ⟨x0,x1,x2,rfl⟩:=h3 hm
  exact Ziy X nm num av pos x0 x1 x2 XA xc w hX hL
 ·exfalso
  have:madeP k = -1:=by
   unfold madeP
   rw [if_neg (by omega),if_neg (by omega),if_neg (by omega),if_neg q14]
  omega
def Zdb (p:ByteArray × Value):List Value:=[.string p.1,p.2]
def RdNm (w:World) (A:Option Addr) (nv:List (ByteArray × Value)):Prop:=Rd w w.heap.size A (nv.flatMap Zdb)
theorem RdNm.at_ {w:World} {A:Option Addr} {nv:List (ByteArray × Value)} (h:RdNm w A nv) {i:Nat} {p:ByteArray × Value} (hi:nv[i]?=some p):∃ b o,A=some ⟨b,o,none⟩∧b<w.heap.size∧w.cell? ⟨b,o+i*2,none⟩=some (.string p.1)∧w.cell? ⟨b,o+i*2+1,none⟩=some p.2:=by
 have h0:=Zaq Zdb 2 (fun _=>rfl) nv i 0 p hi (by omega)
 have h1:=Zaq Zdb 2 (fun _=>rfl) nv i 1 p hi (by omega)
 rcases h with h | ⟨b,o,hA,hb,hc⟩
 ·rw [h] at h0
  simp [Zdb] at h0
 ·exact ⟨b,o,hA,hb,hc _ _ h0,hc _ _ h1⟩
def FindR (nv:List (ByteArray × Value)) (n:ByteArray) (r:Int):Prop:=(findV nv n=none∧r = -1)∨∃ (k:Nat) (p:ByteArray × Value),nv[k]?=some p∧findV nv n=some p.2∧r=(k:Int)
theorem Zfx (A:Option Addr) (n c:Nat) (nv:List (ByteArray × Value)) (s:ByteArray) (w:World) (hn:n=nv.length) (hl:n≤1000000) (h:RdNm w A nv):
  Calls Tryz.prog 102 #[.slice A n c,.string s] w fun e w'=>(∃ r:Int,e=.returned (.int .i64 r)∧FindR nv s r)∧w=w':=by
 have HN:=hid hn
 have H:=hid h
 clear hn h
 go_enter Tryz.func102,Tryz.ntmps102
 go_wp2
 go_loop [8] (fun iv=>∃ k:Nat,k≤n∧iv=.int .i64 k∧findV nv s=findV (nv.drop k) s) (fun iv=>n-(intOf iv).toNat)
 case atStart=>exact ⟨0,by omega,rfl,rfl⟩
 case round=>
  obtain ⟨k,hk,rfl,hr⟩:=hrel
  have HR:=hid hr
  clear hr
  by_cases hlt:k<n
  ·have ht:nv[k]?=some (nv[k]'(by rw [←HN.out];exact hlt)):=List.getElem?_eq_getElem _
   obtain ⟨d,hd⟩:∃ d,d=nv[k]'(by rw [←HN.out];exact hlt):=⟨_,rfl⟩
   rw [←hd] at ht
   obtain ⟨b,o,rfl,hbl,c0,c1⟩:=H.out.at_ ht
   have i0:(0:Int)≤(k:Int):=by omega
   have i1:(k:Int)<(n:Int):=by omega
   have hD:=hid (show findV (nv.drop k) s=if s==d.1 then some d.2 else findV (nv.drop (k+1)) s from by
    obtain ⟨hi,he⟩:=List.getElem?_eq_some_iff.1 ht
    rw [List.drop_eq_getElem_cons hi,he]
    rfl)
   have HT:=hid ht
   obtain ⟨dn,dv⟩:=d
   dsimp only at c0 c1
   clear ht hd c1 hbl
   by_cases he:dn.toList=s.toList
   ·have q1:(dn.toList==s.toList)=true:=by rw [beq_iff_eq];exact he
    have hb:(s==dn)=true:=by rw [ZbG];exact decide_eq_true he.symm
    have HX:=hid (show findV nv s=some dv from by rw [HR.out,hD.out,hb];rfl)
    clear hb he
    go_wp2
    go_ret
    exact ⟨⟨_,rfl,.inr ⟨k,_,HT.out,HX.out,rfl⟩⟩,rfl⟩
   ·have q1:(dn.toList==s.toList)=false:=by rw [beq_eq_false_iff_ne];exact he
    have hb:(s==dn)=false:=by rw [ZbG];exact decide_eq_false fun h=>he h.symm
    have HX:=hid (show findV nv s=findV (nv.drop (k+1)) s from by rw [HR.out,hD.out,hb];rfl)
    clear hb he
    go_wp2
    exact ⟨⟨k+1,by omega,rfl,HX.out⟩,by simp [intOf];omega⟩
  ·obtain rfl:n=k:=by omega
   have HX:=hid (show findV nv s=none from by rw [HR.out,HN.out,List.drop_length];rfl)
   go_wp2
   go_ret
   exact ⟨⟨-1,rfl,.inl ⟨HX.out,rfl⟩⟩,rfl⟩
def RShp (X:Nat→Prop) (w:World) (sg ne:Nat) (shapes:List (List Int)):Prop:=∃ svs:List Value,w.heap[sg]?=some (.cells svs.toArray 41 (0,0))∧svs.length=ne∧shapes.length=ne∧∀ (j:Nat) (v:Value) (l:List Int),svs[j]?=some v→shapes[j]?=some l→ShV X w v l
section
variable {X:Nat→Prop} {w w':World} {sg ne:Nat} {shapes:List (List Int)}
theorem RShp.lt (h:RShp X w sg ne shapes):sg<w.heap.size:=by
 obtain ⟨svs,s1,_⟩:=h
 exact (Array.getElem?_eq_some_iff.1 s1).1
theorem RShp.next (h:RShp X w sg ne shapes) (hb:Below w.heap.size w w'):RShp X w' sg ne shapes:=by
 have hlt:=h.lt
 obtain ⟨svs,s1,s2,s3,s4⟩:=h
 exact ⟨svs,(hb.block _ hlt).trans s1,s2,s3,fun j v l hv hl=>(s4 j v l hv hl).next hb⟩
theorem RShp.shape (h:RShp X w sg ne shapes) {a:Nat} (ha:a<ne):∃ A c n,w.cell? ⟨sg,a,none⟩=some (.slice A n c)∧n=(shapes.getD a []).length∧ShV X w (.slice A n c) (shapes.getD a []):=by
 obtain ⟨svs,s1,s2,s3,s4⟩:=h
 have h1:svs[a]?=some (svs[a]'(by omega)):=List.getElem?_eq_getElem _
 have h2:shapes[a]?=some (shapes[a]'(by omega)):=List.getElem?_eq_getElem _
 have hv:=s4 a _ _ h1 h2
 have hd:shapes.getD a []=shapes[a]'(by omega):=by simp [List.getD_eq_getElem?_getD,h2]
 have hcell:w.cell? ⟨sg,a,none⟩=some (svs[a]'(by omega)):=by
  rw [cell_of_row w sg a _ _ (0,0) s1]
  simp
 rw [hd]
 have hv':=hv
 obtain ⟨A,c,e,_⟩:=hv
 rw [e] at hcell hv'
 exact ⟨A,c,_,hcell,rfl,hv'⟩
end
def ZeL (X:Nat→Prop) (w:World) (r:Sum (List Int) Nat) (e:Ending) (w':World):Prop:=
 Below w.heap.size w w'∧match r with
 | .inr c=>e=.returned (.tuple #[.slice none 0 0,.int .i64 (c:Int)])
 | .inl l=>∃ v,e=.returned (.tuple #[v,.int .i64 0])∧ShV X w' v l
theorem Ziz (X:Nat→Prop) (sg ne:Nat) (NA:Option Addr) (nn nc:Nat) (nv:List (ByteArray × Value)) (names:Names) (sh:List (List Int)) (dk:Int) (dn:ByteArray) (du:Nat) (A':Option Addr) (al c':Nat) (da:List Int) (dp:Int) (w:World) (i:Nat)
  (hal:al=da.length) (hda:Rd w w.heap.size A' (da.map VI)) (hsm:∀ (k:Nat) (x:Int),da[k]?=some x→0≤x∧x<(i:Int)) (hi:i≤ne) (hmd:madeP dk=(al:Int)) (hnn:nn=nv.length) (hnl:nn≤1000000) (hne:ne≤100000)
  (hnm:RdNm w NA nv) (hnr:NamR X w nv names) (hS:RShp X w sg ne sh) (hX:∀ k,X k→k<w.heap.size):
  Calls Tryz.prog 104 #[.agg #[.int .i64 dk,.string dn,.int .u64 (du:Int),.slice A' al c',.int .i64 dp],.slice (some ⟨sg,0,none⟩) ne ne,.slice NA nn nc] w (ZeL X w (exprC ⟨dk,dn,du,da,dp⟩ sh names)):=by
 obtain ⟨w2,hw2⟩:∃ w2,w2=w.alloc (.cells #[.int .i64 dk,.string dn,.int .u64 (du:Int),.slice A' al c',.int .i64 dp] 90):=⟨_,rfl⟩
 have hb2:Below w.heap.size w w2:=by rw [hw2];exact (Below.refl _ _).alloc (Nat.le_refl _) _
 have hE:w2.heap[w.heap.size]?=some (.cells #[.int .i64 dk,.string dn,.int .u64 (du:Int),.slice A' al c',.int .i64 dp] 90 (0,0)):=by rw [hw2];exact heap_alloc_new w _
 have HW2:=hid hw2
 have HB2:=hid hb2
 have HE:=hid (fun W (hW:Below w2.heap.size w2 W)=>(hW.block _ (Array.getElem?_eq_some_iff.1 hE).1).trans hE)
 have HAL:=hid hal
 have HDR:=hid (hda.next hb2)
 have HSM:=hid hsm
 have HMD:=hid hmd
 have HNN:=hid hnn
 have HNR:=hid hnr
 have HNM:=hid (show RdNm w2 NA nv from hnm.next hb2)
 have HS2:=hid (hS.next hb2)
 have HX:=hid (fun k hk=>Nat.lt_of_lt_of_le (hX k hk) hb2.size)
 have HNR2:=hid (hnr.keep (KeepX.of (X:=X) hb2))
 have hal3:al≤3:=by have:=Zgg dk;omega
 have e0:=cell_of_row _ _ 0 _ _ _ hE
 have e1:=cell_of_row _ _ 1 _ _ _ hE
 have e3:=cell_of_row _ _ 3 _ _ _ hE
 clear hw2 hb2 hE hal hda hsm hmd hnn hnm hnr hS hX
 by_cases hk2:dk=2
 ·subst hk2
  have HFD:=hid (Zfx NA nn nc nv dn w2 HNN.out hnl HNM.out)
  rcases HNR.out.find dn with ⟨h1,h2⟩ | ⟨vl,l,h1,h2,h3,h4⟩
  ·have HEC:=hid (show exprC ⟨2,dn,du,da,dp⟩ sh names=.inr 140 from by
    unfold exprC
    rw [if_pos rfl]
    dsimp only
    rw [h2])
   have HF1:=hid (HFD.out.mono (fun e w' h=>show e=.returned (.int .i64 (-1))∧w2=w' from by
    obtain ⟨⟨r,rfl,hr⟩,hw⟩:=h
    rcases hr with ⟨_,rfl⟩ | ⟨k,p,_,h,_⟩
    ·exact ⟨rfl,hw⟩
    ·rw [h1] at h;cases h))
   clear h1 h2
   go_enter Tryz.func104,Tryz.ntmps104
   go_wp2_with fail
   rw [←HW2.out]
   refine HF1.out.mono ?_
   rintro e w' ⟨rfl,rfl⟩
   go_wp2
   go_ret2
   refine ⟨HB2.out,?_⟩
   rw [HEC.out]
   rfl
  ·have HEC:=hid (show exprC ⟨2,dn,du,da,dp⟩ sh names=.inl l from by
    unfold exprC
    rw [if_pos rfl]
    dsimp only
    rw [h2])
   have HF1:=hid (HFD.out.mono (fun e w' h=>show ∃ (k:Nat) (p:ByteArray × Value),e=.returned (.int .i64 (k:Int))∧nv[k]?=some p∧p.2=vl∧w2=w' from by
    obtain ⟨⟨r,rfl,hr⟩,hw⟩:=h
    rcases hr with ⟨h,_⟩ | ⟨k,p,hk,h,rfl⟩
    ·rw [h1] at h;cases h
    ·rw [h1] at h
     injection h with h
     exact ⟨k,p,rfl,hk,h.symm,hw⟩))
   have HV:=hid (h3.keep (KeepX.of (X:=X) HB2.out))
   clear h1 h2 h3 h4
   go_enter Tryz.func104,Tryz.ntmps104
   go_wp2_with fail
   rw [←HW2.out]
   refine HF1.out.mono ?_
   rintro e w' ⟨k,p,rfl,hkp,hpv,rfl⟩
   have hk:k<nn:=by rw [HNN.out];exact (List.getElem?_eq_some_iff.1 hkp).1
   obtain ⟨b,o,rfl,hbl,c0,c1⟩:=HNM.out.at_ hkp
   rw [hpv] at c1
   have k0:(0:Int)≤(k:Int):=by omega
   have k1:(k:Int)<(nn:Int):=by omega
   clear hkp c0 hbl hpv e0 e1 e3
   go_wp2
   go_ret2
   refine ⟨HB2.out,?_⟩
   rw [HEC.out]
   exact ⟨_,rfl,HV.out⟩
 ·have q2:(dk==2)=false:=by rw [beq_eq_false_iff_ne];exact hk2
  have HK2:=hid hk2
  clear hk2
  go_enter Tryz.func104,Tryz.ntmps104
  go_wp2_with fail
  rw [←HW2.out]
  go_loopw [9,30] (fun xv kv wr=>∃ (k:Nat) (A:Option Addr) (c:Nat) (vs:List Value),k≤al∧kv=.int .i64 k∧xv=.slice A k c∧vs.length=k∧Own wr w2.heap.size 41 A c vs∧Below w2.heap.size w2 wr∧∀ (j:Nat) (v:Value) (l:List Int),vs[j]?=some v→(da.map fun a=>sh.getD a.toNat [])[j]?=some l→ShV X w2 v l) (fun _ kv _=>al-(intOf kv).toNat)
  case atStart=>exact ⟨0,none,0,[],by omega,rfl,rfl,rfl,Own.nil _ _ _,Below.refl _ _,fun j v l h=>by simp at h⟩
  case round=>
   obtain ⟨k,A,c,vs,hk,rfl,rfl,hvs,hO,hb,hvl⟩:=hrel
   have HVS:=hid hvs
   have HO:=hid hO
   have HBi:=hid hb
   have HVL:=hid hvl
   have hEb:=HE.out _ hb
   have d3:=cell_of_row _ _ 3 _ _ _ hEb
   clear hvs hO hb hvl e0 e1 e3
   by_cases hlk:k<al
   ·have ht:da[k]?=some (da[k]'(by rw [←HAL.out];exact hlk)):=List.getElem?_eq_getElem _
    obtain ⟨x,hx⟩:∃ d,d=da[k]'(by rw [←HAL.out];exact hlk):=⟨_,rfl⟩
    rw [←hx] at ht
    obtain ⟨x0,x1⟩:=HSM.out k x ht
    obtain ⟨a,rfl⟩:∃ a:Nat,x=(a:Int):=⟨x.toNat,by omega⟩
    have ha:a<ne:=by omega
    obtain ⟨b2,o2,rfl,hbl2,d0⟩:=(HDR.out.next HBi.out).at_ (show (da.map VI)[k]?=some (VI (a:Int)) by rw [List.getElem?_map,ht];rfl)
    unfold VI at d0
    obtain ⟨Aj,cj,nj,sj,-,svj⟩:=HS2.out.shape ha
    have sj2:=(HBi.out.cell (p:=⟨sg,a,none⟩) HS2.out.lt).trans sj
    have k0:(0:Int)≤(k:Int):=by omega
    have k1:(k:Int)<(al:Int):=by omega
    have a0:(0:Int)≤(a:Int):=by omega
    have a1:(a:Int)<(ne:Int):=by omega
    have HNV:=hid (show ∀ (j:Nat) (v:Value) (l:List Int),(vs++[Value.slice Aj nj cj])[j]?=some v→(da.map fun a=>sh.getD a.toNat [])[j]?=some l→ShV X w2 v l from fun j v l hv hl=>by
     by_cases hj:j<k
     ·rw [List.getElem?_append_left (by rw [HVS.out];exact hj)] at hv
      exact HVL.out j v l hv hl
     ·rw [List.getElem?_append_right (by rw [HVS.out];omega),HVS.out] at hv
      have hj0:j-k=0:=by
       have:=(List.getElem?_eq_some_iff.1 hv).1
       simp at this
       omega
      have hjk:j=k:=by omega
      subst hjk
      rw [hj0] at hv
      simp at hv
      rw [List.getElem?_map,ht] at hl
      simp at hl
      rw [←hv,←hl]
      simpa using svj)
    clear ht hx hbl2 x0 x1 sj svj hEb
    go_wp2_with (at_builtin;(refine appS rfl (.tmp 33) (.tmp 42) rfl w2.heap.size A c vs k HVS.out rfl (HO.out.alloc _) (some ⟨wr.heap.size,0,none⟩) 1 (wr.heap.size+1) (.slice Aj nj cj) rfl (Rd.one _ _ _) (fun h=>by cases h) rfl (by omega) (by have:=HBi.out.size;simp;omega) ?_);intro A3 k3 w3 o3 b3;have O3:=hid o3;have B3:=hid ((HBi.out.alloc HBi.out.size _).trans b3);clear o3 b3)
    exact ⟨⟨k+1,A3,k3,_,by omega,rfl,rfl,by rw [List.length_append,HVS.out];rfl,O3.out,B3.out,HNV.out⟩,by simp [intOf];omega⟩
   ·obtain rfl:al=k:=by omega
    obtain ⟨r1,hr1⟩:∃ r1,r1=(Zab dk du (da.map fun a=>sh.getD a.toNat [])).1:=⟨_,rfl⟩
    obtain ⟨r2,hr2⟩:∃ r2,r2=(Zab dk du (da.map fun a=>sh.getD a.toNat [])).2:=⟨_,rfl⟩
    have HL:ShL X wr A (da.map fun a=>sh.getD a.toNat []):=⟨vs,by rw [List.length_map,←HAL.out];exact HVS.out,HO.out.rd,fun j v l hv hl=>(HVL.out j v l hv hl).next HBi.out⟩
    have HSH:=hid (Zes X dk dn du (.slice A' al c') dp (da.map fun a=>sh.getD a.toNat []) A al c wr (by rw [List.length_map];exact HAL.out) HK2.out (by rw [List.length_map,←HAL.out];exact HMD.out) (fun k hk=>Nat.lt_of_lt_of_le (HX.out k hk) HBi.out.size) HL)
    rw [←hr1,←hr2] at HSH
    have HEC:=hid (show exprC ⟨dk,dn,du,da,dp⟩ sh names=if r2=false∨Zad r1=0 then .inr 141 else .inl r1 from by
     unfold exprC
     rw [if_neg HK2.out,hr1,hr2])
    have e0:=cell_of_row _ _ 0 _ _ _ hEb
    have e1:=cell_of_row _ _ 1 _ _ _ hEb
    have e2:=cell_of_row _ _ 2 _ _ _ hEb
    have e4:=cell_of_row _ _ 4 _ _ _ hEb
    clear HL hr1 hr2 hk hlk hEb HVS HO HVL
    cases r2 with
    | false=>
     go_wp2_with (go_at_call 105;refine HSH.out.mono ?_;rintro e w5 ⟨v,rfl,hv,hb5⟩)
     go_ret2
     refine ⟨HB2.out.trans ((bnext HBi.out hb5).mono HB2.out.size),?_⟩
     rw [show exprC ⟨dk,dn,du,da,dp⟩ sh names=.inr 141 from (by rw [HEC.out];simp)]
     rfl
    | true=>
     obtain ⟨el,hel⟩:∃ el,el=Zad r1:=⟨_,rfl⟩
     rw [←hel] at HEC
     have HEL:=hid (show ∀ (w5:World) (Av:Option Addr) (cv:Nat),ShV X w5 (.slice Av r1.length cv) r1→Calls Tryz.prog 58 #[.slice Av r1.length cv] w5 fun e w'=>e=.returned (.int .i64 el)∧w5=w' from fun w5 Av cv h=>by
      obtain ⟨A9,c9,e9,v1,v2,v3,v4⟩:=h
      injection e9 with e9 _ e10
      subst e9 e10
      rw [hel]
      exact ZbE Av r1.length cv r1 w5 rfl (by omega) v4.rd)
     clear hel
     by_cases h0:el=0
     ·subst h0
      go_wp2_with (first
       | (go_at_call 105;refine HSH.out.mono ?_;rintro e w5 ⟨v,rfl,hv,hb5⟩;obtain ⟨Av,cv,rfl,hv2⟩:=hv)
       | (go_at_call 58;refine (HEL.out _ _ _ ⟨Av,cv,rfl,hv2⟩).mono ?_;rintro e w' ⟨rfl,rfl⟩))
      go_ret2
      refine ⟨HB2.out.trans ((bnext HBi.out hb5).mono HB2.out.size),?_⟩
      rw [show exprC ⟨dk,dn,du,da,dp⟩ sh names=.inr 141 from (by rw [HEC.out];simp)]
      rfl
     ·have q4:(el==0)=false:=by rw [beq_eq_false_iff_ne];exact h0
      have HEC2:=hid (show exprC ⟨dk,dn,du,da,dp⟩ sh names=.inl r1 from by rw [HEC.out,if_neg (by simp;exact h0)])
      clear h0
      go_wp2_with (first
       | (go_at_call 105;refine HSH.out.mono ?_;rintro e w5 ⟨v,rfl,hv,hb5⟩;obtain ⟨Av,cv,rfl,hv2⟩:=hv)
       | (go_at_call 58;refine (HEL.out _ _ _ ⟨Av,cv,rfl,hv2⟩).mono ?_;rintro e w' ⟨rfl,rfl⟩))
      go_ret2
      refine ⟨HB2.out.trans ((bnext HBi.out hb5).mono HB2.out.size),?_⟩
      rw [HEC2.out]
      exact ⟨_,rfl,Av,cv,rfl,hv2⟩
def rkX (sg:Nat) (NA:Option Addr) (k:Nat):Prop:=k=sg∨blk NA=some k
structure RkSt (w:World) (B sg ne:Nat) (NA:Option Addr) (nn nc:Nat) (names:Names) (sh:List (List Int)):Prop where
 b:B≤sg
 nm:∃ nv:List (ByteArray × Value),w.ownsRow B 199 2 (.slice NA nn nc) nn (nv.flatMap Zdb)∧nn=nv.length∧NamR (rkX sg NA) w nv names
 sp:RShp (rkX sg NA) w sg ne sh
 ns:blk NA≠some sg
theorem Zi0 {w:World} {base k n c:Nat} {T:TypeId} {A:Option Addr} {xs:List Value} (h:w.ownsRow base T k (.slice A n c) n xs):∀ g,blk A=some g→base≤g∧g<w.heap.size:=by
 intro g hg
 rcases h.2 with ⟨hv,h0⟩ | ⟨g',cap',cur,hv,hb,hh,r⟩
 ·injection hv with a
  rw [a] at hg
  cases hg
 ·injection hv with a
  rw [a] at hg
  have:g'=g:=by simpa [blk] using hg
  subst this
  exact ⟨hb,(Array.getElem?_eq_some_iff.1 hh).1⟩
theorem Zfy {w w':World} {base k n c:Nat} {T:TypeId} {A:Option Addr} {xs:List Value} (h:w.ownsRow base T k (.slice A n c) n xs) (hk:∀ g,blk A=some g→w'.heap[g]?=w.heap[g]?):w'.ownsRow base T k (.slice A n c) n xs:=by
 refine ⟨h.1,?_⟩
 rcases h.2 with hv | ⟨g',cap',cur,hv,hb,hh,r⟩
 ·exact .inl hv
 ·refine .inr ⟨g',cap',cur,hv,hb,?_,r⟩
  have:blk A=some g':=by injection hv with a;rw [a];rfl
  rw [hk g' this]
  exact hh
section
variable {w w':World} {B sg ne:Nat} {NA:Option Addr} {nn nc:Nat} {names:Names} {sh:List (List Int)}
theorem RkSt.lt (h:RkSt w B sg ne NA nn nc names sh):∀ k,rkX sg NA k→k<w.heap.size:=by
 intro k hk
 rcases hk with rfl | hk
 ·exact h.sp.lt
 ·obtain ⟨nv,h1,_⟩:=h.nm
  exact (Zi0 h1 k hk).2
theorem RkSt.ge (h:RkSt w B sg ne NA nn nc names sh):∀ k,rkX sg NA k→B≤k:=by
 intro k hk
 rcases hk with rfl | hk
 ·exact h.b
 ·obtain ⟨nv,h1,_⟩:=h.nm
  exact (Zi0 h1 k hk).1
theorem RkSt.next (h:RkSt w B sg ne NA nn nc names sh) (hb:Below w.heap.size w w'):RkSt w' B sg ne NA nn nc names sh:=by
 have hlt:=h.lt
 obtain ⟨b,⟨nv,h1,h2,h3⟩,sp,ns⟩:=h
 exact ⟨b,⟨nv,Zfy h1 (fun g hg=>hb.block g (hlt g (.inr hg))),h2,h3.keep (KeepX.of hb)⟩,sp.next hb,ns⟩
theorem RkSt.rdnm (h:RkSt w B sg ne NA nn nc names sh):∃ nv,nn=nv.length∧RdNm w NA nv∧NamR (rkX sg NA) w nv names:=by
 obtain ⟨nv,h1,h2,h3⟩:=h.nm
 refine ⟨nv,h2,?_,h3⟩
 by_cases hl:nv=[]
 ·subst hl
  exact .inl rfl
 ·obtain ⟨g,hA,hg,_,hc⟩:=Zbm h1 (by rw [h2];exact List.length_pos_iff.2 hl)
  exact .inr ⟨g,0,hA,hg,fun j v hv=>by rw [Nat.zero_add];exact hc j v hv⟩
theorem RkSt.free (h:RkSt w B sg ne NA nn nc names sh) (k:Nat):w.frozen? ⟨sg,k,none⟩=false:=by
 obtain ⟨svs,s1,_⟩:=h.sp
 simp [World.frozen?,s1]
theorem Zgf (w:World) (t:Addr) (v:Value) {k:Nat} (h:k≠t.block):(w.setCell t v).heap[k]?=w.heap[k]?:=by
 unfold World.setCell
 simp only [Array.getElem?_modify]
 rw [if_neg (fun e=>h e.symm)]
theorem RkSt.set (h:RkSt w B sg ne NA nn nc names sh) {a:Nat} (ha:a<ne) {v:Value} {l:List Int} (hv:ShV (rkX sg NA) w v l):
  RkSt (w.setCell ⟨sg,a,none⟩ v) B sg ne NA nn nc names (sh.set a l):=by
 have hkeep:KeepX (rkX sg NA) w (w.setCell ⟨sg,a,none⟩ v):=by
  refine ⟨by simp [World.setCell],fun p hp hx => ?_⟩
  unfold World.cell?
  rw [Zgf w ⟨sg,a,none⟩ v (fun e=>hx (.inl e))]
 obtain ⟨b,⟨nv,h1,h2,h3⟩,⟨svs,s1,s2,s3,s4⟩,ns⟩:=h
 refine ⟨b,⟨nv,Zfy h1 (fun g hg=>Zgf w ⟨sg,a,none⟩ v (fun e=>ns (by rw [hg];exact congrArg some e))),h2,h3.keep hkeep⟩,⟨svs.set a v,?_,by simpa using s2,by simpa using s3,?_⟩,ns⟩
 ·simp [World.setCell,Array.getElem?_modify,s1]
 ·intro j u m hu hm
  rw [List.getElem?_set] at hu hm
  by_cases e:a=j
  ·subst e
   rw [if_pos rfl,if_pos (by omega)] at hu hm
   injection hu with hu
   injection hm with hm
   subst hu hm
   exact hv.keep hkeep
  ·rw [if_neg e] at hu hm
   exact (s4 j u m hu hm).keep hkeep
theorem ShV.turn {X X':Nat→Prop} {w w':World} {v:Value} {l:List Int} (h:ShV X w v l) (ht:∀ A xs,RdX X w A xs→RdX X' w' A xs):ShV X' w' v l:=by
 obtain ⟨A,c,h1,h2,h3,h4,h5⟩:=h
 exact ⟨A,c,h1,h2,h3,h4,ht _ _ h5⟩
theorem NamR.turn {X X':Nat→Prop} {w w':World} (ht:∀ A xs,RdX X w A xs→RdX X' w' A xs):∀ {ps:List (ByteArray × Value)} {qs:Names},NamR X w ps qs→NamR X' w' ps qs
 | [],[],_=>trivial
 | p::ps,q::qs,h=>⟨h.1,h.2.1.turn ht,h.2.2.1,NamR.turn ht h.2.2.2⟩
 | [],_::_,h=>h.elim
 | _::_,[],h=>h.elim
end
theorem Zmh:(Tryz.prog.info? 199).map (fun i=>(i.zero,i.size,i.bytes))=some (some (.agg #[.string ⟨#[]⟩,.slice none 0 0]),2,40):=by kernel_rfl
theorem Zmi {X:Nat→Prop} {w:World} {v:Value} {l:List Int} (h:ShV X w v l):v.oneCell'=true:=by
 obtain ⟨A,c,rfl,_⟩:=h
 rfl
theorem wp_nm {w:World} {o:Oper} {a:Act} {K:Act→World→Prop} {Q:Exit→Act→World→Prop} (s x:Operand)
  (ho:o.op=.call { callee:=.builtin .append,args:=#[s,x],argTypes:=#[196,196] })
  (B sg ne:Nat) (NA:Option Addr) (nn nc:Nat) (names:Names) (sh:List (List Int)) (hS:RkSt w B sg ne NA nn nc names sh) (hs:a.eval s=.slice NA nn nc)
  (b:Nat) (n:ByteArray) (v:Value) (l:List Int) (hx:a.eval x=.slice (some ⟨b,0,none⟩) 1 1) (hb:w.heap[b]?=some (.cells #[.string n,v] 199 (0,0)))
  (hv:ShV (rkX sg NA) w v l) (he:Zad l≠0) (hnn:nn≤1000000) (hB:B≤w.heap.size)
  (h:∀ A' cap' w',RkSt w' B sg ne A' (nn+1) cap' (names++[(n,l)]) sh→Below B w w'→(∀ k,k<w.heap.size→blk NA≠some k→w'.heap[k]?=w.heap[k]?)→K (a.put o.dst (.slice A' (nn+1) cap')) w'):o.wp Tryz.prog a w K Q:=by
 have hlt:=hS.lt
 have hge:=hS.ge
 obtain ⟨hb0,⟨nv,h1,h2,h3⟩,⟨svs,s1,s2,s3,s4⟩,hns⟩:=hS
 have hsg:=(Array.getElem?_eq_some_iff.1 s1).1
 obtain ⟨i0,hi0,hz0,hz1,hz2⟩:=info_parts Zmh
 refine ZfX s x 196 ho B 199 i0 _ 2 40 Tryz.underlying196 hi0 hz0 hz1 (by decide) hz2 rfl NA nc nn (nv.flatMap Zdb) hs h1 b [.string n,v] rfl hx ?_ ?_ (by simp only [maxLen];omega) (by omega) hB ?_
 ·intro j u hu
  rw [cell_of_row w b j _ _ (0,0) hb]
  simpa using hu
 ·intro u hu
  simp at hu
  rcases hu with rfl | rfl
  ·rfl
  ·exact Zmi hv
 ·intro A' cap' w' r1 r2 r3
  have hblk:∀ k,k<w.heap.size→blk NA≠some k→w'.heap[k]?=w.heap[k]?:=fun k hk hne=>r2.block k hk (fun e=>hne e.symm)
  have hsgA:blk A'≠some sg:=by
   rcases r3 with r3 | r3
   ·rw [r3];exact hns
   ·rw [r3]
    intro e
    injection e with e
    omega
  have ht:∀ A xs,RdX (rkX sg NA) w A xs→RdX (rkX sg A') w' A xs:=by
   intro A xs hr
   rcases hr with hr | ⟨b',o',hA,hb',hx',hc'⟩
   ·exact .inl hr
   ·have hne:blk NA≠some b':=fun e=>hx' (.inr e)
    refine .inr ⟨b',o',hA,Nat.lt_of_lt_of_le hb' r2.size,fun hx2 => ?_,fun j u hu => ?_⟩
    ·rcases hx2 with e | e
     ·exact hx' (.inl e)
     ·rcases r3 with r3 | r3
      ·exact hne (by rw [←r3];exact e)
      ·rw [r3] at e
       injection e with e
       omega
    ·rw [←hc' j u hu]
     unfold World.cell?
     rw [hblk b' hb' hne]
  refine h A' cap' w' ⟨hb0,⟨nv++[(n,v)],?_,by rw [List.length_append,h2];rfl,NamR.append (hv.turn ht) he (h3.turn ht)⟩,⟨svs,?_,s2,s3,fun j u m hu hm=>(s4 j u m hu hm).turn ht⟩,hsgA⟩ ?_ hblk
  ·rw [List.flatMap_append]
   exact r1
  ·rw [hblk sg hsg hns]
   exact s1
  ·exact Zal (Below.refl _ _) r2 hB (fun k hk=>hge k (.inr hk))
theorem Zi1 (SA EA:Option Addr) (ns ne sc ec:Nat) (ss:List SI) (es:List EI) (w:World) (hns:ns=ss.length) (hne:ne=es.length)
  (hl:ns≤9223372036854775807∧ne≤9223372036854775807) (h1:RdSI w w.heap.size SA ss) (h3:RdEI w w.heap.size EA es):
  Calls Tryz.prog 101 #[.agg #[.slice SA ns sc,.slice EA ne ec]] w fun e w'=>e=.returned (.bool (treeP ss es))∧Below w.heap.size w w':=by
 obtain ⟨w2,hw2⟩:∃ w2,w2=w.alloc (.cells #[.slice SA ns sc,.slice EA ne ec] 26):=⟨_,rfl⟩
 have hb2:Below w.heap.size w w2:=by rw [hw2];exact (Below.refl _ _).alloc (Nat.le_refl _) _
 have hA:w2.heap[w.heap.size]?=some (.cells #[.slice SA ns sc,.slice EA ne ec] 26 (0,0)):=by
  rw [hw2]
  exact heap_alloc_new w _
 have HW2:=hid hw2
 have HB2:=hid hb2
 have HA:=hid (fun W (hW:Below w2.heap.size w2 W)=>(hW.block _ (Array.getElem?_eq_some_iff.1 hA).1).trans hA)
 have H1:=hid (h1.next hb2)
 have H3:=hid (h3.next hb2)
 have HNS:=hid hns
 have HNE:=hid hne
 obtain ⟨hl1,hl2⟩:=hl
 have z0:=cell_of_row _ _ 0 _ _ _ hA
 have z1:=cell_of_row _ _ 1 _ _ _ hA
 clear hw2 hb2 hA h1 h3 hns hne
 go_enter Tryz.func101,Tryz.ntmps101
 go_wp2
 rw [←HW2.out]
 go_wp2
 clear z0 z1
 go_loopw [11] (fun iv wr=>(∃ i:Nat,i≤ne∧iv=.int .i64 i∧exsOk 0 es=exsOk i (es.drop i))∧Below w2.heap.size w2 wr) (fun iv _=>ne-(intOf iv).toNat)
 case atStart=>exact ⟨⟨0,by omega,rfl,rfl⟩,Below.refl _ _⟩
 case round=>
  obtain ⟨⟨i,hi,rfl,hr⟩,hb⟩:=hrel
  have HR:=hid hr
  have HB:=hid hb
  have hA:=HA.out _ hb
  have z0:=cell_of_row _ _ 0 _ _ _ hA
  have z1:=cell_of_row _ _ 1 _ _ _ hA
  clear hr
  by_cases hlt:i<ne
  ·have ht:es[i]?=some (es[i]'(by rw [←HNE.out];exact hlt)):=List.getElem?_eq_getElem _
   obtain ⟨d,hd⟩:∃ d,d=es[i]'(by rw [←HNE.out];exact hlt):=⟨_,rfl⟩
   rw [←hd] at ht
   have hD:=hid (Zen ht)
   obtain ⟨b,o,rfl,hbl,c0,c1,c2,⟨A',c',c3,c3r,c3n,-⟩,c4⟩:=(H3.out.next hb).at_ ht
   have i0:(0:Int)≤(i:Int):=by omega
   have i1:(i:Int)<(ne:Int):=by omega
   have HCR:=hid c3r
   clear ht hd c3r hb hA
   go_wp2_with fail
   obtain ⟨w4,hw4⟩:∃ w4,w4=wr.alloc (.cells #[.int .i64 d.kind,.string d.name,.int .u64 (d.num:Int),.slice A' d.args.length c',.int .i64 d.pos] 90):=⟨_,rfl⟩
   rw [←hw4]
   have b4:Below wr.heap.size wr w4:=by rw [hw4];exact (Below.refl _ _).alloc (Nat.le_refl _) _
   have hE:w4.heap[wr.heap.size]?=some (.cells #[.int .i64 d.kind,.string d.name,.int .u64 (d.num:Int),.slice A' d.args.length c',.int .i64 d.pos] 90 (0,0)):=by
    rw [hw4]
    exact heap_alloc_new wr _
   have e0:=cell_of_row _ _ 0 _ _ _ hE
   have e3:=cell_of_row _ _ 3 _ _ _ hE
   have HB4:=hid (bnext HB.out b4)
   have HM:=hid (fun W=>Ziq d.kind W)
   have HDA:=hid (HCR.out.next b4)
   obtain ⟨dk,dn,du,da,dp⟩:=d
   dsimp only at *
   obtain ⟨al,hal⟩:∃ al,al=da.length:=⟨_,rfl⟩
   rw [←hal] at e3 c3n ⊢
   have HAL:=hid hal
   clear hw4 b4 hE c0 c1 c2 c3 c4 z0 z1 hbl hal
   obtain ⟨mp,hmp⟩:∃ mp,mp=madeP dk:=⟨_,rfl⟩
   rw [←hmp] at HM
   have HMP:=hid hmp
   clear hmp
   by_cases hq:mp=(al:Int)
   ·have q1:(mp==(al:Int))=true:=by rw [beq_iff_eq];exact hq
    have q2:(mp != (al:Int))=false:=by unfold bne;rw [q1];rfl
    clear hq
    go_quiet ((go_at_call 162;exact Calls.quiet_of_same (Zav (HM.out _))))
    go_wp2
    go_loop [29] (fun kv=>∃ k:Nat,k≤al∧kv=.int .i64 k∧da.all (argOk i)=(da.drop k).all (argOk i)) (fun kv=>al-(intOf kv).toNat)
    case atStart=>exact ⟨0,by omega,rfl,rfl⟩
    case round=>
     obtain ⟨k,hk,rfl,hr⟩:=hrel
     have HR2:=hid hr
     clear hr
     by_cases hlk:k<al
     ·have ht:da[k]?=some (da[k]'(by rw [←HAL.out];exact hlk)):=List.getElem?_eq_getElem _
      obtain ⟨d,hd⟩:∃ d,d=da[k]'(by rw [←HAL.out];exact hlk):=⟨_,rfl⟩
      rw [←hd] at ht
      have ht2:(da.map VI)[k]?=some (VI d):=by rw [List.getElem?_map,ht];rfl
      obtain ⟨b,o,rfl,hbl,c0⟩:=HDA.out.at_ ht2
      have c0':w4.cell? ⟨b,o+k,none⟩=some (.int .i64 d):=c0
      have k0':(0:Int)≤(k:Int):=by omega
      have k1':(k:Int)<(al:Int):=by omega
      have hD2:=hid (show (da.drop k).all (argOk i)=(argOk i d&&(da.drop (k+1)).all (argOk i)) from by
       obtain ⟨hi,he⟩:=List.getElem?_eq_some_iff.1 ht
       rw [List.drop_eq_getElem_cons hi,List.all_cons,he])
      have hF:=hid (fun (h0:argOk i d=false)=>show treeP ss es=false from by
       unfold treeP
       rw [HR.out,hD.out]
       unfold exOk
       rw [HR2.out,hD2.out,h0]
       simp)
      clear ht ht2 hd c0 hbl
      by_cases h1:d<0
      ·have q3:decide (d<0)=true:=by simp;omega
       have HX:=hid (hF.out (by unfold argOk;simp;omega))
       clear h1
       go_wp2
       go_ret
       exact ⟨by rw [HX.out];rfl,HB2.out.trans (Zaa (HB4.out.mono HB2.out.size) _)⟩
      ·have q3:decide (d<0)=false:=by simp;omega
       by_cases h2:(i:Int)≤d
       ·have q4:decide ((i:Int)≤d)=true:=by simp;omega
        have HX:=hid (hF.out (by unfold argOk;simp;omega))
        clear h1 h2
        go_wp2
        go_ret
        exact ⟨by rw [HX.out];rfl,HB2.out.trans (Zaa (HB4.out.mono HB2.out.size) _)⟩
       ·have q4:decide ((i:Int)≤d)=false:=by simp;omega
        have HO:=hid (show argOk i d=true from by unfold argOk;simp;omega)
        clear h1 h2
        go_wp2
        exact ⟨⟨k+1,by omega,rfl,by rw [HR2.out,hD2.out,HO.out];rfl⟩,by simp [intOf];omega⟩
     ·obtain rfl:al=k:=by omega
      have HX:=hid (show exsOk 0 es=exsOk (i+1) (es.drop (i+1)) from by
       rw [HR.out,hD.out]
       unfold exOk
       rw [show ((madeP dk==((da.length:Nat):Int)):Bool)=true from by rw [←HMP.out,←HAL.out];exact q1,HR2.out,HAL.out,List.drop_length]
       rfl)
      clear hk
      go_wp2
      exact ⟨⟨⟨i+1,by omega,rfl,HX.out⟩,Zaa HB4.out _⟩,by simp [intOf];omega⟩
   ·have q1:(mp==(al:Int))=false:=by rw [beq_eq_false_iff_ne];exact hq
    have q2:(mp != (al:Int))=true:=by unfold bne;rw [q1];rfl
    have HX:=hid (show treeP ss es=false from by
     unfold treeP
     rw [HR.out,hD.out]
     unfold exOk
     rw [show ((madeP dk==((da.length:Nat):Int)):Bool)=false from by rw [←HMP.out,←HAL.out];exact q1]
     simp)
    clear hq
    go_quiet ((go_at_call 162;exact Calls.quiet_of_same (Zav (HM.out _))))
    go_wp2
    go_ret
    exact ⟨by rw [HX.out];rfl,HB2.out.trans (Zaa (HB4.out.mono HB2.out.size) _)⟩
  ·obtain rfl:ne=i:=by omega
   have HX:=hid (show treeP ss es=ss.all (smOk ne) from by
    unfold treeP
    rw [HR.out,HNE.out,List.drop_length]
    rfl)
   clear hb hA
   go_wp2
   clear z0 z1
   go_loopw [52] (fun iv wr=>(∃ k:Nat,k≤ns∧iv=.int .i64 k∧ss.all (smOk ne)=(ss.drop k).all (smOk ne))∧Below w2.heap.size w2 wr) (fun iv _=>ns-(intOf iv).toNat)
   case atStart=>exact ⟨⟨0,by omega,rfl,rfl⟩,HB.out⟩
   case round=>
    clear HB HR
    obtain ⟨⟨k,hk,rfl,hr⟩,hb⟩:=hrel
    have HR:=hid hr
    have HB:=hid hb
    have hA:=HA.out _ hb
    have z0:=cell_of_row _ _ 0 _ _ _ hA
    have z1:=cell_of_row _ _ 1 _ _ _ hA
    clear hr
    by_cases hlt:k<ns
    ·have ht:ss[k]?=some (ss[k]'(by rw [←HNS.out];exact hlt)):=List.getElem?_eq_getElem _
     obtain ⟨d,hd⟩:∃ d,d=ss[k]'(by rw [←HNS.out];exact hlt):=⟨_,rfl⟩
     rw [←hd] at ht
     have hD:=hid (show (ss.drop k).all (smOk ne)=(smOk ne d&&(ss.drop (k+1)).all (smOk ne)) from by
      obtain ⟨hi,he⟩:=List.getElem?_eq_some_iff.1 ht
      rw [List.drop_eq_getElem_cons hi,List.all_cons,he])
     obtain ⟨b,o,rfl,hbl,c0,c1,c2,⟨A',c',c3,c3r,c3n,-⟩,c4,c5⟩:=(H1.out.next hb).at_ ht
     have i0:(0:Int)≤(k:Int):=by omega
     have i1:(k:Int)<(ns:Int):=by omega
     have hws:w.heap.size<wr.heap.size:=by have:=(Array.getElem?_eq_some_iff.1 hA).1;omega
     obtain ⟨dk,dp,dn,dsh,de,dq⟩:=d
     dsimp only at *
     obtain ⟨sl,hsl⟩:∃ sl,sl=dsh.length:=⟨_,rfl⟩
     rw [←hsl] at c3
     clear ht hd c3r hb hA hbl c3n
     have HBN:∀ o:Obj,Below w2.heap.size w2 (wr.alloc o):=fun o=>bnext HB.out ((Below.refl _ _).alloc (Nat.le_refl _) o)
     have HBN:=hid HBN
     have hF:=hid (fun (h0:smOk ne ⟨dk,dp,dn,dsh,de,dq⟩=false)=>show treeP ss es=false from by
      rw [HX.out,HR.out,hD.out,h0];rfl)
     have hT:=hid (fun (h0:smOk ne ⟨dk,dp,dn,dsh,de,dq⟩=true)=>show ss.all (smOk ne)=(ss.drop (k+1)).all (smOk ne) from by
      rw [HR.out,hD.out,h0];rfl)
     rcases (show dk<1∨dk=1∨dk=2∨dk=3∨3<dk by omega) with h1 | rfl | rfl | rfl | h1
     ·have q1:decide (dk<1)=true:=by simp;omega
      have HZ:=hid (hF.out (by unfold smOk;simp;omega))
      clear h1
      go_wp2
      go_ret
      exact ⟨by rw [HZ.out];rfl,HB2.out.trans ((HBN.out _).mono HB2.out.size)⟩
     ·have HZ:=hid (hT.out (by unfold smOk;simp))
      go_wp2
      exact ⟨⟨⟨k+1,by omega,rfl,HZ.out⟩,HBN.out _⟩,by simp [intOf];omega⟩
     ·by_cases h1:de<0
      ·have q3:decide (de<0)=true:=by simp;omega
       have HZ:=hid (hF.out (by unfold smOk;simp;omega))
       clear h1
       go_wp2
       go_ret
       exact ⟨by rw [HZ.out];rfl,HB2.out.trans ((HBN.out _).mono HB2.out.size)⟩
      ·have q3:decide (de<0)=false:=by simp;omega
       by_cases h2:(ne:Int)≤de
       ·have q4:decide ((ne:Int)≤de)=true:=by simp;omega
        have HZ:=hid (hF.out (by unfold smOk;simp;omega))
        clear h1 h2
        go_wp2
        go_ret
        exact ⟨by rw [HZ.out];rfl,HB2.out.trans ((HBN.out _).mono HB2.out.size)⟩
       ·have q4:decide ((ne:Int)≤de)=false:=by simp;omega
        have HZ:=hid (hT.out (by unfold smOk;simp;omega))
        clear h1 h2
        go_wp2
        exact ⟨⟨⟨k+1,by omega,rfl,HZ.out⟩,HBN.out _⟩,by simp [intOf];omega⟩
     ·have HZ:=hid (hT.out (by unfold smOk;simp))
      go_wp2
      exact ⟨⟨⟨k+1,by omega,rfl,HZ.out⟩,HBN.out _⟩,by simp [intOf];omega⟩
     ·have q1:decide (dk<1)=false:=by simp;omega
      have q2:decide (3<dk)=true:=by simp;omega
      have HZ:=hid (hF.out (by unfold smOk;simp;omega))
      clear h1
      go_wp2
      go_ret
      exact ⟨by rw [HZ.out];rfl,HB2.out.trans ((HBN.out _).mono HB2.out.size)⟩
    ·obtain rfl:ns=k:=by omega
     have HZ:=hid (show treeP ss es=true from by rw [HX.out,HR.out,HNS.out,List.drop_length];rfl)
     clear hb hA
     go_wp2
     go_ret
     exact ⟨by rw [HZ.out];rfl,HB2.out.trans (HB.out.mono HB2.out.size)⟩
def Zfz (w:World) (ne:Nat) (r:Sum (List (List Int)) (Nat × Int)) (e:Ending) (w':World):Prop:=
 Below w.heap.size w w' ∧
 match r with
 | .inl shapes=>∃ q X,e=.returned (.tuple #[.slice (some ⟨q,0,none⟩) ne ne,.int .i64 0,.int .i64 0])∧RShp X w' q ne shapes∧w.heap.size≤q
 | .inr (c,p)=>e=.returned (.tuple #[.slice none 0 0,.int .i64 (c:Int),.int .i64 p])
theorem Zmj {w:World} {ops:Array Oper} {rest:List Oper} {o:Oper} {a:Act} {Q:Exit→Act→World→Prop} (hgd:o.guard=none) (s x:Operand)
  (ho:o.op=.call { callee:=.builtin .append,args:=#[s,x],argTypes:=#[196,196] })
  (B sg ne:Nat) (NA:Option Addr) (nn nc:Nat) (names:Names) (sh:List (List Int)) (hS:RkSt w B sg ne NA nn nc names sh) (hs:a.eval s=.slice NA nn nc)
  (b:Nat) (n:ByteArray) (v:Value) (l:List Int) (hx:a.eval x=.slice (some ⟨b,0,none⟩) 1 1) (hb:w.heap[b]?=some (.cells #[.string n,v] 199 (0,0)))
  (hv:ShV (rkX sg NA) w v l) (he:Zad l≠0) (hnn:nn≤1000000) (hB:B≤w.heap.size)
  (h:∀ A' cap' w',RkSt w' B sg ne A' (nn+1) cap' (names++[(n,l)]) sh→Below B w w'→(∀ k,k<w.heap.size→blk NA≠some k→w'.heap[k]?=w.heap[k]?)→wpList Tryz.prog ops Q rest (a.put o.dst (.slice A' (nn+1) cap')) w'):wpList Tryz.prog ops Q (o::rest) a w:=
 wpList_plain hgd fun _ hK=>wp_nm s x ho B sg ne NA nn nc names sh hS hs b n v l hx hb hv he hnn hB fun A' cap' w' h1 h2 h3=>hK _ _ (h A' cap' w' h1 h2 h3)
theorem Zmk {w:World} {ops:Array Oper} {o:Oper} {a:Act} {K:Act→World→Prop} {Q:Exit→Act→World→Prop} {E:Prop} (hgd:o.guard=none) (s x:Operand)
  (ho:o.op=.call { callee:=.builtin .append,args:=#[s,x],argTypes:=#[196,196] })
  (B sg ne:Nat) (NA:Option Addr) (nn nc:Nat) (names:Names) (sh:List (List Int)) (hS:RkSt w B sg ne NA nn nc names sh) (hs:a.eval s=.slice NA nn nc)
  (b:Nat) (n:ByteArray) (v:Value) (l:List Int) (hx:a.eval x=.slice (some ⟨b,0,none⟩) 1 1) (hb:w.heap[b]?=some (.cells #[.string n,v] 199 (0,0)))
  (hv:ShV (rkX sg NA) w v l) (he:Zad l≠0) (hnn:nn≤1000000) (hB:B≤w.heap.size)
  (h:∀ A' cap' w',RkSt w' B sg ne A' (nn+1) cap' (names++[(n,l)]) sh→Below B w w'→(∀ k,k<w.heap.size→blk NA≠some k→w'.heap[k]?=w.heap[k]?)→K (a.put o.dst (.slice A' (nn+1) cap')) w'):if Region.wanted o (yielded ops a.tmps)=true then Oper.wp Tryz.prog o a w K Q else E:=by
 have hw:Region.wanted o (yielded ops a.tmps)=true:=by simp [Region.wanted,hgd]
 rw [if_pos hw]
 exact wp_nm s x ho B sg ne NA nn nc names sh hS hs b n v l hx hb hv he hnn hB h
theorem Zh1 {X:Nat→Prop} {w:World} {A:Option Addr} {n c:Nat} {nv:List (ByteArray × Value)} {names:Names} (s:ByteArray) (hn:n=nv.length) (hl:n≤1000000) (h:RdNm w A nv) (hr:NamR X w nv names):
  Calls Tryz.prog 102 #[.slice A n c,.string s] w fun e w'=>(∃ r:Int,e=.returned (.int .i64 r)∧decide ((0:Int)≤r)=(findN names s).isSome∧decide (r<(0:Int))=(findN names s).isNone)∧w=w':=by
 refine (Zfx A n c nv s w hn hl h).mono ?_
 rintro e w' ⟨⟨r,rfl,hf⟩,hw⟩
 refine ⟨⟨r,rfl,?_⟩,hw⟩
 rcases hr.find s with ⟨h1,h2⟩ | ⟨v,l,h1,h2,_⟩
 ·rcases hf with ⟨_,rfl⟩ | ⟨k,p,_,h3,_⟩
  ·rw [h2];exact ⟨rfl,rfl⟩
  ·rw [h1] at h3;cases h3
 ·rcases hf with ⟨h3,_⟩ | ⟨k,p,_,_,rfl⟩
  ·rw [h1] at h3;cases h3
  ·rw [h2]
   constructor <;> simp <;> omega
theorem rknew {w2:World} {ne:Nat} {es:List EI} (hne:ne=es.length) {W:World} (hW:W=w2.alloc (.cells (List.replicate ne (Value.slice none 0 0)).toArray 41)):RkSt W w2.heap.size w2.heap.size ne none 0 0 [] (es.map fun _=>[]):=by
 have h6:W.heap[w2.heap.size]?=some (.cells (List.replicate ne (Value.slice none 0 0)).toArray 41 (0,0)):=by rw [hW];exact heap_alloc_new w2 _
 refine ⟨Nat.le_refl _,⟨[],World.ownsRow_nil W w2.heap.size _ 2,rfl,trivial⟩,⟨_,h6,by simp,by simp [hne],fun j v l hv hl => ?_⟩,by simp [blk]⟩
 have hv':v=.slice none 0 0:=(List.eq_of_mem_replicate (List.mem_of_getElem? hv))
 rw [List.getElem?_map,Option.map_eq_some_iff] at hl
 obtain ⟨_,_,rfl⟩:=hl
 rw [hv']
 exact ShV.nil _ _
theorem Zet {e:EI} {sh:List (List Int)} {names:Names} {c:Nat} (h:exprC e sh names=.inr c):c=140∨c=141:=by
 unfold exprC at h
 split at h
 ·split at h
  ·injection h with h
   exact .inl h.symm
  ·cases h
 ·dsimp only at h
  split at h
  ·injection h with h
   exact .inr h.symm
  ·cases h
theorem Zkx {w3 w w':World} {eb sg root B:Nat} {NA:Option Addr} {u1 u2 u3:Value} (he:eb<w.heap.size) (hs:sg<w.heap.size) (hne:blk NA≠some eb) (hns:blk NA≠some sg)
  (h:B≤w.heap.size∧w.cell? ⟨eb,2,none⟩=some u1∧w.cell? ⟨eb,4,none⟩=some u2∧w.cell? ⟨sg,root,none⟩=some u3∧Below B w3 w) (hb:Below B w w') (hk:∀ k,k<w.heap.size→blk NA≠some k→w'.heap[k]?=w.heap[k]?):
  B≤w'.heap.size∧w'.cell? ⟨eb,2,none⟩=some u1∧w'.cell? ⟨eb,4,none⟩=some u2∧w'.cell? ⟨sg,root,none⟩=some u3∧Below B w3 w':=by
 have e:∀ o,w'.cell? ⟨eb,o,none⟩=w.cell? ⟨eb,o,none⟩:=fun o=>by unfold World.cell?;rw [hk eb he hne]
 have s:∀ o,w'.cell? ⟨sg,o,none⟩=w.cell? ⟨sg,o,none⟩:=fun o=>by unfold World.cell?;rw [hk sg hs hns]
 exact ⟨Nat.le_trans h.1 hb.size,(e 2).trans h.2.1,(e 4).trans h.2.2.1,(s root).trans h.2.2.2.1,h.2.2.2.2.trans hb⟩
theorem Zf0 {w3 w:World} {eb sg root B:Nat} {u1 u2 u3:Value} (he:eb<w.heap.size) (hs:sg<w.heap.size)
  (h:B≤w.heap.size∧w.cell? ⟨eb,2,none⟩=some u1∧w.cell? ⟨eb,4,none⟩=some u2∧w.cell? ⟨sg,root,none⟩=some u3∧Below B w3 w) (o:Obj):
  B≤(w.alloc o).heap.size∧(w.alloc o).cell? ⟨eb,2,none⟩=some u1∧(w.alloc o).cell? ⟨eb,4,none⟩=some u2∧(w.alloc o).cell? ⟨sg,root,none⟩=some u3∧Below B w3 (w.alloc o):=
 ⟨by simp;omega,(World.cell?_alloc_lt w o ⟨eb,2,none⟩ he).trans h.2.1,(World.cell?_alloc_lt w o ⟨eb,4,none⟩ he).trans h.2.2.1,(World.cell?_alloc_lt w o ⟨sg,root,none⟩ hs).trans h.2.2.2.1,h.2.2.2.2.alloc h.1 o⟩
theorem ZeM {w3 w:World} {eb sg root B:Nat} {u1 u2 u3:Value} (h:B≤w.heap.size∧w.cell? ⟨eb,2,none⟩=some u1∧w.cell? ⟨eb,4,none⟩=some u2∧w.cell? ⟨sg,root,none⟩=some u3∧Below B w3 w):
  B≤w.drew.heap.size∧w.drew.cell? ⟨eb,2,none⟩=some u1∧w.drew.cell? ⟨eb,4,none⟩=some u2∧w.drew.cell? ⟨sg,root,none⟩=some u3∧Below B w3 w.drew:=⟨h.1,h.2.1,h.2.2.1,h.2.2.2.1,h.2.2.2.2.drew⟩
theorem Zh2 (SA EA:Option Addr) (ns ne sc ec:Nat) (ss:List SI) (es:List EI) (w:World) (hns:ns=ss.length) (hne:ne=es.length) (hl1:ns≤100000) (hl2:ne≤100000)
  (h1:RdSI w w.heap.size SA ss) (h3:RdEI w w.heap.size EA es):
  Calls Tryz.prog 59 #[.agg #[.slice SA ns sc,.slice EA ne ec]] w (Zfz w ne (ZaA ss es)):=by
 obtain ⟨w2,hw2⟩:∃ w2,w2=w.alloc (.cells #[.slice SA ns sc,.slice EA ne ec] 26):=⟨_,rfl⟩
 have hb2:Below w.heap.size w w2:=by rw [hw2];exact (Below.refl _ _).alloc (Nat.le_refl _) _
 have hA:w2.heap[w.heap.size]?=some (.cells #[.slice SA ns sc,.slice EA ne ec] 26 (0,0)):=by rw [hw2];exact heap_alloc_new w _
 have HW2:=hid hw2
 have HB2:=hid hb2
 have HNS:=hid hns
 have HNE:=hid hne
 have HT:=hid (Zi1 SA EA ns ne sc ec ss es w2 hns hne ⟨by omega,by omega⟩ (h1.next hb2) (h3.next hb2))
 have HAW:=hid (fun W (hW:Below w2.heap.size w2 W)=>(hW.block _ (Array.getElem?_eq_some_iff.1 hA).1).trans hA)
 have H1:=hid (h1.next hb2)
 have H3:=hid (h3.next hb2)
 clear hw2 hb2 hA hns hne h1 h3
 cases htr:treeP ss es with
 | false=>
  rw [htr] at HT
  have HC:=hid (show ZaA ss es=.inr (130,0) from by unfold ZaA;rw [htr];rfl)
  clear htr
  go_enter Tryz.func59,Tryz.ntmps59
  go_wp2_with fail
  rw [←HW2.out]
  refine HT.out.mono ?_
  rintro e w3 ⟨rfl,hb3⟩
  have HB3:=hid (bnext HB2.out hb3)
  clear hb3
  go_wp2
  go_ret3
  refine ⟨HB3.out,?_⟩
  rw [HC.out]
  rfl
 | true=>
  rw [htr] at HT
  have HTR:=hid htr
  have HEX:=hid (show exsOk 0 es=true from by unfold treeP at htr;rw [Bool.and_eq_true] at htr;exact htr.1)
  have HSX:=hid (show ∀ s∈ss,smOk ne s=true from by unfold treeP at htr;rw [Bool.and_eq_true,List.all_eq_true] at htr;rw [HNE.out];exact htr.2)
  have HCC:=hid (show ZaA ss es=Zaj es ss [] (es.map fun _=>[]) 0 from by unfold ZaA;rw [htr];rfl)
  clear htr
  go_enter Tryz.func59,Tryz.ntmps59
  go_wp2_with fail
  rw [←HW2.out]
  refine HT.out.mono ?_
  rintro e w3 ⟨rfl,hb3⟩
  have hA3:=HAW.out _ hb3
  have z0:=cell_of_row _ _ 0 _ _ _ hA3
  have z1:=cell_of_row _ _ 1 _ _ _ hA3
  have HB3:=hid (bnext HB2.out hb3)
  have hlt3:w.heap.size<w3.heap.size:=(Array.getElem?_eq_some_iff.1 hA3).1
  obtain ⟨W6,hW6⟩:∃ W6,W6=w3.alloc (.cells (List.replicate ne (Value.slice none 0 0)).toArray 41):=⟨_,rfl⟩
  have hmk:(Instr.makeSlice 51 (.int .i64 (ne:Int)) (.int .i64 (ne:Int))).run Tryz.prog w3=.ok (.slice (some ⟨w3.heap.size,0,none⟩) ne ne) W6:=by
   rw [hW6];exact Zc1 ne (by omega) w3 (ne:Int) rfl
  have HS6:=hid (rknew HNE.out hW6)
  have hb6:Below w3.heap.size w3 W6:=by rw [hW6];exact (Below.refl _ _).alloc (Nat.le_refl _) _
  have HB6:=hid hb6
  have hA6:=(hb6.block _ hlt3).trans hA3
  have y0:=cell_of_row _ _ 0 _ _ _ hA6
  have HA3:=hid hA3
  have HL3:=hid hlt3
  have H13:=hid (H1.out.next hb3)
  have H33:=hid (H3.out.next hb3)
  clear hb3 hA3 hW6 hb6 hA6 hlt3
  go_wp2
  clear z0 z1 y0 hmk
  obtain ⟨sg,hsg⟩:∃ sg,sg=w3.heap.size:=⟨_,rfl⟩
  have HSG:=hid hsg
  have HS7:=hid (show RkSt W6 w3.heap.size sg ne none 0 0 [] (es.map fun _=>[]) from by rw [hsg];exact HS6.out)
  rw [←hsg]
  clear hsg HS6
  go_loopw [6,7,24] (fun v6 v7 v24 wr=>∃ (k inp:Nat) (NA:Option Addr) (nn nc:Nat) (names:Names) (sh:List (List Int)),k≤ns∧v24=.int .i64 k∧v6=.slice NA nn nc∧v7=.int .i64 inp∧inp≤k∧nn≤k∧Zaj es ss [] (es.map fun _=>[]) 0=Zaj es (ss.drop k) names sh inp∧RkSt wr w3.heap.size sg ne NA nn nc names sh∧Below w3.heap.size w3 wr) (fun _ _ v24 _=>ns-(intOf v24).toNat)
  case atStart=>exact ⟨0,0,none,0,0,[],_,by omega,rfl,rfl,rfl,by omega,by omega,rfl,HS7.out,HB6.out⟩
  case round=>
   clear HS7 HB6
   obtain ⟨k,inp,NA,nn,nc,names,sh,hk,rfl,rfl,rfl,hinp,hnnk,hR,hS,hB⟩:=hrel
   have HR:=hid hR
   have HS:=hid hS
   have HB:=hid hB
   have HTC:=hid (fun W (hW:Below w3.heap.size w3 W)=>(hW.block _ HL3.out).trans HA3.out)
   have hAr:=HTC.out _ hB
   have z0:=cell_of_row _ _ 0 _ _ _ hAr
   have z1:=cell_of_row _ _ 1 _ _ _ hAr
   have r1:=H13.out.below hB
   clear hR hS hB hAr
   by_cases hlt:k<ns
   ·have ht:ss[k]?=some (ss[k]'(by rw [←HNS.out];exact hlt)):=List.getElem?_eq_getElem _
    obtain ⟨d,hd⟩:∃ d,d=ss[k]'(by rw [←HNS.out];exact hlt):=⟨_,rfl⟩
    rw [←hd] at ht
    have hsm:=HSX.out d (List.mem_of_getElem? ht)
    have HX:=hid (show Zaj es ss [] (es.map fun _=>[]) 0=Zaj es (d::ss.drop (k+1)) names sh inp from by
     rw [HR.out]
     obtain ⟨hi,he⟩:=List.getElem?_eq_some_iff.1 ht
     rw [List.drop_eq_getElem_cons hi,he])
    obtain ⟨b,o,rfl,hbl,c0,c1,c2,⟨A',c',c3,c3r,c3n,c3c,c3d⟩,c4,c5⟩:=r1.at_ ht
    have i0:(0:Int)≤(k:Int):=by omega
    have i1:(k:Int)<(ns:Int):=by omega
    obtain ⟨dk,dp,dn,dsh,de,dq⟩:=d
    dsimp only at c0 c1 c2 c3 c3r c3n c3c c4 c5
    obtain ⟨sl,hsl⟩:∃ sl,sl=dsh.length:=⟨_,rfl⟩
    rw [←hsl] at c3 c3n c3c
    obtain ⟨w4,hw4⟩:∃ w4,w4=wr.alloc (.cells #[.int .i64 dk,.int .i64 dp,.string dn,.slice A' sl c',.int .i64 de,.int .i64 dq] 93):=⟨_,rfl⟩
    have b4:Below wr.heap.size wr w4:=by rw [hw4];exact (Below.refl _ _).alloc (Nat.le_refl _) _
    have hE:w4.heap[wr.heap.size]?=some (.cells #[.int .i64 dk,.int .i64 dp,.string dn,.slice A' sl c',.int .i64 de,.int .i64 dq] 93 (0,0)):=by rw [hw4];exact heap_alloc_new wr _
    have HW4:=hid hw4
    have HS4:=hid (HS.out.next b4)
    have HB4:=hid (bnext HB.out b4)
    have hge3:=HB.out.size
    have HRS:=hid (show RdX (rkX sg NA) w4 A' (dsh.map VI) from by
     rcases c3r with h | ⟨b3,o3,e3,h3,h3c⟩
     ·exact .inl h
     ·exact .inr ⟨b3,o3,e3,Nat.lt_of_lt_of_le (Nat.lt_of_lt_of_le h3 hge3) b4.size,fun hx=>absurd (HS.out.ge _ hx) (by omega),fun j v hv=>(b4.cell (p:=⟨b3,_,none⟩) (Nat.lt_of_lt_of_le h3 hge3)).trans (h3c j v hv)⟩)
    obtain ⟨eb,heb⟩:∃ eb,eb=wr.heap.size:=⟨_,rfl⟩
    rw [←heb] at hE
    have HEB:=hid heb
    have hebx:¬ rkX sg NA eb:=fun hx=>by have:=HS.out.lt _ hx;omega
    have heb4:eb<w4.heap.size:=(Array.getElem?_eq_some_iff.1 hE).1
    have HEBX:=hid (And.intro hebx heb4)
    have HKE:=hid (show ∀ (W:World),W.heap[eb]?=w4.heap[eb]?→W.cell? ⟨eb,0,none⟩=some (.int .i64 dk)∧W.cell? ⟨eb,1,none⟩=some (.int .i64 dp)∧W.cell? ⟨eb,2,none⟩=some (.string dn)∧W.cell? ⟨eb,3,none⟩=some (.slice A' sl c')∧W.cell? ⟨eb,4,none⟩=some (.int .i64 de)∧W.cell? ⟨eb,5,none⟩=some (.int .i64 dq) from fun W h=>
     ⟨cell_of_row _ _ 0 _ _ _ (h.trans hE),cell_of_row _ _ 1 _ _ _ (h.trans hE),cell_of_row _ _ 2 _ _ _ (h.trans hE),cell_of_row _ _ 3 _ _ _ (h.trans hE),cell_of_row _ _ 4 _ _ _ (h.trans hE),cell_of_row _ _ 5 _ _ _ (h.trans hE)⟩)
    have HSL:=hid hsl
    have HERR:=hid (show ∀ (c:Nat) (p:Int) (w6:World),Zaj es ss [] (es.map fun _=>[]) 0=.inr (c,p)→Below w3.heap.size w4 w6→Zfz w ne (ZaA ss es) (.returned (.tuple #[.slice none 0 0,.int .i64 (c:Int),.int .i64 p])) w6 from fun c p w6 h hb6=>by
     refine ⟨HB3.out.trans ((HB4.out.trans hb6).mono HB3.out.size),?_⟩
     rw [HCC.out,h])
    have hBw4:=hid HB4.out.size
    clear ht hd b4 hE heb hsl hw4 hebx heb4 hbl hge3
    have hdk:dk=1∨dk=3∨dk=2∧0≤de∧de<(ne:Int):=by
     unfold smOk at hsm
     simp only [Bool.or_eq_true,Bool.and_eq_true,beq_iff_eq,decide_eq_true_eq] at hsm
     rcases hsm with (h | h) | h
     ·exact .inl h
     ·exact .inr (.inl h)
     ·exact .inr (.inr ⟨h.1.1,h.1.2,h.2⟩)
    clear hsm
    obtain ⟨tk,htk⟩:∃ tk,tk=ZaC names dn:=⟨_,rfl⟩
    have HTK:=hid htk
    obtain ⟨nv,n1,n2,n3⟩:=HS4.out.rdnm
    have HFB:=hid (Zh1 (c:=nc) dn n1 (by omega) n2 n3)
    clear n1 n2 n3
    go_upto_region 10 with (fail)
    rw [←HW4.out,←HEB.out]
    obtain ⟨f0,f1,f2,f3,f4,f5⟩:=HKE.out w4 rfl
    clear c0 c1 c2 c3 c4 c5 z0 z1
    go_cut [10] (fun s wx=>s=.bool tk∧wx=w4)
    case first=>
     cases hf:(findN names dn).isSome with
     | true=>
      have hn:(findN names dn).isNone=false:=by cases h:findN names dn with | none=>rw [h] at hf;cases hf | some _=>rfl
      rw [hf,hn] at HFB
      have HT:=hid (show tk=true from by rw [htk];unfold ZaC;rw [hf];rfl)
      clear hf hn htk
      go_wp2_with (go_at_call 102;refine HFB.out.mono ?_;rintro e w' ⟨⟨r,rfl,hr1,hr2⟩,rfl⟩)
      go_meet
      exact ⟨by rw [HT.out],rfl⟩
     | false=>
      have hn:(findN names dn).isNone=true:=by cases h:findN names dn with | none=>rfl | some _=>rw [h] at hf;cases hf
      rw [hf,hn] at HFB
      have HT:=hid (show tk=(dn.size==0) from by rw [htk];unfold ZaC;rw [hf];rfl)
      have z:=ZgP dn
      rw [←HT.out] at z
      clear hf hn htk
      go_wp2_with (go_at_call 102;refine HFB.out.mono ?_;rintro e w' ⟨⟨r,rfl,hr1,hr2⟩,rfl⟩)
      go_meet
      exact ⟨by first | rfl | rw [z],rfl⟩
    case rest=>
     obtain ⟨rfl,hwc⟩:=hcut
     subst hwc
     rcases hdk with rfl | rfl | ⟨rfl,hde0,hde1⟩
     ·have HL:=hid (ZeN (es:=es) (s:=⟨1,dp,dn,dsh,de,dq⟩) (ss.drop (k+1)) names sh inp rfl)
      dsimp only at HL
      rw [←htk] at HL
      clear htk
      by_cases hp0:dp<0
      ·have p0:decide (dp<0)=true:=by simp;omega
       have HZ:=hid (show Zaj es ss [] (es.map fun _=>[]) 0=.inr (141,dq) from by rw [HX.out,HL.out,if_pos (.inl (by omega))])
       clear hp0
       go_wp2_with fail
       go_quiet (fail)
       go_wp2
       go_ret3
       exact HERR.out _ _ _ HZ.out (Zaa (Below.refl _ _) _)
      ·have p0:decide (dp<0)=false:=by simp;omega
       by_cases hp1:1<dp
       ·have p1:decide ((1:Int)<dp)=true:=by simp;omega
        have HZ:=hid (show Zaj es ss [] (es.map fun _=>[]) 0=.inr (141,dq) from by rw [HX.out,HL.out,if_pos (.inl (by omega))])
        clear hp0 hp1
        go_wp2_with fail
        go_quiet (fail)
        go_wp2
        go_ret3
        exact HERR.out _ _ _ HZ.out (Zaa (Below.refl _ _) _)
       ·have p1:decide ((1:Int)<dp)=false:=by simp;omega
        have HEL:=hid (ZbE A' sl c' dsh wc HSL.out c3n HRS.out.rd)
        obtain ⟨el,hel⟩:∃ el,el=Zad dsh:=⟨_,rfl⟩
        rw [←hel] at HEL
        by_cases h0:el=0
        ·subst h0
         have HZ:=hid (show Zaj es ss [] (es.map fun _=>[]) 0=.inr (141,dq) from by rw [HX.out,HL.out,if_pos (.inr hel.symm)])
         clear hel hp0 hp1
         go_wp2_with (go_at_call 58;refine HEL.out.mono ?_;rintro e w' ⟨rfl,rfl⟩)
         go_quiet (fail)
         go_wp2
         go_ret3
         exact HERR.out _ _ _ HZ.out (Zaa (Below.refl _ _) _)
        ·have q0:(el==0)=false:=by rw [beq_eq_false_iff_ne];exact h0
         have HPA:=hid (show ¬ ((dp≠0∧dp≠1)∨Zad dsh=0) from by rw [←hel];omega)
         have HEN:=hid (show Zad dsh≠0 from by rw [←hel];exact h0)
         clear hel h0 hp0 hp1
         cases tk with
         | true=>
          have HZ:=hid (show Zaj es ss [] (es.map fun _=>[]) 0=.inr (140,dq) from by rw [HX.out,HL.out,if_neg HPA.out];rfl)
          go_wp2_with (go_at_call 58;refine HEL.out.mono ?_;rintro e w' ⟨rfl,rfl⟩)
          go_quiet (fail)
          go_wp2
          go_ret3
          exact HERR.out _ _ _ HZ.out (Zaa (Below.refl _ _) _)
         | false=>
          by_cases h8:8≤inp
          ·have q8:decide ((8:Int)≤(inp:Int))=true:=by simp;omega
           have HZ:=hid (show Zaj es ss [] (es.map fun _=>[]) 0=.inr (5,dq) from by rw [HX.out,HL.out,if_neg HPA.out,if_neg (by simp),if_pos h8])
           clear h8
           go_wp2_with (go_at_call 58;refine HEL.out.mono ?_;rintro e w' ⟨rfl,rfl⟩)
           go_quiet (fail)
           go_wp2
           go_ret3
           exact HERR.out _ _ _ HZ.out (Zaa (Below.refl _ _) _)
          ·have q8:decide ((8:Int)≤(inp:Int))=false:=by simp;omega
           have HZ:=hid (show Zaj es ss [] (es.map fun _=>[]) 0=Zaj es (ss.drop (k+1)) (names++[(dn,dsh)]) sh (inp+1) from by rw [HX.out,HL.out,if_neg HPA.out,if_neg (by simp),if_neg h8])
           have hvl:ShV (rkX sg NA) wc (.slice A' sl c') dsh:=⟨A',c',by rw [HSL.out],by rw [←HSL.out];exact c3c,c3d,ZaX HEN.out,HRS.out⟩
           have HVL:=hid hvl
           clear h8 hvl
           go_wp2_with (first
            | (go_at_call 58;refine HEL.out.mono ?_;rintro e w' ⟨rfl,rfl⟩)
            | (at_builtin;(refine Zmj rfl (.tmp 78) (.tmp 84) rfl w3.heap.size sg ne NA nn nc names sh (HS4.out.next ((Below.refl _ _).alloc (Nat.le_refl _) _)) rfl wc.heap.size dn (.slice A' sl c') dsh rfl (heap_alloc_new wc _) (HVL.out.next ((Below.refl _ _).alloc (Nat.le_refl _) _)) HEN.out (by omega) (by simp;have:=hBw4.out;omega) ?_);intro A2 c2 w6 hS6 hB6 hK6;have HS6:=hid hS6;have HB6:=hid ((HB4.out.alloc hBw4.out _).trans hB6);clear hS6 hB6 hK6))
           exact ⟨⟨k+1,inp+1,A2,nn+1,c2,_,_,by omega,rfl,rfl,rfl,by omega,by omega,HZ.out,HS6.out,HB6.out⟩,by simp [intOf];omega⟩
     ·have HL:=hid (ZeP (es:=es) (s:=⟨3,dp,dn,dsh,de,dq⟩) (ss.drop (k+1)) names sh inp rfl)
      dsimp only at HL
      clear htk
      cases hn:(findN names dn).isNone with
      | true=>
       have HZ:=hid (show Zaj es ss [] (es.map fun _=>[]) 0=.inr (140,dq) from by rw [HX.out,HL.out,hn];rfl)
       rw [hn] at HFB
       clear hn
       go_wp2_with (go_at_call 102;refine HFB.out.mono ?_;rintro e w' ⟨⟨r,rfl,hr1,hr2⟩,rfl⟩)
       go_quiet (fail)
       go_wp2
       go_ret3
       exact HERR.out _ _ _ HZ.out (Zaa (Below.refl _ _) _)
      | false=>
       have HZ:=hid (show Zaj es ss [] (es.map fun _=>[]) 0=Zaj es (ss.drop (k+1)) names sh inp from by rw [HX.out,HL.out,hn];rfl)
       rw [hn] at HFB
       clear hn
       go_wp2_with (go_at_call 102;refine HFB.out.mono ?_;rintro e w' ⟨⟨r,rfl,hr1,hr2⟩,rfl⟩)
       exact ⟨⟨k+1,inp,NA,nn,nc,_,_,by omega,rfl,rfl,rfl,by omega,by omega,HZ.out,HS4.out,HB4.out⟩,by simp [intOf];omega⟩
     ·obtain ⟨root,rfl⟩:∃ r:Nat,de=(r:Int):=⟨de.toNat,by omega⟩
      have hroot:root<ne:=by omega
      have HL:=hid (ZeO (es:=es) (s:=⟨2,dp,dn,dsh,(root:Int),dq⟩) (ss.drop (k+1)) names sh inp rfl)
      dsimp only at HL
      rw [Int.toNat_natCast,←htk] at HL
      have hAr:=HTC.out _ HB4.out
      have z0:=cell_of_row _ _ 0 _ _ _ hAr
      have z1:=cell_of_row _ _ 1 _ _ _ hAr
      have HR3:=hid (H33.out.below HB4.out)
      have HWI:=hid (Zh0 (some ⟨b,o,none⟩) EA ns sc ne ec es root wc HNE.out hroot hl2 (HR3.out.more hBw4.out) HEX.out)
      clear htk hde0 hde1 hAr
      go_wp2_with (go_at_call 103;refine HWI.out.mono ?_;rintro e w5 ⟨rfl,hM,hb5⟩)
      have HM5:=hid hM
      have HS5:=hid (HS4.out.next hb5)
      have HB5:=hid (HB4.out.trans (hb5.mono hBw4.out))
      have HEB5:=hid (hb5.block eb HEBX.out.2)
      obtain ⟨gm,hgm⟩:∃ gm,gm=wc.heap.size+1:=⟨_,rfl⟩
      rw [←hgm] at HM5 ⊢
      have hgsg:gm≠sg:=by have:=HS4.out.lt _ (.inl rfl);omega
      have hebsg:eb≠sg:=fun e=>HEBX.out.1 (.inl e)
      have HGM:=hid (And.intro hgsg (And.intro hebsg (And.intro HM5.out.lt (Nat.lt_of_lt_of_le HEBX.out.2 hb5.size))))
      have hB5s:=hid HB5.out.size
      have hBNA:=hid (show ∀ q,rkX sg NA q→w3.heap.size≤q from HS4.out.ge)
      clear hM hb5 hgm hgsg hebsg z0 z1 f0 f1 f2 f3 f4 f5
      go_loopw [12] (fun v12 wr=>∃ (i:Nat) (sh1:List (List Int)),i≤root+1∧v12=.int .i64 i∧Zay es (Zac es root) names (root+1) 0 sh=Zay es (Zac es root) names (root+1-i) i sh1∧RkSt wr w3.heap.size sg ne NA nn nc names sh1∧Below w3.heap.size w3 wr∧w5.heap.size≤wr.heap.size∧∀ q,q<w5.heap.size→q≠sg→wr.heap[q]?=w5.heap[q]?) (fun v12 _=>root+1-(intOf v12).toNat)
      case atStart=>exact ⟨0,sh,by omega,rfl,rfl,HS5.out,HB5.out,Nat.le_refl _,fun _ _ _=>rfl⟩
      case round=>
       obtain ⟨i,sh1,hi,rfl,hR1,hS1,hB1,hsz1,hk1⟩:=hrel
       have HR1:=hid hR1
       have HS1:=hid hS1
       have HB1:=hid hB1
       have HK1:=hid hk1
       have HSZ1:=hid hsz1
       obtain ⟨f0,f1,f2,f3,f4,f5⟩:=HKE.out wr ((hk1 eb HGM.out.2.2.2 HGM.out.2.1).trans HEB5.out)
       have hM1:MkB wr 4 gm ne (fun i=>.bool (Zac es root i)):=(hk1 gm HGM.out.2.2.1 HGM.out.1).trans HM5.out
       clear hR1 hS1 hB1 hsz1 hk1
       by_cases hlt1:i<root+1
       ·obtain ⟨m,hm⟩:∃ m,root+1-i=m+1:=⟨root-i,by omega⟩
        have hm2:root+1-(i+1)=m:=by omega
        have j0:(0:Int)≤(i:Int):=by omega
        have j1:(i:Int)<(ne:Int):=by omega
        have j2:decide ((i:Int)≤(root:Int))=true:=by simp;omega
        have cm:=hM1.cell (i:=i) (by omega)
        clear hM1
        cases hmi:Zac es root i with
        | false=>
         have HX1:=hid (show Zay es (Zac es root) names (root+1) 0 sh=Zay es (Zac es root) names (root+1-(i+1)) (i+1) sh1 from by
          rw [HR1.out,hm,hm2]
          show (if Zac es root i then _ else _)=_
          rw [hmi]
          rfl)
         rw [hmi] at cm
         clear hmi hm hm2
         go_wp2
         exact ⟨⟨i+1,sh1,by omega,rfl,HX1.out,HS1.out,HB1.out,HSZ1.out,HK1.out⟩,by simp [intOf];omega⟩
        | true=>
         have ht:es[i]?=some (es[i]'(by rw [←HNE.out];omega)):=List.getElem?_eq_getElem _
         obtain ⟨d,hd⟩:∃ d,d=es[i]'(by rw [←HNE.out];omega):=⟨_,rfl⟩
         rw [←hd] at ht
         have HT:=hid ht
         have HX1:=hid (show Zay es (Zac es root) names (root+1) 0 sh=(match exprC d sh1 names with | .inr c=>.inr (c,d.pos) | .inl s=>Zay es (Zac es root) names (root+1-(i+1)) (i+1) (sh1.set i s)) from by
          rw [HR1.out,hm,hm2]
          show (if Zac es root i then _ else _)=_
          rw [hmi,if_pos rfl,ht]
          dsimp only
          cases exprC d sh1 names <;> rfl)
         rw [hmi] at cm
         obtain ⟨b2,o2,rfl,hbl2,c0,c1,c2,⟨A2,k2,c3,c3r,c3n,-⟩,c4⟩:=(H33.out.below HB1.out).at_ ht
         have hAr:=HTC.out _ HB1.out
         have z1:=cell_of_row _ _ 1 _ _ _ hAr
         have hmd:=Zf1 (Zd4 es 0 i _ HEX.out ht)
         have hsm:=fun (k:Nat) (x:Int) (hx:d.args[k]?=some x)=>Zc0 HEX.out ht hx
         obtain ⟨ek,en,eu,ea,ep⟩:=d
         dsimp only at c0 c1 c2 c3 c3r c3n c4 hmd hsm HX1
         obtain ⟨al,hal⟩:∃ al,al=ea.length:=⟨_,rfl⟩
         rw [←hal] at c3 c3n hmd
         obtain ⟨nv,n1,n2,n3⟩:=HS1.out.rdnm
         have HRX:=hid (Ziz (rkX sg NA) sg ne NA nn nc nv names sh1 ek en eu A2 al k2 ea ep wr i hal (c3r.more HB1.out.size) hsm (by omega) hmd n1 (by omega) hl2 n2 n3 HS1.out.sp HS1.out.lt)
         have hi3:i<ne:=by omega
         have HST:=hid (show ∀ (w7:World),Below wr.heap.size wr w7→RkSt w7 w3.heap.size sg ne NA nn nc names sh1∧(∃ sv,w7.cell? ⟨sg,i,none⟩=some sv)∧w7.frozen? ⟨sg,i,none⟩=false∧∀ v,Below w3.heap.size w3 (w7.setCell ⟨sg,i,none⟩ v)∧w5.heap.size≤(w7.setCell ⟨sg,i,none⟩ v).heap.size∧∀ q,q<w5.heap.size→q≠sg→(w7.setCell ⟨sg,i,none⟩ v).heap[q]?=w5.heap[q]? from fun w7 hb7=>by
          have hs7:=HS1.out.next hb7
          obtain ⟨Ai,ci,ni,si,_⟩:=hs7.sp.shape hi3
          refine ⟨hs7,⟨_,si⟩,hs7.free i,fun v=>⟨Zaf (bnext HB1.out hb7) (hBNA.out _ (.inl rfl)) v,?_,fun q hq hqs => ?_⟩⟩
          ·have:=hb7.size
           have:=HSZ1.out
           simp [World.setCell]
           omega
          ·rw [Zgf w7 ⟨sg,i,none⟩ v hqs,hb7.block q (Nat.lt_of_lt_of_le hq HSZ1.out)]
           exact HK1.out q hq hqs)
         have HTL:=hid (show ∀ (W:World),Below w3.heap.size w3 W→W.cell? ⟨w.heap.size,1,none⟩=some (.slice (some ⟨b2,o2,none⟩) ne ec)∧W.cell? ⟨b2,o2+i*5+4,none⟩=some (.int .i64 ep) from fun W hW=>by
          refine ⟨cell_of_row _ _ 1 _ _ _ (HTC.out _ hW),?_⟩
          have:=(hW.cell (p:=⟨b2,o2+i*5+4,none⟩) hbl2).trans (HB1.out.cell (p:=⟨b2,o2+i*5+4,none⟩) hbl2).symm
          rw [this]
          exact c4)
         clear hmi hm hm2 hd ht hmd hsm hal n1 n2 n3 c3r hAr hbl2
         cases hx:exprC ⟨ek,en,eu,ea,ep⟩ sh1 names with
         | inr c=>
          have hc0:=Zet hx
          have q9:((c:Int) != 0)=true:=by unfold bne;rw [beq_eq_false_iff_ne.2 (by omega)];rfl
          have q9':((c:Int)==0)=false:=by rw [beq_eq_false_iff_ne];omega
          have HZ:=hid (show Zaj es ss [] (es.map fun _=>[]) 0=.inr (c,ep) from by rw [HX.out,HL.out,HX1.out,hx])
          have HR9:=hid (HRX.out.mono (fun e w' (h:ZeL _ _ _ e w')=>show e=.returned (.tuple #[.slice none 0 0,.int .i64 (c:Int)])∧Below wr.heap.size wr w' from by
           obtain ⟨g1,g2⟩:=h
           rw [hx] at g2
           exact ⟨g2,g1⟩))
          clear hx hc0
          go_wp2_with (go_at_call 104;refine HR9.out.mono ?_;rintro e w7 ⟨rfl,hb7⟩;obtain ⟨_,⟨sv,s1⟩,s2,s3⟩:=HST.out _ hb7;obtain ⟨s4,s5,-⟩:=s3 (.slice none 0 0);obtain ⟨y1,y2⟩:=HTL.out _ s4;have HB7:=hid s4;have HB17:=hid hb7;clear s3 s4 s5 hb7)
          go_quiet (fail)
          go_wp2
          go_ret3
          refine ⟨HB3.out.trans ((Zaa HB7.out _).mono HB3.out.size),?_⟩
          rw [HCC.out,HZ.out]
          rfl
         | inl l=>
          have HX9:=hid (show Zay es (Zac es root) names (root+1) 0 sh=Zay es (Zac es root) names (root+1-(i+1)) (i+1) (sh1.set i l) from by rw [HX1.out,hx])
          have HR9:=hid (HRX.out.mono (fun e w' (h:ZeL _ _ _ e w')=>show ∃ v,e=.returned (.tuple #[v,.int .i64 0])∧ShV (rkX sg NA) w' v l∧Below wr.heap.size wr w' from by
           obtain ⟨g1,g2⟩:=h
           rw [hx] at g2
           obtain ⟨v,h1,h2⟩:=g2
           exact ⟨v,h1,h2,g1⟩))
          clear hx
          go_wp2_with (go_at_call 104;refine HR9.out.mono ?_;rintro e w7 ⟨v,rfl,hv7,hb7⟩;obtain ⟨s0,⟨sv,s1⟩,s2,s3⟩:=HST.out _ hb7;obtain ⟨s4,s5,s6⟩:=s3 v;have hv9:=hv7;obtain ⟨Av,cv,rfl,-⟩:=hv9;have HB7:=hid s4;have HSZ7:=hid s5;have HK7:=hid s6;have HS7:=hid (s0.set hi3 hv7);clear s0 s3 s4 s5 s6 hb7 hv7)
          exact ⟨⟨i+1,_,by omega,rfl,HX9.out,HS7.out,HB7.out,HSZ7.out,HK7.out⟩,by simp [intOf];omega⟩
       ·obtain rfl:i=root+1:=by omega
        have j2:decide (((root:Int)+1)≤(root:Int))=false:=by simp;omega
        have j3:decide (((root+1:Nat):Int)≤(root:Int))=false:=by simp;omega
        have HX1:=hid (show Zay es (Zac es root) names (root+1) 0 sh=.inl sh1 from by rw [HR1.out,Nat.sub_self];rfl)
        clear hM1 hlt1 hi
        cases tk with
        | true=>
         have HZ:=hid (show Zaj es ss [] (es.map fun _=>[]) 0=.inr (140,dq) from by rw [HX.out,HL.out,HX1.out];rfl)
         go_wp2_with fail
         go_quiet (fail)
         go_wp2
         go_ret3
         refine ⟨HB3.out.trans ((Zaa HB1.out _).mono HB3.out.size),?_⟩
         rw [HCC.out,HZ.out]
         rfl
        | false=>
         have HZ:=hid (show Zaj es ss [] (es.map fun _=>[]) 0=Zaj es (ss.drop (k+1)) (names++[(dn,sh1.getD root [])]) sh1 inp from by rw [HX.out,HL.out,HX1.out];rfl)
         obtain ⟨nv,-,-,n3⟩:=HS4.out.rdnm
         obtain ⟨svs,-,-,hshl,-⟩:=HS4.out.sp
         have HEO:=hid (ZcJ n3.ok (ZaI es root) (by rw [←HNE.out];exact hroot) (root+1) 0 sh sh1 (by omega) (by omega) (by rw [hshl,HNE.out]) HX1.out)
         obtain ⟨Ai,ci,ni,si,-,svi⟩:=HS1.out.sp.shape hroot
         have HSV:=hid svi
         have j0:(0:Int)≤(root:Int):=by omega
         have j1:(root:Int)<(ne:Int):=by omega
         have hebw:eb<wr.heap.size:=Nat.lt_of_lt_of_le HGM.out.2.2.2 HSZ1.out
         have hsgw:sg<wr.heap.size:=HS1.out.lt _ (.inl rfl)
         have HBW1:=hid HB1.out.size
         have HLT1:=hid (And.intro hebw hsgw)
         have HNA:=hid (show blk NA≠some eb∧blk NA≠some sg from ⟨fun e=>HEBX.out.1 (.inr e),HS4.out.ns⟩)
         have S0:=hid (show w3.heap.size≤wr.heap.size∧wr.cell? ⟨eb,2,none⟩=some (.string dn)∧wr.cell? ⟨eb,4,none⟩=some (.int .i64 (root:Int))∧wr.cell? ⟨sg,root,none⟩=some (.slice Ai ni ci)∧Below w3.heap.size w3 wr from ⟨HB1.out.size,f2,f4,si,HB1.out⟩)
         clear n3 hshl svi hebw hsgw
         go_wp2_with fail
         clear f0 f1 f2 f3 f4 f5 si
         go_region_held3 (fun w'=>w3.heap.size≤w'.heap.size∧w'.cell? ⟨eb,2,none⟩=some (.string dn)∧w'.cell? ⟨eb,4,none⟩=some (.int .i64 (root:Int))∧w'.cell? ⟨sg,root,none⟩=some (.slice Ai ni ci)∧Below w3.heap.size w3 w')
          (first | with_reducible exact ZeM S0.out | assumption | exact ZeM (Zf0 HLT1.out.1 HLT1.out.2 S0.out _) | exact Zkx (by simp;have:=HLT1.out.1;omega) (by simp;have:=HLT1.out.2;omega) HNA.out.1 HNA.out.2 (ZeM (Zf0 HLT1.out.1 HLT1.out.2 S0.out _)) (by assumption) (by assumption))
          (first
           | (refine Zmk rfl (.tmp 129) (.tmp 138) rfl w3.heap.size sg ne NA nn nc names sh1 (HS1.out.next ((Below.refl _ _).alloc (Nat.le_refl _) _).drew) rfl wr.heap.size dn (.slice Ai ni ci) (sh1.getD root []) rfl (heap_alloc_new wr _) (HSV.out.next ((Below.refl _ _).alloc (Nat.le_refl _) _).drew) HEO.out (by omega) (by have:=HBW1.out;simp;omega) ?_;intro A5 c5 w8 hS8 hB8 hK8))
         all_goals
          have hS9:w3.heap.size≤w8.heap.size∧w8.cell? ⟨eb,2,none⟩=some (.string dn)∧w8.cell? ⟨eb,4,none⟩=some (.int .i64 (root:Int))∧w8.cell? ⟨sg,root,none⟩=some (.slice Ai ni ci)∧Below w3.heap.size w3 w8:=by assumption
          have HS8:=hid hS8
          have HB8:=hid hS9.2.2.2.2
          clear hS8 hB8 hK8 hS9
          go_wp2
          exact ⟨⟨k+1,inp,A5,nn+1,c5,_,_,by omega,rfl,rfl,rfl,by omega,by omega,HZ.out,HS8.out,HB8.out⟩,by simp [intOf];omega⟩
   ·obtain rfl:k=ns:=by omega
    have HZ:=hid (show ZaA ss es=.inl sh from by
     rw [HCC.out,HR.out,HNS.out,List.drop_length]
     rfl)
    clear hlt z0 z1
    go_wp2
    go_ret3
    refine ⟨HB3.out.trans (HB.out.mono HB3.out.size),?_⟩
    rw [HZ.out]
    exact ⟨sg,_,rfl,HS.out.sp,by rw [HSG.out];exact HB3.out.size⟩
end Go.Proofs.YtghlnncfigkkaaaGreatDoor
