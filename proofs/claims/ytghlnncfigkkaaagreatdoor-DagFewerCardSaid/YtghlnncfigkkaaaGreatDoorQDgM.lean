/-
 Folding, sharing and dropping leave no more nodes than there were.
-/
import Derived.Test.YtghlnncfigkkaaaGreatDoorQDgA
import Derived.Test.YtghlnncfigkkaaaGreatDoorQRdSh
import Derived.BigQuiet
import Derived.Test.YtghlnncfigkkaaaGreatDoorQDgJ
import Derived.Test.YtghlnncfigkkaaaGreatDoorQEvAT
set_option maxRecDepth 100000
set_option maxHeartbeats 8000000
open Go.Lib (hid)
set_option linter.unusedVariables false
set_option linter.unusedSimpArgs false
namespace Go.Proofs.YtghlnncfigkkaaaGreatDoor
open Go.RowKit
def mapD (p:Nat→Nat) (n:ND):ND:={ n with args:=n.args.map p }
theorem mapD_congr {p q:Nat→Nat} {n:ND} (h:∀ a∈n.args,p a=q a):mapD p n=mapD q n:=by
 unfold mapD
 rw [List.map_congr_left h]
theorem mapD_upd {p:Nat→Nat} {k v:Nat} {n:ND} (h:∀ a∈n.args,a<k):mapD (updD p k v) n=mapD p n:=mapD_congr fun a ha=>by
 unfold updD
 rw [if_neg (by have:=h a ha;omega)]
theorem foldD_args {f:Bool} {l l':List ND} {n:ND} (h:∀ a∈n.args,atD l' a=atD l a):foldD f l' n=foldD f l n:=by
 unfold foldD
 have h1:n.args.all (constD l')=n.args.all (constD l):=by
  rw [Bool.eq_iff_iff,List.all_eq_true,List.all_eq_true]
  exact ⟨fun k a ha=>by have:=k a ha;unfold constD at this ⊢;rwa [h a ha] at this,fun k a ha=>by have:=k a ha;unfold constD at this ⊢;rwa [h a ha]⟩
 have h2:valD l' n=valD l n:=by
  unfold valD
  congr 1
  exact List.map_congr_left fun a ha=>by rw [h a ha]
 rw [h1,h2]
theorem foldD_noargs {f:Bool} {l:List ND} {n:ND} (h:n.args=[]):foldD f l n=n:=by
 unfold foldD
 rw [if_neg (fun e=>e.2.1 h)]
structure Sim (f1 s1:Bool) (l0 l1:List ND) (p:Nat→Nat):Prop where
 img:∀ i,i<l0.length→p i<l1.length∧atD l1 (p i)=foldD f1 l1 (mapD p (atD l0 i))
 one:s1=true→∀ (i j:Nat) (n:ND),l1[i]?=some n→l1[j]?=some n→i=j
 len:l1.length≤l0.length
theorem sim_key {in0 in1:List (List Int)} {f0 f1 s1:Bool} {l0 l1:List ND} {p:Nat→Nat} (hf:f0=true→f1=true) (hs:Sim f1 s1 l0 l1 p) (hw:WfD in0 in1 l0) {n:ND} (hn:∀ a∈n.args,a<l0.length):
  foldD f1 l1 (mapD p (foldD f0 l0 n))=foldD f1 l1 (mapD p n):=by
 by_cases hc:f0=true∧n.args≠[]∧n.args.all (constD l0)=true
 ·have e0:foldD f0 l0 n=⟨2,n.shape,[],0,0,0,valD l0 n⟩:=by unfold foldD;rw [if_pos hc]
  have hk:∀ a∈n.args,atD l1 (p a)=atD l0 a:=fun a ha=>by
   have h1:=(hs.img a (hn a ha)).2
   have h2:=List.all_eq_true.1 hc.2.2 a ha
   have hk:(atD l0 a).kind=2:=by unfold constD at h2;simpa using h2
   have hargs:(atD l0 a).args=[]:=by
    rcases (hw a _ (atD_lt (hn a ha))).kinds with q | q | q
    ·exact q.2.1
    ·exact q.2.1
    ·omega
   rw [h1,foldD_noargs (by unfold mapD;rw [hargs];rfl)]
   unfold mapD
   rw [hargs,List.map_nil]
   cases h:atD l0 a
   rw [h] at hargs
   dsimp only at hargs
   rw [hargs]
  have hconst:(mapD p n).args.all (constD l1)=true:=by
   rw [List.all_eq_true]
   intro x hx
   obtain ⟨a,ha,rfl⟩:=List.mem_map.1 hx
   have:=List.all_eq_true.1 hc.2.2 a ha
   unfold constD at this ⊢
   rw [hk a ha]
   exact this
  have e1:foldD f1 l1 (mapD p n)=⟨2,n.shape,[],0,0,0,valD l1 (mapD p n)⟩:=by
   unfold foldD
   rw [if_pos ⟨hf hc.1,fun e=>hc.2.1 (List.map_eq_nil_iff.1 e),hconst⟩]
   rfl
  have hv:valD l1 (mapD p n)=valD l0 n:=by
   unfold valD mapD
   dsimp only
   rw [List.map_map]
   congr 1
   exact List.map_congr_left fun a ha=>by show tnD (atD l1 (p a))=_;rw [hk a ha]
  rw [e0,e1,hv]
  exact foldD_noargs rfl
 ·have e0:foldD f0 l0 n=n:=by unfold foldD;rw [if_neg hc]
  rw [e0]
theorem sim_made {in0 in1:List (List Int)} {f0 s0 f1 s1:Bool} {l0 l1:List ND} {p:Nat→Nat} (hf:f0=true→f1=true) (hss:s0=true→s1=true) (hs:Sim f1 s1 l0 l1 p) (hw:WfD in0 in1 l0) {n n1:ND} (hn:NodeOk in0 in1 l0 l0.length n) (h1:n1=mapD p n):
  ∃ q,Sim f1 s1 (madeD f0 s0 l0 n).1 (madeD f1 s1 l1 n1).1 q∧(∀ a,a<l0.length→q a=p a)∧(madeD f1 s1 l1 n1).2=q (madeD f0 s0 l0 n).2:=by
 subst h1
 have hkey:=sim_key hf hs hw hn.ahead
 have hm0:=foldD_ok f0 hw hn
 generalize hm:foldD f0 l0 n=m0 at hkey hm0
 rcases madeD_cases f0 s0 l0 n with ⟨a1,a2,a3⟩ | ⟨_,a2⟩
 ·rw [hm] at a3
  have hi:=(idxD_some a3).1
  have hlt:=(Kaf.1 hi).1
  obtain ⟨b1,b2⟩:=hs.img _ hlt
  rw [atD_some hi,hkey] at b2
  have hat:=atD_lt b1
  rw [b2] at hat
  rw [a2]
  have hs1:=hss a1
  rcases madeD_cases f1 s1 l1 (mapD p n) with ⟨_,c2,c3⟩ | ⟨c1,_⟩
  ·rw [c2]
   exact ⟨p,hs,fun _ _=>rfl,(hs.one hs1 _ _ _ hat (idxD_some c3).1).symm⟩
  ·rcases c1 with c1 | c1
   ·rw [hs1] at c1;cases c1
   ·exact absurd hat (idxD_none c1 _)
 ·rw [hm] at a2
  rw [a2]
  have hold:∀ i,i<l0.length→∀ a∈(atD l0 i).args,a<l0.length:=fun i hi a ha=>by have:=hw.ahead i a ha;omega
  have at_old:∀ i,i<l0.length→atD (l0++[m0]) i=atD l0 i:=fun i hi=>atD_pre hi (List.prefix_append _ _)
  have at_new:atD (l0++[m0]) l0.length=m0:=atD_some (by simp)
  rcases madeD_cases f1 s1 l1 (mapD p n) with ⟨_,c2,c3⟩ | ⟨c1,c2⟩
  ·rw [c2]
   have hj:=(idxD_some c3).1
   refine ⟨updD p l0.length (madeD f1 s1 l1 (mapD p n)).2,⟨fun i hi => ?_,hs.one,by simp;exact Nat.le_succ_of_le hs.len⟩,fun a ha=>by unfold updD;rw [if_neg (by omega)],by dsimp only;unfold updD;rw [if_pos rfl]⟩
   by_cases hil:i<l0.length
   ·have e:updD p l0.length (madeD f1 s1 l1 (mapD p n)).2 i=p i:=by unfold updD;rw [if_neg (by omega)]
    dsimp only
    rw [e,at_old i hil,mapD_upd (hold i hil)]
    exact hs.img i hil
   ·have hi2:i=l0.length:=by simp at hi;omega
    subst hi2
    have e:updD p l0.length (madeD f1 s1 l1 (mapD p n)).2 l0.length=(madeD f1 s1 l1 (mapD p n)).2:=by unfold updD;rw [if_pos rfl]
    dsimp only
    rw [e,at_new,mapD_upd hm0.ahead,hkey]
    exact ⟨(Kaf.1 hj).1,atD_some hj⟩
  ·rw [c2]
   have at1:∀ x,x<l1.length→atD (l1++[foldD f1 l1 (mapD p n)]) x=atD l1 x:=fun x hx=>atD_pre hx (List.prefix_append _ _)
   refine ⟨updD p l0.length l1.length,⟨fun i hi => ?_,fun hs1 i j x hi hj => ?_,by simp;exact hs.len⟩,fun a ha=>by unfold updD;rw [if_neg (by omega)],by dsimp only;unfold updD;rw [if_pos rfl]⟩
   ·by_cases hil:i<l0.length
    ·have e:updD p l0.length l1.length i=p i:=by unfold updD;rw [if_neg (by omega)]
     dsimp only
     obtain ⟨q1,q2⟩:=hs.img i hil
     rw [e,at_old i hil,mapD_upd (hold i hil),at1 _ q1]
     refine ⟨by simp;omega,?_⟩
     rw [q2]
     symm
     refine foldD_args fun x hx => ?_
     obtain ⟨a,ha,rfl⟩:=List.mem_map.1 hx
     exact at1 _ (hs.img a (hold i hil a ha)).1
    ·have hi2:i=l0.length:=by simp at hi;omega
     subst hi2
     have e:updD p l0.length l1.length l0.length=l1.length:=by unfold updD;rw [if_pos rfl]
     dsimp only
     rw [e,at_new,mapD_upd hm0.ahead]
     refine ⟨by simp,?_⟩
     rw [atD_some (show (l1++[foldD f1 l1 (mapD p n)])[l1.length]?=some (foldD f1 l1 (mapD p n)) by simp),←hkey]
     symm
     refine foldD_args fun x hx => ?_
     obtain ⟨a,ha,rfl⟩:=List.mem_map.1 hx
     rw [hkey]
     exact at1 _ (hs.img a (hm0.ahead a ha)).1
   ·have hnone:=idxD_none (c1.resolve_left (by rw [hs1];decide))
    dsimp only at hi hj
    have split:∀ i (m:ND),(l1++[foldD f1 l1 (mapD p n)])[i]?=some m→(i<l1.length∧l1[i]?=some m)∨(i=l1.length∧m=foldD f1 l1 (mapD p n)):=fun i m hm=>by
     by_cases hi:i<l1.length
     ·rw [List.getElem?_append_left hi] at hm
      exact .inl ⟨hi,hm⟩
     ·have hi2:i=l1.length:=by
       have:=(Kaf.1 hm).1
       simp at this
       omega
      subst hi2
      simp at hm
      exact .inr ⟨rfl,hm.symm⟩
    rcases split i x hi with ⟨k1,k2⟩ | ⟨k1,k2⟩ <;> rcases split j x hj with ⟨k3,k4⟩ | ⟨k3,k4⟩
    ·exact hs.one hs1 i j x k2 k4
    ·rw [k4] at k2;exact absurd k2 (hnone i)
    ·rw [k2] at k4;exact absurd k4 (hnone j)
    ·omega
def mapP (p:Nat→Nat) (names:PlacesD):PlacesD:=names.map fun q=>(q.1,p q.2)
theorem placeD_map (p:Nat→Nat):∀ (names:PlacesD) (n:ByteArray),(names.any fun q=>decide (q.1.toList=n.toList))=true→placeD (mapP p names) n=p (placeD names n)
 | [],n,h=>by simp at h
 | (t,v)::r,n,h=>by
  unfold mapP
  rw [List.map_cons]
  unfold placeD
  by_cases ht:t.toList=n.toList
  ·rw [if_pos ht,if_pos ht]
  ·rw [if_neg ht,if_neg ht]
   exact placeD_map p r n (by simpa [ht] using h)
theorem sim_let {in0 in1:List (List Int)} {es:List EI} {sh:List (List Int)} {names names1:PlacesD} {sn:Names} {root:Nat} {l0 l1:List ND} {f0 s0 f1 s1:Bool} (hf:f0=true→f1=true) (hss:s0=true→s1=true) (hx:exsOk 0 es=true) (ho:Ahead es) (hl:LetOk es sn sh root) (hw:WfD in0 in1 l0) (hn:NamesD l0 names sn) (hk:KeysD names sn) {p:Nat→Nat} (hs:Sim f1 s1 l0 l1 p) (hn1:names1=mapP p names):
  ∀ i,∃ q,Sim f1 s1 (letD f0 s0 es sh names (Zac es root) l0 i).1 (letD f1 s1 es sh names1 (Zac es root) l1 i).1 q∧(∀ a,a<l0.length→q a=p a)∧∀ a,a<i→Zac es root a=true→(letD f1 s1 es sh names1 (Zac es root) l1 i).2 a=q ((letD f0 s0 es sh names (Zac es root) l0 i).2 a)
 | 0=>⟨p,hs,fun _ _=>rfl,fun a h=>by omega⟩
 | i+1=>by
  obtain ⟨q,h1,h2,h3⟩:=sim_let hf hss hx ho hl hw hn hk hs hn1 i
  have hres:=letD_res (names:=names) f0 s0 hx ho hl hw hn (Q:=fun _=>True) (fun _ _ _ _ _=>trivial) trivial i
  unfold letD
  dsimp only
  by_cases hm:Zac es root i=true
  ·rw [if_pos hm,if_pos hm]
   obtain ⟨e,he,hc⟩:=hl.2 i hm
   rw [he]
   dsimp only
   by_cases hk2:e.kind=2
   ·rw [if_pos hk2,if_pos hk2]
    refine ⟨q,h1,h2,fun a ha hma => ?_⟩
    dsimp only
    unfold updD
    by_cases hai:a=i
    ·rw [if_pos hai,if_pos hai]
     unfold exprC at hc
     rw [if_pos hk2] at hc
     cases hfn:findN sn e.name with
     | none=>rw [hfn] at hc;cases hc
     | some s'=>
      have hany:(names.any fun x=>decide (x.1.toList=e.name.toList))=true:=by rw [hk.any,←findN_keys,hfn];rfl
      rw [hn1,placeD_map p names _ hany,h2 _ (hn _ _ hfn).1]
    ·rw [if_neg hai,if_neg hai]
     exact h3 a (by omega) hma
   ·rw [if_neg hk2,if_neg hk2]
    have hmd:(e.args.length:Int)=madeP e.kind:=by
     have hex:=ZeT es 0 hx i e he
     unfold exOk at hex
     rw [Bool.and_eq_true,beq_iff_eq] at hex
     exact hex.1.symm
    have hkn:1≤e.kind∧e.kind≤14:=kind_range (by omega)
    have hargs:∀ a∈e.args,a.toNat<i∧Zac es root a.toNat=true:=fun a ha=>by
     have h4:=ho i e he a ha
     exact ⟨by omega,Zbi ho hl.1 i e hm he a ha⟩
    have hnode:=nodeD_ok (in0:=in0) (in1:=in1) (l:=(letD f0 s0 es sh names (Zac es root) l0 i).1) (P:=(letD f0 s0 es sh names (Zac es root) l0 i).2) hc hk2 hmd hkn (fun a ha=>hres.at_ a.toNat (hargs a ha).1 (hargs a ha).2)
    have hcand:nodeD e (sh.getD i []) (letD f1 s1 es sh names1 (Zac es root) l1 i).2=mapD q (nodeD e (sh.getD i []) (letD f0 s0 es sh names (Zac es root) l0 i).2):=by
     unfold nodeD mapD
     dsimp only
     rw [List.map_map]
     congr 1
     exact List.map_congr_left fun a ha=>h3 a.toNat (hargs a ha).1 (hargs a ha).2
    obtain ⟨q',g1,g2,g3⟩:=sim_made hf hss h1 hres.wf hnode hcand
    refine ⟨q',g1,fun a ha=>by rw [g2 a (Kae ha hres.pre.length_le),h2 a ha],fun a ha hma => ?_⟩
    dsimp only
    unfold updD
    by_cases hai:a=i
    ·rw [if_pos hai,if_pos hai]
     exact g3
    ·rw [if_neg hai,if_neg hai,g2 _ (hres.at_ a (by omega) hma).1]
     exact h3 a (by omega) hma
  ·rw [if_neg hm,if_neg hm]
   refine ⟨q,h1,h2,fun a ha hma => ?_⟩
   by_cases hai:a=i
   ·rw [hai] at hma;exact absurd hma hm
   ·exact h3 a (by omega) hma
theorem mapP_snoc (p:Nat→Nat) (names:PlacesD) (t:ByteArray) (v:Nat):mapP p (names++[(t,v)])=mapP p names++[(t,p v)]:=by unfold mapP;rw [List.map_append];rfl
theorem mapP_congr {p q:Nat→Nat} {names:PlacesD} (h:∀ x∈names,p x.2=q x.2):mapP p names=mapP q names:=by
 unfold mapP
 exact List.map_congr_left fun x hx=>by rw [h x hx]
theorem sim_stmts {in0 in1:List (List Int)} {es:List EI} {sh:List (List Int)} {f0 s0 f1 s1:Bool} (hf:f0=true→f1=true) (hss:s0=true→s1=true) (hx:exsOk 0 es=true) (ho:Ahead es):∀ (ss:List SI) (names:PlacesD) (sn:Names) (l0 l1:List ND) (p:Nat→Nat) (i0 i1:Nat) (outs:List Nat) (r:List ND × List Nat),
  Zas es sh ss sn→in0.drop i0=Zae ss 0→in1.drop i1=Zae ss 1→WfD in0 in1 l0→NamesD l0 names sn→KeysD names sn→(∀ x∈names,x.2<l0.length)→(∀ o∈outs,o<l0.length)→Sim f1 s1 l0 l1 p→stmtsD f0 s0 es sh ss names l0 i0 i1 outs=some r →
  ∃ q r1,stmtsD f1 s1 es sh ss (mapP p names) l1 i0 i1 (outs.map p)=some r1∧Sim f1 s1 r.1 r1.1 q∧r1.2=r.2.map q∧WfD in0 in1 r.1∧∀ o∈r.2,o<r.1.length
 | [],names,sn,l0,l1,p,i0,i1,outs,r,hok,hL0,hL1,hw,hn,hk,hna,hou,hs,h=>by
  unfold stmtsD at h
  injection h with h
  subst h
  exact ⟨p,(l1,outs.map p),rfl,hs,rfl,hw,hou⟩
 | x::ss,names,sn,l0,l1,p,i0,i1,outs,r,hok,hL0,hL1,hw,hn,hk,hna,hou,hs,h=>by
  unfold stmtsD at h
  unfold stmtsD
  unfold Zas at hok
  by_cases h1:x.kind=1
  ·rw [if_pos h1] at h hok
   rw [if_pos h1]
   obtain ⟨hp,hsz,ht,hok⟩:=hok
   dsimp only at h ⊢
   have key:∀ (i:Nat),((x.party.toNat=0∧in0[i]?=some x.shape)∨(x.party.toNat=1∧in1[i]?=some x.shape))→NodeOk in0 in1 l0 l0.length (inD x i):=fun i hi=>⟨fun a ha=>by simp [inD] at ha,hsz,.inl ⟨rfl,rfl,rfl,rfl,hi⟩⟩
   have go:∀ (i j0 j1:Nat),NodeOk in0 in1 l0 l0.length (inD x i)→in0.drop j0=Zae ss 0→in1.drop j1=Zae ss 1→¬ 64<(madeD f0 s0 l0 (inD x i)).1.length→stmtsD f0 s0 es sh ss (names++[(x.name,(madeD f0 s0 l0 (inD x i)).2)]) (madeD f0 s0 l0 (inD x i)).1 j0 j1 outs=some r →
     ¬ 64<(madeD f1 s1 l1 (inD x i)).1.length∧∃ q r1,stmtsD f1 s1 es sh ss (mapP p names++[(x.name,(madeD f1 s1 l1 (inD x i)).2)]) (madeD f1 s1 l1 (inD x i)).1 j0 j1 (outs.map p)=some r1∧Sim f1 s1 r.1 r1.1 q∧r1.2=r.2.map q∧WfD in0 in1 r.1∧∀ o∈r.2,o<r.1.length:=fun i j0 j1 hno hL0 hL1 h64 h=>by
    obtain ⟨q,g1,g2,g3⟩:=sim_made (s0:=s0) hf hss hs hw hno (n1:=inD x i) rfl
    have hpre:=madeD_pre f0 s0 l0 (inD x i)
    have hlt:=madeD_lt f0 s0 l0 (inD x i)
    have hsn:=(hn.pre hpre).snoc hk x.name _ hlt
    rw [show (atD (madeD f0 s0 l0 (inD x i)).1 (madeD f0 s0 l0 (inD x i)).2).shape=x.shape from by rw [atD_some (madeD_at f0 s0 l0 (inD x i)),foldD_shape];rfl] at hsn
    refine ⟨by have:=g1.len;omega,?_⟩
    have hr:=sim_stmts hf hss hx ho ss _ _ _ _ q j0 j1 outs r hok hL0 hL1 (madeD_wf f0 s0 hw hno) hsn.1 hsn.2 (fun y hy=>by
     rcases List.mem_append.1 hy with hy | hy
     ·exact Kae (hna y hy) hpre.length_le
     ·rw [List.mem_singleton.1 hy];exact hlt) (fun o ho=>Kae (hou o ho) hpre.length_le) g1 h
    rw [mapP_snoc,mapP_congr (q:=p) (fun y hy=>g2 _ (hna y hy)),←g3,List.map_congr_left (g:=p) (fun o ho=>g2 o (hou o ho))] at hr
    exact hr
   by_cases hp0:x.party=0
   ·simp only [if_pos hp0] at h ⊢
    have d0:=drop_cons (hL0.trans (ZhE h1 hp0))
    by_cases h64:64<(madeD f0 s0 l0 (inD x i0)).1.length
    ·rw [if_pos h64] at h;cases h
    ·rw [if_neg h64] at h
     obtain ⟨k1,k2⟩:=go i0 (i0+1) i1 (key i0 (.inl ⟨by rw [hp0];rfl,d0.1⟩)) d0.2 (hL1.trans (Zgm (.inr (by omega)))) h64 h
     rw [if_neg k1]
     exact k2
   ·have hp1:x.party=1:=by omega
    simp only [if_neg hp0] at h ⊢
    have d1:=drop_cons (hL1.trans (ZhE h1 hp1))
    by_cases h64:64<(madeD f0 s0 l0 (inD x i1)).1.length
    ·rw [if_pos h64] at h;cases h
    ·rw [if_neg h64] at h
     obtain ⟨k1,k2⟩:=go i1 i0 (i1+1) (key i1 (.inr ⟨by rw [hp1];rfl,d1.1⟩)) (hL0.trans (Zgm (.inr (by omega)))) d1.2 h64 h
     rw [if_neg k1]
     exact k2
  ·rw [if_neg h1] at h hok
   rw [if_neg h1]
   have hI0:in0.drop i0=Zae ss 0:=hL0.trans (Zgm (.inl h1))
   have hI1:in1.drop i1=Zae ss 1:=hL1.trans (Zgm (.inl h1))
   by_cases h2:x.kind=2
   ·rw [if_pos h2] at h hok
    rw [if_pos h2]
    obtain ⟨hl,ht,hok⟩:=hok
    dsimp only at h ⊢
    split at h
    ·cases h
    ·rename_i h64
     have hr:=letD_res (names:=names) f0 s0 hx ho hl hw hn (Q:=fun _=>True) (fun _ _ _ _ _=>trivial) trivial (x.expr.toNat+1)
     obtain ⟨q,g1,g2,g3⟩:=sim_let hf hss hx ho hl hw hn hk hs (names1:=mapP p names) rfl (x.expr.toNat+1)
     have hroot:Zac es x.expr.toNat x.expr.toNat=true:=by
      unfold Zac
      rw [Zd7 ho _ _ _ (Kag _)]
      simp
     obtain ⟨p1,p2⟩:=hr.at_ x.expr.toNat (Nat.lt_succ_self _) hroot
     have hsn:=(hn.pre hr.pre).snoc hk x.name _ p1
     rw [p2] at hsn
     rw [if_neg (by have:=g1.len;omega)]
     have hrr:=sim_stmts hf hss hx ho ss _ _ _ _ q i0 i1 outs r hok hI0 hI1 hr.wf hsn.1 hsn.2 (fun y hy=>by
      rcases List.mem_append.1 hy with hy | hy
      ·exact Kae (hna y hy) hr.pre.length_le
      ·rw [List.mem_singleton.1 hy];exact p1) (fun o ho=>Kae (hou o ho) hr.pre.length_le) g1 h
     rw [mapP_snoc,mapP_congr (q:=p) (fun y hy=>g2 _ (hna y hy)),←g3 _ (Nat.lt_succ_self _) hroot,List.map_congr_left (g:=p) (fun o ho=>g2 o (hou o ho))] at hrr
     exact hrr
   ·rw [if_neg h2] at h hok
    rw [if_neg h2]
    obtain ⟨ht,hok⟩:=hok
    split at h
    ·cases h
    ·rename_i h64
     have hpl:placeD names x.name<l0.length∧placeD (mapP p names) x.name=p (placeD names x.name):=by
      cases hfn:findN sn x.name with
      | none=>rw [hfn] at ht;cases ht
      | some y=>exact ⟨(hn _ _ hfn).1,placeD_map p names _ (by rw [hk.any,←findN_keys,hfn];rfl)⟩
     rw [if_neg (by have:=hs.len;omega)]
     have hrr:=sim_stmts hf hss hx ho ss names sn l0 l1 p i0 i1 _ r hok hI0 hI1 hw hn hk hna (fun o ho=>by
      rcases List.mem_append.1 ho with ho | ho
      ·exact hou o ho
      ·rw [List.mem_singleton.1 ho];exact hpl.1) hs h
     rw [List.map_append,List.map_cons,List.map_nil,←hpl.2] at hrr
     exact hrr
theorem nodup_sub {l1:List Nat}:∀ {l2:List Nat},l1.Nodup→(∀ x∈l1,x∈l2)→l1.length≤l2.length:=by
 induction l1 with
 | nil=>intro l2 _ _;simp
 | cons a t ih=>
  intro l2 hn hs
  rw [List.nodup_cons] at hn
  have ha:=hs a (by simp)
  have:=ih (l2:=l2.erase a) hn.2 (fun x hx=>(List.mem_erase_of_ne (fun e=>hn.1 (by rw [←e];exact hx))).2 (hs x (by simp [hx])))
  rw [List.length_erase_of_mem ha] at this
  have:0<l2.length:=List.length_pos_of_mem ha
  simp only [List.length_cons]
  omega
theorem keepD_len (l:List ND) (m:Nat→Bool):∀ i,(keepD l m i).1.length=((List.range i).filter m).length
 | 0=>rfl
 | i+1=>by
  unfold keepD
  dsimp only
  rw [List.range_succ,List.filter_append,List.length_append,←keepD_len l m i]
  by_cases h:m i=true
  ·rw [if_pos h]
   simp [h]
  ·rw [if_neg h]
   simp [h]
theorem sim_need {in0 in1:List (List Int)} {f1 s1:Bool} {l0 l1:List ND} {p:Nat→Nat} {outs:List Nat} (hs:Sim f1 s1 l0 l1 p) (hw:WfD in0 in1 l0) (hout:∀ o∈outs,o<l0.length) (ha1:∀ i,∀ a∈(atD l1 i).args,a<i):
  ∀ j,needD l1 (outs.map p) j=true→∃ i,i<l0.length∧needD l0 outs i=true∧p i=j:=by
 have key:∀ k j,l1.length-j=k→needD l1 (outs.map p) j=true→∃ i,i<l0.length∧needD l0 outs i=true∧p i=j:=by
  intro k
  induction k using Nat.strongRecOn with
  | _ k ih=>
   intro j hk hj
   rcases needD_from hj with h1 | ⟨b,hb,h1,h2⟩
   ·obtain ⟨o,ho,rfl⟩:=List.mem_map.1 h1
    exact ⟨o,hout o ho,needD_out ho,rfl⟩
   ·by_cases hjb:l1.length-b<k
    ·obtain ⟨i,hi,hni,rfl⟩:=ih _ hjb b rfl h1
     have h3:=(hs.img i hi).2
     rw [h3] at h2
     unfold foldD at h2
     split at h2
     ·simp at h2
     ·obtain ⟨a,ha,rfl⟩:=List.mem_map.1 h2
      exact ⟨a,by have:=hw.ahead i a ha;omega,needD_args hw hi hni ha,rfl⟩
    ·have:=ha1 b j h2
     omega
 exact fun j=>key _ j rfl
theorem drop_len (l:List ND) (outs:List Nat):(dropD l outs).1.length=((List.range l.length).filter (needD l outs)).length:=keepD_len _ _ _
theorem sim_id (f1 s1:Bool):Sim f1 s1 [] [] (fun a=>a):=⟨fun i h=>by simp at h,fun _ i j n h=>by simp at h,Kag _⟩
theorem fewer_fs {f0 s0 f1 s1 d:Bool} (hf:f0=true→f1=true) (hss:s0=true→s1=true) {ss:List SI} {es:List EI} {g0:List ND × List Nat} (h:buildD f0 s0 d ss es=.inl g0):
  ∃ g1,buildD f1 s1 d ss es=.inl g1∧g1.1.length≤g0.1.length∧g1.2.length=g0.2.length:=by
 obtain ⟨sh,l,outs,hc,hs,rfl,h64⟩:=buildD_parts h
 obtain ⟨ho,hok,hlen⟩:=ZbI hc
 have ht:=(Zbz hc).1
 have hx:exsOk 0 es=true:=by
  unfold treeP at ht
  rw [Bool.and_eq_true] at ht
  exact ht.1
 obtain ⟨q,r1,h1,h2,h3,h4,h5⟩:=sim_stmts (in0:=Zae ss 0) (in1:=Zae ss 1) hf hss hx ho ss [] [] [] [] (fun a=>a) 0 0 [] (l,outs) hok (by simp) (by simp) (fun i n h=>by simp at h) (fun n s h=>by cases h) rfl (fun x h=>by simp at h) (fun o h=>by simp at h) (sim_id f1 s1) hs
 obtain ⟨l1,o1⟩:=r1
 have h1':stmtsD f1 s1 es sh ss [] [] 0 0 []=some (l1,o1):=h1
 have hw1:=(built_res hc h1' (Q:=fun _=>True) (fun _ _ _ _ _=>trivial) trivial).wf
 dsimp only at h2 h3 h4 h5 hw1
 refine ⟨if d then dropD l1 o1 else (l1,o1),?_,?_,?_⟩
 ·unfold buildD
  rw [hc]
  dsimp only
  rw [if_neg (by omega),h1']
 ·cases d with
  | false=>exact h2.len
  | true=>
   show (dropD l1 o1).1.length≤(dropD l outs).1.length
   rw [drop_len,drop_len]
   have hsub:∀ x∈(List.range l1.length).filter (needD l1 o1),x∈((List.range l.length).filter (needD l outs)).map q:=fun j hj=>by
    rw [h3] at hj
    obtain ⟨i,hi,hni,rfl⟩:=sim_need h2 h4 h5 hw1.ahead j (List.mem_filter.1 hj).2
    exact List.mem_map.2 ⟨i,List.mem_filter.2 ⟨List.mem_range.2 hi,hni⟩,rfl⟩
   have:=nodup_sub (List.Pairwise.filter _ List.nodup_range) hsub
   rwa [Kak] at this
 ·cases d with
  | false=>show o1.length=outs.length;rw [h3,Kak]
  | true=>
   show (dropD l1 o1).2.length=(dropD l outs).2.length
   unfold dropD
   dsimp only
   rw [Kak,Kak,h3,Kak]
theorem fewer_d {f s:Bool} {ss:List SI} {es:List EI} {g0:List ND × List Nat} (h:buildD f s false ss es=.inl g0):
  ∃ g1,buildD f s true ss es=.inl g1∧g1.1.length≤g0.1.length∧g1.2.length=g0.2.length:=by
 obtain ⟨sh,l,outs,hc,hs,rfl,h64⟩:=buildD_parts h
 have hr:=built_res hc hs (Q:=fun _=>True) (fun _ _ _ _ _=>trivial) trivial
 have hd:=dropD_wf hr.wf hr.bnd
 refine ⟨dropD l outs,?_,hd.2.2.2,hd.2.2.1⟩
 unfold buildD
 rw [hc]
 dsimp only
 rw [if_neg (by omega),hs]
 rfl
def fewB (ss:List SI) (es:List EI) (k:Nat):Sum (List ND × List Nat) Nat:=buildD (k % 2==1) (k / 2 % 2==1) (k / 4==1) ss es
theorem few_step {f0 s0 d0 f1 s1 d1:Bool} {ss:List SI} {es:List EI} {g g':List ND × List Nat} (h:(f0=true→f1=true)∧(s0=true→s1=true)∧d0=d1∨f0=f1∧s0=s1∧d0=false∧d1=true) (h0:buildD f0 s0 d0 ss es=.inl g') (h1:buildD f1 s1 d1 ss es=.inl g):g.1.length≤g'.1.length:=by
 rcases h with ⟨hf,hs,rfl⟩ | ⟨rfl,rfl,rfl,rfl⟩
 ·obtain ⟨g1,e,h2,_⟩:=fewer_fs hf hs h0
  rw [h1] at e
  injection e with e
  rw [e]
  exact h2
 ·obtain ⟨g1,e,h2,_⟩:=fewer_d h0
  rw [h1] at e
  injection e with e
  rw [e]
  exact h2
theorem few_le {ss:List SI} {es:List EI} {k bit:Nat} (hk:k<8) (hb:bit=1∨bit=2∨bit=4) (hq:k / bit % 2=1) {g g':List ND × List Nat} (h0:fewB ss es (k-bit)=.inl g') (h1:fewB ss es k=.inl g):g.1.length≤g'.1.length:=by
 have hk':k=0∨k=1∨k=2∨k=3∨k=4∨k=5∨k=6∨k=7:=by omega
 unfold fewB at h0 h1
 rcases hb with rfl | rfl | rfl <;> rcases hk' with rfl | rfl | rfl | rfl | rfl | rfl | rfl | rfl <;>
  first
  | (exfalso;revert hq;decide)
  | exact few_step (by decide) h0 h1
theorem sameSh_any (A A':Option Addr) (n m c c':Nat) (xs ys:List (List Int)) (w:World) (hn:n=xs.length) (hm:m=ys.length) (hl:n≤1000000) (hl':m≤1000000) (h:RdSh w A xs) (h':RdSh w A' ys):
  Calls Tryz.prog 37 #[.slice A n c,.slice A' m c'] w fun e w'=>e=.returned (.bool (xs==ys))∧Below w.heap.size w w':=by
 have HN:=hid hn
 have HM:=hid hm
 have H:=hid h
 have H':=hid h'
 clear h h' hn hm
 by_cases hnm:n=m
 ·subst hnm
  have q0':((n:Int) != (n:Int))=false:=by simp
  go_enter Tryz.func37,Tryz.ntmps37
  go_wp2
  go_loopw [13] (fun iv wr=>(∃ i:Nat,i≤n∧iv=.int .i64 i∧(xs==ys)=(xs.drop i==ys.drop i))∧Below w.heap.size w wr) (fun iv _=>n-(intOf iv).toNat)
  case atStart=>exact ⟨⟨0,by omega,rfl,rfl⟩,Kai _ _⟩
  case round=>
   obtain ⟨⟨i,hi,rfl,hr⟩,hb⟩:=hrel
   have HR:=hid hr
   have HB:=hid hb
   clear hr
   by_cases hlt:i<n
   ·have hx:xs[i]?=some (xs[i]'(by rw [←HN.out];exact hlt)):=Kad _
    obtain ⟨x,hxx⟩:∃ x,x=xs[i]'(by rw [←HN.out];exact hlt):=⟨_,rfl⟩
    rw [←hxx] at hx
    have hy:ys[i]?=some (ys[i]'(by rw [←HM.out];exact hlt)):=Kad _
    obtain ⟨y,hyy⟩:∃ y,y=ys[i]'(by rw [←HM.out];exact hlt):=⟨_,rfl⟩
    rw [←hyy] at hy
    obtain ⟨b,o,rfl,hbl,hc⟩:=(H.out.next hb).resolve_left (fun e=>by rw [e] at hx;simp at hx)
    obtain ⟨b',o',rfl,hbl',hc'⟩:=(H'.out.next hb).resolve_left (fun e=>by rw [e] at hy;simp at hy)
    obtain ⟨A1,c1,d0,d1,d2⟩:=hc i x hx
    obtain ⟨A2,c2,d0',d1',d2'⟩:=hc' i y hy
    have hD:=hid (show (xs.drop i==ys.drop i)=((x==y)&&(xs.drop (i+1)==ys.drop (i+1))) from by
     obtain ⟨hi,he⟩:=Kaf.1 hx
     obtain ⟨hi',he'⟩:=Kaf.1 hy
     rw [List.drop_eq_getElem_cons hi,List.drop_eq_getElem_cons hi',he,he']
     rfl)
    have i0:(0:Int)≤(i:Int):=by omega
    have i1:(i:Int)<(n:Int):=by omega
    obtain ⟨xl,hxl⟩:∃ xl,xl=x.length:=⟨_,rfl⟩
    obtain ⟨yl,hyl⟩:∃ yl,yl=y.length:=⟨_,rfl⟩
    rw [←hxl] at d0 d2
    rw [←hyl] at d0' d2'
    have HI:=hid (fun q=>Zba A1 A2 xl yl c1 c2 x y (wr.drewN q) hxl hyl (by omega) (by omega) (d1.drewN q) (d1'.drewN q))
    clear hx hxx hy hyy hc hc' d1 d1' hbl hbl' hb hxl hyl
    cases he:(x==y) with
    | true=>
     rw [he] at HI
     have HX:=hid (show (xs==ys)=(xs.drop (i+1)==ys.drop (i+1)) from by rw [HR.out,hD.out,he];rfl)
     clear he
     go_wp2_with fail
     go_quiet ((go_at_call 49;exact Calls.quiet_of (HI.out _)))
     go_wp2
     exact ⟨⟨⟨i+1,by omega,rfl,HX.out⟩,Zaa HB.out _⟩,by simp [intOf];omega⟩
    | false=>
     rw [he] at HI
     have HX:=hid (show (xs==ys)=false from by rw [HR.out,hD.out,he];rfl)
     clear he
     go_wp2_with fail
     go_quiet ((go_at_call 49;exact Calls.quiet_of (HI.out _)))
     go_wp2
     go_ret
     exact ⟨by rw [HX.out];rfl,Zaa HB.out _⟩
   ·obtain rfl:n=i:=by omega
    have HX:=hid (show (xs==ys)=true from by rw [HR.out,HN.out,List.drop_length,←HN.out,HM.out,List.drop_length];rfl)
    clear hb
    go_wp2
    go_ret
    exact ⟨by rw [HX.out];rfl,HB.out⟩
 ·have q2:((n:Int) != (m:Int))=true:=by unfold bne;rw [Kaj.2 (by omega)];rfl
  have HX:=hid (show (xs==ys)=false from by
   rw [Kaj]
   intro e
   exact hnm (by rw [HN.out,HM.out,e]))
  clear hnm
  go_enter Tryz.func37,Tryz.ntmps37
  go_wp2
  go_ret
  exact ⟨by rw [HX.out];rfl,Kai _ _⟩
theorem few_w (x:Int) (h:0≤x) (h2:x≤1000):IntKind.i64.wrap x=x:=ZaE (by omega) (by omega)
theorem few_q (k b:Nat) (h:k≤8):IntKind.i64.wrap ((k:Int).tdiv (b:Int))=((k / b:Nat):Int):=by
 have e:(k:Int).tdiv (b:Int)=((k / b:Nat):Int):=rfl
 have hq:=Nat.div_le_self k b
 rw [e]
 generalize k / b=q at hq ⊢
 exact few_w _ (by omega) (by omega)
theorem few_b (k b:Nat):((k:Int).tmod (b:Int)==1)=(k % b==1):=by
 have e:(k:Int).tmod (b:Int)=((k % b:Nat):Int):=rfl
 rw [e]
 generalize k % b=r
 rw [Bool.eq_iff_iff,beq_iff_eq,beq_iff_eq]
 omega
theorem few_e (k:Nat):((k:Int)==1)=(k==1):=by
 rw [Bool.eq_iff_iff,beq_iff_eq,beq_iff_eq]
 omega
theorem few_s {k b:Nat} (h:b≤k) (h2:k≤8):IntKind.i64.wrap ((k:Int)-(b:Int))=((k-b:Nat):Int):=by
 rw [few_w _ (by omega) (by omega)]
 omega
theorem DagFewer_walk (w:World) (hg:ETyped w) (ht:ErrT w) (s:ByteArray) (hsz:s.size≤maxLen):
  Calls Tryz.prog 11 #[.string s] w fun e w'=>e=.returned (.bool true)∧Below w.heap.size w w':=by
 obtain ⟨s2,hs2⟩:∃ s2,s2=s.extract 0 (minN s.size 4200):=⟨_,rfl⟩
 have hz2:s2.size≤100000:=by
  have:=(Zjt s.size 4200).2.1
  rw [hs2,ByteArray.size_extract]
  omega
 obtain ⟨F,hF,hF2⟩:∃ F,(∀ l,scanM s2=.toks l→12*l.length+20≤F)∧F≤10000:=by
  cases h:scanM s2 with
  | toks l=>exact ⟨12*l.length+20,fun l' h'=>by injection h' with h';subst h';exact Kag _,by have:=(ZdU h).1;omega⟩
  | err c p=>exact ⟨0,fun l' h'=>(by cases h'),by omega⟩
 have HF:=hid hF
 have HZ2:=hid hz2
 have HW:=hid (dawake_true w hg ht)
 have HCUT:=hid (fun W=>Zml s hsz W)
 rw [←hs2] at HCUT
 have HG:=hid hg
 have HT:=hid ht
 clear hs2 hz2 hF hg ht
 go_enter Tryz.func11,Tryz.ntmps11
 go_wp2_with (first
  | (go_at_call 33;refine HW.out.mono ?_;rintro e w1 ⟨rfl,b1⟩;have HB1:=hid b1;have HG1:=hid (HG.out.next b1);have HT1:=hid (HT.out.next b1);clear b1)
  | (go_at_call 17;refine (HCUT.out _).mono ?_;rintro e w' ⟨rfl,rfl⟩))
 refine (Zhh s2 F w1 HZ2.out HG1.out HT1.out HF.out).mono ?_
 rintro e w2 ⟨hb2,h⟩
 rcases h with ⟨l,hl,he,SA,sc,EA,ec,rfl,oS,oE⟩ | ⟨l,c,p,v,hl,he,rfl,hv⟩ | ⟨c,p,v,hl,rfl,hv⟩
 ·have hlen:=(ZdU hl).1
  have hns:=Zih he
  have hne:=ZlE F l
  have hnm:=ZhK (ZhJ hl) F
  have hsp:=ZkK (Zgp hl) F
  have hS:=oS.int
  have hE:=oE.int
  obtain ⟨ss,hss⟩:∃ ss,ss=(Zao F l).ss.map SI.of:=⟨_,rfl⟩
  obtain ⟨es,hes⟩:∃ es,es=(Zao F l).es.map EI.of:=⟨_,rfl⟩
  rw [←hss] at hS
  rw [←hes] at hE
  have HNM:=hid (show ∀ e∈es,e.num≤18446744073709551615 from fun e he=>by
   rw [hes] at he
   obtain ⟨x,hx,rfl⟩:=List.mem_map.1 he
   exact hnm x hx)
  have HSP:=hid (show ∀ s∈ss,s.shape.length≤1000000 from fun e he=>by
   rw [hss] at he
   obtain ⟨x,hx,rfl⟩:=List.mem_map.1 he
   have:=(hsp x hx).2
   show (x.shape.map Int.ofNat).length≤_
   rw [Kak]
   omega)
  obtain ⟨ns,hn1⟩:∃ ns,ns=(Zao F l).ss.length:=⟨_,rfl⟩
  obtain ⟨ne,hn2⟩:∃ ne,ne=(Zao F l).es.length:=⟨_,rfl⟩
  have hls:=hid (show ns=ss.length from by rw [hss,Kak,hn1])
  have hle:=hid (show ne=es.length from by rw [hes,Kak,hn2])
  have hns':ns≤64:=by rw [hn1];exact hns
  have hne':ne≤513:=by rw [hn2];exact Kah hne hlen
  rw [←hn1,←hn2]
  have HG2:=hid (HG1.out.next hb2)
  have HB2:=hid (bnext HB1.out hb2)
  have HS2:=hid hS
  have HE2:=hid hE
  clear hlen hns hne hS hE hss hes hn1 hn2 oS oE hl he hb2 hnm hsp
  go_upto_region 6 with fail
  obtain ⟨w3,hw3⟩:∃ w3,w3=w2.alloc (.cells #[.slice SA ns sc,.slice EA ne ec] 26):=⟨_,rfl⟩
  rw [←hw3]
  have hb3:Below w2.heap.size w2 w3:=by rw [hw3];exact alloc_below _ _
  have hA:w3.heap[w2.heap.size]?=some (.cells #[.slice SA ns sc,.slice EA ne ec] 26 (0,0)):=by rw [hw3];exact Kac w2 _
  have HTC:=hid (show ∀ W,Below w3.heap.size w3 W→W.cell? ⟨w2.heap.size,0,none⟩=some (.slice SA ns sc)∧W.cell? ⟨w2.heap.size,1,none⟩=some (.slice EA ne ec) from fun W hW=>by
   have h:=(hW.block _ (Kab.1 hA).1).trans hA
   exact ⟨Kaa _ _ 0 _ _ _ h,Kaa _ _ 1 _ _ _ h⟩)
  have HB3:=hid (bnext HB2.out hb3)
  have HS3:=hid (HS2.out.next hb3)
  have HE3:=hid (HE2.out.next hb3)
  have HG3:=hid (HG2.out.next hb3)
  have HISH0:=hid (show ∀ x∈Zae ss 0,x.length≤1000000 from fun x hx=>by obtain ⟨y,hy,rfl⟩:=Zcq hx;exact HSP.out y hy)
  have HISH1:=hid (show ∀ x∈Zae ss 1,x.length≤1000000 from fun x hx=>by obtain ⟨y,hy,rfl⟩:=Zcq hx;exact HSP.out y hy)
  obtain ⟨m0,hm0⟩:∃ n,n=(Zae ss 0).length:=⟨_,rfl⟩
  obtain ⟨m1,hm1⟩:∃ n,n=(Zae ss 1).length:=⟨_,rfl⟩
  have hmm0:m0≤1000000:=by have:=ZbR ss 0;have:=hls.out;omega
  have hmm1:m1≤1000000:=by have:=ZbR ss 1;have:=hls.out;omega
  have HM0:=hid hm0
  have HM1:=hid hm1
  clear hw3 hb3 hA hm0 hm1
  obtain ⟨nb,hnb⟩:∃ q,q=w3.heap.size:=⟨_,rfl⟩
  obtain ⟨wn,hwn⟩:∃ x,x=w3.alloc (.cells #[.int .i64 0,.int .i64 0,.int .i64 0,.int .i64 0,.int .i64 0,.int .i64 0,.int .i64 0,.int .i64 0] 79):=⟨_,rfl⟩
  have HMN:=hid (show MkB wn 79 nb 8 (fun j=>VNt ((fun _=>0) j)) from by rw [hwn,hnb];exact Kac w3 _)
  have HBN:=hid (show Below w3.heap.size w3 wn from by rw [hwn];exact alloc_below _ _)
  have HNBL:=hid (show w3.heap.size≤nb from Nat.le_of_eq hnb.symm)
  have HWN:=hid hwn
  have HNB:=hid hnb
  clear hwn hnb
  go_upto_region 7 with fail
  rw [←HWN.out,←HNB.out]
  go_wp2_with fail
  go_loopw [22] (fun iv wr=>∃ (k:Nat) (N:Nat→Nat),k≤8∧iv=.int .i64 k∧(∀ j,j<k→∃ g,fewB ss es j=.inl g∧N j=g.1.length)∧MkB wr 79 nb 8 (fun j=>VNt (N j))∧Below w3.heap.size w3 wr) (fun iv _=>8-(intOf iv).toNat)
  case atStart=>exact ⟨0,fun _=>0,by omega,rfl,fun j h=>by omega,HMN.out,HBN.out⟩
  case round=>
  obtain ⟨k,N,hk,rfl,hK,hM,hb⟩:=hrel
  have HM:=hid hM
  have HBr:=hid hb
  have HB3r:=hid (bnext HB3.out hb)
  have HK:=hid hK
  clear hM hb hK
  by_cases hlt:k<8
  ·have h8k:decide ((k:Int)<8)=true:=by simp;omega
   obtain ⟨fb,hfb⟩:∃ b,b=(k % 2==1):=⟨_,rfl⟩
   obtain ⟨sb,hsb⟩:∃ b,b=(k / 2 % 2==1):=⟨_,rfl⟩
   obtain ⟨db,hdb⟩:∃ b,b=(k / 4==1):=⟨_,rfl⟩
   have qf:((k:Int) % 2==1)=fb:=by rw [hfb];exact few_b k 2
   have qs:((k:Int) / 2 % 2==1)=sb:=by rw [hsb];exact few_b (k / 2) 2
   have qd:((k:Int) / 4==1)=db:=by rw [hdb];exact few_e (k / 4)
   have HFW:=hid (show fewB ss es k=buildD fb sb db ss es from by rw [hfb,hsb,hdb];rfl)
   clear hfb hsb hdb
   have k0:(0:Int)≤(k:Int):=by omega
   have k1:(k:Int)<8:=by omega
   have HBD:=hid (build_any SA EA ns ne sc ec ss es fb sb db wr hls.out hle.out (by omega) (by omega) (HS3.out.next HBr.out) (HE3.out.next HBr.out) (HG3.out.next HBr.out) HNM.out HSP.out)
   have z:=HTC.out _ HBr.out
   have z0:=z.1
   have z1:=z.2
   clear z
   cases hbd:buildD fb sb db ss es with
   | inr c=>
    rw [hbd] at HBD
    go_wp2_with (go_at_call 34;refine HBD.out.mono ?_;rintro e w4 hb;obtain ⟨hb4,ti,xi,ps,rfl,hve⟩:=hb.bad)
    go_ret
    exact ⟨rfl,((bnext HB3r.out hb4)).alloc (Kah HB3r.out.size hb4.size) _⟩
   | inl G=>
    rw [hbd] at HBD
    have HBK:=hid (show fewB ss es k=.inl G from HFW.out.trans hbd)
    have HON:=hid (built_wf hbd).2.2.2
    have h64:=(built_wf hbd).2.2.1
    clear hbd
    go_upto_region 13 with (go_at_call 34;refine HBD.out.mono ?_;rintro e w4 hb;obtain ⟨hb4,NA,nc,ms,OA,oc,A0,n0,c0,A1,n1,c1,B,rfl,hB,hfst,hr,ho,h0,h1⟩:=hb.ok)
    have hml:ms.length=G.1.length:=by have:=congrArg List.length hfst;rwa [Kak] at this
    rw [HON.out]
    obtain ⟨L,hL⟩:∃ n,n=G.1.length:=⟨_,rfl⟩
    rw [hml,←hL]
    rw [←hL] at h64
    have HL:=hid hL
    obtain ⟨w5,hw5⟩:∃ w5,w5=w4.alloc (.cells #[.slice NA L nc,.slice OA (outsN ss) oc,.slice A0 n0 c0,.slice A1 n1 c1] 68):=⟨_,rfl⟩
    obtain ⟨gb,hgb⟩:∃ q,q=w4.heap.size:=⟨_,rfl⟩
    rw [←hw5,←hgb]
    have hb5:Below w4.heap.size w4 w5:=by rw [hw5];exact alloc_below _ _
    have hGB:w5.heap[gb]?=some (.cells #[.slice NA L nc,.slice OA (outsN ss) oc,.slice A0 n0 c0,.slice A1 n1 c1] 68 (0,0)):=by rw [hw5,hgb];exact Kac w4 _
    have hbr5:=bnext hb4 hb5
    have HB35:=hid (bnext HBr.out hbr5)
    have hM5:=HM.out.next hbr5
    have fx:=hM5.free k
    have cx:=hM5.cell (i:=k) (by omega)
    have y0:=Kaa _ _ 0 _ _ _ hGB
    obtain ⟨w6,hw6⟩:∃ w6,w6=w5.setCell ⟨nb,k,none⟩ (.int .i64 (L:Int)):=⟨_,rfl⟩
    have HM6:=hid (show MkB w6 79 nb 8 (fun j=>VNt (if j=k then L else N j)) from by rw [hw6];exact hM5.set (by omega) _ _ (fun y=>by split <;> rfl))
    have hne6:∀ b,b≠nb→w6.heap[b]?=w5.heap[b]?:=fun b hb=>by rw [hw6];exact ZaS _ _ _ hb
    have HB36:=hid (show Below w3.heap.size w3 w6 from by rw [hw6];exact Zaf HB35.out HNBL.out _)
    have HGN:=hid (show gb≠nb from by have:=HM.out.lt;have:=hb4.size;omega)
    have hGB6:=(hne6 gb HGN.out).trans hGB
    have HR0:=hid ((((h0.next hb5).other hM5 (by decide) (by decide) (fun g _ hg=>hne6 g hg)).rd HISH0.out).1)
    have HR1:=hid ((((h1.next hb5).other hM5 (by decide) (by decide) (fun g _ hg=>hne6 g hg)).rd HISH1.out).1)
    have hn0:n0=m0:=by rw [HM0.out];exact ((h0.rd HISH0.out).2)
    have hn1:n1=m1:=by rw [HM1.out];exact ((h1.rd HISH1.out).2)
    subst hn0 hn1
    have HGB6:=hid hGB6
    have HW6:=hid hw6
    clear hw5 hgb hGB hGB6 hb5 hbr5 hM5 hne6 hw6 hb4 hr ho h0 h1 hfst hml hL z0 z1
    go_upto_region 14 with fail
    rw [←HW6.out]
    clear y0 fx cx
    obtain ⟨G0,hG0⟩:∃ G0,buildD false false false ss es=.inl G0:=by
     by_cases h0:k=0
     ·subst h0;exact ⟨G,HBK.out⟩
     ·obtain ⟨g,h,_⟩:=HK.out 0 (by omega);exact ⟨g,h⟩
    have HB0:=hid hG0
    clear hG0 qf qs qd
    have HBD0:=build_any SA EA ns ne sc ec ss es false false false w6 hls.out hle.out (by omega) (by omega) (HS3.out.next HB36.out) (HE3.out.next HB36.out) (HG3.out.next HB36.out) HNM.out HSP.out
    rw [HB0.out] at HBD0
    have HBD0:=hid HBD0
    obtain ⟨z0,z1⟩:=HTC.out _ HB36.out
    go_upto_region 15 with (go_at_call 34;refine HBD0.out.mono ?_;rintro e w7 hb;obtain ⟨hb7,NA2,nc2,ms2,OA2,oc2,I0,k0,q0,I1,k1,q1,B2,rfl,hB2,hfst2,hr2,ho2,h02,h12⟩:=hb.ok)
    rw [(built_wf HB0.out).2.2.2]
    have hk0:k0=n0:=by rw [HM0.out];exact ((h02.rd HISH0.out).2)
    have hk1:k1=n1:=by rw [HM1.out];exact ((h12.rd HISH1.out).2)
    subst hk0 hk1
    obtain ⟨w8,hw8⟩:∃ w8,w8=w7.alloc (.cells #[.slice NA2 ms2.length nc2,.slice OA2 (outsN ss) oc2,.slice I0 k0 q0,.slice I1 k1 q1] 68):=⟨_,rfl⟩
    obtain ⟨hb,hhb⟩:∃ q,q=w7.heap.size:=⟨_,rfl⟩
    rw [←hw8,←hhb]
    have hb8:Below w7.heap.size w7 w8:=by rw [hw8];exact alloc_below _ _
    have hHB:w8.heap[hb]?=some (.cells #[.slice NA2 ms2.length nc2,.slice OA2 (outsN ss) oc2,.slice I0 k0 q0,.slice I1 k1 q1] 68 (0,0)):=by rw [hw8,hhb];exact Kac w7 _
    have hb68:=bnext hb7 hb8
    have HB38:=hid (bnext HB36.out hb68)
    have HM8:=hid (HM6.out.next hb68)
    have HGC:=hid (show ∀ W,Below w8.heap.size w8 W→W.heap[gb]?=_∧W.heap[hb]?=_ from fun W hW=>And.intro ((hW.block gb (Kae (Kab.1 HGB6.out).1 hb68.size)).trans ((hb68.block gb (Kab.1 HGB6.out).1).trans HGB6.out)) ((hW.block hb (Kab.1 hHB).1).trans hHB))
    have HR0':=hid (((h02.rd HISH0.out).1).next hb8)
    have HR1':=hid (((h12.rd HISH1.out).1).next hb8)
    have HQ0:=hid (show ∀ W,Below w8.heap.size w8 W→Calls Tryz.prog 37 #[.slice A0 k0 c0,.slice I0 k0 q0] W fun e w'=>e=.returned (.bool true)∧Below W.heap.size W w' from fun W hW=>by have h:=sameSh_any A0 I0 k0 k0 c0 q0 (Zae ss 0) (Zae ss 0) W HM0.out HM0.out hmm0 hmm0 ((HR0.out.next hb68).next hW) (HR0'.out.next hW);rw [beq_self_eq_true] at h;exact h)
    have HQ1:=hid (show ∀ W,Below w8.heap.size w8 W→Calls Tryz.prog 37 #[.slice A1 k1 c1,.slice I1 k1 q1] W fun e w'=>e=.returned (.bool true)∧Below W.heap.size W w' from fun W hW=>by have h:=sameSh_any A1 I1 k1 k1 c1 q1 (Zae ss 1) (Zae ss 1) W HM1.out HM1.out hmm1 hmm1 ((HR1.out.next hb68).next hW) (HR1'.out.next hW);rw [beq_self_eq_true] at h;exact h)
    clear hw8 hhb hHB hb68 hb8 hb7 hB2 hfst2 hr2 ho2 h02 h12 z0 z1
    obtain ⟨g8,h8⟩:=HGC.out _ (Kai _ _)
    have u1:=Kaa _ _ 1 _ _ _ g8
    have v1:=Kaa _ _ 1 _ _ _ h8
    have u2:=Kaa _ _ 2 _ _ _ g8
    have v2:=Kaa _ _ 2 _ _ _ h8
    obtain ⟨on,hon⟩:∃ n,n=outsN ss:=⟨_,rfl⟩
    rw [←hon] at u1 v1
    have qo:((on:Int) != (on:Int))=false:=by simp
    clear g8 h8 hon
    go_upto_region 17 with (first
     | (with_reducible show Calls _ _ #[.slice A0 k0 c0,.slice I0 k0 q0] _ _;refine (HQ0.out _ (Kai _ _)).mono ?_;rintro e w9 ⟨rfl,b9⟩;have HB9:=hid b9;obtain ⟨g9,h9⟩:=HGC.out _ b9;have u3:=Kaa _ _ 3 _ _ _ g9;have v3:=Kaa _ _ 3 _ _ _ h9;clear b9 g9 h9)
     | (with_reducible show Calls _ _ #[.slice A1 k1 c1,.slice I1 k1 q1] _ _;refine (HQ1.out _ HB9.out).mono ?_;rintro e w10 ⟨rfl,b10⟩;have HB10:=hid (bnext HB9.out b10);clear b10))
    clear u1 u2 u3 v1 v2 v3 qo
    go_wp2_with fail
    have HKL:=hid (show ∀ j,j<k+1→∃ g,fewB ss es j=.inl g∧(if j=k then L else N j)=g.1.length from fun j hj=>by
     by_cases h:j=k
     ·subst h;exact ⟨G,HBK.out,by rw [if_pos rfl];exact HL.out⟩
     ·obtain ⟨g,h1,h2⟩:=HK.out j (by omega);exact ⟨g,h1,by rw [if_neg h];exact h2⟩)
    go_loopw [11] (fun bv wq=>(∃ bt:Nat,bv=.int .i64 bt∧(bt=1∨bt=2∨bt=4∨bt=8))∧Below w8.heap.size w8 wq) (fun bv _=>8-(intOf bv).toNat)
    case atStart=>exact ⟨⟨1,rfl,by omega⟩,HB10.out⟩
    case round=>
    rename World=>wq
    obtain ⟨⟨bt,rfl,hbt⟩,hbq⟩:=hrel
    have HBq:=hid hbq
    have HMq:=HM8.out.next hbq
    clear hbq
    rcases hbt with rfl | rfl | rfl | rfl
    ·obtain ⟨bb,hbb⟩:∃ b,b=(k / 1 % 2==1):=⟨_,rfl⟩
     have bw:IntKind.i64.wrap (k:Int)=(k:Int):=few_w _ (by omega) (by omega)
     have bs:((k:Int).tmod 2==1)=bb:=by rw [hbb,Nat.div_one];exact few_b k 2
     have bs2:((k:Int) % 2==1)=bb:=by rw [hbb,Nat.div_one];exact few_b k 2
     have HBB:=hid hbb
     clear hbb
     cases bb
     ·clear HMq
      go_wp2_with fail
      go_quiet (fail)
      go_wp2_with fail
      exact ⟨⟨⟨2,rfl,by omega⟩,Zaa HBq.out _⟩,by simp [intOf]⟩
     ·have hle:1≤k:=by
       rcases Nat.lt_or_ge k 1 with h | h
       ·have:=HBB.out;rw [Nat.div_eq_of_lt h] at this;cases this
       ·exact h
      have cK0:=HMq.cell (i:=k) (by omega)
      have cB0:=HMq.cell (i:=k-1) (by omega)
      rw [if_pos rfl] at cK0
      rw [if_neg (by omega)] at cB0
      obtain ⟨gg,hg1,hg2⟩:=HKL.out (k-1) (by omega)
      rw [if_neg (by omega)] at hg2
      have hle2:=few_le (k:=k) (bit:=1) (by omega) (by omega) (by have:=HBB.out;exact beq_iff_eq.1 this.symm) hg1 HBK.out
      obtain ⟨LB,hLB⟩:∃ x,x=N (k-1):=⟨_,rfl⟩
      obtain ⟨kb,hkb⟩:∃ x,x=k-1:=⟨_,rfl⟩
      have cK:wq.cell? ⟨nb,k,none⟩=some (.int .i64 (L:Int)):=cK0
      have cB:wq.cell? ⟨nb,kb,none⟩=some (.int .i64 (LB:Int)):=by rw [hLB,hkb];exact cB0
      have hcmp:L≤LB:=by rw [hLB,hg2,HL.out];exact hle2
      have qc:decide ((LB:Int)<(L:Int))=false:=by simp;omega
      have qn:decide (LB<L)=false:=by simp;omega
      have qw:IntKind.i64.wrap ((k:Int)-1)=(kb:Int):=by rw [hkb];exact few_s hle (by omega)
      have i0:(0:Int)≤(kb:Int):=by omega
      have i1:(kb:Int)<8:=by omega
      clear hg1 hg2 hle2 hLB hcmp HMq cK0 cB0 hle hkb
      go_wp2_with fail
      go_quiet (fail)
      go_wp2_with fail
      exact ⟨⟨⟨2,rfl,by omega⟩,Zaa HBq.out _⟩,by simp [intOf]⟩
    ·obtain ⟨bb,hbb⟩:∃ b,b=(k / 2 % 2==1):=⟨_,rfl⟩
     obtain ⟨kq,hkq⟩:∃ x,x=k / 2:=⟨_,rfl⟩
     have bq:IntKind.i64.wrap ((k:Int).tdiv 2)=(kq:Int):=by rw [hkq];exact few_q k 2 (by omega)
     have bq2:IntKind.i64.wrap ((k:Int) / 2)=(kq:Int):=bq
     have bs:((kq:Int).tmod 2==1)=bb:=by rw [hkq,hbb];exact few_b _ 2
     have bs2:((kq:Int) % 2==1)=bb:=by rw [hkq,hbb];exact few_b _ 2
     clear hkq
     have HBB:=hid hbb
     clear hbb
     cases bb
     ·clear HMq
      go_wp2_with fail
      go_quiet (fail)
      go_wp2_with fail
      exact ⟨⟨⟨4,rfl,by omega⟩,Zaa HBq.out _⟩,by simp [intOf]⟩
     ·have hle:2≤k:=by
       rcases Nat.lt_or_ge k 2 with h | h
       ·have:=HBB.out;rw [Nat.div_eq_of_lt h] at this;cases this
       ·exact h
      have cK0:=HMq.cell (i:=k) (by omega)
      have cB0:=HMq.cell (i:=k-2) (by omega)
      rw [if_pos rfl] at cK0
      rw [if_neg (by omega)] at cB0
      obtain ⟨gg,hg1,hg2⟩:=HKL.out (k-2) (by omega)
      rw [if_neg (by omega)] at hg2
      have hle2:=few_le (k:=k) (bit:=2) (by omega) (by omega) (by have:=HBB.out;exact beq_iff_eq.1 this.symm) hg1 HBK.out
      obtain ⟨LB,hLB⟩:∃ x,x=N (k-2):=⟨_,rfl⟩
      obtain ⟨kb,hkb⟩:∃ x,x=k-2:=⟨_,rfl⟩
      have cK:wq.cell? ⟨nb,k,none⟩=some (.int .i64 (L:Int)):=cK0
      have cB:wq.cell? ⟨nb,kb,none⟩=some (.int .i64 (LB:Int)):=by rw [hLB,hkb];exact cB0
      have hcmp:L≤LB:=by rw [hLB,hg2,HL.out];exact hle2
      have qc:decide ((LB:Int)<(L:Int))=false:=by simp;omega
      have qn:decide (LB<L)=false:=by simp;omega
      have qw:IntKind.i64.wrap ((k:Int)-2)=(kb:Int):=by rw [hkb];exact few_s hle (by omega)
      have i0:(0:Int)≤(kb:Int):=by omega
      have i1:(kb:Int)<8:=by omega
      clear hg1 hg2 hle2 hLB hcmp HMq cK0 cB0 hle hkb
      go_wp2_with fail
      go_quiet (fail)
      go_wp2_with fail
      exact ⟨⟨⟨4,rfl,by omega⟩,Zaa HBq.out _⟩,by simp [intOf]⟩
    ·obtain ⟨bb,hbb⟩:∃ b,b=(k / 4 % 2==1):=⟨_,rfl⟩
     obtain ⟨kq,hkq⟩:∃ x,x=k / 4:=⟨_,rfl⟩
     have bq:IntKind.i64.wrap ((k:Int).tdiv 4)=(kq:Int):=by rw [hkq];exact few_q k 4 (by omega)
     have bq2:IntKind.i64.wrap ((k:Int) / 4)=(kq:Int):=bq
     have bs:((kq:Int).tmod 2==1)=bb:=by rw [hkq,hbb];exact few_b _ 2
     have bs2:((kq:Int) % 2==1)=bb:=by rw [hkq,hbb];exact few_b _ 2
     clear hkq
     have HBB:=hid hbb
     clear hbb
     cases bb
     ·clear HMq
      go_wp2_with fail
      go_quiet (fail)
      go_wp2_with fail
      exact ⟨⟨⟨8,rfl,by omega⟩,Zaa HBq.out _⟩,by simp [intOf]⟩
     ·have hle:4≤k:=by
       rcases Nat.lt_or_ge k 4 with h | h
       ·have:=HBB.out;rw [Nat.div_eq_of_lt h] at this;cases this
       ·exact h
      have cK0:=HMq.cell (i:=k) (by omega)
      have cB0:=HMq.cell (i:=k-4) (by omega)
      rw [if_pos rfl] at cK0
      rw [if_neg (by omega)] at cB0
      obtain ⟨gg,hg1,hg2⟩:=HKL.out (k-4) (by omega)
      rw [if_neg (by omega)] at hg2
      have hle2:=few_le (k:=k) (bit:=4) (by omega) (by omega) (by have:=HBB.out;exact beq_iff_eq.1 this.symm) hg1 HBK.out
      obtain ⟨LB,hLB⟩:∃ x,x=N (k-4):=⟨_,rfl⟩
      obtain ⟨kb,hkb⟩:∃ x,x=k-4:=⟨_,rfl⟩
      have cK:wq.cell? ⟨nb,k,none⟩=some (.int .i64 (L:Int)):=cK0
      have cB:wq.cell? ⟨nb,kb,none⟩=some (.int .i64 (LB:Int)):=by rw [hLB,hkb];exact cB0
      have hcmp:L≤LB:=by rw [hLB,hg2,HL.out];exact hle2
      have qc:decide ((LB:Int)<(L:Int))=false:=by simp;omega
      have qn:decide (LB<L)=false:=by simp;omega
      have qw:IntKind.i64.wrap ((k:Int)-4)=(kb:Int):=by rw [hkb];exact few_s hle (by omega)
      have i0:(0:Int)≤(kb:Int):=by omega
      have i1:(kb:Int)<8:=by omega
      clear hg1 hg2 hle2 hLB hcmp HMq cK0 cB0 hle hkb
      go_wp2_with fail
      go_quiet (fail)
      go_wp2_with fail
      exact ⟨⟨⟨8,rfl,by omega⟩,Zaa HBq.out _⟩,by simp [intOf]⟩
    ·go_wp2_with fail
     exact ⟨⟨k+1,fun j=>if j=k then L else N j,by omega,rfl,HKL.out,HMq,bnext HB38.out HBq.out⟩,by simp [intOf];omega⟩
  ·obtain rfl:k=8:=by omega
   go_wp2_with fail
   go_ret
   exact ⟨rfl,HB3r.out⟩
 ·obtain ⟨ti,xi,rfl⟩:=hv.iface
  go_wp2_with fail
  go_ret
  exact ⟨rfl,(bnext HB1.out hb2).alloc (Kah HB1.out.size hb2.size) _⟩
 ·obtain ⟨ti,xi,rfl⟩:=hv.iface
  go_wp2_with fail
  go_ret
  exact ⟨rfl,(bnext HB1.out hb2).alloc (Kah HB1.out.size hb2.size) _⟩
end Go.Proofs.YtghlnncfigkkaaaGreatDoor
