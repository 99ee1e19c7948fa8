/-
 What a graph says of any inputs is what its tree says.
-/
import Derived.Test.YtghlnncfigkkaaaGreatDoorQDgA
import Derived.Test.YtghlnncfigkkaaaGreatDoorQDgE
import Derived.Test.YtghlnncfigkkaaaGreatDoorQDgB
import Derived.Test.YtghlnncfigkkaaaGreatDoorQDgC
import Derived.Test.YtghlnncfigkkaaaGreatDoorQChkV
import Derived.Test.YtghlnncfigkkaaaGreatDoorQChkI
set_option maxRecDepth 100000
set_option maxHeartbeats 2000000
set_option linter.unusedVariables false
set_option linter.unusedSimpArgs false
namespace Go.Proofs.YtghlnncfigkkaaaGreatDoor
open Go.RowKit
def nodeV (in0 in1:List TN) (V:Nat→TN) (n:ND):TN:=
 if n.kind=1 then (if n.party=0 then in0.getD n.input zTN else in1.getD n.input zTN)
 else if n.kind=2 then tnD n
 else ⟨n.shape,Zbc n.kind n.k (Zad n.shape).toNat (n.args.map V)⟩
def valsD (in0 in1:List TN) (l:List ND):Nat→(Nat→TN)
 | 0=>fun _=>zTN
 | i+1=>fun a=>if a=i then nodeV in0 in1 (valsD in0 in1 l i) (atD l i) else valsD in0 in1 l i a
def valOf (in0 in1:List TN) (l:List ND) (a:Nat):TN:=valsD in0 in1 l (a+1) a
def outD (in0 in1:List TN) (l:List ND) (outs:List Nat):List TN:=outs.map (valOf in0 in1 l)
section
variable {in0 in1:List TN} {l l':List ND}
theorem valsD_stay:∀ (n a:Nat),a<n→valsD in0 in1 l n a=valOf in0 in1 l a
 | 0,a,h=>by omega
 | n+1,a,h=>by
  by_cases e:a=n
  ·rw [e];rfl
  ·show (if a=n then _ else _)=_
   rw [if_neg e]
   exact valsD_stay n a (by omega)
theorem nodeV_congr {V V':Nat→TN} {n:ND} (h:∀ a∈n.args,V a=V' a):nodeV in0 in1 V n=nodeV in0 in1 V' n:=by
 unfold nodeV
 rw [List.map_congr_left h]
theorem valOf_eq (ha:∀ i,∀ a∈(atD l i).args,a<i) (a:Nat):valOf in0 in1 l a=nodeV in0 in1 (valOf in0 in1 l) (atD l a):=by
 show (if a=a then _ else _)=_
 rw [if_pos rfl]
 exact nodeV_congr fun b hb=>valsD_stay a b (ha a b hb)
theorem valOf_pre (ha:∀ i,∀ a∈(atD l i).args,a<i) (ha':∀ i,∀ a∈(atD l' i).args,a<i) (hp:l <+: l'):∀ a,a<l.length→valOf in0 in1 l' a=valOf in0 in1 l a:=by
 intro a
 induction a using Nat.strongRecOn with
 | _ a ih=>
  intro h
  rw [valOf_eq ha,valOf_eq ha',atD_pre h hp]
  exact nodeV_congr fun b hb=>ih b (ha a b hb) (by have:=ha a b hb;omega)
end
def FitD (ws:List (List Int)) (ts:List TN):Prop:=∀ i s,ws[i]?=some s→(ts.getD i zTN).sh=s
theorem fit_fitD {ws:List (List Int)} {ts:List TN} (h:fitT ws ts=true):FitD ws ts:=by
 intro i s hs
 have h1:=(Zb0 h).1
 have h2:(ts.map TN.sh)[i]?=some s:=by rw [h1];exact hs
 rw [Kal,Option.map_eq_some_iff] at h2
 obtain ⟨t,ht,e⟩:=h2
 rw [List.getD_eq_getElem?_getD,ht]
 exact e
theorem valOf_sh {w0 w1:List (List Int)} {in0 in1:List TN} {l:List ND} (hw:WfD w0 w1 l) (f0:FitD w0 in0) (f1:FitD w1 in1) {a:Nat} (h:a<l.length):(valOf in0 in1 l a).sh=(atD l a).shape:=by
 rw [valOf_eq hw.ahead]
 unfold nodeV
 rcases (hw a _ (atD_lt h)).kinds with q | q | q
 ·rw [if_pos q.1]
  rcases q.2.2.2.2 with ⟨p0,p1⟩ | ⟨p0,p1⟩
  ·rw [if_pos p0];exact f0 _ _ p1
  ·rw [if_neg (by omega)];exact f1 _ _ p1
 ·rw [if_neg (by omega),if_pos q.1];rfl
 ·rw [if_neg (by omega),if_neg (by omega)]
theorem valOf_made {w0 w1:List (List Int)} {in0 in1:List TN} {l:List ND} {n:ND} (f s:Bool) (hw:WfD w0 w1 l) (hn:NodeOk w0 w1 l l.length n):valOf in0 in1 (madeD f s l n).1 (madeD f s l n).2=nodeV in0 in1 (valOf in0 in1 l) n:=by
 have hfold:nodeV in0 in1 (valOf in0 in1 l) (foldD f l n)=nodeV in0 in1 (valOf in0 in1 l) n:=by
  unfold foldD
  split
  ·rename_i hc
   obtain ⟨_,c1,c2⟩:=hc
   have hk:3≤n.kind:=by
    rcases hn.kinds with q | q | q
    ·exact absurd q.2.1 c1
    ·exact absurd q.2.1 c1
    ·exact q.1
   unfold nodeV tnD valD
   dsimp only
   rw [if_neg (show ¬ (2:Nat)=1 by decide),if_pos rfl,if_neg (by omega),if_neg (by omega)]
   congr 2
   refine List.map_congr_left fun a ha => ?_
   have hal:=hn.ahead a ha
   have hk2:(atD l a).kind=2:=by have:=List.all_eq_true.1 c2 a ha;unfold constD at this;simpa using this
   rw [valOf_eq hw.ahead]
   unfold nodeV
   rw [if_neg (by omega),if_pos hk2]
  ·rfl
 have hwm:=madeD_wf f s hw hn
 have hpre:=madeD_pre f s l n
 rw [valOf_eq hwm.ahead,atD_some (madeD_at f s l n),←hfold]
 exact nodeV_congr fun a ha=>valOf_pre hw.ahead hwm.ahead hpre a ((foldD_ok f hw hn).ahead a ha)
theorem wordsF_num {k:Int} (h:k≠9) (a b size:Nat) (x:List TN):Zbc k a size x=Zbc k b size x:=by
 have:∀ u v,oneF k a u v=oneF k b u v:=fun u v=>by
  unfold oneF
  rw [if_neg h,if_neg h]
 unfold Zbc
 dsimp only
 simp only [this]
def NamesV (in0 in1:List TN) (l:List ND) (names:PlacesD) (sn:Names) (nt:Zah):Prop:=∀ n,(findN sn n).isSome=true→valOf in0 in1 l (placeD names n)=findT nt n
theorem let_val {w0 w1:List (List Int)} {in0 in1:List TN} {es:List EI} {sh:List (List Int)} {names:PlacesD} {sn:Names} {nt:Zah} {root:Nat} {l:List ND} (f s:Bool) (hx:exsOk 0 es=true) (ho:Ahead es) (hl:LetOk es sn sh root) (hw:WfD w0 w1 l) (hn:NamesD l names sn) (hv:NamesV in0 in1 l names sn nt) (f0:FitD w0 in0) (f1:FitD w1 in1):
  ∀ i a,a<i→Zac es root a=true→valOf in0 in1 (letD f s es sh names (Zac es root) l i).1 ((letD f s es sh names (Zac es root) l i).2 a)=letR es (Zac es root) nt i a
 | 0,a,h,_=>by omega
 | i+1,a,ha,hma=>by
  have ih:=let_val f s hx ho hl hw hn hv f0 f1 i
  have hres:=letD_res (names:=names) f s hx ho hl hw hn (Q:=fun _=>True) (fun _ _ _ _ _=>trivial) trivial i
  rw [Zcb]
  unfold letD
  dsimp only
  by_cases hm:Zac es root i=true
  ·rw [if_pos hm]
   obtain ⟨e,he,hc⟩:=hl.2 i hm
   rw [he]
   dsimp only
   by_cases hk2:e.kind=2
   ·rw [if_pos hk2]
    dsimp only
    unfold updD
    by_cases hai:a=i
    ·rw [if_pos hai,if_pos ⟨hai,hm⟩]
     unfold exprR
     rw [if_neg (by omega),if_pos hk2]
     unfold exprC at hc
     rw [if_pos hk2] at hc
     cases hfn:findN sn e.name with
     | none=>rw [hfn] at hc;cases hc
     | some s'=>
      rw [valOf_pre hw.ahead hres.wf.ahead hres.pre _ (hn _ _ hfn).1]
      exact hv _ (by rw [hfn];rfl)
    ·rw [if_neg hai,if_neg (fun e=>hai e.1)]
     exact ih a (by omega) hma
   ·rw [if_neg hk2]
    dsimp only
    have hmd:(e.args.length:Int)=madeP e.kind:=by
     have hex:=ZeT es 0 hx i e he
     unfold exOk at hex
     rw [Bool.and_eq_true,beq_iff_eq] at hex
     exact hex.1.symm
    have hkn:1≤e.kind∧e.kind≤14:=kind_range (by omega)
    have hargs:∀ a∈e.args,a.toNat<i∧Zac es root a.toNat=true:=fun a ha=>by
     have h4:=ho i e he a ha
     exact ⟨by omega,Zbi ho hl.1 i e hm he a ha⟩
    have hnode:=nodeD_ok (in0:=w0) (in1:=w1) (l:=(letD f s es sh names (Zac es root) l i).1) (P:=(letD f s es sh names (Zac es root) l i).2) hc hk2 hmd hkn (fun a ha=>hres.at_ a.toNat (hargs a ha).1 (hargs a ha).2)
    unfold updD
    by_cases hai:a=i
    ·rw [if_pos hai,if_pos ⟨hai,hm⟩,valOf_made f s hres.wf hnode]
     unfold exprC at hc
     rw [if_neg hk2] at hc
     dsimp only at hc
     split at hc
     ·cases hc
     ·injection hc with hc
      have hshp:(e.args.map fun a=>(letR es (Zac es root) nt i a.toNat).sh)=e.args.map fun a=>sh.getD a.toNat []:=List.map_congr_left fun a ha=>by
       rw [←ih a.toNat (hargs a ha).1 (hargs a ha).2,valOf_sh hres.wf f0 f1 (hres.at_ a.toNat (hargs a ha).1 (hargs a ha).2).1]
       exact (hres.at_ a.toNat (hargs a ha).1 (hargs a ha).2).2
      unfold exprR nodeV nodeD
      dsimp only
      rw [if_neg (c:=e.kind=2) hk2,hshp,hc]
      by_cases h1:e.kind=1
      ·have hkd:kindD e.kind=2:=by unfold kindD;rw [if_pos h1]
       rw [hkd,if_neg (by decide),if_pos rfl,if_pos h1]
       unfold tnD
       dsimp only
       rw [if_pos h1]
       have hs0:sh.getD i []=[]:=by rw [←hc,h1];rfl
       rw [hs0]
      ·have hk:kindD e.kind=e.kind.toNat:=by unfold kindD;rw [if_neg h1,if_pos (by omega)]
       have hki:((kindD e.kind:Nat):Int)=e.kind:=by rw [hk];omega
       rw [if_neg (by omega),if_neg (by omega),if_neg h1,hki]
       congr 1
       have hmm:List.map (valOf in0 in1 (letD f s es sh names (Zac es root) l i).1) (e.args.map fun a=>(letD f s es sh names (Zac es root) l i).2 a.toNat)=e.args.map fun a=>letR es (Zac es root) nt i a.toNat:=by
        rw [List.map_map]
        exact List.map_congr_left fun a ha=>ih a.toNat (hargs a ha).1 (hargs a ha).2
       rw [hmm]
       by_cases h9:e.kind=9
       ·rw [if_pos h9]
       ·exact wordsF_num h9 _ _ _ _
    ·rw [if_neg hai,if_neg (fun e=>hai e.1)]
     have h5:=hres.at_ a (by omega) hma
     rw [valOf_pre hres.wf.ahead (madeD_wf f s hres.wf hnode).ahead (madeD_pre f s _ _) _ h5.1]
     exact ih a (by omega) hma
  ·rw [if_neg hm]
   have hai:a≠i:=fun e=>hm (by rw [←e];exact hma)
   rw [if_neg (fun e=>hai e.1)]
   exact ih a (by omega) hma
theorem findT_snoc:∀ (names:Zah) (t:ByteArray) (v:TN) (n:ByteArray),findT (names++[(t,v)]) n=if (names.any fun q=>decide (q.1.toList=n.toList)) then findT names n else if t.toList=n.toList then v else zTN
 | [],t,v,n=>by simp [findT]
 | (a,b)::r,t,v,n=>by
  rw [List.cons_append]
  unfold findT
  rw [findT_snoc r t v n,List.any_cons]
  by_cases h:a.toList=n.toList
  ·rw [if_pos h,if_pos h,decide_eq_true h,Bool.true_or,if_pos rfl]
  ·rw [if_neg h,if_neg h,decide_eq_false h,Bool.false_or]
theorem keysT_any {nt:Zah} {sn:Names} (h:nt.map Prod.fst=sn.map Prod.fst) (n:ByteArray):(nt.any fun q=>decide (q.1.toList=n.toList))=(sn.any fun q=>decide (q.1.toList=n.toList)):=by
 have h1:(nt.any fun q=>decide (q.1.toList=n.toList))=((nt.map Prod.fst).any fun q=>decide (q.toList=n.toList)):=by rw [List.any_map];rfl
 have h2:(sn.any fun q=>decide (q.1.toList=n.toList))=((sn.map Prod.fst).any fun q=>decide (q.toList=n.toList)):=by rw [List.any_map];rfl
 rw [h1,h2,h]
theorem NamesV.snoc {in0 in1:List TN} {l:List ND} {names:PlacesD} {sn:Names} {nt:Zah} (h:NamesV in0 in1 l names sn nt) (hk:KeysD names sn) (ht:nt.map Prod.fst=sn.map Prod.fst) (t:ByteArray) (p:Nat) (sz:List Int) (v:TN) (hv:valOf in0 in1 l p=v):NamesV in0 in1 l (names++[(t,p)]) (sn++[(t,sz)]) (nt++[(t,v)]):=by
 intro n hs
 rw [findN_snoc] at hs
 rw [placeD_snoc,findT_snoc,hk.any,keysT_any ht,←findN_keys]
 cases hf:findN sn n with
 | some x=>simpa using h n (by rw [hf];rfl)
 | none=>
  rw [hf] at hs
  dsimp only at hs
  split at hs
  ·rename_i ht
   simp [ht,hv]
  ·cases hs
theorem NamesV.pre {w0 w1:List (List Int)} {in0 in1:List TN} {l l':List ND} {names:PlacesD} {sn:Names} {nt:Zah} (h:NamesV in0 in1 l names sn nt) (hn:NamesD l names sn) (hw:WfD w0 w1 l) (hw':WfD w0 w1 l') (hp:l <+: l'):NamesV in0 in1 l' names sn nt:=fun n hs=>by
 cases hf:findN sn n with
 | none=>rw [hf] at hs;cases hs
 | some s=>
  rw [valOf_pre hw.ahead hw'.ahead hp _ (hn n s hf).1]
  exact h n hs
theorem stmts_val {w0 w1:List (List Int)} {in0 in1:List TN} {es:List EI} {sh:List (List Int)} (f s:Bool) (hx:exsOk 0 es=true) (ho:Ahead es) (f0:FitD w0 in0) (f1:FitD w1 in1):∀ (ss:List SI) (names:PlacesD) (sn:Names) (nt:Zah) (l:List ND) (i0 i1:Nat) (outs:List Nat) (r:List ND × List Nat),
  Zas es sh ss sn→w0.drop i0=Zae ss 0→w1.drop i1=Zae ss 1→WfD w0 w1 l→NamesD l names sn→KeysD names sn→nt.map Prod.fst=sn.map Prod.fst→NamesV in0 in1 l names sn nt→(∀ o∈outs,o<l.length)→stmtsD f s es sh ss names l i0 i1 outs=some r →
  outD in0 in1 r.1 r.2=ZaG es in0 in1 ss nt i0 i1 (outD in0 in1 l outs)
 | [],names,sn,nt,l,i0,i1,outs,r,hok,hL0,hL1,hw,hn,hk,ht,hv,hou,h=>by
  unfold stmtsD at h
  injection h with h
  subst h
  rfl
 | x::ss,names,sn,nt,l,i0,i1,outs,r,hok,hL0,hL1,hw,hn,hk,ht,hv,hou,h=>by
  unfold stmtsD at h
  unfold ZaG
  unfold Zas at hok
  have outs_pre:∀ (l':List ND),WfD w0 w1 l'→l <+: l'→outD in0 in1 l' outs=outD in0 in1 l outs:=fun l' hw' hp=>List.map_congr_left fun o ho=>valOf_pre hw.ahead hw'.ahead hp o (hou o ho)
  by_cases h1:x.kind=1
  ·rw [if_pos h1] at h hok
   rw [if_pos h1]
   obtain ⟨hp,hsz,htk,hok⟩:=hok
   dsimp only at h ⊢
   have key:∀ (i:Nat),((x.party.toNat=0∧w0[i]?=some x.shape)∨(x.party.toNat=1∧w1[i]?=some x.shape))→NodeOk w0 w1 l l.length (inD x i):=fun i hi=>⟨fun a ha=>by simp [inD] at ha,hsz,.inl ⟨rfl,rfl,rfl,rfl,hi⟩⟩
   have go:∀ (i j0 j1:Nat) (v:TN),NodeOk w0 w1 l l.length (inD x i)→w0.drop j0=Zae ss 0→w1.drop j1=Zae ss 1→nodeV in0 in1 (valOf in0 in1 l) (inD x i)=v→stmtsD f s es sh ss (names++[(x.name,(madeD f s l (inD x i)).2)]) (madeD f s l (inD x i)).1 j0 j1 outs=some r →
     outD in0 in1 r.1 r.2=ZaG es in0 in1 ss (nt++[(x.name,v)]) j0 j1 (outD in0 in1 l outs):=fun i j0 j1 v hno hL0 hL1 hval h=>by
    have hpre:=madeD_pre f s l (inD x i)
    have hlt:=madeD_lt f s l (inD x i)
    have hwm:=madeD_wf f s hw hno
    have hsn:=(hn.pre hpre).snoc hk x.name _ hlt
    rw [show (atD (madeD f s l (inD x i)).1 (madeD f s l (inD x i)).2).shape=x.shape from by rw [atD_some (madeD_at f s l (inD x i)),foldD_shape];rfl] at hsn
    have:=stmts_val f s hx ho f0 f1 ss _ _ (nt++[(x.name,v)]) _ j0 j1 outs r hok hL0 hL1 hwm hsn.1 hsn.2 (by rw [List.map_append,List.map_append,ht];rfl) ((hv.pre hn hw hwm hpre).snoc hk ht x.name _ x.shape v (by rw [valOf_made f s hw hno];exact hval)) (fun o ho=>Kae (hou o ho) hpre.length_le) h
    rw [outs_pre _ hwm hpre] at this
    exact this
   by_cases hp0:x.party=0
   ·simp only [if_pos hp0] at h ⊢
    have d0:=drop_cons (hL0.trans (ZhE h1 hp0))
    by_cases h64:64<(madeD f s l (inD x i0)).1.length
    ·rw [if_pos h64] at h;cases h
    ·rw [if_neg h64] at h
     exact go i0 (i0+1) i1 _ (key i0 (.inl ⟨by rw [hp0];rfl,d0.1⟩)) d0.2 (hL1.trans (Zgm (.inr (by omega)))) (by unfold nodeV inD;dsimp only;rw [if_pos rfl,if_pos (by rw [hp0];rfl)]) h
   ·have hp1:x.party=1:=by omega
    simp only [if_neg hp0] at h ⊢
    have d1:=drop_cons (hL1.trans (ZhE h1 hp1))
    by_cases h64:64<(madeD f s l (inD x i1)).1.length
    ·rw [if_pos h64] at h;cases h
    ·rw [if_neg h64] at h
     exact go i1 i0 (i1+1) _ (key i1 (.inr ⟨by rw [hp1];rfl,d1.1⟩)) (hL0.trans (Zgm (.inr (by omega)))) d1.2 (by unfold nodeV inD;dsimp only;rw [if_pos rfl,if_neg (by rw [hp1];decide)]) h
  ·rw [if_neg h1] at h hok
   rw [if_neg h1]
   have hI0:w0.drop i0=Zae ss 0:=hL0.trans (Zgm (.inl h1))
   have hI1:w1.drop i1=Zae ss 1:=hL1.trans (Zgm (.inl h1))
   by_cases h2:x.kind=2
   ·rw [if_pos h2] at h hok
    rw [if_pos h2]
    obtain ⟨hl,htk,hok⟩:=hok
    dsimp only at h ⊢
    split at h
    ·cases h
    ·have hr:=letD_res (names:=names) f s hx ho hl hw hn (Q:=fun _=>True) (fun _ _ _ _ _=>trivial) trivial (x.expr.toNat+1)
     have hroot:Zac es x.expr.toNat x.expr.toNat=true:=by
      unfold Zac
      rw [Zd7 ho _ _ _ (Kag _)]
      simp
     obtain ⟨p1,p2⟩:=hr.at_ x.expr.toNat (Nat.lt_succ_self _) hroot
     have hval:=let_val f s hx ho hl hw hn hv f0 f1 (x.expr.toNat+1) x.expr.toNat (Nat.lt_succ_self _) hroot
     have hsn:=(hn.pre hr.pre).snoc hk x.name _ p1
     rw [p2] at hsn
     have:=stmts_val f s hx ho f0 f1 ss _ _ (nt++[(x.name,_)]) _ i0 i1 outs r hok hI0 hI1 hr.wf hsn.1 hsn.2 (by rw [List.map_append,List.map_append,ht];rfl) ((hv.pre hn hw hr.wf hr.pre).snoc hk ht x.name _ _ _ hval) (fun o ho=>Kae (hou o ho) hr.pre.length_le) h
     rw [outs_pre _ hr.wf hr.pre] at this
     exact this
   ·rw [if_neg h2] at h hok
    rw [if_neg h2]
    obtain ⟨htk,hok⟩:=hok
    split at h
    ·cases h
    ·have hpl:placeD names x.name<l.length:=by
      cases hfn:findN sn x.name with
      | none=>rw [hfn] at htk;cases htk
      | some y=>exact (hn _ _ hfn).1
     have:=stmts_val f s hx ho f0 f1 ss names sn nt l i0 i1 _ r hok hI0 hI1 hw hn hk ht hv (fun o ho=>by
      rcases List.mem_append.1 ho with ho | ho
      ·exact hou o ho
      ·rw [List.mem_singleton.1 ho];exact hpl) h
     rw [this]
     unfold outD
     rw [List.map_append,List.map_cons,List.map_nil,hv _ htk]
theorem keep_val {w0 w1:List (List Int)} {in0 in1:List TN} {l:List ND} {m:Nat→Bool} {r:List ND × (Nat→Nat)} (hw:WfD w0 w1 l) (hcl:∀ a,m a=true→∀ b∈(atD l a).args,m b=true∧b<a) (h:KeepRes l m l.length r):
  ∀ a,a<l.length→m a=true→valOf in0 in1 r.1 (r.2 a)=valOf in0 in1 l a:=by
 have hwr:=keep_wf hw (Kag _) hcl h
 intro a
 induction a using Nat.strongRecOn with
 | _ a ih=>
  intro ha hma
  rw [valOf_eq hwr.ahead,valOf_eq hw.ahead,keep_at h ha hma]
  have e:(atD l a).args.map (valOf in0 in1 r.1 ∘ r.2)=(atD l a).args.map (valOf in0 in1 l):=List.map_congr_left fun b hb=>by
   obtain ⟨h1,h2⟩:=hcl a hma b hb
   exact ih b h2 (by omega) h1
  unfold nodeV tnD
  dsimp only
  rw [List.map_map,e]
theorem keeps_law {f s d:Bool} {ss:List SI} {es:List EI} {g:List ND × List Nat} (h:buildD f s d ss es=.inl g) {in0 in1:List TN} (h0:fitT (Zae ss 0) in0=true) (h1:fitT (Zae ss 1) in1=true):evalE ss es in0 in1=.inl (outD in0 in1 g.1 g.2):=by
 obtain ⟨sh,l,outs,hc,hs,rfl,h64⟩:=buildD_parts h
 obtain ⟨ho,hok,hlen⟩:=ZbI hc
 have ht:=(Zbz hc).1
 have hx:exsOk 0 es=true:=by
  unfold treeP at ht
  rw [Bool.and_eq_true] at ht
  exact ht.1
 have hr:=built_res hc hs (Q:=fun _=>True) (fun _ _ _ _ _=>trivial) trivial
 have hv:=stmts_val (in0:=in0) (in1:=in1) f s hx ho (fit_fitD h0) (fit_fitD h1) ss [] [] [] [] 0 0 [] (l,outs) hok (by simp) (by simp) (fun i n h=>by simp at h) (fun n s h=>by cases h) rfl rfl (fun n h=>by cases h) (fun o h=>by simp at h) hs
 have hR:evalR ss es in0 in1=.inl (ZaG es in0 in1 ss [] 0 0 []):=by
  unfold evalR
  rw [hc]
  dsimp only
  rw [if_neg (by rw [h0,h1];decide)]
 rw [ZiM] at hR
 have hd:outD in0 in1 (if d then dropD l outs else (l,outs)).1 (if d then dropD l outs else (l,outs)).2=outD in0 in1 l outs:=by
  cases d with
  | false=>rfl
  | true=>
   have hk:=dropD_res hr.wf hr.bnd
   show outD in0 in1 (dropD l outs).1 (dropD l outs).2=_
   unfold outD dropD
   dsimp only
   rw [List.map_map]
   exact List.map_congr_left fun o ho=>keep_val hr.wf (need_closed hr.wf) hk o (hr.bnd o ho) (by rw [needD_out ho];simpa using hr.bnd o ho)
 rw [hd,hv]
 cases he:evalE ss es in0 in1 with
 | inr x=>rw [he] at hR;cases hR
 | inl o=>
  rw [he] at hR
  injection hR with hR
  rw [hR]
  rfl
theorem stmtsC_in {es:List EI}:∀ (ss:List SI) (names:Names) (sh:List (List Int)) (inp:Nat) (r:List (List Int)),Zaj es ss names sh inp=.inl r→inp≤8→(Zae ss 0).length+(Zae ss 1).length+inp≤8∧(∀ x∈Zae ss 0,Zad x≠0)∧∀ x∈Zae ss 1,Zad x≠0
 | [],names,sh,inp,r,h,hi=>⟨by simp [Zae];exact hi,fun x hx=>by simp [Zae] at hx,fun x hx=>by simp [Zae] at hx⟩
 | s::ss,names,sh,inp,r,h,hi=>by
  by_cases h1:s.kind=1
  ·rw [ZeN _ _ _ _ h1] at h
   split at h
   ·cases h
   ·rename_i hp
    split at h
    ·cases h
    ·split at h
     ·cases h
     ·rename_i h8
      obtain ⟨k1,k2,k3⟩:=stmtsC_in ss _ _ _ r h (by omega)
      have hs:Zad s.shape≠0:=fun e=>hp (.inr e)
      have hpp:s.party=0∨s.party=1:=by
       by_cases e0:s.party=0
       ·exact .inl e0
       ·by_cases e1:s.party=1
        ·exact .inr e1
        ·exact absurd (.inl ⟨e0,e1⟩) hp
      rw [Zft,Zft]
      rcases hpp with e | e
      ·rw [if_pos ⟨h1,e⟩,if_neg (by rw [e];intro q;exact absurd q.2 (by decide))]
       refine ⟨by simp;omega,fun x hx => ?_,fun x hx=>k3 x (by simpa using hx)⟩
       rcases List.mem_append.1 hx with hx | hx
       ·rw [List.mem_singleton.1 hx];exact hs
       ·exact k2 x hx
      ·rw [if_neg (by rw [e];intro q;exact absurd q.2 (by decide)),if_pos ⟨h1,e⟩]
       refine ⟨by simp;omega,fun x hx=>k2 x (by simpa using hx),fun x hx => ?_⟩
       rcases List.mem_append.1 hx with hx | hx
       ·rw [List.mem_singleton.1 hx];exact hs
       ·exact k3 x hx
  ·rw [Zft,Zft,if_neg (fun q=>h1 q.1),if_neg (fun q=>h1 q.1)]
   rw [List.nil_append,List.nil_append]
   rw [Zaj,if_neg h1] at h
   split at h
   ·split at h
    ·cases h
    ·split at h
     ·cases h
     ·exact stmtsC_in ss _ _ _ r h hi
   ·split at h
    ·cases h
    ·exact stmtsC_in ss _ _ _ r h hi
theorem check_in {ss:List SI} {es:List EI} {sh:List (List Int)} (h:ZaA ss es=.inl sh):(Zae ss 0).length+(Zae ss 1).length≤8∧(∀ x∈Zae ss 0,Zad x≠0)∧∀ x∈Zae ss 1,Zad x≠0:=by
 have:=stmtsC_in ss [] _ 0 sh (Zbz h).2 (by omega)
 exact this
def lookI:Nat→List (List Int)→List SI
 | _,[]=>[]
 | i,x::r=>⟨1,0,nmT i,x,0,0⟩::lookI (i+1) r
def lookS (xs:List (List Int)):List SI:=lookI 0 xs++[⟨2,0,zNm,[],xs.length,0⟩]
theorem look_one {k num:Nat} {x sz:List Int} (hk:3≤k∧k≤14) (hl:madeP k=1) (hx:Zad x≠0) (hs:Zad sz≠0) (hsh:Zab k num [x]=(sz,true)):
  ∃ sh,ZaA (lookS [x]) (tinyE k num 1)=.inl sh∧sh[1]?=some sz:=by
 have e1:(k:Int)≠1:=by omega
 have e2:(k:Int)≠2:=by omega
 have hes:tinyE k num 1=[⟨2,nmT 0,0,[],0⟩,⟨k,⟨#[]⟩,num,[0],0⟩]:=rfl
 have hss:lookS [x]=[⟨1,0,nmT 0,x,0,0⟩,⟨2,0,zNm,[],1,0⟩]:=rfl
 have hm2:madeP 2=0:=rfl
 have hw:∀ i,i<2→Zac (tinyE k num 1) 1 i=true:=by
  intro i hi
  have:i=0∨i=1:=by omega
  rcases this with rfl | rfl <;> rfl
 rw [hes] at hw
 have hw0:=hw 0 (by omega)
 have hw1:=hw 1 (by omega)
 unfold ZaA treeP
 rw [hss,hes]
 simp [exsOk,exOk,hl,hm2,argOk,smOk,Zaj,Zay,exprC,findN,hx,tn01,tn02,tn12,tn0z,tn1z,tn2z,tn10,tn20,tn21,tns0,tns1,tns2,tnsz,hw0,hw1,hsh,hs,e1,e2]
theorem look_two {k num:Nat} {x y sz:List Int} (hk:3≤k∧k≤14) (hl:madeP k=2) (hx:Zad x≠0) (hy:Zad y≠0) (hs:Zad sz≠0) (hsh:Zab k num [x,y]=(sz,true)):
  ∃ sh,ZaA (lookS [x,y]) (tinyE k num 2)=.inl sh∧sh[2]?=some sz:=by
 have e1:(k:Int)≠1:=by omega
 have e2:(k:Int)≠2:=by omega
 have hes:tinyE k num 2=[⟨2,nmT 0,0,[],0⟩,⟨2,nmT 1,0,[],0⟩,⟨k,⟨#[]⟩,num,[0,1],0⟩]:=rfl
 have hss:lookS [x,y]=[⟨1,0,nmT 0,x,0,0⟩,⟨1,0,nmT 1,y,0,0⟩,⟨2,0,zNm,[],2,0⟩]:=rfl
 have hm2:madeP 2=0:=rfl
 have hw:∀ i,i<3→Zac (tinyE k num 2) 2 i=true:=by
  intro i hi
  have:i=0∨i=1∨i=2:=by omega
  rcases this with rfl | rfl | rfl <;> rfl
 rw [hes] at hw
 have hw0:=hw 0 (by omega)
 have hw1:=hw 1 (by omega)
 have hw2:=hw 2 (by omega)
 unfold ZaA treeP
 rw [hss,hes]
 simp [exsOk,exOk,hl,hm2,argOk,smOk,Zaj,Zay,exprC,findN,hx,hy,tn01,tn02,tn12,tn0z,tn1z,tn2z,tn10,tn20,tn21,tns0,tns1,tns2,tnsz,hw0,hw1,hw2,hsh,hs,e1,e2]
theorem look_three {k num:Nat} {x y z sz:List Int} (hk:3≤k∧k≤14) (hl:madeP k=3) (hx:Zad x≠0) (hy:Zad y≠0) (hz:Zad z≠0) (hs:Zad sz≠0) (hsh:Zab k num [x,y,z]=(sz,true)):
  ∃ sh,ZaA (lookS [x,y,z]) (tinyE k num 3)=.inl sh∧sh[3]?=some sz:=by
 have e1:(k:Int)≠1:=by omega
 have e2:(k:Int)≠2:=by omega
 have hes:tinyE k num 3=[⟨2,nmT 0,0,[],0⟩,⟨2,nmT 1,0,[],0⟩,⟨2,nmT 2,0,[],0⟩,⟨k,⟨#[]⟩,num,[0,1,2],0⟩]:=rfl
 have hss:lookS [x,y,z]=[⟨1,0,nmT 0,x,0,0⟩,⟨1,0,nmT 1,y,0,0⟩,⟨1,0,nmT 2,z,0,0⟩,⟨2,0,zNm,[],3,0⟩]:=rfl
 have hm2:madeP 2=0:=rfl
 have hw:∀ i,i<4→Zac (tinyE k num 3) 3 i=true:=by
  intro i hi
  have:i=0∨i=1∨i=2∨i=3:=by omega
  rcases this with rfl | rfl | rfl | rfl <;> rfl
 rw [hes] at hw
 have hw0:=hw 0 (by omega)
 have hw1:=hw 1 (by omega)
 have hw2:=hw 2 (by omega)
 have hw3:=hw 3 (by omega)
 unfold ZaA treeP
 rw [hss,hes]
 simp [exsOk,exOk,hl,hm2,argOk,smOk,Zaj,Zay,exprC,findN,hx,hy,hz,tn01,tn02,tn12,tn0z,tn1z,tn2z,tn10,tn20,tn21,tns0,tns1,tns2,tnsz,hw0,hw1,hw2,hw3,hsh,hs,e1,e2]
theorem look_check {k num:Nat} {xs:List (List Int)} {sz:List Int} (hk:3≤k∧k≤14) (hl:(xs.length:Int)=madeP k) (ho:∀ x∈xs,Zad x≠0) (hs:Zad sz≠0) (hsh:Zab k num xs=(sz,true)):
  ∃ sh,ZaA (lookS xs) (tinyE k num xs.length)=.inl sh∧sh[xs.length]?=some sz:=by
 have hm:madeP k=1∨madeP k=2∨madeP k=3:=by
  unfold madeP
  rw [if_neg (by omega)]
  split
  ·exact .inl rfl
  ·split
   ·exact .inr (.inl rfl)
   ·rw [if_pos (by omega)]
    exact .inr (.inr rfl)
 match xs,hl with
 | [],hl=>simp at hl;omega
 | [x],hl=>exact look_one hk hl.symm (ho x (by simp)) hs hsh
 | [x,y],hl=>exact look_two hk hl.symm (ho x (by simp)) (ho y (by simp)) hs hsh
 | [x,y,z],hl=>exact look_three hk hl.symm (ho x (by simp)) (ho y (by simp)) (ho z (by simp)) hs hsh
 | _::_::_::_::r,hl=>simp at hl;omega
structure LyS (W0 w:World) (BR tb eb kd num:Nat) (SA:Option Addr) (sc ns:Nat) (sX:List Value) (EA:Option Addr) (ec ne:Nat) (eX:List Value) (AA:Option Addr) (ac na:Nat) (aX:List Value):Prop where
 bel:Below W0.heap.size W0 w
 br:BR≤w.heap.size
 b1:W0.heap.size≤tb∧tb<BR
 b3:W0.heap.size≤eb∧eb<BR
 n2:tb≠eb
 ht:w.heap[tb]?=some (.cells #[.slice SA ns sc,.slice EA ne ec] 26 (0,0))
 he:w.heap[eb]?=some (.cells #[.int .i64 kd,.string ⟨#[]⟩,.int .u64 num,.slice AA na ac,.int .i64 0] 90 (0,0))
 rs:w.ownsRow BR 93 6 (.slice SA ns sc) ns sX
 re:w.ownsRow BR 90 5 (.slice EA ne ec) ne eX
 ra:w.ownsRow BR 3 1 (.slice AA na ac) na aX
section
variable {W0 w w1 w2 w':World} {BR tb eb kd num:Nat} {SA:Option Addr} {sc ns:Nat} {sX:List Value} {EA:Option Addr} {ec ne:Nat} {eX:List Value} {AA:Option Addr} {ac na:Nat} {aX:List Value}
theorem LyS.next (h:LyS W0 w BR tb eb kd num SA sc ns sX EA ec ne eX AA ac na aX) (hb:Below w.heap.size w w'):LyS W0 w' BR tb eb kd num SA sc ns sX EA ec ne eX AA ac na aX:=
 ⟨bnext h.bel hb,Kah h.br hb.size,h.b1,h.b3,h.n2,(hb.block _ (Kab.1 h.ht).1).trans h.ht,(hb.block _ (Kab.1 h.he).1).trans h.he,trow_next h.rs hb,trow_next h.re hb,trow_next h.ra hb⟩
theorem LyS.grow {k' n' c':Nat} {e':TypeId} {A':Option Addr} {xs':List Value} (h:LyS W0 w BR tb eb kd num SA sc ns sX EA ec ne eX AA ac na aX) (h':w.ownsRow BR e' k' (.slice A' n' c') n' xs') (hg:w.grownBy w' (blk A')):
  Below W0.heap.size W0 w'∧BR≤w'.heap.size∧w'.heap[tb]?=w.heap[tb]?∧w'.heap[eb]?=w.heap[eb]?:=by
 have hk:∀ b,b<BR→w'.heap[b]?=w.heap[b]?:=fun b hb=>hg.block b (Kae hb h.br) (fun q=>by have:=(Zdg h' b q.symm).1;omega)
 exact ⟨Zal h.bel hg h.bel.size (fun k hk=>by have h1:=(Zdg h' k hk).1;have h2:=h.b1;omega),Kah h.br hg.size,hk tb h.b1.2,hk eb h.b3.2⟩
theorem LyS.pushS {A':Option Addr} {n' c':Nat} {X':List Value} (h:LyS W0 w BR tb eb kd num SA sc ns sX EA ec ne eX AA ac na aX) (hg:w.grownBy w2 (blk SA)) (hr:w2.ownsRow BR 93 6 (.slice A' n' c') n' X'):
  LyS W0 (w2.setCell ⟨tb,0,none⟩ (.slice A' n' c')) BR tb eb kd num A' c' n' X' EA ec ne eX AA ac na aX:=by
 obtain ⟨g1,g2,g3,g5⟩:=h.grow h.rs hg
 have ht2:=g3.trans h.ht
 exact ⟨Zaf g1 h.b1.1 _,by simpa [World.setCell] using g2,h.b1,h.b3,h.n2,heap_setCell_same _ _ _ _ _ _ ht2,(ZaS _ _ _ (fun e=>h.n2 e.symm)).trans (g5.trans h.he),
  trow_set hr h.b1.2 _,trow_set (trow_other h.re h.rs (by decide) hg) h.b1.2 _,trow_set (trow_other h.ra h.rs (by decide) hg) h.b1.2 _⟩
theorem LyS.pushE {A':Option Addr} {n' c':Nat} {X':List Value} (h:LyS W0 w BR tb eb kd num SA sc ns sX EA ec ne eX AA ac na aX) (hg:w.grownBy w2 (blk EA)) (hr:w2.ownsRow BR 90 5 (.slice A' n' c') n' X'):
  LyS W0 (w2.setCell ⟨tb,1,none⟩ (.slice A' n' c')) BR tb eb kd num SA sc ns sX A' c' n' X' AA ac na aX:=by
 obtain ⟨g1,g2,g3,g5⟩:=h.grow h.re hg
 have ht2:=g3.trans h.ht
 exact ⟨Zaf g1 h.b1.1 _,by simpa [World.setCell] using g2,h.b1,h.b3,h.n2,heap_setCell_same _ _ _ _ _ _ ht2,(ZaS _ _ _ (fun e=>h.n2 e.symm)).trans (g5.trans h.he),
  trow_set (trow_other h.rs h.re (by decide) hg) h.b1.2 _,trow_set hr h.b1.2 _,trow_set (trow_other h.ra h.re (by decide) hg) h.b1.2 _⟩
theorem LyS.pushA {A':Option Addr} {n' c':Nat} {X':List Value} (h:LyS W0 w BR tb eb kd num SA sc ns sX EA ec ne eX AA ac na aX) (hg:w.grownBy w2 (blk AA)) (hr:w2.ownsRow BR 3 1 (.slice A' n' c') n' X'):
  LyS W0 (w2.setCell ⟨eb,3,none⟩ (.slice A' n' c')) BR tb eb kd num SA sc ns sX EA ec ne eX A' c' n' X':=by
 obtain ⟨g1,g2,g3,g5⟩:=h.grow h.ra hg
 have ht2:=g5.trans h.he
 exact ⟨Zaf g1 h.b3.1 _,by simpa [World.setCell] using g2,h.b1,h.b3,h.n2,(ZaS _ _ _ h.n2).trans (g3.trans h.ht),heap_setCell_same _ _ _ _ _ _ ht2,
  trow_set (trow_other h.rs h.ra (by decide) hg) h.b3.2 _,trow_set (trow_other h.re h.ra (by decide) hg) h.b3.2 _,trow_set hr h.b3.2 _⟩
theorem LyS.cells (h:LyS W0 w BR tb eb kd num SA sc ns sX EA ec ne eX AA ac na aX):w.cell? ⟨tb,0,none⟩=some (.slice SA ns sc)∧w.cell? ⟨tb,1,none⟩=some (.slice EA ne ec) ∧
  w.cell? ⟨eb,0,none⟩=some (.int .i64 kd)∧w.cell? ⟨eb,1,none⟩=some (.string ⟨#[]⟩)∧w.cell? ⟨eb,2,none⟩=some (.int .u64 num)∧w.cell? ⟨eb,3,none⟩=some (.slice AA na ac)∧w.cell? ⟨eb,4,none⟩=some (.int .i64 0):=
 ⟨Kaa 0 h.ht,Kaa 1 h.ht,Kaa 0 h.he,Kaa 1 h.he,Kaa 2 h.he,Kaa 3 h.he,Kaa 4 h.he⟩
end
theorem look1_any (bx i a:Nat) (w:World) (hbx:w.cell? ⟨bx,0,none⟩=some (.int .i64 (i:Int))) (ha:a<i):
  Calls Tryz.prog 116 #[.int .i64 (a:Int),.pointer (some ⟨bx,0,none⟩)] w fun e w'=>e=.returned (.bool false)∧w=w':=by
 have q0:decide ((a:Int)<0)=false:=by simp
 have q1:decide ((a:Int) ≥ (i:Int))=false:=by simp;omega
 have q2:decide (i≤a)=false:=by simp;omega
 go_enter Tryz.func116,Tryz.ntmps116
 go_wp2
 go_ret
 exact ⟨rfl,rfl⟩
theorem idxL_any (bx i:Nat) (A:Option Addr) (n c:Nat) (l:List Nat) (w:World) (hbx:w.cell? ⟨bx,0,none⟩=some (.int .i64 (i:Int))) (ha:∀ a∈l,a<i) (hn:n=l.length) (hl:n≤9223372036854775807) (h:Rd w w.heap.size A (l.map VNt)):
  Calls Tryz.prog 118 #[.slice A n c,.func (.func 116) #[] #[.pointer (some ⟨bx,0,none⟩)]] w fun e w'=>e=.returned (.int .i64 (-1))∧w=w':=by
 have HN:=Kz hn
 have H:=Kz h
 have HC:=Kz (fun a (hm:a∈l)=>look1_any bx i a w hbx (ha a hm))
 clear h hn hbx ha
 go_enter Tryz.func118,Tryz.ntmps118
 go_wp2
 go_loop [5,8] (fun _ iv=>∃ k:Nat,k≤n∧iv=.int .i64 k) (fun _ iv=>n-(intOf iv).toNat)
 case atStart=>exact ⟨0,by omega,rfl⟩
 case round=>
  obtain ⟨k,hk,rfl⟩:=hrel
  by_cases hlt:k<n
  ·have ht:l[k]?=some (l[k]'(by rw [←HN.o];exact hlt)):=Kad _
   obtain ⟨d,hd⟩:=Ky (l[k]'(by rw [←HN.o];exact hlt))
   rw [←hd] at ht
   obtain ⟨b,o,rfl,hbl,c0⟩:=H.o.at_ (show (l.map VNt)[k]?=some (VNt d) by rw [Kal,ht];rfl)
   have c0':w.cell? ⟨b,o+k,none⟩=some (.int .i64 (d:Int)):=c0
   have i0:(0:Int)≤(k:Int):=by omega
   have i1:(k:Int)<(n:Int):=by omega
   have HCALL:=Kz (HC.o d (Kam ht))
   clear ht hd c0
   go_wp2_with (go_at_call 116;refine HCALL.o.mono ?_;rintro e w' ⟨rfl,rfl⟩)
   exact ⟨⟨k+1,by omega,rfl⟩,by simp [intOf];omega⟩
  ·obtain rfl:n=k:=by omega
   go_wp2
   go_ret
   exact ⟨rfl,rfl⟩
theorem conL_any (bx i:Nat) (A:Option Addr) (n c:Nat) (l:List Nat) (w:World) (hbx:w.cell? ⟨bx,0,none⟩=some (.int .i64 (i:Int))) (ha:∀ a∈l,a<i) (hn:n=l.length) (hl:n≤9223372036854775807) (h:Rd w w.heap.size A (l.map VNt)):
  Calls Tryz.prog 75 #[.slice A n c,.func (.func 116) #[] #[.pointer (some ⟨bx,0,none⟩)]] w fun e w'=>e=.returned (.bool false)∧w=w':=by
 have HC:=Kz (idxL_any bx i A n c l w hbx ha hn hl h)
 clear h hn hbx ha
 go_enter Tryz.func75,Tryz.ntmps75
 go_wp2_with (go_at_call 118;refine HC.o.mono ?_;rintro e w' ⟨rfl,rfl⟩)
 go_ret
 exact ⟨rfl,rfl⟩
theorem chk2_any (gb N nc a:Nat) (NA:Option Addr) (w:World) (hgb:w.cell? ⟨gb,0,none⟩=some (.slice NA N nc)) (ha:a<N):
  Calls Tryz.prog 76 #[.int .i64 (a:Int),.pointer (some ⟨gb,0,none⟩)] w fun e w'=>e=.returned (.bool false)∧w=w':=by
 have q0:decide ((a:Int)<0)=false:=by simp
 have q1:decide ((a:Int) ≥ (N:Int))=false:=by simp;omega
 have q2:decide (N≤a)=false:=by simp;omega
 go_enter Tryz.func76,Tryz.ntmps76
 go_wp2
 go_ret
 exact ⟨rfl,rfl⟩
theorem idxO_any (gb N nc:Nat) (NA:Option Addr) (A:Option Addr) (n c:Nat) (l:List Nat) (w:World) (hgb:w.cell? ⟨gb,0,none⟩=some (.slice NA N nc)) (ha:∀ a∈l,a<N) (hn:n=l.length) (hl:n≤9223372036854775807) (h:Rd w w.heap.size A (l.map VNt)):
  Calls Tryz.prog 118 #[.slice A n c,.func (.func 76) #[] #[.pointer (some ⟨gb,0,none⟩)]] w fun e w'=>e=.returned (.int .i64 (-1))∧w=w':=by
 have HN:=Kz hn
 have H:=Kz h
 have HC:=Kz (fun a (hm:a∈l)=>chk2_any gb N nc a NA w hgb (ha a hm))
 clear h hn hgb ha
 go_enter Tryz.func118,Tryz.ntmps118
 go_wp2
 go_loop [5,8] (fun _ iv=>∃ k:Nat,k≤n∧iv=.int .i64 k) (fun _ iv=>n-(intOf iv).toNat)
 case atStart=>exact ⟨0,by omega,rfl⟩
 case round=>
  obtain ⟨k,hk,rfl⟩:=hrel
  by_cases hlt:k<n
  ·have ht:l[k]?=some (l[k]'(by rw [←HN.o];exact hlt)):=Kad _
   obtain ⟨d,hd⟩:=Ky (l[k]'(by rw [←HN.o];exact hlt))
   rw [←hd] at ht
   obtain ⟨b,o,rfl,hbl,c0⟩:=H.o.at_ (show (l.map VNt)[k]?=some (VNt d) by rw [Kal,ht];rfl)
   have c0':w.cell? ⟨b,o+k,none⟩=some (.int .i64 (d:Int)):=c0
   have i0:(0:Int)≤(k:Int):=by omega
   have i1:(k:Int)<(n:Int):=by omega
   have HCALL:=Kz (HC.o d (Kam ht))
   clear ht hd c0
   go_wp2_with (go_at_call 76;refine HCALL.o.mono ?_;rintro e w' ⟨rfl,rfl⟩)
   exact ⟨⟨k+1,by omega,rfl⟩,by simp [intOf];omega⟩
  ·obtain rfl:n=k:=by omega
   go_wp2
   go_ret
   exact ⟨rfl,rfl⟩
theorem conO_any (gb N nc:Nat) (NA:Option Addr) (A:Option Addr) (n c:Nat) (l:List Nat) (w:World) (hgb:w.cell? ⟨gb,0,none⟩=some (.slice NA N nc)) (ha:∀ a∈l,a<N) (hn:n=l.length) (hl:n≤9223372036854775807) (h:Rd w w.heap.size A (l.map VNt)):
  Calls Tryz.prog 75 #[.slice A n c,.func (.func 76) #[] #[.pointer (some ⟨gb,0,none⟩)]] w fun e w'=>e=.returned (.bool false)∧w=w':=by
 have HC:=Kz (idxO_any gb N nc NA A n c l w hgb ha hn hl h)
 clear h hn hgb ha
 go_enter Tryz.func75,Tryz.ntmps75
 go_wp2_with (go_at_call 118;refine HC.o.mono ?_;rintro e w' ⟨rfl,rfl⟩)
 go_ret
 exact ⟨rfl,rfl⟩
def stL (xs:List (List Int)) (V:Nat→Value) (j:Nat):SI × Value:=(⟨1,0,nmT j,xs.getD j [],0,0⟩,V j)
def sL (xs:List (List Int)) (V:Nat→Value) (i:Nat):List Value:=(List.range i).flatMap fun j=>siC (stL xs V j)
theorem sL_succ (xs:List (List Int)) (V:Nat→Value) (i:Nat):sL xs V (i+1)=sL xs V i++siC (stL xs V i):=by unfold sL;rw [List.range_succ,List.flatMap_append];simp
def lyS (W0 w:World) (BR tb eb kd num:Nat) (xs:List (List Int)) (V:Nat→Value) (i:Nat):Prop:=∃ SA sc EA ec AA ac,LyS W0 w BR tb eb kd num SA sc i (sL xs V i) EA ec i (eX i) AA ac i (aX i)
theorem lookI_range:∀ (xs:List (List Int)) (i:Nat),lookI i xs=(List.range xs.length).map fun j=>(⟨1,0,nmT (i+j),xs.getD j [],0,0⟩:SI)
 | [],i=>rfl
 | x::r,i=>by
  unfold lookI
  rw [lookI_range r (i+1),List.length_cons,List.range_succ_eq_map,List.map_cons,List.map_map]
  refine List.cons_eq_cons.2 ⟨rfl,List.map_congr_left fun j _ => ?_⟩
  show _=(⟨1,0,nmT (i+(j+1)),(x::r).getD (j+1) [],0,0⟩:SI)
  rw [show i+(j+1)=i+1+j by omega]
  rfl
theorem lookS_len (xs:List (List Int)):(lookS xs).length=xs.length+1:=by
 unfold lookS
 rw [lookI_range]
 simp
theorem LyS.done {w W:World} {BR tb eb kd kk nx:Nat} {xs:List (List Int)} {V:Nat→Value} {SA:Option Addr} {sc:Nat} {EA:Option Addr} {ec:Nat} {AA:Option Addr} {ac:Nat}
  (hx:nx=xs.length) (hn3:nx≤3) (hV:∀ j x,xs[j]?=some x→∃ A1 c1,V j=.slice A1 x.length c1∧Rd w w.heap.size A1 (x.map VI)∧x.length≤c1∧c1≤9223372036854775807)
  (h:LyS w W BR tb eb kd kk SA sc (nx+1) (sL xs V nx++siC (letC nx)) EA ec (nx+1) (eX nx++[.int .i64 kd,.string ⟨#[]⟩,.int .u64 kk,.slice AA nx ac,.int .i64 0]) AA ac nx (aX nx)):
  RdSI W W.heap.size SA (lookS xs)∧RdEI W W.heap.size EA (tinyE kd kk nx):=by
 have hb:=h.bel
 refine ⟨?_,?_⟩
 ·have e:lookS xs=((List.range nx).map (stL xs V)++[letC nx]).map Prod.fst:=by
   unfold lookS
   rw [lookI_range,List.map_append,List.map_map,hx]
   rw [List.map_congr_left (g:=Prod.fst ∘ stL xs V) (fun j _=>by
    show (⟨1,0,nmT (0+j),xs.getD j [],0,0⟩:SI)=⟨1,0,nmT j,xs.getD j [],0,0⟩
    rw [Nat.zero_add])]
   rfl
  rw [e]
  have e2:((List.range nx).map (stL xs V)++[letC nx]).flatMap siC=sL xs V nx++siC (letC nx):=by
   unfold sL
   rw [List.flatMap_append,List.flatMap_map]
   simp
  refine rdSI_row (B:=BR) (n:=nx+1) (c:=sc) (by rw [e2];exact h.rs) (by simp) fun m hm => ?_
  rcases List.mem_append.1 hm with hm | hm
  ·obtain ⟨j,hj,rfl⟩:=List.mem_map.1 hm
   have hj':j<xs.length:=by rw [←hx];exact List.mem_range.1 hj
   obtain ⟨A1,c1,hp,r1,r2,r3⟩:=hV j _ (Kad hj')
   have hg:xs.getD j []=xs[j]:=by simp [List.getD_eq_getElem?_getD,hj']
   refine ⟨A1,c1,?_,?_,?_,?_,r3⟩
   ·show V j=Value.slice A1 (xs.getD j []).length c1
    rw [hp,hg]
   ·show Rd W W.heap.size A1 ((xs.getD j []).map VI)
    rw [hg]
    exact r1.next hb
   ·show (xs.getD j []).length≤_
    rw [hg]
    omega
   ·show (xs.getD j []).length≤_
    rw [hg]
    exact r2
  ·have:m=letC nx:=by simpa using hm
   subst this
   exact ⟨none,0,rfl,Rd.nil _ _ _,by simp [letC],by simp [letC],by omega⟩
 ·have e:tinyE kd kk nx=((List.range nx).map exJ++[((⟨kd,⟨#[]⟩,kk,(List.range nx).map Int.ofNat,0⟩:EI),Value.slice AA nx ac)]).map Prod.fst:=by
   unfold tinyE tinyN
   rw [List.map_append,List.map_map]
   rfl
  rw [e]
  have e2:((List.range nx).map exJ++[((⟨kd,⟨#[]⟩,kk,(List.range nx).map Int.ofNat,0⟩:EI),Value.slice AA nx ac)]).flatMap eiC=eX nx++[.int .i64 kd,.string ⟨#[]⟩,.int .u64 kk,.slice AA nx ac,.int .i64 0]:=by
   unfold eX
   rw [List.flatMap_append,List.flatMap_map]
   simp [eiC]
  refine rdEI_row (B:=BR) (n:=nx+1) (c:=ec) (by rw [e2];exact h.re) (by simp) fun m hm => ?_
  rcases List.mem_append.1 hm with hm | hm
  ·obtain ⟨j,hj,rfl⟩:=List.mem_map.1 hm
   exact ⟨none,0,rfl,Rd.nil _ _ _,by simp [exJ],by simp [exJ],by omega⟩
  ·rw [List.mem_singleton.1 hm]
   have ho:Own W BR 3 AA ac (aX nx):=by
    have hl:(aX nx).length=nx:=by simp [aX]
    unfold Own
    rw [hl]
    exact h.ra
   have hk:=own_capsN ho
   have hl:(aX nx).length=nx:=by simp [aX]
   rw [hl] at hk
   refine ⟨AA,ac,by simp,?_,by simp;omega,by simpa using hk.1,hk.2⟩
   have hr:=ho.rd
   unfold aX at hr
   rw [vnt_map] at hr
   exact hr
theorem chk1_any (A:Option Addr) (n c:Nat) (l:List Int) (w:World) (hn:n=l.length) (hl:n≤9223372036854775807) (h:Rd w w.heap.size A (l.map VI)) (h0:Zad l≠0):
  Calls Tryz.prog 72 #[.slice A n c] w fun e w'=>e=.returned (.bool false)∧w=w':=by
 have HC:=Kz (ZcE A n c l w hn hl h)
 have q0:(Zad l==0)=false:=by rw [Kaj];exact h0
 clear h hn h0
 go_enter Tryz.func72,Tryz.ntmps72
 go_wp2_with (go_at_call 73;refine HC.o.mono ?_;rintro e w' ⟨rfl,rfl⟩)
 go_ret
 exact ⟨rfl,rfl⟩
theorem idxS_any (A:Option Addr) (n c:Nat) (xs:List (List Int)) (w:World) (hn:n=xs.length) (hl:n≤9223372036854775807) (h:RdSh w A xs) (ho:∀ x∈xs,Zad x≠0):
  Calls Tryz.prog 115 #[.slice A n c,.func (.func 72) #[] #[]] w fun e w'=>e=.returned (.int .i64 (-1))∧w=w':=by
 have HN:=Kz hn
 have H:=Kz h
 have HO:=Kz ho
 clear h hn ho
 go_enter Tryz.func115,Tryz.ntmps115
 go_wp2
 go_loop [5,8] (fun _ iv=>∃ k:Nat,k≤n∧iv=.int .i64 k) (fun _ iv=>n-(intOf iv).toNat)
 case atStart=>exact ⟨0,by omega,rfl⟩
 case round=>
  obtain ⟨k,hk,rfl⟩:=hrel
  by_cases hlt:k<n
  ·have ht:xs[k]?=some (xs[k]'(by rw [←HN.o];exact hlt)):=Kad _
   obtain ⟨x,hx⟩:=Ky (xs[k]'(by rw [←HN.o];exact hlt))
   rw [←hx] at ht
   obtain ⟨b,o,rfl,hbl,hc⟩:=H.o.resolve_left (fun e=>by rw [e] at ht;simp at ht)
   obtain ⟨A',c',c0,r0,l0⟩:=hc k x ht
   have i0:(0:Int)≤(k:Int):=by omega
   have i1:(k:Int)<(n:Int):=by omega
   obtain ⟨xl,hxl⟩:=Ky x.length
   rw [←hxl] at c0
   have HCALL:=Kz (chk1_any A' xl c' x w hxl (by omega) r0 (HO.o x (Kam ht)))
   clear ht hx hc r0 l0 hxl
   go_wp2_with (go_at_call 72;refine HCALL.o.mono ?_;rintro e w' ⟨rfl,rfl⟩)
   exact ⟨⟨k+1,by omega,rfl⟩,by simp [intOf];omega⟩
  ·obtain rfl:n=k:=by omega
   go_wp2
   go_ret
   exact ⟨rfl,rfl⟩
theorem conS_any (A:Option Addr) (n c:Nat) (xs:List (List Int)) (w:World) (hn:n=xs.length) (hl:n≤9223372036854775807) (h:RdSh w A xs) (ho:∀ x∈xs,Zad x≠0):
  Calls Tryz.prog 71 #[.slice A n c,.func (.func 72) #[] #[]] w fun e w'=>e=.returned (.bool false)∧w=w':=by
 have HC:=Kz (idxS_any A n c xs w hn hl h ho)
 clear h hn ho
 go_enter Tryz.func71,Tryz.ntmps71
 go_wp2_with (go_at_call 115;refine HC.o.mono ?_;rintro e w' ⟨rfl,rfl⟩)
 go_ret
 exact ⟨rfl,rfl⟩
end Go.Proofs.YtghlnncfigkkaaaGreatDoor
