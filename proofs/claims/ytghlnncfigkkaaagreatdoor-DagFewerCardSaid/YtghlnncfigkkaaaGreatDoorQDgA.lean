/-
 Graphs as plain functions over trees of integers: what a tree's graph is, with each option.
-/
import Derived.Test.YtghlnncfigkkaaaGreatDoorQEvL
import Derived.Test.YtghlnncfigkkaaaGreatDoorQEvB
import Derived.Test.YtghlnncfigkkaaaGreatDoorQChkB
import Derived.BigQuiet
set_option maxRecDepth 100000
set_option maxHeartbeats 2000000
open Go.Lib (hid)
set_option linter.unusedVariables false
set_option linter.unusedSimpArgs false
namespace Go.Proofs.YtghlnncfigkkaaaGreatDoor
open Go.RowKit
structure ND where
 kind:Nat
 shape:List Int
 args:List Nat
 party:Nat
 input:Nat
 k:Nat
 elems:List UInt64
deriving DecidableEq
def zND:ND:=⟨0,[],[],0,0,0,[]⟩
def atD (l:List ND) (a:Nat):ND:=l.getD a zND
def kindD (k:Int):Nat:=if k=1 then 2 else if 3≤k∧k≤14 then k.toNat else 0
def tnD (n:ND):TN:=⟨n.shape,n.elems⟩
def valD (l:List ND) (n:ND):List UInt64:=Zbc n.kind n.k (Zad n.shape).toNat (n.args.map fun a=>tnD (atD l a))
def constD (l:List ND) (a:Nat):Bool:=(atD l a).kind==2
def foldD (f:Bool) (l:List ND) (n:ND):ND:=if f=true∧n.args≠[]∧n.args.all (constD l)=true then ⟨2,n.shape,[],0,0,0,valD l n⟩ else n
def idxD (l:List ND) (n:ND):Option Nat:=l.findIdx? fun x=>decide (x=n)
def madeD (f s:Bool) (l:List ND) (n:ND):List ND × Nat:=
 match (if s then idxD l (foldD f l n) else none) with
 | some i=>(l,i)
 | none=>(l++[foldD f l n],l.length)
abbrev PlacesD:=List (ByteArray × Nat)
def placeD:PlacesD→ByteArray→Nat
 | [],_=>0
 | (t,v)::r,n=>if t.toList=n.toList then v else placeD r n
def updD (P:Nat→Nat) (i p:Nat):Nat→Nat:=fun a=>if a=i then p else P a
def nodeD (e:EI) (s:List Int) (P:Nat→Nat):ND:=⟨kindD e.kind,s,e.args.map fun a=>P a.toNat,0,0,if e.kind=9 then e.num else 0,if e.kind=1 then [UInt64.ofNat e.num] else []⟩
def letD (f s:Bool) (es:List EI) (sh:List (List Int)) (names:PlacesD) (m:Nat→Bool) (l:List ND):Nat→List ND × (Nat→Nat)
 | 0=>(l,fun _=>0)
 | i+1=>
  let r:=letD f s es sh names m l i
  if m i=true then
   match es[i]? with
   | none=>r
   | some e=>
    if e.kind=2 then (r.1,updD r.2 i (placeD names e.name))
    else
     let q:=madeD f s r.1 (nodeD e (sh.getD i []) r.2)
     (q.1,updD r.2 i q.2)
  else r
def inD (x:SI) (i:Nat):ND:=⟨1,x.shape,[],x.party.toNat,i,0,[]⟩
def stmtsD (f s:Bool) (es:List EI) (sh:List (List Int)):List SI→PlacesD→List ND→Nat→Nat→List Nat→Option (List ND × List Nat)
 | [],_,l,_,_,outs=>some (l,outs)
 | x::r,names,l,i0,i1,outs=>
  if x.kind=1 then
   let q:=madeD f s l (inD x (if x.party=0 then i0 else i1))
   if 64<q.1.length then none
   else if x.party=0 then stmtsD f s es sh r (names++[(x.name,q.2)]) q.1 (i0+1) i1 outs
   else stmtsD f s es sh r (names++[(x.name,q.2)]) q.1 i0 (i1+1) outs
  else if x.kind=2 then
   let q:=letD f s es sh names (Zac es x.expr.toNat) l (x.expr.toNat+1)
   if 64<q.1.length then none
   else stmtsD f s es sh r (names++[(x.name,q.2 x.expr.toNat)]) q.1 i0 i1 outs
  else if 64<l.length then none
  else stmtsD f s es sh r names l i0 i1 (outs++[placeD names x.name])
def markD (l:List ND):Nat→(Nat→Bool)→(Nat→Bool)
 | 0,m=>m
 | n+1,m=>markD l n fun a=>m a||(m n&&(atD l n).args.any fun b=>b==a)
def needD (l:List ND) (outs:List Nat):Nat→Bool:=markD l l.length fun a=>outs.any fun b=>b==a
def keepD (l:List ND) (m:Nat→Bool):Nat→List ND × (Nat→Nat)
 | 0=>([],fun _=>0)
 | i+1=>
  let r:=keepD l m i
  if m i=true then (r.1++[{ atD l i with args:=(atD l i).args.map r.2 }],updD r.2 i r.1.length) else r
def dropD (l:List ND) (outs:List Nat):List ND × List Nat:=
 let r:=keepD l (needD l outs) l.length
 (r.1,outs.map r.2)
def countD (ss:List SI) (es:List EI):Nat:=(Zae ss 0).length+(Zae ss 1).length+(es.filter fun e=>e.kind != 2).length
def buildD (f s d:Bool) (ss:List SI) (es:List EI):Sum (List ND × List Nat) Nat:=
 match ZaA ss es with
 | .inr (c,p)=>.inr c
 | .inl sh=>
  if 64<countD ss es then .inr 160
  else match stmtsD f s es sh ss [] [] 0 0 [] with
   | none=>.inr 160
   | some (l,outs)=>.inl (if d then dropD l outs else (l,outs))
structure NodeOk (in0 in1:List (List Int)) (l:List ND) (i:Nat) (n:ND):Prop where
 ahead:∀ a∈n.args,a<i
 shape:Zad n.shape≠0
 kinds:(n.kind=1∧n.args=[]∧n.elems=[]∧n.k=0∧((n.party=0∧in0[n.input]?=some n.shape)∨(n.party=1∧in1[n.input]?=some n.shape)))
  ∨ (n.kind=2∧n.args=[]∧n.k=0∧n.party=0∧n.input=0∧(n.elems.length:Int)=Zad n.shape)
  ∨ (3≤n.kind∧n.kind≤14∧n.elems=[]∧n.party=0∧n.input=0∧(n.kind≠9→n.k=0)∧(n.args.length:Int)=madeP n.kind∧Zab n.kind n.k (n.args.map fun a=>(atD l a).shape)=(n.shape,true))
def WfD (in0 in1:List (List Int)) (l:List ND):Prop:=∀ i n,l[i]?=some n→NodeOk in0 in1 l i n
theorem atD_some {l:List ND} {i:Nat} {n:ND} (h:l[i]?=some n):atD l i=n:=by unfold atD;rw [List.getD_eq_getElem?_getD,h];rfl
theorem atD_lt {l:List ND} {i:Nat} (h:i<l.length):l[i]?=some (atD l i):=by
 unfold atD
 rw [List.getD_eq_getElem?_getD,Kad h]
 rfl
theorem atD_pre {l l':List ND} {i:Nat} (h:i<l.length) (hp:l <+: l'):atD l' i=atD l i:=by
 obtain ⟨r,rfl⟩:=hp
 unfold atD
 rw [List.getD_eq_getElem?_getD,List.getD_eq_getElem?_getD,List.getElem?_append_left h]
theorem NodeOk.pre {in0 in1:List (List Int)} {l l':List ND} {i:Nat} {n:ND} (h:NodeOk in0 in1 l i n) (hi:i≤l.length) (hp:l <+: l'):NodeOk in0 in1 l' i n:=by
 refine ⟨h.ahead,h.shape,?_⟩
 rcases h.kinds with h1 | h1 | ⟨h1,h2,h3,h4,h5,h6,h7,h8⟩
 ·exact .inl h1
 ·exact .inr (.inl h1)
 ·refine .inr (.inr ⟨h1,h2,h3,h4,h5,h6,h7,?_⟩)
  rw [←h8]
  congr 1
  exact List.map_congr_left fun a ha=>by rw [atD_pre (Kae (h.ahead a ha) hi) hp]
theorem NodeOk.k63 {in0 in1:List (List Int)} {l:List ND} {i:Nat} {n:ND} (h:NodeOk in0 in1 l i n):n.k≤63:=by
 rcases h.kinds with h1 | h1 | ⟨h1,h2,h3,h4,h5,h6,h7,h8⟩
 ·omega
 ·omega
 ·by_cases h9:n.kind=9
  ·rw [h9] at h8
   have:=congrArg Prod.snd h8
   unfold Zab at this
   rw [if_pos (by decide)] at this
   exact of_decide_eq_true this
  ·rw [h6 h9];omega
theorem node_words {n:ND} {xs:List TN} (hk:3≤n.kind∧n.kind≤14) (hl:(n.args.length:Int)=madeP n.kind) (hx:xs.length=n.args.length) (ho:∀ t∈xs,TnOk t) (hs:Zad n.shape≠0) (hsh:Zab n.kind n.k (xs.map TN.sh)=(n.shape,true)):
  ((Zbc n.kind n.k (Zad n.shape).toNat xs).length:Int)=Zad n.shape:=by
 have hm:(List.map (fun a:Int=>(xs.map TN.sh).getD a.toNat []) ((List.range xs.length).map Int.ofNat))=xs.map TN.sh:=by
  rw [List.map_map]
  apply List.ext_getElem?
  intro i
  by_cases hi:i<xs.length
  ·rw [Kal,List.getElem?_range hi]
   simp [List.getD_eq_getElem?_getD,hi]
  ·rw [List.getElem?_eq_none (by simpa using hi),List.getElem?_eq_none (by simpa using hi)]
 have:=ZkB (e:=⟨n.kind,⟨#[]⟩,n.k,(List.range xs.length).map Int.ofNat,0⟩) (names:=[]) (shl:=xs.map TN.sh) (s:=n.shape) (x:=xs) (by
   unfold exprC
   dsimp only
   rw [if_neg (by omega),hm,hsh]
   dsimp only
   rw [if_neg (by simp [hs])]) hm.symm ho (fun p hp=>by simp at hp) (by dsimp only;rw [Kak,List.length_range,hx];exact hl) (by dsimp only;omega) (by dsimp only;omega)
 exact this.2
theorem foldD_shape (f:Bool) (l:List ND) (n:ND):(foldD f l n).shape=n.shape:=by
 unfold foldD
 split
 ·rfl
 ·rfl
theorem foldD_ok {in0 in1:List (List Int)} {l:List ND} {n:ND} (f:Bool) (hw:WfD in0 in1 l) (hn:NodeOk in0 in1 l l.length n):NodeOk in0 in1 l l.length (foldD f l n):=by
 unfold foldD
 split
 ·rename_i hf
  obtain ⟨_,h1,h2⟩:=hf
  refine ⟨fun a ha=>by simp at ha,hn.shape,.inr (.inl ⟨rfl,rfl,rfl,rfl,rfl,?_⟩)⟩
  rcases hn.kinds with k1 | k1 | ⟨k1,k2,k3,k4,k5,k6,k7,k8⟩
  ·exact absurd k1.2.1 h1
  ·exact absurd k1.2.1 h1
  ·refine node_words ⟨k1,k2⟩ k7 (by rw [Kak]) (fun t ht => ?_) hn.shape (by rw [List.map_map];exact k8)
   obtain ⟨a,ha,rfl⟩:=List.mem_map.1 ht
   have hc:=List.all_eq_true.1 h2 a ha
   have hal:=hn.ahead a ha
   have ho:=hw a _ (atD_lt hal)
   have hk:(atD l a).kind=2:=by unfold constD at hc;simpa using hc
   rcases ho.kinds with q | q | q
   ·omega
   ·exact ⟨ho.shape,q.2.2.2.2.2⟩
   ·omega
 ·exact hn
theorem idxD_some {l:List ND} {n:ND} {i:Nat} (h:idxD l n=some i):l[i]?=some n∧∀ j:Nat,j<i→l[j]?≠some n:=by
 unfold idxD at h
 obtain ⟨hi,h1,h2⟩:=List.findIdx?_eq_some_iff_getElem.1 h
 refine ⟨by rw [Kad hi];exact congrArg some (of_decide_eq_true h1),fun j hj e => ?_⟩
 have h3:=h2 j hj
 have hj':j<l.length:=by omega
 rw [Kad hj'] at e
 injection e with e
 simp [e] at h3
theorem idxD_none {l:List ND} {n:ND} (h:idxD l n=none):∀ j:Nat,l[j]?≠some n:=by
 unfold idxD at h
 intro j e
 have:=List.findIdx?_eq_none_iff.1 h n (Kam e)
 simp at this
theorem madeD_cases (f s:Bool) (l:List ND) (n:ND):(s=true∧(madeD f s l n).1=l∧idxD l (foldD f l n)=some (madeD f s l n).2)∨((s=false∨idxD l (foldD f l n)=none)∧madeD f s l n=(l++[foldD f l n],l.length)):=by
 unfold madeD
 cases s with
 | false=>exact .inr ⟨.inl rfl,rfl⟩
 | true=>
  cases h:idxD l (foldD f l n) with
  | none=>exact .inr ⟨.inr rfl,by simp [h]⟩
  | some i=>exact .inl ⟨rfl,by simp [h],by simp [h]⟩
theorem madeD_pre (f s:Bool) (l:List ND) (n:ND):l <+: (madeD f s l n).1:=by
 rcases madeD_cases f s l n with ⟨_,h,_⟩ | ⟨_,h⟩
 ·rw [h];exact List.prefix_rfl
 ·rw [h];exact List.prefix_append _ _
theorem madeD_at (f s:Bool) (l:List ND) (n:ND):(madeD f s l n).1[(madeD f s l n).2]?=some (foldD f l n):=by
 rcases madeD_cases f s l n with ⟨_,h,h2⟩ | ⟨_,h⟩
 ·rw [h];exact (idxD_some h2).1
 ·rw [h];simp
theorem madeD_lt (f s:Bool) (l:List ND) (n:ND):(madeD f s l n).2<(madeD f s l n).1.length:=(Kaf.1 (madeD_at f s l n)).1
theorem madeD_wf {in0 in1:List (List Int)} {l:List ND} {n:ND} (f s:Bool) (hw:WfD in0 in1 l) (hn:NodeOk in0 in1 l l.length n):WfD in0 in1 (madeD f s l n).1:=by
 have hf:=foldD_ok f hw hn
 rcases madeD_cases f s l n with ⟨_,h,_⟩ | ⟨_,h⟩
 ·rw [h];exact hw
 ·rw [h]
  intro i m hm
  by_cases hi:i<l.length
  ·rw [List.getElem?_append_left hi] at hm
   exact (hw i m hm).pre (by omega) (List.prefix_append _ _)
  ·have hi2:i=l.length:=by
    have:=(Kaf.1 hm).1
    simp at this
    omega
   subst hi2
   simp at hm
   subst hm
   exact hf.pre (Kag _) (List.prefix_append _ _)
def NamesD (l:List ND) (names:PlacesD) (sn:Names):Prop:=∀ n s,findN sn n=some s→placeD names n<l.length∧(atD l (placeD names n)).shape=s
theorem NamesD.pre {l l':List ND} {names:PlacesD} {sn:Names} (h:NamesD l names sn) (hp:l <+: l'):NamesD l' names sn:=fun n s hs=>by
 obtain ⟨h1,h2⟩:=h n s hs
 exact ⟨Kae h1 hp.length_le,by rw [atD_pre h1 hp];exact h2⟩
theorem placeD_snoc:∀ (names:PlacesD) (t:ByteArray) (p:Nat) (n:ByteArray),placeD (names++[(t,p)]) n=if (names.any fun q=>decide (q.1.toList=n.toList)) then placeD names n else if t.toList=n.toList then p else 0
 | [],t,p,n=>by simp [placeD]
 | (a,b)::r,t,p,n=>by
  rw [List.cons_append]
  unfold placeD
  rw [placeD_snoc r t p n,List.any_cons]
  by_cases h:a.toList=n.toList
  ·rw [if_pos h,if_pos h,decide_eq_true h,Bool.true_or,if_pos rfl]
  ·rw [if_neg h,if_neg h,decide_eq_false h,Bool.false_or]
theorem findN_snoc:∀ (names:Names) (t:ByteArray) (s:List Int) (n:ByteArray),findN (names++[(t,s)]) n=match findN names n with | some x=>some x | none=>if t.toList=n.toList then some s else none
 | [],t,s,n=>by simp [findN]
 | (a,b)::r,t,s,n=>by
  rw [List.cons_append]
  unfold findN
  rw [findN_snoc r t s n]
  by_cases h:a.toList=n.toList
  ·simp [h]
  ·simp [h]
theorem findN_keys:∀ {names:Names} {n:ByteArray},(findN names n).isSome=(names.any fun q=>decide (q.1.toList=n.toList))
 | [],n=>rfl
 | (a,b)::r,n=>by
  unfold findN
  rw [List.any_cons]
  by_cases h:a.toList=n.toList
  ·simp [h]
  ·simp [h]
   exact findN_keys
def KeysD (names:PlacesD) (sn:Names):Prop:=names.map Prod.fst=sn.map Prod.fst
theorem KeysD.any {names:PlacesD} {sn:Names} (h:KeysD names sn) (n:ByteArray):(names.any fun q=>decide (q.1.toList=n.toList))=(sn.any fun q=>decide (q.1.toList=n.toList)):=by
 have h1:(names.any fun q=>decide (q.1.toList=n.toList))=((names.map Prod.fst).any fun q=>decide (q.toList=n.toList)):=by rw [List.any_map];rfl
 have h2:(sn.any fun q=>decide (q.1.toList=n.toList))=((sn.map Prod.fst).any fun q=>decide (q.toList=n.toList)):=by rw [List.any_map];rfl
 rw [h1,h2,h]
theorem NamesD.snoc {l:List ND} {names:PlacesD} {sn:Names} (h:NamesD l names sn) (hk:KeysD names sn) (t:ByteArray) (p:Nat) (hp:p<l.length):NamesD l (names++[(t,p)]) (sn++[(t,(atD l p).shape)])∧KeysD (names++[(t,p)]) (sn++[(t,(atD l p).shape)]):=by
 refine ⟨fun n s hs => ?_,by unfold KeysD at hk ⊢;rw [List.map_append,List.map_append,hk];rfl⟩
 rw [findN_snoc] at hs
 rw [placeD_snoc,hk.any,←findN_keys]
 cases hf:findN sn n with
 | some x=>
  rw [hf] at hs
  injection hs with hs
  subst hs
  simpa using h n _ hf
 | none=>
  rw [hf] at hs
  dsimp only at hs
  split at hs
  ·rename_i ht
   injection hs with hs
   simp [ht,hp,hs]
  ·cases hs
structure LetRes (Q:List ND→Prop) (in0 in1:List (List Int)) (l:List ND) (sh:List (List Int)) (m:Nat→Bool) (i:Nat) (r:List ND × (Nat→Nat)):Prop where
 wf:WfD in0 in1 r.1
 q:Q r.1
 pre:l <+: r.1
 at_:∀ a,a<i→m a=true→r.2 a<r.1.length∧(atD r.1 (r.2 a)).shape=sh.getD a []
theorem nodeD_ok {in0 in1:List (List Int)} {l:List ND} {e:EI} {s:List Int} {P:Nat→Nat} {sh:List (List Int)} {sn:Names} (hc:exprC e sh sn=.inl s) (h2:e.kind≠2) (hmd:(e.args.length:Int)=madeP e.kind) (hkn:1≤e.kind∧e.kind≤14)
  (hP:∀ a∈e.args,P a.toNat<l.length∧(atD l (P a.toNat)).shape=sh.getD a.toNat []):NodeOk in0 in1 l l.length (nodeD e s P):=by
 unfold exprC at hc
 rw [if_neg h2] at hc
 dsimp only at hc
 split at hc
 ·cases hc
 ·rename_i hok
  injection hc with hs
  simp only [not_or] at hok
  rw [hs] at hok
  refine ⟨fun a ha => ?_,hok.2,?_⟩
  ·unfold nodeD at ha
   obtain ⟨x,hx,rfl⟩:=List.mem_map.1 ha
   exact (hP x hx).1
  ·by_cases h1:e.kind=1
   ·right;left
    have ha:e.args=[]:=by
     have hz:madeP e.kind=0:=by rw [h1];rfl
     exact List.eq_nil_of_length_eq_zero (by omega)
    unfold nodeD
    dsimp only
    have hs0:s=[]:=by rw [←hs,h1];rfl
    refine ⟨by unfold kindD;rw [if_pos h1],by rw [ha];rfl,by rw [if_neg (by rw [h1];decide)],rfl,rfl,?_⟩
    rw [if_pos h1,hs0,Zbd]
    rfl
   ·right;right
    have hk:kindD e.kind=e.kind.toNat:=by unfold kindD;rw [if_neg h1,if_pos (by omega)]
    have hki:((kindD e.kind:Nat):Int)=e.kind:=by rw [hk];omega
    unfold nodeD
    dsimp only
    refine ⟨by omega,by omega,by rw [if_neg h1],rfl,rfl,fun h9=>by rw [if_neg (by omega)],by rw [Kak,hki];exact hmd,?_⟩
    rw [hki,List.map_map]
    have hmm:List.map ((fun a=>(atD l a).shape) ∘ fun a:Int=>P a.toNat) e.args=e.args.map fun a=>sh.getD a.toNat []:=List.map_congr_left fun a ha=>(hP a ha).2
    rw [hmm]
    have hkk:Zab e.kind (if e.kind=9 then e.num else 0) (e.args.map fun a=>sh.getD a.toNat [])=Zab e.kind e.num (e.args.map fun a=>sh.getD a.toNat []):=by
     by_cases h9:e.kind=9
     ·rw [if_pos h9]
     ·unfold Zab
      rw [if_neg h9,if_neg h9]
    rw [hkk]
    refine Prod.ext hs ?_
    cases h:(Zab e.kind e.num (e.args.map fun a=>sh.getD a.toNat [])).2 with
    | true=>rfl
    | false=>exact absurd h hok.1
theorem kind_range {k:Int} (h:0≤madeP k):1≤k∧k≤14:=by
 unfold madeP at h
 split at h
 ·omega
 ·split at h
  ·omega
  ·split at h
   ·omega
   ·split at h
    ·omega
    ·omega
theorem letD_res {in0 in1:List (List Int)} {es:List EI} {sh:List (List Int)} {names:PlacesD} {sn:Names} {root:Nat} {l:List ND} (f s:Bool) (hx:exsOk 0 es=true) (ho:Ahead es) (hl:LetOk es sn sh root) (hw:WfD in0 in1 l) (hn:NamesD l names sn) {Q:List ND→Prop} (hQ:∀ l n,WfD in0 in1 l→NodeOk in0 in1 l l.length n→Q l→Q (madeD f s l n).1) (hq:Q l):
  ∀ i,LetRes Q in0 in1 l sh (Zac es root) i (letD f s es sh names (Zac es root) l i)
 | 0=>⟨hw,hq,List.prefix_rfl,fun a h=>by omega⟩
 | i+1=>by
  have ih:=letD_res f s hx ho hl hw hn hQ hq i
  unfold letD
  dsimp only
  by_cases hm:Zac es root i=true
  ·rw [if_pos hm]
   obtain ⟨e,he,hc⟩:=hl.2 i hm
   rw [he]
   dsimp only
   by_cases h2:e.kind=2
   ·rw [if_pos h2]
    refine ⟨ih.wf,ih.q,ih.pre,fun a ha hma => ?_⟩
    dsimp only
    unfold updD
    by_cases hai:a=i
    ·rw [if_pos hai,hai]
     unfold exprC at hc
     rw [if_pos h2] at hc
     cases hf:findN sn e.name with
     | none=>rw [hf] at hc;cases hc
     | some s'=>
      rw [hf] at hc
      injection hc with hc
      rw [←hc]
      exact (hn.pre ih.pre) _ _ hf
    ·rw [if_neg hai]
     exact ih.at_ a (by omega) hma
   ·rw [if_neg h2]
    have hex:=ZeT es 0 hx i e he
    have hmd:(e.args.length:Int)=madeP e.kind:=by
     unfold exOk at hex
     rw [Bool.and_eq_true,beq_iff_eq] at hex
     exact hex.1.symm
    have hkn:1≤e.kind∧e.kind≤14:=kind_range (by omega)
    have hnode:=nodeD_ok (in0:=in0) (in1:=in1) (l:=(letD f s es sh names (Zac es root) l i).1) (P:=(letD f s es sh names (Zac es root) l i).2) hc h2 hmd hkn (fun a ha=>by
     have h3:=ho i e he a ha
     exact ih.at_ a.toNat (by omega) (Zbi ho hl.1 i e hm he a ha))
    refine ⟨madeD_wf f s ih.wf hnode,hQ _ _ ih.wf hnode ih.q,ih.pre.trans (madeD_pre _ _ _ _),fun a ha hma => ?_⟩
    dsimp only
    unfold updD
    by_cases hai:a=i
    ·rw [if_pos hai,hai]
     exact ⟨madeD_lt _ _ _ _,by rw [atD_some (madeD_at f s _ _),foldD_shape];rfl⟩
    ·rw [if_neg hai]
     obtain ⟨h4,h5⟩:=ih.at_ a (by omega) hma
     exact ⟨Kae h4 (madeD_pre f s _ _).length_le,by rw [atD_pre h4 (madeD_pre f s _ _)];exact h5⟩
  ·rw [if_neg hm]
   refine ⟨ih.wf,ih.q,ih.pre,fun a ha hma => ?_⟩
   by_cases hai:a=i
   ·rw [hai] at hma;exact absurd hma hm
   ·exact ih.at_ a (by omega) hma
def VNt (a:Nat):Value:=.int .i64 (a:Int)
theorem vnt_map (l:List Nat):l.map VNt=(l.map Int.ofNat).map VI:=by rw [List.map_map];rfl
structure NV where
 sv:Value
 av:Value
 ev:Value
def ndC (m:ND × NV):List Value:=[.int .i64 m.1.kind,m.2.sv,m.2.av,.int .i64 m.1.party,.int .i64 m.1.input,.int .i64 m.1.k,m.2.ev]
def ndA (m:ND × NV):Value:=.agg #[.int .i64 m.1.kind,m.2.sv,m.2.av,.int .i64 m.1.party,.int .i64 m.1.input,.int .i64 m.1.k,m.2.ev]
def ndB (m:ND × NV):List (Option Nat):=[m.2.sv.ownBlock,m.2.av.ownBlock]
structure NdV (w:World) (B:Nat) (m:ND × NV):Prop where
 ls:m.1.shape.length≤1000000
 la:m.1.args.length≤1000000
 le:m.1.elems.length≤1000000
 sv:∃ A c,m.2.sv=.slice A m.1.shape.length c∧Own w B 3 A c (m.1.shape.map VI)
 av:∃ A c,m.2.av=.slice A m.1.args.length c∧Own w B 3 A c (m.1.args.map VNt)
 ev:∃ A c,m.2.ev=.slice A m.1.elems.length c∧Own w B 39 A c (m.1.elems.map U)
def KIW (w w':World):Prop:=∀ (g:Nat) (cur:Array Value) (T:TypeId),w.heap[g]?=some (.cells cur T (0,0))→(T=3∨T=39)→w'.heap[g]?=w.heap[g]?
theorem KIW.below {w w':World} (h:Below w.heap.size w w'):KIW w w':=fun g cur T hg _=>h.block g (Kab.1 hg).1
theorem KIW.set {w:World} {b k:Nat} {cs:Array Value} {T:TypeId} {fr:Nat × Nat} (hp:w.heap[b]?=some (.cells cs T fr)) (h1:T≠3) (h2:T≠39) (v:Value):KIW w (w.setCell ⟨b,k,none⟩ v):=fun g cur T' hg hT=>by
 refine ZaS _ _ _ (fun e => ?_)
 have e':g=b:=e
 subst e'
 rw [hp] at hg
 injection hg with hg
 injection hg with _ hg _
 rcases hT with hT | hT
 ·exact h1 (hg.trans hT)
 ·exact h2 (hg.trans hT)
theorem KIW.grown {w w':World} {A:Option Addr} {T:TypeId} (hg:w.grownBy w' (blk A)) (h1:T≠3) (h2:T≠39) (hA:∀ g,blk A=some g→∃ cur,w.heap[g]?=some (.cells cur T (0,0))):KIW w w':=fun g cur T' hc hT=>hg.block g (Kab.1 hc).1 fun q=>by
 obtain ⟨cur',hc'⟩:=hA g q.symm
 rw [hc] at hc'
 injection hc' with hc'
 injection hc' with _ hc' _
 rcases hT with hT | hT
 ·exact h1 (hc'.symm.trans hT)
 ·exact h2 (hc'.symm.trans hT)
theorem KIW.map {w w':World} {g:Nat} {es:Array MapEntry} {c:Nat} (hg:w.heap[g]?=some (.map es c)) (hk:∀ k,k≠g→w'.heap[k]?=w.heap[k]?):KIW w w':=fun k cur T hc _=>hk k fun e=>by
 rw [e,hg] at hc
 cases hc
theorem KIW.trans {a b c:World} (h:KIW a b) (h':KIW b c):KIW a c:=fun g cur T hg hT=>(h' g cur T ((h g cur T hg hT).trans hg) hT).trans (h g cur T hg hT)
theorem own_at {w w':World} {B c:Nat} {e:TypeId} {A:Option Addr} {xs:List Value} (h:Own w B e A c xs) (hk:∀ k,blk A=some k→w'.heap[k]?=w.heap[k]?):Own w' B e A c xs:=ZaK h hk
theorem own_kiw {w w':World} {B c:Nat} {e:TypeId} {A:Option Addr} {xs:List Value} (h:Own w B e A c xs) (he:e=3∨e=39) (hk:KIW w w'):Own w' B e A c xs:=Zf4 h fun g cur hg=>hk g cur e hg he
theorem NdV.kiw {w w':World} {B:Nat} {m:ND × NV} (h:NdV w B m) (hk:KIW w w'):NdV w' B m:=by
 obtain ⟨l1,l2,l3,⟨A1,c1,e1,o1⟩,⟨A2,c2,e2,o2⟩,A3,c3,e3,o3⟩:=h
 exact ⟨l1,l2,l3,⟨A1,c1,e1,own_kiw o1 (.inl rfl) hk⟩,⟨A2,c2,e2,own_kiw o2 (.inl rfl) hk⟩,A3,c3,e3,own_kiw o3 (.inr rfl) hk⟩
theorem NdV.ones {w:World} {B:Nat} {m:ND × NV} (h:NdV w B m):∀ u∈ndC m,u.oneCell'=true:=by
 obtain ⟨_,_,_,⟨A1,c1,e1,o1⟩,⟨A2,c2,e2,o2⟩,A3,c3,e3,o3⟩:=h
 intro u hu
 simp [ndC] at hu
 rcases hu with rfl | rfl | rfl | rfl | rfl | rfl | rfl
 ·rfl
 ·rw [e1];rfl
 ·rw [e2];rfl
 ·rfl
 ·rfl
 ·rfl
 ·rw [e3];rfl
theorem NdV.lt {w:World} {B:Nat} {m:ND × NV} (h:NdV w B m):∀ b∈ndB m,∀ k,b=some k→B≤k∧k<w.heap.size:=by
 obtain ⟨_,_,_,⟨A1,c1,e1,o1⟩,⟨A2,c2,e2,o2⟩,_⟩:=h
 intro b hb k hk
 simp [ndB] at hb
 rcases hb with rfl | rfl
 ·rw [e1] at hk
  exact ZiE o1 k hk
 ·rw [e2] at hk
  exact ZiE o2 k hk
def NdRow (w:World) (B:Nat) (A:Option Addr) (c:Nat) (ms:List (ND × NV)):Prop:=w.ownsRow B 77 7 (.slice A ms.length c) ms.length (ms.flatMap ndC)∧∀ m∈ms,NdV w B m
section
variable {w w':World} {B c:Nat} {A:Option Addr} {ms:List (ND × NV)}
theorem NdRow.nil (w:World) (B:Nat):NdRow w B none 0 []:=⟨World.ownsRow_nil w B _ 7,by simp⟩
theorem NdRow.lt (h:NdRow w B A c ms):∀ g,blk A=some g→B≤g∧g<w.heap.size:=Zdg h.1
theorem NdRow.keep (h:NdRow w B A c ms) (hk:KIW w w') (hA:∀ g,blk A=some g→w'.heap[g]?=w.heap[g]?):NdRow w' B A c ms:=⟨ZaK h.1 hA,fun m hm=>(h.2 m hm).kiw hk⟩
theorem NdRow.next (h:NdRow w B A c ms) (hb:Below w.heap.size w w'):NdRow w' B A c ms:=h.keep (KIW.below hb) fun g hg=>hb.block g (h.lt g hg).2
theorem NdRow.form (h:NdRow w B A c ms):∀ g,blk A=some g→∃ cur,w.heap[g]?=some (.cells cur 77 (0,0)):=by
 intro g hg
 rcases h.1.2 with ⟨hv,_⟩ | ⟨g',cap',cur,hv,hb,hh,r⟩
 ·injection hv with a
  rw [a] at hg
  cases hg
 ·injection hv with a
  rw [a] at hg
  have:g'=g:=by simpa [blk] using hg
  subst this
  exact ⟨cur,hh⟩
theorem NdRow.at_ (h:NdRow w B A c ms) {i:Nat} {m:ND × NV} (hm:ms[i]?=some m):∃ g,A=some ⟨g,0,none⟩∧g<w.heap.size∧(∀ k v,(ndC m)[k]?=some v→k<7→w.cell? ⟨g,i*7+k,none⟩=some v)∧NdV w B m:=by
 obtain ⟨g,hA,hg,_,hc⟩:=Zbm h.1 (by have:=(Kaf.1 hm).1;omega)
 exact ⟨g,hA,hg,fun k v hv hk=>hc _ v ((Zaq ndC 7 (fun _=>rfl) ms i k m hm hk).trans hv),h.2 m (Kam hm)⟩
end
theorem nd_info:(Tryz.prog.info? 77).map (fun i=>(i.zero,i.size,i.bytes))=some (some (.agg #[.int .i64 0,.slice none 0 0,.slice none 0 0,.int .i64 0,.int .i64 0,.int .i64 0,.slice none 0 0]),7,104):=by kernel_rfl
theorem run_appNd {w:World} (ty:TypeId) (B:Nat) (A:Option Addr) (cap n:Nat) (ms:List (ND × NV)) (hn:n=ms.length) (hown:NdRow w B A cap ms) (g2:Nat) (m:ND × NV) (hb:w.heap[g2]?=some (.cells (ndC m).toArray 77 (0,0))) (hm:NdV w B m)
  (hbytes:n≤100000) (hbase:B≤w.heap.size):
  ∃ A' cap' w',(Builtin.append_ #[66,66] ty #[.slice A n cap,.slice (some ⟨g2,0,none⟩) 1 1]).run Tryz.prog w=.ok (.slice A' (n+1) cap') w'∧NdRow w' B A' cap' (ms++[m])∧w.grownBy w' (blk A)∧(blk A'=blk A∨blk A'=some w.heap.size)∧KIW w w':=by
 subst hn
 obtain ⟨i0,hi0,hz0,hz1,hz2⟩:=info_parts nd_info
 obtain ⟨A',cap',w',r1,r2,r3,r4⟩:=ZeH (P := Tryz.prog) w B 66 ty 77 i0 _ 7 104 Tryz.underlying66 hi0 hz0 hz1 (by decide) hz2 rfl A cap ms.length (ms.flatMap ndC) hown.1 g2 (ndC m) rfl
  (fun j u hu=>by rw [Kaa w g2 j _ _ (0,0) hb];simpa using hu) hm.ones (by simp only [maxLen];omega) (by omega) hbase
 have hk:KIW w w':=KIW.grown r3 (by decide) (by decide) hown.form
 refine ⟨A',cap',w',r1,⟨?_,fun x hx => ?_⟩,r3,r4,hk⟩
 ·rw [List.flatMap_append,List.length_append]
  have:List.flatMap ndC [m]=ndC m:=by simp
  rw [this]
  exact r2
 ·rcases List.mem_append.1 hx with hx | hx
  ·exact (hown.2 x hx).kiw hk
  ·rw [List.mem_singleton.1 hx]
   exact hm.kiw hk
def namV (names:PlacesD):List (ByteArray × Value):=names.map fun p=>(p.1,VNt p.2)
theorem findV_nam (n:ByteArray):∀ names:PlacesD,(findV (namV names) n=none∧placeD names n=0∧(names.any fun q=>decide (q.1.toList=n.toList))=false)∨findV (namV names) n=some (VNt (placeD names n))
 | []=>.inl ⟨rfl,rfl,rfl⟩
 | (t,v)::r=>by
  unfold namV findV placeD
  rw [List.map_cons]
  dsimp only
  rw [ZbG]
  by_cases e:t.toList=n.toList
  ·rw [if_pos e]
   have:decide (n.toList=t.toList)=true:=by simp [e]
   rw [this]
   exact .inr rfl
  ·rw [if_neg e]
   have:decide (n.toList=t.toList)=false:=decide_eq_false fun h=>e h.symm
   rw [this]
   rcases findV_nam n r with ⟨h1,h2,h3⟩ | h1
   ·refine .inl ⟨h1,h2,?_⟩
    rw [List.any_cons,h3,Bool.or_false]
    exact decide_eq_false e
   ·exact .inr h1
theorem int_zero (w:World):(zeroValue 3).run Tryz.prog w=.ok (.int .i64 0) w:=by kernel_rfl
theorem run_pl_lookup {w:World} {g:Nat} {names:PlacesD} (h:NamM w g (namV names)) (n:ByteArray):
  (Instr.lookup 129 (.map (some g)) (.string n) false).run Tryz.prog w=.ok (.int .i64 (placeD names n:Nat)) w:=by
 obtain ⟨es,clock,hg,he⟩:=h
 unfold Instr.lookup
 simp only [Sem.run_bind,run_underlying Tryz.underlying129,Result.andThen_ok,Go.MapKept.run_getObj_map hg,Sem.run_pure]
 rw [Go.MapKept.run_checkKey Tryz.underlying9 (show Go.MapKept.IsKey .string (.string n) from trivial)]
 simp only [Result.andThen_ok]
 rcases Zbx n es.toList (namV names) 0 he with ⟨h1,h2⟩ | ⟨v',i,h1,h2⟩
 ·rw [Go.MapKept.run_findKey Tryz.underlying9 h2]
  rcases findV_nam n names with ⟨_,h3,_⟩ | h3
  ·rw [h3]
   simp [Sem.run_bind,Sem.run_pure,int_zero]
  ·rw [h1] at h3;cases h3
 ·rw [Go.MapKept.run_findKey Tryz.underlying9 h2]
  rcases findV_nam n names with ⟨h3,_⟩ | h3
  ·rw [h1] at h3;cases h3
  ·rw [h1] at h3
   injection h3 with h3
   subst h3
   simp [Sem.run_bind,Sem.run_pure,VNt]
theorem pl_store_all {w:World} {g:Nat} {names:PlacesD} (h:NamM w g (namV names)) (n:ByteArray) (p:Nat) (hn:(names.any fun q=>decide (q.1.toList=n.toList))=false):
  ∃ o,∀ W:World,W.heap=w.heap→(Instr.mapUpdate 129 (.map (some g)) (.string n) (.int .i64 (p:Int))).run Tryz.prog W=.ok () { W with heap:=W.heap.setIfInBounds g o }∧NamM { W with heap:=W.heap.setIfInBounds g o } g (namV (names++[(n,p)])):=by
 have hf:findV (namV names) n=none:=by
  rcases findV_nam n names with ⟨h1,_⟩ | h1
  ·exact h1
  ·exfalso
   clear h
   induction names with
   | nil=>cases h1
   | cons q r ih=>
    obtain ⟨t,v⟩:=q
    rw [List.any_cons,Bool.or_eq_false_iff] at hn
    have ht:¬ t.toList=n.toList:=of_decide_eq_false hn.1
    unfold namV findV placeD at h1
    rw [List.map_cons] at h1
    dsimp only at h1
    rw [ZbG,if_neg ht] at h1
    have:decide (n.toList=t.toList)=false:=decide_eq_false fun h=>ht h.symm
    rw [this] at h1
    exact ih hn.2 h1
 obtain ⟨es,clock,hg,he⟩:=h
 refine ⟨.map (es.push { key:=.string n,val:=.int .i64 (p:Int),born:=clock }) (clock+1),fun W hW => ?_⟩
 have hg':W.heap[g]?=some (.map es clock):=by rw [hW];exact hg
 refine ⟨?_,es.push { key:=.string n,val:=.int .i64 (p:Int),born:=clock },clock+1,(Go.MapKept.heap_set hg').1,?_⟩
 ·unfold Instr.mapUpdate
  simp only [Sem.run_bind,run_underlying Tryz.underlying129,Result.andThen_ok,Go.MapKept.run_getObj_map hg']
  rw [Go.MapKept.run_checkKey Tryz.underlying9 (show Go.MapKept.IsKey .string (.string n) from trivial)]
  simp only [Result.andThen_ok]
  rcases Zbx n es.toList (namV names) 0 he with ⟨h1,h2⟩ | ⟨v',i,h1,h2⟩
  ·rw [Go.MapKept.run_findKey Tryz.underlying9 h2]
   simp only [Result.andThen_ok]
   exact Go.MapKept.run_setObj_map _ hg'
  ·rw [hf] at h1;cases h1
 ·unfold namV at *
  rw [Array.toList_push,List.map_append,List.map_append,List.map_append,he]
  rfl
theorem beqW_take {l l':List UInt64} (hl:l.length=l'.length) {i:Nat} {a b:UInt64} (h:l[i]?=some a) (h':l'[i]?=some b):((l.drop i==l'.drop i)=((a==b)&&(l.drop (i+1)==l'.drop (i+1)))):=by
 obtain ⟨hi,he⟩:=Kaf.1 h
 obtain ⟨hi',he'⟩:=Kaf.1 h'
 rw [List.drop_eq_getElem_cons hi,List.drop_eq_getElem_cons hi',he,he']
 rfl
theorem beqW_len {l l':List UInt64} (h:l.length≠l'.length):(l==l')=false:=by
 rw [Kaj]
 intro e
 exact h (by rw [e])
theorem equalW_any (A A':Option Addr) (n m c c':Nat) (l l':List UInt64) (w:World) (hn:n=l.length) (hm:m=l'.length) (hl:n≤9223372036854775807) (hl':m≤9223372036854775807) (h:Rd w w.heap.size A (l.map U)) (h':Rd w w.heap.size A' (l'.map U)):
  Calls Tryz.prog 167 #[.slice A n c,.slice A' m c'] w fun e w'=>e=.returned (.bool (l==l'))∧∃ q,w'=w.drewN q:=by
 have HN:=hid hn
 have HM:=hid hm
 have H:=hid h
 have H':=hid h'
 clear h h' hn hm
 by_cases hnm:n=m
 ·subst hnm
  have q0:((n:Int)==(n:Int))=true:=by simp
  have q0':((n:Int) != (n:Int))=false:=by simp
  go_enter Tryz.func167,Tryz.ntmps167
  go_wp2
  go_loopw [13] (fun iv wr=>(∃ i:Nat,i≤n∧iv=.int .i64 i∧(l==l')=(l.drop i==l'.drop i))∧∃ q,wr=w.drewN q) (fun iv _=>n-(intOf iv).toNat)
  case atStart=>exact ⟨⟨0,by omega,rfl,rfl⟩,0,rfl⟩
  case round=>
   obtain ⟨⟨i,hi,rfl,hr⟩,q,rfl⟩:=hrel
   have HR:=hid hr
   clear hr
   by_cases hlt:i<n
   ·have ht:l[i]?=some (l[i]'(by rw [←HN.out];exact hlt)):=Kad _
    obtain ⟨d,hd⟩:∃ d,d=l[i]'(by rw [←HN.out];exact hlt):=⟨_,rfl⟩
    rw [←hd] at ht
    have ht':l'[i]?=some (l'[i]'(by rw [←HM.out];exact hlt)):=Kad _
    obtain ⟨d',hd'⟩:∃ d,d=l'[i]'(by rw [←HM.out];exact hlt):=⟨_,rfl⟩
    rw [←hd'] at ht'
    obtain ⟨b,o,rfl,hbl,c0⟩:=H.out.at_ (show (l.map U)[i]?=some (U d) by rw [Kal,ht];rfl)
    obtain ⟨b',o',rfl,hbl',c0'⟩:=H'.out.at_ (show (l'.map U)[i]?=some (U d') by rw [Kal,ht'];rfl)
    have hD:=hid (beqW_take (by rw [←HN.out,←HM.out]) ht ht')
    have i0:(0:Int)≤(i:Int):=by omega
    have i1:(i:Int)<(n:Int):=by omega
    clear ht hd ht' hd' hbl hbl'
    by_cases hdd:d=d'
    ·subst hdd
     have q0:(d==d)=true:=by simp
     have q1:((d.toNat:Int)==(d.toNat:Int))=true:=by simp
     have q2:((d.toNat:Int) != (d.toNat:Int))=false:=by simp
     have HX:=hid (show (l==l')=(l.drop (i+1)==l'.drop (i+1)) from by rw [HR.out,hD.out,q0];rfl)
     go_wp2_with fail
     go_quiet (fail)
     go_wp2
     exact ⟨⟨⟨i+1,by omega,rfl,HX.out⟩,_,rfl⟩,by simp [intOf];omega⟩
    ·have q0:(d==d')=false:=by rw [Kaj];exact hdd
     have q1:((d.toNat:Int)==(d'.toNat:Int))=false:=by rw [Kaj];exact fun e=>hdd (UInt64.toNat_inj.1 (by omega))
     have q2:((d.toNat:Int) != (d'.toNat:Int))=true:=by unfold bne;rw [q1];rfl
     have HX:=hid (show (l==l')=false from by rw [HR.out,hD.out,q0];rfl)
     clear hdd
     go_wp2_with fail
     go_quiet (fail)
     go_wp2
     go_ret
     exact ⟨by rw [HX.out];rfl,q+nq,World.drewN_drewN _ _ _⟩
   ·obtain rfl:n=i:=by omega
    have HX:=hid (show (l==l')=true from by rw [HR.out,HN.out,List.drop_length,←HN.out,HM.out,List.drop_length];rfl)
    go_wp2
    go_ret
    exact ⟨by rw [HX.out];rfl,_,rfl⟩
 ·have q1:((n:Int)==(m:Int))=false:=by rw [Kaj];omega
  have q2:((n:Int) != (m:Int))=true:=by unfold bne;rw [q1];rfl
  have HX:=hid (show (l==l')=false from beqW_len (by rw [←HN.out,←HM.out];exact hnm))
  clear hnm
  go_enter Tryz.func167,Tryz.ntmps167
  go_wp2
  go_ret
  exact ⟨by rw [HX.out];rfl,0,rfl⟩
theorem words2_any (A A':Option Addr) (n m c c':Nat) (l l':List UInt64) (w:World) (hn:n=l.length) (hm:m=l'.length) (hl:n≤9223372036854775807) (hl':m≤9223372036854775807) (h:Rd w w.heap.size A (l.map U)) (h':Rd w w.heap.size A' (l'.map U)):
  Calls Tryz.prog 50 #[.slice A n c,.slice A' m c'] w fun e w'=>e=.returned (.bool (l==l'))∧∃ q,w'=w.drewN q:=by
 have HN:=hid hn
 have HM:=hid hm
 have H:=hid h
 have H':=hid h'
 clear h h' hn hm
 by_cases hnm:n=m
 ·subst hnm
  have q0:((n:Int)==(n:Int))=true:=by simp
  have q0':((n:Int) != (n:Int))=false:=by simp
  go_enter Tryz.func50,Tryz.ntmps50
  go_wp2
  go_loopw [13] (fun iv wr=>(∃ i:Nat,i≤n∧iv=.int .i64 i∧(l==l')=(l.drop i==l'.drop i))∧∃ q,wr=w.drewN q) (fun iv _=>n-(intOf iv).toNat)
  case atStart=>exact ⟨⟨0,by omega,rfl,rfl⟩,0,rfl⟩
  case round=>
   obtain ⟨⟨i,hi,rfl,hr⟩,q,rfl⟩:=hrel
   have HR:=hid hr
   clear hr
   by_cases hlt:i<n
   ·have ht:l[i]?=some (l[i]'(by rw [←HN.out];exact hlt)):=Kad _
    obtain ⟨d,hd⟩:∃ d,d=l[i]'(by rw [←HN.out];exact hlt):=⟨_,rfl⟩
    rw [←hd] at ht
    have ht':l'[i]?=some (l'[i]'(by rw [←HM.out];exact hlt)):=Kad _
    obtain ⟨d',hd'⟩:∃ d,d=l'[i]'(by rw [←HM.out];exact hlt):=⟨_,rfl⟩
    rw [←hd'] at ht'
    obtain ⟨b,o,rfl,hbl,c0⟩:=H.out.at_ (show (l.map U)[i]?=some (U d) by rw [Kal,ht];rfl)
    obtain ⟨b',o',rfl,hbl',c0'⟩:=H'.out.at_ (show (l'.map U)[i]?=some (U d') by rw [Kal,ht'];rfl)
    have hD:=hid (beqW_take (by rw [←HN.out,←HM.out]) ht ht')
    have i0:(0:Int)≤(i:Int):=by omega
    have i1:(i:Int)<(n:Int):=by omega
    clear ht hd ht' hd' hbl hbl'
    by_cases hdd:d=d'
    ·subst hdd
     have q0:(d==d)=true:=by simp
     have q1:((d.toNat:Int)==(d.toNat:Int))=true:=by simp
     have q2:((d.toNat:Int) != (d.toNat:Int))=false:=by simp
     have HX:=hid (show (l==l')=(l.drop (i+1)==l'.drop (i+1)) from by rw [HR.out,hD.out,q0];rfl)
     go_wp2_with fail
     go_quiet (fail)
     go_wp2
     exact ⟨⟨⟨i+1,by omega,rfl,HX.out⟩,_,rfl⟩,by simp [intOf];omega⟩
    ·have q0:(d==d')=false:=by rw [Kaj];exact hdd
     have q1:((d.toNat:Int)==(d'.toNat:Int))=false:=by rw [Kaj];exact fun e=>hdd (UInt64.toNat_inj.1 (by omega))
     have q2:((d.toNat:Int) != (d'.toNat:Int))=true:=by unfold bne;rw [q1];rfl
     have HX:=hid (show (l==l')=false from by rw [HR.out,hD.out,q0];rfl)
     clear hdd
     go_wp2_with fail
     go_quiet (fail)
     go_wp2
     go_ret
     exact ⟨by rw [HX.out];rfl,q+nq,World.drewN_drewN _ _ _⟩
   ·obtain rfl:n=i:=by omega
    have HX:=hid (show (l==l')=true from by rw [HR.out,HN.out,List.drop_length,←HN.out,HM.out,List.drop_length];rfl)
    go_wp2
    go_ret
    exact ⟨by rw [HX.out];rfl,_,rfl⟩
 ·have q1:((n:Int)==(m:Int))=false:=by rw [Kaj];omega
  have q2:((n:Int) != (m:Int))=true:=by unfold bne;rw [q1];rfl
  have HX:=hid (show (l==l')=false from beqW_len (by rw [←HN.out,←HM.out];exact hnm))
  clear hnm
  go_enter Tryz.func50,Tryz.ntmps50
  go_wp2
  go_ret
  exact ⟨by rw [HX.out];rfl,0,rfl⟩
theorem kindOf_any (k:Int) (h:k=1∨(3≤k∧k≤14)) (w:World):Calls Tryz.prog 112 #[.int .i64 k] w fun e w'=>e=.returned (.int .i64 (kindD k:Nat))∧w=w':=by
 rcases (by omega:k=1∨k=3∨k=4∨k=5∨k=6∨k=7∨k=8∨k=9∨k=10∨k=11∨k=12∨k=13∨k=14) with rfl | rfl | rfl | rfl | rfl | rfl | rfl | rfl | rfl | rfl | rfl | rfl | rfl
 all_goals
  clear h
  go_enter Tryz.func112,Tryz.ntmps112
  go_wp2
  go_ret
  exact ⟨rfl,rfl⟩
theorem kindD_id {i:Nat} (h:3≤i∧i≤14):kindD (i:Int)=i:=by
 unfold kindD
 rw [if_neg (by omega),if_pos (by omega)]
 omega
theorem exprOf_any (k:Nat) (h:3≤k∧k≤14) (w:World):Calls Tryz.prog 117 #[.int .i64 k] w fun e w'=>e=.returned (.int .i64 (k:Int))∧w=w':=by
 have HK:=hid (fun (i:Nat) (hi:3≤i∧i≤14)=>by have:=kindOf_any (i:Int) (.inr (by omega)) w;rw [kindD_id hi] at this;exact this)
 go_enter Tryz.func117,Tryz.ntmps117
 go_wp2
 go_loop [3] (fun iv=>∃ i:Nat,3≤i∧i≤k∧iv=.int .i64 i) (fun iv=>15-(intOf iv).toNat)
 case atStart=>exact ⟨3,by omega,by omega,rfl⟩
 case round=>
  obtain ⟨i,h3,hk,rfl⟩:=hrel
  have q0:decide ((i:Int)≤14)=true:=by simp;omega
  have hcall:=hid (HK.out i (by omega))
  by_cases hik:i=k
  ·subst hik
   have q1:((i:Int)==(i:Int))=true:=by simp
   go_wp2_with (go_at_call 112;refine hcall.out.mono ?_;rintro e w' ⟨rfl,rfl⟩)
   go_ret
   exact ⟨rfl,rfl⟩
  ·have q1:((i:Int)==(k:Int))=false:=by rw [Kaj];omega
   go_wp2_with (go_at_call 112;refine hcall.out.mono ?_;rintro e w' ⟨rfl,rfl⟩)
   exact ⟨⟨i+1,by omega,by omega,rfl⟩,by simp [intOf];omega⟩
structure NdR (w:World) (m:ND × NV):Prop where
 ls:m.1.shape.length≤1000000
 la:m.1.args.length≤1000000
 le:m.1.elems.length≤1000000
 sv:∃ A c,m.2.sv=.slice A m.1.shape.length c∧Rd w w.heap.size A (m.1.shape.map VI)∧m.1.shape.length≤c∧c≤9223372036854775807
 av:∃ A c,m.2.av=.slice A m.1.args.length c∧Rd w w.heap.size A (m.1.args.map VNt)∧m.1.args.length≤c∧c≤9223372036854775807
 ev:∃ A c,m.2.ev=.slice A m.1.elems.length c∧Rd w w.heap.size A (m.1.elems.map U)∧m.1.elems.length≤c∧c≤9223372036854775807
theorem own_capsN {w:World} {B c:Nat} {e:TypeId} {A:Option Addr} {xs:List Value} (h:Own w B e A c xs):xs.length≤c∧c≤9223372036854775807:=by
 have:=Zfl h
 exact this.2
theorem NdV.rd {w:World} {B:Nat} {m:ND × NV} (h:NdV w B m):NdR w m:=by
 obtain ⟨l1,l2,l3,⟨A1,c1,e1,o1⟩,⟨A2,c2,e2,o2⟩,A3,c3,e3,o3⟩:=h
 have k1:=own_capsN o1
 have k2:=own_capsN o2
 have k3:=own_capsN o3
 rw [Kak] at k1 k2 k3
 exact ⟨l1,l2,l3,⟨A1,c1,e1,o1.rd,k1⟩,⟨A2,c2,e2,o2.rd,k2⟩,A3,c3,e3,o3.rd,k3⟩
theorem NdR.next {w w':World} {m:ND × NV} (h:NdR w m) (hb:Below w.heap.size w w'):NdR w' m:=by
 obtain ⟨l1,l2,l3,⟨A1,c1,e1,o1,k1⟩,⟨A2,c2,e2,o2,k2⟩,A3,c3,e3,o3,k3⟩:=h
 exact ⟨l1,l2,l3,⟨A1,c1,e1,o1.next hb,k1⟩,⟨A2,c2,e2,o2.next hb,k2⟩,A3,c3,e3,o3.next hb,k3⟩
def nmT (i:Nat):ByteArray:=⟨#[UInt8.ofNat (97+i)]⟩
def zNm:ByteArray:=⟨#[122]⟩
def tinyI:Nat→List TN→List SI
 | _,[]=>[]
 | i,x::r=>⟨1,0,nmT i,x.sh,0,0⟩::tinyI (i+1) r
def tinyS (xs:List TN):List SI:=tinyI 0 xs++[⟨2,0,zNm,[],xs.length,0⟩,⟨3,0,zNm,[],0,0⟩]
def tinyN (m:Nat):List EI:=(List.range m).map fun i=>⟨2,nmT i,0,[],0⟩
def tinyE (k num m:Nat):List EI:=tinyN m++[⟨k,⟨#[]⟩,num,(List.range m).map Int.ofNat,0⟩]
theorem tn01:¬ (nmT 0).toList=(nmT 1).toList:=by rw [ByteArray.toList_eq,ByteArray.toList_eq];decide
theorem tn02:¬ (nmT 0).toList=(nmT 2).toList:=by rw [ByteArray.toList_eq,ByteArray.toList_eq];decide
theorem tn12:¬ (nmT 1).toList=(nmT 2).toList:=by rw [ByteArray.toList_eq,ByteArray.toList_eq];decide
theorem tn0z:¬ (nmT 0).toList=zNm.toList:=by rw [ByteArray.toList_eq,ByteArray.toList_eq];decide
theorem tn1z:¬ (nmT 1).toList=zNm.toList:=by rw [ByteArray.toList_eq,ByteArray.toList_eq];decide
theorem tn2z:¬ (nmT 2).toList=zNm.toList:=by rw [ByteArray.toList_eq,ByteArray.toList_eq];decide
theorem tn10:¬ (nmT 1).toList=(nmT 0).toList:=fun e=>tn01 e.symm
theorem tn20:¬ (nmT 2).toList=(nmT 0).toList:=fun e=>tn02 e.symm
theorem tn21:¬ (nmT 2).toList=(nmT 1).toList:=fun e=>tn12 e.symm
theorem tns0:(nmT 0).size=1:=rfl
theorem tns1:(nmT 1).size=1:=rfl
theorem tns2:(nmT 2).size=1:=rfl
theorem tnsz:zNm.size=1:=rfl
theorem tiny_one {k num:Nat} {x:TN} {sz:List Int} (hk:3≤k∧k≤14) (hl:madeP k=1) (hx:Zad x.sh≠0∧(x.el.length:Int)=Zad x.sh) (hs:Zad sz≠0) (hsh:Zab k num [x.sh]=(sz,true)):
  evalR (tinyS [x]) (tinyE k num 1) [x] []=.inl [⟨sz,Zbc k num (Zad sz).toNat [x]⟩]:=by
 have e1:(k:Int)≠1:=by omega
 have e2:(k:Int)≠2:=by omega
 have hes:tinyE k num 1=[⟨2,nmT 0,0,[],0⟩,⟨k,⟨#[]⟩,num,[0],0⟩]:=rfl
 have hss:tinyS [x]=[⟨1,0,nmT 0,x.sh,0,0⟩,⟨2,0,zNm,[],1,0⟩,⟨3,0,zNm,[],0,0⟩]:=rfl
 have hm2:madeP 2=0:=rfl
 have hw:∀ i,i<2→Zac (tinyE k num 1) 1 i=true:=by
  intro i hi
  have:i=0∨i=1:=by omega
  rcases this with rfl | rfl <;> rfl
 rw [hes] at hw
 have hw0:=hw 0 (by omega)
 have hw1:=hw 1 (by omega)
 unfold evalR ZaA treeP
 rw [hss,hes]
 simp [exsOk,exOk,hl,hm2,argOk,smOk,Zaj,Zay,exprC,findN,hx.1,hx.2,tn01,tn02,tn12,tn0z,tn1z,tn2z,tn10,tn20,tn21,tns0,tns1,tns2,tnsz,hw0,hw1,hsh,hs,e1,e2,Zae,fitT,ZaG,letR,exprR,findT]
theorem tiny_two {k num:Nat} {x y:TN} {sz:List Int} (hk:3≤k∧k≤14) (hl:madeP k=2) (hx:Zad x.sh≠0∧(x.el.length:Int)=Zad x.sh) (hy:Zad y.sh≠0∧(y.el.length:Int)=Zad y.sh) (hs:Zad sz≠0) (hsh:Zab k num [x.sh,y.sh]=(sz,true)):
  evalR (tinyS [x,y]) (tinyE k num 2) [x,y] []=.inl [⟨sz,Zbc k num (Zad sz).toNat [x,y]⟩]:=by
 have e1:(k:Int)≠1:=by omega
 have e2:(k:Int)≠2:=by omega
 have hes:tinyE k num 2=[⟨2,nmT 0,0,[],0⟩,⟨2,nmT 1,0,[],0⟩,⟨k,⟨#[]⟩,num,[0,1],0⟩]:=rfl
 have hss:tinyS [x,y]=[⟨1,0,nmT 0,x.sh,0,0⟩,⟨1,0,nmT 1,y.sh,0,0⟩,⟨2,0,zNm,[],2,0⟩,⟨3,0,zNm,[],0,0⟩]:=rfl
 have hm2:madeP 2=0:=rfl
 have hw:∀ i,i<3→Zac (tinyE k num 2) 2 i=true:=by
  intro i hi
  have:i=0∨i=1∨i=2:=by omega
  rcases this with rfl | rfl | rfl <;> rfl
 rw [hes] at hw
 have hw0:=hw 0 (by omega)
 have hw1:=hw 1 (by omega)
 have hw2:=hw 2 (by omega)
 unfold evalR ZaA treeP
 rw [hss,hes]
 simp [exsOk,exOk,hl,hm2,argOk,smOk,Zaj,Zay,exprC,findN,hx.1,hx.2,hy.1,hy.2,tn01,tn02,tn12,tn0z,tn1z,tn2z,tn10,tn20,tn21,tns0,tns1,tns2,tnsz,hw0,hw1,hw2,hsh,hs,e1,e2,Zae,fitT,ZaG,letR,exprR,findT]
theorem tiny_three {k num:Nat} {x y z:TN} {sz:List Int} (hk:3≤k∧k≤14) (hl:madeP k=3) (hx:Zad x.sh≠0∧(x.el.length:Int)=Zad x.sh) (hy:Zad y.sh≠0∧(y.el.length:Int)=Zad y.sh) (hz:Zad z.sh≠0∧(z.el.length:Int)=Zad z.sh) (hs:Zad sz≠0) (hsh:Zab k num [x.sh,y.sh,z.sh]=(sz,true)):
  evalR (tinyS [x,y,z]) (tinyE k num 3) [x,y,z] []=.inl [⟨sz,Zbc k num (Zad sz).toNat [x,y,z]⟩]:=by
 have e1:(k:Int)≠1:=by omega
 have e2:(k:Int)≠2:=by omega
 have hes:tinyE k num 3=[⟨2,nmT 0,0,[],0⟩,⟨2,nmT 1,0,[],0⟩,⟨2,nmT 2,0,[],0⟩,⟨k,⟨#[]⟩,num,[0,1,2],0⟩]:=rfl
 have hss:tinyS [x,y,z]=[⟨1,0,nmT 0,x.sh,0,0⟩,⟨1,0,nmT 1,y.sh,0,0⟩,⟨1,0,nmT 2,z.sh,0,0⟩,⟨2,0,zNm,[],3,0⟩,⟨3,0,zNm,[],0,0⟩]:=rfl
 have hm2:madeP 2=0:=rfl
 have hw:∀ i,i<4→Zac (tinyE k num 3) 3 i=true:=by
  intro i hi
  have:i=0∨i=1∨i=2∨i=3:=by omega
  rcases this with rfl | rfl | rfl | rfl <;> rfl
 rw [hes] at hw
 have hw0:=hw 0 (by omega)
 have hw1:=hw 1 (by omega)
 have hw2:=hw 2 (by omega)
 have hw3:=hw 3 (by omega)
 unfold evalR ZaA treeP
 rw [hss,hes]
 simp [exsOk,exOk,hl,hm2,argOk,smOk,Zaj,Zay,exprC,findN,hx.1,hx.2,hy.1,hy.2,hz.1,hz.2,tn01,tn02,tn12,tn0z,tn1z,tn2z,tn10,tn20,tn21,tns0,tns1,tns2,tnsz,hw0,hw1,hw2,hw3,hsh,hs,e1,e2,Zae,fitT,ZaG,letR,exprR,findT]
theorem tiny_eval {k num:Nat} {xs:List TN} {sz:List Int} (hk:3≤k∧k≤14) (hl:(xs.length:Int)=madeP k) (ho:∀ t∈xs,TnOk t) (hs:Zad sz≠0) (hsh:Zab k num (xs.map TN.sh)=(sz,true)):
  evalE (tinyS xs) (tinyE k num xs.length) xs []=.inl [⟨sz,Zbc k num (Zad sz).toNat xs⟩]:=by
 have h:evalR (tinyS xs) (tinyE k num xs.length) xs []=.inl [⟨sz,Zbc k num (Zad sz).toNat xs⟩]:=by
  have hm:madeP k=1∨madeP k=2∨madeP k=3:=by
   unfold madeP
   rw [if_neg (by omega)]
   split
   ·exact .inl rfl
   ·split
    ·exact .inr (.inl rfl)
    ·rw [if_pos (by omega)]
     exact .inr (.inr rfl)
  match xs,hl with
  | [],hl=>simp at hl;omega
  | [x],hl=>exact tiny_one hk hl.symm (ho x (by simp)) hs hsh
  | [x,y],hl=>exact tiny_two hk hl.symm (ho x (by simp)) (ho y (by simp)) hs hsh
  | [x,y,z],hl=>exact tiny_three hk hl.symm (ho x (by simp)) (ho y (by simp)) (ho z (by simp)) hs hsh
  | _::_::_::_::r,hl=>simp at hl;omega
 have h2:=ZiM (tinyS xs) (tinyE k num xs.length) xs []
 rw [h] at h2
 split at h2
 ·rename_i o ho
  injection h2 with h2
  rw [ho,←h2]
 ·cases h2
def outsN (ss:List SI):Nat:=(ss.filter fun s=>decide (s.kind≠1)&&decide (s.kind≠2)).length
structure StmtsRes (Q:List ND→Prop) (in0 in1:List (List Int)) (l:List ND) (outs:List Nat) (n:Nat) (r:List ND × List Nat):Prop where
 wf:WfD in0 in1 r.1
 q:Q r.1
 pre:l <+: r.1
 bnd:∀ o∈r.2,o<r.1.length
 len:r.2.length=outs.length+n
 small:l.length≤64→r.1.length≤64
theorem drop_cons {α:Type} {L:List α} {i:Nat} {x:α} {r:List α} (h:L.drop i=x::r):L[i]?=some x∧L.drop (i+1)=r:=by
 have hi:i<L.length:=by
  rcases Nat.lt_or_ge i L.length with h1 | h1
  ·exact h1
  ·rw [List.drop_eq_nil_of_le h1] at h;cases h
 rw [List.drop_eq_getElem_cons hi] at h
 injection h with h1 h2
 exact ⟨by rw [Kad hi,h1],h2⟩
theorem stmtsD_res {es:List EI} {sh in0 in1:List (List Int)} (f s:Bool) (hx:exsOk 0 es=true) (ho:Ahead es) {Q:List ND→Prop} (hQ:∀ l n,WfD in0 in1 l→NodeOk in0 in1 l l.length n→Q l→Q (madeD f s l n).1):∀ (ss:List SI) (names:PlacesD) (sn:Names) (l:List ND) (i0 i1:Nat) (outs:List Nat) (r:List ND × List Nat),
  Zas es sh ss sn→in0.drop i0=Zae ss 0→in1.drop i1=Zae ss 1→WfD in0 in1 l→Q l→NamesD l names sn→KeysD names sn→(∀ o∈outs,o<l.length)→stmtsD f s es sh ss names l i0 i1 outs=some r→StmtsRes Q in0 in1 l outs (outsN ss) r
 | [],names,sn,l,i0,i1,outs,r,hok,hL0,hL1,hw,hq,hn,hk,hout,h=>by
  unfold stmtsD at h
  injection h with h
  subst h
  exact ⟨hw,hq,List.prefix_rfl,hout,rfl,fun h=>h⟩
 | x::ss,names,sn,l,i0,i1,outs,r,hok,hL0,hL1,hw,hq,hn,hk,hout,h=>by
  unfold stmtsD at h
  unfold Zas at hok
  by_cases h1:x.kind=1
  ·rw [if_pos h1] at h hok
   obtain ⟨hp,hs,ht,hok⟩:=hok
   dsimp only at h
   have key:∀ (i:Nat),((x.party.toNat=0∧in0[i]?=some x.shape)∨(x.party.toNat=1∧in1[i]?=some x.shape))→NodeOk in0 in1 l l.length (inD x i):=fun i hi=>⟨fun a ha=>by simp [inD] at ha,hs,.inl ⟨rfl,rfl,rfl,rfl,hi⟩⟩
   have hon:outsN (x::ss)=outsN ss:=by unfold outsN;rw [List.filter_cons,if_neg (by simp [h1])]
   have go:∀ (i j0 j1:Nat),NodeOk in0 in1 l l.length (inD x i)→in0.drop j0=Zae ss 0→in1.drop j1=Zae ss 1→¬ 64<(madeD f s l (inD x i)).1.length→stmtsD f s es sh ss (names++[(x.name,(madeD f s l (inD x i)).2)]) (madeD f s l (inD x i)).1 j0 j1 outs=some r→StmtsRes Q in0 in1 l outs (outsN (x::ss)) r:=fun i j0 j1 hno hL0 hL1 h64 h=>by
    have hpre:=madeD_pre f s l (inD x i)
    have hlt:=madeD_lt f s l (inD x i)
    have hsn:=(hn.pre hpre).snoc hk x.name _ hlt
    rw [show (atD (madeD f s l (inD x i)).1 (madeD f s l (inD x i)).2).shape=x.shape from by rw [atD_some (madeD_at f s l (inD x i)),foldD_shape];rfl] at hsn
    have:=stmtsD_res f s hx ho hQ ss _ _ _ j0 j1 outs r hok hL0 hL1 (madeD_wf f s hw hno) (hQ _ _ hw hno hq) hsn.1 hsn.2 (fun o ho=>Kae (hout o ho) hpre.length_le) h
    exact ⟨this.wf,this.q,hpre.trans this.pre,this.bnd,by rw [hon];exact this.len,fun _=>this.small (by omega)⟩
   by_cases hp0:x.party=0
   ·simp only [if_pos hp0] at h
    have d0:=drop_cons (hL0.trans (ZhE h1 hp0))
    by_cases h64:64<(madeD f s l (inD x i0)).1.length
    ·rw [if_pos h64] at h;cases h
    ·rw [if_neg h64] at h
     exact go i0 (i0+1) i1 (key i0 (.inl ⟨by rw [hp0];rfl,d0.1⟩)) d0.2 (hL1.trans (Zgm (.inr (by omega)))) h64 h
   ·have hp1:x.party=1:=by omega
    simp only [if_neg hp0] at h
    have d1:=drop_cons (hL1.trans (ZhE h1 hp1))
    by_cases h64:64<(madeD f s l (inD x i1)).1.length
    ·rw [if_pos h64] at h;cases h
    ·rw [if_neg h64] at h
     exact go i1 i0 (i1+1) (key i1 (.inr ⟨by rw [hp1];rfl,d1.1⟩)) (hL0.trans (Zgm (.inr (by omega)))) d1.2 h64 h
  ·rw [if_neg h1] at h hok
   have hI0:in0.drop i0=Zae ss 0:=hL0.trans (Zgm (.inl h1))
   have hI1:in1.drop i1=Zae ss 1:=hL1.trans (Zgm (.inl h1))
   by_cases h2:x.kind=2
   ·rw [if_pos h2] at h hok
    obtain ⟨hl,ht,hok⟩:=hok
    dsimp only at h
    have hon:outsN (x::ss)=outsN ss:=by unfold outsN;rw [List.filter_cons,if_neg (by simp [h2])]
    split at h
    ·cases h
    ·rename_i h64
     have hr:=letD_res (names:=names) f s hx ho hl hw hn hQ hq (x.expr.toNat+1)
     have hroot:Zac es x.expr.toNat x.expr.toNat=true:=by
      unfold Zac
      rw [Zd7 ho _ _ _ (Kag _)]
      simp
     obtain ⟨p1,p2⟩:=hr.at_ x.expr.toNat (Nat.lt_succ_self _) hroot
     have hsn:=(hn.pre hr.pre).snoc hk x.name _ p1
     rw [p2] at hsn
     have:=stmtsD_res f s hx ho hQ ss _ _ _ i0 i1 outs r hok hI0 hI1 hr.wf hr.q hsn.1 hsn.2 (fun o ho=>Kae (hout o ho) hr.pre.length_le) h
     exact ⟨this.wf,this.q,hr.pre.trans this.pre,this.bnd,by rw [hon];exact this.len,fun _=>this.small (by omega)⟩
   ·rw [if_neg h2] at h hok
    obtain ⟨ht,hok⟩:=hok
    split at h
    ·cases h
    ·rename_i h64
     have hon:outsN (x::ss)=outsN ss+1:=by unfold outsN;rw [List.filter_cons,if_pos (by simp [h1,h2])];rfl
     have hpl:placeD names x.name<l.length:=by
      cases hf:findN sn x.name with
      | none=>rw [hf] at ht;cases ht
      | some y=>exact (hn _ _ hf).1
     have:=stmtsD_res f s hx ho hQ ss names sn l i0 i1 _ r hok hI0 hI1 hw hq hn hk (fun o ho=>by
      rcases List.mem_append.1 ho with ho | ho
      ·exact hout o ho
      ·rw [List.mem_singleton.1 ho];exact hpl) h
     exact ⟨this.wf,this.q,this.pre,this.bnd,by rw [hon,this.len,List.length_append];simp;omega,this.small⟩
theorem markD_le {l:List ND}:∀ (n:Nat) (m:Nat→Bool) (a:Nat),m a=true→markD l n m a=true
 | 0,m,a,h=>h
 | n+1,m,a,h=>markD_le n _ a (by simp [h])
theorem markD_from {l:List ND}:∀ (n:Nat) (m:Nat→Bool) (a:Nat),markD l n m a=true→m a=true∨∃ b,b<n∧markD l n m b=true∧a∈(atD l b).args
 | 0,m,a,h=>.inl h
 | n+1,m,a,h=>by
  rcases markD_from n _ a h with h1 | ⟨b,hb,h1,h2⟩
  ·rw [Bool.or_eq_true,Bool.and_eq_true] at h1
   rcases h1 with h1 | ⟨h1,h2⟩
   ·exact .inl h1
   ·obtain ⟨c,hc,he⟩:=List.any_eq_true.1 h2
    have:c=a:=by simpa using he
    subst this
    exact .inr ⟨n,Nat.lt_succ_self _,markD_le n _ n (by simp [h1]),hc⟩
  ·exact .inr ⟨b,by omega,h1,h2⟩
theorem markD_stay {l:List ND} (ha:∀ i,∀ a∈(atD l i).args,a<i):∀ (n:Nat) (m:Nat→Bool) (a:Nat),n≤a→markD l n m a=m a
 | 0,m,a,_=>rfl
 | n+1,m,a,h=>by
  show markD l n _ a=m a
  rw [markD_stay ha n _ a (by omega)]
  cases hm:m n with
  | false=>simp
  | true=>
   have:((atD l n).args.any fun b=>b==a)=false:=by
    rw [List.any_eq_false]
    intro b hb
    have:=ha n b hb
    simp
    omega
   simp [this]
theorem markD_args {l:List ND} (ha:∀ i,∀ a∈(atD l i).args,a<i):∀ (n:Nat) (m:Nat→Bool) (b a:Nat),b<n→markD l n m b=true→a∈(atD l b).args→markD l n m a=true
 | 0,m,b,a,hb,_,_=>by omega
 | n+1,m,b,a,hb,h,hm=>by
  show markD l n _ a=true
  by_cases hbn:b=n
  ·subst hbn
   have h1:markD l b (fun a=>m a||(m b&&(atD l b).args.any fun c=>c==a)) b=true:=h
   rw [markD_stay ha b _ b (Kag _)] at h1
   have hself:((atD l b).args.any fun c=>c==b)=false:=by
    rw [List.any_eq_false]
    intro c hc
    have:=ha b c hc
    simp
    omega
   rw [hself,Bool.and_false,Bool.or_false] at h1
   exact markD_le b _ a (by
    rw [h1,Bool.true_and,Bool.or_eq_true]
    exact .inr (List.any_eq_true.2 ⟨a,hm,by simp⟩))
  ·exact markD_args ha n _ b a (by omega) h hm
theorem WfD.ahead {in0 in1:List (List Int)} {l:List ND} (h:WfD in0 in1 l):∀ i,∀ a∈(atD l i).args,a<i:=by
 intro i a ha
 by_cases hi:i<l.length
 ·exact (h i _ (atD_lt hi)).ahead a ha
 ·unfold atD at ha
  rw [List.getD_eq_getElem?_getD,List.getElem?_eq_none (by omega)] at ha
  simp [zND] at ha
theorem needD_out {l:List ND} {outs:List Nat} {o:Nat} (h:o∈outs):needD l outs o=true:=markD_le _ _ _ (List.any_eq_true.2 ⟨o,h,by simp⟩)
theorem needD_args {in0 in1:List (List Int)} {l:List ND} {outs:List Nat} (hw:WfD in0 in1 l) {b a:Nat} (hb:b<l.length) (h:needD l outs b=true) (hm:a∈(atD l b).args):needD l outs a=true:=markD_args hw.ahead _ _ b a hb h hm
theorem needD_from {l:List ND} {outs:List Nat} {a:Nat} (h:needD l outs a=true):a∈outs∨∃ b,b<l.length∧needD l outs b=true∧a∈(atD l b).args:=by
 rcases markD_from _ _ _ h with h | h
 ·obtain ⟨o,ho,he⟩:=List.any_eq_true.1 h
  have:o=a:=by simpa using he
  subst this
  exact .inl ho
 ·exact .inr h
structure KeepRes (l:List ND) (m:Nat→Bool) (i:Nat) (r:List ND × (Nat→Nat)):Prop where
 lt:∀ a,a<i→m a=true→r.2 a<r.1.length∧r.1[r.2 a]?=some { atD l a with args:=(atD l a).args.map r.2 }
 onto:∀ j,j<r.1.length→∃ a,a<i∧m a=true∧r.2 a=j
 mono:∀ a b,a<b→b<i→m a=true→m b=true→r.2 a<r.2 b
 len:r.1.length≤i
theorem keepD_res {l:List ND} {m:Nat→Bool} (hcl:∀ a,m a=true→∀ b∈(atD l a).args,m b=true∧b<a):∀ i,KeepRes l m i (keepD l m i)
 | 0=>⟨fun a h=>by omega,fun j h=>by simp [keepD] at h,fun a b h1 h2=>by omega,Kag _⟩
 | i+1=>by
  have ih:=keepD_res hcl i
  unfold keepD
  dsimp only
  by_cases hm:m i=true
  ·rw [if_pos hm]
   have hargs:∀ a,a≤i→m a=true→(atD l a).args.map (updD (keepD l m i).2 i (keepD l m i).1.length)=(atD l a).args.map (keepD l m i).2:=fun a hai hma=>List.map_congr_left fun b hb=>by
    unfold updD
    rw [if_neg (by have:=(hcl a hma b hb).2;omega)]
   refine ⟨fun a ha hma => ?_,fun j hj => ?_,fun a b h1 h2 hma hmb => ?_,by simp;exact ih.len⟩
   ·dsimp only
    by_cases hai:a=i
    ·subst hai
     rw [hargs a (Kag _) hma]
     unfold updD
     rw [if_pos rfl]
     simp
    ·have h1:=ih.lt a (by omega) hma
     rw [hargs a (by omega) hma]
     unfold updD
     rw [if_neg hai]
     refine ⟨by simp;omega,?_⟩
     rw [List.getElem?_append_left h1.1]
     exact h1.2
   ·dsimp only at hj ⊢
    by_cases hj2:j<(keepD l m i).1.length
    ·obtain ⟨a,ha,hma,he⟩:=ih.onto j hj2
     refine ⟨a,by omega,hma,?_⟩
     unfold updD
     rw [if_neg (by omega)]
     exact he
    ·refine ⟨i,Nat.lt_succ_self _,hm,?_⟩
     unfold updD
     rw [if_pos rfl]
     simp at hj
     omega
   ·dsimp only
    unfold updD
    rw [if_neg (by omega)]
    by_cases hbi:b=i
    ·rw [if_pos hbi]
     exact (ih.lt a (by omega) hma).1
    ·rw [if_neg hbi]
     exact ih.mono a b h1 (by omega) hma hmb
  ·rw [if_neg hm]
   refine ⟨fun a ha hma => ?_,fun j hj => ?_,fun a b h1 h2 hma hmb => ?_,Nat.le_succ_of_le ih.len⟩
   ·by_cases hai:a=i
    ·subst hai;exact absurd hma hm
    ·exact ih.lt a (by omega) hma
   ·obtain ⟨a,ha,hma,he⟩:=ih.onto j hj
    exact ⟨a,by omega,hma,he⟩
   ·by_cases hbi:b=i
    ·subst hbi;exact absurd hmb hm
    ·exact ih.mono a b h1 (by omega) hma hmb
theorem dropD_res {in0 in1:List (List Int)} {l:List ND} {outs:List Nat} (hw:WfD in0 in1 l) (hout:∀ o∈outs,o<l.length):
  KeepRes l (fun a=>needD l outs a&&decide (a<l.length)) l.length (keepD l (needD l outs) l.length):=by
 have key:∀ i,i≤l.length→keepD l (needD l outs) i=keepD l (fun a=>needD l outs a&&decide (a<l.length)) i:=by
  intro i
  induction i with
  | zero=>intro _;rfl
  | succ i ih=>
   intro hi
   unfold keepD
   rw [ih (by omega)]
   have:(needD l outs i&&decide (i<l.length))=needD l outs i:=by simp;omega
   rw [this]
 rw [key _ (Kag _)]
 refine keepD_res (fun a hma b hb => ?_) _
 rw [Bool.and_eq_true,decide_eq_true_iff] at hma
 have h1:=hw.ahead a b hb
 refine ⟨?_,h1⟩
 rw [Bool.and_eq_true,decide_eq_true_iff]
 exact ⟨needD_args hw hma.2 hma.1 hb,by omega⟩
theorem buildD_parts {f s d:Bool} {ss:List SI} {es:List EI} {g:List ND × List Nat} (h:buildD f s d ss es=.inl g):
  ∃ sh l outs,ZaA ss es=.inl sh∧stmtsD f s es sh ss [] [] 0 0 []=some (l,outs)∧g=(if d then dropD l outs else (l,outs))∧countD ss es≤64:=by
 unfold buildD at h
 cases hc:ZaA ss es with
 | inr c=>
  rw [hc] at h
  dsimp only at h
  cases h
 | inl sh=>
  rw [hc] at h
  dsimp only at h
  split at h
  ·cases h
  ·rename_i h64
   cases hs:stmtsD f s es sh ss [] [] 0 0 [] with
   | none=>rw [hs] at h;cases h
   | some p=>
    obtain ⟨l,outs⟩:=p
    rw [hs] at h
    injection h with h
    exact ⟨sh,l,outs,rfl,hs,h.symm,by omega⟩
theorem built_res {f s:Bool} {ss:List SI} {es:List EI} {sh:List (List Int)} {l:List ND} {outs:List Nat} (hc:ZaA ss es=.inl sh) (hs:stmtsD f s es sh ss [] [] 0 0 []=some (l,outs)) {Q:List ND→Prop} (hQ:∀ l n,WfD (Zae ss 0) (Zae ss 1) l→NodeOk (Zae ss 0) (Zae ss 1) l l.length n→Q l→Q (madeD f s l n).1) (h0:Q []):
  StmtsRes Q (Zae ss 0) (Zae ss 1) [] [] (outsN ss) (l,outs):=by
 obtain ⟨ho,hok,hlen⟩:=ZbI hc
 have ht:=(Zbz hc).1
 have hx:exsOk 0 es=true:=by
  unfold treeP at ht
  rw [Bool.and_eq_true] at ht
  exact ht.1
 exact stmtsD_res f s hx ho hQ ss [] [] [] 0 0 [] (l,outs) hok (by simp) (by simp) (fun i n h=>by simp at h) h0 (fun n s h=>by cases h) rfl (fun o h=>by simp at h) hs
theorem keep_at {l:List ND} {m:Nat→Bool} {i:Nat} {r:List ND × (Nat→Nat)} (h:KeepRes l m i r) {a:Nat} (ha:a<i) (hm:m a=true):atD r.1 (r.2 a)={ atD l a with args:=(atD l a).args.map r.2 }:=atD_some (h.lt a ha hm).2
theorem keep_wf {in0 in1:List (List Int)} {l:List ND} {m:Nat→Bool} {i:Nat} {r:List ND × (Nat→Nat)} (hw:WfD in0 in1 l) (hi:i≤l.length) (hcl:∀ a,m a=true→∀ b∈(atD l a).args,m b=true∧b<a) (h:KeepRes l m i r):WfD in0 in1 r.1:=by
 intro j n hj
 obtain ⟨a,ha,hma,rfl⟩:=h.onto j (Kaf.1 hj).1
 have hn:=(h.lt a ha hma).2
 rw [hj] at hn
 injection hn with hn
 have ho:=hw a _ (atD_lt (by omega:a<l.length))
 subst hn
 refine ⟨fun x hx => ?_,ho.shape,?_⟩
 ·obtain ⟨b,hb,rfl⟩:=List.mem_map.1 hx
  obtain ⟨h1,h2⟩:=hcl a hma b hb
  exact h.mono b a h2 ha h1 hma
 ·rcases ho.kinds with q | q | ⟨q1,q2,q3,q4,q5,q6,q7,q8⟩
  ·exact .inl ⟨q.1,by dsimp only;rw [q.2.1];rfl,q.2.2⟩
  ·exact .inr (.inl ⟨q.1,by dsimp only;rw [q.2.1];rfl,q.2.2⟩)
  ·refine .inr (.inr ⟨q1,q2,q3,q4,q5,q6,by dsimp only;rw [Kak];exact q7,?_⟩)
   dsimp only
   rw [List.map_map,←q8]
   congr 1
   refine List.map_congr_left fun b hb => ?_
   obtain ⟨h1,h2⟩:=hcl a hma b hb
   show (atD r.1 (r.2 b)).shape=_
   rw [keep_at h (by omega) h1]
theorem need_closed {in0 in1:List (List Int)} {l:List ND} {outs:List Nat} (hw:WfD in0 in1 l):∀ a,(needD l outs a&&decide (a<l.length))=true→∀ b∈(atD l a).args,(needD l outs b&&decide (b<l.length))=true∧b<a:=by
 intro a hma b hb
 rw [Bool.and_eq_true,decide_eq_true_iff] at hma
 have h1:=hw.ahead a b hb
 refine ⟨?_,h1⟩
 rw [Bool.and_eq_true,decide_eq_true_iff]
 exact ⟨needD_args hw hma.2 hma.1 hb,by omega⟩
theorem dropD_wf {in0 in1:List (List Int)} {l:List ND} {outs:List Nat} (hw:WfD in0 in1 l) (hout:∀ o∈outs,o<l.length):WfD in0 in1 (dropD l outs).1∧(∀ o∈(dropD l outs).2,o<(dropD l outs).1.length)∧(dropD l outs).2.length=outs.length∧(dropD l outs).1.length≤l.length:=by
 have h:=dropD_res hw hout
 refine ⟨keep_wf hw (Kag _) (need_closed hw) h,fun o ho => ?_,by unfold dropD;simp,h.len⟩
 unfold dropD at ho
 obtain ⟨x,hx,rfl⟩:=List.mem_map.1 ho
 exact (h.lt x (hout x hx) (by rw [needD_out hx];simpa using hout x hx)).1
theorem map_inj_on {f:Nat→Nat} {p:Nat→Prop} (hf:∀ a b,p a→p b→f a=f b→a=b):∀ (l l':List Nat),(∀ a∈l,p a)→(∀ a∈l',p a)→l.map f=l'.map f→l=l'
 | [],[],_,_,_=>rfl
 | [],_::_,_,_,h=>by simp at h
 | _::_,[],_,_,h=>by simp at h
 | a::r,b::q,h1,h2,h=>by
  rw [List.map_cons,List.map_cons] at h
  injection h with h3 h4
  rw [hf a b (h1 a (by simp)) (h2 b (by simp)) h3,map_inj_on hf r q (fun x hx=>h1 x (by simp [hx])) (fun x hx=>h2 x (by simp [hx])) h4]
theorem keep_inj {l:List ND} {m:Nat→Bool} {i:Nat} {r:List ND × (Nat→Nat)} (h:KeepRes l m i r):∀ a b,(m a=true∧a<i)→(m b=true∧b<i)→r.2 a=r.2 b→a=b:=by
 intro a b ha hb e
 rcases Nat.lt_trichotomy a b with h1 | h1 | h1
 ·have:=h.mono a b h1 hb.2 ha.1 hb.1;omega
 ·exact h1
 ·have:=h.mono b a h1 ha.2 hb.1 ha.1;omega
def NeatD (l:List ND):Prop:=(∀ (i:Nat) (n:ND),l[i]?=some n→¬ (n.args≠[]∧n.args.all (constD l)=true))∧∀ (i j:Nat) (n:ND),l[i]?=some n→l[j]?=some n→i=j
theorem neat_made {in0 in1:List (List Int)} (l:List ND) (n:ND) (hw:WfD in0 in1 l) (hn:NodeOk in0 in1 l l.length n) (h:NeatD l):NeatD (madeD true true l n).1:=by
 rcases madeD_cases true true l n with ⟨_,h1,_⟩ | ⟨h1,h2⟩
 ·rw [h1];exact h
 ·rw [h2]
  have hnone:=idxD_none (h1.resolve_left (by decide))
  have hc:∀ (m:ND),(∀ a∈m.args,a<l.length)→m.args.all (constD (l++[foldD true l n]))=m.args.all (constD l):=fun m hm=>by
   rw [Bool.eq_iff_iff,List.all_eq_true,List.all_eq_true]
   have:∀ a∈m.args,constD (l++[foldD true l n]) a=constD l a:=fun a ha=>by unfold constD;rw [atD_pre (hm a ha) (List.prefix_append _ _)]
   exact ⟨fun h a ha=>by rw [←this a ha];exact h a ha,fun h a ha=>by rw [this a ha];exact h a ha⟩
  have split:∀ i (m:ND),(l++[foldD true l n])[i]?=some m→(i<l.length∧l[i]?=some m)∨(i=l.length∧m=foldD true l n):=fun i m hm=>by
   by_cases hi:i<l.length
   ·rw [List.getElem?_append_left hi] at hm
    exact .inl ⟨hi,hm⟩
   ·have hi2:i=l.length:=by
     have:=(Kaf.1 hm).1
     simp at this
     omega
    subst hi2
    simp at hm
    exact .inr ⟨rfl,hm.symm⟩
  refine ⟨fun i m hm => ?_,fun i j m hi hj => ?_⟩
  ·rcases split i m hm with ⟨hi,hm⟩ | ⟨hi,rfl⟩
   ·rw [hc m (fun a ha=>by have:=(hw i m hm).ahead a ha;omega)]
    exact h.1 i m hm
   ·rw [hc _ (fun a ha=>(foldD_ok true hw hn).ahead a ha)]
    rintro ⟨e1,e2⟩
    unfold foldD at e1 e2
    split at e1
    ·exact e1 rfl
    ·rename_i hneg
     rw [if_neg hneg] at e2
     exact hneg ⟨rfl,e1,e2⟩
  ·rcases split i m hi with ⟨a1,a2⟩ | ⟨a1,a2⟩ <;> rcases split j m hj with ⟨b1,b2⟩ | ⟨b1,b2⟩
   ·exact h.2 i j m a2 b2
   ·rw [b2] at a2;exact absurd a2 (hnone i)
   ·rw [a2] at b2;exact absurd b2 (hnone j)
   ·omega
theorem keep_neat {in0 in1:List (List Int)} {l:List ND} {m:Nat→Bool} {r:List ND × (Nat→Nat)} (hw:WfD in0 in1 l) (hcl:∀ a,m a=true→∀ b∈(atD l a).args,m b=true∧b<a) (h:KeepRes l m l.length r) (hq:NeatD l):NeatD r.1:=by
 refine ⟨fun i n hi hc => ?_,fun i j n hi hj => ?_⟩
 ·obtain ⟨a,ha,hma,rfl⟩:=h.onto i (Kaf.1 hi).1
  have hn:=(h.lt a ha hma).2
  rw [hi] at hn
  injection hn with hn
  subst hn
  obtain ⟨c1,c2⟩:=hc
  refine hq.1 a _ (atD_lt ha) ⟨fun e=>c1 (by dsimp only;rw [e];rfl),?_⟩
  rw [List.all_eq_true] at c2 ⊢
  intro b hb
  obtain ⟨h1,h2⟩:=hcl a hma b hb
  have:=c2 (r.2 b) (List.mem_map.2 ⟨b,hb,rfl⟩)
  unfold constD at this ⊢
  rw [keep_at h (by omega) h1] at this
  exact this
 ·obtain ⟨a,ha,hma,rfl⟩:=h.onto i (Kaf.1 hi).1
  obtain ⟨b,hb,hmb,rfl⟩:=h.onto j (Kaf.1 hj).1
  have h1:=(h.lt a ha hma).2
  have h2:=(h.lt b hb hmb).2
  rw [hi] at h1
  rw [hj] at h2
  injection h1 with h1
  injection h2 with h2
  rw [h1] at h2
  have hargs:(atD l a).args=(atD l b).args:=by
   refine map_inj_on (p:=fun x=>m x=true∧x<l.length) (keep_inj h) _ _ (fun x hx => ?_) (fun x hx => ?_) (congrArg ND.args h2)
   ·obtain ⟨q1,q2⟩:=hcl a hma x hx
    exact ⟨q1,by omega⟩
   ·obtain ⟨q1,q2⟩:=hcl b hmb x hx
    exact ⟨q1,by omega⟩
  have hnode:atD l a=atD l b:=by
   have e1:=congrArg ND.kind h2
   have e2:=congrArg ND.shape h2
   have e3:=congrArg ND.party h2
   have e4:=congrArg ND.input h2
   have e5:=congrArg ND.k h2
   have e6:=congrArg ND.elems h2
   dsimp only at e1 e2 e3 e4 e5 e6
   cases hA:atD l a
   cases hB:atD l b
   rw [hA,hB] at e1 e2 e3 e4 e5 e6 hargs
   dsimp only at e1 e2 e3 e4 e5 e6 hargs
   subst e1 e2 e3 e4 e5 e6 hargs
   rfl
  have:a=b:=hq.2 a b _ (atD_lt ha) (by rw [hnode];exact atD_lt hb)
  rw [this]
theorem keep_need {in0 in1:List (List Int)} {l:List ND} {outs:List Nat} {r:List ND × (Nat→Nat)} (hw:WfD in0 in1 l) (hout:∀ o∈outs,o<l.length) (h:KeepRes l (fun a=>needD l outs a&&decide (a<l.length)) l.length r):
  ∀ j,j<r.1.length→needD r.1 (outs.map r.2) j=true:=by
 have hwr:=keep_wf hw (Kag _) (need_closed hw) h
 have key:∀ k a,l.length-a=k→needD l outs a=true→a<l.length→needD r.1 (outs.map r.2) (r.2 a)=true:=by
  intro k
  induction k using Nat.strongRecOn with
  | _ k ih=>
   intro a hk hna ha
   rcases needD_from hna with h1 | ⟨b,hb,h1,h2⟩
   ·exact needD_out (List.mem_map.2 ⟨a,h1,rfl⟩)
   ·have hab:=hw.ahead b a h2
    have hbb:=ih (l.length-b) (by omega) b rfl h1 hb
    have hmb:(needD l outs b&&decide (b<l.length))=true:=by rw [h1];simpa using hb
    refine needD_args hwr (h.lt b hb hmb).1 hbb ?_
    rw [keep_at h hb hmb]
    exact List.mem_map.2 ⟨a,h2,rfl⟩
 intro j hj
 obtain ⟨a,ha,hma,rfl⟩:=h.onto j hj
 rw [Bool.and_eq_true,decide_eq_true_iff] at hma
 exact key _ a rfl hma.1 hma.2
theorem needs_law {ss:List SI} {es:List EI} {g:List ND × List Nat} (h:buildD true true true ss es=.inl g):NeatD g.1∧∀ j,j<g.1.length→needD g.1 g.2 j=true:=by
 obtain ⟨sh,l,outs,hc,hs,rfl,_⟩:=buildD_parts h
 have hr:=built_res hc hs (Q:=NeatD) neat_made ⟨fun i n h=>by simp at h,fun i j n h=>by simp at h⟩
 have hk:=dropD_res hr.wf hr.bnd
 exact ⟨keep_neat hr.wf (need_closed hr.wf) hk hr.q,keep_need hr.wf hr.bnd hk⟩
end Go.Proofs.YtghlnncfigkkaaaGreatDoor
