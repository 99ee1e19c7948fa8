/-
 Graphs as plain functions over trees of integers: what a tree's graph is, with each option.
-/
import Derived.Test.YtghlnncfigkkaaaGreatDoorQEvL
import Derived.Test.YtghlnncfigkkaaaGreatDoorQEvB
import Derived.Test.YtghlnncfigkkaaaGreatDoorQChkB
import Derived.BigQuiet
set_option maxRecDepth 100000
set_option maxHeartbeats 2000000
set_option linter.unusedVariables false
set_option linter.unusedSimpArgs false
namespace Go.Proofs.YtghlnncfigkkaaaGreatDoor
open Go.RowKit
structure ND where
 kind:Nat
 shape:List Int
 args:List Nat
 party:Nat
 input:Nat
 k:Nat
 elems:List UInt64
deriving DecidableEq
def zND:ND:=⟨0,[],[],0,0,0,[]⟩
def atD (l:List ND) (a:Nat):ND:=l.getD a zND
def kindD (k:Int):Nat:=if k=1 then 2 else if 3≤k∧k≤14 then k.toNat else 0
def tnD (n:ND):TN:=⟨n.shape,n.elems⟩
def valD (l:List ND) (n:ND):List UInt64:=Zbc n.kind n.k (Zad n.shape).toNat (n.args.map fun a=>tnD (atD l a))
def constD (l:List ND) (a:Nat):Bool:=(atD l a).kind==2
def foldD (f:Bool) (l:List ND) (n:ND):ND:=if f=true∧n.args≠[]∧n.args.all (constD l)=true then ⟨2,n.shape,[],0,0,0,valD l n⟩ else n
def idxD (l:List ND) (n:ND):Option Nat:=l.findIdx? fun x=>decide (x=n)
def madeD (f s:Bool) (l:List ND) (n:ND):List ND × Nat:=
 match (if s then idxD l (foldD f l n) else none) with
 | some i=>(l,i)
 | none=>(l++[foldD f l n],l.length)
abbrev PlacesD:=List (ByteArray × Nat)
def placeD:PlacesD→ByteArray→Nat
 | [],_=>0
 | (t,v)::r,n=>if t.toList=n.toList then v else placeD r n
def updD (P:Nat→Nat) (i p:Nat):Nat→Nat:=fun a=>if a=i then p else P a
def nodeD (e:EI) (s:List Int) (P:Nat→Nat):ND:=⟨kindD e.kind,s,e.args.map fun a=>P a.toNat,0,0,if e.kind=9 then e.num else 0,if e.kind=1 then [UInt64.ofNat e.num] else []⟩
def letD (f s:Bool) (es:List EI) (sh:List (List Int)) (names:PlacesD) (m:Nat→Bool) (l:List ND):Nat→List ND × (Nat→Nat)
 | 0=>(l,fun _=>0)
 | i+1=>
  let r:=letD f s es sh names m l i
  if m i=true then
   match es[i]? with
   | none=>r
   | some e=>
    if e.kind=2 then (r.1,updD r.2 i (placeD names e.name))
    else
     let q:=madeD f s r.1 (nodeD e (sh.getD i []) r.2)
     (q.1,updD r.2 i q.2)
  else r
def inD (x:SI) (i:Nat):ND:=⟨1,x.shape,[],x.party.toNat,i,0,[]⟩
def stmtsD (f s:Bool) (es:List EI) (sh:List (List Int)):List SI→PlacesD→List ND→Nat→Nat→List Nat→Option (List ND × List Nat)
 | [],_,l,_,_,outs=>some (l,outs)
 | x::r,names,l,i0,i1,outs=>
  if x.kind=1 then
   let q:=madeD f s l (inD x (if x.party=0 then i0 else i1))
   if 64<q.1.length then none
   else if x.party=0 then stmtsD f s es sh r (names++[(x.name,q.2)]) q.1 (i0+1) i1 outs
   else stmtsD f s es sh r (names++[(x.name,q.2)]) q.1 i0 (i1+1) outs
  else if x.kind=2 then
   let q:=letD f s es sh names (Zac es x.expr.toNat) l (x.expr.toNat+1)
   if 64<q.1.length then none
   else stmtsD f s es sh r (names++[(x.name,q.2 x.expr.toNat)]) q.1 i0 i1 outs
  else if 64<l.length then none
  else stmtsD f s es sh r names l i0 i1 (outs++[placeD names x.name])
def markD (l:List ND):Nat→(Nat→Bool)→(Nat→Bool)
 | 0,m=>m
 | n+1,m=>markD l n fun a=>m a||(m n&&(atD l n).args.any fun b=>b==a)
def needD (l:List ND) (outs:List Nat):Nat→Bool:=markD l l.length fun a=>outs.any fun b=>b==a
def keepD (l:List ND) (m:Nat→Bool):Nat→List ND × (Nat→Nat)
 | 0=>([],fun _=>0)
 | i+1=>
  let r:=keepD l m i
  if m i=true then (r.1++[{ atD l i with args:=(atD l i).args.map r.2 }],updD r.2 i r.1.length) else r
def dropD (l:List ND) (outs:List Nat):List ND × List Nat:=
 let r:=keepD l (needD l outs) l.length
 (r.1,outs.map r.2)
def countD (ss:List SI) (es:List EI):Nat:=(Zae ss 0).length+(Zae ss 1).length+(es.filter fun e=>e.kind != 2).length
def buildD (f s d:Bool) (ss:List SI) (es:List EI):Sum (List ND × List Nat) Nat:=
 match ZaA ss es with
 | .inr (c,p)=>.inr c
 | .inl sh=>
  if 64<countD ss es then .inr 160
  else match stmtsD f s es sh ss [] [] 0 0 [] with
   | none=>.inr 160
   | some (l,outs)=>.inl (if d then dropD l outs else (l,outs))
structure NodeOk (in0 in1:List (List Int)) (l:List ND) (i:Nat) (n:ND):Prop where
 ahead:∀ a∈n.args,a<i
 shape:Zad n.shape≠0
 kinds:(n.kind=1∧n.args=[]∧n.elems=[]∧n.k=0∧((n.party=0∧in0[n.input]?=some n.shape)∨(n.party=1∧in1[n.input]?=some n.shape)))
  ∨ (n.kind=2∧n.args=[]∧n.k=0∧n.party=0∧n.input=0∧(n.elems.length:Int)=Zad n.shape)
  ∨ (3≤n.kind∧n.kind≤14∧n.elems=[]∧n.party=0∧n.input=0∧(n.kind≠9→n.k=0)∧(n.args.length:Int)=madeP n.kind∧Zab n.kind n.k (n.args.map fun a=>(atD l a).shape)=(n.shape,true))
def WfD (in0 in1:List (List Int)) (l:List ND):Prop:=∀ i n,l[i]?=some n→NodeOk in0 in1 l i n
theorem atD_some {l:List ND} {i:Nat} {n:ND} (h:l[i]?=some n):atD l i=n:=by unfold atD;rw [List.getD_eq_getElem?_getD,h];rfl
theorem atD_lt {l:List ND} {i:Nat} (h:i<l.length):l[i]?=some (atD l i):=by
 unfold atD;rw [List.getD_eq_getElem?_getD,Kad h];rfl
theorem atD_pre {l a:List ND} {i:Nat} (h:i<l.length) (b:l <+: a):atD a i=atD l i:=by
 obtain ⟨r,rfl⟩:=b;unfold atD;rw [List.getD_eq_getElem?_getD,List.getD_eq_getElem?_getD,List.getElem?_append_left h]
theorem NodeOk.pre {in0 in1:List (List Int)} {l d:List ND} {i:Nat} {n:ND} (h:NodeOk in0 in1 l i n) (e:i≤l.length) (f:l <+: d):NodeOk in0 in1 d i n:=by
 refine ⟨h.ahead,h.shape,?_⟩;rcases h.kinds with b | b | ⟨b,g,j,k,m,p,q,r⟩
 ·exact .inl b
 ·exact .inr (.inl b)
 ·refine .inr (.inr ⟨b,g,j,k,m,p,q,?_⟩);rw [←r]
  congr 1
  exact List.map_congr_left fun a s=>by rw [atD_pre (Kae (h.ahead a s) e) f]
theorem NodeOk.k63 {in0 in1:List (List Int)} {l:List ND} {i:Nat} {n:ND} (h:NodeOk in0 in1 l i n):n.k≤63:=by
 rcases h.kinds with a | a | ⟨a,f,g,j,m,e,p,b⟩
 ·omega
 ·omega
 ·by_cases d:n.kind=9
  ·rw [d] at b;have:=congrArg Prod.snd b;unfold Zab at this;rw [if_pos (by decide)] at this
   exact of_decide_eq_true this
  ·rw [e d];omega
theorem node_words {n:ND} {xs:List TN} (q:3≤n.kind∧n.kind≤14) (f:(n.args.length:Int)=madeP n.kind) (g:xs.length=n.args.length) (h:∀ t∈xs,TnOk t) (j:Zad n.shape≠0) (l:Zab n.kind n.k (xs.map TN.sh)=(n.shape,true)):
  ((Zbc n.kind n.k (Zad n.shape).toNat xs).length:Int)=Zad n.shape:=by
 have d:(List.map (fun a:Int=>(xs.map TN.sh).getD a.toNat []) ((List.range xs.length).map Int.ofNat))=xs.map TN.sh:=by
  rw [List.map_map];apply List.ext_getElem?
  intro i
  by_cases b:i<xs.length
  ·rw [Kal,List.getElem?_range b];simp [List.getD_eq_getElem?_getD,b]
  ·rw [List.getElem?_eq_none (by simpa using b),List.getElem?_eq_none (by simpa using b)]
 have:=ZkB (e:=⟨n.kind,⟨#[]⟩,n.k,(List.range xs.length).map Int.ofNat,0⟩) (names:=[]) (shl:=xs.map TN.sh) (s:=n.shape) (x:=xs) (by
   unfold exprC;dsimp only;rw [if_neg (by omega),d,l]
   dsimp only;rw [if_neg (by simp [j])]) d.symm h (fun p m=>by simp at m) (by dsimp only;rw [Kak,List.length_range,g];exact f) (by dsimp only;omega) (by dsimp only;omega)
 exact this.2
theorem foldD_shape (f:Bool) (l:List ND) (n:ND):(foldD f l n).shape=n.shape:=by
 unfold foldD;split
 ·rfl
 ·rfl
theorem foldD_ok {in0 in1:List (List Int)} {l:List ND} {n:ND} (f:Bool) (j:WfD in0 in1 l) (b:NodeOk in0 in1 l l.length n):NodeOk in0 in1 l l.length (foldD f l n):=by
 unfold foldD;split
 ·rename_i hf
  obtain ⟨_,g,k⟩:=hf;refine ⟨fun a e=>by simp at e,b.shape,.inr (.inl ⟨rfl,rfl,rfl,rfl,rfl,?_⟩)⟩
  rcases b.kinds with d | d | ⟨d,m,x,y,z,C,p,r⟩
  ·exact absurd d.2.1 g
  ·exact absurd d.2.1 g
  ·refine node_words ⟨d,m⟩ p (by rw [Kak]) (fun t s => ?_) b.shape (by rw [List.map_map];exact r)
   obtain ⟨a,e,rfl⟩:=List.mem_map.1 s;have h:=List.all_eq_true.1 k a e;have v:=b.ahead a e;have i:=j a _ (atD_lt v);have D:(atD l a).kind=2:=by unfold constD at h;simpa using h
   rcases i.kinds with q | q | q
   ·omega
   ·exact ⟨i.shape,q.2.2.2.2.2⟩
   ·omega
 ·exact b
theorem idxD_some {l:List ND} {n:ND} {i:Nat} (h:idxD l n=some i):l[i]?=some n∧∀ j:Nat,j<i→l[j]?≠some n:=by
 unfold idxD at h;obtain ⟨a,b,d⟩:=List.findIdx?_eq_some_iff_getElem.1 h;refine ⟨by rw [Kad a];exact congrArg some (of_decide_eq_true b),fun j f e => ?_⟩
 have g:=d j f;have k:j<l.length:=by omega
 rw [Kad k] at e;injection e with e
 simp [e] at g
theorem idxD_none {l:List ND} {n:ND} (h:idxD l n=none):∀ j:Nat,l[j]?≠some n:=by
 unfold idxD at h
 intro j e
 have:=List.findIdx?_eq_none_iff.1 h n (Kam e);simp at this
theorem madeD_cases (f s:Bool) (l:List ND) (n:ND):(s=true∧(madeD f s l n).1=l∧idxD l (foldD f l n)=some (madeD f s l n).2)∨((s=false∨idxD l (foldD f l n)=none)∧madeD f s l n=(l++[foldD f l n],l.length)):=by
 unfold madeD
 cases s with
 | false=>exact .inr ⟨.inl rfl,rfl⟩
 | true=>
  cases h:idxD l (foldD f l n) with
  | none=>exact .inr ⟨.inr rfl,by simp [h]⟩
  | some i=>exact .inl ⟨rfl,by simp [h],by simp [h]⟩
theorem madeD_pre (f s:Bool) (l:List ND) (n:ND):l <+: (madeD f s l n).1:=by
 rcases madeD_cases f s l n with ⟨_,h,_⟩ | ⟨_,h⟩
 ·rw [h];exact List.prefix_rfl
 ·rw [h];exact List.prefix_append _ _
theorem madeD_at (f s:Bool) (l:List ND) (n:ND):(madeD f s l n).1[(madeD f s l n).2]?=some (foldD f l n):=by
 rcases madeD_cases f s l n with ⟨_,h,a⟩ | ⟨_,h⟩
 ·rw [h];exact (idxD_some a).1
 ·rw [h];simp
theorem madeD_lt (f s:Bool) (l:List ND) (n:ND):(madeD f s l n).2<(madeD f s l n).1.length:=(Kaf.1 (madeD_at f s l n)).1
theorem madeD_wf {in0 in1:List (List Int)} {l:List ND} {n:ND} (f s:Bool) (b:WfD in0 in1 l) (d:NodeOk in0 in1 l l.length n):WfD in0 in1 (madeD f s l n).1:=by
 have e:=foldD_ok f b d;rcases madeD_cases f s l n with ⟨_,h,_⟩ | ⟨_,h⟩
 ·rw [h];exact b
 ·rw [h]
  intro i m a
  by_cases g:i<l.length
  ·rw [List.getElem?_append_left g] at a;exact (b i m a).pre (by omega) (List.prefix_append _ _)
  ·have j:i=l.length:=by
    have:=(Kaf.1 a).1;simp at this;omega
   subst j;simp at a;subst a;exact e.pre (Kag _) (List.prefix_append _ _)
def NamesD (l:List ND) (names:PlacesD) (sn:Names):Prop:=∀ n s,findN sn n=some s→placeD names n<l.length∧(atD l (placeD names n)).shape=s
theorem NamesD.pre {l a:List ND} {names:PlacesD} {b:Names} (h:NamesD l names b) (d:l <+: a):NamesD a names b:=fun n s f=>by
 obtain ⟨e,g⟩:=h n s f;exact ⟨Kae e d.length_le,by rw [atD_pre e d];exact g⟩
theorem placeD_snoc:∀ (names:PlacesD) (t:ByteArray) (p:Nat) (n:ByteArray),placeD (names++[(t,p)]) n=if (names.any fun q=>decide (q.1.toList=n.toList)) then placeD names n else if t.toList=n.toList then p else 0
 | [],t,p,n=>by simp [placeD]
 | (a,b)::r,t,p,n=>by
  rw [List.cons_append];unfold placeD;rw [placeD_snoc r t p n,List.any_cons]
  by_cases h:a.toList=n.toList
  ·rw [if_pos h,if_pos h,decide_eq_true h,Bool.true_or,if_pos rfl]
  ·rw [if_neg h,if_neg h,decide_eq_false h,Bool.false_or]
theorem findN_snoc:∀ (names:Names) (t:ByteArray) (s:List Int) (n:ByteArray),findN (names++[(t,s)]) n=match findN names n with | some x=>some x | none=>if t.toList=n.toList then some s else none
 | [],t,s,n=>by simp [findN]
 | (a,b)::r,t,s,n=>by
  rw [List.cons_append];unfold findN;rw [findN_snoc r t s n]
  by_cases h:a.toList=n.toList
  ·simp [h]
  ·simp [h]
theorem findN_keys:∀ {names:Names} {n:ByteArray},(findN names n).isSome=(names.any fun q=>decide (q.1.toList=n.toList))
 | [],n=>rfl
 | (a,b)::r,n=>by
  unfold findN;rw [List.any_cons]
  by_cases h:a.toList=n.toList
  ·simp [h]
  ·simp [h];exact findN_keys
def KeysD (names:PlacesD) (sn:Names):Prop:=names.map Prod.fst=sn.map Prod.fst
theorem KeysD.any {names:PlacesD} {a:Names} (h:KeysD names a) (n:ByteArray):(names.any fun q=>decide (q.1.toList=n.toList))=(a.any fun q=>decide (q.1.toList=n.toList)):=by
 have b:(names.any fun q=>decide (q.1.toList=n.toList))=((names.map Prod.fst).any fun q=>decide (q.toList=n.toList)):=by rw [List.any_map];rfl
 have d:(a.any fun q=>decide (q.1.toList=n.toList))=((a.map Prod.fst).any fun q=>decide (q.toList=n.toList)):=by rw [List.any_map];rfl
 rw [b,d,h]
theorem NamesD.snoc {l:List ND} {names:PlacesD} {b:Names} (h:NamesD l names b) (d:KeysD names b) (t:ByteArray) (p:Nat) (e:p<l.length):NamesD l (names++[(t,p)]) (b++[(t,(atD l p).shape)])∧KeysD (names++[(t,p)]) (b++[(t,(atD l p).shape)]):=by
 refine ⟨fun n s a => ?_,by unfold KeysD at d ⊢;rw [List.map_append,List.map_append,d];rfl⟩
 rw [findN_snoc] at a;rw [placeD_snoc,d.any,←findN_keys]
 cases hf:findN b n with
 | some x=>
  rw [hf] at a;injection a with a
  subst a;simpa using h n _ hf
 | none=>
  rw [hf] at a;dsimp only at a;split at a
  ·rename_i ht
   injection a with a
   simp [ht,e,a]
  ·cases a
structure LetRes (Q:List ND→Prop) (in0 in1:List (List Int)) (l:List ND) (sh:List (List Int)) (m:Nat→Bool) (i:Nat) (r:List ND × (Nat→Nat)):Prop where
 wf:WfD in0 in1 r.1
 q:Q r.1
 pre:l <+: r.1
 at_:∀ a,a<i→m a=true→r.2 a<r.1.length∧(atD r.1 (r.2 a)).shape=sh.getD a []
theorem nodeD_ok {in0 in1:List (List Int)} {l:List ND} {e:EI} {s:List Int} {P:Nat→Nat} {sh:List (List Int)} {m:Names} (d:exprC e sh m=.inl s) (n:e.kind≠2) (p:(e.args.length:Int)=madeP e.kind) (z:1≤e.kind∧e.kind≤14)
  (j:∀ a∈e.args,P a.toNat<l.length∧(atD l (P a.toNat)).shape=sh.getD a.toNat []):NodeOk in0 in1 l l.length (nodeD e s P):=by
 unfold exprC at d;rw [if_neg n] at d;dsimp only at d;split at d
 ·cases d
 ·rename_i hok
  injection d with i
  simp only [not_or] at hok;rw [i] at hok;refine ⟨fun a f => ?_,hok.2,?_⟩
  ·unfold nodeD at f;obtain ⟨x,q,rfl⟩:=List.mem_map.1 f;exact (j x q).1
  ·by_cases b:e.kind=1
   ·right;left;have f:e.args=[]:=by
     have C:madeP e.kind=0:=by rw [b];rfl
     exact List.eq_nil_of_length_eq_zero (by omega)
    unfold nodeD;dsimp only;have r:s=[]:=by rw [←i,b];rfl
    refine ⟨by unfold kindD;rw [if_pos b],by rw [f];rfl,by rw [if_neg (by rw [b];decide)],rfl,rfl,?_⟩
    rw [if_pos b,r,Zbd];rfl
   ·right;right;have t:kindD e.kind=e.kind.toNat:=by unfold kindD;rw [if_neg b,if_pos (by omega)]
    have k:((kindD e.kind:Nat):Int)=e.kind:=by rw [t];omega
    unfold nodeD;dsimp only;refine ⟨by omega,by omega,by rw [if_neg b],rfl,rfl,fun g=>by rw [if_neg (by omega)],by rw [Kak,k];exact p,?_⟩
    rw [k,List.map_map];have v:List.map ((fun a=>(atD l a).shape) ∘ fun a:Int=>P a.toNat) e.args=e.args.map fun a=>sh.getD a.toNat []:=List.map_congr_left fun a f=>(j a f).2
    rw [v];have y:Zab e.kind (if e.kind=9 then e.num else 0) (e.args.map fun a=>sh.getD a.toNat [])=Zab e.kind e.num (e.args.map fun a=>sh.getD a.toNat []):=by
     by_cases g:e.kind=9
     ·rw [if_pos g]
     ·unfold Zab;rw [if_neg g,if_neg g]
    rw [y];refine Prod.ext i ?_
    cases h:(Zab e.kind e.num (e.args.map fun a=>sh.getD a.toNat [])).2 with
    | true=>rfl
    | false=>exact absurd h hok.1
theorem kind_range {k:Int} (h:0≤madeP k):1≤k∧k≤14:=by
 unfold madeP at h;split at h
 ·omega
 ·split at h
  ·omega
  ·split at h
   ·omega
   ·split at h
    ·omega
    ·omega
theorem letD_res {in0 in1:List (List Int)} {es:List EI} {sh:List (List Int)} {names:PlacesD} {t:Names} {root:Nat} {l:List ND} (f s:Bool) (z:exsOk 0 es=true) (v:Ahead es) (x:LetOk es t sh root) (C:WfD in0 in1 l) (D:NamesD l names t) {Q:List ND→Prop} (E:∀ l n,WfD in0 in1 l→NodeOk in0 in1 l l.length n→Q l→Q (madeD f s l n).1) (F:Q l):
  ∀ i,LetRes Q in0 in1 l sh (Zac es root) i (letD f s es sh names (Zac es root) l i)
 | 0=>⟨C,F,List.prefix_rfl,fun a h=>by omega⟩
 | i+1=>by
  have b:=letD_res f s z v x C D E F i;unfold letD;dsimp only
  by_cases k:Zac es root i=true
  ·rw [if_pos k];obtain ⟨e,p,d⟩:=x.2 i k;rw [p];dsimp only
   by_cases r:e.kind=2
   ·rw [if_pos r];refine ⟨b.wf,b.q,b.pre,fun a m j => ?_⟩
    dsimp only;unfold updD
    by_cases g:a=i
    ·rw [if_pos g,g];unfold exprC at d;rw [if_pos r] at d
     cases hf:findN t e.name with
     | none=>rw [hf] at d;cases d
     | some s'=>
      rw [hf] at d;injection d with d
      rw [←d];exact (D.pre b.pre) _ _ hf
    ·rw [if_neg g];exact b.at_ a (by omega) j
   ·rw [if_neg r];have y:=ZeT es 0 z i e p;have J:(e.args.length:Int)=madeP e.kind:=by
     unfold exOk at y;rw [Bool.and_eq_true,beq_iff_eq] at y;exact y.1.symm
    have L:1≤e.kind∧e.kind≤14:=kind_range (by omega)
    have H:=nodeD_ok (in0:=in0) (in1:=in1) (l:=(letD f s es sh names (Zac es root) l i).1) (P:=(letD f s es sh names (Zac es root) l i).2) d r J L (fun a m=>by
     have N:=v i e p a m;exact b.at_ a.toNat (by omega) (Zbi v x.1 i e k p a m))
    refine ⟨madeD_wf f s b.wf H,E _ _ b.wf H b.q,b.pre.trans (madeD_pre _ _ _ _),fun a m j => ?_⟩
    dsimp only;unfold updD
    by_cases g:a=i
    ·rw [if_pos g,g];exact ⟨madeD_lt _ _ _ _,by rw [atD_some (madeD_at f s _ _),foldD_shape];rfl⟩
    ·rw [if_neg g];obtain ⟨I,M⟩:=b.at_ a (by omega) j
     exact ⟨Kae I (madeD_pre f s _ _).length_le,by rw [atD_pre I (madeD_pre f s _ _)];exact M⟩
  ·rw [if_neg k];refine ⟨b.wf,b.q,b.pre,fun a m j => ?_⟩
   by_cases g:a=i
   ·rw [g] at j;exact absurd j k
   ·exact b.at_ a (by omega) j
def VNt (a:Nat):Value:=.int .i64 (a:Int)
theorem vnt_map (l:List Nat):l.map VNt=(l.map Int.ofNat).map VI:=by rw [List.map_map];rfl
structure NV where
 sv:Value
 av:Value
 ev:Value
def ndC (m:ND × NV):List Value:=[.int .i64 m.1.kind,m.2.sv,m.2.av,.int .i64 m.1.party,.int .i64 m.1.input,.int .i64 m.1.k,m.2.ev]
def ndA (m:ND × NV):Value:=.agg #[.int .i64 m.1.kind,m.2.sv,m.2.av,.int .i64 m.1.party,.int .i64 m.1.input,.int .i64 m.1.k,m.2.ev]
def ndB (m:ND × NV):List (Option Nat):=[m.2.sv.ownBlock,m.2.av.ownBlock]
structure NdV (w:World) (B:Nat) (m:ND × NV):Prop where
 ls:m.1.shape.length≤1000000
 la:m.1.args.length≤1000000
 le:m.1.elems.length≤1000000
 sv:∃ A c,m.2.sv=.slice A m.1.shape.length c∧Own w B 3 A c (m.1.shape.map VI)
 av:∃ A c,m.2.av=.slice A m.1.args.length c∧Own w B 3 A c (m.1.args.map VNt)
 ev:∃ A c,m.2.ev=.slice A m.1.elems.length c∧Own w B 39 A c (m.1.elems.map U)
def KIW (w w':World):Prop:=∀ (g:Nat) (cur:Array Value) (T:TypeId),w.heap[g]?=some (.cells cur T (0,0))→(T=3∨T=39)→w'.heap[g]?=w.heap[g]?
theorem KIW.below {w w':World} (h:Below w.heap.size w w'):KIW w w':=fun g cur T a _=>h.block g (Kab.1 a).1
theorem KIW.set {w:World} {b k:Nat} {f:Array Value} {T:TypeId} {h:Nat × Nat} (i:w.heap[b]?=some (.cells f T h)) (j:T≠3) (l:T≠39) (v:Value):KIW w (w.setCell ⟨b,k,none⟩ v):=fun g cur n a d=>by
 refine ZaS _ _ _ (fun e => ?_)
 have m:g=b:=e;subst m;rw [i] at a;injection a with a
 injection a with _ a _
 rcases d with d | d
 ·exact j (a.trans d)
 ·exact l (a.trans d)
theorem KIW.grown {w w':World} {A:Option Addr} {T:TypeId} (e:w.grownBy w' (blk A)) (f:T≠3) (h:T≠39) (i:∀ g,blk A=some g→∃ cur,w.heap[g]?=some (.cells cur T (0,0))):KIW w w':=fun g cur j d b=>e.block g (Kab.1 d).1 fun q=>by
 obtain ⟨k,a⟩:=i g q.symm;rw [d] at a;injection a with a
 injection a with _ a _
 rcases b with b | b
 ·exact f (a.symm.trans b)
 ·exact h (a.symm.trans b)
theorem KIW.map {w w':World} {g:Nat} {es:Array MapEntry} {c:Nat} (b:w.heap[g]?=some (.map es c)) (d:∀ k,k≠g→w'.heap[k]?=w.heap[k]?):KIW w w':=fun k cur T a _=>d k fun e=>by
 rw [e,b] at a
 cases a
theorem KIW.trans {a b c:World} (h:KIW a b) (f:KIW b c):KIW a c:=fun g cur T d e=>(f g cur T ((h g cur T d e).trans d) e).trans (h g cur T d e)
theorem own_at {w w':World} {B c:Nat} {e:TypeId} {A:Option Addr} {xs:List Value} (h:Own w B e A c xs) (a:∀ k,blk A=some k→w'.heap[k]?=w.heap[k]?):Own w' B e A c xs:=ZaK h a
theorem own_kiw {w w':World} {B c:Nat} {e:TypeId} {A:Option Addr} {xs:List Value} (h:Own w B e A c xs) (a:e=3∨e=39) (b:KIW w w'):Own w' B e A c xs:=Zf4 h fun g cur d=>b g cur e d a
theorem NdV.kiw {w w':World} {B:Nat} {m:ND × NV} (h:NdV w B m) (a:KIW w w'):NdV w' B m:=by
 obtain ⟨b,d,e,⟨f,c1,g,i⟩,⟨j,c2,k,l⟩,n,c3,p,q⟩:=h;exact ⟨b,d,e,⟨f,c1,g,own_kiw i (.inl rfl) a⟩,⟨j,c2,k,own_kiw l (.inl rfl) a⟩,n,c3,p,own_kiw q (.inr rfl) a⟩
theorem NdV.ones {w:World} {B:Nat} {m:ND × NV} (h:NdV w B m):∀ a∈ndC m,a.oneCell'=true:=by
 obtain ⟨_,_,_,⟨g,c1,d,i⟩,⟨j,c2,e,k⟩,l,c3,f,n⟩:=h
 intro a b
 simp [ndC] at b;rcases b with rfl | rfl | rfl | rfl | rfl | rfl | rfl
 ·rfl
 ·rw [d];rfl
 ·rw [e];rfl
 ·rfl
 ·rfl
 ·rfl
 ·rw [f];rfl
theorem NdV.lt {w:World} {B:Nat} {m:ND × NV} (h:NdV w B m):∀ b∈ndB m,∀ k,b=some k→B≤k∧k<w.heap.size:=by
 obtain ⟨_,_,_,⟨j,c1,e,f⟩,⟨l,c2,g,i⟩,_⟩:=h
 intro b d k a
 simp [ndB] at d;rcases d with rfl | rfl
 ·rw [e] at a;exact ZiE f k a
 ·rw [g] at a;exact ZiE i k a
def NdRow (w:World) (B:Nat) (A:Option Addr) (c:Nat) (ms:List (ND × NV)):Prop:=w.ownsRow B 77 7 (.slice A ms.length c) ms.length (ms.flatMap ndC)∧∀ m∈ms,NdV w B m
section
variable {w w':World} {B c:Nat} {A:Option Addr} {ms:List (ND × NV)}
theorem NdRow.nil (w:World) (B:Nat):NdRow w B none 0 []:=⟨World.ownsRow_nil w B _ 7,by simp⟩
theorem NdRow.lt (h:NdRow w B A c ms):∀ g,blk A=some g→B≤g∧g<w.heap.size:=Zdg h.1
theorem NdRow.keep (h:NdRow w B A c ms) (a:KIW w w') (b:∀ g,blk A=some g→w'.heap[g]?=w.heap[g]?):NdRow w' B A c ms:=⟨ZaK h.1 b,fun m d=>(h.2 m d).kiw a⟩
theorem NdRow.next (h:NdRow w B A c ms) (a:Below w.heap.size w w'):NdRow w' B A c ms:=h.keep (KIW.below a) fun g b=>a.block g (h.lt g b).2
theorem NdRow.form (h:NdRow w B A c ms):∀ g,blk A=some g→∃ cur,w.heap[g]?=some (.cells cur 77 (0,0)):=by
 intro g b
 rcases h.1.2 with ⟨d,_⟩ | ⟨e,i,cur,d,j,f,r⟩
 ·injection d with a
  rw [a] at b
  cases b
 ·injection d with a
  rw [a] at b;have:e=g:=by simpa [blk] using b
  subst this;exact ⟨cur,f⟩
theorem NdRow.at_ (h:NdRow w B A c ms) {i:Nat} {m:ND × NV} (a:ms[i]?=some m):∃ g,A=some ⟨g,0,none⟩∧g<w.heap.size∧(∀ k v,(ndC m)[k]?=some v→k<7→w.cell? ⟨g,i*7+k,none⟩=some v)∧NdV w B m:=by
 obtain ⟨g,b,d,_,e⟩:=Zbm h.1 (by have:=(Kaf.1 a).1;omega)
 exact ⟨g,b,d,fun k v f j=>e _ v ((Zaq ndC 7 (fun _=>rfl) ms i k m a j).trans f),h.2 m (Kam a)⟩
end
theorem nd_info:(Tryz.prog.info? 77).map (fun i=>(i.zero,i.size,i.bytes))=some (some (.agg #[.int .i64 0,.slice none 0 0,.slice none 0 0,.int .i64 0,.int .i64 0,.int .i64 0,.slice none 0 0]),7,104):=by kernel_rfl
theorem run_appNd {w:World} (i:TypeId) (B:Nat) (A:Option Addr) (f n:Nat) (ms:List (ND × NV)) (p:n=ms.length) (g:NdRow w B A f ms) (d:Nat) (m:ND × NV) (q:w.heap[d]?=some (.cells (ndC m).toArray 77 (0,0))) (k:NdV w B m)
  (I:n≤100000) (r:B≤w.heap.size):
  ∃ a e w',(Builtin.append_ #[66,66] i #[.slice A n f,.slice (some ⟨d,0,none⟩) 1 1]).run Tryz.prog w=.ok (.slice a (n+1) e) w'∧NdRow w' B a e (ms++[m])∧w.grownBy w' (blk A)∧(blk a=blk A∨blk a=some w.heap.size)∧KIW w w':=by
 subst p;obtain ⟨s,v,y,z,C⟩:=info_parts nd_info;obtain ⟨a,e,w',D,E,l,F⟩:=ZeH (P := Tryz.prog) w B 66 i 77 s _ 7 104 Tryz.underlying66 v y z (by decide) C rfl A f ms.length (ms.flatMap ndC) g.1 d (ndC m) rfl
  (fun j J H=>by rw [cell_of_row w d j _ _ (0,0) q];simpa using H) k.ones (by simp only [maxLen];omega) (by omega) r
 have h:KIW w w':=KIW.grown l (by decide) (by decide) g.form
 refine ⟨a,e,w',D,⟨?_,fun x b => ?_⟩,l,F,h⟩
 ·rw [List.flatMap_append,List.length_append];have:List.flatMap ndC [m]=ndC m:=by simp
  rw [this];exact E
 ·rcases List.mem_append.1 b with b | b
  ·exact (g.2 x b).kiw h
  ·rw [List.mem_singleton.1 b];exact k.kiw h
def namV (names:PlacesD):List (ByteArray × Value):=names.map fun p=>(p.1,VNt p.2)
theorem findV_nam (n:ByteArray):∀ names:PlacesD,(findV (namV names) n=none∧placeD names n=0∧(names.any fun q=>decide (q.1.toList=n.toList))=false)∨findV (namV names) n=some (VNt (placeD names n))
 | []=>.inl ⟨rfl,rfl,rfl⟩
 | (t,v)::r=>by
  unfold namV findV placeD;rw [List.map_cons];dsimp only;rw [ZbG]
  by_cases e:t.toList=n.toList
  ·rw [if_pos e];have:decide (n.toList=t.toList)=true:=by simp [e]
   rw [this];exact .inr rfl
  ·rw [if_neg e];have:decide (n.toList=t.toList)=false:=decide_eq_false fun h=>e h.symm
   rw [this];rcases findV_nam n r with ⟨a,b,d⟩ | a
   ·refine .inl ⟨a,b,?_⟩;rw [List.any_cons,d,Bool.or_false];exact decide_eq_false e
   ·exact .inr a
theorem int_zero (w:World):(zeroValue 3).run Tryz.prog w=.ok (.int .i64 0) w:=by kernel_rfl
theorem run_pl_lookup {w:World} {g:Nat} {names:PlacesD} (h:NamM w g (namV names)) (n:ByteArray):
  (Instr.lookup 129 (.map (some g)) (.string n) false).run Tryz.prog w=.ok (.int .i64 (placeD names n:Nat)) w:=by
 obtain ⟨e,k,f,j⟩:=h;unfold Instr.lookup;simp only [Sem.run_bind,run_underlying Tryz.underlying129,Result.andThen_ok,Go.MapKept.run_getObj_map f,Sem.run_pure];rw [Go.MapKept.run_checkKey Tryz.underlying9 (show Go.MapKept.IsKey .string (.string n) from trivial)]
 simp only [Result.andThen_ok];rcases Zbx n e.toList (namV names) 0 j with ⟨b,d⟩ | ⟨l,i,b,d⟩
 ·rw [Go.MapKept.run_findKey Tryz.underlying9 d];rcases findV_nam n names with ⟨_,a,_⟩ | a
  ·rw [a];simp [Sem.run_bind,Sem.run_pure,int_zero]
  ·rw [b] at a;cases a
 ·rw [Go.MapKept.run_findKey Tryz.underlying9 d];rcases findV_nam n names with ⟨a,_⟩ | a
  ·rw [b] at a;cases a
  ·rw [b] at a;injection a with a
   subst a;simp [Sem.run_bind,Sem.run_pure,VNt]
theorem pl_store_all {w:World} {g:Nat} {names:PlacesD} (h:NamM w g (namV names)) (n:ByteArray) (p:Nat) (e:(names.any fun q=>decide (q.1.toList=n.toList))=false):
  ∃ o,∀ W:World,W.heap=w.heap→(Instr.mapUpdate 129 (.map (some g)) (.string n) (.int .i64 (p:Int))).run Tryz.prog W=.ok () { W with heap:=W.heap.setIfInBounds g o }∧NamM { W with heap:=W.heap.setIfInBounds g o } g (namV (names++[(n,p)])):=by
 have m:findV (namV names) n=none:=by
  rcases findV_nam n names with ⟨a,_⟩ | a
  ·exact a
  ·exfalso;clear h
   induction names with
   | nil=>cases a
   | cons q r ih=>
    obtain ⟨t,v⟩:=q;rw [List.any_cons,Bool.or_eq_false_iff] at e;have j:¬ t.toList=n.toList:=of_decide_eq_false e.1;unfold namV findV placeD at a;rw [List.map_cons] at a;dsimp only at a;rw [ZbG,if_neg j] at a;have:decide (n.toList=t.toList)=false:=decide_eq_false fun h=>j h.symm
    rw [this] at a;exact ih e.2 a
 obtain ⟨d,b,s,k⟩:=h;refine ⟨.map (d.push { key:=.string n,val:=.int .i64 (p:Int),born:=b }) (b+1),fun W x => ?_⟩
 have f:W.heap[g]?=some (.map d b):=by rw [x];exact s
 refine ⟨?_,d.push { key:=.string n,val:=.int .i64 (p:Int),born:=b },b+1,(Go.MapKept.heap_set f).1,?_⟩
 ·unfold Instr.mapUpdate;simp only [Sem.run_bind,run_underlying Tryz.underlying129,Result.andThen_ok,Go.MapKept.run_getObj_map f];rw [Go.MapKept.run_checkKey Tryz.underlying9 (show Go.MapKept.IsKey .string (.string n) from trivial)]
  simp only [Result.andThen_ok];rcases Zbx n d.toList (namV names) 0 k with ⟨a,l⟩ | ⟨y,i,a,l⟩
  ·rw [Go.MapKept.run_findKey Tryz.underlying9 l];simp only [Result.andThen_ok];exact Go.MapKept.run_setObj_map _ f
  ·rw [m] at a;cases a
 ·unfold namV at *;rw [Array.toList_push,List.map_append,List.map_append,List.map_append,k];rfl
theorem beqW_take {l d:List UInt64} (m:l.length=d.length) {i:Nat} {a b:UInt64} (h:l[i]?=some a) (e:d[i]?=some b):((l.drop i==d.drop i)=((a==b)&&(l.drop (i+1)==d.drop (i+1)))):=by
 obtain ⟨f,g⟩:=Kaf.1 h;obtain ⟨j,k⟩:=Kaf.1 e;rw [List.drop_eq_getElem_cons f,List.drop_eq_getElem_cons j,g,k];rfl
theorem beqW_len {l a:List UInt64} (h:l.length≠a.length):(l==a)=false:=by
 rw [Kaj]
 intro e
 exact h (by rw [e])
theorem equalW_any (A E:Option Addr) (n m c Q:Nat) (l a:List UInt64) (w:World) (F:n=l.length) (I:m=a.length) (V:n≤9223372036854775807) (W:m≤9223372036854775807) (h:Rd w w.heap.size A (l.map U)) (J:Rd w w.heap.size E (a.map U)):
  Calls Tryz.prog 167 #[.slice A n c,.slice E m Q] w fun e w'=>e=.returned (.bool (l==a))∧∃ q,w'=w.drewN q:=by
 have j:=Kz F;have k:=Kz I;have H:=Kz h;have R:=Kz J;clear h J F I
 by_cases z:n=m
 ·subst z;have r:((n:Int)==(n:Int))=true:=by simp
  have X:((n:Int) != (n:Int))=false:=by simp
  go_enter Tryz.func167,Tryz.ntmps167
  go_wp2
  go_loopw [13] (fun C wr=>(∃ i:Nat,i≤n∧C=.int .i64 i∧(l==a)=(l.drop i==a.drop i))∧∃ q,wr=w.drewN q) (fun C _=>n-(intOf C).toNat)
  case atStart=>exact ⟨⟨0,by omega,rfl,rfl⟩,0,rfl⟩
  case round=>
   obtain ⟨⟨i,Y,rfl,L⟩,q,rfl⟩:=hrel;have D:=Kz L;clear L
   by_cases s:i<n
   ·have t:l[i]?=some (l[i]'(by rw [←j.o];exact s)):=Kad _
    obtain ⟨d,M⟩:=Ky (l[i]'(by rw [←j.o];exact s))
    rw [←M] at t;have v:a[i]?=some (a[i]'(by rw [←k.o];exact s)):=Kad _
    obtain ⟨p,N⟩:=Ky (a[i]'(by rw [←k.o];exact s))
    rw [←N] at v;obtain ⟨b,o,rfl,S,c0⟩:=H.o.at_ (show (l.map U)[i]?=some (U d) by rw [Kal,t];rfl)
    obtain ⟨Z,a0,rfl,T,a1⟩:=R.o.at_ (show (a.map U)[i]?=some (U p) by rw [Kal,v];rfl)
    have O:=Kz (beqW_take (by rw [←j.o,←k.o]) t v)
    have i0:(0:Int)≤(i:Int):=by omega
    have i1:(i:Int)<(n:Int):=by omega
    clear t M v N S T
    by_cases x:d=p
    ·subst x;have r:(d==d)=true:=by simp
     have y:((d.toNat:Int)==(d.toNat:Int))=true:=by simp
     have P:((d.toNat:Int) != (d.toNat:Int))=false:=by simp
     have g:=Kz (show (l==a)=(l.drop (i+1)==a.drop (i+1)) from by rw [D.o,O.o,r];rfl)
     go_wp2_with fail
     go_quiet (fail)
     go_wp2
     exact ⟨⟨⟨i+1,by omega,rfl,g.o⟩,_,rfl⟩,by simp [intOf];omega⟩
    ·have r:(d==p)=false:=by rw [Kaj];exact x
     have y:((d.toNat:Int)==(p.toNat:Int))=false:=by rw [Kaj];exact fun e=>x (UInt64.toNat_inj.1 (by omega))
     have P:((d.toNat:Int) != (p.toNat:Int))=true:=by unfold bne;rw [y];rfl
     have g:=Kz (show (l==a)=false from by rw [D.o,O.o,r];rfl)
     clear x
     go_wp2_with fail
     go_quiet (fail)
     go_wp2
     go_ret;exact ⟨by rw [g.o];rfl,q+nq,World.drewN_drewN _ _ _⟩
   ·obtain rfl:n=i:=by omega
    have g:=Kz (show (l==a)=true from by rw [D.o,j.o,List.drop_length,←j.o,k.o,List.drop_length];rfl)
    go_wp2
    go_ret;exact ⟨by rw [g.o];rfl,_,rfl⟩
 ·have y:((n:Int)==(m:Int))=false:=by rw [Kaj];omega
  have P:((n:Int) != (m:Int))=true:=by unfold bne;rw [y];rfl
  have g:=Kz (show (l==a)=false from beqW_len (by rw [←j.o,←k.o];exact z))
  clear z
  go_enter Tryz.func167,Tryz.ntmps167
  go_wp2
  go_ret;exact ⟨by rw [g.o];rfl,0,rfl⟩
theorem kindOf_any (k:Int) (h:k=1∨(3≤k∧k≤14)) (w:World):Calls Tryz.prog 112 #[.int .i64 k] w fun e w'=>e=.returned (.int .i64 (kindD k:Nat))∧w=w':=by
 rcases (by omega:k=1∨k=3∨k=4∨k=5∨k=6∨k=7∨k=8∨k=9∨k=10∨k=11∨k=12∨k=13∨k=14) with rfl | rfl | rfl | rfl | rfl | rfl | rfl | rfl | rfl | rfl | rfl | rfl | rfl
 all_goals
  clear h
  go_enter Tryz.func112,Tryz.ntmps112
  go_wp2
  go_ret;exact ⟨rfl,rfl⟩
theorem kindD_id {i:Nat} (h:3≤i∧i≤14):kindD (i:Int)=i:=by
 unfold kindD;rw [if_neg (by omega),if_pos (by omega)]
 omega
theorem exprOf_any (k:Nat) (h:3≤k∧k≤14) (w:World):Calls Tryz.prog 117 #[.int .i64 k] w fun e w'=>e=.returned (.int .i64 (k:Int))∧w=w':=by
 have d:=Kz (fun (i:Nat) (g:3≤i∧i≤14)=>by have:=kindOf_any (i:Int) (.inr (by omega)) w;rw [kindD_id g] at this;exact this)
 go_enter Tryz.func117,Tryz.ntmps117
 go_wp2
 go_loop [3] (fun a=>∃ i:Nat,3≤i∧i≤k∧a=.int .i64 i) (fun a=>15-(intOf a).toNat)
 case atStart=>exact ⟨3,by omega,by omega,rfl⟩
 case round=>
  obtain ⟨i,m,n,rfl⟩:=hrel;have p:decide ((i:Int)≤14)=true:=by simp;omega
  have b:=Kz (d.o i (by omega))
  by_cases j:i=k
  ·subst j;have l:((i:Int)==(i:Int))=true:=by simp
   go_wp2_with (go_at_call 112;refine b.o.mono ?_;rintro e w' ⟨rfl,rfl⟩)
   go_ret;exact ⟨rfl,rfl⟩
  ·have l:((i:Int)==(k:Int))=false:=by rw [Kaj];omega
   go_wp2_with (go_at_call 112;refine b.o.mono ?_;rintro e w' ⟨rfl,rfl⟩)
   exact ⟨⟨i+1,by omega,by omega,rfl⟩,by simp [intOf];omega⟩
structure NdR (w:World) (m:ND × NV):Prop where
 ls:m.1.shape.length≤1000000
 la:m.1.args.length≤1000000
 le:m.1.elems.length≤1000000
 sv:∃ A c,m.2.sv=.slice A m.1.shape.length c∧Rd w w.heap.size A (m.1.shape.map VI)∧m.1.shape.length≤c∧c≤9223372036854775807
 av:∃ A c,m.2.av=.slice A m.1.args.length c∧Rd w w.heap.size A (m.1.args.map VNt)∧m.1.args.length≤c∧c≤9223372036854775807
 ev:∃ A c,m.2.ev=.slice A m.1.elems.length c∧Rd w w.heap.size A (m.1.elems.map U)∧m.1.elems.length≤c∧c≤9223372036854775807
theorem own_capsN {w:World} {B c:Nat} {e:TypeId} {A:Option Addr} {xs:List Value} (h:Own w B e A c xs):xs.length≤c∧c≤9223372036854775807:=by
 have:=Zfl h;exact this.2
theorem NdV.rd {w:World} {B:Nat} {m:ND × NV} (h:NdV w B m):NdR w m:=by
 obtain ⟨i,j,k,⟨l,c1,n,a⟩,⟨p,c2,q,b⟩,r,c3,s,d⟩:=h;have e:=own_capsN a;have f:=own_capsN b;have g:=own_capsN d;rw [Kak] at e f g;exact ⟨i,j,k,⟨l,c1,n,a.rd,e⟩,⟨p,c2,q,b.rd,f⟩,r,c3,s,d.rd,g⟩
theorem NdR.next {w w':World} {m:ND × NV} (h:NdR w m) (a:Below w.heap.size w w'):NdR w' m:=by
 obtain ⟨b,d,e,⟨f,c1,g,i,j⟩,⟨k,c2,l,n,p⟩,q,c3,r,s,t⟩:=h;exact ⟨b,d,e,⟨f,c1,g,i.next a,j⟩,⟨k,c2,l,n.next a,p⟩,q,c3,r,s.next a,t⟩
def nmT (i:Nat):ByteArray:=⟨#[UInt8.ofNat (97+i)]⟩
def zNm:ByteArray:=⟨#[122]⟩
def tinyI:Nat→List TN→List SI
 | _,[]=>[]
 | i,x::r=>⟨1,0,nmT i,x.sh,0,0⟩::tinyI (i+1) r
def tinyS (xs:List TN):List SI:=tinyI 0 xs++[⟨2,0,zNm,[],xs.length,0⟩,⟨3,0,zNm,[],0,0⟩]
def tinyN (m:Nat):List EI:=(List.range m).map fun i=>⟨2,nmT i,0,[],0⟩
def tinyE (k num m:Nat):List EI:=tinyN m++[⟨k,⟨#[]⟩,num,(List.range m).map Int.ofNat,0⟩]
theorem tn01:¬ (nmT 0).toList=(nmT 1).toList:=by rw [ByteArray.toList_eq,ByteArray.toList_eq];decide
theorem tn02:¬ (nmT 0).toList=(nmT 2).toList:=by rw [ByteArray.toList_eq,ByteArray.toList_eq];decide
theorem tn12:¬ (nmT 1).toList=(nmT 2).toList:=by rw [ByteArray.toList_eq,ByteArray.toList_eq];decide
theorem tn0z:¬ (nmT 0).toList=zNm.toList:=by rw [ByteArray.toList_eq,ByteArray.toList_eq];decide
theorem tn1z:¬ (nmT 1).toList=zNm.toList:=by rw [ByteArray.toList_eq,ByteArray.toList_eq];decide
theorem tn2z:¬ (nmT 2).toList=zNm.toList:=by rw [ByteArray.toList_eq,ByteArray.toList_eq];decide
theorem tn10:¬ (nmT 1).toList=(nmT 0).toList:=fun e=>tn01 e.symm
theorem tn20:¬ (nmT 2).toList=(nmT 0).toList:=fun e=>tn02 e.symm
theorem tn21:¬ (nmT 2).toList=(nmT 1).toList:=fun e=>tn12 e.symm
theorem tns0:(nmT 0).size=1:=rfl
theorem tns1:(nmT 1).size=1:=rfl
theorem tns2:(nmT 2).size=1:=rfl
theorem tnsz:zNm.size=1:=rfl
theorem tiny_one {k num:Nat} {x:TN} {a:List Int} (r:3≤k∧k≤14) (f:madeP k=1) (d:Zad x.sh≠0∧(x.el.length:Int)=Zad x.sh) (g:Zad a≠0) (h:Zab k num [x.sh]=(a,true)):
  evalR (tinyS [x]) (tinyE k num 1) [x] []=.inl [⟨a,Zbc k num (Zad a).toNat [x]⟩]:=by
 have j:(k:Int)≠1:=by omega
 have l:(k:Int)≠2:=by omega
 have e:tinyE k num 1=[⟨2,nmT 0,0,[],0⟩,⟨k,⟨#[]⟩,num,[0],0⟩]:=rfl;have m:tinyS [x]=[⟨1,0,nmT 0,x.sh,0,0⟩,⟨2,0,zNm,[],1,0⟩,⟨3,0,zNm,[],0,0⟩]:=rfl;have n:madeP 2=0:=rfl;have b:∀ i,i<2→Zac (tinyE k num 1) 1 i=true:=by
  intro i s
  have:i=0∨i=1:=by omega
  rcases this with rfl | rfl <;> rfl
 rw [e] at b;have p:=b 0 (by omega)
 have q:=b 1 (by omega)
 unfold evalR ZaA treeP;rw [m,e];simp [exsOk,exOk,f,n,argOk,smOk,Zaj,Zay,exprC,findN,d.1,d.2,tn01,tn02,tn12,tn0z,tn1z,tn2z,tn10,tn20,tn21,tns0,tns1,tns2,tnsz,p,q,h,g,j,l,Zae,fitT,ZaG,letR,exprR,findT]
theorem tiny_two {k num:Nat} {x y:TN} {a:List Int} (t:3≤k∧k≤14) (g:madeP k=2) (d:Zad x.sh≠0∧(x.el.length:Int)=Zad x.sh) (e:Zad y.sh≠0∧(y.el.length:Int)=Zad y.sh) (h:Zad a≠0) (j:Zab k num [x.sh,y.sh]=(a,true)):
  evalR (tinyS [x,y]) (tinyE k num 2) [x,y] []=.inl [⟨a,Zbc k num (Zad a).toNat [x,y]⟩]:=by
 have l:(k:Int)≠1:=by omega
 have m:(k:Int)≠2:=by omega
 have f:tinyE k num 2=[⟨2,nmT 0,0,[],0⟩,⟨2,nmT 1,0,[],0⟩,⟨k,⟨#[]⟩,num,[0,1],0⟩]:=rfl;have n:tinyS [x,y]=[⟨1,0,nmT 0,x.sh,0,0⟩,⟨1,0,nmT 1,y.sh,0,0⟩,⟨2,0,zNm,[],2,0⟩,⟨3,0,zNm,[],0,0⟩]:=rfl;have p:madeP 2=0:=rfl;have b:∀ i,i<3→Zac (tinyE k num 2) 2 i=true:=by
  intro i v
  have:i=0∨i=1∨i=2:=by omega
  rcases this with rfl | rfl | rfl <;> rfl
 rw [f] at b;have q:=b 0 (by omega)
 have r:=b 1 (by omega)
 have s:=b 2 (by omega)
 unfold evalR ZaA treeP;rw [n,f];simp [exsOk,exOk,g,p,argOk,smOk,Zaj,Zay,exprC,findN,d.1,d.2,e.1,e.2,tn01,tn02,tn12,tn0z,tn1z,tn2z,tn10,tn20,tn21,tns0,tns1,tns2,tnsz,q,r,s,j,h,l,m,Zae,fitT,ZaG,letR,exprR,findT]
theorem tiny_three {k num:Nat} {x y z:TN} {b:List Int} (C:3≤k∧k≤14) (h:madeP k=3) (d:Zad x.sh≠0∧(x.el.length:Int)=Zad x.sh) (e:Zad y.sh≠0∧(y.el.length:Int)=Zad y.sh) (f:Zad z.sh≠0∧(z.el.length:Int)=Zad z.sh) (j:Zad b≠0) (l:Zab k num [x.sh,y.sh,z.sh]=(b,true)):
  evalR (tinyS [x,y,z]) (tinyE k num 3) [x,y,z] []=.inl [⟨b,Zbc k num (Zad b).toNat [x,y,z]⟩]:=by
 have m:(k:Int)≠1:=by omega
 have n:(k:Int)≠2:=by omega
 have g:tinyE k num 3=[⟨2,nmT 0,0,[],0⟩,⟨2,nmT 1,0,[],0⟩,⟨2,nmT 2,0,[],0⟩,⟨k,⟨#[]⟩,num,[0,1,2],0⟩]:=rfl;have p:tinyS [x,y,z]=[⟨1,0,nmT 0,x.sh,0,0⟩,⟨1,0,nmT 1,y.sh,0,0⟩,⟨1,0,nmT 2,z.sh,0,0⟩,⟨2,0,zNm,[],3,0⟩,⟨3,0,zNm,[],0,0⟩]:=rfl;have q:madeP 2=0:=rfl;have a:∀ i,i<4→Zac (tinyE k num 3) 3 i=true:=by
  intro i D
  have:i=0∨i=1∨i=2∨i=3:=by omega
  rcases this with rfl | rfl | rfl | rfl <;> rfl
 rw [g] at a;have r:=a 0 (by omega)
 have s:=a 1 (by omega)
 have t:=a 2 (by omega)
 have v:=a 3 (by omega)
 unfold evalR ZaA treeP;rw [p,g];simp [exsOk,exOk,h,q,argOk,smOk,Zaj,Zay,exprC,findN,d.1,d.2,e.1,e.2,f.1,f.2,tn01,tn02,tn12,tn0z,tn1z,tn2z,tn10,tn20,tn21,tns0,tns1,tns2,tnsz,r,s,t,v,l,j,m,n,Zae,fitT,ZaG,letR,exprR,findT]
theorem tiny_eval {k num:Nat} {xs:List TN} {d:List Int} (f:3≤k∧k≤14) (a:(xs.length:Int)=madeP k) (b:∀ t∈xs,TnOk t) (g:Zad d≠0) (i:Zab k num (xs.map TN.sh)=(d,true)):
  evalE (tinyS xs) (tinyE k num xs.length) xs []=.inl [⟨d,Zbc k num (Zad d).toNat xs⟩]:=by
 have h:evalR (tinyS xs) (tinyE k num xs.length) xs []=.inl [⟨d,Zbc k num (Zad d).toNat xs⟩]:=by
  have j:madeP k=1∨madeP k=2∨madeP k=3:=by
   unfold madeP;rw [if_neg (by omega)]
   split
   ·exact .inl rfl
   ·split
    ·exact .inr (.inl rfl)
    ·rw [if_pos (by omega)]
     exact .inr (.inr rfl)
  match xs,a with
  | [],a=>simp at a;omega
  | [x],a=>exact tiny_one f a.symm (b x (by simp)) g i
  | [x,y],a=>exact tiny_two f a.symm (b x (by simp)) (b y (by simp)) g i
  | [x,y,z],a=>exact tiny_three f a.symm (b x (by simp)) (b y (by simp)) (b z (by simp)) g i
  | _::_::_::_::r,a=>simp at a;omega
 have e:=ZiM (tinyS xs) (tinyE k num xs.length) xs [];rw [h] at e;split at e
 ·rename_i o b
  injection e with e
  rw [b,←e]
 ·cases e
def outsN (ss:List SI):Nat:=(ss.filter fun s=>decide (s.kind≠1)&&decide (s.kind≠2)).length
structure StmtsRes (Q:List ND→Prop) (in0 in1:List (List Int)) (l:List ND) (outs:List Nat) (n:Nat) (r:List ND × List Nat):Prop where
 wf:WfD in0 in1 r.1
 q:Q r.1
 pre:l <+: r.1
 bnd:∀ o∈r.2,o<r.1.length
 len:r.2.length=outs.length+n
 small:l.length≤64→r.1.length≤64
theorem drop_cons {b:Type} {L:List b} {i:Nat} {x:b} {r:List b} (h:L.drop i=x::r):L[i]?=some x∧L.drop (i+1)=r:=by
 have d:i<L.length:=by
  rcases Nat.lt_or_ge i L.length with a | a
  ·exact a
  ·rw [List.drop_eq_nil_of_le a] at h;cases h
 rw [List.drop_eq_getElem_cons d] at h;injection h with a e
 exact ⟨by rw [Kad d,a],e⟩
theorem stmtsD_res {es:List EI} {sh in0 in1:List (List Int)} (f s:Bool) (D:exsOk 0 es=true) (a:Ahead es) {Q:List ND→Prop} (z:∀ l n,WfD in0 in1 l→NodeOk in0 in1 l l.length n→Q l→Q (madeD f s l n).1):∀ (ss:List SI) (names:PlacesD) (k:Names) (l:List ND) (d e:Nat) (outs:List Nat) (r:List ND × List Nat),
  Zas es sh ss k→in0.drop d=Zae ss 0→in1.drop e=Zae ss 1→WfD in0 in1 l→Q l→NamesD l names k→KeysD names k→(∀ o∈outs,o<l.length)→stmtsD f s es sh ss names l d e outs=some r→StmtsRes Q in0 in1 l outs (outsN ss) r
 | [],names,k,l,d,e,outs,r,b,p,t,hw,hq,hn,hk,hout,h=>by
  unfold stmtsD at h;injection h with h
  subst h;exact ⟨hw,hq,List.prefix_rfl,hout,rfl,fun h=>h⟩
 | x::ss,names,k,l,d,e,outs,r,b,p,t,hw,hq,hn,hk,hout,h=>by
  unfold stmtsD at h;unfold Zas at b
  by_cases j:x.kind=1
  ·rw [if_pos j] at h b;obtain ⟨a3,W,E,b⟩:=b;dsimp only at h;have M:∀ (i:Nat),((x.party.toNat=0∧in0[i]?=some x.shape)∨(x.party.toNat=1∧in1[i]?=some x.shape))→NodeOk in0 in1 l l.length (inD x i):=fun i X=>⟨fun a4 Y=>by simp [inD] at Y,W,.inl ⟨rfl,rfl,rfl,rfl,X⟩⟩
   have C:outsN (x::ss)=outsN ss:=by unfold outsN;rw [List.filter_cons,if_neg (by simp [j])]
   have N:∀ (i F H:Nat),NodeOk in0 in1 l l.length (inD x i)→in0.drop F=Zae ss 0→in1.drop H=Zae ss 1→¬ 64<(madeD f s l (inD x i)).1.length→stmtsD f s es sh ss (names++[(x.name,(madeD f s l (inD x i)).2)]) (madeD f s l (inD x i)).1 F H outs=some r→StmtsRes Q in0 in1 l outs (outsN (x::ss)) r:=fun i F H O p t g h=>by
    have L:=madeD_pre f s l (inD x i);have Z:=madeD_lt f s l (inD x i);have m:=(hn.pre L).snoc hk x.name _ Z;rw [show (atD (madeD f s l (inD x i)).1 (madeD f s l (inD x i)).2).shape=x.shape from by rw [atD_some (madeD_at f s l (inD x i)),foldD_shape];rfl] at m
    have:=stmtsD_res f s D a z ss _ _ _ F H outs r b p t (madeD_wf f s hw O) (z _ _ hw O hq) m.1 m.2 (fun o a=>Kae (hout o a) L.length_le) h
    exact ⟨this.wf,this.q,L.trans this.pre,this.bnd,by rw [C];exact this.len,fun _=>this.small (by omega)⟩
   by_cases I:x.party=0
   ·simp only [if_pos I] at h;have P:=drop_cons (p.trans (ZhE j I))
    by_cases g:64<(madeD f s l (inD x d)).1.length
    ·rw [if_pos g] at h;cases h
    ·rw [if_neg g] at h;exact N d (d+1) e (M d (.inl ⟨by rw [I];rfl,P.1⟩)) P.2 (t.trans (Zgm (.inr (by omega)))) g h
   ·have R:x.party=1:=by omega
    simp only [if_neg I] at h;have S:=drop_cons (t.trans (ZhE j R))
    by_cases g:64<(madeD f s l (inD x e)).1.length
    ·rw [if_pos g] at h;cases h
    ·rw [if_neg g] at h;exact N e d (e+1) (M e (.inr ⟨by rw [R];rfl,S.1⟩)) (p.trans (Zgm (.inr (by omega)))) S.2 g h
  ·rw [if_neg j] at h b;have T:in0.drop d=Zae ss 0:=p.trans (Zgm (.inl j));have V:in1.drop e=Zae ss 1:=t.trans (Zgm (.inl j))
   by_cases J:x.kind=2
   ·rw [if_pos J] at h b;obtain ⟨a0,E,b⟩:=b;dsimp only at h;have C:outsN (x::ss)=outsN ss:=by unfold outsN;rw [List.filter_cons,if_neg (by simp [J])]
    split at h
    ·cases h
    ·rename_i g
     have v:=letD_res (names:=names) f s D a a0 hw hn z hq (x.expr.toNat+1);have a1:Zac es x.expr.toNat x.expr.toNat=true:=by
      unfold Zac;rw [Zd7 a _ _ _ (Kag _)];simp
     obtain ⟨p1,p2⟩:=v.at_ x.expr.toNat (Nat.lt_succ_self _) a1;have m:=(hn.pre v.pre).snoc hk x.name _ p1;rw [p2] at m;have:=stmtsD_res f s D a z ss _ _ _ d e outs r b T V v.wf v.q m.1 m.2 (fun o a=>Kae (hout o a) v.pre.length_le) h
     exact ⟨this.wf,this.q,v.pre.trans this.pre,this.bnd,by rw [C];exact this.len,fun _=>this.small (by omega)⟩
   ·rw [if_neg J] at h b;obtain ⟨E,b⟩:=b;split at h
    ·cases h
    ·rename_i g
     have C:outsN (x::ss)=outsN ss+1:=by unfold outsN;rw [List.filter_cons,if_pos (by simp [j,J])];rfl
     have a2:placeD names x.name<l.length:=by
      cases hf:findN k x.name with
      | none=>rw [hf] at E;cases E
      | some y=>exact (hn _ _ hf).1
     have:=stmtsD_res f s D a z ss names k l d e _ r b T V hw hq hn hk (fun o a=>by
      rcases List.mem_append.1 a with a | a
      ·exact hout o a
      ·rw [List.mem_singleton.1 a];exact a2) h
     exact ⟨this.wf,this.q,this.pre,this.bnd,by rw [C,this.len,List.length_append];simp;omega,this.small⟩
theorem markD_le {l:List ND}:∀ (n:Nat) (m:Nat→Bool) (a:Nat),m a=true→markD l n m a=true
 | 0,m,a,h=>h
 | n+1,m,a,h=>markD_le n _ a (by simp [h])
theorem markD_stay {l:List ND} (d:∀ i,∀ a∈(atD l i).args,a<i):∀ (n:Nat) (m:Nat→Bool) (a:Nat),n≤a→markD l n m a=m a
 | 0,m,a,_=>rfl
 | n+1,m,a,h=>by
  show markD l n _ a=m a
  rw [markD_stay d n _ a (by omega)]
  cases hm:m n with
  | false=>simp
  | true=>
   have:((atD l n).args.any fun b=>b==a)=false:=by
    rw [List.any_eq_false]
    intro b e
    have:=d n b e;simp;omega
   simp [this]
theorem markD_args {l:List ND} (d:∀ i,∀ a∈(atD l i).args,a<i):∀ (n:Nat) (m:Nat→Bool) (b a:Nat),b<n→markD l n m b=true→a∈(atD l b).args→markD l n m a=true
 | 0,m,b,a,hb,_,_=>by omega
 | n+1,m,b,a,hb,h,hm=>by
  show markD l n _ a=true
  by_cases f:b=n
  ·subst f;have e:markD l b (fun a=>m a||(m b&&(atD l b).args.any fun c=>c==a)) b=true:=h
   rw [markD_stay d b _ b (Kag _)] at e;have g:((atD l b).args.any fun c=>c==b)=false:=by
    rw [List.any_eq_false]
    intro c j
    have:=d b c j;simp;omega
   rw [g,Bool.and_false,Bool.or_false] at e;exact markD_le b _ a (by
    rw [e,Bool.true_and,Bool.or_eq_true];exact .inr (List.any_eq_true.2 ⟨a,hm,by simp⟩))
  ·exact markD_args d n _ b a (by omega) h hm
theorem WfD.ahead {in0 in1:List (List Int)} {l:List ND} (h:WfD in0 in1 l):∀ i,∀ a∈(atD l i).args,a<i:=by
 intro i a b
 by_cases d:i<l.length
 ·exact (h i _ (atD_lt d)).ahead a b
 ·unfold atD at b;rw [List.getD_eq_getElem?_getD,List.getElem?_eq_none (by omega)] at b
  simp [zND] at b
theorem needD_out {l:List ND} {outs:List Nat} {o:Nat} (h:o∈outs):needD l outs o=true:=markD_le _ _ _ (List.any_eq_true.2 ⟨o,h,by simp⟩)
theorem needD_args {in0 in1:List (List Int)} {l:List ND} {outs:List Nat} (d:WfD in0 in1 l) {b a:Nat} (e:b<l.length) (h:needD l outs b=true) (f:a∈(atD l b).args):needD l outs a=true:=markD_args d.ahead _ _ b a e h f
structure KeepRes (l:List ND) (m:Nat→Bool) (i:Nat) (r:List ND × (Nat→Nat)):Prop where
 lt:∀ a,a<i→m a=true→r.2 a<r.1.length∧r.1[r.2 a]?=some { atD l a with args:=(atD l a).args.map r.2 }
 onto:∀ j,j<r.1.length→∃ a,a<i∧m a=true∧r.2 a=j
 mono:∀ a b,a<b→b<i→m a=true→m b=true→r.2 a<r.2 b
 len:r.1.length≤i
theorem keepD_res {l:List ND} {m:Nat→Bool} (t:∀ a,m a=true→∀ b∈(atD l a).args,m b=true∧b<a):∀ i,KeepRes l m i (keepD l m i)
 | 0=>⟨fun a h=>by omega,fun j h=>by simp [keepD] at h,fun a b f v=>by omega,Kag _⟩
 | i+1=>by
  have e:=keepD_res t i;unfold keepD;dsimp only
  by_cases g:m i=true
  ·rw [if_pos g];have x:∀ a,a≤i→m a=true→(atD l a).args.map (updD (keepD l m i).2 i (keepD l m i).1.length)=(atD l a).args.map (keepD l m i).2:=fun a k d=>List.map_congr_left fun b y=>by
    unfold updD;rw [if_neg (by have:=(t a d b y).2;omega)]
   refine ⟨fun a r d => ?_,fun j n => ?_,fun a b f v d p => ?_,by simp;exact e.len⟩
   ·dsimp only
    by_cases k:a=i
    ·subst k;rw [x a (Kag _) d];unfold updD;rw [if_pos rfl];simp
    ·have f:=e.lt a (by omega) d
     rw [x a (by omega) d]
     unfold updD;rw [if_neg k];refine ⟨by simp;omega,?_⟩
     rw [List.getElem?_append_left f.1];exact f.2
   ·dsimp only at n ⊢
    by_cases z:j<(keepD l m i).1.length
    ·obtain ⟨a,r,d,s⟩:=e.onto j z;refine ⟨a,by omega,d,?_⟩
     unfold updD;rw [if_neg (by omega)]
     exact s
    ·refine ⟨i,Nat.lt_succ_self _,g,?_⟩;unfold updD;rw [if_pos rfl];simp at n;omega
   ·dsimp only;unfold updD;rw [if_neg (by omega)]
    by_cases q:b=i
    ·rw [if_pos q];exact (e.lt a (by omega) d).1
    ·rw [if_neg q];exact e.mono a b f (by omega) d p
  ·rw [if_neg g];refine ⟨fun a r d => ?_,fun j n => ?_,fun a b f v d p => ?_,Nat.le_succ_of_le e.len⟩
   ·by_cases k:a=i
    ·subst k;exact absurd d g
    ·exact e.lt a (by omega) d
   ·obtain ⟨a,r,d,s⟩:=e.onto j n;exact ⟨a,by omega,d,s⟩
   ·by_cases q:b=i
    ·subst q;exact absurd p g
    ·exact e.mono a b f (by omega) d p
theorem dropD_res {in0 in1:List (List Int)} {l:List ND} {outs:List Nat} (e:WfD in0 in1 l) (j:∀ o∈outs,o<l.length):
  KeepRes l (fun a=>needD l outs a&&decide (a<l.length)) l.length (keepD l (needD l outs) l.length):=by
 have g:∀ i,i≤l.length→keepD l (needD l outs) i=keepD l (fun a=>needD l outs a&&decide (a<l.length)) i:=by
  intro i
  induction i with
  | zero=>intro _;rfl
  | succ i ih=>
   intro k
   unfold keepD;rw [ih (by omega)]
   have:(needD l outs i&&decide (i<l.length))=needD l outs i:=by simp;omega
   rw [this]
 rw [g _ (Kag _)];refine keepD_res (fun a d b f => ?_) _
 rw [Bool.and_eq_true,decide_eq_true_iff] at d;have h:=e.ahead a b f;refine ⟨?_,h⟩;rw [Bool.and_eq_true,decide_eq_true_iff];exact ⟨needD_args e d.2 d.1 f,by omega⟩
theorem buildD_parts {f s d:Bool} {ss:List SI} {es:List EI} {g:List ND × List Nat} (h:buildD f s d ss es=.inl g):
  ∃ sh l outs,ZaA ss es=.inl sh∧stmtsD f s es sh ss [] [] 0 0 []=some (l,outs)∧g=(if d then dropD l outs else (l,outs))∧countD ss es≤64:=by
 unfold buildD at h
 cases hc:ZaA ss es with
 | inr c=>
  rw [hc] at h;dsimp only at h
  cases h
 | inl sh=>
  rw [hc] at h;dsimp only at h;split at h
  ·cases h
  ·rename_i h64
   cases hs:stmtsD f s es sh ss [] [] 0 0 [] with
   | none=>rw [hs] at h;cases h
   | some p=>
    obtain ⟨l,outs⟩:=p;rw [hs] at h;injection h with h
    exact ⟨sh,l,outs,rfl,hs,h.symm,by omega⟩
theorem built_res {f s:Bool} {ss:List SI} {es:List EI} {sh:List (List Int)} {l:List ND} {outs:List Nat} (b:ZaA ss es=.inl sh) (d:stmtsD f s es sh ss [] [] 0 0 []=some (l,outs)) {Q:List ND→Prop} (e:∀ l n,WfD (Zae ss 0) (Zae ss 1) l→NodeOk (Zae ss 0) (Zae ss 1) l l.length n→Q l→Q (madeD f s l n).1) (g:Q []):
  StmtsRes Q (Zae ss 0) (Zae ss 1) [] [] (outsN ss) (l,outs):=by
 obtain ⟨j,k,p⟩:=ZbI b;have a:=(Zbz b).1;have m:exsOk 0 es=true:=by
  unfold treeP at a;rw [Bool.and_eq_true] at a;exact a.1
 exact stmtsD_res f s m j e ss [] [] [] 0 0 [] (l,outs) k (by simp) (by simp) (fun i n h=>by simp at h) g (fun n s h=>by cases h) rfl (fun o h=>by simp at h) d
theorem keep_at {l:List ND} {m:Nat→Bool} {i:Nat} {r:List ND × (Nat→Nat)} (h:KeepRes l m i r) {a:Nat} (b:a<i) (d:m a=true):atD r.1 (r.2 a)={ atD l a with args:=(atD l a).args.map r.2 }:=atD_some (h.lt a b d).2
theorem keep_wf {in0 in1:List (List Int)} {l:List ND} {m:Nat→Bool} {i:Nat} {r:List ND × (Nat→Nat)} (y:WfD in0 in1 l) (M:i≤l.length) (k:∀ a,m a=true→∀ b∈(atD l a).args,m b=true∧b<a) (h:KeepRes l m i r):WfD in0 in1 r.1:=by
 intro j n p
 obtain ⟨a,s,d,rfl⟩:=h.onto j (Kaf.1 p).1;have e:=(h.lt a s d).2;rw [p] at e;injection e with e
 have t:=y a _ (atD_lt (by omega:a<l.length))
 subst e;refine ⟨fun x z => ?_,t.shape,?_⟩
 ·obtain ⟨b,f,rfl⟩:=List.mem_map.1 z;obtain ⟨g,v⟩:=k a d b f;exact h.mono b a v s g d
 ·rcases t.kinds with q | q | ⟨C,D,E,F,H,I,J,L⟩
  ·exact .inl ⟨q.1,by dsimp only;rw [q.2.1];rfl,q.2.2⟩
  ·exact .inr (.inl ⟨q.1,by dsimp only;rw [q.2.1];rfl,q.2.2⟩)
  ·refine .inr (.inr ⟨C,D,E,F,H,I,by dsimp only;rw [Kak];exact J,?_⟩)
   dsimp only;rw [List.map_map,←L]
   congr 1
   refine List.map_congr_left fun b f => ?_
   obtain ⟨g,v⟩:=k a d b f
   show (atD r.1 (r.2 b)).shape=_
   rw [keep_at h (by omega) g]
theorem need_closed {in0 in1:List (List Int)} {l:List ND} {outs:List Nat} (e:WfD in0 in1 l):∀ a,(needD l outs a&&decide (a<l.length))=true→∀ b∈(atD l a).args,(needD l outs b&&decide (b<l.length))=true∧b<a:=by
 intro a d b f
 rw [Bool.and_eq_true,decide_eq_true_iff] at d;have g:=e.ahead a b f;refine ⟨?_,g⟩;rw [Bool.and_eq_true,decide_eq_true_iff];exact ⟨needD_args e d.2 d.1 f,by omega⟩
theorem dropD_wf {in0 in1:List (List Int)} {l:List ND} {outs:List Nat} (a:WfD in0 in1 l) (b:∀ o∈outs,o<l.length):WfD in0 in1 (dropD l outs).1∧(∀ o∈(dropD l outs).2,o<(dropD l outs).1.length)∧(dropD l outs).2.length=outs.length∧(dropD l outs).1.length≤l.length:=by
 have h:=dropD_res a b;refine ⟨keep_wf a (Kag _) (need_closed a) h,fun o e => ?_,by unfold dropD;simp,h.len⟩
 unfold dropD at e;obtain ⟨x,d,rfl⟩:=List.mem_map.1 e;exact (h.lt x (b x d) (by rw [needD_out d];simpa using b x d)).1
end Go.Proofs.YtghlnncfigkkaaaGreatDoor
