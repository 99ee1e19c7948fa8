/-
 Evaluation as plain functions over trees of integers and tensors of words.
-/
import Derived.Test.YtghlnncfigkkaaaGreatDoorQTree
import Derived.Test.YtghlnncfigkkaaaGreatDoorQChkV
import Derived.Test.YtghlnncfigkkaaaGreatDoorQLabL
namespace Go.Proofs.YtghlnncfigkkaaaGreatDoor
set_option linter.unusedVariables false
set_option linter.unusedSimpArgs false
open Go.RowKit
structure TN where
 sh:List Int
 el:List UInt64
def zTN:TN:=⟨[],[]⟩
def atL (l:List UInt64) (i:Nat):UInt64:=if l.length=1 then nthW l 0 else nthW l i
def oneF (k:Int) (num:Nat) (a b:UInt64):UInt64:=
 if k=3 then negW a
 else if k=4 then addW a b
 else if k=5 then subW a b
 else if k=6 then mulW a b
 else if k=8 then (if sltW a b then 1 else 0)
 else if k=9 then sarW a (min num 63)
 else if k=10 then (if sltW a 0 then 0 else a)
 else (if sltW a b then b else a)
def argGo (l:List UInt64):Nat→Nat→Nat
 | 0,best=>best
 | n+1,best=>let i:=l.length-(n+1);argGo l n (if sltW (nthW l best) (nthW l i) then i else best)
def argP (l:List UInt64):Nat:=argGo l l.length 0
def Zbc (k:Int) (num:Nat) (size:Nat) (x:List TN):List UInt64:=
 let x0:=(x.getD 0 zTN).el
 let x1:=(x.getD 1 zTN).el
 let x2:=(x.getD 2 zTN).el
 let q:=((x.getD 1 zTN).sh.headD 0).toNat
 if k=7 then matW x0 x1 (x0.length / q) q (x1.length / q)
 else if k=11 then [x0.foldl addW 0]
 else if k=12 then [UInt64.ofNat (argP x0)]
 else if k=14 then (List.range size).map fun i=>if andW (atL x0 i) 1=1 then atL x1 i else atL x2 i
 else (List.range size).map fun i=>oneF k num (atL x0 i) (atL (x.getLastD zTN).el i)
abbrev Zah:=List (ByteArray × TN)
def findT:Zah→ByteArray→TN
 | [],_=>zTN
 | (t,v)::r,n=>if t.toList=n.toList then v else findT r n
def exprE (e:EI) (size:Nat) (V:Nat→TN) (names:Zah):List UInt64:=
 if e.kind=1 then [UInt64.ofNat e.num]
 else if e.kind=2 then (findT names e.name).el
 else Zbc e.kind e.num size (e.args.map fun a=>V a.toNat)
def letF (es:List EI) (m:Nat→Bool) (sh:List (List Int)) (names:Zah) (V:Nat→TN):Nat→Nat→TN
 | 0=>V
 | n+1=>
  let V':=letF es m sh names V n
  fun a=>if a=n∧m n=true then
   match es[n]? with
   | none=>V' a
   | some e=>⟨sh.getD n [],exprE e (Zad (sh.getD n [])).toNat V' names⟩
  else V' a
def exprR (e:EI) (V:Nat→TN) (names:Zah):TN:=
 if e.kind=1 then ⟨[],[UInt64.ofNat e.num]⟩
 else if e.kind=2 then findT names e.name
 else
  let s:=(Zab e.kind e.num (e.args.map fun a=>(V a.toNat).sh)).1
  ⟨s,Zbc e.kind e.num (Zad s).toNat (e.args.map fun a=>V a.toNat)⟩
def letR (es:List EI) (m:Nat→Bool) (names:Zah):Nat→Nat→TN
 | 0=>fun _=>zTN
 | n+1=>
  let V':=letR es m names n
  fun a=>if a=n∧m n=true then
   match es[n]? with
   | none=>V' a
   | some e=>exprR e V' names
  else V' a
def ZaJ (es:List EI) (sh:List (List Int)) (in0 in1:List TN):List SI→Zah→(Nat→TN)→Nat→Nat→List TN→List TN
 | [],_,_,_,_,out=>out
 | s::ss,names,V,i0,i1,out=>
  if s.kind=1 then
   if s.party=0 then ZaJ es sh in0 in1 ss (names++[(s.name,in0.getD i0 zTN)]) V (i0+1) i1 out
   else ZaJ es sh in0 in1 ss (names++[(s.name,in1.getD i1 zTN)]) V i0 (i1+1) out
  else if s.kind=2 then
   let V':=letF es (Zac es s.expr.toNat) sh names V (s.expr.toNat+1)
   ZaJ es sh in0 in1 ss (names++[(s.name,V' s.expr.toNat)]) V' i0 i1 out
  else ZaJ es sh in0 in1 ss names V i0 i1 (out++[findT names s.name])
def ZaG (es:List EI) (in0 in1:List TN):List SI→Zah→Nat→Nat→List TN→List TN
 | [],_,_,_,out=>out
 | s::ss,names,i0,i1,out=>
  if s.kind=1 then
   if s.party=0 then ZaG es in0 in1 ss (names++[(s.name,in0.getD i0 zTN)]) (i0+1) i1 out
   else ZaG es in0 in1 ss (names++[(s.name,in1.getD i1 zTN)]) i0 (i1+1) out
  else if s.kind=2 then
   ZaG es in0 in1 ss (names++[(s.name,letR es (Zac es s.expr.toNat) names (s.expr.toNat+1) s.expr.toNat)]) i0 i1 out
  else ZaG es in0 in1 ss names i0 i1 (out++[findT names s.name])
def fitT:List (List Int)→List TN→Bool
 | [],[]=>true
 | s::r,t::q=>(s==t.sh&&((t.el.length:Int)==Zad s))&&fitT r q
 | _,_=>false
def evalE (ss:List SI) (es:List EI) (in0 in1:List TN):Sum (List TN) (Nat × Int × Bool):=
 match ZaA ss es with
 | .inr (c,p)=>.inr (c,p,false)
 | .inl sh=>
  if fitT (Zae ss 0) in0=false then .inr (201,0,true)
  else if fitT (Zae ss 1) in1=false then .inr (201,1,true)
  else .inl (ZaJ es sh in0 in1 ss [] (fun _=>zTN) 0 0 [])
def evalR (ss:List SI) (es:List EI) (in0 in1:List TN):Sum (List TN) Nat:=
 match ZaA ss es with
 | .inr (c,p)=>.inr c
 | .inl sh=>
  if fitT (Zae ss 0) in0=false∨fitT (Zae ss 1) in1=false then .inr 201
  else .inl (ZaG es in0 in1 ss [] 0 0 [])
def shN (names:Zah):Names:=names.map fun p=>(p.1,p.2.sh)
theorem Zf7 {names:Zah} {n:ByteArray} {s:List Int} (h:findN (shN names) n=some s):(findT names n).sh=s:=by
 induction names with
 | nil=>cases h
 | cons p r ih=>
  obtain ⟨t,v⟩:=p
  have h':(if t.toList=n.toList then some v.sh else findN (shN r) n)=some s:=h
  show (if t.toList=n.toList then v else findT r n).sh=s
  by_cases hc:t.toList=n.toList
  ·rw [if_pos hc] at h' ⊢
   injection h'
  ·rw [if_neg hc] at h' ⊢
   exact ih h'
theorem Zbs (names:Zah) (n:ByteArray) (v:TN):shN (names++[(n,v)])=shN names++[(n,v.sh)]:=by unfold shN;rw [List.map_append];rfl
def TnOk (t:TN):Prop:=Zad t.sh≠0∧(t.el.length:Int)=Zad t.sh
theorem Zbd:Zad []=1:=by decide
theorem Zca {a:Int} (h:Zad [a]≠0):1≤a∧a≤16∧Zad [a]=a:=by
 have h1:Zau 1 [a]≠0:=fun e=>h (Zbh e)
 have h2:Zad [a]=Zau 1 [a]:=by unfold Zad;rw [if_neg h1,if_neg (by simp)]
 unfold Zau at h1 h2
 split at h1
 ·exact absurd rfl h1
 ·rename_i q1
  rw [if_neg q1] at h2
  split at h1
  ·exact absurd rfl h1
  ·rename_i q2
   rw [if_neg q2] at h2
   unfold Zau at h2
   omega
theorem ZcK {a b:Int} (h:Zad [a,b]≠0):1≤a∧a≤16∧1≤b∧b≤16∧Zad [a,b]=a*b∧a*b≤32:=by
 have h1:Zau 1 [a,b]≠0:=fun e=>h (Zbh e)
 have h2:Zad [a,b]=Zau 1 [a,b]:=by unfold Zad;rw [if_neg h1,if_neg (by simp)]
 unfold Zau at h1 h2
 split at h1
 ·exact absurd rfl h1
 ·rename_i q1
  rw [if_neg q1] at h2
  split at h1
  ·exact absurd rfl h1
  ·rename_i q2
   rw [if_neg q2] at h2
   unfold Zau at h1 h2
   split at h1
   ·exact absurd rfl h1
   ·rename_i q3
    rw [if_neg q3] at h2
    split at h1
    ·exact absurd rfl h1
    ·rename_i q4
     rw [if_neg q4] at h2
     unfold Zau at h2
     rw [Int.one_mul] at h2 q4
     omega
theorem Zby {l:List Int} (h:Zad l≠0):1≤Zad l∧Zad l≤32:=by
 have h1:Zau 1 l≠0:=fun e=>h (Zbh e)
 have h2:=ZbQ l 1 (by decide) (by decide)
 have h3:Zad l=Zau 1 l:=by
  unfold Zad
  rw [if_neg h1]
  split
  ·rename_i h4
   exact absurd (by unfold Zad;rw [if_neg h1,if_pos h4]) h
  ·rfl
 omega
theorem Zc2 {l:List Int} (h:Zad l≠0):l=[]∨(∃ a,l=[a])∨∃ a b,l=[a,b]:=by
 have:=ZaX h
 match l,this with
 | [],_=>exact .inl rfl
 | [a],_=>exact .inr (.inl ⟨a,rfl⟩)
 | [a,b],_=>exact .inr (.inr ⟨a,b,rfl⟩)
theorem ZdK {x y:TN} {s:List Int} (hx:TnOk x) (hy:TnOk y) (hm:matP x.sh y.sh=(s,true)) (hs:Zad s≠0):
  ∃ m q n:Nat,1≤m∧m≤32∧1≤q∧q≤32∧1≤n∧n≤32∧x.el.length=m*q∧y.el.length=q*n∧y.sh.headD 0=(q:Int)∧y.sh≠[]∧Zad s=((m*n:Nat):Int)∧x.el.length / q=m∧y.el.length / q=n:=by
 unfold matP at hm
 split at hm
 ·injection hm with _ hm;cases hm
 ·rename_i hc
  injection hm with hm _
  simp only [not_or] at hc
  obtain ⟨c1,c2,c3⟩:=hc
  have fin:∀ (m q n:Nat),1≤m→m≤32→1≤q→q≤32→1≤n→n≤32→x.el.length=m*q→y.el.length=q*n→y.sh.headD 0=(q:Int)→y.sh≠[]→Zad s=((m*n:Nat):Int) →
    ∃ m q n:Nat,1≤m∧m≤32∧1≤q∧q≤32∧1≤n∧n≤32∧x.el.length=m*q∧y.el.length=q*n∧y.sh.headD 0=(q:Int)∧y.sh≠[]∧Zad s=((m*n:Nat):Int)∧x.el.length / q=m∧y.el.length / q=n:=
   fun m q n h1 h2 h3 h4 h5 h6 h7 h8 h9 h10 h11=>⟨m,q,n,h1,h2,h3,h4,h5,h6,h7,h8,h9,h10,h11,by rw [h7];exact Nat.mul_div_cancel _ h3,by rw [h8];exact Nat.mul_div_cancel_left _ h3⟩
  rcases Zc2 hx.1 with e | ⟨a,e⟩ | ⟨a,b,e⟩
  ·exact absurd (by rw [e];rfl) c1
  ·have ha:=Zca (a:=a) (by rw [←e];exact hx.1)
   have hxl:=hx.2
   rw [e,ha.2.2] at hxl
   rcases Zc2 hy.1 with f | ⟨c,f⟩ | ⟨c,d,f⟩
   ·exact absurd (by rw [f];rfl) c2
   ·have hcc:=Zca (a:=c) (by rw [←f];exact hy.1)
    have hyl:=hy.2
    rw [f,hcc.2.2] at hyl
    rw [e,f] at c3 hm
    have hac:a=c:=Classical.byContradiction c3
    have hs0:s=[]:=hm.symm
    obtain ⟨q,rfl⟩:=Int.eq_ofNat_of_zero_le (show 0≤a by omega)
    exact fin 1 q 1 (by omega) (by omega) (by omega) (by omega) (by omega) (by omega) (by omega) (by omega) (by rw [f];exact hac.symm) (by rw [f];simp) (by rw [hs0];exact Zbd)
   ·have hcc:=ZcK (a:=c) (b:=d) (by rw [←f];exact hy.1)
    have hyl:=hy.2
    rw [f,hcc.2.2.2.2.1] at hyl
    rw [e,f] at c3 hm
    have hac:a=c:=Classical.byContradiction c3
    have hs0:s=[d]:=hm.symm
    have hd:=Zca (a:=d) (by rw [←hs0];exact hs)
    obtain ⟨q,rfl⟩:=Int.eq_ofNat_of_zero_le (show 0≤a by omega)
    obtain ⟨n,rfl⟩:=Int.eq_ofNat_of_zero_le (show 0≤d by omega)
    subst hac
    exact fin 1 q n (by omega) (by omega) (by omega) (by omega) (by omega) (by omega) (by omega) (by rw [←Int.natCast_mul] at hyl;exact Int.ofNat.inj hyl) (by rw [f];rfl) (by rw [f];simp) (by rw [hs0,hd.2.2,Nat.one_mul])
  ·have ha:=ZcK (a:=a) (b:=b) (by rw [←e];exact hx.1)
   have hxl:=hx.2
   rw [e,ha.2.2.2.2.1] at hxl
   rcases Zc2 hy.1 with f | ⟨c,f⟩ | ⟨c,d,f⟩
   ·exact absurd (by rw [f];rfl) c2
   ·have hcc:=Zca (a:=c) (by rw [←f];exact hy.1)
    have hyl:=hy.2
    rw [f,hcc.2.2] at hyl
    rw [e,f] at c3 hm
    have hac:b=c:=Classical.byContradiction c3
    have hs0:s=[a]:=hm.symm
    have hd:=Zca (a:=a) (by rw [←hs0];exact hs)
    obtain ⟨m,rfl⟩:=Int.eq_ofNat_of_zero_le (show 0≤a by omega)
    obtain ⟨q,rfl⟩:=Int.eq_ofNat_of_zero_le (show 0≤b by omega)
    subst hac
    exact fin m q 1 (by omega) (by omega) (by omega) (by omega) (by omega) (by omega) (by rw [←Int.natCast_mul] at hxl;exact Int.ofNat.inj hxl) (by omega) (by rw [f];rfl) (by rw [f];simp) (by rw [hs0,hd.2.2,Nat.mul_one])
   ·have hcc:=ZcK (a:=c) (b:=d) (by rw [←f];exact hy.1)
    have hyl:=hy.2
    rw [f,hcc.2.2.2.2.1] at hyl
    rw [e,f] at c3 hm
    have hac:b=c:=Classical.byContradiction c3
    have hs0:s=[a,d]:=hm.symm
    have hd:=ZcK (a:=a) (b:=d) (by rw [←hs0];exact hs)
    obtain ⟨m,rfl⟩:=Int.eq_ofNat_of_zero_le (show 0≤a by omega)
    obtain ⟨q,rfl⟩:=Int.eq_ofNat_of_zero_le (show 0≤b by omega)
    obtain ⟨n,rfl⟩:=Int.eq_ofNat_of_zero_le (show 0≤d by omega)
    subst hac
    exact fin m q n (by omega) (by omega) (by omega) (by omega) (by omega) (by omega) (by rw [←Int.natCast_mul] at hxl;exact Int.ofNat.inj hxl) (by rw [←Int.natCast_mul] at hyl;exact Int.ofNat.inj hyl) (by rw [f];rfl) (by rw [f];simp) (by rw [hs0,hd.2.2.2.2.1,←Int.natCast_mul])
def eachP (f:UInt64→UInt64→UInt64) (x y:List UInt64):List UInt64:=
 (List.range (max x.length y.length)).map fun i=>f (nthW x (min i (x.length-1))) (nthW y (min i (y.length-1)))
theorem ZiJ {l:List UInt64} {n i:Nat} (h:l.length=1∨l.length=n) (hi:i<n):nthW l (min i (l.length-1))=atL l i:=by
 unfold atL
 by_cases h1:l.length=1
 ·rw [if_pos h1,h1]
  simp
 ·rw [if_neg h1,Nat.min_eq_left (by omega)]
theorem Zd6 {f:UInt64→UInt64→UInt64} {x y:List UInt64} {n:Nat} (hx:x.length=1∨x.length=n) (hy:y.length=1∨y.length=n) (hn:max x.length y.length=n):
  eachP f x y=(List.range n).map fun i=>f (atL x i) (atL y i):=by
 unfold eachP
 rw [hn]
 refine List.map_congr_left fun i hi => ?_
 have hi':=List.mem_range.1 hi
 rw [ZiJ hx hi',ZiJ hy hi']
theorem ZbH (f:UInt64→UInt64→UInt64) (x y:List UInt64):(eachP f x y).length=max x.length y.length:=by unfold eachP;simp
theorem Ze0 {x y:TN} {s:List Int} (hx:TnOk x) (hy:TnOk y) (hw:wideP x.sh y.sh=(s,true)):∃ n:Nat,Zad s=(n:Int)∧1≤n∧n≤32∧(x.el.length=1∨x.el.length=n)∧(y.el.length=1∨y.el.length=n)∧max x.el.length y.el.length=n:=by
 have px:=Zby hx.1
 have py:=Zby hy.1
 have lx:=hx.2
 have ly:=hy.2
 unfold wideP at hw
 split at hw
 ·rename_i h0
  injection hw with hw _
  have hx0:x.sh=[]:=List.eq_nil_of_length_eq_zero h0
  rw [hx0,Zbd] at lx
  refine ⟨y.el.length,by rw [←hw];exact ly.symm,by omega,by omega,.inl (by omega),.inr rfl,by omega⟩
 ·injection hw with hw1 hw2
  simp only [Bool.or_eq_true,beq_iff_eq] at hw2
  rcases hw2 with h0 | h0
  ·have hy0:y.sh=[]:=List.eq_nil_of_length_eq_zero h0
   rw [hy0,Zbd] at ly
   exact ⟨x.el.length,by rw [←hw1];exact lx.symm,by omega,by omega,.inr rfl,.inl (by omega),by omega⟩
  ·rw [←h0] at ly
   exact ⟨x.el.length,by rw [←hw1];exact lx.symm,by omega,by omega,.inr rfl,.inr (by omega),by omega⟩
theorem ZkB {e:EI} {names:Zah} {shl:List (List Int)} {s:List Int} {x:List TN} (hc:exprC e shl (shN names)=.inl s) (hx:x.map TN.sh=e.args.map fun a=>shl.getD a.toNat []) (ho:∀ t∈x,TnOk t) (hn:∀ p∈names,TnOk p.2) (hl:(e.args.length:Int)=madeP e.kind) (h1:e.kind≠1) (h2:e.kind≠2):
  Zad s≠0∧((Zbc e.kind e.num (Zad s).toNat x).length:Int)=Zad s:=by
 unfold exprC at hc
 rw [if_neg h2] at hc
 dsimp only at hc
 split at hc
 ·cases hc
 ·rename_i hok
  injection hc with hs
  simp only [not_or] at hok
  rw [hs] at hok
  have hp:=Zby hok.2
  refine ⟨hok.2,?_⟩
  have hxl:x.length=e.args.length:=by have:=congrArg List.length hx;rwa [Kak,Kak] at this
  unfold Zbc
  dsimp only
  by_cases k7:e.kind=7
  ·rw [if_pos k7]
   rw [k7] at hl
   have hl2:x.length=2:=by rw [hxl];have:madeP 7=2:=rfl;omega
   match x,hl2,hx,ho with
   | [a,b],_,hx,ho=>
    have hsh:Zab e.kind e.num (e.args.map fun a=>shl.getD a.toNat [])=matP a.sh b.sh:=by
     rw [←hx,k7]
     rfl
    rw [hsh] at hs hok
    have hm:matP a.sh b.sh=(s,true):=by
     refine Prod.ext hs ?_
     cases h:(matP a.sh b.sh).2 with
     | true=>rfl
     | false=>exact absurd h hok.1
    obtain ⟨m,q,n,_,_,_,_,_,_,_,_,f3,_,f5,f6,f7⟩:=ZdK (ho a (by simp)) (ho b (by simp)) hm hok.2
    rw [ZaV]
    show (((a.el.length / (b.sh.headD 0).toNat*(b.el.length / (b.sh.headD 0).toNat)):Nat):Int)=_
    rw [f3,Int.toNat_natCast,f6,f7,f5]
  ·rw [if_neg k7]
   by_cases k11:e.kind=11
   ·rw [if_pos k11]
    have:s=[]:=by rw [←hs,k11];rfl
    rw [this,Zbd]
    rfl
   ·rw [if_neg k11]
    by_cases k12:e.kind=12
    ·rw [if_pos k12]
     have:s=[]:=by rw [←hs,k12];rfl
     rw [this,Zbd]
     rfl
    ·rw [if_neg k12]
     split
     ·rw [Kak,List.length_range]
      omega
     ·rw [Kak,List.length_range]
      omega
theorem ZkC {names:Zah} {n:ByteArray} {s:List Int} (hn:∀ p∈names,TnOk p.2) (h:findN (shN names) n=some s):TnOk (findT names n):=by
 induction names with
 | nil=>cases h
 | cons p r ih=>
  obtain ⟨t,v⟩:=p
  unfold findT
  unfold shN at h
  rw [List.map_cons] at h
  unfold findN at h
  split
  ·exact hn (t,v) (by simp)
  ·rename_i hne
   rw [if_neg hne] at h
   exact ih (fun p hp=>hn p (by simp [hp])) h
structure ArgsT (e:EI) (names:Zah) (shF:List (List Int)) (s:List Int) (x:List TN):Prop where
 hc:exprC e shF (shN names)=.inl s
 hx:x.map TN.sh=e.args.map fun a=>shF.getD a.toNat []
 ho:∀ t∈x,TnOk t
 hn:∀ p∈names,TnOk p.2
 hl:(e.args.length:Int)=madeP e.kind
theorem ZkD {e:EI} {names:Zah} {shF:List (List Int)} {s:List Int} {V:Nat→TN} (h:ArgsT e names shF s (e.args.map fun a=>V a.toNat)):
  TnOk ⟨s,exprE e (Zad s).toNat V names⟩:=by
 by_cases h1:e.kind=1
 ·have hc:=h.hc
  unfold exprC at hc
  rw [if_neg (by rw [h1];decide)] at hc
  dsimp only at hc
  split at hc
  ·cases hc
  ·injection hc with hc
   have hs:s=[]:=by rw [←hc,h1];rfl
   subst hs
   refine ⟨by rw [Zbd];decide,?_⟩
   show ((exprE e _ V names).length:Int)=Zad []
   unfold exprE
   rw [if_pos h1,Zbd]
   rfl
 ·by_cases h2:e.kind=2
  ·have hc:=h.hc
   unfold exprC at hc
   rw [if_pos h2] at hc
   cases hf:findN (shN names) e.name with
   | none=>rw [hf] at hc;cases hc
   | some s'=>
    rw [hf] at hc
    injection hc with hc
    subst hc
    have ho:=ZkC h.hn hf
    have hs:=Zf7 hf
    unfold TnOk at ho ⊢
    unfold exprE
    rw [if_neg h1,if_pos h2]
    rw [hs] at ho
    exact ho
  ·obtain ⟨w1,w2⟩:=ZkB h.hc h.hx h.ho h.hn h.hl h1 h2
   refine ⟨w1,?_⟩
   show ((exprE e _ V names).length:Int)=Zad s
   unfold exprE
   rw [if_neg h1,if_neg h2]
   exact w2
def Ahead (es:List EI):Prop:=∀ (i:Nat) (e:EI),es[i]?=some e→∀ b∈e.args,0≤b∧b<(i:Int)
theorem ZeT:∀ (es:List EI) (k:Nat),exsOk k es=true→∀ (i:Nat) (e:EI),es[i]?=some e→exOk (k+i) e=true
 | [],_,_,i,e,h=>by simp at h
 | x::r,k,h,i,e,he=>by
  unfold exsOk at h
  rw [Bool.and_eq_true] at h
  cases i with
  | zero=>
   simp only [List.getElem?_cons_zero,Option.some.injEq] at he
   subst he
   exact h.1
  | succ i=>
   rw [List.getElem?_cons_succ] at he
   have:=ZeT r (k+1) h.2 i e he
   rwa [Nat.add_right_comm,Nat.add_assoc] at this
theorem ZaU {es:List EI} (h:exsOk 0 es=true):Ahead es:=by
 intro i e he b hb
 have h1:=ZeT es 0 h i e he
 unfold exOk at h1
 rw [Bool.and_eq_true] at h1
 have h2:=List.all_eq_true.1 h1.2 b hb
 unfold argOk at h2
 rw [Bool.and_eq_true] at h2
 have h3:=of_decide_eq_true h2.1
 have h4:=of_decide_eq_true h2.2
 omega
def stepM (es:List EI) (n:Nat) (m:Nat→Bool):Nat→Bool:=fun a=>m a||(m n&&((es[n]?.map EI.args).getD []).any fun b=>b==(a:Int))
theorem Ze1 (es:List EI) (root n:Nat) (m:Nat→Bool):markP es root (n+1) m=markP es root n (stepM es n m):=rfl
theorem ZdL {es:List EI} {n a:Nat} {m:Nat→Bool} (h:Ahead es) (ha:n≤a):stepM es n m a=m a:=by
 unfold stepM
 have:(((es[n]?.map EI.args).getD []).any fun b=>b==(a:Int))=false:=by
  rw [List.any_eq_false]
  intro b hb
  cases he:es[n]? with
  | none=>rw [he] at hb;simp at hb
  | some e=>
   rw [he] at hb
   have:=(h n e he b hb).2
   simp only [beq_iff_eq]
   omega
 rw [this,Bool.and_false,Bool.or_false]
theorem Zd7 {es:List EI} {root:Nat} (h:Ahead es):∀ (n:Nat) (m:Nat→Bool) (j:Nat),n≤j+1→markP es root n m j=m j
 | 0,m,j,_=>rfl
 | n+1,m,j,hj=>by rw [Ze1,Zd7 h n _ j (by omega),ZdL h (by omega)]
theorem Zdv {es:List EI} {root:Nat} (h:Ahead es):∀ (n:Nat) (m:Nat→Bool) (j:Nat) (e:EI) (b:Nat),j<n→markP es root n m j=true→es[j]?=some e→(b:Int)∈e.args→markP es root n m b=true
 | 0,m,j,e,b,hj,_,_,_=>by omega
 | n+1,m,j,e,b,hj,hm,he,hb=>by
  rw [Ze1] at hm ⊢
  by_cases hn:j=n
  ·subst hn
   rw [Zd7 h j _ j (by omega),ZdL h (Kag _)] at hm
   refine Zdd _ _ ?_
   unfold stepM
   rw [hm,he]
   simp only [Option.map_some,Option.getD_some,Bool.true_and,Bool.or_eq_true]
   exact .inr (List.any_eq_true.2 ⟨_,hb,by simp⟩)
  ·exact Zdv h n _ j e b (by omega) hm he hb
theorem ZiK {n:Nat} {s:SI} (h:smOk n s=true):s.kind=1∨s.kind=2∨s.kind=3:=by
 unfold smOk at h
 simp only [Bool.or_eq_true,Bool.and_eq_true,beq_iff_eq] at h
 omega
theorem Zbz {ss:List SI} {es:List EI} {sh:List (List Int)} (h:ZaA ss es=.inl sh):treeP ss es=true∧Zaj es ss [] (es.map fun _=>[]) 0=.inl sh:=by
 unfold ZaA at h
 split at h
 ·rename_i ht;exact ⟨ht,h⟩
 ·cases h
theorem Zde {es:List EI} {sh':List (List Int)}:∀ (ss:List SI) (names:Names) (sh:List (List Int)) (inp:Nat),Zaj es ss names sh inp=.inl sh'→sh'.length=sh.length
 | [],names,sh,inp,h=>by injection h with h;rw [h]
 | s::ss,names,sh,inp,h=>by
  unfold Zaj at h
  dsimp only at h
  repeat' split at h
  all_goals first
   | exact Zde ss _ _ _ h
   | cases h
   | (rename_i x hx _;rw [Zde ss _ _ _ h];exact Zcp _ _ _ _ hx)
theorem ZhA {ss:List SI} {es:List EI} {sh:List (List Int)} (h:ZaA ss es=.inl sh):sh.length=es.length:=by
 unfold ZaA at h
 split at h
 ·rw [Zde _ _ _ _ h,Kak]
 ·cases h
structure Done (es:List EI) (names:Names) (sh:List (List Int)) (D:Nat→Prop):Prop where
 at_:∀ k,D k→∃ e,es[k]?=some e∧(∀ a∈e.args,D a.toNat)∧exprC e sh names=.inl (sh.getD k [])
theorem Zdf {e:EI} {sh sh':List (List Int)} {names:Names} (h:∀ a∈e.args,sh'.getD a.toNat []=sh.getD a.toNat []):exprC e sh' names=exprC e sh names:=by
 have:(e.args.map fun a=>sh'.getD a.toNat [])=e.args.map fun a=>sh.getD a.toNat []:=List.map_congr_left fun a ha=>h a ha
 unfold exprC
 rw [this]
theorem Zgl {sh:List (List Int)} {k j:Nat} {s:List Int} (h:k≠j):(sh.set k s).getD j []=sh.getD j []:=by
 rw [List.getD_eq_getElem?_getD,List.getD_eq_getElem?_getD,List.getElem?_set_ne h]
theorem ZdM {sh:List (List Int)} {k:Nat} {s:List Int} (h:k<sh.length):(sh.set k s).getD k []=s:=by
 rw [List.getD_eq_getElem?_getD,List.getElem?_set_self h]
 rfl
theorem ZdN {es:List EI} {m:Nat→Bool} {names:Names} (ho:Ahead es) (hm:∀ k e,m k=true→es[k]?=some e→∀ a∈e.args,m a.toNat=true):
  ∀ (n k:Nat) (sh sh':List (List Int)) (D:Nat→Prop),k+n≤es.length→sh.length=es.length→Done es names sh D→(∀ j,m j=true→j<k→D j)→Zay es m names n k sh=.inl sh' →
   Done es names sh' (fun j=>D j∨(m j=true∧j<k+n))∧∀ j,D j→sh'.getD j []=sh.getD j []
 | 0,k,sh,sh',D,_,_,hD,hj,h=>by
  have:sh=sh':=by injection h
  subst this
  refine ⟨⟨fun j hj' => ?_⟩,fun j _=>rfl⟩
  have hd:D j:=hj'.elim id fun h=>hj j h.1 (by omega)
  obtain ⟨e,h1,h2,h3⟩:=hD.at_ j hd
  exact ⟨e,h1,fun a ha=>.inl (h2 a ha),h3⟩
 | n+1,k,sh,sh',D,hkn,hl,hD,hj,h=>by
  have ih:=fun (sh:List (List Int)) (D:Nat→Prop)=>ZdN (es:=es) (m:=m) (names:=names) ho hm n (k+1) sh sh' D (by omega)
  unfold Zay at h
  cases hk:m k with
  | false=>
   rw [hk] at h
   simp only [Bool.false_eq_true,if_false] at h
   have h9:=ih sh D hl hD (fun j h1 h2=>by
    rcases Nat.lt_or_ge j k with h3 | h3
    ·exact hj j h1 h3
    ·have:j=k:=by omega
     rw [this,hk] at h1
     cases h1) h
   refine ⟨⟨fun j hj' => ?_⟩,h9.2⟩
   obtain ⟨e,h1,h2,h3⟩:=h9.1.at_ j (hj'.imp_right fun h=>⟨h.1,by omega⟩)
   exact ⟨e,h1,fun a ha=>(h2 a ha).imp_right fun h=>⟨h.1,by omega⟩,h3⟩
  | true=>
   rw [hk] at h
   simp only [if_true] at h
   have hx:es[k]?=some (es[k]'(by omega)):=Kad _
   obtain ⟨e,he⟩:∃ e,e=es[k]'(by omega):=⟨_,rfl⟩
   rw [←he] at hx
   rw [hx] at h
   dsimp only at h
   cases hc:exprC e sh names with
   | inr c=>rw [hc] at h;cases h
   | inl s=>
    rw [hc] at h
    dsimp only at h
    have hstay:∀ j,D j→(sh.set k s).getD j []=sh.getD j []:=fun j hd=>by
     by_cases hkj:k=j
     ·subst hkj
      obtain ⟨e',h1,h2,h3⟩:=hD.at_ k hd
      rw [hx] at h1
      injection h1 with h1
      subst h1
      rw [hc] at h3
      injection h3 with h3
      rw [ZdM (by omega),h3]
     ·exact Zgl hkj
    have hargs:∀ a∈e.args,D a.toNat:=fun a ha=>hj _ (hm k e hk hx a ha) (by have:=ho k e hx a ha;omega)
    have hD':Done es names (sh.set k s) (fun j=>D j∨j=k):=by
     refine ⟨fun j hj' => ?_⟩
     rcases hj' with hd | rfl
     ·obtain ⟨e',h1,h2,h3⟩:=hD.at_ j hd
      exact ⟨e',h1,fun a ha=>.inl (h2 a ha),by rw [Zdf (fun a ha=>hstay _ (h2 a ha)),h3,hstay j hd]⟩
     ·exact ⟨e,hx,fun a ha=>.inl (hargs a ha),by rw [Zdf (fun a ha=>hstay _ (hargs a ha)),hc,ZdM (by omega)]⟩
    have h9:=ih (sh.set k s) (fun j=>D j∨j=k) (by rw [List.length_set];exact hl) hD' (fun j h1 h2=>by
     rcases Nat.lt_or_ge j k with h3 | h3
     ·exact .inl (hj j h1 h3)
     ·exact .inr (by omega)) h
    refine ⟨⟨fun j hj' => ?_⟩,fun j hd=>(h9.2 j (.inl hd)).trans (hstay j hd)⟩
    have h10:(D j∨j=k)∨(m j=true∧j<k+1+n):=by
     rcases hj' with h1 | h1
     ·exact .inl (.inl h1)
     ·exact .inr ⟨h1.1,by omega⟩
    obtain ⟨e',h1,h2,h3⟩:=h9.1.at_ j h10
    refine ⟨e',h1,fun a ha => ?_,h3⟩
    rcases h2 a ha with (h | h) | h
    ·exact .inl h
    ·exact .inr ⟨by rw [h];exact hk,by omega⟩
    ·exact .inr ⟨h.1,by omega⟩
theorem ZhB {names:Names} {n:ByteArray} {s:List Int} (h:findN names n=some s) (q:Names):findN (names++q) n=some s:=by
 induction names with
 | nil=>cases h
 | cons p r ih=>
  obtain ⟨t,u⟩:=p
  have h':(if t.toList=n.toList then some u else findN r n)=some s:=h
  show (if t.toList=n.toList then some u else findN (r++q) n)=some s
  by_cases hc:t.toList=n.toList
  ·rw [if_pos hc] at h' ⊢
   exact h'
  ·rw [if_neg hc] at h' ⊢
   exact ih h'
theorem ZhC {e:EI} {sh:List (List Int)} {names:Names} {s:List Int} (h:exprC e sh names=.inl s) (q:Names):exprC e sh (names++q)=.inl s:=by
 unfold exprC at h ⊢
 by_cases hk:e.kind=2
 ·rw [if_pos hk] at h ⊢
  cases hf:findN names e.name with
  | none=>rw [hf] at h;cases h
  | some s'=>
   rw [hf] at h
   rw [ZhB hf q]
   exact h
 ·rw [if_neg hk] at h ⊢
  exact h
theorem Done.grow {es:List EI} {names:Names} {sh:List (List Int)} {D:Nat→Prop} (h:Done es names sh D) (q:Names):Done es (names++q) sh D:=
 ⟨fun k hk=>by
  obtain ⟨e,h1,h2,h3⟩:=h.at_ k hk
  exact ⟨e,h1,h2,ZhC h3 q⟩⟩
theorem Zbi {es:List EI} (ho:Ahead es) {root:Nat} (hr:root<es.length):∀ k e,Zac es root k=true→es[k]?=some e→∀ a∈e.args,Zac es root a.toNat=true:=by
 intro k e hk he a ha
 have h1:=ho k e he a ha
 by_cases hkr:k≤root
 ·unfold Zac at hk ⊢
  refine Zdv ho (root+1) _ k e a.toNat (by omega) hk he ?_
  rw [Int.toNat_of_nonneg h1.1]
  exact ha
 ·-- nothing beyond the root is marked
  unfold Zac at hk
  rw [Zd7 ho (root+1) _ k (by omega)] at hk
  simp at hk
  omega
theorem ZcL {es:List EI} (ho:Ahead es) {root k:Nat} (h:Zac es root k=true):k≤root:=by
 rcases Nat.lt_or_ge root k with h1 | h1
 ·unfold Zac at h
  rw [Zd7 ho (root+1) _ k (by omega)] at h
  simp at h
  omega
 ·exact h1
def LetOk (es:List EI) (names:Names) (shF:List (List Int)) (root:Nat):Prop:=root<es.length∧∀ k,Zac es root k=true→∃ e,es[k]?=some e∧exprC e shF names=.inl (shF.getD k [])
def Zas (es:List EI) (shF:List (List Int)):List SI→Names→Prop
 | [],_=>True
 | s::r,names=>
  if s.kind=1 then (s.party=0∨s.party=1)∧Zad s.shape≠0∧ZaC names s.name=false∧Zas es shF r (names++[(s.name,s.shape)])
  else if s.kind=2 then LetOk es names shF s.expr.toNat∧ZaC names s.name=false∧Zas es shF r (names++[(s.name,shF.getD s.expr.toNat [])])
  else (findN names s.name).isSome=true∧Zas es shF r names
theorem ZhD {es:List EI} {shF:List (List Int)} (ho:Ahead es):∀ (ss:List SI) (names:Names) (sh:List (List Int)) (inp:Nat) (D:Nat→Prop),(∀ s∈ss,smOk es.length s=true)→sh.length=es.length→Done es names sh D→Zaj es ss names sh inp=.inl shF →
  Zas es shF ss names∧∀ j,D j→shF.getD j []=sh.getD j []:=by
 intro ss
 induction ss with
 | nil=>
  intro names sh inp D _ _ _ h
  have:sh=shF:=by injection h
  subst this
  exact ⟨trivial,fun j _=>rfl⟩
 | cons s r ih=>
  intro names sh inp D hok hl hD h
  have hokr:=fun t ht=>hok t (List.mem_cons.2 (.inr ht))
  have hs:=hok s (List.mem_cons.2 (.inl rfl))
  unfold Zas
  rcases ZiK hs with hk | hk | hk
  ·rw [if_pos hk]
   rw [ZeN _ _ _ _ hk] at h
   split at h
   ·cases h
   ·rename_i q1
    split at h
    ·cases h
    ·rename_i q2
     split at h
     ·cases h
     ·have h9:=ih _ _ _ D hokr hl (hD.grow _) h
      exact ⟨⟨by
       rcases Classical.em (s.party=0) with h0 | h0
       ·exact .inl h0
       ·rcases Classical.em (s.party=1) with h1 | h1
        ·exact .inr h1
        ·exact absurd (.inl ⟨h0,h1⟩) q1,fun e=>q1 (.inr e),by simpa using q2,h9.1⟩,h9.2⟩
  ·rw [if_neg (by rw [hk];decide),if_pos hk]
   have hr:s.expr.toNat<es.length:=by
    unfold smOk at hs
    rw [hk] at hs
    simp only [Bool.or_eq_true,Bool.and_eq_true,decide_eq_true_eq] at hs
    rcases hs with (hs | hs) | hs
    ·cases hs
    ·cases hs
    ·omega
   rw [ZeO _ _ _ _ hk] at h
   cases hc:Zay es (Zac es s.expr.toNat) names (s.expr.toNat+1) 0 sh with
   | inr c=>rw [hc] at h;cases h
   | inl sh1=>
    rw [hc] at h
    dsimp only at h
    have hl1:sh1.length=es.length:=(Zcp _ _ _ _ hc).trans hl
    have hd1:=ZdN ho (Zbi ho hr) _ 0 sh sh1 D (by omega) hl hD (fun j _ h2=>by omega) hc
    split at h
    ·cases h
    ·rename_i q2
     have h9:=ih _ _ _ _ hokr hl1 (hd1.1.grow _) h
     have hw:∀ k,Zac es s.expr.toNat k=true→shF.getD k []=sh1.getD k []:=fun k hk=>h9.2 k (.inr ⟨hk,by have:=ZcL ho hk;omega⟩)
     refine ⟨⟨⟨hr,fun k hk => ?_⟩,by simpa using q2,?_⟩,fun j hj=>(h9.2 j (.inl hj)).trans (hd1.2 j hj)⟩
     ·obtain ⟨e,h1,h2,h3⟩:=hd1.1.at_ k (.inr ⟨hk,by have:=ZcL ho hk;omega⟩)
      refine ⟨e,h1,?_⟩
      rw [Zdf (fun a ha=>hw _ (Zbi ho hr k e hk h1 a ha)),h3,hw k hk]
     ·rw [hw _ (ZaI _ _)]
      exact h9.1
  ·rw [if_neg (by rw [hk];decide),if_neg (by rw [hk];decide)]
   rw [ZeP _ _ _ _ hk] at h
   split at h
   ·cases h
   ·rename_i q1
    have h9:=ih _ _ _ D hokr hl hD h
    refine ⟨⟨?_,h9.1⟩,h9.2⟩
    cases hf:findN names s.name with
    | none=>rw [hf] at q1;exact absurd rfl q1
    | some v=>rfl
theorem ZbI {ss:List SI} {es:List EI} {shF:List (List Int)} (h:ZaA ss es=.inl shF):Ahead es∧Zas es shF ss []∧shF.length=es.length:=by
 have hlen:=ZhA h
 obtain ⟨ht,hs⟩:=Zbz h
 have hex:exsOk 0 es=true:=by unfold treeP at ht;rw [Bool.and_eq_true] at ht;exact ht.1
 have hsm:ss.all (smOk es.length)=true:=by unfold treeP at ht;rw [Bool.and_eq_true] at ht;exact ht.2
 exact ⟨ZaU hex,(ZhD (ZaU hex) ss [] _ 0 (fun _=>False) (fun s hs=>List.all_eq_true.1 hsm s hs) (by rw [Kak]) ⟨fun k hk=>hk.elim⟩ hs).1,hlen⟩
theorem ZcM (es:List EI) (m:Nat→Bool) (sh:List (List Int)) (names:Zah) (V:Nat→TN) (n a:Nat):letF es m sh names V (n+1) a=if a=n∧m n=true then (match es[n]? with | none=>letF es m sh names V n a | some e=>⟨sh.getD n [],exprE e (Zad (sh.getD n [])).toNat (letF es m sh names V n) names⟩) else letF es m sh names V n a:=rfl
theorem Zcb (es:List EI) (m:Nat→Bool) (names:Zah) (n a:Nat):letR es m names (n+1) a=if a=n∧m n=true then (match es[n]? with | none=>letR es m names n a | some e=>exprR e (letR es m names n) names) else letR es m names n a:=rfl
theorem ZdO {es:List EI} {m:Nat→Bool} {sh:List (List Int)} {names:Zah} {V:Nat→TN} {k:Nat} {e:EI} (hm:m k=true) (he:es[k]?=some e):∀ (n:Nat),k<n→letF es m sh names V n k=⟨sh.getD k [],exprE e (Zad (sh.getD k [])).toNat (letF es m sh names V k) names⟩
 | 0,h=>by omega
 | n+1,h=>by
  rw [ZcM]
  by_cases hkn:k=n
  ·subst hkn
   rw [if_pos ⟨rfl,hm⟩,he]
  ·rw [if_neg (fun e=>hkn e.1)]
   exact ZdO hm he n (by omega)
theorem ZbJ {es:List EI} {m:Nat→Bool} {sh:List (List Int)} {names:Zah} {V:Nat→TN} {a:Nat}:∀ (n k:Nat),a<k→k≤n→letF es m sh names V n a=letF es m sh names V k a
 | 0,k,h,hk=>by omega
 | n+1,k,h,hk=>by
  by_cases hkn:k=n+1
  ·rw [hkn]
  ·have:letF es m sh names V (n+1) a=letF es m sh names V n a:=by
    rw [ZcM,if_neg (by omega)]
   rw [this]
   exact ZbJ n k h (by omega)
theorem ZiL {es:List EI} {m:Nat→Bool} {names:Zah} {k:Nat} {e:EI} (hm:m k=true) (he:es[k]?=some e):∀ (n:Nat),k<n→letR es m names n k=exprR e (letR es m names k) names
 | 0,h=>by omega
 | n+1,h=>by
  rw [Zcb]
  by_cases hkn:k=n
  ·subst hkn
   rw [if_pos ⟨rfl,hm⟩,he]
  ·rw [if_neg (fun e=>hkn e.1)]
   exact ZiL hm he n (by omega)
theorem Zcc {es:List EI} {m:Nat→Bool} {names:Zah} {a:Nat}:∀ (n k:Nat),a<k→k≤n→letR es m names n a=letR es m names k a
 | 0,k,h,hk=>by omega
 | n+1,k,h,hk=>by
  by_cases hkn:k=n+1
  ·rw [hkn]
  ·have:letR es m names (n+1) a=letR es m names n a:=by
    rw [Zcb,if_neg (by omega)]
   rw [this]
   exact Zcc n k h (by omega)
theorem ZeU {es:List EI} {sh:List (List Int)} {names:Zah} {V:Nat→TN} {root:Nat} (ho:Ahead es) (hl:LetOk es (shN names) sh root):∀ (k:Nat),Zac es root k=true→letF es (Zac es root) sh names V (root+1) k=letR es (Zac es root) names (root+1) k:=by
 intro k
 induction k using Nat.strongRecOn with
 | _ k ih=>
  intro hk
  have hkr:=ZcL ho hk
  obtain ⟨e,he,hc⟩:=hl.2 k hk
  rw [ZdO hk he _ (by omega),ZiL hk he _ (by omega)]
  have hx:(e.args.map fun a=>letF es (Zac es root) sh names V k a.toNat)=e.args.map fun a=>letR es (Zac es root) names k a.toNat:=List.map_congr_left fun a ha=>by
   have h1:=ho k e he a ha
   have h2:=ih a.toNat (by omega) (Zbi ho hl.1 k e hk he a ha)
   rw [ZbJ (root+1) k (by omega) (by omega),Zcc (root+1) k (by omega) (by omega)] at h2
   exact h2
  have hsh:(e.args.map fun a=>(letR es (Zac es root) names k a.toNat).sh)=e.args.map fun a=>sh.getD a.toNat []:=List.map_congr_left fun a ha=>by
   have h1:=ho k e he a ha
   have hw:=Zbi ho hl.1 k e hk he a ha
   obtain ⟨e2,he2,_⟩:=hl.2 _ hw
   have h2:=ih a.toNat (by omega) hw
   rw [ZbJ (root+1) k (by omega) (by omega),Zcc (root+1) k (by omega) (by omega)] at h2
   show (letR es (Zac es root) names k a.toNat).sh=_
   rw [←h2,ZdO hw he2 _ (by omega)]
  unfold exprC at hc
  unfold exprE exprR
  by_cases h1:e.kind=1
  ·rw [if_neg (by rw [h1];decide)] at hc
   dsimp only at hc
   rw [if_pos h1,if_pos h1]
   split at hc
   ·cases hc
   ·injection hc with hc
    rw [←hc]
    unfold Zab
    rw [h1]
    rfl
  ·rw [if_neg h1,if_neg h1]
   by_cases h2:e.kind=2
   ·rw [if_pos h2] at hc
    rw [if_pos h2,if_pos h2]
    cases hf:findN (shN names) e.name with
    | none=>rw [hf] at hc;cases hc
    | some s=>
     rw [hf] at hc
     injection hc with hc
     rw [←hc,←Zf7 hf]
   ·rw [if_neg h2] at hc
    rw [if_neg h2,if_neg h2]
    dsimp only at hc ⊢
    split at hc
    ·cases hc
    ·injection hc with hc
     rw [hsh,hc,hx]
theorem ZhE {s:SI} {r:List SI} {p:Int} (hk:s.kind=1) (hp:s.party=p):Zae (s::r) p=s.shape::Zae r p:=by
 unfold Zae
 rw [List.filter_cons,if_pos (by rw [hk,hp];simp)]
 rfl
theorem Zgm {s:SI} {r:List SI} {p:Int} (h:s.kind≠1∨s.party≠p):Zae (s::r) p=Zae r p:=by
 unfold Zae
 rw [List.filter_cons,if_neg (by
  simp only [Bool.and_eq_true,beq_iff_eq,not_and]
  intro h1 h2
  rcases h with h | h
  ·exact h h1
  ·exact h h2)]
def Left (ss:List SI) (p:Int) (l:List TN) (i:Nat):Prop:=(l.drop i).map TN.sh=Zae ss p
theorem Left.take {s:SI} {r:List SI} {p:Int} {l:List TN} {i:Nat} (h:Left (s::r) p l i) (hk:s.kind=1) (hp:s.party=p):(l.getD i zTN).sh=s.shape∧Left r p l (i+1)∧i<l.length:=by
 unfold Left at h ⊢
 rw [ZhE hk hp] at h
 rcases Nat.lt_or_ge i l.length with hi | hi
 ·rw [List.drop_eq_getElem_cons hi,List.map_cons] at h
  injection h with h1 h2
  refine ⟨?_,h2,hi⟩
  rw [List.getD_eq_getElem?_getD,Kad hi]
  exact h1
 ·rw [List.drop_eq_nil_of_le hi] at h
  cases h
theorem Left.skip {s:SI} {r:List SI} {p:Int} {l:List TN} {i:Nat} (h:Left (s::r) p l i) (hn:s.kind≠1∨s.party≠p):Left r p l i:=by
 unfold Left at h ⊢
 rw [Zgm hn] at h
 exact h
theorem ZhF {es:List EI} {sh:List (List Int)} {in0 in1:List TN} (ho:Ahead es):∀ (ss:List SI) (names:Zah) (V:Nat→TN) (i0 i1:Nat) (out:List TN),Zas es sh ss (shN names)→Left ss 0 in0 i0→Left ss 1 in1 i1 →
  ZaJ es sh in0 in1 ss names V i0 i1 out=ZaG es in0 in1 ss names i0 i1 out:=by
 intro ss
 induction ss with
 | nil=>intros;rfl
 | cons s r ih=>
  intro names V i0 i1 out hok h0 h1
  unfold Zas at hok
  unfold ZaJ ZaG
  by_cases hk:s.kind=1
  ·rw [if_pos hk] at hok
   rw [if_pos hk,if_pos hk]
   obtain ⟨hp,_,_,hr⟩:=hok
   by_cases hp0:s.party=0
   ·rw [if_pos hp0,if_pos hp0]
    obtain ⟨t1,t2,_⟩:=h0.take hk hp0
    refine ih _ _ _ _ _ ?_ t2 (h1.skip (.inr (by omega)))
    rw [Zbs,t1]
    exact hr
   ·rw [if_neg hp0,if_neg hp0]
    obtain ⟨t1,t2,_⟩:=h1.take hk (hp.resolve_left hp0)
    refine ih _ _ _ _ _ ?_ (h0.skip (.inr hp0)) t2
    rw [Zbs,t1]
    exact hr
  ·rw [if_neg hk] at hok
   rw [if_neg hk,if_neg hk]
   by_cases hk2:s.kind=2
   ·rw [if_pos hk2] at hok
    rw [if_pos hk2,if_pos hk2]
    obtain ⟨hl,_,hr⟩:=hok
    dsimp only
    have hs:=ZeU (V:=V) ho hl _ (ZaI es s.expr.toNat)
    rw [←hs]
    refine ih _ _ _ _ _ ?_ (h0.skip (.inl hk)) (h1.skip (.inl hk))
    rw [Zbs]
    obtain ⟨e,he,_⟩:=hl.2 _ (ZaI es s.expr.toNat)
    rw [ZdO (ZaI es s.expr.toNat) he _ (Nat.lt_succ_self _)]
    exact hr
   ·rw [if_neg hk2] at hok
    rw [if_neg hk2,if_neg hk2]
    exact ih _ _ _ _ _ hok.2 (h0.skip (.inl hk)) (h1.skip (.inl hk))
theorem Zb0:∀ {ws:List (List Int)} {ts:List TN},fitT ws ts=true→ts.map TN.sh=ws∧∀ t∈ts,(t.el.length:Int)=Zad t.sh
 | [],[],_=>⟨rfl,fun t ht=>by cases ht⟩
 | w::ws,t::ts,h=>by
  unfold fitT at h
  simp only [Bool.and_eq_true,beq_iff_eq] at h
  obtain ⟨⟨h1,h2⟩,h3⟩:=h
  obtain ⟨e1,e2⟩:=Zb0 h3
  refine ⟨by rw [List.map_cons,e1,h1],fun x hx => ?_⟩
  rcases List.mem_cons.1 hx with rfl | hx
  ·rw [h2,h1]
  ·exact e2 x hx
 | [],t::ts,h=>by cases h
 | w::ws,[],h=>by cases h
theorem ZiM (ss:List SI) (es:List EI) (in0 in1:List TN):evalR ss es in0 in1=match evalE ss es in0 in1 with | .inl o=>.inl o | .inr x=>.inr x.1:=by
 unfold evalR evalE
 cases hc:ZaA ss es with
 | inr cp=>obtain ⟨c,p⟩:=cp;rfl
 | inl sh=>
  dsimp only
  cases h0:fitT (Zae ss 0) in0 with
  | false=>
   rw [if_pos (.inl rfl),if_pos rfl]
  | true=>
   rw [if_neg (show ¬ (true=false) by decide)]
   cases h1:fitT (Zae ss 1) in1 with
   | false=>rw [if_pos (.inr rfl),if_pos rfl]
   | true=>
    rw [if_neg (by simp),if_neg (show ¬ (true=false) by decide)]
    obtain ⟨ho,hok,_⟩:=ZbI hc
    dsimp only
    rw [ZhF ho ss [] _ 0 0 [] hok (Zb0 h0).1 (Zb0 h1).1]
theorem ZiN {es:List EI} {shF:List (List Int)} {names:Zah} {V:Nat→TN} {root:Nat} (hx:exsOk 0 es=true) (ho:Ahead es) (hl:LetOk es (shN names) shF root) (hn:∀ p∈names,TnOk p.2):
  ∀ (k:Nat),Zac es root k=true→(TnOk (letF es (Zac es root) shF names V (k+1) k)∧(letF es (Zac es root) shF names V (k+1) k).sh=shF.getD k [])∧∀ e,es[k]?=some e→ArgsT e names shF (shF.getD k []) (e.args.map fun a=>letF es (Zac es root) shF names V k a.toNat):=by
 intro k
 induction k using Nat.strongRecOn with
 | _ k ih=>
  intro hk
  obtain ⟨e,he,hc⟩:=hl.2 k hk
  have key:∀ a∈e.args,TnOk (letF es (Zac es root) shF names V k a.toNat)∧(letF es (Zac es root) shF names V k a.toNat).sh=shF.getD a.toNat []:=fun a ha=>by
   have h1:=ho k e he a ha
   have h2:=(ih a.toNat (by omega) (Zbi ho hl.1 k e hk he a ha)).1
   rwa [←ZbJ k (a.toNat+1) (by omega) (by omega)] at h2
  have hmd:(e.args.length:Int)=madeP e.kind:=by
   have:=ZeT es 0 hx k e he
   unfold exOk at this
   rw [Bool.and_eq_true,beq_iff_eq] at this
   exact this.1.symm
  have hA:ArgsT e names shF (shF.getD k []) (e.args.map fun a=>letF es (Zac es root) shF names V k a.toNat):=⟨hc,by
    rw [List.map_map]
    exact List.map_congr_left fun a ha=>(key a ha).2,fun t ht=>by
    obtain ⟨a,ha,rfl⟩:=List.mem_map.1 ht
    exact (key a ha).1,hn,hmd⟩
  have h3:=ZkD hA
  have h4:=ZdO (sh:=shF) (names:=names) (V:=V) hk he (k+1) (by omega)
  refine ⟨⟨by rw [h4];exact h3,by rw [h4]⟩,fun e2 he2 => ?_⟩
  have:e2=e:=by
   rw [he] at he2
   injection he2 with he2
   exact he2.symm
  subst this
  exact hA
end Go.Proofs.YtghlnncfigkkaaaGreatDoor
