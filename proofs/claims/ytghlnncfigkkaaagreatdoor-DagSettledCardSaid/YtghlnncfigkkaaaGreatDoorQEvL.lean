/-
 Evaluation as plain functions over trees of integers and tensors of words.
-/
import Derived.Test.YtghlnncfigkkaaaGreatDoorQChkL
import Derived.Test.YtghlnncfigkkaaaGreatDoorQChkV
import Derived.Test.YtghlnncfigkkaaaGreatDoorQLabL
set_option linter.unusedVariables false
set_option linter.unusedSimpArgs false
namespace Go.Proofs.YtghlnncfigkkaaaGreatDoor
open Go.RowKit
structure TN where
 sh:List Int
 el:List UInt64
def zTN:TN:=⟨[],[]⟩
def atL (l:List UInt64) (i:Nat):UInt64:=if l.length=1 then nthW l 0 else nthW l i
def oneF (k:Int) (num:Nat) (a b:UInt64):UInt64:=
 if k=3 then negW a
 else if k=4 then addW a b
 else if k=5 then subW a b
 else if k=6 then mulW a b
 else if k=8 then (if sltW a b then 1 else 0)
 else if k=9 then sarW a (min num 63)
 else if k=10 then (if sltW a 0 then 0 else a)
 else (if sltW a b then b else a)
def argGo (l:List UInt64):Nat→Nat→Nat
 | 0,best=>best
 | n+1,best=>let i:=l.length-(n+1);argGo l n (if sltW (nthW l best) (nthW l i) then i else best)
def argP (l:List UInt64):Nat:=argGo l l.length 0
def Zbc (k:Int) (num:Nat) (size:Nat) (x:List TN):List UInt64:=
 let x0:=(x.getD 0 zTN).el
 let x1:=(x.getD 1 zTN).el
 let x2:=(x.getD 2 zTN).el
 let q:=((x.getD 1 zTN).sh.headD 0).toNat
 if k=7 then matW x0 x1 (x0.length / q) q (x1.length / q)
 else if k=11 then [x0.foldl addW 0]
 else if k=12 then [UInt64.ofNat (argP x0)]
 else if k=14 then (List.range size).map fun i=>if andW (atL x0 i) 1=1 then atL x1 i else atL x2 i
 else (List.range size).map fun i=>oneF k num (atL x0 i) (atL (x.getLastD zTN).el i)
abbrev Zah:=List (ByteArray × TN)
def findT:Zah→ByteArray→TN
 | [],_=>zTN
 | (t,v)::r,n=>if t.toList=n.toList then v else findT r n
def exprE (e:EI) (size:Nat) (V:Nat→TN) (names:Zah):List UInt64:=
 if e.kind=1 then [UInt64.ofNat e.num]
 else if e.kind=2 then (findT names e.name).el
 else Zbc e.kind e.num size (e.args.map fun a=>V a.toNat)
def letF (es:List EI) (m:Nat→Bool) (sh:List (List Int)) (names:Zah) (V:Nat→TN):Nat→Nat→TN
 | 0=>V
 | n+1=>
  let V':=letF es m sh names V n
  fun a=>if a=n∧m n=true then
   match es[n]? with
   | none=>V' a
   | some e=>⟨sh.getD n [],exprE e (Zad (sh.getD n [])).toNat V' names⟩
  else V' a
def exprR (e:EI) (V:Nat→TN) (names:Zah):TN:=
 if e.kind=1 then ⟨[],[UInt64.ofNat e.num]⟩
 else if e.kind=2 then findT names e.name
 else
  let s:=(Zab e.kind e.num (e.args.map fun a=>(V a.toNat).sh)).1
  ⟨s,Zbc e.kind e.num (Zad s).toNat (e.args.map fun a=>V a.toNat)⟩
def letR (es:List EI) (m:Nat→Bool) (names:Zah):Nat→Nat→TN
 | 0=>fun _=>zTN
 | n+1=>
  let V':=letR es m names n
  fun a=>if a=n∧m n=true then
   match es[n]? with
   | none=>V' a
   | some e=>exprR e V' names
  else V' a
def ZaJ (es:List EI) (sh:List (List Int)) (in0 in1:List TN):List SI→Zah→(Nat→TN)→Nat→Nat→List TN→List TN
 | [],_,_,_,_,out=>out
 | s::ss,names,V,i0,i1,out=>
  if s.kind=1 then
   if s.party=0 then ZaJ es sh in0 in1 ss (names++[(s.name,in0.getD i0 zTN)]) V (i0+1) i1 out
   else ZaJ es sh in0 in1 ss (names++[(s.name,in1.getD i1 zTN)]) V i0 (i1+1) out
  else if s.kind=2 then
   let V':=letF es (Zac es s.expr.toNat) sh names V (s.expr.toNat+1)
   ZaJ es sh in0 in1 ss (names++[(s.name,V' s.expr.toNat)]) V' i0 i1 out
  else ZaJ es sh in0 in1 ss names V i0 i1 (out++[findT names s.name])
def ZaG (es:List EI) (in0 in1:List TN):List SI→Zah→Nat→Nat→List TN→List TN
 | [],_,_,_,out=>out
 | s::ss,names,i0,i1,out=>
  if s.kind=1 then
   if s.party=0 then ZaG es in0 in1 ss (names++[(s.name,in0.getD i0 zTN)]) (i0+1) i1 out
   else ZaG es in0 in1 ss (names++[(s.name,in1.getD i1 zTN)]) i0 (i1+1) out
  else if s.kind=2 then
   ZaG es in0 in1 ss (names++[(s.name,letR es (Zac es s.expr.toNat) names (s.expr.toNat+1) s.expr.toNat)]) i0 i1 out
  else ZaG es in0 in1 ss names i0 i1 (out++[findT names s.name])
def fitT:List (List Int)→List TN→Bool
 | [],[]=>true
 | s::r,t::q=>(s==t.sh&&((t.el.length:Int)==Zad s))&&fitT r q
 | _,_=>false
def evalE (ss:List SI) (es:List EI) (in0 in1:List TN):Sum (List TN) (Nat × Int × Bool):=
 match ZaA ss es with
 | .inr (c,p)=>.inr (c,p,false)
 | .inl sh=>
  if fitT (Zae ss 0) in0=false then .inr (201,0,true)
  else if fitT (Zae ss 1) in1=false then .inr (201,1,true)
  else .inl (ZaJ es sh in0 in1 ss [] (fun _=>zTN) 0 0 [])
def evalR (ss:List SI) (es:List EI) (in0 in1:List TN):Sum (List TN) Nat:=
 match ZaA ss es with
 | .inr (c,p)=>.inr c
 | .inl sh=>
  if fitT (Zae ss 0) in0=false∨fitT (Zae ss 1) in1=false then .inr 201
  else .inl (ZaG es in0 in1 ss [] 0 0 [])
def shN (names:Zah):Names:=names.map fun p=>(p.1,p.2.sh)
theorem Zf7 {names:Zah} {n:ByteArray} {s:List Int} (h:findN (shN names) n=some s):(findT names n).sh=s:=by
 induction names with
 | nil=>cases h
 | cons p r ih=>
  obtain ⟨t,v⟩:=p;have a:(if t.toList=n.toList then some v.sh else findN (shN r) n)=some s:=h
  show (if t.toList=n.toList then v else findT r n).sh=s
  by_cases b:t.toList=n.toList
  ·rw [if_pos b] at a ⊢;injection a
  ·rw [if_neg b] at a ⊢;exact ih a
theorem Zbs (names:Zah) (n:ByteArray) (v:TN):shN (names++[(n,v)])=shN names++[(n,v.sh)]:=by unfold shN;rw [List.map_append];rfl
def TnOk (t:TN):Prop:=Zad t.sh≠0∧(t.el.length:Int)=Zad t.sh
theorem Zbd:Zad []=1:=by decide
theorem Zca {a:Int} (h:Zad [a]≠0):1≤a∧a≤16∧Zad [a]=a:=by
 have b:Zau 1 [a]≠0:=fun e=>h (Zbh e)
 have c:Zad [a]=Zau 1 [a]:=by unfold Zad;rw [if_neg b,if_neg (by simp)]
 unfold Zau at b c;split at b
 ·exact absurd rfl b
 ·rename_i q1
  rw [if_neg q1] at c;split at b
  ·exact absurd rfl b
  ·rename_i q2
   rw [if_neg q2] at c;unfold Zau at c;omega
theorem ZcK {a b:Int} (h:Zad [a,b]≠0):1≤a∧a≤16∧1≤b∧b≤16∧Zad [a,b]=a*b∧a*b≤32:=by
 have c:Zau 1 [a,b]≠0:=fun e=>h (Zbh e)
 have d:Zad [a,b]=Zau 1 [a,b]:=by unfold Zad;rw [if_neg c,if_neg (by simp)]
 unfold Zau at c d;split at c
 ·exact absurd rfl c
 ·rename_i q1
  rw [if_neg q1] at d;split at c
  ·exact absurd rfl c
  ·rename_i q2
   rw [if_neg q2] at d;unfold Zau at c d;split at c
   ·exact absurd rfl c
   ·rename_i q3
    rw [if_neg q3] at d;split at c
    ·exact absurd rfl c
    ·rename_i q4
     rw [if_neg q4] at d;unfold Zau at d;rw [Int.one_mul] at d q4;omega
theorem Zby {l:List Int} (h:Zad l≠0):1≤Zad l∧Zad l≤32:=by
 have a:Zau 1 l≠0:=fun e=>h (Zbh e)
 have b:=ZbQ l 1 (by decide) (by decide)
 have c:Zad l=Zau 1 l:=by
  unfold Zad;rw [if_neg a];split
  ·rename_i h4
   exact absurd (by unfold Zad;rw [if_neg a,if_pos h4]) h
  ·rfl
 omega
theorem Zc2 {l:List Int} (h:Zad l≠0):l=[]∨(∃ a,l=[a])∨∃ a b,l=[a,b]:=by
 have:=ZaX h
 match l,this with
 | [],_=>exact .inl rfl
 | [a],_=>exact .inr (.inl ⟨a,rfl⟩)
 | [a,b],_=>exact .inr (.inr ⟨a,b,rfl⟩)
theorem ZdK {x y:TN} {s:List Int} (r:TnOk x) (i:TnOk y) (g:matP x.sh y.sh=(s,true)) (v:Zad s≠0):
  ∃ m q n:Nat,1≤m∧m≤32∧1≤q∧q≤32∧1≤n∧n≤32∧x.el.length=m*q∧y.el.length=q*n∧y.sh.headD 0=(q:Int)∧y.sh≠[]∧Zad s=((m*n:Nat):Int)∧x.el.length / q=m∧y.el.length / q=n:=by
 unfold matP at g;split at g
 ·injection g with _ g;cases g
 ·rename_i hc
  injection g with g _
  simp only [not_or] at hc;obtain ⟨c1,c2,c3⟩:=hc;have fin:∀ (m q n:Nat),1≤m→m≤32→1≤q→q≤32→1≤n→n≤32→x.el.length=m*q→y.el.length=q*n→y.sh.headD 0=(q:Int)→y.sh≠[]→Zad s=((m*n:Nat):Int) →
    ∃ m q n:Nat,1≤m∧m≤32∧1≤q∧q≤32∧1≤n∧n≤32∧x.el.length=m*q∧y.el.length=q*n∧y.sh.headD 0=(q:Int)∧y.sh≠[]∧Zad s=((m*n:Nat):Int)∧x.el.length / q=m∧y.el.length / q=n:=
   fun m q n D E z F H I B C J L M=>⟨m,q,n,D,E,z,F,H,I,B,C,J,L,M,by rw [B];exact Nat.mul_div_cancel _ z,by rw [C];exact Nat.mul_div_cancel_left _ z⟩
  rcases Zc2 r.1 with e | ⟨a,e⟩ | ⟨a,b,e⟩
  ·exact absurd (by rw [e];rfl) c1
  ·have A:=Zca (a:=a) (by rw [←e];exact r.1)
   have k:=r.2;rw [e,A.2.2] at k;rcases Zc2 i.1 with f | ⟨c,f⟩ | ⟨c,d,f⟩
   ·exact absurd (by rw [f];rfl) c2
   ·have l:=Zca (a:=c) (by rw [←f];exact i.1)
    have h:=i.2;rw [f,l.2.2] at h;rw [e,f] at c3 g;have p:a=c:=Classical.byContradiction c3;have j:s=[]:=g.symm;obtain ⟨q,rfl⟩:=Int.eq_ofNat_of_zero_le (show 0≤a by omega)
    exact fin 1 q 1 (by omega) (by omega) (by omega) (by omega) (by omega) (by omega) (by omega) (by omega) (by rw [f];exact p.symm) (by rw [f];simp) (by rw [j];exact Zbd)
   ·have l:=ZcK (a:=c) (b:=d) (by rw [←f];exact i.1)
    have h:=i.2;rw [f,l.2.2.2.2.1] at h;rw [e,f] at c3 g;have p:a=c:=Classical.byContradiction c3;have j:s=[d]:=g.symm;have t:=Zca (a:=d) (by rw [←j];exact v)
    obtain ⟨q,rfl⟩:=Int.eq_ofNat_of_zero_le (show 0≤a by omega)
    obtain ⟨n,rfl⟩:=Int.eq_ofNat_of_zero_le (show 0≤d by omega)
    subst p;exact fin 1 q n (by omega) (by omega) (by omega) (by omega) (by omega) (by omega) (by omega) (by rw [←Int.natCast_mul] at h;exact Int.ofNat.inj h) (by rw [f];rfl) (by rw [f];simp) (by rw [j,t.2.2,Nat.one_mul])
  ·have A:=ZcK (a:=a) (b:=b) (by rw [←e];exact r.1)
   have k:=r.2;rw [e,A.2.2.2.2.1] at k;rcases Zc2 i.1 with f | ⟨c,f⟩ | ⟨c,d,f⟩
   ·exact absurd (by rw [f];rfl) c2
   ·have l:=Zca (a:=c) (by rw [←f];exact i.1)
    have h:=i.2;rw [f,l.2.2] at h;rw [e,f] at c3 g;have p:b=c:=Classical.byContradiction c3;have j:s=[a]:=g.symm;have t:=Zca (a:=a) (by rw [←j];exact v)
    obtain ⟨m,rfl⟩:=Int.eq_ofNat_of_zero_le (show 0≤a by omega)
    obtain ⟨q,rfl⟩:=Int.eq_ofNat_of_zero_le (show 0≤b by omega)
    subst p;exact fin m q 1 (by omega) (by omega) (by omega) (by omega) (by omega) (by omega) (by rw [←Int.natCast_mul] at k;exact Int.ofNat.inj k) (by omega) (by rw [f];rfl) (by rw [f];simp) (by rw [j,t.2.2,Nat.mul_one])
   ·have l:=ZcK (a:=c) (b:=d) (by rw [←f];exact i.1)
    have h:=i.2;rw [f,l.2.2.2.2.1] at h;rw [e,f] at c3 g;have p:b=c:=Classical.byContradiction c3;have j:s=[a,d]:=g.symm;have t:=ZcK (a:=a) (b:=d) (by rw [←j];exact v)
    obtain ⟨m,rfl⟩:=Int.eq_ofNat_of_zero_le (show 0≤a by omega)
    obtain ⟨q,rfl⟩:=Int.eq_ofNat_of_zero_le (show 0≤b by omega)
    obtain ⟨n,rfl⟩:=Int.eq_ofNat_of_zero_le (show 0≤d by omega)
    subst p;exact fin m q n (by omega) (by omega) (by omega) (by omega) (by omega) (by omega) (by rw [←Int.natCast_mul] at k;exact Int.ofNat.inj k) (by rw [←Int.natCast_mul] at h;exact Int.ofNat.inj h) (by rw [f];rfl) (by rw [f];simp) (by rw [j,t.2.2.2.2.1,←Int.natCast_mul])
def eachP (f:UInt64→UInt64→UInt64) (x y:List UInt64):List UInt64:=
 (List.range (max x.length y.length)).map fun i=>f (nthW x (min i (x.length-1))) (nthW y (min i (y.length-1)))
theorem ZiJ {l:List UInt64} {n i:Nat} (h:l.length=1∨l.length=n) (b:i<n):nthW l (min i (l.length-1))=atL l i:=by
 unfold atL
 by_cases a:l.length=1
 ·rw [if_pos a,a];simp
 ·rw [if_neg a,Nat.min_eq_left (by omega)]
theorem Zd6 {f:UInt64→UInt64→UInt64} {x y:List UInt64} {n:Nat} (b:x.length=1∨x.length=n) (c:y.length=1∨y.length=n) (d:max x.length y.length=n):
  eachP f x y=(List.range n).map fun i=>f (atL x i) (atL y i):=by
 unfold eachP;rw [d];refine List.map_congr_left fun i e => ?_
 have a:=List.mem_range.1 e;rw [ZiJ b a,ZiJ c a]
theorem ZbH (f:UInt64→UInt64→UInt64) (x y:List UInt64):(eachP f x y).length=max x.length y.length:=by unfold eachP;simp
theorem Ze0 {x y:TN} {s:List Int} (e:TnOk x) (f:TnOk y) (a:wideP x.sh y.sh=(s,true)):∃ n:Nat,Zad s=(n:Int)∧1≤n∧n≤32∧(x.el.length=1∨x.el.length=n)∧(y.el.length=1∨y.el.length=n)∧max x.el.length y.el.length=n:=by
 have k:=Zby e.1;have l:=Zby f.1;have c:=e.2;have d:=f.2;unfold wideP at a;split at a
 ·rename_i b
  injection a with a _
  have i:x.sh=[]:=List.eq_nil_of_length_eq_zero b;rw [i,Zbd] at c;refine ⟨y.el.length,by rw [←a];exact d.symm,by omega,by omega,.inl (by omega),.inr rfl,by omega⟩
 ·injection a with g h
  simp only [Bool.or_eq_true,beq_iff_eq] at h;rcases h with b | b
  ·have j:y.sh=[]:=List.eq_nil_of_length_eq_zero b;rw [j,Zbd] at d;exact ⟨x.el.length,by rw [←g];exact c.symm,by omega,by omega,.inr rfl,.inl (by omega),by omega⟩
  ·rw [←b] at d;exact ⟨x.el.length,by rw [←g];exact c.symm,by omega,by omega,.inr rfl,.inr (by omega),by omega⟩
theorem ZkB {e:EI} {names:Zah} {shl:List (List Int)} {s:List Int} {x:List TN} (c:exprC e shl (shN names)=.inl s) (f:x.map TN.sh=e.args.map fun a=>shl.getD a.toNat []) (g:∀ t∈x,TnOk t) (F:∀ p∈names,TnOk p.2) (l:(e.args.length:Int)=madeP e.kind) (H:e.kind≠1) (r:e.kind≠2):
  Zad s≠0∧((Zbc e.kind e.num (Zad s).toNat x).length:Int)=Zad s:=by
 unfold exprC at c;rw [if_neg r] at c;dsimp only at c;split at c
 ·cases c
 ·rename_i hok
  injection c with d
  simp only [not_or] at hok;rw [d] at hok;have I:=Zby hok.2;refine ⟨hok.2,?_⟩;have v:x.length=e.args.length:=by have:=congrArg List.length f;rwa [Kak,Kak] at this
  unfold Zbc;dsimp only
  by_cases i:e.kind=7
  ·rw [if_pos i];rw [i] at l;have y:x.length=2:=by rw [v];have:madeP 7=2:=rfl;omega
   match x,y,f,g with
   | [a,b],_,f,g=>
    have z:Zab e.kind e.num (e.args.map fun a=>shl.getD a.toNat [])=matP a.sh b.sh:=by
     rw [←f,i];rfl
    rw [z] at d hok;have A:matP a.sh b.sh=(s,true):=by
     refine Prod.ext d ?_
     cases h:(matP a.sh b.sh).2 with
     | true=>rfl
     | false=>exact absurd h hok.1
    obtain ⟨m,q,n,_,_,_,_,_,_,_,_,B,_,C,D,E⟩:=ZdK (g a (by simp)) (g b (by simp)) A hok.2
    rw [ZaV]
    show (((a.el.length / (b.sh.headD 0).toNat*(b.el.length / (b.sh.headD 0).toNat)):Nat):Int)=_
    rw [B,Int.toNat_natCast,D,E,C]
  ·rw [if_neg i]
   by_cases j:e.kind=11
   ·rw [if_pos j];have:s=[]:=by rw [←d,j];rfl
    rw [this,Zbd];rfl
   ·rw [if_neg j]
    by_cases k:e.kind=12
    ·rw [if_pos k];have:s=[]:=by rw [←d,k];rfl
     rw [this,Zbd];rfl
    ·rw [if_neg k];split
     ·rw [Kak,List.length_range];omega
     ·rw [Kak,List.length_range];omega
theorem ZkC {names:Zah} {n:ByteArray} {s:List Int} (a:∀ p∈names,TnOk p.2) (h:findN (shN names) n=some s):TnOk (findT names n):=by
 induction names with
 | nil=>cases h
 | cons p r ih=>
  obtain ⟨t,v⟩:=p;unfold findT;unfold shN at h;rw [List.map_cons] at h;unfold findN at h;split
  ·exact a (t,v) (by simp)
  ·rename_i hne
   rw [if_neg hne] at h;exact ih (fun p b=>a p (by simp [b])) h
structure ArgsT (e:EI) (names:Zah) (shF:List (List Int)) (s:List Int) (x:List TN):Prop where
 hc:exprC e shF (shN names)=.inl s
 hx:x.map TN.sh=e.args.map fun a=>shF.getD a.toNat []
 ho:∀ t∈x,TnOk t
 hn:∀ p∈names,TnOk p.2
 hl:(e.args.length:Int)=madeP e.kind
theorem ZkD {e:EI} {names:Zah} {i:List (List Int)} {s:List Int} {V:Nat→TN} (h:ArgsT e names i s (e.args.map fun a=>V a.toNat)):
  TnOk ⟨s,exprE e (Zad s).toNat V names⟩:=by
 by_cases c:e.kind=1
 ·have b:=h.hc;unfold exprC at b;rw [if_neg (by rw [c];decide)] at b
  dsimp only at b;split at b
  ·cases b
  ·injection b with b
   have f:s=[]:=by rw [←b,c];rfl
   subst f;refine ⟨by rw [Zbd];decide,?_⟩
   show ((exprE e _ V names).length:Int)=Zad []
   unfold exprE;rw [if_pos c,Zbd];rfl
 ·by_cases d:e.kind=2
  ·have b:=h.hc;unfold exprC at b;rw [if_pos d] at b
   cases hf:findN (shN names) e.name with
   | none=>rw [hf] at b;cases b
   | some s'=>
    rw [hf] at b;injection b with b
    subst b;have g:=ZkC h.hn hf;have f:=Zf7 hf;unfold TnOk at g ⊢;unfold exprE;rw [if_neg c,if_pos d];rw [f] at g;exact g
  ·obtain ⟨w1,w2⟩:=ZkB h.hc h.hx h.ho h.hn h.hl c d;refine ⟨w1,?_⟩
   show ((exprE e _ V names).length:Int)=Zad s
   unfold exprE;rw [if_neg c,if_neg d];exact w2
def Ahead (es:List EI):Prop:=∀ (i:Nat) (e:EI),es[i]?=some e→∀ b∈e.args,0≤b∧b<(i:Int)
theorem ZeT:∀ (es:List EI) (k:Nat),exsOk k es=true→∀ (i:Nat) (e:EI),es[i]?=some e→exOk (k+i) e=true
 | [],_,_,i,e,h=>by simp at h
 | x::r,k,h,i,e,he=>by
  unfold exsOk at h;rw [Bool.and_eq_true] at h
  cases i with
  | zero=>
   simp only [List.getElem?_cons_zero,Option.some.injEq] at he;subst he;exact h.1
  | succ i=>
   rw [List.getElem?_cons_succ] at he;have:=ZeT r (k+1) h.2 i e he;rwa [Nat.add_right_comm,Nat.add_assoc] at this
theorem ZaU {es:List EI} (h:exsOk 0 es=true):Ahead es:=by
 intro i e d b f
 have c:=ZeT es 0 h i e d;unfold exOk at c;rw [Bool.and_eq_true] at c;have a:=List.all_eq_true.1 c.2 b f;unfold argOk at a;rw [Bool.and_eq_true] at a;have g:=of_decide_eq_true a.1;have j:=of_decide_eq_true a.2;omega
def stepM (es:List EI) (n:Nat) (m:Nat→Bool):Nat→Bool:=fun a=>m a||(m n&&((es[n]?.map EI.args).getD []).any fun b=>b==(a:Int))
theorem Ze1 (es:List EI) (root n:Nat) (m:Nat→Bool):markP es root (n+1) m=markP es root n (stepM es n m):=rfl
theorem ZdL {es:List EI} {n a:Nat} {m:Nat→Bool} (h:Ahead es) (d:n≤a):stepM es n m a=m a:=by
 unfold stepM;have:(((es[n]?.map EI.args).getD []).any fun b=>b==(a:Int))=false:=by
  rw [List.any_eq_false]
  intro b c
  cases he:es[n]? with
  | none=>rw [he] at c;simp at c
  | some e=>
   rw [he] at c;have:=(h n e he b c).2;simp only [beq_iff_eq];omega
 rw [this,Bool.and_false,Bool.or_false]
theorem Zd7 {es:List EI} {root:Nat} (h:Ahead es):∀ (n:Nat) (m:Nat→Bool) (j:Nat),n≤j+1→markP es root n m j=m j
 | 0,m,j,_=>rfl
 | n+1,m,j,hj=>by rw [Ze1,Zd7 h n _ j (by omega),ZdL h (by omega)]
theorem Zdv {es:List EI} {root:Nat} (h:Ahead es):∀ (n:Nat) (m:Nat→Bool) (j:Nat) (e:EI) (b:Nat),j<n→markP es root n m j=true→es[j]?=some e→(b:Int)∈e.args→markP es root n m b=true
 | 0,m,j,e,b,hj,_,_,_=>by omega
 | n+1,m,j,e,b,hj,hm,he,hb=>by
  rw [Ze1] at hm ⊢
  by_cases a:j=n
  ·subst a;rw [Zd7 h j _ j (by omega),ZdL h (Kag _)] at hm
   refine Zdd _ _ ?_;unfold stepM;rw [hm,he];simp only [Option.map_some,Option.getD_some,Bool.true_and,Bool.or_eq_true];exact .inr (List.any_eq_true.2 ⟨_,hb,by simp⟩)
  ·exact Zdv h n _ j e b (by omega) hm he hb
theorem ZiK {n:Nat} {s:SI} (h:smOk n s=true):s.kind=1∨s.kind=2∨s.kind=3:=by
 unfold smOk at h;simp only [Bool.or_eq_true,Bool.and_eq_true,beq_iff_eq] at h;omega
theorem Zbz {ss:List SI} {es:List EI} {sh:List (List Int)} (h:ZaA ss es=.inl sh):treeP ss es=true∧Zaj es ss [] (es.map fun _=>[]) 0=.inl sh:=by
 unfold ZaA at h;split at h
 ·rename_i ht;exact ⟨ht,h⟩
 ·cases h
theorem Zde {es:List EI} {b:List (List Int)}:∀ (ss:List SI) (names:Names) (sh:List (List Int)) (a:Nat),Zaj es ss names sh a=.inl b→b.length=sh.length
 | [],names,sh,a,h=>by injection h with h;rw [h]
 | s::ss,names,sh,a,h=>by
  unfold Zaj at h;dsimp only at h
  repeat' split at h
  all_goals first
   | exact Zde ss _ _ _ h
   | cases h
   | (rename_i x hx _;rw [Zde ss _ _ _ h];exact Zcp _ _ _ _ hx)
theorem ZhA {ss:List SI} {es:List EI} {sh:List (List Int)} (h:ZaA ss es=.inl sh):sh.length=es.length:=by
 unfold ZaA at h;split at h
 ·rw [Zde _ _ _ _ h,Kak]
 ·cases h
structure Done (es:List EI) (names:Names) (sh:List (List Int)) (D:Nat→Prop):Prop where
 at_:∀ k,D k→∃ e,es[k]?=some e∧(∀ a∈e.args,D a.toNat)∧exprC e sh names=.inl (sh.getD k [])
theorem Zdf {e:EI} {sh b:List (List Int)} {names:Names} (h:∀ a∈e.args,b.getD a.toNat []=sh.getD a.toNat []):exprC e b names=exprC e sh names:=by
 have:(e.args.map fun a=>b.getD a.toNat [])=e.args.map fun a=>sh.getD a.toNat []:=List.map_congr_left fun a c=>h a c
 unfold exprC;rw [this]
theorem Zgl {sh:List (List Int)} {k j:Nat} {s:List Int} (h:k≠j):(sh.set k s).getD j []=sh.getD j []:=by
 rw [List.getD_eq_getElem?_getD,List.getD_eq_getElem?_getD,List.getElem?_set_ne h]
theorem ZdM {sh:List (List Int)} {k:Nat} {s:List Int} (h:k<sh.length):(sh.set k s).getD k []=s:=by
 rw [List.getD_eq_getElem?_getD,List.getElem?_set_self h];rfl
theorem ZdN {es:List EI} {m:Nat→Bool} {names:Names} (x:Ahead es) (y:∀ k e,m k=true→es[k]?=some e→∀ a∈e.args,m a.toNat=true):
  ∀ (n k:Nat) (sh l:List (List Int)) (D:Nat→Prop),k+n≤es.length→sh.length=es.length→Done es names sh D→(∀ j,m j=true→j<k→D j)→Zay es m names n k sh=.inl l →
   Done es names l (fun j=>D j∨(m j=true∧j<k+n))∧∀ j,D j→l.getD j []=sh.getD j []
 | 0,k,sh,l,D,_,_,hD,hj,h=>by
  have:sh=l:=by injection h
  subst this;refine ⟨⟨fun j p => ?_⟩,fun j _=>rfl⟩
  have i:D j:=p.elim id fun h=>hj j h.1 (by omega)
  obtain ⟨e,b,g,d⟩:=hD.at_ j i;exact ⟨e,b,fun a f=>.inl (g a f),d⟩
 | n+1,k,sh,l,D,hkn,hl,hD,hj,h=>by
  have z:=fun (sh:List (List Int)) (D:Nat→Prop)=>ZdN (es:=es) (m:=m) (names:=names) x y n (k+1) sh l D (by omega)
  unfold Zay at h
  cases hk:m k with
  | false=>
   rw [hk] at h;simp only [Bool.false_eq_true,if_false] at h;have r:=z sh D hl hD (fun j b g=>by
    rcases Nat.lt_or_ge j k with d | d
    ·exact hj j b d
    ·have:j=k:=by omega
     rw [this,hk] at b
     cases b) h
   refine ⟨⟨fun j p => ?_⟩,r.2⟩
   obtain ⟨e,b,g,d⟩:=r.1.at_ j (p.imp_right fun h=>⟨h.1,by omega⟩)
   exact ⟨e,b,fun a f=>(g a f).imp_right fun h=>⟨h.1,by omega⟩,d⟩
  | true=>
   rw [hk] at h;simp only [if_true] at h;have q:es[k]?=some (es[k]'(by omega)):=Kad _
   obtain ⟨e,C⟩:=Ky (es[k]'(by omega))
   rw [←C] at q;rw [q] at h;dsimp only at h
   cases hc:exprC e sh names with
   | inr c=>rw [hc] at h;cases h
   | inl s=>
    rw [hc] at h;dsimp only at h;have t:∀ j,D j→(sh.set k s).getD j []=sh.getD j []:=fun j i=>by
     by_cases A:k=j
     ·subst A;obtain ⟨v,b,g,d⟩:=hD.at_ k i;rw [q] at b;injection b with b
      subst b;rw [hc] at d;injection d with d
      rw [ZdM (by omega),d]
     ·exact Zgl A
    have B:∀ a∈e.args,D a.toNat:=fun a f=>hj _ (y k e hk q a f) (by have:=x k e q a f;omega)
    have E:Done es names (sh.set k s) (fun j=>D j∨j=k):=by
     refine ⟨fun j p => ?_⟩
     rcases p with i | rfl
     ·obtain ⟨v,b,g,d⟩:=hD.at_ j i;exact ⟨v,b,fun a f=>.inl (g a f),by rw [Zdf (fun a f=>t _ (g a f)),d,t j i]⟩
     ·exact ⟨e,q,fun a f=>.inl (B a f),by rw [Zdf (fun a f=>t _ (B a f)),hc,ZdM (by omega)]⟩
    have r:=z (sh.set k s) (fun j=>D j∨j=k) (by rw [List.length_set];exact hl) E (fun j b g=>by
     rcases Nat.lt_or_ge j k with d | d
     ·exact .inl (hj j b d)
     ·exact .inr (by omega)) h
    refine ⟨⟨fun j p => ?_⟩,fun j i=>(r.2 j (.inl i)).trans (t j i)⟩
    have F:(D j∨j=k)∨(m j=true∧j<k+1+n):=by
     rcases p with b | b
     ·exact .inl (.inl b)
     ·exact .inr ⟨b.1,by omega⟩
    obtain ⟨v,b,g,d⟩:=r.1.at_ j F;refine ⟨v,b,fun a f => ?_,d⟩
    rcases g a f with (h | h) | h
    ·exact .inl h
    ·exact .inr ⟨by rw [h];exact hk,by omega⟩
    ·exact .inr ⟨h.1,by omega⟩
theorem ZhB {names:Names} {n:ByteArray} {s:List Int} (h:findN names n=some s) (q:Names):findN (names++q) n=some s:=by
 induction names with
 | nil=>cases h
 | cons p r ih=>
  obtain ⟨t,b⟩:=p;have a:(if t.toList=n.toList then some b else findN r n)=some s:=h
  show (if t.toList=n.toList then some b else findN (r++q) n)=some s
  by_cases c:t.toList=n.toList
  ·rw [if_pos c] at a ⊢;exact a
  ·rw [if_neg c] at a ⊢;exact ih a
theorem ZhC {e:EI} {sh:List (List Int)} {names:Names} {s:List Int} (h:exprC e sh names=.inl s) (q:Names):exprC e sh (names++q)=.inl s:=by
 unfold exprC at h ⊢
 by_cases a:e.kind=2
 ·rw [if_pos a] at h ⊢
  cases hf:findN names e.name with
  | none=>rw [hf] at h;cases h
  | some s'=>
   rw [hf] at h;rw [ZhB hf q];exact h
 ·rw [if_neg a] at h ⊢;exact h
theorem Done.grow {es:List EI} {names:Names} {sh:List (List Int)} {D:Nat→Prop} (h:Done es names sh D) (q:Names):Done es (names++q) sh D:=
 ⟨fun k a=>by
  obtain ⟨e,b,c,d⟩:=h.at_ k a;exact ⟨e,b,c,ZhC d q⟩⟩
theorem Zbi {es:List EI} (c:Ahead es) {root:Nat} (h:root<es.length):∀ k e,Zac es root k=true→es[k]?=some e→∀ a∈e.args,Zac es root a.toNat=true:=by
 intro k e b d a f
 have g:=c k e d a f
 by_cases i:k≤root
 ·unfold Zac at b ⊢;refine Zdv c (root+1) _ k e a.toNat (by omega) b d ?_
  rw [Int.toNat_of_nonneg g.1];exact f
 ·-- nothing beyond the root is marked
  unfold Zac at b;rw [Zd7 c (root+1) _ k (by omega)] at b
  simp at b;omega
theorem ZcL {es:List EI} (b:Ahead es) {root k:Nat} (h:Zac es root k=true):k≤root:=by
 rcases Nat.lt_or_ge root k with a | a
 ·unfold Zac at h;rw [Zd7 b (root+1) _ k (by omega)] at h
  simp at h;omega
 ·exact a
def LetOk (es:List EI) (names:Names) (shF:List (List Int)) (root:Nat):Prop:=root<es.length∧∀ k,Zac es root k=true→∃ e,es[k]?=some e∧exprC e shF names=.inl (shF.getD k [])
def Zas (es:List EI) (shF:List (List Int)):List SI→Names→Prop
 | [],_=>True
 | s::r,names=>
  if s.kind=1 then (s.party=0∨s.party=1)∧Zad s.shape≠0∧ZaC names s.name=false∧Zas es shF r (names++[(s.name,s.shape)])
  else if s.kind=2 then LetOk es names shF s.expr.toNat∧ZaC names s.name=false∧Zas es shF r (names++[(s.name,shF.getD s.expr.toNat [])])
  else (findN names s.name).isSome=true∧Zas es shF r names
theorem ZhD {es:List EI} {i:List (List Int)} (l:Ahead es):∀ (ss:List SI) (names:Names) (sh:List (List Int)) (n:Nat) (D:Nat→Prop),(∀ s∈ss,smOk es.length s=true)→sh.length=es.length→Done es names sh D→Zaj es ss names sh n=.inl i →
  Zas es i ss names∧∀ j,D j→i.getD j []=sh.getD j []:=by
 intro ss
 induction ss with
 | nil=>
  intro names sh n D _ _ _ h
  have:sh=i:=by injection h
  subst this;exact ⟨trivial,fun j _=>rfl⟩
 | cons s r ih=>
  intro names sh n D B m p h
  have q:=fun t E=>B t (List.mem_cons.2 (.inr E))
  have d:=B s (List.mem_cons.2 (.inl rfl));unfold Zas;rcases ZiK d with b | b | b
  ·rw [if_pos b];rw [ZeN _ _ _ _ b] at h;split at h
   ·cases h
   ·rename_i q1
    split at h
    ·cases h
    ·rename_i q2
     split at h
     ·cases h
     ·have f:=ih _ _ _ D q m (p.grow _) h;exact ⟨⟨by
       rcases Classical.em (s.party=0) with x | x
       ·exact .inl x
       ·rcases Classical.em (s.party=1) with g | g
        ·exact .inr g
        ·exact absurd (.inl ⟨x,g⟩) q1,fun e=>q1 (.inr e),by simpa using q2,f.1⟩,f.2⟩
  ·rw [if_neg (by rw [b];decide),if_pos b]
   have y:s.expr.toNat<es.length:=by
    unfold smOk at d;rw [b] at d;simp only [Bool.or_eq_true,Bool.and_eq_true,decide_eq_true_eq] at d;rcases d with (d | d) | d
    ·cases d
    ·cases d
    ·omega
   rw [ZeO _ _ _ _ b] at h
   cases hc:Zay es (Zac es s.expr.toNat) names (s.expr.toNat+1) 0 sh with
   | inr c=>rw [hc] at h;cases h
   | inl sh1=>
    rw [hc] at h;dsimp only at h;have F:sh1.length=es.length:=(Zcp _ _ _ _ hc).trans m;have z:=ZdN l (Zbi l y) _ 0 sh sh1 D (by omega) m p (fun j _ H=>by omega) hc
    split at h
    ·cases h
    ·rename_i q2
     have f:=ih _ _ _ _ q F (z.1.grow _) h;have A:∀ k,Zac es s.expr.toNat k=true→i.getD k []=sh1.getD k []:=fun k b=>f.2 k (.inr ⟨b,by have:=ZcL l b;omega⟩)
     refine ⟨⟨⟨y,fun k b => ?_⟩,by simpa using q2,?_⟩,fun j C=>(f.2 j (.inl C)).trans (z.2 j C)⟩
     ·obtain ⟨e,g,H,I⟩:=z.1.at_ k (.inr ⟨b,by have:=ZcL l b;omega⟩)
      refine ⟨e,g,?_⟩;rw [Zdf (fun a J=>A _ (Zbi l y k e b g a J)),I,A k b]
     ·rw [A _ (ZaI _ _)];exact f.1
  ·rw [if_neg (by rw [b];decide),if_neg (by rw [b];decide)]
   rw [ZeP _ _ _ _ b] at h;split at h
   ·cases h
   ·rename_i q1
    have f:=ih _ _ _ D q m p h;refine ⟨⟨?_,f.1⟩,f.2⟩
    cases hf:findN names s.name with
    | none=>rw [hf] at q1;exact absurd rfl q1
    | some v=>rfl
theorem ZbI {ss:List SI} {es:List EI} {b:List (List Int)} (h:ZaA ss es=.inl b):Ahead es∧Zas es b ss []∧b.length=es.length:=by
 have e:=ZhA h;obtain ⟨a,c⟩:=Zbz h;have d:exsOk 0 es=true:=by unfold treeP at a;rw [Bool.and_eq_true] at a;exact a.1
 have f:ss.all (smOk es.length)=true:=by unfold treeP at a;rw [Bool.and_eq_true] at a;exact a.2
 exact ⟨ZaU d,(ZhD (ZaU d) ss [] _ 0 (fun _=>False) (fun s c=>List.all_eq_true.1 f s c) (by rw [Kak]) ⟨fun k g=>g.elim⟩ c).1,e⟩
theorem ZcM (es:List EI) (m:Nat→Bool) (sh:List (List Int)) (names:Zah) (V:Nat→TN) (n a:Nat):letF es m sh names V (n+1) a=if a=n∧m n=true then (match es[n]? with | none=>letF es m sh names V n a | some e=>⟨sh.getD n [],exprE e (Zad (sh.getD n [])).toNat (letF es m sh names V n) names⟩) else letF es m sh names V n a:=rfl
theorem Zcb (es:List EI) (m:Nat→Bool) (names:Zah) (n a:Nat):letR es m names (n+1) a=if a=n∧m n=true then (match es[n]? with | none=>letR es m names n a | some e=>exprR e (letR es m names n) names) else letR es m names n a:=rfl
theorem ZdO {es:List EI} {m:Nat→Bool} {sh:List (List Int)} {names:Zah} {V:Nat→TN} {k:Nat} {e:EI} (a:m k=true) (b:es[k]?=some e):∀ (n:Nat),k<n→letF es m sh names V n k=⟨sh.getD k [],exprE e (Zad (sh.getD k [])).toNat (letF es m sh names V k) names⟩
 | 0,h=>by omega
 | n+1,h=>by
  rw [ZcM]
  by_cases c:k=n
  ·subst c;rw [if_pos ⟨rfl,a⟩,b]
  ·rw [if_neg (fun e=>c e.1)]
   exact ZdO a b n (by omega)
theorem ZbJ {es:List EI} {m:Nat→Bool} {sh:List (List Int)} {names:Zah} {V:Nat→TN} {a:Nat}:∀ (n k:Nat),a<k→k≤n→letF es m sh names V n a=letF es m sh names V k a
 | 0,k,h,hk=>by omega
 | n+1,k,h,hk=>by
  by_cases b:k=n+1
  ·rw [b]
  ·have:letF es m sh names V (n+1) a=letF es m sh names V n a:=by
    rw [ZcM,if_neg (by omega)]
   rw [this];exact ZbJ n k h (by omega)
theorem ZiL {es:List EI} {m:Nat→Bool} {names:Zah} {k:Nat} {e:EI} (a:m k=true) (b:es[k]?=some e):∀ (n:Nat),k<n→letR es m names n k=exprR e (letR es m names k) names
 | 0,h=>by omega
 | n+1,h=>by
  rw [Zcb]
  by_cases c:k=n
  ·subst c;rw [if_pos ⟨rfl,a⟩,b]
  ·rw [if_neg (fun e=>c e.1)]
   exact ZiL a b n (by omega)
theorem Zcc {es:List EI} {m:Nat→Bool} {names:Zah} {a:Nat}:∀ (n k:Nat),a<k→k≤n→letR es m names n a=letR es m names k a
 | 0,k,h,hk=>by omega
 | n+1,k,h,hk=>by
  by_cases b:k=n+1
  ·rw [b]
  ·have:letR es m names (n+1) a=letR es m names n a:=by
    rw [Zcb,if_neg (by omega)]
   rw [this];exact Zcc n k h (by omega)
theorem ZeU {es:List EI} {sh:List (List Int)} {names:Zah} {V:Nat→TN} {root:Nat} (h:Ahead es) (j:LetOk es (shN names) sh root):∀ (k:Nat),Zac es root k=true→letF es (Zac es root) sh names V (root+1) k=letR es (Zac es root) names (root+1) k:=by
 intro k
 induction k using Nat.strongRecOn with
 | _ k ih=>
  intro f
  have q:=ZcL h f;obtain ⟨e,g,b⟩:=j.2 k f;rw [ZdO f g _ (by omega),ZiL f g _ (by omega)]
  have m:(e.args.map fun a=>letF es (Zac es root) sh names V k a.toNat)=e.args.map fun a=>letR es (Zac es root) names k a.toNat:=List.map_congr_left fun a i=>by
   have d:=h k e g a i;have c:=ih a.toNat (by omega) (Zbi h j.1 k e f g a i)
   rw [ZbJ (root+1) k (by omega) (by omega),Zcc (root+1) k (by omega) (by omega)] at c
   exact c
  have n:(e.args.map fun a=>(letR es (Zac es root) names k a.toNat).sh)=e.args.map fun a=>sh.getD a.toNat []:=List.map_congr_left fun a i=>by
   have d:=h k e g a i;have l:=Zbi h j.1 k e f g a i;obtain ⟨r,p,_⟩:=j.2 _ l;have c:=ih a.toNat (by omega) l
   rw [ZbJ (root+1) k (by omega) (by omega),Zcc (root+1) k (by omega) (by omega)] at c
   show (letR es (Zac es root) names k a.toNat).sh=_
   rw [←c,ZdO l p _ (by omega)]
  unfold exprC at b;unfold exprE exprR
  by_cases d:e.kind=1
  ·rw [if_neg (by rw [d];decide)] at b
   dsimp only at b;rw [if_pos d,if_pos d];split at b
   ·cases b
   ·injection b with b
    rw [←b];unfold Zab;rw [d];rfl
  ·rw [if_neg d,if_neg d]
   by_cases c:e.kind=2
   ·rw [if_pos c] at b;rw [if_pos c,if_pos c]
    cases hf:findN (shN names) e.name with
    | none=>rw [hf] at b;cases b
    | some s=>
     rw [hf] at b;injection b with b
     rw [←b,←Zf7 hf]
   ·rw [if_neg c] at b;rw [if_neg c,if_neg c];dsimp only at b ⊢;split at b
    ·cases b
    ·injection b with b
     rw [n,b,m]
theorem ZhE {s:SI} {r:List SI} {p:Int} (a:s.kind=1) (b:s.party=p):Zae (s::r) p=s.shape::Zae r p:=by
 unfold Zae;rw [List.filter_cons,if_pos (by rw [a,b];simp)]
 rfl
theorem Zgm {s:SI} {r:List SI} {p:Int} (h:s.kind≠1∨s.party≠p):Zae (s::r) p=Zae r p:=by
 unfold Zae;rw [List.filter_cons,if_neg (by
  simp only [Bool.and_eq_true,beq_iff_eq,not_and]
  intro a b
  rcases h with h | h
  ·exact h a
  ·exact h b)]
def Left (ss:List SI) (p:Int) (l:List TN) (i:Nat):Prop:=(l.drop i).map TN.sh=Zae ss p
theorem Left.take {s:SI} {r:List SI} {p:Int} {l:List TN} {i:Nat} (h:Left (s::r) p l i) (b:s.kind=1) (c:s.party=p):(l.getD i zTN).sh=s.shape∧Left r p l (i+1)∧i<l.length:=by
 unfold Left at h ⊢;rw [ZhE b c] at h;rcases Nat.lt_or_ge i l.length with a | a
 ·rw [List.drop_eq_getElem_cons a,List.map_cons] at h;injection h with d e
  refine ⟨?_,e,a⟩;rw [List.getD_eq_getElem?_getD,Kad a];exact d
 ·rw [List.drop_eq_nil_of_le a] at h
  cases h
theorem Left.skip {s:SI} {r:List SI} {p:Int} {l:List TN} {i:Nat} (h:Left (s::r) p l i) (a:s.kind≠1∨s.party≠p):Left r p l i:=by
 unfold Left at h ⊢;rw [Zgm a] at h;exact h
theorem ZhF {es:List EI} {sh:List (List Int)} {in0 in1:List TN} (p:Ahead es):∀ (ss:List SI) (names:Zah) (V:Nat→TN) (f g:Nat) (k:List TN),Zas es sh ss (shN names)→Left ss 0 in0 f→Left ss 1 in1 g →
  ZaJ es sh in0 in1 ss names V f g k=ZaG es in0 in1 ss names f g k:=by
 intro ss
 induction ss with
 | nil=>intros;rfl
 | cons s r ih=>
  intro names V f g k b h i
  unfold Zas at b;unfold ZaJ ZaG
  by_cases a:s.kind=1
  ·rw [if_pos a] at b;rw [if_pos a,if_pos a];obtain ⟨q,_,_,j⟩:=b
   by_cases c:s.party=0
   ·rw [if_pos c,if_pos c];obtain ⟨l,m,_⟩:=h.take a c;refine ih _ _ _ _ _ ?_ m (i.skip (.inr (by omega)))
    rw [Zbs,l];exact j
   ·rw [if_neg c,if_neg c];obtain ⟨l,m,_⟩:=i.take a (q.resolve_left c);refine ih _ _ _ _ _ ?_ (h.skip (.inr c)) m;rw [Zbs,l];exact j
  ·rw [if_neg a] at b;rw [if_neg a,if_neg a]
   by_cases d:s.kind=2
   ·rw [if_pos d] at b;rw [if_pos d,if_pos d];obtain ⟨n,_,j⟩:=b;dsimp only;have t:=ZeU (V:=V) p n _ (ZaI es s.expr.toNat);rw [←t];refine ih _ _ _ _ _ ?_ (h.skip (.inl a)) (i.skip (.inl a));rw [Zbs];obtain ⟨e,v,_⟩:=n.2 _ (ZaI es s.expr.toNat);rw [ZdO (ZaI es s.expr.toNat) v _ (Nat.lt_succ_self _)];exact j
   ·rw [if_neg d] at b;rw [if_neg d,if_neg d];exact ih _ _ _ _ _ b.2 (h.skip (.inl a)) (i.skip (.inl a))
theorem Zb0:∀ {ws:List (List Int)} {ts:List TN},fitT ws ts=true→ts.map TN.sh=ws∧∀ t∈ts,(t.el.length:Int)=Zad t.sh
 | [],[],_=>⟨rfl,fun t c=>by cases c⟩
 | w::ws,t::ts,h=>by
  unfold fitT at h;simp only [Bool.and_eq_true,beq_iff_eq] at h;obtain ⟨⟨b,d⟩,e⟩:=h;obtain ⟨f,g⟩:=Zb0 e;refine ⟨by rw [List.map_cons,f,b],fun x a => ?_⟩
  rcases List.mem_cons.1 a with rfl | a
  ·rw [d,b]
  ·exact g x a
 | [],t::ts,h=>by cases h
 | w::ws,[],h=>by cases h
theorem ZiM (ss:List SI) (es:List EI) (in0 in1:List TN):evalR ss es in0 in1=match evalE ss es in0 in1 with | .inl o=>.inl o | .inr x=>.inr x.1:=by
 unfold evalR evalE
 cases hc:ZaA ss es with
 | inr cp=>obtain ⟨c,p⟩:=cp;rfl
 | inl sh=>
  dsimp only
  cases h0:fitT (Zae ss 0) in0 with
  | false=>
   rw [if_pos (.inl rfl),if_pos rfl]
  | true=>
   rw [if_neg (show ¬ (true=false) by decide)]
   cases h1:fitT (Zae ss 1) in1 with
   | false=>rw [if_pos (.inr rfl),if_pos rfl]
   | true=>
    rw [if_neg (by simp),if_neg (show ¬ (true=false) by decide)]
    obtain ⟨a,b,_⟩:=ZbI hc;dsimp only;rw [ZhF a ss [] _ 0 0 [] b (Zb0 h0).1 (Zb0 h1).1]
theorem ZiN {es:List EI} {b:List (List Int)} {names:Zah} {V:Nat→TN} {root:Nat} (n:exsOk 0 es=true) (h:Ahead es) (i:LetOk es (shN names) b root) (q:∀ p∈names,TnOk p.2):
  ∀ (k:Nat),Zac es root k=true→(TnOk (letF es (Zac es root) b names V (k+1) k)∧(letF es (Zac es root) b names V (k+1) k).sh=b.getD k [])∧∀ e,es[k]?=some e→ArgsT e names b (b.getD k []) (e.args.map fun a=>letF es (Zac es root) b names V k a.toNat):=by
 intro k
 induction k using Nat.strongRecOn with
 | _ k ih=>
  intro g
  obtain ⟨e,d,r⟩:=i.2 k g;have j:∀ a∈e.args,TnOk (letF es (Zac es root) b names V k a.toNat)∧(letF es (Zac es root) b names V k a.toNat).sh=b.getD a.toNat []:=fun a c=>by
   have A:=h k e d a c;have s:=(ih a.toNat (by omega) (Zbi h i.1 k e g d a c)).1
   rwa [←ZbJ k (a.toNat+1) (by omega) (by omega)] at s
  have v:(e.args.length:Int)=madeP e.kind:=by
   have:=ZeT es 0 n k e d;unfold exOk at this;rw [Bool.and_eq_true,beq_iff_eq] at this;exact this.1.symm
  have l:ArgsT e names b (b.getD k []) (e.args.map fun a=>letF es (Zac es root) b names V k a.toNat):=⟨r,by
    rw [List.map_map];exact List.map_congr_left fun a c=>(j a c).2,fun t x=>by
    obtain ⟨a,c,rfl⟩:=List.mem_map.1 x;exact (j a c).1,q,v⟩
  have y:=ZkD l;have m:=ZdO (sh:=b) (names:=names) (V:=V) g d (k+1) (by omega)
  refine ⟨⟨by rw [m];exact y,by rw [m]⟩,fun z f => ?_⟩
  have:z=e:=by
   rw [d] at f;injection f with f
   exact f.symm
  subst this;exact l
end Go.Proofs.YtghlnncfigkkaaaGreatDoor
