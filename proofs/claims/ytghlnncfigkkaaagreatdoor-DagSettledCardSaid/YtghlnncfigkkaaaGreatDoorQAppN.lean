/-
 append of one element of several cells onto a row of the call's own: where the new row lies.
-/
import Derived.Test.YtghlnncfigkkaaaGreatDoorQNum
import Derived.Deep.DeepAppendWide
import Derived.Deep.RegionLaw
import Derived.OwnWalk
import Derived.Test.YtghlnncfigkkaaaGreatDoorQIs
import Derived.Test.YtghlnncfigkkaaaGreatDoorRows
import Derived.Deep.OwnRows
set_option linter.unusedVariables false
set_option linter.unusedSimpArgs false
namespace Go.Proofs.YtghlnncfigkkaaaGreatDoor
open Go.RowKit
def blk (A:Option Addr):Option Nat:=A.map (·.block)
theorem Za4 (A:Option Addr) (n c:Nat):(Value.slice A n c).ownBlock=blk A:=by cases A <;> rfl
def Own (w:World) (base:Nat) (e:TypeId) (A:Option Addr) (cap:Nat) (xs:List Value):Prop:=w.ownsRow base e 1 (.slice A xs.length cap) xs.length xs
section
variable {w w':World} {base:Nat} {e:TypeId} {A:Option Addr} {cap:Nat} {xs:List Value}
theorem Own.nil (w:World) (base:Nat) (e:TypeId):Own w base e none 0 []:=World.ownsRow_nil w base e 1
theorem Own.form (h:Own w base e A cap xs):(A=none∧xs=[])∨∃ g cur,A=some ⟨g,0,none⟩∧base≤g∧w.heap[g]?=some (.cells cur e (0,0))∧xs.length≤cap∧cap≤maxLen∧cur.size=cap∧cur.toList.take xs.length=xs:=by
 rcases h.2 with ⟨d,f⟩ | ⟨g,p,cur,d,i,j,k,l,m,n⟩
 ·injection d with a b c
  exact .inl ⟨a,List.eq_nil_of_length_eq_zero f⟩
 ·injection d with a b c
  subst c;exact .inr ⟨g,cur,a,i,j,k,l,by simpa using m,by simpa using n⟩
theorem Own.lt (h:Own w base e A cap xs):∀ k,blk A=some k→base≤k∧k<w.heap.size:=by
 intro k a
 rcases h.form with ⟨rfl,_⟩ | ⟨g,cur,rfl,b,c,_⟩
 ·simp [blk] at a
 ·simp [blk] at a;subst a;exact ⟨b,(Kab.1 c).1⟩
theorem Own.rd (h:Own w base e A cap xs):Rd w w.heap.size A xs:=by
 rcases h.form with ⟨rfl,rfl⟩ | ⟨g,cur,rfl,c,a,d,f,i,b⟩
 ·exact Rd.nil _ _ _
 ·refine Rd.of_block a (Kab.1 a).1 ⟨cur.toList.drop xs.length,?_⟩;have:=List.take_append_drop xs.length cur.toList;rw [b] at this;exact this
theorem Own.made (w:World) (e:TypeId) (a:base≤w.heap.size):Own (w.alloc (.cells #[] e)) base e (some ⟨w.heap.size,0,none⟩) 0 []:=
 World.ownsRow_made w #[] 0 a (by simp) (by simp)
theorem Own.full (w:World) (e:TypeId) (l:List Value) (a:base≤w.heap.size) (b:l.length≤maxLen):Own (w.alloc (.cells l.toArray e)) base e (some ⟨w.heap.size,0,none⟩) l.length l:=
 ⟨by simp,.inr ⟨w.heap.size,l.length,l.toArray,rfl,a,Kac w _,Kag _,b,by simp,by simp⟩⟩
theorem Own.kept {a:Option Nat} (h:Own w base e A cap xs) (b:w.grownBy w' a) (c:blk A=none∨blk A≠a):Own w' base e A cap xs:=
 World.ownsRow.kept h b (by rw [Za4];exact c)
theorem Own.below {B:Nat} (h:Own w base e A cap xs) (c:Below B w w') (d:∀ k,blk A=some k→k<B):Own w' base e A cap xs:=by
 refine ⟨h.1,?_⟩;rcases h.2 with b | ⟨g,f,cur,b,i,j,r⟩
 ·exact .inl b
 ·refine .inr ⟨g,f,cur,b,i,?_,r⟩;have:blk A=some g:=by injection b with a;rw [a];rfl
  rw [c.block g (d g this)];exact j
theorem Own.next (h:Own w base e A cap xs) (a:Below w.heap.size w w'):Own w' base e A cap xs:=h.below a fun k b=>(h.lt k b).2
theorem Own.alloc (h:Own w base e A cap xs) (o:Obj):Own (w.alloc o) base e A cap xs:=World.ownsRow.alloc h o
theorem Own.more {base':Nat} (h:Own w base e A cap xs) (c:base'≤base):Own w base' e A cap xs:=by
 refine ⟨h.1,?_⟩;rcases h.2 with a | ⟨g,b,cur,a,d,r⟩
 ·exact .inl a
 ·exact .inr ⟨g,b,cur,a,by omega,r⟩
theorem Rd.one (w:World) (e:TypeId) (v:Value):Rd (w.alloc (.cells #[v] e)) (w.heap.size+1) (some ⟨w.heap.size,0,none⟩) [v]:=
 Rd.of_block (Kac w _) (by omega) (by simp)
end
section
variable {P:Program} (w:World)
theorem Zc8 (base:Nat) (t f e:TypeId) (i:TypeInfo) (b:P.underlying t=some (.slice e)) (d:P.info? e=some i) (l:i.size=1)
  (A:Option Addr) (cap:Nat) (xs:List Value) (n:Nat) (h:xs.length=n) (j:Own w base e A cap xs) (c:Nat):
  (Builtin.append_ #[t,t] f #[.slice A n cap,.slice none 0 c]).run P w=.ok (.slice A n cap) w:=by
 subst h;rcases j.2 with ⟨a,m⟩ | ⟨g,p,cur,a,_,_,k,_⟩
 ·rw [a];simp [Builtin.append_,run_underlying b,sizeOf,typeInfo,d,Builtin.lenOf,Builtin.firstCells]
 ·rw [a];simp [Builtin.append_,run_underlying b,sizeOf,typeInfo,d,Builtin.lenOf,Builtin.firstCells,k,storeCells]
theorem ZlP (base:Nat) (t l e:TypeId) (i:TypeInfo) (z:Value) (T:Nat) (p:P.underlying t=some (.slice e)) (q:P.info? e=some i) (V:i.zero=some z)
  (d:i.size=1) (W:i.bytes=T) (a3:z.cells.size=1)
  (A:Option Addr) (cap:Nat) (xs:List Value) (n:Nat) (D:xs.length=n) (v:Own w base e A cap xs)
  (x:Option Addr) (m c B:Nat) (a:List Value) (r:a.length=m) (a4:Rd w B x a) (a5:x=none→m=0) (h1:∀ b∈a,b.oneCell'=true)
  (X:n+m≤maxLen) (Y:((n+m)+(n+m) / 4+192)*T≤281474976710656) (a6:base≤w.heap.size):
  ∃ A' E w',(Builtin.append_ #[t,t] l #[.slice A n cap,.slice x m c]).run P w=.ok (.slice A' (n+m) E) w'∧Own w' base e A' E (xs++a)∧w.grownBy w' (blk A)∧(blk A'=blk A∨blk A'=some w.heap.size):=by
 have b4:(xs++a).length=n+m:=by rw [List.length_append];omega
 have grown:∀ (f:Nat),f<n+m→∀ (Z:Option Nat),
   Own (w.drew.alloc (.cells (xs.toArray++a.toArray++Builtin.zeroCells z.cells (grownCap w (n+m) f e-(n+m))) e)) base e (some ⟨w.heap.size,0,none⟩) (grownCap w (n+m) f e) (xs++a) ∧
   w.grownBy (w.drew.alloc (.cells (xs.toArray++a.toArray++Builtin.zeroCells z.cells (grownCap w (n+m) f e-(n+m))) e)) Z:=by
  intro f _ Z
  have b5:=grownCap_ge w (n+m) f e;have F:grownCap w (n+m) f e≤maxLen:=grownCap_le_maxLen w (n+m) f e X;refine ⟨⟨by simp,.inr ⟨w.heap.size,_,_,rfl,a6,Kac w.drew _,by omega,F,?_,?_⟩⟩,⟨rfl,rfl,rfl,by simp,fun k H _=>Below.heap_alloc w.drew _ k H⟩⟩
  ·simp only [Array.size_append,List.size_toArray,size_zeroCells,a3];omega
  ·simp only [Array.toList_append,Nat.mul_one];exact List.take_left
 cases x with
 | none=>
  obtain rfl:=a5 rfl;have I:a=[]:=List.eq_nil_of_length_eq_zero r;subst I;refine ⟨A,cap,w,Zc8 w base t l e i p q d A cap xs n D v c,by simpa using v,World.grownBy.refl w _,.inl rfl⟩
 | some ad=>
  have J:∀ (j:Nat) (b:Value),a[j]?=some b→w.cell? (ad.add j)=some b:=by
   intro j b y
   rcases a4 with rfl | ⟨a0,o,L,_,a7⟩
   ·simp at y
   ·injection L with L
    subst L;have M:(⟨a0,o,none⟩:Addr).add j=⟨a0,o+j,none⟩:=by unfold Addr.add;split <;> simp_all
    rw [M];exact a7 j b y
  have b6:n+m≤9223372036854775807:=by simp only [maxLen] at X;omega
  rcases v.2 with ⟨N,h0⟩ | ⟨g,E,cur,N,a8,O,b7,F,a9,Q⟩
  ·injection N with R a2 S
   subst R S;have b0:xs=[]:=List.eq_nil_of_length_eq_zero a2;subst b0;obtain rfl:n=0:=by simpa using D.symm
   by_cases b1:m=0
   ·subst b1;have I:a=[]:=List.eq_nil_of_length_eq_zero r;subst I;refine ⟨none,0,w,?_,v,World.grownBy.refl w _,.inl rfl⟩;simp [Builtin.append_,run_underlying p,sizeOf,typeInfo,q,Builtin.lenOf,Builtin.firstCells,loadCells,loadCellsFrom]
   ·have s:=run_append_nil (P:=P) w t l e i z p q V ad m c a (by rw [d,r];omega) J (by omega) (by omega)
     (by rw [W];have a1:=Y;simp only [Nat.zero_add] at a1;exact Kah (Nat.mul_le_mul_right _ (by omega)) a1)
    have h:=grown 0 (by omega) (blk none)
    simp only [Nat.zero_add,List.nil_append,Array.empty_append] at h ⊢;exact ⟨_,_,_,s,h.1,h.2,.inr rfl⟩
  ·injection N with R a2 S
   subst R S;simp only [Nat.mul_one] at a9 Q
   by_cases b2:n+m≤cap
   ·have s:=run_append_room (P:=P) w t l e i p q g n cap cur O ad m c a (by rw [d,r];omega) J h1 b2 (by rw [d];omega)
    refine ⟨_,_,_,s,⟨by simp,.inr ⟨g,cap,_,rfl,a8,setRow_heap w g cur _ e _ O,by omega,F,?_,?_⟩⟩,⟨rfl,rfl,rfl,by simp,fun k _ H=>setRow_other w g k _ (fun e=>H (by simp [blk,e]))⟩,.inl rfl⟩
    ·simp only [List.size_toArray,List.length_append,List.length_take,List.length_drop,Array.length_toList];rw [d];omega
    ·rw [d,Nat.mul_one,Nat.mul_one,←D,Q];exact List.take_left
   ·have b3:∀ (j:Nat) (b:Value),xs[j]?=some b→w.cell? ((⟨g,0,none⟩:Addr).add j)=some b:=fun j b y=>by
     have M:(⟨g,0,none⟩:Addr).add j=⟨g,j,none⟩:=by unfold Addr.add;split <;> simp_all
     rw [M,cell_of_row w g j cur e (0,0) O];have C:(cur.toList.take xs.length)[j]?=some b:=by rw [Q];exact y
     rw [List.getElem?_take] at C;split at C
     ·simpa using C
     ·cases C
    have s:=run_append_grow (P:=P) w t l e i z p q V ⟨g,0,none⟩ n cap xs (by rw [d];omega) b3 ad m c a (by rw [d,r];omega) J (by omega) (by omega) (growslice_fits_wide (by omega) (by rw [W];exact Y))
    have h:=grown cap (by omega) (blk (some ⟨g,0,none⟩))
    exact ⟨_,_,_,s,h.1,h.2,.inr rfl⟩
variable {w}
theorem ZlF {o:Oper} {a:Act} {K:Act→World→Prop} {Q:Exit→Act→World→Prop} (s x:Operand) (t:TypeId)
  (l:o.op=.call { callee:=.builtin .append,args:=#[s,x],argTypes:=#[t,t] })
  (base:Nat) (e:TypeId) (i:TypeInfo) (z:Value) (k:Nat) (p:P.underlying t=some (.slice e)) (q:P.info? e=some i) (r:i.zero=some z)
  (v:i.size=1) (y:i.bytes=k) (C:z.cells.size=1)
  (A:Option Addr) (cap:Nat) (xs:List Value) (n:Nat) (D:xs.length=n) (E:a.eval s=.slice A n cap) (F:Own w base e A cap xs)
  (f:Option Addr) (m c B:Nat) (d:List Value) (H:d.length=m) (I:a.eval x=.slice f m c) (J:Rd w B f d) (L:f=none→m=0) (M:∀ u∈d,u.oneCell'=true)
  (N:n+m≤maxLen) (O:((n+m)+(n+m) / 4+192)*k≤281474976710656) (R:base≤w.heap.size)
  (h:∀ b j w',Own w' base e b j (xs++d)→w.grownBy w' (blk A)→(blk b=blk A∨blk b=some w.heap.size)→K (a.put o.dst (.slice b (n+m) j)) w'):o.wp P a w K Q:=by
 obtain ⟨b,j,w',S,T,V,W⟩:=ZlP (P:=P) w base t o.type e i z k p q r v y C A cap xs n D F f m c B d H J L M N O R;unfold Oper.wp execOp;simp only [l,resolve,invoke,builtin,Sem.run_bind,Sem.run_pure,Result.andThen_ok,List.map_toArray,List.map_cons,List.map_nil,E,I,S];exact h b j w' T V W
theorem Zbu {l:Array Oper} {rest:List Oper} {o:Oper} {a:Act} {Q:Exit→Act→World→Prop} (p:o.guard=none) (s x:Operand) (t:TypeId)
  (q:o.op=.call { callee:=.builtin .append,args:=#[s,x],argTypes:=#[t,t] })
  (base:Nat) (e:TypeId) (i:TypeInfo) (z:Value) (k:Nat) (r:P.underlying t=some (.slice e)) (v:P.info? e=some i) (y:i.zero=some z)
  (C:i.size=1) (D:i.bytes=k) (E:z.cells.size=1)
  (A:Option Addr) (cap:Nat) (xs:List Value) (n:Nat) (F:xs.length=n) (H:a.eval s=.slice A n cap) (I:Own w base e A cap xs)
  (f:Option Addr) (m c B:Nat) (d:List Value) (J:d.length=m) (L:a.eval x=.slice f m c) (M:Rd w B f d) (N:f=none→m=0) (O:∀ u∈d,u.oneCell'=true)
  (R:n+m≤maxLen) (S:((n+m)+(n+m) / 4+192)*k≤281474976710656) (T:base≤w.heap.size)
  (h:∀ b j w',Own w' base e b j (xs++d)→w.grownBy w' (blk A)→(blk b=blk A∨blk b=some w.heap.size)→wpList P l Q rest (a.put o.dst (.slice b (n+m) j)) w'):
  wpList P l Q (o::rest) a w:=
 wpList_plain p fun _ hK=>ZlF s x t q base e i z k r v y C D E A cap xs n F H I f m c B d J L M N O R S T fun b j w' V W X=>hK _ _ (h b j w' V W X)
theorem ZeG {j:Array Oper} {o:Oper} {a:Act} {K:Act→World→Prop} {Q:Exit→Act→World→Prop} {E:Prop} (k:o.guard=none) (s x:Operand) (t:TypeId)
  (l:o.op=.call { callee:=.builtin .append,args:=#[s,x],argTypes:=#[t,t] })
  (base:Nat) (e:TypeId) (i:TypeInfo) (z:Value) (f:Nat) (p:P.underlying t=some (.slice e)) (q:P.info? e=some i) (r:i.zero=some z)
  (v:i.size=1) (y:i.bytes=f) (C:z.cells.size=1)
  (A:Option Addr) (cap:Nat) (xs:List Value) (n:Nat) (D:xs.length=n) (F:a.eval s=.slice A n cap) (H:Own w base e A cap xs)
  (d:Option Addr) (m c B:Nat) (b:List Value) (I:b.length=m) (J:a.eval x=.slice d m c) (L:Rd w B d b) (M:d=none→m=0) (N:∀ u∈b,u.oneCell'=true)
  (O:n+m≤maxLen) (R:((n+m)+(n+m) / 4+192)*f≤281474976710656) (S:base≤w.heap.size)
  (h:∀ A' cap' w',Own w' base e A' cap' (xs++b)→w.grownBy w' (blk A)→(blk A'=blk A∨blk A'=some w.heap.size)→K (a.put o.dst (.slice A' (n+m) cap')) w'):
  if Region.wanted o (yielded j a.tmps)=true then Oper.wp P o a w K Q else E:=by
 have T:Region.wanted o (yielded j a.tmps)=true:=by simp [Region.wanted,k]
 rw [if_pos T];exact ZlF s x t l base e i z f p q r v y C A cap xs n D F H d m c B b I J L M N O R S h
end
theorem Zal {W w w':World} {base:Nat} {A:Option Addr} (h:Below base W w) (a:w.grownBy w' (blk A)) (b:base≤w.heap.size) (c:∀ k,blk A=some k→base≤k):Below base W w':=
 h.grown a b c
theorem ZbY (w:World) (t:Addr) (v:Value) {k:Nat} (h:k≠t.block):(w.setCell t v).heap[k]?=w.heap[k]?:=by
 unfold World.setCell;simp only [Array.getElem?_modify];rw [if_neg (fun e=>h e.symm)]
theorem IsErr.set {w:World} {t:Addr} {x:Value} {d:Array Value} {T:TypeId} {f:Nat × Nat} (i:w.heap[t.block]?=some (.cells d T f)) (j:T≠192):
  ∀ {l:List (ByteArray × Int)} {v:Value} {c:Int},IsErr w v l c→IsErr (w.setCell t x) v l c:=by
 intro l
 induction l with
 | nil=>intro v c h;exact h
 | cons p r ih=>
  intro v c h
  obtain ⟨a,k,rfl,b,m⟩:=h;refine ⟨a,k,rfl,?_,ih m⟩;rw [ZbY w t x (fun e=>by rw [e,i] at b;injection b with b;injection b with _ n;exact j n)]
  exact b
theorem ZeH {P:Program} (w:World) (base:Nat) (t p e:TypeId) (i:TypeInfo) (z:Value) (size O:Nat) (v:P.underlying t=some (.slice e)) (x:P.info? e=some i) (Q:i.zero=some z)
  (h:i.size=size) (a8:0<size) (R:i.bytes=O) (a1:z.cells.size=size)
  (A:Option Addr) (cap n:Nat) (xs:List Value) (S:w.ownsRow base e size (.slice A n cap) n xs)
  (b:Nat) (c:List Value) (l:c.length=size) (a2:∀ (j:Nat) (a:Value),c[j]?=some a→w.cell? ⟨b,j,none⟩=some a) (h1:∀ a∈c,a.oneCell'=true)
  (T:n+1≤maxLen) (V:((n+1)+(n+1) / 4+192)*O≤281474976710656) (a3:base≤w.heap.size):
  ∃ A' y w',(Builtin.append_ #[t,t] p #[.slice A n cap,.slice (some ⟨b,0,none⟩) 1 1]).run P w=.ok (.slice A' (n+1) y) w'∧w'.ownsRow base e size (.slice A' (n+1) y) (n+1) (xs++c)∧w.grownBy w' (blk A)∧(blk A'=blk A∨blk A'=some w.heap.size):=by
 have B:∀ (j:Nat) (a:Value),c[j]?=some a→w.cell? ((⟨b,0,none⟩:Addr).add j)=some a:=by
  intro j a C
  have D:(⟨b,0,none⟩:Addr).add j=⟨b,j,none⟩:=by unfold Addr.add;split <;> simp_all
  rw [D];exact a2 j a C
 have a9:n+1≤9223372036854775807:=by simp only [maxLen] at T;omega
 have q:=S.1;have E:c.length=1*i.size:=by rw [h,l,Nat.one_mul]
 have r:(xs++c).length=(n+1)*size:=by rw [List.length_append,q,l,Nat.succ_mul]
 have grown:∀ (d:Nat),d<n+1→∀ (W:Option Nat),
   (w.drew.alloc (.cells (xs.toArray++c.toArray++Builtin.zeroCells z.cells (grownCap w (n+1) d e-(n+1))) e)).ownsRow base e size (.slice (some ⟨w.heap.size,0,none⟩) (n+1) (grownCap w (n+1) d e)) (n+1) (xs++c) ∧
   w.grownBy (w.drew.alloc (.cells (xs.toArray++c.toArray++Builtin.zeroCells z.cells (grownCap w (n+1) d e-(n+1))) e)) W:=by
  intro d _ W
  have b0:=grownCap_ge w (n+1) d e;have F:grownCap w (n+1) d e≤maxLen:=grownCap_le_maxLen w (n+1) d e T;refine ⟨⟨r,.inr ⟨w.heap.size,_,_,rfl,a3,Kac w.drew _,by omega,F,?_,?_⟩⟩,⟨rfl,rfl,rfl,by simp,fun k H _=>Below.heap_alloc w.drew _ k H⟩⟩
  ·simp only [Array.size_append,List.size_toArray,size_zeroCells,a1,q,l];rw [←Nat.succ_mul,←Nat.add_mul]
   congr 1
   omega
  ·simp only [Array.toList_append];rw [←r];exact List.take_left
 rcases S.2 with ⟨I,h0⟩ | ⟨g,y,cur,I,a4,J,a5,F,X,Y⟩
 ·injection I with L Z M
  subst L M Z;have a6:xs=[]:=List.eq_nil_of_length_eq_zero (by rw [q,Nat.zero_mul])
  subst a6;have m:=run_append_nil (P:=P) w t p e i z v x Q ⟨b,0,none⟩ 1 1 c E B (by omega) (by omega)
   (by rw [R];have a0:=V;simp only [Nat.zero_add] at a0;exact Kah (Nat.mul_le_mul_right _ (by omega)) a0)
  have f:=grown 0 (by omega) (blk none)
  simp only [Nat.zero_add,List.nil_append,Array.empty_append] at f ⊢;exact ⟨_,_,_,m,f.1,f.2,.inr rfl⟩
 ·injection I with L Z M
  subst L M
  by_cases N:n+1≤cap
  ·have m:=run_append_room (P:=P) w t p e i v x g n cap cur J ⟨b,0,none⟩ 1 1 c E B h1 N (by rw [h,X,l,←Nat.succ_mul];exact Nat.mul_le_mul_right _ N)
   refine ⟨_,_,_,m,⟨r,.inr ⟨g,cap,_,rfl,a4,setRow_heap w g cur _ e _ J,by omega,F,?_,?_⟩⟩,⟨rfl,rfl,rfl,by simp,fun k _ H=>setRow_other w g k _ (fun e=>H (by simp [blk,e]))⟩,.inl rfl⟩
   ·have:(n+1)*size≤cap*size:=Nat.mul_le_mul_right _ N;have h5:n*size≤cap*size:=Nat.mul_le_mul_right _ a5;have b1:(n+1)*size=n*size+size:=Nat.succ_mul n size;simp only [List.size_toArray,List.length_append,List.length_take,List.length_drop,Array.length_toList];rw [h,l,X];omega
   ·rw [h,Y,←r];exact List.take_left
  ·have a7:∀ (j:Nat) (a:Value),xs[j]?=some a→w.cell? ((⟨g,0,none⟩:Addr).add j)=some a:=fun j a C=>by
    have D:(⟨g,0,none⟩:Addr).add j=⟨g,j,none⟩:=by unfold Addr.add;split <;> simp_all
    rw [D,cell_of_row w g j cur e (0,0) J];have s:(cur.toList.take (n*size))[j]?=some a:=by rw [Y];exact C
    rw [List.getElem?_take] at s;split at s
    ·simpa using s
    ·cases s
   have m:=run_append_grow (P:=P) w t p e i z v x Q ⟨g,0,none⟩ n cap xs (by rw [h];exact q) a7 ⟨b,0,none⟩ 1 1 c E B (by omega) (by omega) (growslice_fits_wide (by omega) (by rw [R];exact V))
   have f:=grown cap (by omega) (blk (some ⟨g,0,none⟩))
   exact ⟨_,_,_,m,f.1,f.2,.inr rfl⟩
theorem Zei:(Tryz.prog.info? 39).map (fun i=>(i.zero,i.size,i.bytes))=some (some (.int .u64 0),1,8):=by kernel_rfl
theorem Zej (l:List UInt64):∀ u∈l.map U,u.oneCell'=true:=by
 intro v a
 obtain ⟨x,_,rfl⟩:=List.mem_map.1 a;rfl
theorem app64 {w:World} {j:Array Oper} {rest:List Oper} {o:Oper} {a:Act} {Q:Exit→Act→World→Prop} (l:o.guard=none) (s x:Operand)
  (p:o.op=.call { callee:=.builtin .append,args:=#[s,x],argTypes:=#[40,40] }) (base:Nat)
  (A:Option Addr) (cap:Nat) (xs:List UInt64) (n:Nat) (q:xs.length=n) (r:a.eval s=.slice A n cap) (v:Own w base 39 A cap (xs.map U))
  (d:Option Addr) (m c B:Nat) (f:List UInt64) (y:f.length=m) (z:a.eval x=.slice d m c) (C:Rd w B d (f.map U)) (D:d=none→m=0)
  (O:n+m≤26388279066624) (E:base≤w.heap.size)
  (h:∀ b i w',Own w' base 39 b i ((xs++f).map U)→w.grownBy w' (blk A)→(blk b=blk A∨blk b=some w.heap.size)→wpList Tryz.prog j Q rest (a.put o.dst (.slice b (n+m) i)) w'):
  wpList Tryz.prog j Q (o::rest) a w:=by
 obtain ⟨F,H,I,J,L⟩:=info_parts Zei;refine Zbu l s x 40 p base 39 F _ 8 Tryz.underlying40 H I J L rfl A cap (xs.map U) n (by rw [Kak];exact q) r v d m c B (f.map U) (by rw [Kak];exact y) z C D (Zej _) (by simp only [maxLen];omega) (by omega) E ?_
 intro b i w' k M N
 rw [←List.map_append] at k;exact h b i w' k M N
theorem ZbC (w:World) (x:UInt64):Rd (w.alloc (.cells #[U x] 39)) (w.heap.size+1) (some ⟨w.heap.size,0,none⟩) ([x].map U):=Rd.one _ _ _
section
variable {w w':World} {base cap g:Nat} {e:TypeId} {A:Option Addr} {xs:List Value}
theorem Own.cellAt (h:Own w base e (some ⟨g,0,none⟩) cap xs) {i:Nat} {v:Value} (d:xs[i]?=some v):w.cell? ⟨g,i,none⟩=some v:=by
 obtain ⟨b,o,a,_,c⟩:=h.rd.at_ d;injection a with a
 injection a with a f
 subst a f;rw [Nat.zero_add] at c;exact c
theorem ZfY (h:Own w base e A cap xs):xs.length≤cap∧cap≤9223372036854775807:=by
 rcases h.2 with ⟨d,j⟩ | ⟨g,k,cur,d,l,m,f,i,_⟩
 ·injection d with a b c
  subst c;exact ⟨by omega,by omega⟩
 ·injection d with a b c
  subst c;simp only [maxLen] at i;exact ⟨f,by omega⟩
end
theorem ZlQ {w:World} {B:Nat} {A:Option Addr} {l:List UInt64} (h:Rd w B A (l.map U)):A=none→l.length=0:=by
 rintro rfl
 rcases h with h | ⟨b,o,h,_⟩
 ·simpa using h
 ·cases h
end Go.Proofs.YtghlnncfigkkaaaGreatDoor
