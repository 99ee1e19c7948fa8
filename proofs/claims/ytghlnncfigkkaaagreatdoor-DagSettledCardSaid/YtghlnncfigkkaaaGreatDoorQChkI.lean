/-
 Walk of check.Inputs.
-/
import Derived.Test.YtghlnncfigkkaaaGreatDoorQChkB
import Derived.Test.YtghlnncfigkkaaaGreatDoorQChkV
import Derived.Deep.RegionLaw
import Derived.Deep.RegionWith
set_option linter.unusedVariables false
set_option linter.unusedSimpArgs false
namespace Go.Proofs.YtghlnncfigkkaaaGreatDoor
open Go.RowKit
def RdSh (w:World) (A:Option Addr) (xs:List (List Int)):Prop:=xs=[]∨∃ b o,A=some ⟨b,o,none⟩∧b<w.heap.size∧∀ (j:Nat) (l:List Int),xs[j]?=some l→∃ A' c,w.cell? ⟨b,o+j,none⟩=some (.slice A' l.length c)∧Rd w w.heap.size A' (l.map VI)∧l.length≤1000000
theorem RdSh.next {w w':World} {A:Option Addr} {xs:List (List Int)} (h:RdSh w A xs) (a:Below w.heap.size w w'):RdSh w' A xs:=by
 rcases h with h | ⟨b,o,e,d,f⟩
 ·exact .inl h
 ·refine .inr ⟨b,o,e,Kae d a.size,fun j l g => ?_⟩
  obtain ⟨i,c,k,m,n⟩:=f j l g;exact ⟨i,c,(a.cell (p:=⟨b,o+j,none⟩) d).trans k,m.next a,n⟩
theorem Zb2 {w:World} {base c:Nat} {e:TypeId} {A:Option Addr} {xs:List Value} (h:Own w base e A c xs) {g:Nat} (b:blk A=some g):∃ cur,w.heap[g]?=some (.cells cur e (0,0)):=by
 rcases h.2 with ⟨d,_⟩ | ⟨f,j,cur,d,k,i,_⟩
 ·injection d with a
  rw [a] at b
  cases b
 ·injection d with a
  rw [a] at b;have:f=g:=by simpa [blk] using b
  subst this;exact ⟨cur,i⟩
theorem Zfi (w:World) (q k:Nat) (v:Value) {g:Nat} (h:g≠q):(w.setCell ⟨q,k,none⟩ v).heap[g]?=w.heap[g]?:=by
 unfold World.setCell;simp only [Array.getElem?_modify];rw [if_neg (fun e=>h e.symm)]
structure KQ (q B:Nat) (w w':World):Prop where
 sz:w.heap.size≤w'.heap.size
 ki:∀ g cur,B≤g→w.heap[g]?=some (.cells cur 3 (0,0))→∃ cur',w'.heap[g]?=some (.cells cur' 3 (0,0))∧cur'.size=cur.size
 ko:∀ g o,g≠q→w.heap[g]?=some o→(∀ cur,o≠.cells cur 3 (0,0))→w'.heap[g]?=some o
section
variable {q B:Nat} {w w' w'':World}
end
end Go.Proofs.YtghlnncfigkkaaaGreatDoor
set_option maxRecDepth 100000
set_option maxHeartbeats 16000000
namespace Go.Proofs.YtghlnncfigkkaaaGreatDoor
open Go.RowKit
def InRow (w:World) (B:Nat) (A:Option Addr) (n c:Nat) (l:List (List Int)):Prop:=∃ vs:List Value,n=vs.length∧Own w B 41 A c vs∧vs.length=l.length∧∀ (j:Nat) (v:Value) (x:List Int),vs[j]?=some v→l[j]?=some x→∃ A' c',v=.slice A' x.length c'∧Own w B 3 A' c' (x.map VI)
theorem ZgN {w w':World} {base c:Nat} {e:TypeId} {A:Option Addr} {xs:List Value} (h:Own w base e A c xs) (f:∀ g,blk A=some g→w'.heap[g]?=w.heap[g]?):Own w' base e A c xs:=by
 refine ⟨h.1,?_⟩;rcases h.2 with b | ⟨d,i,cur,b,j,k,r⟩
 ·exact .inl b
 ·refine .inr ⟨d,i,cur,b,j,?_,r⟩;have:blk A=some d:=by injection b with a;rw [a];rfl
  rw [f d this];exact k
theorem InRow.next {w w':World} {B:Nat} {A:Option Addr} {n c:Nat} {l:List (List Int)} (h:InRow w B A n c l) (a:Below w.heap.size w w'):InRow w' B A n c l:=by
 obtain ⟨b,d,f,g,i⟩:=h;refine ⟨b,d,f.next a,g,fun j v x k m => ?_⟩
 obtain ⟨p,r,e,s⟩:=i j v x k m;exact ⟨p,r,e,s.next a⟩
theorem InRow.base {w:World} {B a:Nat} {A:Option Addr} {n c:Nat} {l:List (List Int)} (h:InRow w B A n c l) (b:a≤B):InRow w a A n c l:=by
 obtain ⟨d,f,g,i,k⟩:=h;refine ⟨d,f,g.more b,i,fun j v x m p => ?_⟩
 obtain ⟨r,s,e,t⟩:=k j v x m p;exact ⟨r,s,e,t.more b⟩
theorem InRow.other {w w':World} {B q:Nat} {T:TypeId} {m:Array Value} {p:Nat × Nat} {A:Option Addr} {n c:Nat} {l:List (List Int)} (h:InRow w B A n c l) (d:w.heap[q]?=some (.cells m T p)) (r:T≠41) (s:T≠3) (f:∀ g,g<w.heap.size→g≠q→w'.heap[g]?=w.heap[g]?):InRow w' B A n c l:=by
 obtain ⟨y,z,i,C,D⟩:=h;refine ⟨y,z,ZgN i fun g b => ?_,C,fun j v x E F => ?_⟩
 ·obtain ⟨cur,a⟩:=Zb2 i b;exact f g (Kab.1 a).1 (fun e=>by subst e;rw [d] at a;injection a with a;injection a with _ a _;exact r a)
 ·obtain ⟨H,I,e,k⟩:=D j v x E F;refine ⟨H,I,e,ZgN k fun g b => ?_⟩
  obtain ⟨cur,a⟩:=Zb2 k b;exact f g (Kab.1 a).1 (fun e=>by subst e;rw [d] at a;injection a with a;injection a with _ a _;exact s a)
theorem InRow.beside {w w':World} {B:Nat} {A b:Option Addr} {n c c2:Nat} {l:List (List Int)} {xs:List Value} (h:InRow w B A n c l) (d:w.grownBy w' (blk b)) (k:Own w B 41 b c2 xs) (m:blk A=none∨blk A≠blk b):InRow w' B A n c l:=by
 obtain ⟨p,r,s,y,z⟩:=h;refine ⟨p,r,s.kept d m,y,fun j v x C D => ?_⟩
 obtain ⟨f,E,e,i⟩:=z j v x C D;refine ⟨f,E,e,i.kept d ?_⟩
 cases hA:blk f with
 | none=>exact .inl rfl
 | some g=>
  right
  intro e
  obtain ⟨cur,F⟩:=Zb2 i hA;obtain ⟨H,a⟩:=Zb2 k e.symm;rw [F] at a;injection a with a
  injection a with _ a _
  exact absurd a (by decide)
theorem InRow.more {w w':World} {B:Nat} {A i:Option Addr} {n c k:Nat} {l:List (List Int)} {a:List Value} (E:n=a.length) (F:Own w B 41 A c a) (z:a.length=l.length) (H:∀ (j:Nat) (v:Value) (x:List Int),a[j]?=some v→l[j]?=some x→∃ i k,v=.slice i x.length k∧Own w B 3 i k (x.map VI))
  {p:Option Addr} {r:Nat} {s:List Int} (I:Own w B 3 p r (s.map VI)) (J:w.grownBy w' (blk A)) (L:Own w' B 41 i k (a++[.slice p s.length r])):InRow w' B i (n+1) k (l++[s]):=by
 have C:∀ {b:Option Addr} {c2:Nat} {y:List Value},Own w B 3 b c2 y→Own w' B 3 b c2 y:=fun {b c2 y} h=>h.kept J (by
  cases hA:blk b with
  | none=>exact .inl rfl
  | some g=>
   right
   intro e
   obtain ⟨cur,M⟩:=Zb2 h hA;obtain ⟨P,d⟩:=Zb2 F e.symm;rw [M] at d;injection d with d
   injection d with _ d _
   exact absurd d (by decide))
 refine ⟨_,by rw [List.length_append,E];rfl,L,by rw [List.length_append,List.length_append,z];rfl,fun j v x f m => ?_⟩
 by_cases N:j<a.length
 ·rw [List.getElem?_append_left N] at f;rw [List.getElem?_append_left (by omega)] at m
  obtain ⟨b,c2,e,O⟩:=H j v x f m;exact ⟨b,c2,e,C O⟩
 ·have D:j=a.length:=by
   have:=(Kaf.1 f).1;simp at this;omega
  rw [List.getElem?_append_right (by omega),D,Nat.sub_self] at f
  rw [List.getElem?_append_right (by omega),D,z,Nat.sub_self] at m
  simp at f m;subst f m;exact ⟨p,r,rfl,C I⟩
theorem Zft (s:SI) (r:List SI) (p:Int):Zae (s::r) p=(if s.kind=1∧s.party=p then [s.shape] else [])++Zae r p:=by
 unfold Zae;rw [List.filter_cons]
 by_cases h:s.kind=1∧s.party=p
 ·rw [if_pos h,if_pos (by simp [h.1,h.2])]
  rfl
 ·rw [if_neg h,if_neg (by simpa using h)]
  rfl
theorem Zeo {w:World} {f:Array Oper} {o:Oper} {a:Act} {K:Act→World→Prop} {Q:Exit→Act→World→Prop} {E:Prop} (g:o.guard=none) (s x:Operand)
  (i:o.op=.call { callee:=.builtin .append,args:=#[s,x],argTypes:=#[51,51] }) (base:Nat)
  (A:Option Addr) (e:Nat) (b:List Value) (n:Nat) (j:b.length=n) (k:a.eval s=.slice A n e) (l:Own w base 41 A e b)
  (d:Option Addr) (c B:Nat) (v:Value) (m:a.eval x=.slice d 1 c) (p:Rd w B d [v]) (r:d=none→1=0) (y:v.oneCell'=true)
  (L:n≤1000000) (z:base≤w.heap.size)
  (h:∀ A' cap' w',Own w' base 41 A' cap' (b++[v])→w.grownBy w' (blk A)→(blk A'=blk A∨blk A'=some w.heap.size)→K (a.put o.dst (.slice A' (n+1) cap')) w'):
  if Region.wanted o (yielded f a.tmps)=true then Oper.wp Tryz.prog o a w K Q else E:=by
 obtain ⟨C,D,F,H,I⟩:=info_parts ZdG;exact ZeG g s x 51 i base 41 C _ 24 Tryz.underlying51 D F H I rfl A e b n j k l d 1 c B [v] rfl m p r (fun M J=>by rw [List.mem_singleton.1 J];exact y) (by simp only [maxLen];omega) (by omega) z h
structure InSt (w:World) (B ob:Nat) (A0:Option Addr) (n0 c0:Nat) (A1:Option Addr) (n1 c1:Nat) (l0 l1:List (List Int)):Prop where
 ho:w.heap[ob]?=some (.cells #[.slice A0 n0 c0,.slice A1 n1 c1] 63 (0,0))
 r0:InRow w B A0 n0 c0 l0
 r1:InRow w B A1 n1 c1 l1
 ne:blk A0=none∨blk A0≠blk A1
theorem Zco {W d:World} {B c:Nat} {A:Option Addr} {xs:List Value} (h:Own W B 41 A c xs) (i:W.grownBy d (blk A)) {q:Nat} {T:TypeId} {f:Array Value} {g:Nat × Nat} (b:W.heap[q]?=some (.cells f T g)) (j:T≠41):d.heap[q]?=some (.cells f T g):=by
 rw [i.block q (Kab.1 b).1 (fun e=>by
  obtain ⟨cur,a⟩:=Zb2 h e.symm;rw [b] at a;injection a with a
  injection a with _ a _
  exact j a)]
 exact b
theorem InSt.push0 {wr W a:World} {B b:Nat} {n f D c:Option Addr} {d c0 y c1 E i:Nat} {k z:List (List Int)} {l:List Value} {x:List Int} (h:InSt wr B b n d c0 f y c1 k z) (p:Below wr.heap.size wr W)
  (H:d=l.length) (A:Own W B 41 n c0 l) (I:l.length=k.length) (J:∀ (j:Nat) (v:Value) (x:List Int),l[j]?=some v→k[j]?=some x→∃ r s,v=.slice r x.length s∧Own wr B 3 r s (x.map VI))
  (L:Own W B 3 D E (x.map VI)) (m:W.grownBy a (blk n)) (M:Own a B 41 c i (l++[.slice D x.length E])) (N:blk c=blk n∨blk c=some W.heap.size):
  InSt (a.setCell ⟨b,0,none⟩ (.slice c (d+1) i)) B b c (d+1) i f y c1 (k++[x]) z:=by
 have O:=(p.block b (Kab.1 h.ho).1).trans h.ho;have C:=Zco A m O (by decide)
 have F:∀ g,g<a.heap.size→g≠b→(a.setCell ⟨b,0,none⟩ (.slice c (d+1) i)).heap[g]?=a.heap[g]?:=fun g _ m=>Zfi a b 0 _ m
 have P:InRow a B c (d+1) i (k++[x]):=InRow.more H A I (fun j v x Q R=>by obtain ⟨r,s,e,S⟩:=J j v x Q R;exact ⟨r,s,e,S.next p⟩) L m M
 have T:InRow a B f y c1 z:=(h.r1.next p).beside m A (by
  rcases h.ne with h | h
  ·cases hA:blk f with
   | none=>exact .inl rfl
   | some g=>right;rw [h];exact fun e=>by cases e
  ·cases hA:blk f with
   | none=>exact .inl rfl
   | some g=>right;intro e;exact h (by rw [hA,e]))
 refine ⟨by simp [World.setCell,Array.getElem?_modify,C],P.other C (by decide) (by decide) F,T.other C (by decide) (by decide) F,?_⟩
 rcases N with e | e
 ·rw [e];exact h.ne
 ·right;rw [e]
  intro V
  obtain ⟨Y,_,X,_⟩:=h.r1;have:=(X.lt _ V.symm).2;have:=p.size;omega
theorem InSt.push1 {wr W a:World} {B b:Nat} {m n D c:Option Addr} {y c0 d c1 E f:Nat} {z i:List (List Int)} {k:List Value} {x:List Int} (h:InSt wr B b m y c0 n d c1 z i) (p:Below wr.heap.size wr W)
  (I:d=k.length) (A:Own W B 41 n c1 k) (J:k.length=i.length) (L:∀ (j:Nat) (v:Value) (x:List Int),k[j]?=some v→i[j]?=some x→∃ r s,v=.slice r x.length s∧Own wr B 3 r s (x.map VI))
  (M:Own W B 3 D E (x.map VI)) (l:W.grownBy a (blk n)) (N:Own a B 41 c f (k++[.slice D x.length E])) (O:blk c=blk n∨blk c=some W.heap.size):
  InSt (a.setCell ⟨b,1,none⟩ (.slice c (d+1) f)) B b m y c0 c (d+1) f z (i++[x]):=by
 have P:=(p.block b (Kab.1 h.ho).1).trans h.ho;have C:=Zco A l P (by decide)
 have F:∀ g,g<a.heap.size→g≠b→(a.setCell ⟨b,1,none⟩ (.slice c (d+1) f)).heap[g]?=a.heap[g]?:=fun g _ l=>Zfi a b 1 _ l
 have Q:InRow a B c (d+1) f (i++[x]):=InRow.more I A J (fun j v x R S=>by obtain ⟨r,s,e,T⟩:=L j v x R S;exact ⟨r,s,e,T.next p⟩) M l N
 have V:InRow a B m y c0 z:=(h.r0.next p).beside l A h.ne;refine ⟨by simp [World.setCell,Array.getElem?_modify,C],V.other C (by decide) (by decide) F,Q.other C (by decide) (by decide) F,?_⟩
 rcases O with e | e
 ·rw [e];exact h.ne
 ·cases hA:blk m with
  | none=>exact .inl rfl
  | some g=>
   right;rw [e]
   intro H
   injection H with H
   obtain ⟨Y,_,X,_⟩:=h.r0;have:=(X.lt _ hA).2;have:=p.size;omega
theorem Zep (X a8:Option Addr) (x a9 b0 ec:Nat) (ss:List SI) (w:World) (f8:x=ss.length) (k7:x≤100000) (h1:RdSI w w.heap.size X ss) (f9:∀ s∈ss,s.shape.length≤1000000):
  Calls Tryz.prog 32 #[.agg #[.slice X x b0,.slice a8 a9 ec]] w fun e w'=>Below w.heap.size w w'∧∃ n c c0 p d c1,e=.returned (.agg #[.slice n c c0,.slice p d c1])∧InRow w' w.heap.size n c c0 (Zae ss 0)∧InRow w' w.heap.size p d c1 (Zae ss 1):=by
 obtain ⟨w2,d2⟩:=Ky (w.alloc (.cells #[.slice X x b0,.slice a8 a9 ec] 26));have g0:=Kv d2;have g1:=Kw d2;have k8:=Kz d2;have k9:=Kz g0;have d3:=Kz f8;have i8:=Kz f9;have H1:=Kz h1;have l0:=Kz g1;clear d2 g0 g1 f8 h1 f9
 go_enter Tryz.func32,Tryz.ntmps32
 go_wp2_with fail
 obtain ⟨w4,Y⟩:=Ky ((((w.alloc (.cells #[.slice X x b0,.slice a8 a9 ec] 26)).alloc (.cells #[.slice none 0 0,.slice none 0 0] 63)).alloc (.cells #[.slice none 0 0,.slice none 0 0] 63)));rw [←Y];have g2:Below w.heap.size w w4:=by rw [Y];exact (((Kai _ _).alloc (Kag _) _).alloc (by simp) _).alloc (by simp;omega) _
 obtain ⟨E,y⟩:=Ky (w.heap.size+1);obtain ⟨l,b1⟩:=Ky (w.heap.size+1+1);have g3:w4.heap.size=l+1:=by rw [Y,b1];simp
 have g4:w4.heap[E]?=some (.cells #[.slice none 0 0,.slice none 0 0] 63 (0,0)):=by
  rw [Y,y,Below.heap_alloc _ _ _ (by simp)]
  have:=Kac (w.alloc (.cells #[.slice X x b0,.slice a8 a9 ec] 26)) (.cells #[.slice none 0 0,.slice none 0 0] 63);rwa [World.size_alloc] at this
 have g5:w4.heap[l]?=some (.cells #[.slice none 0 0,.slice none 0 0] 63 (0,0)):=by
  rw [Y,b1];have:=Kac ((w.alloc (.cells #[.slice X x b0,.slice a8 a9 ec] 26)).alloc (.cells #[.slice none 0 0,.slice none 0 0] 63)) (.cells #[.slice none 0 0,.slice none 0 0] 63);rwa [World.size_alloc,World.size_alloc] at this
 have g6:=Kz g2;have i9:=Kz g4;have j0:=Kz g5;have g7:=Kz g3;have g8:=Kz b1;have e7:=Kz y;rw [←b1,←y];clear Y g2 g3 g4 g5 b1 y
 go_loopw [9] (fun e8 wr=>∃ (k:Nat) (n:Option Addr) (c c0:Nat) (p:Option Addr) (d c1:Nat) (z C:List (List Int)),k≤x∧e8=.int .i64 k∧c≤k∧d≤k∧Zae ss 0=z++Zae (ss.drop k) 0∧Zae ss 1=C++Zae (ss.drop k) 1∧InSt wr w4.heap.size l n c c0 p d c1 z C∧Below l w4 wr) (fun e8 _=>x-(intOf e8).toNat)
 case atStart=>exact ⟨0,none,0,0,none,0,0,[],[],by omega,rfl,by omega,by omega,rfl,rfl,⟨j0.o,⟨[],rfl,Own.nil _ _ _,rfl,fun j1 g9 j2 h=>by simp at h⟩,⟨[],rfl,Own.nil _ _ _,rfl,fun j1 g9 j2 h=>by simp at h⟩,.inl rfl⟩,Kai _ _⟩
 case round=>
  obtain ⟨k,n,c,c0,p,d,c1,z,C,l1,rfl,l2,l3,h0,h2,h3,d4⟩:=hrel;have d5:=Kz h0;have d6:=Kz h2;have m:=Kz h3;have d7:=Kz d4;have e9:=Kz (show Below w.heap.size w wr from g6.o.trans (d4.mono (by rw [g8.o];omega)))
  have h4:=Kz (show w4.heap.size≤wr.heap.size from d4.size)
  clear h0 h2 h3 d4
  by_cases f0:k<x
  ·have M:ss[k]?=some (ss[k]'(by rw [←d3.o];exact f0)):=Kad _
   obtain ⟨b2,b3⟩:=Ky (ss[k]'(by rw [←d3.o];exact f0))
   rw [←b3] at M;have f1:=i8.o b2 (Kam M);have Z:=Kz (show ∀ d8,Zae (ss.drop k) d8=(if b2.kind=1∧b2.party=d8 then [b2.shape] else [])++Zae (ss.drop (k+1)) d8 from fun d8=>by
    obtain ⟨j3,j4⟩:=Kaf.1 M;rw [List.drop_eq_getElem_cons j3,j4,Zft])
   obtain ⟨l4,o,rfl,d9,e0,e1,e2,⟨N,O,e3,a0,h5,-⟩,e4,e5⟩:=(H1.o.below e9.o).at_ M;have i0:(0:Int)≤(k:Int):=by omega
   have i1:(k:Int)<(x:Int):=by omega
   obtain ⟨b4,T,h6,V,h7,h8⟩:=b2;dsimp only at e0 e1 e2 e3 a0 h5 e4 e5 f1;obtain ⟨j,a1⟩:=Ky V.length;rw [←a1] at e3 h5 f1;have f2:=Kz a1;obtain ⟨w5,b5⟩:=Ky (wr.alloc (.cells #[.int .i64 b4,.int .i64 T,.string h6,.slice N j O,.int .i64 h7,.int .i64 h8] 93));have F:=Kv b5;have J:=Kw b5;have e6:=Kz b5;obtain ⟨b6,a2⟩:=Ky wr.heap.size;rw [←a2] at J;have h9:=Kz a2;have b:=Kz F;have a3:=Kz (show ∀ W,Below w5.heap.size w5 W→(W.cell? ⟨b6,1,none⟩=some (.int .i64 T)∧W.cell? ⟨b6,3,none⟩=some (.slice N j O)∧W.cell? ⟨l,0,none⟩=some (.slice n c c0)∧W.cell? ⟨l,1,none⟩=some (.slice p d c1)) from fun W H=>by
    have i2:=(H.block b6 (Kab.1 J).1).trans J;have i3:=((bnext b.o H).block l (Kab.1 m.o.ho).1).trans m.o.ho;exact ⟨Kaa 1 i2,Kaa 3 i2,Kaa 0 i3,Kaa 1 i3⟩)
   have i4:=Kz (show ∀ W,Below w5.heap.size w5 W→W.heap[b6]?=some (.cells #[.int .i64 b4,.int .i64 T,.string h6,.slice N j O,.int .i64 h7,.int .i64 h8] 93 (0,0)) from fun W H=>(H.block b6 (Kab.1 J).1).trans J)
   have i5:=Kz (show ∀ W,Below w5.heap.size w5 W→Calls Tryz.prog 55 #[.slice N j O] W fun e w'=>∃ N O,e=.returned (.slice N j O)∧Own w' W.heap.size 3 N O (V.map VI)∧Below W.heap.size W w' from fun W H=>ZdH N j O V W f2.o f1 ((((a0.more e9.o.size).next F).next H)))
   have P:=Kz (show l<wr.heap.size from (Kab.1 m.o.ho).1)
   by_cases b7:b4=1∧(T=0∨T=1)
   ·obtain ⟨rfl,j5⟩:=b7;rcases j5 with rfl | rfl
    ·obtain ⟨f3,v0,v1,v2,v3⟩:=m.o.r0;have Q:=Kz (show Zae ss 0=(z++[V])++Zae (ss.drop (k+1)) 0 from by
      rw [d5.o,Z.o];rw [if_pos ⟨rfl,rfl⟩,List.append_assoc])
     have R:=Kz (show Zae ss 1=C++Zae (ss.drop (k+1)) 1 from by
      rw [d6.o,Z.o];rw [if_neg (by intro h;exact absurd h.2 (by simp))]
      rfl)
     have i:=Kz (And.intro v0 (And.intro v1 (And.intro v2 v3)));have f4:c≤1000000:=by omega
     obtain ⟨s1,s3,j6,j7⟩:=a3.o w5 (Kai _ _);have S:=Kz (show ∀ W,Below w5.heap.size w5 W→w4.heap.size≤W.heap.size from fun W H=>by have:=h4.o;have:=b.o.size;have:=H.size;omega)
     clear v0 v1 v2 v3 M b3 b5 F J a2 a1 a0 d9
     go_wp2_with fail
     rw [←e6.o,←h9.o]
     go_region_law (first
      | (rw [if_pos (by rfl)];go_simp;go_at_call 55;refine (i5.o w5.drew (Kai _ _).drew).mono ?_;rintro e w6 ⟨r,v,rfl,b8,b9⟩;have a:=Kz (show Below w5.heap.size w5 w6 from (Kai _ _).drew.trans b9);obtain ⟨m1,m3,j8,j9⟩:=a3.o w6 a.o;obtain ⟨t1,t3,k0,k2⟩:=a3.o (w6.alloc (.cells #[.slice r j v] 41)) (a.o.alloc a.o.size _);have f5:=Kz (show Own w6 w4.heap.size 3 r v (V.map VI) from b8.more (S.o _ (Kai _ _).drew));clear b8 b9;dsimp only)
      | (refine Zeo rfl (.tmp 31) (.tmp 35) rfl w4.heap.size n c0 f3 c i.o.1.symm rfl ((i.o.2.1.next b.o).next ((a.o.alloc a.o.size _))) (some ⟨w6.heap.size,0,none⟩) 1 (w6.heap.size+1) (.slice r j v) rfl (Rd.one _ _ _) (fun h=>by cases h) rfl f4 (S.o _ (a.o.alloc a.o.size _)) ?_;intro A8 c8 f6 c6 D c7;have L:=Zco ((i.o.2.1.next b.o).next ((a.o.alloc a.o.size _))) D (((bnext b.o (a.o.alloc a.o.size _)).block l P.o).trans m.o.ho) (by decide);have c9:=Zco ((i.o.2.1.next b.o).next ((a.o.alloc a.o.size _))) D (i4.o _ (a.o.alloc a.o.size _)) (by decide);have y1:=Kaa 1 c9;have x0:=Kaa 0 L;have x1:=Kaa 1 L;have k3:f6.frozen? ⟨l,0,none⟩=false:=(by simp [World.frozen?,L]);have a4:=Kz (m.o.push0 (bnext b.o (a.o.alloc a.o.size (.cells #[.slice r j v] 41))) i.o.1 ((i.o.2.1.next b.o).next ((a.o.alloc a.o.size _))) i.o.2.2.1 i.o.2.2.2 (f5.o.alloc _) D (by rw [←f2.o];exact c6) c7);have a5:=Kz (Zaf (k:=0) (Zal (d7.o.trans ((bnext b.o (a.o.alloc a.o.size (.cells #[.slice r j v] 41))).mono (Nat.le_of_lt P.o))) D (by have:=(bnext b.o (a.o.alloc a.o.size (.cells #[.slice r j v] 41))).size;have:=P.o;omega) (fun g I=>by have:=(((i.o.2.1.next b.o).next ((a.o.alloc a.o.size (.cells #[.slice r j v] 41)))).lt g I).1;have:=g7.o;omega)) (Kag l) (.slice A8 (c+1) c8));clear c6 D c7 L c9))
     all_goals
      go_wp2
      exact ⟨⟨k+1,A8,c+1,c8,p,d,c1,_,C,by omega,rfl,by omega,by omega,Q.o,R.o,a4.o,a5.o⟩,by simp [intOf];omega⟩
    ·obtain ⟨f3,v0,v1,v2,v3⟩:=m.o.r1;have Q:=Kz (show Zae ss 0=z++Zae (ss.drop (k+1)) 0 from by
      rw [d5.o,Z.o];rw [if_neg (by intro h;exact absurd h.2 (by simp))]
      rfl)
     have R:=Kz (show Zae ss 1=(C++[V])++Zae (ss.drop (k+1)) 1 from by
      rw [d6.o,Z.o];rw [if_pos ⟨rfl,rfl⟩,List.append_assoc])
     have i:=Kz (And.intro v0 (And.intro v1 (And.intro v2 v3)));have f4:d≤1000000:=by omega
     obtain ⟨s1,s3,j6,j7⟩:=a3.o w5 (Kai _ _);have S:=Kz (show ∀ W,Below w5.heap.size w5 W→w4.heap.size≤W.heap.size from fun W H=>by have:=h4.o;have:=b.o.size;have:=H.size;omega)
     clear v0 v1 v2 v3 M b3 b5 F J a2 a1 a0 d9
     go_wp2_with fail
     rw [←e6.o,←h9.o]
     go_region_law (first
      | (rw [if_pos (by rfl)];go_simp;go_at_call 55;refine (i5.o w5.drew (Kai _ _).drew).mono ?_;rintro e w6 ⟨r,v,rfl,b8,b9⟩;have a:=Kz (show Below w5.heap.size w5 w6 from (Kai _ _).drew.trans b9);obtain ⟨m1,m3,j8,j9⟩:=a3.o w6 a.o;obtain ⟨t1,t3,k0,k2⟩:=a3.o (w6.alloc (.cells #[.slice r j v] 41)) (a.o.alloc a.o.size _);have f5:=Kz (show Own w6 w4.heap.size 3 r v (V.map VI) from b8.more (S.o _ (Kai _ _).drew));clear b8 b9;dsimp only)
      | (refine Zeo rfl (.tmp 31) (.tmp 35) rfl w4.heap.size p c1 f3 d i.o.1.symm rfl ((i.o.2.1.next b.o).next ((a.o.alloc a.o.size _))) (some ⟨w6.heap.size,0,none⟩) 1 (w6.heap.size+1) (.slice r j v) rfl (Rd.one _ _ _) (fun h=>by cases h) rfl f4 (S.o _ (a.o.alloc a.o.size _)) ?_;intro A8 c8 f6 c6 D c7;have L:=Zco ((i.o.2.1.next b.o).next ((a.o.alloc a.o.size _))) D (((bnext b.o (a.o.alloc a.o.size _)).block l P.o).trans m.o.ho) (by decide);have c9:=Zco ((i.o.2.1.next b.o).next ((a.o.alloc a.o.size _))) D (i4.o _ (a.o.alloc a.o.size _)) (by decide);have y1:=Kaa 1 c9;have x0:=Kaa 0 L;have x1:=Kaa 1 L;have k3:f6.frozen? ⟨l,1,none⟩=false:=(by simp [World.frozen?,L]);have a4:=Kz (m.o.push1 (bnext b.o (a.o.alloc a.o.size (.cells #[.slice r j v] 41))) i.o.1 ((i.o.2.1.next b.o).next ((a.o.alloc a.o.size _))) i.o.2.2.1 i.o.2.2.2 (f5.o.alloc _) D (by rw [←f2.o];exact c6) c7);have a5:=Kz (Zaf (k:=1) (Zal (d7.o.trans ((bnext b.o (a.o.alloc a.o.size (.cells #[.slice r j v] 41))).mono (Nat.le_of_lt P.o))) D (by have:=(bnext b.o (a.o.alloc a.o.size (.cells #[.slice r j v] 41))).size;have:=P.o;omega) (fun g I=>by have:=(((i.o.2.1.next b.o).next ((a.o.alloc a.o.size (.cells #[.slice r j v] 41)))).lt g I).1;have:=g7.o;omega)) (Kag l) (.slice A8 (d+1) c8));clear c6 D c7 L c9))
     all_goals
      go_wp2
      exact ⟨⟨k+1,n,c,c0,A8,d+1,c8,z,_,by omega,rfl,by omega,by omega,Q.o,R.o,a4.o,a5.o⟩,by simp [intOf];omega⟩
   ·have Q:=Kz (show Zae ss 0=z++Zae (ss.drop (k+1)) 0 from by
     rw [d5.o,Z.o,if_neg (by intro h;exact b7 ⟨h.1,.inl h.2⟩)]
     rfl)
    have R:=Kz (show Zae ss 1=C++Zae (ss.drop (k+1)) 1 from by
     rw [d6.o,Z.o,if_neg (by intro h;exact b7 ⟨h.1,.inr h.2⟩)]
     rfl)
    have a4:=Kz (show InSt w5 w4.heap.size l n c c0 p d c1 z C from ⟨(F.block l P.o).trans m.o.ho,m.o.r0.next F,m.o.r1.next F,m.o.ne⟩)
    have a5:=Kz (show Below l w4 w5 from d7.o.trans (F.mono (Nat.le_of_lt P.o)))
    by_cases f7:b4=1
    ·subst f7;have p0:(T==0)=false:=by rw [Kaj];omega
     have p1:(T==1)=false:=by rw [Kaj];omega
     clear b7 M b3 F J a2 a1 a0 d9
     go_wp2
     rw [←e6.o];exact ⟨⟨k+1,n,c,c0,p,d,c1,z,C,by omega,rfl,by omega,by omega,Q.o,R.o,a4.o,a5.o⟩,by simp [intOf];omega⟩
    ·have k1:(b4==1)=false:=by rw [Kaj];exact f7
     clear b7 f7 M b3 F J a2 a1 a0 d9
     go_wp2
     rw [←e6.o];exact ⟨⟨k+1,n,c,c0,p,d,c1,z,C,by omega,rfl,by omega,by omega,Q.o,R.o,a4.o,a5.o⟩,by simp [intOf];omega⟩
  ·obtain rfl:k=x:=by omega
   have Q:=Kz (show Zae ss 0=z from by rw [d5.o,d3.o,List.drop_length];exact List.append_nil _)
   have R:=Kz (show Zae ss 1=C from by rw [d6.o,d3.o,List.drop_length];exact List.append_nil _)
   have o0:=Kaa 0 m.o.ho;have o1:=Kaa 1 m.o.ho;have y:=(d7.o.block E (by rw [e7.o,g8.o];omega)).trans i9.o
   have q0:=Kaa 0 y;have q1:=Kaa 1 y;have l5:wr.frozen? ⟨E,0,none⟩=false:=by simp [World.frozen?,y]
   have l6:wr.frozen? ⟨E,1,none⟩=false:=by simp [World.frozen?,y]
   clear f0
   go_wp2
   obtain ⟨a6,a7⟩:=Ky ((wr.setCell ⟨E,0,none⟩ (.slice n c c0)).setCell ⟨E,1,none⟩ (.slice p d c1));rw [←a7];have i6:a6.heap[E]?=some (.cells #[.slice n c c0,.slice p d c1] 63 (0,0)):=by rw [a7];simp [World.setCell,Array.getElem?_modify,y]
   have i7:∀ g,g≠E→a6.heap[g]?=wr.heap[g]?:=fun g I=>by rw [a7,Zfi _ E 1 _ I,Zfi _ E 0 _ I]
   have l7:a6.heap.size=wr.heap.size:=by rw [a7];simp [World.setCell]
   have k4:Below w.heap.size w a6:=by
    rw [a7];exact Zaf (Zaf e9.o (by rw [e7.o];omega) _) (by rw [e7.o];omega) _
   have d0:=Kaa 0 i6;have d1:=Kaa 1 i6;have S:w.heap.size≤w4.heap.size:=g6.o.size;have k5:InRow a6 w4.heap.size n c c0 z:=m.o.r0.other y (by decide) (by decide) (fun g _ I=>i7 g I)
   have k6:InRow a6 w4.heap.size p d c1 C:=m.o.r1.other y (by decide) (by decide) (fun g _ I=>i7 g I)
   clear a7;exact bodyPost_ret (v:=.agg #[.slice n c c0,.slice p d c1]) (by simp [results,Tryz.results32,go_sem,d0,d1]) rfl ⟨k4,n,c,c0,p,d,c1,rfl,by rw [Q.o];exact k5.base S,by rw [R.o];exact k6.base S⟩
end Go.Proofs.YtghlnncfigkkaaaGreatDoor
