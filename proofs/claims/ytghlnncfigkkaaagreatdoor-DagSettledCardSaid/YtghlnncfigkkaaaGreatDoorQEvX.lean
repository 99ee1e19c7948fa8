/-
 Walks of the evaluator's expr, kind by kind.
-/
import Derived.Test.YtghlnncfigkkaaaGreatDoorQEvS
import Derived.Test.YtghlnncfigkkaaaGreatDoorQEvE
import Derived.Deep.RegionHeld3
set_option maxRecDepth 100000
set_option maxHeartbeats 4000000
set_option linter.unusedVariables false
set_option linter.unusedSimpArgs false
namespace Go.Proofs.YtghlnncfigkkaaaGreatDoor
open Go.RowKit
attribute [local go_sem ↓] ZbA Zch
theorem ZeX {X:Nat→Prop} {w w':World} {a q:Nat} {L:List UInt64} (h:BlkW w' 39 a L) (i:w.heap.size≤a) (d:∀ k,X k→k<w.heap.size) (e:q=L.length) (l:q≤1048576):WoV X w' (.slice (some ⟨a,0,none⟩) q q) L:=by
 subst e;refine ⟨some ⟨a,0,none⟩,L.length,rfl,Kag _,by omega,.inr ⟨a,0,rfl,h.lt,fun f=>by have:=d _ f;omega,fun j v b => ?_⟩⟩
 rw [Kal,Option.map_eq_some_iff] at b;obtain ⟨m,c,rfl⟩:=b;obtain ⟨g,n⟩:=Kaf.1 c;rw [Nat.zero_add,h.cell g,Zbo,List.getD_eq_getElem?_getD,c];rfl
theorem Zgo {X:Nat→Prop} {w:World} {W:World} {x:UInt64} (a:∀ k,X k→k<w.heap.size) (b:w.heap.size≤W.heap.size):WoV X (W.alloc (.cells #[U x] 39)) (.slice (some ⟨W.heap.size,0,none⟩) 1 1) [x]:=
 ZeX (show BlkW _ 39 W.heap.size [x] from Kac W _) b a rfl (by decide)
theorem ZiO (A a:Option Addr) (n c m k:Nat) (w:World):(Instr.field 43 (.agg #[.slice A n c,.slice a m k]) 1).run Tryz.prog w=.ok (.slice a m k) w:=by kernel_rfl
theorem ZiP (A a:Option Addr) (n c m k:Nat) (w:World):(Instr.field 43 (.agg #[.slice A n c,.slice a m k]) 0).run Tryz.prog w=.ok (.slice A n c) w:=by kernel_rfl
attribute [local go_sem] ZiO ZiP
def ExOut (X:Nat→Prop) (w:World) (L:List UInt64) (e:Ending) (w':World):Prop:=Below w.heap.size w w'∧∃ v,e=.returned v∧WoV X w' v L
def ZiQ (X:Nat→Prop) (W:World) (q:Nat) (L:List UInt64) (e:Ending) (w':World):Prop:=∃ gg,e=.returned (.slice (some ⟨gg,0,none⟩) q q)∧WoV X w' (.slice (some ⟨gg,0,none⟩) q q) L∧Below W.heap.size W w'
theorem Zcv {X:Nat→Prop} (F:FuncId) (f:UInt64→UInt64→UInt64) (r:∀ (g:Array Value) (W:World),(callFunc F g).run Tryz.prog W=.ok (.enter F g) W) (s:∀ (a b:UInt64) (W:World),Calls Tryz.prog F #[U a,U b] W fun e w'=>e=.returned (U (f a b))∧W=w')
  (A d:Option Addr) (n m c i q:Nat) (x y:List UInt64) (w:World) (t:∀ k,X k→k<w.heap.size) (j:q=max n m) (l:n=x.length) (p:m=y.length) (v:1≤n) (z:1≤m) (B:n≤1000) (C:m≤1000) (h:RdX X w A (x.map U)) (D:RdX X w d (y.map U)):
  Calls Tryz.prog 156 #[.slice A n c,.slice d m i,.func (.func F) #[] #[]] w (ZiQ X w q (eachP f x y)):=by
 refine (ZiH F f A d n m c i x y w l p v z B C r (fun a b W _=>s a b W) h.rd D.rd).mono ?_
 rintro e w' ⟨rfl,E,H⟩
 refine ⟨w.heap.size,by rw [j],ZeX E (Kag _) t (by rw [j,ZbH,l,p]) (by omega),H⟩
theorem Znw {X:Nat→Prop} (F:FuncId) (d:Nat) (f:UInt64→UInt64→UInt64) (s:∀ (i:Array Value) (W:World),(callFunc F i).run Tryz.prog W=.ok (.enter F i) W) (w:World) (t:∀ (a b:UInt64) (W:World),Below w.heap.size w W→Calls Tryz.prog F #[U a,U b,.pointer (some ⟨d,0,none⟩)] W fun e w'=>e=.returned (U (f a b))∧W=w')
  (A g:Option Addr) (n m c j q:Nat) (x y:List UInt64) (v:∀ k,X k→k<w.heap.size) (l:q=max n m) (p:n=x.length) (r:m=y.length) (z:1≤n) (B:1≤m) (C:n≤1000) (D:m≤1000) (h:RdX X w A (x.map U)) (E:RdX X w g (y.map U)):
  Calls Tryz.prog 156 #[.slice A n c,.slice g m j,.func (.func F) #[] #[.pointer (some ⟨d,0,none⟩)]] w (ZiQ X w q (eachP f x y)):=by
 refine (ZiI F d f A g n m c j x y w p r z B C D s t h.rd E.rd).mono ?_
 rintro e w' ⟨rfl,H,I⟩
 refine ⟨w.heap.size,by rw [l],ZeX H (Kag _) v (by rw [l,ZbH,p,r]) (by omega),I⟩
theorem ZiR {wr W a:World} {g b o:Nat} {v e f i j k:Value} (h:W.cell? ⟨g,o,none⟩=some v∧W.cell? ⟨b,0,none⟩=some e∧W.cell? ⟨b,1,none⟩=some f∧W.cell? ⟨b,2,none⟩=some i∧W.cell? ⟨b,3,none⟩=some j∧W.cell? ⟨b,4,none⟩=some k∧g<W.heap.size∧b<W.heap.size∧Below wr.heap.size wr W) (c:Below W.heap.size W a):
  a.cell? ⟨g,o,none⟩=some v∧a.cell? ⟨b,0,none⟩=some e∧a.cell? ⟨b,1,none⟩=some f∧a.cell? ⟨b,2,none⟩=some i∧a.cell? ⟨b,3,none⟩=some j∧a.cell? ⟨b,4,none⟩=some k∧g<a.heap.size∧b<a.heap.size∧Below wr.heap.size wr a:=by
 obtain ⟨m,n,q,r,s,t,l,d,x⟩:=h;exact ⟨(c.cell (p:=⟨g,o,none⟩) l).trans m,(c.cell (p:=⟨b,0,none⟩) d).trans n,(c.cell (p:=⟨b,1,none⟩) d).trans q,(c.cell (p:=⟨b,2,none⟩) d).trans r,(c.cell (p:=⟨b,3,none⟩) d).trans s,(c.cell (p:=⟨b,4,none⟩) d).trans t,Kae l c.size,Kae d c.size,bnext x c⟩
theorem ZfA {wr W a:World} {g b o e:Nat} {v i j k l m n:Value} (h:W.cell? ⟨g,o,none⟩=some v∧W.cell? ⟨g,e,none⟩=some i∧W.cell? ⟨b,0,none⟩=some j∧W.cell? ⟨b,1,none⟩=some k∧W.cell? ⟨b,2,none⟩=some l∧W.cell? ⟨b,3,none⟩=some m∧W.cell? ⟨b,4,none⟩=some n∧g<W.heap.size∧b<W.heap.size∧Below wr.heap.size wr W) (c:Below W.heap.size W a):
  a.cell? ⟨g,o,none⟩=some v∧a.cell? ⟨g,e,none⟩=some i∧a.cell? ⟨b,0,none⟩=some j∧a.cell? ⟨b,1,none⟩=some k∧a.cell? ⟨b,2,none⟩=some l∧a.cell? ⟨b,3,none⟩=some m∧a.cell? ⟨b,4,none⟩=some n∧g<a.heap.size∧b<a.heap.size∧Below wr.heap.size wr a:=by
 obtain ⟨q,r,s,t,x,y,z,f,d,A⟩:=h;exact ⟨(c.cell (p:=⟨g,o,none⟩) f).trans q,(c.cell (p:=⟨g,e,none⟩) f).trans r,(c.cell (p:=⟨b,0,none⟩) d).trans s,(c.cell (p:=⟨b,1,none⟩) d).trans t,(c.cell (p:=⟨b,2,none⟩) d).trans x,(c.cell (p:=⟨b,3,none⟩) d).trans y,(c.cell (p:=⟨b,4,none⟩) d).trans z,Kae f c.size,Kae d c.size,bnext A c⟩
theorem Znx {wr W a:World} {g d e f i:Nat} {j k l m:Value} (h:W.cell? ⟨g,d,none⟩=some j∧W.cell? ⟨g,e,none⟩=some k∧W.cell? ⟨g,f,none⟩=some l∧W.cell? ⟨g,i,none⟩=some m∧g<W.heap.size∧Below wr.heap.size wr W) (b:Below W.heap.size W a):
  a.cell? ⟨g,d,none⟩=some j∧a.cell? ⟨g,e,none⟩=some k∧a.cell? ⟨g,f,none⟩=some l∧a.cell? ⟨g,i,none⟩=some m∧g<a.heap.size∧Below wr.heap.size wr a:=by
 obtain ⟨n,q,r,s,c,t⟩:=h;exact ⟨(b.cell (p:=⟨g,d,none⟩) c).trans n,(b.cell (p:=⟨g,e,none⟩) c).trans q,(b.cell (p:=⟨g,f,none⟩) c).trans r,(b.cell (p:=⟨g,i,none⟩) c).trans s,Kae c b.size,bnext t b⟩
theorem last9 {a b c d e f g h i:Prop} (x:a∧b∧c∧d∧e∧f∧g∧h∧i):i:=x.2.2.2.2.2.2.2.2
theorem Zcw {a b c d e f g h i j:Prop} (x:a∧b∧c∧d∧e∧f∧g∧h∧i∧j):j:=x.2.2.2.2.2.2.2.2.2
theorem last6 {a b c d e f:Prop} (x:a∧b∧c∧d∧e∧f):f:=x.2.2.2.2.2
theorem WoV.rdx {X:Nat→Prop} {w:World} {A:Option Addr} {n c:Nat} {l:List UInt64} (h:WoV X w (.slice A n c) l):RdX X w A (l.map U)∧n=l.length:=by
 obtain ⟨e,f,a,_,_,b⟩:=h;injection a with a d _
 subst a;exact ⟨b,d⟩
theorem Zny {wr W a:World} {g c d:Nat} {f i:Value} (h:W.cell? ⟨g,c,none⟩=some f∧W.cell? ⟨g,d,none⟩=some i∧g<W.heap.size∧Below wr.heap.size wr W) (b:Below W.heap.size W a):
  a.cell? ⟨g,c,none⟩=some f∧a.cell? ⟨g,d,none⟩=some i∧g<a.heap.size∧Below wr.heap.size wr a:=by
 obtain ⟨j,k,e,l⟩:=h;exact ⟨(b.cell (p:=⟨g,c,none⟩) e).trans j,(b.cell (p:=⟨g,d,none⟩) e).trans k,Kae e b.size,bnext l b⟩
theorem last4 {a b c d:Prop} (x:a∧b∧c∧d):d:=x.2.2.2
theorem Zmn (B cb g vg:Nat) (Z:List Nat) (H I J:Option Addr) (L M v ec:Nat) (names:Zah) (V:Nat→TN) (N:List (List Int)) (x:ByteArray) (b:Nat) (y:Int) (l:Option Addr) (z:Nat) (w:World)
  (m:EvSt w B cb g vg Z H I J L M v ec names V N) (C:Rd w w.heap.size l (([]:List Int).map VI)) (a2:b≤18446744073709551615):
  Calls Tryz.prog 98 #[.pointer (some ⟨cb,0,none⟩),.agg #[.int .i64 1,.string x,.int .u64 (b:Int),.slice l 0 z,.int .i64 y]] w (ExOut (evX cb g vg Z) w ([UInt64.ofNat b])):=by
 obtain ⟨w2,h⟩:=Ky (w.alloc (.cells #[.int .i64 1,.string x,.int .u64 (b:Int),.slice l 0 z,.int .i64 y] 90));have i:=Kv h;have e:=Kw h;have O:=Kz h;have p:=Kz i;have P:=Kz (m.next i);have Q:=Kz m.lt;have a3:=Kz (C.next i);have q:=Kaa 3 e;have R:=Kz (fun W (S:Below w2.heap.size w2 W)=>(S.block w.heap.size (Kab.1 e).1).trans e)
 have D:w.heap.size<w2.heap.size:=(Kab.1 e).1;have T:=Kz D;have a4:=Kz (show ∀ a∈([]:List Nat),a<v from by simp)
 clear h i e m C D
 go_enter Tryz.func98,Tryz.ntmps98
 go_wp2_with fail
 rw [←O.o]
 go_wp2_with fail
 clear q
 go_loopw [5,13] (fun xv r wr=>∃ (k:Nat) (A:Option Addr) (c:Nat),k≤0∧r=.int .i64 k∧xv=.slice A k c∧OwnTn (evX cb g vg Z) w2 wr w2.heap.size A k c ((([]:List Nat).take k).map V)∧Below w2.heap.size w2 wr) (fun _ r _=>0-(intOf r).toNat)
 case atStart=>exact ⟨0,none,0,by omega,rfl,rfl,OwnTn.nil _ _ _ _,Kai _ _⟩
 case round=>
  obtain ⟨k,A,c,a5,rfl,rfl,E,j⟩:=hrel;have a6:=Kz E;have s:=Kz j;have d:=R.o _ j;have X:=P.o.next j;clear E j
  by_cases Y:k<0
  ·exact absurd Y (by omega)
  ·obtain rfl:k=0:=by omega
   have e0:=Kaa 0 d;have e1:=Kaa 1 d;have e2:=Kaa 2 d;have q:=Kaa 3 d;have e4:=Kaa 4 d;have a0:=Kz (p.o.trans (s.o.mono (Nat.le_of_lt T.o)));have F:Value.int .u64 (b:Int)=U (UInt64.ofNat b):=by
    have:=UInt64.toNat_ofNat' (n:=b)
    show _=Value.int .u64 ((UInt64.ofNat b).toNat:Int)
    rw [this,Nat.mod_eq_of_lt (by omega)]
   have a1:=Kz F;clear e1 q e4 d X F
   go_wp2
   go_ret;refine ⟨a0.o.alloc (Kah p.o.size s.o.size) _,_,rfl,?_⟩;rw [a1.o];exact Zgo Q.o (Kah p.o.size s.o.size)
theorem Zmo (B cb g vg:Nat) (Z:List Nat) (N O P:Option Addr) (Q R y ec:Nat) (names:Zah) (V:Nat→TN) (S:List (List Int)) (b:ByteArray) (z:Nat) (C:Int) (l:Option Addr) (D:Nat) (w:World)
  (m:EvSt w B cb g vg Z N O P Q R y ec names V S) (E:Rd w w.heap.size l (([]:List Int).map VI)) (n:(findN (shN names) b).isSome=true):
  Calls Tryz.prog 98 #[.pointer (some ⟨cb,0,none⟩),.agg #[.int .i64 2,.string b,.int .u64 (z:Int),.slice l 0 D,.int .i64 C]] w (ExOut (evX cb g vg Z) w ((findT names b).el)):=by
 obtain ⟨w2,h⟩:=Ky (w.alloc (.cells #[.int .i64 2,.string b,.int .u64 (z:Int),.slice l 0 D,.int .i64 C] 90));have i:=Kv h;have e:=Kw h;have T:=Kz h;have W:=Kz i;have X:=Kz (m.next i);have a7:=Kz m.lt;have a8:=Kz (E.next i);have p:=Kaa 3 e;have Y:=Kz (fun a0 (a1:Below w2.heap.size w2 a0)=>(a1.block w.heap.size (Kab.1 e).1).trans e)
 have F:w.heap.size<w2.heap.size:=(Kab.1 e).1;have a2:=Kz F;have a9:=Kz (show ∀ a∈([]:List Nat),a<y from by simp)
 clear h i e m E F
 go_enter Tryz.func98,Tryz.ntmps98
 go_wp2_with fail
 rw [←T.o]
 go_wp2_with fail
 clear p
 go_loopw [5,13] (fun xv r wr=>∃ (k:Nat) (A:Option Addr) (c:Nat),k≤0∧r=.int .i64 k∧xv=.slice A k c∧OwnTn (evX cb g vg Z) w2 wr w2.heap.size A k c ((([]:List Nat).take k).map V)∧Below w2.heap.size w2 wr) (fun _ r _=>0-(intOf r).toNat)
 case atStart=>exact ⟨0,none,0,by omega,rfl,rfl,OwnTn.nil _ _ _ _,Kai _ _⟩
 case round=>
  obtain ⟨k,A,c,b0,rfl,rfl,H,j⟩:=hrel;have b1:=Kz H;have a3:=Kz j;have d:=Y.o _ j;have s:=X.o.next j;clear H j
  by_cases I:k<0
  ·exact absurd I (by omega)
  ·obtain rfl:k=0:=by omega
   have e0:=Kaa 0 d;have e1:=Kaa 1 d;have e2:=Kaa 2 d;have p:=Kaa 3 d;have e4:=Kaa 4 d;have a4:=Kz (W.o.trans (a3.o.mono (Nat.le_of_lt a2.o)));obtain ⟨a5,J,L⟩:=s.hn;rcases L.find b with ⟨_,v⟩ | ⟨b2,b3,M,v,x,h4⟩
   ·rw [v] at n;cases n
   ·have h5:=x;obtain ⟨⟨A1,k1,rfl,-⟩,A2,k2,rfl,-⟩:=h5;have I:=fun q=>ZbS (w:=wr.drewN q) (show NamM (wr.drewN q) g a5 from J) b M
    have z2:=Kaa 2 s.hc;have a6:=Kz x;clear e2 p e4 d s J L M v x h4 n
    go_wp2_with fail
    go_quiet (fail)
    go_wp2
    go_ret;exact ⟨Zaa a4.o _,_,rfl,a6.o.2.next (Zaa (Kai _ _) _)⟩
theorem Zmp (B cb g vg:Nat) (Z:List Nat) (b9 c6 c7:Option Addr) (c8 d1 q ec:Nat) (names:Zah) (V:Nat→TN) (d2:List (List Int)) (r:ByteArray) (s:Nat) (v:Int) (d:Nat) (y:Option Addr) (F:Nat) (w:World)
  (S:EvSt w B cb g vg Z b9 c6 c7 c8 d1 q ec names V d2) (a0:Rd w w.heap.size y (([(d:Int)]:List Int).map VI)) (f5:d<q) (d3:1≤(V d).el.length∧(V d).el.length≤32):
  Calls Tryz.prog 98 #[.pointer (some ⟨cb,0,none⟩),.agg #[.int .i64 3,.string r,.int .u64 (s:Int),.slice y 1 F,.int .i64 v]] w (ExOut (evX cb g vg Z) w (eachP (fun a b=>negW a) (V d).el (V d).el)):=by
 obtain ⟨w2,H⟩:=Ky (w.alloc (.cells #[.int .i64 3,.string r,.int .u64 (s:Int),.slice y 1 F,.int .i64 v] 90));have I:=Kv H;have z:=Kw H;have d4:=Kz H;have T:=Kz I;have J:=Kz (S.next I);have d5:=Kz S.lt;have d6:=Kz (a0.next I);have L:=Kaa 3 z;have d7:=Kz (fun W (C:Below w2.heap.size w2 W)=>(C.block w.heap.size (Kab.1 z).1).trans z)
 have a1:w.heap.size<w2.heap.size:=(Kab.1 z).1;have d8:=Kz a1;have d9:=Kz (show ∀ a∈([d]:List Nat),a<q from by simp;omega)
 have e3:=Kz d3;clear H I z S a0 a1
 go_enter Tryz.func98,Tryz.ntmps98
 go_wp2_with fail
 rw [←d4.o]
 go_wp2_with fail
 clear L
 go_loopw [5,13] (fun xv Y wr=>∃ (k:Nat) (A:Option Addr) (c:Nat),k≤1∧Y=.int .i64 k∧xv=.slice A k c∧OwnTn (evX cb g vg Z) w2 wr w2.heap.size A k c ((([d]:List Nat).take k).map V)∧Below w2.heap.size w2 wr) (fun _ Y _=>1-(intOf Y).toNat)
 case atStart=>exact ⟨0,none,0,by omega,rfl,rfl,OwnTn.nil _ _ _ _,Kai _ _⟩
 case round=>
  obtain ⟨k,A,c,a2,rfl,rfl,a3,M⟩:=hrel;have a4:=Kz a3;have h:=Kz M;have i:=d7.o _ M;have N:=J.o.next M;clear a3 M
  by_cases a5:k<1
  ·have D:([d]:List Nat)[k]?=some (([d]:List Nat)[k]'a5):=Kad _;obtain ⟨a,a6⟩:=Ky (([d]:List Nat)[k]'a5);rw [←a6] at D;have e5:a<q:=d9.o a (Kam D);obtain ⟨b2,o2,rfl,e6,d0⟩:=(d6.o.next h.o).at_ (show (([(d:Int)]:List Int).map VI)[k]?=some (VI (a:Int)) by
    rw [show (([(d:Int)]:List Int):List Int)=([d]:List Nat).map Int.ofNat from rfl,Kal,Kal,D];rfl)
   unfold VI at d0;obtain ⟨A1,c1,A2,c2,v0,v1,a7⟩:=J.o.val e5;have f6:=(h.o.cell (p:=⟨vg,a*2,none⟩) (J.o.lt _ (.inr (.inr (.inl rfl))))).trans v0;have f7:=(h.o.cell (p:=⟨vg,a*2+1,none⟩) (J.o.lt _ (.inr (.inr (.inl rfl))))).trans v1;have k0:(0:Int)≤(k:Int):=by omega
   have k1:(k:Int)<((1:Nat):Int):=by omega
   have f8:(0:Int)≤(a:Int):=by omega
   have f9:(a:Int)<(q:Int):=by omega
   have z2:=Kaa 2 N.hc;have z3:=Kaa 3 N.hc;have e7:=Kz a7;have e8:=Kz (show (([d]:List Nat).take (k+1)).map V=(([d]:List Nat).take k).map V++[V a] from by
    rw [List.take_add_one,D,List.map_append];rfl)
   clear D a6 v0 v1 a7 e6 i N
   go_wp2_with (at_builtin;(refine appTn rfl (.tmp 17) (.tmp 25) rfl w2.heap.size A c k ((([d]:List Nat).take k).map V) rfl (a4.o.next ((Kai _ _).alloc (Kag _) _)) wr.heap.size rfl (.slice A1 (V a).sh.length c1,.slice A2 (V a).el.length c2) (V a) (Kac wr _) e7.o (by omega) (by have:=h.o.size;simp;omega) ?_);intro A5 c5 w5 o5 b5;have O5:=Kz o5;have B5:=Kz ((h.o.alloc h.o.size _).trans b5);clear o5 b5)
   exact ⟨⟨k+1,A5,c5,by omega,rfl,rfl,by rw [e8.o];exact O5.o,B5.o⟩,by simp [intOf];omega⟩
  ·obtain rfl:k=1:=by omega
   have e0:=Kaa 0 i;have e1:=Kaa 1 i;have e2:=Kaa 2 i;have L:=Kaa 3 i;have e4:=Kaa 4 i;have e9:=Kz (T.o.trans (h.o.mono (Nat.le_of_lt d8.o)));obtain ⟨O,p0,q0,n,P,f0,a8,E,a9⟩:=a4.o.at_ (j:=0) (x:=V d) rfl;subst f0;simp only [Nat.reduceMul,Nat.reduceAdd] at a8 E;have b0:=Kz a9;clear a9;have b1:=World.block_lt_of_cell? wr _ E;obtain ⟨l,Q⟩:=Ky ((V d).el.length);rw [←Q] at E;have b3:=Kz Q;have R:=Kz (show 1≤l∧l≤1000 from by have:=e3.o;rw [←Q] at this;omega)
   clear Q;obtain ⟨f1,b7⟩:=Ky (max l l);have f2:=Kz b7;have b8:=(Kab.1 i).1;have f3:=Kz (fun W (C:Below w2.heap.size w2 W)=>Zcv (X:=evX cb g vg Z) 184 (fun a b=>negW a) ent_3 (fun a b W=>ZkU a b W) n n l l P P f1 (V d).el (V d).el W (fun k a2=>Kae (d5.o k a2) (T.o.trans (C.mono T.o.size)).size) f2.o b3.o b3.o R.o.1 R.o.1 R.o.2 R.o.2 (show RdX (evX cb g vg Z) W n ((V d).el.map U) from by obtain ⟨_,A9,c9,m,_,_,r9⟩:=b0.o;injection m with m _ _;subst m;exact r9.keep (KeepX.of C)) (show RdX (evX cb g vg Z) W n ((V d).el.map U) from by obtain ⟨_,A9,c9,m,_,_,r9⟩:=b0.o;injection m with m _ _;subst m;exact r9.keep (KeepX.of C)))
   have S0:=Kz (show wr.drew.cell? ⟨O,1,none⟩=some (.slice n l P)∧wr.drew.cell? ⟨w.heap.size,0,none⟩=some (.int .i64 3)∧wr.drew.cell? ⟨w.heap.size,1,none⟩=some (.string r)∧wr.drew.cell? ⟨w.heap.size,2,none⟩=some (.int .u64 (s:Int))∧wr.drew.cell? ⟨w.heap.size,3,none⟩=some (.slice y 1 F)∧wr.drew.cell? ⟨w.heap.size,4,none⟩=some (.int .i64 v)∧O<wr.drew.heap.size∧w.heap.size<wr.drew.heap.size∧Below wr.heap.size wr wr.drew from ⟨E,e0,e1,e2,L,e4,b1,b8,(Kai _ _).drew⟩)
   clear a8 E b7 e1 e2 L e4 i N b8 b1
   go_wp2_with fail
   go_region_held3 (fun e=>e.cell? ⟨O,1,none⟩=some (.slice n l P)∧e.cell? ⟨w.heap.size,0,none⟩=some (.int .i64 3)∧e.cell? ⟨w.heap.size,1,none⟩=some (.string r)∧e.cell? ⟨w.heap.size,2,none⟩=some (.int .u64 (s:Int))∧e.cell? ⟨w.heap.size,3,none⟩=some (.slice y 1 F)∧e.cell? ⟨w.heap.size,4,none⟩=some (.int .i64 v)∧O<e.heap.size∧w.heap.size<e.heap.size∧Below wr.heap.size wr e) (first | with_reducible exact S0.o | assumption | exact ZiR (by assumption) (by assumption))
    (first
     | (go_at_call 161;refine (two_3 r s _ v _).mono ?_;rintro f4 w4 ⟨rfl,b4⟩)
     | (go_at_call 156;refine (f3.o _ ?_).mono ?_;(refine bnext h.o ?_;apply last9;assumption);rintro f4 w6 ⟨g0,rfl,k6,b6⟩))
   all_goals
    go_wp2
    go_ret;refine ⟨bnext e9.o ?_,_,rfl,k6⟩;apply last9;assumption
theorem Zmq (B cb g vg:Nat) (Z:List Nat) (d3 d4 d5:Option Addr) (d6 d7 n ec:Nat) (names:Zah) (V:Nat→TN) (d8:List (List Int)) (v:ByteArray) (y:Nat) (z:Int) (d e:Nat) (C:Option Addr) (J:Nat) (w:World)
  (a1:EvSt w B cb g vg Z d3 d4 d5 d6 d7 n ec names V d8) (a5:Rd w w.heap.size C (([(d:Int),(e:Int)]:List Int).map VI)) (g8:d<n) (g9:e<n) (d9:1≤(V d).el.length∧(V d).el.length≤32) (e3:1≤(V e).el.length∧(V e).el.length≤32):
  Calls Tryz.prog 98 #[.pointer (some ⟨cb,0,none⟩),.agg #[.int .i64 4,.string v,.int .u64 (y:Int),.slice C 2 J,.int .i64 z]] w (ExOut (evX cb g vg Z) w (eachP (fun a b=>addW a b) (V d).el (V e).el)):=by
 obtain ⟨w2,L⟩:=Ky (w.alloc (.cells #[.int .i64 4,.string v,.int .u64 (y:Int),.slice C 2 J,.int .i64 z] 90));have M:=Kv L;have D:=Kw L;have e5:=Kz L;have a2:=Kz M;have N:=Kz (a1.next M);have e6:=Kz a1.lt;have e7:=Kz (a5.next M);have O:=Kaa 3 D;have e8:=Kz (fun W (E:Below w2.heap.size w2 W)=>(E.block w.heap.size (Kab.1 D).1).trans D)
 have a6:w.heap.size<w2.heap.size:=(Kab.1 D).1;have e9:=Kz a6;have f0:=Kz (show ∀ a∈([d,e]:List Nat),a<n from by simp;omega)
 have f1:=Kz d9;have f2:=Kz e3;clear L M D a1 a5 a6
 go_enter Tryz.func98,Tryz.ntmps98
 go_wp2_with fail
 rw [←e5.o]
 go_wp2_with fail
 clear O
 go_loopw [5,13] (fun xv a3 wr=>∃ (k:Nat) (A:Option Addr) (c:Nat),k≤2∧a3=.int .i64 k∧xv=.slice A k c∧OwnTn (evX cb g vg Z) w2 wr w2.heap.size A k c ((([d,e]:List Nat).take k).map V)∧Below w2.heap.size w2 wr) (fun _ a3 _=>2-(intOf a3).toNat)
 case atStart=>exact ⟨0,none,0,by omega,rfl,rfl,OwnTn.nil _ _ _ _,Kai _ _⟩
 case round=>
  obtain ⟨k,A,c,a7,rfl,rfl,a8,P⟩:=hrel;have a4:=Kz a8;have i:=Kz P;have l:=e8.o _ P;have Q:=N.o.next P;clear a8 P
  by_cases a9:k<2
  ·have F:([d,e]:List Nat)[k]?=some (([d,e]:List Nat)[k]'a9):=Kad _;obtain ⟨a,b0⟩:=Ky (([d,e]:List Nat)[k]'a9);rw [←b0] at F;have f3:a<n:=f0.o a (Kam F);obtain ⟨b2,o2,rfl,f4,d0⟩:=(e7.o.next i.o).at_ (show (([(d:Int),(e:Int)]:List Int).map VI)[k]?=some (VI (a:Int)) by
    rw [show (([(d:Int),(e:Int)]:List Int):List Int)=([d,e]:List Nat).map Int.ofNat from rfl,Kal,Kal,F];rfl)
   unfold VI at d0;obtain ⟨A1,c1,A2,c2,v0,v1,b1⟩:=N.o.val f3;have h0:=(i.o.cell (p:=⟨vg,a*2,none⟩) (N.o.lt _ (.inr (.inr (.inl rfl))))).trans v0;have h1:=(i.o.cell (p:=⟨vg,a*2+1,none⟩) (N.o.lt _ (.inr (.inr (.inl rfl))))).trans v1;have k0:(0:Int)≤(k:Int):=by omega
   have k1:(k:Int)<((2:Nat):Int):=by omega
   have h2:(0:Int)≤(a:Int):=by omega
   have h3:(a:Int)<(n:Int):=by omega
   have z2:=Kaa 2 Q.hc;have z3:=Kaa 3 Q.hc;have f5:=Kz b1;have f6:=Kz (show (([d,e]:List Nat).take (k+1)).map V=(([d,e]:List Nat).take k).map V++[V a] from by
    rw [List.take_add_one,F,List.map_append];rfl)
   clear F b0 v0 v1 b1 f4 l Q
   go_wp2_with (at_builtin;(refine appTn rfl (.tmp 17) (.tmp 25) rfl w2.heap.size A c k ((([d,e]:List Nat).take k).map V) rfl (a4.o.next ((Kai _ _).alloc (Kag _) _)) wr.heap.size rfl (.slice A1 (V a).sh.length c1,.slice A2 (V a).el.length c2) (V a) (Kac wr _) f5.o (by omega) (by have:=i.o.size;simp;omega) ?_);intro A5 c5 w5 o5 b5;have O5:=Kz o5;have B5:=Kz ((i.o.alloc i.o.size _).trans b5);clear o5 b5)
   exact ⟨⟨k+1,A5,c5,by omega,rfl,rfl,by rw [f6.o];exact O5.o,B5.o⟩,by simp [intOf];omega⟩
  ·obtain rfl:k=2:=by omega
   have e0:=Kaa 0 l;have e1:=Kaa 1 l;have e2:=Kaa 2 l;have O:=Kaa 3 l;have e4:=Kaa 4 l;have f7:=Kz (a2.o.trans (i.o.mono (Nat.le_of_lt e9.o)));obtain ⟨q,p0,q0,R,t0,f8,b3,H,b7⟩:=a4.o.at_ (j:=0) (x:=V d) rfl;subst f8;obtain ⟨g1,p1,q1,S,t1,I,b8,T,b9⟩:=a4.o.at_ (j:=1) (x:=V e) rfl;injection I with I
   injection I with I _ _
   subst I;simp only [Nat.reduceMul,Nat.reduceAdd] at b3 H;simp only [Nat.reduceMul,Nat.reduceAdd] at b8 T;have f9:=Kz b7;clear b7;have g0:=Kz b9;clear b9;have c6:=World.block_lt_of_cell? wr _ H;obtain ⟨r,Y⟩:=Ky ((V d).el.length);rw [←Y] at H;have g2:=Kz Y;have c7:=Kz (show 1≤r∧r≤1000 from by have:=f1.o;rw [←Y] at this;omega)
   clear Y;obtain ⟨s,a0⟩:=Ky ((V e).el.length);rw [←a0] at T;have g3:=Kz a0;have c8:=Kz (show 1≤s∧s≤1000 from by have:=f2.o;rw [←a0] at this;omega)
   clear a0;obtain ⟨g4,d1⟩:=Ky (max r s);have g5:=Kz d1;have d2:=(Kab.1 l).1;have g6:=Kz (fun W (E:Below w2.heap.size w2 W)=>Zcv (X:=evX cb g vg Z) 185 (fun a b=>addW a b) ent_4 (fun a b W=>ZkV a b W) R S r s t0 t1 g4 (V d).el (V e).el W (fun k a7=>Kae (e6.o k a7) (a2.o.trans (E.mono a2.o.size)).size) g5.o g2.o g3.o c7.o.1 c8.o.1 c7.o.2 c8.o.2 (show RdX (evX cb g vg Z) W R ((V d).el.map U) from by obtain ⟨_,A9,c9,m,_,_,r9⟩:=f9.o;injection m with m _ _;subst m;exact r9.keep (KeepX.of E)) (show RdX (evX cb g vg Z) W S ((V e).el.map U) from by obtain ⟨_,A9,c9,m,_,_,r9⟩:=g0.o;injection m with m _ _;subst m;exact r9.keep (KeepX.of E)))
   have S0:=Kz (show wr.drew.cell? ⟨q,1,none⟩=some (.slice R r t0)∧wr.drew.cell? ⟨q,3,none⟩=some (.slice S s t1)∧wr.drew.cell? ⟨w.heap.size,0,none⟩=some (.int .i64 4)∧wr.drew.cell? ⟨w.heap.size,1,none⟩=some (.string v)∧wr.drew.cell? ⟨w.heap.size,2,none⟩=some (.int .u64 (y:Int))∧wr.drew.cell? ⟨w.heap.size,3,none⟩=some (.slice C 2 J)∧wr.drew.cell? ⟨w.heap.size,4,none⟩=some (.int .i64 z)∧q<wr.drew.heap.size∧w.heap.size<wr.drew.heap.size∧Below wr.heap.size wr wr.drew from ⟨H,T,e0,e1,e2,O,e4,c6,d2,(Kai _ _).drew⟩)
   clear b3 H b8 T d1 e1 e2 O e4 l Q d2 c6
   go_wp2_with fail
   go_region_held3 (fun h=>h.cell? ⟨q,1,none⟩=some (.slice R r t0)∧h.cell? ⟨q,3,none⟩=some (.slice S s t1)∧h.cell? ⟨w.heap.size,0,none⟩=some (.int .i64 4)∧h.cell? ⟨w.heap.size,1,none⟩=some (.string v)∧h.cell? ⟨w.heap.size,2,none⟩=some (.int .u64 (y:Int))∧h.cell? ⟨w.heap.size,3,none⟩=some (.slice C 2 J)∧h.cell? ⟨w.heap.size,4,none⟩=some (.int .i64 z)∧q<h.heap.size∧w.heap.size<h.heap.size∧Below wr.heap.size wr h) (first | with_reducible exact S0.o | assumption | exact ZfA (by assumption) (by assumption))
    (first
     | (go_at_call 161;refine (two_4 v y _ z _).mono ?_;rintro g7 w4 ⟨rfl,b4⟩)
     | (go_at_call 156;refine (g6.o _ ?_).mono ?_;(refine bnext i.o ?_;apply Zcw;assumption);rintro g7 w6 ⟨h4,rfl,k6,b6⟩))
   all_goals
    go_wp2
    go_ret;refine ⟨bnext f7.o ?_,_,rfl,k6⟩;apply Zcw;assumption
theorem Zmr (B cb g vg:Nat) (Z:List Nat) (d3 d4 d5:Option Addr) (d6 d7 n ec:Nat) (names:Zah) (V:Nat→TN) (d8:List (List Int)) (v:ByteArray) (y:Nat) (z:Int) (d e:Nat) (C:Option Addr) (J:Nat) (w:World)
  (a1:EvSt w B cb g vg Z d3 d4 d5 d6 d7 n ec names V d8) (a5:Rd w w.heap.size C (([(d:Int),(e:Int)]:List Int).map VI)) (g8:d<n) (g9:e<n) (d9:1≤(V d).el.length∧(V d).el.length≤32) (e3:1≤(V e).el.length∧(V e).el.length≤32):
  Calls Tryz.prog 98 #[.pointer (some ⟨cb,0,none⟩),.agg #[.int .i64 5,.string v,.int .u64 (y:Int),.slice C 2 J,.int .i64 z]] w (ExOut (evX cb g vg Z) w (eachP (fun a b=>subW a b) (V d).el (V e).el)):=by
 obtain ⟨w2,L⟩:=Ky (w.alloc (.cells #[.int .i64 5,.string v,.int .u64 (y:Int),.slice C 2 J,.int .i64 z] 90));have M:=Kv L;have D:=Kw L;have e5:=Kz L;have a2:=Kz M;have N:=Kz (a1.next M);have e6:=Kz a1.lt;have e7:=Kz (a5.next M);have O:=Kaa 3 D;have e8:=Kz (fun W (E:Below w2.heap.size w2 W)=>(E.block w.heap.size (Kab.1 D).1).trans D)
 have a6:w.heap.size<w2.heap.size:=(Kab.1 D).1;have e9:=Kz a6;have f0:=Kz (show ∀ a∈([d,e]:List Nat),a<n from by simp;omega)
 have f1:=Kz d9;have f2:=Kz e3;clear L M D a1 a5 a6
 go_enter Tryz.func98,Tryz.ntmps98
 go_wp2_with fail
 rw [←e5.o]
 go_wp2_with fail
 clear O
 go_loopw [5,13] (fun xv a3 wr=>∃ (k:Nat) (A:Option Addr) (c:Nat),k≤2∧a3=.int .i64 k∧xv=.slice A k c∧OwnTn (evX cb g vg Z) w2 wr w2.heap.size A k c ((([d,e]:List Nat).take k).map V)∧Below w2.heap.size w2 wr) (fun _ a3 _=>2-(intOf a3).toNat)
 case atStart=>exact ⟨0,none,0,by omega,rfl,rfl,OwnTn.nil _ _ _ _,Kai _ _⟩
 case round=>
  obtain ⟨k,A,c,a7,rfl,rfl,a8,P⟩:=hrel;have a4:=Kz a8;have i:=Kz P;have l:=e8.o _ P;have Q:=N.o.next P;clear a8 P
  by_cases a9:k<2
  ·have F:([d,e]:List Nat)[k]?=some (([d,e]:List Nat)[k]'a9):=Kad _;obtain ⟨a,b0⟩:=Ky (([d,e]:List Nat)[k]'a9);rw [←b0] at F;have f3:a<n:=f0.o a (Kam F);obtain ⟨b2,o2,rfl,f4,d0⟩:=(e7.o.next i.o).at_ (show (([(d:Int),(e:Int)]:List Int).map VI)[k]?=some (VI (a:Int)) by
    rw [show (([(d:Int),(e:Int)]:List Int):List Int)=([d,e]:List Nat).map Int.ofNat from rfl,Kal,Kal,F];rfl)
   unfold VI at d0;obtain ⟨A1,c1,A2,c2,v0,v1,b1⟩:=N.o.val f3;have h0:=(i.o.cell (p:=⟨vg,a*2,none⟩) (N.o.lt _ (.inr (.inr (.inl rfl))))).trans v0;have h1:=(i.o.cell (p:=⟨vg,a*2+1,none⟩) (N.o.lt _ (.inr (.inr (.inl rfl))))).trans v1;have k0:(0:Int)≤(k:Int):=by omega
   have k1:(k:Int)<((2:Nat):Int):=by omega
   have h2:(0:Int)≤(a:Int):=by omega
   have h3:(a:Int)<(n:Int):=by omega
   have z2:=Kaa 2 Q.hc;have z3:=Kaa 3 Q.hc;have f5:=Kz b1;have f6:=Kz (show (([d,e]:List Nat).take (k+1)).map V=(([d,e]:List Nat).take k).map V++[V a] from by
    rw [List.take_add_one,F,List.map_append];rfl)
   clear F b0 v0 v1 b1 f4 l Q
   go_wp2_with (at_builtin;(refine appTn rfl (.tmp 17) (.tmp 25) rfl w2.heap.size A c k ((([d,e]:List Nat).take k).map V) rfl (a4.o.next ((Kai _ _).alloc (Kag _) _)) wr.heap.size rfl (.slice A1 (V a).sh.length c1,.slice A2 (V a).el.length c2) (V a) (Kac wr _) f5.o (by omega) (by have:=i.o.size;simp;omega) ?_);intro A5 c5 w5 o5 b5;have O5:=Kz o5;have B5:=Kz ((i.o.alloc i.o.size _).trans b5);clear o5 b5)
   exact ⟨⟨k+1,A5,c5,by omega,rfl,rfl,by rw [f6.o];exact O5.o,B5.o⟩,by simp [intOf];omega⟩
  ·obtain rfl:k=2:=by omega
   have e0:=Kaa 0 l;have e1:=Kaa 1 l;have e2:=Kaa 2 l;have O:=Kaa 3 l;have e4:=Kaa 4 l;have f7:=Kz (a2.o.trans (i.o.mono (Nat.le_of_lt e9.o)));obtain ⟨q,p0,q0,R,t0,f8,b3,H,b7⟩:=a4.o.at_ (j:=0) (x:=V d) rfl;subst f8;obtain ⟨g1,p1,q1,S,t1,I,b8,T,b9⟩:=a4.o.at_ (j:=1) (x:=V e) rfl;injection I with I
   injection I with I _ _
   subst I;simp only [Nat.reduceMul,Nat.reduceAdd] at b3 H;simp only [Nat.reduceMul,Nat.reduceAdd] at b8 T;have f9:=Kz b7;clear b7;have g0:=Kz b9;clear b9;have c6:=World.block_lt_of_cell? wr _ H;obtain ⟨r,Y⟩:=Ky ((V d).el.length);rw [←Y] at H;have g2:=Kz Y;have c7:=Kz (show 1≤r∧r≤1000 from by have:=f1.o;rw [←Y] at this;omega)
   clear Y;obtain ⟨s,a0⟩:=Ky ((V e).el.length);rw [←a0] at T;have g3:=Kz a0;have c8:=Kz (show 1≤s∧s≤1000 from by have:=f2.o;rw [←a0] at this;omega)
   clear a0;obtain ⟨g4,d1⟩:=Ky (max r s);have g5:=Kz d1;have d2:=(Kab.1 l).1;have g6:=Kz (fun W (E:Below w2.heap.size w2 W)=>Zcv (X:=evX cb g vg Z) 186 (fun a b=>subW a b) ent_5 (fun a b W=>ZkW a b W) R S r s t0 t1 g4 (V d).el (V e).el W (fun k a7=>Kae (e6.o k a7) (a2.o.trans (E.mono a2.o.size)).size) g5.o g2.o g3.o c7.o.1 c8.o.1 c7.o.2 c8.o.2 (show RdX (evX cb g vg Z) W R ((V d).el.map U) from by obtain ⟨_,A9,c9,m,_,_,r9⟩:=f9.o;injection m with m _ _;subst m;exact r9.keep (KeepX.of E)) (show RdX (evX cb g vg Z) W S ((V e).el.map U) from by obtain ⟨_,A9,c9,m,_,_,r9⟩:=g0.o;injection m with m _ _;subst m;exact r9.keep (KeepX.of E)))
   have S0:=Kz (show wr.drew.cell? ⟨q,1,none⟩=some (.slice R r t0)∧wr.drew.cell? ⟨q,3,none⟩=some (.slice S s t1)∧wr.drew.cell? ⟨w.heap.size,0,none⟩=some (.int .i64 5)∧wr.drew.cell? ⟨w.heap.size,1,none⟩=some (.string v)∧wr.drew.cell? ⟨w.heap.size,2,none⟩=some (.int .u64 (y:Int))∧wr.drew.cell? ⟨w.heap.size,3,none⟩=some (.slice C 2 J)∧wr.drew.cell? ⟨w.heap.size,4,none⟩=some (.int .i64 z)∧q<wr.drew.heap.size∧w.heap.size<wr.drew.heap.size∧Below wr.heap.size wr wr.drew from ⟨H,T,e0,e1,e2,O,e4,c6,d2,(Kai _ _).drew⟩)
   clear b3 H b8 T d1 e1 e2 O e4 l Q d2 c6
   go_wp2_with fail
   go_region_held3 (fun h=>h.cell? ⟨q,1,none⟩=some (.slice R r t0)∧h.cell? ⟨q,3,none⟩=some (.slice S s t1)∧h.cell? ⟨w.heap.size,0,none⟩=some (.int .i64 5)∧h.cell? ⟨w.heap.size,1,none⟩=some (.string v)∧h.cell? ⟨w.heap.size,2,none⟩=some (.int .u64 (y:Int))∧h.cell? ⟨w.heap.size,3,none⟩=some (.slice C 2 J)∧h.cell? ⟨w.heap.size,4,none⟩=some (.int .i64 z)∧q<h.heap.size∧w.heap.size<h.heap.size∧Below wr.heap.size wr h) (first | with_reducible exact S0.o | assumption | exact ZfA (by assumption) (by assumption))
    (first
     | (go_at_call 161;refine (two_5 v y _ z _).mono ?_;rintro g7 w4 ⟨rfl,b4⟩)
     | (go_at_call 156;refine (g6.o _ ?_).mono ?_;(refine bnext i.o ?_;apply Zcw;assumption);rintro g7 w6 ⟨h4,rfl,k6,b6⟩))
   all_goals
    go_wp2
    go_ret;refine ⟨bnext f7.o ?_,_,rfl,k6⟩;apply Zcw;assumption
theorem Zms (B cb g vg:Nat) (Z:List Nat) (d3 d4 d5:Option Addr) (d6 d7 n ec:Nat) (names:Zah) (V:Nat→TN) (d8:List (List Int)) (v:ByteArray) (y:Nat) (z:Int) (d e:Nat) (C:Option Addr) (J:Nat) (w:World)
  (a1:EvSt w B cb g vg Z d3 d4 d5 d6 d7 n ec names V d8) (a5:Rd w w.heap.size C (([(d:Int),(e:Int)]:List Int).map VI)) (g8:d<n) (g9:e<n) (d9:1≤(V d).el.length∧(V d).el.length≤32) (e3:1≤(V e).el.length∧(V e).el.length≤32):
  Calls Tryz.prog 98 #[.pointer (some ⟨cb,0,none⟩),.agg #[.int .i64 6,.string v,.int .u64 (y:Int),.slice C 2 J,.int .i64 z]] w (ExOut (evX cb g vg Z) w (eachP (fun a b=>mulW a b) (V d).el (V e).el)):=by
 obtain ⟨w2,L⟩:=Ky (w.alloc (.cells #[.int .i64 6,.string v,.int .u64 (y:Int),.slice C 2 J,.int .i64 z] 90));have M:=Kv L;have D:=Kw L;have e5:=Kz L;have a2:=Kz M;have N:=Kz (a1.next M);have e6:=Kz a1.lt;have e7:=Kz (a5.next M);have O:=Kaa 3 D;have e8:=Kz (fun W (E:Below w2.heap.size w2 W)=>(E.block w.heap.size (Kab.1 D).1).trans D)
 have a6:w.heap.size<w2.heap.size:=(Kab.1 D).1;have e9:=Kz a6;have f0:=Kz (show ∀ a∈([d,e]:List Nat),a<n from by simp;omega)
 have f1:=Kz d9;have f2:=Kz e3;clear L M D a1 a5 a6
 go_enter Tryz.func98,Tryz.ntmps98
 go_wp2_with fail
 rw [←e5.o]
 go_wp2_with fail
 clear O
 go_loopw [5,13] (fun xv a3 wr=>∃ (k:Nat) (A:Option Addr) (c:Nat),k≤2∧a3=.int .i64 k∧xv=.slice A k c∧OwnTn (evX cb g vg Z) w2 wr w2.heap.size A k c ((([d,e]:List Nat).take k).map V)∧Below w2.heap.size w2 wr) (fun _ a3 _=>2-(intOf a3).toNat)
 case atStart=>exact ⟨0,none,0,by omega,rfl,rfl,OwnTn.nil _ _ _ _,Kai _ _⟩
 case round=>
  obtain ⟨k,A,c,a7,rfl,rfl,a8,P⟩:=hrel;have a4:=Kz a8;have i:=Kz P;have l:=e8.o _ P;have Q:=N.o.next P;clear a8 P
  by_cases a9:k<2
  ·have F:([d,e]:List Nat)[k]?=some (([d,e]:List Nat)[k]'a9):=Kad _;obtain ⟨a,b0⟩:=Ky (([d,e]:List Nat)[k]'a9);rw [←b0] at F;have f3:a<n:=f0.o a (Kam F);obtain ⟨b2,o2,rfl,f4,d0⟩:=(e7.o.next i.o).at_ (show (([(d:Int),(e:Int)]:List Int).map VI)[k]?=some (VI (a:Int)) by
    rw [show (([(d:Int),(e:Int)]:List Int):List Int)=([d,e]:List Nat).map Int.ofNat from rfl,Kal,Kal,F];rfl)
   unfold VI at d0;obtain ⟨A1,c1,A2,c2,v0,v1,b1⟩:=N.o.val f3;have h0:=(i.o.cell (p:=⟨vg,a*2,none⟩) (N.o.lt _ (.inr (.inr (.inl rfl))))).trans v0;have h1:=(i.o.cell (p:=⟨vg,a*2+1,none⟩) (N.o.lt _ (.inr (.inr (.inl rfl))))).trans v1;have k0:(0:Int)≤(k:Int):=by omega
   have k1:(k:Int)<((2:Nat):Int):=by omega
   have h2:(0:Int)≤(a:Int):=by omega
   have h3:(a:Int)<(n:Int):=by omega
   have z2:=Kaa 2 Q.hc;have z3:=Kaa 3 Q.hc;have f5:=Kz b1;have f6:=Kz (show (([d,e]:List Nat).take (k+1)).map V=(([d,e]:List Nat).take k).map V++[V a] from by
    rw [List.take_add_one,F,List.map_append];rfl)
   clear F b0 v0 v1 b1 f4 l Q
   go_wp2_with (at_builtin;(refine appTn rfl (.tmp 17) (.tmp 25) rfl w2.heap.size A c k ((([d,e]:List Nat).take k).map V) rfl (a4.o.next ((Kai _ _).alloc (Kag _) _)) wr.heap.size rfl (.slice A1 (V a).sh.length c1,.slice A2 (V a).el.length c2) (V a) (Kac wr _) f5.o (by omega) (by have:=i.o.size;simp;omega) ?_);intro A5 c5 w5 o5 b5;have O5:=Kz o5;have B5:=Kz ((i.o.alloc i.o.size _).trans b5);clear o5 b5)
   exact ⟨⟨k+1,A5,c5,by omega,rfl,rfl,by rw [f6.o];exact O5.o,B5.o⟩,by simp [intOf];omega⟩
  ·obtain rfl:k=2:=by omega
   have e0:=Kaa 0 l;have e1:=Kaa 1 l;have e2:=Kaa 2 l;have O:=Kaa 3 l;have e4:=Kaa 4 l;have f7:=Kz (a2.o.trans (i.o.mono (Nat.le_of_lt e9.o)));obtain ⟨q,p0,q0,R,t0,f8,b3,H,b7⟩:=a4.o.at_ (j:=0) (x:=V d) rfl;subst f8;obtain ⟨g1,p1,q1,S,t1,I,b8,T,b9⟩:=a4.o.at_ (j:=1) (x:=V e) rfl;injection I with I
   injection I with I _ _
   subst I;simp only [Nat.reduceMul,Nat.reduceAdd] at b3 H;simp only [Nat.reduceMul,Nat.reduceAdd] at b8 T;have f9:=Kz b7;clear b7;have g0:=Kz b9;clear b9;have c6:=World.block_lt_of_cell? wr _ H;obtain ⟨r,Y⟩:=Ky ((V d).el.length);rw [←Y] at H;have g2:=Kz Y;have c7:=Kz (show 1≤r∧r≤1000 from by have:=f1.o;rw [←Y] at this;omega)
   clear Y;obtain ⟨s,a0⟩:=Ky ((V e).el.length);rw [←a0] at T;have g3:=Kz a0;have c8:=Kz (show 1≤s∧s≤1000 from by have:=f2.o;rw [←a0] at this;omega)
   clear a0;obtain ⟨g4,d1⟩:=Ky (max r s);have g5:=Kz d1;have d2:=(Kab.1 l).1;have g6:=Kz (fun W (E:Below w2.heap.size w2 W)=>Zcv (X:=evX cb g vg Z) 187 (fun a b=>mulW a b) ent_6 (fun a b W=>ZkX a b W) R S r s t0 t1 g4 (V d).el (V e).el W (fun k a7=>Kae (e6.o k a7) (a2.o.trans (E.mono a2.o.size)).size) g5.o g2.o g3.o c7.o.1 c8.o.1 c7.o.2 c8.o.2 (show RdX (evX cb g vg Z) W R ((V d).el.map U) from by obtain ⟨_,A9,c9,m,_,_,r9⟩:=f9.o;injection m with m _ _;subst m;exact r9.keep (KeepX.of E)) (show RdX (evX cb g vg Z) W S ((V e).el.map U) from by obtain ⟨_,A9,c9,m,_,_,r9⟩:=g0.o;injection m with m _ _;subst m;exact r9.keep (KeepX.of E)))
   have S0:=Kz (show wr.drew.cell? ⟨q,1,none⟩=some (.slice R r t0)∧wr.drew.cell? ⟨q,3,none⟩=some (.slice S s t1)∧wr.drew.cell? ⟨w.heap.size,0,none⟩=some (.int .i64 6)∧wr.drew.cell? ⟨w.heap.size,1,none⟩=some (.string v)∧wr.drew.cell? ⟨w.heap.size,2,none⟩=some (.int .u64 (y:Int))∧wr.drew.cell? ⟨w.heap.size,3,none⟩=some (.slice C 2 J)∧wr.drew.cell? ⟨w.heap.size,4,none⟩=some (.int .i64 z)∧q<wr.drew.heap.size∧w.heap.size<wr.drew.heap.size∧Below wr.heap.size wr wr.drew from ⟨H,T,e0,e1,e2,O,e4,c6,d2,(Kai _ _).drew⟩)
   clear b3 H b8 T d1 e1 e2 O e4 l Q d2 c6
   go_wp2_with fail
   go_region_held3 (fun h=>h.cell? ⟨q,1,none⟩=some (.slice R r t0)∧h.cell? ⟨q,3,none⟩=some (.slice S s t1)∧h.cell? ⟨w.heap.size,0,none⟩=some (.int .i64 6)∧h.cell? ⟨w.heap.size,1,none⟩=some (.string v)∧h.cell? ⟨w.heap.size,2,none⟩=some (.int .u64 (y:Int))∧h.cell? ⟨w.heap.size,3,none⟩=some (.slice C 2 J)∧h.cell? ⟨w.heap.size,4,none⟩=some (.int .i64 z)∧q<h.heap.size∧w.heap.size<h.heap.size∧Below wr.heap.size wr h) (first | with_reducible exact S0.o | assumption | exact ZfA (by assumption) (by assumption))
    (first
     | (go_at_call 161;refine (two_6 v y _ z _).mono ?_;rintro g7 w4 ⟨rfl,b4⟩)
     | (go_at_call 156;refine (g6.o _ ?_).mono ?_;(refine bnext i.o ?_;apply Zcw;assumption);rintro g7 w6 ⟨h4,rfl,k6,b6⟩))
   all_goals
    go_wp2
    go_ret;refine ⟨bnext f7.o ?_,_,rfl,k6⟩;apply Zcw;assumption
theorem Zmt (B cb g vg:Nat) (Z:List Nat) (d7 d8 d9:Option Addr) (e3 e5 q ec:Nat) (names:Zah) (V:Nat→TN) (e6:List (List Int)) (a4:ByteArray) (a5:Nat) (a6:Int) (d b:Nat) (S:Option Addr) (a7:Nat) (w:World)
  (T:EvSt w B cb g vg Z d7 d8 d9 e3 e5 q ec names V e6) (a8:Rd w w.heap.size S (([(d:Int),(b:Int)]:List Int).map VI)) (h5:d<q) (h6:b<q) (e7:1≤(V d).el.length∧(V d).el.length≤32) (e8:1≤(V b).el.length∧(V b).el.length≤32) (l h m:Nat) (X:1≤l∧l≤32∧1≤h∧h≤32∧1≤m∧m≤32) (a9:(V d).el.length=l*h) (b0:(V b).el.length=h*m) (b1:(V b).sh[0]?=some (h:Int)) (b3:(V d).el.length / h=l) (b4:(V b).el.length / h=m):
  Calls Tryz.prog 98 #[.pointer (some ⟨cb,0,none⟩),.agg #[.int .i64 7,.string a4,.int .u64 (a5:Int),.slice S 2 a7,.int .i64 a6]] w (ExOut (evX cb g vg Z) w (matW (V d).el (V b).el l h m)):=by
 obtain ⟨w2,H⟩:=Ky (w.alloc (.cells #[.int .i64 7,.string a4,.int .u64 (a5:Int),.slice S 2 a7,.int .i64 a6] 90));have I:=Kv H;have v:=Kw H;have f0:=Kz H;have f1:=Kz I;have J:=Kz (T.next I);have f2:=Kz T.lt;have f3:=Kz (a8.next I);have Y:=Kaa 3 v;have f4:=Kz (fun W (y:Below w2.heap.size w2 W)=>(y.block w.heap.size (Kab.1 v).1).trans v)
 have b7:w.heap.size<w2.heap.size:=(Kab.1 v).1;have f5:=Kz b7;have f6:=Kz (show ∀ a∈([d,b]:List Nat),a<q from by simp;omega)
 have f7:=Kz e7;have f8:=Kz e8;have f9:=Kz (show l*m≤1048576 from Kah (Nat.mul_le_mul X.2.1 X.2.2.2.2.2) (by decide))
 have r:=Kz X;have g0:=Kz a9;have g2:=Kz b0;have g3:=Kz b1;have g4:=Kz b3;have g5:=Kz b4;clear a9 b0 b1 b3 b4;clear H I v T a8 b7
 go_enter Tryz.func98,Tryz.ntmps98
 go_wp2_with fail
 rw [←f0.o]
 go_wp2_with fail
 clear Y
 go_loopw [5,13] (fun xv a0 wr=>∃ (k:Nat) (A:Option Addr) (c:Nat),k≤2∧a0=.int .i64 k∧xv=.slice A k c∧OwnTn (evX cb g vg Z) w2 wr w2.heap.size A k c ((([d,b]:List Nat).take k).map V)∧Below w2.heap.size w2 wr) (fun _ a0 _=>2-(intOf a0).toNat)
 case atStart=>exact ⟨0,none,0,by omega,rfl,rfl,OwnTn.nil _ _ _ _,Kai _ _⟩
 case round=>
  obtain ⟨k,A,c,h7,rfl,rfl,b8,L⟩:=hrel;have a1:=Kz b8;have i:=Kz L;have n:=f4.o _ L;have M:=J.o.next L;clear b8 L
  by_cases b9:k<2
  ·have z:([d,b]:List Nat)[k]?=some (([d,b]:List Nat)[k]'b9):=Kad _;obtain ⟨a,c6⟩:=Ky (([d,b]:List Nat)[k]'b9);rw [←c6] at z;have g7:a<q:=f6.o a (Kam z);obtain ⟨b2,o2,rfl,g8,d0⟩:=(f3.o.next i.o).at_ (show (([(d:Int),(b:Int)]:List Int).map VI)[k]?=some (VI (a:Int)) by
    rw [show (([(d:Int),(b:Int)]:List Int):List Int)=([d,b]:List Nat).map Int.ofNat from rfl,Kal,Kal,z];rfl)
   unfold VI at d0;obtain ⟨A1,c1,A2,c2,v0,v1,c7⟩:=J.o.val g7;have h8:=(i.o.cell (p:=⟨vg,a*2,none⟩) (J.o.lt _ (.inr (.inr (.inl rfl))))).trans v0;have h9:=(i.o.cell (p:=⟨vg,a*2+1,none⟩) (J.o.lt _ (.inr (.inr (.inl rfl))))).trans v1;have k0:(0:Int)≤(k:Int):=by omega
   have k1:(k:Int)<((2:Nat):Int):=by omega
   have i0:(0:Int)≤(a:Int):=by omega
   have i1:(a:Int)<(q:Int):=by omega
   have z2:=Kaa 2 M.hc;have z3:=Kaa 3 M.hc;have g9:=Kz c7;have h0:=Kz (show (([d,b]:List Nat).take (k+1)).map V=(([d,b]:List Nat).take k).map V++[V a] from by
    rw [List.take_add_one,z,List.map_append];rfl)
   clear z c6 v0 v1 c7 g8 n M
   go_wp2_with (at_builtin;(refine appTn rfl (.tmp 17) (.tmp 25) rfl w2.heap.size A c k ((([d,b]:List Nat).take k).map V) rfl (a1.o.next ((Kai _ _).alloc (Kag _) _)) wr.heap.size rfl (.slice A1 (V a).sh.length c1,.slice A2 (V a).el.length c2) (V a) (Kac wr _) g9.o (by omega) (by have:=i.o.size;simp;omega) ?_);intro A5 c5 w5 o5 b5;have O5:=Kz o5;have B5:=Kz ((i.o.alloc i.o.size _).trans b5);clear o5 b5)
   exact ⟨⟨k+1,A5,c5,by omega,rfl,rfl,by rw [h0.o];exact O5.o,B5.o⟩,by simp [intOf];omega⟩
  ·obtain rfl:k=2:=by omega
   have e0:=Kaa 0 n;have e1:=Kaa 1 n;have e2:=Kaa 2 n;have Y:=Kaa 3 n;have e4:=Kaa 4 n;have c8:=Kz (f1.o.trans (i.o.mono (Nat.le_of_lt f5.o)));obtain ⟨e,p0,q0,r0,t0,h1,N,C,d1⟩:=a1.o.at_ (j:=0) (x:=V d) rfl;subst h1;obtain ⟨g1,p1,q1,r1,t1,D,O,P,d2⟩:=a1.o.at_ (j:=1) (x:=V b) rfl;injection D with D
   injection D with D _ _
   subst D;simp only [Nat.reduceMul,Nat.reduceAdd] at N C;simp only [Nat.reduceMul,Nat.reduceAdd] at O P;have h2:=Kz d1;clear d1;have a2:=Kz d2;clear d2;have d3:=World.block_lt_of_cell? wr _ C;obtain ⟨E,Q⟩:=Ky ((V d).el.length);rw [←Q] at C;have d4:=Kz Q;have i2:=Kz (show 1≤E∧E≤1000 from by have:=f7.o;rw [←Q] at this;omega)
   clear Q;obtain ⟨F,R⟩:=Ky ((V b).el.length);rw [←R] at P;have d5:=Kz R;have i3:=Kz (show 1≤F∧F≤1000 from by have:=f8.o;rw [←R] at this;omega)
   clear R;obtain ⟨s0,d6⟩:=Ky ((V d).sh.length);obtain ⟨s1,a3⟩:=Ky ((V b).sh.length);rw [←d6] at N;rw [←a3] at O;have h3:=Kz (fun W (y:Below w2.heap.size w2 W)=>ZkA p0 r0 p1 r1 q0 t0 q1 t1 s0 s1 E F (V b).sh (V d).el (V b).el l h m W r.o.1 (by have:=r.o;omega) r.o.2.2.1 (by have:=r.o;omega) r.o.2.2.2.2.1 (by have:=r.o;omega) g0.o g2.o d4.o d5.o a3 g3.o (by obtain ⟨_,_,_,_,_,h4,_⟩:=a2.o.1;exact h4) (by rw [d4.o];exact g4.o) (by rw [d5.o];exact g5.o) ((h2.o.2.rdx.1.keep (KeepX.of y)).rd) (by obtain ⟨A9,c9,e9,_,_,_,r9⟩:=a2.o.1;injection e9 with e9 _ _;subst e9;exact (r9.keep (KeepX.of y)).rd) ((a2.o.2.rdx.1.keep (KeepX.of y)).rd))
   have S0:=Kz (show wr.drew.cell? ⟨e,0,none⟩=some (.slice p0 s0 q0)∧wr.drew.cell? ⟨e,1,none⟩=some (.slice r0 E t0)∧wr.drew.cell? ⟨e,2,none⟩=some (.slice p1 s1 q1)∧wr.drew.cell? ⟨e,3,none⟩=some (.slice r1 F t1)∧e<wr.drew.heap.size∧Below wr.heap.size wr wr.drew from ⟨N,C,O,P,d3,(Kai _ _).drew⟩)
   clear N C O P e1 e2 Y e4 n M d3 d6 a3
   go_wp2_with fail
   go_region_held3 (fun s=>s.cell? ⟨e,0,none⟩=some (.slice p0 s0 q0)∧s.cell? ⟨e,1,none⟩=some (.slice r0 E t0)∧s.cell? ⟨e,2,none⟩=some (.slice p1 s1 q1)∧s.cell? ⟨e,3,none⟩=some (.slice r1 F t1)∧e<s.heap.size∧Below wr.heap.size wr s) (first | with_reducible exact S0.o | assumption | exact Znx (by assumption) (by assumption))
    (first
     | (go_at_call 153;refine (h3.o _ ?_).mono ?_;(refine bnext i.o ?_;apply last6;assumption);rintro i4 w6 ⟨i5,rfl,k6,g6,b6⟩))
   all_goals
    go_wp2
    go_ret;refine ⟨bnext c8.o ?_,_,rfl,ZeX k6 (Kah (bnext c8.o (Kai _ _).drew).size g6) f2.o (by rw [ZaV]) f9.o⟩
    apply last6;assumption
theorem Zmu (B cb g vg:Nat) (Z:List Nat) (d3 d4 d5:Option Addr) (d6 d7 n ec:Nat) (names:Zah) (V:Nat→TN) (d8:List (List Int)) (v:ByteArray) (y:Nat) (z:Int) (d e:Nat) (C:Option Addr) (J:Nat) (w:World)
  (a1:EvSt w B cb g vg Z d3 d4 d5 d6 d7 n ec names V d8) (a5:Rd w w.heap.size C (([(d:Int),(e:Int)]:List Int).map VI)) (g8:d<n) (g9:e<n) (d9:1≤(V d).el.length∧(V d).el.length≤32) (e3:1≤(V e).el.length∧(V e).el.length≤32):
  Calls Tryz.prog 98 #[.pointer (some ⟨cb,0,none⟩),.agg #[.int .i64 8,.string v,.int .u64 (y:Int),.slice C 2 J,.int .i64 z]] w (ExOut (evX cb g vg Z) w (eachP (fun a b=>oneW (sltW a b)) (V d).el (V e).el)):=by
 obtain ⟨w2,L⟩:=Ky (w.alloc (.cells #[.int .i64 8,.string v,.int .u64 (y:Int),.slice C 2 J,.int .i64 z] 90));have M:=Kv L;have D:=Kw L;have e5:=Kz L;have a2:=Kz M;have N:=Kz (a1.next M);have e6:=Kz a1.lt;have e7:=Kz (a5.next M);have O:=Kaa 3 D;have e8:=Kz (fun W (E:Below w2.heap.size w2 W)=>(E.block w.heap.size (Kab.1 D).1).trans D)
 have a6:w.heap.size<w2.heap.size:=(Kab.1 D).1;have e9:=Kz a6;have f0:=Kz (show ∀ a∈([d,e]:List Nat),a<n from by simp;omega)
 have f1:=Kz d9;have f2:=Kz e3;clear L M D a1 a5 a6
 go_enter Tryz.func98,Tryz.ntmps98
 go_wp2_with fail
 rw [←e5.o]
 go_wp2_with fail
 clear O
 go_loopw [5,13] (fun xv a3 wr=>∃ (k:Nat) (A:Option Addr) (c:Nat),k≤2∧a3=.int .i64 k∧xv=.slice A k c∧OwnTn (evX cb g vg Z) w2 wr w2.heap.size A k c ((([d,e]:List Nat).take k).map V)∧Below w2.heap.size w2 wr) (fun _ a3 _=>2-(intOf a3).toNat)
 case atStart=>exact ⟨0,none,0,by omega,rfl,rfl,OwnTn.nil _ _ _ _,Kai _ _⟩
 case round=>
  obtain ⟨k,A,c,a7,rfl,rfl,a8,P⟩:=hrel;have a4:=Kz a8;have i:=Kz P;have l:=e8.o _ P;have Q:=N.o.next P;clear a8 P
  by_cases a9:k<2
  ·have F:([d,e]:List Nat)[k]?=some (([d,e]:List Nat)[k]'a9):=Kad _;obtain ⟨a,b0⟩:=Ky (([d,e]:List Nat)[k]'a9);rw [←b0] at F;have f3:a<n:=f0.o a (Kam F);obtain ⟨b2,o2,rfl,f4,d0⟩:=(e7.o.next i.o).at_ (show (([(d:Int),(e:Int)]:List Int).map VI)[k]?=some (VI (a:Int)) by
    rw [show (([(d:Int),(e:Int)]:List Int):List Int)=([d,e]:List Nat).map Int.ofNat from rfl,Kal,Kal,F];rfl)
   unfold VI at d0;obtain ⟨A1,c1,A2,c2,v0,v1,b1⟩:=N.o.val f3;have h0:=(i.o.cell (p:=⟨vg,a*2,none⟩) (N.o.lt _ (.inr (.inr (.inl rfl))))).trans v0;have h1:=(i.o.cell (p:=⟨vg,a*2+1,none⟩) (N.o.lt _ (.inr (.inr (.inl rfl))))).trans v1;have k0:(0:Int)≤(k:Int):=by omega
   have k1:(k:Int)<((2:Nat):Int):=by omega
   have h2:(0:Int)≤(a:Int):=by omega
   have h3:(a:Int)<(n:Int):=by omega
   have z2:=Kaa 2 Q.hc;have z3:=Kaa 3 Q.hc;have f5:=Kz b1;have f6:=Kz (show (([d,e]:List Nat).take (k+1)).map V=(([d,e]:List Nat).take k).map V++[V a] from by
    rw [List.take_add_one,F,List.map_append];rfl)
   clear F b0 v0 v1 b1 f4 l Q
   go_wp2_with (at_builtin;(refine appTn rfl (.tmp 17) (.tmp 25) rfl w2.heap.size A c k ((([d,e]:List Nat).take k).map V) rfl (a4.o.next ((Kai _ _).alloc (Kag _) _)) wr.heap.size rfl (.slice A1 (V a).sh.length c1,.slice A2 (V a).el.length c2) (V a) (Kac wr _) f5.o (by omega) (by have:=i.o.size;simp;omega) ?_);intro A5 c5 w5 o5 b5;have O5:=Kz o5;have B5:=Kz ((i.o.alloc i.o.size _).trans b5);clear o5 b5)
   exact ⟨⟨k+1,A5,c5,by omega,rfl,rfl,by rw [f6.o];exact O5.o,B5.o⟩,by simp [intOf];omega⟩
  ·obtain rfl:k=2:=by omega
   have e0:=Kaa 0 l;have e1:=Kaa 1 l;have e2:=Kaa 2 l;have O:=Kaa 3 l;have e4:=Kaa 4 l;have f7:=Kz (a2.o.trans (i.o.mono (Nat.le_of_lt e9.o)));obtain ⟨q,p0,q0,R,t0,f8,b3,H,b7⟩:=a4.o.at_ (j:=0) (x:=V d) rfl;subst f8;obtain ⟨g1,p1,q1,S,t1,I,b8,T,b9⟩:=a4.o.at_ (j:=1) (x:=V e) rfl;injection I with I
   injection I with I _ _
   subst I;simp only [Nat.reduceMul,Nat.reduceAdd] at b3 H;simp only [Nat.reduceMul,Nat.reduceAdd] at b8 T;have f9:=Kz b7;clear b7;have g0:=Kz b9;clear b9;have c6:=World.block_lt_of_cell? wr _ H;obtain ⟨r,Y⟩:=Ky ((V d).el.length);rw [←Y] at H;have g2:=Kz Y;have c7:=Kz (show 1≤r∧r≤1000 from by have:=f1.o;rw [←Y] at this;omega)
   clear Y;obtain ⟨s,a0⟩:=Ky ((V e).el.length);rw [←a0] at T;have g3:=Kz a0;have c8:=Kz (show 1≤s∧s≤1000 from by have:=f2.o;rw [←a0] at this;omega)
   clear a0;obtain ⟨g4,d1⟩:=Ky (max r s);have g5:=Kz d1;have d2:=(Kab.1 l).1;have g6:=Kz (fun W (E:Below w2.heap.size w2 W)=>Zcv (X:=evX cb g vg Z) 183 (fun a b=>oneW (sltW a b)) ent_8 (fun a b W=>Zd9 a b W) R S r s t0 t1 g4 (V d).el (V e).el W (fun k a7=>Kae (e6.o k a7) (a2.o.trans (E.mono a2.o.size)).size) g5.o g2.o g3.o c7.o.1 c8.o.1 c7.o.2 c8.o.2 (show RdX (evX cb g vg Z) W R ((V d).el.map U) from by obtain ⟨_,A9,c9,m,_,_,r9⟩:=f9.o;injection m with m _ _;subst m;exact r9.keep (KeepX.of E)) (show RdX (evX cb g vg Z) W S ((V e).el.map U) from by obtain ⟨_,A9,c9,m,_,_,r9⟩:=g0.o;injection m with m _ _;subst m;exact r9.keep (KeepX.of E)))
   have S0:=Kz (show wr.drew.cell? ⟨q,1,none⟩=some (.slice R r t0)∧wr.drew.cell? ⟨q,3,none⟩=some (.slice S s t1)∧wr.drew.cell? ⟨w.heap.size,0,none⟩=some (.int .i64 8)∧wr.drew.cell? ⟨w.heap.size,1,none⟩=some (.string v)∧wr.drew.cell? ⟨w.heap.size,2,none⟩=some (.int .u64 (y:Int))∧wr.drew.cell? ⟨w.heap.size,3,none⟩=some (.slice C 2 J)∧wr.drew.cell? ⟨w.heap.size,4,none⟩=some (.int .i64 z)∧q<wr.drew.heap.size∧w.heap.size<wr.drew.heap.size∧Below wr.heap.size wr wr.drew from ⟨H,T,e0,e1,e2,O,e4,c6,d2,(Kai _ _).drew⟩)
   clear b3 H b8 T d1 e1 e2 O e4 l Q d2 c6
   go_wp2_with fail
   go_region_held3 (fun h=>h.cell? ⟨q,1,none⟩=some (.slice R r t0)∧h.cell? ⟨q,3,none⟩=some (.slice S s t1)∧h.cell? ⟨w.heap.size,0,none⟩=some (.int .i64 8)∧h.cell? ⟨w.heap.size,1,none⟩=some (.string v)∧h.cell? ⟨w.heap.size,2,none⟩=some (.int .u64 (y:Int))∧h.cell? ⟨w.heap.size,3,none⟩=some (.slice C 2 J)∧h.cell? ⟨w.heap.size,4,none⟩=some (.int .i64 z)∧q<h.heap.size∧w.heap.size<h.heap.size∧Below wr.heap.size wr h) (first | with_reducible exact S0.o | assumption | exact ZfA (by assumption) (by assumption))
    (first
     | (go_at_call 161;refine (two_8 v y _ z _).mono ?_;rintro g7 w4 ⟨rfl,b4⟩)
     | (go_at_call 156;refine (g6.o _ ?_).mono ?_;(refine bnext i.o ?_;apply Zcw;assumption);rintro g7 w6 ⟨h4,rfl,k6,b6⟩))
   all_goals
    go_wp2
    go_ret;refine ⟨bnext f7.o ?_,_,rfl,k6⟩;apply Zcw;assumption
theorem Zmv (B cb g vg:Nat) (Z:List Nat) (c6 c7 c8:Option Addr) (d1 d2 r ec:Nat) (names:Zah) (V:Nat→TN) (d3:List (List Int)) (s:ByteArray) (e:Nat) (v:Int) (d:Nat) (y:Option Addr) (H:Nat) (w:World)
  (T:EvSt w B cb g vg Z c6 c7 c8 d1 d2 r ec names V d3) (a1:Rd w w.heap.size y (([(d:Int)]:List Int).map VI)) (g1:d<r) (d4:1≤(V d).el.length∧(V d).el.length≤32) (d5:e≤63):
  Calls Tryz.prog 98 #[.pointer (some ⟨cb,0,none⟩),.agg #[.int .i64 9,.string s,.int .u64 (e:Int),.slice y 1 H,.int .i64 v]] w (ExOut (evX cb g vg Z) w (eachP (fun a b=>sarW a e) (V d).el (V d).el)):=by
 obtain ⟨w2,I⟩:=Ky (w.alloc (.cells #[.int .i64 9,.string s,.int .u64 (e:Int),.slice y 1 H,.int .i64 v] 90));have J:=Kv I;have z:=Kw I;have d6:=Kz I;have Y:=Kz J;have L:=Kz (T.next J);have d7:=Kz T.lt;have d8:=Kz (a1.next J);have M:=Kaa 3 z;have d9:=Kz (fun W (C:Below w2.heap.size w2 W)=>(C.block w.heap.size (Kab.1 z).1).trans z)
 have a2:w.heap.size<w2.heap.size:=(Kab.1 z).1;have e3:=Kz a2;have e5:=Kz (show ∀ a∈([d]:List Nat),a<r from by simp;omega)
 have e6:=Kz d4;have e7:=Kz d5;clear I J z T a1 a2
 go_enter Tryz.func98,Tryz.ntmps98
 go_wp2_with fail
 rw [←d6.o]
 go_wp2_with fail
 clear M
 go_loopw [5,13] (fun xv a0 wr=>∃ (k:Nat) (A:Option Addr) (c:Nat),k≤1∧a0=.int .i64 k∧xv=.slice A k c∧OwnTn (evX cb g vg Z) w2 wr w2.heap.size A k c ((([d]:List Nat).take k).map V)∧Below w2.heap.size w2 wr) (fun _ a0 _=>1-(intOf a0).toNat)
 case atStart=>exact ⟨0,none,0,by omega,rfl,rfl,OwnTn.nil _ _ _ _,Kai _ _⟩
 case round=>
  obtain ⟨k,A,c,a3,rfl,rfl,a4,N⟩:=hrel;have a5:=Kz a4;have i:=Kz N;have l:=d9.o _ N;have O:=L.o.next N;clear a4 N
  by_cases a6:k<1
  ·have D:([d]:List Nat)[k]?=some (([d]:List Nat)[k]'a6):=Kad _;obtain ⟨a,a7⟩:=Ky (([d]:List Nat)[k]'a6);rw [←a7] at D;have e8:a<r:=e5.o a (Kam D);obtain ⟨b2,o2,rfl,e9,d0⟩:=(d8.o.next i.o).at_ (show (([(d:Int)]:List Int).map VI)[k]?=some (VI (a:Int)) by
    rw [show (([(d:Int)]:List Int):List Int)=([d]:List Nat).map Int.ofNat from rfl,Kal,Kal,D];rfl)
   unfold VI at d0;obtain ⟨A1,c1,A2,c2,v0,v1,a8⟩:=L.o.val e8;have g2:=(i.o.cell (p:=⟨vg,a*2,none⟩) (L.o.lt _ (.inr (.inr (.inl rfl))))).trans v0;have g3:=(i.o.cell (p:=⟨vg,a*2+1,none⟩) (L.o.lt _ (.inr (.inr (.inl rfl))))).trans v1;have k0:(0:Int)≤(k:Int):=by omega
   have k1:(k:Int)<((1:Nat):Int):=by omega
   have g4:(0:Int)≤(a:Int):=by omega
   have g5:(a:Int)<(r:Int):=by omega
   have z2:=Kaa 2 O.hc;have z3:=Kaa 3 O.hc;have f0:=Kz a8;have f1:=Kz (show (([d]:List Nat).take (k+1)).map V=(([d]:List Nat).take k).map V++[V a] from by
    rw [List.take_add_one,D,List.map_append];rfl)
   clear D a7 v0 v1 a8 e9 l O
   go_wp2_with (at_builtin;(refine appTn rfl (.tmp 17) (.tmp 25) rfl w2.heap.size A c k ((([d]:List Nat).take k).map V) rfl (a5.o.next ((Kai _ _).alloc (Kag _) _)) wr.heap.size rfl (.slice A1 (V a).sh.length c1,.slice A2 (V a).el.length c2) (V a) (Kac wr _) f0.o (by omega) (by have:=i.o.size;simp;omega) ?_);intro A5 c5 w5 o5 b5;have O5:=Kz o5;have B5:=Kz ((i.o.alloc i.o.size _).trans b5);clear o5 b5)
   exact ⟨⟨k+1,A5,c5,by omega,rfl,rfl,by rw [f1.o];exact O5.o,B5.o⟩,by simp [intOf];omega⟩
  ·obtain rfl:k=1:=by omega
   have e0:=Kaa 0 l;have e1:=Kaa 1 l;have e2:=Kaa 2 l;have M:=Kaa 3 l;have e4:=Kaa 4 l;have f2:=Kz (Y.o.trans (i.o.mono (Nat.le_of_lt e3.o)));obtain ⟨P,p0,q0,q,Q,f3,a9,E,b0⟩:=a5.o.at_ (j:=0) (x:=V d) rfl;subst f3;simp only [Nat.reduceMul,Nat.reduceAdd] at a9 E;have b1:=Kz b0;clear b0;have b3:=World.block_lt_of_cell? wr _ E;obtain ⟨m,R⟩:=Ky ((V d).el.length);rw [←R] at E;have b7:=Kz R;have S:=Kz (show 1≤m∧m≤1000 from by have:=e6.o;rw [←R] at this;omega)
   clear R;obtain ⟨f4,b8⟩:=Ky (max m m);have f5:=Kz b8;have b9:=(Kab.1 l).1;have f6:=Kz (fun W F (C:Below w2.heap.size w2 W) (f7:F<W.heap.size) (f8:W.cell? ⟨F,2,none⟩=some (.int .u64 (e:Int)))=>Znw (X:=evX cb g vg Z) 188 F (fun a b=>sarW a e) ent_9 W (fun a b W2 f9=>ZkY a b F e W2 e7.o ((f9.cell (p:=⟨F,2,none⟩) f7).trans f8)) q q m m Q Q f4 (V d).el (V d).el (fun k a3=>Kae (d7.o k a3) (Y.o.trans (C.mono Y.o.size)).size) f5.o b7.o b7.o S.o.1 S.o.1 S.o.2 S.o.2 (show RdX (evX cb g vg Z) W q ((V d).el.map U) from by obtain ⟨_,A9,c9,n,_,_,r9⟩:=b1.o;injection n with n _ _;subst n;exact r9.keep (KeepX.of C)) (show RdX (evX cb g vg Z) W q ((V d).el.map U) from by obtain ⟨_,A9,c9,n,_,_,r9⟩:=b1.o;injection n with n _ _;subst n;exact r9.keep (KeepX.of C)))
   have S0:=Kz (show wr.drew.cell? ⟨P,1,none⟩=some (.slice q m Q)∧wr.drew.cell? ⟨w.heap.size,0,none⟩=some (.int .i64 9)∧wr.drew.cell? ⟨w.heap.size,1,none⟩=some (.string s)∧wr.drew.cell? ⟨w.heap.size,2,none⟩=some (.int .u64 (e:Int))∧wr.drew.cell? ⟨w.heap.size,3,none⟩=some (.slice y 1 H)∧wr.drew.cell? ⟨w.heap.size,4,none⟩=some (.int .i64 v)∧P<wr.drew.heap.size∧w.heap.size<wr.drew.heap.size∧Below wr.heap.size wr wr.drew from ⟨E,e0,e1,e2,M,e4,b3,b9,(Kai _ _).drew⟩)
   clear a9 E b8 e1 e2 M e4 l O b9 b3
   go_wp2_with fail
   go_region_held3 (fun h=>h.cell? ⟨P,1,none⟩=some (.slice q m Q)∧h.cell? ⟨w.heap.size,0,none⟩=some (.int .i64 9)∧h.cell? ⟨w.heap.size,1,none⟩=some (.string s)∧h.cell? ⟨w.heap.size,2,none⟩=some (.int .u64 (e:Int))∧h.cell? ⟨w.heap.size,3,none⟩=some (.slice y 1 H)∧h.cell? ⟨w.heap.size,4,none⟩=some (.int .i64 v)∧P<h.heap.size∧w.heap.size<h.heap.size∧Below wr.heap.size wr h) (first | with_reducible exact S0.o | assumption | exact ZiR (by assumption) (by assumption))
    (first
     | (go_at_call 161;refine (two_9 s e _ v _).mono ?_;rintro g0 w4 ⟨rfl,b4,c4,l4⟩)
     | (go_at_call 156;refine (f6.o _ _ ?_ ?_ ?_).mono ?_;(refine bnext i.o ?_;apply last9;assumption);assumption;assumption;rintro g0 w6 ⟨g6,rfl,k6,b6⟩))
   all_goals
    go_wp2
    go_ret;refine ⟨bnext f2.o ?_,_,rfl,k6⟩;apply last9;assumption
theorem ZkE (B cb g vg:Nat) (Z:List Nat) (b9 c6 c7:Option Addr) (c8 d1 q ec:Nat) (names:Zah) (V:Nat→TN) (d2:List (List Int)) (r:ByteArray) (s:Nat) (v:Int) (d:Nat) (y:Option Addr) (F:Nat) (w:World)
  (S:EvSt w B cb g vg Z b9 c6 c7 c8 d1 q ec names V d2) (a0:Rd w w.heap.size y (([(d:Int)]:List Int).map VI)) (f5:d<q) (d3:1≤(V d).el.length∧(V d).el.length≤32):
  Calls Tryz.prog 98 #[.pointer (some ⟨cb,0,none⟩),.agg #[.int .i64 10,.string r,.int .u64 (s:Int),.slice y 1 F,.int .i64 v]] w (ExOut (evX cb g vg Z) w (eachP (fun a b=>reluW a) (V d).el (V d).el)):=by
 obtain ⟨w2,H⟩:=Ky (w.alloc (.cells #[.int .i64 10,.string r,.int .u64 (s:Int),.slice y 1 F,.int .i64 v] 90));have I:=Kv H;have z:=Kw H;have d4:=Kz H;have T:=Kz I;have J:=Kz (S.next I);have d5:=Kz S.lt;have d6:=Kz (a0.next I);have L:=Kaa 3 z;have d7:=Kz (fun W (C:Below w2.heap.size w2 W)=>(C.block w.heap.size (Kab.1 z).1).trans z)
 have a1:w.heap.size<w2.heap.size:=(Kab.1 z).1;have d8:=Kz a1;have d9:=Kz (show ∀ a∈([d]:List Nat),a<q from by simp;omega)
 have e3:=Kz d3;clear H I z S a0 a1
 go_enter Tryz.func98,Tryz.ntmps98
 go_wp2_with fail
 rw [←d4.o]
 go_wp2_with fail
 clear L
 go_loopw [5,13] (fun xv Y wr=>∃ (k:Nat) (A:Option Addr) (c:Nat),k≤1∧Y=.int .i64 k∧xv=.slice A k c∧OwnTn (evX cb g vg Z) w2 wr w2.heap.size A k c ((([d]:List Nat).take k).map V)∧Below w2.heap.size w2 wr) (fun _ Y _=>1-(intOf Y).toNat)
 case atStart=>exact ⟨0,none,0,by omega,rfl,rfl,OwnTn.nil _ _ _ _,Kai _ _⟩
 case round=>
  obtain ⟨k,A,c,a2,rfl,rfl,a3,M⟩:=hrel;have a4:=Kz a3;have h:=Kz M;have i:=d7.o _ M;have N:=J.o.next M;clear a3 M
  by_cases a5:k<1
  ·have D:([d]:List Nat)[k]?=some (([d]:List Nat)[k]'a5):=Kad _;obtain ⟨a,a6⟩:=Ky (([d]:List Nat)[k]'a5);rw [←a6] at D;have e5:a<q:=d9.o a (Kam D);obtain ⟨b2,o2,rfl,e6,d0⟩:=(d6.o.next h.o).at_ (show (([(d:Int)]:List Int).map VI)[k]?=some (VI (a:Int)) by
    rw [show (([(d:Int)]:List Int):List Int)=([d]:List Nat).map Int.ofNat from rfl,Kal,Kal,D];rfl)
   unfold VI at d0;obtain ⟨A1,c1,A2,c2,v0,v1,a7⟩:=J.o.val e5;have f6:=(h.o.cell (p:=⟨vg,a*2,none⟩) (J.o.lt _ (.inr (.inr (.inl rfl))))).trans v0;have f7:=(h.o.cell (p:=⟨vg,a*2+1,none⟩) (J.o.lt _ (.inr (.inr (.inl rfl))))).trans v1;have k0:(0:Int)≤(k:Int):=by omega
   have k1:(k:Int)<((1:Nat):Int):=by omega
   have f8:(0:Int)≤(a:Int):=by omega
   have f9:(a:Int)<(q:Int):=by omega
   have z2:=Kaa 2 N.hc;have z3:=Kaa 3 N.hc;have e7:=Kz a7;have e8:=Kz (show (([d]:List Nat).take (k+1)).map V=(([d]:List Nat).take k).map V++[V a] from by
    rw [List.take_add_one,D,List.map_append];rfl)
   clear D a6 v0 v1 a7 e6 i N
   go_wp2_with (at_builtin;(refine appTn rfl (.tmp 17) (.tmp 25) rfl w2.heap.size A c k ((([d]:List Nat).take k).map V) rfl (a4.o.next ((Kai _ _).alloc (Kag _) _)) wr.heap.size rfl (.slice A1 (V a).sh.length c1,.slice A2 (V a).el.length c2) (V a) (Kac wr _) e7.o (by omega) (by have:=h.o.size;simp;omega) ?_);intro A5 c5 w5 o5 b5;have O5:=Kz o5;have B5:=Kz ((h.o.alloc h.o.size _).trans b5);clear o5 b5)
   exact ⟨⟨k+1,A5,c5,by omega,rfl,rfl,by rw [e8.o];exact O5.o,B5.o⟩,by simp [intOf];omega⟩
  ·obtain rfl:k=1:=by omega
   have e0:=Kaa 0 i;have e1:=Kaa 1 i;have e2:=Kaa 2 i;have L:=Kaa 3 i;have e4:=Kaa 4 i;have e9:=Kz (T.o.trans (h.o.mono (Nat.le_of_lt d8.o)));obtain ⟨O,p0,q0,n,P,f0,a8,E,a9⟩:=a4.o.at_ (j:=0) (x:=V d) rfl;subst f0;simp only [Nat.reduceMul,Nat.reduceAdd] at a8 E;have b0:=Kz a9;clear a9;have b1:=World.block_lt_of_cell? wr _ E;obtain ⟨l,Q⟩:=Ky ((V d).el.length);rw [←Q] at E;have b3:=Kz Q;have R:=Kz (show 1≤l∧l≤1000 from by have:=e3.o;rw [←Q] at this;omega)
   clear Q;obtain ⟨f1,b7⟩:=Ky (max l l);have f2:=Kz b7;have b8:=(Kab.1 i).1;have f3:=Kz (fun W (C:Below w2.heap.size w2 W)=>Zcv (X:=evX cb g vg Z) 190 (fun a b=>reluW a) Znp (fun a b W=>ZkZ a b W) n n l l P P f1 (V d).el (V d).el W (fun k a2=>Kae (d5.o k a2) (T.o.trans (C.mono T.o.size)).size) f2.o b3.o b3.o R.o.1 R.o.1 R.o.2 R.o.2 (show RdX (evX cb g vg Z) W n ((V d).el.map U) from by obtain ⟨_,A9,c9,m,_,_,r9⟩:=b0.o;injection m with m _ _;subst m;exact r9.keep (KeepX.of C)) (show RdX (evX cb g vg Z) W n ((V d).el.map U) from by obtain ⟨_,A9,c9,m,_,_,r9⟩:=b0.o;injection m with m _ _;subst m;exact r9.keep (KeepX.of C)))
   have S0:=Kz (show wr.drew.cell? ⟨O,1,none⟩=some (.slice n l P)∧wr.drew.cell? ⟨w.heap.size,0,none⟩=some (.int .i64 10)∧wr.drew.cell? ⟨w.heap.size,1,none⟩=some (.string r)∧wr.drew.cell? ⟨w.heap.size,2,none⟩=some (.int .u64 (s:Int))∧wr.drew.cell? ⟨w.heap.size,3,none⟩=some (.slice y 1 F)∧wr.drew.cell? ⟨w.heap.size,4,none⟩=some (.int .i64 v)∧O<wr.drew.heap.size∧w.heap.size<wr.drew.heap.size∧Below wr.heap.size wr wr.drew from ⟨E,e0,e1,e2,L,e4,b1,b8,(Kai _ _).drew⟩)
   clear a8 E b7 e1 e2 L e4 i N b8 b1
   go_wp2_with fail
   go_region_held3 (fun e=>e.cell? ⟨O,1,none⟩=some (.slice n l P)∧e.cell? ⟨w.heap.size,0,none⟩=some (.int .i64 10)∧e.cell? ⟨w.heap.size,1,none⟩=some (.string r)∧e.cell? ⟨w.heap.size,2,none⟩=some (.int .u64 (s:Int))∧e.cell? ⟨w.heap.size,3,none⟩=some (.slice y 1 F)∧e.cell? ⟨w.heap.size,4,none⟩=some (.int .i64 v)∧O<e.heap.size∧w.heap.size<e.heap.size∧Below wr.heap.size wr e) (first | with_reducible exact S0.o | assumption | exact ZiR (by assumption) (by assumption))
    (first
     | (go_at_call 161;refine (Znq r s _ v _).mono ?_;rintro f4 w4 ⟨rfl,b4⟩)
     | (go_at_call 156;refine (f3.o _ ?_).mono ?_;(refine bnext h.o ?_;apply last9;assumption);rintro f4 w6 ⟨g0,rfl,k6,b6⟩))
   all_goals
    go_wp2
    go_ret;refine ⟨bnext e9.o ?_,_,rfl,k6⟩;apply last9;assumption
theorem ZkF (B cb g vg:Nat) (Z:List Nat) (a3 a4 a5:Option Addr) (a6 a7 h ec:Nat) (names:Zah) (V:Nat→TN) (a8:List (List Int)) (I:ByteArray) (J:Nat) (L:Int) (b:Nat) (y:Option Addr) (M:Nat) (w:World)
  (z:EvSt w B cb g vg Z a3 a4 a5 a6 a7 h ec names V a8) (N:Rd w w.heap.size y (([(b:Int)]:List Int).map VI)) (d9:b<h) (a9:1≤(V b).el.length∧(V b).el.length≤32):
  Calls Tryz.prog 98 #[.pointer (some ⟨cb,0,none⟩),.agg #[.int .i64 11,.string I,.int .u64 (J:Int),.slice y 1 M,.int .i64 L]] w (ExOut (evX cb g vg Z) w ([sumW (V b).el])):=by
 obtain ⟨w2,m⟩:=Ky (w.alloc (.cells #[.int .i64 11,.string I,.int .u64 (J:Int),.slice y 1 M,.int .i64 L] 90));have n:=Kv m;have i:=Kw m;have b0:=Kz m;have C:=Kz n;have q:=Kz (z.next n);have b1:=Kz z.lt;have b3:=Kz (N.next n);have D:=Kaa 3 i;have b4:=Kz (fun b6 (b7:Below w2.heap.size w2 b6)=>(b7.block w.heap.size (Kab.1 i).1).trans i)
 have O:w.heap.size<w2.heap.size:=(Kab.1 i).1;have b8:=Kz O;have b9:=Kz (show ∀ a∈([b]:List Nat),a<h from by simp;omega)
 have P:=Kz a9;clear m n i z N O
 go_enter Tryz.func98,Tryz.ntmps98
 go_wp2_with fail
 rw [←b0.o]
 go_wp2_with fail
 clear D
 go_loopw [5,13] (fun xv E wr=>∃ (k:Nat) (A:Option Addr) (c:Nat),k≤1∧E=.int .i64 k∧xv=.slice A k c∧OwnTn (evX cb g vg Z) w2 wr w2.heap.size A k c ((([b]:List Nat).take k).map V)∧Below w2.heap.size w2 wr) (fun _ E _=>1-(intOf E).toNat)
 case atStart=>exact ⟨0,none,0,by omega,rfl,rfl,OwnTn.nil _ _ _ _,Kai _ _⟩
 case round=>
  obtain ⟨k,A,c,e3,rfl,rfl,Q,r⟩:=hrel;have R:=Kz Q;have d:=Kz r;have e:=b4.o _ r;have s:=q.o.next r;clear Q r
  by_cases S:k<1
  ·have l:([b]:List Nat)[k]?=some (([b]:List Nat)[k]'S):=Kad _;obtain ⟨a,T⟩:=Ky (([b]:List Nat)[k]'S);rw [←T] at l;have c6:a<h:=b9.o a (Kam l);obtain ⟨b2,o2,rfl,c7,d0⟩:=(b3.o.next d.o).at_ (show (([(b:Int)]:List Int).map VI)[k]?=some (VI (a:Int)) by
    rw [show (([(b:Int)]:List Int):List Int)=([b]:List Nat).map Int.ofNat from rfl,Kal,Kal,l];rfl)
   unfold VI at d0;obtain ⟨A1,c1,A2,c2,W,X,Y⟩:=q.o.val c6;have e5:=(d.o.cell (p:=⟨vg,a*2,none⟩) (q.o.lt _ (.inr (.inr (.inl rfl))))).trans W;have e6:=(d.o.cell (p:=⟨vg,a*2+1,none⟩) (q.o.lt _ (.inr (.inr (.inl rfl))))).trans X;have k0:(0:Int)≤(k:Int):=by omega
   have k1:(k:Int)<((1:Nat):Int):=by omega
   have e7:(0:Int)≤(a:Int):=by omega
   have e8:(a:Int)<(h:Int):=by omega
   have z2:=Kaa 2 s.hc;have z3:=Kaa 3 s.hc;have c8:=Kz Y;have c9:=Kz (show (([b]:List Nat).take (k+1)).map V=(([b]:List Nat).take k).map V++[V a] from by
    rw [List.take_add_one,l,List.map_append];rfl)
   clear l T W X Y c7 e s
   go_wp2_with (at_builtin;(refine appTn rfl (.tmp 17) (.tmp 25) rfl w2.heap.size A c k ((([b]:List Nat).take k).map V) rfl (R.o.next ((Kai _ _).alloc (Kag _) _)) wr.heap.size rfl (.slice A1 (V a).sh.length c1,.slice A2 (V a).el.length c2) (V a) (Kac wr _) c8.o (by omega) (by have:=d.o.size;simp;omega) ?_);intro A5 c5 w5 o5 b5;have O5:=Kz o5;have B5:=Kz ((d.o.alloc d.o.size _).trans b5);clear o5 b5)
   exact ⟨⟨k+1,A5,c5,by omega,rfl,rfl,by rw [c9.o];exact O5.o,B5.o⟩,by simp [intOf];omega⟩
  ·obtain rfl:k=1:=by omega
   have e0:=Kaa 0 e;have e1:=Kaa 1 e;have e2:=Kaa 2 e;have D:=Kaa 3 e;have e4:=Kaa 4 e;have d1:=Kz (C.o.trans (d.o.mono (Nat.le_of_lt b8.o)));obtain ⟨g0,p0,q0,r0,t0,d2,a0,F,a1⟩:=R.o.at_ (j:=0) (x:=V b) rfl;subst d2;simp only [Nat.reduceMul,Nat.reduceAdd] at a0 F;have d3:=Kz a1;clear a1;have d4:=World.block_lt_of_cell? wr _ F;obtain ⟨H,v⟩:=Ky ((V b).el.length);rw [←v] at F;have d5:=Kz v;have e9:=Kz (show 1≤H∧H≤1000 from by have:=P.o;rw [←v] at this;omega)
   clear v;have d6:=Kz (show Calls Tryz.prog 154 #[.slice r0 H t0] wr fun a2 d7=>a2=.returned (U (sumW (V b).el))∧wr=d7 from by
    have d8:=Zm1 r0 t0 (V b).el wr.heap.size wr (by have:=P.o;omega) ((d3.o.2.rdx.1.keep (KeepX.of d.o)).rd)
    rwa [←d5.o] at d8)
   have f0:((0:Int))<((1:Nat):Int):=by omega
   clear a0 e1 e2 D e4 e s d4
   go_wp2_with (go_at_call 154;refine d6.o.mono ?_;rintro a2 w6 ⟨rfl,rfl⟩)
   go_ret;exact ⟨d1.o.alloc (Kah C.o.size d.o.size) _,_,rfl,Zgo b1.o (Kah C.o.size d.o.size)⟩
theorem ZkG (B cb g vg:Nat) (Z:List Nat) (a4 a5 a6:Option Addr) (a7 a8 h ec:Nat) (names:Zah) (V:Nat→TN) (a9:List (List Int)) (I:ByteArray) (J:Nat) (L:Int) (b:Nat) (y:Option Addr) (M:Nat) (w:World)
  (z:EvSt w B cb g vg Z a4 a5 a6 a7 a8 h ec names V a9) (N:Rd w w.heap.size y (([(b:Int)]:List Int).map VI)) (d8:b<h) (b0:1≤(V b).el.length∧(V b).el.length≤32):
  Calls Tryz.prog 98 #[.pointer (some ⟨cb,0,none⟩),.agg #[.int .i64 12,.string I,.int .u64 (J:Int),.slice y 1 M,.int .i64 L]] w (ExOut (evX cb g vg Z) w ([UInt64.ofNat (argP (V b).el)])):=by
 obtain ⟨w2,m⟩:=Ky (w.alloc (.cells #[.int .i64 12,.string I,.int .u64 (J:Int),.slice y 1 M,.int .i64 L] 90));have n:=Kv m;have i:=Kw m;have b1:=Kz m;have C:=Kz n;have q:=Kz (z.next n);have b3:=Kz z.lt;have b4:=Kz (N.next n);have D:=Kaa 3 i;have b6:=Kz (fun W (b7:Below w2.heap.size w2 W)=>(b7.block w.heap.size (Kab.1 i).1).trans i)
 have O:w.heap.size<w2.heap.size:=(Kab.1 i).1;have b8:=Kz O;have b9:=Kz (show ∀ a∈([b]:List Nat),a<h from by simp;omega)
 have c6:=Kz b0;clear m n i z N O
 go_enter Tryz.func98,Tryz.ntmps98
 go_wp2_with fail
 rw [←b1.o]
 go_wp2_with fail
 clear D
 go_loopw [5,13] (fun xv E wr=>∃ (k:Nat) (A:Option Addr) (c:Nat),k≤1∧E=.int .i64 k∧xv=.slice A k c∧OwnTn (evX cb g vg Z) w2 wr w2.heap.size A k c ((([b]:List Nat).take k).map V)∧Below w2.heap.size w2 wr) (fun _ E _=>1-(intOf E).toNat)
 case atStart=>exact ⟨0,none,0,by omega,rfl,rfl,OwnTn.nil _ _ _ _,Kai _ _⟩
 case round=>
  obtain ⟨k,A,c,d9,rfl,rfl,P,r⟩:=hrel;have Q:=Kz P;have d:=Kz r;have e:=b6.o _ r;have s:=q.o.next r;clear P r
  by_cases R:k<1
  ·have l:([b]:List Nat)[k]?=some (([b]:List Nat)[k]'R):=Kad _;obtain ⟨a,S⟩:=Ky (([b]:List Nat)[k]'R);rw [←S] at l;have c7:a<h:=b9.o a (Kam l);obtain ⟨b2,o2,rfl,c8,d0⟩:=(b4.o.next d.o).at_ (show (([(b:Int)]:List Int).map VI)[k]?=some (VI (a:Int)) by
    rw [show (([(b:Int)]:List Int):List Int)=([b]:List Nat).map Int.ofNat from rfl,Kal,Kal,l];rfl)
   unfold VI at d0;obtain ⟨A1,c1,A2,c2,T,X,Y⟩:=q.o.val c7;have e3:=(d.o.cell (p:=⟨vg,a*2,none⟩) (q.o.lt _ (.inr (.inr (.inl rfl))))).trans T;have e5:=(d.o.cell (p:=⟨vg,a*2+1,none⟩) (q.o.lt _ (.inr (.inr (.inl rfl))))).trans X;have k0:(0:Int)≤(k:Int):=by omega
   have k1:(k:Int)<((1:Nat):Int):=by omega
   have e6:(0:Int)≤(a:Int):=by omega
   have e7:(a:Int)<(h:Int):=by omega
   have z2:=Kaa 2 s.hc;have z3:=Kaa 3 s.hc;have c9:=Kz Y;have d1:=Kz (show (([b]:List Nat).take (k+1)).map V=(([b]:List Nat).take k).map V++[V a] from by
    rw [List.take_add_one,l,List.map_append];rfl)
   clear l S T X Y c8 e s
   go_wp2_with (at_builtin;(refine appTn rfl (.tmp 17) (.tmp 25) rfl w2.heap.size A c k ((([b]:List Nat).take k).map V) rfl (Q.o.next ((Kai _ _).alloc (Kag _) _)) wr.heap.size rfl (.slice A1 (V a).sh.length c1,.slice A2 (V a).el.length c2) (V a) (Kac wr _) c9.o (by omega) (by have:=d.o.size;simp;omega) ?_);intro A5 c5 w5 o5 b5;have O5:=Kz o5;have B5:=Kz ((d.o.alloc d.o.size _).trans b5);clear o5 b5)
   exact ⟨⟨k+1,A5,c5,by omega,rfl,rfl,by rw [d1.o];exact O5.o,B5.o⟩,by simp [intOf];omega⟩
  ·obtain rfl:k=1:=by omega
   have e0:=Kaa 0 e;have e1:=Kaa 1 e;have e2:=Kaa 2 e;have D:=Kaa 3 e;have e4:=Kaa 4 e;have d2:=Kz (C.o.trans (d.o.mono (Nat.le_of_lt b8.o)));obtain ⟨g0,p0,q0,r0,t0,d3,a0,F,a1⟩:=Q.o.at_ (j:=0) (x:=V b) rfl;subst d3;simp only [Nat.reduceMul,Nat.reduceAdd] at a0 F;have d4:=Kz a1;clear a1;have d5:=World.block_lt_of_cell? wr _ F;obtain ⟨H,v⟩:=Ky ((V b).el.length);rw [←v] at F;have d6:=Kz v;have a2:=Kz (show 1≤H∧H≤1000 from by have:=c6.o;rw [←v] at this;omega)
   clear v;have d7:=Kz (Zh9 r0 H t0 (V b).el wr d6.o a2.o.1 a2.o.2 ((d4.o.2.rdx.1.keep (KeepX.of d.o)).rd));have e8:((0:Int))<((1:Nat):Int):=by omega
   clear a0 e1 e2 D e4 e s d5
   go_wp2_with (go_at_call 155;refine d7.o.mono ?_;rintro e9 w6 ⟨rfl,a3,rfl⟩)
   go_ret;exact ⟨(Zaa d2.o a3).alloc (Kah C.o.size d.o.size) _,_,rfl,Zgo (W:=wr.drewN a3) b3.o (Kah C.o.size d.o.size)⟩
theorem ZkH (B cb g vg:Nat) (Z:List Nat) (d3 d4 d5:Option Addr) (d6 d7 n ec:Nat) (names:Zah) (V:Nat→TN) (d8:List (List Int)) (v:ByteArray) (y:Nat) (z:Int) (d e:Nat) (C:Option Addr) (J:Nat) (w:World)
  (a1:EvSt w B cb g vg Z d3 d4 d5 d6 d7 n ec names V d8) (a5:Rd w w.heap.size C (([(d:Int),(e:Int)]:List Int).map VI)) (g8:d<n) (g9:e<n) (d9:1≤(V d).el.length∧(V d).el.length≤32) (e3:1≤(V e).el.length∧(V e).el.length≤32):
  Calls Tryz.prog 98 #[.pointer (some ⟨cb,0,none⟩),.agg #[.int .i64 13,.string v,.int .u64 (y:Int),.slice C 2 J,.int .i64 z]] w (ExOut (evX cb g vg Z) w (eachP (fun a b=>maxW a b) (V d).el (V e).el)):=by
 obtain ⟨w2,L⟩:=Ky (w.alloc (.cells #[.int .i64 13,.string v,.int .u64 (y:Int),.slice C 2 J,.int .i64 z] 90));have M:=Kv L;have D:=Kw L;have e5:=Kz L;have a2:=Kz M;have N:=Kz (a1.next M);have e6:=Kz a1.lt;have e7:=Kz (a5.next M);have O:=Kaa 3 D;have e8:=Kz (fun W (E:Below w2.heap.size w2 W)=>(E.block w.heap.size (Kab.1 D).1).trans D)
 have a6:w.heap.size<w2.heap.size:=(Kab.1 D).1;have e9:=Kz a6;have f0:=Kz (show ∀ a∈([d,e]:List Nat),a<n from by simp;omega)
 have f1:=Kz d9;have f2:=Kz e3;clear L M D a1 a5 a6
 go_enter Tryz.func98,Tryz.ntmps98
 go_wp2_with fail
 rw [←e5.o]
 go_wp2_with fail
 clear O
 go_loopw [5,13] (fun xv a3 wr=>∃ (k:Nat) (A:Option Addr) (c:Nat),k≤2∧a3=.int .i64 k∧xv=.slice A k c∧OwnTn (evX cb g vg Z) w2 wr w2.heap.size A k c ((([d,e]:List Nat).take k).map V)∧Below w2.heap.size w2 wr) (fun _ a3 _=>2-(intOf a3).toNat)
 case atStart=>exact ⟨0,none,0,by omega,rfl,rfl,OwnTn.nil _ _ _ _,Kai _ _⟩
 case round=>
  obtain ⟨k,A,c,a7,rfl,rfl,a8,P⟩:=hrel;have a4:=Kz a8;have i:=Kz P;have l:=e8.o _ P;have Q:=N.o.next P;clear a8 P
  by_cases a9:k<2
  ·have F:([d,e]:List Nat)[k]?=some (([d,e]:List Nat)[k]'a9):=Kad _;obtain ⟨a,b0⟩:=Ky (([d,e]:List Nat)[k]'a9);rw [←b0] at F;have f3:a<n:=f0.o a (Kam F);obtain ⟨b2,o2,rfl,f4,d0⟩:=(e7.o.next i.o).at_ (show (([(d:Int),(e:Int)]:List Int).map VI)[k]?=some (VI (a:Int)) by
    rw [show (([(d:Int),(e:Int)]:List Int):List Int)=([d,e]:List Nat).map Int.ofNat from rfl,Kal,Kal,F];rfl)
   unfold VI at d0;obtain ⟨A1,c1,A2,c2,v0,v1,b1⟩:=N.o.val f3;have h0:=(i.o.cell (p:=⟨vg,a*2,none⟩) (N.o.lt _ (.inr (.inr (.inl rfl))))).trans v0;have h1:=(i.o.cell (p:=⟨vg,a*2+1,none⟩) (N.o.lt _ (.inr (.inr (.inl rfl))))).trans v1;have k0:(0:Int)≤(k:Int):=by omega
   have k1:(k:Int)<((2:Nat):Int):=by omega
   have h2:(0:Int)≤(a:Int):=by omega
   have h3:(a:Int)<(n:Int):=by omega
   have z2:=Kaa 2 Q.hc;have z3:=Kaa 3 Q.hc;have f5:=Kz b1;have f6:=Kz (show (([d,e]:List Nat).take (k+1)).map V=(([d,e]:List Nat).take k).map V++[V a] from by
    rw [List.take_add_one,F,List.map_append];rfl)
   clear F b0 v0 v1 b1 f4 l Q
   go_wp2_with (at_builtin;(refine appTn rfl (.tmp 17) (.tmp 25) rfl w2.heap.size A c k ((([d,e]:List Nat).take k).map V) rfl (a4.o.next ((Kai _ _).alloc (Kag _) _)) wr.heap.size rfl (.slice A1 (V a).sh.length c1,.slice A2 (V a).el.length c2) (V a) (Kac wr _) f5.o (by omega) (by have:=i.o.size;simp;omega) ?_);intro A5 c5 w5 o5 b5;have O5:=Kz o5;have B5:=Kz ((i.o.alloc i.o.size _).trans b5);clear o5 b5)
   exact ⟨⟨k+1,A5,c5,by omega,rfl,rfl,by rw [f6.o];exact O5.o,B5.o⟩,by simp [intOf];omega⟩
  ·obtain rfl:k=2:=by omega
   have e0:=Kaa 0 l;have e1:=Kaa 1 l;have e2:=Kaa 2 l;have O:=Kaa 3 l;have e4:=Kaa 4 l;have f7:=Kz (a2.o.trans (i.o.mono (Nat.le_of_lt e9.o)));obtain ⟨q,p0,q0,R,t0,f8,b3,H,b7⟩:=a4.o.at_ (j:=0) (x:=V d) rfl;subst f8;obtain ⟨g1,p1,q1,S,t1,I,b8,T,b9⟩:=a4.o.at_ (j:=1) (x:=V e) rfl;injection I with I
   injection I with I _ _
   subst I;simp only [Nat.reduceMul,Nat.reduceAdd] at b3 H;simp only [Nat.reduceMul,Nat.reduceAdd] at b8 T;have f9:=Kz b7;clear b7;have g0:=Kz b9;clear b9;have c6:=World.block_lt_of_cell? wr _ H;obtain ⟨r,Y⟩:=Ky ((V d).el.length);rw [←Y] at H;have g2:=Kz Y;have c7:=Kz (show 1≤r∧r≤1000 from by have:=f1.o;rw [←Y] at this;omega)
   clear Y;obtain ⟨s,a0⟩:=Ky ((V e).el.length);rw [←a0] at T;have g3:=Kz a0;have c8:=Kz (show 1≤s∧s≤1000 from by have:=f2.o;rw [←a0] at this;omega)
   clear a0;obtain ⟨g4,d1⟩:=Ky (max r s);have g5:=Kz d1;have d2:=(Kab.1 l).1;have g6:=Kz (fun W (E:Below w2.heap.size w2 W)=>Zcv (X:=evX cb g vg Z) 191 (fun a b=>maxW a b) Znr (fun a b W=>Zla a b W) R S r s t0 t1 g4 (V d).el (V e).el W (fun k a7=>Kae (e6.o k a7) (a2.o.trans (E.mono a2.o.size)).size) g5.o g2.o g3.o c7.o.1 c8.o.1 c7.o.2 c8.o.2 (show RdX (evX cb g vg Z) W R ((V d).el.map U) from by obtain ⟨_,A9,c9,m,_,_,r9⟩:=f9.o;injection m with m _ _;subst m;exact r9.keep (KeepX.of E)) (show RdX (evX cb g vg Z) W S ((V e).el.map U) from by obtain ⟨_,A9,c9,m,_,_,r9⟩:=g0.o;injection m with m _ _;subst m;exact r9.keep (KeepX.of E)))
   have S0:=Kz (show wr.drew.cell? ⟨q,1,none⟩=some (.slice R r t0)∧wr.drew.cell? ⟨q,3,none⟩=some (.slice S s t1)∧wr.drew.cell? ⟨w.heap.size,0,none⟩=some (.int .i64 13)∧wr.drew.cell? ⟨w.heap.size,1,none⟩=some (.string v)∧wr.drew.cell? ⟨w.heap.size,2,none⟩=some (.int .u64 (y:Int))∧wr.drew.cell? ⟨w.heap.size,3,none⟩=some (.slice C 2 J)∧wr.drew.cell? ⟨w.heap.size,4,none⟩=some (.int .i64 z)∧q<wr.drew.heap.size∧w.heap.size<wr.drew.heap.size∧Below wr.heap.size wr wr.drew from ⟨H,T,e0,e1,e2,O,e4,c6,d2,(Kai _ _).drew⟩)
   clear b3 H b8 T d1 e1 e2 O e4 l Q d2 c6
   go_wp2_with fail
   go_region_held3 (fun h=>h.cell? ⟨q,1,none⟩=some (.slice R r t0)∧h.cell? ⟨q,3,none⟩=some (.slice S s t1)∧h.cell? ⟨w.heap.size,0,none⟩=some (.int .i64 13)∧h.cell? ⟨w.heap.size,1,none⟩=some (.string v)∧h.cell? ⟨w.heap.size,2,none⟩=some (.int .u64 (y:Int))∧h.cell? ⟨w.heap.size,3,none⟩=some (.slice C 2 J)∧h.cell? ⟨w.heap.size,4,none⟩=some (.int .i64 z)∧q<h.heap.size∧w.heap.size<h.heap.size∧Below wr.heap.size wr h) (first | with_reducible exact S0.o | assumption | exact ZfA (by assumption) (by assumption))
    (first
     | (go_at_call 161;refine (Zns v y _ z _).mono ?_;rintro g7 w4 ⟨rfl,b4⟩)
     | (go_at_call 156;refine (g6.o _ ?_).mono ?_;(refine bnext i.o ?_;apply Zcw;assumption);rintro g7 w6 ⟨h4,rfl,k6,b6⟩))
   all_goals
    go_wp2
    go_ret;refine ⟨bnext f7.o ?_,_,rfl,k6⟩;apply Zcw;assumption
theorem ZkI (B cb g vg:Nat) (Z:List Nat) (f7 f8 f9:Option Addr) (g0 g3 r ec:Nat) (names:Zah) (V:Nat→TN) (g4:List (List Int)) (c6:ByteArray) (c7:Nat) (c8:Int) (e h d:Nat) (a7:Option Addr) (c9:Nat) (w:World)
  (a8:EvSt w B cb g vg Z f7 f8 f9 g0 g3 r ec names V g4) (d1:Rd w w.heap.size a7 (([(e:Int),(h:Int),(d:Int)]:List Int).map VI)) (j1:e<r) (j2:h<r) (j3:d<r) (g5:1≤(V e).el.length∧(V e).el.length≤32) (g6:1≤(V h).el.length∧(V h).el.length≤32) (g7:1≤(V d).el.length∧(V d).el.length≤32):
  Calls Tryz.prog 98 #[.pointer (some ⟨cb,0,none⟩),.agg #[.int .i64 14,.string c6,.int .u64 (c7:Int),.slice a7 3 c9,.int .i64 c8]] w (ExOut (evX cb g vg Z) w (eachP (fun a b=>xorW a b) (V d).el (eachP (fun a b=>andW (negW (andW a 1)) b) (V e).el (eachP (fun a b=>xorW a b) (V h).el (V d).el)))):=by
 obtain ⟨w2,P⟩:=Ky (w.alloc (.cells #[.int .i64 14,.string c6,.int .u64 (c7:Int),.slice a7 3 c9,.int .i64 c8] 90));have Q:=Kv P;have F:=Kw P;have g8:=Kz P;have s:=Kz Q;have R:=Kz (a8.next Q);have a9:=Kz a8.lt;have g9:=Kz (d1.next Q);have e3:=Kaa 3 F;have h0:=Kz (fun W (l:Below w2.heap.size w2 W)=>(l.block w.heap.size (Kab.1 F).1).trans F)
 have d2:w.heap.size<w2.heap.size:=(Kab.1 F).1;have h1:=Kz d2;have h2:=Kz (show ∀ a∈([e,h,d]:List Nat),a<r from by simp;omega)
 have h3:=Kz g5;have h4:=Kz g6;have h5:=Kz g7;clear P Q F a8 d1 d2
 go_enter Tryz.func98,Tryz.ntmps98
 go_wp2_with fail
 rw [←g8.o]
 go_wp2_with fail
 clear e3
 go_loopw [5,13] (fun xv b0 wr=>∃ (k:Nat) (A:Option Addr) (c:Nat),k≤3∧b0=.int .i64 k∧xv=.slice A k c∧OwnTn (evX cb g vg Z) w2 wr w2.heap.size A k c ((([e,h,d]:List Nat).take k).map V)∧Below w2.heap.size w2 wr) (fun _ b0 _=>3-(intOf b0).toNat)
 case atStart=>exact ⟨0,none,0,by omega,rfl,rfl,OwnTn.nil _ _ _ _,Kai _ _⟩
 case round=>
  obtain ⟨k,A,c,i,rfl,rfl,d3,S⟩:=hrel;have T:=Kz d3;have m:=Kz S;have v:=h0.o _ S;have Y:=R.o.next S;clear d3 S
  by_cases d4:k<3
  ·have H:([e,h,d]:List Nat)[k]?=some (([e,h,d]:List Nat)[k]'d4):=Kad _;obtain ⟨a,d5⟩:=Ky (([e,h,d]:List Nat)[k]'d4);rw [←d5] at H;have h6:a<r:=h2.o a (Kam H);obtain ⟨b2,o2,rfl,h7,d0⟩:=(g9.o.next m.o).at_ (show (([(e:Int),(h:Int),(d:Int)]:List Int).map VI)[k]?=some (VI (a:Int)) by
    rw [show (([(e:Int),(h:Int),(d:Int)]:List Int):List Int)=([e,h,d]:List Nat).map Int.ofNat from rfl,Kal,Kal,H];rfl)
   unfold VI at d0;obtain ⟨A1,c1,A2,c2,v0,v1,d6⟩:=R.o.val h6;have j4:=(m.o.cell (p:=⟨vg,a*2,none⟩) (R.o.lt _ (.inr (.inr (.inl rfl))))).trans v0;have j5:=(m.o.cell (p:=⟨vg,a*2+1,none⟩) (R.o.lt _ (.inr (.inr (.inl rfl))))).trans v1;have k0:(0:Int)≤(k:Int):=by omega
   have k1:(k:Int)<((3:Nat):Int):=by omega
   have j6:(0:Int)≤(a:Int):=by omega
   have j7:(a:Int)<(r:Int):=by omega
   have z2:=Kaa 2 Y.hc;have z3:=Kaa 3 Y.hc;have h8:=Kz d6;have h9:=Kz (show (([e,h,d]:List Nat).take (k+1)).map V=(([e,h,d]:List Nat).take k).map V++[V a] from by
    rw [List.take_add_one,H,List.map_append];rfl)
   clear H d5 v0 v1 d6 h7 v Y
   go_wp2_with (at_builtin;(refine appTn rfl (.tmp 17) (.tmp 25) rfl w2.heap.size A c k ((([e,h,d]:List Nat).take k).map V) rfl (T.o.next ((Kai _ _).alloc (Kag _) _)) wr.heap.size rfl (.slice A1 (V a).sh.length c1,.slice A2 (V a).el.length c2) (V a) (Kac wr _) h8.o (by omega) (by have:=m.o.size;simp;omega) ?_);intro A5 c5 w5 o5 b5;have O5:=Kz o5;have B5:=Kz ((m.o.alloc m.o.size _).trans b5);clear o5 b5)
   exact ⟨⟨k+1,A5,c5,by omega,rfl,rfl,by rw [h9.o];exact O5.o,B5.o⟩,by simp [intOf];omega⟩
  ·obtain rfl:k=3:=by omega
   have e0:=Kaa 0 v;have e1:=Kaa 1 v;have e2:=Kaa 2 v;have e3:=Kaa 3 v;have e4:=Kaa 4 v;have i0:=Kz (s.o.trans (m.o.mono (Nat.le_of_lt h1.o)));obtain ⟨n,p0,q0,r0,t0,i1,d7,I,d8⟩:=T.o.at_ (j:=0) (x:=V e) rfl;subst i1;obtain ⟨g1,p1,y,r1,t1,J,d9,a0,e5⟩:=T.o.at_ (j:=1) (x:=V h) rfl;injection J with J
   injection J with J _ _
   subst J;obtain ⟨g2,p2,z,L,t2,M,e6,N,e7⟩:=T.o.at_ (j:=2) (x:=V d) rfl;injection M with M
   injection M with M _ _
   subst M;simp only [Nat.reduceMul,Nat.reduceAdd] at d7 I;simp only [Nat.reduceMul,Nat.reduceAdd] at d9 a0;simp only [Nat.reduceMul,Nat.reduceAdd] at e6 N;have i2:=Kz d8;clear d8;have i3:=Kz e5;clear e5;have e8:=Kz e7;clear e7;have b1:=World.block_lt_of_cell? wr _ I;obtain ⟨n0,a1⟩:=Ky ((V e).el.length);rw [←a1] at I;have i4:=Kz a1;have a2:=Kz (show 1≤n0∧n0≤1000 from by have:=h3.o;rw [←a1] at this;omega)
   clear a1;obtain ⟨C,a3⟩:=Ky ((V h).el.length);rw [←a3] at a0;have i5:=Kz a3;have O:=Kz (show 1≤C∧C≤1000 from by have:=h4.o;rw [←a3] at this;omega)
   clear a3;obtain ⟨q,a4⟩:=Ky ((V d).el.length);rw [←a4] at N;have e9:=Kz a4;have D:=Kz (show 1≤q∧q≤1000 from by have:=h5.o;rw [←a4] at this;omega)
   clear a4;obtain ⟨y,f0⟩:=Ky (max C q);obtain ⟨z,f1⟩:=Ky (max n0 y);obtain ⟨q3,f2⟩:=Ky (max q z);have a5:=Kz f0;have b3:=Kz f1;have i6:=Kz f2;obtain ⟨L1,b4⟩:=Ky (eachP (fun a b=>xorW a b) (V h).el (V d).el)
   obtain ⟨L2,b9⟩:=Ky (eachP (fun a b=>andW (negW (andW a 1)) b) (V e).el L1)
   have f3:=Kz (fun W (l:Below w2.heap.size w2 W)=>Zcv (X:=evX cb g vg Z) 157 (fun a b=>xorW a b) Znt (fun a b W=>Zm4 a b W) r1 L C q t1 t2 y (V h).el (V d).el W (fun k i=>Kae (a9.o k i) (s.o.trans (l.mono s.o.size)).size) a5.o i5.o e9.o O.o.1 D.o.1 O.o.2 D.o.2 (i3.o.2.rdx.1.keep (KeepX.of l)) (e8.o.2.rdx.1.keep (KeepX.of l)))
   rw [←b4] at f3;have f4:=Kz (fun W E (l:Below w2.heap.size w2 W) (i:WoV (evX cb g vg Z) W (.slice (some ⟨E,0,none⟩) y y) L1)=>Zcv (X:=evX cb g vg Z) 158 (fun a b=>andW (negW (andW a 1)) b) Znu (fun a b W=>Zm5 a b W) r0 (some ⟨E,0,none⟩) n0 y t0 y z (V e).el L1 W (fun k i=>Kae (a9.o k i) (s.o.trans (l.mono s.o.size)).size) b3.o i4.o i.rdx.2 a2.o.1 (by have:=O.o;have:=a5.o;omega) a2.o.2 (by have:=O.o;have:=D.o;have:=a5.o;omega) (i2.o.2.rdx.1.keep (KeepX.of l)) i.rdx.1)
   rw [←b9] at f4;have i7:=Kz (fun W E (l:Below w2.heap.size w2 W) (i:WoV (evX cb g vg Z) W (.slice (some ⟨E,0,none⟩) z z) L2)=>Zcv (X:=evX cb g vg Z) 160 (fun a b=>xorW a b) Znv (fun a b W=>Zm6 a b W) L (some ⟨E,0,none⟩) q z t2 z q3 (V d).el L2 W (fun k i=>Kae (a9.o k i) (s.o.trans (l.mono s.o.size)).size) i6.o e9.o i.rdx.2 D.o.1 (by have:=a2.o;have:=b3.o;omega) D.o.2 (by have:=O.o;have:=D.o;have:=a2.o;have:=a5.o;have:=b3.o;omega) (e8.o.2.rdx.1.keep (KeepX.of l)) i.rdx.1)
   have i8:=Kz (show eachP (fun a b=>xorW a b) (V d).el (eachP (fun a b=>andW (negW (andW a 1)) b) (V e).el (eachP (fun a b=>xorW a b) (V h).el (V d).el))=eachP (fun a b=>xorW a b) (V d).el L2 from by rw [b9,b4])
   have f5:=Kz b1;have X0:=Kz I;have X2:=Kz N;have S0:=Kz (show wr.drew.cell? ⟨n,3,none⟩=some (.slice r1 C t1)∧wr.drew.cell? ⟨n,5,none⟩=some (.slice L q t2)∧n<wr.drew.heap.size∧Below wr.heap.size wr wr.drew from ⟨a0,N,b1,(Kai _ _).drew⟩)
   clear d7 I d9 a0 e6 N e1 e2 e3 e4 v Y b1 f0 f1 f2 b4 b9
   go_wp2_with fail
   go_region_held3 (fun a6=>a6.cell? ⟨n,3,none⟩=some (.slice r1 C t1)∧a6.cell? ⟨n,5,none⟩=some (.slice L q t2)∧n<a6.heap.size∧Below wr.heap.size wr a6) (first | with_reducible exact S0.o | assumption | exact Zny (by assumption) (by assumption))
    (first
     | (go_at_call 156;refine (f3.o _ ?_).mono ?_;(refine bnext m.o ?_;apply last4;assumption);rintro f6 w6 ⟨E,rfl,k6,b6⟩))
   all_goals
    rename_i hH
    have H6:=Kz hH.2.2.2;have K6:=Kz k6;have j8:=(H6.o.cell (p:=⟨n,1,none⟩) f5.o).trans X0.o;clear hH k6 b6;have i9:=Kz (bnext m.o H6.o)
    go_wp2_with (first
     | (go_at_call_of 156 r0;refine (f4.o _ _ i9.o K6.o).mono ?_;rintro f6 j9 ⟨k2,rfl,k7,b7⟩;have K7:=Kz k7;have H7:=Kz (bnext H6.o b7);have j0:=Kz (bnext m.o H7.o);have k3:=(H7.o.cell (p:=⟨n,5,none⟩) f5.o).trans X2.o;clear k7 b7)
     | (go_at_call_of 156 L;refine (i7.o _ _ j0.o K7.o).mono ?_;rintro f6 k4 ⟨k5,rfl,k8,b8⟩))
    go_ret;exact ⟨bnext i0.o (bnext H7.o b8),_,rfl,by rw [i8.o];exact k8⟩
end Go.Proofs.YtghlnncfigkkaaaGreatDoor
