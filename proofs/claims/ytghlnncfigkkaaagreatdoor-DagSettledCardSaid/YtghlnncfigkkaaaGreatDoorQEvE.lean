/-
 Walks of the evaluator's argmax and mat.
-/
import Derived.Test.YtghlnncfigkkaaaGreatDoorQNum
import Derived.Test.YtghlnncfigkkaaaGreatDoorQChkA
import Derived.Test.YtghlnncfigkkaaaGreatDoorQLabL
import Derived.Test.YtghlnncfigkkaaaGreatDoorQEvL
import Derived.BigQuiet
import Derived.Deep.RegionHeld3
import Derived.RegionTactic
set_option maxRecDepth 100000
set_option maxHeartbeats 1000000
set_option linter.unusedVariables false
set_option linter.unusedSimpArgs false
namespace Go.Proofs.YtghlnncfigkkaaaGreatDoor
open Go.RowKit
attribute [local go_sem ↓] ZbA Zch
theorem Zew (l:List UInt64) {i:Nat} (h:i<l.length) (a:Nat):argGo l (l.length-i) a=argGo l (l.length-(i+1)) (if sltW (nthW l a) (nthW l i) then i else a):=by
 obtain ⟨k,b⟩:∃ k,l.length-i=k+1:=⟨l.length-i-1,by omega⟩
 rw [b,show l.length-(i+1)=k by omega]
 show argGo l k (if sltW (nthW l a) (nthW l (l.length-(k+1))) then l.length-(k+1) else a)=_
 rw [show l.length-(k+1)=i by omega]
theorem Zk8 {x y:UInt64} (h:sltW x y=true) (w:World):Calls Tryz.prog 183 #[U x,U y] w fun e w'=>e=.returned (.int .u64 1)∧w=w':=by
 have:=Zd9 x y w;rw [h] at this;exact this
theorem ZiG {x y:UInt64} (h:sltW x y=false) (w:World):Calls Tryz.prog 183 #[U x,U y] w fun e w'=>e=.returned (.int .u64 0)∧w=w':=by
 have:=Zd9 x y w;rw [h] at this;exact this
theorem Zk9 {w w3 W a:World} {v c:Value} (h:W.cell? ⟨w.heap.size,1,none⟩=some v∧W.cell? ⟨w.heap.size+1,1,none⟩=some c∧w.heap.size+1<W.heap.size∧Below w3.heap.size w3 W) (b:Below W.heap.size W a):
  a.cell? ⟨w.heap.size,1,none⟩=some v∧a.cell? ⟨w.heap.size+1,1,none⟩=some c∧w.heap.size+1<a.heap.size∧Below w3.heap.size w3 a:=
 ⟨(b.cell (p:=⟨w.heap.size,1,none⟩) (show w.heap.size<_ by omega)).trans h.1,(b.cell (p:=⟨w.heap.size+1,1,none⟩) h.2.2.1).trans h.2.1,Kae h.2.2.1 b.size,bnext h.2.2.2 b⟩
theorem ZgZ {n:Nat} (h:n≤1000000):IntKind.u64.wrap (n:Int)=(n:Int):=by rw [wrapN];omega
theorem ZdJ {n:Nat} (h:n≤1000000):((UInt64.ofNat n).toNat:Int)=(n:Int):=by
 rw [UInt64.toNat_ofNat'];omega
theorem Zh9 (A:Option Addr) (n c:Nat) (l:List UInt64) (w:World) (v:n=l.length) (I:1≤n) (J:n≤1000) (h:Rd w w.heap.size A (l.map U)):
  Calls Tryz.prog 155 #[.slice A n c] w fun e w'=>e=.returned (U (UInt64.ofNat (argP l)))∧∃ q,w'=w.drewN q:=by
 have d:=Kz v;have H:=Kz h;clear v h
 go_enter Tryz.func155,Tryz.ntmps155
 go_wp2
 go_loopw [3,7] (fun D m wr=>(∃ i b:Nat,i≤n∧b<n∧m=.int .i64 i∧D=.int .i64 b∧argP l=argGo l (n-i) b)∧∃ q,wr=w.drewN q) (fun _ m _=>n-(intOf m).toNat)
 case atStart=>exact ⟨⟨0,0,by omega,by omega,rfl,rfl,by rw [d.o];rfl⟩,0,rfl⟩
 case round=>
  obtain ⟨⟨i,b,L,x,rfl,rfl,y⟩,q,p⟩:=hrel;have r:=Kz y;have s:=Kz p;have B:=Kz (show Rd wr w.heap.size A (l.map U) from by rw [p];exact H.o.drewN q)
  clear y p
  by_cases C:i<n
  ·obtain ⟨M,N,rfl,O,P⟩:=B.o.word (k:=b) (by rw [←d.o];exact x)
   obtain ⟨Q,R,g,S,T⟩:=B.o.word (k:=i) (by rw [←d.o];exact C)
   injection g with g
   injection g with g E _
   subst g E;have V:(0:Int)≤(i:Int):=by omega
   have X:(i:Int)<(n:Int):=by omega
   have Y:(0:Int)≤(b:Int):=by omega
   have Z:(b:Int)<(n:Int):=by omega
   have a:=Zew l (i:=i) (by rw [←d.o];exact C) b
   rw [←d.o] at a
   cases hs:sltW (nthW l b) (nthW l i) with
   | true=>
    rw [hs,if_pos rfl] at a;have j:=Kz (r.o.trans a);have t:=Kz (fun W=>Zk8 hs W)
    clear hs a
    go_wp2_with fail
    go_quiet ((go_at_call 183;exact Calls.quiet_of_same (Zav (t.o _))))
    go_wp2
    exact ⟨⟨⟨i+1,i,by omega,by omega,rfl,rfl,j.o⟩,_,by rw [s.o];exact World.drewN_drewN _ _ _⟩,by simp [intOf];omega⟩
   | false=>
    rw [hs,if_neg (by decide)] at a
    have j:=Kz (r.o.trans a);have t:=Kz (fun W=>ZiG hs W)
    clear hs a
    go_wp2_with fail
    go_quiet ((go_at_call 183;exact Calls.quiet_of_same (Zav (t.o _))))
    go_wp2
    exact ⟨⟨⟨i+1,b,by omega,x,rfl,rfl,j.o⟩,_,by rw [s.o];exact World.drewN_drewN _ _ _⟩,by simp [intOf];omega⟩
  ·obtain rfl:n=i:=by omega
   have a0:=ZgZ (n:=b) (by omega)
   have j:=Kz (show argP l=b from by
    rw [r.o,Nat.sub_self];rfl)
   have F:=Kz (ZdJ (n:=b) (by omega))
   go_wp2
   go_ret;exact ⟨by rw [j.o];exact congrArg (fun z=>Ending.returned (.int .u64 z)) F.o.symm,q,s.o⟩
theorem ZkA (p d F h:Option Addr) (c1 c2 c3 c4 q i a c:Nat) (j:List Int) (x y:List UInt64) (m k n:Nat) (w:World)
  (X:1≤m) (r:m≤1024) (Y:1≤k) (s:k≤1024) (Z:1≤n) (v:n≤1024) (H:x.length=m*k) (I:y.length=k*n) (z:a=x.length) (B:c=y.length)
  (a0:i=j.length) (C:j[0]?=some (k:Int)) (a1:j.length≤2) (J:a / k=m) (L:c / k=n)
  (M:Rd w w.heap.size d (x.map U)) (N:Rd w w.heap.size F (j.map VI)) (O:Rd w w.heap.size h (y.map U)):
  Calls Tryz.prog 153 #[.agg #[.slice p q c1,.slice d a c2],.agg #[.slice F i c3,.slice h c c4]] w fun e w'=>
   ∃ g,e=.returned (.slice (some ⟨g,0,none⟩) (m*n) (m*n))∧BlkW w' 39 g (matW x y m k n)∧w.heap.size≤g∧Below w.heap.size w w':=by
 have a6:m*n≤1048576:=Nat.mul_le_mul r v;have a7:m*k≤1048576:=Nat.mul_le_mul r s;have a8:k*n≤1048576:=Nat.mul_le_mul s v;obtain ⟨b,o,a2,a9,c0⟩:=N.at_ (show (j.map VI)[0]?=some (VI (k:Int)) by rw [Kal,C];rfl)
 have b0:w.cell? ⟨b,o,none⟩=some (.int .i64 (k:Int)):=c0;have b1:(0:Int)<(i:Int):=by
  have:=(Kaf.1 C).1;omega
 have P:(a:Int) / (k:Int)=(m:Int):=by rw [←J];exact (Int.natCast_ediv _ _).symm
 have Q:(c:Int) / (k:Int)=(n:Int):=by rw [←L];exact (Int.natCast_ediv _ _).symm
 have k0:((k:Int)==0)=false:=by rw [Kaj];omega
 have R:=Kz (fun W (S:Below w.heap.size w W)=>Zm7 d h c2 c4 x y m k n W X r Y s Z v H I (M.next S) (O.next S))
 rw [←z,←B] at R;have H2:=Kz z;have H4:=Kz B;clear H I M N O a0 a1 z B c0;have b2:IntKind.i64.wrap ((a:Int) / (k:Int))=(m:Int):=by rw [P];exact ZaE (by omega) (by omega)
 have b3:IntKind.i64.wrap ((c:Int) / (k:Int))=(n:Int):=by rw [Q];exact ZaE (by omega) (by omega)
 have b4:¬ k=0:=by omega
 subst a2;obtain ⟨w3,l⟩:=Ky ((w.alloc (.cells #[.slice p q c1,.slice d a c2] 43)).alloc (.cells #[.slice (some ⟨b,o,none⟩) i c3,.slice h c c4] 43));have T:Below w.heap.size w w3:=by rw [l];exact ((Kai _ _).alloc (Kag _) _).alloc (by simp) _
 have V:w3.heap[w.heap.size]?=some (.cells #[.slice p q c1,.slice d a c2] 43 (0,0)):=by
  rw [l,Below.heap_alloc _ _ _ (by simp)];exact Kac w _
 have D:w3.heap[w.heap.size+1]?=some (.cells #[.slice (some ⟨b,o,none⟩) i c3,.slice h c c4] 43 (0,0)):=by
  rw [l];have:=Kac (w.alloc (.cells #[.slice p q c1,.slice d a c2] 43)) (.cells #[.slice (some ⟨b,o,none⟩) i c3,.slice h c c4] 43);rwa [World.size_alloc] at this
 have S0:=Kz (show w3.drew.cell? ⟨w.heap.size,1,none⟩=some (.slice d a c2)∧w3.drew.cell? ⟨w.heap.size+1,1,none⟩=some (.slice h c c4)∧w.heap.size+1<w3.drew.heap.size∧Below w3.heap.size w3 w3.drew from ⟨Kaa 1 V,Kaa 1 D,(Kab.1 D).1,(Kai _ _).drew⟩)
 have E:=Kz T;have a3:=Kz l;clear l T V D J L C P Q
 go_enter Tryz.func153,Tryz.ntmps153
 go_wp2_with fail
 rw [←a3.o]
 go_region_held3 (fun w'=>w'.cell? ⟨w.heap.size,1,none⟩=some (.slice d a c2)∧w'.cell? ⟨w.heap.size+1,1,none⟩=some (.slice h c c4)∧w.heap.size+1<w'.heap.size∧Below w3.heap.size w3 w') (first | with_reducible exact S0.o | assumption | exact Zk9 (by assumption) (by assumption))
  (first | (go_at_call 182;refine (R.o _ ?_).mono ?_;(refine bnext E.o ?_;apply And.right;apply And.right;apply And.right;assumption);rintro e w4 ⟨rfl,a4,a5⟩))
 all_goals
  go_wp2
  go_ret;exact ⟨_,rfl,a4,E.o.size,bnext E.o ((Kai _ _).drew.trans a5)⟩
end Go.Proofs.YtghlnncfigkkaaaGreatDoor
namespace Go.Proofs.YtghlnncfigkkaaaGreatDoor
open Go.RowKit
attribute [local go_sem ↓] ZbA Zch
def fillW (L:List UInt64) (i:Nat):List UInt64:=(List.range L.length).map fun p=>if p<i then nthW L p else 0
theorem Zbb (L:List UInt64) (i:Nat):(fillW L i).length=L.length:=by unfold fillW;simp
theorem Zex (L:List UInt64):ZbV L.length=fillW L 0:=by
 apply extW (by rw [Zbt,Zbb])
 intro p a
 rw [Zbt] at a;unfold fillW;rw [Ze3,Zat _ _ a,if_neg (by omega)]
theorem Zey (L:List UInt64) {i:Nat} (h:i<L.length):(fillW L i).set i (nthW L i)=fillW L (i+1):=by
 apply extW (by rw [List.length_set,Zbb,Zbb])
 intro p a
 rw [List.length_set,Zbb] at a
 by_cases e:p=i
 ·subst e;rw [ZcQ _ _ _ (by rw [Zbb];exact a)]
  unfold fillW;rw [Zat _ _ a,if_pos (by omega)]
 ·rw [Zcx _ _ e];unfold fillW;rw [Zat _ _ a,Zat _ _ a]
  by_cases b:p<i
  ·rw [if_pos b,if_pos (by omega)]
  ·rw [if_neg b,if_neg (by omega)]
theorem Zez (L:List UInt64):fillW L L.length=L:=by
 apply extW (by rw [Zbb])
 intro p a
 rw [Zbb] at a;unfold fillW;rw [Zat _ _ a,if_pos a]
attribute [irreducible] fillW
theorem Zha (f:UInt64→UInt64→UInt64) (x y:List UInt64) {i:Nat} (h:i<max x.length y.length):nthW (eachP f x y) i=f (nthW x (min i (x.length-1))) (nthW y (min i (y.length-1))):=by
 unfold eachP;rw [Zat _ _ h]
theorem ZiH (F:FuncId) (f:UInt64→UInt64→UInt64) (A I:Option Addr) (n m c a0:Nat) (x y:List UInt64) (w:World) (g:n=x.length) (l:m=y.length) (b1:1≤n) (b2:1≤m) (b3:n≤1000) (b4:m≤1000) (b5:∀ (J:Array Value) (W:World),(callFunc F J).run Tryz.prog W=.ok (.enter F J) W) (M:∀ (a b:UInt64) (W:World),Below w.heap.size w W→Calls Tryz.prog F #[U a,U b] W fun e w'=>e=.returned (U (f a b))∧W=w') (h:Rd w w.heap.size A (x.map U)) (N:Rd w w.heap.size I (y.map U)):
  Calls Tryz.prog 156 #[.slice A n c,.slice I m a0,(.func (.func F) #[] #[])] w fun e w'=>
   e=.returned (.slice (some ⟨w.heap.size,0,none⟩) (max n m) (max n m))∧BlkW w' 39 w.heap.size (eachP (f) x y)∧Below w.heap.size w w':=by
 obtain ⟨q,p⟩:=Ky (max n m);obtain ⟨L,r⟩:=Ky (eachP (f) x y);have z:L.length=q:=by rw [r,ZbH,p,g,l]
 have a1:=Kz (fun (i:Nat) (O:i<q)=>(show nthW L i=(f) (nthW x (min i (n-1))) (nthW y (min i (m-1))) from by rw [r,Zha _ _ _ (by rw [←g,←l,←p];exact O),g,l]))
 have a2:=Kz g;have a3:=Kz l;have B:=Kz z;have a4:=Kz h;have a5:=Kz N;have a6:=Kz M;clear M;have b6:max (n:Int) (m:Int)=(q:Int):=by omega
 have C:=fun W=>Zdk q (by omega) W (q:Int) rfl
 obtain ⟨W0,s⟩:=Ky (w.alloc (.cells ((ZbV q).map U).toArray 39));have P:=Kv s;have Q:BlkW W0 39 w.heap.size (fillW L 0):=by
  rw [s,←Zex,z];exact Kac w _
 have R:=C w;rw [←s] at R;have S:=Kz P;have T:=Kz Q;rw [←r,←p];clear C s P Q g l h N r z p
 go_enter Tryz.func156,Tryz.ntmps156
 go_wp2
 go_loopw [17] (fun D wr=>(∃ i:Nat,i≤q∧D=.int .i64 i∧BlkW wr 39 w.heap.size (fillW L i))∧Below w.heap.size w wr) (fun D _=>q-(intOf D).toNat)
 case atStart=>exact ⟨⟨0,by omega,rfl,T.o⟩,S.o⟩
 case round=>
  clear R S T;obtain ⟨⟨i,O,rfl,V⟩,X⟩:=hrel;have v:=Kz V;have d:=Kz X;clear V X
  by_cases E:i<q
  ·obtain ⟨j,Y⟩:=Ky (min i (n-1));obtain ⟨k,Z⟩:=Ky (min i (m-1));have b7:min (i:Int) ((n:Int)-1)=(j:Int):=by omega
   have C:min (i:Int) ((m:Int)-1)=(k:Int):=by omega
   have b8:IntKind.i64.wrap ((n:Int)-1)=(n:Int)-1:=ZaE (by omega) (by omega)
   have b9:IntKind.i64.wrap ((m:Int)-1)=(m:Int)-1:=ZaE (by omega) (by omega)
   have a7:j<n:=by omega
   have a8:k<m:=by omega
   obtain ⟨c6,c7,rfl,c8,c9⟩:=(a4.o.below d.o).word (k:=j) (by rw [←a2.o];exact a7)
   obtain ⟨d0,d1,rfl,d2,d3⟩:=(a5.o.below d.o).word (k:=k) (by rw [←a3.o];exact a8)
   have d4:=v.o.cell (k:=i) (by rw [Zbb,B.o];exact E)
   have d5:=v.o.free i;have i0:(0:Int)≤(i:Int):=by omega
   have i1:(i:Int)<(q:Int):=by omega
   have j0:(0:Int)≤(j:Int):=by omega
   have j1:(j:Int)<(n:Int):=by omega
   have k0:(0:Int)≤(k:Int):=by omega
   have k1:(k:Int)<(m:Int):=by omega
   have H:=a1.o i E;simp only [←Y,←Z] at H;have a9:=Kz H;have b0:=Kz (Zey L (i:=i) (by rw [B.o];exact E))
   clear H Y Z
   go_wp2_with fail
   go_region_with (first | (with_reducible show Calls Tryz.prog F _ _ _;refine (a6.o _ _ _ ?_).mono ?_;(first | exact d.o.drew | exact d.o);rintro e w' ⟨rfl,rfl⟩))
   all_goals
    go_wp2
    refine ⟨⟨⟨i+1,by omega,rfl,?_⟩,?_⟩,by simp [intOf];omega⟩
    ·rw [←b0.o,a9.o];exact v.o.drewN _ |>.set _ _
    ·exact Zaf (Zaa d.o _) (Kag _) _
  ·obtain rfl:q=i:=by omega
   go_wp2
   go_ret;refine ⟨rfl,?_,d.o⟩;have:=v.o;rw [←B.o,Zez] at this;exact this
theorem ZiI (F:FuncId) (I:Nat) (f:UInt64→UInt64→UInt64) (A J:Option Addr) (n m c a1:Nat) (x y:List UInt64) (w:World) (g:n=x.length) (l:m=y.length) (b2:1≤n) (b3:1≤m) (b4:n≤1000) (b5:m≤1000) (b6:∀ (M:Array Value) (W:World),(callFunc F M).run Tryz.prog W=.ok (.enter F M) W) (N:∀ (a b:UInt64) (W:World),Below w.heap.size w W→Calls Tryz.prog F #[U a,U b,.pointer (some ⟨I,0,none⟩)] W fun e w'=>e=.returned (U (f a b))∧W=w') (h:Rd w w.heap.size A (x.map U)) (O:Rd w w.heap.size J (y.map U)):
  Calls Tryz.prog 156 #[.slice A n c,.slice J m a1,(.func (.func F) #[] #[.pointer (some ⟨I,0,none⟩)])] w fun e w'=>
   e=.returned (.slice (some ⟨w.heap.size,0,none⟩) (max n m) (max n m))∧BlkW w' 39 w.heap.size (eachP (f) x y)∧Below w.heap.size w w':=by
 obtain ⟨q,p⟩:=Ky (max n m);obtain ⟨L,r⟩:=Ky (eachP (f) x y);have z:L.length=q:=by rw [r,ZbH,p,g,l]
 have a2:=Kz (fun (i:Nat) (P:i<q)=>(show nthW L i=(f) (nthW x (min i (n-1))) (nthW y (min i (m-1))) from by rw [r,Zha _ _ _ (by rw [←g,←l,←p];exact P),g,l]))
 have a3:=Kz g;have a4:=Kz l;have B:=Kz z;have a5:=Kz h;have a6:=Kz O;have a7:=Kz N;clear N;have b7:max (n:Int) (m:Int)=(q:Int):=by omega
 have C:=fun W=>Zdk q (by omega) W (q:Int) rfl
 obtain ⟨W0,s⟩:=Ky (w.alloc (.cells ((ZbV q).map U).toArray 39));have Q:=Kv s;have R:BlkW W0 39 w.heap.size (fillW L 0):=by
  rw [s,←Zex,z];exact Kac w _
 have S:=C w;rw [←s] at S;have T:=Kz Q;have V:=Kz R;rw [←r,←p];clear C s Q R g l h O r z p
 go_enter Tryz.func156,Tryz.ntmps156
 go_wp2
 go_loopw [17] (fun D wr=>(∃ i:Nat,i≤q∧D=.int .i64 i∧BlkW wr 39 w.heap.size (fillW L i))∧Below w.heap.size w wr) (fun D _=>q-(intOf D).toNat)
 case atStart=>exact ⟨⟨0,by omega,rfl,V.o⟩,T.o⟩
 case round=>
  clear S T V;obtain ⟨⟨i,P,rfl,X⟩,Y⟩:=hrel;have v:=Kz X;have d:=Kz Y;clear X Y
  by_cases E:i<q
  ·obtain ⟨j,Z⟩:=Ky (min i (n-1));obtain ⟨k,a0⟩:=Ky (min i (m-1));have b8:min (i:Int) ((n:Int)-1)=(j:Int):=by omega
   have C:min (i:Int) ((m:Int)-1)=(k:Int):=by omega
   have b9:IntKind.i64.wrap ((n:Int)-1)=(n:Int)-1:=ZaE (by omega) (by omega)
   have c6:IntKind.i64.wrap ((m:Int)-1)=(m:Int)-1:=ZaE (by omega) (by omega)
   have a8:j<n:=by omega
   have a9:k<m:=by omega
   obtain ⟨c7,c8,rfl,c9,d0⟩:=(a5.o.below d.o).word (k:=j) (by rw [←a3.o];exact a8)
   obtain ⟨d1,d2,rfl,d3,d4⟩:=(a6.o.below d.o).word (k:=k) (by rw [←a4.o];exact a9)
   have d5:=v.o.cell (k:=i) (by rw [Zbb,B.o];exact E)
   have d6:=v.o.free i;have i0:(0:Int)≤(i:Int):=by omega
   have i1:(i:Int)<(q:Int):=by omega
   have j0:(0:Int)≤(j:Int):=by omega
   have j1:(j:Int)<(n:Int):=by omega
   have k0:(0:Int)≤(k:Int):=by omega
   have k1:(k:Int)<(m:Int):=by omega
   have H:=a2.o i E;simp only [←Z,←a0] at H;have b0:=Kz H;have b1:=Kz (Zey L (i:=i) (by rw [B.o];exact E))
   clear H Z a0
   go_wp2_with fail
   go_region_with (first | (with_reducible show Calls Tryz.prog F _ _ _;refine (a7.o _ _ _ ?_).mono ?_;(first | exact d.o.drew | exact d.o);rintro e w' ⟨rfl,rfl⟩))
   all_goals
    go_wp2
    refine ⟨⟨⟨i+1,by omega,rfl,?_⟩,?_⟩,by simp [intOf];omega⟩
    ·rw [←b1.o,b0.o];exact v.o.drewN _ |>.set _ _
    ·exact Zaf (Zaa d.o _) (Kag _) _
  ·obtain rfl:q=i:=by omega
   go_wp2
   go_ret;refine ⟨rfl,?_,d.o⟩;have:=v.o;rw [←B.o,Zez] at this;exact this
end Go.Proofs.YtghlnncfigkkaaaGreatDoor
namespace Go.Proofs.YtghlnncfigkkaaaGreatDoor
open Go.RowKit
theorem ent_3 (a:Array Value) (W:World):(callFunc 184 a).run Tryz.prog W=.ok (.enter 184 a) W:=by go_simp
theorem two_3 (a:ByteArray) (b:Nat) (c:Value) (d:Int) (w:World):Calls Tryz.prog 161 #[.agg #[.int .i64 3,.string a,.int .u64 (b:Int),c,.int .i64 d]] w fun e w'=>e=.returned (.func (.func 184) #[] #[])∧Below w.heap.size w w':=by
 have g:=fun (v:Array Value)=>Kaa 0 (Kac w (.cells v 90))
 go_enter Tryz.func161,Tryz.ntmps161
 go_wp2
 go_ret;exact ⟨rfl,(Kai _ _).alloc (Kag _) _⟩
theorem ent_4 (a:Array Value) (W:World):(callFunc 185 a).run Tryz.prog W=.ok (.enter 185 a) W:=by go_simp
theorem two_4 (a:ByteArray) (b:Nat) (c:Value) (d:Int) (w:World):Calls Tryz.prog 161 #[.agg #[.int .i64 4,.string a,.int .u64 (b:Int),c,.int .i64 d]] w fun e w'=>e=.returned (.func (.func 185) #[] #[])∧Below w.heap.size w w':=by
 have g:=fun (v:Array Value)=>Kaa 0 (Kac w (.cells v 90))
 go_enter Tryz.func161,Tryz.ntmps161
 go_wp2
 go_ret;exact ⟨rfl,(Kai _ _).alloc (Kag _) _⟩
theorem ent_5 (a:Array Value) (W:World):(callFunc 186 a).run Tryz.prog W=.ok (.enter 186 a) W:=by go_simp
theorem two_5 (a:ByteArray) (b:Nat) (c:Value) (d:Int) (w:World):Calls Tryz.prog 161 #[.agg #[.int .i64 5,.string a,.int .u64 (b:Int),c,.int .i64 d]] w fun e w'=>e=.returned (.func (.func 186) #[] #[])∧Below w.heap.size w w':=by
 have g:=fun (v:Array Value)=>Kaa 0 (Kac w (.cells v 90))
 go_enter Tryz.func161,Tryz.ntmps161
 go_wp2
 go_ret;exact ⟨rfl,(Kai _ _).alloc (Kag _) _⟩
theorem ent_6 (a:Array Value) (W:World):(callFunc 187 a).run Tryz.prog W=.ok (.enter 187 a) W:=by go_simp
theorem two_6 (a:ByteArray) (b:Nat) (c:Value) (d:Int) (w:World):Calls Tryz.prog 161 #[.agg #[.int .i64 6,.string a,.int .u64 (b:Int),c,.int .i64 d]] w fun e w'=>e=.returned (.func (.func 187) #[] #[])∧Below w.heap.size w w':=by
 have g:=fun (v:Array Value)=>Kaa 0 (Kac w (.cells v 90))
 go_enter Tryz.func161,Tryz.ntmps161
 go_wp2
 go_ret;exact ⟨rfl,(Kai _ _).alloc (Kag _) _⟩
theorem ent_8 (a:Array Value) (W:World):(callFunc 183 a).run Tryz.prog W=.ok (.enter 183 a) W:=by go_simp
theorem two_8 (a:ByteArray) (b:Nat) (c:Value) (d:Int) (w:World):Calls Tryz.prog 161 #[.agg #[.int .i64 8,.string a,.int .u64 (b:Int),c,.int .i64 d]] w fun e w'=>e=.returned (.func (.func 183) #[] #[])∧Below w.heap.size w w':=by
 have g:=fun (v:Array Value)=>Kaa 0 (Kac w (.cells v 90))
 go_enter Tryz.func161,Tryz.ntmps161
 go_wp2
 go_ret;exact ⟨rfl,(Kai _ _).alloc (Kag _) _⟩
theorem ent_9 (a:Array Value) (W:World):(callFunc 188 a).run Tryz.prog W=.ok (.enter 188 a) W:=by go_simp
theorem two_9 (b:ByteArray) (a:Nat) (c:Value) (d:Int) (w:World):Calls Tryz.prog 161 #[.agg #[.int .i64 9,.string b,.int .u64 (a:Int),c,.int .i64 d]] w fun e w'=>e=.returned (.func (.func 188) #[] #[.pointer (some ⟨w.heap.size,0,none⟩)])∧Below w.heap.size w w'∧w'.cell? ⟨w.heap.size,2,none⟩=some (.int .u64 (a:Int))∧w.heap.size<w'.heap.size:=by
 have g:=fun (v:Array Value)=>Kaa 0 (Kac w (.cells v 90))
 go_enter Tryz.func161,Tryz.ntmps161
 go_wp2
 go_ret;exact ⟨rfl,(Kai _ _).alloc (Kag _) _,Kaa 2 (Kac w (.cells #[.int .i64 9,.string b,.int .u64 (a:Int),c,.int .i64 d] 90)),by simp⟩
theorem Znp (a:Array Value) (W:World):(callFunc 190 a).run Tryz.prog W=.ok (.enter 190 a) W:=by go_simp
theorem Znq (a:ByteArray) (b:Nat) (c:Value) (d:Int) (w:World):Calls Tryz.prog 161 #[.agg #[.int .i64 10,.string a,.int .u64 (b:Int),c,.int .i64 d]] w fun e w'=>e=.returned (.func (.func 190) #[] #[])∧Below w.heap.size w w':=by
 have g:=fun (v:Array Value)=>Kaa 0 (Kac w (.cells v 90))
 go_enter Tryz.func161,Tryz.ntmps161
 go_wp2
 go_ret;exact ⟨rfl,(Kai _ _).alloc (Kag _) _⟩
theorem Znr (a:Array Value) (W:World):(callFunc 191 a).run Tryz.prog W=.ok (.enter 191 a) W:=by go_simp
theorem Zns (a:ByteArray) (b:Nat) (c:Value) (d:Int) (w:World):Calls Tryz.prog 161 #[.agg #[.int .i64 13,.string a,.int .u64 (b:Int),c,.int .i64 d]] w fun e w'=>e=.returned (.func (.func 191) #[] #[])∧Below w.heap.size w w':=by
 have g:=fun (v:Array Value)=>Kaa 0 (Kac w (.cells v 90))
 go_enter Tryz.func161,Tryz.ntmps161
 go_wp2
 go_ret;exact ⟨rfl,(Kai _ _).alloc (Kag _) _⟩
theorem Znt (a:Array Value) (W:World):(callFunc 157 a).run Tryz.prog W=.ok (.enter 157 a) W:=by go_simp
theorem Znu (a:Array Value) (W:World):(callFunc 158 a).run Tryz.prog W=.ok (.enter 158 a) W:=by go_simp
theorem Znv (a:Array Value) (W:World):(callFunc 160 a).run Tryz.prog W=.ok (.enter 160 a) W:=by go_simp
end Go.Proofs.YtghlnncfigkkaaaGreatDoor
