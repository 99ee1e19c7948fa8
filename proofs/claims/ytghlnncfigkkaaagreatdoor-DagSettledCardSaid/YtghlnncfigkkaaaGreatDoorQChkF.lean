/-
 Walks of the shape of an expression that is made of such ones.
-/
import Derived.Test.YtghlnncfigkkaaaGreatDoorQChkD
import Derived.BigQuiet
import Derived.Deep.RegionWith
set_option maxRecDepth 100000
set_option maxHeartbeats 4000000
set_option linter.unusedVariables false
set_option linter.unusedSimpArgs false
namespace Go.Proofs.YtghlnncfigkkaaaGreatDoor
open Go.RowKit
def ShL (X:Nat→Prop) (w:World) (A:Option Addr) (xs:List (List Int)):Prop:=∃ vs:List Value,vs.length=xs.length∧Rd w w.heap.size A vs∧∀ (j:Nat) (v:Value) (l:List Int),vs[j]?=some v→xs[j]?=some l→ShV X w v l
theorem ShL.cells {X:Nat→Prop} {w:World} {A:Option Addr} {xs:List (List Int)} (h:ShL X w A xs) (n:0<xs.length):∃ b o,A=some ⟨b,o,none⟩∧b<w.heap.size∧∀ (j:Nat) (l:List Int),xs[j]?=some l→∃ v,w.cell? ⟨b,o+j,none⟩=some v∧ShV X w v l:=by
 obtain ⟨c,d,a,g⟩:=h;rcases a with a | ⟨b,o,i,k,m⟩
 ·subst a;simp at d;omega
 ·refine ⟨b,o,i,k,fun j l e => ?_⟩
  have f:j<c.length:=by rw [d];exact (Kaf.1 e).1
  exact ⟨c[j],m j _ (Kad f),g j _ _ (Kad f) e⟩
theorem ShL.keep {X:Nat→Prop} {w w':World} {A:Option Addr} {xs:List (List Int)} (h:ShL X w A xs) (a:Below w.heap.size w w'):ShL X w' A xs:=by
 obtain ⟨b,c,d,e⟩:=h;exact ⟨b,c,d.next a,fun j v l f g=>(e j v l f g).next a⟩
theorem ZlY (X:Nat→Prop) (d:ByteArray) (num:Nat) (g:Value) (h:Int) (XA:Option Addr) (l:Nat) (w:World) (i:∀ k,X k→k<w.heap.size) (m:ShL X w XA ([]:List (List Int))):
  Calls Tryz.prog 152 #[.agg #[.int .i64 1,.string d,.int .u64 (num:Int),g,.int .i64 h],.slice XA 0 l] w fun e w'=>∃ v,e=.returned (.tuple #[v,.bool (Zab 1 num []).2])∧ShV X w' v (Zab 1 num []).1∧Below w.heap.size w w':=by
 obtain ⟨w2,a⟩:=Ky (w.alloc (.cells #[.int .i64 1,.string d,.int .u64 (num:Int),g,.int .i64 h] 90));have b:=Kv a;have c:=Kw a;have n:=Kz a;have p:=Kz b;have r:=Kz (fun k q=>Kae (i k q) b.size)
 have s:=Kaa 0 c;have x:=Kaa 2 c;clear m i;have j:=Kz (show Zab 1 num []=([],true) from rfl)
 clear a b c
 go_enter Tryz.func152,Tryz.ntmps152
 go_wp2_with fail
 rw [←n.o]
 go_wp2
 go_ret2;exact ⟨_,by rw [j.o];rfl,by rw [j.o];exact ShV.nil _ _,p.o⟩
theorem ZlZ (X:Nat→Prop) (d:ByteArray) (num:Nat) (g:Value) (h:Int) (XA:Option Addr) (l:Nat) (w:World) (i:∀ k,X k→k<w.heap.size) (m:ShL X w XA ([]:List (List Int))):
  Calls Tryz.prog 152 #[.agg #[.int .i64 2,.string d,.int .u64 (num:Int),g,.int .i64 h],.slice XA 0 l] w fun e w'=>∃ v,e=.returned (.tuple #[v,.bool (Zab 2 num []).2])∧ShV X w' v (Zab 2 num []).1∧Below w.heap.size w w':=by
 obtain ⟨w2,a⟩:=Ky (w.alloc (.cells #[.int .i64 2,.string d,.int .u64 (num:Int),g,.int .i64 h] 90));have b:=Kv a;have c:=Kw a;have n:=Kz a;have p:=Kz b;have r:=Kz (fun k q=>Kae (i k q) b.size)
 have s:=Kaa 0 c;have x:=Kaa 2 c;clear m i;have j:=Kz (show Zab 2 num []=([],true) from rfl)
 clear a b c
 go_enter Tryz.func152,Tryz.ntmps152
 go_wp2_with fail
 rw [←n.o]
 go_wp2
 go_ret2;exact ⟨_,by rw [j.o];rfl,by rw [j.o];exact ShV.nil _ _,p.o⟩
theorem Zki (X:Nat→Prop) (j:ByteArray) (num:Nat) (l:Value) (m:Int) (a:List Int) (XA:Option Addr) (x:Nat) (w:World) (n:∀ k,X k→k<w.heap.size) (p:ShL X w XA [a]):
  Calls Tryz.prog 152 #[.agg #[.int .i64 11,.string j,.int .u64 (num:Int),l,.int .i64 m],.slice XA 1 x] w fun e w'=>∃ v,e=.returned (.tuple #[v,.bool (Zab 11 num [a]).2])∧ShV X w' v (Zab 11 num [a]).1∧Below w.heap.size w w':=by
 obtain ⟨w2,c⟩:=Ky (w.alloc (.cells #[.int .i64 11,.string j,.int .u64 (num:Int),l,.int .i64 m] 90));have d:=Kv c;have g:=Kw c;have y:=Kz c;have z:=Kz d;have H:=Kz (fun k B=>Kae (n k B) d.size)
 have I:=Kaa 0 g;have J:=Kaa 2 g;obtain ⟨b,o,rfl,L,h⟩:=(p.keep d).cells (by simp)
 obtain ⟨M,c0,q⟩:=h 0 a rfl;have C:=Kz q;obtain ⟨N,O,rfl,D,P,E,r⟩:=q;have c0:w2.cell? ⟨b,o,none⟩=_:=c0;obtain ⟨Q,i⟩:=Ky a.length;have R:=Kz r.rd;rw [←i] at c0 D E C;have S:=Kz i;have F:=c0;rw [c] at F;have T:=Kz h;clear h p n r;have s:=Kz (show Zab 11 num [a]=([],true) from rfl)
 clear c d g i
 go_enter Tryz.func152,Tryz.ntmps152
 go_wp2_with fail
 rw [←y.o]
 go_wp2
 go_ret2;exact ⟨_,by rw [s.o];rfl,by rw [s.o];exact ShV.nil _ _,z.o⟩
theorem Zma (X:Nat→Prop) (j:ByteArray) (num:Nat) (l:Value) (m:Int) (a:List Int) (XA:Option Addr) (y:Nat) (w:World) (n:∀ k,X k→k<w.heap.size) (p:ShL X w XA [a]):
  Calls Tryz.prog 152 #[.agg #[.int .i64 3,.string j,.int .u64 (num:Int),l,.int .i64 m],.slice XA 1 y] w fun e w'=>∃ v,e=.returned (.tuple #[v,.bool (Zab 3 num [a]).2])∧ShV X w' v (Zab 3 num [a]).1∧Below w.heap.size w w':=by
 obtain ⟨w2,c⟩:=Ky (w.alloc (.cells #[.int .i64 3,.string j,.int .u64 (num:Int),l,.int .i64 m] 90));have d:=Kv c;have g:=Kw c;have z:=Kz c;have B:=Kz d;have H:=Kz (fun k C=>Kae (n k C) d.size)
 have I:=Kaa 0 g;have J:=Kaa 2 g;obtain ⟨b,o,rfl,L,h⟩:=(p.keep d).cells (by simp)
 obtain ⟨M,c0,q⟩:=h 0 a rfl;have r:=Kz q;obtain ⟨N,O,rfl,D,P,E,s⟩:=q;have c0:w2.cell? ⟨b,o,none⟩=_:=c0;obtain ⟨Q,i⟩:=Ky a.length;have R:=Kz s.rd;rw [←i] at c0 D E r;have S:=Kz i;have F:=c0;rw [c] at F;have T:=Kz h;clear h p n s;have x:=Kz (show Zab 3 num [a]=(a,true) from rfl)
 clear c d g i
 go_enter Tryz.func152,Tryz.ntmps152
 go_wp2_with fail
 rw [←z.o]
 go_wp2
 go_ret2;exact ⟨_,by rw [x.o];rfl,by rw [x.o];exact r.o,B.o⟩
theorem Zkj (X:Nat→Prop) (j:ByteArray) (num:Nat) (l:Value) (m:Int) (a:List Int) (XA:Option Addr) (y:Nat) (w:World) (n:∀ k,X k→k<w.heap.size) (p:ShL X w XA [a]):
  Calls Tryz.prog 152 #[.agg #[.int .i64 10,.string j,.int .u64 (num:Int),l,.int .i64 m],.slice XA 1 y] w fun e w'=>∃ v,e=.returned (.tuple #[v,.bool (Zab 10 num [a]).2])∧ShV X w' v (Zab 10 num [a]).1∧Below w.heap.size w w':=by
 obtain ⟨w2,c⟩:=Ky (w.alloc (.cells #[.int .i64 10,.string j,.int .u64 (num:Int),l,.int .i64 m] 90));have d:=Kv c;have g:=Kw c;have z:=Kz c;have B:=Kz d;have H:=Kz (fun k C=>Kae (n k C) d.size)
 have I:=Kaa 0 g;have J:=Kaa 2 g;obtain ⟨b,o,rfl,L,h⟩:=(p.keep d).cells (by simp)
 obtain ⟨M,c0,q⟩:=h 0 a rfl;have r:=Kz q;obtain ⟨N,O,rfl,D,P,E,s⟩:=q;have c0:w2.cell? ⟨b,o,none⟩=_:=c0;obtain ⟨Q,i⟩:=Ky a.length;have R:=Kz s.rd;rw [←i] at c0 D E r;have S:=Kz i;have F:=c0;rw [c] at F;have T:=Kz h;clear h p n s;have x:=Kz (show Zab 10 num [a]=(a,true) from rfl)
 clear c d g i
 go_enter Tryz.func152,Tryz.ntmps152
 go_wp2_with fail
 rw [←z.o]
 go_wp2
 go_ret2;exact ⟨_,by rw [x.o];rfl,by rw [x.o];exact r.o,B.o⟩
theorem Zmb (X:Nat→Prop) (j:ByteArray) (num:Nat) (l:Value) (m:Int) (a:List Int) (XA:Option Addr) (y:Nat) (w:World) (n:∀ k,X k→k<w.heap.size) (p:ShL X w XA [a]):
  Calls Tryz.prog 152 #[.agg #[.int .i64 9,.string j,.int .u64 (num:Int),l,.int .i64 m],.slice XA 1 y] w fun e w'=>∃ v,e=.returned (.tuple #[v,.bool (Zab 9 num [a]).2])∧ShV X w' v (Zab 9 num [a]).1∧Below w.heap.size w w':=by
 obtain ⟨w2,c⟩:=Ky (w.alloc (.cells #[.int .i64 9,.string j,.int .u64 (num:Int),l,.int .i64 m] 90));have d:=Kv c;have g:=Kw c;have z:=Kz c;have B:=Kz d;have I:=Kz (fun k C=>Kae (n k C) d.size)
 have J:=Kaa 0 g;have L:=Kaa 2 g;obtain ⟨b,o,rfl,M,h⟩:=(p.keep d).cells (by simp)
 obtain ⟨N,c0,q⟩:=h 0 a rfl;have r:=Kz q;obtain ⟨O,P,rfl,D,Q,E,s⟩:=q;have c0:w2.cell? ⟨b,o,none⟩=_:=c0;obtain ⟨R,i⟩:=Ky a.length;have S:=Kz s.rd;rw [←i] at c0 D E r;have T:=Kz i;have F:=c0;rw [c] at F;have V:=Kz h;clear h p n s;have x:=Kz (show Zab 9 num [a]=(a,decide (num≤63)) from rfl)
 have H:=Kz (show decide (num≤63)=decide ((num:Int)≤63) from by simp;omega)
 clear c d g i
 go_enter Tryz.func152,Tryz.ntmps152
 go_wp2_with fail
 rw [←z.o]
 go_wp2_with fail
 go_quiet (fail)
 go_wp2
 go_ret2;exact ⟨_,by rw [x.o,H.o];rfl,by rw [x.o];exact r.o.keep (Zag _ _ _),Zaa B.o _⟩
theorem Zkk (X:Nat→Prop) (l:ByteArray) (num:Nat) (m:Value) (n:Int) (a:List Int) (XA:Option Addr) (z:Nat) (w:World) (p:∀ k,X k→k<w.heap.size) (q:ShL X w XA [a]):
  Calls Tryz.prog 152 #[.agg #[.int .i64 12,.string l,.int .u64 (num:Int),m,.int .i64 n],.slice XA 1 z] w fun e w'=>∃ v,e=.returned (.tuple #[v,.bool (Zab 12 num [a]).2])∧ShV X w' v (Zab 12 num [a]).1∧Below w.heap.size w w':=by
 obtain ⟨w2,c⟩:=Ky (w.alloc (.cells #[.int .i64 12,.string l,.int .u64 (num:Int),m,.int .i64 n] 90));have d:=Kv c;have i:=Kw c;have B:=Kz c;have C:=Kz d;have L:=Kz (fun k D=>Kae (p k D) d.size)
 have M:=Kaa 0 i;have N:=Kaa 2 i;obtain ⟨b,o,rfl,O,j⟩:=(q.keep d).cells (by simp)
 obtain ⟨P,c0,r⟩:=j 0 a rfl;have E:=Kz r;obtain ⟨Q,R,rfl,F,S,H,s⟩:=r;have c0:w2.cell? ⟨b,o,none⟩=_:=c0;obtain ⟨x,g⟩:=Ky a.length;have T:=Kz s.rd;rw [←g] at c0 F H E;have V:=Kz g;have I:=c0;rw [c] at I;have W:=Kz j;clear j q p s;have y:=Kz (show Zab 12 num [a]=([],a.length==1) from rfl)
 have J:=Kz (show (a.length==1)=((x:Int)==1) from by
  rw [←g]
  by_cases h:x=1
  ·subst h;rfl
  ·rw [Kaj.2 h,Kaj.2 (by omega)])
 clear c d i g
 go_enter Tryz.func152,Tryz.ntmps152
 go_wp2_with fail
 rw [←B.o]
 go_wp2_with fail
 go_quiet (fail)
 go_wp2
 go_ret2;exact ⟨_,by rw [y.o,J.o];rfl,by rw [y.o];exact ShV.nil _ _,Zaa C.o _⟩
theorem Zmc (X:Nat→Prop) (r:ByteArray) (num:Nat) (s:Value) (x:Int) (a c:List Int) (XA:Option Addr) (I:Nat) (w:World) (y:∀ k,X k→k<w.heap.size) (z:ShL X w XA [a,c]):
  Calls Tryz.prog 152 #[.agg #[.int .i64 4,.string r,.int .u64 (num:Int),s,.int .i64 x],.slice XA 2 I] w fun e w'=>∃ v,e=.returned (.tuple #[v,.bool (Zab 4 num [a,c]).2])∧ShV X w' v (Zab 4 num [a,c]).1∧Below w.heap.size w w':=by
 obtain ⟨w2,d⟩:=Ky (w.alloc (.cells #[.int .i64 4,.string r,.int .u64 (num:Int),s,.int .i64 x] 90));have g:=Kv d;have i:=Kw d;have J:=Kz d;have L:=Kz g;have a5:=Kz (fun k M=>Kae (y k M) g.size)
 have e0:=Kaa 0 i;have e2:=Kaa 2 i;obtain ⟨b,o,rfl,a6,h⟩:=(z.keep g).cells (by simp)
 obtain ⟨v0,c0,B⟩:=h 0 a rfl;have j:=Kz B;obtain ⟨N,O,rfl,P,a7,Q,C⟩:=B;obtain ⟨v1,c1,D⟩:=h 1 c rfl;have l:=Kz D;obtain ⟨R,S,rfl,T,a8,V,E⟩:=D;have c0:w2.cell? ⟨b,o,none⟩=_:=c0;obtain ⟨W,m⟩:=Ky a.length;have a9:=Kz C.rd;obtain ⟨Y,n⟩:=Ky c.length;have b0:=Kz E.rd;rw [←m] at c0 P Q j;have b1:=Kz m;rw [←n] at c1 T V l;have b2:=Kz n;have Z:=c0;rw [d] at Z;have a0:=c1;rw [d] at a0;have b3:=Kz h;clear h z y C E;have F:=Kz (show Zab 4 num [a,c]=wideP a c from rfl)
 have H:=Kz (fun a1=>ZcD X _ _ a c (w2.drewN a1) (j.o.keep (Zag _ _ _)) (l.o.keep (Zag _ _ _)))
 obtain ⟨b4,p⟩:=Ky ((wideP a c).2);obtain ⟨a2,q⟩:=Ky (wideV a (.slice N W O) (.slice R Y S));rw [←p,←q] at H;have a3:=Kz p;have a4:=Kz q;clear p q;clear d g i m n
 go_enter Tryz.func152,Tryz.ntmps152
 go_wp2_with fail
 rw [←J.o]
 go_wp2_with fail
 go_quiet ((go_at_call 180;exact Calls.quiet_of (H.o _)))
 go_wp2
 go_ret2;exact ⟨_,by rw [F.o,←a3.o];rfl,by rw [F.o];show ShV X _ a2 _;rw [a4.o];exact (ZcC j.o l.o).keep (Zag _ _ _),Zaa L.o _⟩
theorem Zmd (X:Nat→Prop) (r:ByteArray) (num:Nat) (s:Value) (x:Int) (a c:List Int) (XA:Option Addr) (I:Nat) (w:World) (y:∀ k,X k→k<w.heap.size) (z:ShL X w XA [a,c]):
  Calls Tryz.prog 152 #[.agg #[.int .i64 5,.string r,.int .u64 (num:Int),s,.int .i64 x],.slice XA 2 I] w fun e w'=>∃ v,e=.returned (.tuple #[v,.bool (Zab 5 num [a,c]).2])∧ShV X w' v (Zab 5 num [a,c]).1∧Below w.heap.size w w':=by
 obtain ⟨w2,d⟩:=Ky (w.alloc (.cells #[.int .i64 5,.string r,.int .u64 (num:Int),s,.int .i64 x] 90));have g:=Kv d;have i:=Kw d;have J:=Kz d;have L:=Kz g;have a5:=Kz (fun k M=>Kae (y k M) g.size)
 have e0:=Kaa 0 i;have e2:=Kaa 2 i;obtain ⟨b,o,rfl,a6,h⟩:=(z.keep g).cells (by simp)
 obtain ⟨v0,c0,B⟩:=h 0 a rfl;have j:=Kz B;obtain ⟨N,O,rfl,P,a7,Q,C⟩:=B;obtain ⟨v1,c1,D⟩:=h 1 c rfl;have l:=Kz D;obtain ⟨R,S,rfl,T,a8,V,E⟩:=D;have c0:w2.cell? ⟨b,o,none⟩=_:=c0;obtain ⟨W,m⟩:=Ky a.length;have a9:=Kz C.rd;obtain ⟨Y,n⟩:=Ky c.length;have b0:=Kz E.rd;rw [←m] at c0 P Q j;have b1:=Kz m;rw [←n] at c1 T V l;have b2:=Kz n;have Z:=c0;rw [d] at Z;have a0:=c1;rw [d] at a0;have b3:=Kz h;clear h z y C E;have F:=Kz (show Zab 5 num [a,c]=wideP a c from rfl)
 have H:=Kz (fun a1=>ZcD X _ _ a c (w2.drewN a1) (j.o.keep (Zag _ _ _)) (l.o.keep (Zag _ _ _)))
 obtain ⟨b4,p⟩:=Ky ((wideP a c).2);obtain ⟨a2,q⟩:=Ky (wideV a (.slice N W O) (.slice R Y S));rw [←p,←q] at H;have a3:=Kz p;have a4:=Kz q;clear p q;clear d g i m n
 go_enter Tryz.func152,Tryz.ntmps152
 go_wp2_with fail
 rw [←J.o]
 go_wp2_with fail
 go_quiet ((go_at_call 180;exact Calls.quiet_of (H.o _)))
 go_wp2
 go_ret2;exact ⟨_,by rw [F.o,←a3.o];rfl,by rw [F.o];show ShV X _ a2 _;rw [a4.o];exact (ZcC j.o l.o).keep (Zag _ _ _),Zaa L.o _⟩
theorem Zme (X:Nat→Prop) (r:ByteArray) (num:Nat) (s:Value) (x:Int) (a c:List Int) (XA:Option Addr) (I:Nat) (w:World) (y:∀ k,X k→k<w.heap.size) (z:ShL X w XA [a,c]):
  Calls Tryz.prog 152 #[.agg #[.int .i64 6,.string r,.int .u64 (num:Int),s,.int .i64 x],.slice XA 2 I] w fun e w'=>∃ v,e=.returned (.tuple #[v,.bool (Zab 6 num [a,c]).2])∧ShV X w' v (Zab 6 num [a,c]).1∧Below w.heap.size w w':=by
 obtain ⟨w2,d⟩:=Ky (w.alloc (.cells #[.int .i64 6,.string r,.int .u64 (num:Int),s,.int .i64 x] 90));have g:=Kv d;have i:=Kw d;have J:=Kz d;have L:=Kz g;have a5:=Kz (fun k M=>Kae (y k M) g.size)
 have e0:=Kaa 0 i;have e2:=Kaa 2 i;obtain ⟨b,o,rfl,a6,h⟩:=(z.keep g).cells (by simp)
 obtain ⟨v0,c0,B⟩:=h 0 a rfl;have j:=Kz B;obtain ⟨N,O,rfl,P,a7,Q,C⟩:=B;obtain ⟨v1,c1,D⟩:=h 1 c rfl;have l:=Kz D;obtain ⟨R,S,rfl,T,a8,V,E⟩:=D;have c0:w2.cell? ⟨b,o,none⟩=_:=c0;obtain ⟨W,m⟩:=Ky a.length;have a9:=Kz C.rd;obtain ⟨Y,n⟩:=Ky c.length;have b0:=Kz E.rd;rw [←m] at c0 P Q j;have b1:=Kz m;rw [←n] at c1 T V l;have b2:=Kz n;have Z:=c0;rw [d] at Z;have a0:=c1;rw [d] at a0;have b3:=Kz h;clear h z y C E;have F:=Kz (show Zab 6 num [a,c]=wideP a c from rfl)
 have H:=Kz (fun a1=>ZcD X _ _ a c (w2.drewN a1) (j.o.keep (Zag _ _ _)) (l.o.keep (Zag _ _ _)))
 obtain ⟨b4,p⟩:=Ky ((wideP a c).2);obtain ⟨a2,q⟩:=Ky (wideV a (.slice N W O) (.slice R Y S));rw [←p,←q] at H;have a3:=Kz p;have a4:=Kz q;clear p q;clear d g i m n
 go_enter Tryz.func152,Tryz.ntmps152
 go_wp2_with fail
 rw [←J.o]
 go_wp2_with fail
 go_quiet ((go_at_call 180;exact Calls.quiet_of (H.o _)))
 go_wp2
 go_ret2;exact ⟨_,by rw [F.o,←a3.o];rfl,by rw [F.o];show ShV X _ a2 _;rw [a4.o];exact (ZcC j.o l.o).keep (Zag _ _ _),Zaa L.o _⟩
theorem Zmf (X:Nat→Prop) (r:ByteArray) (num:Nat) (s:Value) (x:Int) (a c:List Int) (XA:Option Addr) (I:Nat) (w:World) (y:∀ k,X k→k<w.heap.size) (z:ShL X w XA [a,c]):
  Calls Tryz.prog 152 #[.agg #[.int .i64 8,.string r,.int .u64 (num:Int),s,.int .i64 x],.slice XA 2 I] w fun e w'=>∃ v,e=.returned (.tuple #[v,.bool (Zab 8 num [a,c]).2])∧ShV X w' v (Zab 8 num [a,c]).1∧Below w.heap.size w w':=by
 obtain ⟨w2,d⟩:=Ky (w.alloc (.cells #[.int .i64 8,.string r,.int .u64 (num:Int),s,.int .i64 x] 90));have g:=Kv d;have i:=Kw d;have J:=Kz d;have L:=Kz g;have a5:=Kz (fun k M=>Kae (y k M) g.size)
 have e0:=Kaa 0 i;have e2:=Kaa 2 i;obtain ⟨b,o,rfl,a6,h⟩:=(z.keep g).cells (by simp)
 obtain ⟨v0,c0,B⟩:=h 0 a rfl;have j:=Kz B;obtain ⟨N,O,rfl,P,a7,Q,C⟩:=B;obtain ⟨v1,c1,D⟩:=h 1 c rfl;have l:=Kz D;obtain ⟨R,S,rfl,T,a8,V,E⟩:=D;have c0:w2.cell? ⟨b,o,none⟩=_:=c0;obtain ⟨W,m⟩:=Ky a.length;have a9:=Kz C.rd;obtain ⟨Y,n⟩:=Ky c.length;have b0:=Kz E.rd;rw [←m] at c0 P Q j;have b1:=Kz m;rw [←n] at c1 T V l;have b2:=Kz n;have Z:=c0;rw [d] at Z;have a0:=c1;rw [d] at a0;have b3:=Kz h;clear h z y C E;have F:=Kz (show Zab 8 num [a,c]=wideP a c from rfl)
 have H:=Kz (fun a1=>ZcD X _ _ a c (w2.drewN a1) (j.o.keep (Zag _ _ _)) (l.o.keep (Zag _ _ _)))
 obtain ⟨b4,p⟩:=Ky ((wideP a c).2);obtain ⟨a2,q⟩:=Ky (wideV a (.slice N W O) (.slice R Y S));rw [←p,←q] at H;have a3:=Kz p;have a4:=Kz q;clear p q;clear d g i m n
 go_enter Tryz.func152,Tryz.ntmps152
 go_wp2_with fail
 rw [←J.o]
 go_wp2_with fail
 go_quiet ((go_at_call 180;exact Calls.quiet_of (H.o _)))
 go_wp2
 go_ret2;exact ⟨_,by rw [F.o,←a3.o];rfl,by rw [F.o];show ShV X _ a2 _;rw [a4.o];exact (ZcC j.o l.o).keep (Zag _ _ _),Zaa L.o _⟩
theorem Zkl (X:Nat→Prop) (r:ByteArray) (num:Nat) (s:Value) (x:Int) (a c:List Int) (XA:Option Addr) (I:Nat) (w:World) (y:∀ k,X k→k<w.heap.size) (z:ShL X w XA [a,c]):
  Calls Tryz.prog 152 #[.agg #[.int .i64 13,.string r,.int .u64 (num:Int),s,.int .i64 x],.slice XA 2 I] w fun e w'=>∃ v,e=.returned (.tuple #[v,.bool (Zab 13 num [a,c]).2])∧ShV X w' v (Zab 13 num [a,c]).1∧Below w.heap.size w w':=by
 obtain ⟨w2,d⟩:=Ky (w.alloc (.cells #[.int .i64 13,.string r,.int .u64 (num:Int),s,.int .i64 x] 90));have g:=Kv d;have i:=Kw d;have J:=Kz d;have L:=Kz g;have a5:=Kz (fun k M=>Kae (y k M) g.size)
 have e0:=Kaa 0 i;have e2:=Kaa 2 i;obtain ⟨b,o,rfl,a6,h⟩:=(z.keep g).cells (by simp)
 obtain ⟨v0,c0,B⟩:=h 0 a rfl;have j:=Kz B;obtain ⟨N,O,rfl,P,a7,Q,C⟩:=B;obtain ⟨v1,c1,D⟩:=h 1 c rfl;have l:=Kz D;obtain ⟨R,S,rfl,T,a8,V,E⟩:=D;have c0:w2.cell? ⟨b,o,none⟩=_:=c0;obtain ⟨W,m⟩:=Ky a.length;have a9:=Kz C.rd;obtain ⟨Y,n⟩:=Ky c.length;have b0:=Kz E.rd;rw [←m] at c0 P Q j;have b1:=Kz m;rw [←n] at c1 T V l;have b2:=Kz n;have Z:=c0;rw [d] at Z;have a0:=c1;rw [d] at a0;have b3:=Kz h;clear h z y C E;have F:=Kz (show Zab 13 num [a,c]=wideP a c from rfl)
 have H:=Kz (fun a1=>ZcD X _ _ a c (w2.drewN a1) (j.o.keep (Zag _ _ _)) (l.o.keep (Zag _ _ _)))
 obtain ⟨b4,p⟩:=Ky ((wideP a c).2);obtain ⟨a2,q⟩:=Ky (wideV a (.slice N W O) (.slice R Y S));rw [←p,←q] at H;have a3:=Kz p;have a4:=Kz q;clear p q;clear d g i m n
 go_enter Tryz.func152,Tryz.ntmps152
 go_wp2_with fail
 rw [←J.o]
 go_wp2_with fail
 go_quiet ((go_at_call 180;exact Calls.quiet_of (H.o _)))
 go_wp2
 go_ret2;exact ⟨_,by rw [F.o,←a3.o];rfl,by rw [F.o];show ShV X _ a2 _;rw [a4.o];exact (ZcC j.o l.o).keep (Zag _ _ _),Zaa L.o _⟩
theorem Zmg (X:Nat→Prop) (q:ByteArray) (num:Nat) (r:Value) (s:Int) (a c:List Int) (XA:Option Addr) (J:Nat) (w:World) (x:∀ k,X k→k<w.heap.size) (y:ShL X w XA [a,c]):
  Calls Tryz.prog 152 #[.agg #[.int .i64 7,.string q,.int .u64 (num:Int),r,.int .i64 s],.slice XA 2 J] w fun e w'=>∃ v,e=.returned (.tuple #[v,.bool (Zab 7 num [a,c]).2])∧ShV X w' v (Zab 7 num [a,c]).1∧Below w.heap.size w w':=by
 obtain ⟨w2,d⟩:=Ky (w.alloc (.cells #[.int .i64 7,.string q,.int .u64 (num:Int),r,.int .i64 s] 90));have h:=Kv d;have j:=Kw d;have L:=Kz d;have z:=Kz h;have M:=Kz (fun k l=>Kae (x k l) h.size)
 have Y:=Kaa 0 j;have Z:=Kaa 2 j;obtain ⟨b,o,rfl,a0,i⟩:=(y.keep h).cells (by simp)
 obtain ⟨v0,c0,B⟩:=i 0 a rfl;have C:=Kz B;obtain ⟨A0,k0,rfl,N,a1,O,D⟩:=B;obtain ⟨v1,c1,E⟩:=i 1 c rfl;have F:=Kz E;obtain ⟨A1,k1,rfl,P,a2,Q,H⟩:=E;have c0:w2.cell? ⟨b,o,none⟩=_:=c0;obtain ⟨n0,m⟩:=Ky a.length;have a3:=Kz D.rd;obtain ⟨n1,n⟩:=Ky c.length;have a4:=Kz H.rd;rw [←m] at c0 N O C;have a5:=Kz m;rw [←n] at c1 P Q F;have a6:=Kz n;have R:=c0;rw [d] at R;have S:=c1;rw [d] at S;have a7:=Kz i;clear i y x D H;have I:=Kz (show Zab 7 num [a,c]=matP a c from rfl)
 have T:=Kz (fun (W:World) (p:Below w2.heap.size w2 W)=>ZlX X _ _ a c W (fun k l=>Kae (M.o k l) p.size) (C.o.next p) (F.o.next p))
 clear d h j m n
 go_enter Tryz.func152,Tryz.ntmps152
 go_wp2_with fail
 rw [←L.o]
 go_wp2_with fail
 go_region_with (first
  | (go_at_call 181;refine (T.o _ ?_).mono ?_;exact ⟨rfl,rfl,rfl,Kag _,fun _ _=>rfl⟩;rintro e w' ⟨v,rfl,V,g⟩))
 all_goals
  go_wp2
  go_ret2;exact ⟨_,by rw [I.o];rfl,by rw [I.o];exact V,z.o.trans (Below.mono ⟨g.os,g.tape,g.output,g.size,g.block⟩ z.o.size)⟩
theorem Zkm (X:Nat→Prop) (E:ByteArray) (num:Nat) (F:Value) (H:Int) (b a c:List Int) (XA:Option Addr) (a0:Nat) (w:World) (I:∀ k,X k→k<w.heap.size) (J:ShL X w XA [b,a,c]):
  Calls Tryz.prog 152 #[.agg #[.int .i64 14,.string E,.int .u64 (num:Int),F,.int .i64 H],.slice XA 3 a0] w fun e w'=>∃ v,e=.returned (.tuple #[v,.bool (Zab 14 num [b,a,c]).2])∧ShV X w' v (Zab 14 num [b,a,c]).1∧Below w.heap.size w w':=by
 obtain ⟨w2,d⟩:=Ky (w.alloc (.cells #[.int .i64 14,.string E,.int .u64 (num:Int),F,.int .i64 H] 90));have i:=Kv d;have m:=Kw d;have z:=Kz d;have B:=Kz i;have b0:=Kz (fun k a1=>Kae (I k a1) i.size)
 have e0:=Kaa 0 m;have e2:=Kaa 2 m;obtain ⟨a2,o,rfl,b1,n⟩:=(J.keep i).cells (by simp)
 obtain ⟨v0,c0,L⟩:=n 0 b rfl;have a3:=Kz L;obtain ⟨M,k0,rfl,p0,b2,l0,N⟩:=L;obtain ⟨v1,c1,O⟩:=n 1 a rfl;have s:=Kz O;obtain ⟨P,Q,rfl,p1,b3,l1,R⟩:=O;obtain ⟨v2,c2,S⟩:=n 2 c rfl;have a4:=Kz S;obtain ⟨T,k2,rfl,p2,b4,l2,V⟩:=S;have c0:w2.cell? ⟨a2,o,none⟩=_:=c0;obtain ⟨C,g⟩:=Ky b.length;have a5:=Kz N.rd;obtain ⟨W,h⟩:=Ky a.length;have Y:=Kz R.rd;obtain ⟨n2,j⟩:=Ky c.length;have a6:=Kz V.rd;rw [←g] at c0 p0 l0 a3;have b5:=Kz g;rw [←h] at c1 p1 l1 s;have b6:=Kz h;rw [←j] at c2 p2 l2 a4;have b7:=Kz j;have a7:=c0;rw [d] at a7;have a8:=c1;rw [d] at a8;have a9:=c2;rw [d] at a9;have b8:=Kz n;clear n J I N R V;have l:=Kz (show Zab 14 num [b,a,c]=(a,(a==c)&&(b.length==0||b==a)) from rfl)
 have p:=Kz (fun q=>ZcA P T W n2 Q k2 a c (w2.drewN q) h j (by omega) (by omega) (Y.o.drewN q) (a6.o.drewN q))
 have x:=Kz (fun q=>ZcA M P C W k0 Q b a (w2.drewN q) g h (by omega) (by omega) (a5.o.drewN q) (Y.o.drewN q))
 cases h1:(a==c) with
 | false=>
  rw [h1] at p;have r:=Kz (show ((a==c)&&(b.length==0||b==a))=false from by rw [h1];rfl)
  clear h1 x;clear d i m g h j
  go_enter Tryz.func152,Tryz.ntmps152
  go_wp2_with fail
  rw [←z.o]
  go_wp2_with fail
  go_quiet ((go_at_call 79;exact Calls.quiet_of (p.o _)))
  go_wp2
  go_ret2;exact ⟨_,by rw [l.o,r.o];rfl,by rw [l.o];exact s.o.keep (Zag _ _ _),Zaa B.o _⟩
 | true=>
  rw [h1] at p
  by_cases y:C=0
  ·have r:=Kz (show ((a==c)&&(b.length==0||b==a))=true from by rw [h1,←g,y];rfl)
   subst y;clear h1 x;clear d i m g h j
   go_enter Tryz.func152,Tryz.ntmps152
   go_wp2_with fail
   rw [←z.o]
   go_wp2_with fail
   go_quiet ((go_at_call 79;exact Calls.quiet_of (p.o _)))
   go_wp2
   go_ret2;exact ⟨_,by rw [l.o,r.o];rfl,by rw [l.o];exact s.o.keep (Zag _ _ _),Zaa B.o _⟩
  ·have q0:((C:Int)==0)=false:=by rw [Kaj];omega
   obtain ⟨Z,D⟩:=Ky (b==a);rw [←D] at x;have r:=Kz (show ((a==c)&&(b.length==0||b==a))=Z from by
    rw [h1,←g,←D,Kaj.2 y]
    cases Z <;> rfl)
   clear h1 y D;clear d i m g h j
   go_enter Tryz.func152,Tryz.ntmps152
   go_wp2_with fail
   rw [←z.o]
   go_wp2_with fail
   go_quiet (first
    | (go_at_call_of 79 T;exact Calls.quiet_of (p.o _))
    | (go_at_call_of 79 M;exact Calls.quiet_of (x.o _)))
   go_wp2
   go_ret2;exact ⟨_,by rw [l.o,r.o];rfl,by rw [l.o];exact s.o.keep (Zag _ _ _),Zaa B.o _⟩
theorem Zip (X:Nat→Prop) (k:Int) (c:ByteArray) (num:Nat) (d:Value) (g:Int) (xs:List (List Int)) (XA:Option Addr) (n i:Nat) (w:World) (t:n=xs.length) (j:madeP k=(xs.length:Int)) (l:∀ k,X k→k<w.heap.size) (m:ShL X w XA xs):
  Calls Tryz.prog 152 #[.agg #[.int .i64 k,.string c,.int .u64 (num:Int),d,.int .i64 g],.slice XA n i] w fun e w'=>∃ v,e=.returned (.tuple #[v,.bool (Zab k num xs).2])∧ShV X w' v (Zab k num xs).1∧Below w.heap.size w w':=by
 subst t;have r:∀ {b:List (List Int)},(1:Int)=(b.length:Int)→∃ x,b=[x]:=fun {b} h=>by
  match b,h with
  | [x],_=>exact ⟨x,rfl⟩
  | [],h=>simp at h
  | _::_::_,h=>simp at h;omega
 have q:∀ {b:List (List Int)},(2:Int)=(b.length:Int)→∃ x y,b=[x,y]:=fun {b} h=>by
  match b,h with
  | [x,y],_=>exact ⟨x,y,rfl⟩
  | [],h=>simp at h
  | [_],h=>simp at h
  | _::_::_::_,h=>simp at h;omega
 have B:∀ {b:List (List Int)},(3:Int)=(b.length:Int)→∃ x y z,b=[x,y,z]:=fun {b} h=>by
  match b,h with
  | [x,y,z],_=>exact ⟨x,y,z,rfl⟩
  | [],h=>simp at h
  | [_],h=>simp at h
  | [_,_],h=>simp at h
  | _::_::_::_::_,h=>simp at h;omega
 have s:∀ {b:List (List Int)},(0:Int)=(b.length:Int)→b=[]:=fun {b} h=>by
  match b,h with
  | [],_=>rfl
  | _::_,h=>simp at h;omega
 rcases ZbF k with rfl | rfl | rfl | rfl | rfl | rfl | rfl | rfl | rfl | rfl | rfl | rfl | rfl | rfl | ⟨E,F,H,I,J,L,M,N,O,P,Q,R,S,C⟩
 ·obtain rfl:=s j;exact ZlY X c num d g XA i w l m
 ·obtain rfl:=s j;exact ZlZ X c num d g XA i w l m
 ·obtain ⟨a,rfl⟩:=r j;exact Zma X c num d g a XA i w l m
 ·obtain ⟨a,p,rfl⟩:=q j;exact Zmc X c num d g a p XA i w l m
 ·obtain ⟨a,p,rfl⟩:=q j;exact Zmd X c num d g a p XA i w l m
 ·obtain ⟨a,p,rfl⟩:=q j;exact Zme X c num d g a p XA i w l m
 ·obtain ⟨a,p,rfl⟩:=q j;exact Zmg X c num d g a p XA i w l m
 ·obtain ⟨a,p,rfl⟩:=q j;exact Zmf X c num d g a p XA i w l m
 ·obtain ⟨a,rfl⟩:=r j;exact Zmb X c num d g a XA i w l m
 ·obtain ⟨a,rfl⟩:=r j;exact Zkj X c num d g a XA i w l m
 ·obtain ⟨a,rfl⟩:=r j;exact Zki X c num d g a XA i w l m
 ·obtain ⟨a,rfl⟩:=r j;exact Zkk X c num d g a XA i w l m
 ·obtain ⟨a,p,rfl⟩:=q j;exact Zkl X c num d g a p XA i w l m
 ·obtain ⟨a,p,D,rfl⟩:=B j;exact Zkm X c num d g a p D XA i w l m
 ·exfalso;have:madeP k = -1:=by
   unfold madeP;rw [if_neg (by omega),if_neg (by omega),if_neg (by omega),if_neg C]
  omega
end Go.Proofs.YtghlnncfigkkaaaGreatDoor
