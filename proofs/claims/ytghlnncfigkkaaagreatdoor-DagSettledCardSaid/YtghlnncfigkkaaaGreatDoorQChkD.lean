/-
 Walks of wide and mat.
-/
import Derived.Test.YtghlnncfigkkaaaGreatDoorQNum
import Derived.Test.YtghlnncfigkkaaaGreatDoorQChkB
import Derived.BigQuiet
import Derived.Deep.RegionWith
set_option maxRecDepth 100000
set_option maxHeartbeats 2000000
set_option linter.unusedVariables false
set_option linter.unusedSimpArgs false
namespace Go.Proofs.YtghlnncfigkkaaaGreatDoor
open Go.RowKit
theorem Zag (X:Nat→Prop) (w:World) (q:Nat):KeepX X w (w.drewN q):=⟨Kag _,fun _ _ _=>rfl⟩
theorem RdX.of_own {X:Nat→Prop} {w:World} {base:Nat} {e:TypeId} {A:Option Addr} {c:Nat} {xs:List Value} (h:Own w base e A c xs) (d:∀ k,X k→k<base):RdX X w A xs:=by
 rcases h.form with ⟨rfl,rfl⟩ | ⟨g,cur,rfl,l,b,m,n,p,f⟩
 ·exact .inl rfl
 ·refine .inr ⟨g,0,rfl,(Kab.1 b).1,fun i=>absurd (d g i) (by omega),fun j v a => ?_⟩
  rw [Nat.zero_add,cell_of_row w g j cur _ (0,0) b];rw [←f,List.getElem?_take] at a;split at a
  ·simpa using a
  ·cases a
theorem ShV.of_own {X:Nat→Prop} {w:World} {base:Nat} {A:Option Addr} {a n:Nat} {l:List Int} (h:Own w base 3 A a (l.map VI)) (c:∀ k,X k→k<base) (d:n=l.length) (e:l.length≤2):ShV X w (.slice A n a) l:=by
 have b:=Zfl h;rw [Kak] at b;exact ⟨A,a,by rw [d],b.2.1,b.2.2,e,RdX.of_own h c⟩
def wideV (x:List Int) (vx vy:Value):Value:=if x.length=0 then vy else vx
theorem ZcC {X:Nat→Prop} {w:World} {a b:Value} {x y:List Int} (c:ShV X w a x) (d:ShV X w b y):ShV X w (wideV x a b) (wideP x y).1:=by
 unfold wideV wideP;split
 ·exact d
 ·exact c
theorem ZcD (X:Nat→Prop) (l p:Value) (x y:List Int) (w:World) (E:ShV X w l x) (F:ShV X w p y):
  Calls Tryz.prog 180 #[l,p] w fun e w'=>e=.returned (.tuple #[wideV x l p,.bool (wideP x y).2])∧∃ q,w'=w.drewN q:=by
 have L:=Kz E;have M:=Kz F;obtain ⟨A,c,rfl,r,s,t,h⟩:=E;obtain ⟨i,j,rfl,v,z,B,k⟩:=F;have C:=Kz (fun W (H:W=w)=>ZcA A i x.length y.length c j x y W rfl rfl (by omega) (by omega) (by rw [H];exact h.rd) (by rw [H];exact k.rd))
 obtain ⟨n,b⟩:=Ky x.length;obtain ⟨m,d⟩:=Ky y.length;rw [←b] at L C ⊢;rw [←d] at M C ⊢
 by_cases D:n=0
 ·have a:wideP x y=(y,true):=by unfold wideP;rw [if_pos (by omega)]
  have g:wideV x (.slice A n c) (.slice i m j)=.slice i m j:=by unfold wideV;rw [if_pos (by omega)]
  rw [a,g];subst D;clear g b d r s t h v z B k a
  go_enter Tryz.func180,Tryz.ntmps180
  go_wp2
  go_ret2;exact ⟨rfl,0,rfl⟩
 ·have N:((n:Int)==0)=false:=by rw [Kaj];omega
  have a:wideP x y=(x,y.length==0||x==y):=by unfold wideP;rw [if_neg (by omega)]
  have g:wideV x (.slice A n c) (.slice i m j)=.slice A n c:=by unfold wideV;rw [if_neg (by omega)]
  rw [a,g,←d];clear g;have O:=Kz b
  by_cases I:m=0
  ·subst I;clear b d r s t h v z B k a D
   go_enter Tryz.func180,Tryz.ntmps180
   go_wp2
   go_ret2;exact ⟨rfl,0,rfl⟩
  ·have P:((m:Int)==0)=false:=by rw [Kaj];omega
   have J:((m==0):Bool)=false:=by rw [Kaj];omega
   rw [J];clear b d r s t h v z B k a D I J
   go_enter Tryz.func180,Tryz.ntmps180
   go_wp2_with (go_at_call 79;refine (C.o _ rfl).mono ?_;rintro e w' ⟨rfl,q,rfl⟩)
   go_ret2;exact ⟨rfl,q,rfl⟩
theorem Za8 (W:World):(Go.sizeOf 3).run Tryz.prog W=.ok 1 W:=by kernel_rfl
theorem Zds {X:Nat→Prop} {w:World} {A:Option Addr} {l:List Int} (h:RdX X w A (l.map VI)) (a:0<l.length):∃ b o,A=some ⟨b,o,none⟩∧b<w.heap.size∧∀ (j:Nat) (d:Int),l[j]?=some d→w.cell? ⟨b,o+j,none⟩=some (.int .i64 d):=by
 rcases h with h | ⟨b,o,c,e,_,f⟩
 ·have:=congrArg List.length h;rw [Kak] at this;simp at this;subst this;simp at a
 ·exact ⟨b,o,c,e,fun j d g=>f j _ (by rw [Kal,g];rfl)⟩
theorem Znj (X:Nat→Prop) (A I:Option Addr) (c a:Nat) (p q:Int) (w:World) (z:∀ k,X k→k<w.heap.size) (h1:1≤c) (a2:c≤9223372036854775807) (h2:1≤a) (a3:a≤9223372036854775807) (r:RdX X w A ([p].map VI)) (s:RdX X w I ([q].map VI)):
  Calls Tryz.prog 181 #[.slice A 1 c,.slice I 1 a] w fun e w'=>∃ v,e=.returned (.tuple #[v,.bool (matP [p] [q]).2])∧ShV X w' v (matP [p] [q]).1∧Below w.heap.size w w':=by
 have M:=Kz r.rd;have N:=Kz s.rd;have O:=Kz z;obtain ⟨b,o,rfl,a4,B⟩:=Zds r (by simp)
 obtain ⟨g,i,rfl,x,C⟩:=Zds s (by simp)
 have e0:w.cell? ⟨b,o,none⟩=_:=B 0 p rfl;have e1:w.cell? ⟨g,i,none⟩=_:=C 0 q rfl
 by_cases d:p=q
 ·have D:(p==q)=true:=by rw [beq_iff_eq];exact d
  have Q:(p != q)=false:=by unfold bne;rw [D];rfl
  have j:=Kz (show matP [p] [q]=([],true) from by unfold matP;rw [if_neg (by simp;exact d)];rfl)
  have R:∀ W,(Instr.sliceAt 41 (.slice (some ⟨b,o,none⟩) 1 c) none (some (.int .i64 0)) none).run Tryz.prog W=.ok (.slice (cutA (some ⟨b,o,none⟩) 0 1 c) 0 c) W:=fun W=>ZaB (P := Tryz.prog) Tryz.underlying41 Za8 (some ⟨b,o,none⟩) (n:=1) (c:=c) (h:=0) (by omega) W
  have S:∀ W,(Instr.sliceAt 41 (.slice (some ⟨g,i,none⟩) 1 a) (some (.int .i64 1)) none none).run Tryz.prog W=.ok (.slice (cutA (some ⟨g,i,none⟩) 1 1 a) 0 (a-1)) W:=fun W=>Za2 (P := Tryz.prog) Tryz.underlying41 Za8 (some ⟨g,i,none⟩) (n:=1) (c:=a) (k:=1) (by omega) W
  have J:=Zbl (some ⟨b,o,none⟩) 1 c (.inr ⟨b,o,rfl⟩);obtain ⟨y,E⟩:=Ky (cutA (some ⟨g,i,none⟩) 1 1 a);rw [←E] at S;rw [J] at R;have T:=Kz (fun (l:World) (L:Below w.heap.size w l) (V:l.heap.size=w.heap.size)=>show Calls Tryz.prog 203 #[.slice (some ⟨w.heap.size,0,none⟩) 2 2] (l.alloc (.cells #[.slice (some ⟨b,o,none⟩) 0 c,.slice y 0 (a-1)] 41)) (fun e w'=>∃ v,e=.returned v∧ShV X w' v []∧Below w.heap.size w w') from by
   obtain ⟨W,F⟩:=Ky (l.alloc (.cells #[.slice (some ⟨b,o,none⟩) 0 c,.slice y 0 (a-1)] 41));have m:Below w.heap.size w W:=by rw [F];exact L.alloc L.size _
   have H:W.heap[w.heap.size]?=some (.cells #[.slice (some ⟨b,o,none⟩) 0 c,.slice y 0 (a-1)] 41 (0,0)):=by rw [F,←V];exact Kac l _
   rw [←F];refine (Zcn w.heap.size (some ⟨b,o,none⟩) y 0 0 c (a-1) ([]:List Int) ([]:List Int) W rfl rfl (by omega) (by omega) (by
    have:=(M.o.next m).take 0;simpa using this) (by
    rw [E];have:=(N.o.next m).cut (k:=1) (c:=a) (by simp;omega)
    simpa using this) (Kab.1 H).1 (Kaa 0 H) (Kaa 1 H)).mono ?_
   rintro e w' ⟨a5,k,rfl,Y,x⟩
   exact ⟨_,rfl,ShV.of_own Y (fun k Z=>Kae (O.o k Z) m.size) rfl (by simp),m.trans (x.mono m.size)⟩)
  have w1:IntKind.i64.wrap 1=1:=rfl;have a0:IntKind.i64.wrap 0=0:=rfl;clear d B C r s z
  go_enter Tryz.func181,Tryz.ntmps181
  go_wp2_with fail
  go_quiet (fail)
  clear J E
  go_wp2_with fail
  go_region_with (first
   | (go_at_call 203;refine (T.o _ ?_ ?_).mono ?_;exact ⟨rfl,rfl,rfl,Kag _,fun _ _=>rfl⟩;rfl;rintro e w' ⟨v,rfl,a1,x⟩))
  all_goals
   go_wp2
   go_ret2;exact ⟨_,by rw [j.o];rfl,by rw [j.o];exact a1,x⟩
 ·have D:(p==q)=false:=by rw [Kaj];exact d
  have Q:(p != q)=true:=by unfold bne;rw [D];rfl
  have j:=Kz (show matP [p] [q]=([],false) from by unfold matP;rw [if_pos (by simp;exact d)])
  have w1:IntKind.i64.wrap 1=1:=rfl;have a0:IntKind.i64.wrap 0=0:=rfl;clear d B C r s z
  go_enter Tryz.func181,Tryz.ntmps181
  go_wp2_with fail
  go_quiet (fail)
  go_wp2
  go_ret2;exact ⟨_,by rw [j.o];rfl,by rw [j.o];exact ShV.nil _ _,Zaa (Kai _ _) _⟩
theorem Znk (X:Nat→Prop) (A J:Option Addr) (c a:Nat) (p q d:Int) (w:World) (B:∀ k,X k→k<w.heap.size) (h1:1≤c) (a3:c≤9223372036854775807) (h2:2≤a) (a4:a≤9223372036854775807) (s:RdX X w A ([p].map VI)) (x:RdX X w J ([q,d].map VI)):
  Calls Tryz.prog 181 #[.slice A 1 c,.slice J 2 a] w fun e w'=>∃ v,e=.returned (.tuple #[v,.bool (matP [p] [q,d]).2])∧ShV X w' v (matP [p] [q,d]).1∧Below w.heap.size w w':=by
 have N:=Kz s.rd;have O:=Kz x.rd;have Q:=Kz B;obtain ⟨b,o,rfl,a5,C⟩:=Zds s (by simp)
 obtain ⟨i,j,rfl,y,D⟩:=Zds x (by simp)
 have e0:w.cell? ⟨b,o,none⟩=_:=C 0 p rfl;have e1:w.cell? ⟨i,j,none⟩=_:=D 0 q rfl
 by_cases g:p=q
 ·have E:(p==q)=true:=by rw [beq_iff_eq];exact g
  have R:(p != q)=false:=by unfold bne;rw [E];rfl
  have l:=Kz (show matP [p] [q,d]=([d],true) from by unfold matP;rw [if_neg (by simp;exact g)];rfl)
  have S:∀ W,(Instr.sliceAt 41 (.slice (some ⟨b,o,none⟩) 1 c) none (some (.int .i64 0)) none).run Tryz.prog W=.ok (.slice (cutA (some ⟨b,o,none⟩) 0 1 c) 0 c) W:=fun W=>ZaB (P := Tryz.prog) Tryz.underlying41 Za8 (some ⟨b,o,none⟩) (n:=1) (c:=c) (h:=0) (by omega) W
  have T:∀ W,(Instr.sliceAt 41 (.slice (some ⟨i,j,none⟩) 2 a) (some (.int .i64 1)) none none).run Tryz.prog W=.ok (.slice (cutA (some ⟨i,j,none⟩) 1 1 a) 1 (a-1)) W:=fun W=>Za2 (P := Tryz.prog) Tryz.underlying41 Za8 (some ⟨i,j,none⟩) (n:=2) (c:=a) (k:=1) (by omega) W
  have L:=Zbl (some ⟨b,o,none⟩) 1 c (.inr ⟨b,o,rfl⟩);obtain ⟨z,F⟩:=Ky (cutA (some ⟨i,j,none⟩) 1 1 a);rw [←F] at T;rw [L] at S;have V:=Kz (fun (m:World) (M:Below w.heap.size w m) (Y:m.heap.size=w.heap.size)=>show Calls Tryz.prog 203 #[.slice (some ⟨w.heap.size,0,none⟩) 2 2] (m.alloc (.cells #[.slice (some ⟨b,o,none⟩) 0 c,.slice z 1 (a-1)] 41)) (fun e w'=>∃ v,e=.returned v∧ShV X w' v [d]∧Below w.heap.size w w') from by
   obtain ⟨W,H⟩:=Ky (m.alloc (.cells #[.slice (some ⟨b,o,none⟩) 0 c,.slice z 1 (a-1)] 41));have r:Below w.heap.size w W:=by rw [H];exact M.alloc M.size _
   have I:W.heap[w.heap.size]?=some (.cells #[.slice (some ⟨b,o,none⟩) 0 c,.slice z 1 (a-1)] 41 (0,0)):=by rw [H,←Y];exact Kac m _
   rw [←H];refine (Zcn w.heap.size (some ⟨b,o,none⟩) z 0 1 c (a-1) ([]:List Int) ([d]:List Int) W rfl rfl (by omega) (by omega) (by
    have:=(N.o.next r).take 0;simpa using this) (by
    rw [F];have:=(O.o.next r).cut (k:=1) (c:=a) (by simp;omega)
    simpa using this) (Kab.1 I).1 (Kaa 0 I) (Kaa 1 I)).mono ?_
   rintro e w' ⟨a6,k,rfl,Z,y⟩
   exact ⟨_,rfl,ShV.of_own Z (fun k a0=>Kae (Q.o k a0) r.size) rfl (by simp),r.trans (y.mono r.size)⟩)
  have w1:IntKind.i64.wrap 1=1:=rfl;have a1:IntKind.i64.wrap 0=0:=rfl;clear g C D s x B
  go_enter Tryz.func181,Tryz.ntmps181
  go_wp2_with fail
  go_quiet (fail)
  clear L F
  go_wp2_with fail
  go_region_with (first
   | (go_at_call 203;refine (V.o _ ?_ ?_).mono ?_;exact ⟨rfl,rfl,rfl,Kag _,fun _ _=>rfl⟩;rfl;rintro e w' ⟨v,rfl,a2,y⟩))
  all_goals
   go_wp2
   go_ret2;exact ⟨_,by rw [l.o];rfl,by rw [l.o];exact a2,y⟩
 ·have E:(p==q)=false:=by rw [Kaj];exact g
  have R:(p != q)=true:=by unfold bne;rw [E];rfl
  have l:=Kz (show matP [p] [q,d]=([],false) from by unfold matP;rw [if_pos (by simp;exact g)])
  have w1:IntKind.i64.wrap 1=1:=rfl;have a1:IntKind.i64.wrap 0=0:=rfl;clear g C D s x B
  go_enter Tryz.func181,Tryz.ntmps181
  go_wp2_with fail
  go_quiet (fail)
  go_wp2
  go_ret2;exact ⟨_,by rw [l.o];rfl,by rw [l.o];exact ShV.nil _ _,Zaa (Kai _ _) _⟩
theorem Znl (X:Nat→Prop) (A J:Option Addr) (c a:Nat) (p d q:Int) (w:World) (B:∀ k,X k→k<w.heap.size) (h1:2≤c) (a3:c≤9223372036854775807) (h2:1≤a) (a4:a≤9223372036854775807) (s:RdX X w A ([p,d].map VI)) (x:RdX X w J ([q].map VI)):
  Calls Tryz.prog 181 #[.slice A 2 c,.slice J 1 a] w fun e w'=>∃ v,e=.returned (.tuple #[v,.bool (matP [p,d] [q]).2])∧ShV X w' v (matP [p,d] [q]).1∧Below w.heap.size w w':=by
 have N:=Kz s.rd;have O:=Kz x.rd;have Q:=Kz B;obtain ⟨b,o,rfl,a5,C⟩:=Zds s (by simp)
 obtain ⟨i,j,rfl,y,D⟩:=Zds x (by simp)
 have e0:w.cell? ⟨b,o+1,none⟩=_:=C 1 d rfl;have e1:w.cell? ⟨i,j,none⟩=_:=D 0 q rfl
 by_cases g:d=q
 ·have E:(d==q)=true:=by rw [beq_iff_eq];exact g
  have R:(d != q)=false:=by unfold bne;rw [E];rfl
  have l:=Kz (show matP [p,d] [q]=([p],true) from by unfold matP;rw [if_neg (by simp;exact g)];rfl)
  have S:∀ W,(Instr.sliceAt 41 (.slice (some ⟨b,o,none⟩) 2 c) none (some (.int .i64 1)) none).run Tryz.prog W=.ok (.slice (cutA (some ⟨b,o,none⟩) 0 1 c) 1 c) W:=fun W=>ZaB (P := Tryz.prog) Tryz.underlying41 Za8 (some ⟨b,o,none⟩) (n:=2) (c:=c) (h:=1) (by omega) W
  have T:∀ W,(Instr.sliceAt 41 (.slice (some ⟨i,j,none⟩) 1 a) (some (.int .i64 1)) none none).run Tryz.prog W=.ok (.slice (cutA (some ⟨i,j,none⟩) 1 1 a) 0 (a-1)) W:=fun W=>Za2 (P := Tryz.prog) Tryz.underlying41 Za8 (some ⟨i,j,none⟩) (n:=1) (c:=a) (k:=1) (by omega) W
  have L:=Zbl (some ⟨b,o,none⟩) 1 c (.inr ⟨b,o,rfl⟩);obtain ⟨z,F⟩:=Ky (cutA (some ⟨i,j,none⟩) 1 1 a);rw [←F] at T;rw [L] at S;have V:=Kz (fun (m:World) (M:Below w.heap.size w m) (Y:m.heap.size=w.heap.size)=>show Calls Tryz.prog 203 #[.slice (some ⟨w.heap.size,0,none⟩) 2 2] (m.alloc (.cells #[.slice (some ⟨b,o,none⟩) 1 c,.slice z 0 (a-1)] 41)) (fun e w'=>∃ v,e=.returned v∧ShV X w' v [p]∧Below w.heap.size w w') from by
   obtain ⟨W,H⟩:=Ky (m.alloc (.cells #[.slice (some ⟨b,o,none⟩) 1 c,.slice z 0 (a-1)] 41));have r:Below w.heap.size w W:=by rw [H];exact M.alloc M.size _
   have I:W.heap[w.heap.size]?=some (.cells #[.slice (some ⟨b,o,none⟩) 1 c,.slice z 0 (a-1)] 41 (0,0)):=by rw [H,←Y];exact Kac m _
   rw [←H];refine (Zcn w.heap.size (some ⟨b,o,none⟩) z 1 0 c (a-1) ([p]:List Int) ([]:List Int) W rfl rfl (by omega) (by omega) (by
    have:=(N.o.next r).take 1;simpa using this) (by
    rw [F];have:=(O.o.next r).cut (k:=1) (c:=a) (by simp;omega)
    simpa using this) (Kab.1 I).1 (Kaa 0 I) (Kaa 1 I)).mono ?_
   rintro e w' ⟨a6,k,rfl,Z,y⟩
   exact ⟨_,rfl,ShV.of_own Z (fun k a0=>Kae (Q.o k a0) r.size) rfl (by simp),r.trans (y.mono r.size)⟩)
  have w1:IntKind.i64.wrap 1=1:=rfl;have a1:IntKind.i64.wrap 0=0:=rfl;clear g C D s x B
  go_enter Tryz.func181,Tryz.ntmps181
  go_wp2_with fail
  go_quiet (fail)
  clear L F
  go_wp2_with fail
  go_region_with (first
   | (go_at_call 203;refine (V.o _ ?_ ?_).mono ?_;exact ⟨rfl,rfl,rfl,Kag _,fun _ _=>rfl⟩;rfl;rintro e w' ⟨v,rfl,a2,y⟩))
  all_goals
   go_wp2
   go_ret2;exact ⟨_,by rw [l.o];rfl,by rw [l.o];exact a2,y⟩
 ·have E:(d==q)=false:=by rw [Kaj];exact g
  have R:(d != q)=true:=by unfold bne;rw [E];rfl
  have l:=Kz (show matP [p,d] [q]=([],false) from by unfold matP;rw [if_pos (by simp;exact g)])
  have w1:IntKind.i64.wrap 1=1:=rfl;have a1:IntKind.i64.wrap 0=0:=rfl;clear g C D s x B
  go_enter Tryz.func181,Tryz.ntmps181
  go_wp2_with fail
  go_quiet (fail)
  go_wp2
  go_ret2;exact ⟨_,by rw [l.o];rfl,by rw [l.o];exact ShV.nil _ _,Zaa (Kai _ _) _⟩
theorem Znm (X:Nat→Prop) (A L:Option Addr) (c a:Nat) (p d q g:Int) (w:World) (C:∀ k,X k→k<w.heap.size) (h1:2≤c) (a4:c≤9223372036854775807) (h2:2≤a) (a5:a≤9223372036854775807) (x:RdX X w A ([p,d].map VI)) (y:RdX X w L ([q,g].map VI)):
  Calls Tryz.prog 181 #[.slice A 2 c,.slice L 2 a] w fun e w'=>∃ v,e=.returned (.tuple #[v,.bool (matP [p,d] [q,g]).2])∧ShV X w' v (matP [p,d] [q,g]).1∧Below w.heap.size w w':=by
 have O:=Kz x.rd;have Q:=Kz y.rd;have R:=Kz C;obtain ⟨b,o,rfl,a6,D⟩:=Zds x (by simp)
 obtain ⟨j,l,rfl,z,E⟩:=Zds y (by simp)
 have e0:w.cell? ⟨b,o+1,none⟩=_:=D 1 d rfl;have e1:w.cell? ⟨j,l,none⟩=_:=E 0 q rfl
 by_cases i:d=q
 ·have F:(d==q)=true:=by rw [beq_iff_eq];exact i
  have S:(d != q)=false:=by unfold bne;rw [F];rfl
  have m:=Kz (show matP [p,d] [q,g]=([p,g],true) from by unfold matP;rw [if_neg (by simp;exact i)];rfl)
  have T:∀ W,(Instr.sliceAt 41 (.slice (some ⟨b,o,none⟩) 2 c) none (some (.int .i64 1)) none).run Tryz.prog W=.ok (.slice (cutA (some ⟨b,o,none⟩) 0 1 c) 1 c) W:=fun W=>ZaB (P := Tryz.prog) Tryz.underlying41 Za8 (some ⟨b,o,none⟩) (n:=2) (c:=c) (h:=1) (by omega) W
  have V:∀ W,(Instr.sliceAt 41 (.slice (some ⟨j,l,none⟩) 2 a) (some (.int .i64 1)) none none).run Tryz.prog W=.ok (.slice (cutA (some ⟨j,l,none⟩) 1 1 a) 1 (a-1)) W:=fun W=>Za2 (P := Tryz.prog) Tryz.underlying41 Za8 (some ⟨j,l,none⟩) (n:=2) (c:=a) (k:=1) (by omega) W
  have M:=Zbl (some ⟨b,o,none⟩) 1 c (.inr ⟨b,o,rfl⟩);obtain ⟨B,H⟩:=Ky (cutA (some ⟨j,l,none⟩) 1 1 a);rw [←H] at V;rw [M] at T;have Y:=Kz (fun (r:World) (N:Below w.heap.size w r) (Z:r.heap.size=w.heap.size)=>show Calls Tryz.prog 203 #[.slice (some ⟨w.heap.size,0,none⟩) 2 2] (r.alloc (.cells #[.slice (some ⟨b,o,none⟩) 1 c,.slice B 1 (a-1)] 41)) (fun e w'=>∃ v,e=.returned v∧ShV X w' v [p,g]∧Below w.heap.size w w') from by
   obtain ⟨W,I⟩:=Ky (r.alloc (.cells #[.slice (some ⟨b,o,none⟩) 1 c,.slice B 1 (a-1)] 41));have s:Below w.heap.size w W:=by rw [I];exact N.alloc N.size _
   have J:W.heap[w.heap.size]?=some (.cells #[.slice (some ⟨b,o,none⟩) 1 c,.slice B 1 (a-1)] 41 (0,0)):=by rw [I,←Z];exact Kac r _
   rw [←I];refine (Zcn w.heap.size (some ⟨b,o,none⟩) B 1 1 c (a-1) ([p]:List Int) ([g]:List Int) W rfl rfl (by omega) (by omega) (by
    have:=(O.o.next s).take 1;simpa using this) (by
    rw [H];have:=(Q.o.next s).cut (k:=1) (c:=a) (by simp;omega)
    simpa using this) (Kab.1 J).1 (Kaa 0 J) (Kaa 1 J)).mono ?_
   rintro e w' ⟨a7,k,rfl,a0,z⟩
   exact ⟨_,rfl,ShV.of_own a0 (fun k a1=>Kae (R.o k a1) s.size) rfl (by simp),s.trans (z.mono s.size)⟩)
  have w1:IntKind.i64.wrap 1=1:=rfl;have a2:IntKind.i64.wrap 0=0:=rfl;clear i D E x y C
  go_enter Tryz.func181,Tryz.ntmps181
  go_wp2_with fail
  go_quiet (fail)
  clear M H
  go_wp2_with fail
  go_region_with (first
   | (go_at_call 203;refine (Y.o _ ?_ ?_).mono ?_;exact ⟨rfl,rfl,rfl,Kag _,fun _ _=>rfl⟩;rfl;rintro e w' ⟨v,rfl,a3,z⟩))
  all_goals
   go_wp2
   go_ret2;exact ⟨_,by rw [m.o];rfl,by rw [m.o];exact a3,z⟩
 ·have F:(d==q)=false:=by rw [Kaj];exact i
  have S:(d != q)=true:=by unfold bne;rw [F];rfl
  have m:=Kz (show matP [p,d] [q,g]=([],false) from by unfold matP;rw [if_pos (by simp;exact i)])
  have w1:IntKind.i64.wrap 1=1:=rfl;have a2:IntKind.i64.wrap 0=0:=rfl;clear i D E x y C
  go_enter Tryz.func181,Tryz.ntmps181
  go_wp2_with fail
  go_quiet (fail)
  go_wp2
  go_ret2;exact ⟨_,by rw [m.o];rfl,by rw [m.o];exact ShV.nil _ _,Zaa (Kai _ _) _⟩
theorem Zkh (X:Nat→Prop) (A b:Option Addr) (n m c d:Nat) (w:World) (i:n≤2) (j:m≤2) (g:n=0∨m=0):
  Calls Tryz.prog 181 #[.slice A n c,.slice b m d] w fun e w'=>e=.returned (.tuple #[.slice none 0 0,.bool false])∧Below w.heap.size w w':=by
 by_cases a:n=0
 ·subst a
  go_enter Tryz.func181,Tryz.ntmps181
  go_wp2_with fail
  go_quiet (fail)
  go_wp2
  go_ret2;exact ⟨rfl,Zaa (Kai _ _) _⟩
 ·have h:m=0:=by omega
  subst h;have k:((n:Int)==0)=false:=by rw [Kaj];omega
  clear g a
  go_enter Tryz.func181,Tryz.ntmps181
  go_wp2_with fail
  go_quiet (fail)
  go_wp2
  go_ret2;exact ⟨rfl,Zaa (Kai _ _) _⟩
theorem ZlX (X:Nat→Prop) (z B:Value) (x y:List Int) (w:World) (r:∀ k,X k→k<w.heap.size) (C:ShV X w z x) (D:ShV X w B y):
  Calls Tryz.prog 181 #[z,B] w fun e w'=>∃ v,e=.returned (.tuple #[v,.bool (matP x y).2])∧ShV X w' v (matP x y).1∧Below w.heap.size w w':=by
 obtain ⟨A,c,rfl,a,s,i,b⟩:=C;obtain ⟨m,n,rfl,d,t,j,g⟩:=D
 by_cases l:x.length=0∨y.length=0
 ·have E:matP x y=([],false):=by
   unfold matP;rw [if_pos];rcases l with h | h
   ·exact .inl h
   ·exact .inr (.inl h)
  rw [E];refine (Zkh X A m x.length y.length c n w i j l).mono ?_
  rintro e w' ⟨rfl,F⟩
  exact ⟨_,rfl,ShV.nil _ _,F⟩
 ·match x,y,a,i,b,d,j,g,l with
  | [p],[q],a,i,b,d,j,g,_=>exact Znj X A m c n p q w r a s d t b g
  | [p],[q,q2],a,i,b,d,j,g,_=>exact Znk X A m c n p q q2 w r a s d t b g
  | [p,p2],[q],a,i,b,d,j,g,_=>exact Znl X A m c n p p2 q w r a s d t b g
  | [p,p2],[q,q2],a,i,b,d,j,g,_=>exact Znm X A m c n p p2 q q2 w r a s d t b g
  | [],_,_,_,_,_,_,_,l=>exact absurd (.inl rfl) l
  | _,[],_,_,_,_,_,_,l=>exact absurd (.inr rfl) l
  | _::_::_::_,_,_,i,_,_,_,_,_=>simp at i
  | _,_::_::_::_,_,_,_,_,j,_,_=>simp at j
end Go.Proofs.YtghlnncfigkkaaaGreatDoor
