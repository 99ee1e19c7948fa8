/-
 The evaluator's expr at any typed expression: it answers the words that the plain function says.
-/
import Derived.Test.YtghlnncfigkkaaaGreatDoorQEvL
import Derived.Test.YtghlnncfigkkaaaGreatDoorQEvX
import Derived.Handy
set_option maxRecDepth 100000
set_option maxHeartbeats 8000000
set_option linter.unusedVariables false
set_option linter.unusedSimpArgs false
namespace Go.Proofs.YtghlnncfigkkaaaGreatDoor
open Go.RowKit
theorem ZfB (n:Nat) (f:Nat→UInt64) {i:Nat} (a:i<n):atL ((List.range n).map f) i=f i:=by
 unfold atL;rw [Kak,List.length_range];split
 ·have:i=0:=by omega
  subst this;exact Zat _ _ a
 ·exact Zat _ _ a
theorem ZfC {k:Int} {num n:Nat} {x y:List UInt64} {f:UInt64→UInt64→UInt64} (c:∀ a b,f a b=oneF k num a b) (d:x.length=1∨x.length=n) (e:y.length=1∨y.length=n) (h:max x.length y.length=n):
  eachP f x y=(List.range n).map fun i=>oneF k num (atL x i) (atL y i):=by
 rw [Zd6 d e h];exact List.map_congr_left fun i _=>c _ _
theorem ZiS {c y z:List UInt64} {n:Nat} (l:1≤n) (k:c.length=1∨c.length=n) (f:y.length=n) (d:z.length=n):
  eachP (fun a b=>xorW a b) z (eachP (fun a b=>andW (negW (andW a 1)) b) c (eachP (fun a b=>xorW a b) y z))=(List.range n).map fun i=>if andW (atL c i) 1=1 then atL y i else atL z i:=by
 have h:(eachP (fun a b=>xorW a b) y z).length=n:=by rw [ZbH,f,d,Nat.max_self]
 have j:(eachP (fun a b=>andW (negW (andW a 1)) b) c (eachP (fun a b=>xorW a b) y z)).length=n:=by rw [ZbH,h];omega
 rw [Zd6 (n:=n) (.inr d) (.inr j) (by rw [d,j,Nat.max_self]),Zd6 (n:=n) k (.inr h) (by rw [h];omega),Zd6 (n:=n) (.inr f) (.inr d) (by rw [f,d,Nat.max_self])]
 refine List.map_congr_left fun i e => ?_
 have e:=List.mem_range.1 e;rw [ZfB _ _ e,ZfB _ _ e];exact ZkS _ _ _
theorem Za0 {e:EI} {sh:List (List Int)} {names:Names} {s:List Int} (h:exprC e sh names=.inl s) (b:e.kind≠2):Zab e.kind e.num (e.args.map fun a=>sh.getD a.toNat [])=(s,true)∧Zad s≠0:=by
 unfold exprC at h;rw [if_neg b] at h;dsimp only at h;split at h
 ·cases h
 ·rename_i hn
  injection h with h
  simp only [not_or] at hn;refine ⟨Prod.ext h ?_,by rw [←h];exact hn.2⟩
  cases hb:(Zab e.kind e.num (e.args.map fun a=>sh.getD a.toNat [])).2 with
  | true=>rfl
  | false=>exact absurd hb hn.1
theorem ZaQ {t:TN} (h:TnOk t):1≤t.el.length∧t.el.length≤32:=by
 have a:=Zby h.1;have b:=h.2;omega
theorem ZcN {k:Int} {num:Nat} {x y:TN} {s:List Int} {f:UInt64→UInt64→UInt64} (d:∀ a b,f a b=oneF k num a b) (e:TnOk x) (h:TnOk y) (j:wideP x.sh y.sh=(s,true)) (c:k≠7∧k≠11∧k≠12∧k≠14):
  eachP f x.el y.el=Zbc k num (Zad s).toNat [x,y]:=by
 obtain ⟨n,l,r,t,m,p,q⟩:=Ze0 e h j;unfold Zbc;dsimp only;rw [if_neg c.1,if_neg c.2.1,if_neg c.2.2.1,if_neg c.2.2.2,ZfC d m p q,l,Int.toNat_natCast];rfl
theorem ZeY {k:Int} {num:Nat} {x:TN} {f:UInt64→UInt64→UInt64} (d:∀ a b,f a b=oneF k num a b) (e:TnOk x) (c:k≠7∧k≠11∧k≠12∧k≠14):
  eachP f x.el x.el=Zbc k num (Zad x.sh).toNat [x]:=by
 unfold Zbc;dsimp only;rw [if_neg c.1,if_neg c.2.1,if_neg c.2.2.1,if_neg c.2.2.2,ZfC (n:=x.el.length) d (.inr rfl) (.inr rfl) (Nat.max_self _),←e.2,Int.toNat_natCast];rfl
theorem ZfD {l:List Int} {ne:Nat} (h:l.length=1) (b:∀ a∈l,0≤a∧a<(ne:Int)):∃ a:Nat,l=[(a:Int)]∧a<ne:=by
 match l,h with
 | [x],_=>
  have:=b x (by simp)
  exact ⟨x.toNat,by congr 1;omega,by omega⟩
theorem Ze2 {l:List Int} {ne:Nat} (h:l.length=2) (c:∀ a∈l,0≤a∧a<(ne:Int)):∃ a b:Nat,l=[(a:Int),(b:Int)]∧a<ne∧b<ne:=by
 match l,h with
 | [x,y],_=>
  have d:=c x (by simp)
  have e:=c y (by simp)
  exact ⟨x.toNat,y.toNat,by rw [show ((x.toNat:Nat):Int)=x by omega,show ((y.toNat:Nat):Int)=y by omega],by omega,by omega⟩
theorem Znz {l:List Int} {ne:Nat} (h:l.length=3) (d:∀ a∈l,0≤a∧a<(ne:Int)):∃ a b c:Nat,l=[(a:Int),(b:Int),(c:Int)]∧a<ne∧b<ne∧c<ne:=by
 match l,h with
 | [x,y,z],_=>
  have e:=d x (by simp)
  have f:=d y (by simp)
  have j:=d z (by simp)
  exact ⟨x.toNat,y.toNat,z.toNat,by rw [show ((x.toNat:Nat):Int)=x by omega,show ((y.toNat:Nat):Int)=y by omega,show ((z.toNat:Nat):Int)=z by omega],by omega,by omega,by omega⟩
theorem ZiT (B cb g vg:Nat) (Z:List Nat) (SA EA HA:Option Addr) (ns sc ne ec:Nat) (names:Zah) (V:Nat→TN) (shF:List (List Int)) (e:EI) (s:List Int) (E:Option Addr) (a0 H:Nat) (w:World)
  (L:EvSt w B cb g vg Z SA EA HA ns sc ne ec names V shF) (T:ArgsT e names shF s (e.args.map fun a=>V a.toNat)) (M:∀ a∈e.args,0≤a∧a<(ne:Int)) (a1:e.num≤18446744073709551615) (I:Rd w w.heap.size E (e.args.map VI)) (J:a0=e.args.length):
  Calls Tryz.prog 98 #[.pointer (some ⟨cb,0,none⟩),.agg #[.int .i64 e.kind,.string e.name,.int .u64 (e.num:Int),.slice E a0 H,.int .i64 e.pos]] w (ExOut (evX cb g vg Z) w (exprE e (Zad s).toNat V names)):=by
 obtain ⟨a2,y,p,F,C⟩:=e;dsimp only at M a1 I J ⊢;have a6:=T.hl;have D:=T.hc;have N:=T.hx;have v:=T.ho;dsimp only at a6 N v;rcases ZbF a2 with rfl | rfl | rfl | rfl | rfl | rfl | rfl | rfl | rfl | rfl | rfl | rfl | rfl | rfl | ⟨W,h2,h3,h4,h5,h6,h7,h8,h9,b2,b3,b4,b5,a7⟩
 ·have m:F.length=0:=by have:madeP 1=0:=rfl;omega
  have X:F=[]:=List.eq_nil_of_length_eq_zero m;subst X;subst J;exact Zmn B cb g vg Z SA EA HA ns sc ne ec names V shF y p C E H w L I a1
 ·have m:F.length=0:=by have:madeP 2=0:=rfl;omega
  have X:F=[]:=List.eq_nil_of_length_eq_zero m;subst X;subst J;refine Zmo B cb g vg Z SA EA HA ns sc ne ec names V shF y p C E H w L I ?_;unfold exprC at D;rw [if_pos rfl] at D
  cases hf:findN (shN names) y with
  | none=>dsimp only at D;rw [hf] at D;cases D
  | some q=>rfl
 ·have m:F.length=1:=by have:madeP 3=1:=rfl;omega
  obtain ⟨c,rfl,t⟩:=ZfD m M;subst J;have l:TnOk (V c):=v _ (by simp)
  obtain ⟨j,P⟩:=Za0 D (show (3:Int)≠2 by decide)
  rw [←N] at j;have R:(V c).sh=s:=congrArg Prod.fst j;subst R;have h:=Zmp B cb g vg Z SA EA HA ns sc ne ec names V shF y p C c E H w L I t (ZaQ l);rw [ZeY (k:=3) (num:=p) (fun a b=>by unfold oneF;rw [if_pos rfl]) l (by decide)] at h
  exact h
 ·have m:F.length=2:=by have:madeP 4=2:=rfl;omega
  obtain ⟨c,d,rfl,t,O⟩:=Ze2 m M;subst J;have l:TnOk (V c):=v _ (by simp)
  have x:TnOk (V d):=v _ (by simp)
  obtain ⟨j,P⟩:=Za0 D (show (4:Int)≠2 by decide)
  rw [←N] at j;have Q:wideP (V c).sh (V d).sh=(s,true):=j;have h:=Zmq B cb g vg Z SA EA HA ns sc ne ec names V shF y p C c d E H w L I t O (ZaQ l) (ZaQ x);rw [ZcN (k:=4) (num:=p) (fun a b=>by unfold oneF;rw [if_neg (by decide),if_pos rfl]) l x Q (by decide)] at h
  exact h
 ·have m:F.length=2:=by have:madeP 5=2:=rfl;omega
  obtain ⟨c,d,rfl,t,O⟩:=Ze2 m M;subst J;have l:TnOk (V c):=v _ (by simp)
  have x:TnOk (V d):=v _ (by simp)
  obtain ⟨j,P⟩:=Za0 D (show (5:Int)≠2 by decide)
  rw [←N] at j;have Q:wideP (V c).sh (V d).sh=(s,true):=j;have h:=Zmr B cb g vg Z SA EA HA ns sc ne ec names V shF y p C c d E H w L I t O (ZaQ l) (ZaQ x);rw [ZcN (k:=5) (num:=p) (fun a b=>by unfold oneF;rw [if_neg (by decide),if_neg (by decide),if_pos rfl]) l x Q (by decide)] at h
  exact h
 ·have m:F.length=2:=by have:madeP 6=2:=rfl;omega
  obtain ⟨c,d,rfl,t,O⟩:=Ze2 m M;subst J;have l:TnOk (V c):=v _ (by simp)
  have x:TnOk (V d):=v _ (by simp)
  obtain ⟨j,P⟩:=Za0 D (show (6:Int)≠2 by decide)
  rw [←N] at j;have Q:wideP (V c).sh (V d).sh=(s,true):=j;have h:=Zms B cb g vg Z SA EA HA ns sc ne ec names V shF y p C c d E H w L I t O (ZaQ l) (ZaQ x);rw [ZcN (k:=6) (num:=p) (fun a b=>by unfold oneF;rw [if_neg (by decide),if_neg (by decide),if_neg (by decide),if_pos rfl]) l x Q (by decide)] at h
  exact h
 ·have m:F.length=2:=by have:madeP 7=2:=rfl;omega
  obtain ⟨c,d,rfl,t,O⟩:=Ze2 m M;subst J;have l:TnOk (V c):=v _ (by simp)
  have x:TnOk (V d):=v _ (by simp)
  obtain ⟨j,P⟩:=Za0 D (show (7:Int)≠2 by decide)
  rw [←N] at j;have Q:matP (V c).sh (V d).sh=(s,true):=j;obtain ⟨a3,q,n,m1,m2,q1,q2,Y,n2,l0,l1,y0,y1,b6,d0,d1⟩:=ZdK l x Q P;have a8:(V d).sh[0]?=some (q:Int):=by
   cases hc9:(V d).sh with
   | nil=>exact absurd hc9 y1
   | cons z r=>rw [hc9] at y0;exact congrArg some y0
  have h:=Zmt B cb g vg Z SA EA HA ns sc ne ec names V shF y p C c d E H w L I t O (ZaQ l) (ZaQ x) a3 q n ⟨m1,m2,q1,q2,Y,n2⟩ l0 l1 a8 d0 d1;have e:exprE ⟨7,y,p,[(c:Int),(d:Int)],C⟩ (Zad s).toNat V names=matW (V c).el (V d).el a3 q n:=by
   show matW (V c).el (V d).el ((V c).el.length / ((V d).sh.headD 0).toNat) ((V d).sh.headD 0).toNat ((V d).el.length / ((V d).sh.headD 0).toNat)=_
   rw [y0,Int.toNat_natCast,d0,d1]
  rw [e];exact h
 ·have m:F.length=2:=by have:madeP 8=2:=rfl;omega
  obtain ⟨c,d,rfl,t,O⟩:=Ze2 m M;subst J;have l:TnOk (V c):=v _ (by simp)
  have x:TnOk (V d):=v _ (by simp)
  obtain ⟨j,P⟩:=Za0 D (show (8:Int)≠2 by decide)
  rw [←N] at j;have Q:wideP (V c).sh (V d).sh=(s,true):=j;have h:=Zmu B cb g vg Z SA EA HA ns sc ne ec names V shF y p C c d E H w L I t O (ZaQ l) (ZaQ x);rw [ZcN (k:=8) (num:=p) (fun a b=>by unfold oneF;rw [if_neg (by decide),if_neg (by decide),if_neg (by decide),if_neg (by decide),if_pos rfl];rfl) l x Q (by decide)] at h
  exact h
 ·have m:F.length=1:=by have:madeP 9=1:=rfl;omega
  obtain ⟨c,rfl,t⟩:=ZfD m M;subst J;have l:TnOk (V c):=v _ (by simp)
  obtain ⟨j,P⟩:=Za0 D (show (9:Int)≠2 by decide)
  rw [←N] at j;have a4:p≤63:=of_decide_eq_true (congrArg Prod.snd j);have R:(V c).sh=s:=congrArg Prod.fst j;subst R;have h:=Zmv B cb g vg Z SA EA HA ns sc ne ec names V shF y p C c E H w L I t (ZaQ l) a4;rw [ZeY (k:=9) (num:=p) (fun a b=>by unfold oneF;rw [if_neg (by decide),if_neg (by decide),if_neg (by decide),if_neg (by decide),if_neg (by decide),if_pos rfl,Nat.min_eq_left a4]) l (by decide)] at h
  exact h
 ·have m:F.length=1:=by have:madeP 10=1:=rfl;omega
  obtain ⟨c,rfl,t⟩:=ZfD m M;subst J;have l:TnOk (V c):=v _ (by simp)
  obtain ⟨j,P⟩:=Za0 D (show (10:Int)≠2 by decide)
  rw [←N] at j;have R:(V c).sh=s:=congrArg Prod.fst j;subst R;have h:=ZkE B cb g vg Z SA EA HA ns sc ne ec names V shF y p C c E H w L I t (ZaQ l);rw [ZeY (k:=10) (num:=p) (fun a b=>by unfold oneF;rw [if_neg (by decide),if_neg (by decide),if_neg (by decide),if_neg (by decide),if_neg (by decide),if_neg (by decide),if_pos rfl];unfold reluW;rfl) l (by decide)] at h
  exact h
 ·have m:F.length=1:=by have:madeP 11=1:=rfl;omega
  obtain ⟨c,rfl,t⟩:=ZfD m M;subst J;have l:TnOk (V c):=v _ (by simp)
  obtain ⟨j,P⟩:=Za0 D (show (11:Int)≠2 by decide)
  rw [←N] at j;have h:=ZkF B cb g vg Z SA EA HA ns sc ne ec names V shF y p C c E H w L I t (ZaQ l);have e:exprE ⟨11,y,p,[(c:Int)],C⟩ (Zad s).toNat V names=[sumW (V c).el]:=by unfold sumW;rfl
  rw [e];exact h
 ·have m:F.length=1:=by have:madeP 12=1:=rfl;omega
  obtain ⟨c,rfl,t⟩:=ZfD m M;subst J;have l:TnOk (V c):=v _ (by simp)
  obtain ⟨j,P⟩:=Za0 D (show (12:Int)≠2 by decide)
  rw [←N] at j;exact ZkG B cb g vg Z SA EA HA ns sc ne ec names V shF y p C c E H w L I t (ZaQ l)
 ·have m:F.length=2:=by have:madeP 13=2:=rfl;omega
  obtain ⟨c,d,rfl,t,O⟩:=Ze2 m M;subst J;have l:TnOk (V c):=v _ (by simp)
  have x:TnOk (V d):=v _ (by simp)
  obtain ⟨j,P⟩:=Za0 D (show (13:Int)≠2 by decide)
  rw [←N] at j;have Q:wideP (V c).sh (V d).sh=(s,true):=j;have h:=ZkH B cb g vg Z SA EA HA ns sc ne ec names V shF y p C c d E H w L I t O (ZaQ l) (ZaQ x);rw [ZcN (k:=13) (num:=p) (fun a b=>by unfold oneF;rw [if_neg (by decide),if_neg (by decide),if_neg (by decide),if_neg (by decide),if_neg (by decide),if_neg (by decide),if_neg (by decide)];unfold maxW;rfl) l x Q (by decide)] at h
  exact h
 ·have m:F.length=3:=by have:madeP 14=3:=rfl;omega
  obtain ⟨c,d,S,rfl,t,O,a9⟩:=Znz m M;subst J;have l:TnOk (V c):=v _ (by simp)
  have x:TnOk (V d):=v _ (by simp)
  have o2:TnOk (V S):=v _ (by simp)
  obtain ⟨j,P⟩:=Za0 D (show (14:Int)≠2 by decide)
  rw [←N] at j;have R:(V d).sh=s:=congrArg Prod.fst j;have a5:(((V d).sh==(V S).sh)&&(((V c).sh.length==0)||((V c).sh==(V d).sh)))=true:=congrArg Prod.snd j;rw [Bool.and_eq_true,Bool.or_eq_true,beq_iff_eq,beq_iff_eq,beq_iff_eq] at a5;obtain ⟨b0,b1⟩:=a5;have Y:((V d).el.length:Int)=Zad s:=by rw [←R];exact x.2
  have n2:((V S).el.length:Int)=Zad s:=by rw [←R,b0];exact o2.2
  have n0:(V c).el.length=1∨(V c).el.length=(V d).el.length:=by
   rcases b1 with h | h
   ·left;have W:=l.2;rw [List.eq_nil_of_length_eq_zero h,Zbd] at W;omega
   ·right;have W:=l.2;rw [h,R] at W;omega
  have h:=ZkI B cb g vg Z SA EA HA ns sc ne ec names V shF y p C c d S E H w L I t O a9 (ZaQ l) (ZaQ x) (ZaQ o2);rw [ZiS (n:=(V d).el.length) (ZaQ x).1 n0 rfl (by omega)] at h
  have e:exprE ⟨14,y,p,[(c:Int),(d:Int),(S:Int)],C⟩ (Zad s).toNat V names=(List.range (V d).el.length).map fun i=>if andW (atL (V c).el i) 1=1 then atL (V d).el i else atL (V S).el i:=by
   rw [←Y,Int.toNat_natCast];rfl
  rw [e];exact h
 ·exfalso;have:madeP a2 = -1:=by
   unfold madeP;rw [if_neg (by omega),if_neg (by omega),if_neg (by omega),if_neg a7]
  omega
def cellV (w:World) (a:Addr):Value:=(w.cell? a).getD undef
theorem Zd8 {w:World} {a:Addr} {v:Value} (h:w.cell? a=some v):w.cell? a=some (cellV w a):=by
 unfold cellV;rw [h];rfl
attribute [irreducible] cellV
def LetP (wr:World) (B cb g vg:Nat) (Z:List Nat) (SA EA HA:Option Addr) (ns sc ne ec:Nat) (names:Zah) (V:Nat→TN) (shF:List (List Int)) (i:Nat) (w':World):Prop:=
 KeepB (fun k=>k=vg) wr w'∧Below B wr w'∧∃ V',EvSt w' B cb g vg Z SA EA HA ns sc ne ec names V' shF∧∀ j,j≠i→V' j=V j
section
variable {wr w w':World} {B cb g vg ns sc ne ec i:Nat} {Z:List Nat} {SA EA HA:Option Addr} {names:Zah} {V:Nat→TN} {shF:List (List Int)}
theorem LetP.next (h:LetP wr B cb g vg Z SA EA HA ns sc ne ec names V shF i w) (a:Below w.heap.size w w'):LetP wr B cb g vg Z SA EA HA ns sc ne ec names V shF i w':=by
 obtain ⟨c,d,e,b,f⟩:=h;have j:B≤w.heap.size:=by have:=b.b1;have:=b.lt _ (.inl rfl);omega
 exact ⟨c.trans (KeepB.of a),d.trans (a.mono j),e,b.next a,f⟩
theorem LetP.set (h:LetP wr B cb g vg Z SA EA HA ns sc ne ec names V shF i w) (k:i<ne) {sv ev:Value} {t:TN} (l:TnV (evX cb g vg Z) w sv ev t) {W:World} (m:W=(w.setCell ⟨vg,i*2,none⟩ sv).setCell ⟨vg,i*2+1,none⟩ ev):
  LetP wr B cb g vg Z SA EA HA ns sc ne ec names V shF i W∧∀ a:Nat→TN,(∀ j,a j=if j=i then t else V j)→EvSt W B cb g vg Z SA EA HA ns sc ne ec names a shF:=by
 obtain ⟨n,p,b,q,c⟩:=h;obtain ⟨d,r,s⟩:=q.set k l m (fun j=>if j=i then t else b j) (fun j=>rfl)
 refine ⟨⟨n.trans r,p.trans s,_,d,fun j f=>(if_neg f).trans (c j f)⟩,fun a v => ?_⟩
 have:a=fun j=>if j=i then t else b j:=by
  funext j
  rw [v j]
  by_cases e:j=i
  ·rw [if_pos e,if_pos e]
  ·rw [if_neg e,if_neg e,c j e]
 rw [this];exact d
theorem EvSt.shape2 (h:EvSt w B cb g vg Z SA EA HA ns sc ne ec names V shF) {a:Nat} (k:a<ne):∃ b o A c,HA=some ⟨b,o,none⟩∧b<w.heap.size∧¬ evX cb g vg Z b∧w.cell? ⟨b,o+a,none⟩=some (.slice A (shF.getD a []).length c)∧ShV (evX cb g vg Z) w (.slice A (shF.getD a []).length c) (shF.getD a []):=by
 obtain ⟨b,o,A,c,f,l,m⟩:=h.shape k;obtain ⟨s,d,j,_⟩:=h.hs;rcases d with d | ⟨t,v,e,n,p,_⟩
 ·rw [d] at j;simp at j;omega
 ·rw [f] at e;injection e with e
  injection e with q r _
  subst q r;exact ⟨b,o,A,c,f,n,p,l,m⟩
end
theorem ZiU {es:List EI} {m:Nat→Bool} {sh:List (List Int)} {names:Zah} {V:Nat→TN} {i:Nat} {e:EI} (b:m i=true) (c:es[i]?=some e) (j:Nat):
  letF es m sh names V (i+1) j=if j=i then ⟨sh.getD i [],exprE e (Zad (sh.getD i [])).toNat (letF es m sh names V i) names⟩ else letF es m sh names V i j:=by
 rw [ZcM,c]
 by_cases a:j=i
 ·rw [if_pos ⟨a,b⟩,if_pos a]
 ·rw [if_neg (fun h=>a h.1),if_neg a]
theorem ZiV {es:List EI} {m:Nat→Bool} {sh:List (List Int)} {names:Zah} {V:Nat→TN} {i:Nat} (a:m i=false):letF es m sh names V (i+1)=letF es m sh names V i:=by
 funext j
 rw [ZcM,if_neg (fun h=>by rw [a] at h;exact absurd h.2 (by decide))]
theorem ZhH {e:EI} {size:Nat} {V b:Nat→TN} {names:Zah} (h:∀ a∈e.args,b a.toNat=V a.toNat):exprE e size b names=exprE e size V names:=by
 unfold exprE;rw [List.map_congr_left h]
theorem Zn0 {a b c d e f g h i j k l m n:Prop} (x:a∧b∧c∧d∧e∧f∧g∧h∧i∧j∧k∧l∧m∧n):n:=x.2.2.2.2.2.2.2.2.2.2.2.2.2
def Zn1 (w:World) (B cb g vg:Nat) (Z:List Nat) (SA EA HA:Option Addr) (ns sc ne ec:Nat) (names:Zah) (V:Nat→TN) (shF:List (List Int)) (e:Ending) (w':World):Prop:=
 e=.returned (.tuple #[])∧KeepB (fun k=>k=vg) w w'∧Below B w w'∧EvSt w' B cb g vg Z SA EA HA ns sc ne ec names V shF
theorem ZkJ (B cb g vg:Nat) (Z:List Nat) (SA EA HA:Option Addr) (ns sc ne ec:Nat) (es:List EI) (names:Zah) (V:Nat→TN) (shF:List (List Int)) (root:Nat) (w:World)
  (g2:ne=es.length) (e5:root<ne) (m1:ne≤100000) (g3:RdEI w B EA es) (g4:exsOk 0 es=true) (L:LetOk es (shN names) shF root) (g5:∀ e∈es,e.num≤18446744073709551615)
  (l:EvSt w B cb g vg Z SA EA HA ns sc ne ec names V shF):
  Calls Tryz.prog 54 #[.pointer (some ⟨cb,0,none⟩),.int .i64 root] w (Zn1 w B cb g vg Z SA EA HA ns sc ne ec names (letF es (Zac es root) shF names V (root+1)) shF):=by
 have c8:=Kz g2;have e6:=Kz g3;have c9:=Kz g4;have j6:=Kz L;have j7:=Kz g5;have N:=l.lt;have g6:B≤w.heap.size:=by have:=l.b1;have:=N _ (.inl rfl);omega
 have a6:=Kz g6;have j8:=Kz N;have a7:=Kz l;have g7:=Kz (fun W (d1:Below w.heap.size w W)=>Kaa 1 ((d1.block _ (N _ (.inl rfl))).trans l.hc))
 obtain ⟨W0,d2⟩:=Ky (w.alloc (.cells ((List.range (root+1)).map fun _=>bI false).toArray 3))
 have d3:MkB W0 3 w.heap.size (root+1) (fun _=>bI false):=by rw [d2];exact Kac w _
 have g8:=Kv d2;have g9:=Kz d3;have h0:=Kz g8;have j9:W0.frozen? ⟨w.heap.size,root,none⟩=false:=d3.free root;have k2:(0:Int)≤(root:Int):=by omega
 have k3:(root:Int)<((root+1:Nat):Int):=by omega
 have k4:=d3.cell (i:=root) (by omega)
 have k5:(Instr.makeSlice 41 (.int .i64 ((root:Int)+1)) (.int .i64 ((root:Int)+1))).run Tryz.prog w=.ok (.slice (some ⟨w.heap.size,0,none⟩) (root+1) (root+1)) W0:=by
  rw [d2];exact Zfw (root+1) (by omega) w ((root:Int)+1) (by simp)
 clear d2 d3 g8 g2 g3 g4 L g5 l N g6
 go_enter Tryz.func54,Tryz.ntmps54
 go_wp2
 have h1:=Kz (g9.o.set (i:=root) (by omega) (.int .i64 1) (fun a=>bI (a==root)) (fun a=>by
  by_cases h2:a=root
  ·subst h2;simp [bI]
  ·simp [bI,h2]))
 have a8:=Kz (Zaf (k:=root) h0.o (Kag _) (.int .i64 1));clear j9 k4 k5 g9 h0 k2 k3
 go_loopw [5] (fun O wr=>(∃ (j:Nat) (m:Nat→Bool),j≤root+1∧O=.int .i64 ((j:Int)-1)∧Zac es root=markP es root j m∧MkB wr 3 w.heap.size (root+1) (fun a=>bI (m a)))∧Below w.heap.size w wr) (fun O _=>(intOf O+1).toNat)
 case atStart=>exact ⟨⟨root+1,fun a=>a==root,Kag _,(by rw [show ((root+1:Nat):Int)-1=(root:Int) by omega]),rfl,h1.o⟩,a8.o⟩
 case round=>
  clear h1 a8;obtain ⟨⟨j,m,P,rfl,h3,D⟩,M⟩:=hrel;have T:=Kz h3;have s:=Kz D;have h:=Kz M;clear h3 D M
  match j,P,T with
  | 0,P,T=>
   rw [show (((0:Nat):Int)-1) = -1 by omega]
   have e7:MkB wr 3 w.heap.size (root+1) (fun a=>bI (Zac es root a)):=by rw [T.o];exact s.o
   have h4:RdX (evX cb g vg Z) wr (some ⟨w.heap.size,0,none⟩) ((List.range (root+1)).map (fun i=>bI (Zac es root i))):=
    .inr ⟨w.heap.size,0,rfl,e7.lt,(fun Y=>absurd (j8.o _ Y) (by omega)),fun j a2 E=>by
     rw [Kal,Option.map_eq_some_iff] at E;obtain ⟨a,v,rfl⟩:=E;have P:j<root+1:=by
      have:=(Kaf.1 v).1;simpa using this
     have:a=j:=by
      rw [List.getElem?_range P] at v;injection v with v
      exact v.symm
     subst this;rw [Nat.zero_add];exact e7.cell P⟩
   have e8:=Kz h4;have h5:=Kz (a7.o.next h.o);have h6:=Kz (KeepB.of (X:=fun k=>k=vg) h.o)
   have a8:=Kz (h.o.mono a6.o);obtain ⟨h7,h8⟩:=Ky w.heap.size;rw [←h8] at e8 ⊢;clear h4 e7 s h T P g7 h8
   go_wp2_with fail
   go_loopw [47] (fun O wr=>∃ i:Nat,i≤root+1∧O=.int .i64 i∧EvSt wr B cb g vg Z SA EA HA ns sc ne ec names (letF es (Zac es root) shF names V i) shF∧KeepB (fun k=>k=vg) w wr∧Below B w wr∧RdX (evX cb g vg Z) wr (some ⟨h7,0,none⟩) ((List.range (root+1)).map (fun i=>bI (Zac es root i)))) (fun O _=>root+1-(intOf O).toNat)
   case atStart=>exact ⟨0,by omega,rfl,h5.o,h6.o,a8.o,e8.o⟩
   case round=>
    clear h5 a8 h6 e8;obtain ⟨i,m2,rfl,l,hK,d4,D⟩:=hrel;have e9:=Kz hK;have h:=Kz d4;have s:=Kz D
    by_cases N:i<root+1
    ·have i0:(0:Int)≤(i:Int):=by omega
     have i1:(i:Int)<((root+1:Nat):Int):=by omega
     have i2:(i:Int)<(ne:Int):=by omega
     obtain ⟨m3,m4,a9,k6,_,h9⟩:=(s.o.resolve_left (by simp))
     injection a9 with a9
     injection a9 with a9 k7 _
     subst a9 k7;have d5:wr.cell? ⟨h7,i,none⟩=some (bI (Zac es root i)):=by
      have:=h9 i _ (by rw [Kal,List.getElem?_range N];rfl)
      rwa [Nat.zero_add] at this
     clear h9 k6
     cases hmi:Zac es root i with
     | false=>
      have f0:=Kz (ZiV (sh:=shF) (names:=names) (V:=V) (es:=es) hmi);have a7:=Kz l;rw [hmi] at d5;simp only [bI,Bool.false_eq_true,if_false] at d5;clear hmi l hK d4 D
      go_wp2
      exact ⟨⟨i+1,by omega,rfl,by rw [f0.o];exact a7.o,e9.o,h.o,s.o⟩,by simp [intOf];omega⟩
     | true=>
      have c:es[i]?=some (es[i]'(by rw [←c8.o];omega)):=Kad _
      obtain ⟨d,Q⟩:=Ky (es[i]'(by rw [←c8.o];omega))
      rw [←Q] at c;have i3:∀ p∈names,TnOk p.2:=by
       obtain ⟨m5,_,k8⟩:=l.hn;exact k8.ok
      have d6:=(ZiN (V:=V) c9.o (ZaU c9.o) j6.o i3 i hmi).2 d c;have b0:=ZiU (sh:=shF) (names:=names) (V:=V) (es:=es) hmi c;obtain ⟨x,i4⟩:=Ky (letF es (Zac es root) shF names V i);rw [←i4] at l d6 b0;have f1:=j7.o d (Kam c);have d7:∀ a∈d.args,0≤a∧a<(i:Int):=fun a v=>ZaU c9.o i d c a v
      obtain ⟨b,o,rfl,F,c0,c1,c2,⟨a3,b3,c3,a4,a5,-⟩,c4⟩:=(e6.o.below h.o).at_ c;obtain ⟨q,r,b4,b5,rfl,i5,i6,d8,d9⟩:=l.shape2 (a:=i) (by omega)
      obtain ⟨f2,e0⟩:=Ky (exprE d (Zad (shF.getD i [])).toNat x names);rw [←e0] at b0;obtain ⟨f4,i7⟩:=Ky (shF.getD i []);rw [←i7] at e0 d6 d8 d9 b0;obtain ⟨b7,b8,b9,n,c6⟩:=d;dsimp only at c0 c1 c2 c3 a4 a5 c4 f1 d7;obtain ⟨y,R⟩:=Ky n.length;rw [←R] at c3 a5;obtain ⟨L,i8⟩:=Ky f4.length;rw [←i8] at d8 d9;rw [hmi] at d5;simp only [bI,if_true] at d5;have k9:=Kz (show LetP wr B cb g vg Z SA (some ⟨b,o,none⟩) (some ⟨q,r,none⟩) ns sc ne ec names x shF i wr.drew from ⟨⟨Kag _,fun _ _ _=>rfl⟩,(Kai _ _).drew,x,l.next (Kai _ _).drew,fun _ _=>rfl⟩)
      have f5:=Kz (show ∀ W,LetP wr B cb g vg Z SA (some ⟨b,o,none⟩) (some ⟨q,r,none⟩) ns sc ne ec names x shF i W→W.cell? ⟨cb,1,none⟩=some (.slice (some ⟨b,o,none⟩) ne ec)∧W.cell? ⟨cb,3,none⟩=some (.slice (some ⟨vg,0,none⟩) ne ne)∧W.cell? ⟨cb,4,none⟩=some (.slice (some ⟨q,r,none⟩) ne ne)∧W.cell? ⟨q,r+i,none⟩=some (.slice b4 L b5)∧W.cell? ⟨b,o+i*5,none⟩=some (.int .i64 b7)∧W.cell? ⟨b,o+i*5+1,none⟩=some (.string b8)∧W.cell? ⟨b,o+i*5+2,none⟩=some (.int .u64 (b9:Int))∧W.cell? ⟨b,o+i*5+3,none⟩=some (.slice a3 y b3)∧W.cell? ⟨b,o+i*5+4,none⟩=some (.int .i64 c6)∧W.cell? ⟨vg,i*2,none⟩=some (cellV W ⟨vg,i*2,none⟩)∧W.cell? ⟨vg,i*2+1,none⟩=some (cellV W ⟨vg,i*2+1,none⟩)∧W.frozen? ⟨vg,i*2,none⟩=false∧W.frozen? ⟨vg,i*2+1,none⟩=false∧LetP wr B cb g vg Z SA (some ⟨b,o,none⟩) (some ⟨q,r,none⟩) ns sc ne ec names x shF i W from fun W S=>by
       obtain ⟨p1,H,e1,I,p4⟩:=S;obtain ⟨_,_,_,_,u0,u1,_⟩:=I.val (a:=i) (by omega)
       exact ⟨Kaa 1 I.hc,Kaa 3 I.hc,Kaa 4 I.hc,(p1.xv.2 ⟨q,r+i,none⟩ i5 i6).trans d8,(H.cell (p:=⟨b,_,none⟩) F).trans c0,(H.cell (p:=⟨b,_,none⟩) F).trans c1,(H.cell (p:=⟨b,_,none⟩) F).trans c2,(H.cell (p:=⟨b,_,none⟩) F).trans c3,(H.cell (p:=⟨b,_,none⟩) F).trans c4,Zd8 u0,Zd8 u1,I.free _,I.free _,p1,H,e1,I,p4⟩)
      have l0:=Kz (show ∀ W,LetP wr B cb g vg Z SA (some ⟨b,o,none⟩) (some ⟨q,r,none⟩) ns sc ne ec names x shF i W→Calls Tryz.prog 98 #[.pointer (some ⟨cb,0,none⟩),.agg #[.int .i64 b7,.string b8,.int .u64 (b9:Int),.slice a3 y b3,.int .i64 c6]] W (fun e w'=>(∃ z C J,e=.returned (.slice z J C)∧WoV (evX cb g vg Z) w' (.slice z J C) f2)∧LetP wr B cb g vg Z SA (some ⟨b,o,none⟩) (some ⟨q,r,none⟩) ns sc ne ec names x shF i w'∧Below W.heap.size W w') from fun W S=>by
       have l1:=S;obtain ⟨p1,H,e1,I,p4⟩:=S;have i9:∀ a∈n,e1 a.toNat=x a.toNat:=fun a v=>p4 _ (by have:=d7 a v;omega)
       refine (ZiT B cb g vg Z SA (some ⟨b,o,none⟩) (some ⟨q,r,none⟩) ns sc ne ec names e1 shF ⟨b7,b8,b9,n,c6⟩ f4 a3 y b3 W I (by rw [List.map_congr_left i9];exact d6) (fun a v=>by have:=d7 a v;omega) f1 ((a4.below H).more (Kah (by have:=l.b1;have:=l.lt _ (.inl rfl);omega) H.size)) R).mono ?_
       rintro e w' ⟨M,a2,rfl,E⟩
       rw [ZhH i9,←e0] at E;have l2:=E;obtain ⟨z,C,rfl,_⟩:=l2;exact ⟨⟨z,C,_,rfl,E⟩,l1.next M,M⟩)
      have j0:=Kz (show ∀ (w6:World) (z:Option Addr) (J C:Nat),LetP wr B cb g vg Z SA (some ⟨b,o,none⟩) (some ⟨q,r,none⟩) ns sc ne ec names x shF i w6→WoV (evX cb g vg Z) w6 (.slice z J C) f2→LetP wr B cb g vg Z SA (some ⟨b,o,none⟩) (some ⟨q,r,none⟩) ns sc ne ec names x shF i ((w6.setCell ⟨vg,i*2,none⟩ (.slice b4 L b5)).setCell ⟨vg,i*2+1,none⟩ (.slice z J C))∧EvSt ((w6.setCell ⟨vg,i*2,none⟩ (.slice b4 L b5)).setCell ⟨vg,i*2+1,none⟩ (.slice z J C)) B cb g vg Z SA (some ⟨b,o,none⟩) (some ⟨q,r,none⟩) ns sc ne ec names (letF es (Zac es root) shF names V (i+1)) shF from fun w6 z J C S E=>by
       have e5:=S.set (i:=i) (by omega) (sv:=.slice b4 L b5) (ev:=.slice z J C) (t:=⟨f4,f2⟩) ⟨d9.keep S.1.xv,E⟩ rfl
       exact ⟨e5.1,e5.2 _ b0⟩)
      have m6:=Kz (show i<ne by omega)
      clear hmi c Q i3 d6 b0 i4 f1 d7 F c0 c1 c2 c3 a4 a5 c4 i5 i6 d8 d9 e0 i7 R i8 l hK d4 D
      go_wp2_with fail
      have S0:=Kz (f5.o _ k9.o)
      go_region_held3 (fun w'=>w'.cell? ⟨cb,1,none⟩=some (.slice (some ⟨b,o,none⟩) ne ec)∧w'.cell? ⟨cb,3,none⟩=some (.slice (some ⟨vg,0,none⟩) ne ne)∧w'.cell? ⟨cb,4,none⟩=some (.slice (some ⟨q,r,none⟩) ne ne)∧w'.cell? ⟨q,r+i,none⟩=some (.slice b4 L b5)∧w'.cell? ⟨b,o+i*5,none⟩=some (.int .i64 b7)∧w'.cell? ⟨b,o+i*5+1,none⟩=some (.string b8)∧w'.cell? ⟨b,o+i*5+2,none⟩=some (.int .u64 (b9:Int))∧w'.cell? ⟨b,o+i*5+3,none⟩=some (.slice a3 y b3)∧w'.cell? ⟨b,o+i*5+4,none⟩=some (.int .i64 c6)∧w'.cell? ⟨vg,i*2,none⟩=some (cellV w' ⟨vg,i*2,none⟩)∧w'.cell? ⟨vg,i*2+1,none⟩=some (cellV w' ⟨vg,i*2+1,none⟩)∧w'.frozen? ⟨vg,i*2,none⟩=false∧w'.frozen? ⟨vg,i*2+1,none⟩=false∧LetP wr B cb g vg Z SA (some ⟨b,o,none⟩) (some ⟨q,r,none⟩) ns sc ne ec names x shF i w') (first | with_reducible exact S0.o | assumption | exact f5.o _ (by assumption) | exact f5.o _ (j0.o _ _ _ _ P6.o V6.o).1)
       (first | (go_at_call 98;refine (l0.o _ ?_).mono ?_;(apply Zn0;assumption);rintro e w6 ⟨⟨z,C,J,rfl,v6⟩,p6,b6⟩;have P6:=Kz p6;have V6:=Kz v6))
      all_goals
       have e4:=Kz (j0.o _ _ _ _ P6.o V6.o)
       go_wp2
       exact ⟨⟨i+1,by omega,rfl,e4.o.2,e9.o.trans e4.o.1.1,h.o.trans e4.o.1.2.1,s.o.keep e4.o.1.1.xv⟩,by simp [intOf];omega⟩
    ·obtain rfl:i=root+1:=by omega
     have a7:=Kz l;clear l hK d4 D N
     go_wp2
     refine bodyPost_end (results_none rfl _ _ _) rfl ?_;exact ⟨rfl,e9.o,h.o,a7.o⟩
  | i+1,P,T=>
   rw [show (((i+1:Nat):Int)-1)=(i:Int) by omega]
   have c:es[i]?=some (es[i]'(by rw [←c8.o];omega)):=Kad _
   obtain ⟨d,Q⟩:=Ky (es[i]'(by rw [←c8.o];omega))
   rw [←Q] at c;have j1:=Kz c;obtain ⟨b,o,rfl,F,c0,c1,c2,⟨a3,b3,c3,a4,a5,-⟩,c4⟩:=(e6.o.below (h.o.mono a6.o)).at_ c;have l3:=g7.o _ h.o;have i0:(0:Int)≤(i:Int):=by omega
   have i1:(i:Int)<(ne:Int):=by omega
   obtain ⟨b7,b8,b9,n,c6⟩:=d;dsimp only at c3 a4 a5;obtain ⟨y,R⟩:=Ky n.length;rw [←R] at c3 a5;have f6:=Kz R;have l4:=Kz (show ∀ W,Below w.heap.size w W→Rd W B a3 (n.map VI) from fun W d1=>by
    obtain ⟨b2,o2,e2,_,_,_,_,⟨A2,c2,f3,l5,_⟩,_⟩:=(e6.o.below (d1.mono a6.o)).at_ c;injection e2 with e2
    injection e2 with e2 e3 _
    subst e2 e3;have:(W.cell? ⟨b,o+i*5+3,none⟩)=wr.cell? ⟨b,o+i*5+3,none⟩:=((d1.mono a6.o).cell (p:=⟨b,_,none⟩) F).trans ((h.o.mono a6.o).cell (p:=⟨b,_,none⟩) F).symm;rw [f3,c3] at this;injection this with this
    injection this with this _ _
    rw [←this];exact l5)
   clear c Q a4 c0 c1 c2 c4 R
   go_wp2
   have j2:=Kz (fun (k:Nat) (c7:Int) (Y:n[k]?=some c7)=>Zc0 c9.o j1.o Y)
   clear l3 c3 i0 i1
   go_loopw [30] (fun f7 wr=>(∃ k:Nat,k≤y∧f7=.int .i64 k∧MkB wr 3 w.heap.size (root+1) (fun a=>bI (mrkK m i n k a)))∧Below w.heap.size w wr) (fun f7 _=>y-(intOf f7).toNat)
   case atStart=>exact ⟨⟨0,by omega,rfl,by rw [ZcF];exact s.o⟩,h.o⟩
   case round=>
    clear s h;obtain ⟨⟨k,l6,rfl,D⟩,M⟩:=hrel;have s:=Kz D;have h:=Kz M;clear D M
    by_cases f8:k<y
    ·have c:n[k]?=some (n[k]'(by rw [←f6.o];exact f8)):=Kad _
     obtain ⟨c7,Y⟩:=Ky (n[k]'(by rw [←f6.o];exact f8))
     rw [←Y] at c;obtain ⟨x0,x1⟩:=j2.o k c7 c;obtain ⟨a,rfl⟩:∃ a:Nat,c7=(a:Int):=⟨c7.toNat,by omega⟩
     have v:a<i:=by omega
     obtain ⟨b2,o2,rfl,l7,d0⟩:=(l4.o _ h.o).at_ (show (n.map VI)[k]?=some (VI (a:Int)) by rw [Kal,c];rfl)
     unfold VI at d0;have k0:(0:Int)≤(k:Int):=by omega
     have k1:(k:Int)<(y:Int):=by omega
     have a0:(0:Int)≤(a:Int):=by omega
     have a1:(a:Int)<((root+1:Nat):Int):=by omega
     have i0:(0:Int)≤(i:Int):=by omega
     have i1:(i:Int)<((root+1:Nat):Int):=by omega
     have j3:=s.o.cell (i:=a) (by omega)
     have f9:=s.o.cell (i:=i) (by omega)
     rw [ZcG (fun j d Q=>(j2.o j d Q).2)] at f9
     have m7:=s.o.free a;have g0:=Kz (fun a2 (E:a2=bI (mrkK m i n k a||m i))=>s.o.drew.set (i:=a) (by omega) a2 (fun g1=>bI (mrkK m i n (k+1) g1)) (fun g1=>by
      rw [ZcH m i n c g1,E];split <;> rfl))
     have l8:=Kz (fun a2=>Zaf (k:=a) h.o.drew (Kag _) a2)
     obtain ⟨l9,j4⟩:=Ky (mrkK m i n k a);rw [←j4] at j3 g0;obtain ⟨m0,j5⟩:=Ky (m i);rw [←j5] at f9 g0;clear c Y j4 j5 l7 x0 x1
     cases l9 <;> cases m0
     all_goals
      simp only [bI,if_true,Bool.false_eq_true,if_false] at j3 f9
      go_wp2_with fail
      go_region
      all_goals
       go_wp2
       exact ⟨⟨⟨k+1,by omega,rfl,g0.o _ rfl⟩,l8.o _⟩,by simp [intOf];omega⟩
    ·obtain rfl:y=k:=by omega
     have f0:=Kz (show Zac es root=markP es root i (mrkK m i n y) from by rw [T.o,Zbv j1.o,f6.o])
     clear l6 f8
     go_wp2
     exact ⟨⟨⟨i,_,by omega,rfl,f0.o,s.o⟩,h.o⟩,by simp [intOf]⟩
end Go.Proofs.YtghlnncfigkkaaaGreatDoor
