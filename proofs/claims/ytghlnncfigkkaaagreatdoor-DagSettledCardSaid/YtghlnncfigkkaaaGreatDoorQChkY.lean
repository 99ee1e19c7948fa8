/-
 Walk of the checker's expr.
-/
import Derived.Test.YtghlnncfigkkaaaGreatDoorQChkP
import Derived.BigQuiet
import Derived.Deep.DeepCutAuto
import Derived.RegionTactic
set_option maxRecDepth 100000
set_option maxHeartbeats 8000000
set_option linter.unusedVariables false
set_option linter.unusedSimpArgs false
namespace Go.Proofs.YtghlnncfigkkaaaGreatDoor
open Go.RowKit
theorem ZdG:(Tryz.prog.info? 41).map (fun i=>(i.zero,i.size,i.bytes))=some (some (.slice none 0 0),1,24):=by kernel_rfl
theorem appS {w:World} {j:Array Oper} {rest:List Oper} {o:Oper} {a:Act} {Q:Exit→Act→World→Prop} (p:o.guard=none) (s x:Operand)
  (q:o.op=.call { callee:=.builtin .append,args:=#[s,x],argTypes:=#[51,51] }) (base:Nat)
  (A:Option Addr) (i:Nat) (d:List Value) (n:Nat) (r:d.length=n) (y:a.eval s=.slice A n i) (l:Own w base 41 A i d)
  (e:Option Addr) (c B:Nat) (v:Value) (z:a.eval x=.slice e 1 c) (C:Rd w B e [v]) (D:e=none→1=0) (E:v.oneCell'=true)
  (R:n≤1000000) (m:base≤w.heap.size)
  (h:∀ f g b,Own b base 41 f g (d++[v])→Below base w b→wpList Tryz.prog j Q rest (a.put o.dst (.slice f (n+1) g)) b):
  wpList Tryz.prog j Q (o::rest) a w:=by
 obtain ⟨F,H,I,J,L⟩:=info_parts ZdG;refine Zbu p s x 51 q base 41 F _ 24 Tryz.underlying51 H I J L rfl A i d n r y l e 1 c B [v] rfl z C D (fun S M=>by rw [List.mem_singleton.1 M];exact E) (by simp only [maxLen];omega) (by omega) m ?_
 intro f g b N O T
 exact h f g b N (Zal (Kai _ _) O m (fun k P=>(l.lt k P).1))
def ZeQ (w:World) (B cb g sg:Nat) (SA EA:Option Addr) (ns sc ne ec:Nat) (names:Names) (r:Sum (List (List Int)) (Nat × Int)) (e:Ending) (w':World):Prop:=
 KeepX (ckX cb g sg) w w'∧Below B w w' ∧
 match r with
 | .inl shapes'=>e=.returned .nilIface∧CkSt w' B cb g sg SA EA ns sc ne ec names shapes'
 | .inr (c,p)=>∃ v,e=.returned v∧IsErr w' v [(chkN,p)] c
theorem ETyped.far {w w':World} {B:Nat} (h:ETyped w) (a:0<B) (b:Below B w w'):ETyped w':=(b.cell (p:=⟨0,0,none⟩) a).trans h
theorem Zf1 {i:Nat} {e:EI} (h:exOk i e=true):madeP e.kind=(e.args.length:Int):=by
 unfold exOk at h;rw [Bool.and_eq_true,beq_iff_eq] at h;exact h.1
theorem Zgg (k:Int):madeP k≤3:=by
 unfold madeP
 repeat' split
 all_goals omega
theorem Zky (B cb g b:Nat) (a9 b0:Option Addr) (b6 b7 n ec:Nat) (es:List EI) (names:Names) (D:List (List Int)) (root:Nat) (w:World)
  (f5:n=es.length) (n1:root<n) (n2:n≤100000) (f6:RdEI w B b0 es) (f7:exsOk 0 es=true) (j1:ETyped w) (n3:0<B)
  (E:CkSt w B cb g b a9 b0 b6 b7 n ec names D):
  Calls Tryz.prog 96 #[.pointer (some ⟨cb,0,none⟩),.int .i64 root] w (ZeQ w B cb g b a9 b0 b6 b7 n ec names (Zay es (Zac es root) names (root+1) 0 D)):=by
 have j2:=Kz f5;have j3:=Kz f7;have n4:=Kz f6;have M:=E.lt;have j4:=E.ge;have f8:B≤w.heap.size:=by have:=E.b1;have:=M _ (.inl rfl);omega
 have j5:=Kz (Zis cb b0 n ec es root w f5 n1 n2 (f6.more f8) (M _ (.inl rfl)) (Kaa 1 E.hc) f7);have N:=Kz E;have n5:=Kz j1;have b8:=Kz f8;have n6:=Kz M;have q6:=Kz j4;clear f5 f6 f7 M j4 E j1 f8
 go_enter Tryz.func96,Tryz.ntmps96
 go_wp2_with (go_at_call 151;refine j5.o.mono ?_;rintro e w1 ⟨rfl,a2,d5⟩)
 have j6:=Kz (N.o.next d5);have j7:=Kz (d5.mono b8.o);have j8:=Kz (KeepX.of (X:=ckX cb g b) d5);have j9:RdX (ckX cb g b) w1 (some ⟨w.heap.size,0,none⟩) ((List.range (root+1)).map (fun i=>bI (Zac es root i))):=
  .inr ⟨w.heap.size,0,rfl,a2.lt,(fun a3=>absurd (n6.o _ a3) (by omega)),fun j v m=>by
   rw [Kal,Option.map_eq_some_iff] at m;obtain ⟨a,O,rfl⟩:=m;have d6:j<root+1:=by
    have:=(Kaf.1 O).1;simpa using this
   have:a=j:=by
    rw [List.getElem?_range d6] at O;injection O with O
    exact O.symm
   subst this;rw [Nat.zero_add];exact a2.cell d6⟩
 have f9:=Kz j9;obtain ⟨g0,k2⟩:=Ky w.heap.size;rw [←k2] at f9 ⊢;clear j9 a2 d5 j5 k2
 go_loopw [17] (fun g1 wr=>∃ (i:Nat) (d:List (List Int)),i≤root+1∧g1=.int .i64 i∧Zay es (Zac es root) names (root+1) 0 D=Zay es (Zac es root) names (root+1-i) i d∧CkSt wr B cb g b a9 b0 b6 b7 n ec names d∧KeepX (ckX cb g b) w wr∧Below B w wr∧RdX (ckX cb g b) wr (some ⟨g0,0,none⟩) ((List.range (root+1)).map (fun i=>bI (Zac es root i)))) (fun g1 _=>root+1-(intOf g1).toNat)
 case atStart=>exact ⟨0,D,by omega,rfl,rfl,j6.o,j8.o,j7.o,f9.o⟩
 case round=>
  clear j6 j7 j8 f9;obtain ⟨i,d,n7,rfl,k4,E,hK,k5,a2⟩:=hrel;have g4:=Kz k4;have N:=Kz E;have d7:=Kz hK;have P:=Kz k5;have d8:=Kz a2;clear k4 E hK k5 a2
  by_cases M:i<root+1
  ·obtain ⟨k,a4⟩:∃ k,root+1-i=k+1:=⟨root-i,by omega⟩
   have F:root+1-(i+1)=k:=by omega
   have i0:(0:Int)≤(i:Int):=by omega
   have i1:(i:Int)<((root+1:Nat):Int):=by omega
   have i2:(i:Int)<(n:Int):=by omega
   obtain ⟨q7,q8,b9,n8,_,k6⟩:=(d8.o.resolve_left (by simp))
   injection b9 with b9
   injection b9 with b9 n9 _
   subst b9 n9;have c6:wr.cell? ⟨g0,i,none⟩=some (bI (Zac es root i)):=by
    have:=k6 i _ (by rw [Kal,List.getElem?_range M];rfl)
    rwa [Nat.zero_add] at this
   clear k6 n8
   cases hmi:Zac es root i with
   | false=>
    have a5:=Kz (show Zay es (Zac es root) names (root+1) 0 D=Zay es (Zac es root) names (root+1-(i+1)) (i+1) d from by
     rw [g4.o,a4,F]
     show (if Zac es root i then _ else _)=_
     rw [hmi];rfl)
    rw [hmi] at c6;simp only [bI,Bool.false_eq_true,if_false] at c6;clear hmi a4 F
    go_wp2
    exact ⟨⟨i+1,d,by omega,rfl,a5.o,N.o,d7.o,P.o,d8.o⟩,by simp [intOf];omega⟩
   | true=>
    have x:es[i]?=some (es[i]'(by rw [←j2.o];omega)):=Kad _
    obtain ⟨d9,k7⟩:=Ky (es[i]'(by rw [←j2.o];omega))
    rw [←k7] at x;have k8:=Kz x;have a5:=Kz (show Zay es (Zac es root) names (root+1) 0 D=(match exprC d9 d names with | .inr c=>.inr (c,d9.pos) | .inl s=>Zay es (Zac es root) names (root+1-(i+1)) (i+1) (d.set i s)) from by
     rw [g4.o,a4,F]
     show (if Zac es root i then _ else _)=_
     rw [hmi,if_pos rfl,x];dsimp only
     cases exprC d9 d names <;> rfl)
    rw [hmi] at c6;simp only [bI,if_true] at c6;obtain ⟨k9,o,rfl,o0,c0,c1,c2,⟨l0,l1,c3,g5,l2,-⟩,c4⟩:=(n4.o.below P.o).at_ x;have o1:=Kaa 1 N.o.hc;clear hmi a4 F k7 x
    go_wp2_with fail
    obtain ⟨y,z,A,h,r⟩:=d9;dsimp only at c0 c1 c2 c3 g5 l2 c4;obtain ⟨H,g6⟩:=Ky h.length;rw [←g6] at c3 l2 ⊢;obtain ⟨w4,e5⟩:=Ky (wr.alloc (.cells #[.int .i64 y,.string z,.int .u64 (A:Int),.slice l0 H l1,.int .i64 r] 90));rw [←e5];have b4:=Kv e5;have e6:=Kw e5;have c7:=Kz (N.o.next b4);have o4:=Kz (d7.o.trans (KeepX.of (X:=ckX cb g b) b4));have l3:=Kz (P.o.trans (b4.mono (Kah b8.o P.o.size)));have o5:=Kz (d8.o.keep (KeepX.of (X:=ckX cb g b) b4));have o6:=Kz (((g5.more (Kah b8.o P.o.size)).next b4));obtain ⟨o7,l4⟩:=Ky wr.heap.size;rw [←l4] at e6 ⊢;have l5:=Kz (fun o8 (o9:Below w4.heap.size w4 o8)=>(o9.block o7 (Kab.1 e6).1).trans e6)
    have e7:=Kz g6;have g7:=Zf1 (Zd4 es 0 i _ j3.o k8.o);dsimp only at g7;have q9:H≤3:=by have:=Zgg y;omega
    have p0:=Kz g7;clear g7;have p1:=Kz (fun (k:Nat) (c8:Int) (a3:h[k]?=some c8)=>Zc0 j3.o k8.o a3)
    have p2:=Kz (Kah b8.o l3.o.size);clear e5 b4 l4 c0 c1 c2 c3 c4 g5 o1 c6 g6 e6 N d7 P d8 o0
    go_loopw [8,35] (fun xv g8 wr=>∃ (k:Nat) (a6:Option Addr) (c:Nat) (Q:List Value),k≤H∧g8=.int .i64 k∧xv=.slice a6 k c∧Q.length=k∧Own wr w4.heap.size 41 a6 c Q∧Below w4.heap.size w4 wr∧∀ (j:Nat) (v:Value) (l:List Int),Q[j]?=some v→(h.map fun a=>d.getD a.toNat [])[j]?=some l→ShV (ckX cb g b) w4 v l) (fun _ g8 _=>H-(intOf g8).toNat)
    case atStart=>exact ⟨0,none,0,[],by omega,rfl,rfl,rfl,Own.nil _ _ _,Kai _ _,fun j v l g9=>by simp at g9⟩
    case round=>
     obtain ⟨k,a6,c,Q,a4,rfl,rfl,l6,l7,e8,e9⟩:=hrel;have R:=Kz l6;have h5:=Kz l7;have I:=Kz e8;have h7:=Kz e9;have S:=l5.o _ e8;have h8:=(c7.o.next e8).hc;clear l6 l7 e8 e9
     by_cases T:k<H
     ·have x:h[k]?=some (h[k]'(by rw [←e7.o];exact T)):=Kad _
      obtain ⟨c8,a3⟩:=Ky (h[k]'(by rw [←e7.o];exact T))
      rw [←a3] at x;obtain ⟨x0,x1⟩:=p1.o k c8 x;obtain ⟨a,rfl⟩:∃ a:Nat,c8=(a:Int):=⟨c8.toNat,by omega⟩
      have O:a<n:=by omega
      obtain ⟨b2,o2,rfl,p3,d0⟩:=(o6.o.next I.o).at_ (show (h.map VI)[k]?=some (VI (a:Int)) by rw [Kal,x];rfl)
      unfold VI at d0;obtain ⟨l8,l9,m0,m1,-,m2⟩:=c7.o.shape O;have r0:=(I.o.cell (p:=⟨b,a,none⟩) (c7.o.lt _ (.inr (.inr rfl)))).trans m1;have k0:(0:Int)≤(k:Int):=by omega
      have k1:(k:Int)<(H:Int):=by omega
      have a0:(0:Int)≤(a:Int):=by omega
      have a1:(a:Int)<(n:Int):=by omega
      have z3:=Kaa 3 h8;have p4:=Kz (show ∀ (j:Nat) (v:Value) (l:List Int),(Q++[Value.slice l8 m0 l9])[j]?=some v→(h.map fun a=>d.getD a.toNat [])[j]?=some l→ShV (ckX cb g b) w4 v l from fun j v l m a7=>by
       by_cases d6:j<k
       ·rw [List.getElem?_append_left (by rw [R.o];exact d6)] at m
        exact h7.o j v l m a7
       ·rw [List.getElem?_append_right (by rw [R.o];omega),R.o] at m
        have p5:j-k=0:=by
         have:=(Kaf.1 m).1;simp at this;omega
        have p6:j=k:=by omega
        subst p6;rw [p5] at m;simp at m;rw [Kal,x] at a7;simp at a7;rw [←m,←a7];simpa using m2)
      clear x a3 p3 x0 x1 m1 m2 S h8
      go_wp2_with (at_builtin;(refine appS rfl (.tmp 39) (.tmp 47) rfl w4.heap.size a6 c Q k R.o rfl (h5.o.alloc _) (some ⟨wr.heap.size,0,none⟩) 1 (wr.heap.size+1) (.slice l8 m0 l9) rfl (Rd.one _ _ _) (fun g9=>by cases g9) rfl (by omega) (by have:=I.o.size;simp;omega) ?_);intro A3 k3 w3 o3 b3;have O3:=Kz o3;have B3:=Kz ((I.o.alloc I.o.size _).trans b3);clear o3 b3)
      exact ⟨⟨k+1,A3,k3,_,by omega,rfl,rfl,by rw [List.length_append,R.o];rfl,O3.o,B3.o,p4.o⟩,by simp [intOf];omega⟩
     ·obtain rfl:H=k:=by omega
      obtain ⟨C,h9⟩:=Ky ((Zab y A (h.map fun a=>d.getD a.toNat [])).1)
      obtain ⟨r2,i3⟩:=Ky ((Zab y A (h.map fun a=>d.getD a.toNat [])).2)
      have m3:ShL (ckX cb g b) wr a6 (h.map fun a=>d.getD a.toNat []):=⟨Q,by rw [Kak,←e7.o];exact R.o,h5.o.rd,fun j v l m a7=>(h7.o j v l m a7).next I.o⟩
      have i4:=Kz (Zip (ckX cb g b) y z A (.slice l0 H l1) r (h.map fun a=>d.getD a.toNat []) a6 H c wr (by rw [Kak];exact e7.o) (by rw [Kak];exact p0.o) (c7.o.next I.o).lt m3)
      rw [←h9,←i3] at i4;have p7:=Kz h9;have p8:=Kz i3;have e0:=Kaa 0 S;have e1:=Kaa 1 S;have e2:=Kaa 2 S;have e3:=Kaa 3 S;have e4:=Kaa 4 S;clear m3 h9 i3 a4 T S h8 R h5 h7
      go_upto_region 13 with (go_at_call 152;refine i4.o.mono ?_;rintro e w5 ⟨v,rfl,m,m4⟩)
      have b5:=bnext I.o m4;have f2:=l5.o _ b5;have a8:=c7.o.next b5;have f0:=Kaa 0 f2;have f1:=Kaa 1 f2;have f4:=Kaa 4 f2;have g2:=Kaa 2 a8.hc;have g3:=Kaa 3 a8.hc;have m5:=Kz a8;have m6:=Kz (o4.o.trans (KeepX.of (X:=ckX cb g b) b5));have f3:=Kz (l3.o.trans (b5.mono p2.o));have p9:=Kz (o5.o.keep (KeepX.of (X:=ckX cb g b) b5));have i5:=Kz (n5.o.far n3 f3.o);have m7:i<n:=by omega
      obtain ⟨r1,r3,r4,r5,-,-⟩:=a8.shape m7;have r6:=a8.free i;have m8:=Kz m;have i6:=Kz (show ∀ (c:Nat) (w6:World) (V:Value),exprC ⟨y,z,A,h,r⟩ d names=.inr c→IsErr w6 V [(chkN,r)] c→Below w5.heap.size w5 w6→ZeQ w B cb g b a9 (some ⟨k9,o,none⟩) b6 b7 n ec names (Zay es (Zac es root) names (root+1) 0 D) (.returned V) w6 from fun c w6 V i7 q0 h6=>by
       refine ⟨m6.o.trans (KeepX.of h6),f3.o.trans (h6.mono (Kah b8.o f3.o.size)),?_⟩;rw [a5.o,i7];exact ⟨V,rfl,q0⟩)
      have m9:=Kz (show ∀ (l:List Int) (W:Value) (q:Nat),exprC ⟨y,z,A,h,r⟩ d names=.inl l→ShV (ckX cb g b) w5 W l→(Zay es (Zac es root) names (root+1) 0 D=Zay es (Zac es root) names (root+1-(i+1)) (i+1) (d.set i l)∧CkSt ((w5.drewN q).setCell ⟨b,i,none⟩ W) B cb g b a9 (some ⟨k9,o,none⟩) b6 b7 n ec names (d.set i l)∧KeepX (ckX cb g b) w ((w5.drewN q).setCell ⟨b,i,none⟩ W)∧Below B w ((w5.drewN q).setCell ⟨b,i,none⟩ W)∧RdX (ckX cb g b) ((w5.drewN q).setCell ⟨b,i,none⟩ W) (some ⟨g0,0,none⟩) ((List.range (root+1)).map (fun i=>bI (Zac es root i)))) from fun l W q i7 e9=>by
       have i8:=Zag (ckX cb g b) w5 q;obtain ⟨t1,t2,t3⟩:=(m5.o.drewN q).set m7 (e9.keep i8);refine ⟨by rw [a5.o,i7],t1,m6.o.trans (i8.trans t2),f3.o.trans ((Zaa (Kai _ _) q).trans t3),(p9.o.keep i8).keep t2⟩)
      clear a8 f2 b5 m4 m e0 e1 e2 e3 e4 i4
      by_cases F:y=2
      ·subst F;obtain ⟨q1,i9,j0⟩:=m5.o.hn;have T:=fun q=>Zbn (w:=w5.drewN q) (show NamM (w5.drewN q) g q1 from i9) z
       rcases j0.find z with ⟨h1,h2⟩ | ⟨W,l,h1,h2,h3,h4⟩
       ·have J:=Kz (show exprC ⟨2,z,A,h,r⟩ d names=.inr 140 from by
         unfold exprC;rw [if_pos rfl];dsimp only;rw [h2])
        simp only [h1] at T;clear h1 h2 i9 j0
        go_wp2_with fail
        go_quiet (fail)
        go_wp2_with (go_at_call 94;refine (Zb8 140 r _ (i5.o.drewN _)).mono ?_;rintro e w6 ⟨V,rfl,c9,d1⟩)
        go_ret;exact i6.o 140 _ _ J.o c9 ((Zaa (Kai _ _) _).trans d1)
       ·have J:=Kz (show exprC ⟨2,z,A,h,r⟩ d names=.inl l from by
         unfold exprC;rw [if_pos rfl];dsimp only;rw [h2])
        obtain ⟨Y,Z,rfl,v1,v2,v3,v4⟩:=h3;have d2:=Kz (show ShV (ckX cb g b) w5 (.slice Y l.length Z) l from ⟨Y,Z,rfl,v1,v2,v3,v4⟩)
        have q4:(Zad l==0)=false:=by rw [Kaj];exact h4
        have L:=Kz (fun q=>ZcE Y l.length Z l (w5.drewN q) rfl (by omega) (v4.rd.drewN q))
        simp only [h1] at T;obtain ⟨q3,d3⟩:=Ky l.length;rw [←d3] at T L d2;clear h1 h2 h4 i9 j0 v1 v2 v3 v4 d3;obtain ⟨el,d4⟩:=Ky (Zad l);rw [←d4] at q4 L;clear d4
        go_wp2_with fail
        go_quiet (fail)
        go_wp2_with (go_at_call 73;refine (L.o _).mono ?_;rintro e n0 ⟨rfl,rfl⟩)
        obtain ⟨t1,t2,t3,t4,t5⟩:=m9.o l _ nq J.o d2.o;exact ⟨⟨i+1,_,by omega,rfl,t1,t2,t3,t4,t5⟩,by simp [intOf];omega⟩
      ·have q2:(y==2)=false:=by rw [Kaj];exact F
       have J:=Kz (show exprC ⟨y,z,A,h,r⟩ d names=if r2=false∨Zad C=0 then .inr 141 else .inl C from by
        unfold exprC;rw [if_neg F,p7.o,p8.o])
       clear F
       cases r2 with
       | false=>
        go_wp2_with (go_at_call 94;refine (Zb8 141 r _ i5.o).mono ?_;rintro e w6 ⟨V,rfl,c9,d1⟩)
        go_ret;exact i6.o 141 _ _ (by rw [J.o];simp) c9 d1
       | true=>
        obtain ⟨Y,Z,rfl,v1,v2,v3,v4⟩:=m8.o;have d2:=Kz (show ShV (ckX cb g b) w5 (.slice Y C.length Z) C from ⟨Y,Z,rfl,v1,v2,v3,v4⟩)
        have L:=Kz (ZcE Y C.length Z C w5 rfl (by omega) v4.rd)
        obtain ⟨q3,d3⟩:=Ky C.length;rw [←d3] at L d2 ⊢;obtain ⟨el,d4⟩:=Ky (Zad C);rw [←d4] at L J;clear d4 v1 v2 v3 v4 d3 m8
        by_cases h0:el=0
        ·subst h0
         go_wp2_with (first
          | (go_at_call 73;refine L.o.mono ?_;rintro e n0 ⟨rfl,rfl⟩)
          | (go_at_call 94;refine (Zb8 141 r _ i5.o).mono ?_;rintro e w6 ⟨V,rfl,c9,d1⟩))
         go_ret;exact i6.o 141 _ _ (by rw [J.o];simp) c9 d1
        ·have q4:(el==0)=false:=by rw [Kaj];exact h0
         have q5:=Kz (show exprC ⟨y,z,A,h,r⟩ d names=.inl C from by rw [J.o,if_neg (by simp;exact h0)])
         clear h0
         go_wp2_with (go_at_call 73;refine L.o.mono ?_;rintro e n0 ⟨rfl,rfl⟩)
         obtain ⟨t1,t2,t3,t4,t5⟩:=m9.o C _ 0 q5.o d2.o;exact ⟨⟨i+1,_,by omega,rfl,t1,t2,t3,t4,t5⟩,by simp [intOf];omega⟩
  ·obtain rfl:i=root+1:=by omega
   have a5:=Kz (show Zay es (Zac es root) names (root+1) 0 D=.inl d from by rw [g4.o,Nat.sub_self];rfl)
   clear M n7
   go_wp2
   go_ret;refine ⟨d7.o,P.o,?_⟩;rw [a5.o];exact ⟨rfl,N.o⟩
theorem Zi4 {w:World} {g:Nat} {b:List (ByteArray × Value)} (h:NamM w g b) (n:ByteArray) (v:Value) (k:findV b n=none):
  ∃ o,∀ W:World,W.heap=w.heap→(Instr.mapUpdate 183 (.map (some g)) (.string n) v).run Tryz.prog W=.ok () { W with heap:=W.heap.setIfInBounds g o }∧NamM { W with heap:=W.heap.setIfInBounds g o } g (b++[(n,v)]):=by
 obtain ⟨c,a,l,f⟩:=h;refine ⟨.map (c.push { key:=.string n,val:=v,born:=a }) (a+1),fun W m => ?_⟩
 have d:W.heap[g]?=some (.map c a):=by rw [m];exact l
 refine ⟨?_,c.push { key:=.string n,val:=v,born:=a },a+1,(Go.MapKept.heap_set d).1,?_⟩
 ·unfold Instr.mapUpdate;simp only [Sem.run_bind,run_underlying Tryz.underlying183,Result.andThen_ok,Go.MapKept.run_getObj_map d];rw [Go.MapKept.run_checkKey Tryz.underlying9 (show Go.MapKept.IsKey .string (.string n) from trivial)]
  simp only [Result.andThen_ok];rcases Zbx n c.toList b 0 f with ⟨e,j⟩ | ⟨p,i,e,j⟩
  ·rw [Go.MapKept.run_findKey Tryz.underlying9 j];simp only [Result.andThen_ok];exact Go.MapKept.run_setObj_map _ d
  ·rw [k] at e;cases e
 ·rw [Array.toList_push,List.map_append,List.map_append,f];rfl
theorem CkSt.store {w:World} {B cb g a j m p ec:Nat} {q r:Option Addr} {names:Names} {s:List (List Int)} (h:CkSt w B cb g a q r j m p ec names s)
  {n:ByteArray} {v:Value} {l:List Int} (F:findN names n=none) (H:ShV (ckX cb g a) w v l) (I:Zad l≠0):
  ∃ o,∀ W:World,W.heap=w.heap→Below w.heap.size w W→(Instr.mapUpdate 183 (.map (some g)) (.string n) v).run Tryz.prog W=.ok () { W with heap:=W.heap.setIfInBounds g o } ∧
   CkSt { W with heap:=W.heap.setIfInBounds g o } B cb g a q r j m p ec (names++[(n,l)]) s∧KeepX (ckX cb g a) w { W with heap:=W.heap.setIfInBounds g o }∧Below B w { W with heap:=W.heap.setIfInBounds g o }:=by
 have a5:=h.lt;obtain ⟨J,L,M,x,N,y,O,⟨P,d,z⟩,Q,R,S,T,V⟩:=h;have X:findV P n=none:=by
  rcases z.find n with ⟨Y,_⟩ | ⟨v,l,_,C,_⟩
  ·exact Y
  ·rw [F] at C;cases C
 obtain ⟨o,Z⟩:=Zi4 d n v X;refine ⟨o,fun W f i => ?_⟩
 obtain ⟨r1,r2⟩:=Z W f;have b:∀ k,k≠g→({ W with heap:=W.heap.setIfInBounds g o }:World).heap[k]?=w.heap[k]?:=fun k D=>by
  show (W.heap.setIfInBounds g o)[k]?=_
  rw [Array.getElem?_setIfInBounds,if_neg (fun e=>D e.symm),f]
 have E:({ W with heap:=W.heap.setIfInBounds g o }:World).heap.size=w.heap.size:=by
  show (W.heap.setIfInBounds g o).size=_
  rw [Array.size_setIfInBounds,f]
 have c:KeepX (ckX cb g a) w { W with heap:=W.heap.setIfInBounds g o }:=by
  refine ⟨Nat.le_of_eq E.symm,fun a0 a6 a1 => ?_⟩
  unfold World.cell?;rw [b a0.block (fun e=>a1 (.inr (.inl e)))]
 refine ⟨r1,⟨J,L,M,x,N,y,(b cb x).trans O,⟨_,r2,(z.keep c).append (H.keep c) I⟩,Q,(b a (fun e=>y e.symm)).trans R,S,T,fun a2 u a3 a4 d=>(V a2 u a3 a4 d).keep c⟩,c,⟨i.os,i.tape,i.output,Nat.le_of_eq E.symm,fun k D=>b k (by omega)⟩⟩
def ZaC (names:Names) (n:ByteArray):Bool:=(findN names n).isSome||n.size==0
def Zdc (w:World) (B cb g sg:Nat) (SA EA:Option Addr) (ns sc ne ec:Nat) (names:Names) (shapes:List (List Int)) (n:ByteArray) (l:List Int) (p:Int) (e:Ending) (w':World):Prop:=
 KeepX (ckX cb g sg) w w'∧Below B w w' ∧
 if ZaC names n then ∃ v,e=.returned v∧IsErr w' v [(chkN,p)] 140
 else e=.returned .nilIface∧CkSt w' B cb g sg SA EA ns sc ne ec (names++[(n,l)]) shapes
theorem ZgP (n:ByteArray):n.toList.isEmpty=(n.size==0):=by
 rw [ByteArray.toList_eq];obtain ⟨⟨l⟩⟩:=n
 cases l with
 | nil=>rfl
 | cons a r=>rfl
theorem ZgQ (B cb g i:Nat) (v x:Option Addr) (y z C ec:Nat) (names:Names) (D:List (List Int)) (xk N O b:Int) (a:ByteArray) (SV:Value) (P:Value) (l:List Int) (w:World)
  (Q:ETyped w) (a8:0<B) (k:CkSt w B cb g i v x y z C ec names D) (m:ShV (ckX cb g i) w P l) (R:Zad l≠0):
  Calls Tryz.prog 95 #[.pointer (some ⟨cb,0,none⟩),.agg #[.int .i64 xk,.int .i64 N,.string a,SV,.int .i64 O,.int .i64 b],P] w (Zdc w B cb g i v x y z C ec names D a l b):=by
 obtain ⟨w2,n⟩:=Ky (w.alloc (.cells #[.int .i64 xk,.int .i64 N,.string a,SV,.int .i64 O,.int .i64 b] 93));have d:=Kv n;have E:=Kw n;have F:B≤w.heap.size:=by have:=k.b1;have:=k.lt _ (.inl rfl);omega
 have p:=k.next d;have c0:=Kaa 2 p.hc;have e2:=Kaa 2 E;have e5:=Kaa 5 E;have H:=Kz n;have a0:=Kz p;have a1:=Kz (m.next d);have I:=Kz (KeepX.of (X:=ckX cb g i) d);have S:=Kz (d.mono F);have T:=Kz (Q.next d);have a2:=Kz R;have a3:=Kz F;obtain ⟨a4,r,s⟩:=p.hn;have J:=fun q=>Zbn (w:=w2.drewN q) (show NamM (w2.drewN q) g a4 from r) a
 have V:=ZgP a;have W:=Kz (show ∀ (q:Nat) (w6:World) (e:Value),ZaC names a=true→IsErr w6 e [(chkN,b)] 140→Below (w2.drewN q).heap.size (w2.drewN q) w6→Zdc w B cb g i v x y z C ec names D a l b (.returned e) w6 from fun q w6 e a5 m h6=>by
  have Y:=(Zaa (Kai w2.heap.size w2) q).trans h6;refine ⟨I.o.trans (KeepX.of Y),S.o.trans (Y.mono (Kah a3.o I.o.1)),?_⟩;rw [a5];exact ⟨e,rfl,m⟩)
 clear n d E k m Q R F p;rcases s.find a with ⟨h,c⟩ | ⟨a9,l2,h,c,h3,h4⟩
 ·simp only [h] at J
  cases hz:(a.size==0) with
  | true=>
   rw [hz] at V;have j:=Kz (show ZaC names a=true from by unfold ZaC;rw [hz];simp)
   clear hz h c r s
   go_enter Tryz.func95,Tryz.ntmps95
   go_wp2_with fail
   rw [←H.o]
   go_quiet (fail)
   go_wp2_with (go_at_call 94;refine (Zb8 140 b _ (T.o.drewN _)).mono ?_;rintro a6 w6 ⟨e,rfl,L,M⟩)
   go_ret;exact W.o _ _ _ j.o L M
  | false=>
   rw [hz] at V;have j:=Kz (show ZaC names a=false from by unfold ZaC;rw [hz,c];rfl)
   obtain ⟨o,Z⟩:=a0.o.store c a1.o a2.o;have a7:=Kz Z;clear hz h c r s Z
   go_enter Tryz.func95,Tryz.ntmps95
   go_wp2_with fail
   rw [←H.o]
   go_quiet (fail)
   obtain ⟨r1,r2,r3,r4⟩:=a7.o (w2.drewN (nq+1)) rfl (Zaa (Kai _ _) _);have R2:=Kz r2;have R3:=Kz r3;have R4:=Kz r4;clear r2 r3 r4 J
   go_wp2_with fail
   go_region
   all_goals
    go_wp2
    go_ret;refine ⟨I.o.trans R3.o,S.o.trans R4.o,?_⟩;rw [j.o];exact ⟨rfl,R2.o⟩
 ·obtain ⟨A2,k2,rfl,-⟩:=h3;simp only [h] at J;have j:=Kz (show ZaC names a=true from by unfold ZaC;rw [c];rfl)
  clear h c h4 r s
  go_enter Tryz.func95,Tryz.ntmps95
  go_wp2_with fail
  rw [←H.o]
  go_quiet (fail)
  go_wp2_with (go_at_call 94;refine (Zb8 140 b _ (T.o.drewN _)).mono ?_;rintro a6 w6 ⟨e,rfl,L,M⟩)
  go_ret;exact W.o _ _ _ j.o L M
theorem ZdH (A:Option Addr) (n c:Nat) (l:List Int) (w:World) (d:n=l.length) (z:n≤1000000) (h:Rd w w.heap.size A (l.map VI)):
  Calls Tryz.prog 55 #[.slice A n c] w fun e w'=>∃ A' b,e=.returned (.slice A' n b)∧Own w' w.heap.size 3 A' b (l.map VI)∧Below w.heap.size w w':=by
 have B:∀ (w:World) (a:Option Addr) (n c g b:Nat),(binOp .eql 41 (.slice a n c) (.slice none g b)).run Tryz.prog w=.ok (.bool a.isNone) w:=fun w a n c g b=>Lib.run_eql_slice_nil w _ _ a n c g b Tryz.underlying41
 cases A with
 | none=>
  have m:l=[]:=List.eq_nil_of_length_eq_zero (ZaW h rfl);subst m;subst d;clear h
  go_enter Tryz.func55,Tryz.ntmps55
  go_wp2
  go_ret;exact ⟨none,0,rfl,Own.nil _ _ _,Kai _ _⟩
 | some ad=>
  have p:=Kz d;have H:=Kz h;clear d h
  go_enter Tryz.func55,Tryz.ntmps55
  go_wp2_with (at_builtin;(refine appV rfl (.tmp 5) (.tmp 6) rfl w.heap.size (some ⟨w.heap.size,0,none⟩) 0 [] 0 rfl rfl (Own.made w 3 (Kag _)) (some ad) n c w.heap.size l p.o.symm rfl (H.o.alloc (Kag _) _) (fun e=>by cases e) (by omega) (by simp) ?_);intro q r w3 i j s;have v:=Kz i;have x:=Kz (Zal ((Kai w.heap.size w).alloc (Kag _) _) j (by simp) (fun k y=>by cases y;exact Kag _));clear i j s)
  go_ret;exact ⟨q,r,by rw [←Nat.zero_add n];rfl,v.o,x.o⟩
theorem Zc1 (n:Nat) (i:n≤1000000) (w:World) (e:Int) (a:e=n):
  (Instr.makeSlice 51 (.int .i64 e) (.int .i64 e)).run Tryz.prog w=.ok (.slice (some ⟨w.heap.size,0,none⟩) n n) (w.alloc (.cells (List.replicate n (Value.slice none 0 0)).toArray 41)):=by
 obtain ⟨b,c,d,f,g⟩:=info_parts ZdG;have h:=run_make (P := Tryz.prog) w 51 41 b (.slice none 0 0) Tryz.underlying51 c d .i64 .i64 e e (by omega) (by omega) (by rw [g];omega) (by omega)
 rw [h,a,f];have:(madeCells (Value.slice none 0 0).cells ((n:Int).toNat*1))=(List.replicate n (Value.slice none 0 0)).toArray:=by
  apply Array.ext';rw [show (Value.slice none 0 0).cells=#[Value.slice none 0 0] from rfl,toList_madeCells_one]
  simp
 rw [this];rfl
def ZeR (names:Names):Prop:=∀ p∈names,Zad p.2≠0
theorem NamR.ok {X:Nat→Prop} {w:World}:∀ {c:List (ByteArray × Value)} {a:Names},NamR X w c a→ZeR a
 | [],[],_=>by intro p d;simp at d
 | p::c,q::a,h=>by
  intro x b
  rcases List.mem_cons.1 b with rfl | b
  ·exact h.2.2.1
  ·exact NamR.ok h.2.2.2 x b
 | [],_::_,h=>h.elim
 | _::_,[],h=>h.elim
theorem ZgR {n:ByteArray}:∀ {names:Names} {l:List Int},ZeR names→findN names n=some l→Zad l≠0
 | [],l,_,h=>by cases h
 | (t,s)::r,l,ho,h=>by
  unfold findN at h;split at h
  ·injection h with h
   subst h;exact ho (t,s) (by simp)
  ·exact ZgR (fun p a=>ho p (by simp [a])) h
theorem Zkz {e:EI} {sh:List (List Int)} {names:Names} {l:List Int} (a:ZeR names) (h:exprC e sh names=.inl l):Zad l≠0:=by
 unfold exprC at h;split at h
 ·split at h
  ·cases h
  ·rename_i s hs
   injection h with h
   subst h;exact ZgR a hs
 ·dsimp only at h;split at h
  ·cases h
  ·rename_i hne
   injection h with h
   subst h;exact fun e=>hne (.inr e)
theorem Zcp {es:List EI} {m:Nat→Bool} {names:Names}:∀ (n k:Nat) (sh a:List (List Int)),Zay es m names n k sh=.inl a→a.length=sh.length
 | 0,k,sh,a,h=>by injection h with h;rw [h]
 | n+1,k,sh,a,h=>by
  unfold Zay at h;split at h
  ·split at h
   ·injection h with h;rw [h]
   ·split at h
    ·cases h
    ·rw [Zcp n _ _ _ h,List.length_set]
  ·exact Zcp n _ _ _ h
theorem ZcJ {es:List EI} {m:Nat→Bool} {names:Names} {root:Nat} (b:ZeR names) (c:m root=true) (d:root<es.length):∀ (n k:Nat) (sh a:List (List Int)),k+n=root+1→0<n→sh.length=es.length→Zay es m names n k sh=.inl a→Zad (a.getD root [])≠0
 | 0,k,sh,a,_,h0,_,_=>by omega
 | n+1,k,sh,a,hk,_,hl,h=>by
  unfold Zay at h;split at h
  ·have e:es[k]?=some (es[k]'(by omega)):=Kad _
   rw [e] at h;dsimp only at h;split at h
   ·cases h
   ·rename_i s hs
    cases n with
    | zero=>
     injection h with h
     subst h;have:k=root:=by omega
     subst this;rw [List.getD_eq_getElem?_getD,List.getElem?_set_self (by omega)]
     exact Zkz b hs
    | succ n=>exact ZcJ b c d (n+1) (k+1) _ a (by omega) (by omega) (by simpa using hl) h
  ·rename_i hmk
   cases n with
   | zero=>
    have:k=root:=by omega
    subst this;exact absurd c hmk
   | succ n=>exact ZcJ b c d (n+1) (k+1) _ a (by omega) (by omega) hl h
theorem Zdd {es:List EI} {root a:Nat}:∀ (n:Nat) (m:Nat→Bool),m a=true→markP es root n m a=true
 | 0,m,h=>h
 | n+1,m,h=>Zdd n _ (by rw [h];rfl)
theorem ZaI (es:List EI) (root:Nat):Zac es root root=true:=Zdd _ _ (by simp)
end Go.Proofs.YtghlnncfigkkaaaGreatDoor
