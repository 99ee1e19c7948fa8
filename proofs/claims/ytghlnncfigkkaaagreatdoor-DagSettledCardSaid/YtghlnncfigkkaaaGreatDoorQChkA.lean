/-
 Walks of the checker's tree: its closures, and slices.ContainsFunc over them.
-/
import Derived.Test.YtghlnncfigkkaaaGreatDoorQChkL
import Derived.Test.YtghlnncfigkkaaaGreatDoorQChkB
import Derived.BigQuiet
import Derived.Deep.DeepCutAuto
import Derived.RegionTactic
set_option maxRecDepth 100000
set_option maxHeartbeats 4000000
set_option linter.unusedVariables false
set_option linter.unusedSimpArgs false
namespace Go.Proofs.YtghlnncfigkkaaaGreatDoor
open Go.RowKit
theorem Zil (i:Nat) (a:Int) (B:Nat) (w:World) (j:w.cell? ⟨B,0,none⟩=some (.int .i64 i)):
  Calls Tryz.prog 148 #[.int .i64 a,.pointer (some ⟨B,0,none⟩)] w fun e w'=>e=.returned (.bool (!argOk i a))∧w=w':=by
 by_cases c:a<0
 ·have g:decide (a<0)=true:=by simp;omega
  have b:=Kz (show argOk i a=false from by unfold argOk;simp;omega)
  clear c
  go_enter Tryz.func148,Tryz.ntmps148
  go_wp2
  go_ret;exact ⟨by rw [b.o];rfl,rfl⟩
 ·have g:decide (a<0)=false:=by simp;omega
  by_cases d:(i:Int)≤a
  ·have h:decide ((i:Int)≤a)=true:=by simp;omega
   have b:=Kz (show argOk i a=false from by unfold argOk;simp;omega)
   clear c d
   go_enter Tryz.func148,Tryz.ntmps148
   go_wp2
   go_ret;exact ⟨by rw [b.o];rfl,rfl⟩
  ·have h:decide ((i:Int)≤a)=false:=by simp;omega
   have b:=Kz (show argOk i a=true from by unfold argOk;simp;omega)
   clear c d
   go_enter Tryz.func148,Tryz.ntmps148
   go_wp2
   go_ret;exact ⟨by rw [b.o];rfl,rfl⟩
theorem Zkb (i:Nat) (B:Nat) (A:Option Addr) (n c:Nat) (l:List Int) (w:World) (t:n=l.length) (L:n≤9223372036854775807) (h:Rd w w.heap.size A (l.map VI)) (v:w.cell? ⟨B,0,none⟩=some (.int .i64 i)):
  Calls Tryz.prog 118 #[.slice A n c,.func (.func 148) #[] #[.pointer (some ⟨B,0,none⟩)]] w fun e w'=>(∃ r:Int,e=.returned (.int .i64 r)∧decide ((0:Int)≤r) = !l.all (argOk i))∧w=w':=by
 have m:=Kz t;have H:=Kz h;have x:=Kz (fun a=>Zil i a B w v)
 clear h v t
 go_enter Tryz.func118,Tryz.ntmps118
 go_wp2
 go_loop [5,8] (fun _ p=>∃ k:Nat,k≤n∧p=.int .i64 k∧l.all (argOk i)=(l.drop k).all (argOk i)) (fun _ p=>n-(intOf p).toNat)
 case atStart=>exact ⟨0,by omega,rfl,rfl⟩
 case round=>
  obtain ⟨k,M,rfl,y⟩:=hrel;have q:=Kz y;clear y
  by_cases z:k<n
  ·have j:l[k]?=some (l[k]'(by rw [←m.o];exact z)):=Kad _
   obtain ⟨d,C⟩:=Ky (l[k]'(by rw [←m.o];exact z))
   rw [←C] at j;have D:(l.map VI)[k]?=some (VI d):=by rw [Kal,j];rfl
   obtain ⟨b,o,rfl,N,c0⟩:=H.o.at_ D;have O:w.cell? ⟨b,o+k,none⟩=some (.int .i64 d):=c0;have P:(0:Int)≤(k:Int):=by omega
   have Q:(k:Int)<(n:Int):=by omega
   have E:=Kz (show (l.drop k).all (argOk i)=(argOk i d&&(l.drop (k+1)).all (argOk i)) from by
    obtain ⟨F,I⟩:=Kaf.1 j;rw [List.drop_eq_getElem_cons F,List.all_cons,I])
   clear j D C c0
   cases ho:argOk i d with
   | false=>
    have s:=Kz ho;have g:=x.o d;rw [ho] at g;clear ho
    go_wp2_with (go_at_call 148;refine g.mono ?_;rintro e w' ⟨rfl,rfl⟩)
    go_ret;exact ⟨⟨_,rfl,by rw [q.o,E.o,s.o];simp⟩,rfl⟩
   | true=>
    have s:=Kz ho;have g:=x.o d;rw [ho] at g;clear ho
    go_wp2_with (go_at_call 148;refine g.mono ?_;rintro e w' ⟨rfl,rfl⟩)
    exact ⟨⟨k+1,by omega,rfl,(by rw [q.o,E.o,s.o];rfl)⟩,by simp [intOf];omega⟩
  ·obtain rfl:n=k:=by omega
   have J:=Kz (show l.all (argOk i)=true from by rw [q.o,m.o,List.drop_length];rfl)
   go_wp2
   go_ret;exact ⟨⟨-1,rfl,by rw [J.o];rfl⟩,rfl⟩
theorem Zkc (i:Nat) (B:Nat) (A:Option Addr) (n c:Nat) (l:List Int) (w:World) (a:n=l.length) (d:n≤9223372036854775807) (h:Rd w w.heap.size A (l.map VI)) (b:w.cell? ⟨B,0,none⟩=some (.int .i64 i)):
  Calls Tryz.prog 75 #[.slice A n c,.func (.func 148) #[] #[.pointer (some ⟨B,0,none⟩)]] w fun e w'=>e=.returned (.bool (!l.all (argOk i)))∧w=w':=by
 have g:=Kz (Zkb i B A n c l w a d h b);clear h b a
 go_enter Tryz.func75,Tryz.ntmps75
 go_wp2_with (go_at_call 118;refine g.o.mono ?_;rintro e w' ⟨⟨r,rfl,j⟩,rfl⟩)
 go_ret;exact ⟨rfl,rfl⟩
def Zim (x:SI) (A:Option Addr) (c:Nat):Array Value:=#[.int .i64 x.kind,.int .i64 x.party,.string x.name,.slice A x.shape.length c,.int .i64 x.expr,.int .i64 x.pos]
theorem Zin (x:SI) (A:Option Addr) (c:Nat) (B n ec:Nat) (l:Option Addr) (w:World) (m:B<w.heap.size) (p:w.cell? ⟨B,1,none⟩=some (.slice l n ec)):
  Calls Tryz.prog 150 #[.agg (Zim x A c),.pointer (some ⟨B,0,none⟩)] w fun e w'=>e=.returned (.bool (!smOk n x))∧Below w.heap.size w w':=by
 obtain ⟨xk,g,h,d,a,i⟩:=x
 show Calls Tryz.prog 150 #[.agg #[.int .i64 xk,.int .i64 g,.string h,.slice A d.length c,.int .i64 a,.int .i64 i],.pointer (some ⟨B,0,none⟩)] w _
 generalize d.length=sl
 have v:∀ o:Obj,(w.alloc o).cell? ⟨B,1,none⟩=some (.slice l n ec):=fun o=>(World.cell?_alloc_lt w o ⟨B,1,none⟩ m).trans p
 have y:B≠w.heap.size:=by omega
 rcases (show xk=1∨xk=2∨xk=3∨(xk≠1∧xk≠2∧xk≠3) by omega) with rfl | rfl | rfl | ⟨q,r,s⟩
 ·have b:=Kz (show smOk n ⟨1,g,h,d,a,i⟩=true from by unfold smOk;simp)
  go_enter Tryz.func150,Tryz.ntmps150
  go_wp2
  go_ret;exact ⟨by rw [b.o];rfl,(Kai _ _).alloc (Kag _) _⟩
 ·by_cases z:a<0
  ·have j:decide (a<0)=true:=by simp;omega
   have b:=Kz (show smOk n ⟨2,g,h,d,a,i⟩=false from by unfold smOk;simp <;> omega)
   go_enter Tryz.func150,Tryz.ntmps150
   go_wp2
   go_ret;exact ⟨by rw [b.o];rfl,(Kai _ _).alloc (Kag _) _⟩
  ·have j:decide (a<0)=false:=by simp;omega
   by_cases C:(n:Int)≤a
   ·have k:decide ((n:Int)≤a)=true:=by simp;omega
    have b:=Kz (show smOk n ⟨2,g,h,d,a,i⟩=false from by unfold smOk;simp <;> omega)
    go_enter Tryz.func150,Tryz.ntmps150
    go_wp2
    go_ret;exact ⟨by rw [b.o];rfl,(Kai _ _).alloc (Kag _) _⟩
   ·have k:decide ((n:Int)≤a)=false:=by simp;omega
    have b:=Kz (show smOk n ⟨2,g,h,d,a,i⟩=true from by unfold smOk;simp <;> omega)
    go_enter Tryz.func150,Tryz.ntmps150
    go_wp2
    go_ret;exact ⟨by rw [b.o];rfl,(Kai _ _).alloc (Kag _) _⟩
 ·have b:=Kz (show smOk n ⟨3,g,h,d,a,i⟩=true from by unfold smOk;simp)
  go_enter Tryz.func150,Tryz.ntmps150
  go_wp2
  go_ret;exact ⟨by rw [b.o];rfl,(Kai _ _).alloc (Kag _) _⟩
 ·have j:(xk==1)=false:=by rw [Kaj];exact q
  have k:(xk==2)=false:=by rw [Kaj];exact r
  have t:(xk==3)=false:=by rw [Kaj];exact s
  have b:=Kz (show smOk n ⟨xk,g,h,d,a,i⟩=false from by unfold smOk;simp only [j,k,t];rfl)
  go_enter Tryz.func150,Tryz.ntmps150
  go_wp2
  go_ret;exact ⟨by rw [b.o];rfl,(Kai _ _).alloc (Kag _) _⟩
theorem Zkd (B n ec:Nat) (E:Option Addr) (A:Option Addr) (m c:Nat) (l:List SI) (w:World) (F:m=l.length) (V:m≤9223372036854775807) (h:RdSI w w.heap.size A l) (j:B<w.heap.size) (I:w.cell? ⟨B,1,none⟩=some (.slice E n ec)):
  Calls Tryz.prog 179 #[.slice A m c,.func (.func 150) #[] #[.pointer (some ⟨B,0,none⟩)]] w fun e w'=>(∃ r:Int,e=.returned (.int .i64 r)∧decide ((0:Int)≤r) = !l.all (smOk n))∧Below w.heap.size w w':=by
 have q:=Kz F;have H:=Kz h;have O:=Kz (fun x s t (W:World) (a:Below w.heap.size w W)=>Zin x s t B n ec E W (Kae j a.size) ((a.cell (p:=⟨B,1,none⟩) j).trans I))
 clear h I F j
 go_enter Tryz.func179,Tryz.ntmps179
 go_wp2
 go_loopw [5,8] (fun _ v wr=>(∃ k:Nat,k≤m∧v=.int .i64 k∧l.all (smOk n)=(l.drop k).all (smOk n))∧Below w.heap.size w wr) (fun _ v _=>m-(intOf v).toNat)
 case atStart=>exact ⟨⟨0,by omega,rfl,rfl⟩,Kai _ _⟩
 case round=>
  obtain ⟨⟨k,X,rfl,J⟩,a⟩:=hrel;have y:=Kz J;have z:=Kz a;clear J
  by_cases L:k<m
  ·have i:l[k]?=some (l[k]'(by rw [←q.o];exact L)):=Kad _
   obtain ⟨d,M⟩:=Ky (l[k]'(by rw [←q.o];exact L))
   rw [←M] at i;obtain ⟨b,o,rfl,Y,c0,c1,c2,⟨s,t,c3,P,Q,-⟩,c4,c5⟩:=(H.o.below a).at_ i;have Z:(0:Int)≤(k:Int):=by omega
   have i1:(k:Int)<(m:Int):=by omega
   have N:=Kz (show (l.drop k).all (smOk n)=(smOk n d&&(l.drop (k+1)).all (smOk n)) from by
    obtain ⟨R,S⟩:=Kaf.1 i;rw [List.drop_eq_getElem_cons R,List.all_cons,S])
   have g:=O.o d s t wr a;have a0:=a.size;clear i M P Q a;unfold Zim at g
   cases ho:smOk n d with
   | false=>
    have C:=Kz ho;rw [ho] at g;clear ho
    go_wp2_with (go_at_call 150;refine g.mono ?_;rintro e w' ⟨rfl,D⟩)
    go_ret;exact ⟨⟨_,rfl,by rw [y.o,N.o,C.o];simp⟩,bnext z.o D⟩
   | true=>
    have C:=Kz ho;rw [ho] at g;clear ho
    go_wp2_with (go_at_call 150;refine g.mono ?_;rintro e w' ⟨rfl,D⟩)
    exact ⟨⟨⟨k+1,by omega,rfl,(by rw [y.o,N.o,C.o];rfl)⟩,bnext z.o D⟩,by simp [intOf];omega⟩
  ·obtain rfl:m=k:=by omega
   have T:=Kz (show l.all (smOk n)=true from by rw [y.o,q.o,List.drop_length];rfl)
   go_wp2
   go_ret;exact ⟨⟨-1,rfl,by rw [T.o];rfl⟩,z.o⟩
theorem Zke (B n ec:Nat) (a:Option Addr) (A:Option Addr) (m c:Nat) (l:List SI) (w:World) (b:m=l.length) (i:m≤9223372036854775807) (h:RdSI w w.heap.size A l) (d:B<w.heap.size) (g:w.cell? ⟨B,1,none⟩=some (.slice a n ec)):
  Calls Tryz.prog 149 #[.slice A m c,.func (.func 150) #[] #[.pointer (some ⟨B,0,none⟩)]] w fun e w'=>e=.returned (.bool (!l.all (smOk n)))∧Below w.heap.size w w':=by
 have j:=Kz (Zkd B n ec a A m c l w b i h d g);clear h g b d
 go_enter Tryz.func149,Tryz.ntmps149
 go_wp2_with (go_at_call 179;refine j.o.mono ?_;rintro e w' ⟨⟨r,rfl,p⟩,k⟩)
 go_ret;exact ⟨rfl,k⟩
theorem Zen {es:List EI} {i:Nat} {e:EI} (h:es[i]?=some e):exsOk i (es.drop i)=(exOk i e&&exsOk (i+1) (es.drop (i+1))):=by
 obtain ⟨a,b⟩:=Kaf.1 h;rw [List.drop_eq_getElem_cons a,b];rfl
theorem Zav {P:Program} {f:FuncId} {a:Array Value} {w:World} {v:Value} (h:Calls P f a w fun e w'=>e=.returned v∧w=w'):Calls P f a w fun e w'=>e=.returned v∧w'=w:=
 h.mono fun _ _ ⟨b,c⟩=>⟨b,c.symm⟩
theorem Zkf (l m:Option Addr) (h a s ec:Nat) (ss:List SI) (es:List EI) (w:World) (S:h=ss.length) (T:a=es.length)
  (a7:h≤9223372036854775807∧a≤9223372036854775807) (V:RdSI w w.heap.size l ss) (X:RdEI w w.heap.size m es):
  Calls Tryz.prog 93 #[.agg #[.slice l h s,.slice m a ec]] w fun e w'=>e=.returned (.bool (treeP ss es))∧Below w.heap.size w w':=by
 obtain ⟨w2,v⟩:=Ky (w.alloc (.cells #[.slice l h s,.slice m a ec] 26));have x:=Kv v;have b:w2.heap[w.heap.size]?=some (.cells #[.slice l h s,.slice m a ec] 26 (0,0)):=by
  rw [v];exact Kac w _
 have a8:=Kz v;have j:=Kz x;have a9:=Kz (fun W (b0:Below w2.heap.size w2 W)=>(b0.block _ (Kab.1 b).1).trans b)
 have H1:=Kz (V.next x);have H3:=Kz (X.next x);have b1:=Kz S;have H:=Kz T;obtain ⟨b2,b6⟩:=a7;have I:=Kaa 0 b;have y:=Kaa 1 b;clear v x b V X S T
 go_enter Tryz.func93,Tryz.ntmps93
 go_wp2
 rw [←a8.o]
 go_wp2
 clear I y
 go_loopw [8] (fun J wr=>(∃ i:Nat,i≤a∧J=.int .i64 i∧exsOk 0 es=exsOk i (es.drop i))∧Below w2.heap.size w2 wr) (fun J _=>a-(intOf J).toNat)
 case atStart=>exact ⟨⟨0,by omega,rfl,rfl⟩,Kai _ _⟩
 case round=>
  obtain ⟨⟨i,b7,rfl,Y⟩,k⟩:=hrel;have z:=Kz Y;have Z:=Kz k;have b:=a9.o _ k;have I:=Kaa 0 b;have y:=Kaa 1 b;clear Y
  by_cases a0:i<a
  ·have B:es[i]?=some (es[i]'(by rw [←H.o];exact a0)):=Kad _
   obtain ⟨d,a1⟩:=Ky (es[i]'(by rw [←H.o];exact a0))
   rw [←a1] at B;have L:=Kz (Zen B);obtain ⟨b8,o,rfl,b3,c0,c1,c2,⟨C,D,c3,a2,a3,-⟩,c4⟩:=(H3.o.next k).at_ B;have i0:(0:Int)≤(i:Int):=by omega
   have i1:(i:Int)<(a:Int):=by omega
   have b4:=Kz a2;clear B a1 a2 k b
   go_wp2_with fail
   obtain ⟨w4,n⟩:=Ky ((wr.alloc (.cells #[.int .i64 (i:Int)] 3)).alloc (.cells #[.int .i64 d.kind,.string d.name,.int .u64 (d.num:Int),.slice C d.args.length D,.int .i64 d.pos] 90));rw [←n];have M:Below wr.heap.size wr w4:=by rw [n];exact ((Kai _ _).alloc (Kag _) _).alloc (by simp) _
   have k0:w4.cell? ⟨wr.heap.size,0,none⟩=some (.int .i64 (i:Int)):=by
    rw [n,World.cell?_alloc_lt _ _ _ (by simp)]
    exact Kaa 0 (Kac wr _)
   have N:w4.heap[wr.heap.size+1]?=some (.cells #[.int .i64 d.kind,.string d.name,.int .u64 (d.num:Int),.slice C d.args.length D,.int .i64 d.pos] 90 (0,0)):=by
    rw [n];have:=Kac (wr.alloc (.cells #[.int .i64 (i:Int)] 3)) (.cells #[.int .i64 d.kind,.string d.name,.int .u64 (d.num:Int),.slice C d.args.length D,.int .i64 d.pos] 90);rwa [World.size_alloc] at this
   have e0:=Kaa 0 N;have e3:=Kaa 3 N;have O:=Kz (bnext Z.o M);have E:=Kz (fun W=>Zkn d.kind W)
   have c:=Kz (fun a4=>Zkc i wr.heap.size C d.args.length D d.args (w4.drewN a4) rfl a3 ((b4.o.next M).drewN a4) k0)
   obtain ⟨P,b9,c6,F,c7⟩:=d;dsimp only at *;obtain ⟨p,Q⟩:=Ky F.length;rw [←Q] at e3 a3 c ⊢;have a5:=Kz Q;clear n M k0 N c0 c1 c2 c3 c4 I y b3 Q;obtain ⟨mp,R⟩:=Ky (madeP P);rw [←R] at E;have a6:=Kz R;clear R
   by_cases q:mp=(p:Int)
   ·have r:(mp==(p:Int))=true:=by rw [beq_iff_eq];exact q
    have q2:(mp != (p:Int))=false:=by unfold bne;rw [r];rfl
    cases ha:F.all (argOk i) with
    | true=>
     rw [ha] at c;have g:=Kz (show exsOk 0 es=exsOk (i+1) (es.drop (i+1)) from by
      rw [z.o,L.o];unfold exOk;rw [show ((madeP P==((F.length:Nat):Int)):Bool)=true from by rw [←a6.o,←a5.o];exact r,ha]
      rfl)
     clear ha q
     go_quiet (first
      | (go_at_call 147;exact Calls.quiet_of_same (Zav (E.o _)))
      | (go_at_call 75;exact Calls.quiet_of_same (Zav (c.o _))))
     go_wp2
     exact ⟨⟨⟨i+1,by omega,rfl,g.o⟩,Zaa O.o _⟩,by simp [intOf];omega⟩
    | false=>
     rw [ha] at c;have g:=Kz (show treeP ss es=false from by
      unfold treeP;rw [z.o,L.o];unfold exOk;rw [ha];simp)
     clear ha q
     go_quiet (first
      | (go_at_call 147;exact Calls.quiet_of_same (Zav (E.o _)))
      | (go_at_call 75;exact Calls.quiet_of_same (Zav (c.o _))))
     go_wp2
     go_ret;exact ⟨by rw [g.o];rfl,j.o.trans (Zaa (O.o.mono j.o.size) _)⟩
   ·have r:(mp==(p:Int))=false:=by rw [Kaj];exact q
    have q2:(mp != (p:Int))=true:=by unfold bne;rw [r];rfl
    have g:=Kz (show treeP ss es=false from by
     unfold treeP;rw [z.o,L.o];unfold exOk;rw [show ((madeP P==((F.length:Nat):Int)):Bool)=false from by rw [←a6.o,←a5.o];exact r]
     simp)
    clear q
    go_quiet (first
     | (go_at_call 147;exact Calls.quiet_of_same (Zav (E.o _)))
     | fail)
    go_wp2
    go_ret;exact ⟨by rw [g.o];rfl,j.o.trans (Zaa (O.o.mono j.o.size) _)⟩
  ·obtain rfl:a=i:=by omega
   have g:=Kz (show treeP ss es=ss.all (smOk a) from by
    unfold treeP;rw [z.o,H.o,List.drop_length];rfl)
   have c:=Kz (Zke w.heap.size a ec m l h s ss wr b1.o b2 (H1.o.next k) (by have:=(Kab.1 b).1;omega) y)
   clear k b
   go_wp2_with (go_at_call 149;refine c.o.mono ?_;rintro e w' ⟨rfl,b5⟩)
   go_ret;exact ⟨by rw [g.o];simp,j.o.trans ((bnext Z.o b5).mono j.o.size)⟩
end Go.Proofs.YtghlnncfigkkaaaGreatDoor
