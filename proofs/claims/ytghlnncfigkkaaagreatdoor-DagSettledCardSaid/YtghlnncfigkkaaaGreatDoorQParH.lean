/-
 Walks of the parser's levels: atom.
-/
import Derived.Test.YtghlnncfigkkaaaGreatDoorQParC
set_option maxRecDepth 100000
set_option maxHeartbeats 2000000
set_option linter.unusedVariables false
set_option linter.unusedSimpArgs false
namespace Go.Proofs.YtghlnncfigkkaaaGreatDoor
open Go.RowKit
attribute [local go_sem ↓] ZaO ZaP
theorem Zlp:(Tryz.prog.info? 3).map (fun i=>(i.zero,i.size,i.bytes))=some (some (.int .i64 0),1,8):=by kernel_rfl
theorem Zlq (l:List Nat):∀ u∈l.map I64,u.oneCell'=true:=by
 intro v a
 obtain ⟨x,_,rfl⟩:=List.mem_map.1 a;rfl
theorem appI {w:World} {i:Array Oper} {rest:List Oper} {o:Oper} {a:Act} {Q:Exit→Act→World→Prop} (k:o.guard=none) (s x:Operand)
  (l:o.op=.call { callee:=.builtin .append,args:=#[s,x],argTypes:=#[41,41] }) (base:Nat)
  (A:Option Addr) (g:Nat) (d:List Nat) (n:Nat) (m:d.length=n) (p:a.eval s=.slice A n g) (q:Own w base 3 A g (d.map I64))
  (e:Nat) (r:a.eval x=.slice (some ⟨e,0,none⟩) 1 1) (v:Nat) (y:w.heap[e]?=some (.cells #[I64 v] 3 (0,0)))
  (J:n+1≤26388279066624) (z:base≤w.heap.size)
  (h:∀ b f c,Own c base 3 b f ((d++[v]).map I64)→w.grownBy c (blk A)→(blk b=blk A∨blk b=some w.heap.size)→wpList Tryz.prog i Q rest (a.put o.dst (.slice b (n+1) f)) c):
  wpList Tryz.prog i Q (o::rest) a w:=by
 obtain ⟨B,C,D,E,F⟩:=info_parts Zlp;refine Zbu k s x 41 l base 3 B _ 8 Tryz.underlying41 C D E F rfl A g (d.map I64) n (by rw [Kak];exact m) p q (some ⟨e,0,none⟩) 1 1 (e+1) ([v].map I64) rfl r (Rd.of_block y (by omega) (by simp)) (fun h=>by cases h) (Zlq [v]) (by simp only [maxLen];omega) (by omega) z ?_
 intro b f c j H I
 rw [←List.map_append] at j;exact h b f c j H I
section
variable {X:Nat→Prop} {base P tc:Nat} {TA:Option Addr} {L:List Tok} {s:PS}
theorem Zj1 {a w w':World} {A:Option Addr} (h:KT base a w) (b:w.grownBy w' (blk A)) (f:∀ k,blk A=some k→a.heap.size≤k):KT base a w':=
 ⟨b.os.trans h.os,b.tape.trans h.tape,b.output.trans h.output,Kah h.size b.size,fun k o c g=>by
  have d:=h.block k o c g;rw [b.block k (Kab.1 d).1 (fun e=>by
   have i:=f k e.symm;have j:=(Kab.1 c).1;omega)]
  exact d,fun k l c=>by
  obtain ⟨c1,d,m⟩:=h.stm k l c;refine ⟨c1,?_,m⟩;rw [b.block k (Kab.1 d).1 (fun e=>by
   have i:=f k e.symm;have j:=(Kab.1 c).1;omega)]
  exact d⟩
theorem Zff {w w':World} {b I J:Nat} {A i:Option Addr} {xs M:List Value} (h:PM (XA X A) base P TA tc L s w) (D:Own w b 3 A I xs) (a9:base≤b) (p:w.grownBy w' (blk A)) (N:Own w' b 3 i J M) (O:blk i=blk A∨blk i=some w.heap.size):PM (XA X i) base P TA tc L s w':=by
 obtain ⟨R,S,V,W,Y,h⟩:=h;have Z:∀ k,XA X i k→XA X A k∨w.heap.size≤k:=fun k c=>by
  rcases c with c | c
  ·exact .inl (.inl c)
  ·rcases O with e | e
   ·exact .inl (.inr (e.symm.trans c))
   ·rw [e] at c;injection c with c
    exact .inr (Nat.le_of_eq c)
 have z:∀ k,(XA X A k∨XA X i k)→XA X A k∨w.heap.size≤k:=fun k c=>c.elim .inl (Z k)
 have q:∀ g cur,¬ XA X A g→w.heap[g]?=some (.cells cur 3 (0,0))→w'.heap[g]?=some (.cells cur 3 (0,0)):=fun g cur f d=>by
  rw [p.block g (Kab.1 d).1 (fun e=>f (.inr e.symm))]
  exact d
 have n:∀ (k:Nat) (B:Array Value) (T:TypeId) (C:Nat × Nat),w.heap[k]?=some (.cells B T C)→T≠3→w'.heap[k]?=some (.cells B T C):=fun k B T C c a0=>by
  rw [p.block k (Kab.1 c).1 (fun e=>by
   rcases Zhr D with rfl | ⟨g,cur,rfl,_,d⟩
   ·simp [blk] at e
   ·have E:k=g:=by simpa [blk] using e
    subst E;rw [d] at c;injection c with c
    injection c with _ c _
    exact a0 c.symm)]
  exact c
 have F:∀ k,k<base→w'.heap[k]?=w.heap[k]?:=fun k c=>p.block k (by have:=h.base_le;omega) (fun e=>by
  rcases Zhr D with rfl | ⟨g,cur,rfl,b0,d⟩
  ·simp [blk] at e
  ·have E:k=g:=by simpa [blk] using e
   omega)
 have a1:∀ {l:List (ByteArray × Int)} {v:Value} {y:Int},IsErr w v l y→IsErr w' v l y:=by
  intro l
  induction l with
  | nil=>intro v y h;exact h
  | cons a2 r ih=>
   intro v y h
   obtain ⟨a,a3,rfl,d,a4⟩:=h;exact ⟨a,a3,rfl,n a _ _ _ d (by decide),ih a4⟩
 refine ⟨R,S,V,W,Y,h.hb,n P _ _ _ h.blk (by decide),?_,?_,?_,?_,?_,h.etb,h.len,h.ii,h.dd,h.el,h.sl,?_,?_⟩
 ·exact ((h.ownS.re z).keep' (fun g cur f=>q g cur (fun e=>f (.inl e))) (fun g cur _ j=>n g _ _ _ j (by decide))).re fun k c=>.inl (.inr c)
 ·exact ((h.ownE.re z).keep' (fun g cur f=>q g cur (fun e=>f (.inl e))) (fun g cur _ j=>n g _ _ _ j (by decide))).re fun k c=>.inl (.inr c)
 ·have m:=h.err
  cases d:s.err with
  | none=>rw [d] at m;exact m
  | some x=>rw [d] at m;exact a1 m
 ·exact h.toks.keep fun a2 a5=>World.cell?_of_block (F _ a5)
 ·have m:=h.ety;unfold ETyped at m ⊢;rw [←m];exact World.cell?_of_block (F _ h.etb)
 ·intro k c
  rcases c with c | c
  ·exact Kae (h.xx k (.inl c)) p.size
  ·exact (N.lt k c).2
 ·obtain ⟨a6,a7,a8⟩:=h.sep;have H:∀ (Q:Nat→Prop) k,((XA X A k∨XA X i k)∨Q k)→(XA X A k∨Q k)∨w.heap.size≤k:=fun Q k c=>c.elim (fun x=>(z k x).imp_left .inl) (fun x=>.inl (.inr x))
  exact ⟨a6,((a7.re (H _)).keep' (fun g cur f=>q g cur (fun e=>f (.inl (.inl e)))) (fun g cur _ j=>n g _ _ _ j (by decide))).re fun k c=>.inl (c.elim (fun x=>.inl (.inr x)) .inr),
   ((a8.re (H _)).keep' (fun g cur f=>q g cur (fun e=>f (.inl (.inl e)))) (fun g cur _ j=>n g _ _ _ j (by decide))).re fun k c=>.inl (c.elim (fun x=>.inl (.inr x)) .inr)⟩
theorem PM.errc {w:World} (h:PM X base P TA tc L s w):∃ ev,w.cell? ⟨P,5,none⟩=some ev∧(s.err=none→ev=.nilIface)∧(s.err≠none→∃ t x,ev=.iface t x):=by
 obtain ⟨_,_,_,_,ev,h⟩:=h;exact ⟨ev,h.c5,h.noErr,h.anErr⟩
theorem tcell {a w:World} {g kd c d:Nat} {e:ByteArray} (T:a.heap[g]?=some (.cells #[.int .i64 kd,.string e,.int .u64 c,.int .i64 d] 155 (0,0))) (h:KT base a w):
  w.cell? ⟨g,0,none⟩=some (.int .i64 kd)∧w.cell? ⟨g,1,none⟩=some (.string e)∧w.cell? ⟨g,2,none⟩=some (.int .u64 c)∧w.cell? ⟨g,3,none⟩=some (.int .i64 d):=by
 have b:=h.block g _ T (.inr ⟨by decide,by decide⟩)
 exact ⟨Kaa 0 b,Kaa 1 b,Kaa 2 b,Kaa 3 b⟩
theorem sOpen:tOpen.toList=[40]:=by unfold tOpen;rw [ByteArray.toList_eq]
theorem ZdX (t:Tok) (h:(callP t).2≠0):t.text.toList≠tOpen.toList:=by
 intro e
 apply h;unfold callP;rw [e,sOpen,sRelu,sSum,Zjy,sMax,sMux];split <;> rfl
def ZnA (X:Nat→Prop) (base P:Nat) (TA:Option Addr) (tc:Nat) (L:List Tok) (f n:Nat) (wa:World) (R:PS × List Nat) (av iv:Value) (wr:World):Prop:=
 ∃ (f' j:Nat) (s':PS) (l:List Nat) (A:Option Addr) (cap:Nat),f'≤f∧j≤n∧iv=.int .i64 j∧av=.slice A j cap∧l.length=j∧R=argsP L f' (n-j) s' l∧PM (XA X A) base P TA tc L s' wr∧Own wr wa.heap.size 3 A cap (l.map I64)∧KT base wa wr∧12*(L.length-s'.i)+7+(n-j)≤f'
theorem Zlr (f:Nat) (p:∀ f',f'≤f→AllW base P TA tc L f') (w:World) (s:PS) (h:PM X base P TA tc L s w) (O:12*(L.length-s.i)+1≤f+1) (x:Nat × Nat) (k:s.err=some x):
  Calls Tryz.prog 218 #[PP P] w (ZaR X base P TA tc L w (atomP L (f+1) s)):=by
 obtain ⟨Q,R,S,V⟩:=h.el;obtain ⟨kd,a,b,c,q⟩:∃ kd a b c,nowP L s=⟨kd,a,b,c⟩:=⟨_,_,_,_,rfl⟩;have E:=Kz q;have H:=Kz h;have W:=Kz p;obtain ⟨r,l,g⟩:∃ r l,callP ⟨kd,a,b,c⟩=(r,l):=⟨_,_,rfl⟩;have Y:l≤3:=by
  rcases ZaY ⟨kd,a,b,c⟩ with h | h | h | h | h | h <;> rw [g] at h <;> injection h <;> omega
 have Z:=Kz g;have m:=Zb6 ⟨kd,a,b,c⟩;rw [g] at m;have F:=Kz m;clear p h q g m;have v:=Kz (show atomP L (f+1) s=(s,0) from by rw [atomP];simp only [k];rfl)
 go_enter Tryz.func218,Tryz.ntmps218
 go_wp2_with fail
 refine (Za7 w H.o E.o).mono ?_
 rintro e w1 ⟨rfl,y,z,I⟩
 go_wp2_with fail
 obtain ⟨j,d⟩:=Ky (w1.alloc (.cells #[.int .i64 kd,.string a,.int .u64 b,.int .i64 c] 155));rw [←d];have T:=Kz (show j.heap[w1.heap.size]?=some (.cells #[.int .i64 kd,.string a,.int .u64 b,.int .i64 c] 155 (0,0)) from by rw [d];exact Kac _ _)
 have J:=Kz (show PM X base P TA tc L s j from by rw [d];exact y.below (Zai w1 _))
 have M:=Kz (show KT base w j from by rw [d];exact z.trans (KT.below (Zai w1 _)))
 clear d y z I;refine (F.o j).mono ?_
 rintro e w2 ⟨rfl,n⟩
 have B:=Kz (J.o.below n);have C:=Kz (KT.below (base:=base) n);obtain ⟨t0,t1,t2,t3⟩:=tcell T.o C.o;obtain ⟨a0,c5,N,D⟩:=B.o.errc;clear n;obtain ⟨a1,a2,rfl⟩:=D (by rw [k];simp)
 clear N D k
 go_wp2
 go_ret;exact ⟨by rw [v.o];rfl,by rw [v.o];exact B.o,M.o.trans C.o⟩
theorem Zls (f:Nat) (z:∀ f',f'≤f→AllW base P TA tc L f') (w:World) (s:PS) (h:PM X base P TA tc L s w) (a5:12*(L.length-s.i)+1≤f+1) (B:s.err=none) (l:(nowP L s).kind=2):
  Calls Tryz.prog 218 #[PP P] w (ZaR X base P TA tc L w (atomP L (f+1) s)):=by
 obtain ⟨a6,a7,a8,a9⟩:=h.el;obtain ⟨kd,c,a,b,m⟩:∃ kd c a b,nowP L s=⟨kd,c,a,b⟩:=⟨_,_,_,_,rfl⟩;have n:=Kz m;have H:=Kz h;have b0:=Kz z;obtain ⟨C,p,g⟩:∃ C p,callP ⟨kd,c,a,b⟩=(C,p):=⟨_,_,rfl⟩;have b2:p≤3:=by
  rcases ZaY ⟨kd,c,a,b⟩ with h | h | h | h | h | h <;> rw [g] at h <;> injection h <;> omega
 have b3:=Kz g;have q:=Zb6 ⟨kd,c,a,b⟩;rw [g] at q;have W:=Kz q;have D:=Kz B;rw [m] at l;have Y:kd=2:=l;have q2:((kd:Int)==2)=true:=by rw [beq_iff_eq];omega
 have Z:Hd ((kd==2)=true):=by show (kd==2)=true;rw [beq_iff_eq];omega
 have q1:((kd:Int)==1)=false:=by rw [Kaj];omega
 have Q1:Hd ((kd==1)=false):=by show (kd==1)=false;rw [Kaj];omega
 have a0:s.i<L.length:=ZbX (by rw [n.o];show kd≠0;omega)
 obtain ⟨r,v,x⟩:∃ r v,putP (advP s) ⟨1,noB,a,[],b⟩=(r,v):=⟨_,_,rfl⟩;have E:=Kz (show atomP L (f+1) s=(r,v) from by rw [atomP];simp only [D.o,n.o,Z.o,Q1.o,x];rfl)
 have a1:=Kz x;clear x B l Y;clear z h m g q
 go_enter Tryz.func218,Tryz.ntmps218
 go_wp2_with fail
 refine (Za7 w H.o n.o).mono ?_
 rintro e w1 ⟨rfl,F,I,b1⟩
 go_wp2_with fail
 obtain ⟨j,d⟩:=Ky (w1.alloc (.cells #[.int .i64 kd,.string c,.int .u64 a,.int .i64 b] 155));rw [←d];have T:=Kz (show j.heap[w1.heap.size]?=some (.cells #[.int .i64 kd,.string c,.int .u64 a,.int .i64 b] 155 (0,0)) from by rw [d];exact Kac _ _)
 have a2:=Kz (show PM X base P TA tc L s j from by rw [d];exact F.below (Zai w1 _))
 have a3:=Kz (show KT base w j from by rw [d];exact I.trans (KT.below (Zai w1 _)))
 clear d F I b1;refine (W.o j).mono ?_
 rintro e w2 ⟨rfl,y⟩
 have J:=Kz (a2.o.below y);have M:=Kz (KT.below (base:=base) y);obtain ⟨t0,t1,t2,t3⟩:=tcell T.o M.o;obtain ⟨b4,c5,N,a4⟩:=J.o.errc;clear y;obtain rfl:=N D.o;clear N a4;obtain ⟨c1,y1,O,Q⟩:=J.o.adv a0;have H3:=Kz O;have R:=Kz (M.o.trans Q);clear O Q;obtain ⟨u0,u1,u2,u3⟩:=tcell T.o R.o;have k:=Zcy _ ⟨1,noB,a,[],b⟩ (.slice none 0 0) (ZcZ H3.o) (ArgsV.nil _ _ _) (by show s.es.length+1≤s.i+1;omega)
 rw [a1.o] at k;have k:=Kz k
 go_wp2_with fail
 refine k.o.mono ?_
 rintro e b5 ⟨rfl,S,V⟩
 have H9:=Kz S;have K9:=Kz ((a3.o.trans R.o).trans V);clear S V
 go_wp2
 go_ret;exact ⟨by rw [E.o];rfl,by rw [E.o];exact H9.o,K9.o⟩
theorem Zj2 (f:Nat) (z:∀ f',f'≤f→AllW base P TA tc L f') (w:World) (s:PS) (h:PM X base P TA tc L s w) (a5:12*(L.length-s.i)+1≤f+1) (B:s.err=none) (l:(nowP L s).kind=1):
  Calls Tryz.prog 218 #[PP P] w (ZaR X base P TA tc L w (atomP L (f+1) s)):=by
 obtain ⟨a6,a7,a8,a9⟩:=h.el;obtain ⟨kd,a,c,b,m⟩:∃ kd a c b,nowP L s=⟨kd,a,c,b⟩:=⟨_,_,_,_,rfl⟩;have n:=Kz m;have H:=Kz h;have b0:=Kz z;obtain ⟨C,p,g⟩:∃ C p,callP ⟨kd,a,c,b⟩=(C,p):=⟨_,_,rfl⟩;have b2:p≤3:=by
  rcases ZaY ⟨kd,a,c,b⟩ with h | h | h | h | h | h <;> rw [g] at h <;> injection h <;> omega
 have b3:=Kz g;have q:=Zb6 ⟨kd,a,c,b⟩;rw [g] at q;have W:=Kz q;have D:=Kz B;rw [m] at l;have Y:kd=1:=l;have q2:((kd:Int)==2)=false:=by rw [Kaj];omega
 have Z:Hd ((kd==2)=false):=by show (kd==2)=false;rw [Kaj];omega
 have q1:((kd:Int)==1)=true:=by rw [beq_iff_eq];omega
 have Q1:Hd ((kd==1)=true):=by show (kd==1)=true;rw [beq_iff_eq];omega
 have a0:s.i<L.length:=ZbX (by rw [n.o];show kd≠0;omega)
 obtain ⟨r,v,x⟩:∃ r v,putP (advP s) ⟨2,a,0,[],b⟩=(r,v):=⟨_,_,rfl⟩;have E:=Kz (show atomP L (f+1) s=(r,v) from by rw [atomP];simp only [D.o,n.o,Z.o,Q1.o,x];rfl)
 have a1:=Kz x;clear x B l Y;clear z h m g q
 go_enter Tryz.func218,Tryz.ntmps218
 go_wp2_with fail
 refine (Za7 w H.o n.o).mono ?_
 rintro e w1 ⟨rfl,F,I,b1⟩
 go_wp2_with fail
 obtain ⟨j,d⟩:=Ky (w1.alloc (.cells #[.int .i64 kd,.string a,.int .u64 c,.int .i64 b] 155));rw [←d];have T:=Kz (show j.heap[w1.heap.size]?=some (.cells #[.int .i64 kd,.string a,.int .u64 c,.int .i64 b] 155 (0,0)) from by rw [d];exact Kac _ _)
 have a2:=Kz (show PM X base P TA tc L s j from by rw [d];exact F.below (Zai w1 _))
 have a3:=Kz (show KT base w j from by rw [d];exact I.trans (KT.below (Zai w1 _)))
 clear d F I b1;refine (W.o j).mono ?_
 rintro e w2 ⟨rfl,y⟩
 have J:=Kz (a2.o.below y);have M:=Kz (KT.below (base:=base) y);obtain ⟨t0,t1,t2,t3⟩:=tcell T.o M.o;obtain ⟨b4,c5,N,a4⟩:=J.o.errc;clear y;obtain rfl:=N D.o;clear N a4;obtain ⟨c1,y1,O,Q⟩:=J.o.adv a0;have H3:=Kz O;have R:=Kz (M.o.trans Q);clear O Q;obtain ⟨u0,u1,u2,u3⟩:=tcell T.o R.o;have k:=Zcy _ ⟨2,a,0,[],b⟩ (.slice none 0 0) (ZcZ H3.o) (ArgsV.nil _ _ _) (by show s.es.length+1≤s.i+1;omega)
 rw [a1.o] at k;have k:=Kz k
 go_wp2_with fail
 refine k.o.mono ?_
 rintro e b5 ⟨rfl,S,V⟩
 have H9:=Kz S;have K9:=Kz ((a3.o.trans R.o).trans V);clear S V
 go_wp2
 go_ret;exact ⟨by rw [E.o];rfl,by rw [E.o];exact H9.o,K9.o⟩
theorem Zho (f:Nat) (B:∀ f',f'≤f→AllW base P TA tc L f') (w:World) (s:PS) (h:PM X base P TA tc L s w) (a2:12*(L.length-s.i)+1≤f+1) (C:s.err=none) (n:(nowP L s).kind≠2) (b:(nowP L s).kind≠1) (v:isP L s tOpen=false) (p:(callP (nowP L s)).2=0):
  Calls Tryz.prog 218 #[PP P] w (ZaR X base P TA tc L w (atomP L (f+1) s)):=by
 obtain ⟨a3,a4,a5,a6⟩:=h.el;obtain ⟨kd,c,d,a,q⟩:∃ kd c d a,nowP L s=⟨kd,c,d,a⟩:=⟨_,_,_,_,rfl⟩;have D:=Kz q;have H:=Kz h;have a7:=Kz B;obtain ⟨x,g,j⟩:∃ x g,callP ⟨kd,c,d,a⟩=(x,g):=⟨_,_,rfl⟩;have a8:g≤3:=by
  rcases ZaY ⟨kd,c,d,a⟩ with h | h | h | h | h | h <;> rw [j] at h <;> injection h <;> omega
 have O:=Kz j;have y:=Zb6 ⟨kd,c,d,a⟩;rw [j] at y;have Q:=Kz y;have E:=Kz C;rw [q] at n b;have q2:((kd:Int)==2)=false:=by rw [Kaj];dsimp only at n;omega
 have R:Hd ((kd==2)=false):=by show (kd==2)=false;rw [Kaj];exact n
 have q1:((kd:Int)==1)=false:=by rw [Kaj];dsimp only at b;omega
 have S:Hd ((kd==1)=false):=by show (kd==1)=false;rw [Kaj];exact b
 have V:=Kz (show atomP L (f+1) s=(if (!isP L s tOpen)&&(g==0) then (failP L s 130,0) else
   if (sinkP L s).2 then
    if g==0 then (riseP (wantP L (exprP L f (advP (sinkP L s).1)).1 tShut),(exprP L f (advP (sinkP L s).1)).2)
    else putP (riseP (wantP L (argsP L f g (wantP L (advP (sinkP L s).1) tOpen) []).1 tShut)) ⟨x,noB,0,(argsP L f g (wantP L (advP (sinkP L s).1) tOpen) []).2,a⟩
   else ((sinkP L s).1,0)) from by rw [atomP];simp only [E.o,D.o,S.o,R.o,O.o];rfl)
 clear C n b;rw [q,j] at p;dsimp only at p;have F:=Kz (show atomP L (f+1) s=(failP L s 130,0) from by rw [V.o,v,p];rfl)
 have W:=Kz v;subst p;clear v;clear B h q j y
 go_enter Tryz.func218,Tryz.ntmps218
 go_wp2_with fail
 refine (Za7 w H.o D.o).mono ?_
 rintro e w1 ⟨rfl,b,I,Y⟩
 go_wp2_with fail
 obtain ⟨r,k⟩:=Ky (w1.alloc (.cells #[.int .i64 kd,.string c,.int .u64 d,.int .i64 a] 155));rw [←k];have T:=Kz (show r.heap[w1.heap.size]?=some (.cells #[.int .i64 kd,.string c,.int .u64 d,.int .i64 a] 155 (0,0)) from by rw [k];exact Kac _ _)
 have Z:=Kz (show PM X base P TA tc L s r from by rw [k];exact b.below (Zai w1 _))
 have a0:=Kz (show KT base w r from by rw [k];exact I.trans (KT.below (Zai w1 _)))
 clear k b I Y;refine (Q.o r).mono ?_
 rintro e w2 ⟨rfl,z⟩
 have J:=Kz (Z.o.below z);have M:=Kz (KT.below (base:=base) z);obtain ⟨t0,t1,t2,t3⟩:=tcell T.o M.o;obtain ⟨a9,c5,N,a1⟩:=J.o.errc;clear z;obtain rfl:=N E.o;clear N a1
 go_wp2_with fail
 refine (is_pm _ J.o tOpen W.o).mono ?_
 rintro e w3 ⟨rfl,l,m⟩
 have H3:=Kz l;have K3:=Kz (M.o.trans m);clear l m
 go_wp2_with fail
 refine (Zg6 w3 H3.o 130).mono ?_
 rintro e w4 ⟨⟨b0,rfl⟩,l,m⟩
 have H4:=Kz l;have K4:=Kz (K3.o.trans m);clear l m
 go_wp2
 go_ret;exact ⟨by rw [F.o];rfl,by rw [F.o];exact H4.o,a0.o.trans K4.o⟩
theorem ZhU (f:Nat) (D:∀ f',f'≤f→AllW base P TA tc L f') (w:World) (s:PS) (h:PM X base P TA tc L s w) (a7:12*(L.length-s.i)+1≤f+1) (E:s.err=none) (n:(nowP L s).kind≠2) (g:(nowP L s).kind≠1) (j:isP L s tOpen=true) (F:(sinkP L s).2=false):
  Calls Tryz.prog 218 #[PP P] w (ZaR X base P TA tc L w (atomP L (f+1) s)):=by
 obtain ⟨a8,a9,b0,b2⟩:=h.el;obtain ⟨kd,c,d,a,r⟩:∃ kd c d a,nowP L s=⟨kd,c,d,a⟩:=⟨_,_,_,_,rfl⟩;have v:=Kz r;have H:=Kz h;have b3:=Kz D;obtain ⟨x,b,p⟩:∃ x b,callP ⟨kd,c,d,a⟩=(x,b):=⟨_,_,rfl⟩;have b4:b≤3:=by
  rcases ZaY ⟨kd,c,d,a⟩ with h | h | h | h | h | h <;> rw [p] at h <;> injection h <;> omega
 have I:=Kz p;have y:=Zb6 ⟨kd,c,d,a⟩;rw [p] at y;have V:=Kz y;have J:=Kz E;rw [r] at n g;have q2:((kd:Int)==2)=false:=by rw [Kaj];dsimp only at n;omega
 have W:Hd ((kd==2)=false):=by show (kd==2)=false;rw [Kaj];exact n
 have q1:((kd:Int)==1)=false:=by rw [Kaj];dsimp only at g;omega
 have Y:Hd ((kd==1)=false):=by show (kd==1)=false;rw [Kaj];exact g
 have Z:=Kz (show atomP L (f+1) s=(if (!isP L s tOpen)&&(b==0) then (failP L s 130,0) else
   if (sinkP L s).2 then
    if b==0 then (riseP (wantP L (exprP L f (advP (sinkP L s).1)).1 tShut),(exprP L f (advP (sinkP L s).1)).2)
    else putP (riseP (wantP L (argsP L f b (wantP L (advP (sinkP L s).1) tOpen) []).1 tShut)) ⟨x,noB,0,(argsP L f b (wantP L (advP (sinkP L s).1) tOpen) []).2,a⟩
   else ((sinkP L s).1,0)) from by rw [atomP];simp only [J.o,v.o,Y.o,W.o,I.o];rfl)
 clear E n g;have b5:=ZaD j;have a0:b=0:=by
  by_cases M:b=0
  ·exact M
  ·exact absurd (by have:=(Zfg j).2.2;rw [v.o] at this;exact this) (ZdX ⟨kd,c,d,a⟩ (by rw [I.o];exact M))
 subst a0;have N:=Kz (Z.o);rw [j] at N;have a1:=Kz j;clear j;obtain ⟨z,B⟩:∃ z,sinkP L s=(z,false):=⟨_,by rw [←F]⟩
 have O:=Kz (show atomP L (f+1) s=(z,0) from by rw [N.o];simp only [B];rfl)
 have a2:=Kz B;clear B F;clear D h r p y
 go_enter Tryz.func218,Tryz.ntmps218
 go_wp2_with fail
 refine (Za7 w H.o v.o).mono ?_
 rintro e w1 ⟨rfl,g,Q,b1⟩
 go_wp2_with fail
 obtain ⟨q,k⟩:=Ky (w1.alloc (.cells #[.int .i64 kd,.string c,.int .u64 d,.int .i64 a] 155));rw [←k];have a3:=Kz (show q.heap[w1.heap.size]?=some (.cells #[.int .i64 kd,.string c,.int .u64 d,.int .i64 a] 155 (0,0)) from by rw [k];exact Kac _ _)
 have a4:=Kz (show PM X base P TA tc L s q from by rw [k];exact g.below (Zai w1 _))
 have a5:=Kz (show KT base w q from by rw [k];exact Q.trans (KT.below (Zai w1 _)))
 clear k g Q b1;refine (V.o q).mono ?_
 rintro e w2 ⟨rfl,C⟩
 have R:=Kz (a4.o.below C);have S:=Kz (KT.below (base:=base) C);obtain ⟨t0,t1,t2,t3⟩:=tcell a3.o S.o;obtain ⟨b6,c5,T,a6⟩:=R.o.errc;clear C;obtain rfl:=T J.o;clear T a6
 go_wp2_with fail
 refine (is_pm _ R.o tOpen a1.o).mono ?_
 rintro e w3 ⟨rfl,l,m⟩
 have H3:=Kz l;have K3:=Kz (S.o.trans m);clear l m
 go_wp2_with fail
 refine (Zdn w3 H3.o a2.o).mono ?_
 rintro e w4 ⟨rfl,l,m⟩
 have H4:=Kz l;have K4:=Kz (K3.o.trans m);clear l m
 go_wp2
 go_ret;exact ⟨by rw [O.o];rfl,by rw [O.o];exact H4.o,a5.o.trans K4.o⟩
theorem ZhV (f:Nat) (D:∀ f',f'≤f→AllW base P TA tc L f') (w:World) (s:PS) (h:PM X base P TA tc L s w) (a7:12*(L.length-s.i)+1≤f+1) (E:s.err=none) (q:(nowP L s).kind≠2) (c:(nowP L s).kind≠1) (v:isP L s tOpen=false) (k:(callP (nowP L s)).2≠0) (F:(sinkP L s).2=false):
  Calls Tryz.prog 218 #[PP P] w (ZaR X base P TA tc L w (atomP L (f+1) s)):=by
 obtain ⟨a8,a9,b0,b2⟩:=h.el;obtain ⟨kd,d,g,b,j⟩:∃ kd d g b,nowP L s=⟨kd,d,g,b⟩:=⟨_,_,_,_,rfl⟩;have I:=Kz j;have H:=Kz h;have b3:=Kz D;obtain ⟨x,a,l⟩:∃ x a,callP ⟨kd,d,g,b⟩=(x,a):=⟨_,_,rfl⟩;have b4:a≤3:=by
  rcases ZaY ⟨kd,d,g,b⟩ with h | h | h | h | h | h <;> rw [l] at h <;> injection h <;> omega
 have W:=Kz l;have y:=Zb6 ⟨kd,d,g,b⟩;rw [l] at y;have Y:=Kz y;have J:=Kz E;rw [j] at q c;have q2:((kd:Int)==2)=false:=by rw [Kaj];dsimp only at q;omega
 have Z:Hd ((kd==2)=false):=by show (kd==2)=false;rw [Kaj];exact q
 have q1:((kd:Int)==1)=false:=by rw [Kaj];dsimp only at c;omega
 have Q1:Hd ((kd==1)=false):=by show (kd==1)=false;rw [Kaj];exact c
 have a0:=Kz (show atomP L (f+1) s=(if (!isP L s tOpen)&&(a==0) then (failP L s 130,0) else
   if (sinkP L s).2 then
    if a==0 then (riseP (wantP L (exprP L f (advP (sinkP L s).1)).1 tShut),(exprP L f (advP (sinkP L s).1)).2)
    else putP (riseP (wantP L (argsP L f a (wantP L (advP (sinkP L s).1) tOpen) []).1 tShut)) ⟨x,noB,0,(argsP L f a (wantP L (advP (sinkP L s).1) tOpen) []).2,b⟩
   else ((sinkP L s).1,0)) from by rw [atomP];simp only [J.o,I.o,Q1.o,Z.o,W.o];rfl)
 clear E q c;have b5:s.i<L.length:=ZbX (by
  rw [j]
  intro M
  dsimp only at M;subst M;exact k (by rw [j];rfl))
 rw [j,l] at k;dsimp only at k;have b6:((a:Int)==0)=false:=by rw [Kaj];omega
 have N:(a==0)=false:=by rw [Kaj];exact k
 have O:=Kz (a0.o);rw [v,N] at O;have a1:=Kz v;have b7:1≤a:=by omega
 clear v k N;obtain ⟨z,B⟩:∃ z,sinkP L s=(z,false):=⟨_,by rw [←F]⟩
 have Q:=Kz (show atomP L (f+1) s=(z,0) from by rw [O.o];simp only [B];rfl)
 have a2:=Kz B;clear B F;clear D h j l y
 go_enter Tryz.func218,Tryz.ntmps218
 go_wp2_with fail
 refine (Za7 w H.o I.o).mono ?_
 rintro e w1 ⟨rfl,c,R,b1⟩
 go_wp2_with fail
 obtain ⟨r,m⟩:=Ky (w1.alloc (.cells #[.int .i64 kd,.string d,.int .u64 g,.int .i64 b] 155));rw [←m];have a3:=Kz (show r.heap[w1.heap.size]?=some (.cells #[.int .i64 kd,.string d,.int .u64 g,.int .i64 b] 155 (0,0)) from by rw [m];exact Kac _ _)
 have a4:=Kz (show PM X base P TA tc L s r from by rw [m];exact c.below (Zai w1 _))
 have a5:=Kz (show KT base w r from by rw [m];exact R.trans (KT.below (Zai w1 _)))
 clear m c R b1;refine (Y.o r).mono ?_
 rintro e w2 ⟨rfl,C⟩
 have S:=Kz (a4.o.below C);have T:=Kz (KT.below (base:=base) C);obtain ⟨t0,t1,t2,t3⟩:=tcell a3.o T.o;obtain ⟨b8,c5,V,a6⟩:=S.o.errc;clear C;obtain rfl:=V J.o;clear V a6
 go_wp2_with fail
 refine (is_pm _ S.o tOpen a1.o).mono ?_
 rintro e w3 ⟨rfl,n,p⟩
 have H3:=Kz n;have K3:=Kz (T.o.trans p);clear n p
 go_wp2_with fail
 refine (Zdn w3 H3.o a2.o).mono ?_
 rintro e w4 ⟨rfl,n,p⟩
 have H4:=Kz n;have K4:=Kz (K3.o.trans p);clear n p
 go_wp2
 go_ret;exact ⟨by rw [Q.o];rfl,by rw [Q.o];exact H4.o,a5.o.trans K4.o⟩
theorem ZhW (f:Nat) (T:∀ f',f'≤f→AllW base P TA tc L f') (w:World) (s:PS) (h:PM X base P TA tc L s w) (d1:12*(L.length-s.i)+1≤f+1) (V:s.err=none) (y:(nowP L s).kind≠2) (l:(nowP L s).kind≠1) (r:isP L s tOpen=true) (W:(sinkP L s).2=true):
  Calls Tryz.prog 218 #[PP P] w (ZaR X base P TA tc L w (atomP L (f+1) s)):=by
 obtain ⟨d2,d3,d4,d5⟩:=h.el;obtain ⟨kd,j,k,d,F⟩:∃ kd j k d,nowP L s=⟨kd,j,k,d⟩:=⟨_,_,_,_,rfl⟩;have H:=Kz F;have a6:=Kz h;have a7:=Kz T;obtain ⟨I,g,z⟩:∃ I g,callP ⟨kd,j,k,d⟩=(I,g):=⟨_,_,rfl⟩;have d6:g≤3:=by
  rcases ZaY ⟨kd,j,k,d⟩ with h | h | h | h | h | h <;> rw [z] at h <;> injection h <;> omega
 have Y:=Kz z;have J:=Zb6 ⟨kd,j,k,d⟩;rw [z] at J;have a8:=Kz J;have Z:=Kz V;rw [F] at y l;have q2:((kd:Int)==2)=false:=by rw [Kaj];dsimp only at y;omega
 have Q2:Hd ((kd==2)=false):=by show (kd==2)=false;rw [Kaj];exact y
 have q1:((kd:Int)==1)=false:=by rw [Kaj];dsimp only at l;omega
 have Q1:Hd ((kd==1)=false):=by show (kd==1)=false;rw [Kaj];exact l
 have a9:=Kz (show atomP L (f+1) s=(if (!isP L s tOpen)&&(g==0) then (failP L s 130,0) else
   if (sinkP L s).2 then
    if g==0 then (riseP (wantP L (exprP L f (advP (sinkP L s).1)).1 tShut),(exprP L f (advP (sinkP L s).1)).2)
    else putP (riseP (wantP L (argsP L f g (wantP L (advP (sinkP L s).1) tOpen) []).1 tShut)) ⟨I,noB,0,(argsP L f g (wantP L (advP (sinkP L s).1) tOpen) []).2,d⟩
   else ((sinkP L s).1,0)) from by rw [atomP];simp only [Z.o,H.o,Q1.o,Q2.o,Y.o];rfl)
 clear V y l;have d7:=ZaD r;have b0:g=0:=by
  by_cases a0:g=0
  ·exact a0
  ·exact absurd (by have:=(Zfg r).2.2;rw [H.o] at this;exact this) (ZdX ⟨kd,j,k,d⟩ (by rw [Y.o];exact a0))
 subst b0;have a1:=Kz (a9.o);rw [r] at a1;have b2:=Kz r;clear r;clear T h F z J;obtain ⟨a,v⟩:∃ a,sinkP L s=(a,true):=⟨_,by rw [←W]⟩
 clear W;obtain ⟨b3,M⟩:=Zck (show (sinkP L s).2=true by rw [v])
 rw [v] at M;have B:a={ s with deep:=s.deep+1 }:=M
 have b4:a.i=s.i:=by rw [B]
 have b5:a.es=s.es:=by rw [B]
 have h7:a.deep=s.deep+1:=by rw [B]
 have b6:a.i<L.length:=by omega
 have N:=(allG L f).expr (advP a);have a2:=Kz (fun a3 (b7:PM X base P TA tc L _ a3)=>(a7.o f (Kag _)).expr a3 (advP a) b7 (by show 12*(L.length-(a.i+1))+6≤f;omega))
 obtain ⟨m,O,Q⟩:∃ m O,exprP L f (advP a)=(m,O):=⟨_,_,rfl⟩;rw [Q] at N a2;have h6:m.deep=a.deep:=N.hd;have R:=G.want (L:=L) m tShut;obtain ⟨n,C⟩:∃ n,wantP L m tShut=n:=⟨_,rfl⟩;rw [C] at R;have h8:n.deep=m.deep:=R.hd;have b8:1≤n.deep:=by omega
 have d8:n.deep≤32:=by omega
 have a4:=Kz (show atomP L (f+1) s=(riseP n,O) from by rw [a1.o];simp only [v,Q,C];rfl)
 have b9:=Kz v;have c6:=Kz C;clear v M B N Q h6 h7 h8 R b3 b5 C
 go_enter Tryz.func218,Tryz.ntmps218
 go_wp2_with fail
 refine (Za7 w a6.o H.o).mono ?_
 rintro e w1 ⟨rfl,l,k1,b1⟩
 go_wp2_with fail
 obtain ⟨D,x⟩:=Ky (w1.alloc (.cells #[.int .i64 kd,.string j,.int .u64 k,.int .i64 d] 155));rw [←x];have c7:=Kz (show D.heap[w1.heap.size]?=some (.cells #[.int .i64 kd,.string j,.int .u64 k,.int .i64 d] 155 (0,0)) from by rw [x];exact Kac _ _)
 have c8:=Kz (show PM X base P TA tc L s D from by rw [x];exact l.below (Zai w1 _))
 have c9:=Kz (show KT base w D from by rw [x];exact k1.trans (KT.below (Zai w1 _)))
 clear x l k1 b1;refine (a8.o D).mono ?_
 rintro e w2 ⟨rfl,S⟩
 have H2:=Kz (c8.o.below S);have K2:=Kz (KT.below (base:=base) S);obtain ⟨t0,t1,t2,t3⟩:=tcell c7.o K2.o;obtain ⟨d9,c5,a5,d0⟩:=H2.o.errc;clear S;obtain rfl:=a5 Z.o;clear a5 d0
 go_wp2_with fail
 refine (is_pm _ H2.o tOpen b2.o).mono ?_
 rintro e w3 ⟨rfl,b,c⟩
 have H3:=Kz b;have K3:=Kz (K2.o.trans c);clear b c
 go_wp2_with fail
 refine (Zdn w3 H3.o b9.o).mono ?_
 rintro e w4 ⟨rfl,b,c⟩
 have H4:=Kz b;have K4:=Kz (K3.o.trans c);clear b c;obtain ⟨c1,y1,p,q⟩:=H4.o.adv b6;rw [b4] at c1 p q;have H5:=Kz p;have K5:=Kz (K4.o.trans q);clear p q
 go_wp2_with fail
 refine (a2.o _ H5.o).mono ?_
 rintro e w6 ⟨rfl,b,c⟩
 have H6:=Kz b;have K6:=Kz (K5.o.trans c);clear b c;have E:=Zbp w6 H6.o tShut;rw [c6.o] at E;have E:=Kz E
 go_wp2_with fail
 refine (E.o).mono ?_
 rintro e e0 ⟨⟨e1,rfl⟩,b,c⟩
 have H7:=Kz b;have K7:=Kz (K6.o.trans c);clear b c;obtain ⟨c4,y4,p,q⟩:=H7.o.rise b8;have H8:=Kz p;have K8:=Kz (K7.o.trans q);clear p q
 go_wp2
 go_ret;exact ⟨by rw [a4.o];rfl,by rw [a4.o];exact H8.o,c9.o.trans K8.o⟩
theorem Zj3 (f:Nat) (f0:∀ d,d≤f→AllW base P TA tc L d) (w:World) (s:PS) (h:PM X base P TA tc L s w) (k8:12*(L.length-s.i)+1≤f+1) (f1:s.err=none) (T:(nowP L s).kind≠2) (A:(nowP L s).kind≠1) (c8:isP L s tOpen=false) (V:(callP (nowP L s)).2≠0) (f2:(sinkP L s).2=true):
  Calls Tryz.prog 218 #[PP P] w (ZaR X base P TA tc L w (atomP L (f+1) s)):=by
 obtain ⟨k9,l0,l1,l2⟩:=h.el;obtain ⟨kd,C,D,v,O⟩:∃ kd C D v,nowP L s=⟨kd,C,D,v⟩:=⟨_,_,_,_,rfl⟩;have f3:=Kz O;have h8:=Kz h;have h9:=Kz f0;obtain ⟨W,c,Y⟩:∃ W c,callP ⟨kd,C,D,v⟩=(W,c):=⟨_,_,rfl⟩;have l3:c≤3:=by
  rcases ZaY ⟨kd,C,D,v⟩ with h | h | h | h | h | h <;> rw [Y] at h <;> injection h <;> omega
 have i0:=Kz Y;have c9:=Zb6 ⟨kd,C,D,v⟩;rw [Y] at c9;have i1:=Kz c9;have f4:=Kz f1;rw [O] at T A;have q2:((kd:Int)==2)=false:=by rw [Kaj];dsimp only at T;omega
 have Q2:Hd ((kd==2)=false):=by show (kd==2)=false;rw [Kaj];exact T
 have q1:((kd:Int)==1)=false:=by rw [Kaj];dsimp only at A;omega
 have Q1:Hd ((kd==1)=false):=by show (kd==1)=false;rw [Kaj];exact A
 have i2:=Kz (show atomP L (f+1) s=(if (!isP L s tOpen)&&(c==0) then (failP L s 130,0) else
   if (sinkP L s).2 then
    if c==0 then (riseP (wantP L (exprP L f (advP (sinkP L s).1)).1 tShut),(exprP L f (advP (sinkP L s).1)).2)
    else putP (riseP (wantP L (argsP L f c (wantP L (advP (sinkP L s).1) tOpen) []).1 tShut)) ⟨W,noB,0,(argsP L f c (wantP L (advP (sinkP L s).1) tOpen) []).2,v⟩
   else ((sinkP L s).1,0)) from by rw [atomP];simp only [f4.o,f3.o,Q1.o,Q2.o,i0.o];rfl)
 clear f1 T A;have l4:s.i<L.length:=ZbX (by
  rw [O]
  intro h0
  dsimp only at h0;subst h0;exact V (by rw [O];rfl))
 rw [O,Y] at V;dsimp only at V;have l5:((c:Int)==0)=false:=by rw [Kaj];omega
 have f5:(c==0)=false:=by rw [Kaj];exact V
 have f6:=Kz (i2.o);rw [c8,f5] at f6;have i3:=Kz c8;have l6:1≤c:=by omega
 clear c8 V f5;clear f0 h O Y c9;obtain ⟨p,m⟩:∃ p,sinkP L s=(p,true):=⟨_,by rw [←f2]⟩
 clear f2;obtain ⟨i4,d0⟩:=Zck (show (sinkP L s).2=true by rw [m])
 rw [m] at d0;have b0:p={ s with deep:=s.deep+1 }:=d0
 have i5:p.i=s.i:=by rw [b0]
 have f7:p.es=s.es:=by rw [b0]
 have h7:p.deep=s.deep+1:=by rw [b0]
 have i6:p.i<L.length:=by omega
 obtain ⟨y,b3⟩:∃ y,wantP L (advP p) tOpen=y:=⟨_,rfl⟩;have Z:=G.want (L:=L) (advP p) tOpen;rw [b3] at Z;obtain ⟨R,b4⟩:=Ky (argsP L f c y []);have g2:=(allG L f).args c y [];rw [←b4] at g2;have b5:=G.want (L:=L) R.1 tShut;obtain ⟨x,b6⟩:∃ x,wantP L R.1 tShut=x:=⟨_,rfl⟩;rw [b6] at b5;have i7:p.i+1≤y.i:=Z.hi;have i8:x.deep=s.deep+1:=by rw [b5.hd,g2.hd,Z.hd];exact h7
 have i9:1≤x.deep:=by omega
 have l7:x.deep≤32:=by omega
 have f8:(riseP x).es.length+1≤(riseP x).i:=by
  show x.es.length+1≤x.i
  have a1:y.es.length+(p.i+1)+0≤p.es.length+y.i:=Z.he;have a2:=g2.he;have a3:=b5.he;rw [f7] at a1;omega
 obtain ⟨d1,d2,d3⟩:∃ d1 d2,putP (riseP x) ⟨W,noB,0,R.2,v⟩=(d1,d2):=⟨_,_,rfl⟩;have f9:=Kz (show atomP L (f+1) s=(d1,d2) from by rw [f6.o];simp only [m,b3,←b4,b6,d3];rfl)
 have j0:=Kz m;have j1:=Kz b6;have j2:=Kz b3;have j3:=Kz b4;have j4:=Kz f8;have j5:=Kz d3;have j6:=Kz (show 12*(L.length-y.i)+7+(c-0)≤f by omega)
 clear m d0 b0 g2 h7 b5 i4 f7 b6 b3 b4 f8 d3 Z i7 i8
 go_enter Tryz.func218,Tryz.ntmps218
 go_wp2_with fail
 refine (Za7 w h8.o f3.o).mono ?_
 rintro e w1 ⟨rfl,A,k1,b1⟩
 go_wp2_with fail
 obtain ⟨q,a0⟩:=Ky (w1.alloc (.cells #[.int .i64 kd,.string C,.int .u64 D,.int .i64 v] 155));rw [←a0];have g0:=Kz (show q.heap[w1.heap.size]?=some (.cells #[.int .i64 kd,.string C,.int .u64 D,.int .i64 v] 155 (0,0)) from by rw [a0];exact Kac _ _)
 have a4:=Kz (show PM X base P TA tc L s q from by rw [a0];exact A.below (Zai w1 _))
 have j7:=Kz (show KT base w q from by rw [a0];exact k1.trans (KT.below (Zai w1 _)))
 clear a0 A k1 b1;refine (i1.o q).mono ?_
 rintro e w2 ⟨rfl,b2⟩
 have H2:=Kz (a4.o.below b2);have K2:=Kz (KT.below (base:=base) b2);obtain ⟨t0,t1,t2,t3⟩:=tcell g0.o K2.o;obtain ⟨l8,c5,g1,j8⟩:=H2.o.errc;clear b2;obtain rfl:=g1 f4.o;clear g1 j8
 go_wp2_with fail
 refine (is_pm _ H2.o tOpen i3.o).mono ?_
 rintro e w3 ⟨rfl,b,a⟩
 have H3:=Kz b;have K3:=Kz (K2.o.trans a);clear b a
 go_wp2_with fail
 refine (Zdn w3 H3.o j0.o).mono ?_
 rintro e w4 ⟨rfl,b,a⟩
 have H4:=Kz b;have K4:=Kz (K3.o.trans a);clear b a;obtain ⟨c1,y1,Q,E⟩:=H4.o.adv i6;rw [i5] at c1 Q E;have H5:=Kz Q;have K5:=Kz (K4.o.trans E);clear Q E;have b7:=Zbp _ H5.o tOpen;rw [j2.o] at b7;have b7:=Kz b7
 go_wp2_with fail
 refine (b7.o).mono ?_
 rintro e w6 ⟨⟨g3,rfl⟩,b,a⟩
 have H6:=Kz b;have K6:=Kz (K5.o.trans a);clear b a;clear c1 y1 t0 t1 t2 t3 c5
 go_wp2
 go_loopw [7,96] (fun j9 d4 wr=>ZnA X base P TA tc L f c q R j9 d4 wr) (fun _ d4 _=>c-(intOf d4).toNat)
 case atStart=>exact ⟨f,0,y,[],none,0,Kag _,Nat.zero_le _,rfl,rfl,rfl,j3.o,ZcZ H6.o,World.ownsRow_nil _ _ _ 1,K6.o,j6.o⟩
 case round=>
  obtain ⟨d,j,F,l,a5,b8,l9,m0,rfl,rfl,g4,g5,d5,g6,m,m1⟩:=hrel;have d6:=Kz d5;have d7:=Kz g6;have d8:=Kz m;have H:=Kz g4;have g7:=Kz g5;have m2:=Kz (d5.el);clear d5 g6 m g5 g4
  by_cases m3:j<c
  ·obtain ⟨d,rfl⟩:∃ g,d=g+1:=⟨d-1,by omega⟩
   obtain ⟨z,b9⟩:∃ z,(if l.length=0 then F else wantP L F ZcY)=z:=⟨_,rfl⟩
   have k0:F.i≤z.i:=by
    rw [←b9];split
    ·exact Kag _
    ·exact (G.want (L:=L) F ZcY).hi
   have a6:=Kz (fun g8 (k2:PM (XA X a5) base P TA tc L _ g8)=>(h9.o d (by omega)).expr g8 z k2 (by omega))
   have d9:=(allG L d).expr z;obtain ⟨I,n,e0⟩:∃ I n,exprP L d z=(I,n):=⟨_,_,rfl⟩;rw [e0] at a6 d9;have k3:z.i≤I.i:=d9.hi;have g9:=Kz (show R=argsP L d (c-(j+1)) I (l++[n]) from by
    rw [g7.o,show c-j=(c-(j+1))+1 from by omega,argsP]
    simp only [b9,e0])
   have h1:12*(L.length-I.i)+7+(c-(j+1))≤d:=by omega
   have h2:=Kz h1;have h3:=Kz b9;clear b9 d9 e0 h1 k0 k3
   by_cases h4:j=0
   ·have a7:z=F:=by have:=h3.o;rw [if_pos (by have:=H.o;omega)] at this;exact this.symm
    rw [a7] at a6;have k4:decide (0<j)=false:=by simp;omega
    have k5:decide ((0:Int)<(j:Int))=false:=by simp;omega
    clear a7 h4
    go_wp2_with fail
    refine (a6.o wr d6.o).mono ?_
    rintro e r ⟨rfl,b,a⟩
    have H8:=Kz b;have B:=Kz (d8.o.trans a);have S:=Kz (ZbM (base:=base) d7.o a);clear b a;have a8:=Kz (show base≤q.heap.size∧q.heap.size≤r.heap.size from ⟨by obtain ⟨_,_,_,_,_,h⟩:=a4.o;exact h.base_le,B.o.size⟩)
    have J:=Kz (ZbM (base:=base) S.o (KT.below (Zai r (.cells #[I64 n] 3))));have e1:=Kz (H8.o.below (Zai r (.cells #[I64 n] 3)));have e2:=Kz (B.o.trans (KT.below (Zai r (.cells #[I64 n] 3))))
    go_wp2_with (at_builtin;(refine appI rfl (.tmp 103) (.tmp 106) rfl q.heap.size a5 b8 l j H.o rfl J.o r.heap.size rfl n (Kac _ _) (by omega) (by have:=a8.o.2;simp;omega) ?_);intro e3 e4 h5 M N a9;have H9:=Kz (Zff e1.o J.o a8.o.1 N M a9);have K9:=Kz (Zj1 e2.o N (fun k m=>(J.o.lt k m).1));have e5:=Kz M;clear M N a9)
    refine ⟨⟨d,j+1,I,l++[n],e3,e4,by omega,by omega,by go_num,rfl,by rw [List.length_append,H.o];rfl,g9.o,H9.o,e5.o,K9.o,h2.o⟩,by simp [intOf];omega⟩
   ·have a7:z=wantP L F ZcY:=by have:=h3.o;rw [if_neg (by have:=H.o;omega)] at this;exact this.symm
    rw [a7] at a6;have k4:decide (0<j)=true:=by simp;omega
    have k5:decide ((0:Int)<(j:Int))=true:=by simp;omega
    clear a7 h4
    go_wp2_with fail
    refine (Zbp wr d6.o ZcY).mono ?_
    rintro e h6 ⟨⟨g3,rfl⟩,b,a⟩
    have H7:=Kz b;have K7:=Kz (d8.o.trans a);have e6:=Kz (ZbM (base:=base) d7.o a);clear b a
    go_wp2_with fail
    refine (a6.o h6 H7.o).mono ?_
    rintro e r ⟨rfl,b,a⟩
    have H8:=Kz b;have B:=Kz (K7.o.trans a);have S:=Kz (ZbM (base:=base) e6.o a);clear b a;have a8:=Kz (show base≤q.heap.size∧q.heap.size≤r.heap.size from ⟨by obtain ⟨_,_,_,_,_,h⟩:=a4.o;exact h.base_le,B.o.size⟩)
    have J:=Kz (ZbM (base:=base) S.o (KT.below (Zai r (.cells #[I64 n] 3))));have e1:=Kz (H8.o.below (Zai r (.cells #[I64 n] 3)));have e2:=Kz (B.o.trans (KT.below (Zai r (.cells #[I64 n] 3))))
    go_wp2_with (at_builtin;(refine appI rfl (.tmp 103) (.tmp 106) rfl q.heap.size a5 b8 l j H.o rfl J.o r.heap.size rfl n (Kac _ _) (by omega) (by have:=a8.o.2;simp;omega) ?_);intro e3 e4 h5 M N a9;have H9:=Kz (Zff e1.o J.o a8.o.1 N M a9);have K9:=Kz (Zj1 e2.o N (fun k m=>(J.o.lt k m).1));have e5:=Kz M;clear M N a9)
    refine ⟨⟨d,j+1,I,l++[n],e3,e4,by omega,by omega,by go_num,rfl,by rw [List.length_append,H.o];rfl,g9.o,H9.o,e5.o,K9.o,h2.o⟩,by simp [intOf];omega⟩
  ·obtain rfl:c=j:=by omega
   have e7:R=(F,l):=by
    obtain ⟨d,rfl⟩:∃ g,d=g+1:=⟨d-1,by omega⟩
    rw [g7.o,Nat.sub_self,argsP]
   have e8:=j5.o;rw [e7] at e8;have k6:=Kz e8;have e9:=j1.o;rw [e7] at e9;have c6:=Zbp wr d6.o tShut;rw [e9] at c6;have c6:=Kz c6;clear e8 e9 e7
   go_wp2_with fail
   refine (c6.o).mono ?_
   rintro e h6 ⟨⟨g3,rfl⟩,b,a⟩
   have H7:=Kz b;have K7:=Kz (d8.o.trans a);have e6:=Kz (ZbM (base:=base) d7.o a);clear b a;obtain ⟨c4,y4,Q,E⟩:=H7.o.rise i9;have H8:=Kz Q;have B:=Kz (K7.o.trans E);have S:=Kz (ZbM (base:=base) e6.o E);clear Q E;obtain ⟨u0,u1,u2,u3⟩:=tcell g0.o B.o;have c7:=Zcy _ ⟨W,noB,0,l,v⟩ (.slice a5 c b8) H8.o ⟨a5,b8,by rw [H.o],S.o.more a4.o.ble,fun k m k7=>by have A:=(S.o.lt k m).1;have T:=a4.o.xlt k k7;omega⟩ j4.o
   rw [k6.o] at c7;have c7:=Kz c7
   go_wp2_with fail
   refine c7.o.mono ?_
   rintro e h5 ⟨rfl,b,a⟩
   have H9:=Kz b;have K9:=Kz ((j7.o.trans B.o).trans a);clear b a
   go_wp2
   go_ret;exact ⟨by rw [f9.o];rfl,by rw [f9.o];exact H9.o,K9.o⟩
theorem Zj4 (f:Nat) (a:∀ f',f'≤f→AllW base P TA tc L f') (w:World) (s:PS) (h:PM X base P TA tc L s w) (b:12*(L.length-s.i)+1≤f+1):
  Calls Tryz.prog 218 #[PP P] w (ZaR X base P TA tc L w (atomP L (f+1) s)):=by
 cases herr:s.err with
 | some x=>exact Zlr f a w s h b x herr
 | none=>
  by_cases c:(nowP L s).kind=2
  ·exact Zls f a w s h b herr c
  by_cases d:(nowP L s).kind=1
  ·exact Zj2 f a w s h b herr d
  cases hsk:(sinkP L s).2 with
  | false=>
   cases hq:isP L s tOpen with
   | false=>
    by_cases e:(callP (nowP L s)).2=0
    ·exact Zho f a w s h b herr c d hq e
    ·exact ZhV f a w s h b herr c d hq e hsk
   | true=>exact ZhU f a w s h b herr c d hq hsk
  | true=>
   cases hq:isP L s tOpen with
   | false=>
    by_cases e:(callP (nowP L s)).2=0
    ·exact Zho f a w s h b herr c d hq e
    ·exact Zj3 f a w s h b herr c d hq e hsk
   | true=>exact ZhW f a w s h b herr c d hq hsk
end
end Go.Proofs.YtghlnncfigkkaaaGreatDoor
