/-
 The parser's levels at any fuel; walks of shape and name over the state.
-/
import Derived.Test.YtghlnncfigkkaaaGreatDoorQParH
set_option maxRecDepth 100000
set_option maxHeartbeats 4000000
set_option linter.unusedVariables false
set_option linter.unusedSimpArgs false
namespace Go.Proofs.YtghlnncfigkkaaaGreatDoor
open Go.RowKit
attribute [local go_sem ↓] ZaO ZaP
theorem allW (base P:Nat) (TA:Option Addr) (tc:Nat) (L:List Tok) (f:Nat):AllW base P TA tc L f:=by
 induction f using Nat.strongRecOn with
 | ind f ih=>
  cases f with
  | zero=>exact ⟨fun w s h a=>absurd a (by omega),fun w s h a=>absurd a (by omega),fun w s h a=>absurd a (by omega),fun w s h a=>absurd a (by omega),fun w s h a=>absurd a (by omega),fun w s h a=>absurd a (by omega)⟩
  | succ f=>
   have b:∀ c,c≤f→AllW base P TA tc L c:=fun c h=>ih c (by omega)
   exact ⟨fun w s h a=>Zjw f b w s h a,fun w s h a=>Zlo f b w s h a,fun w s h a=>Zjx f b w s h a,fun w s h a=>Zj0 f b w s h a,fun w s h a=>Zjz f b w s h a,fun w s h a=>Zj4 f b w s h a⟩
section
variable {X:Nat→Prop} {base P tc:Nat} {TA:Option Addr} {L:List Tok} {s:PS}
theorem Zg7 (w:World) (h:PM X base P TA tc L s w):
  Calls Tryz.prog 131 #[PP P] w fun e w'=>e=.returned (.string (nameP L s).2)∧PM X base P TA tc L (nameP L s).1 w'∧KT base w w':=by
 obtain ⟨_,_,_,_,_,h⟩:=h;exact Zln w h
theorem PM.base_le {w:World} (h:PM X base P TA tc L s w):base≤w.heap.size:=by
 obtain ⟨_,_,_,_,_,h⟩:=h;exact h.base_le
def Zlt (X:Nat→Prop) (base P:Nat) (TA:Option Addr) (tc:Nat) (L:List Tok) (w:World) (R:PS × List Nat) (av:Value) (wr:World):Prop:=
 ∃ (f':Nat) (s':PS) (l:List Nat) (A:Option Addr) (cap n:Nat),av=.slice A n cap∧l.length=n∧n≤s'.i+1∧R=Zaz L f' s' l∧PM (XA X A) base P TA tc L s' wr∧Own wr w.heap.size 3 A cap (l.map I64)∧KT base w wr∧L.length-s'.i+1≤f'
theorem Zlu (f:Nat) (w:World) (h:PM X base P TA tc L s w) (d9:L.length+1≤f):
  Calls Tryz.prog 132 #[PP P] w fun e w'=>∃ A c,e=.returned (.slice A (Zbr L f s).2.length c)∧PM (XA X A) base P TA tc L (Zbr L f s).1 w'∧KT base w w'∧ArgsV X base w' (.slice A (Zbr L f s).2.length c) (Zbr L f s).2:=by
 have a6:=h.base_le;have b9:=Kz h.xlt;have n:=Zbp w h tBra;obtain ⟨r,x⟩:∃ r,wantP L s tBra=r:=⟨_,rfl⟩;rw [x] at n;have n:=Kz n
 cases hq:isP L r tKet with
 | true=>
  have y:=Kz (show Zbr L f s=(advP r,[]) from by unfold Zbr;rw [x];dsimp only;rw [hq];rfl)
  have N:=Kz hq;clear hq x h
  go_enter Tryz.func132,Tryz.ntmps132
  go_wp2_with fail
  refine n.o.mono ?_
  rintro e w1 ⟨⟨v,rfl⟩,b,a⟩
  have O:=Kz b;have Q:=Kz a;clear b a
  go_wp2_with fail
  refine (Zbf w1 O.o tKet N.o).mono ?_
  rintro e w2 ⟨rfl,b,a⟩
  have H2:=Kz b;have S:=Kz (Q.o.trans a);clear b a
  go_wp2
  go_ret;exact ⟨none,0,by rw [y.o];rfl,by rw [y.o];exact ZcZ H2.o,S.o,by rw [y.o];exact ArgsV.nil _ _ _⟩
 | false=>
  obtain ⟨z,d,T⟩:∃ z d,Zaw L r=(z,d):=⟨_,_,rfl⟩;obtain ⟨R,V⟩:=Ky (Zaz L f z [d]);have a7:Zbr L f s=R:=by unfold Zbr;rw [x,V];dsimp only;rw [hq,T];rfl
  rw [a7];have y:=Kz V;have N:=Kz hq;have c6:=Kz T;clear V a7 hq T x h
  go_enter Tryz.func132,Tryz.ntmps132
  go_wp2_with fail
  refine n.o.mono ?_
  rintro e w1 ⟨⟨v,rfl⟩,b,a⟩
  have O:=Kz b;have Q:=Kz a;clear b a
  go_wp2_with fail
  refine (ZaT w1 O.o tKet N.o).mono ?_
  rintro e w2 ⟨rfl,b,a⟩
  have H2:=Kz b;have S:=Kz (Q.o.trans a);have F:=ZcW w2 b;rw [c6.o] at F;have F:=Kz F;clear b a
  go_wp2_with fail
  refine F.o.mono ?_
  rintro e w3 ⟨rfl,b,a⟩
  have H3:=Kz b;have K3:=Kz (S.o.trans a);clear b a
  go_wp2
  obtain ⟨w4,B⟩:=Ky (w3.alloc (.cells #[I64 d] 3));have c7:=Kz (show Own w4 w.heap.size 3 (some ⟨w3.heap.size,0,none⟩) 1 ([d].map I64) from by rw [B];exact Own.full w3 3 [I64 d] K3.o.size (by simp [maxLen]))
  have H4:=Kz (show PM (XA X (some ⟨w3.heap.size,0,none⟩)) base P TA tc L z w4 from by rw [B];exact Zcj H3.o _)
  have K4:=Kz (show KT base w w4 from by rw [B];exact K3.o.trans (KT.below (Zai w3 _)))
  have c8:Hd (w3.alloc (.cells #[.int .i64 (d:Int)] 3)=w4):=B.symm;rw [c8.o];clear B
  go_loopw [3] (fun a8 wr=>Zlt X base P TA tc L w R a8 wr) (fun a8 wr=>L.length-curI P wr)
  case atStart=>exact ⟨f,z,[d],_,1,1,rfl,rfl,by omega,y.o,H4.o,c7.o,K4.o,by omega⟩
  case round=>
   obtain ⟨C,D,l,A,W,a9,rfl,b0,e0,b1,H,b2,m,e4⟩:=hrel;obtain ⟨C,rfl⟩:∃ g,C=g+1:=⟨C-1,by omega⟩
   have c9:=Kz H.cur;obtain ⟨e5,e6,e7,_⟩:=H.el;have b3:=Kz H;have b4:=Kz m;have b5:=Kz b2;have Y:=Kz b0;have b6:=Kz b1;clear H m b1 b2 b0
   cases hq0:isP L D ZcY with
   | true=>
    have e8:=ZaD hq0;have Z:=G.number (L:=L) (advP D);obtain ⟨E,j,I⟩:∃ E j,Zaw L (advP D)=(E,j):=⟨_,_,rfl⟩;rw [I] at Z;have h3:D.i+1≤E.i:=Z.hi;have a0:=Kz (show R=Zaz L C E (l++[j]) from by rw [b6.o,Zaz];simp only [hq0,I];rfl)
    have a1:=Kz hq0;have d0:=Kz I;clear Z I hq0
    go_wp2_with fail
    refine (Zbf wr b3.o ZcY a1.o).mono ?_
    rintro e w5 ⟨rfl,b,a⟩
    have H5:=Kz b;have K5:=Kz (b4.o.trans a);have a2:=Kz (ZbM (base:=base) b5.o a);have J:=ZcW w5 b;rw [d0.o] at J;have J:=Kz J;clear b a
    go_wp2_with fail
    refine J.o.mono ?_
    rintro e M ⟨rfl,b,a⟩
    have H8:=Kz b;have K8:=Kz (K5.o.trans a);have d1:=Kz (ZbM (base:=base) a2.o a);clear b a;have d2:=Kz K8.o.size;have a3:=Kz (ZbM (base:=base) d1.o (KT.below (Zai M (.cells #[I64 j] 3))));have d3:=Kz (H8.o.below (Zai M (.cells #[I64 j] 3)));have d4:=Kz (K8.o.trans (KT.below (Zai M (.cells #[I64 j] 3))))
    go_wp2_with (at_builtin;(refine appI rfl (.tmp 13) (.tmp 16) rfl w.heap.size A W l a9 Y.o rfl a3.o M.heap.size rfl j (Kac _ _) (by omega) (by have:=d2.o;simp;omega) ?_);intro d5 d6 e9 a4 a5 b7;have H9:=Kz (Zff d3.o a3.o a6 a5 a4 b7);have K9:=Kz (Zj1 d4.o a5 (fun k m=>(a3.o.lt k m).1));have d7:=Kz a4;clear a4 a5 b7)
    refine ⟨⟨C,E,l++[j],d5,d6,a9+1,rfl,by rw [List.length_append,Y.o];rfl,by omega,a0.o,H9.o,d7.o,K9.o,by omega⟩,?_⟩
    have e1:=H9.o.cur;have e2:=c9.o;have e3:=H9.o.el;simp only [e1,e2];omega
   | false=>
    have a0:=Kz (show R=(wantP L D tKet,l) from by rw [b6.o,Zaz];simp only [hq0];rfl)
    have a1:=Kz hq0;clear hq0
    go_wp2_with fail
    refine (ZaT wr b3.o ZcY a1.o).mono ?_
    rintro e w5 ⟨rfl,b,a⟩
    have H5:=Kz b;have K5:=Kz (b4.o.trans a);have a2:=Kz (ZbM (base:=base) b5.o a);clear b a
    go_wp2_with fail
    refine (Zbp w5 H5.o tKet).mono ?_
    rintro e w6 ⟨⟨v,rfl⟩,b,a⟩
    have H6:=Kz b;have K6:=Kz (K5.o.trans a);have b8:=Kz (ZbM (base:=base) a2.o a);clear b a
    go_wp2
    go_ret;rw [a0.o];exact ⟨A,W,by rw [Y.o];rfl,H6.o,K6.o,A,W,rfl,b8.o.more a6,fun k m d8=>by have h1:=(b8.o.lt k m).1;have h2:=b9.o k d8;omega⟩
end
end Go.Proofs.YtghlnncfigkkaaaGreatDoor
namespace Go.Proofs.YtghlnncfigkkaaaGreatDoor
open Go.RowKit
attribute [local go_sem ↓] ZaO ZaP
theorem ZmO:(Tryz.prog.info? 93).map (fun i=>(i.zero,i.size,i.bytes))=some (some (.agg #[.int .i64 0,.int .i64 0,.string ⟨#[]⟩,.slice none 0 0,.int .i64 0,.int .i64 0]),6,72):=by kernel_rfl
theorem Zci {X:Nat→Prop} {w:World} {z:Array Oper} {o:Oper} {a:Act} {K:Act→World→Prop} {Q:Exit→Act→World→Prop} {E:Prop} (J:o.guard=none) (s x:Operand)
  (M:o.op=.call { callee:=.builtin .append,args:=#[s,x],argTypes:=#[23,23] }) (base:Nat)
  (A:Option Addr) (B:Nat) (i:List Sm) (n:Nat) (N:i.length=n) (O:a.eval s=.slice A n B) (R:OwnSX X w base A B i)
  (c:Nat) (S:a.eval x=.slice (some ⟨c,0,none⟩) 1 1) (m:Sm × Value) (T:w.heap[c]?=some (.cells (Zc6 m).toArray 93 (0,0))) (C:ArgsV X base w m.2 m.1.shape)
  (a6:n+1≤1000000) (V:base≤w.heap.size)
  (h:∀ A' l w',OwnSX X w' base A' l (i++[m.1])→w.grownBy w' (blk A)→K (a.put o.dst (.slice A' (n+1) l)) w'):
  if Region.wanted o (yielded z a.tmps)=true then Oper.wp Tryz.prog o a w K Q else E:=by
 have W:Region.wanted o (yielded z a.tmps)=true:=by simp [Region.wanted,J]
 rw [if_pos W];subst N;obtain ⟨D,Y,F,Z⟩:=R;obtain ⟨i0,a0,a1,a2,a3⟩:=info_parts ZmO;refine wp_append_own w s x 23 M base 93 i0 _ 6 72 Tryz.underlying23 a0 a1 a2 a3 rfl (by decide) _ i.length (D.flatMap Zc6) O F ⟨c,0,none⟩ 1 1 (Zc6 m) S rfl ?_ ?_ (by simp only [maxLen];omega) (by omega) V ?_
 ·intro j u d
  have y:(⟨c,0,none⟩:Addr).add j=⟨c,j,none⟩:=by unfold Addr.add;split <;> simp_all
  rw [y,cell_of_row w c j _ _ (0,0) T];simpa using d
 ·intro u d
  unfold Zc6 at d;simp at d;rcases d with rfl | rfl | rfl | rfl | rfl | rfl
  ·rfl
  ·rfl
  ·rfl
  ·exact Zhn C
  ·rfl
  ·rfl
 ·intro a7 w' H r _
  have I:∀ g cur,¬ X g→w.heap[g]?=some (.cells cur 3 (0,0))→w'.heap[g]?=some (.cells cur 3 (0,0)):=fun k cur _ b=>by
   rw [Za4] at r;rw [r.block k (Kab.1 b).1 (fun e=>by
    rcases Zcs F with rfl | ⟨g,a8,rfl,_,a4⟩
    ·simp [blk] at e
    ·have y:k=g:=by simpa [blk] using e
     subst y;rw [a4] at b;injection b with b
     injection b with _ b _
     exact absurd b (by decide))]
   exact b
  rcases H.2 with ⟨_,h0⟩ | ⟨g,l,cur,rfl,a9⟩
  ·omega
  ·refine h (some ⟨g,0,none⟩) l w' ⟨D++[m],by rw [List.map_append,Y];rfl,?_,?_⟩ (by rw [Za4] at r;exact r)
   ·rw [List.flatMap_append,List.length_append];simp only [List.flatMap_cons,List.flatMap_nil,List.append_nil];exact H
   ·intro a5 f
    rcases List.mem_append.1 f with f | f
    ·exact (Z a5 f).keep I
    ·rw [List.mem_singleton.1 f];exact C.keep I
section
variable {X:Nat→Prop} {base P tc:Nat} {TA:Option Addr} {L:List Tok} {s:PS} {SA EA:Option Addr} {sc ec:Nat} {ev:Value}
theorem pr_ne {w:World} (h:PR X base P TA tc L s w SA sc EA ec ev) {w':World} (d:w.grownBy w' (blk SA)):∀ (k:Nat) (b:Array Value) (T:TypeId) (c:Nat × Nat),w.heap[k]?=some (.cells b T c)→T≠93→w'.heap[k]?=some (.cells b T c):=fun k b T c a f=>by
 obtain ⟨m,_,i,_⟩:=h.ownS;rw [d.block k (Kab.1 a).1 (fun e=>by
  rcases Zcs i with rfl | ⟨g,cur,rfl,_,j⟩
  ·simp [blk] at e
  ·have l:k=g:=by simpa [blk] using e
   subst l;rw [j] at a;injection a with a
   injection a with _ a _
   exact f a.symm)]
 exact a
theorem ZdY {Y:Nat→Prop} (D:∀ k,X k→Y k) {w w':World} (h:PR Y base P TA tc L s w SA sc EA ec ev) {x:Sm} {d:Option Addr} {f:Nat} (Z:Nat→Prop) (E:OwnSX (fun k=>X k∨Z k) w' base d f (s.ss++[x])) (M:OwnEX (fun k=>X k∨¬ Z k) w base EA ec s.es) (F:w.grownBy w' (blk SA)) (a0:s.ss.length≤64):
  PR X base P TA tc L (putS s x) (w'.setCell ⟨P,2,none⟩ (.slice d (s.ss.length+1:Nat) f)) d f EA ec ev∧Below base w (w'.setCell ⟨P,2,none⟩ (.slice d (s.ss.length+1:Nat) f)):=by
 have n:=pr_ne h F;have H:=n P _ _ _ h.blk (by decide)
 have I:(w'.setCell ⟨P,2,none⟩ (.slice d (s.ss.length+1:Nat) f)).heap[P]?=_:=heap_setCell_same _ _ _ _ _ _ H;rw [Zj9] at I;have j:∀ (k:Nat) (B:Array Value) (T:TypeId) (C:Nat × Nat),w'.heap[k]?=some (.cells B T C)→T≠160→(w'.setCell ⟨P,2,none⟩ (.slice d (s.ss.length+1:Nat) f)).heap[k]?=some (.cells B T C):=fun k B T C c N=>by
  rw [Zap _ _ _ (fun J=>by
   have O:k=P:=J;subst O;rw [H] at c;injection c with c
   injection c with _ c _
   exact N c.symm)]
  exact c
 have z:Below base w (w'.setCell ⟨P,2,none⟩ (.slice d (s.ss.length+1:Nat) f)):=by
  refine ((Kai base w).grown F h.base_le (fun k c => ?_)).setCell (p:=⟨P,2,none⟩) h.hb _
  obtain ⟨a1,_,Q,_⟩:=h.ownS;rcases Zcs Q with rfl | ⟨g,cur,rfl,a2,b⟩
  ·simp [blk] at c
  ·have J:g=k:=by simpa [blk] using c
   omega
 have R:∀ {l:List (ByteArray × Int)} {v:Value} {A:Int},IsErr w v l A→IsErr (w'.setCell ⟨P,2,none⟩ (.slice d (s.ss.length+1:Nat) f)) v l A:=by
  intro l
  induction l with
  | nil=>intro v A h;exact h
  | cons p r ih=>
   intro v A h
   obtain ⟨a,S,rfl,b,V⟩:=h;exact ⟨a,S,rfl,j a _ _ _ (n a _ _ _ b (by decide)) (by decide),ih V⟩
 refine ⟨⟨h.hb,?_,?_,?_,?_,h.toks.below z,?_,h.etb,h.len,h.ii,h.dd,h.el,?_,fun k W=>Kae (h.xx k (D k W)) z.size,⟨Z,?_,?_⟩⟩,z⟩
 ·show _=some (Obj.cells (PRow TA L.length tc s.i (.slice d (s.ss++[x]).length f) (.slice EA s.es.length ec) s.deep ev) 160 (0,0))
  rw [show (s.ss++[x]).length=s.ss.length+1 from by rw [List.length_append];rfl]
  exact I
 ·exact (E.keep' (fun g cur _ b=>j g _ _ _ b (by decide)) (fun g cur _ b=>j g _ _ _ b (by decide))).re fun k c=>.inl (.inl c)
 ·exact (h.ownE.keep' (fun g cur _ b=>j g _ _ _ (n g _ _ _ b (by decide)) (by decide)) (fun g cur _ b=>j g _ _ _ (n g _ _ _ b (by decide)) (by decide))).re fun k c=>.inl (D k c)
 ·show ErrV _ ev s.err
  have m:=h.err
  cases b:s.err with
  | none=>rw [b] at m;exact m
  | some y=>rw [b] at m;exact R m
 ·have m:=h.ety;unfold ETyped at m ⊢;rw [←m];exact World.cell?_of_block (z.block _ h.etb)
 ·show (s.ss++[x]).length≤65
  rw [List.length_append];simp;omega
 ·exact E.keep' (fun g cur _ b=>j g _ _ _ b (by decide)) (fun g cur _ b=>j g _ _ _ b (by decide))
 ·exact M.keep' (fun g cur _ b=>j g _ _ _ (n g _ _ _ b (by decide)) (by decide)) (fun g cur _ b=>j g _ _ _ (n g _ _ _ b (by decide)) (by decide))
def SM (X:Nat→Prop) (base P:Nat) (TA:Option Addr) (tc:Nat) (L:List Tok) (w0:World) (g:Nat) (s:PS) (k p:Nat) (nm:ByteArray) (v:Value) (sh:List Nat) (e q:Nat) (w:World):Prop:=
 PM (XA X (vA v)) base P TA tc L s w∧KT base w0 w∧w.heap[g]?=some (.cells #[.int .i64 k,.int .i64 p,.string nm,v,.int .i64 e,.int .i64 q] 93 (0,0))∧ArgsV X base w v sh
variable {w0 w w':World} {g k p e q:Nat} {nm:ByteArray} {v:Value} {sh:List Nat}
theorem SM.call (h:SM X base P TA tc L w0 g s k p nm v sh e q w) {b:PS} (c:PM (XA X (vA v)) base P TA tc L b w') (a:KT base w w'):SM X base P TA tc L w0 g b k p nm v sh e q w':=
 ⟨c,h.2.1.trans a,a.block g _ h.2.2.1 (.inr ⟨by decide,by decide⟩),h.2.2.2.kt a⟩
theorem Zhp {Y:Nat→Prop} (D:PM Y base P TA tc L s w) (A:KT base w0 w) (R:w.heap[g]?=some (.cells #[.int .i64 k,.int .i64 p,.string nm,v,.int .i64 e,.int .i64 q] 93 (0,0))) (E:∃ I,PM X base P TA tc L I w0) (Z:w0.heap.size≤g) (j:Nat) (x:Value):
  PM Y base P TA tc L s (w.setCell ⟨g,j,none⟩ x)∧KT base w0 (w.setCell ⟨g,j,none⟩ x)∧(w.setCell ⟨g,j,none⟩ x).heap[g]?=some (.cells ((#[.int .i64 k,.int .i64 p,.string nm,v,.int .i64 e,.int .i64 q]:Array Value).setIfInBounds j x) 93 (0,0))∧∀ J M,ArgsV X base w J M→ArgsV X base (w.setCell ⟨g,j,none⟩ x) J M:=by
 obtain ⟨I,a0,a1,b1,b2,b3,E⟩:=E;obtain ⟨SA,sc,EA,ec,ev,h⟩:=D;have b4:base≤g:=Kah E.base_le Z;have N:∀ (i:Nat) (m:Array Value) (T:TypeId) (z:Nat × Nat),w.heap[i]?=some (.cells m T z)→i≠g→(w.setCell ⟨g,j,none⟩ x).heap[i]?=some (.cells m T z):=fun i m T z d a2=>by
  rw [Zap _ _ _ a2];exact d
 have n:∀ (i:Nat) (m:Array Value) (T:TypeId) (z:Nat × Nat),w.heap[i]?=some (.cells m T z)→T≠93→(w.setCell ⟨g,j,none⟩ x).heap[i]?=some (.cells m T z):=fun i m T z d a3=>N i m T z d (fun a4=>by
  subst a4;rw [R] at d;injection d with d
  injection d with _ d _
  exact a3 d.symm)
 have S:∀ c cur,SA=some ⟨c,0,none⟩→w.heap[c]?=some (.cells cur 93 (0,0))→c≠g:=by
  intro c cur f b
  obtain ⟨b5,C,a5⟩:=A.stm P _ E.blk;rw [h.blk] at C;injection C with C
  injection C with C _ _
  subst C;have O:(some (Value.slice SA s.ss.length sc))=some (Value.slice a0 I.ss.length a1):=a5;injection O with O
  injection O with F _ _
  obtain ⟨b6,_,h2,_⟩:=E.ownS;rcases Zcs h2 with Q | ⟨g0,b7,Q,_,a6⟩
  ·rw [F,Q] at f;cases f
  ·rw [F,Q] at f;injection f with f
   injection f with f _ _
   subst f;have:=(Kab.1 a6).1;omega
 have V:∀ i,i<base→(w.setCell ⟨g,j,none⟩ x).heap[i]?=w.heap[i]?:=fun i d=>Zap _ _ _ (by show i≠g;omega)
 have a7:∀ {l:List (ByteArray × Int)} {v:Value} {H:Int},IsErr w v l H→IsErr (w.setCell ⟨g,j,none⟩ x) v l H:=by
  intro l
  induction l with
  | nil=>intro v H h;exact h
  | cons p r ih=>
   intro v H h
   obtain ⟨a,a8,rfl,b,d⟩:=h;exact ⟨a,a8,rfl,n a _ _ _ b (by decide),ih d⟩
 refine ⟨⟨SA,sc,EA,ec,ev,h.hb,n P _ _ _ h.blk (by decide),?_,?_,?_,?_,?_,h.etb,h.len,h.ii,h.dd,h.el,h.sl,fun k a9=>by have:=h.xx k a9;simpa [World.setCell] using this,h.sep.map (fun _ _ a=>a.keep' (fun c cur _ b=>n c _ _ _ b (by decide)) (fun c cur f b=>N c _ _ _ b (S c cur f b))) (fun _ _ a=>a.keep' (fun c cur _ b=>n c _ _ _ b (by decide)) (fun c cur _ b=>n c _ _ _ b (by decide)))⟩,?_,heap_setCell_same _ _ _ _ _ _ R,fun J M b0=>b0.keep (fun c cur _ b=>n c _ _ _ b (by decide))⟩
 ·exact h.ownS.keep' (fun c cur _ b=>n c _ _ _ b (by decide)) (fun c cur f b=>N c _ _ _ b (S c cur f b))
 ·exact h.ownE.keep' (fun c cur _ b=>n c _ _ _ b (by decide)) (fun c cur _ b=>n c _ _ _ b (by decide))
 ·have B:=h.err
  cases b:s.err with
  | none=>rw [b] at B;exact B
  | some y=>rw [b] at B;exact a7 B
 ·exact h.toks.keep fun b8 D=>World.cell?_of_block (V _ D)
 ·have B:=h.ety;unfold ETyped at B ⊢;rw [←B];exact World.cell?_of_block (V _ h.etb)
 ·have W:∀ i o,w0.heap[i]?=some o→i≠g:=fun i o d=>by have:=(Kab.1 d).1;omega
  exact ⟨A.os,A.tape,A.output,by have:=A.size;simpa [World.setCell] using this,fun i o d D=>by rw [Zap _ _ _ (W i o d)];exact A.block i o d D,fun i m d=>by
   obtain ⟨c1,h1,F⟩:=A.stm i m d;exact ⟨c1,by rw [Zap _ _ _ (W i _ d)];exact h1,F⟩⟩
theorem SM.set (h:SM X base P TA tc L w0 g s k p nm v sh e q w) (a:∃ s0,PM X base P TA tc L s0 w0) (b:w0.heap.size≤g) (j:Nat) (x:Value):
  PM (XA X (vA v)) base P TA tc L s (w.setCell ⟨g,j,none⟩ x)∧KT base w0 (w.setCell ⟨g,j,none⟩ x)∧(w.setCell ⟨g,j,none⟩ x).heap[g]?=some (.cells ((#[.int .i64 k,.int .i64 p,.string nm,v,.int .i64 e,.int .i64 q]:Array Value).setIfInBounds j x) 93 (0,0))∧∀ v' sh',ArgsV X base w v' sh'→ArgsV X base (w.setCell ⟨g,j,none⟩ x) v' sh':=
 Zhp h.1 h.2.1 h.2.2.1 a b j x
theorem ZdZ (h:PR (XA X (vA v)) base P TA tc L s w SA sc EA ec ev) (i:ArgsV X base w v sh):∃ Z:Nat→Prop,(∀ o,OwnSX (fun k=>X k∨Z k) ((w.alloc o).drew) base SA sc s.ss∧OwnEX (fun k=>X k∨¬ Z k) ((w.alloc o).drew) base EA ec s.es)∧∀ o,ArgsV (fun k=>X k∨Z k) base ((w.alloc o).drew) v sh:=by
 obtain ⟨Z,j,l⟩:=h.sep;have b:∀ o,Below w.heap.size w ((w.alloc o).drew):=fun o=>((Kai _ _).alloc (Kag _) o).drew
 refine ⟨fun k=>Z k∧blk (vA v)≠some k,fun o=>⟨?_,?_⟩,fun o => ?_⟩
 ·exact (j.kt (base':=base) (KT.below (b o))).re fun k a=>.inl (a.elim (fun x=>.inl (.inl x)) (fun x=>.inr x.1))
 ·exact (l.keep (base':=base) (KT.below (b o)) (fun g cur _ f=>((b o).block g (Kab.1 f).1).trans f)).re fun k a=>.inl (a.elim (fun x=>.inl (.inl x)) (fun x=>by
   by_cases d:blk (vA v)=some k
   ·exact .inl (.inr d)
   ·exact .inr (fun z=>x ⟨z,d⟩)))
 ·obtain ⟨A,c,rfl,d,m⟩:=i;have n:ArgsV (fun k=>X k∨(Z k∧blk A≠some k)) base w (.slice A sh.length c) sh:=⟨A,c,rfl,d,fun k a r=>r.elim (m k a) (fun x=>x.2 a)⟩
  exact n.kt (base:=base) (KT.below (b o))
theorem SM.free (h:SM X base P TA tc L w0 g s k p nm v sh e q w) (j:Nat):w.frozen? ⟨g,j,none⟩=false:=Zan h.2.2.1 j
theorem SM.c0 (h:SM X base P TA tc L w0 g s k p nm v sh e q w):w.cell? ⟨g,0,none⟩=some (.int .i64 k):=Kaa 0 h.2.2.1
theorem SM.c1 (h:SM X base P TA tc L w0 g s k p nm v sh e q w):w.cell? ⟨g,1,none⟩=some (.int .i64 p):=Kaa 1 h.2.2.1
theorem SM.c2 (h:SM X base P TA tc L w0 g s k p nm v sh e q w):w.cell? ⟨g,2,none⟩=some (.string nm):=Kaa 2 h.2.2.1
theorem SM.c3 (h:SM X base P TA tc L w0 g s k p nm v sh e q w):w.cell? ⟨g,3,none⟩=some v:=Kaa 3 h.2.2.1
theorem SM.c4 (h:SM X base P TA tc L w0 g s k p nm v sh e q w):w.cell? ⟨g,4,none⟩=some (.int .i64 e):=Kaa 4 h.2.2.1
theorem SM.c5 (h:SM X base P TA tc L w0 g s k p nm v sh e q w):w.cell? ⟨g,5,none⟩=some (.int .i64 q):=Kaa 5 h.2.2.1
end
end Go.Proofs.YtghlnncfigkkaaaGreatDoor
namespace Go.Proofs.YtghlnncfigkkaaaGreatDoor
open Go.RowKit
attribute [local go_sem ↓] ZaO ZaP
section
variable {X:Nat→Prop} {base P tc:Nat} {TA:Option Addr} {L:List Tok} {s:PS} {w0 w w':World} {g k p e q:Nat} {nm:ByteArray} {v:Value} {sh:List Nat}
theorem Zg8 (h:SM X base P TA tc L w0 g s k p nm v sh e q w) (i:∃ s0,PM X base P TA tc L s0 w0) (j:w0.heap.size≤g) (f:Nat):SM X base P TA tc L w0 g s f p nm v sh e q (w.setCell ⟨g,0,none⟩ (.int .i64 f)):=by
 obtain ⟨a,b,c,d⟩:=h.set i j 0 (.int .i64 f);exact ⟨a,b,c,d _ _ h.2.2.2⟩
theorem ZmP (h:SM X base P TA tc L w0 g s k p nm v sh e q w) (i:∃ s0,PM X base P TA tc L s0 w0) (j:w0.heap.size≤g) (f:Nat):SM X base P TA tc L w0 g s k f nm v sh e q (w.setCell ⟨g,1,none⟩ (.int .i64 f)):=by
 obtain ⟨a,b,c,d⟩:=h.set i j 1 (.int .i64 f);exact ⟨a,b,c,d _ _ h.2.2.2⟩
theorem Zg9 (h:SM X base P TA tc L w0 g s k p nm v sh e q w) (i:∃ s0,PM X base P TA tc L s0 w0) (j:w0.heap.size≤g) (f:ByteArray):SM X base P TA tc L w0 g s k p f v sh e q (w.setCell ⟨g,2,none⟩ (.string f)):=by
 obtain ⟨a,b,c,d⟩:=h.set i j 2 (.string f);exact ⟨a,b,c,d _ _ h.2.2.2⟩
theorem ZmQ (h:SM X base P TA tc L w0 g s k p nm v sh e q w) (i:∃ s0,PM X base P TA tc L s0 w0) (j:w0.heap.size≤g) (A:Option Addr) (n c:Nat) {f:List Nat} (l:ArgsV X base w (.slice A n c) f) (m:PM (XA X A) base P TA tc L s w):SM X base P TA tc L w0 g s k p nm (.slice A n c) f e q (w.setCell ⟨g,3,none⟩ (.slice A n c)):=by
 obtain ⟨a,b,r,d⟩:=Zhp m h.2.1 h.2.2.1 i j 3 (.slice A n c);exact ⟨a,b,r,d _ _ l⟩
theorem ZmR (h:SM X base P TA tc L w0 g s k p nm v sh e q w) (i:∃ s0,PM X base P TA tc L s0 w0) (j:w0.heap.size≤g) (f:Nat):SM X base P TA tc L w0 g s k p nm v sh f q (w.setCell ⟨g,4,none⟩ (.int .i64 f)):=by
 obtain ⟨a,b,c,d⟩:=h.set i j 4 (.int .i64 f);exact ⟨a,b,c,d _ _ h.2.2.2⟩
theorem Zlv (f:Nat):∀ (a:Nat) (s:PS) (l:List Nat),G L s (Zaz L a s l).1 0:=by
 intro a
 induction a with
 | zero=>intro s l;exact G.refl s
 | succ a ih=>
  intro s l
  rw [Zaz];split
  ·rename_i h
   exact (((G.adv (ZaD h)).trans (G.number _)).trans (ih _ _)).less (by omega)
  ·exact G.want _ _
theorem ZmS (f:Nat) (s:PS):G L s (Zbr L f s).1 0:=by
 unfold Zbr;dsimp only;split
 ·rename_i h
  exact ((G.want _ _).trans (G.adv (ZaD h))).less (by omega)
 ·exact (((G.want _ _).trans (G.number _)).trans (Zlv f f _ _)).less (by omega)
theorem Zdz (f:Nat) (s:PS):G L s (bodyP L f s).1 0:=by
 unfold bodyP;split
 ·exact G.fail s _
 ·split
  ·rename_i h
   exact ((((G.adv (ZaD h)).trans (G.number _)).trans (G.name _)).trans (ZmS f _)).less (by omega)
  ·split
   ·rename_i h
    exact ((((G.adv (ZaD h)).trans (G.name _)).trans (G.want _ _)).trans ((allG L f).expr _)).less (by omega)
   ·split
    ·rename_i h
     exact ((G.adv (ZaD h)).trans (G.name _)).less (by omega)
    ·exact G.fail s _
theorem pm_c2 (h:PM X base P TA tc L s w):∃ SA sc,w.cell? ⟨P,2,none⟩=some (.slice SA s.ss.length sc)∧∀ o:Obj,(w.alloc o).cell? ⟨P,2,none⟩=some (.slice SA s.ss.length sc):=by
 obtain ⟨SA,sc,EA,ec,ev,h⟩:=h;exact ⟨SA,sc,h.c2,fun o=>(World.cell?_alloc_lt w o ⟨P,2,none⟩ h.lt).trans h.c2⟩
theorem Zea {w:World} {n i a b:Nat} {ev:Value} {TA SA EA:Option Addr} {c tc sc ec d:Nat} (f:n=a) (h:w.heap[P]?=some (.cells (PRow TA c tc i (.slice SA a sc) (.slice EA d ec) b ev) 160 (0,0))):w.cell? ⟨P,2,none⟩=some (.slice SA n sc):=by
 subst f;exact Kaa 2 h
theorem Zj5 (f:Nat) (w:World) (s:PS) (h:PM X base P TA tc L s w) (a5:s.ss.length≤64) (b9:12*L.length+20≤f) (J:s.ss.length=64):
  Calls Tryz.prog 84 #[PP P] w fun e w'=>(∃ v,e=.returned v)∧PM X base P TA tc L (stmtP L f s) w'∧Below base w w':=by
 have a6:=h.base_le;obtain ⟨kd,M,nm,d,N⟩:∃ kd M nm d,nowP L s=⟨kd,M,nm,d⟩:=⟨_,_,_,_,rfl⟩;have O:=Kz N;have a7:=Kz h;have a8:=Kz (Zdz (L:=L) f s);clear h N;have q6:((s.ss.length:Int)==64)=true:=by rw [beq_iff_eq];omega
 have Q:=Kz (show bodyP L f s=(failP L s 5,⟨0,0,noB,[],0,d⟩) from by unfold bodyP;rw [if_pos J,O.o])
 clear J
 go_enter Tryz.func84,Tryz.ntmps84
 go_wp2_with fail
 refine (Za7 w a7.o O.o).mono ?_
 rintro e w1 ⟨rfl,m,R,b1⟩
 obtain ⟨SA,sc,c2,d2⟩:=pm_c2 m;clear c2;have H1:=Kz (show ∃ s0,PM X base P TA tc L s0 w1 from ⟨s,m⟩)
 have K1:=Kz R;have a9:=Kz m;clear m R b1
 go_wp2_with fail
 obtain ⟨b0,B⟩:=Ky (w1.alloc (.cells #[.int .i64 0,.int .i64 0,.string ⟨#[]⟩,.slice none 0 0,.int .i64 0,.int .i64 d] 93));rw [←B];have S:=Kz (show SM X base P TA tc L w1 w1.heap.size s 0 0 ⟨#[]⟩ (.slice none 0 0) [] 0 d b0 from by rw [B];exact ⟨ZcZ (a9.o.below (Zai w1 _)),KT.below (Zai w1 _),Kac _ _,ArgsV.nil _ _ _⟩)
 clear B d2;refine (Zg6 _ S.o.1 5).mono ?_
 rintro e v1 ⟨⟨v,rfl⟩,j,l⟩
 have T:=Kz (S.o.call j l);clear j l;obtain ⟨i,n⟩:∃ i,wantP L (failP L s 5) tSemi=i:=⟨_,rfl⟩;have r:=Zbp _ T.o.1 tSemi;rw [n] at r;have r:=Kz r;have V:stmtP L f s=putS i ⟨0,0,noB,[],0,d⟩:=by unfold stmtP;rw [Q.o];dsimp only;rw [n]
 have b2:=Kz V;have W:i.ss=s.ss:=by
  have a:=(G.want (L:=L) (failP L s 5) tSemi).hs;rw [n] at a;have b:=a8.o.hs;rw [Q.o] at b;exact a.trans b
 have b3:i.ss.length≤64:=by rw [W];exact a5
 clear V n W
 go_wp2_with fail
 refine (r.o).mono ?_
 rintro e x ⟨⟨v,rfl⟩,j,l⟩
 have c:=Kz (T.o.call j l);clear j l;obtain ⟨Y,Z,c6,c7,ev,y⟩:=c.o.1;have z:=Kz y;have c2:=y.c2;obtain ⟨C,D⟩:=Ky i.ss.length;rw [←D] at c2;have E:=Kz D;have b4:C+1≤1000000:=by omega
 have r0:=c.o.c0;have r1:=c.o.c1;have r2:=c.o.c2;have r3:=c.o.c3;have r4:=c.o.c4;have r5:=c.o.c5;have c8:∀ o:Obj,(x.alloc o).cell? ⟨P,2,none⟩=some (.slice Y C Z):=fun o=>(World.cell?_alloc_lt x o ⟨P,2,none⟩ z.o.lt).trans c2
 obtain ⟨a0,a1,a2⟩:=ZdZ y c.o.2.2.2;have a3:=Kz a1;have b5:=Kz a2;clear y D a1 a2
 go_wp2_with fail
 have F:=Kz (fun o:Obj=>z.o.below (w':=(x.alloc o).drew) ((Kai _ _).alloc (Kag _) o).drew)
 go_region_law (refine Zci (X:=fun k=>X k∨a0 k) rfl (.tmp 58) (.tmp 60) rfl base Y Z i.ss C E.o.symm rfl (a3.o _).1 x.heap.size rfl (⟨0,0,noB,[],0,d⟩,(Value.slice none 0 0)) (Kac _ _) (b5.o _) b4 (by have:=z.o.base_le;simp;omega) ?_;intro c9 d0 w5 a4 H;have I:=pr_ne (F.o _) H P _ _ _ (F.o _).blk (by decide);have q3:=Zea E.o I;have z3:=Zan I 2;have b6:=Kz (ZdY (X:=X) (fun k b7=>.inl b7) (F.o _) a0 a4 (a3.o _).2 H b3);clear I a4 H)
 all_goals
  go_wp2
  go_end0
  have b8:=E.o;subst b8;obtain ⟨x1,x2⟩:=b6.o;exact ⟨⟨_,rfl⟩,by rw [b2.o];exact x1.pm,(((K1.o.trans c.o.2.1).toBelow a6).trans (Below.mono (((Kai _ _).alloc (Kag _) _).drew) z.o.base_le)).trans x2⟩
theorem Zj6 (f:Nat) (w:World) (s:PS) (h:PM X base P TA tc L s w) (b2:s.ss.length≤64) (d1:12*L.length+20≤f) (M:s.ss.length≠64) (y:isP L s Zcz=false) (z:isP L s tLet=false) (B:isP L s Zdo=false):
  Calls Tryz.prog 84 #[PP P] w fun e w'=>(∃ v,e=.returned v)∧PM X base P TA tc L (stmtP L f s) w'∧Below base w w':=by
 have b3:=h.base_le;obtain ⟨kd,N,nm,d,O⟩:∃ kd N nm d,nowP L s=⟨kd,N,nm,d⟩:=⟨_,_,_,_,rfl⟩;have Q:=Kz O;have b4:=Kz h;have b5:=Kz (Zdz (L:=L) f s);clear h O;have q6:((s.ss.length:Int)==64)=false:=by rw [Kaj];omega
 have R:=Kz (show bodyP L f s=(failP L s 130,⟨0,0,noB,[],0,d⟩) from by unfold bodyP;rw [if_neg M,y,z,B,Q.o];rfl)
 have Q1:=Kz y;have Q2:=Kz z;have Q3:=Kz B;clear M y z B
 go_enter Tryz.func84,Tryz.ntmps84
 go_wp2_with fail
 refine (Za7 w b4.o Q.o).mono ?_
 rintro e w1 ⟨rfl,j,S,b1⟩
 obtain ⟨SA,sc,c2,d2⟩:=pm_c2 j;clear c2;have H1:=Kz (show ∃ s0,PM X base P TA tc L s0 w1 from ⟨s,j⟩)
 have K1:=Kz S;have b6:=Kz j;clear j S b1
 go_wp2_with fail
 obtain ⟨b7,C⟩:=Ky (w1.alloc (.cells #[.int .i64 0,.int .i64 0,.string ⟨#[]⟩,.slice none 0 0,.int .i64 0,.int .i64 d] 93));rw [←C];have T:=Kz (show SM X base P TA tc L w1 w1.heap.size s 0 0 ⟨#[]⟩ (.slice none 0 0) [] 0 d b7 from by rw [C];exact ⟨ZcZ (b6.o.below (Zai w1 _)),KT.below (Zai w1 _),Kac _ _,ArgsV.nil _ _ _⟩)
 clear C d2;refine (ZaT _ T.o.1 Zcz Q1.o).mono ?_
 rintro e v3 ⟨rfl,a,b⟩
 have V:=Kz (T.o.call a b);clear a b
 go_wp2_with fail
 refine (ZaT _ V.o.1 tLet Q2.o).mono ?_
 rintro e v4 ⟨rfl,a,b⟩
 have W:=Kz (V.o.call a b);clear a b
 go_wp2_with fail
 refine (ZaT _ W.o.1 Zdo Q3.o).mono ?_
 rintro e v5 ⟨rfl,a,b⟩
 have Y:=Kz (W.o.call a b);clear a b
 go_wp2_with fail
 refine (Zg6 _ Y.o.1 130).mono ?_
 rintro e v6 ⟨⟨v,rfl⟩,a,b⟩
 have Z:=Kz (Y.o.call a b);clear a b;obtain ⟨i,l⟩:∃ i,wantP L (failP L s 130) tSemi=i:=⟨_,rfl⟩;have m:=Zbp _ Z.o.1 tSemi;rw [l] at m;have m:=Kz m;have a0:stmtP L f s=putS i ⟨0,0,noB,[],0,d⟩:=by unfold stmtP;rw [R.o];dsimp only;rw [l]
 have b8:=Kz a0;have a1:i.ss=s.ss:=by
  have a2:=(G.want (L:=L) (failP L s 130) tSemi).hs;rw [l] at a2;have a3:=b5.o.hs;rw [R.o] at a3;exact a2.trans a3
 have b9:i.ss.length≤64:=by rw [a1];exact b2
 clear a0 l a1
 go_wp2_with fail
 refine (m.o).mono ?_
 rintro e n ⟨⟨v,rfl⟩,a,b⟩
 have c:=Kz (Z.o.call a b);clear a b;obtain ⟨a4,a5,d3,d4,ev,r⟩:=c.o.1;have x:=Kz r;have c2:=r.c2;obtain ⟨D,E⟩:=Ky i.ss.length;rw [←E] at c2;have F:=Kz E;have c6:D+1≤1000000:=by omega
 have r0:=c.o.c0;have r1:=c.o.c1;have r2:=c.o.c2;have r3:=c.o.c3;have r4:=c.o.c4;have r5:=c.o.c5;have d5:∀ o:Obj,(n.alloc o).cell? ⟨P,2,none⟩=some (.slice a4 D a5):=fun o=>(World.cell?_alloc_lt n o ⟨P,2,none⟩ x.o.lt).trans c2
 obtain ⟨a6,a7,a8⟩:=ZdZ r c.o.2.2.2;have a9:=Kz a7;have c7:=Kz a8;clear r E a7 a8
 go_wp2_with fail
 have H:=Kz (fun o:Obj=>x.o.below (w':=(n.alloc o).drew) ((Kai _ _).alloc (Kag _) o).drew)
 go_region_law (refine Zci (X:=fun k=>X k∨a6 k) rfl (.tmp 58) (.tmp 60) rfl base a4 a5 i.ss D F.o.symm rfl (a9.o _).1 n.heap.size rfl (⟨0,0,noB,[],0,d⟩,(Value.slice none 0 0)) (Kac _ _) (c7.o _) c6 (by have:=x.o.base_le;simp;omega) ?_;intro d6 d7 w5 b0 I;have J:=pr_ne (H.o _) I P _ _ _ (H.o _).blk (by decide);have q3:=Zea F.o J;have z3:=Zan J 2;have c8:=Kz (ZdY (X:=X) (fun k c9=>.inl c9) (H.o _) a6 b0 (a9.o _).2 I b9);clear J b0 I)
 all_goals
  go_wp2
  go_end0
  have d0:=F.o;subst d0;obtain ⟨x1,x2⟩:=c8.o;exact ⟨⟨_,rfl⟩,by rw [b8.o];exact x1.pm,(((K1.o.trans c.o.2.1).toBelow b3).trans (Below.mono (((Kai _ _).alloc (Kag _) _).drew) x.o.base_le)).trans x2⟩
theorem ZgA (f:Nat) (w:World) (s:PS) (h:PM X base P TA tc L s w) (b5:s.ss.length≤64) (d6:12*L.length+20≤f) (T:s.ss.length≠64) (C:isP L s Zcz=false) (D:isP L s tLet=false) (E:isP L s Zdo=true):
  Calls Tryz.prog 84 #[PP P] w fun e w'=>(∃ v,e=.returned v)∧PM X base P TA tc L (stmtP L f s) w'∧Below base w w':=by
 have b6:=h.base_le;obtain ⟨kd,V,nm,d,W⟩:∃ kd V nm d,nowP L s=⟨kd,V,nm,d⟩:=⟨_,_,_,_,rfl⟩;have Y:=Kz W;have b7:=Kz h;have b8:=Kz (Zdz (L:=L) f s);clear h W;have q6:((s.ss.length:Int)==64)=false:=by rw [Kaj];omega
 obtain ⟨l,j,F⟩:∃ l j,nameP L (advP s)=(l,j):=⟨_,_,rfl⟩;have Z:=Kz (show bodyP L f s=(l,⟨3,0,j,[],0,d⟩) from by unfold bodyP;rw [if_neg T,C,D,E,Y.o];dsimp only;rw [F];rfl)
 have Q1:=Kz C;have Q2:=Kz D;have Q3:=Kz E;have b9:=Kz F;clear T C D E F
 go_enter Tryz.func84,Tryz.ntmps84
 go_wp2_with fail
 refine (Za7 w b7.o Y.o).mono ?_
 rintro e w1 ⟨rfl,m,k1,b1⟩
 obtain ⟨SA,sc,c2,d2⟩:=pm_c2 m;clear c2;have H1:=Kz (show ∃ s0,PM X base P TA tc L s0 w1 from ⟨s,m⟩)
 have K1:=Kz k1;have c6:=Kz m;clear m k1 b1
 go_wp2_with fail
 obtain ⟨c7,H⟩:=Ky (w1.alloc (.cells #[.int .i64 0,.int .i64 0,.string ⟨#[]⟩,.slice none 0 0,.int .i64 0,.int .i64 d] 93));rw [←H];have a0:=Kz (show SM X base P TA tc L w1 w1.heap.size s 0 0 ⟨#[]⟩ (.slice none 0 0) [] 0 d c7 from by rw [H];exact ⟨ZcZ (c6.o.below (Zai w1 _)),KT.below (Zai w1 _),Kac _ _,ArgsV.nil _ _ _⟩)
 clear H d2;refine (ZaT _ a0.o.1 Zcz Q1.o).mono ?_
 rintro e v8 ⟨rfl,a,b⟩
 have S8:=Kz (a0.o.call a b);clear a b
 go_wp2_with fail
 refine (ZaT _ S8.o.1 tLet Q2.o).mono ?_
 rintro e v9 ⟨rfl,a,b⟩
 have S9:=Kz (S8.o.call a b);clear a b
 go_wp2_with fail
 refine (Zbf _ S9.o.1 Zdo Q3.o).mono ?_
 rintro e d7 ⟨rfl,a,b⟩
 have I:=Kz (S9.o.call a b);clear a b;have d8:=I.o.c0;have d9:=I.o.free 0;have a1:=Kz (Zg8 I.o H1.o (Kag _) 3);have n:=Zg7 _ a1.o.1;rw [b9.o] at n;have n:=Kz n
 go_wp2_with fail
 refine (n.o).mono ?_
 rintro e e0 ⟨rfl,a,b⟩
 have J:=Kz (a1.o.call a b);clear a b;have e1:=J.o.c2;have e2:=J.o.free 2;have a2:=Kz (Zg9 J.o H1.o (Kag _) j);obtain ⟨i,r⟩:∃ i,wantP L l tSemi=i:=⟨_,rfl⟩;have x:=Zbp _ a2.o.1 tSemi;rw [r] at x;have x:=Kz x;have a3:stmtP L f s=putS i ⟨3,0,j,[],0,d⟩:=by unfold stmtP;rw [Z.o];dsimp only;rw [r]
 have c8:=Kz a3;have a4:i.ss=s.ss:=by
  have a5:=(G.want (L:=L) l tSemi).hs;rw [r] at a5;have a6:=b8.o.hs;rw [Z.o] at a6;exact a5.trans a6
 have c9:i.ss.length≤64:=by rw [a4];exact b5
 clear a3 r a4
 go_wp2_with fail
 refine (x.o).mono ?_
 rintro e y ⟨⟨v,rfl⟩,a,b⟩
 have c:=Kz (a2.o.call a b);clear a b;obtain ⟨a7,a8,e3,e4,ev,z⟩:=c.o.1;have B:=Kz z;have c2:=z.c2;obtain ⟨M,N⟩:=Ky i.ss.length;rw [←N] at c2;have O:=Kz N;have d0:M+1≤1000000:=by omega
 have r0:=c.o.c0;have r1:=c.o.c1;have r2:=c.o.c2;have r3:=c.o.c3;have r4:=c.o.c4;have r5:=c.o.c5;have e5:∀ o:Obj,(y.alloc o).cell? ⟨P,2,none⟩=some (.slice a7 M a8):=fun o=>(World.cell?_alloc_lt y o ⟨P,2,none⟩ B.o.lt).trans c2
 obtain ⟨a9,b0,b2⟩:=ZdZ z c.o.2.2.2;have b3:=Kz b0;have d1:=Kz b2;clear z N b0 b2
 go_wp2_with fail
 have Q:=Kz (fun o:Obj=>B.o.below (w':=(y.alloc o).drew) ((Kai _ _).alloc (Kag _) o).drew)
 go_region_law (refine Zci (X:=fun k=>X k∨a9 k) rfl (.tmp 58) (.tmp 60) rfl base a7 a8 i.ss M O.o.symm rfl (b3.o _).1 y.heap.size rfl (⟨3,0,j,[],0,d⟩,(Value.slice none 0 0)) (Kac _ _) (d1.o _) d0 (by have:=B.o.base_le;simp;omega) ?_;intro e6 e7 w5 b4 R;have S:=pr_ne (Q.o _) R P _ _ _ (Q.o _).blk (by decide);have q3:=Zea O.o S;have z3:=Zan S 2;have d3:=Kz (ZdY (X:=X) (fun k d4=>.inl d4) (Q.o _) a9 b4 (b3.o _).2 R c9);clear S b4 R)
 all_goals
  go_wp2
  go_end0
  have d5:=O.o;subst d5;obtain ⟨x1,x2⟩:=d3.o;exact ⟨⟨_,rfl⟩,by rw [c8.o];exact x1.pm,(((K1.o.trans c.o.2.1).toBelow b6).trans (Below.mono (((Kai _ _).alloc (Kag _) _).drew) B.o.base_le)).trans x2⟩
theorem Zlw (f:Nat) (w:World) (s:PS) (h:PM X base P TA tc L s w) (d1:s.ss.length≤64) (e8:12*L.length+20≤f) (a3:s.ss.length≠64) (I:isP L s Zcz=false) (J:isP L s tLet=true):
  Calls Tryz.prog 84 #[PP P] w fun e w'=>(∃ v,e=.returned v)∧PM X base P TA tc L (stmtP L f s) w'∧Below base w w':=by
 have d3:=h.base_le;obtain ⟨kd,a4,nm,d,a5⟩:∃ kd a4 nm d,nowP L s=⟨kd,a4,nm,d⟩:=⟨_,_,_,_,rfl⟩;have a6:=Kz a5;have d4:=Kz h;have d5:=Kz (Zdz (L:=L) f s);clear h a5;have q6:((s.ss.length:Int)==64)=false:=by rw [Kaj];omega
 obtain ⟨M,j,N⟩:∃ M j,nameP L (advP s)=(M,j):=⟨_,_,rfl⟩;obtain ⟨r,l⟩:∃ r,wantP L M tEq=r:=⟨_,rfl⟩;obtain ⟨n,m,O⟩:∃ n m,exprP L f r=(n,m):=⟨_,_,rfl⟩;have a7:=Kz (show bodyP L f s=(n,⟨2,0,j,[],m,d⟩) from by unfold bodyP;rw [if_neg a3,I,J,a6.o];dsimp only;rw [N];dsimp only;rw [l,O];rfl)
 have Q1:=Kz I;have Q2:=Kz J;have d6:=Kz N;have d7:=Kz l;have d8:=Kz O;clear a3 I J N l O
 go_enter Tryz.func84,Tryz.ntmps84
 go_wp2_with fail
 refine (Za7 w d4.o a6.o).mono ?_
 rintro e w1 ⟨rfl,x,k1,b1⟩
 obtain ⟨SA,sc,c2,d2⟩:=pm_c2 x;clear c2;have Q:=Kz (show ∃ s0,PM X base P TA tc L s0 w1 from ⟨s,x⟩)
 have K1:=Kz k1;have d9:=Kz x;clear x k1 b1
 go_wp2_with fail
 obtain ⟨e0,R⟩:=Ky (w1.alloc (.cells #[.int .i64 0,.int .i64 0,.string ⟨#[]⟩,.slice none 0 0,.int .i64 0,.int .i64 d] 93));rw [←R];have a8:=Kz (show SM X base P TA tc L w1 w1.heap.size s 0 0 ⟨#[]⟩ (.slice none 0 0) [] 0 d e0 from by rw [R];exact ⟨ZcZ (d9.o.below (Zai w1 _)),KT.below (Zai w1 _),Kac _ _,ArgsV.nil _ _ _⟩)
 clear R d2;refine (ZaT _ a8.o.1 Zcz Q1.o).mono ?_
 rintro e e9 ⟨rfl,a,b⟩
 have a9:=Kz (a8.o.call a b);clear a b
 go_wp2_with fail
 refine (Zbf _ a9.o.1 tLet Q2.o).mono ?_
 rintro e f0 ⟨rfl,a,b⟩
 have S:=Kz (a9.o.call a b);clear a b;have f1:=S.o.c0;have f2:=S.o.free 0;have b0:=Kz (Zg8 S.o Q.o (Kag _) 2);have y:=Zg7 _ b0.o.1;rw [d6.o] at y;have y:=Kz y
 go_wp2_with fail
 refine (y.o).mono ?_
 rintro e f3 ⟨rfl,a,b⟩
 have T:=Kz (b0.o.call a b);clear a b;have f4:=T.o.c2;have f5:=T.o.free 2;have b2:=Kz (Zg9 T.o Q.o (Kag _) j);have z:=Zbp _ b2.o.1 tEq;rw [d7.o] at z;have z:=Kz z
 go_wp2_with fail
 refine (z.o).mono ?_
 rintro e f6 ⟨⟨v,rfl⟩,a,b⟩
 have b3:=Kz (b2.o.call a b);clear a b;have B:=(allW base P TA tc L f).expr _ r b3.o.1 (by omega)
 rw [d8.o] at B;have B:=Kz B
 go_wp2_with fail
 refine (B.o).mono ?_
 rintro e f7 ⟨rfl,a,b⟩
 have V:=Kz (b3.o.call a b);clear a b;have f8:=V.o.c4;have f9:=V.o.free 4;have b4:=Kz (ZmR V.o Q.o (Kag _) m);obtain ⟨i,C⟩:∃ i,wantP L n tSemi=i:=⟨_,rfl⟩;have D:=Zbp _ b4.o.1 tSemi;rw [C] at D;have D:=Kz D;have b5:stmtP L f s=putS i ⟨2,0,j,[],m,d⟩:=by unfold stmtP;rw [a7.o];dsimp only;rw [C]
 have e1:=Kz b5;have b6:i.ss=s.ss:=by
  have b7:=(G.want (L:=L) n tSemi).hs;rw [C] at b7;have b8:=d5.o.hs;rw [a7.o] at b8;exact b7.trans b8
 have e2:i.ss.length≤64:=by rw [b6];exact d1
 clear b5 C b6
 go_wp2_with fail
 refine (D.o).mono ?_
 rintro e E ⟨⟨v,rfl⟩,a,b⟩
 have c:=Kz (b4.o.call a b);clear a b;obtain ⟨b9,c6,g0,g1,ev,F⟩:=c.o.1;have H:=Kz F;have c2:=F.c2;obtain ⟨W,Y⟩:=Ky i.ss.length;rw [←Y] at c2;have Z:=Kz Y;have e3:W+1≤1000000:=by omega
 have r0:=c.o.c0;have r1:=c.o.c1;have r2:=c.o.c2;have r3:=c.o.c3;have r4:=c.o.c4;have r5:=c.o.c5;have g2:∀ o:Obj,(E.alloc o).cell? ⟨P,2,none⟩=some (.slice b9 W c6):=fun o=>(World.cell?_alloc_lt E o ⟨P,2,none⟩ H.o.lt).trans c2
 obtain ⟨c7,c8,c9⟩:=ZdZ F c.o.2.2.2;have d0:=Kz c8;have e4:=Kz c9;clear F Y c8 c9
 go_wp2_with fail
 have a0:=Kz (fun o:Obj=>H.o.below (w':=(E.alloc o).drew) ((Kai _ _).alloc (Kag _) o).drew)
 go_region_law (refine Zci (X:=fun k=>X k∨c7 k) rfl (.tmp 58) (.tmp 60) rfl base b9 c6 i.ss W Z.o.symm rfl (d0.o _).1 E.heap.size rfl (⟨2,0,j,[],m,d⟩,(Value.slice none 0 0)) (Kac _ _) (e4.o _) e3 (by have:=H.o.base_le;simp;omega) ?_;intro g3 g4 w5 l a1;have a2:=pr_ne (a0.o _) a1 P _ _ _ (a0.o _).blk (by decide);have q3:=Zea Z.o a2;have z3:=Zan a2 2;have e5:=Kz (ZdY (X:=X) (fun k e6=>.inl e6) (a0.o _) c7 l (d0.o _).2 a1 e2);clear a2 l a1)
 all_goals
  go_wp2
  go_end0
  have e7:=Z.o;subst e7;obtain ⟨x1,x2⟩:=e5.o;exact ⟨⟨_,rfl⟩,by rw [e1.o];exact x1.pm,(((K1.o.trans c.o.2.1).toBelow d3).trans (Below.mono (((Kai _ _).alloc (Kag _) _).drew) H.o.base_le)).trans x2⟩
theorem ZhX (f:Nat) (w:World) (s:PS) (h:PM X base P TA tc L s w) (d7:s.ss.length≤64) (f4:12*L.length+20≤f) (a6:s.ss.length≠64) (J:isP L s Zcz=true):
  Calls Tryz.prog 84 #[PP P] w fun e w'=>(∃ v,e=.returned v)∧PM X base P TA tc L (stmtP L f s) w'∧Below base w w':=by
 have d8:=h.base_le;obtain ⟨kd,a7,nm,d,a8⟩:∃ kd a7 nm d,nowP L s=⟨kd,a7,nm,d⟩:=⟨_,_,_,_,rfl⟩;have b0:=Kz a8;have d9:=Kz h;have e0:=Kz (Zdz (L:=L) f s);clear h a8;have q6:((s.ss.length:Int)==64)=false:=by rw [Kaj];omega
 obtain ⟨M,m,r⟩:∃ M m,Zaw L (advP s)=(M,m):=⟨_,_,rfl⟩;obtain ⟨N,n,O⟩:∃ N n,nameP L M=(N,n):=⟨_,_,rfl⟩;obtain ⟨sh,i,Q⟩:∃ sh i,Zbr L f N=(sh,i):=⟨_,_,rfl⟩;have b2:=Kz (show bodyP L f s=(sh,⟨1,m,n,i,0,d⟩) from by unfold bodyP;rw [if_neg a6,J,b0.o];dsimp only;rw [r];dsimp only;rw [O];dsimp only;rw [Q];rfl)
 have Q1:=Kz J;have e1:=Kz r;have e2:=Kz O;have e3:=Kz Q;clear a6 J r O Q
 go_enter Tryz.func84,Tryz.ntmps84
 go_wp2_with fail
 refine (Za7 w d9.o b0.o).mono ?_
 rintro e w1 ⟨rfl,x,k1,b1⟩
 obtain ⟨SA,sc,c2,d2⟩:=pm_c2 x;clear c2;have y:=Kz (show ∃ s0,PM X base P TA tc L s0 w1 from ⟨s,x⟩)
 have K1:=Kz k1;have e4:=Kz x;clear x k1 b1
 go_wp2_with fail
 obtain ⟨e5,R⟩:=Ky (w1.alloc (.cells #[.int .i64 0,.int .i64 0,.string ⟨#[]⟩,.slice none 0 0,.int .i64 0,.int .i64 d] 93));rw [←R];have b3:=Kz (show SM X base P TA tc L w1 w1.heap.size s 0 0 ⟨#[]⟩ (.slice none 0 0) [] 0 d e5 from by rw [R];exact ⟨ZcZ (e4.o.below (Zai w1 _)),KT.below (Zai w1 _),Kac _ _,ArgsV.nil _ _ _⟩)
 clear R d2;refine (Zbf _ b3.o.1 Zcz Q1.o).mono ?_
 rintro e f5 ⟨rfl,a,b⟩
 have S:=Kz (b3.o.call a b);clear a b;have f6:=S.o.c0;have f7:=S.o.free 0;have b4:=Kz (Zg8 S.o y.o (Kag _) 1);have z:=ZcW _ b4.o.1;rw [e1.o] at z;have z:=Kz z
 go_wp2_with fail
 refine (z.o).mono ?_
 rintro e f8 ⟨rfl,a,b⟩
 have T:=Kz (b4.o.call a b);clear a b;have f9:=T.o.c1;have g0:=T.o.free 1;have b5:=Kz (ZmP T.o y.o (Kag _) m);have B:=Zg7 _ b5.o.1;rw [e2.o] at B;have B:=Kz B
 go_wp2_with fail
 refine (B.o).mono ?_
 rintro e g1 ⟨rfl,a,b⟩
 have V:=Kz (b5.o.call a b);clear a b;have g2:=V.o.c2;have g3:=V.o.free 2;have b6:=Kz (Zg9 V.o y.o (Kag _) n);have C:=Zlu f _ b6.o.1 (by omega)
 rw [e3.o] at C;have C:=Kz C
 go_wp2_with fail
 refine C.o.mono ?_
 rintro e g4 ⟨W,b7,rfl,a,b,a9⟩
 have Z:=Kz (b6.o.call (a.re fun k j=>.inl j) b)
 have e6:=Kz (a9.re (Y:=X) fun k j=>.inl (.inl j))
 have e7:=Kz (a.re (Y:=XA X W) fun k j=>j.elim (fun e8=>.inl (.inl e8)) .inr)
 clear a b a9;have g5:=Z.o.c3;have g6:=Z.o.free 3;have b8:=Kz (ZmQ Z.o y.o (Kag _) W i.length b7 e6.o e7.o);obtain ⟨l,D⟩:∃ l,wantP L sh tSemi=l:=⟨_,rfl⟩;have E:=Zbp _ b8.o.1 tSemi;rw [D] at E;have E:=Kz E;have b9:stmtP L f s=putS l ⟨1,m,n,i,0,d⟩:=by unfold stmtP;rw [b2.o];dsimp only;rw [D]
 have e9:=Kz b9;have c6:l.ss=s.ss:=by
  have c7:=(G.want (L:=L) sh tSemi).hs;rw [D] at c7;have c8:=e0.o.hs;rw [b2.o] at c8;exact c7.trans c8
 have f0:l.ss.length≤64:=by rw [c6];exact d7
 clear b9 D c6
 go_wp2_with fail
 refine (E.o).mono ?_
 rintro e F ⟨⟨v,rfl⟩,a,b⟩
 have c:=Kz (b8.o.call a b);clear a b;obtain ⟨c9,d0,g7,g8,ev,H⟩:=c.o.1;have I:=Kz H;have c2:=H.c2;obtain ⟨a0,a1⟩:=Ky l.ss.length;rw [←a1] at c2;have a2:=Kz a1;have f1:a0+1≤1000000:=by omega
 have r0:=c.o.c0;have r1:=c.o.c1;have r2:=c.o.c2;have r3:=c.o.c3;have r4:=c.o.c4;have r5:=c.o.c5;have g9:∀ o:Obj,(F.alloc o).cell? ⟨P,2,none⟩=some (.slice c9 a0 d0):=fun o=>(World.cell?_alloc_lt F o ⟨P,2,none⟩ I.o.lt).trans c2
 obtain ⟨d1,d3,d4⟩:=ZdZ H c.o.2.2.2;have d5:=Kz d3;have f2:=Kz d4;clear H a1 d3 d4
 go_wp2_with fail
 have a3:=Kz (fun o:Obj=>I.o.below (w':=(F.alloc o).drew) ((Kai _ _).alloc (Kag _) o).drew)
 go_region_law (refine Zci (X:=fun k=>X k∨d1 k) rfl (.tmp 58) (.tmp 60) rfl base c9 d0 l.ss a0 a2.o.symm rfl (d5.o _).1 F.heap.size rfl (⟨1,m,n,i,0,d⟩,(Value.slice W i.length b7)) (Kac _ _) (f2.o _) f1 (by have:=I.o.base_le;simp;omega) ?_;intro h0 h1 w5 d6 a4;have a5:=pr_ne (a3.o _) a4 P _ _ _ (a3.o _).blk (by decide);have q3:=Zea a2.o a5;have z3:=Zan a5 2;have f3:=Kz (ZdY (X:=X) (fun k j=>.inl j) (a3.o _) d1 d6 (d5.o _).2 a4 f0);clear a5 d6 a4)
 all_goals
  go_wp2
  go_end0
  have r:=a2.o;subst r;obtain ⟨x1,x2⟩:=f3.o;exact ⟨⟨_,rfl⟩,by rw [e9.o];exact x1.pm,(((K1.o.trans c.o.2.1).toBelow d8).trans (Below.mono (((Kai _ _).alloc (Kag _) _).drew) I.o.base_le)).trans x2⟩
theorem Zlx (f:Nat) (w:World) (s:PS) (h:PM X base P TA tc L s w) (a:s.ss.length≤64) (b:12*L.length+20≤f):
  Calls Tryz.prog 84 #[PP P] w fun e w'=>(∃ v,e=.returned v)∧PM X base P TA tc L (stmtP L f s) w'∧Below base w w':=by
 by_cases c:s.ss.length=64
 ·exact Zj5 f w s h a b c
 cases hq1:isP L s Zcz with
 | true=>exact ZhX f w s h a b c hq1
 | false=>
  cases hq2:isP L s tLet with
  | true=>exact Zlw f w s h a b c hq1 hq2
  | false=>
   cases hq3:isP L s Zdo with
   | true=>exact ZgA f w s h a b c hq1 hq2 hq3
   | false=>exact Zj6 f w s h a b c hq1 hq2 hq3
end
end Go.Proofs.YtghlnncfigkkaaaGreatDoor
