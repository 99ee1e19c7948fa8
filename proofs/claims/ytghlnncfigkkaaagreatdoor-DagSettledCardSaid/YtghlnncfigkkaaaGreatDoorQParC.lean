/-
 The parser's put: a further expression in its row.
-/
import Derived.Test.YtghlnncfigkkaaaGreatDoorQParB
import Derived.Deep.AppendLies
set_option maxRecDepth 100000
set_option maxHeartbeats 4000000
set_option linter.unusedVariables false
set_option linter.unusedSimpArgs false
namespace Go.Proofs.YtghlnncfigkkaaaGreatDoor
open Go.RowKit
theorem ZmI:(Tryz.prog.info? 90).map (fun i=>(i.zero,i.size,i.bytes))=some (some (.agg #[.int .i64 0,.string ⟨#[]⟩,.int .u64 0,.slice none 0 0,.int .i64 0]),5,64):=by kernel_rfl
theorem Zhn {X:Nat→Prop} {base:Nat} {w:World} {v:Value} {l:List Nat} (h:ArgsV X base w v l):v.oneCell'=true:=by
 obtain ⟨A,c,rfl,_⟩:=h;rfl
theorem Zjv {X:Nat→Prop} {w:World} {p:Array Oper} {o:Oper} {a:Act} {K:Act→World→Prop} {Q:Exit→Act→World→Prop} {E:Prop} (D:o.guard=none) (s x:Operand)
  (F:o.op=.call { callee:=.builtin .append,args:=#[s,x],argTypes:=#[24,24] }) (base:Nat)
  (A:Option Addr) (q:Nat) (g:List Ex) (n:Nat) (H:g.length=n) (I:a.eval s=.slice A n q) (m:Ex × Value) (J:OwnEX (XA X (vA m.2)) w base A q g)
  (e:Nat) (M:a.eval x=.slice (some ⟨e,0,none⟩) 1 1) (N:w.heap[e]?=some (.cells (Zc5 m).toArray 90 (0,0))) (r:ArgsV X base w m.2 m.1.args)
  (a6:n+1≤1000000) (O:base≤w.heap.size)
  (h:∀ A' i c,OwnEX X c base A' i (g++[m.1])→w.grownBy c (blk A)→KT base w c→K (a.put o.dst (.slice A' (n+1) i)) c):
  if Region.wanted o (yielded p a.tmps)=true then Oper.wp Tryz.prog o a w K Q else E:=by
 have R:Region.wanted o (yielded p a.tmps)=true:=by simp [Region.wanted,D]
 rw [if_pos R];subst H;obtain ⟨v,S,z,B,T⟩:=J;obtain ⟨V,W,Y,Z,a0⟩:=info_parts ZmI;refine wp_append_own w s x 24 F base 90 V _ 5 64 Tryz.underlying24 W Y Z a0 rfl (by decide) _ g.length (v.flatMap Zc5) I z ⟨e,0,none⟩ 1 1 (Zc5 m) M rfl ?_ ?_ (by simp only [maxLen];omega) (by omega) O ?_
 ·intro j u f
  have a1:(⟨e,0,none⟩:Addr).add j=⟨e,j,none⟩:=by unfold Addr.add;split <;> simp_all
  rw [a1,cell_of_row w e j _ _ (0,0) N];simpa using f
 ·intro u f
  unfold Zc5 at f;simp at f;rcases f with rfl | rfl | rfl | rfl | rfl
  ·rfl
  ·rfl
  ·rfl
  ·exact Zhn r
  ·rfl
 ·intro a7 c C l _
  have b:KT base w c:=KT.grown (A:=A) (by rw [Za4] at l;exact l) rfl (Zcs z)
  rcases C.2 with ⟨_,h0⟩ | ⟨a2,i,cur,rfl,a8⟩
  ·omega
  ·refine h (some ⟨a2,0,none⟩) i c ⟨v++[m],by rw [List.map_append,S];rfl,?_,?_,?_⟩ (by rw [Za4] at l;exact l) b
   ·rw [List.flatMap_append,List.length_append];simp only [List.flatMap_cons,List.flatMap_nil,List.append_nil];exact C
   ·intro y d
    rcases List.mem_append.1 d with d | d
    ·exact ((B y d).re fun k b=>.inl (.inl b)).kt b
    ·rw [List.mem_singleton.1 d];exact r.kt b
   ·rw [List.pairwise_append];refine ⟨T,List.pairwise_singleton _ _,fun y d a9 a3 k b => ?_⟩
    rw [List.mem_singleton.1 a3];obtain ⟨b0,b1,a4,_,a5⟩:=B y d;rw [a4] at b;exact fun h=>a5 k b (.inr h)
section
variable {X:Nat→Prop} {base P tc:Nat} {TA:Option Addr} {L:List Tok} {s:PS} {SA EA:Option Addr} {sc ec:Nat} {ev:Value}
theorem pr_P {w w':World} (h:PR X base P TA tc L s w SA sc EA ec ev) (c:w.grownBy w' (blk EA)):w'.heap[P]?=some (.cells (PRow TA L.length tc s.i (.slice SA s.ss.length sc) (.slice EA s.es.length ec) s.deep ev) 160 (0,0)):=by
 have d:blk EA≠some P:=by
  obtain ⟨k,_,e,_⟩:=h.ownE;rcases Zcs e with rfl | ⟨g,cur,rfl,_,f⟩
  ·simp [blk]
  ·intro b
   have j:g=P:=by simpa [blk] using b
   subst j;have a:=h.blk;rw [f] at a;injection a with a
   injection a with _ a _
   exact absurd a (by decide)
 exact (c.block P h.lt (fun b=>d b.symm)).trans h.blk
theorem ZmJ {w:World} {n i b c:Nat} {ev:Value} {TA SA EA:Option Addr} {d tc sc ec a:Nat} (e:n=a) (h:w.heap[P]?=some (.cells (PRow TA d tc i (.slice SA b sc) (.slice EA a ec) c ev) 160 (0,0))):w.cell? ⟨P,3,none⟩=some (.slice EA n ec):=by
 subst e;exact Kaa 3 h
theorem Zn8 {Y:Nat→Prop} (m:∀ k,X k→Y k) {w w':World} (h:PR Y base P TA tc L s w SA sc EA ec ev) {e:Ex} {a:Option Addr} {b:Nat} (Z:Nat→Prop) (r:OwnSX (fun k=>X k∨Z k) w base SA sc s.ss) (n:OwnEX (fun k=>X k∨¬ Z k) w' base a b (s.es++[e])) (v:w.grownBy w' (blk EA)) (f:KT base w w') (x:s.es.length+1≤s.i):
  PR X base P TA tc L { s with es:=s.es++[e] } (w'.setCell ⟨P,3,none⟩ (.slice a (s.es.length+1:Nat) b)) SA sc a b ev∧KT base w (w'.setCell ⟨P,3,none⟩ (.slice a (s.es.length+1:Nat) b)):=by
 have j:=pr_P h v;have l:KT base w' (w'.setCell ⟨P,3,none⟩ (.slice a (s.es.length+1:Nat) b)):=KT.set (t:=⟨P,3,none⟩) j h.hb rfl _ rfl (by show (3:Nat)≠2;decide)
 have c:=f.trans l;have p:(w'.setCell ⟨P,3,none⟩ (.slice a (s.es.length+1:Nat) b)).heap[P]?=_:=heap_setCell_same _ _ _ _ _ _ j;rw [Zj8] at p;have q:∀ g cur,a=some ⟨g,0,none⟩→w'.heap[g]?=some (.cells cur 90 (0,0))→(w'.setCell ⟨P,3,none⟩ (.slice a (s.es.length+1:Nat) b)).heap[g]?=some (.cells cur 90 (0,0)):=by
  intro g cur A d
  rw [Zap _ _ _ (fun y=>by
   have z:g=P:=y;subst z;rw [j] at d;injection d with d
   injection d with _ d _
   exact absurd d (by decide))]
  exact d
 refine ⟨⟨h.hb,?_,(h.re m).ownS.kt c,(n.keep l q).re fun k f=>.inl (.inl f),h.err.kt c,h.toks.below (c.toBelow h.base_le),Zht h.ety h.etb c,h.etb,h.len,h.ii,h.dd,?_,h.sl,(h.re m).xk c,⟨Z,r.kt c,n.keep l q⟩⟩,c⟩
 ·rw [show (s.es++[e]).length=s.es.length+1 from by rw [List.length_append];rfl]
  exact p
 ·show (s.es++[e]).length≤s.i
  rw [List.length_append];exact x
theorem ZmK {Z:Nat→Prop} {b:Nat} {w:World} {A:Option Addr} {n c:Nat} {l:List Nat} (h:ArgsV X b w (.slice A n c) l):ArgsV (fun k=>X k∨¬ (Z k∨blk A=some k)) b w (.slice A n c) l:=by
 obtain ⟨p,c0,e,d,f⟩:=h;injection e with g i j
 subst g;exact ⟨A,c0,by rw [i,j],d,fun k a m=>m.elim (f k a) (fun h=>h (.inr a))⟩
theorem ZmL (w:World) (e:Ex) (v:Value) (h:PR (XA X (vA v)) base P TA tc L s w SA sc EA ec ev) (z:ArgsV X base w v e.args) (N:s.es.length+1≤s.i):
  Calls Tryz.prog 175 #[PP P,.agg #[.int .i64 e.kind,.string e.name,.int .u64 e.num,v,.int .i64 e.pos]] w fun r w'=>r=.returned (.int .i64 ((putP s e).2:Nat))∧PM X base P TA tc L (putP s e).1 w'∧KT base w w':=by
 obtain ⟨kd,m,num,l,p⟩:=e;obtain ⟨A,c,rfl,_⟩:=id z;dsimp only at z ⊢;obtain ⟨w1,b⟩:=Ky (w.alloc (.cells #[.int .i64 kd,.string m,.int .u64 num,.slice A l.length c,.int .i64 p] 90));have F:=Kv b;have d:=h.below F;have c5:=d.c5;have c3:=d.c3;have V:=d.free 3;have B:=KT.below (base:=base) F;have a6:=h.ii;have a7:=h.len;have W:=Kz (z.kt B);have j:w1.heap[w.heap.size]?=some (.cells #[.int .i64 kd,.string m,.int .u64 num,.slice A l.length c,.int .i64 p] 90 (0,0)):=by rw [b];exact Kac _ _
 cases herr:s.err with
 | some x=>
  obtain ⟨a8,a9,rfl⟩:=h.anErr (by rw [herr];simp)
  have C:=Kz (show putP s ⟨kd,m,num,l,p⟩=(s,0) from by unfold putP;rw [herr];rfl)
  have D:=Kz d;have H:=Kz B;rw [b] at c5;have I:=Kz b;clear h herr b F d c3 V B z j
  go_enter Tryz.func175,Tryz.ntmps175
  go_wp2
  go_ret;rw [←I.o];exact ⟨by rw [C.o];rfl,by rw [C.o];exact (D.o.re fun k a=>.inl a).pm,H.o⟩
 | none=>
  obtain rfl:=h.noErr herr;have C:=Kz (show putP s ⟨kd,m,num,l,p⟩=({ s with es:=s.es++[⟨kd,m,num,l,p⟩] },s.es.length) from by unfold putP;rw [herr];rfl)
  obtain ⟨Z,O,Q⟩:=d.sep;have R:=Kz (fun o:Obj=>And.intro ((O.kt (base':=base) (w':=(w1.alloc o).drew) (KT.below ((Kai _ _).alloc (Kag _) o).drew)).re (Y:=fun k=>X k∨(Z k∨blk A=some k)) (fun k a=>.inl (a.elim (fun x=>.inl (.inl x)) (fun x=>x.elim .inr (fun y=>.inl (.inr y)))))) ((Q.keep (base':=base) (w':=(w1.alloc o).drew) (KT.below ((Kai _ _).alloc (Kag _) o).drew) (fun g cur _ q=>(((Kai w1.heap.size w1).alloc (Kag _) o).drew.block g (Kab.1 q).1).trans q)).re (Y:=XA (fun k=>X k∨¬ (Z k∨blk A=some k)) A) (fun k a=>.inl (a.elim (fun x=>x.elim (fun y=>.inl (.inl y)) (fun y=>.inr (fun a0=>y (.inl a0)))) (fun x=>.inl (.inr x))))))
  have D:=Kz d;have H:=Kz B;have b0:=Kz j;rw [b] at c5;have I:=Kz b;have a1:=Kz N;obtain ⟨n,E⟩:=Ky s.es.length;rw [←E] at c3;have a2:n+1≤1000000:=by omega
  have J:=Kz E;have r0:=cell_of_row w1 _ 0 _ _ _ j;have r1:=cell_of_row w1 _ 1 _ _ _ j;have r2:=cell_of_row w1 _ 2 _ _ _ j;have r3:=cell_of_row w1 _ 3 _ _ _ j;have r4:=cell_of_row w1 _ 4 _ _ _ j;clear h herr b F d B z j N E O Q
  go_enter Tryz.func175,Tryz.ntmps175
  go_wp2_with fail
  rw [←I.o];clear c5;have b1:∀ o:Obj,(w1.alloc o).cell? ⟨P,3,none⟩=some (.slice EA n ec):=fun o=>(World.cell?_alloc_lt w1 o ⟨P,3,none⟩ D.o.lt).trans c3
  have S:=Kz (fun o:Obj=>D.o.below (w':=(w1.alloc o).drew) ((Kai _ _).alloc (Kag _) o).drew)
  have a3:=Kz (fun o:Obj=>W.o.kt (base:=base) (w':=(w1.alloc o).drew) (KT.below ((Kai _ _).alloc (Kag _) o).drew))
  have a4:=Kz (fun o:Obj=>(KT.below (base:=base) (w:=w1) (w':=(w1.alloc o).drew) ((Kai _ _).alloc (Kag _) o).drew))
  go_region_law (refine Zjv (X:=fun k=>X k∨¬ (Z k∨blk A=some k)) rfl (.tmp 15) (.tmp 17) rfl base EA ec s.es n J.o.symm rfl (⟨kd,m,num,l,p⟩,.slice A l.length c) (R.o _).2 w1.heap.size rfl (Kac _ _) (ZmK (a3.o _)) a2 (by have:=D.o.base_le;simp;omega) ?_;intro b2 b3 w5 T q a;have M:=pr_P (S.o _) q;have q3:=ZmJ J.o M;have z3:=Zan M 3;have a5:=Kz (Zn8 (X:=X) (fun k a=>.inl a) (S.o _) (fun k=>Z k∨blk A=some k) (R.o _).1 T q a a1.o);clear M T q a)
  all_goals
   go_wp2
   go_ret;have E:=J.o;subst E;obtain ⟨x1,x2⟩:=a5.o;exact ⟨by rw [C.o];rfl,by rw [C.o];exact x1.pm,H.o.trans ((a4.o _).trans x2)⟩
end
end Go.Proofs.YtghlnncfigkkaaaGreatDoor
namespace Go.Proofs.YtghlnncfigkkaaaGreatDoor
open Go.RowKit
attribute [local go_sem ↓] ZaO ZaP
def ZaR (X:Nat→Prop) (base P:Nat) (TA:Option Addr) (tc:Nat) (L:List Tok) (w:World) (r:PS × Nat) (e:Ending) (w':World):Prop:=e=.returned (.int .i64 (r.2:Nat))∧PM X base P TA tc L r.1 w'∧KT base w w'
structure AllW (base P:Nat) (TA:Option Addr) (tc:Nat) (L:List Tok) (f:Nat):Prop where
 expr:∀ {X:Nat→Prop} (w:World) (s:PS),PM X base P TA tc L s w→12*(L.length-s.i)+6≤f→Calls Tryz.prog 134 #[PP P] w (ZaR X base P TA tc L w (exprP L f s))
 sum:∀ {X:Nat→Prop} (w:World) (s:PS),PM X base P TA tc L s w→12*(L.length-s.i)+5≤f→Calls Tryz.prog 174 #[PP P] w (ZaR X base P TA tc L w (sumP L f s))
 prod:∀ {X:Nat→Prop} (w:World) (s:PS),PM X base P TA tc L s w→12*(L.length-s.i)+4≤f→Calls Tryz.prog 201 #[PP P] w (ZaR X base P TA tc L w (prodP L f s))
 sign:∀ {X:Nat→Prop} (w:World) (s:PS),PM X base P TA tc L s w→12*(L.length-s.i)+3≤f→Calls Tryz.prog 210 #[PP P] w (ZaR X base P TA tc L w (signP L f s))
 post:∀ {X:Nat→Prop} (w:World) (s:PS),PM X base P TA tc L s w→12*(L.length-s.i)+2≤f→Calls Tryz.prog 215 #[PP P] w (ZaR X base P TA tc L w (postP L f s))
 atom:∀ {X:Nat→Prop} (w:World) (s:PS),PM X base P TA tc L s w→12*(L.length-s.i)+1≤f→Calls Tryz.prog 218 #[PP P] w (ZaR X base P TA tc L w (atomP L f s))
section
variable {X:Nat→Prop} {base P tc:Nat} {TA:Option Addr} {L:List Tok} {s:PS}
theorem PM.el {w:World} (h:PM X base P TA tc L s w):s.es.length≤s.i∧s.i≤L.length∧L.length≤1000∧s.deep≤32:=by
 obtain ⟨_,_,_,_,_,h⟩:=h;exact ⟨h.el,h.ii,h.len,h.dd⟩
theorem PM.below {w w':World} (h:PM X base P TA tc L s w) (a:Below w.heap.size w w'):PM X base P TA tc L s w':=by
 obtain ⟨_,_,_,_,_,h⟩:=h;exact (h.below a).pm
theorem Za7 (w:World) (h:PM X base P TA tc L s w) {kd b c:Nat} {d:ByteArray} (g:nowP L s=⟨kd,d,b,c⟩):
  Calls Tryz.prog 83 #[PP P] w fun e w'=>e=.returned (.agg #[.int .i64 kd,.string d,.int .u64 b,.int .i64 c])∧PM X base P TA tc L s w'∧KT base w w'∧Below w.heap.size w w':=by
 obtain ⟨_,_,_,_,_,h⟩:=h;exact (ZfQ w h g).mono fun e w' ⟨i,a⟩=>⟨i,(h.below a).pm,KT.below a,a⟩
theorem is_pm (w:World) (h:PM X base P TA tc L s w) (t:ByteArray) {b:Bool} (c:isP L s t=b):
  Calls Tryz.prog 173 #[PP P,.string t] w fun e w'=>e=.returned (.bool b)∧PM X base P TA tc L s w'∧KT base w w':=by
 obtain ⟨_,_,_,_,_,h⟩:=h;subst c;exact (ZlM w h t).mono fun e w' ⟨d,a⟩=>⟨d,(h.below a).pm,KT.below a⟩
theorem Zbf (w:World) (h:PM X base P TA tc L s w) (t:ByteArray) (a:isP L s t=true):
  Calls Tryz.prog 129 #[PP P,.string t] w fun e w'=>e=.returned (.bool true)∧PM X base P TA tc L (advP s) w'∧KT base w w':=by
 obtain ⟨_,_,_,_,_,h⟩:=h;have:=Zfe w h t;rw [a] at this;exact this
theorem ZaT (w:World) (h:PM X base P TA tc L s w) (t:ByteArray) (a:isP L s t=false):
  Calls Tryz.prog 129 #[PP P,.string t] w fun e w'=>e=.returned (.bool false)∧PM X base P TA tc L s w'∧KT base w w':=by
 obtain ⟨_,_,_,_,_,h⟩:=h;have:=Zfe w h t;rw [a] at this;exact this
theorem Zbp (w:World) (h:PM X base P TA tc L s w) (t:ByteArray):
  Calls Tryz.prog 133 #[PP P,.string t] w fun e w'=>(∃ v,e=.returned v)∧PM X base P TA tc L (wantP L s t) w'∧KT base w w':=by
 obtain ⟨_,_,_,_,_,h⟩:=h;exact Zll w h t
theorem Zg6 (w:World) (h:PM X base P TA tc L s w) (c:Nat):
  Calls Tryz.prog 128 #[PP P,.int .i64 c] w fun e w'=>(∃ v,e=.returned v)∧PM X base P TA tc L (failP L s c) w'∧KT base w w':=by
 obtain ⟨_,_,_,_,_,h⟩:=h;exact Zb5 w h c
theorem ZcW (w:World) (h:PM X base P TA tc L s w):
  Calls Tryz.prog 130 #[PP P] w (ZaR X base P TA tc L w (Zaw L s)):=by
 obtain ⟨_,_,_,_,_,h⟩:=h;exact Zg5 w h
theorem Zcy (w:World) (e:Ex) (v:Value) (h:PM (XA X (vA v)) base P TA tc L s w) (a:ArgsV X base w v e.args) (b:s.es.length+1≤s.i):
  Calls Tryz.prog 175 #[PP P,.agg #[.int .i64 e.kind,.string e.name,.int .u64 e.num,v,.int .i64 e.pos]] w (ZaR X base P TA tc L w (putP s e)):=by
 obtain ⟨_,_,_,_,_,h⟩:=h;exact ZmL w e v h a b
theorem Zai (w:World) (o:Obj):Below w.heap.size w (w.alloc o):=(Kai _ _).alloc (Kag _) o
def curI (P:Nat) (w:World):Nat:=match w.cell? ⟨P,1,none⟩ with | some v=>(intOf v).toNat | none=>0
theorem PM.cur {w:World} (h:PM X base P TA tc L s w):curI P w=s.i:=by
 obtain ⟨_,_,_,_,_,h⟩:=h;unfold curI;rw [h.c1];simp [intOf]
theorem Zjw (f:Nat) (k:∀ f',f'≤f→AllW base P TA tc L f') (w:World) (s:PS) (h:PM X base P TA tc L s w) (a4:12*(L.length-s.i)+6≤f+1):
  Calls Tryz.prog 134 #[PP P] w (ZaR X base P TA tc L w (exprP L (f+1) s)):=by
 have C:=Kz ((k f (Kag _)).sum w s h (by omega))
 have d:=(allG L f).sum s;have a5:=h.el;obtain ⟨a,g,l⟩:∃ a g,sumP L f s=(a,g):=⟨_,_,rfl⟩;rw [l] at C d;obtain ⟨kd,O,Q,v,x⟩:∃ kd O Q v,nowP L a=⟨kd,O,Q,v⟩:=⟨_,_,_,_,rfl⟩;have R:=Kz x;have a6:=Kz k;have a7:=Kz d
 cases hq:isP L a tLess with
 | false=>
  have m:=Kz (show exprP L (f+1) s=(a,g) from by rw [exprP,l];simp only [hq];rfl)
  have D:=Kz hq;clear k l x hq h d
  go_enter Tryz.func134,Tryz.ntmps134
  go_wp2_with fail
  refine C.o.mono ?_
  rintro e w1 ⟨rfl,j,n⟩
  have E:=Kz j;have F:=Kz n;clear j n
  go_wp2_with fail
  refine (Za7 w1 E.o R.o).mono ?_
  rintro e w2 ⟨rfl,b,p,_⟩
  have H:=Kz b;have I:=Kz (F.o.trans p);clear b p
  go_wp2_with fail
  refine (ZaT w2 H.o tLess D.o).mono ?_
  rintro e w3 ⟨rfl,c,q⟩
  have J:=Kz c;have M:=Kz (I.o.trans q);clear c q
  go_wp2
  go_ret;exact ⟨by rw [m.o];rfl,by rw [m.o];exact J.o,M.o⟩
 | true=>
  have a0:=ZaD hq;have a1:s.i≤a.i:=d.hi;have S:=Kz (fun T (a2:PM X base P TA tc L _ T)=>(k f (Kag _)).sum T (advP a) a2 (by show 12*(L.length-(a.i+1))+5≤f;omega))
  have y:=(allG L f).sum (advP a);obtain ⟨r,t,N⟩:∃ r t,sumP L f (advP a)=(r,t):=⟨_,_,rfl⟩;rw [N] at S y;have V:r.es.length+1≤r.i:=by
   have j:a.es.length+s.i+0≤s.es.length+a.i:=d.he;have b:=y.he;have c:=y.hi;have z:(advP a).i=a.i+1:=rfl;have B:(advP a).es=a.es:=rfl;simp only [z,B] at b c;omega
  have m:=Kz (show exprP L (f+1) s=putP r ⟨8,noB,0,[g,t],v⟩ from by rw [exprP,l];simp only [hq,N,x];rfl)
  have D:=Kz hq;have a3:=Kz V;clear k l x hq h d y N V a0 a1
  go_enter Tryz.func134,Tryz.ntmps134
  go_wp2_with fail
  refine C.o.mono ?_
  rintro e w1 ⟨rfl,j,n⟩
  have E:=Kz j;have F:=Kz n;clear j n
  go_wp2_with fail
  refine (Za7 w1 E.o R.o).mono ?_
  rintro e w2 ⟨rfl,b,p,_⟩
  have H:=Kz b;have I:=Kz (F.o.trans p);clear b p
  go_wp2_with fail
  refine (Zbf w2 H.o tLess D.o).mono ?_
  rintro e w3 ⟨rfl,c,q⟩
  have J:=Kz c;have M:=Kz (I.o.trans q);clear c q
  go_wp2_with fail
  refine (S.o w3 J.o).mono ?_
  rintro e w4 ⟨rfl,z,W⟩
  have Y:=Kz z;have K4:=Kz (M.o.trans W);clear z W
  go_wp2_with fail
  refine (Zcy _ ⟨8,noB,0,[g,t],v⟩ _ (Zcj Y.o _) (args2 Y.o g t) a3.o).mono ?_
  rintro e w5 ⟨rfl,B,Z⟩
  have H5:=Kz B;have K5:=Kz ((K4.o.trans (KT.below (Zai w4 _))).trans Z);clear B Z
  go_wp2
  go_ret;exact ⟨by rw [m.o];rfl,by rw [m.o];exact H5.o,K5.o⟩
def Zn9 (X:Nat→Prop) (base P:Nat) (TA:Option Addr) (tc:Nat) (L:List Tok) (f:Nat) (w:World) (R:PS × Nat) (av:Value) (wr:World):Prop:=
 ∃ (f':Nat) (s':PS) (a':Nat),f'≤f∧R=ZaH L f' s' a'∧av=.int .i64 a'∧PM X base P TA tc L s' wr∧KT base w wr∧12*(L.length-s'.i)+1≤f'
theorem Zlo (f:Nat) (V:∀ c,c≤f→AllW base P TA tc L c) (w:World) (s:PS) (h:PM X base P TA tc L s w) (d1:12*(L.length-s.i)+5≤f+1):
  Calls Tryz.prog 174 #[PP P] w (ZaR X base P TA tc L w (sumP L (f+1) s)):=by
 have a9:=Kz ((V f (Kag _)).prod w s h (by omega))
 have W:=(allG L f).prod s;obtain ⟨C,S,Y⟩:∃ C S,prodP L f s=(C,S):=⟨_,_,rfl⟩;rw [Y] at a9 W;obtain ⟨R,Z⟩:=Ky (ZaH L f C S);have b0:sumP L (f+1) s=R:=by rw [sumP,Y,Z]
 rw [b0];have c6:=Kz Z;have c7:s.i≤C.i:=W.hi;have d2:=h.el;have b1:=Kz V;have b2:12*(L.length-C.i)+1≤f:=by omega
 have c8:=Kz b2;clear V Y Z b0 h W c7 b2
 go_enter Tryz.func174,Tryz.ntmps174
 go_wp2_with fail
 refine a9.o.mono ?_
 rintro e w1 ⟨rfl,h1,k1⟩
 have H1:=Kz h1;have K1:=Kz k1;clear h1 k1
 go_wp2
 go_loopw [3] (fun b3 wr=>Zn9 X base P TA tc L f w R b3 wr) (fun b3 wr=>L.length-curI P wr)
 case atStart=>exact ⟨f,C,S,Kag _,c6.o,rfl,H1.o,K1.o,c8.o⟩
 case round=>
  obtain ⟨c,b,q,d3,b4,rfl,T,b5,d4⟩:=hrel;obtain ⟨c,rfl⟩:∃ g,c=g+1:=⟨c-1,by omega⟩
  have b6:=Kz T.cur;obtain ⟨d5,d6,d7,_⟩:=T.el;obtain ⟨kd,b7,b8,x,b9⟩:∃ kd b7 b8 x,nowP L b=⟨kd,b7,b8,x⟩:=⟨_,_,_,_,rfl⟩;have D:=Kz b9;have a0:=Kz T;have a1:=Kz b5;have a2:=Kz b4;clear T b5 b9 b4
  cases hq0:isP L b tPlus with
  | true=>
   have c9:=ZaD hq0;have E:=Kz (fun F (a3:PM X base P TA tc L _ F)=>(b1.o c (by omega)).prod F (advP b) a3 (by show 12*(L.length-(b.i+1))+4≤c;omega))
   have r:=(allG L c).prod (advP b);obtain ⟨j,k,y⟩:∃ j k,prodP L c (advP b)=(j,k):=⟨_,_,rfl⟩;rw [y] at E r;have a:=r.he;have h3:=r.hi;have l:(advP b).i=b.i+1:=rfl;have m:(advP b).es=b.es:=rfl;simp only [l,m] at a h3;have H:j.es.length+1≤j.i:=by omega
   obtain ⟨sc,t,v⟩:∃ sc t,putP j ⟨4,noB,0,[q,k],x⟩=(sc,t):=⟨_,_,rfl⟩;have a4:sc.i=j.i:=by
    have e:sc=(putP j ⟨4,noB,0,[q,k],x⟩).1:=by rw [v]
    rw [e];unfold putP;split <;> rfl
   have I:=Kz (show R=ZaH L c sc t from by rw [a2.o,ZaH];simp only [hq0,y,D.o,v];rfl)
   have a5:=Kz hq0;have a6:=Kz H;have a7:=Kz v;clear a l m r y H v hq0
   go_wp2_with fail
   refine (Za7 wr a0.o D.o).mono ?_
   rintro e w2 ⟨rfl,a,d,_⟩
   have n:=Kz a;have p:=Kz (a1.o.trans d);clear a d
   go_wp2_with fail
   refine (Zbf _ n.o tPlus a5.o).mono ?_
   rintro e w3 ⟨rfl,J,M⟩
   have H3:=Kz J;have K3:=Kz (p.o.trans M);clear J M
   go_wp2_with fail
   refine (E.o w3 H3.o).mono ?_
   rintro e w4 ⟨rfl,l,N⟩
   have O:=Kz l;have K4:=Kz (K3.o.trans N);clear l N
   go_wp2_with fail
   have z:=Zcy _ ⟨4,noB,0,[q,k],x⟩ _ (Zcj O.o _) (args2 O.o q k) a6.o;rw [a7.o] at z;refine z.mono ?_;clear z
   rintro e w5 ⟨rfl,m,Q⟩
   have B:=Kz m;have K5:=Kz ((K4.o.trans (KT.below (Zai w4 _))).trans Q);clear m Q
   go_wp2
   refine ⟨⟨c,sc,t,by omega,I.o,rfl,B.o,K5.o,by rw [a4];omega⟩,?_⟩
   have e1:=B.o.cur;have e2:=b6.o;have e3:=B.o.el;simp only [e1,e2];omega
  | false=>
   cases hq1:isP L b ZcX with
   | true=>
    have c9:=ZaD hq1;have E:=Kz (fun F (a3:PM X base P TA tc L _ F)=>(b1.o c (by omega)).prod F (advP b) a3 (by show 12*(L.length-(b.i+1))+4≤c;omega))
    have r:=(allG L c).prod (advP b);obtain ⟨j,k,y⟩:∃ j k,prodP L c (advP b)=(j,k):=⟨_,_,rfl⟩;rw [y] at E r;have a:=r.he;have h3:=r.hi;have l:(advP b).i=b.i+1:=rfl;have m:(advP b).es=b.es:=rfl;simp only [l,m] at a h3;have H:j.es.length+1≤j.i:=by omega
    obtain ⟨sc,t,v⟩:∃ sc t,putP j ⟨5,noB,0,[q,k],x⟩=(sc,t):=⟨_,_,rfl⟩;have a4:sc.i=j.i:=by
     have e:sc=(putP j ⟨5,noB,0,[q,k],x⟩).1:=by rw [v]
     rw [e];unfold putP;split <;> rfl
    have I:=Kz (show R=ZaH L c sc t from by rw [a2.o,ZaH];simp only [hq0,hq1,y,D.o,v];rfl)
    have a5:=Kz hq1;have a6:=Kz H;have a7:=Kz v;have a8:=Kz hq0;clear a l m r y H v hq0 hq1
    go_wp2_with fail
    refine (Za7 wr a0.o D.o).mono ?_
    rintro e w2 ⟨rfl,a,d,_⟩
    have n:=Kz a;have p:=Kz (a1.o.trans d);clear a d
    go_wp2_with fail
    refine (ZaT _ n.o tPlus a8.o).mono ?_
    rintro e w2 ⟨rfl,a,d⟩
    replace p:=Kz (p.o.trans d)
    replace n:=Kz a
    clear a d
    go_wp2_with fail
    refine (Zbf _ n.o ZcX a5.o).mono ?_
    rintro e w3 ⟨rfl,J,M⟩
    have H3:=Kz J;have K3:=Kz (p.o.trans M);clear J M
    go_wp2_with fail
    refine (E.o w3 H3.o).mono ?_
    rintro e w4 ⟨rfl,l,N⟩
    have O:=Kz l;have K4:=Kz (K3.o.trans N);clear l N
    go_wp2_with fail
    have z:=Zcy _ ⟨5,noB,0,[q,k],x⟩ _ (Zcj O.o _) (args2 O.o q k) a6.o;rw [a7.o] at z;refine z.mono ?_;clear z
    rintro e w5 ⟨rfl,m,Q⟩
    have B:=Kz m;have K5:=Kz ((K4.o.trans (KT.below (Zai w4 _))).trans Q);clear m Q
    go_wp2
    refine ⟨⟨c,sc,t,by omega,I.o,rfl,B.o,K5.o,by rw [a4];omega⟩,?_⟩
    have e1:=B.o.cur;have e2:=b6.o;have e3:=B.o.el;simp only [e1,e2];omega
   | false=>
    have I:=Kz (show R=(b,q) from by rw [a2.o,ZaH];simp only [hq0,hq1];rfl)
    have a8:=Kz hq0;have d0:=Kz hq1;clear hq0 hq1
    go_wp2_with fail
    refine (Za7 wr a0.o D.o).mono ?_
    rintro e w2 ⟨rfl,a,d,_⟩
    have n:=Kz a;have p:=Kz (a1.o.trans d);clear a d
    go_wp2_with fail
    refine (ZaT _ n.o tPlus a8.o).mono ?_
    rintro e w2 ⟨rfl,a,d⟩
    replace p:=Kz (p.o.trans d)
    replace n:=Kz a
    clear a d
    go_wp2_with fail
    refine (ZaT _ n.o ZcX d0.o).mono ?_
    rintro e w2 ⟨rfl,a,d⟩
    replace p:=Kz (p.o.trans d)
    replace n:=Kz a
    clear a d
    go_wp2
    go_ret;rw [I.o];exact ⟨rfl,n.o,p.o⟩
def ZmM (X:Nat→Prop) (base P:Nat) (TA:Option Addr) (tc:Nat) (L:List Tok) (f:Nat) (w:World) (R:PS × Nat) (av:Value) (wr:World):Prop:=
 ∃ (f':Nat) (s':PS) (a':Nat),f'≤f∧R=Za6 L f' s' a'∧av=.int .i64 a'∧PM X base P TA tc L s' wr∧KT base w wr∧12*(L.length-s'.i)+1≤f'
theorem Zjx (f:Nat) (V:∀ c,c≤f→AllW base P TA tc L c) (w:World) (s:PS) (h:PM X base P TA tc L s w) (d1:12*(L.length-s.i)+4≤f+1):
  Calls Tryz.prog 201 #[PP P] w (ZaR X base P TA tc L w (prodP L (f+1) s)):=by
 have a9:=Kz ((V f (Kag _)).sign w s h (by omega))
 have W:=(allG L f).sign s;obtain ⟨C,S,Y⟩:∃ C S,signP L f s=(C,S):=⟨_,_,rfl⟩;rw [Y] at a9 W;obtain ⟨R,Z⟩:=Ky (Za6 L f C S);have b0:prodP L (f+1) s=R:=by rw [prodP,Y,Z]
 rw [b0];have c6:=Kz Z;have c7:s.i≤C.i:=W.hi;have d2:=h.el;have b1:=Kz V;have b2:12*(L.length-C.i)+1≤f:=by omega
 have c8:=Kz b2;clear V Y Z b0 h W c7 b2
 go_enter Tryz.func201,Tryz.ntmps201
 go_wp2_with fail
 refine a9.o.mono ?_
 rintro e w1 ⟨rfl,h1,k1⟩
 have H1:=Kz h1;have K1:=Kz k1;clear h1 k1
 go_wp2
 go_loopw [3] (fun b3 wr=>ZmM X base P TA tc L f w R b3 wr) (fun b3 wr=>L.length-curI P wr)
 case atStart=>exact ⟨f,C,S,Kag _,c6.o,rfl,H1.o,K1.o,c8.o⟩
 case round=>
  obtain ⟨c,b,q,d3,b4,rfl,T,b5,d4⟩:=hrel;obtain ⟨c,rfl⟩:∃ g,c=g+1:=⟨c-1,by omega⟩
  have b6:=Kz T.cur;obtain ⟨d5,d6,d7,_⟩:=T.el;obtain ⟨kd,b7,b8,x,b9⟩:∃ kd b7 b8 x,nowP L b=⟨kd,b7,b8,x⟩:=⟨_,_,_,_,rfl⟩;have D:=Kz b9;have a0:=Kz T;have a1:=Kz b5;have a2:=Kz b4;clear T b5 b9 b4
  cases hq0:isP L b tStar with
  | true=>
   have c9:=ZaD hq0;have E:=Kz (fun F (a3:PM X base P TA tc L _ F)=>(b1.o c (by omega)).sign F (advP b) a3 (by show 12*(L.length-(b.i+1))+3≤c;omega))
   have r:=(allG L c).sign (advP b);obtain ⟨j,k,y⟩:∃ j k,signP L c (advP b)=(j,k):=⟨_,_,rfl⟩;rw [y] at E r;have a:=r.he;have h3:=r.hi;have l:(advP b).i=b.i+1:=rfl;have m:(advP b).es=b.es:=rfl;simp only [l,m] at a h3;have H:j.es.length+1≤j.i:=by omega
   obtain ⟨sc,t,v⟩:∃ sc t,putP j ⟨6,noB,0,[q,k],x⟩=(sc,t):=⟨_,_,rfl⟩;have a4:sc.i=j.i:=by
    have e:sc=(putP j ⟨6,noB,0,[q,k],x⟩).1:=by rw [v]
    rw [e];unfold putP;split <;> rfl
   have I:=Kz (show R=Za6 L c sc t from by rw [a2.o,Za6];simp only [hq0,y,D.o,v];rfl)
   have a5:=Kz hq0;have a6:=Kz H;have a7:=Kz v;clear a l m r y H v hq0
   go_wp2_with fail
   refine (Za7 wr a0.o D.o).mono ?_
   rintro e w2 ⟨rfl,a,d,_⟩
   have n:=Kz a;have p:=Kz (a1.o.trans d);clear a d
   go_wp2_with fail
   refine (Zbf _ n.o tStar a5.o).mono ?_
   rintro e w3 ⟨rfl,J,M⟩
   have H3:=Kz J;have K3:=Kz (p.o.trans M);clear J M
   go_wp2_with fail
   refine (E.o w3 H3.o).mono ?_
   rintro e w4 ⟨rfl,l,N⟩
   have O:=Kz l;have K4:=Kz (K3.o.trans N);clear l N
   go_wp2_with fail
   have z:=Zcy _ ⟨6,noB,0,[q,k],x⟩ _ (Zcj O.o _) (args2 O.o q k) a6.o;rw [a7.o] at z;refine z.mono ?_;clear z
   rintro e w5 ⟨rfl,m,Q⟩
   have B:=Kz m;have K5:=Kz ((K4.o.trans (KT.below (Zai w4 _))).trans Q);clear m Q
   go_wp2
   refine ⟨⟨c,sc,t,by omega,I.o,rfl,B.o,K5.o,by rw [a4];omega⟩,?_⟩
   have e1:=B.o.cur;have e2:=b6.o;have e3:=B.o.el;simp only [e1,e2];omega
  | false=>
   cases hq1:isP L b tAt with
   | true=>
    have c9:=ZaD hq1;have E:=Kz (fun F (a3:PM X base P TA tc L _ F)=>(b1.o c (by omega)).sign F (advP b) a3 (by show 12*(L.length-(b.i+1))+3≤c;omega))
    have r:=(allG L c).sign (advP b);obtain ⟨j,k,y⟩:∃ j k,signP L c (advP b)=(j,k):=⟨_,_,rfl⟩;rw [y] at E r;have a:=r.he;have h3:=r.hi;have l:(advP b).i=b.i+1:=rfl;have m:(advP b).es=b.es:=rfl;simp only [l,m] at a h3;have H:j.es.length+1≤j.i:=by omega
    obtain ⟨sc,t,v⟩:∃ sc t,putP j ⟨7,noB,0,[q,k],x⟩=(sc,t):=⟨_,_,rfl⟩;have a4:sc.i=j.i:=by
     have e:sc=(putP j ⟨7,noB,0,[q,k],x⟩).1:=by rw [v]
     rw [e];unfold putP;split <;> rfl
    have I:=Kz (show R=Za6 L c sc t from by rw [a2.o,Za6];simp only [hq0,hq1,y,D.o,v];rfl)
    have a5:=Kz hq1;have a6:=Kz H;have a7:=Kz v;have a8:=Kz hq0;clear a l m r y H v hq0 hq1
    go_wp2_with fail
    refine (Za7 wr a0.o D.o).mono ?_
    rintro e w2 ⟨rfl,a,d,_⟩
    have n:=Kz a;have p:=Kz (a1.o.trans d);clear a d
    go_wp2_with fail
    refine (ZaT _ n.o tStar a8.o).mono ?_
    rintro e w2 ⟨rfl,a,d⟩
    replace p:=Kz (p.o.trans d)
    replace n:=Kz a
    clear a d
    go_wp2_with fail
    refine (Zbf _ n.o tAt a5.o).mono ?_
    rintro e w3 ⟨rfl,J,M⟩
    have H3:=Kz J;have K3:=Kz (p.o.trans M);clear J M
    go_wp2_with fail
    refine (E.o w3 H3.o).mono ?_
    rintro e w4 ⟨rfl,l,N⟩
    have O:=Kz l;have K4:=Kz (K3.o.trans N);clear l N
    go_wp2_with fail
    have z:=Zcy _ ⟨7,noB,0,[q,k],x⟩ _ (Zcj O.o _) (args2 O.o q k) a6.o;rw [a7.o] at z;refine z.mono ?_;clear z
    rintro e w5 ⟨rfl,m,Q⟩
    have B:=Kz m;have K5:=Kz ((K4.o.trans (KT.below (Zai w4 _))).trans Q);clear m Q
    go_wp2
    refine ⟨⟨c,sc,t,by omega,I.o,rfl,B.o,K5.o,by rw [a4];omega⟩,?_⟩
    have e1:=B.o.cur;have e2:=b6.o;have e3:=B.o.el;simp only [e1,e2];omega
   | false=>
    have I:=Kz (show R=(b,q) from by rw [a2.o,Za6];simp only [hq0,hq1];rfl)
    have a8:=Kz hq0;have d0:=Kz hq1;clear hq0 hq1
    go_wp2_with fail
    refine (Za7 wr a0.o D.o).mono ?_
    rintro e w2 ⟨rfl,a,d,_⟩
    have n:=Kz a;have p:=Kz (a1.o.trans d);clear a d
    go_wp2_with fail
    refine (ZaT _ n.o tStar a8.o).mono ?_
    rintro e w2 ⟨rfl,a,d⟩
    replace p:=Kz (p.o.trans d)
    replace n:=Kz a
    clear a d
    go_wp2_with fail
    refine (ZaT _ n.o tAt d0.o).mono ?_
    rintro e w2 ⟨rfl,a,d⟩
    replace p:=Kz (p.o.trans d)
    replace n:=Kz a
    clear a d
    go_wp2
    go_ret;rw [I.o];exact ⟨rfl,n.o,p.o⟩
end
end Go.Proofs.YtghlnncfigkkaaaGreatDoor
namespace Go.Proofs.YtghlnncfigkkaaaGreatDoor
open Go.RowKit
attribute [local go_sem ↓] ZaO ZaP
theorem ZaY (t:Tok):callP t=(0,0)∨callP t=(10,1)∨callP t=(11,1)∨callP t=(12,1)∨callP t=(13,2)∨callP t=(14,3):=by
 unfold callP;split
 ·simp
 split
 ·simp
 split
 ·simp
 split
 ·simp
 split
 ·simp
 split <;> simp
theorem sRelu:tRelu.toList=[114,101,108,117]:=by unfold tRelu;rw [ByteArray.toList_eq]
theorem sSum:tSum.toList=[115,117,109]:=by unfold tSum;rw [ByteArray.toList_eq]
theorem Zjy:tArgmax.toList=[97,114,103,109,97,120]:=by unfold tArgmax;rw [ByteArray.toList_eq]
theorem sMax:tMax.toList=[109,97,120]:=by unfold tMax;rw [ByteArray.toList_eq]
theorem sMux:tMux.toList=[109,117,120]:=by unfold tMux;rw [ByteArray.toList_eq]
theorem Zb6 (t:Tok) (w:World):
  Calls Tryz.prog 223 #[.agg #[.int .i64 t.kind,.string t.text,.int .u64 t.num,.int .i64 t.pos]] w fun e w'=>e=.returned (.tuple #[.int .i64 ((callP t).1:Nat),.int .i64 ((callP t).2:Nat)])∧Below w.heap.size w w':=by
 obtain ⟨kd,b,c,d⟩:=t;obtain ⟨k,a⟩:=Ky (callP ⟨kd,b,c,d⟩);rw [←a];have g:=Kz a;clear a;have h:((kd:Int) != 4)=(kd != 4):=by rw [Bool.eq_iff_iff,bne_iff_ne,bne_iff_ne];omega
 go_enter Tryz.func223,Tryz.ntmps223
 go_wp2
 all_goals
  go_ret2;exact ⟨by rw [g.o];unfold callP;simp [sRelu,sSum,Zjy,sMax,sMux, *],Za3 (Kai _ _) _⟩
end Go.Proofs.YtghlnncfigkkaaaGreatDoor
namespace Go.Proofs.YtghlnncfigkkaaaGreatDoor
open Go.RowKit
attribute [local go_sem ↓] ZaO ZaP
section
variable {X:Nat→Prop} {base P tc:Nat} {TA:Option Addr} {L:List Tok} {s:PS}
theorem Zdn (w:World) (h:PM X base P TA tc L s w) {b:Bool} {a:PS} (c:sinkP L s=(a,b)):
  Calls Tryz.prog 216 #[PP P] w fun e w'=>e=.returned (.bool b)∧PM X base P TA tc L a w'∧KT base w w':=by
 obtain ⟨_,_,_,_,_,h⟩:=h;have:=Zlm w h;rw [c] at this;exact this
def ZmN (X:Nat→Prop) (base P:Nat) (TA:Option Addr) (tc:Nat) (L:List Tok) (f:Nat) (w:World) (R:PS × Nat) (av:Value) (wr:World):Prop:=
 ∃ (f':Nat) (s':PS) (a':Nat),f'≤f∧R=ZaM L f' s' a'∧av=.int .i64 a'∧PM X base P TA tc L s' wr∧KT base w wr∧12*(L.length-s'.i)+1≤f'
theorem Zjz (f:Nat) (T:∀ j,j≤f→AllW base P TA tc L j) (w:World) (s:PS) (h:PM X base P TA tc L s w) (b8:12*(L.length-s.i)+2≤f+1):
  Calls Tryz.prog 215 #[PP P] w (ZaR X base P TA tc L w (postP L (f+1) s)):=by
 have V:=Kz ((T f (Kag _)).atom w s h (by omega))
 have B:=(allG L f).atom s;obtain ⟨l,t,C⟩:∃ l t,atomP L f s=(l,t):=⟨_,_,rfl⟩;rw [C] at V B;obtain ⟨R,D⟩:=Ky (ZaM L f l t);have W:postP L (f+1) s=R:=by rw [postP,C,D]
 rw [W];have b0:=Kz D;have b1:s.i≤l.i:=B.hi;have b9:=h.el;have b2:=Kz (show 12*(L.length-l.i)+1≤f by omega)
 clear T C D W h B b1
 go_enter Tryz.func215,Tryz.ntmps215
 go_wp2_with fail
 refine V.o.mono ?_
 rintro e w1 ⟨rfl,Y,Z⟩
 have H1:=Kz Y;have K1:=Kz Z;clear Y Z
 go_wp2
 go_loopw [3] (fun a0 wr=>ZmN X base P TA tc L f w R a0 wr) (fun a0 wr=>L.length-curI P wr)
 case atStart=>exact ⟨f,l,t,Kag _,b0.o,rfl,H1.o,K1.o,b2.o⟩
 case round=>
  obtain ⟨j,a,m,c6,a1,rfl,v,a2,c7⟩:=hrel;obtain ⟨j,rfl⟩:∃ g,j=g+1:=⟨j-1,by omega⟩
  have b3:=Kz v.cur;obtain ⟨c8,c9,d0,_⟩:=v.el;obtain ⟨kd,a3,a4,n,a5⟩:∃ kd a3 a4 n,nowP L a=⟨kd,a3,a4,n⟩:=⟨_,_,_,_,rfl⟩;have E:=Kz a5;have a6:=Kz v;have a7:=Kz a2;have a8:=Kz a1;clear v a2 a5 a1
  cases hq0:isP L a Zhq with
  | true=>
   have d1:=ZaD hq0;have x:=G.number (L:=L) (advP a);obtain ⟨k,d,p⟩:∃ k d,Zaw L (advP a)=(k,d):=⟨_,_,rfl⟩;rw [p] at x;have h2:=x.he;have h3:=x.hi;have q:(advP a).i=a.i+1:=rfl;have r:(advP a).es=a.es:=rfl;simp only [q,r] at h2 h3;have a9:k.es.length+1≤k.i:=by omega
   have d2:d≤1048576:=by
    have e:d=(Zaw L (advP a)).2:=by rw [p]
    rw [e];unfold Zaw;split
    ·exact Nat.zero_le _
    ·rename_i hh
     simp only [Bool.or_eq_true,not_or,decide_eq_true_eq] at hh
     show (nowP L (advP a)).num≤1048576
     omega
   obtain ⟨sc,y,z⟩:∃ sc y,putP k ⟨9,noB,d,[m],n⟩=(sc,y):=⟨_,_,rfl⟩;have b4:sc.i=k.i:=by
    have e:sc=(putP k ⟨9,noB,d,[m],n⟩).1:=by rw [z]
    rw [e];unfold putP;split <;> rfl
   have F:=Kz (show R=ZaM L j sc y from by rw [a8.o,ZaM];simp only [hq0,p,E.o,z];rfl)
   have H:=Kz hq0;have b5:=Kz p;have b6:=Kz a9;have b7:=Kz z;have d3:IntKind.u64.wrap (d:Int)=(d:Int):=by
    unfold IntKind.wrap;simp [IntKind.bits,IntKind.signed];omega
   clear h2 q r x p a9 z hq0
   go_wp2_with fail
   refine (Za7 wr a6.o E.o).mono ?_
   rintro e w2 ⟨rfl,b,c,_⟩
   have I:=Kz b;have J:=Kz (a7.o.trans c);clear b c
   go_wp2_with fail
   refine (Zbf _ I.o Zhq H.o).mono ?_
   rintro e w3 ⟨rfl,b,c⟩
   have M:=Kz b;have N:=Kz (J.o.trans c);clear b c;have O:=ZcW w3 M.o;rw [b5.o] at O
   go_wp2_with fail
   refine O.mono ?_;clear O
   rintro e w4 ⟨rfl,q,k4⟩
   have H4:=Kz q;have K4:=Kz (N.o.trans k4);clear q k4
   go_wp2_with fail
   have Q:=Zcy _ ⟨9,noB,d,[m],n⟩ _ (Zcj H4.o _) (args1 H4.o m) b6.o;rw [b7.o] at Q;refine Q.mono ?_;clear Q
   rintro e w5 ⟨rfl,r,k5⟩
   have S:=Kz r;have K5:=Kz ((K4.o.trans (KT.below (Zai w4 _))).trans k5);clear r k5
   go_wp2
   refine ⟨⟨j,sc,y,by omega,F.o,rfl,S.o,K5.o,by rw [b4];omega⟩,?_⟩
   have e1:=S.o.cur;have e2:=b3.o;have e3:=S.o.el;simp only [e1,e2];omega
  | false=>
   have F:=Kz (show R=(a,m) from by rw [a8.o,ZaM];simp only [hq0];rfl)
   have H:=Kz hq0;clear hq0
   go_wp2_with fail
   refine (Za7 wr a6.o E.o).mono ?_
   rintro e w2 ⟨rfl,b,c,_⟩
   have I:=Kz b;have J:=Kz (a7.o.trans c);clear b c
   go_wp2_with fail
   refine (ZaT _ I.o Zhq H.o).mono ?_
   rintro e w3 ⟨rfl,b,c⟩
   have M:=Kz b;have N:=Kz (J.o.trans c);clear b c
   go_wp2
   go_ret;rw [F.o];exact ⟨rfl,M.o,N.o⟩
theorem PM.adv {w:World} (h:PM X base P TA tc L s w) (a:s.i<L.length):w.cell? ⟨P,1,none⟩=some (.int .i64 s.i)∧w.frozen? ⟨P,1,none⟩=false∧PM X base P TA tc L (advP s) (w.setCell ⟨P,1,none⟩ (.int .i64 ((s.i:Int)+1)))∧KT base w (w.setCell ⟨P,1,none⟩ (.int .i64 ((s.i:Int)+1))):=by
 obtain ⟨_,_,_,_,_,h⟩:=h;exact ⟨h.c1,h.free 1,(h.adv a).1.pm,(h.adv a).2⟩
theorem PM.rise {w:World} (h:PM X base P TA tc L s w) (b:1≤s.deep):w.cell? ⟨P,4,none⟩=some (.int .i64 s.deep)∧w.frozen? ⟨P,4,none⟩=false∧PM X base P TA tc L (riseP s) (w.setCell ⟨P,4,none⟩ (.int .i64 ((s.deep:Int)-1)))∧KT base w (w.setCell ⟨P,4,none⟩ (.int .i64 ((s.deep:Int)-1))):=by
 obtain ⟨_,_,_,_,_,h⟩:=h;have a:=h.deepen (s.deep-1) (by have:=h.dd;omega)
 have e:((s.deep-1:Nat):Int)=(s.deep:Int)-1:=by omega
 rw [e] at a;exact ⟨h.c4,h.free 4,a.1.pm,a.2⟩
theorem Zj0 (f:Nat) (R:∀ f',f'≤f→AllW base P TA tc L f') (w:World) (s:PS) (h:PM X base P TA tc L s w) (b2:12*(L.length-s.i)+3≤f+1):
  Calls Tryz.prog 210 #[PP P] w (ZaR X base P TA tc L w (signP L (f+1) s)):=by
 obtain ⟨b3,b4,b5,b6⟩:=h.el;obtain ⟨kd,S,T,x,V⟩:∃ kd S T x,nowP L s=⟨kd,S,T,x⟩:=⟨_,_,_,_,rfl⟩;have y:=Kz V;have H:=Kz h;have W:=Kz R;clear R h V
 cases hq:isP L s ZcX with
 | false=>
  have g:=Kz (show signP L (f+1) s=postP L f s from by rw [signP];simp only [hq];rfl)
  have k:=Kz hq;clear hq
  go_enter Tryz.func210,Tryz.ntmps210
  go_wp2_with fail
  refine (Za7 w H.o y.o).mono ?_
  rintro e w2 ⟨rfl,a,b,_⟩
  have l:=Kz a;have m:=Kz (b);clear a b
  go_wp2_with fail
  refine (is_pm _ l.o ZcX k.o).mono ?_
  rintro e w3 ⟨rfl,a,b⟩
  have n:=Kz a;have p:=Kz (m.o.trans b);clear a b
  go_wp2_with fail
  refine ((W.o f (Kag _)).post w3 s n.o (by omega)).mono ?_
  rintro e w4 ⟨rfl,a,b⟩
  have q:=Kz a;have r:=Kz (p.o.trans b);clear a b
  go_wp2
  go_ret;exact ⟨by rw [g.o];rfl,by rw [g.o];exact q.o,r.o⟩
 | true=>
  have b7:=ZaD hq;obtain ⟨c,D,j⟩:∃ c D,sinkP L s=(c,D):=⟨_,_,rfl⟩
  cases D with
  | false=>
   have g:=Kz (show signP L (f+1) s=(c,0) from by rw [signP];simp only [hq,j];rfl)
   have k:=Kz hq;have E:=Kz j;clear hq j
   go_enter Tryz.func210,Tryz.ntmps210
   go_wp2_with fail
   refine (Za7 w H.o y.o).mono ?_
   rintro e w2 ⟨rfl,a,b,_⟩
   have l:=Kz a;have m:=Kz (b);clear a b
   go_wp2_with fail
   refine (is_pm _ l.o ZcX k.o).mono ?_
   rintro e w3 ⟨rfl,a,b⟩
   have n:=Kz a;have p:=Kz (m.o.trans b);clear a b
   go_wp2_with fail
   refine (Zdn w3 n.o E.o).mono ?_
   rintro e w4 ⟨rfl,a,b⟩
   have q:=Kz a;have r:=Kz (p.o.trans b);clear a b
   go_wp2
   go_ret;exact ⟨by rw [g.o];rfl,by rw [g.o];exact q.o,r.o⟩
  | true=>
   obtain ⟨a6,F⟩:=Zck (show (sinkP L s).2=true by rw [j])
   rw [j] at F;have z:c={ s with deep:=s.deep+1 }:=F
   have Y:c.i=s.i:=by rw [z]
   have Z:c.es=s.es:=by rw [z]
   have t:=(allG L f).sign (advP c);have a0:=Kz (fun a1 (a7:PM X base P TA tc L _ a1)=>(W.o f (Kag _)).sign a1 (advP c) a7 (by show 12*(L.length-(c.i+1))+3≤f;omega))
   obtain ⟨d,v,I⟩:∃ d v,signP L f (advP c)=(d,v):=⟨_,_,rfl⟩;rw [I] at t a0;have h2:=t.he;have h3:=t.hi;have h4:(advP c).i=c.i+1:=rfl;have h5:(advP c).es=c.es:=rfl;have h6:d.deep=c.deep:=t.hd;have h7:c.deep=s.deep+1:=by rw [z]
   simp only [h4,h5,Y,Z] at h2 h3;have a2:(riseP d).es.length+1≤(riseP d).i:=by show d.es.length+1≤d.i;omega
   obtain ⟨sc,J,M⟩:∃ sc J,putP (riseP d) ⟨3,noB,0,[v],x⟩=(sc,J):=⟨_,_,rfl⟩;have g:=Kz (show signP L (f+1) s=(sc,J) from by rw [signP];simp only [hq,j,I,y.o,M];rfl)
   have a8:c.i<L.length:=by omega
   have a9:1≤d.deep:=by omega
   have b8:d.deep≤32:=by omega
   have k:=Kz hq;have E:=Kz j;have b0:=Kz a2;have b1:=Kz M;clear hq j F z t I h2 h4 h5 h6 h7 a2 M a6 Z
   go_enter Tryz.func210,Tryz.ntmps210
   go_wp2_with fail
   refine (Za7 w H.o y.o).mono ?_
   rintro e w2 ⟨rfl,a,b,_⟩
   have l:=Kz a;have m:=Kz (b);clear a b
   go_wp2_with fail
   refine (is_pm _ l.o ZcX k.o).mono ?_
   rintro e w3 ⟨rfl,a,b⟩
   have n:=Kz a;have p:=Kz (m.o.trans b);clear a b
   go_wp2_with fail
   refine (Zdn w3 n.o E.o).mono ?_
   rintro e w4 ⟨rfl,a,b⟩
   have q:=Kz a;have r:=Kz (p.o.trans b);clear a b;obtain ⟨c1,y1,N,O⟩:=q.o.adv a8;rw [Y] at c1 N O;have H5:=Kz N;have K5:=Kz (r.o.trans O);clear N O
   go_wp2_with fail
   refine (a0.o _ H5.o).mono ?_
   rintro e w6 ⟨rfl,a,b⟩
   have H6:=Kz a;have K6:=Kz (K5.o.trans b);clear a b;clear c1 y1;obtain ⟨c4,y4,a3,a4⟩:=H6.o.rise a9;have Q:=Kz a3;have K7:=Kz (K6.o.trans a4);clear a3 a4
   go_wp2_with fail
   obtain ⟨a5,B⟩:=Ky (w6.setCell ⟨P,4,none⟩ (.int .i64 ((d.deep:Int)-1)));rw [←B] at Q K7;have C:=Zcy _ ⟨3,noB,0,[v],x⟩ _ (Zcj Q.o _) (args1 Q.o v) b0.o;rw [b1.o] at C;have e8:a5.heap.size=w6.heap.size:=by rw [B];simp [World.setCell]
   rw [e8,B] at C;refine C.mono ?_;clear C
   rintro e b9 ⟨rfl,a,b⟩
   have H9:=Kz a;have K9:=Kz ((K7.o.trans (KT.below (Zai a5 _))).trans (by rw [B];exact b))
   clear a b
   go_wp2
   go_ret;exact ⟨by rw [g.o];rfl,by rw [g.o];exact H9.o,K9.o⟩
end
end Go.Proofs.YtghlnncfigkkaaaGreatDoor
