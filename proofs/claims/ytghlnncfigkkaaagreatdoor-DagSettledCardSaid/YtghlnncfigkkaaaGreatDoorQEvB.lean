/-
 Clones of words; answered tensors: new rows; the evaluator is made.
-/
import Derived.Test.YtghlnncfigkkaaaGreatDoorQAppN
import Derived.Test.YtghlnncfigkkaaaGreatDoorQEvS
set_option maxRecDepth 100000
set_option maxHeartbeats 2000000
set_option linter.unusedVariables false
set_option linter.unusedSimpArgs false
namespace Go.Proofs.YtghlnncfigkkaaaGreatDoor
open Go.RowKit
theorem Zh6 (A:Option Addr) (n c:Nat) (l:List UInt64) (w:World) (d:n=l.length) (z:n≤1000000) (h:Rd w w.heap.size A (l.map U)):
  Calls Tryz.prog 56 #[.slice A n c] w fun e w'=>∃ A' b,e=.returned (.slice A' n b)∧Own w' w.heap.size 39 A' b (l.map U)∧Below w.heap.size w w':=by
 have B:∀ (w:World) (a:Option Addr) (n c g b:Nat),(binOp .eql 40 (.slice a n c) (.slice none g b)).run Tryz.prog w=.ok (.bool a.isNone) w:=fun w a n c g b=>Lib.run_eql_slice_nil w _ _ a n c g b Tryz.underlying40
 cases A with
 | none=>
  have m:l=[]:=List.eq_nil_of_length_eq_zero (ZlQ h rfl);subst m;subst d;clear h
  go_enter Tryz.func56,Tryz.ntmps56
  go_wp2
  go_ret;exact ⟨none,0,rfl,Own.nil _ _ _,Kai _ _⟩
 | some ad=>
  have p:=Kz d;have H:=Kz h;clear d h
  go_enter Tryz.func56,Tryz.ntmps56
  go_wp2_with (at_builtin;(refine app64 rfl (.tmp 5) (.tmp 6) rfl w.heap.size (some ⟨w.heap.size,0,none⟩) 0 [] 0 rfl rfl (Own.made w 39 (Kag _)) (some ad) n c w.heap.size l p.o.symm rfl (H.o.alloc (Kag _) _) (fun e=>by cases e) (by omega) (by simp) ?_);intro q r w3 i j s;have v:=Kz i;have x:=Kz (Zal ((Kai w.heap.size w).alloc (Kag _) _) j (by simp) (fun k y=>by cases y;exact Kag _));clear i j s)
  go_ret;exact ⟨q,r,by rw [←Nat.zero_add n];rfl,v.o,x.o⟩
def apart (a b:Option Nat):Prop:=a=none∨a≠b
def tnB (p:Value × Value):List (Option Nat):=[p.1.ownBlock,p.2.ownBlock]
theorem ZgY {a b:Option Nat} {m:Nat} (d:∀ k,a=some k→k<m) (f:∀ k,b=some k→m≤k):apart a b:=by
 cases ha:a with
 | none=>exact .inl rfl
 | some k=>
  right
  intro e
  have:=d k ha;have:=f k e.symm;omega
theorem Zk6 {a b:Option Nat} {m:Nat} (d:∀ k,a=some k→m≤k) (f:∀ k,b=some k→k<m):apart a b:=by
 cases ha:a with
 | none=>exact .inl rfl
 | some k=>
  right
  intro e
  have:=d k ha;have:=f k e.symm;omega
def OutT (w:World) (base:Nat) (A:Option Addr) (n c:Nat) (l:List TN):Prop:=
 ∃ vs:List (Value × Value),w.ownsRow base 43 2 (.slice A n c) n (vs.flatMap tnC)∧vs.length=n∧l.length=n ∧
 (∀ (j:Nat) (p:Value × Value) (x:TN),vs[j]?=some p→l[j]?=some x→x.sh.length≤1000000∧∃ A1 c1 A2 c2,p=(.slice A1 x.sh.length c1,.slice A2 x.el.length c2)∧Own w base 3 A1 c1 (x.sh.map VI)∧Own w base 39 A2 c2 (x.el.map U)) ∧
 (vs.flatMap tnB).Pairwise apart∧∀ b∈vs.flatMap tnB,apart b (blk A)
section
variable {w w':World} {base n c:Nat} {A:Option Addr} {l:List TN}
theorem OutT.nil (w:World) (base:Nat):OutT w base none 0 0 []:=⟨[],World.ownsRow_nil w base _ 2,rfl,rfl,fun j p x h=>by simp at h,by simp,by simp⟩
theorem OutT.lt (h:OutT w base A n c l):∀ g,blk A=some g→base≤g∧g<w.heap.size:=by
 obtain ⟨b,a,_⟩:=h;exact Zdg a
theorem OutT.next (h:OutT w base A n c l) (a:Below w.heap.size w w'):OutT w' base A n c l:=by
 have b:=h.lt;obtain ⟨d,e,f,i,k,m,q⟩:=h;refine ⟨d,ZaK e (fun g r=>a.block g (b g r).2),f,i,fun j p x s t => ?_,m,q⟩
 obtain ⟨v,y,c1,z,c2,B,C,D⟩:=k j p x s t;exact ⟨v,y,c1,z,c2,B,C.next a,D.next a⟩
theorem OutT.at_ (h:OutT w base A n c l) {j:Nat} {x:TN} (e:l[j]?=some x):∃ g a c1 b c2,A=some ⟨g,0,none⟩∧g<w.heap.size∧w.cell? ⟨g,j*2,none⟩=some (.slice a x.sh.length c1)∧w.cell? ⟨g,j*2+1,none⟩=some (.slice b x.el.length c2)∧Own w base 3 a c1 (x.sh.map VI)∧Own w base 39 b c2 (x.el.map U):=by
 have H:=h.lt;obtain ⟨d,q,I,J,r,_⟩:=h;have L:j<l.length:=(Kaf.1 e).1;have f:d[j]?=some (d[j]'(by omega)):=Kad _
 obtain ⟨M,a,c1,b,c2,s,y,z⟩:=r j _ x f e;obtain ⟨g,B,C,_,D⟩:=Zbm q (by omega)
 have k:∀ i v,(tnC (d[j]'(by omega)))[i]?=some v→i<2→w.cell? ⟨g,j*2+i,none⟩=some v:=fun i v E F=>D _ v ((Zaq tnC 2 (fun _=>rfl) d j i _ f F).trans E)
 have m:=k 0 _ rfl (by omega)
 have p:=k 1 _ rfl (by omega)
 rw [s] at m p;exact ⟨g,a,c1,b,c2,B,C,m,p,y,z⟩
end
theorem ZaS (w:World) (t:Addr) (v:Value) {k:Nat} (h:k≠t.block):(w.setCell t v).heap[k]?=w.heap[k]?:=by
 unfold World.setCell;simp only [Array.getElem?_modify];rw [if_neg (fun e=>h e.symm)]
theorem Zf4 {w w':World} {base c:Nat} {e:TypeId} {A:Option Addr} {xs:List Value} (h:Own w base e A c xs) (f:∀ (g:Nat) (cur:Array Value),w.heap[g]?=some (.cells cur e (0,0))→w'.heap[g]?=w.heap[g]?):Own w' base e A c xs:=by
 refine ⟨h.1,?_⟩;rcases h.2 with a | ⟨b,i,cur,a,j,d,r⟩
 ·exact .inl a
 ·exact .inr ⟨b,i,cur,a,j,(f b cur d).trans d,r⟩
theorem OutT.keepT {w w':World} {base n c:Nat} {A:Option Addr} {l:List TN} (h:OutT w base A n c l) (d:∀ g,blk A=some g→w'.heap[g]?=w.heap[g]?) (b:∀ (g:Nat) (cur:Array Value) (T:TypeId),w.heap[g]?=some (.cells cur T (0,0))→(T=3∨T=39)→w'.heap[g]?=w.heap[g]?):OutT w' base A n c l:=by
 obtain ⟨e,f,i,k,m,q,r⟩:=h;refine ⟨e,ZaK f d,i,k,fun j p x s v => ?_,q,r⟩
 obtain ⟨y,z,c1,B,c2,C,D,E⟩:=m j p x s v;exact ⟨y,z,c1,B,c2,C,Zf4 D (fun g cur a=>b g cur _ a (.inl rfl)),Zf4 E (fun g cur a=>b g cur _ a (.inr rfl))⟩
theorem ZiE {w:World} {base c n:Nat} {e:TypeId} {A:Option Addr} {xs:List Value} (h:Own w base e A c xs):∀ k,(Value.slice A n c).ownBlock=some k→base≤k∧k<w.heap.size:=fun k a=>h.lt k (by rwa [Za4] at a)
theorem Zf5 {w:World} {o:Oper} {a:Act} {K:Act→World→Prop} {Q:Exit→Act→World→Prop} (s x:Operand)
  (a7:o.op=.call { callee:=.builtin .append,args:=#[s,x],argTypes:=#[44,44] })
  (base:Nat) (A:Option Addr) (c n:Nat) (l:List TN) (a8:a.eval s=.slice A n c) (W w4:World) (T:OutT W base A n c l) (a9:base≤W.heap.size) (b0:Below W.heap.size W w4)
  (d f:Option Addr) (c1 c2 V X:Nat) (t:TN) (b1:V=t.sh.length) (b2:X=t.el.length) (i:t.sh.length≤1000000) (o1:Own w4 W.heap.size 3 d c1 (t.sh.map VI)) (o2:Own w4 W.heap.size 39 f c2 (t.el.map U)) (b3:apart (blk d) (blk f))
  (Y:w=w4.alloc (.cells #[.slice d V c1,.slice f X c2] 43)) (b4:a.eval x=.slice (some ⟨w4.heap.size,0,none⟩) 1 1) (d7:n≤1000000)
  (b5:∀ m c' w',OutT w' base m (n+1) c' (l++[t])→w.grownBy w' (blk A)→(blk m=blk A∨blk m=some w.heap.size)→K (a.put o.dst (.slice m (n+1) c')) w'):
  Oper.wp Tryz.prog o a w K Q:=by
 obtain ⟨i0,b6,b7,b8,b9⟩:=info_parts ZeW;subst b1 b2;have I:=T.lt;have J:Below w4.heap.size w4 w:=by rw [Y];exact (Kai _ _).alloc (Kag _) _
 have C:Below W.heap.size W w:=bnext b0 J;have Z:=o1.next J;have p2:=o2.next J;have c6:w.heap[w4.heap.size]?=some (.cells #[.slice d t.sh.length c1,.slice f t.el.length c2] 43 (0,0)):=by rw [Y];exact Kac w4 _
 have a0:W.heap.size≤w.heap.size:=C.size;obtain ⟨r,g1,g2,g3,g4,g5,L⟩:=T;have a1:∀ b∈r.flatMap tnB,∀ k,b=some k→k<W.heap.size:=by
  intro b g k q
  obtain ⟨p,h,M⟩:=List.mem_flatMap.1 g;obtain ⟨j,a2,c7⟩:=List.getElem_of_mem h;have c8:l[j]?=some (l[j]'(by omega)):=Kad _
  obtain ⟨_,N,d1,O,d2,z,R,S⟩:=g4 j p _ (by rw [Kad a2,c7]) c8
  rw [z] at M;simp [tnB] at M;rcases M with rfl | rfl
  ·exact (ZiE R k q).2
  ·exact (ZiE S k q).2
 have D:∀ b,b=blk d∨b=blk f→∀ k,b=some k→W.heap.size≤k∧k<w.heap.size:=by
  rintro b (rfl | rfl) k q
  ·exact Z.lt k q
  ·exact p2.lt k q
 have c9:=ZaK g1 (fun a3 d0=>C.block a3 (I a3 d0).2)
 obtain ⟨m,a4,w',d3,r1,B,v⟩:=ZeH (P := Tryz.prog) w base 44 o.type 43 i0 _ 2 48 Tryz.underlying44 b6 b7 b8 (by decide) b9 rfl A c n (r.flatMap tnC) c9 w4.heap.size [.slice d t.sh.length c1,.slice f t.el.length c2] rfl
  (fun j u E=>by rw [cell_of_row w w4.heap.size j _ _ (0,0) c6];simpa using E)
  (fun u E=>by
   simp at E;rcases E with rfl | rfl <;> rfl) (by simp only [maxLen];omega) (by omega) (Kah a9 a0)
 have d4:OutT w' base m (n+1) a4 (l++[t]):=by
  refine ⟨r++[(.slice d t.sh.length c1,.slice f t.el.length c2)],?_,by rw [List.length_append,g2];rfl,by rw [List.length_append,g3];rfl,fun j p d5 h y => ?_,?_,?_⟩
  ·rw [List.flatMap_append];have:(List.flatMap tnC [(Value.slice d t.sh.length c1,Value.slice f t.el.length c2)])=[.slice d t.sh.length c1,.slice f t.el.length c2]:=rfl;rw [this];exact r1
  ·by_cases a2:j<n
   ·rw [List.getElem?_append_left (by omega)] at h y
    obtain ⟨q0,N,d1,O,d2,z,R,S⟩:=g4 j p d5 h y;have a5:∀ b,b∈tnB p→b∈r.flatMap tnB:=fun b g=>List.mem_flatMap.2 ⟨p,Kam h,g⟩
    refine ⟨q0,N,d1,O,d2,z,((R.next C).kept B ?_),((S.next C).kept B ?_)⟩
    ·have:=L (blk N) (a5 _ (by rw [z];simp [tnB,Za4]))
     exact this
    ·have:=L (blk O) (a5 _ (by rw [z];simp [tnB,Za4]))
     exact this
   ·rw [List.getElem?_append_right (by omega)] at h y
    have h0:j-r.length=0:=by
     have:=(Kaf.1 h).1;simp at this;omega
    rw [h0] at h;rw [show j-l.length=0 by omega] at y
    simp at h y;subst h y;have a6:∀ b,b=blk d∨b=blk f→b=none∨b≠blk A:=by
     intro b g
     cases hbn:b with
     | none=>exact .inl rfl
     | some k=>
      right
      intro e
      have F:=(D b g k hbn).1;have i:=(I k e.symm).2;omega
    exact ⟨i,d,c1,f,c2,rfl,(Z.more (by omega)).kept B (a6 _ (.inl rfl)),(p2.more (by omega)).kept B (a6 _ (.inr rfl))⟩
  ·rw [List.flatMap_append,List.pairwise_append];refine ⟨g5,?_,fun a d6 b g => ?_⟩
   ·have:List.flatMap tnB [(Value.slice d t.sh.length c1,Value.slice f t.el.length c2)]=[blk d,blk f]:=by simp [tnB,Za4]
    rw [this];simp only [List.pairwise_cons,List.mem_singleton,forall_eq,List.not_mem_nil,false_implies,implies_true,List.Pairwise.nil,and_true];exact b3
   ·have H:b=blk d∨b=blk f:=by simpa [tnB,Za4] using g
    cases han:a with
    | none=>exact .inl rfl
    | some k=>
     right
     intro e
     have F:=a1 a d6 k han;have i:=(D b H k e.symm).1;omega
  ·intro b g
   rw [List.flatMap_append,List.mem_append] at g
   cases hbn:b with
   | none=>exact .inl rfl
   | some k=>
    right;have q:k<w.heap.size∧(b∈r.flatMap tnB∨W.heap.size≤k):=by
     rcases g with g | g
     ·exact ⟨Kae (a1 b g k hbn) a0,.inl g⟩
     ·have H:b=blk d∨b=blk f:=by simpa [tnB,Za4] using g
      exact ⟨(D b H k hbn).2,.inr (D b H k hbn).1⟩
    intro e
    rcases v with v | v
    ·rw [v] at e;rcases q.2 with F | F
     ·rcases L b F with i | i
      ·rw [hbn] at i;cases i
      ·exact i (hbn.trans e)
     ·have:=(I k e.symm).2;omega
    ·rw [v] at e;injection e with e
     omega
 unfold Oper.wp execOp;simp only [a7,resolve,invoke,builtin,Sem.run_bind,Sem.run_pure,Result.andThen_ok,List.map_toArray,List.map_cons,List.map_nil,a8,b4,d3];exact b5 m a4 w' d4 B v
theorem Zgj {w:World} {g:Array Oper} {o:Oper} {a:Act} {K:Act→World→Prop} {Q:Exit→Act→World→Prop} {E:Prop} (i:o.guard=none) (s x:Operand)
  (j:o.op=.call { callee:=.builtin .append,args:=#[s,x],argTypes:=#[44,44] })
  (base:Nat) (A:Option Addr) (c n:Nat) (l:List TN) (k:a.eval s=.slice A n c) (W w4:World) (m:OutT W base A n c l) (p:base≤W.heap.size) (q:Below W.heap.size W w4)
  (b d:Option Addr) (c1 c2 e f:Nat) (t:TN) (r:e=t.sh.length) (v:f=t.el.length) (y:t.sh.length≤1000000) (z:Own w4 W.heap.size 3 b c1 (t.sh.map VI)) (B:Own w4 W.heap.size 39 d c2 (t.el.map U)) (C:apart (blk b) (blk d))
  (D:w=w4.alloc (.cells #[.slice b e c1,.slice d f c2] 43)) (F:a.eval x=.slice (some ⟨w4.heap.size,0,none⟩) 1 1) (H:n≤1000000)
  (h:∀ A' c' w',OutT w' base A' (n+1) c' (l++[t])→w.grownBy w' (blk A)→(blk A'=blk A∨blk A'=some w.heap.size)→K (a.put o.dst (.slice A' (n+1) c')) w'):
  if Region.wanted o (yielded g a.tmps)=true then Oper.wp Tryz.prog o a w K Q else E:=by
 have I:Region.wanted o (yielded g a.tmps)=true:=by simp [Region.wanted,i]
 rw [if_pos I];exact Zf5 s x j base A c n l k W w4 m p q b d c1 c2 e f t r v y z B C D F H h
theorem Zno {w:World} {j:Array Oper} {rest:List Oper} {o:Oper} {a:Act} {Q:Exit→Act→World→Prop} (k:o.guard=none) (s x:Operand)
  (m:o.op=.call { callee:=.builtin .append,args:=#[s,x],argTypes:=#[44,44] })
  (base:Nat) (A:Option Addr) (c n:Nat) (l:List TN) (p:a.eval s=.slice A n c) (W w4:World) (q:OutT W base A n c l) (r:base≤W.heap.size) (v:Below W.heap.size W w4)
  (d e:Option Addr) (c1 c2 g i:Nat) (t:TN) (y:g=t.sh.length) (z:i=t.el.length) (B:t.sh.length≤1000000) (C:Own w4 W.heap.size 3 d c1 (t.sh.map VI)) (D:Own w4 W.heap.size 39 e c2 (t.el.map U)) (E:apart (blk d) (blk e))
  (F:w=w4.alloc (.cells #[.slice d g c1,.slice e i c2] 43)) (H:a.eval x=.slice (some ⟨w4.heap.size,0,none⟩) 1 1) (I:n≤1000000)
  (h:∀ b f w',OutT w' base b (n+1) f (l++[t])→w.grownBy w' (blk A)→(blk b=blk A∨blk b=some w.heap.size)→wpList Tryz.prog j Q rest (a.put o.dst (.slice b (n+1) f)) w'):
  wpList Tryz.prog j Q (o::rest) a w:=
 wpList_plain k fun _ hK=>Zf5 s x m base A c n l p W w4 q r v d e c1 c2 g i t y z B C D E F H I fun b f w' J L M=>hK _ _ (h b f w' J L M)
theorem Zgk {w5 b d:World} {A a:Option Addr} {o:Obj} (f:Below w5.heap.size w5 b) (g:(b.alloc o).grownBy d (blk A)) (i:blk a=blk A∨blk a=some (b.alloc o).heap.size):
  w5.heap.size≤d.heap.size∧(∀ k,k<w5.heap.size→blk A≠some k→d.heap[k]?=w5.heap[k]?)∧(blk a=blk A∨∃ z,blk a=some z∧w5.heap.size≤z):=by
 have j:=f.size;refine ⟨Kah j (Kah (by simp) g.size),fun k m p => ?_,?_⟩
 ·rw [g.block k (by simp;omega) (fun e=>p e.symm),Below.heap_alloc _ _ _ (by omega)]
  exact f.block k m
 ·rcases i with h | h
  ·exact .inl h
  ·exact .inr ⟨_,h,by simp;omega⟩
theorem Zk7 (n:Nat):(madeCells (Value.agg #[Value.slice none 0 0,Value.slice none 0 0]).cells (n*2))=(List.replicate (n*2) (Value.slice none 0 0)).toArray:=by
 apply Array.ext';apply List.ext_getElem?
 intro j
 by_cases b:j<n*2
 ·have a:j % 2=0∨j % 2=1:=by omega
  rcases a with a | a <;> simp [madeCells,Value.cells,b,a]
 ·simp [madeCells,b]
theorem Zdu (n:Nat) (j:n≤1000000) (w:World) (e:Int) (a:e=n):
  (Instr.makeSlice 44 (.int .i64 e) (.int .i64 e)).run Tryz.prog w=.ok (.slice (some ⟨w.heap.size,0,none⟩) n n) (w.alloc (.cells (List.replicate (n*2) (Value.slice none 0 0)).toArray 43)):=by
 obtain ⟨b,d,f,g,h⟩:=info_parts ZeW;have i:=run_make (P := Tryz.prog) w 44 43 b (.agg #[.slice none 0 0,.slice none 0 0]) Tryz.underlying44 d f .i64 .i64 e e (by omega) (by omega) (by rw [h];omega) (by omega)
 rw [i,a,g,show (n:Int).toNat=n from Int.toNat_natCast n,Zk7]
def EvNew (w3:World) (B:Nat) (Z:List Nat) (SA EA HA:Option Addr) (ns sc ne ec:Nat) (shF:List (List Int)) (s:Value) (wx:World):Prop:=
 ∃ cb g vg,s=.pointer (some ⟨cb,0,none⟩)∧EvSt wx B cb g vg Z SA EA HA ns sc ne ec [] (fun _=>zTN) shF∧Below w3.heap.size w3 wx∧w3.heap.size≤cb∧w3.heap.size≤g∧w3.heap.size≤vg
theorem evnew {w3 b:World} {B cb g vg s x a ec:Nat} {y z h:Option Addr} {i:List (List Int)} {f:List Value} (a0:B≤w3.heap.size) (F:w3.heap.size≤cb) (H:w3.heap.size≤g) (I:w3.heap.size≤vg) (J:cb≠g) (L:cb≠vg) (M:g≠vg)
  (d:Rd w3 w3.heap.size h f) (k:f.length=a) (N:i.length=a) (O:∀ (j:Nat) (v:Value) (l:List Int),f[j]?=some v→i[j]?=some l→∃ A c,v=.slice A l.length c∧l.length≤c∧c≤9223372036854775807∧l.length≤2∧Rd w3 w3.heap.size A (l.map VI))
  (P:b.heap[cb]?=some (.cells #[.slice y s x,.slice z a ec,.map (some g),.slice (some ⟨vg,0,none⟩) a a,.slice h a a] 113 (0,0)))
  (Q:b.heap[g]?=some (.map #[] 0)) (R:b.heap[vg]?=some (.cells (Array.replicate (a*2) (Value.slice none 0 0)) 43 (0,0))) (m:Below w3.heap.size w3 b):
  EvNew w3 B [] y z h s x a ec i (.pointer (some ⟨cb,0,none⟩)) b:=by
 have C:∀ {A:Option Addr} {q:List Value},Rd w3 w3.heap.size A q→RdX (evX cb g vg []) b A q:=fun {A q} d=>by
  rcases d with d | ⟨D,S,T,E,V⟩
  ·exact .inl d
  ·refine .inr ⟨D,S,T,Kae E m.size,fun W => ?_,fun j v r=>(m.cell (p:=⟨D,_,none⟩) E).trans (V j v r)⟩
   rcases W with e | e | e | e
   ·omega
   ·omega
   ·omega
   ·cases e
 refine ⟨cb,g,vg,rfl,⟨by omega,by omega,by omega,J,L,M,fun a1 X=>(by cases X),P,⟨[],⟨#[],0,Q,rfl⟩,trivial⟩,⟨List.replicate (a*2) (Value.slice none 0 0),by rw [R];simp,by simp;omega,fun j a2=>⟨.slice none 0 0,.slice none 0 0,?_,?_,TnV.nil _ _⟩⟩,f,C d,k,N,fun j v l r k => ?_⟩,m,F,H,I⟩
 ·rw [List.getElem?_replicate,if_pos (by omega)]
 ·rw [List.getElem?_replicate,if_pos (by omega)]
 ·obtain ⟨A,c,Y,Z,q3,q4,q5⟩:=O j v l r k;exact ⟨A,c,Y,Z,q3,q4,C q5⟩
end Go.Proofs.YtghlnncfigkkaaaGreatDoor
