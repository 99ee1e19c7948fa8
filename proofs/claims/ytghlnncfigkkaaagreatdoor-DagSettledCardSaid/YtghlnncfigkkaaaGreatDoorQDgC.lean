/-
 dag.words walked.
-/
import Derived.Test.YtghlnncfigkkaaaGreatDoorQDgB
import Derived.Test.YtghlnncfigkkaaaGreatDoorQEvC
import Derived.Test.YtghlnncfigkkaaaGreatDoorQParA
import Derived.Deep.RegionHeld3
import Derived.Deep.RegionLaw
import Derived.Test.YtghlnncfigkkaaaGreatDoorQDgA
set_option maxRecDepth 100000
set_option maxHeartbeats 8000000
set_option linter.unusedVariables false
set_option linter.unusedSimpArgs false
namespace Go.Proofs.YtghlnncfigkkaaaGreatDoor
open Go.RowKit
def TvAt (w:World) (B:Nat) (A:Option Addr) (j:Nat) (x:TN) (p:Value × Value):Prop:=
 ∃ b o A1 c1 A2 c2,A=some ⟨b,o,none⟩∧b<B∧p=(.slice A1 x.sh.length c1,.slice A2 x.el.length c2)∧w.cell? ⟨b,o+j*2,none⟩=some (.slice A1 x.sh.length c1)∧w.cell? ⟨b,o+j*2+1,none⟩=some (.slice A2 x.el.length c2) ∧
  Rd w B A1 (x.sh.map VI)∧x.sh.length≤c1∧c1≤9223372036854775807∧Rd w B A2 (x.el.map U)∧x.el.length≤c2∧c2≤9223372036854775807
theorem RdTN.vals {w:World} {B:Nat} {A:Option Addr} {l:List TN} (h:RdTN w B A l):∃ V:Nat→Value × Value,∀ j x,l[j]?=some x→TvAt w B A j x (V j):=by
 have:∀ j,∃ p:Value × Value,∀ x,l[j]?=some x→TvAt w B A j x p:=by
  intro j
  cases a:l[j]? with
  | none=>exact ⟨(.bool false,.bool false),fun x h=>by cases h⟩
  | some x=>
   obtain ⟨b,o,k,m,⟨e,c1,n,q,_,k1,r⟩,i,c2,t,v,_,z,C⟩:=h.at_ a;exact ⟨(.slice e x.sh.length c1,.slice i x.el.length c2),fun y c=>by injection c with c;subst c;exact ⟨b,o,e,c1,i,c2,k,m,rfl,n,t,q,k1,r,v,z,C⟩⟩
 exact ⟨fun j=>(this j).choose,fun j x a=>(this j).choose_spec x a⟩
def stJ (xs:List TN) (V:Nat→Value × Value) (j:Nat):SI × Value:=(⟨1,0,nmT j,(xs.getD j zTN).sh,0,0⟩,(V j).1)
def exJ (j:Nat):EI × Value:=(⟨2,nmT j,0,[],0⟩,.slice none 0 0)
def sX (xs:List TN) (V:Nat→Value × Value) (i:Nat):List Value:=(List.range i).flatMap fun j=>siC (stJ xs V j)
def eX (i:Nat):List Value:=(List.range i).flatMap fun j=>eiC (exJ j)
def iX (V:Nat→Value × Value) (i:Nat):List Value:=(List.range i).flatMap fun j=>[(V j).1,(V j).2]
def aX (i:Nat):List Value:=(List.range i).map VNt
theorem sX_succ (xs:List TN) (V:Nat→Value × Value) (i:Nat):sX xs V (i+1)=sX xs V i++siC (stJ xs V i):=by unfold sX;rw [List.range_succ,List.flatMap_append];simp
theorem eX_succ (i:Nat):eX (i+1)=eX i++eiC (exJ i):=by unfold eX;rw [List.range_succ,List.flatMap_append];simp
theorem iX_succ (V:Nat→Value × Value) (i:Nat):iX V (i+1)=iX V i++[(V i).1,(V i).2]:=by unfold iX;rw [List.range_succ,List.flatMap_append];simp
theorem aX_succ (i:Nat):aX (i+1)=aX i++[VNt i]:=by unfold aX;rw [List.range_succ,List.map_append];simp
def tyS (W0 w:World) (BR tb ib eb kd num:Nat) (xs:List TN) (V:Nat→Value × Value) (i:Nat):Prop:=∃ SA sc EA ec IA ic AA ac,TyS W0 w BR tb ib eb kd num SA sc i (sX xs V i) EA ec i (eX i) IA ic i (iX V i) AA ac i (aX i)
theorem rdSI_row {w:World} {B n c:Nat} {A:Option Addr} {ms:List (SI × Value)} (h:w.ownsRow B 93 6 (.slice A n c) n (ms.flatMap siC)) (q:n=ms.length)
  (r:∀ m∈ms,∃ e b,m.2=.slice e m.1.shape.length b∧Rd w w.heap.size e (m.1.shape.map VI)∧m.1.shape.length≤9223372036854775807∧m.1.shape.length≤b∧b≤9223372036854775807):RdSI w w.heap.size A (ms.map Prod.fst):=by
 subst q
 by_cases k:ms=[]
 ·subst k;exact .inl rfl
 ·obtain ⟨g,y,z,_,C⟩:=Zbm h (List.length_pos_iff.2 k);refine .inr ⟨g,0,y,z,fun i x l => ?_⟩
  rw [Kal,Option.map_eq_some_iff] at l;obtain ⟨m,p,rfl⟩:=l;have a:∀ j v,(siC m)[j]?=some v→j<6→w.cell? ⟨g,0+i*6+j,none⟩=some v:=fun j v D E=>by
   rw [Nat.zero_add];exact C _ v ((Zaq siC 6 (fun _=>rfl) ms i j m p E).trans D)
  obtain ⟨e,b,F,H⟩:=r m (Kam p);exact ⟨a 0 _ rfl (by omega),a 1 _ rfl (by omega),a 2 _ rfl (by omega),⟨e,b,by rw [←F];exact a 3 _ rfl (by omega),H⟩,a 4 _ rfl (by omega),a 5 _ rfl (by omega)⟩
theorem rdEI_row {w:World} {B n c:Nat} {A:Option Addr} {ms:List (EI × Value)} (h:w.ownsRow B 90 5 (.slice A n c) n (ms.flatMap eiC)) (q:n=ms.length)
  (r:∀ m∈ms,∃ e a,m.2=.slice e m.1.args.length a∧Rd w w.heap.size e (m.1.args.map VI)∧m.1.args.length≤9223372036854775807∧m.1.args.length≤a∧a≤9223372036854775807):RdEI w w.heap.size A (ms.map Prod.fst):=by
 subst q
 by_cases k:ms=[]
 ·subst k;exact .inl rfl
 ·obtain ⟨g,y,z,_,C⟩:=Zbm h (List.length_pos_iff.2 k);refine .inr ⟨g,0,y,z,fun i x l => ?_⟩
  rw [Kal,Option.map_eq_some_iff] at l;obtain ⟨m,p,rfl⟩:=l;have b:∀ j v,(eiC m)[j]?=some v→j<5→w.cell? ⟨g,0+i*5+j,none⟩=some v:=fun j v D E=>by
   rw [Nat.zero_add];exact C _ v ((Zaq eiC 5 (fun _=>rfl) ms i j m p E).trans D)
  obtain ⟨e,a,F,H⟩:=r m (Kam p);exact ⟨b 0 _ rfl (by omega),b 1 _ rfl (by omega),b 2 _ rfl (by omega),⟨e,a,by rw [←F];exact b 3 _ rfl (by omega),H⟩,b 4 _ rfl (by omega)⟩
theorem rdTN_row {w:World} {B n c:Nat} {A:Option Addr} {V:Nat→Value × Value} {xs:List TN} (h:w.ownsRow B 43 2 (.slice A n c) n (iX V n)) (k:n=xs.length) (q:∀ j x,xs[j]?=some x→∃ a c1 b c2,V j=(.slice a x.sh.length c1,.slice b x.el.length c2) ∧
  Rd w w.heap.size a (x.sh.map VI)∧x.sh.length≤c1∧c1≤9223372036854775807∧Rd w w.heap.size b (x.el.map U)∧x.el.length≤c2∧c2≤9223372036854775807):RdTN w w.heap.size A xs:=by
 by_cases l:xs=[]
 ·exact .inl l
 ·obtain ⟨g,r,y,_,z⟩:=Zbm h (by rw [k];exact List.length_pos_iff.2 l)
  refine .inr ⟨g,0,r,y,fun i x m => ?_⟩
  have C:i<n:=by rw [k];exact (Kaf.1 m).1
  obtain ⟨a,c1,b,c2,e,D,E,F,H,I,J⟩:=q i x m;have p:∀ j v,([(V i).1,(V i).2]:List Value)[j]?=some v→j<2→w.cell? ⟨g,i*2+j,none⟩=some v:=fun j v e L=>by
   refine z _ v ?_;unfold iX;exact (Zaq (fun j=>[(V j).1,(V j).2]) 2 (fun _=>rfl) (List.range n) i j i (by rw [List.getElem?_range C]) L).trans e
  have k0:=p 0 _ rfl (by omega)
  have k1:=p 1 _ rfl (by omega)
  rw [e] at k0 k1;refine ⟨⟨a,c1,by rw [Nat.zero_add];exact k0,D,by omega,E,F⟩,b,c2,by rw [Nat.zero_add];exact k1,H,by omega,I,J⟩
theorem tinyI_range:∀ (xs:List TN) (i:Nat),tinyI i xs=(List.range xs.length).map fun j=>(⟨1,0,nmT (i+j),(xs.getD j zTN).sh,0,0⟩:SI)
 | [],i=>rfl
 | x::r,i=>by
  unfold tinyI;rw [tinyI_range r (i+1),List.length_cons,List.range_succ_eq_map,List.map_cons,List.map_map];refine List.cons_eq_cons.2 ⟨rfl,List.map_congr_left fun j _ => ?_⟩
  show _=(⟨1,0,nmT (i+(j+1)),(((x::r).getD (j+1) zTN)).sh,0,0⟩:SI)
  rw [show i+(j+1)=i+1+j by omega]
  rfl
def letC (n:Nat):SI × Value:=(⟨2,0,zNm,[],n,0⟩,.slice none 0 0)
def outC:SI × Value:=(⟨3,0,zNm,[],0,0⟩,.slice none 0 0)
theorem tinyS_len (xs:List TN):(tinyS xs).length=xs.length+2:=by
 unfold tinyS;rw [tinyI_range];simp
theorem tinyE_len (k num m:Nat):(tinyE k num m).length=m+1:=by simp [tinyE,tinyN]
theorem sh_small {s:List Int} (h:Zad s≠0):s.length≤2:=by
 by_cases a:2<s.length
 ·exfalso;apply h;unfold Zad;split <;> first | rfl | rw [if_pos a]
 ·omega
theorem tinyS_small {xs:List TN} (c:∀ t∈xs,TnOk t):∀ s∈tinyS xs,s.shape.length≤1000000:=by
 intro s a
 unfold tinyS at a;rw [tinyI_range] at a;rcases List.mem_append.1 a with a | a
 ·obtain ⟨j,e,rfl⟩:=List.mem_map.1 a;have b:j<xs.length:=List.mem_range.1 e;have h:xs.getD j zTN=xs[j]:=by simp [List.getD_eq_getElem?_getD,b]
  show (xs.getD j zTN).sh.length≤_
  rw [h];have:=sh_small (c _ (List.getElem_mem b)).1;omega
 ·simp at a;rcases a with rfl | rfl <;> simp
theorem tinyE_num {k num m b:Nat} (h:num≤b):∀ e∈tinyE k num m,e.num≤b:=by
 intro e a
 unfold tinyE tinyN at a;rcases List.mem_append.1 a with a | a
 ·obtain ⟨j,_,rfl⟩:=List.mem_map.1 a;exact Nat.zero_le _
 ·rw [List.mem_singleton.1 a];exact h
theorem TyS.done {w W:World} {p X Y Z kd i a:Nat} {xs:List TN} {V:Nat→Value × Value} {a0:Option Addr} {L:Option Addr} {M:Nat} {N:Option Addr} {ec:Nat} {O:Option Addr} {P:Nat} {k:Option Addr} {l:Nat}
  (y:a=xs.length) (a2:a≤3) (Q:∀ j x,xs[j]?=some x→TvAt w w.heap.size a0 j x (V j))
  (h:TyS w W p X Y Z kd i L M (a+2) (sX xs V a++(siC (letC a)++siC outC)) N ec (a+1) (eX a++[.int .i64 kd,.string ⟨#[]⟩,.int .u64 i,.slice k a l,.int .i64 0]) O P a (iX V a) k l a (aX a)):
  RdSI W W.heap.size L (tinyS xs)∧RdEI W W.heap.size N (tinyE kd i a)∧RdTN W W.heap.size O xs:=by
 have z:=h.bel;refine ⟨?_,?_,?_⟩
 ·have e:tinyS xs=((List.range a).map (stJ xs V)++[letC a,outC]).map Prod.fst:=by
   unfold tinyS;rw [tinyI_range,List.map_append,List.map_map,y];rw [List.map_congr_left (g:=Prod.fst ∘ stJ xs V) (fun j _=>by
    show (⟨1,0,nmT (0+j),(xs.getD j zTN).sh,0,0⟩:SI)=⟨1,0,nmT j,(xs.getD j zTN).sh,0,0⟩
    rw [Nat.zero_add])]
   rfl
  rw [e];have A:((List.range a).map (stJ xs V)++[letC a,outC]).flatMap siC=sX xs V a++(siC (letC a)++siC outC):=by
   unfold sX;rw [List.flatMap_append,List.flatMap_map];simp
  refine rdSI_row (B:=p) (n:=a+2) (c:=M) (by rw [A];exact h.rs) (by simp) fun m b => ?_
  rcases List.mem_append.1 b with b | b
  ·obtain ⟨j,r,rfl⟩:=List.mem_map.1 b;have R:j<xs.length:=by rw [←y];exact List.mem_range.1 r
   obtain ⟨a1,o,q,c1,S,c2,_,_,C,_,_,D,E,F,_⟩:=Q j _ (Kad R);have v:xs.getD j zTN=xs[j]:=by simp [List.getD_eq_getElem?_getD,R]
   refine ⟨q,c1,?_,?_,?_,?_,F⟩
   ·show (V j).1=_
    rw [C]
    show _=Value.slice q (xs.getD j zTN).sh.length c1
    rw [v]
   ·show Rd W W.heap.size q ((xs.getD j zTN).sh.map VI)
    rw [v];exact D.next z
   ·show (xs.getD j zTN).sh.length≤_
    rw [v];omega
   ·show (xs.getD j zTN).sh.length≤_
    rw [v];exact E
  ·have:m=letC a∨m=outC:=by simpa using b
   rcases this with rfl | rfl
   ·exact ⟨none,0,rfl,Rd.nil _ _ _,by simp [letC],by simp [letC],by omega⟩
   ·exact ⟨none,0,rfl,Rd.nil _ _ _,by simp [outC],by simp [outC],by omega⟩
 ·have e:tinyE kd i a=((List.range a).map exJ++[((⟨kd,⟨#[]⟩,i,(List.range a).map Int.ofNat,0⟩:EI),Value.slice k a l)]).map Prod.fst:=by
   unfold tinyE tinyN;rw [List.map_append,List.map_map];rfl
  rw [e];have A:((List.range a).map exJ++[((⟨kd,⟨#[]⟩,i,(List.range a).map Int.ofNat,0⟩:EI),Value.slice k a l)]).flatMap eiC=eX a++[.int .i64 kd,.string ⟨#[]⟩,.int .u64 i,.slice k a l,.int .i64 0]:=by
   unfold eX;rw [List.flatMap_append,List.flatMap_map];simp [eiC]
  refine rdEI_row (B:=p) (n:=a+1) (c:=ec) (by rw [A];exact h.re) (by simp) fun m b => ?_
  rcases List.mem_append.1 b with b | b
  ·obtain ⟨j,r,rfl⟩:=List.mem_map.1 b;exact ⟨none,0,rfl,Rd.nil _ _ _,by simp [exJ],by simp [exJ],by omega⟩
  ·rw [List.mem_singleton.1 b];have T:Own W p 3 k l (aX a):=by
    have H:(aX a).length=a:=by simp [aX]
    unfold Own;rw [H];exact h.ra
   have I:=own_capsN T;have H:(aX a).length=a:=by simp [aX]
   rw [H] at I;refine ⟨k,l,by simp,?_,by simp;omega,by simpa using I.1,I.2⟩
   have J:=T.rd;unfold aX at J;rw [vnt_map] at J;exact J
 ·refine rdTN_row (B:=p) (n:=a) (c:=P) h.ri y fun j x r => ?_
  obtain ⟨a1,o,q,c1,S,c2,_,_,C,_,_,D,E,F,r4,r5,r6⟩:=Q j x r;exact ⟨q,c1,S,c2,C,D.next z,E,F,r4.next z,r5,r6⟩
theorem alloc_below (w:World) (o:Obj):Below w.heap.size w (w.alloc o):=(Kai _ _).alloc (Kag _) _
theorem words_any (m:ND × NV) (xs:List TN) (l8:Option Addr) (p r3:Nat) (w:World) (f8:p=xs.length) (l9:RdTN w w.heap.size l8 xs) (f9:ETyped w) (i7:3≤m.1.kind∧m.1.kind≤14) (r4:m.1.k≤63)
  (a3:(xs.length:Int)=madeP m.1.kind) (i8:∀ t∈xs,TnOk t) (i9:Zad m.1.shape≠0) (j0:Zab m.1.kind m.1.k (xs.map TN.sh)=(m.1.shape,true)):
  Calls Tryz.prog 80 #[ndA m,.slice l8 p r3] w fun e w'=>∃ A n c,e=.returned (.slice A n c)∧n=(Zbc m.1.kind m.1.k (Zad m.1.shape).toNat xs).length∧Own w' w.heap.size 39 A c ((Zbc m.1.kind m.1.k (Zad m.1.shape).toNat xs).map U)∧Below w.heap.size w w':=by
 obtain ⟨V,m2⟩:=l9.vals;have g0:=Kz (tiny_eval i7 a3 i8 i9 j0);obtain ⟨m3,m4⟩:=Ky (Zbc m.1.kind m.1.k (Zad m.1.shape).toNat xs);rw [←m4] at g0 ⊢;have r5:p≤3:=by
  rw [f8];unfold madeP at a3;split at a3
  ·omega
  ·split at a3
   ·omega
   ·split at a3
    ·omega
    ·split at a3
     ·omega
     ·omega
 obtain ⟨⟨kd,r6,v5,g1,g2,v,el⟩,⟨g3,g4,g5⟩⟩:=m;dsimp only at i7 r4 a3 i9 j0 g0;have b5:=Kz f8;have m5:=Kz m2;have s0:=Kz f9;have m6:=Kz (fun a9=>exprOf_any kd i7 a9)
 have s1:=Kz (show ∀ s∈tinyS xs,s.shape.length≤1000000 from tinyS_small i8)
 have s2:=Kz (show ∀ e∈tinyE kd v p,e.num≤18446744073709551615 from tinyE_num (by omega))
 rw [←f8] at g0;unfold ndA;dsimp only;clear f8 m2 f9 l9 m4 a3 i8 i9 j0
 go_enter Tryz.func80,Tryz.ntmps80
 obtain ⟨w3,a5⟩:=Ky (((w.alloc (.cells #[.int .i64 kd,g3,g4,.int .i64 g1,.int .i64 g2,.int .i64 v,g5] 77)).alloc (.cells #[.slice none 0 0,.slice none 0 0] 26)).alloc (.cells #[.slice none 0 0,.slice none 0 0] 45))
 go_upto_region 3 with fail
 rw [←a5];have m7:Below w.heap.size w w3:=by rw [a5];exact (((Kai _ _).alloc (Kag _) _).alloc (by simp) _).alloc (by simp;omega) _
 have j1:w3.heap.size=w.heap.size+3:=by rw [a5];simp
 have g6:w3.heap[w.heap.size]?=some (.cells #[.int .i64 kd,g3,g4,.int .i64 g1,.int .i64 g2,.int .i64 v,g5] 77 (0,0)):=by
  rw [a5,Below.heap_alloc _ _ _ (by simp;omega),Below.heap_alloc _ _ _ (by simp)];exact Kac w _
 have h0:w3.heap[w.heap.size+1]?=some (.cells #[.slice none 0 0,.slice none 0 0] 26 (0,0)):=by
  rw [a5,Below.heap_alloc _ _ _ (by simp)]
  have:=Kac (w.alloc (.cells #[.int .i64 kd,g3,g4,.int .i64 g1,.int .i64 g2,.int .i64 v,g5] 77)) (.cells #[.slice none 0 0,.slice none 0 0] 26);rwa [World.size_alloc] at this
 have b6:w3.heap[w.heap.size+1+1]?=some (.cells #[.slice none 0 0,.slice none 0 0] 45 (0,0)):=by
  rw [a5];have:=Kac ((w.alloc (.cells #[.int .i64 kd,g3,g4,.int .i64 g1,.int .i64 g2,.int .i64 v,g5] 77)).alloc (.cells #[.slice none 0 0,.slice none 0 0] 26)) (.cells #[.slice none 0 0,.slice none 0 0] 45);rwa [World.size_alloc,World.size_alloc] at this
 obtain ⟨b7,j2⟩:=Ky w.heap.size;rw [←j2] at g6 h0 b6 ⊢;obtain ⟨x,m8⟩:=Ky (b7+1);rw [←m8] at h0 b6 ⊢;obtain ⟨Q,m9⟩:=Ky (x+1);rw [←m9] at b6 ⊢;have b8:=Kz (show ∀ a9,Below w3.heap.size w3 a9→a9.cell? ⟨b7,0,none⟩=some (.int .i64 kd)∧a9.cell? ⟨b7,5,none⟩=some (.int .i64 v) from fun a9 s3=>by
  have h:=(s3.block _ (Kab.1 g6).1).trans g6;exact ⟨Kaa 0 h,Kaa 5 h⟩)
 have v6:=Kz j2;have n0:=Kz m7;have s4:=Kz h0;have s5:=Kz b6;have h5:=Kz (show w.heap.size≤x∧x<w3.heap.size from by rw [j1];omega)
 have b9:=Kz (show w.heap.size≤Q∧Q<w3.heap.size∧x≠Q from by rw [j1];omega)
 have n1:IntKind.u64.wrap (v:Int)=v:=by simp [IntKind.wrap,IntKind.bits,IntKind.signed];omega
 clear a5 m7 j1 g6 h0 b6 j2 m8 m9
 go_cut [7] (fun j3 n3=>∃ b,j3=.pointer (some ⟨b,0,none⟩)∧w3.heap.size≤b∧n3.heap[b]?=some (.cells #[.int .i64 kd,.string ⟨#[]⟩,.int .u64 v,.slice none 0 0,.int .i64 0] 90 (0,0))∧Below w3.heap.size w3 n3)
 case first=>
  refine wp_region_held_drew (S:=(fun w'=>w'.cell? ⟨b7,0,none⟩=some (.int .i64 kd)∧w'.cell? ⟨b7,5,none⟩=some (.int .i64 v))) (by kernel_rfl) (b8.o _ (Kai _ _).drew) (fun Z => ?_)
  obtain ⟨b0,j4⟩:=Ky w3.drew;rw [←j4] at Z ⊢;have b4:=Kz (show Below w3.heap.size w3 b0 from by rw [j4];exact (Kai _ _).drew)
  clear j4;refine tk 0 ?_;simp only [tkS];refine tk 1 ?_;simp only [tkS];refine tk 3 ?_;simp only [tkS];refine tk 4 ?_;simp only [tkS];refine tk 5 ?_;simp only [tkS];refine wpAnyH_ready (rs:=[2,7]) (by kernel_rfl) (by simp) ?_
  refine AllReadyH.cons (o:=_) rfl (fun K hK => ?_) (AllReadyH.cons (o:=_) rfl (fun K hK => ?_) (AllReadyH.nil))
  ·go_simp
   go_at_call 117
   refine (m6.o b0).mono ?_
   rintro e w' ⟨rfl,rfl⟩
   refine hK.out _ _ Z (fun Z => ?_)
   clear hK K
   try simp only [tkS]
   refine tk 6 ?_;simp only [tkS];refine Kr 7 fun K hK=>?_
   go_simp;obtain ⟨a4,a0⟩:=Ky (b0.alloc (.cells #[.int .i64 0,.string ⟨#[]⟩,.int .u64 0,.slice none 0 0,.int .i64 0] 90));obtain ⟨b,a1⟩:=Ky b0.heap.size;rw [←a0,←a1];have c6:=Kz (show Below w3.heap.size w3 a4 from by rw [a0];exact b4.o.alloc b4.o.size _)
   have z:=Kz (Kx a0 a1);have C:=Kz (show w3.heap.size≤b from by rw [a1];exact b4.o.size)
   clear a0 a1;refine hK.out _ _ (b8.o _ c6.o) (fun Z => ?_)
   clear hK K
   try simp only [tkS]
   refine Kr 8 fun K hK=>?_
   have d0:=Kaa 0 z.o;have d1:=Kaa 1 z.o;have d2:=Kaa 2 z.o;have d3:=Kaa 3 z.o;have d4:=Kaa 4 z.o;have j5:∀ k,a4.frozen? ⟨b,k,none⟩=false:=fun k=>by simp [World.frozen?,z.o]
   go_simp;obtain ⟨c7,a2⟩:=Ky (((((a4.setCell ⟨b,0,none⟩ (.int .i64 kd)).setCell ⟨b,1,none⟩ (.string ⟨#[]⟩)).setCell ⟨b,2,none⟩ (.int .u64 v)).setCell ⟨b,3,none⟩ (.slice none 0 0)).setCell ⟨b,4,none⟩ (.int .i64 0));rw [←a2];have c8:=Kz (show Below w3.heap.size w3 c7 from by rw [a2];exact Zaf (Zaf (Zaf (Zaf (Zaf c6.o C.o _) C.o _) C.o _) C.o _) C.o _)
   have j6:=Kz (show c7.heap[b]?=some (.cells #[.int .i64 kd,.string ⟨#[]⟩,.int .u64 v,.slice none 0 0,.int .i64 0] 90 (0,0)) from by rw [a2];exact heap_setCell_same _ _ _ _ _ _ (heap_setCell_same _ _ _ _ _ _ (heap_setCell_same _ _ _ _ _ _ (heap_setCell_same _ _ _ _ _ _ (heap_setCell_same _ _ _ _ _ _ z.o)))))
   clear a2 d0 d1 d2 d3 d4 j5;refine hK.out _ _ (b8.o _ c8.o) (fun Z => ?_)
   clear hK K
   try simp only [tkS]
   refine Kq ?_
   go_wp2_with fail
   go_meet;exact ⟨b,rfl,C.o,j6.o,c8.o⟩
  ·go_simp;obtain ⟨a4,a0⟩:=Ky (b0.alloc (.cells #[.int .i64 0,.string ⟨#[]⟩,.int .u64 0,.slice none 0 0,.int .i64 0] 90));obtain ⟨b,a1⟩:=Ky b0.heap.size;rw [←a0,←a1];have c6:=Kz (show Below w3.heap.size w3 a4 from by rw [a0];exact b4.o.alloc b4.o.size _)
   have z:=Kz (Kx a0 a1);have C:=Kz (show w3.heap.size≤b from by rw [a1];exact b4.o.size)
   clear a0 a1;refine hK.out _ _ (b8.o _ c6.o) (fun Z => ?_)
   clear hK K
   try simp only [tkS]
   refine Kr 2 fun K hK=>?_
   go_simp
   go_at_call 117
   refine (m6.o a4).mono ?_
   rintro e w' ⟨rfl,rfl⟩
   refine hK.out _ _ Z (fun Z => ?_)
   clear hK K
   try simp only [tkS]
   refine tk 6 ?_;simp only [tkS];refine Kr 8 fun K hK=>?_
   have d0:=Kaa 0 z.o;have d1:=Kaa 1 z.o;have d2:=Kaa 2 z.o;have d3:=Kaa 3 z.o;have d4:=Kaa 4 z.o;have j5:∀ k,a4.frozen? ⟨b,k,none⟩=false:=fun k=>by simp [World.frozen?,z.o]
   go_simp;obtain ⟨c7,a2⟩:=Ky (((((a4.setCell ⟨b,0,none⟩ (.int .i64 kd)).setCell ⟨b,1,none⟩ (.string ⟨#[]⟩)).setCell ⟨b,2,none⟩ (.int .u64 v)).setCell ⟨b,3,none⟩ (.slice none 0 0)).setCell ⟨b,4,none⟩ (.int .i64 0));rw [←a2];have c8:=Kz (show Below w3.heap.size w3 c7 from by rw [a2];exact Zaf (Zaf (Zaf (Zaf (Zaf c6.o C.o _) C.o _) C.o _) C.o _) C.o _)
   have j6:=Kz (show c7.heap[b]?=some (.cells #[.int .i64 kd,.string ⟨#[]⟩,.int .u64 v,.slice none 0 0,.int .i64 0] 90 (0,0)) from by rw [a2];exact heap_setCell_same _ _ _ _ _ _ (heap_setCell_same _ _ _ _ _ _ (heap_setCell_same _ _ _ _ _ _ (heap_setCell_same _ _ _ _ _ _ (heap_setCell_same _ _ _ _ _ _ z.o)))))
   clear a2 d0 d1 d2 d3 d4 j5;refine hK.out _ _ (b8.o _ c8.o) (fun Z => ?_)
   clear hK K
   try simp only [tkS]
   refine Kq ?_
   go_wp2_with fail
   go_meet;exact ⟨b,rfl,C.o,j6.o,c8.o⟩
 case rest=>
  obtain ⟨b,rfl,n4,h6,a6⟩:=hcut;obtain ⟨w4,n5⟩:=Ky wc;rw [←n5] at h6 a6 ⊢;obtain ⟨Y,c9⟩:=Ky w4.heap.size;have s6:=Kz (show tyS w w4 Y x Q b kd v xs V 0 from ⟨none,0,none,0,none,0,none,0,bnext n0.o a6,Nat.le_of_eq c9,⟨h5.o.1,by rw [c9];exact Kae h5.o.2 a6.size⟩,⟨b9.o.1,by rw [c9];exact Kae b9.o.2.1 a6.size⟩,⟨Kah n0.o.size n4,by rw [c9];exact (Kab.1 h6).1⟩,b9.o.2.2,by have:=h5.o.2;omega,by have:=b9.o.2.1;omega,(a6.block _ h5.o.2).trans s4.o,(a6.block _ b9.o.2.1).trans s5.o,h6,World.ownsRow_nil _ _ _ 6,World.ownsRow_nil _ _ _ 5,World.ownsRow_nil _ _ _ 2,World.ownsRow_nil _ _ _ 1⟩)
  clear n5 n4 h6 a6 c9
  go_wp2_with fail
  go_loopw [22] (fun j7 wr=>∃ i:Nat,i≤p∧j7=.int .i64 i∧tyS w wr Y x Q b kd v xs V i) (fun j7 _=>p-(intOf j7).toNat)
  case atStart=>exact ⟨0,by omega,rfl,s6.o⟩
  case round=>
  obtain ⟨i,v7,rfl,h7,j8,h8,j9,h9,k2,d5,i2,n6⟩:=hrel;have D:=Kz n6;clear n6
  by_cases n7:i<p
  ·have k3:xs[i]?=some (xs[i]'(by rw [←b5.o];exact n7)):=Kad _
   obtain ⟨i3,n8⟩:=Ky (xs[i]'(by rw [←b5.o];exact n7))
   rw [←n8] at k3;obtain ⟨n9,o,P,c1,R,c2,rfl,k4,k5,k0,k1,_⟩:=m5.o i i3 k3;obtain ⟨T,k6⟩:=Ky i3.sh.length;obtain ⟨n2,k7⟩:=Ky i3.el.length;rw [←k6,←k7] at k5;rw [←k6] at k0;rw [←k7] at k1;have o0:=Kz k5;have e0:=(D.o.bel.cell (p:=⟨n9,o+i*2,none⟩) k4).trans k0;have e1:=(D.o.bel.cell (p:=⟨n9,o+i*2+1,none⟩) k4).trans k1;have i0:(0:Int)≤(i:Int):=by omega
   have i1:(i:Int)<(p:Int):=by omega
   obtain ⟨w6,d6⟩:=Ky (wr.alloc (.cells #[.slice P T c1,.slice R n2 c2] 43));obtain ⟨l,d7⟩:=Ky wr.heap.size;have H6:=Kz (show TyS w w6 Y x Q b kd v h7 j8 i (sX xs V i) h8 j9 i (eX i) h9 k2 i (iX V i) d5 i2 i (aX i) from by rw [d6];exact D.o.next (alloc_below _ _))
   have k8:=Kz (Kx d6 d7);have k9:=Kz (show l<w6.heap.size from by rw [d6,d7];simp)
   have i4:=Kz (show wr.heap.size≤l from Nat.le_of_eq d7.symm)
   have i5:=Kz (show l≠x∧l≠Q∧l≠b from by have h1:=D.o.b1;have h2:=D.o.b2;have h3:=D.o.b3;have h4:=D.o.br;omega)
   have s7:=Kz (show ∀ q,wr.heap.size≤q→some q≠blk h7 from fun q l0 e=>by have:=(Zdg D.o.rs q e.symm).2;omega)
   have s8:=Kz (show ∀ q,wr.heap.size≤q→some q≠blk h8 from fun q l0 e=>by have:=(Zdg D.o.re q e.symm).2;omega)
   have s9:=Kz (show ∀ q,wr.heap.size≤q→some q≠blk h9 from fun q l0 e=>by have:=(Zdg D.o.ri q e.symm).2;omega)
   have t0:=Kz (show ∀ q,wr.heap.size≤q→some q≠blk d5 from fun q l0 e=>by have:=(Zdg D.o.ra q e.symm).2;omega)
   have t1:IntKind.i64.wrap (97+(i:Int))=97+i:=by simp [IntKind.wrap,IntKind.bits,IntKind.signed];omega
   have t2:IntKind.i32.wrap (97+(i:Int))=97+i:=by simp [IntKind.wrap,IntKind.bits,IntKind.signed];omega
   have t3:Utf8.encode (97+(i:Int))=nmT i:=by
    rcases (by omega:i=0∨i=1∨i=2) with rfl | rfl | rfl <;> rfl
   have t4:=Kz d6;have t5:=Kz d7;clear k5 k0 k1 k3 n8 k4 k6 k7 d6 d7
   go_upto_region 8 with fail
   rw [←t4.o,←t5.o];clear t3 t1 t2 n1 e0 e1 i0 i1;have a:=Kz (H6.o.next (alloc_below w6 (.cells ([.int .i64 1,.int .i64 0,.string (nmT i),.slice P T c1,.int .i64 0,.int .i64 0]:List Value).toArray 93)));obtain ⟨E,F,H,I,J,L,M,N,O⟩:=H6.o.cells;have a7:=Kaa 0 k8.o;have a8:=Kaa 1 k8.o
   go_upto_region 9 with (at_builtin;(refine appR rfl (.tmp 32) (.tmp 37) 23 93 (.agg #[.int .i64 0,.int .i64 0,.string ⟨#[]⟩,.slice none 0 0,.int .i64 0,.int .i64 0]) 6 72 siI_info Tryz.underlying23 (by decide) rfl (by decide) rfl Y h7 j8 i (sX xs V i) rfl a.o.rs w6.heap.size 1 (by decide) [.int .i64 1,.int .i64 0,.string (nmT i),.slice P T c1,.int .i64 0,.int .i64 0] rfl rfl (Kac w6 _) (by simp [Value.oneCell']) (by omega) a.o.br ?_);intro o1 o2 o3 r7 g7;have r:=((a.o.grow a.o.rs g7).2.2.1).trans a.o.ht;have W:=Kaa 0 r;have X:∀ k,o3.frozen? ⟨x,k,none⟩=false:=(fun k=>by simp [World.frozen?,r]);have y:=Kz (a.o.pushS g7 r7);have d8:=Kz ((g7.block l (by have:=k9.o;simp;omega) (s7.o l i4.o)).trans ((Below.heap_alloc _ _ _ k9.o).trans k8.o));have d9:=Kz (Kae k9.o (Kah (by simp) g7.size));clear r r7 g7)
   obtain ⟨e5,e6⟩:=Ky (o3.setCell ⟨x,0,none⟩ (.slice o1 (i+1) o2));rw [←e6];have H7:=Kz (show _ from by have h:=y.o;rw [←e6] at h;exact h)
   have d8:=Kz (show e5.heap[l]?=some (.cells #[.slice P T c1,.slice R n2 c2] 43 (0,0)) from by rw [e6,ZaS _ _ _ (by have:=i5.o;show l≠x;omega)];exact d8.o)
   have d9:=Kz (show l<e5.heap.size from by rw [e6];simpa [World.setCell] using d9.o)
   clear e6 W X a y E F H I J L M N O a7 a8;have a:=Kz (H7.o.next (alloc_below e5 (.cells ([.int .i64 2,.string (nmT i),.int .u64 0,.slice none 0 0,.int .i64 0]:List Value).toArray 90)));obtain ⟨E,F,H,I,J,L,M,N,O⟩:=H7.o.cells;have a7:=Kaa 0 d8.o;have a8:=Kaa 1 d8.o
   go_upto_region 10 with (at_builtin;(refine appR rfl (.tmp 41) (.tmp 44) 24 90 (.agg #[.int .i64 0,.string ⟨#[]⟩,.int .u64 0,.slice none 0 0,.int .i64 0]) 5 64 eiI_info Tryz.underlying24 (by decide) rfl (by decide) rfl Y h8 j9 i (eX i) rfl a.o.re e5.heap.size 1 (by decide) [.int .i64 2,.string (nmT i),.int .u64 0,.slice none 0 0,.int .i64 0] rfl rfl (Kac e5 _) (by simp [Value.oneCell']) (by omega) a.o.br ?_);intro o4 o5 o6 r8 g8;have r:=((a.o.grow a.o.re g8).2.2.1).trans a.o.ht;have W:=Kaa 1 r;have X:∀ k,o6.frozen? ⟨x,k,none⟩=false:=(fun k=>by simp [World.frozen?,r]);have y:=Kz (a.o.pushE g8 r8);have e7:=Kz ((g8.block l (by have:=d9.o;simp;omega) (s8.o l i4.o)).trans ((Below.heap_alloc _ _ _ d9.o).trans d8.o));have e8:=Kz (Kae d9.o (Kah (by simp) g8.size));clear r r8 g8)
   obtain ⟨e9,f0⟩:=Ky (o6.setCell ⟨x,1,none⟩ (.slice o4 (i+1) o5));rw [←f0];have H8:=Kz (show _ from by have h:=y.o;rw [←f0] at h;exact h)
   have e7:=Kz (show e9.heap[l]?=some (.cells #[.slice P T c1,.slice R n2 c2] 43 (0,0)) from by rw [f0,ZaS _ _ _ (by have:=i5.o;show l≠x;omega)];exact e7.o)
   have e8:=Kz (show l<e9.heap.size from by rw [f0];simpa [World.setCell] using e8.o)
   clear f0 W X a y E F H I J L M N O a7 a8;have a:=Kz (H8.o.next (alloc_below e9 (.cells ([.slice P T c1,.slice R n2 c2]:List Value).toArray 43)));obtain ⟨E,F,H,I,J,L,M,N,O⟩:=H8.o.cells;have a7:=Kaa 0 e7.o;have a8:=Kaa 1 e7.o
   go_upto_region 11 with (at_builtin;(refine appR rfl (.tmp 48) (.tmp 50) 44 43 (.agg #[.slice none 0 0,.slice none 0 0]) 2 48 ZeW Tryz.underlying44 (by decide) rfl (by decide) rfl Y h9 k2 i (iX V i) rfl a.o.ri e9.heap.size 1 (by decide) [.slice P T c1,.slice R n2 c2] rfl rfl (Kac e9 _) (by simp [Value.oneCell']) (by omega) a.o.br ?_);intro o7 o8 o9 r9 g9;have r:=((a.o.grow a.o.ri g9).2.2.2.1).trans a.o.hi;have W:=Kaa 0 r;have X:∀ k,o9.frozen? ⟨Q,k,none⟩=false:=(fun k=>by simp [World.frozen?,r]);have y:=Kz (a.o.pushI g9 r9);have f1:=Kz ((g9.block l (by have:=e8.o;simp;omega) (s9.o l i4.o)).trans ((Below.heap_alloc _ _ _ e8.o).trans e7.o));have f2:=Kz (Kae e8.o (Kah (by simp) g9.size));clear r r9 g9)
   obtain ⟨f3,f4⟩:=Ky (o9.setCell ⟨Q,0,none⟩ (.slice o7 (i+1) o8));rw [←f4];have H9:=Kz (show _ from by have h:=y.o;rw [←f4] at h;exact h)
   have f1:=Kz (show f3.heap[l]?=some (.cells #[.slice P T c1,.slice R n2 c2] 43 (0,0)) from by rw [f4,ZaS _ _ _ (by have:=i5.o;show l≠Q;omega)];exact f1.o)
   have f2:=Kz (show l<f3.heap.size from by rw [f4];simpa [World.setCell] using f2.o)
   clear f4 W X a y E F H I J L M N O a7 a8;have a:=Kz (H9.o.next (alloc_below f3 (.cells ([.int .i64 (i:Int)]:List Value).toArray 3)));obtain ⟨E,F,H,I,J,L,M,N,O⟩:=H9.o.cells;have a7:=Kaa 0 f1.o;have a8:=Kaa 1 f1.o
   go_upto_region 12 with (at_builtin;(refine appR rfl (.tmp 54) (.tmp 56) 41 3 (.int .i64 0) 1 8 ZcB Tryz.underlying41 (by decide) rfl (by decide) rfl Y d5 i2 i (aX i) rfl a.o.ra f3.heap.size 1 (by decide) [.int .i64 (i:Int)] rfl rfl (Kac f3 _) (by simp [Value.oneCell']) (by omega) a.o.br ?_);intro p0 p3 p4 p5 f5;have r:=((a.o.grow a.o.ra f5).2.2.2.2).trans a.o.he;have W:=Kaa 3 r;have X:∀ k,p4.frozen? ⟨b,k,none⟩=false:=(fun k=>by simp [World.frozen?,r]);have y:=Kz (a.o.pushA f5 p5);have p6:=Kz ((f5.block l (by have:=f2.o;simp;omega) (t0.o l i4.o)).trans ((Below.heap_alloc _ _ _ f2.o).trans f1.o));have p7:=Kz (Kae f2.o (Kah (by simp) f5.size));clear r p5 f5)
   obtain ⟨l1,f6⟩:=Ky (p4.setCell ⟨b,3,none⟩ (.slice p0 (i+1) p3));rw [←f6];have t6:=Kz (show _ from by have h:=y.o;rw [←f6] at h;exact h)
   have p6:=Kz (show l1.heap[l]?=some (.cells #[.slice P T c1,.slice R n2 c2] 43 (0,0)) from by rw [f6,ZaS _ _ _ (by have:=i5.o;show l≠b;omega)];exact p6.o)
   have p7:=Kz (show l<l1.heap.size from by rw [f6];simpa [World.setCell] using p7.o)
   clear f6 W X a y E F H I J L M N O a7 a8;have t7:=Kz (show tyS w l1 Y x Q b kd v xs V (i+1) from ⟨o1,o2,o4,o5,o7,o8,p0,p3,by
    have h:=t6.o;have e1:sX xs V (i+1)=sX xs V i++[.int .i64 1,.int .i64 0,.string (nmT i),.slice P T c1,.int .i64 0,.int .i64 0]:=by
     rw [sX_succ];unfold siC stJ;rw [o0.o]
    have e2:eX (i+1)=eX i++[.int .i64 2,.string (nmT i),.int .u64 0,.slice none 0 0,.int .i64 0]:=eX_succ i;have e3:iX V (i+1)=iX V i++[.slice P T c1,.slice R n2 c2]:=by
     rw [iX_succ,o0.o]
    have e4:aX (i+1)=aX i++[.int .i64 (i:Int)]:=aX_succ i;rw [e1,e2,e3,e4];exact h⟩)
   go_wp2_with fail
   exact ⟨⟨i+1,by omega,rfl,t7.o⟩,by simp [intOf];omega⟩
  ·obtain rfl:p=i:=by omega
   have a:=Kz (D.o.next (alloc_below wr (.cells ([.int .i64 kd,.string ⟨#[]⟩,.int .u64 v,.slice d5 p i2,.int .i64 0]:List Value).toArray 90)));obtain ⟨E,F,H,I,J,L,M,N,O⟩:=D.o.cells;clear n1
   go_upto_region 14 with (at_builtin;(refine appR rfl (.tmp 61) (.tmp 63) 24 90 (.agg #[.int .i64 0,.string ⟨#[]⟩,.int .u64 0,.slice none 0 0,.int .i64 0]) 5 64 eiI_info Tryz.underlying24 (by decide) rfl (by decide) rfl Y h8 j9 p (eX p) rfl a.o.re wr.heap.size 1 (by decide) [.int .i64 kd,.string ⟨#[]⟩,.int .u64 v,.slice d5 p i2,.int .i64 0] rfl rfl (Kac wr _) (by simp [Value.oneCell']) (by omega) a.o.br ?_);intro p8 p9 q0 q1 l2;have r:=((a.o.grow a.o.re l2).2.2.1).trans a.o.ht;have W:=Kaa 1 r;have X:∀ k,q0.frozen? ⟨x,k,none⟩=false:=(fun k=>by simp [World.frozen?,r]);have y:=Kz (a.o.pushE l2 q1);clear r q1 l2)
   obtain ⟨l3,l4⟩:=Ky (q0.setCell ⟨x,1,none⟩ (.slice p8 (p+1) p9));rw [←l4];have q2:=Kz (show _ from by have h:=y.o;rw [←l4] at h;exact h)
   clear l4 W X a y E F H I J L M N O;have a:=Kz (q2.o.next (alloc_below l3 (.cells ([.int .i64 2,.int .i64 0,.string zNm,.slice none 0 0,.int .i64 (p:Int),.int .i64 0,.int .i64 3,.int .i64 0,.string zNm,.slice none 0 0,.int .i64 0,.int .i64 0]:List Value).toArray 93)));obtain ⟨E,F,H,I,J,L,M,N,O⟩:=q2.o.cells
   go_upto_region 15 with (at_builtin;(refine appR rfl (.tmp 67) (.tmp 72) 23 93 (.agg #[.int .i64 0,.int .i64 0,.string ⟨#[]⟩,.slice none 0 0,.int .i64 0,.int .i64 0]) 6 72 siI_info Tryz.underlying23 (by decide) rfl (by decide) rfl Y h7 j8 p (sX xs V p) rfl a.o.rs l3.heap.size 2 (by decide) [.int .i64 2,.int .i64 0,.string zNm,.slice none 0 0,.int .i64 (p:Int),.int .i64 0,.int .i64 3,.int .i64 0,.string zNm,.slice none 0 0,.int .i64 0,.int .i64 0] rfl rfl (Kac l3 _) (by simp [Value.oneCell']) (by omega) a.o.br ?_);intro q3 q4 q5 q6 l5;have r:=((a.o.grow a.o.rs l5).2.2.1).trans a.o.ht;have W:=Kaa 0 r;have X:∀ k,q5.frozen? ⟨x,k,none⟩=false:=(fun k=>by simp [World.frozen?,r]);have y:=Kz (a.o.pushS l5 q6);clear r q6 l5)
   obtain ⟨t8,l6⟩:=Ky (q5.setCell ⟨x,0,none⟩ (.slice q3 (p+2) q4));rw [←l6];have f7:=Kz (show _ from by have h:=y.o;rw [←l6] at h;exact h)
   clear l6 W X a y E F H I J L M N O;obtain ⟨E,F,H,I,J,L,M,N,O⟩:=f7.o.cells;obtain ⟨q7,q8,q9⟩:=TyS.done b5.o r5 m5.o f7.o;have i6:=Zf6 q3 p8 (p+2) (p+1) q4 p9 (tinyS xs) (tinyE kd v p) h9 none p 0 k2 0 xs [] t8 (by rw [tinyS_len,←b5.o]) (by rw [tinyE_len]) (by omega) (by omega) q7 q8 (s0.o.next f7.o.bel) s2.o s1.o b5.o rfl (by omega) (by omega) q9 (.inl rfl)
   rw [g0.o] at i6;have i6:=Kz i6;clear q7 q8 q9
   go_wp2_with fail
   refine i6.o.mono ?_
   rintro e t9 ⟨r0,v8,v9,rfl,r1⟩
   obtain ⟨g,P,c1,R,c2,v0,f9,k0,k1,p1,p2⟩:=r1.at_ (j:=0) (x:=⟨r6,m3⟩) rfl;obtain ⟨r2,l7⟩:=Ky m3.length;have x0:t9.cell? ⟨g,1,none⟩=some (.slice R r2 c2):=by rw [l7];simpa using k1
   have v1:=Kz p2;have v2:=Kz (bnext f7.o.bel r0);have v3:=Kz l7;have v4:=Kz f7.o.bel.size;subst v0;clear r1 f9 k0 k1 p1 p2 r0 l7 E F H I J L M N O
   go_wp2_with fail
   go_ret;exact ⟨R,r2,c2,rfl,v3.o,v1.o.more v4.o,v2.o⟩
theorem wp_appTn {X:Nat→Prop} {q w:World} {o:Oper} {a:Act} {K:Act→World→Prop} {Q:Exit→Act→World→Prop} (s x:Operand)
  (D:o.op=.call { callee:=.builtin .append,args:=#[s,x],argTypes:=#[44,44] }) (B:Nat)
  (A:Option Addr) (r n:Nat) (l:List TN) (E:a.eval s=.slice A n r) (z:OwnTn X q w B A n r l)
  (e:Nat) (F:a.eval x=.slice (some ⟨e,0,none⟩) 1 1) (p:Value × Value) (t:TN) (H:w.heap[e]?=some (.cells #[p.1,p.2] 43 (0,0))) (v:TnV X q p.1 p.2 t)
  (a4:n≤1000000) (C:B≤w.heap.size)
  (h:∀ i k w',OwnTn X q w' B i (n+1) k (l++[t])→Below B w w'→K (a.put o.dst (.slice i (n+1) k)) w'):
  Oper.wp Tryz.prog o a w K Q:=by
 obtain ⟨I,J,L,M,N⟩:=info_parts ZeW;have O:=z.lt;obtain ⟨y,R,S,T,V⟩:=z;obtain ⟨i,k,w',W,Y,Z,r3⟩:=ZeH (P := Tryz.prog) w B 44 o.type 43 I _ 2 48 Tryz.underlying44 J L M (by decide) N rfl A r n (y.flatMap tnC) R e (tnC p) rfl
  (fun j u m=>by rw [cell_of_row w e j _ _ (0,0) H];simpa [tnC] using m)
  (fun u m=>by
   simp [tnC] at m;rcases m with rfl | rfl
   ·exact v.1.one
   ·exact v.2.one) (by simp only [maxLen];omega) (by omega) C
 unfold Oper.wp execOp;simp only [D,resolve,invoke,builtin,Sem.run_bind,Sem.run_pure,Result.andThen_ok,List.map_toArray,List.map_cons,List.map_nil,E,F,W];refine h i k w' ⟨y++[p],?_,by rw [List.length_append,S];rfl,by rw [List.length_append,T];rfl,fun j a0 a1 b c => ?_⟩ (Zal (Kai _ _) Z C (fun a2 a3=>(O a2 a3).1))
 ·rw [List.flatMap_append];have:(List.flatMap tnC [p])=tnC p:=by simp
  rw [this];exact Y
 ·by_cases a5:j<n
  ·rw [List.getElem?_append_left (by omega)] at b c
   exact V j a0 a1 b c
  ·rw [List.getElem?_append_right (by omega)] at b c
   have h0:j-y.length=0:=by
    have:=(Kaf.1 b).1;simp at this;omega
   rw [h0] at b;rw [show j-l.length=0 by omega] at c
   simp at b c;rw [←b,←c];exact v
theorem OwnTn.rdTN {X:Nat→Prop} {b w:World} {B n c:Nat} {A:Option Addr} {xs:List TN} (h:OwnTn X b w B A n c xs) (l:Below b.heap.size b w) (v:∀ t∈xs,t.sh.length≤2∧t.el.length≤1000000):RdTN w w.heap.size A xs:=by
 by_cases m:xs=[]
 ·exact .inl m
 ·have y:=h.lt;obtain ⟨J,z⟩:∃ x,xs[0]?=some x:=⟨xs[0]'(List.length_pos_iff.2 m),Kad _⟩;obtain ⟨g,p,c1,q,c2,e,k0,k1,L⟩:=h.at_ z;refine .inr ⟨g,0,e,(y g (by rw [e];rfl)).2,fun i x r => ?_⟩
  obtain ⟨M,p,c1,q,c2,a,k0,k1,⟨N,O,j,u1,u2,u3,C⟩,P,Q,k,D,E,F⟩:=h.at_ r;rw [e] at a;injection a with a
  injection a with a _ _
  subst a;injection j with j _ H
  injection k with k _ I
  subst j H k I;have R:=v x (Kam r);exact ⟨⟨p,c1,by rw [Nat.zero_add];exact k0,C.rd.next l,by omega,u1,u2⟩,q,c2,by rw [Nat.zero_add];exact k1,F.rd.next l,by omega,D,E⟩
theorem rdX_of {w:World} {A:Option Addr} {xs:List Value} (h:Rd w w.heap.size A xs):RdX (fun _=>False) w A xs:=by
 rcases h with h | ⟨b,o,a,c,i⟩
 ·exact .inl h
 ·exact .inr ⟨b,o,a,c,fun e=>e,i⟩
theorem elems_small (s:List Int):Zad s≤32:=by
 have h:=(ZbQ s 1 (by omega) (by omega)).2
 unfold Zad;split
 ·omega
 ·split <;> omega
theorem take_map_snoc {b c:Type} {l:List b} {k:Nat} {a:b} {f:b→c} (h:l[k]?=some a):(l.take (k+1)).map f=(l.take k).map f++[f a]:=by
 rw [List.take_add_one,h,List.map_append];rfl
theorem value_any (cb B nc N:Nat) (NA:Option Addr) (ms:List (ND × NV)) (m:ND × NV) (w:World) (d7:w.cell? ⟨cb,3,none⟩=some (.slice NA N nc)) (d8:cb<w.heap.size) (d9:N=ms.length) (e0:NdRow w B NA nc ms) (f9:NdR w m) (e2:ETyped w)
  (v:∀ a∈m.1.args,a<ms.length) (Z:3≤m.1.kind∧m.1.kind≤14) (e4:m.1.k≤63) (e5:(m.1.args.length:Int)=madeP m.1.kind) (a7:∀ a∈m.1.args,TnOk (tnD (atD (ms.map Prod.fst) a))) (e6:Zad m.1.shape≠0)
  (e7:Zab m.1.kind m.1.k (m.1.args.map fun a=>(atD (ms.map Prod.fst) a).shape)=(m.1.shape,true)):
  Calls Tryz.prog 108 #[.pointer (some ⟨cb,0,none⟩),ndA m] w fun e w'=>∃ A n c,e=.returned (.slice A n c)∧n=(valD (ms.map Prod.fst) m.1).length∧Own w' w.heap.size 39 A c ((valD (ms.map Prod.fst) m.1).map U)∧Below w.heap.size w w':=by
 have a8:=Kz (fun (e8:Option Addr) (e9 g0:Nat) W (g1:e9=(m.1.args.map fun a=>tnD (atD (ms.map Prod.fst) a)).length) (h:RdTN W W.heap.size e8 (m.1.args.map fun a=>tnD (atD (ms.map Prod.fst) a))) (g2:ETyped W)=>words_any m (m.1.args.map fun a=>tnD (atD (ms.map Prod.fst) a)) e8 e9 g0 W g1 h g2 Z e4 (by rw [Kak];exact e5) (fun g3 b=>by
  obtain ⟨a,v,rfl⟩:=List.mem_map.1 b;exact a7 a v) e6 (by rw [List.map_map];exact e7))
 have a9:=Kz (show valD (ms.map Prod.fst) m.1=Zbc m.1.kind m.1.k (Zad m.1.shape).toNat (m.1.args.map fun a=>tnD (atD (ms.map Prod.fst) a)) from rfl)
 obtain ⟨j2,f0⟩:=Ky (valD (ms.map Prod.fst) m.1);rw [←f0] at a9 ⊢;rw [←a9.o] at a8;obtain ⟨w2,H⟩:=Ky (w.alloc (.cells (ndC m).toArray 77));have y:=Kv H;have I:=Kw H;have g4:=Kz (fun W (j:Below w2.heap.size w2 W)=>(j.block _ (Kab.1 I).1).trans I)
 have g5:=Kz (fun W (j:Below w2.heap.size w2 W)=>(show W.cell? ⟨cb,3,none⟩=some (.slice NA N nc) from ((bnext y j).cell (p:=⟨cb,3,none⟩) d8).trans d7))
 have g6:=Kz (e0.next y);have g7:=Kz d9;have g8:=Kz (e2.next y);have f1:=Kz y;have f2:=Kz v;have b0:=Kz a7;obtain ⟨i,f3⟩:=Ky m.1.args;obtain ⟨l1,l2,l3,⟨A0,c0,e1,r1,_⟩,⟨g9,j3,D,r2,_⟩,A9,c9,e3,r3,_⟩:=f9;rw [←f3] at f2 b0 a8 l2 D r2;obtain ⟨r,b1⟩:=Ky i.length;rw [←b1] at l2 D;have J:=Kz b1;have h0:=Kz (fun W (j:Below w2.heap.size w2 W)=>(show Rd W W.heap.size g9 (i.map VNt) from (r2.next y).next j))
 have h5:=Kz H;have b2:=cells_node I 2 _ rfl;rw [D] at b2;have j4:=Kz D;clear d7 d8 d9 e0 e2 v Z e4 e5 a7 e6 e7 f0 H y I e1 r1 D r2 e3 r3 b1 f3 a9;unfold ndA
 go_enter Tryz.func108,Tryz.ntmps108
 go_upto_region 2 with fail
 have f4:w.alloc (.cells #[.int .i64 m.1.kind,m.2.sv,m.2.av,.int .i64 m.1.party,.int .i64 m.1.input,.int .i64 m.1.k,m.2.ev] 77)=w2:=h5.o.symm;rw [f4];clear f4
 go_wp2_with fail
 go_loopw [5,11] (fun xv b4 wr=>∃ (k:Nat) (A:Option Addr) (c:Nat),k≤r∧b4=.int .i64 k∧xv=.slice A k c∧OwnTn (fun _=>False) w2 wr w2.heap.size A k c ((i.take k).map fun a=>tnD (atD (ms.map Prod.fst) a))∧Below w2.heap.size w2 wr) (fun _ b4 _=>r-(intOf b4).toNat)
 case atStart=>exact ⟨0,none,0,by omega,rfl,rfl,OwnTn.nil _ _ _ _,Kai _ _⟩
 case round=>
  obtain ⟨k,A,c,Z,rfl,rfl,L,t⟩:=hrel;have h6:=Kz L;have M:=Kz t
  by_cases f5:k<r
  ·have b:i[k]?=some (i[k]'(by rw [←J.o];exact f5)):=Kad _
   obtain ⟨a,f6⟩:=Ky (i[k]'(by rw [←J.o];exact f5))
   rw [←f6] at b;obtain ⟨h7,o,rfl,h8,k0⟩:=(h0.o wr t).at_ (show (i.map VNt)[k]?=some (VNt a) by rw [Kal,b];rfl)
   have h9:wr.cell? ⟨h7,o+k,none⟩=some (.int .i64 (a:Int)):=k0;have b5:=f2.o a (Kam b);obtain ⟨E,b6⟩:∃ x,ms[a]?=some x:=⟨ms[a]'b5,Kad b5⟩;obtain ⟨g,rfl,b7,b9,c6⟩:=g6.o.at_ b6;have c7:atD (ms.map Prod.fst) a=E.1:=atD_some (by rw [Kal,b6];rfl)
   have d0:=b0.o a (Kam b);obtain ⟨v1,v2,v3,⟨z,c1,q1,p1⟩,_,l,c3,q3,p3⟩:=c6;have O:=b9 1 _ rfl (by omega)
   have P:=b9 6 _ rfl (by omega)
   rw [q1] at O;rw [q3] at P;have Q:=own_capsN p1;have R:=own_capsN p3;rw [Kak] at Q R;have d1:=Kz (show TnV (fun _=>False) w2 (.slice z E.1.shape.length c1) (.slice l E.1.elems.length c3) (tnD (atD (ms.map Prod.fst) a)) from by
    rw [c7];exact ⟨⟨z,c1,rfl,Q.1,Q.2,sh_small (by rw [c7] at d0;exact d0.1),rdX_of p1.rd⟩,l,c3,rfl,R.1,R.2,rdX_of p3.rd⟩)
   obtain ⟨T,f7⟩:=Ky E.1.shape.length;obtain ⟨C,F⟩:=Ky E.1.elems.length;rw [←f7] at O d1;rw [←F] at P d1;have j5:(a:Int)<(N:Int):=by rw [g7.o];omega
   have i0:(0:Int)≤(a:Int):=by omega
   have i1:(0:Int)≤(k:Int):=by omega
   have i2:(k:Int)<(r:Int):=by omega
   have i3:=Kz b;have d2:=Kz (show ∀ W,Below w2.heap.size w2 W→W.cell? ⟨cb,3,none⟩=some (.slice (some ⟨g,0,none⟩) N nc)∧W.cell? ⟨g,a*7+1,none⟩=some (.slice z T c1)∧W.cell? ⟨g,a*7+6,none⟩=some (.slice l C c3) from fun W j=>⟨g5.o W j,(j.cell (p:=⟨g,a*7+1,none⟩) b7).trans O,(j.cell (p:=⟨g,a*7+6,none⟩) b7).trans P⟩)
   clear b f6 h8 k0 b5 b6 b7 b9 c7 d0 v1 v2 v3 q1 p1 q3 p3 O P Q R f7 F L t b2
   go_upto_region 5 with fail
   refine wp_region_held_drew (S:=(fun w'=>w'.cell? ⟨cb,3,none⟩=some (.slice (some ⟨g,0,none⟩) N nc)∧w'.cell? ⟨g,a*7+1,none⟩=some (.slice z T c1)∧w'.cell? ⟨g,a*7+6,none⟩=some (.slice l C c3))) (by kernel_rfl) (d2.o _ M.o.drew) (fun d3 => ?_)
   obtain ⟨V,X⟩:=Ky wr.drew;rw [←X] at d3 ⊢;have i4:=Kz (show Below w2.heap.size w2 V from by rw [X];exact M.o.drew)
   have i5:=Kz (show OwnTn (fun _=>False) w2 V w2.heap.size A k c ((i.take k).map fun a=>tnD (atD (ms.map Prod.fst) a)) from by rw [X];exact h6.o.next (Kai _ _).drew)
   clear X h9;refine tk 0 ?_;simp only [tkS];refine tk 1 ?_;simp only [tkS];refine tk 2 ?_;simp only [tkS];refine tk 3 ?_;simp only [tkS];refine tk 4 ?_;simp only [tkS];refine tk 5 ?_;simp only [tkS];refine tk 6 ?_;simp only [tkS];refine tk 7 ?_;simp only [tkS];refine tk 8 ?_;simp only [tkS];refine tk 9 ?_;simp only [tkS];refine tk 10 ?_;simp only [tkS];refine tk 11 ?_;simp only [tkS];refine tk 12 ?_;simp only [tkS];refine tk 13 ?_;simp only [tkS];refine tk 14 ?_;simp only [tkS];refine tk 15 ?_;simp only [tkS];refine tk 16 ?_;simp only [tkS];refine tk 17 ?_;simp only [tkS];refine tk 18 ?_;simp only [tkS];refine tk 19 ?_;simp only [tkS];refine Kr 20 fun K hK=>?_
   go_simp;obtain ⟨j6,Y⟩:=Ky (V.alloc (.cells #[.slice z T c1,.slice l C c3] 43));obtain ⟨i6,d4⟩:=Ky V.heap.size;rw [←Y,←d4];have d5:=Kv Y;have d6:=Kz (bnext i4.o d5);have i7:=Kz (i5.o.next d5);have i8:=Kz (Kx Y d4);clear Y d4 d5;refine hK.out _ _ (d2.o _ d6.o) (fun d3 => ?_)
   clear hK K
   try simp only [tkS]
   refine Kr 21 fun K hK=>?_
   refine wp_appTn (.tmp 15) (.tmp 35) rfl w2.heap.size A c k ((i.take k).map (fun a=>tnD (atD (ms.map Prod.fst) a))) rfl i7.o i6 rfl (.slice z T c1,.slice l C c3) (tnD (atD (ms.map Prod.fst) a)) i8.o d1.o (by omega) d6.o.size ?_
   intro A8 c8 j7 o8 b8
   have B8:=Kz (d6.o.trans b8);have O8:=Kz o8;clear o8 b8;refine hK.out _ _ (d2.o _ B8.o) (fun d3 => ?_)
   clear hK K
   try simp only [tkS]
   refine tk 22 ?_;simp only [tkS];refine Kq ?_
   go_wp2_with fail
   exact ⟨⟨k+1,A8,c8,by omega,rfl,rfl,by rw [take_map_snoc i3.o];exact O8.o,B8.o⟩,by simp [intOf];omega⟩
  ·obtain rfl:r=k:=by omega
   have f8:=Kz (show (i.take r)=i from by rw [J.o];exact List.take_length)
   have q:=fun k i9 c6=>cells_node (g4.o wr t) k i9 c6
   have a0:=q 0 _ rfl;have a1:=q 1 _ rfl;have a2:=q 2 _ rfl;have a3:=q 3 _ rfl;have a4:=q 4 _ rfl;have a5:=q 5 _ rfl;have a6:=q 6 _ rfl;have j0:=Kz (a8.o A r c wr (by rw [Kak];exact J.o) (by
    have h:=L.rdTN t (by
     intro g3 b
     rw [f8.o] at b;obtain ⟨a,v,rfl⟩:=List.mem_map.1 b;have h1:=b0.o a v;have h2:=sh_small h1.1;have h3:=h1.2;have h4:=elems_small (tnD (atD (ms.map Prod.fst) a)).sh;omega)
    rw [f8.o] at h;exact h) (g8.o.next t))
   clear q L t b2
   go_wp2_with fail
   refine j0.o.mono ?_
   rintro e w3 ⟨l,C,c3,rfl,F,o3,b3⟩
   have O3:=Kz (o3.more (Kah f1.o.size M.o.size));have j1:=Kz F;have B3:=Kz (bnext f1.o (bnext M.o b3));clear o3 b3 F a0 a1 a2 a3 a4 a5 a6
   go_wp2
   go_ret;exact ⟨l,C,c3,rfl,j1.o,O3.o,B3.o⟩
def quietO:Obj→Prop
 | .cells _ T _=>T≠77∧T≠131
 | _=>True
def KD (w w':World):Prop:=w.heap.size≤w'.heap.size∧∀ (k:Nat) (o:Obj),w.heap[k]?=some o→quietO o→w'.heap[k]?=some o
theorem KD.of {w w':World} (h:Below w.heap.size w w'):KD w w':=⟨h.size,fun k o a _=>(h.block k (Kab.1 a).1).trans a⟩
theorem KD.trans {a b c:World} (h:KD a b) (e:KD b c):KD a c:=⟨Kah h.1 e.1,fun k o j i=>e.2 k o (h.2 k o j i) i⟩
theorem KD.kiw {w w':World} (h:KD w w'):KIW w w':=fun g cur T a b=>by
 rw [h.2 g _ a (by rcases b with rfl | rfl <;> exact ⟨by decide,by decide⟩),a]
theorem KD.grown {w w':World} {A:Option Addr} (c:w.grownBy w' (blk A)) (h:∀ g,blk A=some g→∃ cur,w.heap[g]?=some (.cells cur 77 (0,0))):KD w w':=
 ⟨c.size,fun k o b i=>by
  rw [c.block k (Kab.1 b).1 (fun e=>by
   obtain ⟨cur,a⟩:=h k e.symm;rw [b] at a;injection a with a
   subst a;exact i.1 rfl),b]⟩
theorem KD.set {w:World} {b k:Nat} {h:Array Value} {T:TypeId} {i:Nat × Nat} (j:w.heap[b]?=some (.cells h T i)) (l:T=77∨T=131) (v:Value):KD w (w.setCell ⟨b,k,none⟩ v):=
 ⟨by simp [World.setCell],fun g o a c=>by
  rw [ZaS _ _ _ (fun e=>by
   have m:g=b:=e;subst m;rw [j] at a;injection a with a
   subst a;rcases l with rfl | rfl
   ·exact c.1 rfl
   ·exact c.2 rfl),a]⟩
structure DgSt (w:World) (B cb g:Nat) (f s d:Bool) (NA:Option Addr) (nc:Nat) (ms:List (ND × NV)) (OA:Option Addr) (oc:Nat) (outs:List Nat) (I0 I1:Option Addr) (m0 k0 m1 k1:Nat) (names:PlacesD):Prop where
 b1:B≤cb
 b2:B≤g
 hc:w.heap[cb]?=some (.cells #[.bool f,.bool s,.bool d,.slice NA ms.length nc,.slice OA outs.length oc,.slice I0 m0 k0,.slice I1 m1 k1,.map (some g)] 131 (0,0))
 hn:NamM w g (namV names)
 hr:NdRow w B NA nc ms
 ho:Own w B 3 OA oc (outs.map VNt)
 hp:(blk OA::ms.flatMap ndB).Pairwise apart
section
variable {w w':World} {B cb g:Nat} {f s d:Bool} {NA:Option Addr} {nc:Nat} {ms:List (ND × NV)} {OA:Option Addr} {oc:Nat} {outs:List Nat} {I0 I1:Option Addr} {m0 k0 m1 k1:Nat} {names:PlacesD}
theorem DgSt.keep (h:DgSt w B cb g f s d NA nc ms OA oc outs I0 I1 m0 k0 m1 k1 names) (a:KD w w') (b:w'.heap[cb]?=w.heap[cb]?) (e:∀ q,blk NA=some q→w'.heap[q]?=w.heap[q]?):DgSt w' B cb g f s d NA nc ms OA oc outs I0 I1 m0 k0 m1 k1 names:=by
 refine ⟨h.b1,h.b2,b.trans h.hc,?_,h.hr.keep a.kiw e,own_kiw h.ho (.inl rfl) a.kiw,h.hp⟩;obtain ⟨i,c,j,k⟩:=h.hn;exact ⟨i,c,a.2 g _ j trivial,k⟩
theorem DgSt.next (h:DgSt w B cb g f s d NA nc ms OA oc outs I0 I1 m0 k0 m1 k1 names) (a:Below w.heap.size w w'):DgSt w' B cb g f s d NA nc ms OA oc outs I0 I1 m0 k0 m1 k1 names:=
 h.keep (KD.of a) (a.block _ (Kab.1 h.hc).1) fun q b=>a.block q (h.hr.lt q b).2
theorem DgSt.lt (h:DgSt w B cb g f s d NA nc ms OA oc outs I0 I1 m0 k0 m1 k1 names):cb<w.heap.size:=(Kab.1 h.hc).1
theorem DgSt.cells (h:DgSt w B cb g f s d NA nc ms OA oc outs I0 I1 m0 k0 m1 k1 names):w.cell? ⟨cb,0,none⟩=some (.bool f)∧w.cell? ⟨cb,1,none⟩=some (.bool s)∧w.cell? ⟨cb,2,none⟩=some (.bool d)∧w.cell? ⟨cb,3,none⟩=some (.slice NA ms.length nc)∧w.cell? ⟨cb,4,none⟩=some (.slice OA outs.length oc) ∧
  w.cell? ⟨cb,5,none⟩=some (.slice I0 m0 k0)∧w.cell? ⟨cb,6,none⟩=some (.slice I1 m1 k1)∧w.cell? ⟨cb,7,none⟩=some (.map (some g))∧∀ k,w.frozen? ⟨cb,k,none⟩=false:=
 ⟨Kaa 0 h.hc,Kaa 1 h.hc,Kaa 2 h.hc,Kaa 3 h.hc,Kaa 4 h.hc,Kaa 5 h.hc,Kaa 6 h.hc,Kaa 7 h.hc,fun k=>by simp [World.frozen?,h.hc]⟩
theorem DgSt.push {b:World} {i:Option Addr} {j:Nat} {m:ND × NV} (h:DgSt w B cb g f s d NA nc ms OA oc outs I0 I1 m0 k0 m1 k1 names) (n:w.grownBy b (blk NA)) (p:NdRow b B i j (ms++[m])) (v:(blk OA::(ms++[m]).flatMap ndB).Pairwise apart):
  DgSt (b.setCell ⟨cb,3,none⟩ (.slice i (ms.length+1) j)) B cb g f s d i j (ms++[m]) OA oc outs I0 I1 m0 k0 m1 k1 names∧KD w (b.setCell ⟨cb,3,none⟩ (.slice i (ms.length+1) j))∧b.heap[cb]?=w.heap[cb]?:=by
 have x:KD w b:=KD.grown n h.hr.form;have r:b.heap[cb]?=w.heap[cb]?:=n.block cb h.lt fun e=>by
  obtain ⟨cur,a⟩:=h.hr.form cb e.symm;rw [h.hc] at a;injection a with a
  injection a with _ a _
  exact absurd a (by decide)
 have k:=r.trans h.hc;have t:KD b (b.setCell ⟨cb,3,none⟩ (.slice i (ms.length+1) j)):=KD.set k (.inr rfl) _;have l:=x.trans t;refine ⟨⟨h.b1,h.b2,?_,?_,?_,own_kiw h.ho (.inl rfl) l.kiw,v⟩,l,r⟩
 ·rw [List.length_append];exact heap_setCell_same _ _ _ _ _ _ k
 ·obtain ⟨y,c,z,A⟩:=h.hn;exact ⟨y,c,l.2 g _ z trivial,A⟩
 ·refine p.keep t.kiw fun q C=>ZaS _ _ _ fun e => ?_
  have D:q=cb:=e;subst D;obtain ⟨cur,a⟩:=p.form q C;rw [k] at a;injection a with a
  injection a with _ a _
  exact absurd a (by decide)
end
theorem wp_appNd {w:World} {o:Oper} {a:Act} {K:Act→World→Prop} {Q:Exit→Act→World→Prop} (s x:Operand)
  (j:o.op=.call { callee:=.builtin .append,args:=#[s,x],argTypes:=#[66,66] }) (B:Nat)
  (A:Option Addr) (e n:Nat) (ms:List (ND × NV)) (k:n=ms.length) (l:a.eval s=.slice A n e) (p:NdRow w B A e ms)
  (i:Nat) (q:a.eval x=.slice (some ⟨i,0,none⟩) 1 1) (m:ND × NV) (r:w.heap[i]?=some (.cells (ndC m).toArray 77 (0,0))) (v:NdV w B m)
  (y:n≤100000) (z:B≤w.heap.size)
  (h:∀ b c w',NdRow w' B b c (ms++[m])→w.grownBy w' (blk A)→K (a.put o.dst (.slice b (n+1) c)) w'):
  Oper.wp Tryz.prog o a w K Q:=by
 obtain ⟨b,c,w',C,D,E,_⟩:=run_appNd o.type B A e n ms k p i m r v y z;unfold Oper.wp execOp;simp only [j,resolve,invoke,builtin,Sem.run_bind,Sem.run_pure,Result.andThen_ok,List.map_toArray,List.map_cons,List.map_nil,l,q,C];exact h b c w' D E
def foldB (f:Bool) (l:List ND) (n:ND):Bool:=f&&(!(n.args.length==0))&&n.args.all (constD l)
theorem foldD_b (f:Bool) (l:List ND) (n:ND):foldD f l n=if foldB f l n=true then ⟨2,n.shape,[],0,0,0,valD l n⟩ else n:=by
 unfold foldD foldB;have h:(f=true∧n.args≠[]∧n.args.all (constD l)=true)↔(f&&(!(n.args.length==0))&&n.args.all (constD l))=true:=by
  rw [Bool.and_eq_true,Bool.and_eq_true];constructor
  ·rintro ⟨i,b,j⟩
   refine ⟨⟨i,?_⟩,j⟩
   cases hq:n.args with
   | nil=>exact absurd hq b
   | cons a r=>rfl
  ·rintro ⟨⟨i,b⟩,j⟩
   refine ⟨i,fun e => ?_,j⟩
   rw [e] at b
   cases b
 by_cases c:(f&&(!(n.args.length==0))&&n.args.all (constD l))=true
 ·rw [if_pos c,if_pos (h.2 c)]
 ·rw [if_neg c,if_neg (fun e=>c (h.1 e))]
theorem fold_facts {in0 in1:List (List Int)} {f:Bool} {l:List ND} {n:ND} (m:WfD in0 in1 l) (b:NodeOk in0 in1 l l.length n) (h:foldB f l n=true):
  (3≤n.kind∧n.kind≤14)∧n.k≤63∧(n.args.length:Int)=madeP n.kind∧(∀ a∈n.args,TnOk (tnD (atD l a)))∧Zad n.shape≠0∧Zab n.kind n.k (n.args.map fun a=>(atD l a).shape)=(n.shape,true)∧(valD l n).length≤32:=by
 have z:=h;unfold foldB at h;rw [Bool.and_eq_true,Bool.and_eq_true] at h;obtain ⟨⟨H,p⟩,A⟩:=h;have q:n.args≠[]:=fun e=>by rw [e] at p;cases p
 have r:=foldD_ok f m b;rw [foldD_b,if_pos z] at r;have I:((valD l n).length:Int)=Zad n.shape:=by
  rcases r.kinds with ⟨c,_⟩ | ⟨_,_,_,_,_,i⟩ | ⟨c,_⟩
  ·exact absurd c (by show ¬ (2:Nat)=1;omega)
  ·exact i
  ·exact absurd c (by show ¬ (3:Nat)≤2;omega)
 have J:=elems_small n.shape;rcases b.kinds with ⟨_,j,_⟩ | ⟨_,j,_⟩ | ⟨C,t,_,_,_,_,D,E⟩
 ·exact absurd j q
 ·exact absurd j q
 ·refine ⟨⟨C,t⟩,b.k63,D,fun a v => ?_,b.shape,E,by omega⟩
  have x:=List.all_eq_true.1 A a v;have F:=b.ahead a v;have y:=m a _ (atD_lt F);have t:(atD l a).kind=2:=by
   unfold constD at x;exact beq_iff_eq.1 x
  rcases y.kinds with ⟨c,_⟩ | ⟨_,_,_,_,_,i⟩ | ⟨c,_⟩
  ·omega
  ·exact ⟨y.shape,i⟩
  ·omega
end Go.Proofs.YtghlnncfigkkaaaGreatDoor
