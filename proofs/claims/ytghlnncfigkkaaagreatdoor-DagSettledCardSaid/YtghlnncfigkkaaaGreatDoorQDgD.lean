/-
 (*builder).made walked.
-/
import Derived.Test.YtghlnncfigkkaaaGreatDoorQDgC
import Derived.Deep.Cut
import Derived.Deep.CutRange
import Derived.Deep.DeepCutAuto
import Derived.Test.YtghlnncfigkkaaaGreatDoorQChkP
import Derived.RegionTactic
set_option maxRecDepth 100000
set_option maxHeartbeats 16000000
set_option linter.unusedVariables false
set_option linter.unusedSimpArgs false
namespace Go.Proofs.YtghlnncfigkkaaaGreatDoor
open Go.RowKit
theorem NdV.next2 {w w':World} {B:Nat} {m:ND × NV} (h:NdV w B m) (a:Below w.heap.size w w'):NdV w' B m:=h.kiw (KIW.below a)
theorem set7 {w3:World} {nb:Nat} {T:TypeId} {v t r p n k j a b c e i l q:Value} (h:w3.heap[nb]?=some (.cells #[v,t,r,p,n,k,j] T (0,0))):((((((((w3.setCell ⟨nb,0,none⟩ a).setCell ⟨nb,1,none⟩ b).setCell ⟨nb,2,none⟩ c).setCell ⟨nb,3,none⟩ e).setCell ⟨nb,4,none⟩ i).setCell ⟨nb,5,none⟩ l).setCell ⟨nb,6,none⟩ q)).heap[nb]?=some (.cells #[a,b,c,e,i,l,q] T (0,0)):=by
 have x:(w3.setCell ⟨nb,0,none⟩ a).heap[nb]?=some (.cells #[a,t,r,p,n,k,j] T (0,0)):=heap_setCell_same _ _ _ _ _ _ h;have y:((w3.setCell ⟨nb,0,none⟩ a).setCell ⟨nb,1,none⟩ b).heap[nb]?=some (.cells #[a,b,r,p,n,k,j] T (0,0)):=heap_setCell_same _ _ _ _ _ _ x;have z:(((w3.setCell ⟨nb,0,none⟩ a).setCell ⟨nb,1,none⟩ b).setCell ⟨nb,2,none⟩ c).heap[nb]?=some (.cells #[a,b,c,p,n,k,j] T (0,0)):=heap_setCell_same _ _ _ _ _ _ y;have A:((((w3.setCell ⟨nb,0,none⟩ a).setCell ⟨nb,1,none⟩ b).setCell ⟨nb,2,none⟩ c).setCell ⟨nb,3,none⟩ e).heap[nb]?=some (.cells #[a,b,c,e,n,k,j] T (0,0)):=heap_setCell_same _ _ _ _ _ _ z;have C:(((((w3.setCell ⟨nb,0,none⟩ a).setCell ⟨nb,1,none⟩ b).setCell ⟨nb,2,none⟩ c).setCell ⟨nb,3,none⟩ e).setCell ⟨nb,4,none⟩ i).heap[nb]?=some (.cells #[a,b,c,e,i,k,j] T (0,0)):=heap_setCell_same _ _ _ _ _ _ A;have D:((((((w3.setCell ⟨nb,0,none⟩ a).setCell ⟨nb,1,none⟩ b).setCell ⟨nb,2,none⟩ c).setCell ⟨nb,3,none⟩ e).setCell ⟨nb,4,none⟩ i).setCell ⟨nb,5,none⟩ l).heap[nb]?=some (.cells #[a,b,c,e,i,l,j] T (0,0)):=heap_setCell_same _ _ _ _ _ _ C;have E:(((((((w3.setCell ⟨nb,0,none⟩ a).setCell ⟨nb,1,none⟩ b).setCell ⟨nb,2,none⟩ c).setCell ⟨nb,3,none⟩ e).setCell ⟨nb,4,none⟩ i).setCell ⟨nb,5,none⟩ l).setCell ⟨nb,6,none⟩ q).heap[nb]?=some (.cells #[a,b,c,e,i,l,q] T (0,0)):=heap_setCell_same _ _ _ _ _ _ D;exact E
def foldM (l:List ND) (m:ND × NV) (A3:Option Addr) (n3 c3:Nat):ND × NV:=(⟨2,m.1.shape,[],0,0,0,valD l m.1⟩,⟨m.2.sv,.slice none 0 0,.slice A3 n3 c3⟩)
section
variable {w3 w4:World} {nb n3 c3:Nat} {A3:Option Addr} {m:ND × NV}
theorem ne_node (b:w4=(((((((w3.setCell ⟨nb,0,none⟩ (.int .i64 2)).setCell ⟨nb,1,none⟩ m.2.sv).setCell ⟨nb,2,none⟩ (.slice none 0 0)).setCell ⟨nb,3,none⟩ (.int .i64 0)).setCell ⟨nb,4,none⟩ (.int .i64 0)).setCell ⟨nb,5,none⟩ (.int .i64 0)).setCell ⟨nb,6,none⟩ (.slice A3 n3 c3))) {q:Nat} (a:q≠nb):w4.heap[q]?=w3.heap[q]?:=by
 rw [b];rw [ZaS _ _ _ a,ZaS _ _ _ a,ZaS _ _ _ a,ZaS _ _ _ a,ZaS _ _ _ a,ZaS _ _ _ a,ZaS _ _ _ a]
theorem bel_node {w:World} {B:Nat} (b:w4=(((((((w3.setCell ⟨nb,0,none⟩ (.int .i64 2)).setCell ⟨nb,1,none⟩ m.2.sv).setCell ⟨nb,2,none⟩ (.slice none 0 0)).setCell ⟨nb,3,none⟩ (.int .i64 0)).setCell ⟨nb,4,none⟩ (.int .i64 0)).setCell ⟨nb,5,none⟩ (.int .i64 0)).setCell ⟨nb,6,none⟩ (.slice A3 n3 c3))) (h:Below B w w3) (e:B≤nb):Below B w w4:=by
 rw [b];have a:∀ {W:World} (k:Nat) (v:Value),Below B w W→Below B w (W.setCell ⟨nb,k,none⟩ v):=fun k v h=>⟨h.os,h.tape,h.output,by simpa [World.setCell] using h.size,fun q c=>(ZaS _ _ _ (by show q≠nb;omega)).trans (h.block q c)⟩
 exact a _ _ (a _ _ (a _ _ (a _ _ (a _ _ (a _ _ (a _ _ h))))))
theorem folded_done {B cb g:Nat} {f s d:Bool} {NA:Option Addr} {nc:Nat} {ms:List (ND × NV)} {OA:Option Addr} {oc:Nat} {outs:List Nat} {I0 I1:Option Addr} {m0 k0 m1 k1:Nat} {names:PlacesD}
  (i:w4=(((((((w3.setCell ⟨nb,0,none⟩ (.int .i64 2)).setCell ⟨nb,1,none⟩ m.2.sv).setCell ⟨nb,2,none⟩ (.slice none 0 0)).setCell ⟨nb,3,none⟩ (.int .i64 0)).setCell ⟨nb,4,none⟩ (.int .i64 0)).setCell ⟨nb,5,none⟩ (.int .i64 0)).setCell ⟨nb,6,none⟩ (.slice A3 n3 c3)))
  (j:w3.heap[nb]?=some (.cells (ndC m).toArray 77 (0,0))) (p:n3=(valD (ms.map Prod.fst) m.1).length) (r:Own w3 B 39 A3 c3 ((valD (ms.map Prod.fst) m.1).map U))
  (l:DgSt w3 B cb g f s d NA nc ms OA oc outs I0 I1 m0 k0 m1 k1 names∧(∀ q,blk NA=some q→q≠nb)) (v:NdV w3 B m) (z:(valD (ms.map Prod.fst) m.1).length≤32):
  w4.heap[nb]?=some (.cells (ndC (foldM (ms.map Prod.fst) m A3 n3 c3)).toArray 77 (0,0))∧NdV w4 B (foldM (ms.map Prod.fst) m A3 n3 c3)∧DgSt w4 B cb g f s d NA nc ms OA oc outs I0 I1 m0 k0 m1 k1 names∧KD w3 w4:=by
 have n:∀ q,q≠nb→w4.heap[q]?=w3.heap[q]?:=fun q a=>ne_node i a
 have x:w4.heap.size=w3.heap.size:=by rw [i];simp [World.setCell]
 have c:KD w3 w4:=⟨Nat.le_of_eq x.symm,fun k o b a=>(n k (fun e=>by
  rw [e,j] at b;injection b with b
  subst b;exact a.1 rfl)).trans b⟩
 have y:cb≠nb:=fun e=>by
  have h:=l.1.hc;rw [e,j] at h;injection h with h
  injection h with _ h _
  exact absurd h (by decide)
 refine ⟨?_,?_,l.1.keep c (n cb y) (fun q a=>n q (l.2 q a)),c⟩
 ·rw [i];exact set7 j
 ·have h:=v.kiw c.kiw;refine ⟨h.ls,by simp [foldM],?_,h.sv,⟨none,0,rfl,Own.nil _ _ _⟩,A3,c3,?_,own_kiw r (.inr rfl) c.kiw⟩
  ·show (valD (ms.map Prod.fst) m.1).length≤_
   omega
  ·show Value.slice A3 n3 c3=.slice A3 (valD (ms.map Prod.fst) m.1).length c3
   rw [p]
end
theorem apart_fold {a:Option Nat} {ms:List (ND × NV)} {l:List ND} {m:ND × NV} {A3:Option Addr} {n3 c3:Nat} (h:(a::(ms++[m]).flatMap ndB).Pairwise apart):(a::(ms++[foldM l m A3 n3 c3]).flatMap ndB).Pairwise apart:=by
 have e:∀ x:ND × NV,(a::(ms++[x]).flatMap ndB)=(a::ms.flatMap ndB)++[x.2.sv.ownBlock,x.2.av.ownBlock]:=fun x=>by
  rw [List.flatMap_append];simp [ndB]
 rw [e] at h ⊢;rw [List.pairwise_append] at h ⊢;have c:∀ x:Option Nat,apart x none:=fun x=>by
  cases x with
  | none=>exact .inl rfl
  | some k=>exact .inr (by simp)
 refine ⟨h.1,?_,fun x i y b => ?_⟩
 ·refine List.Pairwise.cons (fun y b => ?_) (List.Pairwise.cons (by simp) List.Pairwise.nil)
  rw [List.mem_singleton.1 b];exact c _
 ·have j:y=m.2.sv.ownBlock∨y=none:=by simpa [foldM,Value.ownBlock] using b
  rcases j with rfl | rfl
  ·exact h.2.2 x i _ (by simp)
  ·exact c x
theorem foldM_bs {l:List ND} {m:ND × NV} {A3:Option Addr} {n3 c3:Nat}:∀ b∈ndB (foldM l m A3 n3 c3),b∈ndB m∨b=none:=by
 intro b a
 have:b=m.2.sv.ownBlock∨b=none:=by simpa [ndB,foldM,Value.ownBlock] using a
 rcases this with rfl | rfl
 ·exact .inl (by simp [ndB])
 ·exact .inr rfl
theorem push_bs {ms:List (ND × NV)} {c:ND × NV} {e:List (Option Nat)} (h:∀ b∈ndB c,b∈e∨b=none):∀ b∈(ms++[c]).flatMap ndB,b∈ms.flatMap ndB∨b∈e∨b=none:=by
 intro b a
 rw [List.flatMap_append,List.mem_append] at a;rcases a with a | a
 ·exact .inl a
 ·exact .inr (h b (by simpa using a))
def Boxes (w:World) (bx nb cb:Nat) (m:ND × NV):Prop:=w.heap[bx]?=some (.cells #[.pointer (some ⟨cb,0,none⟩)] 128 (0,0))∧w.heap[nb]?=some (.cells (ndC m).toArray 77 (0,0))
def boxS (bx nb cb:Nat) (m:ND × NV) (w':World):Prop:=w'.cell? ⟨bx,0,none⟩=some (.pointer (some ⟨cb,0,none⟩))∧w'.cell? ⟨nb,0,none⟩=some (.int .i64 m.1.kind)∧w'.cell? ⟨nb,1,none⟩=some m.2.sv∧w'.cell? ⟨nb,2,none⟩=some m.2.av∧w'.cell? ⟨nb,3,none⟩=some (.int .i64 m.1.party)∧w'.cell? ⟨nb,4,none⟩=some (.int .i64 m.1.input)∧w'.cell? ⟨nb,5,none⟩=some (.int .i64 m.1.k)∧w'.cell? ⟨nb,6,none⟩=some m.2.ev
theorem node_cells {w:World} {a nb cb:Nat} {m:ND × NV} (h:Boxes w a nb cb m):boxS a nb cb m w:=
 ⟨Kaa 0 h.1,cells_node h.2 0 _ rfl,cells_node h.2 1 _ rfl,cells_node h.2 2 _ rfl,cells_node h.2 3 _ rfl,cells_node h.2 4 _ rfl,cells_node h.2 5 _ rfl,cells_node h.2 6 _ rfl⟩
theorem Boxes.next {w w':World} {a nb cb:Nat} {m:ND × NV} (h:Boxes w a nb cb m) (b:Below w.heap.size w w'):Boxes w' a nb cb m:=⟨(b.block _ (Kab.1 h.1).1).trans h.1,(b.block _ (Kab.1 h.2).1).trans h.2⟩
theorem KD8.mk {a b:World} {B c nb cb nc:Nat} {NA:Option Addr} {ms:List (ND × NV)} {m:ND × NV} (j:NdRow a B NA nc ms) (i:a.grownBy b (blk NA)) (h:Boxes a c nb cb m) (k:∀ q,blk NA=some q→q≠nb):Boxes b c nb cb m:=by
 refine ⟨?_,?_⟩
 ·exact (KD.grown i j.form).2 _ _ h.1 ⟨by decide,by decide⟩
 ·exact (i.block nb (Kab.1 h.2).1 (fun e=>k nb e.symm rfl)).trans h.2
theorem kd_boxes {b c:World} {a nb cb:Nat} {m:ND × NV} {v:Value} (e:c=b.setCell ⟨cb,3,none⟩ v) (h:Boxes b a nb cb m) (i:a≠cb) (j:nb≠cb):Boxes c a nb cb m:=by
 rw [e];exact ⟨(ZaS _ _ _ i).trans h.1,(ZaS _ _ _ j).trans h.2⟩
theorem setCell_below' {W w:World} {B b k:Nat} (h:Below B W w) (c:B≤b) (v:Value):Below B W (w.setCell ⟨b,k,none⟩ v):=⟨h.os,h.tape,h.output,by simpa [World.setCell] using h.size,fun q a=>(ZaS _ _ _ (by show q≠b;omega)).trans (h.block q a)⟩
def MadeCut (w:World) (B cb g:Nat) (f s d:Bool) (NA:Option Addr) (nc:Nat) (ms:List (ND × NV)) (OA:Option Addr) (oc:Nat) (outs:List Nat) (I0 I1:Option Addr) (m0 k0 m1 k1:Nat) (names:PlacesD) (bx nb:Nat) (n9:ND) (bs:List (Option Nat)) (wx:World):Prop:=
 ∃ m9:ND × NV,m9.1=n9∧(∀ b∈ndB m9,b∈bs∨b=none)∧Boxes wx bx nb cb m9∧NdV wx B m9∧(blk OA::(ms++[m9]).flatMap ndB).Pairwise apart∧DgSt wx B cb g f s d NA nc ms OA oc outs I0 I1 m0 k0 m1 k1 names∧KD w wx∧Below w.heap.size w wx
theorem dmade_any (in0 in1:List (List Int)) (B cb g:Nat) (f s d:Bool) (NA:Option Addr) (nc:Nat) (ms:List (ND × NV)) (OA:Option Addr) (oc:Nat) (outs:List Nat) (I0 I1:Option Addr) (m0 k0 m1 k1:Nat) (names:PlacesD) (m:ND × NV) (w:World)
  (d0:DgSt w B cb g f s d NA nc ms OA oc outs I0 I1 m0 k0 m1 k1 names) (g6:NdV w B m) (j6:(blk OA::(ms++[m]).flatMap ndB).Pairwise apart) (i4:WfD in0 in1 (ms.map Prod.fst)) (e5:NodeOk in0 in1 (ms.map Prod.fst) (ms.map Prod.fst).length m.1) (i5:ETyped w) (m3:ms.length≤1000):
  Calls Tryz.prog 64 #[.pointer (some ⟨cb,0,none⟩),ndA m] w fun e w'=>∃ NA' nc' ms',ms'.map Prod.fst=(madeD f s (ms.map Prod.fst) m.1).1∧e=.returned (.int .i64 ((madeD f s (ms.map Prod.fst) m.1).2:Nat))∧DgSt w' B cb g f s d NA' nc' ms' OA oc outs I0 I1 m0 k0 m1 k1 names∧KD w w'∧Below B w w'∧∀ b∈ms'.flatMap ndB,b∈ms.flatMap ndB∨b∈ndB m∨b=none:=by
 have j7:B≤w.heap.size:=Kah d0.b1 (Nat.le_of_lt d0.lt);obtain ⟨w2,e6⟩:=Ky ((w.alloc (.cells #[.pointer (some ⟨cb,0,none⟩)] 128)).alloc (.cells #[.int .i64 m.1.kind,m.2.sv,m.2.av,.int .i64 m.1.party,.int .i64 m.1.input,.int .i64 m.1.k,m.2.ev] 77));have d1:Below w.heap.size w w2:=by rw [e6];exact (alloc_below _ _).alloc (by simp) _
 obtain ⟨b5,i6⟩:=Ky w.heap.size;obtain ⟨nb,i7⟩:=Ky (w.heap.size+1);have e7:Boxes w2 b5 nb cb m:=by
  refine ⟨?_,?_⟩
  ·rw [e6,i6,Below.heap_alloc _ _ _ (by simp)]
   exact Kac w _
  ·rw [e6,i7];have:=Kac (w.alloc (.cells #[.pointer (some ⟨cb,0,none⟩)] 128)) (.cells #[.int .i64 m.1.kind,m.2.sv,m.2.av,.int .i64 m.1.party,.int .i64 m.1.input,.int .i64 m.1.k,m.2.ev] 77);rwa [World.size_alloc] at this
 obtain ⟨l1,l2,l3,⟨A0,c0,e1,r1⟩,⟨AA,l0,e2,r2⟩,A9,c9,e3,r3⟩:=id g6;obtain ⟨b8,g7⟩:=Ky m.1.args.length;rw [←g7] at l2 e2;obtain ⟨n0,j8⟩:=Ky m.1.shape.length;rw [←j8] at e1;have d7:=Kz e1;clear j8;have b9:=d0.next d1;have g8:=Kz (conA_any b5 cb B nc ms.length NA ms AA b8 l0 m.1.args w2 (node_cells e7).1 b9.cells.2.2.2.1 rfl b9.hr (fun i8 i9=>by have:=e5.ahead i8 i9;rwa [Kak] at this) g7 (by omega) ((r2.rd).next d1))
 have g9:=Kz (fun (h:foldB f (ms.map Prod.fst) m.1=true) h1 (d2:Below w2.heap.size w2 h1)=>by
  obtain ⟨f1,f2,f3,f4,f5,f6,f7⟩:=fold_facts i4 e5 h;exact value_any cb B nc ms.length NA ms m h1 (b9.next d2).cells.2.2.2.1 (b9.next d2).lt rfl (b9.next d2).hr (g6.rd.next (bnext d1 d2)) (i5.next (bnext d1 d2)) (fun i8 i9=>by have:=e5.ahead i8 i9;rwa [Kak] at this) f1 f2 f3 f4 f5 f6)
 have h2:=Kz (fun (h:foldB f (ms.map Prod.fst) m.1=true)=>(fold_facts i4 e5 h).2.2.2.2.2.2)
 obtain ⟨d8,j9⟩:=Ky (foldB f (ms.map Prod.fst) m.1);have k2:∀ q,blk NA=some q→q≠nb:=fun q a8=>by have:=(d0.hr.lt q a8).2;omega
 have l4:=Kz e6;have l5:=Kz i6;have l6:=Kz i7;have D:=Kz e7;have h3:=Kz b9;have h4:=Kz (g6.next2 d1);have a2:=Kz d1;have e8:=Kz j9;have d4:=Kz k2;have a9:=Kz j7;have h5:=Kz j6;have k3:=Kz g7;have h6:=Kz d0.b1;have c6:=Kz (show b5≠cb∧nb≠cb from by have:=d0.lt;omega)
 have j0:=Kz (show b5≠nb from by omega)
 have j1:=Kz (show w.heap.size≤nb from by omega)
 have E:=(node_cells e7).1;have b2:=(node_cells e7).2.2.2.1;rw [e2] at b2;obtain ⟨l7,l8,_⟩:=b9.cells;have m4:=Kz i5;have m5:=Kz e2;unfold ndA;clear e6 i6 i7 e7 b9 d1 j9 k2 j7 j6 d0 g6 i4 e5 e1 r1 r2 e3 r3 g7 i5 l1 l3 e2
 go_enter Tryz.func64,Tryz.ntmps64
 go_upto_region 1 with fail
 rw [←l4.o,←l6.o,←l5.o]
 go_cut [23] (fun l9 j2=>l9=.bool d8∧j2=w2)
 case first=>
  cases f with
  | false=>
   have e9:=Kz (show d8=false from e8.o)
   go_wp2_with fail
   go_meet;exact ⟨by rw [e9.o],rfl⟩
  | true=>
   by_cases h0:b8=0
   ·have q0:decide ((0:Int)<(b8:Int))=false:=by simp;omega
    have q1:decide ((b8:Int) > 0)=false:=q0;have q2:decide (0<b8)=false:=by simp;omega
    have e9:=Kz (show d8=false from by rw [e8.o];unfold foldB;rw [←k3.o,h0];rfl)
    clear h0
    go_wp2_with fail
    go_meet;exact ⟨by rw [e9.o],rfl⟩
   ·have q0:decide ((0:Int)<(b8:Int))=true:=by simp;omega
    have q1:decide ((b8:Int) > 0)=true:=q0;have q2:decide (0<b8)=true:=by simp;omega
    have k4:d8=m.1.args.all (constD (ms.map Prod.fst)):=by
     rw [e8.o];unfold foldB;rw [←k3.o,Kaj.2 h0];rfl
    rw [←k4] at g8;clear h0 k4
    cases d8 with
    | false=>
     go_wp2_with fail
     refine g8.o.mono ?_
     rintro e w' ⟨rfl,f0⟩
     rw [←f0];clear f0
     go_wp2_with fail
     go_meet;exact ⟨rfl,rfl⟩
    | true=>
     go_wp2_with fail
     refine g8.o.mono ?_
     rintro e w' ⟨rfl,f0⟩
     rw [←f0];clear f0
     go_wp2_with fail
     go_meet;exact ⟨rfl,rfl⟩
 case rest=>
 obtain ⟨rfl,k5⟩:=hcut;rw [k5];clear k5;clear E b2 l7 l8
 go_upto_if 23 with fail
 go_cut [] (fun j2=>MadeCut w B cb g f s d NA nc ms OA oc outs I0 I1 m0 k0 m1 k1 names b5 nb (foldD f (ms.map Prod.fst) m.1) (ndB m) j2)
 case first=>
  cases d8 with
  | false=>
   have e9:=Kz (show foldD f (ms.map Prod.fst) m.1=m.1 from by rw [foldD_b,if_neg (by rw [←e8.o];decide)])
   go_wp2_with fail
   go_meet;exact ⟨m,e9.o.symm,fun b j3=>.inl j3,D.o,h4.o,h5.o,h3.o,KD.of a2.o,a2.o⟩
  | true=>
   have b0:=Kz e8.o.symm
   go_upto_region 2 with fail
   refine wp_region_held_drew (S:=(fun w'=>w'.cell? ⟨b5,0,none⟩=some (.pointer (some ⟨cb,0,none⟩)))) (by kernel_rfl) (node_cells (D.o.next (Kai _ _).drew)).1 (fun j => ?_)
   obtain ⟨F,a3⟩:=Ky w2.drew;rw [←a3] at j ⊢;have n:=Kz (show Below w2.heap.size w2 F from by rw [a3];exact (Kai _ _).drew)
   clear a3;refine tk 0 ?_;simp only [tkS];refine tk 2 ?_;simp only [tkS];refine wpAnyH_ready (rs:=[1,3]) (by kernel_rfl) (by simp) ?_
   refine AllReadyH.cons (o:=_) rfl (fun K hK => ?_) (AllReadyH.cons (o:=_) rfl (fun K hK => ?_) (AllReadyH.nil))
   ·have ND:=(D.o.next n.o).2;have H:=cells_node ND 0 _ rfl;have I:=cells_node ND 1 _ rfl;have J:=cells_node ND 2 _ rfl;have L:=cells_node ND 3 _ rfl;have M:=cells_node ND 4 _ rfl;have N:=cells_node ND 5 _ rfl;have O:=cells_node ND 6 _ rfl;go_simp;clear ND H I J L M N O;refine hK.out _ _ j (fun j => ?_)
    clear hK K
    try simp only [tkS]
    refine Kr 3 fun K hK=>?_
    ·have ND:=(D.o.next n.o).2;have H:=cells_node ND 0 _ rfl;have I:=cells_node ND 1 _ rfl;have J:=cells_node ND 2 _ rfl;have L:=cells_node ND 3 _ rfl;have M:=cells_node ND 4 _ rfl;have N:=cells_node ND 5 _ rfl;have O:=cells_node ND 6 _ rfl;go_simp;clear ND H I J L M N O;refine hK.out _ _ j (fun j => ?_)
     clear hK K
     try simp only [tkS]
     refine Kr 4 fun K hK=>?_
     ·go_simp
      go_at_call 108
      refine (g9.o b0.o F n.o).mono ?_
      rintro e w3 ⟨A3,n3,c3,rfl,c7,o3,b3⟩
      have r:=Kz (bnext n.o b3);have f8:=Kz c7;have f9:=Kz (o3.more (Kah a9.o (Kah a2.o.size n.o.size)));clear b3 c7 o3;refine hK.out _ _ (node_cells (D.o.next r.o)).1 (fun j => ?_)
      clear hK K
      try simp only [tkS]
      have g0:=d7.o;refine tk 5 ?_;simp only [tkS];clear g0;have l:=Kz (D.o.next r.o).2;have H:=cells_node l.o 0 _ rfl;have I:=cells_node l.o 1 _ rfl;have J:=cells_node l.o 2 _ rfl;have L:=cells_node l.o 3 _ rfl;have M:=cells_node l.o 4 _ rfl;have N:=cells_node l.o 5 _ rfl;have O:=cells_node l.o 6 _ rfl;have Y:∀ k,w3.frozen? ⟨nb,k,none⟩=false:=fun k=>by simp [World.frozen?,l.o]
      refine Kr 6 fun K hK=>?_
      go_simp;obtain ⟨w4,x⟩:=Ky ((((((((w3.setCell ⟨nb,0,none⟩ (.int .i64 2)).setCell ⟨nb,1,none⟩ (.slice A0 n0 c0)).setCell ⟨nb,2,none⟩ (.slice none 0 0)).setCell ⟨nb,3,none⟩ (.int .i64 0)).setCell ⟨nb,4,none⟩ (.int .i64 0)).setCell ⟨nb,5,none⟩ (.int .i64 0)).setCell ⟨nb,6,none⟩ (.slice A3 n3 c3)));rw [←x];rw [←d7.o] at x;have X:=Kz (folded_done x l.o f8.o f9.o ⟨h3.o.next r.o,d4.o⟩ (h4.o.next2 r.o) (h2.o b0.o));have g1:=Kz (bel_node x (bnext a2.o r.o) j1.o);have c8:=Kz ((ne_node x j0.o).trans (D.o.next r.o).1);clear x H I J L M N O Y;refine hK.out _ _ (Kaa 0 c8.o) (fun j => ?_)
      clear hK K
      try simp only [tkS]
      refine Kq ?_
      go_wp2_with fail
      go_meet;exact ⟨foldM (ms.map Prod.fst) m A3 n3 c3,by rw [foldD_b,if_pos b0.o];rfl,foldM_bs,⟨c8.o,X.o.1⟩,X.o.2.1,apart_fold h5.o,X.o.2.2.1,((KD.of a2.o).trans (KD.of r.o)).trans X.o.2.2.2,g1.o⟩
   ·have ND:=(D.o.next n.o).2;have H:=cells_node ND 0 _ rfl;have I:=cells_node ND 1 _ rfl;have J:=cells_node ND 2 _ rfl;have L:=cells_node ND 3 _ rfl;have M:=cells_node ND 4 _ rfl;have N:=cells_node ND 5 _ rfl;have O:=cells_node ND 6 _ rfl;go_simp;clear ND H I J L M N O;refine hK.out _ _ j (fun j => ?_)
    clear hK K
    try simp only [tkS]
    refine wpAnyH_ready (rs:=[1,4]) (by kernel_rfl) (by simp) ?_
    refine AllReadyH.cons (o:=_) rfl (fun K hK => ?_) (AllReadyH.cons (o:=_) rfl (fun K hK => ?_) (AllReadyH.nil))
    ·have ND:=(D.o.next n.o).2;have H:=cells_node ND 0 _ rfl;have I:=cells_node ND 1 _ rfl;have J:=cells_node ND 2 _ rfl;have L:=cells_node ND 3 _ rfl;have M:=cells_node ND 4 _ rfl;have N:=cells_node ND 5 _ rfl;have O:=cells_node ND 6 _ rfl;go_simp;clear ND H I J L M N O;refine hK.out _ _ j (fun j => ?_)
     clear hK K
     try simp only [tkS]
     refine Kr 4 fun K hK=>?_
     ·go_simp
      go_at_call 108
      refine (g9.o b0.o F n.o).mono ?_
      rintro e w3 ⟨A3,n3,c3,rfl,c7,o3,b3⟩
      have r:=Kz (bnext n.o b3);have f8:=Kz c7;have f9:=Kz (o3.more (Kah a9.o (Kah a2.o.size n.o.size)));clear b3 c7 o3;refine hK.out _ _ (node_cells (D.o.next r.o)).1 (fun j => ?_)
      clear hK K
      try simp only [tkS]
      have g0:=d7.o;refine tk 5 ?_;simp only [tkS];clear g0;have l:=Kz (D.o.next r.o).2;have H:=cells_node l.o 0 _ rfl;have I:=cells_node l.o 1 _ rfl;have J:=cells_node l.o 2 _ rfl;have L:=cells_node l.o 3 _ rfl;have M:=cells_node l.o 4 _ rfl;have N:=cells_node l.o 5 _ rfl;have O:=cells_node l.o 6 _ rfl;have Y:∀ k,w3.frozen? ⟨nb,k,none⟩=false:=fun k=>by simp [World.frozen?,l.o]
      refine Kr 6 fun K hK=>?_
      go_simp;obtain ⟨w4,x⟩:=Ky ((((((((w3.setCell ⟨nb,0,none⟩ (.int .i64 2)).setCell ⟨nb,1,none⟩ (.slice A0 n0 c0)).setCell ⟨nb,2,none⟩ (.slice none 0 0)).setCell ⟨nb,3,none⟩ (.int .i64 0)).setCell ⟨nb,4,none⟩ (.int .i64 0)).setCell ⟨nb,5,none⟩ (.int .i64 0)).setCell ⟨nb,6,none⟩ (.slice A3 n3 c3)));rw [←x];rw [←d7.o] at x;have X:=Kz (folded_done x l.o f8.o f9.o ⟨h3.o.next r.o,d4.o⟩ (h4.o.next2 r.o) (h2.o b0.o));have g1:=Kz (bel_node x (bnext a2.o r.o) j1.o);have c8:=Kz ((ne_node x j0.o).trans (D.o.next r.o).1);clear x H I J L M N O Y;refine hK.out _ _ (Kaa 0 c8.o) (fun j => ?_)
      clear hK K
      try simp only [tkS]
      refine Kq ?_
      go_wp2_with fail
      go_meet;exact ⟨foldM (ms.map Prod.fst) m A3 n3 c3,by rw [foldD_b,if_pos b0.o];rfl,foldM_bs,⟨c8.o,X.o.1⟩,X.o.2.1,apart_fold h5.o,X.o.2.2.1,((KD.of a2.o).trans (KD.of r.o)).trans X.o.2.2.2,g1.o⟩
    ·go_simp
     go_at_call 108
     refine (g9.o b0.o F n.o).mono ?_
     rintro e w3 ⟨A3,n3,c3,rfl,c7,o3,b3⟩
     have r:=Kz (bnext n.o b3);have f8:=Kz c7;have f9:=Kz (o3.more (Kah a9.o (Kah a2.o.size n.o.size)));clear b3 c7 o3;refine hK.out _ _ (node_cells (D.o.next r.o)).1 (fun j => ?_)
     clear hK K
     try simp only [tkS]
     refine Kr 1 fun K hK=>?_
     ·have ND:=(D.o.next r.o).2;have H:=cells_node ND 0 _ rfl;have I:=cells_node ND 1 _ rfl;have J:=cells_node ND 2 _ rfl;have L:=cells_node ND 3 _ rfl;have M:=cells_node ND 4 _ rfl;have N:=cells_node ND 5 _ rfl;have O:=cells_node ND 6 _ rfl;go_simp;clear ND H I J L M N O;refine hK.out _ _ j (fun j => ?_)
      clear hK K
      try simp only [tkS]
      have g0:=d7.o;refine tk 5 ?_;simp only [tkS];clear g0;have l:=Kz (D.o.next r.o).2;have H:=cells_node l.o 0 _ rfl;have I:=cells_node l.o 1 _ rfl;have J:=cells_node l.o 2 _ rfl;have L:=cells_node l.o 3 _ rfl;have M:=cells_node l.o 4 _ rfl;have N:=cells_node l.o 5 _ rfl;have O:=cells_node l.o 6 _ rfl;have Y:∀ k,w3.frozen? ⟨nb,k,none⟩=false:=fun k=>by simp [World.frozen?,l.o]
      refine Kr 6 fun K hK=>?_
      go_simp;obtain ⟨w4,x⟩:=Ky ((((((((w3.setCell ⟨nb,0,none⟩ (.int .i64 2)).setCell ⟨nb,1,none⟩ (.slice A0 n0 c0)).setCell ⟨nb,2,none⟩ (.slice none 0 0)).setCell ⟨nb,3,none⟩ (.int .i64 0)).setCell ⟨nb,4,none⟩ (.int .i64 0)).setCell ⟨nb,5,none⟩ (.int .i64 0)).setCell ⟨nb,6,none⟩ (.slice A3 n3 c3)));rw [←x];rw [←d7.o] at x;have X:=Kz (folded_done x l.o f8.o f9.o ⟨h3.o.next r.o,d4.o⟩ (h4.o.next2 r.o) (h2.o b0.o));have g1:=Kz (bel_node x (bnext a2.o r.o) j1.o);have c8:=Kz ((ne_node x j0.o).trans (D.o.next r.o).1);clear x H I J L M N O Y;refine hK.out _ _ (Kaa 0 c8.o) (fun j => ?_)
      clear hK K
      try simp only [tkS]
      refine Kq ?_
      go_wp2_with fail
      go_meet;exact ⟨foldM (ms.map Prod.fst) m A3 n3 c3,by rw [foldD_b,if_pos b0.o];rfl,foldM_bs,⟨c8.o,X.o.1⟩,X.o.2.1,apart_fold h5.o,X.o.2.2.1,((KD.of a2.o).trans (KD.of r.o)).trans X.o.2.2.2,g1.o⟩
 case rest=>
 obtain ⟨a,k6,k7,g2,h7,k8,d9,j4,h8⟩:=hcut;obtain ⟨w5,k9⟩:=Ky wc;rw [←k9] at g2 h7 d9 j4 h8 ⊢;obtain ⟨a0,h9⟩:=Ky ms.length;have e0:=Kz k6;have i0:=Kz k7;have g3:=Kz g2;have i1:=Kz h7;have i2:=Kz k8;have p:=Kz d9;have g4:=Kz j4;have g5:=Kz h8;have y:=Kz h9;have Z:=Kz (Kah a9.o h8.size);have b4:=Kz (fun h1 (d2:Below w5.heap.size w5 h1)=>node_cells (g3.o.next d2))
 have m6:a0≤1000:=by omega
 have m8:IntKind.i64.wrap ((a0:Int)+1-1)=a0:=by simp [IntKind.wrap,IntKind.bits,IntKind.signed];omega
 have i3:=Kz (idxN_any nb B a0 nc NA ms a w5 h9 (by omega) d9.hr g2.2 h7.rd)
 have E:=(node_cells g2).1;have c1:=d9.cells.2.1;have c3:=d9.cells.2.2.2.1;rw [←h9] at c3;clear k6 k7 g2 h7 k8 d9 j4 h8 h9 k9 g8 g9 h2
 cases s with
 | true=>
  cases hix:idxD (ms.map Prod.fst) a.1 with
  | some i=>
   rw [hix] at i3;have a1:=Kz (show madeD f true (ms.map Prod.fst) m.1=(ms.map Prod.fst,i) from by
    unfold madeD;rw [if_pos rfl,←e0.o,hix])
   have q0:decide ((0:Int)≤idxV (some i))=true:=by unfold idxV;simp
   clear hix
   go_wp2_with (go_at_call 109;refine i3.o.mono ?_;rintro e w6 ⟨rfl,b6⟩;have B6:=Kz b6;clear b6)
   go_ret;exact ⟨NA,nc,ms,by rw [a1.o],by rw [a1.o];rfl,p.o.next B6.o,g4.o.trans (KD.of B6.o),(g5.o.mono a9.o).trans (B6.o.mono Z.o),fun b j3=>.inl j3⟩
  | none=>
   rw [hix] at i3;have a1:=Kz (show (madeD f true (ms.map Prod.fst) m.1).1=ms.map Prod.fst++[foldD f (ms.map Prod.fst) m.1]∧(madeD f true (ms.map Prod.fst) m.1).2=(ms.map Prod.fst).length from by
    unfold madeD;rw [if_pos rfl,←e0.o,hix];exact ⟨rfl,rfl⟩)
   have q0:decide ((0:Int)≤idxV none)=false:=by unfold idxV;simp
   clear hix
   go_upto_region 5 with (go_at_call 109;refine i3.o.mono ?_;rintro e w7 ⟨rfl,b7⟩;have e4:=Kz b7;clear b7)
   clear E c1 c3;have E:=(b4.o w7 e4.o).1
   go_upto_region 7 with fail
   refine wp_region_held_drew (S:=(fun w'=>w'.cell? ⟨b5,0,none⟩=some (.pointer (some ⟨cb,0,none⟩))∧w'.cell? ⟨nb,0,none⟩=some (.int .i64 a.1.kind)∧w'.cell? ⟨nb,1,none⟩=some a.2.sv∧w'.cell? ⟨nb,2,none⟩=some a.2.av∧w'.cell? ⟨nb,3,none⟩=some (.int .i64 a.1.party)∧w'.cell? ⟨nb,4,none⟩=some (.int .i64 a.1.input)∧w'.cell? ⟨nb,5,none⟩=some (.int .i64 a.1.k)∧w'.cell? ⟨nb,6,none⟩=some a.2.ev)) (by kernel_rfl) (b4.o _ e4.o.drew) (fun j => ?_)
   obtain ⟨F,a3⟩:=Ky w7.drew;rw [←a3] at j ⊢;have n:=Kz (show Below w5.heap.size w5 F from by rw [a3];exact e4.o.drew)
   clear a3;refine tk 0 ?_;simp only [tkS];refine tk 1 ?_;simp only [tkS];refine tk 2 ?_;simp only [tkS];refine tk 3 ?_;simp only [tkS];refine tk 4 ?_;simp only [tkS];refine tk 6 ?_;simp only [tkS];refine wpAnyH_ready (rs:=[5,7]) (by kernel_rfl) (by simp) ?_
   refine AllReadyH.cons (o:=_) rfl (fun K hK => ?_) (AllReadyH.cons (o:=_) rfl (fun K hK => ?_) (AllReadyH.nil))
   ·have a4:=(p.o.next n.o).cells.2.2.2.1;rw [←y.o] at a4;go_simp;clear a4;refine hK.out _ _ j (fun j => ?_)
    clear hK K
    try simp only [tkS]
    refine Kr 7 fun K hK=>?_
    go_simp;obtain ⟨a5,z⟩:=Ky (F.alloc (.cells #[.int .i64 a.1.kind,a.2.sv,a.2.av,.int .i64 a.1.party,.int .i64 a.1.input,.int .i64 a.1.k,a.2.ev] 77));obtain ⟨d5,Q⟩:=Ky F.heap.size;rw [←z,←Q];have c:=Kz (show Below w5.heap.size w5 a5 from by rw [z];exact n.o.alloc n.o.size _)
    have d6:=Kz (Kx z Q);clear z Q;refine hK.out _ _ (b4.o _ c.o) (fun j => ?_)
    clear hK K
    try simp only [tkS]
    refine Kr 8 fun K hK=>?_
    refine wp_appNd (.tmp 50) (.tmp 52) rfl B NA nc a0 ms y.o rfl (p.o.hr.next c.o) d5 rfl a d6.o (i1.o.next2 c.o) (by omega) (Kah Z.o c.o.size) ?_
    intro R T a6 r8 C
    have a7:=Kz ((p.o.next c.o).push C r8 i2.o);have C8:=Kz (a7.o.2.2.trans (p.o.next c.o).hc);have S8:=Kz (KD8.mk (p.o.hr.next c.o) C (g3.o.next c.o) d4.o);have B8:=Kz (Zal ((c.o.mono Z.o)) C (Kah Z.o c.o.size) (fun q a8=>((p.o.hr.next c.o).lt q a8).1))
    refine hK.out _ _ (node_cells S8.o) (fun j => ?_)
    clear hK K
    try simp only [tkS]
    refine tk 9 ?_;simp only [tkS];refine tk 10 ?_;simp only [tkS];refine tk 11 ?_;simp only [tkS];refine Kr 12 fun K hK=>?_
    have d3:=Kaa 3 C8.o;have Y:∀ k,a6.frozen? ⟨cb,k,none⟩=false:=fun k=>by simp [World.frozen?,C8.o]
    go_simp;obtain ⟨V,v⟩:=Ky (a6.setCell ⟨cb,3,none⟩ (.slice R (a0+1) T));rw [←v];have W:=Kz (show DgSt V B cb g f true d R T (ms++[a]) OA oc outs I0 I1 m0 k0 m1 k1 names∧KD a5 V from by have h:=a7.o;rw [←y.o,←v] at h;exact ⟨h.1,h.2.1⟩)
    have B9:=Kz (show Below B w5 V from by rw [v];exact setCell_below' B8.o h6.o _)
    have S9:=Kz (kd_boxes v S8.o c6.o.1 c6.o.2);clear v d3 Y C r8;refine hK.out _ _ (node_cells S9.o) (fun j => ?_)
    clear hK K
    try simp only [tkS]
    refine Kq ?_;have y3:=W.o.1.cells.2.2.2.1;rw [List.length_append,List.length_singleton,←y.o] at y3;have E:=S9.o.1;have E:=Kaa 0 E
    go_wp2_with fail
    go_ret;exact ⟨R,T,ms++[a],by rw [a1.o.1,List.map_append,←e0.o];rfl,by rw [a1.o.2,Kak,←y.o];rfl,W.o.1,(g4.o.trans (KD.of c.o)).trans W.o.2,(g5.o.mono a9.o).trans B9.o,push_bs i0.o⟩
   ·go_simp;obtain ⟨a5,z⟩:=Ky (F.alloc (.cells #[.int .i64 a.1.kind,a.2.sv,a.2.av,.int .i64 a.1.party,.int .i64 a.1.input,.int .i64 a.1.k,a.2.ev] 77));obtain ⟨d5,Q⟩:=Ky F.heap.size;rw [←z,←Q];have c:=Kz (show Below w5.heap.size w5 a5 from by rw [z];exact n.o.alloc n.o.size _)
    have d6:=Kz (Kx z Q);clear z Q;refine hK.out _ _ (b4.o _ c.o) (fun j => ?_)
    clear hK K
    try simp only [tkS]
    refine Kr 5 fun K hK=>?_
    have a4:=(p.o.next c.o).cells.2.2.2.1;rw [←y.o] at a4;go_simp;clear a4;refine hK.out _ _ (b4.o _ c.o) (fun j => ?_)
    clear hK K
    try simp only [tkS]
    refine Kr 8 fun K hK=>?_
    refine wp_appNd (.tmp 50) (.tmp 52) rfl B NA nc a0 ms y.o rfl (p.o.hr.next c.o) d5 rfl a d6.o (i1.o.next2 c.o) (by omega) (Kah Z.o c.o.size) ?_
    intro R T a6 r8 C
    have a7:=Kz ((p.o.next c.o).push C r8 i2.o);have C8:=Kz (a7.o.2.2.trans (p.o.next c.o).hc);have S8:=Kz (KD8.mk (p.o.hr.next c.o) C (g3.o.next c.o) d4.o);have B8:=Kz (Zal ((c.o.mono Z.o)) C (Kah Z.o c.o.size) (fun q a8=>((p.o.hr.next c.o).lt q a8).1))
    refine hK.out _ _ (node_cells S8.o) (fun j => ?_)
    clear hK K
    try simp only [tkS]
    refine tk 9 ?_;simp only [tkS];refine tk 10 ?_;simp only [tkS];refine tk 11 ?_;simp only [tkS];refine Kr 12 fun K hK=>?_
    have d3:=Kaa 3 C8.o;have Y:∀ k,a6.frozen? ⟨cb,k,none⟩=false:=fun k=>by simp [World.frozen?,C8.o]
    go_simp;obtain ⟨V,v⟩:=Ky (a6.setCell ⟨cb,3,none⟩ (.slice R (a0+1) T));rw [←v];have W:=Kz (show DgSt V B cb g f true d R T (ms++[a]) OA oc outs I0 I1 m0 k0 m1 k1 names∧KD a5 V from by have h:=a7.o;rw [←y.o,←v] at h;exact ⟨h.1,h.2.1⟩)
    have B9:=Kz (show Below B w5 V from by rw [v];exact setCell_below' B8.o h6.o _)
    have S9:=Kz (kd_boxes v S8.o c6.o.1 c6.o.2);clear v d3 Y C r8;refine hK.out _ _ (node_cells S9.o) (fun j => ?_)
    clear hK K
    try simp only [tkS]
    refine Kq ?_;have y3:=W.o.1.cells.2.2.2.1;rw [List.length_append,List.length_singleton,←y.o] at y3;have E:=S9.o.1;have E:=Kaa 0 E
    go_wp2_with fail
    go_ret;exact ⟨R,T,ms++[a],by rw [a1.o.1,List.map_append,←e0.o];rfl,by rw [a1.o.2,Kak,←y.o];rfl,W.o.1,(g4.o.trans (KD.of c.o)).trans W.o.2,(g5.o.mono a9.o).trans B9.o,push_bs i0.o⟩
 | false=>
  have a1:=Kz (show (madeD f false (ms.map Prod.fst) m.1).1=ms.map Prod.fst++[foldD f (ms.map Prod.fst) m.1]∧(madeD f false (ms.map Prod.fst) m.1).2=(ms.map Prod.fst).length from by
   unfold madeD;rw [if_neg (by decide)]
   exact ⟨rfl,rfl⟩)
  obtain ⟨w7,j5⟩:=Ky w5;have e4:=Kz (show Below w5.heap.size w5 w7 from by rw [j5];exact Kai _ _)
  have m2:=Kz j5;clear j5
  go_upto_region 7 with fail
  rw [←m2.o];refine wp_region_held_drew (S:=(fun w'=>w'.cell? ⟨b5,0,none⟩=some (.pointer (some ⟨cb,0,none⟩))∧w'.cell? ⟨nb,0,none⟩=some (.int .i64 a.1.kind)∧w'.cell? ⟨nb,1,none⟩=some a.2.sv∧w'.cell? ⟨nb,2,none⟩=some a.2.av∧w'.cell? ⟨nb,3,none⟩=some (.int .i64 a.1.party)∧w'.cell? ⟨nb,4,none⟩=some (.int .i64 a.1.input)∧w'.cell? ⟨nb,5,none⟩=some (.int .i64 a.1.k)∧w'.cell? ⟨nb,6,none⟩=some a.2.ev)) (by kernel_rfl) (b4.o _ e4.o.drew) (fun j => ?_)
  obtain ⟨F,a3⟩:=Ky w7.drew;rw [←a3] at j ⊢;have n:=Kz (show Below w5.heap.size w5 F from by rw [a3];exact e4.o.drew)
  clear a3;refine tk 0 ?_;simp only [tkS];refine tk 1 ?_;simp only [tkS];refine tk 2 ?_;simp only [tkS];refine tk 3 ?_;simp only [tkS];refine tk 4 ?_;simp only [tkS];refine tk 6 ?_;simp only [tkS];refine wpAnyH_ready (rs:=[5,7]) (by kernel_rfl) (by simp) ?_
  refine AllReadyH.cons (o:=_) rfl (fun K hK => ?_) (AllReadyH.cons (o:=_) rfl (fun K hK => ?_) (AllReadyH.nil))
  ·have a4:=(p.o.next n.o).cells.2.2.2.1;rw [←y.o] at a4;go_simp;clear a4;refine hK.out _ _ j (fun j => ?_)
   clear hK K
   try simp only [tkS]
   refine Kr 7 fun K hK=>?_
   go_simp;obtain ⟨a5,z⟩:=Ky (F.alloc (.cells #[.int .i64 a.1.kind,a.2.sv,a.2.av,.int .i64 a.1.party,.int .i64 a.1.input,.int .i64 a.1.k,a.2.ev] 77));obtain ⟨d5,Q⟩:=Ky F.heap.size;rw [←z,←Q];have c:=Kz (show Below w5.heap.size w5 a5 from by rw [z];exact n.o.alloc n.o.size _)
   have d6:=Kz (Kx z Q);clear z Q;refine hK.out _ _ (b4.o _ c.o) (fun j => ?_)
   clear hK K
   try simp only [tkS]
   refine Kr 8 fun K hK=>?_
   refine wp_appNd (.tmp 50) (.tmp 52) rfl B NA nc a0 ms y.o rfl (p.o.hr.next c.o) d5 rfl a d6.o (i1.o.next2 c.o) (by omega) (Kah Z.o c.o.size) ?_
   intro R T a6 r8 C
   have a7:=Kz ((p.o.next c.o).push C r8 i2.o);have C8:=Kz (a7.o.2.2.trans (p.o.next c.o).hc);have S8:=Kz (KD8.mk (p.o.hr.next c.o) C (g3.o.next c.o) d4.o);have B8:=Kz (Zal ((c.o.mono Z.o)) C (Kah Z.o c.o.size) (fun q a8=>((p.o.hr.next c.o).lt q a8).1))
   refine hK.out _ _ (node_cells S8.o) (fun j => ?_)
   clear hK K
   try simp only [tkS]
   refine tk 9 ?_;simp only [tkS];refine tk 10 ?_;simp only [tkS];refine tk 11 ?_;simp only [tkS];refine Kr 12 fun K hK=>?_
   have d3:=Kaa 3 C8.o;have Y:∀ k,a6.frozen? ⟨cb,k,none⟩=false:=fun k=>by simp [World.frozen?,C8.o]
   go_simp;obtain ⟨V,v⟩:=Ky (a6.setCell ⟨cb,3,none⟩ (.slice R (a0+1) T));rw [←v];have W:=Kz (show DgSt V B cb g f false d R T (ms++[a]) OA oc outs I0 I1 m0 k0 m1 k1 names∧KD a5 V from by have h:=a7.o;rw [←y.o,←v] at h;exact ⟨h.1,h.2.1⟩)
   have B9:=Kz (show Below B w5 V from by rw [v];exact setCell_below' B8.o h6.o _)
   have S9:=Kz (kd_boxes v S8.o c6.o.1 c6.o.2);clear v d3 Y C r8;refine hK.out _ _ (node_cells S9.o) (fun j => ?_)
   clear hK K
   try simp only [tkS]
   refine Kq ?_;have y3:=W.o.1.cells.2.2.2.1;rw [List.length_append,List.length_singleton,←y.o] at y3;have E:=S9.o.1;have E:=Kaa 0 E
   go_wp2_with fail
   go_ret;exact ⟨R,T,ms++[a],by rw [a1.o.1,List.map_append,←e0.o];rfl,by rw [a1.o.2,Kak,←y.o];rfl,W.o.1,(g4.o.trans (KD.of c.o)).trans W.o.2,(g5.o.mono a9.o).trans B9.o,push_bs i0.o⟩
  ·go_simp;obtain ⟨a5,z⟩:=Ky (F.alloc (.cells #[.int .i64 a.1.kind,a.2.sv,a.2.av,.int .i64 a.1.party,.int .i64 a.1.input,.int .i64 a.1.k,a.2.ev] 77));obtain ⟨d5,Q⟩:=Ky F.heap.size;rw [←z,←Q];have c:=Kz (show Below w5.heap.size w5 a5 from by rw [z];exact n.o.alloc n.o.size _)
   have d6:=Kz (Kx z Q);clear z Q;refine hK.out _ _ (b4.o _ c.o) (fun j => ?_)
   clear hK K
   try simp only [tkS]
   refine Kr 5 fun K hK=>?_
   have a4:=(p.o.next c.o).cells.2.2.2.1;rw [←y.o] at a4;go_simp;clear a4;refine hK.out _ _ (b4.o _ c.o) (fun j => ?_)
   clear hK K
   try simp only [tkS]
   refine Kr 8 fun K hK=>?_
   refine wp_appNd (.tmp 50) (.tmp 52) rfl B NA nc a0 ms y.o rfl (p.o.hr.next c.o) d5 rfl a d6.o (i1.o.next2 c.o) (by omega) (Kah Z.o c.o.size) ?_
   intro R T a6 r8 C
   have a7:=Kz ((p.o.next c.o).push C r8 i2.o);have C8:=Kz (a7.o.2.2.trans (p.o.next c.o).hc);have S8:=Kz (KD8.mk (p.o.hr.next c.o) C (g3.o.next c.o) d4.o);have B8:=Kz (Zal ((c.o.mono Z.o)) C (Kah Z.o c.o.size) (fun q a8=>((p.o.hr.next c.o).lt q a8).1))
   refine hK.out _ _ (node_cells S8.o) (fun j => ?_)
   clear hK K
   try simp only [tkS]
   refine tk 9 ?_;simp only [tkS];refine tk 10 ?_;simp only [tkS];refine tk 11 ?_;simp only [tkS];refine Kr 12 fun K hK=>?_
   have d3:=Kaa 3 C8.o;have Y:∀ k,a6.frozen? ⟨cb,k,none⟩=false:=fun k=>by simp [World.frozen?,C8.o]
   go_simp;obtain ⟨V,v⟩:=Ky (a6.setCell ⟨cb,3,none⟩ (.slice R (a0+1) T));rw [←v];have W:=Kz (show DgSt V B cb g f false d R T (ms++[a]) OA oc outs I0 I1 m0 k0 m1 k1 names∧KD a5 V from by have h:=a7.o;rw [←y.o,←v] at h;exact ⟨h.1,h.2.1⟩)
   have B9:=Kz (show Below B w5 V from by rw [v];exact setCell_below' B8.o h6.o _)
   have S9:=Kz (kd_boxes v S8.o c6.o.1 c6.o.2);clear v d3 Y C r8;refine hK.out _ _ (node_cells S9.o) (fun j => ?_)
   clear hK K
   try simp only [tkS]
   refine Kq ?_;have y3:=W.o.1.cells.2.2.2.1;rw [List.length_append,List.length_singleton,←y.o] at y3;have E:=S9.o.1;have E:=Kaa 0 E
   go_wp2_with fail
   go_ret;exact ⟨R,T,ms++[a],by rw [a1.o.1,List.map_append,←e0.o];rfl,by rw [a1.o.2,Kak,←y.o];rfl,W.o.1,(g4.o.trans (KD.of c.o)).trans W.o.2,(g5.o.mono a9.o).trans B9.o,push_bs i0.o⟩
def ShB (w:World) (B:Nat) (A:Option Addr) (sh:List (List Int)):Prop:=∃ q,A=some ⟨q,0,none⟩∧q<B∧∀ (i:Nat) (l:List Int),sh[i]?=some l→∃ A' c,w.cell? ⟨q,i,none⟩=some (.slice A' l.length c)∧Rd w B A' (l.map VI)∧l.length≤2
theorem ShB.below {w w':World} {B:Nat} {A:Option Addr} {sh:List (List Int)} (h:ShB w B A sh) (a:Below B w w'):ShB w' B A sh:=by
 obtain ⟨q,e,b,j⟩:=h;refine ⟨q,e,b,fun i l k => ?_⟩
 obtain ⟨n,c,k1,r,t⟩:=j i l k;exact ⟨n,c,(a.cell (p:=⟨q,i,none⟩) b).trans k1,r.below a,t⟩
theorem letD_len (f s:Bool) (es:List EI) (sh:List (List Int)) (names:PlacesD) (m:Nat→Bool) (l:List ND):∀ i,(letD f s es sh names m l i).1.length≤l.length+i
 | 0=>Kag _
 | i+1=>by
  have a:=letD_len f s es sh names m l i;unfold letD;dsimp only;split
  ·split
   ·omega
   ·split
    ·show (letD f s es sh names m l i).1.length≤_
     omega
    ·rename_i e _ _
     show (madeD f s (letD f s es sh names m l i).1 _).1.length≤_
     rcases madeD_cases f s (letD f s es sh names m l i).1 (nodeD e (sh.getD i []) (letD f s es sh names m l i).2) with ⟨_,h,_⟩ | ⟨_,h⟩
     ·rw [h];omega
     ·rw [h,List.length_append,List.length_singleton];omega
  ·omega
theorem letD_skip {f s:Bool} {es:List EI} {sh:List (List Int)} {names:PlacesD} {m:Nat→Bool} {l:List ND} {i:Nat} (h:m i=false):letD f s es sh names m l (i+1)=letD f s es sh names m l i:=by
 show (if m i=true then _ else _)=_
 rw [if_neg (by rw [h];decide)]
theorem letD_name {f s:Bool} {es:List EI} {sh:List (List Int)} {names:PlacesD} {m:Nat→Bool} {l:List ND} {i:Nat} {e:EI} (h:m i=true) (a:es[i]?=some e) (b:e.kind=2):letD f s es sh names m l (i+1)=((letD f s es sh names m l i).1,updD (letD f s es sh names m l i).2 i (placeD names e.name)):=by
 show (if m i=true then _ else _)=_
 rw [if_pos h,a];dsimp only;rw [if_pos b]
theorem letD_node {f s:Bool} {es:List EI} {sh:List (List Int)} {names:PlacesD} {m:Nat→Bool} {l:List ND} {i:Nat} {e:EI} (h:m i=true) (a:es[i]?=some e) (b:e.kind≠2):letD f s es sh names m l (i+1)=((madeD f s (letD f s es sh names m l i).1 (nodeD e (sh.getD i []) (letD f s es sh names m l i).2)).1,updD (letD f s es sh names m l i).2 i (madeD f s (letD f s es sh names m l i).1 (nodeD e (sh.getD i []) (letD f s es sh names m l i).2)).2):=by
 show (if m i=true then _ else _)=_
 rw [if_pos h,a];dsimp only;rw [if_neg b]
theorem made_le3 (k:Int):madeP k≤3:=by
 unfold madeP;split
 ·omega
 ·split
  ·omega
  ·split
   ·omega
   ·split <;> omega
theorem mkb_fn {w:World} {t:TypeId} {g n:Nat} {b c:Nat→Value} (h:MkB w t g n b) (e:∀ i,i<n→b i=c i):MkB w t g n c:=by
 unfold MkB at h ⊢;rw [h];have:(List.range n).map b=(List.range n).map c:=List.map_congr_left fun a j=>e a (List.mem_range.1 j)
 rw [this]
theorem mkb_vnt (n:Nat):((List.range n).map fun _=>bI false)=(List.range n).map fun _=>VNt 0:=List.map_congr_left fun _ _=>rfl
theorem wp_app1 {w:World} {o:Oper} {a:Act} {K:Act→World→Prop} {Q:Exit→Act→World→Prop} (s x:Operand)
  (l:o.op=.call { callee:=.builtin .append,args:=#[s,x],argTypes:=#[41,41] }) (base:Nat) (A:Option Addr) (k n:Nat) (b:List Value) (p:n=b.length) (q:a.eval s=.slice A n k) (r:Own w base 3 A k b)
  (c:Nat) (y:a.eval x=.slice (some ⟨c,0,none⟩) 1 1) (v:Value) (z:w.heap[c]?=some (.cells #[v] 3 (0,0))) (C:v.oneCell'=true) (O:n≤100000) (D:base≤w.heap.size)
  (h:∀ i j w',Own w' base 3 i j (b++[v])→w.grownBy w' (blk A)→K (a.put o.dst (.slice i (n+1) j)) w'):o.wp Tryz.prog a w K Q:=by
 obtain ⟨E,F,H,I,J⟩:=info_parts ZcB;refine ZlF s x 41 l base 3 E _ 8 Tryz.underlying41 F H I J rfl A k b n p.symm q r (some ⟨c,0,none⟩) 1 1 (c+1) [v] rfl y (Rd.of_block z (Nat.lt_succ_self _) ⟨[],by simp⟩) (fun e=>by cases e) (fun R L=>by rw [List.mem_singleton.1 L];exact C) (by simp only [maxLen];omega) (by omega) D ?_
 intro i j w' M N _
 exact h i j w' M N
theorem KD.setNew {w2 w:World} {q k:Nat} (h:KD w2 w) (e:w2.heap.size≤q) (v:Value):KD w2 (w.setCell ⟨q,k,none⟩ v):=
 ⟨by simpa [World.setCell] using h.1,fun b o a c=>(ZaS _ _ _ (by have:=(Kab.1 a).1;show b≠q;omega)).trans (h.2 b o a c)⟩
theorem MkB.kd {w w':World} {q n:Nat} {a:Nat→Value} (h:MkB w 3 q n a) (b:KD w w'):MkB w' 3 q n a:=b.2 _ _ h ⟨by decide,by decide⟩
section
variable {w w':World} {B cb g:Nat} {f s d:Bool} {NA:Option Addr} {nc:Nat} {ms:List (ND × NV)} {OA:Option Addr} {oc:Nat} {outs:List Nat} {I0 I1:Option Addr} {m0 k0 m1 k1:Nat} {names:PlacesD}
theorem DgSt.setInt {q n k:Nat} {H:Nat→Value} (h:DgSt w B cb g f s d NA nc ms OA oc outs I0 I1 m0 k0 m1 k1 names) (r:MkB w 3 q n H) (x:∀ b∈(blk OA::ms.flatMap ndB),b≠some q) (v:Value):DgSt (w.setCell ⟨q,k,none⟩ v) B cb g f s d NA nc ms OA oc outs I0 I1 m0 k0 m1 k1 names:=by
 have i:∀ b,b≠q→(w.setCell ⟨q,k,none⟩ v).heap[b]?=w.heap[b]?:=fun b a=>ZaS _ _ _ a
 have l:∀ b y T z,w.heap[b]?=some (.cells y T z)→T≠3→b≠q:=fun b y T z a I e=>by
  rw [e,r] at a;injection a with a
  injection a with _ a _
  exact I a.symm
 refine ⟨h.b1,h.b2,(i cb (l _ _ _ _ h.hc (by decide))).trans h.hc,?_,⟨ZaK h.hr.1 fun b a => ?_,fun m A => ?_⟩,own_at h.ho fun b a=>i b fun e=>x _ (List.mem_cons_self ..) (by rw [a,e]),h.hp⟩
 ·obtain ⟨J,c,p,L⟩:=h.hn;exact ⟨J,c,(i g fun e=>by rw [e,r] at p;cases p).trans p,L⟩
 ·obtain ⟨cur,M⟩:=h.hr.form b a;exact i b (l _ _ _ _ M (by decide))
 ·obtain ⟨N,O,Q,⟨C,c1,D,R⟩,⟨E,c2,F,S⟩,A3,c3,V,W⟩:=h.hr.2 m A;have a:∀ b,b∈ndB m→b≠some q:=fun b a=>x b (List.mem_cons_of_mem _ (List.mem_flatMap.2 ⟨m,A,a⟩))
  refine ⟨N,O,Q,⟨C,c1,D,own_at R fun b j=>i b fun e=>a (blk C) (by simp [ndB,D,Za4]) (by rw [j,e])⟩,⟨E,c2,F,own_at S fun b j=>i b fun e=>a (blk E) (by simp [ndB,F,Za4]) (by rw [j,e])⟩,A3,c3,V,Zf4 W fun b cur j=>i b (l _ _ _ _ j (by decide))⟩
theorem DgSt.blocks (h:DgSt w B cb g f s d NA nc ms OA oc outs I0 I1 m0 k0 m1 k1 names):∀ b∈(blk OA::ms.flatMap ndB),∀ k,b=some k→k<w.heap.size:=by
 intro b a k c
 rcases List.mem_cons.1 a with rfl | a
 ·exact (h.ho.lt k c).2
 ·obtain ⟨m,e,a⟩:=List.mem_flatMap.1 a;exact ((h.hr.2 m e).lt b a k c).2
theorem apart_new {m:ND × NV} {mid:Nat} (h:DgSt w B cb g f s d NA nc ms OA oc outs I0 I1 m0 k0 m1 k1 names) (c:∀ k,m.2.sv.ownBlock=some k→w.heap.size≤k∧k<mid) (e:∀ k,m.2.av.ownBlock=some k→mid≤k) (i:w.heap.size≤mid):(blk OA::(ms++[m]).flatMap ndB).Pairwise apart:=by
 have j:(blk OA::(ms++[m]).flatMap ndB)=(blk OA::ms.flatMap ndB)++[m.2.sv.ownBlock,m.2.av.ownBlock]:=by
  rw [List.flatMap_append];simp [ndB]
 rw [j,List.pairwise_append];refine ⟨h.hp,?_,fun x l y b => ?_⟩
 ·refine List.Pairwise.cons (fun y b => ?_) (List.Pairwise.cons (by simp) List.Pairwise.nil)
  rw [List.mem_singleton.1 b];exact ZgY (m:=mid) (fun k a=>(c k a).2) e
 ·have n:y=m.2.sv.ownBlock∨y=m.2.av.ownBlock:=by simpa using b
  refine ZgY (m:=w.heap.size) (h.blocks x l) fun k a => ?_
  rcases n with rfl | rfl
  ·exact (c k a).1
  ·exact Kah i (e k a)
end
section
variable {w5 w6s wr w7:World} {B nb ns al cx ac:Nat} {Ax AA:Option Addr} {dk:Int} {dn:ByteArray} {du:Nat} {da ls:List Int} {dp:Int} {P:Nat→Nat} {m7:ND × NV} {B6:Nat}
theorem node_shape {K:Nat} {ev:Value} {el:List UInt64} (b:m7.1=⟨kindD dk,ls,da.map fun a=>P a.toNat,0,0,K,el⟩) (e:m7.2=⟨.slice Ax ns cx,.slice AA al ac,ev⟩) (i:w7.heap[nb]?=some (.cells #[.int .i64 (kindD dk:Nat),.slice Ax ns cx,.slice AA al ac,.int .i64 0,.int .i64 0,.int .i64 (K:Nat),ev] 77 (0,0)))
  (j:Own w7 B6 3 AA ac ((da.map fun x=>P x.toNat).map VNt)) (k:Own w7 w5.heap.size 3 Ax cx (ls.map VI)) (l:ns=ls.length) (p:al=da.length) (y:ns≤1000000) (z:al≤1000000) (q:B≤w5.heap.size) (r:B≤B6)
  (h:el.length≤1000000∧∃ A c,ev=.slice A el.length c∧Own w7 B 39 A c (el.map U)):
  w7.heap[nb]?=some (.cells (ndC m7).toArray 77 (0,0))∧NdV w7 B m7:=by
 obtain ⟨n,v⟩:=m7;dsimp only at b e;subst b e;refine ⟨i,⟨by show ls.length≤_;omega,by show (da.map fun a=>P a.toNat).length≤_;rw [Kak];omega,h.1,⟨Ax,cx,by rw [l],k.more q⟩,⟨AA,ac,?_,j.more r⟩,h.2⟩⟩
 show Value.slice AA al ac=.slice AA (da.map fun a=>P a.toNat).length ac
 rw [Kak,p]
theorem node_else (b:w7=wr) (a:m7=(nodeD ⟨dk,dn,du,da,dp⟩ ls P,⟨.slice Ax ns cx,.slice AA al ac,.slice none 0 0⟩)) (c:wr.heap[nb]?=some (.cells #[.int .i64 (kindD dk:Nat),.slice Ax ns cx,.slice AA al ac,.int .i64 0,.int .i64 0,.int .i64 0,.slice none 0 0] 77 (0,0)))
  (e:Own wr B6 3 AA ac ((da.map fun x=>P x.toNat).map VNt)) (h:Own wr w5.heap.size 3 Ax cx (ls.map VI)) (i:ns=ls.length) (j:al=da.length) (k1:dk≠1) (k:dk≠9) (l:ns≤1000000) (n:al≤1000000) (p:Below w5.heap.size w5 wr) (q:B≤w5.heap.size) (r:B≤B6):
  w7.heap[nb]?=some (.cells (ndC m7).toArray 77 (0,0))∧NdV w7 B m7∧Below w5.heap.size w5 w7∧m7.2.sv=.slice Ax ns cx∧m7.2.av=.slice AA al ac:=by
 subst b;obtain ⟨v,y⟩:=node_shape (m7:=m7) (dk:=dk) (P:=P) (K:=0) (ev:=.slice none 0 0) (el:=[]) (by rw [a];unfold nodeD;rw [if_neg k,if_neg k1]) (by rw [a]) c e h i j l n q r ⟨by simp,none,0,rfl,Own.nil _ _ _⟩
 exact ⟨v,y,p,by rw [a],by rw [a]⟩
theorem node_nine (b:w7=wr.setCell ⟨nb,5,none⟩ (.int .i64 (du:Int))) (a:m7=(nodeD ⟨dk,dn,du,da,dp⟩ ls P,⟨.slice Ax ns cx,.slice AA al ac,.slice none 0 0⟩)) (c:wr.heap[nb]?=some (.cells #[.int .i64 (kindD dk:Nat),.slice Ax ns cx,.slice AA al ac,.int .i64 0,.int .i64 0,.int .i64 0,.slice none 0 0] 77 (0,0)))
  (h:Own wr B6 3 AA ac ((da.map fun x=>P x.toNat).map VNt)) (i:Own wr w5.heap.size 3 Ax cx (ls.map VI)) (j:ns=ls.length) (k:al=da.length) (l:dk=9) (n:ns≤1000000) (p:al≤1000000) (q:Below w5.heap.size w5 wr) (r:w5.heap.size≤nb) (v:B≤w5.heap.size) (y:B≤B6):
  w7.heap[nb]?=some (.cells (ndC m7).toArray 77 (0,0))∧NdV w7 B m7∧Below w5.heap.size w5 w7∧m7.2.sv=.slice Ax ns cx∧m7.2.av=.slice AA al ac:=by
 have e:KIW wr w7:=by rw [b];exact KIW.set c (by decide) (by decide) _
 obtain ⟨z,A⟩:=node_shape (m7:=m7) (dk:=dk) (P:=P) (K:=du) (ev:=.slice none 0 0) (el:=[]) (by rw [a];unfold nodeD;rw [if_pos l,if_neg (by show ¬ dk=1;omega)]) (by rw [a]) (by rw [b];exact heap_setCell_same _ _ _ _ _ _ c) (own_kiw h (.inl rfl) e) (own_kiw i (.inl rfl) e) j k n p v y ⟨by simp,none,0,rfl,Own.nil _ _ _⟩
 exact ⟨z,A,by rw [b];exact Zaf q r _,by rw [a],by rw [a]⟩
theorem node_one (c:w7=(wr.alloc (.cells #[.int .u64 (du:Int)] 39)).setCell ⟨nb,6,none⟩ (.slice (some ⟨wr.heap.size,0,none⟩) 1 1)) (a:m7=(nodeD ⟨dk,dn,du,da,dp⟩ ls P,⟨.slice Ax ns cx,.slice AA al ac,.slice (some ⟨wr.heap.size,0,none⟩) 1 1⟩)) (h:wr.heap[nb]?=some (.cells #[.int .i64 (kindD dk:Nat),.slice Ax ns cx,.slice AA al ac,.int .i64 0,.int .i64 0,.int .i64 0,.slice none 0 0] 77 (0,0)))
  (k:Own wr B6 3 AA ac ((da.map fun x=>P x.toNat).map VNt)) (l:Own wr w5.heap.size 3 Ax cx (ls.map VI)) (n:ns=ls.length) (p:al=da.length) (k1:dk=1) (H:du≤18446744073709551615) (q:ns≤1000000) (r:al≤1000000) (v:Below w5.heap.size w5 wr) (y:w5.heap.size≤nb) (z:B≤w5.heap.size) (A:B6≤wr.heap.size) (i:B≤B6):
  w7.heap[nb]?=some (.cells (ndC m7).toArray 77 (0,0))∧NdV w7 B m7∧Below w5.heap.size w5 w7∧m7.2.sv=.slice Ax ns cx∧m7.2.av=.slice AA al ac:=by
 have b:=alloc_below wr (.cells #[.int .u64 (du:Int)] 39);have j:=(b.block _ (Kab.1 h).1).trans h;have e:KIW (wr.alloc (.cells #[.int .u64 (du:Int)] 39)) w7:=by rw [c];exact KIW.set j (by decide) (by decide) _
 have C:U (UInt64.ofNat du)=.int .u64 (du:Int):=by
  show Value.int .u64 ((UInt64.ofNat du).toNat:Int)=_
  rw [UInt64.toNat_ofNat_of_lt' (by simp only [UInt64.size];omega)]
 have D:Own (wr.alloc (.cells #[.int .u64 (du:Int)] 39)) B 39 (some ⟨wr.heap.size,0,none⟩) 1 ([UInt64.ofNat du].map U):=by
  rw [List.map_cons,C];exact Own.full wr 39 [.int .u64 (du:Int)] (Kah i A) (by simp [maxLen])
 obtain ⟨E,F⟩:=node_shape (m7:=m7) (dk:=dk) (P:=P) (K:=0) (ev:=.slice (some ⟨wr.heap.size,0,none⟩) 1 1) (el:=[UInt64.ofNat du]) (by rw [a];unfold nodeD;rw [if_neg (by show ¬ dk=9;omega),if_pos k1]) (by rw [a]) (by rw [c];exact heap_setCell_same _ _ _ _ _ _ j) (own_kiw (k.next b) (.inl rfl) e) (own_kiw (l.next b) (.inl rfl) e) n p q r z i ⟨by simp,_,1,rfl,own_kiw D (.inr rfl) e⟩
 exact ⟨E,F,by rw [c];exact Zaf (bnext v b) y _,by rw [a],by rw [a]⟩
end
theorem node_cells7 {w:World} {g:Nat} {m:ND × NV} (h:w.heap[g]?=some (.cells (ndC m).toArray 77 (0,0))):w.cell? ⟨g,0,none⟩=some (.int .i64 m.1.kind)∧w.cell? ⟨g,1,none⟩=some m.2.sv∧w.cell? ⟨g,2,none⟩=some m.2.av∧w.cell? ⟨g,3,none⟩=some (.int .i64 m.1.party)∧w.cell? ⟨g,4,none⟩=some (.int .i64 m.1.input)∧w.cell? ⟨g,5,none⟩=some (.int .i64 m.1.k)∧w.cell? ⟨g,6,none⟩=some m.2.ev:=
 ⟨cells_node h 0 _ rfl,cells_node h 1 _ rfl,cells_node h 2 _ rfl,cells_node h 3 _ rfl,cells_node h 4 _ rfl,cells_node h 5 _ rfl,cells_node h 6 _ rfl⟩
theorem nd_not {m7:ND × NV} {Ax AA:Option Addr} {ns cx al ac gp:Nat} (a:m7.2.sv=.slice Ax ns cx) (c:m7.2.av=.slice AA al ac) (i:∀ q,blk Ax=some q→gp<q) (j:∀ q,blk AA=some q→gp<q):∀ b∈ndB m7,∀ k,b=some k→gp<k:=by
 intro b l k e
 have:b=blk Ax∨b=blk AA:=by simpa [ndB,a,c,Za4] using l
 rcases this with h | h
 ·exact i k (h.symm.trans e)
 ·exact j k (h.symm.trans e)
theorem let_fin {w2 w5 w7 c:World} {B cb g:Nat} {f s d:Bool} {v:Option Addr} {x:Nat} {q j:List (ND × NV)} {m7:ND × NV} {OA:Option Addr} {oc:Nat} {outs:List Nat} {I0 I1:Option Addr} {m0 k0 m1 k1:Nat} {names:PlacesD} {gi gp n i p:Nat} {y:Nat→Value} {P:Nat→Nat}
  (H:DgSt c B cb g f s d v x j OA oc outs I0 I1 m0 k0 m1 k1 names) (r:KD w7 c) (I:Below B w7 c) (z:∀ b∈j.flatMap ndB,b∈q.flatMap ndB∨b∈ndB m7∨b=none) {X:Nat} (J:∀ b∈q.flatMap ndB,∀ k,b=some k→X≤k) (W:X≤gp) (A:∀ b∈(blk OA::q.flatMap ndB),b≠some gp) (C:Below w5.heap.size w5 w7) (L:KD w2 w5) (M:Below B w2 w5) (N:B≤w5.heap.size)
  (O:w2.heap.size≤gp) (Q:B≤gp) (D:∀ b∈ndB m7,∀ k,b=some k→gp<k) (R:gi≠gp) (S:i<n) (T:MkB w7 3 gi n y) (V:MkB w7 3 gp n (fun a=>VNt (P a))):
  DgSt (c.setCell ⟨gp,i,none⟩ (.int .i64 (p:Int))) B cb g f s d v x j OA oc outs I0 I1 m0 k0 m1 k1 names∧MkB (c.setCell ⟨gp,i,none⟩ (.int .i64 (p:Int))) 3 gi n y∧MkB (c.setCell ⟨gp,i,none⟩ (.int .i64 (p:Int))) 3 gp n (fun a=>VNt (updD P i p a))∧((∀ b∈(blk OA::j.flatMap ndB),b≠some gp)∧∀ b∈j.flatMap ndB,∀ k,b=some k→X≤k)∧KD w2 (c.setCell ⟨gp,i,none⟩ (.int .i64 (p:Int)))∧Below B w2 (c.setCell ⟨gp,i,none⟩ (.int .i64 (p:Int))):=by
 have E:∀ b∈(blk OA::j.flatMap ndB),b≠some gp:=fun b l=>by
  rcases List.mem_cons.1 l with rfl | l
  ·exact A _ (List.mem_cons_self ..)
  ·rcases z b l with h | h | h
   ·exact A b (List.mem_cons_of_mem _ h)
   ·intro e
    have:=D b h gp e;omega
   ·rw [h];simp
 have F:=V.kd r;refine ⟨H.setInt F E _,?_,F.set S _ _ (fun a=>by unfold updD;split <;> rfl),⟨E,fun b l k e => ?_⟩,((L.trans (KD.of C)).trans r).setNew O _,setCell_below' ((M.trans (C.mono N)).trans I) Q _⟩
 ·exact (ZaS _ _ _ R).trans (T.kd r)
 ·rcases z b l with h | h | h
  ·exact J b h k e
  ·have:=D b h k e;omega
  ·rw [h] at e;cases e
def LetRel (w2 wr:World) (B cb g:Nat) (f s d:Bool) (OA:Option Addr) (oc:Nat) (outs:List Nat) (I0 I1:Option Addr) (m0 k0 m1 k1:Nat) (names:PlacesD) (gi gp n:Nat) (m:Nat→Bool) (r:List ND × (Nat→Nat)) (X:Nat):Prop:=
 ∃ NA nc ms,ms.map Prod.fst=r.1∧DgSt wr B cb g f s d NA nc ms OA oc outs I0 I1 m0 k0 m1 k1 names∧MkB wr 3 gi n (fun a=>bI (m a))∧MkB wr 3 gp n (fun a=>VNt (r.2 a))∧((∀ b∈(blk OA::ms.flatMap ndB),b≠some gp)∧∀ b∈ms.flatMap ndB,∀ k,b=some k→X≤k)∧KD w2 wr∧Below B w2 wr
theorem let_any (in0 in1:List (List Int)) (B cb g:Nat) (f s d:Bool) (NA:Option Addr) (nc:Nat) (ms:List (ND × NV)) (OA:Option Addr) (oc:Nat) (outs:List Nat) (I0 I1:Option Addr) (m0 k0 m1 k1:Nat) (names:PlacesD) (w:World)
  (SV:Value) (o7 v9:Option Addr) (Z ec:Nat) (es:List EI) (sh:List (List Int)) (x2:Names) (root:Nat) (o9:DgSt w B cb g f s d NA nc ms OA oc outs I0 I1 m0 k0 m1 k1 names) (x3:SV.oneCell'=true)
  (r3:Z=es.length) (I5:Z≤100000) (x4:RdEI w B o7 es) (x5:∀ e∈es,e.num≤18446744073709551615) (x6:ShB w B v9 sh) (x7:sh.length=Z) (d7:exsOk 0 es=true) (r4:Ahead es) (p0:LetOk es x2 sh root) (r5:WfD in0 in1 (ms.map Prod.fst)) (r6:NamesD (ms.map Prod.fst) names x2) (x8:∀ W,Below B w W→ETyped W) (D7:ms.length+Z≤1000) (X:Nat) (x9:X≤w.heap.size) (y0:∀ b∈ms.flatMap ndB,∀ k,b=some k→X≤k):
  Calls Tryz.prog 65 #[.pointer (some ⟨cb,0,none⟩),.agg #[SV,.slice o7 Z ec],.int .i64 root,.slice v9 Z Z] w fun e w'=>∃ NA' nc' ms',ms'.map Prod.fst=(letD f s es sh names (Zac es root) (ms.map Prod.fst) (root+1)).1∧e=.returned (.int .i64 ((letD f s es sh names (Zac es root) (ms.map Prod.fst) (root+1)).2 root:Nat))∧DgSt w' B cb g f s d NA' nc' ms' OA oc outs I0 I1 m0 k0 m1 k1 names∧KD w w'∧Below B w w'∧∀ b∈ms'.flatMap ndB,∀ k,b=some k→X≤k:=by
 have k2:B≤w.heap.size:=Kah o9.b1 (Nat.le_of_lt o9.lt);obtain ⟨w2,p1⟩:=Ky (w.alloc (.cells #[SV,.slice o7 Z ec] 26));have g3:=Kv p1;have l0:=Kw p1;obtain ⟨D8,r7⟩:=Ky w.heap.size;obtain ⟨O,l1⟩:=Ky w2.heap.size;rw [←r7] at l0;obtain ⟨W0,p2⟩:=Ky (w2.alloc (.cells ((List.range (root+1)).map fun _=>bI false).toArray 3))
 have p3:MkB W0 3 O (root+1) (fun _=>bI false):=by rw [p2,l1];exact Kac w2 _
 have y1:=Kv p2;have I6:root<Z:=by rw [r3];exact p0.1
 have p4:=Kz r3;have r8:=Kz (x4.below (g3.mono k2));have l2:=Kz d7;have y2:=Kz p3;have y3:=Kz y1;have D9:=Kz r7;have I7:=Kz l1;have y4:=Kz (show w2.heap.size≤O from Nat.le_of_eq l1.symm)
 have E0:=Kz (fun W (a7:Below w2.heap.size w2 W)=>(show W.cell? ⟨D8,1,none⟩=some (.slice o7 Z ec) from Kaa 1 ((a7.block _ (Kab.1 l0).1).trans l0)))
 have y5:=Kz g3;have y6:=Kz (o9.next g3);have E1:=Kz k2;have E2:=Kz (show X≤w2.heap.size from Kah x9 g3.size)
 have E3:=Kz y0;have f8:=Kz (show B≤w2.heap.size from Kah k2 g3.size)
 have E4:=Kz p1;have r9:=Kz (fun W (a7:Below B w2 W)=>x8 W ((g3.mono k2).trans a7))
 have E5:=Kz (x6.below (g3.mono k2));have E6:=Kz x7;have y8:=Kz r4;have y9:=Kz p0;have I8:=Kz r5;have I9:=Kz r6;have E7:=Kz x5;have E8:=Kz (show ms.length+Z≤1000 from D7)
 have J0:=Kz x3;have E9:=Kz l0;have F0:=Kz (letD_res (Q:=fun _=>True) (l:=ms.map Prod.fst) (names:=names) f s d7 r4 p0 r5 r6 (fun _ _ _ _ _=>trivial) trivial)
 have F1:W0.frozen? ⟨O,root,none⟩=false:=p3.free root;have F2:(0:Int)≤(root:Int):=by omega
 have F3:(root:Int)<((root+1:Nat):Int):=by omega
 have F4:=p3.cell (i:=root) (by omega)
 have F5:(Instr.makeSlice 41 (.int .i64 ((root:Int)+1)) (.int .i64 ((root:Int)+1))).run Tryz.prog w2=.ok (.slice (some ⟨O,0,none⟩) (root+1) (root+1)) W0:=by
  rw [p2,l1];exact Zfw (root+1) (by omega) w2 ((root:Int)+1) (by simp)
 clear p2 p3 y1 r3 x4 d7 p1 r7 l1 o9 g3 l0 k2 x8 x6 x7 r4 p0 r5 r6 x5 x3 x9 y0
 go_enter Tryz.func65,Tryz.ntmps65
 go_upto_region 1 with fail
 rw [←E4.o,←D9.o]
 go_upto_region 3 with fail
 have z0:=Kz (y2.o.set (i:=root) (by omega) (.int .i64 1) (fun a=>bI (a==root)) (fun a=>by
  by_cases h:a=root
  ·subst h;simp [bI]
  ·simp [bI,h]))
 have z3:=Kz (Zaf (k:=root) y3.o y4.o (.int .i64 1));clear F1 F4 F5 y2 y3 F2 F3
 go_wp2_with fail
 go_loopw [10] (fun h9 wr=>(∃ (i3:Nat) (m:Nat→Bool),i3≤root+1∧h9=.int .i64 ((i3:Int)-1)∧Zac es root=markP es root i3 m∧MkB wr 3 O (root+1) (fun a=>bI (m a)))∧Below w2.heap.size w2 wr) (fun h9 _=>(intOf h9+1).toNat)
 case atStart=>exact ⟨⟨root+1,fun a=>a==root,Kag _,(by rw [show ((root+1:Nat):Int)-1=(root:Int) by omega]),rfl,z0.o⟩,z3.o⟩
 case round=>
  clear z0 z3;obtain ⟨⟨i3,m,s1,rfl,z4,l3⟩,i5⟩:=hrel;have k3:=Kz z4;have b0:=Kz l3;have a8:=Kz i5;clear z4 l3 i5
  match i3,s1,k3 with
  | 0,s1,k3=>
   rw [show (((0:Nat):Int)-1) = -1 by omega]
   have b0:=Kz (show MkB wr 3 O (root+1) (fun a=>bI (Zac es root a)) from by rw [k3.o];exact b0.o)
   clear k3;obtain ⟨E,l4⟩:=Ky wr.heap.size;obtain ⟨W1,l5⟩:=Ky (wr.alloc (.cells ((List.range (root+1)).map fun _=>bI false).toArray 3))
   have F6:(Instr.makeSlice 41 (.int .i64 ((root:Int)+1)) (.int .i64 ((root:Int)+1))).run Tryz.prog wr=.ok (.slice (some ⟨E,0,none⟩) (root+1) (root+1)) W1:=by
    rw [l5,l4];exact Zfw (root+1) (by omega) wr ((root:Int)+1) (by simp)
   have l6:=Kv l5;obtain ⟨j,z5⟩:∃ F:Nat→List ND × (Nat→Nat),F=fun i=>letD f s es sh names (Zac es root) (ms.map Prod.fst) i:=⟨_,rfl⟩
   have b7:=Kz (show ∀ i,j i=letD f s es sh names (Zac es root) (ms.map Prod.fst) i from fun i=>by rw [z5])
   have i6:=Kz (show w2.heap.size≤E from by rw [l4];exact a8.o.size)
   have p5:=Kz (show O≠E from by have:=b0.o.lt;omega)
   have z6:=Kz (show LetRel w2 W1 B cb g f s d OA oc outs I0 I1 m0 k0 m1 k1 names O E (root+1) (Zac es root) (j 0) X from ⟨NA,nc,ms,by rw [b7.o];rfl,y6.o.next (bnext a8.o l6),b0.o.next l6,by
    rw [b7.o]
    show W1.heap[E]?=_
    rw [l5,l4];refine (Kac wr _).trans ?_;rw [mkb_vnt];rfl,⟨fun b i5 e=>by have:=y6.o.blocks b i5 E e;have:=i6.o;omega,E3.o⟩,KD.of (bnext a8.o l6),(bnext a8.o l6).mono f8.o⟩)
   have s2:=Kz (Kah E2.o i6.o);have p6:=Kz (Kah f8.o i6.o);have J1:=Kz (show E<W1.heap.size from by rw [l5,l4];simp)
   clear l4 l5 l6 z5 b0
   go_upto_region 12 with fail
   clear F6 a8
   go_wp2_with fail
   go_loopw [57] (fun h9 wr=>∃ i:Nat,i≤root+1∧h9=.int .i64 i∧LetRel w2 wr B cb g f s d OA oc outs I0 I1 m0 k0 m1 k1 names O E (root+1) (Zac es root) (j i) X) (fun h9 _=>root+1-(intOf h9).toNat)
   case atStart=>exact ⟨0,by omega,rfl,z6.o⟩
   case round=>
   clear z6;obtain ⟨i,J2,rfl,i7,i8,e9,z7,z8,z9,A0,A1,hK,A4⟩:=hrel;have M:=Kz z7;have l7:=Kz z8;have A5:=Kz z9;have p7:=Kz A0;have f0:=Kz A1;have k4:=Kz hK;have d8:=Kz A4;clear z7 z8 z9 A0 A1 hK A4
   by_cases J3:i<root+1
   ·have V:es[i]?=some (es[i]'(by rw [←p4.o];omega)):=Kad _
    obtain ⟨e0,A6⟩:=Ky (es[i]'(by rw [←p4.o];omega))
    rw [←A6] at V;obtain ⟨b,o,rfl,s3,c0,c1,c2,⟨l8,s4,c3,k5,l9,A7,J4⟩,c4⟩:=(r8.o.below d8.o).at_ V;obtain ⟨dk,dn,du,da,dp⟩:=e0;have b3:=Kz V;dsimp only at c0 c1 c2 c3 k5 l9 A7 c4;obtain ⟨al,i9⟩:=Ky da.length;rw [←i9] at c3 l9 A7;have b8:=Kz i9;have z1:=Kaa 1 (k4.o.2 _ _ E9.o ⟨by decide,by decide⟩)
    have d9:=A5.o.cell (i:=i) (by omega)
    have i0:(0:Int)≤(i:Int):=by omega
    have i1:(i:Int)<(Z:Int):=by omega
    have i2:(i:Int)<((root+1:Nat):Int):=by omega
    obtain ⟨w5,m2⟩:=Ky (wr.alloc (.cells #[.int .i64 dk,.string dn,.int .u64 (du:Int),.slice l8 al s4,.int .i64 dp] 90));obtain ⟨e1,p8⟩:=Ky wr.heap.size;have f1:=Kv m2;have k6:=Kz (Kx m2 p8);have m3:=Kz (show e1<w5.heap.size from by rw [m2,p8];simp)
    have j2:=Kz (l7.o.next f1);have k7:=Kz (A5.o.next f1);have f9:=Kz (p7.o.next f1);have m4:=Kz (k4.o.trans (KD.of f1));have f2:=Kz (show Below B w2 w5 from d8.o.trans (f1.mono (Kah f8.o k4.o.1)))
    have R:=Kz (show B≤w5.heap.size from Kah (Kah f8.o k4.o.1) f1.size)
    have F7:=Kz (show e1≠E from by have:=p7.o.lt;omega)
    have k8:=Kz (show E<wr.heap.size from p7.o.lt)
    have F8:=Kz (show Rd w5 B l8 (da.map VI) from k5.below (f1.mono (Kah f8.o k4.o.1)))
    have b9:=Kz (show wr.heap.size≤w5.heap.size from f1.size)
    have F9:=Kz m2;have G0:=Kz p8;have J5:=Kz f1;clear V A6 i9 m2 p8 f1 k5;clear d9
    go_upto_region 16 with fail
    rw [←F9.o,←G0.o];have d9:=k7.o.cell (i:=i) (by omega)
    have e0:=Kaa 0 k6.o;clear c0 c1 c2 c3 c4 z1
    cases hmi:Zac es root i with
    | false=>
     rw [hmi] at d9;simp only [bI,Bool.false_eq_true,if_false] at d9;have b4:=Kz (show j (i+1)=j i from by rw [b7.o,b7.o];exact letD_skip hmi)
     clear hmi
     go_wp2_with fail
     exact ⟨⟨i+1,by omega,rfl,i7,i8,e9,by rw [b4.o];exact M.o,j2.o,k7.o,by rw [b4.o];exact f9.o,f0.o,m4.o,f2.o⟩,by simp [intOf];omega⟩
    | true=>
    rw [hmi] at d9;simp only [bI,if_true] at d9;have p9:=Kz hmi;clear hmi
    by_cases h2:dk=2
    ·have q2:(dk==2)=true:=by rw [h2];rfl
     have b4:=Kz (show j (i+1)=((j i).1,updD (j i).2 i (placeD names dn)) from by rw [b7.o,b7.o];exact letD_name p9.o b3.o h2)
     clear h2;have y7:=(j2.o.next (Kai _ _).drew).cells.2.2.2.2.2.2.2.1;have A9:=(((Kai w5.heap.size w5).drew.cell (p:=⟨e1,1,none⟩) m3.o).trans (Kaa 1 k6.o))
     go_upto_region 18 with fail
     refine wp_region_held_drew (S:=(fun w'=>w'.cell? ⟨cb,7,none⟩=some (.map (some g))∧w'.cell? ⟨e1,1,none⟩=some (.string dn))) (by kernel_rfl) ⟨y7,A9⟩ (fun p => ?_)
     obtain ⟨H,Y⟩:=Ky w5.drew;rw [←Y] at p ⊢;have N:=Kz (show Below w5.heap.size w5 H from by rw [Y];exact (Kai _ _).drew)
     clear Y y7 A9;refine tk 0 ?_;simp only [tkS];refine tk 1 ?_;simp only [tkS];refine tk 2 ?_;simp only [tkS];refine tk 3 ?_;simp only [tkS];refine tk 4 ?_;simp only [tkS];refine tk 5 ?_;simp only [tkS];refine tk 6 ?_;simp only [tkS];refine tk 7 ?_;simp only [tkS];have g5:=run_pl_lookup (j2.o.next N.o).hn dn;refine Kr 8 fun K hK=>?_
     go_simp;clear g5;refine hK.out _ _ p (fun p => ?_)
     clear hK K
     try simp only [tkS]
     have T:=f9.o.next N.o;have q0:=T.cell (i:=i) (by omega)
     have q3:=T.free i;have i0:(0:Int)≤(i:Int):=by omega
     have i1:(i:Int)<((root+1:Nat):Int):=by omega
     refine tk 9 ?_;simp only [tkS];refine Kr 10 fun K hK=>?_
     go_simp;obtain ⟨w6,v⟩:=Ky (H.setCell ⟨E,i,none⟩ (.int .i64 (placeD names dn:Nat)));rw [←v];have B0:=Kz (show DgSt w6 B cb g f s d i7 i8 e9 OA oc outs I0 I1 m0 k0 m1 k1 names from by rw [v];exact (j2.o.next N.o).setInt T f0.o.1 _)
     have G1:=Kz (show MkB w6 3 E (root+1) (fun a=>VNt ((j (i+1)).2 a)) from by rw [v];exact T.set (by omega) _ _ (fun a=>by rw [b4.o];unfold updD;dsimp only;split <;> rfl))
     have G2:=Kz (show MkB w6 3 O (root+1) (fun a=>bI (Zac es root a)) from by rw [v];exact (ZaS _ _ _ p5.o).trans (k7.o.next N.o))
     have G3:=Kz (show KD w2 w6 from by rw [v];exact (m4.o.trans (KD.of N.o)).setNew i6.o _)
     have s5:=Kz (show Below B w2 w6 from by rw [v];exact setCell_below' (f2.o.trans (N.o.mono R.o)) p6.o _)
     have G4:=Kz (show w6.heap[e1]?=some (.cells #[.int .i64 dk,.string dn,.int .u64 (du:Int),.slice l8 al s4,.int .i64 dp] 90 (0,0)) from by rw [v];exact (ZaS _ _ _ F7.o).trans ((N.o.block e1 m3.o).trans k6.o))
     clear v T q0 q3 i0 i1;refine hK.out _ _ ⟨B0.o.cells.2.2.2.2.2.2.2.1,Kaa 1 G4.o⟩ (fun p => ?_)
     clear hK K
     try simp only [tkS]
     refine Kq ?_
     go_wp2_with fail
     exact ⟨⟨i+1,by omega,rfl,i7,i8,e9,by rw [b4.o];exact M.o,B0.o,G2.o,G1.o,f0.o,G3.o,s5.o⟩,by simp [intOf];omega⟩
    ·have q2:(dk==2)=false:=by rw [Kaj];exact h2
     have G5:1≤dk∧dk≤14:=by
      have e4:=ZeT es 0 l2.o i _ b3.o;unfold exOk at e4;rw [Bool.and_eq_true,beq_iff_eq] at e4;have h:=e4.1;exact kind_range (k:=dk) (by rw [h];omega)
     have H2:=Kz h2;have G6:=Kz G5;have b4:=Kz (show j (i+1)=((madeD f s (j i).1 (nodeD ⟨dk,dn,du,da,dp⟩ (sh.getD i []) (j i).2)).1,updD (j i).2 i (madeD f s (j i).1 (nodeD ⟨dk,dn,du,da,dp⟩ (sh.getD i []) (j i).2)).2) from by rw [b7.o,b7.o];exact letD_node p9.o b3.o h2)
     have B1:=Kz (fun W=>kindOf_any dk (by omega) W)
     obtain ⟨ls,q4⟩:=Ky (sh.getD i []);have B2:sh[i]?=some ls:=by
      rw [q4,List.getD_eq_getElem?_getD,Kad (by rw [E6.o];omega)]
      rfl
     have G7:=Kz q4;rw [←q4] at b4;obtain ⟨c,rfl,B3,B4⟩:=E5.o;obtain ⟨s6,s7,s0,B5,q5⟩:=B4 i ls B2;obtain ⟨ns,q6⟩:=Ky ls.length;rw [←q6] at s0 q5;have s8:=Kz q6;have f4:=Kz (show ∀ W,Below w5.heap.size w5 W→W.cell? ⟨e1,0,none⟩=some (.int .i64 dk)∧W.cell? ⟨c,i,none⟩=some (.slice s6 ns s7) from fun W a7=>⟨Kaa 0 ((a7.block e1 m3.o).trans k6.o),((f2.o.trans (a7.mono R.o)).cell (p:=⟨c,i,none⟩) B3).trans s0⟩)
     have s9:=Kz (fun W (a7:Below w5.heap.size w5 W)=>ZdH s6 ns s7 ls W q6 (by omega) ((B5.below (f2.o.trans (a7.mono R.o))).more (Kah R.o a7.size)))
     have i4:(i:Int)<(Z:Int):=by omega
     clear q4 B2 B3 B4 s0 B5 q6
     go_upto_region 19 with fail
     go_cut [16] (fun g4 t0=>∃ nb Ax cx,g4=.pointer (some ⟨nb,0,none⟩)∧w5.heap.size≤nb∧t0.heap[nb]?=some (.cells #[.int .i64 (kindD dk:Nat),.slice Ax ns cx,.slice none 0 0,.int .i64 0,.int .i64 0,.int .i64 0,.slice none 0 0] 77 (0,0))∧Own t0 w5.heap.size 3 Ax cx (ls.map VI)∧Below w5.heap.size w5 t0)
     case first=>
      refine wp_region_held_drew (S:=(fun w'=>w'.cell? ⟨e1,0,none⟩=some (.int .i64 dk)∧w'.cell? ⟨c,i,none⟩=some (.slice s6 ns s7))) (by kernel_rfl) (f4.o _ (Kai _ _).drew) (fun p => ?_)
      obtain ⟨H,Y⟩:=Ky w5.drew;rw [←Y] at p ⊢;have N:=Kz (show Below w5.heap.size w5 H from by rw [Y];exact (Kai _ _).drew)
      clear Y;refine tk 0 ?_;simp only [tkS];refine tk 1 ?_;simp only [tkS];refine tk 3 ?_;simp only [tkS];refine tk 4 ?_;simp only [tkS];refine tk 5 ?_;simp only [tkS];refine tk 6 ?_;simp only [tkS];refine wpAnyH_ready (rs:=[2,9]) (by kernel_rfl) (by simp) ?_
      refine AllReadyH.cons (o:=_) rfl (fun K hK => ?_) (AllReadyH.cons (o:=_) rfl (fun K hK => ?_) (AllReadyH.nil))
      ·go_simp
       go_at_call 112
       refine (B1.o H).mono ?_
       rintro e w' ⟨rfl,rfl⟩
       refine hK.out _ _ p (fun p => ?_)
       clear hK K
       try simp only [tkS]
       refine wpAnyH_ready (rs:=[7,9]) (by kernel_rfl) (by simp) ?_
       refine AllReadyH.cons (o:=_) rfl (fun K hK => ?_) (AllReadyH.cons (o:=_) rfl (fun K hK => ?_) (AllReadyH.nil))
       ·go_simp
        go_at_call 55
        refine (s9.o H N.o).mono ?_
        rintro e B7 ⟨Ax,cx,rfl,g6,f5⟩
        have t1:=Kz (bnext N.o f5);have j3:=Kz (g6.more N.o.size);clear g6 f5;refine hK.out _ _ (f4.o _ t1.o) (fun p => ?_)
        clear hK K
        try simp only [tkS]
        refine tk 8 ?_;simp only [tkS];refine Kr 9 fun K hK=>?_
        ·go_simp;obtain ⟨f6,z⟩:=Ky (B7.alloc (.cells #[.int .i64 0,.slice none 0 0,.slice none 0 0,.int .i64 0,.int .i64 0,.int .i64 0,.slice none 0 0] 77));obtain ⟨nb,a9⟩:=Ky B7.heap.size;rw [←z,←a9];have y:=Kv z;have I:=Kz (bnext t1.o y);have n:=Kz (Kx z a9);have r:=Kz (show w5.heap.size≤nb from by rw [a9];exact t1.o.size)
         have j3:=Kz (j3.o.next y);clear z a9 y;refine hK.out _ _ (f4.o _ I.o) (fun p => ?_)
         clear hK K
         try simp only [tkS]
         have d0:=Kaa 0 n.o;have d1:=Kaa 1 n.o;have d2:=Kaa 2 n.o;have d3:=Kaa 3 n.o;have d4:=Kaa 4 n.o;have d5:=Kaa 5 n.o;have d6:=Kaa 6 n.o;have b5:∀ k,f6.frozen? ⟨nb,k,none⟩=false:=fun k=>by simp [World.frozen?,n.o]
         refine Kr 10 fun K hK=>?_
         go_simp;obtain ⟨w6,v⟩:=Ky ((((((((f6.setCell ⟨nb,0,none⟩ (.int .i64 (kindD dk:Nat))).setCell ⟨nb,1,none⟩ (.slice Ax ns cx)).setCell ⟨nb,2,none⟩ (.slice none 0 0)).setCell ⟨nb,3,none⟩ (.int .i64 0)).setCell ⟨nb,4,none⟩ (.int .i64 0)).setCell ⟨nb,5,none⟩ (.int .i64 0)).setCell ⟨nb,6,none⟩ (.slice none 0 0)));rw [←v];have j4:=Kz (show w6.heap[nb]?=some (.cells #[.int .i64 (kindD dk:Nat),.slice Ax ns cx,.slice none 0 0,.int .i64 0,.int .i64 0,.int .i64 0,.slice none 0 0] 77 (0,0)) from by rw [v];exact set7 n.o)
         have g7:∀ q,q≠nb→w6.heap[q]?=f6.heap[q]?:=fun q c=>by rw [v];rw [ZaS _ _ _ c,ZaS _ _ _ c,ZaS _ _ _ c,ZaS _ _ _ c,ZaS _ _ _ c,ZaS _ _ _ c,ZaS _ _ _ c]
         have m5:=Kz (Zf4 j3.o (w':=w6) fun q cur c=>g7 q fun e=>by rw [e,n.o] at c;injection c with c;injection c with _ c _;exact absurd c (by decide))
         have B6:=Kz (show Below w5.heap.size w5 w6 from by rw [v];exact Zaf (Zaf (Zaf (Zaf (Zaf (Zaf (Zaf I.o r.o _) r.o _) r.o _) r.o _) r.o _) r.o _) r.o _)
         clear v g7 d0 d1 d2 d3 d4 d5 d6 b5;refine hK.out _ _ (f4.o _ B6.o) (fun p => ?_)
         clear hK K
         try simp only [tkS]
         refine Kq ?_
         go_wp2_with fail
         go_meet;exact ⟨nb,Ax,cx,rfl,r.o,j4.o,m5.o,B6.o⟩
       ·go_simp;obtain ⟨f6,z⟩:=Ky (H.alloc (.cells #[.int .i64 0,.slice none 0 0,.slice none 0 0,.int .i64 0,.int .i64 0,.int .i64 0,.slice none 0 0] 77));obtain ⟨nb,a9⟩:=Ky H.heap.size;rw [←z,←a9];have y:=Kv z;have I:=Kz (bnext N.o y);have n:=Kz (Kx z a9);have r:=Kz (show w5.heap.size≤nb from by rw [a9];exact N.o.size)
        clear z a9 y;refine hK.out _ _ (f4.o _ I.o) (fun p => ?_)
        clear hK K
        try simp only [tkS]
        refine Kr 7 fun K hK=>?_
        ·go_simp
         go_at_call 55
         refine (s9.o f6 I.o).mono ?_
         rintro e j5 ⟨Ax,cx,rfl,g6,f5⟩
         have m6:=Kz (bnext I.o f5);have n:=Kz ((f5.block _ (Kab.1 n.o).1).trans n.o);have j3:=Kz (g6.more I.o.size);clear g6 f5;refine hK.out _ _ (f4.o _ m6.o) (fun p => ?_)
         clear hK K
         try simp only [tkS]
         refine tk 8 ?_;simp only [tkS];have d0:=Kaa 0 n.o;have d1:=Kaa 1 n.o;have d2:=Kaa 2 n.o;have d3:=Kaa 3 n.o;have d4:=Kaa 4 n.o;have d5:=Kaa 5 n.o;have d6:=Kaa 6 n.o;have b5:∀ k,j5.frozen? ⟨nb,k,none⟩=false:=fun k=>by simp [World.frozen?,n.o]
         refine Kr 10 fun K hK=>?_
         go_simp;obtain ⟨w6,v⟩:=Ky ((((((((j5.setCell ⟨nb,0,none⟩ (.int .i64 (kindD dk:Nat))).setCell ⟨nb,1,none⟩ (.slice Ax ns cx)).setCell ⟨nb,2,none⟩ (.slice none 0 0)).setCell ⟨nb,3,none⟩ (.int .i64 0)).setCell ⟨nb,4,none⟩ (.int .i64 0)).setCell ⟨nb,5,none⟩ (.int .i64 0)).setCell ⟨nb,6,none⟩ (.slice none 0 0)));rw [←v];have j4:=Kz (show w6.heap[nb]?=some (.cells #[.int .i64 (kindD dk:Nat),.slice Ax ns cx,.slice none 0 0,.int .i64 0,.int .i64 0,.int .i64 0,.slice none 0 0] 77 (0,0)) from by rw [v];exact set7 n.o)
         have g7:∀ q,q≠nb→w6.heap[q]?=j5.heap[q]?:=fun q c=>by rw [v];rw [ZaS _ _ _ c,ZaS _ _ _ c,ZaS _ _ _ c,ZaS _ _ _ c,ZaS _ _ _ c,ZaS _ _ _ c,ZaS _ _ _ c]
         have m5:=Kz (Zf4 j3.o (w':=w6) fun q cur c=>g7 q fun e=>by rw [e,n.o] at c;injection c with c;injection c with _ c _;exact absurd c (by decide))
         have B6:=Kz (show Below w5.heap.size w5 w6 from by rw [v];exact Zaf (Zaf (Zaf (Zaf (Zaf (Zaf (Zaf m6.o r.o _) r.o _) r.o _) r.o _) r.o _) r.o _) r.o _)
         clear v g7 d0 d1 d2 d3 d4 d5 d6 b5;refine hK.out _ _ (f4.o _ B6.o) (fun p => ?_)
         clear hK K
         try simp only [tkS]
         refine Kq ?_
         go_wp2_with fail
         go_meet;exact ⟨nb,Ax,cx,rfl,r.o,j4.o,m5.o,B6.o⟩
      ·go_simp;obtain ⟨f6,z⟩:=Ky (H.alloc (.cells #[.int .i64 0,.slice none 0 0,.slice none 0 0,.int .i64 0,.int .i64 0,.int .i64 0,.slice none 0 0] 77));obtain ⟨nb,a9⟩:=Ky H.heap.size;rw [←z,←a9];have y:=Kv z;have I:=Kz (bnext N.o y);have n:=Kz (Kx z a9);have r:=Kz (show w5.heap.size≤nb from by rw [a9];exact N.o.size)
       clear z a9 y;refine hK.out _ _ (f4.o _ I.o) (fun p => ?_)
       clear hK K
       try simp only [tkS]
       refine Kr 2 fun K hK=>?_
       ·go_simp
        go_at_call 112
        refine (B1.o f6).mono ?_
        rintro e w' ⟨rfl,rfl⟩
        refine hK.out _ _ p (fun p => ?_)
        clear hK K
        try simp only [tkS]
        refine Kr 7 fun K hK=>?_
        ·go_simp
         go_at_call 55
         refine (s9.o f6 I.o).mono ?_
         rintro e j5 ⟨Ax,cx,rfl,g6,f5⟩
         have m6:=Kz (bnext I.o f5);have n:=Kz ((f5.block _ (Kab.1 n.o).1).trans n.o);have j3:=Kz (g6.more I.o.size);clear g6 f5;refine hK.out _ _ (f4.o _ m6.o) (fun p => ?_)
         clear hK K
         try simp only [tkS]
         refine tk 8 ?_;simp only [tkS];have d0:=Kaa 0 n.o;have d1:=Kaa 1 n.o;have d2:=Kaa 2 n.o;have d3:=Kaa 3 n.o;have d4:=Kaa 4 n.o;have d5:=Kaa 5 n.o;have d6:=Kaa 6 n.o;have b5:∀ k,j5.frozen? ⟨nb,k,none⟩=false:=fun k=>by simp [World.frozen?,n.o]
         refine Kr 10 fun K hK=>?_
         go_simp;obtain ⟨w6,v⟩:=Ky ((((((((j5.setCell ⟨nb,0,none⟩ (.int .i64 (kindD dk:Nat))).setCell ⟨nb,1,none⟩ (.slice Ax ns cx)).setCell ⟨nb,2,none⟩ (.slice none 0 0)).setCell ⟨nb,3,none⟩ (.int .i64 0)).setCell ⟨nb,4,none⟩ (.int .i64 0)).setCell ⟨nb,5,none⟩ (.int .i64 0)).setCell ⟨nb,6,none⟩ (.slice none 0 0)));rw [←v];have j4:=Kz (show w6.heap[nb]?=some (.cells #[.int .i64 (kindD dk:Nat),.slice Ax ns cx,.slice none 0 0,.int .i64 0,.int .i64 0,.int .i64 0,.slice none 0 0] 77 (0,0)) from by rw [v];exact set7 n.o)
         have g7:∀ q,q≠nb→w6.heap[q]?=j5.heap[q]?:=fun q c=>by rw [v];rw [ZaS _ _ _ c,ZaS _ _ _ c,ZaS _ _ _ c,ZaS _ _ _ c,ZaS _ _ _ c,ZaS _ _ _ c,ZaS _ _ _ c]
         have m5:=Kz (Zf4 j3.o (w':=w6) fun q cur c=>g7 q fun e=>by rw [e,n.o] at c;injection c with c;injection c with _ c _;exact absurd c (by decide))
         have B6:=Kz (show Below w5.heap.size w5 w6 from by rw [v];exact Zaf (Zaf (Zaf (Zaf (Zaf (Zaf (Zaf m6.o r.o _) r.o _) r.o _) r.o _) r.o _) r.o _) r.o _)
         clear v g7 d0 d1 d2 d3 d4 d5 d6 b5;refine hK.out _ _ (f4.o _ B6.o) (fun p => ?_)
         clear hK K
         try simp only [tkS]
         refine Kq ?_
         go_wp2_with fail
         go_meet;exact ⟨nb,Ax,cx,rfl,r.o,j4.o,m5.o,B6.o⟩
     case rest=>
     obtain ⟨nb,Ax,cx,rfl,C0,q7,q8,m8⟩:=hcut;obtain ⟨w6,v⟩:=Ky wc;rw [←v] at q7 q8 m8 ⊢;have r:=Kz C0;have j4:=Kz q7;have G8:=Kz q8;have e5:=Kz m8.size;have C1:=Kz (show nb<w6.heap.size from (Kab.1 q7).1)
     have m9:=Kz (show ∀ q,blk Ax=some q→q<w6.heap.size from fun q c=>(q8.lt q c).2)
     have e3:=Kaa 3 ((m8.block e1 m3.o).trans k6.o);have s5:=Kz m8;clear v C0 q7 q8 m8 q2 e0 d9
     go_wp2_with fail
     clear e3;have J6:al≤3:=by
      have e4:=ZeT es 0 l2.o i _ b3.o;unfold exOk at e4;rw [Bool.and_eq_true,beq_iff_eq] at e4;have h:=e4.1;have h3:=made_le3 dk;dsimp only at h;rw [b8.o];omega
     go_loopw [95] (fun j6 n0=>∃ (k:Nat) (AA:Option Addr) (ac:Nat),k≤al∧j6=.int .i64 k∧n0.heap[nb]?=some (.cells #[.int .i64 (kindD dk:Nat),.slice Ax ns cx,.slice AA k ac,.int .i64 0,.int .i64 0,.int .i64 0,.slice none 0 0] 77 (0,0))∧Own n0 w6.heap.size 3 AA ac ((da.take k).map fun x=>VNt ((j i).2 x.toNat))∧Own n0 w5.heap.size 3 Ax cx (ls.map VI)∧w6.heap.size≤n0.heap.size∧Below w5.heap.size w5 n0) (fun j6 _=>al-(intOf j6).toNat)
     case atStart=>exact ⟨0,none,0,by omega,rfl,j4.o,Own.nil _ _ _,G8.o,Kag _,s5.o⟩
     case round=>
      obtain ⟨k,AA,ac,C,rfl,C2,C3,C4,C5,C6⟩:=hrel;have g0:=Kz C2;have g9:=Kz C3;have f7:=Kz C4;have C7:=Kz C5;have d8:=Kz C6;clear C2 C3 C4 C5 C6
      by_cases g5:k<al
      ·have n1:da[k]?=some (da[k]'(by rw [←b8.o];exact g5)):=Kad _
       obtain ⟨x,d7⟩:=Ky (da[k]'(by rw [←b8.o];exact g5))
       rw [←d7] at n1;obtain ⟨x0,x1⟩:=Zc0 l2.o b3.o n1;obtain ⟨a,rfl⟩:∃ a:Nat,x=(a:Int):=⟨x.toNat,by omega⟩
       obtain ⟨b2,o2,rfl,t2,d0⟩:=(F8.o.below (d8.o.mono R.o)).at_ (show (da.map VI)[k]?=some (VI (a:Int)) by rw [Kal,n1];rfl)
       unfold VI at d0;have j0:(0:Int)≤(k:Int):=by omega
       have j1:(k:Int)<(al:Int):=by omega
       have a0:(0:Int)≤(a:Int):=by omega
       have a1:(a:Int)<((root+1:Nat):Int):=by omega
       have a2:(a:Int)<(root:Int)+1:=by omega
       have C8:=Kz n1;have C9:=Kz (show k=((da.take k).map fun x=>VNt ((j i).2 x.toNat)).length from by rw [Kak,List.length_take,←b8.o];omega)
       have j7:=Kz (show ∀ W,Below w5.heap.size w5 W→W.cell? ⟨E,a,none⟩=some (.int .i64 ((j i).2 a:Nat)) from fun W a7=>(f9.o.next a7).cell (by omega))
       clear n1 d7 t2 x0 x1
       go_upto_region 23 with fail
       clear d0;refine wp_region_held_drew (S:=(fun w'=>w'.cell? ⟨E,a,none⟩=some (.int .i64 ((j i).2 a:Nat)))) (by kernel_rfl) (j7.o _ d8.o.drew) (fun p => ?_)
       obtain ⟨H,Y⟩:=Ky wr.drew;rw [←Y] at p ⊢;have N:=Kz (show Below w5.heap.size w5 H from by rw [Y];exact d8.o.drew)
       have c6:=Kz (show H.heap[nb]?=some (.cells #[.int .i64 (kindD dk:Nat),.slice Ax ns cx,.slice AA k ac,.int .i64 0,.int .i64 0,.int .i64 0,.slice none 0 0] 77 (0,0)) from by rw [Y];exact g0.o)
       have c7:=Kz (show Own H w6.heap.size 3 AA ac ((da.take k).map fun x=>VNt ((j i).2 x.toNat)) from by rw [Y];exact g9.o)
       have h0:=Kz (show Own H w5.heap.size 3 Ax cx (ls.map VI) from by rw [Y];exact f7.o)
       have h7:=Kz (show w6.heap.size≤H.heap.size from by rw [Y];exact C7.o)
       clear Y;refine tk 0 ?_;simp only [tkS];refine tk 2 ?_;simp only [tkS];refine tk 3 ?_;simp only [tkS];refine tk 4 ?_;simp only [tkS];refine tk 5 ?_;simp only [tkS];refine wpAnyH_ready (rs:=[1,6]) (by kernel_rfl) (by simp) ?_
       refine AllReadyH.cons (o:=_) rfl (fun K hK => ?_) (AllReadyH.cons (o:=_) rfl (fun K hK => ?_) (AllReadyH.nil))
       ·have z2:=Kaa 2 c6.o;go_simp;clear z2;refine hK.out _ _ p (fun p => ?_)
        clear hK K
        try simp only [tkS]
        refine Kr 6 fun K hK=>?_
        go_simp;obtain ⟨f6,z⟩:=Ky (H.alloc (.cells #[.int .i64 ((j i).2 a:Nat)] 3));obtain ⟨t3,j8⟩:=Ky H.heap.size;rw [←z,←j8];have y:=Kv z;have I:=Kz (bnext N.o y);have t4:=Kz (Kx z j8);have c6:=Kz ((y.block _ (Kab.1 c6.o).1).trans c6.o);have c7:=Kz (c7.o.next y);have h0:=Kz (h0.o.next y);have h7:=Kz (Kah h7.o y.size);clear z j8 y;refine hK.out _ _ (j7.o _ I.o) (fun p => ?_)
        clear hK K
        try simp only [tkS]
        refine Kr 7 fun K hK=>?_
        refine wp_app1 (.tmp 100) (.tmp 105) rfl w6.heap.size AA ac k ((da.take k).map fun x=>VNt ((j i).2 x.toNat)) C9.o rfl c7.o t3 rfl (.int .i64 ((j i).2 a:Nat)) t4.o rfl (by omega) h7.o ?_
        intro A8 c8 c9 o8 g8
        have B8:=Kz (Zal I.o g8 I.o.size (fun q c=>Kah e5.o (c7.o.lt q c).1))
        have g1:=Kz ((g8.block nb (Kab.1 c6.o).1 (fun e=>by have:=(c7.o.lt nb e.symm).1;have:=C1.o;omega)).trans c6.o)
        have t5:=Kz (own_at h0.o (w':=c9) fun q c=>g8.block q (h0.o.lt q c).2 (fun e=>by have:=(c7.o.lt q e.symm).1;have:=m9.o q c;omega))
        have t6:=Kz (Kah h7.o g8.size);refine hK.out _ _ (j7.o _ B8.o) (fun p => ?_)
        clear hK K
        try simp only [tkS]
        refine tk 8 ?_;simp only [tkS];have d2:=Kaa 2 g1.o;have b5:∀ k,c9.frozen? ⟨nb,k,none⟩=false:=fun k=>by simp [World.frozen?,g1.o]
        refine Kr 9 fun K hK=>?_
        go_simp;obtain ⟨g2,b6⟩:=Ky (c9.setCell ⟨nb,2,none⟩ (.slice A8 (k+1) c8));rw [←b6];have t7:=Kz (show g2.heap[nb]?=some (.cells #[.int .i64 (kindD dk:Nat),.slice Ax ns cx,.slice A8 (k+1) c8,.int .i64 0,.int .i64 0,.int .i64 0,.slice none 0 0] 77 (0,0)) from by rw [b6];exact heap_setCell_same _ _ _ _ _ _ g1.o)
        have j9:KIW c9 g2:=by rw [b6];exact KIW.set g1.o (by decide) (by decide) _
        have t8:=Kz (own_kiw o8 (.inl rfl) j9);have t9:=Kz (own_kiw t5.o (.inl rfl) j9);have B9:=Kz (show Below w5.heap.size w5 g2 from by rw [b6];exact Zaf B8.o r.o _)
        have v0:=Kz (show w6.heap.size≤g2.heap.size from by rw [b6];simpa [World.setCell] using t6.o)
        clear b6 j9 d2 b5 o8 g8;refine hK.out _ _ (j7.o _ B9.o) (fun p => ?_)
        clear hK K
        try simp only [tkS]
        refine Kq ?_
        go_wp2_with fail
        exact ⟨⟨k+1,A8,c8,by omega,rfl,t7.o,by rw [take_map_snoc C8.o];exact t8.o,t9.o,v0.o,B9.o⟩,by simp [intOf];omega⟩
       ·go_simp;obtain ⟨f6,z⟩:=Ky (H.alloc (.cells #[.int .i64 ((j i).2 a:Nat)] 3));obtain ⟨t3,j8⟩:=Ky H.heap.size;rw [←z,←j8];have y:=Kv z;have I:=Kz (bnext N.o y);have t4:=Kz (Kx z j8);have c6:=Kz ((y.block _ (Kab.1 c6.o).1).trans c6.o);have c7:=Kz (c7.o.next y);have h0:=Kz (h0.o.next y);have h7:=Kz (Kah h7.o y.size);clear z j8 y;refine hK.out _ _ (j7.o _ I.o) (fun p => ?_)
        clear hK K
        try simp only [tkS]
        refine Kr 1 fun K hK=>?_
        have z2:=Kaa 2 c6.o;go_simp;clear z2;refine hK.out _ _ p (fun p => ?_)
        clear hK K
        try simp only [tkS]
        refine Kr 7 fun K hK=>?_
        refine wp_app1 (.tmp 100) (.tmp 105) rfl w6.heap.size AA ac k ((da.take k).map fun x=>VNt ((j i).2 x.toNat)) C9.o rfl c7.o t3 rfl (.int .i64 ((j i).2 a:Nat)) t4.o rfl (by omega) h7.o ?_
        intro A8 c8 c9 o8 g8
        have B8:=Kz (Zal I.o g8 I.o.size (fun q c=>Kah e5.o (c7.o.lt q c).1))
        have g1:=Kz ((g8.block nb (Kab.1 c6.o).1 (fun e=>by have:=(c7.o.lt nb e.symm).1;have:=C1.o;omega)).trans c6.o)
        have t5:=Kz (own_at h0.o (w':=c9) fun q c=>g8.block q (h0.o.lt q c).2 (fun e=>by have:=(c7.o.lt q e.symm).1;have:=m9.o q c;omega))
        have t6:=Kz (Kah h7.o g8.size);refine hK.out _ _ (j7.o _ B8.o) (fun p => ?_)
        clear hK K
        try simp only [tkS]
        refine tk 8 ?_;simp only [tkS];have d2:=Kaa 2 g1.o;have b5:∀ k,c9.frozen? ⟨nb,k,none⟩=false:=fun k=>by simp [World.frozen?,g1.o]
        refine Kr 9 fun K hK=>?_
        go_simp;obtain ⟨g2,b6⟩:=Ky (c9.setCell ⟨nb,2,none⟩ (.slice A8 (k+1) c8));rw [←b6];have t7:=Kz (show g2.heap[nb]?=some (.cells #[.int .i64 (kindD dk:Nat),.slice Ax ns cx,.slice A8 (k+1) c8,.int .i64 0,.int .i64 0,.int .i64 0,.slice none 0 0] 77 (0,0)) from by rw [b6];exact heap_setCell_same _ _ _ _ _ _ g1.o)
        have j9:KIW c9 g2:=by rw [b6];exact KIW.set g1.o (by decide) (by decide) _
        have t8:=Kz (own_kiw o8 (.inl rfl) j9);have t9:=Kz (own_kiw t5.o (.inl rfl) j9);have B9:=Kz (show Below w5.heap.size w5 g2 from by rw [b6];exact Zaf B8.o r.o _)
        have v0:=Kz (show w6.heap.size≤g2.heap.size from by rw [b6];simpa [World.setCell] using t6.o)
        clear b6 j9 d2 b5 o8 g8;refine hK.out _ _ (j7.o _ B9.o) (fun p => ?_)
        clear hK K
        try simp only [tkS]
        refine Kq ?_
        go_wp2_with fail
        exact ⟨⟨k+1,A8,c8,by omega,rfl,t7.o,by rw [take_map_snoc C8.o];exact t8.o,t9.o,v0.o,B9.o⟩,by simp [intOf];omega⟩
      ·obtain rfl:al=k:=by omega
       have v1:=(d8.o.block e1 m3.o).trans k6.o;have e0:=Kaa 0 v1;have e2:=Kaa 2 v1;have n5:=Kaa 5 g0.o;have n6:=Kaa 6 g0.o;have b5:∀ k,wr.frozen? ⟨nb,k,none⟩=false:=fun k=>by simp [World.frozen?,g0.o]
       have D0:=Kz (show LetRes (fun _=>True) in0 in1 (ms.map Prod.fst) sh (Zac es root) i (j i) from by rw [b7.o];exact F0.o i)
       have v2:=Kz D0.o.wf;obtain ⟨G9,n2,v3⟩:=y9.o.2 i p9.o;have D1:G9=⟨dk,dn,du,da,dp⟩:=by rw [b3.o] at n2;injection n2 with n2;exact n2.symm
       rw [D1,←G7.o] at v3;have r0:=Kz (nodeD_ok (in0:=in0) (in1:=in1) (l:=(j i).1) (P:=(j i).2) v3 H2.o (by
        have e4:=ZeT es 0 l2.o i _ b3.o;unfold exOk at e4;rw [Bool.and_eq_true,beq_iff_eq] at e4;exact e4.1.symm) G6.o (fun a k9=>by
        have h3:=y8.o i _ b3.o a k9;exact D0.o.at_ a.toNat (by omega) (Zbi y8.o y9.o.1 i _ p9.o b3.o a k9)))
       have v4:=Kz (show (j i).1.length≤1000 from by
        have h:=letD_len f s es sh names (Zac es root) (ms.map Prod.fst) i;rw [←b7.o,Kak] at h;have:=E8.o;omega)
       have H0:=Kz (show (da.take al)=da from by rw [b8.o];exact List.take_length)
       have v5:=Kz (show Own wr w6.heap.size 3 AA ac ((da.map fun x=>(j i).2 x.toNat).map VNt) from by have h:=g9.o;rw [H0.o] at h;rw [List.map_map];exact h)
       clear n2 D1 v3 v1
       by_cases n4:dk=1
       ·have q1:(dk==1)=true:=by rw [n4];rfl
        have q9:(dk==9)=false:=by rw [n4];rfl
        have v6:=((alloc_below wr (.cells #[.int .u64 (du:Int)] 39)).block nb (Kab.1 g0.o).1).trans g0.o;have H3:=Kaa 6 v6;have H4:∀ k,(wr.alloc (.cells #[.int .u64 (du:Int)] 39)).frozen? ⟨nb,k,none⟩=false:=fun k=>by simp [World.frozen?,v6]
        clear v6
        go_upto_region 30 with fail
        obtain ⟨w7,e6⟩:=Ky ((wr.alloc (.cells #[.int .u64 (du:Int)] 39)).setCell ⟨nb,6,none⟩ (.slice (some ⟨wr.heap.size,0,none⟩) 1 1));rw [←e6];obtain ⟨m7,e7⟩:∃ x:ND × NV,x=(nodeD ⟨dk,dn,du,da,dp⟩ ls (j i).2,⟨.slice Ax ns cx,.slice AA al ac,.slice (some ⟨wr.heap.size,0,none⟩) 1 1⟩):=⟨_,rfl⟩;have e8:=Kz (show m7.1=nodeD ⟨dk,dn,du,da,dp⟩ ls (j i).2 from by rw [e7])
        have D:=Kz (node_one e6 e7 g0.o v5.o f7.o s8.o b8.o n4 (E7.o _ (Kam b3.o)) (by have:=q5;omega) (by omega) d8.o r.o R.o C7.o (Kah R.o e5.o))
        clear e0 e2 n5 n6 H3 b5 H4 q1 q9 e6 e7;have n7:=Kz D.o.1;have n8:=Kz D.o.2.1;have J:=Kz D.o.2.2.1;have n9:=Kz (apart_new (mid:=w6.heap.size) l7.o (fun k C=>by rw [D.o.2.2.2.1,Za4] at C;have:=(f7.o.lt k C).1;have:=m9.o k C;have:=b9.o;omega) (fun k C=>by rw [D.o.2.2.2.2,Za4] at C;exact (g9.o.lt k C).1) (Kah b9.o e5.o))
        have o0:=Kz (nd_not (gp:=E) D.o.2.2.2.1 D.o.2.2.2.2 (fun q c=>by have:=(f7.o.lt q c).1;have:=k8.o;have:=b9.o;omega) (fun q c=>by have:=(g9.o.lt q c).1;have:=k8.o;have:=b9.o;have:=e5.o;omega))
        have o1:=Kz (node_cells7 n7.o);obtain ⟨a0,a1,a2,a3,a4,a5,a6⟩:=o1.o;have h8:=Kz (dmade_any in0 in1 B cb g f s d i7 i8 e9 OA oc outs I0 I1 m0 k0 m1 k1 names m7 w7 (j2.o.next J.o) n8.o n9.o (by rw [M.o];exact v2.o) (by rw [M.o,e8.o];exact r0.o) (r9.o w7 (f2.o.trans (J.o.mono R.o))) (by have h:=congrArg List.length M.o;rw [Kak] at h;rw [h];exact v4.o))
        go_wp2_with fail
        refine h8.o.mono ?_
        rintro e c9 ⟨o3,o4,o5,h1,rfl,h3,h4,h5,h6⟩
        have T:=(f9.o.next J.o).kd h4;have q0:=T.cell (i:=i) (by omega)
        have q3:=T.free i;have i0:(0:Int)≤(i:Int):=by omega
        have i1:(i:Int)<((root+1:Nat):Int):=by omega
        have D2:(i:Int)<(root:Int)+1:=by omega
        have L:=Kz (let_fin (gi:=O) (P:=(j i).2) (p:=(madeD f s (e9.map Prod.fst) m7.1).2) (i:=i) h3 h4 h5 h6 f0.o.2 s2.o f0.o.1 (J.o) m4.o f2.o R.o i6.o p6.o o0.o p5.o (by omega) (k7.o.next J.o) (f9.o.next J.o))
        have H1:=Kz h1;clear h1 h3 h4 h5 h6 T a0 a1 a2 a3 a4 a5 a6 h8
        go_wp2_with fail
        exact ⟨⟨i+1,by omega,rfl,o3,o4,o5,by rw [H1.o,b4.o,←e8.o,M.o],L.o.1,L.o.2.1,mkb_fn L.o.2.2.1 (fun a k9=>by rw [b4.o,←e8.o,M.o]),L.o.2.2.2.1,L.o.2.2.2.2.1,L.o.2.2.2.2.2⟩,by simp [intOf];omega⟩
       ·have q1:(dk==1)=false:=by rw [Kaj];exact n4
        by_cases o6:dk=9
        ·have q9:(dk==9)=true:=by rw [o6];rfl
         have J7:du≤63:=by
          have h:=r0.o.k63;unfold nodeD at h;rw [if_pos o6] at h;exact h
         have H5:IntKind.i64.wrap (du:Int)=du:=by simp [IntKind.wrap,IntKind.bits,IntKind.signed];omega
         go_upto_region 30 with fail
         obtain ⟨w7,e6⟩:=Ky (wr.setCell ⟨nb,5,none⟩ (.int .i64 (du:Int)));rw [←e6];obtain ⟨m7,e7⟩:∃ x:ND × NV,x=(nodeD ⟨dk,dn,du,da,dp⟩ ls (j i).2,⟨.slice Ax ns cx,.slice AA al ac,.slice none 0 0⟩):=⟨_,rfl⟩;have e8:=Kz (show m7.1=nodeD ⟨dk,dn,du,da,dp⟩ ls (j i).2 from by rw [e7])
         have D:=Kz (node_nine e6 e7 g0.o v5.o f7.o s8.o b8.o o6 (by have:=q5;omega) (by omega) d8.o r.o R.o (Kah R.o e5.o))
         clear e0 e2 n5 n6 b5 q1 q9 e6 e7 H5;have n7:=Kz D.o.1;have n8:=Kz D.o.2.1;have J:=Kz D.o.2.2.1;have o0:=Kz (nd_not (gp:=E) D.o.2.2.2.1 D.o.2.2.2.2 (fun q c=>by have:=(f7.o.lt q c).1;have:=k8.o;have:=b9.o;omega) (fun q c=>by have:=(g9.o.lt q c).1;have:=k8.o;have:=b9.o;have:=e5.o;omega))
         have n9:=Kz (apart_new (mid:=w6.heap.size) l7.o (fun k C=>by rw [D.o.2.2.2.1,Za4] at C;have:=(f7.o.lt k C).1;have:=m9.o k C;have:=b9.o;omega) (fun k C=>by rw [D.o.2.2.2.2,Za4] at C;exact (g9.o.lt k C).1) (Kah b9.o e5.o))
         have o1:=Kz (node_cells7 n7.o);obtain ⟨a0,a1,a2,a3,a4,a5,a6⟩:=o1.o;have h8:=Kz (dmade_any in0 in1 B cb g f s d i7 i8 e9 OA oc outs I0 I1 m0 k0 m1 k1 names m7 w7 (j2.o.next J.o) n8.o n9.o (by rw [M.o];exact v2.o) (by rw [M.o,e8.o];exact r0.o) (r9.o w7 (f2.o.trans (J.o.mono R.o))) (by have h:=congrArg List.length M.o;rw [Kak] at h;rw [h];exact v4.o))
         go_wp2_with fail
         refine h8.o.mono ?_
         rintro e c9 ⟨o3,o4,o5,h1,rfl,h3,h4,h5,h6⟩
         have T:=(f9.o.next J.o).kd h4;have q0:=T.cell (i:=i) (by omega)
         have q3:=T.free i;have i0:(0:Int)≤(i:Int):=by omega
         have i1:(i:Int)<((root+1:Nat):Int):=by omega
         have D2:(i:Int)<(root:Int)+1:=by omega
         have L:=Kz (let_fin (gi:=O) (P:=(j i).2) (p:=(madeD f s (e9.map Prod.fst) m7.1).2) (i:=i) h3 h4 h5 h6 f0.o.2 s2.o f0.o.1 (J.o) m4.o f2.o R.o i6.o p6.o o0.o p5.o (by omega) (k7.o.next J.o) (f9.o.next J.o))
         have H1:=Kz h1;clear h1 h3 h4 h5 h6 T a0 a1 a2 a3 a4 a5 a6 h8
         go_wp2_with fail
         exact ⟨⟨i+1,by omega,rfl,o3,o4,o5,by rw [H1.o,b4.o,←e8.o,M.o],L.o.1,L.o.2.1,mkb_fn L.o.2.2.1 (fun a k9=>by rw [b4.o,←e8.o,M.o]),L.o.2.2.2.1,L.o.2.2.2.2.1,L.o.2.2.2.2.2⟩,by simp [intOf];omega⟩
        ·have q9:(dk==9)=false:=by rw [Kaj];exact o6
         go_upto_region 30 with fail
         obtain ⟨w7,e6⟩:=Ky wr;rw [←e6];obtain ⟨m7,e7⟩:∃ x:ND × NV,x=(nodeD ⟨dk,dn,du,da,dp⟩ ls (j i).2,⟨.slice Ax ns cx,.slice AA al ac,.slice none 0 0⟩):=⟨_,rfl⟩;have e8:=Kz (show m7.1=nodeD ⟨dk,dn,du,da,dp⟩ ls (j i).2 from by rw [e7])
         have D:=Kz (node_else e6 e7 g0.o v5.o f7.o s8.o b8.o n4 o6 (by have:=q5;omega) (by omega) d8.o R.o (Kah R.o e5.o))
         clear e0 e2 n5 n6 b5 q1 q9 e6 e7;have n7:=Kz D.o.1;have n8:=Kz D.o.2.1;have J:=Kz D.o.2.2.1;have o0:=Kz (nd_not (gp:=E) D.o.2.2.2.1 D.o.2.2.2.2 (fun q c=>by have:=(f7.o.lt q c).1;have:=k8.o;have:=b9.o;omega) (fun q c=>by have:=(g9.o.lt q c).1;have:=k8.o;have:=b9.o;have:=e5.o;omega))
         have n9:=Kz (apart_new (mid:=w6.heap.size) l7.o (fun k C=>by rw [D.o.2.2.2.1,Za4] at C;have:=(f7.o.lt k C).1;have:=m9.o k C;have:=b9.o;omega) (fun k C=>by rw [D.o.2.2.2.2,Za4] at C;exact (g9.o.lt k C).1) (Kah b9.o e5.o))
         have o1:=Kz (node_cells7 n7.o);obtain ⟨a0,a1,a2,a3,a4,a5,a6⟩:=o1.o;have h8:=Kz (dmade_any in0 in1 B cb g f s d i7 i8 e9 OA oc outs I0 I1 m0 k0 m1 k1 names m7 w7 (j2.o.next J.o) n8.o n9.o (by rw [M.o];exact v2.o) (by rw [M.o,e8.o];exact r0.o) (r9.o w7 (f2.o.trans (J.o.mono R.o))) (by have h:=congrArg List.length M.o;rw [Kak] at h;rw [h];exact v4.o))
         go_wp2_with fail
         refine h8.o.mono ?_
         rintro e c9 ⟨o3,o4,o5,h1,rfl,h3,h4,h5,h6⟩
         have T:=(f9.o.next J.o).kd h4;have q0:=T.cell (i:=i) (by omega)
         have q3:=T.free i;have i0:(0:Int)≤(i:Int):=by omega
         have i1:(i:Int)<((root+1:Nat):Int):=by omega
         have D2:(i:Int)<(root:Int)+1:=by omega
         have L:=Kz (let_fin (gi:=O) (P:=(j i).2) (p:=(madeD f s (e9.map Prod.fst) m7.1).2) (i:=i) h3 h4 h5 h6 f0.o.2 s2.o f0.o.1 (J.o) m4.o f2.o R.o i6.o p6.o o0.o p5.o (by omega) (k7.o.next J.o) (f9.o.next J.o))
         have H1:=Kz h1;clear h1 h3 h4 h5 h6 T a0 a1 a2 a3 a4 a5 a6 h8
         go_wp2_with fail
         exact ⟨⟨i+1,by omega,rfl,o3,o4,o5,by rw [H1.o,b4.o,←e8.o,M.o],L.o.1,L.o.2.1,mkb_fn L.o.2.2.1 (fun a k9=>by rw [b4.o,←e8.o,M.o]),L.o.2.2.2.1,L.o.2.2.2.2.1,L.o.2.2.2.2.2⟩,by simp [intOf];omega⟩
   ·obtain rfl:root+1=i:=by omega
    have J8:=p7.o.cell (i:=root) (by omega)
    have i0:(0:Int)≤(root:Int):=by omega
    have i1:(root:Int)<((root+1:Nat):Int):=by omega
    go_wp2_with fail
    go_ret;exact ⟨i7,i8,e9,by rw [M.o,b7.o],by rw [←b7.o];rfl,l7.o,(KD.of y5.o).trans k4.o,(y5.o.mono (Kah E1.o (Kag _))).trans d8.o,f0.o.2⟩
  | i+1,s1,k3=>
   rw [show (((i+1:Nat):Int)-1)=(i:Int) by omega]
   have V:es[i]?=some (es[i]'(by rw [←p4.o];omega)):=Kad _
   obtain ⟨d,r1⟩:=Ky (es[i]'(by rw [←p4.o];omega))
   rw [←r1] at V;have b3:=Kz V;obtain ⟨b,o,rfl,s3,c0,c1,c2,⟨l8,s4,c3,k5,l9,-⟩,c4⟩:=(r8.o.below (a8.o.mono f8.o)).at_ V;have H6:=E0.o _ a8.o;have i0:(0:Int)≤(i:Int):=by omega
   have i1:(i:Int)<(Z:Int):=by omega
   obtain ⟨dk,dn,du,da,dp⟩:=d;dsimp only at c3 k5 l9;obtain ⟨al,i9⟩:=Ky da.length;rw [←i9] at c3 l9;have b8:=Kz i9;have H7:=Kz (show ∀ W,Below w2.heap.size w2 W→Rd W B l8 (da.map VI) from fun W a7=>by
    obtain ⟨b2,o2,e2,_,_,_,_,⟨A2,c2,f3,H8,_⟩,_⟩:=(r8.o.below (a7.mono f8.o)).at_ V;injection e2 with e2
    injection e2 with e2 e3 _
    subst e2 e3;have:(W.cell? ⟨b,o+i*5+3,none⟩)=wr.cell? ⟨b,o+i*5+3,none⟩:=(a7.cell (p:=⟨b,_,none⟩) (Kae s3 f8.o)).trans (a8.o.cell (p:=⟨b,_,none⟩) (Kae s3 f8.o)).symm;rw [f3,c3] at this;injection this with this
    injection this with this _ _
    rw [←this];exact H8)
   clear V r1 k5 c0 c1 c2 c4 i9
   go_wp2
   have D3:=Kz (fun (k:Nat) (x:Int) (d7:da[k]?=some x)=>Zc0 l2.o b3.o d7)
   clear H6 c3 i0 i1
   go_loopw [37] (fun j6 wr=>(∃ k:Nat,k≤al∧j6=.int .i64 k∧MkB wr 3 O (root+1) (fun a=>bI (mrkK m i da k a)))∧Below w2.heap.size w2 wr) (fun j6 _=>al-(intOf j6).toNat)
   case atStart=>exact ⟨⟨0,by omega,rfl,by rw [ZcF];exact b0.o⟩,a8.o⟩
   case round=>
    clear b0 a8;obtain ⟨⟨k,C,rfl,l3⟩,i5⟩:=hrel;have b0:=Kz l3;have a8:=Kz i5;clear l3 i5
    by_cases g5:k<al
    ·have V:da[k]?=some (da[k]'(by rw [←b8.o];exact g5)):=Kad _
     obtain ⟨x,d7⟩:=Ky (da[k]'(by rw [←b8.o];exact g5))
     rw [←d7] at V;obtain ⟨x0,x1⟩:=D3.o k x V;obtain ⟨a,rfl⟩:∃ a:Nat,x=(a:Int):=⟨x.toNat,by omega⟩
     have k9:a<i:=by omega
     obtain ⟨b2,o2,rfl,t2,d0⟩:=(H7.o _ a8.o).at_ (show (da.map VI)[k]?=some (VI (a:Int)) by rw [Kal,V];rfl)
     unfold VI at d0;have k0:(0:Int)≤(k:Int):=by omega
     have k1:(k:Int)<(al:Int):=by omega
     have a0:(0:Int)≤(a:Int):=by omega
     have a1:(a:Int)<((root+1:Nat):Int):=by omega
     have i0:(0:Int)≤(i:Int):=by omega
     have i1:(i:Int)<((root+1:Nat):Int):=by omega
     have D4:=b0.o.cell (i:=a) (by omega)
     have d9:=b0.o.cell (i:=i) (by omega)
     rw [ZcG (fun i3 d r1=>(D3.o i3 d r1).2)] at d9
     have J9:=b0.o.free a;have v7:=Kz (fun r2 (H9:r2=bI (mrkK m i da k a||m i))=>b0.o.drew.set (i:=a) (by omega) r2 (fun v8=>bI (mrkK m i da (k+1) v8)) (fun v8=>by
      rw [ZcH m i da V v8,H9];split <;> rfl))
     have I2:=Kz (fun r2=>Zaf (k:=a) a8.o.drew y4.o r2)
     obtain ⟨y,D5⟩:=Ky (mrkK m i da k a);rw [←D5] at D4 v7;obtain ⟨I3,D6⟩:=Ky (m i);rw [←D6] at d9 v7;clear V d7 D5 D6 t2 x0 x1
     cases y <;> cases I3
     all_goals
      simp only [bI,if_true,Bool.false_eq_true,if_false] at D4 d9
      go_wp2_with fail
      go_region
      all_goals
       go_wp2
       exact ⟨⟨⟨k+1,by omega,rfl,v7.o _ rfl⟩,I2.o _⟩,by simp [intOf];omega⟩
    ·obtain rfl:al=k:=by omega
     have I4:=Kz (show Zac es root=markP es root i (mrkK m i da al) from by rw [k3.o,Zbv b3.o,b8.o])
     clear C g5
     go_wp2
     exact ⟨⟨⟨i,_,by omega,rfl,I4.o,b0.o⟩,a8.o⟩,by simp [intOf]⟩
end Go.Proofs.YtghlnncfigkkaaaGreatDoor
