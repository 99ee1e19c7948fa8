/-
 (*builder).made walked.
-/
import Derived.Test.YtghlnncfigkkaaaGreatDoorQDgC
import Derived.Deep.Cut
import Derived.Deep.CutRange
import Derived.Deep.DeepCutAuto
import Derived.Test.YtghlnncfigkkaaaGreatDoorQChkP
import Derived.RegionTactic
set_option maxRecDepth 100000
set_option maxHeartbeats 16000000
open Go.Lib (hid)
set_option linter.unusedVariables false
set_option linter.unusedSimpArgs false
namespace Go.Proofs.YtghlnncfigkkaaaGreatDoor
open Go.RowKit
theorem NdV.next2 {w w':World} {B:Nat} {m:ND × NV} (h:NdV w B m) (hb:Below w.heap.size w w'):NdV w' B m:=h.kiw (KIW.below hb)
theorem set7 {w3:World} {nb:Nat} {T:TypeId} {a0 a1 a2 a3 a4 a5 a6 b0 b1 b2 b3 b4 b5 b6:Value} (h:w3.heap[nb]?=some (.cells #[a0,a1,a2,a3,a4,a5,a6] T (0,0))):((((((((w3.setCell ⟨nb,0,none⟩ b0).setCell ⟨nb,1,none⟩ b1).setCell ⟨nb,2,none⟩ b2).setCell ⟨nb,3,none⟩ b3).setCell ⟨nb,4,none⟩ b4).setCell ⟨nb,5,none⟩ b5).setCell ⟨nb,6,none⟩ b6)).heap[nb]?=some (.cells #[b0,b1,b2,b3,b4,b5,b6] T (0,0)):=by
 have h0:(w3.setCell ⟨nb,0,none⟩ b0).heap[nb]?=some (.cells #[b0,a1,a2,a3,a4,a5,a6] T (0,0)):=heap_setCell_same _ _ _ _ _ _ h
 have h1:((w3.setCell ⟨nb,0,none⟩ b0).setCell ⟨nb,1,none⟩ b1).heap[nb]?=some (.cells #[b0,b1,a2,a3,a4,a5,a6] T (0,0)):=heap_setCell_same _ _ _ _ _ _ h0
 have h2:(((w3.setCell ⟨nb,0,none⟩ b0).setCell ⟨nb,1,none⟩ b1).setCell ⟨nb,2,none⟩ b2).heap[nb]?=some (.cells #[b0,b1,b2,a3,a4,a5,a6] T (0,0)):=heap_setCell_same _ _ _ _ _ _ h1
 have h3:((((w3.setCell ⟨nb,0,none⟩ b0).setCell ⟨nb,1,none⟩ b1).setCell ⟨nb,2,none⟩ b2).setCell ⟨nb,3,none⟩ b3).heap[nb]?=some (.cells #[b0,b1,b2,b3,a4,a5,a6] T (0,0)):=heap_setCell_same _ _ _ _ _ _ h2
 have h4:(((((w3.setCell ⟨nb,0,none⟩ b0).setCell ⟨nb,1,none⟩ b1).setCell ⟨nb,2,none⟩ b2).setCell ⟨nb,3,none⟩ b3).setCell ⟨nb,4,none⟩ b4).heap[nb]?=some (.cells #[b0,b1,b2,b3,b4,a5,a6] T (0,0)):=heap_setCell_same _ _ _ _ _ _ h3
 have h5:((((((w3.setCell ⟨nb,0,none⟩ b0).setCell ⟨nb,1,none⟩ b1).setCell ⟨nb,2,none⟩ b2).setCell ⟨nb,3,none⟩ b3).setCell ⟨nb,4,none⟩ b4).setCell ⟨nb,5,none⟩ b5).heap[nb]?=some (.cells #[b0,b1,b2,b3,b4,b5,a6] T (0,0)):=heap_setCell_same _ _ _ _ _ _ h4
 have h6:(((((((w3.setCell ⟨nb,0,none⟩ b0).setCell ⟨nb,1,none⟩ b1).setCell ⟨nb,2,none⟩ b2).setCell ⟨nb,3,none⟩ b3).setCell ⟨nb,4,none⟩ b4).setCell ⟨nb,5,none⟩ b5).setCell ⟨nb,6,none⟩ b6).heap[nb]?=some (.cells #[b0,b1,b2,b3,b4,b5,b6] T (0,0)):=heap_setCell_same _ _ _ _ _ _ h5
 exact h6
def foldM (l:List ND) (m:ND × NV) (A3:Option Addr) (n3 c3:Nat):ND × NV:=(⟨2,m.1.shape,[],0,0,0,valD l m.1⟩,⟨m.2.sv,.slice none 0 0,.slice A3 n3 c3⟩)
section
variable {w3 w4:World} {nb n3 c3:Nat} {A3:Option Addr} {m:ND × NV}
theorem ne_node (hw:w4=(((((((w3.setCell ⟨nb,0,none⟩ (.int .i64 2)).setCell ⟨nb,1,none⟩ m.2.sv).setCell ⟨nb,2,none⟩ (.slice none 0 0)).setCell ⟨nb,3,none⟩ (.int .i64 0)).setCell ⟨nb,4,none⟩ (.int .i64 0)).setCell ⟨nb,5,none⟩ (.int .i64 0)).setCell ⟨nb,6,none⟩ (.slice A3 n3 c3))) {q:Nat} (hq:q≠nb):w4.heap[q]?=w3.heap[q]?:=by
 rw [hw]
 rw [ZaS _ _ _ hq,ZaS _ _ _ hq,ZaS _ _ _ hq,ZaS _ _ _ hq,ZaS _ _ _ hq,ZaS _ _ _ hq,ZaS _ _ _ hq]
theorem bel_node {w:World} {B:Nat} (hw:w4=(((((((w3.setCell ⟨nb,0,none⟩ (.int .i64 2)).setCell ⟨nb,1,none⟩ m.2.sv).setCell ⟨nb,2,none⟩ (.slice none 0 0)).setCell ⟨nb,3,none⟩ (.int .i64 0)).setCell ⟨nb,4,none⟩ (.int .i64 0)).setCell ⟨nb,5,none⟩ (.int .i64 0)).setCell ⟨nb,6,none⟩ (.slice A3 n3 c3))) (h:Below B w w3) (hb:B≤nb):Below B w w4:=by
 rw [hw]
 have key:∀ {W:World} (k:Nat) (v:Value),Below B w W→Below B w (W.setCell ⟨nb,k,none⟩ v):=fun k v h=>⟨h.os,h.tape,h.output,by simpa [World.setCell] using h.size,fun q hq=>(ZaS _ _ _ (by show q≠nb;omega)).trans (h.block q hq)⟩
 exact key _ _ (key _ _ (key _ _ (key _ _ (key _ _ (key _ _ (key _ _ h))))))
theorem folded_done {B cb g:Nat} {f s d:Bool} {NA:Option Addr} {nc:Nat} {ms:List (ND × NV)} {OA:Option Addr} {oc:Nat} {outs:List Nat} {I0 I1:Option Addr} {m0 k0 m1 k1:Nat} {names:PlacesD}
  (hw:w4=(((((((w3.setCell ⟨nb,0,none⟩ (.int .i64 2)).setCell ⟨nb,1,none⟩ m.2.sv).setCell ⟨nb,2,none⟩ (.slice none 0 0)).setCell ⟨nb,3,none⟩ (.int .i64 0)).setCell ⟨nb,4,none⟩ (.int .i64 0)).setCell ⟨nb,5,none⟩ (.int .i64 0)).setCell ⟨nb,6,none⟩ (.slice A3 n3 c3)))
  (hn:w3.heap[nb]?=some (.cells (ndC m).toArray 77 (0,0))) (hn3:n3=(valD (ms.map Prod.fst) m.1).length) (ho:Own w3 B 39 A3 c3 ((valD (ms.map Prod.fst) m.1).map U))
  (hS:DgSt w3 B cb g f s d NA nc ms OA oc outs I0 I1 m0 k0 m1 k1 names∧(∀ q,blk NA=some q→q≠nb)) (hm:NdV w3 B m) (hl:(valD (ms.map Prod.fst) m.1).length≤32):
  w4.heap[nb]?=some (.cells (ndC (foldM (ms.map Prod.fst) m A3 n3 c3)).toArray 77 (0,0))∧NdV w4 B (foldM (ms.map Prod.fst) m A3 n3 c3)∧DgSt w4 B cb g f s d NA nc ms OA oc outs I0 I1 m0 k0 m1 k1 names∧KD w3 w4:=by
 have hne:∀ q,q≠nb→w4.heap[q]?=w3.heap[q]?:=fun q hq=>ne_node hw hq
 have hz:w4.heap.size=w3.heap.size:=by rw [hw];simp [World.setCell]
 have hkd:KD w3 w4:=⟨Nat.le_of_eq hz.symm,fun k o hk hq=>(hne k (fun e=>by
  rw [e,hn] at hk
  injection hk with hk
  subst hk
  exact hq.1 rfl)).trans hk⟩
 have hcb:cb≠nb:=fun e=>by
  have h:=hS.1.hc
  rw [e,hn] at h
  injection h with h
  injection h with _ h _
  exact absurd h (by decide)
 refine ⟨?_,?_,hS.1.keep hkd (hne cb hcb) (fun q hq=>hne q (hS.2 q hq)),hkd⟩
 ·rw [hw]
  exact set7 hn
 ·have h:=hm.kiw hkd.kiw
  refine ⟨h.ls,by simp [foldM],?_,h.sv,⟨none,0,rfl,Own.nil _ _ _⟩,A3,c3,?_,own_kiw ho (.inr rfl) hkd.kiw⟩
  ·show (valD (ms.map Prod.fst) m.1).length≤_
   omega
  ·show Value.slice A3 n3 c3=.slice A3 (valD (ms.map Prod.fst) m.1).length c3
   rw [hn3]
end
theorem apart_fold {b0:Option Nat} {ms:List (ND × NV)} {l:List ND} {m:ND × NV} {A3:Option Addr} {n3 c3:Nat} (h:(b0::(ms++[m]).flatMap ndB).Pairwise apart):(b0::(ms++[foldM l m A3 n3 c3]).flatMap ndB).Pairwise apart:=by
 have e1:∀ x:ND × NV,(b0::(ms++[x]).flatMap ndB)=(b0::ms.flatMap ndB)++[x.2.sv.ownBlock,x.2.av.ownBlock]:=fun x=>by
  rw [List.flatMap_append]
  simp [ndB]
 rw [e1] at h ⊢
 rw [List.pairwise_append] at h ⊢
 have hn:∀ x:Option Nat,apart x none:=fun x=>by
  cases x with
  | none=>exact .inl rfl
  | some k=>exact .inr (by simp)
 refine ⟨h.1,?_,fun x hx y hy => ?_⟩
 ·refine List.Pairwise.cons (fun y hy => ?_) (List.Pairwise.cons (by simp) List.Pairwise.nil)
  rw [List.mem_singleton.1 hy]
  exact hn _
 ·have hy':y=m.2.sv.ownBlock∨y=none:=by simpa [foldM,Value.ownBlock] using hy
  rcases hy' with rfl | rfl
  ·exact h.2.2 x hx _ (by simp)
  ·exact hn x
theorem foldM_bs {l:List ND} {m:ND × NV} {A3:Option Addr} {n3 c3:Nat}:∀ b∈ndB (foldM l m A3 n3 c3),b∈ndB m∨b=none:=by
 intro b hb
 have:b=m.2.sv.ownBlock∨b=none:=by simpa [ndB,foldM,Value.ownBlock] using hb
 rcases this with rfl | rfl
 ·exact .inl (by simp [ndB])
 ·exact .inr rfl
theorem push_bs {ms:List (ND × NV)} {m9:ND × NV} {bs:List (Option Nat)} (h:∀ b∈ndB m9,b∈bs∨b=none):∀ b∈(ms++[m9]).flatMap ndB,b∈ms.flatMap ndB∨b∈bs∨b=none:=by
 intro b hb
 rw [List.flatMap_append,List.mem_append] at hb
 rcases hb with hb | hb
 ·exact .inl hb
 ·exact .inr (h b (by simpa using hb))
def Boxes (w:World) (bx nb cb:Nat) (m:ND × NV):Prop:=w.heap[bx]?=some (.cells #[.pointer (some ⟨cb,0,none⟩)] 128 (0,0))∧w.heap[nb]?=some (.cells (ndC m).toArray 77 (0,0))
def boxS (bx nb cb:Nat) (m:ND × NV) (w':World):Prop:=w'.cell? ⟨bx,0,none⟩=some (.pointer (some ⟨cb,0,none⟩))∧w'.cell? ⟨nb,0,none⟩=some (.int .i64 m.1.kind)∧w'.cell? ⟨nb,1,none⟩=some m.2.sv∧w'.cell? ⟨nb,2,none⟩=some m.2.av∧w'.cell? ⟨nb,3,none⟩=some (.int .i64 m.1.party)∧w'.cell? ⟨nb,4,none⟩=some (.int .i64 m.1.input)∧w'.cell? ⟨nb,5,none⟩=some (.int .i64 m.1.k)∧w'.cell? ⟨nb,6,none⟩=some m.2.ev
theorem node_cells {w:World} {bx nb cb:Nat} {m:ND × NV} (h:Boxes w bx nb cb m):boxS bx nb cb m w:=
 ⟨Kaa _ _ 0 _ _ _ h.1,cells_node h.2 0 _ rfl,cells_node h.2 1 _ rfl,cells_node h.2 2 _ rfl,cells_node h.2 3 _ rfl,cells_node h.2 4 _ rfl,cells_node h.2 5 _ rfl,cells_node h.2 6 _ rfl⟩
theorem Boxes.next {w w':World} {bx nb cb:Nat} {m:ND × NV} (h:Boxes w bx nb cb m) (hb:Below w.heap.size w w'):Boxes w' bx nb cb m:=⟨(hb.block _ (Kab.1 h.1).1).trans h.1,(hb.block _ (Kab.1 h.2).1).trans h.2⟩
theorem KD8.mk {wa w8:World} {B bx nb cb nc:Nat} {NA:Option Addr} {ms:List (ND × NV)} {m:ND × NV} (hr:NdRow wa B NA nc ms) (hg:wa.grownBy w8 (blk NA)) (h:Boxes wa bx nb cb m) (hn:∀ q,blk NA=some q→q≠nb):Boxes w8 bx nb cb m:=by
 refine ⟨?_,?_⟩
 ·exact (KD.grown hg hr.form).2 _ _ h.1 ⟨by decide,by decide⟩
 ·exact (hg.block nb (Kab.1 h.2).1 (fun e=>hn nb e.symm rfl)).trans h.2
theorem kd_boxes {w8 w9:World} {bx nb cb:Nat} {m:ND × NV} {v:Value} (hw:w9=w8.setCell ⟨cb,3,none⟩ v) (h:Boxes w8 bx nb cb m) (h1:bx≠cb) (h2:nb≠cb):Boxes w9 bx nb cb m:=by
 rw [hw]
 exact ⟨(ZaS _ _ _ h1).trans h.1,(ZaS _ _ _ h2).trans h.2⟩
theorem setCell_below' {W w:World} {B b k:Nat} (h:Below B W w) (hb:B≤b) (v:Value):Below B W (w.setCell ⟨b,k,none⟩ v):=⟨h.os,h.tape,h.output,by simpa [World.setCell] using h.size,fun q hq=>(ZaS _ _ _ (by show q≠b;omega)).trans (h.block q hq)⟩
def MadeCut (w:World) (B cb g:Nat) (f s d:Bool) (NA:Option Addr) (nc:Nat) (ms:List (ND × NV)) (OA:Option Addr) (oc:Nat) (outs:List Nat) (I0 I1:Option Addr) (m0 k0 m1 k1:Nat) (names:PlacesD) (bx nb:Nat) (n9:ND) (bs:List (Option Nat)) (wx:World):Prop:=
 ∃ m9:ND × NV,m9.1=n9∧(∀ b∈ndB m9,b∈bs∨b=none)∧Boxes wx bx nb cb m9∧NdV wx B m9∧(blk OA::(ms++[m9]).flatMap ndB).Pairwise apart∧DgSt wx B cb g f s d NA nc ms OA oc outs I0 I1 m0 k0 m1 k1 names∧KD w wx∧Below w.heap.size w wx
theorem dmade_any (in0 in1:List (List Int)) (B cb g:Nat) (f s d:Bool) (NA:Option Addr) (nc:Nat) (ms:List (ND × NV)) (OA:Option Addr) (oc:Nat) (outs:List Nat) (I0 I1:Option Addr) (m0 k0 m1 k1:Nat) (names:PlacesD) (m:ND × NV) (w:World)
  (hS:DgSt w B cb g f s d NA nc ms OA oc outs I0 I1 m0 k0 m1 k1 names) (hm:NdV w B m) (hp:(blk OA::(ms++[m]).flatMap ndB).Pairwise apart) (hw:WfD in0 in1 (ms.map Prod.fst)) (hok:NodeOk in0 in1 (ms.map Prod.fst) (ms.map Prod.fst).length m.1) (hg:ETyped w) (hl:ms.length≤1000):
  Calls Tryz.prog 64 #[.pointer (some ⟨cb,0,none⟩),ndA m] w fun e w'=>∃ NA' nc' ms',ms'.map Prod.fst=(madeD f s (ms.map Prod.fst) m.1).1∧e=.returned (.int .i64 ((madeD f s (ms.map Prod.fst) m.1).2:Nat))∧DgSt w' B cb g f s d NA' nc' ms' OA oc outs I0 I1 m0 k0 m1 k1 names∧KD w w'∧Below B w w'∧∀ b∈ms'.flatMap ndB,b∈ms.flatMap ndB∨b∈ndB m∨b=none:=by
 have hBw:B≤w.heap.size:=Kah hS.b1 (Nat.le_of_lt hS.lt)
 obtain ⟨w2,hw2⟩:∃ w2,w2=(w.alloc (.cells #[.pointer (some ⟨cb,0,none⟩)] 128)).alloc (.cells #[.int .i64 m.1.kind,m.2.sv,m.2.av,.int .i64 m.1.party,.int .i64 m.1.input,.int .i64 m.1.k,m.2.ev] 77):=⟨_,rfl⟩
 have hb2:Below w.heap.size w w2:=by rw [hw2];exact (alloc_below _ _).alloc (by simp) _
 obtain ⟨bx,hbx⟩:∃ b,b=w.heap.size:=⟨_,rfl⟩
 obtain ⟨nb,hnb⟩:∃ b,b=w.heap.size+1:=⟨_,rfl⟩
 have hbox:Boxes w2 bx nb cb m:=by
  refine ⟨?_,?_⟩
  ·rw [hw2,hbx,Below.heap_alloc _ _ _ (by simp)]
   exact Kac w _
  ·rw [hw2,hnb]
   have:=Kac (w.alloc (.cells #[.pointer (some ⟨cb,0,none⟩)] 128)) (.cells #[.int .i64 m.1.kind,m.2.sv,m.2.av,.int .i64 m.1.party,.int .i64 m.1.input,.int .i64 m.1.k,m.2.ev] 77)
   rwa [World.size_alloc] at this
 obtain ⟨l1,l2,l3,⟨A0,c0,e1,r1⟩,⟨AA,ca,e2,r2⟩,A9,c9,e3,r3⟩:=id hm
 obtain ⟨na,hna⟩:∃ n,n=m.1.args.length:=⟨_,rfl⟩
 rw [←hna] at l2 e2
 obtain ⟨n0,hn0⟩:∃ n,n=m.1.shape.length:=⟨_,rfl⟩
 rw [←hn0] at e1
 have HSV:=hid e1
 clear hn0
 have st2:=hS.next hb2
 have HCON:=hid (conA_any bx cb B nc ms.length NA ms AA na ca m.1.args w2 (node_cells hbox).1 st2.cells.2.2.2.1 rfl st2.hr (fun a ha=>by have:=hok.ahead a ha;rwa [Kak] at this) hna (by omega) ((r2.rd).next hb2))
 have HVAL:=hid (fun (h:foldB f (ms.map Prod.fst) m.1=true) W (hW:Below w2.heap.size w2 W)=>by
  obtain ⟨f1,f2,f3,f4,f5,f6,f7⟩:=fold_facts hw hok h
  exact value_any cb B nc ms.length NA ms m W (st2.next hW).cells.2.2.2.1 (st2.next hW).lt rfl (st2.next hW).hr (hm.rd.next (bnext hb2 hW)) (hg.next (bnext hb2 hW)) (fun a ha=>by have:=hok.ahead a ha;rwa [Kak] at this) f1 f2 f3 f4 f5 f6)
 have HVL:=hid (fun (h:foldB f (ms.map Prod.fst) m.1=true)=>(fold_facts hw hok h).2.2.2.2.2.2)
 obtain ⟨FB,hFB⟩:∃ b,b=foldB f (ms.map Prod.fst) m.1:=⟨_,rfl⟩
 have hnav:∀ q,blk NA=some q→q≠nb:=fun q hq=>by have:=(hS.hr.lt q hq).2;omega
 have HW2:=hid hw2
 have HBX:=hid hbx
 have HNB:=hid hnb
 have HBOX2:=hid hbox
 have HST2:=hid st2
 have HM2:=hid (hm.next2 hb2)
 have HB2:=hid hb2
 have HFB:=hid hFB
 have HNAV:=hid hnav
 have HBw:=hid hBw
 have HP:=hid hp
 have HNA:=hid hna
 have HCBB:=hid hS.b1
 have HBC:=hid (show bx≠cb∧nb≠cb from by have:=hS.lt;omega)
 have HBN:=hid (show bx≠nb from by omega)
 have HNBG:=hid (show w.heap.size≤nb from by omega)
 have y0:=(node_cells hbox).1
 have b2:=(node_cells hbox).2.2.2.1
 rw [e2] at b2
 obtain ⟨c0',c1',_⟩:=st2.cells
 have HG:=hid hg
 have HE2:=hid e2
 unfold ndA
 clear hw2 hbx hnb hbox st2 hb2 hFB hnav hBw hp hS hm hw hok e1 r1 r2 e3 r3 hna hg l1 l3 e2
 go_enter Tryz.func64,Tryz.ntmps64
 go_upto_region 1 with fail
 rw [←HW2.out,←HNB.out,←HBX.out]
 go_cut [23] (fun v wx=>v=.bool FB∧wx=w2)
 case first=>
  cases f with
  | false=>
   have HX:=hid (show FB=false from HFB.out)
   go_wp2_with fail
   go_meet
   exact ⟨by rw [HX.out],rfl⟩
  | true=>
   by_cases h0:na=0
   ·have q0:decide ((0:Int)<(na:Int))=false:=by simp;omega
    have q1:decide ((na:Int) > 0)=false:=q0
    have q2:decide (0<na)=false:=by simp;omega
    have HX:=hid (show FB=false from by rw [HFB.out];unfold foldB;rw [←HNA.out,h0];rfl)
    clear h0
    go_wp2_with fail
    go_meet
    exact ⟨by rw [HX.out],rfl⟩
   ·have q0:decide ((0:Int)<(na:Int))=true:=by simp;omega
    have q1:decide ((na:Int) > 0)=true:=q0
    have q2:decide (0<na)=true:=by simp;omega
    have hx:FB=m.1.args.all (constD (ms.map Prod.fst)):=by
     rw [HFB.out]
     unfold foldB
     rw [←HNA.out,Kaj.2 h0]
     rfl
    rw [←hx] at HCON
    clear h0 hx
    cases FB with
    | false=>
     go_wp2_with fail
     refine HCON.out.mono ?_
     rintro e w' ⟨rfl,hw'⟩
     rw [←hw']
     clear hw'
     go_wp2_with fail
     go_meet
     exact ⟨rfl,rfl⟩
    | true=>
     go_wp2_with fail
     refine HCON.out.mono ?_
     rintro e w' ⟨rfl,hw'⟩
     rw [←hw']
     clear hw'
     go_wp2_with fail
     go_meet
     exact ⟨rfl,rfl⟩
 case rest=>
 obtain ⟨rfl,hwc⟩:=hcut
 rw [hwc]
 clear hwc
 clear y0 b2 c0' c1'
 go_upto_if 23 with fail
 go_cut [] (fun wx=>MadeCut w B cb g f s d NA nc ms OA oc outs I0 I1 m0 k0 m1 k1 names bx nb (foldD f (ms.map Prod.fst) m.1) (ndB m) wx)
 case first=>
  cases FB with
  | false=>
   have HX:=hid (show foldD f (ms.map Prod.fst) m.1=m.1 from by rw [foldD_b,if_neg (by rw [←HFB.out];decide)])
   go_wp2_with fail
   go_meet
   exact ⟨m,HX.out.symm,fun b hb=>.inl hb,HBOX2.out,HM2.out,HP.out,HST2.out,KD.of HB2.out,HB2.out⟩
  | true=>
   have HFT:=hid HFB.out.symm
   go_upto_region 2 with fail
   refine wp_region_held_drew (S:=(fun w'=>w'.cell? ⟨bx,0,none⟩=some (.pointer (some ⟨cb,0,none⟩)))) (by kernel_rfl) (node_cells (HBOX2.out.next (Kai _ _).drew)).1 (fun hHeld => ?_)
   obtain ⟨wd,hwd⟩:∃ wd,wd=w2.drew:=⟨_,rfl⟩
   rw [←hwd] at hHeld ⊢
   have BD:=hid (show Below w2.heap.size w2 wd from by rw [hwd];exact (Kai _ _).drew)
   clear hwd
   refine tk 0 ?_
   simp only [tkS]
   refine tk 2 ?_
   simp only [tkS]
   refine wpAnyH_ready (rs:=[1,3]) (by kernel_rfl) (by simp) ?_
   refine AllReadyH.cons (o:=_) rfl (fun K hK => ?_) (AllReadyH.cons (o:=_) rfl (fun K hK => ?_) (AllReadyH.nil))
   ·have ND:=(HBOX2.out.next BD.out).2
    have a0:=cells_node ND 0 _ rfl
    have a1:=cells_node ND 1 _ rfl
    have a2:=cells_node ND 2 _ rfl
    have a3:=cells_node ND 3 _ rfl
    have a4:=cells_node ND 4 _ rfl
    have a5:=cells_node ND 5 _ rfl
    have a6:=cells_node ND 6 _ rfl
    go_simp
    clear ND a0 a1 a2 a3 a4 a5 a6
    refine hK.out _ _ hHeld (fun hHeld => ?_)
    clear hK K
    try simp only [tkS]
    refine wpAnyH_ready (rs:=[3]) (by kernel_rfl) (by simp) ?_
    refine AllReadyH.cons (o:=_) rfl (fun K hK => ?_) (AllReadyH.nil)
    ·have ND:=(HBOX2.out.next BD.out).2
     have a0:=cells_node ND 0 _ rfl
     have a1:=cells_node ND 1 _ rfl
     have a2:=cells_node ND 2 _ rfl
     have a3:=cells_node ND 3 _ rfl
     have a4:=cells_node ND 4 _ rfl
     have a5:=cells_node ND 5 _ rfl
     have a6:=cells_node ND 6 _ rfl
     go_simp
     clear ND a0 a1 a2 a3 a4 a5 a6
     refine hK.out _ _ hHeld (fun hHeld => ?_)
     clear hK K
     try simp only [tkS]
     refine wpAnyH_ready (rs:=[4]) (by kernel_rfl) (by simp) ?_
     refine AllReadyH.cons (o:=_) rfl (fun K hK => ?_) (AllReadyH.nil)
     ·go_simp
      go_at_call 108
      refine (HVAL.out HFT.out wd BD.out).mono ?_
      rintro e w3 ⟨A3,n3,c3,rfl,hn3,o3,b3⟩
      have B3:=hid (bnext BD.out b3)
      have HN3:=hid hn3
      have HO3:=hid (o3.more (Kah HBw.out (Kah HB2.out.size BD.out.size)))
      clear b3 hn3 o3
      refine hK.out _ _ (node_cells (HBOX2.out.next B3.out)).1 (fun hHeld => ?_)
      clear hK K
      try simp only [tkS]
      have hsv:=HSV.out
      refine tk 5 ?_
      simp only [tkS]
      clear hsv
      have ND3:=hid (HBOX2.out.next B3.out).2
      have a0:=cells_node ND3.out 0 _ rfl
      have a1:=cells_node ND3.out 1 _ rfl
      have a2:=cells_node ND3.out 2 _ rfl
      have a3:=cells_node ND3.out 3 _ rfl
      have a4:=cells_node ND3.out 4 _ rfl
      have a5:=cells_node ND3.out 5 _ rfl
      have a6:=cells_node ND3.out 6 _ rfl
      have fz:∀ k,w3.frozen? ⟨nb,k,none⟩=false:=fun k=>by simp [World.frozen?,ND3.out]
      refine wpAnyH_ready (rs:=[6]) (by kernel_rfl) (by simp) ?_
      refine AllReadyH.cons (o:=_) rfl (fun K hK => ?_) (AllReadyH.nil)
      go_simp
      obtain ⟨w4,hw4⟩:∃ w4,w4=(((((((w3.setCell ⟨nb,0,none⟩ (.int .i64 2)).setCell ⟨nb,1,none⟩ (.slice A0 n0 c0)).setCell ⟨nb,2,none⟩ (.slice none 0 0)).setCell ⟨nb,3,none⟩ (.int .i64 0)).setCell ⟨nb,4,none⟩ (.int .i64 0)).setCell ⟨nb,5,none⟩ (.int .i64 0)).setCell ⟨nb,6,none⟩ (.slice A3 n3 c3)):=⟨_,rfl⟩
      rw [←hw4]
      rw [←HSV.out] at hw4
      have HF4:=hid (folded_done hw4 ND3.out HN3.out HO3.out ⟨HST2.out.next B3.out,HNAV.out⟩ (HM2.out.next2 B3.out) (HVL.out HFT.out))
      have B24:=hid (bel_node hw4 (bnext HB2.out B3.out) HNBG.out)
      have BX4:=hid ((ne_node hw4 HBN.out).trans (HBOX2.out.next B3.out).1)
      clear hw4 a0 a1 a2 a3 a4 a5 a6 fz
      refine hK.out _ _ (Kaa _ _ 0 _ _ _ BX4.out) (fun hHeld => ?_)
      clear hK K
      try simp only [tkS]
      refine wpAnyH_done (by kernel_rfl) ?_ _
      go_wp2_with fail
      go_meet
      exact ⟨foldM (ms.map Prod.fst) m A3 n3 c3,by rw [foldD_b,if_pos HFT.out];rfl,foldM_bs,⟨BX4.out,HF4.out.1⟩,HF4.out.2.1,apart_fold HP.out,HF4.out.2.2.1,((KD.of HB2.out).trans (KD.of B3.out)).trans HF4.out.2.2.2,B24.out⟩
   ·have ND:=(HBOX2.out.next BD.out).2
    have a0:=cells_node ND 0 _ rfl
    have a1:=cells_node ND 1 _ rfl
    have a2:=cells_node ND 2 _ rfl
    have a3:=cells_node ND 3 _ rfl
    have a4:=cells_node ND 4 _ rfl
    have a5:=cells_node ND 5 _ rfl
    have a6:=cells_node ND 6 _ rfl
    go_simp
    clear ND a0 a1 a2 a3 a4 a5 a6
    refine hK.out _ _ hHeld (fun hHeld => ?_)
    clear hK K
    try simp only [tkS]
    refine wpAnyH_ready (rs:=[1,4]) (by kernel_rfl) (by simp) ?_
    refine AllReadyH.cons (o:=_) rfl (fun K hK => ?_) (AllReadyH.cons (o:=_) rfl (fun K hK => ?_) (AllReadyH.nil))
    ·have ND:=(HBOX2.out.next BD.out).2
     have a0:=cells_node ND 0 _ rfl
     have a1:=cells_node ND 1 _ rfl
     have a2:=cells_node ND 2 _ rfl
     have a3:=cells_node ND 3 _ rfl
     have a4:=cells_node ND 4 _ rfl
     have a5:=cells_node ND 5 _ rfl
     have a6:=cells_node ND 6 _ rfl
     go_simp
     clear ND a0 a1 a2 a3 a4 a5 a6
     refine hK.out _ _ hHeld (fun hHeld => ?_)
     clear hK K
     try simp only [tkS]
     refine wpAnyH_ready (rs:=[4]) (by kernel_rfl) (by simp) ?_
     refine AllReadyH.cons (o:=_) rfl (fun K hK => ?_) (AllReadyH.nil)
     ·go_simp
      go_at_call 108
      refine (HVAL.out HFT.out wd BD.out).mono ?_
      rintro e w3 ⟨A3,n3,c3,rfl,hn3,o3,b3⟩
      have B3:=hid (bnext BD.out b3)
      have HN3:=hid hn3
      have HO3:=hid (o3.more (Kah HBw.out (Kah HB2.out.size BD.out.size)))
      clear b3 hn3 o3
      refine hK.out _ _ (node_cells (HBOX2.out.next B3.out)).1 (fun hHeld => ?_)
      clear hK K
      try simp only [tkS]
      have hsv:=HSV.out
      refine tk 5 ?_
      simp only [tkS]
      clear hsv
      have ND3:=hid (HBOX2.out.next B3.out).2
      have a0:=cells_node ND3.out 0 _ rfl
      have a1:=cells_node ND3.out 1 _ rfl
      have a2:=cells_node ND3.out 2 _ rfl
      have a3:=cells_node ND3.out 3 _ rfl
      have a4:=cells_node ND3.out 4 _ rfl
      have a5:=cells_node ND3.out 5 _ rfl
      have a6:=cells_node ND3.out 6 _ rfl
      have fz:∀ k,w3.frozen? ⟨nb,k,none⟩=false:=fun k=>by simp [World.frozen?,ND3.out]
      refine wpAnyH_ready (rs:=[6]) (by kernel_rfl) (by simp) ?_
      refine AllReadyH.cons (o:=_) rfl (fun K hK => ?_) (AllReadyH.nil)
      go_simp
      obtain ⟨w4,hw4⟩:∃ w4,w4=(((((((w3.setCell ⟨nb,0,none⟩ (.int .i64 2)).setCell ⟨nb,1,none⟩ (.slice A0 n0 c0)).setCell ⟨nb,2,none⟩ (.slice none 0 0)).setCell ⟨nb,3,none⟩ (.int .i64 0)).setCell ⟨nb,4,none⟩ (.int .i64 0)).setCell ⟨nb,5,none⟩ (.int .i64 0)).setCell ⟨nb,6,none⟩ (.slice A3 n3 c3)):=⟨_,rfl⟩
      rw [←hw4]
      rw [←HSV.out] at hw4
      have HF4:=hid (folded_done hw4 ND3.out HN3.out HO3.out ⟨HST2.out.next B3.out,HNAV.out⟩ (HM2.out.next2 B3.out) (HVL.out HFT.out))
      have B24:=hid (bel_node hw4 (bnext HB2.out B3.out) HNBG.out)
      have BX4:=hid ((ne_node hw4 HBN.out).trans (HBOX2.out.next B3.out).1)
      clear hw4 a0 a1 a2 a3 a4 a5 a6 fz
      refine hK.out _ _ (Kaa _ _ 0 _ _ _ BX4.out) (fun hHeld => ?_)
      clear hK K
      try simp only [tkS]
      refine wpAnyH_done (by kernel_rfl) ?_ _
      go_wp2_with fail
      go_meet
      exact ⟨foldM (ms.map Prod.fst) m A3 n3 c3,by rw [foldD_b,if_pos HFT.out];rfl,foldM_bs,⟨BX4.out,HF4.out.1⟩,HF4.out.2.1,apart_fold HP.out,HF4.out.2.2.1,((KD.of HB2.out).trans (KD.of B3.out)).trans HF4.out.2.2.2,B24.out⟩
    ·go_simp
     go_at_call 108
     refine (HVAL.out HFT.out wd BD.out).mono ?_
     rintro e w3 ⟨A3,n3,c3,rfl,hn3,o3,b3⟩
     have B3:=hid (bnext BD.out b3)
     have HN3:=hid hn3
     have HO3:=hid (o3.more (Kah HBw.out (Kah HB2.out.size BD.out.size)))
     clear b3 hn3 o3
     refine hK.out _ _ (node_cells (HBOX2.out.next B3.out)).1 (fun hHeld => ?_)
     clear hK K
     try simp only [tkS]
     refine wpAnyH_ready (rs:=[1]) (by kernel_rfl) (by simp) ?_
     refine AllReadyH.cons (o:=_) rfl (fun K hK => ?_) (AllReadyH.nil)
     ·have ND:=(HBOX2.out.next B3.out).2
      have a0:=cells_node ND 0 _ rfl
      have a1:=cells_node ND 1 _ rfl
      have a2:=cells_node ND 2 _ rfl
      have a3:=cells_node ND 3 _ rfl
      have a4:=cells_node ND 4 _ rfl
      have a5:=cells_node ND 5 _ rfl
      have a6:=cells_node ND 6 _ rfl
      go_simp
      clear ND a0 a1 a2 a3 a4 a5 a6
      refine hK.out _ _ hHeld (fun hHeld => ?_)
      clear hK K
      try simp only [tkS]
      have hsv:=HSV.out
      refine tk 5 ?_
      simp only [tkS]
      clear hsv
      have ND3:=hid (HBOX2.out.next B3.out).2
      have a0:=cells_node ND3.out 0 _ rfl
      have a1:=cells_node ND3.out 1 _ rfl
      have a2:=cells_node ND3.out 2 _ rfl
      have a3:=cells_node ND3.out 3 _ rfl
      have a4:=cells_node ND3.out 4 _ rfl
      have a5:=cells_node ND3.out 5 _ rfl
      have a6:=cells_node ND3.out 6 _ rfl
      have fz:∀ k,w3.frozen? ⟨nb,k,none⟩=false:=fun k=>by simp [World.frozen?,ND3.out]
      refine wpAnyH_ready (rs:=[6]) (by kernel_rfl) (by simp) ?_
      refine AllReadyH.cons (o:=_) rfl (fun K hK => ?_) (AllReadyH.nil)
      go_simp
      obtain ⟨w4,hw4⟩:∃ w4,w4=(((((((w3.setCell ⟨nb,0,none⟩ (.int .i64 2)).setCell ⟨nb,1,none⟩ (.slice A0 n0 c0)).setCell ⟨nb,2,none⟩ (.slice none 0 0)).setCell ⟨nb,3,none⟩ (.int .i64 0)).setCell ⟨nb,4,none⟩ (.int .i64 0)).setCell ⟨nb,5,none⟩ (.int .i64 0)).setCell ⟨nb,6,none⟩ (.slice A3 n3 c3)):=⟨_,rfl⟩
      rw [←hw4]
      rw [←HSV.out] at hw4
      have HF4:=hid (folded_done hw4 ND3.out HN3.out HO3.out ⟨HST2.out.next B3.out,HNAV.out⟩ (HM2.out.next2 B3.out) (HVL.out HFT.out))
      have B24:=hid (bel_node hw4 (bnext HB2.out B3.out) HNBG.out)
      have BX4:=hid ((ne_node hw4 HBN.out).trans (HBOX2.out.next B3.out).1)
      clear hw4 a0 a1 a2 a3 a4 a5 a6 fz
      refine hK.out _ _ (Kaa _ _ 0 _ _ _ BX4.out) (fun hHeld => ?_)
      clear hK K
      try simp only [tkS]
      refine wpAnyH_done (by kernel_rfl) ?_ _
      go_wp2_with fail
      go_meet
      exact ⟨foldM (ms.map Prod.fst) m A3 n3 c3,by rw [foldD_b,if_pos HFT.out];rfl,foldM_bs,⟨BX4.out,HF4.out.1⟩,HF4.out.2.1,apart_fold HP.out,HF4.out.2.2.1,((KD.of HB2.out).trans (KD.of B3.out)).trans HF4.out.2.2.2,B24.out⟩
 case rest=>
 obtain ⟨m9,hm9,hbl9,hbox9,hnd9,hp9,hst9,hkd9,hb9⟩:=hcut
 obtain ⟨w5,hw5⟩:∃ w5,w5=wc:=⟨_,rfl⟩
 rw [←hw5] at hbox9 hnd9 hst9 hkd9 hb9 ⊢
 obtain ⟨n,hn⟩:∃ n,n=ms.length:=⟨_,rfl⟩
 have HM9:=hid hm9
 have HBL9:=hid hbl9
 have HBOX5:=hid hbox9
 have HM5:=hid hnd9
 have HP5:=hid hp9
 have HST5:=hid hst9
 have HKD5:=hid hkd9
 have HBW5:=hid hb9
 have HNM:=hid hn
 have HBB:=hid (Kah HBw.out hb9.size)
 have HSC:=hid (fun W (hW:Below w5.heap.size w5 W)=>node_cells (HBOX5.out.next hW))
 have hln:n≤1000:=by omega
 have hwr:IntKind.i64.wrap ((n:Int)+1-1)=n:=by simp [IntKind.wrap,IntKind.bits,IntKind.signed];omega
 have HIDX:=hid (idxN_any nb B n nc NA ms m9 w5 hn (by omega) hst9.hr hbox9.2 hnd9.rd)
 have y0:=(node_cells hbox9).1
 have c1:=hst9.cells.2.1
 have c3:=hst9.cells.2.2.2.1
 rw [←hn] at c3
 clear hm9 hbl9 hbox9 hnd9 hp9 hst9 hkd9 hb9 hn hw5 HCON HVAL HVL
 cases s with
 | true=>
  cases hix:idxD (ms.map Prod.fst) m9.1 with
  | some i=>
   rw [hix] at HIDX
   have HMD:=hid (show madeD f true (ms.map Prod.fst) m.1=(ms.map Prod.fst,i) from by
    unfold madeD
    rw [if_pos rfl,←HM9.out,hix])
   have q0:decide ((0:Int)≤idxV (some i))=true:=by unfold idxV;simp
   clear hix
   go_wp2_with (go_at_call 109;refine HIDX.out.mono ?_;rintro e w6 ⟨rfl,b6⟩;have B6:=hid b6;clear b6)
   go_ret
   exact ⟨NA,nc,ms,by rw [HMD.out],by rw [HMD.out];rfl,HST5.out.next B6.out,HKD5.out.trans (KD.of B6.out),(HBW5.out.mono HBw.out).trans (B6.out.mono HBB.out),fun b hb=>.inl hb⟩
  | none=>
   rw [hix] at HIDX
   have HMD:=hid (show (madeD f true (ms.map Prod.fst) m.1).1=ms.map Prod.fst++[foldD f (ms.map Prod.fst) m.1]∧(madeD f true (ms.map Prod.fst) m.1).2=(ms.map Prod.fst).length from by
    unfold madeD
    rw [if_pos rfl,←HM9.out,hix]
    exact ⟨rfl,rfl⟩)
   have q0:decide ((0:Int)≤idxV none)=false:=by unfold idxV;simp
   clear hix
   go_upto_region 5 with (go_at_call 109;refine HIDX.out.mono ?_;rintro e w7 ⟨rfl,b7⟩;have HB7:=hid b7;clear b7)
   clear y0 c1 c3
   have y0:=(HSC.out w7 HB7.out).1
   go_upto_region 7 with fail
   refine wp_region_held_drew (S:=(fun w'=>w'.cell? ⟨bx,0,none⟩=some (.pointer (some ⟨cb,0,none⟩))∧w'.cell? ⟨nb,0,none⟩=some (.int .i64 m9.1.kind)∧w'.cell? ⟨nb,1,none⟩=some m9.2.sv∧w'.cell? ⟨nb,2,none⟩=some m9.2.av∧w'.cell? ⟨nb,3,none⟩=some (.int .i64 m9.1.party)∧w'.cell? ⟨nb,4,none⟩=some (.int .i64 m9.1.input)∧w'.cell? ⟨nb,5,none⟩=some (.int .i64 m9.1.k)∧w'.cell? ⟨nb,6,none⟩=some m9.2.ev)) (by kernel_rfl) (HSC.out _ HB7.out.drew) (fun hHeld => ?_)
   obtain ⟨wd,hwd⟩:∃ wd,wd=w7.drew:=⟨_,rfl⟩
   rw [←hwd] at hHeld ⊢
   have BD:=hid (show Below w5.heap.size w5 wd from by rw [hwd];exact HB7.out.drew)
   clear hwd
   refine tk 0 ?_
   simp only [tkS]
   refine tk 1 ?_
   simp only [tkS]
   refine tk 2 ?_
   simp only [tkS]
   refine tk 3 ?_
   simp only [tkS]
   refine tk 4 ?_
   simp only [tkS]
   refine tk 6 ?_
   simp only [tkS]
   refine wpAnyH_ready (rs:=[5,7]) (by kernel_rfl) (by simp) ?_
   refine AllReadyH.cons (o:=_) rfl (fun K hK => ?_) (AllReadyH.cons (o:=_) rfl (fun K hK => ?_) (AllReadyH.nil))
   ·have zz:=(HST5.out.next BD.out).cells.2.2.2.1
    rw [←HNM.out] at zz
    go_simp
    clear zz
    refine hK.out _ _ hHeld (fun hHeld => ?_)
    clear hK K
    try simp only [tkS]
    refine wpAnyH_ready (rs:=[7]) (by kernel_rfl) (by simp) ?_
    refine AllReadyH.cons (o:=_) rfl (fun K hK => ?_) (AllReadyH.nil)
    go_simp
    obtain ⟨wa,hwa⟩:∃ wa,wa=wd.alloc (.cells #[.int .i64 m9.1.kind,m9.2.sv,m9.2.av,.int .i64 m9.1.party,.int .i64 m9.1.input,.int .i64 m9.1.k,m9.2.ev] 77):=⟨_,rfl⟩
    obtain ⟨ga,hga⟩:∃ q,q=wd.heap.size:=⟨_,rfl⟩
    rw [←hwa,←hga]
    have BA:=hid (show Below w5.heap.size w5 wa from by rw [hwa];exact BD.out.alloc BD.out.size _)
    have HGA:=hid (show wa.heap[ga]?=some (.cells (ndC m9).toArray 77 (0,0)) from by rw [hwa,hga];exact Kac wd _)
    clear hwa hga
    refine hK.out _ _ (HSC.out _ BA.out) (fun hHeld => ?_)
    clear hK K
    try simp only [tkS]
    refine wpAnyH_ready (rs:=[8]) (by kernel_rfl) (by simp) ?_
    refine AllReadyH.cons (o:=_) rfl (fun K hK => ?_) (AllReadyH.nil)
    refine wp_appNd (.tmp 50) (.tmp 52) rfl B NA nc n ms HNM.out rfl (HST5.out.hr.next BA.out) ga rfl m9 HGA.out (HM5.out.next2 BA.out) (by omega) (Kah HBB.out BA.out.size) ?_
    intro A8 c8 w8 r8 g8
    have HPU:=hid ((HST5.out.next BA.out).push g8 r8 HP5.out)
    have C8:=hid (HPU.out.2.2.trans (HST5.out.next BA.out).hc)
    have S8:=hid (KD8.mk (HST5.out.hr.next BA.out) g8 (HBOX5.out.next BA.out) HNAV.out)
    have B8:=hid (Zal ((BA.out.mono HBB.out)) g8 (Kah HBB.out BA.out.size) (fun q hq=>((HST5.out.hr.next BA.out).lt q hq).1))
    refine hK.out _ _ (node_cells S8.out) (fun hHeld => ?_)
    clear hK K
    try simp only [tkS]
    refine tk 9 ?_
    simp only [tkS]
    refine tk 10 ?_
    simp only [tkS]
    refine tk 11 ?_
    simp only [tkS]
    refine wpAnyH_ready (rs:=[12]) (by kernel_rfl) (by simp) ?_
    refine AllReadyH.cons (o:=_) rfl (fun K hK => ?_) (AllReadyH.nil)
    have d3:=Kaa _ _ 3 _ _ _ C8.out
    have fz:∀ k,w8.frozen? ⟨cb,k,none⟩=false:=fun k=>by simp [World.frozen?,C8.out]
    go_simp
    obtain ⟨w9,hw9⟩:∃ w9,w9=w8.setCell ⟨cb,3,none⟩ (.slice A8 (n+1) c8):=⟨_,rfl⟩
    rw [←hw9]
    have H9:=hid (show DgSt w9 B cb g f true d A8 c8 (ms++[m9]) OA oc outs I0 I1 m0 k0 m1 k1 names∧KD wa w9 from by have h:=HPU.out;rw [←HNM.out,←hw9] at h;exact ⟨h.1,h.2.1⟩)
    have B9:=hid (show Below B w5 w9 from by rw [hw9];exact setCell_below' B8.out HCBB.out _)
    have S9:=hid (kd_boxes hw9 S8.out HBC.out.1 HBC.out.2)
    clear hw9 d3 fz g8 r8
    refine hK.out _ _ (node_cells S9.out) (fun hHeld => ?_)
    clear hK K
    try simp only [tkS]
    refine wpAnyH_done (by kernel_rfl) ?_ _
    have y3:=H9.out.1.cells.2.2.2.1
    rw [List.length_append,List.length_singleton,←HNM.out] at y3
    have y0:=S9.out.1
    have y0:=Kaa _ _ 0 _ _ _ y0
    go_wp2_with fail
    go_ret
    exact ⟨A8,c8,ms++[m9],by rw [HMD.out.1,List.map_append,←HM9.out];rfl,by rw [HMD.out.2,Kak,←HNM.out];rfl,H9.out.1,(HKD5.out.trans (KD.of BA.out)).trans H9.out.2,(HBW5.out.mono HBw.out).trans B9.out,push_bs HBL9.out⟩
   ·go_simp
    obtain ⟨wa,hwa⟩:∃ wa,wa=wd.alloc (.cells #[.int .i64 m9.1.kind,m9.2.sv,m9.2.av,.int .i64 m9.1.party,.int .i64 m9.1.input,.int .i64 m9.1.k,m9.2.ev] 77):=⟨_,rfl⟩
    obtain ⟨ga,hga⟩:∃ q,q=wd.heap.size:=⟨_,rfl⟩
    rw [←hwa,←hga]
    have BA:=hid (show Below w5.heap.size w5 wa from by rw [hwa];exact BD.out.alloc BD.out.size _)
    have HGA:=hid (show wa.heap[ga]?=some (.cells (ndC m9).toArray 77 (0,0)) from by rw [hwa,hga];exact Kac wd _)
    clear hwa hga
    refine hK.out _ _ (HSC.out _ BA.out) (fun hHeld => ?_)
    clear hK K
    try simp only [tkS]
    refine wpAnyH_ready (rs:=[5]) (by kernel_rfl) (by simp) ?_
    refine AllReadyH.cons (o:=_) rfl (fun K hK => ?_) (AllReadyH.nil)
    have zz:=(HST5.out.next BA.out).cells.2.2.2.1
    rw [←HNM.out] at zz
    go_simp
    clear zz
    refine hK.out _ _ (HSC.out _ BA.out) (fun hHeld => ?_)
    clear hK K
    try simp only [tkS]
    refine wpAnyH_ready (rs:=[8]) (by kernel_rfl) (by simp) ?_
    refine AllReadyH.cons (o:=_) rfl (fun K hK => ?_) (AllReadyH.nil)
    refine wp_appNd (.tmp 50) (.tmp 52) rfl B NA nc n ms HNM.out rfl (HST5.out.hr.next BA.out) ga rfl m9 HGA.out (HM5.out.next2 BA.out) (by omega) (Kah HBB.out BA.out.size) ?_
    intro A8 c8 w8 r8 g8
    have HPU:=hid ((HST5.out.next BA.out).push g8 r8 HP5.out)
    have C8:=hid (HPU.out.2.2.trans (HST5.out.next BA.out).hc)
    have S8:=hid (KD8.mk (HST5.out.hr.next BA.out) g8 (HBOX5.out.next BA.out) HNAV.out)
    have B8:=hid (Zal ((BA.out.mono HBB.out)) g8 (Kah HBB.out BA.out.size) (fun q hq=>((HST5.out.hr.next BA.out).lt q hq).1))
    refine hK.out _ _ (node_cells S8.out) (fun hHeld => ?_)
    clear hK K
    try simp only [tkS]
    refine tk 9 ?_
    simp only [tkS]
    refine tk 10 ?_
    simp only [tkS]
    refine tk 11 ?_
    simp only [tkS]
    refine wpAnyH_ready (rs:=[12]) (by kernel_rfl) (by simp) ?_
    refine AllReadyH.cons (o:=_) rfl (fun K hK => ?_) (AllReadyH.nil)
    have d3:=Kaa _ _ 3 _ _ _ C8.out
    have fz:∀ k,w8.frozen? ⟨cb,k,none⟩=false:=fun k=>by simp [World.frozen?,C8.out]
    go_simp
    obtain ⟨w9,hw9⟩:∃ w9,w9=w8.setCell ⟨cb,3,none⟩ (.slice A8 (n+1) c8):=⟨_,rfl⟩
    rw [←hw9]
    have H9:=hid (show DgSt w9 B cb g f true d A8 c8 (ms++[m9]) OA oc outs I0 I1 m0 k0 m1 k1 names∧KD wa w9 from by have h:=HPU.out;rw [←HNM.out,←hw9] at h;exact ⟨h.1,h.2.1⟩)
    have B9:=hid (show Below B w5 w9 from by rw [hw9];exact setCell_below' B8.out HCBB.out _)
    have S9:=hid (kd_boxes hw9 S8.out HBC.out.1 HBC.out.2)
    clear hw9 d3 fz g8 r8
    refine hK.out _ _ (node_cells S9.out) (fun hHeld => ?_)
    clear hK K
    try simp only [tkS]
    refine wpAnyH_done (by kernel_rfl) ?_ _
    have y3:=H9.out.1.cells.2.2.2.1
    rw [List.length_append,List.length_singleton,←HNM.out] at y3
    have y0:=S9.out.1
    have y0:=Kaa _ _ 0 _ _ _ y0
    go_wp2_with fail
    go_ret
    exact ⟨A8,c8,ms++[m9],by rw [HMD.out.1,List.map_append,←HM9.out];rfl,by rw [HMD.out.2,Kak,←HNM.out];rfl,H9.out.1,(HKD5.out.trans (KD.of BA.out)).trans H9.out.2,(HBW5.out.mono HBw.out).trans B9.out,push_bs HBL9.out⟩
 | false=>
  have HMD:=hid (show (madeD f false (ms.map Prod.fst) m.1).1=ms.map Prod.fst++[foldD f (ms.map Prod.fst) m.1]∧(madeD f false (ms.map Prod.fst) m.1).2=(ms.map Prod.fst).length from by
   unfold madeD
   rw [if_neg (by decide)]
   exact ⟨rfl,rfl⟩)
  obtain ⟨w7,hw7⟩:∃ w7,w7=w5:=⟨_,rfl⟩
  have HB7:=hid (show Below w5.heap.size w5 w7 from by rw [hw7];exact Kai _ _)
  have HW7:=hid hw7
  clear hw7
  go_upto_region 7 with fail
  rw [←HW7.out]
  refine wp_region_held_drew (S:=(fun w'=>w'.cell? ⟨bx,0,none⟩=some (.pointer (some ⟨cb,0,none⟩))∧w'.cell? ⟨nb,0,none⟩=some (.int .i64 m9.1.kind)∧w'.cell? ⟨nb,1,none⟩=some m9.2.sv∧w'.cell? ⟨nb,2,none⟩=some m9.2.av∧w'.cell? ⟨nb,3,none⟩=some (.int .i64 m9.1.party)∧w'.cell? ⟨nb,4,none⟩=some (.int .i64 m9.1.input)∧w'.cell? ⟨nb,5,none⟩=some (.int .i64 m9.1.k)∧w'.cell? ⟨nb,6,none⟩=some m9.2.ev)) (by kernel_rfl) (HSC.out _ HB7.out.drew) (fun hHeld => ?_)
  obtain ⟨wd,hwd⟩:∃ wd,wd=w7.drew:=⟨_,rfl⟩
  rw [←hwd] at hHeld ⊢
  have BD:=hid (show Below w5.heap.size w5 wd from by rw [hwd];exact HB7.out.drew)
  clear hwd
  refine tk 0 ?_
  simp only [tkS]
  refine tk 1 ?_
  simp only [tkS]
  refine tk 2 ?_
  simp only [tkS]
  refine tk 3 ?_
  simp only [tkS]
  refine tk 4 ?_
  simp only [tkS]
  refine tk 6 ?_
  simp only [tkS]
  refine wpAnyH_ready (rs:=[5,7]) (by kernel_rfl) (by simp) ?_
  refine AllReadyH.cons (o:=_) rfl (fun K hK => ?_) (AllReadyH.cons (o:=_) rfl (fun K hK => ?_) (AllReadyH.nil))
  ·have zz:=(HST5.out.next BD.out).cells.2.2.2.1
   rw [←HNM.out] at zz
   go_simp
   clear zz
   refine hK.out _ _ hHeld (fun hHeld => ?_)
   clear hK K
   try simp only [tkS]
   refine wpAnyH_ready (rs:=[7]) (by kernel_rfl) (by simp) ?_
   refine AllReadyH.cons (o:=_) rfl (fun K hK => ?_) (AllReadyH.nil)
   go_simp
   obtain ⟨wa,hwa⟩:∃ wa,wa=wd.alloc (.cells #[.int .i64 m9.1.kind,m9.2.sv,m9.2.av,.int .i64 m9.1.party,.int .i64 m9.1.input,.int .i64 m9.1.k,m9.2.ev] 77):=⟨_,rfl⟩
   obtain ⟨ga,hga⟩:∃ q,q=wd.heap.size:=⟨_,rfl⟩
   rw [←hwa,←hga]
   have BA:=hid (show Below w5.heap.size w5 wa from by rw [hwa];exact BD.out.alloc BD.out.size _)
   have HGA:=hid (show wa.heap[ga]?=some (.cells (ndC m9).toArray 77 (0,0)) from by rw [hwa,hga];exact Kac wd _)
   clear hwa hga
   refine hK.out _ _ (HSC.out _ BA.out) (fun hHeld => ?_)
   clear hK K
   try simp only [tkS]
   refine wpAnyH_ready (rs:=[8]) (by kernel_rfl) (by simp) ?_
   refine AllReadyH.cons (o:=_) rfl (fun K hK => ?_) (AllReadyH.nil)
   refine wp_appNd (.tmp 50) (.tmp 52) rfl B NA nc n ms HNM.out rfl (HST5.out.hr.next BA.out) ga rfl m9 HGA.out (HM5.out.next2 BA.out) (by omega) (Kah HBB.out BA.out.size) ?_
   intro A8 c8 w8 r8 g8
   have HPU:=hid ((HST5.out.next BA.out).push g8 r8 HP5.out)
   have C8:=hid (HPU.out.2.2.trans (HST5.out.next BA.out).hc)
   have S8:=hid (KD8.mk (HST5.out.hr.next BA.out) g8 (HBOX5.out.next BA.out) HNAV.out)
   have B8:=hid (Zal ((BA.out.mono HBB.out)) g8 (Kah HBB.out BA.out.size) (fun q hq=>((HST5.out.hr.next BA.out).lt q hq).1))
   refine hK.out _ _ (node_cells S8.out) (fun hHeld => ?_)
   clear hK K
   try simp only [tkS]
   refine tk 9 ?_
   simp only [tkS]
   refine tk 10 ?_
   simp only [tkS]
   refine tk 11 ?_
   simp only [tkS]
   refine wpAnyH_ready (rs:=[12]) (by kernel_rfl) (by simp) ?_
   refine AllReadyH.cons (o:=_) rfl (fun K hK => ?_) (AllReadyH.nil)
   have d3:=Kaa _ _ 3 _ _ _ C8.out
   have fz:∀ k,w8.frozen? ⟨cb,k,none⟩=false:=fun k=>by simp [World.frozen?,C8.out]
   go_simp
   obtain ⟨w9,hw9⟩:∃ w9,w9=w8.setCell ⟨cb,3,none⟩ (.slice A8 (n+1) c8):=⟨_,rfl⟩
   rw [←hw9]
   have H9:=hid (show DgSt w9 B cb g f false d A8 c8 (ms++[m9]) OA oc outs I0 I1 m0 k0 m1 k1 names∧KD wa w9 from by have h:=HPU.out;rw [←HNM.out,←hw9] at h;exact ⟨h.1,h.2.1⟩)
   have B9:=hid (show Below B w5 w9 from by rw [hw9];exact setCell_below' B8.out HCBB.out _)
   have S9:=hid (kd_boxes hw9 S8.out HBC.out.1 HBC.out.2)
   clear hw9 d3 fz g8 r8
   refine hK.out _ _ (node_cells S9.out) (fun hHeld => ?_)
   clear hK K
   try simp only [tkS]
   refine wpAnyH_done (by kernel_rfl) ?_ _
   have y3:=H9.out.1.cells.2.2.2.1
   rw [List.length_append,List.length_singleton,←HNM.out] at y3
   have y0:=S9.out.1
   have y0:=Kaa _ _ 0 _ _ _ y0
   go_wp2_with fail
   go_ret
   exact ⟨A8,c8,ms++[m9],by rw [HMD.out.1,List.map_append,←HM9.out];rfl,by rw [HMD.out.2,Kak,←HNM.out];rfl,H9.out.1,(HKD5.out.trans (KD.of BA.out)).trans H9.out.2,(HBW5.out.mono HBw.out).trans B9.out,push_bs HBL9.out⟩
  ·go_simp
   obtain ⟨wa,hwa⟩:∃ wa,wa=wd.alloc (.cells #[.int .i64 m9.1.kind,m9.2.sv,m9.2.av,.int .i64 m9.1.party,.int .i64 m9.1.input,.int .i64 m9.1.k,m9.2.ev] 77):=⟨_,rfl⟩
   obtain ⟨ga,hga⟩:∃ q,q=wd.heap.size:=⟨_,rfl⟩
   rw [←hwa,←hga]
   have BA:=hid (show Below w5.heap.size w5 wa from by rw [hwa];exact BD.out.alloc BD.out.size _)
   have HGA:=hid (show wa.heap[ga]?=some (.cells (ndC m9).toArray 77 (0,0)) from by rw [hwa,hga];exact Kac wd _)
   clear hwa hga
   refine hK.out _ _ (HSC.out _ BA.out) (fun hHeld => ?_)
   clear hK K
   try simp only [tkS]
   refine wpAnyH_ready (rs:=[5]) (by kernel_rfl) (by simp) ?_
   refine AllReadyH.cons (o:=_) rfl (fun K hK => ?_) (AllReadyH.nil)
   have zz:=(HST5.out.next BA.out).cells.2.2.2.1
   rw [←HNM.out] at zz
   go_simp
   clear zz
   refine hK.out _ _ (HSC.out _ BA.out) (fun hHeld => ?_)
   clear hK K
   try simp only [tkS]
   refine wpAnyH_ready (rs:=[8]) (by kernel_rfl) (by simp) ?_
   refine AllReadyH.cons (o:=_) rfl (fun K hK => ?_) (AllReadyH.nil)
   refine wp_appNd (.tmp 50) (.tmp 52) rfl B NA nc n ms HNM.out rfl (HST5.out.hr.next BA.out) ga rfl m9 HGA.out (HM5.out.next2 BA.out) (by omega) (Kah HBB.out BA.out.size) ?_
   intro A8 c8 w8 r8 g8
   have HPU:=hid ((HST5.out.next BA.out).push g8 r8 HP5.out)
   have C8:=hid (HPU.out.2.2.trans (HST5.out.next BA.out).hc)
   have S8:=hid (KD8.mk (HST5.out.hr.next BA.out) g8 (HBOX5.out.next BA.out) HNAV.out)
   have B8:=hid (Zal ((BA.out.mono HBB.out)) g8 (Kah HBB.out BA.out.size) (fun q hq=>((HST5.out.hr.next BA.out).lt q hq).1))
   refine hK.out _ _ (node_cells S8.out) (fun hHeld => ?_)
   clear hK K
   try simp only [tkS]
   refine tk 9 ?_
   simp only [tkS]
   refine tk 10 ?_
   simp only [tkS]
   refine tk 11 ?_
   simp only [tkS]
   refine wpAnyH_ready (rs:=[12]) (by kernel_rfl) (by simp) ?_
   refine AllReadyH.cons (o:=_) rfl (fun K hK => ?_) (AllReadyH.nil)
   have d3:=Kaa _ _ 3 _ _ _ C8.out
   have fz:∀ k,w8.frozen? ⟨cb,k,none⟩=false:=fun k=>by simp [World.frozen?,C8.out]
   go_simp
   obtain ⟨w9,hw9⟩:∃ w9,w9=w8.setCell ⟨cb,3,none⟩ (.slice A8 (n+1) c8):=⟨_,rfl⟩
   rw [←hw9]
   have H9:=hid (show DgSt w9 B cb g f false d A8 c8 (ms++[m9]) OA oc outs I0 I1 m0 k0 m1 k1 names∧KD wa w9 from by have h:=HPU.out;rw [←HNM.out,←hw9] at h;exact ⟨h.1,h.2.1⟩)
   have B9:=hid (show Below B w5 w9 from by rw [hw9];exact setCell_below' B8.out HCBB.out _)
   have S9:=hid (kd_boxes hw9 S8.out HBC.out.1 HBC.out.2)
   clear hw9 d3 fz g8 r8
   refine hK.out _ _ (node_cells S9.out) (fun hHeld => ?_)
   clear hK K
   try simp only [tkS]
   refine wpAnyH_done (by kernel_rfl) ?_ _
   have y3:=H9.out.1.cells.2.2.2.1
   rw [List.length_append,List.length_singleton,←HNM.out] at y3
   have y0:=S9.out.1
   have y0:=Kaa _ _ 0 _ _ _ y0
   go_wp2_with fail
   go_ret
   exact ⟨A8,c8,ms++[m9],by rw [HMD.out.1,List.map_append,←HM9.out];rfl,by rw [HMD.out.2,Kak,←HNM.out];rfl,H9.out.1,(HKD5.out.trans (KD.of BA.out)).trans H9.out.2,(HBW5.out.mono HBw.out).trans B9.out,push_bs HBL9.out⟩
def ShB (w:World) (B:Nat) (A:Option Addr) (sh:List (List Int)):Prop:=∃ q,A=some ⟨q,0,none⟩∧q<B∧∀ (i:Nat) (l:List Int),sh[i]?=some l→∃ A' c,w.cell? ⟨q,i,none⟩=some (.slice A' l.length c)∧Rd w B A' (l.map VI)∧l.length≤2
theorem ShB.below {w w':World} {B:Nat} {A:Option Addr} {sh:List (List Int)} (h:ShB w B A sh) (hb:Below B w w'):ShB w' B A sh:=by
 obtain ⟨q,h1,h2,h3⟩:=h
 refine ⟨q,h1,h2,fun i l hl => ?_⟩
 obtain ⟨A',c,k1,k2,k3⟩:=h3 i l hl
 exact ⟨A',c,(hb.cell (p:=⟨q,i,none⟩) h2).trans k1,k2.below hb,k3⟩
theorem letD_len (f s:Bool) (es:List EI) (sh:List (List Int)) (names:PlacesD) (m:Nat→Bool) (l:List ND):∀ i,(letD f s es sh names m l i).1.length≤l.length+i
 | 0=>Kag _
 | i+1=>by
  have ih:=letD_len f s es sh names m l i
  unfold letD
  dsimp only
  split
  ·split
   ·omega
   ·split
    ·show (letD f s es sh names m l i).1.length≤_
     omega
    ·rename_i e _ _
     show (madeD f s (letD f s es sh names m l i).1 _).1.length≤_
     rcases madeD_cases f s (letD f s es sh names m l i).1 (nodeD e (sh.getD i []) (letD f s es sh names m l i).2) with ⟨_,h,_⟩ | ⟨_,h⟩
     ·rw [h]
      omega
     ·rw [h,List.length_append,List.length_singleton]
      omega
  ·omega
theorem letD_skip {f s:Bool} {es:List EI} {sh:List (List Int)} {names:PlacesD} {m:Nat→Bool} {l:List ND} {i:Nat} (h:m i=false):letD f s es sh names m l (i+1)=letD f s es sh names m l i:=by
 show (if m i=true then _ else _)=_
 rw [if_neg (by rw [h];decide)]
theorem letD_name {f s:Bool} {es:List EI} {sh:List (List Int)} {names:PlacesD} {m:Nat→Bool} {l:List ND} {i:Nat} {e:EI} (h:m i=true) (he:es[i]?=some e) (h2:e.kind=2):letD f s es sh names m l (i+1)=((letD f s es sh names m l i).1,updD (letD f s es sh names m l i).2 i (placeD names e.name)):=by
 show (if m i=true then _ else _)=_
 rw [if_pos h,he]
 dsimp only
 rw [if_pos h2]
theorem letD_node {f s:Bool} {es:List EI} {sh:List (List Int)} {names:PlacesD} {m:Nat→Bool} {l:List ND} {i:Nat} {e:EI} (h:m i=true) (he:es[i]?=some e) (h2:e.kind≠2):letD f s es sh names m l (i+1)=((madeD f s (letD f s es sh names m l i).1 (nodeD e (sh.getD i []) (letD f s es sh names m l i).2)).1,updD (letD f s es sh names m l i).2 i (madeD f s (letD f s es sh names m l i).1 (nodeD e (sh.getD i []) (letD f s es sh names m l i).2)).2):=by
 show (if m i=true then _ else _)=_
 rw [if_pos h,he]
 dsimp only
 rw [if_neg h2]
theorem made_le3 (k:Int):madeP k≤3:=by
 unfold madeP
 split
 ·omega
 ·split
  ·omega
  ·split
   ·omega
   ·split <;> omega
theorem mkb_fn {w:World} {t:TypeId} {g n:Nat} {fn fn':Nat→Value} (h:MkB w t g n fn) (e:∀ i,i<n→fn i=fn' i):MkB w t g n fn':=by
 unfold MkB at h ⊢
 rw [h]
 have:(List.range n).map fn=(List.range n).map fn':=List.map_congr_left fun a ha=>e a (List.mem_range.1 ha)
 rw [this]
theorem mkb_vnt (n:Nat):((List.range n).map fun _=>bI false)=(List.range n).map fun _=>VNt 0:=List.map_congr_left fun _ _=>rfl
theorem wp_app1 {w:World} {o:Oper} {a:Act} {K:Act→World→Prop} {Q:Exit→Act→World→Prop} (s x:Operand)
  (ho:o.op=.call { callee:=.builtin .append,args:=#[s,x],argTypes:=#[41,41] }) (base:Nat) (A:Option Addr) (cap n:Nat) (xs:List Value) (hn:n=xs.length) (hs:a.eval s=.slice A n cap) (hown:Own w base 3 A cap xs)
  (g2:Nat) (hx:a.eval x=.slice (some ⟨g2,0,none⟩) 1 1) (v:Value) (hb:w.heap[g2]?=some (.cells #[v] 3 (0,0))) (h1:v.oneCell'=true) (hl:n≤100000) (hbase:base≤w.heap.size)
  (h:∀ A' cap' w',Own w' base 3 A' cap' (xs++[v])→w.grownBy w' (blk A)→K (a.put o.dst (.slice A' (n+1) cap')) w'):o.wp Tryz.prog a w K Q:=by
 obtain ⟨i0,hi0,hz0,hz1,hz2⟩:=info_parts ZcB
 refine ZlF s x 41 ho base 3 i0 _ 8 Tryz.underlying41 hi0 hz0 hz1 hz2 rfl A cap xs n hn.symm hs hown (some ⟨g2,0,none⟩) 1 1 (g2+1) [v] rfl hx (Rd.of_block hb (Nat.lt_succ_self _) ⟨[],by simp⟩) (fun e=>by cases e) (fun u hu=>by rw [List.mem_singleton.1 hu];exact h1) (by simp only [maxLen];omega) (by omega) hbase ?_
 intro A' cap' w' h2 h3 _
 exact h A' cap' w' h2 h3
theorem KD.setNew {w2 w:World} {q k:Nat} (h:KD w2 w) (hq:w2.heap.size≤q) (v:Value):KD w2 (w.setCell ⟨q,k,none⟩ v):=
 ⟨by simpa [World.setCell] using h.1,fun b o hb ho=>(ZaS _ _ _ (by have:=(Kab.1 hb).1;show b≠q;omega)).trans (h.2 b o hb ho)⟩
theorem MkB.kd {w w':World} {q n:Nat} {fn:Nat→Value} (h:MkB w 3 q n fn) (hk:KD w w'):MkB w' 3 q n fn:=hk.2 _ _ h ⟨by decide,by decide⟩
section
variable {w w':World} {B cb g:Nat} {f s d:Bool} {NA:Option Addr} {nc:Nat} {ms:List (ND × NV)} {OA:Option Addr} {oc:Nat} {outs:List Nat} {I0 I1:Option Addr} {m0 k0 m1 k1:Nat} {names:PlacesD}
theorem DgSt.setInt {q n k:Nat} {fn:Nat→Value} (h:DgSt w B cb g f s d NA nc ms OA oc outs I0 I1 m0 k0 m1 k1 names) (hp:MkB w 3 q n fn) (hq:∀ b∈(blk OA::ms.flatMap ndB),b≠some q) (v:Value):DgSt (w.setCell ⟨q,k,none⟩ v) B cb g f s d NA nc ms OA oc outs I0 I1 m0 k0 m1 k1 names:=by
 have hne:∀ b,b≠q→(w.setCell ⟨q,k,none⟩ v).heap[b]?=w.heap[b]?:=fun b hb=>ZaS _ _ _ hb
 have hty:∀ b cs T fr,w.heap[b]?=some (.cells cs T fr)→T≠3→b≠q:=fun b cs T fr hb hT e=>by
  rw [e,hp] at hb
  injection hb with hb
  injection hb with _ hb _
  exact hT hb.symm
 refine ⟨h.b1,h.b2,(hne cb (hty _ _ _ _ h.hc (by decide))).trans h.hc,?_,⟨ZaK h.hr.1 fun b hb => ?_,fun m hm => ?_⟩,own_at h.ho fun b hb=>hne b fun e=>hq _ (List.mem_cons_self ..) (by rw [hb,e]),h.hp⟩
 ·obtain ⟨es,c,h1,h2⟩:=h.hn
  exact ⟨es,c,(hne g fun e=>by rw [e,hp] at h1;cases h1).trans h1,h2⟩
 ·obtain ⟨cur,hc⟩:=h.hr.form b hb
  exact hne b (hty _ _ _ _ hc (by decide))
 ·obtain ⟨l1,l2,l3,⟨A1,c1,e1,o1⟩,⟨A2,c2,e2,o2⟩,A3,c3,e3,o3⟩:=h.hr.2 m hm
  have hb:∀ b,b∈ndB m→b≠some q:=fun b hb=>hq b (List.mem_cons_of_mem _ (List.mem_flatMap.2 ⟨m,hm,hb⟩))
  refine ⟨l1,l2,l3,⟨A1,c1,e1,own_at o1 fun b hb'=>hne b fun e=>hb (blk A1) (by simp [ndB,e1,Za4]) (by rw [hb',e])⟩,⟨A2,c2,e2,own_at o2 fun b hb'=>hne b fun e=>hb (blk A2) (by simp [ndB,e2,Za4]) (by rw [hb',e])⟩,A3,c3,e3,Zf4 o3 fun b cur hb'=>hne b (hty _ _ _ _ hb' (by decide))⟩
theorem DgSt.blocks (h:DgSt w B cb g f s d NA nc ms OA oc outs I0 I1 m0 k0 m1 k1 names):∀ b∈(blk OA::ms.flatMap ndB),∀ k,b=some k→k<w.heap.size:=by
 intro b hb k hk
 rcases List.mem_cons.1 hb with rfl | hb
 ·exact (h.ho.lt k hk).2
 ·obtain ⟨m,hm,hb⟩:=List.mem_flatMap.1 hb
  exact ((h.hr.2 m hm).lt b hb k hk).2
theorem apart_new {m:ND × NV} {mid:Nat} (h:DgSt w B cb g f s d NA nc ms OA oc outs I0 I1 m0 k0 m1 k1 names) (h1:∀ k,m.2.sv.ownBlock=some k→w.heap.size≤k∧k<mid) (h2:∀ k,m.2.av.ownBlock=some k→mid≤k) (hm:w.heap.size≤mid):(blk OA::(ms++[m]).flatMap ndB).Pairwise apart:=by
 have e1:(blk OA::(ms++[m]).flatMap ndB)=(blk OA::ms.flatMap ndB)++[m.2.sv.ownBlock,m.2.av.ownBlock]:=by
  rw [List.flatMap_append]
  simp [ndB]
 rw [e1,List.pairwise_append]
 refine ⟨h.hp,?_,fun x hx y hy => ?_⟩
 ·refine List.Pairwise.cons (fun y hy => ?_) (List.Pairwise.cons (by simp) List.Pairwise.nil)
  rw [List.mem_singleton.1 hy]
  exact ZgY (m:=mid) (fun k hk=>(h1 k hk).2) h2
 ·have hy':y=m.2.sv.ownBlock∨y=m.2.av.ownBlock:=by simpa using hy
  refine ZgY (m:=w.heap.size) (h.blocks x hx) fun k hk => ?_
  rcases hy' with rfl | rfl
  ·exact (h1 k hk).1
  ·exact Kah hm (h2 k hk)
end
section
variable {w5 w6s wr w7:World} {B nb ns al cx ac:Nat} {Ax AA:Option Addr} {dk:Int} {dn:ByteArray} {du:Nat} {da ls:List Int} {dp:Int} {P:Nat→Nat} {m7:ND × NV} {B6:Nat}
theorem node_shape {K:Nat} {ev:Value} {el:List UInt64} (hn:m7.1=⟨kindD dk,ls,da.map fun a=>P a.toNat,0,0,K,el⟩) (hv:m7.2=⟨.slice Ax ns cx,.slice AA al ac,ev⟩) (hc:w7.heap[nb]?=some (.cells #[.int .i64 (kindD dk:Nat),.slice Ax ns cx,.slice AA al ac,.int .i64 0,.int .i64 0,.int .i64 (K:Nat),ev] 77 (0,0)))
  (ha:Own w7 B6 3 AA ac ((da.map fun x=>P x.toNat).map VNt)) (hx:Own w7 w5.heap.size 3 Ax cx (ls.map VI)) (hns:ns=ls.length) (hal:al=da.length) (hls:ns≤1000000) (hda:al≤1000000) (hB:B≤w5.heap.size) (hB6:B≤B6)
  (he:el.length≤1000000∧∃ A c,ev=.slice A el.length c∧Own w7 B 39 A c (el.map U)):
  w7.heap[nb]?=some (.cells (ndC m7).toArray 77 (0,0))∧NdV w7 B m7:=by
 obtain ⟨n,v⟩:=m7
 dsimp only at hn hv
 subst hn hv
 refine ⟨hc,⟨by show ls.length≤_;omega,by show (da.map fun a=>P a.toNat).length≤_;rw [Kak];omega,he.1,⟨Ax,cx,by rw [hns],hx.more hB⟩,⟨AA,ac,?_,ha.more hB6⟩,he.2⟩⟩
 show Value.slice AA al ac=.slice AA (da.map fun a=>P a.toNat).length ac
 rw [Kak,hal]
theorem node_else (hw:w7=wr) (hm:m7=(nodeD ⟨dk,dn,du,da,dp⟩ ls P,⟨.slice Ax ns cx,.slice AA al ac,.slice none 0 0⟩)) (hc:wr.heap[nb]?=some (.cells #[.int .i64 (kindD dk:Nat),.slice Ax ns cx,.slice AA al ac,.int .i64 0,.int .i64 0,.int .i64 0,.slice none 0 0] 77 (0,0)))
  (ha:Own wr B6 3 AA ac ((da.map fun x=>P x.toNat).map VNt)) (hx:Own wr w5.heap.size 3 Ax cx (ls.map VI)) (hns:ns=ls.length) (hal:al=da.length) (k1:dk≠1) (k9:dk≠9) (hls:ns≤1000000) (hda:al≤1000000) (hb:Below w5.heap.size w5 wr) (hB:B≤w5.heap.size) (hB6:B≤B6):
  w7.heap[nb]?=some (.cells (ndC m7).toArray 77 (0,0))∧NdV w7 B m7∧Below w5.heap.size w5 w7∧m7.2.sv=.slice Ax ns cx∧m7.2.av=.slice AA al ac:=by
 subst hw
 obtain ⟨h1,h2⟩:=node_shape (m7:=m7) (dk:=dk) (P:=P) (K:=0) (ev:=.slice none 0 0) (el:=[]) (by rw [hm];unfold nodeD;rw [if_neg k9,if_neg k1]) (by rw [hm]) hc ha hx hns hal hls hda hB hB6 ⟨by simp,none,0,rfl,Own.nil _ _ _⟩
 exact ⟨h1,h2,hb,by rw [hm],by rw [hm]⟩
theorem node_nine (hw:w7=wr.setCell ⟨nb,5,none⟩ (.int .i64 (du:Int))) (hm:m7=(nodeD ⟨dk,dn,du,da,dp⟩ ls P,⟨.slice Ax ns cx,.slice AA al ac,.slice none 0 0⟩)) (hc:wr.heap[nb]?=some (.cells #[.int .i64 (kindD dk:Nat),.slice Ax ns cx,.slice AA al ac,.int .i64 0,.int .i64 0,.int .i64 0,.slice none 0 0] 77 (0,0)))
  (ha:Own wr B6 3 AA ac ((da.map fun x=>P x.toNat).map VNt)) (hx:Own wr w5.heap.size 3 Ax cx (ls.map VI)) (hns:ns=ls.length) (hal:al=da.length) (k9:dk=9) (hls:ns≤1000000) (hda:al≤1000000) (hb:Below w5.heap.size w5 wr) (hnl:w5.heap.size≤nb) (hB:B≤w5.heap.size) (hB6:B≤B6):
  w7.heap[nb]?=some (.cells (ndC m7).toArray 77 (0,0))∧NdV w7 B m7∧Below w5.heap.size w5 w7∧m7.2.sv=.slice Ax ns cx∧m7.2.av=.slice AA al ac:=by
 have hki:KIW wr w7:=by rw [hw];exact KIW.set hc (by decide) (by decide) _
 obtain ⟨h1,h2⟩:=node_shape (m7:=m7) (dk:=dk) (P:=P) (K:=du) (ev:=.slice none 0 0) (el:=[]) (by rw [hm];unfold nodeD;rw [if_pos k9,if_neg (by show ¬ dk=1;omega)]) (by rw [hm]) (by rw [hw];exact heap_setCell_same _ _ _ _ _ _ hc) (own_kiw ha (.inl rfl) hki) (own_kiw hx (.inl rfl) hki) hns hal hls hda hB hB6 ⟨by simp,none,0,rfl,Own.nil _ _ _⟩
 exact ⟨h1,h2,by rw [hw];exact Zaf hb hnl _,by rw [hm],by rw [hm]⟩
theorem node_one (hw:w7=(wr.alloc (.cells #[.int .u64 (du:Int)] 39)).setCell ⟨nb,6,none⟩ (.slice (some ⟨wr.heap.size,0,none⟩) 1 1)) (hm:m7=(nodeD ⟨dk,dn,du,da,dp⟩ ls P,⟨.slice Ax ns cx,.slice AA al ac,.slice (some ⟨wr.heap.size,0,none⟩) 1 1⟩)) (hc:wr.heap[nb]?=some (.cells #[.int .i64 (kindD dk:Nat),.slice Ax ns cx,.slice AA al ac,.int .i64 0,.int .i64 0,.int .i64 0,.slice none 0 0] 77 (0,0)))
  (ha:Own wr B6 3 AA ac ((da.map fun x=>P x.toNat).map VNt)) (hx:Own wr w5.heap.size 3 Ax cx (ls.map VI)) (hns:ns=ls.length) (hal:al=da.length) (k1:dk=1) (hdu:du≤18446744073709551615) (hls:ns≤1000000) (hda:al≤1000000) (hb:Below w5.heap.size w5 wr) (hnl:w5.heap.size≤nb) (hB:B≤w5.heap.size) (hz:B6≤wr.heap.size) (hB6:B≤B6):
  w7.heap[nb]?=some (.cells (ndC m7).toArray 77 (0,0))∧NdV w7 B m7∧Below w5.heap.size w5 w7∧m7.2.sv=.slice Ax ns cx∧m7.2.av=.slice AA al ac:=by
 have hba:=alloc_below wr (.cells #[.int .u64 (du:Int)] 39)
 have hc2:=(hba.block _ (Kab.1 hc).1).trans hc
 have hki:KIW (wr.alloc (.cells #[.int .u64 (du:Int)] 39)) w7:=by rw [hw];exact KIW.set hc2 (by decide) (by decide) _
 have hu:U (UInt64.ofNat du)=.int .u64 (du:Int):=by
  show Value.int .u64 ((UInt64.ofNat du).toNat:Int)=_
  rw [UInt64.toNat_ofNat_of_lt' (by simp only [UInt64.size];omega)]
 have hown:Own (wr.alloc (.cells #[.int .u64 (du:Int)] 39)) B 39 (some ⟨wr.heap.size,0,none⟩) 1 ([UInt64.ofNat du].map U):=by
  rw [List.map_cons,hu]
  exact Own.full wr 39 [.int .u64 (du:Int)] (Kah hB6 hz) (by simp [maxLen])
 obtain ⟨h1,h2⟩:=node_shape (m7:=m7) (dk:=dk) (P:=P) (K:=0) (ev:=.slice (some ⟨wr.heap.size,0,none⟩) 1 1) (el:=[UInt64.ofNat du]) (by rw [hm];unfold nodeD;rw [if_neg (by show ¬ dk=9;omega),if_pos k1]) (by rw [hm]) (by rw [hw];exact heap_setCell_same _ _ _ _ _ _ hc2) (own_kiw (ha.next hba) (.inl rfl) hki) (own_kiw (hx.next hba) (.inl rfl) hki) hns hal hls hda hB hB6 ⟨by simp,_,1,rfl,own_kiw hown (.inr rfl) hki⟩
 exact ⟨h1,h2,by rw [hw];exact Zaf (bnext hb hba) hnl _,by rw [hm],by rw [hm]⟩
end
theorem node_cells7 {w:World} {g:Nat} {m:ND × NV} (h:w.heap[g]?=some (.cells (ndC m).toArray 77 (0,0))):w.cell? ⟨g,0,none⟩=some (.int .i64 m.1.kind)∧w.cell? ⟨g,1,none⟩=some m.2.sv∧w.cell? ⟨g,2,none⟩=some m.2.av∧w.cell? ⟨g,3,none⟩=some (.int .i64 m.1.party)∧w.cell? ⟨g,4,none⟩=some (.int .i64 m.1.input)∧w.cell? ⟨g,5,none⟩=some (.int .i64 m.1.k)∧w.cell? ⟨g,6,none⟩=some m.2.ev:=
 ⟨cells_node h 0 _ rfl,cells_node h 1 _ rfl,cells_node h 2 _ rfl,cells_node h 3 _ rfl,cells_node h 4 _ rfl,cells_node h 5 _ rfl,cells_node h 6 _ rfl⟩
theorem nd_not {m7:ND × NV} {Ax AA:Option Addr} {ns cx al ac gp:Nat} (h1:m7.2.sv=.slice Ax ns cx) (h2:m7.2.av=.slice AA al ac) (hx:∀ q,blk Ax=some q→gp<q) (ha:∀ q,blk AA=some q→gp<q):∀ b∈ndB m7,∀ k,b=some k→gp<k:=by
 intro b hb k e
 have:b=blk Ax∨b=blk AA:=by simpa [ndB,h1,h2,Za4] using hb
 rcases this with h | h
 ·exact hx k (h.symm.trans e)
 ·exact ha k (h.symm.trans e)
theorem let_fin {w2 w5 w7 w8:World} {B cb g:Nat} {f s d:Bool} {NA3:Option Addr} {nc3:Nat} {ms2 ms3:List (ND × NV)} {m7:ND × NV} {OA:Option Addr} {oc:Nat} {outs:List Nat} {I0 I1:Option Addr} {m0 k0 m1 k1:Nat} {names:PlacesD} {gi gp n i p:Nat} {fi:Nat→Value} {P:Nat→Nat}
  (h3:DgSt w8 B cb g f s d NA3 nc3 ms3 OA oc outs I0 I1 m0 k0 m1 k1 names) (h4:KD w7 w8) (h5:Below B w7 w8) (h6:∀ b∈ms3.flatMap ndB,b∈ms2.flatMap ndB∨b∈ndB m7∨b=none) {X:Nat} (hX2:∀ b∈ms2.flatMap ndB,∀ k,b=some k→X≤k) (hXg:X≤gp) (hgp:∀ b∈(blk OA::ms2.flatMap ndB),b≠some gp) (hb7:Below w5.heap.size w5 w7) (hk5:KD w2 w5) (hb5:Below B w2 w5) (hbb:B≤w5.heap.size)
  (hgl:w2.heap.size≤gp) (hgb:B≤gp) (hg7:∀ b∈ndB m7,∀ k,b=some k→gp<k) (hgn:gi≠gp) (hi:i<n) (hI:MkB w7 3 gi n fi) (hP:MkB w7 3 gp n (fun a=>VNt (P a))):
  DgSt (w8.setCell ⟨gp,i,none⟩ (.int .i64 (p:Int))) B cb g f s d NA3 nc3 ms3 OA oc outs I0 I1 m0 k0 m1 k1 names∧MkB (w8.setCell ⟨gp,i,none⟩ (.int .i64 (p:Int))) 3 gi n fi∧MkB (w8.setCell ⟨gp,i,none⟩ (.int .i64 (p:Int))) 3 gp n (fun a=>VNt (updD P i p a))∧((∀ b∈(blk OA::ms3.flatMap ndB),b≠some gp)∧∀ b∈ms3.flatMap ndB,∀ k,b=some k→X≤k)∧KD w2 (w8.setCell ⟨gp,i,none⟩ (.int .i64 (p:Int)))∧Below B w2 (w8.setCell ⟨gp,i,none⟩ (.int .i64 (p:Int))):=by
 have hno:∀ b∈(blk OA::ms3.flatMap ndB),b≠some gp:=fun b hb=>by
  rcases List.mem_cons.1 hb with rfl | hb
  ·exact hgp _ (List.mem_cons_self ..)
  ·rcases h6 b hb with h | h | h
   ·exact hgp b (List.mem_cons_of_mem _ h)
   ·intro e
    have:=hg7 b h gp e
    omega
   ·rw [h];simp
 have hP8:=hP.kd h4
 refine ⟨h3.setInt hP8 hno _,?_,hP8.set hi _ _ (fun a=>by unfold updD;split <;> rfl),⟨hno,fun b hb k e => ?_⟩,((hk5.trans (KD.of hb7)).trans h4).setNew hgl _,setCell_below' ((hb5.trans (hb7.mono hbb)).trans h5) hgb _⟩
 ·exact (ZaS _ _ _ hgn).trans (hI.kd h4)
 ·rcases h6 b hb with h | h | h
  ·exact hX2 b h k e
  ·have:=hg7 b h k e
   omega
  ·rw [h] at e;cases e
def LetRel (w2 wr:World) (B cb g:Nat) (f s d:Bool) (OA:Option Addr) (oc:Nat) (outs:List Nat) (I0 I1:Option Addr) (m0 k0 m1 k1:Nat) (names:PlacesD) (gi gp n:Nat) (m:Nat→Bool) (r:List ND × (Nat→Nat)) (X:Nat):Prop:=
 ∃ NA nc ms,ms.map Prod.fst=r.1∧DgSt wr B cb g f s d NA nc ms OA oc outs I0 I1 m0 k0 m1 k1 names∧MkB wr 3 gi n (fun a=>bI (m a))∧MkB wr 3 gp n (fun a=>VNt (r.2 a))∧((∀ b∈(blk OA::ms.flatMap ndB),b≠some gp)∧∀ b∈ms.flatMap ndB,∀ k,b=some k→X≤k)∧KD w2 wr∧Below B w2 wr
theorem let_any (in0 in1:List (List Int)) (B cb g:Nat) (f s d:Bool) (NA:Option Addr) (nc:Nat) (ms:List (ND × NV)) (OA:Option Addr) (oc:Nat) (outs:List Nat) (I0 I1:Option Addr) (m0 k0 m1 k1:Nat) (names:PlacesD) (w:World)
  (SV:Value) (EA HA:Option Addr) (ne ec:Nat) (es:List EI) (sh:List (List Int)) (sn:Names) (root:Nat) (hS:DgSt w B cb g f s d NA nc ms OA oc outs I0 I1 m0 k0 m1 k1 names) (hSV:SV.oneCell'=true)
  (hne:ne=es.length) (hn:ne≤100000) (hE:RdEI w B EA es) (hnum:∀ e∈es,e.num≤18446744073709551615) (hH:ShB w B HA sh) (hsl:sh.length=ne) (hx:exsOk 0 es=true) (ho:Ahead es) (hlet:LetOk es sn sh root) (hw:WfD in0 in1 (ms.map Prod.fst)) (hnm:NamesD (ms.map Prod.fst) names sn) (hg:∀ W,Below B w W→ETyped W) (hl:ms.length+ne≤1000) (X:Nat) (hX:X≤w.heap.size) (hXm:∀ b∈ms.flatMap ndB,∀ k,b=some k→X≤k):
  Calls Tryz.prog 65 #[.pointer (some ⟨cb,0,none⟩),.agg #[SV,.slice EA ne ec],.int .i64 root,.slice HA ne ne] w fun e w'=>∃ NA' nc' ms',ms'.map Prod.fst=(letD f s es sh names (Zac es root) (ms.map Prod.fst) (root+1)).1∧e=.returned (.int .i64 ((letD f s es sh names (Zac es root) (ms.map Prod.fst) (root+1)).2 root:Nat))∧DgSt w' B cb g f s d NA' nc' ms' OA oc outs I0 I1 m0 k0 m1 k1 names∧KD w w'∧Below B w w'∧∀ b∈ms'.flatMap ndB,∀ k,b=some k→X≤k:=by
 have hBw:B≤w.heap.size:=Kah hS.b1 (Nat.le_of_lt hS.lt)
 obtain ⟨w2,hw2⟩:∃ w2,w2=w.alloc (.cells #[SV,.slice EA ne ec] 26):=⟨_,rfl⟩
 have hb2:Below w.heap.size w w2:=by rw [hw2];exact alloc_below _ _
 have hT:w2.heap[w.heap.size]?=some (.cells #[SV,.slice EA ne ec] 26 (0,0)):=by rw [hw2];exact Kac w _
 obtain ⟨tb,htb⟩:∃ b,b=w.heap.size:=⟨_,rfl⟩
 obtain ⟨gi,hgi⟩:∃ b,b=w2.heap.size:=⟨_,rfl⟩
 rw [←htb] at hT
 obtain ⟨W0,hW0⟩:∃ W0,W0=w2.alloc (.cells ((List.range (root+1)).map fun _=>bI false).toArray 3):=⟨_,rfl⟩
 have hm0:MkB W0 3 gi (root+1) (fun _=>bI false):=by rw [hW0,hgi];exact Kac w2 _
 have hb0:Below w2.heap.size w2 W0:=by rw [hW0];exact alloc_below _ _
 have hr:root<ne:=by rw [hne];exact hlet.1
 have HNE:=hid hne
 have HRD:=hid (hE.below (hb2.mono hBw))
 have HOK:=hid hx
 have HM0:=hid hm0
 have HB0:=hid hb0
 have HTB:=hid htb
 have HGI:=hid hgi
 have HGL:=hid (show w2.heap.size≤gi from Nat.le_of_eq hgi.symm)
 have HC:=hid (fun W (hW:Below w2.heap.size w2 W)=>(show W.cell? ⟨tb,1,none⟩=some (.slice EA ne ec) from Kaa _ _ 1 _ _ _ ((hW.block _ (Kab.1 hT).1).trans hT)))
 have HB2:=hid hb2
 have HST2:=hid (hS.next hb2)
 have hBw0:=hid hBw
 have HXW:=hid (show X≤w2.heap.size from Kah hX hb2.size)
 have HXM:=hid hXm
 have HBw:=hid (show B≤w2.heap.size from Kah hBw hb2.size)
 have HW2:=hid hw2
 have HG2:=hid (fun W (hW:Below B w2 W)=>hg W ((hb2.mono hBw).trans hW))
 have HHS:=hid (hH.below (hb2.mono hBw))
 have HSL:=hid hsl
 have HAH:=hid ho
 have HLET:=hid hlet
 have HWF:=hid hw
 have HNMD:=hid hnm
 have HNUM:=hid hnum
 have HLEN:=hid (show ms.length+ne≤1000 from hl)
 have HSV:=hid hSV
 have HTT:=hid hT
 have HLR:=hid (letD_res (Q:=fun _=>True) (l:=ms.map Prod.fst) (names:=names) f s hx ho hlet hw hnm (fun _ _ _ _ _=>trivial) trivial)
 have fr0:W0.frozen? ⟨gi,root,none⟩=false:=hm0.free root
 have hi0:(0:Int)≤(root:Int):=by omega
 have hi1:(root:Int)<((root+1:Nat):Int):=by omega
 have cw0:=hm0.cell (i:=root) (by omega)
 have hmk:(Instr.makeSlice 41 (.int .i64 ((root:Int)+1)) (.int .i64 ((root:Int)+1))).run Tryz.prog w2=.ok (.slice (some ⟨gi,0,none⟩) (root+1) (root+1)) W0:=by
  rw [hW0,hgi];exact Zfw (root+1) (by omega) w2 ((root:Int)+1) (by simp)
 clear hW0 hm0 hb0 hne hE hx hw2 htb hgi hS hb2 hT hBw hg hH hsl ho hlet hw hnm hnum hSV hX hXm
 go_enter Tryz.func65,Tryz.ntmps65
 go_upto_region 1 with fail
 rw [←HW2.out,←HTB.out]
 go_upto_region 3 with fail
 have HM1:=hid (HM0.out.set (i:=root) (by omega) (.int .i64 1) (fun a=>bI (a==root)) (fun a=>by
  by_cases h:a=root
  ·subst h;simp [bI]
  ·simp [bI,h]))
 have HB1:=hid (Zaf (k:=root) HB0.out HGL.out (.int .i64 1))
 clear fr0 cw0 hmk HM0 HB0 hi0 hi1
 go_wp2_with fail
 go_loopw [10] (fun iv wr=>(∃ (j:Nat) (m:Nat→Bool),j≤root+1∧iv=.int .i64 ((j:Int)-1)∧Zac es root=markP es root j m∧MkB wr 3 gi (root+1) (fun a=>bI (m a)))∧Below w2.heap.size w2 wr) (fun iv _=>(intOf iv+1).toNat)
 case atStart=>exact ⟨⟨root+1,fun a=>a==root,Kag _,(by rw [show ((root+1:Nat):Int)-1=(root:Int) by omega]),rfl,HM1.out⟩,HB1.out⟩
 case round=>
  clear HM1 HB1
  obtain ⟨⟨j,m,hj,rfl,hwm,hM⟩,hb⟩:=hrel
  have HW:=hid hwm
  have HM:=hid hM
  have HB:=hid hb
  clear hwm hM hb
  match j,hj,HW with
  | 0,hj,HW=>
   rw [show (((0:Nat):Int)-1) = -1 by omega]
   have HM:=hid (show MkB wr 3 gi (root+1) (fun a=>bI (Zac es root a)) from by rw [HW.out];exact HM.out)
   clear HW
   obtain ⟨gp,hgp⟩:∃ b,b=wr.heap.size:=⟨_,rfl⟩
   obtain ⟨W1,hW1⟩:∃ W1,W1=wr.alloc (.cells ((List.range (root+1)).map fun _=>bI false).toArray 3):=⟨_,rfl⟩
   have hmk2:(Instr.makeSlice 41 (.int .i64 ((root:Int)+1)) (.int .i64 ((root:Int)+1))).run Tryz.prog wr=.ok (.slice (some ⟨gp,0,none⟩) (root+1) (root+1)) W1:=by
    rw [hW1,hgp];exact Zfw (root+1) (by omega) wr ((root:Int)+1) (by simp)
   have hbW:Below wr.heap.size wr W1:=by rw [hW1];exact alloc_below _ _
   obtain ⟨LD,hLD⟩:∃ F:Nat→List ND × (Nat→Nat),F=fun i=>letD f s es sh names (Zac es root) (ms.map Prod.fst) i:=⟨_,rfl⟩
   have HLD:=hid (show ∀ i,LD i=letD f s es sh names (Zac es root) (ms.map Prod.fst) i from fun i=>by rw [hLD])
   have HGPL:=hid (show w2.heap.size≤gp from by rw [hgp];exact HB.out.size)
   have HGN:=hid (show gi≠gp from by have:=HM.out.lt;omega)
   have HR0:=hid (show LetRel w2 W1 B cb g f s d OA oc outs I0 I1 m0 k0 m1 k1 names gi gp (root+1) (Zac es root) (LD 0) X from ⟨NA,nc,ms,by rw [HLD.out];rfl,HST2.out.next (bnext HB.out hbW),HM.out.next hbW,by
    rw [HLD.out]
    show W1.heap[gp]?=_
    rw [hW1,hgp]
    refine (Kac wr _).trans ?_
    rw [mkb_vnt]
    rfl,⟨fun b hb e=>by have:=HST2.out.blocks b hb gp e;have:=HGPL.out;omega,HXM.out⟩,KD.of (bnext HB.out hbW),(bnext HB.out hbW).mono HBw.out⟩)
   have HXG:=hid (Kah HXW.out HGPL.out)
   have HGPB:=hid (Kah HBw.out HGPL.out)
   have HGIL:=hid (show gp<W1.heap.size from by rw [hW1,hgp];simp)
   clear hgp hW1 hbW hLD HM
   go_upto_region 12 with fail
   clear hmk2 HB
   go_wp2_with fail
   go_loopw [57] (fun iv wr=>∃ i:Nat,i≤root+1∧iv=.int .i64 i∧LetRel w2 wr B cb g f s d OA oc outs I0 I1 m0 k0 m1 k1 names gi gp (root+1) (Zac es root) (LD i) X) (fun iv _=>root+1-(intOf iv).toNat)
   case atStart=>exact ⟨0,by omega,rfl,HR0.out⟩
   case round=>
   clear HR0
   obtain ⟨i,hi,rfl,NA2,nc2,ms2,hms,hD,hI,hP,hgpn,hK,hB⟩:=hrel
   have HMS:=hid hms
   have HDr:=hid hD
   have HIr:=hid hI
   have HPr:=hid hP
   have HGP:=hid hgpn
   have HKr:=hid hK
   have HBr:=hid hB
   clear hms hD hI hP hgpn hK hB
   by_cases hlt:i<root+1
   ·have ht:es[i]?=some (es[i]'(by rw [←HNE.out];omega)):=Kad _
    obtain ⟨e0,he0⟩:∃ d,d=es[i]'(by rw [←HNE.out];omega):=⟨_,rfl⟩
    rw [←he0] at ht
    obtain ⟨b,o,rfl,hbl,c0,c1,c2,⟨A',c',c3,c3r,c3n,c3c,c3d⟩,c4⟩:=(HRD.out.below HBr.out).at_ ht
    obtain ⟨dk,dn,du,da,dp⟩:=e0
    have HT:=hid ht
    dsimp only at c0 c1 c2 c3 c3r c3n c3c c4
    obtain ⟨al,hal⟩:∃ al,al=da.length:=⟨_,rfl⟩
    rw [←hal] at c3 c3n c3c
    have HAL:=hid hal
    have z1:=Kaa _ _ 1 _ _ _ (HKr.out.2 _ _ HTT.out ⟨by decide,by decide⟩)
    have ci:=HIr.out.cell (i:=i) (by omega)
    have i0:(0:Int)≤(i:Int):=by omega
    have i1:(i:Int)<(ne:Int):=by omega
    have i2:(i:Int)<((root+1:Nat):Int):=by omega
    obtain ⟨w5,hw5⟩:∃ w5,w5=wr.alloc (.cells #[.int .i64 dk,.string dn,.int .u64 (du:Int),.slice A' al c',.int .i64 dp] 90):=⟨_,rfl⟩
    obtain ⟨eb,heb⟩:∃ q,q=wr.heap.size:=⟨_,rfl⟩
    have hb5:Below wr.heap.size wr w5:=by rw [hw5];exact alloc_below _ _
    have HE5:=hid (show w5.heap[eb]?=some (.cells #[.int .i64 dk,.string dn,.int .u64 (du:Int),.slice A' al c',.int .i64 dp] 90 (0,0)) from by rw [hw5,heb];exact Kac wr _)
    have HEL:=hid (show eb<w5.heap.size from by rw [hw5,heb];simp)
    have HD5:=hid (HDr.out.next hb5)
    have HI5:=hid (HIr.out.next hb5)
    have HP5:=hid (HPr.out.next hb5)
    have HK5:=hid (HKr.out.trans (KD.of hb5))
    have HB5:=hid (show Below B w2 w5 from HBr.out.trans (hb5.mono (Kah HBw.out HKr.out.1)))
    have HBB5:=hid (show B≤w5.heap.size from Kah (Kah HBw.out HKr.out.1) hb5.size)
    have HEGP:=hid (show eb≠gp from by have:=HPr.out.lt;omega)
    have HGP5:=hid (show gp<wr.heap.size from HPr.out.lt)
    have HAR5:=hid (show Rd w5 B A' (da.map VI) from c3r.below (hb5.mono (Kah HBw.out HKr.out.1)))
    have HZ5:=hid (show wr.heap.size≤w5.heap.size from hb5.size)
    have HW5:=hid hw5
    have HEB:=hid heb
    have HB5r:=hid hb5
    clear ht he0 hal hw5 heb hb5 c3r
    clear ci
    go_upto_region 16 with fail
    rw [←HW5.out,←HEB.out]
    have ci:=HI5.out.cell (i:=i) (by omega)
    have e0:=Kaa _ _ 0 _ _ _ HE5.out
    clear c0 c1 c2 c3 c4 z1
    cases hmi:Zac es root i with
    | false=>
     rw [hmi] at ci
     simp only [bI,Bool.false_eq_true,if_false] at ci
     have HLN:=hid (show LD (i+1)=LD i from by rw [HLD.out,HLD.out];exact letD_skip hmi)
     clear hmi
     go_wp2_with fail
     exact ⟨⟨i+1,by omega,rfl,NA2,nc2,ms2,by rw [HLN.out];exact HMS.out,HD5.out,HI5.out,by rw [HLN.out];exact HP5.out,HGP.out,HK5.out,HB5.out⟩,by simp [intOf];omega⟩
    | true=>
    rw [hmi] at ci
    simp only [bI,if_true] at ci
    have HMI:=hid hmi
    clear hmi
    by_cases h2:dk=2
    ·have q2:(dk==2)=true:=by rw [h2];rfl
     have HLN:=hid (show LD (i+1)=((LD i).1,updD (LD i).2 i (placeD names dn)) from by rw [HLD.out,HLD.out];exact letD_name HMI.out HT.out h2)
     clear h2
     have y7:=(HD5.out.next (Kai _ _).drew).cells.2.2.2.2.2.2.2.1
     have he1:=(((Kai w5.heap.size w5).drew.cell (p:=⟨eb,1,none⟩) HEL.out).trans (Kaa _ _ 1 _ _ _ HE5.out))
     go_upto_region 18 with fail
     refine wp_region_held_drew (S:=(fun w'=>w'.cell? ⟨cb,7,none⟩=some (.map (some g))∧w'.cell? ⟨eb,1,none⟩=some (.string dn))) (by kernel_rfl) ⟨y7,he1⟩ (fun hHeld => ?_)
     obtain ⟨wd,hwd⟩:∃ wd,wd=w5.drew:=⟨_,rfl⟩
     rw [←hwd] at hHeld ⊢
     have BD:=hid (show Below w5.heap.size w5 wd from by rw [hwd];exact (Kai _ _).drew)
     clear hwd y7 he1
     refine tk 0 ?_
     simp only [tkS]
     refine tk 1 ?_
     simp only [tkS]
     refine tk 2 ?_
     simp only [tkS]
     refine tk 3 ?_
     simp only [tkS]
     refine tk 4 ?_
     simp only [tkS]
     refine tk 5 ?_
     simp only [tkS]
     refine tk 6 ?_
     simp only [tkS]
     refine tk 7 ?_
     simp only [tkS]
     have hlk:=run_pl_lookup (HD5.out.next BD.out).hn dn
     refine wpAnyH_ready (rs:=[8]) (by kernel_rfl) (by simp) ?_
     refine AllReadyH.cons (o:=_) rfl (fun K hK => ?_) (AllReadyH.nil)
     go_simp
     clear hlk
     refine hK.out _ _ hHeld (fun hHeld => ?_)
     clear hK K
     try simp only [tkS]
     have MP:=HP5.out.next BD.out
     have cp:=MP.cell (i:=i) (by omega)
     have fp:=MP.free i
     have i0:(0:Int)≤(i:Int):=by omega
     have i1:(i:Int)<((root+1:Nat):Int):=by omega
     refine tk 9 ?_
     simp only [tkS]
     refine wpAnyH_ready (rs:=[10]) (by kernel_rfl) (by simp) ?_
     refine AllReadyH.cons (o:=_) rfl (fun K hK => ?_) (AllReadyH.nil)
     go_simp
     obtain ⟨w6,hw6⟩:∃ w6,w6=wd.setCell ⟨gp,i,none⟩ (.int .i64 (placeD names dn:Nat)):=⟨_,rfl⟩
     rw [←hw6]
     have HD6:=hid (show DgSt w6 B cb g f s d NA2 nc2 ms2 OA oc outs I0 I1 m0 k0 m1 k1 names from by rw [hw6];exact (HD5.out.next BD.out).setInt MP HGP.out.1 _)
     have HP6:=hid (show MkB w6 3 gp (root+1) (fun a=>VNt ((LD (i+1)).2 a)) from by rw [hw6];exact MP.set (by omega) _ _ (fun a=>by rw [HLN.out];unfold updD;dsimp only;split <;> rfl))
     have HI6:=hid (show MkB w6 3 gi (root+1) (fun a=>bI (Zac es root a)) from by rw [hw6];exact (ZaS _ _ _ HGN.out).trans (HI5.out.next BD.out))
     have HK6:=hid (show KD w2 w6 from by rw [hw6];exact (HK5.out.trans (KD.of BD.out)).setNew HGPL.out _)
     have HB6:=hid (show Below B w2 w6 from by rw [hw6];exact setCell_below' (HB5.out.trans (BD.out.mono HBB5.out)) HGPB.out _)
     have HE6:=hid (show w6.heap[eb]?=some (.cells #[.int .i64 dk,.string dn,.int .u64 (du:Int),.slice A' al c',.int .i64 dp] 90 (0,0)) from by rw [hw6];exact (ZaS _ _ _ HEGP.out).trans ((BD.out.block eb HEL.out).trans HE5.out))
     clear hw6 MP cp fp i0 i1
     refine hK.out _ _ ⟨HD6.out.cells.2.2.2.2.2.2.2.1,Kaa _ _ 1 _ _ _ HE6.out⟩ (fun hHeld => ?_)
     clear hK K
     try simp only [tkS]
     refine wpAnyH_done (by kernel_rfl) ?_ _
     go_wp2_with fail
     exact ⟨⟨i+1,by omega,rfl,NA2,nc2,ms2,by rw [HLN.out];exact HMS.out,HD6.out,HI6.out,HP6.out,HGP.out,HK6.out,HB6.out⟩,by simp [intOf];omega⟩
    ·have q2:(dk==2)=false:=by rw [Kaj];exact h2
     have hkn:1≤dk∧dk≤14:=by
      have hex:=ZeT es 0 HOK.out i _ HT.out
      unfold exOk at hex
      rw [Bool.and_eq_true,beq_iff_eq] at hex
      have h:=hex.1
      exact kind_range (k:=dk) (by rw [h];omega)
     have H2:=hid h2
     have HKN:=hid hkn
     have HLN:=hid (show LD (i+1)=((madeD f s (LD i).1 (nodeD ⟨dk,dn,du,da,dp⟩ (sh.getD i []) (LD i).2)).1,updD (LD i).2 i (madeD f s (LD i).1 (nodeD ⟨dk,dn,du,da,dp⟩ (sh.getD i []) (LD i).2)).2) from by rw [HLD.out,HLD.out];exact letD_node HMI.out HT.out h2)
     have HKI:=hid (fun W=>kindOf_any dk (by omega) W)
     obtain ⟨ls,hls⟩:∃ l,l=sh.getD i []:=⟨_,rfl⟩
     have hsi:sh[i]?=some ls:=by
      rw [hls,List.getD_eq_getElem?_getD,Kad (by rw [HSL.out];omega)]
      rfl
     have HLS:=hid hls
     rw [←hls] at HLN
     obtain ⟨hq,rfl,hqB,hsh⟩:=HHS.out
     obtain ⟨As,cs,s0,sr,sl⟩:=hsh i ls hsi
     obtain ⟨ns,hns⟩:∃ n,n=ls.length:=⟨_,rfl⟩
     rw [←hns] at s0 sl
     have HNS:=hid hns
     have HS5:=hid (show ∀ W,Below w5.heap.size w5 W→W.cell? ⟨eb,0,none⟩=some (.int .i64 dk)∧W.cell? ⟨hq,i,none⟩=some (.slice As ns cs) from fun W hW=>⟨Kaa _ _ 0 _ _ _ ((hW.block eb HEL.out).trans HE5.out),((HB5.out.trans (hW.mono HBB5.out)).cell (p:=⟨hq,i,none⟩) hqB).trans s0⟩)
     have HCL:=hid (fun W (hW:Below w5.heap.size w5 W)=>ZdH As ns cs ls W hns (by omega) ((sr.below (HB5.out.trans (hW.mono HBB5.out))).more (Kah HBB5.out hW.size)))
     have i4:(i:Int)<(ne:Int):=by omega
     clear hls hsi hqB hsh s0 sr hns
     go_upto_region 19 with fail
     go_cut [16] (fun p wx=>∃ nb Ax cx,p=.pointer (some ⟨nb,0,none⟩)∧w5.heap.size≤nb∧wx.heap[nb]?=some (.cells #[.int .i64 (kindD dk:Nat),.slice Ax ns cx,.slice none 0 0,.int .i64 0,.int .i64 0,.int .i64 0,.slice none 0 0] 77 (0,0))∧Own wx w5.heap.size 3 Ax cx (ls.map VI)∧Below w5.heap.size w5 wx)
     case first=>
      refine wp_region_held_drew (S:=(fun w'=>w'.cell? ⟨eb,0,none⟩=some (.int .i64 dk)∧w'.cell? ⟨hq,i,none⟩=some (.slice As ns cs))) (by kernel_rfl) (HS5.out _ (Kai _ _).drew) (fun hHeld => ?_)
      obtain ⟨wd,hwd⟩:∃ wd,wd=w5.drew:=⟨_,rfl⟩
      rw [←hwd] at hHeld ⊢
      have BD:=hid (show Below w5.heap.size w5 wd from by rw [hwd];exact (Kai _ _).drew)
      clear hwd
      refine tk 0 ?_
      simp only [tkS]
      refine tk 1 ?_
      simp only [tkS]
      refine tk 3 ?_
      simp only [tkS]
      refine tk 4 ?_
      simp only [tkS]
      refine tk 5 ?_
      simp only [tkS]
      refine tk 6 ?_
      simp only [tkS]
      refine wpAnyH_ready (rs:=[2,9]) (by kernel_rfl) (by simp) ?_
      refine AllReadyH.cons (o:=_) rfl (fun K hK => ?_) (AllReadyH.cons (o:=_) rfl (fun K hK => ?_) (AllReadyH.nil))
      ·go_simp
       go_at_call 112
       refine (HKI.out wd).mono ?_
       rintro e w' ⟨rfl,rfl⟩
       refine hK.out _ _ hHeld (fun hHeld => ?_)
       clear hK K
       try simp only [tkS]
       refine wpAnyH_ready (rs:=[7,9]) (by kernel_rfl) (by simp) ?_
       refine AllReadyH.cons (o:=_) rfl (fun K hK => ?_) (AllReadyH.cons (o:=_) rfl (fun K hK => ?_) (AllReadyH.nil))
       ·go_simp
        go_at_call 55
        refine (HCL.out wd BD.out).mono ?_
        rintro e wc1 ⟨Ax,cx,rfl,ox,bc⟩
        have BC1:=hid (bnext BD.out bc)
        have OX:=hid (ox.more BD.out.size)
        clear ox bc
        refine hK.out _ _ (HS5.out _ BC1.out) (fun hHeld => ?_)
        clear hK K
        try simp only [tkS]
        refine tk 8 ?_
        simp only [tkS]
        refine wpAnyH_ready (rs:=[9]) (by kernel_rfl) (by simp) ?_
        refine AllReadyH.cons (o:=_) rfl (fun K hK => ?_) (AllReadyH.nil)
        ·go_simp
         obtain ⟨wa,hwa⟩:∃ wa,wa=wc1.alloc (.cells #[.int .i64 0,.slice none 0 0,.slice none 0 0,.int .i64 0,.int .i64 0,.int .i64 0,.slice none 0 0] 77):=⟨_,rfl⟩
         obtain ⟨nb,hnb⟩:∃ q,q=wc1.heap.size:=⟨_,rfl⟩
         rw [←hwa,←hnb]
         have ba:Below wc1.heap.size wc1 wa:=by rw [hwa];exact alloc_below _ _
         have BA:=hid (bnext BC1.out ba)
         have HN:=hid (show wa.heap[nb]?=some (.cells #[.int .i64 0,.slice none 0 0,.slice none 0 0,.int .i64 0,.int .i64 0,.int .i64 0,.slice none 0 0] 77 (0,0)) from by rw [hwa,hnb];exact Kac wc1 _)
         have HNL:=hid (show w5.heap.size≤nb from by rw [hnb];exact BC1.out.size)
         have OX:=hid (OX.out.next ba)
         clear hwa hnb ba
         refine hK.out _ _ (HS5.out _ BA.out) (fun hHeld => ?_)
         clear hK K
         try simp only [tkS]
         have d0:=Kaa _ _ 0 _ _ _ HN.out
         have d1:=Kaa _ _ 1 _ _ _ HN.out
         have d2:=Kaa _ _ 2 _ _ _ HN.out
         have d3:=Kaa _ _ 3 _ _ _ HN.out
         have d4:=Kaa _ _ 4 _ _ _ HN.out
         have d5:=Kaa _ _ 5 _ _ _ HN.out
         have d6:=Kaa _ _ 6 _ _ _ HN.out
         have fz:∀ k,wa.frozen? ⟨nb,k,none⟩=false:=fun k=>by simp [World.frozen?,HN.out]
         refine wpAnyH_ready (rs:=[10]) (by kernel_rfl) (by simp) ?_
         refine AllReadyH.cons (o:=_) rfl (fun K hK => ?_) (AllReadyH.nil)
         go_simp
         obtain ⟨w6,hw6⟩:∃ w6,w6=(((((((wa.setCell ⟨nb,0,none⟩ (.int .i64 (kindD dk:Nat))).setCell ⟨nb,1,none⟩ (.slice Ax ns cx)).setCell ⟨nb,2,none⟩ (.slice none 0 0)).setCell ⟨nb,3,none⟩ (.int .i64 0)).setCell ⟨nb,4,none⟩ (.int .i64 0)).setCell ⟨nb,5,none⟩ (.int .i64 0)).setCell ⟨nb,6,none⟩ (.slice none 0 0)):=⟨_,rfl⟩
         rw [←hw6]
         have HN6:=hid (show w6.heap[nb]?=some (.cells #[.int .i64 (kindD dk:Nat),.slice Ax ns cx,.slice none 0 0,.int .i64 0,.int .i64 0,.int .i64 0,.slice none 0 0] 77 (0,0)) from by rw [hw6];exact set7 HN.out)
         have hne6:∀ q,q≠nb→w6.heap[q]?=wa.heap[q]?:=fun q hq=>by rw [hw6];rw [ZaS _ _ _ hq,ZaS _ _ _ hq,ZaS _ _ _ hq,ZaS _ _ _ hq,ZaS _ _ _ hq,ZaS _ _ _ hq,ZaS _ _ _ hq]
         have OX6:=hid (Zf4 OX.out (w':=w6) fun q cur hq=>hne6 q fun e=>by rw [e,HN.out] at hq;injection hq with hq;injection hq with _ hq _;exact absurd hq (by decide))
         have B6:=hid (show Below w5.heap.size w5 w6 from by rw [hw6];exact Zaf (Zaf (Zaf (Zaf (Zaf (Zaf (Zaf BA.out HNL.out _) HNL.out _) HNL.out _) HNL.out _) HNL.out _) HNL.out _) HNL.out _)
         clear hw6 hne6 d0 d1 d2 d3 d4 d5 d6 fz
         refine hK.out _ _ (HS5.out _ B6.out) (fun hHeld => ?_)
         clear hK K
         try simp only [tkS]
         refine wpAnyH_done (by kernel_rfl) ?_ _
         go_wp2_with fail
         go_meet
         exact ⟨nb,Ax,cx,rfl,HNL.out,HN6.out,OX6.out,B6.out⟩
       ·go_simp
        obtain ⟨wa,hwa⟩:∃ wa,wa=wd.alloc (.cells #[.int .i64 0,.slice none 0 0,.slice none 0 0,.int .i64 0,.int .i64 0,.int .i64 0,.slice none 0 0] 77):=⟨_,rfl⟩
        obtain ⟨nb,hnb⟩:∃ q,q=wd.heap.size:=⟨_,rfl⟩
        rw [←hwa,←hnb]
        have ba:Below wd.heap.size wd wa:=by rw [hwa];exact alloc_below _ _
        have BA:=hid (bnext BD.out ba)
        have HN:=hid (show wa.heap[nb]?=some (.cells #[.int .i64 0,.slice none 0 0,.slice none 0 0,.int .i64 0,.int .i64 0,.int .i64 0,.slice none 0 0] 77 (0,0)) from by rw [hwa,hnb];exact Kac wd _)
        have HNL:=hid (show w5.heap.size≤nb from by rw [hnb];exact BD.out.size)
        clear hwa hnb ba
        refine hK.out _ _ (HS5.out _ BA.out) (fun hHeld => ?_)
        clear hK K
        try simp only [tkS]
        refine wpAnyH_ready (rs:=[7]) (by kernel_rfl) (by simp) ?_
        refine AllReadyH.cons (o:=_) rfl (fun K hK => ?_) (AllReadyH.nil)
        ·go_simp
         go_at_call 55
         refine (HCL.out wa BA.out).mono ?_
         rintro e wc2 ⟨Ax,cx,rfl,ox,bc⟩
         have BC2:=hid (bnext BA.out bc)
         have HN:=hid ((bc.block _ (Kab.1 HN.out).1).trans HN.out)
         have OX:=hid (ox.more BA.out.size)
         clear ox bc
         refine hK.out _ _ (HS5.out _ BC2.out) (fun hHeld => ?_)
         clear hK K
         try simp only [tkS]
         refine tk 8 ?_
         simp only [tkS]
         have d0:=Kaa _ _ 0 _ _ _ HN.out
         have d1:=Kaa _ _ 1 _ _ _ HN.out
         have d2:=Kaa _ _ 2 _ _ _ HN.out
         have d3:=Kaa _ _ 3 _ _ _ HN.out
         have d4:=Kaa _ _ 4 _ _ _ HN.out
         have d5:=Kaa _ _ 5 _ _ _ HN.out
         have d6:=Kaa _ _ 6 _ _ _ HN.out
         have fz:∀ k,wc2.frozen? ⟨nb,k,none⟩=false:=fun k=>by simp [World.frozen?,HN.out]
         refine wpAnyH_ready (rs:=[10]) (by kernel_rfl) (by simp) ?_
         refine AllReadyH.cons (o:=_) rfl (fun K hK => ?_) (AllReadyH.nil)
         go_simp
         obtain ⟨w6,hw6⟩:∃ w6,w6=(((((((wc2.setCell ⟨nb,0,none⟩ (.int .i64 (kindD dk:Nat))).setCell ⟨nb,1,none⟩ (.slice Ax ns cx)).setCell ⟨nb,2,none⟩ (.slice none 0 0)).setCell ⟨nb,3,none⟩ (.int .i64 0)).setCell ⟨nb,4,none⟩ (.int .i64 0)).setCell ⟨nb,5,none⟩ (.int .i64 0)).setCell ⟨nb,6,none⟩ (.slice none 0 0)):=⟨_,rfl⟩
         rw [←hw6]
         have HN6:=hid (show w6.heap[nb]?=some (.cells #[.int .i64 (kindD dk:Nat),.slice Ax ns cx,.slice none 0 0,.int .i64 0,.int .i64 0,.int .i64 0,.slice none 0 0] 77 (0,0)) from by rw [hw6];exact set7 HN.out)
         have hne6:∀ q,q≠nb→w6.heap[q]?=wc2.heap[q]?:=fun q hq=>by rw [hw6];rw [ZaS _ _ _ hq,ZaS _ _ _ hq,ZaS _ _ _ hq,ZaS _ _ _ hq,ZaS _ _ _ hq,ZaS _ _ _ hq,ZaS _ _ _ hq]
         have OX6:=hid (Zf4 OX.out (w':=w6) fun q cur hq=>hne6 q fun e=>by rw [e,HN.out] at hq;injection hq with hq;injection hq with _ hq _;exact absurd hq (by decide))
         have B6:=hid (show Below w5.heap.size w5 w6 from by rw [hw6];exact Zaf (Zaf (Zaf (Zaf (Zaf (Zaf (Zaf BC2.out HNL.out _) HNL.out _) HNL.out _) HNL.out _) HNL.out _) HNL.out _) HNL.out _)
         clear hw6 hne6 d0 d1 d2 d3 d4 d5 d6 fz
         refine hK.out _ _ (HS5.out _ B6.out) (fun hHeld => ?_)
         clear hK K
         try simp only [tkS]
         refine wpAnyH_done (by kernel_rfl) ?_ _
         go_wp2_with fail
         go_meet
         exact ⟨nb,Ax,cx,rfl,HNL.out,HN6.out,OX6.out,B6.out⟩
      ·go_simp
       obtain ⟨wa,hwa⟩:∃ wa,wa=wd.alloc (.cells #[.int .i64 0,.slice none 0 0,.slice none 0 0,.int .i64 0,.int .i64 0,.int .i64 0,.slice none 0 0] 77):=⟨_,rfl⟩
       obtain ⟨nb,hnb⟩:∃ q,q=wd.heap.size:=⟨_,rfl⟩
       rw [←hwa,←hnb]
       have ba:Below wd.heap.size wd wa:=by rw [hwa];exact alloc_below _ _
       have BA:=hid (bnext BD.out ba)
       have HN:=hid (show wa.heap[nb]?=some (.cells #[.int .i64 0,.slice none 0 0,.slice none 0 0,.int .i64 0,.int .i64 0,.int .i64 0,.slice none 0 0] 77 (0,0)) from by rw [hwa,hnb];exact Kac wd _)
       have HNL:=hid (show w5.heap.size≤nb from by rw [hnb];exact BD.out.size)
       clear hwa hnb ba
       refine hK.out _ _ (HS5.out _ BA.out) (fun hHeld => ?_)
       clear hK K
       try simp only [tkS]
       refine wpAnyH_ready (rs:=[2]) (by kernel_rfl) (by simp) ?_
       refine AllReadyH.cons (o:=_) rfl (fun K hK => ?_) (AllReadyH.nil)
       ·go_simp
        go_at_call 112
        refine (HKI.out wa).mono ?_
        rintro e w' ⟨rfl,rfl⟩
        refine hK.out _ _ hHeld (fun hHeld => ?_)
        clear hK K
        try simp only [tkS]
        refine wpAnyH_ready (rs:=[7]) (by kernel_rfl) (by simp) ?_
        refine AllReadyH.cons (o:=_) rfl (fun K hK => ?_) (AllReadyH.nil)
        ·go_simp
         go_at_call 55
         refine (HCL.out wa BA.out).mono ?_
         rintro e wc2 ⟨Ax,cx,rfl,ox,bc⟩
         have BC2:=hid (bnext BA.out bc)
         have HN:=hid ((bc.block _ (Kab.1 HN.out).1).trans HN.out)
         have OX:=hid (ox.more BA.out.size)
         clear ox bc
         refine hK.out _ _ (HS5.out _ BC2.out) (fun hHeld => ?_)
         clear hK K
         try simp only [tkS]
         refine tk 8 ?_
         simp only [tkS]
         have d0:=Kaa _ _ 0 _ _ _ HN.out
         have d1:=Kaa _ _ 1 _ _ _ HN.out
         have d2:=Kaa _ _ 2 _ _ _ HN.out
         have d3:=Kaa _ _ 3 _ _ _ HN.out
         have d4:=Kaa _ _ 4 _ _ _ HN.out
         have d5:=Kaa _ _ 5 _ _ _ HN.out
         have d6:=Kaa _ _ 6 _ _ _ HN.out
         have fz:∀ k,wc2.frozen? ⟨nb,k,none⟩=false:=fun k=>by simp [World.frozen?,HN.out]
         refine wpAnyH_ready (rs:=[10]) (by kernel_rfl) (by simp) ?_
         refine AllReadyH.cons (o:=_) rfl (fun K hK => ?_) (AllReadyH.nil)
         go_simp
         obtain ⟨w6,hw6⟩:∃ w6,w6=(((((((wc2.setCell ⟨nb,0,none⟩ (.int .i64 (kindD dk:Nat))).setCell ⟨nb,1,none⟩ (.slice Ax ns cx)).setCell ⟨nb,2,none⟩ (.slice none 0 0)).setCell ⟨nb,3,none⟩ (.int .i64 0)).setCell ⟨nb,4,none⟩ (.int .i64 0)).setCell ⟨nb,5,none⟩ (.int .i64 0)).setCell ⟨nb,6,none⟩ (.slice none 0 0)):=⟨_,rfl⟩
         rw [←hw6]
         have HN6:=hid (show w6.heap[nb]?=some (.cells #[.int .i64 (kindD dk:Nat),.slice Ax ns cx,.slice none 0 0,.int .i64 0,.int .i64 0,.int .i64 0,.slice none 0 0] 77 (0,0)) from by rw [hw6];exact set7 HN.out)
         have hne6:∀ q,q≠nb→w6.heap[q]?=wc2.heap[q]?:=fun q hq=>by rw [hw6];rw [ZaS _ _ _ hq,ZaS _ _ _ hq,ZaS _ _ _ hq,ZaS _ _ _ hq,ZaS _ _ _ hq,ZaS _ _ _ hq,ZaS _ _ _ hq]
         have OX6:=hid (Zf4 OX.out (w':=w6) fun q cur hq=>hne6 q fun e=>by rw [e,HN.out] at hq;injection hq with hq;injection hq with _ hq _;exact absurd hq (by decide))
         have B6:=hid (show Below w5.heap.size w5 w6 from by rw [hw6];exact Zaf (Zaf (Zaf (Zaf (Zaf (Zaf (Zaf BC2.out HNL.out _) HNL.out _) HNL.out _) HNL.out _) HNL.out _) HNL.out _) HNL.out _)
         clear hw6 hne6 d0 d1 d2 d3 d4 d5 d6 fz
         refine hK.out _ _ (HS5.out _ B6.out) (fun hHeld => ?_)
         clear hK K
         try simp only [tkS]
         refine wpAnyH_done (by kernel_rfl) ?_ _
         go_wp2_with fail
         go_meet
         exact ⟨nb,Ax,cx,rfl,HNL.out,HN6.out,OX6.out,B6.out⟩
     case rest=>
     obtain ⟨nb,Ax,cx,rfl,hnl,hn6,hx6,hb6⟩:=hcut
     obtain ⟨w6,hw6⟩:∃ w6,w6=wc:=⟨_,rfl⟩
     rw [←hw6] at hn6 hx6 hb6 ⊢
     have HNL:=hid hnl
     have HN6:=hid hn6
     have HX6:=hid hx6
     have HB6s:=hid hb6.size
     have HN6L:=hid (show nb<w6.heap.size from (Kab.1 hn6).1)
     have HX6L:=hid (show ∀ q,blk Ax=some q→q<w6.heap.size from fun q hq=>(hx6.lt q hq).2)
     have e3:=Kaa _ _ 3 _ _ _ ((hb6.block eb HEL.out).trans HE5.out)
     have HB6:=hid hb6
     clear hw6 hnl hn6 hx6 hb6 q2 e0 ci
     go_wp2_with fail
     clear e3
     have hal3:al≤3:=by
      have hex:=ZeT es 0 HOK.out i _ HT.out
      unfold exOk at hex
      rw [Bool.and_eq_true,beq_iff_eq] at hex
      have h:=hex.1
      have h3:=made_le3 dk
      dsimp only at h
      rw [HAL.out]
      omega
     go_loopw [95] (fun kv wr2=>∃ (k:Nat) (AA:Option Addr) (ac:Nat),k≤al∧kv=.int .i64 k∧wr2.heap[nb]?=some (.cells #[.int .i64 (kindD dk:Nat),.slice Ax ns cx,.slice AA k ac,.int .i64 0,.int .i64 0,.int .i64 0,.slice none 0 0] 77 (0,0))∧Own wr2 w6.heap.size 3 AA ac ((da.take k).map fun x=>VNt ((LD i).2 x.toNat))∧Own wr2 w5.heap.size 3 Ax cx (ls.map VI)∧w6.heap.size≤wr2.heap.size∧Below w5.heap.size w5 wr2) (fun kv _=>al-(intOf kv).toNat)
     case atStart=>exact ⟨0,none,0,by omega,rfl,HN6.out,Own.nil _ _ _,HX6.out,Kag _,HB6.out⟩
     case round=>
      obtain ⟨k,AA,ac,hk,rfl,hnr,har,hxr,hzr,hbr⟩:=hrel
      have HNr:=hid hnr
      have HAr:=hid har
      have HXr:=hid hxr
      have HZr:=hid hzr
      have HBr:=hid hbr
      clear hnr har hxr hzr hbr
      by_cases hlk:k<al
      ·have htk:da[k]?=some (da[k]'(by rw [←HAL.out];exact hlk)):=Kad _
       obtain ⟨x,hx⟩:∃ d,d=da[k]'(by rw [←HAL.out];exact hlk):=⟨_,rfl⟩
       rw [←hx] at htk
       obtain ⟨x0,x1⟩:=Zc0 HOK.out HT.out htk
       obtain ⟨a,rfl⟩:∃ a:Nat,x=(a:Int):=⟨x.toNat,by omega⟩
       obtain ⟨b2,o2,rfl,hbl2,d0⟩:=(HAR5.out.below (HBr.out.mono HBB5.out)).at_ (show (da.map VI)[k]?=some (VI (a:Int)) by rw [Kal,htk];rfl)
       unfold VI at d0
       have j0:(0:Int)≤(k:Int):=by omega
       have j1:(k:Int)<(al:Int):=by omega
       have a0:(0:Int)≤(a:Int):=by omega
       have a1:(a:Int)<((root+1:Nat):Int):=by omega
       have a2:(a:Int)<(root:Int)+1:=by omega
       have HDT:=hid htk
       have HKL:=hid (show k=((da.take k).map fun x=>VNt ((LD i).2 x.toNat)).length from by rw [Kak,List.length_take,←HAL.out];omega)
       have HPC:=hid (show ∀ W,Below w5.heap.size w5 W→W.cell? ⟨gp,a,none⟩=some (.int .i64 ((LD i).2 a:Nat)) from fun W hW=>(HP5.out.next hW).cell (by omega))
       clear htk hx hbl2 x0 x1
       go_upto_region 23 with fail
       clear d0
       refine wp_region_held_drew (S:=(fun w'=>w'.cell? ⟨gp,a,none⟩=some (.int .i64 ((LD i).2 a:Nat)))) (by kernel_rfl) (HPC.out _ HBr.out.drew) (fun hHeld => ?_)
       obtain ⟨wd,hwd⟩:∃ wd,wd=wr.drew:=⟨_,rfl⟩
       rw [←hwd] at hHeld ⊢
       have BD:=hid (show Below w5.heap.size w5 wd from by rw [hwd];exact HBr.out.drew)
       have HND:=hid (show wd.heap[nb]?=some (.cells #[.int .i64 (kindD dk:Nat),.slice Ax ns cx,.slice AA k ac,.int .i64 0,.int .i64 0,.int .i64 0,.slice none 0 0] 77 (0,0)) from by rw [hwd];exact HNr.out)
       have HAD:=hid (show Own wd w6.heap.size 3 AA ac ((da.take k).map fun x=>VNt ((LD i).2 x.toNat)) from by rw [hwd];exact HAr.out)
       have HXD:=hid (show Own wd w5.heap.size 3 Ax cx (ls.map VI) from by rw [hwd];exact HXr.out)
       have HZD:=hid (show w6.heap.size≤wd.heap.size from by rw [hwd];exact HZr.out)
       clear hwd
       refine tk 0 ?_
       simp only [tkS]
       refine tk 2 ?_
       simp only [tkS]
       refine tk 3 ?_
       simp only [tkS]
       refine tk 4 ?_
       simp only [tkS]
       refine tk 5 ?_
       simp only [tkS]
       refine wpAnyH_ready (rs:=[1,6]) (by kernel_rfl) (by simp) ?_
       refine AllReadyH.cons (o:=_) rfl (fun K hK => ?_) (AllReadyH.cons (o:=_) rfl (fun K hK => ?_) (AllReadyH.nil))
       ·have z2:=Kaa _ _ 2 _ _ _ HND.out
        go_simp
        clear z2
        refine hK.out _ _ hHeld (fun hHeld => ?_)
        clear hK K
        try simp only [tkS]
        refine wpAnyH_ready (rs:=[6]) (by kernel_rfl) (by simp) ?_
        refine AllReadyH.cons (o:=_) rfl (fun K hK => ?_) (AllReadyH.nil)
        go_simp
        obtain ⟨wa,hwa⟩:∃ wa,wa=wd.alloc (.cells #[.int .i64 ((LD i).2 a:Nat)] 3):=⟨_,rfl⟩
        obtain ⟨ga,hga⟩:∃ q,q=wd.heap.size:=⟨_,rfl⟩
        rw [←hwa,←hga]
        have ba:Below wd.heap.size wd wa:=by rw [hwa];exact alloc_below _ _
        have BA:=hid (bnext BD.out ba)
        have HGA:=hid (show wa.heap[ga]?=some (.cells #[.int .i64 ((LD i).2 a:Nat)] 3 (0,0)) from by rw [hwa,hga];exact Kac wd _)
        have HND:=hid ((ba.block _ (Kab.1 HND.out).1).trans HND.out)
        have HAD:=hid (HAD.out.next ba)
        have HXD:=hid (HXD.out.next ba)
        have HZD:=hid (Kah HZD.out ba.size)
        clear hwa hga ba
        refine hK.out _ _ (HPC.out _ BA.out) (fun hHeld => ?_)
        clear hK K
        try simp only [tkS]
        refine wpAnyH_ready (rs:=[7]) (by kernel_rfl) (by simp) ?_
        refine AllReadyH.cons (o:=_) rfl (fun K hK => ?_) (AllReadyH.nil)
        refine wp_app1 (.tmp 100) (.tmp 105) rfl w6.heap.size AA ac k ((da.take k).map fun x=>VNt ((LD i).2 x.toNat)) HKL.out rfl HAD.out ga rfl (.int .i64 ((LD i).2 a:Nat)) HGA.out rfl (by omega) HZD.out ?_
        intro A8 c8 w8 o8 g8
        have B8:=hid (Zal BA.out g8 BA.out.size (fun q hq=>Kah HB6s.out (HAD.out.lt q hq).1))
        have HN8:=hid ((g8.block nb (Kab.1 HND.out).1 (fun e=>by have:=(HAD.out.lt nb e.symm).1;have:=HN6L.out;omega)).trans HND.out)
        have HX8:=hid (own_at HXD.out (w':=w8) fun q hq=>g8.block q (HXD.out.lt q hq).2 (fun e=>by have:=(HAD.out.lt q e.symm).1;have:=HX6L.out q hq;omega))
        have HZ8:=hid (Kah HZD.out g8.size)
        refine hK.out _ _ (HPC.out _ B8.out) (fun hHeld => ?_)
        clear hK K
        try simp only [tkS]
        refine tk 8 ?_
        simp only [tkS]
        have d2:=Kaa _ _ 2 _ _ _ HN8.out
        have fz:∀ k,w8.frozen? ⟨nb,k,none⟩=false:=fun k=>by simp [World.frozen?,HN8.out]
        refine wpAnyH_ready (rs:=[9]) (by kernel_rfl) (by simp) ?_
        refine AllReadyH.cons (o:=_) rfl (fun K hK => ?_) (AllReadyH.nil)
        go_simp
        obtain ⟨w9,hw9⟩:∃ w9,w9=w8.setCell ⟨nb,2,none⟩ (.slice A8 (k+1) c8):=⟨_,rfl⟩
        rw [←hw9]
        have HN9:=hid (show w9.heap[nb]?=some (.cells #[.int .i64 (kindD dk:Nat),.slice Ax ns cx,.slice A8 (k+1) c8,.int .i64 0,.int .i64 0,.int .i64 0,.slice none 0 0] 77 (0,0)) from by rw [hw9];exact heap_setCell_same _ _ _ _ _ _ HN8.out)
        have hki:KIW w8 w9:=by rw [hw9];exact KIW.set HN8.out (by decide) (by decide) _
        have HA9:=hid (own_kiw o8 (.inl rfl) hki)
        have HX9:=hid (own_kiw HX8.out (.inl rfl) hki)
        have B9:=hid (show Below w5.heap.size w5 w9 from by rw [hw9];exact Zaf B8.out HNL.out _)
        have HZ9:=hid (show w6.heap.size≤w9.heap.size from by rw [hw9];simpa [World.setCell] using HZ8.out)
        clear hw9 hki d2 fz o8 g8
        refine hK.out _ _ (HPC.out _ B9.out) (fun hHeld => ?_)
        clear hK K
        try simp only [tkS]
        refine wpAnyH_done (by kernel_rfl) ?_ _
        go_wp2_with fail
        exact ⟨⟨k+1,A8,c8,by omega,rfl,HN9.out,by rw [take_map_snoc HDT.out];exact HA9.out,HX9.out,HZ9.out,B9.out⟩,by simp [intOf];omega⟩
       ·go_simp
        obtain ⟨wa,hwa⟩:∃ wa,wa=wd.alloc (.cells #[.int .i64 ((LD i).2 a:Nat)] 3):=⟨_,rfl⟩
        obtain ⟨ga,hga⟩:∃ q,q=wd.heap.size:=⟨_,rfl⟩
        rw [←hwa,←hga]
        have ba:Below wd.heap.size wd wa:=by rw [hwa];exact alloc_below _ _
        have BA:=hid (bnext BD.out ba)
        have HGA:=hid (show wa.heap[ga]?=some (.cells #[.int .i64 ((LD i).2 a:Nat)] 3 (0,0)) from by rw [hwa,hga];exact Kac wd _)
        have HND:=hid ((ba.block _ (Kab.1 HND.out).1).trans HND.out)
        have HAD:=hid (HAD.out.next ba)
        have HXD:=hid (HXD.out.next ba)
        have HZD:=hid (Kah HZD.out ba.size)
        clear hwa hga ba
        refine hK.out _ _ (HPC.out _ BA.out) (fun hHeld => ?_)
        clear hK K
        try simp only [tkS]
        refine wpAnyH_ready (rs:=[1]) (by kernel_rfl) (by simp) ?_
        refine AllReadyH.cons (o:=_) rfl (fun K hK => ?_) (AllReadyH.nil)
        have z2:=Kaa _ _ 2 _ _ _ HND.out
        go_simp
        clear z2
        refine hK.out _ _ hHeld (fun hHeld => ?_)
        clear hK K
        try simp only [tkS]
        refine wpAnyH_ready (rs:=[7]) (by kernel_rfl) (by simp) ?_
        refine AllReadyH.cons (o:=_) rfl (fun K hK => ?_) (AllReadyH.nil)
        refine wp_app1 (.tmp 100) (.tmp 105) rfl w6.heap.size AA ac k ((da.take k).map fun x=>VNt ((LD i).2 x.toNat)) HKL.out rfl HAD.out ga rfl (.int .i64 ((LD i).2 a:Nat)) HGA.out rfl (by omega) HZD.out ?_
        intro A8 c8 w8 o8 g8
        have B8:=hid (Zal BA.out g8 BA.out.size (fun q hq=>Kah HB6s.out (HAD.out.lt q hq).1))
        have HN8:=hid ((g8.block nb (Kab.1 HND.out).1 (fun e=>by have:=(HAD.out.lt nb e.symm).1;have:=HN6L.out;omega)).trans HND.out)
        have HX8:=hid (own_at HXD.out (w':=w8) fun q hq=>g8.block q (HXD.out.lt q hq).2 (fun e=>by have:=(HAD.out.lt q e.symm).1;have:=HX6L.out q hq;omega))
        have HZ8:=hid (Kah HZD.out g8.size)
        refine hK.out _ _ (HPC.out _ B8.out) (fun hHeld => ?_)
        clear hK K
        try simp only [tkS]
        refine tk 8 ?_
        simp only [tkS]
        have d2:=Kaa _ _ 2 _ _ _ HN8.out
        have fz:∀ k,w8.frozen? ⟨nb,k,none⟩=false:=fun k=>by simp [World.frozen?,HN8.out]
        refine wpAnyH_ready (rs:=[9]) (by kernel_rfl) (by simp) ?_
        refine AllReadyH.cons (o:=_) rfl (fun K hK => ?_) (AllReadyH.nil)
        go_simp
        obtain ⟨w9,hw9⟩:∃ w9,w9=w8.setCell ⟨nb,2,none⟩ (.slice A8 (k+1) c8):=⟨_,rfl⟩
        rw [←hw9]
        have HN9:=hid (show w9.heap[nb]?=some (.cells #[.int .i64 (kindD dk:Nat),.slice Ax ns cx,.slice A8 (k+1) c8,.int .i64 0,.int .i64 0,.int .i64 0,.slice none 0 0] 77 (0,0)) from by rw [hw9];exact heap_setCell_same _ _ _ _ _ _ HN8.out)
        have hki:KIW w8 w9:=by rw [hw9];exact KIW.set HN8.out (by decide) (by decide) _
        have HA9:=hid (own_kiw o8 (.inl rfl) hki)
        have HX9:=hid (own_kiw HX8.out (.inl rfl) hki)
        have B9:=hid (show Below w5.heap.size w5 w9 from by rw [hw9];exact Zaf B8.out HNL.out _)
        have HZ9:=hid (show w6.heap.size≤w9.heap.size from by rw [hw9];simpa [World.setCell] using HZ8.out)
        clear hw9 hki d2 fz o8 g8
        refine hK.out _ _ (HPC.out _ B9.out) (fun hHeld => ?_)
        clear hK K
        try simp only [tkS]
        refine wpAnyH_done (by kernel_rfl) ?_ _
        go_wp2_with fail
        exact ⟨⟨k+1,A8,c8,by omega,rfl,HN9.out,by rw [take_map_snoc HDT.out];exact HA9.out,HX9.out,HZ9.out,B9.out⟩,by simp [intOf];omega⟩
      ·obtain rfl:al=k:=by omega
       have ek:=(HBr.out.block eb HEL.out).trans HE5.out
       have e0:=Kaa _ _ 0 _ _ _ ek
       have e2:=Kaa _ _ 2 _ _ _ ek
       have n5:=Kaa _ _ 5 _ _ _ HNr.out
       have n6:=Kaa _ _ 6 _ _ _ HNr.out
       have fz:∀ k,wr.frozen? ⟨nb,k,none⟩=false:=fun k=>by simp [World.frozen?,HNr.out]
       have HLRi:=hid (show LetRes (fun _=>True) in0 in1 (ms.map Prod.fst) sh (Zac es root) i (LD i) from by rw [HLD.out];exact HLR.out i)
       have HWFi:=hid HLRi.out.wf
       obtain ⟨ee,hee,hec⟩:=HLET.out.2 i HMI.out
       have hee':ee=⟨dk,dn,du,da,dp⟩:=by rw [HT.out] at hee;injection hee with hee;exact hee.symm
       rw [hee',←HLS.out] at hec
       have HNOK:=hid (nodeD_ok (in0:=in0) (in1:=in1) (l:=(LD i).1) (P:=(LD i).2) hec H2.out (by
        have hex:=ZeT es 0 HOK.out i _ HT.out
        unfold exOk at hex
        rw [Bool.and_eq_true,beq_iff_eq] at hex
        exact hex.1.symm) HKN.out (fun a ha=>by
        have h3:=HAH.out i _ HT.out a ha
        exact HLRi.out.at_ a.toNat (by omega) (Zbi HAH.out HLET.out.1 i _ HMI.out HT.out a ha)))
       have HLNi:=hid (show (LD i).1.length≤1000 from by
        have h:=letD_len f s es sh names (Zac es root) (ms.map Prod.fst) i
        rw [←HLD.out,Kak] at h
        have:=HLEN.out
        omega)
       have HDF:=hid (show (da.take al)=da from by rw [HAL.out];exact List.take_length)
       have HAr2:=hid (show Own wr w6.heap.size 3 AA ac ((da.map fun x=>(LD i).2 x.toNat).map VNt) from by have h:=HAr.out;rw [HDF.out] at h;rw [List.map_map];exact h)
       clear hee hee' hec ek
       by_cases hd1:dk=1
       ·have q1:(dk==1)=true:=by rw [hd1];rfl
        have q9:(dk==9)=false:=by rw [hd1];rfl
        have hna:=((alloc_below wr (.cells #[.int .u64 (du:Int)] 39)).block nb (Kab.1 HNr.out).1).trans HNr.out
        have n6':=Kaa _ _ 6 _ _ _ hna
        have fz':∀ k,(wr.alloc (.cells #[.int .u64 (du:Int)] 39)).frozen? ⟨nb,k,none⟩=false:=fun k=>by simp [World.frozen?,hna]
        clear hna
        go_upto_region 30 with fail
        obtain ⟨w7,hw7⟩:∃ w7,w7=(wr.alloc (.cells #[.int .u64 (du:Int)] 39)).setCell ⟨nb,6,none⟩ (.slice (some ⟨wr.heap.size,0,none⟩) 1 1):=⟨_,rfl⟩
        rw [←hw7]
        obtain ⟨m7,hm7⟩:∃ x:ND × NV,x=(nodeD ⟨dk,dn,du,da,dp⟩ ls (LD i).2,⟨.slice Ax ns cx,.slice AA al ac,.slice (some ⟨wr.heap.size,0,none⟩) 1 1⟩):=⟨_,rfl⟩
        have HNE7:=hid (show m7.1=nodeD ⟨dk,dn,du,da,dp⟩ ls (LD i).2 from by rw [hm7])
        have HX7:=hid (node_one hw7 hm7 HNr.out HAr2.out HXr.out HNS.out HAL.out hd1 (HNUM.out _ (Kam HT.out)) (by have:=sl;omega) (by omega) HBr.out HNL.out HBB5.out HZr.out (Kah HBB5.out HB6s.out))
        clear e0 e2 n5 n6 n6' fz fz' q1 q9 hw7 hm7
        have HN7:=hid HX7.out.1
        have HNV:=hid HX7.out.2.1
        have HB7:=hid HX7.out.2.2.1
        have HAPT:=hid (apart_new (mid:=w6.heap.size) HDr.out (fun k hk=>by rw [HX7.out.2.2.2.1,Za4] at hk;have:=(HXr.out.lt k hk).1;have:=HX6L.out k hk;have:=HZ5.out;omega) (fun k hk=>by rw [HX7.out.2.2.2.2,Za4] at hk;exact (HAr.out.lt k hk).1) (Kah HZ5.out HB6s.out))
        have HGP7:=hid (nd_not (gp:=gp) HX7.out.2.2.2.1 HX7.out.2.2.2.2 (fun q hq=>by have:=(HXr.out.lt q hq).1;have:=HGP5.out;have:=HZ5.out;omega) (fun q hq=>by have:=(HAr.out.lt q hq).1;have:=HGP5.out;have:=HZ5.out;have:=HB6s.out;omega))
        have HM7:=hid (node_cells7 HN7.out)
        obtain ⟨a0,a1,a2,a3,a4,a5,a6⟩:=HM7.out
        have HCALL:=hid (dmade_any in0 in1 B cb g f s d NA2 nc2 ms2 OA oc outs I0 I1 m0 k0 m1 k1 names m7 w7 (HD5.out.next HB7.out) HNV.out HAPT.out (by rw [HMS.out];exact HWFi.out) (by rw [HMS.out,HNE7.out];exact HNOK.out) (HG2.out w7 (HB5.out.trans (HB7.out.mono HBB5.out))) (by have h:=congrArg List.length HMS.out;rw [Kak] at h;rw [h];exact HLNi.out))
        go_wp2_with fail
        refine HCALL.out.mono ?_
        rintro e w8 ⟨NA3,nc3,ms3,h1,rfl,h3,h4,h5,h6⟩
        have MP:=(HP5.out.next HB7.out).kd h4
        have cp:=MP.cell (i:=i) (by omega)
        have fp:=MP.free i
        have i0:(0:Int)≤(i:Int):=by omega
        have i1:(i:Int)<((root+1:Nat):Int):=by omega
        have i1':(i:Int)<(root:Int)+1:=by omega
        have HF:=hid (let_fin (gi:=gi) (P:=(LD i).2) (p:=(madeD f s (ms2.map Prod.fst) m7.1).2) (i:=i) h3 h4 h5 h6 HGP.out.2 HXG.out HGP.out.1 (HB7.out) HK5.out HB5.out HBB5.out HGPL.out HGPB.out HGP7.out HGN.out (by omega) (HI5.out.next HB7.out) (HP5.out.next HB7.out))
        have H1:=hid h1
        clear h1 h3 h4 h5 h6 MP a0 a1 a2 a3 a4 a5 a6 HCALL
        go_wp2_with fail
        exact ⟨⟨i+1,by omega,rfl,NA3,nc3,ms3,by rw [H1.out,HLN.out,←HNE7.out,HMS.out],HF.out.1,HF.out.2.1,mkb_fn HF.out.2.2.1 (fun a ha=>by rw [HLN.out,←HNE7.out,HMS.out]),HF.out.2.2.2.1,HF.out.2.2.2.2.1,HF.out.2.2.2.2.2⟩,by simp [intOf];omega⟩
       ·have q1:(dk==1)=false:=by rw [Kaj];exact hd1
        by_cases hd9:dk=9
        ·have q9:(dk==9)=true:=by rw [hd9];rfl
         have hk63:du≤63:=by
          have h:=HNOK.out.k63
          unfold nodeD at h
          rw [if_pos hd9] at h
          exact h
         have hw63:IntKind.i64.wrap (du:Int)=du:=by simp [IntKind.wrap,IntKind.bits,IntKind.signed];omega
         go_upto_region 30 with fail
         obtain ⟨w7,hw7⟩:∃ w7,w7=wr.setCell ⟨nb,5,none⟩ (.int .i64 (du:Int)):=⟨_,rfl⟩
         rw [←hw7]
         obtain ⟨m7,hm7⟩:∃ x:ND × NV,x=(nodeD ⟨dk,dn,du,da,dp⟩ ls (LD i).2,⟨.slice Ax ns cx,.slice AA al ac,.slice none 0 0⟩):=⟨_,rfl⟩
         have HNE7:=hid (show m7.1=nodeD ⟨dk,dn,du,da,dp⟩ ls (LD i).2 from by rw [hm7])
         have HX7:=hid (node_nine hw7 hm7 HNr.out HAr2.out HXr.out HNS.out HAL.out hd9 (by have:=sl;omega) (by omega) HBr.out HNL.out HBB5.out (Kah HBB5.out HB6s.out))
         clear e0 e2 n5 n6 fz q1 q9 hw7 hm7 hw63
         have HN7:=hid HX7.out.1
         have HNV:=hid HX7.out.2.1
         have HB7:=hid HX7.out.2.2.1
         have HGP7:=hid (nd_not (gp:=gp) HX7.out.2.2.2.1 HX7.out.2.2.2.2 (fun q hq=>by have:=(HXr.out.lt q hq).1;have:=HGP5.out;have:=HZ5.out;omega) (fun q hq=>by have:=(HAr.out.lt q hq).1;have:=HGP5.out;have:=HZ5.out;have:=HB6s.out;omega))
         have HAPT:=hid (apart_new (mid:=w6.heap.size) HDr.out (fun k hk=>by rw [HX7.out.2.2.2.1,Za4] at hk;have:=(HXr.out.lt k hk).1;have:=HX6L.out k hk;have:=HZ5.out;omega) (fun k hk=>by rw [HX7.out.2.2.2.2,Za4] at hk;exact (HAr.out.lt k hk).1) (Kah HZ5.out HB6s.out))
         have HM7:=hid (node_cells7 HN7.out)
         obtain ⟨a0,a1,a2,a3,a4,a5,a6⟩:=HM7.out
         have HCALL:=hid (dmade_any in0 in1 B cb g f s d NA2 nc2 ms2 OA oc outs I0 I1 m0 k0 m1 k1 names m7 w7 (HD5.out.next HB7.out) HNV.out HAPT.out (by rw [HMS.out];exact HWFi.out) (by rw [HMS.out,HNE7.out];exact HNOK.out) (HG2.out w7 (HB5.out.trans (HB7.out.mono HBB5.out))) (by have h:=congrArg List.length HMS.out;rw [Kak] at h;rw [h];exact HLNi.out))
         go_wp2_with fail
         refine HCALL.out.mono ?_
         rintro e w8 ⟨NA3,nc3,ms3,h1,rfl,h3,h4,h5,h6⟩
         have MP:=(HP5.out.next HB7.out).kd h4
         have cp:=MP.cell (i:=i) (by omega)
         have fp:=MP.free i
         have i0:(0:Int)≤(i:Int):=by omega
         have i1:(i:Int)<((root+1:Nat):Int):=by omega
         have i1':(i:Int)<(root:Int)+1:=by omega
         have HF:=hid (let_fin (gi:=gi) (P:=(LD i).2) (p:=(madeD f s (ms2.map Prod.fst) m7.1).2) (i:=i) h3 h4 h5 h6 HGP.out.2 HXG.out HGP.out.1 (HB7.out) HK5.out HB5.out HBB5.out HGPL.out HGPB.out HGP7.out HGN.out (by omega) (HI5.out.next HB7.out) (HP5.out.next HB7.out))
         have H1:=hid h1
         clear h1 h3 h4 h5 h6 MP a0 a1 a2 a3 a4 a5 a6 HCALL
         go_wp2_with fail
         exact ⟨⟨i+1,by omega,rfl,NA3,nc3,ms3,by rw [H1.out,HLN.out,←HNE7.out,HMS.out],HF.out.1,HF.out.2.1,mkb_fn HF.out.2.2.1 (fun a ha=>by rw [HLN.out,←HNE7.out,HMS.out]),HF.out.2.2.2.1,HF.out.2.2.2.2.1,HF.out.2.2.2.2.2⟩,by simp [intOf];omega⟩
        ·have q9:(dk==9)=false:=by rw [Kaj];exact hd9
         go_upto_region 30 with fail
         obtain ⟨w7,hw7⟩:∃ w7,w7=wr:=⟨_,rfl⟩
         rw [←hw7]
         obtain ⟨m7,hm7⟩:∃ x:ND × NV,x=(nodeD ⟨dk,dn,du,da,dp⟩ ls (LD i).2,⟨.slice Ax ns cx,.slice AA al ac,.slice none 0 0⟩):=⟨_,rfl⟩
         have HNE7:=hid (show m7.1=nodeD ⟨dk,dn,du,da,dp⟩ ls (LD i).2 from by rw [hm7])
         have HX7:=hid (node_else hw7 hm7 HNr.out HAr2.out HXr.out HNS.out HAL.out hd1 hd9 (by have:=sl;omega) (by omega) HBr.out HBB5.out (Kah HBB5.out HB6s.out))
         clear e0 e2 n5 n6 fz q1 q9 hw7 hm7
         have HN7:=hid HX7.out.1
         have HNV:=hid HX7.out.2.1
         have HB7:=hid HX7.out.2.2.1
         have HGP7:=hid (nd_not (gp:=gp) HX7.out.2.2.2.1 HX7.out.2.2.2.2 (fun q hq=>by have:=(HXr.out.lt q hq).1;have:=HGP5.out;have:=HZ5.out;omega) (fun q hq=>by have:=(HAr.out.lt q hq).1;have:=HGP5.out;have:=HZ5.out;have:=HB6s.out;omega))
         have HAPT:=hid (apart_new (mid:=w6.heap.size) HDr.out (fun k hk=>by rw [HX7.out.2.2.2.1,Za4] at hk;have:=(HXr.out.lt k hk).1;have:=HX6L.out k hk;have:=HZ5.out;omega) (fun k hk=>by rw [HX7.out.2.2.2.2,Za4] at hk;exact (HAr.out.lt k hk).1) (Kah HZ5.out HB6s.out))
         have HM7:=hid (node_cells7 HN7.out)
         obtain ⟨a0,a1,a2,a3,a4,a5,a6⟩:=HM7.out
         have HCALL:=hid (dmade_any in0 in1 B cb g f s d NA2 nc2 ms2 OA oc outs I0 I1 m0 k0 m1 k1 names m7 w7 (HD5.out.next HB7.out) HNV.out HAPT.out (by rw [HMS.out];exact HWFi.out) (by rw [HMS.out,HNE7.out];exact HNOK.out) (HG2.out w7 (HB5.out.trans (HB7.out.mono HBB5.out))) (by have h:=congrArg List.length HMS.out;rw [Kak] at h;rw [h];exact HLNi.out))
         go_wp2_with fail
         refine HCALL.out.mono ?_
         rintro e w8 ⟨NA3,nc3,ms3,h1,rfl,h3,h4,h5,h6⟩
         have MP:=(HP5.out.next HB7.out).kd h4
         have cp:=MP.cell (i:=i) (by omega)
         have fp:=MP.free i
         have i0:(0:Int)≤(i:Int):=by omega
         have i1:(i:Int)<((root+1:Nat):Int):=by omega
         have i1':(i:Int)<(root:Int)+1:=by omega
         have HF:=hid (let_fin (gi:=gi) (P:=(LD i).2) (p:=(madeD f s (ms2.map Prod.fst) m7.1).2) (i:=i) h3 h4 h5 h6 HGP.out.2 HXG.out HGP.out.1 (HB7.out) HK5.out HB5.out HBB5.out HGPL.out HGPB.out HGP7.out HGN.out (by omega) (HI5.out.next HB7.out) (HP5.out.next HB7.out))
         have H1:=hid h1
         clear h1 h3 h4 h5 h6 MP a0 a1 a2 a3 a4 a5 a6 HCALL
         go_wp2_with fail
         exact ⟨⟨i+1,by omega,rfl,NA3,nc3,ms3,by rw [H1.out,HLN.out,←HNE7.out,HMS.out],HF.out.1,HF.out.2.1,mkb_fn HF.out.2.2.1 (fun a ha=>by rw [HLN.out,←HNE7.out,HMS.out]),HF.out.2.2.2.1,HF.out.2.2.2.2.1,HF.out.2.2.2.2.2⟩,by simp [intOf];omega⟩
   ·obtain rfl:root+1=i:=by omega
    have cr:=HPr.out.cell (i:=root) (by omega)
    have i0:(0:Int)≤(root:Int):=by omega
    have i1:(root:Int)<((root+1:Nat):Int):=by omega
    go_wp2_with fail
    go_ret
    exact ⟨NA2,nc2,ms2,by rw [HMS.out,HLD.out],by rw [←HLD.out];rfl,HDr.out,(KD.of HB2.out).trans HKr.out,(HB2.out.mono (Kah hBw0.out (Kag _))).trans HBr.out,HGP.out.2⟩
  | i+1,hj,HW=>
   rw [show (((i+1:Nat):Int)-1)=(i:Int) by omega]
   have ht:es[i]?=some (es[i]'(by rw [←HNE.out];omega)):=Kad _
   obtain ⟨d,hd⟩:∃ d,d=es[i]'(by rw [←HNE.out];omega):=⟨_,rfl⟩
   rw [←hd] at ht
   have HT:=hid ht
   obtain ⟨b,o,rfl,hbl,c0,c1,c2,⟨A',c',c3,c3r,c3n,-⟩,c4⟩:=(HRD.out.below (HB.out.mono HBw.out)).at_ ht
   have cc:=HC.out _ HB.out
   have i0:(0:Int)≤(i:Int):=by omega
   have i1:(i:Int)<(ne:Int):=by omega
   obtain ⟨dk,dn,du,da,dp⟩:=d
   dsimp only at c3 c3r c3n
   obtain ⟨al,hal⟩:∃ al,al=da.length:=⟨_,rfl⟩
   rw [←hal] at c3 c3n
   have HAL:=hid hal
   have HDR:=hid (show ∀ W,Below w2.heap.size w2 W→Rd W B A' (da.map VI) from fun W hW=>by
    obtain ⟨b2,o2,e2,_,_,_,_,⟨A2,c2,f3,f3r,_⟩,_⟩:=(HRD.out.below (hW.mono HBw.out)).at_ ht
    injection e2 with e2
    injection e2 with e2 e3 _
    subst e2 e3
    have:(W.cell? ⟨b,o+i*5+3,none⟩)=wr.cell? ⟨b,o+i*5+3,none⟩:=(hW.cell (p:=⟨b,_,none⟩) (Kae hbl HBw.out)).trans (HB.out.cell (p:=⟨b,_,none⟩) (Kae hbl HBw.out)).symm
    rw [f3,c3] at this
    injection this with this
    injection this with this _ _
    rw [←this]
    exact f3r)
   clear ht hd c3r c0 c1 c2 c4 hal
   go_wp2
   have hsm:=hid (fun (k:Nat) (x:Int) (hx:da[k]?=some x)=>Zc0 HOK.out HT.out hx)
   clear cc c3 i0 i1
   go_loopw [37] (fun kv wr=>(∃ k:Nat,k≤al∧kv=.int .i64 k∧MkB wr 3 gi (root+1) (fun a=>bI (mrkK m i da k a)))∧Below w2.heap.size w2 wr) (fun kv _=>al-(intOf kv).toNat)
   case atStart=>exact ⟨⟨0,by omega,rfl,by rw [ZcF];exact HM.out⟩,HB.out⟩
   case round=>
    clear HM HB
    obtain ⟨⟨k,hk,rfl,hM⟩,hb⟩:=hrel
    have HM:=hid hM
    have HB:=hid hb
    clear hM hb
    by_cases hlk:k<al
    ·have ht:da[k]?=some (da[k]'(by rw [←HAL.out];exact hlk)):=Kad _
     obtain ⟨x,hx⟩:∃ d,d=da[k]'(by rw [←HAL.out];exact hlk):=⟨_,rfl⟩
     rw [←hx] at ht
     obtain ⟨x0,x1⟩:=hsm.out k x ht
     obtain ⟨a,rfl⟩:∃ a:Nat,x=(a:Int):=⟨x.toNat,by omega⟩
     have ha:a<i:=by omega
     obtain ⟨b2,o2,rfl,hbl2,d0⟩:=(HDR.out _ HB.out).at_ (show (da.map VI)[k]?=some (VI (a:Int)) by rw [Kal,ht];rfl)
     unfold VI at d0
     have k0:(0:Int)≤(k:Int):=by omega
     have k1:(k:Int)<(al:Int):=by omega
     have a0:(0:Int)≤(a:Int):=by omega
     have a1:(a:Int)<((root+1:Nat):Int):=by omega
     have i0:(0:Int)≤(i:Int):=by omega
     have i1:(i:Int)<((root+1:Nat):Int):=by omega
     have ca:=HM.out.cell (i:=a) (by omega)
     have ci:=HM.out.cell (i:=i) (by omega)
     rw [ZcG (fun j d hd=>(hsm.out j d hd).2)] at ci
     have fa:=HM.out.free a
     have HST:=hid (fun v (hv:v=bI (mrkK m i da k a||m i))=>HM.out.drew.set (i:=a) (by omega) v (fun y=>bI (mrkK m i da (k+1) y)) (fun y=>by
      rw [ZcH m i da ht y,hv]
      split <;> rfl))
     have HBT:=hid (fun v=>Zaf (k:=a) HB.out.drew HGL.out v)
     obtain ⟨ba,hba⟩:∃ ba,ba=mrkK m i da k a:=⟨_,rfl⟩
     rw [←hba] at ca HST
     obtain ⟨bi,hbi⟩:∃ bi,bi=m i:=⟨_,rfl⟩
     rw [←hbi] at ci HST
     clear ht hx hba hbi hbl2 x0 x1
     cases ba <;> cases bi
     all_goals
      simp only [bI,if_true,Bool.false_eq_true,if_false] at ca ci
      go_wp2_with fail
      go_region
      all_goals
       go_wp2
       exact ⟨⟨⟨k+1,by omega,rfl,HST.out _ rfl⟩,HBT.out _⟩,by simp [intOf];omega⟩
    ·obtain rfl:al=k:=by omega
     have HX:=hid (show Zac es root=markP es root i (mrkK m i da al) from by rw [HW.out,Zbv HT.out,HAL.out])
     clear hk hlk
     go_wp2
     exact ⟨⟨⟨i,_,by omega,rfl,HX.out,HM.out⟩,HB.out⟩,by simp [intOf]⟩
end Go.Proofs.YtghlnncfigkkaaaGreatDoor
