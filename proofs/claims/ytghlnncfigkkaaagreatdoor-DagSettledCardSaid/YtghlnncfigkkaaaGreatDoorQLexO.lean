/-
 The walk of lex.one.
-/
import Derived.Test.YtghlnncfigkkaaaGreatDoorQParA
import Derived.Test.YtghlnncfigkkaaaGreatDoorQIs
import Derived.Test.YtghlnncfigkkaaaGreatDoorQLexA
import Derived.Deep.RegionWith
import Derived.Deep.RegionHeld3
set_option maxRecDepth 100000
set_option maxHeartbeats 8000000
set_option linter.unusedVariables false
set_option linter.unusedSimpArgs false
namespace Go.Proofs.YtghlnncfigkkaaaGreatDoor
open Go.RowKit
def Ze9 (W:World) (s:ByteArray) (k:Nat) (e:Ending) (w':World):Prop:=
 Below W.heap.size W w'∧∃ (a:Int) (b:ByteArray) (c d:Int) (ok:Bool),e=.returned (.tuple #[.agg #[.int .i64 a,.string b,.int .u64 c,.int .i64 d],.bool ok]) ∧
  (oneM s k=none∧ok=false∨∃ t n v,oneM s k=some (t,n,v)∧ok=true∧a=(t:Int)∧b=s.extract k (k+n)∧c=(v:Int)∧d=(k:Int))
abbrev tokZ:Obj:=.cells #[.int .i64 0,.string ⟨#[]⟩,.int .u64 0,.int .i64 0] 155
theorem Zb9 (w:World) (c:Array Value):((w.alloc tokZ).alloc (.cells c 155)).heap[w.heap.size]?=some tokZ∧((w.alloc tokZ).alloc (.cells c 155)).heap[w.heap.size+1]?=some (.cells c 155 (0,0)):=by
 refine ⟨(Below.heap_alloc _ _ _ (by simp)).trans (Kac w _),?_⟩
 have h:=Kac (w.alloc tokZ) (.cells c 155);rw [World.size_alloc] at h;exact h
theorem ZbK (w:World) (c:Array Value):Below w.heap.size w ((w.alloc tokZ).alloc (.cells c 155)):=((Kai _ _).alloc (Kag _) _).alloc (by simp) _
theorem Zgy {w w':World} {e:TypeId} {s:ByteArray} (h:w'=w∨w'=Lib.bytesWorld w e s):Below w.heap.size w w':=by
 rcases h with rfl | rfl
 ·exact Kai _ _
 ·have a:Below w.heap.size w (w.drew.alloc (.cells (Lib.bytesCells w e s) e)):=(Kai _ _).drew.alloc (Kag _) _;refine ⟨a.os,a.tape,a.output,?_,fun k b => ?_⟩
  ·have:=a.size;unfold Lib.bytesWorld;simp [World.freeze]
  ·rw [←a.block k b];unfold Lib.bytesWorld;simp [World.freeze,Array.getElem?_modify]
   intro e
   omega
theorem Zar {w:World} {g:Nat} {a:Array Value} {t:TypeId} (h:w.heap[g]?=some (.cells a t (0,0))) (k:Nat):w.frozen? ⟨g,k,none⟩=false:=by
 simp [World.frozen?,h]
theorem Zcf (w:World) (t:Addr) (v:Value) {k:Nat} (h:k≠t.block):(w.setCell t v).heap[k]?=w.heap[k]?:=by
 unfold World.setCell;simp only [Array.getElem?_modify];rw [if_neg (fun e=>h e.symm)]
theorem Za5 {w4 e:World} {g:Nat} {a b c d i j c0 k:Value} {T:TypeId} (l:w4.heap[g]?=some (.cells #[i,j,c0,k] T (0,0)))
  (m:e=((((w4.setCell ⟨g,0,none⟩ a).setCell ⟨g,1,none⟩ b).setCell ⟨g,2,none⟩ c).setCell ⟨g,3,none⟩ d).drew):
  e.heap[g]?=some (.cells #[a,b,c,d] T (0,0))∧e.heap[g+1]?=w4.heap[g+1]?∧∀ (B:Nat) (w:World),Below B w w4→B≤g→Below B w e:=by
 subst m;refine ⟨?_,?_,fun B w h f=>((((h.setCell (p:=⟨g,0,none⟩) f _).setCell (p:=⟨g,1,none⟩) f _).setCell (p:=⟨g,2,none⟩) f _).setCell (p:=⟨g,3,none⟩) f _).drew⟩
 ·show ((((w4.setCell ⟨g,0,none⟩ a).setCell ⟨g,1,none⟩ b).setCell ⟨g,2,none⟩ c).setCell ⟨g,3,none⟩ d).heap[g]?=_
  rw [heap_setCell_same _ _ _ _ _ _ (heap_setCell_same _ _ _ _ _ _ (heap_setCell_same _ _ _ _ _ _ (heap_setCell_same _ _ _ _ _ _ l)))];rfl
 ·show ((((w4.setCell ⟨g,0,none⟩ a).setCell ⟨g,1,none⟩ b).setCell ⟨g,2,none⟩ c).setCell ⟨g,3,none⟩ d).heap[g+1]?=_
  rw [Zcf _ _ _ (by simp),Zcf _ _ _ (by simp),Zcf _ _ _ (by simp),Zcf _ _ _ (by simp)]
theorem ZfL (s:ByteArray) {k:Nat} (h:k=s.size):letAt s k=false:=by unfold letAt;rw [dif_neg (by omega)]
theorem Zhf (s:ByteArray) {k:Nat} (h:k<s.size):letAt s k=letB s[k]:=by unfold letAt;rw [dif_pos h]
theorem Zb1 (c:UInt8) (b:Bool) (h:letB c=b) (w:World):Calls Tryz.prog 123 #[V8 c] w fun e w'=>e=.returned (.bool b)∧w=w':=by
 have:=Zdl c w;rwa [h] at this
def ErrT (w:World):Prop:=∃ te pe,w.cell? ⟨3,0,none⟩=some (.iface te pe)
theorem Zjk (s:ByteArray) (k:Nat) (w:World) (a8:s.size≤100000) (R:k<s.size) (T:digB s[k]=true) (Y:decV (Zam s k (Zax digB s k))<18446744073709551616):
  Calls Tryz.prog 82 #[.string s,.int .i64 k] w (Ze9 w s k):=by
 obtain ⟨n,O⟩:=Ky (Zax digB s k);have b4:1≤n:=by rw [O,Zbw digB s R T];omega
 have a4:=Zce digB s (Nat.le_of_lt R);rw [←O] at Y a4;have Z:=Ze8 digB s k;rw [←O] at Z;have a0:=ZcS s a4;have a5:Lib.parseUintB 64 (s.extract k (k+n)).data.toList=.ok (decV (Zam s k n)):=by
  rw [ZaF];exact Zle (by intro e;rw [e] at a0;simp at a0;omega) Z Y
 have a6:=Kz (fun W => Tryz.strconv_ParseUint_10_at64_ok (s.extract k (k+n)) (by rw [ByteArray.size_extract];omega) _ a5 W)
 have a1:=Zcd s[k];rw [T] at a1;have a9:=Kz a1;have a7:=Kz O;have b0:=Kz T;have b1:=Kz (fun W=>ZfH s k W a8 (Nat.le_of_lt R))
 clear a5 Z a0 a1 O T
 go_enter Tryz.func82,Tryz.ntmps82
 go_wp2_with fail
 refine (a9.o _).mono ?_
 rintro e w1 ⟨rfl,rfl⟩
 go_wp2_with fail
 refine (b1.o _).mono ?_
 rintro e w2 ⟨rfl,rfl⟩
 rw [←a7.o]
 go_wp2_with fail
 refine (a6.o _).mono ?_
 rintro e w3 ⟨rfl,h3⟩
 have V:=Zgy h3;have k0:=(V.block w.heap.size (by simp;omega)).trans (Zb9 w _).1
 have C:=(V.block (w.heap.size+1) (by simp)).trans (Zb9 w _).2
 have b2:=Kz ((ZbK w _).trans (V.mono (by simp;omega)))
 clear h3 V a6;have c0:=Kaa 0 C;have c1:=Kaa 1 C;have c2:=Kaa 2 C;have c3:=Kaa 3 C;have f0:=Zar C 0;have f2:=Zar C 2;have K0:=Kz k0;have K1:=Kz C;clear k0 C;have D:=Kz (show oneM s k=if (s[k].toNat≠48∨n=1)∧letAt s (k+n)=false then some (2,n,decV (Zam s k n)) else none from by
  unfold oneM;rw [dif_pos R,if_pos b0.o,←a7.o];simp only [Y,true_and])
 go_wp2_with fail
 obtain ⟨w4,P⟩:=Ky ((w3.setCell ⟨w.heap.size+1,0,none⟩ (.int .i64 2)).setCell ⟨w.heap.size+1,2,none⟩ (.int .u64 (decV (Zam s k n):Nat)));rw [←P];have L:w4.heap[w.heap.size+1]?=some (.cells #[.int .i64 2,.string (s.extract k (k+n)),.int .u64 (decV (Zam s k n):Nat),.int .i64 k] 155 (0,0)):=by
  rw [P,heap_setCell_same _ _ _ _ _ _ (heap_setCell_same _ _ _ _ _ _ K1.o)];rfl
 have z:w4.heap[w.heap.size]?=some tokZ:=by
  rw [P,Zcf _ _ _ (by simp),Zcf _ _ _ (by simp)]
  exact K0.o
 have E:=Kz (show Below w.heap.size w w4 from by rw [P];exact (b2.o.setCell (by simp) _).setCell (by simp) _)
 clear P c0 c1 c2 c3 f0 f2;have F:=Kz (And.intro (cell_of_row w4.drew _ 0 _ _ _ L) (And.intro (cell_of_row w4.drew _ 1 _ _ _ L) (And.intro (cell_of_row w4.drew _ 2 _ _ _ L) (cell_of_row w4.drew _ 3 _ _ _ L))));have z0:=cell_of_row w4 _ 0 _ _ _ z;have z1:=cell_of_row w4 _ 1 _ _ _ z;have z2:=cell_of_row w4 _ 2 _ _ _ z;have z3:=cell_of_row w4 _ 3 _ _ _ z;have y0:=Zar z 0;have y1:=Zar z 1;have y2:=Zar z 2;have y3:=Zar z 3;have H:=Kz L;have I:=Kz z;clear L z;have b3:Hd ((((s[k].toNat:Int) != 48)=true∧Hd (s[k].toNat≠48)∧True)∨(((s[k].toNat:Int) != 48)=false∧((n:Int)==1)=true∧Hd (s[k].toNat=48)∧Hd (n=1)∧True)∨(((s[k].toNat:Int) != 48)=false∧((n:Int)==1)=false∧Hd (s[k].toNat=48)∧Hd (n≠1))):=by
  by_cases a2:s[k].toNat=48
  ·by_cases M:n=1
   ·exact .inr (.inl ⟨by rw [bne_eq_false_iff_eq];omega,by rw [beq_iff_eq];omega,a2,M,trivial⟩)
   ·exact .inr (.inr ⟨by rw [bne_eq_false_iff_eq];omega,by rw [Kaj];omega,a2,M⟩)
  ·exact .inl ⟨by rw [bne_iff_ne];omega,a2,trivial⟩
 rcases b3.o with ⟨q1,Q,x⟩ | ⟨q1,q0,Q,X,x⟩ | ⟨q1,q0,Q,X⟩
 ·clear x
  by_cases x:k+n=s.size
  ·have q2:((k:Int)+(n:Int)==(s.size:Int))=true:=by rw [beq_iff_eq];omega
   have y:=Kz (ZfL s x);clear x;refine wp_region_held_drew (S:=(fun c=>c.cell? ⟨w.heap.size+1,0,none⟩=some (.int .i64 2)∧c.cell? ⟨w.heap.size+1,1,none⟩=some (.string (s.extract k (k+n)))∧c.cell? ⟨w.heap.size+1,2,none⟩=some (.int .u64 (decV (Zam s k n):Nat))∧c.cell? ⟨w.heap.size+1,3,none⟩=some (.int .i64 k))) (by kernel_rfl) F.o (fun g => ?_)
   refine tk 0 ?_;simp only [tkS];refine tk 1 ?_;simp only [tkS];refine tk 2 ?_;simp only [tkS];refine tk 3 ?_;simp only [tkS];refine tk 4 ?_;simp only [tkS];refine tk 5 ?_;simp only [tkS];refine tk 6 ?_;simp only [tkS];refine tn 7 ?_;simp only [tkS];refine tn 8 ?_;simp only [tkS];refine tn 9 ?_;simp only [tkS];refine tn 10 ?_;simp only [tkS];refine tk 11 ?_;simp only [tkS];refine tk 12 ?_;simp only [tkS];refine tk 13 ?_;simp only [tkS];refine tk 14 ?_;simp only [tkS];refine tk 15 ?_;simp only [tkS];refine tk 16 ?_;simp only [tkS];refine tk 17 ?_;simp only [tkS];refine tk 18 ?_;simp only [tkS];refine tn 19 ?_;simp only [tkS];refine tn 20 ?_;simp only [tkS];refine tn 21 ?_;simp only [tkS];refine tn 22 ?_;simp only [tkS];refine tn 23 ?_;simp only [tkS];refine tk 24 ?_;simp only [tkS];refine tk 25 ?_;simp only [tkS];refine Kr 26 fun K hK=>?_
   go_simp;obtain ⟨N,d⟩:=Ky (((((w4.setCell ⟨w.heap.size,0,none⟩ (.int .i64 2)).setCell ⟨w.heap.size,1,none⟩ (.string (s.extract k (k+n)))).setCell ⟨w.heap.size,2,none⟩ (.int .u64 (decV (Zam s k n):Nat))).setCell ⟨w.heap.size,3,none⟩ (.int .i64 k)).drew);obtain ⟨a,i,j⟩:=Za5 I.o d;rw [←d];clear d;have b:=i.trans H.o;refine hK.out _ _ ⟨Kaa 0 b,Kaa 1 b,Kaa 2 b,Kaa 3 b⟩ (fun g => ?_)
   clear hK K
   try simp only [tkS]
   refine tk 27 (oi:=⟨some 5,_,_,_,_,_⟩) ?_;simp only [tkS];refine Kq ?_;have l:=Kaa 0 a;have m:=Kaa 1 a;have p:=Kaa 2 a;have q:=Kaa 3 a;have r:=Kz (j w.heap.size w E.o (Kag _));clear a i b j g
   go_wp2
   exact bodyPost_ret (v:=.tuple #[.agg #[.int .i64 2,.string (s.extract k (k+n)),.int .u64 (decV (Zam s k n):Nat),.int .i64 k],.bool true]) (by simp [results,Tryz.results82,go_sem,l,m,p,q]) rfl ⟨r.o,_,_,_,_,_,rfl,Or.inr ⟨_,_,_,by rw [D.o,if_pos ⟨(Or.inl (by have:=Q.o;omega)),y.o⟩],rfl,rfl,rfl,rfl,rfl⟩⟩
  ·have q2:((k:Int)+(n:Int)==(s.size:Int))=false:=by rw [Kaj];omega
   have a3:k+n<s.size:=by omega
   have B:=Zhf s a3;clear x;have i0:(0:Int)≤(k:Int)+(n:Int):=by omega
   have i1:(k:Int)+(n:Int)<(s.size:Int):=by omega
   have i2:((k:Int)+(n:Int)).toNat=k+n:=by omega
   cases hb:letB s[k+n] with
   | false=>
    have J:=Kz (fun W=>Zb1 s[k+n] _ hb W)
    have y:Hd (letAt s (k+n)=false):=B.trans hb;clear B hb;refine wp_region_held_drew (S:=(fun c=>c.cell? ⟨w.heap.size+1,0,none⟩=some (.int .i64 2)∧c.cell? ⟨w.heap.size+1,1,none⟩=some (.string (s.extract k (k+n)))∧c.cell? ⟨w.heap.size+1,2,none⟩=some (.int .u64 (decV (Zam s k n):Nat))∧c.cell? ⟨w.heap.size+1,3,none⟩=some (.int .i64 k))) (by kernel_rfl) F.o (fun g => ?_)
    refine tk 0 ?_;simp only [tkS];refine tk 1 ?_;simp only [tkS];refine tk 2 ?_;simp only [tkS];refine tk 3 ?_;simp only [tkS];refine tk 4 ?_;simp only [tkS];refine tk 5 ?_;simp only [tkS];refine tk 6 ?_;simp only [tkS];refine tn 7 ?_;simp only [tkS];refine tn 8 ?_;simp only [tkS];refine tn 9 ?_;simp only [tkS];refine tn 10 ?_;simp only [tkS];refine tk 11 ?_;simp only [tkS];refine tk 12 ?_;simp only [tkS];refine tk 13 ?_;simp only [tkS];refine tk 14 ?_;simp only [tkS];refine tk 15 ?_;simp only [tkS];refine tk 16 ?_;simp only [tkS];refine tk 17 ?_;simp only [tkS];refine tk 18 ?_;simp only [tkS];refine tk 19 ?_;simp only [tkS];refine tk 20 ?_;simp only [tkS];refine tk 21 ?_;simp only [tkS];refine Kr 22 fun K hK=>?_
    go_simp
    go_at_call 123
    refine (J.o _).mono ?_
    rintro e c ⟨rfl,rfl⟩
    refine hK.out _ _ (by assumption) (fun g => ?_)
    clear hK K
    try simp only [tkS]
    refine tk 23 ?_;simp only [tkS];refine tk 24 ?_;simp only [tkS];refine tk 25 ?_;simp only [tkS];refine Kr 26 fun K hK=>?_
    go_simp;obtain ⟨N,d⟩:=Ky (((((w4.setCell ⟨w.heap.size,0,none⟩ (.int .i64 2)).setCell ⟨w.heap.size,1,none⟩ (.string (s.extract k (k+n)))).setCell ⟨w.heap.size,2,none⟩ (.int .u64 (decV (Zam s k n):Nat))).setCell ⟨w.heap.size,3,none⟩ (.int .i64 k)).drew);obtain ⟨a,i,j⟩:=Za5 I.o d;rw [←d];clear d;have b:=i.trans H.o;refine hK.out _ _ ⟨Kaa 0 b,Kaa 1 b,Kaa 2 b,Kaa 3 b⟩ (fun g => ?_)
    clear hK K
    try simp only [tkS]
    refine tk 27 (oi:=⟨some 5,_,_,_,_,_⟩) ?_;simp only [tkS];refine Kq ?_;have l:=Kaa 0 a;have m:=Kaa 1 a;have p:=Kaa 2 a;have q:=Kaa 3 a;have r:=Kz (j w.heap.size w E.o (Kag _));clear a i b j g
    go_wp2
    exact bodyPost_ret (v:=.tuple #[.agg #[.int .i64 2,.string (s.extract k (k+n)),.int .u64 (decV (Zam s k n):Nat),.int .i64 k],.bool true]) (by simp [results,Tryz.results82,go_sem,l,m,p,q]) rfl ⟨r.o,_,_,_,_,_,rfl,Or.inr ⟨_,_,_,by rw [D.o,if_pos ⟨(Or.inl (by have:=Q.o;omega)),y.o⟩],rfl,rfl,rfl,rfl,rfl⟩⟩
   | true=>
    have J:=Kz (fun W=>Zb1 s[k+n] _ hb W)
    have y:Hd (letAt s (k+n)=true):=B.trans hb;clear B hb;refine wp_region_held_drew (S:=(fun c=>c.cell? ⟨w.heap.size+1,0,none⟩=some (.int .i64 2)∧c.cell? ⟨w.heap.size+1,1,none⟩=some (.string (s.extract k (k+n)))∧c.cell? ⟨w.heap.size+1,2,none⟩=some (.int .u64 (decV (Zam s k n):Nat))∧c.cell? ⟨w.heap.size+1,3,none⟩=some (.int .i64 k))) (by kernel_rfl) F.o (fun g => ?_)
    refine tk 0 ?_;simp only [tkS];refine tk 1 ?_;simp only [tkS];refine tk 2 ?_;simp only [tkS];refine tk 3 ?_;simp only [tkS];refine tk 4 ?_;simp only [tkS];refine tk 5 ?_;simp only [tkS];refine tk 6 ?_;simp only [tkS];refine tn 7 ?_;simp only [tkS];refine tn 8 ?_;simp only [tkS];refine tn 9 ?_;simp only [tkS];refine tn 10 ?_;simp only [tkS];refine tk 11 ?_;simp only [tkS];refine tk 12 ?_;simp only [tkS];refine tk 13 ?_;simp only [tkS];refine tk 14 ?_;simp only [tkS];refine tk 15 ?_;simp only [tkS];refine tk 16 ?_;simp only [tkS];refine tk 17 ?_;simp only [tkS];refine tk 18 ?_;simp only [tkS];refine tk 19 ?_;simp only [tkS];refine tk 20 ?_;simp only [tkS];refine tk 21 ?_;simp only [tkS];refine Kr 22 fun K hK=>?_
    go_simp
    go_at_call 123
    refine (J.o _).mono ?_
    rintro e c ⟨rfl,rfl⟩
    refine hK.out _ _ (by assumption) (fun g => ?_)
    clear hK K
    try simp only [tkS]
    refine tk 23 ?_;simp only [tkS];refine tk 24 ?_;simp only [tkS];refine tk 25 ?_;simp only [tkS];refine Kr 26 fun K hK=>?_
    go_simp;obtain ⟨N,d⟩:=Ky (((((w4.setCell ⟨w.heap.size,0,none⟩ (.int .i64 2)).setCell ⟨w.heap.size,1,none⟩ (.string (s.extract k (k+n)))).setCell ⟨w.heap.size,2,none⟩ (.int .u64 (decV (Zam s k n):Nat))).setCell ⟨w.heap.size,3,none⟩ (.int .i64 k)).drew);obtain ⟨a,i,j⟩:=Za5 I.o d;rw [←d];clear d;have b:=i.trans H.o;refine hK.out _ _ ⟨Kaa 0 b,Kaa 1 b,Kaa 2 b,Kaa 3 b⟩ (fun g => ?_)
    clear hK K
    try simp only [tkS]
    refine tk 27 (oi:=⟨some 5,_,_,_,_,_⟩) ?_;simp only [tkS];refine Kq ?_;have l:=Kaa 0 a;have m:=Kaa 1 a;have p:=Kaa 2 a;have q:=Kaa 3 a;have r:=Kz (j w.heap.size w E.o (Kag _));clear a i b j g
    go_wp2
    exact bodyPost_ret (v:=.tuple #[.agg #[.int .i64 2,.string (s.extract k (k+n)),.int .u64 (decV (Zam s k n):Nat),.int .i64 k],.bool false]) (by simp [results,Tryz.results82,go_sem,l,m,p,q]) rfl ⟨r.o,_,_,_,_,_,rfl,Or.inl ⟨by rw [D.o,if_neg (fun h=>by rw [y.o] at h;exact absurd h.2 (by simp))],rfl⟩⟩
 ·clear x
  by_cases x:k+n=s.size
  ·have q2:((k:Int)+(n:Int)==(s.size:Int))=true:=by rw [beq_iff_eq];omega
   have y:=Kz (ZfL s x);clear x;refine wp_region_held_drew (S:=(fun c=>c.cell? ⟨w.heap.size+1,0,none⟩=some (.int .i64 2)∧c.cell? ⟨w.heap.size+1,1,none⟩=some (.string (s.extract k (k+n)))∧c.cell? ⟨w.heap.size+1,2,none⟩=some (.int .u64 (decV (Zam s k n):Nat))∧c.cell? ⟨w.heap.size+1,3,none⟩=some (.int .i64 k))) (by kernel_rfl) F.o (fun g => ?_)
   refine tk 0 ?_;simp only [tkS];refine tk 1 ?_;simp only [tkS];refine tk 2 ?_;simp only [tkS];refine tk 3 ?_;simp only [tkS];refine tk 4 ?_;simp only [tkS];refine tk 5 ?_;simp only [tkS];refine tk 6 ?_;simp only [tkS];refine tk 7 ?_;simp only [tkS];refine tk 8 ?_;simp only [tkS];refine tk 9 ?_;simp only [tkS];refine tk 10 ?_;simp only [tkS];refine tk 11 ?_;simp only [tkS];refine tk 12 ?_;simp only [tkS];refine tk 13 ?_;simp only [tkS];refine tk 14 ?_;simp only [tkS];refine tk 15 ?_;simp only [tkS];refine tk 16 ?_;simp only [tkS];refine tk 17 ?_;simp only [tkS];refine tk 18 ?_;simp only [tkS];refine tn 19 ?_;simp only [tkS];refine tn 20 ?_;simp only [tkS];refine tn 21 ?_;simp only [tkS];refine tn 22 ?_;simp only [tkS];refine tn 23 ?_;simp only [tkS];refine tk 24 ?_;simp only [tkS];refine tk 25 ?_;simp only [tkS];refine Kr 26 fun K hK=>?_
   go_simp;obtain ⟨N,d⟩:=Ky (((((w4.setCell ⟨w.heap.size,0,none⟩ (.int .i64 2)).setCell ⟨w.heap.size,1,none⟩ (.string (s.extract k (k+n)))).setCell ⟨w.heap.size,2,none⟩ (.int .u64 (decV (Zam s k n):Nat))).setCell ⟨w.heap.size,3,none⟩ (.int .i64 k)).drew);obtain ⟨a,i,j⟩:=Za5 I.o d;rw [←d];clear d;have b:=i.trans H.o;refine hK.out _ _ ⟨Kaa 0 b,Kaa 1 b,Kaa 2 b,Kaa 3 b⟩ (fun g => ?_)
   clear hK K
   try simp only [tkS]
   refine tk 27 (oi:=⟨some 5,_,_,_,_,_⟩) ?_;simp only [tkS];refine Kq ?_;have l:=Kaa 0 a;have m:=Kaa 1 a;have p:=Kaa 2 a;have q:=Kaa 3 a;have r:=Kz (j w.heap.size w E.o (Kag _));clear a i b j g
   go_wp2
   exact bodyPost_ret (v:=.tuple #[.agg #[.int .i64 2,.string (s.extract k (k+n)),.int .u64 (decV (Zam s k n):Nat),.int .i64 k],.bool true]) (by simp [results,Tryz.results82,go_sem,l,m,p,q]) rfl ⟨r.o,_,_,_,_,_,rfl,Or.inr ⟨_,_,_,by rw [D.o,if_pos ⟨(Or.inr X.o),y.o⟩],rfl,rfl,rfl,rfl,rfl⟩⟩
  ·have q2:((k:Int)+(n:Int)==(s.size:Int))=false:=by rw [Kaj];omega
   have a3:k+n<s.size:=by omega
   have B:=Zhf s a3;clear x;have i0:(0:Int)≤(k:Int)+(n:Int):=by omega
   have i1:(k:Int)+(n:Int)<(s.size:Int):=by omega
   have i2:((k:Int)+(n:Int)).toNat=k+n:=by omega
   cases hb:letB s[k+n] with
   | false=>
    have J:=Kz (fun W=>Zb1 s[k+n] _ hb W)
    have y:Hd (letAt s (k+n)=false):=B.trans hb;clear B hb;refine wp_region_held_drew (S:=(fun c=>c.cell? ⟨w.heap.size+1,0,none⟩=some (.int .i64 2)∧c.cell? ⟨w.heap.size+1,1,none⟩=some (.string (s.extract k (k+n)))∧c.cell? ⟨w.heap.size+1,2,none⟩=some (.int .u64 (decV (Zam s k n):Nat))∧c.cell? ⟨w.heap.size+1,3,none⟩=some (.int .i64 k))) (by kernel_rfl) F.o (fun g => ?_)
    refine tk 0 ?_;simp only [tkS];refine tk 1 ?_;simp only [tkS];refine tk 2 ?_;simp only [tkS];refine tk 3 ?_;simp only [tkS];refine tk 4 ?_;simp only [tkS];refine tk 5 ?_;simp only [tkS];refine tk 6 ?_;simp only [tkS];refine tk 7 ?_;simp only [tkS];refine tk 8 ?_;simp only [tkS];refine tk 9 ?_;simp only [tkS];refine tk 10 ?_;simp only [tkS];refine tk 11 ?_;simp only [tkS];refine tk 12 ?_;simp only [tkS];refine tk 13 ?_;simp only [tkS];refine tk 14 ?_;simp only [tkS];refine tk 15 ?_;simp only [tkS];refine tk 16 ?_;simp only [tkS];refine tk 17 ?_;simp only [tkS];refine tk 18 ?_;simp only [tkS];refine tk 19 ?_;simp only [tkS];refine tk 20 ?_;simp only [tkS];refine tk 21 ?_;simp only [tkS];refine Kr 22 fun K hK=>?_
    go_simp
    go_at_call 123
    refine (J.o _).mono ?_
    rintro e c ⟨rfl,rfl⟩
    refine hK.out _ _ (by assumption) (fun g => ?_)
    clear hK K
    try simp only [tkS]
    refine tk 23 ?_;simp only [tkS];refine tk 24 ?_;simp only [tkS];refine tk 25 ?_;simp only [tkS];refine Kr 26 fun K hK=>?_
    go_simp;obtain ⟨N,d⟩:=Ky (((((w4.setCell ⟨w.heap.size,0,none⟩ (.int .i64 2)).setCell ⟨w.heap.size,1,none⟩ (.string (s.extract k (k+n)))).setCell ⟨w.heap.size,2,none⟩ (.int .u64 (decV (Zam s k n):Nat))).setCell ⟨w.heap.size,3,none⟩ (.int .i64 k)).drew);obtain ⟨a,i,j⟩:=Za5 I.o d;rw [←d];clear d;have b:=i.trans H.o;refine hK.out _ _ ⟨Kaa 0 b,Kaa 1 b,Kaa 2 b,Kaa 3 b⟩ (fun g => ?_)
    clear hK K
    try simp only [tkS]
    refine tk 27 (oi:=⟨some 5,_,_,_,_,_⟩) ?_;simp only [tkS];refine Kq ?_;have l:=Kaa 0 a;have m:=Kaa 1 a;have p:=Kaa 2 a;have q:=Kaa 3 a;have r:=Kz (j w.heap.size w E.o (Kag _));clear a i b j g
    go_wp2
    exact bodyPost_ret (v:=.tuple #[.agg #[.int .i64 2,.string (s.extract k (k+n)),.int .u64 (decV (Zam s k n):Nat),.int .i64 k],.bool true]) (by simp [results,Tryz.results82,go_sem,l,m,p,q]) rfl ⟨r.o,_,_,_,_,_,rfl,Or.inr ⟨_,_,_,by rw [D.o,if_pos ⟨(Or.inr X.o),y.o⟩],rfl,rfl,rfl,rfl,rfl⟩⟩
   | true=>
    have J:=Kz (fun W=>Zb1 s[k+n] _ hb W)
    have y:Hd (letAt s (k+n)=true):=B.trans hb;clear B hb;refine wp_region_held_drew (S:=(fun c=>c.cell? ⟨w.heap.size+1,0,none⟩=some (.int .i64 2)∧c.cell? ⟨w.heap.size+1,1,none⟩=some (.string (s.extract k (k+n)))∧c.cell? ⟨w.heap.size+1,2,none⟩=some (.int .u64 (decV (Zam s k n):Nat))∧c.cell? ⟨w.heap.size+1,3,none⟩=some (.int .i64 k))) (by kernel_rfl) F.o (fun g => ?_)
    refine tk 0 ?_;simp only [tkS];refine tk 1 ?_;simp only [tkS];refine tk 2 ?_;simp only [tkS];refine tk 3 ?_;simp only [tkS];refine tk 4 ?_;simp only [tkS];refine tk 5 ?_;simp only [tkS];refine tk 6 ?_;simp only [tkS];refine tk 7 ?_;simp only [tkS];refine tk 8 ?_;simp only [tkS];refine tk 9 ?_;simp only [tkS];refine tk 10 ?_;simp only [tkS];refine tk 11 ?_;simp only [tkS];refine tk 12 ?_;simp only [tkS];refine tk 13 ?_;simp only [tkS];refine tk 14 ?_;simp only [tkS];refine tk 15 ?_;simp only [tkS];refine tk 16 ?_;simp only [tkS];refine tk 17 ?_;simp only [tkS];refine tk 18 ?_;simp only [tkS];refine tk 19 ?_;simp only [tkS];refine tk 20 ?_;simp only [tkS];refine tk 21 ?_;simp only [tkS];refine Kr 22 fun K hK=>?_
    go_simp
    go_at_call 123
    refine (J.o _).mono ?_
    rintro e c ⟨rfl,rfl⟩
    refine hK.out _ _ (by assumption) (fun g => ?_)
    clear hK K
    try simp only [tkS]
    refine tk 23 ?_;simp only [tkS];refine tk 24 ?_;simp only [tkS];refine tk 25 ?_;simp only [tkS];refine Kr 26 fun K hK=>?_
    go_simp;obtain ⟨N,d⟩:=Ky (((((w4.setCell ⟨w.heap.size,0,none⟩ (.int .i64 2)).setCell ⟨w.heap.size,1,none⟩ (.string (s.extract k (k+n)))).setCell ⟨w.heap.size,2,none⟩ (.int .u64 (decV (Zam s k n):Nat))).setCell ⟨w.heap.size,3,none⟩ (.int .i64 k)).drew);obtain ⟨a,i,j⟩:=Za5 I.o d;rw [←d];clear d;have b:=i.trans H.o;refine hK.out _ _ ⟨Kaa 0 b,Kaa 1 b,Kaa 2 b,Kaa 3 b⟩ (fun g => ?_)
    clear hK K
    try simp only [tkS]
    refine tk 27 (oi:=⟨some 5,_,_,_,_,_⟩) ?_;simp only [tkS];refine Kq ?_;have l:=Kaa 0 a;have m:=Kaa 1 a;have p:=Kaa 2 a;have q:=Kaa 3 a;have r:=Kz (j w.heap.size w E.o (Kag _));clear a i b j g
    go_wp2
    exact bodyPost_ret (v:=.tuple #[.agg #[.int .i64 2,.string (s.extract k (k+n)),.int .u64 (decV (Zam s k n):Nat),.int .i64 k],.bool false]) (by simp [results,Tryz.results82,go_sem,l,m,p,q]) rfl ⟨r.o,_,_,_,_,_,rfl,Or.inl ⟨by rw [D.o,if_neg (fun h=>by rw [y.o] at h;exact absurd h.2 (by simp))],rfl⟩⟩
 ·refine wp_region_held_drew (S:=(fun c=>c.cell? ⟨w.heap.size+1,0,none⟩=some (.int .i64 2)∧c.cell? ⟨w.heap.size+1,1,none⟩=some (.string (s.extract k (k+n)))∧c.cell? ⟨w.heap.size+1,2,none⟩=some (.int .u64 (decV (Zam s k n):Nat))∧c.cell? ⟨w.heap.size+1,3,none⟩=some (.int .i64 k))) (by kernel_rfl) F.o (fun g => ?_)
  refine tk 0 ?_;simp only [tkS];refine tk 1 ?_;simp only [tkS];refine tk 2 ?_;simp only [tkS];refine tk 3 ?_;simp only [tkS];refine tk 4 ?_;simp only [tkS];refine tk 5 ?_;simp only [tkS];refine tk 6 ?_;simp only [tkS];refine tk 7 ?_;simp only [tkS];refine tk 8 ?_;simp only [tkS];refine tk 9 ?_;simp only [tkS];refine tk 10 ?_;simp only [tkS];refine tk 11 ?_;simp only [tkS];refine tk 12 ?_;simp only [tkS];refine tk 13 ?_;simp only [tkS];refine tn 14 ?_;simp only [tkS];refine tn 15 ?_;simp only [tkS];refine tn 16 ?_;simp only [tkS];refine tn 17 ?_;simp only [tkS];refine tn 18 ?_;simp only [tkS];refine tn 19 ?_;simp only [tkS];refine tn 20 ?_;simp only [tkS];refine tn 21 ?_;simp only [tkS];refine tn 22 ?_;simp only [tkS];refine tn 23 ?_;simp only [tkS];refine tn 24 ?_;simp only [tkS];refine tk 25 ?_;simp only [tkS];refine Kr 26 fun K hK=>?_
  go_simp;obtain ⟨N,d⟩:=Ky (((((w4.setCell ⟨w.heap.size,0,none⟩ (.int .i64 2)).setCell ⟨w.heap.size,1,none⟩ (.string (s.extract k (k+n)))).setCell ⟨w.heap.size,2,none⟩ (.int .u64 (decV (Zam s k n):Nat))).setCell ⟨w.heap.size,3,none⟩ (.int .i64 k)).drew);obtain ⟨a,i,j⟩:=Za5 I.o d;rw [←d];clear d;have b:=i.trans H.o;refine hK.out _ _ ⟨Kaa 0 b,Kaa 1 b,Kaa 2 b,Kaa 3 b⟩ (fun g => ?_)
  clear hK K
  try simp only [tkS]
  refine tk 27 (oi:=⟨some 5,_,_,_,_,_⟩) ?_;simp only [tkS];refine Kq ?_;have l:=Kaa 0 a;have m:=Kaa 1 a;have p:=Kaa 2 a;have q:=Kaa 3 a;have r:=Kz (j w.heap.size w E.o (Kag _));clear a i b j g
  go_wp2
  exact bodyPost_ret (v:=.tuple #[.agg #[.int .i64 2,.string (s.extract k (k+n)),.int .u64 (decV (Zam s k n):Nat),.int .i64 k],.bool false]) (by simp [results,Tryz.results82,go_sem,l,m,p,q]) rfl ⟨r.o,_,_,_,_,_,rfl,Or.inl ⟨by rw [D.o,if_neg (fun h=>by rcases h.1 with M | M;exact M Q.o;exact X.o M)],rfl⟩⟩
theorem Zjl (s:ByteArray) (k:Nat) (w:World) (Y:s.size≤100000) (q:k<s.size) (i:digB s[k]=true) (x:¬ decV (Zam s k (Zax digB s k))<18446744073709551616) (Z:ErrT w):
  Calls Tryz.prog 82 #[.string s,.int .i64 k] w (Ze9 w s k):=by
 obtain ⟨n,d⟩:=Ky (Zax digB s k);have b2:1≤n:=by rw [d,Zbw digB s q i];omega
 have F:=Zce digB s (Nat.le_of_lt q);rw [←d] at x F;have y:=Ze8 digB s k;rw [←d] at y;have z:=ZcS s F;have H:Lib.parseUintB 64 (s.extract k (k+n)).data.toList=.range:=by
  rw [ZaF];exact Zgx (by intro e;rw [e] at z;simp at z;omega) y x
 obtain ⟨I,J,B⟩:=Z;have L:=World.block_lt_of_cell? w _ B;have N:=fun (W:World) (C:Below w.heap.size w W) => Tryz.strconv_ParseUint_10_at64_range (s.extract k (k+n)) (by rw [ByteArray.size_extract];omega) H (.iface I J) W ((C.cell (p:=⟨3,0,none⟩) L).trans B) (.inr ⟨I,J,rfl⟩)
 obtain ⟨M,O⟩:∃ M:Int,∀ (W:World),Below w.heap.size w W→Calls Tryz.prog 122 #[.string (s.extract k (k+n)),.int .i64 10,.int .i64 64] W fun e c=>∃ t v,e=.returned (.tuple #[.int .u64 M,.iface t v])∧Below W.heap.size W c:=
  ⟨_,fun W C=>(N W C).mono fun e c ⟨b3,a0,_,_,a1⟩=>⟨_,_,a0,a1⟩⟩
 have P:=Kz O;have Q:oneM s k=none:=by
  unfold oneM;rw [dif_pos q,if_pos i,←d,if_neg (fun a2=>x a2.1)]
 have a3:=Kz Q;clear N O B L Q;have D:=Zcd s[k];rw [i] at D;have a4:=Kz D;have a5:=Kz d;have b4:=Kz i;have a6:=Kz (fun W=>ZfH s k W Y (Nat.le_of_lt q))
 clear H y z D d i
 go_enter Tryz.func82,Tryz.ntmps82
 go_wp2_with fail
 refine (a4.o _).mono ?_
 rintro e w1 ⟨rfl,rfl⟩
 go_wp2_with fail
 refine (a6.o _).mono ?_
 rintro e w2 ⟨rfl,rfl⟩
 rw [←a5.o]
 go_wp2_with fail
 refine (P.o _ (ZbK w _)).mono ?_
 rintro e w3 ⟨b5,xv,rfl,r⟩
 have R:=(r.block w.heap.size (by simp;omega)).trans (Zb9 w _).1
 have b:=(r.block (w.heap.size+1) (by simp)).trans (Zb9 w _).2
 have a7:=Kz ((ZbK w _).trans (r.mono (by simp;omega)))
 clear r P;have c0:=Kaa 0 b;have c1:=Kaa 1 b;have c2:=Kaa 2 b;have c3:=Kaa 3 b;have f0:=Zar b 0;have f2:=Zar b 2;have K0:=Kz R;have K1:=Kz b;clear R b
 go_wp2_with fail
 obtain ⟨w4,j⟩:=Ky ((w3.setCell ⟨w.heap.size+1,0,none⟩ (.int .i64 2)).setCell ⟨w.heap.size+1,2,none⟩ (.int .u64 M));rw [←j];have h:w4.heap[w.heap.size+1]?=some (.cells #[.int .i64 2,.string (s.extract k (k+n)),.int .u64 M,.int .i64 k] 155 (0,0)):=by
  rw [j,heap_setCell_same _ _ _ _ _ _ (heap_setCell_same _ _ _ _ _ _ K1.o)];rfl
 have a:w4.heap[w.heap.size]?=some tokZ:=by
  rw [j,Zcf _ _ _ (by simp),Zcf _ _ _ (by simp)]
  exact K0.o
 have a8:=Kz (show Below w.heap.size w w4 from by rw [j];exact (a7.o.setCell (by simp) _).setCell (by simp) _)
 clear j c0 c1 c2 c3 f0 f2;have a9:=Kz (And.intro (cell_of_row w4.drew _ 0 _ _ _ h) (And.intro (cell_of_row w4.drew _ 1 _ _ _ h) (And.intro (cell_of_row w4.drew _ 2 _ _ _ h) (cell_of_row w4.drew _ 3 _ _ _ h))));have z0:=cell_of_row w4 _ 0 _ _ _ a;have z1:=cell_of_row w4 _ 1 _ _ _ a;have z2:=cell_of_row w4 _ 2 _ _ _ a;have z3:=cell_of_row w4 _ 3 _ _ _ a;have y0:=Zar a 0;have y1:=Zar a 1;have y2:=Zar a 2;have y3:=Zar a 3;have K4:=Kz h;have b0:=Kz a;clear h a;refine wp_region_held_drew (S:=(fun c=>c.cell? ⟨w.heap.size+1,0,none⟩=some (.int .i64 2)∧c.cell? ⟨w.heap.size+1,1,none⟩=some (.string (s.extract k (k+n)))∧c.cell? ⟨w.heap.size+1,2,none⟩=some (.int .u64 M)∧c.cell? ⟨w.heap.size+1,3,none⟩=some (.int .i64 k))) (by kernel_rfl) a9.o (fun T => ?_)
 refine tk 0 ?_;simp only [tkS];refine tk 1 ?_;simp only [tkS];refine tk 2 ?_;simp only [tkS];refine tk 3 ?_;simp only [tkS];refine tn 4 ?_;simp only [tkS];refine tn 5 ?_;simp only [tkS];refine tn 6 ?_;simp only [tkS];refine tn 7 ?_;simp only [tkS];refine tn 8 ?_;simp only [tkS];refine tn 9 ?_;simp only [tkS];refine tn 10 ?_;simp only [tkS];refine tn 11 ?_;simp only [tkS];refine tk 12 ?_;simp only [tkS];refine tk 13 ?_;simp only [tkS];refine tn 14 ?_;simp only [tkS];refine tn 15 ?_;simp only [tkS];refine tn 16 ?_;simp only [tkS];refine tn 17 ?_;simp only [tkS];refine tn 18 ?_;simp only [tkS];refine tn 19 ?_;simp only [tkS];refine tn 20 ?_;simp only [tkS];refine tn 21 ?_;simp only [tkS];refine tn 22 ?_;simp only [tkS];refine tn 23 ?_;simp only [tkS];refine tn 24 ?_;simp only [tkS];refine tk 25 ?_;simp only [tkS];refine Kr 26 fun K hK=>?_
 go_simp;obtain ⟨b6,E⟩:=Ky (((((w4.setCell ⟨w.heap.size,0,none⟩ (.int .i64 2)).setCell ⟨w.heap.size,1,none⟩ (.string (s.extract k (k+n)))).setCell ⟨w.heap.size,2,none⟩ (.int .u64 M)).setCell ⟨w.heap.size,3,none⟩ (.int .i64 k)).drew);obtain ⟨l,V,X⟩:=Za5 b0.o E;rw [←E];clear E;have m:=V.trans K4.o;refine hK.out _ _ ⟨Kaa 0 m,Kaa 1 m,Kaa 2 m,Kaa 3 m⟩ (fun T => ?_)
 clear hK K
 try simp only [tkS]
 refine tk 27 (oi:=⟨some 5,_,_,_,_,_⟩) ?_;simp only [tkS];refine Kq ?_;have d0:=Kaa 0 l;have d1:=Kaa 1 l;have d2:=Kaa 2 l;have d3:=Kaa 3 l;have b1:=Kz (X w.heap.size w a8.o (Kag _));clear l V m X T
 go_wp2
 exact bodyPost_ret (v:=.tuple #[.agg #[.int .i64 2,.string (s.extract k (k+n)),.int .u64 M,.int .i64 k],.bool false]) (by simp [results,Tryz.results82,go_sem,d0,d1,d2,d3]) rfl ⟨b1.o,_,_,_,_,_,rfl,Or.inl ⟨a3.o,rfl⟩⟩
end Go.Proofs.YtghlnncfigkkaaaGreatDoor
