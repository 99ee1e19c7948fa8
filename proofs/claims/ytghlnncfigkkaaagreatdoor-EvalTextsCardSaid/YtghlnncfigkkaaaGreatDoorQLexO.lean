/-
  The walk of lex.one. The walk of lex.one at a numeral that no word holds.
-/
import Derived.Test.YtghlnncfigkkaaaGreatDoorQAsE
import Derived.Test.YtghlnncfigkkaaaGreatDoorQLexA
import Derived.Test.YtghlnncfigkkaaaGreatDoorQLexN
import Derived.Deep.RegionWith
import Derived.Deep.RegionHeld3
set_option maxRecDepth 100000
set_option maxHeartbeats 8000000
open Go.Lib (hid)
namespace Go.Proofs.YtghlnncfigkkaaaGreatDoor
set_option linter.unusedVariables false
set_option linter.unusedSimpArgs false
open Go.RowKit
def Ze9 (W:World) (s:ByteArray) (k:Nat) (e:Ending) (w':World):Prop:=
 Below W.heap.size W w'∧∃ (a:Int) (b:ByteArray) (c d:Int) (ok:Bool),e=.returned (.tuple #[.agg #[.int .i64 a,.string b,.int .u64 c,.int .i64 d],.bool ok]) ∧
  (oneM s k=none∧ok=false∨∃ t n v,oneM s k=some (t,n,v)∧ok=true∧a=(t:Int)∧b=s.extract k (k+n)∧c=(v:Int)∧d=(k:Int))
abbrev tokZ:Obj:=.cells #[.int .i64 0,.string ⟨#[]⟩,.int .u64 0,.int .i64 0] 155
theorem Zb9 (w:World) (c:Array Value):((w.alloc tokZ).alloc (.cells c 155)).heap[w.heap.size]?=some tokZ∧((w.alloc tokZ).alloc (.cells c 155)).heap[w.heap.size+1]?=some (.cells c 155 (0,0)):=by
 refine ⟨(Below.heap_alloc _ _ _ (by simp)).trans (heap_alloc_new w _),?_⟩
 have h:=heap_alloc_new (w.alloc tokZ) (.cells c 155)
 rw [World.size_alloc] at h
 exact h
theorem ZbK (w:World) (c:Array Value):Below w.heap.size w ((w.alloc tokZ).alloc (.cells c 155)):=((Below.refl _ _).alloc (Nat.le_refl _) _).alloc (by simp) _
theorem Zgy {w w':World} {e:TypeId} {s:ByteArray} (h:w'=w∨w'=Lib.bytesWorld w e s):Below w.heap.size w w':=by
 rcases h with rfl | rfl
 ·exact Below.refl _ _
 ·have h1:Below w.heap.size w (w.drew.alloc (.cells (Lib.bytesCells w e s) e)):=(Below.refl _ _).drew.alloc (Nat.le_refl _) _
  refine ⟨h1.os,h1.tape,h1.output,?_,fun k hk => ?_⟩
  ·have:=h1.size
   unfold Lib.bytesWorld
   simp [World.freeze]
  ·rw [←h1.block k hk]
   unfold Lib.bytesWorld
   simp [World.freeze,Array.getElem?_modify]
   intro e
   omega
theorem Zar {w:World} {g:Nat} {cs:Array Value} {t:TypeId} (h:w.heap[g]?=some (.cells cs t (0,0))) (k:Nat):w.frozen? ⟨g,k,none⟩=false:=by
 simp [World.frozen?,h]
theorem Zcf (w:World) (t:Addr) (v:Value) {k:Nat} (h:k≠t.block):(w.setCell t v).heap[k]?=w.heap[k]?:=by
 unfold World.setCell
 simp only [Array.getElem?_modify]
 rw [if_neg (fun e=>h e.symm)]
theorem Za5 {w4 wS:World} {g:Nat} {a b c d a0 b0 c0 d0:Value} {T:TypeId} (h0:w4.heap[g]?=some (.cells #[a0,b0,c0,d0] T (0,0)))
  (hS:wS=((((w4.setCell ⟨g,0,none⟩ a).setCell ⟨g,1,none⟩ b).setCell ⟨g,2,none⟩ c).setCell ⟨g,3,none⟩ d).drew):
  wS.heap[g]?=some (.cells #[a,b,c,d] T (0,0))∧wS.heap[g+1]?=w4.heap[g+1]?∧∀ (B:Nat) (w:World),Below B w w4→B≤g→Below B w wS:=by
 subst hS
 refine ⟨?_,?_,fun B w h hB=>((((h.setCell (p:=⟨g,0,none⟩) hB _).setCell (p:=⟨g,1,none⟩) hB _).setCell (p:=⟨g,2,none⟩) hB _).setCell (p:=⟨g,3,none⟩) hB _).drew⟩
 ·show ((((w4.setCell ⟨g,0,none⟩ a).setCell ⟨g,1,none⟩ b).setCell ⟨g,2,none⟩ c).setCell ⟨g,3,none⟩ d).heap[g]?=_
  rw [heap_setCell_same _ _ _ _ _ _ (heap_setCell_same _ _ _ _ _ _ (heap_setCell_same _ _ _ _ _ _ (heap_setCell_same _ _ _ _ _ _ h0)))]
  rfl
 ·show ((((w4.setCell ⟨g,0,none⟩ a).setCell ⟨g,1,none⟩ b).setCell ⟨g,2,none⟩ c).setCell ⟨g,3,none⟩ d).heap[g+1]?=_
  rw [Zcf _ _ _ (by simp),Zcf _ _ _ (by simp),Zcf _ _ _ (by simp),Zcf _ _ _ (by simp)]
theorem ZfL (s:ByteArray) {k:Nat} (h:k=s.size):letAt s k=false:=by unfold letAt;rw [dif_neg (by omega)]
theorem Zhf (s:ByteArray) {k:Nat} (h:k<s.size):letAt s k=letB s[k]:=by unfold letAt;rw [dif_pos h]
theorem Zb1 (c:UInt8) (b:Bool) (h:letB c=b) (w:World):Calls Tryz.prog 123 #[V8 c] w fun e w'=>e=.returned (.bool b)∧w=w':=by
 have:=Zdl c w
 rwa [h] at this
def ErrT (w:World):Prop:=∃ te pe,w.cell? ⟨3,0,none⟩=some (.iface te pe)
theorem Zjk (s:ByteArray) (k:Nat) (w:World) (hs:s.size≤100000) (hk:k<s.size) (hd:digB s[k]=true) (hv:decV (Zam s k (Zax digB s k))<18446744073709551616):
  Calls Tryz.prog 82 #[.string s,.int .i64 k] w (Ze9 w s k):=by
 obtain ⟨n,hn⟩:∃ n,n=Zax digB s k:=⟨_,rfl⟩
 have hn1:1≤n:=by rw [hn,Zbw digB s hk hd];omega
 have hnk:=Zce digB s (Nat.le_of_lt hk)
 rw [←hn] at hv hnk
 have hall:=Ze8 digB s k
 rw [←hn] at hall
 have hlen:=ZcS s hnk
 have hpar:Lib.parseUintB 64 (s.extract k (k+n)).data.toList=.ok (decV (Zam s k n)):=by
  rw [ZaF]
  exact Zle (by intro e;rw [e] at hlen;simp at hlen;omega) hall hv
 have hp:=hid (fun W => Tryz.strconv_ParseUint_10_at64_ok (s.extract k (k+n)) (by rw [ByteArray.size_extract];omega) _ hpar W)
 have hdig:=Zcd s[k]
 rw [hd] at hdig
 have HD:=hid hdig
 have HN:=hid hn
 have HDG:=hid hd
 have HR:=hid (fun W=>ZfH s k W hs (Nat.le_of_lt hk))
 clear hpar hall hlen hdig hn hd
 go_enter Tryz.func82,Tryz.ntmps82
 go_wp2_with fail
 refine (HD.out _).mono ?_
 rintro e w1 ⟨rfl,rfl⟩
 go_wp2_with fail
 refine (HR.out _).mono ?_
 rintro e w2 ⟨rfl,rfl⟩
 rw [←HN.out]
 go_wp2_with fail
 refine (hp.out _).mono ?_
 rintro e w3 ⟨rfl,h3⟩
 have hb3:=Zgy h3
 have k0:=(hb3.block w.heap.size (by simp;omega)).trans (Zb9 w _).1
 have k1:=(hb3.block (w.heap.size+1) (by simp)).trans (Zb9 w _).2
 have HB3:=hid ((ZbK w _).trans (hb3.mono (by simp;omega)))
 clear h3 hb3 hp
 have c0:=cell_of_row _ _ 0 _ _ _ k1
 have c1:=cell_of_row _ _ 1 _ _ _ k1
 have c2:=cell_of_row _ _ 2 _ _ _ k1
 have c3:=cell_of_row _ _ 3 _ _ _ k1
 have f0:=Zar k1 0
 have f2:=Zar k1 2
 have K0:=hid k0
 have K1:=hid k1
 clear k0 k1
 have HB:=hid (show oneM s k=if (s[k].toNat≠48∨n=1)∧letAt s (k+n)=false then some (2,n,decV (Zam s k n)) else none from by
  unfold oneM
  rw [dif_pos hk,if_pos HDG.out,←HN.out]
  simp only [hv,true_and])
 go_wp2_with fail
 obtain ⟨w4,hw4⟩:∃ w4,w4=(w3.setCell ⟨w.heap.size+1,0,none⟩ (.int .i64 2)).setCell ⟨w.heap.size+1,2,none⟩ (.int .u64 (decV (Zam s k n):Nat)):=⟨_,rfl⟩
 rw [←hw4]
 have k4:w4.heap[w.heap.size+1]?=some (.cells #[.int .i64 2,.string (s.extract k (k+n)),.int .u64 (decV (Zam s k n):Nat),.int .i64 k] 155 (0,0)):=by
  rw [hw4,heap_setCell_same _ _ _ _ _ _ (heap_setCell_same _ _ _ _ _ _ K1.out)]
  rfl
 have k40:w4.heap[w.heap.size]?=some tokZ:=by
  rw [hw4,Zcf _ _ _ (by simp),Zcf _ _ _ (by simp)]
  exact K0.out
 have HB4:=hid (show Below w.heap.size w w4 from by rw [hw4];exact (HB3.out.setCell (by simp) _).setCell (by simp) _)
 clear hw4 c0 c1 c2 c3 f0 f2
 have hS:=hid (And.intro (cell_of_row w4.drew _ 0 _ _ _ k4) (And.intro (cell_of_row w4.drew _ 1 _ _ _ k4) (And.intro (cell_of_row w4.drew _ 2 _ _ _ k4) (cell_of_row w4.drew _ 3 _ _ _ k4))))
 have z0:=cell_of_row w4 _ 0 _ _ _ k40
 have z1:=cell_of_row w4 _ 1 _ _ _ k40
 have z2:=cell_of_row w4 _ 2 _ _ _ k40
 have z3:=cell_of_row w4 _ 3 _ _ _ k40
 have y0:=Zar k40 0
 have y1:=Zar k40 1
 have y2:=Zar k40 2
 have y3:=Zar k40 3
 have K4:=hid k4
 have K40:=hid k40
 clear k4 k40
 have HQ:Hid ((((s[k].toNat:Int) != 48)=true∧Hid (s[k].toNat≠48)∧True)∨(((s[k].toNat:Int) != 48)=false∧((n:Int)==1)=true∧Hid (s[k].toNat=48)∧Hid (n=1)∧True)∨(((s[k].toNat:Int) != 48)=false∧((n:Int)==1)=false∧Hid (s[k].toNat=48)∧Hid (n≠1))):=by
  by_cases hz:s[k].toNat=48
  ·by_cases h1:n=1
   ·exact .inr (.inl ⟨by rw [bne_eq_false_iff_eq];omega,by rw [beq_iff_eq];omega,hz,h1,trivial⟩)
   ·exact .inr (.inr ⟨by rw [bne_eq_false_iff_eq];omega,by rw [beq_eq_false_iff_ne];omega,hz,h1⟩)
  ·exact .inl ⟨by rw [bne_iff_ne];omega,hz,trivial⟩
 rcases HQ.out with ⟨q1,HZ,he⟩ | ⟨q1,q0,HZ,HN1,he⟩ | ⟨q1,q0,HZ,HN1⟩
 ·clear he
  by_cases he:k+n=s.size
  ·have q2:((k:Int)+(n:Int)==(s.size:Int))=true:=by rw [beq_iff_eq];omega
   have HA:=hid (ZfL s he)
   clear he
   refine wp_region_held_drew (S:=(fun w'=>w'.cell? ⟨w.heap.size+1,0,none⟩=some (.int .i64 2)∧w'.cell? ⟨w.heap.size+1,1,none⟩=some (.string (s.extract k (k+n)))∧w'.cell? ⟨w.heap.size+1,2,none⟩=some (.int .u64 (decV (Zam s k n):Nat))∧w'.cell? ⟨w.heap.size+1,3,none⟩=some (.int .i64 k))) (by kernel_rfl) hS.out (fun hHeld => ?_)
   refine wpAnyH_take (i:=0) (oi:=_) (v := ?v1) rfl (by kernel_rfl) (by kernel_rfl) (by kernel_rfl) (fun _ _ _ h=>h) ?y1 (by assumption) ?r1
   case y1=>refine Or.inl ⟨by kernel_rfl,fun w hSw => ?_⟩;(try dsimp only at hSw);go_simp;(try with_reducible rfl)
   simp only [Act.put,List.setIfInBounds_toArray,List.set_cons_zero,List.set_cons_succ]
   refine wpAnyH_take (i:=1) (oi:=_) (v := ?v2) rfl (by kernel_rfl) (by kernel_rfl) (by kernel_rfl) (fun _ _ _ h=>h) ?y2 (by assumption) ?r2
   case y2=>refine Or.inl ⟨by kernel_rfl,fun w hSw => ?_⟩;(try dsimp only at hSw);go_simp;(try with_reducible rfl)
   simp only [Act.put,List.setIfInBounds_toArray,List.set_cons_zero,List.set_cons_succ]
   refine wpAnyH_take (i:=2) (oi:=_) (v := ?v3) rfl (by kernel_rfl) (by kernel_rfl) (by kernel_rfl) (fun _ _ _ h=>h) ?y3 (by assumption) ?r3
   case y3=>refine Or.inl ⟨by kernel_rfl,fun w hSw => ?_⟩;(try dsimp only at hSw);go_simp;(try with_reducible rfl)
   simp only [Act.put,List.setIfInBounds_toArray,List.set_cons_zero,List.set_cons_succ]
   refine wpAnyH_take (i:=3) (oi:=_) (v := ?v4) rfl (by kernel_rfl) (by kernel_rfl) (by kernel_rfl) (fun _ _ _ h=>h) ?y4 (by assumption) ?r4
   case y4=>refine Or.inl ⟨by kernel_rfl,fun w hSw => ?_⟩;(try dsimp only at hSw);go_simp;(try with_reducible rfl)
   simp only [Act.put,List.setIfInBounds_toArray,List.set_cons_zero,List.set_cons_succ]
   refine wpAnyH_take (i:=4) (oi:=_) (v := ?v5) rfl (by kernel_rfl) (by kernel_rfl) (by kernel_rfl) (fun _ _ _ h=>h) ?y5 (by assumption) ?r5
   case y5=>refine Or.inl ⟨by kernel_rfl,fun w hSw => ?_⟩;(try dsimp only at hSw);go_simp;(try with_reducible rfl)
   simp only [Act.put,List.setIfInBounds_toArray,List.set_cons_zero,List.set_cons_succ]
   refine wpAnyH_take (i:=5) (oi:=_) (v := ?v6) rfl (by kernel_rfl) (by kernel_rfl) (by kernel_rfl) (fun _ _ _ h=>h) ?y6 (by assumption) ?r6
   case y6=>refine Or.inl ⟨by kernel_rfl,fun w hSw => ?_⟩;(try dsimp only at hSw);go_simp;(try with_reducible rfl)
   simp only [Act.put,List.setIfInBounds_toArray,List.set_cons_zero,List.set_cons_succ]
   refine wpAnyH_take (i:=6) (oi:=_) (v := ?v7) rfl (by kernel_rfl) (by kernel_rfl) (by kernel_rfl) (fun _ _ _ h=>h) ?y7 (by assumption) ?r7
   case y7=>refine Or.inl ⟨by kernel_rfl,fun w hSw => ?_⟩;(try dsimp only at hSw);go_simp;(try with_reducible rfl)
   simp only [Act.put,List.setIfInBounds_toArray,List.set_cons_zero,List.set_cons_succ]
   refine wpAnyH_take (i:=7) (oi:=_) (v:=undef) rfl (by kernel_rfl) (by kernel_rfl) (by kernel_rfl) (fun _ _ _ h=>h) (Or.inr ⟨by kernel_rfl,rfl⟩) (by assumption) ?_
   simp only [Act.put,List.setIfInBounds_toArray,List.set_cons_zero,List.set_cons_succ]
   refine wpAnyH_take (i:=8) (oi:=_) (v:=undef) rfl (by kernel_rfl) (by kernel_rfl) (by kernel_rfl) (fun _ _ _ h=>h) (Or.inr ⟨by kernel_rfl,rfl⟩) (by assumption) ?_
   simp only [Act.put,List.setIfInBounds_toArray,List.set_cons_zero,List.set_cons_succ]
   refine wpAnyH_take (i:=9) (oi:=_) (v:=undef) rfl (by kernel_rfl) (by kernel_rfl) (by kernel_rfl) (fun _ _ _ h=>h) (Or.inr ⟨by kernel_rfl,rfl⟩) (by assumption) ?_
   simp only [Act.put,List.setIfInBounds_toArray,List.set_cons_zero,List.set_cons_succ]
   refine wpAnyH_take (i:=10) (oi:=_) (v:=undef) rfl (by kernel_rfl) (by kernel_rfl) (by kernel_rfl) (fun _ _ _ h=>h) (Or.inr ⟨by kernel_rfl,rfl⟩) (by assumption) ?_
   simp only [Act.put,List.setIfInBounds_toArray,List.set_cons_zero,List.set_cons_succ]
   refine wpAnyH_take (i:=11) (oi:=_) (v := ?v8) rfl (by kernel_rfl) (by kernel_rfl) (by kernel_rfl) (fun _ _ _ h=>h) ?y8 (by assumption) ?r8
   case y8=>refine Or.inl ⟨by kernel_rfl,fun w hSw => ?_⟩;(try dsimp only at hSw);go_simp;(try with_reducible rfl)
   simp only [Act.put,List.setIfInBounds_toArray,List.set_cons_zero,List.set_cons_succ]
   refine wpAnyH_take (i:=12) (oi:=_) (v := ?v9) rfl (by kernel_rfl) (by kernel_rfl) (by kernel_rfl) (fun _ _ _ h=>h) ?y9 (by assumption) ?r9
   case y9=>refine Or.inl ⟨by kernel_rfl,fun w hSw => ?_⟩;(try dsimp only at hSw);go_simp;(try with_reducible rfl)
   simp only [Act.put,List.setIfInBounds_toArray,List.set_cons_zero,List.set_cons_succ]
   refine wpAnyH_take (i:=13) (oi:=_) (v := ?v10) rfl (by kernel_rfl) (by kernel_rfl) (by kernel_rfl) (fun _ _ _ h=>h) ?y10 (by assumption) ?r10
   case y10=>refine Or.inl ⟨by kernel_rfl,fun w hSw => ?_⟩;(try dsimp only at hSw);go_simp;(try with_reducible rfl)
   simp only [Act.put,List.setIfInBounds_toArray,List.set_cons_zero,List.set_cons_succ]
   refine wpAnyH_take (i:=14) (oi:=_) (v := ?v11) rfl (by kernel_rfl) (by kernel_rfl) (by kernel_rfl) (fun _ _ _ h=>h) ?y11 (by assumption) ?r11
   case y11=>refine Or.inl ⟨by kernel_rfl,fun w hSw => ?_⟩;(try dsimp only at hSw);go_simp;(try with_reducible rfl)
   simp only [Act.put,List.setIfInBounds_toArray,List.set_cons_zero,List.set_cons_succ]
   refine wpAnyH_take (i:=15) (oi:=_) (v := ?v12) rfl (by kernel_rfl) (by kernel_rfl) (by kernel_rfl) (fun _ _ _ h=>h) ?y12 (by assumption) ?r12
   case y12=>refine Or.inl ⟨by kernel_rfl,fun w hSw => ?_⟩;(try dsimp only at hSw);go_simp;(try with_reducible rfl)
   simp only [Act.put,List.setIfInBounds_toArray,List.set_cons_zero,List.set_cons_succ]
   refine wpAnyH_take (i:=16) (oi:=_) (v := ?v13) rfl (by kernel_rfl) (by kernel_rfl) (by kernel_rfl) (fun _ _ _ h=>h) ?y13 (by assumption) ?r13
   case y13=>refine Or.inl ⟨by kernel_rfl,fun w hSw => ?_⟩;(try dsimp only at hSw);go_simp;(try with_reducible rfl)
   simp only [Act.put,List.setIfInBounds_toArray,List.set_cons_zero,List.set_cons_succ]
   refine wpAnyH_take (i:=17) (oi:=_) (v := ?v14) rfl (by kernel_rfl) (by kernel_rfl) (by kernel_rfl) (fun _ _ _ h=>h) ?y14 (by assumption) ?r14
   case y14=>refine Or.inl ⟨by kernel_rfl,fun w hSw => ?_⟩;(try dsimp only at hSw);go_simp;(try with_reducible rfl)
   simp only [Act.put,List.setIfInBounds_toArray,List.set_cons_zero,List.set_cons_succ]
   refine wpAnyH_take (i:=18) (oi:=_) (v := ?v15) rfl (by kernel_rfl) (by kernel_rfl) (by kernel_rfl) (fun _ _ _ h=>h) ?y15 (by assumption) ?r15
   case y15=>refine Or.inl ⟨by kernel_rfl,fun w hSw => ?_⟩;(try dsimp only at hSw);go_simp;(try with_reducible rfl)
   simp only [Act.put,List.setIfInBounds_toArray,List.set_cons_zero,List.set_cons_succ]
   refine wpAnyH_take (i:=19) (oi:=_) (v:=undef) rfl (by kernel_rfl) (by kernel_rfl) (by kernel_rfl) (fun _ _ _ h=>h) (Or.inr ⟨by kernel_rfl,rfl⟩) (by assumption) ?_
   simp only [Act.put,List.setIfInBounds_toArray,List.set_cons_zero,List.set_cons_succ]
   refine wpAnyH_take (i:=20) (oi:=_) (v:=undef) rfl (by kernel_rfl) (by kernel_rfl) (by kernel_rfl) (fun _ _ _ h=>h) (Or.inr ⟨by kernel_rfl,rfl⟩) (by assumption) ?_
   simp only [Act.put,List.setIfInBounds_toArray,List.set_cons_zero,List.set_cons_succ]
   refine wpAnyH_take (i:=21) (oi:=_) (v:=undef) rfl (by kernel_rfl) (by kernel_rfl) (by kernel_rfl) (fun _ _ _ h=>h) (Or.inr ⟨by kernel_rfl,rfl⟩) (by assumption) ?_
   simp only [Act.put,List.setIfInBounds_toArray,List.set_cons_zero,List.set_cons_succ]
   refine wpAnyH_take (i:=22) (oi:=_) (v:=undef) rfl (by kernel_rfl) (by kernel_rfl) (by kernel_rfl) (fun _ _ _ h=>h) (Or.inr ⟨by kernel_rfl,rfl⟩) (by assumption) ?_
   simp only [Act.put,List.setIfInBounds_toArray,List.set_cons_zero,List.set_cons_succ]
   refine wpAnyH_take (i:=23) (oi:=_) (v:=undef) rfl (by kernel_rfl) (by kernel_rfl) (by kernel_rfl) (fun _ _ _ h=>h) (Or.inr ⟨by kernel_rfl,rfl⟩) (by assumption) ?_
   simp only [Act.put,List.setIfInBounds_toArray,List.set_cons_zero,List.set_cons_succ]
   refine wpAnyH_take (i:=24) (oi:=_) (v := ?v16) rfl (by kernel_rfl) (by kernel_rfl) (by kernel_rfl) (fun _ _ _ h=>h) ?y16 (by assumption) ?r16
   case y16=>refine Or.inl ⟨by kernel_rfl,fun w hSw => ?_⟩;(try dsimp only at hSw);go_simp;(try with_reducible rfl)
   simp only [Act.put,List.setIfInBounds_toArray,List.set_cons_zero,List.set_cons_succ]
   refine wpAnyH_take (i:=25) (oi:=_) (v := ?v17) rfl (by kernel_rfl) (by kernel_rfl) (by kernel_rfl) (fun _ _ _ h=>h) ?y17 (by assumption) ?r17
   case y17=>refine Or.inl ⟨by kernel_rfl,fun w hSw => ?_⟩;(try dsimp only at hSw);go_simp;(try with_reducible rfl)
   simp only [Act.put,List.setIfInBounds_toArray,List.set_cons_zero,List.set_cons_succ]
   refine wpAnyH_ready (rs:=[26]) (by kernel_rfl) (by simp) ?_
   refine AllReadyH.cons (o:=_) rfl (fun K hK => ?_) AllReadyH.nil
   go_simp
   obtain ⟨wS,hwS⟩:∃ wS,wS=((((w4.setCell ⟨w.heap.size,0,none⟩ (.int .i64 2)).setCell ⟨w.heap.size,1,none⟩ (.string (s.extract k (k+n)))).setCell ⟨w.heap.size,2,none⟩ (.int .u64 (decV (Zam s k n):Nat))).setCell ⟨w.heap.size,3,none⟩ (.int .i64 k)).drew:=⟨_,rfl⟩
   obtain ⟨s1,s2,s3⟩:=Za5 K40.out hwS
   rw [←hwS]
   clear hwS
   have s2':=s2.trans K4.out
   refine hK.out _ _ ⟨cell_of_row _ _ 0 _ _ _ s2',cell_of_row _ _ 1 _ _ _ s2',cell_of_row _ _ 2 _ _ _ s2',cell_of_row _ _ 3 _ _ _ s2'⟩ (fun hHeld => ?_)
   clear hK K
   try simp only [Act.put,List.setIfInBounds_toArray,List.set_cons_zero,List.set_cons_succ]
   refine wpAnyH_take (i:=27) (oi:=⟨some 5,_,_,_,_,_⟩) (v := ?v18) rfl (by kernel_rfl) (by kernel_rfl) (by kernel_rfl) (fun _ _ _ h=>h) ?y18 (by assumption) ?r18
   case y18=>refine Or.inl ⟨by kernel_rfl,fun w hSw => ?_⟩;(try dsimp only at hSw);go_simp;(try with_reducible rfl)
   simp only [Act.put,List.setIfInBounds_toArray,List.set_cons_zero,List.set_cons_succ]
   refine wpAnyH_done (by kernel_rfl) ?_ _
   have d0:=cell_of_row _ _ 0 _ _ _ s1
   have d1:=cell_of_row _ _ 1 _ _ _ s1
   have d2:=cell_of_row _ _ 2 _ _ _ s1
   have d3:=cell_of_row _ _ 3 _ _ _ s1
   have HBS:=hid (s3 w.heap.size w HB4.out (Nat.le_refl _))
   clear s1 s2 s2' s3 hHeld
   go_wp2
   exact bodyPost_ret (v:=.tuple #[.agg #[.int .i64 2,.string (s.extract k (k+n)),.int .u64 (decV (Zam s k n):Nat),.int .i64 k],.bool true]) (by simp [results,Tryz.results82,go_sem,d0,d1,d2,d3]) rfl ⟨HBS.out,_,_,_,_,_,rfl,Or.inr ⟨_,_,_,by rw [HB.out,if_pos ⟨(Or.inl (by have:=HZ.out;omega)),HA.out⟩],rfl,rfl,rfl,rfl,rfl⟩⟩
  ·have q2:((k:Int)+(n:Int)==(s.size:Int))=false:=by rw [beq_eq_false_iff_ne];omega
   have hlt:k+n<s.size:=by omega
   have ha:=Zhf s hlt
   clear he
   have i0:(0:Int)≤(k:Int)+(n:Int):=by omega
   have i1:(k:Int)+(n:Int)<(s.size:Int):=by omega
   have i2:((k:Int)+(n:Int)).toNat=k+n:=by omega
   cases hb:letB s[k+n] with
   | false=>
    have HL:=hid (fun W=>Zb1 s[k+n] _ hb W)
    have HA:Hid (letAt s (k+n)=false):=ha.trans hb
    clear ha hb
    refine wp_region_held_drew (S:=(fun w'=>w'.cell? ⟨w.heap.size+1,0,none⟩=some (.int .i64 2)∧w'.cell? ⟨w.heap.size+1,1,none⟩=some (.string (s.extract k (k+n)))∧w'.cell? ⟨w.heap.size+1,2,none⟩=some (.int .u64 (decV (Zam s k n):Nat))∧w'.cell? ⟨w.heap.size+1,3,none⟩=some (.int .i64 k))) (by kernel_rfl) hS.out (fun hHeld => ?_)
    refine wpAnyH_take (i:=0) (oi:=_) (v := ?v19) rfl (by kernel_rfl) (by kernel_rfl) (by kernel_rfl) (fun _ _ _ h=>h) ?y19 (by assumption) ?r19
    case y19=>refine Or.inl ⟨by kernel_rfl,fun w hSw => ?_⟩;(try dsimp only at hSw);go_simp;(try with_reducible rfl)
    simp only [Act.put,List.setIfInBounds_toArray,List.set_cons_zero,List.set_cons_succ]
    refine wpAnyH_take (i:=1) (oi:=_) (v := ?v20) rfl (by kernel_rfl) (by kernel_rfl) (by kernel_rfl) (fun _ _ _ h=>h) ?y20 (by assumption) ?r20
    case y20=>refine Or.inl ⟨by kernel_rfl,fun w hSw => ?_⟩;(try dsimp only at hSw);go_simp;(try with_reducible rfl)
    simp only [Act.put,List.setIfInBounds_toArray,List.set_cons_zero,List.set_cons_succ]
    refine wpAnyH_take (i:=2) (oi:=_) (v := ?v21) rfl (by kernel_rfl) (by kernel_rfl) (by kernel_rfl) (fun _ _ _ h=>h) ?y21 (by assumption) ?r21
    case y21=>refine Or.inl ⟨by kernel_rfl,fun w hSw => ?_⟩;(try dsimp only at hSw);go_simp;(try with_reducible rfl)
    simp only [Act.put,List.setIfInBounds_toArray,List.set_cons_zero,List.set_cons_succ]
    refine wpAnyH_take (i:=3) (oi:=_) (v := ?v22) rfl (by kernel_rfl) (by kernel_rfl) (by kernel_rfl) (fun _ _ _ h=>h) ?y22 (by assumption) ?r22
    case y22=>refine Or.inl ⟨by kernel_rfl,fun w hSw => ?_⟩;(try dsimp only at hSw);go_simp;(try with_reducible rfl)
    simp only [Act.put,List.setIfInBounds_toArray,List.set_cons_zero,List.set_cons_succ]
    refine wpAnyH_take (i:=4) (oi:=_) (v := ?v23) rfl (by kernel_rfl) (by kernel_rfl) (by kernel_rfl) (fun _ _ _ h=>h) ?y23 (by assumption) ?r23
    case y23=>refine Or.inl ⟨by kernel_rfl,fun w hSw => ?_⟩;(try dsimp only at hSw);go_simp;(try with_reducible rfl)
    simp only [Act.put,List.setIfInBounds_toArray,List.set_cons_zero,List.set_cons_succ]
    refine wpAnyH_take (i:=5) (oi:=_) (v := ?v24) rfl (by kernel_rfl) (by kernel_rfl) (by kernel_rfl) (fun _ _ _ h=>h) ?y24 (by assumption) ?r24
    case y24=>refine Or.inl ⟨by kernel_rfl,fun w hSw => ?_⟩;(try dsimp only at hSw);go_simp;(try with_reducible rfl)
    simp only [Act.put,List.setIfInBounds_toArray,List.set_cons_zero,List.set_cons_succ]
    refine wpAnyH_take (i:=6) (oi:=_) (v := ?v25) rfl (by kernel_rfl) (by kernel_rfl) (by kernel_rfl) (fun _ _ _ h=>h) ?y25 (by assumption) ?r25
    case y25=>refine Or.inl ⟨by kernel_rfl,fun w hSw => ?_⟩;(try dsimp only at hSw);go_simp;(try with_reducible rfl)
    simp only [Act.put,List.setIfInBounds_toArray,List.set_cons_zero,List.set_cons_succ]
    refine wpAnyH_take (i:=7) (oi:=_) (v:=undef) rfl (by kernel_rfl) (by kernel_rfl) (by kernel_rfl) (fun _ _ _ h=>h) (Or.inr ⟨by kernel_rfl,rfl⟩) (by assumption) ?_
    simp only [Act.put,List.setIfInBounds_toArray,List.set_cons_zero,List.set_cons_succ]
    refine wpAnyH_take (i:=8) (oi:=_) (v:=undef) rfl (by kernel_rfl) (by kernel_rfl) (by kernel_rfl) (fun _ _ _ h=>h) (Or.inr ⟨by kernel_rfl,rfl⟩) (by assumption) ?_
    simp only [Act.put,List.setIfInBounds_toArray,List.set_cons_zero,List.set_cons_succ]
    refine wpAnyH_take (i:=9) (oi:=_) (v:=undef) rfl (by kernel_rfl) (by kernel_rfl) (by kernel_rfl) (fun _ _ _ h=>h) (Or.inr ⟨by kernel_rfl,rfl⟩) (by assumption) ?_
    simp only [Act.put,List.setIfInBounds_toArray,List.set_cons_zero,List.set_cons_succ]
    refine wpAnyH_take (i:=10) (oi:=_) (v:=undef) rfl (by kernel_rfl) (by kernel_rfl) (by kernel_rfl) (fun _ _ _ h=>h) (Or.inr ⟨by kernel_rfl,rfl⟩) (by assumption) ?_
    simp only [Act.put,List.setIfInBounds_toArray,List.set_cons_zero,List.set_cons_succ]
    refine wpAnyH_take (i:=11) (oi:=_) (v := ?v26) rfl (by kernel_rfl) (by kernel_rfl) (by kernel_rfl) (fun _ _ _ h=>h) ?y26 (by assumption) ?r26
    case y26=>refine Or.inl ⟨by kernel_rfl,fun w hSw => ?_⟩;(try dsimp only at hSw);go_simp;(try with_reducible rfl)
    simp only [Act.put,List.setIfInBounds_toArray,List.set_cons_zero,List.set_cons_succ]
    refine wpAnyH_take (i:=12) (oi:=_) (v := ?v27) rfl (by kernel_rfl) (by kernel_rfl) (by kernel_rfl) (fun _ _ _ h=>h) ?y27 (by assumption) ?r27
    case y27=>refine Or.inl ⟨by kernel_rfl,fun w hSw => ?_⟩;(try dsimp only at hSw);go_simp;(try with_reducible rfl)
    simp only [Act.put,List.setIfInBounds_toArray,List.set_cons_zero,List.set_cons_succ]
    refine wpAnyH_take (i:=13) (oi:=_) (v := ?v28) rfl (by kernel_rfl) (by kernel_rfl) (by kernel_rfl) (fun _ _ _ h=>h) ?y28 (by assumption) ?r28
    case y28=>refine Or.inl ⟨by kernel_rfl,fun w hSw => ?_⟩;(try dsimp only at hSw);go_simp;(try with_reducible rfl)
    simp only [Act.put,List.setIfInBounds_toArray,List.set_cons_zero,List.set_cons_succ]
    refine wpAnyH_take (i:=14) (oi:=_) (v := ?v29) rfl (by kernel_rfl) (by kernel_rfl) (by kernel_rfl) (fun _ _ _ h=>h) ?y29 (by assumption) ?r29
    case y29=>refine Or.inl ⟨by kernel_rfl,fun w hSw => ?_⟩;(try dsimp only at hSw);go_simp;(try with_reducible rfl)
    simp only [Act.put,List.setIfInBounds_toArray,List.set_cons_zero,List.set_cons_succ]
    refine wpAnyH_take (i:=15) (oi:=_) (v := ?v30) rfl (by kernel_rfl) (by kernel_rfl) (by kernel_rfl) (fun _ _ _ h=>h) ?y30 (by assumption) ?r30
    case y30=>refine Or.inl ⟨by kernel_rfl,fun w hSw => ?_⟩;(try dsimp only at hSw);go_simp;(try with_reducible rfl)
    simp only [Act.put,List.setIfInBounds_toArray,List.set_cons_zero,List.set_cons_succ]
    refine wpAnyH_take (i:=16) (oi:=_) (v := ?v31) rfl (by kernel_rfl) (by kernel_rfl) (by kernel_rfl) (fun _ _ _ h=>h) ?y31 (by assumption) ?r31
    case y31=>refine Or.inl ⟨by kernel_rfl,fun w hSw => ?_⟩;(try dsimp only at hSw);go_simp;(try with_reducible rfl)
    simp only [Act.put,List.setIfInBounds_toArray,List.set_cons_zero,List.set_cons_succ]
    refine wpAnyH_take (i:=17) (oi:=_) (v := ?v32) rfl (by kernel_rfl) (by kernel_rfl) (by kernel_rfl) (fun _ _ _ h=>h) ?y32 (by assumption) ?r32
    case y32=>refine Or.inl ⟨by kernel_rfl,fun w hSw => ?_⟩;(try dsimp only at hSw);go_simp;(try with_reducible rfl)
    simp only [Act.put,List.setIfInBounds_toArray,List.set_cons_zero,List.set_cons_succ]
    refine wpAnyH_take (i:=18) (oi:=_) (v := ?v33) rfl (by kernel_rfl) (by kernel_rfl) (by kernel_rfl) (fun _ _ _ h=>h) ?y33 (by assumption) ?r33
    case y33=>refine Or.inl ⟨by kernel_rfl,fun w hSw => ?_⟩;(try dsimp only at hSw);go_simp;(try with_reducible rfl)
    simp only [Act.put,List.setIfInBounds_toArray,List.set_cons_zero,List.set_cons_succ]
    refine wpAnyH_take (i:=19) (oi:=_) (v := ?v34) rfl (by kernel_rfl) (by kernel_rfl) (by kernel_rfl) (fun _ _ _ h=>h) ?y34 (by assumption) ?r34
    case y34=>refine Or.inl ⟨by kernel_rfl,fun w hSw => ?_⟩;(try dsimp only at hSw);go_simp;(try with_reducible rfl)
    simp only [Act.put,List.setIfInBounds_toArray,List.set_cons_zero,List.set_cons_succ]
    refine wpAnyH_take (i:=20) (oi:=_) (v := ?v35) rfl (by kernel_rfl) (by kernel_rfl) (by kernel_rfl) (fun _ _ _ h=>h) ?y35 (by assumption) ?r35
    case y35=>refine Or.inl ⟨by kernel_rfl,fun w hSw => ?_⟩;(try dsimp only at hSw);go_simp;(try with_reducible rfl)
    simp only [Act.put,List.setIfInBounds_toArray,List.set_cons_zero,List.set_cons_succ]
    refine wpAnyH_take (i:=21) (oi:=_) (v := ?v36) rfl (by kernel_rfl) (by kernel_rfl) (by kernel_rfl) (fun _ _ _ h=>h) ?y36 (by assumption) ?r36
    case y36=>refine Or.inl ⟨by kernel_rfl,fun w hSw => ?_⟩;(try dsimp only at hSw);go_simp;(try with_reducible rfl)
    simp only [Act.put,List.setIfInBounds_toArray,List.set_cons_zero,List.set_cons_succ]
    refine wpAnyH_ready (rs:=[22]) (by kernel_rfl) (by simp) ?_
    refine AllReadyH.cons (o:=_) rfl (fun K hK => ?_) AllReadyH.nil
    go_simp
    go_at_call 123
    refine (HL.out _).mono ?_
    rintro e w' ⟨rfl,rfl⟩
    refine hK.out _ _ (by assumption) (fun hHeld => ?_)
    clear hK K
    try simp only [Act.put,List.setIfInBounds_toArray,List.set_cons_zero,List.set_cons_succ]
    refine wpAnyH_take (i:=23) (oi:=_) (v := ?v37) rfl (by kernel_rfl) (by kernel_rfl) (by kernel_rfl) (fun _ _ _ h=>h) ?y37 (by assumption) ?r37
    case y37=>refine Or.inl ⟨by kernel_rfl,fun w hSw => ?_⟩;(try dsimp only at hSw);go_simp;(try with_reducible rfl)
    simp only [Act.put,List.setIfInBounds_toArray,List.set_cons_zero,List.set_cons_succ]
    refine wpAnyH_take (i:=24) (oi:=_) (v := ?v38) rfl (by kernel_rfl) (by kernel_rfl) (by kernel_rfl) (fun _ _ _ h=>h) ?y38 (by assumption) ?r38
    case y38=>refine Or.inl ⟨by kernel_rfl,fun w hSw => ?_⟩;(try dsimp only at hSw);go_simp;(try with_reducible rfl)
    simp only [Act.put,List.setIfInBounds_toArray,List.set_cons_zero,List.set_cons_succ]
    refine wpAnyH_take (i:=25) (oi:=_) (v := ?v39) rfl (by kernel_rfl) (by kernel_rfl) (by kernel_rfl) (fun _ _ _ h=>h) ?y39 (by assumption) ?r39
    case y39=>refine Or.inl ⟨by kernel_rfl,fun w hSw => ?_⟩;(try dsimp only at hSw);go_simp;(try with_reducible rfl)
    simp only [Act.put,List.setIfInBounds_toArray,List.set_cons_zero,List.set_cons_succ]
    refine wpAnyH_ready (rs:=[26]) (by kernel_rfl) (by simp) ?_
    refine AllReadyH.cons (o:=_) rfl (fun K hK => ?_) AllReadyH.nil
    go_simp
    obtain ⟨wS,hwS⟩:∃ wS,wS=((((w4.setCell ⟨w.heap.size,0,none⟩ (.int .i64 2)).setCell ⟨w.heap.size,1,none⟩ (.string (s.extract k (k+n)))).setCell ⟨w.heap.size,2,none⟩ (.int .u64 (decV (Zam s k n):Nat))).setCell ⟨w.heap.size,3,none⟩ (.int .i64 k)).drew:=⟨_,rfl⟩
    obtain ⟨s1,s2,s3⟩:=Za5 K40.out hwS
    rw [←hwS]
    clear hwS
    have s2':=s2.trans K4.out
    refine hK.out _ _ ⟨cell_of_row _ _ 0 _ _ _ s2',cell_of_row _ _ 1 _ _ _ s2',cell_of_row _ _ 2 _ _ _ s2',cell_of_row _ _ 3 _ _ _ s2'⟩ (fun hHeld => ?_)
    clear hK K
    try simp only [Act.put,List.setIfInBounds_toArray,List.set_cons_zero,List.set_cons_succ]
    refine wpAnyH_take (i:=27) (oi:=⟨some 5,_,_,_,_,_⟩) (v := ?v40) rfl (by kernel_rfl) (by kernel_rfl) (by kernel_rfl) (fun _ _ _ h=>h) ?y40 (by assumption) ?r40
    case y40=>refine Or.inl ⟨by kernel_rfl,fun w hSw => ?_⟩;(try dsimp only at hSw);go_simp;(try with_reducible rfl)
    simp only [Act.put,List.setIfInBounds_toArray,List.set_cons_zero,List.set_cons_succ]
    refine wpAnyH_done (by kernel_rfl) ?_ _
    have d0:=cell_of_row _ _ 0 _ _ _ s1
    have d1:=cell_of_row _ _ 1 _ _ _ s1
    have d2:=cell_of_row _ _ 2 _ _ _ s1
    have d3:=cell_of_row _ _ 3 _ _ _ s1
    have HBS:=hid (s3 w.heap.size w HB4.out (Nat.le_refl _))
    clear s1 s2 s2' s3 hHeld
    go_wp2
    exact bodyPost_ret (v:=.tuple #[.agg #[.int .i64 2,.string (s.extract k (k+n)),.int .u64 (decV (Zam s k n):Nat),.int .i64 k],.bool true]) (by simp [results,Tryz.results82,go_sem,d0,d1,d2,d3]) rfl ⟨HBS.out,_,_,_,_,_,rfl,Or.inr ⟨_,_,_,by rw [HB.out,if_pos ⟨(Or.inl (by have:=HZ.out;omega)),HA.out⟩],rfl,rfl,rfl,rfl,rfl⟩⟩
   | true=>
    have HL:=hid (fun W=>Zb1 s[k+n] _ hb W)
    have HA:Hid (letAt s (k+n)=true):=ha.trans hb
    clear ha hb
    refine wp_region_held_drew (S:=(fun w'=>w'.cell? ⟨w.heap.size+1,0,none⟩=some (.int .i64 2)∧w'.cell? ⟨w.heap.size+1,1,none⟩=some (.string (s.extract k (k+n)))∧w'.cell? ⟨w.heap.size+1,2,none⟩=some (.int .u64 (decV (Zam s k n):Nat))∧w'.cell? ⟨w.heap.size+1,3,none⟩=some (.int .i64 k))) (by kernel_rfl) hS.out (fun hHeld => ?_)
    refine wpAnyH_take (i:=0) (oi:=_) (v := ?v41) rfl (by kernel_rfl) (by kernel_rfl) (by kernel_rfl) (fun _ _ _ h=>h) ?y41 (by assumption) ?r41
    case y41=>refine Or.inl ⟨by kernel_rfl,fun w hSw => ?_⟩;(try dsimp only at hSw);go_simp;(try with_reducible rfl)
    simp only [Act.put,List.setIfInBounds_toArray,List.set_cons_zero,List.set_cons_succ]
    refine wpAnyH_take (i:=1) (oi:=_) (v := ?v42) rfl (by kernel_rfl) (by kernel_rfl) (by kernel_rfl) (fun _ _ _ h=>h) ?y42 (by assumption) ?r42
    case y42=>refine Or.inl ⟨by kernel_rfl,fun w hSw => ?_⟩;(try dsimp only at hSw);go_simp;(try with_reducible rfl)
    simp only [Act.put,List.setIfInBounds_toArray,List.set_cons_zero,List.set_cons_succ]
    refine wpAnyH_take (i:=2) (oi:=_) (v := ?v43) rfl (by kernel_rfl) (by kernel_rfl) (by kernel_rfl) (fun _ _ _ h=>h) ?y43 (by assumption) ?r43
    case y43=>refine Or.inl ⟨by kernel_rfl,fun w hSw => ?_⟩;(try dsimp only at hSw);go_simp;(try with_reducible rfl)
    simp only [Act.put,List.setIfInBounds_toArray,List.set_cons_zero,List.set_cons_succ]
    refine wpAnyH_take (i:=3) (oi:=_) (v := ?v44) rfl (by kernel_rfl) (by kernel_rfl) (by kernel_rfl) (fun _ _ _ h=>h) ?y44 (by assumption) ?r44
    case y44=>refine Or.inl ⟨by kernel_rfl,fun w hSw => ?_⟩;(try dsimp only at hSw);go_simp;(try with_reducible rfl)
    simp only [Act.put,List.setIfInBounds_toArray,List.set_cons_zero,List.set_cons_succ]
    refine wpAnyH_take (i:=4) (oi:=_) (v := ?v45) rfl (by kernel_rfl) (by kernel_rfl) (by kernel_rfl) (fun _ _ _ h=>h) ?y45 (by assumption) ?r45
    case y45=>refine Or.inl ⟨by kernel_rfl,fun w hSw => ?_⟩;(try dsimp only at hSw);go_simp;(try with_reducible rfl)
    simp only [Act.put,List.setIfInBounds_toArray,List.set_cons_zero,List.set_cons_succ]
    refine wpAnyH_take (i:=5) (oi:=_) (v := ?v46) rfl (by kernel_rfl) (by kernel_rfl) (by kernel_rfl) (fun _ _ _ h=>h) ?y46 (by assumption) ?r46
    case y46=>refine Or.inl ⟨by kernel_rfl,fun w hSw => ?_⟩;(try dsimp only at hSw);go_simp;(try with_reducible rfl)
    simp only [Act.put,List.setIfInBounds_toArray,List.set_cons_zero,List.set_cons_succ]
    refine wpAnyH_take (i:=6) (oi:=_) (v := ?v47) rfl (by kernel_rfl) (by kernel_rfl) (by kernel_rfl) (fun _ _ _ h=>h) ?y47 (by assumption) ?r47
    case y47=>refine Or.inl ⟨by kernel_rfl,fun w hSw => ?_⟩;(try dsimp only at hSw);go_simp;(try with_reducible rfl)
    simp only [Act.put,List.setIfInBounds_toArray,List.set_cons_zero,List.set_cons_succ]
    refine wpAnyH_take (i:=7) (oi:=_) (v:=undef) rfl (by kernel_rfl) (by kernel_rfl) (by kernel_rfl) (fun _ _ _ h=>h) (Or.inr ⟨by kernel_rfl,rfl⟩) (by assumption) ?_
    simp only [Act.put,List.setIfInBounds_toArray,List.set_cons_zero,List.set_cons_succ]
    refine wpAnyH_take (i:=8) (oi:=_) (v:=undef) rfl (by kernel_rfl) (by kernel_rfl) (by kernel_rfl) (fun _ _ _ h=>h) (Or.inr ⟨by kernel_rfl,rfl⟩) (by assumption) ?_
    simp only [Act.put,List.setIfInBounds_toArray,List.set_cons_zero,List.set_cons_succ]
    refine wpAnyH_take (i:=9) (oi:=_) (v:=undef) rfl (by kernel_rfl) (by kernel_rfl) (by kernel_rfl) (fun _ _ _ h=>h) (Or.inr ⟨by kernel_rfl,rfl⟩) (by assumption) ?_
    simp only [Act.put,List.setIfInBounds_toArray,List.set_cons_zero,List.set_cons_succ]
    refine wpAnyH_take (i:=10) (oi:=_) (v:=undef) rfl (by kernel_rfl) (by kernel_rfl) (by kernel_rfl) (fun _ _ _ h=>h) (Or.inr ⟨by kernel_rfl,rfl⟩) (by assumption) ?_
    simp only [Act.put,List.setIfInBounds_toArray,List.set_cons_zero,List.set_cons_succ]
    refine wpAnyH_take (i:=11) (oi:=_) (v := ?v48) rfl (by kernel_rfl) (by kernel_rfl) (by kernel_rfl) (fun _ _ _ h=>h) ?y48 (by assumption) ?r48
    case y48=>refine Or.inl ⟨by kernel_rfl,fun w hSw => ?_⟩;(try dsimp only at hSw);go_simp;(try with_reducible rfl)
    simp only [Act.put,List.setIfInBounds_toArray,List.set_cons_zero,List.set_cons_succ]
    refine wpAnyH_take (i:=12) (oi:=_) (v := ?v49) rfl (by kernel_rfl) (by kernel_rfl) (by kernel_rfl) (fun _ _ _ h=>h) ?y49 (by assumption) ?r49
    case y49=>refine Or.inl ⟨by kernel_rfl,fun w hSw => ?_⟩;(try dsimp only at hSw);go_simp;(try with_reducible rfl)
    simp only [Act.put,List.setIfInBounds_toArray,List.set_cons_zero,List.set_cons_succ]
    refine wpAnyH_take (i:=13) (oi:=_) (v := ?v50) rfl (by kernel_rfl) (by kernel_rfl) (by kernel_rfl) (fun _ _ _ h=>h) ?y50 (by assumption) ?r50
    case y50=>refine Or.inl ⟨by kernel_rfl,fun w hSw => ?_⟩;(try dsimp only at hSw);go_simp;(try with_reducible rfl)
    simp only [Act.put,List.setIfInBounds_toArray,List.set_cons_zero,List.set_cons_succ]
    refine wpAnyH_take (i:=14) (oi:=_) (v := ?v51) rfl (by kernel_rfl) (by kernel_rfl) (by kernel_rfl) (fun _ _ _ h=>h) ?y51 (by assumption) ?r51
    case y51=>refine Or.inl ⟨by kernel_rfl,fun w hSw => ?_⟩;(try dsimp only at hSw);go_simp;(try with_reducible rfl)
    simp only [Act.put,List.setIfInBounds_toArray,List.set_cons_zero,List.set_cons_succ]
    refine wpAnyH_take (i:=15) (oi:=_) (v := ?v52) rfl (by kernel_rfl) (by kernel_rfl) (by kernel_rfl) (fun _ _ _ h=>h) ?y52 (by assumption) ?r52
    case y52=>refine Or.inl ⟨by kernel_rfl,fun w hSw => ?_⟩;(try dsimp only at hSw);go_simp;(try with_reducible rfl)
    simp only [Act.put,List.setIfInBounds_toArray,List.set_cons_zero,List.set_cons_succ]
    refine wpAnyH_take (i:=16) (oi:=_) (v := ?v53) rfl (by kernel_rfl) (by kernel_rfl) (by kernel_rfl) (fun _ _ _ h=>h) ?y53 (by assumption) ?r53
    case y53=>refine Or.inl ⟨by kernel_rfl,fun w hSw => ?_⟩;(try dsimp only at hSw);go_simp;(try with_reducible rfl)
    simp only [Act.put,List.setIfInBounds_toArray,List.set_cons_zero,List.set_cons_succ]
    refine wpAnyH_take (i:=17) (oi:=_) (v := ?v54) rfl (by kernel_rfl) (by kernel_rfl) (by kernel_rfl) (fun _ _ _ h=>h) ?y54 (by assumption) ?r54
    case y54=>refine Or.inl ⟨by kernel_rfl,fun w hSw => ?_⟩;(try dsimp only at hSw);go_simp;(try with_reducible rfl)
    simp only [Act.put,List.setIfInBounds_toArray,List.set_cons_zero,List.set_cons_succ]
    refine wpAnyH_take (i:=18) (oi:=_) (v := ?v55) rfl (by kernel_rfl) (by kernel_rfl) (by kernel_rfl) (fun _ _ _ h=>h) ?y55 (by assumption) ?r55
    case y55=>refine Or.inl ⟨by kernel_rfl,fun w hSw => ?_⟩;(try dsimp only at hSw);go_simp;(try with_reducible rfl)
    simp only [Act.put,List.setIfInBounds_toArray,List.set_cons_zero,List.set_cons_succ]
    refine wpAnyH_take (i:=19) (oi:=_) (v := ?v56) rfl (by kernel_rfl) (by kernel_rfl) (by kernel_rfl) (fun _ _ _ h=>h) ?y56 (by assumption) ?r56
    case y56=>refine Or.inl ⟨by kernel_rfl,fun w hSw => ?_⟩;(try dsimp only at hSw);go_simp;(try with_reducible rfl)
    simp only [Act.put,List.setIfInBounds_toArray,List.set_cons_zero,List.set_cons_succ]
    refine wpAnyH_take (i:=20) (oi:=_) (v := ?v57) rfl (by kernel_rfl) (by kernel_rfl) (by kernel_rfl) (fun _ _ _ h=>h) ?y57 (by assumption) ?r57
    case y57=>refine Or.inl ⟨by kernel_rfl,fun w hSw => ?_⟩;(try dsimp only at hSw);go_simp;(try with_reducible rfl)
    simp only [Act.put,List.setIfInBounds_toArray,List.set_cons_zero,List.set_cons_succ]
    refine wpAnyH_take (i:=21) (oi:=_) (v := ?v58) rfl (by kernel_rfl) (by kernel_rfl) (by kernel_rfl) (fun _ _ _ h=>h) ?y58 (by assumption) ?r58
    case y58=>refine Or.inl ⟨by kernel_rfl,fun w hSw => ?_⟩;(try dsimp only at hSw);go_simp;(try with_reducible rfl)
    simp only [Act.put,List.setIfInBounds_toArray,List.set_cons_zero,List.set_cons_succ]
    refine wpAnyH_ready (rs:=[22]) (by kernel_rfl) (by simp) ?_
    refine AllReadyH.cons (o:=_) rfl (fun K hK => ?_) AllReadyH.nil
    go_simp
    go_at_call 123
    refine (HL.out _).mono ?_
    rintro e w' ⟨rfl,rfl⟩
    refine hK.out _ _ (by assumption) (fun hHeld => ?_)
    clear hK K
    try simp only [Act.put,List.setIfInBounds_toArray,List.set_cons_zero,List.set_cons_succ]
    refine wpAnyH_take (i:=23) (oi:=_) (v := ?v59) rfl (by kernel_rfl) (by kernel_rfl) (by kernel_rfl) (fun _ _ _ h=>h) ?y59 (by assumption) ?r59
    case y59=>refine Or.inl ⟨by kernel_rfl,fun w hSw => ?_⟩;(try dsimp only at hSw);go_simp;(try with_reducible rfl)
    simp only [Act.put,List.setIfInBounds_toArray,List.set_cons_zero,List.set_cons_succ]
    refine wpAnyH_take (i:=24) (oi:=_) (v := ?v60) rfl (by kernel_rfl) (by kernel_rfl) (by kernel_rfl) (fun _ _ _ h=>h) ?y60 (by assumption) ?r60
    case y60=>refine Or.inl ⟨by kernel_rfl,fun w hSw => ?_⟩;(try dsimp only at hSw);go_simp;(try with_reducible rfl)
    simp only [Act.put,List.setIfInBounds_toArray,List.set_cons_zero,List.set_cons_succ]
    refine wpAnyH_take (i:=25) (oi:=_) (v := ?v61) rfl (by kernel_rfl) (by kernel_rfl) (by kernel_rfl) (fun _ _ _ h=>h) ?y61 (by assumption) ?r61
    case y61=>refine Or.inl ⟨by kernel_rfl,fun w hSw => ?_⟩;(try dsimp only at hSw);go_simp;(try with_reducible rfl)
    simp only [Act.put,List.setIfInBounds_toArray,List.set_cons_zero,List.set_cons_succ]
    refine wpAnyH_ready (rs:=[26]) (by kernel_rfl) (by simp) ?_
    refine AllReadyH.cons (o:=_) rfl (fun K hK => ?_) AllReadyH.nil
    go_simp
    obtain ⟨wS,hwS⟩:∃ wS,wS=((((w4.setCell ⟨w.heap.size,0,none⟩ (.int .i64 2)).setCell ⟨w.heap.size,1,none⟩ (.string (s.extract k (k+n)))).setCell ⟨w.heap.size,2,none⟩ (.int .u64 (decV (Zam s k n):Nat))).setCell ⟨w.heap.size,3,none⟩ (.int .i64 k)).drew:=⟨_,rfl⟩
    obtain ⟨s1,s2,s3⟩:=Za5 K40.out hwS
    rw [←hwS]
    clear hwS
    have s2':=s2.trans K4.out
    refine hK.out _ _ ⟨cell_of_row _ _ 0 _ _ _ s2',cell_of_row _ _ 1 _ _ _ s2',cell_of_row _ _ 2 _ _ _ s2',cell_of_row _ _ 3 _ _ _ s2'⟩ (fun hHeld => ?_)
    clear hK K
    try simp only [Act.put,List.setIfInBounds_toArray,List.set_cons_zero,List.set_cons_succ]
    refine wpAnyH_take (i:=27) (oi:=⟨some 5,_,_,_,_,_⟩) (v := ?v62) rfl (by kernel_rfl) (by kernel_rfl) (by kernel_rfl) (fun _ _ _ h=>h) ?y62 (by assumption) ?r62
    case y62=>refine Or.inl ⟨by kernel_rfl,fun w hSw => ?_⟩;(try dsimp only at hSw);go_simp;(try with_reducible rfl)
    simp only [Act.put,List.setIfInBounds_toArray,List.set_cons_zero,List.set_cons_succ]
    refine wpAnyH_done (by kernel_rfl) ?_ _
    have d0:=cell_of_row _ _ 0 _ _ _ s1
    have d1:=cell_of_row _ _ 1 _ _ _ s1
    have d2:=cell_of_row _ _ 2 _ _ _ s1
    have d3:=cell_of_row _ _ 3 _ _ _ s1
    have HBS:=hid (s3 w.heap.size w HB4.out (Nat.le_refl _))
    clear s1 s2 s2' s3 hHeld
    go_wp2
    exact bodyPost_ret (v:=.tuple #[.agg #[.int .i64 2,.string (s.extract k (k+n)),.int .u64 (decV (Zam s k n):Nat),.int .i64 k],.bool false]) (by simp [results,Tryz.results82,go_sem,d0,d1,d2,d3]) rfl ⟨HBS.out,_,_,_,_,_,rfl,Or.inl ⟨by rw [HB.out,if_neg (fun h=>by rw [HA.out] at h;exact absurd h.2 (by simp))],rfl⟩⟩
 ·clear he
  by_cases he:k+n=s.size
  ·have q2:((k:Int)+(n:Int)==(s.size:Int))=true:=by rw [beq_iff_eq];omega
   have HA:=hid (ZfL s he)
   clear he
   refine wp_region_held_drew (S:=(fun w'=>w'.cell? ⟨w.heap.size+1,0,none⟩=some (.int .i64 2)∧w'.cell? ⟨w.heap.size+1,1,none⟩=some (.string (s.extract k (k+n)))∧w'.cell? ⟨w.heap.size+1,2,none⟩=some (.int .u64 (decV (Zam s k n):Nat))∧w'.cell? ⟨w.heap.size+1,3,none⟩=some (.int .i64 k))) (by kernel_rfl) hS.out (fun hHeld => ?_)
   refine wpAnyH_take (i:=0) (oi:=_) (v := ?v63) rfl (by kernel_rfl) (by kernel_rfl) (by kernel_rfl) (fun _ _ _ h=>h) ?y63 (by assumption) ?r63
   case y63=>refine Or.inl ⟨by kernel_rfl,fun w hSw => ?_⟩;(try dsimp only at hSw);go_simp;(try with_reducible rfl)
   simp only [Act.put,List.setIfInBounds_toArray,List.set_cons_zero,List.set_cons_succ]
   refine wpAnyH_take (i:=1) (oi:=_) (v := ?v64) rfl (by kernel_rfl) (by kernel_rfl) (by kernel_rfl) (fun _ _ _ h=>h) ?y64 (by assumption) ?r64
   case y64=>refine Or.inl ⟨by kernel_rfl,fun w hSw => ?_⟩;(try dsimp only at hSw);go_simp;(try with_reducible rfl)
   simp only [Act.put,List.setIfInBounds_toArray,List.set_cons_zero,List.set_cons_succ]
   refine wpAnyH_take (i:=2) (oi:=_) (v := ?v65) rfl (by kernel_rfl) (by kernel_rfl) (by kernel_rfl) (fun _ _ _ h=>h) ?y65 (by assumption) ?r65
   case y65=>refine Or.inl ⟨by kernel_rfl,fun w hSw => ?_⟩;(try dsimp only at hSw);go_simp;(try with_reducible rfl)
   simp only [Act.put,List.setIfInBounds_toArray,List.set_cons_zero,List.set_cons_succ]
   refine wpAnyH_take (i:=3) (oi:=_) (v := ?v66) rfl (by kernel_rfl) (by kernel_rfl) (by kernel_rfl) (fun _ _ _ h=>h) ?y66 (by assumption) ?r66
   case y66=>refine Or.inl ⟨by kernel_rfl,fun w hSw => ?_⟩;(try dsimp only at hSw);go_simp;(try with_reducible rfl)
   simp only [Act.put,List.setIfInBounds_toArray,List.set_cons_zero,List.set_cons_succ]
   refine wpAnyH_take (i:=4) (oi:=_) (v := ?v67) rfl (by kernel_rfl) (by kernel_rfl) (by kernel_rfl) (fun _ _ _ h=>h) ?y67 (by assumption) ?r67
   case y67=>refine Or.inl ⟨by kernel_rfl,fun w hSw => ?_⟩;(try dsimp only at hSw);go_simp;(try with_reducible rfl)
   simp only [Act.put,List.setIfInBounds_toArray,List.set_cons_zero,List.set_cons_succ]
   refine wpAnyH_take (i:=5) (oi:=_) (v := ?v68) rfl (by kernel_rfl) (by kernel_rfl) (by kernel_rfl) (fun _ _ _ h=>h) ?y68 (by assumption) ?r68
   case y68=>refine Or.inl ⟨by kernel_rfl,fun w hSw => ?_⟩;(try dsimp only at hSw);go_simp;(try with_reducible rfl)
   simp only [Act.put,List.setIfInBounds_toArray,List.set_cons_zero,List.set_cons_succ]
   refine wpAnyH_take (i:=6) (oi:=_) (v := ?v69) rfl (by kernel_rfl) (by kernel_rfl) (by kernel_rfl) (fun _ _ _ h=>h) ?y69 (by assumption) ?r69
   case y69=>refine Or.inl ⟨by kernel_rfl,fun w hSw => ?_⟩;(try dsimp only at hSw);go_simp;(try with_reducible rfl)
   simp only [Act.put,List.setIfInBounds_toArray,List.set_cons_zero,List.set_cons_succ]
   refine wpAnyH_take (i:=7) (oi:=_) (v := ?v70) rfl (by kernel_rfl) (by kernel_rfl) (by kernel_rfl) (fun _ _ _ h=>h) ?y70 (by assumption) ?r70
   case y70=>refine Or.inl ⟨by kernel_rfl,fun w hSw => ?_⟩;(try dsimp only at hSw);go_simp;(try with_reducible rfl)
   simp only [Act.put,List.setIfInBounds_toArray,List.set_cons_zero,List.set_cons_succ]
   refine wpAnyH_take (i:=8) (oi:=_) (v := ?v71) rfl (by kernel_rfl) (by kernel_rfl) (by kernel_rfl) (fun _ _ _ h=>h) ?y71 (by assumption) ?r71
   case y71=>refine Or.inl ⟨by kernel_rfl,fun w hSw => ?_⟩;(try dsimp only at hSw);go_simp;(try with_reducible rfl)
   simp only [Act.put,List.setIfInBounds_toArray,List.set_cons_zero,List.set_cons_succ]
   refine wpAnyH_take (i:=9) (oi:=_) (v := ?v72) rfl (by kernel_rfl) (by kernel_rfl) (by kernel_rfl) (fun _ _ _ h=>h) ?y72 (by assumption) ?r72
   case y72=>refine Or.inl ⟨by kernel_rfl,fun w hSw => ?_⟩;(try dsimp only at hSw);go_simp;(try with_reducible rfl)
   simp only [Act.put,List.setIfInBounds_toArray,List.set_cons_zero,List.set_cons_succ]
   refine wpAnyH_take (i:=10) (oi:=_) (v := ?v73) rfl (by kernel_rfl) (by kernel_rfl) (by kernel_rfl) (fun _ _ _ h=>h) ?y73 (by assumption) ?r73
   case y73=>refine Or.inl ⟨by kernel_rfl,fun w hSw => ?_⟩;(try dsimp only at hSw);go_simp;(try with_reducible rfl)
   simp only [Act.put,List.setIfInBounds_toArray,List.set_cons_zero,List.set_cons_succ]
   refine wpAnyH_take (i:=11) (oi:=_) (v := ?v74) rfl (by kernel_rfl) (by kernel_rfl) (by kernel_rfl) (fun _ _ _ h=>h) ?y74 (by assumption) ?r74
   case y74=>refine Or.inl ⟨by kernel_rfl,fun w hSw => ?_⟩;(try dsimp only at hSw);go_simp;(try with_reducible rfl)
   simp only [Act.put,List.setIfInBounds_toArray,List.set_cons_zero,List.set_cons_succ]
   refine wpAnyH_take (i:=12) (oi:=_) (v := ?v75) rfl (by kernel_rfl) (by kernel_rfl) (by kernel_rfl) (fun _ _ _ h=>h) ?y75 (by assumption) ?r75
   case y75=>refine Or.inl ⟨by kernel_rfl,fun w hSw => ?_⟩;(try dsimp only at hSw);go_simp;(try with_reducible rfl)
   simp only [Act.put,List.setIfInBounds_toArray,List.set_cons_zero,List.set_cons_succ]
   refine wpAnyH_take (i:=13) (oi:=_) (v := ?v76) rfl (by kernel_rfl) (by kernel_rfl) (by kernel_rfl) (fun _ _ _ h=>h) ?y76 (by assumption) ?r76
   case y76=>refine Or.inl ⟨by kernel_rfl,fun w hSw => ?_⟩;(try dsimp only at hSw);go_simp;(try with_reducible rfl)
   simp only [Act.put,List.setIfInBounds_toArray,List.set_cons_zero,List.set_cons_succ]
   refine wpAnyH_take (i:=14) (oi:=_) (v := ?v77) rfl (by kernel_rfl) (by kernel_rfl) (by kernel_rfl) (fun _ _ _ h=>h) ?y77 (by assumption) ?r77
   case y77=>refine Or.inl ⟨by kernel_rfl,fun w hSw => ?_⟩;(try dsimp only at hSw);go_simp;(try with_reducible rfl)
   simp only [Act.put,List.setIfInBounds_toArray,List.set_cons_zero,List.set_cons_succ]
   refine wpAnyH_take (i:=15) (oi:=_) (v := ?v78) rfl (by kernel_rfl) (by kernel_rfl) (by kernel_rfl) (fun _ _ _ h=>h) ?y78 (by assumption) ?r78
   case y78=>refine Or.inl ⟨by kernel_rfl,fun w hSw => ?_⟩;(try dsimp only at hSw);go_simp;(try with_reducible rfl)
   simp only [Act.put,List.setIfInBounds_toArray,List.set_cons_zero,List.set_cons_succ]
   refine wpAnyH_take (i:=16) (oi:=_) (v := ?v79) rfl (by kernel_rfl) (by kernel_rfl) (by kernel_rfl) (fun _ _ _ h=>h) ?y79 (by assumption) ?r79
   case y79=>refine Or.inl ⟨by kernel_rfl,fun w hSw => ?_⟩;(try dsimp only at hSw);go_simp;(try with_reducible rfl)
   simp only [Act.put,List.setIfInBounds_toArray,List.set_cons_zero,List.set_cons_succ]
   refine wpAnyH_take (i:=17) (oi:=_) (v := ?v80) rfl (by kernel_rfl) (by kernel_rfl) (by kernel_rfl) (fun _ _ _ h=>h) ?y80 (by assumption) ?r80
   case y80=>refine Or.inl ⟨by kernel_rfl,fun w hSw => ?_⟩;(try dsimp only at hSw);go_simp;(try with_reducible rfl)
   simp only [Act.put,List.setIfInBounds_toArray,List.set_cons_zero,List.set_cons_succ]
   refine wpAnyH_take (i:=18) (oi:=_) (v := ?v81) rfl (by kernel_rfl) (by kernel_rfl) (by kernel_rfl) (fun _ _ _ h=>h) ?y81 (by assumption) ?r81
   case y81=>refine Or.inl ⟨by kernel_rfl,fun w hSw => ?_⟩;(try dsimp only at hSw);go_simp;(try with_reducible rfl)
   simp only [Act.put,List.setIfInBounds_toArray,List.set_cons_zero,List.set_cons_succ]
   refine wpAnyH_take (i:=19) (oi:=_) (v:=undef) rfl (by kernel_rfl) (by kernel_rfl) (by kernel_rfl) (fun _ _ _ h=>h) (Or.inr ⟨by kernel_rfl,rfl⟩) (by assumption) ?_
   simp only [Act.put,List.setIfInBounds_toArray,List.set_cons_zero,List.set_cons_succ]
   refine wpAnyH_take (i:=20) (oi:=_) (v:=undef) rfl (by kernel_rfl) (by kernel_rfl) (by kernel_rfl) (fun _ _ _ h=>h) (Or.inr ⟨by kernel_rfl,rfl⟩) (by assumption) ?_
   simp only [Act.put,List.setIfInBounds_toArray,List.set_cons_zero,List.set_cons_succ]
   refine wpAnyH_take (i:=21) (oi:=_) (v:=undef) rfl (by kernel_rfl) (by kernel_rfl) (by kernel_rfl) (fun _ _ _ h=>h) (Or.inr ⟨by kernel_rfl,rfl⟩) (by assumption) ?_
   simp only [Act.put,List.setIfInBounds_toArray,List.set_cons_zero,List.set_cons_succ]
   refine wpAnyH_take (i:=22) (oi:=_) (v:=undef) rfl (by kernel_rfl) (by kernel_rfl) (by kernel_rfl) (fun _ _ _ h=>h) (Or.inr ⟨by kernel_rfl,rfl⟩) (by assumption) ?_
   simp only [Act.put,List.setIfInBounds_toArray,List.set_cons_zero,List.set_cons_succ]
   refine wpAnyH_take (i:=23) (oi:=_) (v:=undef) rfl (by kernel_rfl) (by kernel_rfl) (by kernel_rfl) (fun _ _ _ h=>h) (Or.inr ⟨by kernel_rfl,rfl⟩) (by assumption) ?_
   simp only [Act.put,List.setIfInBounds_toArray,List.set_cons_zero,List.set_cons_succ]
   refine wpAnyH_take (i:=24) (oi:=_) (v := ?v82) rfl (by kernel_rfl) (by kernel_rfl) (by kernel_rfl) (fun _ _ _ h=>h) ?y82 (by assumption) ?r82
   case y82=>refine Or.inl ⟨by kernel_rfl,fun w hSw => ?_⟩;(try dsimp only at hSw);go_simp;(try with_reducible rfl)
   simp only [Act.put,List.setIfInBounds_toArray,List.set_cons_zero,List.set_cons_succ]
   refine wpAnyH_take (i:=25) (oi:=_) (v := ?v83) rfl (by kernel_rfl) (by kernel_rfl) (by kernel_rfl) (fun _ _ _ h=>h) ?y83 (by assumption) ?r83
   case y83=>refine Or.inl ⟨by kernel_rfl,fun w hSw => ?_⟩;(try dsimp only at hSw);go_simp;(try with_reducible rfl)
   simp only [Act.put,List.setIfInBounds_toArray,List.set_cons_zero,List.set_cons_succ]
   refine wpAnyH_ready (rs:=[26]) (by kernel_rfl) (by simp) ?_
   refine AllReadyH.cons (o:=_) rfl (fun K hK => ?_) AllReadyH.nil
   go_simp
   obtain ⟨wS,hwS⟩:∃ wS,wS=((((w4.setCell ⟨w.heap.size,0,none⟩ (.int .i64 2)).setCell ⟨w.heap.size,1,none⟩ (.string (s.extract k (k+n)))).setCell ⟨w.heap.size,2,none⟩ (.int .u64 (decV (Zam s k n):Nat))).setCell ⟨w.heap.size,3,none⟩ (.int .i64 k)).drew:=⟨_,rfl⟩
   obtain ⟨s1,s2,s3⟩:=Za5 K40.out hwS
   rw [←hwS]
   clear hwS
   have s2':=s2.trans K4.out
   refine hK.out _ _ ⟨cell_of_row _ _ 0 _ _ _ s2',cell_of_row _ _ 1 _ _ _ s2',cell_of_row _ _ 2 _ _ _ s2',cell_of_row _ _ 3 _ _ _ s2'⟩ (fun hHeld => ?_)
   clear hK K
   try simp only [Act.put,List.setIfInBounds_toArray,List.set_cons_zero,List.set_cons_succ]
   refine wpAnyH_take (i:=27) (oi:=⟨some 5,_,_,_,_,_⟩) (v := ?v84) rfl (by kernel_rfl) (by kernel_rfl) (by kernel_rfl) (fun _ _ _ h=>h) ?y84 (by assumption) ?r84
   case y84=>refine Or.inl ⟨by kernel_rfl,fun w hSw => ?_⟩;(try dsimp only at hSw);go_simp;(try with_reducible rfl)
   simp only [Act.put,List.setIfInBounds_toArray,List.set_cons_zero,List.set_cons_succ]
   refine wpAnyH_done (by kernel_rfl) ?_ _
   have d0:=cell_of_row _ _ 0 _ _ _ s1
   have d1:=cell_of_row _ _ 1 _ _ _ s1
   have d2:=cell_of_row _ _ 2 _ _ _ s1
   have d3:=cell_of_row _ _ 3 _ _ _ s1
   have HBS:=hid (s3 w.heap.size w HB4.out (Nat.le_refl _))
   clear s1 s2 s2' s3 hHeld
   go_wp2
   exact bodyPost_ret (v:=.tuple #[.agg #[.int .i64 2,.string (s.extract k (k+n)),.int .u64 (decV (Zam s k n):Nat),.int .i64 k],.bool true]) (by simp [results,Tryz.results82,go_sem,d0,d1,d2,d3]) rfl ⟨HBS.out,_,_,_,_,_,rfl,Or.inr ⟨_,_,_,by rw [HB.out,if_pos ⟨(Or.inr HN1.out),HA.out⟩],rfl,rfl,rfl,rfl,rfl⟩⟩
  ·have q2:((k:Int)+(n:Int)==(s.size:Int))=false:=by rw [beq_eq_false_iff_ne];omega
   have hlt:k+n<s.size:=by omega
   have ha:=Zhf s hlt
   clear he
   have i0:(0:Int)≤(k:Int)+(n:Int):=by omega
   have i1:(k:Int)+(n:Int)<(s.size:Int):=by omega
   have i2:((k:Int)+(n:Int)).toNat=k+n:=by omega
   cases hb:letB s[k+n] with
   | false=>
    have HL:=hid (fun W=>Zb1 s[k+n] _ hb W)
    have HA:Hid (letAt s (k+n)=false):=ha.trans hb
    clear ha hb
    refine wp_region_held_drew (S:=(fun w'=>w'.cell? ⟨w.heap.size+1,0,none⟩=some (.int .i64 2)∧w'.cell? ⟨w.heap.size+1,1,none⟩=some (.string (s.extract k (k+n)))∧w'.cell? ⟨w.heap.size+1,2,none⟩=some (.int .u64 (decV (Zam s k n):Nat))∧w'.cell? ⟨w.heap.size+1,3,none⟩=some (.int .i64 k))) (by kernel_rfl) hS.out (fun hHeld => ?_)
    refine wpAnyH_take (i:=0) (oi:=_) (v := ?v85) rfl (by kernel_rfl) (by kernel_rfl) (by kernel_rfl) (fun _ _ _ h=>h) ?y85 (by assumption) ?r85
    case y85=>refine Or.inl ⟨by kernel_rfl,fun w hSw => ?_⟩;(try dsimp only at hSw);go_simp;(try with_reducible rfl)
    simp only [Act.put,List.setIfInBounds_toArray,List.set_cons_zero,List.set_cons_succ]
    refine wpAnyH_take (i:=1) (oi:=_) (v := ?v86) rfl (by kernel_rfl) (by kernel_rfl) (by kernel_rfl) (fun _ _ _ h=>h) ?y86 (by assumption) ?r86
    case y86=>refine Or.inl ⟨by kernel_rfl,fun w hSw => ?_⟩;(try dsimp only at hSw);go_simp;(try with_reducible rfl)
    simp only [Act.put,List.setIfInBounds_toArray,List.set_cons_zero,List.set_cons_succ]
    refine wpAnyH_take (i:=2) (oi:=_) (v := ?v87) rfl (by kernel_rfl) (by kernel_rfl) (by kernel_rfl) (fun _ _ _ h=>h) ?y87 (by assumption) ?r87
    case y87=>refine Or.inl ⟨by kernel_rfl,fun w hSw => ?_⟩;(try dsimp only at hSw);go_simp;(try with_reducible rfl)
    simp only [Act.put,List.setIfInBounds_toArray,List.set_cons_zero,List.set_cons_succ]
    refine wpAnyH_take (i:=3) (oi:=_) (v := ?v88) rfl (by kernel_rfl) (by kernel_rfl) (by kernel_rfl) (fun _ _ _ h=>h) ?y88 (by assumption) ?r88
    case y88=>refine Or.inl ⟨by kernel_rfl,fun w hSw => ?_⟩;(try dsimp only at hSw);go_simp;(try with_reducible rfl)
    simp only [Act.put,List.setIfInBounds_toArray,List.set_cons_zero,List.set_cons_succ]
    refine wpAnyH_take (i:=4) (oi:=_) (v := ?v89) rfl (by kernel_rfl) (by kernel_rfl) (by kernel_rfl) (fun _ _ _ h=>h) ?y89 (by assumption) ?r89
    case y89=>refine Or.inl ⟨by kernel_rfl,fun w hSw => ?_⟩;(try dsimp only at hSw);go_simp;(try with_reducible rfl)
    simp only [Act.put,List.setIfInBounds_toArray,List.set_cons_zero,List.set_cons_succ]
    refine wpAnyH_take (i:=5) (oi:=_) (v := ?v90) rfl (by kernel_rfl) (by kernel_rfl) (by kernel_rfl) (fun _ _ _ h=>h) ?y90 (by assumption) ?r90
    case y90=>refine Or.inl ⟨by kernel_rfl,fun w hSw => ?_⟩;(try dsimp only at hSw);go_simp;(try with_reducible rfl)
    simp only [Act.put,List.setIfInBounds_toArray,List.set_cons_zero,List.set_cons_succ]
    refine wpAnyH_take (i:=6) (oi:=_) (v := ?v91) rfl (by kernel_rfl) (by kernel_rfl) (by kernel_rfl) (fun _ _ _ h=>h) ?y91 (by assumption) ?r91
    case y91=>refine Or.inl ⟨by kernel_rfl,fun w hSw => ?_⟩;(try dsimp only at hSw);go_simp;(try with_reducible rfl)
    simp only [Act.put,List.setIfInBounds_toArray,List.set_cons_zero,List.set_cons_succ]
    refine wpAnyH_take (i:=7) (oi:=_) (v := ?v92) rfl (by kernel_rfl) (by kernel_rfl) (by kernel_rfl) (fun _ _ _ h=>h) ?y92 (by assumption) ?r92
    case y92=>refine Or.inl ⟨by kernel_rfl,fun w hSw => ?_⟩;(try dsimp only at hSw);go_simp;(try with_reducible rfl)
    simp only [Act.put,List.setIfInBounds_toArray,List.set_cons_zero,List.set_cons_succ]
    refine wpAnyH_take (i:=8) (oi:=_) (v := ?v93) rfl (by kernel_rfl) (by kernel_rfl) (by kernel_rfl) (fun _ _ _ h=>h) ?y93 (by assumption) ?r93
    case y93=>refine Or.inl ⟨by kernel_rfl,fun w hSw => ?_⟩;(try dsimp only at hSw);go_simp;(try with_reducible rfl)
    simp only [Act.put,List.setIfInBounds_toArray,List.set_cons_zero,List.set_cons_succ]
    refine wpAnyH_take (i:=9) (oi:=_) (v := ?v94) rfl (by kernel_rfl) (by kernel_rfl) (by kernel_rfl) (fun _ _ _ h=>h) ?y94 (by assumption) ?r94
    case y94=>refine Or.inl ⟨by kernel_rfl,fun w hSw => ?_⟩;(try dsimp only at hSw);go_simp;(try with_reducible rfl)
    simp only [Act.put,List.setIfInBounds_toArray,List.set_cons_zero,List.set_cons_succ]
    refine wpAnyH_take (i:=10) (oi:=_) (v := ?v95) rfl (by kernel_rfl) (by kernel_rfl) (by kernel_rfl) (fun _ _ _ h=>h) ?y95 (by assumption) ?r95
    case y95=>refine Or.inl ⟨by kernel_rfl,fun w hSw => ?_⟩;(try dsimp only at hSw);go_simp;(try with_reducible rfl)
    simp only [Act.put,List.setIfInBounds_toArray,List.set_cons_zero,List.set_cons_succ]
    refine wpAnyH_take (i:=11) (oi:=_) (v := ?v96) rfl (by kernel_rfl) (by kernel_rfl) (by kernel_rfl) (fun _ _ _ h=>h) ?y96 (by assumption) ?r96
    case y96=>refine Or.inl ⟨by kernel_rfl,fun w hSw => ?_⟩;(try dsimp only at hSw);go_simp;(try with_reducible rfl)
    simp only [Act.put,List.setIfInBounds_toArray,List.set_cons_zero,List.set_cons_succ]
    refine wpAnyH_take (i:=12) (oi:=_) (v := ?v97) rfl (by kernel_rfl) (by kernel_rfl) (by kernel_rfl) (fun _ _ _ h=>h) ?y97 (by assumption) ?r97
    case y97=>refine Or.inl ⟨by kernel_rfl,fun w hSw => ?_⟩;(try dsimp only at hSw);go_simp;(try with_reducible rfl)
    simp only [Act.put,List.setIfInBounds_toArray,List.set_cons_zero,List.set_cons_succ]
    refine wpAnyH_take (i:=13) (oi:=_) (v := ?v98) rfl (by kernel_rfl) (by kernel_rfl) (by kernel_rfl) (fun _ _ _ h=>h) ?y98 (by assumption) ?r98
    case y98=>refine Or.inl ⟨by kernel_rfl,fun w hSw => ?_⟩;(try dsimp only at hSw);go_simp;(try with_reducible rfl)
    simp only [Act.put,List.setIfInBounds_toArray,List.set_cons_zero,List.set_cons_succ]
    refine wpAnyH_take (i:=14) (oi:=_) (v := ?v99) rfl (by kernel_rfl) (by kernel_rfl) (by kernel_rfl) (fun _ _ _ h=>h) ?y99 (by assumption) ?r99
    case y99=>refine Or.inl ⟨by kernel_rfl,fun w hSw => ?_⟩;(try dsimp only at hSw);go_simp;(try with_reducible rfl)
    simp only [Act.put,List.setIfInBounds_toArray,List.set_cons_zero,List.set_cons_succ]
    refine wpAnyH_take (i:=15) (oi:=_) (v := ?v100) rfl (by kernel_rfl) (by kernel_rfl) (by kernel_rfl) (fun _ _ _ h=>h) ?y100 (by assumption) ?r100
    case y100=>refine Or.inl ⟨by kernel_rfl,fun w hSw => ?_⟩;(try dsimp only at hSw);go_simp;(try with_reducible rfl)
    simp only [Act.put,List.setIfInBounds_toArray,List.set_cons_zero,List.set_cons_succ]
    refine wpAnyH_take (i:=16) (oi:=_) (v := ?v101) rfl (by kernel_rfl) (by kernel_rfl) (by kernel_rfl) (fun _ _ _ h=>h) ?y101 (by assumption) ?r101
    case y101=>refine Or.inl ⟨by kernel_rfl,fun w hSw => ?_⟩;(try dsimp only at hSw);go_simp;(try with_reducible rfl)
    simp only [Act.put,List.setIfInBounds_toArray,List.set_cons_zero,List.set_cons_succ]
    refine wpAnyH_take (i:=17) (oi:=_) (v := ?v102) rfl (by kernel_rfl) (by kernel_rfl) (by kernel_rfl) (fun _ _ _ h=>h) ?y102 (by assumption) ?r102
    case y102=>refine Or.inl ⟨by kernel_rfl,fun w hSw => ?_⟩;(try dsimp only at hSw);go_simp;(try with_reducible rfl)
    simp only [Act.put,List.setIfInBounds_toArray,List.set_cons_zero,List.set_cons_succ]
    refine wpAnyH_take (i:=18) (oi:=_) (v := ?v103) rfl (by kernel_rfl) (by kernel_rfl) (by kernel_rfl) (fun _ _ _ h=>h) ?y103 (by assumption) ?r103
    case y103=>refine Or.inl ⟨by kernel_rfl,fun w hSw => ?_⟩;(try dsimp only at hSw);go_simp;(try with_reducible rfl)
    simp only [Act.put,List.setIfInBounds_toArray,List.set_cons_zero,List.set_cons_succ]
    refine wpAnyH_take (i:=19) (oi:=_) (v := ?v104) rfl (by kernel_rfl) (by kernel_rfl) (by kernel_rfl) (fun _ _ _ h=>h) ?y104 (by assumption) ?r104
    case y104=>refine Or.inl ⟨by kernel_rfl,fun w hSw => ?_⟩;(try dsimp only at hSw);go_simp;(try with_reducible rfl)
    simp only [Act.put,List.setIfInBounds_toArray,List.set_cons_zero,List.set_cons_succ]
    refine wpAnyH_take (i:=20) (oi:=_) (v := ?v105) rfl (by kernel_rfl) (by kernel_rfl) (by kernel_rfl) (fun _ _ _ h=>h) ?y105 (by assumption) ?r105
    case y105=>refine Or.inl ⟨by kernel_rfl,fun w hSw => ?_⟩;(try dsimp only at hSw);go_simp;(try with_reducible rfl)
    simp only [Act.put,List.setIfInBounds_toArray,List.set_cons_zero,List.set_cons_succ]
    refine wpAnyH_take (i:=21) (oi:=_) (v := ?v106) rfl (by kernel_rfl) (by kernel_rfl) (by kernel_rfl) (fun _ _ _ h=>h) ?y106 (by assumption) ?r106
    case y106=>refine Or.inl ⟨by kernel_rfl,fun w hSw => ?_⟩;(try dsimp only at hSw);go_simp;(try with_reducible rfl)
    simp only [Act.put,List.setIfInBounds_toArray,List.set_cons_zero,List.set_cons_succ]
    refine wpAnyH_ready (rs:=[22]) (by kernel_rfl) (by simp) ?_
    refine AllReadyH.cons (o:=_) rfl (fun K hK => ?_) AllReadyH.nil
    go_simp
    go_at_call 123
    refine (HL.out _).mono ?_
    rintro e w' ⟨rfl,rfl⟩
    refine hK.out _ _ (by assumption) (fun hHeld => ?_)
    clear hK K
    try simp only [Act.put,List.setIfInBounds_toArray,List.set_cons_zero,List.set_cons_succ]
    refine wpAnyH_take (i:=23) (oi:=_) (v := ?v107) rfl (by kernel_rfl) (by kernel_rfl) (by kernel_rfl) (fun _ _ _ h=>h) ?y107 (by assumption) ?r107
    case y107=>refine Or.inl ⟨by kernel_rfl,fun w hSw => ?_⟩;(try dsimp only at hSw);go_simp;(try with_reducible rfl)
    simp only [Act.put,List.setIfInBounds_toArray,List.set_cons_zero,List.set_cons_succ]
    refine wpAnyH_take (i:=24) (oi:=_) (v := ?v108) rfl (by kernel_rfl) (by kernel_rfl) (by kernel_rfl) (fun _ _ _ h=>h) ?y108 (by assumption) ?r108
    case y108=>refine Or.inl ⟨by kernel_rfl,fun w hSw => ?_⟩;(try dsimp only at hSw);go_simp;(try with_reducible rfl)
    simp only [Act.put,List.setIfInBounds_toArray,List.set_cons_zero,List.set_cons_succ]
    refine wpAnyH_take (i:=25) (oi:=_) (v := ?v109) rfl (by kernel_rfl) (by kernel_rfl) (by kernel_rfl) (fun _ _ _ h=>h) ?y109 (by assumption) ?r109
    case y109=>refine Or.inl ⟨by kernel_rfl,fun w hSw => ?_⟩;(try dsimp only at hSw);go_simp;(try with_reducible rfl)
    simp only [Act.put,List.setIfInBounds_toArray,List.set_cons_zero,List.set_cons_succ]
    refine wpAnyH_ready (rs:=[26]) (by kernel_rfl) (by simp) ?_
    refine AllReadyH.cons (o:=_) rfl (fun K hK => ?_) AllReadyH.nil
    go_simp
    obtain ⟨wS,hwS⟩:∃ wS,wS=((((w4.setCell ⟨w.heap.size,0,none⟩ (.int .i64 2)).setCell ⟨w.heap.size,1,none⟩ (.string (s.extract k (k+n)))).setCell ⟨w.heap.size,2,none⟩ (.int .u64 (decV (Zam s k n):Nat))).setCell ⟨w.heap.size,3,none⟩ (.int .i64 k)).drew:=⟨_,rfl⟩
    obtain ⟨s1,s2,s3⟩:=Za5 K40.out hwS
    rw [←hwS]
    clear hwS
    have s2':=s2.trans K4.out
    refine hK.out _ _ ⟨cell_of_row _ _ 0 _ _ _ s2',cell_of_row _ _ 1 _ _ _ s2',cell_of_row _ _ 2 _ _ _ s2',cell_of_row _ _ 3 _ _ _ s2'⟩ (fun hHeld => ?_)
    clear hK K
    try simp only [Act.put,List.setIfInBounds_toArray,List.set_cons_zero,List.set_cons_succ]
    refine wpAnyH_take (i:=27) (oi:=⟨some 5,_,_,_,_,_⟩) (v := ?v110) rfl (by kernel_rfl) (by kernel_rfl) (by kernel_rfl) (fun _ _ _ h=>h) ?y110 (by assumption) ?r110
    case y110=>refine Or.inl ⟨by kernel_rfl,fun w hSw => ?_⟩;(try dsimp only at hSw);go_simp;(try with_reducible rfl)
    simp only [Act.put,List.setIfInBounds_toArray,List.set_cons_zero,List.set_cons_succ]
    refine wpAnyH_done (by kernel_rfl) ?_ _
    have d0:=cell_of_row _ _ 0 _ _ _ s1
    have d1:=cell_of_row _ _ 1 _ _ _ s1
    have d2:=cell_of_row _ _ 2 _ _ _ s1
    have d3:=cell_of_row _ _ 3 _ _ _ s1
    have HBS:=hid (s3 w.heap.size w HB4.out (Nat.le_refl _))
    clear s1 s2 s2' s3 hHeld
    go_wp2
    exact bodyPost_ret (v:=.tuple #[.agg #[.int .i64 2,.string (s.extract k (k+n)),.int .u64 (decV (Zam s k n):Nat),.int .i64 k],.bool true]) (by simp [results,Tryz.results82,go_sem,d0,d1,d2,d3]) rfl ⟨HBS.out,_,_,_,_,_,rfl,Or.inr ⟨_,_,_,by rw [HB.out,if_pos ⟨(Or.inr HN1.out),HA.out⟩],rfl,rfl,rfl,rfl,rfl⟩⟩
   | true=>
    have HL:=hid (fun W=>Zb1 s[k+n] _ hb W)
    have HA:Hid (letAt s (k+n)=true):=ha.trans hb
    clear ha hb
    refine wp_region_held_drew (S:=(fun w'=>w'.cell? ⟨w.heap.size+1,0,none⟩=some (.int .i64 2)∧w'.cell? ⟨w.heap.size+1,1,none⟩=some (.string (s.extract k (k+n)))∧w'.cell? ⟨w.heap.size+1,2,none⟩=some (.int .u64 (decV (Zam s k n):Nat))∧w'.cell? ⟨w.heap.size+1,3,none⟩=some (.int .i64 k))) (by kernel_rfl) hS.out (fun hHeld => ?_)
    refine wpAnyH_take (i:=0) (oi:=_) (v := ?v111) rfl (by kernel_rfl) (by kernel_rfl) (by kernel_rfl) (fun _ _ _ h=>h) ?y111 (by assumption) ?r111
    case y111=>refine Or.inl ⟨by kernel_rfl,fun w hSw => ?_⟩;(try dsimp only at hSw);go_simp;(try with_reducible rfl)
    simp only [Act.put,List.setIfInBounds_toArray,List.set_cons_zero,List.set_cons_succ]
    refine wpAnyH_take (i:=1) (oi:=_) (v := ?v112) rfl (by kernel_rfl) (by kernel_rfl) (by kernel_rfl) (fun _ _ _ h=>h) ?y112 (by assumption) ?r112
    case y112=>refine Or.inl ⟨by kernel_rfl,fun w hSw => ?_⟩;(try dsimp only at hSw);go_simp;(try with_reducible rfl)
    simp only [Act.put,List.setIfInBounds_toArray,List.set_cons_zero,List.set_cons_succ]
    refine wpAnyH_take (i:=2) (oi:=_) (v := ?v113) rfl (by kernel_rfl) (by kernel_rfl) (by kernel_rfl) (fun _ _ _ h=>h) ?y113 (by assumption) ?r113
    case y113=>refine Or.inl ⟨by kernel_rfl,fun w hSw => ?_⟩;(try dsimp only at hSw);go_simp;(try with_reducible rfl)
    simp only [Act.put,List.setIfInBounds_toArray,List.set_cons_zero,List.set_cons_succ]
    refine wpAnyH_take (i:=3) (oi:=_) (v := ?v114) rfl (by kernel_rfl) (by kernel_rfl) (by kernel_rfl) (fun _ _ _ h=>h) ?y114 (by assumption) ?r114
    case y114=>refine Or.inl ⟨by kernel_rfl,fun w hSw => ?_⟩;(try dsimp only at hSw);go_simp;(try with_reducible rfl)
    simp only [Act.put,List.setIfInBounds_toArray,List.set_cons_zero,List.set_cons_succ]
    refine wpAnyH_take (i:=4) (oi:=_) (v := ?v115) rfl (by kernel_rfl) (by kernel_rfl) (by kernel_rfl) (fun _ _ _ h=>h) ?y115 (by assumption) ?r115
    case y115=>refine Or.inl ⟨by kernel_rfl,fun w hSw => ?_⟩;(try dsimp only at hSw);go_simp;(try with_reducible rfl)
    simp only [Act.put,List.setIfInBounds_toArray,List.set_cons_zero,List.set_cons_succ]
    refine wpAnyH_take (i:=5) (oi:=_) (v := ?v116) rfl (by kernel_rfl) (by kernel_rfl) (by kernel_rfl) (fun _ _ _ h=>h) ?y116 (by assumption) ?r116
    case y116=>refine Or.inl ⟨by kernel_rfl,fun w hSw => ?_⟩;(try dsimp only at hSw);go_simp;(try with_reducible rfl)
    simp only [Act.put,List.setIfInBounds_toArray,List.set_cons_zero,List.set_cons_succ]
    refine wpAnyH_take (i:=6) (oi:=_) (v := ?v117) rfl (by kernel_rfl) (by kernel_rfl) (by kernel_rfl) (fun _ _ _ h=>h) ?y117 (by assumption) ?r117
    case y117=>refine Or.inl ⟨by kernel_rfl,fun w hSw => ?_⟩;(try dsimp only at hSw);go_simp;(try with_reducible rfl)
    simp only [Act.put,List.setIfInBounds_toArray,List.set_cons_zero,List.set_cons_succ]
    refine wpAnyH_take (i:=7) (oi:=_) (v := ?v118) rfl (by kernel_rfl) (by kernel_rfl) (by kernel_rfl) (fun _ _ _ h=>h) ?y118 (by assumption) ?r118
    case y118=>refine Or.inl ⟨by kernel_rfl,fun w hSw => ?_⟩;(try dsimp only at hSw);go_simp;(try with_reducible rfl)
    simp only [Act.put,List.setIfInBounds_toArray,List.set_cons_zero,List.set_cons_succ]
    refine wpAnyH_take (i:=8) (oi:=_) (v := ?v119) rfl (by kernel_rfl) (by kernel_rfl) (by kernel_rfl) (fun _ _ _ h=>h) ?y119 (by assumption) ?r119
    case y119=>refine Or.inl ⟨by kernel_rfl,fun w hSw => ?_⟩;(try dsimp only at hSw);go_simp;(try with_reducible rfl)
    simp only [Act.put,List.setIfInBounds_toArray,List.set_cons_zero,List.set_cons_succ]
    refine wpAnyH_take (i:=9) (oi:=_) (v := ?v120) rfl (by kernel_rfl) (by kernel_rfl) (by kernel_rfl) (fun _ _ _ h=>h) ?y120 (by assumption) ?r120
    case y120=>refine Or.inl ⟨by kernel_rfl,fun w hSw => ?_⟩;(try dsimp only at hSw);go_simp;(try with_reducible rfl)
    simp only [Act.put,List.setIfInBounds_toArray,List.set_cons_zero,List.set_cons_succ]
    refine wpAnyH_take (i:=10) (oi:=_) (v := ?v121) rfl (by kernel_rfl) (by kernel_rfl) (by kernel_rfl) (fun _ _ _ h=>h) ?y121 (by assumption) ?r121
    case y121=>refine Or.inl ⟨by kernel_rfl,fun w hSw => ?_⟩;(try dsimp only at hSw);go_simp;(try with_reducible rfl)
    simp only [Act.put,List.setIfInBounds_toArray,List.set_cons_zero,List.set_cons_succ]
    refine wpAnyH_take (i:=11) (oi:=_) (v := ?v122) rfl (by kernel_rfl) (by kernel_rfl) (by kernel_rfl) (fun _ _ _ h=>h) ?y122 (by assumption) ?r122
    case y122=>refine Or.inl ⟨by kernel_rfl,fun w hSw => ?_⟩;(try dsimp only at hSw);go_simp;(try with_reducible rfl)
    simp only [Act.put,List.setIfInBounds_toArray,List.set_cons_zero,List.set_cons_succ]
    refine wpAnyH_take (i:=12) (oi:=_) (v := ?v123) rfl (by kernel_rfl) (by kernel_rfl) (by kernel_rfl) (fun _ _ _ h=>h) ?y123 (by assumption) ?r123
    case y123=>refine Or.inl ⟨by kernel_rfl,fun w hSw => ?_⟩;(try dsimp only at hSw);go_simp;(try with_reducible rfl)
    simp only [Act.put,List.setIfInBounds_toArray,List.set_cons_zero,List.set_cons_succ]
    refine wpAnyH_take (i:=13) (oi:=_) (v := ?v124) rfl (by kernel_rfl) (by kernel_rfl) (by kernel_rfl) (fun _ _ _ h=>h) ?y124 (by assumption) ?r124
    case y124=>refine Or.inl ⟨by kernel_rfl,fun w hSw => ?_⟩;(try dsimp only at hSw);go_simp;(try with_reducible rfl)
    simp only [Act.put,List.setIfInBounds_toArray,List.set_cons_zero,List.set_cons_succ]
    refine wpAnyH_take (i:=14) (oi:=_) (v := ?v125) rfl (by kernel_rfl) (by kernel_rfl) (by kernel_rfl) (fun _ _ _ h=>h) ?y125 (by assumption) ?r125
    case y125=>refine Or.inl ⟨by kernel_rfl,fun w hSw => ?_⟩;(try dsimp only at hSw);go_simp;(try with_reducible rfl)
    simp only [Act.put,List.setIfInBounds_toArray,List.set_cons_zero,List.set_cons_succ]
    refine wpAnyH_take (i:=15) (oi:=_) (v := ?v126) rfl (by kernel_rfl) (by kernel_rfl) (by kernel_rfl) (fun _ _ _ h=>h) ?y126 (by assumption) ?r126
    case y126=>refine Or.inl ⟨by kernel_rfl,fun w hSw => ?_⟩;(try dsimp only at hSw);go_simp;(try with_reducible rfl)
    simp only [Act.put,List.setIfInBounds_toArray,List.set_cons_zero,List.set_cons_succ]
    refine wpAnyH_take (i:=16) (oi:=_) (v := ?v127) rfl (by kernel_rfl) (by kernel_rfl) (by kernel_rfl) (fun _ _ _ h=>h) ?y127 (by assumption) ?r127
    case y127=>refine Or.inl ⟨by kernel_rfl,fun w hSw => ?_⟩;(try dsimp only at hSw);go_simp;(try with_reducible rfl)
    simp only [Act.put,List.setIfInBounds_toArray,List.set_cons_zero,List.set_cons_succ]
    refine wpAnyH_take (i:=17) (oi:=_) (v := ?v128) rfl (by kernel_rfl) (by kernel_rfl) (by kernel_rfl) (fun _ _ _ h=>h) ?y128 (by assumption) ?r128
    case y128=>refine Or.inl ⟨by kernel_rfl,fun w hSw => ?_⟩;(try dsimp only at hSw);go_simp;(try with_reducible rfl)
    simp only [Act.put,List.setIfInBounds_toArray,List.set_cons_zero,List.set_cons_succ]
    refine wpAnyH_take (i:=18) (oi:=_) (v := ?v129) rfl (by kernel_rfl) (by kernel_rfl) (by kernel_rfl) (fun _ _ _ h=>h) ?y129 (by assumption) ?r129
    case y129=>refine Or.inl ⟨by kernel_rfl,fun w hSw => ?_⟩;(try dsimp only at hSw);go_simp;(try with_reducible rfl)
    simp only [Act.put,List.setIfInBounds_toArray,List.set_cons_zero,List.set_cons_succ]
    refine wpAnyH_take (i:=19) (oi:=_) (v := ?v130) rfl (by kernel_rfl) (by kernel_rfl) (by kernel_rfl) (fun _ _ _ h=>h) ?y130 (by assumption) ?r130
    case y130=>refine Or.inl ⟨by kernel_rfl,fun w hSw => ?_⟩;(try dsimp only at hSw);go_simp;(try with_reducible rfl)
    simp only [Act.put,List.setIfInBounds_toArray,List.set_cons_zero,List.set_cons_succ]
    refine wpAnyH_take (i:=20) (oi:=_) (v := ?v131) rfl (by kernel_rfl) (by kernel_rfl) (by kernel_rfl) (fun _ _ _ h=>h) ?y131 (by assumption) ?r131
    case y131=>refine Or.inl ⟨by kernel_rfl,fun w hSw => ?_⟩;(try dsimp only at hSw);go_simp;(try with_reducible rfl)
    simp only [Act.put,List.setIfInBounds_toArray,List.set_cons_zero,List.set_cons_succ]
    refine wpAnyH_take (i:=21) (oi:=_) (v := ?v132) rfl (by kernel_rfl) (by kernel_rfl) (by kernel_rfl) (fun _ _ _ h=>h) ?y132 (by assumption) ?r132
    case y132=>refine Or.inl ⟨by kernel_rfl,fun w hSw => ?_⟩;(try dsimp only at hSw);go_simp;(try with_reducible rfl)
    simp only [Act.put,List.setIfInBounds_toArray,List.set_cons_zero,List.set_cons_succ]
    refine wpAnyH_ready (rs:=[22]) (by kernel_rfl) (by simp) ?_
    refine AllReadyH.cons (o:=_) rfl (fun K hK => ?_) AllReadyH.nil
    go_simp
    go_at_call 123
    refine (HL.out _).mono ?_
    rintro e w' ⟨rfl,rfl⟩
    refine hK.out _ _ (by assumption) (fun hHeld => ?_)
    clear hK K
    try simp only [Act.put,List.setIfInBounds_toArray,List.set_cons_zero,List.set_cons_succ]
    refine wpAnyH_take (i:=23) (oi:=_) (v := ?v133) rfl (by kernel_rfl) (by kernel_rfl) (by kernel_rfl) (fun _ _ _ h=>h) ?y133 (by assumption) ?r133
    case y133=>refine Or.inl ⟨by kernel_rfl,fun w hSw => ?_⟩;(try dsimp only at hSw);go_simp;(try with_reducible rfl)
    simp only [Act.put,List.setIfInBounds_toArray,List.set_cons_zero,List.set_cons_succ]
    refine wpAnyH_take (i:=24) (oi:=_) (v := ?v134) rfl (by kernel_rfl) (by kernel_rfl) (by kernel_rfl) (fun _ _ _ h=>h) ?y134 (by assumption) ?r134
    case y134=>refine Or.inl ⟨by kernel_rfl,fun w hSw => ?_⟩;(try dsimp only at hSw);go_simp;(try with_reducible rfl)
    simp only [Act.put,List.setIfInBounds_toArray,List.set_cons_zero,List.set_cons_succ]
    refine wpAnyH_take (i:=25) (oi:=_) (v := ?v135) rfl (by kernel_rfl) (by kernel_rfl) (by kernel_rfl) (fun _ _ _ h=>h) ?y135 (by assumption) ?r135
    case y135=>refine Or.inl ⟨by kernel_rfl,fun w hSw => ?_⟩;(try dsimp only at hSw);go_simp;(try with_reducible rfl)
    simp only [Act.put,List.setIfInBounds_toArray,List.set_cons_zero,List.set_cons_succ]
    refine wpAnyH_ready (rs:=[26]) (by kernel_rfl) (by simp) ?_
    refine AllReadyH.cons (o:=_) rfl (fun K hK => ?_) AllReadyH.nil
    go_simp
    obtain ⟨wS,hwS⟩:∃ wS,wS=((((w4.setCell ⟨w.heap.size,0,none⟩ (.int .i64 2)).setCell ⟨w.heap.size,1,none⟩ (.string (s.extract k (k+n)))).setCell ⟨w.heap.size,2,none⟩ (.int .u64 (decV (Zam s k n):Nat))).setCell ⟨w.heap.size,3,none⟩ (.int .i64 k)).drew:=⟨_,rfl⟩
    obtain ⟨s1,s2,s3⟩:=Za5 K40.out hwS
    rw [←hwS]
    clear hwS
    have s2':=s2.trans K4.out
    refine hK.out _ _ ⟨cell_of_row _ _ 0 _ _ _ s2',cell_of_row _ _ 1 _ _ _ s2',cell_of_row _ _ 2 _ _ _ s2',cell_of_row _ _ 3 _ _ _ s2'⟩ (fun hHeld => ?_)
    clear hK K
    try simp only [Act.put,List.setIfInBounds_toArray,List.set_cons_zero,List.set_cons_succ]
    refine wpAnyH_take (i:=27) (oi:=⟨some 5,_,_,_,_,_⟩) (v := ?v136) rfl (by kernel_rfl) (by kernel_rfl) (by kernel_rfl) (fun _ _ _ h=>h) ?y136 (by assumption) ?r136
    case y136=>refine Or.inl ⟨by kernel_rfl,fun w hSw => ?_⟩;(try dsimp only at hSw);go_simp;(try with_reducible rfl)
    simp only [Act.put,List.setIfInBounds_toArray,List.set_cons_zero,List.set_cons_succ]
    refine wpAnyH_done (by kernel_rfl) ?_ _
    have d0:=cell_of_row _ _ 0 _ _ _ s1
    have d1:=cell_of_row _ _ 1 _ _ _ s1
    have d2:=cell_of_row _ _ 2 _ _ _ s1
    have d3:=cell_of_row _ _ 3 _ _ _ s1
    have HBS:=hid (s3 w.heap.size w HB4.out (Nat.le_refl _))
    clear s1 s2 s2' s3 hHeld
    go_wp2
    exact bodyPost_ret (v:=.tuple #[.agg #[.int .i64 2,.string (s.extract k (k+n)),.int .u64 (decV (Zam s k n):Nat),.int .i64 k],.bool false]) (by simp [results,Tryz.results82,go_sem,d0,d1,d2,d3]) rfl ⟨HBS.out,_,_,_,_,_,rfl,Or.inl ⟨by rw [HB.out,if_neg (fun h=>by rw [HA.out] at h;exact absurd h.2 (by simp))],rfl⟩⟩
 ·refine wp_region_held_drew (S:=(fun w'=>w'.cell? ⟨w.heap.size+1,0,none⟩=some (.int .i64 2)∧w'.cell? ⟨w.heap.size+1,1,none⟩=some (.string (s.extract k (k+n)))∧w'.cell? ⟨w.heap.size+1,2,none⟩=some (.int .u64 (decV (Zam s k n):Nat))∧w'.cell? ⟨w.heap.size+1,3,none⟩=some (.int .i64 k))) (by kernel_rfl) hS.out (fun hHeld => ?_)
  refine wpAnyH_take (i:=0) (oi:=_) (v := ?v137) rfl (by kernel_rfl) (by kernel_rfl) (by kernel_rfl) (fun _ _ _ h=>h) ?y137 (by assumption) ?r137
  case y137=>refine Or.inl ⟨by kernel_rfl,fun w hSw => ?_⟩;(try dsimp only at hSw);go_simp;(try with_reducible rfl)
  simp only [Act.put,List.setIfInBounds_toArray,List.set_cons_zero,List.set_cons_succ]
  refine wpAnyH_take (i:=1) (oi:=_) (v := ?v138) rfl (by kernel_rfl) (by kernel_rfl) (by kernel_rfl) (fun _ _ _ h=>h) ?y138 (by assumption) ?r138
  case y138=>refine Or.inl ⟨by kernel_rfl,fun w hSw => ?_⟩;(try dsimp only at hSw);go_simp;(try with_reducible rfl)
  simp only [Act.put,List.setIfInBounds_toArray,List.set_cons_zero,List.set_cons_succ]
  refine wpAnyH_take (i:=2) (oi:=_) (v := ?v139) rfl (by kernel_rfl) (by kernel_rfl) (by kernel_rfl) (fun _ _ _ h=>h) ?y139 (by assumption) ?r139
  case y139=>refine Or.inl ⟨by kernel_rfl,fun w hSw => ?_⟩;(try dsimp only at hSw);go_simp;(try with_reducible rfl)
  simp only [Act.put,List.setIfInBounds_toArray,List.set_cons_zero,List.set_cons_succ]
  refine wpAnyH_take (i:=3) (oi:=_) (v := ?v140) rfl (by kernel_rfl) (by kernel_rfl) (by kernel_rfl) (fun _ _ _ h=>h) ?y140 (by assumption) ?r140
  case y140=>refine Or.inl ⟨by kernel_rfl,fun w hSw => ?_⟩;(try dsimp only at hSw);go_simp;(try with_reducible rfl)
  simp only [Act.put,List.setIfInBounds_toArray,List.set_cons_zero,List.set_cons_succ]
  refine wpAnyH_take (i:=4) (oi:=_) (v := ?v141) rfl (by kernel_rfl) (by kernel_rfl) (by kernel_rfl) (fun _ _ _ h=>h) ?y141 (by assumption) ?r141
  case y141=>refine Or.inl ⟨by kernel_rfl,fun w hSw => ?_⟩;(try dsimp only at hSw);go_simp;(try with_reducible rfl)
  simp only [Act.put,List.setIfInBounds_toArray,List.set_cons_zero,List.set_cons_succ]
  refine wpAnyH_take (i:=5) (oi:=_) (v := ?v142) rfl (by kernel_rfl) (by kernel_rfl) (by kernel_rfl) (fun _ _ _ h=>h) ?y142 (by assumption) ?r142
  case y142=>refine Or.inl ⟨by kernel_rfl,fun w hSw => ?_⟩;(try dsimp only at hSw);go_simp;(try with_reducible rfl)
  simp only [Act.put,List.setIfInBounds_toArray,List.set_cons_zero,List.set_cons_succ]
  refine wpAnyH_take (i:=6) (oi:=_) (v := ?v143) rfl (by kernel_rfl) (by kernel_rfl) (by kernel_rfl) (fun _ _ _ h=>h) ?y143 (by assumption) ?r143
  case y143=>refine Or.inl ⟨by kernel_rfl,fun w hSw => ?_⟩;(try dsimp only at hSw);go_simp;(try with_reducible rfl)
  simp only [Act.put,List.setIfInBounds_toArray,List.set_cons_zero,List.set_cons_succ]
  refine wpAnyH_take (i:=7) (oi:=_) (v := ?v144) rfl (by kernel_rfl) (by kernel_rfl) (by kernel_rfl) (fun _ _ _ h=>h) ?y144 (by assumption) ?r144
  case y144=>refine Or.inl ⟨by kernel_rfl,fun w hSw => ?_⟩;(try dsimp only at hSw);go_simp;(try with_reducible rfl)
  simp only [Act.put,List.setIfInBounds_toArray,List.set_cons_zero,List.set_cons_succ]
  refine wpAnyH_take (i:=8) (oi:=_) (v := ?v145) rfl (by kernel_rfl) (by kernel_rfl) (by kernel_rfl) (fun _ _ _ h=>h) ?y145 (by assumption) ?r145
  case y145=>refine Or.inl ⟨by kernel_rfl,fun w hSw => ?_⟩;(try dsimp only at hSw);go_simp;(try with_reducible rfl)
  simp only [Act.put,List.setIfInBounds_toArray,List.set_cons_zero,List.set_cons_succ]
  refine wpAnyH_take (i:=9) (oi:=_) (v := ?v146) rfl (by kernel_rfl) (by kernel_rfl) (by kernel_rfl) (fun _ _ _ h=>h) ?y146 (by assumption) ?r146
  case y146=>refine Or.inl ⟨by kernel_rfl,fun w hSw => ?_⟩;(try dsimp only at hSw);go_simp;(try with_reducible rfl)
  simp only [Act.put,List.setIfInBounds_toArray,List.set_cons_zero,List.set_cons_succ]
  refine wpAnyH_take (i:=10) (oi:=_) (v := ?v147) rfl (by kernel_rfl) (by kernel_rfl) (by kernel_rfl) (fun _ _ _ h=>h) ?y147 (by assumption) ?r147
  case y147=>refine Or.inl ⟨by kernel_rfl,fun w hSw => ?_⟩;(try dsimp only at hSw);go_simp;(try with_reducible rfl)
  simp only [Act.put,List.setIfInBounds_toArray,List.set_cons_zero,List.set_cons_succ]
  refine wpAnyH_take (i:=11) (oi:=_) (v := ?v148) rfl (by kernel_rfl) (by kernel_rfl) (by kernel_rfl) (fun _ _ _ h=>h) ?y148 (by assumption) ?r148
  case y148=>refine Or.inl ⟨by kernel_rfl,fun w hSw => ?_⟩;(try dsimp only at hSw);go_simp;(try with_reducible rfl)
  simp only [Act.put,List.setIfInBounds_toArray,List.set_cons_zero,List.set_cons_succ]
  refine wpAnyH_take (i:=12) (oi:=_) (v := ?v149) rfl (by kernel_rfl) (by kernel_rfl) (by kernel_rfl) (fun _ _ _ h=>h) ?y149 (by assumption) ?r149
  case y149=>refine Or.inl ⟨by kernel_rfl,fun w hSw => ?_⟩;(try dsimp only at hSw);go_simp;(try with_reducible rfl)
  simp only [Act.put,List.setIfInBounds_toArray,List.set_cons_zero,List.set_cons_succ]
  refine wpAnyH_take (i:=13) (oi:=_) (v := ?v150) rfl (by kernel_rfl) (by kernel_rfl) (by kernel_rfl) (fun _ _ _ h=>h) ?y150 (by assumption) ?r150
  case y150=>refine Or.inl ⟨by kernel_rfl,fun w hSw => ?_⟩;(try dsimp only at hSw);go_simp;(try with_reducible rfl)
  simp only [Act.put,List.setIfInBounds_toArray,List.set_cons_zero,List.set_cons_succ]
  refine wpAnyH_take (i:=14) (oi:=_) (v:=undef) rfl (by kernel_rfl) (by kernel_rfl) (by kernel_rfl) (fun _ _ _ h=>h) (Or.inr ⟨by kernel_rfl,rfl⟩) (by assumption) ?_
  simp only [Act.put,List.setIfInBounds_toArray,List.set_cons_zero,List.set_cons_succ]
  refine wpAnyH_take (i:=15) (oi:=_) (v:=undef) rfl (by kernel_rfl) (by kernel_rfl) (by kernel_rfl) (fun _ _ _ h=>h) (Or.inr ⟨by kernel_rfl,rfl⟩) (by assumption) ?_
  simp only [Act.put,List.setIfInBounds_toArray,List.set_cons_zero,List.set_cons_succ]
  refine wpAnyH_take (i:=16) (oi:=_) (v:=undef) rfl (by kernel_rfl) (by kernel_rfl) (by kernel_rfl) (fun _ _ _ h=>h) (Or.inr ⟨by kernel_rfl,rfl⟩) (by assumption) ?_
  simp only [Act.put,List.setIfInBounds_toArray,List.set_cons_zero,List.set_cons_succ]
  refine wpAnyH_take (i:=17) (oi:=_) (v:=undef) rfl (by kernel_rfl) (by kernel_rfl) (by kernel_rfl) (fun _ _ _ h=>h) (Or.inr ⟨by kernel_rfl,rfl⟩) (by assumption) ?_
  simp only [Act.put,List.setIfInBounds_toArray,List.set_cons_zero,List.set_cons_succ]
  refine wpAnyH_take (i:=18) (oi:=_) (v:=undef) rfl (by kernel_rfl) (by kernel_rfl) (by kernel_rfl) (fun _ _ _ h=>h) (Or.inr ⟨by kernel_rfl,rfl⟩) (by assumption) ?_
  simp only [Act.put,List.setIfInBounds_toArray,List.set_cons_zero,List.set_cons_succ]
  refine wpAnyH_take (i:=19) (oi:=_) (v:=undef) rfl (by kernel_rfl) (by kernel_rfl) (by kernel_rfl) (fun _ _ _ h=>h) (Or.inr ⟨by kernel_rfl,rfl⟩) (by assumption) ?_
  simp only [Act.put,List.setIfInBounds_toArray,List.set_cons_zero,List.set_cons_succ]
  refine wpAnyH_take (i:=20) (oi:=_) (v:=undef) rfl (by kernel_rfl) (by kernel_rfl) (by kernel_rfl) (fun _ _ _ h=>h) (Or.inr ⟨by kernel_rfl,rfl⟩) (by assumption) ?_
  simp only [Act.put,List.setIfInBounds_toArray,List.set_cons_zero,List.set_cons_succ]
  refine wpAnyH_take (i:=21) (oi:=_) (v:=undef) rfl (by kernel_rfl) (by kernel_rfl) (by kernel_rfl) (fun _ _ _ h=>h) (Or.inr ⟨by kernel_rfl,rfl⟩) (by assumption) ?_
  simp only [Act.put,List.setIfInBounds_toArray,List.set_cons_zero,List.set_cons_succ]
  refine wpAnyH_take (i:=22) (oi:=_) (v:=undef) rfl (by kernel_rfl) (by kernel_rfl) (by kernel_rfl) (fun _ _ _ h=>h) (Or.inr ⟨by kernel_rfl,rfl⟩) (by assumption) ?_
  simp only [Act.put,List.setIfInBounds_toArray,List.set_cons_zero,List.set_cons_succ]
  refine wpAnyH_take (i:=23) (oi:=_) (v:=undef) rfl (by kernel_rfl) (by kernel_rfl) (by kernel_rfl) (fun _ _ _ h=>h) (Or.inr ⟨by kernel_rfl,rfl⟩) (by assumption) ?_
  simp only [Act.put,List.setIfInBounds_toArray,List.set_cons_zero,List.set_cons_succ]
  refine wpAnyH_take (i:=24) (oi:=_) (v:=undef) rfl (by kernel_rfl) (by kernel_rfl) (by kernel_rfl) (fun _ _ _ h=>h) (Or.inr ⟨by kernel_rfl,rfl⟩) (by assumption) ?_
  simp only [Act.put,List.setIfInBounds_toArray,List.set_cons_zero,List.set_cons_succ]
  refine wpAnyH_take (i:=25) (oi:=_) (v := ?v151) rfl (by kernel_rfl) (by kernel_rfl) (by kernel_rfl) (fun _ _ _ h=>h) ?y151 (by assumption) ?r151
  case y151=>refine Or.inl ⟨by kernel_rfl,fun w hSw => ?_⟩;(try dsimp only at hSw);go_simp;(try with_reducible rfl)
  simp only [Act.put,List.setIfInBounds_toArray,List.set_cons_zero,List.set_cons_succ]
  refine wpAnyH_ready (rs:=[26]) (by kernel_rfl) (by simp) ?_
  refine AllReadyH.cons (o:=_) rfl (fun K hK => ?_) AllReadyH.nil
  go_simp
  obtain ⟨wS,hwS⟩:∃ wS,wS=((((w4.setCell ⟨w.heap.size,0,none⟩ (.int .i64 2)).setCell ⟨w.heap.size,1,none⟩ (.string (s.extract k (k+n)))).setCell ⟨w.heap.size,2,none⟩ (.int .u64 (decV (Zam s k n):Nat))).setCell ⟨w.heap.size,3,none⟩ (.int .i64 k)).drew:=⟨_,rfl⟩
  obtain ⟨s1,s2,s3⟩:=Za5 K40.out hwS
  rw [←hwS]
  clear hwS
  have s2':=s2.trans K4.out
  refine hK.out _ _ ⟨cell_of_row _ _ 0 _ _ _ s2',cell_of_row _ _ 1 _ _ _ s2',cell_of_row _ _ 2 _ _ _ s2',cell_of_row _ _ 3 _ _ _ s2'⟩ (fun hHeld => ?_)
  clear hK K
  try simp only [Act.put,List.setIfInBounds_toArray,List.set_cons_zero,List.set_cons_succ]
  refine wpAnyH_take (i:=27) (oi:=⟨some 5,_,_,_,_,_⟩) (v := ?v152) rfl (by kernel_rfl) (by kernel_rfl) (by kernel_rfl) (fun _ _ _ h=>h) ?y152 (by assumption) ?r152
  case y152=>refine Or.inl ⟨by kernel_rfl,fun w hSw => ?_⟩;(try dsimp only at hSw);go_simp;(try with_reducible rfl)
  simp only [Act.put,List.setIfInBounds_toArray,List.set_cons_zero,List.set_cons_succ]
  refine wpAnyH_done (by kernel_rfl) ?_ _
  have d0:=cell_of_row _ _ 0 _ _ _ s1
  have d1:=cell_of_row _ _ 1 _ _ _ s1
  have d2:=cell_of_row _ _ 2 _ _ _ s1
  have d3:=cell_of_row _ _ 3 _ _ _ s1
  have HBS:=hid (s3 w.heap.size w HB4.out (Nat.le_refl _))
  clear s1 s2 s2' s3 hHeld
  go_wp2
  exact bodyPost_ret (v:=.tuple #[.agg #[.int .i64 2,.string (s.extract k (k+n)),.int .u64 (decV (Zam s k n):Nat),.int .i64 k],.bool false]) (by simp [results,Tryz.results82,go_sem,d0,d1,d2,d3]) rfl ⟨HBS.out,_,_,_,_,_,rfl,Or.inl ⟨by rw [HB.out,if_neg (fun h=>by rcases h.1 with h1 | h1;exact h1 HZ.out;exact HN1.out h1)],rfl⟩⟩
theorem Zjl (s:ByteArray) (k:Nat) (w:World) (hs:s.size≤100000) (hk:k<s.size) (hd:digB s[k]=true) (hv:¬ decV (Zam s k (Zax digB s k))<18446744073709551616) (ht:ErrT w):
  Calls Tryz.prog 82 #[.string s,.int .i64 k] w (Ze9 w s k):=by
 obtain ⟨n,hn⟩:∃ n,n=Zax digB s k:=⟨_,rfl⟩
 have hn1:1≤n:=by rw [hn,Zbw digB s hk hd];omega
 have hnk:=Zce digB s (Nat.le_of_lt hk)
 rw [←hn] at hv hnk
 have hall:=Ze8 digB s k
 rw [←hn] at hall
 have hlen:=ZcS s hnk
 have hpar:Lib.parseUintB 64 (s.extract k (k+n)).data.toList=.range:=by
  rw [ZaF]
  exact Zgx (by intro e;rw [e] at hlen;simp at hlen;omega) hall hv
 obtain ⟨te,pe,hcell⟩:=ht
 have hlt:=World.block_lt_of_cell? w _ hcell
 have hp0:=fun (W:World) (hW:Below w.heap.size w W) => Tryz.strconv_ParseUint_10_at64_range (s.extract k (k+n)) (by rw [ByteArray.size_extract];omega) hpar (.iface te pe) W ((hW.cell (p:=⟨3,0,none⟩) hlt).trans hcell) (.inr ⟨te,pe,rfl⟩)
 obtain ⟨M,hM⟩:∃ M:Int,∀ (W:World),Below w.heap.size w W→Calls Tryz.prog 122 #[.string (s.extract k (k+n)),.int .i64 10,.int .i64 64] W fun e w'=>∃ t v,e=.returned (.tuple #[.int .u64 M,.iface t v])∧Below W.heap.size W w':=
  ⟨_,fun W hW=>(hp0 W hW).mono fun e w' ⟨N,he,_,_,hb⟩=>⟨_,_,he,hb⟩⟩
 have hp:=hid hM
 have hone:oneM s k=none:=by
  unfold oneM
  rw [dif_pos hk,if_pos hd,←hn,if_neg (fun h=>hv h.1)]
 have HONE:=hid hone
 clear hp0 hM hcell hlt hone
 have hdig:=Zcd s[k]
 rw [hd] at hdig
 have HD:=hid hdig
 have HN:=hid hn
 have HDG:=hid hd
 have HR:=hid (fun W=>ZfH s k W hs (Nat.le_of_lt hk))
 clear hpar hall hlen hdig hn hd
 go_enter Tryz.func82,Tryz.ntmps82
 go_wp2_with fail
 refine (HD.out _).mono ?_
 rintro e w1 ⟨rfl,rfl⟩
 go_wp2_with fail
 refine (HR.out _).mono ?_
 rintro e w2 ⟨rfl,rfl⟩
 rw [←HN.out]
 go_wp2_with fail
 refine (hp.out _ (ZbK w _)).mono ?_
 rintro e w3 ⟨tv,xv,rfl,hb3⟩
 have k0:=(hb3.block w.heap.size (by simp;omega)).trans (Zb9 w _).1
 have k1:=(hb3.block (w.heap.size+1) (by simp)).trans (Zb9 w _).2
 have HB3:=hid ((ZbK w _).trans (hb3.mono (by simp;omega)))
 clear hb3 hp
 have c0:=cell_of_row _ _ 0 _ _ _ k1
 have c1:=cell_of_row _ _ 1 _ _ _ k1
 have c2:=cell_of_row _ _ 2 _ _ _ k1
 have c3:=cell_of_row _ _ 3 _ _ _ k1
 have f0:=Zar k1 0
 have f2:=Zar k1 2
 have K0:=hid k0
 have K1:=hid k1
 clear k0 k1
 go_wp2_with fail
 obtain ⟨w4,hw4⟩:∃ w4,w4=(w3.setCell ⟨w.heap.size+1,0,none⟩ (.int .i64 2)).setCell ⟨w.heap.size+1,2,none⟩ (.int .u64 M):=⟨_,rfl⟩
 rw [←hw4]
 have k4:w4.heap[w.heap.size+1]?=some (.cells #[.int .i64 2,.string (s.extract k (k+n)),.int .u64 M,.int .i64 k] 155 (0,0)):=by
  rw [hw4,heap_setCell_same _ _ _ _ _ _ (heap_setCell_same _ _ _ _ _ _ K1.out)]
  rfl
 have k40:w4.heap[w.heap.size]?=some tokZ:=by
  rw [hw4,Zcf _ _ _ (by simp),Zcf _ _ _ (by simp)]
  exact K0.out
 have HB4:=hid (show Below w.heap.size w w4 from by rw [hw4];exact (HB3.out.setCell (by simp) _).setCell (by simp) _)
 clear hw4 c0 c1 c2 c3 f0 f2
 have hS:=hid (And.intro (cell_of_row w4.drew _ 0 _ _ _ k4) (And.intro (cell_of_row w4.drew _ 1 _ _ _ k4) (And.intro (cell_of_row w4.drew _ 2 _ _ _ k4) (cell_of_row w4.drew _ 3 _ _ _ k4))))
 have z0:=cell_of_row w4 _ 0 _ _ _ k40
 have z1:=cell_of_row w4 _ 1 _ _ _ k40
 have z2:=cell_of_row w4 _ 2 _ _ _ k40
 have z3:=cell_of_row w4 _ 3 _ _ _ k40
 have y0:=Zar k40 0
 have y1:=Zar k40 1
 have y2:=Zar k40 2
 have y3:=Zar k40 3
 have K4:=hid k4
 have K40:=hid k40
 clear k4 k40
 refine wp_region_held_drew (S:=(fun w'=>w'.cell? ⟨w.heap.size+1,0,none⟩=some (.int .i64 2)∧w'.cell? ⟨w.heap.size+1,1,none⟩=some (.string (s.extract k (k+n)))∧w'.cell? ⟨w.heap.size+1,2,none⟩=some (.int .u64 M)∧w'.cell? ⟨w.heap.size+1,3,none⟩=some (.int .i64 k))) (by kernel_rfl) hS.out (fun hHeld => ?_)
 refine wpAnyH_take (i:=0) (oi:=_) (v := ?v1) rfl (by kernel_rfl) (by kernel_rfl) (by kernel_rfl) (fun _ _ _ h=>h) ?y1 (by assumption) ?r1
 case y1=>refine Or.inl ⟨by kernel_rfl,fun w hSw => ?_⟩;(try dsimp only at hSw);go_simp;(try with_reducible rfl)
 simp only [Act.put,List.setIfInBounds_toArray,List.set_cons_zero,List.set_cons_succ]
 refine wpAnyH_take (i:=1) (oi:=_) (v := ?v2) rfl (by kernel_rfl) (by kernel_rfl) (by kernel_rfl) (fun _ _ _ h=>h) ?y2 (by assumption) ?r2
 case y2=>refine Or.inl ⟨by kernel_rfl,fun w hSw => ?_⟩;(try dsimp only at hSw);go_simp;(try with_reducible rfl)
 simp only [Act.put,List.setIfInBounds_toArray,List.set_cons_zero,List.set_cons_succ]
 refine wpAnyH_take (i:=2) (oi:=_) (v := ?v3) rfl (by kernel_rfl) (by kernel_rfl) (by kernel_rfl) (fun _ _ _ h=>h) ?y3 (by assumption) ?r3
 case y3=>refine Or.inl ⟨by kernel_rfl,fun w hSw => ?_⟩;(try dsimp only at hSw);go_simp;(try with_reducible rfl)
 simp only [Act.put,List.setIfInBounds_toArray,List.set_cons_zero,List.set_cons_succ]
 refine wpAnyH_take (i:=3) (oi:=_) (v := ?v4) rfl (by kernel_rfl) (by kernel_rfl) (by kernel_rfl) (fun _ _ _ h=>h) ?y4 (by assumption) ?r4
 case y4=>refine Or.inl ⟨by kernel_rfl,fun w hSw => ?_⟩;(try dsimp only at hSw);go_simp;(try with_reducible rfl)
 simp only [Act.put,List.setIfInBounds_toArray,List.set_cons_zero,List.set_cons_succ]
 refine wpAnyH_take (i:=4) (oi:=_) (v:=undef) rfl (by kernel_rfl) (by kernel_rfl) (by kernel_rfl) (fun _ _ _ h=>h) (Or.inr ⟨by kernel_rfl,rfl⟩) (by assumption) ?_
 simp only [Act.put,List.setIfInBounds_toArray,List.set_cons_zero,List.set_cons_succ]
 refine wpAnyH_take (i:=5) (oi:=_) (v:=undef) rfl (by kernel_rfl) (by kernel_rfl) (by kernel_rfl) (fun _ _ _ h=>h) (Or.inr ⟨by kernel_rfl,rfl⟩) (by assumption) ?_
 simp only [Act.put,List.setIfInBounds_toArray,List.set_cons_zero,List.set_cons_succ]
 refine wpAnyH_take (i:=6) (oi:=_) (v:=undef) rfl (by kernel_rfl) (by kernel_rfl) (by kernel_rfl) (fun _ _ _ h=>h) (Or.inr ⟨by kernel_rfl,rfl⟩) (by assumption) ?_
 simp only [Act.put,List.setIfInBounds_toArray,List.set_cons_zero,List.set_cons_succ]
 refine wpAnyH_take (i:=7) (oi:=_) (v:=undef) rfl (by kernel_rfl) (by kernel_rfl) (by kernel_rfl) (fun _ _ _ h=>h) (Or.inr ⟨by kernel_rfl,rfl⟩) (by assumption) ?_
 simp only [Act.put,List.setIfInBounds_toArray,List.set_cons_zero,List.set_cons_succ]
 refine wpAnyH_take (i:=8) (oi:=_) (v:=undef) rfl (by kernel_rfl) (by kernel_rfl) (by kernel_rfl) (fun _ _ _ h=>h) (Or.inr ⟨by kernel_rfl,rfl⟩) (by assumption) ?_
 simp only [Act.put,List.setIfInBounds_toArray,List.set_cons_zero,List.set_cons_succ]
 refine wpAnyH_take (i:=9) (oi:=_) (v:=undef) rfl (by kernel_rfl) (by kernel_rfl) (by kernel_rfl) (fun _ _ _ h=>h) (Or.inr ⟨by kernel_rfl,rfl⟩) (by assumption) ?_
 simp only [Act.put,List.setIfInBounds_toArray,List.set_cons_zero,List.set_cons_succ]
 refine wpAnyH_take (i:=10) (oi:=_) (v:=undef) rfl (by kernel_rfl) (by kernel_rfl) (by kernel_rfl) (fun _ _ _ h=>h) (Or.inr ⟨by kernel_rfl,rfl⟩) (by assumption) ?_
 simp only [Act.put,List.setIfInBounds_toArray,List.set_cons_zero,List.set_cons_succ]
 refine wpAnyH_take (i:=11) (oi:=_) (v:=undef) rfl (by kernel_rfl) (by kernel_rfl) (by kernel_rfl) (fun _ _ _ h=>h) (Or.inr ⟨by kernel_rfl,rfl⟩) (by assumption) ?_
 simp only [Act.put,List.setIfInBounds_toArray,List.set_cons_zero,List.set_cons_succ]
 refine wpAnyH_take (i:=12) (oi:=_) (v := ?v5) rfl (by kernel_rfl) (by kernel_rfl) (by kernel_rfl) (fun _ _ _ h=>h) ?y5 (by assumption) ?r5
 case y5=>refine Or.inl ⟨by kernel_rfl,fun w hSw => ?_⟩;(try dsimp only at hSw);go_simp;(try with_reducible rfl)
 simp only [Act.put,List.setIfInBounds_toArray,List.set_cons_zero,List.set_cons_succ]
 refine wpAnyH_take (i:=13) (oi:=_) (v := ?v6) rfl (by kernel_rfl) (by kernel_rfl) (by kernel_rfl) (fun _ _ _ h=>h) ?y6 (by assumption) ?r6
 case y6=>refine Or.inl ⟨by kernel_rfl,fun w hSw => ?_⟩;(try dsimp only at hSw);go_simp;(try with_reducible rfl)
 simp only [Act.put,List.setIfInBounds_toArray,List.set_cons_zero,List.set_cons_succ]
 refine wpAnyH_take (i:=14) (oi:=_) (v:=undef) rfl (by kernel_rfl) (by kernel_rfl) (by kernel_rfl) (fun _ _ _ h=>h) (Or.inr ⟨by kernel_rfl,rfl⟩) (by assumption) ?_
 simp only [Act.put,List.setIfInBounds_toArray,List.set_cons_zero,List.set_cons_succ]
 refine wpAnyH_take (i:=15) (oi:=_) (v:=undef) rfl (by kernel_rfl) (by kernel_rfl) (by kernel_rfl) (fun _ _ _ h=>h) (Or.inr ⟨by kernel_rfl,rfl⟩) (by assumption) ?_
 simp only [Act.put,List.setIfInBounds_toArray,List.set_cons_zero,List.set_cons_succ]
 refine wpAnyH_take (i:=16) (oi:=_) (v:=undef) rfl (by kernel_rfl) (by kernel_rfl) (by kernel_rfl) (fun _ _ _ h=>h) (Or.inr ⟨by kernel_rfl,rfl⟩) (by assumption) ?_
 simp only [Act.put,List.setIfInBounds_toArray,List.set_cons_zero,List.set_cons_succ]
 refine wpAnyH_take (i:=17) (oi:=_) (v:=undef) rfl (by kernel_rfl) (by kernel_rfl) (by kernel_rfl) (fun _ _ _ h=>h) (Or.inr ⟨by kernel_rfl,rfl⟩) (by assumption) ?_
 simp only [Act.put,List.setIfInBounds_toArray,List.set_cons_zero,List.set_cons_succ]
 refine wpAnyH_take (i:=18) (oi:=_) (v:=undef) rfl (by kernel_rfl) (by kernel_rfl) (by kernel_rfl) (fun _ _ _ h=>h) (Or.inr ⟨by kernel_rfl,rfl⟩) (by assumption) ?_
 simp only [Act.put,List.setIfInBounds_toArray,List.set_cons_zero,List.set_cons_succ]
 refine wpAnyH_take (i:=19) (oi:=_) (v:=undef) rfl (by kernel_rfl) (by kernel_rfl) (by kernel_rfl) (fun _ _ _ h=>h) (Or.inr ⟨by kernel_rfl,rfl⟩) (by assumption) ?_
 simp only [Act.put,List.setIfInBounds_toArray,List.set_cons_zero,List.set_cons_succ]
 refine wpAnyH_take (i:=20) (oi:=_) (v:=undef) rfl (by kernel_rfl) (by kernel_rfl) (by kernel_rfl) (fun _ _ _ h=>h) (Or.inr ⟨by kernel_rfl,rfl⟩) (by assumption) ?_
 simp only [Act.put,List.setIfInBounds_toArray,List.set_cons_zero,List.set_cons_succ]
 refine wpAnyH_take (i:=21) (oi:=_) (v:=undef) rfl (by kernel_rfl) (by kernel_rfl) (by kernel_rfl) (fun _ _ _ h=>h) (Or.inr ⟨by kernel_rfl,rfl⟩) (by assumption) ?_
 simp only [Act.put,List.setIfInBounds_toArray,List.set_cons_zero,List.set_cons_succ]
 refine wpAnyH_take (i:=22) (oi:=_) (v:=undef) rfl (by kernel_rfl) (by kernel_rfl) (by kernel_rfl) (fun _ _ _ h=>h) (Or.inr ⟨by kernel_rfl,rfl⟩) (by assumption) ?_
 simp only [Act.put,List.setIfInBounds_toArray,List.set_cons_zero,List.set_cons_succ]
 refine wpAnyH_take (i:=23) (oi:=_) (v:=undef) rfl (by kernel_rfl) (by kernel_rfl) (by kernel_rfl) (fun _ _ _ h=>h) (Or.inr ⟨by kernel_rfl,rfl⟩) (by assumption) ?_
 simp only [Act.put,List.setIfInBounds_toArray,List.set_cons_zero,List.set_cons_succ]
 refine wpAnyH_take (i:=24) (oi:=_) (v:=undef) rfl (by kernel_rfl) (by kernel_rfl) (by kernel_rfl) (fun _ _ _ h=>h) (Or.inr ⟨by kernel_rfl,rfl⟩) (by assumption) ?_
 simp only [Act.put,List.setIfInBounds_toArray,List.set_cons_zero,List.set_cons_succ]
 refine wpAnyH_take (i:=25) (oi:=_) (v := ?v7) rfl (by kernel_rfl) (by kernel_rfl) (by kernel_rfl) (fun _ _ _ h=>h) ?y7 (by assumption) ?r7
 case y7=>refine Or.inl ⟨by kernel_rfl,fun w hSw => ?_⟩;(try dsimp only at hSw);go_simp;(try with_reducible rfl)
 simp only [Act.put,List.setIfInBounds_toArray,List.set_cons_zero,List.set_cons_succ]
 refine wpAnyH_ready (rs:=[26]) (by kernel_rfl) (by simp) ?_
 refine AllReadyH.cons (o:=_) rfl (fun K hK => ?_) AllReadyH.nil
 go_simp
 obtain ⟨wS,hwS⟩:∃ wS,wS=((((w4.setCell ⟨w.heap.size,0,none⟩ (.int .i64 2)).setCell ⟨w.heap.size,1,none⟩ (.string (s.extract k (k+n)))).setCell ⟨w.heap.size,2,none⟩ (.int .u64 M)).setCell ⟨w.heap.size,3,none⟩ (.int .i64 k)).drew:=⟨_,rfl⟩
 obtain ⟨s1,s2,s3⟩:=Za5 K40.out hwS
 rw [←hwS]
 clear hwS
 have s2':=s2.trans K4.out
 refine hK.out _ _ ⟨cell_of_row _ _ 0 _ _ _ s2',cell_of_row _ _ 1 _ _ _ s2',cell_of_row _ _ 2 _ _ _ s2',cell_of_row _ _ 3 _ _ _ s2'⟩ (fun hHeld => ?_)
 clear hK K
 try simp only [Act.put,List.setIfInBounds_toArray,List.set_cons_zero,List.set_cons_succ]
 refine wpAnyH_take (i:=27) (oi:=⟨some 5,_,_,_,_,_⟩) (v := ?v8) rfl (by kernel_rfl) (by kernel_rfl) (by kernel_rfl) (fun _ _ _ h=>h) ?y8 (by assumption) ?r8
 case y8=>refine Or.inl ⟨by kernel_rfl,fun w hSw => ?_⟩;(try dsimp only at hSw);go_simp;(try with_reducible rfl)
 simp only [Act.put,List.setIfInBounds_toArray,List.set_cons_zero,List.set_cons_succ]
 refine wpAnyH_done (by kernel_rfl) ?_ _
 have d0:=cell_of_row _ _ 0 _ _ _ s1
 have d1:=cell_of_row _ _ 1 _ _ _ s1
 have d2:=cell_of_row _ _ 2 _ _ _ s1
 have d3:=cell_of_row _ _ 3 _ _ _ s1
 have HBS:=hid (s3 w.heap.size w HB4.out (Nat.le_refl _))
 clear s1 s2 s2' s3 hHeld
 go_wp2
 exact bodyPost_ret (v:=.tuple #[.agg #[.int .i64 2,.string (s.extract k (k+n)),.int .u64 M,.int .i64 k],.bool false]) (by simp [results,Tryz.results82,go_sem,d0,d1,d2,d3]) rfl ⟨HBS.out,_,_,_,_,_,rfl,Or.inl ⟨HONE.out,rfl⟩⟩
end Go.Proofs.YtghlnncfigkkaaaGreatDoor
