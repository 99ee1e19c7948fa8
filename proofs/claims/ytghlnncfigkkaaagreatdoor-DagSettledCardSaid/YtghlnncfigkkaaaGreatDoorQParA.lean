/-
 Walks of the parser's small functions: now, fail, is, take, want.
-/
import Derived.WalkKit
import Derived.OrdersHeld
import Derived.ProofKit
import Derived.Test.YtghlnncfigkkaaaGreatDoorQParM
import Derived.BigQuiet
import Derived.RegionTactic
import Derived.Deep.RegionWith
import Derived.Deep.RegionHeld3
set_option linter.unusedVariables false
set_option linter.unusedSimpArgs false
namespace Go.Proofs.YtghlnncfigkkaaaGreatDoor
theorem tk {P : Program} {b : Array Oper} {Q : Exit → Act → World → Prop} {d : Region.Mode} {S : World → Prop} (i : Nat) {oi : Oper} {v : Value} {f : Nat} {e : Array Bool} {a : Act} {w : World}
    (h : wpAnyH P d b Q S f (e.setIfInBounds i true) (a.put oi.dst v) w)
    (g : b[i]? = some oi := by exact rfl) (j : Region.noSelect b = true := by kernel_rfl) (k : Region.free d b e i = true := by kernel_rfl) (l : (Region.ready d b e).contains i = true := by kernel_rfl)
    (m : ∀ c a w, Q (.panic c) (a.put oi.dst v) w → Q (.panic c) a w := by exact fun _ _ _ h => h)
    (n : YieldsIf P b S oi v a := by refine Or.inl ⟨by kernel_rfl, fun w p => ?_⟩; (try dsimp only at p); go_simp; (try with_reducible rfl)) (q : S w := by assumption) : wpAnyH P d b Q S (f + 1) e a w :=
  wpAnyH_take g j k l m n q h
theorem tn {P : Program} {b : Array Oper} {Q : Exit → Act → World → Prop} {d : Region.Mode} {S : World → Prop} (i : Nat) {oi : Oper} {f : Nat} {e : Array Bool} {a : Act} {w : World}
    (h : wpAnyH P d b Q S f (e.setIfInBounds i true) (a.put oi.dst undef) w)
    (g : b[i]? = some oi := by exact rfl) (j : Region.noSelect b = true := by kernel_rfl) (k : Region.free d b e i = true := by kernel_rfl) (l : (Region.ready d b e).contains i = true := by kernel_rfl)
    (m : ∀ c a w, Q (.panic c) (a.put oi.dst undef) w → Q (.panic c) a w := by exact fun _ _ _ h => h)
    (n : YieldsIf P b S oi undef a := by exact Or.inr ⟨by kernel_rfl, rfl⟩) (p : S w := by assumption) : wpAnyH P d b Q S (f + 1) e a w :=
  wpAnyH_take g j k l m n p h
theorem Kr {P : Program} {b : Array Oper} {Q : Exit → Act → World → Prop} {c : Region.Mode} {S : World → Prop} (i : Nat) {o : Oper} {e : Nat} {d : Array Bool} {a : Act} {w : World}
  (h : ∀ K' : Act → World → Prop, Shut (∀ a w, S w → (S w → wpAnyH P c b Q S e (d.setIfInBounds i true) a w) → K' a w) → if Region.wanted o (yielded b a.tmps) = true then Oper.wp P o a w K' Q else K' (a.put o.dst undef) w)
  (f : b[i]? = some o := by exact rfl) (g : Region.ready c b d = [i] := by kernel_rfl) : wpAnyH P c b Q S (e + 1) d a w := wpAnyH_ready g (by simp) (AllReadyH.cons f h AllReadyH.nil)
theorem Kq {P : Program} {b : Array Oper} {Q : Exit → Act → World → Prop} {c : Region.Mode} {S : World → Prop} {d : Nat} {e : Array Bool} {a : Act} {w : World}
  (h : Q .normal a w) (f : Region.ready c b e = [] := by kernel_rfl) : wpAnyH P c b Q S d e a w := wpAnyH_done f h d
theorem tkS : (∀ (a : Act) (d : Tmp) (v : Value), a.put (some d) v = { a with tmps := a.tmps.setIfInBounds d v }) ∧ (∀ (l : List Oper) (i : Nat) (h : i < l.toArray.size), l.toArray[i] = l[i]'(by simpa using h)) ∧
    (∀ (o : Oper) (l : List Oper) (i : Nat) (h : i + 1 < (o :: l).length), (o :: l)[i + 1] = l[i]'(by simpa using h)) ∧ (∀ (o : Oper) (l : List Oper) (h : 0 < (o :: l).length), (o :: l)[0] = o) ∧
    (∀ (l : List Value) (i : Nat) (v : Value), l.toArray.setIfInBounds i v = (l.set i v).toArray) ∧ (∀ (l : List Value) (x v : Value), (x :: l).set 0 v = v :: l) ∧ (∀ (l : List Value) (x v : Value) (i : Nat), (x :: l).set (i + 1) v = x :: l.set i v) :=
  ⟨fun _ _ _ => rfl, fun _ _ _ => rfl, fun _ _ _ _ => rfl, fun _ _ _ => rfl, fun _ _ _ => by simp, fun _ _ _ => rfl, fun _ _ _ _ => rfl⟩
end Go.Proofs.YtghlnncfigkkaaaGreatDoor
set_option maxRecDepth 100000
set_option maxHeartbeats 1000000
namespace Go.Proofs.YtghlnncfigkkaaaGreatDoor
open Go.RowKit
abbrev PP (P:Nat):Value:=.pointer (some ⟨P,0,none⟩)
def tokV (t:Tok):Value:=.agg #[.int .i64 t.kind,.string t.text,.int .u64 t.num,.int .i64 t.pos]
theorem Zan {w:World} {g:Nat} {a:Array Value} {t:TypeId} (h:w.heap[g]?=some (.cells a t (0,0))) (k:Nat):w.frozen? ⟨g,k,none⟩=false:=by
 simp [World.frozen?,h]
theorem Zdm {w4 f:World} {g:Nat} {a b c d i j c0 k:Value} {T:TypeId} (l:w4.heap[g]?=some (.cells #[i,j,c0,k] T (0,0)))
  (m:f=(((w4.setCell ⟨g,0,none⟩ a).setCell ⟨g,1,none⟩ b).setCell ⟨g,2,none⟩ c).setCell ⟨g,3,none⟩ d):
  f.heap[g]?=some (.cells #[a,b,c,d] T (0,0))∧∀ (B:Nat) (w:World),Below B w w4→B≤g→Below B w f:=by
 subst m;refine ⟨?_,fun B w h e=>(((h.setCell (p:=⟨g,0,none⟩) e _).setCell (p:=⟨g,1,none⟩) e _).setCell (p:=⟨g,2,none⟩) e _).setCell (p:=⟨g,3,none⟩) e _⟩
 rw [heap_setCell_same _ _ _ _ _ _ (heap_setCell_same _ _ _ _ _ _ (heap_setCell_same _ _ _ _ _ _ (heap_setCell_same _ _ _ _ _ _ l)))];rfl
theorem Zg4 {w4 e:World} {g:Nat} {a b c d j l c0 m:Value} {T:TypeId} (i:w4.heap[g]?=some (.cells #[j,l,c0,m] T (0,0)))
  (n:e=((((w4.setCell ⟨g,0,none⟩ a).setCell ⟨g,1,none⟩ b).setCell ⟨g,2,none⟩ c).setCell ⟨g,3,none⟩ d).drew):
  e.heap[g]?=some (.cells #[a,b,c,d] T (0,0))∧(∀ k,k≠g→e.heap[k]?=w4.heap[k]?)∧∀ (B:Nat) (w:World),Below B w w4→B≤g→Below B w e:=by
 subst n;refine ⟨(Zdm i rfl).1,fun k f => ?_,fun B w h p=>((Zdm i rfl).2 B w h p).drew⟩
 show ((((w4.setCell ⟨g,0,none⟩ a).setCell ⟨g,1,none⟩ b).setCell ⟨g,2,none⟩ c).setCell ⟨g,3,none⟩ d).heap[k]?=_
 rw [Zap _ _ _ (by simpa using f),Zap _ _ _ (by simpa using f),Zap _ _ _ (by simpa using f),Zap _ _ _ (by simpa using f)]
section
variable {X:Nat→Prop} {base P tc:Nat} {TA:Option Addr} {L:List Tok} {s:PS} {w w':World} {SA EA:Option Addr} {sc ec:Nat} {ev:Value}
theorem PR.c0 (h:PR X base P TA tc L s w SA sc EA ec ev):w.cell? ⟨P,0,none⟩=some (.slice TA L.length tc):=Kaa 0 h.blk
theorem PR.c1 (h:PR X base P TA tc L s w SA sc EA ec ev):w.cell? ⟨P,1,none⟩=some (.int .i64 s.i):=Kaa 1 h.blk
theorem PR.c2 (h:PR X base P TA tc L s w SA sc EA ec ev):w.cell? ⟨P,2,none⟩=some (.slice SA s.ss.length sc):=Kaa 2 h.blk
theorem PR.c3 (h:PR X base P TA tc L s w SA sc EA ec ev):w.cell? ⟨P,3,none⟩=some (.slice EA s.es.length ec):=Kaa 3 h.blk
theorem PR.c4 (h:PR X base P TA tc L s w SA sc EA ec ev):w.cell? ⟨P,4,none⟩=some (.int .i64 s.deep):=Kaa 4 h.blk
theorem PR.c5 (h:PR X base P TA tc L s w SA sc EA ec ev):w.cell? ⟨P,5,none⟩=some ev:=Kaa 5 h.blk
theorem PR.free (h:PR X base P TA tc L s w SA sc EA ec ev) (k:Nat):w.frozen? ⟨P,k,none⟩=false:=Zan h.blk k
theorem PR.noErr (h:PR X base P TA tc L s w SA sc EA ec ev) (a:s.err=none):ev=.nilIface:=by have:=h.err;rw [a] at this;exact this
theorem PR.anErr (h:PR X base P TA tc L s w SA sc EA ec ev) (a:s.err≠none):∃ t x,ev=.iface t x:=by
 have:=h.err
 cases hc:s.err with
 | none=>exact absurd hc a
 | some c=>rw [hc] at this;exact IsErr.iface this
end
theorem ZmH {X:Nat→Prop} {base P tc:Nat} {TA:Option Addr} {L:List Tok} {s:PS} {SA EA:Option Addr} {sc ec:Nat} {ev:Value} (w:World) (h:PR X base P TA tc L s w SA sc EA ec ev):
  Calls Tryz.prog 83 #[PP P] w fun e w'=>e=.returned (tokV (nowP L s))∧Below w.heap.size w w':=by
 have Y:=h.lt;have z:=h.c0;have B:=h.c1;obtain ⟨n,C⟩:=Ky L.length;obtain ⟨i,D⟩:=Ky s.i;have Z:=h.ii;have a6:=h.len;rw [←D] at B Z;rw [←C] at z Z a6;have H:=Kz h;have E:=Kz C;have a0:=Kz D;have d0:∀ o,(w.alloc o).cell? ⟨P,0,none⟩=some (.slice TA n tc):=fun o=>(World.cell?_alloc_lt w o _ Y).trans z
 have d1:∀ o,(w.alloc o).cell? ⟨P,1,none⟩=some (.int .i64 i):=fun o=>(World.cell?_alloc_lt w o _ Y).trans B
 clear h C D z B
 by_cases a1:i<n
 ·have q:L[i]?=some (L[i]'(by rw [←E.o];exact a1)):=Kad _
  obtain ⟨a2,a3⟩:=Ky (L[i]'(by rw [←E.o];exact a1))
  rw [←a3] at q;obtain ⟨b,o,rfl,b0,F,I,J,M⟩:=H.o.toks.tok q;have r:b<w.heap.size:=by have:=H.o.hb;omega
  have m:nowP L s=a2:=by
   unfold nowP;rw [←a0.o,q];rfl
  have N:=Kz m;obtain ⟨kd,t,x,y⟩:=a2;dsimp only at F I J M;have f0:=fun g:Obj=>(World.cell?_alloc_lt w g ⟨b,o+i*4,none⟩ r).trans F
  have f1:=fun g:Obj=>(World.cell?_alloc_lt w g ⟨b,o+i*4+1,none⟩ r).trans I
  have f2:=fun g:Obj=>(World.cell?_alloc_lt w g ⟨b,o+i*4+2,none⟩ r).trans J
  have f3:=fun g:Obj=>(World.cell?_alloc_lt w g ⟨b,o+i*4+3,none⟩ r).trans M
  have a7:decide ((i:Int)<(n:Int))=true:=by simp;omega
  have i0:(0:Int)≤(i:Int):=by omega
  have i1:(i:Int)<(n:Int):=by omega
  clear F I J M q a3 m
  go_enter Tryz.func83,Tryz.ntmps83
  go_wp2_with fail
  go_quiet (fail)
  go_wp2_with fail
  obtain ⟨wq,d⟩:=Ky ((w.alloc (.cells #[.int .i64 0,.string ⟨#[]⟩,.int .u64 0,.int .i64 0] 155)).drewN nq);rw [←d];have a:wq.heap[w.heap.size]?=some (.cells #[.int .i64 0,.string ⟨#[]⟩,.int .u64 0,.int .i64 0] 155 (0,0)):=by rw [d];exact Kac w _
  have O:=Kz (show Below w.heap.size w wq from by rw [d];exact Zaa ((Kai _ _).alloc (Kag _) _) _)
  have a4:=Kz (show wq.drew.cell? ⟨P,0,none⟩=some (.slice (some ⟨b,o,none⟩) n tc)∧wq.drew.cell? ⟨P,1,none⟩=some (.int .i64 i)∧wq.drew.cell? ⟨b,o+i*4,none⟩=some (.int .i64 kd)∧wq.drew.cell? ⟨b,o+i*4+1,none⟩=some (.string t)∧wq.drew.cell? ⟨b,o+i*4+2,none⟩=some (.int .u64 x)∧wq.drew.cell? ⟨b,o+i*4+3,none⟩=some (.int .i64 y) from by rw [d];exact ⟨d0 _,d1 _,f0 _,f1 _,f2 _,f3 _⟩)
  have z0:=cell_of_row wq _ 0 _ _ _ a;have z1:=cell_of_row wq _ 1 _ _ _ a;have z2:=cell_of_row wq _ 2 _ _ _ a;have z3:=cell_of_row wq _ 3 _ _ _ a;have y0:=Zan (w:=wq) a 0;have y1:=Zan (w:=wq) a 1;have y2:=Zan (w:=wq) a 2;have y3:=Zan (w:=wq) a 3;have a8:=Kz a;clear d a f0 f1 f2 f3 d0 d1;refine wp_region_held_drew (S:=(fun w'=>w'.cell? ⟨P,0,none⟩=some (.slice (some ⟨b,o,none⟩) n tc)∧w'.cell? ⟨P,1,none⟩=some (.int .i64 i)∧w'.cell? ⟨b,o+i*4,none⟩=some (.int .i64 kd)∧w'.cell? ⟨b,o+i*4+1,none⟩=some (.string t)∧w'.cell? ⟨b,o+i*4+2,none⟩=some (.int .u64 x)∧w'.cell? ⟨b,o+i*4+3,none⟩=some (.int .i64 y))) (by kernel_rfl) a4.o (fun a5 => ?_)
  refine tk 0 ?_;simp only [tkS];refine tk 1 ?_;simp only [tkS];refine tk 2 ?_;simp only [tkS];refine tk 3 ?_;simp only [tkS];refine tk 4 ?_;simp only [tkS];refine tk 5 ?_;simp only [tkS];refine tk 6 ?_;simp only [tkS];refine tk 7 ?_;simp only [tkS];refine tk 8 ?_;simp only [tkS];refine tk 9 ?_;simp only [tkS];refine Kr 10 fun K hK=>?_
  go_simp;obtain ⟨a9,j⟩:=Ky (((((wq.setCell ⟨w.heap.size,0,none⟩ (.int .i64 kd)).setCell ⟨w.heap.size,1,none⟩ (.string t)).setCell ⟨w.heap.size,2,none⟩ (.int .u64 x)).setCell ⟨w.heap.size,3,none⟩ (.int .i64 y)).drew);rw [←j];obtain ⟨c,k,p⟩:=Zg4 a8.o j;clear j;have l:=a4.o;refine hK.out _ _ ⟨(World.cell?_of_block (k P (by omega))).trans l.1,(World.cell?_of_block (k P (by omega))).trans l.2.1,(World.cell?_of_block (k b (by omega))).trans l.2.2.1,(World.cell?_of_block (k b (by omega))).trans l.2.2.2.1,(World.cell?_of_block (k b (by omega))).trans l.2.2.2.2.1,(World.cell?_of_block (k b (by omega))).trans l.2.2.2.2.2⟩ (fun a5 => ?_)
  clear hK K
  try simp only [tkS]
  refine Kq ?_;have Q:=Kaa 0 c;have R:=Kaa 1 c;have T:=Kaa 2 c;have V:=Kaa 3 c;have W:=Kz (p w.heap.size w O.o (Kag _));clear c k p a5 l
  go_wp2
  exact bodyPost_ret (v:=tokV ⟨kd,t,x,y⟩) (by simp [results,Tryz.results83,go_sem,Q,R,T,V,tokV]) rfl ⟨by rw [N.o],W.o⟩
 ·have m:nowP L s=zTok:=by
   unfold nowP;rw [List.getElem?_eq_none (by rw [←a0.o,←E.o];omega)]
   rfl
  have N:=Kz m;have a7:decide ((i:Int)<(n:Int))=false:=by simp;omega
  clear m
  go_enter Tryz.func83,Tryz.ntmps83
  go_wp2_with fail
  go_quiet (fail)
  go_wp2
  obtain ⟨wq,d⟩:=Ky ((w.alloc (.cells #[.int .i64 0,.string ⟨#[]⟩,.int .u64 0,.int .i64 0] 155)).drewN nq);rw [←d];have a:wq.heap[w.heap.size]?=some (.cells #[.int .i64 0,.string ⟨#[]⟩,.int .u64 0,.int .i64 0] 155 (0,0)):=by rw [d];exact Kac w _
  have O:=Kz (show Below w.heap.size w wq from by rw [d];exact Zaa ((Kai _ _).alloc (Kag _) _) _)
  obtain ⟨a9,j⟩:=Ky ((((wq.setCell ⟨w.heap.size,0,none⟩ (.int .i64 0)).setCell ⟨w.heap.size,1,none⟩ (.string ⟨#[]⟩)).setCell ⟨w.heap.size,2,none⟩ (.int .u64 0)).setCell ⟨w.heap.size,3,none⟩ (.int .i64 0));rw [←j];obtain ⟨c,p⟩:=Zdm a j;have Q:=Kaa 0 c;have R:=Kaa 1 c;have T:=Kaa 2 c;have V:=Kaa 3 c;have W:=Kz (p w.heap.size w O.o (Kag _));clear j d a c p;exact bodyPost_ret (v:=tokV zTok) (by simp [results,Tryz.results83,go_sem,Q,R,T,V,tokV,zTok]) rfl ⟨by rw [N.o],W.o⟩
end Go.Proofs.YtghlnncfigkkaaaGreatDoor
