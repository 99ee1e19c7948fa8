/-
 Walks of the parser's small functions: now, fail, is, take, want.
-/
import Derived.WalkKit
import Derived.OrdersHeld
import Derived.ProofKit
import Derived.Test.YtghlnncfigkkaaaGreatDoorQParM
import Derived.BigQuiet
import Derived.RegionTactic
import Derived.Deep.RegionWith
import Derived.Deep.RegionHeld3
namespace Go.Proofs.YtghlnncfigkkaaaGreatDoor
set_option linter.unusedVariables false
set_option linter.unusedSimpArgs false
theorem tk {P : Program} {ops : Array Oper} {Q : Exit → Act → World → Prop} {md : Region.Mode} {S : World → Prop} (i : Nat) {oi : Oper} {v : Value} {fuel : Nat} {listed : Array Bool} {a : Act} {w : World}
    (h : wpAnyH P md ops Q S fuel (listed.setIfInBounds i true) (a.put oi.dst v) w)
    (hi : ops[i]? = some oi := by exact rfl) (hs : Region.noSelect ops = true := by kernel_rfl) (hf : Region.free md ops listed i = true := by kernel_rfl) (hr : (Region.ready md ops listed).contains i = true := by kernel_rfl)
    (hQ : ∀ c a w, Q (.panic c) (a.put oi.dst v) w → Q (.panic c) a w := by exact fun _ _ _ h => h)
    (hy : YieldsIf P ops S oi v a := by refine Or.inl ⟨by kernel_rfl, fun w hSw => ?_⟩; (try dsimp only at hSw); go_simp; (try with_reducible rfl)) (hS : S w := by assumption) : wpAnyH P md ops Q S (fuel + 1) listed a w :=
  wpAnyH_take hi hs hf hr hQ hy hS h
theorem tn {P : Program} {ops : Array Oper} {Q : Exit → Act → World → Prop} {md : Region.Mode} {S : World → Prop} (i : Nat) {oi : Oper} {fuel : Nat} {listed : Array Bool} {a : Act} {w : World}
    (h : wpAnyH P md ops Q S fuel (listed.setIfInBounds i true) (a.put oi.dst undef) w)
    (hi : ops[i]? = some oi := by exact rfl) (hs : Region.noSelect ops = true := by kernel_rfl) (hf : Region.free md ops listed i = true := by kernel_rfl) (hr : (Region.ready md ops listed).contains i = true := by kernel_rfl)
    (hQ : ∀ c a w, Q (.panic c) (a.put oi.dst undef) w → Q (.panic c) a w := by exact fun _ _ _ h => h)
    (hy : YieldsIf P ops S oi undef a := by exact Or.inr ⟨by kernel_rfl, rfl⟩) (hS : S w := by assumption) : wpAnyH P md ops Q S (fuel + 1) listed a w :=
  wpAnyH_take hi hs hf hr hQ hy hS h
theorem tkS : (∀ (a : Act) (d : Tmp) (v : Value), a.put (some d) v = { a with tmps := a.tmps.setIfInBounds d v }) ∧ (∀ (l : List Oper) (i : Nat) (h : i < l.toArray.size), l.toArray[i] = l[i]'(by simpa using h)) ∧
    (∀ (o : Oper) (l : List Oper) (i : Nat) (h : i + 1 < (o :: l).length), (o :: l)[i + 1] = l[i]'(by simpa using h)) ∧ (∀ (o : Oper) (l : List Oper) (h : 0 < (o :: l).length), (o :: l)[0] = o) ∧
    (∀ (l : List Value) (i : Nat) (v : Value), l.toArray.setIfInBounds i v = (l.set i v).toArray) ∧ (∀ (l : List Value) (x v : Value), (x :: l).set 0 v = v :: l) ∧ (∀ (l : List Value) (x v : Value) (i : Nat), (x :: l).set (i + 1) v = x :: l.set i v) :=
  ⟨fun _ _ _ => rfl, fun _ _ _ => rfl, fun _ _ _ _ => rfl, fun _ _ _ => rfl, fun _ _ _ => by simp, fun _ _ _ => rfl, fun _ _ _ _ => rfl⟩
end Go.Proofs.YtghlnncfigkkaaaGreatDoor
set_option maxRecDepth 100000
set_option maxHeartbeats 1000000
open Go.Lib (hid)
namespace Go.Proofs.YtghlnncfigkkaaaGreatDoor
open Go.RowKit
abbrev PP (P:Nat):Value:=.pointer (some ⟨P,0,none⟩)
def tokV (t:Tok):Value:=.agg #[.int .i64 t.kind,.string t.text,.int .u64 t.num,.int .i64 t.pos]
theorem Zan {w:World} {g:Nat} {cs:Array Value} {t:TypeId} (h:w.heap[g]?=some (.cells cs t (0,0))) (k:Nat):w.frozen? ⟨g,k,none⟩=false:=by
 simp [World.frozen?,h]
theorem Zdm {w4 wS:World} {g:Nat} {a b c d a0 b0 c0 d0:Value} {T:TypeId} (h0:w4.heap[g]?=some (.cells #[a0,b0,c0,d0] T (0,0)))
  (hS:wS=(((w4.setCell ⟨g,0,none⟩ a).setCell ⟨g,1,none⟩ b).setCell ⟨g,2,none⟩ c).setCell ⟨g,3,none⟩ d):
  wS.heap[g]?=some (.cells #[a,b,c,d] T (0,0))∧∀ (B:Nat) (w:World),Below B w w4→B≤g→Below B w wS:=by
 subst hS
 refine ⟨?_,fun B w h hB=>(((h.setCell (p:=⟨g,0,none⟩) hB _).setCell (p:=⟨g,1,none⟩) hB _).setCell (p:=⟨g,2,none⟩) hB _).setCell (p:=⟨g,3,none⟩) hB _⟩
 rw [heap_setCell_same _ _ _ _ _ _ (heap_setCell_same _ _ _ _ _ _ (heap_setCell_same _ _ _ _ _ _ (heap_setCell_same _ _ _ _ _ _ h0)))]
 rfl
theorem Zg4 {w4 wS:World} {g:Nat} {a b c d a0 b0 c0 d0:Value} {T:TypeId} (h0:w4.heap[g]?=some (.cells #[a0,b0,c0,d0] T (0,0)))
  (hS:wS=((((w4.setCell ⟨g,0,none⟩ a).setCell ⟨g,1,none⟩ b).setCell ⟨g,2,none⟩ c).setCell ⟨g,3,none⟩ d).drew):
  wS.heap[g]?=some (.cells #[a,b,c,d] T (0,0))∧(∀ k,k≠g→wS.heap[k]?=w4.heap[k]?)∧∀ (B:Nat) (w:World),Below B w w4→B≤g→Below B w wS:=by
 subst hS
 refine ⟨(Zdm h0 rfl).1,fun k hk => ?_,fun B w h hB=>((Zdm h0 rfl).2 B w h hB).drew⟩
 show ((((w4.setCell ⟨g,0,none⟩ a).setCell ⟨g,1,none⟩ b).setCell ⟨g,2,none⟩ c).setCell ⟨g,3,none⟩ d).heap[k]?=_
 rw [Zap _ _ _ (by simpa using hk),Zap _ _ _ (by simpa using hk),Zap _ _ _ (by simpa using hk),Zap _ _ _ (by simpa using hk)]
section
variable {X:Nat→Prop} {base P tc:Nat} {TA:Option Addr} {L:List Tok} {s:PS} {w w':World} {SA EA:Option Addr} {sc ec:Nat} {ev:Value}
theorem PR.c0 (h:PR X base P TA tc L s w SA sc EA ec ev):w.cell? ⟨P,0,none⟩=some (.slice TA L.length tc):=Kaa _ _ 0 _ _ _ h.blk
theorem PR.c1 (h:PR X base P TA tc L s w SA sc EA ec ev):w.cell? ⟨P,1,none⟩=some (.int .i64 s.i):=Kaa _ _ 1 _ _ _ h.blk
theorem PR.c2 (h:PR X base P TA tc L s w SA sc EA ec ev):w.cell? ⟨P,2,none⟩=some (.slice SA s.ss.length sc):=Kaa _ _ 2 _ _ _ h.blk
theorem PR.c3 (h:PR X base P TA tc L s w SA sc EA ec ev):w.cell? ⟨P,3,none⟩=some (.slice EA s.es.length ec):=Kaa _ _ 3 _ _ _ h.blk
theorem PR.c4 (h:PR X base P TA tc L s w SA sc EA ec ev):w.cell? ⟨P,4,none⟩=some (.int .i64 s.deep):=Kaa _ _ 4 _ _ _ h.blk
theorem PR.c5 (h:PR X base P TA tc L s w SA sc EA ec ev):w.cell? ⟨P,5,none⟩=some ev:=Kaa _ _ 5 _ _ _ h.blk
theorem PR.free (h:PR X base P TA tc L s w SA sc EA ec ev) (k:Nat):w.frozen? ⟨P,k,none⟩=false:=Zan h.blk k
theorem PR.noErr (h:PR X base P TA tc L s w SA sc EA ec ev) (he:s.err=none):ev=.nilIface:=by have:=h.err;rw [he] at this;exact this
theorem PR.anErr (h:PR X base P TA tc L s w SA sc EA ec ev) (he:s.err≠none):∃ t x,ev=.iface t x:=by
 have:=h.err
 cases hc:s.err with
 | none=>exact absurd hc he
 | some c=>rw [hc] at this;exact IsErr.iface this
end
theorem ZmH {X:Nat→Prop} {base P tc:Nat} {TA:Option Addr} {L:List Tok} {s:PS} {SA EA:Option Addr} {sc ec:Nat} {ev:Value} (w:World) (h:PR X base P TA tc L s w SA sc EA ec ev):
  Calls Tryz.prog 83 #[PP P] w fun e w'=>e=.returned (tokV (nowP L s))∧Below w.heap.size w w':=by
 have hP:=h.lt
 have c0':=h.c0
 have c1':=h.c1
 obtain ⟨n,hn⟩:∃ n,n=L.length:=⟨_,rfl⟩
 obtain ⟨i,hi⟩:∃ i,i=s.i:=⟨_,rfl⟩
 have hii:=h.ii
 have hlen:=h.len
 rw [←hi] at c1' hii
 rw [←hn] at c0' hii hlen
 have H:=hid h
 have HN:=hid hn
 have HI:=hid hi
 have d0:∀ o,(w.alloc o).cell? ⟨P,0,none⟩=some (.slice TA n tc):=fun o=>(World.cell?_alloc_lt w o _ hP).trans c0'
 have d1:∀ o,(w.alloc o).cell? ⟨P,1,none⟩=some (.int .i64 i):=fun o=>(World.cell?_alloc_lt w o _ hP).trans c1'
 clear h hn hi c0' c1'
 by_cases hlt:i<n
 ·have hti:L[i]?=some (L[i]'(by rw [←HN.out];exact hlt)):=Kad _
  obtain ⟨t,htt⟩:∃ t,t=L[i]'(by rw [←HN.out];exact hlt):=⟨_,rfl⟩
  rw [←htt] at hti
  obtain ⟨b,o,rfl,hbl,e0,e1,e2,e3⟩:=H.out.toks.tok hti
  have hbw:b<w.heap.size:=by have:=H.out.hb;omega
  have hnow:nowP L s=t:=by
   unfold nowP
   rw [←HI.out,hti]
   rfl
  have HNOW:=hid hnow
  obtain ⟨kd,tx,nm,ps⟩:=t
  dsimp only at e0 e1 e2 e3
  have f0:=fun o':Obj=>(World.cell?_alloc_lt w o' ⟨b,o+i*4,none⟩ hbw).trans e0
  have f1:=fun o':Obj=>(World.cell?_alloc_lt w o' ⟨b,o+i*4+1,none⟩ hbw).trans e1
  have f2:=fun o':Obj=>(World.cell?_alloc_lt w o' ⟨b,o+i*4+2,none⟩ hbw).trans e2
  have f3:=fun o':Obj=>(World.cell?_alloc_lt w o' ⟨b,o+i*4+3,none⟩ hbw).trans e3
  have q:decide ((i:Int)<(n:Int))=true:=by simp;omega
  have i0:(0:Int)≤(i:Int):=by omega
  have i1:(i:Int)<(n:Int):=by omega
  clear e0 e1 e2 e3 hti htt hnow
  go_enter Tryz.func83,Tryz.ntmps83
  go_wp2_with fail
  go_quiet (fail)
  go_wp2_with fail
  obtain ⟨wq,hwq⟩:∃ wq,wq=(w.alloc (.cells #[.int .i64 0,.string ⟨#[]⟩,.int .u64 0,.int .i64 0] 155)).drewN nq:=⟨_,rfl⟩
  rw [←hwq]
  have hq0:wq.heap[w.heap.size]?=some (.cells #[.int .i64 0,.string ⟨#[]⟩,.int .u64 0,.int .i64 0] 155 (0,0)):=by rw [hwq];exact Kac w _
  have HBQ:=hid (show Below w.heap.size w wq from by rw [hwq];exact Zaa ((Kai _ _).alloc (Kag _) _) _)
  have hS:=hid (show wq.drew.cell? ⟨P,0,none⟩=some (.slice (some ⟨b,o,none⟩) n tc)∧wq.drew.cell? ⟨P,1,none⟩=some (.int .i64 i)∧wq.drew.cell? ⟨b,o+i*4,none⟩=some (.int .i64 kd)∧wq.drew.cell? ⟨b,o+i*4+1,none⟩=some (.string tx)∧wq.drew.cell? ⟨b,o+i*4+2,none⟩=some (.int .u64 nm)∧wq.drew.cell? ⟨b,o+i*4+3,none⟩=some (.int .i64 ps) from by rw [hwq];exact ⟨d0 _,d1 _,f0 _,f1 _,f2 _,f3 _⟩)
  have z0:=Kaa wq _ 0 _ _ _ hq0
  have z1:=Kaa wq _ 1 _ _ _ hq0
  have z2:=Kaa wq _ 2 _ _ _ hq0
  have z3:=Kaa wq _ 3 _ _ _ hq0
  have y0:=Zan (w:=wq) hq0 0
  have y1:=Zan (w:=wq) hq0 1
  have y2:=Zan (w:=wq) hq0 2
  have y3:=Zan (w:=wq) hq0 3
  have HQ0:=hid hq0
  clear hwq hq0 f0 f1 f2 f3 d0 d1
  refine wp_region_held_drew (S:=(fun w'=>w'.cell? ⟨P,0,none⟩=some (.slice (some ⟨b,o,none⟩) n tc)∧w'.cell? ⟨P,1,none⟩=some (.int .i64 i)∧w'.cell? ⟨b,o+i*4,none⟩=some (.int .i64 kd)∧w'.cell? ⟨b,o+i*4+1,none⟩=some (.string tx)∧w'.cell? ⟨b,o+i*4+2,none⟩=some (.int .u64 nm)∧w'.cell? ⟨b,o+i*4+3,none⟩=some (.int .i64 ps))) (by kernel_rfl) hS.out (fun hHeld => ?_)
  refine tk 0 ?_
  simp only [tkS]
  refine tk 1 ?_
  simp only [tkS]
  refine tk 2 ?_
  simp only [tkS]
  refine tk 3 ?_
  simp only [tkS]
  refine tk 4 ?_
  simp only [tkS]
  refine tk 5 ?_
  simp only [tkS]
  refine tk 6 ?_
  simp only [tkS]
  refine tk 7 ?_
  simp only [tkS]
  refine tk 8 ?_
  simp only [tkS]
  refine tk 9 ?_
  simp only [tkS]
  refine wpAnyH_ready (rs:=[10]) (by kernel_rfl) (by simp) ?_
  refine AllReadyH.cons (o:=_) rfl (fun K hK => ?_) AllReadyH.nil
  go_simp
  obtain ⟨wS,hwS⟩:∃ wS,wS=((((wq.setCell ⟨w.heap.size,0,none⟩ (.int .i64 kd)).setCell ⟨w.heap.size,1,none⟩ (.string tx)).setCell ⟨w.heap.size,2,none⟩ (.int .u64 nm)).setCell ⟨w.heap.size,3,none⟩ (.int .i64 ps)).drew:=⟨_,rfl⟩
  rw [←hwS]
  obtain ⟨s1,s2,s3⟩:=Zg4 HQ0.out hwS
  clear hwS
  have hSQ:=hS.out
  refine hK.out _ _ ⟨(World.cell?_of_block (s2 P (by omega))).trans hSQ.1,(World.cell?_of_block (s2 P (by omega))).trans hSQ.2.1,(World.cell?_of_block (s2 b (by omega))).trans hSQ.2.2.1,(World.cell?_of_block (s2 b (by omega))).trans hSQ.2.2.2.1,(World.cell?_of_block (s2 b (by omega))).trans hSQ.2.2.2.2.1,(World.cell?_of_block (s2 b (by omega))).trans hSQ.2.2.2.2.2⟩ (fun hHeld => ?_)
  clear hK K
  try simp only [tkS]
  refine wpAnyH_done (by kernel_rfl) ?_ _
  have g0:=Kaa _ _ 0 _ _ _ s1
  have g1:=Kaa _ _ 1 _ _ _ s1
  have g2:=Kaa _ _ 2 _ _ _ s1
  have g3:=Kaa _ _ 3 _ _ _ s1
  have HBS:=hid (s3 w.heap.size w HBQ.out (Kag _))
  clear s1 s2 s3 hHeld hSQ
  go_wp2
  exact bodyPost_ret (v:=tokV ⟨kd,tx,nm,ps⟩) (by simp [results,Tryz.results83,go_sem,g0,g1,g2,g3,tokV]) rfl ⟨by rw [HNOW.out],HBS.out⟩
 ·have hnow:nowP L s=zTok:=by
   unfold nowP
   rw [List.getElem?_eq_none (by rw [←HI.out,←HN.out];omega)]
   rfl
  have HNOW:=hid hnow
  have q:decide ((i:Int)<(n:Int))=false:=by simp;omega
  clear hnow
  go_enter Tryz.func83,Tryz.ntmps83
  go_wp2_with fail
  go_quiet (fail)
  go_wp2
  obtain ⟨wq,hwq⟩:∃ wq,wq=(w.alloc (.cells #[.int .i64 0,.string ⟨#[]⟩,.int .u64 0,.int .i64 0] 155)).drewN nq:=⟨_,rfl⟩
  rw [←hwq]
  have hq0:wq.heap[w.heap.size]?=some (.cells #[.int .i64 0,.string ⟨#[]⟩,.int .u64 0,.int .i64 0] 155 (0,0)):=by rw [hwq];exact Kac w _
  have HBQ:=hid (show Below w.heap.size w wq from by rw [hwq];exact Zaa ((Kai _ _).alloc (Kag _) _) _)
  obtain ⟨wS,hwS⟩:∃ wS,wS=(((wq.setCell ⟨w.heap.size,0,none⟩ (.int .i64 0)).setCell ⟨w.heap.size,1,none⟩ (.string ⟨#[]⟩)).setCell ⟨w.heap.size,2,none⟩ (.int .u64 0)).setCell ⟨w.heap.size,3,none⟩ (.int .i64 0):=⟨_,rfl⟩
  rw [←hwS]
  obtain ⟨s1,s3⟩:=Zdm hq0 hwS
  have g0:=Kaa _ _ 0 _ _ _ s1
  have g1:=Kaa _ _ 1 _ _ _ s1
  have g2:=Kaa _ _ 2 _ _ _ s1
  have g3:=Kaa _ _ 3 _ _ _ s1
  have HBS:=hid (s3 w.heap.size w HBQ.out (Kag _))
  clear hwS hwq hq0 s1 s3
  exact bodyPost_ret (v:=tokV zTok) (by simp [results,Tryz.results83,go_sem,g0,g1,g2,g3,tokV,zTok]) rfl ⟨by rw [HNOW.out],HBS.out⟩
end Go.Proofs.YtghlnncfigkkaaaGreatDoor
