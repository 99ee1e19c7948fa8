/-
  A tree that came in: opened. A row of tensors that came in: opened. The law EvalTrees: for every input the call returns true, and each argument reads as it read before; the six listed variables tied to the program's text. The frame round its walk; written by a program of mine (mkdoorl.py).
-/
import Derived.Test.YtghlnncfigkkaaaGreatDoorQOpen
import Derived.Test.YtghlnncfigkkaaaGreatDoorQTree
import Derived.Lib.SmallJoins
import Derived.Deep.Slices
import Derived.SizedLaws
import Derived.Test.YtghlnncfigkkaaaGreatDoorQEvS
import Derived.Test.YtghlnncfigkkaaaGreatDoorQWkETrees
import Derived.Test.YtghlnncfigkkaaaGreatDoorTie
import Derived.Test.YtghlnncfigkkaaaGreatDoorCards
import Derived.SevenTiedAt
import Derived.JoinedCond
set_option maxRecDepth 100000
namespace Go.Proofs.YtghlnncfigkkaaaGreatDoor
set_option linter.unusedVariables false
set_option linter.unusedSimpArgs false
set_option maxRecDepth 100000
open Go.ChangeShapes Go.WideShapes Go.ChangeAt Go.RowKit Go.Joins
instance:Inhabited SI:=⟨⟨0,0,⟨#[]⟩,[],0,0⟩⟩
instance:Inhabited EI:=⟨⟨0,⟨#[]⟩,0,[],0⟩⟩
section
variable {H:Type} {enc:TypeId × Value→H} {w:World}
theorem Xaa {fuel:Nat} {v:Value} {x:DataW H × List MemPlace} (hf:DataW.trod enc Tryz.prog w 0 (fun _=>true) true fuel 41 [v]=some x):
  ∃ (A:Option Addr) (c:Nat) (l:List Int),v=.slice A l.length c∧l.length≤c∧c≤maxLen∧Rd w w.heap.size A (l.map VI):=by
 rcases open_ints Tryz.underlying41 Tryz.underlying3 (by kernel_rfl) hf with ⟨hcs,hx⟩ | ⟨a,len,cap,zs,hcs,_,hl,hm,hz,hx,hcell,hwz⟩
 ·injection hcs with hcs
  subst hcs
  exact ⟨none,0,[],rfl,by simp,by simp,.inl rfl⟩
 ·injection hcs with hcs
  subst hcs
  simp only [if_true] at hz
  have hlen:(zs.take len).length=len:=by rw [List.length_take];omega
  refine ⟨some a,cap,zs.take len,by rw [hlen],by omega,hm,?_⟩
  rcases Nat.eq_zero_or_pos len with h0 | h0
  ·exact .inl (by subst h0;simp)
  ·have hx:=hcell 0 (by omega)
   rw [show a.add 0=a from rfl] at hx
   have hx':=Zju hx
   refine .inr ⟨a.block,a.off,by rw [←hx'],World.block_lt_of_cell? w _ hx,fun j v hv => ?_⟩
   rw [List.getElem?_map,List.getElem?_take] at hv
   split at hv
   ·rename_i hj
    have hj2:=hcell j (by omega)
    rw [hx',ZmF] at hj2
    rw [hj2,←hv,List.getElem?_eq_getElem (by omega),List.getD_eq_getElem?_getD,List.getElem?_eq_getElem (by omega)]
    rfl
   ·cases hv
theorem Xab {cs:List Value} {n k:Nat} (h:cs.length=n) (hk:k<n):∃ v,cs[k]?=some v∧(cs.drop k).take 1=[v]:=by
 have hx:cs[k]?=some (cs[k]'(by omega)):=List.getElem?_eq_getElem _
 refine ⟨_,hx,?_⟩
 rw [List.drop_eq_getElem_cons (by omega)]
 rfl
theorem Xac {H:Type} {P:Program} {e:TypeId}:∀ {l:List (DataW H)} {d:DataW H},d∈l→∀ n∈d.weights P e,n∈DataW.weightsAll P e l
 | [],d,h,n,hn=>by cases h
 | x::r,d,h,n,hn=>by
  simp only [DataW.weightsAll,List.mem_append]
  rcases List.mem_cons.1 h with rfl | h
  ·exact .inl hn
  ·exact .inr (Xac h n hn)
theorem Xad {xs:List (DataW H × List MemPlace)} {k:Nat} {r:Option (DataW H × List MemPlace)} (h:r=xs[k]?) (hk:k<xs.length):∃ y,r=some y:=⟨xs[k],by rw [h];exact List.getElem?_eq_getElem _⟩
theorem Xae {fuel:Nat} {cs:List Value} {x:DataW H × List MemPlace} (h:DataW.trod enc Tryz.prog w 0 (fun _=>true) true fuel 93 cs=some x):
  ∃ (s:SI) (A:Option Addr) (c:Nat),cs[0]?=some (.int .i64 s.kind)∧cs[1]?=some (.int .i64 s.party)∧cs[2]?=some (.string s.name)∧cs[3]?=some (.slice A s.shape.length c)∧cs[4]?=some (.int .i64 s.expr)∧cs[5]?=some (.int .i64 s.pos)∧s.shape.length≤c∧c≤maxLen∧Rd w w.heap.size A (s.shape.map VI)∧s.name.size∈x.1.weights Tryz.prog 93:=by
 obtain ⟨xs,n,_,hxe,hl,hlen,hf⟩:=DataW.trod_struct Tryz.underlying93 h
 have hl6:cs.length=6:=hl.trans (by kernel_rfl)
 have hx6:xs.length=6:=hlen
 obtain ⟨v0,e0,g0⟩:=Xab hl6 (k:=0) (by omega)
 obtain ⟨v1,e1,g1⟩:=Xab hl6 (k:=1) (by omega)
 obtain ⟨v2,e2,g2⟩:=Xab hl6 (k:=2) (by omega)
 obtain ⟨v3,e3,g3⟩:=Xab hl6 (k:=3) (by omega)
 obtain ⟨v4,e4,g4⟩:=Xab hl6 (k:=4) (by omega)
 obtain ⟨v5,e5,g5⟩:=Xab hl6 (k:=5) (by omega)
 obtain ⟨y0,h0⟩:=Xad (show DataW.trod enc Tryz.prog w 0 (fun _=>true) true n 91 ((cs.drop 0).take (Tryz.prog.cellsOf 91))=xs[0]? from hf 0 _ rfl) (by omega)
 obtain ⟨y1,h1⟩:=Xad (show DataW.trod enc Tryz.prog w 0 (fun _=>true) true n 3 ((cs.drop 1).take (Tryz.prog.cellsOf 3))=xs[1]? from hf 1 _ rfl) (by omega)
 obtain ⟨y2,h2⟩:=Xad (show DataW.trod enc Tryz.prog w 0 (fun _=>true) true n 9 ((cs.drop 2).take (Tryz.prog.cellsOf 9))=xs[2]? from hf 2 _ rfl) (by omega)
 obtain ⟨y3,h3⟩:=Xad (show DataW.trod enc Tryz.prog w 0 (fun _=>true) true n 41 ((cs.drop 3).take (Tryz.prog.cellsOf 41))=xs[3]? from hf 3 _ rfl) (by omega)
 obtain ⟨y4,h4⟩:=Xad (show DataW.trod enc Tryz.prog w 0 (fun _=>true) true n 3 ((cs.drop 4).take (Tryz.prog.cellsOf 3))=xs[4]? from hf 4 _ rfl) (by omega)
 obtain ⟨y5,h5⟩:=Xad (show DataW.trod enc Tryz.prog w 0 (fun _=>true) true n 3 ((cs.drop 5).take (Tryz.prog.cellsOf 3))=xs[5]? from hf 5 _ rfl) (by omega)
 rw [show Tryz.prog.cellsOf 91=1 by kernel_rfl,g0] at h0
 rw [show Tryz.prog.cellsOf 3=1 by kernel_rfl,g1] at h1
 rw [show Tryz.prog.cellsOf 9=1 by kernel_rfl,g2] at h2
 rw [show Tryz.prog.cellsOf 41=1 by kernel_rfl,g3] at h3
 rw [show Tryz.prog.cellsOf 3=1 by kernel_rfl,g4] at h4
 rw [show Tryz.prog.cellsOf 3=1 by kernel_rfl,g5] at h5
 obtain ⟨z0,q0,_,_⟩:=DataW.trod_int Tryz.underlying91 h0
 obtain ⟨z1,q1,_,_⟩:=DataW.trod_int Tryz.underlying3 h1
 obtain ⟨z2,q2,p2,m2⟩:=DataW.trod_string Tryz.underlying9 h2
 obtain ⟨A,c,l,q3,l1,l2,l3⟩:=Xaa h3
 obtain ⟨z4,q4,_,_⟩:=DataW.trod_int Tryz.underlying3 h4
 obtain ⟨z5,q5,_,_⟩:=DataW.trod_int Tryz.underlying3 h5
 injection q0 with q0
 injection q1 with q1
 injection q2 with q2
 injection q4 with q4
 injection q5 with q5
 subst q0 q1 q2 q3 q4 q5
 have hy2:xs[2]?=some y2:=(hf 2 _ rfl).symm.trans ((show DataW.trod enc Tryz.prog w 0 (fun _=>true) true n 9 ((cs.drop 2).take (Tryz.prog.cellsOf 9))=some y2 from by rw [show Tryz.prog.cellsOf 9=1 by kernel_rfl,g2];exact h2))
 refine ⟨⟨z0,z1,z2,l,z4,z5⟩,A,c,e0,e1,e2,e3,e4,e5,l1,l2,l3,?_⟩
 rw [hxe]
 simp only [DataW.weights,Tryz.underlying93]
 refine DataW.weights_mem_each (j:=2) (t:=9) (d:=y2.1) rfl (by rw [List.getElem?_map,hy2];rfl) _ ?_
 rw [p2]
 simp only [DataW.weights,List.mem_singleton]
 exact (Zbe z2).symm
theorem Xaf {fuel:Nat} {cs:List Value} {x:DataW H × List MemPlace} (h:DataW.trod enc Tryz.prog w 0 (fun _=>true) true fuel 90 cs=some x):
  ∃ (s:EI) (A:Option Addr) (c:Nat),cs[0]?=some (.int .i64 s.kind)∧cs[1]?=some (.string s.name)∧cs[2]?=some (.int .u64 s.num)∧cs[3]?=some (.slice A s.args.length c)∧cs[4]?=some (.int .i64 s.pos)∧s.args.length≤c∧c≤maxLen∧Rd w w.heap.size A (s.args.map VI)∧s.name.size∈x.1.weights Tryz.prog 90∧s.num≤18446744073709551615:=by
 obtain ⟨xs,n,_,hxe,hl,hlen,hf⟩:=DataW.trod_struct Tryz.underlying90 h
 have hl5:cs.length=5:=hl.trans (by kernel_rfl)
 have hx5:xs.length=5:=hlen
 obtain ⟨v0,e0,g0⟩:=Xab hl5 (k:=0) (by omega)
 obtain ⟨v1,e1,g1⟩:=Xab hl5 (k:=1) (by omega)
 obtain ⟨v2,e2,g2⟩:=Xab hl5 (k:=2) (by omega)
 obtain ⟨v3,e3,g3⟩:=Xab hl5 (k:=3) (by omega)
 obtain ⟨v4,e4,g4⟩:=Xab hl5 (k:=4) (by omega)
 obtain ⟨y0,h0⟩:=Xad (show DataW.trod enc Tryz.prog w 0 (fun _=>true) true n 88 ((cs.drop 0).take (Tryz.prog.cellsOf 88))=xs[0]? from hf 0 _ rfl) (by omega)
 obtain ⟨y1,h1⟩:=Xad (show DataW.trod enc Tryz.prog w 0 (fun _=>true) true n 9 ((cs.drop 1).take (Tryz.prog.cellsOf 9))=xs[1]? from hf 1 _ rfl) (by omega)
 obtain ⟨y2,h2⟩:=Xad (show DataW.trod enc Tryz.prog w 0 (fun _=>true) true n 39 ((cs.drop 2).take (Tryz.prog.cellsOf 39))=xs[2]? from hf 2 _ rfl) (by omega)
 obtain ⟨y3,h3⟩:=Xad (show DataW.trod enc Tryz.prog w 0 (fun _=>true) true n 41 ((cs.drop 3).take (Tryz.prog.cellsOf 41))=xs[3]? from hf 3 _ rfl) (by omega)
 obtain ⟨y4,h4⟩:=Xad (show DataW.trod enc Tryz.prog w 0 (fun _=>true) true n 3 ((cs.drop 4).take (Tryz.prog.cellsOf 3))=xs[4]? from hf 4 _ rfl) (by omega)
 rw [show Tryz.prog.cellsOf 88=1 by kernel_rfl,g0] at h0
 rw [show Tryz.prog.cellsOf 9=1 by kernel_rfl,g1] at h1
 rw [show Tryz.prog.cellsOf 39=1 by kernel_rfl,g2] at h2
 rw [show Tryz.prog.cellsOf 41=1 by kernel_rfl,g3] at h3
 rw [show Tryz.prog.cellsOf 3=1 by kernel_rfl,g4] at h4
 obtain ⟨z0,q0,_,_⟩:=DataW.trod_int Tryz.underlying88 h0
 obtain ⟨z1,q1,p1,m1⟩:=DataW.trod_string Tryz.underlying9 h1
 obtain ⟨z2,q2,_,w2⟩:=DataW.trod_int Tryz.underlying39 h2
 obtain ⟨A,c,l,q3,l1,l2,l3⟩:=Xaa h3
 obtain ⟨z4,q4,_,_⟩:=DataW.trod_int Tryz.underlying3 h4
 injection q0 with q0
 injection q1 with q1
 injection q2 with q2
 injection q4 with q4
 subst q0 q1 q2 q3 q4
 have hb:=Go.bounds_u64 w2
 obtain ⟨m,rfl⟩:=Int.eq_ofNat_of_zero_le hb.1
 have hy1:xs[1]?=some y1:=(hf 1 _ rfl).symm.trans ((show DataW.trod enc Tryz.prog w 0 (fun _=>true) true n 9 ((cs.drop 1).take (Tryz.prog.cellsOf 9))=some y1 from by rw [show Tryz.prog.cellsOf 9=1 by kernel_rfl,g1];exact h1))
 refine ⟨⟨z0,z1,m,l,z4⟩,A,c,e0,e1,e2,e3,e4,l1,l2,l3,?_,(show m≤18446744073709551615 by have:=hb.2;omega)⟩
 rw [hxe]
 simp only [DataW.weights,Tryz.underlying90]
 refine DataW.weights_mem_each (j:=1) (t:=9) (d:=y1.1) rfl (by rw [List.getElem?_map,hy1];rfl) _ ?_
 rw [p1]
 simp only [DataW.weights,List.mem_singleton]
 exact (Zbe z1).symm
theorem Xag {fuel:Nat} {v:Value} {x:DataW H × List MemPlace} (h:DataW.trod enc Tryz.prog w 0 (fun _=>true) true fuel 23 [v]=some x):
  ∃ (A:Option Addr) (c:Nat) (l:List SI),v=.slice A l.length c∧l.length≤c∧c≤maxLen∧RdSI w w.heap.size A l∧∀ s∈l,s.name.size∈x.1.weights Tryz.prog 23:=by
 rcases Go.Deep.open_slice Tryz.underlying23 h with ⟨hcs,_⟩ | ⟨a,len,cap,m,n,D,Pl,hcs,_,hl,hm,hmm,hxe,hx⟩
 ·injection hcs with hcs
  subst hcs
  exact ⟨none,0,[],rfl,by simp,by simp,.inl rfl,by simp⟩
 ·injection hcs with hcs
  subst hcs
  simp only [if_true] at hmm
  have each:∀ i,i<len→∃ s:SI,∃ (A:Option Addr) (c:Nat),w.cell? ((a.add (i*6)).add 0)=some (.int .i64 s.kind)∧w.cell? ((a.add (i*6)).add 1)=some (.int .i64 s.party)∧w.cell? ((a.add (i*6)).add 2)=some (.string s.name)∧w.cell? ((a.add (i*6)).add 3)=some (.slice A s.shape.length c)∧w.cell? ((a.add (i*6)).add 4)=some (.int .i64 s.expr)∧w.cell? ((a.add (i*6)).add 5)=some (.int .i64 s.pos)∧s.shape.length≤c∧c≤maxLen∧Rd w w.heap.size A (s.shape.map VI)∧s.name.size∈(D i).weights Tryz.prog 93:=by
   intro i hi
   obtain ⟨cs',h1,h2⟩:=hx i (by omega)
   rw [show Tryz.prog.cellsOf 93=6 by kernel_rfl] at h1
   obtain ⟨_,_,hc⟩:=World.cells?_some h1
   obtain ⟨s,A,c,e0,e1,e2,e3,e4,e5,r⟩:=Xae h2
   exact ⟨s,A,c,(hc 0 (by omega)).trans e0,(hc 1 (by omega)).trans e1,(hc 2 (by omega)).trans e2,(hc 3 (by omega)).trans e3,(hc 4 (by omega)).trans e4,(hc 5 (by omega)).trans e5,r⟩
  obtain ⟨f,hf⟩:=Go.Deep.choose_lt each
  refine ⟨some a,cap,(List.range len).map f,by simp,by simpa using hl,hm,?_,fun s hs=>by
   obtain ⟨i,hi,rfl⟩:=List.mem_map.1 hs
   obtain ⟨A,c,_,_,_,_,_,_,_,_,_,h⟩:=hf i (List.mem_range.1 hi)
   rw [hxe]
   simp only [DataW.weights,Tryz.underlying23,List.mem_cons,List.mem_append]
   exact .inr (.inl (Xac (List.mem_map.2 ⟨i,hi,rfl⟩) _ h))⟩
  rcases Nat.eq_zero_or_pos len with h0 | h0
  ·exact .inl (by subst h0;simp)
  ·obtain ⟨A0,c0,k0,_⟩:=hf 0 h0
   have hsp:a=⟨a.block,a.off,none⟩:=by
    have:=Zju k0
    obtain ⟨b,o,s⟩:=a
    cases s with
    | none=>rfl
    | some q=>simp [Addr.add] at this
   have hlt:a.block<w.heap.size:=by
    have:=World.block_lt_of_cell? w _ k0
    rw [hsp] at this
    simpa [Addr.add] using this
   refine .inr ⟨a.block,a.off,by rw [←hsp],hlt,fun i s hs => ?_⟩
   rw [List.getElem?_map,Option.map_eq_some_iff] at hs
   obtain ⟨j,hj,rfl⟩:=hs
   have hj2:=(List.getElem?_eq_some_iff.1 hj)
   obtain ⟨hj3,hj4⟩:=hj2
   rw [List.getElem_range] at hj4
   subst hj4
   rw [List.length_range] at hj3
   obtain ⟨A,c,e0,e1,e2,e3,e4,e5,l1,l2,l3,_⟩:=hf i hj3
   rw [hsp] at e0 e1 e2 e3 e4 e5
   have key:∀ k,((⟨a.block,a.off,none⟩:Addr).add (i*6)).add k=⟨a.block,a.off+i*6+k,none⟩:=fun k=>by rw [ZmF,ZmF]
   rw [key] at e0 e1 e2 e3 e4 e5
   exact ⟨e0,e1,e2,⟨A,c,e3,l3,by simp only [maxLen] at l2;omega,l1,by simp only [maxLen] at l2;omega⟩,e4,e5⟩
theorem Xah {fuel:Nat} {v:Value} {x:DataW H × List MemPlace} (h:DataW.trod enc Tryz.prog w 0 (fun _=>true) true fuel 24 [v]=some x):
  ∃ (A:Option Addr) (c:Nat) (l:List EI),v=.slice A l.length c∧l.length≤c∧c≤maxLen∧RdEI w w.heap.size A l∧∀ s∈l,s.name.size∈x.1.weights Tryz.prog 24∧s.num≤18446744073709551615:=by
 rcases Go.Deep.open_slice Tryz.underlying24 h with ⟨hcs,_⟩ | ⟨a,len,cap,m,n,D,Pl,hcs,_,hl,hm,hmm,hxe,hx⟩
 ·injection hcs with hcs
  subst hcs
  exact ⟨none,0,[],rfl,by simp,by simp,.inl rfl,by simp⟩
 ·injection hcs with hcs
  subst hcs
  simp only [if_true] at hmm
  have each:∀ i,i<len→∃ s:EI,∃ (A:Option Addr) (c:Nat),w.cell? ((a.add (i*5)).add 0)=some (.int .i64 s.kind)∧w.cell? ((a.add (i*5)).add 1)=some (.string s.name)∧w.cell? ((a.add (i*5)).add 2)=some (.int .u64 s.num)∧w.cell? ((a.add (i*5)).add 3)=some (.slice A s.args.length c)∧w.cell? ((a.add (i*5)).add 4)=some (.int .i64 s.pos)∧s.args.length≤c∧c≤maxLen∧Rd w w.heap.size A (s.args.map VI)∧s.name.size∈(D i).weights Tryz.prog 90∧s.num≤18446744073709551615:=by
   intro i hi
   obtain ⟨cs',h1,h2⟩:=hx i (by omega)
   rw [show Tryz.prog.cellsOf 90=5 by kernel_rfl] at h1
   obtain ⟨_,_,hc⟩:=World.cells?_some h1
   obtain ⟨s,A,c,e0,e1,e2,e3,e4,r⟩:=Xaf h2
   exact ⟨s,A,c,(hc 0 (by omega)).trans e0,(hc 1 (by omega)).trans e1,(hc 2 (by omega)).trans e2,(hc 3 (by omega)).trans e3,(hc 4 (by omega)).trans e4,r⟩
  obtain ⟨f,hf⟩:=Go.Deep.choose_lt each
  refine ⟨some a,cap,(List.range len).map f,by simp,by simpa using hl,hm,?_,fun s hs=>by
   obtain ⟨i,hi,rfl⟩:=List.mem_map.1 hs
   obtain ⟨A,c,_,_,_,_,_,_,_,_,h⟩:=hf i (List.mem_range.1 hi)
   refine ⟨?_,h.2⟩
   rw [hxe]
   simp only [DataW.weights,Tryz.underlying24,List.mem_cons,List.mem_append]
   exact .inr (.inl (Xac (List.mem_map.2 ⟨i,hi,rfl⟩) _ h.1))⟩
  rcases Nat.eq_zero_or_pos len with h0 | h0
  ·exact .inl (by subst h0;simp)
  ·obtain ⟨A0,c0,k0,_⟩:=hf 0 h0
   have hsp:a=⟨a.block,a.off,none⟩:=by
    have:=Zju k0
    obtain ⟨b,o,s⟩:=a
    cases s with
    | none=>rfl
    | some q=>simp [Addr.add] at this
   have hlt:a.block<w.heap.size:=by
    have:=World.block_lt_of_cell? w _ k0
    rw [hsp] at this
    simpa [Addr.add] using this
   refine .inr ⟨a.block,a.off,by rw [←hsp],hlt,fun i s hs => ?_⟩
   rw [List.getElem?_map,Option.map_eq_some_iff] at hs
   obtain ⟨j,hj,rfl⟩:=hs
   obtain ⟨hj3,hj4⟩:=(List.getElem?_eq_some_iff.1 hj)
   rw [List.getElem_range] at hj4
   subst hj4
   rw [List.length_range] at hj3
   obtain ⟨A,c,e0,e1,e2,e3,e4,l1,l2,l3,_⟩:=hf i hj3
   rw [hsp] at e0 e1 e2 e3 e4
   have key:∀ k,((⟨a.block,a.off,none⟩:Addr).add (i*5)).add k=⟨a.block,a.off+i*5+k,none⟩:=fun k=>by rw [ZmF,ZmF]
   rw [key] at e0 e1 e2 e3 e4
   exact ⟨e0,e1,e2,⟨A,c,e3,l3,by simp only [maxLen] at l2;omega,l1,by simp only [maxLen] at l2;omega⟩,e4⟩
theorem Xai {r:Reach} {b0:Nat} {v:Value} {d:DataW H} {p:List MemPlace}
  (hv:Value.okWide Tryz.prog w r b0 26 v) (h:DataW.Trod enc Tryz.prog w 0 (fun _=>true) true 26 v d p)
  {ts:List TypeId} {ds:List (DataW H)} (hsz:(DataW.weightsEach Tryz.prog ts ds).all (· ≤ reachBytes)=true) (j:Nat) (hj:ts[j]?=some 26) (hd:ds[j]?=some d):
  ∃ (SA:Option Addr) (sc:Nat) (ss:List SI) (EA:Option Addr) (ec:Nat) (es:List EI),v=.agg #[.slice SA ss.length sc,.slice EA es.length ec]∧ss.length≤sc∧sc≤maxLen∧es.length≤ec∧ec≤maxLen∧RdSI w w.heap.size SA ss∧RdEI w w.heap.size EA es∧(∀ s∈ss,s.name.size≤140737488351232)∧∀ e∈es,e.name.size≤140737488351232∧e.num≤18446744073709551615:=by
 obtain ⟨v0,v1,y0,y1,n,rfl,rfl,rfl,h0,h1⟩:=open_agg2 Tryz.underlying26 (by kernel_rfl) (by kernel_rfl) hv h
 obtain ⟨SA,sc,ss,rfl,s1,s2,s3,s4⟩:=Xag h0
 obtain ⟨EA,ec,es,rfl,e1,e2,e3,e4⟩:=Xah h1
 have big:∀ (k:Nat) (t:TypeId) (dk:DataW H),[23,24][k]?=some t→[y0.1,y1.1][k]?=some dk→∀ z∈dk.weights Tryz.prog t,z≤140737488351232:=fun k t dk ht hk z hz=>by
  have h1:z∈DataW.weightsEach Tryz.prog ts ds:=DataW.weights_mem_each hj hd _ (by
   simp only [DataW.weights,Tryz.underlying26]
   exact DataW.weights_mem_each (j:=k) ht hk _ hz)
  have h2:=List.all_eq_true.1 hsz z h1
  have h3:=of_decide_eq_true h2
  simp only [reachBytes] at h3
  omega
 exact ⟨SA,sc,ss,EA,ec,es,rfl,s1,s2,e1,e2,s3,e3,fun s hs=>big 0 _ _ rfl rfl _ (s4 s hs),fun e he=>⟨big 1 _ _ rfl rfl _ (e4 e he).1,(e4 e he).2⟩⟩
end
set_option maxRecDepth 100000
instance:Inhabited TN:=⟨⟨[],[]⟩⟩
section
variable {H:Type} {enc:TypeId × Value→H} {w:World}
theorem Xaj {fuel:Nat} {v:Value} {x:DataW H × List MemPlace} (hf:DataW.trod enc Tryz.prog w 0 (fun _=>true) true fuel 40 [v]=some x):
  ∃ (A:Option Addr) (c:Nat) (l:List UInt64),v=.slice A l.length c∧l.length≤c∧c≤maxLen∧Rd w w.heap.size A (l.map U):=by
 rcases open_ints Tryz.underlying40 Tryz.underlying39 (by kernel_rfl) hf with ⟨hcs,hx⟩ | ⟨a,len,cap,zs,hcs,_,hl,hm,hz,hx,hcell,hwz⟩
 ·injection hcs with hcs
  subst hcs
  exact ⟨none,0,[],rfl,by simp,by simp,.inl rfl⟩
 ·injection hcs with hcs
  subst hcs
  simp only [if_true] at hz
  have hlen:(zs.take len).length=len:=by rw [List.length_take];omega
  obtain ⟨l,hlz⟩:=Zlk (zs.take len) (fun m hm=>hwz m (List.mem_of_mem_take hm))
  have hll:l.length=len:=by rw [←hlen,hlz,List.length_map]
  refine ⟨some a,cap,l,by rw [hll],by omega,hm,?_⟩
  rw [show l.map U=(zs.take len).map (Value.int .u64) from by rw [hlz,List.map_map];rfl]
  rcases Nat.eq_zero_or_pos len with h0 | h0
  ·exact .inl (by subst h0;simp)
  ·have hx:=hcell 0 (by omega)
   rw [show a.add 0=a from rfl] at hx
   have hx':=Zju hx
   refine .inr ⟨a.block,a.off,by rw [←hx'],World.block_lt_of_cell? w _ hx,fun j v hv => ?_⟩
   rw [List.getElem?_map,List.getElem?_take] at hv
   split at hv
   ·rename_i hj
    have hj2:=hcell j (by omega)
    rw [hx',ZmF] at hj2
    rw [hj2,←hv,List.getElem?_eq_getElem (by omega),List.getD_eq_getElem?_getD,List.getElem?_eq_getElem (by omega)]
    rfl
   ·cases hv
theorem Xak {fuel:Nat} {cs:List Value} {x:DataW H × List MemPlace} (h:DataW.trod enc Tryz.prog w 0 (fun _=>true) true fuel 43 cs=some x):
  ∃ (s:TN) (A:Option Addr) (c:Nat) (A':Option Addr) (c':Nat),cs[0]?=some (.slice A s.sh.length c)∧cs[1]?=some (.slice A' s.el.length c')∧s.sh.length≤c∧c≤maxLen∧Rd w w.heap.size A (s.sh.map VI)∧s.el.length≤c'∧c'≤maxLen∧Rd w w.heap.size A' (s.el.map U):=by
 obtain ⟨xs,n,_,hxe,hl,hlen,hf⟩:=DataW.trod_struct Tryz.underlying43 h
 have hl2:cs.length=2:=hl.trans (by kernel_rfl)
 have hx2:xs.length=2:=hlen
 obtain ⟨v0,e0,g0⟩:=Xab hl2 (k:=0) (by omega)
 obtain ⟨v1,e1,g1⟩:=Xab hl2 (k:=1) (by omega)
 obtain ⟨y0,h0⟩:=Xad (show DataW.trod enc Tryz.prog w 0 (fun _=>true) true n 41 ((cs.drop 0).take (Tryz.prog.cellsOf 41))=xs[0]? from hf 0 _ rfl) (by omega)
 obtain ⟨y1,h1⟩:=Xad (show DataW.trod enc Tryz.prog w 0 (fun _=>true) true n 40 ((cs.drop 1).take (Tryz.prog.cellsOf 40))=xs[1]? from hf 1 _ rfl) (by omega)
 rw [show Tryz.prog.cellsOf 41=1 by kernel_rfl,g0] at h0
 rw [show Tryz.prog.cellsOf 40=1 by kernel_rfl,g1] at h1
 obtain ⟨A,c,l,q0,l1,l2,l3⟩:=Xaa h0
 obtain ⟨A',c',l',q1,m1,m2,m3⟩:=Xaj h1
 subst q0 q1
 exact ⟨⟨l,l'⟩,A,c,A',c',e0,e1,l1,l2,l3,m1,m2,m3⟩
theorem Xal {r:Reach} {b0:Nat} {v:Value} {d:DataW H} {p:List MemPlace}
  (hv:Value.okWide Tryz.prog w r b0 44 v) (h:DataW.Trod enc Tryz.prog w 0 (fun _=>true) true 44 v d p):
  ∃ (A:Option Addr) (c:Nat) (l:List TN),v=.slice A l.length c∧l.length≤c∧c≤maxLen∧RdTN w w.heap.size A l:=by
 obtain ⟨A0,n0,c0,rfl⟩:=okWide_slice Tryz.underlying44 hv
 obtain ⟨fuel,h⟩:=h
 rcases Go.Deep.open_slice Tryz.underlying44 h with ⟨hcs,_⟩ | ⟨a,len,cap,m,n,D,Pl,hcs,_,hl,hm,hmm,hxe,hx⟩
 ·injection hcs with hcs
  rw [hcs]
  exact ⟨none,0,[],rfl,by simp,by simp,.inl rfl⟩
 ·injection hcs with hcs
  rw [hcs]
  simp only [if_true] at hmm
  have each:∀ i,i<len→∃ s:TN,∃ (A:Option Addr) (c:Nat) (A':Option Addr) (c':Nat),w.cell? ((a.add (i*2)).add 0)=some (.slice A s.sh.length c)∧w.cell? ((a.add (i*2)).add 1)=some (.slice A' s.el.length c')∧s.sh.length≤c∧c≤maxLen∧Rd w w.heap.size A (s.sh.map VI)∧s.el.length≤c'∧c'≤maxLen∧Rd w w.heap.size A' (s.el.map U):=by
   intro i hi
   obtain ⟨cs',h1,h2⟩:=hx i (by omega)
   rw [show Tryz.prog.cellsOf 43=2 by kernel_rfl] at h1
   obtain ⟨_,_,hc⟩:=World.cells?_some h1
   obtain ⟨s,A,c,A',c',e0,e1,r⟩:=Xak h2
   exact ⟨s,A,c,A',c',(hc 0 (by omega)).trans e0,(hc 1 (by omega)).trans e1,r⟩
  obtain ⟨f,hf⟩:=Go.Deep.choose_lt each
  refine ⟨some a,cap,(List.range len).map f,by simp,by simpa using hl,hm,?_⟩
  rcases Nat.eq_zero_or_pos len with h0 | h0
  ·exact .inl (by subst h0;simp)
  ·obtain ⟨A0,c0,A0',c0',k0,_⟩:=hf 0 h0
   have hsp:a=⟨a.block,a.off,none⟩:=by
    have:=Zju k0
    obtain ⟨b,o,s⟩:=a
    cases s with
    | none=>rfl
    | some q=>simp [Addr.add] at this
   have hlt:a.block<w.heap.size:=by
    have:=World.block_lt_of_cell? w _ k0
    rw [hsp] at this
    simpa [Addr.add] using this
   refine .inr ⟨a.block,a.off,by rw [←hsp],hlt,fun i s hs => ?_⟩
   rw [List.getElem?_map,Option.map_eq_some_iff] at hs
   obtain ⟨j,hj,rfl⟩:=hs
   obtain ⟨hj3,hj4⟩:=(List.getElem?_eq_some_iff.1 hj)
   rw [List.getElem_range] at hj4
   subst hj4
   rw [List.length_range] at hj3
   obtain ⟨A,c,A',c',e0,e1,l1,l2,l3,m1,m2,m3⟩:=hf i hj3
   rw [hsp] at e0 e1
   have key:∀ k,((⟨a.block,a.off,none⟩:Addr).add (i*2)).add k=⟨a.block,a.off+i*2+k,none⟩:=fun k=>by rw [ZmF,ZmF]
   rw [key] at e0 e1
   simp only [maxLen] at l2 m2
   exact ⟨⟨A,c,e0,l3,by omega,l1,by omega⟩,A',c',e1,m3,by omega,m1,by omega⟩
end
end Go.Proofs.YtghlnncfigkkaaaGreatDoor
namespace Go.Proofs.YtghlnncfigkkaaaGreatDoor.lawEvalTrees
open Go Go.ChangeShapes Go.WideShapes Go.ChangeAt Go.RowKit
set_option linter.unusedVariables false
theorem Xam {H:Type} {enc:TypeId × Value→H} {a:Assume} {C:Checked} {os:Os} {f:FuncId} {fn:Func} {s:OpenSpec} {k:(H:Type)→List (DataW H)→Bool} (hk:s.cond=some k) {F:Stop.Interp} {conds:List PathCond} {apart fresh handsOn again:Bool} {X:World→Array Value→Prop}
  (hX:∀ (w w':World) (args:Array Value),w.heap=w'.heap→X w args→X w' args)
  (own:ownKnob C.prog.godebug=none) (started:os.Started) (noInit:C.prog.inits.idxOf? f=none) (hfn:C.prog.funcs[f]?=some fn)
  (witness:∃ (w:World) (tape:Tape) (i:Input),w.os=os∧(w.forCall tape i).Shaped C.prog∧i.vars=[]∧Input.okWide C.prog (w.forCall tape i) .any w.heap.size f i ∧
   ((s.pre enc C.prog fn conds apart (w.forCall tape i).memory i.args∧X (w.forCall tape i).memory i.args)∧sizedMet enc C.prog fn s apart (w.forCall tape i).memory i.args)∧a.holds C.prog (lone (Frame.enter C.prog f i.args .normal) [] (w.forCall tape i)))
  (contract:∀ (W:World) (base:Nat) (args:Array Value) (ds gs:List (DataW H)) (before:List MemPlace),
   (∀ (j:Nat) t v,fn.params[j]?=some t→args[j]?=some v→Value.okWide C.prog W .any base t v) →
   DataW.Whole enc C.prog fn.params.toList s.vars apart W args.toList ds gs before →
   (DataW.weightsEach C.prog (fn.params.toList++s.bare.plain.varTypes C.prog) (ds++gs)).all (· ≤ reachBytes)=true→X W args →
   Calls C.prog f args W fun e W'=>∃ v,e=.returned v∧(s.at F).post enc C.prog fn apart fresh handsOn again W args v W'):
  ReturnsInHanded a C os f .any (fun w args=>(s.pre enc C.prog fn conds apart w args∧X w args)∧sizedMet enc C.prog fn s apart w args) ((s.at F).post enc C.prog fn apart fresh handsOn again):=by
 refine returnsInHanded_of_calls own started noInit witness ?_
 intro w tape i _ _ _ hok hpre hholds
 obtain ⟨_,_,_,fn',hfn',_,_,_,_,hval⟩:=hok
 have e:fn'=fn:=Option.some.inj (hfn'.symm.trans hfn)
 subst e
 obtain ⟨⟨hp,hx⟩,hz⟩:=hpre
 obtain ⟨ds,gs,before,hw,hc,hkk⟩:=(OpenSpec.pre_some hk conds apart _ _).1 hp
 have hw':=DataW.Whole.of_heap (w':=w.forCall tape i) (by rfl) hw
 refine (contract (w.forCall tape i) w.heap.size i.args ds gs before hval hw' (hz.weights hw) (hX _ _ _ (by rfl) hx)).mono fun e W' ⟨v,he,hp⟩ => ?_
 subst he
 exact ChangeSpec.post_blind hp
theorem Zn2 (os:Os) (started:os.Started) (H:Type) (enc:TypeId × Value→H) (F0:Stop.Interp):
  ReturnsInHanded {} Tryz.checked os 8 .any (fun w args=>((Rows.OpenSpec.upto Rows.evalTreesSpec).pre enc Tryz.prog Tryz.f8 [] false w args∧LaidW w)∧sizedMet enc Tryz.prog Tryz.f8 (Rows.OpenSpec.upto Rows.evalTreesSpec) false w args)
   (((Rows.OpenSpec.upto Rows.evalTreesSpec).at F0).post enc Tryz.prog Tryz.f8 false true false false):=by
 have hwit:((DataW.whole enc Tryz.prog ((ZlL os).forCall (fun _ _=>0) ⟨#[],#[.agg #[.slice none 0 0,.slice none 0 0],.slice none 0 0,.slice none 0 0],[]⟩).memory Tryz.f8.params.toList [] false (#[.agg #[.slice none 0 0,.slice none 0 0],.slice none 0 0,.slice none 0 0]:Array Value).toList 8).map fun x=>Rows.uptoSmall H (x.1++x.2.1))=some true:=by kernel_rfl
 have hok:Input.okWideB Tryz.prog ((ZlL os).forCall (fun _ _=>0) ⟨#[],#[.agg #[.slice none 0 0,.slice none 0 0],.slice none 0 0,.slice none 0 0],[]⟩) 8 ⟨#[],#[.agg #[.slice none 0 0,.slice none 0 0],.slice none 0 0,.slice none 0 0],[]⟩=true:=by kernel_rfl
 obtain ⟨x,hx,hxs⟩:=Option.map_eq_some_iff.1 hwit
 refine Xam (C := Tryz.checked) (k:=Rows.uptoSmall) rfl (X:=fun w _=>LaidW w) (fun _ _ _ hh h=>h.of_heap hh) dOwn started (by kernel_rfl) Tryz.func8
  ⟨ZlL os,fun _ _=>0,⟨#[],#[.agg #[.slice none 0 0,.slice none 0 0],.slice none 0 0,.slice none 0 0],[]⟩,rfl,World.shaped_of_RefB (by kernel_rfl) (by kernel_rfl),(Input.okWide_of_okWideB (base:=0) hok).1,(Input.okWide_of_okWideB hok).2,⟨⟨(OpenSpec.pre_some (k:=Rows.uptoSmall) rfl [] false _ _).2 ⟨x.1,x.2.1,x.2.2,DataW.Whole_of_whole hx,rfl,hxs⟩,ZhT os _⟩,sizedMet_of_sizedB (fuel:=8) (by kernel_rfl)⟩,by simp [Assume.holds]⟩ ?_
 intro W base args ds gs before hval0 hW hsz0 hL
 have hval:∀ (j:Nat) t v,Tryz.f8.params[j]?=some t→args[j]?=some v→Value.okWide Tryz.prog W .any base t v:=hval0
 have hW':=hW
 have hg:=Zeg hL
 have ht:=ZfP hL
 obtain ⟨p,q,hA0,hV,rfl,hfz,hnd⟩:=hW
 have hA:DataW.TrodAll enc Tryz.prog W 0 (fun _=>true) true Tryz.f8.params.toList args.toList ds p:=hA0
 have hsz:(DataW.weightsEach Tryz.prog (Tryz.f8.params.toList++Rows.evalTreesSpec.plain.varTypes Tryz.prog) (ds++gs)).all (· ≤ reachBytes)=true:=hsz0
 rw [Tryz.params8] at hA hval hsz
 obtain ⟨v0,vs0,d0,ds0,p0,q0,hargs,rfl,rfl,h0,r0⟩:=trodAll_cons hA
 obtain ⟨v1,vs1,d1,ds1,p1,q1,rfl,rfl,rfl,h1,r1⟩:=trodAll_cons r0
 obtain ⟨v2,vs2,d2,ds2,p2,q2,rfl,rfl,rfl,h2,r2⟩:=trodAll_cons r1
 obtain ⟨rfl,rfl,rfl⟩:=trodAll_nil r2
 obtain rfl:args=#[v0,v1,v2]:=by cases args;simp_all
 obtain ⟨rfl,rfl⟩:gs=[]∧q=[]:=trodVars_none hV
 have k0:=h0
 have lt0:∀ x∈p0,x.block<W.heap.size:=by obtain ⟨m,hm⟩:=k0;exact DataW.trod_lt m _ _ _ hm
 obtain ⟨SA0,sc0,ss0,EA0,ec0,es0,rfl,s10,s20,e10,e20,s30,e30,s40,e40⟩:=Xai (hval 0 26 v0 rfl rfl) h0 hsz 0 rfl rfl
 have k1:=h1
 have lt1:∀ x∈p1,x.block<W.heap.size:=by obtain ⟨m,hm⟩:=k1;exact DataW.trod_lt m _ _ _ hm
 obtain ⟨a1,c1,l1,rfl,m1,n1,x1⟩:=Xal (hval 1 44 v1 rfl rfl) h1
 have k2:=h2
 have lt2:∀ x∈p2,x.block<W.heap.size:=by obtain ⟨m,hm⟩:=k2;exact DataW.trod_lt m _ _ _ hm
 obtain ⟨a2,c2,l2,rfl,m2,n2,x2⟩:=Xal (hval 2 44 v2 rfl rfl) h2
 clear hA0 hval0 hsz0 hsz
 refine (EvalTrees_walk W hg ht SA0 sc0 ss0 EA0 ec0 es0 s10 s20 e10 e20 s30 e30 s40 e40 a1 c1 l1 m1 n1 x1 a2 c2 l2 m2 n2 x2).mono fun e W' ⟨he,bel⟩ => ?_
 subst he
 exact ⟨_,rfl,_,_,_,[],_,[],hW',trodAll_mk1 (shut_bool Tryz.underlying4 _),(trodAll_cons_mk (Below.trod Zfd (by kernel_rfl) (of_decide_eq_true (by kernel_rfl)) k0 bel lt0) (trodAll_cons_mk (Below.trod Zfd (by kernel_rfl) (of_decide_eq_true (by kernel_rfl)) k1 bel lt1) (trodAll_cons_mk (Below.trod Zfd (by kernel_rfl) (of_decide_eq_true (by kernel_rfl)) k2 bel lt2) trodAll_mk0))),rfl,bel.frame _,fun h=>by cases h⟩
theorem up1:joinedFacts Tryz.pinned.checked.prog 8 Tryz.f8 (Rows.OpenSpec.upto Rows.evalTreesSpec).bare Rows.evalTreesUptoRow=true:=by kernel_rfl
theorem up2:Rows.evalTreesUptoRow.narrowed=(Rows.OpenSpec.upto Rows.evalTreesSpec).cond.isSome:=rfl
theorem up3 (os:Os) (started:os.Started) (H:Type) (enc:TypeId × Value→H) (F0:Stop.Interp):ReturnsInHanded Rows.evalTreesUptoRow.assume Tryz.pinned.checked os 8 .any (Rows.evalTreesUptoRow.pre enc Tryz.pinned.checked.prog Tryz.f8 (Rows.OpenSpec.upto Rows.evalTreesSpec)) (((Rows.OpenSpec.upto Rows.evalTreesSpec).at F0).post enc Tryz.pinned.checked.prog Tryz.f8 Rows.evalTreesUptoRow.apart Rows.evalTreesUptoRow.fresh Rows.evalTreesUptoRow.handsOn Rows.evalTreesUptoRow.again):=Zn2 os started H enc F0
theorem up4:Rows.evalTreesUptoRow.spec=(Rows.OpenSpec.upto Rows.evalTreesSpec).name:=rfl
theorem over:Rows.EvalTreesUptoSaid:=
 OpenClaim.holds_of_cond 8 Tryz.f8 rfl rfl up4 rfl rfl rfl rfl ⟨rfl,rfl,rfl,rfl,rfl⟩ rfl rfl rfl up2 rfl (by kernel_rfl) Tryz.func8 up1
  (of_decide_eq_true (by kernel_rfl)) (by unfold Func.isWrapper;first | (rw [if_pos (by decide +kernel)];kernel_rfl) | (rw [if_neg (by decide +kernel)];exact ⟨rfl,rfl⟩))
  (fun os started H enc _ F0=>up3 os started H enc F0)
theorem proved:Rows.EvalTreesUptoCardSaid:=
 Claim7.holds_tied_plain_at .later [] [.data,.data,.data,.handle,.sentinel,.sentinel] true Rows.evalTreesUptoCard.stood.harness true
  over (fun _ h=>by cases h) (by kernel_rfl) (fun _ h=>by cases h) evalTreesUpto_row_tie rfl ⟨rfl,rfl⟩ (by kernel_rfl) rfl
  (fun f fn hf hfn=>by
   obtain rfl:f=8:=Option.some.inj ((show Tryz.prog.funcNamed "twain/twainlaw15.EvalTrees"=some 8 by kernel_rfl).symm.trans hf) |>.symm
   obtain rfl:fn = Tryz.f8:=(Option.some.inj (Tryz.func8.symm.trans hfn)).symm
   exact ⟨by kernel_rfl,fun j t ht=>by
    rw [Tryz.params8] at ht
    have hm:t∈[26,44,44]:=List.mem_of_getElem? (by simpa using ht)
    have hall:∀ t∈[26,44,44],Tryz.prog.wantsStandIn t=false:=by
     intro t ht
     simp only [List.mem_cons,List.not_mem_nil,or_false] at ht
     rcases ht with rfl | rfl | rfl <;> kernel_rfl
    exact hall t hm⟩)
  (by kernel_rfl)
end Go.Proofs.YtghlnncfigkkaaaGreatDoor.lawEvalTrees
