/-
  Rows of statements and expressions as they are read; the reference's Ints. Rows of statements and expressions with any integers, as they are read.
-/
import Derived.Test.YtghlnncfigkkaaaGreatDoorQChkL
import Derived.Test.YtghlnncfigkkaaaGreatDoorQParM
import Derived.BigQuiet
namespace Go.Proofs.YtghlnncfigkkaaaGreatDoor
set_option linter.unusedVariables false
set_option linter.unusedSimpArgs false
open Go.RowKit
theorem Zaq {α β:Type} (f:α→List β) (k:Nat) (hf:∀ x,(f x).length=k):∀ (l:List α) (i j:Nat) (x:α),l[i]?=some x→j<k→(l.flatMap f)[i*k+j]?=(f x)[j]?
 | [],i,j,x,h,_=>by simp at h
 | y::l,0,j,x,h,hj=>by
  simp at h
  subst h
  rw [List.flatMap_cons,List.getElem?_append_left (by rw [hf];omega)]
  simp
 | y::l,i+1,j,x,h,hj=>by
  have hh:l[i]?=some x:=by simpa using h
  have ih:=Zaq f k hf l i j x hh hj
  have e0:(i+1)*k=i*k+k:=Nat.succ_mul i k
  rw [List.flatMap_cons,List.getElem?_append_right (by rw [hf];omega)]
  have e:(i+1)*k+j-(f y).length=i*k+j:=by rw [hf];omega
  rw [e,ih]
structure SmAt (w:World) (B b o:Nat) (x:Sm):Prop where
 c0:w.cell? ⟨b,o,none⟩=some (.int .i64 x.kind)
 c1:w.cell? ⟨b,o+1,none⟩=some (.int .i64 x.party)
 c2:w.cell? ⟨b,o+2,none⟩=some (.string x.name)
 c3:∃ A c,w.cell? ⟨b,o+3,none⟩=some (.slice A x.shape.length c)∧Rd w B A (x.shape.map I64)
 c4:w.cell? ⟨b,o+4,none⟩=some (.int .i64 x.expr)
 c5:w.cell? ⟨b,o+5,none⟩=some (.int .i64 x.pos)
structure ExAt (w:World) (B b o:Nat) (x:Ex):Prop where
 c0:w.cell? ⟨b,o,none⟩=some (.int .i64 x.kind)
 c1:w.cell? ⟨b,o+1,none⟩=some (.string x.name)
 c2:w.cell? ⟨b,o+2,none⟩=some (.int .u64 x.num)
 c3:∃ A c,w.cell? ⟨b,o+3,none⟩=some (.slice A x.args.length c)∧Rd w B A (x.args.map I64)
 c4:w.cell? ⟨b,o+4,none⟩=some (.int .i64 x.pos)
section
variable {w w':World} {B B' b o:Nat} {A:Option Addr} {x:Sm} {e:Ex} {l:List Sm} {m:List Ex}
theorem Zbm {w:World} {base k n c:Nat} {T:TypeId} {A:Option Addr} {xs:List Value} (h:w.ownsRow base T k (.slice A n c) n xs) (hn:0<n):
  ∃ g,A=some ⟨g,0,none⟩∧g<w.heap.size∧base≤g∧∀ (i:Nat) (v:Value),xs[i]?=some v→w.cell? ⟨g,i,none⟩=some v:=by
 rcases h.2 with ⟨hv,h0⟩ | ⟨g,cap',cur,hv,hb,hg,h1,h2,h3,h4⟩
 ·omega
 ·injection hv with a b c
  refine ⟨g,a,(Array.getElem?_eq_some_iff.1 hg).1,hb,fun i v hv => ?_⟩
  rw [cell_of_row w g i cur _ (0,0) hg]
  rw [←h4,List.getElem?_take] at hv
  split at hv
  ·simpa using hv
  ·cases hv
end
structure SIAt (w:World) (B b o:Nat) (x:SI):Prop where
 c0:w.cell? ⟨b,o,none⟩=some (.int .i64 x.kind)
 c1:w.cell? ⟨b,o+1,none⟩=some (.int .i64 x.party)
 c2:w.cell? ⟨b,o+2,none⟩=some (.string x.name)
 c3:∃ A c,w.cell? ⟨b,o+3,none⟩=some (.slice A x.shape.length c)∧Rd w B A (x.shape.map VI)∧x.shape.length≤9223372036854775807∧x.shape.length≤c∧c≤9223372036854775807
 c4:w.cell? ⟨b,o+4,none⟩=some (.int .i64 x.expr)
 c5:w.cell? ⟨b,o+5,none⟩=some (.int .i64 x.pos)
structure EIAt (w:World) (B b o:Nat) (x:EI):Prop where
 c0:w.cell? ⟨b,o,none⟩=some (.int .i64 x.kind)
 c1:w.cell? ⟨b,o+1,none⟩=some (.string x.name)
 c2:w.cell? ⟨b,o+2,none⟩=some (.int .u64 x.num)
 c3:∃ A c,w.cell? ⟨b,o+3,none⟩=some (.slice A x.args.length c)∧Rd w B A (x.args.map VI)∧x.args.length≤9223372036854775807∧x.args.length≤c∧c≤9223372036854775807
 c4:w.cell? ⟨b,o+4,none⟩=some (.int .i64 x.pos)
def RdSI (w:World) (B:Nat) (A:Option Addr) (l:List SI):Prop:=l=[]∨∃ b o,A=some ⟨b,o,none⟩∧b<B∧∀ i x,l[i]?=some x→SIAt w B b (o+i*6) x
def RdEI (w:World) (B:Nat) (A:Option Addr) (l:List EI):Prop:=l=[]∨∃ b o,A=some ⟨b,o,none⟩∧b<B∧∀ i x,l[i]?=some x→EIAt w B b (o+i*5) x
section
variable {w w':World} {B B' b o:Nat} {A:Option Addr} {x:SI} {e:EI} {l:List SI} {m:List EI}
theorem SIAt.keep (h:SIAt w B b o x) (hb:b<B) (hk:∀ p:Addr,p.block<B→w'.cell? p=w.cell? p):SIAt w' B b o x:=by
 obtain ⟨c0,c1,c2,⟨A,c,c3,c3',c3n⟩,c4,c5⟩:=h
 exact ⟨(hk ⟨b,_,none⟩ hb).trans c0,(hk ⟨b,_,none⟩ hb).trans c1,(hk ⟨b,_,none⟩ hb).trans c2,⟨A,c,(hk ⟨b,_,none⟩ hb).trans c3,c3'.keep hk,c3n⟩,(hk ⟨b,_,none⟩ hb).trans c4,(hk ⟨b,_,none⟩ hb).trans c5⟩
theorem SIAt.more (h:SIAt w B b o x) (hB:B≤B'):SIAt w B' b o x:=by
 obtain ⟨c0,c1,c2,⟨A,c,c3,c3',c3n⟩,c4,c5⟩:=h
 exact ⟨c0,c1,c2,⟨A,c,c3,c3'.more hB,c3n⟩,c4,c5⟩
theorem EIAt.keep (h:EIAt w B b o e) (hb:b<B) (hk:∀ p:Addr,p.block<B→w'.cell? p=w.cell? p):EIAt w' B b o e:=by
 obtain ⟨c0,c1,c2,⟨A,c,c3,c3',c3n⟩,c4⟩:=h
 exact ⟨(hk ⟨b,_,none⟩ hb).trans c0,(hk ⟨b,_,none⟩ hb).trans c1,(hk ⟨b,_,none⟩ hb).trans c2,⟨A,c,(hk ⟨b,_,none⟩ hb).trans c3,c3'.keep hk,c3n⟩,(hk ⟨b,_,none⟩ hb).trans c4⟩
theorem EIAt.more (h:EIAt w B b o e) (hB:B≤B'):EIAt w B' b o e:=by
 obtain ⟨c0,c1,c2,⟨A,c,c3,c3',c3n⟩,c4⟩:=h
 exact ⟨c0,c1,c2,⟨A,c,c3,c3'.more hB,c3n⟩,c4⟩
theorem RdSI.keep (h:RdSI w B A l) (hk:∀ p:Addr,p.block<B→w'.cell? p=w.cell? p):RdSI w' B A l:=by
 rcases h with h | ⟨b,o,hA,hb,hc⟩
 ·exact .inl h
 ·exact .inr ⟨b,o,hA,hb,fun i x hx=>(hc i x hx).keep hb hk⟩
theorem RdEI.keep (h:RdEI w B A m) (hk:∀ p:Addr,p.block<B→w'.cell? p=w.cell? p):RdEI w' B A m:=by
 rcases h with h | ⟨b,o,hA,hb,hc⟩
 ·exact .inl h
 ·exact .inr ⟨b,o,hA,hb,fun i x hx=>(hc i x hx).keep hb hk⟩
theorem RdSI.more (h:RdSI w B A l) (hB:B≤B'):RdSI w B' A l:=by
 rcases h with h | ⟨b,o,hA,hb,hc⟩
 ·exact .inl h
 ·exact .inr ⟨b,o,hA,Nat.lt_of_lt_of_le hb hB,fun i x hx=>(hc i x hx).more hB⟩
theorem RdEI.more (h:RdEI w B A m) (hB:B≤B'):RdEI w B' A m:=by
 rcases h with h | ⟨b,o,hA,hb,hc⟩
 ·exact .inl h
 ·exact .inr ⟨b,o,hA,Nat.lt_of_lt_of_le hb hB,fun i x hx=>(hc i x hx).more hB⟩
theorem RdSI.below (h:RdSI w B A l) (hb:Below B w w'):RdSI w' B A l:=h.keep fun _ hp=>hb.cell hp
theorem RdEI.below (h:RdEI w B A m) (hb:Below B w w'):RdEI w' B A m:=h.keep fun _ hp=>hb.cell hp
theorem RdSI.next (h:RdSI w w.heap.size A l) (hb:Below w.heap.size w w'):RdSI w' w'.heap.size A l:=(h.below hb).more hb.size
theorem RdEI.next (h:RdEI w w.heap.size A m) (hb:Below w.heap.size w w'):RdEI w' w'.heap.size A m:=(h.below hb).more hb.size
theorem RdSI.at_ (h:RdSI w B A l) {i:Nat} (hi:l[i]?=some x):∃ b o,A=some ⟨b,o,none⟩∧b<B∧SIAt w B b (o+i*6) x:=by
 rcases h with rfl | ⟨b,o,hA,hb,hc⟩
 ·simp at hi
 ·exact ⟨b,o,hA,hb,hc i x hi⟩
theorem RdEI.at_ (h:RdEI w B A m) {i:Nat} (hi:m[i]?=some e):∃ b o,A=some ⟨b,o,none⟩∧b<B∧EIAt w B b (o+i*5) e:=by
 rcases h with rfl | ⟨b,o,hA,hb,hc⟩
 ·simp at hi
 ·exact ⟨b,o,hA,hb,hc i e hi⟩
end
def SI.of (x:Sm):SI:=⟨x.kind,x.party,x.name,x.shape.map Int.ofNat,x.expr,x.pos⟩
def EI.of (x:Ex):EI:=⟨x.kind,x.name,x.num,x.args.map Int.ofNat,x.pos⟩
theorem vi_of (l:List Nat):(l.map Int.ofNat).map VI=l.map I64:=by rw [List.map_map];rfl
theorem Zfl {w:World} {base c:Nat} {e:TypeId} {A:Option Addr} {xs:List Value} (h:Own w base e A c xs):xs.length≤9223372036854775807∧xs.length≤c∧c≤9223372036854775807:=by
 rcases h.2 with ⟨hv,hn⟩ | ⟨g,cap',cur,hv,hb,hg,h1,h2,h3,h4⟩
 ·injection hv with a b c
  omega
 ·injection hv with a b c
  simp only [maxLen] at h2
  omega
theorem ArgsV.int {X:Nat→Prop} {base:Nat} {w:World} {v:Value} {l:List Nat} (h:ArgsV X base w v l):∃ A c,v=.slice A (l.map Int.ofNat).length c∧Rd w w.heap.size A ((l.map Int.ofNat).map VI)∧(l.map Int.ofNat).length≤9223372036854775807∧(l.map Int.ofNat).length≤c∧c≤9223372036854775807:=by
 obtain ⟨A,c,h1,h2,_⟩:=h
 have hc:=Zfl h2
 rw [List.length_map] at hc
 refine ⟨A,c,by rw [List.length_map];exact h1,by rw [vi_of];exact h2.rd,?_⟩
 rw [List.length_map]
 exact hc
theorem OwnSX.int {X:Nat→Prop} {w:World} {base c:Nat} {A:Option Addr} {l:List Sm} (h:OwnSX X w base A c l):RdSI w w.heap.size A (l.map SI.of):=by
 obtain ⟨ms,h1,h2,h3⟩:=h
 by_cases hl:l=[]
 ·subst hl
  exact .inl rfl
 ·obtain ⟨g,hA,hg,_,hc⟩:=Zbm h2 (List.length_pos_iff.2 hl)
  refine .inr ⟨g,0,hA,hg,fun i x hx => ?_⟩
  subst h1
  rw [List.getElem?_map,Option.map_eq_some_iff] at hx
  obtain ⟨y,hy,rfl⟩:=hx
  rw [List.getElem?_map,Option.map_eq_some_iff] at hy
  obtain ⟨m,hm,rfl⟩:=hy
  have key:∀ j v,(Zc6 m)[j]?=some v→j<6→w.cell? ⟨g,0+i*6+j,none⟩=some v:=fun j v hv hj=>by
   rw [Nat.zero_add]
   exact hc _ v ((Zaq Zc6 6 (fun _=>rfl) ms i j m hm hj).trans hv)
  obtain ⟨A',c',e1,e2⟩:=(h3 m (List.mem_of_getElem? hm)).int
  exact ⟨key 0 _ rfl (by omega),key 1 _ rfl (by omega),key 2 _ rfl (by omega),⟨A',c',by rw [show (SI.of m.1).shape=m.1.shape.map Int.ofNat from rfl,←e1];exact key 3 _ rfl (by omega),e2⟩,key 4 _ rfl (by omega),key 5 _ rfl (by omega)⟩
theorem OwnEX.int {X:Nat→Prop} {w:World} {base c:Nat} {A:Option Addr} {l:List Ex} (h:OwnEX X w base A c l):RdEI w w.heap.size A (l.map EI.of):=by
 obtain ⟨ms,h1,h2,h3,_⟩:=h
 by_cases hl:l=[]
 ·subst hl
  exact .inl rfl
 ·obtain ⟨g,hA,hg,_,hc⟩:=Zbm h2 (List.length_pos_iff.2 hl)
  refine .inr ⟨g,0,hA,hg,fun i x hx => ?_⟩
  subst h1
  rw [List.getElem?_map,Option.map_eq_some_iff] at hx
  obtain ⟨y,hy,rfl⟩:=hx
  rw [List.getElem?_map,Option.map_eq_some_iff] at hy
  obtain ⟨m,hm,rfl⟩:=hy
  have key:∀ j v,(Zc5 m)[j]?=some v→j<5→w.cell? ⟨g,0+i*5+j,none⟩=some v:=fun j v hv hj=>by
   rw [Nat.zero_add]
   exact hc _ v ((Zaq Zc5 5 (fun _=>rfl) ms i j m hm hj).trans hv)
  obtain ⟨A',c',e1,e2⟩:=(h3 m (List.mem_of_getElem? hm)).int
  exact ⟨key 0 _ rfl (by omega),key 1 _ rfl (by omega),key 2 _ rfl (by omega),⟨A',c',by rw [show (EI.of m.1).args=m.1.args.map Int.ofNat from rfl,←e1];exact key 3 _ rfl (by omega),e2⟩,key 4 _ rfl (by omega)⟩
end Go.Proofs.YtghlnncfigkkaaaGreatDoor
