/-
 The parser's state in memory: what stands where, and what the parser's own functions leave of everything else.
-/
import Derived.Test.YtghlnncfigkkaaaGreatDoorQParL
import Derived.Test.YtghlnncfigkkaaaGreatDoorQAsE
namespace Go.Proofs.YtghlnncfigkkaaaGreatDoor
set_option linter.unusedVariables false
set_option linter.unusedSimpArgs false
open Go.RowKit
def ZnB:Obj→Prop
 | .cells _ t _=>t≠160∧t≠90
 | _=>True
structure KT (base:Nat) (w w':World):Prop where
 os:w'.os=w.os
 tape:w'.tape=w.tape
 output:w'.output=w.output
 size:w.heap.size≤w'.heap.size
 block:∀ k o,w.heap[k]?=some o→k<base∨ZnB o→w'.heap[k]?=some o
 stm:∀ (k:Nat) (cs:Array Value),w.heap[k]?=some (.cells cs 160 (0,0))→∃ cs':Array Value,w'.heap[k]?=some (.cells cs' 160 (0,0))∧cs'[2]?=cs[2]?
theorem KT.refl (base:Nat) (w:World):KT base w w:=⟨rfl,rfl,rfl,Kag _,fun _ _ h _=>h,fun k cs h=>⟨cs,h,rfl⟩⟩
theorem KT.trans {base:Nat} {a b c:World} (h:KT base a b) (k:KT base b c):KT base a c:=
 ⟨k.os.trans h.os,k.tape.trans h.tape,k.output.trans h.output,Kah h.size k.size,fun i o hi hp=>k.block i o (h.block i o hi hp) hp,fun i cs hi=>by
  obtain ⟨c1,h1,e1⟩:=h.stm i cs hi
  obtain ⟨c2,h2,e2⟩:=k.stm i c1 h1
  exact ⟨c2,h2,e2.trans e1⟩⟩
theorem KT.below {base:Nat} {w w':World} (h:Below w.heap.size w w'):KT base w w':=
 ⟨h.os,h.tape,h.output,h.size,fun k o hk _=>(h.block k (Kab.1 hk).1).trans hk,fun k cs hk=>⟨cs,(h.block k (Kab.1 hk).1).trans hk,rfl⟩⟩
theorem KT.toBelow {base:Nat} {w w':World} (h:KT base w w') (hb:base≤w.heap.size):Below base w w':=
 ⟨h.os,h.tape,h.output,h.size,fun k hk=>by
  have e:w.heap[k]?=some (w.heap[k]'(by omega)):=Array.getElem?_eq_getElem _
  rw [e]
  exact h.block k _ e (.inl hk)⟩
theorem Zap (w:World) (t:Addr) (v:Value) {k:Nat} (h:k≠t.block):(w.setCell t v).heap[k]?=w.heap[k]?:=Below.heap_setCell w t v k h
theorem KT.set {base:Nat} {w:World} {t:Addr} {cs:Array Value} {T:TypeId} {fr:Nat × Nat} (hp:w.heap[t.block]?=some (.cells cs T fr)) (hb:base≤t.block) (hT:T=160) (v:Value) (hs:t.spot=none) (h2:t.off≠2):KT base w (w.setCell t v):=
 ⟨rfl,rfl,rfl,by simp [World.setCell],fun k o hk h=>by
  by_cases e:k=t.block
  ·subst e
   rw [hp] at hk
   injection hk with hk
   subst hk
   rcases h with h | h
   ·omega
   ·exact absurd hT h.1
  ·rw [Zap _ _ _ e]
   exact hk,fun k cs' hk=>by
  by_cases e:k=t.block
  ·subst e
   obtain ⟨b,o,sp⟩:=t
   obtain rfl:sp=none:=hs
   exact ⟨cs'.setIfInBounds o v,heap_setCell_same _ _ _ _ _ _ hk,by rw [Array.getElem?_setIfInBounds];exact if_neg h2⟩
  ·exact ⟨cs',by rw [Zap _ _ _ e];exact hk,rfl⟩⟩
theorem KT.grown {base:Nat} {w w':World} {A:Option Addr} {T:TypeId} (hg:w.grownBy w' (blk A)) (hT:T=90) (hA:A=none∨∃ g cur,A=some ⟨g,0,none⟩∧base≤g∧w.heap[g]?=some (.cells cur T (0,0))):KT base w w':=
 ⟨hg.os,hg.tape,hg.output,hg.size,fun k o hk h=>by
  have hlt:=(Kab.1 hk).1
  rcases hA with rfl | ⟨g,cur,rfl,hb,hc⟩
  ·rw [hg.block k hlt (by simp [blk])];exact hk
  ·by_cases e:k=g
   ·subst e
    rw [hc] at hk
    injection hk with hk
    subst hk
    rcases h with h | h
    ·omega
    ·exact absurd hT h.2
   ·rw [hg.block k hlt (by simp [blk];exact fun e'=>e (by omega))];exact hk,fun k cs hk=>by
  have hlt:=(Kab.1 hk).1
  refine ⟨cs,?_,rfl⟩
  rcases hA with rfl | ⟨g,cur,rfl,hb,hc⟩
  ·rw [hg.block k hlt (by simp [blk])];exact hk
  ·rw [hg.block k hlt (by
    simp [blk]
    rintro rfl
    rw [hc] at hk
    injection hk with hk
    injection hk with _ hk _
    rw [hT] at hk
    exact absurd hk (by decide))]
   exact hk⟩
def I64 (n:Nat):Value:=.int .i64 (n:Int)
theorem Zhr {w:World} {b cap:Nat} {A:Option Addr} {xs:List Value} (h:Own w b 3 A cap xs):A=none∨∃ g cur,A=some ⟨g,0,none⟩∧b≤g∧w.heap[g]?=some (.cells cur 3 (0,0)):=by
 rcases h.form with ⟨h1,_⟩ | ⟨g,cur,h1,h2,h3,_⟩
 ·exact .inl h1
 ·exact .inr ⟨g,cur,h1,h2,h3⟩
theorem Zhs {w w':World} {b cap:Nat} {A:Option Addr} {xs:List Value} (h:Own w b 3 A cap xs) (hk:∀ g cur,A=some ⟨g,0,none⟩→w.heap[g]?=some (.cells cur 3 (0,0))→w'.heap[g]?=some (.cells cur 3 (0,0))):Own w' b 3 A cap xs:=by
 refine ⟨h.1,?_⟩
 rcases h.2 with hv | ⟨g,cap',cur,hv,hb1,hg,r⟩
 ·exact .inl hv
 ·have e:A=some ⟨g,0,none⟩:=by injection hv
  exact .inr ⟨g,cap',cur,hv,hb1,hk g cur e hg,r⟩
theorem ZbM {base:Nat} {w w':World} {b cap:Nat} {A:Option Addr} {xs:List Value} (h:Own w b 3 A cap xs) (hk:KT base w w'):Own w' b 3 A cap xs:=
 Zhs h (fun g _ _ hg=>hk.block g _ hg (.inr ⟨by decide,by decide⟩))
def ArgsV (X:Nat→Prop) (base:Nat) (w:World) (v:Value) (l:List Nat):Prop:=∃ A c,v=.slice A l.length c∧Own w base 3 A c (l.map I64)∧∀ k,blk A=some k→¬ X k
theorem ArgsV.kt {X:Nat→Prop} {base b:Nat} {w w':World} {v:Value} {l:List Nat} (h:ArgsV X b w v l) (hk:KT base w w'):ArgsV X b w' v l:=by
 obtain ⟨A,c,h1,h2,h3⟩:=h
 exact ⟨A,c,h1,ZbM h2 hk,h3⟩
theorem ArgsV.keep {X:Nat→Prop} {b:Nat} {w w':World} {v:Value} {l:List Nat} (h:ArgsV X b w v l) (hk:∀ g cur,¬ X g→w.heap[g]?=some (.cells cur 3 (0,0))→w'.heap[g]?=some (.cells cur 3 (0,0))):ArgsV X b w' v l:=by
 obtain ⟨A,c,h1,h2,h3⟩:=h
 exact ⟨A,c,h1,Zhs h2 (fun g cur hA hg=>hk g cur (h3 g (by rw [hA];rfl)) hg),h3⟩
theorem ArgsV.re {X Y:Nat→Prop} {b:Nat} {w:World} {v:Value} {l:List Nat} (h:ArgsV X b w v l) (hY:∀ k,Y k→X k∨w.heap.size≤k):ArgsV Y b w v l:=by
 obtain ⟨A,c,h1,h2,h3⟩:=h
 refine ⟨A,c,h1,h2,fun k hk hy => ?_⟩
 rcases hY k hy with h4 | h4
 ·exact h3 k hk h4
 ·have:=(h2.lt k hk).2
  omega
theorem ArgsV.nil (X:Nat→Prop) (base:Nat) (w:World):ArgsV X base w (.slice none 0 0) []:=⟨none,0,rfl,Own.nil _ _ _,fun k hk=>by cases hk⟩
def vA:Value→Option Addr
 | .slice A _ _=>A
 | _=>none
def XA (X:Nat→Prop) (A:Option Addr):Nat→Prop:=fun k=>X k∨blk A=some k
def noX:Nat→Prop:=fun _=>False
theorem IsErr.kt {base:Nat} {w w':World} (hk:KT base w w'):∀ {l:List (ByteArray × Int)} {v:Value} {code:Int},IsErr w v l code→IsErr w' v l code:=by
 intro l
 induction l with
 | nil=>intro v code h;exact h
 | cons p r ih=>
  intro v code h
  obtain ⟨a,inner,rfl,hc,hi⟩:=h
  exact ⟨a,inner,rfl,hk.block a _ hc (.inr ⟨by decide,by decide⟩),ih hi⟩
def Zc5 (m:Ex × Value):List Value:=[.int .i64 m.1.kind,.string m.1.name,.int .u64 m.1.num,m.2,.int .i64 m.1.pos]
def Zc6 (m:Sm × Value):List Value:=[.int .i64 m.1.kind,.int .i64 m.1.party,.string m.1.name,m.2,.int .i64 m.1.expr,.int .i64 m.1.pos]
def OwnEX (X:Nat→Prop) (w:World) (base:Nat) (A:Option Addr) (c:Nat) (es:List Ex):Prop:=
 ∃ ms:List (Ex × Value),ms.map Prod.fst=es∧w.ownsRow base 90 5 (.slice A es.length c) es.length (ms.flatMap Zc5)∧(∀ m∈ms,ArgsV X base w m.2 m.1.args)∧ms.Pairwise fun a b=>∀ k,blk (vA a.2)=some k→blk (vA b.2)≠some k
def OwnSX (X:Nat→Prop) (w:World) (base:Nat) (A:Option Addr) (c:Nat) (ss:List Sm):Prop:=
 ∃ ms:List (Sm × Value),ms.map Prod.fst=ss∧w.ownsRow base 93 6 (.slice A ss.length c) ss.length (ms.flatMap Zc6)∧∀ m∈ms,ArgsV X base w m.2 m.1.shape
abbrev OwnE (w:World) (base:Nat) (A:Option Addr) (c:Nat) (es:List Ex):Prop:=OwnEX noX w base A c es
abbrev OwnS (w:World) (base:Nat) (A:Option Addr) (c:Nat) (ss:List Sm):Prop:=OwnSX noX w base A c ss
theorem Zcs {w:World} {base size n c:Nat} {T:TypeId} {A:Option Addr} {xs:List Value} (h:w.ownsRow base T size (.slice A n c) n xs):A=none∨∃ g cur,A=some ⟨g,0,none⟩∧base≤g∧w.heap[g]?=some (.cells cur T (0,0)):=by
 rcases h.2 with ⟨hv,_⟩ | ⟨g,cap',cur,hv,hb,hg,_⟩
 ·injection hv with a b c
  exact .inl a
 ·injection hv with a b c
  exact .inr ⟨g,cur,a,hb,hg⟩
theorem ZdC {w w':World} {base size n c:Nat} {T:TypeId} {A:Option Addr} {xs:List Value} (h:w.ownsRow base T size (.slice A n c) n xs) (hk:∀ g cur,A=some ⟨g,0,none⟩→w.heap[g]?=some (.cells cur T (0,0))→w'.heap[g]?=some (.cells cur T (0,0))):w'.ownsRow base T size (.slice A n c) n xs:=by
 refine ⟨h.1,?_⟩
 rcases h.2 with hv | ⟨g,cap',cur,hv,hb1,hg,r⟩
 ·exact .inl hv
 ·have e:A=some ⟨g,0,none⟩:=by injection hv
  exact .inr ⟨g,cap',cur,hv,hb1,hk g cur e hg,r⟩
theorem OwnEX.keep {X:Nat→Prop} {w w':World} {base base' c:Nat} {A:Option Addr} {es:List Ex} (h:OwnEX X w base A c es) (ha:KT base' w w') (hk:∀ g cur,A=some ⟨g,0,none⟩→w.heap[g]?=some (.cells cur 90 (0,0))→w'.heap[g]?=some (.cells cur 90 (0,0))):OwnEX X w' base A c es:=by
 obtain ⟨ms,h1,h2,h3,h4⟩:=h
 exact ⟨ms,h1,ZdC h2 hk,fun m hm=>(h3 m hm).kt ha,h4⟩
theorem OwnSX.kt {X:Nat→Prop} {w w':World} {base base' c:Nat} {A:Option Addr} {ss:List Sm} (h:OwnSX X w base A c ss) (ha:KT base' w w'):OwnSX X w' base A c ss:=by
 obtain ⟨ms,h1,h2,h3⟩:=h
 exact ⟨ms,h1,ZdC h2 (fun g cur _ hg=>ha.block g _ hg (.inr ⟨by decide,by decide⟩)),fun m hm=>(h3 m hm).kt ha⟩
theorem OwnEX.keep' {X:Nat→Prop} {w w':World} {base c:Nat} {A:Option Addr} {es:List Ex} (h:OwnEX X w base A c es) (hi:∀ g cur,¬ X g→w.heap[g]?=some (.cells cur 3 (0,0))→w'.heap[g]?=some (.cells cur 3 (0,0))) (hk:∀ g cur,A=some ⟨g,0,none⟩→w.heap[g]?=some (.cells cur 90 (0,0))→w'.heap[g]?=some (.cells cur 90 (0,0))):OwnEX X w' base A c es:=by
 obtain ⟨ms,h1,h2,h3,h4⟩:=h
 exact ⟨ms,h1,ZdC h2 hk,fun m hm=>(h3 m hm).keep hi,h4⟩
theorem OwnSX.keep' {X:Nat→Prop} {w w':World} {base c:Nat} {A:Option Addr} {ss:List Sm} (h:OwnSX X w base A c ss) (hi:∀ g cur,¬ X g→w.heap[g]?=some (.cells cur 3 (0,0))→w'.heap[g]?=some (.cells cur 3 (0,0))) (hk:∀ g cur,A=some ⟨g,0,none⟩→w.heap[g]?=some (.cells cur 93 (0,0))→w'.heap[g]?=some (.cells cur 93 (0,0))):OwnSX X w' base A c ss:=by
 obtain ⟨ms,h1,h2,h3⟩:=h
 exact ⟨ms,h1,ZdC h2 hk,fun m hm=>(h3 m hm).keep hi⟩
theorem OwnEX.re {X Y:Nat→Prop} {w:World} {base c:Nat} {A:Option Addr} {es:List Ex} (h:OwnEX X w base A c es) (hY:∀ k,Y k→X k∨w.heap.size≤k):OwnEX Y w base A c es:=by
 obtain ⟨ms,h1,h2,h3,h4⟩:=h
 exact ⟨ms,h1,h2,fun m hm=>(h3 m hm).re hY,h4⟩
theorem OwnSX.re {X Y:Nat→Prop} {w:World} {base c:Nat} {A:Option Addr} {ss:List Sm} (h:OwnSX X w base A c ss) (hY:∀ k,Y k→X k∨w.heap.size≤k):OwnSX Y w base A c ss:=by
 obtain ⟨ms,h1,h2,h3⟩:=h
 exact ⟨ms,h1,h2,fun m hm=>(h3 m hm).re hY⟩
theorem OwnEX.nil (X:Nat→Prop) (w:World) (base:Nat):OwnEX X w base none 0 []:=⟨[],rfl,World.ownsRow_nil w base _ 5,by simp,List.Pairwise.nil⟩
theorem OwnSX.nil (X:Nat→Prop) (w:World) (base:Nat):OwnSX X w base none 0 []:=⟨[],rfl,World.ownsRow_nil w base _ 6,by simp⟩
def parN:ByteArray:={ data:=#[112,97,114,115,101] }
def ErrV (w:World) (v:Value):Option (Nat × Nat)→Prop
 | none=>v=.nilIface
 | some (c,p)=>IsErr w v [(parN,(p:Int))] (c:Int)
theorem ErrV.kt {base:Nat} {w w':World} {v:Value}:∀ {e:Option (Nat × Nat)},ErrV w v e→KT base w w'→ErrV w' v e
 | none,h,_=>h
 | some (c,p),h,hk=>IsErr.kt hk h
def Sep (X:Nat→Prop) (w:World) (base:Nat) (SA:Option Addr) (sc:Nat) (ss:List Sm) (EA:Option Addr) (ec:Nat) (es:List Ex):Prop:=
 ∃ Z:Nat→Prop,OwnSX (fun k=>X k∨Z k) w base SA sc ss∧OwnEX (fun k=>X k∨¬ Z k) w base EA ec es
theorem Sep.map {X:Nat→Prop} {w w':World} {base base' sc ec:Nat} {SA EA:Option Addr} {ss:List Sm} {es:List Ex} (h:Sep X w base SA sc ss EA ec es) (fS:∀ Y,(∀ k,X k→Y k)→OwnSX Y w base SA sc ss→OwnSX Y w' base' SA sc ss) (fE:∀ Y,(∀ k,X k→Y k)→OwnEX Y w base EA ec es→OwnEX Y w' base' EA ec es):Sep X w' base' SA sc ss EA ec es:=by
 obtain ⟨Z,a,b⟩:=h
 exact ⟨Z,fS _ (fun k hk=>.inl hk) a,fE _ (fun k hk=>.inl hk) b⟩
theorem Sep.re {X Y:Nat→Prop} {w:World} {base sc ec:Nat} {SA EA:Option Addr} {ss:List Sm} {es:List Ex} (h:Sep X w base SA sc ss EA ec es) (hY:∀ k,Y k→X k∨w.heap.size≤k):Sep Y w base SA sc ss EA ec es:=by
 obtain ⟨Z,a,b⟩:=h
 exact ⟨Z,a.re fun k hk=>hk.elim (fun h=>(hY k h).imp_left .inl) (fun h=>.inl (.inr h)),b.re fun k hk=>hk.elim (fun h=>(hY k h).imp_left .inl) (fun h=>.inl (.inr h))⟩
theorem Sep.nil (X:Nat→Prop) (w:World) (base:Nat):Sep X w base none 0 [] none 0 []:=⟨fun _=>False,OwnSX.nil _ _ _,OwnEX.nil _ _ _⟩
def PRow (TA:Option Addr) (n tc:Nat) (i:Nat) (S E:Value) (deep:Nat) (ev:Value):Array Value:=#[.slice TA n tc,.int .i64 i,S,E,.int .i64 deep,ev]
structure PR (X:Nat→Prop) (base P:Nat) (TA:Option Addr) (tc:Nat) (L:List Tok) (s:PS) (w:World) (SA:Option Addr) (sc:Nat) (EA:Option Addr) (ec:Nat) (ev:Value):Prop where
 hb:base≤P
 blk:w.heap[P]?=some (.cells (PRow TA L.length tc s.i (.slice SA s.ss.length sc) (.slice EA s.es.length ec) s.deep ev) 160 (0,0))
 ownS:OwnSX X w base SA sc s.ss
 ownE:OwnEX X w base EA ec s.es
 err:ErrV w ev s.err
 toks:RdT w base TA L
 ety:ETyped w
 etb:0<base
 len:L.length≤1000
 ii:s.i≤L.length
 dd:s.deep≤32
 el:s.es.length≤s.i
 sl:s.ss.length≤65
 xx:∀ k,X k→k<w.heap.size
 sep:Sep X w base SA sc s.ss EA ec s.es
def PM (X:Nat→Prop) (base P:Nat) (TA:Option Addr) (tc:Nat) (L:List Tok) (s:PS) (w:World):Prop:=∃ SA sc EA ec ev,PR X base P TA tc L s w SA sc EA ec ev
section
variable {X:Nat→Prop} {base P tc:Nat} {TA:Option Addr} {L:List Tok} {s:PS} {w w':World} {SA EA:Option Addr} {sc ec:Nat} {ev:Value}
theorem PR.lt (h:PR X base P TA tc L s w SA sc EA ec ev):P<w.heap.size:=(Kab.1 h.blk).1
theorem PR.base_le (h:PR X base P TA tc L s w SA sc EA ec ev):base≤w.heap.size:=by have:=h.lt;have:=h.hb;omega
theorem Zht (h:ETyped w) (hb:0<base) (hk:KT base w w'):ETyped w':=by
 unfold ETyped at h ⊢
 have hlt:=World.block_lt_of_cell? w _ h
 have e:w.heap[0]?=some (w.heap[0]'hlt):=Array.getElem?_eq_getElem _
 rw [←h]
 exact World.cell?_of_block ((hk.block _ _ e (.inl hb)).trans e.symm)
theorem PR.xk (h:PR X base P TA tc L s w SA sc EA ec ev) (hk:KT base w w'):∀ k,X k→k<w'.heap.size:=fun k hx=>Kae (h.xx k hx) hk.size
theorem PR.re {Y:Nat→Prop} (h:PR X base P TA tc L s w SA sc EA ec ev) (hY:∀ k,Y k→X k):PR Y base P TA tc L s w SA sc EA ec ev:=
 ⟨h.hb,h.blk,h.ownS.re fun k hk=>.inl (hY k hk),h.ownE.re fun k hk=>.inl (hY k hk),h.err,h.toks,h.ety,h.etb,h.len,h.ii,h.dd,h.el,h.sl,fun k hk=>h.xx k (hY k hk),h.sep.re fun k hk=>.inl (hY k hk)⟩
theorem PR.below (h:PR X base P TA tc L s w SA sc EA ec ev) (hb:Below w.heap.size w w'):PR X base P TA tc L s w' SA sc EA ec ev:=
 ⟨h.hb,(hb.block P h.lt).trans h.blk,h.ownS.kt (KT.below (base:=base) hb),
  h.ownE.keep (KT.below (base:=base) hb) (fun g cur _ hg=>(hb.block g (Kab.1 hg).1).trans hg),h.err.kt (KT.below (base:=base) hb),
  h.toks.below (hb.mono h.base_le),Zht h.ety h.etb (KT.below hb),h.etb,h.len,h.ii,h.dd,h.el,h.sl,fun k hk=>Kae (h.xx k hk) hb.size,h.sep.map (fun _ _ a=>a.kt (KT.below (base:=base) hb)) (fun _ _ a=>a.keep (KT.below (base:=base) hb) (fun g cur _ hg=>(hb.block g (Kab.1 hg).1).trans hg))⟩
theorem Zj7 (TA:Option Addr) (n tc i:Nat) (S E:Value) (deep:Nat) (ev:Value) (j:Nat):(PRow TA n tc i S E deep ev).setIfInBounds 1 (.int .i64 (j:Int))=PRow TA n tc j S E deep ev:=rfl
theorem Zj8 (TA:Option Addr) (n tc i:Nat) (S E:Value) (deep:Nat) (ev E':Value):(PRow TA n tc i S E deep ev).setIfInBounds 3 E'=PRow TA n tc i S E' deep ev:=rfl
theorem Zj9 (TA:Option Addr) (n tc i:Nat) (S E:Value) (deep:Nat) (ev S':Value):(PRow TA n tc i S E deep ev).setIfInBounds 2 S'=PRow TA n tc i S' E deep ev:=rfl
theorem ZjA (TA:Option Addr) (n tc i:Nat) (S E:Value) (deep:Nat) (ev:Value) (j:Nat):(PRow TA n tc i S E deep ev).setIfInBounds 4 (.int .i64 (j:Int))=PRow TA n tc i S E j ev:=rfl
theorem ZjB (TA:Option Addr) (n tc i:Nat) (S E:Value) (deep:Nat) (ev ev':Value):(PRow TA n tc i S E deep ev).setIfInBounds 5 ev'=PRow TA n tc i S E deep ev':=rfl
theorem PR.store (h:PR X base P TA tc L s w SA sc EA ec ev) (k:Nat) (v:Value) (hk2:k≠2):KT base w (w.setCell ⟨P,k,none⟩ v)∧OwnSX X (w.setCell ⟨P,k,none⟩ v) base SA sc s.ss∧OwnEX X (w.setCell ⟨P,k,none⟩ v) base EA ec s.es∧RdT (w.setCell ⟨P,k,none⟩ v) base TA L∧ETyped (w.setCell ⟨P,k,none⟩ v) ∧
  (w.setCell ⟨P,k,none⟩ v).heap[P]?=some (.cells ((PRow TA L.length tc s.i (.slice SA s.ss.length sc) (.slice EA s.es.length ec) s.deep ev).setIfInBounds k v) 160 (0,0)):=by
 have hk:KT base w (w.setCell ⟨P,k,none⟩ v):=KT.set (t:=⟨P,k,none⟩) h.blk h.hb rfl v rfl hk2
 refine ⟨hk,h.ownS.kt hk,h.ownE.keep hk ?_,h.toks.below (hk.toBelow h.base_le),Zht h.ety h.etb hk,heap_setCell_same _ _ _ _ _ _ h.blk⟩
 ·intro g cur _ hg
  rw [Zap _ _ _ (fun e=>by
   have e':g=P:=e
   subst e'
   have hb:=h.blk
   rw [hg] at hb
   injection hb with hb
   injection hb with _ hb _
   exact absurd hb (by decide))]
  exact hg
theorem PR.store_sep (h:PR X base P TA tc L s w SA sc EA ec ev) (k:Nat) (v:Value) (hk2:k≠2):Sep X (w.setCell ⟨P,k,none⟩ v) base SA sc s.ss EA ec s.es:=by
 have hk:KT base w (w.setCell ⟨P,k,none⟩ v):=KT.set (t:=⟨P,k,none⟩) h.blk h.hb rfl v rfl hk2
 refine h.sep.map (fun _ _ a=>a.kt hk) (fun _ _ a=>a.keep hk ?_)
 intro g cur _ hg
 rw [Zap _ _ _ (fun e=>by
  have e':g=P:=e
  subst e'
  have hb:=h.blk
  rw [hg] at hb
  injection hb with hb
  injection hb with _ hb _
  exact absurd hb (by decide))]
 exact hg
theorem PR.adv (h:PR X base P TA tc L s w SA sc EA ec ev) (hi:s.i<L.length):PR X base P TA tc L (advP s) (w.setCell ⟨P,1,none⟩ (.int .i64 ((s.i+1:Nat):Int))) SA sc EA ec ev∧KT base w (w.setCell ⟨P,1,none⟩ (.int .i64 ((s.i+1:Nat):Int))):=by
 obtain ⟨k,a,b,c,d,e⟩:=h.store 1 (.int .i64 ((s.i+1:Nat):Int)) (by decide)
 rw [Zj7] at e
 exact ⟨⟨h.hb,e,a,b,h.err.kt k,c,d,h.etb,h.len,hi,h.dd,Nat.le_succ_of_le h.el,h.sl,h.xk k,h.store_sep 1 _ (by decide)⟩,k⟩
theorem PR.deepen (h:PR X base P TA tc L s w SA sc EA ec ev) (d':Nat) (hd:d'≤32):PR X base P TA tc L { s with deep:=d' } (w.setCell ⟨P,4,none⟩ (.int .i64 (d':Int))) SA sc EA ec ev∧KT base w (w.setCell ⟨P,4,none⟩ (.int .i64 (d':Int))):=by
 obtain ⟨k,a,b,c,d,e⟩:=h.store 4 (.int .i64 (d':Int)) (by decide)
 rw [ZjA] at e
 exact ⟨⟨h.hb,e,a,b,h.err.kt k,c,d,h.etb,h.len,h.ii,hd,h.el,h.sl,h.xk k,h.store_sep 4 _ (by decide)⟩,k⟩
theorem PR.fault (h:PR X base P TA tc L s w SA sc EA ec ev) (c p:Nat) (ev':Value) (he:IsErr w ev' [(parN,(p:Int))] (c:Int)):PR X base P TA tc L { s with err:=some (c,p) } (w.setCell ⟨P,5,none⟩ ev') SA sc EA ec ev'∧KT base w (w.setCell ⟨P,5,none⟩ ev'):=by
 obtain ⟨k,a,b,c',d,e⟩:=h.store 5 ev' (by decide)
 rw [ZjB] at e
 exact ⟨⟨h.hb,e,a,b,IsErr.kt k he,c',d,h.etb,h.len,h.ii,h.dd,h.el,h.sl,h.xk k,h.store_sep 5 _ (by decide)⟩,k⟩
theorem Zcj (h:PM X base P TA tc L s w) (o:Obj):PM (XA X (some ⟨w.heap.size,0,none⟩)) base P TA tc L s (w.alloc o):=by
 obtain ⟨SA,sc,EA,ec,ev,h⟩:=h
 have hb:Below w.heap.size w (w.alloc o):=(Kai _ _).alloc (Kag _) o
 have hk:=KT.below (base:=base) hb
 have hY:∀ k,XA X (some ⟨w.heap.size,0,none⟩) k→X k∨w.heap.size≤k:=fun k hk=>by
  rcases hk with hk | hk
  ·exact .inl hk
  ·exact .inr (Nat.le_of_eq (by simpa [blk] using hk))
 refine ⟨SA,sc,EA,ec,ev,h.hb,(hb.block P h.lt).trans h.blk,(h.ownS.re hY).kt hk,(h.ownE.re hY).keep hk (fun g cur _ hg=>(hb.block g (Kab.1 hg).1).trans hg),h.err.kt hk,h.toks.below (hb.mono h.base_le),Zht h.ety h.etb hk,h.etb,h.len,h.ii,h.dd,h.el,h.sl,fun k hx => ?_,(h.sep.re hY).map (fun _ _ a=>a.kt hk) (fun _ _ a=>a.keep hk (fun g cur _ hg=>(hb.block g (Kab.1 hg).1).trans hg))⟩
 rcases hx with hx | hx
 ·have:=h.xx k hx
  have:=hb.size
  omega
 ·have e:w.heap.size=k:=by simpa [blk] using hx
  rw [World.size_alloc]
  omega
theorem PM.re {Y:Nat→Prop} (h:PM X base P TA tc L s w) (hY:∀ k,Y k→X k):PM Y base P TA tc L s w:=by
 obtain ⟨SA,sc,EA,ec,ev,h⟩:=h
 exact ⟨SA,sc,EA,ec,ev,h.re hY⟩
theorem ZcZ (h:PM X base P TA tc L s w):PM (XA X none) base P TA tc L s w:=h.re fun k hk=>hk.elim id (fun e=>by cases e)
theorem PM.xne (h:PM X base P TA tc L s w):¬ X w.heap.size:=fun hx=>by
 obtain ⟨SA,sc,EA,ec,ev,h⟩:=h
 exact Nat.lt_irrefl _ (h.xx _ hx)
theorem PM.xlt (h:PM X base P TA tc L s w):∀ k,X k→k<w.heap.size:=by
 obtain ⟨SA,sc,EA,ec,ev,h⟩:=h
 exact h.xx
theorem PM.ble (h:PM X base P TA tc L s w):base≤w.heap.size:=by
 obtain ⟨SA,sc,EA,ec,ev,h⟩:=h
 exact h.base_le
theorem args2 (h:PM X base P TA tc L s w) (a b:Nat):ArgsV X base (w.alloc (.cells #[.int .i64 a,.int .i64 b] 3)) (.slice (some ⟨w.heap.size,0,none⟩) 2 2) [a,b]:=
 ⟨some ⟨w.heap.size,0,none⟩,2,rfl,Own.full w 3 [I64 a,I64 b] h.ble (by simp [maxLen]),fun k hk=>by
  obtain rfl:w.heap.size=k:=by simpa [blk] using hk
  exact h.xne⟩
theorem args1 (h:PM X base P TA tc L s w) (a:Nat):ArgsV X base (w.alloc (.cells #[.int .i64 a] 3)) (.slice (some ⟨w.heap.size,0,none⟩) 1 1) [a]:=
 ⟨some ⟨w.heap.size,0,none⟩,1,rfl,Own.full w 3 [I64 a] h.ble (by simp [maxLen]),fun k hk=>by
  obtain rfl:w.heap.size=k:=by simpa [blk] using hk
  exact h.xne⟩
end
structure G (L:List Tok) (s s':PS) (k:Nat):Prop where
 hi:s.i≤s'.i
 he:s'.es.length+s.i+k≤s.es.length+s'.i
 hl:s.i≤L.length→s'.i≤L.length
 hs:s'.ss=s.ss
 hd:s'.deep=s.deep
section
variable {L:List Tok} {s s' s'':PS} {k k':Nat}
theorem G.refl (s:PS):G L s s 0:=⟨Kag _,by omega,fun h=>h,rfl,rfl⟩
theorem G.trans (h:G L s s' k) (h':G L s' s'' k'):G L s s'' (k+k'):=
 ⟨Kah h.hi h'.hi,by have:=h.he;have:=h'.he;omega,fun x=>h'.hl (h.hl x),h'.hs.trans h.hs,h'.hd.trans h.hd⟩
theorem G.less (h:G L s s' k) (hk:k'≤k):G L s s' k':=⟨h.hi,by have:=h.he;omega,h.hl,h.hs,h.hd⟩
theorem ZbX (h:(nowP L s).kind≠0):s.i<L.length:=by
 unfold nowP at h
 by_cases hi:s.i<L.length
 ·exact hi
 ·rw [List.getElem?_eq_none (by omega)] at h
  exact absurd rfl h
theorem Zfg {t:ByteArray} (h:isP L s t=true):s.err=none∧((nowP L s).kind=3∨(nowP L s).kind=4)∧(nowP L s).text.toList=t.toList:=by
 unfold isP at h
 simp only [Bool.and_eq_true,Bool.or_eq_true,beq_iff_eq,Option.isNone_iff_eq_none] at h
 exact ⟨h.1.1,h.1.2,h.2⟩
theorem ZaD {t:ByteArray} (h:isP L s t=true):s.i<L.length:=ZbX (by have:=(Zfg h).2.1;omega)
theorem G.adv (h:s.i<L.length):G L s (advP s) 1:=⟨Nat.le_succ _,by show s.es.length+s.i+1≤s.es.length+(s.i+1);omega,fun _=>h,rfl,rfl⟩
theorem G.fail (s:PS) (c:Nat):G L s (failP L s c) 0:=by
 unfold failP
 split
 ·exact ⟨Kag _,Kag _,fun h=>h,rfl,rfl⟩
 ·exact G.refl s
theorem G.want (s:PS) (t:ByteArray):G L s (wantP L s t) 0:=by
 unfold wantP
 split
 ·rename_i h;exact (G.adv (ZaD h)).less (by omega)
 ·exact G.fail s _
theorem G.name (s:PS):G L s (nameP L s).1 0:=by
 unfold nameP
 split
 ·exact G.fail s _
 ·rename_i h
  have hk:(nowP L s).kind≠0:=by
   simp only [Bool.or_eq_true,not_or,bne_iff_ne,ne_eq,Decidable.not_not] at h
   omega
  exact (G.adv (ZbX hk)).less (by omega)
theorem G.number (s:PS):G L s (Zaw L s).1 0:=by
 unfold Zaw
 split
 ·exact G.fail s _
 ·rename_i h
  have hk:(nowP L s).kind≠0:=by
   simp only [Bool.or_eq_true,not_or,bne_iff_ne,ne_eq,Decidable.not_not] at h
   omega
  exact (G.adv (ZbX hk)).less (by omega)
theorem G.put (h:G L s s' (k+1)) (e:Ex):G L s (putP s' e).1 k:=by
 unfold putP
 split
 ·exact h.less (by omega)
 ·exact ⟨h.hi,by have:=h.he;show (s'.es++[e]).length+s.i+k≤s.es.length+s'.i;rw [List.length_append];simp;omega,h.hl,h.hs,h.hd⟩
theorem Zck (h:(sinkP L s).2=true):s.deep≠32∧(sinkP L s).1={ s with deep:=s.deep+1 }:=by
 unfold sinkP at h ⊢
 split
 ·rename_i h1;rw [if_pos h1] at h;cases h
 ·rename_i h1;exact ⟨h1,rfl⟩
theorem ZeD (h:(sinkP L s).2=false):s.deep=32∧(sinkP L s).1=failP L s 5:=by
 unfold sinkP at h ⊢
 split
 ·rename_i h1;exact ⟨h1,rfl⟩
 ·rename_i h1;rw [if_neg h1] at h;cases h
theorem G.rise {s1:PS} (hd:s1={ s with deep:=s.deep+1 }) (h:G L s1 s' k):G L s (riseP s') k:=by
 subst hd
 have h2:=h.hd
 exact ⟨h.hi,h.he,h.hl,h.hs,by show s'.deep-1=s.deep;rw [h2];show s.deep+1-1=s.deep;omega⟩
end
structure AllG (L:List Tok) (f:Nat):Prop where
 expr:∀ s,G L s (exprP L f s).1 0
 sum:∀ s,G L s (sumP L f s).1 0
 sumLoop:∀ s a,G L s (ZaH L f s a).1 0
 prod:∀ s,G L s (prodP L f s).1 0
 prodLoop:∀ s a,G L s (Za6 L f s a).1 0
 sign:∀ s,G L s (signP L f s).1 0
 post:∀ s,G L s (postP L f s).1 0
 postLoop:∀ s a,G L s (ZaM L f s a).1 0
 atom:∀ s,G L s (atomP L f s).1 0
 args:∀ n s l,G L s (argsP L f n s l).1 0
theorem allG (L:List Tok) (f:Nat):AllG L f:=by
 induction f with
 | zero=>exact ⟨fun s=>G.refl s,fun s=>G.refl s,fun s a=>G.refl s,fun s=>G.refl s,fun s a=>G.refl s,fun s=>G.refl s,fun s=>G.refl s,fun s a=>G.refl s,fun s=>G.refl s,fun n s l=>by rw [argsP];exact G.refl s⟩
 | succ f ih=>
  refine ⟨?_,?_,?_,?_,?_,?_,?_,?_,?_,?_⟩
  ·intro s
   rw [exprP]
   have h1:=ih.sum s
   dsimp only
   split
   ·rename_i h
    exact (((h1.trans (G.adv (ZaD h))).trans (ih.sum _)).less (by omega):G L s _ (0+1)).put _
   ·exact h1
  ·intro s
   rw [sumP]
   exact ((ih.prod s).trans (ih.sumLoop _ _)).less (by omega)
  ·intro s a
   rw [ZaH]
   dsimp only
   split
   ·rename_i h
    exact (((((G.adv (ZaD h)).trans (ih.prod _)).less (by omega):G L s _ (0+1)).put _).trans (ih.sumLoop _ _)).less (by omega)
   ·split
    ·rename_i h
     exact (((((G.adv (ZaD h)).trans (ih.prod _)).less (by omega):G L s _ (0+1)).put _).trans (ih.sumLoop _ _)).less (by omega)
    ·exact G.refl s
  ·intro s
   rw [prodP]
   exact ((ih.sign s).trans (ih.prodLoop _ _)).less (by omega)
  ·intro s a
   rw [Za6]
   dsimp only
   split
   ·rename_i h
    exact (((((G.adv (ZaD h)).trans (ih.sign _)).less (by omega):G L s _ (0+1)).put _).trans (ih.prodLoop _ _)).less (by omega)
   ·split
    ·rename_i h
     exact (((((G.adv (ZaD h)).trans (ih.sign _)).less (by omega):G L s _ (0+1)).put _).trans (ih.prodLoop _ _)).less (by omega)
    ·exact G.refl s
  ·intro s
   rw [signP]
   dsimp only
   split
   ·rename_i h
    split
    ·rename_i hd
     obtain ⟨hd1,hd2⟩:=Zck hd
     have hadv:G L (sinkP L s).1 (advP (sinkP L s).1) 1:=G.adv (by rw [hd2];exact ZaD h)
     exact (G.rise hd2 ((hadv.trans (ih.sign _)).less (by omega):G L _ _ (0+1))).put _
    ·rename_i hd
     rw [(ZeD (by simpa using hd)).2]
     exact G.fail s _
   ·exact ih.post s
  ·intro s
   rw [postP]
   exact ((ih.atom s).trans (ih.postLoop _ _)).less (by omega)
  ·intro s a
   rw [ZaM]
   dsimp only
   split
   ·rename_i h
    exact (((((G.adv (ZaD h)).trans (G.number _)).less (by omega):G L s _ (0+1)).put _).trans (ih.postLoop _ _)).less (by omega)
   ·exact G.refl s
  ·intro s
   rw [atomP]
   dsimp only
   split
   ·exact G.refl s
   ·split
    ·rename_i h
     exact (G.adv (ZbX (by simp at h;omega)):G L s _ (0+1)).put _
    ·split
     ·rename_i h
      exact (G.adv (ZbX (by simp at h;omega)):G L s _ (0+1)).put _
     ·split
      ·exact G.fail s _
      ·rename_i hc
       have hlt:s.i<L.length:=by
        simp only [Bool.and_eq_true,Bool.not_eq_true',beq_iff_eq,not_and] at hc
        cases ho:isP L s tOpen with
        | true=>exact ZaD ho
        | false=>
         have h2:=hc ho
         apply ZbX
         intro h0
         apply h2
         unfold callP
         rw [h0]
         rfl
       split
       ·rename_i hd
        obtain ⟨hd1,hd2⟩:=Zck hd
        have hadv:G L (sinkP L s).1 (advP (sinkP L s).1) 1:=G.adv (by rw [hd2];exact hlt)
        split
        ·exact G.rise hd2 (((hadv.trans (ih.expr _)).trans (G.want _ _)).less (by omega))
        ·exact (G.rise hd2 ((((hadv.trans (G.want _ _)).trans (ih.args _ _ _)).trans (G.want _ _)).less (by omega):G L _ _ (0+1))).put _
       ·rename_i hd
        rw [(ZeD (by simpa using hd)).2]
        exact G.fail s _
  ·intro n s l
   cases n with
   | zero=>rw [argsP];exact G.refl s
   | succ n=>
    rw [argsP]
    split
    ·exact ((ih.expr _).trans (ih.args _ _ _)).less (by omega)
    ·exact (((G.want _ _).trans (ih.expr _)).trans (ih.args _ _ _)).less (by omega)
end Go.Proofs.YtghlnncfigkkaaaGreatDoor
