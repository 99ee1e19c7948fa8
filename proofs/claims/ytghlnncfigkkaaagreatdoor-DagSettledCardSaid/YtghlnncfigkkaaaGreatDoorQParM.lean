/-
 The parser's state in memory: what stands where, and what the parser's own functions leave of everything else.
-/
import Derived.Test.YtghlnncfigkkaaaGreatDoorQParL
import Derived.Test.YtghlnncfigkkaaaGreatDoorQIs
set_option linter.unusedVariables false
set_option linter.unusedSimpArgs false
namespace Go.Proofs.YtghlnncfigkkaaaGreatDoor
open Go.RowKit
def ZnB:Obj→Prop
 | .cells _ t _=>t≠160∧t≠90
 | _=>True
structure KT (base:Nat) (w w':World):Prop where
 os:w'.os=w.os
 tape:w'.tape=w.tape
 output:w'.output=w.output
 size:w.heap.size≤w'.heap.size
 block:∀ k o,w.heap[k]?=some o→k<base∨ZnB o→w'.heap[k]?=some o
 stm:∀ (k:Nat) (cs:Array Value),w.heap[k]?=some (.cells cs 160 (0,0))→∃ cs':Array Value,w'.heap[k]?=some (.cells cs' 160 (0,0))∧cs'[2]?=cs[2]?
theorem KT.refl (base:Nat) (w:World):KT base w w:=⟨rfl,rfl,rfl,Kag _,fun _ _ h _=>h,fun k a h=>⟨a,h,rfl⟩⟩
theorem KT.trans {base:Nat} {a b c:World} (h:KT base a b) (k:KT base b c):KT base a c:=
 ⟨k.os.trans h.os,k.tape.trans h.tape,k.output.trans h.output,Kah h.size k.size,fun i o d e=>k.block i o (h.block i o d e) e,fun i f d=>by
  obtain ⟨c1,g,j⟩:=h.stm i f d;obtain ⟨c2,l,m⟩:=k.stm i c1 g;exact ⟨c2,l,m.trans j⟩⟩
theorem KT.below {base:Nat} {w w':World} (h:Below w.heap.size w w'):KT base w w':=
 ⟨h.os,h.tape,h.output,h.size,fun k o a _=>(h.block k (Kab.1 a).1).trans a,fun k b a=>⟨b,(h.block k (Kab.1 a).1).trans a,rfl⟩⟩
theorem KT.toBelow {base:Nat} {w w':World} (h:KT base w w') (b:base≤w.heap.size):Below base w w':=
 ⟨h.os,h.tape,h.output,h.size,fun k a=>by
  have e:w.heap[k]?=some (w.heap[k]'(by omega)):=Array.getElem?_eq_getElem _
  rw [e];exact h.block k _ e (.inl a)⟩
theorem Zap (w:World) (t:Addr) (v:Value) {k:Nat} (h:k≠t.block):(w.setCell t v).heap[k]?=w.heap[k]?:=Below.heap_setCell w t v k h
theorem KT.set {base:Nat} {w:World} {t:Addr} {d:Array Value} {T:TypeId} {f:Nat × Nat} (g:w.heap[t.block]?=some (.cells d T f)) (n:base≤t.block) (i:T=160) (v:Value) (j:t.spot=none) (l:t.off≠2):KT base w (w.setCell t v):=
 ⟨rfl,rfl,rfl,by simp [World.setCell],fun k o a h=>by
  by_cases e:k=t.block
  ·subst e;rw [g] at a;injection a with a
   subst a;rcases h with h | h
   ·omega
   ·exact absurd i h.1
  ·rw [Zap _ _ _ e];exact a,fun k c a=>by
  by_cases e:k=t.block
  ·subst e;obtain ⟨b,o,m⟩:=t;obtain rfl:m=none:=j;exact ⟨c.setIfInBounds o v,heap_setCell_same _ _ _ _ _ _ a,by rw [Array.getElem?_setIfInBounds];exact if_neg l⟩
  ·exact ⟨c,by rw [Zap _ _ _ e];exact a,rfl⟩⟩
theorem KT.grown {base:Nat} {w w':World} {A:Option Addr} {T:TypeId} (b:w.grownBy w' (blk A)) (f:T=90) (i:A=none∨∃ g cur,A=some ⟨g,0,none⟩∧base≤g∧w.heap[g]?=some (.cells cur T (0,0))):KT base w w':=
 ⟨b.os,b.tape,b.output,b.size,fun k o a h=>by
  have c:=(Kab.1 a).1;rcases i with rfl | ⟨g,cur,rfl,j,d⟩
  ·rw [b.block k c (by simp [blk])];exact a
  ·by_cases e:k=g
   ·subst e;rw [d] at a;injection a with a
    subst a;rcases h with h | h
    ·omega
    ·exact absurd f h.2
   ·rw [b.block k c (by simp [blk];exact fun m=>e (by omega))];exact a,fun k l a=>by
  have c:=(Kab.1 a).1;refine ⟨l,?_,rfl⟩;rcases i with rfl | ⟨g,cur,rfl,j,d⟩
  ·rw [b.block k c (by simp [blk])];exact a
  ·rw [b.block k c (by
    simp [blk]
    rintro rfl
    rw [d] at a;injection a with a
    injection a with _ a _
    rw [f] at a;exact absurd a (by decide))]
   exact a⟩
def I64 (n:Nat):Value:=.int .i64 (n:Int)
theorem Zhr {w:World} {b c:Nat} {A:Option Addr} {xs:List Value} (h:Own w b 3 A c xs):A=none∨∃ g cur,A=some ⟨g,0,none⟩∧b≤g∧w.heap[g]?=some (.cells cur 3 (0,0)):=by
 rcases h.form with ⟨a,_⟩ | ⟨g,cur,a,d,e,_⟩
 ·exact .inl a
 ·exact .inr ⟨g,cur,a,d,e⟩
theorem Zhs {w w':World} {b c:Nat} {A:Option Addr} {xs:List Value} (h:Own w b 3 A c xs) (d:∀ g cur,A=some ⟨g,0,none⟩→w.heap[g]?=some (.cells cur 3 (0,0))→w'.heap[g]?=some (.cells cur 3 (0,0))):Own w' b 3 A c xs:=by
 refine ⟨h.1,?_⟩;rcases h.2 with a | ⟨g,f,cur,a,i,j,r⟩
 ·exact .inl a
 ·have e:A=some ⟨g,0,none⟩:=by injection a
  exact .inr ⟨g,f,cur,a,i,d g cur e j,r⟩
theorem ZbM {base:Nat} {w w':World} {b a:Nat} {A:Option Addr} {xs:List Value} (h:Own w b 3 A a xs) (c:KT base w w'):Own w' b 3 A a xs:=
 Zhs h (fun g _ _ d=>c.block g _ d (.inr ⟨by decide,by decide⟩))
def ArgsV (X:Nat→Prop) (base:Nat) (w:World) (v:Value) (l:List Nat):Prop:=∃ A c,v=.slice A l.length c∧Own w base 3 A c (l.map I64)∧∀ k,blk A=some k→¬ X k
theorem ArgsV.kt {X:Nat→Prop} {base b:Nat} {w w':World} {v:Value} {l:List Nat} (h:ArgsV X b w v l) (a:KT base w w'):ArgsV X b w' v l:=by
 obtain ⟨A,c,d,e,f⟩:=h;exact ⟨A,c,d,ZbM e a,f⟩
theorem ArgsV.keep {X:Nat→Prop} {b:Nat} {w w':World} {v:Value} {l:List Nat} (h:ArgsV X b w v l) (d:∀ g cur,¬ X g→w.heap[g]?=some (.cells cur 3 (0,0))→w'.heap[g]?=some (.cells cur 3 (0,0))):ArgsV X b w' v l:=by
 obtain ⟨A,c,e,f,a⟩:=h;exact ⟨A,c,e,Zhs f (fun g cur i j=>d g cur (a g (by rw [i];rfl)) j),a⟩
theorem ArgsV.re {X Y:Nat→Prop} {b:Nat} {w:World} {v:Value} {l:List Nat} (h:ArgsV X b w v l) (f:∀ k,Y k→X k∨w.heap.size≤k):ArgsV Y b w v l:=by
 obtain ⟨A,c,g,a,i⟩:=h;refine ⟨A,c,g,a,fun k d j => ?_⟩
 rcases f k j with e | e
 ·exact i k d e
 ·have:=(a.lt k d).2;omega
theorem ArgsV.nil (X:Nat→Prop) (base:Nat) (w:World):ArgsV X base w (.slice none 0 0) []:=⟨none,0,rfl,Own.nil _ _ _,fun k a=>by cases a⟩
def vA:Value→Option Addr
 | .slice A _ _=>A
 | _=>none
def XA (X:Nat→Prop) (A:Option Addr):Nat→Prop:=fun k=>X k∨blk A=some k
def noX:Nat→Prop:=fun _=>False
theorem IsErr.kt {base:Nat} {w w':World} (c:KT base w w'):∀ {l:List (ByteArray × Int)} {v:Value} {b:Int},IsErr w v l b→IsErr w' v l b:=by
 intro l
 induction l with
 | nil=>intro v b h;exact h
 | cons p r ih=>
  intro v b h
  obtain ⟨a,d,rfl,e,f⟩:=h;exact ⟨a,d,rfl,c.block a _ e (.inr ⟨by decide,by decide⟩),ih f⟩
def Zc5 (m:Ex × Value):List Value:=[.int .i64 m.1.kind,.string m.1.name,.int .u64 m.1.num,m.2,.int .i64 m.1.pos]
def Zc6 (m:Sm × Value):List Value:=[.int .i64 m.1.kind,.int .i64 m.1.party,.string m.1.name,m.2,.int .i64 m.1.expr,.int .i64 m.1.pos]
def OwnEX (X:Nat→Prop) (w:World) (base:Nat) (A:Option Addr) (c:Nat) (es:List Ex):Prop:=
 ∃ ms:List (Ex × Value),ms.map Prod.fst=es∧w.ownsRow base 90 5 (.slice A es.length c) es.length (ms.flatMap Zc5)∧(∀ m∈ms,ArgsV X base w m.2 m.1.args)∧ms.Pairwise fun a b=>∀ k,blk (vA a.2)=some k→blk (vA b.2)≠some k
def OwnSX (X:Nat→Prop) (w:World) (base:Nat) (A:Option Addr) (c:Nat) (ss:List Sm):Prop:=
 ∃ ms:List (Sm × Value),ms.map Prod.fst=ss∧w.ownsRow base 93 6 (.slice A ss.length c) ss.length (ms.flatMap Zc6)∧∀ m∈ms,ArgsV X base w m.2 m.1.shape
abbrev OwnE (w:World) (base:Nat) (A:Option Addr) (c:Nat) (es:List Ex):Prop:=OwnEX noX w base A c es
abbrev OwnS (w:World) (base:Nat) (A:Option Addr) (c:Nat) (ss:List Sm):Prop:=OwnSX noX w base A c ss
theorem Zcs {w:World} {base size n c:Nat} {T:TypeId} {A:Option Addr} {xs:List Value} (h:w.ownsRow base T size (.slice A n c) n xs):A=none∨∃ g cur,A=some ⟨g,0,none⟩∧base≤g∧w.heap[g]?=some (.cells cur T (0,0)):=by
 rcases h.2 with ⟨d,_⟩ | ⟨g,i,cur,d,e,f,_⟩
 ·injection d with a b c
  exact .inl a
 ·injection d with a b c
  exact .inr ⟨g,cur,a,e,f⟩
theorem ZdC {w w':World} {base size n c:Nat} {T:TypeId} {A:Option Addr} {xs:List Value} (h:w.ownsRow base T size (.slice A n c) n xs) (b:∀ g cur,A=some ⟨g,0,none⟩→w.heap[g]?=some (.cells cur T (0,0))→w'.heap[g]?=some (.cells cur T (0,0))):w'.ownsRow base T size (.slice A n c) n xs:=by
 refine ⟨h.1,?_⟩;rcases h.2 with a | ⟨g,d,cur,a,f,i,r⟩
 ·exact .inl a
 ·have e:A=some ⟨g,0,none⟩:=by injection a
  exact .inr ⟨g,d,cur,a,f,b g cur e i,r⟩
theorem OwnEX.keep {X:Nat→Prop} {w w':World} {base base' c:Nat} {A:Option Addr} {es:List Ex} (h:OwnEX X w base A c es) (a:KT base' w w') (b:∀ g cur,A=some ⟨g,0,none⟩→w.heap[g]?=some (.cells cur 90 (0,0))→w'.heap[g]?=some (.cells cur 90 (0,0))):OwnEX X w' base A c es:=by
 obtain ⟨d,e,f,i,j⟩:=h;exact ⟨d,e,ZdC f b,fun m l=>(i m l).kt a,j⟩
theorem OwnSX.kt {X:Nat→Prop} {w w':World} {base base' c:Nat} {A:Option Addr} {ss:List Sm} (h:OwnSX X w base A c ss) (a:KT base' w w'):OwnSX X w' base A c ss:=by
 obtain ⟨b,d,e,f⟩:=h;exact ⟨b,d,ZdC e (fun g cur _ i=>a.block g _ i (.inr ⟨by decide,by decide⟩)),fun m j=>(f m j).kt a⟩
theorem OwnEX.keep' {X:Nat→Prop} {w w':World} {base c:Nat} {A:Option Addr} {es:List Ex} (h:OwnEX X w base A c es) (a:∀ g cur,¬ X g→w.heap[g]?=some (.cells cur 3 (0,0))→w'.heap[g]?=some (.cells cur 3 (0,0))) (b:∀ g cur,A=some ⟨g,0,none⟩→w.heap[g]?=some (.cells cur 90 (0,0))→w'.heap[g]?=some (.cells cur 90 (0,0))):OwnEX X w' base A c es:=by
 obtain ⟨d,e,f,i,j⟩:=h;exact ⟨d,e,ZdC f b,fun m l=>(i m l).keep a,j⟩
theorem OwnSX.keep' {X:Nat→Prop} {w w':World} {base c:Nat} {A:Option Addr} {ss:List Sm} (h:OwnSX X w base A c ss) (a:∀ g cur,¬ X g→w.heap[g]?=some (.cells cur 3 (0,0))→w'.heap[g]?=some (.cells cur 3 (0,0))) (b:∀ g cur,A=some ⟨g,0,none⟩→w.heap[g]?=some (.cells cur 93 (0,0))→w'.heap[g]?=some (.cells cur 93 (0,0))):OwnSX X w' base A c ss:=by
 obtain ⟨d,e,f,i⟩:=h;exact ⟨d,e,ZdC f b,fun m j=>(i m j).keep a⟩
theorem OwnEX.re {X Y:Nat→Prop} {w:World} {base c:Nat} {A:Option Addr} {es:List Ex} (h:OwnEX X w base A c es) (a:∀ k,Y k→X k∨w.heap.size≤k):OwnEX Y w base A c es:=by
 obtain ⟨b,d,e,f,g⟩:=h;exact ⟨b,d,e,fun m i=>(f m i).re a,g⟩
theorem OwnSX.re {X Y:Nat→Prop} {w:World} {base c:Nat} {A:Option Addr} {ss:List Sm} (h:OwnSX X w base A c ss) (a:∀ k,Y k→X k∨w.heap.size≤k):OwnSX Y w base A c ss:=by
 obtain ⟨b,d,e,f⟩:=h;exact ⟨b,d,e,fun m g=>(f m g).re a⟩
theorem OwnEX.nil (X:Nat→Prop) (w:World) (base:Nat):OwnEX X w base none 0 []:=⟨[],rfl,World.ownsRow_nil w base _ 5,by simp,List.Pairwise.nil⟩
theorem OwnSX.nil (X:Nat→Prop) (w:World) (base:Nat):OwnSX X w base none 0 []:=⟨[],rfl,World.ownsRow_nil w base _ 6,by simp⟩
def parN:ByteArray:={ data:=#[112,97,114,115,101] }
def ErrV (w:World) (v:Value):Option (Nat × Nat)→Prop
 | none=>v=.nilIface
 | some (c,p)=>IsErr w v [(parN,(p:Int))] (c:Int)
theorem ErrV.kt {base:Nat} {w w':World} {v:Value}:∀ {e:Option (Nat × Nat)},ErrV w v e→KT base w w'→ErrV w' v e
 | none,h,_=>h
 | some (c,p),h,hk=>IsErr.kt hk h
def Sep (X:Nat→Prop) (w:World) (base:Nat) (SA:Option Addr) (sc:Nat) (ss:List Sm) (EA:Option Addr) (ec:Nat) (es:List Ex):Prop:=
 ∃ Z:Nat→Prop,OwnSX (fun k=>X k∨Z k) w base SA sc ss∧OwnEX (fun k=>X k∨¬ Z k) w base EA ec es
theorem Sep.map {X:Nat→Prop} {w w':World} {base base' sc ec:Nat} {SA EA:Option Addr} {ss:List Sm} {es:List Ex} (h:Sep X w base SA sc ss EA ec es) (d:∀ Y,(∀ k,X k→Y k)→OwnSX Y w base SA sc ss→OwnSX Y w' base' SA sc ss) (e:∀ Y,(∀ k,X k→Y k)→OwnEX Y w base EA ec es→OwnEX Y w' base' EA ec es):Sep X w' base' SA sc ss EA ec es:=by
 obtain ⟨Z,a,b⟩:=h;exact ⟨Z,d _ (fun k c=>.inl c) a,e _ (fun k c=>.inl c) b⟩
theorem Sep.re {X Y:Nat→Prop} {w:World} {base sc ec:Nat} {SA EA:Option Addr} {ss:List Sm} {es:List Ex} (h:Sep X w base SA sc ss EA ec es) (d:∀ k,Y k→X k∨w.heap.size≤k):Sep Y w base SA sc ss EA ec es:=by
 obtain ⟨Z,a,b⟩:=h;exact ⟨Z,a.re fun k c=>c.elim (fun h=>(d k h).imp_left .inl) (fun h=>.inl (.inr h)),b.re fun k c=>c.elim (fun h=>(d k h).imp_left .inl) (fun h=>.inl (.inr h))⟩
theorem Sep.nil (X:Nat→Prop) (w:World) (base:Nat):Sep X w base none 0 [] none 0 []:=⟨fun _=>False,OwnSX.nil _ _ _,OwnEX.nil _ _ _⟩
def PRow (TA:Option Addr) (n tc:Nat) (i:Nat) (S E:Value) (deep:Nat) (ev:Value):Array Value:=#[.slice TA n tc,.int .i64 i,S,E,.int .i64 deep,ev]
structure PR (X:Nat→Prop) (base P:Nat) (TA:Option Addr) (tc:Nat) (L:List Tok) (s:PS) (w:World) (SA:Option Addr) (sc:Nat) (EA:Option Addr) (ec:Nat) (ev:Value):Prop where
 hb:base≤P
 blk:w.heap[P]?=some (.cells (PRow TA L.length tc s.i (.slice SA s.ss.length sc) (.slice EA s.es.length ec) s.deep ev) 160 (0,0))
 ownS:OwnSX X w base SA sc s.ss
 ownE:OwnEX X w base EA ec s.es
 err:ErrV w ev s.err
 toks:RdT w base TA L
 ety:ETyped w
 etb:0<base
 len:L.length≤1000
 ii:s.i≤L.length
 dd:s.deep≤32
 el:s.es.length≤s.i
 sl:s.ss.length≤65
 xx:∀ k,X k→k<w.heap.size
 sep:Sep X w base SA sc s.ss EA ec s.es
def PM (X:Nat→Prop) (base P:Nat) (TA:Option Addr) (tc:Nat) (L:List Tok) (s:PS) (w:World):Prop:=∃ SA sc EA ec ev,PR X base P TA tc L s w SA sc EA ec ev
section
variable {X:Nat→Prop} {base P tc:Nat} {TA:Option Addr} {L:List Tok} {s:PS} {w w':World} {SA EA:Option Addr} {sc ec:Nat} {ev:Value}
theorem PR.lt (h:PR X base P TA tc L s w SA sc EA ec ev):P<w.heap.size:=(Kab.1 h.blk).1
theorem PR.base_le (h:PR X base P TA tc L s w SA sc EA ec ev):base≤w.heap.size:=by have:=h.lt;have:=h.hb;omega
theorem Zht (h:ETyped w) (a:0<base) (b:KT base w w'):ETyped w':=by
 unfold ETyped at h ⊢;have c:=World.block_lt_of_cell? w _ h;have e:w.heap[0]?=some (w.heap[0]'c):=Array.getElem?_eq_getElem _;rw [←h];exact World.cell?_of_block ((b.block _ _ e (.inl a)).trans e.symm)
theorem PR.xk (h:PR X base P TA tc L s w SA sc EA ec ev) (a:KT base w w'):∀ k,X k→k<w'.heap.size:=fun k b=>Kae (h.xx k b) a.size
theorem PR.re {Y:Nat→Prop} (h:PR X base P TA tc L s w SA sc EA ec ev) (b:∀ k,Y k→X k):PR Y base P TA tc L s w SA sc EA ec ev:=
 ⟨h.hb,h.blk,h.ownS.re fun k a=>.inl (b k a),h.ownE.re fun k a=>.inl (b k a),h.err,h.toks,h.ety,h.etb,h.len,h.ii,h.dd,h.el,h.sl,fun k a=>h.xx k (b k a),h.sep.re fun k a=>.inl (b k a)⟩
theorem PR.below (h:PR X base P TA tc L s w SA sc EA ec ev) (b:Below w.heap.size w w'):PR X base P TA tc L s w' SA sc EA ec ev:=
 ⟨h.hb,(b.block P h.lt).trans h.blk,h.ownS.kt (KT.below (base:=base) b),
  h.ownE.keep (KT.below (base:=base) b) (fun g cur _ c=>(b.block g (Kab.1 c).1).trans c),h.err.kt (KT.below (base:=base) b),
  h.toks.below (b.mono h.base_le),Zht h.ety h.etb (KT.below b),h.etb,h.len,h.ii,h.dd,h.el,h.sl,fun k d=>Kae (h.xx k d) b.size,h.sep.map (fun _ _ a=>a.kt (KT.below (base:=base) b)) (fun _ _ a=>a.keep (KT.below (base:=base) b) (fun g cur _ c=>(b.block g (Kab.1 c).1).trans c))⟩
theorem Zj7 (TA:Option Addr) (n tc i:Nat) (S E:Value) (a:Nat) (ev:Value) (j:Nat):(PRow TA n tc i S E a ev).setIfInBounds 1 (.int .i64 (j:Int))=PRow TA n tc j S E a ev:=rfl
theorem Zj8 (TA:Option Addr) (n tc i:Nat) (S E:Value) (a:Nat) (ev b:Value):(PRow TA n tc i S E a ev).setIfInBounds 3 b=PRow TA n tc i S b a ev:=rfl
theorem Zj9 (TA:Option Addr) (n tc i:Nat) (S E:Value) (a:Nat) (ev b:Value):(PRow TA n tc i S E a ev).setIfInBounds 2 b=PRow TA n tc i b E a ev:=rfl
theorem ZjA (TA:Option Addr) (n tc i:Nat) (S E:Value) (a:Nat) (ev:Value) (j:Nat):(PRow TA n tc i S E a ev).setIfInBounds 4 (.int .i64 (j:Int))=PRow TA n tc i S E j ev:=rfl
theorem ZjB (TA:Option Addr) (n tc i:Nat) (S E:Value) (a:Nat) (ev b:Value):(PRow TA n tc i S E a ev).setIfInBounds 5 b=PRow TA n tc i S E a b:=rfl
theorem PR.store (h:PR X base P TA tc L s w SA sc EA ec ev) (k:Nat) (v:Value) (d:k≠2):KT base w (w.setCell ⟨P,k,none⟩ v)∧OwnSX X (w.setCell ⟨P,k,none⟩ v) base SA sc s.ss∧OwnEX X (w.setCell ⟨P,k,none⟩ v) base EA ec s.es∧RdT (w.setCell ⟨P,k,none⟩ v) base TA L∧ETyped (w.setCell ⟨P,k,none⟩ v) ∧
  (w.setCell ⟨P,k,none⟩ v).heap[P]?=some (.cells ((PRow TA L.length tc s.i (.slice SA s.ss.length sc) (.slice EA s.es.length ec) s.deep ev).setIfInBounds k v) 160 (0,0)):=by
 have b:KT base w (w.setCell ⟨P,k,none⟩ v):=KT.set (t:=⟨P,k,none⟩) h.blk h.hb rfl v rfl d;refine ⟨b,h.ownS.kt b,h.ownE.keep b ?_,h.toks.below (b.toBelow h.base_le),Zht h.ety h.etb b,heap_setCell_same _ _ _ _ _ _ h.blk⟩
 ·intro g cur _ c
  rw [Zap _ _ _ (fun e=>by
   have f:g=P:=e;subst f;have a:=h.blk;rw [c] at a;injection a with a
   injection a with _ a _
   exact absurd a (by decide))]
  exact c
theorem PR.store_sep (h:PR X base P TA tc L s w SA sc EA ec ev) (k:Nat) (v:Value) (f:k≠2):Sep X (w.setCell ⟨P,k,none⟩ v) base SA sc s.ss EA ec s.es:=by
 have c:KT base w (w.setCell ⟨P,k,none⟩ v):=KT.set (t:=⟨P,k,none⟩) h.blk h.hb rfl v rfl f;refine h.sep.map (fun _ _ a=>a.kt c) (fun _ _ a=>a.keep c ?_)
 intro g cur _ d
 rw [Zap _ _ _ (fun e=>by
  have i:g=P:=e;subst i;have b:=h.blk;rw [d] at b;injection b with b
  injection b with _ b _
  exact absurd b (by decide))]
 exact d
theorem PR.adv (h:PR X base P TA tc L s w SA sc EA ec ev) (f:s.i<L.length):PR X base P TA tc L (advP s) (w.setCell ⟨P,1,none⟩ (.int .i64 ((s.i+1:Nat):Int))) SA sc EA ec ev∧KT base w (w.setCell ⟨P,1,none⟩ (.int .i64 ((s.i+1:Nat):Int))):=by
 obtain ⟨k,a,b,c,d,e⟩:=h.store 1 (.int .i64 ((s.i+1:Nat):Int)) (by decide)
 rw [Zj7] at e;exact ⟨⟨h.hb,e,a,b,h.err.kt k,c,d,h.etb,h.len,f,h.dd,Nat.le_succ_of_le h.el,h.sl,h.xk k,h.store_sep 1 _ (by decide)⟩,k⟩
theorem PR.deepen (h:PR X base P TA tc L s w SA sc EA ec ev) (f:Nat) (g:f≤32):PR X base P TA tc L { s with deep:=f } (w.setCell ⟨P,4,none⟩ (.int .i64 (f:Int))) SA sc EA ec ev∧KT base w (w.setCell ⟨P,4,none⟩ (.int .i64 (f:Int))):=by
 obtain ⟨k,a,b,c,d,e⟩:=h.store 4 (.int .i64 (f:Int)) (by decide)
 rw [ZjA] at e;exact ⟨⟨h.hb,e,a,b,h.err.kt k,c,d,h.etb,h.len,h.ii,g,h.el,h.sl,h.xk k,h.store_sep 4 _ (by decide)⟩,k⟩
theorem PR.fault (h:PR X base P TA tc L s w SA sc EA ec ev) (c p:Nat) (f:Value) (g:IsErr w f [(parN,(p:Int))] (c:Int)):PR X base P TA tc L { s with err:=some (c,p) } (w.setCell ⟨P,5,none⟩ f) SA sc EA ec f∧KT base w (w.setCell ⟨P,5,none⟩ f):=by
 obtain ⟨k,a,b,i,d,e⟩:=h.store 5 f (by decide)
 rw [ZjB] at e;exact ⟨⟨h.hb,e,a,b,IsErr.kt k g,i,d,h.etb,h.len,h.ii,h.dd,h.el,h.sl,h.xk k,h.store_sep 5 _ (by decide)⟩,k⟩
theorem Zcj (h:PM X base P TA tc L s w) (o:Obj):PM (XA X (some ⟨w.heap.size,0,none⟩)) base P TA tc L s (w.alloc o):=by
 obtain ⟨SA,sc,EA,ec,ev,h⟩:=h;have c:Below w.heap.size w (w.alloc o):=(Kai _ _).alloc (Kag _) o;have b:=KT.below (base:=base) c;have i:∀ k,XA X (some ⟨w.heap.size,0,none⟩) k→X k∨w.heap.size≤k:=fun k b=>by
  rcases b with b | b
  ·exact .inl b
  ·exact .inr (Nat.le_of_eq (by simpa [blk] using b))
 refine ⟨SA,sc,EA,ec,ev,h.hb,(c.block P h.lt).trans h.blk,(h.ownS.re i).kt b,(h.ownE.re i).keep b (fun g cur _ d=>(c.block g (Kab.1 d).1).trans d),h.err.kt b,h.toks.below (c.mono h.base_le),Zht h.ety h.etb b,h.etb,h.len,h.ii,h.dd,h.el,h.sl,fun k f => ?_,(h.sep.re i).map (fun _ _ a=>a.kt b) (fun _ _ a=>a.keep b (fun g cur _ d=>(c.block g (Kab.1 d).1).trans d))⟩
 rcases f with f | f
 ·have:=h.xx k f;have:=c.size;omega
 ·have e:w.heap.size=k:=by simpa [blk] using f
  rw [World.size_alloc];omega
theorem PM.re {Y:Nat→Prop} (h:PM X base P TA tc L s w) (a:∀ k,Y k→X k):PM Y base P TA tc L s w:=by
 obtain ⟨SA,sc,EA,ec,ev,h⟩:=h;exact ⟨SA,sc,EA,ec,ev,h.re a⟩
theorem ZcZ (h:PM X base P TA tc L s w):PM (XA X none) base P TA tc L s w:=h.re fun k a=>a.elim id (fun e=>by cases e)
theorem PM.xne (h:PM X base P TA tc L s w):¬ X w.heap.size:=fun a=>by
 obtain ⟨SA,sc,EA,ec,ev,h⟩:=h;exact Nat.lt_irrefl _ (h.xx _ a)
theorem PM.xlt (h:PM X base P TA tc L s w):∀ k,X k→k<w.heap.size:=by
 obtain ⟨SA,sc,EA,ec,ev,h⟩:=h;exact h.xx
theorem PM.ble (h:PM X base P TA tc L s w):base≤w.heap.size:=by
 obtain ⟨SA,sc,EA,ec,ev,h⟩:=h;exact h.base_le
theorem args2 (h:PM X base P TA tc L s w) (a b:Nat):ArgsV X base (w.alloc (.cells #[.int .i64 a,.int .i64 b] 3)) (.slice (some ⟨w.heap.size,0,none⟩) 2 2) [a,b]:=
 ⟨some ⟨w.heap.size,0,none⟩,2,rfl,Own.full w 3 [I64 a,I64 b] h.ble (by simp [maxLen]),fun k c=>by
  obtain rfl:w.heap.size=k:=by simpa [blk] using c
  exact h.xne⟩
theorem args1 (h:PM X base P TA tc L s w) (a:Nat):ArgsV X base (w.alloc (.cells #[.int .i64 a] 3)) (.slice (some ⟨w.heap.size,0,none⟩) 1 1) [a]:=
 ⟨some ⟨w.heap.size,0,none⟩,1,rfl,Own.full w 3 [I64 a] h.ble (by simp [maxLen]),fun k b=>by
  obtain rfl:w.heap.size=k:=by simpa [blk] using b
  exact h.xne⟩
end
structure G (L:List Tok) (s s':PS) (k:Nat):Prop where
 hi:s.i≤s'.i
 he:s'.es.length+s.i+k≤s.es.length+s'.i
 hl:s.i≤L.length→s'.i≤L.length
 hs:s'.ss=s.ss
 hd:s'.deep=s.deep
section
variable {L:List Tok} {s s' s'':PS} {k k':Nat}
theorem G.refl (s:PS):G L s s 0:=⟨Kag _,by omega,fun h=>h,rfl,rfl⟩
theorem G.trans (h:G L s s' k) (a:G L s' s'' k'):G L s s'' (k+k'):=
 ⟨Kah h.hi a.hi,by have:=h.he;have:=a.he;omega,fun x=>a.hl (h.hl x),a.hs.trans h.hs,a.hd.trans h.hd⟩
theorem G.less (h:G L s s' k) (a:k'≤k):G L s s' k':=⟨h.hi,by have:=h.he;omega,h.hl,h.hs,h.hd⟩
theorem ZbX (h:(nowP L s).kind≠0):s.i<L.length:=by
 unfold nowP at h
 by_cases a:s.i<L.length
 ·exact a
 ·rw [List.getElem?_eq_none (by omega)] at h
  exact absurd rfl h
theorem Zfg {t:ByteArray} (h:isP L s t=true):s.err=none∧((nowP L s).kind=3∨(nowP L s).kind=4)∧(nowP L s).text.toList=t.toList:=by
 unfold isP at h;simp only [Bool.and_eq_true,Bool.or_eq_true,beq_iff_eq,Option.isNone_iff_eq_none] at h;exact ⟨h.1.1,h.1.2,h.2⟩
theorem ZaD {t:ByteArray} (h:isP L s t=true):s.i<L.length:=ZbX (by have:=(Zfg h).2.1;omega)
theorem G.adv (h:s.i<L.length):G L s (advP s) 1:=⟨Nat.le_succ _,by show s.es.length+s.i+1≤s.es.length+(s.i+1);omega,fun _=>h,rfl,rfl⟩
theorem G.fail (s:PS) (c:Nat):G L s (failP L s c) 0:=by
 unfold failP;split
 ·exact ⟨Kag _,Kag _,fun h=>h,rfl,rfl⟩
 ·exact G.refl s
theorem G.want (s:PS) (t:ByteArray):G L s (wantP L s t) 0:=by
 unfold wantP;split
 ·rename_i h;exact (G.adv (ZaD h)).less (by omega)
 ·exact G.fail s _
theorem G.name (s:PS):G L s (nameP L s).1 0:=by
 unfold nameP;split
 ·exact G.fail s _
 ·rename_i h
  have a:(nowP L s).kind≠0:=by
   simp only [Bool.or_eq_true,not_or,bne_iff_ne,ne_eq,Decidable.not_not] at h;omega
  exact (G.adv (ZbX a)).less (by omega)
theorem G.number (s:PS):G L s (Zaw L s).1 0:=by
 unfold Zaw;split
 ·exact G.fail s _
 ·rename_i h
  have a:(nowP L s).kind≠0:=by
   simp only [Bool.or_eq_true,not_or,bne_iff_ne,ne_eq,Decidable.not_not] at h;omega
  exact (G.adv (ZbX a)).less (by omega)
theorem G.put (h:G L s s' (k+1)) (e:Ex):G L s (putP s' e).1 k:=by
 unfold putP;split
 ·exact h.less (by omega)
 ·exact ⟨h.hi,by have:=h.he;show (s'.es++[e]).length+s.i+k≤s.es.length+s'.i;rw [List.length_append];simp;omega,h.hl,h.hs,h.hd⟩
theorem Zck (h:(sinkP L s).2=true):s.deep≠32∧(sinkP L s).1={ s with deep:=s.deep+1 }:=by
 unfold sinkP at h ⊢;split
 ·rename_i h1;rw [if_pos h1] at h;cases h
 ·rename_i h1;exact ⟨h1,rfl⟩
theorem ZeD (h:(sinkP L s).2=false):s.deep=32∧(sinkP L s).1=failP L s 5:=by
 unfold sinkP at h ⊢;split
 ·rename_i h1;exact ⟨h1,rfl⟩
 ·rename_i h1;rw [if_neg h1] at h;cases h
theorem G.rise {a:PS} (b:a={ s with deep:=s.deep+1 }) (h:G L a s' k):G L s (riseP s') k:=by
 subst b;have c:=h.hd;exact ⟨h.hi,h.he,h.hl,h.hs,by show s'.deep-1=s.deep;rw [c];show s.deep+1-1=s.deep;omega⟩
end
structure AllG (L:List Tok) (f:Nat):Prop where
 expr:∀ s,G L s (exprP L f s).1 0
 sum:∀ s,G L s (sumP L f s).1 0
 sumLoop:∀ s a,G L s (ZaH L f s a).1 0
 prod:∀ s,G L s (prodP L f s).1 0
 prodLoop:∀ s a,G L s (Za6 L f s a).1 0
 sign:∀ s,G L s (signP L f s).1 0
 post:∀ s,G L s (postP L f s).1 0
 postLoop:∀ s a,G L s (ZaM L f s a).1 0
 atom:∀ s,G L s (atomP L f s).1 0
 args:∀ n s l,G L s (argsP L f n s l).1 0
theorem allG (L:List Tok) (f:Nat):AllG L f:=by
 induction f with
 | zero=>exact ⟨fun s=>G.refl s,fun s=>G.refl s,fun s a=>G.refl s,fun s=>G.refl s,fun s a=>G.refl s,fun s=>G.refl s,fun s=>G.refl s,fun s a=>G.refl s,fun s=>G.refl s,fun n s l=>by rw [argsP];exact G.refl s⟩
 | succ f ih=>
  refine ⟨?_,?_,?_,?_,?_,?_,?_,?_,?_,?_⟩
  ·intro s
   rw [exprP];have d:=ih.sum s;dsimp only;split
   ·rename_i h
    exact (((d.trans (G.adv (ZaD h))).trans (ih.sum _)).less (by omega):G L s _ (0+1)).put _
   ·exact d
  ·intro s
   rw [sumP];exact ((ih.prod s).trans (ih.sumLoop _ _)).less (by omega)
  ·intro s a
   rw [ZaH];dsimp only;split
   ·rename_i h
    exact (((((G.adv (ZaD h)).trans (ih.prod _)).less (by omega):G L s _ (0+1)).put _).trans (ih.sumLoop _ _)).less (by omega)
   ·split
    ·rename_i h
     exact (((((G.adv (ZaD h)).trans (ih.prod _)).less (by omega):G L s _ (0+1)).put _).trans (ih.sumLoop _ _)).less (by omega)
    ·exact G.refl s
  ·intro s
   rw [prodP];exact ((ih.sign s).trans (ih.prodLoop _ _)).less (by omega)
  ·intro s a
   rw [Za6];dsimp only;split
   ·rename_i h
    exact (((((G.adv (ZaD h)).trans (ih.sign _)).less (by omega):G L s _ (0+1)).put _).trans (ih.prodLoop _ _)).less (by omega)
   ·split
    ·rename_i h
     exact (((((G.adv (ZaD h)).trans (ih.sign _)).less (by omega):G L s _ (0+1)).put _).trans (ih.prodLoop _ _)).less (by omega)
    ·exact G.refl s
  ·intro s
   rw [signP];dsimp only;split
   ·rename_i h
    split
    ·rename_i hd
     obtain ⟨e,b⟩:=Zck hd;have c:G L (sinkP L s).1 (advP (sinkP L s).1) 1:=G.adv (by rw [b];exact ZaD h)
     exact (G.rise b ((c.trans (ih.sign _)).less (by omega):G L _ _ (0+1))).put _
    ·rename_i hd
     rw [(ZeD (by simpa using hd)).2]
     exact G.fail s _
   ·exact ih.post s
  ·intro s
   rw [postP];exact ((ih.atom s).trans (ih.postLoop _ _)).less (by omega)
  ·intro s a
   rw [ZaM];dsimp only;split
   ·rename_i h
    exact (((((G.adv (ZaD h)).trans (G.number _)).less (by omega):G L s _ (0+1)).put _).trans (ih.postLoop _ _)).less (by omega)
   ·exact G.refl s
  ·intro s
   rw [atomP];dsimp only;split
   ·exact G.refl s
   ·split
    ·rename_i h
     exact (G.adv (ZbX (by simp at h;omega)):G L s _ (0+1)).put _
    ·split
     ·rename_i h
      exact (G.adv (ZbX (by simp at h;omega)):G L s _ (0+1)).put _
     ·split
      ·exact G.fail s _
      ·rename_i hc
       have g:s.i<L.length:=by
        simp only [Bool.and_eq_true,Bool.not_eq_true',beq_iff_eq,not_and] at hc
        cases ho:isP L s tOpen with
        | true=>exact ZaD ho
        | false=>
         have j:=hc ho;apply ZbX
         intro m
         apply j;unfold callP;rw [m];rfl
       split
       ·rename_i hd
        obtain ⟨e,b⟩:=Zck hd;have c:G L (sinkP L s).1 (advP (sinkP L s).1) 1:=G.adv (by rw [b];exact g)
        split
        ·exact G.rise b (((c.trans (ih.expr _)).trans (G.want _ _)).less (by omega))
        ·exact (G.rise b ((((c.trans (G.want _ _)).trans (ih.args _ _ _)).trans (G.want _ _)).less (by omega):G L _ _ (0+1))).put _
       ·rename_i hd
        rw [(ZeD (by simpa using hd)).2]
        exact G.fail s _
  ·intro n s l
   cases n with
   | zero=>rw [argsP];exact G.refl s
   | succ n=>
    rw [argsP];split
    ·exact ((ih.expr _).trans (ih.args _ _ _)).less (by omega)
    ·exact (((G.want _ _).trans (ih.expr _)).trans (ih.args _ _ _)).less (by omega)
end Go.Proofs.YtghlnncfigkkaaaGreatDoor
