/-
 Rows of shapes as they are read.
-/
import Derived.Test.YtghlnncfigkkaaaGreatDoorQChkB
import Derived.Test.YtghlnncfigkkaaaGreatDoorQChkV
namespace Go.Proofs.YtghlnncfigkkaaaGreatDoor
set_option linter.unusedVariables false
set_option linter.unusedSimpArgs false
open Go.RowKit
def RdSh (w:World) (A:Option Addr) (xs:List (List Int)):Prop:=xs=[]∨∃ b o,A=some ⟨b,o,none⟩∧b<w.heap.size∧∀ (j:Nat) (l:List Int),xs[j]?=some l→∃ A' c,w.cell? ⟨b,o+j,none⟩=some (.slice A' l.length c)∧Rd w w.heap.size A' (l.map VI)∧l.length≤1000000
theorem RdSh.next {w w':World} {A:Option Addr} {xs:List (List Int)} (h:RdSh w A xs) (hb:Below w.heap.size w w'):RdSh w' A xs:=by
 rcases h with h | ⟨b,o,hA,hlt,hc⟩
 ·exact .inl h
 ·refine .inr ⟨b,o,hA,Kae hlt hb.size,fun j l hj => ?_⟩
  obtain ⟨A',c,h1,h2,h3⟩:=hc j l hj
  exact ⟨A',c,(hb.cell (p:=⟨b,o+j,none⟩) hlt).trans h1,h2.next hb,h3⟩
theorem Zb2 {w:World} {base c:Nat} {e:TypeId} {A:Option Addr} {xs:List Value} (h:Own w base e A c xs) {g:Nat} (hg:blk A=some g):∃ cur,w.heap[g]?=some (.cells cur e (0,0)):=by
 rcases h.2 with ⟨hv,_⟩ | ⟨g',cap',cur,hv,hb,hh,_⟩
 ·injection hv with a
  rw [a] at hg
  cases hg
 ·injection hv with a
  rw [a] at hg
  have:g'=g:=by simpa [blk] using hg
  subst this
  exact ⟨cur,hh⟩
theorem Zfi (w:World) (q k:Nat) (v:Value) {g:Nat} (h:g≠q):(w.setCell ⟨q,k,none⟩ v).heap[g]?=w.heap[g]?:=by
 unfold World.setCell
 simp only [Array.getElem?_modify]
 rw [if_neg (fun e=>h e.symm)]
structure KQ (q B:Nat) (w w':World):Prop where
 sz:w.heap.size≤w'.heap.size
 ki:∀ g cur,B≤g→w.heap[g]?=some (.cells cur 3 (0,0))→∃ cur',w'.heap[g]?=some (.cells cur' 3 (0,0))∧cur'.size=cur.size
 ko:∀ g o,g≠q→w.heap[g]?=some o→(∀ cur,o≠.cells cur 3 (0,0))→w'.heap[g]?=some o
section
variable {q B:Nat} {w w' w'':World}
end
end Go.Proofs.YtghlnncfigkkaaaGreatDoor
