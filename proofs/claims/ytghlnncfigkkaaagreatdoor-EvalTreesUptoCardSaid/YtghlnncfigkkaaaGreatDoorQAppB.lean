/-
  append of bytes, and of words, onto rows of the call's own: the general law at this program's types. Stores: what a store that changes nothing leaves, and what a store leaves of errors and of rows in other blocks.
-/
import Derived.Test.YtghlnncfigkkaaaGreatDoorQNum
import Derived.Test.YtghlnncfigkkaaaGreatDoorQApp
import Derived.Test.YtghlnncfigkkaaaGreatDoorQAsE
import Derived.Test.YtghlnncfigkkaaaGreatDoorRows
import Derived.Deep.OwnRows
namespace Go.Proofs.YtghlnncfigkkaaaGreatDoor
set_option linter.unusedVariables false
set_option linter.unusedSimpArgs false
open Go.RowKit
theorem ZbY (w:World) (t:Addr) (v:Value) {k:Nat} (h:k≠t.block):(w.setCell t v).heap[k]?=w.heap[k]?:=by
 unfold World.setCell
 simp only [Array.getElem?_modify]
 rw [if_neg (fun e=>h e.symm)]
theorem IsErr.set {w:World} {t:Addr} {x:Value} {cs:Array Value} {T:TypeId} {fr:Nat × Nat} (hp:w.heap[t.block]?=some (.cells cs T fr)) (hT:T≠192):
  ∀ {l:List (ByteArray × Int)} {v:Value} {code:Int},IsErr w v l code→IsErr (w.setCell t x) v l code:=by
 intro l
 induction l with
 | nil=>intro v code h;exact h
 | cons p r ih=>
  intro v code h
  obtain ⟨a,inner,rfl,hc,hi⟩:=h
  refine ⟨a,inner,rfl,?_,ih hi⟩
  rw [ZbY w t x (fun e=>by rw [e,hp] at hc;injection hc with hc;injection hc with _ h2;exact hT h2)]
  exact hc
theorem Own.other {w:World} {base:Nat} {e:TypeId} {A:Option Addr} {cap:Nat} {xs:List Value} (h:Own w base e A cap xs) (t:Addr) (x:Value) (ht:blk A≠some t.block):Own (w.setCell t x) base e A cap xs:=by
 refine ⟨h.1,?_⟩
 rcases h.2 with hv | ⟨g,cap',cur,hv,hb1,hg,r⟩
 ·exact .inl hv
 ·refine .inr ⟨g,cap',cur,hv,hb1,?_,r⟩
  have:blk A=some g:=by injection hv with a;rw [a];rfl
  rw [ZbY w t x (fun e=>ht (by rw [this,e]))]
  exact hg
end Go.Proofs.YtghlnncfigkkaaaGreatDoor
