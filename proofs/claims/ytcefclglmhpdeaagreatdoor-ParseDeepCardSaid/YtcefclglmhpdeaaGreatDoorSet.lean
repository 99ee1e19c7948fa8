/-
  Stores: what a store that changes nothing leaves, and what a store leaves of errors and of rows in other blocks.
-/
import Derived.Test.YtcefclglmhpdeaaGreatDoorFault
import Derived.Test.YtcefclglmhpdeaaGreatDoorAppB
namespace Go.Proofs.YtcefclglmhpdeaaGreatDoor
set_option linter.unusedVariables false
set_option linter.unusedSimpArgs false
open Go.RowKit
theorem setCell_heap_ne (w : World) (t : Addr) (v : Value) {k : Nat} (h : k ≠ t.block) : (w.setCell t v).heap[k]? = w.heap[k]? := by
  unfold World.setCell
  simp only [Array.getElem?_modify]
  rw [if_neg (fun e => h e.symm)]
theorem setCell_id {w : World} {t : Addr} {v : Value} (h : w.cell? t = some v) : w.setCell t v = w := by
  have hh : (w.setCell t v).heap = w.heap := by
    apply Array.ext_getElem?
    intro k
    by_cases hk : k = t.block
    · subst hk
      unfold World.cell? at h
      unfold World.setCell
      simp only [Array.getElem?_modify, if_true]
      cases hb : w.heap[t.block]? with
      | none => rfl
      | some o =>
        rw [hb] at h
        cases o with
        | cells c e f =>
          simp only [Option.map_some] at h ⊢
          cases hs : t.spot.isSome with
          | true => simp [hs] at h
          | false =>
            simp only [hs, Bool.false_eq_true, if_false] at h ⊢
            obtain ⟨hlt, he⟩ := Array.getElem?_eq_some_iff.1 h
            congr 2
            apply Array.ext_getElem?
            intro j
            rw [Array.getElem?_setIfInBounds]
            split
            · rename_i hj
              subst hj
              exact h.symm
            · rfl
        | _ => simp at h
    · exact setCell_heap_ne w t v hk
  unfold World.setCell at hh ⊢
  simp only at hh
  rw [hh]
theorem IsErr.set {w : World} {t : Addr} {x : Value} {cs : Array Value} {T : TypeId} {fr : Nat × Nat} (hp : w.heap[t.block]? = some (.cells cs T fr)) (hT : T ≠ 90) :
    ∀ {l : List (ByteArray × Int)} {v : Value} {code : Int}, IsErr w v l code → IsErr (w.setCell t x) v l code := by
  intro l
  induction l with
  | nil => intro v code h; exact h
  | cons p r ih =>
    intro v code h
    obtain ⟨a, inner, rfl, hc, hi⟩ := h
    refine ⟨a, inner, rfl, ?_, ih hi⟩
    rw [setCell_heap_ne w t x (fun e => by rw [e, hp] at hc; injection hc with hc; injection hc with _ h2; exact hT h2)]
    exact hc
theorem Own.other {w : World} {base : Nat} {e : TypeId} {A : Option Addr} {cap : Nat} {xs : List Value} (h : Own w base e A cap xs) (t : Addr) (x : Value) (ht : blk A ≠ some t.block) : Own (w.setCell t x) base e A cap xs := by
  refine ⟨h.1, ?_⟩
  rcases h.2 with hv | ⟨g, cap', cur, hv, hb1, hg, r⟩
  · exact .inl hv
  · refine .inr ⟨g, cap', cur, hv, hb1, ?_, r⟩
    have : blk A = some g := by injection hv with a; rw [a]; rfl
    rw [setCell_heap_ne w t x (fun e => ht (by rw [this, e]))]
    exact hg
end Go.Proofs.YtcefclglmhpdeaaGreatDoor
