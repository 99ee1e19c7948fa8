/-
  The tokens' texts with something between them are scanned to the same tokens. No program.
-/
import Derived.Test.YtbiobefcagboeaaDoorToksL
namespace Go.Proofs.YtbiobefcagboeaaDoor
set_option linter.unusedVariables false
set_option linter.unusedSimpArgs false
open Go.RowKit
/-- Each token with what is laid behind it. -/
def pairs (g : Nat → List UInt8) (l : List Tok) : List (Tok × List UInt8) := l.zipIdx.map fun x => (x.1, g x.2)
theorem pairs_append (g : Nat → List UInt8) (l : List Tok) (t : Tok) : pairs g (l ++ [t]) = pairs g l ++ [(t, g l.length)] := by
  unfold pairs
  rw [List.zipIdx_append, List.map_append]
  simp
theorem pairs_length (g : Nat → List UInt8) (l : List Tok) : (pairs g l).length = l.length := by unfold pairs; simp
theorem pairs_nth (g : Nat → List UInt8) (l : List Tok) (i : Nat) (t : Tok) (h : l[i]? = some t) : (pairs g l)[i]? = some (t, g i) := by
  unfold pairs
  rw [List.getElem?_map, List.getElem?_zipIdx, h]
  simp
theorem pairs_mem (g : Nat → List UInt8) (l : List Tok) (x : Tok × List UInt8) (h : x ∈ pairs g l) : x.1 ∈ l ∧ ∃ j, x.2 = g j := by
  unfold pairs at h
  obtain ⟨y, hy, rfl⟩ := List.mem_map.1 h
  obtain ⟨a, b⟩ := y
  exact ⟨List.fst_mem_of_mem_zipIdx hy, b, rfl⟩
theorem wideL_append (a b : List (Tok × List UInt8)) : wideL (a ++ b) = wideL a ++ wideL b := by unfold wideL; simp
theorem wide_step (g : Nat → List UInt8) (l : List Tok) (i : Nat) (t : Tok) (h : l[i]? = some t) : wideL (pairs g (l.take (i + 1))) = wideL (pairs g (l.take i)) ++ (t.text.data.toList ++ g i) := by
  have hi : i < l.length := (List.getElem?_eq_some_iff.1 h).1
  rw [List.take_add_one, h]
  show wideL (pairs g (l.take i ++ [t])) = _
  rw [pairs_append, wideL_append, List.length_take, Nat.min_eq_left (Nat.le_of_lt hi)]
  unfold wideL
  simp
theorem tok_at {s : ByteArray} {r : List Tok} (h : Toks 0 s.data.toList r) {t : Tok} (ht : t ∈ r ++ [endTok s]) : t.pos + t.text.size ≤ s.size ∧ s.extract t.pos (t.pos + t.text.size) = t.text := by
  rcases List.mem_append.1 ht with ht | ht
  · obtain ⟨a, b, c⟩ := toks_pos h t ht
    rw [len_data] at b
    refine ⟨by omega, ?_⟩
    apply ByteArray.ext
    apply Array.ext'
    rw [textAt_extract]
    exact c
  · simp at ht
    subst ht
    refine ⟨Nat.le_refl _, ?_⟩
    apply ByteArray.ext
    apply Array.ext'
    rw [textAt_extract]
    unfold textAt endTok
    simp
theorem wide_scan {s U : ByteArray} {r l : List Tok} (g : Nat → List UInt8) (hg : ∀ j, GapOk (g j)) (h : Toks 0 s.data.toList r) (hl : l = r ++ [endTok s]) (hr : r.length ≤ 512) (hU : U.data.toList = wideL (pairs g l)) (hs : U.size ≤ 4096) :
    ∃ l2, scanM U = .toks l2 ∧ l2.length = l.length ∧ ∀ (i : Nat) (t : Tok), l[i]? = some t → ∃ pos, l2[i]? = some ⟨t.kind, t.text, t.num, pos⟩ ∧ pos + t.text.size ≤ U.size ∧ U.extract pos (pos + t.text.size) = t.text := by
  have hw := toks_wide (g r.length) (hg _).2 (pairs g r) 0 [] (fun R => by simp) (fun x hx => by
    obtain ⟨h1, j, h2⟩ := pairs_mem g r x hx
    exact ⟨toks_good h _ h1, by rw [h2]; exact hg j⟩)
  have e : [] ++ (wideL (pairs g r) ++ g r.length) = U.data.toList := by
    rw [hU, hl, pairs_append, wideL_append]
    unfold wideL endTok
    simp
  rw [e] at hw
  have hlen : (retok (0 + List.length (α := UInt8) []) (pairs g r)).length = r.length := by rw [retok_length, pairs_length]
  refine ⟨_, scanM_of hs hw (by omega), by rw [hl, List.length_append, List.length_append, hlen]; rfl, fun i t ht => ?_⟩
  have key : ∀ t', (retok (0 + List.length (α := UInt8) []) (pairs g r) ++ [endTok U])[i]? = some t' → t'.pos + t'.text.size ≤ U.size ∧ U.extract t'.pos (t'.pos + t'.text.size) = t'.text := fun t' ht' => tok_at hw (List.mem_of_getElem? ht')
  rw [hl] at ht
  by_cases hi : i < r.length
  · rw [List.getElem?_append_left hi] at ht
    obtain ⟨pos, hp⟩ := retok_nth (pairs g r) (0 + List.length (α := UInt8) []) i _ (pairs_nth g r i t ht)
    have hp' : (retok (0 + List.length (α := UInt8) []) (pairs g r) ++ [endTok U])[i]? = some ⟨t.kind, t.text, t.num, pos⟩ := by
      rw [List.getElem?_append_left (by omega)]; exact hp
    exact ⟨pos, hp', key _ hp'⟩
  · have hi' : i = r.length := by
      have := (List.getElem?_eq_some_iff.1 ht).1
      simp at this
      omega
    subst hi'
    simp at ht
    subst ht
    have hp' : (retok (0 + List.length (α := UInt8) []) (pairs g r) ++ [endTok U])[r.length]? = some ⟨0, ⟨#[]⟩, 0, U.size⟩ := by
      rw [List.getElem?_append_right (by omega), hlen, Nat.sub_self]; rfl
    exact ⟨U.size, hp', key _ hp'⟩
end Go.Proofs.YtbiobefcagboeaaDoor
