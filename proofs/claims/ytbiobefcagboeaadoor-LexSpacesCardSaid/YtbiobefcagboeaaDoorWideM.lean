/-
  The tokens' texts with gaps of any of the good kinds between them are scanned to the same tokens. No program.
-/
import Derived.Test.YtbiobefcagboeaaDoorWideL
namespace Go.Proofs.YtbiobefcagboeaaDoor
set_option linter.unusedVariables false
set_option linter.unusedSimpArgs false
open Go.RowKit
theorem wide_scan2 {s U : ByteArray} {r l : List Tok} {xs : List (Tok × List UInt8)} (hx : xs.map Prod.fst = l) (hg : ∀ x ∈ xs, GapOk x.2) (h : Toks 0 s.data.toList r) (hl : l = r ++ [endTok s]) (hr : r.length ≤ 512) (hU : U.data.toList = wideL xs) (hs : U.size ≤ 4096) :
    ∃ l2, scanM U = .toks l2 ∧ l2.length = l.length ∧ ∀ (i : Nat) (t : Tok), l[i]? = some t → ∃ pos, l2[i]? = some ⟨t.kind, t.text, t.num, pos⟩ ∧ pos + t.text.size ≤ U.size ∧ U.extract pos (pos + t.text.size) = t.text := by
  rw [hl] at hx
  obtain ⟨ys, zs, rfl, hy, hz⟩ := List.map_eq_append_iff.1 hx
  obtain ⟨ge, rfl⟩ : ∃ ge, zs = [(endTok s, ge)] := by
    cases zs with
    | nil => simp at hz
    | cons z zs =>
      cases zs with
      | nil => simp at hz; exact ⟨z.2, by rw [← hz]⟩
      | cons y zs => simp at hz
  have hge : GapOk ge := hg (endTok s, ge) (by simp)
  have hyr : ys.length = r.length := by rw [← hy, List.length_map]
  have hw := toks_wide ge hge.2 ys 0 [] (fun R => by simp) (fun x hxx => ⟨toks_good h _ (by rw [← hy]; exact List.mem_map_of_mem hxx), hg x (by simp [hxx])⟩)
  have e : [] ++ (wideL ys ++ ge) = U.data.toList := by
    rw [hU, wideL_append]
    unfold wideL endTok
    simp
  rw [e] at hw
  have hlen : (retok (0 + List.length (α := UInt8) []) ys).length = r.length := by rw [retok_length, hyr]
  refine ⟨_, scanM_of hs hw (by omega), by rw [hl, List.length_append, List.length_append, hlen]; rfl, fun i t ht => ?_⟩
  have key : ∀ t', (retok (0 + List.length (α := UInt8) []) ys ++ [endTok U])[i]? = some t' → t'.pos + t'.text.size ≤ U.size ∧ U.extract t'.pos (t'.pos + t'.text.size) = t'.text := fun t' ht' => tok_at hw (List.mem_of_getElem? ht')
  rw [hl] at ht
  by_cases hi : i < r.length
  · rw [List.getElem?_append_left hi] at ht
    have hyi : ys[i]? = some (ys[i]'(by omega)) := List.getElem?_eq_getElem _
    have hyt : (ys[i]'(by omega)).1 = t := by
      rw [← hy, List.getElem?_map, hyi] at ht
      simpa using ht
    obtain ⟨pos, hp⟩ := retok_nth ys (0 + List.length (α := UInt8) []) i _ hyi
    rw [hyt] at hp
    have hp' : (retok (0 + List.length (α := UInt8) []) ys ++ [endTok U])[i]? = some ⟨t.kind, t.text, t.num, pos⟩ := by
      rw [List.getElem?_append_left (by omega)]; exact hp
    exact ⟨pos, hp', key _ hp'⟩
  · have hi' : i = r.length := by
      have := (List.getElem?_eq_some_iff.1 ht).1
      simp at this
      omega
    subst hi'
    simp at ht
    subst ht
    have hp' : (retok (0 + List.length (α := UInt8) []) ys ++ [endTok U])[r.length]? = some ⟨0, ⟨#[]⟩, 0, U.size⟩ := by
      rw [List.getElem?_append_right (by omega), hlen, Nat.sub_self]; rfl
    exact ⟨U.size, hp', key _ hp'⟩
theorem map_step {xs : List (Tok × List UInt8)} {l : List Tok} {i : Nat} {t : Tok} (hx : xs.map Prod.fst = l.take i) (h : l[i]? = some t) (g : List UInt8) : (xs ++ [(t, g)]).map Prod.fst = l.take (i + 1) := by
  rw [List.take_add_one, h, List.map_append, hx]
  rfl
theorem wide_snoc (xs : List (Tok × List UInt8)) (t : Tok) (g : List UInt8) : wideL (xs ++ [(t, g)]) = wideL xs ++ (t.text.data.toList ++ g) := by
  rw [wideL_append]
  unfold wideL
  simp
end Go.Proofs.YtbiobefcagboeaaDoor
