/-
  The scan of a source text, read as a relation on lists of bytes: what blanks and remarks between tokens change. No program.
-/
import Derived.Test.YthnkeejiocnflaaGreatDoorQMin
namespace Go.Proofs.YthnkeejiocnflaaGreatDoor
set_option linter.unusedVariables false
set_option linter.unusedSimpArgs false
open Go.RowKit
def letO : Option UInt8 → Bool
  | none => false
  | some c => letB c
/-- The token at the head of a list. -/
def oneL : List UInt8 → Option (Nat × Nat × Nat)
  | [] => none
  | c :: r =>
    if digB c then
      if decV ((c :: r).take (spanN digB (c :: r))) < 18446744073709551616 ∧ (c.toNat ≠ 48 ∨ spanN digB (c :: r) = 1) ∧ letO ((c :: r)[spanN digB (c :: r)]?) = false then some (2, spanN digB (c :: r), decV ((c :: r).take (spanN digB (c :: r)))) else none
    else if lowB c then
      if spanN namB (c :: r) ≤ 16 then some (if wordB ((c :: r).take (spanN namB (c :: r))) then 4 else 1, spanN namB (c :: r), 0) else none
    else if Lib.hasPrefix (c :: r) [62, 62] then some (3, 2, 0)
    else if signB c then some (3, 1, 0) else none
theorem oneL_cons (c : UInt8) (r : List UInt8) : oneL (c :: r) =
    if digB c then
      if decV ((c :: r).take (spanN digB (c :: r))) < 18446744073709551616 ∧ (c.toNat ≠ 48 ∨ spanN digB (c :: r) = 1) ∧ letO ((c :: r)[spanN digB (c :: r)]?) = false then some (2, spanN digB (c :: r), decV ((c :: r).take (spanN digB (c :: r)))) else none
    else if lowB c then
      if spanN namB (c :: r) ≤ 16 then some (if wordB ((c :: r).take (spanN namB (c :: r))) then 4 else 1, spanN namB (c :: r), 0) else none
    else if Lib.hasPrefix (c :: r) [62, 62] then some (3, 2, 0)
    else if signB c then some (3, 1, 0) else none := rfl
theorem spanN_cons (p : UInt8 → Bool) (c : UInt8) (r : List UInt8) : spanN p (c :: r) = if p c then spanN p r + 1 else 0 := rfl
theorem letAt_in0 (s : ByteArray) {k : Nat} (h : k < s.size) : letAt s k = letB s[k] := by unfold letAt; rw [dif_pos h]
theorem oneM_list (s : ByteArray) (k : Nat) : oneM s k = oneL (s.data.toList.drop k) := by
  by_cases h : k < s.size
  · have e1 : ∀ p, spanAt p s k = spanN p (s.data.toList.drop k) := fun p => by unfold spanAt; rfl
    have e2 : ∀ n, textAt s k n = (s.data.toList.drop k).take n := fun n => rfl
    have e3 : ∀ n, letAt s (k + n) = letO ((s.data.toList.drop k)[n]?) := fun n => by
      rw [List.getElem?_drop]
      by_cases hn : k + n < s.size
      · rw [letAt_in0 s hn, List.getElem?_eq_getElem (by rw [len_data]; exact hn)]; rfl
      · unfold letAt; rw [dif_neg hn, List.getElem?_eq_none (by rw [len_data]; omega)]; rfl
    unfold oneM
    rw [dif_pos h]
    simp only [e1, e2, e3]
    rw [drop_at s h]
    rfl
  · rw [List.drop_eq_nil_of_le (by rw [len_data]; omega)]
    unfold oneM
    rw [dif_neg h]
    rfl
theorem spanN_eq (p : UInt8 → Bool) : ∀ (L : List UInt8) (n : Nat), n ≤ L.length → (∀ c ∈ L.take n, p c = true) → (∀ c, L[n]? = some c → p c = false) → spanN p L = n
  | [], n, h, _, _ => by simp at h; subst h; rfl
  | c :: r, 0, _, _, h => by
    rw [spanN_cons]
    rw [if_neg (by rw [h c rfl]; simp)]
  | c :: r, n + 1, h, h1, h2 => by
    rw [spanN_cons]
    rw [if_pos (h1 c (by simp)), spanN_eq p r n (by simpa using h) (fun d hd => h1 d (by rw [List.take_succ_cons]; exact List.mem_cons_of_mem _ hd)) (fun d hd => h2 d (by simpa using hd))]
theorem spanN_stop (p : UInt8 → Bool) : ∀ (L : List UInt8) (c : UInt8), L[spanN p L]? = some c → p c = false
  | [], c, h => by simp at h
  | d :: r, c, h => by
    rw [spanN_cons] at h
    split at h
    · exact spanN_stop p r c (by simpa using h)
    · rename_i hd
      simp at h
      subst h
      simpa using hd
theorem dig_nam {c : UInt8} (h : namB c = false) : digB c = false ∧ letB c = false := by
  unfold namB at h
  cases hl : letB c <;> cases hd : digB c <;> simp_all
theorem low_nam {c : UInt8} (h : lowB c = true) : namB c = true := by
  unfold namB
  rw [show letB c = (lowB c || ((c.toNat : Int) == 95)) from rfl, h]
  rfl
theorem pre_take (L L' : List UInt8) (h : L'.take 2 = L.take 2) (hp : Lib.hasPrefix L [62, 62] = true) : Lib.hasPrefix L' [62, 62] = true := by
  unfold Lib.hasPrefix at hp ⊢
  rw [List.isPrefixOf_iff_prefix, List.prefix_iff_eq_take] at hp ⊢
  simp only [List.length_cons, List.length_nil] at hp ⊢
  rw [hp]
  exact h.symm
theorem sign_no {c : UInt8} (h : signB c = true) : c ≠ 62 := by
  rintro rfl
  revert h
  decide
theorem pre_no {c : UInt8} {r : List UInt8} (h : c ≠ 62) : Lib.hasPrefix (c :: r) [62, 62] = false := by
  unfold Lib.hasPrefix
  simp only [List.isPrefixOf]
  have : ((62 : UInt8) == c) = false := by rw [beq_eq_false_iff_ne]; exact fun e => h e.symm
  rw [this]
  rfl
/-- What is a token hangs on its own bytes and on what stands behind it alone. -/
theorem one_local {L L' : List UInt8} {t n v : Nat} (h : oneL L = some (t, n, v)) (ht : L'.take n = L.take n) (hn : n ≤ L'.length) (hs : ∀ c, L'[n]? = some c → namB c = false ∨ L[n]? = some c) : oneL L' = some (t, n, v) := by
  cases L with
  | nil => cases h
  | cons c r =>
    have key : ∀ m : Nat, n = m + 1 → ∃ r', L' = c :: r' := by
      intro m hm
      subst hm
      cases L' with
      | nil => simp at hn
      | cons c' r' =>
        rw [List.take_succ_cons, List.take_succ_cons] at ht
        injection ht with h1 h2
        exact ⟨r', by rw [h1]⟩
    rw [oneL_cons] at h
    split at h
    · rename_i hd
      split at h
      · rename_i hc
        injection h with h
        injection h with e1 h
        injection h with e2 e3
        have hall := spanN_all digB (c :: r)
        have hstop := spanN_stop digB (c :: r)
        obtain ⟨r', rfl⟩ := key (spanN digB r) (by rw [← e2]; rw [spanN_cons, if_pos hd])
        rw [e2] at hall hstop hc e3
        have hsp : spanN digB (c :: r') = n := by
          refine spanN_eq _ _ _ hn (by rw [ht]; exact hall) fun d hdd => ?_
          rcases hs d hdd with h1 | h1
          · exact (dig_nam h1).1
          · exact hstop d h1
        have hlast : letO ((c :: r')[n]?) = false := by
          cases hx : (c :: r')[n]? with
          | none => rfl
          | some d =>
            rcases hs d hx with h1 | h1
            · exact (dig_nam h1).2
            · rw [← h1]; exact hc.2.2
        rw [oneL_cons]
        rw [if_pos hd, hsp, ht, if_pos ⟨hc.1, hc.2.1, hlast⟩, e1, e3]
      · cases h
    · rename_i hd
      split at h
      · rename_i hl
        split at h
        · rename_i hc
          injection h with h
          injection h with e1 h
          injection h with e2 e3
          have hall := spanN_all namB (c :: r)
          have hstop := spanN_stop namB (c :: r)
          obtain ⟨r', rfl⟩ := key (spanN namB r) (by rw [← e2]; rw [spanN_cons, if_pos (low_nam hl)])
          rw [e2] at hall hstop hc e1
          have hsp : spanN namB (c :: r') = n := by
            refine spanN_eq _ _ _ hn (by rw [ht]; exact hall) fun d hdd => ?_
            rcases hs d hdd with h1 | h1
            · exact h1
            · exact hstop d h1
          rw [oneL_cons]
          rw [if_neg hd, if_pos hl, hsp, ht, if_pos hc, e1, e3]
        · cases h
      · rename_i hl
        split at h
        · rename_i hp
          injection h with h
          injection h with e1 h
          injection h with e2 e3
          obtain ⟨r', rfl⟩ := key 1 (by rw [← e2])
          have hp' := pre_take (c :: r) (c :: r') (by rw [← e2] at ht; exact ht) hp
          rw [oneL_cons]
          rw [if_neg hd, if_neg hl, if_pos hp', e1, e2, e3]
        · rename_i hp
          split at h
          · rename_i hg
            injection h with h
            injection h with e1 h
            injection h with e2 e3
            obtain ⟨r', rfl⟩ := key 0 (by rw [← e2])
            rw [oneL_cons]
            rw [if_neg hd, if_neg hl, if_neg (by rw [pre_no (sign_no hg)]; simp), if_pos hg, e1, e2, e3]
          · cases h
theorem tok_char {c : UInt8} (h : digB c = true ∨ lowB c = true ∨ c = 62 ∨ signB c = true) : c.toNat ≠ 35 ∧ blankB c = false := by
  rcases h with h | h | h | h
  · have := (digB_iff c).1 h
    unfold blankB
    simp
    omega
  · unfold lowB at h
    unfold blankB
    simp at h ⊢
    omega
  · subst h; decide
  · unfold signB at h
    rw [List.contains_iff_mem] at h
    unfold signL at h
    simp only [List.mem_cons, List.not_mem_nil, or_false] at h
    rcases h with h | h | h | h | h | h | h | h | h | h | h | h <;> subst h <;> decide
theorem one_pos {L : List UInt8} {t n v : Nat} (h : oneL L = some (t, n, v)) : 1 ≤ n ∧ n ≤ L.length ∧ skipN false L = 0 ∧ v < 18446744073709551616 := by
  cases L with
  | nil => cases h
  | cons c r =>
    have hz : (digB c = true ∨ lowB c = true ∨ c = 62 ∨ signB c = true) → skipN false (c :: r) = 0 := fun hh => by
      obtain ⟨h1, h2⟩ := tok_char hh
      rw [skipN, if_neg h1, if_neg (by rw [h2]; simp)]
    rw [oneL_cons] at h
    split at h
    · rename_i hd
      split at h
      · rename_i hc
        injection h with h
        injection h with e1 h
        injection h with e2 e3
        refine ⟨?_, ?_, hz (.inl hd), by rw [← e3]; exact hc.1⟩
        · rw [← e2]; rw [spanN_cons, if_pos hd]; omega
        · rw [← e2]; exact spanN_le _ _
      · cases h
    · split at h
      · rename_i hl
        split at h
        · injection h with h
          injection h with e1 h
          injection h with e2 e3
          refine ⟨?_, ?_, hz (.inr (.inl hl)), by omega⟩
          · rw [← e2]; rw [spanN_cons, if_pos (low_nam hl)]; omega
          · rw [← e2]; exact spanN_le _ _
        · cases h
      · split at h
        · rename_i hp
          injection h with h
          injection h with e1 h
          injection h with e2 e3
          have hc : c = 62 := by
            by_cases e : c = 62
            · exact e
            · rw [pre_no e] at hp; cases hp
          unfold Lib.hasPrefix at hp
          rw [List.isPrefixOf_iff_prefix] at hp
          have hl := hp.length_le
          simp at hl
          exact ⟨by omega, by simp; omega, hz (.inr (.inr (.inl hc))), by omega⟩
        · split at h
          · rename_i hg
            injection h with h
            injection h with e1 h
            injection h with e2 e3
            exact ⟨by omega, by simp; omega, hz (.inr (.inr (.inr hg))), by omega⟩
          · cases h
/-- These are the tokens of a text from here on; p: where it stands. -/
inductive Toks : Nat → List UInt8 → List Tok → Prop
  | done (p : Nat) (L : List UInt8) (h : skipN false L = L.length) : Toks p L []
  | tok (p : Nat) (L : List UInt8) (t n v : Nat) (r : List Tok) (h : skipN false L < L.length) (h1 : oneL (L.drop (skipN false L)) = some (t, n, v))
      (h2 : Toks (p + skipN false L + n) (L.drop (skipN false L + n)) r) : Toks p L (⟨t, ⟨((L.drop (skipN false L)).take n).toArray⟩, v, p + skipN false L⟩ :: r)
theorem ext_text (s : ByteArray) (k n : Nat) : s.extract k (k + n) = ⟨((s.data.toList.drop k).take n).toArray⟩ := by
  apply ByteArray.ext
  apply Array.ext'
  rw [textAt_extract]
  rfl
theorem skipAt_list (s : ByteArray) (k : Nat) : skipAt s false k = k + skipN false (s.data.toList.drop k) := skipAt_eq s false k
theorem scan_to (s : ByteArray) : ∀ (f k : Nat) (acc l : List Tok), k ≤ s.size → s.size - skipAt s false k < f → acc.length ≤ 512 → scanGo f s (skipAt s false k) acc = .toks l →
    ∃ r, l = acc ++ r ++ [endTok s] ∧ Toks k (s.data.toList.drop k) r ∧ acc.length + r.length ≤ 512 := by
  intro f
  induction f with
  | zero => intro k acc l _ h; omega
  | succ f ih =>
    intro k acc l hk hf ha h
    obtain ⟨b1, b2⟩ := skipAt_le s false hk
    have hj := skipAt_list s k
    by_cases hlt : skipAt s false k < s.size
    · cases ho : oneM s (skipAt s false k) with
      | none => rw [scanGo_bad hlt ho] at h; cases h
      | some x =>
        obtain ⟨t, n, v⟩ := x
        obtain ⟨n1, n2, n3, n4⟩ := oneM_bounds ho
        by_cases hfull : acc.length = 512
        · rw [scanGo_full hlt ho hfull] at h; cases h
        · rw [scanGo_step hlt ho hfull] at h
          obtain ⟨c1, c2⟩ := skipAt_le s false n2
          obtain ⟨r, e, ht, hl⟩ := ih _ _ _ n2 (by omega) (by rw [List.length_append]; simp; omega) h
          rw [oneM_list] at ho
          rw [hj] at ho ht e n2
          have hlen : (s.data.toList.drop k).length = s.size - k := by rw [List.length_drop, len_data]
          refine ⟨⟨t, ⟨(((s.data.toList.drop k).drop (skipN false (s.data.toList.drop k))).take n).toArray⟩, v, k + skipN false (s.data.toList.drop k)⟩ :: r, ?_, ?_, ?_⟩
          · rw [e, ext_text, List.drop_drop]
            simp
          · refine Toks.tok k _ t n v r (by omega) (by rw [List.drop_drop]; exact ho) ?_
            rw [List.drop_drop, ← Nat.add_assoc]
            exact ht
          · rw [List.length_append] at hl
            simp at hl ⊢
            omega
    · rw [scanGo_end hlt] at h
      injection h with h
      refine ⟨[], by rw [← h]; simp, Toks.done _ _ ?_, by simpa using ha⟩
      rw [List.length_drop, len_data]
      omega
theorem scan_of (s : ByteArray) {k : Nat} {L : List UInt8} {r : List Tok} (ht : Toks k L r) : L = s.data.toList.drop k → k ≤ s.size → ∀ (f : Nat) (acc : List Tok), acc.length + r.length ≤ 512 → s.size - skipAt s false k < f →
    scanGo f s (skipAt s false k) acc = .toks (acc ++ r ++ [endTok s]) := by
  induction ht with
  | done p L h =>
    intro hL hk f acc ha hf
    obtain ⟨f, rfl⟩ : ∃ g, f = g + 1 := ⟨f - 1, by omega⟩
    have hj := skipAt_list s p
    rw [← hL, h, hL, List.length_drop, len_data] at hj
    rw [scanGo_end (by omega)]
    simp
  | tok p L t n v r h h1 h2 ih =>
    intro hL hk f acc ha hf
    obtain ⟨f, rfl⟩ : ∃ g, f = g + 1 := ⟨f - 1, by omega⟩
    have hj := skipAt_list s p
    rw [← hL] at hj
    have hlen : L.length = s.size - p := by rw [hL, List.length_drop, len_data]
    have ho : oneM s (skipAt s false p) = some (t, n, v) := by
      rw [oneM_list, hj, ← List.drop_drop, ← hL]
      exact h1
    obtain ⟨n1, n2, n3, n4⟩ := oneM_bounds ho
    obtain ⟨c1, c2⟩ := skipAt_le s false n2
    simp only [List.length_cons] at ha
    rw [scanGo_step (by omega) ho (by omega)]
    have e := ih (by rw [hL, List.drop_drop, ← Nat.add_assoc]) (by omega) f (acc ++ [⟨t, s.extract (skipAt s false p) (skipAt s false p + n), v, skipAt s false p⟩]) (by rw [List.length_append]; simp; omega) (by rw [← hj]; omega)
    rw [← hj] at e
    rw [e, ext_text, hj, ← List.drop_drop, ← hL]
    simp
theorem scan_full (s : ByteArray) {k : Nat} {L : List UInt8} {r : List Tok} (ht : Toks k L r) : L = s.data.toList.drop k → k ≤ s.size → ∀ (f : Nat) (acc r1 r2 : List Tok) (t : Tok), r = r1 ++ t :: r2 → acc.length + r1.length = 512 → s.size - skipAt s false k < f →
    scanGo f s (skipAt s false k) acc = .err 5 t.pos := by
  induction ht with
  | done p L h =>
    intro hL hk f acc r1 r2 t e ha hf
    simp at e
  | tok p L t n v r h h1 h2 ih =>
    intro hL hk f acc r1 r2 t' e ha hf
    obtain ⟨f, rfl⟩ : ∃ g, f = g + 1 := ⟨f - 1, by omega⟩
    have hj := skipAt_list s p
    rw [← hL] at hj
    have hlen : L.length = s.size - p := by rw [hL, List.length_drop, len_data]
    have ho : oneM s (skipAt s false p) = some (t, n, v) := by
      rw [oneM_list, hj, ← List.drop_drop, ← hL]
      exact h1
    obtain ⟨n1, n2, n3, n4⟩ := oneM_bounds ho
    obtain ⟨c1, c2⟩ := skipAt_le s false n2
    cases r1 with
    | nil =>
      simp at e ha
      rw [scanGo_full (by omega) ho ha, ← e.1, hj]
    | cons x r1 =>
      simp at e ha
      rw [scanGo_step (by omega) ho (by omega)]
      have e2 := ih (by rw [hL, List.drop_drop, ← Nat.add_assoc]) (by omega) f (acc ++ [⟨t, s.extract (skipAt s false p) (skipAt s false p + n), v, skipAt s false p⟩]) r1 r2 t' e.2 (by rw [List.length_append]; simp; omega) (by rw [← hj]; omega)
      rw [← hj] at e2
      exact e2
theorem scanM_iff {s : ByteArray} {l : List Tok} (h : scanM s = .toks l) : ∃ r, l = r ++ [endTok s] ∧ Toks 0 s.data.toList r ∧ r.length ≤ 512 ∧ s.size ≤ 4096 := by
  unfold scanM at h
  split at h
  · cases h
  · obtain ⟨b1, b2⟩ := skipAt_le s false (Nat.zero_le s.size)
    obtain ⟨r, e, ht, hl⟩ := scan_to s _ 0 [] l (by omega) (by omega) (by simp) h
    exact ⟨r, by simpa using e, by simpa using ht, by simpa using hl, by omega⟩
theorem scanM_of {s : ByteArray} {r : List Tok} (hs : s.size ≤ 4096) (ht : Toks 0 s.data.toList r) (hr : r.length ≤ 512) : scanM s = .toks (r ++ [endTok s]) := by
  unfold scanM
  rw [if_neg (by omega)]
  obtain ⟨b1, b2⟩ := skipAt_le s false (Nat.zero_le s.size)
  have := scan_of s ht (by simp) (by omega) (s.size + 1) [] (by simpa using hr) (by omega)
  simpa using this
theorem scanM_full {s : ByteArray} {r1 r2 : List Tok} {t : Tok} (hs : s.size ≤ 4096) (ht : Toks 0 s.data.toList (r1 ++ t :: r2)) (hr : r1.length = 512) : scanM s = .err 5 t.pos := by
  unfold scanM
  rw [if_neg (by omega)]
  obtain ⟨b1, b2⟩ := skipAt_le s false (Nat.zero_le s.size)
  exact scan_full s ht (by simp) (by omega) (s.size + 1) [] r1 r2 t rfl (by simpa using hr) (by omega)
theorem skip_ext (R : List UInt8) : ∀ (L : List UInt8) (b : Bool), skipN b L = L.length → skipN b (L ++ 10 :: R) = L.length + 1 + skipN false R := by
  intro L
  induction L with
  | nil =>
    intro b _
    cases b with
    | true => rw [List.nil_append, skipN, if_pos (by decide)]; simp; omega
    | false => rw [List.nil_append, skipN, if_neg (by decide), if_pos (by decide)]; simp; omega
  | cons c r ih =>
    intro b h
    cases b with
    | true =>
      rw [skipN] at h
      rw [List.cons_append, skipN]
      split at h
      · rename_i hc
        rw [if_pos hc, ih false (by simpa using h)]; simp; omega
      · rename_i hc
        rw [if_neg hc, ih true (by simpa using h)]; simp; omega
    | false =>
      rw [skipN] at h
      rw [List.cons_append, skipN]
      split at h
      · rename_i hc
        rw [if_pos hc, ih true (by simpa using h)]; simp; omega
      · rename_i hc
        split at h
        · rename_i hb
          rw [if_neg hc, if_pos hb, ih false (by simpa using h)]; simp; omega
        · simp at h
theorem skip_more (R : List UInt8) : ∀ (L : List UInt8) (b : Bool), skipN b L < L.length → skipN b (L ++ R) = skipN b L := by
  intro L
  induction L with
  | nil => intro b h; simp at h
  | cons c r ih =>
    intro b h
    cases b with
    | true =>
      rw [skipN] at h
      rw [List.cons_append, skipN, skipN]
      split at h
      · rename_i hc
        rw [if_pos hc, if_pos hc, ih false (by simpa using h)]
      · rename_i hc
        rw [if_neg hc, if_neg hc, ih true (by simpa using h)]
    | false =>
      rw [skipN] at h
      rw [List.cons_append, skipN, skipN]
      split at h
      · rename_i hc
        rw [if_pos hc, if_pos hc, ih true (by simpa using h)]
      · rename_i hc
        split at h
        · rename_i hb
          rw [if_neg hc, if_pos hb, if_neg hc, if_pos hb, ih false (by simpa using h)]
        · rename_i hb
          rw [if_neg hc, if_neg hb, if_neg hc, if_neg hb]
/-- A text that goes on behind an end of line. -/
theorem toks_ext {p : Nat} {L : List UInt8} {r : List Tok} (h : Toks p L r) {R : List UInt8} {t v : Nat} (hr : oneL R = some (t, R.length, v)) : Toks p (L ++ 10 :: R) (r ++ [⟨t, ⟨R.toArray⟩, v, p + L.length + 1⟩]) := by
  obtain ⟨r1, r2, r3, r4⟩ := one_pos hr
  induction h with
  | done p L h =>
    have hs := skip_ext R L false h
    rw [r3, Nat.add_zero] at hs
    have e1 : (L ++ 10 :: R).drop (L.length + 1) = R := by
      rw [List.drop_append]; simp
    have := Toks.tok p (L ++ 10 :: R) t R.length v [] (by rw [hs, List.length_append]; simp; omega) (by rw [hs, e1]; exact hr) (by
      rw [hs, ← List.drop_drop, e1, List.drop_length]
      exact Toks.done _ _ (by rw [skipN_nil]; rfl))
    rw [hs, e1, List.take_length] at this
    rw [Nat.add_assoc]
    exact this
  | tok p L t' n v' r h h1 h2 ih =>
    have hs := skip_more (10 :: R) L false h
    obtain ⟨o1, o2, o3, o4⟩ := one_pos h1
    rw [List.length_drop] at o2
    have ed : (L ++ 10 :: R).drop (skipN false L) = L.drop (skipN false L) ++ 10 :: R := List.drop_append_of_le_length (by omega)
    have ed2 : (L ++ 10 :: R).drop (skipN false L + n) = L.drop (skipN false L + n) ++ 10 :: R := List.drop_append_of_le_length (by omega)
    have et : (L.drop (skipN false L) ++ 10 :: R).take n = (L.drop (skipN false L)).take n := List.take_append_of_le_length (by rw [List.length_drop]; omega)
    have ho : oneL (L.drop (skipN false L) ++ 10 :: R) = some (t', n, v') := by
      refine one_local h1 et (by rw [List.length_append, List.length_drop]; omega) fun c hc => ?_
      by_cases hn : n < (L.drop (skipN false L)).length
      · rw [List.getElem?_append_left hn] at hc; exact .inr hc
      · rw [List.getElem?_append_right (by omega), show n - (L.drop (skipN false L)).length = 0 from by rw [List.length_drop] at hn ⊢; omega] at hc
        simp at hc
        subst hc
        exact .inl (by decide)
    have := Toks.tok p (L ++ 10 :: R) t' n v' _ (by rw [hs, List.length_append]; omega) (by rw [hs, ed]; exact ho) (by rw [hs, ed2]; exact ih)
    rw [hs, ed, et] at this
    rw [List.length_drop, show p + skipN false L + n + (L.length - (skipN false L + n)) + 1 = p + L.length + 1 from by omega] at this
    exact this
/-- A token's own bytes make it, whatever stands behind, if that is no part of a name. -/
def GoodT (t : Tok) : Prop := 1 ≤ t.text.size ∧ t.num < 18446744073709551616 ∧ ∀ R : List UInt8, (∀ c, R[0]? = some c → namB c = false) → oneL (t.text.data.toList ++ R) = some (t.kind, t.text.size, t.num)
theorem toks_good {p : Nat} {L : List UInt8} {r : List Tok} (h : Toks p L r) : ∀ t ∈ r, GoodT t := by
  induction h with
  | done p L h => intro t ht; simp at ht
  | tok p L t n v r h h1 h2 ih =>
    intro x hx
    rcases List.mem_cons.1 hx with rfl | hx
    · obtain ⟨o1, o2, o3, o4⟩ := one_pos h1
      have hl : ((L.drop (skipN false L)).take n).length = n := by rw [List.length_take]; omega
      have hsz : ByteArray.size ⟨((L.drop (skipN false L)).take n).toArray⟩ = n := hl
      refine ⟨?_, o4, fun R hR => ?_⟩
      · show 1 ≤ ByteArray.size ⟨((L.drop (skipN false L)).take n).toArray⟩
        rw [hsz]; exact o1
      · show oneL ((L.drop (skipN false L)).take n ++ R) = some (t, ByteArray.size ⟨((L.drop (skipN false L)).take n).toArray⟩, v)
        rw [hsz]
        refine one_local h1 ?_ (by rw [List.length_append, hl]; omega) fun c hc => .inl (hR c ?_)
        · rw [List.take_append_of_le_length (by omega), List.take_take, Nat.min_self]
        · rw [List.getElem?_append_right (by omega), hl, Nat.sub_self] at hc
          exact hc
    · exact ih x hx
theorem toks_pos {p : Nat} {L : List UInt8} {r : List Tok} (h : Toks p L r) : ∀ t ∈ r, p ≤ t.pos ∧ t.pos + t.text.size ≤ p + L.length ∧ (L.drop (t.pos - p)).take t.text.size = t.text.data.toList := by
  induction h with
  | done p L h => intro t ht; simp at ht
  | tok p L t n v r h h1 h2 ih =>
    obtain ⟨o1, o2, o3, o4⟩ := one_pos h1
    rw [List.length_drop] at o2
    intro x hx
    rcases List.mem_cons.1 hx with rfl | hx
    · have hl : ((L.drop (skipN false L)).take n).length = n := by rw [List.length_take, List.length_drop]; omega
      have hsz : ByteArray.size ⟨((L.drop (skipN false L)).take n).toArray⟩ = n := hl
      simp only [hsz]
      refine ⟨by omega, by omega, ?_⟩
      rw [show p + skipN false L - p = skipN false L from by omega]
    · obtain ⟨a, b, c⟩ := ih x hx
      rw [List.length_drop] at b
      refine ⟨by omega, by omega, ?_⟩
      rw [List.drop_drop, show skipN false L + n + (x.pos - (p + skipN false L + n)) = x.pos - p from by omega] at c
      exact c
/-- Tokens' texts, each with what stands behind it. -/
def wideL (xs : List (Tok × List UInt8)) : List UInt8 := xs.flatMap fun x => x.1.text.data.toList ++ x.2
def SkipOk (g : List UInt8) : Prop := ∀ R, skipN false (g ++ R) = g.length + skipN false R
def GapOk (g : List UInt8) : Prop := (∃ c g', g = c :: g' ∧ namB c = false) ∧ SkipOk g
def retok : Nat → List (Tok × List UInt8) → List Tok
  | _, [] => []
  | q, x :: xs => ⟨x.1.kind, x.1.text, x.1.num, q⟩ :: retok (q + x.1.text.size + x.2.length) xs
theorem toks_wide (ge : List UInt8) (hge : SkipOk ge) : ∀ (xs : List (Tok × List UInt8)) (p : Nat) (G : List UInt8), SkipOk G → (∀ x ∈ xs, GoodT x.1 ∧ GapOk x.2) → Toks p (G ++ (wideL xs ++ ge)) (retok (p + G.length) xs)
  | [], p, G, hG, _ => by
    refine Toks.done _ _ ?_
    have h1 := hG ge
    have h2 := hge []
    rw [List.append_nil, skipN_nil] at h2
    show skipN false (G ++ ([] ++ ge)) = _
    rw [List.nil_append, h1, h2, List.length_append, show wideL [] ++ ge = ge from rfl, Nat.add_zero]
  | x :: xs, p, G, hG, h => by
    obtain ⟨⟨g1, g2, g3⟩, ⟨c, g', hg, hc⟩, hsk⟩ := h x (by simp)
    have e : wideL (x :: xs) ++ ge = x.1.text.data.toList ++ (x.2 ++ (wideL xs ++ ge)) := by unfold wideL; simp
    have ho := g3 (x.2 ++ (wideL xs ++ ge)) (fun d hd => by
      rw [hg] at hd
      simp at hd
      rw [← hd]; exact hc)
    obtain ⟨o1, o2, o3, o4⟩ := one_pos ho
    have hs := hG (x.1.text.data.toList ++ (x.2 ++ (wideL xs ++ ge)))
    rw [o3, Nat.add_zero] at hs
    have hl := len_data x.1.text
    have e1 : (G ++ (x.1.text.data.toList ++ (x.2 ++ (wideL xs ++ ge)))).drop G.length = x.1.text.data.toList ++ (x.2 ++ (wideL xs ++ ge)) := by simp
    have e2 : (G ++ (x.1.text.data.toList ++ (x.2 ++ (wideL xs ++ ge)))).drop (G.length + x.1.text.size) = x.2 ++ (wideL xs ++ ge) := by
      rw [← List.drop_drop, e1, ← hl]; simp
    have e3 : (⟨((x.1.text.data.toList ++ (x.2 ++ (wideL xs ++ ge))).take x.1.text.size).toArray⟩ : ByteArray) = x.1.text := by
      rw [← hl]; simp
    have ih := toks_wide ge hge xs (p + G.length + x.1.text.size) x.2 hsk (fun y hy => h y (List.mem_cons_of_mem _ hy))
    rw [e]
    have := Toks.tok p (G ++ (x.1.text.data.toList ++ (x.2 ++ (wideL xs ++ ge)))) x.1.kind x.1.text.size x.1.num (retok (p + G.length + x.1.text.size + x.2.length) xs) (by
      rw [hs, List.length_append]
      have : 1 ≤ x.1.text.data.toList.length := by omega
      simp only [List.length_append]; omega) (by rw [hs, e1]; exact ho) (by rw [hs, e2]; exact ih)
    rw [hs, e1, e3] at this
    exact this
theorem retok_nth : ∀ (xs : List (Tok × List UInt8)) (q i : Nat) (x : Tok × List UInt8), xs[i]? = some x → ∃ pos, (retok q xs)[i]? = some ⟨x.1.kind, x.1.text, x.1.num, pos⟩
  | [], q, i, x, h => by simp at h
  | y :: xs, q, 0, x, h => by simp at h; subst h; exact ⟨q, rfl⟩
  | y :: xs, q, i + 1, x, h => retok_nth xs _ i x (by simpa using h)
theorem retok_length : ∀ (xs : List (Tok × List UInt8)) (q : Nat), (retok q xs).length = xs.length
  | [], _ => rfl
  | _ :: xs, _ => by unfold retok; rw [List.length_cons, List.length_cons, retok_length xs]
theorem gap_ok1 : GapOk [32] := ⟨⟨32, [], rfl, by decide⟩, fun R => by simp [skipN, blankB]; omega⟩
theorem gap_ok2 : GapOk [10, 9] := ⟨⟨10, [9], rfl, by decide⟩, fun R => by simp [skipN, blankB]; omega⟩
theorem gap_ok3 : GapOk [32, 35, 32, 97, 32, 49, 32, 10] := ⟨⟨32, _, rfl, by decide⟩, fun R => by simp [skipN, blankB]; omega⟩
theorem gap_ok4 : GapOk [13, 10, 35, 10] := ⟨⟨13, _, rfl, by decide⟩, fun R => by simp [skipN, blankB]; omega⟩
end Go.Proofs.YthnkeejiocnflaaGreatDoor
