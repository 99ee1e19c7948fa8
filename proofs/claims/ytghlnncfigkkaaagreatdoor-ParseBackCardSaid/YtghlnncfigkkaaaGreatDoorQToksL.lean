/-
  The scan of a source text, read as a relation on lists of bytes: what blanks and remarks between tokens change. No program. The plain parser: an error stays; lists that agree up to a place are parsed alike as long as the parser stays there. No program. A good list of tokens whose last token is taken away is told as wrong at its end. No program. A parsed tree lies in post-order: what an expression is made of stands in blocks ahead of it. No program.
-/
import Derived.Test.YtghlnncfigkkaaaGreatDoorQParN
import Derived.Test.YtghlnncfigkkaaaGreatDoorQMin
import Derived.Test.YtghlnncfigkkaaaGreatDoorQTreeB
namespace Go.Proofs.YtghlnncfigkkaaaGreatDoor
set_option linter.unusedVariables false
set_option linter.unusedSimpArgs false
open Go.RowKit
def letO : Option UInt8 → Bool
 | none => false
 | some c => letB c
def oneL : List UInt8 → Option (Nat × Nat × Nat)
 | [] => none
 | c :: r =>
  if digB c then
   if decV ((c :: r).take (spanN digB (c :: r))) < 18446744073709551616 ∧ (c.toNat ≠ 48 ∨ spanN digB (c :: r) = 1) ∧ letO ((c :: r)[spanN digB (c :: r)]?) = false then some (2, spanN digB (c :: r), decV ((c :: r).take (spanN digB (c :: r)))) else none
  else if lowB c then
   if spanN namB (c :: r) ≤ 16 then some (if wordB ((c :: r).take (spanN namB (c :: r))) then 4 else 1, spanN namB (c :: r), 0) else none
  else if Lib.hasPrefix (c :: r) [62, 62] then some (3, 2, 0)
  else if signB c then some (3, 1, 0) else none
theorem oneL_cons (c : UInt8) (r : List UInt8) : oneL (c :: r) =
  if digB c then
   if decV ((c :: r).take (spanN digB (c :: r))) < 18446744073709551616 ∧ (c.toNat ≠ 48 ∨ spanN digB (c :: r) = 1) ∧ letO ((c :: r)[spanN digB (c :: r)]?) = false then some (2, spanN digB (c :: r), decV ((c :: r).take (spanN digB (c :: r)))) else none
  else if lowB c then
   if spanN namB (c :: r) ≤ 16 then some (if wordB ((c :: r).take (spanN namB (c :: r))) then 4 else 1, spanN namB (c :: r), 0) else none
  else if Lib.hasPrefix (c :: r) [62, 62] then some (3, 2, 0)
  else if signB c then some (3, 1, 0) else none := rfl
theorem spanN_cons (p : UInt8 → Bool) (c : UInt8) (r : List UInt8) : spanN p (c :: r) = if p c then spanN p r + 1 else 0 := rfl
theorem letAt_in0 (s : ByteArray) {k : Nat} (h : k < s.size) : letAt s k = letB s[k] := by unfold letAt; rw [dif_pos h]
theorem oneM_list (s : ByteArray) (k : Nat) : oneM s k = oneL (s.data.toList.drop k) := by
 by_cases h : k < s.size
 ·have e1 : ∀ p, spanAt p s k = spanN p (s.data.toList.drop k) := fun p => by unfold spanAt; rfl
  have e2 : ∀ n, textAt s k n = (s.data.toList.drop k).take n := fun n => rfl
  have e3 : ∀ n, letAt s (k + n) = letO ((s.data.toList.drop k)[n]?) := fun n => by
   rw [List.getElem?_drop]
   by_cases hn : k + n < s.size
   ·rw [letAt_in0 s hn, List.getElem?_eq_getElem (by rw [len_data]; exact hn)]; rfl
   ·unfold letAt; rw [dif_neg hn, List.getElem?_eq_none (by rw [len_data]; omega)]; rfl
  unfold oneM
  rw [dif_pos h]
  simp only [e1, e2, e3]
  rw [drop_at s h]
  rfl
 ·rw [List.drop_eq_nil_of_le (by rw [len_data]; omega)]
  unfold oneM
  rw [dif_neg h]
  rfl
theorem spanN_eq (p : UInt8 → Bool) : ∀ (L : List UInt8) (n : Nat), n ≤ L.length → (∀ c ∈ L.take n, p c = true) → (∀ c, L[n]? = some c → p c = false) → spanN p L = n
 | [], n, h, _, _ => by simp at h; subst h; rfl
 | c :: r, 0, _, _, h => by
  rw [spanN_cons]
  rw [if_neg (by rw [h c rfl]; simp)]
 | c :: r, n + 1, h, h1, h2 => by
  rw [spanN_cons]
  rw [if_pos (h1 c (by simp)), spanN_eq p r n (by simpa using h) (fun d hd => h1 d (by rw [List.take_succ_cons]; exact List.mem_cons_of_mem _ hd)) (fun d hd => h2 d (by simpa using hd))]
theorem spanN_stop (p : UInt8 → Bool) : ∀ (L : List UInt8) (c : UInt8), L[spanN p L]? = some c → p c = false
 | [], c, h => by simp at h
 | d :: r, c, h => by
  rw [spanN_cons] at h
  split at h
  ·exact spanN_stop p r c (by simpa using h)
  ·rename_i hd
   simp at h
   subst h
   simpa using hd
theorem dig_nam {c : UInt8} (h : namB c = false) : digB c = false ∧ letB c = false := by
 unfold namB at h
 cases hl : letB c <;> cases hd : digB c <;> simp_all
theorem low_nam {c : UInt8} (h : lowB c = true) : namB c = true := by
 unfold namB
 rw [show letB c = (lowB c || ((c.toNat : Int) == 95)) from rfl, h]
 rfl
theorem pre_take (L L' : List UInt8) (h : L'.take 2 = L.take 2) (hp : Lib.hasPrefix L [62, 62] = true) : Lib.hasPrefix L' [62, 62] = true := by
 unfold Lib.hasPrefix at hp ⊢
 rw [List.isPrefixOf_iff_prefix, List.prefix_iff_eq_take] at hp ⊢
 simp only [List.length_cons, List.length_nil] at hp ⊢
 rw [hp]
 exact h.symm
theorem sign_no {c : UInt8} (h : signB c = true) : c ≠ 62 := by
 rintro rfl
 revert h
 decide
theorem pre_no {c : UInt8} {r : List UInt8} (h : c ≠ 62) : Lib.hasPrefix (c :: r) [62, 62] = false := by
 unfold Lib.hasPrefix
 simp only [List.isPrefixOf]
 have : ((62 : UInt8) == c) = false := by rw [beq_eq_false_iff_ne]; exact fun e => h e.symm
 rw [this]
 rfl
theorem one_local {L L' : List UInt8} {t n v : Nat} (h : oneL L = some (t, n, v)) (ht : L'.take n = L.take n) (hn : n ≤ L'.length) (hs : ∀ c, L'[n]? = some c → namB c = false ∨ L[n]? = some c) : oneL L' = some (t, n, v) := by
 cases L with
 | nil => cases h
 | cons c r =>
  have key : ∀ m : Nat, n = m + 1 → ∃ r', L' = c :: r' := by
   intro m hm
   subst hm
   cases L' with
   | nil => simp at hn
   | cons c' r' =>
    rw [List.take_succ_cons, List.take_succ_cons] at ht
    injection ht with h1 h2
    exact ⟨r', by rw [h1]⟩
  rw [oneL_cons] at h
  split at h
  ·rename_i hd
   split at h
   ·rename_i hc
    injection h with h
    injection h with e1 h
    injection h with e2 e3
    have hall := spanN_all digB (c :: r)
    have hstop := spanN_stop digB (c :: r)
    obtain ⟨r', rfl⟩ := key (spanN digB r) (by rw [← e2]; rw [spanN_cons, if_pos hd])
    rw [e2] at hall hstop hc e3
    have hsp : spanN digB (c :: r') = n := by
     refine spanN_eq _ _ _ hn (by rw [ht]; exact hall) fun d hdd => ?_
     rcases hs d hdd with h1 | h1
     ·exact (dig_nam h1).1
     ·exact hstop d h1
    have hlast : letO ((c :: r')[n]?) = false := by
     cases hx : (c :: r')[n]? with
     | none => rfl
     | some d =>
      rcases hs d hx with h1 | h1
      ·exact (dig_nam h1).2
      ·rw [← h1]; exact hc.2.2
    rw [oneL_cons]
    rw [if_pos hd, hsp, ht, if_pos ⟨hc.1, hc.2.1, hlast⟩, e1, e3]
   ·cases h
  ·rename_i hd
   split at h
   ·rename_i hl
    split at h
    ·rename_i hc
     injection h with h
     injection h with e1 h
     injection h with e2 e3
     have hall := spanN_all namB (c :: r)
     have hstop := spanN_stop namB (c :: r)
     obtain ⟨r', rfl⟩ := key (spanN namB r) (by rw [← e2]; rw [spanN_cons, if_pos (low_nam hl)])
     rw [e2] at hall hstop hc e1
     have hsp : spanN namB (c :: r') = n := by
      refine spanN_eq _ _ _ hn (by rw [ht]; exact hall) fun d hdd => ?_
      rcases hs d hdd with h1 | h1
      ·exact h1
      ·exact hstop d h1
     rw [oneL_cons]
     rw [if_neg hd, if_pos hl, hsp, ht, if_pos hc, e1, e3]
    ·cases h
   ·rename_i hl
    split at h
    ·rename_i hp
     injection h with h
     injection h with e1 h
     injection h with e2 e3
     obtain ⟨r', rfl⟩ := key 1 (by rw [← e2])
     have hp' := pre_take (c :: r) (c :: r') (by rw [← e2] at ht; exact ht) hp
     rw [oneL_cons]
     rw [if_neg hd, if_neg hl, if_pos hp', e1, e2, e3]
    ·rename_i hp
     split at h
     ·rename_i hg
      injection h with h
      injection h with e1 h
      injection h with e2 e3
      obtain ⟨r', rfl⟩ := key 0 (by rw [← e2])
      rw [oneL_cons]
      rw [if_neg hd, if_neg hl, if_neg (by rw [pre_no (sign_no hg)]; simp), if_pos hg, e1, e2, e3]
     ·cases h
theorem tok_char {c : UInt8} (h : digB c = true ∨ lowB c = true ∨ c = 62 ∨ signB c = true) : c.toNat ≠ 35 ∧ blankB c = false := by
 rcases h with h | h | h | h
 ·have := (digB_iff c).1 h
  unfold blankB
  simp
  omega
 ·unfold lowB at h
  unfold blankB
  simp at h ⊢
  omega
 ·subst h; decide
 ·unfold signB at h
  rw [List.contains_iff_mem] at h
  unfold signL at h
  simp only [List.mem_cons, List.not_mem_nil, or_false] at h
  rcases h with h | h | h | h | h | h | h | h | h | h | h | h <;> subst h <;> decide
theorem one_pos {L : List UInt8} {t n v : Nat} (h : oneL L = some (t, n, v)) : 1 ≤ n ∧ n ≤ L.length ∧ skipN false L = 0 ∧ v < 18446744073709551616 := by
 cases L with
 | nil => cases h
 | cons c r =>
  have hz : (digB c = true ∨ lowB c = true ∨ c = 62 ∨ signB c = true) → skipN false (c :: r) = 0 := fun hh => by
   obtain ⟨h1, h2⟩ := tok_char hh
   rw [skipN, if_neg h1, if_neg (by rw [h2]; simp)]
  rw [oneL_cons] at h
  split at h
  ·rename_i hd
   split at h
   ·rename_i hc
    injection h with h
    injection h with e1 h
    injection h with e2 e3
    refine ⟨?_, ?_, hz (.inl hd), by rw [← e3]; exact hc.1⟩
    ·rw [← e2]; rw [spanN_cons, if_pos hd]; omega
    ·rw [← e2]; exact spanN_le _ _
   ·cases h
  ·split at h
   ·rename_i hl
    split at h
    ·injection h with h
     injection h with e1 h
     injection h with e2 e3
     refine ⟨?_, ?_, hz (.inr (.inl hl)), by omega⟩
     ·rw [← e2]; rw [spanN_cons, if_pos (low_nam hl)]; omega
     ·rw [← e2]; exact spanN_le _ _
    ·cases h
   ·split at h
    ·rename_i hp
     injection h with h
     injection h with e1 h
     injection h with e2 e3
     have hc : c = 62 := by
      by_cases e : c = 62
      ·exact e
      ·rw [pre_no e] at hp; cases hp
     unfold Lib.hasPrefix at hp
     rw [List.isPrefixOf_iff_prefix] at hp
     have hl := hp.length_le
     simp at hl
     exact ⟨by omega, by simp; omega, hz (.inr (.inr (.inl hc))), by omega⟩
    ·split at h
     ·rename_i hg
      injection h with h
      injection h with e1 h
      injection h with e2 e3
      exact ⟨by omega, by simp; omega, hz (.inr (.inr (.inr hg))), by omega⟩
     ·cases h
inductive Toks : Nat → List UInt8 → List Tok → Prop
 | done (p : Nat) (L : List UInt8) (h : skipN false L = L.length) : Toks p L []
 | tok (p : Nat) (L : List UInt8) (t n v : Nat) (r : List Tok) (h : skipN false L < L.length) (h1 : oneL (L.drop (skipN false L)) = some (t, n, v))
   (h2 : Toks (p + skipN false L + n) (L.drop (skipN false L + n)) r) : Toks p L (⟨t, ⟨((L.drop (skipN false L)).take n).toArray⟩, v, p + skipN false L⟩ :: r)
theorem ext_text (s : ByteArray) (k n : Nat) : s.extract k (k + n) = ⟨((s.data.toList.drop k).take n).toArray⟩ := by
 apply ByteArray.ext
 apply Array.ext'
 rw [textAt_extract]
 rfl
theorem skipAt_list (s : ByteArray) (k : Nat) : skipAt s false k = k + skipN false (s.data.toList.drop k) := skipAt_eq s false k
theorem scan_to (s : ByteArray) : ∀ (f k : Nat) (acc l : List Tok), k ≤ s.size → s.size - skipAt s false k < f → acc.length ≤ 512 → scanGo f s (skipAt s false k) acc = .toks l →
  ∃ r, l = acc ++ r ++ [endTok s] ∧ Toks k (s.data.toList.drop k) r ∧ acc.length + r.length ≤ 512 := by
 intro f
 induction f with
 | zero => intro k acc l _ h; omega
 | succ f ih =>
  intro k acc l hk hf ha h
  obtain ⟨b1, b2⟩ := skipAt_le s false hk
  have hj := skipAt_list s k
  by_cases hlt : skipAt s false k < s.size
  ·cases ho : oneM s (skipAt s false k) with
   | none => rw [scanGo_bad hlt ho] at h; cases h
   | some x =>
    obtain ⟨t, n, v⟩ := x
    obtain ⟨n1, n2, n3, n4⟩ := oneM_bounds ho
    by_cases hfull : acc.length = 512
    ·rw [scanGo_full hlt ho hfull] at h; cases h
    ·rw [scanGo_step hlt ho hfull] at h
     obtain ⟨c1, c2⟩ := skipAt_le s false n2
     obtain ⟨r, e, ht, hl⟩ := ih _ _ _ n2 (by omega) (by rw [List.length_append]; simp; omega) h
     rw [oneM_list] at ho
     rw [hj] at ho ht e n2
     have hlen : (s.data.toList.drop k).length = s.size - k := by rw [List.length_drop, len_data]
     refine ⟨⟨t, ⟨(((s.data.toList.drop k).drop (skipN false (s.data.toList.drop k))).take n).toArray⟩, v, k + skipN false (s.data.toList.drop k)⟩ :: r, ?_, ?_, ?_⟩
     ·rw [e, ext_text, List.drop_drop]
      simp
     ·refine Toks.tok k _ t n v r (by omega) (by rw [List.drop_drop]; exact ho) ?_
      rw [List.drop_drop, ← Nat.add_assoc]
      exact ht
     ·rw [List.length_append] at hl
      simp at hl ⊢
      omega
  ·rw [scanGo_end hlt] at h
   injection h with h
   refine ⟨[], by rw [← h]; simp, Toks.done _ _ ?_, by simpa using ha⟩
   rw [List.length_drop, len_data]
   omega
theorem scanM_iff {s : ByteArray} {l : List Tok} (h : scanM s = .toks l) : ∃ r, l = r ++ [endTok s] ∧ Toks 0 s.data.toList r ∧ r.length ≤ 512 ∧ s.size ≤ 4096 := by
 unfold scanM at h
 split at h
 ·cases h
 ·obtain ⟨b1, b2⟩ := skipAt_le s false (Nat.zero_le s.size)
  obtain ⟨r, e, ht, hl⟩ := scan_to s _ 0 [] l (by omega) (by omega) (by simp) h
  exact ⟨r, by simpa using e, by simpa using ht, by simpa using hl, by omega⟩
def GoodT (t : Tok) : Prop := 1 ≤ t.text.size ∧ t.num < 18446744073709551616 ∧ ∀ R : List UInt8, (∀ c, R[0]? = some c → namB c = false) → oneL (t.text.data.toList ++ R) = some (t.kind, t.text.size, t.num)
theorem toks_good {p : Nat} {L : List UInt8} {r : List Tok} (h : Toks p L r) : ∀ t ∈ r, GoodT t := by
 induction h with
 | done p L h => intro t ht; simp at ht
 | tok p L t n v r h h1 h2 ih =>
  intro x hx
  rcases List.mem_cons.1 hx with rfl | hx
  ·obtain ⟨o1, o2, o3, o4⟩ := one_pos h1
   have hl : ((L.drop (skipN false L)).take n).length = n := by rw [List.length_take]; omega
   have hsz : ByteArray.size ⟨((L.drop (skipN false L)).take n).toArray⟩ = n := hl
   refine ⟨?_, o4, fun R hR => ?_⟩
   ·show 1 ≤ ByteArray.size ⟨((L.drop (skipN false L)).take n).toArray⟩
    rw [hsz]; exact o1
   ·show oneL ((L.drop (skipN false L)).take n ++ R) = some (t, ByteArray.size ⟨((L.drop (skipN false L)).take n).toArray⟩, v)
    rw [hsz]
    refine one_local h1 ?_ (by rw [List.length_append, hl]; omega) fun c hc => .inl (hR c ?_)
    ·rw [List.take_append_of_le_length (by omega), List.take_take, Nat.min_self]
    ·rw [List.getElem?_append_right (by omega), hl, Nat.sub_self] at hc
     exact hc
  ·exact ih x hx
def wideL (xs : List (Tok × List UInt8)) : List UInt8 := xs.flatMap fun x => x.1.text.data.toList ++ x.2
def retok : Nat → List (Tok × List UInt8) → List Tok
 | _, [] => []
 | q, x :: xs => ⟨x.1.kind, x.1.text, x.1.num, q⟩ :: retok (q + x.1.text.size + x.2.length) xs
theorem retok_nth : ∀ (xs : List (Tok × List UInt8)) (q i : Nat) (x : Tok × List UInt8), xs[i]? = some x → ∃ pos, (retok q xs)[i]? = some ⟨x.1.kind, x.1.text, x.1.num, pos⟩
 | [], q, i, x, h => by simp at h
 | y :: xs, q, 0, x, h => by simp at h; subst h; exact ⟨q, rfl⟩
 | y :: xs, q, i + 1, x, h => retok_nth xs _ i x (by simpa using h)
theorem retok_length : ∀ (xs : List (Tok × List UInt8)) (q : Nat), (retok q xs).length = xs.length
 | [], _ => rfl
 | _ :: xs, _ => by unfold retok; rw [List.length_cons, List.length_cons, retok_length xs]
def Er (s s' : PS) : Prop := s'.err = none → s.err = none
section
variable {L : List Tok} {s s' s'' : PS}
theorem Er.refl (s : PS) : Er s s := fun h => h
theorem Er.trans (h : Er s s') (h' : Er s' s'') : Er s s'' := fun x => h (h' x)
theorem Er.adv : Er s (advP s) := fun h => h
theorem fail_some (L : List Tok) (s : PS) (c : Nat) : (failP L s c).err ≠ none := by
 unfold failP
 split
 ·simp
 ·rename_i x hx; rw [hx]; simp
theorem Er.fail (c : Nat) : Er s (failP L s c) := fun h => absurd h (fail_some L s c)
theorem Er.want (t : ByteArray) : Er s (wantP L s t) := by
 unfold wantP
 split
 ·exact Er.adv
 ·exact Er.fail _
theorem Er.number : Er s (numberP L s).1 := by
 unfold numberP
 split
 ·exact Er.fail _
 ·exact Er.adv
theorem Er.put (e : Ex) : Er s (putP s e).1 := by
 unfold putP
 split
 ·exact Er.refl s
 ·exact fun h => h
theorem Er.sink : Er s (sinkP L s).1 := by
 unfold sinkP
 split
 ·exact Er.fail _
 ·exact fun h => h
theorem Er.rise : Er s (riseP s) := fun h => h
theorem putC_i (s : PS) (e : Ex) : (putP s e).1.i = s.i ∧ (putP s e).1.err = s.err := by unfold putP; split <;> exact ⟨rfl, rfl⟩
end
structure AllE (L : List Tok) (f : Nat) : Prop where
 expr : ∀ s, Er s (exprP L f s).1
 sum : ∀ s, Er s (sumP L f s).1
 sumLoop : ∀ s a, Er s (sumLoopP L f s a).1
 prod : ∀ s, Er s (prodP L f s).1
 prodLoop : ∀ s a, Er s (prodLoopP L f s a).1
 sign : ∀ s, Er s (signP L f s).1
 post : ∀ s, Er s (postP L f s).1
 postLoop : ∀ s a, Er s (postLoopP L f s a).1
 atom : ∀ s, Er s (atomP L f s).1
 args : ∀ n s l, Er s (argsP L f n s l).1
theorem allE (L : List Tok) (f : Nat) : AllE L f := by
 induction f with
 | zero => exact ⟨fun s => Er.refl s, fun s => Er.refl s, fun s a => Er.refl s, fun s => Er.refl s, fun s a => Er.refl s, fun s => Er.refl s, fun s => Er.refl s, fun s a => Er.refl s, fun s => Er.refl s, fun n s l => by rw [argsP]; exact Er.refl s⟩
 | succ f ih =>
  refine ⟨?_, ?_, ?_, ?_, ?_, ?_, ?_, ?_, ?_, ?_⟩
  ·intro s
   rw [exprP]
   dsimp only
   split
   ·exact (((ih.sum s).trans Er.adv).trans (ih.sum _)).trans (Er.put _)
   ·exact ih.sum s
  ·intro s
   rw [sumP]
   exact (ih.prod s).trans (ih.sumLoop _ _)
  ·intro s a
   rw [sumLoopP]
   dsimp only
   split
   ·exact ((Er.adv.trans (ih.prod _)).trans (Er.put _)).trans (ih.sumLoop _ _)
   ·split
    ·exact ((Er.adv.trans (ih.prod _)).trans (Er.put _)).trans (ih.sumLoop _ _)
    ·exact Er.refl s
  ·intro s
   rw [prodP]
   exact (ih.sign s).trans (ih.prodLoop _ _)
  ·intro s a
   rw [prodLoopP]
   dsimp only
   split
   ·exact ((Er.adv.trans (ih.sign _)).trans (Er.put _)).trans (ih.prodLoop _ _)
   ·split
    ·exact ((Er.adv.trans (ih.sign _)).trans (Er.put _)).trans (ih.prodLoop _ _)
    ·exact Er.refl s
  ·intro s
   rw [signP]
   dsimp only
   split
   ·split
    ·exact (((Er.sink.trans Er.adv).trans (ih.sign _)).trans Er.rise).trans (Er.put _)
    ·exact Er.sink
   ·exact ih.post s
  ·intro s
   rw [postP]
   exact (ih.atom s).trans (ih.postLoop _ _)
  ·intro s a
   rw [postLoopP]
   dsimp only
   split
   ·exact ((Er.adv.trans Er.number).trans (Er.put _)).trans (ih.postLoop _ _)
   ·exact Er.refl s
  ·intro s
   rw [atomP]
   dsimp only
   split
   ·exact Er.refl s
   ·split
    ·exact Er.adv.trans (Er.put _)
    ·split
     ·exact Er.adv.trans (Er.put _)
     ·split
      ·exact Er.fail _
      ·split
       ·split
        ·exact (((Er.sink.trans Er.adv).trans (ih.expr _)).trans (Er.want _)).trans Er.rise
        ·exact (((((Er.sink.trans Er.adv).trans (Er.want _)).trans (ih.args _ _ _)).trans (Er.want _)).trans Er.rise).trans (Er.put _)
       ·exact Er.sink
  ·intro n s l
   cases n with
   | zero => rw [argsP]; exact Er.refl s
   | succ n =>
    rw [argsP]
    split
    ·exact (ih.expr _).trans (ih.args _ _ _)
    ·exact ((Er.want _).trans (ih.expr _)).trans (ih.args _ _ _)
section
variable {A B : List Tok} {m : Nat} {s : PS}
structure Agr (A B : List Tok) (m : Nat) : Prop where
 lt : ∀ i, i < m → A[i]? = B[i]?
 fin : ∀ s : PS, s.i = m → (nowP B s).kind = 0 ∨ nowP B s = nowP A s
def Fin (m : Nat) (s : PS) : Prop := s.err = none ∧ s.i ≤ m
end
structure AllL (A B : List Tok) (m f : Nat) : Prop where
 expr : ∀ s, s.i ≤ m → Fin m (exprP A f s).1 → exprP B f s = exprP A f s
 sum : ∀ s, s.i ≤ m → Fin m (sumP A f s).1 → sumP B f s = sumP A f s
 sumLoop : ∀ s a, s.i ≤ m → Fin m (sumLoopP A f s a).1 → sumLoopP B f s a = sumLoopP A f s a
 prod : ∀ s, s.i ≤ m → Fin m (prodP A f s).1 → prodP B f s = prodP A f s
 prodLoop : ∀ s a, s.i ≤ m → Fin m (prodLoopP A f s a).1 → prodLoopP B f s a = prodLoopP A f s a
 sign : ∀ s, s.i ≤ m → Fin m (signP A f s).1 → signP B f s = signP A f s
 post : ∀ s, s.i ≤ m → Fin m (postP A f s).1 → postP B f s = postP A f s
 postLoop : ∀ s a, s.i ≤ m → Fin m (postLoopP A f s a).1 → postLoopP B f s a = postLoopP A f s a
 atom : ∀ s, s.i ≤ m → Fin m (atomP A f s).1 → atomP B f s = atomP A f s
 args : ∀ n s l, s.i ≤ m → Fin m (argsP A f n s l).1 → argsP B f n s l = argsP A f n s l
theorem shapeLoop_er (L : List Tok) : ∀ (f : Nat) (s : PS) (l : List Nat), Er s (shapeLoopP L f s l).1 := by
 intro f
 induction f with
 | zero => intro s l; exact Er.refl s
 | succ f ih =>
  intro s l
  rw [shapeLoopP]
  split
  ·exact (Er.adv.trans Er.number).trans (ih _ _)
  ·exact Er.want _
theorem shape_er (L : List Tok) (f : Nat) (s : PS) : Er s (shapeP L f s).1 := by
 unfold shapeP
 dsimp only
 split
 ·exact (Er.want _).trans Er.adv
 ·exact ((Er.want _).trans Er.number).trans (shapeLoop_er L f _ _)
section
variable {A B : List Tok} {m : Nat} {s : PS}
end
inductive TrL (es : List Ex) : Nat → Nat → List Nat → Prop
 | nil (a : Nat) : TrL es a a []
 | snoc (a b r : Nat) (l : List Nat) (e : Ex) (h : TrL es a b l) (he : es[r]? = some e) (hr : TrL es b r e.args) : TrL es a (r + 1) (l ++ [r])
theorem TrL.mono {es : List Ex} {a b : Nat} {l : List Nat} (h : TrL es a b l) (x : List Ex) : TrL (es ++ x) a b l := by
 induction h with
 | nil a => exact .nil a
 | snoc a b r l e h he hr ih1 ih2 => exact .snoc a b r l e ih1 (by rw [List.getElem?_append_left (List.getElem?_eq_some_iff.1 he).1]; exact he) ih2
theorem TrL.append {es : List Ex} {a b c : Nat} {l m : List Nat} (h : TrL es a b l) (h' : TrL es b c m) : TrL es a c (l ++ m) := by
 induction h' with
 | nil a => rw [List.append_nil]; exact h
 | snoc b b' r m e h1 he hr ih1 ih2 => rw [← List.append_assoc]; exact .snoc a b' r _ e (ih1 h) he hr
theorem TrL.le {es : List Ex} {a b : Nat} {l : List Nat} (h : TrL es a b l) : a ≤ b ∧ ∀ r ∈ l, a ≤ r ∧ r < b := by
 induction h with
 | nil a => exact ⟨Nat.le_refl _, fun r hr => by cases hr⟩
 | snoc a b r l e h he hr ih1 ih2 =>
  refine ⟨by omega, fun x hx => ?_⟩
  rcases List.mem_append.1 hx with hx | hx
  ·have := ih1.2 x hx
   omega
  ·rw [List.mem_singleton.1 hx]
   omega
theorem TrL.one {es : List Ex} {a r : Nat} {e : Ex} (he : es[r]? = some e) (hr : TrL es a r e.args) : TrL es a (r + 1) [r] := .snoc a a r [] e (.nil a) he hr
def Gr (s s' : PS) : Prop := ∃ x, s'.es = s.es ++ x
theorem Gr.refl (s : PS) : Gr s s := ⟨[], (List.append_nil _).symm⟩
theorem Gr.of {s s' : PS} (h : s'.es = s.es) : Gr s s' := ⟨[], by rw [h, List.append_nil]⟩
theorem Gr.trans {s s' s'' : PS} (h : Gr s s') (h' : Gr s' s'') : Gr s s'' := by
 obtain ⟨x, hx⟩ := h
 obtain ⟨y, hy⟩ := h'
 exact ⟨x ++ y, by rw [hy, hx, List.append_assoc]⟩
theorem Gr.tr {s s' : PS} (h : Gr s s') {a b : Nat} {l : List Nat} (ht : TrL s.es a b l) : TrL s'.es a b l := by
 obtain ⟨x, hx⟩ := h
 rw [hx]
 exact ht.mono x
section
variable (L : List Tok)
theorem fail_es (s : PS) (c : Nat) : (failP L s c).es = s.es := by unfold failP; split <;> rfl
theorem want_es (s : PS) (t : ByteArray) : (wantP L s t).es = s.es := by
 unfold wantP
 split
 ·rfl
 ·exact fail_es L s 130
theorem number_es (s : PS) : (numberP L s).1.es = s.es := by
 unfold numberP
 split
 ·exact fail_es L s 130
 ·rfl
theorem name_es (s : PS) : (nameP L s).1.es = s.es := by
 unfold nameP
 split
 ·exact fail_es L s 130
 ·rfl
theorem sink_es (s : PS) : (sinkP L s).1.es = s.es := by
 unfold sinkP
 split
 ·exact fail_es L s 5
 ·rfl
def Bk (s : PS) (a : Nat) (o : PS × Nat) : Prop := Gr s o.1 ∧ TrL o.1.es a (o.2 + 1) [o.2] ∧ o.2 + 1 = o.1.es.length
theorem put_bk {s : PS} {e : Ex} {a : Nat} (hf : (putP s e).1.err = none) (h : TrL s.es a s.es.length e.args) : Bk s a (putP s e) := by
 have he : s.err = none := Er.put e hf
 have e1 : putP s e = ({ s with es := s.es ++ [e] }, s.es.length) := by
  unfold putP
  rw [he]
  rfl
 rw [e1]
 refine ⟨⟨[e], rfl⟩, ?_, by simp⟩
 exact TrL.one (e := e) (by simp) (h.mono [e])
theorem Bk.of {s s' : PS} {a : Nat} {o : PS × Nat} (h : Bk s' a o) (hs : Gr s s') : Bk s a o := ⟨hs.trans h.1, h.2⟩
structure AllBk (f : Nat) : Prop where
 expr : ∀ s, 12 * (L.length - s.i) + 6 ≤ f → (exprP L f s).1.err = none → Bk s s.es.length (exprP L f s)
 sum : ∀ s, 12 * (L.length - s.i) + 5 ≤ f → (sumP L f s).1.err = none → Bk s s.es.length (sumP L f s)
 sumLoop : ∀ s a b, 12 * (L.length - s.i) + 1 ≤ f → TrL s.es a (b + 1) [b] → b + 1 = s.es.length → (sumLoopP L f s b).1.err = none → Bk s a (sumLoopP L f s b)
 prod : ∀ s, 12 * (L.length - s.i) + 4 ≤ f → (prodP L f s).1.err = none → Bk s s.es.length (prodP L f s)
 prodLoop : ∀ s a b, 12 * (L.length - s.i) + 1 ≤ f → TrL s.es a (b + 1) [b] → b + 1 = s.es.length → (prodLoopP L f s b).1.err = none → Bk s a (prodLoopP L f s b)
 sign : ∀ s, 12 * (L.length - s.i) + 3 ≤ f → (signP L f s).1.err = none → Bk s s.es.length (signP L f s)
 post : ∀ s, 12 * (L.length - s.i) + 2 ≤ f → (postP L f s).1.err = none → Bk s s.es.length (postP L f s)
 postLoop : ∀ s a b, TrL s.es a (b + 1) [b] → b + 1 = s.es.length → (postLoopP L f s b).1.err = none → Bk s a (postLoopP L f s b)
 atom : ∀ s, 12 * (L.length - s.i) + 1 ≤ f → (atomP L f s).1.err = none → Bk s s.es.length (atomP L f s)
 args : ∀ n s l a, n ≤ 3 → 12 * (L.length - s.i) + 7 + n ≤ f → TrL s.es a s.es.length l → (argsP L f n s l).1.err = none → Gr s (argsP L f n s l).1 ∧ TrL (argsP L f n s l).1.es a (argsP L f n s l).1.es.length (argsP L f n s l).2
theorem two_bk {s s1 : PS} {a b : Nat} {o : PS × Nat} {e : Ex} (h1 : TrL s.es a (b + 1) [b]) (hb : b + 1 = s.es.length) (h : Bk s1 s1.es.length o) (hs : s1.es = s.es) (he : e.args = [b, o.2]) (hf : (putP o.1 e).1.err = none) : Bk s a (putP o.1 e) := by
 obtain ⟨g, t, ht⟩ := h
 have g' : Gr s o.1 := (Gr.of hs).trans g
 refine (put_bk (a := a) hf ?_).of g'
 rw [he, ← ht]
 refine TrL.append (b := b + 1) (l := [b]) (m := [o.2]) (g'.tr h1) ?_
 rw [hs, ← hb] at t
 exact t
theorem loop_bk {s : PS} {a : Nat} {o o' : PS × Nat} (h : Bk s a o) (h' : TrL o.1.es a (o.2 + 1) [o.2] → o.2 + 1 = o.1.es.length → Bk o.1 a o') : Bk s a o' := (h' h.2.1 h.2.2).of h.1
theorem allBk (f : Nat) : AllBk L f := by
 induction f with
 | zero => exact ⟨fun s h => by omega, fun s h => by omega, fun s a b h => by omega, fun s h => by omega, fun s a b h => by omega, fun s h => by omega, fun s h => by omega, fun s a b h hb _ => ⟨Gr.refl s, h, hb⟩, fun s h => by omega, fun n s l a _ h => by omega⟩
 | succ f ih =>
  have gA := allG L f
  have eA := allE L f
  refine ⟨?_, ?_, ?_, ?_, ?_, ?_, ?_, ?_, ?_, ?_⟩
  ·intro s hw hf
   simp only [exprP] at hf ⊢
   cases hq : isP L (sumP L f s).1 tLess with
   | true =>
    rw [hq] at hf
    simp only [if_true] at hf ⊢
    have h1 := Er.put _ hf
    have h2 : (sumP L f s).1.err = none := Er.adv (eA.sum _ h1)
    have i1 := (gA.sum s).hi
    have i2 := isP_lt hq
    have i3 : (advP (sumP L f s).1).i = (sumP L f s).1.i + 1 := rfl
    have ha := ih.sum s (by omega) h2
    exact (two_bk ha.2.1 ha.2.2 (ih.sum _ (by omega) h1) rfl rfl hf).of ha.1
   | false =>
    rw [hq] at hf
    simp only [Bool.false_eq_true, if_false] at hf ⊢
    exact ih.sum s (by omega) hf
  ·intro s hw hf
   simp only [sumP] at hf ⊢
   have h2 := eA.sumLoop _ _ hf
   have i1 := (gA.prod s).hi
   exact loop_bk (ih.prod s (by omega) h2) fun t ht => ih.sumLoop _ _ _ (by omega) t ht hf
  ·intro s a b hw ht hb hf
   simp only [sumLoopP] at hf ⊢
   cases hq : isP L s tPlus with
   | true =>
    rw [hq] at hf
    simp only [if_true] at hf ⊢
    have h1 := eA.sumLoop _ _ hf
    have h2 := Er.put _ h1
    have i2 := isP_lt hq
    have i3 : (advP s).i = s.i + 1 := rfl
    have i4 := (gA.prod (advP s)).hi
    have i5 := (putC_i (prodP L f (advP s)).1 ⟨4, noB, 0, [b, (prodP L f (advP s)).2], (nowP L s).pos⟩).1
    exact loop_bk (two_bk ht hb (ih.prod (advP s) (by omega) h2) rfl rfl h1) fun t ht => ih.sumLoop _ _ _ (by omega) t ht hf
   | false =>
    rw [hq] at hf
    simp only [Bool.false_eq_true, if_false] at hf ⊢
    cases hq2 : isP L s tMinus with
    | true =>
     rw [hq2] at hf
     simp only [if_true] at hf ⊢
     have h1 := eA.sumLoop _ _ hf
     have h2 := Er.put _ h1
     have i2 := isP_lt hq2
     have i3 : (advP s).i = s.i + 1 := rfl
     have i4 := (gA.prod (advP s)).hi
     have i5 := (putC_i (prodP L f (advP s)).1 ⟨5, noB, 0, [b, (prodP L f (advP s)).2], (nowP L s).pos⟩).1
     exact loop_bk (two_bk ht hb (ih.prod (advP s) (by omega) h2) rfl rfl h1) fun t ht => ih.sumLoop _ _ _ (by omega) t ht hf
    | false =>
     simp only [Bool.false_eq_true, if_false]
     exact ⟨Gr.refl s, ht, hb⟩
  ·intro s hw hf
   simp only [prodP] at hf ⊢
   have h2 := eA.prodLoop _ _ hf
   have i1 := (gA.sign s).hi
   exact loop_bk (ih.sign s (by omega) h2) fun t ht => ih.prodLoop _ _ _ (by omega) t ht hf
  ·intro s a b hw ht hb hf
   simp only [prodLoopP] at hf ⊢
   cases hq : isP L s tStar with
   | true =>
    rw [hq] at hf
    simp only [if_true] at hf ⊢
    have h1 := eA.prodLoop _ _ hf
    have h2 := Er.put _ h1
    have i2 := isP_lt hq
    have i3 : (advP s).i = s.i + 1 := rfl
    have i4 := (gA.sign (advP s)).hi
    have i5 := (putC_i (signP L f (advP s)).1 ⟨6, noB, 0, [b, (signP L f (advP s)).2], (nowP L s).pos⟩).1
    exact loop_bk (two_bk ht hb (ih.sign (advP s) (by omega) h2) rfl rfl h1) fun t ht => ih.prodLoop _ _ _ (by omega) t ht hf
   | false =>
    rw [hq] at hf
    simp only [Bool.false_eq_true, if_false] at hf ⊢
    cases hq2 : isP L s tAt with
    | true =>
     rw [hq2] at hf
     simp only [if_true] at hf ⊢
     have h1 := eA.prodLoop _ _ hf
     have h2 := Er.put _ h1
     have i2 := isP_lt hq2
     have i3 : (advP s).i = s.i + 1 := rfl
     have i4 := (gA.sign (advP s)).hi
     have i5 := (putC_i (signP L f (advP s)).1 ⟨7, noB, 0, [b, (signP L f (advP s)).2], (nowP L s).pos⟩).1
     exact loop_bk (two_bk ht hb (ih.sign (advP s) (by omega) h2) rfl rfl h1) fun t ht => ih.prodLoop _ _ _ (by omega) t ht hf
    | false =>
     simp only [Bool.false_eq_true, if_false]
     exact ⟨Gr.refl s, ht, hb⟩
  ·intro s hw hf
   simp only [signP] at hf ⊢
   cases hq : isP L s tMinus with
   | true =>
    rw [hq] at hf
    simp only [if_true] at hf ⊢
    cases hk : (sinkP L s).2 with
    | true =>
     rw [hk] at hf
     simp only [if_true] at hf ⊢
     have h1 := Er.put _ hf
     have h1' : (signP L f (advP (sinkP L s).1)).1.err = none := h1
     have hsi : (sinkP L s).1.i = s.i := by rw [(sink_true hk).2]
     have i2 := isP_lt hq
     have i3 : (advP (sinkP L s).1).i = (sinkP L s).1.i + 1 := rfl
     have ha := ih.sign (advP (sinkP L s).1) (by omega) h1'
     have hs : (advP (sinkP L s).1).es = s.es := sink_es L s
     rw [hs] at ha
     refine (put_bk hf (a := s.es.length) ?_).of ((Gr.of hs).trans ha.1)
     show TrL (signP L f (advP (sinkP L s).1)).1.es s.es.length (signP L f (advP (sinkP L s).1)).1.es.length [_]
     rw [← ha.2.2]
     exact ha.2.1
    | false =>
     rw [hk] at hf
     have h1 : (sinkP L s).1.err = none := hf
     exact absurd h1 (by rw [(sink_false hk).2]; exact fail_some _ _ _)
   | false =>
    rw [hq] at hf
    simp only [Bool.false_eq_true, if_false] at hf ⊢
    exact ih.post s (by omega) hf
  ·intro s hw hf
   simp only [postP] at hf ⊢
   have h2 := eA.postLoop _ _ hf
   exact loop_bk (ih.atom s (by omega) h2) fun t ht => ih.postLoop _ _ _ t ht hf
  ·intro s a b ht hb hf
   simp only [postLoopP] at hf ⊢
   cases hq : isP L s tShift with
   | true =>
    rw [hq] at hf
    simp only [if_true] at hf ⊢
    have h1 := eA.postLoop _ _ hf
    have hs : (numberP L (advP s)).1.es = s.es := number_es L (advP s)
    refine loop_bk ((put_bk (a := a) h1 ?_).of (Gr.of hs)) fun t ht => ih.postLoop _ _ _ t ht hf
    rw [hs, ← hb]
    exact ht
   | false =>
    simp only [Bool.false_eq_true, if_false]
    exact ⟨Gr.refl s, ht, hb⟩
  ·intro s hw hf
   simp only [atomP] at hf ⊢
   by_cases he : s.err.isSome = true
   ·rw [if_pos he] at hf
    rw [hf] at he
    cases he
   ·rw [if_neg he] at hf ⊢
    by_cases h2 : ((nowP L s).kind == 2) = true
    ·rw [if_pos h2] at hf ⊢
     exact (put_bk (a := s.es.length) hf (.nil _)).of (Gr.of rfl)
    ·rw [if_neg h2] at hf ⊢
     by_cases h1 : ((nowP L s).kind == 1) = true
     ·rw [if_pos h1] at hf ⊢
      exact (put_bk (a := s.es.length) hf (.nil _)).of (Gr.of rfl)
     ·rw [if_neg h1] at hf ⊢
      by_cases hc : ((!isP L s tOpen) && ((callP (nowP L s)).2 == 0)) = true
      ·rw [if_pos hc] at hf
       exact absurd hf (fail_some _ _ _)
      ·rw [if_neg hc] at hf ⊢
       have hk0 : (nowP L s).kind ≠ 0 := by
        intro h0
        apply hc
        have hp : isP L s tOpen = false := by
         cases hx : isP L s tOpen with
         | false => rfl
         | true => have := (isP_kind hx).2.1; omega
        have hcc : callP (nowP L s) = (0, 0) := by unfold callP; rw [h0]; rfl
        rw [hp, hcc]
        rfl
       have i2 := now_lt hk0
       cases hk : (sinkP L s).2 with
       | false =>
        rw [hk] at hf
        have h1 : (sinkP L s).1.err = none := hf
        exact absurd h1 (by rw [(sink_false hk).2]; exact fail_some _ _ _)
       | true =>
        have hsi : (sinkP L s).1.i = s.i := by rw [(sink_true hk).2]
        have i3 : (advP (sinkP L s).1).i = (sinkP L s).1.i + 1 := rfl
        have hs : (advP (sinkP L s).1).es = s.es := sink_es L s
        rw [hk] at hf
        simp only [if_true] at hf ⊢
        by_cases hn : ((callP (nowP L s)).2 == 0) = true
        ·rw [if_pos hn] at hf ⊢
         have hx : (wantP L (exprP L f (advP (sinkP L s).1)).1 tShut).err = none := hf
         have hy := Er.want tShut hx
         have ha := ih.expr (advP (sinkP L s).1) (by omega) hy
         rw [hs] at ha
         have hw2 : (riseP (wantP L (exprP L f (advP (sinkP L s).1)).1 tShut)).es = (exprP L f (advP (sinkP L s).1)).1.es := want_es L _ _
         refine ⟨((Gr.of hs).trans ha.1).trans (Gr.of hw2), ?_, ?_⟩
         ·show TrL (riseP (wantP L (exprP L f (advP (sinkP L s).1)).1 tShut)).es _ _ _
          rw [hw2]
          exact ha.2.1
         ·show _ = (riseP (wantP L (exprP L f (advP (sinkP L s).1)).1 tShut)).es.length
          rw [hw2]
          exact ha.2.2
        ·rw [if_neg hn] at hf ⊢
         have h0 := Er.put _ hf
         have hx : (wantP L (argsP L f (callP (nowP L s)).2 (wantP L (advP (sinkP L s).1) tOpen) []).1 tShut).err = none := h0
         have hy := Er.want tShut hx
         have i4 := (G.want (L := L) (advP (sinkP L s).1) tOpen).hi
         have hcn : (callP (nowP L s)).2 ≤ 3 := by
          unfold callP
          repeat' split
          all_goals simp
         have hs2 : (wantP L (advP (sinkP L s).1) tOpen).es = s.es := (want_es L _ _).trans hs
         have ea := ih.args (callP (nowP L s)).2 (wantP L (advP (sinkP L s).1) tOpen) [] s.es.length hcn (by omega) (by rw [hs2]; exact .nil _) hy
         have hw2 : (riseP (wantP L (argsP L f (callP (nowP L s)).2 (wantP L (advP (sinkP L s).1) tOpen) []).1 tShut)).es = (argsP L f (callP (nowP L s)).2 (wantP L (advP (sinkP L s).1) tOpen) []).1.es := want_es L _ _
         refine (put_bk (a := s.es.length) hf ?_).of (((Gr.of hs2).trans ea.1).trans (Gr.of hw2))
         rw [hw2]
         exact ea.2
  ·intro n s l a hn hw ht hf
   cases n with
   | zero =>
    simp only [argsP]
    exact ⟨Gr.refl s, ht⟩
   | succ n =>
    simp only [argsP] at hf ⊢
    have h1 := eA.args _ _ _ hf
    by_cases hl : l.length = 0
    ·rw [if_pos hl] at h1 hf ⊢
     have i1 := (gA.expr s).hi
     have hb := ih.expr s (by omega) h1
     have e := ih.args n (exprP L f s).1 (l ++ [(exprP L f s).2]) a (by omega) (by omega) (by rw [← hb.2.2]; exact (hb.1.tr ht).append hb.2.1) hf
     exact ⟨hb.1.trans e.1, e.2⟩
    ·rw [if_neg hl] at h1 hf ⊢
     have i0 := (G.want (L := L) s tComma).hi
     have i1 := (gA.expr (wantP L s tComma)).hi
     have hs := want_es L s tComma
     have hb := ih.expr (wantP L s tComma) (by omega) h1
     rw [hs] at hb
     have hg := (Gr.of hs).trans hb.1
     have e := ih.args n (exprP L f (wantP L s tComma)).1 (l ++ [(exprP L f (wantP L s tComma)).2]) a (by omega) (by omega) (by rw [← hb.2.2]; exact (hg.tr ht).append hb.2.1) hf
     exact ⟨hg.trans e.1, e.2⟩
theorem shapeLoop_es : ∀ (f : Nat) (s : PS) (l : List Nat), (shapeLoopP L f s l).1.es = s.es
 | 0, s, l => rfl
 | f + 1, s, l => by
  unfold shapeLoopP
  split
  ·exact (shapeLoop_es f _ _).trans (number_es L (advP s))
  ·exact want_es L s tKet
theorem shape_es (f : Nat) (s : PS) : (shapeP L f s).1.es = s.es := by
 unfold shapeP
 dsimp only
 split
 ·exact want_es L s tBra
 ·exact (shapeLoop_es L f _ _).trans ((number_es L _).trans (want_es L s tBra))
end
end Go.Proofs.YtghlnncfigkkaaaGreatDoor
