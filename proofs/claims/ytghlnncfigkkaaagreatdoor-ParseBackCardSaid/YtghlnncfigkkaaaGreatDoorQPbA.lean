/-
  Tokens written one behind the other, with at most a blank between, are those tokens. No program. The digits of a number. No program. What kinds of expressions and statements a parser makes. No program. An expression that is printed with all parentheses is parsed to itself again. No program. An expression that is printed with all parentheses is parsed to itself again: the induction. No program. An expression that is printed with all parentheses is parsed to itself again: every kind. No program. Printed by gen_pbe.py. An expression that is printed with all parentheses is parsed to itself again: calls, and the whole. No program. A parsed tree's statements and their blocks; its printed text. No program. A tree that is printed with all parentheses is parsed to itself again. No program. How long a printed tree is. No program. A parser's errors have numbers that are not 0. No program.
-/
import Derived.Test.YtghlnncfigkkaaaGreatDoorQTreeB
import Derived.Test.YtghlnncfigkkaaaGreatDoorQToksL
namespace Go.Proofs.YtghlnncfigkkaaaGreatDoor
set_option linter.unusedVariables false
set_option linter.unusedSimpArgs false
open Go.RowKit
def Adj (t : Tok) (R : List UInt8) : Prop := oneL (t.text.data.toList ++ R) = some (t.kind, t.text.size, t.num)
inductive Pr : List (Tok × List UInt8) → Prop
 | nil : Pr []
 | cons (t : Tok) (g : List UInt8) (xs : List (Tok × List UInt8)) (h : Adj t (g ++ wideL xs)) (hg : g = [] ∨ g = [32]) (hr : Pr xs) : Pr ((t, g) :: xs)
theorem toks_blank {p : Nat} {R : List UInt8} {r : List Tok} (h : Toks (p + 1) R r) : Toks p (32 :: R) r := by
 have hs : skipN false (32 :: R) = skipN false R + 1 := by
  simp [skipN, blankB]
 cases h with
 | done _ _ h => exact .done _ _ (by rw [hs, h]; rfl)
 | tok _ _ t n v r h h1 h2 =>
  have e1 : (32 :: R).drop (skipN false (32 :: R)) = R.drop (skipN false R) := by rw [hs]; rfl
  have e2 : (32 :: R).drop (skipN false (32 :: R) + n) = R.drop (skipN false R + n) := by rw [hs, show skipN false R + 1 + n = (skipN false R + n) + 1 by omega]; rfl
  have := Toks.tok p (32 :: R) t n v r (by rw [hs]; simp; omega) (by rw [e1]; exact h1) (by rw [e2, hs, show p + (skipN false R + 1) + n = p + 1 + skipN false R + n by omega]; exact h2)
  rw [e1, hs, show p + (skipN false R + 1) = p + 1 + skipN false R by omega] at this
  exact this
theorem toks_pr {xs : List (Tok × List UInt8)} (h : Pr xs) : ∀ p, Toks p (wideL xs) (retok p xs) := by
 induction h with
 | nil => intro p; exact .done _ _ (skipN_nil _)
 | cons t g xs h hg hr ih =>
  intro p
  have ho : oneL (t.text.data.toList ++ (g ++ wideL xs)) = some (t.kind, t.text.size, t.num) := h
  obtain ⟨o1, o2, o3, o4⟩ := one_pos ho
  have e : wideL ((t, g) :: xs) = t.text.data.toList ++ (g ++ wideL xs) := by unfold wideL; simp
  have hl := len_data t.text
  have e2 : (t.text.data.toList ++ (g ++ wideL xs)).drop t.text.size = g ++ wideL xs := by rw [← hl]; simp
  have e3 : (⟨((t.text.data.toList ++ (g ++ wideL xs)).take t.text.size).toArray⟩ : ByteArray) = t.text := by rw [← hl]; simp
  have h2 : Toks (p + 0 + t.text.size) (g ++ wideL xs) (retok (p + t.text.size + g.length) xs) := by
   rcases hg with rfl | rfl
   ·exact ih _
   ·exact toks_blank (ih _)
  rw [e]
  have := Toks.tok p (t.text.data.toList ++ (g ++ wideL xs)) t.kind t.text.size t.num (retok (p + t.text.size + g.length) xs) (by rw [o3]; omega) (by rw [o3]; exact ho) (by rw [o3, Nat.zero_add, e2]; exact h2)
  rw [o3, List.drop_zero, e3] at this
  exact this
theorem toks_one {p : Nat} {L : List UInt8} {r r' : List Tok} (h : Toks p L r) (h' : Toks p L r') : r = r' := by
 induction h generalizing r' with
 | done p L h =>
  cases h' with
  | done _ _ _ => rfl
  | tok _ _ t n v r h2 _ _ => omega
 | tok p L t n v r h h1 h2 ih =>
  cases h' with
  | done _ _ h3 => omega
  | tok _ _ t' n' v' r' h3 h4 h5 =>
   rw [h1] at h4
   injection h4 with h4
   injection h4 with a b
   injection b with b c
   subst a b c
   rw [ih h5]
theorem scan_pr {s : ByteArray} {l : List Tok} {xs : List (Tok × List UInt8)} (h : scanM s = .toks l) (hx : Pr xs) (hs : s.data.toList = wideL xs) : l = retok 0 xs ++ [endTok s] := by
 obtain ⟨r, hl, ht, _⟩ := scanM_iff h
 rw [hs] at ht
 rw [hl, toks_one ht (toks_pr hx 0)]
def sgT (t : ByteArray) : Tok := ⟨3, t, 0, 0⟩
def kwT (t : ByteArray) : Tok := ⟨4, t, 0, 0⟩
def nmT (t : ByteArray) : Tok := ⟨1, t, 0, 0⟩
theorem adj_sign {c : UInt8} (hc : signB c = true) (R : List UInt8) : Adj (sgT ⟨#[c]⟩) R := by
 show oneL (c :: R) = some (3, 1, 0)
 have h1 : digB c = false ∧ lowB c = false ∧ c ≠ 62 := by
  unfold signB signL at hc
  simp only [List.contains_cons, List.contains_nil, Bool.or_false, Bool.or_eq_true, beq_iff_eq] at hc
  rcases hc with h | h | h | h | h | h | h | h | h | h | h | h <;> subst h <;> decide
 rw [oneL_cons, h1.1, h1.2.1, pre_no h1.2.2, hc]
 rfl
theorem adj_shift (R : List UInt8) : Adj (sgT ⟨#[62, 62]⟩) R := by
 show oneL (62 :: 62 :: R) = some (3, 2, 0)
 rw [oneL_cons]
 have : Lib.hasPrefix (62 :: 62 :: R) [62, 62] = true := by unfold Lib.hasPrefix; rfl
 rw [show digB 62 = false from by decide, show lowB 62 = false from by decide, this]
 rfl
theorem adj_word {t : List UInt8} {k : Nat} (hl : t.length ≤ 16) (hne : t ≠ []) (h0 : ∀ c, t[0]? = some c → lowB c = true) (hn : ∀ c ∈ t, namB c = true) (hk : k = if wordB t then 4 else 1) {R : List UInt8} (hR : ∀ c, R[0]? = some c → namB c = false) : Adj ⟨k, ⟨t.toArray⟩, 0, 0⟩ R := by
 show oneL (t ++ R) = some (k, t.length, 0)
 cases t with
 | nil => exact absurd rfl hne
 | cons c r =>
  have hc := h0 c rfl
  have hd : digB c = false := by
   unfold lowB at hc
   unfold digB
   simp at hc ⊢
   omega
  have hsp : spanN namB ((c :: r) ++ R) = (c :: r).length := spanN_eq namB _ _ (by simp) (fun x hx => hn x (by rwa [List.take_left'  rfl] at hx)) (fun x hx => hR x (by
   rw [List.getElem?_append_right (Nat.le_refl _), Nat.sub_self] at hx
   exact hx))
  rw [List.cons_append, oneL_cons, hd, hc]
  rw [List.cons_append] at hsp
  simp only [Bool.false_eq_true, if_false, if_true]
  rw [hsp, if_pos hl]
  rw [show (c :: (r ++ R)).take (c :: r).length = c :: r from by rw [← List.cons_append]; exact List.take_left' rfl, ← hk]
def decL (n : Nat) : List UInt8 := if h : n < 10 then [UInt8.ofNat (48 + n)] else decL (n / 10) ++ [UInt8.ofNat (48 + n % 10)]
termination_by n
decreasing_by omega
theorem dig_val {d : Nat} (h : d < 10) : (UInt8.ofNat (48 + d)).toNat = 48 + d := by
 rw [UInt8.toNat_ofNat']
 omega
theorem decL_all (n : Nat) : ∀ c ∈ decL n, digB c = true := by
 induction n using Nat.strongRecOn with
 | _ n ih =>
  intro c hc
  unfold decL at hc
  have one : ∀ d, d < 10 → digB (UInt8.ofNat (48 + d)) = true := fun d hd => by
   unfold digB
   rw [dig_val hd]
   simp
   omega
  split at hc
  ·rename_i h
   rw [List.mem_singleton.1 hc]
   exact one n h
  ·rename_i h
   rcases List.mem_append.1 hc with hc | hc
   ·exact ih (n / 10) (by omega) c hc
   ·rw [List.mem_singleton.1 hc]
    exact one _ (by omega)
theorem decL_val (n : Nat) : decV (decL n) = n := by
 induction n using Nat.strongRecOn with
 | _ n ih =>
  unfold decL
  split
  ·rename_i h
   show 0 * 10 + ((UInt8.ofNat (48 + n)).toNat - 48) = n
   rw [dig_val h]
   omega
  ·rename_i h
   rw [decV_snoc, ih (n / 10) (by omega), dig_val (by omega)]
   omega
theorem decL_ne (n : Nat) : decL n ≠ [] := by
 unfold decL
 split
 ·simp
 ·simp
theorem decL_head (n : Nat) : ∀ c, (decL n)[0]? = some c → c.toNat ≠ 48 ∨ (decL n).length = 1 := by
 induction n using Nat.strongRecOn with
 | _ n ih =>
  intro c hc
  unfold decL at hc ⊢
  split
  ·exact .inr rfl
  ·rename_i h
   rw [dif_neg h] at hc
   have hne := decL_ne (n / 10)
   have hp : 0 < (decL (n / 10)).length := List.length_pos_iff.2 hne
   rw [List.getElem?_append_left hp] at hc
   rcases ih (n / 10) (by omega) c hc with h1 | h1
   ·exact .inl h1
   ·-- one digit that is not 0
    left
    have h10 : n / 10 < 10 := by
     rcases Nat.lt_or_ge (n / 10) 10 with h2 | h2
     ·exact h2
     ·rw [show decL (n / 10) = decL (n / 10 / 10) ++ [UInt8.ofNat (48 + n / 10 % 10)] from by conv => lhs; unfold decL; rw [dif_neg (by omega)]] at h1
      have := List.length_pos_iff.2 (decL_ne (n / 10 / 10))
      rw [List.length_append, List.length_singleton] at h1
      omega
    rw [show decL (n / 10) = [UInt8.ofNat (48 + n / 10)] from by unfold decL; rw [dif_pos h10]] at hc
    have hc' : UInt8.ofNat (48 + n / 10) = c := Option.some.inj hc
    rw [← hc', dig_val h10]
    omega
def numT (n : Nat) : Tok := ⟨2, ⟨(decL n).toArray⟩, n, 0⟩
theorem adj_num {n : Nat} (hn : n < 18446744073709551616) {R : List UInt8} (hR : ∀ c, R[0]? = some c → namB c = false) : Adj (numT n) R := by
 show oneL (decL n ++ R) = some (2, (decL n).length, n)
 have hv := decL_val n
 have ha := decL_all n
 have hh := decL_head n
 cases hd : decL n with
 | nil => exact absurd hd (decL_ne n)
 | cons c r =>
  rw [hd] at hv ha hh
  have hsp : spanN digB ((c :: r) ++ R) = (c :: r).length := spanN_eq digB _ _ (by simp) (fun x hx => ha x (by rwa [List.take_left' rfl] at hx)) (fun x hx => (dig_nam (hR x (by
   rw [List.getElem?_append_right (Nat.le_refl _), Nat.sub_self] at hx
   exact hx))).1)
  rw [List.cons_append, oneL_cons, ha c (by simp)]
  rw [List.cons_append] at hsp
  simp only [if_true]
  rw [hsp]
  have ht : (c :: (r ++ R)).take (c :: r).length = c :: r := by rw [← List.cons_append]; exact List.take_left' rfl
  have hlt : letO ((c :: (r ++ R))[(c :: r).length]?) = false := by
   rw [← List.cons_append, List.getElem?_append_right (Nat.le_refl _), Nat.sub_self]
   cases hR0 : R[0]? with
   | none => rfl
   | some x => exact (dig_nam (hR x hR0)).2
  rw [ht, hv, if_pos ⟨hn, hh c rfl, hlt⟩]
theorem decL_big {m : Nat} (h : 10 ≤ m) : decL m = decL (m / 10) ++ [UInt8.ofNat (48 + m % 10)] := by
 conv => lhs; unfold decL
 rw [dif_neg (by omega)]
theorem decL_small {m : Nat} (h : m < 10) : decL m = [UInt8.ofNat (48 + m)] := by
 conv => lhs; unfold decL
 rw [dif_pos h]
theorem decL_len : ∀ (k n : Nat), n < 10 ^ (k + 1) → (decL n).length ≤ k + 1
 | 0, n, h => by rw [decL_small (by omega)]; exact Nat.le_refl _
 | k + 1, n, h => by
  rcases Nat.lt_or_ge n 10 with h1 | h1
  ·rw [decL_small h1]
   simp
  ·rw [decL_big h1, List.length_append, List.length_singleton]
   have := decL_len k (n / 10) (by rw [Nat.pow_succ] at h; omega)
   omega
def mkN (k : Nat) : Nat := if k = 3 ∨ (9 ≤ k ∧ k ≤ 12) then 1 else if (4 ≤ k ∧ k ≤ 8) ∨ k = 13 then 2 else 3
def MadeE (L : List Tok) (e : Ex) : Prop :=
 (e.kind = 1 ∧ e.name = noB ∧ e.args = [] ∧ ∃ t ∈ L, t.num = e.num) ∨
 (e.kind = 2 ∧ e.num = 0 ∧ e.args = [] ∧ ∃ t ∈ L, t.kind = 1 ∧ t.text = e.name) ∨
 (3 ≤ e.kind ∧ e.kind ≤ 14 ∧ e.name = noB ∧ e.args.length = mkN e.kind ∧ (e.kind ≠ 9 → e.num = 0) ∧ e.num ≤ 1048576)
def Md (L : List Tok) (s : PS) : Prop := ∀ e ∈ s.es, MadeE L e
section
variable {L : List Tok} {s s' : PS}
theorem Md.of (h : Md L s) (he : s'.es = s.es) : Md L s' := fun e hx => h e (by rw [← he]; exact hx)
theorem Md.put (h : Md L s) {e : Ex} (he : MadeE L e) : Md L (putP s e).1 := by
 unfold putP
 split
 ·exact h
 ·intro x hx
  rcases List.mem_append.1 hx with hx | hx
  ·exact h x hx
  ·rw [List.mem_singleton.1 hx]
   exact he
theorem numberB_le (s : PS) : (numberP L s).2 ≤ 1048576 := by
 unfold numberP
 split
 ·exact Nat.zero_le _
 ·rename_i h
  simp only [Bool.or_eq_true, decide_eq_true_eq, not_or] at h
  omega
theorem now_mem (h : (nowP L s).kind ≠ 0) : nowP L s ∈ L := by
 unfold nowP at h ⊢
 cases hn : L[s.i]? with
 | none => rw [hn] at h; exact absurd rfl h
 | some t => exact List.mem_of_getElem? hn
theorem call_kinds (t : Tok) (h : (callP t).2 ≠ 0) : 10 ≤ (callP t).1 ∧ (callP t).1 ≤ 14 ∧ (callP t).2 = mkN (callP t).1 := by
 unfold callP at h ⊢
 repeat' split
 all_goals first
  | (rename_i h1; simp only [h1] at h; exact absurd rfl h)
  | exact ⟨by decide, by decide, by decide⟩
  | (simp only [*] at h; exact absurd rfl h)
end
structure AllMd (L : List Tok) (f : Nat) : Prop where
 expr : ∀ s, 12 * (L.length - s.i) + 6 ≤ f → Md L s → Md L (exprP L f s).1
 sum : ∀ s, 12 * (L.length - s.i) + 5 ≤ f → Md L s → Md L (sumP L f s).1
 sumLoop : ∀ s a, 12 * (L.length - s.i) + 1 ≤ f → Md L s → Md L (sumLoopP L f s a).1
 prod : ∀ s, 12 * (L.length - s.i) + 4 ≤ f → Md L s → Md L (prodP L f s).1
 prodLoop : ∀ s a, 12 * (L.length - s.i) + 1 ≤ f → Md L s → Md L (prodLoopP L f s a).1
 sign : ∀ s, 12 * (L.length - s.i) + 3 ≤ f → Md L s → Md L (signP L f s).1
 post : ∀ s, 12 * (L.length - s.i) + 2 ≤ f → Md L s → Md L (postP L f s).1
 postLoop : ∀ s a, Md L s → Md L (postLoopP L f s a).1
 atom : ∀ s, 12 * (L.length - s.i) + 1 ≤ f → Md L s → Md L (atomP L f s).1
 args : ∀ n s l, n ≤ 3 → 12 * (L.length - s.i) + 7 + n ≤ f → Md L s → Md L (argsP L f n s l).1 ∧ (argsP L f n s l).2.length = l.length + n
theorem made2 (L : List Tok) (k a b p : Nat) (h : (4 ≤ k ∧ k ≤ 8)) : MadeE L ⟨k, noB, 0, [a, b], p⟩ := by
 refine .inr (.inr ⟨by show 3 ≤ k; omega, by show k ≤ 14; omega, rfl, ?_, fun _ => rfl, Nat.zero_le _⟩)
 show 2 = mkN k
 unfold mkN
 rw [if_neg (by omega), if_pos (.inl h)]
theorem allMd (L : List Tok) (f : Nat) : AllMd L f := by
 induction f with
 | zero => exact ⟨fun s h => by omega, fun s h => by omega, fun s a h => by omega, fun s h => by omega, fun s a h => by omega, fun s h => by omega, fun s h => by omega, fun s a h => h, fun s h => by omega, fun n s l _ h => by omega⟩
 | succ f ih =>
  have gA := allG L f
  refine ⟨?_, ?_, ?_, ?_, ?_, ?_, ?_, ?_, ?_, ?_⟩
  ·intro s hw h
   rw [exprP]
   have h1 := ih.sum s (by omega) h
   have i1 := (gA.sum s).hi
   dsimp only
   split
   ·rename_i hq
    have i2 := isP_lt hq
    have i3 : (advP (sumP L f s).1).i = (sumP L f s).1.i + 1 := rfl
    exact (ih.sum (advP (sumP L f s).1) (by omega) (h1.of rfl)).put (made2 L 8 _ _ _ (by omega))
   ·exact h1
  ·intro s hw h
   rw [sumP]
   have i1 := (gA.prod s).hi
   exact ih.sumLoop _ _ (by omega) (ih.prod s (by omega) h)
  ·intro s a hw h
   rw [sumLoopP]
   dsimp only
   split
   ·rename_i hq
    have i2 := isP_lt hq
    have i3 : (advP s).i = s.i + 1 := rfl
    have i4 := (gA.prod (advP s)).hi
    have i5 := (putC_i (prodP L f (advP s)).1 ⟨4, noB, 0, [a, (prodP L f (advP s)).2], (nowP L s).pos⟩).1
    exact ih.sumLoop _ _ (by omega) ((ih.prod (advP s) (by omega) (h.of rfl)).put (made2 L 4 _ _ _ (by omega)))
   ·split
    ·rename_i hq
     have i2 := isP_lt hq
     have i3 : (advP s).i = s.i + 1 := rfl
     have i4 := (gA.prod (advP s)).hi
     have i5 := (putC_i (prodP L f (advP s)).1 ⟨5, noB, 0, [a, (prodP L f (advP s)).2], (nowP L s).pos⟩).1
     exact ih.sumLoop _ _ (by omega) ((ih.prod (advP s) (by omega) (h.of rfl)).put (made2 L 5 _ _ _ (by omega)))
    ·exact h
  ·intro s hw h
   rw [prodP]
   have i1 := (gA.sign s).hi
   exact ih.prodLoop _ _ (by omega) (ih.sign s (by omega) h)
  ·intro s a hw h
   rw [prodLoopP]
   dsimp only
   split
   ·rename_i hq
    have i2 := isP_lt hq
    have i3 : (advP s).i = s.i + 1 := rfl
    have i4 := (gA.sign (advP s)).hi
    have i5 := (putC_i (signP L f (advP s)).1 ⟨6, noB, 0, [a, (signP L f (advP s)).2], (nowP L s).pos⟩).1
    exact ih.prodLoop _ _ (by omega) ((ih.sign (advP s) (by omega) (h.of rfl)).put (made2 L 6 _ _ _ (by omega)))
   ·split
    ·rename_i hq
     have i2 := isP_lt hq
     have i3 : (advP s).i = s.i + 1 := rfl
     have i4 := (gA.sign (advP s)).hi
     have i5 := (putC_i (signP L f (advP s)).1 ⟨7, noB, 0, [a, (signP L f (advP s)).2], (nowP L s).pos⟩).1
     exact ih.prodLoop _ _ (by omega) ((ih.sign (advP s) (by omega) (h.of rfl)).put (made2 L 7 _ _ _ (by omega)))
    ·exact h
  ·intro s hw h
   rw [signP]
   dsimp only
   split
   ·rename_i hq
    have i2 := isP_lt hq
    split
    ·rename_i hk
     have hsi : (sinkP L s).1.i = s.i := by rw [(sink_true hk).2]
     have i3 : (advP (sinkP L s).1).i = (sinkP L s).1.i + 1 := rfl
     have h1 := ih.sign (advP (sinkP L s).1) (by omega) (h.of (sink_es L s))
     exact (h1.of rfl : Md L (riseP (signP L f (advP (sinkP L s).1)).1)).put (.inr (.inr ⟨(show 3 ≤ 3 by decide), (show 3 ≤ 14 by decide), rfl, rfl, fun _ => rfl, Nat.zero_le _⟩))
    ·exact h.of (sink_es L s)
   ·exact ih.post s (by omega) h
  ·intro s hw h
   rw [postP]
   exact ih.postLoop _ _ (ih.atom s (by omega) h)
  ·intro s a h
   rw [postLoopP]
   dsimp only
   split
   ·exact ih.postLoop _ _ ((h.of (number_es L (advP s)) : Md L (numberP L (advP s)).1).put (.inr (.inr ⟨(show 3 ≤ 9 by decide), (show 9 ≤ 14 by decide), rfl, rfl, fun h => absurd rfl h, numberB_le _⟩)))
   ·exact h
  ·intro s hw h
   rw [atomP]
   dsimp only
   split
   ·exact h
   ·split
    ·rename_i h2
     exact (h.of rfl : Md L (advP s)).put (.inl ⟨rfl, rfl, rfl, nowP L s, now_mem (by rw [beq_iff_eq] at h2; omega), rfl⟩)
    ·split
     ·rename_i h1
      rw [beq_iff_eq] at h1
      exact (h.of rfl : Md L (advP s)).put (.inr (.inl ⟨rfl, rfl, rfl, nowP L s, now_mem (by omega), h1, rfl⟩))
     ·split
      ·exact h.of (fail_es L s 130)
      ·rename_i hc
       have hk0 : (nowP L s).kind ≠ 0 := by
        intro h0
        apply hc
        have hp : isP L s tOpen = false := by
         cases hx : isP L s tOpen with
         | false => rfl
         | true => have := (isP_kind hx).2.1; omega
        have hcc : callP (nowP L s) = (0, 0) := by unfold callP; rw [h0]; rfl
        rw [hp, hcc]
        rfl
       have i2 := now_lt hk0
       split
       ·rename_i hk
        have hsi : (sinkP L s).1.i = s.i := by rw [(sink_true hk).2]
        have i3 : (advP (sinkP L s).1).i = (sinkP L s).1.i + 1 := rfl
        split
        ·have h1 := ih.expr (advP (sinkP L s).1) (by omega) (h.of (sink_es L s))
         exact h1.of (want_es L _ _)
        ·rename_i hn
         have hn' : (callP (nowP L s)).2 ≠ 0 := fun e => hn (by rw [e]; rfl)
         obtain ⟨c1, c2, c3⟩ := call_kinds _ hn'
         have i4 := (G.want (L := L) (advP (sinkP L s).1) tOpen).hi
         have hcn : (callP (nowP L s)).2 ≤ 3 := by
          rw [c3]
          unfold mkN
          repeat' split
          all_goals omega
         have ha := ih.args (callP (nowP L s)).2 (wantP L (advP (sinkP L s).1) tOpen) [] hcn (by omega) (h.of ((want_es L _ _).trans (sink_es L s)))
         refine (ha.1.of (want_es L _ _) : Md L (riseP (wantP L (argsP L f (callP (nowP L s)).2 (wantP L (advP (sinkP L s).1) tOpen) []).1 tShut))).put (.inr (.inr ⟨?_, c2, rfl, ?_, fun _ => rfl, Nat.zero_le _⟩))
         ·show 3 ≤ (callP (nowP L s)).1
          omega
         ·show (argsP L f (callP (nowP L s)).2 (wantP L (advP (sinkP L s).1) tOpen) []).2.length = mkN (callP (nowP L s)).1
          rw [ha.2, c3]
          exact Nat.zero_add _
       ·exact h.of (sink_es L s)
  ·intro n s l hn hw h
   cases n with
   | zero =>
    rw [argsP]
    exact ⟨h, rfl⟩
   | succ n =>
    rw [argsP]
    have hs : (if l.length = 0 then s else wantP L s tComma).es = s.es := by
     split
     ·rfl
     ·exact want_es L s tComma
    have hi : s.i ≤ (if l.length = 0 then s else wantP L s tComma).i := by
     split
     ·exact Nat.le_refl _
     ·exact (G.want (L := L) s tComma).hi
    have i1 := (gA.expr (if l.length = 0 then s else wantP L s tComma)).hi
    have h1 := ih.expr _ (by omega) (h.of hs)
    have h2 := ih.args n _ (l ++ [(exprP L f (if l.length = 0 then s else wantP L s tComma)).2]) (by omega) (by omega) h1
    refine ⟨h2.1, ?_⟩
    rw [h2.2, List.length_append]
    simp
    omega
def MadeS (L : List Tok) (x : Sm) : Prop := (∃ t ∈ L, t.kind = 1 ∧ t.text = x.name) ∧ ((x.kind = 1 ∧ x.party ≤ 1048576 ∧ (∀ d ∈ x.shape, d ≤ 1048576) ∧ x.expr = 0) ∨ (x.kind = 2 ∧ x.party = 0 ∧ x.shape = []) ∨ (x.kind = 3 ∧ x.party = 0 ∧ x.shape = [] ∧ x.expr = 0))
section
variable {L : List Tok}
theorem name_mem {s : PS} (h : (nameP L s).1.err = none) : ∃ t ∈ L, t.kind = 1 ∧ t.text = (nameP L s).2 := by
 unfold nameP at h ⊢
 split
 ·rename_i hc
  rw [if_pos hc] at h
  exact absurd h (fail_some _ _ _)
 ·rename_i hc
  simp only [Bool.or_eq_true, not_or, bne_iff_ne, ne_eq, Decidable.not_not] at hc
  exact ⟨nowP L s, now_mem (by omega), hc.2, rfl⟩
theorem shapeLoop_le : ∀ (f : Nat) (s : PS) (l : List Nat), (∀ d ∈ l, d ≤ 1048576) → ∀ d ∈ (shapeLoopP L f s l).2, d ≤ 1048576
 | 0, s, l, h => h
 | f + 1, s, l, h => by
  unfold shapeLoopP
  split
  ·refine shapeLoop_le f _ _ fun d hd => ?_
   rcases List.mem_append.1 hd with hd | hd
   ·exact h d hd
   ·rw [List.mem_singleton.1 hd]
    exact numberB_le _
  ·exact h
theorem shape_le (f : Nat) (s : PS) : ∀ d ∈ (shapeP L f s).2, d ≤ 1048576 := by
 unfold shapeP
 dsimp only
 split
 ·intro d hd
  cases hd
 ·refine shapeLoop_le f _ _ fun d hd => ?_
  rw [List.mem_singleton.1 hd]
  exact numberB_le _
theorem body_md (F : Nat) (s : PS) (hF : 12 * L.length + 20 ≤ F) (hm : Md L s) (hf : (bodyP L F s).1.err = none) : Md L (bodyP L F s).1 ∧ MadeS L (bodyP L F s).2 := by
 unfold bodyP at hf ⊢
 dsimp only at hf ⊢
 split
 ·rename_i h0
  rw [if_pos h0] at hf
  exact absurd hf (fail_some _ _ _)
 ·rename_i h0
  rw [if_neg h0] at hf
  split
  ·rename_i h1
   rw [if_pos h1] at hf
   refine ⟨hm.of ((shape_es L F _).trans ((name_es L _).trans (number_es L _))), ?_, .inl ⟨rfl, numberB_le _, shape_le F _, rfl⟩⟩
   exact name_mem (shape_er L F _ hf)
  ·rename_i h1
   rw [if_neg h1] at hf
   split
   ·rename_i h2
    rw [if_pos h2] at hf
    have hs : (wantP L (nameP L (advP s)).1 tEq).es = s.es := (want_es L _ _).trans (name_es L (advP s))
    refine ⟨(allMd L F).expr _ (by omega) (hm.of hs), ?_, .inr (.inl ⟨rfl, rfl, rfl⟩)⟩
    exact name_mem (Er.want tEq ((allE L F).expr _ hf))
   ·rename_i h2
    rw [if_neg h2] at hf
    split
    ·rename_i h3
     rw [if_pos h3] at hf
     exact ⟨hm.of (name_es L (advP s)), name_mem hf, .inr (.inr ⟨rfl, rfl, rfl, rfl⟩)⟩
    ·rename_i h3
     rw [if_neg h3] at hf
     exact absurd hf (fail_some _ _ _)
theorem loop_md (F : Nat) (hF : 12 * L.length + 20 ≤ F) : ∀ (n : Nat) (s : PS), (parseLoopP L n F s).err = none → Md L s → (∀ x ∈ s.ss, MadeS L x) → Md L (parseLoopP L n F s) ∧ ∀ x ∈ (parseLoopP L n F s).ss, MadeS L x := by
 intro n
 induction n with
 | zero => intro s _ h h2; exact ⟨h, h2⟩
 | succ n ih =>
  intro s he h h2
  rw [parseLoopP] at he ⊢
  split
  ·rename_i hc
   rw [if_pos hc] at he
   have h1 : (stmtP L F s).err = none := Classical.byContradiction fun h1 => by
    rw [loop_stay L n F _ h1] at he
    exact h1 he
   have e : stmtP L F s = putS (wantP L (bodyP L F s).1 tSemi) (bodyP L F s).2 := rfl
   have hb : (bodyP L F s).1.err = none := by
    rw [e] at h1
    have h1' : (wantP L (bodyP L F s).1 tSemi).err = none := h1
    exact Er.want tSemi h1'
   obtain ⟨m1, m2⟩ := body_md F s hF h hb
   refine ih _ he (m1.of (want_es L _ _)) fun x hx => ?_
   rw [e] at hx
   have hx' : x ∈ (wantP L (bodyP L F s).1 tSemi).ss ++ [(bodyP L F s).2] := hx
   rw [(G.want (L := L) (bodyP L F s).1 tSemi).hs, (body_G (L := L) F s).hs] at hx'
   rcases List.mem_append.1 hx' with hx | hx
   ·exact h2 x hx
   ·rw [List.mem_singleton.1 hx]
    exact m2
  ·exact ⟨h, h2⟩
theorem parse_md {F : Nat} (hF : 12 * L.length + 20 ≤ F) (h : (parseP F L).err = none) : (∀ e ∈ (parseP F L).es, MadeE L e) ∧ ∀ x ∈ (parseP F L).ss, MadeS L x := loop_md F hF F startP h (fun e he => by cases he) (fun x hx => by cases hx)
end
def opT (k : Nat) : ByteArray := if k = 4 then tPlus else if k = 5 then tMinus else if k = 6 then tStar else if k = 7 then tAt else tLess
def fnT (k : Nat) : ByteArray := if k = 10 then tRelu else if k = 11 then tSum else if k = 12 then tArgmax else if k = 13 then tMax else tMux
def prE (es : List Ex) : Nat → Nat → List Tok
 | 0, _ => []
 | f + 1, n =>
  match es[n]? with
  | none => []
  | some e =>
   if e.kind = 1 then [numT e.num]
   else if e.kind = 2 then [nmT e.name]
   else if e.kind = 3 then sgT tOpen :: sgT tMinus :: (prE es f (e.args.getD 0 0) ++ [sgT tShut])
   else if e.kind ≤ 8 then sgT tOpen :: (prE es f (e.args.getD 0 0) ++ sgT (opT e.kind) :: (prE es f (e.args.getD 1 0) ++ [sgT tShut]))
   else if e.kind = 9 then sgT tOpen :: (prE es f (e.args.getD 0 0) ++ [sgT tShift, numT e.num, sgT tShut])
   else if e.kind ≤ 12 then kwT (fnT e.kind) :: sgT tOpen :: (prE es f (e.args.getD 0 0) ++ [sgT tShut])
   else if e.kind = 13 then kwT (fnT e.kind) :: sgT tOpen :: (prE es f (e.args.getD 0 0) ++ sgT tComma :: (prE es f (e.args.getD 1 0) ++ [sgT tShut]))
   else kwT (fnT e.kind) :: sgT tOpen :: (prE es f (e.args.getD 0 0) ++ sgT tComma :: (prE es f (e.args.getD 1 0) ++ sgT tComma :: (prE es f (e.args.getD 2 0) ++ [sgT tShut])))
theorem trl_snoc {es : List Ex} {a c : Nat} {l : List Nat} {r : Nat} (h : TrL es a c (l ++ [r])) : ∃ b, TrL es a b l ∧ TrL es b (r + 1) [r] ∧ c = r + 1 := by
 generalize hm : l ++ [r] = m at h
 cases h with
 | nil => simp at hm
 | snoc _ b r' l' e h1 he hr =>
  have h2 := List.append_inj_right' hm rfl
  have h3 := List.append_inj_left' hm rfl
  injection h2 with h2 _
  subst h2 h3
  exact ⟨b, h1, TrL.one he hr, rfl⟩
theorem trl_nil {es : List Ex} {a c : Nat} (h : TrL es a c []) : a = c := by
 generalize hm : ([] : List Nat) = m at h
 cases h with
 | nil => rfl
 | snoc _ b r' l' e h1 he hr => simp at hm
theorem trl_one {es : List Ex} {a r : Nat} (h : TrL es a (r + 1) [r]) : ∃ e, es[r]? = some e ∧ TrL es a r e.args := by
 generalize hm : [r] = m at h
 generalize hc : r + 1 = c at h
 cases h with
 | nil => simp at hm
 | snoc _ b r' l' e h1 he hr =>
  have hl : l' = [] := by
   cases l' with
   | nil => rfl
   | cons x y => simp at hm
  subst hl
  simp at hm
  subst hm
  have := trl_nil h1
  subst this
  exact ⟨e, he, hr⟩
theorem trl_a1 {es : List Ex} {a c x : Nat} (h : TrL es a c [x]) : TrL es a (x + 1) [x] ∧ c = x + 1 := by
 obtain ⟨b, h1, h2, h3⟩ := trl_snoc (l := []) h
 have := trl_nil h1
 subst this
 exact ⟨h2, h3⟩
theorem trl_a2 {es : List Ex} {a c x y : Nat} (h : TrL es a c [x, y]) : TrL es a (x + 1) [x] ∧ TrL es (x + 1) (y + 1) [y] ∧ c = y + 1 := by
 obtain ⟨b, h1, h2, h3⟩ := trl_snoc (l := [x]) h
 obtain ⟨h4, h5⟩ := trl_a1 h1
 subst h5
 exact ⟨h4, h2, h3⟩
theorem trl_a3 {es : List Ex} {a c x y z : Nat} (h : TrL es a c [x, y, z]) : TrL es a (x + 1) [x] ∧ TrL es (x + 1) (y + 1) [y] ∧ TrL es (y + 1) (z + 1) [z] ∧ c = z + 1 := by
 obtain ⟨b, h1, h2, h3⟩ := trl_snoc (l := [x, y]) h
 obtain ⟨h4, h5, h6⟩ := trl_a2 h1
 subst h6
 exact ⟨h4, h5, h2, h3⟩
def AtT (L : List Tok) (i : Nat) (ts : List Tok) : Prop := ∀ (k : Nat) (t : Tok), ts[k]? = some t → ∃ q, L[i + k]? = some ⟨t.kind, t.text, t.num, q⟩
section
variable {L : List Tok} {s : PS}
theorem AtT.head {i : Nat} {t : Tok} {r : List Tok} (h : AtT L i (t :: r)) : ∃ q, L[i]? = some ⟨t.kind, t.text, t.num, q⟩ := by
 obtain ⟨q, hq⟩ := h 0 t rfl
 exact ⟨q, hq⟩
theorem AtT.tail {i : Nat} {t : Tok} {r : List Tok} (h : AtT L i (t :: r)) : AtT L (i + 1) r := fun k u hu => by
 obtain ⟨q, hq⟩ := h (k + 1) u (by rw [List.getElem?_cons_succ]; exact hu)
 exact ⟨q, by rw [Nat.add_assoc, Nat.add_comm 1 k]; exact hq⟩
theorem AtT.left {i : Nat} {a b : List Tok} (h : AtT L i (a ++ b)) : AtT L i a := fun k u hu => h k u (by
 rw [List.getElem?_append_left (List.getElem?_eq_some_iff.1 hu).1]
 exact hu)
theorem AtT.right {i : Nat} {a b : List Tok} (h : AtT L i (a ++ b)) : AtT L (i + a.length) b := fun k u hu => by
 obtain ⟨q, hq⟩ := h (a.length + k) u (by rw [List.getElem?_append_right (by omega), Nat.add_sub_cancel_left]; exact hu)
 exact ⟨q, by rw [Nat.add_assoc]; exact hq⟩
theorem now_tk {t : Tok} {r : List Tok} (h : AtT L s.i (t :: r)) : ∃ q, nowP L s = ⟨t.kind, t.text, t.num, q⟩ := by
 obtain ⟨q, hq⟩ := h.head
 exact ⟨q, by unfold nowP; rw [hq]; rfl⟩
theorem is_sg {x y : ByteArray} {r : List Tok} (he : s.err = none) (h : AtT L s.i (sgT x :: r)) : isP L s y = (x.toList == y.toList) := by
 obtain ⟨q, hq⟩ := now_tk h
 unfold isP
 rw [hq, he]
 rfl
theorem is_kw {x y : ByteArray} {r : List Tok} (he : s.err = none) (h : AtT L s.i (kwT x :: r)) : isP L s y = (x.toList == y.toList) := by
 obtain ⟨q, hq⟩ := now_tk h
 unfold isP
 rw [hq, he]
 rfl
theorem is_no {t : Tok} {y : ByteArray} {r : List Tok} (ht : t.kind = 1 ∨ t.kind = 2) (h : AtT L s.i (t :: r)) : isP L s y = false := by
 obtain ⟨q, hq⟩ := now_tk h
 unfold isP
 rw [hq]
 rcases ht with ht | ht
 ·rw [ht]; simp
 ·rw [ht]; simp
theorem want_at {x : ByteArray} {r : List Tok} (he : s.err = none) (h : AtT L s.i (sgT x :: r)) : wantP L s x = advP s := by
 unfold wantP
 rw [is_sg he h]
 simp
end
def sameE (a b : Ex) : Prop := a.kind = b.kind ∧ a.name = b.name ∧ a.num = b.num ∧ a.args = b.args
structure Cp (es : List Ex) (n : Nat) (s : PS) : Prop where
 len : s.es.length = n
 le : n ≤ es.length
 at_ : ∀ (i : Nat) (a b : Ex), s.es[i]? = some a → es[i]? = some b → sameE a b
theorem Cp.of {es : List Ex} {n : Nat} {s s' : PS} (h : Cp es n s) (he : s'.es = s.es) : Cp es n s' := ⟨by rw [he]; exact h.len, h.le, fun i a b ha hb => h.at_ i a b (by rw [← he]; exact ha) hb⟩
theorem Cp.put {es : List Ex} {n : Nat} {s : PS} {e e' : Ex} (h : Cp es n s) (hf : (putP s e').1.err = none) (he : es[n]? = some e) (hs : sameE e' e) : (putP s e').2 = n ∧ Cp es (n + 1) (putP s e').1 ∧ (putP s e').1.i = s.i := by
 have hn : s.err = none := Er.put e' hf
 have e1 : putP s e' = ({ s with es := s.es ++ [e'] }, s.es.length) := by unfold putP; rw [hn]; rfl
 rw [e1]
 refine ⟨h.len, ⟨by show (s.es ++ [e']).length = n + 1; rw [List.length_append, h.len]; rfl, (List.getElem?_eq_some_iff.1 he).1, fun i a b ha hb => ?_⟩, rfl⟩
 have ha' : (s.es ++ [e'])[i]? = some a := ha
 rcases Nat.lt_trichotomy i n with h1 | h1 | h1
 ·rw [List.getElem?_append_left (by rw [h.len]; exact h1)] at ha'
  exact h.at_ i a b ha' hb
 ·subst h1
  rw [List.getElem?_append_right (by rw [h.len]; exact Nat.le_refl _), h.len, Nat.sub_self] at ha'
  have : e' = a := Option.some.inj ha'
  rw [← this]
  rw [he] at hb
  rw [← Option.some.inj hb]
  exact hs
 ·have := (List.getElem?_eq_some_iff.1 ha').1
  rw [List.length_append, h.len] at this
  simp at this
  omega
section
variable {L : List Tok} {s : PS}
theorem post_er (f : Nat) (s : PS) (h : (postP L (f + 1) s).1.err = none) : (atomP L f s).1.err = none := by rw [postP] at h; exact (allE L f).postLoop _ _ h
theorem prod_er (f : Nat) (s : PS) (h : (prodP L (f + 1) s).1.err = none) : (signP L f s).1.err = none := by rw [prodP] at h; exact (allE L f).prodLoop _ _ h
theorem sum_er (f : Nat) (s : PS) (h : (sumP L (f + 1) s).1.err = none) : (prodP L f s).1.err = none := by rw [sumP] at h; exact (allE L f).sumLoop _ _ h
theorem expr_er (f : Nat) (s : PS) (h : (exprP L (f + 1) s).1.err = none) : (sumP L f s).1.err = none := by
 rw [exprP] at h
 dsimp only at h
 split at h
 ·exact Er.adv ((allE L f).sum _ (Er.put _ h))
 ·exact h
theorem post_lv (f : Nat) (h : isP L (atomP L f s).1 tShift = false) : postP L (f + 1) s = atomP L f s := by
 rw [postP]
 cases f with
 | zero => rw [postLoopP]
 | succ f => rw [postLoopP, h]; rfl
theorem sign_lv (f : Nat) (h : isP L s tMinus = false) : signP L (f + 1) s = postP L f s := by
 rw [signP, h]
 rfl
theorem prodLoop_lv (f a : Nat) (h1 : isP L s tStar = false) (h2 : isP L s tAt = false) : prodLoopP L f s a = (s, a) := by
 cases f with
 | zero => rw [prodLoopP]
 | succ f => rw [prodLoopP, h1, h2]; rfl
theorem sumLoop_lv (f a : Nat) (h1 : isP L s tPlus = false) (h2 : isP L s tMinus = false) : sumLoopP L f s a = (s, a) := by
 cases f with
 | zero => rw [sumLoopP]
 | succ f => rw [sumLoopP, h1, h2]; rfl
theorem prod_lv (f : Nat) (h1 : isP L (signP L f s).1 tStar = false) (h2 : isP L (signP L f s).1 tAt = false) : prodP L (f + 1) s = signP L f s := by
 rw [prodP, prodLoop_lv _ _ h1 h2]
theorem sum_lv (f : Nat) (h1 : isP L (prodP L f s).1 tPlus = false) (h2 : isP L (prodP L f s).1 tMinus = false) : sumP L (f + 1) s = prodP L f s := by
 rw [sumP, sumLoop_lv _ _ h1 h2]
theorem expr_lv (f : Nat) (h1 : isP L (sumP L f s).1 tLess = false) : exprP L (f + 1) s = sumP L f s := by
 rw [exprP]
 dsimp only
 rw [h1]
 rfl
structure Nx (L : List Tok) (s : PS) (x : ByteArray) : Prop where
 is : ∀ y, isP L s y = (x.toList == y.toList)
theorem Nx.at_ {x : ByteArray} {r : List Tok} (he : s.err = none) (h : AtT L s.i (sgT x :: r)) : Nx L s x := ⟨fun y => is_sg he h⟩
theorem sign_at (f : Nat) {x : ByteArray} (h0 : isP L s tMinus = false) (hn : Nx L (atomP L f s).1 x) (hx : (x.toList == tShift.toList) = false) : signP L (f + 2) s = atomP L f s := by
 rw [sign_lv _ h0, post_lv _ (by rw [hn.is]; exact hx)]
theorem prod_at (f : Nat) {x : ByteArray} (h0 : isP L s tMinus = false) (hn : Nx L (atomP L f s).1 x) (hx : (x.toList == tShift.toList) = false) (hx1 : (x.toList == tStar.toList) = false) (hx2 : (x.toList == tAt.toList) = false) : prodP L (f + 3) s = atomP L f s := by
 have h := sign_at f h0 hn hx
 rw [prod_lv _ (by rw [h, hn.is]; exact hx1) (by rw [h, hn.is]; exact hx2), h]
theorem sum_at (f : Nat) {x : ByteArray} (h0 : isP L s tMinus = false) (hn : Nx L (atomP L f s).1 x) (hx : (x.toList == tShift.toList) = false) (hx1 : (x.toList == tStar.toList) = false) (hx2 : (x.toList == tAt.toList) = false) (hx3 : (x.toList == tPlus.toList) = false) (hx4 : (x.toList == tMinus.toList) = false) : sumP L (f + 4) s = atomP L f s := by
 have h := prod_at f h0 hn hx hx1 hx2
 rw [sum_lv _ (by rw [h, hn.is]; exact hx3) (by rw [h, hn.is]; exact hx4), h]
theorem expr_at (f : Nat) {x : ByteArray} (h0 : isP L s tMinus = false) (hn : Nx L (atomP L f s).1 x) (hx : (x.toList == tShift.toList) = false) (hx1 : (x.toList == tStar.toList) = false) (hx2 : (x.toList == tAt.toList) = false) (hx3 : (x.toList == tPlus.toList) = false) (hx4 : (x.toList == tMinus.toList) = false) (hx5 : (x.toList == tLess.toList) = false) : exprP L (f + 5) s = atomP L f s := by
 have h := sum_at f h0 hn hx hx1 hx2 hx3 hx4
 rw [expr_lv _ (by rw [h, hn.is]; exact hx5), h]
end
theorem pr_first {L : List Tok} {s : PS} {es : List Ex} {F n : Nat} {e : Ex} {L0 r : List Tok} (he : es[n]? = some e) (hm : MadeE L0 e) (h : AtT L s.i (prE es (F + 1) n ++ r)) (hn : s.err = none) : isP L s tMinus = false := by
 rw [prE, he] at h
 dsimp only at h
 rcases hm with ⟨k, _⟩ | ⟨k, _⟩ | ⟨k1, k2, _⟩
 ·rw [if_pos k] at h
  exact is_no (.inr rfl) h
 ·rw [if_neg (by omega), if_pos k] at h
  exact is_no (.inl rfl) h
 ·rw [if_neg (by omega), if_neg (by omega)] at h
  have o : (tOpen.toList == tMinus.toList) = false := by rw [ByteArray.toList_eq, ByteArray.toList_eq]; rfl
  split at h
  ·exact (is_sg hn h).trans o
  ·split at h
   ·exact (is_sg hn h).trans o
   ·split at h
    ·exact (is_sg hn h).trans o
    ·have q : ∀ k, 10 ≤ k → k ≤ 14 → ((fnT k).toList == tMinus.toList) = false := fun k h1 h2 => by
      have : k = 10 ∨ k = 11 ∨ k = 12 ∨ k = 13 ∨ k = 14 := by omega
      rw [ByteArray.toList_eq, ByteArray.toList_eq]
      rcases this with rfl | rfl | rfl | rfl | rfl <;> rfl
     split at h
     ·exact (is_kw hn h).trans (q _ (by omega) (by omega))
     ·split at h
      ·exact (is_kw hn h).trans (q _ (by omega) (by omega))
      ·exact (is_kw hn h).trans (q _ (by omega) (by omega))
def Got (es : List Ex) (s : PS) (n len : Nat) (o : PS × Nat) : Prop := o.2 = n ∧ o.1.i = s.i + len ∧ Cp es (n + 1) o.1
section
variable {L : List Tok} {s : PS} {es : List Ex}
theorem pb_atom_num (f : Nat) (he : s.err = none) (hk : (nowP L s).kind = 2) : atomP L (f + 1) s = putP (advP s) ⟨1, noB, (nowP L s).num, [], (nowP L s).pos⟩ := by
 rw [atomP]
 dsimp only
 rw [if_neg (by rw [he]; simp), if_pos (by rw [hk]; rfl)]
theorem pb_atom_name (f : Nat) (he : s.err = none) (hk : (nowP L s).kind = 1) : atomP L (f + 1) s = putP (advP s) ⟨2, (nowP L s).text, 0, [], (nowP L s).pos⟩ := by
 rw [atomP]
 dsimp only
 rw [if_neg (by rw [he]; simp), if_neg (by rw [hk]; decide), if_pos (by rw [hk]; rfl)]
theorem pb_atom_paren (f : Nat) (he : s.err = none) (hk : (nowP L s).kind = 3) (ho : isP L s tOpen = true) (hs : (sinkP L s).2 = true) : atomP L (f + 1) s = (riseP (wantP L (exprP L f (advP (sinkP L s).1)).1 tShut), (exprP L f (advP (sinkP L s).1)).2) := by
 have hc : callP (nowP L s) = (0, 0) := by unfold callP; rw [hk]; rfl
 rw [atomP]
 dsimp only
 rw [if_neg (by rw [he]; simp), if_neg (by rw [hk]; decide), if_neg (by rw [hk]; decide), hc, ho, hs]
 rfl
theorem pb_atom_call (f k m : Nat) (he : s.err = none) (hk : (nowP L s).kind = 4) (hc : callP (nowP L s) = (k, m)) (hm : m ≠ 0) (hs : (sinkP L s).2 = true) : atomP L (f + 1) s =
  putP (riseP (wantP L (argsP L f m (wantP L (advP (sinkP L s).1) tOpen) []).1 tShut)) ⟨k, noB, 0, (argsP L f m (wantP L (advP (sinkP L s).1) tOpen) []).2, (nowP L s).pos⟩ := by
 have hb : (m == 0) = false := beq_eq_false_iff_ne.2 hm
 rw [atomP]
 dsimp only
 rw [if_neg (by rw [he]; simp), if_neg (by rw [hk]; decide), if_neg (by rw [hk]; decide), hc, hs]
 dsimp only
 rw [hb, Bool.and_false]
 simp only [Bool.false_eq_true, if_false, if_true]
theorem atom_deep (f : Nat) (he : s.err = none) (hk : (nowP L s).kind = 3 ∧ isP L s tOpen = true ∨ (nowP L s).kind = 4 ∧ (callP (nowP L s)).2 ≠ 0) (h : (atomP L (f + 1) s).1.err = none) : (sinkP L s).2 = true := by
 cases hs : (sinkP L s).2 with
 | true => rfl
 | false =>
  rw [atomP] at h
  dsimp only at h
  have h3 : (nowP L s).kind = 3 ∨ (nowP L s).kind = 4 := hk.elim (fun h => .inl h.1) fun h => .inr h.1
  rw [if_neg (by rw [he]; simp), if_neg (by rcases h3 with h3 | h3 <;> rw [h3] <;> decide), if_neg (by rcases h3 with h3 | h3 <;> rw [h3] <;> decide)] at h
  have hcond : ((!isP L s tOpen) && ((callP (nowP L s)).2 == 0)) = false := by
   rcases hk with hk | hk
   ·rw [hk.2]; rfl
   ·rw [beq_eq_false_iff_ne.2 hk.2, Bool.and_false]
  rw [hcond, hs] at h
  simp only [Bool.false_eq_true, if_false] at h
  exact absurd h (by rw [(sink_false hs).2]; exact fail_some _ _ _)
theorem AtT.len {i : Nat} {ts : List Tok} (h : AtT L i ts) (hn : ts ≠ []) : i + ts.length ≤ L.length := by
 have hp : 0 < ts.length := List.length_pos_iff.2 hn
 obtain ⟨q, hq⟩ := h (ts.length - 1) (ts[ts.length - 1]'(by omega)) (List.getElem?_eq_getElem _)
 have := (List.getElem?_eq_some_iff.1 hq).1
 omega
theorem sign_got (f : Nat) {n len : Nat} {x : ByteArray} {r : List Tok} (h0 : isP L s tMinus = false) (hih : (atomP L f s).1.err = none → Got es s n len (atomP L f s)) (ht : AtT L (s.i + len) (sgT x :: r)) (hx : (x.toList == tShift.toList) = false) (he : (signP L (f + 2) s).1.err = none) :
  signP L (f + 2) s = atomP L f s ∧ Got es s n len (atomP L f s) ∧ Nx L (atomP L f s).1 x ∧ (atomP L f s).1.err = none := by
 have h1 : (atomP L f s).1.err = none := by
  rw [sign_lv _ h0] at he
  exact post_er f s he
 have h2 := hih h1
 have h3 : Nx L (atomP L f s).1 x := Nx.at_ h1 (r := r) (by rw [h2.2.1]; exact ht)
 exact ⟨sign_at f h0 h3 hx, h2, h3, h1⟩
theorem prod_got (f : Nat) {n len : Nat} {x : ByteArray} {r : List Tok} (h0 : isP L s tMinus = false) (hih : (atomP L f s).1.err = none → Got es s n len (atomP L f s)) (ht : AtT L (s.i + len) (sgT x :: r)) (hx : (x.toList == tShift.toList) = false) (hx1 : (x.toList == tStar.toList) = false) (hx2 : (x.toList == tAt.toList) = false) (he : (prodP L (f + 3) s).1.err = none) :
  prodP L (f + 3) s = atomP L f s ∧ Got es s n len (atomP L f s) ∧ Nx L (atomP L f s).1 x ∧ (atomP L f s).1.err = none := by
 obtain ⟨h1, h2, h3, h4⟩ := sign_got f h0 hih ht hx (prod_er _ s he)
 exact ⟨prod_at f h0 h3 hx hx1 hx2, h2, h3, h4⟩
theorem sum_got (f : Nat) {n len : Nat} {x : ByteArray} {r : List Tok} (h0 : isP L s tMinus = false) (hih : (atomP L f s).1.err = none → Got es s n len (atomP L f s)) (ht : AtT L (s.i + len) (sgT x :: r)) (hx : (x.toList == tShift.toList) = false) (hx1 : (x.toList == tStar.toList) = false) (hx2 : (x.toList == tAt.toList) = false) (hx3 : (x.toList == tPlus.toList) = false) (hx4 : (x.toList == tMinus.toList) = false) (he : (sumP L (f + 4) s).1.err = none) :
  sumP L (f + 4) s = atomP L f s ∧ Got es s n len (atomP L f s) ∧ Nx L (atomP L f s).1 x ∧ (atomP L f s).1.err = none := by
 obtain ⟨h1, h2, h3, h4⟩ := prod_got f h0 hih ht hx hx1 hx2 (sum_er _ s he)
 exact ⟨sum_at f h0 h3 hx hx1 hx2 hx3 hx4, h2, h3, h4⟩
theorem expr_got (f : Nat) {n len : Nat} {x : ByteArray} {r : List Tok} (h0 : isP L s tMinus = false) (hih : (atomP L f s).1.err = none → Got es s n len (atomP L f s)) (ht : AtT L (s.i + len) (sgT x :: r)) (hx : (x.toList == tShift.toList) = false) (hx1 : (x.toList == tStar.toList) = false) (hx2 : (x.toList == tAt.toList) = false) (hx3 : (x.toList == tPlus.toList) = false) (hx4 : (x.toList == tMinus.toList) = false) (hx5 : (x.toList == tLess.toList) = false) (he : (exprP L (f + 5) s).1.err = none) :
  exprP L (f + 5) s = atomP L f s ∧ Got es s n len (atomP L f s) ∧ (atomP L f s).1.err = none := by
 obtain ⟨h1, h2, h3, h4⟩ := sum_got f h0 hih ht hx hx1 hx2 hx3 hx4 (expr_er _ s he)
 exact ⟨expr_at f h0 h3 hx hx1 hx2 hx3 hx4 hx5, h2, h4⟩
structure EndT (x : ByteArray) : Prop where
 a : (x.toList == tShift.toList) = false
 b : (x.toList == tStar.toList) = false
 c : (x.toList == tAt.toList) = false
 d : (x.toList == tPlus.toList) = false
 e : (x.toList == tMinus.toList) = false
 f : (x.toList == tLess.toList) = false
theorem end_shut : EndT tShut := by constructor <;> (rw [ByteArray.toList_eq, ByteArray.toList_eq]; rfl)
theorem end_comma : EndT tComma := by constructor <;> (rw [ByteArray.toList_eq, ByteArray.toList_eq]; rfl)
theorem end_semi : EndT tSemi := by constructor <;> (rw [ByteArray.toList_eq, ByteArray.toList_eq]; rfl)
theorem up_sign (f : Nat) {c : PS × Nat} {x : ByteArray} (h : signP L f s = c) (hn : Nx L c.1 x) (hx : EndT x) : exprP L (f + 3) s = c := by
 have h1 : prodP L (f + 1) s = c := by rw [prod_lv _ (by rw [h, hn.is]; exact hx.b) (by rw [h, hn.is]; exact hx.c), h]
 have h2 : sumP L (f + 2) s = c := by rw [sum_lv _ (by rw [h1, hn.is]; exact hx.d) (by rw [h1, hn.is]; exact hx.e), h1]
 rw [expr_lv _ (by rw [h2, hn.is]; exact hx.f), h2]
theorem up_prod (f : Nat) {c : PS × Nat} {x : ByteArray} (h1 : prodP L f s = c) (hn : Nx L c.1 x) (hx : EndT x) : exprP L (f + 2) s = c := by
 have h2 : sumP L (f + 1) s = c := by rw [sum_lv _ (by rw [h1, hn.is]; exact hx.d) (by rw [h1, hn.is]; exact hx.e), h1]
 rw [expr_lv _ (by rw [h2, hn.is]; exact hx.f), h2]
theorem up_sum (f : Nat) {c : PS × Nat} {x : ByteArray} (h2 : sumP L f s = c) (hn : Nx L c.1 x) (hx : EndT x) : exprP L (f + 1) s = c := by
 rw [expr_lv _ (by rw [h2, hn.is]; exact hx.f), h2]
theorem paren_got (f : Nat) {n len : Nat} {r : List Tok} (he : s.err = none) (ht : AtT L s.i (sgT tOpen :: r)) (h : (atomP L (f + 1) s).1.err = none)
  (hin : ∀ s1 : PS, s1.i = s.i + 1 → s1.es = s.es → s1.err = none → (exprP L f s1).1.err = none → Got es s1 n len (exprP L f s1)) (hc : AtT L (s.i + 1 + len) [sgT tShut]) : Got es s n (len + 2) (atomP L (f + 1) s) := by
 obtain ⟨q, hq⟩ := now_tk ht
 have hk : (nowP L s).kind = 3 := by rw [hq]; rfl
 have ho : isP L s tOpen = true := by rw [is_sg he ht]; simp
 have hs := atom_deep f he (.inl ⟨hk, ho⟩) h
 rw [pb_atom_paren f he hk ho hs] at h ⊢
 have h1 : (exprP L f (advP (sinkP L s).1)).1.err = none := Er.want tShut h
 have hs1 : (advP (sinkP L s).1).i = s.i + 1 := by rw [(sink_true hs).2]; rfl
 have hs2 : (advP (sinkP L s).1).es = s.es := sink_es L s
 have hs3 : (advP (sinkP L s).1).err = none := by rw [(sink_true hs).2]; exact he
 obtain ⟨g1, g2, g3⟩ := hin _ hs1 hs2 hs3 h1
 have hw : wantP L (exprP L f (advP (sinkP L s).1)).1 tShut = advP (exprP L f (advP (sinkP L s).1)).1 := want_at h1 (r := []) (by rw [g2, hs1]; exact hc)
 refine ⟨g1, ?_, ?_⟩
 ·show (wantP L (exprP L f (advP (sinkP L s).1)).1 tShut).i = _
  rw [hw]
  show (exprP L f (advP (sinkP L s).1)).1.i + 1 = _
  rw [g2, hs1]
  omega
 ·refine g3.of ?_
  show (wantP L (exprP L f (advP (sinkP L s).1)).1 tShut).es = _
  rw [hw]
  rfl
end
theorem call_is (k q : Nat) (h1 : 10 ≤ k) (h2 : k ≤ 14) : callP ⟨4, fnT k, 0, q⟩ = (k, mkN k) := by
 have : k = 10 ∨ k = 11 ∨ k = 12 ∨ k = 13 ∨ k = 14 := by omega
 unfold callP
 dsimp only
 simp only [ByteArray.toList_eq]
 rcases this with rfl | rfl | rfl | rfl | rfl <;> rfl
theorem len_one {l : List Nat} (h : l.length = 1) : ∃ x, l = [x] := by
 match l, h with
 | [x], _ => exact ⟨x, rfl⟩
theorem len_two {l : List Nat} (h : l.length = 2) : ∃ x y, l = [x, y] := by
 match l, h with
 | [x, y], _ => exact ⟨x, y, rfl⟩
theorem len_three {l : List Nat} (h : l.length = 3) : ∃ x y z, l = [x, y, z] := by
 match l, h with
 | [x, y, z], _ => exact ⟨x, y, z, rfl⟩
structure Ih (L L0 : List Tok) (es : List Ex) (F n : Nat) : Prop where
 go : ∀ (x lo : Nat) (r : List Tok) (s : PS), x < n → TrL es lo (x + 1) [x] → AtT L s.i (prE es F x ++ r) → Cp es lo s → ∀ g, 12 * (L.length - s.i) + 1 ≤ g → (atomP L g s).1.err = none → Got es s x (prE es F x).length (atomP L g s)
 fst : ∀ (x lo : Nat) (r : List Tok) (s : PS), x < n → TrL es lo (x + 1) [x] → AtT L s.i (prE es F x ++ r) → s.err = none → isP L s tMinus = false
section
variable {L L0 : List Tok} {es : List Ex} {F n lo : Nat} {e : Ex} {s1 : PS}
theorem put_none {s : PS} {e : Ex} (h : (putP s e).1.err = none) : s.err = none := Er.put e h
theorem neg_back (ih : Ih L L0 es F n) (g : Nat) {x : Nat} (he : es[n]? = some e) (hk : e.kind = 3) (hb : e.name = noB) (hz : e.num = 0) (hx : e.args = [x]) (hargs : TrL es lo n e.args) (hcp : Cp es lo s1) (hg : 12 * (L.length - s1.i) ≤ g) (t1 : AtT L s1.i (sgT tMinus :: (prE es F x ++ [sgT tShut]))) (n1 : s1.err = none) (h : (exprP L (g + 10) s1).1.err = none) :
  Got es s1 n (1 + (prE es F x).length) (exprP L (g + 10) s1) := by
 rw [hx] at hargs
 obtain ⟨tx, hn⟩ := trl_a1 hargs
 have hsg : (signP L (g + 7) s1).1.err = none := prod_er _ _ (sum_er _ _ (expr_er _ _ h))
 have hmn : isP L s1 tMinus = true := by rw [is_sg n1 t1]; simp
 have hk2 : (sinkP L s1).2 = true := by
  cases hs : (sinkP L s1).2 with
  | true => rfl
  | false =>
   rw [signP, hmn] at hsg
   dsimp only at hsg
   rw [hs] at hsg
   simp only [Bool.false_eq_true, if_false, if_true] at hsg
   exact absurd hsg (by rw [(sink_false hs).2]; exact fail_some _ _ _)
 have hsc : signP L (g + 7) s1 = putP (riseP (signP L (g + 6) (advP (sinkP L s1).1)).1) ⟨3, noB, 0, [(signP L (g + 6) (advP (sinkP L s1).1)).2], (nowP L s1).pos⟩ := by
  rw [signP, hmn]
  dsimp only
  rw [hk2]
  rfl
 have hsi : (advP (sinkP L s1).1).i = s1.i + 1 := by rw [(sink_true hk2).2]; rfl
 have hse : (advP (sinkP L s1).1).es = s1.es := sink_es L s1
 have hsn : (advP (sinkP L s1).1).err = none := by rw [(sink_true hk2).2]; exact n1
 have t2 : AtT L (advP (sinkP L s1).1).i (prE es F x ++ [sgT tShut]) := by rw [hsi]; exact t1.tail
 have hcp2 : Cp es lo (advP (sinkP L s1).1) := hcp.of hse
 rw [hsc] at hsg
 have ha : (signP L (g + 6) (advP (sinkP L s1).1)).1.err = none := by
  have h9 := put_none hsg
  exact h9
 obtain ⟨q1, q2, q3, q4⟩ := sign_got (g + 4) (ih.fst x lo _ _ (by omega) tx t2 hsn) (ih.go x lo _ _ (by omega) tx t2 hcp2 (g + 4) (by rw [hsi]; omega)) t2.right end_shut.a ha
 rw [q1] at hsc hsg
 have hcp3 : Cp es n (riseP (atomP L (g + 4) (advP (sinkP L s1).1)).1) := by rw [hn]; exact q2.2.2.of rfl
 obtain ⟨a, b, c⟩ := hcp3.put hsg he ⟨hk.symm, hb.symm, hz.symm, by rw [hx, q2.1]⟩
 have hci : (putP (riseP (atomP L (g + 4) (advP (sinkP L s1).1)).1) ⟨3, noB, 0, [(atomP L (g + 4) (advP (sinkP L s1).1)).2], (nowP L s1).pos⟩).1.i = (advP (sinkP L s1).1).i + (prE es F x).length := c.trans q2.2.1
 have hnx : Nx L (putP (riseP (atomP L (g + 4) (advP (sinkP L s1).1)).1) ⟨3, noB, 0, [(atomP L (g + 4) (advP (sinkP L s1).1)).2], (nowP L s1).pos⟩).1 tShut := Nx.at_ hsg (r := []) (by rw [hci]; exact t2.right)
 rw [up_sign (g + 7) hsc hnx end_shut]
 exact ⟨a, by rw [hci, hsi]; omega, b⟩
theorem shift_back (ih : Ih L L0 es F n) (g : Nat) {x : Nat} (he : es[n]? = some e) (hk : e.kind = 9) (hb : e.name = noB) (hz : e.num ≤ 1048576) (hx : e.args = [x]) (hargs : TrL es lo n e.args) (hcp : Cp es lo s1) (hg : 12 * (L.length - s1.i) ≤ g) (t1 : AtT L s1.i (prE es F x ++ [sgT tShift, numT e.num, sgT tShut])) (n1 : s1.err = none) (h : (exprP L (g + 10) s1).1.err = none) :
  Got es s1 n ((prE es F x).length + 2) (exprP L (g + 10) s1) := by
 rw [hx] at hargs
 obtain ⟨tx, hn⟩ := trl_a1 hargs
 have hsg : (signP L (g + 7) s1).1.err = none := prod_er _ _ (sum_er _ _ (expr_er _ _ h))
 have hmn := ih.fst x lo _ _ (by omega) tx t1 n1
 rw [sign_lv _ hmn] at hsg
 have ha : (atomP L (g + 5) s1).1.err = none := post_er _ _ hsg
 have hgot := ih.go x lo _ _ (by omega) tx t1 hcp (g + 5) (by omega) ha
 have t2 := t1.right
 have hsh : isP L (atomP L (g + 5) s1).1 tShift = true := by rw [is_sg ha (r := [numT e.num, sgT tShut]) (by rw [hgot.2.1]; exact t2)]; simp
 have t3 : AtT L (advP (atomP L (g + 5) s1).1).i [numT e.num, sgT tShut] := by
  show AtT L ((atomP L (g + 5) s1).1.i + 1) _
  rw [hgot.2.1]
  exact t2.tail
 have hnum : numberP L (advP (atomP L (g + 5) s1).1) = (advP (advP (atomP L (g + 5) s1).1), e.num) := by
  obtain ⟨q, hq⟩ := now_tk t3
  have hne : (advP (atomP L (g + 5) s1).1).err = none := ha
  unfold numberP
  rw [hq, hne]
  rw [if_neg (by
   show ¬ ((false || (2 != 2)) || decide (1048576 < e.num)) = true
   rw [decide_eq_false (by omega)]
   decide)]
  rfl
 have hpe : postP L (g + 6) s1 = postLoopP L (g + 4) (putP (advP (advP (atomP L (g + 5) s1).1)) ⟨9, noB, e.num, [(atomP L (g + 5) s1).2], (nowP L (atomP L (g + 5) s1).1).pos⟩).1 (putP (advP (advP (atomP L (g + 5) s1).1)) ⟨9, noB, e.num, [(atomP L (g + 5) s1).2], (nowP L (atomP L (g + 5) s1).1).pos⟩).2 := by
  rw [postP]
  rw [postLoopP, hsh]
  simp only [if_true]
  rw [hnum]
 rw [hpe] at hsg
 have hce := (allE L (g + 4)).postLoop _ _ hsg
 have hcp3 : Cp es n (advP (advP (atomP L (g + 5) s1).1)) := by rw [hn]; exact hgot.2.2.of rfl
 obtain ⟨a, b, c⟩ := hcp3.put hce he ⟨hk.symm, hb.symm, rfl, by rw [hx, hgot.1]⟩
 have hci : (putP (advP (advP (atomP L (g + 5) s1).1)) ⟨9, noB, e.num, [(atomP L (g + 5) s1).2], (nowP L (atomP L (g + 5) s1).1).pos⟩).1.i = s1.i + ((prE es F x).length + 2) := by
  rw [c]
  show (atomP L (g + 5) s1).1.i + 1 + 1 = _
  rw [hgot.2.1]
  omega
 have hnx : Nx L (putP (advP (advP (atomP L (g + 5) s1).1)) ⟨9, noB, e.num, [(atomP L (g + 5) s1).2], (nowP L (atomP L (g + 5) s1).1).pos⟩).1 tShut := Nx.at_ hce (r := []) (by
  rw [hci]
  have := t2.tail.tail
  rwa [show s1.i + (prE es F x).length + 1 + 1 = s1.i + ((prE es F x).length + 2) by omega] at this)
 have hpc : postP L (g + 6) s1 = putP (advP (advP (atomP L (g + 5) s1).1)) ⟨9, noB, e.num, [(atomP L (g + 5) s1).2], (nowP L (atomP L (g + 5) s1).1).pos⟩ := by
  rw [hpe, postLoopP, hnx.is, end_shut.a]
  rfl
 have hsc : signP L (g + 7) s1 = putP (advP (advP (atomP L (g + 5) s1).1)) ⟨9, noB, e.num, [(atomP L (g + 5) s1).2], (nowP L (atomP L (g + 5) s1).1).pos⟩ := by rw [sign_lv _ hmn, hpc]
 rw [up_sign (g + 7) hsc hnx end_shut]
 exact ⟨a, hci, b⟩
theorem mul_back (ih : Ih L L0 es F n) (g : Nat) {x y : Nat} (he : es[n]? = some e) (hk : e.kind = 6) (hb : e.name = noB) (hz : e.num = 0) (hx : e.args = [x, y]) (hargs : TrL es lo n e.args) (hcp : Cp es lo s1) (hg : 12 * (L.length - s1.i) ≤ g) (t1 : AtT L s1.i (prE es F x ++ sgT tStar :: (prE es F y ++ [sgT tShut]))) (n1 : s1.err = none) (h : (exprP L (g + 10) s1).1.err = none) :
  Got es s1 n ((prE es F x).length + 1 + (prE es F y).length) (exprP L (g + 10) s1) := by
 rw [hx] at hargs
 obtain ⟨tx, ty, hn⟩ := trl_a2 hargs
 have hxy := ty.le.1
 have hq : ∀ z, z ∈ [[62, 62]] → (tStar.toList == z) = false := by rw [ByteArray.toList_eq]; decide
 have hse : (signP L (g + 7) s1).1.err = none := prod_er _ _ (sum_er _ _ (expr_er _ _ h))
 obtain ⟨q1, q2, q3, q4⟩ := sign_got (g + 5) (ih.fst x lo _ _ (by omega) tx t1 n1) (ih.go x lo _ _ (by omega) tx t1 hcp (g + 5) (by omega)) t1.right (by rw [ByteArray.toList_eq tShift]; exact hq _ (by decide)) hse
 have t2 : AtT L (advP (atomP L (g + 5) s1).1).i (prE es F y ++ [sgT tShut]) := by
  show AtT L ((atomP L (g + 5) s1).1.i + 1) _
  rw [q2.2.1]
  exact t1.right.tail
 have h2e : (advP (atomP L (g + 5) s1).1).err = none := q4
 have hop : isP L (atomP L (g + 5) s1).1 tStar = true := by rw [q3.is]; simp
 have hte : prodP L (g + 8) s1 = prodLoopP L (g + 6) (putP (signP L (g + 6) (advP (atomP L (g + 5) s1).1)).1 ⟨6, noB, 0, [(atomP L (g + 5) s1).2, (signP L (g + 6) (advP (atomP L (g + 5) s1).1)).2], (nowP L (atomP L (g + 5) s1).1).pos⟩).1 (putP (signP L (g + 6) (advP (atomP L (g + 5) s1).1)).1 ⟨6, noB, 0, [(atomP L (g + 5) s1).2, (signP L (g + 6) (advP (atomP L (g + 5) s1).1)).2], (nowP L (atomP L (g + 5) s1).1).pos⟩).2 := by
  rw [prodP]
  rw [q1, prodLoopP, hop]
  rfl
 have htn : (prodP L (g + 8) s1).1.err = none := sum_er _ _ (expr_er _ _ h)
 rw [hte] at htn
 have hce := (allE L (g + 6)).prodLoop _ _ htn
 have hbe : (signP L (g + 6) (advP (atomP L (g + 5) s1).1)).1.err = none := put_none hce
 obtain ⟨p1, p2, p3, p4⟩ := sign_got (g + 4) (ih.fst y (x + 1) _ _ (by omega) ty t2 h2e) (ih.go y (x + 1) _ _ (by omega) ty t2 (q2.2.2.of rfl) (g + 4) (by show 12 * (L.length - ((atomP L (g + 5) s1).1.i + 1)) + 1 ≤ _; rw [q2.2.1]; omega)) t2.right end_shut.a hbe
 rw [p1] at hte hce
 have hcp3 : Cp es n (atomP L (g + 4) (advP (atomP L (g + 5) s1).1)).1 := by rw [hn]; exact p2.2.2
 obtain ⟨a, b, c⟩ := hcp3.put hce he ⟨hk.symm, hb.symm, hz.symm, by rw [hx, q2.1, p2.1]⟩
 have hci : (putP (atomP L (g + 4) (advP (atomP L (g + 5) s1).1)).1 ⟨6, noB, 0, [(atomP L (g + 5) s1).2, (atomP L (g + 4) (advP (atomP L (g + 5) s1).1)).2], (nowP L (atomP L (g + 5) s1).1).pos⟩).1.i = s1.i + ((prE es F x).length + 1 + (prE es F y).length) := by
  rw [c, p2.2.1]
  show (atomP L (g + 5) s1).1.i + 1 + (prE es F y).length = _
  rw [q2.2.1]
  omega
 have hnx : Nx L (putP (atomP L (g + 4) (advP (atomP L (g + 5) s1).1)).1 ⟨6, noB, 0, [(atomP L (g + 5) s1).2, (atomP L (g + 4) (advP (atomP L (g + 5) s1).1)).2], (nowP L (atomP L (g + 5) s1).1).pos⟩).1 tShut := Nx.at_ hce (r := []) (by
  rw [hci]
  have h9 := t2.right
  rwa [show (advP (atomP L (g + 5) s1).1).i + (prE es F y).length = s1.i + ((prE es F x).length + 1 + (prE es F y).length) from by
   show (atomP L (g + 5) s1).1.i + 1 + (prE es F y).length = _
   rw [q2.2.1]
   omega] at h9)
 have htc : prodP L (g + 8) s1 = (putP (atomP L (g + 4) (advP (atomP L (g + 5) s1).1)).1 ⟨6, noB, 0, [(atomP L (g + 5) s1).2, (atomP L (g + 4) (advP (atomP L (g + 5) s1).1)).2], (nowP L (atomP L (g + 5) s1).1).pos⟩) := by rw [hte, prodLoop_lv _ _ (by rw [hnx.is]; exact end_shut.b) (by rw [hnx.is]; exact end_shut.c)]
 rw [up_prod (g + 8) htc hnx end_shut]
 exact ⟨a, hci, b⟩
theorem mat_back (ih : Ih L L0 es F n) (g : Nat) {x y : Nat} (he : es[n]? = some e) (hk : e.kind = 7) (hb : e.name = noB) (hz : e.num = 0) (hx : e.args = [x, y]) (hargs : TrL es lo n e.args) (hcp : Cp es lo s1) (hg : 12 * (L.length - s1.i) ≤ g) (t1 : AtT L s1.i (prE es F x ++ sgT tAt :: (prE es F y ++ [sgT tShut]))) (n1 : s1.err = none) (h : (exprP L (g + 10) s1).1.err = none) :
  Got es s1 n ((prE es F x).length + 1 + (prE es F y).length) (exprP L (g + 10) s1) := by
 rw [hx] at hargs
 obtain ⟨tx, ty, hn⟩ := trl_a2 hargs
 have hxy := ty.le.1
 have hq : ∀ z, z ∈ [[62, 62]] → (tAt.toList == z) = false := by rw [ByteArray.toList_eq]; decide
 have hse : (signP L (g + 7) s1).1.err = none := prod_er _ _ (sum_er _ _ (expr_er _ _ h))
 obtain ⟨q1, q2, q3, q4⟩ := sign_got (g + 5) (ih.fst x lo _ _ (by omega) tx t1 n1) (ih.go x lo _ _ (by omega) tx t1 hcp (g + 5) (by omega)) t1.right (by rw [ByteArray.toList_eq tShift]; exact hq _ (by decide)) hse
 have t2 : AtT L (advP (atomP L (g + 5) s1).1).i (prE es F y ++ [sgT tShut]) := by
  show AtT L ((atomP L (g + 5) s1).1.i + 1) _
  rw [q2.2.1]
  exact t1.right.tail
 have h2e : (advP (atomP L (g + 5) s1).1).err = none := q4
 have hop : isP L (atomP L (g + 5) s1).1 tAt = true := by rw [q3.is]; simp
 have hno : isP L (atomP L (g + 5) s1).1 tStar = false := by rw [q3.is, ByteArray.toList_eq, ByteArray.toList_eq]; rfl
 have hte : prodP L (g + 8) s1 = prodLoopP L (g + 6) (putP (signP L (g + 6) (advP (atomP L (g + 5) s1).1)).1 ⟨7, noB, 0, [(atomP L (g + 5) s1).2, (signP L (g + 6) (advP (atomP L (g + 5) s1).1)).2], (nowP L (atomP L (g + 5) s1).1).pos⟩).1 (putP (signP L (g + 6) (advP (atomP L (g + 5) s1).1)).1 ⟨7, noB, 0, [(atomP L (g + 5) s1).2, (signP L (g + 6) (advP (atomP L (g + 5) s1).1)).2], (nowP L (atomP L (g + 5) s1).1).pos⟩).2 := by
  rw [prodP]
  rw [q1, prodLoopP, hno, hop]
  rfl
 have htn : (prodP L (g + 8) s1).1.err = none := sum_er _ _ (expr_er _ _ h)
 rw [hte] at htn
 have hce := (allE L (g + 6)).prodLoop _ _ htn
 have hbe : (signP L (g + 6) (advP (atomP L (g + 5) s1).1)).1.err = none := put_none hce
 obtain ⟨p1, p2, p3, p4⟩ := sign_got (g + 4) (ih.fst y (x + 1) _ _ (by omega) ty t2 h2e) (ih.go y (x + 1) _ _ (by omega) ty t2 (q2.2.2.of rfl) (g + 4) (by show 12 * (L.length - ((atomP L (g + 5) s1).1.i + 1)) + 1 ≤ _; rw [q2.2.1]; omega)) t2.right end_shut.a hbe
 rw [p1] at hte hce
 have hcp3 : Cp es n (atomP L (g + 4) (advP (atomP L (g + 5) s1).1)).1 := by rw [hn]; exact p2.2.2
 obtain ⟨a, b, c⟩ := hcp3.put hce he ⟨hk.symm, hb.symm, hz.symm, by rw [hx, q2.1, p2.1]⟩
 have hci : (putP (atomP L (g + 4) (advP (atomP L (g + 5) s1).1)).1 ⟨7, noB, 0, [(atomP L (g + 5) s1).2, (atomP L (g + 4) (advP (atomP L (g + 5) s1).1)).2], (nowP L (atomP L (g + 5) s1).1).pos⟩).1.i = s1.i + ((prE es F x).length + 1 + (prE es F y).length) := by
  rw [c, p2.2.1]
  show (atomP L (g + 5) s1).1.i + 1 + (prE es F y).length = _
  rw [q2.2.1]
  omega
 have hnx : Nx L (putP (atomP L (g + 4) (advP (atomP L (g + 5) s1).1)).1 ⟨7, noB, 0, [(atomP L (g + 5) s1).2, (atomP L (g + 4) (advP (atomP L (g + 5) s1).1)).2], (nowP L (atomP L (g + 5) s1).1).pos⟩).1 tShut := Nx.at_ hce (r := []) (by
  rw [hci]
  have h9 := t2.right
  rwa [show (advP (atomP L (g + 5) s1).1).i + (prE es F y).length = s1.i + ((prE es F x).length + 1 + (prE es F y).length) from by
   show (atomP L (g + 5) s1).1.i + 1 + (prE es F y).length = _
   rw [q2.2.1]
   omega] at h9)
 have htc : prodP L (g + 8) s1 = (putP (atomP L (g + 4) (advP (atomP L (g + 5) s1).1)).1 ⟨7, noB, 0, [(atomP L (g + 5) s1).2, (atomP L (g + 4) (advP (atomP L (g + 5) s1).1)).2], (nowP L (atomP L (g + 5) s1).1).pos⟩) := by rw [hte, prodLoop_lv _ _ (by rw [hnx.is]; exact end_shut.b) (by rw [hnx.is]; exact end_shut.c)]
 rw [up_prod (g + 8) htc hnx end_shut]
 exact ⟨a, hci, b⟩
theorem add_back (ih : Ih L L0 es F n) (g : Nat) {x y : Nat} (he : es[n]? = some e) (hk : e.kind = 4) (hb : e.name = noB) (hz : e.num = 0) (hx : e.args = [x, y]) (hargs : TrL es lo n e.args) (hcp : Cp es lo s1) (hg : 12 * (L.length - s1.i) ≤ g) (t1 : AtT L s1.i (prE es F x ++ sgT tPlus :: (prE es F y ++ [sgT tShut]))) (n1 : s1.err = none) (h : (exprP L (g + 10) s1).1.err = none) :
  Got es s1 n ((prE es F x).length + 1 + (prE es F y).length) (exprP L (g + 10) s1) := by
 rw [hx] at hargs
 obtain ⟨tx, ty, hn⟩ := trl_a2 hargs
 have hxy := ty.le.1
 have hq : ∀ z, z ∈ [[62, 62], [42], [64]] → (tPlus.toList == z) = false := by rw [ByteArray.toList_eq]; decide
 have hse : (prodP L (g + 8) s1).1.err = none := sum_er _ _ (expr_er _ _ h)
 obtain ⟨q1, q2, q3, q4⟩ := prod_got (g + 5) (ih.fst x lo _ _ (by omega) tx t1 n1) (ih.go x lo _ _ (by omega) tx t1 hcp (g + 5) (by omega)) t1.right (by rw [ByteArray.toList_eq tShift]; exact hq _ (by decide)) (by rw [ByteArray.toList_eq tStar]; exact hq _ (by decide)) (by rw [ByteArray.toList_eq tAt]; exact hq _ (by decide)) hse
 have t2 : AtT L (advP (atomP L (g + 5) s1).1).i (prE es F y ++ [sgT tShut]) := by
  show AtT L ((atomP L (g + 5) s1).1.i + 1) _
  rw [q2.2.1]
  exact t1.right.tail
 have h2e : (advP (atomP L (g + 5) s1).1).err = none := q4
 have hop : isP L (atomP L (g + 5) s1).1 tPlus = true := by rw [q3.is]; simp
 have hte : sumP L (g + 9) s1 = sumLoopP L (g + 7) (putP (prodP L (g + 7) (advP (atomP L (g + 5) s1).1)).1 ⟨4, noB, 0, [(atomP L (g + 5) s1).2, (prodP L (g + 7) (advP (atomP L (g + 5) s1).1)).2], (nowP L (atomP L (g + 5) s1).1).pos⟩).1 (putP (prodP L (g + 7) (advP (atomP L (g + 5) s1).1)).1 ⟨4, noB, 0, [(atomP L (g + 5) s1).2, (prodP L (g + 7) (advP (atomP L (g + 5) s1).1)).2], (nowP L (atomP L (g + 5) s1).1).pos⟩).2 := by
  rw [sumP]
  rw [q1, sumLoopP, hop]
  rfl
 have htn : (sumP L (g + 9) s1).1.err = none := expr_er _ _ h
 rw [hte] at htn
 have hce := (allE L (g + 7)).sumLoop _ _ htn
 have hbe : (prodP L (g + 7) (advP (atomP L (g + 5) s1).1)).1.err = none := put_none hce
 obtain ⟨p1, p2, p3, p4⟩ := prod_got (g + 4) (ih.fst y (x + 1) _ _ (by omega) ty t2 h2e) (ih.go y (x + 1) _ _ (by omega) ty t2 (q2.2.2.of rfl) (g + 4) (by show 12 * (L.length - ((atomP L (g + 5) s1).1.i + 1)) + 1 ≤ _; rw [q2.2.1]; omega)) t2.right end_shut.a end_shut.b end_shut.c hbe
 rw [p1] at hte hce
 have hcp3 : Cp es n (atomP L (g + 4) (advP (atomP L (g + 5) s1).1)).1 := by rw [hn]; exact p2.2.2
 obtain ⟨a, b, c⟩ := hcp3.put hce he ⟨hk.symm, hb.symm, hz.symm, by rw [hx, q2.1, p2.1]⟩
 have hci : (putP (atomP L (g + 4) (advP (atomP L (g + 5) s1).1)).1 ⟨4, noB, 0, [(atomP L (g + 5) s1).2, (atomP L (g + 4) (advP (atomP L (g + 5) s1).1)).2], (nowP L (atomP L (g + 5) s1).1).pos⟩).1.i = s1.i + ((prE es F x).length + 1 + (prE es F y).length) := by
  rw [c, p2.2.1]
  show (atomP L (g + 5) s1).1.i + 1 + (prE es F y).length = _
  rw [q2.2.1]
  omega
 have hnx : Nx L (putP (atomP L (g + 4) (advP (atomP L (g + 5) s1).1)).1 ⟨4, noB, 0, [(atomP L (g + 5) s1).2, (atomP L (g + 4) (advP (atomP L (g + 5) s1).1)).2], (nowP L (atomP L (g + 5) s1).1).pos⟩).1 tShut := Nx.at_ hce (r := []) (by
  rw [hci]
  have h9 := t2.right
  rwa [show (advP (atomP L (g + 5) s1).1).i + (prE es F y).length = s1.i + ((prE es F x).length + 1 + (prE es F y).length) from by
   show (atomP L (g + 5) s1).1.i + 1 + (prE es F y).length = _
   rw [q2.2.1]
   omega] at h9)
 have htc : sumP L (g + 9) s1 = (putP (atomP L (g + 4) (advP (atomP L (g + 5) s1).1)).1 ⟨4, noB, 0, [(atomP L (g + 5) s1).2, (atomP L (g + 4) (advP (atomP L (g + 5) s1).1)).2], (nowP L (atomP L (g + 5) s1).1).pos⟩) := by rw [hte, sumLoop_lv _ _ (by rw [hnx.is]; exact end_shut.d) (by rw [hnx.is]; exact end_shut.e)]
 rw [up_sum (g + 9) htc hnx end_shut]
 exact ⟨a, hci, b⟩
theorem sub_back (ih : Ih L L0 es F n) (g : Nat) {x y : Nat} (he : es[n]? = some e) (hk : e.kind = 5) (hb : e.name = noB) (hz : e.num = 0) (hx : e.args = [x, y]) (hargs : TrL es lo n e.args) (hcp : Cp es lo s1) (hg : 12 * (L.length - s1.i) ≤ g) (t1 : AtT L s1.i (prE es F x ++ sgT tMinus :: (prE es F y ++ [sgT tShut]))) (n1 : s1.err = none) (h : (exprP L (g + 10) s1).1.err = none) :
  Got es s1 n ((prE es F x).length + 1 + (prE es F y).length) (exprP L (g + 10) s1) := by
 rw [hx] at hargs
 obtain ⟨tx, ty, hn⟩ := trl_a2 hargs
 have hxy := ty.le.1
 have hq : ∀ z, z ∈ [[62, 62], [42], [64]] → (tMinus.toList == z) = false := by rw [ByteArray.toList_eq]; decide
 have hse : (prodP L (g + 8) s1).1.err = none := sum_er _ _ (expr_er _ _ h)
 obtain ⟨q1, q2, q3, q4⟩ := prod_got (g + 5) (ih.fst x lo _ _ (by omega) tx t1 n1) (ih.go x lo _ _ (by omega) tx t1 hcp (g + 5) (by omega)) t1.right (by rw [ByteArray.toList_eq tShift]; exact hq _ (by decide)) (by rw [ByteArray.toList_eq tStar]; exact hq _ (by decide)) (by rw [ByteArray.toList_eq tAt]; exact hq _ (by decide)) hse
 have t2 : AtT L (advP (atomP L (g + 5) s1).1).i (prE es F y ++ [sgT tShut]) := by
  show AtT L ((atomP L (g + 5) s1).1.i + 1) _
  rw [q2.2.1]
  exact t1.right.tail
 have h2e : (advP (atomP L (g + 5) s1).1).err = none := q4
 have hop : isP L (atomP L (g + 5) s1).1 tMinus = true := by rw [q3.is]; simp
 have hno : isP L (atomP L (g + 5) s1).1 tPlus = false := by rw [q3.is, ByteArray.toList_eq, ByteArray.toList_eq]; rfl
 have hte : sumP L (g + 9) s1 = sumLoopP L (g + 7) (putP (prodP L (g + 7) (advP (atomP L (g + 5) s1).1)).1 ⟨5, noB, 0, [(atomP L (g + 5) s1).2, (prodP L (g + 7) (advP (atomP L (g + 5) s1).1)).2], (nowP L (atomP L (g + 5) s1).1).pos⟩).1 (putP (prodP L (g + 7) (advP (atomP L (g + 5) s1).1)).1 ⟨5, noB, 0, [(atomP L (g + 5) s1).2, (prodP L (g + 7) (advP (atomP L (g + 5) s1).1)).2], (nowP L (atomP L (g + 5) s1).1).pos⟩).2 := by
  rw [sumP]
  rw [q1, sumLoopP, hno, hop]
  rfl
 have htn : (sumP L (g + 9) s1).1.err = none := expr_er _ _ h
 rw [hte] at htn
 have hce := (allE L (g + 7)).sumLoop _ _ htn
 have hbe : (prodP L (g + 7) (advP (atomP L (g + 5) s1).1)).1.err = none := put_none hce
 obtain ⟨p1, p2, p3, p4⟩ := prod_got (g + 4) (ih.fst y (x + 1) _ _ (by omega) ty t2 h2e) (ih.go y (x + 1) _ _ (by omega) ty t2 (q2.2.2.of rfl) (g + 4) (by show 12 * (L.length - ((atomP L (g + 5) s1).1.i + 1)) + 1 ≤ _; rw [q2.2.1]; omega)) t2.right end_shut.a end_shut.b end_shut.c hbe
 rw [p1] at hte hce
 have hcp3 : Cp es n (atomP L (g + 4) (advP (atomP L (g + 5) s1).1)).1 := by rw [hn]; exact p2.2.2
 obtain ⟨a, b, c⟩ := hcp3.put hce he ⟨hk.symm, hb.symm, hz.symm, by rw [hx, q2.1, p2.1]⟩
 have hci : (putP (atomP L (g + 4) (advP (atomP L (g + 5) s1).1)).1 ⟨5, noB, 0, [(atomP L (g + 5) s1).2, (atomP L (g + 4) (advP (atomP L (g + 5) s1).1)).2], (nowP L (atomP L (g + 5) s1).1).pos⟩).1.i = s1.i + ((prE es F x).length + 1 + (prE es F y).length) := by
  rw [c, p2.2.1]
  show (atomP L (g + 5) s1).1.i + 1 + (prE es F y).length = _
  rw [q2.2.1]
  omega
 have hnx : Nx L (putP (atomP L (g + 4) (advP (atomP L (g + 5) s1).1)).1 ⟨5, noB, 0, [(atomP L (g + 5) s1).2, (atomP L (g + 4) (advP (atomP L (g + 5) s1).1)).2], (nowP L (atomP L (g + 5) s1).1).pos⟩).1 tShut := Nx.at_ hce (r := []) (by
  rw [hci]
  have h9 := t2.right
  rwa [show (advP (atomP L (g + 5) s1).1).i + (prE es F y).length = s1.i + ((prE es F x).length + 1 + (prE es F y).length) from by
   show (atomP L (g + 5) s1).1.i + 1 + (prE es F y).length = _
   rw [q2.2.1]
   omega] at h9)
 have htc : sumP L (g + 9) s1 = (putP (atomP L (g + 4) (advP (atomP L (g + 5) s1).1)).1 ⟨5, noB, 0, [(atomP L (g + 5) s1).2, (atomP L (g + 4) (advP (atomP L (g + 5) s1).1)).2], (nowP L (atomP L (g + 5) s1).1).pos⟩) := by rw [hte, sumLoop_lv _ _ (by rw [hnx.is]; exact end_shut.d) (by rw [hnx.is]; exact end_shut.e)]
 rw [up_sum (g + 9) htc hnx end_shut]
 exact ⟨a, hci, b⟩
theorem less_back (ih : Ih L L0 es F n) (g : Nat) {x y : Nat} (he : es[n]? = some e) (hk : e.kind = 8) (hb : e.name = noB) (hz : e.num = 0) (hx : e.args = [x, y]) (hargs : TrL es lo n e.args) (hcp : Cp es lo s1) (hg : 12 * (L.length - s1.i) ≤ g) (t1 : AtT L s1.i (prE es F x ++ sgT tLess :: (prE es F y ++ [sgT tShut]))) (n1 : s1.err = none) (h : (exprP L (g + 10) s1).1.err = none) :
  Got es s1 n ((prE es F x).length + 1 + (prE es F y).length) (exprP L (g + 10) s1) := by
 rw [hx] at hargs
 obtain ⟨tx, ty, hn⟩ := trl_a2 hargs
 have hxy := ty.le.1
 have hq : ∀ z, z ∈ [[62, 62], [42], [64], [43], [45]] → (tLess.toList == z) = false := by rw [ByteArray.toList_eq]; decide
 have hse : (sumP L (g + 9) s1).1.err = none := expr_er _ _ h
 obtain ⟨q1, q2, q3, q4⟩ := sum_got (g + 5) (ih.fst x lo _ _ (by omega) tx t1 n1) (ih.go x lo _ _ (by omega) tx t1 hcp (g + 5) (by omega)) t1.right (by rw [ByteArray.toList_eq tShift]; exact hq _ (by decide)) (by rw [ByteArray.toList_eq tStar]; exact hq _ (by decide)) (by rw [ByteArray.toList_eq tAt]; exact hq _ (by decide)) (by rw [ByteArray.toList_eq tPlus]; exact hq _ (by decide)) (by rw [ByteArray.toList_eq tMinus]; exact hq _ (by decide)) hse
 have t2 : AtT L (advP (atomP L (g + 5) s1).1).i (prE es F y ++ [sgT tShut]) := by
  show AtT L ((atomP L (g + 5) s1).1.i + 1) _
  rw [q2.2.1]
  exact t1.right.tail
 have h2e : (advP (atomP L (g + 5) s1).1).err = none := q4
 have hop : isP L (atomP L (g + 5) s1).1 tLess = true := by rw [q3.is]; simp
 have hte : exprP L (g + 10) s1 = putP (sumP L (g + 9) (advP (atomP L (g + 5) s1).1)).1 ⟨8, noB, 0, [(atomP L (g + 5) s1).2, (sumP L (g + 9) (advP (atomP L (g + 5) s1).1)).2], (nowP L (atomP L (g + 5) s1).1).pos⟩ := by
  rw [exprP]
  rw [q1, hop]
  rfl
 have hce := h
 rw [hte] at hce
 have hbe : (sumP L (g + 9) (advP (atomP L (g + 5) s1).1)).1.err = none := put_none hce
 obtain ⟨p1, p2, p3, p4⟩ := sum_got (g + 5) (ih.fst y (x + 1) _ _ (by omega) ty t2 h2e) (ih.go y (x + 1) _ _ (by omega) ty t2 (q2.2.2.of rfl) (g + 5) (by show 12 * (L.length - ((atomP L (g + 5) s1).1.i + 1)) + 1 ≤ _; rw [q2.2.1]; omega)) t2.right end_shut.a end_shut.b end_shut.c end_shut.d end_shut.e hbe
 rw [p1] at hte hce
 have hcp3 : Cp es n (atomP L (g + 5) (advP (atomP L (g + 5) s1).1)).1 := by rw [hn]; exact p2.2.2
 obtain ⟨a, b, c⟩ := hcp3.put hce he ⟨hk.symm, hb.symm, hz.symm, by rw [hx, q2.1, p2.1]⟩
 have hci : (putP (atomP L (g + 5) (advP (atomP L (g + 5) s1).1)).1 ⟨8, noB, 0, [(atomP L (g + 5) s1).2, (atomP L (g + 5) (advP (atomP L (g + 5) s1).1)).2], (nowP L (atomP L (g + 5) s1).1).pos⟩).1.i = s1.i + ((prE es F x).length + 1 + (prE es F y).length) := by
  rw [c, p2.2.1]
  show (atomP L (g + 5) s1).1.i + 1 + (prE es F y).length = _
  rw [q2.2.1]
  omega
 rw [hte]
 exact ⟨a, hci, b⟩
end
section
variable {L L0 : List Tok} {es : List Ex} {F n lo : Nat} {e : Ex} {s s1 : PS}
theorem argsP_zero (f : Nat) (s : PS) (l : List Nat) : argsP L f 0 s l = (s, l) := by
 cases f <;> rw [argsP]
theorem argsP_step (f m : Nat) (s : PS) (l : List Nat) : argsP L (f + 1) (m + 1) s l = argsP L f m (exprP L f (if l.length = 0 then s else wantP L s tComma)).1 (l ++ [(exprP L f (if l.length = 0 then s else wantP L s tComma)).2]) := by rw [argsP]
theorem arg_got (ih : Ih L L0 es F n) (g : Nat) {x : Nat} {t : ByteArray} {r : List Tok} (hx : x < n) (tx : TrL es lo (x + 1) [x]) (hcp : Cp es lo s1) (hg : 12 * (L.length - s1.i) + 1 ≤ g) (t1 : AtT L s1.i (prE es F x ++ sgT t :: r)) (hte : EndT t) (n1 : s1.err = none) (h : (exprP L (g + 5) s1).1.err = none) : Got es s1 x (prE es F x).length (exprP L (g + 5) s1) := by
 obtain ⟨q1, q2, _⟩ := expr_got g (ih.fst x lo _ _ hx tx t1 n1) (ih.go x lo _ _ hx tx t1 hcp g hg) t1.right hte.a hte.b hte.c hte.d hte.e hte.f h
 rw [q1]
 exact q2
def ArgsGot (es : List Ex) (s : PS) (l : List Nat) (n len : Nat) (o : PS × List Nat) : Prop := o.2 = l ∧ o.1.i = s.i + len ∧ Cp es n o.1
theorem pb_args_one (ih : Ih L L0 es F n) (g : Nat) {x : Nat} (hargs : TrL es lo n [x]) (hcp : Cp es lo s1) (hg : 12 * (L.length - s1.i) + 1 ≤ g) (t1 : AtT L s1.i (prE es F x ++ [sgT tShut])) (n1 : s1.err = none) (h : (argsP L (g + 8) 1 s1 []).1.err = none) : ArgsGot es s1 [x] n (prE es F x).length (argsP L (g + 8) 1 s1 []) := by
 obtain ⟨tx, hn⟩ := trl_a1 hargs
 rw [argsP_step, argsP_zero] at h ⊢
 have hx := arg_got (s1 := s1) ih (g + 2) (by omega) tx hcp (by omega) t1 end_shut n1 h
 exact ⟨by show [] ++ [_] = _; rw [List.nil_append]; exact congrArg (fun z => [z]) hx.1, hx.2.1, by rw [hn]; exact hx.2.2⟩
theorem pb_args_two (ih : Ih L L0 es F n) (g : Nat) {x y : Nat} (hargs : TrL es lo n [x, y]) (hcp : Cp es lo s1) (hg : 12 * (L.length - s1.i) + 1 ≤ g) (t1 : AtT L s1.i (prE es F x ++ sgT tComma :: (prE es F y ++ [sgT tShut]))) (n1 : s1.err = none) (h : (argsP L (g + 8) 2 s1 []).1.err = none) : ArgsGot es s1 [x, y] n ((prE es F x).length + 1 + (prE es F y).length) (argsP L (g + 8) 2 s1 []) := by
 obtain ⟨tx, ty, hn⟩ := trl_a2 hargs
 have hxy := ty.le.1
 rw [argsP_step] at h ⊢
 have hxe : (exprP L (g + 7) s1).1.err = none := (allE L (g + 7)).args _ _ _ h
 have hx := arg_got (s1 := s1) ih (g + 2) (by omega) tx hcp (by omega) t1 end_comma n1 hxe
 have hw : wantP L (exprP L (g + 7) s1).1 tComma = advP (exprP L (g + 7) s1).1 := want_at hxe (r := prE es F y ++ [sgT tShut]) (by rw [hx.2.1]; exact t1.right)
 have t2 : AtT L (advP (exprP L (g + 7) s1).1).i (prE es F y ++ [sgT tShut]) := by
  show AtT L ((exprP L (g + 7) s1).1.i + 1) _
  rw [hx.2.1]
  exact t1.right.tail
 have hi2 : (advP (exprP L (g + 7) s1).1).i = s1.i + (prE es F x).length + 1 := by show (exprP L (g + 7) s1).1.i + 1 = _; rw [hx.2.1]
 have e0 : (if ([] : List Nat).length = 0 then s1 else wantP L s1 tComma) = s1 := rfl
 rw [e0] at h ⊢
 rw [argsP_step, argsP_zero, List.nil_append] at h ⊢
 have e1 : (if ([(exprP L (g + 7) s1).2] : List Nat).length = 0 then (exprP L (g + 7) s1).1 else wantP L (exprP L (g + 7) s1).1 tComma) = advP (exprP L (g + 7) s1).1 := hw
 rw [e1] at h ⊢
 have hy := arg_got (s1 := advP (exprP L (g + 7) s1).1) ih (g + 1) (by omega) ty (hx.2.2.of rfl) (by rw [hi2]; omega) t2 end_shut hxe h
 refine ⟨?_, ?_, by rw [hn]; exact hy.2.2⟩
 ·show [(exprP L (g + 7) s1).2] ++ [(exprP L (g + 6) (advP (exprP L (g + 7) s1).1)).2] = [x, y]
  rw [hx.1, hy.1]
  rfl
 ·show (exprP L (g + 6) (advP (exprP L (g + 7) s1).1)).1.i = _
  rw [hy.2.1, hi2]
  omega
theorem pb_args_three (ih : Ih L L0 es F n) (g : Nat) {x y z : Nat} (hargs : TrL es lo n [x, y, z]) (hcp : Cp es lo s1) (hg : 12 * (L.length - s1.i) + 1 ≤ g) (t1 : AtT L s1.i (prE es F x ++ sgT tComma :: (prE es F y ++ sgT tComma :: (prE es F z ++ [sgT tShut])))) (n1 : s1.err = none) (h : (argsP L (g + 8) 3 s1 []).1.err = none) : ArgsGot es s1 [x, y, z] n ((prE es F x).length + 1 + (prE es F y).length + 1 + (prE es F z).length) (argsP L (g + 8) 3 s1 []) := by
 obtain ⟨tx, ty, tz, hn⟩ := trl_a3 hargs
 have hxy := ty.le.1
 have hyz := tz.le.1
 rw [argsP_step] at h ⊢
 have hxe : (exprP L (g + 7) s1).1.err = none := (allE L (g + 7)).args _ _ _ h
 have hx := arg_got (s1 := s1) ih (g + 2) (by omega) tx hcp (by omega) t1 end_comma n1 hxe
 have hw : wantP L (exprP L (g + 7) s1).1 tComma = advP (exprP L (g + 7) s1).1 := want_at hxe (r := prE es F y ++ sgT tComma :: (prE es F z ++ [sgT tShut])) (by rw [hx.2.1]; exact t1.right)
 have t2 : AtT L (advP (exprP L (g + 7) s1).1).i (prE es F y ++ sgT tComma :: (prE es F z ++ [sgT tShut])) := by
  show AtT L ((exprP L (g + 7) s1).1.i + 1) _
  rw [hx.2.1]
  exact t1.right.tail
 have hi2 : (advP (exprP L (g + 7) s1).1).i = s1.i + (prE es F x).length + 1 := by show (exprP L (g + 7) s1).1.i + 1 = _; rw [hx.2.1]
 have e0 : (if ([] : List Nat).length = 0 then s1 else wantP L s1 tComma) = s1 := rfl
 rw [e0] at h ⊢
 rw [argsP_step, List.nil_append] at h ⊢
 have e1 : (if ([(exprP L (g + 7) s1).2] : List Nat).length = 0 then (exprP L (g + 7) s1).1 else wantP L (exprP L (g + 7) s1).1 tComma) = advP (exprP L (g + 7) s1).1 := hw
 rw [e1] at h ⊢
 have hye : (exprP L (g + 6) (advP (exprP L (g + 7) s1).1)).1.err = none := (allE L (g + 6)).args _ _ _ h
 have hy := arg_got (s1 := advP (exprP L (g + 7) s1).1) ih (g + 1) (by omega) ty (hx.2.2.of rfl) (by rw [hi2]; omega) t2 end_comma hxe hye
 have hw2 : wantP L (exprP L (g + 6) (advP (exprP L (g + 7) s1).1)).1 tComma = advP (exprP L (g + 6) (advP (exprP L (g + 7) s1).1)).1 := want_at hye (r := prE es F z ++ [sgT tShut]) (by rw [hy.2.1]; exact t2.right)
 have t3 : AtT L (advP (exprP L (g + 6) (advP (exprP L (g + 7) s1).1)).1).i (prE es F z ++ [sgT tShut]) := by
  show AtT L ((exprP L (g + 6) (advP (exprP L (g + 7) s1).1)).1.i + 1) _
  rw [hy.2.1]
  exact t2.right.tail
 have hi3 : (advP (exprP L (g + 6) (advP (exprP L (g + 7) s1).1)).1).i = s1.i + (prE es F x).length + 1 + (prE es F y).length + 1 := by show (exprP L (g + 6) (advP (exprP L (g + 7) s1).1)).1.i + 1 = _; rw [hy.2.1, hi2]
 rw [argsP_step, argsP_zero] at h ⊢
 have e2 : (if (([(exprP L (g + 7) s1).2] ++ [(exprP L (g + 6) (advP (exprP L (g + 7) s1).1)).2] : List Nat)).length = 0 then (exprP L (g + 6) (advP (exprP L (g + 7) s1).1)).1 else wantP L (exprP L (g + 6) (advP (exprP L (g + 7) s1).1)).1 tComma) = advP (exprP L (g + 6) (advP (exprP L (g + 7) s1).1)).1 := hw2
 rw [e2] at h ⊢
 have hz := arg_got (s1 := advP (exprP L (g + 6) (advP (exprP L (g + 7) s1).1)).1) ih g (by omega) tz (hy.2.2.of rfl) (by rw [hi3]; omega) t3 end_shut hye h
 refine ⟨?_, ?_, by rw [hn]; exact hz.2.2⟩
 ·show [(exprP L (g + 7) s1).2] ++ [(exprP L (g + 6) (advP (exprP L (g + 7) s1).1)).2] ++ [(exprP L (g + 5) (advP (exprP L (g + 6) (advP (exprP L (g + 7) s1).1)).1)).2] = [x, y, z]
  rw [hx.1, hy.1, hz.1]
  rfl
 ·show (exprP L (g + 5) (advP (exprP L (g + 6) (advP (exprP L (g + 7) s1).1)).1)).1.i = _
  rw [hz.2.1, hi3]
  omega
theorem call_got (f : Nat) {len : Nat} {r : List Tok} (he : es[n]? = some e) (h1 : 10 ≤ e.kind) (h2 : e.kind ≤ 14) (hb : e.name = noB) (hz : e.num = 0) (hn : s.err = none) (ht : AtT L s.i (kwT (fnT e.kind) :: sgT tOpen :: r)) (h : (atomP L (f + 1) s).1.err = none)
  (hin : ∀ s2 : PS, s2.i = s.i + 2 → s2.es = s.es → s2.err = none → (argsP L f (mkN e.kind) s2 []).1.err = none → ArgsGot es s2 e.args n len (argsP L f (mkN e.kind) s2 [])) (hc : AtT L (s.i + 2 + len) [sgT tShut]) : Got es s n (len + 3) (atomP L (f + 1) s) := by
 obtain ⟨q, hq⟩ := now_tk ht
 have hk : (nowP L s).kind = 4 := by rw [hq]; rfl
 have hcall : callP (nowP L s) = (e.kind, mkN e.kind) := by rw [hq]; exact call_is e.kind q h1 h2
 have hm : mkN e.kind ≠ 0 := by
  unfold mkN
  repeat' split
  all_goals decide
 have hs := atom_deep f hn (.inr ⟨hk, by rw [hcall]; exact hm⟩) h
 rw [pb_atom_call f e.kind (mkN e.kind) hn hk hcall hm hs] at h ⊢
 have i1 : (advP (sinkP L s).1).i = s.i + 1 := by rw [(sink_true hs).2]; rfl
 have e1 : (advP (sinkP L s).1).es = s.es := sink_es L s
 have n1 : (advP (sinkP L s).1).err = none := by rw [(sink_true hs).2]; exact hn
 have hw : wantP L (advP (sinkP L s).1) tOpen = advP (advP (sinkP L s).1) := want_at n1 (r := r) (by rw [i1]; exact ht.tail)
 rw [hw] at h ⊢
 have hp := put_none h
 have hx : (wantP L (argsP L f (mkN e.kind) (advP (advP (sinkP L s).1)) []).1 tShut).err = none := hp
 have hy := Er.want tShut hx
 obtain ⟨g1, g2, g3⟩ := hin (advP (advP (sinkP L s).1)) (by show (advP (sinkP L s).1).i + 1 = _; rw [i1]) e1 n1 hy
 have i2 : (argsP L f (mkN e.kind) (advP (advP (sinkP L s).1)) []).1.i = s.i + 2 + len := by rw [g2]; show (advP (sinkP L s).1).i + 1 + len = _; rw [i1]
 have hw2 : wantP L (argsP L f (mkN e.kind) (advP (advP (sinkP L s).1)) []).1 tShut = advP (argsP L f (mkN e.kind) (advP (advP (sinkP L s).1)) []).1 := want_at hy (r := []) (by rw [i2]; exact hc)
 rw [hw2] at h ⊢
 have g4 : Cp es n (riseP (advP (argsP L f (mkN e.kind) (advP (advP (sinkP L s).1)) []).1)) := g3.of rfl
 obtain ⟨a, b, c⟩ := g4.put h he ⟨rfl, hb.symm, hz.symm, g1⟩
 refine ⟨a, ?_, b⟩
 rw [c]
 show (argsP L f (mkN e.kind) (advP (advP (sinkP L s).1)) []).1.i + 1 = _
 rw [i2]
 omega
end
theorem atom_back {L L0 : List Tok} {es : List Ex} (hm : ∀ e ∈ es, MadeE L0 e) : ∀ (n F f lo : Nat) (s : PS), n < F → TrL es lo (n + 1) [n] → AtT L s.i (prE es F n) → Cp es lo s → 12 * (L.length - s.i) + 1 ≤ f → (atomP L f s).1.err = none → Got es s n (prE es F n).length (atomP L f s) := by
 intro n
 induction n using Nat.strongRecOn with
 | _ n ihn =>
  intro F f lo s hF htr hat hcp hf herr
  obtain ⟨F, rfl⟩ : ∃ F', F = F' + 1 := ⟨F - 1, by omega⟩
  obtain ⟨f, rfl⟩ : ∃ f', f = f' + 1 := ⟨f - 1, by omega⟩
  obtain ⟨e, he, hargs⟩ := trl_one htr
  have hmade := hm e (List.mem_of_getElem? he)
  have hs : s.err = none := (allE L (f + 1)).atom s herr
  have ih : Ih L L0 es F n := by
   refine ⟨fun x lo' r s' hx ht ha hc g hg h => ihn x hx F g lo' s' (by omega) ht ha.left hc hg h, fun x lo' r s' hx ht ha hn => ?_⟩
   obtain ⟨F2, rfl⟩ : ∃ F2, F = F2 + 1 := ⟨F - 1, by omega⟩
   obtain ⟨ex, hex, _⟩ := trl_one ht
   exact pr_first hex (hm ex (List.mem_of_getElem? hex)) ha hn
  rw [prE, he] at hat ⊢
  dsimp only at hat ⊢
  rcases hmade with ⟨k, h1, h2, _⟩ | ⟨k, h1, h2, _⟩ | ⟨k1, k2, h1, h2, h3, h4⟩
  ·rw [if_pos k] at hat ⊢
   obtain ⟨q, hq⟩ := now_tk hat
   rw [pb_atom_num f hs (by rw [hq]; rfl)] at herr ⊢
   rw [h2] at hargs
   have := trl_nil hargs
   subst this
   obtain ⟨a, b, c⟩ := (hcp.of (s' := advP s) rfl).put herr he ⟨k.symm, h1.symm, by rw [hq]; rfl, h2.symm⟩
   exact ⟨a, c, b⟩
  ·rw [if_neg (by omega), if_pos k] at hat ⊢
   obtain ⟨q, hq⟩ := now_tk hat
   rw [pb_atom_name f hs (by rw [hq]; rfl)] at herr ⊢
   rw [h2] at hargs
   have := trl_nil hargs
   subst this
   obtain ⟨a, b, c⟩ := (hcp.of (s' := advP s) rfl).put herr he ⟨k.symm, by rw [hq]; rfl, h1.symm, h2.symm⟩
   exact ⟨a, c, b⟩
  ·rw [if_neg (by omega), if_neg (by omega)] at hat ⊢
   by_cases k3 : e.kind = 3
   ·rw [if_pos k3] at hat ⊢
    obtain ⟨x, hx⟩ := len_one (h2.trans (by rw [k3]; rfl))
    have ha0 : e.args.getD 0 0 = x := by rw [hx]; rfl
    rw [ha0] at hat ⊢
    have hl := hat.len (by simp)
    have hlen : (sgT tOpen :: sgT tMinus :: (prE es F x ++ [sgT tShut])).length = 1 + (prE es F x).length + 2 := by simp; omega
    rw [hlen] at hl ⊢
    obtain ⟨g, rfl⟩ : ∃ g, f = g + 10 := ⟨f - 10, by omega⟩
    refine paren_got (g + 10) hs hat herr (fun s1 i1 e1 n1 h => ?_) (by
     have h9 := hat.tail.tail.right
     rwa [show s.i + 1 + 1 + (prE es F x).length = s.i + 1 + (1 + (prE es F x).length) by omega] at h9)
    exact neg_back ih g he k3 h1 (h3 (by omega)) hx hargs (hcp.of e1) (by rw [i1]; omega) (by rw [i1]; exact hat.tail) n1 h
   ·rw [if_neg k3] at hat ⊢
    by_cases k8 : e.kind ≤ 8
    ·rw [if_pos k8] at hat ⊢
     obtain ⟨x, y, hx⟩ := len_two (h2.trans (by unfold mkN; rw [if_neg (by omega), if_pos (by omega)]))
     have ha0 : e.args.getD 0 0 = x := by rw [hx]; rfl
     have ha1 : e.args.getD 1 0 = y := by rw [hx]; rfl
     rw [ha0, ha1] at hat ⊢
     have hl := hat.len (by simp)
     have hlen : (sgT tOpen :: (prE es F x ++ sgT (opT e.kind) :: (prE es F y ++ [sgT tShut]))).length = (prE es F x).length + 1 + (prE es F y).length + 2 := by simp; omega
     rw [hlen] at hl ⊢
     obtain ⟨g, rfl⟩ : ∃ g, f = g + 10 := ⟨f - 10, by omega⟩
     refine paren_got (g + 10) hs hat herr (fun s1 i1 e1 n1 h => ?_) (by
      have h9 := hat.tail.right.tail.right
      rwa [show s.i + 1 + (prE es F x).length + 1 + (prE es F y).length = s.i + 1 + ((prE es F x).length + 1 + (prE es F y).length) by omega] at h9)
     have t1 : AtT L s1.i (prE es F x ++ sgT (opT e.kind) :: (prE es F y ++ [sgT tShut])) := by rw [i1]; exact hat.tail
     have hc1 := hcp.of e1
     have hg1 : 12 * (L.length - s1.i) ≤ g := by rw [i1]; omega
     have hz := h3 (by omega)
     rcases (show e.kind = 4 ∨ e.kind = 5 ∨ e.kind = 6 ∨ e.kind = 7 ∨ e.kind = 8 by omega) with k | k | k | k | k
     ·rw [k] at t1; exact add_back ih g he k h1 hz hx hargs hc1 hg1 t1 n1 h
     ·rw [k] at t1; exact sub_back ih g he k h1 hz hx hargs hc1 hg1 t1 n1 h
     ·rw [k] at t1; exact mul_back ih g he k h1 hz hx hargs hc1 hg1 t1 n1 h
     ·rw [k] at t1; exact mat_back ih g he k h1 hz hx hargs hc1 hg1 t1 n1 h
     ·rw [k] at t1; exact less_back ih g he k h1 hz hx hargs hc1 hg1 t1 n1 h
    ·rw [if_neg k8] at hat ⊢
     by_cases k9 : e.kind = 9
     ·rw [if_pos k9] at hat ⊢
      obtain ⟨x, hx⟩ := len_one (h2.trans (by rw [k9]; rfl))
      have ha0 : e.args.getD 0 0 = x := by rw [hx]; rfl
      rw [ha0] at hat ⊢
      have hl := hat.len (by simp)
      have hlen : (sgT tOpen :: (prE es F x ++ [sgT tShift, numT e.num, sgT tShut])).length = (prE es F x).length + 2 + 2 := by simp
      rw [hlen] at hl ⊢
      obtain ⟨g, rfl⟩ : ∃ g, f = g + 10 := ⟨f - 10, by omega⟩
      refine paren_got (g + 10) hs hat herr (fun s1 i1 e1 n1 h => ?_) (by
       have h9 := hat.tail.right.tail.tail
       rwa [show s.i + 1 + (prE es F x).length + 1 + 1 = s.i + 1 + ((prE es F x).length + 2) by omega] at h9)
      exact shift_back ih g he k9 h1 h4 hx hargs (hcp.of e1) (by rw [i1]; omega) (by rw [i1]; exact hat.tail) n1 h
     ·rw [if_neg k9] at hat ⊢
      have hz := h3 k9
      by_cases k12 : e.kind ≤ 12
      ·rw [if_pos k12] at hat ⊢
       have hmk : mkN e.kind = 1 := by unfold mkN; rw [if_pos (by omega)]
       obtain ⟨x, hx⟩ := len_one (h2.trans hmk)
       have ha0 : e.args.getD 0 0 = x := by rw [hx]; rfl
       rw [ha0] at hat ⊢
       have hl := hat.len (by simp)
       have hlen : (kwT (fnT e.kind) :: sgT tOpen :: (prE es F x ++ [sgT tShut])).length = (prE es F x).length + 3 := by simp
       rw [hlen] at hl ⊢
       obtain ⟨g, rfl⟩ : ∃ g, f = g + 8 := ⟨f - 8, by omega⟩
       refine call_got (g + 8) he (by omega) k2 h1 hz hs hat herr (fun s2 i2 e2 n2 h => ?_) hat.tail.tail.right
       rw [hmk] at h ⊢
       rw [hx] at hargs ⊢
       exact pb_args_one ih g hargs (hcp.of e2) (by rw [i2]; omega) (by rw [i2]; exact hat.tail.tail) n2 h
      ·rw [if_neg k12] at hat ⊢
       by_cases k13 : e.kind = 13
       ·rw [if_pos k13] at hat ⊢
        have hmk : mkN e.kind = 2 := by rw [k13]; rfl
        obtain ⟨x, y, hx⟩ := len_two (h2.trans hmk)
        have ha0 : e.args.getD 0 0 = x := by rw [hx]; rfl
        have ha1 : e.args.getD 1 0 = y := by rw [hx]; rfl
        rw [ha0, ha1] at hat ⊢
        have hl := hat.len (by simp)
        have hlen : (kwT (fnT e.kind) :: sgT tOpen :: (prE es F x ++ sgT tComma :: (prE es F y ++ [sgT tShut]))).length = (prE es F x).length + 1 + (prE es F y).length + 3 := by simp; omega
        rw [hlen] at hl ⊢
        obtain ⟨g, rfl⟩ : ∃ g, f = g + 8 := ⟨f - 8, by omega⟩
        refine call_got (g + 8) he (by omega) k2 h1 hz hs hat herr (fun s2 i2 e2 n2 h => ?_) (by
         have h9 := hat.tail.tail.right.tail.right
         rwa [show s.i + 1 + 1 + (prE es F x).length + 1 + (prE es F y).length = s.i + 2 + ((prE es F x).length + 1 + (prE es F y).length) by omega] at h9)
        rw [hmk] at h ⊢
        rw [hx] at hargs ⊢
        exact pb_args_two ih g hargs (hcp.of e2) (by rw [i2]; omega) (by rw [i2]; exact hat.tail.tail) n2 h
       ·rw [if_neg k13] at hat ⊢
        have k14 : e.kind = 14 := by omega
        have hmk : mkN e.kind = 3 := by rw [k14]; rfl
        obtain ⟨x, y, z, hx⟩ := len_three (h2.trans hmk)
        have ha0 : e.args.getD 0 0 = x := by rw [hx]; rfl
        have ha1 : e.args.getD 1 0 = y := by rw [hx]; rfl
        have ha2 : e.args.getD 2 0 = z := by rw [hx]; rfl
        rw [ha0, ha1, ha2] at hat ⊢
        have hl := hat.len (by simp)
        have hlen : (kwT (fnT e.kind) :: sgT tOpen :: (prE es F x ++ sgT tComma :: (prE es F y ++ sgT tComma :: (prE es F z ++ [sgT tShut])))).length = (prE es F x).length + 1 + (prE es F y).length + 1 + (prE es F z).length + 3 := by simp; omega
        rw [hlen] at hl ⊢
        obtain ⟨g, rfl⟩ : ∃ g, f = g + 8 := ⟨f - 8, by omega⟩
        refine call_got (g + 8) he (by omega) k2 h1 hz hs hat herr (fun s2 i2 e2 n2 h => ?_) (by
         have h9 := hat.tail.tail.right.tail.right.tail.right
         rwa [show s.i + 1 + 1 + (prE es F x).length + 1 + (prE es F y).length + 1 + (prE es F z).length = s.i + 2 + ((prE es F x).length + 1 + (prE es F y).length + 1 + (prE es F z).length) by omega] at h9)
        rw [hmk] at h ⊢
        rw [hx] at hargs ⊢
        exact pb_args_three ih g hargs (hcp.of e2) (by rw [i2]; omega) (by rw [i2]; exact hat.tail.tail) n2 h
def SsTo (es : List Ex) : Nat → Nat → List Sm → Prop
 | a, b, [] => a = b
 | a, b, x :: r => if x.kind = 2 then TrL es a (x.expr + 1) [x.expr] ∧ SsTo es (x.expr + 1) b r else SsTo es a b r
theorem SsTo.mono {es : List Ex} (y : List Ex) : ∀ {ss : List Sm} {a b : Nat}, SsTo es a b ss → SsTo (es ++ y) a b ss
 | [], a, b, h => h
 | x :: r, a, b, h => by
  unfold SsTo at h ⊢
  split at h
  ·rename_i hk
   rw [if_pos hk]
   exact ⟨h.1.mono y, SsTo.mono y h.2⟩
  ·rename_i hk
   rw [if_neg hk]
   exact SsTo.mono y h
theorem SsTo.snoc {es : List Ex} {x : Sm} {c : Nat} : ∀ {ss : List Sm} {a b : Nat}, SsTo es a b ss → (if x.kind = 2 then TrL es b (x.expr + 1) [x.expr] ∧ x.expr + 1 = c else b = c) → SsTo es a c (ss ++ [x])
 | [], a, b, h, hx => by
  have : a = b := h
  subst this
  show SsTo es a c [x]
  unfold SsTo
  split at hx
  ·rename_i hk
   rw [if_pos hk]
   exact ⟨hx.1, hx.2⟩
  ·rename_i hk
   rw [if_neg hk]
   exact hx
 | y :: r, a, b, h, hx => by
  rw [List.cons_append]
  unfold SsTo at h ⊢
  split at h
  ·rename_i hk
   rw [if_pos hk]
   exact ⟨h.1, h.2.snoc hx⟩
  ·rename_i hk
   rw [if_neg hk]
   exact SsTo.snoc h hx
theorem body_bk2 (L : List Tok) (F : Nat) (s : PS) (hF : 12 * L.length + 20 ≤ F) (hf : (bodyP L F s).1.err = none) : if (bodyP L F s).2.kind = 2 then Gr s (bodyP L F s).1 ∧ TrL (bodyP L F s).1.es s.es.length ((bodyP L F s).2.expr + 1) [(bodyP L F s).2.expr] ∧ (bodyP L F s).2.expr + 1 = (bodyP L F s).1.es.length else (bodyP L F s).1.es = s.es := by
 unfold bodyP at hf ⊢
 dsimp only at hf ⊢
 split
 ·rename_i h0
  rw [if_pos h0] at hf
  exact absurd hf (fail_some _ _ _)
 ·rename_i h0
  rw [if_neg h0] at hf
  split
  ·rw [if_neg (by show ¬ (1 : Nat) = 2; decide)]
   exact (shape_es L F _).trans ((name_es L _).trans (number_es L _))
  ·rename_i h1
   rw [if_neg h1] at hf
   split
   ·rename_i h2
    rw [if_pos h2] at hf
    have hs : (wantP L (nameP L (advP s)).1 tEq).es = s.es := (want_es L _ _).trans (name_es L (advP s))
    have h := (allBk L F).expr (wantP L (nameP L (advP s)).1 tEq) (by omega) hf
    rw [hs] at h
    rw [if_pos rfl]
    exact ⟨(Gr.of hs).trans h.1, h.2.1, h.2.2⟩
   ·rename_i h2
    rw [if_neg h2] at hf
    split
    ·rw [if_neg (by show ¬ (3 : Nat) = 2; decide)]
     exact name_es L (advP s)
    ·rename_i h3
     rw [if_neg h3] at hf
     exact absurd hf (fail_some _ _ _)
theorem loop_to (L : List Tok) (F : Nat) (hF : 12 * L.length + 20 ≤ F) : ∀ (n : Nat) (s : PS), (parseLoopP L n F s).err = none → SsTo s.es 0 s.es.length s.ss → SsTo (parseLoopP L n F s).es 0 (parseLoopP L n F s).es.length (parseLoopP L n F s).ss := by
 intro n
 induction n with
 | zero => intro s _ h; exact h
 | succ n ih =>
  intro s he h
  rw [parseLoopP] at he ⊢
  split
  ·rename_i hc
   rw [if_pos hc] at he
   have h1 : (stmtP L F s).err = none := Classical.byContradiction fun h1 => by
    rw [loop_stay L n F _ h1] at he
    exact h1 he
   have e : stmtP L F s = putS (wantP L (bodyP L F s).1 tSemi) (bodyP L F s).2 := rfl
   have hb : (bodyP L F s).1.err = none := by
    rw [e] at h1
    have h1' : (wantP L (bodyP L F s).1 tSemi).err = none := h1
    exact Er.want tSemi h1'
   have hes : (stmtP L F s).es = (bodyP L F s).1.es := by rw [e]; exact want_es L _ _
   have hss : (stmtP L F s).ss = s.ss ++ [(bodyP L F s).2] := by
    rw [e]
    show (wantP L (bodyP L F s).1 tSemi).ss ++ _ = _
    rw [(G.want (L := L) (bodyP L F s).1 tSemi).hs, (body_G (L := L) F s).hs]
   refine ih _ he ?_
   rw [hes, hss]
   have hk := body_bk2 L F s hF hb
   by_cases h2 : (bodyP L F s).2.kind = 2
   ·rw [if_pos h2] at hk
    obtain ⟨⟨y, hy⟩, h3, h4⟩ := hk
    have h5 := h.mono y
    rw [← hy] at h5
    exact h5.snoc (by rw [if_pos h2]; exact ⟨h3, h4⟩)
   ·rw [if_neg h2] at hk
    rw [hk]
    exact h.snoc (by rw [if_neg h2])
  ·exact h
theorem parse_to {F : Nat} {L : List Tok} (hF : 12 * L.length + 20 ≤ F) (h : (parseP F L).err = none) : SsTo (parseP F L).es 0 (parseP F L).es.length (parseP F L).ss := loop_to L F hF F startP h rfl
def tight (l : List Tok) : List (Tok × List UInt8) := l.map fun t => (t, [])
def shT : List Nat → List Tok
 | [] => []
 | d :: r => numT d :: r.flatMap fun x => [sgT tComma, numT x]
def prS (es : List Ex) (x : Sm) : List (Tok × List UInt8) :=
 if x.kind = 1 then (kwT tInput, [32]) :: (numT x.party, [32]) :: (nmT x.name, [32]) :: tight (sgT tBra :: (shT x.shape ++ [sgT tKet, sgT tSemi]))
 else if x.kind = 2 then (kwT tLet, [32]) :: (nmT x.name, [32]) :: (sgT tEq, [32]) :: tight (prE es (x.expr + 1) x.expr ++ [sgT tSemi])
 else (kwT tOutput, [32]) :: tight [nmT x.name, sgT tSemi]
def prP (ss : List Sm) (es : List Ex) : List (Tok × List UInt8) := ss.flatMap (prS es)
theorem tight_append (a b : List Tok) : tight (a ++ b) = tight a ++ tight b := by unfold tight; rw [List.map_append]
theorem tight_cons (t : Tok) (a : List Tok) : tight (t :: a) = (t, []) :: tight a := rfl
def First (xs : List (Tok × List UInt8)) : Prop := ∀ c, (wideL xs)[0]? = some c → namB c = false
theorem wide_cons (t : Tok) (g : List UInt8) (xs : List (Tok × List UInt8)) : wideL ((t, g) :: xs) = t.text.data.toList ++ (g ++ wideL xs) := by unfold wideL; simp
theorem first_sign {c : UInt8} {r : List UInt8} {t : ByteArray} {g : List UInt8} {xs : List (Tok × List UInt8)} (ht : t.data.toList = c :: r) (hc : namB c = false) : First ((sgT t, g) :: xs) := by
 intro d hd
 rw [wide_cons] at hd
 have e : (sgT t).text.data.toList = c :: r := ht
 rw [e, List.cons_append, List.getElem?_cons_zero] at hd
 rw [← Option.some.inj hd]
 exact hc
theorem blank_first (R : List UInt8) : ∀ c, ([32] ++ R)[0]? = some c → namB c = false := fun c hc => by
 have : (32 : UInt8) = c := Option.some.inj hc
 rw [← this]
 decide
theorem pr_sign {c : UInt8} {t : ByteArray} {g : List UInt8} {xs : List (Tok × List UInt8)} (ht : t = ⟨#[c]⟩) (hc : signB c = true) (hg : g = [] ∨ g = [32]) (h : Pr xs) : Pr ((sgT t, g) :: xs) := .cons _ _ _ (by rw [ht]; exact adj_sign hc _) hg h
theorem pr_kw {t : ByteArray} {xs : List (Tok × List UInt8)} {g : List UInt8} (h0 : t.data.toList.length ≤ 16 ∧ t.data.toList ≠ [] ∧ (∀ c, t.data.toList[0]? = some c → lowB c = true) ∧ (∀ c ∈ t.data.toList, namB c = true) ∧ wordB t.data.toList = true) (hg : g = [] ∨ g = [32]) (hR : ∀ c, (g ++ wideL xs)[0]? = some c → namB c = false) (h : Pr xs) : Pr ((kwT t, g) :: xs) := by
 obtain ⟨a, b, c, d, e⟩ := h0
 refine .cons _ _ _ ?_ hg h
 exact adj_word (t := t.data.toList) (k := 4) a b c d (by rw [e]; rfl) hR
theorem fn_word (k : Nat) (h1 : 10 ≤ k) (h2 : k ≤ 14) : (fnT k).data.toList.length ≤ 16 ∧ (fnT k).data.toList ≠ [] ∧ (∀ c, (fnT k).data.toList[0]? = some c → lowB c = true) ∧ (∀ c ∈ (fnT k).data.toList, namB c = true) ∧ wordB (fnT k).data.toList = true := by
 have : k = 10 ∨ k = 11 ∨ k = 12 ∨ k = 13 ∨ k = 14 := by omega
 rcases this with rfl | rfl | rfl | rfl | rfl <;> exact ⟨by decide, by decide, by decide, by decide, by decide⟩
theorem one_name0 {L : List UInt8} {n v : Nat} (h : oneL L = some (1, n, v)) : v = 0 := by
 cases L with
 | nil => cases h
 | cons c r =>
  rw [oneL_cons] at h
  repeat' split at h
  all_goals first
   | (injection h with h; injection h with h1 h2; injection h2 with h2 h3; first | exact h3.symm | (exact absurd h1 (by decide)))
   | cases h
theorem pr_name {t : Tok} {n : ByteArray} {xs : List (Tok × List UInt8)} {g : List UInt8} (hgd : GoodT t) (hk : t.kind = 1) (hn : t.text = n) (hg : g = [] ∨ g = [32]) (hR : ∀ c, (g ++ wideL xs)[0]? = some c → namB c = false) (h : Pr xs) : Pr ((nmT n, g) :: xs) := by
 refine .cons _ _ _ ?_ hg h
 have h1 := hgd.2.2 _ hR
 rw [hk, hn] at h1
 have h2 := one_name0 h1
 rw [h2] at h1
 exact h1
theorem pr_num {n : Nat} {xs : List (Tok × List UInt8)} {g : List UInt8} (hn : n < 18446744073709551616) (hg : g = [] ∨ g = [32]) (hR : ∀ c, (g ++ wideL xs)[0]? = some c → namB c = false) (h : Pr xs) : Pr ((numT n, g) :: xs) := .cons _ _ _ (adj_num hn hR) hg h
theorem pr_expr {L0 : List Tok} {es : List Ex} (hm : ∀ e ∈ es, MadeE L0 e) (hg : ∀ t ∈ L0, t.kind ≠ 0 → GoodT t) (hnum : ∀ t ∈ L0, t.num < 18446744073709551616) : ∀ (n F lo : Nat) (xs : List (Tok × List UInt8)), n < F → TrL es lo (n + 1) [n] → Pr xs → First xs → Pr (tight (prE es F n) ++ xs) := by
 intro n
 induction n using Nat.strongRecOn with
 | _ n ihn =>
  intro F lo xs hF htr hp hf
  obtain ⟨F, rfl⟩ : ∃ F', F = F' + 1 := ⟨F - 1, by omega⟩
  obtain ⟨e, he, hargs⟩ := trl_one htr
  have hmade := hm e (List.mem_of_getElem? he)
  rw [prE, he]
  dsimp only
  have shut : ∀ {ys : List (Tok × List UInt8)}, Pr ys → Pr ((sgT tShut, []) :: ys) := fun h => pr_sign (c := 41) rfl (by decide) (.inl rfl) h
  have fshut : ∀ {ys : List (Tok × List UInt8)}, First ((sgT tShut, []) :: ys) := fun {ys} => first_sign (c := 41) (r := []) rfl (by decide)
  have opn : ∀ {ys : List (Tok × List UInt8)}, Pr ys → Pr ((sgT tOpen, []) :: ys) := fun h => pr_sign (c := 40) rfl (by decide) (.inl rfl) h
  have fopn : ∀ {ys : List (Tok × List UInt8)}, First ((sgT tOpen, []) :: ys) := fun {ys} => first_sign (c := 40) (r := []) rfl (by decide)
  have comma : ∀ {ys : List (Tok × List UInt8)}, Pr ys → Pr ((sgT tComma, []) :: ys) := fun h => pr_sign (c := 44) rfl (by decide) (.inl rfl) h
  have fcomma : ∀ {ys : List (Tok × List UInt8)}, First ((sgT tComma, []) :: ys) := fun {ys} => first_sign (c := 44) (r := []) rfl (by decide)
  rcases hmade with ⟨k, h1, h2, t, ht, htn⟩ | ⟨k, h1, h2, t, ht, htk, htx⟩ | ⟨k1, k2, h1, h2, h3, h4⟩
  ·rw [if_pos k]
   exact pr_num (by rw [← htn]; exact hnum t ht) (.inl rfl) hf hp
  ·rw [if_neg (by omega), if_pos k]
   exact pr_name (hg t ht (by omega)) htk htx (.inl rfl) hf hp
  ·rw [if_neg (by omega), if_neg (by omega)]
   by_cases k3 : e.kind = 3
   ·rw [if_pos k3]
    obtain ⟨x, hx⟩ := len_one (h2.trans (by rw [k3]; rfl))
    rw [show e.args.getD 0 0 = x by rw [hx]; rfl]
    rw [hx] at hargs
    obtain ⟨tx, hn⟩ := trl_a1 hargs
    rw [tight_cons, tight_cons, tight_append, List.cons_append, List.cons_append, List.append_assoc]
    exact opn (pr_sign (c := 45) rfl (by decide) (.inl rfl) (ihn x (by omega) F lo _ (by omega) tx (shut hp) fshut))
   ·rw [if_neg k3]
    by_cases k8 : e.kind ≤ 8
    ·rw [if_pos k8]
     obtain ⟨x, y, hx⟩ := len_two (h2.trans (by unfold mkN; rw [if_neg (by omega), if_pos (by omega)]))
     rw [show e.args.getD 0 0 = x by rw [hx]; rfl, show e.args.getD 1 0 = y by rw [hx]; rfl]
     rw [hx] at hargs
     obtain ⟨tx, ty, hn⟩ := trl_a2 hargs
     have hxy := ty.le.1
     rw [tight_cons, tight_append, tight_cons, tight_append, List.cons_append, List.append_assoc, List.cons_append, List.append_assoc]
     have hy := ihn y (by omega) F (x + 1) _ (by omega) ty (shut hp) fshut
     have hop : Pr ((sgT (opT e.kind), []) :: (tight (prE es F y) ++ (tight [sgT tShut] ++ xs))) ∧ First ((sgT (opT e.kind), []) :: (tight (prE es F y) ++ (tight [sgT tShut] ++ xs))) := by
      rcases (show e.kind = 4 ∨ e.kind = 5 ∨ e.kind = 6 ∨ e.kind = 7 ∨ e.kind = 8 by omega) with k | k | k | k | k <;> rw [k]
      ·exact ⟨pr_sign (c := 43) rfl (by decide) (.inl rfl) hy, first_sign (c := 43) (r := []) rfl (by decide)⟩
      ·exact ⟨pr_sign (c := 45) rfl (by decide) (.inl rfl) hy, first_sign (c := 45) (r := []) rfl (by decide)⟩
      ·exact ⟨pr_sign (c := 42) rfl (by decide) (.inl rfl) hy, first_sign (c := 42) (r := []) rfl (by decide)⟩
      ·exact ⟨pr_sign (c := 64) rfl (by decide) (.inl rfl) hy, first_sign (c := 64) (r := []) rfl (by decide)⟩
      ·exact ⟨pr_sign (c := 60) rfl (by decide) (.inl rfl) hy, first_sign (c := 60) (r := []) rfl (by decide)⟩
     exact opn (ihn x (by omega) F lo _ (by omega) tx hop.1 hop.2)
    ·rw [if_neg k8]
     by_cases k9 : e.kind = 9
     ·rw [if_pos k9]
      obtain ⟨x, hx⟩ := len_one (h2.trans (by rw [k9]; rfl))
      rw [show e.args.getD 0 0 = x by rw [hx]; rfl]
      rw [hx] at hargs
      obtain ⟨tx, hn⟩ := trl_a1 hargs
      rw [tight_cons, tight_append, List.cons_append, List.append_assoc]
      exact opn (ihn x (by omega) F lo _ (by omega) tx (.cons _ _ _ (adj_shift _) (.inl rfl) (pr_num (by omega) (.inl rfl) fshut (shut hp))) (first_sign (c := 62) (r := [62]) rfl (by decide)))
     ·rw [if_neg k9]
      have hw := fn_word e.kind (by omega) k2
      by_cases k12 : e.kind ≤ 12
      ·rw [if_pos k12]
       obtain ⟨x, hx⟩ := len_one (h2.trans (by unfold mkN; rw [if_pos (by omega)]))
       rw [show e.args.getD 0 0 = x by rw [hx]; rfl]
       rw [hx] at hargs
       obtain ⟨tx, hn⟩ := trl_a1 hargs
       rw [tight_cons, tight_cons, tight_append, List.cons_append, List.cons_append, List.append_assoc]
       exact pr_kw hw (.inl rfl) fopn (opn (ihn x (by omega) F lo _ (by omega) tx (shut hp) fshut))
      ·rw [if_neg k12]
       by_cases k13 : e.kind = 13
       ·rw [if_pos k13]
        obtain ⟨x, y, hx⟩ := len_two (h2.trans (by rw [k13]; rfl))
        rw [show e.args.getD 0 0 = x by rw [hx]; rfl, show e.args.getD 1 0 = y by rw [hx]; rfl]
        rw [hx] at hargs
        obtain ⟨tx, ty, hn⟩ := trl_a2 hargs
        have hxy := ty.le.1
        rw [tight_cons, tight_cons, tight_append, tight_cons, tight_append, List.cons_append, List.cons_append, List.append_assoc, List.cons_append, List.append_assoc]
        exact pr_kw hw (.inl rfl) fopn (opn (ihn x (by omega) F lo _ (by omega) tx (comma (ihn y (by omega) F (x + 1) _ (by omega) ty (shut hp) fshut)) fcomma))
       ·rw [if_neg k13]
        obtain ⟨x, y, z, hx⟩ := len_three (h2.trans (by unfold mkN; rw [if_neg (by omega), if_neg (by omega)]))
        rw [show e.args.getD 0 0 = x by rw [hx]; rfl, show e.args.getD 1 0 = y by rw [hx]; rfl, show e.args.getD 2 0 = z by rw [hx]; rfl]
        rw [hx] at hargs
        obtain ⟨tx, ty, tz, hn⟩ := trl_a3 hargs
        have hxy := ty.le.1
        have hyz := tz.le.1
        rw [tight_cons, tight_cons, tight_append, tight_cons, tight_append, tight_cons, tight_append, List.cons_append, List.cons_append, List.append_assoc, List.cons_append, List.append_assoc, List.cons_append, List.append_assoc]
        exact pr_kw hw (.inl rfl) fopn (opn (ihn x (by omega) F lo _ (by omega) tx (comma (ihn y (by omega) F (x + 1) _ (by omega) ty (comma (ihn z (by omega) F (y + 1) _ (by omega) tz (shut hp) fshut)) fcomma)) fcomma))
def shTl (r : List Nat) : List Tok := r.flatMap fun x => [sgT tComma, numT x]
theorem shTl_cons (d : Nat) (r : List Nat) : shTl (d :: r) = sgT tComma :: numT d :: shTl r := rfl
theorem shT_cons (d : Nat) (r : List Nat) : shT (d :: r) = numT d :: shTl r := rfl
theorem pr_shapeTl {ys : List (Tok × List UInt8)} (hp : Pr ys) (hf : First ys) : ∀ r : List Nat, (∀ d ∈ r, d ≤ 1048576) → Pr (tight (shTl r) ++ ys) ∧ First (tight (shTl r) ++ ys)
 | [], _ => ⟨hp, hf⟩
 | d :: r, h => by
  obtain ⟨a, b⟩ := pr_shapeTl hp hf r fun x hx => h x (List.mem_cons.2 (.inr hx))
  have hd := h d (List.mem_cons.2 (.inl rfl))
  rw [shTl_cons, tight_cons, tight_cons, List.cons_append, List.cons_append]
  exact ⟨pr_sign (c := 44) rfl (by decide) (.inl rfl) (pr_num (by omega) (.inl rfl) b a), first_sign (c := 44) (r := []) rfl (by decide)⟩
theorem pr_shape {ys : List (Tok × List UInt8)} (hp : Pr ys) (hf : First ys) (l : List Nat) (h : ∀ d ∈ l, d ≤ 1048576) : Pr (tight (shT l) ++ ys) := by
 cases l with
 | nil => exact hp
 | cons d r =>
  obtain ⟨a, b⟩ := pr_shapeTl hp hf r fun x hx => h x (List.mem_cons.2 (.inr hx))
  have hd := h d (List.mem_cons.2 (.inl rfl))
  rw [shT_cons, tight_cons, List.cons_append]
  exact pr_num (by omega) (.inl rfl) b a
theorem in_word : tInput.data.toList.length ≤ 16 ∧ tInput.data.toList ≠ [] ∧ (∀ c, tInput.data.toList[0]? = some c → lowB c = true) ∧ (∀ c ∈ tInput.data.toList, namB c = true) ∧ wordB tInput.data.toList = true := ⟨by decide, by decide, by decide, by decide, by decide⟩
theorem let_word : tLet.data.toList.length ≤ 16 ∧ tLet.data.toList ≠ [] ∧ (∀ c, tLet.data.toList[0]? = some c → lowB c = true) ∧ (∀ c ∈ tLet.data.toList, namB c = true) ∧ wordB tLet.data.toList = true := ⟨by decide, by decide, by decide, by decide, by decide⟩
theorem out_word : tOutput.data.toList.length ≤ 16 ∧ tOutput.data.toList ≠ [] ∧ (∀ c, tOutput.data.toList[0]? = some c → lowB c = true) ∧ (∀ c ∈ tOutput.data.toList, namB c = true) ∧ wordB tOutput.data.toList = true := ⟨by decide, by decide, by decide, by decide, by decide⟩
theorem pr_all {L0 : List Tok} {es : List Ex} (hm : ∀ e ∈ es, MadeE L0 e) (hg : ∀ t ∈ L0, t.kind ≠ 0 → GoodT t) (hnum : ∀ t ∈ L0, t.num < 18446744073709551616) : ∀ (ss : List Sm) (n b : Nat), (∀ x ∈ ss, MadeS L0 x) → SsTo es n b ss → Pr (prP ss es)
 | [], n, b, _, _ => .nil
 | x :: r, n, b, hs, ht => by
  obtain ⟨⟨t, htl, htk, htx⟩, hk⟩ := hs x (List.mem_cons.2 (.inl rfl))
  have hgt := hg t htl (by omega)
  unfold SsTo at ht
  have semi : ∀ {ys : List (Tok × List UInt8)}, Pr ys → Pr ((sgT tSemi, []) :: ys) := fun h => pr_sign (c := 59) rfl (by decide) (.inl rfl) h
  have fsemi : ∀ {ys : List (Tok × List UInt8)}, First ((sgT tSemi, []) :: ys) := fun {ys} => first_sign (c := 59) (r := []) rfl (by decide)
  have hsr := fun y hy => hs y (List.mem_cons.2 (.inr hy))
  show Pr (prS es x ++ prP r es)
  unfold prS
  rcases hk with ⟨k, hp, hd, _⟩ | ⟨k, _⟩ | ⟨k, _⟩
  ·rw [if_neg (by omega)] at ht
   have ih := pr_all hm hg hnum r n b hsr ht
   rw [if_pos k, List.cons_append, List.cons_append, List.cons_append, tight_cons, tight_append, List.cons_append, List.append_assoc]
   refine pr_kw in_word (.inr rfl) (blank_first _) (pr_num (by omega) (.inr rfl) (blank_first _) (pr_name hgt htk htx (.inr rfl) (blank_first _) (pr_sign (c := 91) rfl (by decide) (.inl rfl) (pr_shape ?_ ?_ _ hd))))
   ·exact pr_sign (c := 93) rfl (by decide) (.inl rfl) (semi ih)
   ·exact first_sign (c := 93) (r := []) rfl (by decide)
  ·rw [if_pos k] at ht
   have ih := pr_all hm hg hnum r _ b hsr ht.2
   rw [if_neg (by omega), if_pos k, List.cons_append, List.cons_append, List.cons_append, tight_append, List.append_assoc]
   exact pr_kw let_word (.inr rfl) (blank_first _) (pr_name hgt htk htx (.inr rfl) (blank_first _) (pr_sign (c := 61) rfl (by decide) (.inr rfl) (pr_expr hm hg hnum x.expr (x.expr + 1) n _ (by omega) ht.1 (semi ih) fsemi)))
  ·rw [if_neg (by omega)] at ht
   have ih := pr_all hm hg hnum r n b hsr ht
   rw [if_neg (by omega), if_neg (by omega), List.cons_append, tight_cons, List.cons_append]
   exact pr_kw out_word (.inr rfl) (blank_first _) (pr_name hgt htk htx (.inl rfl) fsemi (semi ih))
def sameS (a b : Sm) : Prop := a.kind = b.kind ∧ a.party = b.party ∧ a.name = b.name ∧ a.shape = b.shape ∧ a.expr = b.expr
section
variable {L : List Tok} {s : PS}
theorem number_at {d : Nat} {r : List Tok} (he : s.err = none) (hd : d ≤ 1048576) (h : AtT L s.i (numT d :: r)) : numberP L s = (advP s, d) := by
 obtain ⟨q, hq⟩ := now_tk h
 unfold numberP
 rw [hq, he, if_neg (by
  show ¬ ((false || (2 != 2)) || decide (1048576 < d)) = true
  rw [decide_eq_false (by omega)]
  decide)]
 rfl
theorem name_at {n : ByteArray} {r : List Tok} (he : s.err = none) (h : AtT L s.i (nmT n :: r)) : nameP L s = (advP s, n) := by
 obtain ⟨q, hq⟩ := now_tk h
 unfold nameP
 rw [hq, he, if_neg (by
  show ¬ (false || (1 != 1)) = true
  decide)]
 rfl
theorem ket_comma : (tKet.toList == tComma.toList) = false := by rw [ByteArray.toList_eq, ByteArray.toList_eq]; rfl
theorem shapeLoop_at : ∀ (r : List Nat) (f : Nat) (s : PS) (l : List Nat) (q : List Tok), r.length < f → s.err = none → (∀ d ∈ r, d ≤ 1048576) → AtT L s.i (shTl r ++ sgT tKet :: q) →
  (shapeLoopP L f s l).2 = l ++ r ∧ (shapeLoopP L f s l).1.i = s.i + (shTl r).length + 1 ∧ (shapeLoopP L f s l).1.es = s.es ∧ (shapeLoopP L f s l).1.err = none
 | [], f, s, l, q, hf, he, hd, h => by
  obtain ⟨f, rfl⟩ : ∃ f', f = f' + 1 := ⟨f - 1, by simp at hf; omega⟩
  have h' : AtT L s.i (sgT tKet :: q) := h
  have hc : isP L s tComma = false := (is_sg he h').trans ket_comma
  unfold shapeLoopP
  rw [hc, if_neg (by decide), want_at he h']
  exact ⟨(List.append_nil _).symm, rfl, rfl, he⟩
 | d :: r, f, s, l, q, hf, he, hd, h => by
  obtain ⟨f, rfl⟩ : ∃ f', f = f' + 1 := ⟨f - 1, by simp at hf; omega⟩
  rw [shTl_cons, List.cons_append, List.cons_append] at h
  have hc : isP L s tComma = true := by rw [is_sg he h]; simp
  have hn : numberP L (advP s) = (advP (advP s), d) := number_at (s := advP s) he (hd d (List.mem_cons.2 (.inl rfl))) h.tail
  have ih := shapeLoop_at r f (advP (advP s)) (l ++ [d]) q (by simp at hf; omega) he (fun x hx => hd x (List.mem_cons.2 (.inr hx))) h.tail.tail
  unfold shapeLoopP
  rw [hc, if_pos rfl, hn]
  refine ⟨by rw [ih.1, List.append_assoc]; rfl, ?_, ih.2.2.1, ih.2.2.2⟩
  rw [ih.2.1, shTl_cons]
  show s.i + 1 + 1 + (shTl r).length + 1 = s.i + ((shTl r).length + 1 + 1) + 1
  omega
theorem shape_at (f : Nat) {l : List Nat} {q : List Tok} (hf : l.length < f) (he : s.err = none) (hd : ∀ d ∈ l, d ≤ 1048576) (h : AtT L s.i (sgT tBra :: (shT l ++ sgT tKet :: q))) :
  (shapeP L f s).2 = l ∧ (shapeP L f s).1.i = s.i + 1 + (shT l).length + 1 ∧ (shapeP L f s).1.es = s.es ∧ (shapeP L f s).1.err = none := by
 unfold shapeP
 dsimp only
 rw [want_at he h]
 have t1 : AtT L (advP s).i (shT l ++ sgT tKet :: q) := h.tail
 have he1 : (advP s).err = none := he
 cases l with
 | nil =>
  have t2 : AtT L (advP s).i (sgT tKet :: q) := t1
  have hk : isP L (advP s) tKet = true := by rw [is_sg he1 t2]; simp
  rw [hk, if_pos rfl]
  exact ⟨rfl, rfl, rfl, he⟩
 | cons d r =>
  rw [shT_cons, List.cons_append] at t1
  have hk : isP L (advP s) tKet = false := is_no (.inr rfl) t1
  have hn : numberP L (advP s) = (advP (advP s), d) := number_at he1 (hd d (List.mem_cons.2 (.inl rfl))) t1
  have h2 := shapeLoop_at r f (advP (advP s)) [d] q (by simp at hf; omega) he (fun x hx => hd x (List.mem_cons.2 (.inr hx))) t1.tail
  rw [hk, if_neg (by decide), hn]
  refine ⟨h2.1, ?_, h2.2.2.1, h2.2.2.2⟩
  rw [h2.2.1, shT_cons]
  show s.i + 1 + 1 + (shTl r).length + 1 = s.i + 1 + ((shTl r).length + 1) + 1
  omega
end
def tkS (es : List Ex) (x : Sm) : List Tok := (prS es x).map Prod.fst
theorem tight_fst (l : List Tok) : (tight l).map Prod.fst = l := by
 unfold tight
 rw [List.map_map]
 exact List.map_id l
def nextN (x : Sm) (n : Nat) : Nat := if x.kind = 2 then x.expr + 1 else n
theorem tkS_in {es : List Ex} {x : Sm} (k : x.kind = 1) : tkS es x = kwT tInput :: numT x.party :: nmT x.name :: sgT tBra :: (shT x.shape ++ sgT tKet :: [sgT tSemi]) := by
 unfold tkS prS
 rw [if_pos k]
 simp only [List.map_cons, tight_fst]
theorem tkS_let {es : List Ex} {x : Sm} (k : x.kind = 2) : tkS es x = kwT tLet :: nmT x.name :: sgT tEq :: (prE es (x.expr + 1) x.expr ++ [sgT tSemi]) := by
 unfold tkS prS
 rw [if_neg (by omega), if_pos k]
 simp only [List.map_cons, tight_fst]
theorem tkS_out {es : List Ex} {x : Sm} (k : x.kind = 3) : tkS es x = [kwT tOutput, nmT x.name, sgT tSemi] := by
 unfold tkS prS
 rw [if_neg (by omega), if_neg (by omega)]
 simp only [List.map_cons, tight_fst]
theorem nextN_let {x : Sm} {n : Nat} (k : x.kind = 2) : nextN x n = x.expr + 1 := by unfold nextN; rw [if_pos k]
theorem nextN_no {x : Sm} {n : Nat} (k : x.kind ≠ 2) : nextN x n = n := by unfold nextN; rw [if_neg k]
theorem body_back {L L0 : List Tok} {es : List Ex} (hm : ∀ e ∈ es, MadeE L0 e) (F n : Nat) (s : PS) (x : Sm) (r : List Tok) (hF : 12 * L.length + 20 ≤ F) (hx : MadeS L0 x) (ht : x.kind = 2 → TrL es n (x.expr + 1) [x.expr]) (hat : AtT L s.i (tkS es x ++ r)) (hcp : Cp es n s) (hn : s.err = none) (h : (bodyP L F s).1.err = none) :
  sameS (bodyP L F s).2 x ∧ (bodyP L F s).1.i + 1 = s.i + (tkS es x).length ∧ Cp es (nextN x n) (bodyP L F s).1 := by
 have h64 : s.ss.length ≠ 64 := fun e => by
  unfold bodyP at h
  rw [if_pos e] at h
  exact absurd h (fail_some _ _ _)
 unfold bodyP at h ⊢
 rw [if_neg h64] at h ⊢
 dsimp only at h ⊢
 have kwne : ∀ a b : ByteArray, a.data.toList ≠ b.data.toList → (a.toList == b.toList) = false := fun a b hab => by rw [ByteArray.toList_eq, ByteArray.toList_eq, beq_eq_false_iff_ne]; exact hab
 obtain ⟨_, hk⟩ := hx
 rcases hk with ⟨k, hp, hd, hex⟩ | ⟨k, hp, hd⟩ | ⟨k, hp, hd, hex⟩
 ·rw [nextN_no (by omega)]
  rw [tkS_in k] at hat ⊢
  simp only [List.cons_append, List.append_assoc, List.nil_append] at hat ⊢
  have q1 : isP L s tInput = true := by rw [is_kw hn hat]; simp
  rw [q1, if_pos rfl] at h ⊢
  have e1 : numberP L (advP s) = (advP (advP s), x.party) := number_at (s := advP s) hn hp hat.tail
  rw [e1] at h ⊢
  have e2 : nameP L (advP (advP s)) = (advP (advP (advP s)), x.name) := name_at (s := advP (advP s)) hn hat.tail.tail
  dsimp only at h ⊢
  rw [e2] at h ⊢
  dsimp only at h ⊢
  have t3 : AtT L (advP (advP (advP s))).i (sgT tBra :: (shT x.shape ++ sgT tKet :: (sgT tSemi :: r))) := by
   have h9 := hat.tail.tail.tail
   exact h9
  have hlen := t3.len (by simp)
  have hsl : x.shape.length < F := by
   have hb : x.shape.length ≤ (shT x.shape).length := by
    cases x.shape with
    | nil => exact Nat.zero_le _
    | cons d r =>
     have : ∀ r : List Nat, r.length ≤ (shTl r).length := fun r => by
      induction r with
      | nil => exact Nat.zero_le _
      | cons a b ih => rw [shTl_cons]; simp; omega
     rw [shT_cons]
     simp
     exact this r
   simp at hlen
   omega
  obtain ⟨s1, s2, s3, s4⟩ := shape_at F hsl (s := advP (advP (advP s))) hn hd t3
  refine ⟨⟨k.symm, rfl, rfl, s1, hex.symm⟩, ?_, hcp.of s3⟩
  rw [s2]
  show s.i + 1 + 1 + 1 + 1 + (shT x.shape).length + 1 + 1 = _
  simp
  omega
 ·rw [nextN_let k]
  rw [tkS_let k] at hat ⊢
  simp only [List.cons_append, List.append_assoc, List.nil_append] at hat ⊢
  have q1 : isP L s tInput = false := (is_kw hn hat).trans (kwne _ _ (by decide))
  have q2 : isP L s tLet = true := by rw [is_kw hn hat]; simp
  rw [q1, q2, if_neg (by decide), if_pos rfl] at h ⊢
  have e2 : nameP L (advP s) = (advP (advP s), x.name) := name_at (s := advP s) hn hat.tail
  rw [e2] at h ⊢
  dsimp only at h ⊢
  have e3 : wantP L (advP (advP s)) tEq = advP (advP (advP s)) := want_at (s := advP (advP s)) hn hat.tail.tail
  rw [e3] at h ⊢
  have t3 : AtT L (advP (advP (advP s))).i (prE es (x.expr + 1) x.expr ++ sgT tSemi :: r) := hat.tail.tail.tail
  obtain ⟨g, rfl⟩ : ∃ g, F = g + 5 := ⟨F - 5, by omega⟩
  obtain ⟨ex, hex, _⟩ := trl_one (ht k)
  obtain ⟨g1, g2, _⟩ := expr_got g (s := advP (advP (advP s))) (pr_first hex (hm ex (List.mem_of_getElem? hex)) t3 hn) (fun h9 => atom_back hm x.expr (x.expr + 1) g n _ (Nat.lt_succ_self _) (ht k) t3.left (hcp.of rfl) (by omega) h9) t3.right end_semi.a end_semi.b end_semi.c end_semi.d end_semi.e end_semi.f h
  rw [g1]
  refine ⟨⟨k.symm, hp.symm, rfl, hd.symm, g2.1⟩, ?_, g2.2.2⟩
  rw [g2.2.1]
  show s.i + 1 + 1 + 1 + _ + 1 = _
  simp
  omega
 ·rw [nextN_no (by omega)]
  rw [tkS_out k] at hat ⊢
  simp only [List.cons_append, List.append_assoc, List.nil_append] at hat ⊢
  have q1 : isP L s tInput = false := (is_kw hn hat).trans (kwne _ _ (by decide))
  have q2 : isP L s tLet = false := (is_kw hn hat).trans (kwne _ _ (by decide))
  have q3 : isP L s tOutput = true := by rw [is_kw hn hat]; simp
  rw [q1, q2, q3, if_neg (by decide), if_neg (by decide), if_pos rfl] at h ⊢
  have e2 : nameP L (advP s) = (advP (advP s), x.name) := name_at (s := advP s) hn hat.tail
  rw [e2]
  refine ⟨⟨k.symm, hp.symm, rfl, hd.symm, hex.symm⟩, ?_, hcp.of rfl⟩
  show s.i + 1 + 1 + 1 = _
  rfl
def allS : List Sm → List Sm → Prop
 | [], [] => True
 | a :: r, b :: q => sameS a b ∧ allS r q
 | _, _ => False
theorem tkS_last (es : List Ex) (x : Sm) : ∃ l, tkS es x = l ++ [sgT tSemi] := by
 unfold tkS prS
 split
 ·simp only [List.map_cons, tight_fst]
  exact ⟨kwT tInput :: numT x.party :: nmT x.name :: sgT tBra :: (shT x.shape ++ [sgT tKet]), by simp⟩
 ·split
  ·simp only [List.map_cons, tight_fst]
   exact ⟨kwT tLet :: nmT x.name :: sgT tEq :: prE es (x.expr + 1) x.expr, by simp⟩
  ·simp only [List.map_cons, tight_fst]
   exact ⟨[kwT tOutput, nmT x.name], rfl⟩
theorem tkS_first (es : List Ex) (x : Sm) : ∃ t r, tkS es x = t :: r ∧ t.kind = 4 := by
 unfold tkS prS
 split
 ·exact ⟨_, _, rfl, rfl⟩
 ·split
  ·exact ⟨_, _, rfl, rfl⟩
  ·exact ⟨_, _, rfl, rfl⟩
theorem loop_back {L L0 : List Tok} {es : List Ex} (hm : ∀ e ∈ es, MadeE L0 e) (F : Nat) (hF : 12 * L.length + 20 ≤ F) : ∀ (ss : List Sm) (k n b : Nat) (s : PS), (∀ x ∈ ss, MadeS L0 x) → SsTo es n b ss → AtT L s.i ((ss.flatMap (tkS es)) ++ [zTok]) → Cp es n s → ss.length < k → s.err = none → (parseLoopP L k F s).err = none →
  Cp es b (parseLoopP L k F s) ∧ ∃ ys, (parseLoopP L k F s).ss = s.ss ++ ys ∧ allS ys ss
 | [], k, n, b, s, _, ht, hat, hcp, hk, hn, h => by
  obtain ⟨k, rfl⟩ : ∃ k', k = k' + 1 := ⟨k - 1, by simp at hk; omega⟩
  obtain ⟨q, hq⟩ := now_tk (s := s) (t := zTok) (r := []) hat
  have hb : n = b := ht
  have e0 : parseLoopP L (k + 1) F s = s := by
   rw [parseLoopP, hq]
   rw [if_neg (by show ¬ (s.err.isNone && (0 != 0)) = true; simp)]
  rw [e0, ← hb]
  exact ⟨hcp, [], (List.append_nil _).symm, trivial⟩
 | x :: r, k, n, b, s, hs, ht, hat, hcp, hk, hn, h => by
  obtain ⟨k, rfl⟩ : ∃ k', k = k' + 1 := ⟨k - 1, by simp at hk; omega⟩
  have hx := hs x (List.mem_cons.2 (.inl rfl))
  have hat2 : AtT L s.i (tkS es x ++ (r.flatMap (tkS es) ++ [zTok])) := by
   rw [List.flatMap_cons, List.append_assoc] at hat
   exact hat
  obtain ⟨t, r', htr, htk⟩ := tkS_first es x
  have hk0 : (nowP L s).kind = 4 := by
   have h9 := hat2
   rw [htr, List.cons_append] at h9
   obtain ⟨q, hq⟩ := now_tk h9
   rw [hq]
   exact htk
  have e0 : parseLoopP L (k + 1) F s = parseLoopP L k F (stmtP L F s) := by
   rw [parseLoopP, if_pos (by rw [hn, hk0]; decide)]
  rw [e0] at h ⊢
  have h1 : (stmtP L F s).err = none := Classical.byContradiction fun h1 => by
   rw [loop_stay L k F _ h1] at h
   exact h1 h
  have es0 : stmtP L F s = putS (wantP L (bodyP L F s).1 tSemi) (bodyP L F s).2 := rfl
  have hw : (wantP L (bodyP L F s).1 tSemi).err = none := by rw [es0] at h1; exact h1
  have hb := Er.want tSemi hw
  unfold SsTo at ht
  have ht2 : (x.kind = 2 → TrL es n (x.expr + 1) [x.expr]) ∧ SsTo es (nextN x n) b r := by
   unfold nextN
   split at ht
   ·rename_i h2
    exact ⟨fun _ => ht.1, by rw [if_pos h2]; exact ht.2⟩
   ·rename_i h2
    exact ⟨fun e => absurd e h2, by rw [if_neg h2]; exact ht⟩
  obtain ⟨b1, b2, b3⟩ := body_back hm F n s x _ hF hx ht2.1 hat2 hcp hn hb
  obtain ⟨l, hl⟩ := tkS_last es x
  have hsemi : AtT L (bodyP L F s).1.i [sgT tSemi] := by
   have h9 := hat2.left
   rw [hl] at h9 b2
   have h10 := h9.right
   rw [List.length_append, List.length_singleton] at b2
   rwa [show s.i + l.length = (bodyP L F s).1.i by omega] at h10
  have hwe : wantP L (bodyP L F s).1 tSemi = advP (bodyP L F s).1 := want_at hb hsemi
  have hi : (stmtP L F s).i = s.i + (tkS es x).length := by
   rw [es0, hwe]
   exact b2
  have hss : (stmtP L F s).ss = s.ss ++ [(bodyP L F s).2] := by
   rw [es0]
   show (wantP L (bodyP L F s).1 tSemi).ss ++ _ = _
   rw [(G.want (L := L) (bodyP L F s).1 tSemi).hs, (body_G (L := L) F s).hs]
  have hes : (stmtP L F s).es = (bodyP L F s).1.es := by rw [es0]; exact want_es L _ _
  obtain ⟨c1, ys, c2, c3⟩ := loop_back hm F hF r k (nextN x n) b (stmtP L F s) (fun y hy => hs y (List.mem_cons.2 (.inr hy))) ht2.2 (by rw [hi]; exact hat2.right) (b3.of hes) (by simp at hk; omega) h1 h
  exact ⟨c1, (bodyP L F s).2 :: ys, by rw [c2, hss, List.append_assoc]; rfl, b1, c3⟩
theorem retok_at {s : ByteArray} (xs : List (Tok × List UInt8)) : AtT (retok 0 xs ++ [endTok s]) 0 (xs.map Prod.fst ++ [zTok]) := by
 intro k t hk
 rw [Nat.zero_add]
 rcases Nat.lt_or_ge k xs.length with h | h
 ·rw [List.getElem?_append_left (by rw [List.length_map]; exact h), List.getElem?_map, Option.map_eq_some_iff] at hk
  obtain ⟨x, hx, rfl⟩ := hk
  obtain ⟨p, hp⟩ := retok_nth xs 0 k x hx
  exact ⟨p, by rw [List.getElem?_append_left (by rw [retok_length]; exact h)]; exact hp⟩
 ·rw [List.getElem?_append_right (by rw [List.length_map]; exact h), List.length_map] at hk
  have hk0 : k - xs.length = 0 := by
   have := (List.getElem?_eq_some_iff.1 hk).1
   simp at this
   omega
  rw [hk0] at hk
  have : zTok = t := Option.some.inj hk
  subst this
  refine ⟨s.size, ?_⟩
  rw [List.getElem?_append_right (by rw [retok_length]; exact h), retok_length, hk0]
  rfl
theorem prP_fst (ss : List Sm) (es : List Ex) : (prP ss es).map Prod.fst = ss.flatMap (tkS es) := by
 unfold prP
 rw [List.map_flatMap]
 rfl
theorem print_back {F F' : Nat} {l l' : List Tok} {s s' : ByteArray} (hl : scanM s = .toks l) (hF : 12 * l.length + 20 ≤ F) (he : (parseP F l).err = none) (hs' : s'.data.toList = wideL (prP (parseP F l).ss (parseP F l).es)) (hl' : scanM s' = .toks l') (hF' : 12 * l'.length + 20 ≤ F') (he' : (parseP F' l').err = none) :
  allS (parseP F' l').ss (parseP F l).ss ∧ (parseP F' l').es.length = (parseP F l).es.length ∧ ∀ (i : Nat) (a b : Ex), (parseP F' l').es[i]? = some a → (parseP F l).es[i]? = some b → sameE a b := by
 obtain ⟨r, hr, htk, hr2, _⟩ := scanM_iff hl
 have hgood : ∀ t ∈ l, t.kind ≠ 0 → GoodT t := fun t ht hk => by
  rw [hr] at ht
  rcases List.mem_append.1 ht with ht | ht
  ·exact toks_good htk t ht
  ·rw [List.mem_singleton.1 ht] at hk
   exact absurd rfl hk
 have hnum : ∀ t ∈ l, t.num < 18446744073709551616 := fun t ht => by
  rw [hr] at ht
  rcases List.mem_append.1 ht with ht | ht
  ·exact (toks_good htk t ht).2.1
  ·rw [List.mem_singleton.1 ht]
   show (0 : Nat) < _
   decide
 obtain ⟨hm, hms⟩ := parse_md hF he
 have hto := parse_to hF he
 have hpr := pr_all hm hgood hnum (parseP F l).ss 0 _ hms hto
 have hle := scan_pr hl' hpr hs'
 have hat : AtT l' 0 ((parseP F l).ss.flatMap (tkS (parseP F l).es) ++ [zTok]) := by
  rw [hle, ← prP_fst]
  exact retok_at _
 have hlen : (parseP F l).ss.length < F' := by
  have h1 := hat.len (by simp)
  have h2 : ∀ ss : List Sm, ss.length ≤ (ss.flatMap (tkS (parseP F l).es)).length := fun ss => by
   induction ss with
   | nil => exact Nat.zero_le _
   | cons a b ih =>
    obtain ⟨t, r, ht, _⟩ := tkS_first (parseP F l).es a
    rw [List.flatMap_cons, List.length_append, ht, List.length_cons, List.length_cons]
    omega
  have h3 := h2 (parseP F l).ss
  rw [List.length_append, List.length_singleton] at h1
  omega
 obtain ⟨c1, ys, c2, c3⟩ := loop_back hm F' hF' (parseP F l).ss F' 0 _ startP hms hto hat ⟨rfl, Nat.zero_le _, fun i a b ha _ => by cases ha⟩ hlen rfl he'
 have c2' : (parseP F' l').ss = ys := c2
 rw [c2']
 exact ⟨c3, c1.len, c1.at_⟩
section
variable {L : List Tok}
theorem shapeLoop_sh : ∀ (f : Nat) (s : PS) (l : List Nat), (shapeLoopP L f s l).2.length + s.i ≤ l.length + (shapeLoopP L f s l).1.i
 | 0, s, l => Nat.le_refl _
 | f + 1, s, l => by
  unfold shapeLoopP
  split
  ·have h := shapeLoop_sh f (numberP L (advP s)).1 (l ++ [(numberP L (advP s)).2])
   have h2 := (G.number (L := L) (advP s)).hi
   have h3 : (advP s).i = s.i + 1 := rfl
   rw [List.length_append, List.length_singleton] at h
   show (shapeLoopP L f (numberP L (advP s)).1 (l ++ [(numberP L (advP s)).2])).2.length + s.i ≤ l.length + (shapeLoopP L f (numberP L (advP s)).1 (l ++ [(numberP L (advP s)).2])).1.i
   omega
  ·have h2 := (G.want (L := L) s tKet).hi
   show l.length + s.i ≤ l.length + (wantP L s tKet).i
   omega
theorem shape_sh (f : Nat) (s : PS) : (shapeP L f s).2.length + s.i ≤ 1 + (shapeP L f s).1.i := by
 have h1 := (G.want (L := L) s tBra).hi
 unfold shapeP
 dsimp only
 split
 ·show 0 + s.i ≤ 1 + ((wantP L s tBra).i + 1)
  omega
 ·have h := shapeLoop_sh (L := L) f (numberP L (wantP L s tBra)).1 [(numberP L (wantP L s tBra)).2]
  have h2 := (G.number (L := L) (wantP L s tBra)).hi
  have h3 : [(numberP L (wantP L s tBra)).2].length = 1 := rfl
  omega
theorem body_sh (f : Nat) (s : PS) : (bodyP L f s).2.shape.length + s.i ≤ (bodyP L f s).1.i := by
 have g := (body_G (L := L) f s).hi
 unfold bodyP at g ⊢
 split
 ·rename_i h
  rw [if_pos h] at g
  show 0 + s.i ≤ _
  omega
 ·rename_i h
  rw [if_neg h] at g
  split
  ·rename_i h1
   have h2 := shape_sh (L := L) f (nameP L (numberP L (advP s)).1).1
   have h3 := (G.name (L := L) (numberP L (advP s)).1).hi
   have h4 := (G.number (L := L) (advP s)).hi
   have h5 : (advP s).i = s.i + 1 := rfl
   show (shapeP L f (nameP L (numberP L (advP s)).1).1).2.length + s.i ≤ (shapeP L f (nameP L (numberP L (advP s)).1).1).1.i
   omega
  ·rename_i h1
   rw [if_neg h1] at g
   split
   ·rename_i h2
    rw [if_pos h2] at g
    show 0 + s.i ≤ _
    omega
   ·rename_i h2
    rw [if_neg h2] at g
    split
    ·rename_i h3
     rw [if_pos h3] at g
     show 0 + s.i ≤ _
     omega
    ·rename_i h3
     rw [if_neg h3] at g
     show 0 + s.i ≤ _
     omega
def shS : List Sm → Nat
 | [] => 0
 | x :: r => x.shape.length + shS r
theorem shS_snoc (x : Sm) : ∀ l : List Sm, shS (l ++ [x]) = shS l + x.shape.length
 | [] => by simp [shS]
 | y :: l => by
  rw [List.cons_append]
  show y.shape.length + shS (l ++ [x]) = y.shape.length + shS l + _
  rw [shS_snoc x l]
  omega
theorem loop_sh (F : Nat) : ∀ (n : Nat) (s : PS), shS s.ss ≤ s.i → s.i ≤ L.length → shS (parseLoopP L n F s).ss ≤ L.length := by
 intro n
 induction n with
 | zero => intro s h hl; exact Nat.le_trans h hl
 | succ n ih =>
  intro s h hl
  rw [parseLoopP]
  split
  ·have e : stmtP L F s = putS (wantP L (bodyP L F s).1 tSemi) (bodyP L F s).2 := rfl
   have g := body_G (L := L) F s
   have g2 := G.want (L := L) (bodyP L F s).1 tSemi
   have g3 := body_sh (L := L) F s
   have hss : (stmtP L F s).ss = s.ss ++ [(bodyP L F s).2] := by
    rw [e]
    show (wantP L (bodyP L F s).1 tSemi).ss ++ _ = _
    rw [g2.hs, g.hs]
   have hi : (stmtP L F s).i = (wantP L (bodyP L F s).1 tSemi).i := by rw [e]; rfl
   have g4 := g2.hi
   refine ih _ ?_ ?_
   ·rw [hss, shS_snoc, hi]
    omega
   ·rw [hi]
    exact g2.hl (g.hl hl)
  ·exact Nat.le_trans h hl
theorem parse_sh (F : Nat) : shS (parseP F L).ss ≤ L.length := loop_sh F F startP (Nat.zero_le _) (Nat.zero_le _)
end
def Short (t : Tok) : Prop := t.text.size ≤ 20
def AllSt (l : List Tok) : Prop := ∀ t ∈ l, Short t
theorem AllSt.nil : AllSt [] := fun t h => by cases h
theorem AllSt.cons {t : Tok} {l : List Tok} (h : Short t) (hl : AllSt l) : AllSt (t :: l) := fun u hu => by
 rcases List.mem_cons.1 hu with rfl | hu
 ·exact h
 ·exact hl u hu
theorem AllSt.app {a b : List Tok} (ha : AllSt a) (hb : AllSt b) : AllSt (a ++ b) := fun u hu => (List.mem_append.1 hu).elim (ha u) (hb u)
theorem short_num {n : Nat} (h : n < 18446744073709551616) : Short (numT n) := by
 show (decL n).toArray.size ≤ 20
 rw [List.size_toArray]
 exact decL_len 19 n (by omega)
theorem short_fn (k : Nat) : Short (kwT (fnT k)) := by
 show (fnT k).size ≤ 20
 unfold fnT
 repeat' split
 all_goals decide
theorem short_op (k : Nat) : Short (sgT (opT k)) := by
 show (opT k).size ≤ 20
 unfold opT
 repeat' split
 all_goals decide
theorem short_open : Short (sgT tOpen) := by show tOpen.size ≤ 20; decide
theorem short_shut : Short (sgT tShut) := by show tShut.size ≤ 20; decide
theorem short_comma : Short (sgT tComma) := by show tComma.size ≤ 20; decide
theorem short_minus : Short (sgT tMinus) := by show tMinus.size ≤ 20; decide
theorem short_shift : Short (sgT tShift) := by show tShift.size ≤ 20; decide
theorem short_bra : Short (sgT tBra) := by show tBra.size ≤ 20; decide
theorem short_ket : Short (sgT tKet) := by show tKet.size ≤ 20; decide
theorem short_semi : Short (sgT tSemi) := by show tSemi.size ≤ 20; decide
theorem short_eq : Short (sgT tEq) := by show tEq.size ≤ 20; decide
theorem short_input : Short (kwT tInput) := by show tInput.size ≤ 20; decide
theorem short_let : Short (kwT tLet) := by show tLet.size ≤ 20; decide
theorem short_output : Short (kwT tOutput) := by show tOutput.size ≤ 20; decide
def NumsOk (es : List Ex) : Prop := ∀ e ∈ es, e.num < 18446744073709551616 ∧ e.name.size ≤ 16
theorem prE_short {es : List Ex} (hs : NumsOk es) : ∀ (F n : Nat), AllSt (prE es F n)
 | 0, n => AllSt.nil
 | F + 1, n => by
  have ih := prE_short hs F
  rw [prE]
  cases hn : es[n]? with
  | none => exact AllSt.nil
  | some e =>
   dsimp only
   obtain ⟨h1, h2⟩ := hs e (List.mem_of_getElem? hn)
   have h3 : Short (nmT e.name) := by show e.name.size ≤ 20; omega
   repeat' split
   ·exact .cons (short_num h1) .nil
   ·exact .cons h3 .nil
   ·exact .cons short_open (.cons short_minus ((ih _).app (.cons short_shut .nil)))
   ·exact .cons short_open ((ih _).app (.cons (short_op _) ((ih _).app (.cons short_shut .nil))))
   ·exact .cons short_open ((ih _).app (.cons short_shift (.cons (short_num h1) (.cons short_shut .nil))))
   ·exact .cons (short_fn _) (.cons short_open ((ih _).app (.cons short_shut .nil)))
   ·exact .cons (short_fn _) (.cons short_open ((ih _).app (.cons short_comma ((ih _).app (.cons short_shut .nil)))))
   ·exact .cons (short_fn _) (.cons short_open ((ih _).app (.cons short_comma ((ih _).app (.cons short_comma ((ih _).app (.cons short_shut .nil)))))))
theorem prE_count {L0 : List Tok} {es : List Ex} (hm : ∀ e ∈ es, MadeE L0 e) : ∀ (n F lo : Nat), n < F → TrL es lo (n + 1) [n] → (prE es F n).length + 5 * lo ≤ 5 * (n + 1) := by
 intro n
 induction n using Nat.strongRecOn with
 | _ n ihn =>
  intro F lo hF htr
  obtain ⟨F, rfl⟩ : ∃ F', F = F' + 1 := ⟨F - 1, by omega⟩
  have hlo := htr.le.1
  obtain ⟨e, he, hargs⟩ := trl_one htr
  have hmade := hm e (List.mem_of_getElem? he)
  rw [prE, he]
  dsimp only
  rcases hmade with ⟨k, h1, h2, t, ht, htn⟩ | ⟨k, h1, h2, t, ht, htk, htx⟩ | ⟨k1, k2, h1, h2, h3, h4⟩
  ·rw [if_pos k, List.length_singleton]
   rw [h2] at hargs
   have := trl_nil hargs
   omega
  ·rw [if_neg (by omega), if_pos k, List.length_singleton]
   rw [h2] at hargs
   have := trl_nil hargs
   omega
  ·rw [if_neg (by omega), if_neg (by omega)]
   by_cases k3 : e.kind = 3
   ·rw [if_pos k3]
    obtain ⟨x, hx⟩ := len_one (h2.trans (by rw [k3]; rfl))
    rw [show e.args.getD 0 0 = x by rw [hx]; rfl]
    rw [hx] at hargs
    obtain ⟨tx, hn⟩ := trl_a1 hargs
    have := ihn x (by omega) F lo (by omega) tx
    simp only [List.length_cons, List.length_append, List.length_nil]
    omega
   ·rw [if_neg k3]
    by_cases k8 : e.kind ≤ 8
    ·rw [if_pos k8]
     obtain ⟨x, y, hx⟩ := len_two (h2.trans (by unfold mkN; rw [if_neg (by omega), if_pos (by omega)]))
     rw [show e.args.getD 0 0 = x by rw [hx]; rfl, show e.args.getD 1 0 = y by rw [hx]; rfl]
     rw [hx] at hargs
     obtain ⟨tx, ty, hn⟩ := trl_a2 hargs
     have hxy := ty.le.1
     have := ihn x (by omega) F lo (by omega) tx
     have := ihn y (by omega) F (x + 1) (by omega) ty
     simp only [List.length_cons, List.length_append, List.length_nil]
     omega
    ·rw [if_neg k8]
     by_cases k9 : e.kind = 9
     ·rw [if_pos k9]
      obtain ⟨x, hx⟩ := len_one (h2.trans (by rw [k9]; rfl))
      rw [show e.args.getD 0 0 = x by rw [hx]; rfl]
      rw [hx] at hargs
      obtain ⟨tx, hn⟩ := trl_a1 hargs
      have := ihn x (by omega) F lo (by omega) tx
      simp only [List.length_cons, List.length_append, List.length_nil]
      omega
     ·rw [if_neg k9]
      by_cases k12 : e.kind ≤ 12
      ·rw [if_pos k12]
       obtain ⟨x, hx⟩ := len_one (h2.trans (by unfold mkN; rw [if_pos (by omega)]))
       rw [show e.args.getD 0 0 = x by rw [hx]; rfl]
       rw [hx] at hargs
       obtain ⟨tx, hn⟩ := trl_a1 hargs
       have := ihn x (by omega) F lo (by omega) tx
       simp only [List.length_cons, List.length_append, List.length_nil]
       omega
      ·rw [if_neg k12]
       by_cases k13 : e.kind = 13
       ·rw [if_pos k13]
        obtain ⟨x, y, hx⟩ := len_two (h2.trans (by rw [k13]; rfl))
        rw [show e.args.getD 0 0 = x by rw [hx]; rfl, show e.args.getD 1 0 = y by rw [hx]; rfl]
        rw [hx] at hargs
        obtain ⟨tx, ty, hn⟩ := trl_a2 hargs
        have hxy := ty.le.1
        have := ihn x (by omega) F lo (by omega) tx
        have := ihn y (by omega) F (x + 1) (by omega) ty
        simp only [List.length_cons, List.length_append, List.length_nil]
        omega
       ·rw [if_neg k13]
        obtain ⟨x, y, z, hx⟩ := len_three (h2.trans (by rw [show e.kind = 14 by omega]; rfl))
        rw [show e.args.getD 0 0 = x by rw [hx]; rfl, show e.args.getD 1 0 = y by rw [hx]; rfl, show e.args.getD 2 0 = z by rw [hx]; rfl]
        rw [hx] at hargs
        obtain ⟨tx, ty, tz, hn⟩ := trl_a3 hargs
        have hxy := ty.le.1
        have hyz := tz.le.1
        have := ihn x (by omega) F lo (by omega) tx
        have := ihn y (by omega) F (x + 1) (by omega) ty
        have := ihn z (by omega) F (y + 1) (by omega) tz
        simp only [List.length_cons, List.length_append, List.length_nil]
        omega
theorem wide_short : ∀ (xs : List (Tok × List UInt8)), (∀ p ∈ xs, Short p.1 ∧ p.2.length ≤ 1) → (wideL xs).length ≤ 21 * xs.length
 | [], _ => Nat.le_refl _
 | (t, g) :: r, h => by
  have h1 := h (t, g) (List.mem_cons.2 (.inl rfl))
  have h2 := wide_short r fun p hp => h p (List.mem_cons.2 (.inr hp))
  have h3 : t.text.data.toList.length ≤ 20 := by rw [len_data]; exact h1.1
  have h4 : g.length ≤ 1 := h1.2
  rw [wide_cons, List.length_append, List.length_append, List.length_cons]
  omega
theorem shTl_short {r : List Nat} (h : ∀ d ∈ r, d ≤ 1048576) : AllSt (r.flatMap fun x => [sgT tComma, numT x]) := by
 intro t ht
 obtain ⟨d, hd, ht⟩ := List.mem_flatMap.1 ht
 have hd2 := h d hd
 rcases List.mem_cons.1 ht with rfl | ht
 ·exact short_comma
 ·rw [List.mem_singleton.1 ht]
  exact short_num (by omega)
theorem shT_short {l : List Nat} (h : ∀ d ∈ l, d ≤ 1048576) : AllSt (shT l) := by
 cases l with
 | nil => exact .nil
 | cons d r =>
  have hd := h d (List.mem_cons.2 (.inl rfl))
  exact .cons (short_num (by omega)) (shTl_short fun x hx => h x (List.mem_cons.2 (.inr hx)))
theorem shT_count (l : List Nat) : (shT l).length ≤ 2 * l.length := by
 cases l with
 | nil => exact Nat.le_refl _
 | cons d r =>
  have : ∀ r : List Nat, (r.flatMap fun x => [sgT tComma, numT x]).length = 2 * r.length := fun r => by
   induction r with
   | nil => rfl
   | cons a b ih => rw [List.flatMap_cons, List.length_append, ih, List.length_cons]; simp only [List.length_cons, List.length_nil]; omega
  show (numT d :: r.flatMap fun x => [sgT tComma, numT x]).length ≤ _
  rw [List.length_cons, this, List.length_cons]
  omega
def ShortP (xs : List (Tok × List UInt8)) : Prop := ∀ p ∈ xs, Short p.1 ∧ p.2.length ≤ 1
theorem ShortP.cons {t : Tok} {g : List UInt8} {xs : List (Tok × List UInt8)} (h : Short t) (hg : g.length ≤ 1) (hx : ShortP xs) : ShortP ((t, g) :: xs) := fun p hp => by
 rcases List.mem_cons.1 hp with rfl | hp
 ·exact ⟨h, hg⟩
 ·exact hx p hp
theorem AllSt.tight {l : List Tok} (h : AllSt l) : ShortP (tight l) := fun p hp => by
 obtain ⟨t, ht, rfl⟩ := List.mem_map.1 hp
 exact ⟨h t ht, Nat.zero_le _⟩
theorem tight_length (l : List Tok) : (tight l).length = l.length := by unfold tight; rw [List.length_map]
theorem prS_short {L0 : List Tok} {es : List Ex} {x : Sm} (hs : NumsOk es) (hx : MadeS L0 x) (hn : x.name.size ≤ 16) : ShortP (prS es x) := by
 have h3 : Short (nmT x.name) := by show x.name.size ≤ 20; omega
 obtain ⟨_, hk⟩ := hx
 unfold prS
 rcases hk with ⟨k, hp, hd, hex⟩ | ⟨k, hp, hd⟩ | ⟨k, hp, hd, hex⟩
 ·rw [if_pos k]
  exact .cons short_input (Nat.le_refl _) (.cons (short_num (by omega)) (Nat.le_refl _) (.cons h3 (Nat.le_refl _) (AllSt.tight (.cons short_bra ((shT_short hd).app (.cons short_ket (.cons short_semi .nil)))))))
 ·rw [if_neg (by omega), if_pos k]
  exact .cons short_let (Nat.le_refl _) (.cons h3 (Nat.le_refl _) (.cons short_eq (Nat.le_refl _) (AllSt.tight ((prE_short hs _ _).app (.cons short_semi .nil)))))
 ·rw [if_neg (by omega), if_neg (by omega)]
  exact .cons short_output (Nat.le_refl _) (AllSt.tight (.cons h3 (.cons short_semi .nil)))
theorem prS_count {L0 : List Tok} {es : List Ex} {x : Sm} {a : Nat} (hm : ∀ e ∈ es, MadeE L0 e) (hx : MadeS L0 x) (ht : x.kind = 2 → TrL es a (x.expr + 1) [x.expr]) : (prS es x).length + 5 * a ≤ 6 + 2 * x.shape.length + 5 * nextN x a := by
 obtain ⟨_, hk⟩ := hx
 unfold prS
 rcases hk with ⟨k, hp, hd, hex⟩ | ⟨k, hp, hd⟩ | ⟨k, hp, hd, hex⟩
 ·rw [if_pos k, nextN_no (by omega)]
  have := shT_count x.shape
  simp only [List.length_cons, tight_length, List.length_append, List.length_nil]
  omega
 ·rw [if_neg (by omega), if_pos k, nextN_let k]
  have := prE_count hm x.expr (x.expr + 1) a (Nat.lt_succ_self _) (ht k)
  simp only [List.length_cons, tight_length, List.length_append, List.length_nil]
  omega
 ·rw [if_neg (by omega), if_neg (by omega), nextN_no (by omega)]
  simp only [List.length_cons, tight_length, List.length_append, List.length_nil]
  omega
theorem prP_count {L0 : List Tok} {es : List Ex} (hm : ∀ e ∈ es, MadeE L0 e) : ∀ (ss : List Sm) (a b : Nat), (∀ x ∈ ss, MadeS L0 x) → SsTo es a b ss → (prP ss es).length + 5 * a ≤ 6 * ss.length + 2 * shS ss + 5 * b
 | [], a, b, _, h => by
  have : a = b := h
  subst this
  show 0 + 5 * a ≤ 6 * 0 + 2 * 0 + 5 * a
  omega
 | x :: r, a, b, hx, h => by
  unfold SsTo at h
  have ht2 : (x.kind = 2 → TrL es a (x.expr + 1) [x.expr]) ∧ SsTo es (nextN x a) b r := by
   unfold nextN
   split at h
   ·rename_i h2
    exact ⟨fun _ => h.1, by rw [if_pos h2]; exact h.2⟩
   ·rename_i h2
    exact ⟨fun e => absurd e h2, by rw [if_neg h2]; exact h⟩
  have h1 := prS_count hm (hx x (List.mem_cons.2 (.inl rfl))) ht2.1
  have h2 := prP_count hm r (nextN x a) b (fun y hy => hx y (List.mem_cons.2 (.inr hy))) ht2.2
  have h3 : (prP (x :: r) es).length = (prS es x).length + (prP r es).length := by unfold prP; rw [List.flatMap_cons, List.length_append]
  have h4 : shS (x :: r) = x.shape.length + shS r := rfl
  rw [h3, h4, List.length_cons]
  omega
theorem print_size {F : Nat} {l : List Tok} {s : ByteArray} (hl : scanM s = .toks l) (hF : 12 * l.length + 20 ≤ F) (he : (parseP F l).err = none) : (wideL (prP (parseP F l).ss (parseP F l).es)).length ≤ 100000 ∧ NumsOk (parseP F l).es := by
 obtain ⟨r, hr, htk, hr2, _⟩ := scanM_iff hl
 have hnum : ∀ t ∈ l, t.num < 18446744073709551616 := fun t ht => by
  rw [hr] at ht
  rcases List.mem_append.1 ht with ht | ht
  ·exact (toks_good htk t ht).2.1
  ·rw [List.mem_singleton.1 ht]
   show (0 : Nat) < _
   decide
 obtain ⟨hm, hms⟩ := parse_md hF he
 have hto := parse_to hF he
 have hnm := scanM_names hl
 have hno : NumsOk (parseP F l).es := fun e hx => by
  rcases hm e hx with ⟨k, h1, h2, t, ht, htn⟩ | ⟨k, h1, h2, t, ht, htk, htx⟩ | ⟨k1, k2, h1, h2, h3, h4⟩
  ·exact ⟨by rw [← htn]; exact hnum t ht, by rw [h1]; decide⟩
  ·exact ⟨by rw [h1]; decide, by rw [← htx]; exact hnm t ht htk⟩
  ·exact ⟨by omega, by rw [h1]; decide⟩
 have h1 := prP_count hm (parseP F l).ss 0 _ hms hto
 have h2 := parse_sh (L := l) F
 have h3 := es_small F l
 have h4 := loop_small he
 have h5 := (scanM_len hl).1
 have h6 := wide_short (prP (parseP F l).ss (parseP F l).es) fun p hp => by
  obtain ⟨x, hx, hp⟩ := List.mem_flatMap.1 hp
  refine prS_short hno (hms x hx) ?_ p hp
  exact (ss_small hnm F x hx).1
 exact ⟨by omega, hno⟩
def CdOk (s : PS) : Prop := ∀ c p, s.err = some (c, p) → c ≠ 0
def Ce (s s' : PS) : Prop := CdOk s → CdOk s'
section
variable {L : List Tok} {s s' s'' : PS}
theorem Ce.refl (s : PS) : Ce s s := fun h => h
theorem Ce.trans (h : Ce s s') (h' : Ce s' s'') : Ce s s'' := fun x => h' (h x)
theorem Ce.adv : Ce s (advP s) := fun h => h
theorem Ce.fail (c : Nat) (hc : c ≠ 0) : Ce s (failP L s c) := fun h c' p hx => by
 unfold failP at hx
 split at hx
 ·injection hx with hx
  injection hx with hx _
  rw [← hx]
  exact hc
 ·exact h c' p hx
theorem Ce.want (t : ByteArray) : Ce s (wantP L s t) := by
 unfold wantP
 split
 ·exact Ce.adv
 ·exact Ce.fail _ (by decide)
theorem Ce.name : Ce s (nameP L s).1 := by
 unfold nameP
 split
 ·exact Ce.fail _ (by decide)
 ·exact Ce.adv
theorem Ce.number : Ce s (numberP L s).1 := by
 unfold numberP
 split
 ·exact Ce.fail _ (by decide)
 ·exact Ce.adv
theorem Ce.put (e : Ex) : Ce s (putP s e).1 := by
 unfold putP
 split
 ·exact Ce.refl s
 ·exact fun h => h
theorem Ce.sink : Ce s (sinkP L s).1 := by
 unfold sinkP
 split
 ·exact Ce.fail _ (by decide)
 ·exact fun h => h
theorem Ce.rise : Ce s (riseP s) := fun h => h
end
structure AllCe (L : List Tok) (f : Nat) : Prop where
 expr : ∀ s, Ce s (exprP L f s).1
 sum : ∀ s, Ce s (sumP L f s).1
 sumLoop : ∀ s a, Ce s (sumLoopP L f s a).1
 prod : ∀ s, Ce s (prodP L f s).1
 prodLoop : ∀ s a, Ce s (prodLoopP L f s a).1
 sign : ∀ s, Ce s (signP L f s).1
 post : ∀ s, Ce s (postP L f s).1
 postLoop : ∀ s a, Ce s (postLoopP L f s a).1
 atom : ∀ s, Ce s (atomP L f s).1
 args : ∀ n s l, Ce s (argsP L f n s l).1
theorem allCe (L : List Tok) (f : Nat) : AllCe L f := by
 induction f with
 | zero => exact ⟨fun s => Ce.refl s, fun s => Ce.refl s, fun s a => Ce.refl s, fun s => Ce.refl s, fun s a => Ce.refl s, fun s => Ce.refl s, fun s => Ce.refl s, fun s a => Ce.refl s, fun s => Ce.refl s, fun n s l => by rw [argsP]; exact Ce.refl s⟩
 | succ f ih =>
  refine ⟨?_, ?_, ?_, ?_, ?_, ?_, ?_, ?_, ?_, ?_⟩
  ·intro s
   rw [exprP]
   dsimp only
   split
   ·exact (((ih.sum s).trans Ce.adv).trans (ih.sum _)).trans (Ce.put _)
   ·exact ih.sum s
  ·intro s
   rw [sumP]
   exact (ih.prod s).trans (ih.sumLoop _ _)
  ·intro s a
   rw [sumLoopP]
   dsimp only
   split
   ·exact ((Ce.adv.trans (ih.prod _)).trans (Ce.put _)).trans (ih.sumLoop _ _)
   ·split
    ·exact ((Ce.adv.trans (ih.prod _)).trans (Ce.put _)).trans (ih.sumLoop _ _)
    ·exact Ce.refl s
  ·intro s
   rw [prodP]
   exact (ih.sign s).trans (ih.prodLoop _ _)
  ·intro s a
   rw [prodLoopP]
   dsimp only
   split
   ·exact ((Ce.adv.trans (ih.sign _)).trans (Ce.put _)).trans (ih.prodLoop _ _)
   ·split
    ·exact ((Ce.adv.trans (ih.sign _)).trans (Ce.put _)).trans (ih.prodLoop _ _)
    ·exact Ce.refl s
  ·intro s
   rw [signP]
   dsimp only
   split
   ·split
    ·exact (((Ce.sink.trans Ce.adv).trans (ih.sign _)).trans Ce.rise).trans (Ce.put _)
    ·exact Ce.sink
   ·exact ih.post s
  ·intro s
   rw [postP]
   exact (ih.atom s).trans (ih.postLoop _ _)
  ·intro s a
   rw [postLoopP]
   dsimp only
   split
   ·exact ((Ce.adv.trans Ce.number).trans (Ce.put _)).trans (ih.postLoop _ _)
   ·exact Ce.refl s
  ·intro s
   rw [atomP]
   dsimp only
   split
   ·exact Ce.refl s
   ·split
    ·exact Ce.adv.trans (Ce.put _)
    ·split
     ·exact Ce.adv.trans (Ce.put _)
     ·split
      ·exact Ce.fail _ (by decide)
      ·split
       ·split
        ·exact (((Ce.sink.trans Ce.adv).trans (ih.expr _)).trans (Ce.want _)).trans Ce.rise
        ·exact (((((Ce.sink.trans Ce.adv).trans (Ce.want _)).trans (ih.args _ _ _)).trans (Ce.want _)).trans Ce.rise).trans (Ce.put _)
       ·exact Ce.sink
  ·intro n s l
   cases n with
   | zero => rw [argsP]; exact Ce.refl s
   | succ n =>
    rw [argsP]
    split
    ·exact (ih.expr _).trans (ih.args _ _ _)
    ·exact ((Ce.want _).trans (ih.expr _)).trans (ih.args _ _ _)
theorem shapeLoop_ce (L : List Tok) : ∀ (f : Nat) (s : PS) (l : List Nat), Ce s (shapeLoopP L f s l).1 := by
 intro f
 induction f with
 | zero => intro s l; exact Ce.refl s
 | succ f ih =>
  intro s l
  rw [shapeLoopP]
  split
  ·exact (Ce.adv.trans Ce.number).trans (ih _ _)
  ·exact Ce.want _
theorem shape_ce (L : List Tok) (f : Nat) (s : PS) : Ce s (shapeP L f s).1 := by
 unfold shapeP
 dsimp only
 split
 ·exact (Ce.want _).trans Ce.adv
 ·exact ((Ce.want _).trans Ce.number).trans (shapeLoop_ce L f _ _)
theorem body_ce (L : List Tok) (f : Nat) (s : PS) : Ce s (bodyP L f s).1 := by
 unfold bodyP
 split
 ·exact Ce.fail _ (by decide)
 ·split
  ·exact ((Ce.adv.trans Ce.number).trans Ce.name).trans (shape_ce L f _)
  ·split
   ·exact ((Ce.adv.trans Ce.name).trans (Ce.want _)).trans ((allCe L f).expr _)
   ·split
    ·exact Ce.adv.trans Ce.name
    ·exact Ce.fail _ (by decide)
theorem loop_ce (L : List Tok) (f : Nat) : ∀ (n : Nat) (s : PS), Ce s (parseLoopP L n f s)
 | 0, s => Ce.refl s
 | n + 1, s => by
  rw [parseLoopP]
  split
  ·have h1 : Ce s (stmtP L f s) := fun hx => ((body_ce L f s).trans (Ce.want tSemi)) hx
   exact h1.trans (loop_ce L f n _)
  ·exact Ce.refl s
theorem parse_code {F : Nat} {L : List Tok} {c p : Nat} (h : (parseP F L).err = some (c, p)) : c ≠ 0 := loop_ce L F F startP (fun c p h => by cases h) c p h
end Go.Proofs.YtghlnncfigkkaaaGreatDoor
