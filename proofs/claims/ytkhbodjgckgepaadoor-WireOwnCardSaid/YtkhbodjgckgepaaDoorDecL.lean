/-
  A message's bytes read back: plain lemmas, no program.
-/
import Derived.Test.YtkhbodjgckgepaaDoorWordL
namespace Go.Proofs.YtkhbodjgckgepaaDoor
set_option linter.unusedVariables false
set_option linter.unusedSimpArgs false
open Go.RowKit
/-- A number's bytes: some with 128, and a last one without. -/
theorem numB_form (n : Nat) : ∃ pre c, numB n = pre ++ [c] ∧ (∀ x ∈ pre, 128 ≤ x.toNat) ∧ c.toNat < 128 := by
  induction n using Nat.strongRecOn with
  | ind n ih =>
    by_cases h : n < 128
    · refine ⟨[], byteN n, numB_small h, by simp, ?_⟩
      rw [byteN_nat]; omega
    · obtain ⟨pre, c, h1, h2, h3⟩ := ih (n / 128) (by omega)
      refine ⟨byteN (n % 128 + 128) :: pre, c, by rw [numB_big h, h1]; rfl, ?_, h3⟩
      intro x hx
      rcases List.mem_cons.1 hx with h | h
      · rw [h, byteN_nat]; omega
      · exact h2 x h
theorem takeB_num (n : Nat) (hn : n ≤ 4294967295) (r : List UInt8) : takeB (numB n ++ r) = (n, (numB n).length) := by
  obtain ⟨pre, c, h1, h2, h3⟩ := numB_form n
  have hlen := numB_length n hn
  have hv := valB_numB n
  have hb := (numB_valB pre c h2 h3).1 (by rw [← h1, hv])
  rw [h1] at hlen hv ⊢
  have hl : (pre ++ [c]).length = pre.length + 1 := by simp
  have hat : nthB (pre ++ [c] ++ r) pre.length = c := by
    rw [nthB_pos _ (by simp)]; simp
  have htake : (pre ++ [c] ++ r).take (pre.length + 1) = pre ++ [c] := by
    rw [← hl, List.take_left]
  rw [takeB_at (l := pre ++ [c] ++ r) pre.length ?_ (by omega) (by simp) (by rw [hat]; exact h3), htake, hv, if_neg, hl]
  · rintro (h | ⟨h, h'⟩)
    · omega
    · rw [hat] at h
      rcases hb with hb | hb
      · exact hb h
      · rw [hb] at h'; simp at h'
  · intro j hj
    have : nthB (pre ++ [c] ++ r) j = pre[j] := by
      rw [nthB_pos _ (by simp; omega), List.getElem_append_left (by simp; omega), List.getElem_append_left hj]
    rw [this]
    exact h2 _ (List.getElem_mem hj)
theorem takeB_snd_le (l : List UInt8) : (takeB l).2 ≤ l.length ∧ (takeB l).2 ≤ 5 ∧ (takeB l).1 ≤ 4294967295 := by
  have hc : ∀ (f : Nat) (l : List UInt8), contB f l ≤ l.length ∧ contB f l ≤ f := by
    intro f
    induction f with
    | zero => intro l; simp [contB]
    | succ f ih =>
      intro l
      cases l with
      | nil => simp [contB]
      | cons c r =>
        unfold contB
        have := ih r
        simp only [List.length_cons]
        split <;> omega
  have := hc 5 l
  rw [show takeB l = _ from by unfold takeB; rfl]
  split
  · simp
  · split
    · simp
    · simp only
      omega
/-- A message's word at place i. -/
def wordAt (l : List UInt8) (i : Nat) : UInt64 := wholeB ((l.drop (8 * i)).take 8)
def wordsB (n : Nat) (l : List UInt8) : List UInt64 := (List.range n).map (wordAt l)
theorem wordsB_length (n : Nat) (l : List UInt8) : (wordsB n l).length = n := by unfold wordsB; simp
theorem wordsB_succ (n : Nat) (l : List UInt8) : wordsB (n + 1) l = wordsB n l ++ [wordAt l n] := by
  unfold wordsB; rw [List.range_succ, List.map_append]; rfl
theorem wordsB_zero (l : List UInt8) : wordsB 0 l = [] := rfl
theorem val256_eight (x : UInt64) : val256 (eightB x) = x.toNat := by
  have h := x.toNat_lt
  have e : eightB x = [byteAt x 0, byteAt x 1, byteAt x 2, byteAt x 3, byteAt x 4, byteAt x 5, byteAt x 6, byteAt x 7] := by
    unfold eightB; rfl
  have b : ∀ i, (byteAt x i).toNat = x.toNat / 2 ^ (8 * i) % 256 := by
    intro i
    have := u8_byteAt' x i
    have h2 : (((byteAt x i).toNat : Nat) : Int) = ((x.toNat / 2 ^ (8 * i) % 256 : Nat) : Int) := by
      rw [← this]; simp
    exact Int.ofNat.inj h2
  rw [e]
  simp only [val256, b]
  simp only [Nat.mul_zero, Nat.pow_zero, Nat.div_one, Nat.reduceMul, Nat.reducePow]
  omega
theorem wholeB_eight (x : UInt64) : wholeB (eightB x) = x := by
  unfold wholeB
  rw [val256_eight]
  exact UInt64.ofNat_toNat
theorem bodyB_cons (x : UInt64) (l : List UInt64) : bodyB (x :: l) = eightB x ++ bodyB l := by
  unfold bodyB; rw [List.flatMap_cons]
theorem bodyB_drop (l : List UInt64) (i : Nat) : (bodyB l).drop (8 * i) = bodyB (l.drop i) := by
  induction i generalizing l with
  | zero => simp
  | succ i ih =>
    cases l with
    | nil => rw [List.drop_nil, bodyB_nil, List.drop_nil]
    | cons x l =>
      rw [bodyB_cons, show 8 * (i + 1) = (eightB x).length + 8 * i from by rw [eightB_length]; omega, List.drop_length_add_append, ih, List.drop_succ_cons]
theorem wordAt_body (l : List UInt64) {i : Nat} (h : i < l.length) : wordAt (bodyB l) i = l[i] := by
  unfold wordAt
  rw [bodyB_drop, List.drop_eq_getElem_cons h, bodyB_cons, List.take_left' (eightB_length _), wholeB_eight]
theorem wordsB_take (l : List UInt64) (n : Nat) (h : n ≤ l.length) : wordsB n (bodyB l) = l.take n := by
  induction n with
  | zero => rfl
  | succ n ih => rw [wordsB_succ, ih (by omega), wordAt_body l (by omega), List.take_succ_eq_append_getElem (by omega)]
theorem wordsB_body (l : List UInt64) : wordsB l.length (bodyB l) = l := by rw [wordsB_take l _ (Nat.le_refl _), List.take_length]
/-- The message whose bytes these are. -/
def decB (l : List UInt8) : Option (Nat × List UInt64) :=
  if (takeB l).2 = 0 ∨ (takeB (l.drop (takeB l).2)).2 = 0 ∨ 65536 < (takeB (l.drop (takeB l).2)).1 ∨ l.length ≠ (takeB l).2 + (takeB (l.drop (takeB l).2)).2 + 8 * (takeB (l.drop (takeB l).2)).1 then none
  else some ((takeB l).1, wordsB (takeB (l.drop (takeB l).2)).1 ((l.drop (takeB l).2).drop (takeB (l.drop (takeB l).2)).2))
theorem encB_eq (n : Nat) (l : List UInt64) : encB n l = numB n ++ (numB l.length ++ bodyB l) := by
  unfold encB; rw [headB_eq, List.append_assoc]
theorem decB_more (n : Nat) (l : List UInt64) (more : List UInt8) (hn : n ≤ 4294967295) (hl : l.length ≤ 65536) :
    decB (encB n l ++ more) = if more = [] then some (n, l) else none := by
  have e : encB n l ++ more = numB n ++ (numB l.length ++ (bodyB l ++ more)) := by rw [encB_eq]; simp only [List.append_assoc]
  have h1 := takeB_num n hn (numB l.length ++ (bodyB l ++ more))
  have h2 := takeB_num l.length (by omega) (bodyB l ++ more)
  have k1 := numB_length n hn
  have k2 := numB_length l.length (by omega)
  have kb := bodyB_length l
  unfold decB
  rw [e, h1]
  simp only [List.drop_left, h2]
  by_cases hm : more = []
  · subst hm
    rw [if_neg, if_pos rfl, List.append_nil, wordsB_body]
    simp only [List.length_append, List.append_nil]
    omega
  · have : more.length ≠ 0 := by simpa using hm
    rw [if_pos, if_neg hm]
    simp only [List.length_append]
    omega
theorem decB_enc (n : Nat) (l : List UInt64) (hn : n ≤ 4294967295) (hl : l.length ≤ 65536) : decB (encB n l) = some (n, l) := by
  have h := decB_more n l [] hn hl
  rw [List.append_nil, if_pos rfl] at h
  exact h
theorem encB_inj {n n' : Nat} {l l' : List UInt64} (hn : n ≤ 4294967295) (hl : l.length ≤ 65536) (hn' : n' ≤ 4294967295) (hl' : l'.length ≤ 65536) (h : encB n l = encB n' l') : n = n' ∧ l = l' := by
  have h1 := decB_enc n l hn hl
  rw [h, decB_enc n' l' hn' hl'] at h1
  injection h1 with h1
  injection h1 with a b
  exact ⟨a.symm, b.symm⟩
/-- How many bytes the number at the front takes, and what is behind. -/
theorem decB_none1 {l : List UInt8} (h : (takeB l).2 = 0) : decB l = none := by unfold decB; rw [if_pos (.inl h)]
/-- The bytes of a word, some of them. -/
def partW (l : List UInt8) (i k : Nat) : UInt64 := wholeB ((l.drop (8 * i)).take k)
theorem partW_zero (l : List UInt8) (i : Nat) : partW l i 0 = 0 := by unfold partW wholeB; rfl
theorem partW_full (l : List UInt8) (i : Nat) : partW l i 8 = wordAt l i := rfl
theorem partW_step (l : List UInt8) {i k : Nat} (hk : k < 8) (h : 8 * i + k < l.length) :
    (partW l i (k + 1)).toNat = (partW l i k).toNat ||| ((nthB l (8 * i + k)).toNat * 2 ^ (8 * k)) ∧ (nthB l (8 * i + k)).toNat * 2 ^ (8 * k) < 2 ^ 64 := by
  have hd : k < (l.drop (8 * i)).length := by rw [List.length_drop]; omega
  have hlt := val256_lt ((l.drop (8 * i)).take k)
  have hlen : ((l.drop (8 * i)).take k).length = k := by rw [List.length_take]; omega
  rw [hlen] at hlt
  have hpw : (256 : Nat) ^ k = 2 ^ (8 * k) := by rw [Nat.pow_mul]
  have hb := (nthB l (8 * i + k)).toNat_lt
  have h64 : (2 : Nat) ^ 64 = 2 ^ (8 * k) * 2 ^ (64 - 8 * k) := by rw [← Nat.pow_add]; congr 1; omega
  have h256 : (256 : Nat) ≤ 2 ^ (64 - 8 * k) := by
    have : (2 : Nat) ^ 8 ≤ 2 ^ (64 - 8 * k) := Nat.pow_le_pow_right (by omega) (by omega)
    simpa using this
  have hpos : 0 < (2 : Nat) ^ (8 * k) := Nat.pow_pos (by omega)
  have hmul : (nthB l (8 * i + k)).toNat * 2 ^ (8 * k) + 2 ^ (8 * k) ≤ 2 ^ 64 := by
    rw [h64, Nat.mul_comm]
    have : 2 ^ (8 * k) * (nthB l (8 * i + k)).toNat + 2 ^ (8 * k) = 2 ^ (8 * k) * ((nthB l (8 * i + k)).toNat + 1) := by rw [Nat.mul_add, Nat.mul_one]
    rw [this]
    exact Nat.mul_le_mul_left _ (by omega)
  have hs : (l.drop (8 * i)).take (k + 1) = (l.drop (8 * i)).take k ++ [nthB l (8 * i + k)] := by
    rw [List.take_succ_eq_append_getElem hd, nthB_pos l h, List.getElem_drop]
  have hv : val256 ((l.drop (8 * i)).take (k + 1)) = val256 ((l.drop (8 * i)).take k) + (nthB l (8 * i + k)).toNat * 2 ^ (8 * k) := by
    rw [hs, val256_append, hlen, hpw]
  have hor : val256 ((l.drop (8 * i)).take k) ||| (nthB l (8 * i + k)).toNat * 2 ^ (8 * k) = val256 ((l.drop (8 * i)).take k) + (nthB l (8 * i + k)).toNat * 2 ^ (8 * k) := by
    have := Nat.two_pow_add_eq_or_of_lt (hpw ▸ hlt) ((nthB l (8 * i + k)).toNat)
    rw [Nat.or_comm, Nat.mul_comm, ← this, Nat.add_comm]
  refine ⟨?_, by omega⟩
  unfold partW wholeB
  rw [UInt64.toNat_ofNat_of_lt' (by simp only [UInt64.size]; omega), UInt64.toNat_ofNat_of_lt' (by simp only [UInt64.size]; omega), hv, hor]
theorem wrap_partW (l : List UInt8) {i k : Nat} (hk : k < 8) (h : 8 * i + k < l.length) :
    bits .or .u64 ((partW l i k).toNat : Int) (((nthB l (8 * i + k)).toNat * 2 ^ (8 * k) : Nat) : Int) = ((partW l i (k + 1)).toNat : Int) := by
  obtain ⟨h1, h2⟩ := partW_step l hk h
  obtain ⟨y, hy⟩ : ∃ y : UInt64, (nthB l (8 * i + k)).toNat * 2 ^ (8 * k) = y.toNat :=
    ⟨UInt64.ofNat ((nthB l (8 * i + k)).toNat * 2 ^ (8 * k)), by rw [UInt64.toNat_ofNat_of_lt' (by simp only [UInt64.size]; omega)]⟩
  rw [hy] at h1
  rw [hy, u64_or, h1]
  unfold orW
  rw [UInt64.toNat_or]
theorem wrap_partW' (l : List UInt8) {i k : Nat} (hk : k < 8) (h : 8 * i + k < l.length) :
    bits .or .u64 ((partW l i k).toNat : Int) (IntKind.u64.wrap (IntKind.u64.wrap ((nthB l (8 * i + k)).toNat : Int) * 2 ^ (8 * k))) = ((partW l i (k + 1)).toNat : Int) := by
  rw [← wrap_partW l hk h]
  obtain ⟨_, h2⟩ := partW_step l hk h
  have hb := (nthB l (8 * i + k)).toNat_lt
  have e1 : IntKind.u64.wrap ((nthB l (8 * i + k)).toNat : Int) = ((nthB l (8 * i + k)).toNat : Int) := by rw [wrapN]; omega
  have e2 : IntKind.u64.wrap (((nthB l (8 * i + k)).toNat * 2 ^ (8 * k) : Nat) : Int) = (((nthB l (8 * i + k)).toNat * 2 ^ (8 * k) : Nat) : Int) := by rw [wrapN]; omega
  rw [e1, ← e2]
  congr 2
end Go.Proofs.YtkhbodjgckgepaaDoor
