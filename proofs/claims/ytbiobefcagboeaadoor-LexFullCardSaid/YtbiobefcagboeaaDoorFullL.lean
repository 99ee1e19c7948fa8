/-
  Texts of blanks and signs: what their scan tells. No program.
-/
import Derived.Test.YtbiobefcagboeaaDoorToksL
namespace Go.Proofs.YtbiobefcagboeaaDoor
set_option linter.unusedVariables false
set_option linter.unusedSimpArgs false
open Go.RowKit
def toksOf : Nat → List UInt8 → List Tok
  | _, [] => []
  | p, c :: L => if c = 32 then toksOf (p + 1) L else ⟨3, ⟨#[c]⟩, 0, p⟩ :: toksOf (p + 1) L
theorem toks_blank {p : Nat} {L : List UInt8} {r : List Tok} (h : Toks (p + 1) L r) : Toks p (32 :: L) r := by
  have hs : skipN false (32 :: L) = skipN false L + 1 := by rw [skipN, if_neg (by decide), if_pos (by decide)]
  cases h with
  | done _ _ h => exact Toks.done _ _ (by rw [hs, h]; rfl)
  | tok _ _ t n v r h h1 h2 =>
    have := Toks.tok p (32 :: L) t n v r (by rw [hs]; simp; omega) (by rw [hs, List.drop_succ_cons]; exact h1) (by
      rw [hs, show skipN false L + 1 + n = (skipN false L + n) + 1 from by omega, List.drop_succ_cons, show p + (skipN false L + 1) + n = p + 1 + skipN false L + n from by omega]
      exact h2)
    rw [hs, List.drop_succ_cons, show p + (skipN false L + 1) = p + 1 + skipN false L from by omega] at this
    exact this
theorem toks_sign {p : Nat} {c : UInt8} {L : List UInt8} {r : List Tok} (hc : c = 43 ∨ c = 59) (h : Toks (p + 1) L r) : Toks p (c :: L) (⟨3, ⟨#[c]⟩, 0, p⟩ :: r) := by
  have h1 : digB c = false ∧ lowB c = false ∧ c ≠ 62 ∧ signB c = true := by rcases hc with rfl | rfl <;> decide
  have ho : oneL (c :: L) = some (3, 1, 0) := by
    rw [oneL_cons, if_neg (by rw [h1.1]; simp), if_neg (by rw [h1.2.1]; simp), if_neg (by rw [pre_no h1.2.2.1]; simp), if_pos h1.2.2.2]
  have hs := (one_pos ho).2.2.1
  have := Toks.tok p (c :: L) 3 1 0 r (by rw [hs]; simp) (by rw [hs]; exact ho) (by rw [hs]; exact h)
  rw [hs] at this
  exact this
theorem toks_of : ∀ (L : List UInt8) (p : Nat), (∀ c ∈ L, c = 32 ∨ c = 43 ∨ c = 59) → Toks p L (toksOf p L)
  | [], p, _ => Toks.done _ _ (by rw [skipN_nil]; rfl)
  | c :: L, p, h => by
    have ih := toks_of L (p + 1) (fun d hd => h d (List.mem_cons_of_mem _ hd))
    unfold toksOf
    rcases h c (by simp) with rfl | hc
    · rw [if_pos rfl]; exact toks_blank ih
    · rw [if_neg (by rcases hc with rfl | rfl <;> decide)]; exact toks_sign hc ih
theorem toksOf_length : ∀ (L : List UInt8) (p : Nat), (toksOf p L).length = L.countP (· != 32)
  | [], _ => rfl
  | c :: L, p => by
    unfold toksOf
    rw [List.countP_cons]
    split
    · rename_i h; subst h; rw [toksOf_length L]; simp
    · rename_i h; rw [List.length_cons, toksOf_length L]; simp [h]
theorem toksOf_snoc : ∀ (L : List UInt8) (p : Nat), toksOf p (L ++ [59]) = toksOf p L ++ [⟨3, ⟨#[59]⟩, 0, p + L.length⟩]
  | [], p => rfl
  | c :: L, p => by
    rw [List.cons_append]
    unfold toksOf
    rw [toksOf_snoc L]
    rw [show p + 1 + L.length = p + (c :: L).length from by rw [List.length_cons]; omega]
    split <;> rfl
/-- The text of 512 signs. -/
def fullF (j : Nat) : UInt8 := if j % 2 = 0 ∧ j < 1024 then 43 else 32
def fullB : List UInt8 := (List.range 4096).map fullF
theorem fullB_len : fullB.length = 4096 := by unfold fullB; simp
theorem fullB_nth (j : Nat) (h : j < 4096) : fullB[j]? = some (fullF j) := by unfold fullB; rw [List.getElem?_map, List.getElem?_range h]; rfl
theorem fullF_cases (j : Nat) : fullF j = 32 ∨ fullF j = 43 := by unfold fullF; split <;> simp
theorem fullB_mem : ∀ c ∈ fullB, c = 32 ∨ c = 43 ∨ c = 59 := by
  intro c hc
  unfold fullB at hc
  obtain ⟨j, _, rfl⟩ := List.mem_map.1 hc
  rcases fullF_cases j with h | h <;> rw [h] <;> simp
theorem fullB_count : fullB.countP (· != 32) = 512 := by kernel_rfl
theorem fullB_count' : (fullB.take 4095).countP (· != 32) = 512 := by kernel_rfl
theorem fullB_of {l : List UInt8} (hl : l.length = 4096) (h : ∀ j, j < 4096 → l[j]? = some (fullF j)) : l = fullB := by
  apply List.ext_getElem?
  intro j
  by_cases hj : j < 4096
  · rw [h j hj, fullB_nth j hj]
  · rw [List.getElem?_eq_none (by omega), List.getElem?_eq_none (by rw [fullB_len]; omega)]
def fullC : List UInt8 := fullB.set 4095 59
theorem fullC_len : fullC.length = 4096 := by unfold fullC; rw [List.length_set, fullB_len]
theorem fullC_eq : fullC = fullB.take 4095 ++ [59] := by
  unfold fullC
  rw [List.set_eq_take_append_cons_drop, if_pos (by rw [fullB_len]; omega), List.drop_eq_nil_of_le (by rw [fullB_len]; omega)]
theorem fullC_mem : ∀ c ∈ fullC, c = 32 ∨ c = 43 ∨ c = 59 := by
  intro c hc
  rw [fullC_eq] at hc
  rcases List.mem_append.1 hc with h | h
  · exact fullB_mem c (List.mem_of_mem_take h)
  · simp at h; exact .inr (.inr h)
theorem fullC_count : fullC.countP (· != 32) = 513 := by
  rw [fullC_eq, List.countP_append, fullB_count']
  rfl
def fullD (n : Nat) : List UInt8 := fullC.set (2 * n) 32
theorem fullD_len (n : Nat) : (fullD n).length = 4096 := by unfold fullD; rw [List.length_set, fullC_len]
theorem fullD_mem (n : Nat) : ∀ c ∈ fullD n, c = 32 ∨ c = 43 ∨ c = 59 := by
  intro c hc
  rcases List.mem_or_eq_of_mem_set hc with h | h
  · exact fullC_mem c h
  · exact .inl h
theorem fullC_nth {j : Nat} (h : j < 4095) : fullC[j]? = some (fullF j) := by
  unfold fullC
  rw [List.getElem?_set_ne (by omega), fullB_nth j (by omega)]
theorem fullD_count {n : Nat} (h : n < 512) : (fullD n).countP (· != 32) = 512 := by
  unfold fullD
  have hl := fullC_len
  rw [List.countP_set (by omega), fullC_count]
  have h1 : fullC[2 * n]? = some 43 := by
    rw [fullC_nth (by omega)]
    unfold fullF
    rw [if_pos (by omega)]
  have h2 : fullC[2 * n]'(by omega) = 43 := (List.getElem?_eq_some_iff.1 h1).2
  rw [h2]
  rfl
theorem fullB_scan {s : ByteArray} (h : s.data.toList = fullB) : ∃ l, scanM s = .toks l ∧ l.length = 513 := by
  have hs : s.size = 4096 := by rw [← len_data, h, fullB_len]
  have ht := toks_of fullB 0 fullB_mem
  rw [← h] at ht
  have hn := toksOf_length fullB 0
  rw [fullB_count, ← h] at hn
  exact ⟨_, scanM_of (by omega) ht (by omega), by rw [List.length_append, hn]; rfl⟩
theorem fullC_scan {s : ByteArray} (h : s.data.toList = fullC) : scanM s = .err 5 4095 := by
  have hs : s.size = 4096 := by rw [← len_data, h, fullC_len]
  have ht := toks_of fullC 0 fullC_mem
  have e := toksOf_snoc (fullB.take 4095) 0
  rw [← fullC_eq] at e
  have hn := toksOf_length (fullB.take 4095) 0
  rw [fullB_count'] at hn
  rw [e, ← h] at ht
  have := scanM_full (by omega) ht hn
  rw [this, List.length_take, fullB_len]
  rfl
theorem fullD_scan {s : ByteArray} {n : Nat} (hn : n < 512) (h : s.data.toList = fullD n) : ∃ l, scanM s = .toks l := by
  have hs : s.size = 4096 := by rw [← len_data, h, fullD_len]
  have ht := toks_of (fullD n) 0 (fullD_mem n)
  rw [← h] at ht
  have hl := toksOf_length (fullD n) 0
  rw [fullD_count hn, ← h] at hl
  exact ⟨_, scanM_of (by omega) ht (by omega)⟩
end Go.Proofs.YtbiobefcagboeaaDoor
