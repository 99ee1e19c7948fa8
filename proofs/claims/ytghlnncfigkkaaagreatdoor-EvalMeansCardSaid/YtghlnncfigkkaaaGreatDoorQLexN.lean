/-
  Numerals in source texts, and the token at a place: plain functions and lemmas, no program.
-/
import Derived.Test.YtghlnncfigkkaaaGreatDoorQLexL
import Derived.Lib.ParseIntB
import Derived.Lib.Strings
namespace Go.Proofs.YtghlnncfigkkaaaGreatDoor
set_option linter.unusedVariables false
set_option linter.unusedSimpArgs false
open Go.RowKit
/-- What digits say, behind a number. -/
def decA : Nat → List UInt8 → Nat
  | a, [] => a
  | a, c :: r => decA (a * 10 + (c.toNat - 48)) r
def decV (l : List UInt8) : Nat := decA 0 l
theorem decA_ge (l : List UInt8) : ∀ a, a ≤ decA a l := by
  induction l with
  | nil => intro a; exact Nat.le_refl _
  | cons c r ih => intro a; have := ih (a * 10 + (c.toNat - 48)); unfold decA; omega
theorem decA_ge10 (c : UInt8) (r : List UInt8) (a : Nat) : a * 10 + (c.toNat - 48) ≤ decA a (c :: r) := by
  have := decA_ge r (a * 10 + (c.toNat - 48))
  unfold decA
  exact this
theorem decA_append (l : List UInt8) (c : UInt8) : ∀ a, decA a (l ++ [c]) = decA a l * 10 + (c.toNat - 48) := by
  induction l with
  | nil => intro a; rfl
  | cons d r ih => intro a; exact ih _
theorem decV_snoc (l : List UInt8) (c : UInt8) : decV (l ++ [c]) = decV l * 10 + (c.toNat - 48) := decA_append l c 0
theorem decA_take (l : List UInt8) : ∀ (a k : Nat), decA a (l.take k) ≤ decA a l := by
  induction l with
  | nil => intro a k; simp
  | cons c r ih =>
    intro a k
    cases k with
    | zero => exact decA_ge _ _
    | succ k => exact ih _ _
theorem digB_iff (c : UInt8) : digB c = true ↔ 48 ≤ c.toNat ∧ c.toNat ≤ 57 := by unfold digB; simp; omega
theorem parseM (l : List UInt8) : ∀ a, a < 18446744073709551616 → (∀ c ∈ l, digB c = true) →
    Lib.parseUintM (2 ^ 64 - 1) a l = if decA a l < 18446744073709551616 then .ok (decA a l) else .range := by
  induction l with
  | nil => intro a ha _; unfold Lib.parseUintM decA; rw [if_pos ha]
  | cons c r ih =>
    intro a ha hd
    have hc := (digB_iff c).1 (hd c (by simp))
    have hg := decA_ge10 c r a
    unfold Lib.parseUintM
    rw [if_pos hc]
    by_cases h1 : 1844674407370955162 ≤ a
    · rw [if_pos h1, if_neg (by omega)]
    · rw [if_neg h1]
      by_cases h2 : 2 ^ 64 - 1 < a * 10 + (c.toNat - 48)
      · rw [if_pos h2, if_neg (by omega)]
      · rw [if_neg h2, ih _ (by omega) (fun x hx => hd x (List.mem_cons_of_mem _ hx))]
        rfl
theorem parse_ok {l : List UInt8} (hne : l ≠ []) (hd : ∀ c ∈ l, digB c = true) (h : decV l < 18446744073709551616) : Lib.parseUintB 64 l = .ok (decV l) := by
  unfold Lib.parseUintB
  rw [if_neg hne, parseM l 0 (by omega) hd]
  exact if_pos h
theorem parse_range {l : List UInt8} (hne : l ≠ []) (hd : ∀ c ∈ l, digB c = true) (h : ¬ decV l < 18446744073709551616) : Lib.parseUintB 64 l = .range := by
  unfold Lib.parseUintB
  rw [if_neg hne, parseM l 0 (by omega) hd]
  exact if_neg h
/-- A span's bytes are of its kind. -/
theorem spanN_all (p : UInt8 → Bool) (l : List UInt8) : ∀ c ∈ l.take (spanN p l), p c = true := by
  induction l with
  | nil => intro c h; simp at h
  | cons x r ih =>
    intro c h
    unfold spanN at h
    split at h
    · rename_i hx
      rw [List.take_succ_cons] at h
      rcases List.mem_cons.1 h with e | e
      · rw [e]; exact hx
      · exact ih c e
    · simp at h
/-- The text of n bytes from place k on. -/
def textAt (s : ByteArray) (k n : Nat) : List UInt8 := (s.data.toList.drop k).take n
theorem spanAt_all (p : UInt8 → Bool) (s : ByteArray) (k : Nat) : ∀ c ∈ textAt s k (spanAt p s k), p c = true := by
  have h := spanN_all p (s.data.toList.drop k)
  unfold textAt
  have e : spanAt p s k = spanN p (s.data.toList.drop k) := by unfold spanAt; rfl
  rw [e]
  exact h
theorem textAt_length (s : ByteArray) {k n : Nat} (h : k + n ≤ s.size) : (textAt s k n).length = n := by
  unfold textAt
  rw [List.length_take, List.length_drop, len_data]
  omega
theorem textAt_extract (s : ByteArray) (k n : Nat) : (s.extract k (k + n)).data.toList = textAt s k n := by
  rw [Lib.extract_data]
  unfold textAt
  congr 1; omega
theorem textAt_nth (s : ByteArray) {k n i : Nat} (h : k + n ≤ s.size) (hi : i < n) : (textAt s k n)[i]? = some (s[k + i]'(by omega)) := by
  unfold textAt
  rw [List.getElem?_take, if_pos hi, List.getElem?_drop, List.getElem?_eq_getElem (by rw [len_data]; omega)]
  rfl
/-- Is a text a word of the language? -/
def wordB (l : List UInt8) : Bool := l == [105, 110, 112, 117, 116] || l == [108, 101, 116] || l == [111, 117, 116, 112, 117, 116] || l == [114, 101, 108, 117] || l == [115, 117, 109] || l == [97, 114, 103, 109, 97, 120] || l == [109, 97, 120] || l == [109, 117, 120]
/-- Is a byte a sign? -/
def signL : List UInt8 := [43, 45, 42, 64, 60, 61, 40, 41, 91, 93, 44, 59]
def signB (c : UInt8) : Bool := signL.contains c
/-- Does a letter stand at a place? -/
def letAt (s : ByteArray) (k : Nat) : Bool := if h : k < s.size then letB s[k] else false
/-- The token at a place: its kind, its length, its number; none: there is none. -/
def oneM (s : ByteArray) (k : Nat) : Option (Nat × Nat × Nat) :=
  if h : k < s.size then
    if digB s[k] then
      if decV (textAt s k (spanAt digB s k)) < 18446744073709551616 ∧ (s[k].toNat ≠ 48 ∨ spanAt digB s k = 1) ∧ letAt s (k + spanAt digB s k) = false then some (2, spanAt digB s k, decV (textAt s k (spanAt digB s k))) else none
    else if lowB s[k] then
      if spanAt namB s k ≤ 16 then some (if wordB (textAt s k (spanAt namB s k)) then 4 else 1, spanAt namB s k, 0) else none
    else if Lib.hasPrefix (s.data.toList.drop k) [62, 62] then some (3, 2, 0)
    else if signB s[k] then some (3, 1, 0) else none
  else none
end Go.Proofs.YtghlnncfigkkaaaGreatDoor
