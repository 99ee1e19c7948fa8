/-
  Source texts as tokens: the plain functions, no program.
-/
import Derived.Test.YtghlnncfigkkaaaGreatDoorQNum
import Derived.Lib.Bytealg
import Derived.Lib.IndexLaws
namespace Go.Proofs.YtghlnncfigkkaaaGreatDoor
set_option linter.unusedVariables false
set_option linter.unusedSimpArgs false
open Go.RowKit
def lowB (c : UInt8) : Bool := decide ((97 : Int) ≤ (c.toNat : Int)) && decide ((c.toNat : Int) ≤ 122)
def letB (c : UInt8) : Bool := (decide ((97 : Int) ≤ (c.toNat : Int)) && decide ((c.toNat : Int) ≤ 122)) || ((c.toNat : Int) == 95)
def digB (c : UInt8) : Bool := decide ((48 : Int) ≤ (c.toNat : Int)) && decide ((c.toNat : Int) ≤ 57)
def namB (c : UInt8) : Bool := letB c || digB c
def blankB (c : UInt8) : Bool := decide (c.toNat = 32 ∨ c.toNat = 10 ∨ c.toNat = 9 ∨ c.toNat = 13)
/-- How many bytes stand between tokens, from here on; 'true': within a remark. -/
def skipN : Bool → List UInt8 → Nat
  | _, [] => 0
  | true, c :: r => if c.toNat = 10 then skipN false r + 1 else skipN true r + 1
  | false, c :: r => if c.toNat = 35 then skipN true r + 1 else if blankB c then skipN false r + 1 else 0
theorem skipN_nil (b : Bool) : skipN b [] = 0 := by cases b <;> rfl
theorem skipN_le (l : List UInt8) : ∀ b, skipN b l ≤ l.length := by
  induction l with
  | nil => intro b; rw [skipN_nil]; simp
  | cons c r ih =>
    intro b
    have h1 := ih true
    have h2 := ih false
    cases b with
    | true => unfold skipN; simp only [List.length_cons]; split <;> omega
    | false => unfold skipN; simp only [List.length_cons]; split <;> (try split) <;> omega
theorem len_data (s : ByteArray) : s.data.toList.length = s.size := by rw [Array.length_toList]; rfl
/-- From place k on. -/
def skipAt (s : ByteArray) (b : Bool) (k : Nat) : Nat := k + skipN b (s.data.toList.drop k)
theorem skipAt_eq (s : ByteArray) (b : Bool) (k : Nat) : skipAt s b k = k + skipN b (s.data.toList.drop k) := rfl
theorem skipAt_le (s : ByteArray) (b : Bool) {k : Nat} (h : k ≤ s.size) : skipAt s b k ≤ s.size ∧ k ≤ skipAt s b k := by
  have := skipN_le (s.data.toList.drop k) b
  have hl := len_data s
  rw [List.length_drop, hl] at this
  unfold skipAt
  omega
theorem drop_at (s : ByteArray) {k : Nat} (h : k < s.size) : s.data.toList.drop k = s[k] :: s.data.toList.drop (k + 1) := by
  rw [List.drop_eq_getElem_cons (by rw [len_data]; exact h)]
  rfl
theorem skipAt_end (s : ByteArray) (b : Bool) : skipAt s b s.size = s.size := by
  unfold skipAt
  rw [List.drop_eq_nil_of_le (by rw [len_data]; exact Nat.le_refl _), skipN_nil]
  rfl
theorem skipAt_blank (s : ByteArray) {k : Nat} (h : k < s.size) (hc : (s[k].toNat : Int) = 32 ∨ (s[k].toNat : Int) = 10 ∨ (s[k].toNat : Int) = 9 ∨ (s[k].toNat : Int) = 13) : skipAt s false k = skipAt s false (k + 1) := by
  unfold skipAt
  rw [drop_at s h]
  have h1 : ¬ s[k].toNat = 35 := by omega
  have h2 : blankB s[k] = true := by unfold blankB; simp; omega
  rw [show skipN false (s[k] :: s.data.toList.drop (k + 1)) = skipN false (s.data.toList.drop (k + 1)) + 1 from by rw [skipN, if_neg h1, if_pos h2]]
  omega
theorem skipAt_stop (s : ByteArray) {k : Nat} (h : k < s.size) (h1 : (s[k].toNat : Int) ≠ 35) (hc : ¬ ((s[k].toNat : Int) = 32 ∨ (s[k].toNat : Int) = 10 ∨ (s[k].toNat : Int) = 9 ∨ (s[k].toNat : Int) = 13)) : skipAt s false k = k := by
  unfold skipAt
  rw [drop_at s h]
  have h1 : ¬ s[k].toNat = 35 := by omega
  have h2 : ¬ blankB s[k] = true := by unfold blankB; simp; omega
  rw [show skipN false (s[k] :: s.data.toList.drop (k + 1)) = 0 from by rw [skipN, if_neg h1, if_neg h2]]
  rfl
theorem skipAt_hash (s : ByteArray) {k : Nat} (h : k < s.size) (h1 : (s[k].toNat : Int) = 35) : skipAt s false k = skipAt s true (k + 1) ∧ skipAt s true k = skipAt s false k := by
  have h1' : s[k].toNat = 35 := by omega
  have e1 : skipN false (s[k] :: s.data.toList.drop (k + 1)) = skipN true (s.data.toList.drop (k + 1)) + 1 := by rw [skipN, if_pos h1']
  have e2 : skipN true (s[k] :: s.data.toList.drop (k + 1)) = skipN true (s.data.toList.drop (k + 1)) + 1 := by rw [skipN, if_neg (by omega)]
  unfold skipAt
  rw [drop_at s h, e1, e2]
  omega
theorem skipAt_rem (s : ByteArray) {k : Nat} (h : k < s.size) (h1 : (s[k].toNat : Int) ≠ 10) : skipAt s true k = skipAt s true (k + 1) := by
  have h1' : ¬ s[k].toNat = 10 := by omega
  unfold skipAt
  rw [drop_at s h, show skipN true (s[k] :: s.data.toList.drop (k + 1)) = skipN true (s.data.toList.drop (k + 1)) + 1 from by rw [skipN, if_neg h1']]
  omega
theorem skipAt_line (s : ByteArray) {k : Nat} (h : k < s.size) (h1 : (s[k].toNat : Int) = 10) : skipAt s true k = skipAt s false k := by
  have h1' : s[k].toNat = 10 := by omega
  have h2 : blankB s[k] = true := by unfold blankB; simp; omega
  unfold skipAt
  rw [drop_at s h, show skipN true (s[k] :: s.data.toList.drop (k + 1)) = skipN false (s.data.toList.drop (k + 1)) + 1 from by rw [skipN, if_pos h1'],
    show skipN false (s[k] :: s.data.toList.drop (k + 1)) = skipN false (s.data.toList.drop (k + 1)) + 1 from by rw [skipN, if_neg (by omega), if_pos h2]]
/-- A remark with no end of line. -/
theorem skipN_open : ∀ l : List UInt8, Lib.indexByte l 10 = -1 → skipN true l = l.length
  | [], _ => rfl
  | c :: r, h => by
    have hc : c.toNat ≠ 10 := by
      intro e
      have : c = 10 := UInt8.toNat_inj.1 e
      rw [this] at h
      simp [Lib.indexByte] at h
    have hr : Lib.indexByte r 10 = -1 := by
      have hb : (c == 10) = false := by rw [beq_eq_false_iff_ne]; rintro rfl; exact hc rfl
      unfold Lib.indexByte at h
      rw [hb] at h
      have hg := Lib.indexByte_ge r 10
      simp only [Bool.false_eq_true, if_false] at h
      split at h
      · rename_i hh; simpa using hh
      · omega
    rw [show skipN true (c :: r) = skipN true r + 1 from by rw [skipN, if_neg hc], skipN_open r hr]
    rfl
theorem skipN_shut : ∀ (l : List UInt8) (j : Nat), Lib.indexByte l 10 = j → skipN true l = j + skipN true (l.drop j)
  | [], j, h => by simp [Lib.indexByte] at h
  | c :: r, 0, h => by simp
  | c :: r, j + 1, h => by
    have hc : c.toNat ≠ 10 := by
      intro e
      have : c = 10 := UInt8.toNat_inj.1 e
      rw [this] at h
      simp [Lib.indexByte] at h
      omega
    have hr : Lib.indexByte r 10 = (j : Int) := by
      have hb : (c == 10) = false := by rw [beq_eq_false_iff_ne]; rintro rfl; exact hc rfl
      unfold Lib.indexByte at h
      rw [hb] at h
      simp only [Bool.false_eq_true, if_false] at h
      split at h <;> omega
    rw [show skipN true (c :: r) = skipN true r + 1 from by rw [skipN, if_neg hc], skipN_shut r j hr, List.drop_succ_cons]
    omega
attribute [irreducible] skipN
/-- How many bytes of a kind stand from here on. -/
def spanN (p : UInt8 → Bool) : List UInt8 → Nat
  | [] => 0
  | c :: r => if p c then spanN p r + 1 else 0
theorem spanN_le (p : UInt8 → Bool) (l : List UInt8) : spanN p l ≤ l.length := by
  induction l with
  | nil => exact Nat.le_refl _
  | cons c r ih => unfold spanN; split <;> simp <;> omega
def spanAt (p : UInt8 → Bool) (s : ByteArray) (k : Nat) : Nat := spanN p (s.data.toList.drop k)
theorem spanAt_le (p : UInt8 → Bool) (s : ByteArray) {k : Nat} (h : k ≤ s.size) : k + spanAt p s k ≤ s.size := by
  have := spanN_le p (s.data.toList.drop k)
  rw [List.length_drop, len_data] at this
  unfold spanAt
  omega
theorem spanAt_yes (p : UInt8 → Bool) (s : ByteArray) {k : Nat} (h : k < s.size) (hp : p s[k] = true) : spanAt p s k = spanAt p s (k + 1) + 1 := by
  unfold spanAt
  rw [drop_at s h, spanN, if_pos hp]
theorem spanAt_no (p : UInt8 → Bool) (s : ByteArray) {k : Nat} (h : k < s.size) (hp : p s[k] = false) : spanAt p s k = 0 := by
  unfold spanAt
  rw [drop_at s h, spanN, if_neg (by rw [hp]; simp)]
theorem spanAt_end (p : UInt8 → Bool) (s : ByteArray) : spanAt p s s.size = 0 := by
  unfold spanAt
  rw [List.drop_eq_nil_of_le (by rw [len_data]; exact Nat.le_refl _)]
  rfl
attribute [irreducible] skipAt spanAt
end Go.Proofs.YtghlnncfigkkaaaGreatDoor
