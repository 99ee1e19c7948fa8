/-
  The texts of the law EvalMost: what they evaluate to. No program but the texts. The walk of the law EvalMost. The law EvalMost: for every input the call returns true, and each argument reads as it read before; the six listed variables tied to the program's text. The frame round its walk; written by a program of mine (mkdoorl.py).
-/
import Derived.Test.YtghlnncfigkkaaaGreatDoorQEvAT
import Derived.Test.YtghlnncfigkkaaaGreatDoorQOpen
import Derived.Test.YtghlnncfigkkaaaGreatDoorTie
import Derived.Test.YtghlnncfigkkaaaGreatDoorCards
import Derived.SevenTiedAt
namespace Go.Proofs.YtghlnncfigkkaaaGreatDoor
set_option linter.unusedVariables false
set_option linter.unusedSimpArgs false
open Go.RowKit
def lessE (a b : UInt64) : UInt64 := if sltW a b then 1 else 0
def maxE (a b : UInt64) : UInt64 := if sltW a b then b else a
def reluE (a : UInt64) : UInt64 := if sltW a 0 then 0 else a
def muxE (c a b : UInt64) : UInt64 := if andW c 1 = 1 then a else b
theorem slt_iff (a b : UInt64) : sltW a b = true ↔ sI a < sI b := by unfold sltW; exact decide_eq_true_iff
theorem relu_max (a : UInt64) : reluE a = maxE a (UInt64.ofNat 0) := by rw [show UInt64.ofNat 0 = 0 from rfl]; rfl
theorem max_comm' (a b : UInt64) : maxE a b = maxE b a := by
  unfold maxE
  have h1 := slt_iff a b
  have h2 := slt_iff b a
  by_cases k1 : sltW a b = true
  · by_cases k2 : sltW b a = true
    · have := h1.1 k1; have := h2.1 k2; omega
    · rw [if_pos k1, if_neg k2]
  · by_cases k2 : sltW b a = true
    · rw [if_neg k1, if_pos k2]
    · rw [if_neg k1, if_neg k2]
      apply sI_inj
      have n1 : ¬ sI a < sI b := fun h => k1 (h1.2 h)
      have n2 : ¬ sI b < sI a := fun h => k2 (h2.2 h)
      omega
theorem and11 : andW 1 1 = 1 := by unfold andW; decide
theorem and01 : andW 0 1 = 0 := by unfold andW; decide
theorem mux_max (a b : UInt64) : muxE (lessE a b) b a = maxE a b := by
  unfold muxE lessE maxE
  cases sltW a b with
  | true => show (if andW 1 1 = 1 then b else a) = b; rw [if_pos and11]
  | false => show (if andW 0 1 = 1 then b else a) = a; rw [and01, if_neg (by decide)]
theorem less_both (a b : UInt64) : mulW (lessE a b) (lessE b a) = subW a a := by
  have e : subW a a = 0 := by unfold subW; simp
  rw [e]
  unfold lessE
  have h1 := slt_iff a b
  have h2 := slt_iff b a
  by_cases k1 : sltW a b = true
  · by_cases k2 : sltW b a = true
    · have := h1.1 k1; have := h2.1 k2; omega
    · rw [if_neg k2]; unfold mulW; simp
  · rw [if_neg k1]; unfold mulW; simp
/-- argmax: the first of the greatest. -/
theorem argGo_inv (l : List UInt64) : ∀ (n k best : Nat), n + k = l.length → best < l.length → (∀ i, i < k → sI (nthW l i) ≤ sI (nthW l best)) → (∀ i, i < k → i < best → sI (nthW l i) < sI (nthW l best)) → (k ≤ best → best = 0) →
    argGo l n best < l.length ∧ (∀ i, i < l.length → sI (nthW l i) ≤ sI (nthW l (argGo l n best))) ∧ ∀ i, i < argGo l n best → sI (nthW l i) < sI (nthW l (argGo l n best))
  | 0, k, best, hk, hb, h1, h2, h3 => by
    have e : k = l.length := by omega
    subst e
    refine ⟨hb, h1, fun i hi => ?_⟩
    have hi' : i < best := hi
    exact h2 i (by omega) hi'
  | n + 1, k, best, hk, hb, h1, h2, h3 => by
    have e : l.length - (n + 1) = k := by omega
    show argGo l n (if sltW (nthW l best) (nthW l (l.length - (n + 1))) then l.length - (n + 1) else best) < l.length ∧ (∀ i, i < l.length → sI (nthW l i) ≤ sI (nthW l (argGo l n (if sltW (nthW l best) (nthW l (l.length - (n + 1))) then l.length - (n + 1) else best)))) ∧ ∀ i, i < argGo l n (if sltW (nthW l best) (nthW l (l.length - (n + 1))) then l.length - (n + 1) else best) → sI (nthW l i) < sI (nthW l (argGo l n (if sltW (nthW l best) (nthW l (l.length - (n + 1))) then l.length - (n + 1) else best)))
    rw [e]
    by_cases hs : sltW (nthW l best) (nthW l k) = true
    · rw [if_pos hs]
      have hs' := (slt_iff _ _).1 hs
      refine argGo_inv l n (k + 1) k (by omega) (by omega) (fun i hi => ?_) (fun i hi hi2 => ?_) (by omega)
      · by_cases hik : i = k
        · subst hik; omega
        · have := h1 i (by omega); omega
      · have := h1 i hi2; omega
    · rw [if_neg hs]
      have hs' : ¬ sI (nthW l best) < sI (nthW l k) := fun h => hs ((slt_iff _ _).2 h)
      refine argGo_inv l n (k + 1) best (by omega) hb (fun i hi => ?_) (fun i hi hi2 => ?_) (fun h => h3 (by omega))
      · by_cases hik : i = k
        · subst hik; omega
        · exact h1 i (by omega)
      · by_cases hik : i = k
        · subst hik
          have := h3 (by omega)
          omega
        · exact h2 i (by omega) hi2
theorem argP_first (l : List UInt64) (h : 0 < l.length) : argP l < l.length ∧ (∀ i, i < l.length → sI (nthW l i) ≤ sI (nthW l (argP l))) ∧ ∀ i, i < argP l → sI (nthW l i) < sI (nthW l (argP l)) :=
  argGo_inv l l.length 0 0 (by omega) h (fun i hi => absurd hi (by omega)) (fun i hi => absurd hi (by omega)) (fun _ => rfl)
def evmA : ByteArray := ⟨#[105, 110, 112, 117, 116, 32, 48, 32, 120, 32, 91, 52, 93, 59, 32, 105, 110, 112, 117, 116, 32, 49, 32, 121, 32, 91, 52, 93, 59, 32]⟩
theorem fill_4 (a : List UInt64) : fillP [[4]] a 0 = [⟨[4], [fillAt a 0, fillAt a 1, fillAt a 2, fillAt a 3]⟩] := rfl
def evm1a : ByteArray := runS evmA ⟨#[114, 101, 108, 117, 40, 120, 41]⟩
theorem evm1a_ok : TxtOk evm1a := ⟨by decide, by kernel_rfl, Nat.le_of_ble_eq_true (by kernel_rfl), by kernel_rfl, Nat.le_of_ble_eq_true (by kernel_rfl), Nat.le_of_ble_eq_true (by kernel_rfl), by kernel_rfl, by kernel_rfl, Nat.le_of_ble_eq_true (by kernel_rfl)⟩
def evm1a_t (a0 a1 a2 a3 b0 b1 b2 b3 : UInt64) : TN := ⟨[4], [(reluE a0), (reluE a1), (reluE a2), (reluE a3)]⟩
theorem evm1a_e0 (a0 a1 a2 a3 b0 b1 b2 b3 : UInt64) : evalE (ssE evm1a) (esE evm1a) [⟨[4], [a0, a1, a2, a3]⟩] [⟨[4], [b0, b1, b2, b3]⟩] = .inl [evm1a_t a0 a1 a2 a3 b0 b1 b2 b3] := by kernel_rfl
theorem evm1a_ev (a b : List UInt64) : evalE (ssE evm1a) (esE evm1a) (fillP (inputsC (ssE evm1a) 0) a 0) (fillP (inputsC (ssE evm1a) 1) b 0) = .inl [evm1a_t (fillAt a 0) (fillAt a 1) (fillAt a 2) (fillAt a 3) (fillAt b 0) (fillAt b 1) (fillAt b 2) (fillAt b 3)] := by
  rw [show inputsC (ssE evm1a) 0 = [[4]] by kernel_rfl, show inputsC (ssE evm1a) 1 = [[4]] by kernel_rfl, fill_4, fill_4]
  exact evm1a_e0 _ _ _ _ _ _ _ _
def evm1b : ByteArray := runS evmA ⟨#[109, 97, 120, 40, 120, 44, 32, 48, 41]⟩
theorem evm1b_ok : TxtOk evm1b := ⟨by decide, by kernel_rfl, Nat.le_of_ble_eq_true (by kernel_rfl), by kernel_rfl, Nat.le_of_ble_eq_true (by kernel_rfl), Nat.le_of_ble_eq_true (by kernel_rfl), by kernel_rfl, by kernel_rfl, Nat.le_of_ble_eq_true (by kernel_rfl)⟩
def evm1b_t (a0 a1 a2 a3 b0 b1 b2 b3 : UInt64) : TN := ⟨[4], [(maxE a0 (UInt64.ofNat 0)), (maxE a1 (UInt64.ofNat 0)), (maxE a2 (UInt64.ofNat 0)), (maxE a3 (UInt64.ofNat 0))]⟩
theorem evm1b_e0 (a0 a1 a2 a3 b0 b1 b2 b3 : UInt64) : evalE (ssE evm1b) (esE evm1b) [⟨[4], [a0, a1, a2, a3]⟩] [⟨[4], [b0, b1, b2, b3]⟩] = .inl [evm1b_t a0 a1 a2 a3 b0 b1 b2 b3] := by kernel_rfl
theorem evm1b_ev (a b : List UInt64) : evalE (ssE evm1b) (esE evm1b) (fillP (inputsC (ssE evm1b) 0) a 0) (fillP (inputsC (ssE evm1b) 1) b 0) = .inl [evm1b_t (fillAt a 0) (fillAt a 1) (fillAt a 2) (fillAt a 3) (fillAt b 0) (fillAt b 1) (fillAt b 2) (fillAt b 3)] := by
  rw [show inputsC (ssE evm1b) 0 = [[4]] by kernel_rfl, show inputsC (ssE evm1b) 1 = [[4]] by kernel_rfl, fill_4, fill_4]
  exact evm1b_e0 _ _ _ _ _ _ _ _
theorem evm1_eq (a0 a1 a2 a3 b0 b1 b2 b3 : UInt64) : (evm1a_t a0 a1 a2 a3 b0 b1 b2 b3).el = (evm1b_t a0 a1 a2 a3 b0 b1 b2 b3).el := by
  unfold evm1a_t evm1b_t
  simp only [List.cons.injEq, and_true]
  exact ⟨relu_max a0, relu_max a1, relu_max a2, relu_max a3⟩
def evm2a : ByteArray := runS evmA ⟨#[109, 97, 120, 40, 120, 44, 32, 121, 41]⟩
theorem evm2a_ok : TxtOk evm2a := ⟨by decide, by kernel_rfl, Nat.le_of_ble_eq_true (by kernel_rfl), by kernel_rfl, Nat.le_of_ble_eq_true (by kernel_rfl), Nat.le_of_ble_eq_true (by kernel_rfl), by kernel_rfl, by kernel_rfl, Nat.le_of_ble_eq_true (by kernel_rfl)⟩
def evm2a_t (a0 a1 a2 a3 b0 b1 b2 b3 : UInt64) : TN := ⟨[4], [(maxE a0 b0), (maxE a1 b1), (maxE a2 b2), (maxE a3 b3)]⟩
theorem evm2a_e0 (a0 a1 a2 a3 b0 b1 b2 b3 : UInt64) : evalE (ssE evm2a) (esE evm2a) [⟨[4], [a0, a1, a2, a3]⟩] [⟨[4], [b0, b1, b2, b3]⟩] = .inl [evm2a_t a0 a1 a2 a3 b0 b1 b2 b3] := by kernel_rfl
theorem evm2a_ev (a b : List UInt64) : evalE (ssE evm2a) (esE evm2a) (fillP (inputsC (ssE evm2a) 0) a 0) (fillP (inputsC (ssE evm2a) 1) b 0) = .inl [evm2a_t (fillAt a 0) (fillAt a 1) (fillAt a 2) (fillAt a 3) (fillAt b 0) (fillAt b 1) (fillAt b 2) (fillAt b 3)] := by
  rw [show inputsC (ssE evm2a) 0 = [[4]] by kernel_rfl, show inputsC (ssE evm2a) 1 = [[4]] by kernel_rfl, fill_4, fill_4]
  exact evm2a_e0 _ _ _ _ _ _ _ _
def evm2b : ByteArray := runS evmA ⟨#[109, 97, 120, 40, 121, 44, 32, 120, 41]⟩
theorem evm2b_ok : TxtOk evm2b := ⟨by decide, by kernel_rfl, Nat.le_of_ble_eq_true (by kernel_rfl), by kernel_rfl, Nat.le_of_ble_eq_true (by kernel_rfl), Nat.le_of_ble_eq_true (by kernel_rfl), by kernel_rfl, by kernel_rfl, Nat.le_of_ble_eq_true (by kernel_rfl)⟩
def evm2b_t (a0 a1 a2 a3 b0 b1 b2 b3 : UInt64) : TN := ⟨[4], [(maxE b0 a0), (maxE b1 a1), (maxE b2 a2), (maxE b3 a3)]⟩
theorem evm2b_e0 (a0 a1 a2 a3 b0 b1 b2 b3 : UInt64) : evalE (ssE evm2b) (esE evm2b) [⟨[4], [a0, a1, a2, a3]⟩] [⟨[4], [b0, b1, b2, b3]⟩] = .inl [evm2b_t a0 a1 a2 a3 b0 b1 b2 b3] := by kernel_rfl
theorem evm2b_ev (a b : List UInt64) : evalE (ssE evm2b) (esE evm2b) (fillP (inputsC (ssE evm2b) 0) a 0) (fillP (inputsC (ssE evm2b) 1) b 0) = .inl [evm2b_t (fillAt a 0) (fillAt a 1) (fillAt a 2) (fillAt a 3) (fillAt b 0) (fillAt b 1) (fillAt b 2) (fillAt b 3)] := by
  rw [show inputsC (ssE evm2b) 0 = [[4]] by kernel_rfl, show inputsC (ssE evm2b) 1 = [[4]] by kernel_rfl, fill_4, fill_4]
  exact evm2b_e0 _ _ _ _ _ _ _ _
theorem evm2_eq (a0 a1 a2 a3 b0 b1 b2 b3 : UInt64) : (evm2a_t a0 a1 a2 a3 b0 b1 b2 b3).el = (evm2b_t a0 a1 a2 a3 b0 b1 b2 b3).el := by
  unfold evm2a_t evm2b_t
  simp only [List.cons.injEq, and_true]
  exact ⟨max_comm' a0 b0, max_comm' a1 b1, max_comm' a2 b2, max_comm' a3 b3⟩
def evm3a : ByteArray := runS evmA ⟨#[109, 117, 120, 40, 120, 32, 60, 32, 121, 44, 32, 121, 44, 32, 120, 41]⟩
theorem evm3a_ok : TxtOk evm3a := ⟨by decide, by kernel_rfl, Nat.le_of_ble_eq_true (by kernel_rfl), by kernel_rfl, Nat.le_of_ble_eq_true (by kernel_rfl), Nat.le_of_ble_eq_true (by kernel_rfl), by kernel_rfl, by kernel_rfl, Nat.le_of_ble_eq_true (by kernel_rfl)⟩
def evm3a_t (a0 a1 a2 a3 b0 b1 b2 b3 : UInt64) : TN := ⟨[4], [(muxE (lessE a0 b0) b0 a0), (muxE (lessE a1 b1) b1 a1), (muxE (lessE a2 b2) b2 a2), (muxE (lessE a3 b3) b3 a3)]⟩
theorem evm3a_e0 (a0 a1 a2 a3 b0 b1 b2 b3 : UInt64) : evalE (ssE evm3a) (esE evm3a) [⟨[4], [a0, a1, a2, a3]⟩] [⟨[4], [b0, b1, b2, b3]⟩] = .inl [evm3a_t a0 a1 a2 a3 b0 b1 b2 b3] := by kernel_rfl
theorem evm3a_ev (a b : List UInt64) : evalE (ssE evm3a) (esE evm3a) (fillP (inputsC (ssE evm3a) 0) a 0) (fillP (inputsC (ssE evm3a) 1) b 0) = .inl [evm3a_t (fillAt a 0) (fillAt a 1) (fillAt a 2) (fillAt a 3) (fillAt b 0) (fillAt b 1) (fillAt b 2) (fillAt b 3)] := by
  rw [show inputsC (ssE evm3a) 0 = [[4]] by kernel_rfl, show inputsC (ssE evm3a) 1 = [[4]] by kernel_rfl, fill_4, fill_4]
  exact evm3a_e0 _ _ _ _ _ _ _ _
def evm3b : ByteArray := runS evmA ⟨#[109, 97, 120, 40, 120, 44, 32, 121, 41]⟩
theorem evm3b_ok : TxtOk evm3b := ⟨by decide, by kernel_rfl, Nat.le_of_ble_eq_true (by kernel_rfl), by kernel_rfl, Nat.le_of_ble_eq_true (by kernel_rfl), Nat.le_of_ble_eq_true (by kernel_rfl), by kernel_rfl, by kernel_rfl, Nat.le_of_ble_eq_true (by kernel_rfl)⟩
def evm3b_t (a0 a1 a2 a3 b0 b1 b2 b3 : UInt64) : TN := ⟨[4], [(maxE a0 b0), (maxE a1 b1), (maxE a2 b2), (maxE a3 b3)]⟩
theorem evm3b_e0 (a0 a1 a2 a3 b0 b1 b2 b3 : UInt64) : evalE (ssE evm3b) (esE evm3b) [⟨[4], [a0, a1, a2, a3]⟩] [⟨[4], [b0, b1, b2, b3]⟩] = .inl [evm3b_t a0 a1 a2 a3 b0 b1 b2 b3] := by kernel_rfl
theorem evm3b_ev (a b : List UInt64) : evalE (ssE evm3b) (esE evm3b) (fillP (inputsC (ssE evm3b) 0) a 0) (fillP (inputsC (ssE evm3b) 1) b 0) = .inl [evm3b_t (fillAt a 0) (fillAt a 1) (fillAt a 2) (fillAt a 3) (fillAt b 0) (fillAt b 1) (fillAt b 2) (fillAt b 3)] := by
  rw [show inputsC (ssE evm3b) 0 = [[4]] by kernel_rfl, show inputsC (ssE evm3b) 1 = [[4]] by kernel_rfl, fill_4, fill_4]
  exact evm3b_e0 _ _ _ _ _ _ _ _
theorem evm3_eq (a0 a1 a2 a3 b0 b1 b2 b3 : UInt64) : (evm3a_t a0 a1 a2 a3 b0 b1 b2 b3).el = (evm3b_t a0 a1 a2 a3 b0 b1 b2 b3).el := by
  unfold evm3a_t evm3b_t
  simp only [List.cons.injEq, and_true]
  exact ⟨mux_max a0 b0, mux_max a1 b1, mux_max a2 b2, mux_max a3 b3⟩
def evm4a : ByteArray := runS evmA ⟨#[120, 32, 62, 62, 32, 51, 32, 62, 62, 32, 52]⟩
theorem evm4a_ok : TxtOk evm4a := ⟨by decide, by kernel_rfl, Nat.le_of_ble_eq_true (by kernel_rfl), by kernel_rfl, Nat.le_of_ble_eq_true (by kernel_rfl), Nat.le_of_ble_eq_true (by kernel_rfl), by kernel_rfl, by kernel_rfl, Nat.le_of_ble_eq_true (by kernel_rfl)⟩
def evm4a_t (a0 a1 a2 a3 b0 b1 b2 b3 : UInt64) : TN := ⟨[4], [(sarW (sarW a0 3) 4), (sarW (sarW a1 3) 4), (sarW (sarW a2 3) 4), (sarW (sarW a3 3) 4)]⟩
theorem evm4a_e0 (a0 a1 a2 a3 b0 b1 b2 b3 : UInt64) : evalE (ssE evm4a) (esE evm4a) [⟨[4], [a0, a1, a2, a3]⟩] [⟨[4], [b0, b1, b2, b3]⟩] = .inl [evm4a_t a0 a1 a2 a3 b0 b1 b2 b3] := by kernel_rfl
theorem evm4a_ev (a b : List UInt64) : evalE (ssE evm4a) (esE evm4a) (fillP (inputsC (ssE evm4a) 0) a 0) (fillP (inputsC (ssE evm4a) 1) b 0) = .inl [evm4a_t (fillAt a 0) (fillAt a 1) (fillAt a 2) (fillAt a 3) (fillAt b 0) (fillAt b 1) (fillAt b 2) (fillAt b 3)] := by
  rw [show inputsC (ssE evm4a) 0 = [[4]] by kernel_rfl, show inputsC (ssE evm4a) 1 = [[4]] by kernel_rfl, fill_4, fill_4]
  exact evm4a_e0 _ _ _ _ _ _ _ _
def evm4b : ByteArray := runS evmA ⟨#[120, 32, 62, 62, 32, 55]⟩
theorem evm4b_ok : TxtOk evm4b := ⟨by decide, by kernel_rfl, Nat.le_of_ble_eq_true (by kernel_rfl), by kernel_rfl, Nat.le_of_ble_eq_true (by kernel_rfl), Nat.le_of_ble_eq_true (by kernel_rfl), by kernel_rfl, by kernel_rfl, Nat.le_of_ble_eq_true (by kernel_rfl)⟩
def evm4b_t (a0 a1 a2 a3 b0 b1 b2 b3 : UInt64) : TN := ⟨[4], [(sarW a0 7), (sarW a1 7), (sarW a2 7), (sarW a3 7)]⟩
theorem evm4b_e0 (a0 a1 a2 a3 b0 b1 b2 b3 : UInt64) : evalE (ssE evm4b) (esE evm4b) [⟨[4], [a0, a1, a2, a3]⟩] [⟨[4], [b0, b1, b2, b3]⟩] = .inl [evm4b_t a0 a1 a2 a3 b0 b1 b2 b3] := by kernel_rfl
theorem evm4b_ev (a b : List UInt64) : evalE (ssE evm4b) (esE evm4b) (fillP (inputsC (ssE evm4b) 0) a 0) (fillP (inputsC (ssE evm4b) 1) b 0) = .inl [evm4b_t (fillAt a 0) (fillAt a 1) (fillAt a 2) (fillAt a 3) (fillAt b 0) (fillAt b 1) (fillAt b 2) (fillAt b 3)] := by
  rw [show inputsC (ssE evm4b) 0 = [[4]] by kernel_rfl, show inputsC (ssE evm4b) 1 = [[4]] by kernel_rfl, fill_4, fill_4]
  exact evm4b_e0 _ _ _ _ _ _ _ _
theorem evm4_eq (a0 a1 a2 a3 b0 b1 b2 b3 : UInt64) : (evm4a_t a0 a1 a2 a3 b0 b1 b2 b3).el = (evm4b_t a0 a1 a2 a3 b0 b1 b2 b3).el := by
  unfold evm4a_t evm4b_t
  simp only [List.cons.injEq, and_true]
  exact ⟨sar_sar a0 3 4, sar_sar a1 3 4, sar_sar a2 3 4, sar_sar a3 3 4⟩
def evm5a : ByteArray := runS evmA ⟨#[40, 120, 32, 60, 32, 121, 41, 32, 42, 32, 40, 121, 32, 60, 32, 120, 41]⟩
theorem evm5a_ok : TxtOk evm5a := ⟨by decide, by kernel_rfl, Nat.le_of_ble_eq_true (by kernel_rfl), by kernel_rfl, Nat.le_of_ble_eq_true (by kernel_rfl), Nat.le_of_ble_eq_true (by kernel_rfl), by kernel_rfl, by kernel_rfl, Nat.le_of_ble_eq_true (by kernel_rfl)⟩
def evm5a_t (a0 a1 a2 a3 b0 b1 b2 b3 : UInt64) : TN := ⟨[4], [(mulW (lessE a0 b0) (lessE b0 a0)), (mulW (lessE a1 b1) (lessE b1 a1)), (mulW (lessE a2 b2) (lessE b2 a2)), (mulW (lessE a3 b3) (lessE b3 a3))]⟩
theorem evm5a_e0 (a0 a1 a2 a3 b0 b1 b2 b3 : UInt64) : evalE (ssE evm5a) (esE evm5a) [⟨[4], [a0, a1, a2, a3]⟩] [⟨[4], [b0, b1, b2, b3]⟩] = .inl [evm5a_t a0 a1 a2 a3 b0 b1 b2 b3] := by kernel_rfl
theorem evm5a_ev (a b : List UInt64) : evalE (ssE evm5a) (esE evm5a) (fillP (inputsC (ssE evm5a) 0) a 0) (fillP (inputsC (ssE evm5a) 1) b 0) = .inl [evm5a_t (fillAt a 0) (fillAt a 1) (fillAt a 2) (fillAt a 3) (fillAt b 0) (fillAt b 1) (fillAt b 2) (fillAt b 3)] := by
  rw [show inputsC (ssE evm5a) 0 = [[4]] by kernel_rfl, show inputsC (ssE evm5a) 1 = [[4]] by kernel_rfl, fill_4, fill_4]
  exact evm5a_e0 _ _ _ _ _ _ _ _
def evm5b : ByteArray := runS evmA ⟨#[120, 32, 45, 32, 120]⟩
theorem evm5b_ok : TxtOk evm5b := ⟨by decide, by kernel_rfl, Nat.le_of_ble_eq_true (by kernel_rfl), by kernel_rfl, Nat.le_of_ble_eq_true (by kernel_rfl), Nat.le_of_ble_eq_true (by kernel_rfl), by kernel_rfl, by kernel_rfl, Nat.le_of_ble_eq_true (by kernel_rfl)⟩
def evm5b_t (a0 a1 a2 a3 b0 b1 b2 b3 : UInt64) : TN := ⟨[4], [(subW a0 a0), (subW a1 a1), (subW a2 a2), (subW a3 a3)]⟩
theorem evm5b_e0 (a0 a1 a2 a3 b0 b1 b2 b3 : UInt64) : evalE (ssE evm5b) (esE evm5b) [⟨[4], [a0, a1, a2, a3]⟩] [⟨[4], [b0, b1, b2, b3]⟩] = .inl [evm5b_t a0 a1 a2 a3 b0 b1 b2 b3] := by kernel_rfl
theorem evm5b_ev (a b : List UInt64) : evalE (ssE evm5b) (esE evm5b) (fillP (inputsC (ssE evm5b) 0) a 0) (fillP (inputsC (ssE evm5b) 1) b 0) = .inl [evm5b_t (fillAt a 0) (fillAt a 1) (fillAt a 2) (fillAt a 3) (fillAt b 0) (fillAt b 1) (fillAt b 2) (fillAt b 3)] := by
  rw [show inputsC (ssE evm5b) 0 = [[4]] by kernel_rfl, show inputsC (ssE evm5b) 1 = [[4]] by kernel_rfl, fill_4, fill_4]
  exact evm5b_e0 _ _ _ _ _ _ _ _
theorem evm5_eq (a0 a1 a2 a3 b0 b1 b2 b3 : UInt64) : (evm5a_t a0 a1 a2 a3 b0 b1 b2 b3).el = (evm5b_t a0 a1 a2 a3 b0 b1 b2 b3).el := by
  unfold evm5a_t evm5b_t
  simp only [List.cons.injEq, and_true]
  exact ⟨less_both a0 b0, less_both a1 b1, less_both a2 b2, less_both a3 b3⟩
def evm6 : ByteArray := evmA ++ ⟨#[108, 101, 116, 32, 113, 32, 61, 32, 97, 114, 103, 109, 97, 120, 40, 120, 41, 59, 32, 111, 117, 116, 112, 117, 116, 32, 113, 59]⟩
theorem evm6_ok : TxtOk evm6 := ⟨by decide, by kernel_rfl, Nat.le_of_ble_eq_true (by kernel_rfl), by kernel_rfl, Nat.le_of_ble_eq_true (by kernel_rfl), Nat.le_of_ble_eq_true (by kernel_rfl), by kernel_rfl, by kernel_rfl, Nat.le_of_ble_eq_true (by kernel_rfl)⟩
def evm6_t (a0 a1 a2 a3 b0 b1 b2 b3 : UInt64) : TN := ⟨[], [(UInt64.ofNat (argP [a0, a1, a2, a3]))]⟩
theorem evm6_e0 (a0 a1 a2 a3 b0 b1 b2 b3 : UInt64) : evalE (ssE evm6) (esE evm6) [⟨[4], [a0, a1, a2, a3]⟩] [⟨[4], [b0, b1, b2, b3]⟩] = .inl [evm6_t a0 a1 a2 a3 b0 b1 b2 b3] := by kernel_rfl
theorem evm6_ev (a b : List UInt64) : evalE (ssE evm6) (esE evm6) (fillP (inputsC (ssE evm6) 0) a 0) (fillP (inputsC (ssE evm6) 1) b 0) = .inl [evm6_t (fillAt a 0) (fillAt a 1) (fillAt a 2) (fillAt a 3) (fillAt b 0) (fillAt b 1) (fillAt b 2) (fillAt b 3)] := by
  rw [show inputsC (ssE evm6) 0 = [[4]] by kernel_rfl, show inputsC (ssE evm6) 1 = [[4]] by kernel_rfl, fill_4, fill_4]
  exact evm6_e0 _ _ _ _ _ _ _ _
end Go.Proofs.YtghlnncfigkkaaaGreatDoor
namespace Go.Proofs.YtghlnncfigkkaaaGreatDoor
set_option linter.unusedVariables false
set_option linter.unusedSimpArgs false
open Go.RowKit
attribute [local go_sem ↓] i64_u64 slt_eq u64_beq u64_bne
theorem rdsh_four (w : World) : RdSh ((w.alloc (.cells #[.int .i64 4] 3)).alloc (.cells #[.slice (some ⟨w.heap.size, 0, none⟩) 1 1] 41)) (some ⟨w.heap.size + 1, 0, none⟩) [[4]] := by
  have h0 := heap_alloc_new w (.cells #[.int .i64 4] 3)
  obtain ⟨w1, hw1⟩ : ∃ w1, w1 = w.alloc (.cells #[.int .i64 4] 3) := ⟨_, rfl⟩
  rw [← hw1] at h0 ⊢
  have e1 : w1.heap.size = w.heap.size + 1 := by rw [hw1]; simp
  have h1 := heap_alloc_new w1 (.cells #[.slice (some ⟨w.heap.size, 0, none⟩) 1 1] 41)
  have hb : Below w1.heap.size w1 (w1.alloc (.cells #[.slice (some ⟨w.heap.size, 0, none⟩) 1 1] 41)) := (Below.refl _ _).alloc (Nat.le_refl _) _
  rw [e1] at h1
  have h2 := (hb.block w.heap.size (by omega)).trans h0
  refine .inr ⟨_, 0, rfl, (Array.getElem?_eq_some_iff.1 h1).1, fun j s hj => ?_⟩
  match j, hj with
  | 0, hj =>
    injection hj with hj
    subst hj
    exact ⟨_, 1, cell_of_row _ _ 0 _ _ _ h1, .inr ⟨_, 0, rfl, (Array.getElem?_eq_some_iff.1 h2).1, fun k v hk => by
      match k, hk with
      | 0, hk => injection hk with hk; subst hk; exact cell_of_row _ _ 0 _ _ _ h2
      | k + 1, hk => simp at hk⟩, by decide⟩
  | j + 1, hj => simp at hj
set_option maxRecDepth 100000 in
set_option maxHeartbeats 4000000 in
theorem EvalMost_walk (w : World) (hg : ETyped w) (ht : ErrT w) (A : Option Addr) (c : Nat) (l : List UInt64) (hlc : l.length ≤ c) (hcm : c ≤ 17592186043904) (hA : Rd w w.heap.size A (l.map U))
    (A' : Option Addr) (c' : Nat) (l' : List UInt64) (hlc' : l'.length ≤ c') (hcm' : c' ≤ 17592186043904) (hA' : Rd w w.heap.size A' (l'.map U)) :
    Calls Tryz.prog 7 #[.slice A l.length c, .slice A' l'.length c'] w fun e w' => e = .returned (.bool true) ∧ Below w.heap.size w w' := by
  obtain ⟨n, hn⟩ : ∃ n, n = l.length := ⟨_, rfl⟩
  obtain ⟨n', hn'⟩ : ∃ n, n = l'.length := ⟨_, rfl⟩
  rw [← hn, ← hn']
  have b1 : n ≤ 9223372036854775807 := by omega
  have b2 : n' ≤ 9223372036854775807 := by omega
  have H1 := Lib.hid (fun W (hW : Below w.heap.size w W) => alike_any evmA ⟨#[114, 101, 108, 117, 40, 120, 41]⟩ ⟨#[109, 97, 120, 40, 120, 44, 32, 48, 41]⟩ evm1a_ok evm1b_ok (by decide) (by decide) (by decide) A A' n n' c c' l l' _ _ W (hg.next hW) (ht.next hW) hn hn' b1 b2 (hA.next hW) (hA'.next hW) (evm1a_ev l l') (evm1b_ev l l') (evm1_eq _ _ _ _ _ _ _ _) (Nat.le_of_ble_eq_true (by kernel_rfl)))
  have H2 := Lib.hid (fun W (hW : Below w.heap.size w W) => alike_any evmA ⟨#[109, 97, 120, 40, 120, 44, 32, 121, 41]⟩ ⟨#[109, 97, 120, 40, 121, 44, 32, 120, 41]⟩ evm2a_ok evm2b_ok (by decide) (by decide) (by decide) A A' n n' c c' l l' _ _ W (hg.next hW) (ht.next hW) hn hn' b1 b2 (hA.next hW) (hA'.next hW) (evm2a_ev l l') (evm2b_ev l l') (evm2_eq _ _ _ _ _ _ _ _) (Nat.le_of_ble_eq_true (by kernel_rfl)))
  have H3 := Lib.hid (fun W (hW : Below w.heap.size w W) => alike_any evmA ⟨#[109, 117, 120, 40, 120, 32, 60, 32, 121, 44, 32, 121, 44, 32, 120, 41]⟩ ⟨#[109, 97, 120, 40, 120, 44, 32, 121, 41]⟩ evm3a_ok evm3b_ok (by decide) (by decide) (by decide) A A' n n' c c' l l' _ _ W (hg.next hW) (ht.next hW) hn hn' b1 b2 (hA.next hW) (hA'.next hW) (evm3a_ev l l') (evm3b_ev l l') (evm3_eq _ _ _ _ _ _ _ _) (Nat.le_of_ble_eq_true (by kernel_rfl)))
  have H4 := Lib.hid (fun W (hW : Below w.heap.size w W) => alike_any evmA ⟨#[120, 32, 62, 62, 32, 51, 32, 62, 62, 32, 52]⟩ ⟨#[120, 32, 62, 62, 32, 55]⟩ evm4a_ok evm4b_ok (by decide) (by decide) (by decide) A A' n n' c c' l l' _ _ W (hg.next hW) (ht.next hW) hn hn' b1 b2 (hA.next hW) (hA'.next hW) (evm4a_ev l l') (evm4b_ev l l') (evm4_eq _ _ _ _ _ _ _ _) (Nat.le_of_ble_eq_true (by kernel_rfl)))
  have H5 := Lib.hid (fun W (hW : Below w.heap.size w W) => alike_any evmA ⟨#[40, 120, 32, 60, 32, 121, 41, 32, 42, 32, 40, 121, 32, 60, 32, 120, 41]⟩ ⟨#[120, 32, 45, 32, 120]⟩ evm5a_ok evm5b_ok (by decide) (by decide) (by decide) A A' n n' c c' l l' _ _ W (hg.next hW) (ht.next hW) hn hn' b1 b2 (hA.next hW) (hA'.next hW) (evm5a_ev l l') (evm5b_ev l l') (evm5_eq _ _ _ _ _ _ _ _) (Nat.le_of_ble_eq_true (by kernel_rfl)))
  have HRN := Lib.hid (fun W (hW : Below w.heap.size w W) => run_any evm6 evm6_ok A A' n n' c c' l l' _ W (hg.next hW) (ht.next hW) hn hn' b1 b2 (hA.next hW) (hA'.next hW) (evm6_ev l l'))
  have HFL := Lib.hid (fun W (X : Option Addr) (k : Nat) (hW : Below w.heap.size w W) (hX : RdSh W X [[4]]) => fill_any X 1 k [[4]] A n c l W rfl hn (by omega) b1 hX ((hA.below hW).more hW.size))
  have HAW := Lib.hid (eawake_true w hg ht)
  clear hg ht hlc hcm hA hlc' hcm' hA' hn hn' b1 b2
  go_enter Tryz.func7, Tryz.ntmps7
  go_wp2_with fail
  refine HAW.out.mono ?_
  rintro e w0 ⟨rfl, c0⟩
  have C0 := Lib.hid c0
  clear c0
  go_wp2_with fail
  refine (H1.out w0 C0.out).mono ?_
  rintro e w1 ⟨rfl, c1⟩
  have C1 := Lib.hid (bnext C0.out c1)
  clear c1
  go_wp2_with fail
  refine (H2.out w1 C1.out).mono ?_
  rintro e w2 ⟨rfl, c2⟩
  have C2 := Lib.hid (bnext C1.out c2)
  clear c2
  go_wp2_with fail
  refine (H3.out w2 C2.out).mono ?_
  rintro e w3 ⟨rfl, c3⟩
  have C3 := Lib.hid (bnext C2.out c3)
  clear c3
  go_wp2_with fail
  refine (H4.out w3 C3.out).mono ?_
  rintro e w4 ⟨rfl, c4⟩
  have C4 := Lib.hid (bnext C3.out c4)
  clear c4
  go_wp2_with fail
  refine (H5.out w4 C4.out).mono ?_
  rintro e w5 ⟨rfl, c5⟩
  have C5 := Lib.hid (bnext C4.out c5)
  clear c5
  go_wp2_with fail
  refine (HRN.out w5 C5.out).mono ?_
  rintro e w6 ⟨c6, A1, n1, c1, rfl, hn1, hr1⟩
  have C6 := Lib.hid (bnext C5.out c6)
  have R1 := Lib.hid hr1
  obtain rfl : n1 = 1 := hn1
  clear c6 hr1
  go_wp2_with fail
  obtain ⟨w7, hw7⟩ : ∃ w7, w7 = (w6.alloc (.cells #[.int .i64 4] 3)).alloc (.cells #[.slice (some ⟨w6.heap.size, 0, none⟩) 1 1] 41) := ⟨_, rfl⟩
  rw [← hw7]
  have hb7 : Below w6.heap.size w6 w7 := by rw [hw7]; exact ((Below.refl _ _).alloc (Nat.le_refl _) _).alloc (by simp) _
  have hs7 : RdSh w7 (some ⟨w6.heap.size + 1, 0, none⟩) [[4]] := by rw [hw7]; exact rdsh_four w6
  have C7 := Lib.hid (bnext C6.out hb7)
  refine (HFL.out w7 _ 1 C7.out hs7).mono ?_
  rintro e w8 ⟨b8, A8, c8, rfl, o8⟩
  rw [fill_4] at o8
  have C8 := Lib.hid (bnext C7.out b8)
  obtain ⟨g8, B1, d1, B2, d2, rfl, hg8, _, u1, _, ow⟩ := o8.at_ (j := 0) rfl
  obtain ⟨xs, hxs⟩ : ∃ xs, xs = [fillAt l 0, fillAt l 1, fillAt l 2, fillAt l 3] := ⟨_, rfl⟩
  rw [show (List.length (TN.el ⟨[4], [fillAt l 0, fillAt l 1, fillAt l 2, fillAt l 3]⟩)) = 4 from rfl] at u1
  have hrx : Rd w8 w8.heap.size B2 (xs.map U) := by rw [hxs]; exact ow.rd
  have hr8 : Rd w8 w8.heap.size A1 [U (UInt64.ofNat (argP xs))] := by rw [hxs]; exact (R1.out.next hb7).next b8
  have hlen : xs.length = 4 := by rw [hxs]; rfl
  simp only [Nat.zero_mul, Nat.zero_add] at u1
  obtain ⟨hb4, hmx, hfs⟩ := argP_first xs (by omega)
  obtain ⟨bq, hbq⟩ : ∃ bq, bq = argP xs := ⟨_, rfl⟩
  rw [← hbq] at hb4 hmx hfs hr8
  rw [hlen] at hb4 hmx
  obtain ⟨gr, og, rfl, hgr, cr⟩ := hr8.at_ (k := 0) rfl
  have hun : ((UInt64.ofNat bq).toNat : Int) = (bq : Int) := by rw [UInt64.toNat_ofNat']; omega
  have cr' : w8.cell? ⟨gr, og, none⟩ = some (.int .u64 (bq : Int)) := by rw [← hun]; exact cr
  have hwb : IntKind.i64.wrap (bq : Int) = (bq : Int) := by rw [IntKind.wrap_i64]; omega
  have hb3 : decide ((3 : Int) < (bq : Int)) = false := decide_eq_false (by omega)
  have HRX := Lib.hid hrx
  have HLE := Lib.hid hlen
  have HMX := Lib.hid hmx
  have HFS := Lib.hid hfs
  clear hw7 hb7 hs7 b8 o8 hrx hr8 ow hxs cr hun hlen hmx hfs hbq hgr hg8 R1
  go_wp2
  go_loopw [77] (fun iv wr => (∃ i : Nat, i ≤ 4 ∧ iv = .int .i64 i) ∧ ∃ q, wr = w8.drewN q) (fun iv _ => 4 - (intOf iv).toNat)
  case atStart => exact ⟨⟨0, by omega, rfl⟩, 0, rfl⟩
  case round =>
    obtain ⟨⟨i, hi, rfl⟩, q, hq⟩ := hrel
    have HQ := Lib.hid hq
    by_cases hlt : i < 4
    · have HL := Lib.hid (show Rd wr w8.heap.size B2 (xs.map U) from by rw [hq]; exact HRX.out.drewN q)
      obtain ⟨bx, ox, rfl, hbx, cx⟩ := HL.out.word (k := i) (by rw [HLE.out]; exact hlt)
      obtain ⟨by_, oy, e2, hby, cy⟩ := HL.out.word (k := bq) (by rw [HLE.out]; exact hb4)
      injection e2 with e2
      injection e2 with e2 e3 _
      subst e2 e3
      have cz : wr.cell? ⟨gr, og, none⟩ = some (.int .u64 (bq : Int)) := by rw [hq]; exact cr'
      have i0 : (0 : Int) ≤ (i : Int) := by omega
      have i1 : (i : Int) < 4 := by omega
      have bb0 : (0 : Int) ≤ (bq : Int) := by omega
      have bb1 : (bq : Int) < 4 := by omega
      have hle := HMX.out i hlt
      obtain ⟨x1, hx1⟩ : ∃ x, x = nthW xs i := ⟨_, rfl⟩
      obtain ⟨x2, hx2⟩ : ∃ x, x = nthW xs bq := ⟨_, rfl⟩
      rw [← hx1, ← hx2] at hle
      rw [← hx1] at cx
      rw [← hx2] at cy
      have hs : sltW x2 x1 = false := by
        rw [Bool.eq_false_iff]
        intro hs
        have := (slt_iff _ _).1 hs
        omega
      have hs0 : decide (sI x2 < sI x1) = false := (slt_eq _ _).trans hs
      by_cases hib : i < bq
      · have hf := HFS.out i hib
        rw [← hx1, ← hx2] at hf
        have hne : (x1 == x2) = false := by
          rw [beq_eq_false_iff_ne]
          intro h
          rw [h] at hf
          omega
        have hd : decide ((i : Int) < (bq : Int)) = true := decide_eq_true (by omega)
        clear hq HMX HFS HRX HL hx1 hx2 hle hf
        go_wp2_with fail
        go_quiet (fail)
        go_wp2
        exact ⟨⟨⟨i + 1, by omega, rfl⟩, _, by rw [HQ.out]; exact World.drewN_drewN _ _ _⟩, by simp [intOf]; omega⟩
      · have hd : decide ((i : Int) < (bq : Int)) = false := decide_eq_false (by omega)
        clear hq HMX HFS HRX HL hx1 hx2 hle
        go_wp2_with fail
        go_quiet (fail)
        go_wp2
        exact ⟨⟨⟨i + 1, by omega, rfl⟩, _, by rw [HQ.out]; exact World.drewN_drewN _ _ _⟩, by simp [intOf]; omega⟩
    · obtain rfl : i = 4 := by omega
      clear hq
      go_wp2
      go_ret
      exact ⟨rfl, by rw [HQ.out]; exact below_drewN C8.out _⟩
end Go.Proofs.YtghlnncfigkkaaaGreatDoor
namespace Go.Proofs.YtghlnncfigkkaaaGreatDoor.lawEvalMost
open Go Go.ChangeShapes Go.WideShapes Go.ChangeAt Go.RowKit
set_option linter.unusedVariables false
set_option maxRecDepth 100000 in
theorem lifted (os : Os) (started : os.Started) (H : Type) (enc : TypeId × Value → H) :
    ReturnsInHanded {} Tryz.checked os 7 .any (fun w args => (Rows.evalMostSpec.pre enc Tryz.prog Tryz.f7 [] false w args ∧ LaidW w) ∧ sizedMet enc Tryz.prog Tryz.f7 (OpenSpec.ofChange Rows.evalMostSpec) false w args)
      (Rows.evalMostSpec.post enc Tryz.prog Tryz.f7 false true false false) := by
  refine returnsInHanded_of_change_and (C := Tryz.checked) (X := fun w _ => LaidW w) (fun _ _ _ hh h => h.of_heap hh) dOwn started (by kernel_rfl) Tryz.func7
    (ChangeSpec.witness_shaped (enc := enc) (C := Tryz.checked) (os := os) (X := fun w _ => LaidW w) false (dWorld os) #[.slice none 0 0, .slice none 0 0] 8 rfl (World.shaped_of_RefB (by kernel_rfl) (by kernel_rfl)) (by kernel_rfl) (by kernel_rfl) (by kernel_rfl) (dWorld_met os _)) ?_
  intro W base args ds gs before hval0 hW _ hsz0 hL _
  have hval : ∀ (j : Nat) t v, Tryz.f7.params[j]? = some t → args[j]? = some v → Value.okWide Tryz.prog W .any base t v := hval0
  have hW' := hW
  have hg := etyped_of_laid hL
  have ht := errt_of_laid hL
  obtain ⟨p, q, hA0, hV, rfl, hfz, hnd⟩ := hW
  have hA : DataW.TrodAll enc Tryz.prog W 0 (fun _ => true) true Tryz.f7.params.toList args.toList ds p := hA0
  have hsz : (DataW.weightsEach Tryz.prog (Tryz.f7.params.toList ++ Rows.evalMostSpec.plain.varTypes Tryz.prog) (ds ++ gs)).all (· ≤ reachBytes) = true := hsz0
  rw [Tryz.params7] at hA hval hsz
  obtain ⟨v0, vs0, d0, ds0, p0, q0, hargs, rfl, rfl, h0, r0⟩ := trodAll_cons hA
  obtain ⟨v1, vs1, d1, ds1, p1, q1, rfl, rfl, rfl, h1, r1⟩ := trodAll_cons r0
  obtain ⟨rfl, rfl, rfl⟩ := trodAll_nil r1
  obtain rfl : args = #[v0, v1] := by cases args; simp_all
  obtain ⟨rfl, rfl⟩ : gs = [] ∧ q = [] := trodVars_none hV
  have k0 := h0
  have lt0 : ∀ x ∈ p0, x.block < W.heap.size := by obtain ⟨m, hm⟩ := k0; exact DataW.trod_lt m _ _ _ hm
  obtain ⟨a0, c0, l0, rfl, m0, s0, n0⟩ := open_words_sized Tryz.underlying40 Tryz.underlying39 (by kernel_rfl) (by kernel_rfl) (hval 0 40 v0 rfl rfl) h0 hsz 0 rfl rfl
  have k1 := h1
  have lt1 : ∀ x ∈ p1, x.block < W.heap.size := by obtain ⟨m, hm⟩ := k1; exact DataW.trod_lt m _ _ _ hm
  obtain ⟨a1, c1, l1, rfl, m1, s1, n1⟩ := open_words_sized Tryz.underlying40 Tryz.underlying39 (by kernel_rfl) (by kernel_rfl) (hval 1 40 v1 rfl rfl) h1 hsz 1 rfl rfl
  clear hA0 hval0 hsz0 hsz
  refine (EvalMost_walk W hg ht a0 c0 l0 m0 s0 n0 a1 c1 l1 m1 s1 n1).mono fun e W' ⟨he, bel⟩ => ?_
  subst he
  exact ⟨_, rfl, _, _, _, [], _, [], hW', trodAll_mk1 (shut_bool Tryz.underlying4 _), (trodAll_cons_mk (Below.trod dLaidOut (by kernel_rfl) (of_decide_eq_true (by kernel_rfl)) k0 bel lt0) (trodAll_cons_mk (Below.trod dLaidOut (by kernel_rfl) (of_decide_eq_true (by kernel_rfl)) k1 bel lt1) trodAll_mk0)), rfl, bel.frame _, fun h => by cases h⟩
theorem over : Rows.EvalMostSaid :=
  OpenClaim.holds_of_wide 7 Tryz.f7 rfl rfl rfl rfl rfl rfl rfl ⟨rfl, rfl, rfl, rfl, rfl⟩ rfl rfl rfl rfl rfl (by kernel_rfl) Tryz.func7 (by kernel_rfl)
    (of_decide_eq_true (by kernel_rfl)) (by unfold Func.isWrapper; first | (rw [if_pos (by decide +kernel)]; kernel_rfl) | (rw [if_neg (by decide +kernel)]; exact ⟨rfl, rfl⟩))
    (fun os started H enc _ => lifted os started H enc)
theorem proved : Rows.EvalMostCardSaid :=
  Claim7.holds_tied_plain_at .later [] [.data, .data, .data, .handle, .sentinel, .sentinel] true Rows.evalMostCard.stood.harness true
    over (fun _ h => by cases h) (by kernel_rfl) (fun _ h => by cases h) evalMost_row_tie rfl ⟨rfl, rfl⟩ (by kernel_rfl) rfl
    (fun f fn hf hfn => by
      obtain rfl : f = 7 := Option.some.inj ((show Tryz.prog.funcNamed "twain/twainlaw15.EvalMost" = some 7 by kernel_rfl).symm.trans hf) |>.symm
      obtain rfl : fn = Tryz.f7 := (Option.some.inj (Tryz.func7.symm.trans hfn)).symm
      exact ⟨by kernel_rfl, fun j t ht => by
        rw [Tryz.params7] at ht
        have hm : t ∈ [40, 40] := List.mem_of_getElem? (by simpa using ht)
        have hall : ∀ t ∈ [40, 40], Tryz.prog.wantsStandIn t = false := by
          intro t ht
          simp only [List.mem_cons, List.not_mem_nil, or_false] at ht
          rcases ht with rfl | rfl <;> kernel_rfl
        exact hall t hm⟩)
    (by kernel_rfl)
end Go.Proofs.YtghlnncfigkkaaaGreatDoor.lawEvalMost
