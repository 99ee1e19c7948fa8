/-
  The texts of the law EvalLinear: what they evaluate to. No program but the texts. The walk of the law EvalLinear. The law EvalLinear: for every input the call returns true, and each argument reads as it read before; the six listed variables tied to the program's text. The frame round its walk; written by a program of mine (mkdoorl.py).
-/
import Derived.Test.YtghlnncfigkkaaaGreatDoorQEvAT
import Derived.Test.YtghlnncfigkkaaaGreatDoorQOpen
import Derived.Test.YtghlnncfigkkaaaGreatDoorTie
import Derived.Test.YtghlnncfigkkaaaGreatDoorCards
import Derived.SevenTiedAt
namespace Go.Proofs.YtghlnncfigkkaaaGreatDoor
set_option linter.unusedVariables false
set_option linter.unusedSimpArgs false
open Go.RowKit
def evlA : ByteArray := ⟨#[105, 110, 112, 117, 116, 32, 48, 32, 109, 32, 91, 50, 44, 50, 93, 59, 32, 105, 110, 112, 117, 116, 32, 49, 32, 110, 32, 91, 50, 44, 50, 93, 59, 32, 108, 101, 116, 32, 111, 32, 61, 32, 109, 32, 45, 32, 110, 59, 32]⟩
theorem fill_22 (a : List UInt64) : fillP [[2, 2]] a 0 = [⟨[2, 2], [fillAt a 0, fillAt a 1, fillAt a 2, fillAt a 3]⟩] := rfl
def evl1a : ByteArray := runS evlA ⟨#[109, 32, 64, 32, 40, 110, 32, 43, 32, 111, 41]⟩
theorem evl1a_ok : TxtOk evl1a := ⟨by decide, by kernel_rfl, Nat.le_of_ble_eq_true (by kernel_rfl), by kernel_rfl, Nat.le_of_ble_eq_true (by kernel_rfl), Nat.le_of_ble_eq_true (by kernel_rfl), by kernel_rfl, by kernel_rfl, Nat.le_of_ble_eq_true (by kernel_rfl)⟩
def evl1a_t (a0 a1 a2 a3 b0 b1 b2 b3 : UInt64) : TN := ⟨[2, 2], [(addW (addW 0 (mulW a0 (addW b0 (subW a0 b0)))) (mulW a1 (addW b2 (subW a2 b2)))), (addW (addW 0 (mulW a0 (addW b1 (subW a1 b1)))) (mulW a1 (addW b3 (subW a3 b3)))), (addW (addW 0 (mulW a2 (addW b0 (subW a0 b0)))) (mulW a3 (addW b2 (subW a2 b2)))), (addW (addW 0 (mulW a2 (addW b1 (subW a1 b1)))) (mulW a3 (addW b3 (subW a3 b3))))]⟩
theorem evl1a_e0 (a0 a1 a2 a3 b0 b1 b2 b3 : UInt64) : evalE (ssE evl1a) (esE evl1a) [⟨[2, 2], [a0, a1, a2, a3]⟩] [⟨[2, 2], [b0, b1, b2, b3]⟩] = .inl [evl1a_t a0 a1 a2 a3 b0 b1 b2 b3] := by kernel_rfl
theorem evl1a_ev (a b : List UInt64) : evalE (ssE evl1a) (esE evl1a) (fillP (inputsC (ssE evl1a) 0) a 0) (fillP (inputsC (ssE evl1a) 1) b 0) = .inl [evl1a_t (fillAt a 0) (fillAt a 1) (fillAt a 2) (fillAt a 3) (fillAt b 0) (fillAt b 1) (fillAt b 2) (fillAt b 3)] := by
  rw [show inputsC (ssE evl1a) 0 = [[2, 2]] by kernel_rfl, show inputsC (ssE evl1a) 1 = [[2, 2]] by kernel_rfl, fill_22, fill_22]
  exact evl1a_e0 _ _ _ _ _ _ _ _
def evl1b : ByteArray := runS evlA ⟨#[109, 32, 64, 32, 110, 32, 43, 32, 109, 32, 64, 32, 111]⟩
theorem evl1b_ok : TxtOk evl1b := ⟨by decide, by kernel_rfl, Nat.le_of_ble_eq_true (by kernel_rfl), by kernel_rfl, Nat.le_of_ble_eq_true (by kernel_rfl), Nat.le_of_ble_eq_true (by kernel_rfl), by kernel_rfl, by kernel_rfl, Nat.le_of_ble_eq_true (by kernel_rfl)⟩
def evl1b_t (a0 a1 a2 a3 b0 b1 b2 b3 : UInt64) : TN := ⟨[2, 2], [(addW (addW (addW 0 (mulW a0 b0)) (mulW a1 b2)) (addW (addW 0 (mulW a0 (subW a0 b0))) (mulW a1 (subW a2 b2)))), (addW (addW (addW 0 (mulW a0 b1)) (mulW a1 b3)) (addW (addW 0 (mulW a0 (subW a1 b1))) (mulW a1 (subW a3 b3)))), (addW (addW (addW 0 (mulW a2 b0)) (mulW a3 b2)) (addW (addW 0 (mulW a2 (subW a0 b0))) (mulW a3 (subW a2 b2)))), (addW (addW (addW 0 (mulW a2 b1)) (mulW a3 b3)) (addW (addW 0 (mulW a2 (subW a1 b1))) (mulW a3 (subW a3 b3))))]⟩
theorem evl1b_e0 (a0 a1 a2 a3 b0 b1 b2 b3 : UInt64) : evalE (ssE evl1b) (esE evl1b) [⟨[2, 2], [a0, a1, a2, a3]⟩] [⟨[2, 2], [b0, b1, b2, b3]⟩] = .inl [evl1b_t a0 a1 a2 a3 b0 b1 b2 b3] := by kernel_rfl
theorem evl1b_ev (a b : List UInt64) : evalE (ssE evl1b) (esE evl1b) (fillP (inputsC (ssE evl1b) 0) a 0) (fillP (inputsC (ssE evl1b) 1) b 0) = .inl [evl1b_t (fillAt a 0) (fillAt a 1) (fillAt a 2) (fillAt a 3) (fillAt b 0) (fillAt b 1) (fillAt b 2) (fillAt b 3)] := by
  rw [show inputsC (ssE evl1b) 0 = [[2, 2]] by kernel_rfl, show inputsC (ssE evl1b) 1 = [[2, 2]] by kernel_rfl, fill_22, fill_22]
  exact evl1b_e0 _ _ _ _ _ _ _ _
theorem evl1_eq (a0 a1 a2 a3 b0 b1 b2 b3 : UInt64) : (evl1a_t a0 a1 a2 a3 b0 b1 b2 b3).el = (evl1b_t a0 a1 a2 a3 b0 b1 b2 b3).el := by
  unfold evl1a_t evl1b_t
  simp only [List.cons.injEq, and_true]
  refine ⟨?_, ?_, ?_, ?_⟩ <;> (unfold addW subW mulW; grind)
def evl2a : ByteArray := runS evlA ⟨#[109, 32, 42, 32, 40, 110, 32, 45, 32, 111, 41]⟩
theorem evl2a_ok : TxtOk evl2a := ⟨by decide, by kernel_rfl, Nat.le_of_ble_eq_true (by kernel_rfl), by kernel_rfl, Nat.le_of_ble_eq_true (by kernel_rfl), Nat.le_of_ble_eq_true (by kernel_rfl), by kernel_rfl, by kernel_rfl, Nat.le_of_ble_eq_true (by kernel_rfl)⟩
def evl2a_t (a0 a1 a2 a3 b0 b1 b2 b3 : UInt64) : TN := ⟨[2, 2], [(mulW a0 (subW b0 (subW a0 b0))), (mulW a1 (subW b1 (subW a1 b1))), (mulW a2 (subW b2 (subW a2 b2))), (mulW a3 (subW b3 (subW a3 b3)))]⟩
theorem evl2a_e0 (a0 a1 a2 a3 b0 b1 b2 b3 : UInt64) : evalE (ssE evl2a) (esE evl2a) [⟨[2, 2], [a0, a1, a2, a3]⟩] [⟨[2, 2], [b0, b1, b2, b3]⟩] = .inl [evl2a_t a0 a1 a2 a3 b0 b1 b2 b3] := by kernel_rfl
theorem evl2a_ev (a b : List UInt64) : evalE (ssE evl2a) (esE evl2a) (fillP (inputsC (ssE evl2a) 0) a 0) (fillP (inputsC (ssE evl2a) 1) b 0) = .inl [evl2a_t (fillAt a 0) (fillAt a 1) (fillAt a 2) (fillAt a 3) (fillAt b 0) (fillAt b 1) (fillAt b 2) (fillAt b 3)] := by
  rw [show inputsC (ssE evl2a) 0 = [[2, 2]] by kernel_rfl, show inputsC (ssE evl2a) 1 = [[2, 2]] by kernel_rfl, fill_22, fill_22]
  exact evl2a_e0 _ _ _ _ _ _ _ _
def evl2b : ByteArray := runS evlA ⟨#[109, 32, 42, 32, 110, 32, 45, 32, 109, 32, 42, 32, 111]⟩
theorem evl2b_ok : TxtOk evl2b := ⟨by decide, by kernel_rfl, Nat.le_of_ble_eq_true (by kernel_rfl), by kernel_rfl, Nat.le_of_ble_eq_true (by kernel_rfl), Nat.le_of_ble_eq_true (by kernel_rfl), by kernel_rfl, by kernel_rfl, Nat.le_of_ble_eq_true (by kernel_rfl)⟩
def evl2b_t (a0 a1 a2 a3 b0 b1 b2 b3 : UInt64) : TN := ⟨[2, 2], [(subW (mulW a0 b0) (mulW a0 (subW a0 b0))), (subW (mulW a1 b1) (mulW a1 (subW a1 b1))), (subW (mulW a2 b2) (mulW a2 (subW a2 b2))), (subW (mulW a3 b3) (mulW a3 (subW a3 b3)))]⟩
theorem evl2b_e0 (a0 a1 a2 a3 b0 b1 b2 b3 : UInt64) : evalE (ssE evl2b) (esE evl2b) [⟨[2, 2], [a0, a1, a2, a3]⟩] [⟨[2, 2], [b0, b1, b2, b3]⟩] = .inl [evl2b_t a0 a1 a2 a3 b0 b1 b2 b3] := by kernel_rfl
theorem evl2b_ev (a b : List UInt64) : evalE (ssE evl2b) (esE evl2b) (fillP (inputsC (ssE evl2b) 0) a 0) (fillP (inputsC (ssE evl2b) 1) b 0) = .inl [evl2b_t (fillAt a 0) (fillAt a 1) (fillAt a 2) (fillAt a 3) (fillAt b 0) (fillAt b 1) (fillAt b 2) (fillAt b 3)] := by
  rw [show inputsC (ssE evl2b) 0 = [[2, 2]] by kernel_rfl, show inputsC (ssE evl2b) 1 = [[2, 2]] by kernel_rfl, fill_22, fill_22]
  exact evl2b_e0 _ _ _ _ _ _ _ _
theorem evl2_eq (a0 a1 a2 a3 b0 b1 b2 b3 : UInt64) : (evl2a_t a0 a1 a2 a3 b0 b1 b2 b3).el = (evl2b_t a0 a1 a2 a3 b0 b1 b2 b3).el := by
  unfold evl2a_t evl2b_t
  simp only [List.cons.injEq, and_true]
  refine ⟨?_, ?_, ?_, ?_⟩ <;> (unfold subW mulW; grind)
def evl3a : ByteArray := runS evlA ⟨#[115, 117, 109, 40, 109, 32, 43, 32, 110, 41]⟩
theorem evl3a_ok : TxtOk evl3a := ⟨by decide, by kernel_rfl, Nat.le_of_ble_eq_true (by kernel_rfl), by kernel_rfl, Nat.le_of_ble_eq_true (by kernel_rfl), Nat.le_of_ble_eq_true (by kernel_rfl), by kernel_rfl, by kernel_rfl, Nat.le_of_ble_eq_true (by kernel_rfl)⟩
def evl3a_t (a0 a1 a2 a3 b0 b1 b2 b3 : UInt64) : TN := ⟨[], [(addW (addW (addW (addW 0 (addW a0 b0)) (addW a1 b1)) (addW a2 b2)) (addW a3 b3))]⟩
theorem evl3a_e0 (a0 a1 a2 a3 b0 b1 b2 b3 : UInt64) : evalE (ssE evl3a) (esE evl3a) [⟨[2, 2], [a0, a1, a2, a3]⟩] [⟨[2, 2], [b0, b1, b2, b3]⟩] = .inl [evl3a_t a0 a1 a2 a3 b0 b1 b2 b3] := by kernel_rfl
theorem evl3a_ev (a b : List UInt64) : evalE (ssE evl3a) (esE evl3a) (fillP (inputsC (ssE evl3a) 0) a 0) (fillP (inputsC (ssE evl3a) 1) b 0) = .inl [evl3a_t (fillAt a 0) (fillAt a 1) (fillAt a 2) (fillAt a 3) (fillAt b 0) (fillAt b 1) (fillAt b 2) (fillAt b 3)] := by
  rw [show inputsC (ssE evl3a) 0 = [[2, 2]] by kernel_rfl, show inputsC (ssE evl3a) 1 = [[2, 2]] by kernel_rfl, fill_22, fill_22]
  exact evl3a_e0 _ _ _ _ _ _ _ _
def evl3b : ByteArray := runS evlA ⟨#[115, 117, 109, 40, 109, 41, 32, 43, 32, 115, 117, 109, 40, 110, 41]⟩
theorem evl3b_ok : TxtOk evl3b := ⟨by decide, by kernel_rfl, Nat.le_of_ble_eq_true (by kernel_rfl), by kernel_rfl, Nat.le_of_ble_eq_true (by kernel_rfl), Nat.le_of_ble_eq_true (by kernel_rfl), by kernel_rfl, by kernel_rfl, Nat.le_of_ble_eq_true (by kernel_rfl)⟩
def evl3b_t (a0 a1 a2 a3 b0 b1 b2 b3 : UInt64) : TN := ⟨[], [(addW (addW (addW (addW (addW 0 a0) a1) a2) a3) (addW (addW (addW (addW 0 b0) b1) b2) b3))]⟩
theorem evl3b_e0 (a0 a1 a2 a3 b0 b1 b2 b3 : UInt64) : evalE (ssE evl3b) (esE evl3b) [⟨[2, 2], [a0, a1, a2, a3]⟩] [⟨[2, 2], [b0, b1, b2, b3]⟩] = .inl [evl3b_t a0 a1 a2 a3 b0 b1 b2 b3] := by kernel_rfl
theorem evl3b_ev (a b : List UInt64) : evalE (ssE evl3b) (esE evl3b) (fillP (inputsC (ssE evl3b) 0) a 0) (fillP (inputsC (ssE evl3b) 1) b 0) = .inl [evl3b_t (fillAt a 0) (fillAt a 1) (fillAt a 2) (fillAt a 3) (fillAt b 0) (fillAt b 1) (fillAt b 2) (fillAt b 3)] := by
  rw [show inputsC (ssE evl3b) 0 = [[2, 2]] by kernel_rfl, show inputsC (ssE evl3b) 1 = [[2, 2]] by kernel_rfl, fill_22, fill_22]
  exact evl3b_e0 _ _ _ _ _ _ _ _
theorem evl3_eq (a0 a1 a2 a3 b0 b1 b2 b3 : UInt64) : (evl3a_t a0 a1 a2 a3 b0 b1 b2 b3).el = (evl3b_t a0 a1 a2 a3 b0 b1 b2 b3).el := by
  unfold evl3a_t evl3b_t
  simp only [List.cons.injEq, and_true]
  (unfold addW; grind)
def evl4a : ByteArray := runS evlA ⟨#[40, 109, 32, 64, 32, 110, 41, 32, 64, 32, 111]⟩
theorem evl4a_ok : TxtOk evl4a := ⟨by decide, by kernel_rfl, Nat.le_of_ble_eq_true (by kernel_rfl), by kernel_rfl, Nat.le_of_ble_eq_true (by kernel_rfl), Nat.le_of_ble_eq_true (by kernel_rfl), by kernel_rfl, by kernel_rfl, Nat.le_of_ble_eq_true (by kernel_rfl)⟩
def evl4a_t (a0 a1 a2 a3 b0 b1 b2 b3 : UInt64) : TN := ⟨[2, 2], [(addW (addW 0 (mulW (addW (addW 0 (mulW a0 b0)) (mulW a1 b2)) (subW a0 b0))) (mulW (addW (addW 0 (mulW a0 b1)) (mulW a1 b3)) (subW a2 b2))), (addW (addW 0 (mulW (addW (addW 0 (mulW a0 b0)) (mulW a1 b2)) (subW a1 b1))) (mulW (addW (addW 0 (mulW a0 b1)) (mulW a1 b3)) (subW a3 b3))), (addW (addW 0 (mulW (addW (addW 0 (mulW a2 b0)) (mulW a3 b2)) (subW a0 b0))) (mulW (addW (addW 0 (mulW a2 b1)) (mulW a3 b3)) (subW a2 b2))), (addW (addW 0 (mulW (addW (addW 0 (mulW a2 b0)) (mulW a3 b2)) (subW a1 b1))) (mulW (addW (addW 0 (mulW a2 b1)) (mulW a3 b3)) (subW a3 b3)))]⟩
theorem evl4a_e0 (a0 a1 a2 a3 b0 b1 b2 b3 : UInt64) : evalE (ssE evl4a) (esE evl4a) [⟨[2, 2], [a0, a1, a2, a3]⟩] [⟨[2, 2], [b0, b1, b2, b3]⟩] = .inl [evl4a_t a0 a1 a2 a3 b0 b1 b2 b3] := by kernel_rfl
theorem evl4a_ev (a b : List UInt64) : evalE (ssE evl4a) (esE evl4a) (fillP (inputsC (ssE evl4a) 0) a 0) (fillP (inputsC (ssE evl4a) 1) b 0) = .inl [evl4a_t (fillAt a 0) (fillAt a 1) (fillAt a 2) (fillAt a 3) (fillAt b 0) (fillAt b 1) (fillAt b 2) (fillAt b 3)] := by
  rw [show inputsC (ssE evl4a) 0 = [[2, 2]] by kernel_rfl, show inputsC (ssE evl4a) 1 = [[2, 2]] by kernel_rfl, fill_22, fill_22]
  exact evl4a_e0 _ _ _ _ _ _ _ _
def evl4b : ByteArray := runS evlA ⟨#[109, 32, 64, 32, 40, 110, 32, 64, 32, 111, 41]⟩
theorem evl4b_ok : TxtOk evl4b := ⟨by decide, by kernel_rfl, Nat.le_of_ble_eq_true (by kernel_rfl), by kernel_rfl, Nat.le_of_ble_eq_true (by kernel_rfl), Nat.le_of_ble_eq_true (by kernel_rfl), by kernel_rfl, by kernel_rfl, Nat.le_of_ble_eq_true (by kernel_rfl)⟩
def evl4b_t (a0 a1 a2 a3 b0 b1 b2 b3 : UInt64) : TN := ⟨[2, 2], [(addW (addW 0 (mulW a0 (addW (addW 0 (mulW b0 (subW a0 b0))) (mulW b1 (subW a2 b2))))) (mulW a1 (addW (addW 0 (mulW b2 (subW a0 b0))) (mulW b3 (subW a2 b2))))), (addW (addW 0 (mulW a0 (addW (addW 0 (mulW b0 (subW a1 b1))) (mulW b1 (subW a3 b3))))) (mulW a1 (addW (addW 0 (mulW b2 (subW a1 b1))) (mulW b3 (subW a3 b3))))), (addW (addW 0 (mulW a2 (addW (addW 0 (mulW b0 (subW a0 b0))) (mulW b1 (subW a2 b2))))) (mulW a3 (addW (addW 0 (mulW b2 (subW a0 b0))) (mulW b3 (subW a2 b2))))), (addW (addW 0 (mulW a2 (addW (addW 0 (mulW b0 (subW a1 b1))) (mulW b1 (subW a3 b3))))) (mulW a3 (addW (addW 0 (mulW b2 (subW a1 b1))) (mulW b3 (subW a3 b3)))))]⟩
theorem evl4b_e0 (a0 a1 a2 a3 b0 b1 b2 b3 : UInt64) : evalE (ssE evl4b) (esE evl4b) [⟨[2, 2], [a0, a1, a2, a3]⟩] [⟨[2, 2], [b0, b1, b2, b3]⟩] = .inl [evl4b_t a0 a1 a2 a3 b0 b1 b2 b3] := by kernel_rfl
theorem evl4b_ev (a b : List UInt64) : evalE (ssE evl4b) (esE evl4b) (fillP (inputsC (ssE evl4b) 0) a 0) (fillP (inputsC (ssE evl4b) 1) b 0) = .inl [evl4b_t (fillAt a 0) (fillAt a 1) (fillAt a 2) (fillAt a 3) (fillAt b 0) (fillAt b 1) (fillAt b 2) (fillAt b 3)] := by
  rw [show inputsC (ssE evl4b) 0 = [[2, 2]] by kernel_rfl, show inputsC (ssE evl4b) 1 = [[2, 2]] by kernel_rfl, fill_22, fill_22]
  exact evl4b_e0 _ _ _ _ _ _ _ _
theorem evl4_eq (a0 a1 a2 a3 b0 b1 b2 b3 : UInt64) : (evl4a_t a0 a1 a2 a3 b0 b1 b2 b3).el = (evl4b_t a0 a1 a2 a3 b0 b1 b2 b3).el := by
  unfold evl4a_t evl4b_t
  simp only [List.cons.injEq, and_true]
  refine ⟨?_, ?_, ?_, ?_⟩ <;> (unfold addW subW mulW; grind)
def evl5a : ByteArray := runS evlA ⟨#[51, 32, 42, 32, 109, 32, 45, 32, 109]⟩
theorem evl5a_ok : TxtOk evl5a := ⟨by decide, by kernel_rfl, Nat.le_of_ble_eq_true (by kernel_rfl), by kernel_rfl, Nat.le_of_ble_eq_true (by kernel_rfl), Nat.le_of_ble_eq_true (by kernel_rfl), by kernel_rfl, by kernel_rfl, Nat.le_of_ble_eq_true (by kernel_rfl)⟩
def evl5a_t (a0 a1 a2 a3 b0 b1 b2 b3 : UInt64) : TN := ⟨[2, 2], [(subW (mulW (UInt64.ofNat 3) a0) a0), (subW (mulW (UInt64.ofNat 3) a1) a1), (subW (mulW (UInt64.ofNat 3) a2) a2), (subW (mulW (UInt64.ofNat 3) a3) a3)]⟩
theorem evl5a_e0 (a0 a1 a2 a3 b0 b1 b2 b3 : UInt64) : evalE (ssE evl5a) (esE evl5a) [⟨[2, 2], [a0, a1, a2, a3]⟩] [⟨[2, 2], [b0, b1, b2, b3]⟩] = .inl [evl5a_t a0 a1 a2 a3 b0 b1 b2 b3] := by kernel_rfl
theorem evl5a_ev (a b : List UInt64) : evalE (ssE evl5a) (esE evl5a) (fillP (inputsC (ssE evl5a) 0) a 0) (fillP (inputsC (ssE evl5a) 1) b 0) = .inl [evl5a_t (fillAt a 0) (fillAt a 1) (fillAt a 2) (fillAt a 3) (fillAt b 0) (fillAt b 1) (fillAt b 2) (fillAt b 3)] := by
  rw [show inputsC (ssE evl5a) 0 = [[2, 2]] by kernel_rfl, show inputsC (ssE evl5a) 1 = [[2, 2]] by kernel_rfl, fill_22, fill_22]
  exact evl5a_e0 _ _ _ _ _ _ _ _
def evl5b : ByteArray := runS evlA ⟨#[109, 32, 43, 32, 109]⟩
theorem evl5b_ok : TxtOk evl5b := ⟨by decide, by kernel_rfl, Nat.le_of_ble_eq_true (by kernel_rfl), by kernel_rfl, Nat.le_of_ble_eq_true (by kernel_rfl), Nat.le_of_ble_eq_true (by kernel_rfl), by kernel_rfl, by kernel_rfl, Nat.le_of_ble_eq_true (by kernel_rfl)⟩
def evl5b_t (a0 a1 a2 a3 b0 b1 b2 b3 : UInt64) : TN := ⟨[2, 2], [(addW a0 a0), (addW a1 a1), (addW a2 a2), (addW a3 a3)]⟩
theorem evl5b_e0 (a0 a1 a2 a3 b0 b1 b2 b3 : UInt64) : evalE (ssE evl5b) (esE evl5b) [⟨[2, 2], [a0, a1, a2, a3]⟩] [⟨[2, 2], [b0, b1, b2, b3]⟩] = .inl [evl5b_t a0 a1 a2 a3 b0 b1 b2 b3] := by kernel_rfl
theorem evl5b_ev (a b : List UInt64) : evalE (ssE evl5b) (esE evl5b) (fillP (inputsC (ssE evl5b) 0) a 0) (fillP (inputsC (ssE evl5b) 1) b 0) = .inl [evl5b_t (fillAt a 0) (fillAt a 1) (fillAt a 2) (fillAt a 3) (fillAt b 0) (fillAt b 1) (fillAt b 2) (fillAt b 3)] := by
  rw [show inputsC (ssE evl5b) 0 = [[2, 2]] by kernel_rfl, show inputsC (ssE evl5b) 1 = [[2, 2]] by kernel_rfl, fill_22, fill_22]
  exact evl5b_e0 _ _ _ _ _ _ _ _
theorem evl5_eq (a0 a1 a2 a3 b0 b1 b2 b3 : UInt64) : (evl5a_t a0 a1 a2 a3 b0 b1 b2 b3).el = (evl5b_t a0 a1 a2 a3 b0 b1 b2 b3).el := by
  unfold evl5a_t evl5b_t
  simp only [List.cons.injEq, and_true]
  refine ⟨?_, ?_, ?_, ?_⟩ <;> (unfold addW subW mulW; grind)
def evl6a : ByteArray := runS evlA ⟨#[45, 40, 109, 32, 45, 32, 110, 41]⟩
theorem evl6a_ok : TxtOk evl6a := ⟨by decide, by kernel_rfl, Nat.le_of_ble_eq_true (by kernel_rfl), by kernel_rfl, Nat.le_of_ble_eq_true (by kernel_rfl), Nat.le_of_ble_eq_true (by kernel_rfl), by kernel_rfl, by kernel_rfl, Nat.le_of_ble_eq_true (by kernel_rfl)⟩
def evl6a_t (a0 a1 a2 a3 b0 b1 b2 b3 : UInt64) : TN := ⟨[2, 2], [(negW (subW a0 b0)), (negW (subW a1 b1)), (negW (subW a2 b2)), (negW (subW a3 b3))]⟩
theorem evl6a_e0 (a0 a1 a2 a3 b0 b1 b2 b3 : UInt64) : evalE (ssE evl6a) (esE evl6a) [⟨[2, 2], [a0, a1, a2, a3]⟩] [⟨[2, 2], [b0, b1, b2, b3]⟩] = .inl [evl6a_t a0 a1 a2 a3 b0 b1 b2 b3] := by kernel_rfl
theorem evl6a_ev (a b : List UInt64) : evalE (ssE evl6a) (esE evl6a) (fillP (inputsC (ssE evl6a) 0) a 0) (fillP (inputsC (ssE evl6a) 1) b 0) = .inl [evl6a_t (fillAt a 0) (fillAt a 1) (fillAt a 2) (fillAt a 3) (fillAt b 0) (fillAt b 1) (fillAt b 2) (fillAt b 3)] := by
  rw [show inputsC (ssE evl6a) 0 = [[2, 2]] by kernel_rfl, show inputsC (ssE evl6a) 1 = [[2, 2]] by kernel_rfl, fill_22, fill_22]
  exact evl6a_e0 _ _ _ _ _ _ _ _
def evl6b : ByteArray := runS evlA ⟨#[110, 32, 45, 32, 109]⟩
theorem evl6b_ok : TxtOk evl6b := ⟨by decide, by kernel_rfl, Nat.le_of_ble_eq_true (by kernel_rfl), by kernel_rfl, Nat.le_of_ble_eq_true (by kernel_rfl), Nat.le_of_ble_eq_true (by kernel_rfl), by kernel_rfl, by kernel_rfl, Nat.le_of_ble_eq_true (by kernel_rfl)⟩
def evl6b_t (a0 a1 a2 a3 b0 b1 b2 b3 : UInt64) : TN := ⟨[2, 2], [(subW b0 a0), (subW b1 a1), (subW b2 a2), (subW b3 a3)]⟩
theorem evl6b_e0 (a0 a1 a2 a3 b0 b1 b2 b3 : UInt64) : evalE (ssE evl6b) (esE evl6b) [⟨[2, 2], [a0, a1, a2, a3]⟩] [⟨[2, 2], [b0, b1, b2, b3]⟩] = .inl [evl6b_t a0 a1 a2 a3 b0 b1 b2 b3] := by kernel_rfl
theorem evl6b_ev (a b : List UInt64) : evalE (ssE evl6b) (esE evl6b) (fillP (inputsC (ssE evl6b) 0) a 0) (fillP (inputsC (ssE evl6b) 1) b 0) = .inl [evl6b_t (fillAt a 0) (fillAt a 1) (fillAt a 2) (fillAt a 3) (fillAt b 0) (fillAt b 1) (fillAt b 2) (fillAt b 3)] := by
  rw [show inputsC (ssE evl6b) 0 = [[2, 2]] by kernel_rfl, show inputsC (ssE evl6b) 1 = [[2, 2]] by kernel_rfl, fill_22, fill_22]
  exact evl6b_e0 _ _ _ _ _ _ _ _
theorem evl6_eq (a0 a1 a2 a3 b0 b1 b2 b3 : UInt64) : (evl6a_t a0 a1 a2 a3 b0 b1 b2 b3).el = (evl6b_t a0 a1 a2 a3 b0 b1 b2 b3).el := by
  unfold evl6a_t evl6b_t
  simp only [List.cons.injEq, and_true]
  refine ⟨?_, ?_, ?_, ?_⟩ <;> (unfold subW negW; grind)
end Go.Proofs.YtghlnncfigkkaaaGreatDoor
namespace Go.Proofs.YtghlnncfigkkaaaGreatDoor
set_option linter.unusedVariables false
set_option linter.unusedSimpArgs false
open Go.RowKit
set_option maxRecDepth 100000 in
set_option maxHeartbeats 4000000 in
theorem EvalLinear_walk (w : World) (hg : ETyped w) (ht : ErrT w) (A : Option Addr) (c : Nat) (l : List UInt64) (hlc : l.length ≤ c) (hcm : c ≤ 17592186043904) (hA : Rd w w.heap.size A (l.map U))
    (A' : Option Addr) (c' : Nat) (l' : List UInt64) (hlc' : l'.length ≤ c') (hcm' : c' ≤ 17592186043904) (hA' : Rd w w.heap.size A' (l'.map U)) :
    Calls Tryz.prog 6 #[.slice A l.length c, .slice A' l'.length c'] w fun e w' => e = .returned (.bool true) ∧ Below w.heap.size w w' := by
  obtain ⟨n, hn⟩ : ∃ n, n = l.length := ⟨_, rfl⟩
  obtain ⟨n', hn'⟩ : ∃ n, n = l'.length := ⟨_, rfl⟩
  rw [← hn, ← hn']
  have b1 : n ≤ 9223372036854775807 := by omega
  have b2 : n' ≤ 9223372036854775807 := by omega
  have H1 := Lib.hid (fun W (hW : Below w.heap.size w W) => alike_any evlA ⟨#[109, 32, 64, 32, 40, 110, 32, 43, 32, 111, 41]⟩ ⟨#[109, 32, 64, 32, 110, 32, 43, 32, 109, 32, 64, 32, 111]⟩ evl1a_ok evl1b_ok (by decide) (by decide) (by decide) A A' n n' c c' l l' _ _ W (hg.next hW) (ht.next hW) hn hn' b1 b2 (hA.next hW) (hA'.next hW) (evl1a_ev l l') (evl1b_ev l l') (evl1_eq _ _ _ _ _ _ _ _) (Nat.le_of_ble_eq_true (by kernel_rfl)))
  have H2 := Lib.hid (fun W (hW : Below w.heap.size w W) => alike_any evlA ⟨#[109, 32, 42, 32, 40, 110, 32, 45, 32, 111, 41]⟩ ⟨#[109, 32, 42, 32, 110, 32, 45, 32, 109, 32, 42, 32, 111]⟩ evl2a_ok evl2b_ok (by decide) (by decide) (by decide) A A' n n' c c' l l' _ _ W (hg.next hW) (ht.next hW) hn hn' b1 b2 (hA.next hW) (hA'.next hW) (evl2a_ev l l') (evl2b_ev l l') (evl2_eq _ _ _ _ _ _ _ _) (Nat.le_of_ble_eq_true (by kernel_rfl)))
  have H3 := Lib.hid (fun W (hW : Below w.heap.size w W) => alike_any evlA ⟨#[115, 117, 109, 40, 109, 32, 43, 32, 110, 41]⟩ ⟨#[115, 117, 109, 40, 109, 41, 32, 43, 32, 115, 117, 109, 40, 110, 41]⟩ evl3a_ok evl3b_ok (by decide) (by decide) (by decide) A A' n n' c c' l l' _ _ W (hg.next hW) (ht.next hW) hn hn' b1 b2 (hA.next hW) (hA'.next hW) (evl3a_ev l l') (evl3b_ev l l') (evl3_eq _ _ _ _ _ _ _ _) (Nat.le_of_ble_eq_true (by kernel_rfl)))
  have H4 := Lib.hid (fun W (hW : Below w.heap.size w W) => alike_any evlA ⟨#[40, 109, 32, 64, 32, 110, 41, 32, 64, 32, 111]⟩ ⟨#[109, 32, 64, 32, 40, 110, 32, 64, 32, 111, 41]⟩ evl4a_ok evl4b_ok (by decide) (by decide) (by decide) A A' n n' c c' l l' _ _ W (hg.next hW) (ht.next hW) hn hn' b1 b2 (hA.next hW) (hA'.next hW) (evl4a_ev l l') (evl4b_ev l l') (evl4_eq _ _ _ _ _ _ _ _) (Nat.le_of_ble_eq_true (by kernel_rfl)))
  have H5 := Lib.hid (fun W (hW : Below w.heap.size w W) => alike_any evlA ⟨#[51, 32, 42, 32, 109, 32, 45, 32, 109]⟩ ⟨#[109, 32, 43, 32, 109]⟩ evl5a_ok evl5b_ok (by decide) (by decide) (by decide) A A' n n' c c' l l' _ _ W (hg.next hW) (ht.next hW) hn hn' b1 b2 (hA.next hW) (hA'.next hW) (evl5a_ev l l') (evl5b_ev l l') (evl5_eq _ _ _ _ _ _ _ _) (Nat.le_of_ble_eq_true (by kernel_rfl)))
  have H6 := Lib.hid (fun W (hW : Below w.heap.size w W) => alike_any evlA ⟨#[45, 40, 109, 32, 45, 32, 110, 41]⟩ ⟨#[110, 32, 45, 32, 109]⟩ evl6a_ok evl6b_ok (by decide) (by decide) (by decide) A A' n n' c c' l l' _ _ W (hg.next hW) (ht.next hW) hn hn' b1 b2 (hA.next hW) (hA'.next hW) (evl6a_ev l l') (evl6b_ev l l') (evl6_eq _ _ _ _ _ _ _ _) (Nat.le_of_ble_eq_true (by kernel_rfl)))
  have HAW := Lib.hid (eawake_true w hg ht)
  clear hg ht hlc hcm hA hlc' hcm' hA' hn hn' b1 b2
  go_enter Tryz.func6, Tryz.ntmps6
  go_wp2_with fail
  refine HAW.out.mono ?_
  rintro e w0 ⟨rfl, c0⟩
  have C0 := Lib.hid c0
  clear c0
  go_wp2_with fail
  refine (H1.out w0 C0.out).mono ?_
  rintro e w1 ⟨rfl, c1⟩
  have C1 := Lib.hid (bnext C0.out c1)
  clear c1
  go_wp2_with fail
  refine (H2.out w1 C1.out).mono ?_
  rintro e w2 ⟨rfl, c2⟩
  have C2 := Lib.hid (bnext C1.out c2)
  clear c2
  go_wp2_with fail
  refine (H3.out w2 C2.out).mono ?_
  rintro e w3 ⟨rfl, c3⟩
  have C3 := Lib.hid (bnext C2.out c3)
  clear c3
  go_wp2_with fail
  refine (H4.out w3 C3.out).mono ?_
  rintro e w4 ⟨rfl, c4⟩
  have C4 := Lib.hid (bnext C3.out c4)
  clear c4
  go_wp2_with fail
  refine (H5.out w4 C4.out).mono ?_
  rintro e w5 ⟨rfl, c5⟩
  have C5 := Lib.hid (bnext C4.out c5)
  clear c5
  go_wp2_with fail
  refine (H6.out w5 C5.out).mono ?_
  rintro e w6 ⟨rfl, c6⟩
  have C6 := Lib.hid (bnext C5.out c6)
  clear c6
  go_wp2
  go_ret
  exact ⟨rfl, C6.out⟩
end Go.Proofs.YtghlnncfigkkaaaGreatDoor
namespace Go.Proofs.YtghlnncfigkkaaaGreatDoor.lawEvalLinear
open Go Go.ChangeShapes Go.WideShapes Go.ChangeAt Go.RowKit
set_option linter.unusedVariables false
set_option maxRecDepth 100000 in
theorem lifted (os : Os) (started : os.Started) (H : Type) (enc : TypeId × Value → H) :
    ReturnsInHanded {} Tryz.checked os 6 .any (fun w args => (Rows.evalLinearSpec.pre enc Tryz.prog Tryz.f6 [] false w args ∧ LaidW w) ∧ sizedMet enc Tryz.prog Tryz.f6 (OpenSpec.ofChange Rows.evalLinearSpec) false w args)
      (Rows.evalLinearSpec.post enc Tryz.prog Tryz.f6 false true false false) := by
  refine returnsInHanded_of_change_and (C := Tryz.checked) (X := fun w _ => LaidW w) (fun _ _ _ hh h => h.of_heap hh) dOwn started (by kernel_rfl) Tryz.func6
    (ChangeSpec.witness_shaped (enc := enc) (C := Tryz.checked) (os := os) (X := fun w _ => LaidW w) false (dWorld os) #[.slice none 0 0, .slice none 0 0] 8 rfl (World.shaped_of_RefB (by kernel_rfl) (by kernel_rfl)) (by kernel_rfl) (by kernel_rfl) (by kernel_rfl) (dWorld_met os _)) ?_
  intro W base args ds gs before hval0 hW _ hsz0 hL _
  have hval : ∀ (j : Nat) t v, Tryz.f6.params[j]? = some t → args[j]? = some v → Value.okWide Tryz.prog W .any base t v := hval0
  have hW' := hW
  have hg := etyped_of_laid hL
  have ht := errt_of_laid hL
  obtain ⟨p, q, hA0, hV, rfl, hfz, hnd⟩ := hW
  have hA : DataW.TrodAll enc Tryz.prog W 0 (fun _ => true) true Tryz.f6.params.toList args.toList ds p := hA0
  have hsz : (DataW.weightsEach Tryz.prog (Tryz.f6.params.toList ++ Rows.evalLinearSpec.plain.varTypes Tryz.prog) (ds ++ gs)).all (· ≤ reachBytes) = true := hsz0
  rw [Tryz.params6] at hA hval hsz
  obtain ⟨v0, vs0, d0, ds0, p0, q0, hargs, rfl, rfl, h0, r0⟩ := trodAll_cons hA
  obtain ⟨v1, vs1, d1, ds1, p1, q1, rfl, rfl, rfl, h1, r1⟩ := trodAll_cons r0
  obtain ⟨rfl, rfl, rfl⟩ := trodAll_nil r1
  obtain rfl : args = #[v0, v1] := by cases args; simp_all
  obtain ⟨rfl, rfl⟩ : gs = [] ∧ q = [] := trodVars_none hV
  have k0 := h0
  have lt0 : ∀ x ∈ p0, x.block < W.heap.size := by obtain ⟨m, hm⟩ := k0; exact DataW.trod_lt m _ _ _ hm
  obtain ⟨a0, c0, l0, rfl, m0, s0, n0⟩ := open_words_sized Tryz.underlying40 Tryz.underlying39 (by kernel_rfl) (by kernel_rfl) (hval 0 40 v0 rfl rfl) h0 hsz 0 rfl rfl
  have k1 := h1
  have lt1 : ∀ x ∈ p1, x.block < W.heap.size := by obtain ⟨m, hm⟩ := k1; exact DataW.trod_lt m _ _ _ hm
  obtain ⟨a1, c1, l1, rfl, m1, s1, n1⟩ := open_words_sized Tryz.underlying40 Tryz.underlying39 (by kernel_rfl) (by kernel_rfl) (hval 1 40 v1 rfl rfl) h1 hsz 1 rfl rfl
  clear hA0 hval0 hsz0 hsz
  refine (EvalLinear_walk W hg ht a0 c0 l0 m0 s0 n0 a1 c1 l1 m1 s1 n1).mono fun e W' ⟨he, bel⟩ => ?_
  subst he
  exact ⟨_, rfl, _, _, _, [], _, [], hW', trodAll_mk1 (shut_bool Tryz.underlying4 _), (trodAll_cons_mk (Below.trod dLaidOut (by kernel_rfl) (of_decide_eq_true (by kernel_rfl)) k0 bel lt0) (trodAll_cons_mk (Below.trod dLaidOut (by kernel_rfl) (of_decide_eq_true (by kernel_rfl)) k1 bel lt1) trodAll_mk0)), rfl, bel.frame _, fun h => by cases h⟩
theorem over : Rows.EvalLinearSaid :=
  OpenClaim.holds_of_wide 6 Tryz.f6 rfl rfl rfl rfl rfl rfl rfl ⟨rfl, rfl, rfl, rfl, rfl⟩ rfl rfl rfl rfl rfl (by kernel_rfl) Tryz.func6 (by kernel_rfl)
    (of_decide_eq_true (by kernel_rfl)) (by unfold Func.isWrapper; first | (rw [if_pos (by decide +kernel)]; kernel_rfl) | (rw [if_neg (by decide +kernel)]; exact ⟨rfl, rfl⟩))
    (fun os started H enc _ => lifted os started H enc)
theorem proved : Rows.EvalLinearCardSaid :=
  Claim7.holds_tied_plain_at .later [] [.data, .data, .data, .handle, .sentinel, .sentinel] true Rows.evalLinearCard.stood.harness true
    over (fun _ h => by cases h) (by kernel_rfl) (fun _ h => by cases h) evalLinear_row_tie rfl ⟨rfl, rfl⟩ (by kernel_rfl) rfl
    (fun f fn hf hfn => by
      obtain rfl : f = 6 := Option.some.inj ((show Tryz.prog.funcNamed "twain/twainlaw15.EvalLinear" = some 6 by kernel_rfl).symm.trans hf) |>.symm
      obtain rfl : fn = Tryz.f6 := (Option.some.inj (Tryz.func6.symm.trans hfn)).symm
      exact ⟨by kernel_rfl, fun j t ht => by
        rw [Tryz.params6] at ht
        have hm : t ∈ [40, 40] := List.mem_of_getElem? (by simpa using ht)
        have hall : ∀ t ∈ [40, 40], Tryz.prog.wantsStandIn t = false := by
          intro t ht
          simp only [List.mem_cons, List.not_mem_nil, or_false] at ht
          rcases ht with rfl | rfl <;> kernel_rfl
        exact hall t hm⟩)
    (by kernel_rfl)
end Go.Proofs.YtghlnncfigkkaaaGreatDoor.lawEvalLinear
