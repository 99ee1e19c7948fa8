/-
  The walk of wire.Encode at a message that is refused.
-/
import Derived.Test.YtkhbodjgckgepaaDoorEnc
import Derived.Test.YtkhbodjgckgepaaDoorNumber
namespace Go.Proofs.YtkhbodjgckgepaaDoor
set_option linter.unusedVariables false
set_option linter.unusedSimpArgs false
open Go.RowKit
set_option maxRecDepth 100000 in
set_option maxHeartbeats 1000000 in
theorem encode_range (x : Int) (hx : x < 0 ∨ 4294967295 < x) (A : Option Addr) (n c : Nat) (w : World) (hg : ETyped w) :
    Calls Tryd.prog 18 #[.agg #[.int .i64 x, .slice A n c]] w fun e w' => ∃ v, e = .returned (.tuple #[.slice none 0 0, v]) ∧ IsErr w' v [(wireN, 0)] 1 ∧ Below w.heap.size w w' := by
  have HG := Lib.hid (hg.next ((Below.refl w.heap.size w).alloc (Nat.le_refl _) (.cells #[.int .i64 x, .slice A n c] 42)))
  clear hg
  have q1 : (decide (x < 0) = true) ∨ (decide (x < 0) = false ∧ decide (4294967295 < x) = true) := by
    by_cases h : x < 0
    · left; simp; omega
    · right; constructor <;> (simp; omega)
  clear hx
  rcases q1 with q1 | ⟨q1, q2⟩
  all_goals
    go_enter Tryd.func18, Tryd.ntmps18
    go_wp2_with fail
    refine (Wrap_E 1 wireN 0 _ HG.out).mono ?_
    rintro e w1 ⟨v, rfl, he, hb⟩
    have HE := Lib.hid he
    have HB := Lib.hid (((Below.refl _ _).alloc (Nat.le_refl _) _).trans (hb.mono (by simp)) : Below w.heap.size w w1)
    clear he hb
    go_wp2
    go_ret2
    exact ⟨v, rfl, HE.out, HB.out⟩
set_option maxRecDepth 100000 in
set_option maxHeartbeats 1000000 in
theorem encode_long (x : Nat) (hx : x ≤ 4294967295) (A : Option Addr) (n c : Nat) (w : World) (hg : ETyped w) (hn : 65536 < n) :
    Calls Tryd.prog 18 #[.agg #[.int .i64 x, .slice A n c]] w fun e w' => ∃ v, e = .returned (.tuple #[.slice none 0 0, v]) ∧ IsErr w' v [(wireN, n)] 3 ∧ Below w.heap.size w w' := by
  have HG := Lib.hid (hg.next ((Below.refl w.heap.size w).alloc (Nat.le_refl _) (.cells #[.int .i64 x, .slice A n c] 42)))
  clear hg
  have q1 : decide ((x : Int) < 0) = false := by simp
  have q2 : decide ((4294967295 : Int) < (x : Int)) = false := by simp; omega
  have q3 : decide ((65536 : Int) < (n : Int)) = true := by simp; omega
  go_enter Tryd.func18, Tryd.ntmps18
  go_wp2_with fail
  refine (Wrap_E 3 wireN n _ HG.out).mono ?_
  rintro e w1 ⟨v, rfl, he, hb⟩
  have HE := Lib.hid he
  have HB := Lib.hid (((Below.refl _ _).alloc (Nat.le_refl _) _).trans (hb.mono (by simp)) : Below w.heap.size w w1)
  clear he hb
  go_wp2
  go_ret2
  exact ⟨v, rfl, HE.out, HB.out⟩
end Go.Proofs.YtkhbodjgckgepaaDoor
