/-
  Walks of wire.Number and of the law WireNumbers.
-/
import Derived.Test.YtkhbodjgckgepaaDoorWkDigests
import Derived.Test.YtkhbodjgckgepaaDoorWireC
import Derived.Test.YtkhbodjgckgepaaDoorFault
namespace Go.Proofs.YtkhbodjgckgepaaDoor
set_option linter.unusedVariables false
set_option linter.unusedSimpArgs false
open Go.RowKit
def wireN : ByteArray := { data := #[119, 105, 114, 101] }
set_option maxRecDepth 100000 in
set_option maxHeartbeats 1000000 in
theorem Number_good (n : Nat) (hn : n ≤ 4294967295) (w : World) :
    Calls Tryd.prog 13 #[.int .i64 n] w fun e w' => ∃ A cap, e = .returned (.tuple #[.slice A (numB n).length cap, .nilIface]) ∧ Own w' w.heap.size 5 A cap ((numB n).map V8) ∧ Below w.heap.size w w' := by
  have q1 : decide ((n : Int) < 0) = false := by simp
  have q2 : decide ((4294967295 : Int) < (n : Int)) = false := by simp; omega
  go_enter Tryd.func13, Tryd.ntmps13
  go_wp2_with fail
  refine (number_any n hn _).mono ?_
  rintro e w1 ⟨A, cap, rfl, ho, hb⟩
  have HO := Lib.hid ho
  have HB := Lib.hid hb
  clear ho hb
  go_wp2
  go_ret2
  exact ⟨A, cap, rfl, HO.out, HB.out⟩
set_option maxRecDepth 100000 in
set_option maxHeartbeats 1000000 in
theorem Number_bad (x : Int) (hx : x < 0 ∨ 4294967295 < x) (w : World) (hg : ETyped w) :
    Calls Tryd.prog 13 #[.int .i64 x] w fun e w' => ∃ v, e = .returned (.tuple #[.slice none 0 0, v]) ∧ IsErr w' v [(wireN, 0)] 1 ∧ Below w.heap.size w w' := by
  have HG := Lib.hid hg
  clear hg
  by_cases h1 : x < 0
  · have q1 : decide (x < 0) = true := by simp; omega
    go_enter Tryd.func13, Tryd.ntmps13
    go_wp2_with fail
    refine (Wrap_E 1 wireN 0 _ HG.out).mono ?_
    rintro e w1 ⟨v, rfl, he, hb⟩
    have HE := Lib.hid he
    have HB := Lib.hid hb
    clear he hb
    go_wp2
    go_ret2
    exact ⟨v, rfl, HE.out, HB.out⟩
  · have q1 : decide (x < 0) = false := by simp; omega
    have q2 : decide (4294967295 < x) = true := by simp; omega
    go_enter Tryd.func13, Tryd.ntmps13
    go_wp2_with fail
    refine (Wrap_E 1 wireN 0 _ HG.out).mono ?_
    rintro e w1 ⟨v, rfl, he, hb⟩
    have HE := Lib.hid he
    have HB := Lib.hid hb
    clear he hb
    go_wp2
    go_ret2
    exact ⟨v, rfl, HE.out, HB.out⟩
end Go.Proofs.YtkhbodjgckgepaaDoor
