/-
  The walk of the law LexScans.
-/
import Derived.Test.YtbiobefcagboeaaDoorRScan
import Derived.Test.YtbiobefcagboeaaDoorLAwake
import Derived.Test.YtbiobefcagboeaaDoorPlaces
import Derived.Test.YtbiobefcagboeaaDoorSame
import Derived.Test.YtbiobefcagboeaaDoorMin
namespace Go.Proofs.YtbiobefcagboeaaDoor
set_option linter.unusedVariables false
set_option linter.unusedSimpArgs false
open Go.RowKit
theorem run_min_5000 (w : World) (ts : Array TypeId) (t : TypeId) (a : Nat) : (Builtin.min_ ts t #[.int .i64 (a : Int), .int .i64 5000]).run Tryd.prog w = .ok (.int .i64 (minN a 5000 : Nat)) w := run_min_lit w ts t a 5000
attribute [local go_sem ↓] run_min_5000
set_option maxRecDepth 100000 in
set_option maxHeartbeats 4000000 in
theorem LexScans_walk (w : World) (hg : ETyped w) (ht : ErrT w) (s : ByteArray) (hsz : s.size ≤ maxLen) :
    Calls Tryd.prog 6 #[.string s] w fun e w' => e = .returned (.bool true) ∧ Below w.heap.size w w' := by
  obtain ⟨m1, m2, m3⟩ := minN_le s.size 5000
  obtain ⟨M, hM⟩ : ∃ M, M = minN s.size 5000 := ⟨_, rfl⟩
  rw [← hM] at m1 m2
  clear m3
  obtain ⟨T, hT⟩ : ∃ T, T = s.extract 0 M := ⟨_, rfl⟩
  have hTs : T.size ≤ 5000 := by rw [hT, ByteArray.size_extract]; omega
  have HT := Lib.hid hT
  have HTY := Lib.hid ht
  have HG := Lib.hid hg
  have HM := Lib.hid hM
  have hm := hM.symm
  clear hT hg ht hM
  go_enter Tryd.func6, Tryd.ntmps6
  go_wp2_with fail
  refine (awake_true _ HG.out HTY.out).mono ?_
  rintro e w1 ⟨rfl, b1⟩
  have HG1 := Lib.hid (HG.out.next b1)
  have HT1 := Lib.hid (HTY.out.next b1)
  have HB1 := Lib.hid b1
  clear b1
  go_wp2_with fail
  rw [← HT.out]
  refine (scan_any T w1 (by omega) HG1.out HT1.out).mono ?_
  rintro e w2 ⟨b2, h⟩
  have HG2 := Lib.hid (HG1.out.next b2)
  have HB2 := Lib.hid (bnext HB1.out b2)
  clear b2
  rcases h with ⟨l, A, cap, hR, rfl, o2⟩ | ⟨c, p, v, hR, rfl, he⟩
  · have hlen := (scanM_len hR).1
    have HR := Lib.hid hR
    have HO2 := Lib.hid o2
    clear hR o2
    go_wp2_with fail
    refine (rscan_any T w2 (by omega)).mono ?_
    rintro e w3 ⟨b3, h3⟩
    rw [HR.out] at h3
    rcases h3 with ⟨l', A', cap', e1, rfl, o3⟩ | ⟨c, p, e1, _⟩
    · injection e1 with e1
      subst e1
      have HB3 := Lib.hid (bnext HB2.out b3)
      have HO23 := Lib.hid (HO2.out.next b3)
      have HO3 := Lib.hid o3
      clear b3 o3
      go_wp2_with fail
      refine (At_nil _).mono ?_
      rintro e w4 ⟨rfl, b4⟩
      have HB4 := Lib.hid (bnext HB3.out b4)
      have HS := Lib.hid (same_any A A' cap cap' l w4 (by omega) (HO23.out.next b4).rd (HO3.out.next b4).rd)
      clear b4
      go_wp2_with fail
      refine HS.out.mono ?_
      rintro e w5 ⟨rfl, b5⟩
      have HB5 := Lib.hid (bnext HB4.out b5)
      clear b5
      go_wp2
      go_ret
      exact ⟨rfl, HB5.out⟩
    · cases e1
  · have hc := scanM_code hR
    have HR := Lib.hid hR
    have HE := Lib.hid he
    clear hR he
    go_wp2_with fail
    refine (rscan_any T w2 (by omega)).mono ?_
    rintro e w3 ⟨b3, h3⟩
    rw [HR.out] at h3
    rcases h3 with ⟨l', A', cap', e1, _, _⟩ | ⟨c', p', e1, rfl⟩
    · cases e1
    · injection e1 with e1 e2
      subst e1 e2
      have HB3 := Lib.hid (bnext HB2.out b3)
      have HG3 := Lib.hid (HG2.out.next b3)
      have HE3 := Lib.hid (HE.out.next b3)
      clear b3
      go_wp2_with fail
      refine (At_one lexN p c v w3 HG3.out HE3.out).mono ?_
      rintro e w4 ⟨rfl, b4⟩
      have HB4 := Lib.hid (bnext HB3.out b4)
      have HS := Lib.hid (same_any none none 0 0 [] w4 (by simp) (.inl rfl) (.inl rfl))
      clear b4
      have q : ((c : Int) == 0) = false := by rw [beq_eq_false_iff_ne]; omega
      obtain ⟨te, xe, rfl⟩ := HE.out.iface
      go_wp2_with fail
      refine HS.out.mono ?_
      rintro e w5 ⟨rfl, b5⟩
      have HB5 := Lib.hid (bnext HB4.out b5)
      clear b5
      go_wp2
      go_ret
      exact ⟨rfl, HB5.out⟩
end Go.Proofs.YtbiobefcagboeaaDoor
