/-
  The walk of the law WireNumbers.
-/
import Derived.Test.YtkhbodjgckgepaaDoorNumber
namespace Go.Proofs.YtkhbodjgckgepaaDoor
set_option linter.unusedVariables false
set_option linter.unusedSimpArgs false
open Go.RowKit
set_option maxRecDepth 100000 in
set_option maxHeartbeats 2000000 in
theorem WireNumbers_walk (w : World) (hg : ETyped w) (x : Int) (hx1 : -9223372036854775808 ≤ x) (hx2 : x ≤ 9223372036854775807) (A : Option Addr) (c : Nat) (l : List UInt8) (hlc : l.length ≤ c) (hcm : c ≤ 140737488351232) (hA : Rd w w.heap.size A (l.map V8)) :
    Calls Tryd.prog 5 #[.int .i64 x, .slice A l.length c] w fun e w' => e = .returned (.bool true) ∧ Below w.heap.size w w' := by
  have hm : l.length ≤ 140737488351232 := Nat.le_trans hlc hcm
  have hnil := Lib.hid (rd_nil8 hA)
  have HG := Lib.hid hg
  have HA := Lib.hid hA
  clear hg hA
  by_cases hx : x < 0 ∨ 4294967295 < x
  · have hbad := Lib.hid (fun W h => Number_bad x hx W h)
    have q1 : (decide (x < 0) = true) ∨ (decide (x < 0) = false ∧ decide (4294967295 < x) = true) := by
      by_cases h : x < 0
      · left; simp; omega
      · right; constructor <;> (simp; omega)
    clear hx
    rcases q1 with q1 | ⟨q1, q2⟩
    all_goals
      go_enter Tryd.func5, Tryd.ntmps5
      go_wp2_with fail
      refine (awake_true w).mono ?_
      rintro e w1 ⟨rfl, b1⟩
      have HG1 := Lib.hid (HG.out.next b1)
      have HA1 := Lib.hid (HA.out.next b1)
      have HB1 := Lib.hid b1
      clear b1
      go_wp2_with fail
      refine (hbad.out w1 HG1.out).mono ?_
      rintro e w2 ⟨v, rfl, he, b2⟩
      have HE := Lib.hid he
      have HG2 := Lib.hid (HG1.out.next b2)
      have HA2 := Lib.hid (HA1.out.next b2)
      have HB2 := Lib.hid (bnext HB1.out b2)
      clear he b2
      go_wp2_with fail
      refine (Code_any _ _ v w2 HG2.out HE.out).mono ?_
      rintro e w3 ⟨rfl, b3⟩
      have HA3 := Lib.hid (HA2.out.next b3)
      have HB3 := Lib.hid (bnext HB2.out b3)
      clear b3
      go_wp2_with (at_builtin; (refine app8 rfl (.tmp 43) (.tmp 44) rfl w3.heap.size (some ⟨w3.heap.size, 0, none⟩) 0 [] 0 rfl rfl (Own.made _ _ (Nat.le_refl _)) A l.length c w3.heap.size l rfl rfl (HA3.out.alloc (Nat.le_refl _) _) hnil.out (by omega) (by simp) ?_); intro A' cap' w4 hown' hgrow hat; rw [List.nil_append] at hown'; have b4 := made_grown8 hgrow; have HA4 := Lib.hid (HA3.out.next b4); have HB4 := Lib.hid (bnext HB3.out b4); have HO4 := Lib.hid hown'; clear hgrow hat hown' b4)
      refine (take_any A' cap' l _ w4 (by omega) HO4.out.rd).mono ?_
      rintro e w5 ⟨rfl, rfl⟩
      go_wp2_with fail
      refine (rtake_any A c l w4 hlc (by omega) HA4.out).mono ?_
      rintro e w6 ⟨rfl, b6⟩
      have HB6 := Lib.hid (bnext HB4.out b6)
      clear b6
      go_wp2
      go_ret
      exact ⟨rfl, HB6.out⟩
  · obtain ⟨n, rfl⟩ : ∃ n : Nat, x = (n : Int) := ⟨x.toNat, by omega⟩
    have hn : n ≤ 4294967295 := by omega
    have q1 : decide ((n : Int) < 0) = false := by simp
    have q2 : decide ((4294967295 : Int) < (n : Int)) = false := by simp; omega
    clear hx
    go_enter Tryd.func5, Tryd.ntmps5
    go_wp2_with fail
    refine (awake_true w).mono ?_
    rintro e w1 ⟨rfl, b1⟩
    have HA1 := Lib.hid (HA.out.next b1)
    have HB1 := Lib.hid b1
    clear b1
    go_wp2_with fail
    refine (Number_good n hn w1).mono ?_
    rintro e w2 ⟨A2, k2, rfl, o2, b2⟩
    have HA2 := Lib.hid (HA1.out.next b2)
    have HB2 := Lib.hid (bnext HB1.out b2)
    have c2 : ∀ W, Below w2.heap.size w2 W → (convert 22 9 (.slice A2 (numB n).length k2)).run Tryd.prog W = .ok (.string (strB (numB n))) W := fun W hW => conv_bytes A2 k2 _ (numB n) _ W rfl (o2.rd.below hW)
    have hb0 : Hid (Below w2.heap.size w2 w2.drew) := (Below.refl _ _).drew
    have hr := Lib.hid (fun W => rnumber_any n hn W)
    clear b2 o2
    go_wp2_with fail
    go_region_held (fun w' => Below w2.heap.size w2 w') (first | with_reducible exact hb0.out | exact hb1.out) (first | (go_at_call 15; refine (hr.out _).mono ?_; rintro e w3 ⟨A3, k3, rfl, o3, b3⟩; have hb1 := Lib.hid (bnext hb0.out b3); have c3 := conv_bytes A3 k3 _ (numB n) _ w3 rfl o3.rd; clear o3 b3))
    all_goals
      have HA3 := Lib.hid (HA2.out.next hb1.out)
      have HB3 := Lib.hid (bnext HB2.out hb1.out)
      clear hb1 hb0 hr
      go_wp2_with (at_builtin; (refine app8 rfl (.tmp 43) (.tmp 44) rfl w3.heap.size (some ⟨w3.heap.size, 0, none⟩) 0 [] 0 rfl rfl (Own.made _ _ (Nat.le_refl _)) A l.length c w3.heap.size l rfl rfl (HA3.out.alloc (Nat.le_refl _) _) hnil.out (by omega) (by simp) ?_); intro A' cap' w4 hown' hgrow hat; rw [List.nil_append] at hown'; have b4 := made_grown8 hgrow; have HA4 := Lib.hid (HA3.out.next b4); have HB4 := Lib.hid (bnext HB3.out b4); have HO4 := Lib.hid hown'; clear hgrow hat hown' b4)
      refine (take_any A' cap' l _ w4 (by omega) HO4.out.rd).mono ?_
      rintro e w5 ⟨rfl, rfl⟩
      go_wp2_with fail
      refine (rtake_any A c l w4 hlc (by omega) HA4.out).mono ?_
      rintro e w6 ⟨rfl, b6⟩
      have HB6 := Lib.hid (bnext HB4.out b6)
      clear b6
      go_wp2
      go_ret
      exact ⟨rfl, HB6.out⟩
end Go.Proofs.YtkhbodjgckgepaaDoor
