/-
  Walk of the document's between.
-/
import Derived.Test.YtghlnncfigkkaaaGreatDoorQLexA
namespace Go.Proofs.YtghlnncfigkkaaaGreatDoor
set_option linter.unusedVariables false
set_option linter.unusedSimpArgs false
open Go.RowKit
set_option maxRecDepth 100000 in
set_option maxHeartbeats 1000000 in
theorem between_any (s : ByteArray) (at_ : Nat) (w : World) (hs : s.size ≤ 100000) (ha : at_ ≤ s.size) :
  Calls Tryz.prog 85 #[.string s, .int .i64 at_] w fun e w' => e = .returned (.int .i64 (skipAt s false at_ : Nat)) ∧ w = w' := by
 obtain ⟨R, hR⟩ : ∃ R, R = skipAt s false at_ := ⟨_, rfl⟩
 rw [← hR]
 have HR := Lib.hid hR
 clear hR
 go_enter Tryz.func85, Tryz.ntmps85
 go_wp2
 go_loop [1] (fun iv => ∃ k : Nat, k ≤ s.size ∧ iv = .int .i64 k ∧ R = skipAt s false k) (fun iv => s.size - (intOf iv).toNat)
 case atStart => exact ⟨at_, ha, rfl, HR.out⟩
 case round =>
  obtain ⟨k, hk, rfl, hrk⟩ := hrel
  have HK := Lib.hid hrk
  clear hrk
  by_cases hlt : k < s.size
  ·by_cases h35 : (s[k].toNat : Int) = 35
   ·have q1 : ((s[k].toNat : Int) == 35) = true := by rw [beq_iff_eq]; exact h35
    have HH := Lib.hid (skipAt_hash s hlt h35)
    have H35 := Lib.hid h35
    clear h35
    go_wp2
    go_loop [1] (fun iv => ∃ j : Nat, k ≤ j ∧ j ≤ s.size ∧ iv = .int .i64 j ∧ R = skipAt s true j) (fun iv => s.size - (intOf iv).toNat)
    case atStart => exact ⟨k, Nat.le_refl _, hk, rfl, by rw [HK.out, HH.out.2]⟩
    case round =>
     obtain ⟨j, hkj, hj, rfl, hrj⟩ := hrel
     have HJ := Lib.hid hrj
     clear hrj
     by_cases hlj : j < s.size
     ·by_cases h10 : (s[j].toNat : Int) = 10
      ·have hne : k ≠ j := by
        rintro rfl
        have := H35.out
        omega
       have hkj' : k < j := by omega
       have q2 : ((s[j].toNat : Int) != 10) = false := by rw [bne_eq_false_iff_eq]; exact h10
       have HL := Lib.hid (skipAt_line s hlj h10)
       clear h10 hne
       go_wp2
       exact ⟨⟨j, by omega, rfl, by rw [HJ.out, HL.out]⟩, by simp [intOf]; omega⟩
      ·have q2 : ((s[j].toNat : Int) != 10) = true := by rw [bne_iff_ne]; exact h10
       have HL := Lib.hid (skipAt_rem s hlj h10)
       clear h10
       go_wp2
       exact ⟨⟨j + 1, by omega, by omega, by go_num, by rw [HJ.out, HL.out]⟩, by simp [intOf]; omega⟩
     ·obtain rfl : j = s.size := by omega
      have HE := Lib.hid (skipAt_end s true)
      have HE2 := Lib.hid (skipAt_end s false)
      go_wp2
      exact ⟨⟨s.size, by omega, rfl, by rw [HJ.out, HE.out, HE2.out]⟩, by simp [intOf]; omega⟩
   ·have q1 : ((s[k].toNat : Int) == 35) = false := by rw [beq_eq_false_iff_ne]; exact h35
    by_cases hb : (s[k].toNat : Int) = 32 ∨ (s[k].toNat : Int) = 10 ∨ (s[k].toNat : Int) = 9 ∨ (s[k].toNat : Int) = 13
    ·have HF := Lib.hid (skipAt_blank s hlt hb)
     have HBB := Lib.hid hb
     clear h35 hb
     go_wp2
     all_goals first
      | exact ⟨⟨k + 1, by omega, by go_num, by rw [HK.out, HF.out]⟩, by simp [intOf]; omega⟩
      | (exfalso; have := HBB.out; simp_all; done)
    ·have HF := Lib.hid (skipAt_stop s hlt h35 hb)
     have q2 : ((s[k].toNat : Int) != 32) = true := by rw [bne_iff_ne]; omega
     have q3 : ((s[k].toNat : Int) != 10) = true := by rw [bne_iff_ne]; omega
     have q4 : ((s[k].toNat : Int) != 9) = true := by rw [bne_iff_ne]; omega
     have q5 : ((s[k].toNat : Int) != 13) = true := by rw [bne_iff_ne]; omega
     clear h35 hb
     go_wp2
     go_ret
     exact ⟨by rw [HK.out, HF.out]; rfl, rfl⟩
  ·obtain rfl : k = s.size := by omega
   have HE := Lib.hid (skipAt_end s false)
   go_wp2
   go_ret
   exact ⟨by rw [HK.out, HE.out]; rfl, rfl⟩
end Go.Proofs.YtghlnncfigkkaaaGreatDoor
