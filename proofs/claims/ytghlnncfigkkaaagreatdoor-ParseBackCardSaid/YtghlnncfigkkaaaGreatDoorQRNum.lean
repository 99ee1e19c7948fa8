/-
  The reference's Number.
-/
import Derived.Test.YtghlnncfigkkaaaGreatDoorQMem
import Derived.Test.YtghlnncfigkkaaaGreatDoorQLexA
import Derived.Test.YtghlnncfigkkaaaGreatDoorQLexN
import Derived.Deep.RegionWith
import Derived.BigQuiet
namespace Go.Proofs.YtghlnncfigkkaaaGreatDoor
set_option linter.unusedVariables false
set_option linter.unusedSimpArgs false
open Go.RowKit
theorem u64_id {z : Int} (h0 : 0 ≤ z) (h1 : z < 18446744073709551616) : IntKind.u64.wrap z = z := by
 unfold IntKind.wrap
 simp [IntKind.bits, IntKind.signed]
 omega
theorem u8_id {z : Int} (h0 : 0 ≤ z) (h1 : z < 256) : IntKind.u8.wrap z = z := by
 unfold IntKind.wrap
 simp [IntKind.bits, IntKind.signed]
 omega
theorem dec_step (l : List UInt8) (i : Nat) (c : UInt8) (h : l[i]? = some c) : decV (l.take (i + 1)) = decV (l.take i) * 10 + (c.toNat - 48) := by
 rw [List.take_add_one, h]
 exact decV_snoc _ _
theorem dec_take_le (l : List UInt8) (i : Nat) : decV (l.take i) ≤ decV l := decA_take l 0 i
def NumRel (l : List UInt8) (nv iv : Value) : Prop := ∃ (i m : Nat), i ≤ l.length ∧ iv = .int .i64 i ∧ nv = .int .u64 m ∧ m = decV (l.take i) ∧ m < 18446744073709551616
def NumOut (l : List UInt8) (e : Ending) : Prop := ∃ (v : Int) (ok : Bool), e = .returned (.tuple #[.int .u64 v, .bool ok]) ∧ (ok = true ↔ decV l < 18446744073709551616 ∧ (l.length = 1 ∨ ∀ c, l[0]? = some c → c.toNat ≠ 48)) ∧ (decV l < 18446744073709551616 → v = decV l)
set_option maxRecDepth 100000 in
set_option maxHeartbeats 1000000 in
theorem number_any (s : ByteArray) (w : World) (hs : s.size ≤ 100000) (h1 : 1 ≤ s.size) (hd : ∀ c ∈ s.data.toList, digB c = true) :
  Calls Tryz.prog 136 #[.string s] w fun e w' => NumOut s.data.toList e ∧ Below w.heap.size w w' := by
 have hlen := len_data s
 have HD := Lib.hid hd
 clear hd
 go_enter Tryz.func136, Tryz.ntmps136
 go_wp2
 go_loopw [4, 5] (fun nv iv wr => NumRel s.data.toList nv iv ∧ wr = w) (fun _ iv _ => s.size - (intOf iv).toNat)
 case atStart => exact ⟨⟨0, 0, by omega, rfl, rfl, rfl, by omega⟩, rfl⟩
 case round =>
  obtain ⟨⟨i, m, hi, rfl, rfl, hm, hmb⟩, rfl⟩ := hrel
  by_cases hlt : i < s.size
  ·have hsi : s.data.toList[i]? = some s[i] := by
    rw [List.getElem?_eq_getElem (by omega)]; rfl
   have hdg := (digB_iff s[i]).1 (HD.out _ (List.mem_of_getElem? hsi))
   have hst := dec_step _ _ _ hsi
   have hle := dec_take_le s.data.toList (i + 1)
   obtain ⟨d, hdd⟩ : ∃ d : Nat, d = s[i].toNat - 48 := ⟨_, rfl⟩
   have e1 : IntKind.u8.wrap ((s[i].toNat : Int) - 48) = (d : Int) := by rw [u8_id (by omega) (by omega)]; omega
   have e2 : IntKind.u64.wrap (d : Int) = (d : Int) := u64_id (by omega) (by omega)
   rw [← hm, ← hdd] at hst
   have HH := Lib.hid hst
   have HLE := Lib.hid hle
   have HM := Lib.hid hm
   have hd9 : d ≤ 9 := by omega
   clear hsi hst hle hm hdd
   by_cases hbig : m * 10 + d < 18446744073709551616
   ·have e3 : IntKind.u64.wrap ((m : Int) * 10) = (m : Int) * 10 := u64_id (by omega) (by omega)
    have e4 : IntKind.u64.wrap ((m : Int) * 10 + (d : Int)) = (m : Int) * 10 + (d : Int) := u64_id (by omega) (by omega)
    have q1 : decide ((1844674407370955161 : Int) < (m : Int)) = false := by rw [decide_eq_false_iff_not]; omega
    by_cases hm1 : m = 1844674407370955161
    ·have q2 : ((m : Int) == 1844674407370955161) = true := by rw [beq_iff_eq]; omega
     have q3 : decide ((5 : Int) < (d : Int)) = false := by rw [decide_eq_false_iff_not]; omega
     have HB := Lib.hid hbig
     have HM1 := Lib.hid hm1
     clear hbig hm1
     go_wp2
     exact ⟨⟨⟨i + 1, m * 10 + d, by omega, rfl, rfl, HH.out.symm, HB.out⟩, trivial⟩, by simp [intOf]; omega⟩
    ·have q2 : ((m : Int) == 1844674407370955161) = false := by rw [beq_eq_false_iff_ne]; omega
     have HB := Lib.hid hbig
     clear hbig hm1
     go_wp2
     exact ⟨⟨⟨i + 1, m * 10 + d, by omega, rfl, rfl, HH.out.symm, HB.out⟩, trivial⟩, by simp [intOf]; omega⟩
   ·have HB := Lib.hid (show ¬ decV s.data.toList < 18446744073709551616 from by have := HLE.out; have := HH.out; omega)
    by_cases hm1 : m = 1844674407370955161
    ·have q1 : decide ((1844674407370955161 : Int) < (m : Int)) = false := by rw [decide_eq_false_iff_not]; omega
     have q2 : ((m : Int) == 1844674407370955161) = true := by rw [beq_iff_eq]; omega
     have q3 : decide ((5 : Int) < (d : Int)) = true := by rw [decide_eq_true_eq]; omega
     clear hbig hm1
     go_wp2
     go_ret2
     exact ⟨⟨0, false, rfl, ⟨fun h => (by cases h), fun h => absurd h.1 HB.out⟩, fun h => absurd h HB.out⟩, Below.refl _ _⟩
    ·have q1 : decide ((1844674407370955161 : Int) < (m : Int)) = true := by rw [decide_eq_true_eq]; omega
     clear hbig hm1
     go_wp2
     go_ret2
     exact ⟨⟨0, false, rfl, ⟨fun h => (by cases h), fun h => absurd h.1 HB.out⟩, fun h => absurd h HB.out⟩, Below.refl _ _⟩
  ·obtain rfl : i = s.size := by omega
   rw [List.take_of_length_le (by omega)] at hm
   have HM := Lib.hid hm
   clear hm
   have hs0 : s.data.toList[0]? = some s[0] := by
    rw [List.getElem?_eq_getElem (by omega)]; rfl
   have H0 := Lib.hid hs0
   clear hs0
   have z0 : (0 : Int) < (s.size : Int) := by omega
   have z1 : 0 < s.size := by omega
   have z2 : ¬ s.size = 0 := by omega
   have HL := Lib.hid hlen
   have HMB := Lib.hid hmb
   clear hlen hmb
   by_cases he1 : s.size = 1
   ·have q : ((s.size : Int) == 1) = true := by rw [beq_iff_eq]; omega
    have HE := Lib.hid he1
    clear he1
    go_wp2_with fail
    go_quiet (fail)
    go_wp2
    go_ret2
    exact ⟨⟨m, true, rfl, ⟨fun _ => ⟨by rw [← HM.out]; exact HMB.out, .inl (HL.out.trans HE.out)⟩, fun _ => rfl⟩, fun _ => by rw [HM.out]⟩, (below_drewN (Below.refl _ _) _)⟩
   ·have q : ((s.size : Int) == 1) = false := by rw [beq_eq_false_iff_ne]; omega
    have HE := Lib.hid he1
    clear he1
    by_cases hz : s[0].toNat = 48
    ·have q4 : ((s[0].toNat : Int) != 48) = false := by rw [bne_eq_false_iff_eq]; omega
     have HZ := Lib.hid hz
     clear hz
     go_wp2_with fail
     go_quiet (fail)
     go_wp2
     go_ret2
     exact ⟨⟨m, false, rfl, ⟨fun h => (by cases h), fun h => by rcases h.2 with h | h; exact absurd (HL.out.symm.trans h) HE.out; exact absurd HZ.out (h _ H0.out)⟩, fun _ => by rw [HM.out]⟩, (below_drewN (Below.refl _ _) _)⟩
    ·have q4 : ((s[0].toNat : Int) != 48) = true := by rw [bne_iff_ne]; omega
     have HZ := Lib.hid hz
     clear hz
     go_wp2_with fail
     go_quiet (fail)
     go_wp2
     go_ret2
     exact ⟨⟨m, true, rfl, ⟨fun _ => ⟨by rw [← HM.out]; exact HMB.out, .inr (fun c hc => by rw [H0.out] at hc; cases hc; exact HZ.out)⟩, fun _ => rfl⟩, fun _ => by rw [HM.out]⟩, (below_drewN (Below.refl _ _) _)⟩
end Go.Proofs.YtghlnncfigkkaaaGreatDoor
