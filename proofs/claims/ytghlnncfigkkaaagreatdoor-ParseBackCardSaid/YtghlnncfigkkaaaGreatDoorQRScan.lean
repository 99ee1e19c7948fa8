/-
  The walk of the reference's Scan.
-/
import Derived.Test.YtghlnncfigkkaaaGreatDoorQScan
import Derived.Test.YtghlnncfigkkaaaGreatDoorQLexBR
import Derived.Test.YtghlnncfigkkaaaGreatDoorQROneB
namespace Go.Proofs.YtghlnncfigkkaaaGreatDoor
set_option linter.unusedVariables false
set_option linter.unusedSimpArgs false
open Go.RowKit
theorem rone_any (s : ByteArray) (k : Nat) (w : World) (hs : s.size ≤ 100000) (hk : k < s.size) :
  Calls Tryz.prog 86 #[.string s, .int .i64 k] w (OneOut w s k) := by
 cases hd : digB s[k] with
 | true => exact rone_digit s k w hs hk hd
 | false =>
  cases hl : lowB s[k] with
  | true => exact rone_name s k w hs hk hd hl
  | false =>
   by_cases h62 : (s[k].toNat : Int) = 62
   ·exact rone_more s k w hs hk hd hl h62
   ·exact rone_sign s k w hs hk hd hl h62
def RScanOut (W : World) (R : ScanR) (e : Ending) (w' : World) : Prop :=
 Below W.heap.size W w' ∧ ((∃ l A cap, R = .toks l ∧ e = .returned (.tuple #[.slice A l.length cap, .int .i64 0, .int .i64 0]) ∧ OwnT w' W.heap.size A cap l) ∨
  ∃ c p, R = .err c p ∧ e = .returned (.tuple #[.slice none 0 0, .int .i64 (c : Nat), .int .i64 (p : Nat)]))
set_option maxRecDepth 100000 in
set_option maxHeartbeats 4000000 in
theorem rscan_any (s : ByteArray) (w : World) (hs : s.size ≤ 100000) :
  Calls Tryz.prog 46 #[.string s] w (RScanOut w (scanM s)) := by
 by_cases hlong : 4096 < s.size
 ·have q1 : decide ((4096 : Int) < (s.size : Int)) = true := by simp; omega
  have hm : scanM s = .err 3 s.size := by unfold scanM; rw [if_pos hlong]
  have HM := Lib.hid hm
  clear hm hlong
  go_enter Tryz.func46, Tryz.ntmps46
  go_wp2
  go_ret3
  exact ⟨Below.refl _ _, .inr ⟨_, _, HM.out, rfl⟩⟩
 ·have q1 : decide ((4096 : Int) < (s.size : Int)) = false := by simp; omega
  obtain ⟨R, hR⟩ : ∃ R, R = scanGo (s.size + 1) s (skipAt s false 0) [] := ⟨_, rfl⟩
  have hm : scanM s = R := by unfold scanM; rw [if_neg hlong, hR]
  rw [hm]
  have HR := Lib.hid hR
  have hk0 := skipAt_le s false (Nat.zero_le s.size)
  obtain ⟨k0, hk0'⟩ : ∃ k0, k0 = skipAt s false 0 := ⟨_, rfl⟩
  rw [← hk0'] at hk0
  have HK0 := Lib.hid hk0'
  have hs2 : s.size ≤ 4096 := by omega
  clear hm hlong hR hk0'
  go_enter Tryz.func46, Tryz.ntmps46
  go_wp2_with fail
  refine (between_any s 0 w hs (Nat.zero_le _)).mono ?_
  rintro e w1 ⟨rfl, rfl⟩
  rw [← HK0.out]
  go_wp2
  go_loopw [5, 6] (fun ov iv wr => ScanRel w s R ov iv wr) (fun _ iv _ => s.size - (intOf iv).toNat)
  case atStart => exact ⟨s.size + 1, k0, [], none, 0, hk0.1, by omega, rfl, rfl, by rw [HR.out, HK0.out], by simp, OwnT.nil _ _, Below.refl _ _⟩
  case round =>
   obtain ⟨f, k, l, A, cap, hk, hf, rfl, rfl, hrr, hl, hown, hbel⟩ := hrel
   have HRR := Lib.hid hrr
   have HO := Lib.hid hown
   have HB := Lib.hid hbel
   obtain ⟨f, rfl⟩ : ∃ g, f = g + 1 := ⟨f - 1, by omega⟩
   clear hrr hown hbel
   by_cases hlt : k < s.size
   ·go_wp2_with fail
    refine (rone_any s k wr hs hlt).mono ?_
    rintro e w1 ⟨b1, a, b, c, d, ok, rfl, hone⟩
    have HO1 := Lib.hid (HO.out.next b1)
    have HB1 := Lib.hid (bnext HB.out b1)
    clear b1
    rcases hone with ⟨hn, rfl⟩ | ⟨t, n, v, hn, rfl, rfl, rfl, rfl, rfl⟩
    ·have HE := Lib.hid (scanGo_bad (f := f) (l := l) hlt hn)
     have HB2 := Lib.hid (bnext HB1.out ((Below.refl _ _).alloc (Nat.le_refl _) (tokO #[.int .i64 a, .string b, .int .u64 c, .int .i64 d])))
     clear hn
     go_wp2
     go_ret3
     exact ⟨HB2.out, .inr ⟨_, _, by rw [HRR.out, HE.out], rfl⟩⟩
    ·obtain ⟨n1, n2, n3, n4⟩ := oneM_bounds hn
     by_cases hfull : l.length = 512
     ·have HE := Lib.hid (scanGo_full (f := f) hlt hn hfull)
      have q2 : decide ((512 : Int) ≤ (l.length : Int)) = true := by simp; omega
      have HB2 := Lib.hid (bnext HB1.out ((Below.refl _ _).alloc (Nat.le_refl _) (tokO #[.int .i64 t, .string (s.extract k (k + n)), .int .u64 v, .int .i64 k])))
      clear hn hfull
      go_wp2
      go_ret3
      exact ⟨HB2.out, .inr ⟨_, _, by rw [HRR.out, HE.out], rfl⟩⟩
     ·have HE := Lib.hid (scanGo_step (f := f) hlt hn hfull)
      have q2 : decide ((512 : Int) ≤ (l.length : Int)) = false := by simp; omega
      have hl2 : l.length + 1 ≤ 512 := by omega
      have hsz : (s.extract k (k + n)).size = n := by rw [ByteArray.size_extract]; omega
      have HSZ := Lib.hid hsz
      clear hn hfull hsz
      go_wp2_with (at_builtin; (refine appTok rfl (.tmp 33) (.tmp 35) rfl w.heap.size A cap l l.length rfl rfl (HO1.out.next (two_belowN w1 _ _ _ (Nat.le_refl _))) (w1.heap.size + 1) rfl ⟨t, s.extract k (k + n), v, k⟩ (two_new w1 _ _) (by omega) (by have := HB1.out.size; simp; omega) ?_); intro A' cap' w5 hown' hgrow; go_loud (have H5 := Lib.hid (tok_grown HO1.out HB1.out.size HB1.out hgrow)); go_loud (have c5 : w5.cell? ⟨w1.heap.size, 1, none⟩ = some (.string (s.extract k (k + n))) := text_kept hgrow HO1.out (two_old w1 _ _ _ _ _)); go_loud (have O5 := Lib.hid hown'; clear hown' hgrow))
      rw [show (k : Int) + (n : Int) = ((k + n : Nat) : Int) from rfl]
      refine (between_any s (k + n) w5 hs n2).mono ?_
      rintro e w6 ⟨rfl, rfl⟩
      have HS := Lib.hid (skipAt_le s false n2)
      go_wp2
      obtain ⟨hs1, hs3⟩ := HS.out
      refine ⟨⟨f, skipAt s false (k + n), l ++ [⟨t, s.extract k (k + n), v, k⟩], A', cap', hs1, by omega, rfl, by rw [List.length_append]; rfl, by rw [HRR.out, HE.out], by rw [List.length_append]; exact hl2, O5.out, H5.out⟩, ?_⟩
      show s.size - ((skipAt s false (k + n) : Nat) : Int).toNat < s.size - ((k : Nat) : Int).toNat
      rw [Int.toNat_natCast, Int.toNat_natCast]
      omega
   ·have e0 : k = s.size := by omega
    have HE := Lib.hid (scanGo_end (f := f) (s := s) (l := l) hlt)
    go_wp2_with (at_builtin; (refine appTok rfl (.tmp 44) (.tmp 48) rfl w.heap.size A cap l l.length rfl rfl (HO.out.next ((Below.refl _ _).alloc (Nat.le_refl _) _)) wr.heap.size rfl (endTok s) (heap_alloc_new _ _) (by omega) (by have := HB.out.size; simp; omega) ?_); intro A' cap' w5 hown' hgrow; have H5 := Lib.hid ((HB.out.alloc HB.out.size _).grown hgrow (by have := HB.out.size; simp; omega) (fun k hk => (HO.out.lt k hk).1)); have O5 := Lib.hid hown'; clear hown' hgrow)
    go_ret3
    exact ⟨H5.out, .inl ⟨_, _, _, by rw [HRR.out, HE.out], by rw [List.length_append]; rfl, O5.out⟩⟩
end Go.Proofs.YtghlnncfigkkaaaGreatDoor
