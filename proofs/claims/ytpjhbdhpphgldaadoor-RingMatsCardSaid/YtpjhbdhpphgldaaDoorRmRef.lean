/-
  The walk of the document's Mat.
-/
import Derived.Test.YtpjhbdhpphgldaaDoorRmMat
import Derived.Test.YtpjhbdhpphgldaaDoorAppW
import Derived.BigQuiet
import Derived.Deep.QuietTactic
import Derived.Deep.OwnRows
namespace Go.Proofs.YtpjhbdhpphgldaaDoor
set_option linter.unusedVariables false
set_option linter.unusedSimpArgs false
open Go.RowKit
attribute [local go_sem ↓] u64_add u64_mul u64_beq u64_bne
theorem dot_zero (xs ys : List UInt64) (k n p : Nat) : dotW xs ys k n p 0 = 0 := by unfold dotW; rfl
theorem dot_cell (xs ys : List UInt64) (k n i j t : Nat) (hj : j < n) : addW (dotW xs ys k n (i * n + j) t) (mulW (nthW xs (i * k + t)) (nthW ys (t * n + j))) = dotW xs ys k n (i * n + j) (t + 1) := by
  have hd : (i * n + j) / n = i := by
    rw [Nat.mul_comm, Nat.mul_add_div (by omega), Nat.div_eq_of_lt hj]; omega
  have hm : (i * n + j) % n = j := by
    rw [Nat.mul_comm, Nat.mul_add_mod, Nat.mod_eq_of_lt hj]
  rw [show dotW xs ys k n (i * n + j) (t + 1) = addW (dotW xs ys k n (i * n + j) t) (mulW (nthW xs ((i * n + j) / n * k + t)) (nthW ys (t * n + (i * n + j) % n))) from by rw [dotW], hd, hm]
theorem mat_take (xs ys : List UInt64) (m k n : Nat) {r : Nat} (h : r < m * n) : (matW xs ys m k n).take (r + 1) = (matW xs ys m k n).take r ++ [dotW xs ys k n r k] := by
  rw [List.take_succ_eq_append_getElem (by rw [length_matW]; exact h)]
  congr 2
  have h1 := nthW_matW xs ys m k n h
  rw [nthW_eq, List.getD_eq_getElem?_getD, List.getElem?_eq_getElem (by rw [length_matW]; exact h)] at h1
  exact h1
theorem step_below {w w' : World} {B : Nat} {A : Option Addr} {cap : Nat} {e : TypeId} {xs : List Value} {o : Obj} (hown : Own w B e A cap xs) (hB : B ≤ w.heap.size) (h : (w.alloc o).grownBy w' (blk A)) : Below B w w' :=
  ((Below.refl B w).alloc hB _).grown h (by simp; omega) (fun k hk => (hown.lt k hk).1)
def RMatRel (W : World) (L : List UInt64) (hi r step : Nat) (ov iv : Value) (wr : World) : Prop :=
  ∃ (p : Nat) (A : Option Addr) (cap : Nat) (cur : List UInt64), p ≤ hi ∧ iv = .int .i64 p ∧ ov = .slice A cur.length cap ∧ cur = L.take (r + p * step) ∧ Own wr W.heap.size 25 A cap (cur.map U) ∧ Below W.heap.size W wr
set_option maxRecDepth 100000 in
set_option maxHeartbeats 1000000 in
theorem rMat_any (A A' : Option Addr) (c c' : Nat) (l l' : List UInt64) (m k n : Nat) (w : World)
    (hm1 : 1 ≤ m) (hm : m ≤ 1024) (hk1 : 1 ≤ k) (hk : k ≤ 1024) (hn1 : 1 ≤ n) (hn : n ≤ 1024) (hl : l.length = m * k) (hl' : l'.length = k * n)
    (hA : Rd w w.heap.size A (l.map U)) (hA' : Rd w w.heap.size A' (l'.map U)) :
    Calls Tryd.prog 8 #[.slice A l.length c, .slice A' l'.length c', .int .i64 m, .int .i64 k, .int .i64 n] w fun e w' =>
      ∃ A2 c2, e = .returned (.slice A2 (m * n) c2) ∧ Own w' w.heap.size 25 A2 c2 ((matW l l' m k n).map U) ∧ Below w.heap.size w w' := by
  have hmn : m * n ≤ 1048576 := Nat.mul_le_mul hm hn
  have hmk : m * k ≤ 1048576 := Nat.mul_le_mul hm hk
  have hkn : k * n ≤ 1048576 := Nat.mul_le_mul hk hn
  have HL := Lib.hid hl
  have HL' := Lib.hid hl'
  have HA := Lib.hid hA
  have HA' := Lib.hid hA'
  clear hl hl' hA hA'
  obtain ⟨L, hL⟩ : ∃ L, L = matW l l' m k n := ⟨_, rfl⟩
  have hLl : L.length = m * n := by rw [hL, length_matW]
  have HM := Lib.hid hL
  have HLL := Lib.hid hLl
  rw [← hL]
  clear hL hLl
  go_enter Tryd.func8, Tryd.ntmps8
  go_wp2
  go_loopw [11, 12] (fun ov iv wr => RMatRel w L m 0 n ov iv wr) (fun _ iv _ => m - (intOf iv).toNat)
  case atStart => exact ⟨0, none, 0, [], Nat.zero_le _, rfl, rfl, by simp, Own.nil _ _ _, Below.refl _ _⟩
  case round =>
    obtain ⟨p, A1, k1, cur, hp, rfl, rfl, hcur, hown, hbel⟩ := hrel
    obtain ⟨wo, rfl⟩ : ∃ wo : World, wo = wr := ⟨_, rfl⟩
    have HC := Lib.hid hcur
    have HO := Lib.hid hown
    have HB := Lib.hid hbel
    clear hcur hown hbel
    by_cases hlt : p < m
    · go_wp2
      go_loopw [11, 13] (fun ov jv wr => RMatRel w L n (p * n) 1 ov jv wr) (fun _ jv _ => n - (intOf jv).toNat)
      case atStart => exact ⟨0, A1, k1, cur, Nat.zero_le _, rfl, rfl, by rw [HC.out]; simp, HO.out, HB.out⟩
      case round =>
        obtain ⟨q, A2, k2, now, hq, rfl, rfl, hnow, hown, hbel⟩ := hrel
        obtain ⟨wm, rfl⟩ : ∃ wm : World, wm = wr := ⟨_, rfl⟩
        have HN := Lib.hid hnow
        have HO2 := Lib.hid hown
        have HB2 := Lib.hid hbel
        have hcl : now.length ≤ 1048576 := by rw [hnow, List.length_take, HLL.out]; omega
        clear hnow hown hbel
        by_cases hlq : q < n
        · go_wp2
          go_loopw [14, 15] (fun xv tv wr => ∃ s : Nat, s ≤ k ∧ tv = .int .i64 s ∧ xv = U (dotW l l' k n (p * n + q) s) ∧ ∃ d, wr = wm.drewN d) (fun _ tv _ => k - (intOf tv).toNat)
          case atStart => exact ⟨0, by omega, rfl, by rw [dot_zero]; rfl, 0, rfl⟩
          case round =>
            obtain ⟨s, hs, rfl, rfl, d, rfl⟩ := hrel
            by_cases hls : s < k
            · have f2 : p * k + s < l.length := by
                have h1 : (p + 1) * k ≤ m * k := Nat.mul_le_mul_right k hlt
                rw [Nat.add_mul] at h1
                rw [HL.out]
                omega
              have f3 : s * n + q < l'.length := by
                have h1 : (s + 1) * n ≤ k * n := Nat.mul_le_mul_right n hls
                rw [Nat.add_mul] at h1
                rw [HL'.out]
                omega
              have f4 : l.length ≤ 1048576 := by rw [HL.out]; exact hmk
              have f5 : l'.length ≤ 1048576 := by rw [HL'.out]; exact hkn
              obtain ⟨b, o, hAe, hb1, hc1⟩ := HA.out.word f2
              obtain ⟨b', o', hAe', hb2, hc2⟩ := HA'.out.word f3
              have g1 : wm.cell? ⟨b, o + (p * k + s), none⟩ = some (U (nthW l (p * k + s))) := (HB2.out.cell (p := ⟨b, _, none⟩) hb1).trans hc1
              have g2 : wm.cell? ⟨b', o' + (s * n + q), none⟩ = some (U (nthW l' (s * n + q))) := (HB2.out.cell (p := ⟨b', _, none⟩) hb2).trans hc2
              have HS := Lib.hid (dot_cell l l' k n p q s hlq)
              clear hc1 hc2
              rw [hAe, hAe']
              clear hAe hAe'
              go_wp2
              go_quiet (fail)
              go_wp2
              exact ⟨⟨s + 1, by omega, by go_num, by rw [← HS.out], d + nq, rfl⟩, by simp [intOf]; omega⟩
            · obtain rfl : s = k := by omega
              have f1 : p * n + q < m * n := by
                have h1 : (p + 1) * n ≤ m * n := Nat.mul_le_mul_right n hlt
                rw [Nat.add_mul] at h1
                omega
              have HT := Lib.hid (mat_take l l' m s n f1)
              clear f1
              go_wp2_with (at_builtin; (refine app64 rfl (.tmp 50) (.tmp 52) rfl w.heap.size A2 k2 now now.length rfl rfl ((HO2.out.drewN d).alloc _) (some ⟨wm.heap.size, 0, none⟩) 1 1 (wm.heap.size + 1) [dotW l l' s n (p * n + q) s] rfl rfl (one_app64 _ _) (fun h => by cases h) (by omega) (by have := HB2.out.size; simp; omega) ?_); intro A' cap' w5 hown' hgrow hat; have H5 := Lib.hid (step_below (HO2.out.drewN d) HB2.out.size hgrow); have O5 := Lib.hid hown'; clear hown' hgrow hat)
              refine ⟨⟨q + 1, A', cap', now ++ [dotW l l' s n (p * n + q) s], by omega, by go_num, by simp, ?_, O5.out, ?_⟩, by simp [intOf]; omega⟩
              · rw [HN.out, Nat.mul_one, Nat.mul_one, HM.out, ← HT.out]; congr 1
              · exact (below_drewN HB2.out d).trans H5.out
        · obtain rfl : q = n := by omega
          go_wp2
          refine ⟨⟨p + 1, A2, k2, now, by omega, by go_num, rfl, ?_, HO2.out, HB2.out⟩, by simp [intOf]; omega⟩
          rw [HN.out]; congr 1; rw [Nat.add_mul]; omega
    · obtain rfl : p = m := by omega
      have hcl : cur = L := by rw [HC.out, List.take_of_length_le (by rw [HLL.out]; omega)]
      have HCL := Lib.hid hcl
      clear hcl
      go_wp2
      go_ret
      exact ⟨A1, k1, by rw [← HLL.out, ← HCL.out]; rfl, by rw [← HCL.out]; exact HO.out, HB.out⟩
end Go.Proofs.YtpjhbdhpphgldaaDoor
