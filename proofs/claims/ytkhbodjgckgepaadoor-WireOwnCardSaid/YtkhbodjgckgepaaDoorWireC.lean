/-
  The walk of the document's TakeNumber.
-/
import Derived.Test.YtkhbodjgckgepaaDoorWireB
import Derived.Test.YtkhbodjgckgepaaDoorConv
import Derived.Deep.RegionHeld3
import Derived.Deep.DrawnRows
namespace Go.Proofs.YtkhbodjgckgepaaDoor
set_option linter.unusedVariables false
set_option linter.unusedSimpArgs false
open Go.RowKit
attribute [local go_sem ↓] Go.wp_at_zero Go.wp_at_succ
def RTakeRel (l : List UInt8) (sv : Value) : Prop := ∃ k : Nat, k ≤ 5 ∧ k ≤ l.length ∧ sv = .int .i64 k ∧ ∀ j, j < k → 128 ≤ (nthB l j).toNat
theorem u8_mod128 (c : UInt8) : (c.toNat : Int) % 128 = ((c.toNat % 128 : Nat) : Int) := rfl
/-- What the bytes from j to k say. -/
def tailN (l : List UInt8) (k j : Nat) : Nat := valB ((l.take (k + 1)).drop j)
theorem tailN_end (l : List UInt8) (k : Nat) : tailN l k (k + 1) = 0 := by
  unfold tailN
  rw [List.drop_eq_nil_of_le (by rw [List.length_take]; omega)]
  rfl
theorem tailN_start (l : List UInt8) (k : Nat) : tailN l k 0 = curN l (k + 1) := by unfold tailN curN; rfl
theorem tailN_step (l : List UInt8) {k j : Nat} (hk : k < l.length) (hj : j ≤ k) : tailN l k j = (nthB l j).toNat % 128 + 128 * tailN l k (j + 1) := by
  unfold tailN
  have hlen : j < (l.take (k + 1)).length := by rw [List.length_take]; omega
  rw [List.drop_eq_getElem_cons hlen, valB_cons, nthB_pos l (by omega), List.getElem_take]
theorem tailN_lt (l : List UInt8) {k j : Nat} (h5 : k < 5) : tailN l k j < 34359738368 := by
  unfold tailN
  have h := valB_lt ((l.take (k + 1)).drop j)
  have hl : ((l.take (k + 1)).drop j).length ≤ 5 := by rw [List.length_drop, List.length_take]; omega
  have hp : (128 : Nat) ^ ((l.take (k + 1)).drop j).length ≤ 128 ^ 5 := Nat.pow_le_pow_right (by omega) hl
  omega
attribute [irreducible] tailN
theorem numB_cur (l : List UInt8) {k : Nat} (hj : ∀ j, j < k → 128 ≤ (nthB l j).toNat) (hl : k < l.length) (hc : (nthB l k).toNat < 128) :
    (numB (curN l (k + 1)) = l.take (k + 1)) ↔ ¬ ((nthB l k).toNat = 0 ∧ 0 < k) := by
  have hk := numB_valB (l.take k) (nthB l k) (fun x hx => by
    obtain ⟨j, hj2, rfl⟩ := List.mem_iff_getElem.1 hx
    rw [List.length_take] at hj2
    have := hj j (by omega)
    rw [nthB_pos l (by omega)] at this
    rw [List.getElem_take]
    exact this) hc
  rw [← take_succB l hl] at hk
  unfold curN
  rw [hk, List.take_eq_nil_iff]
  constructor
  · rintro (h | h | h) ⟨h1, h2⟩
    · exact h h1
    · omega
    · subst h; simp at hl
  · intro h
    by_cases h1 : (nthB l k).toNat = 0
    · exact .inr (.inl (by omega))
    · exact .inl h1
theorem strB_same {l l' : List UInt8} (h : l = l') : (!(strB l).toList == (strB l').toList) = false := by subst h; simp
theorem strB_other {l l' : List UInt8} (h : l ≠ l') : (!(strB l).toList == (strB l').toList) = true := by
  rw [strB_toList, strB_toList, beq_eq_false_iff_ne.2 h]; rfl
def RLoop2 (l : List UInt8) (k : Nat) (nv iv : Value) : Prop := ∃ j : Nat, j ≤ k + 1 ∧ iv = .int .i64 ((j : Int) - 1) ∧ nv = .int .i64 (tailN l k j)
set_option maxRecDepth 100000 in
set_option maxHeartbeats 4000000 in
theorem rtake_any (A : Option Addr) (c : Nat) (l : List UInt8) (w : World) (hcap : l.length ≤ c) (hl : c ≤ 9223372036854775807) (hA : Rd w w.heap.size A (l.map V8)) :
    Calls Tryd.prog 17 #[.slice A l.length c] w fun e w' => e = .returned (.tuple #[.int .i64 (takeB l).1, .int .i64 (takeB l).2]) ∧ Below w.heap.size w w' := by
  go_enter Tryd.func17, Tryd.ntmps17
  go_wp2
  go_loop [4] (fun sv => RTakeRel l sv) (fun sv => 5 - (intOf sv).toNat)
  case atStart => exact ⟨0, by omega, by omega, rfl, by omega⟩
  case round =>
    obtain ⟨k, hk5, hkl, rfl, hj⟩ := hrel
    have HJ := Lib.hid hj
    clear hj
    by_cases hlt : k < l.length
    · obtain ⟨b, o, rfl, hb, hc⟩ := hA.byte hlt
      by_cases h5 : k < 5
      · by_cases hbig : 128 ≤ (nthB l k).toNat
        · have HN : Hid (∀ j, j < k + 1 → 128 ≤ (nthB l j).toNat) := fun j hj => by
            rcases Nat.lt_succ_iff_lt_or_eq.1 hj with h | h
            · exact HJ.out j h
            · rw [h]; exact hbig
          have q1 : decide ((k : Int) < (l.length : Int)) = true := by simp; omega
          have q2 : decide ((k : Int) < 5) = true := by simp; omega
          have q3 : decide ((128 : Int) ≤ ((nthB l k).toNat : Int)) = true := by simp; omega
          clear hA
          go_wp2
          exact ⟨⟨k + 1, by omega, by omega, by go_num, HN.out⟩, by simp [intOf]; omega⟩
        · have hsm : (nthB l k).toNat < 128 := by omega
          have HB := Lib.hid (takeB_bad k HJ.out h5 hlt hsm)
          have HG := Lib.hid (takeB_good k HJ.out h5 hlt hsm)
          have q1 : decide ((k : Int) < (l.length : Int)) = true := by simp; omega
          have q2 : decide ((k : Int) < 5) = true := by simp; omega
          have q3 : decide ((128 : Int) ≤ ((nthB l k).toNat : Int)) = false := by simp; omega
          have q4 : ((k : Int) == (l.length : Int)) = false := by rw [beq_eq_false_iff_ne]; omega
          have q5 : ((k : Int) == 5) = false := by rw [beq_eq_false_iff_ne]; omega
          have HA := Lib.hid hA
          clear hA hbig
          go_wp2
          clear q1 q2 q3 q4 q5 hc
          go_loop [5, 6] (fun nv iv => RLoop2 l k nv iv) (fun _ iv => (intOf iv + 1).toNat)
          case atStart => exact ⟨k + 1, by omega, by go_num, by rw [tailN_end]; rfl⟩
          case round =>
            obtain ⟨j, hj, rfl, rfl⟩ := hrel
            by_cases h0 : j = 0
            · subst h0
              rw [tailN_start]
              by_cases h1 : 4294967295 < curN l (k + 1)
              · have q1 : decide ((4294967295 : Int) < (curN l (k + 1) : Int)) = true := by simp; omega
                have HT := Lib.hid (HB.out (.inl h1))
                clear h1
                go_wp2
                go_quiet (fail)
                go_wp2
                go_ret2
                exact ⟨by rw [HT.out]; rfl, below_drewN (Below.refl _ _) _⟩
              · have q1 : decide ((4294967295 : Int) < (curN l (k + 1) : Int)) = false := by simp; omega
                have c2 : ∀ W, Below w.heap.size w W → (convert 22 9 (.slice (some ⟨b, o, none⟩) (k + 1) c)).run Tryd.prog W = .ok (.string (strB (l.take (k + 1)))) W := fun W hW =>
                  conv_bytes _ _ _ (l.take (k + 1)) w.heap.size W (by rw [List.length_take]; omega) (by rw [List.map_take]; exact (HA.out.below hW).take _)
                have hb0 : Below w.heap.size w w.drew := (Below.refl _ _).drew
                have hr := Lib.hid (fun W => rnumber_any (curN l (k + 1)) (by omega) W)
                have C2 := Lib.hid c2
                have HB0 := Lib.hid hb0
                clear hb0
                have s1 : IntKind.i64.wrap ((k : Int) + 1) = (k : Int) + 1 := IntWalk.i64_in _ (by omega)
                have s2 : (0 : Int) ≤ (k : Int) + 1 := by omega
                have s4 : (k : Int) + 1 ≤ (c : Int) := by omega
                have s5 : k + 1 ≤ c := by omega
                have s3 : ((k : Int) + 1).toNat = k + 1 := by omega
                go_wp2_with fail
                go_region_held (fun w' => Below w.heap.size w w') (first | exact HB0.out | exact hb1.out) (first | (go_at_call 15; refine (hr.out _).mono ?_; rintro e w1 ⟨A', cap', rfl, hown, hbel⟩; have hb1 := Lib.hid (bnext HB0.out hbel); have c1 := conv_bytes A' cap' _ (numB (curN l (k + 1))) _ w1 rfl hown.rd; clear hown hbel))
                by_cases hbad : (nthB l k).toNat = 0 ∧ 0 < k
                · have t1 := strB_other (l := numB (curN l (k + 1))) (l' := l.take (k + 1)) (fun h => (numB_cur l HJ.out hlt hsm).1 h hbad)
                  have HT := Lib.hid (HB.out (.inr hbad))
                  clear hbad c1 c2
                  simp only [t1]
                  go_wp2
                  go_ret2
                  exact ⟨by rw [HT.out]; rfl, hb1.out⟩
                · have t1 := strB_same ((numB_cur l HJ.out hlt hsm).2 hbad)
                  have HT := Lib.hid (HG.out (fun h => by rcases h with h | h; exact h1 h; exact hbad h))
                  clear hbad c1 c2
                  simp only [t1]
                  go_wp2
                  go_ret2
                  exact ⟨by rw [HT.out]; rfl, hb1.out⟩
            · obtain ⟨i, rfl⟩ : ∃ i, j = i + 1 := ⟨j - 1, by omega⟩
              obtain ⟨b', o', hAe, hb', hc⟩ := HA.out.byte (k := i) (by omega)
              injection hAe with hAe
              injection hAe with e1 e2
              subst e1 e2
              have hs := tailN_step l hlt (j := i) (by omega)
              have ht := tailN_lt l (k := k) (j := i) h5
              have ei : (((i + 1 : Nat) : Int) - 1) = (i : Int) := by omega
              rw [ei]
              have HS := Lib.hid hs
              have ht2 := tailN_lt l (k := k) (j := i + 1) h5
              clear hs ht ei
              go_wp2
              exact ⟨⟨i, by omega, by go_num, by rw [HS.out]; go_num⟩, by simp [intOf]⟩
      · obtain rfl : k = 5 := by omega
        have HT := Lib.hid (takeB_none 5 HJ.out (by omega) (by omega) (.inl rfl))
        clear hA
        go_wp2
        all_goals
          go_ret2
          exact ⟨by rw [HT.out]; rfl, Below.refl _ _⟩
    · obtain rfl : k = l.length := by omega
      have HT := Lib.hid (takeB_none l.length HJ.out (by omega) (by omega) (.inr rfl))
      clear hA
      go_wp2
      all_goals
        go_ret2
        exact ⟨by rw [HT.out]; rfl, Below.refl _ _⟩
end Go.Proofs.YtkhbodjgckgepaaDoor
