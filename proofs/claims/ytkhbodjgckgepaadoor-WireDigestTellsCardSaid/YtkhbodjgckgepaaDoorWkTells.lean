/-
  The walk of the law WireDigestTells.
-/
import Derived.Test.YtkhbodjgckgepaaDoorWkDigests
import Derived.Test.YtkhbodjgckgepaaDoorTellsL
namespace Go.Proofs.YtkhbodjgckgepaaDoor
set_option linter.unusedVariables false
set_option linter.unusedSimpArgs false
open Go.RowKit
theorem own_some8 {w : World} {base cap : Nat} {A : Option Addr} {l : List UInt8} (h : Own w base 5 A cap (l.map V8)) (hl : l.length ≠ 0) : ∃ g, A = some ⟨g, 0, none⟩ ∧ base ≤ g ∧ g < w.heap.size := by
  rcases h.form with ⟨_, h2⟩ | ⟨g, cur, h1, hb, hg, _⟩
  · exact absurd (by simpa using h2) hl
  · exact ⟨g, h1, hb, (Array.getElem?_eq_some_iff.1 hg).1⟩
theorem own_cell8 {w : World} {base cap g : Nat} {l : List UInt8} (h : Own w base 5 (some ⟨g, 0, none⟩) cap (l.map V8)) {i : Nat} (hi : i < l.length) : w.cell? ⟨g, i, none⟩ = some (V8 (nthB l i)) := by
  obtain ⟨b, o, h1, _, h2⟩ := h.rd.byte hi
  injection h1 with h1
  injection h1 with h1 h3
  subst h1 h3
  rw [Nat.zero_add] at h2
  exact h2
theorem own_free8 {w : World} {base cap g : Nat} {xs : List Value} (h : Own w base 5 (some ⟨g, 0, none⟩) cap xs) (i : Nat) : w.frozen? ⟨g, i, none⟩ = false := by
  rcases h.form with ⟨h1, _⟩ | ⟨g', cur, h1, hb, hg, _⟩
  · cases h1
  · injection h1 with h1
    injection h1 with h1
    subst h1
    simp [World.frozen?, hg]
attribute [local go_sem ↓] u8_xor
set_option maxRecDepth 100000 in
set_option maxHeartbeats 1000000 in
theorem WireDigestTells_walk (w : World) (hg : ETyped w) (A : Option Addr) (c : Nat) (l : List UInt8) (hlc : l.length ≤ c) (hcm : c ≤ 140737488351232) (hA : Rd w w.heap.size A (l.map V8)) (at_ : Int) (ha1 : -9223372036854775808 ≤ at_) (ha2 : at_ ≤ 9223372036854775807) (turn : UInt8) :
    Calls Tryd.prog 4 #[.slice A l.length c, .int .i64 at_, V8 turn] w fun e w' => e = .returned (.bool true) ∧ Below w.heap.size w w' := by
  have hm : l.length ≤ 140737488351232 := Nat.le_trans hlc hcm
  have hml : l.length ≤ maxLen := by simp only [maxLen]; omega
  have hnil := Lib.hid (rd_nil8 hA)
  clear hg
  by_cases hz : l.length = 0
  · have q1 : ((l.length : Int) == 0) = true := by rw [hz]; rfl
    go_enter Tryd.func4, Tryd.ntmps4
    go_wp2_with fail
    refine (awake_true w).mono ?_
    rintro e w1 ⟨rfl, b1⟩
    go_wp2_with fail
    refine (awake_true w1).mono ?_
    rintro e w2 ⟨rfl, b2⟩
    have HB := Lib.hid (bnext b1 b2)
    clear b1 b2
    go_wp2
    go_ret
    exact ⟨rfl, HB.out⟩
  · obtain ⟨i, hi, hix⟩ := idx_in l.length hz hm at_
    have q1 : ((l.length : Int) == 0) = false := by rw [beq_eq_false_iff_ne]; omega
    go_enter Tryd.func4, Tryd.ntmps4
    go_wp2_with fail
    refine (awake_true w).mono ?_
    rintro e w1 ⟨rfl, b1⟩
    have h1 := Lib.hid (hA.next b1)
    have HB1 := Lib.hid b1
    clear b1
    go_wp2_with (at_builtin; (refine app8 rfl (.tmp 18) (.tmp 19) rfl w1.heap.size (some ⟨w1.heap.size, 0, none⟩) 0 [] 0 rfl rfl (Own.made _ _ (Nat.le_refl _)) A l.length c w1.heap.size l rfl rfl (h1.out.alloc (Nat.le_refl _) _) hnil.out (by omega) (by simp) ?_); intro A' cap' w2 hown' hgrow hat; rw [List.nil_append] at hown'; obtain ⟨g, rfl, hge, hgl⟩ := own_some8 hown' (by omega); have g1 := own_cell8 hown' hi; have g2 := own_free8 hown' i; have b2 := made_grown8 hgrow; have h2 := Lib.hid (h1.out.next b2); have HB2 := Lib.hid (bnext HB1.out b2); have HO := Lib.hid (hown'.set i (by rw [List.length_map]; exact hi) (V8 (xorB (nthB l i) turn))); have HG := Lib.hid (And.intro hge (And.intro hgl b2)); clear hown' hgrow hat b2 hge hgl)
    have hS : Below w1.heap.size w1 (w2.setCell ⟨g, i, none⟩ (V8 (xorB (nthB l i) turn))) := HG.out.2.2.setCell (p := ⟨g, i, none⟩) HG.out.1 _
    obtain ⟨wS, hwS⟩ : ∃ wS, wS = w2.setCell ⟨g, i, none⟩ (V8 (xorB (nthB l i) turn)) := ⟨_, rfl⟩
    rw [← hwS] at hS
    have ho := HO.out
    rw [← hwS, ← List.map_set] at ho
    have HO3 := Lib.hid ho
    have h3 := Lib.hid (h1.out.next hS)
    have HB3 := Lib.hid (bnext HB1.out hS)
    have e0 := dig_tells 0 l hi turn
    have e1 := dig_tells 1 l hi turn
    obtain ⟨l', hl'⟩ : ∃ l', l' = l.set i (xorB (nthB l i) turn) := ⟨_, rfl⟩
    have hlen : l'.length = l.length := by rw [hl', List.length_set]
    have HO4 := HO3.out
    rw [← hl'] at HO4 e0 e1
    have HO5 := Lib.hid HO4
    clear ho HO HO3 HO4 hS g1 g2 HG h1 h2 HB1 HB2 hix hl' hi
    show Calls _ _ _ (w2.setCell ⟨g, i, none⟩ (V8 (xorB (nthB l i) turn))) _
    rw [← hwS]
    clear hwS
    refine (digest_any A c l wS hml h3.out).mono ?_
    rintro e w4 ⟨rfl, b4⟩
    have h4 := Lib.hid (HO5.out.next b4)
    have HB4 := Lib.hid (bnext HB3.out b4)
    clear b4 h3 HO5 HB3
    go_wp2_with fail
    have hd := digest_any (some ⟨g, 0, none⟩) cap' l' w4 (by rw [hlen]; exact hml) h4.out.rd
    rw [hlen] at hd
    refine hd.mono ?_
    clear hd
    rintro e w5 ⟨rfl, b5⟩
    have HB5 := Lib.hid (bnext HB4.out b5)
    clear b5 h4 HB4
    go_wp2
    go_ret
    exact ⟨rfl, (HB5.out.alloc HB5.out.size _).alloc (Nat.le_trans HB5.out.size (by simp)) _⟩
end Go.Proofs.YtkhbodjgckgepaaDoor
