/-
  The walk of the law WireReads.
-/
import Derived.Test.YtkhbodjgckgepaaDoorDecR
import Derived.Test.YtkhbodjgckgepaaDoorWds
import Derived.Test.YtkhbodjgckgepaaDoorAwake
namespace Go.Proofs.YtkhbodjgckgepaaDoor
set_option linter.unusedVariables false
set_option linter.unusedSimpArgs false
open Go.RowKit
theorem decB_ws {l : List UInt8} {n : Nat} {ws : List UInt64} (h : decB l = some (n, ws)) : ws.length ≤ 65536 := by
  obtain ⟨_, _, h3, _, _, rfl⟩ := decB_some h
  rw [wordsB_length]
  exact h3
theorem decode_any_bad (A : Option Addr) (c : Nat) (l : List UInt8) (w : World) (hcap : l.length ≤ c) (hl : c ≤ 9223372036854775807) (hlm : l.length ≤ 150000000000000) (hg : ETyped w) (hA : Rd w w.heap.size A (l.map V8)) (hd : decB l = none) :
    Calls Tryd.prog 20 #[.slice A l.length c] w fun e w' => ∃ v, e = .returned (.tuple #[.agg #[.int .i64 0, .slice none 0 0], v]) ∧ IsErr w' v [(wireN, l.length)] 50 ∧ Below w.heap.size w w' := by
  by_cases hz : (takeB l).2 = 0
  · exact decode_bad1 A c l w hcap hl hlm hg hA hz
  · exact decode_bad2 A c l w hcap hl hlm hg hA hz hd
theorem words_quiet (A A' : Option Addr) (c c' : Nat) (l : List UInt64) (x y : Nat) (B : Nat) (w : World) (hx : l.length = x) (hy : l.length = y) (hl : x ≤ 9223372036854775807) (hA : Rd w B A (l.map U)) (hA' : Rd w B A' (l.map U)) :
    Calls Tryd.prog 19 #[.slice A x c, .slice A' y c'] w fun e w' => e = .returned (.bool true) ∧ Below w.heap.size w w' :=
  (Words_same A A' c c' l x y B w hx hy hl hA hA').mono fun e w' ⟨he, n, hn⟩ => ⟨he, by rw [hn]; exact below_drewN (Below.refl _ _) _⟩
set_option maxRecDepth 100000 in
set_option maxHeartbeats 1000000 in
theorem WireReads_walk (w : World) (hg : ETyped w) (A : Option Addr) (c : Nat) (l : List UInt8) (hlc : l.length ≤ c) (hcm : c ≤ 140737488351232) (hA : Rd w w.heap.size A (l.map V8)) :
    Calls Tryd.prog 9 #[.slice A l.length c] w fun e w' => e = .returned (.bool true) ∧ Below w.heap.size w w' := by
  have hnil := Lib.hid (rd_nil8 hA)
  have hlm : l.length ≤ 140737488351232 := by omega
  have HG := Lib.hid hg
  have HA := Lib.hid hA
  clear hg hA
  cases hd : decB l with
  | none =>
    have HD := Lib.hid hd
    clear hd
    go_enter Tryd.func9, Tryd.ntmps9
    go_wp2_with fail
    refine (awake_true w).mono ?_
    rintro e w1 ⟨rfl, b1⟩
    have HG1 := Lib.hid (HG.out.next b1)
    have HA1 := Lib.hid (HA.out.next b1)
    have HB1 := Lib.hid b1
    clear b1
    go_wp2_with (at_builtin; (refine app8 rfl (.tmp 11) (.tmp 12) rfl w1.heap.size (some ⟨w1.heap.size, 0, none⟩) 0 [] 0 rfl rfl (Own.made _ _ (Nat.le_refl _)) A l.length c w1.heap.size l rfl rfl (HA1.out.alloc (Nat.le_refl _) _) hnil.out (by omega) (by simp) ?_); intro A' cap' w2 hown' hgrow hat; rw [List.nil_append] at hown'; have b2 := made_grown8 hgrow; have HA2 := Lib.hid (HA1.out.next b2); have HG2 := Lib.hid (HG1.out.next b2); have HB2 := Lib.hid (bnext HB1.out b2); have HO2 := Lib.hid hown'; clear hgrow hat hown' b2)
    have hc2 := own_capB HO2.out
    refine (decode_any_bad A' cap' l w2 hc2.1 hc2.2 (by omega) HG2.out HO2.out.rd HD.out).mono ?_
    rintro e w3 ⟨v, rfl, he, b3⟩
    have HE3 := Lib.hid he
    have HA3 := Lib.hid (HA2.out.next b3)
    have HG3 := Lib.hid (HG2.out.next b3)
    have HB3 := Lib.hid (bnext HB2.out b3)
    clear he b3
    go_wp2_with fail
    refine (rdecode_bad A c l _ hlc hcm ?_ HD.out).mono ?_
    · exact HA3.out.next ((Below.refl _ _).alloc (Nat.le_refl _) _)
    rintro e w4 ⟨rfl, b4⟩
    have b4' : Below w3.heap.size w3 w4 := ((Below.refl _ _).alloc (Nat.le_refl _) _).trans (b4.mono (by simp))
    have kb := (b4.block w3.heap.size (by simp)).trans (heap_alloc_new w3 _)
    have HE4 := Lib.hid (HE3.out.next b4')
    have HG4 := Lib.hid (HG3.out.next b4')
    have HB4 := Lib.hid (bnext HB3.out b4')
    have KB := Lib.hid kb
    clear b4 b4' kb
    go_wp2_with fail
    refine (Code_any _ _ v w4 HG4.out HE4.out).mono ?_
    rintro e w5 ⟨rfl, b5⟩
    have kb := (b5.block w3.heap.size (Array.getElem?_eq_some_iff.1 KB.out).1).trans KB.out
    have r0 := cell_of_row _ _ 0 _ _ _ kb
    have r1 := cell_of_row _ _ 1 _ _ _ kb
    have HB5 := Lib.hid (bnext HB4.out b5)
    clear b5 kb
    go_wp2
    go_ret
    exact ⟨rfl, HB5.out⟩
  | some p =>
    obtain ⟨n, ws⟩ := p
    have hws := decB_ws hd
    have HD := Lib.hid hd
    clear hd
    go_enter Tryd.func9, Tryd.ntmps9
    go_wp2_with fail
    refine (awake_true w).mono ?_
    rintro e w1 ⟨rfl, b1⟩
    have HG1 := Lib.hid (HG.out.next b1)
    have HA1 := Lib.hid (HA.out.next b1)
    have HB1 := Lib.hid b1
    clear b1
    go_wp2_with (at_builtin; (refine app8 rfl (.tmp 11) (.tmp 12) rfl w1.heap.size (some ⟨w1.heap.size, 0, none⟩) 0 [] 0 rfl rfl (Own.made _ _ (Nat.le_refl _)) A l.length c w1.heap.size l rfl rfl (HA1.out.alloc (Nat.le_refl _) _) hnil.out (by omega) (by simp) ?_); intro A' cap' w2 hown' hgrow hat; rw [List.nil_append] at hown'; have b2 := made_grown8 hgrow; have HA2 := Lib.hid (HA1.out.next b2); have HG2 := Lib.hid (HG1.out.next b2); have HB2 := Lib.hid (bnext HB1.out b2); have HO2 := Lib.hid hown'; clear hgrow hat hown' b2)
    have hc2 := own_capB HO2.out
    refine (decode_good A' cap' l w2 n ws hc2.1 hc2.2 (by omega) HG2.out HO2.out.rd HD.out).mono ?_
    rintro e w3 ⟨A3, k3, rfl, o3, b3⟩
    have HO3 := Lib.hid o3
    have HA3 := Lib.hid (HA2.out.next b3)
    have HB3 := Lib.hid (bnext HB2.out b3)
    clear o3 b3
    go_wp2_with fail
    refine (rdecode_good A c l _ n ws hlc hcm ?_ HD.out).mono ?_
    · exact HA3.out.next ((Below.refl _ _).alloc (Nat.le_refl _) _)
    rintro e w4 ⟨A4, k4, rfl, o4, b4⟩
    have b4' : Below w3.heap.size w3 w4 := ((Below.refl _ _).alloc (Nat.le_refl _) _).trans (b4.mono (by simp))
    have kb := (b4.block w3.heap.size (by simp)).trans (heap_alloc_new w3 _)
    have r0 := cell_of_row _ _ 0 _ _ _ kb
    have r1 := cell_of_row _ _ 1 _ _ _ kb
    have HB4 := Lib.hid (bnext HB3.out b4')
    have HR3 := Lib.hid (HO3.out.next b4').rd
    have HR4 := Lib.hid o4.rd
    clear b4 b4' kb o4
    go_wp2_with fail
    refine (words_quiet A3 A4 k3 k4 ws ws.length ws.length w4.heap.size w4 rfl rfl (by omega) HR3.out HR4.out).mono ?_
    rintro e w5 ⟨rfl, b5⟩
    have HB5 := Lib.hid (bnext HB4.out b5)
    clear b5
    go_wp2
    go_ret
    exact ⟨rfl, HB5.out⟩
end Go.Proofs.YtkhbodjgckgepaaDoor
