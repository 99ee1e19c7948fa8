/-
  The walk of the law WireDigests.
-/
import Derived.Test.YtkhbodjgckgepaaDoorAwake
import Derived.Test.YtkhbodjgckgepaaDoorAppG
namespace Go.Proofs.YtkhbodjgckgepaaDoor
set_option linter.unusedVariables false
set_option linter.unusedSimpArgs false
open Go.RowKit
theorem rd_nil8 {w : World} {B : Nat} {A : Option Addr} {l : List UInt8} (h : Rd w B A (l.map V8)) : A = none → l.length = 0 := by
  rintro rfl
  rcases h with h | ⟨b, o, h, _⟩
  · simpa using h
  · cases h
theorem made_grown8 {w w' : World} (h : (w.alloc (.cells #[] 5)).grownBy w' (blk (some ⟨w.heap.size, 0, none⟩))) : Below w.heap.size w w' :=
  ((Below.refl w.heap.size w).alloc (Nat.le_refl _) _).grown h (by simp) (fun k hk => by simp [blk] at hk; omega)
set_option maxRecDepth 100000 in
set_option maxHeartbeats 1000000 in
theorem WireDigests_walk (w : World) (hg : ETyped w) (A : Option Addr) (c : Nat) (l : List UInt8) (hlc : l.length ≤ c) (hcm : c ≤ 140737488351232) (hA : Rd w w.heap.size A (l.map V8)) :
    Calls Tryd.prog 3 #[.slice A l.length c] w fun e w' => e = .returned (.bool true) ∧ Below w.heap.size w w' := by
  have hm : l.length ≤ 140737488351232 := Nat.le_trans hlc hcm
  have hml : l.length ≤ maxLen := by simp only [maxLen]; omega
  clear hg
  have hnil := Lib.hid (rd_nil8 hA)
  go_enter Tryd.func3, Tryd.ntmps3
  go_wp2_with fail
  refine (awake_true w).mono ?_
  rintro e w1 ⟨rfl, b1⟩
  have h1 := Lib.hid (hA.next b1)
  have HB1 := Lib.hid b1
  clear b1
  go_wp2_with (at_builtin; (refine app8g (by rfl) (.tmp 5) (.tmp 6) rfl w1.heap.size (some ⟨w1.heap.size, 0, none⟩) 0 [] 0 rfl rfl (Own.made _ _ (Nat.le_refl _)) A l.length c w1.heap.size l rfl rfl (h1.out.alloc (Nat.le_refl _) _) hnil.out (by omega) (by simp) ?_); intro A' cap' w2 hown' hgrow hat)
  have b2 := made_grown8 hgrow
  rw [List.nil_append] at hown'
  have h2 := Lib.hid (h1.out.next b2)
  have HB2 := Lib.hid (bnext HB1.out b2)
  have HO := Lib.hid hown'
  clear hgrow hat hown' b2
  refine (digest_any A' cap' l w2 hml HO.out.rd).mono ?_
  rintro e w3 ⟨rfl, b3⟩
  have h3 := Lib.hid (h2.out.next b3)
  have HB3 := Lib.hid (bnext HB2.out b3)
  clear b3
  go_wp2_with fail
  refine (rdigest_any A c l w3 hml h3.out).mono ?_
  rintro e w4 ⟨rfl, b4⟩
  have HB4 := Lib.hid (bnext HB3.out b4)
  clear b4
  have p4 := pair_same (dig 0 l) (dig 1 l) w4
  go_wp2
  go_ret
  exact ⟨rfl, HB4.out⟩
end Go.Proofs.YtkhbodjgckgepaaDoor
