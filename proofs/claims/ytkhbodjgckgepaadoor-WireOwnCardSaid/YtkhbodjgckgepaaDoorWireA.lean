/-
  Walks of wire's numbers.
-/
import Derived.Test.YtkhbodjgckgepaaDoorRows
import Derived.Test.YtkhbodjgckgepaaDoorAppB
import Derived.BigQuiet
import Derived.Deep.QuietTactic
import Derived.Deep.OwnRows
namespace Go.Proofs.YtkhbodjgckgepaaDoor
set_option linter.unusedVariables false
set_option linter.unusedSimpArgs false
open Go.RowKit
/-- A list of bytes in memory of the call's own. -/
def OutB (W : World) (l : List UInt8) (e : Ending) (w' : World) : Prop :=
  ∃ A cap, e = .returned (.slice A l.length cap) ∧ Own w' W.heap.size 5 A cap (l.map V8) ∧ Below W.heap.size W w'
theorem u8_orN (n : Nat) : bits .or .u8 ((byteN n).toNat : Int) 128 = ((byteN (n % 128 + 128)).toNat : Int) := by
  rw [byteN_nat, byteN_nat]
  have h : ∀ k : Fin 256, bits .or .u8 ((k.val : Nat) : Int) 128 = (((k.val % 128 + 128) % 256 : Nat) : Int) := by decide +kernel
  have h2 := h ⟨n % 256, Nat.mod_lt _ (by omega)⟩
  simp only at h2
  rw [h2]
  have e : (n % 256 % 128 + 128) % 256 = (n % 128 + 128) % 256 := by omega
  rw [e]
theorem u8_modN (n : Nat) : IntKind.u8.wrap ((n : Int) % 128 + 128) = ((byteN (n % 128 + 128)).toNat : Int) := u8_wrapN (n % 128 + 128)
def NumRel (W : World) (n : Nat) (nv ov : Value) (wr : World) : Prop :=
  ∃ (k : Nat) (pre : List UInt8) (A : Option Addr) (cap : Nat), nv = .int .i64 k ∧ ov = .slice A pre.length cap ∧ numB n = pre ++ numB k ∧ k ≤ n ∧ Own wr W.heap.size 5 A cap (pre.map V8) ∧ Below W.heap.size W wr
attribute [local go_sem ↓] u8_wrapN u8_orN u8_modN
theorem blk_own_ge {w : World} {base : Nat} {e : TypeId} {A : Option Addr} {cap : Nat} {xs : List Value} (h : Own w base e A cap xs) : ∀ k, blk A = some k → base ≤ k := fun k hk => (h.lt k hk).1
set_option maxRecDepth 100000 in
set_option maxHeartbeats 400000 in
theorem number_any (n : Nat) (hn : n ≤ 4294967295) (w : World) :
    Calls Tryd.prog 24 #[.int .i64 n] w (OutB w (numB n)) := by
  have hL := numB_length n hn
  go_enter Tryd.func24, Tryd.ntmps24
  go_wp2
  go_loopw [0, 3] (fun nv ov wr => NumRel w n nv ov wr) (fun nv _ _ => (intOf nv).toNat)
  case atStart => exact ⟨n, [], none, 0, rfl, rfl, rfl, Nat.le_refl _, Own.nil _ _ _, Below.refl _ _⟩
  case round =>
    obtain ⟨k, pre, A, cap, rfl, rfl, he, hk, hown, hbel⟩ := hrel
    have hlen : pre.length + 1 ≤ 5 := by
      have h1 := numB_length k (by omega)
      have h2 := congrArg List.length he
      rw [List.length_append] at h2
      omega
    have hge := blk_own_ge hown
    have HE := Lib.hid he
    have HW := Lib.hid hown
    have HB := Lib.hid hbel
    have HG := Lib.hid hge
    clear he hown hbel hge
    by_cases hlt : k < 128
    · have HS := Lib.hid (numB_small hlt)
      go_wp2_with (at_builtin; (refine app8 rfl (.tmp 14) (.tmp 17) rfl w.heap.size A cap pre pre.length rfl rfl (HW.out.alloc _) (some ⟨wr.heap.size, 0, none⟩) 1 1 (wr.heap.size + 1) [byteN k] rfl rfl (one_app8 _ _) (fun h => by cases h) (by omega) (by have := HB.out.size; simp; omega) ?_); intro A' cap' w1 hown' hgrow hat)
      go_ret
      refine ⟨A', cap', ?_, ?_, ?_⟩
      · rw [HE.out, HS.out, List.length_append]; rfl
      · rw [HE.out, HS.out]; exact hown'
      · exact (HB.out.alloc HB.out.size _).grown hgrow (by have := HB.out.size; simp; omega) HG.out
    · have HS := Lib.hid (numB_big hlt)
      go_wp2_with (at_builtin; (refine app8 rfl (.tmp 8) (.tmp 12) rfl w.heap.size A cap pre pre.length rfl rfl (HW.out.alloc _) (some ⟨wr.heap.size, 0, none⟩) 1 1 (wr.heap.size + 1) [byteN (k % 128 + 128)] rfl rfl (one_app8 _ _) (fun h => by cases h) (by omega) (by have := HB.out.size; simp; omega) ?_); intro A' cap' w1 hown' hgrow hat)
      refine ⟨⟨k / 128, pre ++ [byteN (k % 128 + 128)], A', cap', by simp, by simp, ?_, by omega, hown', ?_⟩, by simp [intOf]; omega⟩
      · rw [HE.out, HS.out, List.append_assoc]; rfl
      · exact (HB.out.alloc HB.out.size _).grown hgrow (by have := HB.out.size; simp; omega) HG.out
set_option maxRecDepth 100000 in
set_option maxHeartbeats 400000 in
theorem rnumber_any (n : Nat) (hn : n ≤ 4294967295) (w : World) :
    Calls Tryd.prog 15 #[.int .i64 n] w (OutB w (numB n)) := by
  have hL := numB_length n hn
  go_enter Tryd.func15, Tryd.ntmps15
  go_wp2
  go_loopw [0, 3] (fun nv ov wr => NumRel w n nv ov wr) (fun nv _ _ => (intOf nv).toNat)
  case atStart => exact ⟨n, [], none, 0, rfl, rfl, rfl, Nat.le_refl _, Own.nil _ _ _, Below.refl _ _⟩
  case round =>
    obtain ⟨k, pre, A, cap, rfl, rfl, he, hk, hown, hbel⟩ := hrel
    have hlen : pre.length + 1 ≤ 5 := by
      have h1 := numB_length k (by omega)
      have h2 := congrArg List.length he
      rw [List.length_append] at h2
      omega
    have hge := blk_own_ge hown
    have HE := Lib.hid he
    have HW := Lib.hid hown
    have HB := Lib.hid hbel
    have HG := Lib.hid hge
    clear he hown hbel hge
    by_cases hlt : k < 128
    · have HS := Lib.hid (numB_small hlt)
      go_wp2_with (at_builtin; (refine app8 rfl (.tmp 15) (.tmp 18) rfl w.heap.size A cap pre pre.length rfl rfl (HW.out.alloc _) (some ⟨wr.heap.size, 0, none⟩) 1 1 (wr.heap.size + 1) [byteN k] rfl rfl (one_app8 _ _) (fun h => by cases h) (by omega) (by have := HB.out.size; simp; omega) ?_); intro A' cap' w1 hown' hgrow hat)
      go_ret
      refine ⟨A', cap', ?_, ?_, ?_⟩
      · rw [HE.out, HS.out, List.length_append]; rfl
      · rw [HE.out, HS.out]; exact hown'
      · exact (HB.out.alloc HB.out.size _).grown hgrow (by have := HB.out.size; simp; omega) HG.out
    · have HS := Lib.hid (numB_big hlt)
      go_wp2_with (at_builtin; (refine app8 rfl (.tmp 6) (.tmp 11) rfl w.heap.size A cap pre pre.length rfl rfl (HW.out.alloc _) (some ⟨wr.heap.size, 0, none⟩) 1 1 (wr.heap.size + 1) [byteN (k % 128 + 128)] rfl rfl (one_app8 _ _) (fun h => by cases h) (by omega) (by have := HB.out.size; simp; omega) ?_); intro A' cap' w1 hown' hgrow hat)
      refine ⟨⟨k / 128, pre ++ [byteN (k % 128 + 128)], A', cap', by simp, by simp, ?_, by omega, hown', ?_⟩, by simp [intOf]; omega⟩
      · rw [HE.out, HS.out, List.append_assoc]; rfl
      · exact (HB.out.alloc HB.out.size _).grown hgrow (by have := HB.out.size; simp; omega) HG.out
end Go.Proofs.YtkhbodjgckgepaaDoor
