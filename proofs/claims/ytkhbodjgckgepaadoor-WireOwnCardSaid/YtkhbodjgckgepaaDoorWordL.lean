/-
  A word and its eight bytes: plain lemmas, and the walks of the document's Eight and Whole.
-/
import Derived.Test.YtkhbodjgckgepaaDoorEnc
import Derived.Test.YtkhbodjgckgepaaDoorWkDigests
namespace Go.Proofs.YtkhbodjgckgepaaDoor
set_option linter.unusedVariables false
set_option linter.unusedSimpArgs false
open Go.RowKit
/-- What bytes say, the low one first. -/
def val256 : List UInt8 → Nat
  | [] => 0
  | c :: r => c.toNat + 256 * val256 r
theorem val256_lt (l : List UInt8) : val256 l < 256 ^ l.length := by
  induction l with
  | nil => simp [val256]
  | cons c r ih =>
    have := c.toNat_lt
    show c.toNat + 256 * val256 r < 256 ^ (r.length + 1)
    rw [Nat.pow_succ]
    omega
theorem val256_append (l : List UInt8) (c : UInt8) : val256 (l ++ [c]) = val256 l + c.toNat * 256 ^ l.length := by
  induction l with
  | nil => simp [val256]
  | cons x l ih =>
    rw [List.cons_append]
    show x.toNat + 256 * val256 (l ++ [c]) = x.toNat + 256 * val256 l + c.toNat * 256 ^ (l.length + 1)
    rw [ih, Nat.pow_succ, Nat.mul_add, ← Nat.mul_assoc c.toNat, Nat.mul_comm (c.toNat * 256 ^ l.length) 256]
    omega
/-- A word shifted down by q bytes. -/
def shN (x : UInt64) (q : Nat) : UInt64 := UInt64.ofNat (x.toNat / 2 ^ (8 * q))
theorem shN_nat (x : UInt64) (q : Nat) : (shN x q).toNat = x.toNat / 2 ^ (8 * q) := by
  unfold shN
  have h1 := x.toNat_lt
  have h2 : x.toNat / 2 ^ (8 * q) ≤ x.toNat := Nat.div_le_self _ _
  rw [UInt64.toNat_ofNat_of_lt' (by simp only [UInt64.size]; omega)]
theorem shN_zero (x : UInt64) : shN x 0 = x := by
  apply UInt64.toNat_inj.1
  rw [shN_nat]; simp
theorem shN_div (x : UInt64) (q : Nat) : ((shN x q).toNat : Int) / 256 = ((shN x (q + 1)).toNat : Int) := by
  have h : (shN x q).toNat / 256 = (shN x (q + 1)).toNat := by
    rw [shN_nat, shN_nat, Nat.div_div_eq_div_mul, show 2 ^ (8 * (q + 1)) = 2 ^ (8 * q) * 256 from by rw [Nat.mul_add, Nat.pow_add]]
  rw [← h]
  rfl
theorem shN_byte (x : UInt64) (q : Nat) : ((shN x q).toNat : Int) % 256 = ((byteAt x q).toNat : Int) := by
  rw [shN_nat]
  have h := u8_byteAt' x q
  rw [← h]
  simp
/-- A word of bytes. -/
def wholeB (l : List UInt8) : UInt64 := UInt64.ofNat (val256 l)
/-- The word of the bytes from j on. -/
def tailW (l : List UInt8) (j : Nat) : UInt64 := wholeB (l.drop j)
theorem tailW_start (l : List UInt8) : tailW l 0 = wholeB l := rfl
theorem tailW_end (l : List UInt8) (j : Nat) (h : l.length ≤ j) : tailW l j = 0 := by
  unfold tailW
  rw [List.drop_eq_nil_of_le h]
  rfl
theorem tailW_step (l : List UInt8) {j : Nat} (h : j < l.length) : IntKind.u64.wrap (((tailW l (j + 1)).toNat : Int) * 256 + ((nthB l j).toNat : Int)) = ((tailW l j).toNat : Int) := by
  rw [wrapN]
  unfold tailW wholeB
  rw [List.drop_eq_getElem_cons h, nthB_pos l h, UInt64.toNat_ofNat', UInt64.toNat_ofNat']
  show _ = ((((l[j].toNat + 256 * val256 (l.drop (j + 1))) % 2 ^ 64 : Nat)) : Int)
  omega
theorem tailW_step' (l : List UInt8) {j : Nat} (h : j < l.length) : IntKind.u64.wrap (IntKind.u64.wrap (((tailW l (j + 1)).toNat : Int) * 256) + IntKind.u64.wrap ((nthB l j).toNat : Int)) = ((tailW l j).toNat : Int) := by
  rw [← tailW_step l h, wrapN, wrapN, wrapN, wrapN]
  omega
attribute [irreducible] shN tailW
set_option maxRecDepth 100000 in
set_option maxHeartbeats 1000000 in
theorem whole_any (A : Option Addr) (c : Nat) (l : List UInt8) (B : Nat) (w : World) (hl : l.length = 8) (hA : Rd w B A (l.map V8)) :
    Calls Tryd.prog 27 #[.slice A 8 c] w fun e w' => e = .returned (U (wholeB l)) ∧ w = w' := by
  have HL := Lib.hid hl
  clear hl
  go_enter Tryd.func27, Tryd.ntmps27
  go_wp2
  go_loop [3, 4] (fun xv iv => ∃ j : Nat, j ≤ 8 ∧ iv = .int .i64 ((j : Int) - 1) ∧ xv = U (tailW l j)) (fun _ iv => (intOf iv + 1).toNat)
  case atStart => exact ⟨8, by omega, rfl, by rw [tailW_end l 8 (by rw [HL.out]; omega)]; rfl⟩
  case round =>
    obtain ⟨j, hj, rfl, rfl⟩ := hrel
    by_cases h0 : j = 0
    · subst h0
      go_wp2
      go_ret
      refine ⟨?_, rfl⟩
      rw [← tailW_start]
      rfl
    · obtain ⟨i, rfl⟩ : ∃ i, j = i + 1 := ⟨j - 1, by omega⟩
      obtain ⟨b, o, rfl, hb, hc⟩ := hA.byte (k := i) (by rw [HL.out]; omega)
      have hs := tailW_step' l (j := i) (by rw [HL.out]; omega)
      have ei : (((i + 1 : Nat) : Int) - 1) = (i : Int) := by omega
      rw [ei]
      clear hA
      go_wp2
      exact ⟨⟨i, by omega, by go_num, rfl⟩, by simp [intOf]⟩
def EightRel (W : World) (x : UInt64) (xv ov iv : Value) (wr : World) : Prop :=
  ∃ (q : Nat) (A : Option Addr) (cap : Nat) (cur : List UInt8), q ≤ 8 ∧ iv = .int .i64 q ∧ ov = .slice A cur.length cap ∧ xv = U (shN x q) ∧ cur = (eightB x).take q ∧ Own wr W.heap.size 5 A cap (cur.map V8) ∧ Below W.heap.size W wr
set_option maxRecDepth 100000 in
set_option maxHeartbeats 1000000 in
theorem eight_any (x : UInt64) (w : World) :
    Calls Tryd.prog 26 #[U x] w fun e w' => ∃ A cap, e = .returned (.slice A 8 cap) ∧ Own w' w.heap.size 5 A cap ((eightB x).map V8) ∧ Below w.heap.size w w' := by
  go_enter Tryd.func26, Tryd.ntmps26
  go_wp2
  go_loopw [0, 3, 4] (fun xv ov iv wr => EightRel w x xv ov iv wr) (fun _ _ iv _ => 8 - (intOf iv).toNat)
  case atStart => exact ⟨0, none, 0, [], by omega, rfl, rfl, by rw [shN_zero], by simp, Own.nil _ _ _, Below.refl _ _⟩
  case round =>
    obtain ⟨q, A, cap, cur, hq, rfl, rfl, rfl, hcur, hown, hbel⟩ := hrel
    have HC := Lib.hid hcur
    have HO := Lib.hid hown
    have HB := Lib.hid hbel
    have hge := Lib.hid (blk_own_ge hown)
    have hlen : cur.length ≤ 8 := by rw [HC.out, List.length_take]; omega
    clear hcur hown hbel
    by_cases hlt : q < 8
    · have HE := Lib.hid (eightB_take x hlt)
      have f1 := shN_byte x q
      have f2 := shN_div x q
      have f3 : ((shN x q).toNat : Int).tmod 256 = ((byteAt x q).toNat : Int) := by rw [Int.tmod_eq_emod_of_nonneg (by omega), f1]
      have f4 : ((shN x q).toNat : Int).tdiv 256 = ((shN x (q + 1)).toNat : Int) := by rw [Int.tdiv_eq_ediv_of_nonneg (by omega), f2]
      have f5 : IntKind.u8.wrap ((byteAt x q).toNat : Int) = ((byteAt x q).toNat : Int) := by
        have := (byteAt x q).toNat_lt
        rw [wrap8]; omega
      go_wp2_with (at_builtin; (refine app8 rfl (.tmp 9) (.tmp 13) rfl w.heap.size A cap cur cur.length rfl rfl (HO.out.alloc _) (some ⟨wr.heap.size, 0, none⟩) 1 1 (wr.heap.size + 1) [byteAt x q] rfl rfl (one_app8 _ _) (fun h => by cases h) (by omega) (by have := HB.out.size; simp; omega) ?_); intro A' cap' w1 hown' hgrow hat)
      refine ⟨⟨q + 1, A', cap', cur ++ [byteAt x q], by omega, by go_num, by simp, by rw [u64_wrap], ?_, hown', ?_⟩, by simp [intOf]; omega⟩
      · rw [HE.out, ← HC.out]
      · exact (HB.out.alloc HB.out.size _).grown hgrow (by have := HB.out.size; simp; omega) hge.out
    · obtain rfl : q = 8 := by omega
      have he : cur = eightB x := by rw [HC.out, eightB_full]
      subst he
      have h8 := Lib.hid (eightB_length x)
      go_wp2
      go_ret
      exact ⟨A, cap, by rw [← h8.out]; rfl, HO.out, HB.out⟩
end Go.Proofs.YtkhbodjgckgepaaDoor
