/-
  The walk of the document's Encode at a good message.
-/
import Derived.Test.YtkhbodjgckgepaaDoorWordL
import Derived.Test.YtkhbodjgckgepaaDoorWkDigests
namespace Go.Proofs.YtkhbodjgckgepaaDoor
set_option linter.unusedVariables false
set_option linter.unusedSimpArgs false
open Go.RowKit
theorem own_next8 {w : World} {base cap : Nat} {A : Option Addr} {l : List UInt8} (h : Own w base 5 A cap (l.map V8)) : A = none → l.length = 0 := own_nil8 h
def REncRel (W : World) (n : Nat) (l : List UInt64) (ov iv : Value) (wr : World) : Prop :=
  ∃ (p : Nat) (A : Option Addr) (cap : Nat) (cur : List UInt8), p ≤ l.length ∧ iv = .int .i64 p ∧ ov = .slice A cur.length cap ∧ cur = headB n l.length ++ bodyB (l.take p) ∧ Own wr W.heap.size 5 A cap (cur.map V8) ∧ Below W.heap.size W wr
set_option maxRecDepth 100000 in
set_option maxHeartbeats 1000000 in
theorem rencode_any (n : Nat) (A : Option Addr) (c : Nat) (l : List UInt64) (w : World) (hn : n ≤ 4294967295) (hl : l.length ≤ 65536) (hA : Rd w w.heap.size A (l.map U)) :
    Calls Tryd.prog 21 #[.int .i64 n, .slice A l.length c] w fun e w' =>
      ∃ A' cap, e = .returned (.slice A' (encB n l).length cap) ∧ Own w' w.heap.size 5 A' cap ((encB n l).map V8) ∧ Below w.heap.size w w' := by
  have lk1 := numB_length n hn
  have lk2 := numB_length l.length (by omega)
  have HA := Lib.hid hA
  clear hA
  go_enter Tryd.func21, Tryd.ntmps21
  go_wp2_with fail
  refine (rnumber_any n hn w).mono ?_
  rintro e w1 ⟨A1, k1, rfl, o1, b1⟩
  have HO1 := Lib.hid o1
  have HB1 := Lib.hid b1
  clear o1 b1
  go_wp2_with fail
  refine (rnumber_any l.length (by omega) w1).mono ?_
  rintro e w2 ⟨A2, k2, rfl, o2, b2⟩
  have HO1' := Lib.hid (HO1.out.next b2)
  have HO2 := Lib.hid o2
  have HB2 := Lib.hid (bnext HB1.out b2)
  have z2 := Lib.hid (own_nil8 o2)
  have hge1 := Lib.hid (blk_own_ge HO1.out)
  clear o2 b2 HO1
  go_wp2_with (at_builtin; (refine app8 rfl (.tmp 8) (.tmp 11) rfl w.heap.size A1 k1 (numB n) _ rfl rfl HO1'.out A2 _ k2 _ (numB l.length) rfl rfl HO2.out.rd z2.out (by omega) (by have := HB2.out.size; omega) ?_); intro A' cap' w3 hown' hgrow hat; have HO3 := Lib.hid hown'; have HB3 := Lib.hid (HB2.out.grown hgrow HB2.out.size hge1.out); clear hown' hgrow hat HO1' HO2 hge1 z2)
  go_loopw [5, 6] (fun ov iv wr => REncRel w n l ov iv wr) (fun _ iv _ => l.length - (intOf iv).toNat)
  case atStart =>
    refine ⟨0, A', cap', numB n ++ numB l.length, Nat.zero_le _, rfl, by rw [List.length_append], ?_, HO3.out, HB3.out⟩
    rw [List.take_zero, bodyB_nil, List.append_nil, headB_eq]
  case round =>
    obtain ⟨p, A3, k3, cur, hp, rfl, rfl, hcur, hown, hbel⟩ := hrel
    have HC := Lib.hid hcur
    have HO := Lib.hid hown
    have HB := Lib.hid hbel
    have hge := Lib.hid (blk_own_ge hown)
    have hcl : cur.length ≤ 524298 := by
      have h1 := headB_length n l.length hn (by omega)
      have h2 := bodyB_length (l.take p)
      rw [List.length_take] at h2
      rw [HC.out, List.length_append]
      omega
    clear hcur hown hbel
    by_cases hlt : p < l.length
    · obtain ⟨b, o, hAe, hb1, hc1⟩ := HA.out.word hlt
      have g1 : wr.cell? ⟨b, o + p, none⟩ = some (U (nthW l p)) := (HB.out.cell (p := ⟨b, _, none⟩) hb1).trans hc1
      have HT := Lib.hid (bodyB_take l hlt)
      clear hc1
      subst hAe
      go_wp2_with fail
      refine (eight_any (nthW l p) wr).mono ?_
      rintro e w5 ⟨A5, k5, rfl, o5, b5⟩
      have HO' := Lib.hid (HO.out.next b5)
      have HB' := Lib.hid (bnext HB.out b5)
      have HO5 := Lib.hid o5
      have z5 := Lib.hid (own_nil8 o5)
      have h8 := eightB_length (nthW l p)
      clear o5 b5 g1
      go_wp2_with (at_builtin; (refine app8 rfl (.tmp 19) (.tmp 24) rfl w.heap.size A3 k3 cur cur.length rfl rfl HO'.out A5 8 k5 _ (eightB (nthW l p)) h8 rfl HO5.out.rd (fun h => by rw [← h8]; exact z5.out h) (by omega) HB'.out.size ?_); intro A' cap' w6 hown' hgrow hat; have HO6 := Lib.hid hown'; have HB6 := Lib.hid (HB'.out.grown hgrow HB'.out.size hge.out); clear hown' hgrow hat)
      refine ⟨⟨p + 1, A', cap', cur ++ eightB (nthW l p), by omega, by go_num, by rw [List.length_append, h8], ?_, HO6.out, HB6.out⟩, by simp [intOf]; omega⟩
      rw [HT.out, HC.out, List.append_assoc]
    · obtain rfl : p = l.length := by omega
      have he : cur = encB n l := by rw [HC.out, List.take_length]; rfl
      have HE := Lib.hid he
      clear he
      go_wp2
      go_ret
      refine ⟨A3, k3, by rw [← HE.out]; rfl, ?_, HB.out⟩
      have h := HO.out
      rw [HE.out] at h
      exact h
end Go.Proofs.YtkhbodjgckgepaaDoor
