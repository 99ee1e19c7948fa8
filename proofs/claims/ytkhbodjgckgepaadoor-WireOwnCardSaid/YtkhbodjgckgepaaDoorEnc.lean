/-
  The walk of wire.Encode at a good message.
-/
import Derived.Test.YtkhbodjgckgepaaDoorWireA
import Derived.Test.YtkhbodjgckgepaaDoorAppW
import Derived.Test.YtkhbodjgckgepaaDoorFault
import Derived.Deep.RegionHeld3
namespace Go.Proofs.YtkhbodjgckgepaaDoor
set_option linter.unusedVariables false
set_option linter.unusedSimpArgs false
open Go.RowKit
/-- Byte i of a word, the low one first. -/
def byteAt (x : UInt64) (i : Nat) : UInt8 := byteN (x.toNat / 2 ^ (8 * i))
def eightB (x : UInt64) : List UInt8 := (List.range 8).map (byteAt x)
theorem eightB_length (x : UInt64) : (eightB x).length = 8 := by unfold eightB; simp
theorem eightB_take (x : UInt64) {q : Nat} (h : q < 8) : (eightB x).take (q + 1) = (eightB x).take q ++ [byteAt x q] := by
  rw [List.take_succ_eq_append_getElem (by rw [eightB_length]; exact h)]
  unfold eightB
  simp
theorem eightB_full (x : UInt64) : (eightB x).take 8 = eightB x := List.take_of_length_le (by rw [eightB_length]; exact Nat.le_refl _)
/-- The words' bytes. -/
def bodyB (l : List UInt64) : List UInt8 := l.flatMap eightB
theorem bodyB_length (l : List UInt64) : (bodyB l).length = 8 * l.length := by
  unfold bodyB
  induction l with
  | nil => rfl
  | cons x l ih => rw [List.flatMap_cons, List.length_append, eightB_length, ih, List.length_cons]; omega
theorem bodyB_take (l : List UInt64) {p : Nat} (h : p < l.length) : bodyB (l.take (p + 1)) = bodyB (l.take p) ++ eightB (nthW l p) := by
  unfold bodyB
  rw [List.take_succ_eq_append_getElem h, List.flatMap_append, nthW_eq, List.getD_eq_getElem?_getD, List.getElem?_eq_getElem h]
  simp
/-- A message's bytes. -/
def headB (n m : Nat) : List UInt8 := numB n ++ numB m
def encB (n : Nat) (l : List UInt64) : List UInt8 := headB n l.length ++ bodyB l
theorem headB_length (n m : Nat) (hn : n ≤ 4294967295) (hm : m ≤ 4294967295) : (headB n m).length ≤ 10 := by
  unfold headB
  rw [List.length_append]
  have := numB_length n hn
  have := numB_length m hm
  omega
theorem u8_byteAt (x : UInt64) (q : Nat) : IntKind.u8.wrap ((x.toNat : Int) / 2 ^ (8 * q)) = ((byteAt x q).toNat : Int) := by
  unfold byteAt
  rw [← u8_wrapN]
  congr 1
theorem u8_byteAt' (x : UInt64) (q : Nat) : ((x.toNat : Int) / 2 ^ (8 * q)) % 256 = ((byteAt x q).toNat : Int) := by rw [← wrap8, u8_byteAt]
theorem bodyB_nil : bodyB [] = [] := rfl
theorem headB_eq (n m : Nat) : headB n m = numB n ++ numB m := rfl
attribute [irreducible] byteAt eightB bodyB headB
theorem encS_next {B g : Nat} {u v : Value} {wb W w' : World} (b : Below W.heap.size W w') (h : W.cell? ⟨g, 0, none⟩ = some u ∧ W.cell? ⟨g, 1, none⟩ = some v ∧ g < B ∧ B ≤ W.heap.size ∧ Below B wb W) :
    w'.cell? ⟨g, 0, none⟩ = some u ∧ w'.cell? ⟨g, 1, none⟩ = some v ∧ g < B ∧ B ≤ w'.heap.size ∧ Below B wb w' :=
  have hg : g < W.heap.size := Nat.lt_of_lt_of_le h.2.2.1 h.2.2.2.1
  ⟨(b.cell (p := ⟨g, 0, none⟩) hg).trans h.1, (b.cell (p := ⟨g, 1, none⟩) hg).trans h.2.1, h.2.2.1, Nat.le_trans h.2.2.2.1 b.size, h.2.2.2.2.trans (b.mono h.2.2.2.1)⟩
theorem encS_grown {B g cap : Nat} {A : Option Addr} {xs : List Value} {u v : Value} {wb W w' : World} (hg : W.grownBy w' (blk A)) (ho : Own W B 5 A cap xs) (h : W.cell? ⟨g, 0, none⟩ = some u ∧ W.cell? ⟨g, 1, none⟩ = some v ∧ g < B ∧ B ≤ W.heap.size ∧ Below B wb W) :
    w'.cell? ⟨g, 0, none⟩ = some u ∧ w'.cell? ⟨g, 1, none⟩ = some v ∧ g < B ∧ B ≤ w'.heap.size ∧ Below B wb w' := by
  have hb : Below B W w' := (Below.refl _ _).grown hg h.2.2.2.1 (blk_own_ge ho)
  exact ⟨(hb.cell (p := ⟨g, 0, none⟩) h.2.2.1).trans h.1, (hb.cell (p := ⟨g, 1, none⟩) h.2.2.1).trans h.2.1, h.2.2.1, Nat.le_trans h.2.2.2.1 hb.size, h.2.2.2.2.trans hb⟩
theorem own_nil8 {w : World} {base cap : Nat} {A : Option Addr} {l : List UInt8} (h : Own w base 5 A cap (l.map V8)) : A = none → l.length = 0 := by
  intro hA
  rcases h.form with ⟨_, h2⟩ | ⟨g, cur, h2, _⟩
  · simpa using h2
  · rw [hA] at h2; cases h2
theorem number_own (n : Nat) (hn : n ≤ 4294967295) (B : Nat) (w : World) (hB : B ≤ w.heap.size) :
    Calls Tryd.prog 24 #[.int .i64 n] w fun e w' => ∃ A cap, e = .returned (.slice A (numB n).length cap) ∧ Own w' B 5 A cap ((numB n).map V8) ∧ Below w.heap.size w w' :=
  (number_any n hn w).mono fun e w' ⟨A, cap, h1, h2, h3⟩ => ⟨A, cap, h1, h2.more hB, h3⟩
def EncRel (w wb : World) (n : Nat) (l : List UInt64) (ov iv : Value) (wr : World) : Prop :=
  ∃ (p : Nat) (A : Option Addr) (cap : Nat) (cur : List UInt8), p ≤ l.length ∧ iv = .int .i64 p ∧ ov = .slice A cur.length cap ∧ cur = headB n l.length ++ bodyB (l.take p) ∧ Own wr (w.heap.size + 1) 5 A cap (cur.map V8) ∧ Below (w.heap.size + 1) wb wr
def EncIn (w wb : World) (pre : List UInt8) (x : UInt64) (ov iv : Value) (wr : World) : Prop :=
  ∃ (q : Nat) (A : Option Addr) (cap : Nat) (cur : List UInt8), q ≤ 8 ∧ iv = .int .i64 q ∧ ov = .slice A cur.length cap ∧ cur = pre ++ (eightB x).take q ∧ Own wr (w.heap.size + 1) 5 A cap (cur.map V8) ∧ Below (w.heap.size + 1) wb wr
attribute [local go_sem ↓] u8_byteAt u8_byteAt'
set_option maxRecDepth 100000 in
set_option maxHeartbeats 1000000 in
theorem encode_any (n : Nat) (A : Option Addr) (c : Nat) (l : List UInt64) (w : World) (hn : n ≤ 4294967295) (hl : l.length ≤ 65536) (hA : Rd w w.heap.size A (l.map U)) :
    Calls Tryd.prog 18 #[.agg #[.int .i64 n, .slice A l.length c]] w fun e w' =>
      ∃ A' cap, e = .returned (.tuple #[.slice A' (encB n l).length cap, .nilIface]) ∧ Own w' w.heap.size 5 A' cap ((encB n l).map V8) ∧ Below w.heap.size w w' := by
  have hr1 := Lib.hid (fun W h => number_own n hn (w.heap.size + 1) W h)
  have hr2 := Lib.hid (fun W h => number_own l.length (by omega) (w.heap.size + 1) W h)
  have q1 : decide ((n : Int) < 0) = false := by simp
  have q2 : decide ((4294967295 : Int) < (n : Int)) = false := by simp; omega
  have q3 : decide ((65536 : Int) < (l.length : Int)) = false := by simp; omega
  go_enter Tryd.func18, Tryd.ntmps18
  go_wp2_with fail
  obtain ⟨wb, hwb⟩ : ∃ wb, wb = w.alloc (.cells #[.int .i64 n, .slice A l.length c] 42) := ⟨_, rfl⟩
  rw [← hwb]
  have c0 : wb.cell? ⟨w.heap.size, 0, none⟩ = some (.int .i64 n) := by rw [hwb]; exact cell_of_row _ _ 0 _ _ _ (heap_alloc_new w _)
  have c1 : wb.cell? ⟨w.heap.size, 1, none⟩ = some (.slice A l.length c) := by rw [hwb]; exact cell_of_row _ _ 1 _ _ _ (heap_alloc_new w _)
  have bw : Below w.heap.size w wb := by rw [hwb]; exact (Below.refl _ _).alloc (Nat.le_refl _) _
  have sz : wb.heap.size = w.heap.size + 1 := by rw [hwb, World.size_alloc]
  have HS0 : Hid (wb.drew.cell? ⟨w.heap.size, 0, none⟩ = some (.int .i64 n) ∧ wb.drew.cell? ⟨w.heap.size, 1, none⟩ = some (.slice A l.length c) ∧ w.heap.size < w.heap.size + 1 ∧ w.heap.size + 1 ≤ wb.drew.heap.size ∧ Below (w.heap.size + 1) wb wb.drew) :=
    ⟨c0, c1, by omega, by rw [show wb.drew.heap.size = wb.heap.size from rfl, sz]; exact Nat.le_refl _, (Below.refl _ _).drew⟩
  have HBW := Lib.hid bw
  have HZ := Lib.hid sz
  clear hwb c0 c1 bw sz
  have HA := Lib.hid hA
  have lk1 := numB_length n hn
  have lk2 := numB_length l.length (by omega)
  clear hA q1 q2 q3
  go_region_held3 (fun w' => w'.cell? ⟨w.heap.size, 0, none⟩ = some (.int .i64 n) ∧ w'.cell? ⟨w.heap.size, 1, none⟩ = some (.slice A l.length c) ∧ w.heap.size < w.heap.size + 1 ∧ w.heap.size + 1 ≤ w'.heap.size ∧ Below (w.heap.size + 1) wb w')
    (first | with_reducible exact HS0.out | exact encS_next (by assumption) (by assumption) | exact encS_grown (by assumption) (by assumption) (by assumption))
    (first
      | (refine app8_step rfl (.tmp 29) (.tmp 33) rfl (w.heap.size + 1) A1 k1 (numB n) _ rfl rfl o1 A2 _ k2 _ (numB l.length) rfl rfl o2.rd z2 (by omega) (And.left (And.right (And.right (And.right (by assumption))))) ?_; intro A' cap' w9 hown' hgrow hat)
      | (go_at_call 24; (with_reducible show Calls Tryd.prog 24 #[Value.int IntKind.i64 (n : Int)] _ _); refine (hr1.out _ (And.left (And.right (And.right (And.right (by assumption)))))).mono ?_; rintro e w1 ⟨A1, k1, rfl, o1, b1⟩; (try have o2 := o2.next b1))
      | (go_at_call 24; (with_reducible show Calls Tryd.prog 24 #[Value.int IntKind.i64 (l.length : Int)] _ _); refine (hr2.out _ (And.left (And.right (And.right (And.right (by assumption)))))).mono ?_; rintro e w2 ⟨A2, k2, rfl, o2, b2⟩; (try have o1 := o1.next b2); have z2 := own_nil8 o2))
  all_goals
    have hS : w9.cell? ⟨w.heap.size, 0, none⟩ = some (.int .i64 n) ∧ w9.cell? ⟨w.heap.size, 1, none⟩ = some (.slice A l.length c) ∧ w.heap.size < w.heap.size + 1 ∧ w.heap.size + 1 ≤ w9.heap.size ∧ Below (w.heap.size + 1) wb w9 := by assumption
    have s1 := hS.2.1
    have HB9 := Lib.hid hS.2.2.2.2
    have HO9 := Lib.hid hown'
    clear hS hown' hgrow hat o1 o2 b1 b2 z2
    go_wp2
    go_loopw [4, 38] (fun ov iv wr => EncRel w wb n l ov iv wr) (fun _ iv _ => l.length - (intOf iv).toNat)
    case atStart =>
      refine ⟨0, A', cap', numB n ++ numB l.length, Nat.zero_le _, rfl, by rw [List.length_append], ?_, HO9.out, HB9.out⟩
      rw [List.take_zero, bodyB_nil, List.append_nil, headB_eq]
    case round =>
      obtain ⟨p, A3, k3, cur, hp, rfl, rfl, hcur, hown, hbel⟩ := hrel
      have HC := Lib.hid hcur
      clear hcur
      by_cases hlt : p < l.length
      · obtain ⟨b, o, hAe, hb1, hc1⟩ := HA.out.word hlt
        have g1 : wr.cell? ⟨b, o + p, none⟩ = some (U (nthW l p)) := (hbel.cell (p := ⟨b, _, none⟩) (Nat.lt_succ_of_lt hb1)).trans ((HBW.out.cell (p := ⟨b, _, none⟩) hb1).trans hc1)
        have HT := Lib.hid (bodyB_take l hlt)
        have HO := Lib.hid hown
        have HB := Lib.hid hbel
        have hcl : cur.length ≤ 524298 := by
          have h1 := headB_length n l.length hn (by omega)
          have h2 := bodyB_length (l.take p)
          rw [List.length_take] at h2
          rw [HC.out, List.length_append]
          omega
        clear hown hbel hc1
        subst hAe
        go_wp2
        clear g1
        go_loopw [4, 42] (fun ov iv wr => EncIn w wb cur (nthW l p) ov iv wr) (fun _ iv _ => 8 - (intOf iv).toNat)
        case atStart => exact ⟨0, A3, k3, cur, by omega, rfl, rfl, by simp, HO.out, HB.out⟩
        case round =>
          obtain ⟨q, A4, k4, now, hq, rfl, rfl, hnow, hown, hbel⟩ := hrel
          have HN := Lib.hid hnow
          have HO := Lib.hid hown
          have HB := Lib.hid hbel
          have hge := Lib.hid (blk_own_ge hown)
          have hnl : now.length ≤ 524306 := by
            rw [HN.out, List.length_append, List.length_take]
            omega
          clear hown hbel hnow
          by_cases hlq : q < 8
          · have HE := Lib.hid (eightB_take (nthW l p) hlq)
            go_wp2_with (at_builtin; (refine app8 rfl (.tmp 45) (.tmp 51) rfl (w.heap.size + 1) A4 k4 now now.length rfl rfl (HO.out.alloc _) (some ⟨wr.heap.size, 0, none⟩) 1 1 (wr.heap.size + 1) [byteAt (nthW l p) q] rfl rfl (one_app8 _ _) (fun h => by cases h) (by omega) (by have := HB.out.size; have := HZ.out; simp; omega) ?_); intro A' cap' w1 hown' hgrow hat)
            refine ⟨⟨q + 1, A', cap', now ++ [byteAt (nthW l p) q], by omega, by go_num, by simp, ?_, hown', ?_⟩, by simp [intOf]; omega⟩
            · rw [HE.out, ← List.append_assoc, ← HN.out]
            · exact (HB.out.alloc (by have := HB.out.size; have := HZ.out; omega) _).grown hgrow (by have := HB.out.size; have := HZ.out; simp; omega) hge.out
          · obtain rfl : q = 8 := by omega
            go_wp2
            refine ⟨⟨p + 1, A4, k4, now, by omega, by go_num, rfl, ?_, HO.out, HB.out⟩, by simp [intOf]; omega⟩
            rw [HN.out, eightB_full, HC.out, HT.out, List.append_assoc]
      · obtain rfl : p = l.length := by omega
        have HO := Lib.hid hown
        have HB := Lib.hid hbel
        have he : cur = encB n l := by rw [HC.out, List.take_length]; rfl
        have HE := Lib.hid he
        clear hown hbel he
        go_wp2
        go_ret2
        refine ⟨A3, k3, by rw [HE.out]; rfl, ?_, ?_⟩
        · have h := HO.out
          rw [HE.out] at h
          exact h.more (by omega)
        · exact HBW.out.trans (HB.out.mono (by omega))
end Go.Proofs.YtkhbodjgckgepaaDoor
