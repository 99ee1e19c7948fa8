/-
  The walk of the law RingMats.
-/
import Derived.Test.YtpjhbdhpphgldaaDoorRmC
import Derived.Test.YtpjhbdhpphgldaaDoorRmRef
import Derived.Test.YtpjhbdhpphgldaaDoorApp0
import Derived.Test.YtpjhbdhpphgldaaDoorSetO
import Derived.Test.YtpjhbdhpphgldaaDoorETy
import Derived.Test.YtpjhbdhpphgldaaDoorCut
import Derived.Deep.RegionHeld3
import Derived.Deep.DeepCutAuto
namespace Go.Proofs.YtpjhbdhpphgldaaDoor
set_option linter.unusedVariables false
set_option linter.unusedSimpArgs false
open Go.RowKit
def MatsCut (W : World) (xs ys : List UInt64) (s0 s1 : Value) (wx : World) : Prop :=
  ∃ A1 k1 A2 k2, s0 = .slice A1 xs.length k1 ∧ s1 = .slice A2 ys.length k2 ∧ Rd wx wx.heap.size A1 (xs.map U) ∧ Rd wx wx.heap.size A2 (ys.map U) ∧ Below W.heap.size W wx
theorem mats_refused {x y : Nat} {m k n : Int} (hx : x ≤ 300) (hy : y ≤ 300) (h : ¬ fitsM x y m k n) :
    (decide (m < 1) = true) ∨ (decide (m < 1) = false ∧ decide (k < 1) = true) ∨ (decide (m < 1) = false ∧ decide (k < 1) = false ∧ decide (n < 1) = true) ∨
    (decide (m < 1) = false ∧ decide (k < 1) = false ∧ decide (n < 1) = false ∧ decide (300 < m) = true) ∨
    (decide (m < 1) = false ∧ decide (k < 1) = false ∧ decide (n < 1) = false ∧ decide (300 < m) = false ∧ decide (300 < k) = true) ∨
    (decide (m < 1) = false ∧ decide (k < 1) = false ∧ decide (n < 1) = false ∧ decide (300 < m) = false ∧ decide (300 < k) = false ∧ decide (300 < n) = true) ∨
    (1 ≤ m ∧ m ≤ 300 ∧ 1 ≤ k ∧ k ≤ 300 ∧ 1 ≤ n ∧ n ≤ 300 ∧ 0 ≤ m * k ∧ m * k ≤ 90000 ∧ ((x : Int) != m * k) = true) ∨
    (1 ≤ m ∧ m ≤ 300 ∧ 1 ≤ k ∧ k ≤ 300 ∧ 1 ≤ n ∧ n ≤ 300 ∧ 0 ≤ m * k ∧ m * k ≤ 90000 ∧ 0 ≤ k * n ∧ k * n ≤ 90000 ∧ ((x : Int) != m * k) = false ∧ ((y : Int) != k * n) = true) := by
  simp only [decide_eq_true_eq, decide_eq_false_iff_not]
  by_cases a1 : m < 1
  · left; exact a1
  by_cases a2 : k < 1
  · right; left; exact ⟨a1, a2⟩
  by_cases a3 : n < 1
  · right; right; left; exact ⟨a1, a2, a3⟩
  by_cases a4 : 300 < m
  · right; right; right; left; exact ⟨a1, a2, a3, a4⟩
  by_cases a5 : 300 < k
  · right; right; right; right; left; exact ⟨a1, a2, a3, a4, a5⟩
  by_cases a6 : 300 < n
  · right; right; right; right; right; left; exact ⟨a1, a2, a3, a4, a5, a6⟩
  have b1 : m * k ≤ 300 * 300 := Int.mul_le_mul (by omega) (by omega) (by omega) (by omega)
  have b2 : k * n ≤ 300 * 300 := Int.mul_le_mul (by omega) (by omega) (by omega) (by omega)
  have b3 : 0 ≤ m * k := Int.mul_nonneg (by omega) (by omega)
  have b4 : 0 ≤ k * n := Int.mul_nonneg (by omega) (by omega)
  by_cases a7 : (x : Int) = m * k
  · have a8 : (y : Int) ≠ k * n := fun a8 => h ⟨by omega, by omega, by omega, by omega, by omega, by omega, a7, a8⟩
    right; right; right; right; right; right; right
    exact ⟨by omega, by omega, by omega, by omega, by omega, by omega, b3, by omega, b4, by omega, by rw [a7]; simp, by simpa using a8⟩
  · right; right; right; right; right; right; left
    exact ⟨by omega, by omega, by omega, by omega, by omega, by omega, b3, by omega, by simpa using a7⟩
theorem mats_move {W Wc w' : World} {A : Option Addr} {xs : List Value} (h : Rd W W.heap.size A xs) (hb : Below Wc.heap.size Wc w') (hc : Wc = W ∨ (∃ o, Wc = W.alloc o) := by first | exact .inl rfl | exact .inr ⟨_, rfl⟩) : Rd w' w'.heap.size A xs := by
  rcases hc with rfl | ⟨o, rfl⟩
  · exact h.next hb
  · exact h.next (((Below.refl _ _).alloc (Nat.le_refl _) _).trans (hb.mono (by simp)))
theorem size64 (W : World) : (sizeOf 25).run Tryd.prog W = .ok 1 W := by kernel_rfl
theorem run_min_300 (w : World) (ts : Array TypeId) (t : TypeId) (a : Nat) : (Builtin.min_ ts t #[.int .i64 (a : Int), .int .i64 300]).run Tryd.prog w = .ok (.int .i64 (minN a 300 : Nat)) w := run_min_lit w ts t a 300
attribute [local go_sem ↓] run_min_300
set_option maxRecDepth 100000 in
set_option maxHeartbeats 2000000 in
theorem RingMats_walk (w : World) (hg : ETyped w) (A : Option Addr) (c : Nat) (l : List UInt64) (hlc : l.length ≤ c) (hcm : c ≤ 17592186043904) (hA : Rd w w.heap.size A (l.map U))
    (A' : Option Addr) (c' : Nat) (l' : List UInt64) (hlc' : l'.length ≤ c') (hcm' : c' ≤ 17592186043904) (hA' : Rd w w.heap.size A' (l'.map U))
    (m k n : Int) (hm1 : -9223372036854775808 ≤ m) (hm2 : m ≤ 9223372036854775807) (hk1 : -9223372036854775808 ≤ k) (hk2 : k ≤ 9223372036854775807) (hn1 : -9223372036854775808 ≤ n) (hn2 : n ≤ 9223372036854775807) :
    Calls Tryd.prog 3 #[.slice A l.length c, .slice A' l'.length c', .agg #[.int .i64 m, .int .i64 k, .int .i64 n]] w fun e w' => e = .returned (.bool true) ∧ Below w.heap.size w w' := by
  have hbox : Below w.heap.size w (w.alloc (.cells #[.int .i64 m, .int .i64 k, .int .i64 n] 23)) := (Below.refl _ _).alloc (Nat.le_refl _) _
  have HG := Lib.hid (hg.next hbox)
  have HA := Lib.hid (hA.next hbox)
  have HA' := Lib.hid (hA'.next hbox)
  have HB := Lib.hid hbox
  have HK := Lib.hid (heap_alloc_new w (.cells #[.int .i64 m, .int .i64 k, .int .i64 n] 23))
  obtain ⟨xs, hxs⟩ : ∃ xs, xs = l.take (minN l.length 300) := ⟨_, rfl⟩
  obtain ⟨ys, hys⟩ : ∃ ys, ys = l'.take (minN l'.length 300) := ⟨_, rfl⟩
  obtain ⟨hp0, hp1, _⟩ := minN_le l.length 300
  obtain ⟨hr0, hr1, _⟩ := minN_le l'.length 300
  have hp : minN l.length 300 = xs.length := by rw [hxs, List.length_take]; omega
  have hr : minN l'.length 300 = ys.length := by rw [hys, List.length_take]; omega
  rw [hp] at hp0 hp1
  rw [hr] at hr0 hr1
  have hxc : xs.length ≤ c := by omega
  have hyc : ys.length ≤ c' := by omega
  have HXS := Lib.hid hxs
  have HYS := Lib.hid hys
  have HP := Lib.hid hp
  have HR := Lib.hid hr
  clear hg hA hA' hbox hxs hys
  go_enter Tryd.func3, Tryd.ntmps3
  go_wp2_with fail
  refine (awake_any _).mono ?_
  rintro e w1 ⟨rfl, b1⟩
  have HG1 := Lib.hid (HG.out.next b1)
  have HX1 := Lib.hid (show Rd w1 w1.heap.size (cutA A 0 1 c) (xs.map U) from by
    rw [HXS.out, List.map_take]
    have h := (HA.out.next b1).cut (k := 0) (c := c) (by simpa using hlc)
    rw [List.drop_zero] at h
    exact h.take _)
  have HY1 := Lib.hid (show Rd w1 w1.heap.size (cutA A' 0 1 c') (ys.map U) from by
    rw [HYS.out, List.map_take]
    have h := (HA'.out.next b1).cut (k := 0) (c := c') (by simpa using hlc')
    rw [List.drop_zero] at h
    exact h.take _)
  have kb := (b1.block w.heap.size (by simp)).trans HK.out
  have HB1 := Lib.hid (bnext HB.out b1)
  have r0 := cell_of_row _ _ 0 _ _ _ kb
  have r1 := cell_of_row _ _ 1 _ _ _ kb
  have r2 := cell_of_row _ _ 2 _ _ _ kb
  have hz1 := (Array.getElem?_eq_some_iff.1 kb).1
  clear kb b1
  go_wp2
  go_quiet (fail)
  go_upto_region 4 with (fail)
  obtain ⟨w2, hw2⟩ : ∃ w2, w2 = w1.drewN nq := ⟨_, rfl⟩
  rw [← hw2]
  have HX2 := Lib.hid (show Rd w2 w2.heap.size (cutA A 0 1 c) (xs.map U) from by rw [hw2]; exact HX1.out)
  have HY2 := Lib.hid (show Rd w2 w2.heap.size (cutA A' 0 1 c') (ys.map U) from by rw [hw2]; exact HY1.out)
  have HB2 := Lib.hid (show Below w.heap.size w w2 from by rw [hw2]; exact below_drewN HB1.out nq)
  have HG2 := Lib.hid (show ETyped w2 from by rw [hw2]; exact HG1.out)
  have hb0 := Lib.hid (show Below w2.heap.size w2 w2.drew from (Below.refl _ _).drew)
  have ct1 := run_cutAt_to (P := Tryd.prog) Tryd.underlying22 size64 A (n := l.length) (c := c) (h := xs.length) hxc
  have ct2 := run_cutAt_to (P := Tryd.prog) Tryd.underlying22 size64 A' (n := l'.length) (c := c') (h := ys.length) hyc
  clear hw2 r0 r1 r2 hz1
  go_cut [0, 1] (fun s0 s1 wx => MatsCut w2 xs ys s0 s1 wx)
  case first =>
    go_region_held3 (fun w' => Below w2.heap.size w2 w')
      (first | with_reducible exact hb0.out | assumption | exact Below.alloc (by assumption) (Below.size (by assumption)) _ | exact bnext (by assumption) (by assumption))
      (first
        | (refine app0_step rfl (.tmp 21) (.tmp 26) rfl _ rfl (cutA A 0 1 c) xs.length c w2.heap.size xs rfl rfl (HX2.out.below (by assumption)) (rd_nilU HX2.out) (by omega) ?_; intro A1 k1 wx hx bx; (try have hy := mats_move hy bx))
        | (refine app0_step rfl (.tmp 28) (.tmp 33) rfl _ rfl (cutA A' 0 1 c') ys.length c' w2.heap.size ys rfl rfl (HY2.out.below (by assumption)) (rd_nilU HY2.out) (by omega) ?_; intro A2 k2 wy hy by_; (try have hx := mats_move hx by_)))
    all_goals
      go_wp2_with fail
      go_meet
      exact ⟨A1, k1, A2, k2, rfl, rfl, by assumption, by assumption, by assumption⟩
  case rest =>
    obtain ⟨A1, k1, A2, k2, rfl, rfl, hx, hy, hb⟩ := hcut
    have HX3 := Lib.hid hx
    have HY3 := Lib.hid hy
    have HB3 := Lib.hid (bnext HB2.out hb)
    have HG3 := Lib.hid (HG2.out.next hb)
    clear hx hy hb hb0
    clear hp hr ct1 ct2
    go_wp2_with (first
      | (at_builtin; (refine app64 rfl (.tmp 35) (.tmp 36) rfl wc.heap.size (some ⟨wc.heap.size, 0, none⟩) 0 [] 0 rfl rfl (Own.made _ _ (Nat.le_refl _)) A1 xs.length k1 wc.heap.size xs rfl rfl (HX3.out.alloc (Nat.le_refl _) _) (rd_nilU HX3.out) (by omega) (by simp) ?_); intro A4 k4 w4 ho4 hg4 hat; rw [List.nil_append] at ho4; have HB4 := Lib.hid (made_grownU hg4); have HO4 := Lib.hid ho4; clear hg4 hat ho4)
      | (at_builtin; (refine app64 rfl (.tmp 37) (.tmp 38) rfl wc.heap.size A4 k4 xs xs.length rfl rfl (HO4.out.alloc _) (some ⟨w4.heap.size, 0, none⟩) 1 1 (w4.heap.size + 1) [7] rfl rfl (one_app64 _ 7) (fun h => by cases h) (by omega) (by have := HB4.out.size; simp; omega) ?_); intro A5 k5 w5 ho5 hg5 hat; have HB5 := Lib.hid (HB4.out.trans (step_below HO4.out HB4.out.size hg5)); have HO5 := Lib.hid ho5; clear hg5 hat ho5; obtain ⟨gr, rfl, hgr1, hgr2⟩ := HO5.out.some_ (by simp); have hk5 := own_capW HO5.out; rw [List.length_append] at hk5; have ct3 := run_cutAt_to (P := Tryd.prog) Tryd.underlying22 size64 (some ⟨gr, 0, none⟩) (n := xs.length + 1) (c := k5) (h := xs.length) (by have := hk5.1; simp at this; omega); rw [cutA_zero _ _ _ (.inr ⟨gr, 0, rfl⟩)] at ct3))
    have HR5 := Lib.hid (show Rd w5 w5.heap.size (some ⟨gr, 0, none⟩) (xs.map U) from by have h := HO5.out.rd.take xs.length; rw [← List.map_take, List.take_left] at h; exact h)
    have HX5 := Lib.hid (HX3.out.next HB5.out)
    have HY5 := Lib.hid (HY3.out.next HB5.out)
    have HG5 := Lib.hid (HG3.out.next HB5.out)
    have HT5 := Lib.hid (bnext HB3.out HB5.out)
    clear hk5
    by_cases hf : fitsM xs.length ys.length m k n
    · obtain ⟨f1, f2, f3, f4, f5, f6, f7, f8⟩ := hf
      obtain ⟨a, rfl⟩ : ∃ a : Nat, m = (a : Int) := ⟨m.toNat, by omega⟩
      obtain ⟨b, rfl⟩ : ∃ b : Nat, k = (b : Int) := ⟨k.toNat, by omega⟩
      obtain ⟨d, rfl⟩ : ∃ d : Nat, n = (d : Int) := ⟨n.toNat, by omega⟩
      have e7 : xs.length = a * b := by rw [← Int.natCast_mul] at f7; exact Int.ofNat.inj f7
      have e8 : ys.length = b * d := by rw [← Int.natCast_mul] at f8; exact Int.ofNat.inj f8
      have l1 : a ≤ a * b := Nat.le_mul_of_pos_right a (by omega)
      have l2 : b ≤ a * b := Nat.le_mul_of_pos_left b (by omega)
      have l3 : d ≤ b * d := Nat.le_mul_of_pos_left d (by omega)
      have l4 : a * d ≤ 300 * 300 := Nat.mul_le_mul (by omega) (by omega)
      have q1 : decide ((a : Int) < 1) = false := by simp; omega
      have q2 : decide ((b : Int) < 1) = false := by simp; omega
      have q3 : decide ((d : Int) < 1) = false := by simp; omega
      have q4 : decide ((300 : Int) < (a : Int)) = false := by simp; omega
      have q5 : decide ((300 : Int) < (b : Int)) = false := by simp; omega
      have q6 : decide ((300 : Int) < (d : Int)) = false := by simp; omega
      have q7 : ((xs.length : Int) != (a : Int) * (b : Int)) = false := by rw [e7]; simp
      have q8 : ((ys.length : Int) != (b : Int) * (d : Int)) = false := by rw [e8]; simp
      have E7 := Lib.hid e7
      have E8 := Lib.hid e8
      have p1 : 1 ≤ a := by omega
      have p2 : a ≤ 1024 := by omega
      have p3 : 1 ≤ b := by omega
      have p4 : b ≤ 1024 := by omega
      have p5 : 1 ≤ d := by omega
      have p6 : d ≤ 1024 := by omega
      have p7 : a * b ≤ 90000 := by rw [← e7]; omega
      have p8 : b * d ≤ 90000 := by rw [← e8]; omega
      clear e7 e8 f1 f2 f3 f4 f5 f6 f7 f8
      refine (Mat_yes (some ⟨gr, 0, none⟩) A2 k5 k2 xs ys a b d w5 p1 p2 p3 p4 p5 p6 E7.out E8.out HR5.out HY5.out).mono ?_
      rintro e w6 ⟨rfl, hblk, b6⟩
      have HK6 := Lib.hid hblk
      have HX6 := Lib.hid (HX5.out.next b6)
      have HY6 := Lib.hid (HY5.out.next b6)
      have HR6 := Lib.hid (HR5.out.next b6)
      have HO6 := Lib.hid (HO5.out.next b6)
      have HT6 := Lib.hid (bnext HT5.out b6)
      have g7 := HO6.out.cellAt (i := xs.length) (v := .int .u64 7) (by simp)
      clear hblk b6
      go_wp2_with fail
      refine (Words_same (some ⟨gr, 0, none⟩) A1 k5 k1 xs xs.length xs.length w6.heap.size w6 rfl rfl (by omega) HR6.out HX6.out).mono ?_
      rintro e w7 ⟨rfl, nq7, rfl⟩
      have hrm := Lib.hid (rMat_any A1 A2 k1 k2 xs ys a b d (w6.drewN nq7) p1 p2 p3 p4 p5 p6 E7.out E8.out (HX6.out.drewN nq7) (HY6.out.drewN nq7))
      go_wp2_with fail
      refine hrm.out.mono ?_
      rintro e w8 ⟨A8, k8, rfl, o8, b8⟩
      have HL8 := Lib.hid ((HK6.out.drewN nq7).rdn.next b8)
      have HO8 := Lib.hid o8.rd
      have HT8 := Lib.hid (bnext (below_drewN HT6.out nq7) b8)
      have hlm := length_matW xs ys a b d
      clear o8 b8 hrm
      have HLM := Lib.hid hlm
      clear hlm
      go_wp2_with fail
      refine (Words_same (some ⟨w5.heap.size, 0, none⟩) A8 (a * d) k8 (matW xs ys a b d) (a * d) (a * d) w8.heap.size w8 HLM.out HLM.out (by omega) HL8.out HO8.out).mono ?_
      rintro e w9 ⟨rfl, nq9, rfl⟩
      go_wp2
      go_ret
      exact ⟨rfl, below_drewN HT8.out nq9⟩
    · refine (Mat_no (some ⟨gr, 0, none⟩) A2 k5 k2 xs.length ys.length m k n w5 (by omega) (by omega) hf).mono ?_
      rintro e w6 ⟨rfl, rfl⟩
      have g7 := HO5.out.cellAt (i := xs.length) (v := .int .u64 7) (by simp)
      have q := mats_refused hp1 hr1 hf
      have Q := Lib.hid q
      clear hf q
      go_wp2_with fail
      refine (Words_same (some ⟨gr, 0, none⟩) A1 k5 k1 xs xs.length xs.length w5.heap.size w5 rfl rfl (by omega) HR5.out HX5.out).mono ?_
      rintro e w7 ⟨rfl, nq7, rfl⟩
      have hce := Lib.hid (Code_E 1 (w5.drewN nq7) HG5.out)
      rcases Q.out with q1 | ⟨q1, q2⟩ | ⟨q1, q2, q3⟩ | ⟨q1, q2, q3, q4⟩ | ⟨q1, q2, q3, q4, q5⟩ | ⟨q1, q2, q3, q4, q5, q6⟩ | ⟨q1, q2, q3, q4, q5, q6, q7, q8, q9⟩ | ⟨q1, q2, q3, q4, q5, q6, q7, q8, q9, q10, q11, q12⟩
      all_goals
        go_wp2_with fail
        refine hce.out.mono ?_
        rintro e w8 ⟨rfl, b8⟩
        have HT8 := Lib.hid (bnext (below_drewN HT5.out nq7) b8)
        clear b8
        go_wp2
        go_ret
        exact ⟨rfl, HT8.out⟩
end Go.Proofs.YtpjhbdhpphgldaaDoor
