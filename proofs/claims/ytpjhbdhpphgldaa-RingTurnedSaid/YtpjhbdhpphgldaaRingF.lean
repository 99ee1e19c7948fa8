/-
  The walk of RingTurned: a product turned over; a row times a column is a sum.
-/
import Derived.Test.YtpjhbdhpphgldaaRingC
import Derived.Test.YtpjhbdhpphgldaaRingL
namespace Go.Proofs.Ytpjhbdhpphgldaa
set_option linter.unusedVariables false
set_option linter.unusedSimpArgs false
open Go.RowKit
attribute [local go_sem ↓] u64_add u64_beq u64_bne
theorem nth_tu3 (l : List UInt64) {i j : Nat} (hi : i < 3) (hj : j < 3) : nthW (tuW l) (i * 3 + j) = nthW l (j * 3 + i) := by
  rw [nthW_tuW l (by omega)]
  congr 1
  omega
theorem mat3_turned (a b : List UInt64) : tuW (matW a b 3 3 3) = matW (tuW b) (tuW a) 3 3 3 := by
  apply ext3 (length_tuW _) (length_matW _ _ _ _ _)
  intro i j hi hj
  rw [nth_tu3 _ hi hj, nth_mat3 _ _ hj hi, nth_mat3 _ _ hi hj]
  have e1 := nth_tu3 b hi (show 0 < 3 from by omega)
  have e2 := nth_tu3 b hi (show 1 < 3 from by omega)
  have e3 := nth_tu3 b hi (show 2 < 3 from by omega)
  have f1 := nth_tu3 a (show 0 < 3 from by omega) hj
  have f2 := nth_tu3 a (show 1 < 3 from by omega) hj
  have f3 := nth_tu3 a (show 2 < 3 from by omega) hj
  simp only [Nat.add_zero, Nat.zero_mul, Nat.zero_add, Nat.one_mul, Nat.reduceMul] at e1 e2 e3 f1 f2 f3
  rw [e1, e2, e3, f1, f2, f3]
  grind
theorem row_sum (l : List UInt64) (h : l.length = 3) : matW l [1, 1, 1] 1 3 1 = [sumW l] := by
  match l, h with
  | [x, y, z], _ =>
    apply extW (by rw [length_matW]; rfl)
    intro k hk
    rw [length_matW] at hk
    obtain rfl : k = 0 := by omega
    rw [nthW_matW _ _ _ _ _ (by omega)]
    have e : nthW [sumW [x, y, z]] 0 = sumW [x, y, z] := by rw [nthW_eq]; rfl
    have e0 : nthW [x, y, z] 0 = x := by rw [nthW_eq]; rfl
    have e1 : nthW [x, y, z] 1 = y := by rw [nthW_eq]; rfl
    have e2 : nthW [x, y, z] 2 = z := by rw [nthW_eq]; rfl
    have u0 : nthW [1, 1, 1] 0 = 1 := by rw [nthW_eq]; rfl
    have u1 : nthW [1, 1, 1] 1 = 1 := by rw [nthW_eq]; rfl
    have u2 : nthW [1, 1, 1] 2 = 1 := by rw [nthW_eq]; rfl
    rw [e]
    unfold dotW addW mulW
    unfold dotW addW mulW
    unfold dotW addW mulW
    unfold dotW sumW addW
    simp only [Nat.zero_div, Nat.zero_mul, Nat.zero_add, Nat.reduceMul, Nat.zero_mod, Nat.add_zero, Nat.reduceAdd, Nat.mul_one, List.foldl, e0, e1, e2, u0, u1, u2]
    grind
/-- The block of three ones. -/
theorem ones_block (w : World) : BlkW (w.alloc (.cells #[.int .u64 1, .int .u64 1, .int .u64 1] 22)) 22 w.heap.size [1, 1, 1] := heap_alloc_new w _
set_option maxRecDepth 100000 in
set_option maxHeartbeats 1000000 in
theorem RingTurned_walk (w : World) (A0 : Option Addr) (c0 : Nat) (x : List UInt64) (m0 : x.length ≤ maxLen) (n0 : Rd w w.heap.size A0 (x.map U))
    (A1 : Option Addr) (c1 : Nat) (y : List UInt64) (m1 : y.length ≤ maxLen) (n1 : Rd w w.heap.size A1 (y.map U)) :
    Calls Try.prog 7 #[.slice A0 x.length c0, .slice A1 y.length c1] w fun e w' => e = .returned (.bool true) ∧ Below w.heap.size w w' := by
  unfold maxLen at m0 m1
  go_enter Try.func7, Try.ntmps7
  go_wp2_with fail
  refine (awake_any w).mono ?_
  rintro e w1 ⟨rfl, hb1⟩
  have n0 := n0.next hb1
  have n1 := n1.next hb1
  have HB := Lib.hid hb1
  clear hb1
  go_wp2_with fail
  refine (square_any A0 c0 x w1 (by omega) n0).mono ?_
  rintro e w2 ⟨rfl, ka, hb⟩
  have n1 := n1.next hb
  have HB := Lib.hid (bnext HB.out hb)
  clear hb
  go_wp2_with fail
  refine (square_any A1 c1 y w2 (by omega) n1).mono ?_
  rintro e w3 ⟨rfl, kb, hb⟩
  have ka := ka.next hb
  have HB := Lib.hid (bnext HB.out hb)
  clear hb n0 n1 m0 m1
  obtain ⟨ga, Ea⟩ : ∃ g, g = w1.heap.size := ⟨_, rfl⟩
  obtain ⟨gb, Eb⟩ : ∃ g, g = w2.heap.size := ⟨_, rfl⟩
  rw [← Ea] at ka ⊢
  rw [← Eb] at kb ⊢
  clear Ea Eb
  go_wp2_with fail
  refine (times_any _ _ _ _ _ _ _ _ w3 (length_sqW _) (length_sqW _) rfl rfl ka.rdn kb.rdn).mono ?_
  rintro e w4 ⟨rfl, kp, hb⟩
  have ka := ka.next hb
  have kb := kb.next hb
  have HB := Lib.hid (bnext HB.out hb)
  clear hb
  obtain ⟨gp, Ep⟩ : ∃ g, g = w3.heap.size := ⟨_, rfl⟩
  rw [← Ep] at kp ⊢
  clear Ep
  go_wp2_with fail
  refine (turned_any _ _ _ _ w4 (length_matW _ _ _ _ _) rfl kp.rdn).mono ?_
  rintro e w5 ⟨rfl, kt, hb⟩
  have ka := ka.next hb
  have kb := kb.next hb
  have HB := Lib.hid (bnext HB.out hb)
  clear hb kp
  obtain ⟨gt, Et⟩ : ∃ g, g = w4.heap.size := ⟨_, rfl⟩
  rw [← Et] at kt ⊢
  clear Et
  go_wp2_with fail
  refine (turned_any _ _ _ _ w5 (length_sqW _) rfl kb.rdn).mono ?_
  rintro e w6 ⟨rfl, kbt, hb⟩
  have ka := ka.next hb
  have kt := kt.next hb
  have HB := Lib.hid (bnext HB.out hb)
  clear hb kb
  go_wp2_with fail
  refine (turned_any _ _ _ _ w6 (length_sqW _) rfl ka.rdn).mono ?_
  rintro e w7 ⟨rfl, kat, hb⟩
  have ka := ka.next hb
  have kt := kt.next hb
  have kbt := kbt.next hb
  have HB := Lib.hid (bnext HB.out hb)
  clear hb
  go_wp2_with fail
  refine (times_any _ _ _ _ _ _ _ _ w7 (length_tuW _) (length_tuW _) rfl rfl kbt.rdn kat.rdn).mono ?_
  rintro e w8 ⟨rfl, kq, hb⟩
  have ka := ka.next hb
  have kt := kt.next hb
  rw [mat3_turned] at kt
  have HB := Lib.hid (bnext HB.out hb)
  clear hb kbt kat
  go_wp2_with fail
  refine (Words_same _ _ _ _ _ 9 9 _ w8 (length_matW _ _ _ _ _) (length_matW _ _ _ _ _) (by omega) kt.rdn kq.rdn).mono ?_
  rintro e w' ⟨rfl, m0, rfl⟩
  have ka := ka.drewN m0
  have HB := Lib.hid (below_drewN HB.out m0)
  obtain ⟨w9, E9⟩ : ∃ w9, w9 = w8.drewN m0 := ⟨_, rfl⟩
  rw [← E9] at ka HB ⊢
  clear E9 kt kq
  have hone := ones_block w9
  have hb9 : Below w9.heap.size w9 (w9.alloc (.cells #[.int .u64 1, .int .u64 1, .int .u64 1] 22)) := (Below.refl _ _).alloc (Nat.le_refl _) _
  have ka2 := ka.next hb9
  have KA := Lib.hid ka2
  have KO := Lib.hid hone
  have H9 := Lib.hid hb9
  clear hone hb9 ka2 ka
  go_wp2_with fail
  have h3 : ((sqW x).take 3).length = 3 := by rw [List.length_take, length_sqW]; rfl
  refine (Mat_fit (some ⟨ga, 0, none⟩) (some ⟨w9.heap.size, 0, none⟩) 9 3 ((sqW x).take 3) [1, 1, 1] 1 3 1 3 3 1 3 1 _ (by omega) (by omega) (by omega) (by omega) (by omega) (by omega) h3 rfl h3 rfl rfl rfl rfl (by rw [List.map_take]; exact KA.out.rdn.take 3) KO.out.rdn).mono ?_
  rintro e w10 ⟨rfl, kl, hb⟩
  rw [row_sum _ h3] at kl
  have ka := KA.out.next hb
  have h10 := kl.cell (k := 0) (by simp)
  have e10 : nthW [sumW ((sqW x).take 3)] 0 = sumW ((sqW x).take 3) := by rw [nthW_eq]; rfl
  rw [e10] at h10
  simp only [World.size_alloc] at h10
  have HB := Lib.hid (bnext (bnext HB.out H9.out) hb)
  have hr : Rd w10 w10.heap.size (some ⟨ga, 0, none⟩) (((sqW x).take 3).map U) := by rw [List.map_take]; exact ka.rdn.take 3
  have HR := Lib.hid hr
  have H3 := Lib.hid h3
  clear hr h3 KA KO H9 hb kl ka e10
  have hsum : ∀ n, Calls Try.prog 21 #[.slice (some ⟨ga, 0, none⟩) 3 9] (w10.drewN n) fun e w' => e = .returned (U (sumW ((sqW x).take 3))) ∧ w' = w10.drewN n := fun n => by
    have h := Sum_any (some ⟨ga, 0, none⟩) 9 ((sqW x).take 3) _ (w10.drewN n) (by rw [H3.out]; omega) (HR.out.drewN n)
    rw [H3.out] at h
    exact h.mono fun e w' ⟨h1, h2⟩ => ⟨h1, h2.symm⟩
  go_wp2_with fail
  go_quiet ((go_at_call 21; exact Calls.quiet_of_same (hsum _)))
  go_wp2
  go_ret
  exact ⟨rfl, below_drewN HB.out _⟩
end Go.Proofs.Ytpjhbdhpphgldaa
