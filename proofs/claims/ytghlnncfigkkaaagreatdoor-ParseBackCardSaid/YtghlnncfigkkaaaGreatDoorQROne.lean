/-
  Walks of the reference's one: numbers.
-/
import Derived.Test.YtghlnncfigkkaaaGreatDoorQLexQ
import Derived.Test.YtghlnncfigkkaaaGreatDoorQLexAR
import Derived.Test.YtghlnncfigkkaaaGreatDoorQRNum
namespace Go.Proofs.YtghlnncfigkkaaaGreatDoor
set_option linter.unusedVariables false
set_option linter.unusedSimpArgs false
open Go.RowKit
theorem rdig_is (c : UInt8) (b : Bool) (h : digB c = b) (w : World) : Calls Tryz.prog 135 #[V8 c] w fun e w' => e = .returned (.bool b) ∧ w = w' := by
 have := rDigit_any c w
 rwa [h] at this
theorem rlet_is (c : UInt8) (b : Bool) (h : lowB c = b) (w : World) : Calls Tryz.prog 137 #[V8 c] w fun e w' => e = .returned (.bool b) ∧ w = w' := by
 have := rLetter_any c w
 rwa [h] at this
theorem letB_low (c : UInt8) : letB c = (lowB c || ((c.toNat : Int) == 95)) := rfl
theorem rnum_at (s : ByteArray) (k n : Nat) (hs : s.size ≤ 100000) (hk : k < s.size) (hnk : k + n ≤ s.size) (h1 : 1 ≤ n) (hall : ∀ c ∈ textAt s k n, digB c = true) (w : World) :
  Calls Tryz.prog 136 #[.string (s.extract k (k + n))] w fun e w' => (∃ (v : Int) (ok : Bool), e = .returned (.tuple #[.int .u64 v, .bool ok]) ∧ (ok = true ↔ decV (textAt s k n) < 18446744073709551616 ∧ (s[k].toNat ≠ 48 ∨ n = 1)) ∧ (decV (textAt s k n) < 18446744073709551616 → v = decV (textAt s k n))) ∧ Below w.heap.size w w' := by
 have hsz : (s.extract k (k + n)).size = n := by rw [ByteArray.size_extract]; omega
 have hlen := textAt_length s hnk
 refine (number_any (s.extract k (k + n)) w (by omega) (by omega) (by rw [textAt_extract]; exact hall)).mono ?_
 rintro e w' ⟨⟨v, ok, he, h2, h3⟩, hb⟩
 rw [textAt_extract] at h2 h3
 refine ⟨⟨v, ok, he, h2.trans ⟨fun h => ⟨h.1, ?_⟩, fun h => ⟨h.1, ?_⟩⟩, h3⟩, hb⟩
 ·rcases h.2 with h4 | h4
  ·exact .inr (by omega)
  ·exact .inl (h4 _ (textAt_nth s hnk h1))
 ·rcases h.2 with h4 | h4
  ·refine .inr fun c hc => ?_
   rw [textAt_nth s hnk h1] at hc
   cases hc
   exact h4
  ·exact .inl (by omega)
set_option maxRecDepth 100000 in
set_option maxHeartbeats 8000000 in
theorem rone_digit (s : ByteArray) (k : Nat) (w : World) (hs : s.size ≤ 100000) (hk : k < s.size) (hd : digB s[k] = true) :
  Calls Tryz.prog 86 #[.string s, .int .i64 k] w (OneOut w s k) := by
 obtain ⟨n, hn⟩ : ∃ n, n = spanAt digB s k := ⟨_, rfl⟩
 have hn1 : 1 ≤ n := by rw [hn, spanAt_yes digB s hk hd]; omega
 have hnk := spanAt_le digB s (Nat.le_of_lt hk)
 have hall := spanAt_all digB s k
 rw [← hn] at hnk hall
 obtain ⟨R, hR⟩ : ∃ R, R = k + n := ⟨_, rfl⟩
 have hnum := rnum_at s k n hs hk hnk hn1 hall
 rw [← hR] at hnum hnk
 have hB : oneM s k = if decV (textAt s k n) < 18446744073709551616 ∧ (s[k].toNat ≠ 48 ∨ n = 1) ∧ letAt s (k + n) = false then some (2, n, decV (textAt s k n)) else none := by
  unfold oneM
  rw [dif_pos hk, if_pos hd, ← hn]
 have HB := Lib.hid hB
 have HN := Lib.hid hnum
 have HD := Lib.hid (fun W => rdig_is s[k] _ hd W)
 have HR := Lib.hid hR
 have hkR : k ≤ R := by omega
 have HR0 := Lib.hid (show R = k + spanAt digB s k from by rw [hR, hn])
 clear hall hnum hB hn1 hn hd hR
 go_enter Tryz.func86, Tryz.ntmps86
 go_wp2_with fail
 refine (HD.out _).mono ?_
 rintro e w1 ⟨rfl, rfl⟩
 go_wp2
 go_loop [8] (fun iv => ∃ j : Nat, j ≤ s.size ∧ iv = .int .i64 j ∧ R = j + spanAt digB s j) (fun iv => s.size - (intOf iv).toNat)
 case atStart => exact ⟨k, Nat.le_of_lt hk, rfl, HR0.out⟩
 case round =>
  obtain ⟨j, hj, rfl, hrj⟩ := hrel
  have HJ := Lib.hid hrj
  clear hrj
  by_cases hlt : j < s.size
  ·cases hpc : digB s[j] with
   | true =>
    have HF := Lib.hid (spanAt_yes digB s hlt hpc)
    have HC := Lib.hid (fun W => rdig_is s[j] _ hpc W)
    clear hpc
    go_wp2_with fail
    refine (HC.out _).mono ?_
    rintro e w' ⟨rfl, rfl⟩
    go_wp2
    exact ⟨⟨j + 1, by omega, by go_num, by rw [HJ.out, HF.out]; omega⟩, by simp [intOf]; omega⟩
   | false =>
    have HC := Lib.hid (fun W => rdig_is s[j] _ hpc W)
    have e1 : R = j := by rw [HJ.out, spanAt_no digB s hlt hpc]; rfl
    subst e1
    have HA := Lib.hid (show letAt s (k + n) = letB s[R] from by rw [← HR.out]; exact letAt_in s hlt)
    clear hpc HJ HR0
    go_wp2_with fail
    refine (HC.out _).mono ?_
    rintro e w' ⟨rfl, rfl⟩
    go_wp2_with fail
    refine (HN.out _).mono ?_
    rintro e w3 ⟨⟨v, ok, rfl, hok, hvv⟩, hb3⟩
    have k0 := (hb3.block w.heap.size (by simp; omega)).trans (tok_two w _).1
    have k1 := (hb3.block (w.heap.size + 1) (by simp)).trans (tok_two w _).2
    have HB3 := Lib.hid ((tok_below w _).trans (hb3.mono (by simp; omega)))
    clear hb3
    have c0 := cell_of_row _ _ 0 _ _ _ k1
    have c1 := cell_of_row _ _ 1 _ _ _ k1
    have c2 := cell_of_row _ _ 2 _ _ _ k1
    have c3 := cell_of_row _ _ 3 _ _ _ k1
    have f0 := free_row k1 0
    have f1 := free_row k1 1
    have f2 := free_row k1 2
    have K0 := Lib.hid k0
    have K1 := Lib.hid k1
    have HOK := Lib.hid hok
    have HVV := Lib.hid hvv
    clear k0 k1 hok hvv
    go_wp2_with fail
    obtain ⟨w4, hw4⟩ : ∃ w4, w4 = ((w3.setCell ⟨w.heap.size + 1, 0, none⟩ (.int .i64 2)).setCell ⟨w.heap.size + 1, 1, none⟩ (.string (s.extract k R))).setCell ⟨w.heap.size + 1, 2, none⟩ (.int .u64 v) := ⟨_, rfl⟩
    rw [← hw4]
    have k4 : w4.heap[w.heap.size + 1]? = some (.cells #[.int .i64 2, .string (s.extract k R), .int .u64 v, .int .i64 k] 155 (0, 0)) := by
     rw [hw4, heap_setCell_same _ _ _ _ _ _ (heap_setCell_same _ _ _ _ _ _ (heap_setCell_same _ _ _ _ _ _ K1.out))]
     rfl
    have k40 : w4.heap[w.heap.size]? = some tokZ := by
     rw [hw4, heap_ne _ _ _ (by simp), heap_ne _ _ _ (by simp), heap_ne _ _ _ (by simp)]
     exact K0.out
    have HB4 := Lib.hid (show Below w.heap.size w w4 from by rw [hw4]; exact ((HB3.out.setCell (by simp) _).setCell (by simp) _).setCell (by simp) _)
    clear hw4
    have hS := Lib.hid (And.intro (cell_of_row w4.drew _ 0 _ _ _ k4) (And.intro (cell_of_row w4.drew _ 1 _ _ _ k4) (And.intro (cell_of_row w4.drew _ 2 _ _ _ k4) (cell_of_row w4.drew _ 3 _ _ _ k4))))
    have z0 := cell_of_row w4 _ 0 _ _ _ k40
    have y0 := free_row k40 0
    have z1 := cell_of_row w4 _ 1 _ _ _ k40
    have y1 := free_row k40 1
    have z2 := cell_of_row w4 _ 2 _ _ _ k40
    have y2 := free_row k40 2
    have z3 := cell_of_row w4 _ 3 _ _ _ k40
    have y3 := free_row k40 3
    have K4 := Lib.hid k4
    have K40 := Lib.hid k40
    clear k4 k40
    clear c0 c1 c2 c3 f0 f1 f2
    cases ok with
    | false =>
     have HNO := Lib.hid (show ¬ (decV (textAt s k n) < 18446744073709551616 ∧ (s[k].toNat ≠ 48 ∨ n = 1)) from fun h => absurd (HOK.out.2 h) (by simp))
     refine wp_region_held_drew (S := (fun w' => w'.cell? ⟨w.heap.size + 1, 0, none⟩ = some (.int .i64 2) ∧ w'.cell? ⟨w.heap.size + 1, 1, none⟩ = some (.string (s.extract k R)) ∧ w'.cell? ⟨w.heap.size + 1, 2, none⟩ = some (.int .u64 v) ∧ w'.cell? ⟨w.heap.size + 1, 3, none⟩ = some (.int .i64 k))) (by kernel_rfl) hS.out (fun hHeld => ?_)
     refine wpAnyH_take (i := 0) (oi := _) (v := ?v1) rfl (by kernel_rfl) (by kernel_rfl) (by kernel_rfl) (fun _ _ _ h => h) ?y1 (by assumption) ?r1
     case y1 => refine Or.inl ⟨by kernel_rfl, fun w hSw => ?_⟩; (try dsimp only at hSw); go_simp; (try with_reducible rfl)
     simp only [Act.put, List.setIfInBounds_toArray, List.set_cons_zero, List.set_cons_succ]
     refine wpAnyH_take (i := 1) (oi := _) (v := ?v2) rfl (by kernel_rfl) (by kernel_rfl) (by kernel_rfl) (fun _ _ _ h => h) ?y2 (by assumption) ?r2
     case y2 => refine Or.inl ⟨by kernel_rfl, fun w hSw => ?_⟩; (try dsimp only at hSw); go_simp; (try with_reducible rfl)
     simp only [Act.put, List.setIfInBounds_toArray, List.set_cons_zero, List.set_cons_succ]
     refine wpAnyH_take (i := 2) (oi := _) (v := ?v3) rfl (by kernel_rfl) (by kernel_rfl) (by kernel_rfl) (fun _ _ _ h => h) ?y3 (by assumption) ?r3
     case y3 => refine Or.inl ⟨by kernel_rfl, fun w hSw => ?_⟩; (try dsimp only at hSw); go_simp; (try with_reducible rfl)
     simp only [Act.put, List.setIfInBounds_toArray, List.set_cons_zero, List.set_cons_succ]
     refine wpAnyH_take (i := 3) (oi := _) (v := undef) rfl (by kernel_rfl) (by kernel_rfl) (by kernel_rfl) (fun _ _ _ h => h) (Or.inr ⟨by kernel_rfl, rfl⟩) (by assumption) ?_
     simp only [Act.put, List.setIfInBounds_toArray, List.set_cons_zero, List.set_cons_succ]
     refine wpAnyH_take (i := 4) (oi := _) (v := undef) rfl (by kernel_rfl) (by kernel_rfl) (by kernel_rfl) (fun _ _ _ h => h) (Or.inr ⟨by kernel_rfl, rfl⟩) (by assumption) ?_
     simp only [Act.put, List.setIfInBounds_toArray, List.set_cons_zero, List.set_cons_succ]
     refine wpAnyH_take (i := 5) (oi := _) (v := undef) rfl (by kernel_rfl) (by kernel_rfl) (by kernel_rfl) (fun _ _ _ h => h) (Or.inr ⟨by kernel_rfl, rfl⟩) (by assumption) ?_
     simp only [Act.put, List.setIfInBounds_toArray, List.set_cons_zero, List.set_cons_succ]
     refine wpAnyH_take (i := 6) (oi := _) (v := undef) rfl (by kernel_rfl) (by kernel_rfl) (by kernel_rfl) (fun _ _ _ h => h) (Or.inr ⟨by kernel_rfl, rfl⟩) (by assumption) ?_
     simp only [Act.put, List.setIfInBounds_toArray, List.set_cons_zero, List.set_cons_succ]
     refine wpAnyH_take (i := 7) (oi := _) (v := undef) rfl (by kernel_rfl) (by kernel_rfl) (by kernel_rfl) (fun _ _ _ h => h) (Or.inr ⟨by kernel_rfl, rfl⟩) (by assumption) ?_
     simp only [Act.put, List.setIfInBounds_toArray, List.set_cons_zero, List.set_cons_succ]
     refine wpAnyH_take (i := 8) (oi := _) (v := undef) rfl (by kernel_rfl) (by kernel_rfl) (by kernel_rfl) (fun _ _ _ h => h) (Or.inr ⟨by kernel_rfl, rfl⟩) (by assumption) ?_
     simp only [Act.put, List.setIfInBounds_toArray, List.set_cons_zero, List.set_cons_succ]
     refine wpAnyH_take (i := 9) (oi := _) (v := undef) rfl (by kernel_rfl) (by kernel_rfl) (by kernel_rfl) (fun _ _ _ h => h) (Or.inr ⟨by kernel_rfl, rfl⟩) (by assumption) ?_
     simp only [Act.put, List.setIfInBounds_toArray, List.set_cons_zero, List.set_cons_succ]
     refine wpAnyH_take (i := 10) (oi := _) (v := undef) rfl (by kernel_rfl) (by kernel_rfl) (by kernel_rfl) (fun _ _ _ h => h) (Or.inr ⟨by kernel_rfl, rfl⟩) (by assumption) ?_
     simp only [Act.put, List.setIfInBounds_toArray, List.set_cons_zero, List.set_cons_succ]
     refine wpAnyH_take (i := 11) (oi := _) (v := undef) rfl (by kernel_rfl) (by kernel_rfl) (by kernel_rfl) (fun _ _ _ h => h) (Or.inr ⟨by kernel_rfl, rfl⟩) (by assumption) ?_
     simp only [Act.put, List.setIfInBounds_toArray, List.set_cons_zero, List.set_cons_succ]
     refine wpAnyH_take (i := 12) (oi := _) (v := undef) rfl (by kernel_rfl) (by kernel_rfl) (by kernel_rfl) (fun _ _ _ h => h) (Or.inr ⟨by kernel_rfl, rfl⟩) (by assumption) ?_
     simp only [Act.put, List.setIfInBounds_toArray, List.set_cons_zero, List.set_cons_succ]
     refine wpAnyH_take (i := 13) (oi := _) (v := undef) rfl (by kernel_rfl) (by kernel_rfl) (by kernel_rfl) (fun _ _ _ h => h) (Or.inr ⟨by kernel_rfl, rfl⟩) (by assumption) ?_
     simp only [Act.put, List.setIfInBounds_toArray, List.set_cons_zero, List.set_cons_succ]
     refine wpAnyH_take (i := 14) (oi := _) (v := undef) rfl (by kernel_rfl) (by kernel_rfl) (by kernel_rfl) (fun _ _ _ h => h) (Or.inr ⟨by kernel_rfl, rfl⟩) (by assumption) ?_
     simp only [Act.put, List.setIfInBounds_toArray, List.set_cons_zero, List.set_cons_succ]
     refine wpAnyH_take (i := 15) (oi := _) (v := undef) rfl (by kernel_rfl) (by kernel_rfl) (by kernel_rfl) (fun _ _ _ h => h) (Or.inr ⟨by kernel_rfl, rfl⟩) (by assumption) ?_
     simp only [Act.put, List.setIfInBounds_toArray, List.set_cons_zero, List.set_cons_succ]
     refine wpAnyH_take (i := 16) (oi := _) (v := undef) rfl (by kernel_rfl) (by kernel_rfl) (by kernel_rfl) (fun _ _ _ h => h) (Or.inr ⟨by kernel_rfl, rfl⟩) (by assumption) ?_
     simp only [Act.put, List.setIfInBounds_toArray, List.set_cons_zero, List.set_cons_succ]
     refine wpAnyH_take (i := 17) (oi := _) (v := undef) rfl (by kernel_rfl) (by kernel_rfl) (by kernel_rfl) (fun _ _ _ h => h) (Or.inr ⟨by kernel_rfl, rfl⟩) (by assumption) ?_
     simp only [Act.put, List.setIfInBounds_toArray, List.set_cons_zero, List.set_cons_succ]
     refine wpAnyH_take (i := 18) (oi := _) (v := undef) rfl (by kernel_rfl) (by kernel_rfl) (by kernel_rfl) (fun _ _ _ h => h) (Or.inr ⟨by kernel_rfl, rfl⟩) (by assumption) ?_
     simp only [Act.put, List.setIfInBounds_toArray, List.set_cons_zero, List.set_cons_succ]
     refine wpAnyH_take (i := 19) (oi := _) (v := undef) rfl (by kernel_rfl) (by kernel_rfl) (by kernel_rfl) (fun _ _ _ h => h) (Or.inr ⟨by kernel_rfl, rfl⟩) (by assumption) ?_
     simp only [Act.put, List.setIfInBounds_toArray, List.set_cons_zero, List.set_cons_succ]
     refine wpAnyH_take (i := 20) (oi := _) (v := ?v4) rfl (by kernel_rfl) (by kernel_rfl) (by kernel_rfl) (fun _ _ _ h => h) ?y4 (by assumption) ?r4
     case y4 => refine Or.inl ⟨by kernel_rfl, fun w hSw => ?_⟩; (try dsimp only at hSw); go_simp; (try with_reducible rfl)
     simp only [Act.put, List.setIfInBounds_toArray, List.set_cons_zero, List.set_cons_succ]
     refine wpAnyH_ready (rs := [21]) (by kernel_rfl) (by simp) ?_
     refine AllReadyH.cons (o := _) rfl (fun K hK => ?_) AllReadyH.nil
     go_simp
     obtain ⟨wS, hwS⟩ : ∃ wS, wS = ((((w4.setCell ⟨w.heap.size, 0, none⟩ (.int .i64 2)).setCell ⟨w.heap.size, 1, none⟩ (.string (s.extract k R))).setCell ⟨w.heap.size, 2, none⟩ (.int .u64 v)).setCell ⟨w.heap.size, 3, none⟩ (.int .i64 k)).drew := ⟨_, rfl⟩
     obtain ⟨s1, s2, s3⟩ := tok_store K40.out hwS
     rw [← hwS]
     clear hwS
     have s2' := s2.trans K4.out
     refine hK.out _ _ ⟨cell_of_row _ _ 0 _ _ _ s2', cell_of_row _ _ 1 _ _ _ s2', cell_of_row _ _ 2 _ _ _ s2', cell_of_row _ _ 3 _ _ _ s2'⟩ (fun hHeld => ?_)
     clear hK K
     try simp only [Act.put, List.setIfInBounds_toArray, List.set_cons_zero, List.set_cons_succ]
     refine wpAnyH_take (i := 22) (oi := ⟨some 5, _, _, _, _, _⟩) (v := ?v5) rfl (by kernel_rfl) (by kernel_rfl) (by kernel_rfl) (fun _ _ _ h => h) ?y5 (by assumption) ?r5
     case y5 => refine Or.inl ⟨by kernel_rfl, fun w hSw => ?_⟩; (try dsimp only at hSw); go_simp; (try with_reducible rfl)
     simp only [Act.put, List.setIfInBounds_toArray, List.set_cons_zero, List.set_cons_succ]
     refine wpAnyH_done (by kernel_rfl) ?_ _
     have d0 := cell_of_row _ _ 0 _ _ _ s1
     have d1 := cell_of_row _ _ 1 _ _ _ s1
     have d2 := cell_of_row _ _ 2 _ _ _ s1
     have d3 := cell_of_row _ _ 3 _ _ _ s1
     have HBS := Lib.hid (s3 w.heap.size w HB4.out (Nat.le_refl _))
     clear s1 s2 s2' s3 hHeld
     go_wp2
     exact bodyPost_ret (v := .tuple #[.agg #[.int .i64 2, .string (s.extract k R), .int .u64 v, .int .i64 k], .bool false]) (by simp [results, Tryz.results86, go_sem, d0, d1, d2, d3]) rfl ⟨HBS.out, _, _, _, _, _, rfl, Or.inl ⟨by rw [HB.out, if_neg (fun h => HNO.out ⟨h.1, h.2.1⟩)], rfl⟩⟩
    | true =>
     have q2 : ((R : Int) == (s.size : Int)) = false := by rw [beq_eq_false_iff_ne]; omega
     cases hb : lowB s[R] with
     | true =>
      have HL := Lib.hid (fun W => rlet_is s[R] _ hb W)
      have HX := Lib.hid (show letAt s (k + n) = true from by rw [HA.out, letB_low, hb]; rfl)
      clear hb
      refine wp_region_held_drew (S := (fun w' => w'.cell? ⟨w.heap.size + 1, 0, none⟩ = some (.int .i64 2) ∧ w'.cell? ⟨w.heap.size + 1, 1, none⟩ = some (.string (s.extract k R)) ∧ w'.cell? ⟨w.heap.size + 1, 2, none⟩ = some (.int .u64 v) ∧ w'.cell? ⟨w.heap.size + 1, 3, none⟩ = some (.int .i64 k))) (by kernel_rfl) hS.out (fun hHeld => ?_)
      refine wpAnyH_take (i := 0) (oi := _) (v := ?v6) rfl (by kernel_rfl) (by kernel_rfl) (by kernel_rfl) (fun _ _ _ h => h) ?y6 (by assumption) ?r6
      case y6 => refine Or.inl ⟨by kernel_rfl, fun w hSw => ?_⟩; (try dsimp only at hSw); go_simp; (try with_reducible rfl)
      simp only [Act.put, List.setIfInBounds_toArray, List.set_cons_zero, List.set_cons_succ]
      refine wpAnyH_take (i := 1) (oi := _) (v := ?v7) rfl (by kernel_rfl) (by kernel_rfl) (by kernel_rfl) (fun _ _ _ h => h) ?y7 (by assumption) ?r7
      case y7 => refine Or.inl ⟨by kernel_rfl, fun w hSw => ?_⟩; (try dsimp only at hSw); go_simp; (try with_reducible rfl)
      simp only [Act.put, List.setIfInBounds_toArray, List.set_cons_zero, List.set_cons_succ]
      refine wpAnyH_take (i := 2) (oi := _) (v := ?v8) rfl (by kernel_rfl) (by kernel_rfl) (by kernel_rfl) (fun _ _ _ h => h) ?y8 (by assumption) ?r8
      case y8 => refine Or.inl ⟨by kernel_rfl, fun w hSw => ?_⟩; (try dsimp only at hSw); go_simp; (try with_reducible rfl)
      simp only [Act.put, List.setIfInBounds_toArray, List.set_cons_zero, List.set_cons_succ]
      refine wpAnyH_take (i := 3) (oi := _) (v := ?v9) rfl (by kernel_rfl) (by kernel_rfl) (by kernel_rfl) (fun _ _ _ h => h) ?y9 (by assumption) ?r9
      case y9 => refine Or.inl ⟨by kernel_rfl, fun w hSw => ?_⟩; (try dsimp only at hSw); go_simp; (try with_reducible rfl)
      simp only [Act.put, List.setIfInBounds_toArray, List.set_cons_zero, List.set_cons_succ]
      refine wpAnyH_take (i := 4) (oi := _) (v := ?v10) rfl (by kernel_rfl) (by kernel_rfl) (by kernel_rfl) (fun _ _ _ h => h) ?y10 (by assumption) ?r10
      case y10 => refine Or.inl ⟨by kernel_rfl, fun w hSw => ?_⟩; (try dsimp only at hSw); go_simp; (try with_reducible rfl)
      simp only [Act.put, List.setIfInBounds_toArray, List.set_cons_zero, List.set_cons_succ]
      refine wpAnyH_take (i := 5) (oi := _) (v := ?v11) rfl (by kernel_rfl) (by kernel_rfl) (by kernel_rfl) (fun _ _ _ h => h) ?y11 (by assumption) ?r11
      case y11 => refine Or.inl ⟨by kernel_rfl, fun w hSw => ?_⟩; (try dsimp only at hSw); go_simp; (try with_reducible rfl)
      simp only [Act.put, List.setIfInBounds_toArray, List.set_cons_zero, List.set_cons_succ]
      refine wpAnyH_take (i := 6) (oi := _) (v := ?v12) rfl (by kernel_rfl) (by kernel_rfl) (by kernel_rfl) (fun _ _ _ h => h) ?y12 (by assumption) ?r12
      case y12 => refine Or.inl ⟨by kernel_rfl, fun w hSw => ?_⟩; (try dsimp only at hSw); go_simp; (try with_reducible rfl)
      simp only [Act.put, List.setIfInBounds_toArray, List.set_cons_zero, List.set_cons_succ]
      refine wpAnyH_take (i := 7) (oi := _) (v := ?v13) rfl (by kernel_rfl) (by kernel_rfl) (by kernel_rfl) (fun _ _ _ h => h) ?y13 (by assumption) ?r13
      case y13 => refine Or.inl ⟨by kernel_rfl, fun w hSw => ?_⟩; (try dsimp only at hSw); go_simp; (try with_reducible rfl)
      simp only [Act.put, List.setIfInBounds_toArray, List.set_cons_zero, List.set_cons_succ]
      refine wpAnyH_take (i := 8) (oi := _) (v := ?v14) rfl (by kernel_rfl) (by kernel_rfl) (by kernel_rfl) (fun _ _ _ h => h) ?y14 (by assumption) ?r14
      case y14 => refine Or.inl ⟨by kernel_rfl, fun w hSw => ?_⟩; (try dsimp only at hSw); go_simp; (try with_reducible rfl)
      simp only [Act.put, List.setIfInBounds_toArray, List.set_cons_zero, List.set_cons_succ]
      refine wpAnyH_take (i := 9) (oi := _) (v := ?v15) rfl (by kernel_rfl) (by kernel_rfl) (by kernel_rfl) (fun _ _ _ h => h) ?y15 (by assumption) ?r15
      case y15 => refine Or.inl ⟨by kernel_rfl, fun w hSw => ?_⟩; (try dsimp only at hSw); go_simp; (try with_reducible rfl)
      simp only [Act.put, List.setIfInBounds_toArray, List.set_cons_zero, List.set_cons_succ]
      refine wpAnyH_take (i := 10) (oi := _) (v := ?v16) rfl (by kernel_rfl) (by kernel_rfl) (by kernel_rfl) (fun _ _ _ h => h) ?y16 (by assumption) ?r16
      case y16 => refine Or.inl ⟨by kernel_rfl, fun w hSw => ?_⟩; (try dsimp only at hSw); go_simp; (try with_reducible rfl)
      simp only [Act.put, List.setIfInBounds_toArray, List.set_cons_zero, List.set_cons_succ]
      refine wpAnyH_ready (rs := [11]) (by kernel_rfl) (by simp) ?_
      refine AllReadyH.cons (o := _) rfl (fun K hK => ?_) AllReadyH.nil
      go_simp
      go_at_call 137
      refine (HL.out _).mono ?_
      rintro e w' ⟨rfl, rfl⟩
      refine hK.out _ _ (by assumption) (fun hHeld => ?_)
      clear hK K
      try simp only [Act.put, List.setIfInBounds_toArray, List.set_cons_zero, List.set_cons_succ]
      refine wpAnyH_take (i := 12) (oi := _) (v := ?v17) rfl (by kernel_rfl) (by kernel_rfl) (by kernel_rfl) (fun _ _ _ h => h) ?y17 (by assumption) ?r17
      case y17 => refine Or.inl ⟨by kernel_rfl, fun w hSw => ?_⟩; (try dsimp only at hSw); go_simp; (try with_reducible rfl)
      simp only [Act.put, List.setIfInBounds_toArray, List.set_cons_zero, List.set_cons_succ]
      refine wpAnyH_take (i := 13) (oi := _) (v := ?v18) rfl (by kernel_rfl) (by kernel_rfl) (by kernel_rfl) (fun _ _ _ h => h) ?y18 (by assumption) ?r18
      case y18 => refine Or.inl ⟨by kernel_rfl, fun w hSw => ?_⟩; (try dsimp only at hSw); go_simp; (try with_reducible rfl)
      simp only [Act.put, List.setIfInBounds_toArray, List.set_cons_zero, List.set_cons_succ]
      refine wpAnyH_take (i := 14) (oi := _) (v := undef) rfl (by kernel_rfl) (by kernel_rfl) (by kernel_rfl) (fun _ _ _ h => h) (Or.inr ⟨by kernel_rfl, rfl⟩) (by assumption) ?_
      simp only [Act.put, List.setIfInBounds_toArray, List.set_cons_zero, List.set_cons_succ]
      refine wpAnyH_take (i := 15) (oi := _) (v := undef) rfl (by kernel_rfl) (by kernel_rfl) (by kernel_rfl) (fun _ _ _ h => h) (Or.inr ⟨by kernel_rfl, rfl⟩) (by assumption) ?_
      simp only [Act.put, List.setIfInBounds_toArray, List.set_cons_zero, List.set_cons_succ]
      refine wpAnyH_take (i := 16) (oi := _) (v := undef) rfl (by kernel_rfl) (by kernel_rfl) (by kernel_rfl) (fun _ _ _ h => h) (Or.inr ⟨by kernel_rfl, rfl⟩) (by assumption) ?_
      simp only [Act.put, List.setIfInBounds_toArray, List.set_cons_zero, List.set_cons_succ]
      refine wpAnyH_take (i := 17) (oi := _) (v := undef) rfl (by kernel_rfl) (by kernel_rfl) (by kernel_rfl) (fun _ _ _ h => h) (Or.inr ⟨by kernel_rfl, rfl⟩) (by assumption) ?_
      simp only [Act.put, List.setIfInBounds_toArray, List.set_cons_zero, List.set_cons_succ]
      refine wpAnyH_take (i := 18) (oi := _) (v := ?v19) rfl (by kernel_rfl) (by kernel_rfl) (by kernel_rfl) (fun _ _ _ h => h) ?y19 (by assumption) ?r19
      case y19 => refine Or.inl ⟨by kernel_rfl, fun w hSw => ?_⟩; (try dsimp only at hSw); go_simp; (try with_reducible rfl)
      simp only [Act.put, List.setIfInBounds_toArray, List.set_cons_zero, List.set_cons_succ]
      refine wpAnyH_take (i := 19) (oi := _) (v := ?v20) rfl (by kernel_rfl) (by kernel_rfl) (by kernel_rfl) (fun _ _ _ h => h) ?y20 (by assumption) ?r20
      case y20 => refine Or.inl ⟨by kernel_rfl, fun w hSw => ?_⟩; (try dsimp only at hSw); go_simp; (try with_reducible rfl)
      simp only [Act.put, List.setIfInBounds_toArray, List.set_cons_zero, List.set_cons_succ]
      refine wpAnyH_take (i := 20) (oi := _) (v := ?v21) rfl (by kernel_rfl) (by kernel_rfl) (by kernel_rfl) (fun _ _ _ h => h) ?y21 (by assumption) ?r21
      case y21 => refine Or.inl ⟨by kernel_rfl, fun w hSw => ?_⟩; (try dsimp only at hSw); go_simp; (try with_reducible rfl)
      simp only [Act.put, List.setIfInBounds_toArray, List.set_cons_zero, List.set_cons_succ]
      refine wpAnyH_ready (rs := [21]) (by kernel_rfl) (by simp) ?_
      refine AllReadyH.cons (o := _) rfl (fun K hK => ?_) AllReadyH.nil
      go_simp
      obtain ⟨wS, hwS⟩ : ∃ wS, wS = ((((w4.setCell ⟨w.heap.size, 0, none⟩ (.int .i64 2)).setCell ⟨w.heap.size, 1, none⟩ (.string (s.extract k R))).setCell ⟨w.heap.size, 2, none⟩ (.int .u64 v)).setCell ⟨w.heap.size, 3, none⟩ (.int .i64 k)).drew := ⟨_, rfl⟩
      obtain ⟨s1, s2, s3⟩ := tok_store K40.out hwS
      rw [← hwS]
      clear hwS
      have s2' := s2.trans K4.out
      refine hK.out _ _ ⟨cell_of_row _ _ 0 _ _ _ s2', cell_of_row _ _ 1 _ _ _ s2', cell_of_row _ _ 2 _ _ _ s2', cell_of_row _ _ 3 _ _ _ s2'⟩ (fun hHeld => ?_)
      clear hK K
      try simp only [Act.put, List.setIfInBounds_toArray, List.set_cons_zero, List.set_cons_succ]
      refine wpAnyH_take (i := 22) (oi := ⟨some 5, _, _, _, _, _⟩) (v := ?v22) rfl (by kernel_rfl) (by kernel_rfl) (by kernel_rfl) (fun _ _ _ h => h) ?y22 (by assumption) ?r22
      case y22 => refine Or.inl ⟨by kernel_rfl, fun w hSw => ?_⟩; (try dsimp only at hSw); go_simp; (try with_reducible rfl)
      simp only [Act.put, List.setIfInBounds_toArray, List.set_cons_zero, List.set_cons_succ]
      refine wpAnyH_done (by kernel_rfl) ?_ _
      have d0 := cell_of_row _ _ 0 _ _ _ s1
      have d1 := cell_of_row _ _ 1 _ _ _ s1
      have d2 := cell_of_row _ _ 2 _ _ _ s1
      have d3 := cell_of_row _ _ 3 _ _ _ s1
      have HBS := Lib.hid (s3 w.heap.size w HB4.out (Nat.le_refl _))
      clear s1 s2 s2' s3 hHeld
      go_wp2
      exact bodyPost_ret (v := .tuple #[.agg #[.int .i64 2, .string (s.extract k R), .int .u64 v, .int .i64 k], .bool false]) (by simp [results, Tryz.results86, go_sem, d0, d1, d2, d3]) rfl ⟨HBS.out, _, _, _, _, _, rfl, Or.inl ⟨by rw [HB.out, if_neg (fun h => by have := HX.out; rw [h.2.2] at this; cases this)], rfl⟩⟩
     | false =>
      have HL := Lib.hid (fun W => rlet_is s[R] _ hb W)
      by_cases h95 : (s[R].toNat : Int) = 95
      ·have q3 : ((s[R].toNat : Int) != 95) = false := by rw [bne_eq_false_iff_eq]; exact h95
       have q4 : ((s[R].toNat : Int) == 95) = true := by rw [beq_iff_eq]; exact h95
       have HX := Lib.hid (show letAt s (k + n) = true from by rw [HA.out, letB_low, hb, q4]; rfl)
       clear hb h95 q4
       refine wp_region_held_drew (S := (fun w' => w'.cell? ⟨w.heap.size + 1, 0, none⟩ = some (.int .i64 2) ∧ w'.cell? ⟨w.heap.size + 1, 1, none⟩ = some (.string (s.extract k R)) ∧ w'.cell? ⟨w.heap.size + 1, 2, none⟩ = some (.int .u64 v) ∧ w'.cell? ⟨w.heap.size + 1, 3, none⟩ = some (.int .i64 k))) (by kernel_rfl) hS.out (fun hHeld => ?_)
       refine wpAnyH_take (i := 0) (oi := _) (v := ?v23) rfl (by kernel_rfl) (by kernel_rfl) (by kernel_rfl) (fun _ _ _ h => h) ?y23 (by assumption) ?r23
       case y23 => refine Or.inl ⟨by kernel_rfl, fun w hSw => ?_⟩; (try dsimp only at hSw); go_simp; (try with_reducible rfl)
       simp only [Act.put, List.setIfInBounds_toArray, List.set_cons_zero, List.set_cons_succ]
       refine wpAnyH_take (i := 1) (oi := _) (v := ?v24) rfl (by kernel_rfl) (by kernel_rfl) (by kernel_rfl) (fun _ _ _ h => h) ?y24 (by assumption) ?r24
       case y24 => refine Or.inl ⟨by kernel_rfl, fun w hSw => ?_⟩; (try dsimp only at hSw); go_simp; (try with_reducible rfl)
       simp only [Act.put, List.setIfInBounds_toArray, List.set_cons_zero, List.set_cons_succ]
       refine wpAnyH_take (i := 2) (oi := _) (v := ?v25) rfl (by kernel_rfl) (by kernel_rfl) (by kernel_rfl) (fun _ _ _ h => h) ?y25 (by assumption) ?r25
       case y25 => refine Or.inl ⟨by kernel_rfl, fun w hSw => ?_⟩; (try dsimp only at hSw); go_simp; (try with_reducible rfl)
       simp only [Act.put, List.setIfInBounds_toArray, List.set_cons_zero, List.set_cons_succ]
       refine wpAnyH_take (i := 3) (oi := _) (v := ?v26) rfl (by kernel_rfl) (by kernel_rfl) (by kernel_rfl) (fun _ _ _ h => h) ?y26 (by assumption) ?r26
       case y26 => refine Or.inl ⟨by kernel_rfl, fun w hSw => ?_⟩; (try dsimp only at hSw); go_simp; (try with_reducible rfl)
       simp only [Act.put, List.setIfInBounds_toArray, List.set_cons_zero, List.set_cons_succ]
       refine wpAnyH_take (i := 4) (oi := _) (v := ?v27) rfl (by kernel_rfl) (by kernel_rfl) (by kernel_rfl) (fun _ _ _ h => h) ?y27 (by assumption) ?r27
       case y27 => refine Or.inl ⟨by kernel_rfl, fun w hSw => ?_⟩; (try dsimp only at hSw); go_simp; (try with_reducible rfl)
       simp only [Act.put, List.setIfInBounds_toArray, List.set_cons_zero, List.set_cons_succ]
       refine wpAnyH_take (i := 5) (oi := _) (v := ?v28) rfl (by kernel_rfl) (by kernel_rfl) (by kernel_rfl) (fun _ _ _ h => h) ?y28 (by assumption) ?r28
       case y28 => refine Or.inl ⟨by kernel_rfl, fun w hSw => ?_⟩; (try dsimp only at hSw); go_simp; (try with_reducible rfl)
       simp only [Act.put, List.setIfInBounds_toArray, List.set_cons_zero, List.set_cons_succ]
       refine wpAnyH_take (i := 6) (oi := _) (v := ?v29) rfl (by kernel_rfl) (by kernel_rfl) (by kernel_rfl) (fun _ _ _ h => h) ?y29 (by assumption) ?r29
       case y29 => refine Or.inl ⟨by kernel_rfl, fun w hSw => ?_⟩; (try dsimp only at hSw); go_simp; (try with_reducible rfl)
       simp only [Act.put, List.setIfInBounds_toArray, List.set_cons_zero, List.set_cons_succ]
       refine wpAnyH_take (i := 7) (oi := _) (v := ?v30) rfl (by kernel_rfl) (by kernel_rfl) (by kernel_rfl) (fun _ _ _ h => h) ?y30 (by assumption) ?r30
       case y30 => refine Or.inl ⟨by kernel_rfl, fun w hSw => ?_⟩; (try dsimp only at hSw); go_simp; (try with_reducible rfl)
       simp only [Act.put, List.setIfInBounds_toArray, List.set_cons_zero, List.set_cons_succ]
       refine wpAnyH_take (i := 8) (oi := _) (v := ?v31) rfl (by kernel_rfl) (by kernel_rfl) (by kernel_rfl) (fun _ _ _ h => h) ?y31 (by assumption) ?r31
       case y31 => refine Or.inl ⟨by kernel_rfl, fun w hSw => ?_⟩; (try dsimp only at hSw); go_simp; (try with_reducible rfl)
       simp only [Act.put, List.setIfInBounds_toArray, List.set_cons_zero, List.set_cons_succ]
       refine wpAnyH_take (i := 9) (oi := _) (v := ?v32) rfl (by kernel_rfl) (by kernel_rfl) (by kernel_rfl) (fun _ _ _ h => h) ?y32 (by assumption) ?r32
       case y32 => refine Or.inl ⟨by kernel_rfl, fun w hSw => ?_⟩; (try dsimp only at hSw); go_simp; (try with_reducible rfl)
       simp only [Act.put, List.setIfInBounds_toArray, List.set_cons_zero, List.set_cons_succ]
       refine wpAnyH_take (i := 10) (oi := _) (v := ?v33) rfl (by kernel_rfl) (by kernel_rfl) (by kernel_rfl) (fun _ _ _ h => h) ?y33 (by assumption) ?r33
       case y33 => refine Or.inl ⟨by kernel_rfl, fun w hSw => ?_⟩; (try dsimp only at hSw); go_simp; (try with_reducible rfl)
       simp only [Act.put, List.setIfInBounds_toArray, List.set_cons_zero, List.set_cons_succ]
       refine wpAnyH_ready (rs := [11]) (by kernel_rfl) (by simp) ?_
       refine AllReadyH.cons (o := _) rfl (fun K hK => ?_) AllReadyH.nil
       go_simp
       go_at_call 137
       refine (HL.out _).mono ?_
       rintro e w' ⟨rfl, rfl⟩
       refine hK.out _ _ (by assumption) (fun hHeld => ?_)
       clear hK K
       try simp only [Act.put, List.setIfInBounds_toArray, List.set_cons_zero, List.set_cons_succ]
       refine wpAnyH_take (i := 12) (oi := _) (v := ?v34) rfl (by kernel_rfl) (by kernel_rfl) (by kernel_rfl) (fun _ _ _ h => h) ?y34 (by assumption) ?r34
       case y34 => refine Or.inl ⟨by kernel_rfl, fun w hSw => ?_⟩; (try dsimp only at hSw); go_simp; (try with_reducible rfl)
       simp only [Act.put, List.setIfInBounds_toArray, List.set_cons_zero, List.set_cons_succ]
       refine wpAnyH_take (i := 13) (oi := _) (v := ?v35) rfl (by kernel_rfl) (by kernel_rfl) (by kernel_rfl) (fun _ _ _ h => h) ?y35 (by assumption) ?r35
       case y35 => refine Or.inl ⟨by kernel_rfl, fun w hSw => ?_⟩; (try dsimp only at hSw); go_simp; (try with_reducible rfl)
       simp only [Act.put, List.setIfInBounds_toArray, List.set_cons_zero, List.set_cons_succ]
       refine wpAnyH_take (i := 14) (oi := _) (v := ?v36) rfl (by kernel_rfl) (by kernel_rfl) (by kernel_rfl) (fun _ _ _ h => h) ?y36 (by assumption) ?r36
       case y36 => refine Or.inl ⟨by kernel_rfl, fun w hSw => ?_⟩; (try dsimp only at hSw); go_simp; (try with_reducible rfl)
       simp only [Act.put, List.setIfInBounds_toArray, List.set_cons_zero, List.set_cons_succ]
       refine wpAnyH_take (i := 15) (oi := _) (v := ?v37) rfl (by kernel_rfl) (by kernel_rfl) (by kernel_rfl) (fun _ _ _ h => h) ?y37 (by assumption) ?r37
       case y37 => refine Or.inl ⟨by kernel_rfl, fun w hSw => ?_⟩; (try dsimp only at hSw); go_simp; (try with_reducible rfl)
       simp only [Act.put, List.setIfInBounds_toArray, List.set_cons_zero, List.set_cons_succ]
       refine wpAnyH_take (i := 16) (oi := _) (v := ?v38) rfl (by kernel_rfl) (by kernel_rfl) (by kernel_rfl) (fun _ _ _ h => h) ?y38 (by assumption) ?r38
       case y38 => refine Or.inl ⟨by kernel_rfl, fun w hSw => ?_⟩; (try dsimp only at hSw); go_simp; (try with_reducible rfl)
       simp only [Act.put, List.setIfInBounds_toArray, List.set_cons_zero, List.set_cons_succ]
       refine wpAnyH_take (i := 17) (oi := _) (v := ?v39) rfl (by kernel_rfl) (by kernel_rfl) (by kernel_rfl) (fun _ _ _ h => h) ?y39 (by assumption) ?r39
       case y39 => refine Or.inl ⟨by kernel_rfl, fun w hSw => ?_⟩; (try dsimp only at hSw); go_simp; (try with_reducible rfl)
       simp only [Act.put, List.setIfInBounds_toArray, List.set_cons_zero, List.set_cons_succ]
       refine wpAnyH_take (i := 18) (oi := _) (v := ?v40) rfl (by kernel_rfl) (by kernel_rfl) (by kernel_rfl) (fun _ _ _ h => h) ?y40 (by assumption) ?r40
       case y40 => refine Or.inl ⟨by kernel_rfl, fun w hSw => ?_⟩; (try dsimp only at hSw); go_simp; (try with_reducible rfl)
       simp only [Act.put, List.setIfInBounds_toArray, List.set_cons_zero, List.set_cons_succ]
       refine wpAnyH_take (i := 19) (oi := _) (v := ?v41) rfl (by kernel_rfl) (by kernel_rfl) (by kernel_rfl) (fun _ _ _ h => h) ?y41 (by assumption) ?r41
       case y41 => refine Or.inl ⟨by kernel_rfl, fun w hSw => ?_⟩; (try dsimp only at hSw); go_simp; (try with_reducible rfl)
       simp only [Act.put, List.setIfInBounds_toArray, List.set_cons_zero, List.set_cons_succ]
       refine wpAnyH_take (i := 20) (oi := _) (v := ?v42) rfl (by kernel_rfl) (by kernel_rfl) (by kernel_rfl) (fun _ _ _ h => h) ?y42 (by assumption) ?r42
       case y42 => refine Or.inl ⟨by kernel_rfl, fun w hSw => ?_⟩; (try dsimp only at hSw); go_simp; (try with_reducible rfl)
       simp only [Act.put, List.setIfInBounds_toArray, List.set_cons_zero, List.set_cons_succ]
       refine wpAnyH_ready (rs := [21]) (by kernel_rfl) (by simp) ?_
       refine AllReadyH.cons (o := _) rfl (fun K hK => ?_) AllReadyH.nil
       go_simp
       obtain ⟨wS, hwS⟩ : ∃ wS, wS = ((((w4.setCell ⟨w.heap.size, 0, none⟩ (.int .i64 2)).setCell ⟨w.heap.size, 1, none⟩ (.string (s.extract k R))).setCell ⟨w.heap.size, 2, none⟩ (.int .u64 v)).setCell ⟨w.heap.size, 3, none⟩ (.int .i64 k)).drew := ⟨_, rfl⟩
       obtain ⟨s1, s2, s3⟩ := tok_store K40.out hwS
       rw [← hwS]
       clear hwS
       have s2' := s2.trans K4.out
       refine hK.out _ _ ⟨cell_of_row _ _ 0 _ _ _ s2', cell_of_row _ _ 1 _ _ _ s2', cell_of_row _ _ 2 _ _ _ s2', cell_of_row _ _ 3 _ _ _ s2'⟩ (fun hHeld => ?_)
       clear hK K
       try simp only [Act.put, List.setIfInBounds_toArray, List.set_cons_zero, List.set_cons_succ]
       refine wpAnyH_take (i := 22) (oi := ⟨some 5, _, _, _, _, _⟩) (v := ?v43) rfl (by kernel_rfl) (by kernel_rfl) (by kernel_rfl) (fun _ _ _ h => h) ?y43 (by assumption) ?r43
       case y43 => refine Or.inl ⟨by kernel_rfl, fun w hSw => ?_⟩; (try dsimp only at hSw); go_simp; (try with_reducible rfl)
       simp only [Act.put, List.setIfInBounds_toArray, List.set_cons_zero, List.set_cons_succ]
       refine wpAnyH_done (by kernel_rfl) ?_ _
       have d0 := cell_of_row _ _ 0 _ _ _ s1
       have d1 := cell_of_row _ _ 1 _ _ _ s1
       have d2 := cell_of_row _ _ 2 _ _ _ s1
       have d3 := cell_of_row _ _ 3 _ _ _ s1
       have HBS := Lib.hid (s3 w.heap.size w HB4.out (Nat.le_refl _))
       clear s1 s2 s2' s3 hHeld
       go_wp2
       exact bodyPost_ret (v := .tuple #[.agg #[.int .i64 2, .string (s.extract k R), .int .u64 v, .int .i64 k], .bool false]) (by simp [results, Tryz.results86, go_sem, d0, d1, d2, d3]) rfl ⟨HBS.out, _, _, _, _, _, rfl, Or.inl ⟨by rw [HB.out, if_neg (fun h => by have := HX.out; rw [h.2.2] at this; cases this)], rfl⟩⟩
      ·have q3 : ((s[R].toNat : Int) != 95) = true := by rw [bne_iff_ne]; exact h95
       have q4 : ((s[R].toNat : Int) == 95) = false := by rw [beq_eq_false_iff_ne]; exact h95
       have HX := Lib.hid (show letAt s (k + n) = false from by rw [HA.out, letB_low, hb, q4]; rfl)
       clear hb h95 q4
       refine wp_region_held_drew (S := (fun w' => w'.cell? ⟨w.heap.size + 1, 0, none⟩ = some (.int .i64 2) ∧ w'.cell? ⟨w.heap.size + 1, 1, none⟩ = some (.string (s.extract k R)) ∧ w'.cell? ⟨w.heap.size + 1, 2, none⟩ = some (.int .u64 v) ∧ w'.cell? ⟨w.heap.size + 1, 3, none⟩ = some (.int .i64 k))) (by kernel_rfl) hS.out (fun hHeld => ?_)
       refine wpAnyH_take (i := 0) (oi := _) (v := ?v44) rfl (by kernel_rfl) (by kernel_rfl) (by kernel_rfl) (fun _ _ _ h => h) ?y44 (by assumption) ?r44
       case y44 => refine Or.inl ⟨by kernel_rfl, fun w hSw => ?_⟩; (try dsimp only at hSw); go_simp; (try with_reducible rfl)
       simp only [Act.put, List.setIfInBounds_toArray, List.set_cons_zero, List.set_cons_succ]
       refine wpAnyH_take (i := 1) (oi := _) (v := ?v45) rfl (by kernel_rfl) (by kernel_rfl) (by kernel_rfl) (fun _ _ _ h => h) ?y45 (by assumption) ?r45
       case y45 => refine Or.inl ⟨by kernel_rfl, fun w hSw => ?_⟩; (try dsimp only at hSw); go_simp; (try with_reducible rfl)
       simp only [Act.put, List.setIfInBounds_toArray, List.set_cons_zero, List.set_cons_succ]
       refine wpAnyH_take (i := 2) (oi := _) (v := ?v46) rfl (by kernel_rfl) (by kernel_rfl) (by kernel_rfl) (fun _ _ _ h => h) ?y46 (by assumption) ?r46
       case y46 => refine Or.inl ⟨by kernel_rfl, fun w hSw => ?_⟩; (try dsimp only at hSw); go_simp; (try with_reducible rfl)
       simp only [Act.put, List.setIfInBounds_toArray, List.set_cons_zero, List.set_cons_succ]
       refine wpAnyH_take (i := 3) (oi := _) (v := ?v47) rfl (by kernel_rfl) (by kernel_rfl) (by kernel_rfl) (fun _ _ _ h => h) ?y47 (by assumption) ?r47
       case y47 => refine Or.inl ⟨by kernel_rfl, fun w hSw => ?_⟩; (try dsimp only at hSw); go_simp; (try with_reducible rfl)
       simp only [Act.put, List.setIfInBounds_toArray, List.set_cons_zero, List.set_cons_succ]
       refine wpAnyH_take (i := 4) (oi := _) (v := ?v48) rfl (by kernel_rfl) (by kernel_rfl) (by kernel_rfl) (fun _ _ _ h => h) ?y48 (by assumption) ?r48
       case y48 => refine Or.inl ⟨by kernel_rfl, fun w hSw => ?_⟩; (try dsimp only at hSw); go_simp; (try with_reducible rfl)
       simp only [Act.put, List.setIfInBounds_toArray, List.set_cons_zero, List.set_cons_succ]
       refine wpAnyH_take (i := 5) (oi := _) (v := ?v49) rfl (by kernel_rfl) (by kernel_rfl) (by kernel_rfl) (fun _ _ _ h => h) ?y49 (by assumption) ?r49
       case y49 => refine Or.inl ⟨by kernel_rfl, fun w hSw => ?_⟩; (try dsimp only at hSw); go_simp; (try with_reducible rfl)
       simp only [Act.put, List.setIfInBounds_toArray, List.set_cons_zero, List.set_cons_succ]
       refine wpAnyH_take (i := 6) (oi := _) (v := ?v50) rfl (by kernel_rfl) (by kernel_rfl) (by kernel_rfl) (fun _ _ _ h => h) ?y50 (by assumption) ?r50
       case y50 => refine Or.inl ⟨by kernel_rfl, fun w hSw => ?_⟩; (try dsimp only at hSw); go_simp; (try with_reducible rfl)
       simp only [Act.put, List.setIfInBounds_toArray, List.set_cons_zero, List.set_cons_succ]
       refine wpAnyH_take (i := 7) (oi := _) (v := ?v51) rfl (by kernel_rfl) (by kernel_rfl) (by kernel_rfl) (fun _ _ _ h => h) ?y51 (by assumption) ?r51
       case y51 => refine Or.inl ⟨by kernel_rfl, fun w hSw => ?_⟩; (try dsimp only at hSw); go_simp; (try with_reducible rfl)
       simp only [Act.put, List.setIfInBounds_toArray, List.set_cons_zero, List.set_cons_succ]
       refine wpAnyH_take (i := 8) (oi := _) (v := ?v52) rfl (by kernel_rfl) (by kernel_rfl) (by kernel_rfl) (fun _ _ _ h => h) ?y52 (by assumption) ?r52
       case y52 => refine Or.inl ⟨by kernel_rfl, fun w hSw => ?_⟩; (try dsimp only at hSw); go_simp; (try with_reducible rfl)
       simp only [Act.put, List.setIfInBounds_toArray, List.set_cons_zero, List.set_cons_succ]
       refine wpAnyH_take (i := 9) (oi := _) (v := ?v53) rfl (by kernel_rfl) (by kernel_rfl) (by kernel_rfl) (fun _ _ _ h => h) ?y53 (by assumption) ?r53
       case y53 => refine Or.inl ⟨by kernel_rfl, fun w hSw => ?_⟩; (try dsimp only at hSw); go_simp; (try with_reducible rfl)
       simp only [Act.put, List.setIfInBounds_toArray, List.set_cons_zero, List.set_cons_succ]
       refine wpAnyH_take (i := 10) (oi := _) (v := ?v54) rfl (by kernel_rfl) (by kernel_rfl) (by kernel_rfl) (fun _ _ _ h => h) ?y54 (by assumption) ?r54
       case y54 => refine Or.inl ⟨by kernel_rfl, fun w hSw => ?_⟩; (try dsimp only at hSw); go_simp; (try with_reducible rfl)
       simp only [Act.put, List.setIfInBounds_toArray, List.set_cons_zero, List.set_cons_succ]
       refine wpAnyH_ready (rs := [11]) (by kernel_rfl) (by simp) ?_
       refine AllReadyH.cons (o := _) rfl (fun K hK => ?_) AllReadyH.nil
       go_simp
       go_at_call 137
       refine (HL.out _).mono ?_
       rintro e w' ⟨rfl, rfl⟩
       refine hK.out _ _ (by assumption) (fun hHeld => ?_)
       clear hK K
       try simp only [Act.put, List.setIfInBounds_toArray, List.set_cons_zero, List.set_cons_succ]
       refine wpAnyH_take (i := 12) (oi := _) (v := ?v55) rfl (by kernel_rfl) (by kernel_rfl) (by kernel_rfl) (fun _ _ _ h => h) ?y55 (by assumption) ?r55
       case y55 => refine Or.inl ⟨by kernel_rfl, fun w hSw => ?_⟩; (try dsimp only at hSw); go_simp; (try with_reducible rfl)
       simp only [Act.put, List.setIfInBounds_toArray, List.set_cons_zero, List.set_cons_succ]
       refine wpAnyH_take (i := 13) (oi := _) (v := ?v56) rfl (by kernel_rfl) (by kernel_rfl) (by kernel_rfl) (fun _ _ _ h => h) ?y56 (by assumption) ?r56
       case y56 => refine Or.inl ⟨by kernel_rfl, fun w hSw => ?_⟩; (try dsimp only at hSw); go_simp; (try with_reducible rfl)
       simp only [Act.put, List.setIfInBounds_toArray, List.set_cons_zero, List.set_cons_succ]
       refine wpAnyH_take (i := 14) (oi := _) (v := ?v57) rfl (by kernel_rfl) (by kernel_rfl) (by kernel_rfl) (fun _ _ _ h => h) ?y57 (by assumption) ?r57
       case y57 => refine Or.inl ⟨by kernel_rfl, fun w hSw => ?_⟩; (try dsimp only at hSw); go_simp; (try with_reducible rfl)
       simp only [Act.put, List.setIfInBounds_toArray, List.set_cons_zero, List.set_cons_succ]
       refine wpAnyH_take (i := 15) (oi := _) (v := ?v58) rfl (by kernel_rfl) (by kernel_rfl) (by kernel_rfl) (fun _ _ _ h => h) ?y58 (by assumption) ?r58
       case y58 => refine Or.inl ⟨by kernel_rfl, fun w hSw => ?_⟩; (try dsimp only at hSw); go_simp; (try with_reducible rfl)
       simp only [Act.put, List.setIfInBounds_toArray, List.set_cons_zero, List.set_cons_succ]
       refine wpAnyH_take (i := 16) (oi := _) (v := ?v59) rfl (by kernel_rfl) (by kernel_rfl) (by kernel_rfl) (fun _ _ _ h => h) ?y59 (by assumption) ?r59
       case y59 => refine Or.inl ⟨by kernel_rfl, fun w hSw => ?_⟩; (try dsimp only at hSw); go_simp; (try with_reducible rfl)
       simp only [Act.put, List.setIfInBounds_toArray, List.set_cons_zero, List.set_cons_succ]
       refine wpAnyH_take (i := 17) (oi := _) (v := ?v60) rfl (by kernel_rfl) (by kernel_rfl) (by kernel_rfl) (fun _ _ _ h => h) ?y60 (by assumption) ?r60
       case y60 => refine Or.inl ⟨by kernel_rfl, fun w hSw => ?_⟩; (try dsimp only at hSw); go_simp; (try with_reducible rfl)
       simp only [Act.put, List.setIfInBounds_toArray, List.set_cons_zero, List.set_cons_succ]
       refine wpAnyH_take (i := 18) (oi := _) (v := ?v61) rfl (by kernel_rfl) (by kernel_rfl) (by kernel_rfl) (fun _ _ _ h => h) ?y61 (by assumption) ?r61
       case y61 => refine Or.inl ⟨by kernel_rfl, fun w hSw => ?_⟩; (try dsimp only at hSw); go_simp; (try with_reducible rfl)
       simp only [Act.put, List.setIfInBounds_toArray, List.set_cons_zero, List.set_cons_succ]
       refine wpAnyH_take (i := 19) (oi := _) (v := ?v62) rfl (by kernel_rfl) (by kernel_rfl) (by kernel_rfl) (fun _ _ _ h => h) ?y62 (by assumption) ?r62
       case y62 => refine Or.inl ⟨by kernel_rfl, fun w hSw => ?_⟩; (try dsimp only at hSw); go_simp; (try with_reducible rfl)
       simp only [Act.put, List.setIfInBounds_toArray, List.set_cons_zero, List.set_cons_succ]
       refine wpAnyH_take (i := 20) (oi := _) (v := ?v63) rfl (by kernel_rfl) (by kernel_rfl) (by kernel_rfl) (fun _ _ _ h => h) ?y63 (by assumption) ?r63
       case y63 => refine Or.inl ⟨by kernel_rfl, fun w hSw => ?_⟩; (try dsimp only at hSw); go_simp; (try with_reducible rfl)
       simp only [Act.put, List.setIfInBounds_toArray, List.set_cons_zero, List.set_cons_succ]
       refine wpAnyH_ready (rs := [21]) (by kernel_rfl) (by simp) ?_
       refine AllReadyH.cons (o := _) rfl (fun K hK => ?_) AllReadyH.nil
       go_simp
       obtain ⟨wS, hwS⟩ : ∃ wS, wS = ((((w4.setCell ⟨w.heap.size, 0, none⟩ (.int .i64 2)).setCell ⟨w.heap.size, 1, none⟩ (.string (s.extract k R))).setCell ⟨w.heap.size, 2, none⟩ (.int .u64 v)).setCell ⟨w.heap.size, 3, none⟩ (.int .i64 k)).drew := ⟨_, rfl⟩
       obtain ⟨s1, s2, s3⟩ := tok_store K40.out hwS
       rw [← hwS]
       clear hwS
       have s2' := s2.trans K4.out
       refine hK.out _ _ ⟨cell_of_row _ _ 0 _ _ _ s2', cell_of_row _ _ 1 _ _ _ s2', cell_of_row _ _ 2 _ _ _ s2', cell_of_row _ _ 3 _ _ _ s2'⟩ (fun hHeld => ?_)
       clear hK K
       try simp only [Act.put, List.setIfInBounds_toArray, List.set_cons_zero, List.set_cons_succ]
       refine wpAnyH_take (i := 22) (oi := ⟨some 5, _, _, _, _, _⟩) (v := ?v64) rfl (by kernel_rfl) (by kernel_rfl) (by kernel_rfl) (fun _ _ _ h => h) ?y64 (by assumption) ?r64
       case y64 => refine Or.inl ⟨by kernel_rfl, fun w hSw => ?_⟩; (try dsimp only at hSw); go_simp; (try with_reducible rfl)
       simp only [Act.put, List.setIfInBounds_toArray, List.set_cons_zero, List.set_cons_succ]
       refine wpAnyH_done (by kernel_rfl) ?_ _
       have d0 := cell_of_row _ _ 0 _ _ _ s1
       have d1 := cell_of_row _ _ 1 _ _ _ s1
       have d2 := cell_of_row _ _ 2 _ _ _ s1
       have d3 := cell_of_row _ _ 3 _ _ _ s1
       have HBS := Lib.hid (s3 w.heap.size w HB4.out (Nat.le_refl _))
       clear s1 s2 s2' s3 hHeld
       go_wp2
       exact bodyPost_ret (v := .tuple #[.agg #[.int .i64 2, .string (s.extract k R), .int .u64 v, .int .i64 k], .bool true]) (by simp [results, Tryz.results86, go_sem, d0, d1, d2, d3]) rfl ⟨HBS.out, _, _, _, _, _, rfl, Or.inr ⟨_, _, _, by rw [HB.out, if_pos ⟨(HOK.out.1 (by simp)).1, (HOK.out.1 (by simp)).2, HX.out⟩], rfl, rfl, by rw [HR.out], HVV.out (HOK.out.1 (by simp)).1, rfl⟩⟩
  ·obtain rfl : j = s.size := by omega
   have e1 : R = s.size := by rw [HJ.out, spanAt_end]; rfl
   subst e1
   have HA := Lib.hid (show letAt s (k + n) = false from letAt_end s HR.out.symm)
   clear HJ HR0
   go_wp2_with fail
   refine (HN.out _).mono ?_
   rintro e w3 ⟨⟨v, ok, rfl, hok, hvv⟩, hb3⟩
   have k0 := (hb3.block w.heap.size (by simp; omega)).trans (tok_two w _).1
   have k1 := (hb3.block (w.heap.size + 1) (by simp)).trans (tok_two w _).2
   have HB3 := Lib.hid ((tok_below w _).trans (hb3.mono (by simp; omega)))
   clear hb3
   have c0 := cell_of_row _ _ 0 _ _ _ k1
   have c1 := cell_of_row _ _ 1 _ _ _ k1
   have c2 := cell_of_row _ _ 2 _ _ _ k1
   have c3 := cell_of_row _ _ 3 _ _ _ k1
   have f0 := free_row k1 0
   have f1 := free_row k1 1
   have f2 := free_row k1 2
   have K0 := Lib.hid k0
   have K1 := Lib.hid k1
   have HOK := Lib.hid hok
   have HVV := Lib.hid hvv
   clear k0 k1 hok hvv
   go_wp2_with fail
   obtain ⟨w4, hw4⟩ : ∃ w4, w4 = ((w3.setCell ⟨w.heap.size + 1, 0, none⟩ (.int .i64 2)).setCell ⟨w.heap.size + 1, 1, none⟩ (.string (s.extract k s.size))).setCell ⟨w.heap.size + 1, 2, none⟩ (.int .u64 v) := ⟨_, rfl⟩
   rw [← hw4]
   have k4 : w4.heap[w.heap.size + 1]? = some (.cells #[.int .i64 2, .string (s.extract k s.size), .int .u64 v, .int .i64 k] 155 (0, 0)) := by
    rw [hw4, heap_setCell_same _ _ _ _ _ _ (heap_setCell_same _ _ _ _ _ _ (heap_setCell_same _ _ _ _ _ _ K1.out))]
    rfl
   have k40 : w4.heap[w.heap.size]? = some tokZ := by
    rw [hw4, heap_ne _ _ _ (by simp), heap_ne _ _ _ (by simp), heap_ne _ _ _ (by simp)]
    exact K0.out
   have HB4 := Lib.hid (show Below w.heap.size w w4 from by rw [hw4]; exact ((HB3.out.setCell (by simp) _).setCell (by simp) _).setCell (by simp) _)
   clear hw4
   have hS := Lib.hid (And.intro (cell_of_row w4.drew _ 0 _ _ _ k4) (And.intro (cell_of_row w4.drew _ 1 _ _ _ k4) (And.intro (cell_of_row w4.drew _ 2 _ _ _ k4) (cell_of_row w4.drew _ 3 _ _ _ k4))))
   have z0 := cell_of_row w4 _ 0 _ _ _ k40
   have y0 := free_row k40 0
   have z1 := cell_of_row w4 _ 1 _ _ _ k40
   have y1 := free_row k40 1
   have z2 := cell_of_row w4 _ 2 _ _ _ k40
   have y2 := free_row k40 2
   have z3 := cell_of_row w4 _ 3 _ _ _ k40
   have y3 := free_row k40 3
   have K4 := Lib.hid k4
   have K40 := Lib.hid k40
   clear k4 k40
   clear c0 c1 c2 c3 f0 f1 f2
   cases ok with
   | false =>
    have HNO := Lib.hid (show ¬ (decV (textAt s k n) < 18446744073709551616 ∧ (s[k].toNat ≠ 48 ∨ n = 1)) from fun h => absurd (HOK.out.2 h) (by simp))
    refine wp_region_held_drew (S := (fun w' => w'.cell? ⟨w.heap.size + 1, 0, none⟩ = some (.int .i64 2) ∧ w'.cell? ⟨w.heap.size + 1, 1, none⟩ = some (.string (s.extract k s.size)) ∧ w'.cell? ⟨w.heap.size + 1, 2, none⟩ = some (.int .u64 v) ∧ w'.cell? ⟨w.heap.size + 1, 3, none⟩ = some (.int .i64 k))) (by kernel_rfl) hS.out (fun hHeld => ?_)
    refine wpAnyH_take (i := 0) (oi := _) (v := ?v65) rfl (by kernel_rfl) (by kernel_rfl) (by kernel_rfl) (fun _ _ _ h => h) ?y65 (by assumption) ?r65
    case y65 => refine Or.inl ⟨by kernel_rfl, fun w hSw => ?_⟩; (try dsimp only at hSw); go_simp; (try with_reducible rfl)
    simp only [Act.put, List.setIfInBounds_toArray, List.set_cons_zero, List.set_cons_succ]
    refine wpAnyH_take (i := 1) (oi := _) (v := ?v66) rfl (by kernel_rfl) (by kernel_rfl) (by kernel_rfl) (fun _ _ _ h => h) ?y66 (by assumption) ?r66
    case y66 => refine Or.inl ⟨by kernel_rfl, fun w hSw => ?_⟩; (try dsimp only at hSw); go_simp; (try with_reducible rfl)
    simp only [Act.put, List.setIfInBounds_toArray, List.set_cons_zero, List.set_cons_succ]
    refine wpAnyH_take (i := 2) (oi := _) (v := ?v67) rfl (by kernel_rfl) (by kernel_rfl) (by kernel_rfl) (fun _ _ _ h => h) ?y67 (by assumption) ?r67
    case y67 => refine Or.inl ⟨by kernel_rfl, fun w hSw => ?_⟩; (try dsimp only at hSw); go_simp; (try with_reducible rfl)
    simp only [Act.put, List.setIfInBounds_toArray, List.set_cons_zero, List.set_cons_succ]
    refine wpAnyH_take (i := 3) (oi := _) (v := undef) rfl (by kernel_rfl) (by kernel_rfl) (by kernel_rfl) (fun _ _ _ h => h) (Or.inr ⟨by kernel_rfl, rfl⟩) (by assumption) ?_
    simp only [Act.put, List.setIfInBounds_toArray, List.set_cons_zero, List.set_cons_succ]
    refine wpAnyH_take (i := 4) (oi := _) (v := undef) rfl (by kernel_rfl) (by kernel_rfl) (by kernel_rfl) (fun _ _ _ h => h) (Or.inr ⟨by kernel_rfl, rfl⟩) (by assumption) ?_
    simp only [Act.put, List.setIfInBounds_toArray, List.set_cons_zero, List.set_cons_succ]
    refine wpAnyH_take (i := 5) (oi := _) (v := undef) rfl (by kernel_rfl) (by kernel_rfl) (by kernel_rfl) (fun _ _ _ h => h) (Or.inr ⟨by kernel_rfl, rfl⟩) (by assumption) ?_
    simp only [Act.put, List.setIfInBounds_toArray, List.set_cons_zero, List.set_cons_succ]
    refine wpAnyH_take (i := 6) (oi := _) (v := undef) rfl (by kernel_rfl) (by kernel_rfl) (by kernel_rfl) (fun _ _ _ h => h) (Or.inr ⟨by kernel_rfl, rfl⟩) (by assumption) ?_
    simp only [Act.put, List.setIfInBounds_toArray, List.set_cons_zero, List.set_cons_succ]
    refine wpAnyH_take (i := 7) (oi := _) (v := undef) rfl (by kernel_rfl) (by kernel_rfl) (by kernel_rfl) (fun _ _ _ h => h) (Or.inr ⟨by kernel_rfl, rfl⟩) (by assumption) ?_
    simp only [Act.put, List.setIfInBounds_toArray, List.set_cons_zero, List.set_cons_succ]
    refine wpAnyH_take (i := 8) (oi := _) (v := undef) rfl (by kernel_rfl) (by kernel_rfl) (by kernel_rfl) (fun _ _ _ h => h) (Or.inr ⟨by kernel_rfl, rfl⟩) (by assumption) ?_
    simp only [Act.put, List.setIfInBounds_toArray, List.set_cons_zero, List.set_cons_succ]
    refine wpAnyH_take (i := 9) (oi := _) (v := undef) rfl (by kernel_rfl) (by kernel_rfl) (by kernel_rfl) (fun _ _ _ h => h) (Or.inr ⟨by kernel_rfl, rfl⟩) (by assumption) ?_
    simp only [Act.put, List.setIfInBounds_toArray, List.set_cons_zero, List.set_cons_succ]
    refine wpAnyH_take (i := 10) (oi := _) (v := undef) rfl (by kernel_rfl) (by kernel_rfl) (by kernel_rfl) (fun _ _ _ h => h) (Or.inr ⟨by kernel_rfl, rfl⟩) (by assumption) ?_
    simp only [Act.put, List.setIfInBounds_toArray, List.set_cons_zero, List.set_cons_succ]
    refine wpAnyH_take (i := 11) (oi := _) (v := undef) rfl (by kernel_rfl) (by kernel_rfl) (by kernel_rfl) (fun _ _ _ h => h) (Or.inr ⟨by kernel_rfl, rfl⟩) (by assumption) ?_
    simp only [Act.put, List.setIfInBounds_toArray, List.set_cons_zero, List.set_cons_succ]
    refine wpAnyH_take (i := 12) (oi := _) (v := undef) rfl (by kernel_rfl) (by kernel_rfl) (by kernel_rfl) (fun _ _ _ h => h) (Or.inr ⟨by kernel_rfl, rfl⟩) (by assumption) ?_
    simp only [Act.put, List.setIfInBounds_toArray, List.set_cons_zero, List.set_cons_succ]
    refine wpAnyH_take (i := 13) (oi := _) (v := undef) rfl (by kernel_rfl) (by kernel_rfl) (by kernel_rfl) (fun _ _ _ h => h) (Or.inr ⟨by kernel_rfl, rfl⟩) (by assumption) ?_
    simp only [Act.put, List.setIfInBounds_toArray, List.set_cons_zero, List.set_cons_succ]
    refine wpAnyH_take (i := 14) (oi := _) (v := undef) rfl (by kernel_rfl) (by kernel_rfl) (by kernel_rfl) (fun _ _ _ h => h) (Or.inr ⟨by kernel_rfl, rfl⟩) (by assumption) ?_
    simp only [Act.put, List.setIfInBounds_toArray, List.set_cons_zero, List.set_cons_succ]
    refine wpAnyH_take (i := 15) (oi := _) (v := undef) rfl (by kernel_rfl) (by kernel_rfl) (by kernel_rfl) (fun _ _ _ h => h) (Or.inr ⟨by kernel_rfl, rfl⟩) (by assumption) ?_
    simp only [Act.put, List.setIfInBounds_toArray, List.set_cons_zero, List.set_cons_succ]
    refine wpAnyH_take (i := 16) (oi := _) (v := undef) rfl (by kernel_rfl) (by kernel_rfl) (by kernel_rfl) (fun _ _ _ h => h) (Or.inr ⟨by kernel_rfl, rfl⟩) (by assumption) ?_
    simp only [Act.put, List.setIfInBounds_toArray, List.set_cons_zero, List.set_cons_succ]
    refine wpAnyH_take (i := 17) (oi := _) (v := undef) rfl (by kernel_rfl) (by kernel_rfl) (by kernel_rfl) (fun _ _ _ h => h) (Or.inr ⟨by kernel_rfl, rfl⟩) (by assumption) ?_
    simp only [Act.put, List.setIfInBounds_toArray, List.set_cons_zero, List.set_cons_succ]
    refine wpAnyH_take (i := 18) (oi := _) (v := undef) rfl (by kernel_rfl) (by kernel_rfl) (by kernel_rfl) (fun _ _ _ h => h) (Or.inr ⟨by kernel_rfl, rfl⟩) (by assumption) ?_
    simp only [Act.put, List.setIfInBounds_toArray, List.set_cons_zero, List.set_cons_succ]
    refine wpAnyH_take (i := 19) (oi := _) (v := undef) rfl (by kernel_rfl) (by kernel_rfl) (by kernel_rfl) (fun _ _ _ h => h) (Or.inr ⟨by kernel_rfl, rfl⟩) (by assumption) ?_
    simp only [Act.put, List.setIfInBounds_toArray, List.set_cons_zero, List.set_cons_succ]
    refine wpAnyH_take (i := 20) (oi := _) (v := ?v68) rfl (by kernel_rfl) (by kernel_rfl) (by kernel_rfl) (fun _ _ _ h => h) ?y68 (by assumption) ?r68
    case y68 => refine Or.inl ⟨by kernel_rfl, fun w hSw => ?_⟩; (try dsimp only at hSw); go_simp; (try with_reducible rfl)
    simp only [Act.put, List.setIfInBounds_toArray, List.set_cons_zero, List.set_cons_succ]
    refine wpAnyH_ready (rs := [21]) (by kernel_rfl) (by simp) ?_
    refine AllReadyH.cons (o := _) rfl (fun K hK => ?_) AllReadyH.nil
    go_simp
    obtain ⟨wS, hwS⟩ : ∃ wS, wS = ((((w4.setCell ⟨w.heap.size, 0, none⟩ (.int .i64 2)).setCell ⟨w.heap.size, 1, none⟩ (.string (s.extract k s.size))).setCell ⟨w.heap.size, 2, none⟩ (.int .u64 v)).setCell ⟨w.heap.size, 3, none⟩ (.int .i64 k)).drew := ⟨_, rfl⟩
    obtain ⟨s1, s2, s3⟩ := tok_store K40.out hwS
    rw [← hwS]
    clear hwS
    have s2' := s2.trans K4.out
    refine hK.out _ _ ⟨cell_of_row _ _ 0 _ _ _ s2', cell_of_row _ _ 1 _ _ _ s2', cell_of_row _ _ 2 _ _ _ s2', cell_of_row _ _ 3 _ _ _ s2'⟩ (fun hHeld => ?_)
    clear hK K
    try simp only [Act.put, List.setIfInBounds_toArray, List.set_cons_zero, List.set_cons_succ]
    refine wpAnyH_take (i := 22) (oi := ⟨some 5, _, _, _, _, _⟩) (v := ?v69) rfl (by kernel_rfl) (by kernel_rfl) (by kernel_rfl) (fun _ _ _ h => h) ?y69 (by assumption) ?r69
    case y69 => refine Or.inl ⟨by kernel_rfl, fun w hSw => ?_⟩; (try dsimp only at hSw); go_simp; (try with_reducible rfl)
    simp only [Act.put, List.setIfInBounds_toArray, List.set_cons_zero, List.set_cons_succ]
    refine wpAnyH_done (by kernel_rfl) ?_ _
    have d0 := cell_of_row _ _ 0 _ _ _ s1
    have d1 := cell_of_row _ _ 1 _ _ _ s1
    have d2 := cell_of_row _ _ 2 _ _ _ s1
    have d3 := cell_of_row _ _ 3 _ _ _ s1
    have HBS := Lib.hid (s3 w.heap.size w HB4.out (Nat.le_refl _))
    clear s1 s2 s2' s3 hHeld
    go_wp2
    exact bodyPost_ret (v := .tuple #[.agg #[.int .i64 2, .string (s.extract k s.size), .int .u64 v, .int .i64 k], .bool false]) (by simp [results, Tryz.results86, go_sem, d0, d1, d2, d3]) rfl ⟨HBS.out, _, _, _, _, _, rfl, Or.inl ⟨by rw [HB.out, if_neg (fun h => HNO.out ⟨h.1, h.2.1⟩)], rfl⟩⟩
   | true =>
    have q2 : ((s.size : Int) == (s.size : Int)) = true := by simp
    refine wp_region_held_drew (S := (fun w' => w'.cell? ⟨w.heap.size + 1, 0, none⟩ = some (.int .i64 2) ∧ w'.cell? ⟨w.heap.size + 1, 1, none⟩ = some (.string (s.extract k s.size)) ∧ w'.cell? ⟨w.heap.size + 1, 2, none⟩ = some (.int .u64 v) ∧ w'.cell? ⟨w.heap.size + 1, 3, none⟩ = some (.int .i64 k))) (by kernel_rfl) hS.out (fun hHeld => ?_)
    refine wpAnyH_take (i := 0) (oi := _) (v := ?v70) rfl (by kernel_rfl) (by kernel_rfl) (by kernel_rfl) (fun _ _ _ h => h) ?y70 (by assumption) ?r70
    case y70 => refine Or.inl ⟨by kernel_rfl, fun w hSw => ?_⟩; (try dsimp only at hSw); go_simp; (try with_reducible rfl)
    simp only [Act.put, List.setIfInBounds_toArray, List.set_cons_zero, List.set_cons_succ]
    refine wpAnyH_take (i := 1) (oi := _) (v := ?v71) rfl (by kernel_rfl) (by kernel_rfl) (by kernel_rfl) (fun _ _ _ h => h) ?y71 (by assumption) ?r71
    case y71 => refine Or.inl ⟨by kernel_rfl, fun w hSw => ?_⟩; (try dsimp only at hSw); go_simp; (try with_reducible rfl)
    simp only [Act.put, List.setIfInBounds_toArray, List.set_cons_zero, List.set_cons_succ]
    refine wpAnyH_take (i := 2) (oi := _) (v := ?v72) rfl (by kernel_rfl) (by kernel_rfl) (by kernel_rfl) (fun _ _ _ h => h) ?y72 (by assumption) ?r72
    case y72 => refine Or.inl ⟨by kernel_rfl, fun w hSw => ?_⟩; (try dsimp only at hSw); go_simp; (try with_reducible rfl)
    simp only [Act.put, List.setIfInBounds_toArray, List.set_cons_zero, List.set_cons_succ]
    refine wpAnyH_take (i := 3) (oi := _) (v := ?v73) rfl (by kernel_rfl) (by kernel_rfl) (by kernel_rfl) (fun _ _ _ h => h) ?y73 (by assumption) ?r73
    case y73 => refine Or.inl ⟨by kernel_rfl, fun w hSw => ?_⟩; (try dsimp only at hSw); go_simp; (try with_reducible rfl)
    simp only [Act.put, List.setIfInBounds_toArray, List.set_cons_zero, List.set_cons_succ]
    refine wpAnyH_take (i := 4) (oi := _) (v := ?v74) rfl (by kernel_rfl) (by kernel_rfl) (by kernel_rfl) (fun _ _ _ h => h) ?y74 (by assumption) ?r74
    case y74 => refine Or.inl ⟨by kernel_rfl, fun w hSw => ?_⟩; (try dsimp only at hSw); go_simp; (try with_reducible rfl)
    simp only [Act.put, List.setIfInBounds_toArray, List.set_cons_zero, List.set_cons_succ]
    refine wpAnyH_take (i := 5) (oi := _) (v := ?v75) rfl (by kernel_rfl) (by kernel_rfl) (by kernel_rfl) (fun _ _ _ h => h) ?y75 (by assumption) ?r75
    case y75 => refine Or.inl ⟨by kernel_rfl, fun w hSw => ?_⟩; (try dsimp only at hSw); go_simp; (try with_reducible rfl)
    simp only [Act.put, List.setIfInBounds_toArray, List.set_cons_zero, List.set_cons_succ]
    refine wpAnyH_take (i := 6) (oi := _) (v := ?v76) rfl (by kernel_rfl) (by kernel_rfl) (by kernel_rfl) (fun _ _ _ h => h) ?y76 (by assumption) ?r76
    case y76 => refine Or.inl ⟨by kernel_rfl, fun w hSw => ?_⟩; (try dsimp only at hSw); go_simp; (try with_reducible rfl)
    simp only [Act.put, List.setIfInBounds_toArray, List.set_cons_zero, List.set_cons_succ]
    refine wpAnyH_take (i := 7) (oi := _) (v := ?v77) rfl (by kernel_rfl) (by kernel_rfl) (by kernel_rfl) (fun _ _ _ h => h) ?y77 (by assumption) ?r77
    case y77 => refine Or.inl ⟨by kernel_rfl, fun w hSw => ?_⟩; (try dsimp only at hSw); go_simp; (try with_reducible rfl)
    simp only [Act.put, List.setIfInBounds_toArray, List.set_cons_zero, List.set_cons_succ]
    refine wpAnyH_take (i := 8) (oi := _) (v := undef) rfl (by kernel_rfl) (by kernel_rfl) (by kernel_rfl) (fun _ _ _ h => h) (Or.inr ⟨by kernel_rfl, rfl⟩) (by assumption) ?_
    simp only [Act.put, List.setIfInBounds_toArray, List.set_cons_zero, List.set_cons_succ]
    refine wpAnyH_take (i := 9) (oi := _) (v := undef) rfl (by kernel_rfl) (by kernel_rfl) (by kernel_rfl) (fun _ _ _ h => h) (Or.inr ⟨by kernel_rfl, rfl⟩) (by assumption) ?_
    simp only [Act.put, List.setIfInBounds_toArray, List.set_cons_zero, List.set_cons_succ]
    refine wpAnyH_take (i := 10) (oi := _) (v := undef) rfl (by kernel_rfl) (by kernel_rfl) (by kernel_rfl) (fun _ _ _ h => h) (Or.inr ⟨by kernel_rfl, rfl⟩) (by assumption) ?_
    simp only [Act.put, List.setIfInBounds_toArray, List.set_cons_zero, List.set_cons_succ]
    refine wpAnyH_take (i := 11) (oi := _) (v := undef) rfl (by kernel_rfl) (by kernel_rfl) (by kernel_rfl) (fun _ _ _ h => h) (Or.inr ⟨by kernel_rfl, rfl⟩) (by assumption) ?_
    simp only [Act.put, List.setIfInBounds_toArray, List.set_cons_zero, List.set_cons_succ]
    refine wpAnyH_take (i := 12) (oi := _) (v := undef) rfl (by kernel_rfl) (by kernel_rfl) (by kernel_rfl) (fun _ _ _ h => h) (Or.inr ⟨by kernel_rfl, rfl⟩) (by assumption) ?_
    simp only [Act.put, List.setIfInBounds_toArray, List.set_cons_zero, List.set_cons_succ]
    refine wpAnyH_take (i := 13) (oi := _) (v := undef) rfl (by kernel_rfl) (by kernel_rfl) (by kernel_rfl) (fun _ _ _ h => h) (Or.inr ⟨by kernel_rfl, rfl⟩) (by assumption) ?_
    simp only [Act.put, List.setIfInBounds_toArray, List.set_cons_zero, List.set_cons_succ]
    refine wpAnyH_take (i := 14) (oi := _) (v := undef) rfl (by kernel_rfl) (by kernel_rfl) (by kernel_rfl) (fun _ _ _ h => h) (Or.inr ⟨by kernel_rfl, rfl⟩) (by assumption) ?_
    simp only [Act.put, List.setIfInBounds_toArray, List.set_cons_zero, List.set_cons_succ]
    refine wpAnyH_take (i := 15) (oi := _) (v := undef) rfl (by kernel_rfl) (by kernel_rfl) (by kernel_rfl) (fun _ _ _ h => h) (Or.inr ⟨by kernel_rfl, rfl⟩) (by assumption) ?_
    simp only [Act.put, List.setIfInBounds_toArray, List.set_cons_zero, List.set_cons_succ]
    refine wpAnyH_take (i := 16) (oi := _) (v := undef) rfl (by kernel_rfl) (by kernel_rfl) (by kernel_rfl) (fun _ _ _ h => h) (Or.inr ⟨by kernel_rfl, rfl⟩) (by assumption) ?_
    simp only [Act.put, List.setIfInBounds_toArray, List.set_cons_zero, List.set_cons_succ]
    refine wpAnyH_take (i := 17) (oi := _) (v := undef) rfl (by kernel_rfl) (by kernel_rfl) (by kernel_rfl) (fun _ _ _ h => h) (Or.inr ⟨by kernel_rfl, rfl⟩) (by assumption) ?_
    simp only [Act.put, List.setIfInBounds_toArray, List.set_cons_zero, List.set_cons_succ]
    refine wpAnyH_take (i := 18) (oi := _) (v := undef) rfl (by kernel_rfl) (by kernel_rfl) (by kernel_rfl) (fun _ _ _ h => h) (Or.inr ⟨by kernel_rfl, rfl⟩) (by assumption) ?_
    simp only [Act.put, List.setIfInBounds_toArray, List.set_cons_zero, List.set_cons_succ]
    refine wpAnyH_take (i := 19) (oi := _) (v := ?v78) rfl (by kernel_rfl) (by kernel_rfl) (by kernel_rfl) (fun _ _ _ h => h) ?y78 (by assumption) ?r78
    case y78 => refine Or.inl ⟨by kernel_rfl, fun w hSw => ?_⟩; (try dsimp only at hSw); go_simp; (try with_reducible rfl)
    simp only [Act.put, List.setIfInBounds_toArray, List.set_cons_zero, List.set_cons_succ]
    refine wpAnyH_take (i := 20) (oi := _) (v := ?v79) rfl (by kernel_rfl) (by kernel_rfl) (by kernel_rfl) (fun _ _ _ h => h) ?y79 (by assumption) ?r79
    case y79 => refine Or.inl ⟨by kernel_rfl, fun w hSw => ?_⟩; (try dsimp only at hSw); go_simp; (try with_reducible rfl)
    simp only [Act.put, List.setIfInBounds_toArray, List.set_cons_zero, List.set_cons_succ]
    refine wpAnyH_ready (rs := [21]) (by kernel_rfl) (by simp) ?_
    refine AllReadyH.cons (o := _) rfl (fun K hK => ?_) AllReadyH.nil
    go_simp
    obtain ⟨wS, hwS⟩ : ∃ wS, wS = ((((w4.setCell ⟨w.heap.size, 0, none⟩ (.int .i64 2)).setCell ⟨w.heap.size, 1, none⟩ (.string (s.extract k s.size))).setCell ⟨w.heap.size, 2, none⟩ (.int .u64 v)).setCell ⟨w.heap.size, 3, none⟩ (.int .i64 k)).drew := ⟨_, rfl⟩
    obtain ⟨s1, s2, s3⟩ := tok_store K40.out hwS
    rw [← hwS]
    clear hwS
    have s2' := s2.trans K4.out
    refine hK.out _ _ ⟨cell_of_row _ _ 0 _ _ _ s2', cell_of_row _ _ 1 _ _ _ s2', cell_of_row _ _ 2 _ _ _ s2', cell_of_row _ _ 3 _ _ _ s2'⟩ (fun hHeld => ?_)
    clear hK K
    try simp only [Act.put, List.setIfInBounds_toArray, List.set_cons_zero, List.set_cons_succ]
    refine wpAnyH_take (i := 22) (oi := ⟨some 5, _, _, _, _, _⟩) (v := ?v80) rfl (by kernel_rfl) (by kernel_rfl) (by kernel_rfl) (fun _ _ _ h => h) ?y80 (by assumption) ?r80
    case y80 => refine Or.inl ⟨by kernel_rfl, fun w hSw => ?_⟩; (try dsimp only at hSw); go_simp; (try with_reducible rfl)
    simp only [Act.put, List.setIfInBounds_toArray, List.set_cons_zero, List.set_cons_succ]
    refine wpAnyH_done (by kernel_rfl) ?_ _
    have d0 := cell_of_row _ _ 0 _ _ _ s1
    have d1 := cell_of_row _ _ 1 _ _ _ s1
    have d2 := cell_of_row _ _ 2 _ _ _ s1
    have d3 := cell_of_row _ _ 3 _ _ _ s1
    have HBS := Lib.hid (s3 w.heap.size w HB4.out (Nat.le_refl _))
    clear s1 s2 s2' s3 hHeld
    go_wp2
    exact bodyPost_ret (v := .tuple #[.agg #[.int .i64 2, .string (s.extract k s.size), .int .u64 v, .int .i64 k], .bool true]) (by simp [results, Tryz.results86, go_sem, d0, d1, d2, d3]) rfl ⟨HBS.out, _, _, _, _, _, rfl, Or.inr ⟨_, _, _, by rw [HB.out, if_pos ⟨(HOK.out.1 (by simp)).1, (HOK.out.1 (by simp)).2, HA.out⟩], rfl, rfl, by rw [HR.out], HVV.out (HOK.out.1 (by simp)).1, rfl⟩⟩
end Go.Proofs.YtghlnncfigkkaaaGreatDoor
