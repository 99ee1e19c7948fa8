/-
  Walks of the reference's one: names and signs. Walks of the reference's one: signs.
-/
import Derived.Test.YtghlnncfigkkaaaGreatDoorQROne
namespace Go.Proofs.YtghlnncfigkkaaaGreatDoor
set_option linter.unusedVariables false
set_option linter.unusedSimpArgs false
open Go.RowKit
set_option maxHeartbeats 1000000 in
theorem rword_any (s : ByteArray) (w : World) : Calls Tryz.prog 138 #[.string s] w fun e w' => e = .returned (.bool (wordB s.data.toList)) ∧ w = w' := by
 go_enter Tryz.func138, Tryz.ntmps138
 go_wp2
 all_goals
  go_ret
  exact ⟨by rw [← ByteArray.toList_eq]; unfold wordB; first | (simp [*]; done) | (exfalso; simp_all; done), rfl⟩
theorem rword_is (s : ByteArray) (l : List UInt8) (b : Bool) (hl : s.data.toList = l) (h : wordB l = b) (w : World) : Calls Tryz.prog 138 #[.string s] w fun e w' => e = .returned (.bool b) ∧ w = w' := by
 have := rword_any s w
 rwa [hl, h] at this
theorem namB_is (c : UInt8) : namB c = (lowB c || digB c || ((c.toNat : Int) == 95)) := by
 unfold namB
 rw [letB_low]
 cases lowB c <;> cases digB c <;> cases ((c.toNat : Int) == 95) <;> rfl
set_option maxRecDepth 100000 in
set_option maxHeartbeats 8000000 in
theorem rone_name (s : ByteArray) (k : Nat) (w : World) (hs : s.size ≤ 100000) (hk : k < s.size) (hd : digB s[k] = false) (hl : lowB s[k] = true) :
  Calls Tryz.prog 86 #[.string s, .int .i64 k] w (OneOut w s k) := by
 obtain ⟨n, hn⟩ : ∃ n, n = spanAt namB s k := ⟨_, rfl⟩
 have hnk := spanAt_le namB s (Nat.le_of_lt hk)
 rw [← hn] at hnk
 obtain ⟨R, hR⟩ : ∃ R, R = k + n := ⟨_, rfl⟩
 rw [← hR] at hnk
 have hB : oneM s k = if n ≤ 16 then some (if wordB (textAt s k n) then 4 else 1, n, 0) else none := by
  unfold oneM
  rw [dif_pos hk, if_neg (by rw [hd]; simp), if_pos hl, ← hn]
 have HB := Lib.hid hB
 have htx := textAt_extract s k n
 rw [← hR] at htx
 have HTX := Lib.hid htx
 have HD := Lib.hid (fun W => rdig_is s[k] _ hd W)
 have HL := Lib.hid (fun W => rlet_is s[k] _ hl W)
 have HR := Lib.hid hR
 have hkR : k ≤ R := by omega
 have hRn : (R : Int) - (k : Int) = (n : Int) := by omega
 have hsz : (s.extract k R).size = n := by rw [ByteArray.size_extract]; omega
 have HSZ := Lib.hid hsz
 have HR0 := Lib.hid (show R = k + spanAt namB s k from by rw [hR, hn])
 clear hB hn hd hl hR htx hsz hRn
 go_enter Tryz.func86, Tryz.ntmps86
 go_wp2_with fail
 refine (HD.out _).mono ?_
 rintro e w1 ⟨rfl, rfl⟩
 go_wp2_with fail
 refine (HL.out _).mono ?_
 rintro e w1 ⟨rfl, rfl⟩
 go_wp2
 go_loop [8] (fun iv => ∃ j : Nat, j ≤ s.size ∧ iv = .int .i64 j ∧ R = j + spanAt namB s j) (fun iv => s.size - (intOf iv).toNat)
 case atStart => exact ⟨k, Nat.le_of_lt hk, rfl, HR0.out⟩
 case round =>
  obtain ⟨j, hj, rfl, hrj⟩ := hrel
  have HJ := Lib.hid hrj
  clear hrj
  by_cases hlt : j < s.size
  ·cases hjl : lowB s[j] with
   | true =>
    have HF := Lib.hid (spanAt_yes namB s hlt (by rw [namB_is, hjl]; rfl))
    have HC := Lib.hid (fun W => rlet_is s[j] _ hjl W)
    clear hjl
    go_wp2_with fail
    refine (HC.out _).mono ?_
    rintro e w' ⟨rfl, rfl⟩
    go_wp2
    exact ⟨⟨j + 1, by omega, by go_num, by rw [HJ.out, HF.out]; omega⟩, by simp [intOf]; omega⟩
   | false =>
    have HC := Lib.hid (fun W => rlet_is s[j] _ hjl W)
    cases hjd : digB s[j] with
    | true =>
     have HF := Lib.hid (spanAt_yes namB s hlt (by rw [namB_is, hjl, hjd]; rfl))
     have HE := Lib.hid (fun W => rdig_is s[j] _ hjd W)
     clear hjl hjd
     go_wp2_with fail
     refine (HC.out _).mono ?_
     rintro e w' ⟨rfl, rfl⟩
     go_wp2_with fail
     refine (HE.out _).mono ?_
     rintro e w' ⟨rfl, rfl⟩
     go_wp2
     exact ⟨⟨j + 1, by omega, by go_num, by rw [HJ.out, HF.out]; omega⟩, by simp [intOf]; omega⟩
    | false =>
     have HE := Lib.hid (fun W => rdig_is s[j] _ hjd W)
     by_cases h95 : (s[j].toNat : Int) = 95
     ·have q1 : ((s[j].toNat : Int) == 95) = true := by rw [beq_iff_eq]; exact h95
      have HF := Lib.hid (spanAt_yes namB s hlt (by rw [namB_is, hjl, hjd, q1]; rfl))
      clear hjl hjd h95
      go_wp2_with fail
      refine (HC.out _).mono ?_
      rintro e w' ⟨rfl, rfl⟩
      go_wp2_with fail
      refine (HE.out _).mono ?_
      rintro e w' ⟨rfl, rfl⟩
      go_wp2
      exact ⟨⟨j + 1, by omega, by go_num, by rw [HJ.out, HF.out]; omega⟩, by simp [intOf]; omega⟩
     ·have q1 : ((s[j].toNat : Int) == 95) = false := by rw [beq_eq_false_iff_ne]; exact h95
      have e1 : R = j := by rw [HJ.out, spanAt_no namB s hlt (by rw [namB_is, hjl, hjd, q1]; rfl)]; rfl
      subst e1
      clear hjl hjd h95 HJ HR0
      go_wp2_with fail
      refine (HC.out _).mono ?_
      rintro e w' ⟨rfl, rfl⟩
      go_wp2_with fail
      refine (HE.out _).mono ?_
      rintro e w' ⟨rfl, rfl⟩
      cases hw : wordB (textAt s k n) with
      | true =>
       have HW := Lib.hid (fun W => rword_is (s.extract k R) _ _ HTX.out hw W)
       have HWB := Lib.hid hw
       clear hw
       go_wp2_with fail
       refine (HW.out _).mono ?_
       rintro e w1 ⟨rfl, rfl⟩
       go_wp2_with fail
       obtain ⟨w4, hw4⟩ : ∃ w4, w4 = (w.alloc tokZ).alloc (.cells #[.int .i64 4, .string (s.extract k R), .int .u64 0, .int .i64 k] 155) := ⟨_, rfl⟩
       rw [← hw4]
       have k4 : w4.heap[w.heap.size + 1]? = some (.cells #[.int .i64 4, .string (s.extract k R), .int .u64 0, .int .i64 k] 155 (0, 0)) := by
        rw [hw4]
        exact (tok_two w _).2
       have k40 : w4.heap[w.heap.size]? = some tokZ := by
        rw [hw4]
        exact (tok_two w _).1
       have HB4 := Lib.hid (show Below w.heap.size w w4 from by rw [hw4]; exact tok_below w _)
       clear hw4
       have hS := Lib.hid (And.intro (cell_of_row w4.drew _ 0 _ _ _ k4) (And.intro (cell_of_row w4.drew _ 1 _ _ _ k4) (And.intro (cell_of_row w4.drew _ 2 _ _ _ k4) (cell_of_row w4.drew _ 3 _ _ _ k4))))
       have z0 := cell_of_row w4 _ 0 _ _ _ k40
       have y0 := free_row k40 0
       have z1 := cell_of_row w4 _ 1 _ _ _ k40
       have y1 := free_row k40 1
       have z2 := cell_of_row w4 _ 2 _ _ _ k40
       have y2 := free_row k40 2
       have z3 := cell_of_row w4 _ 3 _ _ _ k40
       have y3 := free_row k40 3
       have K4 := Lib.hid k4
       have K40 := Lib.hid k40
       clear k4 k40
       have hsz := HSZ.out
       by_cases h16 : n ≤ 16
       ·have q := Lib.hid h16
        have h16' : decide ((n : Int) ≤ 16) = true := by simp; omega
        clear h16
        refine wp_region_held_drew (S := (fun w' => w'.cell? ⟨w.heap.size + 1, 0, none⟩ = some (.int .i64 4) ∧ w'.cell? ⟨w.heap.size + 1, 1, none⟩ = some (.string (s.extract k R)) ∧ w'.cell? ⟨w.heap.size + 1, 2, none⟩ = some (.int .u64 0) ∧ w'.cell? ⟨w.heap.size + 1, 3, none⟩ = some (.int .i64 k))) (by kernel_rfl) hS.out (fun hHeld => ?_)
        refine wpAnyH_take (i := 0) (oi := _) (v := ?v1) rfl (by kernel_rfl) (by kernel_rfl) (by kernel_rfl) (fun _ _ _ h => h) ?y1 (by assumption) ?r1
        case y1 => refine Or.inl ⟨by kernel_rfl, fun w hSw => ?_⟩; (try dsimp only at hSw); go_simp; (try with_reducible rfl)
        simp only [Act.put, List.setIfInBounds_toArray, List.set_cons_zero, List.set_cons_succ]
        refine wpAnyH_take (i := 1) (oi := _) (v := ?v2) rfl (by kernel_rfl) (by kernel_rfl) (by kernel_rfl) (fun _ _ _ h => h) ?y2 (by assumption) ?r2
        case y2 => refine Or.inl ⟨by kernel_rfl, fun w hSw => ?_⟩; (try dsimp only at hSw); go_simp; (try with_reducible rfl)
        simp only [Act.put, List.setIfInBounds_toArray, List.set_cons_zero, List.set_cons_succ]
        refine wpAnyH_take (i := 2) (oi := _) (v := ?v3) rfl (by kernel_rfl) (by kernel_rfl) (by kernel_rfl) (fun _ _ _ h => h) ?y3 (by assumption) ?r3
        case y3 => refine Or.inl ⟨by kernel_rfl, fun w hSw => ?_⟩; (try dsimp only at hSw); go_simp; (try with_reducible rfl)
        simp only [Act.put, List.setIfInBounds_toArray, List.set_cons_zero, List.set_cons_succ]
        refine wpAnyH_take (i := 3) (oi := _) (v := ?v4) rfl (by kernel_rfl) (by kernel_rfl) (by kernel_rfl) (fun _ _ _ h => h) ?y4 (by assumption) ?r4
        case y4 => refine Or.inl ⟨by kernel_rfl, fun w hSw => ?_⟩; (try dsimp only at hSw); go_simp; (try with_reducible rfl)
        simp only [Act.put, List.setIfInBounds_toArray, List.set_cons_zero, List.set_cons_succ]
        refine wpAnyH_take (i := 4) (oi := _) (v := ?v5) rfl (by kernel_rfl) (by kernel_rfl) (by kernel_rfl) (fun _ _ _ h => h) ?y5 (by assumption) ?r5
        case y5 => refine Or.inl ⟨by kernel_rfl, fun w hSw => ?_⟩; (try dsimp only at hSw); go_simp; (try with_reducible rfl)
        simp only [Act.put, List.setIfInBounds_toArray, List.set_cons_zero, List.set_cons_succ]
        refine wpAnyH_ready (rs := [5]) (by kernel_rfl) (by simp) ?_
        refine AllReadyH.cons (o := _) rfl (fun K hK => ?_) AllReadyH.nil
        go_simp
        obtain ⟨wS, hwS⟩ : ∃ wS, wS = ((((w4.setCell ⟨w.heap.size, 0, none⟩ (.int .i64 4)).setCell ⟨w.heap.size, 1, none⟩ (.string (s.extract k R))).setCell ⟨w.heap.size, 2, none⟩ (.int .u64 0)).setCell ⟨w.heap.size, 3, none⟩ (.int .i64 k)).drew := ⟨_, rfl⟩
        obtain ⟨s1, s2, s3⟩ := tok_store K40.out hwS
        rw [← hwS]
        clear hwS
        have s2' := s2.trans K4.out
        refine hK.out _ _ ⟨cell_of_row _ _ 0 _ _ _ s2', cell_of_row _ _ 1 _ _ _ s2', cell_of_row _ _ 2 _ _ _ s2', cell_of_row _ _ 3 _ _ _ s2'⟩ (fun hHeld => ?_)
        clear hK K
        try simp only [Act.put, List.setIfInBounds_toArray, List.set_cons_zero, List.set_cons_succ]
        refine wpAnyH_take (i := 6) (oi := ⟨some 5, _, _, _, _, _⟩) (v := ?v6) rfl (by kernel_rfl) (by kernel_rfl) (by kernel_rfl) (fun _ _ _ h => h) ?y6 (by assumption) ?r6
        case y6 => refine Or.inl ⟨by kernel_rfl, fun w hSw => ?_⟩; (try dsimp only at hSw); go_simp; (try with_reducible rfl)
        simp only [Act.put, List.setIfInBounds_toArray, List.set_cons_zero, List.set_cons_succ]
        refine wpAnyH_done (by kernel_rfl) ?_ _
        have d0 := cell_of_row _ _ 0 _ _ _ s1
        have d1 := cell_of_row _ _ 1 _ _ _ s1
        have d2 := cell_of_row _ _ 2 _ _ _ s1
        have d3 := cell_of_row _ _ 3 _ _ _ s1
        have HBS := Lib.hid (s3 w.heap.size w HB4.out (Nat.le_refl _))
        clear s1 s2 s2' s3 hHeld
        go_wp2
        exact bodyPost_ret (v := .tuple #[.agg #[.int .i64 4, .string (s.extract k R), .int .u64 0, .int .i64 k], .bool true]) (by simp [results, Tryz.results86, go_sem, d0, d1, d2, d3, hsz, h16']) rfl ⟨HBS.out, _, _, _, _, _, rfl, Or.inr ⟨_, _, _, by rw [HB.out, if_pos q.out, HWB.out]; rfl, rfl, rfl, by rw [HR.out], rfl, rfl⟩⟩
       ·have q := Lib.hid h16
        have h16' : decide ((n : Int) ≤ 16) = false := by simp; omega
        clear h16
        refine wp_region_held_drew (S := (fun w' => w'.cell? ⟨w.heap.size + 1, 0, none⟩ = some (.int .i64 4) ∧ w'.cell? ⟨w.heap.size + 1, 1, none⟩ = some (.string (s.extract k R)) ∧ w'.cell? ⟨w.heap.size + 1, 2, none⟩ = some (.int .u64 0) ∧ w'.cell? ⟨w.heap.size + 1, 3, none⟩ = some (.int .i64 k))) (by kernel_rfl) hS.out (fun hHeld => ?_)
        refine wpAnyH_take (i := 0) (oi := _) (v := ?v7) rfl (by kernel_rfl) (by kernel_rfl) (by kernel_rfl) (fun _ _ _ h => h) ?y7 (by assumption) ?r7
        case y7 => refine Or.inl ⟨by kernel_rfl, fun w hSw => ?_⟩; (try dsimp only at hSw); go_simp; (try with_reducible rfl)
        simp only [Act.put, List.setIfInBounds_toArray, List.set_cons_zero, List.set_cons_succ]
        refine wpAnyH_take (i := 1) (oi := _) (v := ?v8) rfl (by kernel_rfl) (by kernel_rfl) (by kernel_rfl) (fun _ _ _ h => h) ?y8 (by assumption) ?r8
        case y8 => refine Or.inl ⟨by kernel_rfl, fun w hSw => ?_⟩; (try dsimp only at hSw); go_simp; (try with_reducible rfl)
        simp only [Act.put, List.setIfInBounds_toArray, List.set_cons_zero, List.set_cons_succ]
        refine wpAnyH_take (i := 2) (oi := _) (v := ?v9) rfl (by kernel_rfl) (by kernel_rfl) (by kernel_rfl) (fun _ _ _ h => h) ?y9 (by assumption) ?r9
        case y9 => refine Or.inl ⟨by kernel_rfl, fun w hSw => ?_⟩; (try dsimp only at hSw); go_simp; (try with_reducible rfl)
        simp only [Act.put, List.setIfInBounds_toArray, List.set_cons_zero, List.set_cons_succ]
        refine wpAnyH_take (i := 3) (oi := _) (v := ?v10) rfl (by kernel_rfl) (by kernel_rfl) (by kernel_rfl) (fun _ _ _ h => h) ?y10 (by assumption) ?r10
        case y10 => refine Or.inl ⟨by kernel_rfl, fun w hSw => ?_⟩; (try dsimp only at hSw); go_simp; (try with_reducible rfl)
        simp only [Act.put, List.setIfInBounds_toArray, List.set_cons_zero, List.set_cons_succ]
        refine wpAnyH_take (i := 4) (oi := _) (v := ?v11) rfl (by kernel_rfl) (by kernel_rfl) (by kernel_rfl) (fun _ _ _ h => h) ?y11 (by assumption) ?r11
        case y11 => refine Or.inl ⟨by kernel_rfl, fun w hSw => ?_⟩; (try dsimp only at hSw); go_simp; (try with_reducible rfl)
        simp only [Act.put, List.setIfInBounds_toArray, List.set_cons_zero, List.set_cons_succ]
        refine wpAnyH_ready (rs := [5]) (by kernel_rfl) (by simp) ?_
        refine AllReadyH.cons (o := _) rfl (fun K hK => ?_) AllReadyH.nil
        go_simp
        obtain ⟨wS, hwS⟩ : ∃ wS, wS = ((((w4.setCell ⟨w.heap.size, 0, none⟩ (.int .i64 4)).setCell ⟨w.heap.size, 1, none⟩ (.string (s.extract k R))).setCell ⟨w.heap.size, 2, none⟩ (.int .u64 0)).setCell ⟨w.heap.size, 3, none⟩ (.int .i64 k)).drew := ⟨_, rfl⟩
        obtain ⟨s1, s2, s3⟩ := tok_store K40.out hwS
        rw [← hwS]
        clear hwS
        have s2' := s2.trans K4.out
        refine hK.out _ _ ⟨cell_of_row _ _ 0 _ _ _ s2', cell_of_row _ _ 1 _ _ _ s2', cell_of_row _ _ 2 _ _ _ s2', cell_of_row _ _ 3 _ _ _ s2'⟩ (fun hHeld => ?_)
        clear hK K
        try simp only [Act.put, List.setIfInBounds_toArray, List.set_cons_zero, List.set_cons_succ]
        refine wpAnyH_take (i := 6) (oi := ⟨some 5, _, _, _, _, _⟩) (v := ?v12) rfl (by kernel_rfl) (by kernel_rfl) (by kernel_rfl) (fun _ _ _ h => h) ?y12 (by assumption) ?r12
        case y12 => refine Or.inl ⟨by kernel_rfl, fun w hSw => ?_⟩; (try dsimp only at hSw); go_simp; (try with_reducible rfl)
        simp only [Act.put, List.setIfInBounds_toArray, List.set_cons_zero, List.set_cons_succ]
        refine wpAnyH_done (by kernel_rfl) ?_ _
        have d0 := cell_of_row _ _ 0 _ _ _ s1
        have d1 := cell_of_row _ _ 1 _ _ _ s1
        have d2 := cell_of_row _ _ 2 _ _ _ s1
        have d3 := cell_of_row _ _ 3 _ _ _ s1
        have HBS := Lib.hid (s3 w.heap.size w HB4.out (Nat.le_refl _))
        clear s1 s2 s2' s3 hHeld
        go_wp2
        exact bodyPost_ret (v := .tuple #[.agg #[.int .i64 4, .string (s.extract k R), .int .u64 0, .int .i64 k], .bool false]) (by simp [results, Tryz.results86, go_sem, d0, d1, d2, d3, hsz, h16']) rfl ⟨HBS.out, _, _, _, _, _, rfl, Or.inl ⟨by rw [HB.out, if_neg q.out], rfl⟩⟩
      | false =>
       have HW := Lib.hid (fun W => rword_is (s.extract k R) _ _ HTX.out hw W)
       have HWB := Lib.hid hw
       clear hw
       go_wp2_with fail
       refine (HW.out _).mono ?_
       rintro e w1 ⟨rfl, rfl⟩
       go_wp2_with fail
       obtain ⟨w4, hw4⟩ : ∃ w4, w4 = (w.alloc tokZ).alloc (.cells #[.int .i64 1, .string (s.extract k R), .int .u64 0, .int .i64 k] 155) := ⟨_, rfl⟩
       rw [← hw4]
       have k4 : w4.heap[w.heap.size + 1]? = some (.cells #[.int .i64 1, .string (s.extract k R), .int .u64 0, .int .i64 k] 155 (0, 0)) := by
        rw [hw4]
        exact (tok_two w _).2
       have k40 : w4.heap[w.heap.size]? = some tokZ := by
        rw [hw4]
        exact (tok_two w _).1
       have HB4 := Lib.hid (show Below w.heap.size w w4 from by rw [hw4]; exact tok_below w _)
       clear hw4
       have hS := Lib.hid (And.intro (cell_of_row w4.drew _ 0 _ _ _ k4) (And.intro (cell_of_row w4.drew _ 1 _ _ _ k4) (And.intro (cell_of_row w4.drew _ 2 _ _ _ k4) (cell_of_row w4.drew _ 3 _ _ _ k4))))
       have z0 := cell_of_row w4 _ 0 _ _ _ k40
       have y0 := free_row k40 0
       have z1 := cell_of_row w4 _ 1 _ _ _ k40
       have y1 := free_row k40 1
       have z2 := cell_of_row w4 _ 2 _ _ _ k40
       have y2 := free_row k40 2
       have z3 := cell_of_row w4 _ 3 _ _ _ k40
       have y3 := free_row k40 3
       have K4 := Lib.hid k4
       have K40 := Lib.hid k40
       clear k4 k40
       have hsz := HSZ.out
       by_cases h16 : n ≤ 16
       ·have q := Lib.hid h16
        have h16' : decide ((n : Int) ≤ 16) = true := by simp; omega
        clear h16
        refine wp_region_held_drew (S := (fun w' => w'.cell? ⟨w.heap.size + 1, 0, none⟩ = some (.int .i64 1) ∧ w'.cell? ⟨w.heap.size + 1, 1, none⟩ = some (.string (s.extract k R)) ∧ w'.cell? ⟨w.heap.size + 1, 2, none⟩ = some (.int .u64 0) ∧ w'.cell? ⟨w.heap.size + 1, 3, none⟩ = some (.int .i64 k))) (by kernel_rfl) hS.out (fun hHeld => ?_)
        refine wpAnyH_take (i := 0) (oi := _) (v := ?v13) rfl (by kernel_rfl) (by kernel_rfl) (by kernel_rfl) (fun _ _ _ h => h) ?y13 (by assumption) ?r13
        case y13 => refine Or.inl ⟨by kernel_rfl, fun w hSw => ?_⟩; (try dsimp only at hSw); go_simp; (try with_reducible rfl)
        simp only [Act.put, List.setIfInBounds_toArray, List.set_cons_zero, List.set_cons_succ]
        refine wpAnyH_take (i := 1) (oi := _) (v := ?v14) rfl (by kernel_rfl) (by kernel_rfl) (by kernel_rfl) (fun _ _ _ h => h) ?y14 (by assumption) ?r14
        case y14 => refine Or.inl ⟨by kernel_rfl, fun w hSw => ?_⟩; (try dsimp only at hSw); go_simp; (try with_reducible rfl)
        simp only [Act.put, List.setIfInBounds_toArray, List.set_cons_zero, List.set_cons_succ]
        refine wpAnyH_take (i := 2) (oi := _) (v := ?v15) rfl (by kernel_rfl) (by kernel_rfl) (by kernel_rfl) (fun _ _ _ h => h) ?y15 (by assumption) ?r15
        case y15 => refine Or.inl ⟨by kernel_rfl, fun w hSw => ?_⟩; (try dsimp only at hSw); go_simp; (try with_reducible rfl)
        simp only [Act.put, List.setIfInBounds_toArray, List.set_cons_zero, List.set_cons_succ]
        refine wpAnyH_take (i := 3) (oi := _) (v := ?v16) rfl (by kernel_rfl) (by kernel_rfl) (by kernel_rfl) (fun _ _ _ h => h) ?y16 (by assumption) ?r16
        case y16 => refine Or.inl ⟨by kernel_rfl, fun w hSw => ?_⟩; (try dsimp only at hSw); go_simp; (try with_reducible rfl)
        simp only [Act.put, List.setIfInBounds_toArray, List.set_cons_zero, List.set_cons_succ]
        refine wpAnyH_take (i := 4) (oi := _) (v := ?v17) rfl (by kernel_rfl) (by kernel_rfl) (by kernel_rfl) (fun _ _ _ h => h) ?y17 (by assumption) ?r17
        case y17 => refine Or.inl ⟨by kernel_rfl, fun w hSw => ?_⟩; (try dsimp only at hSw); go_simp; (try with_reducible rfl)
        simp only [Act.put, List.setIfInBounds_toArray, List.set_cons_zero, List.set_cons_succ]
        refine wpAnyH_ready (rs := [5]) (by kernel_rfl) (by simp) ?_
        refine AllReadyH.cons (o := _) rfl (fun K hK => ?_) AllReadyH.nil
        go_simp
        obtain ⟨wS, hwS⟩ : ∃ wS, wS = ((((w4.setCell ⟨w.heap.size, 0, none⟩ (.int .i64 1)).setCell ⟨w.heap.size, 1, none⟩ (.string (s.extract k R))).setCell ⟨w.heap.size, 2, none⟩ (.int .u64 0)).setCell ⟨w.heap.size, 3, none⟩ (.int .i64 k)).drew := ⟨_, rfl⟩
        obtain ⟨s1, s2, s3⟩ := tok_store K40.out hwS
        rw [← hwS]
        clear hwS
        have s2' := s2.trans K4.out
        refine hK.out _ _ ⟨cell_of_row _ _ 0 _ _ _ s2', cell_of_row _ _ 1 _ _ _ s2', cell_of_row _ _ 2 _ _ _ s2', cell_of_row _ _ 3 _ _ _ s2'⟩ (fun hHeld => ?_)
        clear hK K
        try simp only [Act.put, List.setIfInBounds_toArray, List.set_cons_zero, List.set_cons_succ]
        refine wpAnyH_take (i := 6) (oi := ⟨some 5, _, _, _, _, _⟩) (v := ?v18) rfl (by kernel_rfl) (by kernel_rfl) (by kernel_rfl) (fun _ _ _ h => h) ?y18 (by assumption) ?r18
        case y18 => refine Or.inl ⟨by kernel_rfl, fun w hSw => ?_⟩; (try dsimp only at hSw); go_simp; (try with_reducible rfl)
        simp only [Act.put, List.setIfInBounds_toArray, List.set_cons_zero, List.set_cons_succ]
        refine wpAnyH_done (by kernel_rfl) ?_ _
        have d0 := cell_of_row _ _ 0 _ _ _ s1
        have d1 := cell_of_row _ _ 1 _ _ _ s1
        have d2 := cell_of_row _ _ 2 _ _ _ s1
        have d3 := cell_of_row _ _ 3 _ _ _ s1
        have HBS := Lib.hid (s3 w.heap.size w HB4.out (Nat.le_refl _))
        clear s1 s2 s2' s3 hHeld
        go_wp2
        exact bodyPost_ret (v := .tuple #[.agg #[.int .i64 1, .string (s.extract k R), .int .u64 0, .int .i64 k], .bool true]) (by simp [results, Tryz.results86, go_sem, d0, d1, d2, d3, hsz, h16']) rfl ⟨HBS.out, _, _, _, _, _, rfl, Or.inr ⟨_, _, _, by rw [HB.out, if_pos q.out, HWB.out]; rfl, rfl, rfl, by rw [HR.out], rfl, rfl⟩⟩
       ·have q := Lib.hid h16
        have h16' : decide ((n : Int) ≤ 16) = false := by simp; omega
        clear h16
        refine wp_region_held_drew (S := (fun w' => w'.cell? ⟨w.heap.size + 1, 0, none⟩ = some (.int .i64 1) ∧ w'.cell? ⟨w.heap.size + 1, 1, none⟩ = some (.string (s.extract k R)) ∧ w'.cell? ⟨w.heap.size + 1, 2, none⟩ = some (.int .u64 0) ∧ w'.cell? ⟨w.heap.size + 1, 3, none⟩ = some (.int .i64 k))) (by kernel_rfl) hS.out (fun hHeld => ?_)
        refine wpAnyH_take (i := 0) (oi := _) (v := ?v19) rfl (by kernel_rfl) (by kernel_rfl) (by kernel_rfl) (fun _ _ _ h => h) ?y19 (by assumption) ?r19
        case y19 => refine Or.inl ⟨by kernel_rfl, fun w hSw => ?_⟩; (try dsimp only at hSw); go_simp; (try with_reducible rfl)
        simp only [Act.put, List.setIfInBounds_toArray, List.set_cons_zero, List.set_cons_succ]
        refine wpAnyH_take (i := 1) (oi := _) (v := ?v20) rfl (by kernel_rfl) (by kernel_rfl) (by kernel_rfl) (fun _ _ _ h => h) ?y20 (by assumption) ?r20
        case y20 => refine Or.inl ⟨by kernel_rfl, fun w hSw => ?_⟩; (try dsimp only at hSw); go_simp; (try with_reducible rfl)
        simp only [Act.put, List.setIfInBounds_toArray, List.set_cons_zero, List.set_cons_succ]
        refine wpAnyH_take (i := 2) (oi := _) (v := ?v21) rfl (by kernel_rfl) (by kernel_rfl) (by kernel_rfl) (fun _ _ _ h => h) ?y21 (by assumption) ?r21
        case y21 => refine Or.inl ⟨by kernel_rfl, fun w hSw => ?_⟩; (try dsimp only at hSw); go_simp; (try with_reducible rfl)
        simp only [Act.put, List.setIfInBounds_toArray, List.set_cons_zero, List.set_cons_succ]
        refine wpAnyH_take (i := 3) (oi := _) (v := ?v22) rfl (by kernel_rfl) (by kernel_rfl) (by kernel_rfl) (fun _ _ _ h => h) ?y22 (by assumption) ?r22
        case y22 => refine Or.inl ⟨by kernel_rfl, fun w hSw => ?_⟩; (try dsimp only at hSw); go_simp; (try with_reducible rfl)
        simp only [Act.put, List.setIfInBounds_toArray, List.set_cons_zero, List.set_cons_succ]
        refine wpAnyH_take (i := 4) (oi := _) (v := ?v23) rfl (by kernel_rfl) (by kernel_rfl) (by kernel_rfl) (fun _ _ _ h => h) ?y23 (by assumption) ?r23
        case y23 => refine Or.inl ⟨by kernel_rfl, fun w hSw => ?_⟩; (try dsimp only at hSw); go_simp; (try with_reducible rfl)
        simp only [Act.put, List.setIfInBounds_toArray, List.set_cons_zero, List.set_cons_succ]
        refine wpAnyH_ready (rs := [5]) (by kernel_rfl) (by simp) ?_
        refine AllReadyH.cons (o := _) rfl (fun K hK => ?_) AllReadyH.nil
        go_simp
        obtain ⟨wS, hwS⟩ : ∃ wS, wS = ((((w4.setCell ⟨w.heap.size, 0, none⟩ (.int .i64 1)).setCell ⟨w.heap.size, 1, none⟩ (.string (s.extract k R))).setCell ⟨w.heap.size, 2, none⟩ (.int .u64 0)).setCell ⟨w.heap.size, 3, none⟩ (.int .i64 k)).drew := ⟨_, rfl⟩
        obtain ⟨s1, s2, s3⟩ := tok_store K40.out hwS
        rw [← hwS]
        clear hwS
        have s2' := s2.trans K4.out
        refine hK.out _ _ ⟨cell_of_row _ _ 0 _ _ _ s2', cell_of_row _ _ 1 _ _ _ s2', cell_of_row _ _ 2 _ _ _ s2', cell_of_row _ _ 3 _ _ _ s2'⟩ (fun hHeld => ?_)
        clear hK K
        try simp only [Act.put, List.setIfInBounds_toArray, List.set_cons_zero, List.set_cons_succ]
        refine wpAnyH_take (i := 6) (oi := ⟨some 5, _, _, _, _, _⟩) (v := ?v24) rfl (by kernel_rfl) (by kernel_rfl) (by kernel_rfl) (fun _ _ _ h => h) ?y24 (by assumption) ?r24
        case y24 => refine Or.inl ⟨by kernel_rfl, fun w hSw => ?_⟩; (try dsimp only at hSw); go_simp; (try with_reducible rfl)
        simp only [Act.put, List.setIfInBounds_toArray, List.set_cons_zero, List.set_cons_succ]
        refine wpAnyH_done (by kernel_rfl) ?_ _
        have d0 := cell_of_row _ _ 0 _ _ _ s1
        have d1 := cell_of_row _ _ 1 _ _ _ s1
        have d2 := cell_of_row _ _ 2 _ _ _ s1
        have d3 := cell_of_row _ _ 3 _ _ _ s1
        have HBS := Lib.hid (s3 w.heap.size w HB4.out (Nat.le_refl _))
        clear s1 s2 s2' s3 hHeld
        go_wp2
        exact bodyPost_ret (v := .tuple #[.agg #[.int .i64 1, .string (s.extract k R), .int .u64 0, .int .i64 k], .bool false]) (by simp [results, Tryz.results86, go_sem, d0, d1, d2, d3, hsz, h16']) rfl ⟨HBS.out, _, _, _, _, _, rfl, Or.inl ⟨by rw [HB.out, if_neg q.out], rfl⟩⟩
  ·obtain rfl : j = s.size := by omega
   have e1 : R = s.size := by rw [HJ.out, spanAt_end]; rfl
   subst e1
   clear HJ HR0
   cases hw : wordB (textAt s k n) with
   | true =>
    have HW := Lib.hid (fun W => rword_is (s.extract k s.size) _ _ HTX.out hw W)
    have HWB := Lib.hid hw
    clear hw
    go_wp2_with fail
    refine (HW.out _).mono ?_
    rintro e w1 ⟨rfl, rfl⟩
    go_wp2_with fail
    obtain ⟨w4, hw4⟩ : ∃ w4, w4 = (w.alloc tokZ).alloc (.cells #[.int .i64 4, .string (s.extract k s.size), .int .u64 0, .int .i64 k] 155) := ⟨_, rfl⟩
    rw [← hw4]
    have k4 : w4.heap[w.heap.size + 1]? = some (.cells #[.int .i64 4, .string (s.extract k s.size), .int .u64 0, .int .i64 k] 155 (0, 0)) := by
     rw [hw4]
     exact (tok_two w _).2
    have k40 : w4.heap[w.heap.size]? = some tokZ := by
     rw [hw4]
     exact (tok_two w _).1
    have HB4 := Lib.hid (show Below w.heap.size w w4 from by rw [hw4]; exact tok_below w _)
    clear hw4
    have hS := Lib.hid (And.intro (cell_of_row w4.drew _ 0 _ _ _ k4) (And.intro (cell_of_row w4.drew _ 1 _ _ _ k4) (And.intro (cell_of_row w4.drew _ 2 _ _ _ k4) (cell_of_row w4.drew _ 3 _ _ _ k4))))
    have z0 := cell_of_row w4 _ 0 _ _ _ k40
    have y0 := free_row k40 0
    have z1 := cell_of_row w4 _ 1 _ _ _ k40
    have y1 := free_row k40 1
    have z2 := cell_of_row w4 _ 2 _ _ _ k40
    have y2 := free_row k40 2
    have z3 := cell_of_row w4 _ 3 _ _ _ k40
    have y3 := free_row k40 3
    have K4 := Lib.hid k4
    have K40 := Lib.hid k40
    clear k4 k40
    have hsz := HSZ.out
    by_cases h16 : n ≤ 16
    ·have q := Lib.hid h16
     have h16' : decide ((n : Int) ≤ 16) = true := by simp; omega
     clear h16
     refine wp_region_held_drew (S := (fun w' => w'.cell? ⟨w.heap.size + 1, 0, none⟩ = some (.int .i64 4) ∧ w'.cell? ⟨w.heap.size + 1, 1, none⟩ = some (.string (s.extract k s.size)) ∧ w'.cell? ⟨w.heap.size + 1, 2, none⟩ = some (.int .u64 0) ∧ w'.cell? ⟨w.heap.size + 1, 3, none⟩ = some (.int .i64 k))) (by kernel_rfl) hS.out (fun hHeld => ?_)
     refine wpAnyH_take (i := 0) (oi := _) (v := ?v25) rfl (by kernel_rfl) (by kernel_rfl) (by kernel_rfl) (fun _ _ _ h => h) ?y25 (by assumption) ?r25
     case y25 => refine Or.inl ⟨by kernel_rfl, fun w hSw => ?_⟩; (try dsimp only at hSw); go_simp; (try with_reducible rfl)
     simp only [Act.put, List.setIfInBounds_toArray, List.set_cons_zero, List.set_cons_succ]
     refine wpAnyH_take (i := 1) (oi := _) (v := ?v26) rfl (by kernel_rfl) (by kernel_rfl) (by kernel_rfl) (fun _ _ _ h => h) ?y26 (by assumption) ?r26
     case y26 => refine Or.inl ⟨by kernel_rfl, fun w hSw => ?_⟩; (try dsimp only at hSw); go_simp; (try with_reducible rfl)
     simp only [Act.put, List.setIfInBounds_toArray, List.set_cons_zero, List.set_cons_succ]
     refine wpAnyH_take (i := 2) (oi := _) (v := ?v27) rfl (by kernel_rfl) (by kernel_rfl) (by kernel_rfl) (fun _ _ _ h => h) ?y27 (by assumption) ?r27
     case y27 => refine Or.inl ⟨by kernel_rfl, fun w hSw => ?_⟩; (try dsimp only at hSw); go_simp; (try with_reducible rfl)
     simp only [Act.put, List.setIfInBounds_toArray, List.set_cons_zero, List.set_cons_succ]
     refine wpAnyH_take (i := 3) (oi := _) (v := ?v28) rfl (by kernel_rfl) (by kernel_rfl) (by kernel_rfl) (fun _ _ _ h => h) ?y28 (by assumption) ?r28
     case y28 => refine Or.inl ⟨by kernel_rfl, fun w hSw => ?_⟩; (try dsimp only at hSw); go_simp; (try with_reducible rfl)
     simp only [Act.put, List.setIfInBounds_toArray, List.set_cons_zero, List.set_cons_succ]
     refine wpAnyH_take (i := 4) (oi := _) (v := ?v29) rfl (by kernel_rfl) (by kernel_rfl) (by kernel_rfl) (fun _ _ _ h => h) ?y29 (by assumption) ?r29
     case y29 => refine Or.inl ⟨by kernel_rfl, fun w hSw => ?_⟩; (try dsimp only at hSw); go_simp; (try with_reducible rfl)
     simp only [Act.put, List.setIfInBounds_toArray, List.set_cons_zero, List.set_cons_succ]
     refine wpAnyH_ready (rs := [5]) (by kernel_rfl) (by simp) ?_
     refine AllReadyH.cons (o := _) rfl (fun K hK => ?_) AllReadyH.nil
     go_simp
     obtain ⟨wS, hwS⟩ : ∃ wS, wS = ((((w4.setCell ⟨w.heap.size, 0, none⟩ (.int .i64 4)).setCell ⟨w.heap.size, 1, none⟩ (.string (s.extract k s.size))).setCell ⟨w.heap.size, 2, none⟩ (.int .u64 0)).setCell ⟨w.heap.size, 3, none⟩ (.int .i64 k)).drew := ⟨_, rfl⟩
     obtain ⟨s1, s2, s3⟩ := tok_store K40.out hwS
     rw [← hwS]
     clear hwS
     have s2' := s2.trans K4.out
     refine hK.out _ _ ⟨cell_of_row _ _ 0 _ _ _ s2', cell_of_row _ _ 1 _ _ _ s2', cell_of_row _ _ 2 _ _ _ s2', cell_of_row _ _ 3 _ _ _ s2'⟩ (fun hHeld => ?_)
     clear hK K
     try simp only [Act.put, List.setIfInBounds_toArray, List.set_cons_zero, List.set_cons_succ]
     refine wpAnyH_take (i := 6) (oi := ⟨some 5, _, _, _, _, _⟩) (v := ?v30) rfl (by kernel_rfl) (by kernel_rfl) (by kernel_rfl) (fun _ _ _ h => h) ?y30 (by assumption) ?r30
     case y30 => refine Or.inl ⟨by kernel_rfl, fun w hSw => ?_⟩; (try dsimp only at hSw); go_simp; (try with_reducible rfl)
     simp only [Act.put, List.setIfInBounds_toArray, List.set_cons_zero, List.set_cons_succ]
     refine wpAnyH_done (by kernel_rfl) ?_ _
     have d0 := cell_of_row _ _ 0 _ _ _ s1
     have d1 := cell_of_row _ _ 1 _ _ _ s1
     have d2 := cell_of_row _ _ 2 _ _ _ s1
     have d3 := cell_of_row _ _ 3 _ _ _ s1
     have HBS := Lib.hid (s3 w.heap.size w HB4.out (Nat.le_refl _))
     clear s1 s2 s2' s3 hHeld
     go_wp2
     exact bodyPost_ret (v := .tuple #[.agg #[.int .i64 4, .string (s.extract k s.size), .int .u64 0, .int .i64 k], .bool true]) (by simp [results, Tryz.results86, go_sem, d0, d1, d2, d3, hsz, h16']) rfl ⟨HBS.out, _, _, _, _, _, rfl, Or.inr ⟨_, _, _, by rw [HB.out, if_pos q.out, HWB.out]; rfl, rfl, rfl, by rw [HR.out], rfl, rfl⟩⟩
    ·have q := Lib.hid h16
     have h16' : decide ((n : Int) ≤ 16) = false := by simp; omega
     clear h16
     refine wp_region_held_drew (S := (fun w' => w'.cell? ⟨w.heap.size + 1, 0, none⟩ = some (.int .i64 4) ∧ w'.cell? ⟨w.heap.size + 1, 1, none⟩ = some (.string (s.extract k s.size)) ∧ w'.cell? ⟨w.heap.size + 1, 2, none⟩ = some (.int .u64 0) ∧ w'.cell? ⟨w.heap.size + 1, 3, none⟩ = some (.int .i64 k))) (by kernel_rfl) hS.out (fun hHeld => ?_)
     refine wpAnyH_take (i := 0) (oi := _) (v := ?v31) rfl (by kernel_rfl) (by kernel_rfl) (by kernel_rfl) (fun _ _ _ h => h) ?y31 (by assumption) ?r31
     case y31 => refine Or.inl ⟨by kernel_rfl, fun w hSw => ?_⟩; (try dsimp only at hSw); go_simp; (try with_reducible rfl)
     simp only [Act.put, List.setIfInBounds_toArray, List.set_cons_zero, List.set_cons_succ]
     refine wpAnyH_take (i := 1) (oi := _) (v := ?v32) rfl (by kernel_rfl) (by kernel_rfl) (by kernel_rfl) (fun _ _ _ h => h) ?y32 (by assumption) ?r32
     case y32 => refine Or.inl ⟨by kernel_rfl, fun w hSw => ?_⟩; (try dsimp only at hSw); go_simp; (try with_reducible rfl)
     simp only [Act.put, List.setIfInBounds_toArray, List.set_cons_zero, List.set_cons_succ]
     refine wpAnyH_take (i := 2) (oi := _) (v := ?v33) rfl (by kernel_rfl) (by kernel_rfl) (by kernel_rfl) (fun _ _ _ h => h) ?y33 (by assumption) ?r33
     case y33 => refine Or.inl ⟨by kernel_rfl, fun w hSw => ?_⟩; (try dsimp only at hSw); go_simp; (try with_reducible rfl)
     simp only [Act.put, List.setIfInBounds_toArray, List.set_cons_zero, List.set_cons_succ]
     refine wpAnyH_take (i := 3) (oi := _) (v := ?v34) rfl (by kernel_rfl) (by kernel_rfl) (by kernel_rfl) (fun _ _ _ h => h) ?y34 (by assumption) ?r34
     case y34 => refine Or.inl ⟨by kernel_rfl, fun w hSw => ?_⟩; (try dsimp only at hSw); go_simp; (try with_reducible rfl)
     simp only [Act.put, List.setIfInBounds_toArray, List.set_cons_zero, List.set_cons_succ]
     refine wpAnyH_take (i := 4) (oi := _) (v := ?v35) rfl (by kernel_rfl) (by kernel_rfl) (by kernel_rfl) (fun _ _ _ h => h) ?y35 (by assumption) ?r35
     case y35 => refine Or.inl ⟨by kernel_rfl, fun w hSw => ?_⟩; (try dsimp only at hSw); go_simp; (try with_reducible rfl)
     simp only [Act.put, List.setIfInBounds_toArray, List.set_cons_zero, List.set_cons_succ]
     refine wpAnyH_ready (rs := [5]) (by kernel_rfl) (by simp) ?_
     refine AllReadyH.cons (o := _) rfl (fun K hK => ?_) AllReadyH.nil
     go_simp
     obtain ⟨wS, hwS⟩ : ∃ wS, wS = ((((w4.setCell ⟨w.heap.size, 0, none⟩ (.int .i64 4)).setCell ⟨w.heap.size, 1, none⟩ (.string (s.extract k s.size))).setCell ⟨w.heap.size, 2, none⟩ (.int .u64 0)).setCell ⟨w.heap.size, 3, none⟩ (.int .i64 k)).drew := ⟨_, rfl⟩
     obtain ⟨s1, s2, s3⟩ := tok_store K40.out hwS
     rw [← hwS]
     clear hwS
     have s2' := s2.trans K4.out
     refine hK.out _ _ ⟨cell_of_row _ _ 0 _ _ _ s2', cell_of_row _ _ 1 _ _ _ s2', cell_of_row _ _ 2 _ _ _ s2', cell_of_row _ _ 3 _ _ _ s2'⟩ (fun hHeld => ?_)
     clear hK K
     try simp only [Act.put, List.setIfInBounds_toArray, List.set_cons_zero, List.set_cons_succ]
     refine wpAnyH_take (i := 6) (oi := ⟨some 5, _, _, _, _, _⟩) (v := ?v36) rfl (by kernel_rfl) (by kernel_rfl) (by kernel_rfl) (fun _ _ _ h => h) ?y36 (by assumption) ?r36
     case y36 => refine Or.inl ⟨by kernel_rfl, fun w hSw => ?_⟩; (try dsimp only at hSw); go_simp; (try with_reducible rfl)
     simp only [Act.put, List.setIfInBounds_toArray, List.set_cons_zero, List.set_cons_succ]
     refine wpAnyH_done (by kernel_rfl) ?_ _
     have d0 := cell_of_row _ _ 0 _ _ _ s1
     have d1 := cell_of_row _ _ 1 _ _ _ s1
     have d2 := cell_of_row _ _ 2 _ _ _ s1
     have d3 := cell_of_row _ _ 3 _ _ _ s1
     have HBS := Lib.hid (s3 w.heap.size w HB4.out (Nat.le_refl _))
     clear s1 s2 s2' s3 hHeld
     go_wp2
     exact bodyPost_ret (v := .tuple #[.agg #[.int .i64 4, .string (s.extract k s.size), .int .u64 0, .int .i64 k], .bool false]) (by simp [results, Tryz.results86, go_sem, d0, d1, d2, d3, hsz, h16']) rfl ⟨HBS.out, _, _, _, _, _, rfl, Or.inl ⟨by rw [HB.out, if_neg q.out], rfl⟩⟩
   | false =>
    have HW := Lib.hid (fun W => rword_is (s.extract k s.size) _ _ HTX.out hw W)
    have HWB := Lib.hid hw
    clear hw
    go_wp2_with fail
    refine (HW.out _).mono ?_
    rintro e w1 ⟨rfl, rfl⟩
    go_wp2_with fail
    obtain ⟨w4, hw4⟩ : ∃ w4, w4 = (w.alloc tokZ).alloc (.cells #[.int .i64 1, .string (s.extract k s.size), .int .u64 0, .int .i64 k] 155) := ⟨_, rfl⟩
    rw [← hw4]
    have k4 : w4.heap[w.heap.size + 1]? = some (.cells #[.int .i64 1, .string (s.extract k s.size), .int .u64 0, .int .i64 k] 155 (0, 0)) := by
     rw [hw4]
     exact (tok_two w _).2
    have k40 : w4.heap[w.heap.size]? = some tokZ := by
     rw [hw4]
     exact (tok_two w _).1
    have HB4 := Lib.hid (show Below w.heap.size w w4 from by rw [hw4]; exact tok_below w _)
    clear hw4
    have hS := Lib.hid (And.intro (cell_of_row w4.drew _ 0 _ _ _ k4) (And.intro (cell_of_row w4.drew _ 1 _ _ _ k4) (And.intro (cell_of_row w4.drew _ 2 _ _ _ k4) (cell_of_row w4.drew _ 3 _ _ _ k4))))
    have z0 := cell_of_row w4 _ 0 _ _ _ k40
    have y0 := free_row k40 0
    have z1 := cell_of_row w4 _ 1 _ _ _ k40
    have y1 := free_row k40 1
    have z2 := cell_of_row w4 _ 2 _ _ _ k40
    have y2 := free_row k40 2
    have z3 := cell_of_row w4 _ 3 _ _ _ k40
    have y3 := free_row k40 3
    have K4 := Lib.hid k4
    have K40 := Lib.hid k40
    clear k4 k40
    have hsz := HSZ.out
    by_cases h16 : n ≤ 16
    ·have q := Lib.hid h16
     have h16' : decide ((n : Int) ≤ 16) = true := by simp; omega
     clear h16
     refine wp_region_held_drew (S := (fun w' => w'.cell? ⟨w.heap.size + 1, 0, none⟩ = some (.int .i64 1) ∧ w'.cell? ⟨w.heap.size + 1, 1, none⟩ = some (.string (s.extract k s.size)) ∧ w'.cell? ⟨w.heap.size + 1, 2, none⟩ = some (.int .u64 0) ∧ w'.cell? ⟨w.heap.size + 1, 3, none⟩ = some (.int .i64 k))) (by kernel_rfl) hS.out (fun hHeld => ?_)
     refine wpAnyH_take (i := 0) (oi := _) (v := ?v37) rfl (by kernel_rfl) (by kernel_rfl) (by kernel_rfl) (fun _ _ _ h => h) ?y37 (by assumption) ?r37
     case y37 => refine Or.inl ⟨by kernel_rfl, fun w hSw => ?_⟩; (try dsimp only at hSw); go_simp; (try with_reducible rfl)
     simp only [Act.put, List.setIfInBounds_toArray, List.set_cons_zero, List.set_cons_succ]
     refine wpAnyH_take (i := 1) (oi := _) (v := ?v38) rfl (by kernel_rfl) (by kernel_rfl) (by kernel_rfl) (fun _ _ _ h => h) ?y38 (by assumption) ?r38
     case y38 => refine Or.inl ⟨by kernel_rfl, fun w hSw => ?_⟩; (try dsimp only at hSw); go_simp; (try with_reducible rfl)
     simp only [Act.put, List.setIfInBounds_toArray, List.set_cons_zero, List.set_cons_succ]
     refine wpAnyH_take (i := 2) (oi := _) (v := ?v39) rfl (by kernel_rfl) (by kernel_rfl) (by kernel_rfl) (fun _ _ _ h => h) ?y39 (by assumption) ?r39
     case y39 => refine Or.inl ⟨by kernel_rfl, fun w hSw => ?_⟩; (try dsimp only at hSw); go_simp; (try with_reducible rfl)
     simp only [Act.put, List.setIfInBounds_toArray, List.set_cons_zero, List.set_cons_succ]
     refine wpAnyH_take (i := 3) (oi := _) (v := ?v40) rfl (by kernel_rfl) (by kernel_rfl) (by kernel_rfl) (fun _ _ _ h => h) ?y40 (by assumption) ?r40
     case y40 => refine Or.inl ⟨by kernel_rfl, fun w hSw => ?_⟩; (try dsimp only at hSw); go_simp; (try with_reducible rfl)
     simp only [Act.put, List.setIfInBounds_toArray, List.set_cons_zero, List.set_cons_succ]
     refine wpAnyH_take (i := 4) (oi := _) (v := ?v41) rfl (by kernel_rfl) (by kernel_rfl) (by kernel_rfl) (fun _ _ _ h => h) ?y41 (by assumption) ?r41
     case y41 => refine Or.inl ⟨by kernel_rfl, fun w hSw => ?_⟩; (try dsimp only at hSw); go_simp; (try with_reducible rfl)
     simp only [Act.put, List.setIfInBounds_toArray, List.set_cons_zero, List.set_cons_succ]
     refine wpAnyH_ready (rs := [5]) (by kernel_rfl) (by simp) ?_
     refine AllReadyH.cons (o := _) rfl (fun K hK => ?_) AllReadyH.nil
     go_simp
     obtain ⟨wS, hwS⟩ : ∃ wS, wS = ((((w4.setCell ⟨w.heap.size, 0, none⟩ (.int .i64 1)).setCell ⟨w.heap.size, 1, none⟩ (.string (s.extract k s.size))).setCell ⟨w.heap.size, 2, none⟩ (.int .u64 0)).setCell ⟨w.heap.size, 3, none⟩ (.int .i64 k)).drew := ⟨_, rfl⟩
     obtain ⟨s1, s2, s3⟩ := tok_store K40.out hwS
     rw [← hwS]
     clear hwS
     have s2' := s2.trans K4.out
     refine hK.out _ _ ⟨cell_of_row _ _ 0 _ _ _ s2', cell_of_row _ _ 1 _ _ _ s2', cell_of_row _ _ 2 _ _ _ s2', cell_of_row _ _ 3 _ _ _ s2'⟩ (fun hHeld => ?_)
     clear hK K
     try simp only [Act.put, List.setIfInBounds_toArray, List.set_cons_zero, List.set_cons_succ]
     refine wpAnyH_take (i := 6) (oi := ⟨some 5, _, _, _, _, _⟩) (v := ?v42) rfl (by kernel_rfl) (by kernel_rfl) (by kernel_rfl) (fun _ _ _ h => h) ?y42 (by assumption) ?r42
     case y42 => refine Or.inl ⟨by kernel_rfl, fun w hSw => ?_⟩; (try dsimp only at hSw); go_simp; (try with_reducible rfl)
     simp only [Act.put, List.setIfInBounds_toArray, List.set_cons_zero, List.set_cons_succ]
     refine wpAnyH_done (by kernel_rfl) ?_ _
     have d0 := cell_of_row _ _ 0 _ _ _ s1
     have d1 := cell_of_row _ _ 1 _ _ _ s1
     have d2 := cell_of_row _ _ 2 _ _ _ s1
     have d3 := cell_of_row _ _ 3 _ _ _ s1
     have HBS := Lib.hid (s3 w.heap.size w HB4.out (Nat.le_refl _))
     clear s1 s2 s2' s3 hHeld
     go_wp2
     exact bodyPost_ret (v := .tuple #[.agg #[.int .i64 1, .string (s.extract k s.size), .int .u64 0, .int .i64 k], .bool true]) (by simp [results, Tryz.results86, go_sem, d0, d1, d2, d3, hsz, h16']) rfl ⟨HBS.out, _, _, _, _, _, rfl, Or.inr ⟨_, _, _, by rw [HB.out, if_pos q.out, HWB.out]; rfl, rfl, rfl, by rw [HR.out], rfl, rfl⟩⟩
    ·have q := Lib.hid h16
     have h16' : decide ((n : Int) ≤ 16) = false := by simp; omega
     clear h16
     refine wp_region_held_drew (S := (fun w' => w'.cell? ⟨w.heap.size + 1, 0, none⟩ = some (.int .i64 1) ∧ w'.cell? ⟨w.heap.size + 1, 1, none⟩ = some (.string (s.extract k s.size)) ∧ w'.cell? ⟨w.heap.size + 1, 2, none⟩ = some (.int .u64 0) ∧ w'.cell? ⟨w.heap.size + 1, 3, none⟩ = some (.int .i64 k))) (by kernel_rfl) hS.out (fun hHeld => ?_)
     refine wpAnyH_take (i := 0) (oi := _) (v := ?v43) rfl (by kernel_rfl) (by kernel_rfl) (by kernel_rfl) (fun _ _ _ h => h) ?y43 (by assumption) ?r43
     case y43 => refine Or.inl ⟨by kernel_rfl, fun w hSw => ?_⟩; (try dsimp only at hSw); go_simp; (try with_reducible rfl)
     simp only [Act.put, List.setIfInBounds_toArray, List.set_cons_zero, List.set_cons_succ]
     refine wpAnyH_take (i := 1) (oi := _) (v := ?v44) rfl (by kernel_rfl) (by kernel_rfl) (by kernel_rfl) (fun _ _ _ h => h) ?y44 (by assumption) ?r44
     case y44 => refine Or.inl ⟨by kernel_rfl, fun w hSw => ?_⟩; (try dsimp only at hSw); go_simp; (try with_reducible rfl)
     simp only [Act.put, List.setIfInBounds_toArray, List.set_cons_zero, List.set_cons_succ]
     refine wpAnyH_take (i := 2) (oi := _) (v := ?v45) rfl (by kernel_rfl) (by kernel_rfl) (by kernel_rfl) (fun _ _ _ h => h) ?y45 (by assumption) ?r45
     case y45 => refine Or.inl ⟨by kernel_rfl, fun w hSw => ?_⟩; (try dsimp only at hSw); go_simp; (try with_reducible rfl)
     simp only [Act.put, List.setIfInBounds_toArray, List.set_cons_zero, List.set_cons_succ]
     refine wpAnyH_take (i := 3) (oi := _) (v := ?v46) rfl (by kernel_rfl) (by kernel_rfl) (by kernel_rfl) (fun _ _ _ h => h) ?y46 (by assumption) ?r46
     case y46 => refine Or.inl ⟨by kernel_rfl, fun w hSw => ?_⟩; (try dsimp only at hSw); go_simp; (try with_reducible rfl)
     simp only [Act.put, List.setIfInBounds_toArray, List.set_cons_zero, List.set_cons_succ]
     refine wpAnyH_take (i := 4) (oi := _) (v := ?v47) rfl (by kernel_rfl) (by kernel_rfl) (by kernel_rfl) (fun _ _ _ h => h) ?y47 (by assumption) ?r47
     case y47 => refine Or.inl ⟨by kernel_rfl, fun w hSw => ?_⟩; (try dsimp only at hSw); go_simp; (try with_reducible rfl)
     simp only [Act.put, List.setIfInBounds_toArray, List.set_cons_zero, List.set_cons_succ]
     refine wpAnyH_ready (rs := [5]) (by kernel_rfl) (by simp) ?_
     refine AllReadyH.cons (o := _) rfl (fun K hK => ?_) AllReadyH.nil
     go_simp
     obtain ⟨wS, hwS⟩ : ∃ wS, wS = ((((w4.setCell ⟨w.heap.size, 0, none⟩ (.int .i64 1)).setCell ⟨w.heap.size, 1, none⟩ (.string (s.extract k s.size))).setCell ⟨w.heap.size, 2, none⟩ (.int .u64 0)).setCell ⟨w.heap.size, 3, none⟩ (.int .i64 k)).drew := ⟨_, rfl⟩
     obtain ⟨s1, s2, s3⟩ := tok_store K40.out hwS
     rw [← hwS]
     clear hwS
     have s2' := s2.trans K4.out
     refine hK.out _ _ ⟨cell_of_row _ _ 0 _ _ _ s2', cell_of_row _ _ 1 _ _ _ s2', cell_of_row _ _ 2 _ _ _ s2', cell_of_row _ _ 3 _ _ _ s2'⟩ (fun hHeld => ?_)
     clear hK K
     try simp only [Act.put, List.setIfInBounds_toArray, List.set_cons_zero, List.set_cons_succ]
     refine wpAnyH_take (i := 6) (oi := ⟨some 5, _, _, _, _, _⟩) (v := ?v48) rfl (by kernel_rfl) (by kernel_rfl) (by kernel_rfl) (fun _ _ _ h => h) ?y48 (by assumption) ?r48
     case y48 => refine Or.inl ⟨by kernel_rfl, fun w hSw => ?_⟩; (try dsimp only at hSw); go_simp; (try with_reducible rfl)
     simp only [Act.put, List.setIfInBounds_toArray, List.set_cons_zero, List.set_cons_succ]
     refine wpAnyH_done (by kernel_rfl) ?_ _
     have d0 := cell_of_row _ _ 0 _ _ _ s1
     have d1 := cell_of_row _ _ 1 _ _ _ s1
     have d2 := cell_of_row _ _ 2 _ _ _ s1
     have d3 := cell_of_row _ _ 3 _ _ _ s1
     have HBS := Lib.hid (s3 w.heap.size w HB4.out (Nat.le_refl _))
     clear s1 s2 s2' s3 hHeld
     go_wp2
     exact bodyPost_ret (v := .tuple #[.agg #[.int .i64 1, .string (s.extract k s.size), .int .u64 0, .int .i64 k], .bool false]) (by simp [results, Tryz.results86, go_sem, d0, d1, d2, d3, hsz, h16']) rfl ⟨HBS.out, _, _, _, _, _, rfl, Or.inl ⟨by rw [HB.out, if_neg q.out], rfl⟩⟩
theorem shift_is (s : ByteArray) {k : Nat} (hk : k < s.size) : Lib.hasPrefix (s.data.toList.drop k) [62, 62] = ((s[k].toNat : Int) == 62 && (if h : k + 1 < s.size then (s[k + 1].toNat : Int) == 62 else false)) := by
 have e : ∀ c : UInt8, ((62 : UInt8) == c) = ((c.toNat : Int) == 62) := fun c => by
  rw [Bool.eq_iff_iff, beq_iff_eq, beq_iff_eq, ← UInt8.toNat_inj]
  simp
  omega
 unfold Lib.hasPrefix
 rw [drop_at s hk]
 by_cases h : k + 1 < s.size
 ·rw [dif_pos h, drop_at s h]
  simp only [List.isPrefixOf, e, Bool.and_true]
 ·rw [dif_neg h, List.drop_eq_nil_of_le (by rw [len_data]; omega)]
  simp [List.isPrefixOf]
theorem noLow62 {c : UInt8} (h : (c.toNat : Int) = 62) : signB c = false := by
 have : c = 62 := UInt8.toNat_inj.1 (by simp; omega)
 subst this
 rfl
set_option maxRecDepth 100000 in
set_option maxHeartbeats 8000000 in
theorem rone_more (s : ByteArray) (k : Nat) (w : World) (hs : s.size ≤ 100000) (hk : k < s.size) (hd : digB s[k] = false) (hl : lowB s[k] = false) (h62 : (s[k].toNat : Int) = 62) :
  Calls Tryz.prog 86 #[.string s, .int .i64 k] w (OneOut w s k) := by
 have hB : oneM s k = if Lib.hasPrefix (s.data.toList.drop k) [62, 62] then some (3, 2, 0) else none := by
  unfold oneM
  rw [dif_pos hk, if_neg (by rw [hd]; simp), if_neg (by rw [hl]; simp), noLow62 h62]
  simp
 have q0 : ((s[k].toNat : Int) == 62) = true := by rw [beq_iff_eq]; exact h62
 rw [shift_is s hk, q0, Bool.true_and] at hB
 have HP := Lib.hid (fun h => (prefix_yes s (Nat.le_of_lt hk) h).2)
 rw [shift_is s hk, q0, Bool.true_and] at HP
 have HD := Lib.hid (fun W => rdig_is s[k] _ hd W)
 have HL := Lib.hid (fun W => rlet_is s[k] _ hl W)
 have k4 : IntKind.i64.wrap ((k : Int) + 1) = (k : Int) + 1 := IntWalk.i64_in _ (by omega)
 have HB := Lib.hid hB
 clear hd hl hB h62
 go_enter Tryz.func86, Tryz.ntmps86
 go_wp2_with fail
 refine (HD.out _).mono ?_
 rintro e w1 ⟨rfl, rfl⟩
 go_wp2_with fail
 refine (HL.out _).mono ?_
 rintro e w1 ⟨rfl, rfl⟩
 go_wp2_with fail
 obtain ⟨w4, hw4⟩ : ∃ w4, w4 = (w.alloc tokZ).alloc (.cells #[.int .i64 3, .string ⟨#[62, 62]⟩, .int .u64 0, .int .i64 k] 155) := ⟨_, rfl⟩
 rw [← hw4]
 have k4 : w4.heap[w.heap.size + 1]? = some (.cells #[.int .i64 3, .string ⟨#[62, 62]⟩, .int .u64 0, .int .i64 k] 155 (0, 0)) := by
  rw [hw4]
  exact (tok_two w _).2
 have k40 : w4.heap[w.heap.size]? = some tokZ := by
  rw [hw4]
  exact (tok_two w _).1
 have HB4 := Lib.hid (show Below w.heap.size w w4 from by rw [hw4]; exact tok_below w _)
 clear hw4
 have hS := Lib.hid (And.intro (cell_of_row w4.drew _ 0 _ _ _ k4) (And.intro (cell_of_row w4.drew _ 1 _ _ _ k4) (And.intro (cell_of_row w4.drew _ 2 _ _ _ k4) (cell_of_row w4.drew _ 3 _ _ _ k4))))
 have z0 := cell_of_row w4 _ 0 _ _ _ k40
 have y0 := free_row k40 0
 have z1 := cell_of_row w4 _ 1 _ _ _ k40
 have y1 := free_row k40 1
 have z2 := cell_of_row w4 _ 2 _ _ _ k40
 have y2 := free_row k40 2
 have z3 := cell_of_row w4 _ 3 _ _ _ k40
 have y3 := free_row k40 3
 have K4 := Lib.hid k4
 have K40 := Lib.hid k40
 clear k4 k40
 by_cases hlt : k + 1 < s.size
 ·have q1 : decide ((k : Int) + 1 < (s.size : Int)) = true := by simp; omega
  have i0 : (0 : Int) ≤ (k : Int) + 1 := by omega
  have i1 : (k : Int) + 1 < (s.size : Int) := by omega
  have i2 : ((k : Int) + 1).toNat = k + 1 := by omega
  have HB1 : Hid (oneM s k = if ((s[k + 1].toNat : Int) == 62) = true then some (3, 2, 0) else none) := by have := HB.out; rw [dif_pos hlt] at this; exact this
  have HP1 : Hid (((s[k + 1].toNat : Int) == 62) = true → s.extract k (k + 2) = ⟨#[62, 62]⟩) := by have := HP.out; rw [dif_pos hlt] at this; exact this
  clear HB HP
  cases hq : ((s[k + 1].toNat : Int) == 62) with
  | true =>
   have HX := Lib.hid (show oneM s k = some (3, 2, 0) from by rw [HB1.out, hq]; rfl)
   have HT := Lib.hid (HP1.out hq)
   refine wp_region_held_drew (S := (fun w' => w'.cell? ⟨w.heap.size + 1, 0, none⟩ = some (.int .i64 3) ∧ w'.cell? ⟨w.heap.size + 1, 1, none⟩ = some (.string ⟨#[62, 62]⟩) ∧ w'.cell? ⟨w.heap.size + 1, 2, none⟩ = some (.int .u64 0) ∧ w'.cell? ⟨w.heap.size + 1, 3, none⟩ = some (.int .i64 k))) (by kernel_rfl) hS.out (fun hHeld => ?_)
   refine wpAnyH_take (i := 0) (oi := _) (v := ?v1) rfl (by kernel_rfl) (by kernel_rfl) (by kernel_rfl) (fun _ _ _ h => h) ?y1 (by assumption) ?r1
   case y1 => refine Or.inl ⟨by kernel_rfl, fun w hSw => ?_⟩; (try dsimp only at hSw); go_simp; (try with_reducible rfl)
   simp only [Act.put, List.setIfInBounds_toArray, List.set_cons_zero, List.set_cons_succ]
   refine wpAnyH_take (i := 1) (oi := _) (v := ?v2) rfl (by kernel_rfl) (by kernel_rfl) (by kernel_rfl) (fun _ _ _ h => h) ?y2 (by assumption) ?r2
   case y2 => refine Or.inl ⟨by kernel_rfl, fun w hSw => ?_⟩; (try dsimp only at hSw); go_simp; (try with_reducible rfl)
   simp only [Act.put, List.setIfInBounds_toArray, List.set_cons_zero, List.set_cons_succ]
   refine wpAnyH_take (i := 2) (oi := _) (v := ?v3) rfl (by kernel_rfl) (by kernel_rfl) (by kernel_rfl) (fun _ _ _ h => h) ?y3 (by assumption) ?r3
   case y3 => refine Or.inl ⟨by kernel_rfl, fun w hSw => ?_⟩; (try dsimp only at hSw); go_simp; (try with_reducible rfl)
   simp only [Act.put, List.setIfInBounds_toArray, List.set_cons_zero, List.set_cons_succ]
   refine wpAnyH_take (i := 3) (oi := _) (v := ?v4) rfl (by kernel_rfl) (by kernel_rfl) (by kernel_rfl) (fun _ _ _ h => h) ?y4 (by assumption) ?r4
   case y4 => refine Or.inl ⟨by kernel_rfl, fun w hSw => ?_⟩; (try dsimp only at hSw); go_simp; (try with_reducible rfl)
   simp only [Act.put, List.setIfInBounds_toArray, List.set_cons_zero, List.set_cons_succ]
   refine wpAnyH_take (i := 4) (oi := _) (v := ?v5) rfl (by kernel_rfl) (by kernel_rfl) (by kernel_rfl) (fun _ _ _ h => h) ?y5 (by assumption) ?r5
   case y5 => refine Or.inl ⟨by kernel_rfl, fun w hSw => ?_⟩; (try dsimp only at hSw); go_simp; (try with_reducible rfl)
   simp only [Act.put, List.setIfInBounds_toArray, List.set_cons_zero, List.set_cons_succ]
   refine wpAnyH_take (i := 5) (oi := _) (v := ?v6) rfl (by kernel_rfl) (by kernel_rfl) (by kernel_rfl) (fun _ _ _ h => h) ?y6 (by assumption) ?r6
   case y6 => refine Or.inl ⟨by kernel_rfl, fun w hSw => ?_⟩; (try dsimp only at hSw); go_simp; (try with_reducible rfl)
   simp only [Act.put, List.setIfInBounds_toArray, List.set_cons_zero, List.set_cons_succ]
   refine wpAnyH_take (i := 6) (oi := _) (v := ?v7) rfl (by kernel_rfl) (by kernel_rfl) (by kernel_rfl) (fun _ _ _ h => h) ?y7 (by assumption) ?r7
   case y7 => refine Or.inl ⟨by kernel_rfl, fun w hSw => ?_⟩; (try dsimp only at hSw); go_simp; (try with_reducible rfl)
   simp only [Act.put, List.setIfInBounds_toArray, List.set_cons_zero, List.set_cons_succ]
   refine wpAnyH_take (i := 7) (oi := _) (v := ?v8) rfl (by kernel_rfl) (by kernel_rfl) (by kernel_rfl) (fun _ _ _ h => h) ?y8 (by assumption) ?r8
   case y8 => refine Or.inl ⟨by kernel_rfl, fun w hSw => ?_⟩; (try dsimp only at hSw); go_simp; (try with_reducible rfl)
   simp only [Act.put, List.setIfInBounds_toArray, List.set_cons_zero, List.set_cons_succ]
   refine wpAnyH_take (i := 8) (oi := _) (v := ?v9) rfl (by kernel_rfl) (by kernel_rfl) (by kernel_rfl) (fun _ _ _ h => h) ?y9 (by assumption) ?r9
   case y9 => refine Or.inl ⟨by kernel_rfl, fun w hSw => ?_⟩; (try dsimp only at hSw); go_simp; (try with_reducible rfl)
   simp only [Act.put, List.setIfInBounds_toArray, List.set_cons_zero, List.set_cons_succ]
   refine wpAnyH_take (i := 9) (oi := _) (v := ?v10) rfl (by kernel_rfl) (by kernel_rfl) (by kernel_rfl) (fun _ _ _ h => h) ?y10 (by assumption) ?r10
   case y10 => refine Or.inl ⟨by kernel_rfl, fun w hSw => ?_⟩; (try dsimp only at hSw); go_simp; (try with_reducible rfl)
   simp only [Act.put, List.setIfInBounds_toArray, List.set_cons_zero, List.set_cons_succ]
   refine wpAnyH_take (i := 10) (oi := _) (v := ?v11) rfl (by kernel_rfl) (by kernel_rfl) (by kernel_rfl) (fun _ _ _ h => h) ?y11 (by assumption) ?r11
   case y11 => refine Or.inl ⟨by kernel_rfl, fun w hSw => ?_⟩; (try dsimp only at hSw); go_simp; (try with_reducible rfl)
   simp only [Act.put, List.setIfInBounds_toArray, List.set_cons_zero, List.set_cons_succ]
   refine wpAnyH_take (i := 11) (oi := _) (v := ?v12) rfl (by kernel_rfl) (by kernel_rfl) (by kernel_rfl) (fun _ _ _ h => h) ?y12 (by assumption) ?r12
   case y12 => refine Or.inl ⟨by kernel_rfl, fun w hSw => ?_⟩; (try dsimp only at hSw); go_simp; (try with_reducible rfl)
   simp only [Act.put, List.setIfInBounds_toArray, List.set_cons_zero, List.set_cons_succ]
   refine wpAnyH_take (i := 12) (oi := _) (v := ?v13) rfl (by kernel_rfl) (by kernel_rfl) (by kernel_rfl) (fun _ _ _ h => h) ?y13 (by assumption) ?r13
   case y13 => refine Or.inl ⟨by kernel_rfl, fun w hSw => ?_⟩; (try dsimp only at hSw); go_simp; (try with_reducible rfl)
   simp only [Act.put, List.setIfInBounds_toArray, List.set_cons_zero, List.set_cons_succ]
   refine wpAnyH_ready (rs := [13]) (by kernel_rfl) (by simp) ?_
   refine AllReadyH.cons (o := _) rfl (fun K hK => ?_) AllReadyH.nil
   go_simp
   obtain ⟨wS, hwS⟩ : ∃ wS, wS = ((((w4.setCell ⟨w.heap.size, 0, none⟩ (.int .i64 3)).setCell ⟨w.heap.size, 1, none⟩ (.string ⟨#[62, 62]⟩)).setCell ⟨w.heap.size, 2, none⟩ (.int .u64 0)).setCell ⟨w.heap.size, 3, none⟩ (.int .i64 k)).drew := ⟨_, rfl⟩
   obtain ⟨s1, s2, s3⟩ := tok_store K40.out hwS
   rw [← hwS]
   clear hwS
   have s2' := s2.trans K4.out
   refine hK.out _ _ ⟨cell_of_row _ _ 0 _ _ _ s2', cell_of_row _ _ 1 _ _ _ s2', cell_of_row _ _ 2 _ _ _ s2', cell_of_row _ _ 3 _ _ _ s2'⟩ (fun hHeld => ?_)
   clear hK K
   try simp only [Act.put, List.setIfInBounds_toArray, List.set_cons_zero, List.set_cons_succ]
   refine wpAnyH_take (i := 14) (oi := ⟨some 5, _, _, _, _, _⟩) (v := ?v14) rfl (by kernel_rfl) (by kernel_rfl) (by kernel_rfl) (fun _ _ _ h => h) ?y14 (by assumption) ?r14
   case y14 => refine Or.inl ⟨by kernel_rfl, fun w hSw => ?_⟩; (try dsimp only at hSw); go_simp; (try with_reducible rfl)
   simp only [Act.put, List.setIfInBounds_toArray, List.set_cons_zero, List.set_cons_succ]
   refine wpAnyH_done (by kernel_rfl) ?_ _
   have d0 := cell_of_row _ _ 0 _ _ _ s1
   have d1 := cell_of_row _ _ 1 _ _ _ s1
   have d2 := cell_of_row _ _ 2 _ _ _ s1
   have d3 := cell_of_row _ _ 3 _ _ _ s1
   have HBS := Lib.hid (s3 w.heap.size w HB4.out (Nat.le_refl _))
   clear s1 s2 s2' s3 hHeld
   go_wp2
   exact bodyPost_ret (v := .tuple #[.agg #[.int .i64 3, .string ⟨#[62, 62]⟩, .int .u64 0, .int .i64 k], .bool true]) (by simp [results, Tryz.results86, go_sem, d0, d1, d2, d3]) rfl ⟨HBS.out, _, _, _, _, _, rfl, Or.inr ⟨_, _, _, HX.out, rfl, rfl, by rw [HT.out], rfl, rfl⟩⟩
  | false =>
   have HX := Lib.hid (show oneM s k = none from by rw [HB1.out, hq]; rfl)
   refine wp_region_held_drew (S := (fun w' => w'.cell? ⟨w.heap.size + 1, 0, none⟩ = some (.int .i64 3) ∧ w'.cell? ⟨w.heap.size + 1, 1, none⟩ = some (.string ⟨#[62, 62]⟩) ∧ w'.cell? ⟨w.heap.size + 1, 2, none⟩ = some (.int .u64 0) ∧ w'.cell? ⟨w.heap.size + 1, 3, none⟩ = some (.int .i64 k))) (by kernel_rfl) hS.out (fun hHeld => ?_)
   refine wpAnyH_take (i := 0) (oi := _) (v := ?v15) rfl (by kernel_rfl) (by kernel_rfl) (by kernel_rfl) (fun _ _ _ h => h) ?y15 (by assumption) ?r15
   case y15 => refine Or.inl ⟨by kernel_rfl, fun w hSw => ?_⟩; (try dsimp only at hSw); go_simp; (try with_reducible rfl)
   simp only [Act.put, List.setIfInBounds_toArray, List.set_cons_zero, List.set_cons_succ]
   refine wpAnyH_take (i := 1) (oi := _) (v := ?v16) rfl (by kernel_rfl) (by kernel_rfl) (by kernel_rfl) (fun _ _ _ h => h) ?y16 (by assumption) ?r16
   case y16 => refine Or.inl ⟨by kernel_rfl, fun w hSw => ?_⟩; (try dsimp only at hSw); go_simp; (try with_reducible rfl)
   simp only [Act.put, List.setIfInBounds_toArray, List.set_cons_zero, List.set_cons_succ]
   refine wpAnyH_take (i := 2) (oi := _) (v := ?v17) rfl (by kernel_rfl) (by kernel_rfl) (by kernel_rfl) (fun _ _ _ h => h) ?y17 (by assumption) ?r17
   case y17 => refine Or.inl ⟨by kernel_rfl, fun w hSw => ?_⟩; (try dsimp only at hSw); go_simp; (try with_reducible rfl)
   simp only [Act.put, List.setIfInBounds_toArray, List.set_cons_zero, List.set_cons_succ]
   refine wpAnyH_take (i := 3) (oi := _) (v := ?v18) rfl (by kernel_rfl) (by kernel_rfl) (by kernel_rfl) (fun _ _ _ h => h) ?y18 (by assumption) ?r18
   case y18 => refine Or.inl ⟨by kernel_rfl, fun w hSw => ?_⟩; (try dsimp only at hSw); go_simp; (try with_reducible rfl)
   simp only [Act.put, List.setIfInBounds_toArray, List.set_cons_zero, List.set_cons_succ]
   refine wpAnyH_take (i := 4) (oi := _) (v := ?v19) rfl (by kernel_rfl) (by kernel_rfl) (by kernel_rfl) (fun _ _ _ h => h) ?y19 (by assumption) ?r19
   case y19 => refine Or.inl ⟨by kernel_rfl, fun w hSw => ?_⟩; (try dsimp only at hSw); go_simp; (try with_reducible rfl)
   simp only [Act.put, List.setIfInBounds_toArray, List.set_cons_zero, List.set_cons_succ]
   refine wpAnyH_take (i := 5) (oi := _) (v := ?v20) rfl (by kernel_rfl) (by kernel_rfl) (by kernel_rfl) (fun _ _ _ h => h) ?y20 (by assumption) ?r20
   case y20 => refine Or.inl ⟨by kernel_rfl, fun w hSw => ?_⟩; (try dsimp only at hSw); go_simp; (try with_reducible rfl)
   simp only [Act.put, List.setIfInBounds_toArray, List.set_cons_zero, List.set_cons_succ]
   refine wpAnyH_take (i := 6) (oi := _) (v := ?v21) rfl (by kernel_rfl) (by kernel_rfl) (by kernel_rfl) (fun _ _ _ h => h) ?y21 (by assumption) ?r21
   case y21 => refine Or.inl ⟨by kernel_rfl, fun w hSw => ?_⟩; (try dsimp only at hSw); go_simp; (try with_reducible rfl)
   simp only [Act.put, List.setIfInBounds_toArray, List.set_cons_zero, List.set_cons_succ]
   refine wpAnyH_take (i := 7) (oi := _) (v := ?v22) rfl (by kernel_rfl) (by kernel_rfl) (by kernel_rfl) (fun _ _ _ h => h) ?y22 (by assumption) ?r22
   case y22 => refine Or.inl ⟨by kernel_rfl, fun w hSw => ?_⟩; (try dsimp only at hSw); go_simp; (try with_reducible rfl)
   simp only [Act.put, List.setIfInBounds_toArray, List.set_cons_zero, List.set_cons_succ]
   refine wpAnyH_take (i := 8) (oi := _) (v := ?v23) rfl (by kernel_rfl) (by kernel_rfl) (by kernel_rfl) (fun _ _ _ h => h) ?y23 (by assumption) ?r23
   case y23 => refine Or.inl ⟨by kernel_rfl, fun w hSw => ?_⟩; (try dsimp only at hSw); go_simp; (try with_reducible rfl)
   simp only [Act.put, List.setIfInBounds_toArray, List.set_cons_zero, List.set_cons_succ]
   refine wpAnyH_take (i := 9) (oi := _) (v := ?v24) rfl (by kernel_rfl) (by kernel_rfl) (by kernel_rfl) (fun _ _ _ h => h) ?y24 (by assumption) ?r24
   case y24 => refine Or.inl ⟨by kernel_rfl, fun w hSw => ?_⟩; (try dsimp only at hSw); go_simp; (try with_reducible rfl)
   simp only [Act.put, List.setIfInBounds_toArray, List.set_cons_zero, List.set_cons_succ]
   refine wpAnyH_take (i := 10) (oi := _) (v := ?v25) rfl (by kernel_rfl) (by kernel_rfl) (by kernel_rfl) (fun _ _ _ h => h) ?y25 (by assumption) ?r25
   case y25 => refine Or.inl ⟨by kernel_rfl, fun w hSw => ?_⟩; (try dsimp only at hSw); go_simp; (try with_reducible rfl)
   simp only [Act.put, List.setIfInBounds_toArray, List.set_cons_zero, List.set_cons_succ]
   refine wpAnyH_take (i := 11) (oi := _) (v := ?v26) rfl (by kernel_rfl) (by kernel_rfl) (by kernel_rfl) (fun _ _ _ h => h) ?y26 (by assumption) ?r26
   case y26 => refine Or.inl ⟨by kernel_rfl, fun w hSw => ?_⟩; (try dsimp only at hSw); go_simp; (try with_reducible rfl)
   simp only [Act.put, List.setIfInBounds_toArray, List.set_cons_zero, List.set_cons_succ]
   refine wpAnyH_take (i := 12) (oi := _) (v := ?v27) rfl (by kernel_rfl) (by kernel_rfl) (by kernel_rfl) (fun _ _ _ h => h) ?y27 (by assumption) ?r27
   case y27 => refine Or.inl ⟨by kernel_rfl, fun w hSw => ?_⟩; (try dsimp only at hSw); go_simp; (try with_reducible rfl)
   simp only [Act.put, List.setIfInBounds_toArray, List.set_cons_zero, List.set_cons_succ]
   refine wpAnyH_ready (rs := [13]) (by kernel_rfl) (by simp) ?_
   refine AllReadyH.cons (o := _) rfl (fun K hK => ?_) AllReadyH.nil
   go_simp
   obtain ⟨wS, hwS⟩ : ∃ wS, wS = ((((w4.setCell ⟨w.heap.size, 0, none⟩ (.int .i64 3)).setCell ⟨w.heap.size, 1, none⟩ (.string ⟨#[62, 62]⟩)).setCell ⟨w.heap.size, 2, none⟩ (.int .u64 0)).setCell ⟨w.heap.size, 3, none⟩ (.int .i64 k)).drew := ⟨_, rfl⟩
   obtain ⟨s1, s2, s3⟩ := tok_store K40.out hwS
   rw [← hwS]
   clear hwS
   have s2' := s2.trans K4.out
   refine hK.out _ _ ⟨cell_of_row _ _ 0 _ _ _ s2', cell_of_row _ _ 1 _ _ _ s2', cell_of_row _ _ 2 _ _ _ s2', cell_of_row _ _ 3 _ _ _ s2'⟩ (fun hHeld => ?_)
   clear hK K
   try simp only [Act.put, List.setIfInBounds_toArray, List.set_cons_zero, List.set_cons_succ]
   refine wpAnyH_take (i := 14) (oi := ⟨some 5, _, _, _, _, _⟩) (v := ?v28) rfl (by kernel_rfl) (by kernel_rfl) (by kernel_rfl) (fun _ _ _ h => h) ?y28 (by assumption) ?r28
   case y28 => refine Or.inl ⟨by kernel_rfl, fun w hSw => ?_⟩; (try dsimp only at hSw); go_simp; (try with_reducible rfl)
   simp only [Act.put, List.setIfInBounds_toArray, List.set_cons_zero, List.set_cons_succ]
   refine wpAnyH_done (by kernel_rfl) ?_ _
   have d0 := cell_of_row _ _ 0 _ _ _ s1
   have d1 := cell_of_row _ _ 1 _ _ _ s1
   have d2 := cell_of_row _ _ 2 _ _ _ s1
   have d3 := cell_of_row _ _ 3 _ _ _ s1
   have HBS := Lib.hid (s3 w.heap.size w HB4.out (Nat.le_refl _))
   clear s1 s2 s2' s3 hHeld
   go_wp2
   exact bodyPost_ret (v := .tuple #[.agg #[.int .i64 3, .string ⟨#[62, 62]⟩, .int .u64 0, .int .i64 k], .bool false]) (by simp [results, Tryz.results86, go_sem, d0, d1, d2, d3]) rfl ⟨HBS.out, _, _, _, _, _, rfl, Or.inl ⟨HX.out, rfl⟩⟩
 ·have q1 : decide ((k : Int) + 1 < (s.size : Int)) = false := by simp; omega
  have HX : Hid (oneM s k = none) := by have := HB.out; rw [dif_neg hlt] at this; exact this
  refine wp_region_held_drew (S := (fun w' => w'.cell? ⟨w.heap.size + 1, 0, none⟩ = some (.int .i64 3) ∧ w'.cell? ⟨w.heap.size + 1, 1, none⟩ = some (.string ⟨#[62, 62]⟩) ∧ w'.cell? ⟨w.heap.size + 1, 2, none⟩ = some (.int .u64 0) ∧ w'.cell? ⟨w.heap.size + 1, 3, none⟩ = some (.int .i64 k))) (by kernel_rfl) hS.out (fun hHeld => ?_)
  refine wpAnyH_take (i := 0) (oi := _) (v := ?v29) rfl (by kernel_rfl) (by kernel_rfl) (by kernel_rfl) (fun _ _ _ h => h) ?y29 (by assumption) ?r29
  case y29 => refine Or.inl ⟨by kernel_rfl, fun w hSw => ?_⟩; (try dsimp only at hSw); go_simp; (try with_reducible rfl)
  simp only [Act.put, List.setIfInBounds_toArray, List.set_cons_zero, List.set_cons_succ]
  refine wpAnyH_take (i := 1) (oi := _) (v := ?v30) rfl (by kernel_rfl) (by kernel_rfl) (by kernel_rfl) (fun _ _ _ h => h) ?y30 (by assumption) ?r30
  case y30 => refine Or.inl ⟨by kernel_rfl, fun w hSw => ?_⟩; (try dsimp only at hSw); go_simp; (try with_reducible rfl)
  simp only [Act.put, List.setIfInBounds_toArray, List.set_cons_zero, List.set_cons_succ]
  refine wpAnyH_take (i := 2) (oi := _) (v := ?v31) rfl (by kernel_rfl) (by kernel_rfl) (by kernel_rfl) (fun _ _ _ h => h) ?y31 (by assumption) ?r31
  case y31 => refine Or.inl ⟨by kernel_rfl, fun w hSw => ?_⟩; (try dsimp only at hSw); go_simp; (try with_reducible rfl)
  simp only [Act.put, List.setIfInBounds_toArray, List.set_cons_zero, List.set_cons_succ]
  refine wpAnyH_take (i := 3) (oi := _) (v := ?v32) rfl (by kernel_rfl) (by kernel_rfl) (by kernel_rfl) (fun _ _ _ h => h) ?y32 (by assumption) ?r32
  case y32 => refine Or.inl ⟨by kernel_rfl, fun w hSw => ?_⟩; (try dsimp only at hSw); go_simp; (try with_reducible rfl)
  simp only [Act.put, List.setIfInBounds_toArray, List.set_cons_zero, List.set_cons_succ]
  refine wpAnyH_take (i := 4) (oi := _) (v := ?v33) rfl (by kernel_rfl) (by kernel_rfl) (by kernel_rfl) (fun _ _ _ h => h) ?y33 (by assumption) ?r33
  case y33 => refine Or.inl ⟨by kernel_rfl, fun w hSw => ?_⟩; (try dsimp only at hSw); go_simp; (try with_reducible rfl)
  simp only [Act.put, List.setIfInBounds_toArray, List.set_cons_zero, List.set_cons_succ]
  refine wpAnyH_take (i := 5) (oi := _) (v := ?v34) rfl (by kernel_rfl) (by kernel_rfl) (by kernel_rfl) (fun _ _ _ h => h) ?y34 (by assumption) ?r34
  case y34 => refine Or.inl ⟨by kernel_rfl, fun w hSw => ?_⟩; (try dsimp only at hSw); go_simp; (try with_reducible rfl)
  simp only [Act.put, List.setIfInBounds_toArray, List.set_cons_zero, List.set_cons_succ]
  refine wpAnyH_take (i := 6) (oi := _) (v := ?v35) rfl (by kernel_rfl) (by kernel_rfl) (by kernel_rfl) (fun _ _ _ h => h) ?y35 (by assumption) ?r35
  case y35 => refine Or.inl ⟨by kernel_rfl, fun w hSw => ?_⟩; (try dsimp only at hSw); go_simp; (try with_reducible rfl)
  simp only [Act.put, List.setIfInBounds_toArray, List.set_cons_zero, List.set_cons_succ]
  refine wpAnyH_take (i := 7) (oi := _) (v := undef) rfl (by kernel_rfl) (by kernel_rfl) (by kernel_rfl) (fun _ _ _ h => h) (Or.inr ⟨by kernel_rfl, rfl⟩) (by assumption) ?_
  simp only [Act.put, List.setIfInBounds_toArray, List.set_cons_zero, List.set_cons_succ]
  refine wpAnyH_take (i := 8) (oi := _) (v := undef) rfl (by kernel_rfl) (by kernel_rfl) (by kernel_rfl) (fun _ _ _ h => h) (Or.inr ⟨by kernel_rfl, rfl⟩) (by assumption) ?_
  simp only [Act.put, List.setIfInBounds_toArray, List.set_cons_zero, List.set_cons_succ]
  refine wpAnyH_take (i := 9) (oi := _) (v := undef) rfl (by kernel_rfl) (by kernel_rfl) (by kernel_rfl) (fun _ _ _ h => h) (Or.inr ⟨by kernel_rfl, rfl⟩) (by assumption) ?_
  simp only [Act.put, List.setIfInBounds_toArray, List.set_cons_zero, List.set_cons_succ]
  refine wpAnyH_take (i := 10) (oi := _) (v := undef) rfl (by kernel_rfl) (by kernel_rfl) (by kernel_rfl) (fun _ _ _ h => h) (Or.inr ⟨by kernel_rfl, rfl⟩) (by assumption) ?_
  simp only [Act.put, List.setIfInBounds_toArray, List.set_cons_zero, List.set_cons_succ]
  refine wpAnyH_take (i := 11) (oi := _) (v := undef) rfl (by kernel_rfl) (by kernel_rfl) (by kernel_rfl) (fun _ _ _ h => h) (Or.inr ⟨by kernel_rfl, rfl⟩) (by assumption) ?_
  simp only [Act.put, List.setIfInBounds_toArray, List.set_cons_zero, List.set_cons_succ]
  refine wpAnyH_take (i := 12) (oi := _) (v := ?v36) rfl (by kernel_rfl) (by kernel_rfl) (by kernel_rfl) (fun _ _ _ h => h) ?y36 (by assumption) ?r36
  case y36 => refine Or.inl ⟨by kernel_rfl, fun w hSw => ?_⟩; (try dsimp only at hSw); go_simp; (try with_reducible rfl)
  simp only [Act.put, List.setIfInBounds_toArray, List.set_cons_zero, List.set_cons_succ]
  refine wpAnyH_ready (rs := [13]) (by kernel_rfl) (by simp) ?_
  refine AllReadyH.cons (o := _) rfl (fun K hK => ?_) AllReadyH.nil
  go_simp
  obtain ⟨wS, hwS⟩ : ∃ wS, wS = ((((w4.setCell ⟨w.heap.size, 0, none⟩ (.int .i64 3)).setCell ⟨w.heap.size, 1, none⟩ (.string ⟨#[62, 62]⟩)).setCell ⟨w.heap.size, 2, none⟩ (.int .u64 0)).setCell ⟨w.heap.size, 3, none⟩ (.int .i64 k)).drew := ⟨_, rfl⟩
  obtain ⟨s1, s2, s3⟩ := tok_store K40.out hwS
  rw [← hwS]
  clear hwS
  have s2' := s2.trans K4.out
  refine hK.out _ _ ⟨cell_of_row _ _ 0 _ _ _ s2', cell_of_row _ _ 1 _ _ _ s2', cell_of_row _ _ 2 _ _ _ s2', cell_of_row _ _ 3 _ _ _ s2'⟩ (fun hHeld => ?_)
  clear hK K
  try simp only [Act.put, List.setIfInBounds_toArray, List.set_cons_zero, List.set_cons_succ]
  refine wpAnyH_take (i := 14) (oi := ⟨some 5, _, _, _, _, _⟩) (v := ?v37) rfl (by kernel_rfl) (by kernel_rfl) (by kernel_rfl) (fun _ _ _ h => h) ?y37 (by assumption) ?r37
  case y37 => refine Or.inl ⟨by kernel_rfl, fun w hSw => ?_⟩; (try dsimp only at hSw); go_simp; (try with_reducible rfl)
  simp only [Act.put, List.setIfInBounds_toArray, List.set_cons_zero, List.set_cons_succ]
  refine wpAnyH_done (by kernel_rfl) ?_ _
  have d0 := cell_of_row _ _ 0 _ _ _ s1
  have d1 := cell_of_row _ _ 1 _ _ _ s1
  have d2 := cell_of_row _ _ 2 _ _ _ s1
  have d3 := cell_of_row _ _ 3 _ _ _ s1
  have HBS := Lib.hid (s3 w.heap.size w HB4.out (Nat.le_refl _))
  clear s1 s2 s2' s3 hHeld
  go_wp2
  exact bodyPost_ret (v := .tuple #[.agg #[.int .i64 3, .string ⟨#[62, 62]⟩, .int .u64 0, .int .i64 k], .bool false]) (by simp [results, Tryz.results86, go_sem, d0, d1, d2, d3]) rfl ⟨HBS.out, _, _, _, _, _, rfl, Or.inl ⟨HX.out, rfl⟩⟩
theorem tok_store2 {w4 wS : World} {g : Nat} {a b c d a0 b0 c0 d0 : Value} {T : TypeId} (h0 : w4.heap[g]? = some (.cells #[a0, b0, c0, d0] T (0, 0)))
  (hS : wS = (((w4.setCell ⟨g, 0, none⟩ a).setCell ⟨g, 1, none⟩ b).setCell ⟨g, 2, none⟩ c).setCell ⟨g, 3, none⟩ d) :
  wS.heap[g]? = some (.cells #[a, b, c, d] T (0, 0)) ∧ ∀ (B : Nat) (w : World), Below B w w4 → B ≤ g → Below B w wS := by
 subst hS
 refine ⟨?_, fun B w h hB => (((h.setCell (p := ⟨g, 0, none⟩) hB _).setCell (p := ⟨g, 1, none⟩) hB _).setCell (p := ⟨g, 2, none⟩) hB _).setCell (p := ⟨g, 3, none⟩) hB _⟩
 rw [heap_setCell_same _ _ _ _ _ _ (heap_setCell_same _ _ _ _ _ _ (heap_setCell_same _ _ _ _ _ _ (heap_setCell_same _ _ _ _ _ _ h0)))]
 rfl
theorem sgn_step {sg : ByteArray} (c : UInt8) (hsg : sg.data.toList = signL) {i : Nat} (h : i < sg.size) : (signL.drop i).contains c = (((sg[i].toNat : Int) == (c.toNat : Int)) || (signL.drop (i + 1)).contains c) := by
 rw [← hsg, drop_at sg h, List.contains_cons]
 congr 1
 rw [Bool.eq_iff_iff, beq_iff_eq, beq_iff_eq, ← UInt8.toNat_inj]
 omega
set_option maxRecDepth 100000 in
set_option maxHeartbeats 8000000 in
theorem rone_sign (s : ByteArray) (k : Nat) (w : World) (hs : s.size ≤ 100000) (hk : k < s.size) (hd : digB s[k] = false) (hl : lowB s[k] = false) (h62 : (s[k].toNat : Int) ≠ 62) :
  Calls Tryz.prog 86 #[.string s, .int .i64 k] w (OneOut w s k) := by
 have q0 : ((s[k].toNat : Int) == 62) = false := by rw [beq_eq_false_iff_ne]; exact h62
 have hB : oneM s k = if signB s[k] then some (3, 1, 0) else none := by
  unfold oneM
  rw [dif_pos hk, if_neg (by rw [hd]; simp), if_neg (by rw [hl]; simp), shift_is s hk, q0]
  rfl
 have HT := Lib.hid (sign_hd s hk)
 have HD := Lib.hid (fun W => rdig_is s[k] _ hd W)
 have HL := Lib.hid (fun W => rlet_is s[k] _ hl W)
 have k4 : IntKind.i64.wrap ((k : Int) + 1) = (k : Int) + 1 := IntWalk.i64_in _ (by omega)
 have k1 : (0 : Int) ≤ (k : Int) := by omega
 have k2 : (k : Int) + 1 ≤ (s.size : Int) := by omega
 have k3 : ((k : Int) + 1).toNat = k + 1 := by omega
 obtain ⟨c, hc⟩ : ∃ c, c = s[k] := ⟨_, rfl⟩
 have HCC := Lib.hid hc
 have HB := Lib.hid hB
 clear hd hl hB h62
 go_enter Tryz.func86, Tryz.ntmps86
 go_wp2_with fail
 refine (HD.out _).mono ?_
 rintro e w1 ⟨rfl, rfl⟩
 go_wp2_with fail
 refine (HL.out _).mono ?_
 rintro e w1 ⟨rfl, rfl⟩
 go_wp2_with fail
 rw [HT.out]
 obtain ⟨w4, hw4⟩ : ∃ w4, w4 = (w.alloc tokZ).alloc (.cells #[.int .i64 3, .string ⟨#[s[k]]⟩, .int .u64 0, .int .i64 k] 155) := ⟨_, rfl⟩
 rw [← hw4]
 have j4 : w4.heap[w.heap.size + 1]? = some (.cells #[.int .i64 3, .string ⟨#[s[k]]⟩, .int .u64 0, .int .i64 k] 155 (0, 0)) := by rw [hw4]; exact (tok_two w _).2
 have j40 : w4.heap[w.heap.size]? = some tokZ := by rw [hw4]; exact (tok_two w _).1
 have HB4 := Lib.hid (show Below w.heap.size w w4 from by rw [hw4]; exact tok_below w _)
 clear hw4
 have c0 := cell_of_row w4 _ 0 _ _ _ j4
 have c1 := cell_of_row w4 _ 1 _ _ _ j4
 have c2 := cell_of_row w4 _ 2 _ _ _ j4
 have c3 := cell_of_row w4 _ 3 _ _ _ j4
 have z0 := cell_of_row w4 _ 0 _ _ _ j40
 have z1 := cell_of_row w4 _ 1 _ _ _ j40
 have z2 := cell_of_row w4 _ 2 _ _ _ j40
 have z3 := cell_of_row w4 _ 3 _ _ _ j40
 have y0 := free_row j40 0
 have y1 := free_row j40 1
 have y2 := free_row j40 2
 have y3 := free_row j40 3
 have K40 := Lib.hid j40
 clear j4 j40
 obtain ⟨sg, hsg⟩ : ∃ sg : ByteArray, sg = { data := #[43, 45, 42, 64, 60, 61, 40, 41, 91, 93, 44, 59] } := ⟨_, rfl⟩
 rw [← hsg]
 have hsz : sg.size = 12 := by rw [hsg]; rfl
 have HSG := Lib.hid (show sg.data.toList = signL from by rw [hsg]; rfl)
 clear hsg
 go_loop [12] (fun iv => ∃ i : Nat, i ≤ 12 ∧ iv = .int .i64 i ∧ signB s[k] = (signL.drop i).contains s[k]) (fun iv => 12 - (intOf iv).toNat)
 case atStart => exact ⟨0, by omega, rfl, rfl⟩
 case round =>
  obtain ⟨i, hi, rfl, hri⟩ := hrel
  by_cases hlt : i < sg.size
  ·rw [sgn_step s[k] HSG.out hlt] at hri
   cases hq : ((sg[i].toNat : Int) == (s[k].toNat : Int)) with
   | true =>
    rw [hq, Bool.true_or] at hri
    have HX := Lib.hid (show oneM s k = some (3, 1, 0) from by rw [HB.out, hri]; rfl)
    clear hri
    go_wp2
    obtain ⟨wS, hwS⟩ : ∃ wS, wS = (((w4.setCell ⟨w.heap.size, 0, none⟩ (.int .i64 3)).setCell ⟨w.heap.size, 1, none⟩ (.string ⟨#[s[k]]⟩)).setCell ⟨w.heap.size, 2, none⟩ (.int .u64 0)).setCell ⟨w.heap.size, 3, none⟩ (.int .i64 k) := ⟨_, rfl⟩
    rw [← hwS]
    obtain ⟨s1, s3⟩ := tok_store2 K40.out hwS
    clear hwS
    have d0 := cell_of_row _ _ 0 _ _ _ s1
    have d1 := cell_of_row _ _ 1 _ _ _ s1
    have d2 := cell_of_row _ _ 2 _ _ _ s1
    have d3 := cell_of_row _ _ 3 _ _ _ s1
    have HBS := Lib.hid (s3 w.heap.size w HB4.out (Nat.le_refl _))
    clear s1 s3
    exact bodyPost_ret (v := .tuple #[.agg #[.int .i64 3, .string ⟨#[s[k]]⟩, .int .u64 0, .int .i64 k], .bool true]) (by simp [results, Tryz.results86, go_sem, d0, d1, d2, d3]) rfl ⟨HBS.out, _, _, _, _, _, rfl, Or.inr ⟨_, _, _, HX.out, rfl, rfl, by rw [HT.out], rfl, rfl⟩⟩
   | false =>
    rw [hq, Bool.false_or] at hri
    have HX := Lib.hid hri
    clear hri
    go_wp2
    exact ⟨⟨i + 1, by omega, by go_num, HX.out⟩, by simp [intOf]; omega⟩
  ·obtain rfl : i = 12 := by omega
   have HX := Lib.hid (show oneM s k = none from by rw [HB.out, hri]; rfl)
   clear hri
   go_wp2
   obtain ⟨wS, hwS⟩ : ∃ wS, wS = (((w4.setCell ⟨w.heap.size, 0, none⟩ (.int .i64 3)).setCell ⟨w.heap.size, 1, none⟩ (.string ⟨#[s[k]]⟩)).setCell ⟨w.heap.size, 2, none⟩ (.int .u64 0)).setCell ⟨w.heap.size, 3, none⟩ (.int .i64 k) := ⟨_, rfl⟩
   rw [← hwS]
   obtain ⟨s1, s3⟩ := tok_store2 K40.out hwS
   clear hwS
   have d0 := cell_of_row _ _ 0 _ _ _ s1
   have d1 := cell_of_row _ _ 1 _ _ _ s1
   have d2 := cell_of_row _ _ 2 _ _ _ s1
   have d3 := cell_of_row _ _ 3 _ _ _ s1
   have HBS := Lib.hid (s3 w.heap.size w HB4.out (Nat.le_refl _))
   clear s1 s3
   exact bodyPost_ret (v := .tuple #[.agg #[.int .i64 3, .string ⟨#[s[k]]⟩, .int .u64 0, .int .i64 k], .bool false]) (by simp [results, Tryz.results86, go_sem, d0, d1, d2, d3]) rfl ⟨HBS.out, _, _, _, _, _, rfl, Or.inl ⟨HX.out, rfl⟩⟩
end Go.Proofs.YtghlnncfigkkaaaGreatDoor
