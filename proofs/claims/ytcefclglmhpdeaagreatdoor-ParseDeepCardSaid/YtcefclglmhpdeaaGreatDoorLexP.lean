/-
  The walk of lex.one at a numeral that no word holds.
-/
import Derived.Test.YtcefclglmhpdeaaGreatDoorLexO
namespace Go.Proofs.YtcefclglmhpdeaaGreatDoor
set_option linter.unusedVariables false
set_option linter.unusedSimpArgs false
open Go.RowKit
set_option maxRecDepth 100000 in
set_option maxHeartbeats 8000000 in
theorem one_range (s : ByteArray) (k : Nat) (w : World) (hs : s.size ≤ 100000) (hk : k < s.size) (hd : digB s[k] = true) (hv : ¬ decV (textAt s k (spanAt digB s k)) < 18446744073709551616) (ht : ErrT w) :
    Calls Tryz.prog 25 #[.string s, .int .i64 k] w (OneOut w s k) := by
  obtain ⟨n, hn⟩ : ∃ n, n = spanAt digB s k := ⟨_, rfl⟩
  have hn1 : 1 ≤ n := by rw [hn, spanAt_yes digB s hk hd]; omega
  have hnk := spanAt_le digB s (Nat.le_of_lt hk)
  rw [← hn] at hv hnk
  have hall := spanAt_all digB s k
  rw [← hn] at hall
  have hlen := textAt_length s hnk
  have hpar : Lib.parseUintB 64 (s.extract k (k + n)).data.toList = .range := by
    rw [textAt_extract]
    exact parse_range (by intro e; rw [e] at hlen; simp at hlen; omega) hall hv
  obtain ⟨te, pe, hcell⟩ := ht
  have hlt := World.block_lt_of_cell? w _ hcell
  have hp0 := fun (W : World) (hW : Below w.heap.size w W) => Tryz.strconv_ParseUint_10_at64_range (s.extract k (k + n)) (by rw [ByteArray.size_extract]; omega) hpar (.iface te pe) W ((hW.cell (p := ⟨3, 0, none⟩) hlt).trans hcell) (.inr ⟨te, pe, rfl⟩)
  obtain ⟨M, hM⟩ : ∃ M : Int, ∀ (W : World), Below w.heap.size w W → Calls Tryz.prog 41 #[.string (s.extract k (k + n)), .int .i64 10, .int .i64 64] W fun e w' => ∃ t v, e = .returned (.tuple #[.int .u64 M, .iface t v]) ∧ Below W.heap.size W w' :=
    ⟨_, fun W hW => (hp0 W hW).mono fun e w' ⟨N, he, _, _, hb⟩ => ⟨_, _, he, hb⟩⟩
  have hp := Lib.hid hM
  have hone : oneM s k = none := by
    unfold oneM
    rw [dif_pos hk, if_pos hd, ← hn, if_neg (fun h => hv h.1)]
  have HONE := Lib.hid hone
  clear hp0 hM hcell hlt hone
  have hdig := digit_any s[k]
  rw [hd] at hdig
  have HD := Lib.hid hdig
  have HN := Lib.hid hn
  have HDG := Lib.hid hd
  have HR := Lib.hid (fun W => run_digit s k W hs (Nat.le_of_lt hk))
  clear hpar hall hlen hdig hn hd
  go_enter Tryz.func25, Tryz.ntmps25
  go_wp2_with fail
  refine (HD.out _).mono ?_
  rintro e w1 ⟨rfl, rfl⟩
  go_wp2_with fail
  refine (HR.out _).mono ?_
  rintro e w2 ⟨rfl, rfl⟩
  rw [← HN.out]
  go_wp2_with fail
  refine (hp.out _ (tok_below w _)).mono ?_
  rintro e w3 ⟨tv, xv, rfl, hb3⟩
  have k0 := (hb3.block w.heap.size (by simp; omega)).trans (tok_two w _).1
  have k1 := (hb3.block (w.heap.size + 1) (by simp)).trans (tok_two w _).2
  have HB3 := Lib.hid ((tok_below w _).trans (hb3.mono (by simp; omega)))
  clear hb3 hp
  have c0 := cell_of_row _ _ 0 _ _ _ k1
  have c1 := cell_of_row _ _ 1 _ _ _ k1
  have c2 := cell_of_row _ _ 2 _ _ _ k1
  have c3 := cell_of_row _ _ 3 _ _ _ k1
  have f0 := free_row k1 0
  have f2 := free_row k1 2
  have K0 := Lib.hid k0
  have K1 := Lib.hid k1
  clear k0 k1
  go_wp2_with fail
  obtain ⟨w4, hw4⟩ : ∃ w4, w4 = (w3.setCell ⟨w.heap.size + 1, 0, none⟩ (.int .i64 2)).setCell ⟨w.heap.size + 1, 2, none⟩ (.int .u64 M) := ⟨_, rfl⟩
  rw [← hw4]
  have k4 : w4.heap[w.heap.size + 1]? = some (.cells #[.int .i64 2, .string (s.extract k (k + n)), .int .u64 M, .int .i64 k] 65 (0, 0)) := by
    rw [hw4, heap_setCell_same _ _ _ _ _ _ (heap_setCell_same _ _ _ _ _ _ K1.out)]
    rfl
  have k40 : w4.heap[w.heap.size]? = some tokZ := by
    rw [hw4, heap_ne _ _ _ (by simp), heap_ne _ _ _ (by simp)]
    exact K0.out
  have HB4 := Lib.hid (show Below w.heap.size w w4 from by rw [hw4]; exact (HB3.out.setCell (by simp) _).setCell (by simp) _)
  clear hw4 c0 c1 c2 c3 f0 f2
  have hS := Lib.hid (And.intro (cell_of_row w4.drew _ 0 _ _ _ k4) (And.intro (cell_of_row w4.drew _ 1 _ _ _ k4) (And.intro (cell_of_row w4.drew _ 2 _ _ _ k4) (cell_of_row w4.drew _ 3 _ _ _ k4))))
  have z0 := cell_of_row w4 _ 0 _ _ _ k40
  have z1 := cell_of_row w4 _ 1 _ _ _ k40
  have z2 := cell_of_row w4 _ 2 _ _ _ k40
  have z3 := cell_of_row w4 _ 3 _ _ _ k40
  have y0 := free_row k40 0
  have y1 := free_row k40 1
  have y2 := free_row k40 2
  have y3 := free_row k40 3
  have K4 := Lib.hid k4
  have K40 := Lib.hid k40
  clear k4 k40
  refine wp_region_held_drew (S := (fun w' => w'.cell? ⟨w.heap.size + 1, 0, none⟩ = some (.int .i64 2) ∧ w'.cell? ⟨w.heap.size + 1, 1, none⟩ = some (.string (s.extract k (k + n))) ∧ w'.cell? ⟨w.heap.size + 1, 2, none⟩ = some (.int .u64 M) ∧ w'.cell? ⟨w.heap.size + 1, 3, none⟩ = some (.int .i64 k))) (by kernel_rfl) hS.out (fun hHeld => ?_)
  refine wpAnyH_take (i := 0) (oi := _) (v := ?v1) rfl (by kernel_rfl) (by kernel_rfl) (by kernel_rfl) (fun _ _ _ h => h) ?y1 (by assumption) ?r1
  case y1 => refine Or.inl ⟨by kernel_rfl, fun w hSw => ?_⟩; (try dsimp only at hSw); go_simp; (try with_reducible rfl)
  simp only [Act.put, List.setIfInBounds_toArray, List.set_cons_zero, List.set_cons_succ]
  refine wpAnyH_take (i := 1) (oi := _) (v := ?v2) rfl (by kernel_rfl) (by kernel_rfl) (by kernel_rfl) (fun _ _ _ h => h) ?y2 (by assumption) ?r2
  case y2 => refine Or.inl ⟨by kernel_rfl, fun w hSw => ?_⟩; (try dsimp only at hSw); go_simp; (try with_reducible rfl)
  simp only [Act.put, List.setIfInBounds_toArray, List.set_cons_zero, List.set_cons_succ]
  refine wpAnyH_take (i := 2) (oi := _) (v := ?v3) rfl (by kernel_rfl) (by kernel_rfl) (by kernel_rfl) (fun _ _ _ h => h) ?y3 (by assumption) ?r3
  case y3 => refine Or.inl ⟨by kernel_rfl, fun w hSw => ?_⟩; (try dsimp only at hSw); go_simp; (try with_reducible rfl)
  simp only [Act.put, List.setIfInBounds_toArray, List.set_cons_zero, List.set_cons_succ]
  refine wpAnyH_take (i := 3) (oi := _) (v := ?v4) rfl (by kernel_rfl) (by kernel_rfl) (by kernel_rfl) (fun _ _ _ h => h) ?y4 (by assumption) ?r4
  case y4 => refine Or.inl ⟨by kernel_rfl, fun w hSw => ?_⟩; (try dsimp only at hSw); go_simp; (try with_reducible rfl)
  simp only [Act.put, List.setIfInBounds_toArray, List.set_cons_zero, List.set_cons_succ]
  refine wpAnyH_take (i := 4) (oi := _) (v := undef) rfl (by kernel_rfl) (by kernel_rfl) (by kernel_rfl) (fun _ _ _ h => h) (Or.inr ⟨by kernel_rfl, rfl⟩) (by assumption) ?_
  simp only [Act.put, List.setIfInBounds_toArray, List.set_cons_zero, List.set_cons_succ]
  refine wpAnyH_take (i := 5) (oi := _) (v := undef) rfl (by kernel_rfl) (by kernel_rfl) (by kernel_rfl) (fun _ _ _ h => h) (Or.inr ⟨by kernel_rfl, rfl⟩) (by assumption) ?_
  simp only [Act.put, List.setIfInBounds_toArray, List.set_cons_zero, List.set_cons_succ]
  refine wpAnyH_take (i := 6) (oi := _) (v := undef) rfl (by kernel_rfl) (by kernel_rfl) (by kernel_rfl) (fun _ _ _ h => h) (Or.inr ⟨by kernel_rfl, rfl⟩) (by assumption) ?_
  simp only [Act.put, List.setIfInBounds_toArray, List.set_cons_zero, List.set_cons_succ]
  refine wpAnyH_take (i := 7) (oi := _) (v := undef) rfl (by kernel_rfl) (by kernel_rfl) (by kernel_rfl) (fun _ _ _ h => h) (Or.inr ⟨by kernel_rfl, rfl⟩) (by assumption) ?_
  simp only [Act.put, List.setIfInBounds_toArray, List.set_cons_zero, List.set_cons_succ]
  refine wpAnyH_take (i := 8) (oi := _) (v := undef) rfl (by kernel_rfl) (by kernel_rfl) (by kernel_rfl) (fun _ _ _ h => h) (Or.inr ⟨by kernel_rfl, rfl⟩) (by assumption) ?_
  simp only [Act.put, List.setIfInBounds_toArray, List.set_cons_zero, List.set_cons_succ]
  refine wpAnyH_take (i := 9) (oi := _) (v := undef) rfl (by kernel_rfl) (by kernel_rfl) (by kernel_rfl) (fun _ _ _ h => h) (Or.inr ⟨by kernel_rfl, rfl⟩) (by assumption) ?_
  simp only [Act.put, List.setIfInBounds_toArray, List.set_cons_zero, List.set_cons_succ]
  refine wpAnyH_take (i := 10) (oi := _) (v := undef) rfl (by kernel_rfl) (by kernel_rfl) (by kernel_rfl) (fun _ _ _ h => h) (Or.inr ⟨by kernel_rfl, rfl⟩) (by assumption) ?_
  simp only [Act.put, List.setIfInBounds_toArray, List.set_cons_zero, List.set_cons_succ]
  refine wpAnyH_take (i := 11) (oi := _) (v := undef) rfl (by kernel_rfl) (by kernel_rfl) (by kernel_rfl) (fun _ _ _ h => h) (Or.inr ⟨by kernel_rfl, rfl⟩) (by assumption) ?_
  simp only [Act.put, List.setIfInBounds_toArray, List.set_cons_zero, List.set_cons_succ]
  refine wpAnyH_take (i := 12) (oi := _) (v := ?v5) rfl (by kernel_rfl) (by kernel_rfl) (by kernel_rfl) (fun _ _ _ h => h) ?y5 (by assumption) ?r5
  case y5 => refine Or.inl ⟨by kernel_rfl, fun w hSw => ?_⟩; (try dsimp only at hSw); go_simp; (try with_reducible rfl)
  simp only [Act.put, List.setIfInBounds_toArray, List.set_cons_zero, List.set_cons_succ]
  refine wpAnyH_take (i := 13) (oi := _) (v := ?v6) rfl (by kernel_rfl) (by kernel_rfl) (by kernel_rfl) (fun _ _ _ h => h) ?y6 (by assumption) ?r6
  case y6 => refine Or.inl ⟨by kernel_rfl, fun w hSw => ?_⟩; (try dsimp only at hSw); go_simp; (try with_reducible rfl)
  simp only [Act.put, List.setIfInBounds_toArray, List.set_cons_zero, List.set_cons_succ]
  refine wpAnyH_take (i := 14) (oi := _) (v := undef) rfl (by kernel_rfl) (by kernel_rfl) (by kernel_rfl) (fun _ _ _ h => h) (Or.inr ⟨by kernel_rfl, rfl⟩) (by assumption) ?_
  simp only [Act.put, List.setIfInBounds_toArray, List.set_cons_zero, List.set_cons_succ]
  refine wpAnyH_take (i := 15) (oi := _) (v := undef) rfl (by kernel_rfl) (by kernel_rfl) (by kernel_rfl) (fun _ _ _ h => h) (Or.inr ⟨by kernel_rfl, rfl⟩) (by assumption) ?_
  simp only [Act.put, List.setIfInBounds_toArray, List.set_cons_zero, List.set_cons_succ]
  refine wpAnyH_take (i := 16) (oi := _) (v := undef) rfl (by kernel_rfl) (by kernel_rfl) (by kernel_rfl) (fun _ _ _ h => h) (Or.inr ⟨by kernel_rfl, rfl⟩) (by assumption) ?_
  simp only [Act.put, List.setIfInBounds_toArray, List.set_cons_zero, List.set_cons_succ]
  refine wpAnyH_take (i := 17) (oi := _) (v := undef) rfl (by kernel_rfl) (by kernel_rfl) (by kernel_rfl) (fun _ _ _ h => h) (Or.inr ⟨by kernel_rfl, rfl⟩) (by assumption) ?_
  simp only [Act.put, List.setIfInBounds_toArray, List.set_cons_zero, List.set_cons_succ]
  refine wpAnyH_take (i := 18) (oi := _) (v := undef) rfl (by kernel_rfl) (by kernel_rfl) (by kernel_rfl) (fun _ _ _ h => h) (Or.inr ⟨by kernel_rfl, rfl⟩) (by assumption) ?_
  simp only [Act.put, List.setIfInBounds_toArray, List.set_cons_zero, List.set_cons_succ]
  refine wpAnyH_take (i := 19) (oi := _) (v := undef) rfl (by kernel_rfl) (by kernel_rfl) (by kernel_rfl) (fun _ _ _ h => h) (Or.inr ⟨by kernel_rfl, rfl⟩) (by assumption) ?_
  simp only [Act.put, List.setIfInBounds_toArray, List.set_cons_zero, List.set_cons_succ]
  refine wpAnyH_take (i := 20) (oi := _) (v := undef) rfl (by kernel_rfl) (by kernel_rfl) (by kernel_rfl) (fun _ _ _ h => h) (Or.inr ⟨by kernel_rfl, rfl⟩) (by assumption) ?_
  simp only [Act.put, List.setIfInBounds_toArray, List.set_cons_zero, List.set_cons_succ]
  refine wpAnyH_take (i := 21) (oi := _) (v := undef) rfl (by kernel_rfl) (by kernel_rfl) (by kernel_rfl) (fun _ _ _ h => h) (Or.inr ⟨by kernel_rfl, rfl⟩) (by assumption) ?_
  simp only [Act.put, List.setIfInBounds_toArray, List.set_cons_zero, List.set_cons_succ]
  refine wpAnyH_take (i := 22) (oi := _) (v := undef) rfl (by kernel_rfl) (by kernel_rfl) (by kernel_rfl) (fun _ _ _ h => h) (Or.inr ⟨by kernel_rfl, rfl⟩) (by assumption) ?_
  simp only [Act.put, List.setIfInBounds_toArray, List.set_cons_zero, List.set_cons_succ]
  refine wpAnyH_take (i := 23) (oi := _) (v := undef) rfl (by kernel_rfl) (by kernel_rfl) (by kernel_rfl) (fun _ _ _ h => h) (Or.inr ⟨by kernel_rfl, rfl⟩) (by assumption) ?_
  simp only [Act.put, List.setIfInBounds_toArray, List.set_cons_zero, List.set_cons_succ]
  refine wpAnyH_take (i := 24) (oi := _) (v := undef) rfl (by kernel_rfl) (by kernel_rfl) (by kernel_rfl) (fun _ _ _ h => h) (Or.inr ⟨by kernel_rfl, rfl⟩) (by assumption) ?_
  simp only [Act.put, List.setIfInBounds_toArray, List.set_cons_zero, List.set_cons_succ]
  refine wpAnyH_take (i := 25) (oi := _) (v := ?v7) rfl (by kernel_rfl) (by kernel_rfl) (by kernel_rfl) (fun _ _ _ h => h) ?y7 (by assumption) ?r7
  case y7 => refine Or.inl ⟨by kernel_rfl, fun w hSw => ?_⟩; (try dsimp only at hSw); go_simp; (try with_reducible rfl)
  simp only [Act.put, List.setIfInBounds_toArray, List.set_cons_zero, List.set_cons_succ]
  refine wpAnyH_ready (rs := [26]) (by kernel_rfl) (by simp) ?_
  refine AllReadyH.cons (o := _) rfl (fun K hK => ?_) AllReadyH.nil
  go_simp
  obtain ⟨wS, hwS⟩ : ∃ wS, wS = ((((w4.setCell ⟨w.heap.size, 0, none⟩ (.int .i64 2)).setCell ⟨w.heap.size, 1, none⟩ (.string (s.extract k (k + n)))).setCell ⟨w.heap.size, 2, none⟩ (.int .u64 M)).setCell ⟨w.heap.size, 3, none⟩ (.int .i64 k)).drew := ⟨_, rfl⟩
  obtain ⟨s1, s2, s3⟩ := tok_store K40.out hwS
  rw [← hwS]
  clear hwS
  have s2' := s2.trans K4.out
  refine hK.out _ _ ⟨cell_of_row _ _ 0 _ _ _ s2', cell_of_row _ _ 1 _ _ _ s2', cell_of_row _ _ 2 _ _ _ s2', cell_of_row _ _ 3 _ _ _ s2'⟩ (fun hHeld => ?_)
  clear hK K
  try simp only [Act.put, List.setIfInBounds_toArray, List.set_cons_zero, List.set_cons_succ]
  refine wpAnyH_take (i := 27) (oi := ⟨some 5, _, _, _, _, _⟩) (v := ?v8) rfl (by kernel_rfl) (by kernel_rfl) (by kernel_rfl) (fun _ _ _ h => h) ?y8 (by assumption) ?r8
  case y8 => refine Or.inl ⟨by kernel_rfl, fun w hSw => ?_⟩; (try dsimp only at hSw); go_simp; (try with_reducible rfl)
  simp only [Act.put, List.setIfInBounds_toArray, List.set_cons_zero, List.set_cons_succ]
  refine wpAnyH_done (by kernel_rfl) ?_ _
  have d0 := cell_of_row _ _ 0 _ _ _ s1
  have d1 := cell_of_row _ _ 1 _ _ _ s1
  have d2 := cell_of_row _ _ 2 _ _ _ s1
  have d3 := cell_of_row _ _ 3 _ _ _ s1
  have HBS := Lib.hid (s3 w.heap.size w HB4.out (Nat.le_refl _))
  clear s1 s2 s2' s3 hHeld
  go_wp2
  exact bodyPost_ret (v := .tuple #[.agg #[.int .i64 2, .string (s.extract k (k + n)), .int .u64 M, .int .i64 k], .bool false]) (by simp [results, Tryz.results25, go_sem, d0, d1, d2, d3]) rfl ⟨HBS.out, _, _, _, _, _, rfl, Or.inl ⟨HONE.out, rfl⟩⟩
end Go.Proofs.YtcefclglmhpdeaaGreatDoor
