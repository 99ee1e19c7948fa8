/-
  The reference's Tree, walked.
-/
import Derived.Test.YthnkeejiocnflaaGreatDoorQChkA
namespace Go.Proofs.YthnkeejiocnflaaGreatDoor
set_option linter.unusedVariables false
set_option linter.unusedSimpArgs false
open Go.RowKit
set_option maxRecDepth 100000 in
set_option maxHeartbeats 4000000 in
theorem rtree_any (SA EA : Option Addr) (ns ne sc ec : Nat) (ss : List SI) (es : List EI) (w : World) (hns : ns = ss.length) (hne : ne = es.length)
    (hl : ns ≤ 9223372036854775807 ∧ ne ≤ 9223372036854775807) (h1 : RdSI w w.heap.size SA ss) (h3 : RdEI w w.heap.size EA es) :
    Calls Tryz.prog 31 #[.agg #[.slice SA ns sc, .slice EA ne ec]] w fun e w' => e = .returned (.bool (treeP ss es)) ∧ Below w.heap.size w w' := by
  obtain ⟨w2, hw2⟩ : ∃ w2, w2 = w.alloc (.cells #[.slice SA ns sc, .slice EA ne ec] 29) := ⟨_, rfl⟩
  have hb2 : Below w.heap.size w w2 := by rw [hw2]; exact (Below.refl _ _).alloc (Nat.le_refl _) _
  have hA : w2.heap[w.heap.size]? = some (.cells #[.slice SA ns sc, .slice EA ne ec] 29 (0, 0)) := by
    rw [hw2]
    exact heap_alloc_new w _
  have HW2 := Lib.hid hw2
  have HB2 := Lib.hid hb2
  have HA := Lib.hid (fun W (hW : Below w2.heap.size w2 W) => (hW.block _ (Array.getElem?_eq_some_iff.1 hA).1).trans hA)
  have H1 := Lib.hid (h1.next hb2)
  have H3 := Lib.hid (h3.next hb2)
  have HNS := Lib.hid hns
  have HNE := Lib.hid hne
  obtain ⟨hl1, hl2⟩ := hl
  have z0 := cell_of_row _ _ 0 _ _ _ hA
  have z1 := cell_of_row _ _ 1 _ _ _ hA
  clear hw2 hb2 hA h1 h3 hns hne
  go_enter Tryz.func31, Tryz.ntmps31
  go_wp2
  rw [← HW2.out]
  go_wp2
  clear z0 z1
  go_loopw [11] (fun iv wr => (∃ i : Nat, i ≤ ne ∧ iv = .int .i64 i ∧ exsOk 0 es = exsOk i (es.drop i)) ∧ Below w2.heap.size w2 wr) (fun iv _ => ne - (intOf iv).toNat)
  case atStart => exact ⟨⟨0, by omega, rfl, rfl⟩, Below.refl _ _⟩
  case round =>
    obtain ⟨⟨i, hi, rfl, hr⟩, hb⟩ := hrel
    have HR := Lib.hid hr
    have HB := Lib.hid hb
    have hA := HA.out _ hb
    have z0 := cell_of_row _ _ 0 _ _ _ hA
    have z1 := cell_of_row _ _ 1 _ _ _ hA
    clear hr
    by_cases hlt : i < ne
    · have ht : es[i]? = some (es[i]'(by rw [← HNE.out]; exact hlt)) := List.getElem?_eq_getElem _
      obtain ⟨d, hd⟩ : ∃ d, d = es[i]'(by rw [← HNE.out]; exact hlt) := ⟨_, rfl⟩
      rw [← hd] at ht
      have hD := Lib.hid (exsOk_drop ht)
      obtain ⟨b, o, rfl, hbl, c0, c1, c2, ⟨A', c', c3, c3r, c3n, -⟩, c4⟩ := (H3.out.next hb).at_ ht
      have i0 : (0 : Int) ≤ (i : Int) := by omega
      have i1 : (i : Int) < (ne : Int) := by omega
      have HCR := Lib.hid c3r
      clear ht hd c3r hb hA
      go_wp2_with fail
      obtain ⟨w4, hw4⟩ : ∃ w4, w4 = wr.alloc (.cells #[.int .i64 d.kind, .string d.name, .int .u64 (d.num : Int), .slice A' d.args.length c', .int .i64 d.pos] 41) := ⟨_, rfl⟩
      rw [← hw4]
      have b4 : Below wr.heap.size wr w4 := by rw [hw4]; exact (Below.refl _ _).alloc (Nat.le_refl _) _
      have hE : w4.heap[wr.heap.size]? = some (.cells #[.int .i64 d.kind, .string d.name, .int .u64 (d.num : Int), .slice A' d.args.length c', .int .i64 d.pos] 41 (0, 0)) := by
        rw [hw4]
        exact heap_alloc_new wr _
      have e0 := cell_of_row _ _ 0 _ _ _ hE
      have e3 := cell_of_row _ _ 3 _ _ _ hE
      have HB4 := Lib.hid (bnext HB.out b4)
      have HM := Lib.hid (fun W => rmade_any d.kind W)
      have HDA := Lib.hid (HCR.out.next b4)
      obtain ⟨dk, dn, du, da, dp⟩ := d
      dsimp only at *
      obtain ⟨al, hal⟩ : ∃ al, al = da.length := ⟨_, rfl⟩
      rw [← hal] at e3 c3n ⊢
      have HAL := Lib.hid hal
      clear hw4 b4 hE c0 c1 c2 c3 c4 z0 z1 hbl hal
      obtain ⟨mp, hmp⟩ : ∃ mp, mp = madeP dk := ⟨_, rfl⟩
      rw [← hmp] at HM
      have HMP := Lib.hid hmp
      clear hmp
      by_cases hq : mp = (al : Int)
      · have q1 : (mp == (al : Int)) = true := by rw [beq_iff_eq]; exact hq
        have q2 : (mp != (al : Int)) = false := by unfold bne; rw [q1]; rfl
        clear hq
        go_quiet ((go_at_call 51; exact Calls.quiet_of_same (calls_same (HM.out _))))
        go_wp2
        go_loop [29] (fun kv => ∃ k : Nat, k ≤ al ∧ kv = .int .i64 k ∧ da.all (argOk i) = (da.drop k).all (argOk i)) (fun kv => al - (intOf kv).toNat)
        case atStart => exact ⟨0, by omega, rfl, rfl⟩
        case round =>
          obtain ⟨k, hk, rfl, hr⟩ := hrel
          have HR2 := Lib.hid hr
          clear hr
          by_cases hlk : k < al
          · have ht : da[k]? = some (da[k]'(by rw [← HAL.out]; exact hlk)) := List.getElem?_eq_getElem _
            obtain ⟨d, hd⟩ : ∃ d, d = da[k]'(by rw [← HAL.out]; exact hlk) := ⟨_, rfl⟩
            rw [← hd] at ht
            have ht2 : (da.map VI)[k]? = some (VI d) := by rw [List.getElem?_map, ht]; rfl
            obtain ⟨b, o, rfl, hbl, c0⟩ := HDA.out.at_ ht2
            have c0' : w4.cell? ⟨b, o + k, none⟩ = some (.int .i64 d) := c0
            have k0' : (0 : Int) ≤ (k : Int) := by omega
            have k1' : (k : Int) < (al : Int) := by omega
            have hD2 := Lib.hid (show (da.drop k).all (argOk i) = (argOk i d && (da.drop (k + 1)).all (argOk i)) from by
              obtain ⟨hi, he⟩ := List.getElem?_eq_some_iff.1 ht
              rw [List.drop_eq_getElem_cons hi, List.all_cons, he])
            have hF := Lib.hid (fun (h0 : argOk i d = false) => show treeP ss es = false from by
              unfold treeP
              rw [HR.out, hD.out]
              unfold exOk
              rw [HR2.out, hD2.out, h0]
              simp)
            clear ht ht2 hd c0 hbl
            by_cases h1 : d < 0
            · have q3 : decide (d < 0) = true := by simp; omega
              have HX := Lib.hid (hF.out (by unfold argOk; simp; omega))
              clear h1
              go_wp2
              go_ret
              exact ⟨by rw [HX.out]; rfl, HB2.out.trans (below_drewN (HB4.out.mono HB2.out.size) _)⟩
            · have q3 : decide (d < 0) = false := by simp; omega
              by_cases h2 : (i : Int) ≤ d
              · have q4 : decide ((i : Int) ≤ d) = true := by simp; omega
                have HX := Lib.hid (hF.out (by unfold argOk; simp; omega))
                clear h1 h2
                go_wp2
                go_ret
                exact ⟨by rw [HX.out]; rfl, HB2.out.trans (below_drewN (HB4.out.mono HB2.out.size) _)⟩
              · have q4 : decide ((i : Int) ≤ d) = false := by simp; omega
                have HO := Lib.hid (show argOk i d = true from by unfold argOk; simp; omega)
                clear h1 h2
                go_wp2
                exact ⟨⟨k + 1, by omega, rfl, by rw [HR2.out, hD2.out, HO.out]; rfl⟩, by simp [intOf]; omega⟩
          · obtain rfl : al = k := by omega
            have HX := Lib.hid (show exsOk 0 es = exsOk (i + 1) (es.drop (i + 1)) from by
              rw [HR.out, hD.out]
              unfold exOk
              rw [show ((madeP dk == ((da.length : Nat) : Int)) : Bool) = true from by rw [← HMP.out, ← HAL.out]; exact q1, HR2.out, HAL.out, List.drop_length]
              rfl)
            clear hk
            go_wp2
            exact ⟨⟨⟨i + 1, by omega, rfl, HX.out⟩, below_drewN HB4.out _⟩, by simp [intOf]; omega⟩
      · have q1 : (mp == (al : Int)) = false := by rw [beq_eq_false_iff_ne]; exact hq
        have q2 : (mp != (al : Int)) = true := by unfold bne; rw [q1]; rfl
        have HX := Lib.hid (show treeP ss es = false from by
          unfold treeP
          rw [HR.out, hD.out]
          unfold exOk
          rw [show ((madeP dk == ((da.length : Nat) : Int)) : Bool) = false from by rw [← HMP.out, ← HAL.out]; exact q1]
          simp)
        clear hq
        go_quiet ((go_at_call 51; exact Calls.quiet_of_same (calls_same (HM.out _))))
        go_wp2
        go_ret
        exact ⟨by rw [HX.out]; rfl, HB2.out.trans (below_drewN (HB4.out.mono HB2.out.size) _)⟩
    · obtain rfl : ne = i := by omega
      have HX := Lib.hid (show treeP ss es = ss.all (smOk ne) from by
        unfold treeP
        rw [HR.out, HNE.out, List.drop_length]
        rfl)
      clear hb hA
      go_wp2
      clear z0 z1
      go_loopw [52] (fun iv wr => (∃ k : Nat, k ≤ ns ∧ iv = .int .i64 k ∧ ss.all (smOk ne) = (ss.drop k).all (smOk ne)) ∧ Below w2.heap.size w2 wr) (fun iv _ => ns - (intOf iv).toNat)
      case atStart => exact ⟨⟨0, by omega, rfl, rfl⟩, HB.out⟩
      case round =>
        clear HB HR
        obtain ⟨⟨k, hk, rfl, hr⟩, hb⟩ := hrel
        have HR := Lib.hid hr
        have HB := Lib.hid hb
        have hA := HA.out _ hb
        have z0 := cell_of_row _ _ 0 _ _ _ hA
        have z1 := cell_of_row _ _ 1 _ _ _ hA
        clear hr
        by_cases hlt : k < ns
        · have ht : ss[k]? = some (ss[k]'(by rw [← HNS.out]; exact hlt)) := List.getElem?_eq_getElem _
          obtain ⟨d, hd⟩ : ∃ d, d = ss[k]'(by rw [← HNS.out]; exact hlt) := ⟨_, rfl⟩
          rw [← hd] at ht
          have hD := Lib.hid (show (ss.drop k).all (smOk ne) = (smOk ne d && (ss.drop (k + 1)).all (smOk ne)) from by
            obtain ⟨hi, he⟩ := List.getElem?_eq_some_iff.1 ht
            rw [List.drop_eq_getElem_cons hi, List.all_cons, he])
          obtain ⟨b, o, rfl, hbl, c0, c1, c2, ⟨A', c', c3, c3r, c3n, -⟩, c4, c5⟩ := (H1.out.next hb).at_ ht
          have i0 : (0 : Int) ≤ (k : Int) := by omega
          have i1 : (k : Int) < (ns : Int) := by omega
          have hws : w.heap.size < wr.heap.size := by have := (Array.getElem?_eq_some_iff.1 hA).1; omega
          obtain ⟨dk, dp, dn, dsh, de, dq⟩ := d
          dsimp only at *
          obtain ⟨sl, hsl⟩ : ∃ sl, sl = dsh.length := ⟨_, rfl⟩
          rw [← hsl] at c3
          clear ht hd c3r hb hA hbl c3n
          have HBN : ∀ o : Obj, Below w2.heap.size w2 (wr.alloc o) := fun o => bnext HB.out ((Below.refl _ _).alloc (Nat.le_refl _) o)
          have HBN := Lib.hid HBN
          have hF := Lib.hid (fun (h0 : smOk ne ⟨dk, dp, dn, dsh, de, dq⟩ = false) => show treeP ss es = false from by
            rw [HX.out, HR.out, hD.out, h0]; rfl)
          have hT := Lib.hid (fun (h0 : smOk ne ⟨dk, dp, dn, dsh, de, dq⟩ = true) => show ss.all (smOk ne) = (ss.drop (k + 1)).all (smOk ne) from by
            rw [HR.out, hD.out, h0]; rfl)
          rcases (show dk < 1 ∨ dk = 1 ∨ dk = 2 ∨ dk = 3 ∨ 3 < dk by omega) with h1 | rfl | rfl | rfl | h1
          · have q1 : decide (dk < 1) = true := by simp; omega
            have HZ := Lib.hid (hF.out (by unfold smOk; simp; omega))
            clear h1
            go_wp2
            go_ret
            exact ⟨by rw [HZ.out]; rfl, HB2.out.trans ((HBN.out _).mono HB2.out.size)⟩
          · have HZ := Lib.hid (hT.out (by unfold smOk; simp))
            go_wp2
            exact ⟨⟨⟨k + 1, by omega, rfl, HZ.out⟩, HBN.out _⟩, by simp [intOf]; omega⟩
          · by_cases h1 : de < 0
            · have q3 : decide (de < 0) = true := by simp; omega
              have HZ := Lib.hid (hF.out (by unfold smOk; simp; omega))
              clear h1
              go_wp2
              go_ret
              exact ⟨by rw [HZ.out]; rfl, HB2.out.trans ((HBN.out _).mono HB2.out.size)⟩
            · have q3 : decide (de < 0) = false := by simp; omega
              by_cases h2 : (ne : Int) ≤ de
              · have q4 : decide ((ne : Int) ≤ de) = true := by simp; omega
                have HZ := Lib.hid (hF.out (by unfold smOk; simp; omega))
                clear h1 h2
                go_wp2
                go_ret
                exact ⟨by rw [HZ.out]; rfl, HB2.out.trans ((HBN.out _).mono HB2.out.size)⟩
              · have q4 : decide ((ne : Int) ≤ de) = false := by simp; omega
                have HZ := Lib.hid (hT.out (by unfold smOk; simp; omega))
                clear h1 h2
                go_wp2
                exact ⟨⟨⟨k + 1, by omega, rfl, HZ.out⟩, HBN.out _⟩, by simp [intOf]; omega⟩
          · have HZ := Lib.hid (hT.out (by unfold smOk; simp))
            go_wp2
            exact ⟨⟨⟨k + 1, by omega, rfl, HZ.out⟩, HBN.out _⟩, by simp [intOf]; omega⟩
          · have q1 : decide (dk < 1) = false := by simp; omega
            have q2 : decide (3 < dk) = true := by simp; omega
            have HZ := Lib.hid (hF.out (by unfold smOk; simp; omega))
            clear h1
            go_wp2
            go_ret
            exact ⟨by rw [HZ.out]; rfl, HB2.out.trans ((HBN.out _).mono HB2.out.size)⟩
        · obtain rfl : ns = k := by omega
          have HZ := Lib.hid (show treeP ss es = true from by rw [HX.out, HR.out, HNS.out, List.drop_length]; rfl)
          clear hb hA
          go_wp2
          go_ret
          exact ⟨by rw [HZ.out]; rfl, HB2.out.trans (HB.out.mono HB2.out.size)⟩
end Go.Proofs.YthnkeejiocnflaaGreatDoor
