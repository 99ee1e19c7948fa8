/-
  The reference's within.
-/
import Derived.Test.YthnkeejiocnflaaGreatDoorQChkP
namespace Go.Proofs.YthnkeejiocnflaaGreatDoor
set_option linter.unusedVariables false
set_option linter.unusedSimpArgs false
open Go.RowKit
theorem bool_info : (Tryz.prog.info? 4).map (fun i => (i.zero, i.size, i.bytes)) = some (some (.bool false), 1, 1) := by kernel_rfl
theorem make_bools (n : Nat) (hn : n ≤ 1099511627776) (w : World) (e : Int) (he : e = n) :
    (Instr.makeSlice 79 (.int .i64 e) (.int .i64 e)).run Tryz.prog w = .ok (.slice (some ⟨w.heap.size, 0, none⟩) n n) (w.alloc (.cells ((List.range n).map fun _ => Value.bool false).toArray 4)) := by
  obtain ⟨i0, hi0, hz0, hz1, hz2⟩ := info_parts bool_info
  have hr := run_make (P := Tryz.prog) w 79 4 i0 (.bool false) Tryz.underlying79 hi0 hz0 .i64 .i64 e e (by omega) (by omega) (by rw [hz2]; omega) (by omega)
  rw [hr, he, hz1]
  have : (madeCells (Value.bool false).cells ((n : Int).toNat * 1)) = ((List.range n).map fun _ => Value.bool false).toArray := by
    apply Array.ext'
    rw [show (Value.bool false).cells = #[Value.bool false] from rfl, toList_madeCells_one]
    simp
    symm
    rw [List.eq_replicate_iff]
    simp
  rw [this]
  rfl
set_option maxRecDepth 100000 in
set_option maxHeartbeats 4000000 in
theorem within_any (SA EA : Option Addr) (ns sc ne ec : Nat) (es : List EI) (root : Nat) (w : World) (hne : ne = es.length) (hr : root < ne) (hn : ne ≤ 100000) (hRd : RdEI w w.heap.size EA es) (hok : exsOk 0 es = true) :
    Calls Tryz.prog 33 #[.agg #[.slice SA ns sc, .slice EA ne ec], .int .i64 root] w fun e w' => e = .returned (.slice (some ⟨w.heap.size + 1, 0, none⟩) ne ne) ∧ MkB w' 4 (w.heap.size + 1) ne (fun i => .bool (withinP es root i)) ∧ Below w.heap.size w w' := by
  obtain ⟨w2, hw2⟩ : ∃ w2, w2 = w.alloc (.cells #[.slice SA ns sc, .slice EA ne ec] 29) := ⟨_, rfl⟩
  have hb2 : Below w.heap.size w w2 := by rw [hw2]; exact (Below.refl _ _).alloc (Nat.le_refl _) _
  have hA : w2.heap[w.heap.size]? = some (.cells #[.slice SA ns sc, .slice EA ne ec] 29 (0, 0)) := by rw [hw2]; exact heap_alloc_new w _
  have hsz : w2.heap.size = w.heap.size + 1 := by rw [hw2]; simp
  have HSZ := Lib.hid hsz
  have HW2 := Lib.hid hw2
  have HB2 := Lib.hid hb2
  have HC := Lib.hid (fun W (hW : Below w2.heap.size w2 W) => cell_of_row _ _ 1 _ _ _ ((hW.block _ (Array.getElem?_eq_some_iff.1 hA).1).trans hA))
  have HNE := Lib.hid hne
  have HRD := Lib.hid (hRd.next hb2)
  have HOK := Lib.hid hok
  obtain ⟨W0, hW0⟩ : ∃ W0, W0 = w2.alloc (.cells ((List.range ne).map fun _ => Value.bool false).toArray 4) := ⟨_, rfl⟩
  have hm0 : MkB W0 4 (w.heap.size + 1) ne (fun _ => .bool false) := by rw [hW0, ← hsz]; exact heap_alloc_new w2 _
  have hb0 : Below w2.heap.size w2 W0 := by rw [hW0]; exact (Below.refl _ _).alloc (Nat.le_refl _) _
  have HM0 := Lib.hid hm0
  have HB0 := Lib.hid hb0
  have fr0 : W0.frozen? ⟨w.heap.size + 1, root, none⟩ = false := hm0.free root
  have hi0 : (0 : Int) ≤ (root : Int) := by omega
  have hi1 : (root : Int) < (ne : Int) := by omega
  have cw0 := hm0.cell (i := root) (by omega)
  have hmk : (Instr.makeSlice 79 (.int .i64 (ne : Int)) (.int .i64 (ne : Int))).run Tryz.prog (w.alloc (.cells #[.slice SA ns sc, .slice EA ne ec] 29)) = .ok (.slice (some ⟨w.heap.size + 1, 0, none⟩) ne ne) W0 := by
    rw [hW0, ← hw2, ← hsz]; exact make_bools ne (by omega) w2 (ne : Int) rfl
  have z1 := HC.out _ (Below.refl _ _)
  clear hW0 hm0 hb0 hne hRd hok hw2 hb2 hA hsz
  go_enter Tryz.func33, Tryz.ntmps33
  go_wp2
  have HM1 := Lib.hid (HM0.out.set (i := root) hr (.bool true) (fun a => .bool (a == root)) (fun a => by
    by_cases h : a = root
    · subst h; simp
    · simp [h]))
  have HB1 := Lib.hid (setCell_below (k := root) HB0.out (Nat.le_of_eq HSZ.out) (.bool true))
  clear fr0 cw0 hmk HM0 HB0 hi0 hi1 z1
  go_loopw [6] (fun iv wr => (∃ (j : Nat) (m : Nat → Bool), j ≤ root + 1 ∧ iv = .int .i64 ((j : Int) - 1) ∧ withinP es root = markP es root j m ∧ MkB wr 4 (w.heap.size + 1) ne (fun a => .bool (m a))) ∧ Below w2.heap.size w2 wr) (fun iv _ => (intOf iv + 1).toNat)
  case atStart => exact ⟨⟨root + 1, fun a => a == root, Nat.le_refl _, (by rw [show ((root + 1 : Nat) : Int) - 1 = (root : Int) by omega]), rfl, HM1.out⟩, HB1.out⟩
  case round =>
    clear HM1 HB1
    obtain ⟨⟨j, m, hj, rfl, hwm, hM⟩, hb⟩ := hrel
    have HW := Lib.hid hwm
    have HM := Lib.hid hM
    have HB := Lib.hid hb
    clear hwm hM hb
    match j, hj, HW with
    | 0, hj, HW =>
      rw [show (((0 : Nat) : Int) - 1) = -1 by omega]
      go_wp2
      go_ret
      refine ⟨rfl, ?_, HB2.out.trans (HB.out.mono HB2.out.size)⟩
      rw [HW.out]
      exact HM.out
    | i + 1, hj, HW =>
      rw [show (((i + 1 : Nat) : Int) - 1) = (i : Int) by omega]
      have ht : es[i]? = some (es[i]'(by rw [← HNE.out]; omega)) := List.getElem?_eq_getElem _
      obtain ⟨d, hd⟩ : ∃ d, d = es[i]'(by rw [← HNE.out]; omega) := ⟨_, rfl⟩
      rw [← hd] at ht
      have HT := Lib.hid ht
      obtain ⟨dk, dn, du, da, dp⟩ := d
      obtain ⟨al, hal⟩ : ∃ al, al = da.length := ⟨_, rfl⟩
      have HAL := Lib.hid hal
      have hsm := Lib.hid (fun (k : Nat) (x : Int) (hx : da[k]? = some x) => args_at HOK.out HT.out hx)
      have i0 : (0 : Int) ≤ (i : Int) := by omega
      have i1 : (i : Int) < (ne : Int) := by omega
      clear ht hd hal
      go_wp2
      go_loopw [7] (fun kv wr => (∃ k : Nat, k ≤ al ∧ kv = .int .i64 k ∧ MkB wr 4 (w.heap.size + 1) ne (fun a => .bool (mrkK m i da k a))) ∧ Below w2.heap.size w2 wr) (fun kv _ => al - (intOf kv).toNat)
      case atStart => exact ⟨⟨0, by omega, rfl, by rw [mrkK_zero]; exact HM.out⟩, HB.out⟩
      case round =>
        clear HM HB
        obtain ⟨⟨k, hk, rfl, hM⟩, hb⟩ := hrel
        have HM := Lib.hid hM
        have HB := Lib.hid hb
        have cc := HC.out _ hb
        clear hM hb
        have ci := HM.out.cell (i := i) (by omega)
        rw [mrkK_self (fun j d hd => (hsm.out j d hd).2)] at ci
        obtain ⟨b, o, rfl, hbl, c0, c1, c2, ⟨A', c', c3, c3r, c3n, -⟩, c4⟩ := (HRD.out.below HB.out).at_ HT.out
        dsimp only at c3 c3r c3n
        rw [← HAL.out] at c3 c3n
        cases hmi : m i with
        | false =>
          rw [hmi] at ci
          have HX := Lib.hid (show withinP es root = markP es root i (mrkK m i da k) from by
            rw [HW.out, markP_step HT.out]
            congr 1
            funext a
            unfold mrkK
            rw [hmi]
            simp)
          clear hk hmi c0 c1 c2 c4 c3r
          go_wp2
          exact ⟨⟨⟨i, _, by omega, rfl, HX.out, HM.out⟩, HB.out⟩, by simp [intOf]⟩
        | true =>
          rw [hmi] at ci
          have HMI := Lib.hid hmi
          by_cases hlk : k < al
          · have ht : da[k]? = some (da[k]'(by rw [← HAL.out]; exact hlk)) := List.getElem?_eq_getElem _
            obtain ⟨x, hx⟩ : ∃ d, d = da[k]'(by rw [← HAL.out]; exact hlk) := ⟨_, rfl⟩
            rw [← hx] at ht
            obtain ⟨x0, x1⟩ := hsm.out k x ht
            obtain ⟨a, rfl⟩ : ∃ a : Nat, x = (a : Int) := ⟨x.toNat, by omega⟩
            have ha : a < i := by omega
            obtain ⟨b2, o2, rfl, hbl2, d0⟩ := c3r.at_ (show (da.map VI)[k]? = some (VI (a : Int)) by rw [List.getElem?_map, ht]; rfl)
            unfold VI at d0
            have k0 : (0 : Int) ≤ (k : Int) := by omega
            have k1 : (k : Int) < (al : Int) := by omega
            have k2 : decide ((k : Int) < (al : Int)) = true := by simp; omega
            have a0 : (0 : Int) ≤ (a : Int) := by omega
            have a1 : (a : Int) < (ne : Int) := by omega
            have ca := HM.out.cell (i := a) (by omega)
            have fa := HM.out.free a
            have HST := Lib.hid (HM.out.set (i := a) (by omega) (.bool true) (fun y => .bool (mrkK m i da (k + 1) y)) (fun y => by
              rw [mrkK_step m i da ht y, HMI.out]
              split
              · simp
              · rfl))
            have HBT := Lib.hid (setCell_below (k := a) HB.out (Nat.le_of_eq HSZ.out) (.bool true))
            clear ht hx hbl2 x0 x1 hmi c0 c1 c2 c4
            go_wp2
            exact ⟨⟨⟨k + 1, by omega, rfl, HST.out⟩, HBT.out⟩, by simp [intOf]; omega⟩
          · obtain rfl : al = k := by omega
            have k2 : decide ((al : Int) < (al : Int)) = false := by simp
            have HX := Lib.hid (show withinP es root = markP es root i (mrkK m i da al) from by rw [HW.out, markP_step HT.out, HAL.out])
            clear hk hlk hmi c0 c1 c2 c4 c3r
            go_wp2
            exact ⟨⟨⟨i, _, by omega, rfl, HX.out, HM.out⟩, HB.out⟩, by simp [intOf]⟩
end Go.Proofs.YthnkeejiocnflaaGreatDoor
