/-
  The walk of the law WireOwn.
-/
import Derived.Test.YtkhbodjgckgepaaDoorWkBehind
import Derived.Test.YtkhbodjgckgepaaDoorOwn2
import Derived.WalkLawsBesides
namespace Go.Proofs.YtkhbodjgckgepaaDoor
set_option linter.unusedVariables false
set_option linter.unusedSimpArgs false
open Go.RowKit
theorem run_min_1000 (w : World) (ts : Array TypeId) (t : TypeId) (a : Nat) : (Builtin.min_ ts t #[.int .i64 (a : Int), .int .i64 1000]).run Tryd.prog w = .ok (.int .i64 (minN a 1000 : Nat)) w := run_min_lit w ts t a 1000
attribute [local go_sem ↓] run_min_1000
theorem ownS_next {h : Nat} {d : Value} {w4 W w' : World} (bel : Below W.heap.size W w') (hs : W.cell? ⟨h, 1, none⟩ = some d ∧ Below w4.heap.size w4 W) :
    w'.cell? ⟨h, 1, none⟩ = some d ∧ Below w4.heap.size w4 w' :=
  ⟨(bel.cell (World.block_lt_of_cell? W _ hs.1)).trans hs.1, bnext hs.2 bel⟩
theorem size64 (W : World) : (sizeOf 24).run Tryd.prog W = .ok 1 W := by kernel_rfl
set_option maxRecDepth 100000 in
set_option maxHeartbeats 2000000 in
theorem WireOwn_walk (w : World) (hg : ETyped w) (x : Int) (A : Option Addr) (c : Nat) (l : List UInt64) (hx1 : -9223372036854775808 ≤ x) (hx2 : x ≤ 9223372036854775807) (hlc : l.length ≤ c) (hcm : c ≤ 17592186043904) (hA : Rd w w.heap.size A (l.map U)) :
    Calls Tryd.prog 6 #[.agg #[.int .i64 x, .slice A l.length c]] w fun e w' => e = .returned (.bool true) ∧ Below w.heap.size w w' := by
  have hbox : Below w.heap.size w (w.alloc (.cells #[.int .i64 x, .slice A l.length c] 42)) := (Below.refl _ _).alloc (Nat.le_refl _) _
  have HG := Lib.hid (hg.next hbox)
  have HA := Lib.hid (hA.next hbox)
  have HM := Lib.hid (show Msg (w.alloc (.cells #[.int .i64 x, .slice A l.length c] 42)) w.heap.size x A l.length c from heap_alloc_new w _)
  have HB := Lib.hid hbox
  obtain ⟨ws, hws⟩ : ∃ ws, ws = l.take (minN l.length 1000) := ⟨_, rfl⟩
  obtain ⟨hn0, hn1, _⟩ := minN_le l.length 1000
  have hn : minN l.length 1000 = ws.length := by rw [hws, List.length_take]; omega
  rw [hn] at hn0 hn1
  have hnc : ws.length ≤ c := by omega
  have HWS := Lib.hid hws
  have HN := Lib.hid hn
  clear hg hA hbox hws
  go_enter Tryd.func6, Tryd.ntmps6
  go_wp2_with fail
  refine (awake_true _).mono ?_
  rintro e w1 ⟨rfl, b1⟩
  have HG1 := Lib.hid (HG.out.next b1)
  have HW1 := Lib.hid (show Rd w1 w1.heap.size (cutA A 0 1 c) (ws.map U) from by
    rw [HWS.out, List.map_take]
    have h := (HA.out.next b1).cut (k := 0) (c := c) (by simpa using hlc)
    rw [List.drop_zero] at h
    exact h.take _)
  have HM1 := Lib.hid (HM.out.next b1)
  have HB1 := Lib.hid (bnext HB.out b1)
  clear b1
  have r1 := HM1.out.c1
  have hz1 := HM1.out.lt
  have ct := run_cutAt_to (P := Tryd.prog) Tryd.underlying40 size64 A (n := l.length) (c := c) (h := ws.length) hnc
  go_wp2_with (first
    | (at_builtin; (refine app64 rfl (.tmp 21) (.tmp 22) rfl w1.heap.size (some ⟨w1.heap.size, 0, none⟩) 0 [] 0 rfl rfl (Own.made _ _ (Nat.le_refl _)) (cutA A 0 1 c) ws.length c w1.heap.size ws rfl rfl (HW1.out.alloc (Nat.le_refl _) _) (rd_nil64 HW1.out) (by omega) (by simp) ?_); intro A2 k2 w2 ho2 hg2 hat; rw [List.nil_append] at ho2; have HB2 := Lib.hid (made_grown64 hg2); have HO2 := Lib.hid ho2; clear hg2 hat ho2 ct hn)
    | (at_builtin; (refine app64 rfl (.tmp 23) (.tmp 24) rfl w1.heap.size A2 k2 ws ws.length rfl rfl (HO2.out.alloc _) (some ⟨w2.heap.size, 0, none⟩) 1 1 (w2.heap.size + 1) [7] rfl rfl (one_app64 _ 7) (fun h => by cases h) (by omega) (by have := HB2.out.size; simp; omega) ?_); intro A3 k3 w3 ho3 hg3 hat; have HB3 := Lib.hid (HB2.out.trans (step_below HO2.out HB2.out.size hg3)); have HO3 := Lib.hid ho3; clear hg3 hat ho3 r1 hz1; obtain ⟨gr, rfl, hgr1, hgr2⟩ := HO3.out.some_ (by simp); have hk3 := own_capW HO3.out; rw [List.length_append] at hk3; have ct2 := run_cutAt_to (P := Tryd.prog) Tryd.underlying40 size64 (some ⟨gr, 0, none⟩) (n := ws.length + 1) (c := k3) (h := ws.length) (by have := hk3.1; simp at this; omega); rw [cutA_zero _ _ _ (.inr ⟨gr, 0, rfl⟩)] at ct2))
  have hR3 := Lib.hid (show Rd w3 w3.heap.size (some ⟨gr, 0, none⟩) (ws.map U) from by have h := HO3.out.rd.take ws.length; rw [← List.map_take, List.take_left] at h; exact h)
  refine (encode_any 1 (some ⟨gr, 0, none⟩) k3 ws w3 (by omega) (by omega) hR3.out).mono ?_
  rintro e w4 ⟨A4, k4, rfl, o4, b4⟩
  have HO4 := Lib.hid o4
  have HG4 := Lib.hid ((HG1.out.next HB3.out).next b4)
  have HR4 := Lib.hid (hR3.out.next b4)
  have HW4 := Lib.hid ((HW1.out.next HB3.out).next b4)
  have ho4' := HO3.out.next b4
  have HO34 := Lib.hid ho4'
  have HB4 := Lib.hid (bnext HB3.out b4)
  have hs34 := b4.size
  have g7 := ho4'.cellAt (i := ws.length) (v := .int .u64 7) (by simp)
  clear o4 b4 ho4' hR3
  have hel := encB_length 1 ws (by omega) (by omega)
  go_wp2_with fail
  refine (words_quiet (some ⟨gr, 0, none⟩) (cutA A 0 1 c) k3 c ws ws.length ws.length w4.heap.size w4 rfl rfl (by omega) HR4.out (HW4.out)).mono ?_
  rintro e w5 ⟨rfl, b5⟩
  have HO5 := Lib.hid (HO4.out.next b5)
  have HG5 := Lib.hid (HG4.out.next b5)
  have HW5 := Lib.hid (HW4.out.next b5)
  have HO35 := Lib.hid (HO34.out.next b5)
  have HB5 := Lib.hid (bnext HB4.out b5)
  have hs45 := b5.size
  have hgr5 : gr < w5.heap.size := by have := b5.size; have := HO34.out.lt gr rfl; omega
  clear b5 g7 HR4 HW4 HG4 ct2
  go_wp2_with (first
    | (at_builtin; (refine app8 rfl (.tmp 54) (.tmp 55) rfl w5.heap.size (some ⟨w5.heap.size, 0, none⟩) 0 [] 0 rfl rfl (Own.made _ _ (Nat.le_refl _)) A4 (encB 1 ws).length k4 w5.heap.size (encB 1 ws) rfl rfl (HO5.out.rd.alloc (Nat.le_refl _) _) (own_nil8 HO5.out) (by omega) (by simp) ?_); intro A6 k6 w6 ho6 hg6 hat; rw [List.nil_append] at ho6; have HB6 := Lib.hid (made_grown8 hg6); have HO6 := Lib.hid ho6; clear hg6 hat ho6)
    | (at_builtin; (refine app8 rfl (.tmp 56) (.tmp 57) rfl w5.heap.size A6 k6 (encB 1 ws) (encB 1 ws).length rfl rfl (HO6.out.alloc _) (some ⟨w6.heap.size, 0, none⟩) 1 1 (w6.heap.size + 1) [9] rfl rfl (one_app8 _ 9) (fun h => by cases h) (by omega) (by have := HB6.out.size; simp; omega) ?_); intro A7 k7 w7 ho7 hg7 hat; have HB7 := Lib.hid (HB6.out.trans (step_below HO6.out HB6.out.size hg7)); have HO7 := Lib.hid ho7; clear hg7 hat ho7; obtain ⟨gi, rfl, hgi1, hgi2⟩ := HO7.out.some_ (by simp); have hk7 := own_capB HO7.out; rw [List.length_append] at hk7; have ct3 := run_cutAt_to (P := Tryd.prog) Tryd.underlying22 size8 (some ⟨gi, 0, none⟩) (n := (encB 1 ws).length + 1) (c := k7) (h := (encB 1 ws).length) (by have := hk7.1; simp at this; omega); rw [cutA_zero _ _ _ (.inr ⟨gi, 0, rfl⟩)] at ct3))
  have hR7 := Lib.hid (show Rd w7 w7.heap.size (some ⟨gi, 0, none⟩) ((encB 1 ws).map V8) from by have h := HO7.out.rd.take (encB 1 ws).length; rw [← List.map_take, List.take_left] at h; exact h)
  refine (decode_good (some ⟨gi, 0, none⟩) k7 (encB 1 ws) w7 1 ws (by have := hk7.1; simp at this; omega) hk7.2 (by omega) (HG5.out.next HB7.out) hR7.out (decB_enc 1 ws (by omega) (by omega))).mono ?_
  rintro e w8 ⟨A8, k8, rfl, o8, b8⟩
  have HO8 := Lib.hid o8
  have HB8 := Lib.hid (bnext HB7.out b8)
  have HR8 := Lib.hid (hR7.out.next b8)
  have HO78 := Lib.hid (HO7.out.next b8)
  have hgi8 : gi < w8.heap.size := by have := b8.size; omega
  have hs57 := HB7.out.size
  have hs78 := b8.size
  have hx8 := Lib.hid (fun k hk => (o8.lt k hk).1)
  clear o8 b8 hR7
  go_wp2_with fail
  obtain ⟨w9, hw9⟩ : ∃ w9, w9 = w8.alloc (.cells #[.int .i64 1, .slice A8 ws.length k8] 42) := ⟨_, rfl⟩
  rw [← hw9]
  have b9 : Below w8.heap.size w8 w9 := by rw [hw9]; exact (Below.refl _ _).alloc (Nat.le_refl _) _
  have HMX := Lib.hid (show Msg w9 w8.heap.size 1 A8 ws.length k8 from by rw [hw9]; exact heap_alloc_new w8 _)
  have HB9 := Lib.hid (bnext HB8.out b9)
  have HO9 := Lib.hid (HO8.out.next b9)
  have HR9 := Lib.hid (HR8.out.next b9)
  have HO79 := Lib.hid (HO78.out.next b9)
  have hc9 := HO79.out.cellAt (i := (encB 1 ws).length) (v := .int .u8 9) (by simp)
  have HO59 := Lib.hid (HO5.out.next (HB8.out.trans (b9.mono HB8.out.size)))
  have HO39 := Lib.hid (HO35.out.next (HB8.out.trans (b9.mono HB8.out.size)))
  have HW9 := Lib.hid (HW5.out.next (HB8.out.trans (b9.mono HB8.out.size)))
  clear b9 hw9 HR8 HO8 HO7 HO78
  have hb0 := Lib.hid (show w9.drew.cell? ⟨gi, (encB 1 ws).length, none⟩ = some (.int .u8 9) ∧ Below w9.heap.size w9 w9.drew from ⟨hc9, (Below.refl _ _).drew⟩)
  have cv1 : ∀ W, Below w9.heap.size w9 W → (convert 22 9 (.slice (some ⟨gi, 0, none⟩) (encB 1 ws).length k7)).run Tryd.prog W = .ok (.string (strB (encB 1 ws))) W := fun W hW => conv_bytes _ k7 _ (encB 1 ws) _ W rfl (HR9.out.below hW)
  have cv2 : ∀ W, Below w9.heap.size w9 W → (convert 22 9 (.slice A4 (encB 1 ws).length k4)).run Tryd.prog W = .ok (.string (strB (encB 1 ws))) W := fun W hW => conv_bytes _ k4 _ (encB 1 ws) _ W rfl (HO59.out.rd.below hW)
  have hk7' : (encB 1 ws).length ≤ k7 := by have := hk7.1; simp at this; omega
  have hk7'' := hk7.2
  clear hk7
  go_region_held (fun w' => w'.cell? ⟨gi, (encB 1 ws).length, none⟩ = some (.int .u8 9) ∧ Below w9.heap.size w9 w')
    (first | with_reducible exact hb0.out)
    (fail)
  all_goals
    obtain ⟨wa, hwa⟩ : ∃ wa, wa = w9.drew := ⟨_, rfl⟩
    rw [← hwa]
    have FI := Lib.hid (show Own wa w5.heap.size 5 (some ⟨gi, 0, none⟩) k7 ((encB 1 ws ++ [9]).map V8) from by rw [hwa]; exact HO79.out.drew)
    have FR := Lib.hid (show Own wa w1.heap.size 24 (some ⟨gr, 0, none⟩) k3 ((ws ++ [7]).map U) from by rw [hwa]; exact HO39.out.drew)
    have FB := Lib.hid (show Own wa w3.heap.size 5 A4 k4 ((encB 1 ws).map V8) from by rw [hwa]; exact HO59.out.drew)
    have FX := Lib.hid (show Own wa w7.heap.size 24 A8 k8 (ws.map U) from by rw [hwa]; exact HO9.out.drew)
    have HT := Lib.hid (show Below w1.heap.size w1 wa from by rw [hwa]; exact (HB5.out.trans (HB9.out.mono HB5.out.size)).drew)
    have FW := Lib.hid (HW1.out.below HT.out)
    have FM := Lib.hid (show Msg wa w8.heap.size 1 A8 ws.length k8 from by rw [hwa]; exact HMX.out)
    have nB : ∀ k, blk A4 = some k → w3.heap.size ≤ k ∧ k < w5.heap.size := fun k hk => ⟨(FB.out.lt k hk).1, (HO5.out.lt k hk).2⟩
    have nX : ∀ k, blk A8 = some k → w7.heap.size ≤ k := fun k hk => (FX.out.lt k hk).1
    have NB := Lib.hid nB
    have NX := Lib.hid nX
    have hs8a : w8.heap.size < wa.heap.size := FM.out.lt
    have hs1a := HT.out.size
    clear nB nX hwa hb0 cv1 cv2 HMX HB9 HO9 HR9 HO79 hc9 HO59 HO39 HW9 ct3 HB8 HO34 HO35 HO4 HO5 HB3 HB2 HO2 HO3 HB4 HB6 HO6 HB7
    go_wp2
    go_loopw [89] (fun iv wr => FillRel wa gi w5.heap.size k7 ((encB 1 ws).length + 1) 5 iv wr) (fun iv _ => (encB 1 ws).length + 1 - (intOf iv).toNat)
    case atStart => exact ⟨0, _, Nat.zero_le _, rfl, by simp, FI.out, World.grownBy.refl _ _⟩
    case round =>
      obtain ⟨i, xs, hi, rfl, hxs, hown, hgb⟩ := hrel
      have HXS := Lib.hid hxs
      have HO := Lib.hid hown
      have HGB := Lib.hid hgb
      by_cases hlt : i < (encB 1 ws).length + 1
      · have hcell := hown.cellAt (i := i) (v := xs[i]'(by omega)) (List.getElem?_eq_getElem _)
        have hfree := hown.free i
        obtain ⟨vi, hvi⟩ : ∃ vi, vi = xs[i]'(by omega) := ⟨_, rfl⟩
        rw [← hvi] at hcell
        clear hxs hown hgb hvi
        go_wp2
        exact ⟨⟨i + 1, xs.set i (.int .u8 0), by omega, by go_num, by rw [List.length_set, HXS.out], HO.out.set i (by rw [HXS.out]; exact hlt) _, grownBy_set HGB.out _ _ rfl⟩, by simp [intOf]; omega⟩
      · obtain rfl : i = (encB 1 ws).length + 1 := by omega
        clear hxs hown
        obtain ⟨wc, hwc⟩ : ∃ wc, wc = wr := ⟨_, rfl⟩
        rw [← hwc] at hgb ⊢
        have FR2 := Lib.hid (FR.out.kept hgb (.inr (by simp [blk]; omega)))
        have FB2 := Lib.hid (FB.out.kept hgb (.inr (fun e => by have := NB.out gi e; omega)))
        have FX2 := Lib.hid (FX.out.kept hgb (.inr (fun e => by have := NX.out gi e; omega)))
        have FW2 := Lib.hid (FW.out.grown hgb hs1a (fun k hk => by injection hk with hk; omega))
        have FM2 := Lib.hid (show Msg wc w8.heap.size 1 A8 ws.length k8 from (hgb.block _ hs8a (fun e => by injection e with e; omega)).trans FM.out)
        have HT2 := Lib.hid (HT.out.grown hgb hs1a (fun k hk => by injection hk with hk; omega))
        have hsac := hgb.size
        clear hgb hwc HO HGB HXS
        go_wp2
        go_loopw [98] (fun iv wr => FillRel wc gr w1.heap.size k3 (ws.length + 1) 24 iv wr) (fun iv _ => ws.length + 1 - (intOf iv).toNat)
        case atStart => exact ⟨0, _, Nat.zero_le _, rfl, by simp, FR2.out, World.grownBy.refl _ _⟩
        case round =>
          obtain ⟨i, xs, hi, rfl, hxs, hown, hgb⟩ := hrel
          have HXS := Lib.hid hxs
          have HO := Lib.hid hown
          have HGB := Lib.hid hgb
          by_cases hlt : i < ws.length + 1
          · have hcell := hown.cellAt (i := i) (v := xs[i]'(by omega)) (List.getElem?_eq_getElem _)
            have hfree := hown.free i
            obtain ⟨vi, hvi⟩ : ∃ vi, vi = xs[i]'(by omega) := ⟨_, rfl⟩
            rw [← hvi] at hcell
            clear hxs hown hgb hvi
            go_wp2
            exact ⟨⟨i + 1, xs.set i (.int .u64 1), by omega, by go_num, by rw [List.length_set, HXS.out], HO.out.set i (by rw [HXS.out]; exact hlt) _, grownBy_set HGB.out _ _ rfl⟩, by simp [intOf]; omega⟩
          · obtain rfl : i = ws.length + 1 := by omega
            clear hxs hown
            obtain ⟨wd, hwd⟩ : ∃ wd, wd = wr := ⟨_, rfl⟩
            rw [← hwd] at hgb ⊢
            have FB3 := Lib.hid (FB2.out.kept hgb (.inr (fun e => by have := NB.out gr e; omega)))
            have FX3 := Lib.hid (FX2.out.kept hgb (.inr (fun e => by have := NX.out gr e; omega)))
            have FW3 := Lib.hid (FW2.out.grown hgb (by omega) (fun k hk => by injection hk with hk; omega))
            have FM3 := Lib.hid (show Msg wd w8.heap.size 1 A8 ws.length k8 from (hgb.block _ (by omega) (fun e => by injection e with e; omega)).trans FM2.out)
            have HT3 := Lib.hid (HT2.out.grown hgb (by omega) (fun k hk => by injection hk with hk; omega))
            have hscd := hgb.size
            clear hgb hwd HO HGB HXS
            have hb0 := Lib.hid (ownS_next (w4 := wd) ((Below.refl wd.heap.size wd).drew) ⟨FM3.out.c1, Below.refl _ _⟩)
            have hr := Lib.hid (fun (W : World) (h : Below wd.heap.size wd W) => rencode_any 1 (cutA A 0 1 c) c ws W (by omega) (by omega) (((FW3.out.more (by omega : w1.heap.size ≤ wd.heap.size)).below h).more h.size))
            have hq := Lib.hid (fun (W : World) (h : Below wd.heap.size wd W) => words_quiet A8 (cutA A 0 1 c) k8 c ws ws.length ws.length wd.heap.size W rfl rfl (by omega) (FX3.out.rd.below h) ((FW3.out.more (by omega : w1.heap.size ≤ wd.heap.size)).below h))
            have cv : ∀ W, Below wd.heap.size wd W → (convert 22 9 (.slice A4 (encB 1 ws).length k4)).run Tryd.prog W = .ok (.string (strB (encB 1 ws))) W := fun W hW => conv_bytes A4 k4 _ (encB 1 ws) _ W rfl (FB3.out.rd.below hW)
            go_wp2
            go_region_held (fun w' => w'.cell? ⟨w8.heap.size, 1, none⟩ = some (.slice A8 ws.length k8) ∧ Below wd.heap.size wd w')
              (first | with_reducible exact hb0.out | assumption | exact ownS_next (by assumption) (by assumption))
              (first
                | (go_at_call 21; refine (hr.out _ (And.right (by assumption))).mono ?_; rintro e w6 ⟨A6, k6, rfl, o6, b6⟩; have cv6 := conv_bytes A6 k6 _ (encB 1 ws) _ w6 rfl o6.rd; clear o6)
                | (go_at_call 19; refine (hq.out _ (And.right (by assumption))).mono ?_; rintro e w7 ⟨rfl, b7⟩))
            all_goals
              have hS : w6.cell? ⟨w8.heap.size, 1, none⟩ = some (.slice A8 ws.length k8) ∧ Below wd.heap.size wd w6 := by assumption
              have HE := Lib.hid (HB1.out.trans ((HT3.out.trans (hS.2.mono HT3.out.size)).mono HB1.out.size))
              clear hS
              go_wp2
              go_ret
              exact ⟨rfl, HE.out⟩
end Go.Proofs.YtkhbodjgckgepaaDoor
