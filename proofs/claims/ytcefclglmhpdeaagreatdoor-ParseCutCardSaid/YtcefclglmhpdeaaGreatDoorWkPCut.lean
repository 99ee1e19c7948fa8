/-
  The walk of the law ParseCut.
-/
import Derived.Test.YtcefclglmhpdeaaGreatDoorPAwake
import Derived.Test.YtcefclglmhpdeaaGreatDoorCutM
import Derived.Test.YtcefclglmhpdeaaGreatDoorTokA
import Derived.Test.YtcefclglmhpdeaaGreatDoorPlaces
import Derived.Deep.DeepCutAuto
import Derived.Deep.RegionHeld3
namespace Go.Proofs.YtcefclglmhpdeaaGreatDoor
set_option linter.unusedVariables false
set_option linter.unusedSimpArgs false
open Go.RowKit
theorem RdT.take {w : World} {B : Nat} {A : Option Addr} {l r : List Tok} (h : RdT w B A (l ++ r)) : RdT w B A l := by
  rcases h with h | ⟨b, o, hA, hb, hc⟩
  · exact .inl (by simp at h; exact h.1)
  · refine .inr ⟨b, o, hA, hb, fun i j v hv hj => hc i j v ?_ hj⟩
    have e : tokFlat (l ++ r) = tokFlat l ++ tokFlat r := by unfold tokFlat; simp
    rw [e, List.getElem?_append_left (by
      by_cases hh : i * 4 + j < (tokFlat l).length
      · exact hh
      · rw [List.getElem?_eq_none (by omega)] at hv; cases hv)]
    exact hv
theorem scan_toks (s : ByteArray) (l : List Tok) (w : World) (hs : s.size ≤ 100000) (hg : ETyped w) (ht : ErrT w) (hm : scanM s = .toks l) :
    Calls Tryz.prog 11 #[.string s] w fun e w' => Below w.heap.size w w' ∧ ∃ A cap, e = .returned (.tuple #[.slice A l.length cap, .nilIface]) ∧ OwnT w' w.heap.size A cap l := by
  refine (scan_any s w hs hg ht).mono ?_
  rintro e w' ⟨hb, h⟩
  rw [hm] at h
  rcases h with ⟨l', A, cap, he, h1, h2⟩ | ⟨c, p, v, he, _⟩
  · injection he with he
    subst he
    exact ⟨hb, A, cap, h1, h2⟩
  · cases he
/-- What the region leaves: the list without its last token but one. -/
def PCut (w2 : World) (k : Nat) (l2 : List Tok) (v : Value) (wx : World) : Prop := ∃ A' cap', v = .slice A' (k + 1) cap' ∧ OwnT wx w2.heap.size A' cap' l2 ∧ Below w2.heap.size w2 wx
theorem blk_on {w w' : World} {g : Nat} {o : Obj} (h : w.heap[g]? = some o) (hb : Below w.heap.size w w') : w'.heap[g]? = some o := (hb.block g (Array.getElem?_eq_some_iff.1 h).1).trans h
theorem tok_in {w2 wx w' : World} {A : Option Addr} {cap : Nat} {l : List Tok} (hb : Below w2.heap.size w2 wx) (ho : OwnT wx w2.heap.size A cap l) (hg : wx.grownBy w' (blk A)) : Below w2.heap.size w2 w' := hb.grown hg hb.size (fun k hk => (ho.lt k hk).1)
set_option maxRecDepth 100000 in
set_option maxHeartbeats 4000000 in
theorem ParseCut_walk (w : World) (hg : ETyped w) (ht : ErrT w) (s : ByteArray) (hsz : s.size ≤ maxLen) :
    Calls Tryz.prog 8 #[.string s] w fun e w' => e = .returned (.bool true) ∧ Below w.heap.size w w' := by
  obtain ⟨T, hT⟩ : ∃ T, T = s.extract 0 (minN s.size 4200) := ⟨_, rfl⟩
  have hTs : T.size ≤ 4200 := by
    have := (minN_le s.size 4200).2.1
    rw [hT, ByteArray.size_extract]
    omega
  have hcut := cut_any s hsz
  rw [← hT] at hcut
  have HCUT := Lib.hid hcut
  have HTY := Lib.hid ht
  have HG := Lib.hid hg
  clear hT hg ht hcut
  go_enter Tryz.func8, Tryz.ntmps8
  go_wp2_with fail
  refine (pawake_true _ HG.out HTY.out).mono ?_
  rintro e w1 ⟨rfl, b1⟩
  have HG1 := Lib.hid (HG.out.next b1)
  have HT1 := Lib.hid (HTY.out.next b1)
  have HB1 := Lib.hid b1
  clear b1
  go_wp2_with fail
  refine (HCUT.out w1).mono ?_
  rintro e wx ⟨rfl, rfl⟩
  go_wp2_with fail
  refine (text_any T 6500 w1 (by omega) HG1.out HT1.out (fun l hl => by have := (scanM_len hl).1; omega)).mono ?_
  rintro e w2 ⟨b2, h⟩
  rcases h with ⟨l, hR, hok, SA, sc, EA, ec, rfl, oS, oE⟩ | ⟨l, c, p, v, hR, hbad, rfl, he⟩ | ⟨c, p, v, hR, rfl, he⟩
  · obtain ⟨ns, hns⟩ : ∃ ns, ns = (parseP 6500 l).ss.length := ⟨_, rfl⟩
    obtain ⟨ne, hne⟩ : ∃ ne, ne = (parseP 6500 l).es.length := ⟨_, rfl⟩
    rw [← hns, ← hne]
    obtain ⟨w3, hw3⟩ : ∃ w3, w3 = w2.alloc (.cells #[.slice SA ns sc, .slice EA ne ec] 26) := ⟨_, rfl⟩
    have b3 : Below w2.heap.size w2 w3 := by rw [hw3]; exact (Below.refl _ _).alloc (Nat.le_refl _) _
    have ht3 : w3.heap[w2.heap.size]? = some (.cells #[.slice SA ns sc, .slice EA ne ec] 26 (0, 0)) := by rw [hw3]; exact heap_alloc_new w2 _
    have hs3 : w3.heap.size = w2.heap.size + 1 := by rw [hw3]; simp
    have HB3 := Lib.hid (HB1.out.trans ((b2.mono HB1.out.size).trans (b3.mono (by have := HB1.out.size; have := b2.size; omega))))
    have HG3 := Lib.hid ((HG1.out.next b2).next b3)
    have HT3 := Lib.hid ((HT1.out.next b2).next b3)
    have HW3 := Lib.hid hw3
    have z0 := cell_of_row w3 _ 0 _ _ _ ht3
    have z0' : (w2.alloc (.cells #[.slice SA ns sc, .slice EA ne ec] 26)).cell? ⟨w2.heap.size, 0, none⟩ = some (.slice SA ns sc) := by rw [← HW3.out]; exact z0
    have HR := Lib.hid hR
    have HOK := Lib.hid hok
    have HNS := Lib.hid hns
    clear hw3 b3 ht3 b2 hR hok oS oE hns hne z0
    by_cases hn0 : ns = 0
    · have q : ((ns : Int) == 0) = true := by rw [beq_iff_eq]; omega
      clear hn0
      go_wp2
      go_ret
      rw [← HW3.out]
      exact ⟨rfl, HB3.out⟩
    · have q : ((ns : Int) == 0) = false := by rw [beq_eq_false_iff_ne]; omega
      obtain ⟨r, hr, htk, hrl, _⟩ := scanM_iff HR.out
      have hok2 := HOK.out
      have hns2 := HNS.out
      rw [hr] at hok2 hns2
      have hr2 := ok_len (z := endTok T) rfl 6500 hok2 (by omega)
      -- the last token but one
      obtain ⟨r0, t, hrt⟩ : ∃ r0 t, r = r0 ++ [t] := ⟨r.dropLast, r.getLast (by intro e; subst e; simp at hr2), (List.dropLast_concat_getLast _).symm⟩
      obtain ⟨k, hk⟩ : ∃ k, k = r0.length := ⟨_, rfl⟩
      have hk1 : 1 ≤ k := by rw [hrt] at hr2; simp at hr2; omega
      have hk2 : k ≤ 511 := by rw [hrt] at hrl; simp at hrl; omega
      obtain ⟨N, hN⟩ : ∃ N, N = l.length := ⟨_, rfl⟩
      have hNk : N = k + 2 := by rw [hN, hr, hrt]; simp; omega
      have hbad : (parseP 6500 (r0 ++ [endTok T])).err = some (130, T.size) := by
        rw [hrt] at hok2
        exact cut_law (t := t) (z := endTok T) (by rw [← hrt]; exact toks_kind htk) rfl 6500 (by omega) hok2
      have HBAD := Lib.hid hbad
      have HL := Lib.hid (show l = r0 ++ [t] ++ [endTok T] from by rw [hr, hrt])
      have HK := Lib.hid hk
      have HNL := Lib.hid hN
      have HNK := Lib.hid hNk
      have HSC := Lib.hid (fun W hW => scan_toks T l W (by omega) (HG3.out.next (w' := W) hW) (HT3.out.next hW) HR.out)
      clear hr htk hrl hok2 hns2 hr2 hrt hk hN hbad hn0
      go_wp2_with fail
      rw [← HW3.out]
      clear z0'
      refine (HCUT.out w3).mono ?_
      rintro e wx ⟨rfl, rfl⟩
      go_wp2_with fail
      refine (HSC.out w3 (Below.refl _ _)).mono ?_
      rintro e w4 ⟨b4, A, cap, rfl, o4⟩
      have hlast : l[k + 1]? = some (endTok T) := by rw [HL.out, HK.out, List.getElem?_append_right (by simp)]; simp
      obtain ⟨b, o, rfl, hbl, c0, c1, c2, c3⟩ := o4.rd.tok hlast
      have f0 : w4.cell? ⟨b, o + (k + 1) * 4, none⟩ = some (.int .i64 0) := c0
      have f1 : w4.cell? ⟨b, o + (k + 1) * 4 + 1, none⟩ = some (.string ⟨#[]⟩) := c1
      have f2 : w4.cell? ⟨b, o + (k + 1) * 4 + 2, none⟩ = some (.int .u64 0) := c2
      have f3 : w4.cell? ⟨b, o + (k + 1) * 4 + 3, none⟩ = some (.int .i64 T.size) := c3
      have hr0 : RdT w4 w4.heap.size (some ⟨b, o, none⟩) r0 := by
        have h := o4.rd
        rw [HL.out] at h
        exact h.take.take
      have hcap : k ≤ cap := by
        rcases o4.form with ⟨h, _⟩ | ⟨g, cur, h1, h2, h3, h4, _⟩
        · cases h
        · have := HNL.out; have := HNK.out; omega
      rw [← HNL.out]
      have HR0 := Lib.hid hr0
      have HB4 := Lib.hid (HB3.out.trans (b4.mono HB3.out.size))
      have HG4 := Lib.hid (HG3.out.next b4)
      have hS := Lib.hid (show w4.drew.cell? ⟨b, o + (k + 1) * 4, none⟩ = some (.int .i64 0) ∧ w4.drew.cell? ⟨b, o + (k + 1) * 4 + 1, none⟩ = some (.string ⟨#[]⟩) ∧ w4.drew.cell? ⟨b, o + (k + 1) * 4 + 2, none⟩ = some (.int .u64 0) ∧ w4.drew.cell? ⟨b, o + (k + 1) * 4 + 3, none⟩ = some (.int .i64 T.size) from ⟨f0, f1, f2, f3⟩)
      have HBL := Lib.hid hbl
      have hSx := Lib.hid (fun (W : World) (hW : Below w4.heap.size w4 W) => (show W.cell? ⟨b, o + (k + 1) * 4, none⟩ = some (.int .i64 0) ∧ W.cell? ⟨b, o + (k + 1) * 4 + 1, none⟩ = some (.string ⟨#[]⟩) ∧ W.cell? ⟨b, o + (k + 1) * 4 + 2, none⟩ = some (.int .u64 0) ∧ W.cell? ⟨b, o + (k + 1) * 4 + 3, none⟩ = some (.int .i64 T.size) from ⟨(hW.cell (p := ⟨b, o + (k + 1) * 4, none⟩) hbl).trans f0, (hW.cell (p := ⟨b, o + (k + 1) * 4 + 1, none⟩) hbl).trans f1, (hW.cell (p := ⟨b, o + (k + 1) * 4 + 2, none⟩) hbl).trans f2, (hW.cell (p := ⟨b, o + (k + 1) * 4 + 3, none⟩) hbl).trans f3⟩))
      have ct := fun W => run_cutAt_to (P := Tryz.prog) Tryz.underlying31 (size := 4) (fun W => by kernel_rfl) (some ⟨b, o, none⟩) (n := N) hcap W
      rw [cutA_zero _ _ _ (.inr ⟨_, _, rfl⟩)] at ct
      have n0 : decide ((N : Int) < 2) = false := by simp; omega
      have n1 : (N : Int) - 2 = (k : Int) := by omega
      have n2 : (N : Int) - 1 = ((k + 1 : Nat) : Int) := by omega
      have n3 : IntKind.i64.wrap (k : Int) = (k : Int) := IntWalk.i64_in _ (by omega)
      have n4 : IntKind.i64.wrap ((k : Int) + 1) = (k : Int) + 1 := IntWalk.i64_in _ (by omega)
      have n5 : (0 : Int) ≤ (k : Int) + 1 := by omega
      have n6 : (k : Int) + 1 < (N : Int) := by omega
      have n7 : ((k : Int) + 1).toNat = k + 1 := by omega
      clear c0 c1 c2 c3 o4 hlast hr0 hbl b4 f0 f1 f2 f3 hNk
      go_upto_region 9 with (fail)
      go_cut [5] (fun v wx => PCut w4 k (r0 ++ [endTok T]) v wx)
      case first =>
        refine wp_region_held_drew (S := (fun w' => w'.cell? ⟨b, o + (k + 1) * 4, none⟩ = some (.int .i64 0) ∧ w'.cell? ⟨b, o + (k + 1) * 4 + 1, none⟩ = some (.string ⟨#[]⟩) ∧ w'.cell? ⟨b, o + (k + 1) * 4 + 2, none⟩ = some (.int .u64 0) ∧ w'.cell? ⟨b, o + (k + 1) * 4 + 3, none⟩ = some (.int .i64 T.size))) (by kernel_rfl) hS.out (fun hHeld => ?_)
        refine wpAnyH_take (i := 1) (oi := _) (v := ?v1) rfl (by kernel_rfl) (by kernel_rfl) (by kernel_rfl) (fun _ _ _ h => h) ?y1 (by assumption) ?r1
        case y1 => refine Or.inl ⟨by kernel_rfl, fun w hSw => ?_⟩; (try dsimp only at hSw); go_simp; (try with_reducible rfl)
        simp only [Act.put, List.setIfInBounds_toArray, List.set_cons_zero, List.set_cons_succ]
        refine wpAnyH_take (i := 2) (oi := _) (v := ?v2) rfl (by kernel_rfl) (by kernel_rfl) (by kernel_rfl) (fun _ _ _ h => h) ?y2 (by assumption) ?r2
        case y2 => refine Or.inl ⟨by kernel_rfl, fun w hSw => ?_⟩; (try dsimp only at hSw); go_simp; (try with_reducible rfl)
        simp only [Act.put, List.setIfInBounds_toArray, List.set_cons_zero, List.set_cons_succ]
        refine wpAnyH_take (i := 3) (oi := _) (v := ?v3) rfl (by kernel_rfl) (by kernel_rfl) (by kernel_rfl) (fun _ _ _ h => h) ?y3 (by assumption) ?r3
        case y3 => refine Or.inl ⟨by kernel_rfl, fun w hSw => ?_⟩; (try dsimp only at hSw); go_simp; (try with_reducible rfl)
        simp only [Act.put, List.setIfInBounds_toArray, List.set_cons_zero, List.set_cons_succ]
        refine wpAnyH_take (i := 4) (oi := _) (v := ?v4) rfl (by kernel_rfl) (by kernel_rfl) (by kernel_rfl) (fun _ _ _ h => h) ?y4 (by assumption) ?r4
        case y4 => refine Or.inl ⟨by kernel_rfl, fun w hSw => ?_⟩; (try dsimp only at hSw); go_simp; (try with_reducible rfl)
        simp only [Act.put, List.setIfInBounds_toArray, List.set_cons_zero, List.set_cons_succ]
        refine wpAnyH_take (i := 5) (oi := _) (v := ?v5) rfl (by kernel_rfl) (by kernel_rfl) (by kernel_rfl) (fun _ _ _ h => h) ?y5 (by assumption) ?r5
        case y5 => refine Or.inl ⟨by kernel_rfl, fun w hSw => ?_⟩; (try dsimp only at hSw); go_simp; (try with_reducible rfl)
        simp only [Act.put, List.setIfInBounds_toArray, List.set_cons_zero, List.set_cons_succ]
        refine wpAnyH_take (i := 7) (oi := _) (v := ?v6) rfl (by kernel_rfl) (by kernel_rfl) (by kernel_rfl) (fun _ _ _ h => h) ?y6 (by assumption) ?r6
        case y6 => refine Or.inl ⟨by kernel_rfl, fun w hSw => ?_⟩; (try dsimp only at hSw); go_simp; (try with_reducible rfl)
        simp only [Act.put, List.setIfInBounds_toArray, List.set_cons_zero, List.set_cons_succ]
        refine wpAnyH_take (i := 8) (oi := _) (v := ?v7) rfl (by kernel_rfl) (by kernel_rfl) (by kernel_rfl) (fun _ _ _ h => h) ?y7 (by assumption) ?r7
        case y7 => refine Or.inl ⟨by kernel_rfl, fun w hSw => ?_⟩; (try dsimp only at hSw); go_simp; (try with_reducible rfl)
        simp only [Act.put, List.setIfInBounds_toArray, List.set_cons_zero, List.set_cons_succ]
        refine wpAnyH_take (i := 9) (oi := _) (v := ?v8) rfl (by kernel_rfl) (by kernel_rfl) (by kernel_rfl) (fun _ _ _ h => h) ?y8 (by assumption) ?r8
        case y8 => refine Or.inl ⟨by kernel_rfl, fun w hSw => ?_⟩; (try dsimp only at hSw); go_simp; (try with_reducible rfl)
        simp only [Act.put, List.setIfInBounds_toArray, List.set_cons_zero, List.set_cons_succ]
        refine wpAnyH_take (i := 10) (oi := _) (v := ?v9) rfl (by kernel_rfl) (by kernel_rfl) (by kernel_rfl) (fun _ _ _ h => h) ?y9 (by assumption) ?r9
        case y9 => refine Or.inl ⟨by kernel_rfl, fun w hSw => ?_⟩; (try dsimp only at hSw); go_simp; (try with_reducible rfl)
        simp only [Act.put, List.setIfInBounds_toArray, List.set_cons_zero, List.set_cons_succ]
        refine wpAnyH_take (i := 11) (oi := _) (v := ?v10) rfl (by kernel_rfl) (by kernel_rfl) (by kernel_rfl) (fun _ _ _ h => h) ?y10 (by assumption) ?r10
        case y10 => refine Or.inl ⟨by kernel_rfl, fun w hSw => ?_⟩; (try dsimp only at hSw); go_simp; (try with_reducible rfl)
        simp only [Act.put, List.setIfInBounds_toArray, List.set_cons_zero, List.set_cons_succ]
        refine wpAnyH_take (i := 12) (oi := _) (v := ?v11) rfl (by kernel_rfl) (by kernel_rfl) (by kernel_rfl) (fun _ _ _ h => h) ?y11 (by assumption) ?r11
        case y11 => refine Or.inl ⟨by kernel_rfl, fun w hSw => ?_⟩; (try dsimp only at hSw); go_simp; (try with_reducible rfl)
        simp only [Act.put, List.setIfInBounds_toArray, List.set_cons_zero, List.set_cons_succ]
        refine wpAnyH_ready (rs := [0, 13]) (by kernel_rfl) (by simp) ?_
        refine AllReadyH.cons (o := ⟨some 36, _, _, _, _, _⟩) rfl (fun K hK => ?pa) (AllReadyH.cons (o := ⟨some 49, _, _, _, _, _⟩) rfl (fun K hK => ?pb) AllReadyH.nil)
        case pa =>
          go_simp
          obtain ⟨wE, hwE⟩ : ∃ wE, wE = (w4.alloc (.cells #[] 65)).drew := ⟨_, rfl⟩
          rw [← hwE]
          have lwE : Below w4.heap.size w4 wE := by rw [hwE]; exact ((Below.refl _ _).alloc (Nat.le_refl _) _).drew
          have rwE : wE.heap[w4.heap.size]? = some (.cells #[] 65 (0, 0)) := by rw [hwE]; exact heap_alloc_new w4 _
          have bwE : Below w4.heap.size w4 wE := lwE
          clear hwE
          refine hK.out _ _ (hSx.out wE bwE) (fun hHeld => ?_)
          clear hK K
          try simp only [Act.put, List.setIfInBounds_toArray, List.set_cons_zero, List.set_cons_succ]
          refine wpAnyH_ready (rs := [6, 13]) (by kernel_rfl) (by simp) ?_
          refine AllReadyH.cons (o := ⟨some 42, _, _, _, _, _⟩) rfl (fun K hK => ?qa) (AllReadyH.cons (o := ⟨some 49, _, _, _, _, _⟩) rfl (fun K hK => ?qb) AllReadyH.nil)
          case qa =>
            refine appT0_step rfl (.tmp 36) (.tmp 41) rfl w4.heap.size ⟨w4.heap.size, 0, none⟩ rfl (some ⟨b, o, none⟩) k cap w4.heap.size r0 HK.out.symm hk1 rfl (HR0.out.below bwE) (by omega) bwE.size ?_
            intro A1 k1 w5 ho1 hb1
            have b5 : Below w4.heap.size w4 w5 := bwE.trans (hb1.mono bwE.size)
            refine hK.out _ _ (hSx.out w5 b5) (fun hHeld => ?_)
            clear hK K
            try simp only [Act.put, List.setIfInBounds_toArray, List.set_cons_zero, List.set_cons_succ]
            refine wpAnyH_ready (rs := [13]) (by kernel_rfl) (by simp) ?_
            refine AllReadyH.cons (o := ⟨some 49, _, _, _, _, _⟩) rfl (fun K hK => ?_) AllReadyH.nil
            go_simp
            obtain ⟨wT, hwT⟩ : ∃ wT, wT = (w5.alloc (.cells #[.int .i64 0, .string ⟨#[]⟩, .int .u64 0, .int .i64 T.size] 65)) := ⟨_, rfl⟩
            rw [← hwT]
            have lwT : Below w5.heap.size w5 wT := by rw [hwT]; exact ((Below.refl _ _).alloc (Nat.le_refl _) _)
            have rwT : wT.heap[w5.heap.size]? = some (.cells #[.int .i64 0, .string ⟨#[]⟩, .int .u64 0, .int .i64 T.size] 65 (0, 0)) := by rw [hwT]; exact heap_alloc_new w5 _
            have bwT : Below w4.heap.size w4 wT := b5.trans (lwT.mono b5.size)
            clear hwT
            refine hK.out _ _ (hSx.out wT bwT) (fun hHeld => ?_)
            clear hK K
            try simp only [Act.put, List.setIfInBounds_toArray, List.set_cons_zero, List.set_cons_succ]
            refine wpAnyH_ready (rs := [14]) (by kernel_rfl) (by simp) ?_
            refine AllReadyH.cons (o := ⟨some 50, _, _, _, _, _⟩) rfl (fun K hK => ?_) AllReadyH.nil
            refine appTok_step rfl (.tmp 42) (.tmp 49) rfl w4.heap.size A1 k1 r0 k HK.out.symm rfl (ho1.next lwT) w5.heap.size rfl (endTok T) (rwT) (by omega) bwT.size ?_
            intro A2 k2 w6 ho2 hg2
            have b6 := tok_in bwT (ho1.next lwT) hg2
            refine hK.out _ _ (hSx.out w6 b6) (fun hHeld => ?_)
            clear hK K
            try simp only [Act.put, List.setIfInBounds_toArray, List.set_cons_zero, List.set_cons_succ]
            refine wpAnyH_take (i := 15) (oi := ⟨some 5, _, _, _, _, _⟩) (v := ?v12) rfl (by kernel_rfl) (by kernel_rfl) (by kernel_rfl) (fun _ _ _ h => h) ?y12 (by assumption) ?r12
            case y12 => refine Or.inl ⟨by kernel_rfl, fun w hSw => ?_⟩; (try dsimp only at hSw); go_simp; (try with_reducible rfl)
            simp only [Act.put, List.setIfInBounds_toArray, List.set_cons_zero, List.set_cons_succ]
            refine wpAnyH_done (by kernel_rfl) ?_ _
            go_wp2_with fail
            go_meet
            exact ⟨A2, k2, rfl, ho2, b6⟩
          case qb =>
            go_simp
            obtain ⟨wT, hwT⟩ : ∃ wT, wT = (wE.alloc (.cells #[.int .i64 0, .string ⟨#[]⟩, .int .u64 0, .int .i64 T.size] 65)) := ⟨_, rfl⟩
            rw [← hwT]
            have lwT : Below wE.heap.size wE wT := by rw [hwT]; exact ((Below.refl _ _).alloc (Nat.le_refl _) _)
            have rwT : wT.heap[wE.heap.size]? = some (.cells #[.int .i64 0, .string ⟨#[]⟩, .int .u64 0, .int .i64 T.size] 65 (0, 0)) := by rw [hwT]; exact heap_alloc_new wE _
            have bwT : Below w4.heap.size w4 wT := bwE.trans (lwT.mono bwE.size)
            clear hwT
            refine hK.out _ _ (hSx.out wT bwT) (fun hHeld => ?_)
            clear hK K
            try simp only [Act.put, List.setIfInBounds_toArray, List.set_cons_zero, List.set_cons_succ]
            refine wpAnyH_ready (rs := [6]) (by kernel_rfl) (by simp) ?_
            refine AllReadyH.cons (o := ⟨some 42, _, _, _, _, _⟩) rfl (fun K hK => ?_) AllReadyH.nil
            refine appT0_step rfl (.tmp 36) (.tmp 41) rfl w4.heap.size ⟨w4.heap.size, 0, none⟩ rfl (some ⟨b, o, none⟩) k cap w4.heap.size r0 HK.out.symm hk1 rfl (HR0.out.below bwT) (by omega) bwT.size ?_
            intro A1 k1 w5 ho1 hb1
            have b5 : Below w4.heap.size w4 w5 := bwT.trans (hb1.mono bwT.size)
            refine hK.out _ _ (hSx.out w5 b5) (fun hHeld => ?_)
            clear hK K
            try simp only [Act.put, List.setIfInBounds_toArray, List.set_cons_zero, List.set_cons_succ]
            refine wpAnyH_ready (rs := [14]) (by kernel_rfl) (by simp) ?_
            refine AllReadyH.cons (o := ⟨some 50, _, _, _, _, _⟩) rfl (fun K hK => ?_) AllReadyH.nil
            refine appTok_step rfl (.tmp 42) (.tmp 49) rfl w4.heap.size A1 k1 r0 k HK.out.symm rfl (ho1) wE.heap.size rfl (endTok T) (blk_on rwT hb1) (by omega) b5.size ?_
            intro A2 k2 w6 ho2 hg2
            have b6 := tok_in b5 (ho1) hg2
            refine hK.out _ _ (hSx.out w6 b6) (fun hHeld => ?_)
            clear hK K
            try simp only [Act.put, List.setIfInBounds_toArray, List.set_cons_zero, List.set_cons_succ]
            refine wpAnyH_take (i := 15) (oi := ⟨some 5, _, _, _, _, _⟩) (v := ?v13) rfl (by kernel_rfl) (by kernel_rfl) (by kernel_rfl) (fun _ _ _ h => h) ?y13 (by assumption) ?r13
            case y13 => refine Or.inl ⟨by kernel_rfl, fun w hSw => ?_⟩; (try dsimp only at hSw); go_simp; (try with_reducible rfl)
            simp only [Act.put, List.setIfInBounds_toArray, List.set_cons_zero, List.set_cons_succ]
            refine wpAnyH_done (by kernel_rfl) ?_ _
            go_wp2_with fail
            go_meet
            exact ⟨A2, k2, rfl, ho2, b6⟩
        case pb =>
          go_simp
          obtain ⟨wT, hwT⟩ : ∃ wT, wT = (w4.alloc (.cells #[.int .i64 0, .string ⟨#[]⟩, .int .u64 0, .int .i64 T.size] 65)).drew := ⟨_, rfl⟩
          rw [← hwT]
          have lwT : Below w4.heap.size w4 wT := by rw [hwT]; exact ((Below.refl _ _).alloc (Nat.le_refl _) _).drew
          have rwT : wT.heap[w4.heap.size]? = some (.cells #[.int .i64 0, .string ⟨#[]⟩, .int .u64 0, .int .i64 T.size] 65 (0, 0)) := by rw [hwT]; exact heap_alloc_new w4 _
          have bwT : Below w4.heap.size w4 wT := lwT
          clear hwT
          refine hK.out _ _ (hSx.out wT bwT) (fun hHeld => ?_)
          clear hK K
          try simp only [Act.put, List.setIfInBounds_toArray, List.set_cons_zero, List.set_cons_succ]
          refine wpAnyH_ready (rs := [0]) (by kernel_rfl) (by simp) ?_
          refine AllReadyH.cons (o := ⟨some 36, _, _, _, _, _⟩) rfl (fun K hK => ?_) AllReadyH.nil
          go_simp
          obtain ⟨wE, hwE⟩ : ∃ wE, wE = (wT.alloc (.cells #[] 65)) := ⟨_, rfl⟩
          rw [← hwE]
          have lwE : Below wT.heap.size wT wE := by rw [hwE]; exact ((Below.refl _ _).alloc (Nat.le_refl _) _)
          have rwE : wE.heap[wT.heap.size]? = some (.cells #[] 65 (0, 0)) := by rw [hwE]; exact heap_alloc_new wT _
          have bwE : Below w4.heap.size w4 wE := bwT.trans (lwE.mono bwT.size)
          clear hwE
          refine hK.out _ _ (hSx.out wE bwE) (fun hHeld => ?_)
          clear hK K
          try simp only [Act.put, List.setIfInBounds_toArray, List.set_cons_zero, List.set_cons_succ]
          refine wpAnyH_ready (rs := [6]) (by kernel_rfl) (by simp) ?_
          refine AllReadyH.cons (o := ⟨some 42, _, _, _, _, _⟩) rfl (fun K hK => ?_) AllReadyH.nil
          refine appT0_step rfl (.tmp 36) (.tmp 41) rfl w4.heap.size ⟨wT.heap.size, 0, none⟩ rfl (some ⟨b, o, none⟩) k cap w4.heap.size r0 HK.out.symm hk1 rfl (HR0.out.below bwE) (by omega) bwE.size ?_
          intro A1 k1 w5 ho1 hb1
          have b5 : Below w4.heap.size w4 w5 := bwE.trans (hb1.mono bwE.size)
          refine hK.out _ _ (hSx.out w5 b5) (fun hHeld => ?_)
          clear hK K
          try simp only [Act.put, List.setIfInBounds_toArray, List.set_cons_zero, List.set_cons_succ]
          refine wpAnyH_ready (rs := [14]) (by kernel_rfl) (by simp) ?_
          refine AllReadyH.cons (o := ⟨some 50, _, _, _, _, _⟩) rfl (fun K hK => ?_) AllReadyH.nil
          refine appTok_step rfl (.tmp 42) (.tmp 49) rfl w4.heap.size A1 k1 r0 k HK.out.symm rfl (ho1) w4.heap.size rfl (endTok T) (blk_on (blk_on rwT lwE) hb1) (by omega) b5.size ?_
          intro A2 k2 w6 ho2 hg2
          have b6 := tok_in b5 (ho1) hg2
          refine hK.out _ _ (hSx.out w6 b6) (fun hHeld => ?_)
          clear hK K
          try simp only [Act.put, List.setIfInBounds_toArray, List.set_cons_zero, List.set_cons_succ]
          refine wpAnyH_take (i := 15) (oi := ⟨some 5, _, _, _, _, _⟩) (v := ?v14) rfl (by kernel_rfl) (by kernel_rfl) (by kernel_rfl) (fun _ _ _ h => h) ?y14 (by assumption) ?r14
          case y14 => refine Or.inl ⟨by kernel_rfl, fun w hSw => ?_⟩; (try dsimp only at hSw); go_simp; (try with_reducible rfl)
          simp only [Act.put, List.setIfInBounds_toArray, List.set_cons_zero, List.set_cons_succ]
          refine wpAnyH_done (by kernel_rfl) ?_ _
          go_wp2_with fail
          go_meet
          exact ⟨A2, k2, rfl, ho2, b6⟩
      case rest =>
        obtain ⟨A', cap', rfl, o5, b5⟩ := hcut
        have HB5 := Lib.hid (HB4.out.trans (b5.mono HB4.out.size))
        have HG5 := Lib.hid (HG4.out.next b5)
        have hlen5 : (r0 ++ [endTok T]).length = k + 1 := by rw [List.length_append, HK.out]; rfl
        have HO5 := Lib.hid o5
        have HP := parse_any (r0 ++ [endTok T]) A' cap' 6500 wc (by omega) o5.rd HG5.out (by omega)
        rw [hlen5] at HP
        have HP := Lib.hid HP
        clear o5 b5 hlen5 n1 n2
        go_wp2_with fail
        refine HP.out.mono ?_
        rintro e w6 ⟨b6, h6⟩
        rcases h6 with ⟨hn, _⟩ | ⟨c, p, v, hn, rfl, he⟩
        · rw [HBAD.out] at hn; cases hn
        · rw [HBAD.out] at hn
          injection hn with hn
          injection hn with e1 e2
          subst e1 e2
          have HB6 := Lib.hid (HB5.out.trans (b6.mono HB5.out.size))
          have hrd := ((HO5.out.next b6).rd).tok (i := k) (t := endTok T) (by rw [HK.out, List.getElem?_append_right (Nat.le_refl _), Nat.sub_self]; rfl)
          have HG6 := Lib.hid (HG5.out.next b6)
          have HE := Lib.hid he
          obtain ⟨b', o', rfl, hbl', c0', c1', c2', c3'⟩ := hrd
          have f3' : w6.cell? ⟨b', o' + k * 4 + 3, none⟩ = some (.int .i64 T.size) := c3'
          have HF3 := Lib.hid f3'
          have HBL' := Lib.hid hbl'
          obtain ⟨te, xe, rfl⟩ := he.iface
          clear b6 he c0' c1' c2' c3' f3' hbl'
          go_wp2_with fail
          obtain ⟨w7, hw7⟩ : ∃ w7, w7 = w6.alloc (.cells #[.slice none 0 0, .slice none 0 0] 26) := ⟨_, rfl⟩
          rw [← hw7]
          have b7 : Below w6.heap.size w6 w7 := by rw [hw7]; exact (Below.refl _ _).alloc (Nat.le_refl _) _
          have ht7 : w7.heap[w6.heap.size]? = some (.cells #[.slice none 0 0, .slice none 0 0] 26 (0, 0)) := by rw [hw7]; exact heap_alloc_new w6 _
          refine (At_one parN T.size 130 _ w7 (HG6.out.next b7) (HE.out.next b7)).mono ?_
          rintro e w8 ⟨rfl, b8⟩
          have ht8 := blk_on ht7 b8
          have y0 := cell_of_row w8 _ 0 _ _ _ ht8
          have y1 := cell_of_row w8 _ 1 _ _ _ ht8
          have g3 := (((Below.mono b7 (Nat.le_refl _)).trans (b8.mono b7.size)).cell (p := ⟨b', o' + k * 4 + 3, none⟩) HBL'.out).trans HF3.out
          have HB8 := Lib.hid (HB6.out.trans ((b7.mono HB6.out.size).trans (b8.mono (by have := HB6.out.size; have := b7.size; omega))))
          have m1 : (k : Int) < (k : Int) + 1 := by omega
          clear ht7 ht8 b7 b8 hw7
          go_wp2
          go_ret
          exact ⟨by simp, HB8.out⟩
  · obtain ⟨te, xe, rfl⟩ := he.iface
    have HBX := Lib.hid (fun o : Obj => ((HB1.out.trans (b2.mono HB1.out.size)).alloc (by have := HB1.out.size; have := b2.size; omega) o : Below w.heap.size w (w2.alloc o)))
    clear hR hbad he b2
    go_wp2
    go_ret
    exact ⟨rfl, HBX.out _⟩
  · obtain ⟨te, xe, rfl⟩ := he.iface
    have HBX := Lib.hid (fun o : Obj => ((HB1.out.trans (b2.mono HB1.out.size)).alloc (by have := HB1.out.size; have := b2.size; omega) o : Below w.heap.size w (w2.alloc o)))
    clear hR he b2
    go_wp2
    go_ret
    exact ⟨rfl, HBX.out _⟩
end Go.Proofs.YtcefclglmhpdeaaGreatDoor
