/-
  The walk of the law ParseOwn.
-/
import Derived.Test.YtcefclglmhpdeaaGreatDoorQTokA
import Derived.Test.YtcefclglmhpdeaaGreatDoorQSameT
import Derived.Test.YtcefclglmhpdeaaGreatDoorQTokEq
import Derived.Test.YtcefclglmhpdeaaGreatDoorQToksL
import Derived.Test.YtcefclglmhpdeaaGreatDoorQWkTexts
namespace Go.Proofs.YtcefclglmhpdeaaGreatDoor
set_option linter.unusedVariables false
set_option linter.unusedSimpArgs false
open Go.RowKit
set_option maxRecDepth 100000 in
set_option maxHeartbeats 4000000 in
theorem ParseOwn_walk (w : World) (hg : ETyped w) (ht : ErrT w) (s : ByteArray) (hsz : s.size ≤ maxLen) :
    Calls Tryz.prog 5 #[.string s] w fun e w' => e = .returned (.bool true) ∧ Below w.heap.size w w' := by
  obtain ⟨T, hT⟩ : ∃ T, T = s.extract 0 (minN s.size 4200) := ⟨_, rfl⟩
  have hTs : T.size ≤ 4200 := by
    have := (minN_le s.size 4200).2.1
    rw [hT, ByteArray.size_extract]
    omega
  have hcut := cut_any s hsz
  rw [← hT] at hcut
  have HCUT := Lib.hid hcut
  have HTY := Lib.hid ht
  have HG := Lib.hid hg
  clear hT hg ht hcut
  go_enter Tryz.func5, Tryz.ntmps5
  go_wp2_with fail
  refine (pawake_true _ HG.out HTY.out).mono ?_
  rintro e w1 ⟨rfl, b1⟩
  have HG1 := Lib.hid (HG.out.next b1)
  have HB1 := Lib.hid b1
  clear b1
  go_wp2_with fail
  refine (HCUT.out w1).mono ?_
  rintro e wx ⟨rfl, rfl⟩
  go_wp2_with fail
  refine (rscan_any T w1 (by omega)).mono ?_
  rintro e w2 ⟨b2, h⟩
  have HB2 := Lib.hid (bnext HB1.out b2)
  have HG2 := Lib.hid (HG1.out.next b2)
  clear b2
  rcases h with ⟨l, A, cap, hR, rfl, o2⟩ | ⟨c, p, hR, rfl⟩
  · have hlen := (scanM_len hR).1
    have hl1 : 1 ≤ l.length := by
      obtain ⟨r, hr, _⟩ := scanM_iff hR
      rw [hr]
      simp
    obtain ⟨n, hn⟩ : ∃ n, n = l.length := ⟨_, rfl⟩
    rw [← hn]
    have HN := Lib.hid hn
    have HLEN := Lib.hid (show l.length ≤ 1000 from by omega)
    have HF := Lib.hid (show 12 * l.length + 20 ≤ 6500 from by omega)
    have HTOK0 := Lib.hid o2.rd
    have H1N := Lib.hid (show 1 ≤ n ∧ n ≤ 1000000 from by omega)
    clear hR hlen hl1 hn o2
    go_wp2_with (at_builtin; refine appT0 rfl (.tmp 29) (.tmp 30) rfl w2.heap.size ⟨w2.heap.size, 0, none⟩ rfl A n cap _ l HN.out.symm H1N.out.1 rfl (HTOK0.out.next (one_new w2 _)) H1N.out.2 (by simp) ?_; intro A2 cap2 w3 o3 b3; have HO3 := Lib.hid o3; have HB03 := Lib.hid (bnext (one_new w2 _) b3); clear o3 b3)
    have hp1 := parse_any l A2 cap2 6500 w3 HLEN.out HO3.out.rd (HG2.out.next HB03.out) HF.out
    rw [← HN.out] at hp1
    refine hp1.mono ?_
    clear hp1
    rintro e w5 h5
    obtain ⟨R, hRR⟩ : ∃ R, R = parseP 6500 l := ⟨_, rfl⟩
    rw [← hRR] at h5
    have HRR := Lib.hid hRR
    obtain ⟨b5, SA, sc, EA, ec, v, rfl, oS, oE, hv⟩ := parse_out h5
    obtain ⟨ns, hns⟩ : ∃ ns, ns = (okS R).length := ⟨_, rfl⟩
    obtain ⟨ne, hne⟩ : ∃ ne, ne = (okE R).length := ⟨_, rfl⟩
    rw [← hns, ← hne]
    have HNS := Lib.hid hns
    have HNE := Lib.hid hne
    have OS := Lib.hid oS
    have OE := Lib.hid oE
    have HV := Lib.hid hv
    have HB5 := Lib.hid b5
    obtain ⟨B0, hB0⟩ : ∃ B0, B0 = w3.heap.size := ⟨_, rfl⟩
    clear hRR h5 hns hne oS oE hv
    go_wp2_with fail
    obtain ⟨w6, hw6⟩ : ∃ w6, w6 = w5.alloc (.cells #[.slice SA ns sc, .slice EA ne ec] 26) := ⟨_, rfl⟩
    have b6 : Below w5.heap.size w5 w6 := by rw [hw6]; exact one_new w5 _
    rw [← hw6]
    have hp2 := parse_any l A2 cap2 6500 w6 HLEN.out (HO3.out.rd.next (bnext HB5.out b6)) ((HG2.out.next HB03.out).next (bnext HB5.out b6)) HF.out
    rw [← HN.out, ← HRR.out] at hp2
    refine hp2.mono ?_
    clear hp2
    rintro e w7 h7
    obtain ⟨b7, SB, scb, EB, ecb, vb, rfl, oSB, oEB, hvb⟩ := parse_out h7
    rw [← HNS.out, ← HNE.out]
    have OSB := Lib.hid oSB
    have OEB := Lib.hid oEB
    have HB7 := Lib.hid b7
    clear h7 oSB oEB hvb
    go_wp2_with fail
    obtain ⟨w8, hw8⟩ : ∃ w8, w8 = w7.alloc (.cells #[.slice SB ns scb, .slice EB ne ecb] 26) := ⟨_, rfl⟩
    have b8 : Below w7.heap.size w7 w8 := by rw [hw8]; exact one_new w7 _
    have hsame := same_any A2 A cap2 cap l w8 (by have := HLEN.out; omega) (((HO3.out.rd.next HB5.out).next (bnext b6 HB7.out)).next b8) ((((HTOK0.out.next HB03.out).next HB5.out).next (bnext b6 HB7.out)).next b8)
    rw [← HN.out] at hsame
    rw [← hw8]
    refine hsame.mono ?_
    clear hsame
    rintro e wp ⟨rfl, b9⟩
    have b68 := bnext (bnext HB7.out b8) b9
    have HBW := Lib.hid (bnext b6 b68)
    have HWS := Lib.hid (show w2.heap.size ≤ wp.heap.size from by have h1 := HB03.out.size; have h2 := HB5.out.size; have h3 := HBW.out.size; omega)
    have HTOKP := Lib.hid (show RdT wp w2.heap.size A l from HTOK0.out.below ((HB03.out.trans (HB5.out.mono HB03.out.size)).trans (HBW.out.mono (by have h1 := HB03.out.size; have h2 := HB5.out.size; omega))))
    have HB02 := Lib.hid (show w2.heap.size ≤ B0 from by rw [hB0]; exact HB03.out.size)
    have HVP := Lib.hid (ErrV.kt (base := 0) HV.out (KT.below HBW.out))
    have HS56 := Lib.hid b6.size
    have OSBP := Lib.hid (OSB.out.next (bnext b8 b9))
    have OEBP := Lib.hid (OEB.out.next (bnext b8 b9))
    have hx1 : wp.heap[w5.heap.size]? = some (.cells #[.slice SA ns sc, .slice EA ne ec] 26 (0, 0)) := by
      rw [b68.block w5.heap.size (by rw [hw6]; simp), hw6]
      exact heap_alloc_new w5 _
    have hx2 : wp.heap[w7.heap.size]? = some (.cells #[.slice SB ns scb, .slice EB ne ecb] 26 (0, 0)) := by
      rw [b9.block w7.heap.size (by rw [hw8]; simp), hw8]
      exact heap_alloc_new w7 _
    have hs57 : w5.heap.size ≤ w7.heap.size := by have h1 := b6.size; have h2 := HB7.out.size; omega
    have BX := Lib.hid (fun wr (h : Lk B0 w5.heap.size wp wr) => And.intro (cell_of_row wr w5.heap.size 0 _ _ _ ((h.out w5.heap.size (.inr (Nat.le_refl _))).trans hx1)) (cell_of_row wr w5.heap.size 1 _ _ _ ((h.out w5.heap.size (.inr (Nat.le_refl _))).trans hx1)))
    have BY := Lib.hid (fun wr (h : Lk B0 w5.heap.size wp wr) => And.intro (cell_of_row wr w7.heap.size 0 _ _ _ ((h.out w7.heap.size (.inr hs57)).trans hx2)) (cell_of_row wr w7.heap.size 1 _ _ _ ((h.out w7.heap.size (.inr hs57)).trans hx2)))
    have B0ok := Lib.hid (fun wr (h : Lk B0 w5.heap.size wp wr) => (bnext (bnext (bnext HB2.out HB03.out) HB5.out) HBW.out).trans (h.below (B := w.heap.size) (by rw [hB0]; have h1 := HB2.out.size; have h2 := HB03.out.size; omega)))
    rw [← hB0] at OS OE
    obtain ⟨bx0, bx1⟩ := BX.out wp (Lk.refl _ _ _)
    have HNB := Lib.hid (show ns ≤ 9223372036854775807 ∧ ne ≤ 9223372036854775807 from by rw [HNS.out, HNE.out]; exact ⟨OS.out.small.1, OE.out.small.1⟩)
    obtain ⟨nb1, nb2⟩ := HNB.out
    clear b9 b68 b8 b6 hw6 hw8 hx1 hx2 hs57 hB0
    go_wp2
    go_loopw [49] (fun iv wr => IntsRel ne iv ∧ Lk B0 w5.heap.size wp wr) (fun iv _ => ne - (intOf iv).toNat)
    case atStart => exact ⟨⟨0, by omega, rfl⟩, Lk.refl _ _ _⟩
    case round =>
      obtain ⟨⟨i, hi, rfl⟩, hlk⟩ := hrel
      have hx := BX.out wr hlk
      obtain ⟨bx0, bx1⟩ := hx
      by_cases hlt : i < ne
      · obtain ⟨g, xg, rfl, d0, d1, d2, A', m, c', d3, d4, d5, d6⟩ := ownE_at OE.out HBW.out hlk (by rw [← HNE.out]; exact hlt)
        have i0 : (0 : Int) ≤ (i : Int) := by omega
        have i1 : (i : Int) < (ne : Int) := by omega
        have D4 := Lib.hid d4
        have D6 := Lib.hid d6
        have HLK := Lib.hid hlk
        clear d0 d1 d2 d4 d6 hlk
        go_wp2
        go_loopw [59] (fun kv wr => IntsRel m kv ∧ Lk B0 w5.heap.size wp wr) (fun kv _ => m - (intOf kv).toNat)
        case atStart => exact ⟨⟨0, by omega, rfl⟩, HLK.out⟩
        case round =>
          obtain ⟨⟨k, hk, rfl⟩, hlk⟩ := hrel
          have hx := BX.out wr hlk
          clear bx0 bx1 d3
          obtain ⟨bx0, bx1⟩ := hx
          have d3 := D6.out _ hlk
          by_cases hlk2 : k < m
          · obtain ⟨h, xh, rfl, e0, e1, e2⟩ := D4.out.at_ hlk hlk2
            have HE2 := Lib.hid (e2 (.int .i64 (-1)))
            have k0 : (0 : Int) ≤ (k : Int) := by omega
            have k1 : (k : Int) < (m : Int) := by omega
            clear e2 hlk
            go_wp2
            exact ⟨⟨⟨k + 1, by omega, rfl⟩, HE2.out⟩, by simp [intOf]; omega⟩
          · obtain rfl : m = k := by omega
            obtain ⟨g', xg', hg', d0, d1, d2, _⟩ := ownE_at OE.out HBW.out hlk (by rw [← HNE.out]; exact hlt)
            injection hg' with hg'
            injection hg' with hg'
            subst hg'
            have HD2 := Lib.hid (d2 (.int .i64 99))
            clear d2 hlk
            go_wp2
            exact ⟨⟨⟨i + 1, by omega, rfl⟩, HD2.out⟩, by simp [intOf]; omega⟩
      · obtain rfl : ne = i := by omega
        have HLK := Lib.hid hlk
        clear hlk
        go_wp2
        go_loopw [80] (fun iv wr => IntsRel ns iv ∧ Lk B0 w5.heap.size wp wr) (fun iv _ => ns - (intOf iv).toNat)
        case atStart => exact ⟨⟨0, by omega, rfl⟩, HLK.out⟩
        case round =>
          obtain ⟨⟨i, hi, rfl⟩, hlk⟩ := hrel
          have hx := BX.out wr hlk
          obtain ⟨bx0, bx1⟩ := hx
          by_cases hlt : i < ns
          · obtain ⟨g, xg, rfl, d0, d1, d2, A', m, c', d3, d4, d5, d6⟩ := ownS_at OS.out HBW.out hlk (by rw [← HNS.out]; exact hlt)
            have i0 : (0 : Int) ≤ (i : Int) := by omega
            have i1 : (i : Int) < (ns : Int) := by omega
            have D4 := Lib.hid d4
            have D6 := Lib.hid d6
            have HLK := Lib.hid hlk
            clear d0 d1 d2 d4 d6 hlk
            go_wp2
            go_loopw [90] (fun kv wr => IntsRel m kv ∧ Lk B0 w5.heap.size wp wr) (fun kv _ => m - (intOf kv).toNat)
            case atStart => exact ⟨⟨0, by omega, rfl⟩, HLK.out⟩
            case round =>
              obtain ⟨⟨k, hk, rfl⟩, hlk⟩ := hrel
              have hx := BX.out wr hlk
              clear bx0 bx1 d3
              obtain ⟨bx0, bx1⟩ := hx
              have d3 := D6.out _ hlk
              by_cases hlk2 : k < m
              · obtain ⟨h, xh, rfl, e0, e1, e2⟩ := D4.out.at_ hlk hlk2
                have HE2 := Lib.hid (e2 (.int .i64 (-2)))
                have k0 : (0 : Int) ≤ (k : Int) := by omega
                have k1 : (k : Int) < (m : Int) := by omega
                clear e2 hlk
                go_wp2
                exact ⟨⟨⟨k + 1, by omega, rfl⟩, HE2.out⟩, by simp [intOf]; omega⟩
              · obtain rfl : m = k := by omega
                obtain ⟨g', xg', hg', d0, d1, d2, _⟩ := ownS_at OS.out HBW.out hlk (by rw [← HNS.out]; exact hlt)
                injection hg' with hg'
                injection hg' with hg'
                subst hg'
                have HD2 := Lib.hid (d2 (.string ⟨#[63]⟩))
                clear d2 hlk
                go_wp2
                exact ⟨⟨⟨i + 1, by omega, rfl⟩, HD2.out⟩, by simp [intOf]; omega⟩
          · obtain rfl : ns = i := by omega
            have HLK := Lib.hid hlk
            clear hlk
            go_wp2_with fail
            obtain ⟨bx2, bx3⟩ := BY.out wr HLK.out
            have hp := rparse_any l A cap 6500 wr HLEN.out ((HTOKP.out.below (HLK.out.below HB02.out)).more (by rw [HLK.out.size]; exact HWS.out)) HF.out
            rw [← HN.out, ← HRR.out] at hp
            refine hp.mono ?_
            clear hp bx0 bx1
            rintro e wa h10
            obtain ⟨b10, SC, sc', EC, ec', pc, rfl, oSC, oEC⟩ := rparse_out h10
            rw [← HNS.out, ← HNE.out]
            have HOSC := Lib.hid oSC
            have HOEC := Lib.hid oEC
            have OSB2 := Lib.hid ((OSBP.out.more (w' := wr) (Nat.le_refl _) (fun k hk => HLK.out.out k (.inr (by have := HS56.out; omega)))).next b10)
            have OEB2 := Lib.hid ((OEBP.out.more (w' := wr) (Nat.le_refl _) (fun k hk => HLK.out.out k (.inr (by have := HS56.out; omega)))).next b10)
            have HV2 := Lib.hid (HLK.out.errV HVP.out)
            have HB10 := Lib.hid b10
            have HBF := Lib.hid (bnext (B0ok.out wr HLK.out) b10)
            clear h10 oSC oEC b10
            go_wp2_with fail
            refine (code_ok (R := R) (ErrV.kt (base := 0) HV2.out (KT.below (HB10.out.trans ((one_new wa _).mono HB10.out.size)))) (HG.out.next (bnext HBF.out (one_new wa _)))).mono ?_
            rintro e wc ⟨rfl, b11⟩
            obtain ⟨by0, by1, by2⟩ := tree_cells b11 rfl
            have b11' := bnext (one_new wa _) b11
            have bz0 := new_cell3 (HB10.out.trans (b11'.mono HB10.out.size)) bx2
            have bz1 := new_cell3 (HB10.out.trans (b11'.mono HB10.out.size)) bx3
            have HS := Lib.hid (same_tree_true SB SC EB EC ns ne scb sc' ecb ec' (okS R) (okS R) (okE R) (okE R) wc HNS.out HNE.out (EqSs.refl _ _) (EqEs.refl _ _) (by rw [HNS.out, HNE.out]; exact ⟨OS.out.small.1, OE.out.small.1⟩) OS.out.small.2 OE.out.small.2
              (OSB2.out.next b11').rd (HOSC.out.next b11').rd (OEB2.out.next b11').rd (HOEC.out.next b11').rd)
            have HBG := Lib.hid (bnext HBF.out b11')
            clear b11 b11' bx2 bx3
            go_wp2_with fail
            refine HS.out.mono ?_
            rintro e wd ⟨rfl, b12⟩
            have HBH := Lib.hid (bnext HBG.out b12)
            clear b12
            go_wp2
            go_ret
            exact ⟨rfl, HBH.out⟩
  · have q0 : ((c : Int) != 0) = true := by rw [bne_iff_ne]; have := rscan_code hR; omega
    clear hR
    go_wp2
    go_ret
    exact ⟨rfl, HB2.out⟩
end Go.Proofs.YtcefclglmhpdeaaGreatDoor
