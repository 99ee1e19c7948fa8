/-
  The walk of the law ParseTexts.
-/
import Derived.Test.YtcefclglmhpdeaaGreatDoorQPAwake
import Derived.Test.YtcefclglmhpdeaaGreatDoorQRefP
import Derived.Test.YtcefclglmhpdeaaGreatDoorQSameT
import Derived.Test.YtcefclglmhpdeaaGreatDoorQPlaces
namespace Go.Proofs.YtcefclglmhpdeaaGreatDoor
set_option linter.unusedVariables false
set_option linter.unusedSimpArgs false
open Go.RowKit
theorem tree_cells {w w' : World} {g : Nat} {a b : Value} (hb : Below (w.alloc (.cells #[a, b] 26)).heap.size (w.alloc (.cells #[a, b] 26)) w') (hg : g = w.heap.size) : w'.cell? ⟨g, 0, none⟩ = some a ∧ w'.cell? ⟨g, 1, none⟩ = some b ∧ g < w'.heap.size := by
  subst hg
  have h := (hb.block w.heap.size (by simp)).trans (heap_alloc_new w _)
  exact ⟨cell_of_row _ _ 0 _ _ _ h, cell_of_row _ _ 1 _ _ _ h, (Array.getElem?_eq_some_iff.1 h).1⟩
set_option maxRecDepth 100000 in
set_option maxHeartbeats 4000000 in
theorem ParseTexts_walk (w : World) (hg : ETyped w) (ht : ErrT w) (s : ByteArray) (hsz : s.size ≤ maxLen) :
    Calls Tryz.prog 6 #[.string s] w fun e w' => e = .returned (.bool true) ∧ Below w.heap.size w w' := by
  obtain ⟨T, hT⟩ : ∃ T, T = s.extract 0 (minN s.size 4200) := ⟨_, rfl⟩
  have hTs : T.size ≤ 4200 := by
    have := (minN_le s.size 4200).2.1
    rw [hT, ByteArray.size_extract]
    omega
  have hcut := cut_any s hsz
  rw [← hT] at hcut
  have HCUT := Lib.hid hcut
  have HTY := Lib.hid ht
  have HG := Lib.hid hg
  have HF := Lib.hid (show ∀ l, scanM T = .toks l → 12 * l.length + 20 ≤ 6500 from fun l hl => by have := (scanM_len hl).1; omega)
  clear hT hg ht hcut
  go_enter Tryz.func6, Tryz.ntmps6
  go_wp2_with fail
  refine (pawake_true _ HG.out HTY.out).mono ?_
  rintro e w1 ⟨rfl, b1⟩
  have HG1 := Lib.hid (HG.out.next b1)
  have HT1 := Lib.hid (HTY.out.next b1)
  have HB1 := Lib.hid b1
  clear b1
  go_wp2_with fail
  refine (HCUT.out w1).mono ?_
  rintro e wx ⟨rfl, rfl⟩
  go_wp2_with fail
  refine (text_any T 6500 w1 (by omega) HG1.out HT1.out HF.out).mono ?_
  rintro e w2 ⟨b2, h⟩
  have HB2 := Lib.hid (bnext HB1.out b2)
  have HG2 := Lib.hid (HG1.out.next b2)
  clear b2
  rcases h with ⟨l, hR, hok, SA, sc, EA, ec, rfl, oS, oE⟩ | ⟨l, c, p, v, hR, hbad, rfl, he⟩ | ⟨c, p, v, hR, rfl, he⟩
  · obtain ⟨R, hRR⟩ : ∃ R, R = parseP 6500 l := ⟨_, rfl⟩
    have HRR := Lib.hid hRR
    rw [← hRR] at oS oE hok ⊢
    obtain ⟨ns, hns⟩ : ∃ ns, ns = R.ss.length := ⟨_, rfl⟩
    obtain ⟨ne, hne⟩ : ∃ ne, ne = R.es.length := ⟨_, rfl⟩
    rw [← hns, ← hne]
    have HNS := Lib.hid hns
    have HNE := Lib.hid hne
    have HR := Lib.hid hR
    have HOK := Lib.hid hok
    have HOS := Lib.hid oS
    have HOE := Lib.hid oE
    clear hRR hns hne hR hok oS oE
    go_wp2_with fail
    refine (rtext_any T 6500 _ (by omega) HF.out).mono ?_
    rintro e w3 ⟨b3, h3⟩
    obtain ⟨x0, x1, x2⟩ := tree_cells b3 rfl
    have b3' := bnext (one_new w2 _) b3
    have HB3 := Lib.hid (bnext HB2.out b3')
    have HG3 := Lib.hid (HG2.out.next b3')
    have HOS3 := Lib.hid (HOS.out.next b3')
    have HOE3 := Lib.hid (HOE.out.next b3')
    clear b3 b3'
    rcases h3 with ⟨l', hR', hok', SA', sc', EA', ec', rfl, oS', oE'⟩ | ⟨l', c, p, hR', hbad, rfl⟩ | ⟨c, p, hR', rfl⟩
    · have hll : l' = l := by
        rw [HR.out] at hR'
        injection hR' with h
        exact h.symm
      subst hll
      rw [← HRR.out] at oS' oE' ⊢
      rw [← HNS.out, ← HNE.out]
      have HOS' := Lib.hid oS'
      have HOE' := Lib.hid oE'
      clear hR' hok' oS' oE'
      go_wp2_with fail
      refine (At_nil _).mono ?_
      rintro e w4 ⟨rfl, b4⟩
      obtain ⟨y0, y1, y2⟩ := tree_cells b4 rfl
      have b4' := bnext (one_new w3 _) b4
      have z0 := (b4'.cell (p := ⟨w2.heap.size, 0, none⟩) x2).trans x0
      have z1 := (b4'.cell (p := ⟨w2.heap.size, 1, none⟩) x2).trans x1
      have HB4 := Lib.hid (bnext HB3.out b4')
      have HS := Lib.hid (same_tree_true SA SA' EA EA' ns ne sc sc' ec ec' R.ss R.ss R.es R.es w4 HNS.out HNE.out (EqSs.refl _ _) (EqEs.refl _ _) (by rw [HNS.out, HNE.out]; exact ⟨HOS.out.small.1, HOE.out.small.1⟩) HOS.out.small.2 HOE.out.small.2
        (HOS3.out.next b4').rd (HOS'.out.next b4').rd (HOE3.out.next b4').rd (HOE'.out.next b4').rd)
      clear b4 b4' x0 x1 x2
      go_wp2_with fail
      refine HS.out.mono ?_
      rintro e w5 ⟨rfl, b5⟩
      have HB5 := Lib.hid (bnext HB4.out b5)
      clear b5
      go_wp2
      go_ret
      exact ⟨rfl, HB5.out⟩
    · exfalso
      have hll : l' = l := by
        rw [HR.out] at hR'
        injection hR' with h
        exact h.symm
      subst hll
      rw [← HRR.out, HOK.out] at hbad
      cases hbad
    · exfalso
      rw [HR.out] at hR'
      cases hR'
  · have HR := Lib.hid hR
    have HBAD := Lib.hid hbad
    have HE := Lib.hid he
    obtain ⟨te, xe, rfl⟩ := he.iface
    clear hR hbad he
    go_wp2_with fail
    refine (rtext_any T 6500 _ (by omega) HF.out).mono ?_
    rintro e w3 ⟨b3, h3⟩
    obtain ⟨x0, x1, x2⟩ := tree_cells b3 rfl
    have b3' := bnext (one_new w2 _) b3
    have HB3 := Lib.hid (bnext HB2.out b3')
    have HG3 := Lib.hid (HG2.out.next b3')
    have HE3 := Lib.hid (HE.out.next b3')
    clear b3 b3'
    rcases h3 with ⟨l', hR', hok', SA', sc', EA', ec', rfl, oS', oE'⟩ | ⟨l', c', p', hR', hbad, rfl⟩ | ⟨c', p', hR', rfl⟩
    · exfalso
      have hll : l' = l := by
        rw [HR.out] at hR'
        injection hR' with h
        exact h.symm
      subst hll
      rw [HBAD.out] at hok'
      cases hok'
    · have hll : l' = l := by
        rw [HR.out] at hR'
        injection hR' with h
        exact h.symm
      subst hll
      have hcp : (c', p') = (c, p) := by
        rw [HBAD.out] at hbad
        injection hbad with h
        exact h.symm
      injection hcp with h1 h2
      subst h1 h2
      clear hR' hbad
      go_wp2_with fail
      refine (At_one parN _ _ _ _ (HG3.out.next (one_new w3 _)) (HE3.out.next (one_new w3 _))).mono ?_
      rintro e w4 ⟨rfl, b4⟩
      obtain ⟨y0, y1, y2⟩ := tree_cells b4 rfl
      have b4' := bnext (one_new w3 _) b4
      have z0 := (b4'.cell (p := ⟨w2.heap.size, 0, none⟩) x2).trans x0
      have z1 := (b4'.cell (p := ⟨w2.heap.size, 1, none⟩) x2).trans x1
      have HB4 := Lib.hid (bnext HB3.out b4')
      have HS := Lib.hid (same_tree_true none none none none 0 0 0 0 0 0 [] [] [] [] w4 rfl rfl (EqSs.refl _ _) (EqEs.refl _ _) ⟨Nat.zero_le _, Nat.zero_le _⟩ (fun x hx => by cases hx) (fun x hx => by cases hx) (.inl rfl) (.inl rfl) (.inl rfl) (.inl rfl))
      clear b4 b4' x0 x1 x2
      go_wp2_with fail
      refine HS.out.mono ?_
      rintro e w5 ⟨rfl, b5⟩
      have HB5 := Lib.hid (bnext HB4.out b5)
      clear b5
      go_wp2
      go_ret
      exact ⟨rfl, HB5.out⟩
    · exfalso
      rw [HR.out] at hR'
      cases hR'
  · have HR := Lib.hid hR
    have HE := Lib.hid he
    obtain ⟨te, xe, rfl⟩ := he.iface
    clear hR he
    go_wp2_with fail
    refine (rtext_any T 6500 _ (by omega) HF.out).mono ?_
    rintro e w3 ⟨b3, h3⟩
    obtain ⟨x0, x1, x2⟩ := tree_cells b3 rfl
    have b3' := bnext (one_new w2 _) b3
    have HB3 := Lib.hid (bnext HB2.out b3')
    have HG3 := Lib.hid (HG2.out.next b3')
    have HE3 := Lib.hid (HE.out.next b3')
    clear b3 b3'
    rcases h3 with ⟨l', hR', hok', SA', sc', EA', ec', rfl, oS', oE'⟩ | ⟨l', c', p', hR', hbad, rfl⟩ | ⟨c', p', hR', rfl⟩
    · exfalso
      rw [HR.out] at hR'
      cases hR'
    · exfalso
      rw [HR.out] at hR'
      cases hR'
    · have hcp : c' = c ∧ p' = p := by
        rw [HR.out] at hR'
        injection hR' with h1 h2
        exact ⟨h1.symm, h2.symm⟩
      obtain ⟨h1, h2⟩ := hcp
      subst h1 h2
      clear hR'
      go_wp2_with fail
      refine (At_one lexN _ _ _ _ (HG3.out.next (one_new w3 _)) (HE3.out.next (one_new w3 _))).mono ?_
      rintro e w4 ⟨rfl, b4⟩
      obtain ⟨y0, y1, y2⟩ := tree_cells b4 rfl
      have b4' := bnext (one_new w3 _) b4
      have z0 := (b4'.cell (p := ⟨w2.heap.size, 0, none⟩) x2).trans x0
      have z1 := (b4'.cell (p := ⟨w2.heap.size, 1, none⟩) x2).trans x1
      have HB4 := Lib.hid (bnext HB3.out b4')
      have HS := Lib.hid (same_tree_true none none none none 0 0 0 0 0 0 [] [] [] [] w4 rfl rfl (EqSs.refl _ _) (EqEs.refl _ _) ⟨Nat.zero_le _, Nat.zero_le _⟩ (fun x hx => by cases hx) (fun x hx => by cases hx) (.inl rfl) (.inl rfl) (.inl rfl) (.inl rfl))
      clear b4 b4' x0 x1 x2
      go_wp2_with fail
      refine HS.out.mono ?_
      rintro e w5 ⟨rfl, b5⟩
      have HB5 := Lib.hid (bnext HB4.out b5)
      clear b5
      go_wp2
      go_ret
      exact ⟨rfl, HB5.out⟩
end Go.Proofs.YtcefclglmhpdeaaGreatDoor
