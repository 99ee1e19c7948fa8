/-
  The walk of the law CheckTexts.
-/
import Derived.Test.YthnkeejiocnflaaGreatDoorQChkS
namespace Go.Proofs.YthnkeejiocnflaaGreatDoor
set_option linter.unusedVariables false
set_option linter.unusedSimpArgs false
open Go.RowKit
theorem exprsC_code {es : List EI} {m : Nat → Bool} {names : Names} {c : Nat} {p : Int} : ∀ (n k : Nat) (sh : List (List Int)), exprsC es m names n k sh = .inr (c, p) → c = 140 ∨ c = 141
  | 0, k, sh, h => by cases h
  | n + 1, k, sh, h => by
    unfold exprsC at h
    split at h
    · split at h
      · cases h
      · split at h
        · rename_i c' hc
          injection h with h
          injection h with h _
          subst h
          exact exprC_code hc
        · exact exprsC_code n _ _ h
    · exact exprsC_code n _ _ h
theorem stmtsC_code {es : List EI} {c : Nat} {p : Int} : ∀ (ss : List SI) (names : Names) (sh : List (List Int)) (inp : Nat), stmtsC es ss names sh inp = .inr (c, p) → c ≠ 0
  | [], names, sh, inp, h => by cases h
  | s :: ss, names, sh, inp, h => by
    unfold stmtsC at h
    dsimp only at h
    repeat' split at h
    all_goals first
      | exact stmtsC_code ss _ _ _ h
      | (injection h with h; injection h with h _; omega)
      | (rename_i x hx; injection h with h; subst h; have := exprsC_code _ _ _ hx; omega)
theorem checkC_code {ss : List SI} {es : List EI} {c : Nat} {p : Int} (h : checkC ss es = .inr (c, p)) : c ≠ 0 := by
  unfold checkC at h
  split at h
  · exact stmtsC_code _ _ _ _ h
  · injection h with h
    injection h with h _
    omega
theorem stmtsC_len {es : List EI} {sh' : List (List Int)} : ∀ (ss : List SI) (names : Names) (sh : List (List Int)) (inp : Nat), stmtsC es ss names sh inp = .inl sh' → sh'.length = sh.length
  | [], names, sh, inp, h => by injection h with h; rw [h]
  | s :: ss, names, sh, inp, h => by
    unfold stmtsC at h
    dsimp only at h
    repeat' split at h
    all_goals first
      | exact stmtsC_len ss _ _ _ h
      | cases h
      | (rename_i x hx _; rw [stmtsC_len ss _ _ _ h]; exact exprsC_len _ _ _ _ hx)
theorem checkC_len {ss : List SI} {es : List EI} {sh : List (List Int)} (h : checkC ss es = .inl sh) : sh.length = es.length := by
  unfold checkC at h
  split at h
  · rw [stmtsC_len _ _ _ _ h, List.length_map]
  · cases h
set_option maxRecDepth 100000 in
set_option maxHeartbeats 4000000 in
theorem CheckTexts_walk (w : World) (hg : ETyped w) (ht : ErrT w) (s : ByteArray) (hsz : s.size ≤ maxLen) :
    Calls Tryz.prog 7 #[.string s] w fun e w' => e = .returned (.bool true) ∧ Below w.heap.size w w' := by
  obtain ⟨s2, hs2⟩ : ∃ s2, s2 = s.extract 0 (minN s.size 4200) := ⟨_, rfl⟩
  have hz2 : s2.size ≤ 100000 := by
    have := (minN_le s.size 4200).2.1
    rw [hs2, ByteArray.size_extract]
    omega
  obtain ⟨F, hF⟩ : ∃ F, ∀ l, scanM s2 = .toks l → 12 * l.length + 20 ≤ F := by
    cases h : scanM s2 with
    | toks l => exact ⟨12 * l.length + 20, fun l' h' => by injection h' with h'; subst h'; exact Nat.le_refl _⟩
    | err c p => exact ⟨0, fun l' h' => by cases h'⟩
  have HF := Lib.hid hF
  have HZ2 := Lib.hid hz2
  have HW := Lib.hid (cawake_true w hg ht)
  have HCUT := Lib.hid (fun W => cut_any s hsz W)
  rw [← hs2] at HCUT
  have HG := Lib.hid hg
  have HT := Lib.hid ht
  clear hs2 hz2 hF hg ht
  go_enter Tryz.func7, Tryz.ntmps7
  go_wp2_with (first
    | (go_at_call 9; refine HW.out.mono ?_; rintro e w1 ⟨rfl, b1⟩; have HB1 := Lib.hid b1; have HG1 := Lib.hid (HG.out.next b1); have HT1 := Lib.hid (HT.out.next b1); clear b1)
    | (go_at_call 13; refine (HCUT.out _).mono ?_; rintro e w' ⟨rfl, rfl⟩))
  refine (text_any s2 F w1 HZ2.out HG1.out HT1.out HF.out).mono ?_
  rintro e w2 ⟨hb2, h⟩
  rcases h with ⟨l, hl, he, SA, sc, EA, ec, rfl, oS, oE⟩ | ⟨l, c, p, v, hl, he, rfl, hv⟩ | ⟨c, p, v, hl, rfl, hv⟩
  · have hlen := (scanM_len hl).1
    have hns := loop_small he
    have hne := es_small F l
    have hS := oS.int
    have hE := oE.int
    obtain ⟨ss, hss⟩ : ∃ ss, ss = (parseP F l).ss.map SI.of := ⟨_, rfl⟩
    obtain ⟨es, hes⟩ : ∃ es, es = (parseP F l).es.map EI.of := ⟨_, rfl⟩
    rw [← hss] at hS
    rw [← hes] at hE
    obtain ⟨ns, hn1⟩ : ∃ ns, ns = (parseP F l).ss.length := ⟨_, rfl⟩
    obtain ⟨ne, hn2⟩ : ∃ ne, ne = (parseP F l).es.length := ⟨_, rfl⟩
    have hls := Lib.hid (show ns = ss.length from by rw [hss, List.length_map, hn1])
    have hle := Lib.hid (show ne = es.length from by rw [hes, List.length_map, hn2])
    have hns' : ns ≤ 64 := by rw [hn1]; exact hns
    have hne' : ne ≤ 513 := by rw [hn2]; exact Nat.le_trans hne hlen
    rw [← hn1, ← hn2]
    have HG2 := Lib.hid (HG1.out.next hb2)
    have HB2 := Lib.hid (bnext HB1.out hb2)
    have HS2 := Lib.hid hS
    have HE2 := Lib.hid hE
    clear hlen hns hne hS hE hss hes hn1 hn2 oS oE hl he hb2
    go_wp2_with fail
    obtain ⟨w3, hw3⟩ : ∃ w3, w3 = w2.alloc (.cells #[.slice SA ns sc, .slice EA ne ec] 29) := ⟨_, rfl⟩
    rw [← hw3]
    have hb3 : Below w2.heap.size w2 w3 := by rw [hw3]; exact (Below.refl _ _).alloc (Nat.le_refl _) _
    have hA : w3.heap[w2.heap.size]? = some (.cells #[.slice SA ns sc, .slice EA ne ec] 29 (0, 0)) := by rw [hw3]; exact heap_alloc_new w2 _
    have HTB := Lib.hid (fun W (hW : Below w3.heap.size w3 W) => (hW.block _ (Array.getElem?_eq_some_iff.1 hA).1).trans hA)
    have HG3 := Lib.hid (HG2.out.next hb3)
    have HB3 := Lib.hid (bnext HB2.out hb3)
    have HS3 := Lib.hid (HS2.out.next hb3)
    have HE3 := Lib.hid (HE2.out.next hb3)
    clear hw3 hb3 hA
    refine (check_any SA EA ns ne sc ec ss es w3 hls.out hle.out (by omega) (by omega) HS3.out HE3.out HG3.out).mono ?_
    have HRC := Lib.hid (fun W (hW : Below w3.heap.size w3 W) => rcheck_any SA EA ns ne sc ec ss es W hls.out hle.out (by omega) (by omega) (HS3.out.next hW) (HE3.out.next hW))
    cases hc : checkC ss es with
    | inl sh =>
      rw [hc] at HRC
      rintro e w4 ⟨hb4, q, rfl, hO⟩
      have hshl : ne = sh.length := by rw [hle.out, checkC_len hc]
      have hA4 := HTB.out _ hb4
      have z0 := cell_of_row _ _ 0 _ _ _ hA4
      have z1 := cell_of_row _ _ 1 _ _ _ hA4
      have HB4 := Lib.hid (bnext HB3.out hb4)
      have HO := Lib.hid hO.rd
      have HRC4 := Lib.hid (HRC.out _ hb4)
      have HL := Lib.hid hshl
      clear hb4 hO hA4 hc hshl
      go_wp2_with (first
        | (go_at_call 19; refine HRC4.out.mono ?_; rintro e w5 ⟨hb5, q2, X2, rfl, hR, -⟩; have HB5 := Lib.hid (bnext HB4.out hb5); have HO5 := Lib.hid (HO.out.next hb5); have HR5 := Lib.hid hR.rd; clear hb5 hR)
        | (go_at_call 21; refine (At_nil _).mono ?_; rintro e w6 ⟨rfl, hb6⟩; have HB6 := Lib.hid (bnext HB5.out hb6); have HO6 := Lib.hid (HO5.out.next hb6); have HR6 := Lib.hid (HR5.out.next hb6); clear hb6)
        | (go_at_call 18; refine (same_any (some ⟨q, 0, none⟩) (some ⟨q2, 0, none⟩) ne ne ne ne sh sh w6 HL.out HL.out (by omega) (by omega) HO6.out HR6.out).mono ?_; rintro e w7 ⟨rfl, hb7⟩; have HB7 := Lib.hid (bnext HB6.out hb7); clear hb7))
      go_ret
      exact ⟨by simp, HB7.out⟩
    | inr cp =>
      obtain ⟨c, p⟩ := cp
      have hc0 := checkC_code hc
      have q0 : ((c : Int) != 0) = true := by unfold bne; rw [beq_eq_false_iff_ne.2 (by omega)]; rfl
      have q0' : ((c : Int) == 0) = false := by rw [beq_eq_false_iff_ne]; omega
      have q1 : ((c : Int) == (c : Int)) = true := by simp
      have q2 : (p == p) = true := by simp
      rw [hc] at HRC
      rintro e w4 ⟨hb4, v, rfl, hv⟩
      have hA4 := HTB.out _ hb4
      have z0 := cell_of_row _ _ 0 _ _ _ hA4
      have z1 := cell_of_row _ _ 1 _ _ _ hA4
      have HB4 := Lib.hid (bnext HB3.out hb4)
      have HG4 := Lib.hid (HG3.out.next hb4)
      have HV := Lib.hid hv
      have HRC4 := Lib.hid (HRC.out _ hb4)
      obtain ⟨ti, xi, rfl⟩ := hv.iface
      clear hb4 hv hA4 hc hc0
      go_wp2_with (first
        | (go_at_call 19; refine HRC4.out.mono ?_; rintro e w5 ⟨hb5, rfl⟩; have HB5 := Lib.hid (bnext HB4.out hb5); have HV5 := Lib.hid (HV.out.next hb5); have HG5 := Lib.hid (HG4.out.next hb5); clear hb5)
        | (go_at_call 21; refine (At_one chkN p c _ _ HG5.out HV5.out).mono ?_; rintro e w6 ⟨rfl, hb6⟩; have HB6 := Lib.hid (bnext HB5.out hb6); clear hb6))
      go_ret
      exact ⟨rfl, HB6.out⟩
  · obtain ⟨ti, xi, rfl⟩ := hv.iface
    have HB2 := Lib.hid (bnext HB1.out hb2)
    clear hb2 hv hl he
    go_wp2
    go_ret
    exact ⟨rfl, HB2.out.alloc HB2.out.size _⟩
  · obtain ⟨ti, xi, rfl⟩ := hv.iface
    have HB2 := Lib.hid (bnext HB1.out hb2)
    clear hb2 hv hl
    go_wp2
    go_ret
    exact ⟨rfl, HB2.out.alloc HB2.out.size _⟩
end Go.Proofs.YthnkeejiocnflaaGreatDoor
