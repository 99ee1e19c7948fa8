/-
  The walk of the law ParseBack. The law ParseBack: for every input the call returns true, and each argument reads as it read before; the six listed variables tied to the program's text. The frame round its walk; written by a program of mine (mkdoorl.py).
-/
import Derived.Test.YtghlnncfigkkaaaGreatDoorQPAwake
import Derived.Test.YtghlnncfigkkaaaGreatDoorQRefP
import Derived.Test.YtghlnncfigkkaaaGreatDoorQSameT
import Derived.Test.YtghlnncfigkkaaaGreatDoorQPbA
import Derived.Test.YtghlnncfigkkaaaGreatDoorQPrW
import Derived.Test.YtghlnncfigkkaaaGreatDoorQOpen
import Derived.Test.YtghlnncfigkkaaaGreatDoorTie
import Derived.Test.YtghlnncfigkkaaaGreatDoorCards
import Derived.SevenTiedAt
namespace Go.Proofs.YtghlnncfigkkaaaGreatDoor
set_option linter.unusedVariables false
set_option linter.unusedSimpArgs false
open Go.RowKit
theorem tree_cells {w w' : World} {g : Nat} {a b : Value} (hb : Below (w.alloc (.cells #[a, b] 26)).heap.size (w.alloc (.cells #[a, b] 26)) w') (hg : g = w.heap.size) : w'.cell? ⟨g, 0, none⟩ = some a ∧ w'.cell? ⟨g, 1, none⟩ = some b ∧ g < w'.heap.size := by
 subst hg
 have h := (hb.block w.heap.size (by simp)).trans (heap_alloc_new w _)
 exact ⟨cell_of_row _ _ 0 _ _ _ h, cell_of_row _ _ 1 _ _ _ h, (Array.getElem?_eq_some_iff.1 h).1⟩
theorem shS_mem : ∀ {ss : List Sm} {x : Sm}, x ∈ ss → x.shape.length ≤ shS ss
 | [], x, h => by cases h
 | y :: r, x, h => by
  show x.shape.length ≤ y.shape.length + shS r
  rcases List.mem_cons.1 h with rfl | h
  ·omega
  ·have := shS_mem h
   omega
theorem parsed_ok {F : Nat} {l : List Tok} {s : ByteArray} (hl : scanM s = .toks l) (hF : 12 * l.length + 20 ≤ F) (he : (parseP F l).err = none) : PrOk l (parseP F l).ss (parseP F l).es := by
 obtain ⟨hm, hms⟩ := parse_md hF he
 obtain ⟨h1, h2⟩ := print_size hl hF he
 have h3 := (scanM_len hl).1
 have h4 := es_small F l
 have h5 := loop_small he
 exact ⟨hm, h2, hms, fun x hx => (ss_small (scanM_names hl) F x hx).1, fun x hx => by have := shS_mem hx; have := parse_sh (L := l) F; omega, ⟨_, parse_to hF he⟩, h1, by omega, by omega⟩
theorem allS_eq : ∀ {a b : List Sm}, allS a b → EqSs false b a
 | [], [], _ => EqSs.refl _ _
 | x :: r, y :: q, h => by
  obtain ⟨h1, h2⟩ := h
  obtain ⟨h3, h4⟩ := allS_eq h2
  refine ⟨by rw [List.length_cons, List.length_cons, h3], fun i u v hu hv => ?_⟩
  cases i with
  | zero =>
   have e1 : y = u := Option.some.inj hu
   have e2 : x = v := Option.some.inj hv
   subst e1 e2
   obtain ⟨a1, a2, a3, a4, a5⟩ := h1
   exact ⟨a1.symm, a2.symm, a3.symm, a4.symm, a5.symm, fun h => by cases h⟩
  | succ i => exact h4 i u v hu hv
theorem sameE_eq {a b : List Ex} (hl : a.length = b.length) (h : ∀ (i : Nat) (x y : Ex), a[i]? = some x → b[i]? = some y → sameE x y) : EqEs false b a :=
 ⟨hl.symm, fun i x y hx hy => by
  obtain ⟨a1, a2, a3, a4⟩ := h i y x hy hx
  exact ⟨a1.symm, a2.symm, a3.symm, a4.symm, fun h => by cases h⟩⟩
set_option maxRecDepth 100000 in
set_option maxHeartbeats 4000000 in
theorem ParseBack_walk (w : World) (hg : ETyped w) (ht : ErrT w) (s : ByteArray) (hsz : s.size ≤ maxLen) :
  Calls Tryz.prog 3 #[.string s] w fun e w' => e = .returned (.bool true) ∧ Below w.heap.size w w' := by
 obtain ⟨T, hT⟩ : ∃ T, T = s.extract 0 (minN s.size 4200) := ⟨_, rfl⟩
 have hTs : T.size ≤ 4200 := by
  have := (minN_le s.size 4200).2.1
  rw [hT, ByteArray.size_extract]
  omega
 have hcut := cut_any s hsz
 rw [← hT] at hcut
 have HCUT := Lib.hid hcut
 have HTY := Lib.hid ht
 have HG := Lib.hid hg
 have HF := Lib.hid (show ∀ s l, scanM s = .toks l → 12 * l.length + 20 ≤ 6500 from fun s l hl => by have := (scanM_len hl).1; omega)
 clear hT hg ht hcut
 go_enter Tryz.func3, Tryz.ntmps3
 go_wp2_with fail
 refine (pawake_true _ HG.out HTY.out).mono ?_
 rintro e w1 ⟨rfl, b1⟩
 have HG1 := Lib.hid (HG.out.next b1)
 have HT1 := Lib.hid (HTY.out.next b1)
 have HB1 := Lib.hid b1
 clear b1
 go_wp2_with fail
 refine (HCUT.out w1).mono ?_
 rintro e wx ⟨rfl, rfl⟩
 go_wp2_with fail
 refine (text_any T 6500 w1 (by omega) HG1.out HT1.out (HF.out T)).mono ?_
 rintro e w2 ⟨b2, h⟩
 have HB2 := Lib.hid (bnext HB1.out b2)
 have HG2 := Lib.hid (HG1.out.next b2)
 have HT2 := Lib.hid (HT1.out.next b2)
 clear b2
 rcases h with ⟨l, hR, hok, SA, sc, EA, ec, rfl, oS, oE⟩ | ⟨l, c, p, v, hR, hbad, rfl, he⟩ | ⟨c, p, v, hR, rfl, he⟩
 ·have HPO := Lib.hid (parsed_ok hR (HF.out T l hR) hok)
  have HPB := Lib.hid (fun l' s' h1 h2 h3 => print_back (F := 6500) (F' := 6500) (l' := l') (s' := s') hR (HF.out T l hR) hok h1 h2 (HF.out s' l' h2) h3)
  obtain ⟨R, hRR⟩ : ∃ R, R = parseP 6500 l := ⟨_, rfl⟩
  rw [← hRR] at oS oE hok HPO HPB ⊢
  obtain ⟨ns, hns⟩ : ∃ ns, ns = R.ss.length := ⟨_, rfl⟩
  obtain ⟨ne, hne⟩ : ∃ ne, ne = R.es.length := ⟨_, rfl⟩
  rw [← hns, ← hne]
  have HNS := Lib.hid hns
  have HNE := Lib.hid hne
  have HOS := Lib.hid oS
  have HOE := Lib.hid oE
  clear hRR hns hne hR hok oS oE
  obtain ⟨T2, hT2⟩ : ∃ T2, T2 = strP R.ss R.es := ⟨_, rfl⟩
  have hT2s : T2.size ≤ 100000 := by
   rw [hT2]
   unfold strP
   rw [strB_size]
   exact HPO.out.htot
  have HT2D := Lib.hid (show T2.data.toList = wideL (prP R.ss R.es) from by
   rw [hT2]
   unfold strP
   rw [strB_data])
  have HPT := Lib.hid (fun (W : World) (hW : Below w2.heap.size w2 W) => print_txt HPO.out SA ns sc EA ne ec HNS.out HNE.out W (HOS.out.next hW).rd (HOE.out.next hW).rd)
  rw [← hT2] at HPT
  clear hT2
  go_wp2_with fail
  refine (HPT.out _ (one_new w2 _)).mono ?_
  rintro e w3 ⟨rfl, b3⟩
  obtain ⟨x0, x1, x2⟩ := tree_cells b3 rfl
  have b3' := bnext (one_new w2 _) b3
  have HB3 := Lib.hid (bnext HB2.out b3')
  have HG3 := Lib.hid (HG2.out.next b3')
  have HT3 := Lib.hid (HT2.out.next b3')
  have HOS3 := Lib.hid (HOS.out.next b3')
  have HOE3 := Lib.hid (HOE.out.next b3')
  clear b3 b3'
  go_wp2_with fail
  refine (text_any T2 6500 w3 hT2s HG3.out HT3.out (HF.out T2)).mono ?_
  rintro e w4 ⟨b4, h⟩
  have b4' := b4
  have HB4 := Lib.hid (bnext HB3.out b4)
  have HG4 := Lib.hid (HG3.out.next b4)
  have z0 := (b4.cell (p := ⟨w2.heap.size, 0, none⟩) x2).trans x0
  have z1 := (b4.cell (p := ⟨w2.heap.size, 1, none⟩) x2).trans x1
  have HX2 := Lib.hid (Nat.lt_of_lt_of_le x2 b4.size)
  have HOS4 := Lib.hid (HOS3.out.next b4)
  have HOE4 := Lib.hid (HOE3.out.next b4)
  clear b4 b4' x0 x1
  rcases h with ⟨l2, hR2, hok2, SA2, sc2, EA2, ec2, rfl, oS2, oE2⟩ | ⟨l2, c, p, v, hR2, hbad, rfl, he⟩ | ⟨c, p, v, hR2, rfl, he⟩
  ·have hpb := HPB.out l2 T2 HT2D.out hR2 hok2
   obtain ⟨R2, hRR2⟩ : ∃ R2, R2 = parseP 6500 l2 := ⟨_, rfl⟩
   rw [← hRR2] at oS2 oE2 hok2 hpb ⊢
   have HEQS := Lib.hid (allS_eq hpb.1)
   have HEQE := Lib.hid (sameE_eq hpb.2.1 hpb.2.2)
   have e1 : R2.ss.length = ns := by rw [HNS.out]; exact HEQS.out.1.symm
   have e2 : R2.es.length = ne := by rw [HNE.out]; exact HEQE.out.1.symm
   rw [e1, e2]
   have HOS2 := Lib.hid oS2
   have HOE2 := Lib.hid oE2
   have HR2 := Lib.hid hR2
   have HOK2 := Lib.hid (show (parseP 6500 l2).err = none from by rw [← hRR2]; exact hok2)
   clear hRR2 hpb e1 e2 oS2 oE2 hR2 hok2
   go_wp2_with fail
   refine (rtext_any T2 6500 _ hT2s (HF.out T2)).mono ?_
   rintro e w5 ⟨b5, h5⟩
   obtain ⟨y0, y1, y2⟩ := tree_cells b5 rfl
   have b5' := bnext (one_new w4 _) b5
   have u0 := (b5'.cell (p := ⟨w2.heap.size, 0, none⟩) HX2.out).trans z0
   have u1 := (b5'.cell (p := ⟨w2.heap.size, 1, none⟩) HX2.out).trans z1
   have HB5 := Lib.hid (bnext HB4.out b5')
   have HW := Lib.hid (fun (W : World) (hW : Below w5.heap.size w5 W) => same_tree_false SA SA2 EA EA2 ns ne sc sc2 ec ec2 R.ss R2.ss R.es R2.es W HNS.out HNE.out HEQS.out HEQE.out (by rw [HNS.out, HNE.out]; exact ⟨HOS.out.small.1, HOE.out.small.1⟩) HOS.out.small.2 HOE.out.small.2
    ((HOS4.out.next b5').next hW).rd ((HOS2.out.next b5').next hW).rd ((HOE4.out.next b5').next hW).rd ((HOE2.out.next b5').next hW).rd)
   have HX5 := Lib.hid (Nat.lt_of_lt_of_le HX2.out b5'.size)
   clear b5 b5' z0 z1
   rcases h5 with ⟨l', hR', hok', SA', sc', EA', ec', rfl, oS', oE'⟩ | ⟨l', c', p', hR', hbad', rfl⟩ | ⟨c', p', hR', rfl⟩
   ·have hb9 := one_new w5 (.cells #[.slice SA' (parseP 6500 l').ss.length sc', .slice EA' (parseP 6500 l').es.length ec'] 26)
    have v0 := (hb9.cell (p := ⟨w2.heap.size, 0, none⟩) HX5.out).trans u0
    have v1 := (hb9.cell (p := ⟨w2.heap.size, 1, none⟩) HX5.out).trans u1
    have v2 := (hb9.cell (p := ⟨w4.heap.size, 0, none⟩) y2).trans y0
    have v3 := (hb9.cell (p := ⟨w4.heap.size, 1, none⟩) y2).trans y1
    have HS := Lib.hid (HW.out _ hb9)
    have HB9 := Lib.hid (bnext HB5.out hb9)
    clear hb9 hR' hok' oS' oE'
    go_wp2_with fail
    refine HS.out.mono ?_
    rintro e w6 ⟨rfl, b6⟩
    have HB6 := Lib.hid (bnext HB9.out b6)
    clear b6
    go_wp2
    go_ret
    exact ⟨rfl, HB6.out⟩
   ·exfalso
    rw [HR2.out] at hR'
    injection hR' with h
    subst h
    rw [HOK2.out] at hbad'
    cases hbad'
   ·exfalso
    rw [HR2.out] at hR'
    cases hR'
  ·have HR2 := Lib.hid hR2
   have HBAD := Lib.hid hbad
   have HC0 := Lib.hid (parse_code hbad)
   clear hR2 hbad
   have HE := Lib.hid he
   obtain ⟨te, xe, rfl⟩ := he.iface
   clear he
   go_wp2_with fail
   refine (rtext_any T2 6500 _ hT2s (HF.out T2)).mono ?_
   rintro e w5 ⟨b5, h5⟩
   obtain ⟨y0, y1, y2⟩ := tree_cells b5 rfl
   have b5' := bnext (one_new w4 _) b5
   have HB5 := Lib.hid (bnext HB4.out b5')
   have HG5 := Lib.hid (HG4.out.next b5')
   have HE5 := Lib.hid (HE.out.next b5')
   clear b5 b5'
   rcases h5 with ⟨l', hR', hok', SA', sc', EA', ec', rfl, oS', oE'⟩ | ⟨l', c', p', hR', hbad', rfl⟩ | ⟨c', p', hR', rfl⟩
   ·exfalso
    rw [HR2.out] at hR'
    injection hR' with h
    subst h
    rw [HBAD.out] at hok'
    cases hok'
   ·have hcp : (c', p') = (c, p) := by
     rw [HR2.out] at hR'
     injection hR' with h
     subst h
     rw [HBAD.out] at hbad'
     injection hbad' with h
     exact h.symm
    injection hcp with h1 h2
    subst h1 h2
    clear hR' hbad'
    have q0 : ((c' : Int) != 0) = true := by
     rw [bne_iff_ne]
     have := HC0.out
     omega
    go_wp2_with fail
    refine (Code_any _ _ _ _ (HG5.out.next (one_new w5 _)) (HE5.out.next (one_new w5 _))).mono ?_
    rintro e w6 ⟨rfl, b6⟩
    have HB6 := Lib.hid (bnext HB5.out (bnext (one_new w5 _) b6))
    clear b6
    go_wp2
    go_ret
    exact ⟨rfl, HB6.out⟩
   ·exfalso
    rw [HR2.out] at hR'
    cases hR'
  ·have HR2 := Lib.hid hR2
   have HC0 := Lib.hid (show c ≠ 0 from by have := scanM_code hR2; omega)
   clear hR2
   have HE := Lib.hid he
   obtain ⟨te, xe, rfl⟩ := he.iface
   clear he
   go_wp2_with fail
   refine (rtext_any T2 6500 _ hT2s (HF.out T2)).mono ?_
   rintro e w5 ⟨b5, h5⟩
   obtain ⟨y0, y1, y2⟩ := tree_cells b5 rfl
   have b5' := bnext (one_new w4 _) b5
   have HB5 := Lib.hid (bnext HB4.out b5')
   have HG5 := Lib.hid (HG4.out.next b5')
   have HE5 := Lib.hid (HE.out.next b5')
   clear b5 b5'
   rcases h5 with ⟨l', hR', hok', SA', sc', EA', ec', rfl, oS', oE'⟩ | ⟨l', c', p', hR', hbad', rfl⟩ | ⟨c', p', hR', rfl⟩
   ·exfalso
    rw [HR2.out] at hR'
    cases hR'
   ·exfalso
    rw [HR2.out] at hR'
    cases hR'
   ·have hcp : c' = c ∧ p' = p := by
     rw [HR2.out] at hR'
     injection hR' with h1 h2
     exact ⟨h1.symm, h2.symm⟩
    obtain ⟨h1, h2⟩ := hcp
    subst h1 h2
    clear hR'
    have q0 : ((c' : Int) != 0) = true := by
     rw [bne_iff_ne]
     have := HC0.out
     omega
    go_wp2_with fail
    refine (Code_any _ _ _ _ (HG5.out.next (one_new w5 _)) (HE5.out.next (one_new w5 _))).mono ?_
    rintro e w6 ⟨rfl, b6⟩
    have HB6 := Lib.hid (bnext HB5.out (bnext (one_new w5 _) b6))
    clear b6
    go_wp2
    go_ret
    exact ⟨rfl, HB6.out⟩
 ·have HE := Lib.hid he
  obtain ⟨te, xe, rfl⟩ := he.iface
  clear hR hbad he
  go_wp2
  go_ret
  exact ⟨rfl, HB2.out.alloc HB2.out.size _⟩
 ·have HE := Lib.hid he
  obtain ⟨te, xe, rfl⟩ := he.iface
  clear hR he
  go_wp2
  go_ret
  exact ⟨rfl, HB2.out.alloc HB2.out.size _⟩
end Go.Proofs.YtghlnncfigkkaaaGreatDoor
namespace Go.Proofs.YtghlnncfigkkaaaGreatDoor.lawParseBack
open Go Go.ChangeShapes Go.WideShapes Go.ChangeAt Go.RowKit
set_option linter.unusedVariables false
set_option maxRecDepth 100000 in
theorem lifted (os : Os) (started : os.Started) (H : Type) (enc : TypeId × Value → H) :
  ReturnsInHanded {} Tryz.checked os 3 .any (fun w args => (Rows.parseBackSpec.pre enc Tryz.prog Tryz.f3 [] false w args ∧ LaidW w) ∧ sizedMet enc Tryz.prog Tryz.f3 (OpenSpec.ofChange Rows.parseBackSpec) false w args)
   (Rows.parseBackSpec.post enc Tryz.prog Tryz.f3 false true false false) := by
 refine returnsInHanded_of_change_and (C := Tryz.checked) (X := fun w _ => LaidW w) (fun _ _ _ hh h => h.of_heap hh) dOwn started (by kernel_rfl) Tryz.func3
  (ChangeSpec.witness_shaped (enc := enc) (C := Tryz.checked) (os := os) (X := fun w _ => LaidW w) false (dWorld os) #[.string ⟨#[]⟩] 8 rfl (World.shaped_of_RefB (by kernel_rfl) (by kernel_rfl)) (by kernel_rfl) (by kernel_rfl) (by kernel_rfl) (dWorld_met os _)) ?_
 intro W base args ds gs before hval0 hW _ hsz0 hL _
 have hval : ∀ (j : Nat) t v, Tryz.f3.params[j]? = some t → args[j]? = some v → Value.okWide Tryz.prog W .any base t v := hval0
 have hW' := hW
 have hg := etyped_of_laid hL
 have ht := errt_of_laid hL
 obtain ⟨p, q, hA0, hV, rfl, hfz, hnd⟩ := hW
 have hA : DataW.TrodAll enc Tryz.prog W 0 (fun _ => true) true Tryz.f3.params.toList args.toList ds p := hA0
 have hsz : (DataW.weightsEach Tryz.prog (Tryz.f3.params.toList ++ Rows.parseBackSpec.plain.varTypes Tryz.prog) (ds ++ gs)).all (· ≤ reachBytes) = true := hsz0
 rw [Tryz.params3] at hA hval hsz
 obtain ⟨v0, vs0, d0, ds0, p0, q0, hargs, rfl, rfl, h0, r0⟩ := trodAll_cons hA
 obtain ⟨rfl, rfl, rfl⟩ := trodAll_nil r0
 obtain rfl : args = #[v0] := by cases args; simp_all
 obtain ⟨rfl, rfl⟩ : gs = [] ∧ q = [] := trodVars_none hV
 have k0 := h0
 have lt0 : ∀ x ∈ p0, x.block < W.heap.size := by obtain ⟨m, hm⟩ := k0; exact DataW.trod_lt m _ _ _ hm
 obtain ⟨a0, rfl, e0, f0, m0⟩ := Go.ChangeMaps.open_string Tryz.underlying9 (hval 0 9 v0 rfl rfl) h0
 clear hA0 hval0 hsz0 hsz
 refine (ParseBack_walk W hg ht a0 m0).mono fun e W' ⟨he, bel⟩ => ?_
 subst he
 exact ⟨_, rfl, _, _, _, [], _, [], hW', trodAll_mk1 (shut_bool Tryz.underlying4 _), (trodAll_cons_mk (Below.trod dLaidOut (by kernel_rfl) (of_decide_eq_true (by kernel_rfl)) k0 bel lt0) trodAll_mk0), rfl, bel.frame _, fun h => by cases h⟩
theorem over : Rows.ParseBackSaid :=
 OpenClaim.holds_of_wide 3 Tryz.f3 rfl rfl rfl rfl rfl rfl rfl ⟨rfl, rfl, rfl, rfl, rfl⟩ rfl rfl rfl rfl rfl (by kernel_rfl) Tryz.func3 (by kernel_rfl)
  (of_decide_eq_true (by kernel_rfl)) (by unfold Func.isWrapper; first | (rw [if_pos (by decide +kernel)]; kernel_rfl) | (rw [if_neg (by decide +kernel)]; exact ⟨rfl, rfl⟩))
  (fun os started H enc _ => lifted os started H enc)
theorem proved : Rows.ParseBackCardSaid :=
 Claim7.holds_tied_plain_at .later [] [.data, .data, .data, .handle, .sentinel, .sentinel] true Rows.parseBackCard.stood.harness true
  over (fun _ h => by cases h) (by kernel_rfl) (fun _ h => by cases h) parseBack_row_tie rfl ⟨rfl, rfl⟩ (by kernel_rfl) rfl
  (fun f fn hf hfn => by
   obtain rfl : f = 3 := Option.some.inj ((show Tryz.prog.funcNamed "twain/twainlaw13.ParseBack" = some 3 by kernel_rfl).symm.trans hf) |>.symm
   obtain rfl : fn = Tryz.f3 := (Option.some.inj (Tryz.func3.symm.trans hfn)).symm
   exact ⟨by kernel_rfl, fun j t ht => by
    rw [Tryz.params3] at ht
    have hm : t ∈ [9] := List.mem_of_getElem? (by simpa using ht)
    have hall : ∀ t ∈ [9], Tryz.prog.wantsStandIn t = false := by
     intro t ht
     simp only [List.mem_cons, List.not_mem_nil, or_false] at ht
     subst ht; kernel_rfl
    exact hall t hm⟩)
  (by kernel_rfl)
end Go.Proofs.YtghlnncfigkkaaaGreatDoor.lawParseBack
