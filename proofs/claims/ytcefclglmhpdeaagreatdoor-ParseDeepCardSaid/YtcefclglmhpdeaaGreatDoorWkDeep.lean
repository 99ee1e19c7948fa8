/-
  The walk of the law ParseDeep.
-/
import Derived.Test.YtcefclglmhpdeaaGreatDoorPAwake
import Derived.Test.YtcefclglmhpdeaaGreatDoorDeepL
import Derived.Test.YtcefclglmhpdeaaGreatDoorPlaces
namespace Go.Proofs.YtcefclglmhpdeaaGreatDoor
set_option linter.unusedVariables false
set_option linter.unusedSimpArgs false
open Go.RowKit
theorem mod_lit (x : Int) (m : Nat) (hm : 0 < m) (hm2 : m < 1000) : ∃ N : Nat, N < m ∧ wrap64 ((IntKind.u64.wrap x).tmod m) = (N : Int) := by
  have h0 : 0 ≤ IntKind.u64.wrap x ∧ IntKind.u64.wrap x < 18446744073709551616 := by
    unfold IntKind.wrap
    simp [IntKind.bits, IntKind.signed]
    omega
  have h1 : (IntKind.u64.wrap x).tmod m = IntKind.u64.wrap x % m := Int.tmod_eq_emod_of_nonneg h0.1
  have hl := Int.emod_lt_of_pos (IntKind.u64.wrap x) (b := (m : Int)) (by omega)
  have hg := Int.emod_nonneg (IntKind.u64.wrap x) (b := (m : Int)) (by omega)
  have h2 : wrap64 ((IntKind.u64.wrap x).tmod m) = IntKind.u64.wrap x % m := by
    rw [h1]
    exact IntWalk.wrap64_in (IntKind.u64.wrap x % m) (by omega)
  exact ⟨(IntKind.u64.wrap x % m).toNat, by omega, by rw [h2]; omega⟩
/-- The first loop's state: ahead, behind, the index. -/
def DeepRel (W : World) (N H : Nat) (av bv iv : Value) (wr : World) : Prop := ∃ (i : Nat) (J K : ByteArray), i ≤ N ∧ iv = .int .i64 i ∧ av = .string J ∧ bv = .string K ∧ J.data.toList = aheadL H i ∧ K.data.toList = behindL H i ∧ Below W.heap.size W wr
/-- The second loop's state: the text, the index. -/
def ManyRel (W : World) (jv iv : Value) (wr : World) : Prop := ∃ (i : Nat) (J : ByteArray), i ≤ 64 ∧ iv = .int .i64 i ∧ jv = .string J ∧ J.data.toList = manyL i ∧ Below W.heap.size W wr
theorem size_of {J : ByteArray} {l : List UInt8} (h : J.data.toList = l) : J.size = l.length := by rw [← h]; rfl
theorem deep_text {J K : ByteArray} {N H : Nat} (hj : J.data.toList = aheadL H N) (hk : K.data.toList = behindL H N) :
    ({ data := #[108, 101, 116, 32, 120, 32, 61, 32] } ++ J ++ { data := #[49] } ++ K ++ { data := #[59] } : ByteArray) = deepB N H := by
  apply ByteArray.ext
  apply Array.ext'
  unfold deepB deepL
  simp [hj, hk]
theorem many_text {J : ByteArray} (hj : J.data.toList = manyL 64) : J = manyB := by
  apply ByteArray.ext
  apply Array.ext'
  unfold manyB
  simp [hj]
theorem more_text : (manyB ++ { data := #[111, 117, 116, 112, 117, 116] } : ByteArray) = moreB := by
  apply ByteArray.ext
  apply Array.ext'
  unfold manyB moreB
  simp
theorem many_size : manyB.size = 576 := by
  have := manyL_len 64
  show ((manyL 64).toArray).size = 576
  simp [this]
theorem more_size : moreB.size = 582 := by
  rw [← more_text, ByteArray.size_append, many_size]; rfl
theorem deep_size (N H : Nat) : (deepB N H).size ≤ 6 * N + 10 := by
  show ((deepL N H).toArray).size ≤ _
  have h1 := aheadL_len H N
  have h2 := behindL_len H N
  unfold deepL
  simp
  omega
theorem tmod3 {H i : Nat} : ((H : Int) + (i : Int)).tmod 3 = (((H + i) % 3 : Nat) : Int) := by
  rw [Int.tmod_eq_emod_of_nonneg (by omega)]; omega
attribute [local irreducible] manyB moreB
set_option maxRecDepth 100000 in
set_option maxHeartbeats 4000000 in
theorem ParseDeep_walk (w : World) (hg : ETyped w) (ht : ErrT w) (x : Int) (hx1 : -9223372036854775808 ≤ x) (hx2 : x ≤ 9223372036854775807) (y : Int) (hy1 : -9223372036854775808 ≤ y) (hy2 : y ≤ 9223372036854775807) :
    Calls Tryz.prog 7 #[.int .i64 x, .int .i64 y] w fun e w' => e = .returned (.bool true) ∧ Below w.heap.size w w' := by
  have HTY := Lib.hid ht
  have HG := Lib.hid hg
  obtain ⟨N, hN, hNx⟩ := mod_lit x 40 (by omega) (by omega)
  obtain ⟨H, hH, hHx⟩ := mod_lit y 3 (by omega) (by omega)
  replace hNx : wrap64 ((IntKind.u64.wrap x).tmod 40) = (N : Int) := hNx
  replace hHx : wrap64 ((IntKind.u64.wrap y).tmod 3) = (H : Int) := hHx
  have HC := Lib.hid (deep_cases hN hH)
  clear hg ht
  go_enter Tryz.func7, Tryz.ntmps7
  go_wp2_with fail
  refine (pawake_true _ HG.out HTY.out).mono ?_
  rintro e w1 ⟨rfl, b1⟩
  have HG1 := Lib.hid (HG.out.next b1)
  have HT1 := Lib.hid (HTY.out.next b1)
  have HB1 := Lib.hid b1
  clear b1
  go_wp2
  rw [hNx, hHx]
  clear hNx hHx
  go_loopw [5, 6, 7] (fun av bv iv wr => DeepRel w N H av bv iv wr) (fun _ _ iv _ => N - (intOf iv).toNat)
  case atStart => exact ⟨0, ⟨#[]⟩, ⟨#[]⟩, Nat.zero_le _, rfl, rfl, rfl, rfl, rfl, HB1.out⟩
  case round =>
    obtain ⟨i, J, K, hi, rfl, rfl, rfl, hj, hk, hb⟩ := hrel
    have HB := Lib.hid hb
    have js : J.size ≤ 200 := by have := size_of hj; have := aheadL_len H i; omega
    have ks : K.size ≤ 40 := by have := size_of hk; have := behindL_len H i; omega
    have HJ := Lib.hid hj
    have HK := Lib.hid hk
    clear hb hj hk
    by_cases hlt : i < N
    · have T3 := Lib.hid (tmod3 (H := H) (i := i))
      have hr : (H + i) % 3 = 0 ∨ (H + i) % 3 = 1 ∨ (H + i) % 3 = 2 := by omega
      rcases hr with hr | hr | hr
      · have t3 : ((H : Int) + (i : Int)).tmod 3 = 0 := by rw [T3.out, hr]; rfl
        have HR := Lib.hid hr
        clear hr
        go_wp2
        refine ⟨⟨i + 1, J ++ { data := #[40] }, { data := #[41] } ++ K, by omega, by go_num, rfl, rfl, ?_, ?_, HB.out⟩, by simp [intOf]; omega⟩
        · rw [aheadL, if_pos HR.out, ← HJ.out]; simp
        · rw [behindL, if_pos HR.out, ← HK.out]; simp
      · have t3 : ((H : Int) + (i : Int)).tmod 3 = 1 := by rw [T3.out, hr]; rfl
        have HR := Lib.hid hr
        clear hr
        go_wp2
        refine ⟨⟨i + 1, J ++ { data := #[114, 101, 108, 117, 40] }, { data := #[41] } ++ K, by omega, by go_num, rfl, rfl, ?_, ?_, HB.out⟩, by simp [intOf]; omega⟩
        · rw [aheadL, if_neg (by rw [HR.out]; omega), if_pos HR.out, ← HJ.out]; simp
        · rw [behindL, if_neg (by rw [HR.out]; omega), if_pos HR.out, ← HK.out]; simp
      · have t3 : ((H : Int) + (i : Int)).tmod 3 = 2 := by rw [T3.out, hr]; rfl
        have HR := Lib.hid hr
        clear hr
        go_wp2
        refine ⟨⟨i + 1, J ++ { data := #[45] }, K, by omega, by go_num, rfl, rfl, ?_, ?_, HB.out⟩, by simp [intOf]; omega⟩
        · rw [aheadL, if_neg (by rw [HR.out]; omega), if_neg (by rw [HR.out]; omega), ← HJ.out]; simp
        · rw [behindL, if_neg (by rw [HR.out]; omega), if_neg (by rw [HR.out]; omega), ← HK.out]
    · obtain rfl : i = N := by omega
      have HD := Lib.hid (deep_text HJ.out HK.out)
      have HDS := Lib.hid (deep_size i H)
      have HGr := Lib.hid (HG.out.next HB.out)
      have HTr := Lib.hid (HTY.out.next HB.out)
      clear HJ HK
      obtain ⟨l, hl, hF, hcase⟩ := HC.out
      have HL := Lib.hid hl
      have HF := Lib.hid hF
      clear hl hF
      go_wp2_with fail
      rw [HD.out]
      rcases hcase with ⟨hn, he⟩ | ⟨hn, p, he⟩
      · have h32 : (i : Int) ≤ 32 := by omega
        refine (text_good (deepB i H) 3000 l wr (by have := HDS.out; omega) HGr.out HTr.out HF.out HL.out he).mono ?_
        rintro e w2 ⟨b2, SA, sc, EA, ec, rfl, oS, oE⟩
        obtain ⟨ns, hns⟩ : ∃ n, n = (parseP 3000 l).ss.length := ⟨_, rfl⟩
        obtain ⟨ne, hne⟩ : ∃ n, n = (parseP 3000 l).es.length := ⟨_, rfl⟩
        rw [← hns, ← hne]
        have HBx := Lib.hid (bnext HB.out b2)
        have HBv := Lib.hid (fun o : Obj => bnext HBx.out ((Below.refl _ _).alloc (Nat.le_refl _) o : Below w2.heap.size w2 (w2.alloc o)))
        clear hns hne oS oE b2 he hn
        go_wp2
        go_loopw [10, 11] (fun jv iv wr => ManyRel w jv iv wr) (fun _ iv _ => 64 - (intOf iv).toNat)
        case atStart => exact ⟨0, ⟨#[]⟩, by omega, rfl, rfl, rfl, HBv.out _⟩
        case round =>
          obtain ⟨i2, J2, hi2, rfl, rfl, hj2, hb2⟩ := hrel
          have HB2 := Lib.hid hb2
          have js2 : J2.size ≤ 576 := by have := size_of hj2; have := manyL_len i2; omega
          have HJ2 := Lib.hid hj2
          clear hb2 hj2
          by_cases hlt2 : i2 < 64
          · go_wp2
            refine ⟨⟨i2 + 1, J2 ++ { data := #[111, 117, 116, 112, 117, 116, 32, 97, 59] }, by omega, by go_num, rfl, by rw [manyL, ← HJ2.out]; simp, HB2.out⟩, by simp [intOf]; omega⟩
          · obtain rfl : i2 = 64 := by omega
            obtain rfl := many_text HJ2.out
            obtain ⟨lm, hlm, hFm, hem, hsm⟩ := many_cases
            obtain ⟨lo, hlo, hFo, heo⟩ := more_cases
            have HO := Lib.hid (And.intro hlo (And.intro hFo heo))
            have hms := many_size
            have HG2 := Lib.hid (HG.out.next HB2.out)
            have HT2 := Lib.hid (HTY.out.next HB2.out)
            have HTM := Lib.hid (fun wr => text_good manyB 3000 lm wr (by rw [many_size]; omega) (hF := hFm) (hl := hlm) (he := hem))
            have HSM := Lib.hid hsm
            clear hlo hFo heo hlm hFm hem hsm HJ2 hlt2 hi2
            go_wp2_with fail
            refine (HTM.out _ HG2.out HT2.out).mono ?_
            rintro e w3 ⟨b3, SA3, sc3, EA3, ec3, rfl, oS3, oE3⟩
            rw [HSM.out]
            obtain ⟨ne3, hne3⟩ : ∃ n, n = (parseP 3000 lm).es.length := ⟨_, rfl⟩
            rw [← hne3]
            have HB3 := Lib.hid (bnext HB2.out b3)
            clear hne3 oS3 oE3 b3
            go_wp2_with fail
            obtain ⟨w4, hw4⟩ : ∃ w4, w4 = w3.alloc (.cells #[.slice SA3 64 sc3, .slice EA3 ne3 ec3] 26) := ⟨_, rfl⟩
            rw [← hw4, more_text]
            have b4 : Below w3.heap.size w3 w4 := by rw [hw4]; exact (Below.refl _ _).alloc (Nat.le_refl _) _
            have ht4 : w4.heap[w3.heap.size]? = some (.cells #[.slice SA3 64 sc3, .slice EA3 ne3 ec3] 26 (0, 0)) := by rw [hw4]; exact heap_alloc_new w3 _
            have HB4 := Lib.hid (bnext HB3.out b4)
            clear hw4 b4
            refine (text_bad moreB 3000 lo 5 576 w4 (by rw [more_size]; omega) (HG.out.next HB4.out) (HTY.out.next HB4.out) HO.out.2.1 HO.out.1 HO.out.2.2).mono ?_
            rintro e w5 ⟨b5, v5, rfl, he5⟩
            have HB5 := Lib.hid (bnext HB4.out b5)
            have HT5 := Lib.hid ((b5.block _ (Array.getElem?_eq_some_iff.1 ht4).1).trans ht4)
            have HE5 := Lib.hid he5
            clear ht4 b5 he5
            go_wp2_with fail
            obtain ⟨w6, hw6⟩ : ∃ w6, w6 = w5.alloc (.cells #[.slice none 0 0, .slice none 0 0] 26) := ⟨_, rfl⟩
            rw [← hw6]
            have b6 : Below w5.heap.size w5 w6 := by rw [hw6]; exact (Below.refl _ _).alloc (Nat.le_refl _) _
            have HB6 := Lib.hid (bnext HB5.out b6)
            have HE6 := Lib.hid (HE5.out.next b6)
            have HT6 := Lib.hid ((b6.block _ (Array.getElem?_eq_some_iff.1 HT5.out).1).trans HT5.out)
            clear hw6 b6
            refine (At_one parN 576 5 v5 w6 (HG.out.next HB6.out) HE6.out).mono ?_
            rintro e w7 ⟨rfl, b7⟩
            have HB7 := Lib.hid (bnext HB6.out b7)
            have f0 := cell_of_row w7 _ 0 _ _ _ ((b7.block _ (Array.getElem?_eq_some_iff.1 HT6.out).1).trans HT6.out)
            clear b7
            go_wp2
            go_ret
            exact ⟨rfl, HB7.out⟩
      · have h32 : ¬ ((i : Int) ≤ 32) := by omega
        refine (text_bad (deepB i H) 3000 l 5 p wr (by have := HDS.out; omega) HGr.out HTr.out HF.out HL.out he).mono ?_
        rintro e w2 ⟨b2, v, rfl, he2⟩
        have HBx := Lib.hid (bnext HB.out b2)
        have HBv := Lib.hid (fun o : Obj => bnext HBx.out ((Below.refl _ _).alloc (Nat.le_refl _) o : Below w2.heap.size w2 (w2.alloc o)))
        have HI := Lib.hid (fun o : Obj => Is_any [(parN, (p : Int))] 5 5 v (w2.alloc o) (he2.next ((Below.refl _ _).alloc (Nat.le_refl _) o)))
        obtain ⟨te, xe, rfl⟩ := he2.iface
        clear b2 he he2 hn
        go_wp2_with (go_at_call 22; refine (HI.out _).mono ?_; rintro e w' ⟨rfl, rfl⟩)
        go_loopw [10, 11] (fun jv iv wr => ManyRel w jv iv wr) (fun _ iv _ => 64 - (intOf iv).toNat)
        case atStart => exact ⟨0, ⟨#[]⟩, by omega, rfl, rfl, rfl, HBv.out _⟩
        case round =>
          obtain ⟨i2, J2, hi2, rfl, rfl, hj2, hb2⟩ := hrel
          have HB2 := Lib.hid hb2
          have js2 : J2.size ≤ 576 := by have := size_of hj2; have := manyL_len i2; omega
          have HJ2 := Lib.hid hj2
          clear hb2 hj2
          by_cases hlt2 : i2 < 64
          · go_wp2
            refine ⟨⟨i2 + 1, J2 ++ { data := #[111, 117, 116, 112, 117, 116, 32, 97, 59] }, by omega, by go_num, rfl, by rw [manyL, ← HJ2.out]; simp, HB2.out⟩, by simp [intOf]; omega⟩
          · obtain rfl : i2 = 64 := by omega
            obtain rfl := many_text HJ2.out
            obtain ⟨lm, hlm, hFm, hem, hsm⟩ := many_cases
            obtain ⟨lo, hlo, hFo, heo⟩ := more_cases
            have HO := Lib.hid (And.intro hlo (And.intro hFo heo))
            have hms := many_size
            have HG2 := Lib.hid (HG.out.next HB2.out)
            have HT2 := Lib.hid (HTY.out.next HB2.out)
            have HTM := Lib.hid (fun wr => text_good manyB 3000 lm wr (by rw [many_size]; omega) (hF := hFm) (hl := hlm) (he := hem))
            have HSM := Lib.hid hsm
            clear hlo hFo heo hlm hFm hem hsm HJ2 hlt2 hi2
            go_wp2_with fail
            refine (HTM.out _ HG2.out HT2.out).mono ?_
            rintro e w3 ⟨b3, SA3, sc3, EA3, ec3, rfl, oS3, oE3⟩
            rw [HSM.out]
            obtain ⟨ne3, hne3⟩ : ∃ n, n = (parseP 3000 lm).es.length := ⟨_, rfl⟩
            rw [← hne3]
            have HB3 := Lib.hid (bnext HB2.out b3)
            clear hne3 oS3 oE3 b3
            go_wp2_with fail
            obtain ⟨w4, hw4⟩ : ∃ w4, w4 = w3.alloc (.cells #[.slice SA3 64 sc3, .slice EA3 ne3 ec3] 26) := ⟨_, rfl⟩
            rw [← hw4, more_text]
            have b4 : Below w3.heap.size w3 w4 := by rw [hw4]; exact (Below.refl _ _).alloc (Nat.le_refl _) _
            have ht4 : w4.heap[w3.heap.size]? = some (.cells #[.slice SA3 64 sc3, .slice EA3 ne3 ec3] 26 (0, 0)) := by rw [hw4]; exact heap_alloc_new w3 _
            have HB4 := Lib.hid (bnext HB3.out b4)
            clear hw4 b4
            refine (text_bad moreB 3000 lo 5 576 w4 (by rw [more_size]; omega) (HG.out.next HB4.out) (HTY.out.next HB4.out) HO.out.2.1 HO.out.1 HO.out.2.2).mono ?_
            rintro e w5 ⟨b5, v5, rfl, he5⟩
            have HB5 := Lib.hid (bnext HB4.out b5)
            have HT5 := Lib.hid ((b5.block _ (Array.getElem?_eq_some_iff.1 ht4).1).trans ht4)
            have HE5 := Lib.hid he5
            clear ht4 b5 he5
            go_wp2_with fail
            obtain ⟨w6, hw6⟩ : ∃ w6, w6 = w5.alloc (.cells #[.slice none 0 0, .slice none 0 0] 26) := ⟨_, rfl⟩
            rw [← hw6]
            have b6 : Below w5.heap.size w5 w6 := by rw [hw6]; exact (Below.refl _ _).alloc (Nat.le_refl _) _
            have HB6 := Lib.hid (bnext HB5.out b6)
            have HE6 := Lib.hid (HE5.out.next b6)
            have HT6 := Lib.hid ((b6.block _ (Array.getElem?_eq_some_iff.1 HT5.out).1).trans HT5.out)
            clear hw6 b6
            refine (At_one parN 576 5 v5 w6 (HG.out.next HB6.out) HE6.out).mono ?_
            rintro e w7 ⟨rfl, b7⟩
            have HB7 := Lib.hid (bnext HB6.out b7)
            have f0 := cell_of_row w7 _ 0 _ _ _ ((b7.block _ (Array.getElem?_eq_some_iff.1 HT6.out).1).trans HT6.out)
            clear b7
            go_wp2
            go_ret
            exact ⟨rfl, HB7.out⟩
end Go.Proofs.YtcefclglmhpdeaaGreatDoor
