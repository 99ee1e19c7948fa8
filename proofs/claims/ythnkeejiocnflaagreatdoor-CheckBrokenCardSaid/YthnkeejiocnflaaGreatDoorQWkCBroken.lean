/-
  The walk of the law CheckBroken.
-/
import Derived.Test.YthnkeejiocnflaaGreatDoorQIs
import Derived.Test.YthnkeejiocnflaaGreatDoorQBkC
import Derived.Test.YthnkeejiocnflaaGreatDoorQWkCTexts
namespace Go.Proofs.YthnkeejiocnflaaGreatDoor
set_option linter.unusedVariables false
set_option linter.unusedSimpArgs false
open Go.RowKit
def isNm (es : List EI) (k : Nat) : Bool := ((es[k]?.map EI.kind).getD 0) == 2
/-- The places of names among the first i expressions. -/
def nmI (es : List EI) (i : Nat) : List Int := ((List.range i).filter (isNm es)).map Int.ofNat
theorem nmI_succ (es : List EI) (i : Nat) : nmI es (i + 1) = if isNm es i then nmI es i ++ [(i : Int)] else nmI es i := by
  unfold nmI
  rw [List.range_succ, List.filter_append, List.map_append]
  cases h : isNm es i with
  | true => simp [h]
  | false => simp [h]
theorem nmI_len (es : List EI) (i : Nat) : (nmI es i).length ≤ i := by
  unfold nmI
  rw [List.length_map]
  exact Nat.le_trans (List.length_filter_le _ _) (by simp)
theorem nmI_at {es : List EI} {i k : Nat} {x : Int} (h : (nmI es i)[k]? = some x) : ∃ (j : Nat) (e : EI), x = j ∧ j < i ∧ es[j]? = some e ∧ e.kind = 2 := by
  have hm := List.mem_of_getElem? h
  unfold nmI at hm
  obtain ⟨j, hj, rfl⟩ := List.mem_map.1 hm
  obtain ⟨h1, h2⟩ := List.mem_filter.1 hj
  unfold isNm at h2
  cases he : es[j]? with
  | none => rw [he] at h2; exact absurd h2 (by decide)
  | some e =>
    rw [he] at h2
    exact ⟨j, e, rfl, List.mem_range.1 h1, he, by simpa using h2⟩
theorem idx_q (n : Nat) (h0 : n ≠ 0) (h : n ≤ 140737488351232) (x : Int) : ∃ i : Nat, i < n ∧ wrap64 ((IntKind.u64.wrap x).tmod (n : Int)) = (i : Int) := by
  rw [wrapN]
  have h1 : 0 ≤ x % 18446744073709551616 := Int.emod_nonneg _ (by omega)
  rw [Int.tmod_eq_emod_of_nonneg h1]
  have h2 : 0 ≤ x % 18446744073709551616 % (n : Int) := Int.emod_nonneg _ (by omega)
  have h3 : x % 18446744073709551616 % (n : Int) < n := Int.emod_lt_of_pos _ (by omega)
  refine ⟨(x % 18446744073709551616 % (n : Int)).toNat, by omega, ?_⟩
  unfold wrap64
  generalize x % 18446744073709551616 % (n : Int) = m at *
  omega
theorem nmI_get {es : List EI} {i n k : Nat} (hn : n = (nmI es i).length) (h : k < n) : ∃ (j : Nat) (e : EI), (nmI es i)[k]? = some (j : Int) ∧ j < i ∧ es[j]? = some e ∧ e.kind = 2 := by
  have hx : (nmI es i)[k]? = some ((nmI es i)[k]'(by omega)) := List.getElem?_eq_getElem _
  obtain ⟨j, e, h1, h2⟩ := nmI_at hx
  exact ⟨j, e, by rw [hx, h1], h2⟩
def brkB : ByteArray := { data := #[110, 111, 32, 115, 117, 99, 104, 32, 110, 97, 109, 101, 32, 105, 115, 32, 116, 104, 101, 114, 101] }
theorem brk_list : brkB.toList = [110, 111, 32, 115, 117, 99, 104, 32, 110, 97, 109, 101, 32, 105, 115, 32, 116, 104, 101, 114, 101] := by rw [ByteArray.toList_eq]; rfl
set_option maxRecDepth 100000 in
set_option maxHeartbeats 8000000 in
theorem CheckBroken_walk (w : World) (hg : ETyped w) (ht : ErrT w) (s : ByteArray) (hsz : s.size ≤ maxLen) (at_ : Int) (ha1 : -9223372036854775808 ≤ at_) (ha2 : at_ ≤ 9223372036854775807) :
    Calls Tryz.prog 4 #[.string s, .int .i64 at_] w fun e w' => e = .returned (.bool true) ∧ Below w.heap.size w w' := by
  obtain ⟨s2, hs2⟩ : ∃ s2, s2 = s.extract 0 (minN s.size 4200) := ⟨_, rfl⟩
  have hz2 : s2.size ≤ 100000 := by
    have := (minN_le s.size 4200).2.1
    rw [hs2, ByteArray.size_extract]
    omega
  obtain ⟨F, hF⟩ : ∃ F, ∀ l, scanM s2 = .toks l → 12 * l.length + 20 ≤ F := by
    cases h : scanM s2 with
    | toks l => exact ⟨12 * l.length + 20, fun l' h' => by injection h' with h'; subst h'; exact Nat.le_refl _⟩
    | err c p => exact ⟨0, fun l' h' => by cases h'⟩
  have HF := Lib.hid hF
  have HZ2 := Lib.hid hz2
  have HW := Lib.hid (cawake_true w hg ht)
  have HCUT := Lib.hid (fun W => cut_any s hsz W)
  rw [← hs2] at HCUT
  have HG := Lib.hid hg
  have HT := Lib.hid ht
  clear hs2 hz2 hF hg ht
  go_enter Tryz.func4, Tryz.ntmps4
  go_wp2_with (first
    | (go_at_call 9; refine HW.out.mono ?_; rintro e w1 ⟨rfl, b1⟩; have HB1 := Lib.hid b1; have HG1 := Lib.hid (HG.out.next b1); have HT1 := Lib.hid (HT.out.next b1); clear b1)
    | (go_at_call 13; refine (HCUT.out _).mono ?_; rintro e w' ⟨rfl, rfl⟩))
  refine (text_any s2 F w1 HZ2.out HG1.out HT1.out HF.out).mono ?_
  rintro e w2 ⟨hb2, h⟩
  rcases h with ⟨l, hl, he, SA, sc, EA, ec, rfl, oS, oE⟩ | ⟨l, c, p, v, hl, he, rfl, hv⟩ | ⟨c, p, v, hl, rfl, hv⟩
  · have hlen := (scanM_len hl).1
    have hns := loop_small he
    have hne := es_small F l
    have hS := oS.int
    have hE := oE.int
    have hnm := parse_name (scanM_names hl) F (nm := brkB) (by decide)
    have hsp := parse_shape l F
    have hbr := fun (sh : List (List Int)) (j : Nat) (e : EI) => broken_law (sh := sh) (j := j) (e := e) (nm := brkB) (HF.out l hl) he
    obtain ⟨ss, hss⟩ : ∃ ss, ss = (parseP F l).ss.map SI.of := ⟨_, rfl⟩
    obtain ⟨es, hes⟩ : ∃ es, es = (parseP F l).es.map EI.of := ⟨_, rfl⟩
    rw [← hss] at hS hnm hsp
    rw [← hes] at hE
    rw [← hss, ← hes] at hbr
    have HBR := Lib.hid (fun sh j e hc hj hk => hbr sh j e hc hj hk hnm)
    obtain ⟨ns, hn1⟩ : ∃ ns, ns = (parseP F l).ss.length := ⟨_, rfl⟩
    obtain ⟨ne, hn2⟩ : ∃ ne, ne = (parseP F l).es.length := ⟨_, rfl⟩
    have hls := Lib.hid (show ns = ss.length from by rw [hss, List.length_map, hn1])
    have hle := Lib.hid (show ne = es.length from by rw [hes, List.length_map, hn2])
    have hns' : ns ≤ 64 := by rw [hn1]; exact hns
    have hne' : ne ≤ 513 := by rw [hn2]; exact Nat.le_trans hne hlen
    rw [← hn1, ← hn2]
    have HG2 := Lib.hid (HG1.out.next hb2)
    have HB2 := Lib.hid (bnext HB1.out hb2)
    have HS2 := Lib.hid hS
    have HE2 := Lib.hid hE
    have HNM := Lib.hid hnm
    have HSP := Lib.hid hsp
    clear hlen hns hne hS hE hss hes hn1 hn2 oS oE hl he hb2 hnm hsp hbr
    go_wp2_with fail
    obtain ⟨w3, hw3⟩ : ∃ w3, w3 = w2.alloc (.cells #[.slice SA ns sc, .slice EA ne ec] 29) := ⟨_, rfl⟩
    rw [← hw3]
    have hb3 : Below w2.heap.size w2 w3 := by rw [hw3]; exact (Below.refl _ _).alloc (Nat.le_refl _) _
    have hA : w3.heap[w2.heap.size]? = some (.cells #[.slice SA ns sc, .slice EA ne ec] 29 (0, 0)) := by rw [hw3]; exact heap_alloc_new w2 _
    have HTB := Lib.hid (fun W (hW : Below w3.heap.size w3 W) => (hW.block _ (Array.getElem?_eq_some_iff.1 hA).1).trans hA)
    have hlt2 : w2.heap.size < w3.heap.size := (Array.getElem?_eq_some_iff.1 hA).1
    obtain ⟨tb, htb⟩ : ∃ tb, tb = w2.heap.size := ⟨_, rfl⟩
    rw [← htb] at HTB hlt2 ⊢
    have HG3 := Lib.hid (HG2.out.next hb3)
    have HB3 := Lib.hid (bnext HB2.out hb3)
    have HS3 := Lib.hid (HS2.out.next hb3)
    have HE3 := Lib.hid (HE2.out.next hb3)
    clear hw3 hb3 hA htb
    refine (check_any SA EA ns ne sc ec ss es w3 hls.out hle.out (by omega) (by omega) HS3.out HE3.out HG3.out).mono ?_
    cases hc : checkC ss es with
    | inl sh =>
      rintro e w4 ⟨hb4, q, rfl, hO⟩
      have hA4 := HTB.out _ hb4
      have z0 := cell_of_row _ _ 0 _ _ _ hA4
      have z1 := cell_of_row _ _ 1 _ _ _ hA4
      have HB4 := Lib.hid hb4
      have HC := Lib.hid hc
      have HSS := Lib.hid (ownSs_same hc (by rw [← hls.out]; omega) HSP.out)
      have HEE := Lib.hid (ownEs_same hc (by rw [← hle.out]; omega))
      clear hb4 hO hA4 hc
      go_wp2_with fail
      go_loopw [8, 38] (fun nv iv wr => ∃ (i n c : Nat) (A : Option Addr), i ≤ ne ∧ iv = .int .i64 i ∧ nv = .slice A n c ∧ n = (nmI es i).length ∧ Own wr w4.heap.size 3 A c ((nmI es i).map VI) ∧ Below w4.heap.size w4 wr) (fun nv iv _ => ne - (intOf iv).toNat)
      case atStart => exact ⟨0, 0, 0, none, by omega, rfl, rfl, rfl, Own.nil _ _ _, Below.refl _ _⟩
      case round =>
        obtain ⟨i, n, c, A, hi, rfl, rfl, hn, hO, hb⟩ := hrel
        have hB3 := HB4.out.trans (hb.mono HB4.out.size)
        have hA5 := HTB.out _ hB3
        have y0 := cell_of_row _ _ 0 _ _ _ hA5
        have y1 := cell_of_row _ _ 1 _ _ _ hA5
        have HN := Lib.hid hn
        have HO := Lib.hid hO
        have HB5 := Lib.hid hb
        have hnl : n ≤ 513 := by have := nmI_len es i; omega
        clear hn hO hb hA5
        by_cases hlt : i < ne
        · have ht : es[i]? = some (es[i]'(by rw [← hle.out]; exact hlt)) := List.getElem?_eq_getElem _
          obtain ⟨x, hx⟩ : ∃ x, x = es[i]'(by rw [← hle.out]; exact hlt) := ⟨_, rfl⟩
          rw [← hx] at ht
          obtain ⟨b, o, rfl, hbl, c0, _⟩ := (HE3.out.next hB3).at_ ht
          have i0 : (0 : Int) ≤ (i : Int) := by omega
          have i1 : (i : Int) < (ne : Int) := by omega
          have HK := Lib.hid (show isNm es i = (x.kind == 2) from by unfold isNm; rw [ht]; rfl)
          clear ht hx hB3
          cases hk : (x.kind == 2) with
          | true =>
            have HNS := Lib.hid (show nmI es (i + 1) = nmI es i ++ [(i : Int)] from by rw [nmI_succ, HK.out, hk]; rfl)
            go_wp2_with (at_builtin; (refine appV rfl (.tmp 48) (.tmp 50) rfl w4.heap.size A c (nmI es i) n HN.out.symm rfl (HO.out.alloc _) (some ⟨wr.heap.size, 0, none⟩) 1 1 (wr.heap.size + 1) [(i : Int)] rfl rfl (Rd.one _ _ _) (fun e => by cases e) (by omega) (by rw [World.size_alloc]; have := HB5.out.size; omega) ?_); intro A9 c9 w9 o9 g9 h9; have O9 := Lib.hid o9; have B9 := Lib.hid (grown_below (HB5.out.alloc HB5.out.size _) g9 (by rw [World.size_alloc]; have := HB5.out.size; omega) (fun k hk => (HO.out.lt k hk).1)); clear o9 g9 h9)
            exact ⟨⟨i + 1, n + 1, c9, A9, by omega, rfl, rfl, by rw [HNS.out, List.length_append, HN.out]; rfl, by rw [HNS.out]; exact O9.out, B9.out⟩, by simp [intOf]; omega⟩
          | false =>
            have HNS := Lib.hid (show nmI es (i + 1) = nmI es i from by rw [nmI_succ, HK.out, hk]; rfl)
            go_wp2
            exact ⟨⟨i + 1, n, c, A, by omega, rfl, rfl, by rw [HNS.out, HN.out], by rw [HNS.out]; exact HO.out, HB5.out⟩, by simp [intOf]; omega⟩
        · obtain rfl : ne = i := by omega
          clear hlt
          by_cases hn0 : n = 0
          · subst hn0
            clear z0 z1
            go_wp2
            go_ret
            exact ⟨by simp, bnext HB3.out (HB4.out.trans (HB5.out.mono HB4.out.size))⟩
          · obtain ⟨wo, rfl⟩ : ∃ wo, wo = wr := ⟨_, rfl⟩
            have q0 : ((n : Int) == 0) = false := by rw [beq_eq_false_iff_ne]; omega
            have HB35 := Lib.hid (HB4.out.trans (HB5.out.mono HB4.out.size))
            have HS5 := Lib.hid (HS3.out.next HB35.out)
            have HE5 := Lib.hid (HE3.out.next HB35.out)
            clear z0 z1 hB3
            go_wp2_with fail
            refine (own_any SA EA ns ne sc ec ss es wo hls.out hle.out (by omega) (by omega) HS5.out HE5.out).mono ?_
            rintro e w6 ⟨hb6, UA, uc, VA, vc, rfl, oU, oV⟩
            rw [HSS.out, HEE.out, ← hls.out, ← hle.out]
            rw [HSS.out] at oU
            rw [HEE.out] at oV
            have HB36 := Lib.hid (HB35.out.trans (hb6.mono HB35.out.size))
            have hA6 := HTB.out _ HB36.out
            have z0 := cell_of_row _ _ 0 _ _ _ hA6
            have z1 := cell_of_row _ _ 1 _ _ _ hA6
            go_wp2_with fail
            obtain ⟨w7, hw7⟩ : ∃ w7, w7 = w6.alloc (.cells #[.slice UA ns uc, .slice VA ne vc] 29) := ⟨_, rfl⟩
            rw [← hw7]
            have hb7 : Below w6.heap.size w6 w7 := by rw [hw7]; exact (Below.refl _ _).alloc (Nat.le_refl _) _
            have hU : w7.heap[w6.heap.size]? = some (.cells #[.slice UA ns uc, .slice VA ne vc] 29 (0, 0)) := by rw [hw7]; exact heap_alloc_new w6 _
            obtain ⟨ub, hub⟩ : ∃ ub, ub = w6.heap.size := ⟨_, rfl⟩
            rw [← hub] at hU ⊢
            obtain ⟨K, hK, hix⟩ := idx_q n hn0 (by omega) at_
            obtain ⟨j, ej, hj1, hj2, hj3, hj4⟩ := nmI_get HN.out hK
            have hO7 := (HO.out.next hb6).next hb7
            have hV7 := oV.next hb7
            have hU7 := oU.next hb7
            have hj1' : ((nmI es ne).map VI)[K]? = some (.int .i64 (j : Int)) := by rw [List.getElem?_map, hj1]; rfl
            obtain ⟨gb, go, rfl, hgl, gc⟩ := hO7.rd.at_ hj1'
            obtain ⟨vb, vo, hVA, hvl, ve⟩ := hV7.rd.at_ hj3
            obtain ⟨vg, cur, hV2⟩ : ∃ vg cur, VA = some ⟨vg, 0, none⟩ ∧ wo.heap.size ≤ vg ∧ w7.heap[vg]? = some (.cells cur 41 (0, 0)) := by
              rcases hV7.form with e | ⟨vg, cur, e, hb, hc⟩
              · rw [e] at hVA; cases hVA
              · exact ⟨vg, cur, e, hb, hc⟩
            obtain ⟨rfl, hvb, hvc⟩ := hV2
            injection hVA with hVA
            injection hVA with hVA1 hVA2
            subst hVA1 hVA2
            have u0 := cell_of_row _ _ 0 _ _ _ hU
            have u1 := cell_of_row _ _ 1 _ _ _ hU
            have e1 := ve.c1
            rw [Nat.zero_add] at e1
            have ef : ∀ k, w7.frozen? ⟨vg, k, none⟩ = false := fun k => by simp [World.frozen?, hvc]
            have k0 : (0 : Int) ≤ (K : Int) := by omega
            have k1 : (K : Int) < (n : Int) := by omega
            have j0 : (0 : Int) ≤ (j : Int) := by omega
            have j1 : (j : Int) < (ne : Int) := by omega
            have HU7 := Lib.hid hU7
            have HV7 := Lib.hid hV7
            have HU := Lib.hid hU
            have HB67 := Lib.hid (bnext hb6 hb7)
            have HJ3 := Lib.hid hj3
            have HJ4 := Lib.hid hj4
            have HVC := Lib.hid hvc
            clear hw7 hub hU7 hV7 hU hb6 hb7 hj3 hj4 oU oV hvc hvl hgl ve hO7 hj1 hj1'
            go_region
            obtain ⟨w8, hw8⟩ : ∃ w8, w8 = (w7.setCell ⟨vg, j * 5 + 1, none⟩ (.string { data := #[110, 111, 32, 115, 117, 99, 104, 32, 110, 97, 109, 101, 32, 105, 115, 32, 116, 104, 101, 114, 101] })).drew := ⟨_, rfl⟩
            have hb8 : Below wo.heap.size wo w8 := by rw [hw8]; exact (setCell_below HB67.out hvb _).drew
            have hU8 : OwnSI w8 wo.heap.size UA uc ss := by rw [hw8]; exact HU7.out.other HVC.out (by decide) (by decide) _
            have hV8 : OwnEI w8 wo.heap.size (some ⟨vg, 0, none⟩) vc (es.set j (renE brkB ej)) := by rw [hw8]; exact HV7.out.name HJ3.out brkB
            have hT8 : w8.heap[ub]? = some (.cells #[.slice UA ns uc, .slice (some ⟨vg, 0, none⟩) ne vc] 29 (0, 0)) := by
              rw [hw8]
              exact (Below.heap_setCell w7 _ _ _ (fun e => by
                have e' : ub = vg := e
                have h1 := HU.out
                rw [e', HVC.out] at h1
                injection h1 with h1
                injection h1 with _ h1 _
                exact absurd h1 (by decide))).trans HU.out
            rw [← hw8]
            have HB8 := Lib.hid hb8
            have HU8 := Lib.hid hU8
            have HV8 := Lib.hid hV8
            have HT8 := Lib.hid hT8
            have HB38 := Lib.hid (HB35.out.trans (hb8.mono HB35.out.size))
            have z0' := cell_of_row _ _ 0 _ _ _ (HTB.out _ HB38.out)
            have z1' := cell_of_row _ _ 1 _ _ _ (HTB.out _ HB38.out)
            clear hw8 hb8 hU8 hV8 hT8 z0 z1 u0 u1 e1 ef gc y0 y1 hix
            go_wp2_with fail
            go_loopw [75] (fun iv wx => ∃ i : Nat, i ≤ ns ∧ iv = .int .i64 i ∧ Below w8.heap.size w8 wx) (fun iv _ => ns - (intOf iv).toNat)
            case atStart => exact ⟨0, by omega, rfl, Below.refl _ _⟩
            case round =>
              obtain ⟨i, hi, rfl, hbx⟩ := hrel
              by_cases hlt : i < ns
              · have hbo := HB8.out.trans (hbx.mono HB8.out.size)
                have ht : ss[i]? = some (ss[i]'(by rw [← hls.out]; exact hlt)) := List.getElem?_eq_getElem _
                obtain ⟨x, hx⟩ : ∃ x, x = ss[i]'(by rw [← hls.out]; exact hlt) := ⟨_, rfl⟩
                rw [← hx] at ht
                obtain ⟨b, o, rfl, hbl, c0, c1, c2, ⟨A3, k3, c3, _⟩, c4, c5⟩ := (HS5.out.next hbo).at_ ht
                have hne := HNM.out x (List.mem_of_getElem? ht)
                have i0 : (0 : Int) ≤ (i : Int) := by omega
                have i1 : (i : Int) < (ns : Int) := by omega
                have HBX := Lib.hid hbx
                have q1 : (x.name.toList == [110, 111, 32, 115, 117, 99, 104, 32, 110, 97, 109, 101, 32, 105, 115, 32, 116, 104, 101, 114, 101]) = false := by rw [beq_eq_false_iff_ne]; exact fun e => hne (e.trans brk_list.symm)
                clear hbx hbo ht hx hne
                go_wp2
                exact ⟨⟨i + 1, by omega, rfl, HBX.out.alloc HBX.out.size _⟩, by simp [intOf]; omega⟩
              · obtain rfl : ns = i := by omega
                have hT9 := (hbx.block _ (Array.getElem?_eq_some_iff.1 HT8.out).1).trans HT8.out
                have u0 := cell_of_row _ _ 0 _ _ _ hT9
                have u1 := cell_of_row _ _ 1 _ _ _ hT9
                have hbo := HB38.out.trans (hbx.mono HB38.out.size)
                have HBO := Lib.hid hbo
                have HG9 := Lib.hid (HG3.out.next hbo)
                have HU9 := Lib.hid (HU8.out.next hbx)
                have HV9 := Lib.hid (HV8.out.next hbx)
                have hle9 := Lib.hid (show ne = (es.set j (renE brkB ej)).length from by rw [List.length_set]; exact hle.out)
                clear hbx hbo hT9 z0' z1' hlt
                go_wp2_with fail
                refine (check_any UA (some ⟨vg, 0, none⟩) ns ne uc vc ss (es.set j (renE brkB ej)) wr hls.out hle9.out (by omega) (by omega) HU9.out.rd HV9.out.rd HG9.out).mono ?_
                rw [HBR.out sh j ej HC.out HJ3.out HJ4.out]
                rintro e w10 ⟨hb10, v, rfl, hv⟩
                have HV := Lib.hid hv
                have HB10 := Lib.hid (bnext HB3.out (HBO.out.trans (hb10.mono HBO.out.size)))
                obtain ⟨ti, xi, rfl⟩ := hv.iface
                clear hb10 hv u0 u1
                go_wp2_with (go_at_call 16; refine (Is_any _ _ _ _ _ HV.out).mono ?_; rintro e w11 ⟨rfl, rfl⟩)
                go_ret
                exact ⟨by simp, HB10.out⟩
    | inr cp =>
      obtain ⟨c, p⟩ := cp
      rintro e w4 ⟨hb4, v, rfl, hv⟩
      have hA4 := HTB.out _ hb4
      have z0 := cell_of_row _ _ 0 _ _ _ hA4
      have z1 := cell_of_row _ _ 1 _ _ _ hA4
      have HB4 := Lib.hid (bnext HB3.out hb4)
      obtain ⟨ti, xi, rfl⟩ := hv.iface
      clear hb4 hv hA4 hc
      go_wp2
      go_ret
      exact ⟨rfl, HB4.out⟩
  · obtain ⟨ti, xi, rfl⟩ := hv.iface
    have HB2 := Lib.hid (bnext HB1.out hb2)
    clear hb2 hv hl he
    go_wp2
    go_ret
    exact ⟨rfl, HB2.out.alloc HB2.out.size _⟩
  · obtain ⟨ti, xi, rfl⟩ := hv.iface
    have HB2 := Lib.hid (bnext HB1.out hb2)
    clear hb2 hv hl
    go_wp2
    go_ret
    exact ⟨rfl, HB2.out.alloc HB2.out.size _⟩
end Go.Proofs.YthnkeejiocnflaaGreatDoor
