/-
  The walk of the law LexEnds.
-/
import Derived.Test.YtbiobefcagboeaaDoorLAwake
import Derived.Test.YtbiobefcagboeaaDoorSame
import Derived.Test.YtbiobefcagboeaaDoorToksL
namespace Go.Proofs.YtbiobefcagboeaaDoor
set_option linter.unusedVariables false
set_option linter.unusedSimpArgs false
open Go.RowKit
theorem run_min_2000 (w : World) (ts : Array TypeId) (t : TypeId) (a : Nat) : (Builtin.min_ ts t #[.int .i64 (a : Int), .int .i64 2000]).run Tryd.prog w = .ok (.int .i64 (minN a 2000 : Nat)) w := run_min_lit w ts t a 2000
attribute [local go_sem ↓] run_min_2000
theorem RdT.take {w : World} {B : Nat} {A : Option Addr} {l r : List Tok} (h : RdT w B A (l ++ r)) : RdT w B A l := by
  rcases h with h | ⟨b, o, hA, hb, hc⟩
  · exact .inl (by simp at h; exact h.1)
  · refine .inr ⟨b, o, hA, hb, fun i j v hv hj => hc i j v ?_ hj⟩
    have e : tokFlat (l ++ r) = tokFlat l ++ tokFlat r := by unfold tokFlat; simp
    rw [e, List.getElem?_append_left (by
      by_cases hh : i * 4 + j < (tokFlat l).length
      · exact hh
      · rw [List.getElem?_eq_none (by omega)] at hv; cases hv)]
    exact hv
theorem mod4 (x : Int) : let q := wrap64 ((IntKind.u64.wrap x).tmod 4); q = 0 ∨ q = 1 ∨ q = 2 ∨ q = 3 := by
  have h0 : 0 ≤ IntKind.u64.wrap x ∧ IntKind.u64.wrap x < 18446744073709551616 := by
    unfold IntKind.wrap
    simp [IntKind.bits, IntKind.signed]
    omega
  have h1 : (IntKind.u64.wrap x).tmod 4 = IntKind.u64.wrap x % 4 := Int.tmod_eq_emod_of_nonneg h0.1
  have h2 : wrap64 ((IntKind.u64.wrap x).tmod 4) = IntKind.u64.wrap x % 4 := by
    rw [h1]
    exact IntWalk.wrap64_in (IntKind.u64.wrap x % 4) (by omega)
  intro q
  have h3 : q = wrap64 ((IntKind.u64.wrap x).tmod 4) := rfl
  omega
theorem word4 (x : Int) : ∃ (wd : ByteArray) (t v : Nat), wd.size ≤ 4 ∧ oneL wd.data.toList = some (t, wd.data.toList.length, v) ∧ ∀ W, (Instr.index 35 (.agg #[.string ⟨#[108, 101, 116]⟩, .string ⟨#[122, 122]⟩, .string ⟨#[55]⟩, .string ⟨#[62, 62]⟩]) (.int .i64 (wrap64 ((IntKind.u64.wrap x).tmod 4)))).run Tryd.prog W = .ok (.string wd) W := by
  have h := mod4 x
  rcases h with h | h | h | h
  · exact ⟨⟨#[108, 101, 116]⟩, 4, 0, by decide, by decide, fun W => by rw [h]; kernel_rfl⟩
  · exact ⟨⟨#[122, 122]⟩, 1, 0, by decide, by decide, fun W => by rw [h]; kernel_rfl⟩
  · exact ⟨⟨#[55]⟩, 2, 7, by decide, by decide, fun W => by rw [h]; kernel_rfl⟩
  · exact ⟨⟨#[62, 62]⟩, 3, 0, by decide, by decide, fun W => by rw [h]; kernel_rfl⟩
set_option maxRecDepth 100000 in
set_option maxHeartbeats 4000000 in
theorem LexEnds_walk (w : World) (hg : ETyped w) (ht : ErrT w) (s : ByteArray) (hsz : s.size ≤ maxLen) (more : Int) (hm1 : -9223372036854775808 ≤ more) (hm2 : more ≤ 9223372036854775807) :
    Calls Tryd.prog 5 #[.string s, .int .i64 more] w fun e w' => e = .returned (.bool true) ∧ Below w.heap.size w w' := by
  obtain ⟨m1, m2, m3⟩ := minN_le s.size 2000
  obtain ⟨M, hM⟩ : ∃ M, M = minN s.size 2000 := ⟨_, rfl⟩
  rw [← hM] at m1 m2
  clear m3
  obtain ⟨T, hT⟩ : ∃ T, T = s.extract 0 M := ⟨_, rfl⟩
  have hTs : T.size ≤ 2000 := by rw [hT, ByteArray.size_extract]; omega
  have HT := Lib.hid hT
  have HTY := Lib.hid ht
  have HG := Lib.hid hg
  have HM := Lib.hid hM
  have hm := hM.symm
  clear hT hg ht hM
  go_enter Tryd.func5, Tryd.ntmps5
  go_wp2_with fail
  refine (awake_true _ HG.out HTY.out).mono ?_
  rintro e w1 ⟨rfl, b1⟩
  have HG1 := Lib.hid (HG.out.next b1)
  have HT1 := Lib.hid (HTY.out.next b1)
  have HB1 := Lib.hid b1
  clear b1
  go_wp2_with fail
  rw [← HT.out]
  refine (scan_any T w1 (by omega) HG1.out HT1.out).mono ?_
  rintro e w2 ⟨b2, h⟩
  have HG2 := Lib.hid (HG1.out.next b2)
  have HT2 := Lib.hid (HT1.out.next b2)
  have HB2 := Lib.hid (bnext HB1.out b2)
  clear b2
  rcases h with ⟨l, A, cap, hR, rfl, o2⟩ | ⟨c, p, v, hR, rfl, he⟩
  · obtain ⟨r, hr, htk, hrl, _⟩ := scanM_iff hR
    have hlen : l.length = r.length + 1 := by rw [hr]; simp
    have hlast : l[r.length]? = some (endTok T) := by rw [hr]; simp
    obtain ⟨b, o, rfl, hbl, c0, c1, c2, c3⟩ := o2.rd.tok hlast
    obtain ⟨n, hn⟩ : ∃ n, n = r.length := ⟨_, rfl⟩
    rw [← hn] at c0 c1 c2 c3 hlen hrl
    have d0 : w2.cell? ⟨b, o + n * 4, none⟩ = some (.int .i64 0) := c0
    have d1 : w2.cell? ⟨b, o + n * 4 + 1, none⟩ = some (.string ⟨#[]⟩) := c1
    have d2 : w2.cell? ⟨b, o + n * 4 + 2, none⟩ = some (.int .u64 0) := c2
    have d3 : w2.cell? ⟨b, o + n * 4 + 3, none⟩ = some (.int .i64 T.size) := c3
    have HR := Lib.hid hr
    have HTK := Lib.hid htk
    have HO2 := Lib.hid o2
    have HLEN := Lib.hid hlen
    have HN := Lib.hid hn
    rw [hlen]
    have hq := tok_neq_same 0 0 (T.size : Int) ⟨#[]⟩
    have i0 : (0 : Int) ≤ (n : Int) := by omega
    have i1 : (n : Int) < (n : Int) + 1 := by omega
    have i3 : ((n : Int) + 1 == 0) = false := by rw [beq_eq_false_iff_ne]; omega
    clear hR hr htk o2 hlen hlast hbl c0 c1 c2 c3 hn
    by_cases h500 : (500 : Int) < (n : Int) + 1
    · have i4 : decide ((500 : Int) < (n : Int) + 1) = true := decide_eq_true h500
      go_wp2
      go_ret
      exact ⟨rfl, HB2.out⟩
    have i4 : decide ((500 : Int) < (n : Int) + 1) = false := decide_eq_false h500
    have i5 : n ≤ 499 := by omega
    clear h500
    obtain ⟨wd, wt, wv, hws, hwo, hidx⟩ := word4 more
    have HWO := Lib.hid hwo
    clear hwo
    obtain ⟨U, hU⟩ : ∃ U, U = T ++ { data := #[10] } ++ wd := ⟨_, rfl⟩
    have hUl : U.data.toList = T.data.toList ++ 10 :: wd.data.toList := by rw [hU]; simp
    have hUs : U.size ≤ 2005 := by
      have := congrArg List.length hUl
      rw [List.length_append, List.length_cons, len_data, len_data, len_data] at this
      omega
    obtain ⟨l2, hl2⟩ : ∃ l2, l2 = r ++ [⟨wt, wd, wv, T.size + 1⟩] ++ [endTok U] := ⟨_, rfl⟩
    have hsc : scanM U = .toks l2 := by
      have h := toks_ext HTK.out HWO.out
      rw [← hUl, Nat.zero_add, len_data] at h
      have := scanM_of (by omega) h (by rw [List.length_append]; simp; have := HN.out; omega)
      rw [hl2]
      exact this
    have hlen2 : l2.length = n + 2 := by rw [hl2]; simp; exact HN.out.symm
    have HL2 := Lib.hid hl2
    have HLEN2 := Lib.hid hlen2
    have HU := Lib.hid hU
    have HS := Lib.hid (scan_toks U l2 w2 (by omega) HG2.out HT2.out hsc)
    clear hl2 hlen2 hU hsc hUl
    go_wp2_with fail
    rw [← HU.out]
    refine HS.out.mono ?_
    rintro e w3 ⟨b3, A', cap', rfl, o3⟩
    have HO3 := Lib.hid o3
    have HO23 := Lib.hid (HO2.out.next b3)
    have HB3 := Lib.hid (bnext HB2.out b3)
    clear HS b3
    have hwt : l2[n]? = some ⟨wt, wd, wv, T.size + 1⟩ := by rw [HL2.out, HN.out]; simp
    obtain ⟨b', o', rfl, hbl, c0, c1, c2, c3⟩ := o3.rd.tok hwt
    have d1' : w3.cell? ⟨b', o' + n * 4 + 1, none⟩ = some (.string wd) := c1
    have d3' : w3.cell? ⟨b', o' + n * 4 + 3, none⟩ = some (.int .i64 ((T.size : Int) + 1)) := c3
    obtain ⟨n2, hn2⟩ : ∃ n2, n2 = n + 2 := ⟨_, rfl⟩
    rw [HLEN2.out, ← hn2]
    have hcap1 : n ≤ cap := by
      rcases HO2.out.form with ⟨h, _⟩ | ⟨g, cur, h1, h2, h3, h4, _⟩
      · cases h
      · have := HLEN.out; omega
    have hcap2 : n ≤ cap' := by
      rcases HO3.out.form with ⟨h, _⟩ | ⟨g, cur, h1, h2, h3, h4, _⟩
      · cases h
      · have := HLEN2.out; omega
    have f1 := fun W => run_cutAt_to (P := Tryd.prog) Tryd.underlying23 (size := 4) (fun W => by kernel_rfl) (some ⟨b, o, none⟩) (n := n + 1) hcap1 W
    have f2 := fun W => run_cutAt_to (P := Tryd.prog) Tryd.underlying23 (size := 4) (fun W => by kernel_rfl) (some ⟨b', o', none⟩) (n := n2) hcap2 W
    rw [cutA_zero _ _ _ (.inr ⟨_, _, rfl⟩)] at f1 f2
    have e1 : ((n2 : Int) != (n : Int) + 2) = false := by rw [bne_eq_false_iff_eq]; omega
    have e2 : ((n2 : Int) != (n : Int) + 1 + 1) = false := by rw [bne_eq_false_iff_eq]; omega
    have wn : IntKind.i64.wrap (n : Int) = (n : Int) := IntWalk.i64_in _ (by omega)
    have wn2 : IntKind.i64.wrap ((n : Int) + 1 + 1) = (n : Int) + 1 + 1 := IntWalk.i64_in _ (by omega)
    have wn3 : IntKind.i64.wrap ((n : Int) + 2) = (n : Int) + 2 := IntWalk.i64_in _ (by omega)
    have HN2 := Lib.hid hn2
    clear hn2
    have hRl : RdT w3 w3.heap.size (some ⟨b, o, none⟩) r := by have h := HO23.out.rd; rw [HR.out] at h; exact h.take
    have hRm : RdT w3 w3.heap.size (some ⟨b', o', none⟩) r := by have h := HO3.out.rd; rw [HL2.out] at h; exact h.take.take
    have hsame : ∀ W, Below w3.heap.size w3 W → Calls Tryd.prog 10 #[.slice (some ⟨b', o', none⟩) n cap', .slice (some ⟨b, o, none⟩) n cap] W fun e w' => e = .returned (.bool true) ∧ Below W.heap.size W w' := fun W hW => by
      have h := same_any (some ⟨b', o', none⟩) (some ⟨b, o, none⟩) cap' cap r W (by have := HN.out; omega) (hRm.next hW) (hRl.next hW)
      rwa [← HN.out] at h
    have HSM := Lib.hid hsame
    have HS0 := Lib.hid (show Below w3.heap.size w3 w3.drew from (Below.refl _ _).drew)
    have HD := Lib.hid (And.intro hbl (And.intro d1' d3'))
    clear c0 c1 c2 c3 hbl hwt o3 hRl hRm hsame d1' d3'
    go_wp2_with fail
    go_region_held3 (fun w' => Below w3.heap.size w3 w')
      (first | with_reducible exact HS0.out | assumption | exact bnext (by assumption) (by assumption))
      (first
        | (go_at_call 10; refine (HSM.out _ (by assumption)).mono ?_; rintro e w5 ⟨rfl, hb5⟩))
    all_goals
      rename_i w6 hH
      have g1 := (hH.cell (p := ⟨b', o' + n * 4 + 1, none⟩) HD.out.1).trans HD.out.2.1
      have g3 := (hH.cell (p := ⟨b', o' + n * 4 + 3, none⟩) HD.out.1).trans HD.out.2.2
      have HB6 := Lib.hid (bnext HB3.out hH)
      have j1 : (n : Int) < (n2 : Int) := by have := HN2.out; omega
      clear hH d0 d1 d2 d3
      go_wp2
      go_ret
      exact ⟨by simp, HB6.out⟩
  · obtain ⟨te, xe, rfl⟩ := he.iface
    clear hR he
    go_wp2
    go_ret
    exact ⟨rfl, HB2.out⟩
end Go.Proofs.YtbiobefcagboeaaDoor
