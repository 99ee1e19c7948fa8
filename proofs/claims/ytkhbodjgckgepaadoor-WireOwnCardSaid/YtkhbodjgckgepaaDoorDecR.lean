/-
  The walk of the document's Decode.
-/
import Derived.Test.YtkhbodjgckgepaaDoorDec
import Derived.Outline
namespace Go.Proofs.YtkhbodjgckgepaaDoor
set_option linter.unusedVariables false
set_option linter.unusedSimpArgs false
open Go.RowKit
theorem rtake_fit (A : Option Addr) (c : Nat) (l : List UInt8) (n : Nat) (w : World) (hn : l.length = n) (hcap : n ≤ c) (hl : c ≤ 9223372036854775807) (hA : Rd w w.heap.size A (l.map V8)) :
    Calls Tryd.prog 17 #[.slice A n c] w fun e w' => e = .returned (.tuple #[.int .i64 (takeB l).1, .int .i64 (takeB l).2]) ∧ Below w.heap.size w w' := by
  subst hn
  exact rtake_any A c l w hcap hl hA
set_option maxRecDepth 100000 in
set_option maxHeartbeats 1000000 in
theorem rdecode_bad (A : Option Addr) (c : Nat) (l : List UInt8) (w : World) (hcap : l.length ≤ c) (hl : c ≤ 140737488351232) (hA : Rd w w.heap.size A (l.map V8)) (hd : decB l = none) :
    Calls Tryd.prog 22 #[.slice A l.length c] w fun e w' => e = .returned (.tuple #[.int .i64 0, .slice none 0 0, .bool false]) ∧ Below w.heap.size w w' := by
  obtain ⟨s, hs⟩ : ∃ s, s = (takeB l).2 := ⟨_, rfl⟩
  obtain ⟨r, hr⟩ : ∃ r, r = (takeB l).1 := ⟨_, rfl⟩
  obtain ⟨n2, hn2⟩ : ∃ n2, n2 = (takeB (l.drop s)).1 := ⟨_, rfl⟩
  obtain ⟨s2, hs2⟩ : ∃ s2, s2 = (takeB (l.drop s)).2 := ⟨_, rfl⟩
  obtain ⟨h5a, h5b, h5c⟩ := takeB_snd_le l
  obtain ⟨h52a, h52b, h52c⟩ := takeB_snd_le (l.drop s)
  rw [← hs] at h5a h5b
  rw [← hr] at h5c
  rw [← hs2] at h52a h52b
  rw [← hn2] at h52c
  have hcase : s = 0 ∨ s2 = 0 ∨ 65536 < n2 ∨ l.length ≠ s + s2 + 8 * n2 := by
    by_cases h : s = 0 ∨ s2 = 0 ∨ 65536 < n2 ∨ l.length ≠ s + s2 + 8 * n2
    · exact h
    · unfold decB at hd
      rw [← hs, ← hn2, ← hs2, if_neg h] at hd
      cases hd
  obtain ⟨len, hlen⟩ : ∃ len, len = l.length := ⟨_, rfl⟩
  rw [← hlen] at hcap h5a hcase ⊢
  have HLEN := Lib.hid hlen
  have HS := Lib.hid hs
  have HR := Lib.hid hr
  have HN2 := Lib.hid hn2
  have HS2 := Lib.hid hs2
  have HA := Lib.hid hA
  clear hA hs hr hn2 hs2 hd h52a hlen
  have q : (((s : Int) == 0) = true) ∨ (((s : Int) == 0) = false ∧ ((s2 : Int) == 0) = true) ∨ (((s : Int) == 0) = false ∧ ((s2 : Int) == 0) = false ∧ decide ((65536 : Int) < (n2 : Int)) = true) ∨ (((s : Int) == 0) = false ∧ ((s2 : Int) == 0) = false ∧ decide ((65536 : Int) < (n2 : Int)) = false ∧ ((len : Int) != (s : Int) + (s2 : Int) + 8 * (n2 : Int)) = true) := by
    by_cases c1 : s = 0
    · left; rw [c1]; rfl
    · right
      have t1 : ((s : Int) == 0) = false := by rw [beq_eq_false_iff_ne]; omega
      by_cases c2 : s2 = 0
      · left; exact ⟨t1, by rw [c2]; rfl⟩
      · right
        have t2 : ((s2 : Int) == 0) = false := by rw [beq_eq_false_iff_ne]; omega
        by_cases c3 : 65536 < n2
        · left; exact ⟨t1, t2, by simp; omega⟩
        · right
          exact ⟨t1, t2, by simp; omega, by rw [bne_iff_ne]; omega⟩
  clear hcase
  rcases q with q1 | ⟨q1, q2⟩ | ⟨q1, q2, q3⟩ | ⟨q1, q2, q3, q4⟩
  all_goals
    go_enter Tryd.func22, Tryd.ntmps22
    go_wp2_with fail
    refine (rtake_fit A c l len w HLEN.out.symm hcap (by omega) HA.out).mono ?_
    rintro e w1 ⟨rfl, b1⟩
    rw [← HS.out, ← HR.out]
    have hA1 := Lib.hid (HA.out.next b1)
    have HB := Lib.hid b1
    clear b1
    have ct := run_cutAt_from (P := Tryd.prog) Tryd.underlying22 size8 A (n := len) (c := c) (k := s) h5a
    go_wp2_with fail
    clear ct
    have hA2 := Lib.hid (show Rd w1 w1.heap.size (cutA A s 1 c) ((l.drop s).map V8) from by rw [List.map_drop]; exact hA1.out.cut (by rw [List.length_map, ← HLEN.out]; exact hcap))
    refine (rtake_fit (cutA A s 1 c) (c - s) (l.drop s) (len - s) w1 (by rw [List.length_drop, HLEN.out]) (by omega) (by omega) hA2.out).mono ?_
    rintro e w2 ⟨rfl, b2⟩
    rw [← HN2.out, ← HS2.out]
    have HB2 := Lib.hid (bnext HB.out b2)
    clear b2
    go_wp2
    go_ret3
    exact ⟨rfl, HB2.out⟩
def RDecRel (W : World) (l : List UInt8) (n off : Nat) (ov iv : Value) (wr : World) : Prop :=
  ∃ (k : Nat) (A : Option Addr) (cap : Nat) (cur : List UInt64), k ≤ n ∧ iv = .int .i64 ((off + 8 * k : Nat) : Int) ∧ ov = .slice A cur.length cap ∧ cur = wordsB k l ∧ Own wr W.heap.size 24 A cap (cur.map U) ∧ Below W.heap.size W wr
theorem wordAt_cut (l : List UInt8) (off i : Nat) : (l.drop (off + 8 * i)).take 8 = ((l.drop off).drop (8 * i)).take 8 := by rw [List.drop_drop]
set_option maxRecDepth 100000 in
set_option maxHeartbeats 1000000 in
theorem rdecode_good (A : Option Addr) (c : Nat) (l : List UInt8) (w : World) (n : Nat) (ws : List UInt64) (hcap : l.length ≤ c) (hl : c ≤ 140737488351232) (hA : Rd w w.heap.size A (l.map V8)) (hd : decB l = some (n, ws)) :
    Calls Tryd.prog 22 #[.slice A l.length c] w fun e w' => ∃ A' cap, e = .returned (.tuple #[.int .i64 n, .slice A' ws.length cap, .bool true]) ∧ Own w' w.heap.size 24 A' cap (ws.map U) ∧ Below w.heap.size w w' := by
  obtain ⟨d1, d2, d3, d4, rfl, hws⟩ := decB_some hd
  clear hd
  obtain ⟨s, hs⟩ : ∃ s, s = (takeB l).2 := ⟨_, rfl⟩
  obtain ⟨r, hr⟩ : ∃ r, r = (takeB l).1 := ⟨_, rfl⟩
  obtain ⟨h5a, h5b, h5c⟩ := takeB_snd_le l
  rw [← hs] at h5a h5b
  rw [← hr] at h5c
  rw [← hs] at d1 d2 d3 d4 hws
  rw [← hr]
  obtain ⟨n2, hn2⟩ : ∃ n2, n2 = (takeB (l.drop s)).1 := ⟨_, rfl⟩
  obtain ⟨s2, hs2⟩ : ∃ s2, s2 = (takeB (l.drop s)).2 := ⟨_, rfl⟩
  obtain ⟨h52a, h52b, h52c⟩ := takeB_snd_le (l.drop s)
  rw [← hs2] at h52a h52b
  rw [← hn2] at h52c
  rw [← hs2] at d2
  rw [← hn2] at d3
  rw [← hn2, ← hs2] at d4 hws
  rw [List.length_drop] at h52a
  rw [List.drop_drop] at hws
  obtain ⟨len, hlen⟩ : ∃ len, len = l.length := ⟨_, rfl⟩
  rw [← hlen] at hcap h5a d4 h52a ⊢
  have HLEN := Lib.hid hlen
  have HS := Lib.hid hs
  have HR := Lib.hid hr
  have HN2 := Lib.hid hn2
  have HS2 := Lib.hid hs2
  have HA := Lib.hid hA
  have HW := Lib.hid hws
  have D4 := Lib.hid d4
  have d4a : s + s2 + 8 * n2 ≤ len := by omega
  have d4b : len ≤ s + s2 + 8 * n2 := by omega
  have q1 : ((s : Int) == 0) = false := by rw [beq_eq_false_iff_ne]; omega
  have q2 : ((s2 : Int) == 0) = false := by rw [beq_eq_false_iff_ne]; omega
  have q3 : decide ((65536 : Int) < (n2 : Int)) = false := by simp; omega
  have q4 : ((len : Int) != (s : Int) + (s2 : Int) + 8 * (n2 : Int)) = false := by rw [bne_eq_false_iff_eq]; omega
  clear hA hs hr hn2 hs2 h52a hlen d1 d2 d4 hws
  go_enter Tryd.func22, Tryd.ntmps22
  go_wp2_with fail
  refine (rtake_fit A c l len w HLEN.out.symm hcap (by omega) HA.out).mono ?_
  rintro e w1 ⟨rfl, b1⟩
  rw [← HS.out, ← HR.out]
  have hA1 := Lib.hid (HA.out.next b1)
  have HB := Lib.hid b1
  clear b1
  have ct := run_cutAt_from (P := Tryd.prog) Tryd.underlying22 size8 A (n := len) (c := c) (k := s) h5a
  go_wp2_with fail
  clear ct
  have hA2 := Lib.hid (show Rd w1 w1.heap.size (cutA A s 1 c) ((l.drop s).map V8) from by rw [List.map_drop]; exact hA1.out.cut (by rw [List.length_map, ← HLEN.out]; exact hcap))
  refine (rtake_fit (cutA A s 1 c) (c - s) (l.drop s) (len - s) w1 (by rw [List.length_drop, HLEN.out]) (by omega) (by omega) hA2.out).mono ?_
  rintro e w2 ⟨rfl, b2⟩
  rw [← HN2.out, ← HS2.out]
  have HB2 := Lib.hid (bnext HB.out b2)
  clear b2
  go_wp2
  clear q1 q2 q3 q4
  go_loopw [9, 10] (fun ov iv wr => RDecRel w (l.drop (s + s2)) n2 (s + s2) ov iv wr) (fun _ iv _ => len - (intOf iv).toNat)
  case atStart => exact ⟨0, none, 0, [], Nat.zero_le _, by simp, rfl, rfl, Own.nil _ _ _, HB2.out⟩
  case round =>
    obtain ⟨k, A1, k1, cur, hk, rfl, rfl, hcur, hown, hbel⟩ := hrel
    have HC := Lib.hid hcur
    have HO := Lib.hid hown
    have HBl := Lib.hid hbel
    have hcl : cur.length ≤ 65536 := by rw [hcur, wordsB_length]; omega
    clear hcur hown hbel
    by_cases hlt : k < n2
    · obtain ⟨p, hp⟩ : ∃ p, p = s + s2 + 8 * k := ⟨_, rfl⟩
      rw [← hp]
      have hp1 : p + 8 ≤ len := by omega
      have HP := Lib.hid hp
      have hq : decide ((p : Int) < (len : Int)) = true := by simp; omega
      clear hp
      have hAl := HA.out.below HBl.out
      have hAw := Lib.hid (show Rd wr w.heap.size (A.map (fun x => x.add p)) (((l.drop p).take 8).map V8) from by rw [List.map_take, List.map_drop]; exact (hAl.moved p).take _)
      have hwh := Lib.hid (fun (W : World) (h : Rd W w.heap.size (A.map (fun x => x.add p)) (((l.drop p).take 8).map V8)) => whole_any (A.map (fun x => x.add p)) (c - p) ((l.drop p).take 8) w.heap.size W (by rw [List.length_take, List.length_drop, ← HLEN.out]; omega) h)
      clear hAl
      go_wp2_with fail
      refine (hwh.out _ hAw.out).mono ?_
      rintro e w5 ⟨rfl, rfl⟩
      have ew : wholeB ((l.drop p).take 8) = wordAt (l.drop (s + s2)) k := by unfold wordAt; rw [HP.out, wordAt_cut]
      rw [ew]
      have EW := Lib.hid ew
      clear ew hwh
      go_wp2_with (at_builtin; (refine app64 rfl (.tmp 53) (.tmp 60) rfl w.heap.size A1 k1 cur cur.length rfl rfl (HO.out.alloc _) (some ⟨wr.heap.size, 0, none⟩) 1 1 (wr.heap.size + 1) [wordAt (l.drop (s + s2)) k] rfl rfl (one_app64 _ _) (fun h => by cases h) (by omega) (by have := HBl.out.size; simp; omega) ?_); intro A' cap' w6 hown' hgrow hat; have H6 := Lib.hid (step_below HO.out HBl.out.size hgrow); have O6 := Lib.hid hown'; clear hown' hgrow hat)
      refine ⟨⟨k + 1, A', cap', cur ++ [wordAt (l.drop (s + s2)) k], by omega, ?_, by simp, ?_, O6.out, ?_⟩, ?_⟩
      · rw [HP.out]; congr 1
      · rw [wordsB_succ, HC.out]
      · exact HBl.out.trans H6.out
      · simp [intOf]; have := HP.out; omega
    · obtain rfl : k = n2 := by omega
      have hcw : cur = ws := by rw [HC.out, HW.out]
      have HCW := Lib.hid hcw
      clear hcw
      obtain ⟨p, hp⟩ : ∃ p, p = s + s2 + 8 * k := ⟨_, rfl⟩
      rw [← hp]
      have hge : len ≤ p := by omega
      clear hp d4a d4b
      go_wp2
      go_ret3
      exact ⟨A1, k1, by rw [← HCW.out]; rfl, by rw [← HCW.out]; exact HO.out, HBl.out⟩
end Go.Proofs.YtkhbodjgckgepaaDoor
