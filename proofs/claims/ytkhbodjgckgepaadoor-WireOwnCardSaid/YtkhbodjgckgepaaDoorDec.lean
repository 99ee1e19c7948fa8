/-
  The walk of wire.Decode.
-/
import Derived.Test.YtkhbodjgckgepaaDoorDecL
import Derived.Test.YtkhbodjgckgepaaDoorNumber
import Derived.Test.YtkhbodjgckgepaaDoorSet
import Derived.Test.YtkhbodjgckgepaaDoorCut
namespace Go.Proofs.YtkhbodjgckgepaaDoor
set_option linter.unusedVariables false
set_option linter.unusedSimpArgs false
open Go.RowKit
set_option maxRecDepth 100000 in
set_option maxHeartbeats 1000000 in
theorem take_fit (A : Option Addr) (c : Nat) (l : List UInt8) (n B : Nat) (w : World) (hn : l.length = n) (hl : n ≤ 9223372036854775807) (hA : Rd w B A (l.map V8)) :
    Calls Tryd.prog 16 #[.slice A n c] w (TakeOut l w) := by
  subst hn
  exact take_any A c l B w hl hA
theorem own_cap {w : World} {base cap : Nat} {e : TypeId} {A : Option Addr} {xs : List Value} (h : Own w base e A cap xs) : xs.length ≤ cap ∧ cap ≤ 9223372036854775807 := by
  rcases h.2 with ⟨hv, hn⟩ | ⟨g, cap', cur, hv, hb, hg, h1, h2, _⟩
  · injection hv with a b c
    subst c
    exact ⟨by omega, by omega⟩
  · injection hv with a b c
    subst c
    simp only [maxLen] at h2
    exact ⟨h1, by omega⟩
theorem own_capB {w : World} {base cap : Nat} {A : Option Addr} {l : List UInt8} (h : Own w base 5 A cap (l.map V8)) : l.length ≤ cap ∧ cap ≤ 9223372036854775807 := by
  have := own_cap h
  rwa [List.length_map] at this
theorem own_capW {w : World} {base cap : Nat} {A : Option Addr} {l : List UInt64} (h : Own w base 24 A cap (l.map U)) : l.length ≤ cap ∧ cap ≤ 9223372036854775807 := by
  have := own_cap h
  rwa [List.length_map] at this
theorem size8 (W : World) : (sizeOf 5).run Tryd.prog W = .ok 1 W := by kernel_rfl
set_option maxRecDepth 100000 in
set_option maxHeartbeats 1000000 in
theorem decode_bad1 (A : Option Addr) (c : Nat) (l : List UInt8) (w : World) (hcap : l.length ≤ c) (hl : c ≤ 9223372036854775807) (hlm : l.length ≤ 150000000000000) (hg : ETyped w) (hA : Rd w w.heap.size A (l.map V8)) (hz : (takeB l).2 = 0) :
    Calls Tryd.prog 20 #[.slice A l.length c] w fun e w' => ∃ v, e = .returned (.tuple #[.agg #[.int .i64 0, .slice none 0 0], v]) ∧ IsErr w' v [(wireN, l.length)] 50 ∧ Below w.heap.size w w' := by
  have HG := Lib.hid hg
  have HA := Lib.hid hA
  have q1 : (((takeB l).2 : Int) == 0) = true := by rw [hz]; rfl
  clear hg hA hz
  go_enter Tryd.func20, Tryd.ntmps20
  go_wp2_with fail
  refine (Wrap_E 50 wireN l.length _ (HG.out.next ((Below.refl _ _).alloc (Nat.le_refl _) _))).mono ?_
  rintro e w1 ⟨v, rfl, he, b1⟩
  have HE := Lib.hid he
  have HB := Lib.hid (((Below.refl _ _).alloc (Nat.le_refl _) _).trans (b1.mono (by simp)) : Below w.heap.size w w1)
  have hA1 := Lib.hid (HA.out.next HB.out)
  obtain ⟨hc, hf⟩ := bcell b1
  have hz : w.heap.size < w1.heap.size := by have := b1.size; simp at this; omega
  clear he b1
  go_wp2_with fail
  refine (take_any A c l _ w1 (by omega) hA1.out).mono ?_
  rintro e w2 ⟨rfl, rfl⟩
  go_wp2
  have e0 : w1.cell? ⟨w.heap.size, 0, none⟩ = some (.int .i64 0) := by rw [hc _ _ (by simp)]; exact cell_of_row _ _ 0 _ _ _ (heap_alloc_new w _)
  have e1 : w1.cell? ⟨w.heap.size, 1, none⟩ = some (.slice none 0 0) := by rw [hc _ _ (by simp)]; exact cell_of_row _ _ 1 _ _ _ (heap_alloc_new w _)
  rw [setCell_id e0, setCell_id e1]
  exact bodyPost_ret (v := .tuple #[.agg #[.int .i64 0, .slice none 0 0], v]) (by simp [results, Tryd.results20, go_sem, hc, hz]) rfl ⟨v, rfl, HE.out, HB.out⟩
set_option maxRecDepth 100000 in
set_option maxHeartbeats 1000000 in
theorem decode_bad2 (A : Option Addr) (c : Nat) (l : List UInt8) (w : World) (hcap : l.length ≤ c) (hl : c ≤ 9223372036854775807) (hlm : l.length ≤ 150000000000000) (hg : ETyped w) (hA : Rd w w.heap.size A (l.map V8)) (hz : (takeB l).2 ≠ 0) (hd : decB l = none) :
    Calls Tryd.prog 20 #[.slice A l.length c] w fun e w' => ∃ v, e = .returned (.tuple #[.agg #[.int .i64 0, .slice none 0 0], v]) ∧ IsErr w' v [(wireN, l.length)] 50 ∧ Below w.heap.size w w' := by
  obtain ⟨s, hs⟩ : ∃ s, s = (takeB l).2 := ⟨_, rfl⟩
  have h5 := takeB_snd_le l
  rw [← hs] at hz h5
  have HS := Lib.hid hs
  have HG := Lib.hid hg
  have HA := Lib.hid hA
  have q1 : ((s : Int) == 0) = false := by rw [beq_eq_false_iff_ne]; omega
  have HD := Lib.hid hd
  clear hg hA hs hd
  go_enter Tryd.func20, Tryd.ntmps20
  go_wp2_with fail
  refine (Wrap_E 50 wireN l.length _ (HG.out.next ((Below.refl _ _).alloc (Nat.le_refl _) _))).mono ?_
  rintro e w1 ⟨v, rfl, he, b1⟩
  have HE := Lib.hid he
  have HB := Lib.hid (((Below.refl _ _).alloc (Nat.le_refl _) _).trans (b1.mono (by simp)) : Below w.heap.size w w1)
  have hA1 := Lib.hid (HA.out.next HB.out)
  obtain ⟨hc, hf⟩ := bcell b1
  have hz : w.heap.size < w1.heap.size := by have := b1.size; simp at this; omega
  clear he b1
  go_wp2_with fail
  refine (take_any A c l _ w1 (by omega) hA1.out).mono ?_
  rintro e w2 ⟨rfl, rfl⟩
  rw [← HS.out]
  have ct := run_cutAt_from (P := Tryd.prog) Tryd.underlying22 size8 A (n := l.length) (c := c) (k := s) h5.1
  go_wp2_with fail
  clear ct
  obtain ⟨m, hm⟩ : ∃ m, m = l.length - s := ⟨_, rfl⟩
  obtain ⟨c2, hc2⟩ : ∃ c2, c2 = c - s := ⟨_, rfl⟩
  rw [← hm, ← hc2]
  refine (take_fit (cutA A s 1 c) c2 (l.drop s) m _ w1 (by rw [List.length_drop, hm]) (by omega) (by rw [List.map_drop]; exact hA1.out.cut (by simpa using hcap))).mono ?_
  rintro e w2 ⟨rfl, rfl⟩
  have hdec := HD.out
  unfold decB at hdec
  rw [← HS.out] at hdec
  obtain ⟨n2, hn2⟩ : ∃ n2, n2 = (takeB (l.drop s)).1 := ⟨_, rfl⟩
  obtain ⟨s2, hs2⟩ : ∃ s2, s2 = (takeB (l.drop s)).2 := ⟨_, rfl⟩
  have h52 := takeB_snd_le (l.drop s)
  rw [← hn2, ← hs2] at hdec h52
  rw [← hn2, ← hs2]
  have hcase : s2 = 0 ∨ 65536 < n2 ∨ m ≠ s2 + 8 * n2 := by
    by_cases h : s = 0 ∨ s2 = 0 ∨ 65536 < n2 ∨ l.length ≠ s + s2 + 8 * n2
    · omega
    · rw [if_neg h] at hdec; cases hdec
  have hm2 : m ≤ 150000000000000 := by omega
  have hle : n2 ≤ 4294967295 := h52.2.2
  have e0 : w1.cell? ⟨w.heap.size, 0, none⟩ = some (.int .i64 0) := by rw [hc _ _ (by simp)]; exact cell_of_row _ _ 0 _ _ _ (heap_alloc_new w _)
  have e1 : w1.cell? ⟨w.heap.size, 1, none⟩ = some (.slice none 0 0) := by rw [hc _ _ (by simp)]; exact cell_of_row _ _ 1 _ _ _ (heap_alloc_new w _)
  have e2 : w1.frozen? ⟨w.heap.size, 0, none⟩ = false := by rw [hf _ _ (by simp)]; simp
  have e3 : w1.frozen? ⟨w.heap.size, 1, none⟩ = false := by rw [hf _ _ (by simp)]; simp
  have h52' : s2 ≤ 5 := h52.2.1
  clear hc hf hn2 hs2 hm hc2 hdec h52
  by_cases c1 : s2 = 0
  · have t1 : ((s2 : Int) == 0) = true := by rw [c1]; rfl
    clear c1 hcase
    go_wp2
    rw [setCell_id e0, setCell_id e1]
    exact bodyPost_ret (v := .tuple #[.agg #[.int .i64 0, .slice none 0 0], v]) (by simp [results, Tryd.results20, go_sem, e0, e1, hz]) rfl ⟨v, rfl, HE.out, HB.out⟩
  · have t1 : ((s2 : Int) == 0) = false := by rw [beq_eq_false_iff_ne]; omega
    by_cases c2 : 65536 < n2
    · have t2 : decide ((65536 : Int) < (n2 : Int)) = true := by simp; omega
      clear c1 c2 hcase
      go_wp2
      rw [setCell_id e0, setCell_id e1]
      exact bodyPost_ret (v := .tuple #[.agg #[.int .i64 0, .slice none 0 0], v]) (by simp [results, Tryd.results20, go_sem, e0, e1, hz]) rfl ⟨v, rfl, HE.out, HB.out⟩
    · have t2 : decide ((65536 : Int) < (n2 : Int)) = false := by simp; omega
      have t3 : ((m : Int) != (s2 : Int) + 8 * (n2 : Int)) = true := by rw [bne_iff_ne]; omega
      have hn2 : n2 ≤ 65536 := by omega
      clear c1 c2 hcase
      go_wp2
      rw [setCell_id e0, setCell_id e1]
      exact bodyPost_ret (v := .tuple #[.agg #[.int .i64 0, .slice none 0 0], v]) (by simp [results, Tryd.results20, go_sem, e0, e1, hz]) rfl ⟨v, rfl, HE.out, HB.out⟩
theorem decB_some {l : List UInt8} {n : Nat} {ws : List UInt64} (h : decB l = some (n, ws)) :
    (takeB l).2 ≠ 0 ∧ (takeB (l.drop (takeB l).2)).2 ≠ 0 ∧ (takeB (l.drop (takeB l).2)).1 ≤ 65536 ∧ l.length = (takeB l).2 + (takeB (l.drop (takeB l).2)).2 + 8 * (takeB (l.drop (takeB l).2)).1 ∧
    n = (takeB l).1 ∧ ws = wordsB (takeB (l.drop (takeB l).2)).1 ((l.drop (takeB l).2).drop (takeB (l.drop (takeB l).2)).2) := by
  unfold decB at h
  split at h
  · cases h
  · rename_i hh
    injection h with h
    injection h with a b
    exact ⟨by omega, by omega, by omega, by omega, a.symm, b.symm⟩
theorem free_row {w : World} {g : Nat} {cs : Array Value} {t : TypeId} (h : w.heap[g]? = some (.cells cs t (0, 0))) (k : Nat) : w.frozen? ⟨g, k, none⟩ = false := by
  simp [World.frozen?, h]
/-- Behind an append, with the new element's block laid ahead of it: what lies below the row's base stands. -/
theorem step_below {w w' : World} {B : Nat} {A : Option Addr} {cap : Nat} {e : TypeId} {xs : List Value} {o : Obj} (hown : Own w B e A cap xs) (hB : B ≤ w.heap.size) (h : (w.alloc o).grownBy w' (blk A)) : Below B w w' :=
  ((Below.refl B w).alloc hB _).grown h (by simp; omega) (blk_own_ge hown)
def DecRel (w1 : World) (r : Nat) (l : List UInt8) (n : Nat) (iv : Value) (wr : World) : Prop :=
  ∃ (k : Nat) (A : Option Addr) (cap : Nat) (cur : List UInt64), k ≤ n ∧ iv = .int .i64 k ∧ cur = wordsB k l ∧ wr.heap[w1.heap.size]? = some (.cells #[.int .i64 r, .slice A cur.length cap] 42 (0, 0)) ∧ Own wr (w1.heap.size + 1) 24 A cap (cur.map U) ∧ Below w1.heap.size w1 wr
set_option maxRecDepth 100000 in
set_option maxHeartbeats 1000000 in
theorem decode_good (A : Option Addr) (c : Nat) (l : List UInt8) (w : World) (n : Nat) (ws : List UInt64) (hcap : l.length ≤ c) (hl : c ≤ 9223372036854775807) (hlm : l.length ≤ 150000000000000) (hg : ETyped w) (hA : Rd w w.heap.size A (l.map V8)) (hd : decB l = some (n, ws)) :
    Calls Tryd.prog 20 #[.slice A l.length c] w fun e w' => ∃ A' cap, e = .returned (.tuple #[.agg #[.int .i64 n, .slice A' ws.length cap], .nilIface]) ∧ Own w' w.heap.size 24 A' cap (ws.map U) ∧ Below w.heap.size w w' := by
  obtain ⟨d1, d2, d3, d4, rfl, hws⟩ := decB_some hd
  clear hd
  obtain ⟨s, hs⟩ : ∃ s, s = (takeB l).2 := ⟨_, rfl⟩
  obtain ⟨r, hr⟩ : ∃ r, r = (takeB l).1 := ⟨_, rfl⟩
  have h5 := takeB_snd_le l
  rw [← hs, ← hr] at h5
  rw [← hs] at d1 d2 d3 d4 hws
  rw [← hr]
  obtain ⟨n2, hn2⟩ : ∃ n2, n2 = (takeB (l.drop s)).1 := ⟨_, rfl⟩
  obtain ⟨s2, hs2⟩ : ∃ s2, s2 = (takeB (l.drop s)).2 := ⟨_, rfl⟩
  have h52 := takeB_snd_le (l.drop s)
  rw [← hn2, ← hs2] at h52
  rw [← hs2] at d2
  rw [← hn2] at d3
  rw [← hn2, ← hs2] at d4 hws
  obtain ⟨h5a, h5b, h5c⟩ := h5
  obtain ⟨h52a, h52b, h52c⟩ := h52
  rw [List.length_drop] at h52a
  have HS := Lib.hid hs
  have HR := Lib.hid hr
  have HN2 := Lib.hid hn2
  have HS2 := Lib.hid hs2
  have HG := Lib.hid hg
  have HA := Lib.hid hA
  have HWS := Lib.hid hws
  have D4 := Lib.hid d4
  have q1 : ((s : Int) == 0) = false := by rw [beq_eq_false_iff_ne]; omega
  have t1 : ((s2 : Int) == 0) = false := by rw [beq_eq_false_iff_ne]; omega
  have t2 : decide ((65536 : Int) < (n2 : Int)) = false := by simp; omega
  clear hg hA hs hr hn2 hs2 hws d1 d2 d4
  go_enter Tryd.func20, Tryd.ntmps20
  go_wp2_with fail
  refine (Wrap_E 50 wireN l.length _ (HG.out.next ((Below.refl _ _).alloc (Nat.le_refl _) _))).mono ?_
  rintro e w1 ⟨v, rfl, he, b1⟩
  have HB := Lib.hid (((Below.refl _ _).alloc (Nat.le_refl _) _).trans (b1.mono (by simp)) : Below w.heap.size w w1)
  have hA1 := Lib.hid (HA.out.next HB.out)
  have hz : w.heap.size < w1.heap.size := by have := b1.size; simp at this; omega
  have hblk := Lib.hid ((b1.block w.heap.size (by simp)).trans (heap_alloc_new w _))
  clear he b1
  go_wp2_with fail
  refine (take_any A c l _ w1 (by omega) hA1.out).mono ?_
  rintro e w2 ⟨rfl, rfl⟩
  rw [← HS.out, ← HR.out]
  have ct := run_cutAt_from (P := Tryd.prog) Tryd.underlying22 size8 A (n := l.length) (c := c) (k := s) h5a
  go_wp2_with fail
  clear ct
  obtain ⟨m, hm⟩ : ∃ m, m = l.length - s := ⟨_, rfl⟩
  obtain ⟨c2, hc2⟩ : ∃ c2, c2 = c - s := ⟨_, rfl⟩
  rw [← hm, ← hc2]
  have hA2 := Lib.hid (show Rd w1 w1.heap.size (cutA A s 1 c) ((l.drop s).map V8) from by rw [List.map_drop]; exact hA1.out.cut (by simpa using hcap))
  refine (take_fit (cutA A s 1 c) c2 (l.drop s) m _ w1 (by rw [List.length_drop, hm]) (by omega) hA2.out).mono ?_
  rintro e w2 ⟨rfl, rfl⟩
  rw [← HN2.out, ← HS2.out]
  have d4 := D4.out
  have t3 : ((m : Int) != (s2 : Int) + 8 * (n2 : Int)) = false := by rw [bne_eq_false_iff_eq]; omega
  have ct := run_cutAt_from (P := Tryd.prog) Tryd.underlying22 size8 (cutA A s 1 c) (n := m) (c := c2) (k := s2) (by omega)
  obtain ⟨m3, hm3⟩ : ∃ m3, m3 = m - s2 := ⟨_, rfl⟩
  obtain ⟨c3, hc3⟩ : ∃ c3, c3 = c2 - s2 := ⟨_, rfl⟩
  rw [← hm3, ← hc3] at ct
  have hm8 : m3 = 8 * n2 := by omega
  have hmc : m ≤ c2 := by omega
  have hl3 : ((l.drop s).drop s2).length = 8 * n2 := by rw [List.length_drop, List.length_drop]; omega
  obtain ⟨b3, hb3⟩ : ∃ b3, b3 = (l.drop s).drop s2 := ⟨_, rfl⟩
  rw [← hb3] at hl3
  have hA3 := Lib.hid (show Rd w1 w1.heap.size (cutA (cutA A s 1 c) s2 1 c2) (b3.map V8) from by rw [hb3, List.map_drop]; exact hA2.out.cut (by rw [List.length_map, List.length_drop]; omega))
  have HWS' := HWS.out
  rw [← hb3] at HWS'
  have HW := Lib.hid HWS'
  have HL3 := Lib.hid hl3
  have HM8 := Lib.hid hm8
  have hm8' : 8 * n2 ≤ m3 := by omega
  have hm8'' : m3 ≤ 524288 := by omega
  clear hm hc2 hm8 hl3 hb3 HWS HWS' d4 h52a hm3 hc3
  go_wp2_with fail
  clear ct q1 t1 t2 t3
  go_loopw [56] (fun iv wr => DecRel w1 r b3 n2 iv wr) (fun iv _ => n2 - (intOf iv).toNat)
  case atStart => exact ⟨0, none, 0, [], Nat.zero_le _, rfl, rfl, heap_alloc_new w1 _, Own.nil _ _ _, (Below.refl _ _).alloc (Nat.le_refl _) _⟩
  case round =>
    obtain ⟨i, A1, k1, cur, hi, rfl, hcur, hb, hown, hbel⟩ := hrel
    have HC := Lib.hid hcur
    have HK := Lib.hid hb
    have HO := Lib.hid hown
    have HBl := Lib.hid hbel
    clear hcur hb hown hbel
    by_cases hlt : i < n2
    · go_wp2
      go_loop [10, 59] (fun xv kv => ∃ k : Nat, k ≤ 8 ∧ kv = .int .i64 k ∧ xv = U (partW b3 i k)) (fun _ kv => 8 - (intOf kv).toNat)
      case atStart => exact ⟨0, by omega, rfl, by rw [partW_zero]; rfl⟩
      case round =>
        obtain ⟨k, hk, rfl, rfl⟩ := hrel
        by_cases hlk : k < 8
        · obtain ⟨b, o, hAe, hb1, hc1⟩ := hA3.out.byte (k := 8 * i + k) (by have := HL3.out; omega)
          have g1 : wr.cell? ⟨b, o + (8 * i + k), none⟩ = some (V8 (nthB b3 (8 * i + k))) := (HBl.out.cell (p := ⟨b, _, none⟩) hb1).trans hc1
          have HW' := Lib.hid (wrap_partW' b3 (i := i) (k := k) hlk (by have := HL3.out; omega))
          rw [hAe]
          go_wp2
          exact ⟨⟨k + 1, by omega, by go_num, by rw [HW'.out]⟩, by simp [intOf]; omega⟩
        · obtain rfl : k = 8 := by omega
          rw [partW_full]
          have g0 : wr.cell? ⟨w1.heap.size, 0, none⟩ = some (.int .i64 r) := cell_of_row _ _ 0 _ _ _ HK.out
          have g1 : wr.cell? ⟨w1.heap.size, 1, none⟩ = some (.slice A1 cur.length k1) := cell_of_row _ _ 1 _ _ _ HK.out
          have hcl : cur.length = i := by rw [HC.out, wordsB_length]
          have hcl' : cur.length ≤ 65536 := by omega
          clear hcl
          go_wp2_with (at_builtin; (refine app64 rfl (.tmp 77) (.tmp 79) rfl (w1.heap.size + 1) A1 k1 cur cur.length rfl rfl (HO.out.alloc _) (some ⟨wr.heap.size, 0, none⟩) 1 1 (wr.heap.size + 1) [wordAt b3 i] rfl rfl (one_app64 _ _) (fun h => by cases h) (by omega) (by have := HBl.out.size; have := Array.getElem?_eq_some_iff.1 HK.out; obtain ⟨this, _⟩ := this; simp; omega) ?_); intro A' cap' w5 hown' hgrow hat; have h5 := step_below HO.out (by have := (Array.getElem?_eq_some_iff.1 HK.out).1; omega) hgrow; have k5 := (h5.block w1.heap.size (by omega)).trans HK.out; have c5 := cell_of_row _ _ 1 _ _ _ k5; have f5 := free_row k5 1; have K5 := Lib.hid k5; have H5 := Lib.hid h5; have O5 := Lib.hid hown'; clear k5 h5 hown' hgrow hat)
          refine ⟨⟨i + 1, A', cap', cur ++ [wordAt b3 i], by omega, by go_num, ?_, ?_, ?_, ?_⟩, by simp [intOf]; omega⟩
          · rw [wordsB_succ, HC.out]
          · rw [heap_setCell_same _ _ _ _ _ _ K5.out, List.length_append]
            simp
          · exact O5.out.other _ _ (fun e => absurd (O5.out.lt _ e).1 (Nat.not_succ_le_self _))
          · exact (HBl.out.trans (H5.out.mono (by omega))).setCell (Nat.le_refl _) _
    · obtain rfl : i = n2 := by omega
      have g0 : wr.cell? ⟨w1.heap.size, 0, none⟩ = some (.int .i64 r) := cell_of_row _ _ 0 _ _ _ HK.out
      have g1 : wr.cell? ⟨w1.heap.size, 1, none⟩ = some (.slice A1 cur.length k1) := cell_of_row _ _ 1 _ _ _ HK.out
      have kb := (HBl.out.block w.heap.size hz).trans hblk.out
      have r0 := cell_of_row _ _ 0 _ _ _ kb
      have r1 := cell_of_row _ _ 1 _ _ _ kb
      have f0 := free_row kb 0
      have f1 := free_row kb 1
      have KB := Lib.hid kb
      have hne : (w.heap.size == w1.heap.size) = false := by rw [beq_eq_false_iff_ne]; omega
      clear kb
      go_wp2
      have hcw : cur = ws := by rw [HC.out, HW.out]
      subst hcw
      have hb' : Below w.heap.size w ((wr.setCell ⟨w.heap.size, 0, none⟩ (.int .i64 r)).setCell ⟨w.heap.size, 1, none⟩ (.slice A1 cur.length k1)) :=
        ((HB.out.trans (HBl.out.mono (by omega))).setCell (Nat.le_refl _) _).setCell (Nat.le_refl _) _
      have ho' := ((HO.out.other ⟨w.heap.size, 0, none⟩ (.int .i64 r) (fun e => by have h := (HO.out.lt _ e).1; simp only at h; omega)).other ⟨w.heap.size, 1, none⟩ (.slice A1 cur.length k1) (fun e => by have h := (HO.out.lt _ e).1; simp only at h; omega)).more (base' := w.heap.size) (by omega)
      exact bodyPost_ret (v := .tuple #[.agg #[.int .i64 r, .slice A1 cur.length k1], .nilIface]) (by simp [results, Tryd.results20, go_sem, r0, r1, hz]) rfl ⟨A1, k1, rfl, ho', hb'⟩
end Go.Proofs.YtkhbodjgckgepaaDoor
