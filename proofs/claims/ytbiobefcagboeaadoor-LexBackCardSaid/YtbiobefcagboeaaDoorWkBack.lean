/-
  The walk of the law LexBack.
-/
import Derived.Test.YtbiobefcagboeaaDoorLAwake
import Derived.Test.YtbiobefcagboeaaDoorSame
import Derived.Test.YtbiobefcagboeaaDoorWideL
namespace Go.Proofs.YtbiobefcagboeaaDoor
set_option linter.unusedVariables false
set_option linter.unusedSimpArgs false
open Go.RowKit
theorem run_min_2000' (w : World) (ts : Array TypeId) (t : TypeId) (a : Nat) : (Builtin.min_ ts t #[.int .i64 (a : Int), .int .i64 2000]).run Tryd.prog w = .ok (.int .i64 (minN a 2000 : Nat)) w := run_min_lit w ts t a 2000
attribute [local go_sem ↓] run_min_2000'
/-- The first loop's state: the joined text, the index. -/
def BackRel (W : World) (l : List Tok) (jv iv : Value) (wr : World) : Prop := ∃ (i : Nat) (J : ByteArray), i ≤ l.length ∧ iv = .int .i64 i ∧ jv = .string J ∧ J.data.toList = wideL (pairs (fun _ => [32]) (l.take i)) ∧ J.size ≤ i * 2001 ∧ Below W.heap.size W wr
def Back2Rel (W : World) (n : Nat) (iv : Value) (wr : World) : Prop := ∃ i : Nat, i ≤ n ∧ iv = .int .i64 i ∧ Below W.heap.size W wr
set_option maxRecDepth 100000 in
set_option maxHeartbeats 4000000 in
theorem LexBack_walk (w : World) (hg : ETyped w) (ht : ErrT w) (s : ByteArray) (hsz : s.size ≤ maxLen) :
    Calls Tryd.prog 3 #[.string s] w fun e w' => e = .returned (.bool true) ∧ Below w.heap.size w w' := by
  obtain ⟨m1, m2, m3⟩ := minN_le s.size 2000
  obtain ⟨M, hM⟩ : ∃ M, M = minN s.size 2000 := ⟨_, rfl⟩
  rw [← hM] at m1 m2
  clear m3
  obtain ⟨T, hT⟩ : ∃ T, T = s.extract 0 M := ⟨_, rfl⟩
  have hTs : T.size ≤ 2000 := by rw [hT, ByteArray.size_extract]; omega
  have HT := Lib.hid hT
  have HTY := Lib.hid ht
  have HG := Lib.hid hg
  have HM := Lib.hid hM
  have hm := hM.symm
  clear hT hg ht hM
  go_enter Tryd.func3, Tryd.ntmps3
  go_wp2_with fail
  refine (awake_true _ HG.out HTY.out).mono ?_
  rintro e w1 ⟨rfl, b1⟩
  have HG1 := Lib.hid (HG.out.next b1)
  have HT1 := Lib.hid (HTY.out.next b1)
  have HB1 := Lib.hid b1
  clear b1
  go_wp2_with fail
  rw [← HT.out]
  refine (scan_any T w1 (by omega) HG1.out HT1.out).mono ?_
  rintro e w2 ⟨b2, h⟩
  have HG2 := Lib.hid (HG1.out.next b2)
  have HT2 := Lib.hid (HT1.out.next b2)
  have HB2 := Lib.hid (bnext HB1.out b2)
  clear b2
  rcases h with ⟨l, A, cap, hR, rfl, o2⟩ | ⟨c, p, v, hR, rfl, he⟩
  · obtain ⟨r, hr, htk, hrl, _⟩ := scanM_iff hR
    obtain ⟨n, hn⟩ : ∃ n, n = l.length := ⟨_, rfl⟩
    have hn1 : n ≤ 513 := by rw [hn, hr]; simp; omega
    have HR := Lib.hid hr
    have HTK := Lib.hid htk
    have HRD := Lib.hid o2.rd
    have HRL := Lib.hid hrl
    have HN := Lib.hid hn
    rw [← hn]
    clear hR hr htk o2 hn hrl
    go_wp2
    go_loopw [5, 30] (fun jv iv wr => BackRel w2 l jv iv wr) (fun _ iv _ => n - (intOf iv).toNat)
    case atStart => exact ⟨0, ⟨#[]⟩, Nat.zero_le _, rfl, rfl, rfl, Nat.le_refl _, Below.refl _ _⟩
    case round =>
      obtain ⟨i, J, hi, rfl, rfl, hj, hjs, hb⟩ := hrel
      have HJ := Lib.hid hj
      have HB := Lib.hid hb
      rw [← HN.out] at hi
      clear hj hb
      by_cases hlt : i < n
      · have hti : l[i]? = some (l[i]'(by rw [← HN.out]; exact hlt)) := List.getElem?_eq_getElem _
        obtain ⟨t, htt⟩ : ∃ t, t = l[i]'(by rw [← HN.out]; exact hlt) := ⟨_, rfl⟩
        rw [← htt] at hti
        have hta := tok_at HTK.out (t := t) (by rw [← HR.out]; exact List.mem_of_getElem? hti)
        have HTI := Lib.hid hti
        obtain ⟨b, o, rfl, hbl, c0, c1, c2, c3⟩ := (HRD.out.below HB.out).tok hti
        obtain ⟨kd, tx, nm, P⟩ := t
        dsimp only at hta c0 c1 c2 c3
        obtain ⟨hp1, hext⟩ := hta
        obtain ⟨Z, hZ⟩ : ∃ Z, Z = tx.size := ⟨_, rfl⟩
        rw [← hZ] at hp1 hext
        have hzz := hZ.symm
        clear hti htt hbl hZ
        have k0 : decide ((P : Int) < 0) = false := by simp
        have k1 : IntKind.i64.wrap ((P : Int) + (Z : Int)) = (P : Int) + (Z : Int) := IntWalk.i64_in _ (by omega)
        have k2 : decide ((T.size : Int) < (P : Int) + (Z : Int)) = false := by simp; omega
        have k3 : (0 : Int) ≤ (P : Int) := by omega
        have k4 : (P : Int) ≤ (P : Int) + (Z : Int) := by omega
        have k5 : (P : Int) + (Z : Int) ≤ (T.size : Int) := by omega
        have k6 : ((P : Int) + (Z : Int)).toNat = P + Z := by omega
        have k7 : (0 : Int) ≤ (P : Int) + (Z : Int) := by omega
        have i0 : (0 : Int) ≤ (i : Int) := by omega
        have i1 : (i : Int) < (n : Int) := by omega
        go_wp2_with fail
        obtain ⟨wq, hwq⟩ : ∃ wq, wq = wr.alloc (.cells #[.int .i64 kd, .string tx, .int .u64 nm, .int .i64 P] 31) := ⟨_, rfl⟩
        rw [← hwq]
        have hq0 : wq.heap[wr.heap.size]? = some (.cells #[.int .i64 kd, .string tx, .int .u64 nm, .int .i64 P] 31 (0, 0)) := by rw [hwq]; exact heap_alloc_new _ _
        have e1 := cell_of_row wq _ 1 _ _ _ hq0
        have e3 := cell_of_row wq _ 3 _ _ _ hq0
        have HBQ := Lib.hid (show Below w2.heap.size w2 wq from by rw [hwq]; exact HB.out.alloc HB.out.size _)
        clear c0 c1 c2 c3 hq0 hwq
        go_quiet (fail)
        go_wp2
        refine ⟨⟨i + 1, J ++ (tx ++ { data := #[32] }), by rw [← HN.out]; omega, by go_num, rfl, ?_, ?_, below_drewN HBQ.out _⟩, by simp [intOf]; omega⟩
        · rw [wide_step _ _ _ _ HTI.out, ← HJ.out]
          simp
        · have e : (J ++ (tx ++ { data := #[32] })).size = J.size + (tx.size + 1) := by
            rw [ByteArray.size_append, ByteArray.size_append]; rfl
          omega
      · obtain rfl : i = n := by omega
        rw [List.take_of_length_le (by rw [← HN.out]; exact Nat.le_refl _)] at HJ
        have hJs : J.size ≤ 1100000 := by omega
        clear hjs
        by_cases hbig : (4096 : Int) < (J.size : Int)
        · have q1 : decide ((4096 : Int) < (J.size : Int)) = true := decide_eq_true hbig
          have HBX := Lib.hid (bnext HB2.out (HB.out.mono (Nat.le_refl _)))
          clear hbig
          go_wp2
          go_ret
          exact ⟨rfl, HBX.out⟩
        · have q1 : decide ((4096 : Int) < (J.size : Int)) = false := decide_eq_false hbig
          obtain ⟨l2, hsc, hl2, hat⟩ := wide_scan (fun _ => [32]) (fun _ => gap_ok1) HTK.out HR.out HRL.out HJ.out (by omega)
          have HS := Lib.hid (fun W hW => scan_toks J l2 W (by omega) (HG2.out.next (w' := W) hW) (HT2.out.next hW) hsc)
          have HL2 := Lib.hid hl2
          have HAT := Lib.hid hat
          clear hsc hl2 hat hbig
          go_wp2_with fail
          refine (HS.out _ HB.out).mono ?_
          rintro e w3 ⟨b3, A', cap', rfl, o3⟩
          rw [HL2.out, ← HN.out]
          have HR3 := Lib.hid o3.rd
          have HRD3 := Lib.hid ((HRD.out.below HB.out).more HB.out.size |>.next b3)
          have HB3 := Lib.hid (bnext HB2.out (bnext HB.out b3))
          clear b3 o3
          have q2 : ((i : Int) != (i : Int)) = false := by simp
          go_wp2
          go_loopw [88] (fun iv wr => Back2Rel w3 i iv wr) (fun iv _ => i - (intOf iv).toNat)
          case atStart => exact ⟨0, Nat.zero_le _, rfl, Below.refl _ _⟩
          case round =>
            obtain ⟨j, hjn, rfl, hbj⟩ := hrel
            have HBJ := Lib.hid hbj
            clear hbj
            by_cases hlj : j < i
            · have hti : l[j]? = some (l[j]'(by rw [← HN.out]; exact hlj)) := List.getElem?_eq_getElem _
              obtain ⟨t, htt⟩ : ∃ t, t = l[j]'(by rw [← HN.out]; exact hlj) := ⟨_, rfl⟩
              rw [← htt] at hti
              obtain ⟨pos, hp, _⟩ := HAT.out j t hti
              obtain ⟨b, o, rfl, hbl, c0, c1, c2, c3⟩ := (HRD3.out.below HBJ.out).tok hti
              obtain ⟨b', o', rfl, hbl', c0', c1', c2', c3'⟩ := (HR3.out.below HBJ.out).tok hp
              obtain ⟨kd, tx, nm, P⟩ := t
              dsimp only at c0 c1 c2 c3 c0' c1' c2' c3'
              have i0 : (0 : Int) ≤ (j : Int) := by omega
              have i1 : (j : Int) < (i : Int) := by omega
              clear hti htt hp hbl hbl'
              go_wp2_with fail
              go_quiet (fail)
              go_wp2
              exact ⟨⟨j + 1, by omega, by go_num, below_drewN HBJ.out _⟩, by simp [intOf]; omega⟩
            · obtain rfl : j = i := by omega
              have HB9 := Lib.hid (bnext HB3.out HBJ.out)
              go_wp2
              go_ret
              exact ⟨rfl, HB9.out⟩
  · obtain ⟨te, xe, rfl⟩ := he.iface
    clear hR he
    go_wp2
    go_ret
    exact ⟨rfl, HB2.out⟩
end Go.Proofs.YtbiobefcagboeaaDoor
