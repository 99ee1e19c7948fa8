/-
  The walk of the law LexSpaces.
-/
import Derived.Test.YtbiobefcagboeaaDoorLAwake
import Derived.Test.YtbiobefcagboeaaDoorSame
import Derived.Test.YtbiobefcagboeaaDoorWideM
namespace Go.Proofs.YtbiobefcagboeaaDoor
set_option linter.unusedVariables false
set_option linter.unusedSimpArgs false
open Go.RowKit
theorem run_min_600 (w : World) (ts : Array TypeId) (t : TypeId) (a : Nat) : (Builtin.min_ ts t #[.int .i64 (a : Int), .int .i64 600]).run Tryd.prog w = .ok (.int .i64 (minN a 600 : Nat)) w := run_min_lit w ts t a 600
attribute [local go_sem ↓] run_min_600
/-- The first loop's state: the joined text, the index. -/
def SpaceRel (W : World) (l : List Tok) (jv iv : Value) (wr : World) : Prop := ∃ (i : Nat) (J : ByteArray) (xs : List (Tok × List UInt8)), i ≤ l.length ∧ iv = .int .i64 i ∧ jv = .string J ∧ xs.map Prod.fst = l.take i ∧ (∀ x ∈ xs, GapOk x.2) ∧ J.data.toList = wideL xs ∧ J.size ≤ i * 608 ∧ Below W.heap.size W wr
def Space2Rel (W : World) (n : Nat) (iv : Value) (wr : World) : Prop := ∃ i : Nat, i ≤ n ∧ iv = .int .i64 i ∧ Below W.heap.size W wr
theorem mod4 (x : Int) : let q := wrap64 ((IntKind.u64.wrap x).tmod 4); q = 0 ∨ q = 1 ∨ q = 2 ∨ q = 3 := by
  have h0 : 0 ≤ IntKind.u64.wrap x ∧ IntKind.u64.wrap x < 18446744073709551616 := by
    unfold IntKind.wrap
    simp [IntKind.bits, IntKind.signed]
    omega
  have h1 : (IntKind.u64.wrap x).tmod 4 = IntKind.u64.wrap x % 4 := Int.tmod_eq_emod_of_nonneg h0.1
  have h2 : wrap64 ((IntKind.u64.wrap x).tmod 4) = IntKind.u64.wrap x % 4 := by
    rw [h1]
    exact IntWalk.wrap64_in (IntKind.u64.wrap x % 4) (by omega)
  intro q
  have h3 : q = wrap64 ((IntKind.u64.wrap x).tmod 4) := rfl
  omega
theorem gap4 {q : Int} (h : q = 0 ∨ q = 1 ∨ q = 2 ∨ q = 3) : ∃ g : ByteArray, g.size ≤ 8 ∧ GapOk g.data.toList ∧ ∀ W, (Instr.index 35 (.agg #[.string ⟨#[32]⟩, .string ⟨#[10, 9]⟩, .string ⟨#[32, 35, 32, 97, 32, 49, 32, 10]⟩, .string ⟨#[13, 10, 35, 10]⟩]) (.int .i64 q)).run Tryd.prog W = .ok (.string g) W := by
  rcases h with rfl | rfl | rfl | rfl
  · exact ⟨⟨#[32]⟩, by decide, gap_ok1, fun W => by kernel_rfl⟩
  · exact ⟨⟨#[10, 9]⟩, by decide, gap_ok2, fun W => by kernel_rfl⟩
  · exact ⟨⟨#[32, 35, 32, 97, 32, 49, 32, 10]⟩, by decide, gap_ok3, fun W => by kernel_rfl⟩
  · exact ⟨⟨#[13, 10, 35, 10]⟩, by decide, gap_ok4, fun W => by kernel_rfl⟩
set_option maxRecDepth 100000 in
set_option maxHeartbeats 4000000 in
theorem LexSpaces_walk (w : World) (hg : ETyped w) (ht : ErrT w) (s : ByteArray) (hsz : s.size ≤ maxLen) (BA : Option Addr) (bc : Nat) (by_ : List Int) (hbl : by_.length ≤ maxLen) (hby : Rd w w.heap.size BA (by_.map (Value.int .i64))) (hwf : ∀ n ∈ by_, (Lit.int .i64 n).wf = true) :
    Calls Tryd.prog 4 #[.string s, .slice BA by_.length bc] w fun e w' => e = .returned (.bool true) ∧ Below w.heap.size w w' := by
  obtain ⟨m, hmm⟩ : ∃ m, m = by_.length := ⟨_, rfl⟩
  rw [← hmm] at hbl ⊢
  have HMM := Lib.hid hmm
  have HBY := Lib.hid hby
  clear hmm hby hwf
  obtain ⟨m1, m2, m3⟩ := minN_le s.size 600
  obtain ⟨M, hM⟩ : ∃ M, M = minN s.size 600 := ⟨_, rfl⟩
  rw [← hM] at m1 m2
  clear m3
  obtain ⟨T, hT⟩ : ∃ T, T = s.extract 0 M := ⟨_, rfl⟩
  have hTs : T.size ≤ 600 := by rw [hT, ByteArray.size_extract]; omega
  have HT := Lib.hid hT
  have HTY := Lib.hid ht
  have HG := Lib.hid hg
  have HM := Lib.hid hM
  have hm := hM.symm
  clear hT hg ht hM
  go_enter Tryd.func4, Tryd.ntmps4
  go_wp2_with fail
  refine (awake_true _ HG.out HTY.out).mono ?_
  rintro e w1 ⟨rfl, b1⟩
  have HG1 := Lib.hid (HG.out.next b1)
  have HT1 := Lib.hid (HTY.out.next b1)
  have HB1 := Lib.hid b1
  clear b1
  go_wp2_with fail
  rw [← HT.out]
  refine (scan_any T w1 (by omega) HG1.out HT1.out).mono ?_
  rintro e w2 ⟨b2, h⟩
  have HG2 := Lib.hid (HG1.out.next b2)
  have HT2 := Lib.hid (HT1.out.next b2)
  have HB2 := Lib.hid (bnext HB1.out b2)
  clear b2
  rcases h with ⟨l, A, cap, hR, rfl, o2⟩ | ⟨c, p, v, hR, rfl, he⟩
  · obtain ⟨r, hr, htk, hrl, _⟩ := scanM_iff hR
    obtain ⟨n, hn⟩ : ∃ n, n = l.length := ⟨_, rfl⟩
    have hn1 : n ≤ 513 := by rw [hn, hr]; simp; omega
    have HR := Lib.hid hr
    have HTK := Lib.hid htk
    have HRD := Lib.hid o2.rd
    have HRL := Lib.hid hrl
    have HN := Lib.hid hn
    rw [← hn]
    clear hR hr htk o2 hn hrl
    by_cases h200 : (200 : Int) < (n : Int)
    · have q0 : decide ((200 : Int) < (n : Int)) = true := decide_eq_true h200
      clear h200
      go_wp2
      go_ret
      exact ⟨rfl, HB2.out⟩
    have q0 : decide ((200 : Int) < (n : Int)) = false := decide_eq_false h200
    have hn2 : n ≤ 200 := by omega
    clear h200
    go_wp2
    go_loopw [7, 34] (fun jv iv wr => SpaceRel w2 l jv iv wr) (fun _ iv _ => n - (intOf iv).toNat)
    case atStart => exact ⟨0, ⟨#[]⟩, [], Nat.zero_le _, rfl, rfl, rfl, (by simp), rfl, Nat.le_refl _, Below.refl _ _⟩
    case round =>
      obtain ⟨i, J, xs, hi, rfl, rfl, hx, hgp, hj, hjs, hb⟩ := hrel
      have HJ := Lib.hid hj
      have HX := Lib.hid hx
      have HGP := Lib.hid hgp
      have HB := Lib.hid hb
      rw [← HN.out] at hi
      clear hj hb hx hgp
      by_cases hlt : i < n
      · have hti : l[i]? = some (l[i]'(by rw [← HN.out]; exact hlt)) := List.getElem?_eq_getElem _
        obtain ⟨t, htt⟩ : ∃ t, t = l[i]'(by rw [← HN.out]; exact hlt) := ⟨_, rfl⟩
        rw [← htt] at hti
        have hta := tok_at HTK.out (t := t) (by rw [← HR.out]; exact List.mem_of_getElem? hti)
        have HTI := Lib.hid hti
        obtain ⟨b, o, rfl, hbl, c0, c1, c2, c3⟩ := (HRD.out.below HB.out).tok hti
        obtain ⟨kd, tx, nm, P⟩ := t
        dsimp only at hta c0 c1 c2 c3
        have hz : tx.size ≤ 600 := by omega
        clear hti htt hbl hta
        have i0 : (0 : Int) ≤ (i : Int) := by omega
        have i1 : (i : Int) < (n : Int) := by omega
        by_cases hm0 : m = 0
        · have q1 : decide (0 < m) = false := by simp; omega
          obtain ⟨g, hgs, hgo, hidx⟩ := gap4 (q := 0) (.inl rfl)
          have HGO := Lib.hid hgo
          clear hgo hm0
          go_wp2
          refine ⟨⟨i + 1, J ++ tx ++ g, xs ++ [(⟨kd, tx, nm, P⟩, g.data.toList)], by rw [← HN.out]; omega, by go_num, rfl, map_step HX.out HTI.out _, ?_, ?_, ?_, HB.out.alloc HB.out.size _⟩, by simp [intOf]; omega⟩
          · intro y hy
            rcases List.mem_append.1 hy with hy | hy
            · exact HGP.out y hy
            · rw [List.mem_singleton.1 hy]
              exact HGO.out
          · rw [wide_snoc, ← HJ.out]
            simp
          · have e : (J ++ tx ++ g).size = J.size + tx.size + g.size := by rw [ByteArray.size_append, ByteArray.size_append]
            omega
        · have q1 : decide (0 < m) = true := by simp; omega
          have q1' : 0 < m := by omega
          obtain ⟨K, hK⟩ : ∃ K, K = i % m := ⟨_, rfl⟩
          have hKm : K < m := by rw [hK]; exact Nat.mod_lt _ (by omega)
          have hxi : by_[K]? = some (by_[K]'(by rw [← HMM.out]; exact hKm)) := List.getElem?_eq_getElem _
          obtain ⟨x, hxx⟩ : ∃ x, x = by_[K]'(by rw [← HMM.out]; exact hKm) := ⟨_, rfl⟩
          rw [← hxx] at hxi
          obtain ⟨bb, bo, rfl, hbb, hbc0⟩ := ((HBY.out.below HB2.out).below (HB.out.mono (by have := HB2.out.size; exact this))).at_ (k := K) (v := .int .i64 x) (by rw [List.getElem?_map, hxi]; rfl)
          have hbc : ∀ o : Obj, (wr.alloc o).cell? ⟨bb, bo + K, none⟩ = some (.int .i64 x) := fun o => (World.cell?_alloc_lt wr o _ (World.block_lt_of_cell? wr _ hbc0)).trans hbc0
          have k1 : (i : Int).tmod (m : Int) = (K : Int) := by rw [hK, Int.tmod_eq_emod_of_nonneg (by omega)]; omega
          have k1' : (i : Int) % (m : Int) = (K : Int) := by rw [hK]; omega
          have k2 : ((m : Int) == 0) = false := by rw [beq_eq_false_iff_ne]; omega
          have k3 : (0 : Int) ≤ (K : Int) := by omega
          have k4 : (K : Int) < (m : Int) := by omega
          have k5 : ¬ (m : Int) = 0 := by omega
          obtain ⟨g, hgs, hgo, hidx⟩ := gap4 (mod4 x)
          have HGO := Lib.hid hgo
          clear hgo hm0 hxi hxx hK hbb hbc0
          go_wp2
          refine ⟨⟨i + 1, J ++ tx ++ g, xs ++ [(⟨kd, tx, nm, P⟩, g.data.toList)], by rw [← HN.out]; omega, by go_num, rfl, map_step HX.out HTI.out _, ?_, ?_, ?_, HB.out.alloc HB.out.size _⟩, by simp [intOf]; omega⟩
          · intro y hy
            rcases List.mem_append.1 hy with hy | hy
            · exact HGP.out y hy
            · rw [List.mem_singleton.1 hy]
              exact HGO.out
          · rw [wide_snoc, ← HJ.out]
            simp
          · have e : (J ++ tx ++ g).size = J.size + tx.size + g.size := by rw [ByteArray.size_append, ByteArray.size_append]
            omega
      · obtain rfl : i = n := by omega
        rw [List.take_of_length_le (by rw [← HN.out]; exact Nat.le_refl _)] at HX
        have hJs : J.size ≤ 200000 := by omega
        clear hjs
        by_cases hbig : (4096 : Int) < (J.size : Int)
        · have q1 : decide ((4096 : Int) < (J.size : Int)) = true := decide_eq_true hbig
          have HBX := Lib.hid (bnext HB2.out (HB.out.mono (Nat.le_refl _)))
          clear hbig
          go_wp2
          go_ret
          exact ⟨rfl, HBX.out⟩
        · have q1 : decide ((4096 : Int) < (J.size : Int)) = false := decide_eq_false hbig
          obtain ⟨l2, hsc, hl2, hat⟩ := wide_scan2 HX.out HGP.out HTK.out HR.out HRL.out HJ.out (by omega)
          have HS := Lib.hid (fun W hW => scan_toks J l2 W (by omega) (HG2.out.next (w' := W) hW) (HT2.out.next hW) hsc)
          have HL2 := Lib.hid hl2
          have HAT := Lib.hid hat
          have hJ5 : J.size ≤ 4096 := by omega
          clear hsc hl2 hat hbig
          go_wp2_with fail
          refine (HS.out _ HB.out).mono ?_
          rintro e w3 ⟨b3, A', cap', rfl, o3⟩
          rw [HL2.out, ← HN.out]
          have HR3 := Lib.hid o3.rd
          have HRD3 := Lib.hid ((HRD.out.below HB.out).more HB.out.size |>.next b3)
          have HB3 := Lib.hid (bnext HB2.out (bnext HB.out b3))
          clear b3 o3
          have q2 : ((i : Int) != (i : Int)) = false := by simp
          go_wp2
          go_loopw [81] (fun iv wr => Space2Rel w3 i iv wr) (fun iv _ => i - (intOf iv).toNat)
          case atStart => exact ⟨0, Nat.zero_le _, rfl, Below.refl _ _⟩
          case round =>
            obtain ⟨j, hjn, rfl, hbj⟩ := hrel
            have HBJ := Lib.hid hbj
            clear hbj
            by_cases hlj : j < i
            · have hti : l[j]? = some (l[j]'(by rw [← HN.out]; exact hlj)) := List.getElem?_eq_getElem _
              obtain ⟨t, htt⟩ : ∃ t, t = l[j]'(by rw [← HN.out]; exact hlj) := ⟨_, rfl⟩
              rw [← htt] at hti
              obtain ⟨P, hp, hp1, hext⟩ := HAT.out j t hti
              obtain ⟨b, o, rfl, hbl, c0, c1, c2, c3⟩ := (HRD3.out.below HBJ.out).tok hti
              obtain ⟨b', o', rfl, hbl', c0', c1', c2', c3'⟩ := (HR3.out.below HBJ.out).tok hp
              obtain ⟨kd, tx, nm, P0⟩ := t
              dsimp only at c0 c1 c2 c3 c0' c1' c2' c3' hp1 hext
              have i0 : (0 : Int) ≤ (j : Int) := by omega
              have i1 : (j : Int) < (i : Int) := by omega
              obtain ⟨Z, hZ⟩ : ∃ Z, Z = tx.size := ⟨_, rfl⟩
              rw [← hZ] at hp1 hext
              have hzz := hZ.symm
              have k1 : IntKind.i64.wrap ((P : Int) + (Z : Int)) = (P : Int) + (Z : Int) := IntWalk.i64_in _ (by omega)
              have k3 : (0 : Int) ≤ (P : Int) := by omega
              have k4 : (P : Int) ≤ (P : Int) + (Z : Int) := by omega
              have k5 : (P : Int) + (Z : Int) ≤ (J.size : Int) := by omega
              have k6 : ((P : Int) + (Z : Int)).toNat = P + Z := by omega
              have k7 : (0 : Int) ≤ (P : Int) + (Z : Int) := by omega
              clear hti htt hp hbl hbl' hZ
              go_wp2_with fail
              go_quiet (fail)
              go_wp2
              exact ⟨⟨j + 1, by omega, by go_num, below_drewN HBJ.out _⟩, by simp [intOf]; omega⟩
            · obtain rfl : j = i := by omega
              have HB9 := Lib.hid (bnext HB3.out HBJ.out)
              go_wp2
              go_ret
              exact ⟨rfl, HB9.out⟩
  · obtain ⟨te, xe, rfl⟩ := he.iface
    clear hR he
    go_wp2
    go_ret
    exact ⟨rfl, HB2.out⟩
end Go.Proofs.YtbiobefcagboeaaDoor
