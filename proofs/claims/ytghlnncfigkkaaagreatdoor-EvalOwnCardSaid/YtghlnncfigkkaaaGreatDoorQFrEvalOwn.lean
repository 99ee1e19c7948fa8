/-
  Rows of tensors: the document's Same at two that read alike; stores into answered tensors. The text of the law EvalOwn: what it evaluates to. No program but the text. The walk of the law EvalOwn. The law EvalOwn: for every input the call returns true, and each argument reads as it read before; the six listed variables tied to the program's text. The frame round its walk; written by a program of mine (mkdoorl.py).
-/
import Derived.Test.YtghlnncfigkkaaaGreatDoorQNum
import Derived.Test.YtghlnncfigkkaaaGreatDoorQEvAT
import Derived.Test.YtghlnncfigkkaaaGreatDoorQOpen
import Derived.Test.YtghlnncfigkkaaaGreatDoorTie
import Derived.Test.YtghlnncfigkkaaaGreatDoorCards
import Derived.SevenTiedAt
namespace Go.Proofs.YtghlnncfigkkaaaGreatDoor
set_option linter.unusedVariables false
set_option linter.unusedSimpArgs false
open Go.RowKit
set_option maxRecDepth 100000 in
set_option maxHeartbeats 2000000 in
theorem same15 (A A' : Option Addr) (n c c' : Nat) (xs : List TN) (w : World) (hn : n = xs.length) (hl : n ≤ 1000000) (h : RdTN w w.heap.size A xs) (h' : RdTN w w.heap.size A' xs) :
    Calls Tryz.prog 26 #[.slice A n c, .slice A' n c'] w fun e w' => e = .returned (.bool true) ∧ Below w.heap.size w w' := by
  have HN := Lib.hid hn
  have H := Lib.hid h
  have H' := Lib.hid h'
  clear h h' hn
  have q0' : ((n : Int) != (n : Int)) = false := by simp
  go_enter Tryz.func26, Tryz.ntmps26
  go_wp2
  go_loopw [13] (fun iv wr => (∃ i : Nat, i ≤ n ∧ iv = .int .i64 i) ∧ Below w.heap.size w wr) (fun iv _ => n - (intOf iv).toNat)
  case atStart => exact ⟨⟨0, by omega, rfl⟩, Below.refl _ _⟩
  case round =>
    obtain ⟨⟨i, hi, rfl⟩, hb⟩ := hrel
    have HB := Lib.hid hb
    by_cases hlt : i < n
    · have hx : xs[i]? = some (xs[i]'(by rw [← HN.out]; exact hlt)) := List.getElem?_eq_getElem _
      obtain ⟨x, hxx⟩ : ∃ x, x = xs[i]'(by rw [← HN.out]; exact hlt) := ⟨_, rfl⟩
      rw [← hxx] at hx
      obtain ⟨b, o, rfl, hbl, ⟨A1, c1, d0, d1, d2, _⟩, A2, c2, d3, d4, d5, _⟩ := (H.out.next hb).at_ hx
      obtain ⟨b', o', rfl, hbl', ⟨A3, c3, e0, e1, e2, _⟩, A4, c4, e3, e4, e5, _⟩ := (H'.out.next hb).at_ hx
      have i0 : (0 : Int) ≤ (i : Int) := by omega
      have i1 : (i : Int) < (n : Int) := by omega
      obtain ⟨xl, hxl⟩ : ∃ xl, xl = x.sh.length := ⟨_, rfl⟩
      obtain ⟨yl, hyl⟩ : ∃ yl, yl = x.el.length := ⟨_, rfl⟩
      rw [← hxl] at d0 d2 e0 e2
      rw [← hyl] at d3 d5 e3 e5
      have HI := Lib.hid (fun q => ints2_any A1 A3 xl xl c1 c3 x.sh x.sh (wr.drewN q) hxl hxl d2 e2 (d1.drewN q) (e1.drewN q))
      rw [show (x.sh == x.sh) = true from beq_self_eq_true _] at HI
      have HJ := Lib.hid (fun q => Words_same A2 A4 c2 c4 x.el yl yl (wr.drewN q).heap.size (wr.drewN q) hyl.symm hyl.symm d5 (d4.drewN q) (e4.drewN q))
      clear hx hxx d1 d2 d4 d5 e1 e2 e4 e5 hbl hbl' hb hxl hyl
      go_wp2_with fail
      go_quiet (first
        | (go_at_call 49; exact Calls.quiet_of (HI.out _))
        | (go_at_call 50; exact Calls.quiet_of (HJ.out _)))
      go_wp2
      exact ⟨⟨⟨i + 1, by omega, rfl⟩, below_drewN HB.out _⟩, by simp [intOf]; omega⟩
    · obtain rfl : i = n := by omega
      go_wp2
      go_ret
      exact ⟨rfl, HB.out⟩
theorem apart_at {L : List (Option Nat)} (h : L.Pairwise apart) {p q : Nat} {x : Option Nat} {b : Nat} (hp : L[p]? = some x) (hq : L[q]? = some (some b)) (hne : p ≠ q) : x ≠ some b := by
  obtain ⟨h1, e1⟩ := List.getElem?_eq_some_iff.1 hp
  obtain ⟨h2, e2⟩ := List.getElem?_eq_some_iff.1 hq
  rw [List.pairwise_iff_getElem] at h
  rcases Nat.lt_or_gt_of_ne hne with hl | hl
  · have h3 := h p q h1 h2 hl
    rw [e1, e2] at h3
    rcases h3 with h3 | h3
    · rw [h3]; simp
    · exact h3
  · have h3 := h q p h2 h1 hl
    rw [e1, e2] at h3
    rcases h3 with h3 | h3
    · cases h3
    · exact fun e => h3 e.symm
theorem Own.setAt {w : World} {base cap g : Nat} {e : TypeId} {xs : List Value} (h : Own w base e (some ⟨g, 0, none⟩) cap xs) (i : Nat) (v : Value) : Own (w.setCell ⟨g, i, none⟩ v) base e (some ⟨g, 0, none⟩) cap (xs.set i v) := by
  rcases h.form with ⟨h1, _⟩ | ⟨g', cur, h1, hb, hg, h2, h3, h4, h5⟩
  · cases h1
  · injection h1 with h1
    injection h1 with h1
    subst h1
    refine ⟨by simp, .inr ⟨g, cap, cur.set! i v, by simp, hb, ?_, by simpa using h2, h3, ?_, ?_⟩⟩
    · simp [World.setCell, Array.getElem?_modify, hg]
    · simpa using h4
    · have h6 := congrArg (fun l => l.set i v) h5
      simp only [List.length_set, Nat.mul_one]
      rw [← h6, Array.set!_eq_setIfInBounds, Array.toList_setIfInBounds, List.take_set]
theorem Own.freeAt {w : World} {base cap g : Nat} {e : TypeId} {xs : List Value} (h : Own w base e (some ⟨g, 0, none⟩) cap xs) (i : Nat) : w.frozen? ⟨g, i, none⟩ = false := by
  rcases h.form with ⟨h1, _⟩ | ⟨g', cur, h1, hb, hg, _⟩
  · cases h1
  · injection h1 with h1
    injection h1 with h1
    subst h1
    simp [World.frozen?, hg]
/-- A word of an answered tensor is stored. -/
theorem OutT.setEl {w : World} {base n c : Nat} {A : Option Addr} {l : List TN} (h : OutT w base A n c l) {i k : Nat} {t : TN} (ht : l[i]? = some t) (hk : k < t.el.length) :
    ∃ g b c2, A = some ⟨g, 0, none⟩ ∧ w.cell? ⟨g, i * 2 + 1, none⟩ = some (.slice (some ⟨b, 0, none⟩) t.el.length c2) ∧ base ≤ b ∧ w.cell? ⟨b, k, none⟩ = some (U (nthW t.el k)) ∧ w.frozen? ⟨b, k, none⟩ = false ∧
      ∀ x, OutT (w.setCell ⟨b, k, none⟩ (U x)) base A n c (l.set i ⟨t.sh, t.el.set k x⟩) := by
  obtain ⟨vs, h1, h2, h3, h4, h5, h6⟩ := h
  have hi : i < l.length := (List.getElem?_eq_some_iff.1 ht).1
  have hv : vs[i]? = some (vs[i]'(by omega)) := List.getElem?_eq_getElem _
  obtain ⟨q0, A1, c1, A2, c2, q1, q2, q3⟩ := h4 i _ t hv ht
  obtain ⟨b, rfl, hb, hbw⟩ := q3.some_ (by rw [List.length_map]; omega)
  obtain ⟨g, hA, hg, _, hc⟩ := trow_cell h1 (by omega)
  have k1 := hc _ _ ((tflat_nth tnC 2 (fun _ => rfl) vs i 1 _ hv (by omega)).trans (by rw [q1]; rfl))
  have hB : (vs.flatMap tnB)[i * 2 + 1]? = some (some b) := (tflat_nth tnB 2 (fun _ => rfl) vs i 1 _ hv (by omega)).trans (by rw [q1]; simp [tnB, blk_own, blk])
  have hbA : some b ≠ blk A := by
    rcases h6 (some b) (List.mem_of_getElem? hB) with h | h
    · cases h
    · exact h
  refine ⟨g, b, c2, hA, k1, hb, q3.cellAt (by rw [List.getElem?_map, List.getElem?_eq_getElem hk]; simp [nthW, List.getD, List.getElem?_eq_getElem hk]), q3.freeAt k, fun x => ⟨vs, trow_keep h1 (fun g' hg' => eset_ne _ _ _ (fun e => hbA (by rw [hg', e]))), h2, by rw [List.length_set]; exact h3, fun j p y hp hy => ?_, h5, h6⟩⟩
  by_cases hji : j = i
  · subst hji
    rw [List.getElem?_set_self hi] at hy
    injection hy with hy
    rw [hv] at hp
    injection hp with hp
    subst hy hp
    refine ⟨q0, A1, c1, some ⟨b, 0, none⟩, c2, by rw [q1]; simp, Own.other q2 _ _ ?_, ?_⟩
    · have := apart_at h5 ((tflat_nth tnB 2 (fun _ => rfl) vs j 0 _ hv (by omega)).trans (show _ = some (blk A1) from by rw [q1]; simp [tnB, blk_own])) hB (by omega)
      exact this
    · have := q3.setAt k (U x)
      rw [← List.map_set] at this
      exact this
  · rw [List.getElem?_set_ne (fun e => hji e.symm)] at hy
    obtain ⟨r0, B1, d1, B2, d2, r1, r2, r3⟩ := h4 j p y hp hy
    refine ⟨r0, B1, d1, B2, d2, r1, Own.other r2 _ _ ?_, Own.other r3 _ _ ?_⟩
    · exact apart_at h5 ((tflat_nth tnB 2 (fun _ => rfl) vs j 0 _ hp (by omega)).trans (show _ = some (blk B1) from by rw [r1]; simp [tnB, blk_own])) hB (by omega)
    · exact apart_at h5 ((tflat_nth tnB 2 (fun _ => rfl) vs j 1 _ hp (by omega)).trans (show _ = some (blk B2) from by rw [r1]; simp [tnB, blk_own])) hB (by omega)
/-- A size of an answered tensor is stored. -/
theorem OutT.setSh {w : World} {base n c : Nat} {A : Option Addr} {l : List TN} (h : OutT w base A n c l) {i k : Nat} {t : TN} (ht : l[i]? = some t) (hk : k < t.sh.length) :
    ∃ g b c2, A = some ⟨g, 0, none⟩ ∧ w.cell? ⟨g, i * 2, none⟩ = some (.slice (some ⟨b, 0, none⟩) t.sh.length c2) ∧ base ≤ b ∧ w.cell? ⟨b, k, none⟩ = some (VI (t.sh[k]'hk)) ∧ w.frozen? ⟨b, k, none⟩ = false ∧
      ∀ x, OutT (w.setCell ⟨b, k, none⟩ (VI x)) base A n c (l.set i ⟨t.sh.set k x, t.el⟩) := by
  obtain ⟨vs, h1, h2, h3, h4, h5, h6⟩ := h
  have hi : i < l.length := (List.getElem?_eq_some_iff.1 ht).1
  have hv : vs[i]? = some (vs[i]'(by omega)) := List.getElem?_eq_getElem _
  obtain ⟨q0, A1, c1, A2, c2, q1, q2, q3⟩ := h4 i _ t hv ht
  obtain ⟨b, rfl, hb, hbw⟩ := q2.some_ (by rw [List.length_map]; omega)
  obtain ⟨g, hA, hg, _, hc⟩ := trow_cell h1 (by omega)
  have k1 := hc _ _ ((tflat_nth tnC 2 (fun _ => rfl) vs i 0 _ hv (by omega)).trans (by rw [q1]; rfl))
  have hB : (vs.flatMap tnB)[i * 2 + 0]? = some (some b) := (tflat_nth tnB 2 (fun _ => rfl) vs i 0 _ hv (by omega)).trans (by rw [q1]; simp [tnB, blk_own, blk])
  have hbA : some b ≠ blk A := by
    rcases h6 (some b) (List.mem_of_getElem? hB) with h | h
    · cases h
    · exact h
  refine ⟨g, b, c1, hA, k1, hb, q2.cellAt (by rw [List.getElem?_map, List.getElem?_eq_getElem hk]; rfl), q2.freeAt k, fun x => ⟨vs, trow_keep h1 (fun g' hg' => eset_ne _ _ _ (fun e => hbA (by rw [hg', e]))), h2, by rw [List.length_set]; exact h3, fun j p y hp hy => ?_, h5, h6⟩⟩
  by_cases hji : j = i
  · subst hji
    rw [List.getElem?_set_self hi] at hy
    injection hy with hy
    rw [hv] at hp
    injection hp with hp
    subst hy hp
    refine ⟨by simpa using q0, some ⟨b, 0, none⟩, c1, A2, c2, by rw [q1]; simp, ?_, Own.other q3 _ _ ?_⟩
    · have := q2.setAt k (VI x)
      rw [← List.map_set] at this
      exact this
    · have := apart_at h5 ((tflat_nth tnB 2 (fun _ => rfl) vs j 1 _ hv (by omega)).trans (show _ = some (blk A2) from by rw [q1]; simp [tnB, blk_own])) hB (by omega)
      exact this
  · rw [List.getElem?_set_ne (fun e => hji e.symm)] at hy
    obtain ⟨r0, B1, d1, B2, d2, r1, r2, r3⟩ := h4 j p y hp hy
    refine ⟨r0, B1, d1, B2, d2, r1, Own.other r2 _ _ ?_, Own.other r3 _ _ ?_⟩
    · exact apart_at h5 ((tflat_nth tnB 2 (fun _ => rfl) vs j 0 _ hp (by omega)).trans (show _ = some (blk B1) from by rw [r1]; simp [tnB, blk_own])) hB (by omega)
    · exact apart_at h5 ((tflat_nth tnB 2 (fun _ => rfl) vs j 1 _ hp (by omega)).trans (show _ = some (blk B2) from by rw [r1]; simp [tnB, blk_own])) hB (by omega)
end Go.Proofs.YtghlnncfigkkaaaGreatDoor
namespace Go.Proofs.YtghlnncfigkkaaaGreatDoor
set_option linter.unusedVariables false
set_option linter.unusedSimpArgs false
open Go.RowKit
def ownT : ByteArray := ⟨#[105, 110, 112, 117, 116, 32, 48, 32, 120, 32, 91, 50, 44, 50, 93, 59, 32, 111, 117, 116, 112, 117, 116, 32, 120, 59, 32, 111, 117, 116, 112, 117, 116, 32, 120, 59, 32, 108, 101, 116, 32, 121, 32, 61, 32, 120, 59, 32, 111, 117, 116, 112, 117, 116, 32, 121, 59]⟩
theorem ownT_scan : scanM ownT = .toks (toksE (scanM ownT)) := by kernel_rfl
theorem ownT_len : (toksE (scanM ownT)).length ≤ 160 := Nat.le_of_ble_eq_true (by kernel_rfl)
theorem ownT_err : (parseP 2000 (toksE (scanM ownT))).err = none := by kernel_rfl
theorem ownT_ss : (ssE ownT).length = 5 := by kernel_rfl
theorem ownT_es : (esE ownT).length = 1 := by kernel_rfl
theorem ownT_num : (esE ownT).all (fun e => decide (e.num ≤ 18446744073709551615)) = true := by kernel_rfl
theorem ownT_shp : (ssE ownT).all (fun s => decide (s.shape.length ≤ 1000000)) = true := by kernel_rfl
theorem ownT_num' : ∀ e ∈ esE ownT, e.num ≤ 18446744073709551615 := fun e he => of_decide_eq_true (List.all_eq_true.1 ownT_num e he)
theorem ownT_shp' : ∀ s ∈ ssE ownT, s.shape.length ≤ 1000000 := fun s hs => of_decide_eq_true (List.all_eq_true.1 ownT_shp s hs)
theorem ownT_ev (a0 a1 a2 a3 : UInt64) : evalE (ssE ownT) (esE ownT) [⟨[2, 2], [a0, a1, a2, a3]⟩] [] = .inl [⟨[2, 2], [a0, a1, a2, a3]⟩, ⟨[2, 2], [a0, a1, a2, a3]⟩, ⟨[2, 2], [a0, a1, a2, a3]⟩] := by kernel_rfl
theorem ownT_fill (a : List UInt64) : fillP [[2, 2]] a 0 = [⟨[2, 2], [fillAt a 0, fillAt a 1, fillAt a 2, fillAt a 3]⟩] := rfl
end Go.Proofs.YtghlnncfigkkaaaGreatDoor
namespace Go.Proofs.YtghlnncfigkkaaaGreatDoor
set_option linter.unusedVariables false
set_option linter.unusedSimpArgs false
open Go.RowKit
theorem u64_add1 (x : UInt64) : IntKind.u64.wrap ((x.toNat : Int) + 1) = ((addW x 1).toNat : Int) := u64_add x 1
/-- So many tensors, and words of the next one, have been counted up. -/
def OwnSt (a0 : UInt64) (i k : Nat) (L : List TN) : Prop := L.length = 3 ∧ ∀ j t, L[j]? = some t → t.sh.length = 2 ∧ t.el.length = 4 ∧ nthW t.el 0 = if j < i ∨ (j = i ∧ 0 < k) then addW a0 1 else a0
theorem OwnSt.el {a0 : UInt64} {i k : Nat} {L : List TN} (h : OwnSt a0 i k L) (hi : i < 3) : ∃ t, L[i]? = some t ∧ t.sh.length = 2 ∧ t.el.length = 4 ∧ (k < 4 → OwnSt a0 i (k + 1) (L.set i ⟨t.sh, t.el.set k (addW (nthW t.el k) 1)⟩)) ∧ (∀ q, OwnSt a0 i k (L.set i ⟨t.sh.set q 9, t.el⟩)) := by
  obtain ⟨h1, h2⟩ := h
  have ht : L[i]? = some (L[i]'(by omega)) := List.getElem?_eq_getElem _
  obtain ⟨t, hte⟩ : ∃ t, t = L[i]'(by omega) := ⟨_, rfl⟩
  rw [← hte] at ht
  obtain ⟨g1, g2, g3⟩ := h2 i t ht
  refine ⟨t, ht, g1, g2, fun hk => ⟨by rw [List.length_set]; exact h1, fun j x hx => ?_⟩, fun q => ⟨by rw [List.length_set]; exact h1, fun j x hx => ?_⟩⟩
  · by_cases hj : j = i
    · subst hj
      rw [List.getElem?_set_self (by omega)] at hx
      injection hx with hx
      subst hx
      refine ⟨g1, by dsimp only; rw [List.length_set]; exact g2, ?_⟩
      dsimp only
      rw [if_pos (.inr ⟨rfl, by omega⟩)]
      by_cases hk0 : k = 0
      · subst hk0
        rw [nthW_eq, List.getD_eq_getElem?_getD, List.getElem?_set_self (by omega)]
        simp only [Option.getD_some]
        rw [g3, if_neg (by omega)]
      · rw [nthW_eq, List.getD_eq_getElem?_getD, List.getElem?_set_ne hk0, ← List.getD_eq_getElem?_getD, ← nthW_eq, g3, if_pos (.inr ⟨rfl, by omega⟩)]
    · rw [List.getElem?_set_ne (fun e => hj e.symm)] at hx
      obtain ⟨q1, q2, q3⟩ := h2 j x hx
      refine ⟨q1, q2, ?_⟩
      rw [q3]
      by_cases hlt : j < i
      · rw [if_pos (.inl hlt), if_pos (.inl hlt)]
      · rw [if_neg (by omega), if_neg (by omega)]
  · by_cases hj : j = i
    · subst hj
      rw [List.getElem?_set_self (by omega)] at hx
      injection hx with hx
      subst hx
      exact ⟨by dsimp only; rw [List.length_set]; exact g1, g2, g3⟩
    · rw [List.getElem?_set_ne (fun e => hj e.symm)] at hx
      exact h2 j x hx
theorem OwnSt.step {a0 : UInt64} {i : Nat} {L : List TN} (h : OwnSt a0 i 4 L) : OwnSt a0 (i + 1) 0 L := by
  obtain ⟨h1, h2⟩ := h
  refine ⟨h1, fun j t ht => ?_⟩
  obtain ⟨q1, q2, q3⟩ := h2 j t ht
  refine ⟨q1, q2, ?_⟩
  rw [q3]
  by_cases hlt : j < i ∨ (j = i ∧ 0 < 4)
  · rw [if_pos hlt, if_pos (by omega)]
  · rw [if_neg hlt, if_neg (by omega)]
theorem RdTN.cut {w : World} {B : Nat} {A : Option Addr} {l : List TN} (h : RdTN w B A l) {k c : Nat} (hc : l.length ≤ c) : RdTN w B (cutA A k 2 c) (l.drop k) := by
  unfold cutA
  split
  · rename_i e
    rw [List.drop_eq_nil_of_le (by omega)]
    exact .inl rfl
  · rcases h with rfl | ⟨b, o, rfl, hb, hx⟩
    · rw [List.drop_nil]; exact .inl rfl
    · refine .inr ⟨b, o + k * 2, ?_, hb, fun i x hx2 => ?_⟩
      · simp [Addr.add]
      · rw [List.getElem?_drop] at hx2
        have := hx _ _ hx2
        rwa [show o + (k + i) * 2 = o + k * 2 + i * 2 by omega] at this
theorem RdTN.take {w : World} {B : Nat} {A : Option Addr} {l : List TN} (h : RdTN w B A l) (k : Nat) : RdTN w B A (l.take k) := by
  rcases h with rfl | ⟨b, o, rfl, hb, hx⟩
  · rw [List.take_nil]; exact .inl rfl
  · refine .inr ⟨b, o, rfl, hb, fun i x hx2 => ?_⟩
    rw [List.getElem?_take] at hx2
    split at hx2
    · exact hx i x hx2
    · cases hx2
theorem OutT.cap {w : World} {base n c : Nat} {A : Option Addr} {l : List TN} (h : OutT w base A n c l) : n ≤ c ∧ c ≤ 9223372036854775807 := by
  obtain ⟨vs, h1, h2, h3, _⟩ := h
  rcases h1.2 with ⟨hv, hn⟩ | ⟨g, cap', cur, hv, hb, hg, h1, h2, _⟩
  · injection hv with a b c
    subst c
    exact ⟨by omega, by omega⟩
  · injection hv with a b c
    subst c
    simp only [maxLen] at h2
    exact ⟨h1, by omega⟩
theorem rdsh_22 (w : World) : RdSh ((w.alloc (.cells #[.int .i64 2, .int .i64 2] 3)).alloc (.cells #[.slice (some ⟨w.heap.size, 0, none⟩) 2 2] 41)) (some ⟨w.heap.size + 1, 0, none⟩) [[2, 2]] := by
  have h0 := heap_alloc_new w (.cells #[.int .i64 2, .int .i64 2] 3)
  obtain ⟨w1, hw1⟩ : ∃ w1, w1 = w.alloc (.cells #[.int .i64 2, .int .i64 2] 3) := ⟨_, rfl⟩
  rw [← hw1] at h0 ⊢
  have e1 : w1.heap.size = w.heap.size + 1 := by rw [hw1]; simp
  have h1 := heap_alloc_new w1 (.cells #[.slice (some ⟨w.heap.size, 0, none⟩) 2 2] 41)
  have hb : Below w1.heap.size w1 (w1.alloc (.cells #[.slice (some ⟨w.heap.size, 0, none⟩) 2 2] 41)) := (Below.refl _ _).alloc (Nat.le_refl _) _
  rw [e1] at h1
  have h2 := (hb.block w.heap.size (by omega)).trans h0
  refine .inr ⟨_, 0, rfl, (Array.getElem?_eq_some_iff.1 h1).1, fun j s hj => ?_⟩
  match j, hj with
  | 0, hj =>
    injection hj with hj
    subst hj
    exact ⟨_, 2, cell_of_row _ _ 0 _ _ _ h1, Rd.of_block h2 (Array.getElem?_eq_some_iff.1 h2).1 (by simp [VI]), by decide⟩
  | j + 1, hj => simp at hj
theorem tn_size (W : World) : (Go.sizeOf 43).run Tryz.prog W = .ok 2 W := by kernel_rfl
theorem cell_lt {w : World} {b k : Nat} {v : Value} (h : w.cell? ⟨b, k, none⟩ = some v) : b < w.heap.size := by
  rcases Nat.lt_or_ge b w.heap.size with h1 | h1
  · exact h1
  · exfalso
    unfold World.cell? at h
    rw [Array.getElem?_eq_none h1] at h
    cases h
theorem rdsh_22d (w : World) : RdSh ((w.alloc (.cells #[.int .i64 2, .int .i64 2] 3)).alloc (.cells #[.slice (some ⟨w.heap.size, 0, none⟩) 2 2] 41)).drew (some ⟨w.heap.size + 1, 0, none⟩) [[2, 2]] := (rdsh_22 w).next (Below.refl _ _).drew
theorem keep5 {w7 W W' : World} {g b0 b1 : Nat} {v1 v2 v3 v4 : Value} (h : W.cell? ⟨g, 1, none⟩ = some v1 ∧ W.cell? ⟨g, 3, none⟩ = some v2 ∧ W.cell? ⟨b0, 0, none⟩ = some v3 ∧ W.cell? ⟨b1, 0, none⟩ = some v4 ∧ Below w7.heap.size w7 W) (hb : Below W.heap.size W W') :
    W'.cell? ⟨g, 1, none⟩ = some v1 ∧ W'.cell? ⟨g, 3, none⟩ = some v2 ∧ W'.cell? ⟨b0, 0, none⟩ = some v3 ∧ W'.cell? ⟨b1, 0, none⟩ = some v4 ∧ Below w7.heap.size w7 W' :=
  ⟨(hb.cell (p := ⟨g, 1, none⟩) (cell_lt h.1)).trans h.1, (hb.cell (p := ⟨g, 3, none⟩) (cell_lt h.2.1)).trans h.2.1, (hb.cell (p := ⟨b0, 0, none⟩) (cell_lt h.2.2.1)).trans h.2.2.1, (hb.cell (p := ⟨b1, 0, none⟩) (cell_lt h.2.2.2.1)).trans h.2.2.2.1, bnext h.2.2.2.2 hb⟩
theorem keep5_alloc {w7 W : World} {g b0 b1 : Nat} {v1 v2 v3 v4 : Value} (h : W.cell? ⟨g, 1, none⟩ = some v1 ∧ W.cell? ⟨g, 3, none⟩ = some v2 ∧ W.cell? ⟨b0, 0, none⟩ = some v3 ∧ W.cell? ⟨b1, 0, none⟩ = some v4 ∧ Below w7.heap.size w7 W) (o : Obj) :
    (W.alloc o).cell? ⟨g, 1, none⟩ = some v1 ∧ (W.alloc o).cell? ⟨g, 3, none⟩ = some v2 ∧ (W.alloc o).cell? ⟨b0, 0, none⟩ = some v3 ∧ (W.alloc o).cell? ⟨b1, 0, none⟩ = some v4 ∧ Below w7.heap.size w7 (W.alloc o) := keep5 h ((Below.refl _ _).alloc (Nat.le_refl _) _)
theorem last5 {a b c d e : Prop} (x : a ∧ b ∧ c ∧ d ∧ e) : e := x.2.2.2.2
def OwnRel (w5 : World) (B : Nat) (A : Option Addr) (c : Nat) (a0 : UInt64) (i k : Nat) (wr : World) : Prop := ∃ L, OwnSt a0 i k L ∧ OutT wr w5.heap.size A 3 c L ∧ Below w5.heap.size w5 wr
attribute [local go_sem ↓] u64_add1
set_option maxRecDepth 100000 in
set_option maxHeartbeats 4000000 in
theorem EvalOwn_walk (w : World) (hg : ETyped w) (ht : ErrT w) (A : Option Addr) (c : Nat) (l : List UInt64) (hlc : l.length ≤ c) (hcm : c ≤ 17592186043904) (hA : Rd w w.heap.size A (l.map U)) :
    Calls Tryz.prog 5 #[.slice A l.length c] w fun e w' => e = .returned (.bool true) ∧ Below w.heap.size w w' := by
  obtain ⟨n, hn⟩ : ∃ n, n = l.length := ⟨_, rfl⟩
  rw [← hn]
  have b1 : n ≤ 9223372036854775807 := by omega
  have HG := Lib.hid hg
  have HT := Lib.hid ht
  have HFL := Lib.hid (fun W (X : Option Addr) (k : Nat) (hW : Below w.heap.size w W) (hX : RdSh W X [[2, 2]]) => fill_any X 1 k [[2, 2]] A n c l W rfl hn (by omega) b1 hX ((hA.below hW).more hW.size))
  have HAW := Lib.hid (eawake_true w hg ht)
  clear hg ht hlc hcm hA hn b1
  go_enter Tryz.func5, Tryz.ntmps5
  go_wp2_with fail
  refine HAW.out.mono ?_
  rintro e w0 ⟨rfl, c0⟩
  have C0 := Lib.hid c0
  clear c0
  go_wp2_with fail
  refine (txt_ev ownT w0 (HG.out.next C0.out) (HT.out.next C0.out) (by decide) ownT_scan ownT_len ownT_err).mono ?_
  rintro e w1 ⟨b1, SA, sc, EA, ec, ns, ne, rfl, hns, hne, hS, hE⟩
  rw [ownT_ss] at hns
  rw [ownT_es] at hne
  subst hns hne
  have C1 := Lib.hid (bnext C0.out b1)
  have HS1 := Lib.hid hS
  have HE1 := Lib.hid hE
  clear b1 hS hE
  go_wp2_with fail
  obtain ⟨w2, hw2⟩ : ∃ w2, w2 = w1.alloc (.cells #[.slice SA 5 sc, .slice EA 1 ec] 26) := ⟨_, rfl⟩
  have hb2 : Below w1.heap.size w1 w2 := by rw [hw2]; exact (Below.refl _ _).alloc (Nat.le_refl _) _
  have hT2 : w2.heap[w1.heap.size]? = some (.cells #[.slice SA 5 sc, .slice EA 1 ec] 26 (0, 0)) := by rw [hw2]; exact heap_alloc_new w1 _
  have hs2 : w2.heap.size = w1.heap.size + 1 := by rw [hw2]; simp
  rw [← hw2, ← hs2]
  obtain ⟨w3, hw3⟩ : ∃ w3, w3 = (w2.alloc (.cells #[.int .i64 2, .int .i64 2] 3)).alloc (.cells #[.slice (some ⟨w2.heap.size, 0, none⟩) 2 2] 41) := ⟨_, rfl⟩
  rw [← hw3]
  have hb3 : Below w2.heap.size w2 w3 := by rw [hw3]; exact ((Below.refl _ _).alloc (Nat.le_refl _) _).alloc (by simp) _
  have hr3 : RdSh w3 (some ⟨w2.heap.size + 1, 0, none⟩) [[2, 2]] := by rw [hw3]; exact rdsh_22 w2
  have C3 := Lib.hid (bnext C1.out (bnext hb2 hb3))
  have B13 := Lib.hid (bnext hb2 hb3)
  have HT3 := Lib.hid ((hb3.block _ (Array.getElem?_eq_some_iff.1 hT2).1).trans hT2)
  refine (HFL.out w3 _ 1 C3.out hr3).mono ?_
  rintro e w4 ⟨b4, A4, c4, rfl, o4⟩
  rw [ownT_fill] at o4
  obtain ⟨tb, htb⟩ : ∃ tb, tb = w1.heap.size := ⟨_, rfl⟩
  rw [← htb] at HT3 ⊢
  have C4 := Lib.hid (bnext C3.out b4)
  have B14 := Lib.hid (bnext B13.out b4)
  have HT4 := Lib.hid ((b4.block _ (Array.getElem?_eq_some_iff.1 HT3.out).1).trans HT3.out)
  obtain ⟨t, ht⟩ : ∃ t : TN, t = ⟨[2, 2], [fillAt l 0, fillAt l 1, fillAt l 2, fillAt l 3]⟩ := ⟨_, rfl⟩
  rw [← ht] at o4
  have HTE := Lib.hid ht
  have O4 := Lib.hid o4
  obtain ⟨w5, hw5⟩ : ∃ w5, w5 = w4.alloc (.cells #[.slice A4 1 c4, .slice none 0 0] 45) := ⟨_, rfl⟩
  have hb5 : Below w4.heap.size w4 w5 := by rw [hw5]; exact (Below.refl _ _).alloc (Nat.le_refl _) _
  have hI5 : w5.heap[w4.heap.size]? = some (.cells #[.slice A4 1 c4, .slice none 0 0] 45 (0, 0)) := by rw [hw5]; exact heap_alloc_new w4 _
  obtain ⟨ib, hib⟩ : ∃ ib, ib = w4.heap.size := ⟨_, rfl⟩
  rw [← hib] at hI5
  have HW5 := Lib.hid hw5
  have HIB := Lib.hid hib
  have C5 := Lib.hid (bnext C4.out hb5)
  have B15 := Lib.hid (bnext B14.out hb5)
  have HT5 := Lib.hid ((hb5.block _ (Array.getElem?_eq_some_iff.1 HT4.out).1).trans HT4.out)
  have HI5 := Lib.hid hI5
  have O5 := Lib.hid (O4.out.next hb5)
  have HEV := Lib.hid (show ∀ (W : World), Below w5.heap.size w5 W → Calls Tryz.prog 23 #[.agg #[.slice SA 5 sc, .slice EA 1 ec], .agg #[.slice A4 1 c4, .slice none 0 0]] W (EvalOut W (evalE (ssE ownT) (esE ownT) [t] [])) from fun W hW =>
    eeval_any SA EA 5 1 sc ec (ssE ownT) (esE ownT) A4 none 1 0 c4 0 [t] [] W ownT_ss.symm ownT_es.symm (by omega) (by omega) (HS1.out.next (bnext B15.out hW)) (HE1.out.next (bnext B15.out hW)) (HG.out.next (bnext C5.out hW)) ownT_num' ownT_shp' rfl rfl (by decide) (by decide) (O5.out.rd.next hW) (RdTN.nil _ _ _))
  rw [show evalE (ssE ownT) (esE ownT) [t] [] = .inl [t, t, t] from by rw [ht]; exact ownT_ev _ _ _ _] at HEV
  clear hw2 hb2 hT2 hs2 hw3 hb3 hr3 b4 o4 htb ht hw5 hb5 hI5
  go_upto_region 7 with fail
  rw [← HW5.out, ← hib]
  have x0 := cell_of_row _ _ 0 _ _ _ HT5.out
  have x1 := cell_of_row _ _ 1 _ _ _ HT5.out
  have y0 := cell_of_row _ _ 0 _ _ _ HI5.out
  have y1 := cell_of_row _ _ 1 _ _ _ HI5.out
  clear hib
  go_wp2_with fail
  refine (HEV.out w5 (Below.refl _ _)).mono ?_
  rintro e w6 ⟨b6, AL, cL, rfl, oL⟩
  have B56 := Lib.hid b6
  have HS0 := Lib.hid (show OwnSt (nthW t.el 0) 0 0 [t, t, t] from ⟨rfl, fun j x hj => by
    have hx : x = t := by
      match j, hj with
      | 0, hj => injection hj with hj; exact hj.symm
      | 1, hj => injection hj with hj; exact hj.symm
      | 2, hj => injection hj with hj; exact hj.symm
      | j + 3, hj => simp at hj
    subst hx
    refine ⟨by rw [HTE.out]; rfl, by rw [HTE.out]; rfl, ?_⟩
    rw [if_neg (by omega)]⟩)
  obtain ⟨a0, ha0⟩ : ∃ a0, a0 = nthW t.el 0 := ⟨_, rfl⟩
  rw [← ha0] at HS0
  have OL := Lib.hid oL
  clear b6 oL ha0 x0 x1 y0 y1
  go_wp2
  go_loopw [39] (fun iv wr => (∃ i : Nat, i ≤ 3 ∧ iv = .int .i64 i ∧ OwnRel w5 w5.heap.size AL cL a0 i 0 wr)) (fun iv _ => 3 - (intOf iv).toNat)
  case atStart => exact ⟨0, by omega, rfl, [t, t, t], HS0.out, OL.out, B56.out⟩
  case round =>
    obtain ⟨i, hi, rfl, L, hS, hO, hb⟩ := hrel
    by_cases hlt : i < 3
    · obtain ⟨ti, hti, hsl, hel, _, _⟩ := hS.el hlt
      obtain ⟨g, A1, c1, A2, c2, hAL, hg, u0, u1, _, _⟩ := hO.at_ hti
      rw [hsl] at u0
      rw [hel] at u1
      subst hAL
      have i0 : (0 : Int) ≤ (i : Int) := by omega
      have i1 : (i : Int) < 3 := by omega
      have HSS := Lib.hid hS
      have HOO := Lib.hid hO
      have HBB := Lib.hid hb
      clear hS hO hb hti hsl hel hg
      go_wp2
      go_loopw [48] (fun kv wr => (∃ k : Nat, k ≤ 4 ∧ kv = .int .i64 k ∧ OwnRel w5 w5.heap.size (some ⟨g, 0, none⟩) cL a0 i k wr)) (fun kv _ => 4 - (intOf kv).toNat)
      case atStart => exact ⟨0, by omega, rfl, L, HSS.out, HOO.out, HBB.out⟩
      case round =>
        clear u0 u1 HSS HOO HBB
        obtain ⟨k, hk, rfl, L, hS, hO, hb⟩ := hrel
        by_cases hlk : k < 4
        · obtain ⟨ti, hti, hsl, hel, hnx, _⟩ := hS.el hlt
          obtain ⟨g', b, c2, hge, u1, hbb, u2, fz, hset⟩ := hO.setEl hti (k := k) (by omega)
          injection hge with hge
          injection hge with hge _ _
          subst hge
          rw [hel] at u1
          have k0 : (0 : Int) ≤ (k : Int) := by omega
          have k1 : (k : Int) < 4 := by omega
          have HN := Lib.hid (hnx hlk)
          have HSE := Lib.hid (hset (addW (nthW ti.el k) 1))
          have HBB := Lib.hid (setCell_below (k := k) hb hbb (U (addW (nthW ti.el k) 1)))
          clear hS hO hb hti hsl hel hnx hbb hset
          go_wp2
          exact ⟨⟨k + 1, by omega, rfl, _, HN.out, HSE.out, HBB.out⟩, by simp [intOf]; omega⟩
        · obtain rfl : k = 4 := by omega
          obtain ⟨ti, hti, hsl, hel, _, _⟩ := hS.el hlt
          obtain ⟨g', A1, c1, A2, c2, hge, hg, u0, u1, _, _⟩ := hO.at_ hti
          injection hge with hge
          injection hge with hge _ _
          subst hge
          rw [hsl] at u0
          have HSS := Lib.hid hS
          have HOO := Lib.hid hO
          have HBB := Lib.hid hb
          clear hS hO hb hti hsl hel hg u1
          go_wp2
          go_loopw [68] (fun kv wr => (∃ k : Nat, k ≤ 2 ∧ kv = .int .i64 k ∧ OwnRel w5 w5.heap.size (some ⟨g, 0, none⟩) cL a0 i 4 wr)) (fun kv _ => 2 - (intOf kv).toNat)
          case atStart => exact ⟨0, by omega, rfl, L, HSS.out, HOO.out, HBB.out⟩
          case round =>
            clear u0 HSS HOO HBB
            obtain ⟨k, hk, rfl, L, hS, hO, hb⟩ := hrel
            by_cases hlk : k < 2
            · obtain ⟨ti, hti, hsl, hel, _, hnx⟩ := hS.el hlt
              obtain ⟨g', b, c2, hge, u1, hbb, u2, fz, hset⟩ := hO.setSh hti (k := k) (by omega)
              injection hge with hge
              injection hge with hge _ _
              subst hge
              rw [hsl] at u1
              have k0 : (0 : Int) ≤ (k : Int) := by omega
              have k1 : (k : Int) < 2 := by omega
              have HN := Lib.hid (hnx k)
              have HSE := Lib.hid (hset 9)
              have HBB := Lib.hid (setCell_below (k := k) hb hbb (VI 9))
              obtain ⟨zv, hzv⟩ : ∃ zv, zv = ti.sh[k]'(by omega) := ⟨_, rfl⟩
              rw [← hzv] at u2
              have u3 : wr.cell? ⟨b, k, none⟩ = some (.int .i64 zv) := u2
              clear u2 hzv hS hO hb hti hsl hel hnx hbb hset
              go_wp2
              exact ⟨⟨k + 1, by omega, rfl, _, HN.out, HSE.out, HBB.out⟩, by simp [intOf]; omega⟩
            · obtain rfl : k = 2 := by omega
              have HN := Lib.hid hS.step
              have HOO := Lib.hid hO
              have HBB := Lib.hid hb
              clear hS hO hb
              go_wp2
              exact ⟨⟨i + 1, by omega, rfl, L, HN.out, HOO.out, HBB.out⟩, by simp [intOf]; omega⟩
    · obtain rfl : i = 3 := by omega
      have HB5 := Lib.hid hb
      have x0 := cell_of_row _ _ 0 _ _ _ ((hb.block _ (Array.getElem?_eq_some_iff.1 HT5.out).1).trans HT5.out)
      have x1 := cell_of_row _ _ 1 _ _ _ ((hb.block _ (Array.getElem?_eq_some_iff.1 HT5.out).1).trans HT5.out)
      have y0 := cell_of_row _ _ 0 _ _ _ ((hb.block _ (Array.getElem?_eq_some_iff.1 HI5.out).1).trans HI5.out)
      have y1 := cell_of_row _ _ 1 _ _ _ ((hb.block _ (Array.getElem?_eq_some_iff.1 HI5.out).1).trans HI5.out)
      obtain ⟨t0, ht0, _, he0, hv0⟩ : ∃ t0, L[0]? = some t0 ∧ t0.sh.length = 2 ∧ t0.el.length = 4 ∧ nthW t0.el 0 = addW a0 1 := by
        have h := List.getElem?_eq_getElem (l := L) (i := 0) (by rw [hS.1]; omega)
        obtain ⟨q1, q2, q3⟩ := hS.2 0 _ h
        rw [if_pos (.inl (by omega))] at q3
        exact ⟨_, h, q1, q2, q3⟩
      obtain ⟨t1, ht1, _, he1, hv1⟩ : ∃ t1, L[1]? = some t1 ∧ t1.sh.length = 2 ∧ t1.el.length = 4 ∧ nthW t1.el 0 = addW a0 1 := by
        have h := List.getElem?_eq_getElem (l := L) (i := 1) (by rw [hS.1]; omega)
        obtain ⟨q1, q2, q3⟩ := hS.2 1 _ h
        rw [if_pos (.inl (by omega))] at q3
        exact ⟨_, h, q1, q2, q3⟩
      obtain ⟨g, b0, k0, rfl, u1, _, v0, _, _⟩ := hO.setEl ht0 (k := 0) (by omega)
      obtain ⟨g', b1, k1, hge, u2, _, v1, _, _⟩ := hO.setEl ht1 (k := 0) (by omega)
      injection hge with hge
      injection hge with hge _ _
      subst hge
      rw [he0] at u1
      rw [he1] at u2
      rw [hv0] at v0
      rw [hv1] at v1
      rw [show 0 * 2 + 1 = 1 from rfl] at u1
      rw [show 1 * 2 + 1 = 3 from rfl] at u2
      have hgl : g < wr.heap.size := cell_lt u1
      have hb0 : b0 < wr.heap.size := cell_lt v0
      have hb1 : b1 < wr.heap.size := cell_lt v1
      have HEW := Lib.hid (HEV.out wr hb)
      have HK := Lib.hid (fun W (hW : Below wr.heap.size wr W) => show W.cell? ⟨g, 1, none⟩ = some (.slice (some ⟨b0, 0, none⟩) 4 k0) ∧ W.cell? ⟨g, 3, none⟩ = some (.slice (some ⟨b1, 0, none⟩) 4 k1) ∧ W.cell? ⟨b0, 0, none⟩ = some (U (addW a0 1)) ∧ W.cell? ⟨b1, 0, none⟩ = some (U (addW a0 1)) ∧ Below wr.heap.size wr W from ⟨(hW.cell (p := ⟨g, 1, none⟩) hgl).trans u1, (hW.cell (p := ⟨g, 3, none⟩) hgl).trans u2, (hW.cell (p := ⟨b0, 0, none⟩) hb0).trans v0, (hW.cell (p := ⟨b1, 0, none⟩) hb1).trans v1, hW⟩)
      clear hS hO hb ht0 ht1 he0 he1 hv0 hv1 u1 u2 v0 v1 hgl hb0 hb1
      go_wp2_with fail
      refine HEW.out.mono ?_
      rintro e w7 ⟨b7, A7, c7, rfl, o7⟩
      have hcap : 3 ≤ c7 := o7.cap.1
      obtain ⟨g7, _, _, _, _, rfl, _, _, _, _, _⟩ := o7.at_ (j := 0) (x := t) rfl
      have f1 : ∀ W, (Instr.sliceAt 44 (.slice (some ⟨g7, 0, none⟩) 3 c7) none (some (.int .i64 1)) none).run Tryz.prog W = .ok (.slice (cutA (some ⟨g7, 0, none⟩) 0 2 c7) 1 c7) W := fun W => run_cutAt_to (P := Tryz.prog) Tryz.underlying44 tn_size (some ⟨g7, 0, none⟩) (n := 3) (c := c7) (h := 1) (by omega) W
      have f2 : ∀ W, (Instr.sliceAt 44 (.slice (some ⟨g7, 0, none⟩) 3 c7) (some (.int .i64 2)) none none).run Tryz.prog W = .ok (.slice (cutA (some ⟨g7, 0, none⟩) 2 2 c7) 1 (c7 - 2)) W := fun W => run_cutAt_from (P := Tryz.prog) Tryz.underlying44 tn_size (some ⟨g7, 0, none⟩) (n := 3) (c := c7) (k := 2) (by omega) W
      have HR1 := Lib.hid (show RdTN w7 w7.heap.size (cutA (some ⟨g7, 0, none⟩) 0 2 c7) [t] from ((o7.rd.cut (k := 0) (c := c7) (by simp; omega)).take 1))
      have HR2 := Lib.hid (show RdTN w7 w7.heap.size (cutA (some ⟨g7, 0, none⟩) 2 2 c7) [t] from (o7.rd.cut (k := 2) (c := c7) (by simp; omega)))
      have C7 := Lib.hid (bnext (bnext C5.out HB5.out) b7)
      have S7 := Lib.hid (show w7.drew.cell? ⟨g, 1, none⟩ = some (.slice (some ⟨b0, 0, none⟩) 4 k0) ∧ w7.drew.cell? ⟨g, 3, none⟩ = some (.slice (some ⟨b1, 0, none⟩) 4 k1) ∧ w7.drew.cell? ⟨b0, 0, none⟩ = some (U (addW a0 1)) ∧ w7.drew.cell? ⟨b1, 0, none⟩ = some (U (addW a0 1)) ∧ Below w7.heap.size w7 w7.drew from by
        obtain ⟨q1, q2, q3, q4, _⟩ := HK.out w7.drew b7.drew
        exact ⟨q1, q2, q3, q4, (Below.refl _ _).drew⟩)
      have HF7 := Lib.hid (fun W (X : Option Addr) (k : Nat) (hW : Below w7.heap.size w7 W) (hX : RdSh W X [[2, 2]]) => HFL.out W X k (bnext C7.out hW) hX)
      rw [ownT_fill, ← HTE.out] at HF7
      have HSM := Lib.hid (fun W (A8 : Option Addr) (c8 : Nat) (hW : Below w7.heap.size w7 W) (h8 : RdTN W W.heap.size A8 [t]) => same15 (cutA (some ⟨g7, 0, none⟩) 0 2 c7) A8 1 c7 c8 [t] W rfl (by decide) (HR1.out.next hW) h8)
      have HSN := Lib.hid (fun W (hW : Below w7.heap.size w7 W) => same15 (cutA (some ⟨g7, 0, none⟩) 2 2 c7) (cutA (some ⟨g7, 0, none⟩) 0 2 c7) 1 (c7 - 2) c7 [t] W rfl (by decide) (HR2.out.next hW) (HR1.out.next hW))
      have B7 := Lib.hid b7
      clear b7 o7 hcap x0 x1 y0 y1
      go_wp2_with fail
      go_region_held3 (fun w' => w'.cell? ⟨g, 1, none⟩ = some (.slice (some ⟨b0, 0, none⟩) 4 k0) ∧ w'.cell? ⟨g, 3, none⟩ = some (.slice (some ⟨b1, 0, none⟩) 4 k1) ∧ w'.cell? ⟨b0, 0, none⟩ = some (U (addW a0 1)) ∧ w'.cell? ⟨b1, 0, none⟩ = some (U (addW a0 1)) ∧ Below w7.heap.size w7 w') (first | with_reducible exact S7.out | assumption | exact keep5 (by assumption) (by assumption) | exact keep5_alloc (by assumption) _)
        (first
          | (go_at_call 25; refine (HF7.out _ _ _ (last5 (by assumption)) ?_).mono ?_; (first | exact rdsh_22d _ | exact rdsh_22 _); rintro e w8 ⟨b8, A8, c8, rfl, o8⟩)
          | (go_at_call 26; (with_reducible show Calls Tryz.prog 26 #[.slice (cutA (some ⟨g7, 0, none⟩) 0 2 c7) 1 c7, .slice A8 1 c8] _ _); refine (HSM.out _ _ _ (last5 (by assumption)) o8.rd).mono ?_; rintro e w9 ⟨rfl, b9⟩)
          | (go_at_call 26; (with_reducible show Calls Tryz.prog 26 #[.slice (cutA (some ⟨g7, 0, none⟩) 2 2 c7) 1 (c7 - 2), .slice (cutA (some ⟨g7, 0, none⟩) 0 2 c7) 1 c7] _ _); refine (HSN.out _ (last5 (by assumption))).mono ?_; rintro e w10 ⟨rfl, b10⟩))
      all_goals
        have B9 := Lib.hid (show Below w7.heap.size w7 w10 from last5 (by assumption))
        go_wp2
        go_ret
        exact ⟨rfl, bnext C7.out B9.out⟩
end Go.Proofs.YtghlnncfigkkaaaGreatDoor
namespace Go.Proofs.YtghlnncfigkkaaaGreatDoor.lawEvalOwn
open Go Go.ChangeShapes Go.WideShapes Go.ChangeAt Go.RowKit
set_option linter.unusedVariables false
set_option maxRecDepth 100000 in
theorem lifted (os : Os) (started : os.Started) (H : Type) (enc : TypeId × Value → H) :
    ReturnsInHanded {} Tryz.checked os 5 .any (fun w args => (Rows.evalOwnSpec.pre enc Tryz.prog Tryz.f5 [] false w args ∧ LaidW w) ∧ sizedMet enc Tryz.prog Tryz.f5 (OpenSpec.ofChange Rows.evalOwnSpec) false w args)
      (Rows.evalOwnSpec.post enc Tryz.prog Tryz.f5 false true false false) := by
  refine returnsInHanded_of_change_and (C := Tryz.checked) (X := fun w _ => LaidW w) (fun _ _ _ hh h => h.of_heap hh) dOwn started (by kernel_rfl) Tryz.func5
    (ChangeSpec.witness_shaped (enc := enc) (C := Tryz.checked) (os := os) (X := fun w _ => LaidW w) false (dWorld os) #[.slice none 0 0] 8 rfl (World.shaped_of_RefB (by kernel_rfl) (by kernel_rfl)) (by kernel_rfl) (by kernel_rfl) (by kernel_rfl) (dWorld_met os _)) ?_
  intro W base args ds gs before hval0 hW _ hsz0 hL _
  have hval : ∀ (j : Nat) t v, Tryz.f5.params[j]? = some t → args[j]? = some v → Value.okWide Tryz.prog W .any base t v := hval0
  have hW' := hW
  have hg := etyped_of_laid hL
  have ht := errt_of_laid hL
  obtain ⟨p, q, hA0, hV, rfl, hfz, hnd⟩ := hW
  have hA : DataW.TrodAll enc Tryz.prog W 0 (fun _ => true) true Tryz.f5.params.toList args.toList ds p := hA0
  have hsz : (DataW.weightsEach Tryz.prog (Tryz.f5.params.toList ++ Rows.evalOwnSpec.plain.varTypes Tryz.prog) (ds ++ gs)).all (· ≤ reachBytes) = true := hsz0
  rw [Tryz.params5] at hA hval hsz
  obtain ⟨v0, vs0, d0, ds0, p0, q0, hargs, rfl, rfl, h0, r0⟩ := trodAll_cons hA
  obtain ⟨rfl, rfl, rfl⟩ := trodAll_nil r0
  obtain rfl : args = #[v0] := by cases args; simp_all
  obtain ⟨rfl, rfl⟩ : gs = [] ∧ q = [] := trodVars_none hV
  have k0 := h0
  have lt0 : ∀ x ∈ p0, x.block < W.heap.size := by obtain ⟨m, hm⟩ := k0; exact DataW.trod_lt m _ _ _ hm
  obtain ⟨a0, c0, l0, rfl, m0, s0, n0⟩ := open_words_sized Tryz.underlying40 Tryz.underlying39 (by kernel_rfl) (by kernel_rfl) (hval 0 40 v0 rfl rfl) h0 hsz 0 rfl rfl
  clear hA0 hval0 hsz0 hsz
  refine (EvalOwn_walk W hg ht a0 c0 l0 m0 s0 n0).mono fun e W' ⟨he, bel⟩ => ?_
  subst he
  exact ⟨_, rfl, _, _, _, [], _, [], hW', trodAll_mk1 (shut_bool Tryz.underlying4 _), (trodAll_cons_mk (Below.trod dLaidOut (by kernel_rfl) (of_decide_eq_true (by kernel_rfl)) k0 bel lt0) trodAll_mk0), rfl, bel.frame _, fun h => by cases h⟩
theorem over : Rows.EvalOwnSaid :=
  OpenClaim.holds_of_wide 5 Tryz.f5 rfl rfl rfl rfl rfl rfl rfl ⟨rfl, rfl, rfl, rfl, rfl⟩ rfl rfl rfl rfl rfl (by kernel_rfl) Tryz.func5 (by kernel_rfl)
    (of_decide_eq_true (by kernel_rfl)) (by unfold Func.isWrapper; first | (rw [if_pos (by decide +kernel)]; kernel_rfl) | (rw [if_neg (by decide +kernel)]; exact ⟨rfl, rfl⟩))
    (fun os started H enc _ => lifted os started H enc)
theorem proved : Rows.EvalOwnCardSaid :=
  Claim7.holds_tied_plain_at .later [] [.data, .data, .data, .handle, .sentinel, .sentinel] true Rows.evalOwnCard.stood.harness true
    over (fun _ h => by cases h) (by kernel_rfl) (fun _ h => by cases h) evalOwn_row_tie rfl ⟨rfl, rfl⟩ (by kernel_rfl) rfl
    (fun f fn hf hfn => by
      obtain rfl : f = 5 := Option.some.inj ((show Tryz.prog.funcNamed "twain/twainlaw15.EvalOwn" = some 5 by kernel_rfl).symm.trans hf) |>.symm
      obtain rfl : fn = Tryz.f5 := (Option.some.inj (Tryz.func5.symm.trans hfn)).symm
      exact ⟨by kernel_rfl, fun j t ht => by
        rw [Tryz.params5] at ht
        have hm : t ∈ [40] := List.mem_of_getElem? (by simpa using ht)
        have hall : ∀ t ∈ [40], Tryz.prog.wantsStandIn t = false := by
          intro t ht
          simp only [List.mem_cons, List.not_mem_nil, or_false] at ht
          subst ht; kernel_rfl
        exact hall t hm⟩)
    (by kernel_rfl)
end Go.Proofs.YtghlnncfigkkaaaGreatDoor.lawEvalOwn
