/-
  append of one element of several cells onto a row of the call's own: where the new row lies. The reference's find and expr. The reference's state in memory; a name is appended.
-/
import Derived.Test.YthnkeejiocnflaaGreatDoorQApp
import Derived.Test.YthnkeejiocnflaaGreatDoorQChkG
import Derived.Test.YthnkeejiocnflaaGreatDoorQChkY
namespace Go.Proofs.YthnkeejiocnflaaGreatDoor
set_option linter.unusedVariables false
set_option linter.unusedSimpArgs false
open Go.RowKit
theorem run_appN {P : Program} (w : World) (base : Nat) (t ty e : TypeId) (i : TypeInfo) (z : Value) (size bytes : Nat) (ht : P.underlying t = some (.slice e)) (hi : P.info? e = some i) (hz : i.zero = some z)
    (hsz : i.size = size) (hs0 : 0 < size) (hby : i.bytes = bytes) (hzs : z.cells.size = size)
    (A : Option Addr) (cap n : Nat) (xs : List Value) (hown : w.ownsRow base e size (.slice A n cap) n xs)
    (b : Nat) (news : List Value) (hm : news.length = size) (hr : ∀ (j : Nat) (u : Value), news[j]? = some u → w.cell? ⟨b, j, none⟩ = some u) (h1 : ∀ u ∈ news, u.oneCell' = true)
    (h63 : n + 1 ≤ maxLen) (hbytes : ((n + 1) + (n + 1) / 4 + 192) * bytes ≤ 281474976710656) (hbase : base ≤ w.heap.size) :
    ∃ A' cap' w', (Builtin.append_ #[t, t] ty #[.slice A n cap, .slice (some ⟨b, 0, none⟩) 1 1]).run P w = .ok (.slice A' (n + 1) cap') w' ∧ w'.ownsRow base e size (.slice A' (n + 1) cap') (n + 1) (xs ++ news) ∧ w.grownBy w' (blk A) ∧ (blk A' = blk A ∨ blk A' = some w.heap.size) := by
  have hcells : ∀ (j : Nat) (u : Value), news[j]? = some u → w.cell? ((⟨b, 0, none⟩ : Addr).add j) = some u := by
    intro j u hu
    have e' : (⟨b, 0, none⟩ : Addr).add j = ⟨b, j, none⟩ := by unfold Addr.add; split <;> simp_all
    rw [e']
    exact hr j u hu
  have hsmall : n + 1 ≤ 9223372036854775807 := by simp only [maxLen] at h63; omega
  have hxl := hown.1
  have hml : news.length = 1 * i.size := by rw [hsz, hm, Nat.one_mul]
  have hlen : (xs ++ news).length = (n + 1) * size := by rw [List.length_append, hxl, hm, Nat.succ_mul]
  have grown : ∀ (old : Nat), old < n + 1 → ∀ (row : Option Nat),
      (w.drew.alloc (.cells (xs.toArray ++ news.toArray ++ Builtin.zeroCells z.cells (grownCap w (n + 1) old e - (n + 1))) e)).ownsRow base e size (.slice (some ⟨w.heap.size, 0, none⟩) (n + 1) (grownCap w (n + 1) old e)) (n + 1) (xs ++ news) ∧
      w.grownBy (w.drew.alloc (.cells (xs.toArray ++ news.toArray ++ Builtin.zeroCells z.cells (grownCap w (n + 1) old e - (n + 1))) e)) row := by
    intro old _ row
    have hge := grownCap_ge w (n + 1) old e
    have hcm : grownCap w (n + 1) old e ≤ maxLen := grownCap_le_maxLen w (n + 1) old e h63
    refine ⟨⟨hlen, .inr ⟨w.heap.size, _, _, rfl, hbase, heap_alloc_new w.drew _, by omega, hcm, ?_, ?_⟩⟩, ⟨rfl, rfl, rfl, by simp, fun k hk _ => Below.heap_alloc w.drew _ k hk⟩⟩
    · simp only [Array.size_append, List.size_toArray, size_zeroCells, hzs, hxl, hm]
      rw [← Nat.succ_mul, ← Nat.add_mul]
      congr 1
      omega
    · simp only [Array.toList_append]
      rw [← hlen]
      exact List.take_left
  rcases hown.2 with ⟨hv, h0⟩ | ⟨g, cap', cur, hv, hbg, hg, hnc, hcm, hcs, htake⟩
  · injection hv with a1 a2 a3
    subst a1 a3 a2
    have hxs : xs = [] := List.eq_nil_of_length_eq_zero (by rw [hxl, Nat.zero_mul])
    subst hxs
    have hrun := run_append_nil (P := P) w t ty e i z ht hi hz ⟨b, 0, none⟩ 1 1 news hml hcells (by omega) (by omega)
      (by rw [hby]; have hb := hbytes; simp only [Nat.zero_add] at hb; exact Nat.le_trans (Nat.mul_le_mul_right _ (by omega)) hb)
    have hgr := grown 0 (by omega) (blk none)
    simp only [Nat.zero_add, List.nil_append, Array.empty_append] at hgr ⊢
    exact ⟨_, _, _, hrun, hgr.1, hgr.2, .inr rfl⟩
  · injection hv with a1 a2 a3
    subst a1 a3
    by_cases hroom : n + 1 ≤ cap
    · have hrun := run_append_room (P := P) w t ty e i ht hi g n cap cur hg ⟨b, 0, none⟩ 1 1 news hml hcells h1 hroom (by rw [hsz, hcs, hm, ← Nat.succ_mul]; exact Nat.mul_le_mul_right _ hroom)
      refine ⟨_, _, _, hrun, ⟨hlen, .inr ⟨g, cap, _, rfl, hbg, setRow_heap w g cur _ e _ hg, by omega, hcm, ?_, ?_⟩⟩, ⟨rfl, rfl, rfl, by simp, fun k _ hk => setRow_other w g k _ (fun e => hk (by simp [blk, e]))⟩, .inl rfl⟩
      · have : (n + 1) * size ≤ cap * size := Nat.mul_le_mul_right _ hroom
        have h5 : n * size ≤ cap * size := Nat.mul_le_mul_right _ hnc
        have hs1 : (n + 1) * size = n * size + size := Nat.succ_mul n size
        simp only [List.size_toArray, List.length_append, List.length_take, List.length_drop, Array.length_toList]
        rw [hsz, hm, hcs]
        omega
      · rw [hsz, htake, ← hlen]
        exact List.take_left
    · have holds : ∀ (j : Nat) (u : Value), xs[j]? = some u → w.cell? ((⟨g, 0, none⟩ : Addr).add j) = some u := fun j u hu => by
        have e' : (⟨g, 0, none⟩ : Addr).add j = ⟨g, j, none⟩ := by unfold Addr.add; split <;> simp_all
        rw [e', cell_of_row w g j cur e (0, 0) hg]
        have h2 : (cur.toList.take (n * size))[j]? = some u := by rw [htake]; exact hu
        rw [List.getElem?_take] at h2
        split at h2
        · simpa using h2
        · cases h2
      have hrun := run_append_grow (P := P) w t ty e i z ht hi hz ⟨g, 0, none⟩ n cap xs (by rw [hsz]; exact hxl) holds ⟨b, 0, none⟩ 1 1 news hml hcells (by omega) (by omega) (growslice_fits_wide (by omega) (by rw [hby]; exact hbytes))
      have hgr := grown cap (by omega) (blk (some ⟨g, 0, none⟩))
      exact ⟨_, _, _, hrun, hgr.1, hgr.2, .inr rfl⟩
theorem wp_appN {P : Program} {w : World} {o : Oper} {a : Act} {K : Act → World → Prop} {Q : Exit → Act → World → Prop} (s x : Operand) (t : TypeId)
    (ho : o.op = .call { callee := .builtin .append, args := #[s, x], argTypes := #[t, t] })
    (base : Nat) (e : TypeId) (i : TypeInfo) (z : Value) (size bytes : Nat) (ht : P.underlying t = some (.slice e)) (hi : P.info? e = some i) (hz : i.zero = some z)
    (hsz : i.size = size) (hs0 : 0 < size) (hby : i.bytes = bytes) (hzs : z.cells.size = size)
    (A : Option Addr) (cap n : Nat) (xs : List Value) (hs : a.eval s = .slice A n cap) (hown : w.ownsRow base e size (.slice A n cap) n xs)
    (b : Nat) (news : List Value) (hm : news.length = size) (hx : a.eval x = .slice (some ⟨b, 0, none⟩) 1 1) (hr : ∀ (j : Nat) (u : Value), news[j]? = some u → w.cell? ⟨b, j, none⟩ = some u) (h1 : ∀ u ∈ news, u.oneCell' = true)
    (h63 : n + 1 ≤ maxLen) (hbytes : ((n + 1) + (n + 1) / 4 + 192) * bytes ≤ 281474976710656) (hbase : base ≤ w.heap.size)
    (h : ∀ A' cap' w', w'.ownsRow base e size (.slice A' (n + 1) cap') (n + 1) (xs ++ news) → w.grownBy w' (blk A) → (blk A' = blk A ∨ blk A' = some w.heap.size) → K (a.put o.dst (.slice A' (n + 1) cap')) w') : o.wp P a w K Q := by
  obtain ⟨A', cap', w', hrun, h2, h3, h4⟩ := run_appN (P := P) w base t o.type e i z size bytes ht hi hz hsz hs0 hby hzs A cap n xs hown b news hm hr h1 h63 hbytes hbase
  unfold Oper.wp execOp
  simp only [ho, resolve, invoke, builtin, Sem.run_bind, Sem.run_pure, Result.andThen_ok, List.map_toArray, List.map_cons, List.map_nil, hs, hx, hrun]
  exact h A' cap' w' h2 h3 h4
end Go.Proofs.YthnkeejiocnflaaGreatDoor
namespace Go.Proofs.YthnkeejiocnflaaGreatDoor
set_option linter.unusedVariables false
set_option linter.unusedSimpArgs false
open Go.RowKit
def nmCells (p : ByteArray × Value) : List Value := [.string p.1, p.2]
/-- The names' row as it is read. -/
def RdNm (w : World) (A : Option Addr) (nv : List (ByteArray × Value)) : Prop := Rd w w.heap.size A (nv.flatMap nmCells)
theorem RdNm.at_ {w : World} {A : Option Addr} {nv : List (ByteArray × Value)} (h : RdNm w A nv) {i : Nat} {p : ByteArray × Value} (hi : nv[i]? = some p) : ∃ b o, A = some ⟨b, o, none⟩ ∧ b < w.heap.size ∧ w.cell? ⟨b, o + i * 2, none⟩ = some (.string p.1) ∧ w.cell? ⟨b, o + i * 2 + 1, none⟩ = some p.2 := by
  have h0 := tflat_nth nmCells 2 (fun _ => rfl) nv i 0 p hi (by omega)
  have h1 := tflat_nth nmCells 2 (fun _ => rfl) nv i 1 p hi (by omega)
  rcases h with h | ⟨b, o, hA, hb, hc⟩
  · rw [h] at h0
    simp [nmCells] at h0
  · exact ⟨b, o, hA, hb, hc _ _ h0, hc _ _ h1⟩
/-- Where a name stands. -/
def FindR (nv : List (ByteArray × Value)) (n : ByteArray) (r : Int) : Prop := (findV nv n = none ∧ r = -1) ∨ ∃ (k : Nat) (p : ByteArray × Value), nv[k]? = some p ∧ findV nv n = some p.2 ∧ r = (k : Int)
set_option maxRecDepth 100000 in
set_option maxHeartbeats 2000000 in
theorem rfind_any (A : Option Addr) (n c : Nat) (nv : List (ByteArray × Value)) (s : ByteArray) (w : World) (hn : n = nv.length) (hl : n ≤ 1000000) (h : RdNm w A nv) :
    Calls Tryz.prog 32 #[.slice A n c, .string s] w fun e w' => (∃ r : Int, e = .returned (.int .i64 r) ∧ FindR nv s r) ∧ w = w' := by
  have HN := Lib.hid hn
  have H := Lib.hid h
  clear hn h
  go_enter Tryz.func32, Tryz.ntmps32
  go_wp2
  go_loop [8] (fun iv => ∃ k : Nat, k ≤ n ∧ iv = .int .i64 k ∧ findV nv s = findV (nv.drop k) s) (fun iv => n - (intOf iv).toNat)
  case atStart => exact ⟨0, by omega, rfl, rfl⟩
  case round =>
    obtain ⟨k, hk, rfl, hr⟩ := hrel
    have HR := Lib.hid hr
    clear hr
    by_cases hlt : k < n
    · have ht : nv[k]? = some (nv[k]'(by rw [← HN.out]; exact hlt)) := List.getElem?_eq_getElem _
      obtain ⟨d, hd⟩ : ∃ d, d = nv[k]'(by rw [← HN.out]; exact hlt) := ⟨_, rfl⟩
      rw [← hd] at ht
      obtain ⟨b, o, rfl, hbl, c0, c1⟩ := H.out.at_ ht
      have i0 : (0 : Int) ≤ (k : Int) := by omega
      have i1 : (k : Int) < (n : Int) := by omega
      have hD := Lib.hid (show findV (nv.drop k) s = if s == d.1 then some d.2 else findV (nv.drop (k + 1)) s from by
        obtain ⟨hi, he⟩ := List.getElem?_eq_some_iff.1 ht
        rw [List.drop_eq_getElem_cons hi, he]
        rfl)
      have HT := Lib.hid ht
      obtain ⟨dn, dv⟩ := d
      dsimp only at c0 c1
      clear ht hd c1 hbl
      by_cases he : dn.toList = s.toList
      · have q1 : (dn.toList == s.toList) = true := by rw [beq_iff_eq]; exact he
        have hb : (s == dn) = true := by rw [bytes_beq]; exact decide_eq_true he.symm
        have HX := Lib.hid (show findV nv s = some dv from by rw [HR.out, hD.out, hb]; rfl)
        clear hb he
        go_wp2
        go_ret
        exact ⟨⟨_, rfl, .inr ⟨k, _, HT.out, HX.out, rfl⟩⟩, rfl⟩
      · have q1 : (dn.toList == s.toList) = false := by rw [beq_eq_false_iff_ne]; exact he
        have hb : (s == dn) = false := by rw [bytes_beq]; exact decide_eq_false fun h => he h.symm
        have HX := Lib.hid (show findV nv s = findV (nv.drop (k + 1)) s from by rw [HR.out, hD.out, hb]; rfl)
        clear hb he
        go_wp2
        exact ⟨⟨k + 1, by omega, rfl, HX.out⟩, by simp [intOf]; omega⟩
    · obtain rfl : n = k := by omega
      have HX := Lib.hid (show findV nv s = none from by rw [HR.out, HN.out, List.drop_length]; rfl)
      go_wp2
      go_ret
      exact ⟨⟨-1, rfl, .inl ⟨HX.out, rfl⟩⟩, rfl⟩
/-- The shapes' row of the reference. -/
def RShp (X : Nat → Prop) (w : World) (sg ne : Nat) (shapes : List (List Int)) : Prop := ∃ svs : List Value, w.heap[sg]? = some (.cells svs.toArray 22 (0, 0)) ∧ svs.length = ne ∧ shapes.length = ne ∧ ∀ (j : Nat) (v : Value) (l : List Int), svs[j]? = some v → shapes[j]? = some l → ShV X w v l
section
variable {X : Nat → Prop} {w w' : World} {sg ne : Nat} {shapes : List (List Int)}
theorem RShp.lt (h : RShp X w sg ne shapes) : sg < w.heap.size := by
  obtain ⟨svs, s1, _⟩ := h
  exact (Array.getElem?_eq_some_iff.1 s1).1
theorem RShp.next (h : RShp X w sg ne shapes) (hb : Below w.heap.size w w') : RShp X w' sg ne shapes := by
  have hlt := h.lt
  obtain ⟨svs, s1, s2, s3, s4⟩ := h
  exact ⟨svs, (hb.block _ hlt).trans s1, s2, s3, fun j v l hv hl => (s4 j v l hv hl).next hb⟩
theorem RShp.shape (h : RShp X w sg ne shapes) {a : Nat} (ha : a < ne) : ∃ A c n, w.cell? ⟨sg, a, none⟩ = some (.slice A n c) ∧ n = (shapes.getD a []).length ∧ ShV X w (.slice A n c) (shapes.getD a []) := by
  obtain ⟨svs, s1, s2, s3, s4⟩ := h
  have h1 : svs[a]? = some (svs[a]'(by omega)) := List.getElem?_eq_getElem _
  have h2 : shapes[a]? = some (shapes[a]'(by omega)) := List.getElem?_eq_getElem _
  have hv := s4 a _ _ h1 h2
  have hd : shapes.getD a [] = shapes[a]'(by omega) := by simp [List.getD_eq_getElem?_getD, h2]
  have hcell : w.cell? ⟨sg, a, none⟩ = some (svs[a]'(by omega)) := by
    rw [cell_of_row w sg a _ _ (0, 0) s1]
    simp
  rw [hd]
  have hv' := hv
  obtain ⟨A, c, e, _⟩ := hv
  rw [e] at hcell hv'
  exact ⟨A, c, _, hcell, rfl, hv'⟩
end
def RexprOut (X : Nat → Prop) (w : World) (r : Sum (List Int) Nat) (e : Ending) (w' : World) : Prop :=
  Below w.heap.size w w' ∧ match r with
  | .inr c => e = .returned (.tuple #[.slice none 0 0, .int .i64 (c : Int)])
  | .inl l => ∃ v, e = .returned (.tuple #[v, .int .i64 0]) ∧ ShV X w' v l
set_option maxRecDepth 100000 in
set_option maxHeartbeats 4000000 in
theorem rexpr_any (X : Nat → Prop) (sg ne : Nat) (NA : Option Addr) (nn nc : Nat) (nv : List (ByteArray × Value)) (names : Names) (sh : List (List Int)) (dk : Int) (dn : ByteArray) (du : Nat) (A' : Option Addr) (al c' : Nat) (da : List Int) (dp : Int) (w : World) (i : Nat)
    (hal : al = da.length) (hda : Rd w w.heap.size A' (da.map VI)) (hsm : ∀ (k : Nat) (x : Int), da[k]? = some x → 0 ≤ x ∧ x < (i : Int)) (hi : i ≤ ne) (hmd : madeP dk = (al : Int)) (hnn : nn = nv.length) (hnl : nn ≤ 1000000) (hne : ne ≤ 100000)
    (hnm : RdNm w NA nv) (hnr : NamR X w nv names) (hS : RShp X w sg ne sh) (hX : ∀ k, X k → k < w.heap.size) :
    Calls Tryz.prog 34 #[.agg #[.int .i64 dk, .string dn, .int .u64 (du : Int), .slice A' al c', .int .i64 dp], .slice (some ⟨sg, 0, none⟩) ne ne, .slice NA nn nc] w (RexprOut X w (exprC ⟨dk, dn, du, da, dp⟩ sh names)) := by
  obtain ⟨w2, hw2⟩ : ∃ w2, w2 = w.alloc (.cells #[.int .i64 dk, .string dn, .int .u64 (du : Int), .slice A' al c', .int .i64 dp] 41) := ⟨_, rfl⟩
  have hb2 : Below w.heap.size w w2 := by rw [hw2]; exact (Below.refl _ _).alloc (Nat.le_refl _) _
  have hE : w2.heap[w.heap.size]? = some (.cells #[.int .i64 dk, .string dn, .int .u64 (du : Int), .slice A' al c', .int .i64 dp] 41 (0, 0)) := by rw [hw2]; exact heap_alloc_new w _
  have HW2 := Lib.hid hw2
  have HB2 := Lib.hid hb2
  have HE := Lib.hid (fun W (hW : Below w2.heap.size w2 W) => (hW.block _ (Array.getElem?_eq_some_iff.1 hE).1).trans hE)
  have HAL := Lib.hid hal
  have HDR := Lib.hid (hda.next hb2)
  have HSM := Lib.hid hsm
  have HMD := Lib.hid hmd
  have HNN := Lib.hid hnn
  have HNR := Lib.hid hnr
  have HNM := Lib.hid (show RdNm w2 NA nv from hnm.next hb2)
  have HS2 := Lib.hid (hS.next hb2)
  have HX := Lib.hid (fun k hk => Nat.lt_of_lt_of_le (hX k hk) hb2.size)
  have HNR2 := Lib.hid (hnr.keep (KeepX.of (X := X) hb2))
  have hal3 : al ≤ 3 := by have := made_le dk; omega
  have e0 := cell_of_row _ _ 0 _ _ _ hE
  have e1 := cell_of_row _ _ 1 _ _ _ hE
  have e3 := cell_of_row _ _ 3 _ _ _ hE
  clear hw2 hb2 hE hal hda hsm hmd hnn hnm hnr hS hX
  by_cases hk2 : dk = 2
  · subst hk2
    have HFD := Lib.hid (rfind_any NA nn nc nv dn w2 HNN.out hnl HNM.out)
    rcases HNR.out.find dn with ⟨h1, h2⟩ | ⟨vl, l, h1, h2, h3, h4⟩
    · have HEC := Lib.hid (show exprC ⟨2, dn, du, da, dp⟩ sh names = .inr 140 from by
        unfold exprC
        rw [if_pos rfl]
        dsimp only
        rw [h2])
      have HF1 := Lib.hid (HFD.out.mono (fun e w' h => show e = .returned (.int .i64 (-1)) ∧ w2 = w' from by
        obtain ⟨⟨r, rfl, hr⟩, hw⟩ := h
        rcases hr with ⟨_, rfl⟩ | ⟨k, p, _, h, _⟩
        · exact ⟨rfl, hw⟩
        · rw [h1] at h; cases h))
      clear h1 h2
      go_enter Tryz.func34, Tryz.ntmps34
      go_wp2_with fail
      rw [← HW2.out]
      refine HF1.out.mono ?_
      rintro e w' ⟨rfl, rfl⟩
      go_wp2
      go_ret2
      refine ⟨HB2.out, ?_⟩
      rw [HEC.out]
      rfl
    · have HEC := Lib.hid (show exprC ⟨2, dn, du, da, dp⟩ sh names = .inl l from by
        unfold exprC
        rw [if_pos rfl]
        dsimp only
        rw [h2])
      have HF1 := Lib.hid (HFD.out.mono (fun e w' h => show ∃ (k : Nat) (p : ByteArray × Value), e = .returned (.int .i64 (k : Int)) ∧ nv[k]? = some p ∧ p.2 = vl ∧ w2 = w' from by
        obtain ⟨⟨r, rfl, hr⟩, hw⟩ := h
        rcases hr with ⟨h, _⟩ | ⟨k, p, hk, h, rfl⟩
        · rw [h1] at h; cases h
        · rw [h1] at h
          injection h with h
          exact ⟨k, p, rfl, hk, h.symm, hw⟩))
      have HV := Lib.hid (h3.keep (KeepX.of (X := X) HB2.out))
      clear h1 h2 h3 h4
      go_enter Tryz.func34, Tryz.ntmps34
      go_wp2_with fail
      rw [← HW2.out]
      refine HF1.out.mono ?_
      rintro e w' ⟨k, p, rfl, hkp, hpv, rfl⟩
      have hk : k < nn := by rw [HNN.out]; exact (List.getElem?_eq_some_iff.1 hkp).1
      obtain ⟨b, o, rfl, hbl, c0, c1⟩ := HNM.out.at_ hkp
      rw [hpv] at c1
      have k0 : (0 : Int) ≤ (k : Int) := by omega
      have k1 : (k : Int) < (nn : Int) := by omega
      clear hkp c0 hbl hpv e0 e1 e3
      go_wp2
      go_ret2
      refine ⟨HB2.out, ?_⟩
      rw [HEC.out]
      exact ⟨_, rfl, HV.out⟩
  · have q2 : (dk == 2) = false := by rw [beq_eq_false_iff_ne]; exact hk2
    have HK2 := Lib.hid hk2
    clear hk2
    go_enter Tryz.func34, Tryz.ntmps34
    go_wp2_with fail
    rw [← HW2.out]
    go_loopw [9, 30] (fun xv kv wr => ∃ (k : Nat) (A : Option Addr) (c : Nat) (vs : List Value), k ≤ al ∧ kv = .int .i64 k ∧ xv = .slice A k c ∧ vs.length = k ∧ Own wr w2.heap.size 22 A c vs ∧ Below w2.heap.size w2 wr ∧ ∀ (j : Nat) (v : Value) (l : List Int), vs[j]? = some v → (da.map fun a => sh.getD a.toNat [])[j]? = some l → ShV X w2 v l) (fun _ kv _ => al - (intOf kv).toNat)
    case atStart => exact ⟨0, none, 0, [], by omega, rfl, rfl, rfl, Own.nil _ _ _, Below.refl _ _, fun j v l h => by simp at h⟩
    case round =>
      obtain ⟨k, A, c, vs, hk, rfl, rfl, hvs, hO, hb, hvl⟩ := hrel
      have HVS := Lib.hid hvs
      have HO := Lib.hid hO
      have HBi := Lib.hid hb
      have HVL := Lib.hid hvl
      have hEb := HE.out _ hb
      have d3 := cell_of_row _ _ 3 _ _ _ hEb
      clear hvs hO hb hvl e0 e1 e3
      by_cases hlk : k < al
      · have ht : da[k]? = some (da[k]'(by rw [← HAL.out]; exact hlk)) := List.getElem?_eq_getElem _
        obtain ⟨x, hx⟩ : ∃ d, d = da[k]'(by rw [← HAL.out]; exact hlk) := ⟨_, rfl⟩
        rw [← hx] at ht
        obtain ⟨x0, x1⟩ := HSM.out k x ht
        obtain ⟨a, rfl⟩ : ∃ a : Nat, x = (a : Int) := ⟨x.toNat, by omega⟩
        have ha : a < ne := by omega
        obtain ⟨b2, o2, rfl, hbl2, d0⟩ := (HDR.out.next HBi.out).at_ (show (da.map VI)[k]? = some (VI (a : Int)) by rw [List.getElem?_map, ht]; rfl)
        unfold VI at d0
        obtain ⟨Aj, cj, nj, sj, -, svj⟩ := HS2.out.shape ha
        have sj2 := (HBi.out.cell (p := ⟨sg, a, none⟩) HS2.out.lt).trans sj
        have k0 : (0 : Int) ≤ (k : Int) := by omega
        have k1 : (k : Int) < (al : Int) := by omega
        have a0 : (0 : Int) ≤ (a : Int) := by omega
        have a1 : (a : Int) < (ne : Int) := by omega
        have HNV := Lib.hid (show ∀ (j : Nat) (v : Value) (l : List Int), (vs ++ [Value.slice Aj nj cj])[j]? = some v → (da.map fun a => sh.getD a.toNat [])[j]? = some l → ShV X w2 v l from fun j v l hv hl => by
          by_cases hj : j < k
          · rw [List.getElem?_append_left (by rw [HVS.out]; exact hj)] at hv
            exact HVL.out j v l hv hl
          · rw [List.getElem?_append_right (by rw [HVS.out]; omega), HVS.out] at hv
            have hj0 : j - k = 0 := by
              have := (List.getElem?_eq_some_iff.1 hv).1
              simp at this
              omega
            have hjk : j = k := by omega
            subst hjk
            rw [hj0] at hv
            simp at hv
            rw [List.getElem?_map, ht] at hl
            simp at hl
            rw [← hv, ← hl]
            simpa using svj)
        clear ht hx hbl2 x0 x1 sj svj hEb
        go_wp2_with (at_builtin; (refine appS rfl (.tmp 33) (.tmp 42) rfl w2.heap.size A c vs k HVS.out rfl (HO.out.alloc _) (some ⟨wr.heap.size, 0, none⟩) 1 (wr.heap.size + 1) (.slice Aj nj cj) rfl (Rd.one _ _ _) (fun h => by cases h) rfl (by omega) (by have := HBi.out.size; simp; omega) ?_); intro A3 k3 w3 o3 b3; have O3 := Lib.hid o3; have B3 := Lib.hid ((HBi.out.alloc HBi.out.size _).trans b3); clear o3 b3)
        exact ⟨⟨k + 1, A3, k3, _, by omega, rfl, rfl, by rw [List.length_append, HVS.out]; rfl, O3.out, B3.out, HNV.out⟩, by simp [intOf]; omega⟩
      · obtain rfl : al = k := by omega
        obtain ⟨r1, hr1⟩ : ∃ r1, r1 = (shapeOf dk du (da.map fun a => sh.getD a.toNat [])).1 := ⟨_, rfl⟩
        obtain ⟨r2, hr2⟩ : ∃ r2, r2 = (shapeOf dk du (da.map fun a => sh.getD a.toNat [])).2 := ⟨_, rfl⟩
        have HL : ShL X wr A (da.map fun a => sh.getD a.toNat []) := ⟨vs, by rw [List.length_map, ← HAL.out]; exact HVS.out, HO.out.rd, fun j v l hv hl => (HVL.out j v l hv hl).next HBi.out⟩
        have HSH := Lib.hid (rshape_any X dk dn du (.slice A' al c') dp (da.map fun a => sh.getD a.toNat []) A al c wr (by rw [List.length_map]; exact HAL.out) HK2.out (by rw [List.length_map, ← HAL.out]; exact HMD.out) (fun k hk => Nat.lt_of_lt_of_le (HX.out k hk) HBi.out.size) HL)
        rw [← hr1, ← hr2] at HSH
        have HEC := Lib.hid (show exprC ⟨dk, dn, du, da, dp⟩ sh names = if r2 = false ∨ elemsP r1 = 0 then .inr 141 else .inl r1 from by
          unfold exprC
          rw [if_neg HK2.out, hr1, hr2])
        have e0 := cell_of_row _ _ 0 _ _ _ hEb
        have e1 := cell_of_row _ _ 1 _ _ _ hEb
        have e2 := cell_of_row _ _ 2 _ _ _ hEb
        have e4 := cell_of_row _ _ 4 _ _ _ hEb
        clear HL hr1 hr2 hk hlk hEb HVS HO HVL
        cases r2 with
        | false =>
          go_wp2_with (go_at_call 52; refine HSH.out.mono ?_; rintro e w5 ⟨v, rfl, hv, hb5⟩)
          go_ret2
          refine ⟨HB2.out.trans ((bnext HBi.out hb5).mono HB2.out.size), ?_⟩
          rw [show exprC ⟨dk, dn, du, da, dp⟩ sh names = .inr 141 from (by rw [HEC.out]; simp)]
          rfl
        | true =>
          obtain ⟨el, hel⟩ : ∃ el, el = elemsP r1 := ⟨_, rfl⟩
          rw [← hel] at HEC
          have HEL := Lib.hid (show ∀ (w5 : World) (Av : Option Addr) (cv : Nat), ShV X w5 (.slice Av r1.length cv) r1 → Calls Tryz.prog 11 #[.slice Av r1.length cv] w5 fun e w' => e = .returned (.int .i64 el) ∧ w5 = w' from fun w5 Av cv h => by
            obtain ⟨A9, c9, e9, v1, v2, v3, v4⟩ := h
            injection e9 with e9 _ e10
            subst e9 e10
            rw [hel]
            exact relems_any Av r1.length cv r1 w5 rfl (by omega) v4.rd)
          clear hel
          by_cases h0 : el = 0
          · subst h0
            go_wp2_with (first
              | (go_at_call 52; refine HSH.out.mono ?_; rintro e w5 ⟨v, rfl, hv, hb5⟩; obtain ⟨Av, cv, rfl, hv2⟩ := hv)
              | (go_at_call 11; refine (HEL.out _ _ _ ⟨Av, cv, rfl, hv2⟩).mono ?_; rintro e w' ⟨rfl, rfl⟩))
            go_ret2
            refine ⟨HB2.out.trans ((bnext HBi.out hb5).mono HB2.out.size), ?_⟩
            rw [show exprC ⟨dk, dn, du, da, dp⟩ sh names = .inr 141 from (by rw [HEC.out]; simp)]
            rfl
          · have q4 : (el == 0) = false := by rw [beq_eq_false_iff_ne]; exact h0
            have HEC2 := Lib.hid (show exprC ⟨dk, dn, du, da, dp⟩ sh names = .inl r1 from by rw [HEC.out, if_neg (by simp; exact h0)])
            clear h0
            go_wp2_with (first
              | (go_at_call 52; refine HSH.out.mono ?_; rintro e w5 ⟨v, rfl, hv, hb5⟩; obtain ⟨Av, cv, rfl, hv2⟩ := hv)
              | (go_at_call 11; refine (HEL.out _ _ _ ⟨Av, cv, rfl, hv2⟩).mono ?_; rintro e w' ⟨rfl, rfl⟩))
            go_ret2
            refine ⟨HB2.out.trans ((bnext HBi.out hb5).mono HB2.out.size), ?_⟩
            rw [HEC2.out]
            exact ⟨_, rfl, Av, cv, rfl, hv2⟩
end Go.Proofs.YthnkeejiocnflaaGreatDoor
namespace Go.Proofs.YthnkeejiocnflaaGreatDoor
set_option linter.unusedVariables false
set_option linter.unusedSimpArgs false
open Go.RowKit
def rkX (sg : Nat) (NA : Option Addr) (k : Nat) : Prop := k = sg ∨ blk NA = some k
structure RkSt (w : World) (B sg ne : Nat) (NA : Option Addr) (nn nc : Nat) (names : Names) (sh : List (List Int)) : Prop where
  b : B ≤ sg
  nm : ∃ nv : List (ByteArray × Value), w.ownsRow B 78 2 (.slice NA nn nc) nn (nv.flatMap nmCells) ∧ nn = nv.length ∧ NamR (rkX sg NA) w nv names
  sp : RShp (rkX sg NA) w sg ne sh
  ns : blk NA ≠ some sg
theorem nrow_lt {w : World} {base k n c : Nat} {T : TypeId} {A : Option Addr} {xs : List Value} (h : w.ownsRow base T k (.slice A n c) n xs) : ∀ g, blk A = some g → base ≤ g ∧ g < w.heap.size := by
  intro g hg
  rcases h.2 with ⟨hv, h0⟩ | ⟨g', cap', cur, hv, hb, hh, r⟩
  · injection hv with a
    rw [a] at hg
    cases hg
  · injection hv with a
    rw [a] at hg
    have : g' = g := by simpa [blk] using hg
    subst this
    exact ⟨hb, (Array.getElem?_eq_some_iff.1 hh).1⟩
theorem nrow_keep {w w' : World} {base k n c : Nat} {T : TypeId} {A : Option Addr} {xs : List Value} (h : w.ownsRow base T k (.slice A n c) n xs) (hk : ∀ g, blk A = some g → w'.heap[g]? = w.heap[g]?) : w'.ownsRow base T k (.slice A n c) n xs := by
  refine ⟨h.1, ?_⟩
  rcases h.2 with hv | ⟨g', cap', cur, hv, hb, hh, r⟩
  · exact .inl hv
  · refine .inr ⟨g', cap', cur, hv, hb, ?_, r⟩
    have : blk A = some g' := by injection hv with a; rw [a]; rfl
    rw [hk g' this]
    exact hh
section
variable {w w' : World} {B sg ne : Nat} {NA : Option Addr} {nn nc : Nat} {names : Names} {sh : List (List Int)}
theorem RkSt.lt (h : RkSt w B sg ne NA nn nc names sh) : ∀ k, rkX sg NA k → k < w.heap.size := by
  intro k hk
  rcases hk with rfl | hk
  · exact h.sp.lt
  · obtain ⟨nv, h1, _⟩ := h.nm
    exact (nrow_lt h1 k hk).2
theorem RkSt.ge (h : RkSt w B sg ne NA nn nc names sh) : ∀ k, rkX sg NA k → B ≤ k := by
  intro k hk
  rcases hk with rfl | hk
  · exact h.b
  · obtain ⟨nv, h1, _⟩ := h.nm
    exact (nrow_lt h1 k hk).1
theorem RkSt.next (h : RkSt w B sg ne NA nn nc names sh) (hb : Below w.heap.size w w') : RkSt w' B sg ne NA nn nc names sh := by
  have hlt := h.lt
  obtain ⟨b, ⟨nv, h1, h2, h3⟩, sp, ns⟩ := h
  exact ⟨b, ⟨nv, nrow_keep h1 (fun g hg => hb.block g (hlt g (.inr hg))), h2, h3.keep (KeepX.of hb)⟩, sp.next hb, ns⟩
theorem RkSt.rdnm (h : RkSt w B sg ne NA nn nc names sh) : ∃ nv, nn = nv.length ∧ RdNm w NA nv ∧ NamR (rkX sg NA) w nv names := by
  obtain ⟨nv, h1, h2, h3⟩ := h.nm
  refine ⟨nv, h2, ?_, h3⟩
  by_cases hl : nv = []
  · subst hl
    exact .inl rfl
  · obtain ⟨g, hA, hg, _, hc⟩ := trow_cell h1 (by rw [h2]; exact List.length_pos_iff.2 hl)
    exact .inr ⟨g, 0, hA, hg, fun j v hv => by rw [Nat.zero_add]; exact hc j v hv⟩
theorem RkSt.free (h : RkSt w B sg ne NA nn nc names sh) (k : Nat) : w.frozen? ⟨sg, k, none⟩ = false := by
  obtain ⟨svs, s1, _⟩ := h.sp
  simp [World.frozen?, s1]
theorem nset_ne (w : World) (t : Addr) (v : Value) {k : Nat} (h : k ≠ t.block) : (w.setCell t v).heap[k]? = w.heap[k]? := by
  unfold World.setCell
  simp only [Array.getElem?_modify]
  rw [if_neg (fun e => h e.symm)]
theorem RkSt.set (h : RkSt w B sg ne NA nn nc names sh) {a : Nat} (ha : a < ne) {v : Value} {l : List Int} (hv : ShV (rkX sg NA) w v l) :
    RkSt (w.setCell ⟨sg, a, none⟩ v) B sg ne NA nn nc names (sh.set a l) := by
  have hkeep : KeepX (rkX sg NA) w (w.setCell ⟨sg, a, none⟩ v) := by
    refine ⟨by simp [World.setCell], fun p hp hx => ?_⟩
    unfold World.cell?
    rw [nset_ne w ⟨sg, a, none⟩ v (fun e => hx (.inl e))]
  obtain ⟨b, ⟨nv, h1, h2, h3⟩, ⟨svs, s1, s2, s3, s4⟩, ns⟩ := h
  refine ⟨b, ⟨nv, nrow_keep h1 (fun g hg => nset_ne w ⟨sg, a, none⟩ v (fun e => ns (by rw [hg]; exact congrArg some e))), h2, h3.keep hkeep⟩, ⟨svs.set a v, ?_, by simpa using s2, by simpa using s3, ?_⟩, ns⟩
  · simp [World.setCell, Array.getElem?_modify, s1]
  · intro j u m hu hm
    rw [List.getElem?_set] at hu hm
    by_cases e : a = j
    · subst e
      rw [if_pos rfl, if_pos (by omega)] at hu hm
      injection hu with hu
      injection hm with hm
      subst hu hm
      exact hv.keep hkeep
    · rw [if_neg e] at hu hm
      exact (s4 j u m hu hm).keep hkeep
theorem ShV.turn {X X' : Nat → Prop} {w w' : World} {v : Value} {l : List Int} (h : ShV X w v l) (ht : ∀ A xs, RdX X w A xs → RdX X' w' A xs) : ShV X' w' v l := by
  obtain ⟨A, c, h1, h2, h3, h4, h5⟩ := h
  exact ⟨A, c, h1, h2, h3, h4, ht _ _ h5⟩
theorem NamR.turn {X X' : Nat → Prop} {w w' : World} (ht : ∀ A xs, RdX X w A xs → RdX X' w' A xs) : ∀ {ps : List (ByteArray × Value)} {qs : Names}, NamR X w ps qs → NamR X' w' ps qs
  | [], [], _ => trivial
  | p :: ps, q :: qs, h => ⟨h.1, h.2.1.turn ht, h.2.2.1, NamR.turn ht h.2.2.2⟩
  | [], _ :: _, h => h.elim
  | _ :: _, [], h => h.elim
end
theorem nm_info : (Tryz.prog.info? 78).map (fun i => (i.zero, i.size, i.bytes)) = some (some (.agg #[.string ⟨#[]⟩, .slice none 0 0]), 2, 40) := by kernel_rfl
theorem shv_one {X : Nat → Prop} {w : World} {v : Value} {l : List Int} (h : ShV X w v l) : v.oneCell' = true := by
  obtain ⟨A, c, rfl, _⟩ := h
  rfl
/-- A name is appended. -/
theorem wp_nm {w : World} {o : Oper} {a : Act} {K : Act → World → Prop} {Q : Exit → Act → World → Prop} (s x : Operand)
    (ho : o.op = .call { callee := .builtin .append, args := #[s, x], argTypes := #[75, 75] })
    (B sg ne : Nat) (NA : Option Addr) (nn nc : Nat) (names : Names) (sh : List (List Int)) (hS : RkSt w B sg ne NA nn nc names sh) (hs : a.eval s = .slice NA nn nc)
    (b : Nat) (n : ByteArray) (v : Value) (l : List Int) (hx : a.eval x = .slice (some ⟨b, 0, none⟩) 1 1) (hb : w.heap[b]? = some (.cells #[.string n, v] 78 (0, 0)))
    (hv : ShV (rkX sg NA) w v l) (he : elemsP l ≠ 0) (hnn : nn ≤ 1000000) (hB : B ≤ w.heap.size)
    (h : ∀ A' cap' w', RkSt w' B sg ne A' (nn + 1) cap' (names ++ [(n, l)]) sh → Below B w w' → (∀ k, k < w.heap.size → blk NA ≠ some k → w'.heap[k]? = w.heap[k]?) → K (a.put o.dst (.slice A' (nn + 1) cap')) w') : o.wp Tryz.prog a w K Q := by
  have hlt := hS.lt
  have hge := hS.ge
  obtain ⟨hb0, ⟨nv, h1, h2, h3⟩, ⟨svs, s1, s2, s3, s4⟩, hns⟩ := hS
  have hsg := (Array.getElem?_eq_some_iff.1 s1).1
  obtain ⟨i0, hi0, hz0, hz1, hz2⟩ := info_parts nm_info
  refine wp_appN s x 75 ho B 78 i0 _ 2 40 Tryz.underlying75 hi0 hz0 hz1 (by decide) hz2 rfl NA nc nn (nv.flatMap nmCells) hs h1 b [.string n, v] rfl hx ?_ ?_ (by simp only [maxLen]; omega) (by omega) hB ?_
  · intro j u hu
    rw [cell_of_row w b j _ _ (0, 0) hb]
    simpa using hu
  · intro u hu
    simp at hu
    rcases hu with rfl | rfl
    · rfl
    · exact shv_one hv
  · intro A' cap' w' r1 r2 r3
    have hblk : ∀ k, k < w.heap.size → blk NA ≠ some k → w'.heap[k]? = w.heap[k]? := fun k hk hne => r2.block k hk (fun e => hne e.symm)
    have hsgA : blk A' ≠ some sg := by
      rcases r3 with r3 | r3
      · rw [r3]; exact hns
      · rw [r3]
        intro e
        injection e with e
        omega
    have ht : ∀ A xs, RdX (rkX sg NA) w A xs → RdX (rkX sg A') w' A xs := by
      intro A xs hr
      rcases hr with hr | ⟨b', o', hA, hb', hx', hc'⟩
      · exact .inl hr
      · have hne : blk NA ≠ some b' := fun e => hx' (.inr e)
        refine .inr ⟨b', o', hA, Nat.lt_of_lt_of_le hb' r2.size, fun hx2 => ?_, fun j u hu => ?_⟩
        · rcases hx2 with e | e
          · exact hx' (.inl e)
          · rcases r3 with r3 | r3
            · exact hne (by rw [← r3]; exact e)
            · rw [r3] at e
              injection e with e
              omega
        · rw [← hc' j u hu]
          unfold World.cell?
          rw [hblk b' hb' hne]
    refine h A' cap' w' ⟨hb0, ⟨nv ++ [(n, v)], ?_, by rw [List.length_append, h2]; rfl, NamR.append (hv.turn ht) he (h3.turn ht)⟩, ⟨svs, ?_, s2, s3, fun j u m hu hm => (s4 j u m hu hm).turn ht⟩, hsgA⟩ ?_ hblk
    · rw [List.flatMap_append]
      exact r1
    · rw [hblk sg hsg hns]
      exact s1
    · exact grown_below (Below.refl _ _) r2 hB (fun k hk => hge k (.inr hk))
end Go.Proofs.YthnkeejiocnflaaGreatDoor
