/-
  The text of the law EvalMeans: what it evaluates to, and what that says of two words. No program but the text. A row of statements out of parts of another row; a tensor without sizes; parse.Text at a good text, with its rows' caps. The walk of the law EvalMeans. The law EvalMeans: for every input the call returns true, and each argument reads as it read before; the six listed variables tied to the program's text. The frame round its walk; written by a program of mine (mkdoorl.py).
-/
import Derived.Test.YtghlnncfigkkaaaGreatDoorQNum
import Derived.Test.YtghlnncfigkkaaaGreatDoorQEvAT
import Derived.Test.YtghlnncfigkkaaaGreatDoorQOpen
import Derived.Deep.RegionLaw
import Derived.Test.YtghlnncfigkkaaaGreatDoorTie
import Derived.Test.YtghlnncfigkkaaaGreatDoorCards
import Derived.SevenTiedAt
namespace Go.Proofs.YtghlnncfigkkaaaGreatDoor
set_option linter.unusedVariables false
set_option linter.unusedSimpArgs false
open Go.RowKit
def meLess (a b : UInt64) : UInt64 := if sltW a b then 1 else 0
def meMax (a b : UInt64) : UInt64 := if sltW a b then b else a
def meRelu (a : UInt64) : UInt64 := if sltW a 0 then 0 else a
def meMux (c a b : UInt64) : UInt64 := if andW c 1 = 1 then a else b
def meanT : ByteArray := ⟨#[105, 110, 112, 117, 116, 32, 48, 32, 120, 32, 91, 93, 59, 32, 105, 110, 112, 117, 116, 32, 49, 32, 121, 32, 91, 93, 59, 32, 108, 101, 116, 32, 97, 32, 61, 32, 109, 97, 120, 40, 120, 44, 32, 121, 41, 32, 43, 32, 40, 120, 32, 60, 32, 121, 41, 59, 32, 108, 101, 116, 32, 98, 32, 61, 32, 109, 117, 120, 40, 120, 32, 60, 32, 121, 44, 32, 120, 44, 32, 121, 41, 59, 32, 108, 101, 116, 32, 99, 32, 61, 32, 114, 101, 108, 117, 40, 120, 41, 32, 45, 32, 114, 101, 108, 117, 40, 45, 120, 41, 59, 32, 108, 101, 116, 32, 100, 32, 61, 32, 40, 120, 32, 62, 62, 32, 49, 41, 32, 42, 32, 50, 59, 32, 108, 101, 116, 32, 102, 32, 61, 32, 40, 120, 32, 43, 32, 121, 41, 32, 42, 32, 40, 120, 32, 45, 32, 121, 41, 32, 45, 32, 120, 32, 42, 32, 120, 32, 43, 32, 121, 32, 42, 32, 121, 59, 32, 108, 101, 116, 32, 103, 32, 61, 32, 115, 117, 109, 40, 120, 41, 32, 64, 32, 121, 59, 32, 111, 117, 116, 112, 117, 116, 32, 97, 59, 32, 111, 117, 116, 112, 117, 116, 32, 98, 59, 32, 111, 117, 116, 112, 117, 116, 32, 99, 59, 32, 111, 117, 116, 112, 117, 116, 32, 100, 59, 32, 111, 117, 116, 112, 117, 116, 32, 102, 59]⟩
theorem meanT_scan : scanM meanT = .toks (toksE (scanM meanT)) := by kernel_rfl
theorem meanT_len : (toksE (scanM meanT)).length ≤ 160 := Nat.le_of_ble_eq_true (by kernel_rfl)
theorem meanT_err : (parseP 2000 (toksE (scanM meanT))).err = none := by kernel_rfl
theorem meanT_ss : (ssE meanT).length = 13 := by kernel_rfl
theorem meanT_es : (esE meanT).length = 42 := by kernel_rfl
theorem meanT_num : (esE meanT).all (fun e => decide (e.num ≤ 18446744073709551615)) = true := by kernel_rfl
theorem meanT_shp : (ssE meanT).all (fun s => decide (s.shape.length ≤ 1000000)) = true := by kernel_rfl
theorem meanT_num' : ∀ e ∈ esE meanT, e.num ≤ 18446744073709551615 := fun e he => of_decide_eq_true (List.all_eq_true.1 meanT_num e he)
theorem meanT_shp' : ∀ s ∈ ssE meanT, s.shape.length ≤ 1000000 := fun s hs => of_decide_eq_true (List.all_eq_true.1 meanT_shp s hs)
def meanSS : List SI := (ssE meanT).take 7 ++ (ssE meanT).drop 8
theorem meanSS_len : meanSS.length = 12 := by kernel_rfl
theorem meanSS_shp : ∀ s ∈ meanSS, s.shape.length ≤ 1000000 := fun s hs => by
  rcases List.mem_append.1 hs with h | h
  · exact meanT_shp' s (List.mem_of_mem_take h)
  · exact meanT_shp' s (List.mem_of_mem_drop h)
def meA (x y : UInt64) : UInt64 := addW (meMax x y) (meLess x y)
def meB (x y : UInt64) : UInt64 := meMux (meLess x y) x y
def meC (x y : UInt64) : UInt64 := subW (meRelu x) (meRelu (negW x))
def meD (x y : UInt64) : UInt64 := mulW (sarW x 1) (UInt64.ofNat 2)
def meF (x y : UInt64) : UInt64 := addW (subW (mulW (addW x y) (subW x y)) (mulW x x)) (mulW y y)
theorem meanT_ev0 (x y : UInt64) : (match evalE (ssE meanT) (esE meanT) [⟨[], [x]⟩] [⟨[], [y]⟩] with | .inr (c, p, b) => (c == 141, b) | _ => (false, true)) = (true, false) := by kernel_rfl
theorem meanT_ev (x y : UInt64) : evalE meanSS (esE meanT) [⟨[], [x]⟩] [⟨[], [y]⟩] = .inl [⟨[], [meA x y]⟩, ⟨[], [meB x y]⟩, ⟨[], [meC x y]⟩, ⟨[], [meD x y]⟩, ⟨[], [meF x y]⟩] := by kernel_rfl
attribute [irreducible] meanSS
theorem me_slt (a b : UInt64) : sltW a b = true ↔ sI a < sI b := by unfold sltW; exact decide_eq_true_iff
theorem me_and1 : andW 1 1 = 1 := by unfold andW; decide
theorem me_and0 : andW 0 1 = 0 := by unfold andW; decide
theorem meA_t {x y : UInt64} (h : sltW x y = true) : meA x y = addW y 1 := by unfold meA meMax meLess; rw [if_pos h, if_pos h]
theorem meA_f {x y : UInt64} (h : sltW x y = false) : meA x y = x := by
  unfold meA meMax meLess
  rw [if_neg (by rw [h]; decide), if_neg (by rw [h]; decide)]
  unfold addW
  simp
theorem meB_t {x y : UInt64} (h : sltW x y = true) : meB x y = x := by unfold meB meMux meLess; rw [if_pos h, if_pos me_and1]
theorem meB_f {x y : UInt64} (h : sltW x y = false) : meB x y = y := by unfold meB meMux meLess; rw [show (if sltW x y = true then (1 : UInt64) else 0) = 0 from if_neg (by rw [h]; decide), me_and0, if_neg (by decide)]
theorem sI_zero : sI 0 = 0 := by rw [sI_eq]; rfl
theorem meC_is (x y : UInt64) : meC x y = x ∨ x = 9223372036854775808 := by
  unfold meC meRelu
  have hn := u64_neg x
  rw [wrapN] at hn
  have hx := x.toNat_lt
  have hy := (negW x).toNat_lt
  by_cases h : sltW x 0 = true
  · rw [if_pos h]
    have h1 := (me_slt _ _).1 h
    rw [sI_zero, sI_eq] at h1
    by_cases h2 : sltW (negW x) 0 = true
    · right
      have h3 := (me_slt _ _).1 h2
      rw [sI_zero, sI_eq] at h3
      apply UInt64.toNat_inj.1
      show x.toNat = 9223372036854775808
      split at h1 <;> split at h3 <;> omega
    · left
      rw [if_neg h2]
      unfold subW negW
      simp
  · rw [if_neg h]
    have h1 : ¬ sI x < 0 := fun e => h ((me_slt _ _).2 (by rw [sI_zero]; exact e))
    rw [sI_eq] at h1
    left
    by_cases h2 : sltW (negW x) 0 = true
    · rw [if_pos h2]
      unfold subW
      simp
    · rw [if_neg h2]
      have h3 : ¬ sI (negW x) < 0 := fun e => h2 ((me_slt _ _).2 (by rw [sI_zero]; exact e))
      rw [sI_eq] at h3
      have h0 : x = 0 := by
        apply UInt64.toNat_inj.1
        show x.toNat = 0
        split at h1 <;> split at h3 <;> omega
      rw [h0]
      unfold subW negW
      decide
theorem meD_is (x y : UInt64) : subW x (meD x y) = andW x 1 := by
  unfold meD
  have h1 := u64_sub x (mulW (sarW x 1) (UInt64.ofNat 2))
  have h2 := u64_mul (sarW x 1) (UInt64.ofNat 2)
  have h3 := u64_i64_div x 1
  have h4 := u64_mod2 x
  rw [wrapN] at h1 h2 h3
  rw [sI_eq] at h3
  have e2 : (((UInt64.ofNat 2).toNat : Nat) : Int) = 2 := rfl
  rw [e2] at h2
  have hx := x.toNat_lt
  apply UInt64.toNat_inj.1
  split at h3 <;> omega
theorem meF_is (x y : UInt64) : meF x y = 0 := by unfold meF addW subW mulW; grind
attribute [irreducible] meA meB meC meD meF
end Go.Proofs.YtghlnncfigkkaaaGreatDoor
namespace Go.Proofs.YtghlnncfigkkaaaGreatDoor
set_option linter.unusedVariables false
set_option linter.unusedSimpArgs false
open Go.RowKit
theorem run_appO {P : Program} (w : World) (base : Nat) (t ty e : TypeId) (i : TypeInfo) (z : Value) (size bytes : Nat) (ht : P.underlying t = some (.slice e)) (hi : P.info? e = some i) (hz : i.zero = some z)
    (hsz : i.size = size) (hs0 : 0 < size) (hby : i.bytes = bytes) (hzs : z.cells.size = size)
    (A : Option Addr) (cap n : Nat) (xs : List Value) (hown : w.ownsRow base e size (.slice A n cap) n xs)
    (p : Addr) (m mc : Nat) (hm0 : 0 < m) (news : List Value) (hm : news.length = m * size) (hcells : ∀ (j : Nat) (u : Value), news[j]? = some u → w.cell? (p.add j) = some u) (h1 : ∀ u ∈ news, u.oneCell' = true)
    (h63 : n + m ≤ maxLen) (hbytes : ((n + m) + (n + m) / 4 + 192) * bytes ≤ 281474976710656) (hbase : base ≤ w.heap.size) :
    ∃ A' cap' w', (Builtin.append_ #[t, t] ty #[.slice A n cap, .slice (some p) m mc]).run P w = .ok (.slice A' (n + m) cap') w' ∧ w'.ownsRow base e size (.slice A' (n + m) cap') (n + m) (xs ++ news) ∧ w.grownBy w' (blk A) ∧ (blk A' = blk A ∨ blk A' = some w.heap.size) := by
  have hsmall : n + m ≤ 9223372036854775807 := by simp only [maxLen] at h63; omega
  have hxl := hown.1
  have hml : news.length = m * i.size := by rw [hsz, hm]
  have hlen : (xs ++ news).length = (n + m) * size := by rw [List.length_append, hxl, hm, Nat.add_mul]
  have grown : ∀ (old : Nat), old < n + m → ∀ (row : Option Nat),
      (w.drew.alloc (.cells (xs.toArray ++ news.toArray ++ Builtin.zeroCells z.cells (grownCap w (n + m) old e - (n + m))) e)).ownsRow base e size (.slice (some ⟨w.heap.size, 0, none⟩) (n + m) (grownCap w (n + m) old e)) (n + m) (xs ++ news) ∧
      w.grownBy (w.drew.alloc (.cells (xs.toArray ++ news.toArray ++ Builtin.zeroCells z.cells (grownCap w (n + m) old e - (n + m))) e)) row := by
    intro old _ row
    have hge := grownCap_ge w (n + m) old e
    have hcm : grownCap w (n + m) old e ≤ maxLen := grownCap_le_maxLen w (n + m) old e h63
    refine ⟨⟨hlen, .inr ⟨w.heap.size, _, _, rfl, hbase, heap_alloc_new w.drew _, by omega, hcm, ?_, ?_⟩⟩, ⟨rfl, rfl, rfl, by simp, fun k hk _ => Below.heap_alloc w.drew _ k hk⟩⟩
    · simp only [Array.size_append, List.size_toArray, size_zeroCells, hzs, hxl, hm]
      rw [← Nat.add_mul, ← Nat.add_mul]
      congr 1
      omega
    · simp only [Array.toList_append]
      rw [← hlen]
      exact List.take_left
  rcases hown.2 with ⟨hv, h0⟩ | ⟨g, cap', cur, hv, hbg, hg, hnc, hcm, hcs, htake⟩
  · injection hv with a1 a2 a3
    subst a1 a3 a2
    have hxs : xs = [] := List.eq_nil_of_length_eq_zero (by rw [hxl, Nat.zero_mul])
    subst hxs
    have hrun := run_append_nil (P := P) w t ty e i z ht hi hz p m mc news hml hcells (by omega) (by omega)
      (by rw [hby]; have hb := hbytes; simp only [Nat.zero_add] at hb; exact Nat.le_trans (Nat.mul_le_mul_right _ (by omega)) hb)
    have hgr := grown 0 (by omega) (blk none)
    simp only [Nat.zero_add, List.nil_append, Array.empty_append] at hgr ⊢
    exact ⟨_, _, _, hrun, hgr.1, hgr.2, .inr rfl⟩
  · injection hv with a1 a2 a3
    subst a1 a3
    by_cases hroom : n + m ≤ cap
    · have hrun := run_append_room (P := P) w t ty e i ht hi g n cap cur hg p m mc news hml hcells h1 hroom (by rw [hsz, hcs, hm, ← Nat.add_mul]; exact Nat.mul_le_mul_right _ hroom)
      refine ⟨_, _, _, hrun, ⟨hlen, .inr ⟨g, cap, _, rfl, hbg, setRow_heap w g cur _ e _ hg, by omega, hcm, ?_, ?_⟩⟩, ⟨rfl, rfl, rfl, by simp, fun k _ hk => setRow_other w g k _ (fun e => hk (by simp [blk, e]))⟩, .inl rfl⟩
      · have : (n + m) * size ≤ cap * size := Nat.mul_le_mul_right _ hroom
        have h5 : n * size ≤ cap * size := Nat.mul_le_mul_right _ hnc
        have hs1 : (n + m) * size = n * size + m * size := Nat.add_mul n m size
        simp only [List.size_toArray, List.length_append, List.length_take, List.length_drop, Array.length_toList]
        rw [hsz, hm, hcs]
        omega
      · rw [hsz, htake, ← hlen]
        exact List.take_left
    · have holds : ∀ (j : Nat) (u : Value), xs[j]? = some u → w.cell? ((⟨g, 0, none⟩ : Addr).add j) = some u := fun j u hu => by
        have e' : (⟨g, 0, none⟩ : Addr).add j = ⟨g, j, none⟩ := by unfold Addr.add; split <;> simp_all
        rw [e', cell_of_row w g j cur e (0, 0) hg]
        have h2 : (cur.toList.take (n * size))[j]? = some u := by rw [htake]; exact hu
        rw [List.getElem?_take] at h2
        split at h2
        · simpa using h2
        · cases h2
      have hrun := run_append_grow (P := P) w t ty e i z ht hi hz ⟨g, 0, none⟩ n cap xs (by rw [hsz]; exact hxl) holds p m mc news hml hcells (by omega) (by omega) (growslice_fits_wide (by omega) (by rw [hby]; exact hbytes))
      have hgr := grown cap (by omega) (blk (some ⟨g, 0, none⟩))
      exact ⟨_, _, _, hrun, hgr.1, hgr.2, .inr rfl⟩
/-- A statement's cells; its shape's slice. -/
def stC (m : SI × Value) : List Value := [.int .i64 m.1.kind, .int .i64 m.1.party, .string m.1.name, m.2, .int .i64 m.1.expr, .int .i64 m.1.pos]
def ArgR (w : World) (B : Nat) (m : SI × Value) : Prop := ∃ A c, m.2 = .slice A m.1.shape.length c ∧ Rd w B A (m.1.shape.map VI) ∧ m.1.shape.length ≤ 9223372036854775807 ∧ m.1.shape.length ≤ c ∧ c ≤ 9223372036854775807
theorem sis_of {w : World} {B b : Nat} : ∀ (ss : List SI) (o : Nat), (∀ i x, ss[i]? = some x → SIAt w B b (o + i * 6) x) →
    ∃ ms : List (SI × Value), ms.map Prod.fst = ss ∧ (∀ j v, (ms.flatMap stC)[j]? = some v → w.cell? ⟨b, o + j, none⟩ = some v) ∧ ∀ m ∈ ms, ArgR w B m
  | [], o, _ => ⟨[], rfl, fun j v h => by simp at h, fun m h => by simp at h⟩
  | x :: r, o, h => by
    obtain ⟨ms, h1, h2, h3⟩ := sis_of r (o + 6) (fun i y hy => by
      have := h (i + 1) y (by simpa using hy)
      rwa [show o + (i + 1) * 6 = o + 6 + i * 6 by omega] at this)
    have h0 := h 0 x rfl
    rw [Nat.zero_mul, Nat.add_zero] at h0
    obtain ⟨c0, c1, c2, ⟨A, c, c3, c3'⟩, c4, c5⟩ := h0
    refine ⟨(x, .slice A x.shape.length c) :: ms, by rw [List.map_cons, h1], fun j v hv => ?_, fun m hm => ?_⟩
    · rw [List.flatMap_cons] at hv
      by_cases hj : j < 6
      · rw [List.getElem?_append_left (by simpa [stC] using hj)] at hv
        have : j = 0 ∨ j = 1 ∨ j = 2 ∨ j = 3 ∨ j = 4 ∨ j = 5 := by omega
        rcases this with rfl | rfl | rfl | rfl | rfl | rfl <;> (simp [stC] at hv; rw [← hv]; assumption)
      · rw [List.getElem?_append_right (by simp [stC]; omega)] at hv
        have := h2 (j - 6) v (by simpa [stC] using hv)
        rwa [show o + 6 + (j - 6) = o + j by omega] at this
    · rcases List.mem_cons.1 hm with rfl | hm
      · exact ⟨A, c, rfl, c3'⟩
      · exact h3 m hm
theorem rdsi_of {w : World} {B b o : Nat} {ms : List (SI × Value)} (h : ∀ j v, (ms.flatMap stC)[j]? = some v → w.cell? ⟨b, o + j, none⟩ = some v) (hm : ∀ m ∈ ms, ArgR w B m) (hb : b < B) : RdSI w B (some ⟨b, o, none⟩) (ms.map Prod.fst) := by
  refine .inr ⟨b, o, rfl, hb, fun i x hx => ?_⟩
  rw [List.getElem?_map, Option.map_eq_some_iff] at hx
  obtain ⟨m, hmi, rfl⟩ := hx
  have key : ∀ k v, k < 6 → (stC m)[k]? = some v → w.cell? ⟨b, o + i * 6 + k, none⟩ = some v := fun k v hk hv => by
    have := h (i * 6 + k) v ((tflat_nth stC 6 (fun _ => rfl) ms i k m hmi hk).trans hv)
    rwa [← Nat.add_assoc] at this
  obtain ⟨A, c, e, h2⟩ := hm m (List.mem_of_getElem? hmi)
  exact ⟨key 0 _ (by omega) rfl, key 1 _ (by omega) rfl, key 2 _ (by omega) rfl, ⟨A, c, by rw [← e]; exact key 3 _ (by omega) rfl, h2⟩, key 4 _ (by omega) rfl, key 5 _ (by omega) rfl⟩
theorem ArgR.next {w w' : World} {m : SI × Value} (h : ArgR w w.heap.size m) (hb : Below w.heap.size w w') : ArgR w' w'.heap.size m := by
  obtain ⟨A, c, h1, h2, h3⟩ := h
  exact ⟨A, c, h1, h2.next hb, h3⟩
theorem stC_one {w : World} {B : Nat} {ms : List (SI × Value)} (h : ∀ m ∈ ms, ArgR w B m) : ∀ u ∈ ms.flatMap stC, u.oneCell' = true := by
  intro u hu
  obtain ⟨m, hm, hu⟩ := List.mem_flatMap.1 hu
  obtain ⟨A, c, e, _⟩ := h m hm
  unfold stC at hu
  simp at hu
  rcases hu with rfl | rfl | rfl | rfl | rfl | rfl
  · rfl
  · rfl
  · rfl
  · rw [e]; rfl
  · rfl
  · rfl
theorem st_info : (Tryz.prog.info? 93).map (fun i => (i.zero, i.size, i.bytes)) = some (some (.agg #[.int .i64 0, .int .i64 0, .string ⟨#[]⟩, .slice none 0 0, .int .i64 0, .int .i64 0]), 6, 72) := by kernel_rfl
/-- append of a part of a row of statements onto a row of the call's own. -/
theorem wp_appSt {w : World} {o : Oper} {a : Act} {K : Act → World → Prop} {Q : Exit → Act → World → Prop} (s x : Operand)
    (ho : o.op = .call { callee := .builtin .append, args := #[s, x], argTypes := #[23, 23] }) (B : Nat)
    (A : Option Addr) (cap n : Nat) (xs : List Value) (hs : a.eval s = .slice A n cap) (hown : w.ownsRow B 93 6 (.slice A n cap) n xs)
    (b off m mc : Nat) (hx : a.eval x = .slice (some ⟨b, off, none⟩) m mc) (hm0 : 0 < m) (ms : List (SI × Value)) (hm : ms.length = m) (hc : ∀ j v, (ms.flatMap stC)[j]? = some v → w.cell? ⟨b, off + j, none⟩ = some v) (hag : ∀ u ∈ ms.flatMap stC, u.oneCell' = true)
    (hbytes : n + m ≤ 100000) (hbase : B ≤ w.heap.size)
    (h : ∀ A' cap' w', w'.ownsRow B 93 6 (.slice A' (n + m) cap') (n + m) (xs ++ ms.flatMap stC) → w.grownBy w' (blk A) → K (a.put o.dst (.slice A' (n + m) cap')) w') :
    Oper.wp Tryz.prog o a w K Q := by
  obtain ⟨i0, hi0, hz0, hz1, hz2⟩ := info_parts st_info
  have hlen : (ms.flatMap stC).length = m * 6 := by
    rw [← hm]
    clear hm hc hag h hm0
    induction ms with
    | nil => rfl
    | cons y r ih => rw [List.flatMap_cons, List.length_append, ih, List.length_cons, Nat.succ_mul]; simp [stC]; omega
  obtain ⟨A', cap', w', hrun, h2, h3, h4⟩ := run_appO (P := Tryz.prog) w B 23 o.type 93 i0 _ 6 72 Tryz.underlying23 hi0 hz0 hz1 (by decide) hz2 rfl A cap n xs hown ⟨b, off, none⟩ m mc hm0 (ms.flatMap stC) hlen (fun j u hu => by
    have e' : (⟨b, off, none⟩ : Addr).add j = ⟨b, off + j, none⟩ := by unfold Addr.add; split <;> simp_all
    rw [e']
    exact hc j u hu) hag (by simp only [maxLen]; omega) (by omega) hbase
  unfold Oper.wp execOp
  simp only [ho, resolve, invoke, builtin, Sem.run_bind, Sem.run_pure, Result.andThen_ok, List.map_toArray, List.map_cons, List.map_nil, hs, hx, hrun]
  exact h A' cap' w' h2 h3
theorem appSt_step {w : World} {ops : Array Oper} {o : Oper} {a : Act} {K : Act → World → Prop} {Q : Exit → Act → World → Prop} {E : Prop} (hgd : o.guard = none) (s x : Operand)
    (ho : o.op = .call { callee := .builtin .append, args := #[s, x], argTypes := #[23, 23] }) (B : Nat)
    (A : Option Addr) (cap n : Nat) (xs : List Value) (hs : a.eval s = .slice A n cap) (hown : w.ownsRow B 93 6 (.slice A n cap) n xs)
    (b off m mc : Nat) (hx : a.eval x = .slice (some ⟨b, off, none⟩) m mc) (hm0 : 0 < m) (ms : List (SI × Value)) (hm : ms.length = m) (hc : ∀ j v, (ms.flatMap stC)[j]? = some v → w.cell? ⟨b, off + j, none⟩ = some v) (hag : ∀ u ∈ ms.flatMap stC, u.oneCell' = true)
    (hbytes : n + m ≤ 100000) (hbase : B ≤ w.heap.size)
    (h : ∀ A' cap' w', w'.ownsRow B 93 6 (.slice A' (n + m) cap') (n + m) (xs ++ ms.flatMap stC) → w.grownBy w' (blk A) → K (a.put o.dst (.slice A' (n + m) cap')) w') :
    if Region.wanted o (yielded ops a.tmps) = true then Oper.wp Tryz.prog o a w K Q else E := by
  have hwt : Region.wanted o (yielded ops a.tmps) = true := by simp [Region.wanted, hgd]
  rw [if_pos hwt]
  exact wp_appSt s x ho B A cap n xs hs hown b off m mc hx hm0 ms hm hc hag hbytes hbase h
/-- What parse.Text answers at a good text, with caps. -/
def TxtEc (s : ByteArray) (w : World) (e : Ending) (w' : World) : Prop :=
  Below w.heap.size w w' ∧ ∃ SA sc EA ec ns ne, e = .returned (.tuple #[.agg #[.slice SA ns sc, .slice EA ne ec], .nilIface]) ∧ ns = (ssE s).length ∧ ne = (esE s).length ∧ RdSI w' w'.heap.size SA (ssE s) ∧ RdEI w' w'.heap.size EA (esE s) ∧ ns ≤ sc ∧ sc ≤ 9223372036854775807
theorem txt_ec (s : ByteArray) (w : World) (hg : ETyped w) (ht : ErrT w) (hs : s.size ≤ 100000) (hl : scanM s = .toks (toksE (scanM s))) (hn : (toksE (scanM s)).length ≤ 160) (he : (parseP 2000 (toksE (scanM s))).err = none) : Calls Tryz.prog 16 #[.string s] w (TxtEc s w) := by
  refine (text_good s 2000 _ w hs hg ht (by omega) hl he).mono ?_
  rintro e w1 ⟨b1, SA, sc, EA, ec, rfl, oS, oE⟩
  have hcap : (parseP 2000 (toksE (scanM s))).ss.length ≤ sc ∧ sc ≤ 9223372036854775807 := by
    obtain ⟨ms, h1, h2, h3⟩ := oS
    rcases h2.2 with ⟨hv, hn⟩ | ⟨g, cap', cur, hv, hb, hg, h1, h2, _⟩
    · injection hv with a b c
      subst c
      exact ⟨by omega, by omega⟩
    · injection hv with a b c
      subst c
      simp only [maxLen] at h2
      exact ⟨h1, by omega⟩
  exact ⟨b1, SA, sc, EA, ec, _, _, rfl, by unfold ssE; rw [List.length_map], by unfold esE; rw [List.length_map], by unfold ssE; exact oS.int, by unfold esE; exact oE.int, hcap⟩
/-- A row of one tensor without sizes that was built cell by cell. -/
theorem rdtn_one0 {W : World} {bw bt m : Nat} {el : List UInt64} (hw : W.heap[bw]? = some (.cells (el.map U).toArray 39 (0, 0)))
    (ht : W.heap[bt]? = some (.cells #[.slice none 0 0, .slice (some ⟨bw, 0, none⟩) m m] 43 (0, 0))) (hm : m = el.length) (hm2 : m ≤ 1000000) : RdTN W W.heap.size (some ⟨bt, 0, none⟩) [⟨[], el⟩] := by
  refine .inr ⟨bt, 0, rfl, (Array.getElem?_eq_some_iff.1 ht).1, fun i x hx => ?_⟩
  have h0 : i = 0 := by
    have := (List.getElem?_eq_some_iff.1 hx).1
    simp at this
    exact this
  subst h0
  simp at hx
  subst hx
  refine ⟨⟨none, 0, cell_of_row _ _ 0 _ _ _ ht, .inl rfl, Nat.zero_le _, Nat.zero_le _, by decide⟩, _, m, by rw [← hm]; exact cell_of_row _ _ 1 _ _ _ ht, Rd.of_block hw (Array.getElem?_eq_some_iff.1 hw).1 (by simp), by dsimp only; omega, by dsimp only; omega, by omega⟩
end Go.Proofs.YtghlnncfigkkaaaGreatDoor
namespace Go.Proofs.YtghlnncfigkkaaaGreatDoor
set_option linter.unusedVariables false
set_option linter.unusedSimpArgs false
open Go.RowKit
theorem u64_addm1 (x : UInt64) : IntKind.u64.wrap ((x.toNat : Int) + 1) = ((addW x 1).toNat : Int) := u64_add x 1
theorem u64_beq63 (x : UInt64) : ((x.toNat : Int) == 9223372036854775808) = (x == 9223372036854775808) := u64_beq x 9223372036854775808
theorem st_size (W : World) : (Go.sizeOf 93).run Tryz.prog W = .ok 6 W := by kernel_rfl
attribute [local go_sem ↓] u64_wrap u64_addm1 u64_sub u64_mod2 u64_tmod2 u64_beq63 u64_beq0 u64_beq i64_u64 slt_eq
theorem cell_lt6 {w : World} {b k : Nat} {v : Value} (h : w.cell? ⟨b, k, none⟩ = some v) : b < w.heap.size := by
  rcases Nat.lt_or_ge b w.heap.size with h1 | h1
  · exact h1
  · exfalso
    unfold World.cell? at h
    rw [Array.getElem?_eq_none h1] at h
    cases h
theorem flat_take {ms : List (SI × Value)} {k j : Nat} {v : Value} (h : ((ms.take k).flatMap stC)[j]? = some v) : (ms.flatMap stC)[j]? = some v := by
  have e : ms.flatMap stC = (ms.take k).flatMap stC ++ (ms.drop k).flatMap stC := by rw [← List.flatMap_append, List.take_append_drop]
  rw [e, List.getElem?_append_left (List.getElem?_eq_some_iff.1 h).1]
  exact h
theorem flat_len (ms : List (SI × Value)) : (ms.flatMap stC).length = ms.length * 6 := by
  induction ms with
  | nil => rfl
  | cons y r ih => rw [List.flatMap_cons, List.length_append, ih, List.length_cons, Nat.succ_mul]; simp [stC]; omega
theorem flat_drop {ms : List (SI × Value)} {k j : Nat} {v : Value} (hk : k ≤ ms.length) (h : ((ms.drop k).flatMap stC)[j]? = some v) : (ms.flatMap stC)[k * 6 + j]? = some v := by
  have e : ms.flatMap stC = (ms.take k).flatMap stC ++ (ms.drop k).flatMap stC := by rw [← List.flatMap_append, List.take_append_drop]
  have hl : ((ms.take k).flatMap stC).length = k * 6 := by rw [flat_len, List.length_take, Nat.min_eq_left hk]
  rw [e, List.getElem?_append_right (by omega), hl, Nat.add_sub_cancel_left]
  exact h
theorem made6 (w : World) : (w.alloc (.cells #[] 93)).ownsRow w.heap.size 93 6 (.slice (some ⟨w.heap.size, 0, none⟩) 0 0) 0 [] :=
  ⟨rfl, .inr ⟨w.heap.size, 0, #[], rfl, Nat.le_refl _, heap_alloc_new w _, Nat.le_refl _, by simp [maxLen], rfl, rfl⟩⟩
/-- Behind the statement that takes one statement out. -/
def MeanCut (w6 : World) (tb : Nat) (ms : List (SI × Value)) (wx : World) : Prop := ∃ A8 k8 w8, wx = w8.setCell ⟨tb, 0, none⟩ (.slice A8 12 k8) ∧ Below w6.heap.size w6 w8 ∧ w8.ownsRow w6.heap.size 93 6 (.slice A8 12 k8) 12 (([] ++ (ms.take 7).flatMap stC) ++ (ms.drop 8).flatMap stC)
theorem meanT_shp0 : (ssE meanT).all (fun s => s.shape.isEmpty) = true := by kernel_rfl
theorem meanT_shape : ∀ s ∈ ssE meanT, s.shape = [] := fun s hs => List.isEmpty_iff.1 (List.all_eq_true.1 meanT_shp0 s hs)
/-- The one word of an answered tensor. -/
theorem out_word {w : World} {base n c : Nat} {A : Option Addr} {l : List TN} (h : OutT w base A n c l) {j : Nat} {z : UInt64} (hj : l[j]? = some ⟨[], [z]⟩) : ∃ g b c2, A = some ⟨g, 0, none⟩ ∧ w.cell? ⟨g, j * 2 + 1, none⟩ = some (.slice (some ⟨b, 0, none⟩) 1 c2) ∧ w.cell? ⟨b, 0, none⟩ = some (.int .u64 (z.toNat : Int)) := by
  obtain ⟨g, A1, c1, A2, c2, hA, _, _, u1, _, o2⟩ := h.at_ hj
  obtain ⟨b, rfl, _, _⟩ := o2.some_ (by simp)
  exact ⟨g, b, c2, hA, u1, o2.cellAt (i := 0) rfl⟩
/-- Where a cut's cells lie. -/
theorem cutA_some {b o k size c : Nat} (h : c ≠ k) : cutA (some ⟨b, o, none⟩) k size c = some ⟨b, o + k * size, none⟩ := by
  unfold cutA
  rw [if_neg h]
  simp [Addr.add]
set_option maxRecDepth 100000 in
set_option maxHeartbeats 4000000 in
theorem EvalMeans_walk (w : World) (hg : ETyped w) (ht : ErrT w) (x y : UInt64) :
    Calls Tryz.prog 4 #[U x, U y] w fun e w' => e = .returned (.bool true) ∧ Below w.heap.size w w' := by
  have HG := Lib.hid hg
  have HT := Lib.hid ht
  have HAW := Lib.hid (eawake_true w hg ht)
  clear hg ht
  go_enter Tryz.func4, Tryz.ntmps4
  go_wp2_with fail
  refine HAW.out.mono ?_
  rintro e w0 ⟨rfl, c0⟩
  have C0 := Lib.hid c0
  clear c0
  go_wp2_with fail
  refine (txt_ec meanT w0 (HG.out.next C0.out) (HT.out.next C0.out) (by decide) meanT_scan meanT_len meanT_err).mono ?_
  rintro e w1 ⟨b1, SA, sc, EA, ec, ns, ne, rfl, hns, hne, hS, hE, hcap, hcm⟩
  rw [meanT_ss] at hns
  rw [meanT_es] at hne
  subst hns hne
  have C1 := Lib.hid (bnext C0.out b1)
  have HS1 := Lib.hid hS
  have HE1 := Lib.hid hE
  clear b1 hS hE
  go_upto_region 7 with fail
  obtain ⟨w5, hw5⟩ : ∃ w5, w5 = (((((w1.alloc (.cells #[.slice SA 13 sc, .slice EA 42 ec] 26)).alloc (.cells #[U x] 39)).alloc (.cells #[.slice none 0 0, .slice (some ⟨w1.heap.size + 1, 0, none⟩) 1 1] 43)).alloc (.cells #[U y] 39)).alloc (.cells #[.slice none 0 0, .slice (some ⟨w1.heap.size + 1 + 1 + 1, 0, none⟩) 1 1] 43)).alloc (.cells #[.slice (some ⟨w1.heap.size + 1 + 1, 0, none⟩) 1 1, .slice (some ⟨w1.heap.size + 1 + 1 + 1 + 1, 0, none⟩) 1 1] 45) := ⟨_, rfl⟩
  rw [← hw5]
  obtain ⟨L5, hL5⟩ : ∃ L5 : List Obj, L5 = [.cells #[.slice SA 13 sc, .slice EA 42 ec] 26, .cells #[U x] 39, .cells #[.slice none 0 0, .slice (some ⟨w1.heap.size + 1, 0, none⟩) 1 1] 43, .cells #[U y] 39, .cells #[.slice none 0 0, .slice (some ⟨w1.heap.size + 1 + 1 + 1, 0, none⟩) 1 1] 43, .cells #[.slice (some ⟨w1.heap.size + 1 + 1, 0, none⟩) 1 1, .slice (some ⟨w1.heap.size + 1 + 1 + 1 + 1, 0, none⟩) 1 1] 45] := ⟨_, rfl⟩
  have hw5' : w5 = allocs w1 L5 := by rw [hw5, hL5]; rfl
  have hb5 : Below w1.heap.size w1 w5 := by rw [hw5']; exact allocs_below _ _
  have h0 : w5.heap[w1.heap.size]? = some (.cells #[.slice SA 13 sc, .slice EA 42 ec] 26 (0, 0)) := by rw [hw5']; exact allocs_at _ _ 0 _ (by rw [hL5]; rfl)
  have h1 : w5.heap[w1.heap.size + 1]? = some (.cells #[U x] 39 (0, 0)) := by rw [hw5']; exact allocs_at _ _ 1 _ (by rw [hL5]; rfl)
  have h2 : w5.heap[w1.heap.size + 1 + 1]? = some (.cells #[.slice none 0 0, .slice (some ⟨w1.heap.size + 1, 0, none⟩) 1 1] 43 (0, 0)) := by rw [hw5']; exact allocs_at _ _ 2 _ (by rw [hL5]; rfl)
  have h3 : w5.heap[w1.heap.size + 1 + 1 + 1]? = some (.cells #[U y] 39 (0, 0)) := by rw [hw5']; exact allocs_at _ _ 3 _ (by rw [hL5]; rfl)
  have h4 : w5.heap[w1.heap.size + 1 + 1 + 1 + 1]? = some (.cells #[.slice none 0 0, .slice (some ⟨w1.heap.size + 1 + 1 + 1, 0, none⟩) 1 1] 43 (0, 0)) := by rw [hw5']; exact allocs_at _ _ 4 _ (by rw [hL5]; rfl)
  have h5 : w5.heap[w1.heap.size + 1 + 1 + 1 + 1 + 1]? = some (.cells #[.slice (some ⟨w1.heap.size + 1 + 1, 0, none⟩) 1 1, .slice (some ⟨w1.heap.size + 1 + 1 + 1 + 1, 0, none⟩) 1 1] 45 (0, 0)) := by rw [hw5']; exact allocs_at _ _ 5 _ (by rw [hL5]; rfl)
  have r0 : RdTN w5 w5.heap.size (some ⟨w1.heap.size + 1 + 1, 0, none⟩) [⟨[], [x]⟩] := rdtn_one0 (el := [x]) h1 h2 rfl (by decide)
  have r1 : RdTN w5 w5.heap.size (some ⟨w1.heap.size + 1 + 1 + 1 + 1, 0, none⟩) [⟨[], [y]⟩] := rdtn_one0 (el := [y]) h3 h4 rfl (by decide)
  obtain ⟨tb, htb⟩ : ∃ tb, tb = w1.heap.size := ⟨_, rfl⟩
  obtain ⟨ib, hib⟩ : ∃ ib, ib = w1.heap.size + 1 + 1 + 1 + 1 + 1 := ⟨_, rfl⟩
  obtain ⟨q0, hq0⟩ : ∃ q0, q0 = w1.heap.size + 1 + 1 := ⟨_, rfl⟩
  obtain ⟨q1, hq1⟩ : ∃ q1, q1 = w1.heap.size + 1 + 1 + 1 + 1 := ⟨_, rfl⟩
  rw [← hib, ← hq1, ← hq0] at h5
  rw [← htb] at h0
  rw [← hq0] at r0
  rw [← hq1] at r1
  rw [← hib, ← htb]
  have HNE := Lib.hid (show tb ≠ ib by omega)
  have C5 := Lib.hid (bnext C1.out hb5)
  have HS5 := Lib.hid (HS1.out.next hb5)
  have HE5 := Lib.hid (HE1.out.next hb5)
  have R0 := Lib.hid r0
  have R1 := Lib.hid r1
  have HT5 := Lib.hid h0
  have HI5 := Lib.hid h5
  obtain ⟨pz, hpz⟩ : ∃ p, evalE (ssE meanT) (esE meanT) [⟨[], [x]⟩] [⟨[], [y]⟩] = .inr (141, p, false) := by
    have h := meanT_ev0 x y
    cases he : evalE (ssE meanT) (esE meanT) [⟨[], [x]⟩] [⟨[], [y]⟩] with
    | inl o => rw [he] at h; cases h
    | inr r =>
      obtain ⟨cz, pz, bz⟩ := r
      rw [he] at h
      injection h with h6 h7
      exact ⟨pz, by rw [beq_iff_eq.1 h6, h7]⟩
  have HEV0 := Lib.hid (eeval_any SA EA 13 42 sc ec (ssE meanT) (esE meanT) (some ⟨q0, 0, none⟩) (some ⟨q1, 0, none⟩) 1 1 1 1 [⟨[], [x]⟩] [⟨[], [y]⟩] w5 meanT_ss.symm meanT_es.symm (by omega) (by omega) HS5.out HE5.out (HG.out.next C5.out) meanT_num' meanT_shp' rfl rfl (by decide) (by decide) r0 r1)
  rw [hpz] at HEV0
  have x0 := cell_of_row _ _ 0 _ _ _ h0
  have x1 := cell_of_row _ _ 1 _ _ _ h0
  have y0 := cell_of_row _ _ 0 _ _ _ h5
  have y1 := cell_of_row _ _ 1 _ _ _ h5
  have HB15 := Lib.hid hb5
  have H1 := Lib.hid h1
  have H2 := Lib.hid h2
  have H3 := Lib.hid h3
  have H4 := Lib.hid h4
  have HTB := Lib.hid htb
  have HQ0 := Lib.hid hq0
  have HQ1 := Lib.hid hq1
  clear hw5 hw5' hL5 hb5 h0 h1 h2 h3 h4 h5 r0 r1 htb hib hq0 hq1 hpz
  go_wp2_with fail
  refine HEV0.out.mono ?_
  rintro e w6 ⟨b6, ve, rfl, hve⟩
  obtain ⟨ti, xi, rfl⟩ := hve.iface
  have B6 := Lib.hid b6
  have HIS := Lib.hid (Is_any [(chkN, pz)] 141 141 (.iface ti xi) w6 hve)
  obtain ⟨bS, oS, ms, rfl, hbS, hms1, hms2, hms3⟩ : ∃ (b o : Nat) (ms : List (SI × Value)), SA = some ⟨b, o, none⟩ ∧ b < w6.heap.size ∧ ms.map Prod.fst = ssE meanT ∧ (∀ j v, (ms.flatMap stC)[j]? = some v → w6.cell? ⟨b, o + j, none⟩ = some v) ∧ ∀ m ∈ ms, ArgR w6 w6.heap.size m := by
    rcases HS5.out.next b6 with h | ⟨b, o, hA, hb, hc⟩
    · have := meanT_ss; rw [h] at this; cases this
    · obtain ⟨ms, m1, m2, m3⟩ := sis_of (ssE meanT) o hc
      exact ⟨b, o, ms, hA, hb, m1, m2, m3⟩
  have x0 := cell_of_row _ _ 0 _ _ _ ((b6.block _ (Array.getElem?_eq_some_iff.1 HT5.out).1).trans HT5.out)
  have fz : w6.frozen? ⟨tb, 0, none⟩ = false := by simp [World.frozen?, (b6.block _ (Array.getElem?_eq_some_iff.1 HT5.out).1).trans HT5.out]
  have f1 : ∀ W, (Instr.sliceAt 23 (.slice (some ⟨bS, oS, none⟩) 13 sc) none (some (.int .i64 7)) none).run Tryz.prog W = .ok (.slice (some ⟨bS, oS, none⟩) 7 sc) W := fun W => by
    have := run_cutAt_to (P := Tryz.prog) Tryz.underlying23 st_size (some ⟨bS, oS, none⟩) (n := 13) (c := sc) (h := 7) (by omega) W
    rwa [cutA_zero _ _ _ (.inr ⟨bS, oS, rfl⟩)] at this
  have f2 : ∀ W, (Instr.sliceAt 23 (.slice (some ⟨bS, oS, none⟩) 13 sc) (some (.int .i64 8)) none none).run Tryz.prog W = .ok (.slice (some ⟨bS, oS + 48, none⟩) 5 (sc - 8)) W := fun W => by
    have := run_cutAt_from (P := Tryz.prog) Tryz.underlying23 st_size (some ⟨bS, oS, none⟩) (n := 13) (c := sc) (k := 8) (by omega) W
    rwa [cutA_some (by omega)] at this
  clear b6 hve x1 y0 y1
  go_wp2_with (go_at_call 24; refine HIS.out.mono ?_; rintro e w' ⟨rfl, rfl⟩)
  have hml : ms.length = 13 := by have := congrArg List.length hms1; rw [List.length_map, meanT_ss] at this; exact this
  have HC7 := Lib.hid (show ∀ W, Below w6.heap.size w6 W → ∀ j v, ((ms.take 7).flatMap stC)[j]? = some v → W.cell? ⟨bS, oS + j, none⟩ = some v from fun W hW j v hv => (hW.cell (p := ⟨bS, oS + j, none⟩) hbS).trans (hms2 j v (flat_take hv)))
  have HC5 := Lib.hid (show ∀ W, Below w6.heap.size w6 W → ∀ j v, ((ms.drop 8).flatMap stC)[j]? = some v → W.cell? ⟨bS, oS + 48 + j, none⟩ = some v from fun W hW j v hv => (hW.cell (p := ⟨bS, oS + 48 + j, none⟩) hbS).trans (by
    rw [Nat.add_assoc]
    exact hms2 (48 + j) v (flat_drop (k := 8) (by omega) hv)))
  have HA7 := Lib.hid (stC_one (ms := ms.take 7) (fun m hm => hms3 m (List.mem_of_mem_take hm)))
  have HA5 := Lib.hid (stC_one (ms := ms.drop 8) (fun m hm => hms3 m (List.mem_of_mem_drop hm)))
  have HL7 := Lib.hid (show (ms.take 7).length = 7 by rw [List.length_take, hml]; rfl)
  have HL5 := Lib.hid (show (ms.drop 8).length = 5 by rw [List.length_drop, hml])
  have HM1 := Lib.hid hms1
  have HM3 := Lib.hid hms3
  have HTL := Lib.hid (show tb < w6.heap.size from cell_lt6 x0)
  have HX0 := Lib.hid (show w6.cell? ⟨tb, 0, none⟩ = some (.slice (some ⟨bS, oS, none⟩) 13 sc) from x0)
  have HBD := Lib.hid (show Below w6.heap.size w6 (w6.alloc (.cells #[] 93)).drew from ((Below.refl _ _).alloc (Nat.le_refl _) _).drew)
  have HKC := Lib.hid (show ∀ W, Below w6.heap.size w6 W → W.cell? ⟨tb, 0, none⟩ = some (.slice (some ⟨bS, oS, none⟩) 13 sc) ∧ W.frozen? ⟨tb, 0, none⟩ = false from fun W hW => ⟨(hW.cell (p := ⟨tb, 0, none⟩) (cell_lt6 x0)).trans x0, by rw [← fz]; unfold World.frozen?; rw [hW.block tb (cell_lt6 x0)]⟩)
  have xa : (w6.alloc (.cells #[] 93)).drew.cell? ⟨tb, 0, none⟩ = some (.slice (some ⟨bS, oS, none⟩) 13 sc) := (HKC.out _ HBD.out).1
  have xd : w6.drew.cell? ⟨tb, 0, none⟩ = some (.slice (some ⟨bS, oS, none⟩) 13 sc) := x0
  clear hms1 hms2 hms3 hbS hml
  go_cut [47] (fun s wx => MeanCut w6 tb ms wx)
  case first =>
    go_region_law (first
      | (refine appSt_step rfl (.tmp 39) (.tmp 42) rfl w6.heap.size (some ⟨w6.heap.size, 0, none⟩) 0 0 [] rfl (show (w6.alloc (.cells #[] 93)).drew.ownsRow w6.heap.size 93 6 (.slice (some ⟨w6.heap.size, 0, none⟩) 0 0) 0 [] from made6 w6) bS oS 7 sc rfl (by decide) (ms.take 7) HL7.out (HC7.out _ HBD.out) HA7.out (by decide) HBD.out.size ?_; intro A3 k3 w7 o7 g7; have hb7 : Below w6.heap.size w6 w7 := HBD.out.grown g7 HBD.out.size (fun k hk => by cases hk; exact Nat.le_refl _); have x7 := (HKC.out _ hb7).1; have f7 := (HKC.out _ hb7).2)
      | (refine appSt_step rfl (.tmp 43) (.tmp 46) rfl w6.heap.size A3 k3 7 ([] ++ (ms.take 7).flatMap stC) rfl o7 bS (oS + 48) 5 (sc - 8) rfl (by decide) (ms.drop 8) HL5.out (HC5.out _ hb7) HA5.out (by decide) hb7.size ?_; intro A8 k8 w8 o8 g8; have hb8 : Below w6.heap.size w6 w8 := hb7.grown g8 hb7.size (fun k hk => (trow_lt o7 k hk).1); have x8 := (HKC.out _ hb8).1; have f8 := (HKC.out _ hb8).2))
    all_goals
      go_wp2_with fail
      go_meet
      exact ⟨A8, k8, w8, rfl, hb8, o8⟩
  case rest =>
    obtain ⟨A8, k8, w8, hwc, hb8, o8⟩ := hcut
    obtain ⟨W8, hW8⟩ : ∃ W8, W8 = wc := ⟨_, rfl⟩
    rw [← hW8] at hwc ⊢
    have hne : ∀ k, k ≠ tb → W8.heap[k]? = w8.heap[k]? := fun k hk => by rw [hwc]; exact eset_ne _ _ _ hk
    have b58 : Below w5.heap.size w5 w8 := bnext B6.out hb8
    have b18 : Below w1.heap.size w1 w8 := bnext HB15.out b58
    have B18 := Lib.hid (show Below w1.heap.size w1 W8 from by rw [hwc]; exact setCell_below b18 (by rw [← HTB.out]; exact Nat.le_refl _) _)
    have C8 := Lib.hid (bnext C1.out B18.out)
    have hT8 : w8.heap[tb]? = some (.cells #[.slice (some ⟨bS, oS, none⟩) 13 sc, .slice EA 42 ec] 26 (0, 0)) := (b58.block _ (Array.getElem?_eq_some_iff.1 HT5.out).1).trans HT5.out
    have hT9 : W8.heap[tb]? = some (.cells #[.slice A8 12 k8, .slice EA 42 ec] 26 (0, 0)) := by rw [hwc]; simp [World.setCell, Array.getElem?_modify, hT8]
    have hI9 : W8.heap[ib]? = some (.cells #[.slice (some ⟨q0, 0, none⟩) 1 1, .slice (some ⟨q1, 0, none⟩) 1 1] 45 (0, 0)) := (hne ib (fun e => HNE.out e.symm)).trans ((b58.block _ (Array.getElem?_eq_some_iff.1 HI5.out).1).trans HI5.out)
    have up : ∀ k o, k ≠ tb → w5.heap[k]? = some o → W8.heap[k]? = some o := fun k o hk h => (hne k hk).trans ((b58.block _ (Array.getElem?_eq_some_iff.1 h).1).trans h)
    have r0 : RdTN W8 W8.heap.size (some ⟨q0, 0, none⟩) [⟨[], [x]⟩] := by
      rw [HQ0.out]
      exact rdtn_one0 (el := [x]) (up _ _ (by rw [HTB.out]; omega) H1.out) (up _ _ (by rw [HTB.out]; omega) H2.out) rfl (by decide)
    have r1 : RdTN W8 W8.heap.size (some ⟨q1, 0, none⟩) [⟨[], [y]⟩] := by
      rw [HQ1.out]
      exact rdtn_one0 (el := [y]) (up _ _ (by rw [HTB.out]; omega) H3.out) (up _ _ (by rw [HTB.out]; omega) H4.out) rfl (by decide)
    have hSS : RdSI W8 W8.heap.size A8 meanSS := by
      obtain ⟨g8, rfl, hg8, hg9, hc8⟩ := trow_cell o8 (by decide)
      have h := rdsi_of (w := W8) (B := W8.heap.size) (b := g8) (o := 0) (ms := ms.take 7 ++ ms.drop 8) (fun j v hv => by
        rw [List.flatMap_append] at hv
        rw [Nat.zero_add]
        have h1 := hc8 j v (by simpa using hv)
        rw [← h1]
        unfold World.cell?
        rw [hne g8 (by have := HTL.out; omega)]) (fun m hm => by
        have hm2 : m ∈ ms := by
          rcases List.mem_append.1 hm with h | h
          · exact List.mem_of_mem_take h
          · exact List.mem_of_mem_drop h
        obtain ⟨A, c, e1, e2, e3⟩ := HM3.out m hm2
        have hs0 : m.1.shape = [] := meanT_shape _ (by rw [← HM1.out]; exact List.mem_map.2 ⟨m, hm2, rfl⟩)
        exact ⟨A, c, e1, by rw [hs0]; exact .inl rfl, e3⟩) (by rw [hwc]; simp [World.setCell]; exact hg8)
      rw [List.map_append, List.map_take, List.map_drop, HM1.out] at h
      unfold meanSS
      exact h
    have HEV := Lib.hid (eeval_any A8 EA 12 42 k8 ec meanSS (esE meanT) (some ⟨q0, 0, none⟩) (some ⟨q1, 0, none⟩) 1 1 1 1 [⟨[], [x]⟩] [⟨[], [y]⟩] W8 meanSS_len.symm meanT_es.symm (by omega) (by omega) hSS (HE1.out.next B18.out) (HG.out.next C8.out) meanT_num' meanSS_shp rfl rfl (by decide) (by decide) r0 r1)
    rw [meanT_ev] at HEV
    have x0 := cell_of_row _ _ 0 _ _ _ hT9
    have x1 := cell_of_row _ _ 1 _ _ _ hT9
    have y0 := cell_of_row _ _ 0 _ _ _ hI9
    have y1 := cell_of_row _ _ 1 _ _ _ hI9
    clear hwc hW8 hne b58 b18 hT8 hT9 hI9 up r0 r1 hSS hb8 o8
    go_wp2_with fail
    refine HEV.out.mono ?_
    rintro e w9 ⟨b9, A9, c9, rfl, o9⟩
    have C9 := Lib.hid (bnext C8.out b9)
    obtain ⟨ma, hma⟩ : ∃ z, z = meA x y := ⟨_, rfl⟩
    obtain ⟨mb, hmb⟩ : ∃ z, z = meB x y := ⟨_, rfl⟩
    obtain ⟨mc, hmc⟩ : ∃ z, z = meC x y := ⟨_, rfl⟩
    obtain ⟨md, hmd⟩ : ∃ z, z = meD x y := ⟨_, rfl⟩
    obtain ⟨mf, hmf⟩ : ∃ z, z = meF x y := ⟨_, rfl⟩
    rw [← hma, ← hmb, ← hmc, ← hmd, ← hmf] at o9
    obtain ⟨g, z0, d0, rfl, u0, v0⟩ := out_word o9 (j := 0) rfl
    obtain ⟨g', z1, d1, hge, u1, v1⟩ := out_word o9 (j := 1) rfl
    injection hge with hge; injection hge with hge _ _; subst hge
    obtain ⟨g', z2, d2, hge, u2, v2⟩ := out_word o9 (j := 2) rfl
    injection hge with hge; injection hge with hge _ _; subst hge
    obtain ⟨g', z3, d3, hge, u3, v3⟩ := out_word o9 (j := 3) rfl
    injection hge with hge; injection hge with hge _ _; subst hge
    obtain ⟨g', z4, d4, hge, u4, v4⟩ := out_word o9 (j := 4) rfl
    injection hge with hge; injection hge with hge _ _; subst hge
    have hF : (mf == 0) = true := by rw [hmf, meF_is]; rfl
    have hD : (subW x md == andW x 1) = true := by rw [hmd, meD_is]; simp
    have hCx : (mc == x) = true ∨ ((mc == x) = false ∧ (x == 9223372036854775808) = true) := by
      rcases meC_is x y with h | h
      · left; rw [hmc, h]; simp
      · by_cases h2 : mc = x
        · left; simpa using h2
        · right; exact ⟨by simpa using h2, by simpa using h⟩
    clear x0 x1 y0 y1 b9 o9 hmc hmd hmf
    rcases hCx with hC | ⟨hC, hC2⟩
    · cases hs : sltW x y with
      | true =>
        have hA : (ma == addW y 1) = true := by rw [hma, meA_t hs]; simp
        have hB : (mb == x) = true := by rw [hmb, meB_t hs]; simp
        have hs0 : decide (sI x < sI y) = true := (slt_eq _ _).trans hs
        clear hma hmb
        go_wp2
        go_ret
        exact ⟨rfl, C9.out⟩
      | false =>
        have hA : (ma == x) = true := by rw [hma, meA_f hs]; simp
        have hB : (mb == y) = true := by rw [hmb, meB_f hs]; simp
        have hs0 : decide (sI x < sI y) = false := (slt_eq _ _).trans hs
        clear hma hmb
        go_wp2
        go_ret
        exact ⟨rfl, C9.out⟩
    · cases hs : sltW x y with
      | true =>
        have hA : (ma == addW y 1) = true := by rw [hma, meA_t hs]; simp
        have hB : (mb == x) = true := by rw [hmb, meB_t hs]; simp
        have hs0 : decide (sI x < sI y) = true := (slt_eq _ _).trans hs
        clear hma hmb
        go_wp2
        go_ret
        exact ⟨rfl, C9.out⟩
      | false =>
        have hA : (ma == x) = true := by rw [hma, meA_f hs]; simp
        have hB : (mb == y) = true := by rw [hmb, meB_f hs]; simp
        have hs0 : decide (sI x < sI y) = false := (slt_eq _ _).trans hs
        clear hma hmb
        go_wp2
        go_ret
        exact ⟨rfl, C9.out⟩
end Go.Proofs.YtghlnncfigkkaaaGreatDoor
namespace Go.Proofs.YtghlnncfigkkaaaGreatDoor.lawEvalMeans
open Go Go.ChangeShapes Go.WideShapes Go.ChangeAt Go.RowKit
set_option linter.unusedVariables false
set_option maxRecDepth 100000 in
theorem lifted (os : Os) (started : os.Started) (H : Type) (enc : TypeId × Value → H) :
    ReturnsInHanded {} Tryz.checked os 4 .any (fun w args => (Rows.evalMeansSpec.pre enc Tryz.prog Tryz.f4 [] false w args ∧ LaidW w) ∧ sizedMet enc Tryz.prog Tryz.f4 (OpenSpec.ofChange Rows.evalMeansSpec) false w args)
      (Rows.evalMeansSpec.post enc Tryz.prog Tryz.f4 false true false false) := by
  refine returnsInHanded_of_change_and (C := Tryz.checked) (X := fun w _ => LaidW w) (fun _ _ _ hh h => h.of_heap hh) dOwn started (by kernel_rfl) Tryz.func4
    (ChangeSpec.witness_shaped (enc := enc) (C := Tryz.checked) (os := os) (X := fun w _ => LaidW w) false (dWorld os) #[.int .u64 0, .int .u64 0] 8 rfl (World.shaped_of_RefB (by kernel_rfl) (by kernel_rfl)) (by kernel_rfl) (by kernel_rfl) (by kernel_rfl) (dWorld_met os _)) ?_
  intro W base args ds gs before hval0 hW _ hsz0 hL _
  have hval : ∀ (j : Nat) t v, Tryz.f4.params[j]? = some t → args[j]? = some v → Value.okWide Tryz.prog W .any base t v := hval0
  have hW' := hW
  have hg := etyped_of_laid hL
  have ht := errt_of_laid hL
  obtain ⟨p, q, hA0, hV, rfl, hfz, hnd⟩ := hW
  have hA : DataW.TrodAll enc Tryz.prog W 0 (fun _ => true) true Tryz.f4.params.toList args.toList ds p := hA0
  have hsz : (DataW.weightsEach Tryz.prog (Tryz.f4.params.toList ++ Rows.evalMeansSpec.plain.varTypes Tryz.prog) (ds ++ gs)).all (· ≤ reachBytes) = true := hsz0
  rw [Tryz.params4] at hA hval hsz
  obtain ⟨v0, vs0, d0, ds0, p0, q0, hargs, rfl, rfl, h0, r0⟩ := trodAll_cons hA
  obtain ⟨v1, vs1, d1, ds1, p1, q1, rfl, rfl, rfl, h1, r1⟩ := trodAll_cons r0
  obtain ⟨rfl, rfl, rfl⟩ := trodAll_nil r1
  obtain rfl : args = #[v0, v1] := by cases args; simp_all
  obtain ⟨rfl, rfl⟩ : gs = [] ∧ q = [] := trodVars_none hV
  have k0 := h0
  have lt0 : ∀ x ∈ p0, x.block < W.heap.size := by obtain ⟨m, hm⟩ := k0; exact DataW.trod_lt m _ _ _ hm
  obtain ⟨a0, rfl⟩ := open_word Tryz.underlying39 (hval 0 39 v0 rfl rfl) h0
  have k1 := h1
  have lt1 : ∀ x ∈ p1, x.block < W.heap.size := by obtain ⟨m, hm⟩ := k1; exact DataW.trod_lt m _ _ _ hm
  obtain ⟨a1, rfl⟩ := open_word Tryz.underlying39 (hval 1 39 v1 rfl rfl) h1
  clear hA0 hval0 hsz0 hsz
  refine (EvalMeans_walk W hg ht a0 a1).mono fun e W' ⟨he, bel⟩ => ?_
  subst he
  exact ⟨_, rfl, _, _, _, [], _, [], hW', trodAll_mk1 (shut_bool Tryz.underlying4 _), (trodAll_cons_mk (Below.trod dLaidOut (by kernel_rfl) (of_decide_eq_true (by kernel_rfl)) k0 bel lt0) (trodAll_cons_mk (Below.trod dLaidOut (by kernel_rfl) (of_decide_eq_true (by kernel_rfl)) k1 bel lt1) trodAll_mk0)), rfl, bel.frame _, fun h => by cases h⟩
theorem over : Rows.EvalMeansSaid :=
  OpenClaim.holds_of_wide 4 Tryz.f4 rfl rfl rfl rfl rfl rfl rfl ⟨rfl, rfl, rfl, rfl, rfl⟩ rfl rfl rfl rfl rfl (by kernel_rfl) Tryz.func4 (by kernel_rfl)
    (of_decide_eq_true (by kernel_rfl)) (by unfold Func.isWrapper; first | (rw [if_pos (by decide +kernel)]; kernel_rfl) | (rw [if_neg (by decide +kernel)]; exact ⟨rfl, rfl⟩))
    (fun os started H enc _ => lifted os started H enc)
theorem proved : Rows.EvalMeansCardSaid :=
  Claim7.holds_tied_plain_at .later [] [.data, .data, .data, .handle, .sentinel, .sentinel] true Rows.evalMeansCard.stood.harness true
    over (fun _ h => by cases h) (by kernel_rfl) (fun _ h => by cases h) evalMeans_row_tie rfl ⟨rfl, rfl⟩ (by kernel_rfl) rfl
    (fun f fn hf hfn => by
      obtain rfl : f = 4 := Option.some.inj ((show Tryz.prog.funcNamed "twain/twainlaw15.EvalMeans" = some 4 by kernel_rfl).symm.trans hf) |>.symm
      obtain rfl : fn = Tryz.f4 := (Option.some.inj (Tryz.func4.symm.trans hfn)).symm
      exact ⟨by kernel_rfl, fun j t ht => by
        rw [Tryz.params4] at ht
        have hm : t ∈ [39, 39] := List.mem_of_getElem? (by simpa using ht)
        have hall : ∀ t ∈ [39, 39], Tryz.prog.wantsStandIn t = false := by
          intro t ht
          simp only [List.mem_cons, List.not_mem_nil, or_false] at ht
          rcases ht with rfl | rfl <;> kernel_rfl
        exact hall t hm⟩)
    (by kernel_rfl)
end Go.Proofs.YtghlnncfigkkaaaGreatDoor.lawEvalMeans
