/-
  Rows of shapes as they are read. Rows of integers whose contents may turn: stores and appends leave what lies in blocks of the call's own readable.
-/
import Derived.Test.YtghlnncfigkkaaaGreatDoorQChkB
import Derived.Test.YtghlnncfigkkaaaGreatDoorQChkV
namespace Go.Proofs.YtghlnncfigkkaaaGreatDoor
set_option linter.unusedVariables false
set_option linter.unusedSimpArgs false
open Go.RowKit
/-- A row of shapes as it is read. -/
def RdSh (w : World) (A : Option Addr) (xs : List (List Int)) : Prop := xs = [] ∨ ∃ b o, A = some ⟨b, o, none⟩ ∧ b < w.heap.size ∧ ∀ (j : Nat) (l : List Int), xs[j]? = some l → ∃ A' c, w.cell? ⟨b, o + j, none⟩ = some (.slice A' l.length c) ∧ Rd w w.heap.size A' (l.map VI) ∧ l.length ≤ 1000000
theorem RdSh.next {w w' : World} {A : Option Addr} {xs : List (List Int)} (h : RdSh w A xs) (hb : Below w.heap.size w w') : RdSh w' A xs := by
  rcases h with h | ⟨b, o, hA, hlt, hc⟩
  · exact .inl h
  · refine .inr ⟨b, o, hA, Nat.lt_of_lt_of_le hlt hb.size, fun j l hj => ?_⟩
    obtain ⟨A', c, h1, h2, h3⟩ := hc j l hj
    exact ⟨A', c, (hb.cell (p := ⟨b, o + j, none⟩) hlt).trans h1, h2.next hb, h3⟩
end Go.Proofs.YtghlnncfigkkaaaGreatDoor
namespace Go.Proofs.YtghlnncfigkkaaaGreatDoor
set_option linter.unusedVariables false
set_option linter.unusedSimpArgs false
open Go.RowKit
theorem own_block {w : World} {base c : Nat} {e : TypeId} {A : Option Addr} {xs : List Value} (h : Own w base e A c xs) {g : Nat} (hg : blk A = some g) : ∃ cur, w.heap[g]? = some (.cells cur e (0, 0)) := by
  rcases h.2 with ⟨hv, _⟩ | ⟨g', cap', cur, hv, hb, hh, _⟩
  · injection hv with a
    rw [a] at hg
    cases hg
  · injection hv with a
    rw [a] at hg
    have : g' = g := by simpa [blk] using hg
    subst this
    exact ⟨cur, hh⟩
theorem iset_ne (w : World) (q k : Nat) (v : Value) {g : Nat} (h : g ≠ q) : (w.setCell ⟨q, k, none⟩ v).heap[g]? = w.heap[g]? := by
  unfold World.setCell
  simp only [Array.getElem?_modify]
  rw [if_neg (fun e => h e.symm)]
/-- append of one integer: in place, or into a new block, all else as it was. -/
theorem run_app2 {w : World} (base : Nat) (ty : TypeId) (A : Option Addr) (cap : Nat) (xs : List Value) (n : Nat) (hn : xs.length = n) (hown : Own w base 3 A cap xs)
    (b : Nat) (x : Int) (hb : w.heap[b]? = some (.cells #[.int .i64 x] 3 (0, 0))) (hbytes : n ≤ 1000000) (hbase : base ≤ w.heap.size) :
    ∃ A' cap' w', (Builtin.append_ #[41, 41] ty #[.slice A n cap, .slice (some ⟨b, 0, none⟩) 1 1]).run Tryz.prog w = .ok (.slice A' (n + 1) cap') w' ∧ Own w' base 3 A' cap' (xs ++ [.int .i64 x]) ∧ w.heap.size ≤ w'.heap.size ∧
      ((A' = A ∧ cap' = cap ∧ w.grownBy w' (blk A)) ∨ (A' = some ⟨w.heap.size, 0, none⟩ ∧ w.grownBy w' none)) := by
  obtain ⟨i0, hi0, hz0, hz1, hz2⟩ := info_parts intV_info
  have hcells : ∀ (j : Nat) (u : Value), [Value.int .i64 x][j]? = some u → w.cell? ((⟨b, 0, none⟩ : Addr).add j) = some u := by
    intro j u hu
    have e' : (⟨b, 0, none⟩ : Addr).add j = ⟨b, j, none⟩ := by unfold Addr.add; split <;> simp_all
    rw [e', cell_of_row w b j _ _ (0, 0) hb]
    simpa using hu
  have h1 : ∀ u ∈ [Value.int .i64 x], u.oneCell' = true := fun u hu => by rw [List.mem_singleton.1 hu]; rfl
  subst hn
  have hlen : (xs ++ [Value.int .i64 x]).length = (xs.length + 1) * 1 := by rw [List.length_append]; simp
  have grown : ∀ (old : Nat), old < xs.length + 1 →
      Own (w.drew.alloc (.cells (xs.toArray ++ #[Value.int .i64 x] ++ Builtin.zeroCells (Value.int .i64 0).cells (grownCap w (xs.length + 1) old 3 - (xs.length + 1))) 3)) base 3 (some ⟨w.heap.size, 0, none⟩) (grownCap w (xs.length + 1) old 3) (xs ++ [.int .i64 x]) ∧
      w.grownBy (w.drew.alloc (.cells (xs.toArray ++ #[Value.int .i64 x] ++ Builtin.zeroCells (Value.int .i64 0).cells (grownCap w (xs.length + 1) old 3 - (xs.length + 1))) 3)) none := by
    intro old _
    have hge := grownCap_ge w (xs.length + 1) old 3
    have hcm : grownCap w (xs.length + 1) old 3 ≤ maxLen := grownCap_le_maxLen w (xs.length + 1) old 3 (by simp only [maxLen]; omega)
    refine ⟨⟨by simp, .inr ⟨w.heap.size, _, _, rfl, hbase, heap_alloc_new w.drew _, by rw [List.length_append]; simpa using hge, hcm, ?_, ?_⟩⟩, ⟨rfl, rfl, rfl, by simp, fun k hk _ => Below.heap_alloc w.drew _ k hk⟩⟩
    · simp only [Array.size_append, List.size_toArray, size_zeroCells]
      simp [Value.cells]
      omega
    · simp only [Array.toList_append, Nat.mul_one]
      have : (xs ++ [Value.int .i64 x]).length = (xs.toArray ++ #[Value.int .i64 x]).toList.length := by simp
      rw [show (xs.toArray.toList ++ #[Value.int IntKind.i64 x].toList) = xs ++ [Value.int .i64 x] from rfl]
      exact List.take_left
  rcases hown.2 with ⟨hv, h0⟩ | ⟨g, cap', cur, hv, hbg, hg, hnc, hcm, hcs, htake⟩
  · injection hv with a1 a2 a3
    subst a1 a3
    have hxs : xs = [] := List.eq_nil_of_length_eq_zero a2
    subst hxs
    have hrun := run_append_nil (P := Tryz.prog) w 41 ty 3 i0 _ Tryz.underlying41 hi0 hz0 ⟨b, 0, none⟩ 1 1 [.int .i64 x] (by rw [hz1]; rfl) hcells (by omega) (by omega) (by rw [hz2]; omega)
    have hgr := grown 0 (by simp)
    simp only [List.length_nil, Nat.zero_add, List.nil_append, Array.empty_append] at hgr ⊢
    exact ⟨_, _, _, hrun, hgr.1, by simp, .inr ⟨rfl, hgr.2⟩⟩
  · injection hv with a1 a2 a3
    subst a1 a3
    simp only [Nat.mul_one] at hcs htake
    by_cases hroom : xs.length + 1 ≤ cap
    · have hrun := run_append_room (P := Tryz.prog) w 41 ty 3 i0 Tryz.underlying41 hi0 g xs.length cap cur hg ⟨b, 0, none⟩ 1 1 [.int .i64 x] (by rw [hz1]; rfl) hcells h1 hroom (by rw [hz1]; simp; omega)
      refine ⟨_, _, _, hrun, ⟨by simp, .inr ⟨g, cap, _, by simp, hbg, setRow_heap w g cur _ _ _ hg, by rw [List.length_append]; simpa using hroom, hcm, ?_, ?_⟩⟩, by simp, .inl ⟨rfl, rfl, ⟨rfl, rfl, rfl, by simp, fun k _ hk => setRow_other w g k _ (fun e => hk (by simp [blk, e]))⟩⟩⟩
      · simp only [List.size_toArray, List.length_append, List.length_take, List.length_drop, Array.length_toList]
        rw [hz1]
        simp
        omega
      · rw [hz1, Nat.mul_one, Nat.mul_one, htake]
        exact List.take_left
    · have holds : ∀ (j : Nat) (u : Value), xs[j]? = some u → w.cell? ((⟨g, 0, none⟩ : Addr).add j) = some u := fun j u hu => by
        have e' : (⟨g, 0, none⟩ : Addr).add j = ⟨g, j, none⟩ := by unfold Addr.add; split <;> simp_all
        rw [e', cell_of_row w g j cur _ (0, 0) hg]
        have h2 : (cur.toList.take xs.length)[j]? = some u := by rw [htake]; exact hu
        rw [List.getElem?_take] at h2
        split at h2
        · simpa using h2
        · cases h2
      have hrun := run_append_grow (P := Tryz.prog) w 41 ty 3 i0 _ Tryz.underlying41 hi0 hz0 ⟨g, 0, none⟩ xs.length cap xs (by rw [hz1]; simp) holds ⟨b, 0, none⟩ 1 1 [.int .i64 x] (by rw [hz1]; rfl) hcells (by omega) (by omega) (growslice_fits_wide (by omega) (by rw [hz2]; omega))
      have hgr := grown cap (by omega)
      exact ⟨_, _, _, hrun, hgr.1, by simp, .inr ⟨rfl, hgr.2⟩⟩
/-- A row of integers of the call's own, whatever it holds. -/
def OwnW (w : World) (B : Nat) (A : Option Addr) (n c : Nat) : Prop := (A = none ∧ n = 0 ∧ c = 0) ∨ ∃ g cur, A = some ⟨g, 0, none⟩ ∧ B ≤ g ∧ w.heap[g]? = some (.cells cur 3 (0, 0)) ∧ n ≤ c ∧ c ≤ maxLen ∧ cur.size = c
theorem OwnW.of {w : World} {B c : Nat} {A : Option Addr} {xs : List Value} (h : Own w B 3 A c xs) : OwnW w B A xs.length c := by
  rcases h.2 with ⟨hv, hn⟩ | ⟨g, cap', cur, hv, hb, hg, h1, h2, h3, h4⟩
  · injection hv with a b c
    exact .inl ⟨a, hn, c⟩
  · injection hv with a b c
    subst c
    exact .inr ⟨g, cur, a, hb, hg, h1, h2, by simpa using h3⟩
theorem OwnW.own {w : World} {B n c : Nat} {A : Option Addr} (h : OwnW w B A n c) : ∃ xs : List Value, xs.length = n ∧ Own w B 3 A c xs := by
  rcases h with ⟨rfl, rfl, rfl⟩ | ⟨g, cur, rfl, hb, hg, h1, h2, h3⟩
  · exact ⟨[], rfl, Own.nil _ _ _⟩
  · have hl : (cur.toList.take n).length = n := by rw [List.length_take]; simp; omega
    exact ⟨cur.toList.take n, hl, ⟨by simp, .inr ⟨g, c, cur, by rw [hl], hb, hg, by rw [hl]; exact h1, h2, by simpa using h3, by rw [hl, Nat.mul_one]⟩⟩⟩
/-- What stores into rows of integers, appends onto them, and stores into block q leave. -/
structure KQ (q B : Nat) (w w' : World) : Prop where
  sz : w.heap.size ≤ w'.heap.size
  ki : ∀ g cur, B ≤ g → w.heap[g]? = some (.cells cur 3 (0, 0)) → ∃ cur', w'.heap[g]? = some (.cells cur' 3 (0, 0)) ∧ cur'.size = cur.size
  ko : ∀ g o, g ≠ q → w.heap[g]? = some o → (∀ cur, o ≠ .cells cur 3 (0, 0)) → w'.heap[g]? = some o
section
variable {q B : Nat} {w w' w'' : World}
theorem KQ.refl (q B : Nat) (w : World) : KQ q B w w := ⟨Nat.le_refl _, fun g cur _ h => ⟨cur, h, rfl⟩, fun g o _ h _ => h⟩
theorem KQ.trans (h : KQ q B w w') (h' : KQ q B w' w'') : KQ q B w w'' := by
  refine ⟨Nat.le_trans h.sz h'.sz, fun g cur hb hg => ?_, fun g o hq hg ho => h'.ko g o hq (h.ko g o hq hg ho) ho⟩
  obtain ⟨c1, h1, h2⟩ := h.ki g cur hb hg
  obtain ⟨c2, h3, h4⟩ := h'.ki g c1 hb h1
  exact ⟨c2, h3, h4.trans h2⟩
theorem KQ.of (h : Below w.heap.size w w') : KQ q B w w' := ⟨h.size, fun g cur _ hg => ⟨cur, (h.block g (Array.getElem?_eq_some_iff.1 hg).1).trans hg, rfl⟩, fun g o _ hg _ => (h.block g (Array.getElem?_eq_some_iff.1 hg).1).trans hg⟩
theorem KQ.set_int {g k : Nat} {cur : Array Value} (hg : w.heap[g]? = some (.cells cur 3 (0, 0))) (v : Value) : KQ q B w (w.setCell ⟨g, k, none⟩ v) := by
  refine ⟨by simp [World.setCell], fun g' cur' _ h => ?_, fun g' o hq h ho => ?_⟩
  · by_cases e : g' = g
    · subst e
      rw [hg] at h
      injection h with h
      injection h with h
      subst h
      exact ⟨_, by simp [World.setCell, Array.getElem?_modify, hg]; rfl, by simp⟩
    · exact ⟨cur', (iset_ne w g k v e).trans h, rfl⟩
  · have e : g' ≠ g := fun e => by subst e; rw [hg] at h; injection h with h; exact ho cur h.symm
    exact (iset_ne w g k v e).trans h
theorem KQ.set_q {k : Nat} {cs : Array Value} (hq : w.heap[q]? = some (.cells cs 41 (0, 0))) (v : Value) : KQ q B w (w.setCell ⟨q, k, none⟩ v) := by
  refine ⟨by simp [World.setCell], fun g' cur' _ h => ?_, fun g' o hq' h ho => (iset_ne w q k v hq').trans h⟩
  have e : g' ≠ q := fun e => by subst e; rw [hq] at h; injection h with h; injection h with _ h _; exact absurd h (by decide)
  exact ⟨cur', (iset_ne w q k v e).trans h, rfl⟩
theorem KQ.grown {A : Option Addr} {c : Nat} {xs : List Value} {A' : Option Addr} {c' : Nat} {ys : List Value} (h1 : Own w B 3 A c xs) (h2 : Own w' B 3 A' c' ys) (hs : w.heap.size ≤ w'.heap.size)
    (h : (A' = A ∧ c' = c ∧ w.grownBy w' (blk A)) ∨ (A' = some ⟨w.heap.size, 0, none⟩ ∧ w.grownBy w' none)) : KQ q B w w' := by
  rcases h with ⟨rfl, rfl, hg⟩ | ⟨_, hg⟩
  · refine ⟨hs, fun g cur hb hh => ?_, fun g o hq hh ho => ?_⟩
    · by_cases e : blk A' = some g
      · rcases h2.form with ⟨rfl, _⟩ | ⟨g2, cur2, rfl, _, hg2, _, _, hz2, _⟩
        · cases e
        · have : g2 = g := by simpa [blk] using e
          subst this
          rcases h1.form with ⟨e1, _⟩ | ⟨g1, cur1, e1, _, hg1, _, _, hz1, _⟩
          · cases e1
          · injection e1 with e1
            injection e1 with e1
            subst e1
            rw [hh] at hg1
            injection hg1 with hg1
            injection hg1 with hg1
            subst hg1
            exact ⟨cur2, hg2, by omega⟩
      · exact ⟨cur, (hg.block g (Array.getElem?_eq_some_iff.1 hh).1 (fun e' => e e'.symm)).trans hh, rfl⟩
    · refine (hg.block g (Array.getElem?_eq_some_iff.1 hh).1 (fun e' => ?_)).trans hh
      obtain ⟨cur, hc⟩ := own_block h1 e'.symm
      rw [hh] at hc
      injection hc with hc
      exact ho cur hc
  · exact ⟨hs, fun g cur _ hh => ⟨cur, (hg.block g (Array.getElem?_eq_some_iff.1 hh).1 (by simp)).trans hh, rfl⟩, fun g o _ hh _ => (hg.block g (Array.getElem?_eq_some_iff.1 hh).1 (by simp)).trans hh⟩
theorem OwnW.keep {A : Option Addr} {n c : Nat} (h : OwnW w B A n c) (hk : KQ q B w w') : OwnW w' B A n c := by
  rcases h with h | ⟨g, cur, rfl, hb, hg, h1, h2, h3⟩
  · exact .inl h
  · obtain ⟨cur', h4, h5⟩ := hk.ki g cur hb hg
    exact .inr ⟨g, cur', rfl, hb, h4, h1, h2, by omega⟩
end
/-- A block of slices whose rows are rows of integers of the call's own. -/
def LRow (w : World) (B q m bd : Nat) : Prop := ∃ svs : List Value, w.heap[q]? = some (.cells svs.toArray 41 (0, 0)) ∧ m ≤ svs.length ∧ ∀ (j : Nat) (v : Value), j < m → svs[j]? = some v → ∃ A n c, v = .slice A n c ∧ OwnW w B A n c ∧ n ≤ bd
theorem LRow.at_ {w : World} {B q m bd : Nat} (h : LRow w B q m bd) {i : Nat} (hi : i < m) : ∃ A n c, w.cell? ⟨q, i, none⟩ = some (.slice A n c) ∧ OwnW w B A n c ∧ n ≤ bd := by
  obtain ⟨svs, h1, h2, h3⟩ := h
  have hs : svs[i]? = some (svs[i]'(by omega)) := List.getElem?_eq_getElem _
  obtain ⟨A, n, c, e, ho, hn⟩ := h3 i _ hi hs
  refine ⟨A, n, c, ?_, ho, hn⟩
  rw [cell_of_row w q i _ _ (0, 0) h1, List.getElem?_toArray, hs, e]
theorem LRow.free {w : World} {B q m bd : Nat} (h : LRow w B q m bd) (k : Nat) : w.frozen? ⟨q, k, none⟩ = false := by
  obtain ⟨svs, h1, _⟩ := h
  simp [World.frozen?, h1]
theorem LRow.keep {w w' : World} {q' B q m bd : Nat} (h : LRow w B q m bd) (hk : KQ q' B w w') (hq : w'.heap[q]? = w.heap[q]?) : LRow w' B q m bd := by
  obtain ⟨svs, h1, h2, h3⟩ := h
  refine ⟨svs, hq.trans h1, h2, fun j v hj hv => ?_⟩
  obtain ⟨A, n, c, e, ho, hn⟩ := h3 j v hj hv
  exact ⟨A, n, c, e, ho.keep hk, hn⟩
theorem LRow.set {w : World} {B q m bd : Nat} (h : LRow w B q m bd) (i : Nat) {A : Option Addr} {n c : Nat} (ho : OwnW w B A n c) (hn : n ≤ bd) : LRow (w.setCell ⟨q, i, none⟩ (.slice A n c)) B q m bd := by
  obtain ⟨svs, h1, h2, h3⟩ := h
  have hk : KQ q B w (w.setCell ⟨q, i, none⟩ (.slice A n c)) := KQ.set_q h1 _
  refine ⟨svs.set i (.slice A n c), by simp [World.setCell, Array.getElem?_modify, h1], by simpa using h2, fun j v hj hv => ?_⟩
  rw [List.getElem?_set] at hv
  by_cases e : i = j
  · subst e
    rw [if_pos rfl] at hv
    split at hv
    · injection hv with hv
      exact ⟨A, n, c, hv.symm, ho.keep hk, hn⟩
    · cases hv
  · rw [if_neg e] at hv
    obtain ⟨A2, n2, c2, e2, ho2, hn2⟩ := h3 j v hj hv
    exact ⟨A2, n2, c2, e2, ho2.keep hk, hn2⟩
theorem OutSh.lrow {w : World} {base q : Nat} {sh : List (List Int)} (h : OutSh w base q sh) : LRow w base q sh.length 2 := by
  obtain ⟨svs, s1, s2, s3, s4, _⟩ := h
  refine ⟨svs, s1, by omega, fun j v hj hv => ?_⟩
  obtain ⟨m2, A, c, e, ho⟩ := s4 j v _ hv (List.getElem?_eq_getElem hj)
  exact ⟨A, _, c, e, by have := OwnW.of ho; rwa [List.length_map] at this, by omega⟩
theorem LRow.more {w : World} {B q m bd bd' : Nat} (h : LRow w B q m bd) (hb : bd ≤ bd') : LRow w B q m bd' := by
  obtain ⟨svs, h1, h2, h3⟩ := h
  refine ⟨svs, h1, h2, fun j v hj hv => ?_⟩
  obtain ⟨A, n, c, e, ho, hn⟩ := h3 j v hj hv
  exact ⟨A, n, c, e, ho, by omega⟩
theorem OwnW.cell {w : World} {B n c k : Nat} {A : Option Addr} (h : OwnW w B A n c) (hk : k < n) : ∃ g cur v, A = some ⟨g, 0, none⟩ ∧ B ≤ g ∧ g < w.heap.size ∧ w.heap[g]? = some (.cells cur 3 (0, 0)) ∧ w.cell? ⟨g, k, none⟩ = some v ∧ w.frozen? ⟨g, k, none⟩ = false := by
  rcases h with ⟨_, rfl, _⟩ | ⟨g, cur, rfl, hb, hg, h1, h2, h3⟩
  · omega
  · refine ⟨g, cur, cur[k]'(by omega), rfl, hb, (Array.getElem?_eq_some_iff.1 hg).1, hg, ?_, by simp [World.frozen?, hg]⟩
    rw [cell_of_row w g k cur _ (0, 0) hg, Array.getElem?_eq_getElem]
end Go.Proofs.YtghlnncfigkkaaaGreatDoor
