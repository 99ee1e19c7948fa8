/-
  append of tokens: onto an empty slice without room; one token as a step of a region that draws its order. What stores into a tree's own rows leave; what Parse answers, in one form.
-/
import Derived.Test.YtcefclglmhpdeaaGreatDoorQTok
import Derived.Test.YtcefclglmhpdeaaGreatDoorQTree
import Derived.Test.YtcefclglmhpdeaaGreatDoorQRefP
import Derived.Deep.DeepAppendWide
namespace Go.Proofs.YtcefclglmhpdeaaGreatDoor
set_option linter.unusedVariables false
set_option linter.unusedSimpArgs false
open Go.RowKit
theorem tok_ones_l (l : List Tok) : ∀ u ∈ tokFlat l, u.oneCell' = true := by
  intro u hu
  unfold tokFlat at hu
  obtain ⟨t, _, ht⟩ := List.mem_flatMap.1 hu
  exact tok_ones t u ht
theorem RdT.flat {w : World} {B : Nat} {A : Option Addr} {l : List Tok} (h : RdT w B A l) (hl : l ≠ []) : ∃ ad, A = some ad ∧ ∀ (j : Nat) (u : Value), (tokFlat l)[j]? = some u → w.cell? (ad.add j) = some u := by
  rcases h with h | ⟨b, o, hA, hb, hc⟩
  · exact absurd h hl
  · refine ⟨⟨b, o, none⟩, hA, fun j u hu => ?_⟩
    have e : j / 4 * 4 + j % 4 = j := by omega
    have := hc (j / 4) (j % 4) u (by rw [e]; exact hu) (by omega)
    rw [e] at this
    have e' : (⟨b, o, none⟩ : Addr).add j = ⟨b, o + j, none⟩ := by unfold Addr.add; split <;> simp_all
    rw [e']
    exact this
theorem appT0_step {w : World} {ops : Array Oper} {o : Oper} {a : Act} {K : Act → World → Prop} {Q : Exit → Act → World → Prop} {E : Prop} (hgd : o.guard = none) (s x : Operand)
    (ho : o.op = .call { callee := .builtin .append, args := #[s, x], argTypes := #[31, 31] }) (base : Nat)
    (g : Addr) (hs : a.eval s = .slice (some g) 0 0) (A2 : Option Addr) (m c B : Nat) (news : List Tok) (hm : news.length = m) (hm1 : 1 ≤ m) (hx : a.eval x = .slice A2 m c) (hr : RdT w B A2 news)
    (hbytes : m ≤ 1000000) (hbase : base ≤ w.heap.size)
    (h : ∀ A' cap' w', OwnT w' base A' cap' news → Below w.heap.size w w' → K (a.put o.dst (.slice A' m cap')) w') :
    if Region.wanted o (yielded ops a.tmps) = true then Oper.wp Tryz.prog o a w K Q else E := by
  have hw : Region.wanted o (yielded ops a.tmps) = true := by simp [Region.wanted, hgd]
  rw [if_pos hw]
  obtain ⟨i0, hi0, hz0, hz1, hz2⟩ := info_parts tok_info
  obtain ⟨ad, rfl, hcells⟩ := hr.flat (by intro e; subst e; simp at hm; omega)
  have hlen : (tokFlat news).length = m * 4 := by rw [tokFlat_length, hm]
  have hrun := run_append_grow (P := Tryz.prog) w 31 o.type 65 i0 _ Tryz.underlying31 hi0 hz0 g 0 0 [] (by simp) (fun j v hv => by simp at hv) ad m c (tokFlat news) (by rw [hz1, hlen]) hcells (by omega) (by omega)
    (growslice_fits_wide (by omega) (by rw [hz2]; omega))
  simp only [Nat.zero_add] at hrun
  have hge := grownCap_ge w m 0 65
  have hcm : grownCap w m 0 65 ≤ maxLen := grownCap_le_maxLen w m 0 _ (by simp only [maxLen]; omega)
  unfold Oper.wp execOp
  simp only [ho, resolve, invoke, builtin, Sem.run_bind, Sem.run_pure, Result.andThen_ok, List.map_toArray, List.map_cons, List.map_nil, hs, hx, hrun]
  refine h _ _ _ ⟨by rw [hm]; exact hlen, .inr ⟨w.heap.size, _, _, by rw [hm], hbase, heap_alloc_new w.drew _, by omega, hcm, ?_, ?_⟩⟩ ?_
  · simp only [Array.size_append, List.size_toArray, size_zeroCells, hlen]
    rw [show (Value.agg #[.int .i64 0, .string ⟨#[]⟩, .int .u64 0, .int .i64 0]).cells.size = 4 from rfl]
    simp
    omega
  · rw [hm, ← hlen]
    simp
  · exact (Below.refl w.heap.size w).drew.alloc (Nat.le_refl _) _
theorem appTok_step {w : World} {ops : Array Oper} {o : Oper} {a : Act} {K : Act → World → Prop} {Q : Exit → Act → World → Prop} {E : Prop} (hgd : o.guard = none) (s x : Operand)
    (ho : o.op = .call { callee := .builtin .append, args := #[s, x], argTypes := #[31, 31] }) (base : Nat)
    (A : Option Addr) (cap : Nat) (l : List Tok) (n : Nat) (hn : l.length = n) (hs : a.eval s = .slice A n cap) (hown : OwnT w base A cap l)
    (g2 : Nat) (hx : a.eval x = .slice (some ⟨g2, 0, none⟩) 1 1) (t : Tok) (hb : w.heap[g2]? = some (.cells (tokCells t).toArray 65 (0, 0)))
    (hbytes : n + 1 ≤ 1000000) (hbase : base ≤ w.heap.size)
    (h : ∀ A' cap' w', OwnT w' base A' cap' (l ++ [t]) → w.grownBy w' (blk A) → K (a.put o.dst (.slice A' (n + 1) cap')) w') :
    if Region.wanted o (yielded ops a.tmps) = true then Oper.wp Tryz.prog o a w K Q else E := by
  have hw : Region.wanted o (yielded ops a.tmps) = true := by simp [Region.wanted, hgd]
  rw [if_pos hw]
  subst hn
  obtain ⟨i0, hi0, hz0, hz1, hz2⟩ := info_parts tok_info
  refine wp_append_own w s x 31 ho base 65 i0 _ 4 40 Tryz.underlying31 hi0 hz0 hz1 hz2 rfl (by decide) _ l.length (tokFlat l) hs hown ⟨g2, 0, none⟩ 1 1 (tokCells t) hx rfl ?_ (tok_ones t) (by simp only [maxLen]; omega) (by omega) hbase ?_
  · intro j u hu
    have e' : (⟨g2, 0, none⟩ : Addr).add j = ⟨g2, j, none⟩ := by unfold Addr.add; split <;> simp_all
    rw [e', cell_of_row w g2 j _ _ (0, 0) hb]
    simpa using hu
  · intro v' w' h1 h2 _
    rcases h1.2 with ⟨_, h0⟩ | ⟨g, cap', cur, rfl, r⟩
    · omega
    · refine h (some ⟨g, 0, none⟩) cap' w' ?_ (by rw [blk_own] at h2; exact h2)
      unfold OwnT
      rw [tokFlat_append, List.length_append]
      exact h1
end Go.Proofs.YtcefclglmhpdeaaGreatDoor
namespace Go.Proofs.YtcefclglmhpdeaaGreatDoor
set_option linter.unusedVariables false
set_option linter.unusedSimpArgs false
open Go.RowKit
/-- Only blocks from B0 to B1 are turned, and of those only numbers and names in rows. -/
structure Lk (B0 B1 : Nat) (wp wr : World) : Prop where
  os : wr.os = wp.os
  tape : wr.tape = wp.tape
  output : wr.output = wp.output
  size : wr.heap.size = wp.heap.size
  out : ∀ k, k < B0 ∨ B1 ≤ k → wr.heap[k]? = wp.heap[k]?
  row : ∀ (k : Nat) (cs : Array Value) (T : TypeId), wp.heap[k]? = some (.cells cs T (0, 0)) → ∃ cs' : Array Value, wr.heap[k]? = some (.cells cs' T (0, 0)) ∧ cs'.size = cs.size ∧ (∀ (j : Nat) (A : Option Addr) (n c : Nat), cs[j]? = some (.slice A n c) → cs'[j]? = some (.slice A n c))
  still : ∀ (k : Nat) (cs : Array Value) (T : TypeId), wp.heap[k]? = some (.cells cs T (0, 0)) → T ≠ 3 → T ≠ 43 → T ≠ 38 → wr.heap[k]? = some (.cells cs T (0, 0))
section
variable {B0 B1 : Nat} {wp wr : World}
theorem Lk.refl (B0 B1 : Nat) (w : World) : Lk B0 B1 w w := ⟨rfl, rfl, rfl, rfl, fun _ _ => rfl, fun k cs T h => ⟨cs, h, rfl, fun _ _ _ _ h => h⟩, fun _ _ _ h _ _ _ => h⟩
theorem Lk.below (h : Lk B0 B1 wp wr) {B : Nat} (hB : B ≤ B0) : Below B wp wr := ⟨h.os, h.tape, h.output, Nat.le_of_eq h.size.symm, fun k hk => h.out k (.inl (by omega))⟩
theorem Lk.set (h : Lk B0 B1 wp wr) {k j : Nat} {cs : Array Value} {T : TypeId} (hk : wp.heap[k]? = some (.cells cs T (0, 0))) (h0 : B0 ≤ k) (h1 : k < B1) (hT : T = 3 ∨ T = 43 ∨ T = 38)
    (hj : ∀ A n c, cs[j]? ≠ some (.slice A n c)) (v : Value) : Lk B0 B1 wp (wr.setCell ⟨k, j, none⟩ v) := by
  obtain ⟨cs1, e1, e2, e3⟩ := h.row k cs T hk
  refine ⟨h.os, h.tape, h.output, by simp [World.setCell, h.size], fun i hi => ?_, fun i ci U hi => ?_, fun i ci U hi u1 u2 u3 => ?_⟩
  · rw [setCell_ne _ _ _ (by show i ≠ k; omega)]
    exact h.out i hi
  · by_cases e : i = k
    · subst e
      rw [hk] at hi
      injection hi with hi
      injection hi with a b c
      subst a b
      refine ⟨cs1.setIfInBounds j v, heap_setCell_same _ _ _ _ _ _ e1, by rw [Array.size_setIfInBounds]; exact e2, fun q A n c hq => ?_⟩
      rw [Array.getElem?_setIfInBounds]
      split
      · rename_i hh
        subst hh
        exact absurd hq (hj A n c)
      · exact e3 q A n c hq
    · obtain ⟨c1, f1, f2, f3⟩ := h.row i ci U hi
      exact ⟨c1, by rw [setCell_ne _ _ _ (by exact e)]; exact f1, f2, f3⟩
  · have e : i ≠ k := by
      rintro rfl
      rw [hk] at hi
      injection hi with hi
      injection hi with a b c
      subst b
      rcases hT with h | h | h
      · exact u1 h
      · exact u2 h
      · exact u3 h
    rw [setCell_ne _ _ _ (by exact e)]
    exact h.still i ci U hi u1 u2 u3
theorem Lk.err (h : Lk B0 B1 wp wr) : ∀ {l : List (ByteArray × Int)} {v : Value} {code : Int}, IsErr wp v l code → IsErr wr v l code := by
  intro l
  induction l with
  | nil => intro v code h; exact h
  | cons p r ih =>
    intro v code hv
    obtain ⟨a, inner, rfl, hc, hi⟩ := hv
    exact ⟨a, inner, rfl, h.still _ _ _ hc (by decide) (by decide) (by decide), ih hi⟩
/-- A row of numbers that lies in the blocks that may be turned. -/
def IntRow (B0 B1 : Nat) (wp : World) (A : Option Addr) (n : Nat) : Prop := n = 0 ∨ ∃ (h : Nat) (ci : Array Value), A = some ⟨h, 0, none⟩ ∧ B0 ≤ h ∧ h < B1 ∧ wp.heap[h]? = some (.cells ci 3 (0, 0)) ∧ n ≤ ci.size ∧ ∀ (j : Nat), j < n → ∀ B m c, ci[j]? ≠ some (.slice B m c)
theorem intRow_of {X : Nat → Prop} {w : World} {v : Value} {l : List Nat} (h : ArgsV X B0 w v l) (hbw : Below w.heap.size w wp) : ∃ A c, v = .slice A l.length c ∧ IntRow B0 w.heap.size wp A l.length := by
  obtain ⟨A, c, h1, h2, _⟩ := h
  refine ⟨A, c, h1, ?_⟩
  rcases h2.form with ⟨_, h⟩ | ⟨g, cur, hA, hb, hg, h3, h4, h5, h6⟩
  · exact .inl (by have : l = [] := by simpa using h
                   rw [this]; rfl)
  · rw [List.length_map] at h3 h6
    have hlt := (Array.getElem?_eq_some_iff.1 hg).1
    refine .inr ⟨g, cur, hA, hb, hlt, (hbw.block g hlt).trans hg, by omega, fun j hj B m c hc => ?_⟩
    have e : (cur.toList.take l.length)[j]? = (l.map I64)[j]? := by rw [h6]
    rw [List.getElem?_take, if_pos hj, List.getElem?_map, List.getElem?_eq_getElem hj] at e
    have e2 : cur[j]? = some (I64 l[j]) := by simpa using e
    rw [e2] at hc
    unfold I64 at hc
    cases hc
theorem IntRow.at_ {A : Option Addr} {n : Nat} (h : IntRow B0 B1 wp A n) (hl : Lk B0 B1 wp wr) {j : Nat} (hj : j < n) : ∃ b x, A = some ⟨b, 0, none⟩ ∧ wr.cell? ⟨b, j, none⟩ = some x ∧ wr.frozen? ⟨b, j, none⟩ = false ∧ (∀ v, Lk B0 B1 wp (wr.setCell ⟨b, j, none⟩ v)) := by
  rcases h with h | ⟨b, ci, hA, hb, hb1, hg, h1, h2⟩
  · omega
  · obtain ⟨cs', e1, e2, _⟩ := hl.row b ci _ hg
    have hj' : j < cs'.size := by omega
    exact ⟨b, cs'[j], hA, by rw [cell_of_row wr b j cs' _ (0, 0) e1, Array.getElem?_eq_getElem hj'], pfree_row e1 j, fun v => hl.set hg hb hb1 (.inl rfl) (h2 j hj) v⟩
end
/-- An expression's and a statement's row, as the loops need them. -/
theorem ownE_at {X : Nat → Prop} {B0 c : Nat} {w5 wp wr : World} {A : Option Addr} {es : List Ex} (h : OwnEX X w5 B0 A c es) (hbw : Below w5.heap.size w5 wp) (hl : Lk B0 w5.heap.size wp wr) {i : Nat} (hi : i < es.length) :
    ∃ g x, A = some ⟨g, 0, none⟩ ∧ wr.cell? ⟨g, i * 5, none⟩ = some x ∧ wr.frozen? ⟨g, i * 5, none⟩ = false ∧ (∀ v, Lk B0 w5.heap.size wp (wr.setCell ⟨g, i * 5, none⟩ v)) ∧
      ∃ A' n c', wr.cell? ⟨g, i * 5 + 3, none⟩ = some (.slice A' n c') ∧ IntRow B0 w5.heap.size wp A' n ∧ n ≤ 9223372036854775807 ∧ ∀ wr', Lk B0 w5.heap.size wp wr' → wr'.cell? ⟨g, i * 5 + 3, none⟩ = some (.slice A' n c') := by
  obtain ⟨ms, h1, h2, h3, _⟩ := h
  rcases h2.2 with ⟨hv, h0⟩ | ⟨g, cap', cur, hv, hb, hg, h4, h5, h6, h7⟩
  · omega
  · injection hv with a b c
    have hgB := (Array.getElem?_eq_some_iff.1 hg).1
    have hg := (hbw.block g hgB).trans hg
    have hm : ms[i]? = some (ms[i]'(by rw [← h1, List.length_map] at hi; exact hi)) := List.getElem?_eq_getElem _
    obtain ⟨m, hmm⟩ : ∃ m, m = ms[i]'(by rw [← h1, List.length_map] at hi; exact hi) := ⟨_, rfl⟩
    rw [← hmm] at hm
    have key : ∀ j v, (exCells m)[j]? = some v → j < 5 → cur[i * 5 + j]? = some v := fun j v hv hj => by
      have e := (tflat_nth exCells 5 (fun _ => rfl) ms i j m hm hj).trans hv
      rw [← h7, List.getElem?_take] at e
      split at e
      · simpa using e
      · cases e
    obtain ⟨A', c', e1, e2⟩ := intRow_of (h3 m (List.mem_of_getElem? hm)) hbw
    have hsm := args_small (h3 m (List.mem_of_getElem? hm))
    have k3 := key 3 _ rfl (by omega)
    rw [e1] at k3
    have k0 : cur[i * 5]? = some (.int .i64 m.1.kind) := key 0 _ rfl (by omega)
    obtain ⟨cs', f1, f2, f3⟩ := hl.row g cur _ hg
    have hj : i * 5 < cs'.size := by rw [f2]; exact (Array.getElem?_eq_some_iff.1 k0).1
    refine ⟨g, cs'[i * 5], a, by rw [cell_of_row wr g _ cs' _ (0, 0) f1, Array.getElem?_eq_getElem hj], pfree_row f1 _, fun v => hl.set hg hb hgB (.inr (.inl rfl)) (by rw [k0]; intro _ _ _ h; cases h) v, A', _, c', ?_, e2, hsm, fun wr' hl' => ?_⟩
    · rw [cell_of_row wr g _ cs' _ (0, 0) f1]
      exact f3 _ _ _ _ k3
    · obtain ⟨cs2, p1, p2, p3⟩ := hl'.row g cur _ hg
      rw [cell_of_row wr' g _ cs2 _ (0, 0) p1]
      exact p3 _ _ _ _ k3
theorem ownS_at {X : Nat → Prop} {B0 c : Nat} {w5 wp wr : World} {A : Option Addr} {es : List Sm} (h : OwnSX X w5 B0 A c es) (hbw : Below w5.heap.size w5 wp) (hl : Lk B0 w5.heap.size wp wr) {i : Nat} (hi : i < es.length) :
    ∃ g x, A = some ⟨g, 0, none⟩ ∧ wr.cell? ⟨g, i * 6 + 2, none⟩ = some x ∧ wr.frozen? ⟨g, i * 6 + 2, none⟩ = false ∧ (∀ v, Lk B0 w5.heap.size wp (wr.setCell ⟨g, i * 6 + 2, none⟩ v)) ∧
      ∃ A' n c', wr.cell? ⟨g, i * 6 + 3, none⟩ = some (.slice A' n c') ∧ IntRow B0 w5.heap.size wp A' n ∧ n ≤ 9223372036854775807 ∧ ∀ wr', Lk B0 w5.heap.size wp wr' → wr'.cell? ⟨g, i * 6 + 3, none⟩ = some (.slice A' n c') := by
  obtain ⟨ms, h1, h2, h3⟩ := h
  rcases h2.2 with ⟨hv, h0⟩ | ⟨g, cap', cur, hv, hb, hg, h4, h5, h6, h7⟩
  · omega
  · injection hv with a b c
    have hgB := (Array.getElem?_eq_some_iff.1 hg).1
    have hg := (hbw.block g hgB).trans hg
    have hm : ms[i]? = some (ms[i]'(by rw [← h1, List.length_map] at hi; exact hi)) := List.getElem?_eq_getElem _
    obtain ⟨m, hmm⟩ : ∃ m, m = ms[i]'(by rw [← h1, List.length_map] at hi; exact hi) := ⟨_, rfl⟩
    rw [← hmm] at hm
    have key : ∀ j v, (smCells m)[j]? = some v → j < 6 → cur[i * 6 + j]? = some v := fun j v hv hj => by
      have e := (tflat_nth smCells 6 (fun _ => rfl) ms i j m hm hj).trans hv
      rw [← h7, List.getElem?_take] at e
      split at e
      · simpa using e
      · cases e
    obtain ⟨A', c', e1, e2⟩ := intRow_of (h3 m (List.mem_of_getElem? hm)) hbw
    have hsm := args_small (h3 m (List.mem_of_getElem? hm))
    have k3 := key 3 _ rfl (by omega)
    rw [e1] at k3
    have k0 : cur[i * 6 + 2]? = some (.string m.1.name) := key 2 _ rfl (by omega)
    obtain ⟨cs', f1, f2, f3⟩ := hl.row g cur _ hg
    have hj : i * 6 + 2 < cs'.size := by rw [f2]; exact (Array.getElem?_eq_some_iff.1 k0).1
    refine ⟨g, cs'[i * 6 + 2], a, by rw [cell_of_row wr g _ cs' _ (0, 0) f1, Array.getElem?_eq_getElem hj], pfree_row f1 _, fun v => hl.set hg hb hgB (.inr (.inr rfl)) (by rw [k0]; intro _ _ _ h; cases h) v, A', _, c', ?_, e2, hsm, fun wr' hl' => ?_⟩
    · rw [cell_of_row wr g _ cs' _ (0, 0) f1]
      exact f3 _ _ _ _ k3
    · obtain ⟨cs2, p1, p2, p3⟩ := hl'.row g cur _ hg
      rw [cell_of_row wr' g _ cs2 _ (0, 0) p1]
      exact p3 _ _ _ _ k3
/-- The tree that is answered. -/
def okS (R : PS) : List Sm := if R.err = none then R.ss else []
def okE (R : PS) : List Ex := if R.err = none then R.es else []
def okC (R : PS) : Nat := match R.err with | none => 0 | some (c, _) => c
theorem parse_out {W w' : World} {R : PS} {e : Ending} (h : ParseOut W R e w') : Below W.heap.size W w' ∧ ∃ SA sc EA ec v, e = .returned (.tuple #[.agg #[.slice SA (okS R).length sc, .slice EA (okE R).length ec], v]) ∧ OwnS w' W.heap.size SA sc (okS R) ∧ OwnE w' W.heap.size EA ec (okE R) ∧ ErrV w' v R.err := by
  obtain ⟨hb, h⟩ := h
  refine ⟨hb, ?_⟩
  rcases h with ⟨hn, SA, sc, EA, ec, he, h1, h2⟩ | ⟨c, p, v, hn, he, h1⟩
  · unfold okS okE
    rw [hn]
    simp only [if_true]
    exact ⟨SA, sc, EA, ec, .nilIface, he, h1, h2, rfl⟩
  · unfold okS okE
    rw [hn]
    rw [if_neg (by intro h; cases h), if_neg (by intro h; cases h)]
    exact ⟨none, 0, none, 0, v, he, OwnSX.nil _ _ _, OwnEX.nil _ _ _, h1⟩
theorem rparse_out {W w' : World} {R : PS} {e : Ending} (h : RParseOut W R e w') : Below W.heap.size W w' ∧ ∃ SA sc EA ec p, e = .returned (.tuple #[.agg #[.slice SA (okS R).length sc, .slice EA (okE R).length ec], .int .i64 (okC R : Nat), p]) ∧ OwnS w' 0 SA sc (okS R) ∧ OwnE w' 0 EA ec (okE R) := by
  obtain ⟨hb, h⟩ := h
  refine ⟨hb, ?_⟩
  rcases h with ⟨hn, SA, sc, EA, ec, he, h1, h2⟩ | ⟨c, p, hn, he⟩
  · unfold okS okE okC
    rw [hn]
    simp only [if_true]
    exact ⟨SA, sc, EA, ec, _, he, h1, h2⟩
  · unfold okS okE okC
    rw [hn]
    rw [if_neg (by intro h; cases h), if_neg (by intro h; cases h)]
    exact ⟨none, 0, none, 0, _, he, OwnSX.nil _ _ _, OwnEX.nil _ _ _⟩
theorem code_ok {w : World} {v : Value} {R : PS} (h : ErrV w v R.err) (hg : ETyped w) : Calls Tryz.prog 16 #[v] w fun e w' => e = .returned (.int .i64 (okC R : Nat)) ∧ Below w.heap.size w w' := by
  unfold okC
  cases hr : R.err with
  | none =>
    rw [hr] at h
    obtain rfl : v = .nilIface := h
    exact (Code_nil w).mono fun e w' ⟨h1, h2⟩ => ⟨h1, by rw [← h2]; exact Below.refl _ _⟩
  | some x =>
    obtain ⟨c, p⟩ := x
    rw [hr] at h
    exact Code_any [(parN, (p : Int))] c v w hg h
theorem Lk.errV {B0 B1 : Nat} {wp wr : World} (h : Lk B0 B1 wp wr) {v : Value} {e : Option (Nat × Nat)} (hv : ErrV wp v e) : ErrV wr v e := by
  cases e with
  | none => exact hv
  | some x => obtain ⟨c, p⟩ := x; exact h.err hv
/-- append of tokens onto an empty slice without room. -/
theorem appT0 {w : World} {ops : Array Oper} {rest : List Oper} {o : Oper} {a : Act} {Q : Exit → Act → World → Prop} (hgd : o.guard = none) (s x : Operand)
    (ho : o.op = .call { callee := .builtin .append, args := #[s, x], argTypes := #[31, 31] }) (base : Nat)
    (g : Addr) (hs : a.eval s = .slice (some g) 0 0) (A2 : Option Addr) (m c B : Nat) (news : List Tok) (hm : news.length = m) (hm1 : 1 ≤ m) (hx : a.eval x = .slice A2 m c) (hr : RdT w B A2 news)
    (hbytes : m ≤ 1000000) (hbase : base ≤ w.heap.size)
    (h : ∀ A' cap' w', OwnT w' base A' cap' news → Below w.heap.size w w' → wpList Tryz.prog ops Q rest (a.put o.dst (.slice A' m cap')) w') :
    wpList Tryz.prog ops Q (o :: rest) a w :=
  wpList_plain hgd fun _ hK => by
    have h1 := appT0_step (w := w) (ops := #[]) (Q := Q) (E := True) hgd s x ho base g hs A2 m c B news hm hm1 hx hr hbytes hbase (fun A' cap' w' h2 h3 => hK _ _ (h A' cap' w' h2 h3))
    rw [if_pos (by simp [Region.wanted, hgd])] at h1
    exact h1
end Go.Proofs.YtcefclglmhpdeaaGreatDoor
