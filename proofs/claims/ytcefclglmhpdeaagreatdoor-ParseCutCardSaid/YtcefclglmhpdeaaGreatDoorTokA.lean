/-
  append of tokens: onto an empty slice without room; one token as a step of a region that draws its order.
-/
import Derived.Test.YtcefclglmhpdeaaGreatDoorTok
import Derived.Deep.DeepAppendWide
namespace Go.Proofs.YtcefclglmhpdeaaGreatDoor
set_option linter.unusedVariables false
set_option linter.unusedSimpArgs false
open Go.RowKit
theorem tok_ones_l (l : List Tok) : ∀ u ∈ tokFlat l, u.oneCell' = true := by
  intro u hu
  unfold tokFlat at hu
  obtain ⟨t, _, ht⟩ := List.mem_flatMap.1 hu
  exact tok_ones t u ht
theorem RdT.flat {w : World} {B : Nat} {A : Option Addr} {l : List Tok} (h : RdT w B A l) (hl : l ≠ []) : ∃ ad, A = some ad ∧ ∀ (j : Nat) (u : Value), (tokFlat l)[j]? = some u → w.cell? (ad.add j) = some u := by
  rcases h with h | ⟨b, o, hA, hb, hc⟩
  · exact absurd h hl
  · refine ⟨⟨b, o, none⟩, hA, fun j u hu => ?_⟩
    have e : j / 4 * 4 + j % 4 = j := by omega
    have := hc (j / 4) (j % 4) u (by rw [e]; exact hu) (by omega)
    rw [e] at this
    have e' : (⟨b, o, none⟩ : Addr).add j = ⟨b, o + j, none⟩ := by unfold Addr.add; split <;> simp_all
    rw [e']
    exact this
theorem appT0_step {w : World} {ops : Array Oper} {o : Oper} {a : Act} {K : Act → World → Prop} {Q : Exit → Act → World → Prop} {E : Prop} (hgd : o.guard = none) (s x : Operand)
    (ho : o.op = .call { callee := .builtin .append, args := #[s, x], argTypes := #[31, 31] }) (base : Nat)
    (g : Addr) (hs : a.eval s = .slice (some g) 0 0) (A2 : Option Addr) (m c B : Nat) (news : List Tok) (hm : news.length = m) (hm1 : 1 ≤ m) (hx : a.eval x = .slice A2 m c) (hr : RdT w B A2 news)
    (hbytes : m ≤ 1000000) (hbase : base ≤ w.heap.size)
    (h : ∀ A' cap' w', OwnT w' base A' cap' news → Below w.heap.size w w' → K (a.put o.dst (.slice A' m cap')) w') :
    if Region.wanted o (yielded ops a.tmps) = true then Oper.wp Tryz.prog o a w K Q else E := by
  have hw : Region.wanted o (yielded ops a.tmps) = true := by simp [Region.wanted, hgd]
  rw [if_pos hw]
  obtain ⟨i0, hi0, hz0, hz1, hz2⟩ := info_parts tok_info
  obtain ⟨ad, rfl, hcells⟩ := hr.flat (by intro e; subst e; simp at hm; omega)
  have hlen : (tokFlat news).length = m * 4 := by rw [tokFlat_length, hm]
  have hrun := run_append_grow (P := Tryz.prog) w 31 o.type 65 i0 _ Tryz.underlying31 hi0 hz0 g 0 0 [] (by simp) (fun j v hv => by simp at hv) ad m c (tokFlat news) (by rw [hz1, hlen]) hcells (by omega) (by omega)
    (growslice_fits_wide (by omega) (by rw [hz2]; omega))
  simp only [Nat.zero_add] at hrun
  have hge := grownCap_ge w m 0 65
  have hcm : grownCap w m 0 65 ≤ maxLen := grownCap_le_maxLen w m 0 _ (by simp only [maxLen]; omega)
  unfold Oper.wp execOp
  simp only [ho, resolve, invoke, builtin, Sem.run_bind, Sem.run_pure, Result.andThen_ok, List.map_toArray, List.map_cons, List.map_nil, hs, hx, hrun]
  refine h _ _ _ ⟨by rw [hm]; exact hlen, .inr ⟨w.heap.size, _, _, by rw [hm], hbase, heap_alloc_new w.drew _, by omega, hcm, ?_, ?_⟩⟩ ?_
  · simp only [Array.size_append, List.size_toArray, size_zeroCells, hlen]
    rw [show (Value.agg #[.int .i64 0, .string ⟨#[]⟩, .int .u64 0, .int .i64 0]).cells.size = 4 from rfl]
    simp
    omega
  · rw [hm, ← hlen]
    simp
  · exact (Below.refl w.heap.size w).drew.alloc (Nat.le_refl _) _
theorem appTok_step {w : World} {ops : Array Oper} {o : Oper} {a : Act} {K : Act → World → Prop} {Q : Exit → Act → World → Prop} {E : Prop} (hgd : o.guard = none) (s x : Operand)
    (ho : o.op = .call { callee := .builtin .append, args := #[s, x], argTypes := #[31, 31] }) (base : Nat)
    (A : Option Addr) (cap : Nat) (l : List Tok) (n : Nat) (hn : l.length = n) (hs : a.eval s = .slice A n cap) (hown : OwnT w base A cap l)
    (g2 : Nat) (hx : a.eval x = .slice (some ⟨g2, 0, none⟩) 1 1) (t : Tok) (hb : w.heap[g2]? = some (.cells (tokCells t).toArray 65 (0, 0)))
    (hbytes : n + 1 ≤ 1000000) (hbase : base ≤ w.heap.size)
    (h : ∀ A' cap' w', OwnT w' base A' cap' (l ++ [t]) → w.grownBy w' (blk A) → K (a.put o.dst (.slice A' (n + 1) cap')) w') :
    if Region.wanted o (yielded ops a.tmps) = true then Oper.wp Tryz.prog o a w K Q else E := by
  have hw : Region.wanted o (yielded ops a.tmps) = true := by simp [Region.wanted, hgd]
  rw [if_pos hw]
  subst hn
  obtain ⟨i0, hi0, hz0, hz1, hz2⟩ := info_parts tok_info
  refine wp_append_own w s x 31 ho base 65 i0 _ 4 40 Tryz.underlying31 hi0 hz0 hz1 hz2 rfl (by decide) _ l.length (tokFlat l) hs hown ⟨g2, 0, none⟩ 1 1 (tokCells t) hx rfl ?_ (tok_ones t) (by simp only [maxLen]; omega) (by omega) hbase ?_
  · intro j u hu
    have e' : (⟨g2, 0, none⟩ : Addr).add j = ⟨g2, j, none⟩ := by unfold Addr.add; split <;> simp_all
    rw [e', cell_of_row w g2 j _ _ (0, 0) hb]
    simpa using hu
  · intro v' w' h1 h2 _
    rcases h1.2 with ⟨_, h0⟩ | ⟨g, cap', cur, rfl, r⟩
    · omega
    · refine h (some ⟨g, 0, none⟩) cap' w' ?_ (by rw [blk_own] at h2; exact h2)
      unfold OwnT
      rw [tokFlat_append, List.length_append]
      exact h1
end Go.Proofs.YtcefclglmhpdeaaGreatDoor
