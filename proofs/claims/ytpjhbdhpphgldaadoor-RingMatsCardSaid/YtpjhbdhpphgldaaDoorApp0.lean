/-
  append of words onto an empty slice without room: the row is new, or nothing is.
-/
import Derived.Test.YtpjhbdhpphgldaaDoorAppW
namespace Go.Proofs.YtpjhbdhpphgldaaDoor
set_option linter.unusedVariables false
set_option linter.unusedSimpArgs false
open Go.RowKit
theorem run_app0 {P : Program} (w : World) (t ty e : TypeId) (i : TypeInfo) (z : Value) (bytes : Nat) (ht : P.underlying t = some (.slice e)) (hi : P.info? e = some i) (hz : i.zero = some z)
    (hsz : i.size = 1) (hby : i.bytes = bytes) (hzs : z.cells.size = 1) (g : Addr)
    (A2 : Option Addr) (m c B : Nat) (news : List Value) (hm : news.length = m) (hr : Rd w B A2 news) (hnil : A2 = none → m = 0)
    (h63 : m ≤ maxLen) (hbytes : (m + m / 4 + 192) * bytes ≤ 281474976710656) :
    ∃ A' cap' w', (Builtin.append_ #[t, t] ty #[.slice (some g) 0 0, .slice A2 m c]).run P w = .ok (.slice A' m cap') w' ∧ Rd w' w'.heap.size A' news ∧ Below w.heap.size w w' := by
  by_cases h0 : m = 0
  · subst h0
    have hnews : news = [] := List.eq_nil_of_length_eq_zero hm
    subst hnews
    refine ⟨some g, 0, w, ?_, Rd.nil _ _ _, Below.refl _ _⟩
    cases A2 with
    | none => simp [Builtin.append_, run_underlying ht, sizeOf, typeInfo, hi, Builtin.lenOf, Builtin.firstCells, storeCells]
    | some ad => simp [Builtin.append_, run_underlying ht, sizeOf, typeInfo, hi, Builtin.lenOf, Builtin.firstCells, loadCells, loadCellsFrom, storeCells]
  · cases A2 with
    | none => exact absurd (hnil rfl) h0
    | some ad =>
      have hcells : ∀ (j : Nat) (u : Value), news[j]? = some u → w.cell? (ad.add j) = some u := by
        intro j u hu
        rcases hr with rfl | ⟨b, o, hA, _, hc⟩
        · simp at hu
        · injection hA with hA
          subst hA
          have e' : (⟨b, o, none⟩ : Addr).add j = ⟨b, o + j, none⟩ := by unfold Addr.add; split <;> simp_all
          rw [e']
          exact hc j u hu
      have hsmall : m ≤ 9223372036854775807 := by simp only [maxLen] at h63; omega
      have hrun := run_append_grow (P := P) w t ty e i z ht hi hz g 0 0 [] (by simp) (fun j v hv => by simp at hv) ad m c news (by rw [hsz, hm]; omega) hcells (by omega) (by omega)
        (growslice_fits_wide (by omega) (by rw [hby]; simpa using hbytes))
      simp only [Nat.zero_add] at hrun
      refine ⟨_, _, _, hrun, ?_, (Below.refl w.heap.size w.drew).alloc (Nat.le_refl _) _ |> fun h => ⟨h.os, h.tape, h.output, h.size, h.block⟩⟩
      refine Rd.of_block (heap_alloc_new w.drew _) (by simp) ?_
      refine ⟨(Builtin.zeroCells z.cells (grownCap w m 0 e - m)).toList, ?_⟩
      simp
theorem app0_step {w : World} {ops : Array Oper} {o : Oper} {a : Act} {K : Act → World → Prop} {Q : Exit → Act → World → Prop} {E : Prop} (hgd : o.guard = none) (s x : Operand)
    (ho : o.op = .call { callee := .builtin .append, args := #[s, x], argTypes := #[22, 22] })
    (g : Addr) (hs : a.eval s = .slice (some g) 0 0)
    (A2 : Option Addr) (m c B : Nat) (news : List UInt64) (hm : news.length = m) (hx : a.eval x = .slice A2 m c) (hr : Rd w B A2 (news.map U)) (hnil : A2 = none → m = 0)
    (hbytes : m ≤ 26388279066624)
    (h : ∀ A' cap' w', Rd w' w'.heap.size A' (news.map U) → Below w.heap.size w w' → K (a.put o.dst (.slice A' m cap')) w') :
    if Region.wanted o (yielded ops a.tmps) = true then Oper.wp Tryd.prog o a w K Q else E := by
  obtain ⟨i0, hi0, hz0, hz1, hz2⟩ := info_parts app64_info
  obtain ⟨A', cap', w', hrun, h2, h3⟩ := run_app0 (P := Tryd.prog) w 22 o.type 25 i0 _ 8 Tryd.underlying22 hi0 hz0 hz1 hz2 rfl g A2 m c B (news.map U) (by rw [List.length_map]; exact hm) hr hnil (by simp only [maxLen]; omega) (by omega)
  have hw : Region.wanted o (yielded ops a.tmps) = true := by simp [Region.wanted, hgd]
  rw [if_pos hw]
  unfold Oper.wp execOp
  simp only [ho, resolve, invoke, builtin, Sem.run_bind, Sem.run_pure, Result.andThen_ok, List.map_toArray, List.map_cons, List.map_nil, hs, hx, hrun]
  exact h A' cap' w' h2 h3
end Go.Proofs.YtpjhbdhpphgldaaDoor
