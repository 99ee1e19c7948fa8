/-
  A row of integers among the arguments, with its bulk.
-/
import Derived.Test.YthnkeejiocnflaaGreatDoorQOpen
namespace Go.Proofs.YthnkeejiocnflaaGreatDoor
set_option linter.unusedVariables false
set_option linter.unusedSimpArgs false
set_option maxRecDepth 100000
open Go.ChangeShapes Go.WideShapes Go.ChangeAt Go.RowKit
section
variable {H : Type} {enc : TypeId × Value → H} {w : World}
theorem open_slice_sized {r : Reach} {b0 : Nat} {t e : TypeId} {k : IntKind} {v : Value} {d : DataW H} {p : List MemPlace} (ht : Tryz.prog.underlying t = some (.slice e)) (he : Tryz.prog.underlying e = some (.int k)) (hc : Tryz.prog.cellsOf e = 1)
    (hv : Value.okWide Tryz.prog w r b0 t v) (h : DataW.Trod enc Tryz.prog w 0 (fun _ => true) true t v d p)
    {ts : List TypeId} {ds : List (DataW H)} (hsz : (DataW.weightsEach Tryz.prog ts ds).all (· ≤ reachBytes) = true) (j : Nat) (hj : ts[j]? = some t) (hd : ds[j]? = some d) :
    ∃ (A : Option Addr) (c : Nat) (zs : List Int), v = .slice A zs.length c ∧ zs.length ≤ c ∧ c ≤ maxLen ∧ c * Tryz.prog.bytesOf e ≤ reachBytes ∧ Rd w w.heap.size A (zs.map (Value.int k)) ∧ ∀ n ∈ zs, (Lit.int k n).wf = true := by
  obtain ⟨A, n, c, rfl⟩ := okWide_slice ht hv
  obtain ⟨fuel, hf⟩ := h
  rcases open_ints ht he hc hf with ⟨hcs, _⟩ | ⟨x, len, cap, zs, hcs, _, hl, hm, hz, hx, hcell, hwz⟩
  · simp [Value.cells] at hcs
    obtain ⟨rfl, rfl, rfl⟩ := hcs
    exact ⟨none, 0, [], rfl, by simp, by simp, by simp, .inl rfl, by simp⟩
  · simp [Value.cells] at hcs
    obtain ⟨rfl, rfl, rfl⟩ := hcs
    simp only [if_true] at hz
    have hlen : (zs.take n).length = n := by rw [List.length_take]; omega
    have hdx : d = .slice (lits k (zs.take n)) (lits k (zs.drop n)) := (Prod.mk.inj hx).1
    have hs := sized_slice hsz hj (hd.trans (congrArg some hdx)) ht
    have hsum : (lits (H := H) k (zs.take n)).length + (lits (H := H) k (zs.drop n)).length = c := by
      simp only [lits, List.length_map, List.length_take, List.length_drop]
      omega
    rw [hsum] at hs
    refine ⟨some x, c, zs.take n, by rw [hlen], by omega, hm, hs, ?_, fun m hm => hwz m (List.mem_of_mem_take hm)⟩
    rcases Nat.eq_zero_or_pos n with h0 | h0
    · exact .inl (by subst h0; simp)
    · have hx := hcell 0 (by omega)
      rw [show x.add 0 = x from rfl] at hx
      have hx' := spot_none hx
      refine .inr ⟨x.block, x.off, by rw [← hx'], World.block_lt_of_cell? w _ hx, fun j v hv => ?_⟩
      rw [List.getElem?_map, List.getElem?_take] at hv
      split at hv
      · rename_i hj
        have hj2 := hcell j (by omega)
        rw [hx', add_lit] at hj2
        rw [hj2, ← hv, List.getElem?_eq_getElem (by omega), List.getD_eq_getElem?_getD, List.getElem?_eq_getElem (by omega)]
        rfl
      · cases hv
theorem open_ints_sized {r : Reach} {b0 : Nat} {t e : TypeId} {v : Value} {d : DataW H} {p : List MemPlace} (ht : Tryz.prog.underlying t = some (.slice e)) (he : Tryz.prog.underlying e = some (.int .i64)) (hc : Tryz.prog.cellsOf e = 1) (hb : Tryz.prog.bytesOf e = 8)
    (hv : Value.okWide Tryz.prog w r b0 t v) (h : DataW.Trod enc Tryz.prog w 0 (fun _ => true) true t v d p)
    {ts : List TypeId} {ds : List (DataW H)} (hsz : (DataW.weightsEach Tryz.prog ts ds).all (· ≤ reachBytes) = true) (j : Nat) (hj : ts[j]? = some t) (hd : ds[j]? = some d) :
    ∃ (A : Option Addr) (c : Nat) (l : List Int), v = .slice A l.length c ∧ l.length ≤ c ∧ c ≤ 17592186043904 ∧ Rd w w.heap.size A (l.map (Value.int .i64)) := by
  obtain ⟨A, c, zs, hv, hl, hm, hs, hr, hw⟩ := open_slice_sized ht he hc hv h hsz j hj hd
  rw [hb] at hs
  exact ⟨A, c, zs, hv, hl, by simp only [reachBytes] at hs; omega, hr⟩
end
end Go.Proofs.YthnkeejiocnflaaGreatDoor
