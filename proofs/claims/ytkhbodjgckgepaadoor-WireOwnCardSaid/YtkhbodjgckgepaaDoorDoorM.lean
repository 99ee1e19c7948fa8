/-
  A message that came in: opened, with its size.
-/
import Derived.Test.YtkhbodjgckgepaaDoorDoor
import Derived.Lib.SmallJoins
namespace Go.Proofs.YtkhbodjgckgepaaDoor
set_option linter.unusedVariables false
set_option linter.unusedSimpArgs false
open Go.ChangeShapes Go.WideShapes Go.RowKit Go.Joins
section
variable {H : Type} {enc : TypeId × Value → H} {w : World}
theorem slice_words_fuel {t e : TypeId} {fuel : Nat} {v : Value} {x : DataW H × List MemPlace} (ht : Tryd.prog.underlying t = some (.slice e)) (he : Tryd.prog.underlying e = some (.int .u64)) (hc : Tryd.prog.cellsOf e = 1)
    (hf : DataW.trod enc Tryd.prog w 0 (fun _ => true) true fuel t [v] = some x) :
    ∃ (A : Option Addr) (c : Nat) (l : List UInt64), v = .slice A l.length c ∧ l.length ≤ c ∧ c ≤ maxLen ∧ Rd w w.heap.size A (l.map U) ∧ (x.1 = .nil ∧ c = 0 ∨ ∃ es sp, x.1 = .slice es sp ∧ es.length + sp.length = c) := by
  rcases open_ints ht he hc hf with ⟨hcs, hx⟩ | ⟨a, len, cap, zs, hcs, _, hl, hm, hz, hx, hcell, hwz⟩
  · injection hcs with hcs
    subst hcs
    exact ⟨none, 0, [], rfl, by simp, by simp, .inl rfl, .inl ⟨by rw [hx], rfl⟩⟩
  · injection hcs with hcs
    subst hcs
    simp only [if_true] at hz
    have hlen : (zs.take len).length = len := by rw [List.length_take]; omega
    obtain ⟨l, hl2⟩ := words_of (zs.take len) fun m hm => hwz m (List.mem_of_mem_take hm)
    have hll : l.length = len := by rw [← hlen, hl2, List.length_map]
    refine ⟨some a, cap, l, by rw [hll], by omega, hm, ?_, .inr ⟨_, _, by rw [hx], ?_⟩⟩
    · have e : l.map U = (zs.take len).map (Value.int .u64) := by rw [hl2, List.map_map]; rfl
      rw [e]
      rcases Nat.eq_zero_or_pos len with h0 | h0
      · exact .inl (by subst h0; simp)
      · have hx := hcell 0 (by omega)
        rw [show a.add 0 = a from rfl] at hx
        have hx' := spot_none hx
        refine .inr ⟨a.block, a.off, by rw [← hx'], World.block_lt_of_cell? w _ hx, fun j v hv => ?_⟩
        rw [List.getElem?_map, List.getElem?_take] at hv
        split at hv
        · rename_i hj
          have hj2 := hcell j (by omega)
          rw [hx', add_lit] at hj2
          rw [hj2, ← hv, List.getElem?_eq_getElem (by omega), List.getD_eq_getElem?_getD, List.getElem?_eq_getElem (by omega)]
          rfl
        · cases hv
    · simp only [lits, List.length_map, List.length_take, List.length_drop]
      omega
theorem open_msg {r : Reach} {b0 : Nat} {v : Value} {d : DataW H} {p : List MemPlace}
    (hv : Value.okWide Tryd.prog w r b0 42 v) (h : DataW.Trod enc Tryd.prog w 0 (fun _ => true) true 42 v d p)
    {ts : List TypeId} {ds : List (DataW H)} (hsz : (DataW.weightsEach Tryd.prog ts ds).all (· ≤ reachBytes) = true) (j : Nat) (hj : ts[j]? = some 42) (hd : ds[j]? = some d) :
    ∃ (x : Int) (A : Option Addr) (c : Nat) (l : List UInt64), v = .agg #[.int .i64 x, .slice A l.length c] ∧ -9223372036854775808 ≤ x ∧ x ≤ 9223372036854775807 ∧ l.length ≤ c ∧ c ≤ 17592186043904 ∧ Rd w w.heap.size A (l.map U) := by
  obtain ⟨v0, v1, y0, y1, n, rfl, rfl, rfl, h0, h1⟩ := open_agg2 Tryd.underlying42 (by kernel_rfl) (by kernel_rfl) hv h
  obtain ⟨z, hz, _, hw⟩ := DataW.trod_int Tryd.underlying3 h0
  injection hz with hz
  subst hz
  have hb := Go.bounds_i64 hw
  obtain ⟨A, c, l, rfl, hl, hm, hr, hs⟩ := slice_words_fuel Tryd.underlying40 Tryd.underlying24 (by kernel_rfl) h1
  refine ⟨z, A, c, l, rfl, hb.1, hb.2, hl, ?_, hr⟩
  rcases hs with ⟨_, rfl⟩ | ⟨es, sp, he, hes⟩
  · omega
  · have h8 : Tryd.prog.bytesOf 24 = 8 := by kernel_rfl
    have hm2 : (es.length + sp.length) * Tryd.prog.bytesOf 24 ∈ (DataW.agg [y0.1, y1.1]).weights Tryd.prog 42 := by
      simp only [DataW.weights, Tryd.underlying42]
      refine DataW.weights_mem_each (j := 1) (t := 40) (d := y1.1) rfl rfl _ ?_
      rw [he]
      simp [DataW.weights, Tryd.underlying40]
    have h2 := List.all_eq_true.1 hsz _ (DataW.weights_mem_each hj hd _ hm2)
    rw [h8, hes] at h2
    have h3 := of_decide_eq_true h2
    simp only [reachBytes] at h3
    omega
end
end Go.Proofs.YtkhbodjgckgepaaDoor
