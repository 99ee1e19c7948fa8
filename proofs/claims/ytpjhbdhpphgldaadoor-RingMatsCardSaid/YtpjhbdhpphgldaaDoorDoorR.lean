/-
  What the frames of the laws with the one listed variable share: the variable's cell, a world that meets the condition, openers with the arguments' sizes.
-/
import Derived.Test.YtpjhbdhpphgldaaDoorRows
import Derived.Test.YtpjhbdhpphgldaaDoorETy
import Derived.Test.YtpjhbdhpphgldaaDoorOpen
import Derived.Test.YtpjhbdhpphgldaaDoorByt
import Derived.ChangeSame
import Derived.ChangeVars
import Derived.JoinedOf
import Derived.RowKit
import Derived.RowKitTokens
import Derived.LaidLaws
import Derived.LaidHandle
import Derived.Stop.Joined
import Derived.SizedLaws
namespace Go.Proofs.YtpjhbdhpphgldaaDoor
set_option linter.unusedVariables false
set_option linter.unusedSimpArgs false
open Go.ChangeShapes Go.WideShapes Go.RowKit
theorem dOwn : ownKnob Tryd.prog.godebug = none := by kernel_rfl
theorem dLaidOut : laidOutB Tryd.prog = true := by kernel_rfl
theorem dEt : Tryd.prog.globalNamed "errors.errorType" = some 0 := by kernel_rfl
theorem dRt : (Tryd.prog.cutTypes.find? (·.1 == "internal/reflectlite.rtype")).map (·.2) = some 56 := by kernel_rfl
theorem dOne : ((List.range Tryd.prog.types.size).filter fun t => Tryd.prog.rowNamed t [101, 114, 114, 111, 114]) = [27] := by kernel_rfl
theorem dHandle : typeHandle Tryd.prog 27 = hand 27 := by kernel_rfl
/-- The condition on the listed variable. -/
abbrev LaidW (W : World) : Prop := laidMetH Tryd.prog [("errors.errorType", Rows.laid_errors_errorType)] W
theorem etyped_of_laid {W : World} (h : LaidW W) : ETyped W := by
  have h' : laidMet Tryd.prog [] W ∧ handlesMet Tryd.prog [("errors.errorType", Rows.laid_errors_errorType)] W := h
  obtain ⟨name, u, ty, e1, e2, e3, e4, e5⟩ := h'.2 _ (List.mem_singleton.2 rfl)
  have en : name = [101, 114, 114, 111, 114] := (Option.some.inj e1).symm
  subst en
  obtain rfl := Option.some.inj (dRt.symm.trans e2)
  have hm : ty ∈ (List.range Tryd.prog.types.size).filter fun t => Tryd.prog.rowNamed t [101, 114, 114, 111, 114] := List.mem_filter.2 ⟨List.mem_range.2 e3, e4⟩
  rw [dOne] at hm
  obtain rfl := List.mem_singleton.1 hm
  rw [dHandle] at e5
  have hc := World.var?_cell dEt e5 0
  unfold ETyped
  simpa [ETy] using hc
/-- A world that meets the condition. -/
noncomputable def dWorld (os : Os) : World :=
  let w0 := World.holding Tryd.prog os ⟨#[], #[], []⟩
  { w0 with heap := w0.heap.modify 0 fun
      | .cells _ t frozen => .cells #[ETy] t frozen
      | o => o }
theorem dWorld_met (os : Os) (args : Array Value) : LaidW ((dWorld os).forCall (fun _ _ => 0) ⟨#[], args, []⟩).memory :=
  laidMetH_of_parts (laidMet_nil _ _) (by kernel_rfl)
section
variable {H : Type} {enc : TypeId × Value → H} {w : World}
theorem of_u8 {n : Int} (h : (Lit.int .u8 n).wf = true) : ∃ x : UInt8, n = (x.toNat : Int) := by
  have hb : 0 ≤ n ∧ n ≤ 255 := Go.bounds_u8 h
  refine ⟨UInt8.ofNat n.toNat, ?_⟩
  rw [UInt8.toNat_ofNat_of_lt' (by simp only [UInt8.size]; omega)]; omega
theorem open_byte {r : Reach} {b0 : Nat} {t : TypeId} {v : Value} {d : DataW H} {p : List MemPlace} (ht : Tryd.prog.underlying t = some (.int .u8))
    (hv : Value.okWide Tryd.prog w r b0 t v) (h : DataW.Trod enc Tryd.prog w 0 (fun _ => true) true t v d p) : ∃ x : UInt8, v = V8 x := by
  obtain ⟨n, rfl, hw⟩ := open_int_in ht hv h
  obtain ⟨x, rfl⟩ := of_u8 hw
  exact ⟨x, rfl⟩
theorem bytes_of (zs : List Int) (h : ∀ n ∈ zs, (Lit.int .u8 n).wf = true) : ∃ l : List UInt8, zs = l.map fun x => (x.toNat : Int) := by
  induction zs with
  | nil => exact ⟨[], rfl⟩
  | cons z zs ih =>
    obtain ⟨l, hl⟩ := ih fun n hn => h n (List.mem_cons_of_mem _ hn)
    obtain ⟨x, hx⟩ := of_u8 (h z (by simp))
    exact ⟨x :: l, by rw [List.map_cons, ← hl, hx]⟩
theorem open_slice_sized {r : Reach} {b0 : Nat} {t e : TypeId} {k : IntKind} {v : Value} {d : DataW H} {p : List MemPlace} (ht : Tryd.prog.underlying t = some (.slice e)) (he : Tryd.prog.underlying e = some (.int k)) (hc : Tryd.prog.cellsOf e = 1)
    (hv : Value.okWide Tryd.prog w r b0 t v) (h : DataW.Trod enc Tryd.prog w 0 (fun _ => true) true t v d p)
    {ts : List TypeId} {ds : List (DataW H)} (hsz : (DataW.weightsEach Tryd.prog ts ds).all (· ≤ reachBytes) = true) (j : Nat) (hj : ts[j]? = some t) (hd : ds[j]? = some d) :
    ∃ (A : Option Addr) (c : Nat) (zs : List Int), v = .slice A zs.length c ∧ zs.length ≤ c ∧ c ≤ maxLen ∧ c * Tryd.prog.bytesOf e ≤ reachBytes ∧ Rd w w.heap.size A (zs.map (Value.int k)) ∧ ∀ n ∈ zs, (Lit.int k n).wf = true := by
  obtain ⟨A, n, c, rfl⟩ := okWide_slice ht hv
  obtain ⟨fuel, hf⟩ := h
  rcases open_ints ht he hc hf with ⟨hcs, _⟩ | ⟨x, len, cap, zs, hcs, _, hl, hm, hz, hx, hcell, hwz⟩
  · simp [Value.cells] at hcs
    obtain ⟨rfl, rfl, rfl⟩ := hcs
    exact ⟨none, 0, [], rfl, by simp, by simp, by simp, .inl rfl, by simp⟩
  · simp [Value.cells] at hcs
    obtain ⟨rfl, rfl, rfl⟩ := hcs
    simp only [if_true] at hz
    have hlen : (zs.take n).length = n := by rw [List.length_take]; omega
    have hdx : d = .slice (lits k (zs.take n)) (lits k (zs.drop n)) := (Prod.mk.inj hx).1
    have hs := sized_slice hsz hj (hd.trans (congrArg some hdx)) ht
    have hsum : (lits (H := H) k (zs.take n)).length + (lits (H := H) k (zs.drop n)).length = c := by
      simp only [lits, List.length_map, List.length_take, List.length_drop]
      omega
    rw [hsum] at hs
    refine ⟨some x, c, zs.take n, by rw [hlen], by omega, hm, hs, ?_, fun m hm => hwz m (List.mem_of_mem_take hm)⟩
    rcases Nat.eq_zero_or_pos n with h0 | h0
    · exact .inl (by subst h0; simp)
    · have hx := hcell 0 (by omega)
      rw [show x.add 0 = x from rfl] at hx
      have hx' := spot_none hx
      refine .inr ⟨x.block, x.off, by rw [← hx'], World.block_lt_of_cell? w _ hx, fun j v hv => ?_⟩
      rw [List.getElem?_map, List.getElem?_take] at hv
      split at hv
      · rename_i hj
        have hj2 := hcell j (by omega)
        rw [hx', add_lit] at hj2
        rw [hj2, ← hv, List.getElem?_eq_getElem (by omega), List.getD_eq_getElem?_getD, List.getElem?_eq_getElem (by omega)]
        rfl
      · cases hv
theorem open_bytes {r : Reach} {b0 : Nat} {t e : TypeId} {v : Value} {d : DataW H} {p : List MemPlace} (ht : Tryd.prog.underlying t = some (.slice e)) (he : Tryd.prog.underlying e = some (.int .u8)) (hc : Tryd.prog.cellsOf e = 1) (hb : Tryd.prog.bytesOf e = 1)
    (hv : Value.okWide Tryd.prog w r b0 t v) (h : DataW.Trod enc Tryd.prog w 0 (fun _ => true) true t v d p)
    {ts : List TypeId} {ds : List (DataW H)} (hsz : (DataW.weightsEach Tryd.prog ts ds).all (· ≤ reachBytes) = true) (j : Nat) (hj : ts[j]? = some t) (hd : ds[j]? = some d) :
    ∃ (A : Option Addr) (c : Nat) (l : List UInt8), v = .slice A l.length c ∧ l.length ≤ c ∧ c ≤ 140737488351232 ∧ Rd w w.heap.size A (l.map V8) := by
  obtain ⟨A, c, zs, hv, hl, hm, hs, hr, hw⟩ := open_slice_sized ht he hc hv h hsz j hj hd
  obtain ⟨l, rfl⟩ := bytes_of zs hw
  rw [hb] at hs
  refine ⟨A, c, l, by rw [hv, List.length_map], by simpa using hl, by simp only [reachBytes] at hs; omega, ?_⟩
  rw [List.map_map] at hr
  exact hr
theorem open_words_sized {r : Reach} {b0 : Nat} {t e : TypeId} {v : Value} {d : DataW H} {p : List MemPlace} (ht : Tryd.prog.underlying t = some (.slice e)) (he : Tryd.prog.underlying e = some (.int .u64)) (hc : Tryd.prog.cellsOf e = 1) (hb : Tryd.prog.bytesOf e = 8)
    (hv : Value.okWide Tryd.prog w r b0 t v) (h : DataW.Trod enc Tryd.prog w 0 (fun _ => true) true t v d p)
    {ts : List TypeId} {ds : List (DataW H)} (hsz : (DataW.weightsEach Tryd.prog ts ds).all (· ≤ reachBytes) = true) (j : Nat) (hj : ts[j]? = some t) (hd : ds[j]? = some d) :
    ∃ (A : Option Addr) (c : Nat) (l : List UInt64), v = .slice A l.length c ∧ l.length ≤ c ∧ c ≤ 17592186043904 ∧ Rd w w.heap.size A (l.map U) := by
  obtain ⟨A, c, zs, hv, hl, hm, hs, hr, hw⟩ := open_slice_sized ht he hc hv h hsz j hj hd
  obtain ⟨l, rfl⟩ := words_of zs hw
  rw [hb] at hs
  refine ⟨A, c, l, by rw [hv, List.length_map], by simpa using hl, by simp only [reachBytes] at hs; omega, ?_⟩
  rw [List.map_map] at hr
  exact hr
theorem open_ints3 {r : Reach} {b0 : Nat} {t e : TypeId} {v : Value} {d : DataW H} {p : List MemPlace} (ht : Tryd.prog.underlying t = some (.array 3 e)) (he : Tryd.prog.underlying e = some (.int .i64)) (hc : Tryd.prog.cellsOf e = 1) (hcs : Tryd.prog.cellsOf t = 3)
    (hv : Value.okWide Tryd.prog w r b0 t v) (h : DataW.Trod enc Tryd.prog w 0 (fun _ => true) true t v d p) :
    ∃ a b c : Int, v = .agg #[.int .i64 a, .int .i64 b, .int .i64 c] ∧ -9223372036854775808 ≤ a ∧ a ≤ 9223372036854775807 ∧ -9223372036854775808 ≤ b ∧ b ≤ 9223372036854775807 ∧ -9223372036854775808 ≤ c ∧ c ≤ 9223372036854775807 := by
  obtain ⟨zs, hl, rfl, hw⟩ := open_ints_array ht he hc hcs hv h
  match zs, hl with
  | [x, y, z], _ =>
    have h1 := Go.bounds_i64 (hw x (by simp))
    have h2 := Go.bounds_i64 (hw y (by simp))
    have h3 := Go.bounds_i64 (hw z (by simp))
    exact ⟨x, y, z, rfl, h1.1, h1.2, h2.1, h2.2, h3.1, h3.2⟩
end
end Go.Proofs.YtpjhbdhpphgldaaDoor
