/-
  A law's arguments, opened: what a reading of an argument says of the value that came in. What the frames of the lex laws share: the six listed variables, a world that meets the condition, openers with the arguments' sizes.
-/
import Derived.Test.YtghlnncfigkkaaaGreatDoorQNum
import Derived.Test.YtghlnncfigkkaaaGreatDoorQScan
import Derived.ProofKit
import Derived.OpenShut
import Derived.ShutString
import Derived.ChangeOld
import Derived.Carry
import Derived.Test.YtghlnncfigkkaaaGreatDoorRows
import Derived.LaidMore
import Derived.Stop.LaidErr
import Derived.ChangeSame
import Derived.ChangeVars
import Derived.JoinedOf
import Derived.RowKit
import Derived.RowKitTokens
import Derived.LaidLaws
import Derived.LaidHandle
import Derived.Stop.Joined
import Derived.SizedLaws
namespace Go.Proofs.YtghlnncfigkkaaaGreatDoor
set_option linter.unusedVariables false
set_option linter.unusedSimpArgs false
open Go.RowKit Go.ChangeShapes Go.WideShapes

section
variable {H : Type} {enc : TypeId × Value → H} {P : Program} {w : World}
theorem spot_none {a : Addr} {v : Value} (h : w.cell? a = some v) : a = ⟨a.block, a.off, none⟩ := by
  unfold World.cell? at h
  obtain ⟨b, o, s⟩ := a
  cases s with
  | none => rfl
  | some n =>
    split at h
    · simp at h
    · cases h
theorem add_lit (b o j : Nat) : (⟨b, o, none⟩ : Addr).add j = ⟨b, o + j, none⟩ := by unfold Addr.add; split <;> simp_all
/-- A slice of integers that came in. -/
theorem open_slice_ints {r : Reach} {b0 : Nat} {t e : TypeId} {k : IntKind} {v : Value} {d : DataW H} {p : List MemPlace} (ht : P.underlying t = some (.slice e)) (he : P.underlying e = some (.int k)) (hc : P.cellsOf e = 1)
    (hv : Value.okWide P w r b0 t v) (h : DataW.Trod enc P w 0 (fun _ => true) true t v d p) :
    ∃ (A : Option Addr) (c : Nat) (zs : List Int), v = .slice A zs.length c ∧ zs.length ≤ maxLen ∧ Rd w w.heap.size A (zs.map (Value.int k)) ∧ ∀ n ∈ zs, (Lit.int k n).wf = true := by
  obtain ⟨A, n, c, rfl⟩ := okWide_slice ht hv
  obtain ⟨fuel, hf⟩ := h
  rcases open_ints ht he hc hf with ⟨hcs, _⟩ | ⟨x, len, cap, zs, hcs, _, hl, hm, hz, _, hcell, hwz⟩
  · simp [Value.cells] at hcs
    obtain ⟨rfl, rfl, rfl⟩ := hcs
    exact ⟨none, 0, [], rfl, by simp, .inl rfl, by simp⟩
  · simp [Value.cells] at hcs
    obtain ⟨rfl, rfl, rfl⟩ := hcs
    simp only [if_true] at hz
    have hlen : (zs.take n).length = n := by rw [List.length_take]; omega
    refine ⟨some x, c, zs.take n, by rw [hlen], by omega, ?_, fun m hm => hwz m (List.mem_of_mem_take hm)⟩
    rcases Nat.eq_zero_or_pos n with h0 | h0
    · exact .inl (by subst h0; simp)
    · have hx := hcell 0 (by omega)
      rw [show x.add 0 = x from rfl] at hx
      have hx' := spot_none hx
      refine .inr ⟨x.block, x.off, by rw [← hx'], World.block_lt_of_cell? w _ hx, fun j v hv => ?_⟩
      rw [List.getElem?_map, List.getElem?_take] at hv
      split at hv
      · rename_i hj
        have hj2 := hcell j (by omega)
        rw [hx', add_lit] at hj2
        rw [hj2, ← hv, List.getElem?_eq_getElem (by omega), List.getD_eq_getElem?_getD, List.getElem?_eq_getElem (by omega)]
        rfl
      · cases hv
theorem words_of (zs : List Int) (h : ∀ n ∈ zs, (Lit.int .u64 n).wf = true) : ∃ l : List UInt64, zs = l.map fun x => (x.toNat : Int) := by
  induction zs with
  | nil => exact ⟨[], rfl⟩
  | cons z zs ih =>
    obtain ⟨l, hl⟩ := ih fun n hn => h n (List.mem_cons_of_mem _ hn)
    obtain ⟨x, hx⟩ := of_u64 (h z (by simp))
    exact ⟨x :: l, by rw [List.map_cons, ← hl, hx]⟩
theorem open_words {r : Reach} {b0 : Nat} {t e : TypeId} {v : Value} {d : DataW H} {p : List MemPlace} (ht : P.underlying t = some (.slice e)) (he : P.underlying e = some (.int .u64)) (hc : P.cellsOf e = 1)
    (hv : Value.okWide P w r b0 t v) (h : DataW.Trod enc P w 0 (fun _ => true) true t v d p) :
    ∃ (A : Option Addr) (c : Nat) (l : List UInt64), v = .slice A l.length c ∧ l.length ≤ maxLen ∧ Rd w w.heap.size A (l.map U) := by
  obtain ⟨A, c, zs, hv, hl, hr, hw⟩ := open_slice_ints ht he hc hv h
  obtain ⟨l, rfl⟩ := words_of zs hw
  refine ⟨A, c, l, by rw [hv, List.length_map], by rw [← List.length_map (f := fun x : UInt64 => (x.toNat : Int))]; exact hl, ?_⟩
  rw [List.map_map] at hr
  exact hr
/-- An integer that came in. -/
theorem open_int_in {r : Reach} {b0 : Nat} {t : TypeId} {k : IntKind} {v : Value} {d : DataW H} {p : List MemPlace} (ht : P.underlying t = some (.int k))
    (hv : Value.okWide P w r b0 t v) (h : DataW.Trod enc P w 0 (fun _ => true) true t v d p) : ∃ n : Int, v = .int k n ∧ (Lit.int k n).wf = true := by
  obtain ⟨n, rfl, _, _, hw⟩ := open_int ht hv h
  exact ⟨n, rfl, hw⟩
theorem open_word {r : Reach} {b0 : Nat} {t : TypeId} {v : Value} {d : DataW H} {p : List MemPlace} (ht : P.underlying t = some (.int .u64))
    (hv : Value.okWide P w r b0 t v) (h : DataW.Trod enc P w 0 (fun _ => true) true t v d p) : ∃ x : UInt64, v = U x := by
  obtain ⟨n, rfl, hw⟩ := open_int_in ht hv h
  obtain ⟨x, rfl⟩ := of_u64 hw
  exact ⟨x, rfl⟩
theorem open_int64 {r : Reach} {b0 : Nat} {t : TypeId} {v : Value} {d : DataW H} {p : List MemPlace} (ht : P.underlying t = some (.int .i64))
    (hv : Value.okWide P w r b0 t v) (h : DataW.Trod enc P w 0 (fun _ => true) true t v d p) : ∃ x : Int, v = .int .i64 x ∧ -9223372036854775808 ≤ x ∧ x ≤ 9223372036854775807 := by
  obtain ⟨n, rfl, hw⟩ := open_int_in ht hv h
  have hb := Go.bounds_i64 hw
  exact ⟨n, rfl, hb⟩
theorem okWide_array {r : Reach} {b0 : Nat} {t e : TypeId} {n : Nat} {v : Value} (ht : P.underlying t = some (.array n e)) (h : Value.okWide P w r b0 t v) : ∃ cs, v = .agg cs ∧ cs.size = P.cellsOf t := by
  unfold Value.okWide at h
  rw [ht] at h
  cases v <;> simp_all
/-- An array of integers by value. -/
theorem open_ints_array {r : Reach} {b0 : Nat} {t e : TypeId} {n : Nat} {k : IntKind} {v : Value} {d : DataW H} {p : List MemPlace} (ht : P.underlying t = some (.array n e)) (he : P.underlying e = some (.int k)) (hc : P.cellsOf e = 1) (hcs : P.cellsOf t = n)
    (hv : Value.okWide P w r b0 t v) (h : DataW.Trod enc P w 0 (fun _ => true) true t v d p) : ∃ zs : List Int, zs.length = n ∧ v = .agg (zs.map (Value.int k)).toArray ∧ ∀ z ∈ zs, (Lit.int k z).wf = true := by
  obtain ⟨cs, rfl, hsz⟩ := okWide_array ht hv
  obtain ⟨fuel, hf⟩ := h
  obtain ⟨xs, m, _, _, hq, hl, hat⟩ := DataW.trod_array ht hf
  obtain ⟨cl⟩ := cs
  have hlen : cl.length = n := by rw [hcs] at hsz; simpa using hsz
  have each : ∀ i (hi : i < cl.length), ∃ z, cl[i] = Value.int k z ∧ (Lit.int k z).wf = true := by
    intro i hi
    have h1 := hat i (by omega)
    rw [hc, Nat.mul_one] at h1
    have h2 : (((Value.agg ⟨cl⟩).cells.toList.drop i).take 1) = [cl[i]] := by
      show (cl.drop i).take 1 = _
      rw [List.drop_eq_getElem_cons hi]
      rfl
    rw [h2] at h1
    obtain ⟨y, hy⟩ : ∃ y, xs[i]? = some y := ⟨xs[i]'(by omega), List.getElem?_eq_getElem (by omega)⟩
    rw [hy] at h1
    obtain ⟨z, hz, _, hw⟩ := DataW.trod_int he h1
    simp at hz
    exact ⟨z, hz, hw⟩
  clear hat hf hsz hv hl hq
  have : ∃ zs : List Int, cl = zs.map (Value.int k) ∧ ∀ z ∈ zs, (Lit.int k z).wf = true := by
    clear hlen
    induction cl with
    | nil => exact ⟨[], rfl, by simp⟩
    | cons c cl ih =>
      obtain ⟨zs, hzs, hw⟩ := ih fun i hi => by have := each (i + 1) (by simp; omega); simpa using this
      obtain ⟨z, hz, hzw⟩ := each 0 (by simp)
      simp at hz
      refine ⟨z :: zs, by rw [List.map_cons, ← hzs, hz], ?_⟩
      intro y hy
      rcases List.mem_cons.1 hy with rfl | hy
      · exact hzw
      · exact hw y hy
  obtain ⟨zs, rfl, hw⟩ := this
  exact ⟨zs, by simpa using hlen, rfl, hw⟩
theorem open_label {r : Reach} {b0 : Nat} {t e : TypeId} {v : Value} {d : DataW H} {p : List MemPlace} (ht : P.underlying t = some (.array 2 e)) (he : P.underlying e = some (.int .u64)) (hc : P.cellsOf e = 1) (hcs : P.cellsOf t = 2)
    (hv : Value.okWide P w r b0 t v) (h : DataW.Trod enc P w 0 (fun _ => true) true t v d p) : ∃ a b : UInt64, v = .agg #[U a, U b] := by
  obtain ⟨zs, hl, rfl, hw⟩ := open_ints_array ht he hc hcs hv h
  match zs, hl with
  | [x, y], _ =>
    obtain ⟨a, rfl⟩ := of_u64 (hw x (by simp))
    obtain ⟨b, rfl⟩ := of_u64 (hw y (by simp))
    exact ⟨a, b, rfl⟩
end
end Go.Proofs.YtghlnncfigkkaaaGreatDoor
namespace Go.Proofs.YtghlnncfigkkaaaGreatDoor
set_option linter.unusedVariables false
set_option linter.unusedSimpArgs false
open Go.ChangeShapes Go.WideShapes Go.RowKit
theorem dOwn : ownKnob Tryz.prog.godebug = none := by kernel_rfl
theorem dLaidOut : laidOutB Tryz.prog = true := by kernel_rfl
theorem dEt : Tryz.prog.globalNamed "errors.errorType" = some 0 := by kernel_rfl
theorem dRt : (Tryz.prog.cutTypes.find? (·.1 == "internal/reflectlite.rtype")).map (·.2) = some 237 := by kernel_rfl
theorem dOne : ((List.range Tryz.prog.types.size).filter fun t => Tryz.prog.rowNamed t [101, 114, 114, 111, 114]) = [28] := by kernel_rfl
theorem dHandle : typeHandle Tryz.prog 28 = hand 28 := by kernel_rfl
/-- The condition on the listed variable. -/
abbrev LaidW (W : World) : Prop := laidMetH Tryz.prog [("math/bits.deBruijn32tab", Rows.laid_math_bits_deBruijn32tab), ("math/bits.deBruijn64tab", Rows.laid_math_bits_deBruijn64tab), ("internal/strconv.uint64pow10", Rows.laid_internal_strconv_uint64pow10), ("errors.errorType", Rows.laid_errors_errorType), ("strconv.ErrRange", Rows.laid_strconv_ErrRange), ("strconv.ErrSyntax", Rows.laid_strconv_ErrSyntax)] W
theorem etyped_of_laid {W : World} (h : LaidW W) : ETyped W := by
  have h' : laidMet Tryz.prog [("math/bits.deBruijn32tab", Rows.laid_math_bits_deBruijn32tab), ("math/bits.deBruijn64tab", Rows.laid_math_bits_deBruijn64tab), ("internal/strconv.uint64pow10", Rows.laid_internal_strconv_uint64pow10), ("strconv.ErrRange", Rows.laid_strconv_ErrRange), ("strconv.ErrSyntax", Rows.laid_strconv_ErrSyntax)] W ∧ handlesMet Tryz.prog [("errors.errorType", Rows.laid_errors_errorType)] W := h
  obtain ⟨name, u, ty, e1, e2, e3, e4, e5⟩ := h'.2 _ (List.mem_singleton.2 rfl)
  have en : name = [101, 114, 114, 111, 114] := (Option.some.inj e1).symm
  subst en
  obtain rfl := Option.some.inj (dRt.symm.trans e2)
  have hm : ty ∈ (List.range Tryz.prog.types.size).filter fun t => Tryz.prog.rowNamed t [101, 114, 114, 111, 114] := List.mem_filter.2 ⟨List.mem_range.2 e3, e4⟩
  rw [dOne] at hm
  obtain rfl := List.mem_singleton.1 hm
  rw [dHandle] at e5
  have hc := World.var?_cell dEt e5 0
  unfold ETyped
  simpa [ETy] using hc
theorem dRg : Tryz.prog.globalNamed "strconv.ErrRange" = some 3 := by kernel_rfl
theorem dRgT : (Tryz.prog.globals[3]?).map (·.type) = some 28 := by kernel_rfl
theorem errt_of_laid {W : World} (h : LaidW W) : ErrT W := by
  have h' : laidMet Tryz.prog [("math/bits.deBruijn32tab", Rows.laid_math_bits_deBruijn32tab), ("math/bits.deBruijn64tab", Rows.laid_math_bits_deBruijn64tab), ("internal/strconv.uint64pow10", Rows.laid_internal_strconv_uint64pow10), ("strconv.ErrRange", Rows.laid_strconv_ErrRange), ("strconv.ErrSyntax", Rows.laid_strconv_ErrSyntax)] W ∧ handlesMet Tryz.prog [("errors.errorType", Rows.laid_errors_errorType)] W := h
  have h2 := h'.1.tail.tail.tail
  obtain ⟨ps, ⟨g0, t0, cs0, f0, p0, q0, hg0, ht0, hv0, hd0, _, e0⟩, _, _⟩ := h2
  obtain rfl := Option.some.inj (dRg.symm.trans hg0)
  obtain rfl := Option.some.inj (dRgT.symm.trans ht0)
  obtain ⟨l0⟩ := cs0
  obtain ⟨_, u, v, hl, _⟩ := iface_of_trod Tryz.underlying28 hd0
  have hc := World.var?_cell dRg hv0 0
  subst hl
  exact ⟨u, v, by simpa using hc⟩
/-- A world that meets the condition. -/
noncomputable abbrev dWorld (os : Os) : World := World.doorLaid Tryz.prog 69 os
theorem dWorld_met (os : Os) (args : Array Value) : LaidW ((dWorld os).forCall (fun _ _ => 0) ⟨#[], args, []⟩).memory :=
  laidMetH_of_parts (laidMet_of_run' 8 (by kernel_rfl) (by kernel_rfl)) (by kernel_rfl)
section
variable {H : Type} {enc : TypeId × Value → H} {w : World}
theorem of_u8 {n : Int} (h : (Lit.int .u8 n).wf = true) : ∃ x : UInt8, n = (x.toNat : Int) := by
  have hb : 0 ≤ n ∧ n ≤ 255 := Go.bounds_u8 h
  refine ⟨UInt8.ofNat n.toNat, ?_⟩
  rw [UInt8.toNat_ofNat_of_lt' (by simp only [UInt8.size]; omega)]; omega
end
end Go.Proofs.YtghlnncfigkkaaaGreatDoor
