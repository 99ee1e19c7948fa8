/-
  A law's arguments, opened: what a reading of an argument says of the value that came in. What the frames of the lex laws share: the six listed variables, a world that meets the condition, openers with the arguments' sizes. A tree that came in: opened.
-/
import Derived.Test.YthnkeejiocnflaaGreatDoorQMem
import Derived.Test.YthnkeejiocnflaaGreatDoorQByt
import Derived.Test.YthnkeejiocnflaaGreatDoorQTree
import Derived.Test.YthnkeejiocnflaaGreatDoorQScan
import Derived.ProofKit
import Derived.OpenShut
import Derived.ShutString
import Derived.ChangeOld
import Derived.Carry
import Derived.Test.YthnkeejiocnflaaGreatDoorRows
import Derived.LaidMore
import Derived.Stop.LaidErr
import Derived.ChangeSame
import Derived.ChangeVars
import Derived.JoinedOf
import Derived.RowKit
import Derived.RowKitTokens
import Derived.LaidLaws
import Derived.LaidHandle
import Derived.Stop.Joined
import Derived.SizedLaws
import Derived.Lib.SmallJoins
import Derived.Deep.Slices
namespace Go.Proofs.YthnkeejiocnflaaGreatDoor
set_option linter.unusedVariables false
set_option linter.unusedSimpArgs false
open Go.RowKit Go.ChangeShapes Go.WideShapes

section
variable {H : Type} {enc : TypeId × Value → H} {P : Program} {w : World}
theorem spot_none {a : Addr} {v : Value} (h : w.cell? a = some v) : a = ⟨a.block, a.off, none⟩ := by
  unfold World.cell? at h
  obtain ⟨b, o, s⟩ := a
  cases s with
  | none => rfl
  | some n =>
    split at h
    · simp at h
    · cases h
theorem add_lit (b o j : Nat) : (⟨b, o, none⟩ : Addr).add j = ⟨b, o + j, none⟩ := by unfold Addr.add; split <;> simp_all
/-- A slice of integers that came in. -/
theorem open_slice_ints {r : Reach} {b0 : Nat} {t e : TypeId} {k : IntKind} {v : Value} {d : DataW H} {p : List MemPlace} (ht : P.underlying t = some (.slice e)) (he : P.underlying e = some (.int k)) (hc : P.cellsOf e = 1)
    (hv : Value.okWide P w r b0 t v) (h : DataW.Trod enc P w 0 (fun _ => true) true t v d p) :
    ∃ (A : Option Addr) (c : Nat) (zs : List Int), v = .slice A zs.length c ∧ zs.length ≤ maxLen ∧ Rd w w.heap.size A (zs.map (Value.int k)) ∧ ∀ n ∈ zs, (Lit.int k n).wf = true := by
  obtain ⟨A, n, c, rfl⟩ := okWide_slice ht hv
  obtain ⟨fuel, hf⟩ := h
  rcases open_ints ht he hc hf with ⟨hcs, _⟩ | ⟨x, len, cap, zs, hcs, _, hl, hm, hz, _, hcell, hwz⟩
  · simp [Value.cells] at hcs
    obtain ⟨rfl, rfl, rfl⟩ := hcs
    exact ⟨none, 0, [], rfl, by simp, .inl rfl, by simp⟩
  · simp [Value.cells] at hcs
    obtain ⟨rfl, rfl, rfl⟩ := hcs
    simp only [if_true] at hz
    have hlen : (zs.take n).length = n := by rw [List.length_take]; omega
    refine ⟨some x, c, zs.take n, by rw [hlen], by omega, ?_, fun m hm => hwz m (List.mem_of_mem_take hm)⟩
    rcases Nat.eq_zero_or_pos n with h0 | h0
    · exact .inl (by subst h0; simp)
    · have hx := hcell 0 (by omega)
      rw [show x.add 0 = x from rfl] at hx
      have hx' := spot_none hx
      refine .inr ⟨x.block, x.off, by rw [← hx'], World.block_lt_of_cell? w _ hx, fun j v hv => ?_⟩
      rw [List.getElem?_map, List.getElem?_take] at hv
      split at hv
      · rename_i hj
        have hj2 := hcell j (by omega)
        rw [hx', add_lit] at hj2
        rw [hj2, ← hv, List.getElem?_eq_getElem (by omega), List.getD_eq_getElem?_getD, List.getElem?_eq_getElem (by omega)]
        rfl
      · cases hv
theorem words_of (zs : List Int) (h : ∀ n ∈ zs, (Lit.int .u64 n).wf = true) : ∃ l : List UInt64, zs = l.map fun x => (x.toNat : Int) := by
  induction zs with
  | nil => exact ⟨[], rfl⟩
  | cons z zs ih =>
    obtain ⟨l, hl⟩ := ih fun n hn => h n (List.mem_cons_of_mem _ hn)
    obtain ⟨x, hx⟩ := of_u64 (h z (by simp))
    exact ⟨x :: l, by rw [List.map_cons, ← hl, hx]⟩
theorem open_words {r : Reach} {b0 : Nat} {t e : TypeId} {v : Value} {d : DataW H} {p : List MemPlace} (ht : P.underlying t = some (.slice e)) (he : P.underlying e = some (.int .u64)) (hc : P.cellsOf e = 1)
    (hv : Value.okWide P w r b0 t v) (h : DataW.Trod enc P w 0 (fun _ => true) true t v d p) :
    ∃ (A : Option Addr) (c : Nat) (l : List UInt64), v = .slice A l.length c ∧ l.length ≤ maxLen ∧ Rd w w.heap.size A (l.map U) := by
  obtain ⟨A, c, zs, hv, hl, hr, hw⟩ := open_slice_ints ht he hc hv h
  obtain ⟨l, rfl⟩ := words_of zs hw
  refine ⟨A, c, l, by rw [hv, List.length_map], by rw [← List.length_map (f := fun x : UInt64 => (x.toNat : Int))]; exact hl, ?_⟩
  rw [List.map_map] at hr
  exact hr
/-- An integer that came in. -/
theorem open_int_in {r : Reach} {b0 : Nat} {t : TypeId} {k : IntKind} {v : Value} {d : DataW H} {p : List MemPlace} (ht : P.underlying t = some (.int k))
    (hv : Value.okWide P w r b0 t v) (h : DataW.Trod enc P w 0 (fun _ => true) true t v d p) : ∃ n : Int, v = .int k n ∧ (Lit.int k n).wf = true := by
  obtain ⟨n, rfl, _, _, hw⟩ := open_int ht hv h
  exact ⟨n, rfl, hw⟩
theorem open_word {r : Reach} {b0 : Nat} {t : TypeId} {v : Value} {d : DataW H} {p : List MemPlace} (ht : P.underlying t = some (.int .u64))
    (hv : Value.okWide P w r b0 t v) (h : DataW.Trod enc P w 0 (fun _ => true) true t v d p) : ∃ x : UInt64, v = U x := by
  obtain ⟨n, rfl, hw⟩ := open_int_in ht hv h
  obtain ⟨x, rfl⟩ := of_u64 hw
  exact ⟨x, rfl⟩
theorem open_int64 {r : Reach} {b0 : Nat} {t : TypeId} {v : Value} {d : DataW H} {p : List MemPlace} (ht : P.underlying t = some (.int .i64))
    (hv : Value.okWide P w r b0 t v) (h : DataW.Trod enc P w 0 (fun _ => true) true t v d p) : ∃ x : Int, v = .int .i64 x ∧ -9223372036854775808 ≤ x ∧ x ≤ 9223372036854775807 := by
  obtain ⟨n, rfl, hw⟩ := open_int_in ht hv h
  have hb := Go.bounds_i64 hw
  exact ⟨n, rfl, hb⟩
theorem okWide_array {r : Reach} {b0 : Nat} {t e : TypeId} {n : Nat} {v : Value} (ht : P.underlying t = some (.array n e)) (h : Value.okWide P w r b0 t v) : ∃ cs, v = .agg cs ∧ cs.size = P.cellsOf t := by
  unfold Value.okWide at h
  rw [ht] at h
  cases v <;> simp_all
/-- An array of integers by value. -/
theorem open_ints_array {r : Reach} {b0 : Nat} {t e : TypeId} {n : Nat} {k : IntKind} {v : Value} {d : DataW H} {p : List MemPlace} (ht : P.underlying t = some (.array n e)) (he : P.underlying e = some (.int k)) (hc : P.cellsOf e = 1) (hcs : P.cellsOf t = n)
    (hv : Value.okWide P w r b0 t v) (h : DataW.Trod enc P w 0 (fun _ => true) true t v d p) : ∃ zs : List Int, zs.length = n ∧ v = .agg (zs.map (Value.int k)).toArray ∧ ∀ z ∈ zs, (Lit.int k z).wf = true := by
  obtain ⟨cs, rfl, hsz⟩ := okWide_array ht hv
  obtain ⟨fuel, hf⟩ := h
  obtain ⟨xs, m, _, _, hq, hl, hat⟩ := DataW.trod_array ht hf
  obtain ⟨cl⟩ := cs
  have hlen : cl.length = n := by rw [hcs] at hsz; simpa using hsz
  have each : ∀ i (hi : i < cl.length), ∃ z, cl[i] = Value.int k z ∧ (Lit.int k z).wf = true := by
    intro i hi
    have h1 := hat i (by omega)
    rw [hc, Nat.mul_one] at h1
    have h2 : (((Value.agg ⟨cl⟩).cells.toList.drop i).take 1) = [cl[i]] := by
      show (cl.drop i).take 1 = _
      rw [List.drop_eq_getElem_cons hi]
      rfl
    rw [h2] at h1
    obtain ⟨y, hy⟩ : ∃ y, xs[i]? = some y := ⟨xs[i]'(by omega), List.getElem?_eq_getElem (by omega)⟩
    rw [hy] at h1
    obtain ⟨z, hz, _, hw⟩ := DataW.trod_int he h1
    simp at hz
    exact ⟨z, hz, hw⟩
  clear hat hf hsz hv hl hq
  have : ∃ zs : List Int, cl = zs.map (Value.int k) ∧ ∀ z ∈ zs, (Lit.int k z).wf = true := by
    clear hlen
    induction cl with
    | nil => exact ⟨[], rfl, by simp⟩
    | cons c cl ih =>
      obtain ⟨zs, hzs, hw⟩ := ih fun i hi => by have := each (i + 1) (by simp; omega); simpa using this
      obtain ⟨z, hz, hzw⟩ := each 0 (by simp)
      simp at hz
      refine ⟨z :: zs, by rw [List.map_cons, ← hzs, hz], ?_⟩
      intro y hy
      rcases List.mem_cons.1 hy with rfl | hy
      · exact hzw
      · exact hw y hy
  obtain ⟨zs, rfl, hw⟩ := this
  exact ⟨zs, by simpa using hlen, rfl, hw⟩
theorem open_label {r : Reach} {b0 : Nat} {t e : TypeId} {v : Value} {d : DataW H} {p : List MemPlace} (ht : P.underlying t = some (.array 2 e)) (he : P.underlying e = some (.int .u64)) (hc : P.cellsOf e = 1) (hcs : P.cellsOf t = 2)
    (hv : Value.okWide P w r b0 t v) (h : DataW.Trod enc P w 0 (fun _ => true) true t v d p) : ∃ a b : UInt64, v = .agg #[U a, U b] := by
  obtain ⟨zs, hl, rfl, hw⟩ := open_ints_array ht he hc hcs hv h
  match zs, hl with
  | [x, y], _ =>
    obtain ⟨a, rfl⟩ := of_u64 (hw x (by simp))
    obtain ⟨b, rfl⟩ := of_u64 (hw y (by simp))
    exact ⟨a, b, rfl⟩
end
end Go.Proofs.YthnkeejiocnflaaGreatDoor
namespace Go.Proofs.YthnkeejiocnflaaGreatDoor
set_option linter.unusedVariables false
set_option linter.unusedSimpArgs false
open Go.ChangeShapes Go.WideShapes Go.RowKit
theorem dOwn : ownKnob Tryz.prog.godebug = none := by kernel_rfl
theorem dLaidOut : laidOutB Tryz.prog = true := by kernel_rfl
theorem dEt : Tryz.prog.globalNamed "errors.errorType" = some 0 := by kernel_rfl
theorem dRt : (Tryz.prog.cutTypes.find? (·.1 == "internal/reflectlite.rtype")).map (·.2) = some 140 := by kernel_rfl
theorem dOne : ((List.range Tryz.prog.types.size).filter fun t => Tryz.prog.rowNamed t [101, 114, 114, 111, 114]) = [31] := by kernel_rfl
theorem dHandle : typeHandle Tryz.prog 31 = hand 31 := by kernel_rfl
/-- The condition on the listed variable. -/
abbrev LaidW (W : World) : Prop := laidMetH Tryz.prog [("math/bits.deBruijn32tab", Rows.laid_math_bits_deBruijn32tab), ("math/bits.deBruijn64tab", Rows.laid_math_bits_deBruijn64tab), ("internal/strconv.uint64pow10", Rows.laid_internal_strconv_uint64pow10), ("errors.errorType", Rows.laid_errors_errorType), ("strconv.ErrRange", Rows.laid_strconv_ErrRange), ("strconv.ErrSyntax", Rows.laid_strconv_ErrSyntax)] W
theorem etyped_of_laid {W : World} (h : LaidW W) : ETyped W := by
  have h' : laidMet Tryz.prog [("math/bits.deBruijn32tab", Rows.laid_math_bits_deBruijn32tab), ("math/bits.deBruijn64tab", Rows.laid_math_bits_deBruijn64tab), ("internal/strconv.uint64pow10", Rows.laid_internal_strconv_uint64pow10), ("strconv.ErrRange", Rows.laid_strconv_ErrRange), ("strconv.ErrSyntax", Rows.laid_strconv_ErrSyntax)] W ∧ handlesMet Tryz.prog [("errors.errorType", Rows.laid_errors_errorType)] W := h
  obtain ⟨name, u, ty, e1, e2, e3, e4, e5⟩ := h'.2 _ (List.mem_singleton.2 rfl)
  have en : name = [101, 114, 114, 111, 114] := (Option.some.inj e1).symm
  subst en
  obtain rfl := Option.some.inj (dRt.symm.trans e2)
  have hm : ty ∈ (List.range Tryz.prog.types.size).filter fun t => Tryz.prog.rowNamed t [101, 114, 114, 111, 114] := List.mem_filter.2 ⟨List.mem_range.2 e3, e4⟩
  rw [dOne] at hm
  obtain rfl := List.mem_singleton.1 hm
  rw [dHandle] at e5
  have hc := World.var?_cell dEt e5 0
  unfold ETyped
  simpa [ETy] using hc
theorem dRg : Tryz.prog.globalNamed "strconv.ErrRange" = some 3 := by kernel_rfl
theorem dRgT : (Tryz.prog.globals[3]?).map (·.type) = some 31 := by kernel_rfl
theorem errt_of_laid {W : World} (h : LaidW W) : ErrT W := by
  have h' : laidMet Tryz.prog [("math/bits.deBruijn32tab", Rows.laid_math_bits_deBruijn32tab), ("math/bits.deBruijn64tab", Rows.laid_math_bits_deBruijn64tab), ("internal/strconv.uint64pow10", Rows.laid_internal_strconv_uint64pow10), ("strconv.ErrRange", Rows.laid_strconv_ErrRange), ("strconv.ErrSyntax", Rows.laid_strconv_ErrSyntax)] W ∧ handlesMet Tryz.prog [("errors.errorType", Rows.laid_errors_errorType)] W := h
  have h2 := h'.1.tail.tail.tail
  obtain ⟨ps, ⟨g0, t0, cs0, f0, p0, q0, hg0, ht0, hv0, hd0, _, e0⟩, _, _⟩ := h2
  obtain rfl := Option.some.inj (dRg.symm.trans hg0)
  obtain rfl := Option.some.inj (dRgT.symm.trans ht0)
  obtain ⟨l0⟩ := cs0
  obtain ⟨_, u, v, hl, _⟩ := iface_of_trod Tryz.underlying31 hd0
  have hc := World.var?_cell dRg hv0 0
  subst hl
  exact ⟨u, v, by simpa using hc⟩
/-- A world that meets the condition. -/
noncomputable abbrev dWorld (os : Os) : World := World.doorLaid Tryz.prog 69 os
theorem dWorld_met (os : Os) (args : Array Value) : LaidW ((dWorld os).forCall (fun _ _ => 0) ⟨#[], args, []⟩).memory :=
  laidMetH_of_parts (laidMet_of_run' 8 (by kernel_rfl) (by kernel_rfl)) (by kernel_rfl)
section
variable {H : Type} {enc : TypeId × Value → H} {w : World}
theorem of_u8 {n : Int} (h : (Lit.int .u8 n).wf = true) : ∃ x : UInt8, n = (x.toNat : Int) := by
  have hb : 0 ≤ n ∧ n ≤ 255 := Go.bounds_u8 h
  refine ⟨UInt8.ofNat n.toNat, ?_⟩
  rw [UInt8.toNat_ofNat_of_lt' (by simp only [UInt8.size]; omega)]; omega
end
end Go.Proofs.YthnkeejiocnflaaGreatDoor
namespace Go.Proofs.YthnkeejiocnflaaGreatDoor
set_option linter.unusedVariables false
set_option linter.unusedSimpArgs false
set_option maxRecDepth 100000
open Go.ChangeShapes Go.WideShapes Go.ChangeAt Go.RowKit Go.Joins
instance : Inhabited SI := ⟨⟨0, 0, ⟨#[]⟩, [], 0, 0⟩⟩
instance : Inhabited EI := ⟨⟨0, ⟨#[]⟩, 0, [], 0⟩⟩
section
variable {H : Type} {enc : TypeId × Value → H} {w : World}
theorem ints_fuel {fuel : Nat} {v : Value} {x : DataW H × List MemPlace} (hf : DataW.trod enc Tryz.prog w 0 (fun _ => true) true fuel 22 [v] = some x) :
    ∃ (A : Option Addr) (c : Nat) (l : List Int), v = .slice A l.length c ∧ l.length ≤ c ∧ c ≤ maxLen ∧ Rd w w.heap.size A (l.map VI) := by
  rcases open_ints Tryz.underlying22 Tryz.underlying3 (by kernel_rfl) hf with ⟨hcs, hx⟩ | ⟨a, len, cap, zs, hcs, _, hl, hm, hz, hx, hcell, hwz⟩
  · injection hcs with hcs
    subst hcs
    exact ⟨none, 0, [], rfl, by simp, by simp, .inl rfl⟩
  · injection hcs with hcs
    subst hcs
    simp only [if_true] at hz
    have hlen : (zs.take len).length = len := by rw [List.length_take]; omega
    refine ⟨some a, cap, zs.take len, by rw [hlen], by omega, hm, ?_⟩
    rcases Nat.eq_zero_or_pos len with h0 | h0
    · exact .inl (by subst h0; simp)
    · have hx := hcell 0 (by omega)
      rw [show a.add 0 = a from rfl] at hx
      have hx' := spot_none hx
      refine .inr ⟨a.block, a.off, by rw [← hx'], World.block_lt_of_cell? w _ hx, fun j v hv => ?_⟩
      rw [List.getElem?_map, List.getElem?_take] at hv
      split at hv
      · rename_i hj
        have hj2 := hcell j (by omega)
        rw [hx', add_lit] at hj2
        rw [hj2, ← hv, List.getElem?_eq_getElem (by omega), List.getD_eq_getElem?_getD, List.getElem?_eq_getElem (by omega)]
        rfl
      · cases hv
theorem drop_one {cs : List Value} {n k : Nat} (h : cs.length = n) (hk : k < n) : ∃ v, cs[k]? = some v ∧ (cs.drop k).take 1 = [v] := by
  have hx : cs[k]? = some (cs[k]'(by omega)) := List.getElem?_eq_getElem _
  refine ⟨_, hx, ?_⟩
  rw [List.drop_eq_getElem_cons (by omega)]
  rfl
theorem weights_mem_all2 {H : Type} {P : Program} {e : TypeId} : ∀ {l : List (DataW H)} {d : DataW H}, d ∈ l → ∀ n ∈ d.weights P e, n ∈ DataW.weightsAll P e l
  | [], d, h, n, hn => by cases h
  | x :: r, d, h, n, hn => by
    simp only [DataW.weightsAll, List.mem_append]
    rcases List.mem_cons.1 h with rfl | h
    · exact .inl hn
    · exact .inr (weights_mem_all2 h n hn)
theorem some_at {xs : List (DataW H × List MemPlace)} {k : Nat} {r : Option (DataW H × List MemPlace)} (h : r = xs[k]?) (hk : k < xs.length) : ∃ y, r = some y := ⟨xs[k], by rw [h]; exact List.getElem?_eq_getElem _⟩
theorem stmt_fuel {fuel : Nat} {cs : List Value} {x : DataW H × List MemPlace} (h : DataW.trod enc Tryz.prog w 0 (fun _ => true) true fuel 46 cs = some x) :
    ∃ (s : SI) (A : Option Addr) (c : Nat), cs[0]? = some (.int .i64 s.kind) ∧ cs[1]? = some (.int .i64 s.party) ∧ cs[2]? = some (.string s.name) ∧ cs[3]? = some (.slice A s.shape.length c) ∧ cs[4]? = some (.int .i64 s.expr) ∧ cs[5]? = some (.int .i64 s.pos) ∧ s.shape.length ≤ c ∧ c ≤ maxLen ∧ Rd w w.heap.size A (s.shape.map VI) ∧ s.name.size ∈ x.1.weights Tryz.prog 46 := by
  obtain ⟨xs, n, _, hxe, hl, hlen, hf⟩ := DataW.trod_struct Tryz.underlying46 h
  have hl6 : cs.length = 6 := hl.trans (by kernel_rfl)
  have hx6 : xs.length = 6 := hlen
  obtain ⟨v0, e0, g0⟩ := drop_one hl6 (k := 0) (by omega)
  obtain ⟨v1, e1, g1⟩ := drop_one hl6 (k := 1) (by omega)
  obtain ⟨v2, e2, g2⟩ := drop_one hl6 (k := 2) (by omega)
  obtain ⟨v3, e3, g3⟩ := drop_one hl6 (k := 3) (by omega)
  obtain ⟨v4, e4, g4⟩ := drop_one hl6 (k := 4) (by omega)
  obtain ⟨v5, e5, g5⟩ := drop_one hl6 (k := 5) (by omega)
  obtain ⟨y0, h0⟩ := some_at (show DataW.trod enc Tryz.prog w 0 (fun _ => true) true n 44 ((cs.drop 0).take (Tryz.prog.cellsOf 44)) = xs[0]? from hf 0 _ rfl) (by omega)
  obtain ⟨y1, h1⟩ := some_at (show DataW.trod enc Tryz.prog w 0 (fun _ => true) true n 3 ((cs.drop 1).take (Tryz.prog.cellsOf 3)) = xs[1]? from hf 1 _ rfl) (by omega)
  obtain ⟨y2, h2⟩ := some_at (show DataW.trod enc Tryz.prog w 0 (fun _ => true) true n 9 ((cs.drop 2).take (Tryz.prog.cellsOf 9)) = xs[2]? from hf 2 _ rfl) (by omega)
  obtain ⟨y3, h3⟩ := some_at (show DataW.trod enc Tryz.prog w 0 (fun _ => true) true n 22 ((cs.drop 3).take (Tryz.prog.cellsOf 22)) = xs[3]? from hf 3 _ rfl) (by omega)
  obtain ⟨y4, h4⟩ := some_at (show DataW.trod enc Tryz.prog w 0 (fun _ => true) true n 3 ((cs.drop 4).take (Tryz.prog.cellsOf 3)) = xs[4]? from hf 4 _ rfl) (by omega)
  obtain ⟨y5, h5⟩ := some_at (show DataW.trod enc Tryz.prog w 0 (fun _ => true) true n 3 ((cs.drop 5).take (Tryz.prog.cellsOf 3)) = xs[5]? from hf 5 _ rfl) (by omega)
  rw [show Tryz.prog.cellsOf 44 = 1 by kernel_rfl, g0] at h0
  rw [show Tryz.prog.cellsOf 3 = 1 by kernel_rfl, g1] at h1
  rw [show Tryz.prog.cellsOf 9 = 1 by kernel_rfl, g2] at h2
  rw [show Tryz.prog.cellsOf 22 = 1 by kernel_rfl, g3] at h3
  rw [show Tryz.prog.cellsOf 3 = 1 by kernel_rfl, g4] at h4
  rw [show Tryz.prog.cellsOf 3 = 1 by kernel_rfl, g5] at h5
  obtain ⟨z0, q0, _, _⟩ := DataW.trod_int Tryz.underlying44 h0
  obtain ⟨z1, q1, _, _⟩ := DataW.trod_int Tryz.underlying3 h1
  obtain ⟨z2, q2, p2, m2⟩ := DataW.trod_string Tryz.underlying9 h2
  obtain ⟨A, c, l, q3, l1, l2, l3⟩ := ints_fuel h3
  obtain ⟨z4, q4, _, _⟩ := DataW.trod_int Tryz.underlying3 h4
  obtain ⟨z5, q5, _, _⟩ := DataW.trod_int Tryz.underlying3 h5
  injection q0 with q0
  injection q1 with q1
  injection q2 with q2
  injection q4 with q4
  injection q5 with q5
  subst q0 q1 q2 q3 q4 q5
  have hy2 : xs[2]? = some y2 := (hf 2 _ rfl).symm.trans ((show DataW.trod enc Tryz.prog w 0 (fun _ => true) true n 9 ((cs.drop 2).take (Tryz.prog.cellsOf 9)) = some y2 from by rw [show Tryz.prog.cellsOf 9 = 1 by kernel_rfl, g2]; exact h2))
  refine ⟨⟨z0, z1, z2, l, z4, z5⟩, A, c, e0, e1, e2, e3, e4, e5, l1, l2, l3, ?_⟩
  rw [hxe]
  simp only [DataW.weights, Tryz.underlying46]
  refine DataW.weights_mem_each (j := 2) (t := 9) (d := y2.1) rfl (by rw [List.getElem?_map, hy2]; rfl) _ ?_
  rw [p2]
  simp only [DataW.weights, List.mem_singleton]
  exact (len_data z2).symm
theorem expr_fuel {fuel : Nat} {cs : List Value} {x : DataW H × List MemPlace} (h : DataW.trod enc Tryz.prog w 0 (fun _ => true) true fuel 41 cs = some x) :
    ∃ (s : EI) (A : Option Addr) (c : Nat), cs[0]? = some (.int .i64 s.kind) ∧ cs[1]? = some (.string s.name) ∧ cs[2]? = some (.int .u64 s.num) ∧ cs[3]? = some (.slice A s.args.length c) ∧ cs[4]? = some (.int .i64 s.pos) ∧ s.args.length ≤ c ∧ c ≤ maxLen ∧ Rd w w.heap.size A (s.args.map VI) ∧ s.name.size ∈ x.1.weights Tryz.prog 41 ∧ s.num ≤ 18446744073709551615 := by
  obtain ⟨xs, n, _, hxe, hl, hlen, hf⟩ := DataW.trod_struct Tryz.underlying41 h
  have hl5 : cs.length = 5 := hl.trans (by kernel_rfl)
  have hx5 : xs.length = 5 := hlen
  obtain ⟨v0, e0, g0⟩ := drop_one hl5 (k := 0) (by omega)
  obtain ⟨v1, e1, g1⟩ := drop_one hl5 (k := 1) (by omega)
  obtain ⟨v2, e2, g2⟩ := drop_one hl5 (k := 2) (by omega)
  obtain ⟨v3, e3, g3⟩ := drop_one hl5 (k := 3) (by omega)
  obtain ⟨v4, e4, g4⟩ := drop_one hl5 (k := 4) (by omega)
  obtain ⟨y0, h0⟩ := some_at (show DataW.trod enc Tryz.prog w 0 (fun _ => true) true n 38 ((cs.drop 0).take (Tryz.prog.cellsOf 38)) = xs[0]? from hf 0 _ rfl) (by omega)
  obtain ⟨y1, h1⟩ := some_at (show DataW.trod enc Tryz.prog w 0 (fun _ => true) true n 9 ((cs.drop 1).take (Tryz.prog.cellsOf 9)) = xs[1]? from hf 1 _ rfl) (by omega)
  obtain ⟨y2, h2⟩ := some_at (show DataW.trod enc Tryz.prog w 0 (fun _ => true) true n 39 ((cs.drop 2).take (Tryz.prog.cellsOf 39)) = xs[2]? from hf 2 _ rfl) (by omega)
  obtain ⟨y3, h3⟩ := some_at (show DataW.trod enc Tryz.prog w 0 (fun _ => true) true n 22 ((cs.drop 3).take (Tryz.prog.cellsOf 22)) = xs[3]? from hf 3 _ rfl) (by omega)
  obtain ⟨y4, h4⟩ := some_at (show DataW.trod enc Tryz.prog w 0 (fun _ => true) true n 3 ((cs.drop 4).take (Tryz.prog.cellsOf 3)) = xs[4]? from hf 4 _ rfl) (by omega)
  rw [show Tryz.prog.cellsOf 38 = 1 by kernel_rfl, g0] at h0
  rw [show Tryz.prog.cellsOf 9 = 1 by kernel_rfl, g1] at h1
  rw [show Tryz.prog.cellsOf 39 = 1 by kernel_rfl, g2] at h2
  rw [show Tryz.prog.cellsOf 22 = 1 by kernel_rfl, g3] at h3
  rw [show Tryz.prog.cellsOf 3 = 1 by kernel_rfl, g4] at h4
  obtain ⟨z0, q0, _, _⟩ := DataW.trod_int Tryz.underlying38 h0
  obtain ⟨z1, q1, p1, m1⟩ := DataW.trod_string Tryz.underlying9 h1
  obtain ⟨z2, q2, _, w2⟩ := DataW.trod_int Tryz.underlying39 h2
  obtain ⟨A, c, l, q3, l1, l2, l3⟩ := ints_fuel h3
  obtain ⟨z4, q4, _, _⟩ := DataW.trod_int Tryz.underlying3 h4
  injection q0 with q0
  injection q1 with q1
  injection q2 with q2
  injection q4 with q4
  subst q0 q1 q2 q3 q4
  have hb := Go.bounds_u64 w2
  obtain ⟨m, rfl⟩ := Int.eq_ofNat_of_zero_le hb.1
  have hy1 : xs[1]? = some y1 := (hf 1 _ rfl).symm.trans ((show DataW.trod enc Tryz.prog w 0 (fun _ => true) true n 9 ((cs.drop 1).take (Tryz.prog.cellsOf 9)) = some y1 from by rw [show Tryz.prog.cellsOf 9 = 1 by kernel_rfl, g1]; exact h1))
  refine ⟨⟨z0, z1, m, l, z4⟩, A, c, e0, e1, e2, e3, e4, l1, l2, l3, ?_, (show m ≤ 18446744073709551615 by have := hb.2; omega)⟩
  rw [hxe]
  simp only [DataW.weights, Tryz.underlying41]
  refine DataW.weights_mem_each (j := 1) (t := 9) (d := y1.1) rfl (by rw [List.getElem?_map, hy1]; rfl) _ ?_
  rw [p1]
  simp only [DataW.weights, List.mem_singleton]
  exact (len_data z1).symm
theorem stmts_fuel {fuel : Nat} {v : Value} {x : DataW H × List MemPlace} (h : DataW.trod enc Tryz.prog w 0 (fun _ => true) true fuel 26 [v] = some x) :
    ∃ (A : Option Addr) (c : Nat) (l : List SI), v = .slice A l.length c ∧ l.length ≤ c ∧ c ≤ maxLen ∧ RdSI w w.heap.size A l ∧ ∀ s ∈ l, s.name.size ∈ x.1.weights Tryz.prog 26 := by
  rcases Go.Deep.open_slice Tryz.underlying26 h with ⟨hcs, _⟩ | ⟨a, len, cap, m, n, D, Pl, hcs, _, hl, hm, hmm, hxe, hx⟩
  · injection hcs with hcs
    subst hcs
    exact ⟨none, 0, [], rfl, by simp, by simp, .inl rfl, by simp⟩
  · injection hcs with hcs
    subst hcs
    simp only [if_true] at hmm
    have each : ∀ i, i < len → ∃ s : SI, ∃ (A : Option Addr) (c : Nat), w.cell? ((a.add (i * 6)).add 0) = some (.int .i64 s.kind) ∧ w.cell? ((a.add (i * 6)).add 1) = some (.int .i64 s.party) ∧ w.cell? ((a.add (i * 6)).add 2) = some (.string s.name) ∧ w.cell? ((a.add (i * 6)).add 3) = some (.slice A s.shape.length c) ∧ w.cell? ((a.add (i * 6)).add 4) = some (.int .i64 s.expr) ∧ w.cell? ((a.add (i * 6)).add 5) = some (.int .i64 s.pos) ∧ s.shape.length ≤ c ∧ c ≤ maxLen ∧ Rd w w.heap.size A (s.shape.map VI) ∧ s.name.size ∈ (D i).weights Tryz.prog 46 := by
      intro i hi
      obtain ⟨cs', h1, h2⟩ := hx i (by omega)
      rw [show Tryz.prog.cellsOf 46 = 6 by kernel_rfl] at h1
      obtain ⟨_, _, hc⟩ := World.cells?_some h1
      obtain ⟨s, A, c, e0, e1, e2, e3, e4, e5, r⟩ := stmt_fuel h2
      exact ⟨s, A, c, (hc 0 (by omega)).trans e0, (hc 1 (by omega)).trans e1, (hc 2 (by omega)).trans e2, (hc 3 (by omega)).trans e3, (hc 4 (by omega)).trans e4, (hc 5 (by omega)).trans e5, r⟩
    obtain ⟨f, hf⟩ := Go.Deep.choose_lt each
    refine ⟨some a, cap, (List.range len).map f, by simp, by simpa using hl, hm, ?_, fun s hs => by
      obtain ⟨i, hi, rfl⟩ := List.mem_map.1 hs
      obtain ⟨A, c, _, _, _, _, _, _, _, _, _, h⟩ := hf i (List.mem_range.1 hi)
      rw [hxe]
      simp only [DataW.weights, Tryz.underlying26, List.mem_cons, List.mem_append]
      exact .inr (.inl (weights_mem_all2 (List.mem_map.2 ⟨i, hi, rfl⟩) _ h))⟩
    rcases Nat.eq_zero_or_pos len with h0 | h0
    · exact .inl (by subst h0; simp)
    · obtain ⟨A0, c0, k0, _⟩ := hf 0 h0
      have hsp : a = ⟨a.block, a.off, none⟩ := by
        have := spot_none k0
        obtain ⟨b, o, s⟩ := a
        cases s with
        | none => rfl
        | some q => simp [Addr.add] at this
      have hlt : a.block < w.heap.size := by
        have := World.block_lt_of_cell? w _ k0
        rw [hsp] at this
        simpa [Addr.add] using this
      refine .inr ⟨a.block, a.off, by rw [← hsp], hlt, fun i s hs => ?_⟩
      rw [List.getElem?_map, Option.map_eq_some_iff] at hs
      obtain ⟨j, hj, rfl⟩ := hs
      have hj2 := (List.getElem?_eq_some_iff.1 hj)
      obtain ⟨hj3, hj4⟩ := hj2
      rw [List.getElem_range] at hj4
      subst hj4
      rw [List.length_range] at hj3
      obtain ⟨A, c, e0, e1, e2, e3, e4, e5, l1, l2, l3, _⟩ := hf i hj3
      rw [hsp] at e0 e1 e2 e3 e4 e5
      have key : ∀ k, ((⟨a.block, a.off, none⟩ : Addr).add (i * 6)).add k = ⟨a.block, a.off + i * 6 + k, none⟩ := fun k => by rw [add_lit, add_lit]
      rw [key] at e0 e1 e2 e3 e4 e5
      exact ⟨e0, e1, e2, ⟨A, c, e3, l3, by simp only [maxLen] at l2; omega, l1, by simp only [maxLen] at l2; omega⟩, e4, e5⟩
theorem exprs_fuel {fuel : Nat} {v : Value} {x : DataW H × List MemPlace} (h : DataW.trod enc Tryz.prog w 0 (fun _ => true) true fuel 27 [v] = some x) :
    ∃ (A : Option Addr) (c : Nat) (l : List EI), v = .slice A l.length c ∧ l.length ≤ c ∧ c ≤ maxLen ∧ RdEI w w.heap.size A l ∧ ∀ s ∈ l, s.name.size ∈ x.1.weights Tryz.prog 27 ∧ s.num ≤ 18446744073709551615 := by
  rcases Go.Deep.open_slice Tryz.underlying27 h with ⟨hcs, _⟩ | ⟨a, len, cap, m, n, D, Pl, hcs, _, hl, hm, hmm, hxe, hx⟩
  · injection hcs with hcs
    subst hcs
    exact ⟨none, 0, [], rfl, by simp, by simp, .inl rfl, by simp⟩
  · injection hcs with hcs
    subst hcs
    simp only [if_true] at hmm
    have each : ∀ i, i < len → ∃ s : EI, ∃ (A : Option Addr) (c : Nat), w.cell? ((a.add (i * 5)).add 0) = some (.int .i64 s.kind) ∧ w.cell? ((a.add (i * 5)).add 1) = some (.string s.name) ∧ w.cell? ((a.add (i * 5)).add 2) = some (.int .u64 s.num) ∧ w.cell? ((a.add (i * 5)).add 3) = some (.slice A s.args.length c) ∧ w.cell? ((a.add (i * 5)).add 4) = some (.int .i64 s.pos) ∧ s.args.length ≤ c ∧ c ≤ maxLen ∧ Rd w w.heap.size A (s.args.map VI) ∧ s.name.size ∈ (D i).weights Tryz.prog 41 ∧ s.num ≤ 18446744073709551615 := by
      intro i hi
      obtain ⟨cs', h1, h2⟩ := hx i (by omega)
      rw [show Tryz.prog.cellsOf 41 = 5 by kernel_rfl] at h1
      obtain ⟨_, _, hc⟩ := World.cells?_some h1
      obtain ⟨s, A, c, e0, e1, e2, e3, e4, r⟩ := expr_fuel h2
      exact ⟨s, A, c, (hc 0 (by omega)).trans e0, (hc 1 (by omega)).trans e1, (hc 2 (by omega)).trans e2, (hc 3 (by omega)).trans e3, (hc 4 (by omega)).trans e4, r⟩
    obtain ⟨f, hf⟩ := Go.Deep.choose_lt each
    refine ⟨some a, cap, (List.range len).map f, by simp, by simpa using hl, hm, ?_, fun s hs => by
      obtain ⟨i, hi, rfl⟩ := List.mem_map.1 hs
      obtain ⟨A, c, _, _, _, _, _, _, _, _, h⟩ := hf i (List.mem_range.1 hi)
      refine ⟨?_, h.2⟩
      rw [hxe]
      simp only [DataW.weights, Tryz.underlying27, List.mem_cons, List.mem_append]
      exact .inr (.inl (weights_mem_all2 (List.mem_map.2 ⟨i, hi, rfl⟩) _ h.1))⟩
    rcases Nat.eq_zero_or_pos len with h0 | h0
    · exact .inl (by subst h0; simp)
    · obtain ⟨A0, c0, k0, _⟩ := hf 0 h0
      have hsp : a = ⟨a.block, a.off, none⟩ := by
        have := spot_none k0
        obtain ⟨b, o, s⟩ := a
        cases s with
        | none => rfl
        | some q => simp [Addr.add] at this
      have hlt : a.block < w.heap.size := by
        have := World.block_lt_of_cell? w _ k0
        rw [hsp] at this
        simpa [Addr.add] using this
      refine .inr ⟨a.block, a.off, by rw [← hsp], hlt, fun i s hs => ?_⟩
      rw [List.getElem?_map, Option.map_eq_some_iff] at hs
      obtain ⟨j, hj, rfl⟩ := hs
      obtain ⟨hj3, hj4⟩ := (List.getElem?_eq_some_iff.1 hj)
      rw [List.getElem_range] at hj4
      subst hj4
      rw [List.length_range] at hj3
      obtain ⟨A, c, e0, e1, e2, e3, e4, l1, l2, l3, _⟩ := hf i hj3
      rw [hsp] at e0 e1 e2 e3 e4
      have key : ∀ k, ((⟨a.block, a.off, none⟩ : Addr).add (i * 5)).add k = ⟨a.block, a.off + i * 5 + k, none⟩ := fun k => by rw [add_lit, add_lit]
      rw [key] at e0 e1 e2 e3 e4
      exact ⟨e0, e1, e2, ⟨A, c, e3, l3, by simp only [maxLen] at l2; omega, l1, by simp only [maxLen] at l2; omega⟩, e4⟩
theorem open_tree {r : Reach} {b0 : Nat} {v : Value} {d : DataW H} {p : List MemPlace}
    (hv : Value.okWide Tryz.prog w r b0 29 v) (h : DataW.Trod enc Tryz.prog w 0 (fun _ => true) true 29 v d p)
    {ts : List TypeId} {ds : List (DataW H)} (hsz : (DataW.weightsEach Tryz.prog ts ds).all (· ≤ reachBytes) = true) (j : Nat) (hj : ts[j]? = some 29) (hd : ds[j]? = some d) :
    ∃ (SA : Option Addr) (sc : Nat) (ss : List SI) (EA : Option Addr) (ec : Nat) (es : List EI), v = .agg #[.slice SA ss.length sc, .slice EA es.length ec] ∧ ss.length ≤ sc ∧ sc ≤ maxLen ∧ es.length ≤ ec ∧ ec ≤ maxLen ∧ RdSI w w.heap.size SA ss ∧ RdEI w w.heap.size EA es ∧ (∀ s ∈ ss, s.name.size ≤ 140737488351232) ∧ ∀ e ∈ es, e.name.size ≤ 140737488351232 ∧ e.num ≤ 18446744073709551615 := by
  obtain ⟨v0, v1, y0, y1, n, rfl, rfl, rfl, h0, h1⟩ := open_agg2 Tryz.underlying29 (by kernel_rfl) (by kernel_rfl) hv h
  obtain ⟨SA, sc, ss, rfl, s1, s2, s3, s4⟩ := stmts_fuel h0
  obtain ⟨EA, ec, es, rfl, e1, e2, e3, e4⟩ := exprs_fuel h1
  have big : ∀ (k : Nat) (t : TypeId) (dk : DataW H), [26, 27][k]? = some t → [y0.1, y1.1][k]? = some dk → ∀ z ∈ dk.weights Tryz.prog t, z ≤ 140737488351232 := fun k t dk ht hk z hz => by
    have h1 : z ∈ DataW.weightsEach Tryz.prog ts ds := DataW.weights_mem_each hj hd _ (by
      simp only [DataW.weights, Tryz.underlying29]
      exact DataW.weights_mem_each (j := k) ht hk _ hz)
    have h2 := List.all_eq_true.1 hsz z h1
    have h3 := of_decide_eq_true h2
    simp only [reachBytes] at h3
    omega
  exact ⟨SA, sc, ss, EA, ec, es, rfl, s1, s2, e1, e2, s3, e3, fun s hs => big 0 _ _ rfl rfl _ (s4 s hs), fun e he => ⟨big 1 _ _ rfl rfl _ (e4 e he).1, (e4 e he).2⟩⟩
end
end Go.Proofs.YthnkeejiocnflaaGreatDoor
