/-
  A law's arguments, opened: what a reading of an argument says of the value that came in. What the frames of the lex laws share: the six listed variables, a world that meets the condition, openers with the arguments' sizes.
-/
import Derived.Test.YtghlnncfigkkaaaGreatDoorQMem
import Derived.Test.YtghlnncfigkkaaaGreatDoorQByt
import Derived.Test.YtghlnncfigkkaaaGreatDoorQScan
import Derived.ProofKit
import Derived.OpenShut
import Derived.ShutString
import Derived.ChangeOld
import Derived.Carry
import Derived.Test.YtghlnncfigkkaaaGreatDoorRows
import Derived.LaidMore
import Derived.Stop.LaidErr
import Derived.ChangeSame
import Derived.ChangeVars
import Derived.JoinedOf
import Derived.RowKit
import Derived.RowKitTokens
import Derived.LaidLaws
import Derived.LaidHandle
import Derived.Stop.Joined
import Derived.SizedLaws
namespace Go.Proofs.YtghlnncfigkkaaaGreatDoor
set_option linter.unusedVariables false
set_option linter.unusedSimpArgs false
open Go.RowKit Go.ChangeShapes Go.WideShapes
section
variable {H : Type} {enc : TypeId × Value → H} {P : Program} {w : World}
end
open Go.ChangeShapes Go.WideShapes Go.RowKit
theorem dOwn : ownKnob Tryz.prog.godebug = none := by kernel_rfl
theorem dLaidOut : laidOutB Tryz.prog = true := by kernel_rfl
theorem dEt : Tryz.prog.globalNamed "errors.errorType" = some 0 := by kernel_rfl
theorem dRt : (Tryz.prog.cutTypes.find? (·.1 == "internal/reflectlite.rtype")).map (·.2) = some 237 := by kernel_rfl
theorem dOne : ((List.range Tryz.prog.types.size).filter fun t => Tryz.prog.rowNamed t [101, 114, 114, 111, 114]) = [28] := by kernel_rfl
theorem dHandle : typeHandle Tryz.prog 28 = hand 28 := by kernel_rfl
abbrev LaidW (W : World) : Prop := laidMetH Tryz.prog [("math/bits.deBruijn32tab", Rows.laid_math_bits_deBruijn32tab), ("math/bits.deBruijn64tab", Rows.laid_math_bits_deBruijn64tab), ("internal/strconv.uint64pow10", Rows.laid_internal_strconv_uint64pow10), ("errors.errorType", Rows.laid_errors_errorType), ("strconv.ErrRange", Rows.laid_strconv_ErrRange), ("strconv.ErrSyntax", Rows.laid_strconv_ErrSyntax)] W
theorem etyped_of_laid {W : World} (h : LaidW W) : ETyped W := by
 have h' : laidMet Tryz.prog [("math/bits.deBruijn32tab", Rows.laid_math_bits_deBruijn32tab), ("math/bits.deBruijn64tab", Rows.laid_math_bits_deBruijn64tab), ("internal/strconv.uint64pow10", Rows.laid_internal_strconv_uint64pow10), ("strconv.ErrRange", Rows.laid_strconv_ErrRange), ("strconv.ErrSyntax", Rows.laid_strconv_ErrSyntax)] W ∧ handlesMet Tryz.prog [("errors.errorType", Rows.laid_errors_errorType)] W := h
 obtain ⟨name, u, ty, e1, e2, e3, e4, e5⟩ := h'.2 _ (List.mem_singleton.2 rfl)
 have en : name = [101, 114, 114, 111, 114] := (Option.some.inj e1).symm
 subst en
 obtain rfl := Option.some.inj (dRt.symm.trans e2)
 have hm : ty ∈ (List.range Tryz.prog.types.size).filter fun t => Tryz.prog.rowNamed t [101, 114, 114, 111, 114] := List.mem_filter.2 ⟨List.mem_range.2 e3, e4⟩
 rw [dOne] at hm
 obtain rfl := List.mem_singleton.1 hm
 rw [dHandle] at e5
 have hc := World.var?_cell dEt e5 0
 unfold ETyped
 simpa [ETy] using hc
theorem dRg : Tryz.prog.globalNamed "strconv.ErrRange" = some 3 := by kernel_rfl
theorem dRgT : (Tryz.prog.globals[3]?).map (·.type) = some 28 := by kernel_rfl
theorem errt_of_laid {W : World} (h : LaidW W) : ErrT W := by
 have h' : laidMet Tryz.prog [("math/bits.deBruijn32tab", Rows.laid_math_bits_deBruijn32tab), ("math/bits.deBruijn64tab", Rows.laid_math_bits_deBruijn64tab), ("internal/strconv.uint64pow10", Rows.laid_internal_strconv_uint64pow10), ("strconv.ErrRange", Rows.laid_strconv_ErrRange), ("strconv.ErrSyntax", Rows.laid_strconv_ErrSyntax)] W ∧ handlesMet Tryz.prog [("errors.errorType", Rows.laid_errors_errorType)] W := h
 have h2 := h'.1.tail.tail.tail
 obtain ⟨ps, ⟨g0, t0, cs0, f0, p0, q0, hg0, ht0, hv0, hd0, _, e0⟩, _, _⟩ := h2
 obtain rfl := Option.some.inj (dRg.symm.trans hg0)
 obtain rfl := Option.some.inj (dRgT.symm.trans ht0)
 obtain ⟨l0⟩ := cs0
 obtain ⟨_, u, v, hl, _⟩ := iface_of_trod Tryz.underlying28 hd0
 have hc := World.var?_cell dRg hv0 0
 subst hl
 exact ⟨u, v, by simpa using hc⟩
noncomputable abbrev dWorld (os : Os) : World := World.doorLaid Tryz.prog 69 os
theorem dWorld_met (os : Os) (args : Array Value) : LaidW ((dWorld os).forCall (fun _ _ => 0) ⟨#[], args, []⟩).memory :=
 laidMetH_of_parts (laidMet_of_run' 8 (by kernel_rfl) (by kernel_rfl)) (by kernel_rfl)
section
variable {H : Type} {enc : TypeId × Value → H} {w : World}
end
end Go.Proofs.YtghlnncfigkkaaaGreatDoor
