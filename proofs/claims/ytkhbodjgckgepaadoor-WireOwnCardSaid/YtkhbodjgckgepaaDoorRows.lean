/-
  NARROWER THAN 'FOR EVERY INPUT', by the rows' own cells (each row's printed sentence says how): WireDigests: laid · WireDigestTells: laid · WireNumbers: laid · WireOwn: laid · WireBehind: laid · WireCodes: laid · WireReads: laid.
  DERIVED. THE GIVEN ROWS OF THIS SEAT. 7 by the template 'for every input the law returns true; each argument reads behind the call as it read before'; 0 by the template 'total and deterministic' (their statements: YtkhbodjgckgepaaDoorTotals.lean).
  GIVEN WITH THE SEED: the statements are not yours to turn. If you find one false, say at which input.
  Laid BY PROGRAM, IN A SANDBOX (cutbox-rows.mjs): the forced cells as the released guide's own fill.sh prints them over the translation a62a1087b66d0d91… (all of the seat's roots in one cut). By AI agents, Wed Nov 11 2026. No macro, syntax, notation, axiom, sorry.
-/
import Derived.Test.YtkhbodjgckgepaaDoorChecked
import GoSem.Claim
import GoSem.ClaimJoined
import GoSem.ClaimMapViews
import Derived.JoinedTies
import Derived.KernelRfl
namespace Go.Proofs.YtkhbodjgckgepaaDoor
/- THE CELL 'sum', in the pinned program and in every row, IS THE sha256 OF THE DUMP (.gsa) THAT YtkhbodjgckgepaaDoorProg.lean LOADS. Nothing in Lean hashes anything: it is a label: what it is worth is what the hold of that sum in a sandbox is worth. -/
noncomputable def Tryd.pinned : Pinned := { name := "ytkhbodjgckgepaadoor", sum := "a62a1087b66d0d91017a951c2bf89ea6dac6938d597494bca77e57838268f570", checked := Tryd.checked }
namespace Rows
def none {H : Type} : Left H := { results := [], args := [] }

/- WHAT THE LISTED PACKAGE-LEVEL VARIABLES READ AS WHEN THE CALL BEGINS. Each datum BY PROGRAM (the guide's laid-datum.mjs) off the statement by which the dump's own 'gosem.cut.vars' lays the variable. In a bare row this is a premise. The card (YtkhbodjgckgepaaDoorCards.lean) ties it to the program's text. -/
def laid_errors_errorType {H : Type} : DataW H := .iface "internal/reflectlite.rtype" (.agg [.ptr (.lit (.string [101, 114, 114, 111, 114]))])

/-- 'twainlaw05.WireDigests': WHATEVER THE INPUT: true; the input reads as it did. -/
def wireDigestsSpec : ChangeSpec := { name := "wireDigests", fn := fun _ => fun
  | [d] => { results := [.lit (.bool true)], args := [d] }
  | _ => none }
def wireDigestsRow : OpenClaim := { program := "ytkhbodjgckgepaadoor", sum := "a62a1087b66d0d91017a951c2bf89ea6dac6938d597494bca77e57838268f570", func := "twain/twainlaw05.WireDigests", spec := "wireDigests", inPlace := ["internal/reflectlite.ValueOf", "(internal/reflectlite.Value).Type", "(internal/reflectlite.Value).IsNil", "internal/reflectlite.TypeOf", "(internal/reflectlite.Value).Elem", "(internal/reflectlite.Value).Set"], unfollowed := true, recurses := true, named := ["errors.errorType"], apart := false, laid := [("errors.errorType", laid_errors_errorType)] }
def WireDigestsSaid : Prop := wireDigestsRow.holds Tryd.pinned (OpenSpec.ofChange wireDigestsSpec)

/-- ITS FALSE NEIGHBOUR: 'it returns false'. Refute it at one input. -/
def wireDigestsWrong : ChangeSpec := { name := "wireDigests", fn := fun _ => fun
  | [d] => { results := [.lit (.bool false)], args := [d] }
  | _ => none }
def WireDigestsWrongFalsely : Prop := wireDigestsRow.holds Tryd.pinned (OpenSpec.ofChange wireDigestsWrong)

/-- 'twainlaw05.WireDigestTells': WHATEVER THE INPUT: true; the input reads as it did. -/
def wireDigestTellsSpec : ChangeSpec := { name := "wireDigestTells", fn := fun _ => fun
  | [d1, d2, d3] => { results := [.lit (.bool true)], args := [d1, d2, d3] }
  | _ => none }
def wireDigestTellsRow : OpenClaim := { program := "ytkhbodjgckgepaadoor", sum := "a62a1087b66d0d91017a951c2bf89ea6dac6938d597494bca77e57838268f570", func := "twain/twainlaw05.WireDigestTells", spec := "wireDigestTells", inPlace := ["internal/reflectlite.ValueOf", "(internal/reflectlite.Value).Type", "(internal/reflectlite.Value).IsNil", "internal/reflectlite.TypeOf", "(internal/reflectlite.Value).Elem", "(internal/reflectlite.Value).Set"], unfollowed := true, recurses := true, named := ["errors.errorType"], apart := false, laid := [("errors.errorType", laid_errors_errorType)] }
def WireDigestTellsSaid : Prop := wireDigestTellsRow.holds Tryd.pinned (OpenSpec.ofChange wireDigestTellsSpec)

/-- ITS FALSE NEIGHBOUR: 'it returns false'. Refute it at one input. -/
def wireDigestTellsWrong : ChangeSpec := { name := "wireDigestTells", fn := fun _ => fun
  | [d1, d2, d3] => { results := [.lit (.bool false)], args := [d1, d2, d3] }
  | _ => none }
def WireDigestTellsWrongFalsely : Prop := wireDigestTellsRow.holds Tryd.pinned (OpenSpec.ofChange wireDigestTellsWrong)

/-- 'twainlaw05.WireNumbers': WHATEVER THE INPUT: true; the input reads as it did. -/
def wireNumbersSpec : ChangeSpec := { name := "wireNumbers", fn := fun _ => fun
  | [d1, d2] => { results := [.lit (.bool true)], args := [d1, d2] }
  | _ => none }
def wireNumbersRow : OpenClaim := { program := "ytkhbodjgckgepaadoor", sum := "a62a1087b66d0d91017a951c2bf89ea6dac6938d597494bca77e57838268f570", func := "twain/twainlaw05.WireNumbers", spec := "wireNumbers", inPlace := ["internal/reflectlite.ValueOf", "(internal/reflectlite.Value).Type", "(internal/reflectlite.Value).IsNil", "internal/reflectlite.TypeOf", "(internal/reflectlite.Value).Elem", "(internal/reflectlite.Value).Set"], unfollowed := true, recurses := true, named := ["errors.errorType"], apart := false, laid := [("errors.errorType", laid_errors_errorType)] }
def WireNumbersSaid : Prop := wireNumbersRow.holds Tryd.pinned (OpenSpec.ofChange wireNumbersSpec)

/-- ITS FALSE NEIGHBOUR: 'it returns false'. Refute it at one input. -/
def wireNumbersWrong : ChangeSpec := { name := "wireNumbers", fn := fun _ => fun
  | [d1, d2] => { results := [.lit (.bool false)], args := [d1, d2] }
  | _ => none }
def WireNumbersWrongFalsely : Prop := wireNumbersRow.holds Tryd.pinned (OpenSpec.ofChange wireNumbersWrong)

/-- 'twainlaw05.WireOwn': WHATEVER THE INPUT: true; the input reads as it did. -/
def wireOwnSpec : ChangeSpec := { name := "wireOwn", fn := fun _ => fun
  | [d] => { results := [.lit (.bool true)], args := [d] }
  | _ => none }
def wireOwnRow : OpenClaim := { program := "ytkhbodjgckgepaadoor", sum := "a62a1087b66d0d91017a951c2bf89ea6dac6938d597494bca77e57838268f570", func := "twain/twainlaw05.WireOwn", spec := "wireOwn", inPlace := ["internal/reflectlite.ValueOf", "(internal/reflectlite.Value).Type", "(internal/reflectlite.Value).IsNil", "internal/reflectlite.TypeOf", "(internal/reflectlite.Value).Elem", "(internal/reflectlite.Value).Set"], unfollowed := true, recurses := true, named := ["errors.errorType"], apart := false, laid := [("errors.errorType", laid_errors_errorType)] }
def WireOwnSaid : Prop := wireOwnRow.holds Tryd.pinned (OpenSpec.ofChange wireOwnSpec)

/-- ITS FALSE NEIGHBOUR: 'it returns false'. Refute it at one input. -/
def wireOwnWrong : ChangeSpec := { name := "wireOwn", fn := fun _ => fun
  | [d] => { results := [.lit (.bool false)], args := [d] }
  | _ => none }
def WireOwnWrongFalsely : Prop := wireOwnRow.holds Tryd.pinned (OpenSpec.ofChange wireOwnWrong)

/-- 'twainlaw05.WireBehind': WHATEVER THE INPUT: true; the input reads as it did. -/
def wireBehindSpec : ChangeSpec := { name := "wireBehind", fn := fun _ => fun
  | [d1, d2, d3] => { results := [.lit (.bool true)], args := [d1, d2, d3] }
  | _ => none }
def wireBehindRow : OpenClaim := { program := "ytkhbodjgckgepaadoor", sum := "a62a1087b66d0d91017a951c2bf89ea6dac6938d597494bca77e57838268f570", func := "twain/twainlaw05.WireBehind", spec := "wireBehind", inPlace := ["internal/reflectlite.ValueOf", "(internal/reflectlite.Value).Type", "(internal/reflectlite.Value).IsNil", "internal/reflectlite.TypeOf", "(internal/reflectlite.Value).Elem", "(internal/reflectlite.Value).Set"], unfollowed := true, recurses := true, named := ["errors.errorType"], apart := false, laid := [("errors.errorType", laid_errors_errorType)] }
def WireBehindSaid : Prop := wireBehindRow.holds Tryd.pinned (OpenSpec.ofChange wireBehindSpec)

/-- ITS FALSE NEIGHBOUR: 'it returns false'. Refute it at one input. -/
def wireBehindWrong : ChangeSpec := { name := "wireBehind", fn := fun _ => fun
  | [d1, d2, d3] => { results := [.lit (.bool false)], args := [d1, d2, d3] }
  | _ => none }
def WireBehindWrongFalsely : Prop := wireBehindRow.holds Tryd.pinned (OpenSpec.ofChange wireBehindWrong)

/-- 'twainlaw05.WireCodes': WHATEVER THE INPUT: true; the input reads as it did. -/
def wireCodesSpec : ChangeSpec := { name := "wireCodes", fn := fun _ => fun
  | [d] => { results := [.lit (.bool true)], args := [d] }
  | _ => none }
def wireCodesRow : OpenClaim := { program := "ytkhbodjgckgepaadoor", sum := "a62a1087b66d0d91017a951c2bf89ea6dac6938d597494bca77e57838268f570", func := "twain/twainlaw05.WireCodes", spec := "wireCodes", inPlace := ["internal/reflectlite.ValueOf", "(internal/reflectlite.Value).Type", "(internal/reflectlite.Value).IsNil", "internal/reflectlite.TypeOf", "(internal/reflectlite.Value).Elem", "(internal/reflectlite.Value).Set"], unfollowed := true, recurses := true, named := ["errors.errorType"], apart := false, laid := [("errors.errorType", laid_errors_errorType)] }
def WireCodesSaid : Prop := wireCodesRow.holds Tryd.pinned (OpenSpec.ofChange wireCodesSpec)

/-- ITS FALSE NEIGHBOUR: 'it returns false'. Refute it at one input. -/
def wireCodesWrong : ChangeSpec := { name := "wireCodes", fn := fun _ => fun
  | [d] => { results := [.lit (.bool false)], args := [d] }
  | _ => none }
def WireCodesWrongFalsely : Prop := wireCodesRow.holds Tryd.pinned (OpenSpec.ofChange wireCodesWrong)

/-- 'twainlaw05.WireReads': WHATEVER THE INPUT: true; the input reads as it did. -/
def wireReadsSpec : ChangeSpec := { name := "wireReads", fn := fun _ => fun
  | [d] => { results := [.lit (.bool true)], args := [d] }
  | _ => none }
def wireReadsRow : OpenClaim := { program := "ytkhbodjgckgepaadoor", sum := "a62a1087b66d0d91017a951c2bf89ea6dac6938d597494bca77e57838268f570", func := "twain/twainlaw05.WireReads", spec := "wireReads", inPlace := ["internal/reflectlite.ValueOf", "(internal/reflectlite.Value).Type", "(internal/reflectlite.Value).IsNil", "internal/reflectlite.TypeOf", "(internal/reflectlite.Value).Elem", "(internal/reflectlite.Value).Set"], unfollowed := true, recurses := true, named := ["errors.errorType"], apart := false, laid := [("errors.errorType", laid_errors_errorType)] }
def WireReadsSaid : Prop := wireReadsRow.holds Tryd.pinned (OpenSpec.ofChange wireReadsSpec)

/-- ITS FALSE NEIGHBOUR: 'it returns false'. Refute it at one input. -/
def wireReadsWrong : ChangeSpec := { name := "wireReads", fn := fun _ => fun
  | [d] => { results := [.lit (.bool false)], args := [d] }
  | _ => none }
def WireReadsWrongFalsely : Prop := wireReadsRow.holds Tryd.pinned (OpenSpec.ofChange wireReadsWrong)

/- THE SECOND FORM. 'bulk': how many values and letters a reading holds, each counted each time it is reached (what is shared counts as often as it is met; a slice's spare places count too). A statement '..UptoSaid' is the law's where the arguments, and the package variables that the reading takes, are together of bulk at most 1048576: NARROWER than '..Said'. Prove '..Said' where nothing that the law and all that it calls make is longer than what came in: it says more and counts as full. Else prove '..UptoSaid'. A law counts once. -/
mutual
def uptoBulk {H : Type} : DataW H → Nat
  | .lit (.string bytes) => bytes.length + 1
  | .lit _ => 1
  | .nil => 1
  | .ptr d => uptoBulk d + 1
  | .slice elems spare => uptoBulkAll elems + uptoBulkAll spare + 1
  | .agg parts => uptoBulkAll parts + 1
  | .iface _ d => uptoBulk d + 1
  | .map entries => uptoBulkEntries entries + 1
  | .held _ => 1
def uptoBulkAll {H : Type} : List (DataW H) → Nat
  | [] => 0
  | d :: r => uptoBulk d + uptoBulkAll r
def uptoBulkEntries {H : Type} : List (Lit × DataW H) → Nat
  | [] => 0
  | x :: r => uptoBulkEntry x + uptoBulkEntries r
def uptoBulkEntry {H : Type} : Lit × DataW H → Nat
  | (.string bytes, d) => bytes.length + uptoBulk d + 1
  | (_, d) => uptoBulk d + 1
 end
def uptoSmall : (H : Type) → List (DataW H) → Bool := fun _ ds => decide (uptoBulkAll ds ≤ 1048576)
def OpenSpec.upto (s : _root_.Go.ChangeSpec) : _root_.Go.OpenSpec := { _root_.Go.OpenSpec.ofChange s with cond := some uptoSmall }

/-- 'twainlaw05.WireDigests', WHERE WHAT IT READS IS OF BULK AT MOST 1048576: true; the input reads as it did. -/
def wireDigestsUptoRow : OpenClaim := { program := "ytkhbodjgckgepaadoor", sum := "a62a1087b66d0d91017a951c2bf89ea6dac6938d597494bca77e57838268f570", func := "twain/twainlaw05.WireDigests", spec := "wireDigests", inPlace := ["internal/reflectlite.ValueOf", "(internal/reflectlite.Value).Type", "(internal/reflectlite.Value).IsNil", "internal/reflectlite.TypeOf", "(internal/reflectlite.Value).Elem", "(internal/reflectlite.Value).Set"], unfollowed := true, recurses := true, named := ["errors.errorType"], apart := false, laid := [("errors.errorType", laid_errors_errorType)], narrowed := true }
def WireDigestsUptoSaid : Prop := wireDigestsUptoRow.holds Tryd.pinned (OpenSpec.upto wireDigestsSpec)

/-- 'twainlaw05.WireDigestTells', WHERE WHAT IT READS IS OF BULK AT MOST 1048576: true; the input reads as it did. -/
def wireDigestTellsUptoRow : OpenClaim := { program := "ytkhbodjgckgepaadoor", sum := "a62a1087b66d0d91017a951c2bf89ea6dac6938d597494bca77e57838268f570", func := "twain/twainlaw05.WireDigestTells", spec := "wireDigestTells", inPlace := ["internal/reflectlite.ValueOf", "(internal/reflectlite.Value).Type", "(internal/reflectlite.Value).IsNil", "internal/reflectlite.TypeOf", "(internal/reflectlite.Value).Elem", "(internal/reflectlite.Value).Set"], unfollowed := true, recurses := true, named := ["errors.errorType"], apart := false, laid := [("errors.errorType", laid_errors_errorType)], narrowed := true }
def WireDigestTellsUptoSaid : Prop := wireDigestTellsUptoRow.holds Tryd.pinned (OpenSpec.upto wireDigestTellsSpec)

/-- 'twainlaw05.WireNumbers', WHERE WHAT IT READS IS OF BULK AT MOST 1048576: true; the input reads as it did. -/
def wireNumbersUptoRow : OpenClaim := { program := "ytkhbodjgckgepaadoor", sum := "a62a1087b66d0d91017a951c2bf89ea6dac6938d597494bca77e57838268f570", func := "twain/twainlaw05.WireNumbers", spec := "wireNumbers", inPlace := ["internal/reflectlite.ValueOf", "(internal/reflectlite.Value).Type", "(internal/reflectlite.Value).IsNil", "internal/reflectlite.TypeOf", "(internal/reflectlite.Value).Elem", "(internal/reflectlite.Value).Set"], unfollowed := true, recurses := true, named := ["errors.errorType"], apart := false, laid := [("errors.errorType", laid_errors_errorType)], narrowed := true }
def WireNumbersUptoSaid : Prop := wireNumbersUptoRow.holds Tryd.pinned (OpenSpec.upto wireNumbersSpec)

/-- 'twainlaw05.WireOwn', WHERE WHAT IT READS IS OF BULK AT MOST 1048576: true; the input reads as it did. -/
def wireOwnUptoRow : OpenClaim := { program := "ytkhbodjgckgepaadoor", sum := "a62a1087b66d0d91017a951c2bf89ea6dac6938d597494bca77e57838268f570", func := "twain/twainlaw05.WireOwn", spec := "wireOwn", inPlace := ["internal/reflectlite.ValueOf", "(internal/reflectlite.Value).Type", "(internal/reflectlite.Value).IsNil", "internal/reflectlite.TypeOf", "(internal/reflectlite.Value).Elem", "(internal/reflectlite.Value).Set"], unfollowed := true, recurses := true, named := ["errors.errorType"], apart := false, laid := [("errors.errorType", laid_errors_errorType)], narrowed := true }
def WireOwnUptoSaid : Prop := wireOwnUptoRow.holds Tryd.pinned (OpenSpec.upto wireOwnSpec)

/-- 'twainlaw05.WireBehind', WHERE WHAT IT READS IS OF BULK AT MOST 1048576: true; the input reads as it did. -/
def wireBehindUptoRow : OpenClaim := { program := "ytkhbodjgckgepaadoor", sum := "a62a1087b66d0d91017a951c2bf89ea6dac6938d597494bca77e57838268f570", func := "twain/twainlaw05.WireBehind", spec := "wireBehind", inPlace := ["internal/reflectlite.ValueOf", "(internal/reflectlite.Value).Type", "(internal/reflectlite.Value).IsNil", "internal/reflectlite.TypeOf", "(internal/reflectlite.Value).Elem", "(internal/reflectlite.Value).Set"], unfollowed := true, recurses := true, named := ["errors.errorType"], apart := false, laid := [("errors.errorType", laid_errors_errorType)], narrowed := true }
def WireBehindUptoSaid : Prop := wireBehindUptoRow.holds Tryd.pinned (OpenSpec.upto wireBehindSpec)

/-- 'twainlaw05.WireCodes', WHERE WHAT IT READS IS OF BULK AT MOST 1048576: true; the input reads as it did. -/
def wireCodesUptoRow : OpenClaim := { program := "ytkhbodjgckgepaadoor", sum := "a62a1087b66d0d91017a951c2bf89ea6dac6938d597494bca77e57838268f570", func := "twain/twainlaw05.WireCodes", spec := "wireCodes", inPlace := ["internal/reflectlite.ValueOf", "(internal/reflectlite.Value).Type", "(internal/reflectlite.Value).IsNil", "internal/reflectlite.TypeOf", "(internal/reflectlite.Value).Elem", "(internal/reflectlite.Value).Set"], unfollowed := true, recurses := true, named := ["errors.errorType"], apart := false, laid := [("errors.errorType", laid_errors_errorType)], narrowed := true }
def WireCodesUptoSaid : Prop := wireCodesUptoRow.holds Tryd.pinned (OpenSpec.upto wireCodesSpec)

/-- 'twainlaw05.WireReads', WHERE WHAT IT READS IS OF BULK AT MOST 1048576: true; the input reads as it did. -/
def wireReadsUptoRow : OpenClaim := { program := "ytkhbodjgckgepaadoor", sum := "a62a1087b66d0d91017a951c2bf89ea6dac6938d597494bca77e57838268f570", func := "twain/twainlaw05.WireReads", spec := "wireReads", inPlace := ["internal/reflectlite.ValueOf", "(internal/reflectlite.Value).Type", "(internal/reflectlite.Value).IsNil", "internal/reflectlite.TypeOf", "(internal/reflectlite.Value).Elem", "(internal/reflectlite.Value).Set"], unfollowed := true, recurses := true, named := ["errors.errorType"], apart := false, laid := [("errors.errorType", laid_errors_errorType)], narrowed := true }
def WireReadsUptoSaid : Prop := wireReadsUptoRow.holds Tryd.pinned (OpenSpec.upto wireReadsSpec)

end Rows
end Go.Proofs.YtkhbodjgckgepaaDoor
