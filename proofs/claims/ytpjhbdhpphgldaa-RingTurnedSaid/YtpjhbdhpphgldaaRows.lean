/-
  No cell of these rows narrows 'for every input' (looked for: loops, veiled, ifaces, maps, wideKeys, modest, calm, conditions, laid).
  DERIVED. THE GIVEN ROWS OF THIS SEAT. 6 by the template 'for every input the law returns true; each argument reads behind the call as it read before'; 0 by the template 'total and deterministic' (their statements: YtpjhbdhpphgldaaTotals.lean).
  GIVEN WITH THE SEED: the statements are not yours to turn. If you find one false, say at which input.
  Laid BY PROGRAM, IN A SANDBOX (cutbox-rows.mjs): the forced cells as the released guide's own fill.sh prints them over the translation 92f782c755d7a004… (all of the seat's roots in one cut). By AI agents, Wed Nov 11 2026. No macro, syntax, notation, axiom, sorry.
-/
import Derived.Test.YtpjhbdhpphgldaaChecked
import GoSem.Claim
import GoSem.ClaimJoined
import GoSem.ClaimMapViews
import Derived.JoinedTies
import Derived.KernelRfl
namespace Go.Proofs.Ytpjhbdhpphgldaa
/- THE CELL 'sum', in the pinned program and in every row, IS THE sha256 OF THE DUMP (.gsa) THAT YtpjhbdhpphgldaaProg.lean LOADS. Nothing in Lean hashes anything: it is a label: what it is worth is what the hold of that sum in a sandbox is worth. -/
noncomputable def Try.pinned : Pinned := { name := "ytpjhbdhpphgldaa", sum := "92f782c755d7a00444db6e9a3d8e2720a230ff48f258d91d1504bbcaa9eddda7", checked := Try.checked }
namespace Rows
def none {H : Type} : Left H := { results := [], args := [] }

/-- 'twainlaw02.RingFloor': WHATEVER THE INPUT: true; the input reads as it did. -/
def ringFloorSpec : ChangeSpec := { name := "ringFloor", fn := fun _ => fun
  | [d1, d2] => { results := [.lit (.bool true)], args := [d1, d2] }
  | _ => none }
def ringFloorRow : OpenClaim := { program := "ytpjhbdhpphgldaa", sum := "92f782c755d7a00444db6e9a3d8e2720a230ff48f258d91d1504bbcaa9eddda7", func := "twain/twainlaw02.RingFloor", spec := "ringFloor", apart := false }
def RingFloorSaid : Prop := ringFloorRow.holds Try.pinned (OpenSpec.ofChange ringFloorSpec)

/-- ITS FALSE NEIGHBOUR: 'it returns false'. Refute it at one input. -/
def ringFloorWrong : ChangeSpec := { name := "ringFloor", fn := fun _ => fun
  | [d1, d2] => { results := [.lit (.bool false)], args := [d1, d2] }
  | _ => none }
def RingFloorWrongFalsely : Prop := ringFloorRow.holds Try.pinned (OpenSpec.ofChange ringFloorWrong)

/-- 'twainlaw02.RingOrders': WHATEVER THE INPUT: true; the input reads as it did. -/
def ringOrdersSpec : ChangeSpec := { name := "ringOrders", fn := fun _ => fun
  | [d1, d2, d3] => { results := [.lit (.bool true)], args := [d1, d2, d3] }
  | _ => none }
def ringOrdersRow : OpenClaim := { program := "ytpjhbdhpphgldaa", sum := "92f782c755d7a00444db6e9a3d8e2720a230ff48f258d91d1504bbcaa9eddda7", func := "twain/twainlaw02.RingOrders", spec := "ringOrders", apart := false }
def RingOrdersSaid : Prop := ringOrdersRow.holds Try.pinned (OpenSpec.ofChange ringOrdersSpec)

/-- ITS FALSE NEIGHBOUR: 'it returns false'. Refute it at one input. -/
def ringOrdersWrong : ChangeSpec := { name := "ringOrders", fn := fun _ => fun
  | [d1, d2, d3] => { results := [.lit (.bool false)], args := [d1, d2, d3] }
  | _ => none }
def RingOrdersWrongFalsely : Prop := ringOrdersRow.holds Try.pinned (OpenSpec.ofChange ringOrdersWrong)

/-- 'twainlaw02.RingOrder': WHATEVER THE INPUT: true; the input reads as it did. -/
def ringOrderSpec : ChangeSpec := { name := "ringOrder", fn := fun _ => fun
  | [d1, d2, d3] => { results := [.lit (.bool true)], args := [d1, d2, d3] }
  | _ => none }
def ringOrderRow : OpenClaim := { program := "ytpjhbdhpphgldaa", sum := "92f782c755d7a00444db6e9a3d8e2720a230ff48f258d91d1504bbcaa9eddda7", func := "twain/twainlaw02.RingOrder", spec := "ringOrder", apart := false }
def RingOrderSaid : Prop := ringOrderRow.holds Try.pinned (OpenSpec.ofChange ringOrderSpec)

/-- ITS FALSE NEIGHBOUR: 'it returns false'. Refute it at one input. -/
def ringOrderWrong : ChangeSpec := { name := "ringOrder", fn := fun _ => fun
  | [d1, d2, d3] => { results := [.lit (.bool false)], args := [d1, d2, d3] }
  | _ => none }
def RingOrderWrongFalsely : Prop := ringOrderRow.holds Try.pinned (OpenSpec.ofChange ringOrderWrong)

/-- 'twainlaw02.RingLabels': WHATEVER THE INPUT: true; the input reads as it did. -/
def ringLabelsSpec : ChangeSpec := { name := "ringLabels", fn := fun _ => fun
  | [d1, d2] => { results := [.lit (.bool true)], args := [d1, d2] }
  | _ => none }
def ringLabelsRow : OpenClaim := { program := "ytpjhbdhpphgldaa", sum := "92f782c755d7a00444db6e9a3d8e2720a230ff48f258d91d1504bbcaa9eddda7", func := "twain/twainlaw02.RingLabels", spec := "ringLabels", apart := false }
def RingLabelsSaid : Prop := ringLabelsRow.holds Try.pinned (OpenSpec.ofChange ringLabelsSpec)

/-- ITS FALSE NEIGHBOUR: 'it returns false'. Refute it at one input. -/
def ringLabelsWrong : ChangeSpec := { name := "ringLabels", fn := fun _ => fun
  | [d1, d2] => { results := [.lit (.bool false)], args := [d1, d2] }
  | _ => none }
def RingLabelsWrongFalsely : Prop := ringLabelsRow.holds Try.pinned (OpenSpec.ofChange ringLabelsWrong)

/-- 'twainlaw02.RingTurned': WHATEVER THE INPUT: true; the input reads as it did. -/
def ringTurnedSpec : ChangeSpec := { name := "ringTurned", fn := fun _ => fun
  | [d1, d2] => { results := [.lit (.bool true)], args := [d1, d2] }
  | _ => none }
def ringTurnedRow : OpenClaim := { program := "ytpjhbdhpphgldaa", sum := "92f782c755d7a00444db6e9a3d8e2720a230ff48f258d91d1504bbcaa9eddda7", func := "twain/twainlaw02.RingTurned", spec := "ringTurned", apart := false }
def RingTurnedSaid : Prop := ringTurnedRow.holds Try.pinned (OpenSpec.ofChange ringTurnedSpec)

/-- ITS FALSE NEIGHBOUR: 'it returns false'. Refute it at one input. -/
def ringTurnedWrong : ChangeSpec := { name := "ringTurned", fn := fun _ => fun
  | [d1, d2] => { results := [.lit (.bool false)], args := [d1, d2] }
  | _ => none }
def RingTurnedWrongFalsely : Prop := ringTurnedRow.holds Try.pinned (OpenSpec.ofChange ringTurnedWrong)

/-- 'twainlaw02.RingWords': WHATEVER THE INPUT: true; the input reads as it did. -/
def ringWordsSpec : ChangeSpec := { name := "ringWords", fn := fun _ => fun
  | [d1, d2, d3] => { results := [.lit (.bool true)], args := [d1, d2, d3] }
  | _ => none }
def ringWordsRow : OpenClaim := { program := "ytpjhbdhpphgldaa", sum := "92f782c755d7a00444db6e9a3d8e2720a230ff48f258d91d1504bbcaa9eddda7", func := "twain/twainlaw02.RingWords", spec := "ringWords", apart := false }
def RingWordsSaid : Prop := ringWordsRow.holds Try.pinned (OpenSpec.ofChange ringWordsSpec)

/-- ITS FALSE NEIGHBOUR: 'it returns false'. Refute it at one input. -/
def ringWordsWrong : ChangeSpec := { name := "ringWords", fn := fun _ => fun
  | [d1, d2, d3] => { results := [.lit (.bool false)], args := [d1, d2, d3] }
  | _ => none }
def RingWordsWrongFalsely : Prop := ringWordsRow.holds Try.pinned (OpenSpec.ofChange ringWordsWrong)

/- THE SECOND FORM. 'bulk': how many values and letters a reading holds, each counted each time it is reached (what is shared counts as often as it is met; a slice's spare places count too). A statement '..UptoSaid' is the law's where the arguments, and the package variables that the reading takes, are together of bulk at most 1048576: NARROWER than '..Said'. Prove '..Said' where nothing that the law and all that it calls make is longer than what came in: it says more and counts as full. Else prove '..UptoSaid'. A law counts once. -/
mutual
def uptoBulk {H : Type} : DataW H → Nat
  | .lit (.string bytes) => bytes.length + 1
  | .lit _ => 1
  | .nil => 1
  | .ptr d => uptoBulk d + 1
  | .slice elems spare => uptoBulkAll elems + uptoBulkAll spare + 1
  | .agg parts => uptoBulkAll parts + 1
  | .iface _ d => uptoBulk d + 1
  | .map entries => uptoBulkEntries entries + 1
  | .held _ => 1
def uptoBulkAll {H : Type} : List (DataW H) → Nat
  | [] => 0
  | d :: r => uptoBulk d + uptoBulkAll r
def uptoBulkEntries {H : Type} : List (Lit × DataW H) → Nat
  | [] => 0
  | x :: r => uptoBulkEntry x + uptoBulkEntries r
def uptoBulkEntry {H : Type} : Lit × DataW H → Nat
  | (.string bytes, d) => bytes.length + uptoBulk d + 1
  | (_, d) => uptoBulk d + 1
 end
def uptoSmall : (H : Type) → List (DataW H) → Bool := fun _ ds => decide (uptoBulkAll ds ≤ 1048576)
def OpenSpec.upto (s : _root_.Go.ChangeSpec) : _root_.Go.OpenSpec := { _root_.Go.OpenSpec.ofChange s with cond := some uptoSmall }

/-- 'twainlaw02.RingFloor', WHERE WHAT IT READS IS OF BULK AT MOST 1048576: true; the input reads as it did. -/
def ringFloorUptoRow : OpenClaim := { program := "ytpjhbdhpphgldaa", sum := "92f782c755d7a00444db6e9a3d8e2720a230ff48f258d91d1504bbcaa9eddda7", func := "twain/twainlaw02.RingFloor", spec := "ringFloor", apart := false, narrowed := true }
def RingFloorUptoSaid : Prop := ringFloorUptoRow.holds Try.pinned (OpenSpec.upto ringFloorSpec)

/-- 'twainlaw02.RingOrders', WHERE WHAT IT READS IS OF BULK AT MOST 1048576: true; the input reads as it did. -/
def ringOrdersUptoRow : OpenClaim := { program := "ytpjhbdhpphgldaa", sum := "92f782c755d7a00444db6e9a3d8e2720a230ff48f258d91d1504bbcaa9eddda7", func := "twain/twainlaw02.RingOrders", spec := "ringOrders", apart := false, narrowed := true }
def RingOrdersUptoSaid : Prop := ringOrdersUptoRow.holds Try.pinned (OpenSpec.upto ringOrdersSpec)

/-- 'twainlaw02.RingOrder', WHERE WHAT IT READS IS OF BULK AT MOST 1048576: true; the input reads as it did. -/
def ringOrderUptoRow : OpenClaim := { program := "ytpjhbdhpphgldaa", sum := "92f782c755d7a00444db6e9a3d8e2720a230ff48f258d91d1504bbcaa9eddda7", func := "twain/twainlaw02.RingOrder", spec := "ringOrder", apart := false, narrowed := true }
def RingOrderUptoSaid : Prop := ringOrderUptoRow.holds Try.pinned (OpenSpec.upto ringOrderSpec)

/-- 'twainlaw02.RingLabels', WHERE WHAT IT READS IS OF BULK AT MOST 1048576: true; the input reads as it did. -/
def ringLabelsUptoRow : OpenClaim := { program := "ytpjhbdhpphgldaa", sum := "92f782c755d7a00444db6e9a3d8e2720a230ff48f258d91d1504bbcaa9eddda7", func := "twain/twainlaw02.RingLabels", spec := "ringLabels", apart := false, narrowed := true }
def RingLabelsUptoSaid : Prop := ringLabelsUptoRow.holds Try.pinned (OpenSpec.upto ringLabelsSpec)

/-- 'twainlaw02.RingTurned', WHERE WHAT IT READS IS OF BULK AT MOST 1048576: true; the input reads as it did. -/
def ringTurnedUptoRow : OpenClaim := { program := "ytpjhbdhpphgldaa", sum := "92f782c755d7a00444db6e9a3d8e2720a230ff48f258d91d1504bbcaa9eddda7", func := "twain/twainlaw02.RingTurned", spec := "ringTurned", apart := false, narrowed := true }
def RingTurnedUptoSaid : Prop := ringTurnedUptoRow.holds Try.pinned (OpenSpec.upto ringTurnedSpec)

/-- 'twainlaw02.RingWords', WHERE WHAT IT READS IS OF BULK AT MOST 1048576: true; the input reads as it did. -/
def ringWordsUptoRow : OpenClaim := { program := "ytpjhbdhpphgldaa", sum := "92f782c755d7a00444db6e9a3d8e2720a230ff48f258d91d1504bbcaa9eddda7", func := "twain/twainlaw02.RingWords", spec := "ringWords", apart := false, narrowed := true }
def RingWordsUptoSaid : Prop := ringWordsUptoRow.holds Try.pinned (OpenSpec.upto ringWordsSpec)

end Rows
end Go.Proofs.Ytpjhbdhpphgldaa
