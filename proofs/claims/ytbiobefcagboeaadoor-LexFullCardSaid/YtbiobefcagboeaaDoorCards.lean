/-
  DERIVED. GIVEN WITH THE SEED: THE CARDS: each row of YtbiobefcagboeaaDoorRows.lean that lists a variable, with what it lists TIED to the program's text (the seventh form; the later family's looks); each row that meets fmt, with fmt's text TOLD by the authors' own Lean function (tested against real Go, not proved from fmt's source: count such statements apart). THE CARD IS WHAT COUNTS. Prove the row's statement (the work); the ties are given (YtbiobefcagboeaaDoorTie.lean); close each card by the builder's one call (the guide's Derived/Test/ToyasCard.lean, 'card_holds'). Laid BY PROGRAM, IN A SANDBOX (cutbox-door.mjs). By AI agents, Wed Nov 11 2026. No macro, syntax, notation, axiom, sorry.
-/
import Derived.Test.YtbiobefcagboeaaDoorRows
import GoSem.ClaimSeven
namespace Go.Proofs.YtbiobefcagboeaaDoor
namespace Rows

/-- THE TIED CARD OF 'twainlaw12.LexBack'. -/
def lexBackCard : Claim7 := { stood := { row := lexBackRow, standIns := [], harness := (true, "39b2544eb0c63d376490f56bff8539f484bd0bac3a47ab62581bcb5753eea551"), looks := true }, kinds := [], alts := [], laidByText := true, laidKinds := [.data, .data, .data, .handle, .sentinel, .sentinel], laidTests := true, laidLooks := .later }
def LexBackCardSaid : Prop := Claim7.holds Tryd.pinned (.plain (OpenSpec.ofChange lexBackSpec)) lexBackCard

/-- THE TIED CARD OF 'twainlaw12.LexSpaces'. -/
def lexSpacesCard : Claim7 := { stood := { row := lexSpacesRow, standIns := [], harness := (true, "39b2544eb0c63d376490f56bff8539f484bd0bac3a47ab62581bcb5753eea551"), looks := true }, kinds := [], alts := [], laidByText := true, laidKinds := [.data, .data, .data, .handle, .sentinel, .sentinel], laidTests := true, laidLooks := .later }
def LexSpacesCardSaid : Prop := Claim7.holds Tryd.pinned (.plain (OpenSpec.ofChange lexSpacesSpec)) lexSpacesCard

/-- THE TIED CARD OF 'twainlaw12.LexEnds'. -/
def lexEndsCard : Claim7 := { stood := { row := lexEndsRow, standIns := [], harness := (true, "39b2544eb0c63d376490f56bff8539f484bd0bac3a47ab62581bcb5753eea551"), looks := true }, kinds := [], alts := [], laidByText := true, laidKinds := [.data, .data, .data, .handle, .sentinel, .sentinel], laidTests := true, laidLooks := .later }
def LexEndsCardSaid : Prop := Claim7.holds Tryd.pinned (.plain (OpenSpec.ofChange lexEndsSpec)) lexEndsCard

/-- THE TIED CARD OF 'twainlaw12.LexScans'. -/
def lexScansCard : Claim7 := { stood := { row := lexScansRow, standIns := [], harness := (true, "39b2544eb0c63d376490f56bff8539f484bd0bac3a47ab62581bcb5753eea551"), looks := true }, kinds := [], alts := [], laidByText := true, laidKinds := [.data, .data, .data, .handle, .sentinel, .sentinel], laidTests := true, laidLooks := .later }
def LexScansCardSaid : Prop := Claim7.holds Tryd.pinned (.plain (OpenSpec.ofChange lexScansSpec)) lexScansCard

/-- THE TIED CARD OF 'twainlaw12.LexFull'. -/
def lexFullCard : Claim7 := { stood := { row := lexFullRow, standIns := [], harness := (true, "39b2544eb0c63d376490f56bff8539f484bd0bac3a47ab62581bcb5753eea551"), looks := true }, kinds := [], alts := [], laidByText := true, laidKinds := [.data, .data, .data, .handle, .sentinel, .sentinel], laidTests := true, laidLooks := .later }
def LexFullCardSaid : Prop := Claim7.holds Tryd.pinned (.plain (OpenSpec.ofChange lexFullSpec)) lexFullCard

/-- THE SECOND FORM's CARD OF 'twainlaw12.LexBack'. -/
def lexBackUptoCard : Claim7 := { stood := { row := lexBackUptoRow, standIns := [], harness := (true, "39b2544eb0c63d376490f56bff8539f484bd0bac3a47ab62581bcb5753eea551"), looks := true }, kinds := [], alts := [], laidByText := true, laidKinds := [.data, .data, .data, .handle, .sentinel, .sentinel], laidTests := true, laidLooks := .later }
def LexBackUptoCardSaid : Prop := Claim7.holds Tryd.pinned (.plain (OpenSpec.upto lexBackSpec)) lexBackUptoCard

/-- THE SECOND FORM's CARD OF 'twainlaw12.LexSpaces'. -/
def lexSpacesUptoCard : Claim7 := { stood := { row := lexSpacesUptoRow, standIns := [], harness := (true, "39b2544eb0c63d376490f56bff8539f484bd0bac3a47ab62581bcb5753eea551"), looks := true }, kinds := [], alts := [], laidByText := true, laidKinds := [.data, .data, .data, .handle, .sentinel, .sentinel], laidTests := true, laidLooks := .later }
def LexSpacesUptoCardSaid : Prop := Claim7.holds Tryd.pinned (.plain (OpenSpec.upto lexSpacesSpec)) lexSpacesUptoCard

/-- THE SECOND FORM's CARD OF 'twainlaw12.LexEnds'. -/
def lexEndsUptoCard : Claim7 := { stood := { row := lexEndsUptoRow, standIns := [], harness := (true, "39b2544eb0c63d376490f56bff8539f484bd0bac3a47ab62581bcb5753eea551"), looks := true }, kinds := [], alts := [], laidByText := true, laidKinds := [.data, .data, .data, .handle, .sentinel, .sentinel], laidTests := true, laidLooks := .later }
def LexEndsUptoCardSaid : Prop := Claim7.holds Tryd.pinned (.plain (OpenSpec.upto lexEndsSpec)) lexEndsUptoCard

/-- THE SECOND FORM's CARD OF 'twainlaw12.LexScans'. -/
def lexScansUptoCard : Claim7 := { stood := { row := lexScansUptoRow, standIns := [], harness := (true, "39b2544eb0c63d376490f56bff8539f484bd0bac3a47ab62581bcb5753eea551"), looks := true }, kinds := [], alts := [], laidByText := true, laidKinds := [.data, .data, .data, .handle, .sentinel, .sentinel], laidTests := true, laidLooks := .later }
def LexScansUptoCardSaid : Prop := Claim7.holds Tryd.pinned (.plain (OpenSpec.upto lexScansSpec)) lexScansUptoCard

/-- THE SECOND FORM's CARD OF 'twainlaw12.LexFull'. -/
def lexFullUptoCard : Claim7 := { stood := { row := lexFullUptoRow, standIns := [], harness := (true, "39b2544eb0c63d376490f56bff8539f484bd0bac3a47ab62581bcb5753eea551"), looks := true }, kinds := [], alts := [], laidByText := true, laidKinds := [.data, .data, .data, .handle, .sentinel, .sentinel], laidTests := true, laidLooks := .later }
def LexFullUptoCardSaid : Prop := Claim7.holds Tryd.pinned (.plain (OpenSpec.upto lexFullSpec)) lexFullUptoCard
end Rows
end Go.Proofs.YtbiobefcagboeaaDoor
