/-
  DERIVED. GIVEN WITH THE SEED: THE CARDS: each row of YtkhbodjgckgepaaDoorRows.lean that lists a variable, with what it lists TIED to the program's text (the seventh form; the later family's looks); each row that meets fmt, with fmt's text TOLD by the authors' own Lean function (tested against real Go, not proved from fmt's source: count such statements apart). THE CARD IS WHAT COUNTS. Prove the row's statement (the work); the ties are given (YtkhbodjgckgepaaDoorTie.lean); close each card by the builder's one call (the guide's Derived/Test/ToyasCard.lean, 'card_holds'). Laid BY PROGRAM, IN A SANDBOX (cutbox-door.mjs). By AI agents, Wed Nov 11 2026. No macro, syntax, notation, axiom, sorry.
-/
import Derived.Test.YtkhbodjgckgepaaDoorRows
import GoSem.ClaimSeven
namespace Go.Proofs.YtkhbodjgckgepaaDoor
namespace Rows

/-- THE TIED CARD OF 'twainlaw05.WireDigests'. -/
def wireDigestsCard : Claim7 := { stood := { row := wireDigestsRow, standIns := [], harness := (true, "0564011495b95f1011f741f035bdf4cc93b38b6f93890c895b2c667a7cdbc4ee"), looks := true }, kinds := [], alts := [], laidByText := true, laidKinds := [.handle], laidTests := true, laidLooks := .later }
def WireDigestsCardSaid : Prop := Claim7.holds Tryd.pinned (.plain (OpenSpec.ofChange wireDigestsSpec)) wireDigestsCard

/-- THE TIED CARD OF 'twainlaw05.WireDigestTells'. -/
def wireDigestTellsCard : Claim7 := { stood := { row := wireDigestTellsRow, standIns := [], harness := (true, "0564011495b95f1011f741f035bdf4cc93b38b6f93890c895b2c667a7cdbc4ee"), looks := true }, kinds := [], alts := [], laidByText := true, laidKinds := [.handle], laidTests := true, laidLooks := .later }
def WireDigestTellsCardSaid : Prop := Claim7.holds Tryd.pinned (.plain (OpenSpec.ofChange wireDigestTellsSpec)) wireDigestTellsCard

/-- THE TIED CARD OF 'twainlaw05.WireNumbers'. -/
def wireNumbersCard : Claim7 := { stood := { row := wireNumbersRow, standIns := [], harness := (true, "0564011495b95f1011f741f035bdf4cc93b38b6f93890c895b2c667a7cdbc4ee"), looks := true }, kinds := [], alts := [], laidByText := true, laidKinds := [.handle], laidTests := true, laidLooks := .later }
def WireNumbersCardSaid : Prop := Claim7.holds Tryd.pinned (.plain (OpenSpec.ofChange wireNumbersSpec)) wireNumbersCard

/-- THE TIED CARD OF 'twainlaw05.WireOwn'. -/
def wireOwnCard : Claim7 := { stood := { row := wireOwnRow, standIns := [], harness := (true, "0564011495b95f1011f741f035bdf4cc93b38b6f93890c895b2c667a7cdbc4ee"), looks := true }, kinds := [], alts := [], laidByText := true, laidKinds := [.handle], laidTests := true, laidLooks := .later }
def WireOwnCardSaid : Prop := Claim7.holds Tryd.pinned (.plain (OpenSpec.ofChange wireOwnSpec)) wireOwnCard

/-- THE TIED CARD OF 'twainlaw05.WireBehind'. -/
def wireBehindCard : Claim7 := { stood := { row := wireBehindRow, standIns := [], harness := (true, "0564011495b95f1011f741f035bdf4cc93b38b6f93890c895b2c667a7cdbc4ee"), looks := true }, kinds := [], alts := [], laidByText := true, laidKinds := [.handle], laidTests := true, laidLooks := .later }
def WireBehindCardSaid : Prop := Claim7.holds Tryd.pinned (.plain (OpenSpec.ofChange wireBehindSpec)) wireBehindCard

/-- THE TIED CARD OF 'twainlaw05.WireCodes'. -/
def wireCodesCard : Claim7 := { stood := { row := wireCodesRow, standIns := [], harness := (true, "0564011495b95f1011f741f035bdf4cc93b38b6f93890c895b2c667a7cdbc4ee"), looks := true }, kinds := [], alts := [], laidByText := true, laidKinds := [.handle], laidTests := true, laidLooks := .later }
def WireCodesCardSaid : Prop := Claim7.holds Tryd.pinned (.plain (OpenSpec.ofChange wireCodesSpec)) wireCodesCard

/-- THE TIED CARD OF 'twainlaw05.WireReads'. -/
def wireReadsCard : Claim7 := { stood := { row := wireReadsRow, standIns := [], harness := (true, "0564011495b95f1011f741f035bdf4cc93b38b6f93890c895b2c667a7cdbc4ee"), looks := true }, kinds := [], alts := [], laidByText := true, laidKinds := [.handle], laidTests := true, laidLooks := .later }
def WireReadsCardSaid : Prop := Claim7.holds Tryd.pinned (.plain (OpenSpec.ofChange wireReadsSpec)) wireReadsCard

/-- THE SECOND FORM's CARD OF 'twainlaw05.WireDigests'. -/
def wireDigestsUptoCard : Claim7 := { stood := { row := wireDigestsUptoRow, standIns := [], harness := (true, "0564011495b95f1011f741f035bdf4cc93b38b6f93890c895b2c667a7cdbc4ee"), looks := true }, kinds := [], alts := [], laidByText := true, laidKinds := [.handle], laidTests := true, laidLooks := .later }
def WireDigestsUptoCardSaid : Prop := Claim7.holds Tryd.pinned (.plain (OpenSpec.upto wireDigestsSpec)) wireDigestsUptoCard

/-- THE SECOND FORM's CARD OF 'twainlaw05.WireDigestTells'. -/
def wireDigestTellsUptoCard : Claim7 := { stood := { row := wireDigestTellsUptoRow, standIns := [], harness := (true, "0564011495b95f1011f741f035bdf4cc93b38b6f93890c895b2c667a7cdbc4ee"), looks := true }, kinds := [], alts := [], laidByText := true, laidKinds := [.handle], laidTests := true, laidLooks := .later }
def WireDigestTellsUptoCardSaid : Prop := Claim7.holds Tryd.pinned (.plain (OpenSpec.upto wireDigestTellsSpec)) wireDigestTellsUptoCard

/-- THE SECOND FORM's CARD OF 'twainlaw05.WireNumbers'. -/
def wireNumbersUptoCard : Claim7 := { stood := { row := wireNumbersUptoRow, standIns := [], harness := (true, "0564011495b95f1011f741f035bdf4cc93b38b6f93890c895b2c667a7cdbc4ee"), looks := true }, kinds := [], alts := [], laidByText := true, laidKinds := [.handle], laidTests := true, laidLooks := .later }
def WireNumbersUptoCardSaid : Prop := Claim7.holds Tryd.pinned (.plain (OpenSpec.upto wireNumbersSpec)) wireNumbersUptoCard

/-- THE SECOND FORM's CARD OF 'twainlaw05.WireOwn'. -/
def wireOwnUptoCard : Claim7 := { stood := { row := wireOwnUptoRow, standIns := [], harness := (true, "0564011495b95f1011f741f035bdf4cc93b38b6f93890c895b2c667a7cdbc4ee"), looks := true }, kinds := [], alts := [], laidByText := true, laidKinds := [.handle], laidTests := true, laidLooks := .later }
def WireOwnUptoCardSaid : Prop := Claim7.holds Tryd.pinned (.plain (OpenSpec.upto wireOwnSpec)) wireOwnUptoCard

/-- THE SECOND FORM's CARD OF 'twainlaw05.WireBehind'. -/
def wireBehindUptoCard : Claim7 := { stood := { row := wireBehindUptoRow, standIns := [], harness := (true, "0564011495b95f1011f741f035bdf4cc93b38b6f93890c895b2c667a7cdbc4ee"), looks := true }, kinds := [], alts := [], laidByText := true, laidKinds := [.handle], laidTests := true, laidLooks := .later }
def WireBehindUptoCardSaid : Prop := Claim7.holds Tryd.pinned (.plain (OpenSpec.upto wireBehindSpec)) wireBehindUptoCard

/-- THE SECOND FORM's CARD OF 'twainlaw05.WireCodes'. -/
def wireCodesUptoCard : Claim7 := { stood := { row := wireCodesUptoRow, standIns := [], harness := (true, "0564011495b95f1011f741f035bdf4cc93b38b6f93890c895b2c667a7cdbc4ee"), looks := true }, kinds := [], alts := [], laidByText := true, laidKinds := [.handle], laidTests := true, laidLooks := .later }
def WireCodesUptoCardSaid : Prop := Claim7.holds Tryd.pinned (.plain (OpenSpec.upto wireCodesSpec)) wireCodesUptoCard

/-- THE SECOND FORM's CARD OF 'twainlaw05.WireReads'. -/
def wireReadsUptoCard : Claim7 := { stood := { row := wireReadsUptoRow, standIns := [], harness := (true, "0564011495b95f1011f741f035bdf4cc93b38b6f93890c895b2c667a7cdbc4ee"), looks := true }, kinds := [], alts := [], laidByText := true, laidKinds := [.handle], laidTests := true, laidLooks := .later }
def WireReadsUptoCardSaid : Prop := Claim7.holds Tryd.pinned (.plain (OpenSpec.upto wireReadsSpec)) wireReadsUptoCard
end Rows
end Go.Proofs.YtkhbodjgckgepaaDoor
