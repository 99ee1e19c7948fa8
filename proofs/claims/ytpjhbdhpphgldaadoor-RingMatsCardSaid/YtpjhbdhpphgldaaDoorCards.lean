/-
  DERIVED. GIVEN WITH THE SEED: THE CARDS: each row of YtpjhbdhpphgldaaDoorRows.lean that lists a variable, with what it lists TIED to the program's text (the seventh form; the later family's looks); each row that meets fmt, with fmt's text TOLD by the authors' own Lean function (tested against real Go, not proved from fmt's source: count such statements apart). THE CARD IS WHAT COUNTS. Prove the row's statement (the work); the ties are given (YtpjhbdhpphgldaaDoorTie.lean); close each card by the builder's one call (the guide's Derived/Test/ToyasCard.lean, 'card_holds'). Laid BY PROGRAM, IN A SANDBOX (cutbox-door.mjs). By AI agents, Wed Nov 11 2026. No macro, syntax, notation, axiom, sorry.
-/
import Derived.Test.YtpjhbdhpphgldaaDoorRows
import GoSem.ClaimSeven
namespace Go.Proofs.YtpjhbdhpphgldaaDoor
namespace Rows

/-- THE TIED CARD OF 'twainlaw02.RingMats'. -/
def ringMatsCard : Claim7 := { stood := { row := ringMatsRow, standIns := [], harness := (true, "bbf9c75780c8f7d8539256cd1e2b5101583410d865252586b179d4fcaae3267b"), looks := true }, kinds := [], alts := [], laidByText := true, laidKinds := [.handle], laidTests := true, laidLooks := .later }
def RingMatsCardSaid : Prop := Claim7.holds Tryd.pinned (.plain (OpenSpec.ofChange ringMatsSpec)) ringMatsCard

/-- THE SECOND FORM's CARD OF 'twainlaw02.RingMats'. -/
def ringMatsUptoCard : Claim7 := { stood := { row := ringMatsUptoRow, standIns := [], harness := (true, "bbf9c75780c8f7d8539256cd1e2b5101583410d865252586b179d4fcaae3267b"), looks := true }, kinds := [], alts := [], laidByText := true, laidKinds := [.handle], laidTests := true, laidLooks := .later }
def RingMatsUptoCardSaid : Prop := Claim7.holds Tryd.pinned (.plain (OpenSpec.upto ringMatsSpec)) ringMatsUptoCard
end Rows
end Go.Proofs.YtpjhbdhpphgldaaDoor
