/-
  DERIVED. GIVEN WITH THE SEED: THE CARDS: each row of YtcefclglmhpdeaaGreatDoorRows.lean that lists a variable, with what it lists TIED to the program's text (the seventh form; the later family's looks); each row that meets fmt, with fmt's text TOLD by the authors' own Lean function (tested against real Go, not proved from fmt's source: count such statements apart). THE CARD IS WHAT COUNTS. Prove the row's statement (the work); the ties are given (YtcefclglmhpdeaaGreatDoorTie.lean); close each card by the builder's one call (the guide's Derived/Test/ToyasCard.lean, 'card_holds'). Laid BY PROGRAM, IN A SANDBOX (cutbox-door.mjs). By AI agents, Wed Nov 11 2026. No macro, syntax, notation, axiom, sorry.
-/
import Derived.Test.YtcefclglmhpdeaaGreatDoorRows
import GoSem.ClaimSeven
namespace Go.Proofs.YtcefclglmhpdeaaGreatDoor
namespace Rows

/-- THE TIED CARD OF 'twainlaw13.ParseJoined'. -/
def parseJoinedCard : Claim7 := { stood := { row := parseJoinedRow, standIns := [], harness := (true, "4574db80578613807d3d2f000333660b49d1fe9e058017ca007ee999c69fa059"), looks := true }, kinds := [], alts := [], laidByText := true, laidKinds := [.data, .data, .data, .handle, .sentinel, .sentinel], laidTests := true, laidLooks := .later }
def ParseJoinedCardSaid : Prop := Claim7.holds Tryz.pinned (.plain (OpenSpec.ofChange parseJoinedSpec)) parseJoinedCard

/-- THE TIED CARD OF 'twainlaw13.ParseBack'. -/
def parseBackCard : Claim7 := { stood := { row := parseBackRow, standIns := [], harness := (true, "4574db80578613807d3d2f000333660b49d1fe9e058017ca007ee999c69fa059"), looks := true }, kinds := [], alts := [], laidByText := true, laidKinds := [.data, .data, .data, .handle, .sentinel, .sentinel], laidTests := true, laidLooks := .later }
def ParseBackCardSaid : Prop := Claim7.holds Tryz.pinned (.plain (OpenSpec.ofChange parseBackSpec)) parseBackCard

/-- THE TIED CARD OF 'twainlaw13.ParseOwn'. -/
def parseOwnCard : Claim7 := { stood := { row := parseOwnRow, standIns := [], harness := (true, "4574db80578613807d3d2f000333660b49d1fe9e058017ca007ee999c69fa059"), looks := true }, kinds := [], alts := [], laidByText := true, laidKinds := [.data, .data, .data, .handle, .sentinel, .sentinel], laidTests := true, laidLooks := .later }
def ParseOwnCardSaid : Prop := Claim7.holds Tryz.pinned (.plain (OpenSpec.ofChange parseOwnSpec)) parseOwnCard

/-- THE TIED CARD OF 'twainlaw13.ParseTexts'. -/
def parseTextsCard : Claim7 := { stood := { row := parseTextsRow, standIns := [], harness := (true, "4574db80578613807d3d2f000333660b49d1fe9e058017ca007ee999c69fa059"), looks := true }, kinds := [], alts := [], laidByText := true, laidKinds := [.data, .data, .data, .handle, .sentinel, .sentinel], laidTests := true, laidLooks := .later }
def ParseTextsCardSaid : Prop := Claim7.holds Tryz.pinned (.plain (OpenSpec.ofChange parseTextsSpec)) parseTextsCard

/-- THE TIED CARD OF 'twainlaw13.ParseDeep'. -/
def parseDeepCard : Claim7 := { stood := { row := parseDeepRow, standIns := [], harness := (true, "4574db80578613807d3d2f000333660b49d1fe9e058017ca007ee999c69fa059"), looks := true }, kinds := [], alts := [], laidByText := true, laidKinds := [.data, .data, .data, .handle, .sentinel, .sentinel], laidTests := true, laidLooks := .later }
def ParseDeepCardSaid : Prop := Claim7.holds Tryz.pinned (.plain (OpenSpec.ofChange parseDeepSpec)) parseDeepCard

/-- THE TIED CARD OF 'twainlaw13.ParseCut'. -/
def parseCutCard : Claim7 := { stood := { row := parseCutRow, standIns := [], harness := (true, "4574db80578613807d3d2f000333660b49d1fe9e058017ca007ee999c69fa059"), looks := true }, kinds := [], alts := [], laidByText := true, laidKinds := [.data, .data, .data, .handle, .sentinel, .sentinel], laidTests := true, laidLooks := .later }
def ParseCutCardSaid : Prop := Claim7.holds Tryz.pinned (.plain (OpenSpec.ofChange parseCutSpec)) parseCutCard

/-- THE SECOND FORM's CARD OF 'twainlaw13.ParseJoined'. -/
def parseJoinedUptoCard : Claim7 := { stood := { row := parseJoinedUptoRow, standIns := [], harness := (true, "4574db80578613807d3d2f000333660b49d1fe9e058017ca007ee999c69fa059"), looks := true }, kinds := [], alts := [], laidByText := true, laidKinds := [.data, .data, .data, .handle, .sentinel, .sentinel], laidTests := true, laidLooks := .later }
def ParseJoinedUptoCardSaid : Prop := Claim7.holds Tryz.pinned (.plain (OpenSpec.upto parseJoinedSpec)) parseJoinedUptoCard

/-- THE SECOND FORM's CARD OF 'twainlaw13.ParseBack'. -/
def parseBackUptoCard : Claim7 := { stood := { row := parseBackUptoRow, standIns := [], harness := (true, "4574db80578613807d3d2f000333660b49d1fe9e058017ca007ee999c69fa059"), looks := true }, kinds := [], alts := [], laidByText := true, laidKinds := [.data, .data, .data, .handle, .sentinel, .sentinel], laidTests := true, laidLooks := .later }
def ParseBackUptoCardSaid : Prop := Claim7.holds Tryz.pinned (.plain (OpenSpec.upto parseBackSpec)) parseBackUptoCard

/-- THE SECOND FORM's CARD OF 'twainlaw13.ParseOwn'. -/
def parseOwnUptoCard : Claim7 := { stood := { row := parseOwnUptoRow, standIns := [], harness := (true, "4574db80578613807d3d2f000333660b49d1fe9e058017ca007ee999c69fa059"), looks := true }, kinds := [], alts := [], laidByText := true, laidKinds := [.data, .data, .data, .handle, .sentinel, .sentinel], laidTests := true, laidLooks := .later }
def ParseOwnUptoCardSaid : Prop := Claim7.holds Tryz.pinned (.plain (OpenSpec.upto parseOwnSpec)) parseOwnUptoCard

/-- THE SECOND FORM's CARD OF 'twainlaw13.ParseTexts'. -/
def parseTextsUptoCard : Claim7 := { stood := { row := parseTextsUptoRow, standIns := [], harness := (true, "4574db80578613807d3d2f000333660b49d1fe9e058017ca007ee999c69fa059"), looks := true }, kinds := [], alts := [], laidByText := true, laidKinds := [.data, .data, .data, .handle, .sentinel, .sentinel], laidTests := true, laidLooks := .later }
def ParseTextsUptoCardSaid : Prop := Claim7.holds Tryz.pinned (.plain (OpenSpec.upto parseTextsSpec)) parseTextsUptoCard

/-- THE SECOND FORM's CARD OF 'twainlaw13.ParseDeep'. -/
def parseDeepUptoCard : Claim7 := { stood := { row := parseDeepUptoRow, standIns := [], harness := (true, "4574db80578613807d3d2f000333660b49d1fe9e058017ca007ee999c69fa059"), looks := true }, kinds := [], alts := [], laidByText := true, laidKinds := [.data, .data, .data, .handle, .sentinel, .sentinel], laidTests := true, laidLooks := .later }
def ParseDeepUptoCardSaid : Prop := Claim7.holds Tryz.pinned (.plain (OpenSpec.upto parseDeepSpec)) parseDeepUptoCard

/-- THE SECOND FORM's CARD OF 'twainlaw13.ParseCut'. -/
def parseCutUptoCard : Claim7 := { stood := { row := parseCutUptoRow, standIns := [], harness := (true, "4574db80578613807d3d2f000333660b49d1fe9e058017ca007ee999c69fa059"), looks := true }, kinds := [], alts := [], laidByText := true, laidKinds := [.data, .data, .data, .handle, .sentinel, .sentinel], laidTests := true, laidLooks := .later }
def ParseCutUptoCardSaid : Prop := Claim7.holds Tryz.pinned (.plain (OpenSpec.upto parseCutSpec)) parseCutUptoCard
end Rows
end Go.Proofs.YtcefclglmhpdeaaGreatDoor
