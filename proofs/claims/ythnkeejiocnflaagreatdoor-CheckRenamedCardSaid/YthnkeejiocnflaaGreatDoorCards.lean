/-
  DERIVED. GIVEN WITH THE SEED: THE CARDS: each row of YthnkeejiocnflaaGreatDoorRows.lean that lists a variable, with what it lists TIED to the program's text (the seventh form; the later family's looks); each row that meets fmt, with fmt's text TOLD by the authors' own Lean function (tested against real Go, not proved from fmt's source: count such statements apart). THE CARD IS WHAT COUNTS. Prove the row's statement (the work); the ties are given (YthnkeejiocnflaaGreatDoorTie.lean); close each card by the builder's one call (the guide's Derived/Test/ToyasCard.lean, 'card_holds'). Laid BY PROGRAM, IN A SANDBOX (cutbox-door.mjs). By AI agents, Wed Nov 11 2026. No macro, syntax, notation, axiom, sorry.
-/
import Derived.Test.YthnkeejiocnflaaGreatDoorRows
import GoSem.ClaimSeven
namespace Go.Proofs.YthnkeejiocnflaaGreatDoor
namespace Rows

/-- THE TIED CARD OF 'twainlaw14.CheckElems'. -/
def checkElemsCard : Claim7 := { stood := { row := checkElemsRow, standIns := [], harness := (true, "5b41059846b69318aa9711fdfbd0327fe6a7cc3b7ab534386439d418cb036f42"), looks := true }, kinds := [], alts := [], laidByText := true, laidKinds := [.data, .data, .data, .handle, .sentinel, .sentinel], laidTests := true, laidLooks := .later }
def CheckElemsCardSaid : Prop := Claim7.holds Tryz.pinned (.plain (OpenSpec.ofChange checkElemsSpec)) checkElemsCard

/-- THE TIED CARD OF 'twainlaw14.CheckBroken'. -/
def checkBrokenCard : Claim7 := { stood := { row := checkBrokenRow, standIns := [], harness := (true, "5b41059846b69318aa9711fdfbd0327fe6a7cc3b7ab534386439d418cb036f42"), looks := true }, kinds := [], alts := [], laidByText := true, laidKinds := [.data, .data, .data, .handle, .sentinel, .sentinel], laidTests := true, laidLooks := .later }
def CheckBrokenCardSaid : Prop := Claim7.holds Tryz.pinned (.plain (OpenSpec.ofChange checkBrokenSpec)) checkBrokenCard

/-- THE TIED CARD OF 'twainlaw14.CheckMore'. -/
def checkMoreCard : Claim7 := { stood := { row := checkMoreRow, standIns := [], harness := (true, "5b41059846b69318aa9711fdfbd0327fe6a7cc3b7ab534386439d418cb036f42"), looks := true }, kinds := [], alts := [], laidByText := true, laidKinds := [.data, .data, .data, .handle, .sentinel, .sentinel], laidTests := true, laidLooks := .later }
def CheckMoreCardSaid : Prop := Claim7.holds Tryz.pinned (.plain (OpenSpec.ofChange checkMoreSpec)) checkMoreCard

/-- THE TIED CARD OF 'twainlaw14.CheckOwn'. -/
def checkOwnCard : Claim7 := { stood := { row := checkOwnRow, standIns := [], harness := (true, "5b41059846b69318aa9711fdfbd0327fe6a7cc3b7ab534386439d418cb036f42"), looks := true }, kinds := [], alts := [], laidByText := true, laidKinds := [.data, .data, .data, .handle, .sentinel, .sentinel], laidTests := true, laidLooks := .later }
def CheckOwnCardSaid : Prop := Claim7.holds Tryz.pinned (.plain (OpenSpec.ofChange checkOwnSpec)) checkOwnCard

/-- THE TIED CARD OF 'twainlaw14.CheckTexts'. -/
def checkTextsCard : Claim7 := { stood := { row := checkTextsRow, standIns := [], harness := (true, "5b41059846b69318aa9711fdfbd0327fe6a7cc3b7ab534386439d418cb036f42"), looks := true }, kinds := [], alts := [], laidByText := true, laidKinds := [.data, .data, .data, .handle, .sentinel, .sentinel], laidTests := true, laidLooks := .later }
def CheckTextsCardSaid : Prop := Claim7.holds Tryz.pinned (.plain (OpenSpec.ofChange checkTextsSpec)) checkTextsCard

/-- THE TIED CARD OF 'twainlaw14.CheckRenamed'. -/
def checkRenamedCard : Claim7 := { stood := { row := checkRenamedRow, standIns := [], harness := (true, "5b41059846b69318aa9711fdfbd0327fe6a7cc3b7ab534386439d418cb036f42"), looks := true }, kinds := [], alts := [], laidByText := true, laidKinds := [.data, .data, .data, .handle, .sentinel, .sentinel], laidTests := true, laidLooks := .later }
def CheckRenamedCardSaid : Prop := Claim7.holds Tryz.pinned (.plain (OpenSpec.ofChange checkRenamedSpec)) checkRenamedCard

/-- THE SECOND FORM's CARD OF 'twainlaw14.CheckElems'. -/
def checkElemsUptoCard : Claim7 := { stood := { row := checkElemsUptoRow, standIns := [], harness := (true, "5b41059846b69318aa9711fdfbd0327fe6a7cc3b7ab534386439d418cb036f42"), looks := true }, kinds := [], alts := [], laidByText := true, laidKinds := [.data, .data, .data, .handle, .sentinel, .sentinel], laidTests := true, laidLooks := .later }
def CheckElemsUptoCardSaid : Prop := Claim7.holds Tryz.pinned (.plain (OpenSpec.upto checkElemsSpec)) checkElemsUptoCard

/-- THE SECOND FORM's CARD OF 'twainlaw14.CheckBroken'. -/
def checkBrokenUptoCard : Claim7 := { stood := { row := checkBrokenUptoRow, standIns := [], harness := (true, "5b41059846b69318aa9711fdfbd0327fe6a7cc3b7ab534386439d418cb036f42"), looks := true }, kinds := [], alts := [], laidByText := true, laidKinds := [.data, .data, .data, .handle, .sentinel, .sentinel], laidTests := true, laidLooks := .later }
def CheckBrokenUptoCardSaid : Prop := Claim7.holds Tryz.pinned (.plain (OpenSpec.upto checkBrokenSpec)) checkBrokenUptoCard

/-- THE SECOND FORM's CARD OF 'twainlaw14.CheckMore'. -/
def checkMoreUptoCard : Claim7 := { stood := { row := checkMoreUptoRow, standIns := [], harness := (true, "5b41059846b69318aa9711fdfbd0327fe6a7cc3b7ab534386439d418cb036f42"), looks := true }, kinds := [], alts := [], laidByText := true, laidKinds := [.data, .data, .data, .handle, .sentinel, .sentinel], laidTests := true, laidLooks := .later }
def CheckMoreUptoCardSaid : Prop := Claim7.holds Tryz.pinned (.plain (OpenSpec.upto checkMoreSpec)) checkMoreUptoCard

/-- THE SECOND FORM's CARD OF 'twainlaw14.CheckOwn'. -/
def checkOwnUptoCard : Claim7 := { stood := { row := checkOwnUptoRow, standIns := [], harness := (true, "5b41059846b69318aa9711fdfbd0327fe6a7cc3b7ab534386439d418cb036f42"), looks := true }, kinds := [], alts := [], laidByText := true, laidKinds := [.data, .data, .data, .handle, .sentinel, .sentinel], laidTests := true, laidLooks := .later }
def CheckOwnUptoCardSaid : Prop := Claim7.holds Tryz.pinned (.plain (OpenSpec.upto checkOwnSpec)) checkOwnUptoCard

/-- THE SECOND FORM's CARD OF 'twainlaw14.CheckTexts'. -/
def checkTextsUptoCard : Claim7 := { stood := { row := checkTextsUptoRow, standIns := [], harness := (true, "5b41059846b69318aa9711fdfbd0327fe6a7cc3b7ab534386439d418cb036f42"), looks := true }, kinds := [], alts := [], laidByText := true, laidKinds := [.data, .data, .data, .handle, .sentinel, .sentinel], laidTests := true, laidLooks := .later }
def CheckTextsUptoCardSaid : Prop := Claim7.holds Tryz.pinned (.plain (OpenSpec.upto checkTextsSpec)) checkTextsUptoCard

/-- THE SECOND FORM's CARD OF 'twainlaw14.CheckRenamed'. -/
def checkRenamedUptoCard : Claim7 := { stood := { row := checkRenamedUptoRow, standIns := [], harness := (true, "5b41059846b69318aa9711fdfbd0327fe6a7cc3b7ab534386439d418cb036f42"), looks := true }, kinds := [], alts := [], laidByText := true, laidKinds := [.data, .data, .data, .handle, .sentinel, .sentinel], laidTests := true, laidLooks := .later }
def CheckRenamedUptoCardSaid : Prop := Claim7.holds Tryz.pinned (.plain (OpenSpec.upto checkRenamedSpec)) checkRenamedUptoCard
end Rows
end Go.Proofs.YthnkeejiocnflaaGreatDoor
