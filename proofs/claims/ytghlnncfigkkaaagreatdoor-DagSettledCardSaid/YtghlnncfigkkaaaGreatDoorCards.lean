/-
  DERIVED. GIVEN WITH THE SEED: THE CARDS: each row of YtghlnncfigkkaaaGreatDoorRows.lean that lists a variable, with what it lists TIED to the program's text (the seventh form; the later family's looks); each row that meets fmt, with fmt's text TOLD by the authors' own Lean function (tested against real Go, not proved from fmt's source: count such statements apart). THE CARD IS WHAT COUNTS. Prove the row's statement (the work); the ties are given (YtghlnncfigkkaaaGreatDoorTie.lean); close each card by the builder's one call (the guide's Derived/Test/ToyasCard.lean, 'card_holds'). Laid BY PROGRAM, IN A SANDBOX (cutbox-door.mjs). By AI agents, Wed Nov 11 2026. No macro, syntax, notation, axiom, sorry.
-/
import Derived.Test.YtghlnncfigkkaaaGreatDoorRows
import GoSem.ClaimSeven
namespace Go.Proofs.YtghlnncfigkkaaaGreatDoor
namespace Rows

/-- THE TIED CARD OF 'twainlaw13.ParseBack'. -/
def parseBackCard : Claim7 := { stood := { row := parseBackRow, standIns := [], harness := (true, "950ecdd4dc7f565322502d3da38441902bed326aba477a6d48329f30e666bcbe"), looks := true }, kinds := [], alts := [], laidByText := true, laidKinds := [.data, .data, .data, .handle, .sentinel, .sentinel], laidTests := true, laidLooks := .later }
def ParseBackCardSaid : Prop := Claim7.holds Tryz.pinned (.plain (OpenSpec.ofChange parseBackSpec)) parseBackCard

/-- THE TIED CARD OF 'twainlaw15.EvalMeans'. -/
def evalMeansCard : Claim7 := { stood := { row := evalMeansRow, standIns := [], harness := (true, "950ecdd4dc7f565322502d3da38441902bed326aba477a6d48329f30e666bcbe"), looks := true }, kinds := [], alts := [], laidByText := true, laidKinds := [.data, .data, .data, .handle, .sentinel, .sentinel], laidTests := true, laidLooks := .later }
def EvalMeansCardSaid : Prop := Claim7.holds Tryz.pinned (.plain (OpenSpec.ofChange evalMeansSpec)) evalMeansCard

/-- THE TIED CARD OF 'twainlaw15.EvalOwn'. -/
def evalOwnCard : Claim7 := { stood := { row := evalOwnRow, standIns := [], harness := (true, "950ecdd4dc7f565322502d3da38441902bed326aba477a6d48329f30e666bcbe"), looks := true }, kinds := [], alts := [], laidByText := true, laidKinds := [.data, .data, .data, .handle, .sentinel, .sentinel], laidTests := true, laidLooks := .later }
def EvalOwnCardSaid : Prop := Claim7.holds Tryz.pinned (.plain (OpenSpec.ofChange evalOwnSpec)) evalOwnCard

/-- THE TIED CARD OF 'twainlaw15.EvalLinear'. -/
def evalLinearCard : Claim7 := { stood := { row := evalLinearRow, standIns := [], harness := (true, "950ecdd4dc7f565322502d3da38441902bed326aba477a6d48329f30e666bcbe"), looks := true }, kinds := [], alts := [], laidByText := true, laidKinds := [.data, .data, .data, .handle, .sentinel, .sentinel], laidTests := true, laidLooks := .later }
def EvalLinearCardSaid : Prop := Claim7.holds Tryz.pinned (.plain (OpenSpec.ofChange evalLinearSpec)) evalLinearCard

/-- THE TIED CARD OF 'twainlaw15.EvalMost'. -/
def evalMostCard : Claim7 := { stood := { row := evalMostRow, standIns := [], harness := (true, "950ecdd4dc7f565322502d3da38441902bed326aba477a6d48329f30e666bcbe"), looks := true }, kinds := [], alts := [], laidByText := true, laidKinds := [.data, .data, .data, .handle, .sentinel, .sentinel], laidTests := true, laidLooks := .later }
def EvalMostCardSaid : Prop := Claim7.holds Tryz.pinned (.plain (OpenSpec.ofChange evalMostSpec)) evalMostCard

/-- THE TIED CARD OF 'twainlaw15.EvalTrees'. -/
def evalTreesCard : Claim7 := { stood := { row := evalTreesRow, standIns := [], harness := (true, "950ecdd4dc7f565322502d3da38441902bed326aba477a6d48329f30e666bcbe"), looks := true }, kinds := [], alts := [], laidByText := true, laidKinds := [.data, .data, .data, .handle, .sentinel, .sentinel], laidTests := true, laidLooks := .later }
def EvalTreesCardSaid : Prop := Claim7.holds Tryz.pinned (.plain (OpenSpec.ofChange evalTreesSpec)) evalTreesCard

/-- THE TIED CARD OF 'twainlaw15.EvalTexts'. -/
def evalTextsCard : Claim7 := { stood := { row := evalTextsRow, standIns := [], harness := (true, "950ecdd4dc7f565322502d3da38441902bed326aba477a6d48329f30e666bcbe"), looks := true }, kinds := [], alts := [], laidByText := true, laidKinds := [.data, .data, .data, .handle, .sentinel, .sentinel], laidTests := true, laidLooks := .later }
def EvalTextsCardSaid : Prop := Claim7.holds Tryz.pinned (.plain (OpenSpec.ofChange evalTextsSpec)) evalTextsCard

/-- THE TIED CARD OF 'twainlaw16.DagNeeds'. -/
def dagNeedsCard : Claim7 := { stood := { row := dagNeedsRow, standIns := [], harness := (true, "950ecdd4dc7f565322502d3da38441902bed326aba477a6d48329f30e666bcbe"), looks := true }, kinds := [], alts := [], laidByText := true, laidKinds := [.data, .data, .data, .handle, .sentinel, .sentinel], laidTests := true, laidLooks := .later }
def DagNeedsCardSaid : Prop := Claim7.holds Tryz.pinned (.plain (OpenSpec.ofChange dagNeedsSpec)) dagNeedsCard

/-- THE TIED CARD OF 'twainlaw16.DagFewer'. -/
def dagFewerCard : Claim7 := { stood := { row := dagFewerRow, standIns := [], harness := (true, "950ecdd4dc7f565322502d3da38441902bed326aba477a6d48329f30e666bcbe"), looks := true }, kinds := [], alts := [], laidByText := true, laidKinds := [.data, .data, .data, .handle, .sentinel, .sentinel], laidTests := true, laidLooks := .later }
def DagFewerCardSaid : Prop := Claim7.holds Tryz.pinned (.plain (OpenSpec.ofChange dagFewerSpec)) dagFewerCard

/-- THE TIED CARD OF 'twainlaw16.DagBuilds'. -/
def dagBuildsCard : Claim7 := { stood := { row := dagBuildsRow, standIns := [], harness := (true, "950ecdd4dc7f565322502d3da38441902bed326aba477a6d48329f30e666bcbe"), looks := true }, kinds := [], alts := [], laidByText := true, laidKinds := [.data, .data, .data, .handle, .sentinel, .sentinel], laidTests := true, laidLooks := .later }
def DagBuildsCardSaid : Prop := Claim7.holds Tryz.pinned (.plain (OpenSpec.ofChange dagBuildsSpec)) dagBuildsCard

/-- THE TIED CARD OF 'twainlaw16.DagSettled'. -/
def dagSettledCard : Claim7 := { stood := { row := dagSettledRow, standIns := [], harness := (true, "950ecdd4dc7f565322502d3da38441902bed326aba477a6d48329f30e666bcbe"), looks := true }, kinds := [], alts := [], laidByText := true, laidKinds := [.data, .data, .data, .handle, .sentinel, .sentinel], laidTests := true, laidLooks := .later }
def DagSettledCardSaid : Prop := Claim7.holds Tryz.pinned (.plain (OpenSpec.ofChange dagSettledSpec)) dagSettledCard

/-- THE TIED CARD OF 'twainlaw16.DagKeeps'. -/
def dagKeepsCard : Claim7 := { stood := { row := dagKeepsRow, standIns := [], harness := (true, "950ecdd4dc7f565322502d3da38441902bed326aba477a6d48329f30e666bcbe"), looks := true }, kinds := [], alts := [], laidByText := true, laidKinds := [.data, .data, .data, .handle, .sentinel, .sentinel], laidTests := true, laidLooks := .later }
def DagKeepsCardSaid : Prop := Claim7.holds Tryz.pinned (.plain (OpenSpec.ofChange dagKeepsSpec)) dagKeepsCard

/-- THE SECOND FORM's CARD OF 'twainlaw13.ParseBack'. -/
def parseBackUptoCard : Claim7 := { stood := { row := parseBackUptoRow, standIns := [], harness := (true, "950ecdd4dc7f565322502d3da38441902bed326aba477a6d48329f30e666bcbe"), looks := true }, kinds := [], alts := [], laidByText := true, laidKinds := [.data, .data, .data, .handle, .sentinel, .sentinel], laidTests := true, laidLooks := .later }
def ParseBackUptoCardSaid : Prop := Claim7.holds Tryz.pinned (.plain (OpenSpec.upto parseBackSpec)) parseBackUptoCard

/-- THE SECOND FORM's CARD OF 'twainlaw15.EvalMeans'. -/
def evalMeansUptoCard : Claim7 := { stood := { row := evalMeansUptoRow, standIns := [], harness := (true, "950ecdd4dc7f565322502d3da38441902bed326aba477a6d48329f30e666bcbe"), looks := true }, kinds := [], alts := [], laidByText := true, laidKinds := [.data, .data, .data, .handle, .sentinel, .sentinel], laidTests := true, laidLooks := .later }
def EvalMeansUptoCardSaid : Prop := Claim7.holds Tryz.pinned (.plain (OpenSpec.upto evalMeansSpec)) evalMeansUptoCard

/-- THE SECOND FORM's CARD OF 'twainlaw15.EvalOwn'. -/
def evalOwnUptoCard : Claim7 := { stood := { row := evalOwnUptoRow, standIns := [], harness := (true, "950ecdd4dc7f565322502d3da38441902bed326aba477a6d48329f30e666bcbe"), looks := true }, kinds := [], alts := [], laidByText := true, laidKinds := [.data, .data, .data, .handle, .sentinel, .sentinel], laidTests := true, laidLooks := .later }
def EvalOwnUptoCardSaid : Prop := Claim7.holds Tryz.pinned (.plain (OpenSpec.upto evalOwnSpec)) evalOwnUptoCard

/-- THE SECOND FORM's CARD OF 'twainlaw15.EvalLinear'. -/
def evalLinearUptoCard : Claim7 := { stood := { row := evalLinearUptoRow, standIns := [], harness := (true, "950ecdd4dc7f565322502d3da38441902bed326aba477a6d48329f30e666bcbe"), looks := true }, kinds := [], alts := [], laidByText := true, laidKinds := [.data, .data, .data, .handle, .sentinel, .sentinel], laidTests := true, laidLooks := .later }
def EvalLinearUptoCardSaid : Prop := Claim7.holds Tryz.pinned (.plain (OpenSpec.upto evalLinearSpec)) evalLinearUptoCard

/-- THE SECOND FORM's CARD OF 'twainlaw15.EvalMost'. -/
def evalMostUptoCard : Claim7 := { stood := { row := evalMostUptoRow, standIns := [], harness := (true, "950ecdd4dc7f565322502d3da38441902bed326aba477a6d48329f30e666bcbe"), looks := true }, kinds := [], alts := [], laidByText := true, laidKinds := [.data, .data, .data, .handle, .sentinel, .sentinel], laidTests := true, laidLooks := .later }
def EvalMostUptoCardSaid : Prop := Claim7.holds Tryz.pinned (.plain (OpenSpec.upto evalMostSpec)) evalMostUptoCard

/-- THE SECOND FORM's CARD OF 'twainlaw15.EvalTrees'. -/
def evalTreesUptoCard : Claim7 := { stood := { row := evalTreesUptoRow, standIns := [], harness := (true, "950ecdd4dc7f565322502d3da38441902bed326aba477a6d48329f30e666bcbe"), looks := true }, kinds := [], alts := [], laidByText := true, laidKinds := [.data, .data, .data, .handle, .sentinel, .sentinel], laidTests := true, laidLooks := .later }
def EvalTreesUptoCardSaid : Prop := Claim7.holds Tryz.pinned (.plain (OpenSpec.upto evalTreesSpec)) evalTreesUptoCard

/-- THE SECOND FORM's CARD OF 'twainlaw15.EvalTexts'. -/
def evalTextsUptoCard : Claim7 := { stood := { row := evalTextsUptoRow, standIns := [], harness := (true, "950ecdd4dc7f565322502d3da38441902bed326aba477a6d48329f30e666bcbe"), looks := true }, kinds := [], alts := [], laidByText := true, laidKinds := [.data, .data, .data, .handle, .sentinel, .sentinel], laidTests := true, laidLooks := .later }
def EvalTextsUptoCardSaid : Prop := Claim7.holds Tryz.pinned (.plain (OpenSpec.upto evalTextsSpec)) evalTextsUptoCard

/-- THE SECOND FORM's CARD OF 'twainlaw16.DagNeeds'. -/
def dagNeedsUptoCard : Claim7 := { stood := { row := dagNeedsUptoRow, standIns := [], harness := (true, "950ecdd4dc7f565322502d3da38441902bed326aba477a6d48329f30e666bcbe"), looks := true }, kinds := [], alts := [], laidByText := true, laidKinds := [.data, .data, .data, .handle, .sentinel, .sentinel], laidTests := true, laidLooks := .later }
def DagNeedsUptoCardSaid : Prop := Claim7.holds Tryz.pinned (.plain (OpenSpec.upto dagNeedsSpec)) dagNeedsUptoCard

/-- THE SECOND FORM's CARD OF 'twainlaw16.DagFewer'. -/
def dagFewerUptoCard : Claim7 := { stood := { row := dagFewerUptoRow, standIns := [], harness := (true, "950ecdd4dc7f565322502d3da38441902bed326aba477a6d48329f30e666bcbe"), looks := true }, kinds := [], alts := [], laidByText := true, laidKinds := [.data, .data, .data, .handle, .sentinel, .sentinel], laidTests := true, laidLooks := .later }
def DagFewerUptoCardSaid : Prop := Claim7.holds Tryz.pinned (.plain (OpenSpec.upto dagFewerSpec)) dagFewerUptoCard

/-- THE SECOND FORM's CARD OF 'twainlaw16.DagBuilds'. -/
def dagBuildsUptoCard : Claim7 := { stood := { row := dagBuildsUptoRow, standIns := [], harness := (true, "950ecdd4dc7f565322502d3da38441902bed326aba477a6d48329f30e666bcbe"), looks := true }, kinds := [], alts := [], laidByText := true, laidKinds := [.data, .data, .data, .handle, .sentinel, .sentinel], laidTests := true, laidLooks := .later }
def DagBuildsUptoCardSaid : Prop := Claim7.holds Tryz.pinned (.plain (OpenSpec.upto dagBuildsSpec)) dagBuildsUptoCard

/-- THE SECOND FORM's CARD OF 'twainlaw16.DagSettled'. -/
def dagSettledUptoCard : Claim7 := { stood := { row := dagSettledUptoRow, standIns := [], harness := (true, "950ecdd4dc7f565322502d3da38441902bed326aba477a6d48329f30e666bcbe"), looks := true }, kinds := [], alts := [], laidByText := true, laidKinds := [.data, .data, .data, .handle, .sentinel, .sentinel], laidTests := true, laidLooks := .later }
def DagSettledUptoCardSaid : Prop := Claim7.holds Tryz.pinned (.plain (OpenSpec.upto dagSettledSpec)) dagSettledUptoCard

/-- THE SECOND FORM's CARD OF 'twainlaw16.DagKeeps'. -/
def dagKeepsUptoCard : Claim7 := { stood := { row := dagKeepsUptoRow, standIns := [], harness := (true, "950ecdd4dc7f565322502d3da38441902bed326aba477a6d48329f30e666bcbe"), looks := true }, kinds := [], alts := [], laidByText := true, laidKinds := [.data, .data, .data, .handle, .sentinel, .sentinel], laidTests := true, laidLooks := .later }
def DagKeepsUptoCardSaid : Prop := Claim7.holds Tryz.pinned (.plain (OpenSpec.upto dagKeepsSpec)) dagKeepsUptoCard
end Rows
end Go.Proofs.YtghlnncfigkkaaaGreatDoor
