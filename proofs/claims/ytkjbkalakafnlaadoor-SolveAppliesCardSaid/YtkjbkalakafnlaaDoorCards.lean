/-
  DERIVED. GIVEN WITH THE SEED: THE CARDS: each row of YtkjbkalakafnlaaDoorRows.lean that lists a variable, with what it lists TIED to the program's text (the seventh form; the later family's looks); each row that meets fmt, with fmt's text TOLD by the authors' own Lean function (tested against real Go, not proved from fmt's source: count such statements apart). THE CARD IS WHAT COUNTS. Prove the row's statement (the work); the ties are given (YtkjbkalakafnlaaDoorTie.lean); close each card by the builder's one call (the guide's Derived/Test/ToyasCard.lean, 'card_holds'). Laid BY PROGRAM, IN A SANDBOX (cutbox-door.mjs). By AI agents, Wed Nov 11 2026. No macro, syntax, notation, axiom, sorry.
-/
import Derived.Test.YtkjbkalakafnlaaDoorRows
import GoSem.ClaimSeven
namespace Go.Proofs.YtkjbkalakafnlaaDoor
namespace Rows

/-- THE TIED CARD OF 'weathervanelaw04.GaugeShares'. -/
def gaugeSharesCard : Claim7 := { stood := { row := gaugeSharesRow, standIns := [], harness := (true, "b5a75746a549687cb0d253007160ca9cf4b0831cdeb788ca7f79ec7ba0d01189"), looks := false }, kinds := [], alts := [], laidByText := true, laidKinds := [.data, .data, .data], laidTests := true, laidLooks := .later }
def GaugeSharesCardSaid : Prop := Claim7.holds Tryd.pinned (.plain (OpenSpec.ofChange gaugeSharesSpec)) gaugeSharesCard

/-- THE TIED CARD OF 'weathervanelaw04.GaugeTexts'. -/
def gaugeTextsCard : Claim7 := { stood := { row := gaugeTextsRow, standIns := [], harness := (true, "b5a75746a549687cb0d253007160ca9cf4b0831cdeb788ca7f79ec7ba0d01189"), looks := false }, kinds := [], alts := [], laidByText := true, laidKinds := [.data, .data, .data], laidTests := true, laidLooks := .later }
def GaugeTextsCardSaid : Prop := Claim7.holds Tryd.pinned (.plain (OpenSpec.ofChange gaugeTextsSpec)) gaugeTextsCard

/-- THE TIED CARD OF 'weathervanelaw04.GaugeMeans'. -/
def gaugeMeansCard : Claim7 := { stood := { row := gaugeMeansRow, standIns := [], harness := (true, "b5a75746a549687cb0d253007160ca9cf4b0831cdeb788ca7f79ec7ba0d01189"), looks := false }, kinds := [], alts := [], laidByText := true, laidKinds := [.data, .data, .data], laidTests := true, laidLooks := .later }
def GaugeMeansCardSaid : Prop := Claim7.holds Tryd.pinned (.plain (OpenSpec.ofChange gaugeMeansSpec)) gaugeMeansCard

/-- THE TIED CARD OF 'weathervanelaw04.GaugeBest'. -/
def gaugeBestCard : Claim7 := { stood := { row := gaugeBestRow, standIns := [], harness := (true, "b5a75746a549687cb0d253007160ca9cf4b0831cdeb788ca7f79ec7ba0d01189"), looks := false }, kinds := [], alts := [], laidByText := true, laidKinds := [.data, .data, .data], laidTests := true, laidLooks := .later }
def GaugeBestCardSaid : Prop := Claim7.holds Tryd.pinned (.plain (OpenSpec.ofChange gaugeBestSpec)) gaugeBestCard

/-- THE TIED CARD OF 'weathervanelaw04.GaugeOrders'. -/
def gaugeOrdersCard : Claim7 := { stood := { row := gaugeOrdersRow, standIns := [], harness := (true, "b5a75746a549687cb0d253007160ca9cf4b0831cdeb788ca7f79ec7ba0d01189"), looks := false }, kinds := [], alts := [], laidByText := true, laidKinds := [.data, .data, .data], laidTests := true, laidLooks := .later }
def GaugeOrdersCardSaid : Prop := Claim7.holds Tryd.pinned (.plain (OpenSpec.ofChange gaugeOrdersSpec)) gaugeOrdersCard

/-- THE TIED CARD OF 'weathervanelaw04.GaugeSame'. -/
def gaugeSameCard : Claim7 := { stood := { row := gaugeSameRow, standIns := [], harness := (true, "b5a75746a549687cb0d253007160ca9cf4b0831cdeb788ca7f79ec7ba0d01189"), looks := false }, kinds := [], alts := [], laidByText := true, laidKinds := [.data, .data, .data], laidTests := true, laidLooks := .later }
def GaugeSameCardSaid : Prop := Claim7.holds Tryd.pinned (.plain (OpenSpec.ofChange gaugeSameSpec)) gaugeSameCard

/-- THE TIED CARD OF 'weathervanelaw04.GaugeSigns'. -/
def gaugeSignsCard : Claim7 := { stood := { row := gaugeSignsRow, standIns := [], harness := (true, "b5a75746a549687cb0d253007160ca9cf4b0831cdeb788ca7f79ec7ba0d01189"), looks := false }, kinds := [], alts := [], laidByText := true, laidKinds := [.data, .data, .data], laidTests := true, laidLooks := .later }
def GaugeSignsCardSaid : Prop := Claim7.holds Tryd.pinned (.plain (OpenSpec.ofChange gaugeSignsSpec)) gaugeSignsCard

/-- THE TIED CARD OF 'weathervanelaw20.SolveLeast'. -/
def solveLeastCard : Claim7 := { stood := { row := solveLeastRow, standIns := [], harness := (true, "b5a75746a549687cb0d253007160ca9cf4b0831cdeb788ca7f79ec7ba0d01189"), looks := false }, kinds := [], alts := [], laidByText := true, laidKinds := [.data], laidTests := true, laidLooks := .later }
def SolveLeastCardSaid : Prop := Claim7.holds Tryd.pinned (.plain (OpenSpec.ofChange solveLeastSpec)) solveLeastCard

/-- THE TIED CARD OF 'weathervanelaw20.SolveOrders'. -/
def solveOrdersCard : Claim7 := { stood := { row := solveOrdersRow, standIns := [], harness := (true, "b5a75746a549687cb0d253007160ca9cf4b0831cdeb788ca7f79ec7ba0d01189"), looks := false }, kinds := [], alts := [], laidByText := true, laidKinds := [.data], laidTests := true, laidLooks := .later }
def SolveOrdersCardSaid : Prop := Claim7.holds Tryd.pinned (.plain (OpenSpec.ofChange solveOrdersSpec)) solveOrdersCard

/-- THE TIED CARD OF 'weathervanelaw20.SolveGrows'. -/
def solveGrowsCard : Claim7 := { stood := { row := solveGrowsRow, standIns := [], harness := (true, "b5a75746a549687cb0d253007160ca9cf4b0831cdeb788ca7f79ec7ba0d01189"), looks := false }, kinds := [], alts := [], laidByText := true, laidKinds := [.data], laidTests := true, laidLooks := .later }
def SolveGrowsCardSaid : Prop := Claim7.holds Tryd.pinned (.plain (OpenSpec.ofChange solveGrowsSpec)) solveGrowsCard

/-- THE TIED CARD OF 'weathervanelaw20.SolveRaw'. -/
def solveRawCard : Claim7 := { stood := { row := solveRawRow, standIns := [], harness := (true, "b5a75746a549687cb0d253007160ca9cf4b0831cdeb788ca7f79ec7ba0d01189"), looks := false }, kinds := [], alts := [], laidByText := true, laidKinds := [.data], laidTests := true, laidLooks := .later }
def SolveRawCardSaid : Prop := Claim7.holds Tryd.pinned (.plain (OpenSpec.ofChange solveRawSpec)) solveRawCard

/-- THE TIED CARD OF 'weathervanelaw20.SolveChain'. -/
def solveChainCard : Claim7 := { stood := { row := solveChainRow, standIns := [], harness := (true, "b5a75746a549687cb0d253007160ca9cf4b0831cdeb788ca7f79ec7ba0d01189"), looks := false }, kinds := [], alts := [], laidByText := true, laidKinds := [.data], laidTests := true, laidLooks := .later }
def SolveChainCardSaid : Prop := Claim7.holds Tryd.pinned (.plain (OpenSpec.ofChange solveChainSpec)) solveChainCard

/-- THE TIED CARD OF 'weathervanelaw20.SolveApplies'. -/
def solveAppliesCard : Claim7 := { stood := { row := solveAppliesRow, standIns := [], harness := (true, "b5a75746a549687cb0d253007160ca9cf4b0831cdeb788ca7f79ec7ba0d01189"), looks := false }, kinds := [], alts := [], laidByText := true, laidKinds := [.data], laidTests := true, laidLooks := .later }
def SolveAppliesCardSaid : Prop := Claim7.holds Tryd.pinned (.plain (OpenSpec.ofChange solveAppliesSpec)) solveAppliesCard

/-- THE TIED CARD OF 'weathervanelaw20.SolveGuards'. -/
def solveGuardsCard : Claim7 := { stood := { row := solveGuardsRow, standIns := [], harness := (true, "b5a75746a549687cb0d253007160ca9cf4b0831cdeb788ca7f79ec7ba0d01189"), looks := false }, kinds := [], alts := [], laidByText := true, laidKinds := [.data], laidTests := true, laidLooks := .later }
def SolveGuardsCardSaid : Prop := Claim7.holds Tryd.pinned (.plain (OpenSpec.ofChange solveGuardsSpec)) solveGuardsCard

/-- THE TIED CARD OF 'weathervanelaw20.SolveExpands'. -/
def solveExpandsCard : Claim7 := { stood := { row := solveExpandsRow, standIns := [], harness := (true, "b5a75746a549687cb0d253007160ca9cf4b0831cdeb788ca7f79ec7ba0d01189"), looks := false }, kinds := [], alts := [], laidByText := true, laidKinds := [.data], laidTests := true, laidLooks := .later }
def SolveExpandsCardSaid : Prop := Claim7.holds Tryd.pinned (.plain (OpenSpec.ofChange solveExpandsSpec)) solveExpandsCard

/-- THE SECOND FORM's CARD OF 'weathervanelaw04.GaugeShares'. -/
def gaugeSharesUptoCard : Claim7 := { stood := { row := gaugeSharesUptoRow, standIns := [], harness := (true, "b5a75746a549687cb0d253007160ca9cf4b0831cdeb788ca7f79ec7ba0d01189"), looks := false }, kinds := [], alts := [], laidByText := true, laidKinds := [.data, .data, .data], laidTests := true, laidLooks := .later }
def GaugeSharesUptoCardSaid : Prop := Claim7.holds Tryd.pinned (.plain (OpenSpec.upto gaugeSharesSpec)) gaugeSharesUptoCard

/-- THE SECOND FORM's CARD OF 'weathervanelaw04.GaugeTexts'. -/
def gaugeTextsUptoCard : Claim7 := { stood := { row := gaugeTextsUptoRow, standIns := [], harness := (true, "b5a75746a549687cb0d253007160ca9cf4b0831cdeb788ca7f79ec7ba0d01189"), looks := false }, kinds := [], alts := [], laidByText := true, laidKinds := [.data, .data, .data], laidTests := true, laidLooks := .later }
def GaugeTextsUptoCardSaid : Prop := Claim7.holds Tryd.pinned (.plain (OpenSpec.upto gaugeTextsSpec)) gaugeTextsUptoCard

/-- THE SECOND FORM's CARD OF 'weathervanelaw04.GaugeMeans'. -/
def gaugeMeansUptoCard : Claim7 := { stood := { row := gaugeMeansUptoRow, standIns := [], harness := (true, "b5a75746a549687cb0d253007160ca9cf4b0831cdeb788ca7f79ec7ba0d01189"), looks := false }, kinds := [], alts := [], laidByText := true, laidKinds := [.data, .data, .data], laidTests := true, laidLooks := .later }
def GaugeMeansUptoCardSaid : Prop := Claim7.holds Tryd.pinned (.plain (OpenSpec.upto gaugeMeansSpec)) gaugeMeansUptoCard

/-- THE SECOND FORM's CARD OF 'weathervanelaw04.GaugeBest'. -/
def gaugeBestUptoCard : Claim7 := { stood := { row := gaugeBestUptoRow, standIns := [], harness := (true, "b5a75746a549687cb0d253007160ca9cf4b0831cdeb788ca7f79ec7ba0d01189"), looks := false }, kinds := [], alts := [], laidByText := true, laidKinds := [.data, .data, .data], laidTests := true, laidLooks := .later }
def GaugeBestUptoCardSaid : Prop := Claim7.holds Tryd.pinned (.plain (OpenSpec.upto gaugeBestSpec)) gaugeBestUptoCard

/-- THE SECOND FORM's CARD OF 'weathervanelaw04.GaugeOrders'. -/
def gaugeOrdersUptoCard : Claim7 := { stood := { row := gaugeOrdersUptoRow, standIns := [], harness := (true, "b5a75746a549687cb0d253007160ca9cf4b0831cdeb788ca7f79ec7ba0d01189"), looks := false }, kinds := [], alts := [], laidByText := true, laidKinds := [.data, .data, .data], laidTests := true, laidLooks := .later }
def GaugeOrdersUptoCardSaid : Prop := Claim7.holds Tryd.pinned (.plain (OpenSpec.upto gaugeOrdersSpec)) gaugeOrdersUptoCard

/-- THE SECOND FORM's CARD OF 'weathervanelaw04.GaugeSame'. -/
def gaugeSameUptoCard : Claim7 := { stood := { row := gaugeSameUptoRow, standIns := [], harness := (true, "b5a75746a549687cb0d253007160ca9cf4b0831cdeb788ca7f79ec7ba0d01189"), looks := false }, kinds := [], alts := [], laidByText := true, laidKinds := [.data, .data, .data], laidTests := true, laidLooks := .later }
def GaugeSameUptoCardSaid : Prop := Claim7.holds Tryd.pinned (.plain (OpenSpec.upto gaugeSameSpec)) gaugeSameUptoCard

/-- THE SECOND FORM's CARD OF 'weathervanelaw04.GaugeSigns'. -/
def gaugeSignsUptoCard : Claim7 := { stood := { row := gaugeSignsUptoRow, standIns := [], harness := (true, "b5a75746a549687cb0d253007160ca9cf4b0831cdeb788ca7f79ec7ba0d01189"), looks := false }, kinds := [], alts := [], laidByText := true, laidKinds := [.data, .data, .data], laidTests := true, laidLooks := .later }
def GaugeSignsUptoCardSaid : Prop := Claim7.holds Tryd.pinned (.plain (OpenSpec.upto gaugeSignsSpec)) gaugeSignsUptoCard

/-- THE SECOND FORM's CARD OF 'weathervanelaw20.SolveLeast'. -/
def solveLeastUptoCard : Claim7 := { stood := { row := solveLeastUptoRow, standIns := [], harness := (true, "b5a75746a549687cb0d253007160ca9cf4b0831cdeb788ca7f79ec7ba0d01189"), looks := false }, kinds := [], alts := [], laidByText := true, laidKinds := [.data], laidTests := true, laidLooks := .later }
def SolveLeastUptoCardSaid : Prop := Claim7.holds Tryd.pinned (.plain (OpenSpec.upto solveLeastSpec)) solveLeastUptoCard

/-- THE SECOND FORM's CARD OF 'weathervanelaw20.SolveOrders'. -/
def solveOrdersUptoCard : Claim7 := { stood := { row := solveOrdersUptoRow, standIns := [], harness := (true, "b5a75746a549687cb0d253007160ca9cf4b0831cdeb788ca7f79ec7ba0d01189"), looks := false }, kinds := [], alts := [], laidByText := true, laidKinds := [.data], laidTests := true, laidLooks := .later }
def SolveOrdersUptoCardSaid : Prop := Claim7.holds Tryd.pinned (.plain (OpenSpec.upto solveOrdersSpec)) solveOrdersUptoCard

/-- THE SECOND FORM's CARD OF 'weathervanelaw20.SolveGrows'. -/
def solveGrowsUptoCard : Claim7 := { stood := { row := solveGrowsUptoRow, standIns := [], harness := (true, "b5a75746a549687cb0d253007160ca9cf4b0831cdeb788ca7f79ec7ba0d01189"), looks := false }, kinds := [], alts := [], laidByText := true, laidKinds := [.data], laidTests := true, laidLooks := .later }
def SolveGrowsUptoCardSaid : Prop := Claim7.holds Tryd.pinned (.plain (OpenSpec.upto solveGrowsSpec)) solveGrowsUptoCard

/-- THE SECOND FORM's CARD OF 'weathervanelaw20.SolveRaw'. -/
def solveRawUptoCard : Claim7 := { stood := { row := solveRawUptoRow, standIns := [], harness := (true, "b5a75746a549687cb0d253007160ca9cf4b0831cdeb788ca7f79ec7ba0d01189"), looks := false }, kinds := [], alts := [], laidByText := true, laidKinds := [.data], laidTests := true, laidLooks := .later }
def SolveRawUptoCardSaid : Prop := Claim7.holds Tryd.pinned (.plain (OpenSpec.upto solveRawSpec)) solveRawUptoCard

/-- THE SECOND FORM's CARD OF 'weathervanelaw20.SolveChain'. -/
def solveChainUptoCard : Claim7 := { stood := { row := solveChainUptoRow, standIns := [], harness := (true, "b5a75746a549687cb0d253007160ca9cf4b0831cdeb788ca7f79ec7ba0d01189"), looks := false }, kinds := [], alts := [], laidByText := true, laidKinds := [.data], laidTests := true, laidLooks := .later }
def SolveChainUptoCardSaid : Prop := Claim7.holds Tryd.pinned (.plain (OpenSpec.upto solveChainSpec)) solveChainUptoCard

/-- THE SECOND FORM's CARD OF 'weathervanelaw20.SolveApplies'. -/
def solveAppliesUptoCard : Claim7 := { stood := { row := solveAppliesUptoRow, standIns := [], harness := (true, "b5a75746a549687cb0d253007160ca9cf4b0831cdeb788ca7f79ec7ba0d01189"), looks := false }, kinds := [], alts := [], laidByText := true, laidKinds := [.data], laidTests := true, laidLooks := .later }
def SolveAppliesUptoCardSaid : Prop := Claim7.holds Tryd.pinned (.plain (OpenSpec.upto solveAppliesSpec)) solveAppliesUptoCard

/-- THE SECOND FORM's CARD OF 'weathervanelaw20.SolveGuards'. -/
def solveGuardsUptoCard : Claim7 := { stood := { row := solveGuardsUptoRow, standIns := [], harness := (true, "b5a75746a549687cb0d253007160ca9cf4b0831cdeb788ca7f79ec7ba0d01189"), looks := false }, kinds := [], alts := [], laidByText := true, laidKinds := [.data], laidTests := true, laidLooks := .later }
def SolveGuardsUptoCardSaid : Prop := Claim7.holds Tryd.pinned (.plain (OpenSpec.upto solveGuardsSpec)) solveGuardsUptoCard

/-- THE SECOND FORM's CARD OF 'weathervanelaw20.SolveExpands'. -/
def solveExpandsUptoCard : Claim7 := { stood := { row := solveExpandsUptoRow, standIns := [], harness := (true, "b5a75746a549687cb0d253007160ca9cf4b0831cdeb788ca7f79ec7ba0d01189"), looks := false }, kinds := [], alts := [], laidByText := true, laidKinds := [.data], laidTests := true, laidLooks := .later }
def SolveExpandsUptoCardSaid : Prop := Claim7.holds Tryd.pinned (.plain (OpenSpec.upto solveExpandsSpec)) solveExpandsUptoCard
end Rows
end Go.Proofs.YtkjbkalakafnlaaDoor
