/-
  DERIVED. GIVEN WITH THE SEED: THE CARDS: each row of YtkmnhkfgjadppaaDoorRows.lean that lists a variable, with what it lists TIED to the program's text (the seventh form; the later family's looks); each row that meets fmt, with fmt's text TOLD by the authors' own Lean function (tested against real Go, not proved from fmt's source: count such statements apart). THE CARD IS WHAT COUNTS. Prove the row's statement (the work); the ties are given (YtkmnhkfgjadppaaDoorTie.lean); close each card by the builder's one call (the guide's Derived/Test/ToyasCard.lean, 'card_holds'). Laid BY PROGRAM, IN A SANDBOX (cutbox-door.mjs). By AI agents, Wed Nov 11 2026. No macro, syntax, notation, axiom, sorry.
-/
import Derived.Test.YtkmnhkfgjadppaaDoorRows
import GoSem.ClaimSeven
namespace Go.Proofs.YtkmnhkfgjadppaaDoor
namespace Rows

/-- THE TIED CARD OF 'weathervanelaw03.PileKeys'. -/
def pileKeysCard : Claim7 := { stood := { row := pileKeysRow, standIns := [], harness := (true, "83c4883d1c6573d00efee63365017920b8c029b84a4b47fe332e34ca89996e0a"), looks := false }, kinds := [], alts := [], laidByText := true, laidKinds := [.data], laidTests := true, laidLooks := .later }
def PileKeysCardSaid : Prop := Claim7.holds Tryd.pinned (.plain (OpenSpec.ofChange pileKeysSpec)) pileKeysCard

/-- THE TIED CARD OF 'weathervanelaw03.PileNumbers'. -/
def pileNumbersCard : Claim7 := { stood := { row := pileNumbersRow, standIns := [], harness := (true, "83c4883d1c6573d00efee63365017920b8c029b84a4b47fe332e34ca89996e0a"), looks := false }, kinds := [], alts := [], laidByText := true, laidKinds := [.data], laidTests := true, laidLooks := .later }
def PileNumbersCardSaid : Prop := Claim7.holds Tryd.pinned (.plain (OpenSpec.ofChange pileNumbersSpec)) pileNumbersCard

/-- THE TIED CARD OF 'weathervanelaw03.PileRows'. -/
def pileRowsCard : Claim7 := { stood := { row := pileRowsRow, standIns := [], harness := (true, "83c4883d1c6573d00efee63365017920b8c029b84a4b47fe332e34ca89996e0a"), looks := false }, kinds := [], alts := [], laidByText := true, laidKinds := [.data], laidTests := true, laidLooks := .later }
def PileRowsCardSaid : Prop := Claim7.holds Tryd.pinned (.plain (OpenSpec.ofChange pileRowsSpec)) pileRowsCard

/-- THE TIED CARD OF 'weathervanelaw03.PileJoins'. -/
def pileJoinsCard : Claim7 := { stood := { row := pileJoinsRow, standIns := [], harness := (true, "83c4883d1c6573d00efee63365017920b8c029b84a4b47fe332e34ca89996e0a"), looks := false }, kinds := [], alts := [], laidByText := true, laidKinds := [.data], laidTests := true, laidLooks := .later }
def PileJoinsCardSaid : Prop := Claim7.holds Tryd.pinned (.plain (OpenSpec.ofChange pileJoinsSpec)) pileJoinsCard

/-- THE TIED CARD OF 'weathervanelaw03.PileLess'. -/
def pileLessCard : Claim7 := { stood := { row := pileLessRow, standIns := [], harness := (true, "83c4883d1c6573d00efee63365017920b8c029b84a4b47fe332e34ca89996e0a"), looks := false }, kinds := [], alts := [], laidByText := true, laidKinds := [.data], laidTests := true, laidLooks := .later }
def PileLessCardSaid : Prop := Claim7.holds Tryd.pinned (.plain (OpenSpec.ofChange pileLessSpec)) pileLessCard

/-- THE TIED CARD OF 'weathervanelaw03.PilePlays'. -/
def pilePlaysCard : Claim7 := { stood := { row := pilePlaysRow, standIns := [], harness := (true, "83c4883d1c6573d00efee63365017920b8c029b84a4b47fe332e34ca89996e0a"), looks := false }, kinds := [], alts := [], laidByText := true, laidKinds := [.data], laidTests := true, laidLooks := .later }
def PilePlaysCardSaid : Prop := Claim7.holds Tryd.pinned (.plain (OpenSpec.ofChange pilePlaysSpec)) pilePlaysCard

/-- THE TIED CARD OF 'weathervanelaw03.PileNil'. -/
def pileNilCard : Claim7 := { stood := { row := pileNilRow, standIns := [], harness := (true, "83c4883d1c6573d00efee63365017920b8c029b84a4b47fe332e34ca89996e0a"), looks := false }, kinds := [], alts := [], laidByText := true, laidKinds := [.data], laidTests := true, laidLooks := .later }
def PileNilCardSaid : Prop := Claim7.holds Tryd.pinned (.plain (OpenSpec.ofChange pileNilSpec)) pileNilCard

/-- THE TIED CARD OF 'weathervanelaw20.SolveLeast'. -/
def solveLeastCard : Claim7 := { stood := { row := solveLeastRow, standIns := [], harness := (true, "83c4883d1c6573d00efee63365017920b8c029b84a4b47fe332e34ca89996e0a"), looks := false }, kinds := [], alts := [], laidByText := true, laidKinds := [.data], laidTests := true, laidLooks := .later }
def SolveLeastCardSaid : Prop := Claim7.holds Tryd.pinned (.plain (OpenSpec.ofChange solveLeastSpec)) solveLeastCard

/-- THE SECOND FORM's CARD OF 'weathervanelaw03.PileKeys'. -/
def pileKeysUptoCard : Claim7 := { stood := { row := pileKeysUptoRow, standIns := [], harness := (true, "83c4883d1c6573d00efee63365017920b8c029b84a4b47fe332e34ca89996e0a"), looks := false }, kinds := [], alts := [], laidByText := true, laidKinds := [.data], laidTests := true, laidLooks := .later }
def PileKeysUptoCardSaid : Prop := Claim7.holds Tryd.pinned (.plain (OpenSpec.upto pileKeysSpec)) pileKeysUptoCard

/-- THE SECOND FORM's CARD OF 'weathervanelaw03.PileNumbers'. -/
def pileNumbersUptoCard : Claim7 := { stood := { row := pileNumbersUptoRow, standIns := [], harness := (true, "83c4883d1c6573d00efee63365017920b8c029b84a4b47fe332e34ca89996e0a"), looks := false }, kinds := [], alts := [], laidByText := true, laidKinds := [.data], laidTests := true, laidLooks := .later }
def PileNumbersUptoCardSaid : Prop := Claim7.holds Tryd.pinned (.plain (OpenSpec.upto pileNumbersSpec)) pileNumbersUptoCard

/-- THE SECOND FORM's CARD OF 'weathervanelaw03.PileRows'. -/
def pileRowsUptoCard : Claim7 := { stood := { row := pileRowsUptoRow, standIns := [], harness := (true, "83c4883d1c6573d00efee63365017920b8c029b84a4b47fe332e34ca89996e0a"), looks := false }, kinds := [], alts := [], laidByText := true, laidKinds := [.data], laidTests := true, laidLooks := .later }
def PileRowsUptoCardSaid : Prop := Claim7.holds Tryd.pinned (.plain (OpenSpec.upto pileRowsSpec)) pileRowsUptoCard

/-- THE SECOND FORM's CARD OF 'weathervanelaw03.PileJoins'. -/
def pileJoinsUptoCard : Claim7 := { stood := { row := pileJoinsUptoRow, standIns := [], harness := (true, "83c4883d1c6573d00efee63365017920b8c029b84a4b47fe332e34ca89996e0a"), looks := false }, kinds := [], alts := [], laidByText := true, laidKinds := [.data], laidTests := true, laidLooks := .later }
def PileJoinsUptoCardSaid : Prop := Claim7.holds Tryd.pinned (.plain (OpenSpec.upto pileJoinsSpec)) pileJoinsUptoCard

/-- THE SECOND FORM's CARD OF 'weathervanelaw03.PileLess'. -/
def pileLessUptoCard : Claim7 := { stood := { row := pileLessUptoRow, standIns := [], harness := (true, "83c4883d1c6573d00efee63365017920b8c029b84a4b47fe332e34ca89996e0a"), looks := false }, kinds := [], alts := [], laidByText := true, laidKinds := [.data], laidTests := true, laidLooks := .later }
def PileLessUptoCardSaid : Prop := Claim7.holds Tryd.pinned (.plain (OpenSpec.upto pileLessSpec)) pileLessUptoCard

/-- THE SECOND FORM's CARD OF 'weathervanelaw03.PilePlays'. -/
def pilePlaysUptoCard : Claim7 := { stood := { row := pilePlaysUptoRow, standIns := [], harness := (true, "83c4883d1c6573d00efee63365017920b8c029b84a4b47fe332e34ca89996e0a"), looks := false }, kinds := [], alts := [], laidByText := true, laidKinds := [.data], laidTests := true, laidLooks := .later }
def PilePlaysUptoCardSaid : Prop := Claim7.holds Tryd.pinned (.plain (OpenSpec.upto pilePlaysSpec)) pilePlaysUptoCard

/-- THE SECOND FORM's CARD OF 'weathervanelaw03.PileNil'. -/
def pileNilUptoCard : Claim7 := { stood := { row := pileNilUptoRow, standIns := [], harness := (true, "83c4883d1c6573d00efee63365017920b8c029b84a4b47fe332e34ca89996e0a"), looks := false }, kinds := [], alts := [], laidByText := true, laidKinds := [.data], laidTests := true, laidLooks := .later }
def PileNilUptoCardSaid : Prop := Claim7.holds Tryd.pinned (.plain (OpenSpec.upto pileNilSpec)) pileNilUptoCard

/-- THE SECOND FORM's CARD OF 'weathervanelaw20.SolveLeast'. -/
def solveLeastUptoCard : Claim7 := { stood := { row := solveLeastUptoRow, standIns := [], harness := (true, "83c4883d1c6573d00efee63365017920b8c029b84a4b47fe332e34ca89996e0a"), looks := false }, kinds := [], alts := [], laidByText := true, laidKinds := [.data], laidTests := true, laidLooks := .later }
def SolveLeastUptoCardSaid : Prop := Claim7.holds Tryd.pinned (.plain (OpenSpec.upto solveLeastSpec)) solveLeastUptoCard
end Rows
end Go.Proofs.YtkmnhkfgjadppaaDoor
