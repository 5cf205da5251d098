/-
  DERIVED. GIVEN WITH THE SEED: THE CARDS: each row of YtghmdfegfehhkaaGreatDoorRows.lean that lists a variable, with what it lists TIED to the program's text (the seventh form; the later family's looks); each row that meets fmt, with fmt's text TOLD by the authors' own Lean function (tested against real Go, not proved from fmt's source: count such statements apart). THE CARD IS WHAT COUNTS. Prove the row's statement (the work); the ties are given (YtghmdfegfehhkaaGreatDoorTie.lean); close each card by the builder's one call (the guide's Derived/Test/ToyasCard.lean, 'card_holds'). Laid BY PROGRAM, IN A SANDBOX (cutbox-door.mjs). By AI agents, Wed Nov 11 2026. No macro, syntax, notation, axiom, sorry.
-/
import Derived.Test.YtghmdfegfehhkaaGreatDoorRows
import GoSem.ClaimSeven
namespace Go.Proofs.YtghmdfegfehhkaaGreatDoor
namespace Rows

/-- THE TIED CARD OF 'weathervanetop.TopGone'. -/
def topGoneCard : Claim7 := { stood := { row := topGoneRow, standIns := [], harness := (true, "c0533790492af233d8966888c36b627f8f133af24053ff5ccbe213f0db8d7fe1"), looks := true }, kinds := [], alts := [], laidByText := true, laidKinds := [.data, .data], laidTests := true, laidLooks := .later }
def TopGoneCardSaid : Prop := Claim7.holds Tryz.pinned (.plain (OpenSpec.ofChange topGoneSpec)) topGoneCard

/-- THE TIED CARD OF 'weathervanetop.TopBound'. -/
def topBoundCard : Claim7 := { stood := { row := topBoundRow, standIns := [], harness := (true, "c0533790492af233d8966888c36b627f8f133af24053ff5ccbe213f0db8d7fe1"), looks := true }, kinds := [], alts := [], laidByText := true, laidKinds := [.data, .data], laidTests := true, laidLooks := .later }
def TopBoundCardSaid : Prop := Claim7.holds Tryz.pinned (.plain (OpenSpec.ofChange topBoundSpec)) topBoundCard

/-- THE TIED CARD OF 'weathervanetop.TopOne'. -/
def topOneCard : Claim7 := { stood := { row := topOneRow, standIns := [], harness := (true, "c0533790492af233d8966888c36b627f8f133af24053ff5ccbe213f0db8d7fe1"), looks := true }, kinds := [], alts := [], laidByText := true, laidKinds := [.data, .data], laidTests := true, laidLooks := .later }
def TopOneCardSaid : Prop := Claim7.holds Tryz.pinned (.plain (OpenSpec.ofChange topOneSpec)) topOneCard

/-- THE TIED CARD OF 'weathervanetop.TopLeast'. -/
def topLeastCard : Claim7 := { stood := { row := topLeastRow, standIns := [], harness := (true, "c0533790492af233d8966888c36b627f8f133af24053ff5ccbe213f0db8d7fe1"), looks := true }, kinds := [], alts := [], laidByText := true, laidKinds := [.data, .data], laidTests := true, laidLooks := .later }
def TopLeastCardSaid : Prop := Claim7.holds Tryz.pinned (.plain (OpenSpec.ofChange topLeastSpec)) topLeastCard

/-- THE SECOND FORM's CARD OF 'weathervanetop.TopGone'. -/
def topGoneUptoCard : Claim7 := { stood := { row := topGoneUptoRow, standIns := [], harness := (true, "c0533790492af233d8966888c36b627f8f133af24053ff5ccbe213f0db8d7fe1"), looks := true }, kinds := [], alts := [], laidByText := true, laidKinds := [.data, .data], laidTests := true, laidLooks := .later }
def TopGoneUptoCardSaid : Prop := Claim7.holds Tryz.pinned (.plain (OpenSpec.upto topGoneSpec)) topGoneUptoCard

/-- THE SECOND FORM's CARD OF 'weathervanetop.TopBound'. -/
def topBoundUptoCard : Claim7 := { stood := { row := topBoundUptoRow, standIns := [], harness := (true, "c0533790492af233d8966888c36b627f8f133af24053ff5ccbe213f0db8d7fe1"), looks := true }, kinds := [], alts := [], laidByText := true, laidKinds := [.data, .data], laidTests := true, laidLooks := .later }
def TopBoundUptoCardSaid : Prop := Claim7.holds Tryz.pinned (.plain (OpenSpec.upto topBoundSpec)) topBoundUptoCard

/-- THE SECOND FORM's CARD OF 'weathervanetop.TopOne'. -/
def topOneUptoCard : Claim7 := { stood := { row := topOneUptoRow, standIns := [], harness := (true, "c0533790492af233d8966888c36b627f8f133af24053ff5ccbe213f0db8d7fe1"), looks := true }, kinds := [], alts := [], laidByText := true, laidKinds := [.data, .data], laidTests := true, laidLooks := .later }
def TopOneUptoCardSaid : Prop := Claim7.holds Tryz.pinned (.plain (OpenSpec.upto topOneSpec)) topOneUptoCard

/-- THE SECOND FORM's CARD OF 'weathervanetop.TopLeast'. -/
def topLeastUptoCard : Claim7 := { stood := { row := topLeastUptoRow, standIns := [], harness := (true, "c0533790492af233d8966888c36b627f8f133af24053ff5ccbe213f0db8d7fe1"), looks := true }, kinds := [], alts := [], laidByText := true, laidKinds := [.data, .data], laidTests := true, laidLooks := .later }
def TopLeastUptoCardSaid : Prop := Claim7.holds Tryz.pinned (.plain (OpenSpec.upto topLeastSpec)) topLeastUptoCard
end Rows
end Go.Proofs.YtghmdfegfehhkaaGreatDoor
