/-
  DERIVED. GIVEN WITH THE SEED: THE CARDS: each row of YtbaaggmicpigeaaDoorRows.lean that lists a variable, with what it lists TIED to the program's text (the seventh form; the later family's looks); each row that meets fmt, with fmt's text TOLD by the authors' own Lean function (tested against real Go, not proved from fmt's source: count such statements apart). THE CARD IS WHAT COUNTS. Prove the row's statement (the work); the ties are given (YtbaaggmicpigeaaDoorTie.lean); close each card by the builder's one call (the guide's Derived/Test/ToyasCard.lean, 'card_holds'). Laid BY PROGRAM, IN A SANDBOX (cutbox-door.mjs). By AI agents, Wed Nov 11 2026. No macro, syntax, notation, axiom, sorry.
-/
import Derived.Test.YtbaaggmicpigeaaDoorRows
import GoSem.ClaimSeven
namespace Go.Proofs.YtbaaggmicpigeaaDoor
namespace Rows

/-- THE TIED CARD OF 'vernierlaw04.FormatValues'. -/
def formatValuesCard : Claim7 := { stood := { row := formatValuesRow, standIns := [], harness := (true, "fd99fab75102b5d8eaf2c5fb973dcc7220a4009d75117c76e49c5401f59df049"), looks := false }, kinds := [], alts := [], laidByText := true, laidKinds := [.data, .data], laidTests := true, laidLooks := .later }
def FormatValuesCardSaid : Prop := Claim7.holds Tryd.pinned (.plain (OpenSpec.ofChange formatValuesSpec)) formatValuesCard

/-- THE TIED CARD OF 'vernierlaw05.RoundBetween'. -/
def roundBetweenCard : Claim7 := { stood := { row := roundBetweenRow, standIns := [], harness := (true, "fd99fab75102b5d8eaf2c5fb973dcc7220a4009d75117c76e49c5401f59df049"), looks := false }, kinds := [], alts := [], laidByText := true, laidKinds := [.data, .data], laidTests := true, laidLooks := .later }
def RoundBetweenCardSaid : Prop := Claim7.holds Tryd.pinned (.plain (OpenSpec.ofChange roundBetweenSpec)) roundBetweenCard

/-- THE TIED CARD OF 'vernierlaw15.HexesPrints'. -/
def hexesPrintsCard : Claim7 := { stood := { row := hexesPrintsRow, standIns := [], harness := (true, "fd99fab75102b5d8eaf2c5fb973dcc7220a4009d75117c76e49c5401f59df049"), looks := false }, kinds := [], alts := [], laidByText := true, laidKinds := [.data, .data, .data, .data], laidTests := true, laidLooks := .later }
def HexesPrintsCardSaid : Prop := Claim7.holds Tryd.pinned (.plain (OpenSpec.ofChange hexesPrintsSpec)) hexesPrintsCard

/-- THE TIED CARD OF 'vernierlaw15.HexesParses'. -/
def hexesParsesCard : Claim7 := { stood := { row := hexesParsesRow, standIns := [], harness := (true, "fd99fab75102b5d8eaf2c5fb973dcc7220a4009d75117c76e49c5401f59df049"), looks := false }, kinds := [], alts := [], laidByText := true, laidKinds := [.data, .data, .data, .data], laidTests := true, laidLooks := .later }
def HexesParsesCardSaid : Prop := Claim7.holds Tryd.pinned (.plain (OpenSpec.ofChange hexesParsesSpec)) hexesParsesCard

/-- THE TIED CARD OF 'vernierlaw15.HexesBack'. -/
def hexesBackCard : Claim7 := { stood := { row := hexesBackRow, standIns := [], harness := (true, "fd99fab75102b5d8eaf2c5fb973dcc7220a4009d75117c76e49c5401f59df049"), looks := false }, kinds := [], alts := [], laidByText := true, laidKinds := [.data, .data, .data, .data], laidTests := true, laidLooks := .later }
def HexesBackCardSaid : Prop := Claim7.holds Tryd.pinned (.plain (OpenSpec.ofChange hexesBackSpec)) hexesBackCard

/-- THE TIED CARD OF 'vernierlaw15.HexesWrong'. -/
def hexesWrongCard : Claim7 := { stood := { row := hexesWrongRow, standIns := [], harness := (true, "fd99fab75102b5d8eaf2c5fb973dcc7220a4009d75117c76e49c5401f59df049"), looks := false }, kinds := [], alts := [], laidByText := true, laidKinds := [.data, .data, .data, .data], laidTests := true, laidLooks := .later }
def HexesWrongCardSaid : Prop := Claim7.holds Tryd.pinned (.plain (OpenSpec.ofChange hexesWrongSpec)) hexesWrongCard

/-- THE TIED CARD OF 'vernierlaw15.HexesSays'. -/
def hexesSaysCard : Claim7 := { stood := { row := hexesSaysRow, standIns := [], harness := (true, "fd99fab75102b5d8eaf2c5fb973dcc7220a4009d75117c76e49c5401f59df049"), looks := false }, kinds := [], alts := [], laidByText := true, laidKinds := [.data, .data, .data, .data], laidTests := true, laidLooks := .later }
def HexesSaysCardSaid : Prop := Claim7.holds Tryd.pinned (.plain (OpenSpec.ofChange hexesSaysSpec)) hexesSaysCard

/-- THE SECOND FORM's CARD OF 'vernierlaw04.FormatValues'. -/
def formatValuesUptoCard : Claim7 := { stood := { row := formatValuesUptoRow, standIns := [], harness := (true, "fd99fab75102b5d8eaf2c5fb973dcc7220a4009d75117c76e49c5401f59df049"), looks := false }, kinds := [], alts := [], laidByText := true, laidKinds := [.data, .data], laidTests := true, laidLooks := .later }
def FormatValuesUptoCardSaid : Prop := Claim7.holds Tryd.pinned (.plain (OpenSpec.upto formatValuesSpec)) formatValuesUptoCard

/-- THE SECOND FORM's CARD OF 'vernierlaw05.RoundBetween'. -/
def roundBetweenUptoCard : Claim7 := { stood := { row := roundBetweenUptoRow, standIns := [], harness := (true, "fd99fab75102b5d8eaf2c5fb973dcc7220a4009d75117c76e49c5401f59df049"), looks := false }, kinds := [], alts := [], laidByText := true, laidKinds := [.data, .data], laidTests := true, laidLooks := .later }
def RoundBetweenUptoCardSaid : Prop := Claim7.holds Tryd.pinned (.plain (OpenSpec.upto roundBetweenSpec)) roundBetweenUptoCard

/-- THE SECOND FORM's CARD OF 'vernierlaw15.HexesPrints'. -/
def hexesPrintsUptoCard : Claim7 := { stood := { row := hexesPrintsUptoRow, standIns := [], harness := (true, "fd99fab75102b5d8eaf2c5fb973dcc7220a4009d75117c76e49c5401f59df049"), looks := false }, kinds := [], alts := [], laidByText := true, laidKinds := [.data, .data, .data, .data], laidTests := true, laidLooks := .later }
def HexesPrintsUptoCardSaid : Prop := Claim7.holds Tryd.pinned (.plain (OpenSpec.upto hexesPrintsSpec)) hexesPrintsUptoCard

/-- THE SECOND FORM's CARD OF 'vernierlaw15.HexesParses'. -/
def hexesParsesUptoCard : Claim7 := { stood := { row := hexesParsesUptoRow, standIns := [], harness := (true, "fd99fab75102b5d8eaf2c5fb973dcc7220a4009d75117c76e49c5401f59df049"), looks := false }, kinds := [], alts := [], laidByText := true, laidKinds := [.data, .data, .data, .data], laidTests := true, laidLooks := .later }
def HexesParsesUptoCardSaid : Prop := Claim7.holds Tryd.pinned (.plain (OpenSpec.upto hexesParsesSpec)) hexesParsesUptoCard

/-- THE SECOND FORM's CARD OF 'vernierlaw15.HexesBack'. -/
def hexesBackUptoCard : Claim7 := { stood := { row := hexesBackUptoRow, standIns := [], harness := (true, "fd99fab75102b5d8eaf2c5fb973dcc7220a4009d75117c76e49c5401f59df049"), looks := false }, kinds := [], alts := [], laidByText := true, laidKinds := [.data, .data, .data, .data], laidTests := true, laidLooks := .later }
def HexesBackUptoCardSaid : Prop := Claim7.holds Tryd.pinned (.plain (OpenSpec.upto hexesBackSpec)) hexesBackUptoCard

/-- THE SECOND FORM's CARD OF 'vernierlaw15.HexesWrong'. -/
def hexesWrongUptoCard : Claim7 := { stood := { row := hexesWrongUptoRow, standIns := [], harness := (true, "fd99fab75102b5d8eaf2c5fb973dcc7220a4009d75117c76e49c5401f59df049"), looks := false }, kinds := [], alts := [], laidByText := true, laidKinds := [.data, .data, .data, .data], laidTests := true, laidLooks := .later }
def HexesWrongUptoCardSaid : Prop := Claim7.holds Tryd.pinned (.plain (OpenSpec.upto hexesWrongSpec)) hexesWrongUptoCard

/-- THE SECOND FORM's CARD OF 'vernierlaw15.HexesSays'. -/
def hexesSaysUptoCard : Claim7 := { stood := { row := hexesSaysUptoRow, standIns := [], harness := (true, "fd99fab75102b5d8eaf2c5fb973dcc7220a4009d75117c76e49c5401f59df049"), looks := false }, kinds := [], alts := [], laidByText := true, laidKinds := [.data, .data, .data, .data], laidTests := true, laidLooks := .later }
def HexesSaysUptoCardSaid : Prop := Claim7.holds Tryd.pinned (.plain (OpenSpec.upto hexesSaysSpec)) hexesSaysUptoCard
end Rows
end Go.Proofs.YtbaaggmicpigeaaDoor
