/-
  DERIVED. GIVEN WITH THE SEED: THE CARDS: each row of YtmoeaeflljpboaaDoorRows.lean that lists a variable, with what it lists TIED to the program's text (the seventh form; the later family's looks); each row that meets fmt, with fmt's text TOLD by the authors' own Lean function (tested against real Go, not proved from fmt's source: count such statements apart). THE CARD IS WHAT COUNTS. Prove the row's statement (the work); the ties are given (YtmoeaeflljpboaaDoorTie.lean); close each card by the builder's one call (the guide's Derived/Test/ToyasCard.lean, 'card_holds'). Laid BY PROGRAM, IN A SANDBOX (cutbox-door.mjs). By AI agents, Wed Nov 11 2026. No macro, syntax, notation, axiom, sorry.
-/
import Derived.Test.YtmoeaeflljpboaaDoorRows
import GoSem.ClaimSeven
namespace Go.Proofs.YtmoeaeflljpboaaDoor
namespace Rows

/-- THE TIED CARD OF 'vernierlaw02.NatMemory'. -/
def natMemoryCard : Claim7 := { stood := { row := natMemoryRow, standIns := [], harness := (true, "3b48a22506d84dd1d5b9fa918de1b7c26035b807c4ace3af1efb2295708a3b56"), looks := false }, kinds := [], alts := [], laidByText := true, laidKinds := [.data], laidTests := true, laidLooks := .later }
def NatMemoryCardSaid : Prop := Claim7.holds Tryd.pinned (.plain (OpenSpec.ofChange natMemorySpec)) natMemoryCard

/-- THE TIED CARD OF 'vernierlaw15.HexesPrints'. -/
def hexesPrintsCard : Claim7 := { stood := { row := hexesPrintsRow, standIns := [], harness := (true, "3b48a22506d84dd1d5b9fa918de1b7c26035b807c4ace3af1efb2295708a3b56"), looks := false }, kinds := [], alts := [], laidByText := true, laidKinds := [.data, .data, .data, .data], laidTests := true, laidLooks := .later }
def HexesPrintsCardSaid : Prop := Claim7.holds Tryd.pinned (.plain (OpenSpec.ofChange hexesPrintsSpec)) hexesPrintsCard

/-- THE TIED CARD OF 'vernierlaw15.HexesParses'. -/
def hexesParsesCard : Claim7 := { stood := { row := hexesParsesRow, standIns := [], harness := (true, "3b48a22506d84dd1d5b9fa918de1b7c26035b807c4ace3af1efb2295708a3b56"), looks := false }, kinds := [], alts := [], laidByText := true, laidKinds := [.data, .data, .data, .data], laidTests := true, laidLooks := .later }
def HexesParsesCardSaid : Prop := Claim7.holds Tryd.pinned (.plain (OpenSpec.ofChange hexesParsesSpec)) hexesParsesCard

/-- THE TIED CARD OF 'vernierlaw15.HexesBack'. -/
def hexesBackCard : Claim7 := { stood := { row := hexesBackRow, standIns := [], harness := (true, "3b48a22506d84dd1d5b9fa918de1b7c26035b807c4ace3af1efb2295708a3b56"), looks := false }, kinds := [], alts := [], laidByText := true, laidKinds := [.data, .data, .data, .data], laidTests := true, laidLooks := .later }
def HexesBackCardSaid : Prop := Claim7.holds Tryd.pinned (.plain (OpenSpec.ofChange hexesBackSpec)) hexesBackCard

/-- THE TIED CARD OF 'vernierlaw15.HexesWrong'. -/
def hexesWrongCard : Claim7 := { stood := { row := hexesWrongRow, standIns := [], harness := (true, "3b48a22506d84dd1d5b9fa918de1b7c26035b807c4ace3af1efb2295708a3b56"), looks := false }, kinds := [], alts := [], laidByText := true, laidKinds := [.data, .data, .data, .data], laidTests := true, laidLooks := .later }
def HexesWrongCardSaid : Prop := Claim7.holds Tryd.pinned (.plain (OpenSpec.ofChange hexesWrongSpec)) hexesWrongCard

/-- THE TIED CARD OF 'vernierlaw15.HexesSays'. -/
def hexesSaysCard : Claim7 := { stood := { row := hexesSaysRow, standIns := [], harness := (true, "3b48a22506d84dd1d5b9fa918de1b7c26035b807c4ace3af1efb2295708a3b56"), looks := false }, kinds := [], alts := [], laidByText := true, laidKinds := [.data, .data, .data, .data], laidTests := true, laidLooks := .later }
def HexesSaysCardSaid : Prop := Claim7.holds Tryd.pinned (.plain (OpenSpec.ofChange hexesSaysSpec)) hexesSaysCard

/-- THE SECOND FORM's CARD OF 'vernierlaw02.NatMemory'. -/
def natMemoryUptoCard : Claim7 := { stood := { row := natMemoryUptoRow, standIns := [], harness := (true, "3b48a22506d84dd1d5b9fa918de1b7c26035b807c4ace3af1efb2295708a3b56"), looks := false }, kinds := [], alts := [], laidByText := true, laidKinds := [.data], laidTests := true, laidLooks := .later }
def NatMemoryUptoCardSaid : Prop := Claim7.holds Tryd.pinned (.plain (OpenSpec.upto natMemorySpec)) natMemoryUptoCard

/-- THE SECOND FORM's CARD OF 'vernierlaw15.HexesPrints'. -/
def hexesPrintsUptoCard : Claim7 := { stood := { row := hexesPrintsUptoRow, standIns := [], harness := (true, "3b48a22506d84dd1d5b9fa918de1b7c26035b807c4ace3af1efb2295708a3b56"), looks := false }, kinds := [], alts := [], laidByText := true, laidKinds := [.data, .data, .data, .data], laidTests := true, laidLooks := .later }
def HexesPrintsUptoCardSaid : Prop := Claim7.holds Tryd.pinned (.plain (OpenSpec.upto hexesPrintsSpec)) hexesPrintsUptoCard

/-- THE SECOND FORM's CARD OF 'vernierlaw15.HexesParses'. -/
def hexesParsesUptoCard : Claim7 := { stood := { row := hexesParsesUptoRow, standIns := [], harness := (true, "3b48a22506d84dd1d5b9fa918de1b7c26035b807c4ace3af1efb2295708a3b56"), looks := false }, kinds := [], alts := [], laidByText := true, laidKinds := [.data, .data, .data, .data], laidTests := true, laidLooks := .later }
def HexesParsesUptoCardSaid : Prop := Claim7.holds Tryd.pinned (.plain (OpenSpec.upto hexesParsesSpec)) hexesParsesUptoCard

/-- THE SECOND FORM's CARD OF 'vernierlaw15.HexesBack'. -/
def hexesBackUptoCard : Claim7 := { stood := { row := hexesBackUptoRow, standIns := [], harness := (true, "3b48a22506d84dd1d5b9fa918de1b7c26035b807c4ace3af1efb2295708a3b56"), looks := false }, kinds := [], alts := [], laidByText := true, laidKinds := [.data, .data, .data, .data], laidTests := true, laidLooks := .later }
def HexesBackUptoCardSaid : Prop := Claim7.holds Tryd.pinned (.plain (OpenSpec.upto hexesBackSpec)) hexesBackUptoCard

/-- THE SECOND FORM's CARD OF 'vernierlaw15.HexesWrong'. -/
def hexesWrongUptoCard : Claim7 := { stood := { row := hexesWrongUptoRow, standIns := [], harness := (true, "3b48a22506d84dd1d5b9fa918de1b7c26035b807c4ace3af1efb2295708a3b56"), looks := false }, kinds := [], alts := [], laidByText := true, laidKinds := [.data, .data, .data, .data], laidTests := true, laidLooks := .later }
def HexesWrongUptoCardSaid : Prop := Claim7.holds Tryd.pinned (.plain (OpenSpec.upto hexesWrongSpec)) hexesWrongUptoCard

/-- THE SECOND FORM's CARD OF 'vernierlaw15.HexesSays'. -/
def hexesSaysUptoCard : Claim7 := { stood := { row := hexesSaysUptoRow, standIns := [], harness := (true, "3b48a22506d84dd1d5b9fa918de1b7c26035b807c4ace3af1efb2295708a3b56"), looks := false }, kinds := [], alts := [], laidByText := true, laidKinds := [.data, .data, .data, .data], laidTests := true, laidLooks := .later }
def HexesSaysUptoCardSaid : Prop := Claim7.holds Tryd.pinned (.plain (OpenSpec.upto hexesSaysSpec)) hexesSaysUptoCard
end Rows
end Go.Proofs.YtmoeaeflljpboaaDoor
