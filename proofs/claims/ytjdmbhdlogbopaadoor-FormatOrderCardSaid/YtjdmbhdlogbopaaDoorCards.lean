/-
  DERIVED. GIVEN WITH THE SEED: THE CARDS: each row of YtjdmbhdlogbopaaDoorRows.lean that lists a variable, with what it lists TIED to the program's text (the seventh form; the later family's looks); each row that meets fmt, with fmt's text TOLD by the authors' own Lean function (tested against real Go, not proved from fmt's source: count such statements apart). THE CARD IS WHAT COUNTS. Prove the row's statement (the work); the ties are given (YtjdmbhdlogbopaaDoorTie.lean); close each card by the builder's one call (the guide's Derived/Test/ToyasCard.lean, 'card_holds'). Laid BY PROGRAM, IN A SANDBOX (cutbox-door.mjs). By AI agents, Wed Nov 11 2026. No macro, syntax, notation, axiom, sorry.
-/
import Derived.Test.YtjdmbhdlogbopaaDoorRows
import GoSem.ClaimSeven
namespace Go.Proofs.YtjdmbhdlogbopaaDoor
namespace Rows

/-- THE TIED CARD OF 'vernierlaw04.FormatFields'. -/
def formatFieldsCard : Claim7 := { stood := { row := formatFieldsRow, standIns := [], harness := (true, "102c3dd96cebe8f8dc43de9a77f0ecc60c1a7eac499cfaf4f8ea3ca4f66f9f80"), looks := false }, kinds := [], alts := [], laidByText := true, laidKinds := [.data], laidTests := true, laidLooks := .later }
def FormatFieldsCardSaid : Prop := Claim7.holds Tryd.pinned (.plain (OpenSpec.ofChange formatFieldsSpec)) formatFieldsCard

/-- THE TIED CARD OF 'vernierlaw04.FormatParams'. -/
def formatParamsCard : Claim7 := { stood := { row := formatParamsRow, standIns := [], harness := (true, "102c3dd96cebe8f8dc43de9a77f0ecc60c1a7eac499cfaf4f8ea3ca4f66f9f80"), looks := false }, kinds := [], alts := [], laidByText := true, laidKinds := [.data], laidTests := true, laidLooks := .later }
def FormatParamsCardSaid : Prop := Claim7.holds Tryd.pinned (.plain (OpenSpec.ofChange formatParamsSpec)) formatParamsCard

/-- THE TIED CARD OF 'vernierlaw04.FormatPacks'. -/
def formatPacksCard : Claim7 := { stood := { row := formatPacksRow, standIns := [], harness := (true, "102c3dd96cebe8f8dc43de9a77f0ecc60c1a7eac499cfaf4f8ea3ca4f66f9f80"), looks := false }, kinds := [], alts := [], laidByText := true, laidKinds := [.data], laidTests := true, laidLooks := .later }
def FormatPacksCardSaid : Prop := Claim7.holds Tryd.pinned (.plain (OpenSpec.ofChange formatPacksSpec)) formatPacksCard

/-- THE TIED CARD OF 'vernierlaw04.FormatSigns'. -/
def formatSignsCard : Claim7 := { stood := { row := formatSignsRow, standIns := [], harness := (true, "102c3dd96cebe8f8dc43de9a77f0ecc60c1a7eac499cfaf4f8ea3ca4f66f9f80"), looks := false }, kinds := [], alts := [], laidByText := true, laidKinds := [.data], laidTests := true, laidLooks := .later }
def FormatSignsCardSaid : Prop := Claim7.holds Tryd.pinned (.plain (OpenSpec.ofChange formatSignsSpec)) formatSignsCard

/-- THE TIED CARD OF 'vernierlaw04.FormatValues'. -/
def formatValuesCard : Claim7 := { stood := { row := formatValuesRow, standIns := [], harness := (true, "102c3dd96cebe8f8dc43de9a77f0ecc60c1a7eac499cfaf4f8ea3ca4f66f9f80"), looks := false }, kinds := [], alts := [], laidByText := true, laidKinds := [.data, .data], laidTests := true, laidLooks := .later }
def FormatValuesCardSaid : Prop := Claim7.holds Tryd.pinned (.plain (OpenSpec.ofChange formatValuesSpec)) formatValuesCard

/-- THE TIED CARD OF 'vernierlaw04.FormatMachine'. -/
def formatMachineCard : Claim7 := { stood := { row := formatMachineRow, standIns := [], harness := (true, "102c3dd96cebe8f8dc43de9a77f0ecc60c1a7eac499cfaf4f8ea3ca4f66f9f80"), looks := false }, kinds := [], alts := [], laidByText := true, laidKinds := [.data, .data], laidTests := true, laidLooks := .later }
def FormatMachineCardSaid : Prop := Claim7.holds Tryd.pinned (.plain (OpenSpec.ofChange formatMachineSpec)) formatMachineCard

/-- THE TIED CARD OF 'vernierlaw04.FormatBack'. -/
def formatBackCard : Claim7 := { stood := { row := formatBackRow, standIns := [], harness := (true, "102c3dd96cebe8f8dc43de9a77f0ecc60c1a7eac499cfaf4f8ea3ca4f66f9f80"), looks := false }, kinds := [], alts := [], laidByText := true, laidKinds := [.data, .data], laidTests := true, laidLooks := .later }
def FormatBackCardSaid : Prop := Claim7.holds Tryd.pinned (.plain (OpenSpec.ofChange formatBackSpec)) formatBackCard

/-- THE TIED CARD OF 'vernierlaw04.FormatOrder'. -/
def formatOrderCard : Claim7 := { stood := { row := formatOrderRow, standIns := [], harness := (true, "102c3dd96cebe8f8dc43de9a77f0ecc60c1a7eac499cfaf4f8ea3ca4f66f9f80"), looks := false }, kinds := [], alts := [], laidByText := true, laidKinds := [.data, .data], laidTests := true, laidLooks := .later }
def FormatOrderCardSaid : Prop := Claim7.holds Tryd.pinned (.plain (OpenSpec.ofChange formatOrderSpec)) formatOrderCard

/-- THE SECOND FORM's CARD OF 'vernierlaw04.FormatFields'. -/
def formatFieldsUptoCard : Claim7 := { stood := { row := formatFieldsUptoRow, standIns := [], harness := (true, "102c3dd96cebe8f8dc43de9a77f0ecc60c1a7eac499cfaf4f8ea3ca4f66f9f80"), looks := false }, kinds := [], alts := [], laidByText := true, laidKinds := [.data], laidTests := true, laidLooks := .later }
def FormatFieldsUptoCardSaid : Prop := Claim7.holds Tryd.pinned (.plain (OpenSpec.upto formatFieldsSpec)) formatFieldsUptoCard

/-- THE SECOND FORM's CARD OF 'vernierlaw04.FormatParams'. -/
def formatParamsUptoCard : Claim7 := { stood := { row := formatParamsUptoRow, standIns := [], harness := (true, "102c3dd96cebe8f8dc43de9a77f0ecc60c1a7eac499cfaf4f8ea3ca4f66f9f80"), looks := false }, kinds := [], alts := [], laidByText := true, laidKinds := [.data], laidTests := true, laidLooks := .later }
def FormatParamsUptoCardSaid : Prop := Claim7.holds Tryd.pinned (.plain (OpenSpec.upto formatParamsSpec)) formatParamsUptoCard

/-- THE SECOND FORM's CARD OF 'vernierlaw04.FormatPacks'. -/
def formatPacksUptoCard : Claim7 := { stood := { row := formatPacksUptoRow, standIns := [], harness := (true, "102c3dd96cebe8f8dc43de9a77f0ecc60c1a7eac499cfaf4f8ea3ca4f66f9f80"), looks := false }, kinds := [], alts := [], laidByText := true, laidKinds := [.data], laidTests := true, laidLooks := .later }
def FormatPacksUptoCardSaid : Prop := Claim7.holds Tryd.pinned (.plain (OpenSpec.upto formatPacksSpec)) formatPacksUptoCard

/-- THE SECOND FORM's CARD OF 'vernierlaw04.FormatSigns'. -/
def formatSignsUptoCard : Claim7 := { stood := { row := formatSignsUptoRow, standIns := [], harness := (true, "102c3dd96cebe8f8dc43de9a77f0ecc60c1a7eac499cfaf4f8ea3ca4f66f9f80"), looks := false }, kinds := [], alts := [], laidByText := true, laidKinds := [.data], laidTests := true, laidLooks := .later }
def FormatSignsUptoCardSaid : Prop := Claim7.holds Tryd.pinned (.plain (OpenSpec.upto formatSignsSpec)) formatSignsUptoCard

/-- THE SECOND FORM's CARD OF 'vernierlaw04.FormatValues'. -/
def formatValuesUptoCard : Claim7 := { stood := { row := formatValuesUptoRow, standIns := [], harness := (true, "102c3dd96cebe8f8dc43de9a77f0ecc60c1a7eac499cfaf4f8ea3ca4f66f9f80"), looks := false }, kinds := [], alts := [], laidByText := true, laidKinds := [.data, .data], laidTests := true, laidLooks := .later }
def FormatValuesUptoCardSaid : Prop := Claim7.holds Tryd.pinned (.plain (OpenSpec.upto formatValuesSpec)) formatValuesUptoCard

/-- THE SECOND FORM's CARD OF 'vernierlaw04.FormatMachine'. -/
def formatMachineUptoCard : Claim7 := { stood := { row := formatMachineUptoRow, standIns := [], harness := (true, "102c3dd96cebe8f8dc43de9a77f0ecc60c1a7eac499cfaf4f8ea3ca4f66f9f80"), looks := false }, kinds := [], alts := [], laidByText := true, laidKinds := [.data, .data], laidTests := true, laidLooks := .later }
def FormatMachineUptoCardSaid : Prop := Claim7.holds Tryd.pinned (.plain (OpenSpec.upto formatMachineSpec)) formatMachineUptoCard

/-- THE SECOND FORM's CARD OF 'vernierlaw04.FormatBack'. -/
def formatBackUptoCard : Claim7 := { stood := { row := formatBackUptoRow, standIns := [], harness := (true, "102c3dd96cebe8f8dc43de9a77f0ecc60c1a7eac499cfaf4f8ea3ca4f66f9f80"), looks := false }, kinds := [], alts := [], laidByText := true, laidKinds := [.data, .data], laidTests := true, laidLooks := .later }
def FormatBackUptoCardSaid : Prop := Claim7.holds Tryd.pinned (.plain (OpenSpec.upto formatBackSpec)) formatBackUptoCard

/-- THE SECOND FORM's CARD OF 'vernierlaw04.FormatOrder'. -/
def formatOrderUptoCard : Claim7 := { stood := { row := formatOrderUptoRow, standIns := [], harness := (true, "102c3dd96cebe8f8dc43de9a77f0ecc60c1a7eac499cfaf4f8ea3ca4f66f9f80"), looks := false }, kinds := [], alts := [], laidByText := true, laidKinds := [.data, .data], laidTests := true, laidLooks := .later }
def FormatOrderUptoCardSaid : Prop := Claim7.holds Tryd.pinned (.plain (OpenSpec.upto formatOrderSpec)) formatOrderUptoCard
end Rows
end Go.Proofs.YtjdmbhdlogbopaaDoor
