/-
  DERIVED. GIVEN WITH THE SEED: THE CARDS: each row of YtldjheckpophaaaDoorRows.lean that lists a variable, with what it lists TIED to the program's text (the seventh form; the later family's looks); each row that meets fmt, with fmt's text TOLD by the authors' own Lean function (tested against real Go, not proved from fmt's source: count such statements apart). THE CARD IS WHAT COUNTS. Prove the row's statement (the work); the ties are given (YtldjheckpophaaaDoorTie.lean); close each card by the builder's one call (the guide's Derived/Test/ToyasCard.lean, 'card_holds'). Laid BY PROGRAM, IN A SANDBOX (cutbox-door.mjs). By AI agents, Wed Nov 11 2026. No macro, syntax, notation, axiom, sorry.
-/
import Derived.Test.YtldjheckpophaaaDoorRows
import GoSem.ClaimSeven
namespace Go.Proofs.YtldjheckpophaaaDoor
namespace Rows

/-- THE TIED CARD OF 'vernierlaw12.WholeCalls'. -/
def wholeCallsCard : Claim7 := { stood := { row := wholeCallsRow, standIns := [], harness := (true, "647e0d212ca76a8d3941d9d1b3f680a8c7764101aa1c8ecbf30ff13f577fa770"), looks := false }, kinds := [], alts := [], laidByText := true, laidKinds := [.data, .data, .data], laidTests := true, laidLooks := .later }
def WholeCallsCardSaid : Prop := Claim7.holds Tryd.pinned (.plain (OpenSpec.ofChange wholeCallsSpec)) wholeCallsCard

/-- THE TIED CARD OF 'vernierlaw12.WholeMirror'. -/
def wholeMirrorCard : Claim7 := { stood := { row := wholeMirrorRow, standIns := [], harness := (true, "647e0d212ca76a8d3941d9d1b3f680a8c7764101aa1c8ecbf30ff13f577fa770"), looks := false }, kinds := [], alts := [], laidByText := true, laidKinds := [.data, .data, .data], laidTests := true, laidLooks := .later }
def WholeMirrorCardSaid : Prop := Claim7.holds Tryd.pinned (.plain (OpenSpec.ofChange wholeMirrorSpec)) wholeMirrorCard

/-- THE TIED CARD OF 'verniertop.WholeProducts'. -/
def wholeProductsCard : Claim7 := { stood := { row := wholeProductsRow, standIns := [], harness := (true, "647e0d212ca76a8d3941d9d1b3f680a8c7764101aa1c8ecbf30ff13f577fa770"), looks := false }, kinds := [], alts := [], laidByText := true, laidKinds := [.data, .data], laidTests := true, laidLooks := .later }
def WholeProductsCardSaid : Prop := Claim7.holds Tryd.pinned (.plain (OpenSpec.ofChange wholeProductsSpec)) wholeProductsCard

/-- THE TIED CARD OF 'vernierlaw12.WholeBack'. -/
def wholeBackCard : Claim7 := { stood := { row := wholeBackRow, standIns := [], harness := (true, "647e0d212ca76a8d3941d9d1b3f680a8c7764101aa1c8ecbf30ff13f577fa770"), looks := false }, kinds := [], alts := [], laidByText := true, laidKinds := [.data, .data, .data], laidTests := true, laidLooks := .later }
def WholeBackCardSaid : Prop := Claim7.holds Tryd.pinned (.plain (OpenSpec.ofChange wholeBackSpec)) wholeBackCard

/-- THE TIED CARD OF 'vernierlaw12.WholeNear'. -/
def wholeNearCard : Claim7 := { stood := { row := wholeNearRow, standIns := [], harness := (true, "647e0d212ca76a8d3941d9d1b3f680a8c7764101aa1c8ecbf30ff13f577fa770"), looks := false }, kinds := [], alts := [], laidByText := true, laidKinds := [.data, .data, .data], laidTests := true, laidLooks := .later }
def WholeNearCardSaid : Prop := Claim7.holds Tryd.pinned (.plain (OpenSpec.ofChange wholeNearSpec)) wholeNearCard

/-- THE TIED CARD OF 'vernierlaw12.WholeFits'. -/
def wholeFitsCard : Claim7 := { stood := { row := wholeFitsRow, standIns := [], harness := (true, "647e0d212ca76a8d3941d9d1b3f680a8c7764101aa1c8ecbf30ff13f577fa770"), looks := false }, kinds := [], alts := [], laidByText := true, laidKinds := [.data, .data, .data], laidTests := true, laidLooks := .later }
def WholeFitsCardSaid : Prop := Claim7.holds Tryd.pinned (.plain (OpenSpec.ofChange wholeFitsSpec)) wholeFitsCard

/-- THE TIED CARD OF 'vernierlaw11.RemExact'. -/
def remExactCard : Claim7 := { stood := { row := remExactRow, standIns := [], harness := (true, "647e0d212ca76a8d3941d9d1b3f680a8c7764101aa1c8ecbf30ff13f577fa770"), looks := false }, kinds := [], alts := [], laidByText := true, laidKinds := [.data, .data], laidTests := true, laidLooks := .later }
def RemExactCardSaid : Prop := Claim7.holds Tryd.pinned (.plain (OpenSpec.ofChange remExactSpec)) remExactCard

/-- THE TIED CARD OF 'verniertop.WholeRemains'. -/
def wholeRemainsCard : Claim7 := { stood := { row := wholeRemainsRow, standIns := [], harness := (true, "647e0d212ca76a8d3941d9d1b3f680a8c7764101aa1c8ecbf30ff13f577fa770"), looks := false }, kinds := [], alts := [], laidByText := true, laidKinds := [.data, .data], laidTests := true, laidLooks := .later }
def WholeRemainsCardSaid : Prop := Claim7.holds Tryd.pinned (.plain (OpenSpec.ofChange wholeRemainsSpec)) wholeRemainsCard

/-- THE TIED CARD OF 'verniertop.WholeInts'. -/
def wholeIntsCard : Claim7 := { stood := { row := wholeIntsRow, standIns := [], harness := (true, "647e0d212ca76a8d3941d9d1b3f680a8c7764101aa1c8ecbf30ff13f577fa770"), looks := false }, kinds := [], alts := [], laidByText := true, laidKinds := [.data, .data, .data], laidTests := true, laidLooks := .later }
def WholeIntsCardSaid : Prop := Claim7.holds Tryd.pinned (.plain (OpenSpec.ofChange wholeIntsSpec)) wholeIntsCard

/-- THE TIED CARD OF 'verniertop.WholeQuotients'. -/
def wholeQuotientsCard : Claim7 := { stood := { row := wholeQuotientsRow, standIns := [], harness := (true, "647e0d212ca76a8d3941d9d1b3f680a8c7764101aa1c8ecbf30ff13f577fa770"), looks := false }, kinds := [], alts := [], laidByText := true, laidKinds := [.data, .data], laidTests := true, laidLooks := .later }
def WholeQuotientsCardSaid : Prop := Claim7.holds Tryd.pinned (.plain (OpenSpec.ofChange wholeQuotientsSpec)) wholeQuotientsCard

/-- THE SECOND FORM's CARD OF 'vernierlaw12.WholeCalls'. -/
def wholeCallsUptoCard : Claim7 := { stood := { row := wholeCallsUptoRow, standIns := [], harness := (true, "647e0d212ca76a8d3941d9d1b3f680a8c7764101aa1c8ecbf30ff13f577fa770"), looks := false }, kinds := [], alts := [], laidByText := true, laidKinds := [.data, .data, .data], laidTests := true, laidLooks := .later }
def WholeCallsUptoCardSaid : Prop := Claim7.holds Tryd.pinned (.plain (OpenSpec.upto wholeCallsSpec)) wholeCallsUptoCard

/-- THE SECOND FORM's CARD OF 'vernierlaw12.WholeMirror'. -/
def wholeMirrorUptoCard : Claim7 := { stood := { row := wholeMirrorUptoRow, standIns := [], harness := (true, "647e0d212ca76a8d3941d9d1b3f680a8c7764101aa1c8ecbf30ff13f577fa770"), looks := false }, kinds := [], alts := [], laidByText := true, laidKinds := [.data, .data, .data], laidTests := true, laidLooks := .later }
def WholeMirrorUptoCardSaid : Prop := Claim7.holds Tryd.pinned (.plain (OpenSpec.upto wholeMirrorSpec)) wholeMirrorUptoCard

/-- THE SECOND FORM's CARD OF 'verniertop.WholeProducts'. -/
def wholeProductsUptoCard : Claim7 := { stood := { row := wholeProductsUptoRow, standIns := [], harness := (true, "647e0d212ca76a8d3941d9d1b3f680a8c7764101aa1c8ecbf30ff13f577fa770"), looks := false }, kinds := [], alts := [], laidByText := true, laidKinds := [.data, .data], laidTests := true, laidLooks := .later }
def WholeProductsUptoCardSaid : Prop := Claim7.holds Tryd.pinned (.plain (OpenSpec.upto wholeProductsSpec)) wholeProductsUptoCard

/-- THE SECOND FORM's CARD OF 'vernierlaw12.WholeBack'. -/
def wholeBackUptoCard : Claim7 := { stood := { row := wholeBackUptoRow, standIns := [], harness := (true, "647e0d212ca76a8d3941d9d1b3f680a8c7764101aa1c8ecbf30ff13f577fa770"), looks := false }, kinds := [], alts := [], laidByText := true, laidKinds := [.data, .data, .data], laidTests := true, laidLooks := .later }
def WholeBackUptoCardSaid : Prop := Claim7.holds Tryd.pinned (.plain (OpenSpec.upto wholeBackSpec)) wholeBackUptoCard

/-- THE SECOND FORM's CARD OF 'vernierlaw12.WholeNear'. -/
def wholeNearUptoCard : Claim7 := { stood := { row := wholeNearUptoRow, standIns := [], harness := (true, "647e0d212ca76a8d3941d9d1b3f680a8c7764101aa1c8ecbf30ff13f577fa770"), looks := false }, kinds := [], alts := [], laidByText := true, laidKinds := [.data, .data, .data], laidTests := true, laidLooks := .later }
def WholeNearUptoCardSaid : Prop := Claim7.holds Tryd.pinned (.plain (OpenSpec.upto wholeNearSpec)) wholeNearUptoCard

/-- THE SECOND FORM's CARD OF 'vernierlaw12.WholeFits'. -/
def wholeFitsUptoCard : Claim7 := { stood := { row := wholeFitsUptoRow, standIns := [], harness := (true, "647e0d212ca76a8d3941d9d1b3f680a8c7764101aa1c8ecbf30ff13f577fa770"), looks := false }, kinds := [], alts := [], laidByText := true, laidKinds := [.data, .data, .data], laidTests := true, laidLooks := .later }
def WholeFitsUptoCardSaid : Prop := Claim7.holds Tryd.pinned (.plain (OpenSpec.upto wholeFitsSpec)) wholeFitsUptoCard

/-- THE SECOND FORM's CARD OF 'vernierlaw11.RemExact'. -/
def remExactUptoCard : Claim7 := { stood := { row := remExactUptoRow, standIns := [], harness := (true, "647e0d212ca76a8d3941d9d1b3f680a8c7764101aa1c8ecbf30ff13f577fa770"), looks := false }, kinds := [], alts := [], laidByText := true, laidKinds := [.data, .data], laidTests := true, laidLooks := .later }
def RemExactUptoCardSaid : Prop := Claim7.holds Tryd.pinned (.plain (OpenSpec.upto remExactSpec)) remExactUptoCard

/-- THE SECOND FORM's CARD OF 'verniertop.WholeRemains'. -/
def wholeRemainsUptoCard : Claim7 := { stood := { row := wholeRemainsUptoRow, standIns := [], harness := (true, "647e0d212ca76a8d3941d9d1b3f680a8c7764101aa1c8ecbf30ff13f577fa770"), looks := false }, kinds := [], alts := [], laidByText := true, laidKinds := [.data, .data], laidTests := true, laidLooks := .later }
def WholeRemainsUptoCardSaid : Prop := Claim7.holds Tryd.pinned (.plain (OpenSpec.upto wholeRemainsSpec)) wholeRemainsUptoCard

/-- THE SECOND FORM's CARD OF 'verniertop.WholeInts'. -/
def wholeIntsUptoCard : Claim7 := { stood := { row := wholeIntsUptoRow, standIns := [], harness := (true, "647e0d212ca76a8d3941d9d1b3f680a8c7764101aa1c8ecbf30ff13f577fa770"), looks := false }, kinds := [], alts := [], laidByText := true, laidKinds := [.data, .data, .data], laidTests := true, laidLooks := .later }
def WholeIntsUptoCardSaid : Prop := Claim7.holds Tryd.pinned (.plain (OpenSpec.upto wholeIntsSpec)) wholeIntsUptoCard

/-- THE SECOND FORM's CARD OF 'verniertop.WholeQuotients'. -/
def wholeQuotientsUptoCard : Claim7 := { stood := { row := wholeQuotientsUptoRow, standIns := [], harness := (true, "647e0d212ca76a8d3941d9d1b3f680a8c7764101aa1c8ecbf30ff13f577fa770"), looks := false }, kinds := [], alts := [], laidByText := true, laidKinds := [.data, .data], laidTests := true, laidLooks := .later }
def WholeQuotientsUptoCardSaid : Prop := Claim7.holds Tryd.pinned (.plain (OpenSpec.upto wholeQuotientsSpec)) wholeQuotientsUptoCard
end Rows
end Go.Proofs.YtldjheckpophaaaDoor
