/-
  DERIVED. GIVEN WITH THE SEED: THE CARDS: each row of YtkpmladopkkfnaaDoorRows.lean that lists a variable, with what it lists TIED to the program's text (the seventh form; the later family's looks); each row that meets fmt, with fmt's text TOLD by the authors' own Lean function (tested against real Go, not proved from fmt's source: count such statements apart). THE CARD IS WHAT COUNTS. Prove the row's statement (the work); the ties are given (YtkpmladopkkfnaaDoorTie.lean); close each card by the builder's one call (the guide's Derived/Test/ToyasCard.lean, 'card_holds'). Laid BY PROGRAM, IN A SANDBOX (cutbox-door.mjs). By AI agents, Wed Nov 11 2026. No macro, syntax, notation, axiom, sorry.
-/
import Derived.Test.YtkpmladopkkfnaaDoorRows
import GoSem.ClaimSeven
namespace Go.Proofs.YtkpmladopkkfnaaDoor
namespace Rows

/-- THE TIED CARD OF 'vernierlaw05.RoundNames'. -/
def roundNamesCard : Claim7 := { stood := { row := roundNamesRow, standIns := [], harness := (true, "d073ea68e97523b45cf6e38e8c667f01447b41c15f6d334d87a69cba5de48fbf"), looks := false }, kinds := [], alts := [], laidByText := true, laidKinds := [.data, .data], laidTests := true, laidLooks := .later }
def RoundNamesCardSaid : Prop := Claim7.holds Tryd.pinned (.plain (OpenSpec.ofChange roundNamesSpec)) roundNamesCard

/-- THE TIED CARD OF 'vernierlaw05.RoundOrder'. -/
def roundOrderCard : Claim7 := { stood := { row := roundOrderRow, standIns := [], harness := (true, "d073ea68e97523b45cf6e38e8c667f01447b41c15f6d334d87a69cba5de48fbf"), looks := false }, kinds := [], alts := [], laidByText := true, laidKinds := [.data, .data], laidTests := true, laidLooks := .later }
def RoundOrderCardSaid : Prop := Claim7.holds Tryd.pinned (.plain (OpenSpec.ofChange roundOrderSpec)) roundOrderCard

/-- THE TIED CARD OF 'vernierlaw05.RoundKeeps'. -/
def roundKeepsCard : Claim7 := { stood := { row := roundKeepsRow, standIns := [], harness := (true, "d073ea68e97523b45cf6e38e8c667f01447b41c15f6d334d87a69cba5de48fbf"), looks := false }, kinds := [], alts := [], laidByText := true, laidKinds := [.data, .data], laidTests := true, laidLooks := .later }
def RoundKeepsCardSaid : Prop := Claim7.holds Tryd.pinned (.plain (OpenSpec.ofChange roundKeepsSpec)) roundKeepsCard

/-- THE TIED CARD OF 'vernierlaw05.RoundBetween'. -/
def roundBetweenCard : Claim7 := { stood := { row := roundBetweenRow, standIns := [], harness := (true, "d073ea68e97523b45cf6e38e8c667f01447b41c15f6d334d87a69cba5de48fbf"), looks := false }, kinds := [], alts := [], laidByText := true, laidKinds := [.data, .data], laidTests := true, laidLooks := .later }
def RoundBetweenCardSaid : Prop := Claim7.holds Tryd.pinned (.plain (OpenSpec.ofChange roundBetweenSpec)) roundBetweenCard

/-- THE TIED CARD OF 'vernierlaw05.RoundAgree'. -/
def roundAgreeCard : Claim7 := { stood := { row := roundAgreeRow, standIns := [], harness := (true, "d073ea68e97523b45cf6e38e8c667f01447b41c15f6d334d87a69cba5de48fbf"), looks := false }, kinds := [], alts := [], laidByText := true, laidKinds := [.data, .data], laidTests := true, laidLooks := .later }
def RoundAgreeCardSaid : Prop := Claim7.holds Tryd.pinned (.plain (OpenSpec.ofChange roundAgreeSpec)) roundAgreeCard

/-- THE SECOND FORM's CARD OF 'vernierlaw05.RoundNames'. -/
def roundNamesUptoCard : Claim7 := { stood := { row := roundNamesUptoRow, standIns := [], harness := (true, "d073ea68e97523b45cf6e38e8c667f01447b41c15f6d334d87a69cba5de48fbf"), looks := false }, kinds := [], alts := [], laidByText := true, laidKinds := [.data, .data], laidTests := true, laidLooks := .later }
def RoundNamesUptoCardSaid : Prop := Claim7.holds Tryd.pinned (.plain (OpenSpec.upto roundNamesSpec)) roundNamesUptoCard

/-- THE SECOND FORM's CARD OF 'vernierlaw05.RoundOrder'. -/
def roundOrderUptoCard : Claim7 := { stood := { row := roundOrderUptoRow, standIns := [], harness := (true, "d073ea68e97523b45cf6e38e8c667f01447b41c15f6d334d87a69cba5de48fbf"), looks := false }, kinds := [], alts := [], laidByText := true, laidKinds := [.data, .data], laidTests := true, laidLooks := .later }
def RoundOrderUptoCardSaid : Prop := Claim7.holds Tryd.pinned (.plain (OpenSpec.upto roundOrderSpec)) roundOrderUptoCard

/-- THE SECOND FORM's CARD OF 'vernierlaw05.RoundKeeps'. -/
def roundKeepsUptoCard : Claim7 := { stood := { row := roundKeepsUptoRow, standIns := [], harness := (true, "d073ea68e97523b45cf6e38e8c667f01447b41c15f6d334d87a69cba5de48fbf"), looks := false }, kinds := [], alts := [], laidByText := true, laidKinds := [.data, .data], laidTests := true, laidLooks := .later }
def RoundKeepsUptoCardSaid : Prop := Claim7.holds Tryd.pinned (.plain (OpenSpec.upto roundKeepsSpec)) roundKeepsUptoCard

/-- THE SECOND FORM's CARD OF 'vernierlaw05.RoundBetween'. -/
def roundBetweenUptoCard : Claim7 := { stood := { row := roundBetweenUptoRow, standIns := [], harness := (true, "d073ea68e97523b45cf6e38e8c667f01447b41c15f6d334d87a69cba5de48fbf"), looks := false }, kinds := [], alts := [], laidByText := true, laidKinds := [.data, .data], laidTests := true, laidLooks := .later }
def RoundBetweenUptoCardSaid : Prop := Claim7.holds Tryd.pinned (.plain (OpenSpec.upto roundBetweenSpec)) roundBetweenUptoCard

/-- THE SECOND FORM's CARD OF 'vernierlaw05.RoundAgree'. -/
def roundAgreeUptoCard : Claim7 := { stood := { row := roundAgreeUptoRow, standIns := [], harness := (true, "d073ea68e97523b45cf6e38e8c667f01447b41c15f6d334d87a69cba5de48fbf"), looks := false }, kinds := [], alts := [], laidByText := true, laidKinds := [.data, .data], laidTests := true, laidLooks := .later }
def RoundAgreeUptoCardSaid : Prop := Claim7.holds Tryd.pinned (.plain (OpenSpec.upto roundAgreeSpec)) roundAgreeUptoCard
end Rows
end Go.Proofs.YtkpmladopkkfnaaDoor
