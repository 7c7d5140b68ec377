/-
  DERIVED. GIVEN WITH THE SEED: THE CARDS: each row of YtljoaomnajlglaaDoorRows.lean that lists a variable, with what it lists TIED to the program's text (the seventh form; the later family's looks); each row that meets fmt, with fmt's text TOLD by the authors' own Lean function (tested against real Go, not proved from fmt's source: count such statements apart). THE CARD IS WHAT COUNTS. Prove the row's statement (the work); the ties are given (YtljoaomnajlglaaDoorTie.lean); close each card by the builder's one call (the guide's Derived/Test/ToyasCard.lean, 'card_holds'). Laid BY PROGRAM, IN A SANDBOX (cutbox-door.mjs). By AI agents, Wed Nov 11 2026. No macro, syntax, notation, axiom, sorry.
-/
import Derived.Test.YtljoaomnajlglaaDoorRows
import GoSem.ClaimSeven
namespace Go.Proofs.YtljoaomnajlglaaDoor
namespace Rows

/-- THE TIED CARD OF 'vernierlaw04.FormatValues'. -/
def formatValuesCard : Claim7 := { stood := { row := formatValuesRow, standIns := [], harness := (true, "85940622596c765fb7a12893b176d50ee75ea6e7a796b3edb088462701ee3c19"), looks := false }, kinds := [], alts := [], laidByText := true, laidKinds := [.data, .data], laidTests := true, laidLooks := .later }
def FormatValuesCardSaid : Prop := Claim7.holds Tryd.pinned (.plain (OpenSpec.ofChange formatValuesSpec)) formatValuesCard

/-- THE TIED CARD OF 'vernierlaw14.NarrowOdd'. -/
def narrowOddCard : Claim7 := { stood := { row := narrowOddRow, standIns := [], harness := (true, "85940622596c765fb7a12893b176d50ee75ea6e7a796b3edb088462701ee3c19"), looks := false }, kinds := [], alts := [], laidByText := true, laidKinds := [.data, .data], laidTests := true, laidLooks := .later }
def NarrowOddCardSaid : Prop := Claim7.holds Tryd.pinned (.plain (OpenSpec.ofChange narrowOddSpec)) narrowOddCard

/-- THE TIED CARD OF 'vernierlaw05.RoundBetween'. -/
def roundBetweenCard : Claim7 := { stood := { row := roundBetweenRow, standIns := [], harness := (true, "85940622596c765fb7a12893b176d50ee75ea6e7a796b3edb088462701ee3c19"), looks := false }, kinds := [], alts := [], laidByText := true, laidKinds := [.data, .data], laidTests := true, laidLooks := .later }
def RoundBetweenCardSaid : Prop := Claim7.holds Tryd.pinned (.plain (OpenSpec.ofChange roundBetweenSpec)) roundBetweenCard

/-- THE TIED CARD OF 'vernierlaw05.RoundAgree'. -/
def roundAgreeCard : Claim7 := { stood := { row := roundAgreeRow, standIns := [], harness := (true, "85940622596c765fb7a12893b176d50ee75ea6e7a796b3edb088462701ee3c19"), looks := false }, kinds := [], alts := [], laidByText := true, laidKinds := [.data, .data], laidTests := true, laidLooks := .later }
def RoundAgreeCardSaid : Prop := Claim7.holds Tryd.pinned (.plain (OpenSpec.ofChange roundAgreeSpec)) roundAgreeCard

/-- THE SECOND FORM's CARD OF 'vernierlaw04.FormatValues'. -/
def formatValuesUptoCard : Claim7 := { stood := { row := formatValuesUptoRow, standIns := [], harness := (true, "85940622596c765fb7a12893b176d50ee75ea6e7a796b3edb088462701ee3c19"), looks := false }, kinds := [], alts := [], laidByText := true, laidKinds := [.data, .data], laidTests := true, laidLooks := .later }
def FormatValuesUptoCardSaid : Prop := Claim7.holds Tryd.pinned (.plain (OpenSpec.upto formatValuesSpec)) formatValuesUptoCard

/-- THE SECOND FORM's CARD OF 'vernierlaw14.NarrowOdd'. -/
def narrowOddUptoCard : Claim7 := { stood := { row := narrowOddUptoRow, standIns := [], harness := (true, "85940622596c765fb7a12893b176d50ee75ea6e7a796b3edb088462701ee3c19"), looks := false }, kinds := [], alts := [], laidByText := true, laidKinds := [.data, .data], laidTests := true, laidLooks := .later }
def NarrowOddUptoCardSaid : Prop := Claim7.holds Tryd.pinned (.plain (OpenSpec.upto narrowOddSpec)) narrowOddUptoCard

/-- THE SECOND FORM's CARD OF 'vernierlaw05.RoundBetween'. -/
def roundBetweenUptoCard : Claim7 := { stood := { row := roundBetweenUptoRow, standIns := [], harness := (true, "85940622596c765fb7a12893b176d50ee75ea6e7a796b3edb088462701ee3c19"), looks := false }, kinds := [], alts := [], laidByText := true, laidKinds := [.data, .data], laidTests := true, laidLooks := .later }
def RoundBetweenUptoCardSaid : Prop := Claim7.holds Tryd.pinned (.plain (OpenSpec.upto roundBetweenSpec)) roundBetweenUptoCard

/-- THE SECOND FORM's CARD OF 'vernierlaw05.RoundAgree'. -/
def roundAgreeUptoCard : Claim7 := { stood := { row := roundAgreeUptoRow, standIns := [], harness := (true, "85940622596c765fb7a12893b176d50ee75ea6e7a796b3edb088462701ee3c19"), looks := false }, kinds := [], alts := [], laidByText := true, laidKinds := [.data, .data], laidTests := true, laidLooks := .later }
def RoundAgreeUptoCardSaid : Prop := Claim7.holds Tryd.pinned (.plain (OpenSpec.upto roundAgreeSpec)) roundAgreeUptoCard
end Rows
end Go.Proofs.YtljoaomnajlglaaDoor
