/-
  DERIVED. GIVEN WITH THE SEED: THE CARDS: each row of YtbaaggmicpigeaaGreatDoorRows.lean that lists a variable, with what it lists TIED to the program's text (the seventh form; the later family's looks); each row that meets fmt, with fmt's text TOLD by the authors' own Lean function (tested against real Go, not proved from fmt's source: count such statements apart). THE CARD IS WHAT COUNTS. Prove the row's statement (the work); the ties are given (YtbaaggmicpigeaaGreatDoorTie.lean); close each card by the builder's one call (the guide's Derived/Test/ToyasCard.lean, 'card_holds'). Laid BY PROGRAM, IN A SANDBOX (cutbox-door.mjs). By AI agents, Wed Nov 11 2026. No macro, syntax, notation, axiom, sorry.
-/
import Derived.Test.YtbaaggmicpigeaaGreatDoorRows
import GoSem.ClaimSeven
namespace Go.Proofs.YtbaaggmicpigeaaGreatDoor
namespace Rows

/-- THE TIED CARD OF 'vernierlaw05.RoundExact'. -/
def roundExactCard : Claim7 := { stood := { row := roundExactRow, standIns := [], harness := (true, "da1273058baa254e2f773ebc6cafdce5fceea7087acb5d3cab4139a30fc445d2"), looks := false }, kinds := [], alts := [], laidByText := true, laidKinds := [.data, .data], laidTests := true, laidLooks := .later }
def RoundExactCardSaid : Prop := Claim7.holds Tryz.pinned (.plain (OpenSpec.ofChange roundExactSpec)) roundExactCard

/-- THE TIED CARD OF 'vernierlaw05.RoundParts'. -/
def roundPartsCard : Claim7 := { stood := { row := roundPartsRow, standIns := [], harness := (true, "da1273058baa254e2f773ebc6cafdce5fceea7087acb5d3cab4139a30fc445d2"), looks := false }, kinds := [], alts := [], laidByText := true, laidKinds := [.data, .data], laidTests := true, laidLooks := .later }
def RoundPartsCardSaid : Prop := Claim7.holds Tryz.pinned (.plain (OpenSpec.ofChange roundPartsSpec)) roundPartsCard

/-- THE SECOND FORM's CARD OF 'vernierlaw05.RoundExact'. -/
def roundExactUptoCard : Claim7 := { stood := { row := roundExactUptoRow, standIns := [], harness := (true, "da1273058baa254e2f773ebc6cafdce5fceea7087acb5d3cab4139a30fc445d2"), looks := false }, kinds := [], alts := [], laidByText := true, laidKinds := [.data, .data], laidTests := true, laidLooks := .later }
def RoundExactUptoCardSaid : Prop := Claim7.holds Tryz.pinned (.plain (OpenSpec.upto roundExactSpec)) roundExactUptoCard

/-- THE SECOND FORM's CARD OF 'vernierlaw05.RoundParts'. -/
def roundPartsUptoCard : Claim7 := { stood := { row := roundPartsUptoRow, standIns := [], harness := (true, "da1273058baa254e2f773ebc6cafdce5fceea7087acb5d3cab4139a30fc445d2"), looks := false }, kinds := [], alts := [], laidByText := true, laidKinds := [.data, .data], laidTests := true, laidLooks := .later }
def RoundPartsUptoCardSaid : Prop := Claim7.holds Tryz.pinned (.plain (OpenSpec.upto roundPartsSpec)) roundPartsUptoCard
end Rows
end Go.Proofs.YtbaaggmicpigeaaGreatDoor
