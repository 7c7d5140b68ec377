/-
  DERIVED. GIVEN WITH THE SEED: THE CARDS: each row of YtkcnbnilekfhdaaGreatDoorRows.lean that lists a variable, with what it lists TIED to the program's text (the seventh form; the later family's looks); each row that meets fmt, with fmt's text TOLD by the authors' own Lean function (tested against real Go, not proved from fmt's source: count such statements apart). THE CARD IS WHAT COUNTS. Prove the row's statement (the work); the ties are given (YtkcnbnilekfhdaaGreatDoorTie.lean); close each card by the builder's one call (the guide's Derived/Test/ToyasCard.lean, 'card_holds'). Laid BY PROGRAM, IN A SANDBOX (cutbox-door.mjs). By AI agents, Wed Nov 11 2026. No macro, syntax, notation, axiom, sorry.
-/
import Derived.Test.YtkcnbnilekfhdaaGreatDoorRows
import GoSem.ClaimSeven
namespace Go.Proofs.YtkcnbnilekfhdaaGreatDoor
namespace Rows

/-- THE TIED CARD OF 'vernierlaw08.DivAll'. -/
def divAllCard : Claim7 := { stood := { row := divAllRow, standIns := [], harness := (true, "3e285597aa609977915bf26e25826cf11fd4f1a8c28fae05546d70668ce6033b"), looks := false }, kinds := [], alts := [], laidByText := true, laidKinds := [.data, .data], laidTests := true, laidLooks := .later }
def DivAllCardSaid : Prop := Claim7.holds Tryz.pinned (.plain (OpenSpec.ofChange divAllSpec)) divAllCard

/-- THE SECOND FORM's CARD OF 'vernierlaw08.DivAll'. -/
def divAllUptoCard : Claim7 := { stood := { row := divAllUptoRow, standIns := [], harness := (true, "3e285597aa609977915bf26e25826cf11fd4f1a8c28fae05546d70668ce6033b"), looks := false }, kinds := [], alts := [], laidByText := true, laidKinds := [.data, .data], laidTests := true, laidLooks := .later }
def DivAllUptoCardSaid : Prop := Claim7.holds Tryz.pinned (.plain (OpenSpec.upto divAllSpec)) divAllUptoCard
end Rows
end Go.Proofs.YtkcnbnilekfhdaaGreatDoor
