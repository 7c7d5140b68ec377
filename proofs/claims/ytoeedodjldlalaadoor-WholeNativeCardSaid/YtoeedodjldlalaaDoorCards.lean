/-
  DERIVED. GIVEN WITH THE SEED: THE CARDS: each row of YtoeedodjldlalaaDoorRows.lean that lists a variable, with what it lists TIED to the program's text (the seventh form; the later family's looks); each row that meets fmt, with fmt's text TOLD by the authors' own Lean function (tested against real Go, not proved from fmt's source: count such statements apart). THE CARD IS WHAT COUNTS. Prove the row's statement (the work); the ties are given (YtoeedodjldlalaaDoorTie.lean); close each card by the builder's one call (the guide's Derived/Test/ToyasCard.lean, 'card_holds'). Laid BY PROGRAM, IN A SANDBOX (cutbox-door.mjs). By AI agents, Wed Nov 11 2026. No macro, syntax, notation, axiom, sorry.
-/
import Derived.Test.YtoeedodjldlalaaDoorRows
import GoSem.ClaimSeven
namespace Go.Proofs.YtoeedodjldlalaaDoor
namespace Rows

/-- THE TIED CARD OF 'vernierlaw04.FormatMachine'. -/
def formatMachineCard : Claim7 := { stood := { row := formatMachineRow, standIns := [], harness := (true, "17f2b895513386a68db9a58458c6d881e04b678a08b4f37eb41a5d186cdf9974"), looks := false }, kinds := [], alts := [], laidByText := true, laidKinds := [.data, .data], laidTests := true, laidLooks := .later }
def FormatMachineCardSaid : Prop := Claim7.holds Tryd.pinned (.plain (OpenSpec.ofChange formatMachineSpec)) formatMachineCard

/-- THE TIED CARD OF 'vernierlaw14.NarrowMachine'. -/
def narrowMachineCard : Claim7 := { stood := { row := narrowMachineRow, standIns := [], harness := (true, "17f2b895513386a68db9a58458c6d881e04b678a08b4f37eb41a5d186cdf9974"), looks := false }, kinds := [], alts := [], laidByText := true, laidKinds := [.data, .data], laidTests := true, laidLooks := .later }
def NarrowMachineCardSaid : Prop := Claim7.holds Tryd.pinned (.plain (OpenSpec.ofChange narrowMachineSpec)) narrowMachineCard

/-- THE TIED CARD OF 'vernierlaw12.WholeNative'. -/
def wholeNativeCard : Claim7 := { stood := { row := wholeNativeRow, standIns := [], harness := (true, "17f2b895513386a68db9a58458c6d881e04b678a08b4f37eb41a5d186cdf9974"), looks := false }, kinds := [], alts := [], laidByText := true, laidKinds := [.data, .data, .data], laidTests := true, laidLooks := .later }
def WholeNativeCardSaid : Prop := Claim7.holds Tryd.pinned (.plain (OpenSpec.ofChange wholeNativeSpec)) wholeNativeCard

/-- THE TIED CARD OF 'verniertop.WholeCasts'. -/
def wholeCastsCard : Claim7 := { stood := { row := wholeCastsRow, standIns := [], harness := (true, "17f2b895513386a68db9a58458c6d881e04b678a08b4f37eb41a5d186cdf9974"), looks := false }, kinds := [], alts := [], laidByText := true, laidKinds := [.data, .data, .data], laidTests := true, laidLooks := .later }
def WholeCastsCardSaid : Prop := Claim7.holds Tryd.pinned (.plain (OpenSpec.ofChange wholeCastsSpec)) wholeCastsCard

/-- THE SECOND FORM's CARD OF 'vernierlaw04.FormatMachine'. -/
def formatMachineUptoCard : Claim7 := { stood := { row := formatMachineUptoRow, standIns := [], harness := (true, "17f2b895513386a68db9a58458c6d881e04b678a08b4f37eb41a5d186cdf9974"), looks := false }, kinds := [], alts := [], laidByText := true, laidKinds := [.data, .data], laidTests := true, laidLooks := .later }
def FormatMachineUptoCardSaid : Prop := Claim7.holds Tryd.pinned (.plain (OpenSpec.upto formatMachineSpec)) formatMachineUptoCard

/-- THE SECOND FORM's CARD OF 'vernierlaw14.NarrowMachine'. -/
def narrowMachineUptoCard : Claim7 := { stood := { row := narrowMachineUptoRow, standIns := [], harness := (true, "17f2b895513386a68db9a58458c6d881e04b678a08b4f37eb41a5d186cdf9974"), looks := false }, kinds := [], alts := [], laidByText := true, laidKinds := [.data, .data], laidTests := true, laidLooks := .later }
def NarrowMachineUptoCardSaid : Prop := Claim7.holds Tryd.pinned (.plain (OpenSpec.upto narrowMachineSpec)) narrowMachineUptoCard

/-- THE SECOND FORM's CARD OF 'vernierlaw12.WholeNative'. -/
def wholeNativeUptoCard : Claim7 := { stood := { row := wholeNativeUptoRow, standIns := [], harness := (true, "17f2b895513386a68db9a58458c6d881e04b678a08b4f37eb41a5d186cdf9974"), looks := false }, kinds := [], alts := [], laidByText := true, laidKinds := [.data, .data, .data], laidTests := true, laidLooks := .later }
def WholeNativeUptoCardSaid : Prop := Claim7.holds Tryd.pinned (.plain (OpenSpec.upto wholeNativeSpec)) wholeNativeUptoCard

/-- THE SECOND FORM's CARD OF 'verniertop.WholeCasts'. -/
def wholeCastsUptoCard : Claim7 := { stood := { row := wholeCastsUptoRow, standIns := [], harness := (true, "17f2b895513386a68db9a58458c6d881e04b678a08b4f37eb41a5d186cdf9974"), looks := false }, kinds := [], alts := [], laidByText := true, laidKinds := [.data, .data, .data], laidTests := true, laidLooks := .later }
def WholeCastsUptoCardSaid : Prop := Claim7.holds Tryd.pinned (.plain (OpenSpec.upto wholeCastsSpec)) wholeCastsUptoCard
end Rows
end Go.Proofs.YtoeedodjldlalaaDoor
