/-
  DERIVED. GIVEN WITH THE SEED: THE CARDS: each row of YtkcnbnilekfhdaaDoorRows.lean that lists a variable, with what it lists TIED to the program's text (the seventh form; the later family's looks); each row that meets fmt, with fmt's text TOLD by the authors' own Lean function (tested against real Go, not proved from fmt's source: count such statements apart). THE CARD IS WHAT COUNTS. Prove the row's statement (the work); the ties are given (YtkcnbnilekfhdaaDoorTie.lean); close each card by the builder's one call (the guide's Derived/Test/ToyasCard.lean, 'card_holds'). Laid BY PROGRAM, IN A SANDBOX (cutbox-door.mjs). By AI agents, Wed Nov 11 2026. No macro, syntax, notation, axiom, sorry.
-/
import Derived.Test.YtkcnbnilekfhdaaDoorRows
import GoSem.ClaimSeven
namespace Go.Proofs.YtkcnbnilekfhdaaDoor
namespace Rows

/-- THE TIED CARD OF 'vernierlaw14.NarrowThere'. -/
def narrowThereCard : Claim7 := { stood := { row := narrowThereRow, standIns := [], harness := (true, "eba3699c7aca090ea4fc80fff90a3bda3b52f9a1c725d1ff3c66a32c5573d9f1"), looks := false }, kinds := [], alts := [], laidByText := true, laidKinds := [.data, .data], laidTests := true, laidLooks := .later }
def NarrowThereCardSaid : Prop := Claim7.holds Tryd.pinned (.plain (OpenSpec.ofChange narrowThereSpec)) narrowThereCard

/-- THE TIED CARD OF 'vernierlaw14.NarrowOrder'. -/
def narrowOrderCard : Claim7 := { stood := { row := narrowOrderRow, standIns := [], harness := (true, "eba3699c7aca090ea4fc80fff90a3bda3b52f9a1c725d1ff3c66a32c5573d9f1"), looks := false }, kinds := [], alts := [], laidByText := true, laidKinds := [.data, .data], laidTests := true, laidLooks := .later }
def NarrowOrderCardSaid : Prop := Claim7.holds Tryd.pinned (.plain (OpenSpec.ofChange narrowOrderSpec)) narrowOrderCard

/-- THE TIED CARD OF 'vernierlaw14.NarrowMachine'. -/
def narrowMachineCard : Claim7 := { stood := { row := narrowMachineRow, standIns := [], harness := (true, "eba3699c7aca090ea4fc80fff90a3bda3b52f9a1c725d1ff3c66a32c5573d9f1"), looks := false }, kinds := [], alts := [], laidByText := true, laidKinds := [.data, .data], laidTests := true, laidLooks := .later }
def NarrowMachineCardSaid : Prop := Claim7.holds Tryd.pinned (.plain (OpenSpec.ofChange narrowMachineSpec)) narrowMachineCard

/-- THE TIED CARD OF 'vernierlaw14.NarrowAll'. -/
def narrowAllCard : Claim7 := { stood := { row := narrowAllRow, standIns := [], harness := (true, "eba3699c7aca090ea4fc80fff90a3bda3b52f9a1c725d1ff3c66a32c5573d9f1"), looks := false }, kinds := [], alts := [], laidByText := true, laidKinds := [.data, .data], laidTests := true, laidLooks := .later }
def NarrowAllCardSaid : Prop := Claim7.holds Tryd.pinned (.plain (OpenSpec.ofChange narrowAllSpec)) narrowAllCard

/-- THE TIED CARD OF 'vernierlaw14.NarrowOdd'. -/
def narrowOddCard : Claim7 := { stood := { row := narrowOddRow, standIns := [], harness := (true, "eba3699c7aca090ea4fc80fff90a3bda3b52f9a1c725d1ff3c66a32c5573d9f1"), looks := false }, kinds := [], alts := [], laidByText := true, laidKinds := [.data, .data], laidTests := true, laidLooks := .later }
def NarrowOddCardSaid : Prop := Claim7.holds Tryd.pinned (.plain (OpenSpec.ofChange narrowOddSpec)) narrowOddCard

/-- THE TIED CARD OF 'vernierlaw08.DivKinds'. -/
def divKindsCard : Claim7 := { stood := { row := divKindsRow, standIns := [], harness := (true, "eba3699c7aca090ea4fc80fff90a3bda3b52f9a1c725d1ff3c66a32c5573d9f1"), looks := false }, kinds := [], alts := [], laidByText := true, laidKinds := [.data, .data], laidTests := true, laidLooks := .later }
def DivKindsCardSaid : Prop := Claim7.holds Tryd.pinned (.plain (OpenSpec.ofChange divKindsSpec)) divKindsCard

/-- THE TIED CARD OF 'vernierlaw08.DivOne'. -/
def divOneCard : Claim7 := { stood := { row := divOneRow, standIns := [], harness := (true, "eba3699c7aca090ea4fc80fff90a3bda3b52f9a1c725d1ff3c66a32c5573d9f1"), looks := false }, kinds := [], alts := [], laidByText := true, laidKinds := [.data, .data], laidTests := true, laidLooks := .later }
def DivOneCardSaid : Prop := Claim7.holds Tryd.pinned (.plain (OpenSpec.ofChange divOneSpec)) divOneCard

/-- THE TIED CARD OF 'vernierlaw08.DivBack'. -/
def divBackCard : Claim7 := { stood := { row := divBackRow, standIns := [], harness := (true, "eba3699c7aca090ea4fc80fff90a3bda3b52f9a1c725d1ff3c66a32c5573d9f1"), looks := false }, kinds := [], alts := [], laidByText := true, laidKinds := [.data, .data], laidTests := true, laidLooks := .later }
def DivBackCardSaid : Prop := Claim7.holds Tryd.pinned (.plain (OpenSpec.ofChange divBackSpec)) divBackCard

/-- THE TIED CARD OF 'vernierlaw11.RemAll'. -/
def remAllCard : Claim7 := { stood := { row := remAllRow, standIns := [], harness := (true, "eba3699c7aca090ea4fc80fff90a3bda3b52f9a1c725d1ff3c66a32c5573d9f1"), looks := false }, kinds := [], alts := [], laidByText := true, laidKinds := [.data, .data], laidTests := true, laidLooks := .later }
def RemAllCardSaid : Prop := Claim7.holds Tryd.pinned (.plain (OpenSpec.ofChange remAllSpec)) remAllCard

/-- THE TIED CARD OF 'vernierlaw11.RemKinds'. -/
def remKindsCard : Claim7 := { stood := { row := remKindsRow, standIns := [], harness := (true, "eba3699c7aca090ea4fc80fff90a3bda3b52f9a1c725d1ff3c66a32c5573d9f1"), looks := false }, kinds := [], alts := [], laidByText := true, laidKinds := [.data, .data], laidTests := true, laidLooks := .later }
def RemKindsCardSaid : Prop := Claim7.holds Tryd.pinned (.plain (OpenSpec.ofChange remKindsSpec)) remKindsCard

/-- THE TIED CARD OF 'vernierlaw11.RemSigns'. -/
def remSignsCard : Claim7 := { stood := { row := remSignsRow, standIns := [], harness := (true, "eba3699c7aca090ea4fc80fff90a3bda3b52f9a1c725d1ff3c66a32c5573d9f1"), looks := false }, kinds := [], alts := [], laidByText := true, laidKinds := [.data, .data], laidTests := true, laidLooks := .later }
def RemSignsCardSaid : Prop := Claim7.holds Tryd.pinned (.plain (OpenSpec.ofChange remSignsSpec)) remSignsCard

/-- THE SECOND FORM's CARD OF 'vernierlaw14.NarrowThere'. -/
def narrowThereUptoCard : Claim7 := { stood := { row := narrowThereUptoRow, standIns := [], harness := (true, "eba3699c7aca090ea4fc80fff90a3bda3b52f9a1c725d1ff3c66a32c5573d9f1"), looks := false }, kinds := [], alts := [], laidByText := true, laidKinds := [.data, .data], laidTests := true, laidLooks := .later }
def NarrowThereUptoCardSaid : Prop := Claim7.holds Tryd.pinned (.plain (OpenSpec.upto narrowThereSpec)) narrowThereUptoCard

/-- THE SECOND FORM's CARD OF 'vernierlaw14.NarrowOrder'. -/
def narrowOrderUptoCard : Claim7 := { stood := { row := narrowOrderUptoRow, standIns := [], harness := (true, "eba3699c7aca090ea4fc80fff90a3bda3b52f9a1c725d1ff3c66a32c5573d9f1"), looks := false }, kinds := [], alts := [], laidByText := true, laidKinds := [.data, .data], laidTests := true, laidLooks := .later }
def NarrowOrderUptoCardSaid : Prop := Claim7.holds Tryd.pinned (.plain (OpenSpec.upto narrowOrderSpec)) narrowOrderUptoCard

/-- THE SECOND FORM's CARD OF 'vernierlaw14.NarrowMachine'. -/
def narrowMachineUptoCard : Claim7 := { stood := { row := narrowMachineUptoRow, standIns := [], harness := (true, "eba3699c7aca090ea4fc80fff90a3bda3b52f9a1c725d1ff3c66a32c5573d9f1"), looks := false }, kinds := [], alts := [], laidByText := true, laidKinds := [.data, .data], laidTests := true, laidLooks := .later }
def NarrowMachineUptoCardSaid : Prop := Claim7.holds Tryd.pinned (.plain (OpenSpec.upto narrowMachineSpec)) narrowMachineUptoCard

/-- THE SECOND FORM's CARD OF 'vernierlaw14.NarrowAll'. -/
def narrowAllUptoCard : Claim7 := { stood := { row := narrowAllUptoRow, standIns := [], harness := (true, "eba3699c7aca090ea4fc80fff90a3bda3b52f9a1c725d1ff3c66a32c5573d9f1"), looks := false }, kinds := [], alts := [], laidByText := true, laidKinds := [.data, .data], laidTests := true, laidLooks := .later }
def NarrowAllUptoCardSaid : Prop := Claim7.holds Tryd.pinned (.plain (OpenSpec.upto narrowAllSpec)) narrowAllUptoCard

/-- THE SECOND FORM's CARD OF 'vernierlaw14.NarrowOdd'. -/
def narrowOddUptoCard : Claim7 := { stood := { row := narrowOddUptoRow, standIns := [], harness := (true, "eba3699c7aca090ea4fc80fff90a3bda3b52f9a1c725d1ff3c66a32c5573d9f1"), looks := false }, kinds := [], alts := [], laidByText := true, laidKinds := [.data, .data], laidTests := true, laidLooks := .later }
def NarrowOddUptoCardSaid : Prop := Claim7.holds Tryd.pinned (.plain (OpenSpec.upto narrowOddSpec)) narrowOddUptoCard

/-- THE SECOND FORM's CARD OF 'vernierlaw08.DivKinds'. -/
def divKindsUptoCard : Claim7 := { stood := { row := divKindsUptoRow, standIns := [], harness := (true, "eba3699c7aca090ea4fc80fff90a3bda3b52f9a1c725d1ff3c66a32c5573d9f1"), looks := false }, kinds := [], alts := [], laidByText := true, laidKinds := [.data, .data], laidTests := true, laidLooks := .later }
def DivKindsUptoCardSaid : Prop := Claim7.holds Tryd.pinned (.plain (OpenSpec.upto divKindsSpec)) divKindsUptoCard

/-- THE SECOND FORM's CARD OF 'vernierlaw08.DivOne'. -/
def divOneUptoCard : Claim7 := { stood := { row := divOneUptoRow, standIns := [], harness := (true, "eba3699c7aca090ea4fc80fff90a3bda3b52f9a1c725d1ff3c66a32c5573d9f1"), looks := false }, kinds := [], alts := [], laidByText := true, laidKinds := [.data, .data], laidTests := true, laidLooks := .later }
def DivOneUptoCardSaid : Prop := Claim7.holds Tryd.pinned (.plain (OpenSpec.upto divOneSpec)) divOneUptoCard

/-- THE SECOND FORM's CARD OF 'vernierlaw08.DivBack'. -/
def divBackUptoCard : Claim7 := { stood := { row := divBackUptoRow, standIns := [], harness := (true, "eba3699c7aca090ea4fc80fff90a3bda3b52f9a1c725d1ff3c66a32c5573d9f1"), looks := false }, kinds := [], alts := [], laidByText := true, laidKinds := [.data, .data], laidTests := true, laidLooks := .later }
def DivBackUptoCardSaid : Prop := Claim7.holds Tryd.pinned (.plain (OpenSpec.upto divBackSpec)) divBackUptoCard

/-- THE SECOND FORM's CARD OF 'vernierlaw11.RemAll'. -/
def remAllUptoCard : Claim7 := { stood := { row := remAllUptoRow, standIns := [], harness := (true, "eba3699c7aca090ea4fc80fff90a3bda3b52f9a1c725d1ff3c66a32c5573d9f1"), looks := false }, kinds := [], alts := [], laidByText := true, laidKinds := [.data, .data], laidTests := true, laidLooks := .later }
def RemAllUptoCardSaid : Prop := Claim7.holds Tryd.pinned (.plain (OpenSpec.upto remAllSpec)) remAllUptoCard

/-- THE SECOND FORM's CARD OF 'vernierlaw11.RemKinds'. -/
def remKindsUptoCard : Claim7 := { stood := { row := remKindsUptoRow, standIns := [], harness := (true, "eba3699c7aca090ea4fc80fff90a3bda3b52f9a1c725d1ff3c66a32c5573d9f1"), looks := false }, kinds := [], alts := [], laidByText := true, laidKinds := [.data, .data], laidTests := true, laidLooks := .later }
def RemKindsUptoCardSaid : Prop := Claim7.holds Tryd.pinned (.plain (OpenSpec.upto remKindsSpec)) remKindsUptoCard

/-- THE SECOND FORM's CARD OF 'vernierlaw11.RemSigns'. -/
def remSignsUptoCard : Claim7 := { stood := { row := remSignsUptoRow, standIns := [], harness := (true, "eba3699c7aca090ea4fc80fff90a3bda3b52f9a1c725d1ff3c66a32c5573d9f1"), looks := false }, kinds := [], alts := [], laidByText := true, laidKinds := [.data, .data], laidTests := true, laidLooks := .later }
def RemSignsUptoCardSaid : Prop := Claim7.holds Tryd.pinned (.plain (OpenSpec.upto remSignsSpec)) remSignsUptoCard
end Rows
end Go.Proofs.YtkcnbnilekfhdaaDoor
