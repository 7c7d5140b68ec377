/-
  DERIVED. GIVEN WITH THE SEED: THE CARDS: each row of YtdhndlcijpgjgaaDoorRows.lean that lists a variable, with what it lists TIED to the program's text (the seventh form; the later family's looks); each row that meets fmt, with fmt's text TOLD by the authors' own Lean function (tested against real Go, not proved from fmt's source: count such statements apart). THE CARD IS WHAT COUNTS. Prove the row's statement (the work); the ties are given (YtdhndlcijpgjgaaDoorTie.lean); close each card by the builder's one call (the guide's Derived/Test/ToyasCard.lean, 'card_holds'). Laid BY PROGRAM, IN A SANDBOX (cutbox-door.mjs). By AI agents, Wed Nov 11 2026. No macro, syntax, notation, axiom, sorry.
-/
import Derived.Test.YtdhndlcijpgjgaaDoorRows
import GoSem.ClaimSeven
namespace Go.Proofs.YtdhndlcijpgjgaaDoor
namespace Rows

/-- THE TIED CARD OF 'vernierlaw02.NatRoots'. -/
def natRootsCard : Claim7 := { stood := { row := natRootsRow, standIns := [], harness := (true, "d367ca0213cdfc59ebab917b16bb26c6ec03bfe68a7c7ad412641b4f14f21d5e"), looks := false }, kinds := [], alts := [], laidByText := true, laidKinds := [.data], laidTests := true, laidLooks := .later }
def NatRootsCardSaid : Prop := Claim7.holds Tryd.pinned (.plain (OpenSpec.ofChange natRootsSpec)) natRootsCard

/-- THE TIED CARD OF 'vernierlaw02.NatSimple'. -/
def natSimpleCard : Claim7 := { stood := { row := natSimpleRow, standIns := [], harness := (true, "d367ca0213cdfc59ebab917b16bb26c6ec03bfe68a7c7ad412641b4f14f21d5e"), looks := false }, kinds := [], alts := [], laidByText := true, laidKinds := [.data], laidTests := true, laidLooks := .later }
def NatSimpleCardSaid : Prop := Claim7.holds Tryd.pinned (.plain (OpenSpec.ofChange natSimpleSpec)) natSimpleCard

/-- THE TIED CARD OF 'vernierlaw02.NatProducts'. -/
def natProductsCard : Claim7 := { stood := { row := natProductsRow, standIns := [], harness := (true, "d367ca0213cdfc59ebab917b16bb26c6ec03bfe68a7c7ad412641b4f14f21d5e"), looks := false }, kinds := [], alts := [], laidByText := true, laidKinds := [.data], laidTests := true, laidLooks := .later }
def NatProductsCardSaid : Prop := Claim7.holds Tryd.pinned (.plain (OpenSpec.ofChange natProductsSpec)) natProductsCard

/-- THE TIED CARD OF 'vernierlaw02.NatOthers'. -/
def natOthersCard : Claim7 := { stood := { row := natOthersRow, standIns := [], harness := (true, "d367ca0213cdfc59ebab917b16bb26c6ec03bfe68a7c7ad412641b4f14f21d5e"), looks := false }, kinds := [], alts := [], laidByText := true, laidKinds := [.data], laidTests := true, laidLooks := .later }
def NatOthersCardSaid : Prop := Claim7.holds Tryd.pinned (.plain (OpenSpec.ofChange natOthersSpec)) natOthersCard

/-- THE TIED CARD OF 'vernierlaw02.NatMemory'. -/
def natMemoryCard : Claim7 := { stood := { row := natMemoryRow, standIns := [], harness := (true, "d367ca0213cdfc59ebab917b16bb26c6ec03bfe68a7c7ad412641b4f14f21d5e"), looks := false }, kinds := [], alts := [], laidByText := true, laidKinds := [.data], laidTests := true, laidLooks := .later }
def NatMemoryCardSaid : Prop := Claim7.holds Tryd.pinned (.plain (OpenSpec.ofChange natMemorySpec)) natMemoryCard

/-- THE SECOND FORM's CARD OF 'vernierlaw02.NatRoots'. -/
def natRootsUptoCard : Claim7 := { stood := { row := natRootsUptoRow, standIns := [], harness := (true, "d367ca0213cdfc59ebab917b16bb26c6ec03bfe68a7c7ad412641b4f14f21d5e"), looks := false }, kinds := [], alts := [], laidByText := true, laidKinds := [.data], laidTests := true, laidLooks := .later }
def NatRootsUptoCardSaid : Prop := Claim7.holds Tryd.pinned (.plain (OpenSpec.upto natRootsSpec)) natRootsUptoCard

/-- THE SECOND FORM's CARD OF 'vernierlaw02.NatSimple'. -/
def natSimpleUptoCard : Claim7 := { stood := { row := natSimpleUptoRow, standIns := [], harness := (true, "d367ca0213cdfc59ebab917b16bb26c6ec03bfe68a7c7ad412641b4f14f21d5e"), looks := false }, kinds := [], alts := [], laidByText := true, laidKinds := [.data], laidTests := true, laidLooks := .later }
def NatSimpleUptoCardSaid : Prop := Claim7.holds Tryd.pinned (.plain (OpenSpec.upto natSimpleSpec)) natSimpleUptoCard

/-- THE SECOND FORM's CARD OF 'vernierlaw02.NatProducts'. -/
def natProductsUptoCard : Claim7 := { stood := { row := natProductsUptoRow, standIns := [], harness := (true, "d367ca0213cdfc59ebab917b16bb26c6ec03bfe68a7c7ad412641b4f14f21d5e"), looks := false }, kinds := [], alts := [], laidByText := true, laidKinds := [.data], laidTests := true, laidLooks := .later }
def NatProductsUptoCardSaid : Prop := Claim7.holds Tryd.pinned (.plain (OpenSpec.upto natProductsSpec)) natProductsUptoCard

/-- THE SECOND FORM's CARD OF 'vernierlaw02.NatOthers'. -/
def natOthersUptoCard : Claim7 := { stood := { row := natOthersUptoRow, standIns := [], harness := (true, "d367ca0213cdfc59ebab917b16bb26c6ec03bfe68a7c7ad412641b4f14f21d5e"), looks := false }, kinds := [], alts := [], laidByText := true, laidKinds := [.data], laidTests := true, laidLooks := .later }
def NatOthersUptoCardSaid : Prop := Claim7.holds Tryd.pinned (.plain (OpenSpec.upto natOthersSpec)) natOthersUptoCard

/-- THE SECOND FORM's CARD OF 'vernierlaw02.NatMemory'. -/
def natMemoryUptoCard : Claim7 := { stood := { row := natMemoryUptoRow, standIns := [], harness := (true, "d367ca0213cdfc59ebab917b16bb26c6ec03bfe68a7c7ad412641b4f14f21d5e"), looks := false }, kinds := [], alts := [], laidByText := true, laidKinds := [.data], laidTests := true, laidLooks := .later }
def NatMemoryUptoCardSaid : Prop := Claim7.holds Tryd.pinned (.plain (OpenSpec.upto natMemorySpec)) natMemoryUptoCard
end Rows
end Go.Proofs.YtdhndlcijpgjgaaDoor
