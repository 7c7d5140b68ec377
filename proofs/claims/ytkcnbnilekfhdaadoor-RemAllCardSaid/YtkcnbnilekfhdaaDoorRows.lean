/-
  NARROWER THAN 'FOR EVERY INPUT', by the rows' own cells (each row's printed sentence says how): NarrowThere: laid · NarrowOrder: laid · NarrowMachine: laid · NarrowAll: laid · NarrowOdd: laid · DivKinds: laid · DivOne: laid · DivBack: laid · RemAll: laid · RemKinds: laid · RemSigns: laid.
  DERIVED. THE GIVEN ROWS OF THIS SEAT. 11 by the template 'for every input the law returns true; each argument reads behind the call as it read before'; 0 by the template 'total and deterministic' (their statements: YtkcnbnilekfhdaaDoorTotals.lean).
  GIVEN WITH THE SEED: the statements are not yours to turn. If you find one false, say at which input.
  Laid BY PROGRAM, IN A SANDBOX (cutbox-rows.mjs): the forced cells as the released guide's own fill.sh prints them over the translation b54bd730a675fd25… (all of the seat's roots in one cut). By AI agents, Wed Nov 11 2026. No macro, syntax, notation, axiom, sorry.
-/
import Derived.Test.YtkcnbnilekfhdaaDoorChecked
import GoSem.Claim
import GoSem.ClaimJoined
import GoSem.ClaimMapViews
import Derived.JoinedTies
import Derived.KernelRfl
namespace Go.Proofs.YtkcnbnilekfhdaaDoor
/- THE CELL 'sum', in the pinned program and in every row, IS THE sha256 OF THE DUMP (.gsa) THAT YtkcnbnilekfhdaaDoorProg.lean LOADS. Nothing in Lean hashes anything: it is a label: what it is worth is what the hold of that sum in a sandbox is worth. -/
noncomputable def Tryd.pinned : Pinned := { name := "ytkcnbnilekfhdaadoor", sum := "b54bd730a675fd25b23316c7015abee92e404936b9962c9da826e4f46e80fa5c", checked := Tryd.checked }
namespace Rows
def none {H : Type} : Left H := { results := [], args := [] }

/- WHAT THE LISTED PACKAGE-LEVEL VARIABLES READ AS WHEN THE CALL BEGINS. Each datum BY PROGRAM (the guide's laid-datum.mjs) off the statement by which the dump's own 'gosem.cut.vars' lays the variable. In a bare row this is a premise. The card (YtkcnbnilekfhdaaDoorCards.lean) ties it to the program's text. -/
def laid_math_bits_deBruijn64tab {H : Type} : DataW H := .agg [.lit (.int .u8 0), .lit (.int .u8 1), .lit (.int .u8 56), .lit (.int .u8 2), .lit (.int .u8 57), .lit (.int .u8 49), .lit (.int .u8 28), .lit (.int .u8 3), .lit (.int .u8 61), .lit (.int .u8 58), .lit (.int .u8 42), .lit (.int .u8 50), .lit (.int .u8 38), .lit (.int .u8 29), .lit (.int .u8 17), .lit (.int .u8 4), .lit (.int .u8 62), .lit (.int .u8 47), .lit (.int .u8 59), .lit (.int .u8 36), .lit (.int .u8 45), .lit (.int .u8 43), .lit (.int .u8 51), .lit (.int .u8 22), .lit (.int .u8 53), .lit (.int .u8 39), .lit (.int .u8 33), .lit (.int .u8 30), .lit (.int .u8 24), .lit (.int .u8 18), .lit (.int .u8 12), .lit (.int .u8 5), .lit (.int .u8 63), .lit (.int .u8 55), .lit (.int .u8 48), .lit (.int .u8 27), .lit (.int .u8 60), .lit (.int .u8 41), .lit (.int .u8 37), .lit (.int .u8 16), .lit (.int .u8 46), .lit (.int .u8 35), .lit (.int .u8 44), .lit (.int .u8 21), .lit (.int .u8 52), .lit (.int .u8 32), .lit (.int .u8 23), .lit (.int .u8 11), .lit (.int .u8 54), .lit (.int .u8 26), .lit (.int .u8 40), .lit (.int .u8 15), .lit (.int .u8 34), .lit (.int .u8 20), .lit (.int .u8 31), .lit (.int .u8 10), .lit (.int .u8 25), .lit (.int .u8 14), .lit (.int .u8 19), .lit (.int .u8 9), .lit (.int .u8 13), .lit (.int .u8 8), .lit (.int .u8 7), .lit (.int .u8 6)]
def laid_vernier_format_rows {H : Type} : DataW H := .agg [.agg [.lit (.int .i64 16), .lit (.int .i64 11), .lit (.int .i64 (-14)), .lit (.int .i64 15)], .agg [.lit (.int .i64 16), .lit (.int .i64 8), .lit (.int .i64 (-126)), .lit (.int .i64 127)], .agg [.lit (.int .i64 32), .lit (.int .i64 24), .lit (.int .i64 (-126)), .lit (.int .i64 127)], .agg [.lit (.int .i64 64), .lit (.int .i64 53), .lit (.int .i64 (-1022)), .lit (.int .i64 1023)]]

/-- 'vernierlaw14.NarrowThere': WHATEVER THE INPUT: true; the input reads as it did. -/
def narrowThereSpec : ChangeSpec := { name := "narrowThere", fn := fun _ => fun
  | [d] => { results := [.lit (.bool true)], args := [d] }
  | _ => none }
def narrowThereRow : OpenClaim := { program := "ytkcnbnilekfhdaadoor", sum := "b54bd730a675fd25b23316c7015abee92e404936b9962c9da826e4f46e80fa5c", func := "vernier/vernierlaw14.NarrowThere", spec := "narrowThere", inPlace := ["math/bits.Add64"], unfollowed := true, recurses := true, named := ["vernier/format.rows", "math/bits.deBruijn64tab"], apart := false, laid := [("math/bits.deBruijn64tab", laid_math_bits_deBruijn64tab), ("vernier/format.rows", laid_vernier_format_rows)] }
def NarrowThereSaid : Prop := narrowThereRow.holds Tryd.pinned (OpenSpec.ofChange narrowThereSpec)

/-- ITS FALSE NEIGHBOUR: 'it returns false'. Refute it at one input. -/
def narrowThereWrong : ChangeSpec := { name := "narrowThere", fn := fun _ => fun
  | [d] => { results := [.lit (.bool false)], args := [d] }
  | _ => none }
def NarrowThereWrongFalsely : Prop := narrowThereRow.holds Tryd.pinned (OpenSpec.ofChange narrowThereWrong)

/-- 'vernierlaw14.NarrowOrder': WHATEVER THE INPUT: true; the input reads as it did. -/
def narrowOrderSpec : ChangeSpec := { name := "narrowOrder", fn := fun _ => fun
  | [d1, d2] => { results := [.lit (.bool true)], args := [d1, d2] }
  | _ => none }
def narrowOrderRow : OpenClaim := { program := "ytkcnbnilekfhdaadoor", sum := "b54bd730a675fd25b23316c7015abee92e404936b9962c9da826e4f46e80fa5c", func := "vernier/vernierlaw14.NarrowOrder", spec := "narrowOrder", inPlace := ["math/bits.Add64"], unfollowed := true, recurses := true, named := ["vernier/format.rows", "math/bits.deBruijn64tab"], apart := false, laid := [("math/bits.deBruijn64tab", laid_math_bits_deBruijn64tab), ("vernier/format.rows", laid_vernier_format_rows)] }
def NarrowOrderSaid : Prop := narrowOrderRow.holds Tryd.pinned (OpenSpec.ofChange narrowOrderSpec)

/-- ITS FALSE NEIGHBOUR: 'it returns false'. Refute it at one input. -/
def narrowOrderWrong : ChangeSpec := { name := "narrowOrder", fn := fun _ => fun
  | [d1, d2] => { results := [.lit (.bool false)], args := [d1, d2] }
  | _ => none }
def NarrowOrderWrongFalsely : Prop := narrowOrderRow.holds Tryd.pinned (OpenSpec.ofChange narrowOrderWrong)

/-- 'vernierlaw14.NarrowMachine': WHATEVER THE INPUT: true; the input reads as it did. -/
def narrowMachineSpec : ChangeSpec := { name := "narrowMachine", fn := fun _ => fun
  | [d] => { results := [.lit (.bool true)], args := [d] }
  | _ => none }
def narrowMachineRow : OpenClaim := { program := "ytkcnbnilekfhdaadoor", sum := "b54bd730a675fd25b23316c7015abee92e404936b9962c9da826e4f46e80fa5c", func := "vernier/vernierlaw14.NarrowMachine", spec := "narrowMachine", inPlace := ["math/bits.Add64", "math.Float64frombits", "math.Float32bits", "math.Float64bits"], unfollowed := true, recurses := true, named := ["vernier/format.rows", "math/bits.deBruijn64tab"], apart := false, laid := [("math/bits.deBruijn64tab", laid_math_bits_deBruijn64tab), ("vernier/format.rows", laid_vernier_format_rows)] }
def NarrowMachineSaid : Prop := narrowMachineRow.holds Tryd.pinned (OpenSpec.ofChange narrowMachineSpec)

/-- ITS FALSE NEIGHBOUR: 'it returns false'. Refute it at one input. -/
def narrowMachineWrong : ChangeSpec := { name := "narrowMachine", fn := fun _ => fun
  | [d] => { results := [.lit (.bool false)], args := [d] }
  | _ => none }
def NarrowMachineWrongFalsely : Prop := narrowMachineRow.holds Tryd.pinned (OpenSpec.ofChange narrowMachineWrong)

/-- 'vernierlaw14.NarrowAll': WHATEVER THE INPUT: true; the input reads as it did. -/
def narrowAllSpec : ChangeSpec := { name := "narrowAll", fn := fun _ => fun
  | [d] => { results := [.lit (.bool true)], args := [d] }
  | _ => none }
def narrowAllRow : OpenClaim := { program := "ytkcnbnilekfhdaadoor", sum := "b54bd730a675fd25b23316c7015abee92e404936b9962c9da826e4f46e80fa5c", func := "vernier/vernierlaw14.NarrowAll", spec := "narrowAll", inPlace := ["math/bits.Add64"], unfollowed := true, recurses := true, named := ["vernier/format.rows", "math/bits.deBruijn64tab"], apart := false, laid := [("math/bits.deBruijn64tab", laid_math_bits_deBruijn64tab), ("vernier/format.rows", laid_vernier_format_rows)] }
def NarrowAllSaid : Prop := narrowAllRow.holds Tryd.pinned (OpenSpec.ofChange narrowAllSpec)

/-- ITS FALSE NEIGHBOUR: 'it returns false'. Refute it at one input. -/
def narrowAllWrong : ChangeSpec := { name := "narrowAll", fn := fun _ => fun
  | [d] => { results := [.lit (.bool false)], args := [d] }
  | _ => none }
def NarrowAllWrongFalsely : Prop := narrowAllRow.holds Tryd.pinned (OpenSpec.ofChange narrowAllWrong)

/-- 'vernierlaw14.NarrowOdd': WHATEVER THE INPUT: true; the input reads as it did. -/
def narrowOddSpec : ChangeSpec := { name := "narrowOdd", fn := fun _ => fun
  | [d] => { results := [.lit (.bool true)], args := [d] }
  | _ => none }
def narrowOddRow : OpenClaim := { program := "ytkcnbnilekfhdaadoor", sum := "b54bd730a675fd25b23316c7015abee92e404936b9962c9da826e4f46e80fa5c", func := "vernier/vernierlaw14.NarrowOdd", spec := "narrowOdd", inPlace := ["math/bits.Add64"], unfollowed := true, recurses := true, named := ["vernier/format.rows", "math/bits.deBruijn64tab"], apart := false, laid := [("math/bits.deBruijn64tab", laid_math_bits_deBruijn64tab), ("vernier/format.rows", laid_vernier_format_rows)] }
def NarrowOddSaid : Prop := narrowOddRow.holds Tryd.pinned (OpenSpec.ofChange narrowOddSpec)

/-- ITS FALSE NEIGHBOUR: 'it returns false'. Refute it at one input. -/
def narrowOddWrong : ChangeSpec := { name := "narrowOdd", fn := fun _ => fun
  | [d] => { results := [.lit (.bool false)], args := [d] }
  | _ => none }
def NarrowOddWrongFalsely : Prop := narrowOddRow.holds Tryd.pinned (OpenSpec.ofChange narrowOddWrong)

/-- 'vernierlaw08.DivKinds': WHATEVER THE INPUT: true; the input reads as it did. -/
def divKindsSpec : ChangeSpec := { name := "divKinds", fn := fun _ => fun
  | [d] => { results := [.lit (.bool true)], args := [d] }
  | _ => none }
def divKindsRow : OpenClaim := { program := "ytkcnbnilekfhdaadoor", sum := "b54bd730a675fd25b23316c7015abee92e404936b9962c9da826e4f46e80fa5c", func := "vernier/vernierlaw08.DivKinds", spec := "divKinds", inPlace := ["math/bits.Add64", "math/bits.Sub64"], unfollowed := true, recurses := true, named := ["vernier/format.rows", "math/bits.deBruijn64tab", "math/bits.divideError", "math/bits.overflowError"], apart := false, laid := [("math/bits.deBruijn64tab", laid_math_bits_deBruijn64tab), ("vernier/format.rows", laid_vernier_format_rows)] }
def DivKindsSaid : Prop := divKindsRow.holds Tryd.pinned (OpenSpec.ofChange divKindsSpec)

/-- ITS FALSE NEIGHBOUR: 'it returns false'. Refute it at one input. -/
def divKindsWrong : ChangeSpec := { name := "divKinds", fn := fun _ => fun
  | [d] => { results := [.lit (.bool false)], args := [d] }
  | _ => none }
def DivKindsWrongFalsely : Prop := divKindsRow.holds Tryd.pinned (OpenSpec.ofChange divKindsWrong)

/-- 'vernierlaw08.DivOne': WHATEVER THE INPUT: true; the input reads as it did. -/
def divOneSpec : ChangeSpec := { name := "divOne", fn := fun _ => fun
  | [d] => { results := [.lit (.bool true)], args := [d] }
  | _ => none }
def divOneRow : OpenClaim := { program := "ytkcnbnilekfhdaadoor", sum := "b54bd730a675fd25b23316c7015abee92e404936b9962c9da826e4f46e80fa5c", func := "vernier/vernierlaw08.DivOne", spec := "divOne", inPlace := ["math/bits.Add64", "math/bits.Sub64"], unfollowed := true, recurses := true, named := ["vernier/format.rows", "math/bits.deBruijn64tab", "math/bits.divideError", "math/bits.overflowError"], apart := false, laid := [("math/bits.deBruijn64tab", laid_math_bits_deBruijn64tab), ("vernier/format.rows", laid_vernier_format_rows)] }
def DivOneSaid : Prop := divOneRow.holds Tryd.pinned (OpenSpec.ofChange divOneSpec)

/-- ITS FALSE NEIGHBOUR: 'it returns false'. Refute it at one input. -/
def divOneWrong : ChangeSpec := { name := "divOne", fn := fun _ => fun
  | [d] => { results := [.lit (.bool false)], args := [d] }
  | _ => none }
def DivOneWrongFalsely : Prop := divOneRow.holds Tryd.pinned (OpenSpec.ofChange divOneWrong)

/-- 'vernierlaw08.DivBack': WHATEVER THE INPUT: true; the input reads as it did. -/
def divBackSpec : ChangeSpec := { name := "divBack", fn := fun _ => fun
  | [d1, d2, d3] => { results := [.lit (.bool true)], args := [d1, d2, d3] }
  | _ => none }
def divBackRow : OpenClaim := { program := "ytkcnbnilekfhdaadoor", sum := "b54bd730a675fd25b23316c7015abee92e404936b9962c9da826e4f46e80fa5c", func := "vernier/vernierlaw08.DivBack", spec := "divBack", inPlace := ["math/bits.Add64", "math/bits.Sub64"], unfollowed := true, recurses := true, named := ["vernier/format.rows", "math/bits.deBruijn64tab", "math/bits.divideError", "math/bits.overflowError"], apart := false, laid := [("math/bits.deBruijn64tab", laid_math_bits_deBruijn64tab), ("vernier/format.rows", laid_vernier_format_rows)] }
def DivBackSaid : Prop := divBackRow.holds Tryd.pinned (OpenSpec.ofChange divBackSpec)

/-- ITS FALSE NEIGHBOUR: 'it returns false'. Refute it at one input. -/
def divBackWrong : ChangeSpec := { name := "divBack", fn := fun _ => fun
  | [d1, d2, d3] => { results := [.lit (.bool false)], args := [d1, d2, d3] }
  | _ => none }
def DivBackWrongFalsely : Prop := divBackRow.holds Tryd.pinned (OpenSpec.ofChange divBackWrong)

/-- 'vernierlaw11.RemAll': WHATEVER THE INPUT: true; the input reads as it did. -/
def remAllSpec : ChangeSpec := { name := "remAll", fn := fun _ => fun
  | [d] => { results := [.lit (.bool true)], args := [d] }
  | _ => none }
def remAllRow : OpenClaim := { program := "ytkcnbnilekfhdaadoor", sum := "b54bd730a675fd25b23316c7015abee92e404936b9962c9da826e4f46e80fa5c", func := "vernier/vernierlaw11.RemAll", spec := "remAll", inPlace := ["math/bits.Add64"], unfollowed := true, recurses := true, named := ["vernier/format.rows", "math/bits.deBruijn64tab", "math/bits.divideError", "math/bits.overflowError"], apart := false, laid := [("math/bits.deBruijn64tab", laid_math_bits_deBruijn64tab), ("vernier/format.rows", laid_vernier_format_rows)] }
def RemAllSaid : Prop := remAllRow.holds Tryd.pinned (OpenSpec.ofChange remAllSpec)

/-- ITS FALSE NEIGHBOUR: 'it returns false'. Refute it at one input. -/
def remAllWrong : ChangeSpec := { name := "remAll", fn := fun _ => fun
  | [d] => { results := [.lit (.bool false)], args := [d] }
  | _ => none }
def RemAllWrongFalsely : Prop := remAllRow.holds Tryd.pinned (OpenSpec.ofChange remAllWrong)

/-- 'vernierlaw11.RemKinds': WHATEVER THE INPUT: true; the input reads as it did. -/
def remKindsSpec : ChangeSpec := { name := "remKinds", fn := fun _ => fun
  | [d] => { results := [.lit (.bool true)], args := [d] }
  | _ => none }
def remKindsRow : OpenClaim := { program := "ytkcnbnilekfhdaadoor", sum := "b54bd730a675fd25b23316c7015abee92e404936b9962c9da826e4f46e80fa5c", func := "vernier/vernierlaw11.RemKinds", spec := "remKinds", inPlace := ["math/bits.Add64"], unfollowed := true, recurses := true, named := ["vernier/format.rows", "math/bits.deBruijn64tab", "math/bits.divideError", "math/bits.overflowError"], apart := false, laid := [("math/bits.deBruijn64tab", laid_math_bits_deBruijn64tab), ("vernier/format.rows", laid_vernier_format_rows)] }
def RemKindsSaid : Prop := remKindsRow.holds Tryd.pinned (OpenSpec.ofChange remKindsSpec)

/-- ITS FALSE NEIGHBOUR: 'it returns false'. Refute it at one input. -/
def remKindsWrong : ChangeSpec := { name := "remKinds", fn := fun _ => fun
  | [d] => { results := [.lit (.bool false)], args := [d] }
  | _ => none }
def RemKindsWrongFalsely : Prop := remKindsRow.holds Tryd.pinned (OpenSpec.ofChange remKindsWrong)

/-- 'vernierlaw11.RemSigns': WHATEVER THE INPUT: true; the input reads as it did. -/
def remSignsSpec : ChangeSpec := { name := "remSigns", fn := fun _ => fun
  | [d] => { results := [.lit (.bool true)], args := [d] }
  | _ => none }
def remSignsRow : OpenClaim := { program := "ytkcnbnilekfhdaadoor", sum := "b54bd730a675fd25b23316c7015abee92e404936b9962c9da826e4f46e80fa5c", func := "vernier/vernierlaw11.RemSigns", spec := "remSigns", inPlace := ["math/bits.Add64"], unfollowed := true, recurses := true, named := ["vernier/format.rows", "math/bits.deBruijn64tab", "math/bits.divideError", "math/bits.overflowError"], apart := false, laid := [("math/bits.deBruijn64tab", laid_math_bits_deBruijn64tab), ("vernier/format.rows", laid_vernier_format_rows)] }
def RemSignsSaid : Prop := remSignsRow.holds Tryd.pinned (OpenSpec.ofChange remSignsSpec)

/-- ITS FALSE NEIGHBOUR: 'it returns false'. Refute it at one input. -/
def remSignsWrong : ChangeSpec := { name := "remSigns", fn := fun _ => fun
  | [d] => { results := [.lit (.bool false)], args := [d] }
  | _ => none }
def RemSignsWrongFalsely : Prop := remSignsRow.holds Tryd.pinned (OpenSpec.ofChange remSignsWrong)

/- THE SECOND FORM. 'bulk': how many values and letters a reading holds, each counted each time it is reached (what is shared counts as often as it is met; a slice's spare places count too). A statement '..UptoSaid' is the law's where the arguments, and the package variables that the reading takes, are together of bulk at most 1048576: NARROWER than '..Said'. Prove '..Said' where nothing that the law and all that it calls make is longer than what came in: it says more and counts as full. Else prove '..UptoSaid'. A law counts once. -/
mutual
def uptoBulk {H : Type} : DataW H → Nat
  | .lit (.string bytes) => bytes.length + 1
  | .lit _ => 1
  | .nil => 1
  | .ptr d => uptoBulk d + 1
  | .slice elems spare => uptoBulkAll elems + uptoBulkAll spare + 1
  | .agg parts => uptoBulkAll parts + 1
  | .iface _ d => uptoBulk d + 1
  | .map entries => uptoBulkEntries entries + 1
  | .held _ => 1
def uptoBulkAll {H : Type} : List (DataW H) → Nat
  | [] => 0
  | d :: r => uptoBulk d + uptoBulkAll r
def uptoBulkEntries {H : Type} : List (Lit × DataW H) → Nat
  | [] => 0
  | x :: r => uptoBulkEntry x + uptoBulkEntries r
def uptoBulkEntry {H : Type} : Lit × DataW H → Nat
  | (.string bytes, d) => bytes.length + uptoBulk d + 1
  | (_, d) => uptoBulk d + 1
 end
def uptoSmall : (H : Type) → List (DataW H) → Bool := fun _ ds => decide (uptoBulkAll ds ≤ 1048576)
def OpenSpec.upto (s : _root_.Go.ChangeSpec) : _root_.Go.OpenSpec := { _root_.Go.OpenSpec.ofChange s with cond := some uptoSmall }

/-- 'vernierlaw14.NarrowThere', WHERE WHAT IT READS IS OF BULK AT MOST 1048576: true; the input reads as it did. -/
def narrowThereUptoRow : OpenClaim := { program := "ytkcnbnilekfhdaadoor", sum := "b54bd730a675fd25b23316c7015abee92e404936b9962c9da826e4f46e80fa5c", func := "vernier/vernierlaw14.NarrowThere", spec := "narrowThere", inPlace := ["math/bits.Add64"], unfollowed := true, recurses := true, named := ["vernier/format.rows", "math/bits.deBruijn64tab"], apart := false, laid := [("math/bits.deBruijn64tab", laid_math_bits_deBruijn64tab), ("vernier/format.rows", laid_vernier_format_rows)], narrowed := true }
def NarrowThereUptoSaid : Prop := narrowThereUptoRow.holds Tryd.pinned (OpenSpec.upto narrowThereSpec)

/-- 'vernierlaw14.NarrowOrder', WHERE WHAT IT READS IS OF BULK AT MOST 1048576: true; the input reads as it did. -/
def narrowOrderUptoRow : OpenClaim := { program := "ytkcnbnilekfhdaadoor", sum := "b54bd730a675fd25b23316c7015abee92e404936b9962c9da826e4f46e80fa5c", func := "vernier/vernierlaw14.NarrowOrder", spec := "narrowOrder", inPlace := ["math/bits.Add64"], unfollowed := true, recurses := true, named := ["vernier/format.rows", "math/bits.deBruijn64tab"], apart := false, laid := [("math/bits.deBruijn64tab", laid_math_bits_deBruijn64tab), ("vernier/format.rows", laid_vernier_format_rows)], narrowed := true }
def NarrowOrderUptoSaid : Prop := narrowOrderUptoRow.holds Tryd.pinned (OpenSpec.upto narrowOrderSpec)

/-- 'vernierlaw14.NarrowMachine', WHERE WHAT IT READS IS OF BULK AT MOST 1048576: true; the input reads as it did. -/
def narrowMachineUptoRow : OpenClaim := { program := "ytkcnbnilekfhdaadoor", sum := "b54bd730a675fd25b23316c7015abee92e404936b9962c9da826e4f46e80fa5c", func := "vernier/vernierlaw14.NarrowMachine", spec := "narrowMachine", inPlace := ["math/bits.Add64", "math.Float64frombits", "math.Float32bits", "math.Float64bits"], unfollowed := true, recurses := true, named := ["vernier/format.rows", "math/bits.deBruijn64tab"], apart := false, laid := [("math/bits.deBruijn64tab", laid_math_bits_deBruijn64tab), ("vernier/format.rows", laid_vernier_format_rows)], narrowed := true }
def NarrowMachineUptoSaid : Prop := narrowMachineUptoRow.holds Tryd.pinned (OpenSpec.upto narrowMachineSpec)

/-- 'vernierlaw14.NarrowAll', WHERE WHAT IT READS IS OF BULK AT MOST 1048576: true; the input reads as it did. -/
def narrowAllUptoRow : OpenClaim := { program := "ytkcnbnilekfhdaadoor", sum := "b54bd730a675fd25b23316c7015abee92e404936b9962c9da826e4f46e80fa5c", func := "vernier/vernierlaw14.NarrowAll", spec := "narrowAll", inPlace := ["math/bits.Add64"], unfollowed := true, recurses := true, named := ["vernier/format.rows", "math/bits.deBruijn64tab"], apart := false, laid := [("math/bits.deBruijn64tab", laid_math_bits_deBruijn64tab), ("vernier/format.rows", laid_vernier_format_rows)], narrowed := true }
def NarrowAllUptoSaid : Prop := narrowAllUptoRow.holds Tryd.pinned (OpenSpec.upto narrowAllSpec)

/-- 'vernierlaw14.NarrowOdd', WHERE WHAT IT READS IS OF BULK AT MOST 1048576: true; the input reads as it did. -/
def narrowOddUptoRow : OpenClaim := { program := "ytkcnbnilekfhdaadoor", sum := "b54bd730a675fd25b23316c7015abee92e404936b9962c9da826e4f46e80fa5c", func := "vernier/vernierlaw14.NarrowOdd", spec := "narrowOdd", inPlace := ["math/bits.Add64"], unfollowed := true, recurses := true, named := ["vernier/format.rows", "math/bits.deBruijn64tab"], apart := false, laid := [("math/bits.deBruijn64tab", laid_math_bits_deBruijn64tab), ("vernier/format.rows", laid_vernier_format_rows)], narrowed := true }
def NarrowOddUptoSaid : Prop := narrowOddUptoRow.holds Tryd.pinned (OpenSpec.upto narrowOddSpec)

/-- 'vernierlaw08.DivKinds', WHERE WHAT IT READS IS OF BULK AT MOST 1048576: true; the input reads as it did. -/
def divKindsUptoRow : OpenClaim := { program := "ytkcnbnilekfhdaadoor", sum := "b54bd730a675fd25b23316c7015abee92e404936b9962c9da826e4f46e80fa5c", func := "vernier/vernierlaw08.DivKinds", spec := "divKinds", inPlace := ["math/bits.Add64", "math/bits.Sub64"], unfollowed := true, recurses := true, named := ["vernier/format.rows", "math/bits.deBruijn64tab", "math/bits.divideError", "math/bits.overflowError"], apart := false, laid := [("math/bits.deBruijn64tab", laid_math_bits_deBruijn64tab), ("vernier/format.rows", laid_vernier_format_rows)], narrowed := true }
def DivKindsUptoSaid : Prop := divKindsUptoRow.holds Tryd.pinned (OpenSpec.upto divKindsSpec)

/-- 'vernierlaw08.DivOne', WHERE WHAT IT READS IS OF BULK AT MOST 1048576: true; the input reads as it did. -/
def divOneUptoRow : OpenClaim := { program := "ytkcnbnilekfhdaadoor", sum := "b54bd730a675fd25b23316c7015abee92e404936b9962c9da826e4f46e80fa5c", func := "vernier/vernierlaw08.DivOne", spec := "divOne", inPlace := ["math/bits.Add64", "math/bits.Sub64"], unfollowed := true, recurses := true, named := ["vernier/format.rows", "math/bits.deBruijn64tab", "math/bits.divideError", "math/bits.overflowError"], apart := false, laid := [("math/bits.deBruijn64tab", laid_math_bits_deBruijn64tab), ("vernier/format.rows", laid_vernier_format_rows)], narrowed := true }
def DivOneUptoSaid : Prop := divOneUptoRow.holds Tryd.pinned (OpenSpec.upto divOneSpec)

/-- 'vernierlaw08.DivBack', WHERE WHAT IT READS IS OF BULK AT MOST 1048576: true; the input reads as it did. -/
def divBackUptoRow : OpenClaim := { program := "ytkcnbnilekfhdaadoor", sum := "b54bd730a675fd25b23316c7015abee92e404936b9962c9da826e4f46e80fa5c", func := "vernier/vernierlaw08.DivBack", spec := "divBack", inPlace := ["math/bits.Add64", "math/bits.Sub64"], unfollowed := true, recurses := true, named := ["vernier/format.rows", "math/bits.deBruijn64tab", "math/bits.divideError", "math/bits.overflowError"], apart := false, laid := [("math/bits.deBruijn64tab", laid_math_bits_deBruijn64tab), ("vernier/format.rows", laid_vernier_format_rows)], narrowed := true }
def DivBackUptoSaid : Prop := divBackUptoRow.holds Tryd.pinned (OpenSpec.upto divBackSpec)

/-- 'vernierlaw11.RemAll', WHERE WHAT IT READS IS OF BULK AT MOST 1048576: true; the input reads as it did. -/
def remAllUptoRow : OpenClaim := { program := "ytkcnbnilekfhdaadoor", sum := "b54bd730a675fd25b23316c7015abee92e404936b9962c9da826e4f46e80fa5c", func := "vernier/vernierlaw11.RemAll", spec := "remAll", inPlace := ["math/bits.Add64"], unfollowed := true, recurses := true, named := ["vernier/format.rows", "math/bits.deBruijn64tab", "math/bits.divideError", "math/bits.overflowError"], apart := false, laid := [("math/bits.deBruijn64tab", laid_math_bits_deBruijn64tab), ("vernier/format.rows", laid_vernier_format_rows)], narrowed := true }
def RemAllUptoSaid : Prop := remAllUptoRow.holds Tryd.pinned (OpenSpec.upto remAllSpec)

/-- 'vernierlaw11.RemKinds', WHERE WHAT IT READS IS OF BULK AT MOST 1048576: true; the input reads as it did. -/
def remKindsUptoRow : OpenClaim := { program := "ytkcnbnilekfhdaadoor", sum := "b54bd730a675fd25b23316c7015abee92e404936b9962c9da826e4f46e80fa5c", func := "vernier/vernierlaw11.RemKinds", spec := "remKinds", inPlace := ["math/bits.Add64"], unfollowed := true, recurses := true, named := ["vernier/format.rows", "math/bits.deBruijn64tab", "math/bits.divideError", "math/bits.overflowError"], apart := false, laid := [("math/bits.deBruijn64tab", laid_math_bits_deBruijn64tab), ("vernier/format.rows", laid_vernier_format_rows)], narrowed := true }
def RemKindsUptoSaid : Prop := remKindsUptoRow.holds Tryd.pinned (OpenSpec.upto remKindsSpec)

/-- 'vernierlaw11.RemSigns', WHERE WHAT IT READS IS OF BULK AT MOST 1048576: true; the input reads as it did. -/
def remSignsUptoRow : OpenClaim := { program := "ytkcnbnilekfhdaadoor", sum := "b54bd730a675fd25b23316c7015abee92e404936b9962c9da826e4f46e80fa5c", func := "vernier/vernierlaw11.RemSigns", spec := "remSigns", inPlace := ["math/bits.Add64"], unfollowed := true, recurses := true, named := ["vernier/format.rows", "math/bits.deBruijn64tab", "math/bits.divideError", "math/bits.overflowError"], apart := false, laid := [("math/bits.deBruijn64tab", laid_math_bits_deBruijn64tab), ("vernier/format.rows", laid_vernier_format_rows)], narrowed := true }
def RemSignsUptoSaid : Prop := remSignsUptoRow.holds Tryd.pinned (OpenSpec.upto remSignsSpec)

end Rows
end Go.Proofs.YtkcnbnilekfhdaaDoor
