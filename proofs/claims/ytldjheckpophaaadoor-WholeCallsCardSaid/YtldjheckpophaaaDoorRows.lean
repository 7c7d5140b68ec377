/-
  NARROWER THAN 'FOR EVERY INPUT', by the rows' own cells (each row's printed sentence says how): WholeCalls: laid · WholeMirror: laid · WholeProducts: laid · WholeBack: laid · WholeNear: laid · WholeFits: laid · RemExact: laid · WholeRemains: laid · WholeInts: laid · WholeQuotients: laid.
  DERIVED. THE GIVEN ROWS OF THIS SEAT. 10 by the template 'for every input the law returns true; each argument reads behind the call as it read before'; 0 by the template 'total and deterministic' (their statements: YtldjheckpophaaaDoorTotals.lean).
  GIVEN WITH THE SEED: the statements are not yours to turn. If you find one false, say at which input.
  Laid BY PROGRAM, IN A SANDBOX (cutbox-rows.mjs): the forced cells as the released guide's own fill.sh prints them over the translation 0e83a4783bce09ec… (all of the seat's roots in one cut). By AI agents, Wed Nov 11 2026. No macro, syntax, notation, axiom, sorry.
-/
import Derived.Test.YtldjheckpophaaaDoorChecked
import GoSem.Claim
import GoSem.ClaimJoined
import GoSem.ClaimMapViews
import Derived.JoinedTies
import Derived.KernelRfl
namespace Go.Proofs.YtldjheckpophaaaDoor
/- THE CELL 'sum', in the pinned program and in every row, IS THE sha256 OF THE DUMP (.gsa) THAT YtldjheckpophaaaDoorProg.lean LOADS. Nothing in Lean hashes anything: it is a label: what it is worth is what the hold of that sum in a sandbox is worth. -/
noncomputable def Tryd.pinned : Pinned := { name := "ytldjheckpophaaadoor", sum := "0e83a4783bce09ec8e4879c68720afc76f1643fab5c9a56e8795393ad128608a", checked := Tryd.checked }
namespace Rows
def none {H : Type} : Left H := { results := [], args := [] }

/- WHAT THE LISTED PACKAGE-LEVEL VARIABLES READ AS WHEN THE CALL BEGINS. Each datum BY PROGRAM (the guide's laid-datum.mjs) off the statement by which the dump's own 'gosem.cut.vars' lays the variable. In a bare row this is a premise. The card (YtldjheckpophaaaDoorCards.lean) ties it to the program's text. -/
def laid_math_bits_deBruijn64tab {H : Type} : DataW H := .agg [.lit (.int .u8 0), .lit (.int .u8 1), .lit (.int .u8 56), .lit (.int .u8 2), .lit (.int .u8 57), .lit (.int .u8 49), .lit (.int .u8 28), .lit (.int .u8 3), .lit (.int .u8 61), .lit (.int .u8 58), .lit (.int .u8 42), .lit (.int .u8 50), .lit (.int .u8 38), .lit (.int .u8 29), .lit (.int .u8 17), .lit (.int .u8 4), .lit (.int .u8 62), .lit (.int .u8 47), .lit (.int .u8 59), .lit (.int .u8 36), .lit (.int .u8 45), .lit (.int .u8 43), .lit (.int .u8 51), .lit (.int .u8 22), .lit (.int .u8 53), .lit (.int .u8 39), .lit (.int .u8 33), .lit (.int .u8 30), .lit (.int .u8 24), .lit (.int .u8 18), .lit (.int .u8 12), .lit (.int .u8 5), .lit (.int .u8 63), .lit (.int .u8 55), .lit (.int .u8 48), .lit (.int .u8 27), .lit (.int .u8 60), .lit (.int .u8 41), .lit (.int .u8 37), .lit (.int .u8 16), .lit (.int .u8 46), .lit (.int .u8 35), .lit (.int .u8 44), .lit (.int .u8 21), .lit (.int .u8 52), .lit (.int .u8 32), .lit (.int .u8 23), .lit (.int .u8 11), .lit (.int .u8 54), .lit (.int .u8 26), .lit (.int .u8 40), .lit (.int .u8 15), .lit (.int .u8 34), .lit (.int .u8 20), .lit (.int .u8 31), .lit (.int .u8 10), .lit (.int .u8 25), .lit (.int .u8 14), .lit (.int .u8 19), .lit (.int .u8 9), .lit (.int .u8 13), .lit (.int .u8 8), .lit (.int .u8 7), .lit (.int .u8 6)]
def laid_vernier_format_rows {H : Type} : DataW H := .agg [.agg [.lit (.int .i64 16), .lit (.int .i64 11), .lit (.int .i64 (-14)), .lit (.int .i64 15)], .agg [.lit (.int .i64 16), .lit (.int .i64 8), .lit (.int .i64 (-126)), .lit (.int .i64 127)], .agg [.lit (.int .i64 32), .lit (.int .i64 24), .lit (.int .i64 (-126)), .lit (.int .i64 127)], .agg [.lit (.int .i64 64), .lit (.int .i64 53), .lit (.int .i64 (-1022)), .lit (.int .i64 1023)]]
def laid_vernier_whole_kinds {H : Type} : DataW H := .agg [.agg [.lit (.int .u64 2147483648), .lit (.int .u64 2147483647)], .agg [.lit (.int .u64 9223372036854775808), .lit (.int .u64 9223372036854775807)], .agg [.lit (.int .u64 0), .lit (.int .u64 4294967295)], .agg [.lit (.int .u64 0), .lit (.int .u64 18446744073709551615)]]

/-- 'vernierlaw12.WholeCalls': WHATEVER THE INPUT: true; the input reads as it did. -/
def wholeCallsSpec : ChangeSpec := { name := "wholeCalls", fn := fun _ => fun
  | [d] => { results := [.lit (.bool true)], args := [d] }
  | _ => none }
def wholeCallsRow : OpenClaim := { program := "ytldjheckpophaaadoor", sum := "0e83a4783bce09ec8e4879c68720afc76f1643fab5c9a56e8795393ad128608a", func := "vernier/vernierlaw12.WholeCalls", spec := "wholeCalls", inPlace := ["math/bits.Add64"], unfollowed := true, recurses := true, named := ["vernier/format.rows", "math/bits.deBruijn64tab", "vernier/whole.kinds"], apart := false, laid := [("math/bits.deBruijn64tab", laid_math_bits_deBruijn64tab), ("vernier/format.rows", laid_vernier_format_rows), ("vernier/whole.kinds", laid_vernier_whole_kinds)] }
def WholeCallsSaid : Prop := wholeCallsRow.holds Tryd.pinned (OpenSpec.ofChange wholeCallsSpec)

/-- ITS FALSE NEIGHBOUR: 'it returns false'. Refute it at one input. -/
def wholeCallsWrong : ChangeSpec := { name := "wholeCalls", fn := fun _ => fun
  | [d] => { results := [.lit (.bool false)], args := [d] }
  | _ => none }
def WholeCallsWrongFalsely : Prop := wholeCallsRow.holds Tryd.pinned (OpenSpec.ofChange wholeCallsWrong)

/-- 'vernierlaw12.WholeMirror': WHATEVER THE INPUT: true; the input reads as it did. -/
def wholeMirrorSpec : ChangeSpec := { name := "wholeMirror", fn := fun _ => fun
  | [d] => { results := [.lit (.bool true)], args := [d] }
  | _ => none }
def wholeMirrorRow : OpenClaim := { program := "ytldjheckpophaaadoor", sum := "0e83a4783bce09ec8e4879c68720afc76f1643fab5c9a56e8795393ad128608a", func := "vernier/vernierlaw12.WholeMirror", spec := "wholeMirror", inPlace := ["math/bits.Add64"], unfollowed := true, recurses := true, named := ["vernier/format.rows", "math/bits.deBruijn64tab", "vernier/whole.kinds"], apart := false, laid := [("math/bits.deBruijn64tab", laid_math_bits_deBruijn64tab), ("vernier/format.rows", laid_vernier_format_rows), ("vernier/whole.kinds", laid_vernier_whole_kinds)] }
def WholeMirrorSaid : Prop := wholeMirrorRow.holds Tryd.pinned (OpenSpec.ofChange wholeMirrorSpec)

/-- ITS FALSE NEIGHBOUR: 'it returns false'. Refute it at one input. -/
def wholeMirrorWrong : ChangeSpec := { name := "wholeMirror", fn := fun _ => fun
  | [d] => { results := [.lit (.bool false)], args := [d] }
  | _ => none }
def WholeMirrorWrongFalsely : Prop := wholeMirrorRow.holds Tryd.pinned (OpenSpec.ofChange wholeMirrorWrong)

/-- 'verniertop.WholeProducts': WHATEVER THE INPUT: true; the input reads as it did. -/
def wholeProductsSpec : ChangeSpec := { name := "wholeProducts", fn := fun _ => fun
  | [d] => { results := [.lit (.bool true)], args := [d] }
  | _ => none }
def wholeProductsRow : OpenClaim := { program := "ytldjheckpophaaadoor", sum := "0e83a4783bce09ec8e4879c68720afc76f1643fab5c9a56e8795393ad128608a", func := "vernier/verniertop.WholeProducts", spec := "wholeProducts", inPlace := ["math/bits.Add64"], unfollowed := true, recurses := true, named := ["vernier/format.rows", "math/bits.deBruijn64tab"], apart := false, laid := [("math/bits.deBruijn64tab", laid_math_bits_deBruijn64tab), ("vernier/format.rows", laid_vernier_format_rows)] }
def WholeProductsSaid : Prop := wholeProductsRow.holds Tryd.pinned (OpenSpec.ofChange wholeProductsSpec)

/-- ITS FALSE NEIGHBOUR: 'it returns false'. Refute it at one input. -/
def wholeProductsWrong : ChangeSpec := { name := "wholeProducts", fn := fun _ => fun
  | [d] => { results := [.lit (.bool false)], args := [d] }
  | _ => none }
def WholeProductsWrongFalsely : Prop := wholeProductsRow.holds Tryd.pinned (OpenSpec.ofChange wholeProductsWrong)

/-- 'vernierlaw12.WholeBack': WHATEVER THE INPUT: true; the input reads as it did. -/
def wholeBackSpec : ChangeSpec := { name := "wholeBack", fn := fun _ => fun
  | [d] => { results := [.lit (.bool true)], args := [d] }
  | _ => none }
def wholeBackRow : OpenClaim := { program := "ytldjheckpophaaadoor", sum := "0e83a4783bce09ec8e4879c68720afc76f1643fab5c9a56e8795393ad128608a", func := "vernier/vernierlaw12.WholeBack", spec := "wholeBack", inPlace := ["math/bits.Add64", "math/bits.Sub64"], unfollowed := true, recurses := true, named := ["vernier/format.rows", "math/bits.deBruijn64tab", "vernier/whole.kinds"], apart := false, laid := [("math/bits.deBruijn64tab", laid_math_bits_deBruijn64tab), ("vernier/format.rows", laid_vernier_format_rows), ("vernier/whole.kinds", laid_vernier_whole_kinds)] }
def WholeBackSaid : Prop := wholeBackRow.holds Tryd.pinned (OpenSpec.ofChange wholeBackSpec)

/-- ITS FALSE NEIGHBOUR: 'it returns false'. Refute it at one input. -/
def wholeBackWrong : ChangeSpec := { name := "wholeBack", fn := fun _ => fun
  | [d] => { results := [.lit (.bool false)], args := [d] }
  | _ => none }
def WholeBackWrongFalsely : Prop := wholeBackRow.holds Tryd.pinned (OpenSpec.ofChange wholeBackWrong)

/-- 'vernierlaw12.WholeNear': WHATEVER THE INPUT: true; the input reads as it did. -/
def wholeNearSpec : ChangeSpec := { name := "wholeNear", fn := fun _ => fun
  | [d] => { results := [.lit (.bool true)], args := [d] }
  | _ => none }
def wholeNearRow : OpenClaim := { program := "ytldjheckpophaaadoor", sum := "0e83a4783bce09ec8e4879c68720afc76f1643fab5c9a56e8795393ad128608a", func := "vernier/vernierlaw12.WholeNear", spec := "wholeNear", inPlace := ["math/bits.Add64", "math/bits.Sub64"], unfollowed := true, recurses := true, named := ["vernier/format.rows", "math/bits.deBruijn64tab", "vernier/whole.kinds"], apart := false, laid := [("math/bits.deBruijn64tab", laid_math_bits_deBruijn64tab), ("vernier/format.rows", laid_vernier_format_rows), ("vernier/whole.kinds", laid_vernier_whole_kinds)] }
def WholeNearSaid : Prop := wholeNearRow.holds Tryd.pinned (OpenSpec.ofChange wholeNearSpec)

/-- ITS FALSE NEIGHBOUR: 'it returns false'. Refute it at one input. -/
def wholeNearWrong : ChangeSpec := { name := "wholeNear", fn := fun _ => fun
  | [d] => { results := [.lit (.bool false)], args := [d] }
  | _ => none }
def WholeNearWrongFalsely : Prop := wholeNearRow.holds Tryd.pinned (OpenSpec.ofChange wholeNearWrong)

/-- 'vernierlaw12.WholeFits': WHATEVER THE INPUT: true; the input reads as it did. -/
def wholeFitsSpec : ChangeSpec := { name := "wholeFits", fn := fun _ => fun
  | [d] => { results := [.lit (.bool true)], args := [d] }
  | _ => none }
def wholeFitsRow : OpenClaim := { program := "ytldjheckpophaaadoor", sum := "0e83a4783bce09ec8e4879c68720afc76f1643fab5c9a56e8795393ad128608a", func := "vernier/vernierlaw12.WholeFits", spec := "wholeFits", inPlace := ["math/bits.Add64", "math/bits.Sub64"], unfollowed := true, recurses := true, named := ["vernier/format.rows", "math/bits.deBruijn64tab", "vernier/whole.kinds"], apart := false, laid := [("math/bits.deBruijn64tab", laid_math_bits_deBruijn64tab), ("vernier/format.rows", laid_vernier_format_rows), ("vernier/whole.kinds", laid_vernier_whole_kinds)] }
def WholeFitsSaid : Prop := wholeFitsRow.holds Tryd.pinned (OpenSpec.ofChange wholeFitsSpec)

/-- ITS FALSE NEIGHBOUR: 'it returns false'. Refute it at one input. -/
def wholeFitsWrong : ChangeSpec := { name := "wholeFits", fn := fun _ => fun
  | [d] => { results := [.lit (.bool false)], args := [d] }
  | _ => none }
def WholeFitsWrongFalsely : Prop := wholeFitsRow.holds Tryd.pinned (OpenSpec.ofChange wholeFitsWrong)

/-- 'vernierlaw11.RemExact': WHATEVER THE INPUT: true; the input reads as it did. -/
def remExactSpec : ChangeSpec := { name := "remExact", fn := fun _ => fun
  | [d] => { results := [.lit (.bool true)], args := [d] }
  | _ => none }
def remExactRow : OpenClaim := { program := "ytldjheckpophaaadoor", sum := "0e83a4783bce09ec8e4879c68720afc76f1643fab5c9a56e8795393ad128608a", func := "vernier/vernierlaw11.RemExact", spec := "remExact", inPlace := ["math/bits.Add64", "math/bits.Sub64"], unfollowed := true, recurses := true, named := ["vernier/format.rows", "math/bits.deBruijn64tab", "math/bits.divideError", "math/bits.overflowError"], apart := false, laid := [("math/bits.deBruijn64tab", laid_math_bits_deBruijn64tab), ("vernier/format.rows", laid_vernier_format_rows)] }
def RemExactSaid : Prop := remExactRow.holds Tryd.pinned (OpenSpec.ofChange remExactSpec)

/-- ITS FALSE NEIGHBOUR: 'it returns false'. Refute it at one input. -/
def remExactWrong : ChangeSpec := { name := "remExact", fn := fun _ => fun
  | [d] => { results := [.lit (.bool false)], args := [d] }
  | _ => none }
def RemExactWrongFalsely : Prop := remExactRow.holds Tryd.pinned (OpenSpec.ofChange remExactWrong)

/-- 'verniertop.WholeRemains': WHATEVER THE INPUT: true; the input reads as it did. -/
def wholeRemainsSpec : ChangeSpec := { name := "wholeRemains", fn := fun _ => fun
  | [d] => { results := [.lit (.bool true)], args := [d] }
  | _ => none }
def wholeRemainsRow : OpenClaim := { program := "ytldjheckpophaaadoor", sum := "0e83a4783bce09ec8e4879c68720afc76f1643fab5c9a56e8795393ad128608a", func := "vernier/verniertop.WholeRemains", spec := "wholeRemains", inPlace := ["math/bits.Add64"], unfollowed := true, recurses := true, named := ["vernier/format.rows", "math/bits.deBruijn64tab", "math/bits.divideError", "math/bits.overflowError"], apart := false, laid := [("math/bits.deBruijn64tab", laid_math_bits_deBruijn64tab), ("vernier/format.rows", laid_vernier_format_rows)] }
def WholeRemainsSaid : Prop := wholeRemainsRow.holds Tryd.pinned (OpenSpec.ofChange wholeRemainsSpec)

/-- ITS FALSE NEIGHBOUR: 'it returns false'. Refute it at one input. -/
def wholeRemainsWrong : ChangeSpec := { name := "wholeRemains", fn := fun _ => fun
  | [d] => { results := [.lit (.bool false)], args := [d] }
  | _ => none }
def WholeRemainsWrongFalsely : Prop := wholeRemainsRow.holds Tryd.pinned (OpenSpec.ofChange wholeRemainsWrong)

/-- 'verniertop.WholeInts': WHATEVER THE INPUT: true; the input reads as it did. -/
def wholeIntsSpec : ChangeSpec := { name := "wholeInts", fn := fun _ => fun
  | [d] => { results := [.lit (.bool true)], args := [d] }
  | _ => none }
def wholeIntsRow : OpenClaim := { program := "ytldjheckpophaaadoor", sum := "0e83a4783bce09ec8e4879c68720afc76f1643fab5c9a56e8795393ad128608a", func := "vernier/verniertop.WholeInts", spec := "wholeInts", inPlace := ["math/bits.Add64"], unfollowed := true, recurses := true, named := ["vernier/whole.kinds", "vernier/format.rows", "math/bits.deBruijn64tab"], apart := false, laid := [("math/bits.deBruijn64tab", laid_math_bits_deBruijn64tab), ("vernier/format.rows", laid_vernier_format_rows), ("vernier/whole.kinds", laid_vernier_whole_kinds)] }
def WholeIntsSaid : Prop := wholeIntsRow.holds Tryd.pinned (OpenSpec.ofChange wholeIntsSpec)

/-- ITS FALSE NEIGHBOUR: 'it returns false'. Refute it at one input. -/
def wholeIntsWrong : ChangeSpec := { name := "wholeInts", fn := fun _ => fun
  | [d] => { results := [.lit (.bool false)], args := [d] }
  | _ => none }
def WholeIntsWrongFalsely : Prop := wholeIntsRow.holds Tryd.pinned (OpenSpec.ofChange wholeIntsWrong)

/-- 'verniertop.WholeQuotients': WHATEVER THE INPUT: true; the input reads as it did. -/
def wholeQuotientsSpec : ChangeSpec := { name := "wholeQuotients", fn := fun _ => fun
  | [d] => { results := [.lit (.bool true)], args := [d] }
  | _ => none }
def wholeQuotientsRow : OpenClaim := { program := "ytldjheckpophaaadoor", sum := "0e83a4783bce09ec8e4879c68720afc76f1643fab5c9a56e8795393ad128608a", func := "vernier/verniertop.WholeQuotients", spec := "wholeQuotients", inPlace := ["math/bits.Add64", "math/bits.Sub64"], unfollowed := true, recurses := true, named := ["vernier/format.rows", "math/bits.deBruijn64tab", "math/bits.divideError", "math/bits.overflowError"], apart := false, laid := [("math/bits.deBruijn64tab", laid_math_bits_deBruijn64tab), ("vernier/format.rows", laid_vernier_format_rows)] }
def WholeQuotientsSaid : Prop := wholeQuotientsRow.holds Tryd.pinned (OpenSpec.ofChange wholeQuotientsSpec)

/-- ITS FALSE NEIGHBOUR: 'it returns false'. Refute it at one input. -/
def wholeQuotientsWrong : ChangeSpec := { name := "wholeQuotients", fn := fun _ => fun
  | [d] => { results := [.lit (.bool false)], args := [d] }
  | _ => none }
def WholeQuotientsWrongFalsely : Prop := wholeQuotientsRow.holds Tryd.pinned (OpenSpec.ofChange wholeQuotientsWrong)

/- THE SECOND FORM. 'bulk': how many values and letters a reading holds, each counted each time it is reached (what is shared counts as often as it is met; a slice's spare places count too). A statement '..UptoSaid' is the law's where the arguments, and the package variables that the reading takes, are together of bulk at most 1048576: NARROWER than '..Said'. Prove '..Said' where nothing that the law and all that it calls make is longer than what came in: it says more and counts as full. Else prove '..UptoSaid'. A law counts once. -/
mutual
def uptoBulk {H : Type} : DataW H → Nat
  | .lit (.string bytes) => bytes.length + 1
  | .lit _ => 1
  | .nil => 1
  | .ptr d => uptoBulk d + 1
  | .slice elems spare => uptoBulkAll elems + uptoBulkAll spare + 1
  | .agg parts => uptoBulkAll parts + 1
  | .iface _ d => uptoBulk d + 1
  | .map entries => uptoBulkEntries entries + 1
  | .held _ => 1
def uptoBulkAll {H : Type} : List (DataW H) → Nat
  | [] => 0
  | d :: r => uptoBulk d + uptoBulkAll r
def uptoBulkEntries {H : Type} : List (Lit × DataW H) → Nat
  | [] => 0
  | x :: r => uptoBulkEntry x + uptoBulkEntries r
def uptoBulkEntry {H : Type} : Lit × DataW H → Nat
  | (.string bytes, d) => bytes.length + uptoBulk d + 1
  | (_, d) => uptoBulk d + 1
 end
def uptoSmall : (H : Type) → List (DataW H) → Bool := fun _ ds => decide (uptoBulkAll ds ≤ 1048576)
def OpenSpec.upto (s : _root_.Go.ChangeSpec) : _root_.Go.OpenSpec := { _root_.Go.OpenSpec.ofChange s with cond := some uptoSmall }

/-- 'vernierlaw12.WholeCalls', WHERE WHAT IT READS IS OF BULK AT MOST 1048576: true; the input reads as it did. -/
def wholeCallsUptoRow : OpenClaim := { program := "ytldjheckpophaaadoor", sum := "0e83a4783bce09ec8e4879c68720afc76f1643fab5c9a56e8795393ad128608a", func := "vernier/vernierlaw12.WholeCalls", spec := "wholeCalls", inPlace := ["math/bits.Add64"], unfollowed := true, recurses := true, named := ["vernier/format.rows", "math/bits.deBruijn64tab", "vernier/whole.kinds"], apart := false, laid := [("math/bits.deBruijn64tab", laid_math_bits_deBruijn64tab), ("vernier/format.rows", laid_vernier_format_rows), ("vernier/whole.kinds", laid_vernier_whole_kinds)], narrowed := true }
def WholeCallsUptoSaid : Prop := wholeCallsUptoRow.holds Tryd.pinned (OpenSpec.upto wholeCallsSpec)

/-- 'vernierlaw12.WholeMirror', WHERE WHAT IT READS IS OF BULK AT MOST 1048576: true; the input reads as it did. -/
def wholeMirrorUptoRow : OpenClaim := { program := "ytldjheckpophaaadoor", sum := "0e83a4783bce09ec8e4879c68720afc76f1643fab5c9a56e8795393ad128608a", func := "vernier/vernierlaw12.WholeMirror", spec := "wholeMirror", inPlace := ["math/bits.Add64"], unfollowed := true, recurses := true, named := ["vernier/format.rows", "math/bits.deBruijn64tab", "vernier/whole.kinds"], apart := false, laid := [("math/bits.deBruijn64tab", laid_math_bits_deBruijn64tab), ("vernier/format.rows", laid_vernier_format_rows), ("vernier/whole.kinds", laid_vernier_whole_kinds)], narrowed := true }
def WholeMirrorUptoSaid : Prop := wholeMirrorUptoRow.holds Tryd.pinned (OpenSpec.upto wholeMirrorSpec)

/-- 'verniertop.WholeProducts', WHERE WHAT IT READS IS OF BULK AT MOST 1048576: true; the input reads as it did. -/
def wholeProductsUptoRow : OpenClaim := { program := "ytldjheckpophaaadoor", sum := "0e83a4783bce09ec8e4879c68720afc76f1643fab5c9a56e8795393ad128608a", func := "vernier/verniertop.WholeProducts", spec := "wholeProducts", inPlace := ["math/bits.Add64"], unfollowed := true, recurses := true, named := ["vernier/format.rows", "math/bits.deBruijn64tab"], apart := false, laid := [("math/bits.deBruijn64tab", laid_math_bits_deBruijn64tab), ("vernier/format.rows", laid_vernier_format_rows)], narrowed := true }
def WholeProductsUptoSaid : Prop := wholeProductsUptoRow.holds Tryd.pinned (OpenSpec.upto wholeProductsSpec)

/-- 'vernierlaw12.WholeBack', WHERE WHAT IT READS IS OF BULK AT MOST 1048576: true; the input reads as it did. -/
def wholeBackUptoRow : OpenClaim := { program := "ytldjheckpophaaadoor", sum := "0e83a4783bce09ec8e4879c68720afc76f1643fab5c9a56e8795393ad128608a", func := "vernier/vernierlaw12.WholeBack", spec := "wholeBack", inPlace := ["math/bits.Add64", "math/bits.Sub64"], unfollowed := true, recurses := true, named := ["vernier/format.rows", "math/bits.deBruijn64tab", "vernier/whole.kinds"], apart := false, laid := [("math/bits.deBruijn64tab", laid_math_bits_deBruijn64tab), ("vernier/format.rows", laid_vernier_format_rows), ("vernier/whole.kinds", laid_vernier_whole_kinds)], narrowed := true }
def WholeBackUptoSaid : Prop := wholeBackUptoRow.holds Tryd.pinned (OpenSpec.upto wholeBackSpec)

/-- 'vernierlaw12.WholeNear', WHERE WHAT IT READS IS OF BULK AT MOST 1048576: true; the input reads as it did. -/
def wholeNearUptoRow : OpenClaim := { program := "ytldjheckpophaaadoor", sum := "0e83a4783bce09ec8e4879c68720afc76f1643fab5c9a56e8795393ad128608a", func := "vernier/vernierlaw12.WholeNear", spec := "wholeNear", inPlace := ["math/bits.Add64", "math/bits.Sub64"], unfollowed := true, recurses := true, named := ["vernier/format.rows", "math/bits.deBruijn64tab", "vernier/whole.kinds"], apart := false, laid := [("math/bits.deBruijn64tab", laid_math_bits_deBruijn64tab), ("vernier/format.rows", laid_vernier_format_rows), ("vernier/whole.kinds", laid_vernier_whole_kinds)], narrowed := true }
def WholeNearUptoSaid : Prop := wholeNearUptoRow.holds Tryd.pinned (OpenSpec.upto wholeNearSpec)

/-- 'vernierlaw12.WholeFits', WHERE WHAT IT READS IS OF BULK AT MOST 1048576: true; the input reads as it did. -/
def wholeFitsUptoRow : OpenClaim := { program := "ytldjheckpophaaadoor", sum := "0e83a4783bce09ec8e4879c68720afc76f1643fab5c9a56e8795393ad128608a", func := "vernier/vernierlaw12.WholeFits", spec := "wholeFits", inPlace := ["math/bits.Add64", "math/bits.Sub64"], unfollowed := true, recurses := true, named := ["vernier/format.rows", "math/bits.deBruijn64tab", "vernier/whole.kinds"], apart := false, laid := [("math/bits.deBruijn64tab", laid_math_bits_deBruijn64tab), ("vernier/format.rows", laid_vernier_format_rows), ("vernier/whole.kinds", laid_vernier_whole_kinds)], narrowed := true }
def WholeFitsUptoSaid : Prop := wholeFitsUptoRow.holds Tryd.pinned (OpenSpec.upto wholeFitsSpec)

/-- 'vernierlaw11.RemExact', WHERE WHAT IT READS IS OF BULK AT MOST 1048576: true; the input reads as it did. -/
def remExactUptoRow : OpenClaim := { program := "ytldjheckpophaaadoor", sum := "0e83a4783bce09ec8e4879c68720afc76f1643fab5c9a56e8795393ad128608a", func := "vernier/vernierlaw11.RemExact", spec := "remExact", inPlace := ["math/bits.Add64", "math/bits.Sub64"], unfollowed := true, recurses := true, named := ["vernier/format.rows", "math/bits.deBruijn64tab", "math/bits.divideError", "math/bits.overflowError"], apart := false, laid := [("math/bits.deBruijn64tab", laid_math_bits_deBruijn64tab), ("vernier/format.rows", laid_vernier_format_rows)], narrowed := true }
def RemExactUptoSaid : Prop := remExactUptoRow.holds Tryd.pinned (OpenSpec.upto remExactSpec)

/-- 'verniertop.WholeRemains', WHERE WHAT IT READS IS OF BULK AT MOST 1048576: true; the input reads as it did. -/
def wholeRemainsUptoRow : OpenClaim := { program := "ytldjheckpophaaadoor", sum := "0e83a4783bce09ec8e4879c68720afc76f1643fab5c9a56e8795393ad128608a", func := "vernier/verniertop.WholeRemains", spec := "wholeRemains", inPlace := ["math/bits.Add64"], unfollowed := true, recurses := true, named := ["vernier/format.rows", "math/bits.deBruijn64tab", "math/bits.divideError", "math/bits.overflowError"], apart := false, laid := [("math/bits.deBruijn64tab", laid_math_bits_deBruijn64tab), ("vernier/format.rows", laid_vernier_format_rows)], narrowed := true }
def WholeRemainsUptoSaid : Prop := wholeRemainsUptoRow.holds Tryd.pinned (OpenSpec.upto wholeRemainsSpec)

/-- 'verniertop.WholeInts', WHERE WHAT IT READS IS OF BULK AT MOST 1048576: true; the input reads as it did. -/
def wholeIntsUptoRow : OpenClaim := { program := "ytldjheckpophaaadoor", sum := "0e83a4783bce09ec8e4879c68720afc76f1643fab5c9a56e8795393ad128608a", func := "vernier/verniertop.WholeInts", spec := "wholeInts", inPlace := ["math/bits.Add64"], unfollowed := true, recurses := true, named := ["vernier/whole.kinds", "vernier/format.rows", "math/bits.deBruijn64tab"], apart := false, laid := [("math/bits.deBruijn64tab", laid_math_bits_deBruijn64tab), ("vernier/format.rows", laid_vernier_format_rows), ("vernier/whole.kinds", laid_vernier_whole_kinds)], narrowed := true }
def WholeIntsUptoSaid : Prop := wholeIntsUptoRow.holds Tryd.pinned (OpenSpec.upto wholeIntsSpec)

/-- 'verniertop.WholeQuotients', WHERE WHAT IT READS IS OF BULK AT MOST 1048576: true; the input reads as it did. -/
def wholeQuotientsUptoRow : OpenClaim := { program := "ytldjheckpophaaadoor", sum := "0e83a4783bce09ec8e4879c68720afc76f1643fab5c9a56e8795393ad128608a", func := "vernier/verniertop.WholeQuotients", spec := "wholeQuotients", inPlace := ["math/bits.Add64", "math/bits.Sub64"], unfollowed := true, recurses := true, named := ["vernier/format.rows", "math/bits.deBruijn64tab", "math/bits.divideError", "math/bits.overflowError"], apart := false, laid := [("math/bits.deBruijn64tab", laid_math_bits_deBruijn64tab), ("vernier/format.rows", laid_vernier_format_rows)], narrowed := true }
def WholeQuotientsUptoSaid : Prop := wholeQuotientsUptoRow.holds Tryd.pinned (OpenSpec.upto wholeQuotientsSpec)

end Rows
end Go.Proofs.YtldjheckpophaaaDoor
