/-
  NARROWER THAN 'FOR EVERY INPUT', by the rows' own cells (each row's printed sentence says how): RoundNames: laid · RoundOrder: laid · RoundKeeps: laid · RoundBetween: laid · RoundAgree: laid.
  DERIVED. THE GIVEN ROWS OF THIS SEAT. 5 by the template 'for every input the law returns true; each argument reads behind the call as it read before'; 0 by the template 'total and deterministic' (their statements: YtkpmladopkkfnaaDoorTotals.lean).
  GIVEN WITH THE SEED: the statements are not yours to turn. If you find one false, say at which input.
  Laid BY PROGRAM, IN A SANDBOX (cutbox-rows.mjs): the forced cells as the released guide's own fill.sh prints them over the translation c03641411afb0111… (all of the seat's roots in one cut). By AI agents, Wed Nov 11 2026. No macro, syntax, notation, axiom, sorry.
-/
import Derived.Test.YtkpmladopkkfnaaDoorChecked
import GoSem.Claim
import GoSem.ClaimJoined
import GoSem.ClaimMapViews
import Derived.JoinedTies
import Derived.KernelRfl
namespace Go.Proofs.YtkpmladopkkfnaaDoor
/- THE CELL 'sum', in the pinned program and in every row, IS THE sha256 OF THE DUMP (.gsa) THAT YtkpmladopkkfnaaDoorProg.lean LOADS. Nothing in Lean hashes anything: it is a label: what it is worth is what the hold of that sum in a sandbox is worth. -/
noncomputable def Tryd.pinned : Pinned := { name := "ytkpmladopkkfnaadoor", sum := "c03641411afb01111153ea8cfe0e6f4266ec686ebc2852ad4b29727426ed2ae3", checked := Tryd.checked }
namespace Rows
def none {H : Type} : Left H := { results := [], args := [] }

/- WHAT THE LISTED PACKAGE-LEVEL VARIABLES READ AS WHEN THE CALL BEGINS. Each datum BY PROGRAM (the guide's laid-datum.mjs) off the statement by which the dump's own 'gosem.cut.vars' lays the variable. In a bare row this is a premise. The card (YtkpmladopkkfnaaDoorCards.lean) ties it to the program's text. -/
def laid_math_bits_deBruijn64tab {H : Type} : DataW H := .agg [.lit (.int .u8 0), .lit (.int .u8 1), .lit (.int .u8 56), .lit (.int .u8 2), .lit (.int .u8 57), .lit (.int .u8 49), .lit (.int .u8 28), .lit (.int .u8 3), .lit (.int .u8 61), .lit (.int .u8 58), .lit (.int .u8 42), .lit (.int .u8 50), .lit (.int .u8 38), .lit (.int .u8 29), .lit (.int .u8 17), .lit (.int .u8 4), .lit (.int .u8 62), .lit (.int .u8 47), .lit (.int .u8 59), .lit (.int .u8 36), .lit (.int .u8 45), .lit (.int .u8 43), .lit (.int .u8 51), .lit (.int .u8 22), .lit (.int .u8 53), .lit (.int .u8 39), .lit (.int .u8 33), .lit (.int .u8 30), .lit (.int .u8 24), .lit (.int .u8 18), .lit (.int .u8 12), .lit (.int .u8 5), .lit (.int .u8 63), .lit (.int .u8 55), .lit (.int .u8 48), .lit (.int .u8 27), .lit (.int .u8 60), .lit (.int .u8 41), .lit (.int .u8 37), .lit (.int .u8 16), .lit (.int .u8 46), .lit (.int .u8 35), .lit (.int .u8 44), .lit (.int .u8 21), .lit (.int .u8 52), .lit (.int .u8 32), .lit (.int .u8 23), .lit (.int .u8 11), .lit (.int .u8 54), .lit (.int .u8 26), .lit (.int .u8 40), .lit (.int .u8 15), .lit (.int .u8 34), .lit (.int .u8 20), .lit (.int .u8 31), .lit (.int .u8 10), .lit (.int .u8 25), .lit (.int .u8 14), .lit (.int .u8 19), .lit (.int .u8 9), .lit (.int .u8 13), .lit (.int .u8 8), .lit (.int .u8 7), .lit (.int .u8 6)]
def laid_vernier_format_rows {H : Type} : DataW H := .agg [.agg [.lit (.int .i64 16), .lit (.int .i64 11), .lit (.int .i64 (-14)), .lit (.int .i64 15)], .agg [.lit (.int .i64 16), .lit (.int .i64 8), .lit (.int .i64 (-126)), .lit (.int .i64 127)], .agg [.lit (.int .i64 32), .lit (.int .i64 24), .lit (.int .i64 (-126)), .lit (.int .i64 127)], .agg [.lit (.int .i64 64), .lit (.int .i64 53), .lit (.int .i64 (-1022)), .lit (.int .i64 1023)]]

/-- 'vernierlaw05.RoundNames': WHATEVER THE INPUT: true; the input reads as it did. -/
def roundNamesSpec : ChangeSpec := { name := "roundNames", fn := fun _ => fun
  | [] => { results := [.lit (.bool true)], args := [] }
  | _ => none }
def roundNamesRow : OpenClaim := { program := "ytkpmladopkkfnaadoor", sum := "c03641411afb01111153ea8cfe0e6f4266ec686ebc2852ad4b29727426ed2ae3", func := "vernier/vernierlaw05.RoundNames", spec := "roundNames", inPlace := ["math/bits.Add64", "math/bits.Sub64"], unfollowed := true, recurses := true, named := ["vernier/format.rows", "math/bits.deBruijn64tab", "math/bits.divideError", "math/bits.overflowError"], apart := false, laid := [("math/bits.deBruijn64tab", laid_math_bits_deBruijn64tab), ("vernier/format.rows", laid_vernier_format_rows)] }
def RoundNamesSaid : Prop := roundNamesRow.holds Tryd.pinned (OpenSpec.ofChange roundNamesSpec)

/-- ITS FALSE NEIGHBOUR: 'it returns false'. Refute it at one input. -/
def roundNamesWrong : ChangeSpec := { name := "roundNames", fn := fun _ => fun
  | [] => { results := [.lit (.bool false)], args := [] }
  | _ => none }
def RoundNamesWrongFalsely : Prop := roundNamesRow.holds Tryd.pinned (OpenSpec.ofChange roundNamesWrong)

/-- 'vernierlaw05.RoundOrder': WHATEVER THE INPUT: true; the input reads as it did. -/
def roundOrderSpec : ChangeSpec := { name := "roundOrder", fn := fun _ => fun
  | [d1, d2, d3] => { results := [.lit (.bool true)], args := [d1, d2, d3] }
  | _ => none }
def roundOrderRow : OpenClaim := { program := "ytkpmladopkkfnaadoor", sum := "c03641411afb01111153ea8cfe0e6f4266ec686ebc2852ad4b29727426ed2ae3", func := "vernier/vernierlaw05.RoundOrder", spec := "roundOrder", inPlace := ["math/bits.Add64", "math/bits.Sub64"], unfollowed := true, recurses := true, named := ["vernier/format.rows", "math/bits.deBruijn64tab", "math/bits.divideError", "math/bits.overflowError"], apart := false, laid := [("math/bits.deBruijn64tab", laid_math_bits_deBruijn64tab), ("vernier/format.rows", laid_vernier_format_rows)] }
def RoundOrderSaid : Prop := roundOrderRow.holds Tryd.pinned (OpenSpec.ofChange roundOrderSpec)

/-- ITS FALSE NEIGHBOUR: 'it returns false'. Refute it at one input. -/
def roundOrderWrong : ChangeSpec := { name := "roundOrder", fn := fun _ => fun
  | [d1, d2, d3] => { results := [.lit (.bool false)], args := [d1, d2, d3] }
  | _ => none }
def RoundOrderWrongFalsely : Prop := roundOrderRow.holds Tryd.pinned (OpenSpec.ofChange roundOrderWrong)

/-- 'vernierlaw05.RoundKeeps': WHATEVER THE INPUT: true; the input reads as it did. -/
def roundKeepsSpec : ChangeSpec := { name := "roundKeeps", fn := fun _ => fun
  | [d1, d2, d3] => { results := [.lit (.bool true)], args := [d1, d2, d3] }
  | _ => none }
def roundKeepsRow : OpenClaim := { program := "ytkpmladopkkfnaadoor", sum := "c03641411afb01111153ea8cfe0e6f4266ec686ebc2852ad4b29727426ed2ae3", func := "vernier/vernierlaw05.RoundKeeps", spec := "roundKeeps", inPlace := ["math/bits.Add64", "math/bits.Sub64"], unfollowed := true, recurses := true, named := ["vernier/format.rows", "math/bits.deBruijn64tab", "math/bits.divideError", "math/bits.overflowError"], apart := false, laid := [("math/bits.deBruijn64tab", laid_math_bits_deBruijn64tab), ("vernier/format.rows", laid_vernier_format_rows)] }
def RoundKeepsSaid : Prop := roundKeepsRow.holds Tryd.pinned (OpenSpec.ofChange roundKeepsSpec)

/-- ITS FALSE NEIGHBOUR: 'it returns false'. Refute it at one input. -/
def roundKeepsWrong : ChangeSpec := { name := "roundKeeps", fn := fun _ => fun
  | [d1, d2, d3] => { results := [.lit (.bool false)], args := [d1, d2, d3] }
  | _ => none }
def RoundKeepsWrongFalsely : Prop := roundKeepsRow.holds Tryd.pinned (OpenSpec.ofChange roundKeepsWrong)

/-- 'vernierlaw05.RoundBetween': WHATEVER THE INPUT: true; the input reads as it did. -/
def roundBetweenSpec : ChangeSpec := { name := "roundBetween", fn := fun _ => fun
  | [d1, d2] => { results := [.lit (.bool true)], args := [d1, d2] }
  | _ => none }
def roundBetweenRow : OpenClaim := { program := "ytkpmladopkkfnaadoor", sum := "c03641411afb01111153ea8cfe0e6f4266ec686ebc2852ad4b29727426ed2ae3", func := "vernier/vernierlaw05.RoundBetween", spec := "roundBetween", inPlace := ["math/bits.Add64", "math/bits.Sub64"], unfollowed := true, recurses := true, named := ["vernier/format.rows", "math/bits.deBruijn64tab", "math/bits.divideError", "math/bits.overflowError"], apart := false, laid := [("math/bits.deBruijn64tab", laid_math_bits_deBruijn64tab), ("vernier/format.rows", laid_vernier_format_rows)] }
def RoundBetweenSaid : Prop := roundBetweenRow.holds Tryd.pinned (OpenSpec.ofChange roundBetweenSpec)

/-- ITS FALSE NEIGHBOUR: 'it returns false'. Refute it at one input. -/
def roundBetweenWrong : ChangeSpec := { name := "roundBetween", fn := fun _ => fun
  | [d1, d2] => { results := [.lit (.bool false)], args := [d1, d2] }
  | _ => none }
def RoundBetweenWrongFalsely : Prop := roundBetweenRow.holds Tryd.pinned (OpenSpec.ofChange roundBetweenWrong)

/-- 'vernierlaw05.RoundAgree': WHATEVER THE INPUT: true; the input reads as it did. -/
def roundAgreeSpec : ChangeSpec := { name := "roundAgree", fn := fun _ => fun
  | [d] => { results := [.lit (.bool true)], args := [d] }
  | _ => none }
def roundAgreeRow : OpenClaim := { program := "ytkpmladopkkfnaadoor", sum := "c03641411afb01111153ea8cfe0e6f4266ec686ebc2852ad4b29727426ed2ae3", func := "vernier/vernierlaw05.RoundAgree", spec := "roundAgree", inPlace := ["math/bits.Add64", "math/bits.Sub64"], unfollowed := true, recurses := true, named := ["vernier/format.rows", "math/bits.deBruijn64tab", "math/bits.divideError", "math/bits.overflowError"], apart := false, laid := [("math/bits.deBruijn64tab", laid_math_bits_deBruijn64tab), ("vernier/format.rows", laid_vernier_format_rows)] }
def RoundAgreeSaid : Prop := roundAgreeRow.holds Tryd.pinned (OpenSpec.ofChange roundAgreeSpec)

/-- ITS FALSE NEIGHBOUR: 'it returns false'. Refute it at one input. -/
def roundAgreeWrong : ChangeSpec := { name := "roundAgree", fn := fun _ => fun
  | [d] => { results := [.lit (.bool false)], args := [d] }
  | _ => none }
def RoundAgreeWrongFalsely : Prop := roundAgreeRow.holds Tryd.pinned (OpenSpec.ofChange roundAgreeWrong)

/- THE SECOND FORM. 'bulk': how many values and letters a reading holds, each counted each time it is reached (what is shared counts as often as it is met; a slice's spare places count too). A statement '..UptoSaid' is the law's where the arguments, and the package variables that the reading takes, are together of bulk at most 1048576: NARROWER than '..Said'. Prove '..Said' where nothing that the law and all that it calls make is longer than what came in: it says more and counts as full. Else prove '..UptoSaid'. A law counts once. -/
mutual
def uptoBulk {H : Type} : DataW H → Nat
  | .lit (.string bytes) => bytes.length + 1
  | .lit _ => 1
  | .nil => 1
  | .ptr d => uptoBulk d + 1
  | .slice elems spare => uptoBulkAll elems + uptoBulkAll spare + 1
  | .agg parts => uptoBulkAll parts + 1
  | .iface _ d => uptoBulk d + 1
  | .map entries => uptoBulkEntries entries + 1
  | .held _ => 1
def uptoBulkAll {H : Type} : List (DataW H) → Nat
  | [] => 0
  | d :: r => uptoBulk d + uptoBulkAll r
def uptoBulkEntries {H : Type} : List (Lit × DataW H) → Nat
  | [] => 0
  | x :: r => uptoBulkEntry x + uptoBulkEntries r
def uptoBulkEntry {H : Type} : Lit × DataW H → Nat
  | (.string bytes, d) => bytes.length + uptoBulk d + 1
  | (_, d) => uptoBulk d + 1
 end
def uptoSmall : (H : Type) → List (DataW H) → Bool := fun _ ds => decide (uptoBulkAll ds ≤ 1048576)
def OpenSpec.upto (s : _root_.Go.ChangeSpec) : _root_.Go.OpenSpec := { _root_.Go.OpenSpec.ofChange s with cond := some uptoSmall }

/-- 'vernierlaw05.RoundNames', WHERE WHAT IT READS IS OF BULK AT MOST 1048576: true; the input reads as it did. -/
def roundNamesUptoRow : OpenClaim := { program := "ytkpmladopkkfnaadoor", sum := "c03641411afb01111153ea8cfe0e6f4266ec686ebc2852ad4b29727426ed2ae3", func := "vernier/vernierlaw05.RoundNames", spec := "roundNames", inPlace := ["math/bits.Add64", "math/bits.Sub64"], unfollowed := true, recurses := true, named := ["vernier/format.rows", "math/bits.deBruijn64tab", "math/bits.divideError", "math/bits.overflowError"], apart := false, laid := [("math/bits.deBruijn64tab", laid_math_bits_deBruijn64tab), ("vernier/format.rows", laid_vernier_format_rows)], narrowed := true }
def RoundNamesUptoSaid : Prop := roundNamesUptoRow.holds Tryd.pinned (OpenSpec.upto roundNamesSpec)

/-- 'vernierlaw05.RoundOrder', WHERE WHAT IT READS IS OF BULK AT MOST 1048576: true; the input reads as it did. -/
def roundOrderUptoRow : OpenClaim := { program := "ytkpmladopkkfnaadoor", sum := "c03641411afb01111153ea8cfe0e6f4266ec686ebc2852ad4b29727426ed2ae3", func := "vernier/vernierlaw05.RoundOrder", spec := "roundOrder", inPlace := ["math/bits.Add64", "math/bits.Sub64"], unfollowed := true, recurses := true, named := ["vernier/format.rows", "math/bits.deBruijn64tab", "math/bits.divideError", "math/bits.overflowError"], apart := false, laid := [("math/bits.deBruijn64tab", laid_math_bits_deBruijn64tab), ("vernier/format.rows", laid_vernier_format_rows)], narrowed := true }
def RoundOrderUptoSaid : Prop := roundOrderUptoRow.holds Tryd.pinned (OpenSpec.upto roundOrderSpec)

/-- 'vernierlaw05.RoundKeeps', WHERE WHAT IT READS IS OF BULK AT MOST 1048576: true; the input reads as it did. -/
def roundKeepsUptoRow : OpenClaim := { program := "ytkpmladopkkfnaadoor", sum := "c03641411afb01111153ea8cfe0e6f4266ec686ebc2852ad4b29727426ed2ae3", func := "vernier/vernierlaw05.RoundKeeps", spec := "roundKeeps", inPlace := ["math/bits.Add64", "math/bits.Sub64"], unfollowed := true, recurses := true, named := ["vernier/format.rows", "math/bits.deBruijn64tab", "math/bits.divideError", "math/bits.overflowError"], apart := false, laid := [("math/bits.deBruijn64tab", laid_math_bits_deBruijn64tab), ("vernier/format.rows", laid_vernier_format_rows)], narrowed := true }
def RoundKeepsUptoSaid : Prop := roundKeepsUptoRow.holds Tryd.pinned (OpenSpec.upto roundKeepsSpec)

/-- 'vernierlaw05.RoundBetween', WHERE WHAT IT READS IS OF BULK AT MOST 1048576: true; the input reads as it did. -/
def roundBetweenUptoRow : OpenClaim := { program := "ytkpmladopkkfnaadoor", sum := "c03641411afb01111153ea8cfe0e6f4266ec686ebc2852ad4b29727426ed2ae3", func := "vernier/vernierlaw05.RoundBetween", spec := "roundBetween", inPlace := ["math/bits.Add64", "math/bits.Sub64"], unfollowed := true, recurses := true, named := ["vernier/format.rows", "math/bits.deBruijn64tab", "math/bits.divideError", "math/bits.overflowError"], apart := false, laid := [("math/bits.deBruijn64tab", laid_math_bits_deBruijn64tab), ("vernier/format.rows", laid_vernier_format_rows)], narrowed := true }
def RoundBetweenUptoSaid : Prop := roundBetweenUptoRow.holds Tryd.pinned (OpenSpec.upto roundBetweenSpec)

/-- 'vernierlaw05.RoundAgree', WHERE WHAT IT READS IS OF BULK AT MOST 1048576: true; the input reads as it did. -/
def roundAgreeUptoRow : OpenClaim := { program := "ytkpmladopkkfnaadoor", sum := "c03641411afb01111153ea8cfe0e6f4266ec686ebc2852ad4b29727426ed2ae3", func := "vernier/vernierlaw05.RoundAgree", spec := "roundAgree", inPlace := ["math/bits.Add64", "math/bits.Sub64"], unfollowed := true, recurses := true, named := ["vernier/format.rows", "math/bits.deBruijn64tab", "math/bits.divideError", "math/bits.overflowError"], apart := false, laid := [("math/bits.deBruijn64tab", laid_math_bits_deBruijn64tab), ("vernier/format.rows", laid_vernier_format_rows)], narrowed := true }
def RoundAgreeUptoSaid : Prop := roundAgreeUptoRow.holds Tryd.pinned (OpenSpec.upto roundAgreeSpec)

end Rows
end Go.Proofs.YtkpmladopkkfnaaDoor
