/- Plain law: layer 12's ToInt and FromInt, the law's own right and awake. Conditions: the format is one of the four, the patterns are of its width, the mode is one of the six. -/
import Derived.Test.YtldjheckpophaaaDoorWhB
namespace Go.Proofs.YtldjheckpophaaaDoor.X
open Go Go.Rex
set_option linter.unusedVariables false

/-! ### Kinds of integers -/
def kBel (κ : Int) : Nat := if κ = 0 then 2147483648 else if κ = 1 then 9223372036854775808 else 0
def kMost (κ : Int) : Nat := if κ = 0 then 2147483647 else if κ = 1 then 9223372036854775807 else if κ = 2 then 4294967295 else 18446744073709551615
theorem kinds_at {κ : Int} (h0 : 0 ≤ κ) (h3 : κ ≤ 3) : kindsT.getD κ.toNat (0, 0) = ((kBel κ : Int), (kMost κ : Int)) := by
  have : κ = 0 ∨ κ = 1 ∨ κ = 2 ∨ κ = 3 := by omega
  rcases this with rfl | rfl | rfl | rfl <;> rfl
theorem kB_lt (κ : Int) : kBel κ < 18446744073709551616 ∧ kMost κ < 18446744073709551616 := by
  unfold kBel kMost
  constructor
  · split <;> (try split) <;> decide
  · split <;> (try split) <;> (try split) <;> decide
/-- The 64 bits of the opposite. -/
def negU (n : Nat) : Int := IntKind.u64.wrap (0 - (n : Int))
/-- What ToInt answers: by class, sign, whole number, rest. -/
def toR (κ c : Int) (s : Bool) (U : Nat) (lost : Bool) : Int × (Int × Int) :=
  if c = 0 ∨ c = 1 ∨ c = 9 then ((kMost κ : Int), (1, 0)) else if c = 2 then (negU (kBel κ), (1, 0))
  else if (if s then kBel κ else kMost κ) < U then ((if s then negU (kBel κ) else (kMost κ : Int)), (1, 0))
  else ((if s then negU U else (U : Int)), ((if lost then 16 else 0), 0))
section
variable {f : Int} {W P : Nat} {em ex : Int} (h : Fm f W P em ex)
include h
end
end Go.Proofs.YtldjheckpophaaaDoor.X
