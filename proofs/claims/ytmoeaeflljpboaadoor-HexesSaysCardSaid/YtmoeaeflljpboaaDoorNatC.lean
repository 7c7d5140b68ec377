/- Plain law: what the functions of naturals answer: product, Mul; the first calls (awake). Conditions: the words are words, the lists are not longer than memory. -/
import Derived.Test.YtmoeaeflljpboaaDoorNatB
namespace Go.Proofs.YtmoeaeflljpboaaDoor.X
open Go Go.Rex
set_option linter.unusedVariables false

/-! ### product -/
/-! ### Mul -/
theorem set2 (a b : List Int) : ((List.replicate 2 []).set 0 a).set 1 b = [a, b] := rfl
theorem set1 (a : List Int) : (List.replicate 1 []).set 0 a = [a] := rfl
theorem mul_len {x y m n : Nat} (hx : (digs x).length ≤ m) (hy : (digs y).length ≤ n) : (digs (x * y)).length ≤ m + n := by
  rw [digs_length_lt] at *
  rw [Nat.pow_add]
  exact Nat.mul_lt_mul'' hx hy
end Go.Proofs.YtmoeaeflljpboaaDoor.X
