/- Plain law: what the functions of naturals answer: product, Mul; the first calls (awake). Conditions: the words are words, the lists are not longer than memory. -/
import Derived.Test.YtbaaggmicpigeaaDoorNatB
namespace Go.Proofs.YtbaaggmicpigeaaDoor.X
open Go Go.Rex
set_option linter.unusedVariables false

/-! ### product -/
/-- A word times a word, with two more added. -/
theorem mac_step {x y p c : Nat} (hx : x < 18446744073709551616) (hy : y < 18446744073709551616) (hp : p < 18446744073709551616) (hc : c < 18446744073709551616) :
    ∃ l1 c1 l2 c2 r : Nat, (x * y % 18446744073709551616 + p + 0) % 18446744073709551616 = l1 ∧ (x * y % 18446744073709551616 + p + 0) / 18446744073709551616 = c1 ∧ (l1 + c + 0) % 18446744073709551616 = l2 ∧ (l1 + c + 0) / 18446744073709551616 = c2 ∧
      x * y / 18446744073709551616 + c1 + c2 = r ∧ r < 18446744073709551616 ∧ l2 < 18446744073709551616 ∧ c1 ≤ 1 ∧ c2 ≤ 1 ∧ x * y / 18446744073709551616 + c1 < 18446744073709551616 ∧ l2 + 18446744073709551616 * r = x * y + p + c := by
  have := mul_lt' hx hy
  generalize x * y = z at *
  refine ⟨_, _, _, _, _, rfl, rfl, rfl, rfl, rfl, ?_⟩
  omega
/-! ### Mul -/
theorem set2 (a b : List Int) : ((List.replicate 2 []).set 0 a).set 1 b = [a, b] := rfl
theorem set1 (a : List Int) : (List.replicate 1 []).set 0 a = [a] := rfl
theorem mul_len {x y m n : Nat} (hx : (digs x).length ≤ m) (hy : (digs y).length ≤ n) : (digs (x * y)).length ≤ m + n := by
  rw [digs_length_lt] at *
  rw [Nat.pow_add]
  exact Nat.mul_lt_mul'' hx hy
end Go.Proofs.YtbaaggmicpigeaaDoor.X
