/- Plain law: layer 3's Cmp and Neg of exact numbers whose naturals are odd or nothing. Conditions: the exponents are in their range, the naturals short. -/
import Derived.Test.YtmoeaeflljpboaaDyA
namespace Go.Proofs.Ytmoeaeflljpboaa.X
open Go Go.Rex
set_option linter.unusedVariables false

/-- A number's natural and exponent are short enough. -/
structure Sm (n : Nat) (e : Int) : Prop where
  len : (digs n).length ≤ 1000
  e0 : -40000 ≤ e
  e1 : e ≤ 40000
theorem lb_short {n m : Nat} (h : (digs n).length ≤ m) (hm : m ≤ 17592186044416) : Lb (digs n) := Nat.le_trans h hm
theorem pow_len {n b : Nat} {m : Nat} (h : (digs n).length ≤ m) : (digs (n * 2 ^ b)).length ≤ m + b / 64 + 1 := by
  rw [digs_length_lt] at *
  have h1 : 2 ^ b ≤ 18446744073709551616 ^ (b / 64 + 1) := by
    rw [← two_64]
    exact Nat.pow_le_pow_right (by decide) (by omega)
  rw [Nat.add_assoc, Nat.pow_add]
  exact Nat.lt_of_lt_of_le (Nat.mul_lt_mul_of_pos_right h (Nat.two_pow_pos b)) (Nat.mul_le_mul_left _ h1)

theorem sum_len {x y m : Nat} (hx : (digs x).length ≤ m) (hy : (digs y).length ≤ m) : (digs (x + y)).length ≤ m + 1 := by
  rw [digs_length_lt] at *
  rw [pow_s]
  omega
/-- The sign of a sum, by the numbers at a common place. -/
def sg (neg : Bool) (x : Nat) : Int := if neg then -(x : Int) else (x : Int)
def sgn (x : Int) : Int := if x < 0 then -1 else if x = 0 then 0 else 1
theorem wrapS {x : Int} (h0 : -1000000000 ≤ x) (h1 : x ≤ 1000000000) : IntKind.i64.wrap x = x := wrapI (by omega) (by omega)

/-! ### Cmp -/
/-- An odd number's value at a place is what it was. -/
theorem odd_place {n t m : Nat} (h : n = 2 ^ t * (2 * m + 1)) (d : Nat) : n / 2 ^ t * 2 ^ (t + d) = n * 2 ^ d := by
  rw [h, Nat.mul_div_cancel_left _ (Nat.two_pow_pos t), Nat.pow_add]; grind
theorem sgn_scale (x y : Nat) (p : Nat) (a b : Bool) : sgn (sg a (x * 2 ^ p) + sg b (y * 2 ^ p)) = sgn (sg a x + sg b y) := by
  have hp : 0 < 2 ^ p := Nat.two_pow_pos p
  have hp' : (0 : Int) < ((2 ^ p : Nat) : Int) := by omega
  have e : sg a (x * 2 ^ p) + sg b (y * 2 ^ p) = (sg a x + sg b y) * ((2 ^ p : Nat) : Int) := by
    cases a <;> cases b <;> simp only [sg, if_true, Bool.false_eq_true, if_false, Int.natCast_mul] <;> grind
  rw [e]
  generalize sg a x + sg b y = z
  generalize ((2 ^ p : Nat) : Int) = q at *
  unfold sgn
  by_cases h1 : z < 0
  · rw [if_pos h1, if_pos (Int.mul_neg_of_neg_of_pos h1 hp')]
  · rw [if_neg h1]
    by_cases h2 : z = 0
    · rw [if_pos h2, h2]; simp
    · rw [if_neg h2]
      have := Int.mul_pos (show 0 < z by omega) hp'
      rw [if_neg (by omega), if_neg (by omega)]
/-! ### Neg -/
end Go.Proofs.Ytmoeaeflljpboaa.X
