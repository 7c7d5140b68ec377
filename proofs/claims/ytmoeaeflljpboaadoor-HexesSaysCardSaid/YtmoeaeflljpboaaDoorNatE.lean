/- Plain law: math/bits.Div64, as Go writes it, by halves: where the high word is below the divisor it answers quotient and remainder. Conditions: the three are words, high < divisor. -/
import Derived.Test.YtmoeaeflljpboaaDoorNatD
namespace Go.Proofs.YtmoeaeflljpboaaDoor.X
open Go Go.Rex
set_option linter.unusedVariables false

/-- A digit that is too great is told by the second half. -/
theorem dig_test {u y yn1 yn0 u1 q r : Nat} (hy : y = yn1 * 4294967296 + yn0) (hu : q * yn1 + r = u) : q * yn0 > 4294967296 * r + u1 ↔ u * 4294967296 + u1 < q * y := by
  have e1 : q * y = q * yn1 * 4294967296 + q * yn0 := by rw [hy]; grind
  rw [e1, ← hu, Nat.add_mul]
  omega
/-- What a loop over the digit's guess does: T true: one less; else out. -/
theorem dig_facts {u y yn1 yn0 u1 q r : Nat} (hy : y = yn1 * 4294967296 + yn0) (hyn : yn0 < 4294967296) (hu : q * yn1 + r = u) (huy : u < y) (hu1 : u1 < 4294967296) (hr : 4294967296 ≤ r) : q * y ≤ u * 4294967296 + u1 ∧ q < 4294967296 := by
  have hq : q < 4294967296 := by
    rcases Nat.lt_or_ge q 4294967296 with h | h
    · exact h
    · have : 4294967296 * yn1 ≤ q * yn1 := Nat.mul_le_mul_right _ h
      omega
  refine ⟨?_, hq⟩
  have e1 : q * y = q * yn1 * 4294967296 + q * yn0 := by rw [hy]; grind
  have e2 : q * yn0 ≤ 4294967295 * 4294967295 := Nat.mul_le_mul (by omega) (by omega)
  rw [e1, ← hu, Nat.add_mul]
  omega
theorem quot_lt_ {u y u1 : Nat} (huy : u < y) (hu1 : u1 < 4294967296) : (u * 4294967296 + u1) / y < 4294967296 := by
  rw [Nat.div_lt_iff_lt_mul (by omega)]
  have : (u + 1) * 4294967296 ≤ y * 4294967296 := Nat.mul_le_mul_right _ huy
  rw [Nat.mul_comm 4294967296 y]
  omega
theorem mulu_nat (a b : Nat) (h : a * b < 18446744073709551616) : IntKind.u64.wrap ((a : Int) * (b : Int)) = ((a * b : Nat) : Int) := by
  rw [← Int.natCast_mul, wrapUn h]

/-- A digit, by what it leaves: it is below 2^32; a greater one is too great. -/
theorem dig_small {y yn1 yn0 : Nat} (hy : y = yn1 * 4294967296 + yn0) (h1 : 2147483648 ≤ yn1) (h1' : yn1 < 4294967296) (h0 : yn0 < 4294967296) {u u1 Q R : Nat} (hm : y * Q + R = u * 4294967296 + u1) (hR : R < y) (hun : u < y) (hu1 : u1 < 4294967296) : Q < 4294967296 := by
  rcases Nat.lt_or_ge Q 4294967296 with h | h
  · exact h
  · have e1 : y * 4294967296 ≤ y * Q := Nat.mul_le_mul_left _ h
    have e2 : (u + 1) * 4294967296 ≤ y * 4294967296 := Nat.mul_le_mul_right _ hun
    omega
theorem dig_more {y yn1 yn0 : Nat} (hy : y = yn1 * 4294967296 + yn0) (h1 : 2147483648 ≤ yn1) (h1' : yn1 < 4294967296) (h0 : yn0 < 4294967296) {u u1 Q R q : Nat} (hm : y * Q + R = u * 4294967296 + u1) (hR : R < y) (hq : Q < q) : u * 4294967296 + u1 < q * y := by
  have e1 : y * (Q + 1) ≤ y * q := Nat.mul_le_mul_left _ hq
  rw [Nat.mul_add, Nat.mul_one] at e1
  rw [Nat.mul_comm q y]
  omega
theorem dig_le {y yn1 yn0 : Nat} (hy : y = yn1 * 4294967296 + yn0) (h1 : 2147483648 ≤ yn1) (h1' : yn1 < 4294967296) (h0 : yn0 < 4294967296) {u u1 Q R q : Nat} (hm : y * Q + R = u * 4294967296 + u1) (hR : R < y) (hq : q * y ≤ u * 4294967296 + u1) : q ≤ Q := by
  rcases Nat.lt_or_ge Q q with h | h
  · have := dig_more hy h1 h1' h0 hm hR h; omega
  · exact h
theorem dig_ge {y yn1 yn0 : Nat} (hy : y = yn1 * 4294967296 + yn0) (h1 : 2147483648 ≤ yn1) (h1' : yn1 < 4294967296) (h0 : yn0 < 4294967296) {u u1 Q R : Nat} (hm : y * Q + R = u * 4294967296 + u1) (hu1 : u1 < 4294967296) : Q ≤ u / yn1 := by
  rw [Nat.le_div_iff_mul_le (by omega)]
  have e1 : y * Q = Q * yn1 * 4294967296 + Q * yn0 := by rw [hy]; grind
  have : 0 ≤ Q * yn0 := Nat.zero_le _
  omega
section
variable {y s yn1 yn0 : Nat} (hy : y = yn1 * 4294967296 + yn0) (h1 : 2147483648 ≤ yn1) (h1' : yn1 < 4294967296) (h0 : yn0 < 4294967296)
include hy h1 h1' h0
end

end Go.Proofs.YtmoeaeflljpboaaDoor.X
