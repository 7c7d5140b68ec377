/- math/bits.Add64, Sub64, Mul64 as sums, differences and products of naturals. Conditions: the numbers are words. -/
import Derived.Test.YtidjigoghdghiaaL0
import Derived.Test.YtidjigoghdghiaaVx10
import Derived.Test.YtidjigoghdghiaaVx12
import Derived.Test.YtidjigoghdghiaaVx2
namespace Go.Proofs.Ytidjigoghdghiaa.V
open Go.RowKit Go.Proofs.YtidjigoghdghiaaQ.PrintWords Go.Proofs.Ytidjigoghdghiaa.L
set_option linter.unusedVariables false

theorem add64 (a b c : Nat) (hc : c ≤ 1) : bits_Add64.f a b c = some ((((a + b + c) % 18446744073709551616 : Nat) : Int), (((a + b + c) / 18446744073709551616 : Nat) : Int)) := by
  unfold bits_Add64.f
  rw [if_pos ⟨⟨by omega, by omega, by omega, by omega⟩⟩]
  simp
theorem sub64 (a b c d e : Nat) (ha : a < 18446744073709551616) (hb : b < 18446744073709551616) (hc : c ≤ 1) (hd : d < 18446744073709551616) (h : a + e * 18446744073709551616 = d + b + c) :
    bits_Sub64.f a b c = some ((d : Int), (e : Int)) := by
  unfold bits_Sub64.f
  rw [if_pos ⟨⟨by omega, by omega, by omega, by omega, by omega⟩⟩]
  simp only [Option.some.injEq, Prod.mk.injEq]
  constructor
  · omega
  · split <;> omega

/-- The product of two words, by halves. -/
theorem mul_halves (a b : Nat) (ha : a < 18446744073709551616) (hb : b < 18446744073709551616) :
    bits_Mul64.f a b = some (((a * b / 18446744073709551616 : Nat) : Int), ((a * b % 18446744073709551616 : Nat) : Int)) := by
  unfold bits_Mul64.f
  rw [and_mask32 a ha, and_mask32 b hb]
  have ea : a = 4294967296 * (a / 4294967296) + a % 4294967296 := by omega
  have eb : b = 4294967296 * (b / 4294967296) + b % 4294967296 := by omega
  have ha1 : a / 4294967296 < 4294967296 := by omega
  have hb1 : b / 4294967296 < 4294967296 := by omega
  have ha0 : a % 4294967296 < 4294967296 := by omega
  have hb0 : b % 4294967296 < 4294967296 := by omega
  rw [show ((a : Int) / 4294967296) = ((a / 4294967296 : Nat) : Int) by omega, show ((b : Int) / 4294967296) = ((b / 4294967296 : Nat) : Int) by omega]
  rw [show (a : Int) * (b : Int) = ((a * b : Nat) : Int) by simp]
  have eab : a * b = 18446744073709551616 * (a / 4294967296 * (b / 4294967296)) + 4294967296 * (a / 4294967296 * (b % 4294967296)) + 4294967296 * (a % 4294967296 * (b / 4294967296)) + a % 4294967296 * (b % 4294967296) := by
    generalize a / 4294967296 = a1 at *
    generalize a % 4294967296 = a0 at *
    generalize b / 4294967296 = b1 at *
    generalize b % 4294967296 = b0 at *
    rw [ea, eb]
    grind
  have m11 : a / 4294967296 * (b / 4294967296) ≤ 4294967295 * 4294967295 := Nat.mul_le_mul (by omega) (by omega)
  have m10 : a / 4294967296 * (b % 4294967296) ≤ 4294967295 * 4294967295 := Nat.mul_le_mul (by omega) (by omega)
  have m01 : a % 4294967296 * (b / 4294967296) ≤ 4294967295 * 4294967295 := Nat.mul_le_mul (by omega) (by omega)
  have m00 : a % 4294967296 * (b % 4294967296) ≤ 4294967295 * 4294967295 := Nat.mul_le_mul (by omega) (by omega)
  simp only [← Int.natCast_mul]
  rw [eab]
  generalize a / 4294967296 * (b / 4294967296) = p11 at *
  generalize a / 4294967296 * (b % 4294967296) = p10 at *
  generalize a % 4294967296 * (b / 4294967296) = p01 at *
  generalize a % 4294967296 * (b % 4294967296) = p00 at *
  clear ea eb eab ha1 hb1 ha0 hb0 ha hb
  rw [wrapu_nat (by omega : p10 < _), wrapu_nat (by omega : p00 < _), wrapu_nat (by omega : p01 < _), wrapu_nat (by omega : p11 < _)]
  rw [show (p10 : Int) + (p00 : Int) / 4294967296 = ((p10 + p00 / 4294967296 : Nat) : Int) by omega, wrapu_nat (by omega), and_mask32 _ (by omega)]
  rw [show (((p10 + p00 / 4294967296) % 4294967296 : Nat) : Int) + (p01 : Int) = (((p10 + p00 / 4294967296) % 4294967296 + p01 : Nat) : Int) by omega, wrapu_nat (by omega)]
  rw [show (p11 : Int) + ((p10 + p00 / 4294967296 : Nat) : Int) / 4294967296 = ((p11 + (p10 + p00 / 4294967296) / 4294967296 : Nat) : Int) by omega, wrapu_nat (by omega)]
  rw [show ((p11 + (p10 + p00 / 4294967296) / 4294967296 : Nat) : Int) + (((p10 + p00 / 4294967296) % 4294967296 + p01 : Nat) : Int) / 4294967296 = ((p11 + (p10 + p00 / 4294967296) / 4294967296 + ((p10 + p00 / 4294967296) % 4294967296 + p01) / 4294967296 : Nat) : Int) by omega, wrapu_nat (by omega), wrapu]
  simp only [Option.some.injEq, Prod.mk.injEq]
  constructor <;> omega
end Go.Proofs.Ytidjigoghdghiaa.V
