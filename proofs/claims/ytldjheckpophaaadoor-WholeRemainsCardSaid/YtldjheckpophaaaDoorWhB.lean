/- Plain law: layer 12's calls, as plain functions; the reference's Open. Conditions: the format is one of the four, the patterns are of its width, the mode is one of the six. -/
import Derived.Test.YtldjheckpophaaaDoorWhA
namespace Go.Proofs.YtldjheckpophaaaDoor.X
open Go Go.Rex
set_option linter.unusedVariables false

theorem xor_top {K n : Nat} (hK : K < 2 ^ n) : (K ^^^ 2 ^ n = K + 2 ^ n) ∧ ((K + 2 ^ n) ^^^ 2 ^ n = K) := by
  have e : K ^^^ 2 ^ n = K + 2 ^ n := by
    rw [Nat.xor_comm, Nat.add_comm]
    apply Nat.eq_of_testBit_eq
    intro j
    have hor := Nat.two_pow_add_eq_or_of_lt hK 1
    rw [Nat.mul_one] at hor
    rw [hor, Nat.testBit_xor, Nat.testBit_or, Nat.testBit_two_pow]
    by_cases hj : n = j
    · subst hj
      rw [Nat.testBit_lt_two_pow hK]; simp
    · simp [hj]
  refine ⟨e, ?_⟩
  rw [← e, Nat.xor_assoc, Nat.xor_self, Nat.xor_zero]
theorem xorK_nat' (x y : Nat) (hx : x < 18446744073709551616) (hy : y < 18446744073709551616) : xorK .u64 (x : Int) (y : Int) = ((x ^^^ y : Nat) : Int) := by
  have hxy : x ^^^ y < 18446744073709551616 := Nat.xor_lt_two_pow (n := 64) hx hy
  unfold xorK
  show IntKind.u64.wrap ((BitVec.ofInt 64 (x : Int) ^^^ BitVec.ofInt 64 (y : Int)).toNat : Int) = _
  rw [BitVec.toNat_xor, ofInt_nat _ hx, ofInt_nat _ hy, wrapUn hxy]
section
variable {f : Int} {W P : Nat} {em ex : Int} (h : Fm f W P em ex)
include h
omit h in
theorem shl_one {n : Nat} (hn : n < 64) : shlK .u64 1 (n : Int) = ((2 ^ n : Nat) : Int) := by
  have h1 : 2 ^ n ≤ 2 ^ 63 := pow_mono2 (by omega)
  have h63 : (2 : Nat) ^ 63 = 9223372036854775808 := rfl
  have := shlK_exact 1 n (by omega) (by omega)
  rwa [Nat.one_mul, show ((1 : Nat) : Int) = 1 from rfl] at this
end
end Go.Proofs.YtldjheckpophaaaDoor.X
