/- Plain law: layer 4's Neg of a pattern. Conditions: the format is one of the four. -/
import Derived.Test.YtkcnbnilekfhdaaDoorRnC
namespace Go.Proofs.YtkcnbnilekfhdaaDoor.X
open Go Go.Rex
set_option linter.unusedVariables false

section
variable {f : Int} {W P : Nat} {em ex : Int} (h : Fm f W P em ex)
include h
/-- The sign turned. -/
theorem neg_pk (k : Nat) {K : Nat} (hK : K < 2 ^ (W - 1)) (s : Bool) : format_Neg k f ((K + sgB s W : Nat) : Int) = some (((K + sgB (!s) W : Nat) : Int), (0 : Int)) := by
  cases s
  · have e := neg_at h k K hK
    unfold sgB
    rw [if_neg (by simp), if_pos (by simp), Nat.add_zero]; exact e
  · have h1 := h.w64; have h2 := h.p8; have h3 := h.wp
    have hW : 2 ^ W = 2 * 2 ^ (W - 1) := by rw [show W = (W - 1) + 1 by omega, Nat.pow_succ, Nat.mul_comm]; rfl
    have h64 : 2 ^ W ≤ 18446744073709551616 := pow_mono2 (b := 64) h1
    unfold sgB
    rw [if_pos rfl, if_neg (by simp), Nat.add_zero, format_Neg_eq, check_at h k _ (by omega), if_pos (by omega), Option.bind_some, if_neg (nF rfl), sign_at h, Option.bind_some]
    congr 2
    unfold xorK
    show IntKind.u64.wrap ((BitVec.ofInt 64 ((K + 2 ^ (W - 1) : Nat) : Int) ^^^ BitVec.ofInt 64 ((2 ^ (W - 1) : Nat) : Int)).toNat : Int) = _
    rw [BitVec.toNat_xor, ofInt_nat _ (by omega), ofInt_nat _ (by omega)]
    have e : K + 2 ^ (W - 1) = K ^^^ 2 ^ (W - 1) := by
      rw [Nat.xor_comm, Nat.add_comm]
      apply Nat.eq_of_testBit_eq
      intro j
      have hor := Nat.two_pow_add_eq_or_of_lt hK 1
      rw [Nat.mul_one] at hor
      rw [hor, Nat.testBit_xor, Nat.testBit_or, Nat.testBit_two_pow]
      by_cases hj : W - 1 = j
      · subst hj
        rw [Nat.testBit_lt_two_pow hK]; simp
      · simp [hj]
    rw [e, Nat.xor_assoc, Nat.xor_self, Nat.xor_zero, wrapUn (by omega)]
end
end Go.Proofs.YtkcnbnilekfhdaaDoor.X
