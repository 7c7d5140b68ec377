/- Fields put together and taken apart: what join and the reference's Make come to. Conditions: the fields fit. -/
import Derived.Test.YtjdmbhdlogbopaaDoorFormatB
import Derived.Test.YtjdmbhdlogbopaaDoorVx3
import Derived.Test.YtjdmbhdlogbopaaDoorVx5
import Derived.Test.YtjdmbhdlogbopaaDoorVx9
namespace Go.Proofs.YtjdmbhdlogbopaaDoor.V
open Go.RowKit Go.Proofs.YtjdmbhdlogbopaaDoorQ.PrintWords Go.Proofs.YtjdmbhdlogbopaaDoor.L
set_option linter.unusedVariables false

/-- The pattern of a sign and two fields. -/
def pk (W P s E F : Nat) : Nat := s * 2 ^ (W - 1) + (E * 2 ^ (P - 1) + F)
theorem bit_eq (b : Bool) : vernierlaw04_bit.f b = some (((if b = true then 1 else 0 : Nat)) : Int) := by cases b <;> rfl
section
variable {f : Int} {W P : Nat} {emin emax : Int} (h : IsFmt f W P emin emax)
include h
theorem pow_split : 2 ^ (W - 1) = 2 ^ (W - P) * 2 ^ (P - 1) := by
  have hwp := h.wp; have hp := h.p8
  rw [← Nat.pow_add]; congr 1; omega
theorem pow_top : 2 ^ (W - 1) + 2 ^ (W - 1) ≤ 18446744073709551616 := by
  have hwp := h.wp; have hp := h.p8; have hw := h.w64
  have := pow_le_64 hw
  rw [show W = W - 1 + 1 by omega, Nat.pow_succ] at this
  omega
theorem low_lt {E F : Nat} (hE : E < 2 ^ (W - P)) (hF : F < 2 ^ (P - 1)) : E * 2 ^ (P - 1) + F < 2 ^ (W - 1) := by
  rw [pow_split h]
  have : (E + 1) * 2 ^ (P - 1) ≤ 2 ^ (W - P) * 2 ^ (P - 1) := Nat.mul_le_mul_right _ hE
  rw [Nat.add_mul] at this
  omega
theorem join_eq (neg : Bool) {E F : Nat} (hE : E < 2 ^ (W - P)) (hF : F < 2 ^ (P - 1)) :
    format_join.f (W : Int) (P : Int) emin emax neg (E : Int) (F : Int) = some ((pk W P (if neg = true then 1 else 0) E F : Nat) : Int) := by
  have hwp := h.wp; have hw := h.w64; have hp := h.p8
  have hl := low_lt h hE hF
  have ht := pow_top h
  have hs : E * 2 ^ (P - 1) < 18446744073709551616 := by omega
  unfold format_join.f pk
  rw [subW1 h, subP1 h, if_pos (Int.natCast_nonneg _), shl_exact E (P - 1) (by omega) hs, shl_one (W - 1) (by omega), or_add _ _ (P - 1) hF (Nat.mul_mod_left _ _) (by omega)]
  cases neg
  · rw [if_neg (by decide), if_neg (by decide), Nat.zero_mul, Nat.zero_add]
  · rw [if_pos rfl, if_pos rfl, if_pos (Int.natCast_nonneg _), or_add' _ _ (W - 1) hl (Nat.mod_self _) (by omega), Nat.one_mul, Nat.add_comm]
theorem make_eq {s E F : Nat} (hs : s ≤ 1) (hE : E < 2 ^ (W - P)) (hF : F < 2 ^ (P - 1)) :
    vernierref04_Make.f f (s : Int) (E : Int) (F : Int) = some ((pk W P s E F : Nat) : Int) := by
  have hwp := h.wp; have hw := h.w64; have hp := h.p8
  have hl := low_lt h hE hF
  have ht := pow_top h
  have hs2 : s * 2 ^ (W - 1) ≤ 2 ^ (W - 1) := by
    have := Nat.mul_le_mul_right (2 ^ (W - 1)) hs
    omega
  unfold vernierref04_Make.f pk
  rw [h.row]
  simp only [Option.bind_some]
  rw [subW1 h, subP1 h, wrapu_nat (by omega), wrapu_nat (by omega), if_pos (by omega), if_pos (by omega), shl_exact s (W - 1) (by omega) (by omega), shl_exact E (P - 1) (by omega) (by omega)]
  rw [or_add _ _ (W - 1) (by omega) (Nat.mul_mod_left _ _) (by omega)]
  rw [or_add _ _ (P - 1) hF (by rw [pow_split h, ← Nat.mul_assoc, ← Nat.add_mul]; exact Nat.mul_mod_left _ _) (by omega), Nat.add_assoc]
theorem pk_lt {s E F : Nat} (hs : s ≤ 1) (hE : E < 2 ^ (W - P)) (hF : F < 2 ^ (P - 1)) : pk W P s E F < 2 ^ W := by
  have hwp := h.wp; have hw := h.w64; have hp := h.p8
  have hl := low_lt h hE hF
  have hs2 : s * 2 ^ (W - 1) ≤ 2 ^ (W - 1) := by
    have := Nat.mul_le_mul_right (2 ^ (W - 1)) hs
    omega
  have : 2 ^ W = 2 * 2 ^ (W - 1) := by rw [← two_mul_pow, show W - 1 + 1 = W by omega]
  unfold pk
  omega
theorem low_eq (a : Nat) : a % 2 ^ (W - 1) = fE W P a * 2 ^ (P - 1) + fF P a := by
  unfold fE fF
  rw [pow_split h, Nat.mul_comm, Nat.mod_mul, Nat.mul_comm, Nat.add_comm]
theorem apart (a : Nat) : a = fS W a * 2 ^ (W - 1) + (fE W P a * 2 ^ (P - 1) + fF P a) := by
  rw [← low_eq h, Nat.mul_comm]
  exact (Nat.div_add_mod _ _).symm
theorem andNot_top (a : Nat) (hw : a < 2 ^ W) : Go.bits .andNot .u64 (a : Int) ((2 ^ (W - 1) : Nat) : Int) = ((fE W P a * 2 ^ (P - 1) + fF P a : Nat) : Int) := by
  have hwp := h.wp; have hw6 := h.w64; have hp := h.p8
  have ha : a < 18446744073709551616 := Nat.lt_of_lt_of_le hw (pow_le_64 hw6)
  rw [← low_eq h, u64_andNot_nat a (2 ^ (W - 1)) ha (pow_lt_64 (by omega))]
  congr 1
  apply Nat.eq_of_testBit_eq
  intro j
  rw [Nat.testBit_and, Nat.testBit_mod_two_pow]
  have hm : 18446744073709551615 - 2 ^ (W - 1) = 2 ^ 64 - (2 ^ (W - 1) + 1) := by omega
  rw [hm, Nat.testBit_two_pow_sub_succ (by have := pow_lt_64 (show W - 1 < 64 by omega); omega), Nat.testBit_two_pow]
  by_cases hj : j < W - 1
  · have h1 : j < 64 := by omega
    have h2 : W - 1 ≠ j := by omega
    simp [h1, h2, hj]
  · by_cases hj2 : j = W - 1
    · simp [hj2]
    · have : a.testBit j = false := Nat.testBit_lt_two_pow (Nat.lt_of_lt_of_le hw (Nat.pow_le_pow_right (by decide) (by omega)))
      simp [this]
theorem and_top (a : Nat) (hw : a < 2 ^ W) : Go.bits .and .u64 (a : Int) ((2 ^ (W - 1) : Nat) : Int) = ((fS W a * 2 ^ (W - 1) : Nat) : Int) := by
  have hwp := h.wp; have hw6 := h.w64; have hp := h.p8
  have ha : a < 18446744073709551616 := Nat.lt_of_lt_of_le hw (pow_le_64 hw6)
  have hs := sign_le h a hw
  rw [bits_and_u64_nat a _ ha (pow_lt_64 (by omega))]
  congr 1
  apply Nat.eq_of_testBit_eq
  intro j
  rw [Nat.testBit_and, Nat.testBit_two_pow, Nat.testBit_mul_two_pow]
  have e : ∀ i, (fS W a).testBit i = a.testBit (W - 1 + i) := fun i => by unfold fS; rw [Nat.testBit_div_two_pow, Nat.add_comm]
  by_cases hj : W - 1 = j
  · subst hj
    have := e 0
    simp at this
    simp [this]
  · by_cases hj2 : W - 1 ≤ j
    · have : a.testBit j = false := Nat.testBit_lt_two_pow (Nat.lt_of_lt_of_le hw (Nat.pow_le_pow_right (by decide) (by omega)))
      rw [e, show W - 1 + (j - (W - 1)) = j by omega, this]
      simp
    · simp [hj, hj2]
end
end Go.Proofs.YtjdmbhdlogbopaaDoor.V
