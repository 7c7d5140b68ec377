/- Plain law: what layer 4's Check, Value, Abs and Neg answer, by the pattern's fields. Conditions: the format is one of the four, the pattern a word. -/
import Derived.Test.YtldjheckpophaaaDoorFmR
namespace Go.Proofs.YtldjheckpophaaaDoor.X
open Go Go.Rex
set_option linter.unusedVariables false

section
variable {f : Int} {W P : Nat} {em ex : Int} (h : Fm f W P em ex)
include h
theorem check_at (k a : Nat) (ha : a < 18446744073709551616) : format_Check k f (a : Int) = some (if a < 2 ^ W then 0 else 4) := by
  have := h.w64
  rw [format_Check_eq, params_at h]
  simp only [Option.bind_some]
  rw [if_neg (nF rfl)]
  by_cases c : W < 64
  · rw [if_pos (dT (by omega)), if_pos (by omega), shrK_nat a W (by omega)]
    by_cases ca : a < 2 ^ W
    · rw [Nat.div_eq_of_lt ca, if_neg (nF (x := ((0 : Nat) : Int)) (y := 0) rfl), if_pos ca]
    · have := Nat.div_pos (Nat.le_of_not_lt ca) (Nat.two_pow_pos W)
      rw [if_pos (nT (by omega)), if_neg ca]
  · have hW : W = 64 := by omega
    subst hW
    rw [if_neg (dF (by omega)), if_pos ha]
theorem split_at (k a : Nat) (ha : a < 18446744073709551616) (x y : Int) : format_split k (W : Int) (P : Int) x y (a : Int) = some ((((a / 2 ^ (W - 1) : Nat) : Int) != 0), (((a / 2 ^ (P - 1) % 2 ^ (W - P) : Nat) : Int), ((a % 2 ^ (P - 1) : Nat) : Int))) := by
  have h1 := h.w64; have h2 := h.p8; have h3 := h.wp; have h4 := h.p53
  have e1 : IntKind.i64.wrap ((W : Int) - 1) = ((W - 1 : Nat) : Int) := by rw [wrapI] <;> omega
  have e2 : IntKind.i64.wrap ((P : Int) - 1) = ((P - 1 : Nat) : Int) := by rw [wrapI] <;> omega
  have e3 : IntKind.i64.wrap ((W : Int) - (P : Int)) = ((W - P : Nat) : Int) := by rw [wrapI] <;> omega
  have hd : a / 2 ^ (P - 1) < 18446744073709551616 := Nat.lt_of_le_of_lt (Nat.div_le_self _ _) ha
  rw [format_split_eq, e1, e2, e3, if_pos (by omega), if_pos (by omega), ones_at k _ (by omega), ones_at k _ (by omega)]
  simp only [Option.bind_some]
  rw [shrK_nat a (W - 1) (by omega), shrK_nat a (P - 1) (by omega), andK_mask _ (W - P) (by omega) hd, andK_mask a (P - 1) (by omega) ha]
theorem sign_at (k : Nat) : format_sign k f = some ((2 ^ (W - 1) : Nat) : Int) := by
  have h1 := h.w64; have h2 := h.p8; have h3 := h.wp; have := h.f0; have := h.f4
  have e1 : IntKind.i64.wrap ((W : Int) - 1) = ((W - 1 : Nat) : Int) := by rw [wrapI] <;> omega
  rw [format_sign_eq, if_pos ⟨by omega, by omega⟩, h.row]
  simp only
  rw [e1, if_pos (by omega)]
  have h2 : 2 ^ (W - 1) < 18446744073709551616 := Nat.pow_lt_pow_right (m := W - 1) (n := 64) (by decide) (by omega)
  have := shlK_exact 1 (W - 1) (by omega) (by omega)
  rw [show ((1 : Nat) : Int) = 1 from rfl, Nat.one_mul] at this
  rw [this]
theorem abs_all (a : Nat) (ha : a < 18446744073709551616) : ∃ (x : Nat) (e : Int), (∀ k, format_Abs k f (a : Int) = some ((x : Int), e)) ∧ (e = 0 → x < 2 ^ (W - 1)) := by
  have h1 := h.w64; have h2 := h.p8; have h3 := h.wp
  have hW : 2 ^ W = 2 * 2 ^ (W - 1) := by rw [show W = (W - 1) + 1 by omega, Nat.pow_succ, Nat.mul_comm]; rfl
  have h64 : 2 ^ W ≤ 18446744073709551616 := pow_mono2 (b := 64) h1
  by_cases c : a < 2 ^ W
  · refine ⟨a % 2 ^ (W - 1), 0, fun k => ?_, fun _ => Nat.mod_lt _ (Nat.two_pow_pos _)⟩
    rw [format_Abs_eq, check_at h k a ha]
    simp only [Option.bind_some]
    rw [if_pos c, if_neg (nF rfl), sign_at h]
    simp only [Option.bind_some]
    congr 2
    unfold andNotK
    show IntKind.u64.wrap ((BitVec.ofInt 64 (a : Int) &&& ~~~ BitVec.ofInt 64 ((2 ^ (W - 1) : Nat) : Int)).toNat : Int) = _
    rw [BitVec.toNat_and, BitVec.toNat_not, ofInt_nat a ha, ofInt_nat _ (by omega)]
    have e : a &&& (2 ^ 64 - 1 - 2 ^ (W - 1)) = a % 2 ^ (W - 1) := by
      apply Nat.eq_of_testBit_eq
      intro j
      rw [Nat.testBit_and, Nat.testBit_mod_two_pow, show 2 ^ 64 - 1 - 2 ^ (W - 1) = 2 ^ 64 - (2 ^ (W - 1) + 1) by omega, Nat.testBit_two_pow_sub_succ (by omega), Nat.testBit_two_pow]
      by_cases hj : j < W - 1
      · simp [hj, show j < 64 by omega, show ¬ (W - 1 = j) by omega]
      · by_cases hj2 : W - 1 = j
        · simp [hj2]
        · have : a.testBit j = false := Nat.testBit_lt_two_pow (Nat.lt_of_lt_of_le c (pow_mono2 (by omega)))
          simp [this]
    rw [e, wrapUn (Nat.lt_of_le_of_lt (Nat.mod_le _ _) ha)]
  · refine ⟨0, 4, fun k => ?_, fun e => absurd e (by decide)⟩
    rw [format_Abs_eq, check_at h k a ha]
    simp only [Option.bind_some]
    rw [if_neg c, if_pos (nT (by decide))]
    rfl
end
end Go.Proofs.YtldjheckpophaaaDoor.X
