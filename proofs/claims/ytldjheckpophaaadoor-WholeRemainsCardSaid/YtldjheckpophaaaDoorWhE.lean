/- Plain law: the bits of whole numbers of a kind; what Integral answers of any number. Conditions: those that each states. -/
import Derived.Test.YtldjheckpophaaaDoorWhD
namespace Go.Proofs.YtldjheckpophaaaDoor.X
open Go Go.Rex
set_option linter.unusedVariables false

theorem intV_most {κ : Int} (h0 : 0 ≤ κ) (h3 : κ ≤ 3) : intV κ (kMost κ) = (kMost κ : Int) := by
  have : κ = 0 ∨ κ = 1 ∨ κ = 2 ∨ κ = 3 := by omega
  rcases this with rfl | rfl | rfl | rfl <;> decide +kernel
theorem negU_nat (n : Nat) : ∃ x : Nat, negU n = (x : Int) ∧ x < 18446744073709551616 ∧ x = (18446744073709551616 - n % 18446744073709551616) % 18446744073709551616 := by
  refine ⟨_, ?_, Nat.mod_lt _ (by decide), rfl⟩
  unfold negU
  rw [wrap_u64]; omega
theorem intV_pos {κ : Int} {U : Nat} (h : U ≤ kMost κ) : intV κ U = (U : Int) := by
  unfold intV
  by_cases c : κ = 0 ∨ κ = 1
  · rw [if_pos c]
    unfold kMost at h
    rcases c with rfl | rfl
    · rw [if_pos rfl] at h; rw [wrap_i64]; omega
    · rw [if_neg (by decide), if_pos rfl] at h; rw [wrap_i64]; omega
  · rw [if_neg c]
theorem intV_neg {κ : Int} {U : Nat} (h : U ≤ kBel κ) : ∃ x : Nat, negU U = (x : Int) ∧ x < 18446744073709551616 ∧ intV κ x = -(U : Int) := by
  obtain ⟨x, x1, x2, x3⟩ := negU_nat U
  refine ⟨x, x1, x2, ?_⟩
  unfold kBel at h
  unfold intV
  by_cases c : κ = 0
  · rw [if_pos (.inl c)]
    rw [if_pos c] at h
    rw [wrap_i64]; omega
  · rw [if_neg c] at h
    by_cases c1 : κ = 1
    · rw [if_pos (.inr c1)]
      rw [if_pos c1] at h
      rw [wrap_i64]; omega
    · rw [if_neg (by omega)]
      rw [if_neg c1] at h
      omega
theorem wU_zero (P : Nat) (em m : Int) (s : Bool) (hP : 1 ≤ P) : wU P em m s 0 = 0 ∧ wL P em 0 = false := by
  have hz : plV P 0 = 0 := (plV_zero hP).2 rfl
  have hl : lft 0 (wD P em) = 0 := by unfold lft; rw [if_pos rfl]
  constructor
  · unfold wU cutN
    rw [hz, Nat.zero_div, Nat.zero_mod, hl, chs_zero]
  · unfold wL lftN
    rw [hz, Nat.zero_mod, hl]; rfl
theorem wK_zero {P : Nat} (em m : Int) (s : Bool) (hP : 2 ≤ P) : wK P em m s 0 = 0 := by
  unfold wK
  rw [(wU_zero P em m s (by omega)).1, Nat.zero_mul]
  exact flr_at' hP ((plV_zero (by omega)).2 rfl)
section
variable {f : Int} {W P : Nat} {em ex : Int} (h : Fm f W P em ex)
include h
/-- ToInt of a number. -/
theorem toR_fin (κ : Int) {a : Nat} (ha : a < 2 ^ W) (hi : pk W a < infP W P) (U : Nat) (lost : Bool) : toR κ (clsOf W P (pk W a) (ps W a)) (ps W a) U lost = if (if ps W a then kBel κ else kMost κ) < U then ((if ps W a then negU (kBel κ) else (kMost κ : Int)), (1, 0)) else ((if ps W a then negU U else (U : Int)), ((if lost then 16 else 0), 0)) := by
  have i1 : 0 < infP W P := Nat.mul_pos (by have := (eTop_le h).2; omega) (Nat.two_pow_pos _)
  obtain ⟨c, hc, hcc⟩ := cls_all (W := W) (P := P) (p := pk W a) (neg := ps W a) i1
  rw [hc]
  unfold toR
  rw [if_neg (by omega), if_neg (by omega)]
end
end Go.Proofs.YtldjheckpophaaaDoor.X
