/- Plain law: what the reference asks of a pattern, by its class. Conditions: the format is one of the four. -/
import Derived.Test.YtkcnbnilekfhdaaDoorDivE
import Derived.Test.YtkcnbnilekfhdaaDoorRfH
namespace Go.Proofs.YtkcnbnilekfhdaaDoor.X
open Go Go.Rex
set_option linter.unusedVariables false

/-- A pattern's class, and what the reference asks of it. -/
theorem cls10 {W P p : Nat} {neg : Bool} (hi : 0 < infP W P) : ∃ c na sa ia za, clsOf W P p neg = c ∧ decide (infP W P < p) = na ∧ decide (infP W P < p ∧ p < infP W P + 2 ^ (P - 2)) = sa ∧ decide (p = infP W P) = ia ∧ decide (p = 0) = za ∧
    ((c = 0 ∧ na = true ∧ sa = true ∧ ia = false ∧ za = false) ∨ (c = 1 ∧ na = true ∧ sa = false ∧ ia = false ∧ za = false) ∨ (c = 2 ∧ na = false ∧ sa = false ∧ ia = true ∧ za = false) ∨ (c = 9 ∧ na = false ∧ sa = false ∧ ia = true ∧ za = false) ∨
      (c = 5 ∧ na = false ∧ sa = false ∧ ia = false ∧ za = true) ∨ (c = 6 ∧ na = false ∧ sa = false ∧ ia = false ∧ za = true) ∨ (c = 3 ∧ na = false ∧ sa = false ∧ ia = false ∧ za = false ∧ p ≠ 0 ∧ p < infP W P) ∨ (c = 4 ∧ na = false ∧ sa = false ∧ ia = false ∧ za = false ∧ p ≠ 0 ∧ p < infP W P) ∨
      (c = 7 ∧ na = false ∧ sa = false ∧ ia = false ∧ za = false ∧ p ≠ 0 ∧ p < infP W P) ∨ (c = 8 ∧ na = false ∧ sa = false ∧ ia = false ∧ za = false ∧ p ≠ 0 ∧ p < infP W P)) := by
  have hq := Nat.two_pow_pos (P - 2)
  by_cases c1 : infP W P + 2 ^ (P - 2) ≤ p
  · refine ⟨1, true, false, false, false, by unfold clsOf; rw [if_pos c1], decide_eq_true (by omega), decide_eq_false (by omega), decide_eq_false (by omega), decide_eq_false (by omega), by simp⟩
  by_cases c2 : infP W P < p
  · refine ⟨0, true, true, false, false, by unfold clsOf; rw [if_neg c1, if_pos c2], decide_eq_true (by omega), decide_eq_true (by omega), decide_eq_false (by omega), decide_eq_false (by omega), by simp⟩
  by_cases c3 : p = infP W P
  · cases neg
    · refine ⟨9, false, false, true, false, by unfold clsOf; rw [if_neg c1, if_neg c2, if_neg (by simp), if_pos c3], decide_eq_false (by omega), decide_eq_false (by omega), decide_eq_true (by omega), decide_eq_false (by omega), by simp⟩
    · refine ⟨2, false, false, true, false, by unfold clsOf; rw [if_neg c1, if_neg c2, if_pos rfl, if_pos c3], decide_eq_false (by omega), decide_eq_false (by omega), decide_eq_true (by omega), decide_eq_false (by omega), by simp⟩
  by_cases c4 : p = 0
  · cases neg
    · refine ⟨6, false, false, false, true, by unfold clsOf; rw [if_neg c1, if_neg c2, if_neg (by simp), if_neg c3, if_pos c4], decide_eq_false (by omega), decide_eq_false (by omega), decide_eq_false (by omega), decide_eq_true (by omega), by simp⟩
    · refine ⟨5, false, false, false, true, by unfold clsOf; rw [if_neg c1, if_neg c2, if_pos rfl, if_neg c3, if_pos c4], decide_eq_false (by omega), decide_eq_false (by omega), decide_eq_false (by omega), decide_eq_true (by omega), by simp⟩
  refine ⟨clsOf W P p neg, false, false, false, false, rfl, decide_eq_false (by omega), decide_eq_false (by omega), decide_eq_false (by omega), decide_eq_false (by omega), ?_⟩
  have hlt : p < infP W P := by omega
  rcases cls_num (neg := neg) c4 hlt with e | e | e | e <;> simp [e, c4, hlt]
section
variable {f : Int} {W P : Nat} {em ex : Int} (h : Fm f W P em ex)
include h
theorem riszero_at {a : Nat} (ha : a < 2 ^ W) (k : Nat) : vernierref04_IsZero k f (a : Int) = some (decide (pk W a = 0)) := by
  have hd := Nat.div_add_mod (pk W a) (2 ^ (P - 1))
  rw [vernierref04_IsZero_eq, rparts_at h ha, Option.bind_some]
  show (if (((pk W a / 2 ^ (P - 1) : Nat) : Int) == 0) = true then some (((pk W a % 2 ^ (P - 1) : Nat) : Int) == 0) else some false) = _
  by_cases c : pk W a / 2 ^ (P - 1) = 0
  · rw [if_pos (bT (by omega))]
    by_cases c2 : pk W a % 2 ^ (P - 1) = 0
    · rw [c, c2, Nat.mul_zero] at hd
      rw [bT (by omega), decide_eq_true (by omega)]
    · rw [beq_eq_false_iff_ne.2 (by omega), decide_eq_false]
      intro e; rw [e] at c2; exact c2 (Nat.zero_mod _)
  · rw [if_neg (bF (by omega)), decide_eq_false]
    intro e; rw [e] at c; exact c (Nat.zero_div _)
theorem chk_ev {a : Nat} (ha : a < 18446744073709551616) : Ev (fun k => format_Check k f (a : Int)) (if a < 2 ^ W then 0 else 4) := Ev.of fun k => check_at h k a ha
theorem rchk_ev {a : Nat} (ha : a < 18446744073709551616) : Ev (fun k => vernierref04_Check k f (a : Int)) (if a < 2 ^ W then 0 else 4) := Ev.of fun k => rcheck_at h k a ha
end
theorem row_bad {f : Int} (hf : ¬ (0 ≤ f ∧ f < 4)) : Ev (fun k => vernierref04_Row k f) ((0 : Int), ((0 : Int), ((0 : Int), ((0 : Int), false)))) :=
  Ev.of fun k => by
    rw [vernierref04_Row_eq, if_neg (bF (by omega)), if_neg (bF (by omega)), if_neg (bF (by omega)), if_neg (bF (by omega))]
end Go.Proofs.YtkcnbnilekfhdaaDoor.X
