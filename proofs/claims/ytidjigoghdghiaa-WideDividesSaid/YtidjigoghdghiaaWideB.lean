/- The wide root, and what it computes. Conditions: the number is below 2^128. -/
import Derived.Test.YtidjigoghdghiaaWideA
import Derived.Test.YtidjigoghdghiaaVx3
namespace Go.Proofs.Ytidjigoghdghiaa.V
open Go.RowKit Go.Proofs.YtidjigoghdghiaaQ.PrintWords Go.Proofs.Ytidjigoghdghiaa.L
set_option linter.unusedVariables false

theorem pair_beq (A B : Nat) : (hi A == hi B && (lo A == lo B)) = decide (A = B) := by
  by_cases h : A = B
  · subst h; simp
  · rw [decide_eq_false h]
    by_cases h1 : hi A = hi B
    · by_cases h2 : lo A = lo B
      · exact absurd (words_eq h1 h2) h
      · simp [h2]
    · simp [h1]
theorem pair_bne (A B : Nat) : (!(hi A == hi B) || (!(lo A == lo B))) = decide (A ≠ B) := by
  have := pair_beq A B
  by_cases h : A = B
  · subst h; simp
  · rw [decide_eq_false h] at this
    rw [decide_eq_true h]
    cases h1 : (hi A == hi B) <;> cases h2 : (lo A == lo B) <;> simp_all

/-- r is the root of A, rounded down. -/
def IsRoot (A r : Nat) : Prop := r * r ≤ A ∧ A < (r + 1) * (r + 1)
theorem root_ex (A : Nat) : ∃ r, IsRoot A r := by
  induction A with
  | zero => exact ⟨0, by simp [IsRoot]⟩
  | succ A ih =>
    obtain ⟨r, h1, h2⟩ := ih
    by_cases h : A + 1 < (r + 1) * (r + 1)
    · exact ⟨r, by omega, h⟩
    · refine ⟨r + 1, by omega, ?_⟩
      have : (r + 1 + 1) * (r + 1 + 1) = (r + 1) * (r + 1) + 2 * (r + 1) + 1 := by grind
      omega
theorem IsRoot.le_iff {A r x : Nat} (h : IsRoot A r) : x * x ≤ A ↔ x ≤ r := by
  constructor
  · intro hx
    rcases Nat.lt_or_ge r x with hr | hr
    · have : (r + 1) * (r + 1) ≤ x * x := Nat.mul_le_mul hr hr
      have := h.2
      omega
    · exact hr
  · intro hx
    exact Nat.le_trans (Nat.mul_le_mul hx hx) h.1
theorem IsRoot.lt {A r : Nat} (h : IsRoot A r) (hA : A < 340282366920938463463374607431768211456) : r < 18446744073709551616 := by
  rcases Nat.lt_or_ge r 18446744073709551616 with hr | hr
  · exact hr
  · have : 18446744073709551616 * 18446744073709551616 ≤ r * r := Nat.mul_le_mul hr hr
    have := h.1
    omega
theorem IsRoot.uniq {A r s : Nat} (h : IsRoot A r) (h' : IsRoot A s) : r = s := by
  have h1 := h'.le_iff.1 h.1
  have h2 := h.le_iff.1 h'.1
  omega
theorem IsRoot.mono {A B r s : Nat} (h : IsRoot A r) (h' : IsRoot B s) (hab : A ≤ B) : r ≤ s := h'.le_iff.1 (Nat.le_trans h.1 hab)
theorem IsRoot.sq (x : Nat) : IsRoot (x * x) x := ⟨Nat.le_refl _, by have : (x + 1) * (x + 1) = x * x + 2 * x + 1 := by grind
                                                                     omega⟩
/-- The digits of r from place d on. -/
theorem top_succ (r d : Nat) : r / 2 ^ d * 2 ^ d = r / 2 ^ (d + 1) * 2 ^ (d + 1) + r / 2 ^ d % 2 * 2 ^ d := by
  have h1 := Nat.div_add_mod r (2 ^ d)
  have h2 := Nat.div_add_mod r (2 ^ (d + 1))
  have h3 := mod_succ r d
  rw [Nat.mul_comm] at h1 h2
  omega
theorem top_dvd (r d : Nat) : r / 2 ^ d * 2 ^ d % 2 ^ d = 0 := Nat.mul_mod_left _ _
theorem top_le (r d : Nat) : r / 2 ^ d * 2 ^ d ≤ r := Nat.div_mul_le_self r (2 ^ d)

theorem root_loop (A r : Nat) (hA : A < 340282366920938463463374607431768211456) (hr : IsRoot A r) (d : Nat) : ∀ i : Nat, i + d = 64 →
    Ev (fun k => wide_Root.l0 k ((r / 2 ^ d * 2 ^ d : Nat) : Int) (i : Int) (hi A) (lo A)) ((r : Int), decide (r * r = A)) := by
  have hlt := hr.lt hA
  induction d with
  | zero =>
    intro i hi'
    refine Ev.step (fun k => rfl) ?_
    refine ev_neg (by omega) ?_
    refine ev_some fun k => ?_
    simp only [Nat.pow_zero, Nat.div_one, Nat.mul_one]
    rw [mul_eq r r hlt hlt]
    simp only [Option.bind_some, pair_beq]
  | succ d ih =>
    intro i hi'
    refine Ev.step (fun k => rfl) ?_
    refine ev_pos (by omega) ?_
    have e63 : wrap64 (63 - (i : Int)) = (d : Int) := by rw [wrap64_id (by omega) (by omega)]; omega
    have ei : wrap64 ((i : Int) + 1) = ((i + 1 : Nat) : Int) := by rw [wrap64_id (by omega) (by omega)]; omega
    have hd64 : d < 64 := by omega
    have hp := pow_lt_64 hd64
    have hp0 : 0 < 2 ^ d := Nat.two_pow_pos d
    have ht := top_succ r d
    have hle := top_le r d
    have hdv := top_dvd r (d + 1)
    have hb : r / 2 ^ d % 2 = 0 ∨ r / 2 ^ d % 2 = 1 := by omega
    -- the next digit's trial
    have htry : r / 2 ^ (d + 1) * 2 ^ (d + 1) + 2 ^ d < 18446744073709551616 := by
      have h2 : 2 ^ (d + 1) ≤ 18446744073709551616 := pow_le_64 (by omega)
      have h3 : r / 2 ^ (d + 1) * 2 ^ (d + 1) < 18446744073709551616 := Nat.lt_of_le_of_lt (top_le r (d + 1)) hlt
      have h4 : 2 ^ (d + 1) = 2 * 2 ^ d := two_mul_pow d
      have h5 : 18446744073709551616 % 2 ^ (d + 1) = 0 := by
        rw [show 18446744073709551616 = 2 ^ (d + 1) * 2 ^ (63 - d) by rw [← Nat.pow_add, show d + 1 + (63 - d) = 64 by omega]]
        exact Nat.mul_mod_right _ _
      have h6 : r / 2 ^ (d + 1) < 18446744073709551616 / 2 ^ (d + 1) := by
        rw [Nat.div_lt_iff_lt_mul (by omega), Nat.div_mul_cancel (Nat.dvd_of_mod_eq_zero h5)]
        exact hlt
      have h7 : (r / 2 ^ (d + 1) + 1) * 2 ^ (d + 1) ≤ 18446744073709551616 / 2 ^ (d + 1) * 2 ^ (d + 1) := Nat.mul_le_mul_right _ h6
      rw [Nat.div_mul_cancel (Nat.dvd_of_mod_eq_zero h5), Nat.add_mul] at h7
      omega
    rw [e63, ei]
    refine ev_pos (by omega) ?_
    rw [shl_one d hd64, or_add _ _ (d + 1) (by have := two_mul_pow d; omega) hdv htry]
    refine ev_now (mul_eq _ _ htry htry) ?_
    refine ev_now (cmp_eq _ _) ?_
    have key := hr.le_iff (x := r / 2 ^ (d + 1) * 2 ^ (d + 1) + 2 ^ d)
    rcases hb with hb | hb
    · rw [hb, Nat.zero_mul, Nat.add_zero] at ht
      have hno : ¬ (r / 2 ^ (d + 1) * 2 ^ (d + 1) + 2 ^ d) * (r / 2 ^ (d + 1) * 2 ^ (d + 1) + 2 ^ d) ≤ A := by
        rw [key]
        have e1 := Nat.div_add_mod r (2 ^ d)
        have e2 := Nat.mod_lt r hp0
        rw [Nat.mul_comm] at e1
        omega
      refine ev_neg (by unfold ord; rw [if_neg (by omega), if_neg (by omega)]; omega) ?_
      rw [← ht]
      exact ih (i + 1) (by omega)
    · rw [hb, Nat.one_mul] at ht
      have hyes : (r / 2 ^ (d + 1) * 2 ^ (d + 1) + 2 ^ d) * (r / 2 ^ (d + 1) * 2 ^ (d + 1) + 2 ^ d) ≤ A := by rw [key, ← ht]; exact hle
      refine ev_pos (by unfold ord; split; omega; rw [if_pos (by omega)]; omega) ?_
      rw [← ht]
      exact ih (i + 1) (by omega)
theorem root_ev (A r : Nat) (hA : A < 340282366920938463463374607431768211456) (hr : IsRoot A r) :
    Ev (fun k => wide_Root.f k (hi A) (lo A)) ((r : Int), decide (r * r = A)) := by
  have := root_loop A r hA hr 64 0 rfl
  have h0 : r / 2 ^ 64 = 0 := Nat.div_eq_of_lt (hr.lt hA)
  rw [h0, Nat.zero_mul] at this
  exact this
end Go.Proofs.Ytidjigoghdghiaa.V
