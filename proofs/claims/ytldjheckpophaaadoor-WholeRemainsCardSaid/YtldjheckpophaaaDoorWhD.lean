/- Plain law: exact whole numbers of layer 3, and their comparison; the whole numbers of a format. Conditions: those that each states. -/
import Derived.Test.YtldjheckpophaaaDoorWhC
namespace Go.Proofs.YtldjheckpophaaaDoor.X
open Go Go.Rex
set_option linter.unusedVariables false

/-- An exact number that is the whole number v. -/
def RepZ (s : Bool) (l : List Int) (e v : Int) : Prop := ∃ n : Nat, l = digs n ∧ (digs n).length ≤ 1000 ∧ 0 ≤ e ∧ e ≤ 40000 ∧ sg s (n * 2 ^ e.toNat) = v
theorem RepZ.zero : RepZ false [] 0 0 := ⟨0, digs_zero.symm, by simp [digs_zero], by omega, by omega, by simp [sg]⟩
theorem RepZ.word {n : Nat} (s : Bool) (hn : n < 18446744073709551616) : RepZ s (digs n) 0 (sg s n) := ⟨n, rfl, Nat.le_trans (digs_length_lt.2 (by rw [Nat.pow_one]; exact hn) : (digs n).length ≤ 1) (by decide), by omega, by omega, by simp⟩
/-- Of n, its odd part and the zeros behind. -/
theorem RepZ.odd {n : Nat} (s : Bool) (h0 : n ≠ 0) (hn : (digs n).length ≤ 500) : RepZ s (digs (oddN n)) (tz n : Int) (sg s n) := by
  have h1 := tz_blen h0
  have h2 := blen_len hn
  refine ⟨oddN n, rfl, Nat.le_trans (digs_len_mono (oddN_le n)) (by omega), by omega, by omega, ?_⟩
  rw [Int.toNat_natCast, oddN_mul h0]
theorem sg_sub (s t : Bool) (x y : Nat) : sg s x + sg (!t) y = sg s x - sg t y := by
  unfold sg; cases t <;> simp [Int.sub_eq_add_neg]
theorem sgn_eq0 {x : Int} : (sgn x == 0) = decide (x = 0) := by
  unfold sgn
  by_cases c : x < 0
  · rw [if_pos c, decide_eq_false (by omega)]; rfl
  · rw [if_neg c]
    by_cases c0 : x = 0
    · rw [if_pos c0, decide_eq_true c0]; rfl
    · rw [if_neg c0, decide_eq_false c0]; rfl
theorem sgn_neg {x : Int} : (decide (sgn x < 0)) = decide (x < 0) := by
  unfold sgn
  by_cases c : x < 0
  · rw [if_pos c, decide_eq_true c]; rfl
  · rw [if_neg c, decide_eq_false c]; split <;> rfl
theorem sgn_pos {x : Int} : (decide (sgn x > 0)) = decide (x > 0) := by
  unfold sgn
  by_cases c : x < 0
  · rw [if_pos c, decide_eq_false (show ¬ x > 0 by omega)]; rfl
  · rw [if_neg c]
    by_cases c0 : x = 0
    · rw [if_pos c0, decide_eq_false (show ¬ x > 0 by omega)]; rfl
    · rw [if_neg c0, decide_eq_true (show x > 0 by omega)]; rfl
/-- The integer that 64 bits say of a kind. -/
def intV (κ : Int) (x : Nat) : Int := if κ = 0 ∨ κ = 1 then IntKind.i64.wrap (x : Int) else (x : Int)
section
variable {f : Int} {W P : Nat} {em ex : Int} (h : Fm f W P em ex)
include h
end
end Go.Proofs.YtldjheckpophaaaDoor.X
