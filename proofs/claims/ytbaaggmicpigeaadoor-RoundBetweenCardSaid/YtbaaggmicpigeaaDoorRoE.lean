/- Plain law: the order of exact numbers and the order of their roundings. No conditions beyond those that each states. -/
import Derived.Test.YtbaaggmicpigeaaDoorRnD
import Derived.Test.YtbaaggmicpigeaaDoorDyB
import Derived.Test.YtbaaggmicpigeaaDoorPlcA
namespace Go.Proofs.YtbaaggmicpigeaaDoor.X
open Go Go.Rex
set_option linter.unusedVariables false

theorem p2_common {e l b : Int} (h1 : b ≤ e) (h2 : b ≤ l) : p2 (e - l) * p2 (l - b) = p2 (l - e) * p2 (e - b) := by
  unfold p2
  rw [← Nat.pow_add, ← Nat.pow_add]
  congr 1; omega
theorem p2_split {e b c : Int} (h1 : b ≤ e) (h2 : c ≤ b) : p2 (e - c) = p2 (e - b) * p2 (b - c) := by
  unfold p2
  rw [← Nat.pow_add]
  congr 1; omega
/-- A number that is not greater, in units of a place. -/
theorem r_order {n m : Nat} {e f b : Int} (l : Int) (h1 : b ≤ e) (h2 : b ≤ f) (h : n * p2 (e - b) ≤ m * p2 (f - b)) : rA n e l * rB 1 f l ≤ rA m f l * rB 1 e l := by
  obtain ⟨c, c1, c2⟩ : ∃ c : Int, c ≤ b ∧ c ≤ l := ⟨min b l, by omega, by omega⟩
  have hc : n * p2 (e - c) ≤ m * p2 (f - c) := by
    rw [p2_split h1 c1, p2_split h2 c1, ← Nat.mul_assoc, ← Nat.mul_assoc]
    exact Nat.mul_le_mul_right _ h
  refine Nat.le_of_mul_le_mul_right (c := p2 (l - c)) ?_ (p2_pos _)
  have k1 := p2_common (e := e) (l := l) (b := c) (by omega) c2
  have k2 := p2_common (e := f) (l := l) (b := c) (by omega) c2
  unfold rA rB
  rw [Nat.one_mul, Nat.one_mul]
  generalize p2 (l - c) = K at *
  generalize p2 (e - l) = x at *
  generalize p2 (f - l) = y at *
  generalize p2 (l - e) = u at *
  generalize p2 (l - f) = v at *
  generalize p2 (e - c) = s at *
  generalize p2 (f - c) = t at *
  have e1 : n * x * v * K = (n * s) * (u * v) := by rw [show n * x * v * K = n * v * (x * K) by ac_rfl, k1]; ac_rfl
  have e2 : m * y * u * K = (m * t) * (u * v) := by rw [show m * y * u * K = m * u * (y * K) by ac_rfl, k2]; ac_rfl
  rw [e1, e2]
  exact Nat.mul_le_mul_right _ hc
theorem p2_toNat (e b : Int) : 2 ^ (e - b).toNat = p2 (e - b) := rfl
theorem sgn_le {x : Int} : sgn x ≤ 0 ↔ x ≤ 0 := by unfold sgn; split <;> (try split) <;> omega
theorem sgn_ge {x : Int} : 0 ≤ sgn x ↔ 0 ≤ x := by unfold sgn; split <;> (try split) <;> omega
/-- The place of a number's rounding. -/
def kNum (W P : Nat) (em m : Int) (neg : Bool) (n : Nat) (e : Int) : Nat := if n = 0 then 0 else kOut W P m neg (rA n e (em - (P : Int) + 1)) (rB 1 e (em - (P : Int) + 1))
theorem kNum_mono (W : Nat) {P : Nat} (hP : 2 ≤ P) (em m : Int) (neg : Bool) {n k : Nat} {e f b : Int} (h1 : b ≤ e) (h2 : b ≤ f) (h : n * p2 (e - b) ≤ k * p2 (f - b)) : kNum W P em m neg n e ≤ kNum W P em m neg k f := by
  unfold kNum
  by_cases c : n = 0
  · rw [if_pos c]; exact Nat.zero_le _
  · have hk : k ≠ 0 := fun e0 => by
      rw [e0, Nat.zero_mul] at h
      have := Nat.mul_pos (Nat.pos_of_ne_zero c) (p2_pos (e - b)); omega
    rw [if_neg c, if_neg hk]
    exact kOut_mono W hP (rB_pos (by decide) _ _) (rB_pos (by decide) _ _) m neg (r_order _ h1 h2 h)
/-- Rounding keeps order. -/
theorem num_order (W : Nat) {P : Nat} (hP : 2 ≤ P) (em m : Int) (s t : Bool) {n k : Nat} {e f b : Int} (h1 : b ≤ e) (h2 : b ≤ f) (h : sg s (n * p2 (e - b)) ≤ sg t (k * p2 (f - b))) : plc (kNum W P em m s n e) s ≤ plc (kNum W P em m t k f) t := by
  have z : ∀ (neg : Bool) (x : Nat) (g : Int), x * p2 (g - b) = 0 → kNum W P em m neg x g = 0 := fun neg x g hz => by
    unfold kNum
    rcases Nat.mul_eq_zero.1 hz with h | h
    · rw [if_pos h]
    · have := p2_pos (g - b); omega
  unfold sg at h
  unfold plc
  cases s <;> cases t <;> simp only [if_true, if_false, Bool.false_eq_true] at *
  · have := kNum_mono W hP em m false (n := n) (k := k) h1 h2 (by omega); omega
  · rw [z false n e (by omega), z true k f (by omega)]; omega
  · omega
  · have := kNum_mono W hP em m true (n := k) (k := n) h2 h1 (by omega); omega
end Go.Proofs.YtbaaggmicpigeaaDoor.X
