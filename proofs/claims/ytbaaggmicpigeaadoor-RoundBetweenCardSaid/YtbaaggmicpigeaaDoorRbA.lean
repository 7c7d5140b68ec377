/- Plain law: the roundings of one number stand at two neighbours. Conditions: more than one bit. -/
import Derived.Test.YtbaaggmicpigeaaDoorRnD
namespace Go.Proofs.YtbaaggmicpigeaaDoor.X
open Go Go.Rex
set_option linter.unusedVariables false

/-- The lower neighbour by size; are there two; is the upper one chosen. -/
def dnK (W P A B : Nat) : Nat := if infP W P ≤ flr P A B then infP W P - 1 else flr P A B
def inX (W P A B : Nat) : Bool := decide (infP W P ≤ flr P A B) || decide (lftP P A B ≠ 0)
def upK (W P : Nat) (m : Int) (neg : Bool) (A B : Nat) : Bool :=
  inX W P A B && (if m = 0 then decide (infP W P ≤ flr P A B) || lftP P A B == 3 || lftP P A B == 2 && dnK W P A B % 2 == 1
    else if m = 1 then decide (infP W P ≤ flr P A B) || decide (2 ≤ lftP P A B)
    else if m = 3 then !neg else if m = 4 then neg else if m = 5 then dnK W P A B % 2 == 0 else false)
theorem infP_even {W P : Nat} (hP : 2 ≤ P) : infP W P % 2 = 0 := by
  unfold infP
  rw [show P - 1 = P - 2 + 1 by omega, Nat.pow_succ, ← Nat.mul_assoc, Nat.mul_mod_left]
theorem infP_pos (W P : Nat) (he : 0 < eTop W P) : 0 < infP W P := Nat.mul_pos he (Nat.two_pow_pos _)
theorem kOut_up (W : Nat) {P : Nat} (hP : 2 ≤ P) (he : 0 < eTop W P) {m : Int} (hm : Md m) (neg : Bool) (A B : Nat) :
    kOut W P m neg A B = dnK W P A B + (if upK W P m neg A B = true then 1 else 0) := by
  have h3 : lftP P A B ≤ 3 := lft_le3 _ _
  have hev := infP_even (W := W) hP
  have hpos := infP_pos W P he
  have hr := rnd_flr hP m neg A B
  unfold kOut upK inX dnK
  rw [hr]
  generalize infP W P = I at *
  generalize flr P A B = F at *
  generalize lftP P A B = L at *
  have hm0 := hm.m0
  have hm5 := hm.m5
  have h6 : m = 0 ∨ m = 1 ∨ m = 2 ∨ m = 3 ∨ m = 4 ∨ m = 5 := by omega
  have hL : L = 0 ∨ L = 1 ∨ L = 2 ∨ L = 3 := by omega
  by_cases c : I ≤ F
  · have hge := chs_ge m neg F L
    rw [if_pos (show I ≤ chs m neg F L by omega), if_pos c, decide_eq_true c]
    rcases h6 with rfl | rfl | rfl | rfl | rfl | rfl <;> cases neg <;> simp [toInf] <;> omega
  · rw [if_neg c, decide_eq_false c]
    unfold chs
    rcases h6 with rfl | rfl | rfl | rfl | rfl | rfl <;> rcases hL with rfl | rfl | rfl | rfl <;> cases neg <;> rcases Nat.mod_two_eq_zero_or_one F with q | q <;> simp [toInf, ups, q] <;> omega
/-- The least and the greatest: by the sign. -/
theorem up_dir (W P : Nat) (neg : Bool) (A B : Nat) : upK W P 4 neg A B = (inX W P A B && neg) ∧ upK W P 3 neg A B = (inX W P A B && !neg) := by
  unfold upK
  constructor <;> simp
/-- Where both are finite the left-over is at the flr. -/
theorem dn_fin {W P A B : Nat} (h : inX W P A B = true) (h2 : dnK W P A B + 1 < infP W P) : dnK W P A B = flr P A B ∧ flr P A B < infP W P ∧ lftP P A B ≠ 0 := by
  unfold inX at h
  unfold dnK at *
  by_cases c : infP W P ≤ flr P A B
  · rw [if_pos c] at h2; omega
  · rw [if_neg c] at *
    rw [decide_eq_false c, Bool.false_or] at h
    exact ⟨rfl, by omega, of_decide_eq_true h⟩
/-- Nearer by size: c compares what lies below with what lies above. -/
theorem near_up {W P A B : Nat} (hP : 2 ≤ P) (hB : 0 < B) (h : inX W P A B = true) (h2 : dnK W P A B + 1 < infP W P) (neg : Bool) :
    (A - plV P (dnK W P A B) * B < plV P (dnK W P A B + 1) * B - A → upK W P 0 neg A B = false ∧ upK W P 1 neg A B = false) ∧
    (plV P (dnK W P A B + 1) * B - A < A - plV P (dnK W P A B) * B → upK W P 0 neg A B = true ∧ upK W P 1 neg A B = true) ∧
    (A - plV P (dnK W P A B) * B = plV P (dnK W P A B + 1) * B - A → upK W P 0 neg A B = (dnK W P A B % 2 == 1) ∧ upK W P 1 neg A B = true) := by
  obtain ⟨e1, e2, e3⟩ := dn_fin h h2
  obtain ⟨f1, f2⟩ := flr_facts (P := P) (A := A) (B := B) (by omega) hB
  have lv := lftP_val (P := P) (A := A) (B := B) (by omega) hB
  unfold upK
  rw [h, e1]
  rw [decide_eq_false (show ¬ (infP W P ≤ flr P A B) by omega)]
  generalize plV P (flr P A B) * B = V at *
  generalize plV P (flr P A B + 1) * B = V' at *
  generalize lftP P A B = L at *
  unfold lft at lv
  rw [if_neg (show ¬ (A - V = 0) from fun z => e3 (by rw [lv, if_pos z]))] at lv
  refine ⟨fun g => ?_, fun g => ?_, fun g => ?_⟩
  · rw [if_pos (by omega)] at lv; subst lv; simp
  · rw [if_neg (by omega), if_neg (by omega)] at lv; subst lv; simp
  · rw [if_neg (by omega), if_pos (by omega)] at lv; subst lv; simp
/-- Exact: the number stands at its place. -/
theorem exact_dn {W P A B : Nat} (hP : 2 ≤ P) (hB : 0 < B) (he : 0 < eTop W P) : (inX W P A B = false → dnK W P A B = flr P A B ∧ flr P A B < infP W P ∧ A = plV P (dnK W P A B) * B) ∧
    (inX W P A B = true → plV P (dnK W P A B) * B < A ∧ (dnK W P A B + 1 < infP W P → A < plV P (dnK W P A B + 1) * B)) := by
  obtain ⟨f1, f2⟩ := flr_facts (P := P) (A := A) (B := B) (by omega) hB
  have lz := lftP_zero (P := P) (A := A) (B := B) (by omega) hB
  have hpos := infP_pos W P he
  unfold inX dnK
  refine ⟨fun g => ?_, fun g => ?_⟩
  · rw [Bool.or_eq_false_iff] at g
    have g1 := of_decide_eq_false g.1
    have g2 := of_decide_eq_false g.2
    rw [if_neg g1]
    exact ⟨rfl, by omega, lz.1 (Decidable.not_not.1 g2)⟩
  · by_cases c : infP W P ≤ flr P A B
    · rw [if_pos c]
      refine ⟨?_, fun z => by omega⟩
      have := plV_lt (P := P) (by omega) (show infP W P - 1 < flr P A B by omega)
      exact Nat.lt_of_lt_of_le ((Nat.mul_lt_mul_right hB).2 this) f1
    · rw [if_neg c]
      rw [decide_eq_false c, Bool.false_or] at g
      have g2 := of_decide_eq_true g
      refine ⟨Nat.lt_of_le_of_ne f1 fun z => g2 (lz.2 z.symm), fun _ => f2⟩
end Go.Proofs.YtbaaggmicpigeaaDoor.X
