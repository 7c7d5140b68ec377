/- Plain law: Down and Up about a quotient; products and comparisons of numbers of a format. Conditions: the format is one of the four. -/
import Derived.Test.YtkcnbnilekfhdaaGreatDoorRnB
import Derived.Test.YtkcnbnilekfhdaaGreatDoorRnC
import Derived.Test.YtkcnbnilekfhdaaGreatDoorRnD
import Derived.Test.YtkcnbnilekfhdaaGreatDoorDyB
namespace Go.Proofs.YtkcnbnilekfhdaaGreatDoor.X
open Go Go.Rex
set_option linter.unusedVariables false

/-! ### Toward zero, and away -/
theorem rnd_toward {P A B : Nat} (hP : 2 ≤ P) {m : Int} {n : Bool} (h : (m = 4 ∧ n = false) ∨ (m = 3 ∧ n = true)) : rnd P m n A B = flr P A B ∧ toInf m n = false := by
  rw [rnd_flr hP]
  rcases h with ⟨rfl, rfl⟩ | ⟨rfl, rfl⟩
  · exact ⟨by unfold chs ups; simp, by decide⟩
  · exact ⟨by unfold chs ups; simp, by decide⟩
theorem rnd_away {P A B : Nat} (hP : 2 ≤ P) {m : Int} {n : Bool} (h : (m = 3 ∧ n = false) ∨ (m = 4 ∧ n = true)) : rnd P m n A B = (if lftP P A B = 0 then flr P A B else flr P A B + 1) ∧ toInf m n = true := by
  rw [rnd_flr hP]
  have e : ups m n (flr P A B % 2 == 1) (lftP P A B) = true := by rcases h with ⟨rfl, rfl⟩ | ⟨rfl, rfl⟩ <;> (unfold ups; simp)
  refine ⟨?_, by rcases h with ⟨rfl, rfl⟩ | ⟨rfl, rfl⟩ <;> decide⟩
  unfold chs
  by_cases c : lftP P A B = 0
  · rw [if_pos c, if_neg (by omega)]
  · rw [if_neg c, if_pos ⟨by omega, e⟩]
/-- Where both are one. -/
def even0 (W P A B : Nat) : Bool := decide (lftP P A B = 0) && decide (flr P A B < infP W P)
theorem dir_toward {W P A B : Nat} (hi : 0 < infP W P) (hP : 2 ≤ P) (hB : 0 < B) {m : Int} {n : Bool} (h : (m = 4 ∧ n = false) ∨ (m = 3 ∧ n = true)) :
    kOut W P m n A B < infP W P ∧ plV P (kOut W P m n A B) * B ≤ A ∧ (plV P (kOut W P m n A B) * B = A ↔ even0 W P A B = true) ∧ (kOut W P m n A B = if flr P A B < infP W P then flr P A B else infP W P - 1) := by
  obtain ⟨r1, r2⟩ := rnd_toward (A := A) (B := B) hP h
  obtain ⟨f1, f2⟩ := flr_facts (P := P) (A := A) (B := B) (by omega) hB
  have z := lftP_zero (P := P) (A := A) (B := B) (by omega) hB
  unfold kOut even0
  rw [r1, r2]
  by_cases c : infP W P ≤ flr P A B
  · rw [if_pos c, if_neg (by simp)]
    have lt := plV_lt (P := P) (by omega) (show infP W P - 1 < flr P A B by omega)
    have lt2 := (Nat.mul_lt_mul_right hB).2 lt
    refine ⟨by omega, by omega, ?_, by rw [if_neg (by omega)]⟩
    simp only [Bool.and_eq_true, decide_eq_true_eq]
    omega
  · rw [if_neg c]
    refine ⟨by omega, f1, ?_, by rw [if_pos (by omega)]⟩
    simp only [Bool.and_eq_true, decide_eq_true_eq]
    rw [z]
    constructor
    · intro g; exact ⟨g.symm, by omega⟩
    · intro g; exact g.1.symm
theorem dir_away {W P A B : Nat} (hi : 0 < infP W P) (hP : 2 ≤ P) (hB : 0 < B) {m : Int} {n : Bool} (h : (m = 3 ∧ n = false) ∨ (m = 4 ∧ n = true)) :
    kOut W P m n A B ≤ infP W P ∧ (kOut W P m n A B < infP W P → A ≤ plV P (kOut W P m n A B) * B ∧ (plV P (kOut W P m n A B) * B = A ↔ even0 W P A B = true)) ∧ (kOut W P m n A B = if flr P A B < infP W P then (if lftP P A B = 0 then flr P A B else flr P A B + 1) else infP W P) := by
  obtain ⟨r1, r2⟩ := rnd_away (A := A) (B := B) hP h
  obtain ⟨f1, f2⟩ := flr_facts (P := P) (A := A) (B := B) (by omega) hB
  have z := lftP_zero (P := P) (A := A) (B := B) (by omega) hB
  unfold kOut even0
  rw [r1, r2]
  by_cases c0 : lftP P A B = 0
  · rw [if_pos c0]
    have e := z.1 c0
    by_cases c : infP W P ≤ flr P A B
    · rw [if_pos c, if_pos rfl, if_neg (by omega)]
      exact ⟨Nat.le_refl _, fun g => absurd g (Nat.lt_irrefl _), rfl⟩
    · rw [if_neg c, if_pos (by omega)]
      refine ⟨by omega, fun _ => ⟨by omega, ?_⟩, rfl⟩
      simp only [Bool.and_eq_true, decide_eq_true_eq]
      constructor
      · intro _; exact ⟨c0, by omega⟩
      · intro _; exact e.symm
  · rw [if_neg c0]
    by_cases c : infP W P ≤ flr P A B + 1
    · rw [if_pos c, if_pos rfl]
      refine ⟨Nat.le_refl _, fun g => absurd g (Nat.lt_irrefl _), ?_⟩
      by_cases c2 : flr P A B < infP W P
      · rw [if_pos c2]; omega
      · rw [if_neg c2]
    · rw [if_neg c, if_pos (by omega)]
      refine ⟨by omega, fun _ => ⟨by omega, ?_⟩, rfl⟩
      simp only [Bool.and_eq_true, decide_eq_true_eq]
      constructor
      · intro g; omega
      · intro g; exact absurd g.1 c0
theorem even0_iff {W P A B a b : Nat} (ha : a = if flr P A B < infP W P then flr P A B else infP W P - 1) (hb : b = if flr P A B < infP W P then (if lftP P A B = 0 then flr P A B else flr P A B + 1) else infP W P) (hi : 0 < infP W P) : a = b ↔ even0 W P A B = true := by
  rw [ha, hb]
  unfold even0
  simp only [Bool.and_eq_true, decide_eq_true_eq]
  by_cases c : flr P A B < infP W P
  · rw [if_pos c, if_pos c]
    by_cases c0 : lftP P A B = 0
    · rw [if_pos c0]; simp [c0, c]
    · rw [if_neg c0]; simp [c0]
  · rw [if_neg c, if_neg c]; omega
/-- Exact just where both are one. -/
theorem even0_flags {W P A B : Nat} (hP : 2 ≤ P) {m : Int} {n : Bool} (hm : m = 3 ∨ m = 4) : ((rnOut W P m n A B).2 = 0 ∧ even0 W P A B = true) ∨ (((rnOut W P m n A B).2 = 16 ∨ (rnOut W P m n A B).2 = 20 ∨ (rnOut W P m n A B).2 = 24) ∧ even0 W P A B = false) := by
  have r : rnd P m n A B = flr P A B ∨ (rnd P m n A B = (if lftP P A B = 0 then flr P A B else flr P A B + 1)) := by
    rcases hm with rfl | rfl <;> cases n
    · exact .inr (rnd_away hP (.inl ⟨rfl, rfl⟩)).1
    · exact .inl (rnd_toward hP (.inr ⟨rfl, rfl⟩)).1
    · exact .inl (rnd_toward hP (.inl ⟨rfl, rfl⟩)).1
    · exact .inr (rnd_away hP (.inr ⟨rfl, rfl⟩)).1
  unfold rnOut even0
  by_cases c0 : lftP P A B = 0
  · have r' : rnd P m n A B = flr P A B := by
      rcases r with r | r
      · exact r
      · rw [if_pos c0] at r; exact r
    rw [r']
    by_cases c : infP W P ≤ flr P A B
    · rw [if_pos c]
      exact .inr ⟨.inr (.inl rfl), by simp; omega⟩
    · rw [if_neg c]
      refine .inl ⟨?_, by simp; omega⟩
      show (if lftP P A B = 0 then (0 : Int) else if tinyB P m n A B then 24 else 16) = 0
      rw [if_pos c0]
  · right
    refine ⟨?_, by simp [c0]⟩
    by_cases c1 : infP W P ≤ rnd P m n A B
    · rw [if_pos c1]; exact .inr (.inl rfl)
    · rw [if_neg c1]
      show (if lftP P A B = 0 then (0 : Int) else if tinyB P m n A B then 24 else 16) = 16 ∨ (if lftP P A B = 0 then (0 : Int) else if tinyB P m n A B then 24 else 16) = 20 ∨ (if lftP P A B = 0 then (0 : Int) else if tinyB P m n A B then 24 else 16) = 24
      rw [if_neg c0]
      split
      · exact .inr (.inr rfl)
      · exact .inl rfl
/-! ### Products -/
/-- A quotient with its powers of two taken in. -/
theorem ratio_cross {l : Int} (hl : l ≤ 0) (a b u v : Nat) : rA a ((u : Int) - (v : Int)) l * (b * 2 ^ v) = (a * 2 ^ u * p2 (-l)) * rB b ((u : Int) - (v : Int)) l := by
  unfold rA rB
  have hp : p2 ((u : Int) - (v : Int) - l) * 2 ^ v = 2 ^ u * p2 (-l) * p2 (l - ((u : Int) - (v : Int))) := by
    unfold p2
    rw [← Nat.pow_add, ← Nat.pow_add, ← Nat.pow_add]
    congr 1; omega
  calc a * p2 ((u : Int) - (v : Int) - l) * (b * 2 ^ v) = a * b * (p2 ((u : Int) - (v : Int) - l) * 2 ^ v) := by grind
    _ = a * b * (2 ^ u * p2 (-l) * p2 (l - ((u : Int) - (v : Int)))) := by rw [hp]
    _ = a * 2 ^ u * p2 (-l) * (b * p2 (l - ((u : Int) - (v : Int)))) := by grind
section
variable {f : Int} {W P : Nat} {em ex : Int} (h : Fm f W P em ex)
include h
/-- A quotient of numbers of the format, rounded: told by their naturals. -/
theorem raR_plain (m : Int) (neg : Bool) {p q : Nat} (g1 : p ≠ 0 ∧ p < infP W P) (g2 : q ≠ 0 ∧ q < infP W P) : raR W P em m neg (oddN (plV P p)) (oddN (plV P q)) ((tz (plV P p) : Int) - (tz (plV P q) : Int)) = ((rnOut W P m neg (plV P p * p2 (-(em - (P : Int) + 1))) (plV P q)).1, ((rnOut W P m neg (plV P p * p2 (-(em - (P : Int) + 1))) (plV P q)).2, 0)) := by
  have hip := infP_le h
  have hpp := Nat.two_pow_pos (P - 1)
  have h8 := h.p8; have m1 := h.m1
  obtain ⟨w1, w2, w3, w4⟩ := plV_facts h g1.1 (by omega)
  obtain ⟨x1, x2, x3, x4⟩ := plV_facts h g2.1 (by omega)
  have l1 : (digs (oddN (plV P p))).length ≤ 1 := digs_length_lt.2 (by rw [Nat.pow_one]; exact w4)
  have l2 : (digs (oddN (plV P q))).length ≤ 1 := digs_length_lt.2 (by rw [Nat.pow_one]; exact x4)
  unfold raR
  rw [if_neg (by omega), if_neg (by omega), if_neg (oddN_ne x1), if_neg (oddN_ne w1)]
  have hx0 : 0 < plV P q := by omega
  have ho0 : 0 < oddN (plV P q) := by have := oddN_ne x1; omega
  have e1 := oddN_mul w1
  have e2 := oddN_mul x1
  have cr := ratio_cross (l := em - (P : Int) + 1) (by omega) (oddN (plV P p)) (oddN (plV P q)) (tz (plV P p)) (tz (plV P q))
  rw [e1, e2] at cr
  rw [rnOut_cross W P m neg (rB_pos ho0 _ _) hx0 cr]
end
end Go.Proofs.YtkcnbnilekfhdaaGreatDoor.X
