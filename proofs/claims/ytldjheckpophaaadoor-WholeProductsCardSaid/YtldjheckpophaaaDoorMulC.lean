/- Plain law: classes of patterns by their places; a product and a quotient by these. Conditions: the format is among the four. -/
import Derived.Test.YtldjheckpophaaaDoorMulB
import Derived.Test.YtldjheckpophaaaDoorTpQ
namespace Go.Proofs.YtldjheckpophaaaDoor.X
open Go Go.Rex
set_option linter.unusedVariables false

theorem kind_nan {W P k : Nat} : (kindT W P k = 3 ∨ kindT W P k = 2) ↔ infP W P < k := by
  unfold kindT
  by_cases c1 : k < infP W P
  · rw [if_pos c1]; omega
  · rw [if_neg c1]
    by_cases c2 : k = infP W P
    · rw [if_pos c2]; omega
    · rw [if_neg c2]; split <;> omega
theorem cls_kind {W P k : Nat} (hi : 0 < infP W P) (hp : 0 < 2 ^ (P - 2)) (neg : Bool) : (clsOf W P k neg = 0 ↔ kindT W P k = 3) ∧ (clsOf W P k neg = 1 ↔ kindT W P k = 2) ∧ ((clsOf W P k neg = 2 ∨ clsOf W P k neg = 9) ↔ k = infP W P) ∧ ((clsOf W P k neg = 5 ∨ clsOf W P k neg = 6) ↔ k = 0) := by
  unfold clsOf kindT
  generalize infP W P = I at *
  generalize 2 ^ (P - 2) = Q at *
  by_cases c1 : I + Q ≤ k
  · have e1 : ¬ k < I := by omega
    have e2 : ¬ k = I := by omega
    have e3 : ¬ k = 0 := by omega
    simp [c1, e1, e2, e3]
  · by_cases c2 : I < k
    · have e1 : ¬ k < I := by omega
      have e2 : ¬ k = I := by omega
      have e3 : ¬ k = 0 := by omega
      simp [c1, c2, e1, e2, e3]
    · by_cases c3 : k = I
      · have e1 : ¬ I + Q ≤ I := by omega
        have e3 : ¬ I = 0 := by omega
        subst c3
        cases neg <;> simp [e1, e3]
      · have e1 : k < I := by omega
        by_cases c4 : k = 0
        · subst c4
          cases neg <;> simp [c1, c2, c3, e1]
        · cases neg
          · simp only [c1, c2, c3, c4, e1, if_true, if_false, Bool.false_eq_true]
            split <;> simp
          · simp only [c1, c2, c3, c4, e1, if_true, if_false]
            split <;> simp
theorem mlR_pk {W P x y : Nat} (hi : 0 < infP W P) (hp : 0 < 2 ^ (P - 2)) (sx sy : Bool) (N I Z : Int) (r : Int × Int × Int) : mlR (clsOf W P x sx) (clsOf W P y sy) N I Z r =
    if infP W P < x ∨ infP W P < y then (N, if (kindT W P x == 3 || kindT W P y == 3) = true then 1 else 0, 0)
    else if (x = infP W P ∧ y = 0) ∨ (x = 0 ∧ y = infP W P) then (N, 1, 0)
    else if x = infP W P ∨ y = infP W P then (I, 0, 0) else if x = 0 ∨ y = 0 then (Z, 0, 0) else r := by
  obtain ⟨a1, a2, a3, a4⟩ := cls_kind (k := x) hi hp sx
  obtain ⟨b1, b2, b3, b4⟩ := cls_kind (k := y) hi hp sy
  have ka := kind_nan (W := W) (P := P) (k := x)
  have kb := kind_nan (W := W) (P := P) (k := y)
  unfold mlR
  have e1 : (clsOf W P x sx = 2 ∨ clsOf W P x sx = 9 ∨ clsOf W P y sy = 2 ∨ clsOf W P y sy = 9) ↔ (x = infP W P ∨ y = infP W P) := by rw [← a3, ← b3, or_assoc]
  have e2 : (clsOf W P x sx = 5 ∨ clsOf W P x sx = 6 ∨ clsOf W P y sy = 5 ∨ clsOf W P y sy = 6) ↔ (x = 0 ∨ y = 0) := by rw [← a4, ← b4, or_assoc]
  simp only [e1, e2]
  simp only [a1, a2, a3, a4, b1, b2, b3, b4]
  simp only [← ka, ← kb]
  generalize kindT W P x = u at *
  generalize kindT W P y = v at *
  by_cases c1 : u = 3 ∨ v = 3
  · have e : (u == 3 || v == 3) = true := by rcases c1 with c | c <;> simp [c]
    rw [if_pos c1, e, if_pos (by omega)]; rfl
  · have e : (u == 3 || v == 3) = false := by
      have h1 : u ≠ 3 := fun g => c1 (.inl g)
      have h2 : v ≠ 3 := fun g => c1 (.inr g)
      simp [h1, h2]
    rw [if_neg c1, e]
    by_cases c2 : u = 2 ∨ v = 2
    · rw [if_pos c2, if_pos (by omega)]; rfl
    · rw [if_neg c2, if_neg (show ¬ ((u = 3 ∨ u = 2) ∨ v = 3 ∨ v = 2) by omega)]
theorem dvR_pk {W P x y : Nat} (hi : 0 < infP W P) (hp : 0 < 2 ^ (P - 2)) (sx sy : Bool) (N I Z : Int) (r : Int × Int × Int) : dvR (clsOf W P x sx) (clsOf W P y sy) N I Z r =
    if infP W P < x ∨ infP W P < y then (N, if (kindT W P x == 3 || kindT W P y == 3) = true then 1 else 0, 0)
    else if (x = infP W P ∧ y = infP W P) ∨ (x = 0 ∧ y = 0) then (N, 1, 0)
    else if x = infP W P then (I, 0, 0) else if y = 0 then (I, 2, 0) else if y = infP W P then (Z, 0, 0) else if x = 0 then (Z, 0, 0) else r := by
  obtain ⟨a1, a2, a3, a4⟩ := cls_kind (k := x) hi hp sx
  obtain ⟨b1, b2, b3, b4⟩ := cls_kind (k := y) hi hp sy
  have ka := kind_nan (W := W) (P := P) (k := x)
  have kb := kind_nan (W := W) (P := P) (k := y)
  unfold dvR
  simp only [a1, a2, a3, a4, b1, b2, b3, b4]
  simp only [← ka, ← kb]
  generalize kindT W P x = u at *
  generalize kindT W P y = v at *
  by_cases c1 : u = 3 ∨ v = 3
  · have e : (u == 3 || v == 3) = true := by rcases c1 with c | c <;> simp [c]
    rw [if_pos c1, e, if_pos (by omega)]; rfl
  · have e : (u == 3 || v == 3) = false := by
      have h1 : u ≠ 3 := fun g => c1 (.inl g)
      have h2 : v ≠ 3 := fun g => c1 (.inr g)
      simp [h1, h2]
    rw [if_neg c1, e]
    by_cases c2 : u = 2 ∨ v = 2
    · rw [if_pos c2, if_pos (by omega)]; rfl
    · rw [if_neg c2, if_neg (show ¬ ((u = 3 ∨ u = 2) ∨ v = 3 ∨ v = 2) by omega)]
section
variable {f : Int} {W P : Nat} {em ex : Int} (h : Fm f W P em ex)
include h
/-- A pattern's parts, where it is no NaN. -/
theorem partsF {a : Nat} (ha : a < 2 ^ W) (hn : ¬ (infP W P < pk W a)) : ∃ (kd : Int) (n : Bool) (l : List Int) (e : Int), Ev (fun k => verniertop_parts k f (a : Int)) (ps W a, (kd, (n, (l, e)))) ∧ ((pk W a = infP W P ∧ kd = 1) ∨
    (pk W a < infP W P ∧ kd = 0 ∧ n = ps W a ∧ RepT (em - (P : Int) + 1) (ps W a) l e (sg (ps W a) (plV P (pk W a))) ∧ e ≤ em - (P : Int) + 1 + 3000 ∧ ((l.length : Int) == 0) = decide (pk W a = 0))) := by
  have h8 := h.p8
  obtain ⟨p1, p2⟩ := partsK h ha
  by_cases c : pk W a < infP W P
  · obtain ⟨l, e, q1, q2, q3⟩ := p1 c
    refine ⟨0, _, l, e, q1, .inr ⟨c, rfl, rfl, q2, q3, ?_⟩⟩
    by_cases c0 : pk W a = 0
    · rw [decide_eq_true c0]
      have z : plV P (pk W a) = 0 := (plV_zero (P := P) (by omega)).2 c0
      rw [z, tsg_zero] at q2
      rw [q2.empty]; rfl
    · rw [decide_eq_false c0]
      have := q2.some' (fun e => c0 ((plV_zero (P := P) (by omega)).1 (by have := congrArg Int.natAbs e; rwa [tsg_abs] at this)))
      exact beq_eq_false_iff_ne.2 (by omega)
  · have e : pk W a = infP W P := by omega
    have := p2 (by omega)
    rw [show kindT W P (pk W a) = 1 by unfold kindT; rw [if_neg c, if_pos e]] at this
    exact ⟨1, _, _, _, this, .inl ⟨e, rfl⟩⟩
end
end Go.Proofs.YtldjheckpophaaaDoor.X
