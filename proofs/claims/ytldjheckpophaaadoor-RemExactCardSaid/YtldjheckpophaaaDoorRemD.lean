/- Plain law: what a remainder takes away; Remainder and Mod of two numbers (or a zero and a number); what both raise. Conditions: the format is one of the four, the patterns of its width. -/
import Derived.Test.YtldjheckpophaaaDoorRemC
namespace Go.Proofs.YtldjheckpophaaaDoor.X
open Go Go.Rex
set_option linter.unusedVariables false

theorem up_lt {near : Bool} {A B : Nat} (hB : 0 < B) (c : upR near A B = true) : B ≤ 2 * (A % B) ∧ near = true := by
  unfold upR at c
  simp only [Bool.and_eq_true, Bool.or_eq_true, decide_eq_true_eq] at c
  rcases c.2 with g | g
  · exact ⟨by omega, c.1⟩
  · exact ⟨by omega, c.1⟩
theorem left_half {A B : Nat} (hB : 0 < B) : 2 * leftR true A B ≤ B := by
  have h1 := Nat.mod_lt A hB
  unfold leftR
  by_cases c : upR true A B = true
  · have := (up_lt hB c).1
    rw [if_pos c]; omega
  · rw [if_neg c]
    unfold upR at c
    simp only [Bool.and_eq_true, Bool.or_eq_true, decide_eq_true_eq, true_and] at c
    omega
theorem sign_false (s : Bool) (A B : Nat) : signR false s A B = s := by
  have : upR false A B = false := rfl
  unfold signR; rw [this]; simp
theorem sign_zero {near s : Bool} {A B : Nat} (h : leftR near A B = 0) : signR near s A B = s := by unfold signR; rw [if_pos h]
/-- What is taken away is so often b. -/
theorem rem_diff (near s : Bool) (A : Nat) {B : Nat} (hB : 0 < B) : sg s A + -(sg (signR near s A B) (leftR near A B)) = sg s (oftenR near A B * B) := by
  have h0 := Nat.div_add_mod A B
  have h1 := Nat.mod_lt A hB
  by_cases c : upR near A B = true
  · have e1 : leftR near A B = B - A % B := by unfold leftR; rw [if_pos c]
    have e2 : oftenR near A B * B = A + (B - A % B) := by
      unfold oftenR; rw [if_pos c, Nat.add_mul, Nat.mul_comm (A / B)]; omega
    have e3 : signR near s A B = !s := by unfold signR; rw [if_neg (by omega), if_pos c]
    rw [e2, e3, e1]
    generalize A % B = r at *
    unfold sg; cases s <;> simp <;> omega
  · have e1 : leftR near A B = A % B := by unfold leftR; rw [if_neg c]
    have e2 : oftenR near A B * B = A - A % B := by
      unfold oftenR; rw [if_neg c, Nat.mul_comm]; omega
    have e3 : signR near s A B = s := by unfold signR; split <;> first | rfl | (rw [if_neg c])
    have h3 := Nat.mod_le A B
    rw [e2, e3, e1]
    generalize A % B = r at *
    unfold sg; cases s <;> simp <;> omega
theorem spZ_flags (c d a N : Int) {r r' : Int × (Int × (Int × Int))} (h : r.2.2 = (0, 0)) (h' : r'.2.2 = (0, 0)) : (spZ c d a N r).2.2.1 = (spZ c d a N r').2.2.1 ∧ (spZ c d a N r).2.2.2 = 0 ∧ (spZ c d a N r').2.2.2 = 0 := by
  unfold spZ
  split
  · exact ⟨rfl, rfl, rfl⟩
  · split
    · exact ⟨rfl, rfl, rfl⟩
    · split
      · exact ⟨rfl, rfl, rfl⟩
      · split
        · exact ⟨rfl, rfl, rfl⟩
        · rw [h, h']; exact ⟨rfl, rfl, rfl⟩
section
variable {f : Int} {W P : Nat} {em ex : Int} (h : Fm f W P em ex)
include h
theorem rem_fin {a b : Nat} (ha : a < 2 ^ W) (hb : b < 2 ^ W) (near : Bool) (g1 : pk W a < infP W P) (g2 : pk W b ≠ 0 ∧ pk W b < infP W P) : ∃ K, plV P K = leftR near (plV P (pk W a)) (plV P (pk W b)) ∧ K < infP W P ∧
    Ev (fun k => rem_remainder k f (a : Int) (b : Int) near) (((K + sgB (signR near (ps W a) (plV P (pk W a)) (plV P (pk W b))) W : Nat) : Int), (((oftenR near (plV P (pk W a)) (plV P (pk W b)) % 8 : Nat) : Int), ((0 : Int), (0 : Int)))) := by
  have h8 := h.p8
  by_cases z : pk W a = 0
  · have i1 : 0 < infP W P := by omega
    have hv : plV P (pk W a) = 0 := (plV_zero (P := P) (by omega)).2 z
    have hV : plV P (pk W b) ≠ 0 := fun e => g2.1 ((plV_zero (P := P) (by omega)).1 e)
    have u0 : upR near 0 (plV P (pk W b)) = false := by
      unfold upR
      rw [Nat.zero_mod, decide_eq_false (by omega), decide_eq_false (show ¬ 2 * 0 = plV P (pk W b) by omega)]; simp
    have l0 : leftR near 0 (plV P (pk W b)) = 0 := by unfold leftR; rw [u0, if_neg (by simp), Nat.zero_mod]
    have o0 : oftenR near 0 (plV P (pk W b)) = 0 := by unfold oftenR; rw [u0, if_neg (by simp), Nat.zero_div]
    obtain ⟨p1, p2, p3, p4, p5, p6⟩ := pat_parts h ha
    refine ⟨0, by rw [hv, l0]; exact (plV_zero (by omega)).2 rfl, i1, ?_⟩
    have r := rem_at h ha hb near
    rw [hv, sign_zero l0, o0]
    have pa : ((0 + sgB (ps W a) W : Nat) : Int) = (a : Int) := by rw [z] at p4; rw [← p4]
    rw [pa]
    obtain ⟨c, hc, hc5⟩ : ∃ c, clsOf W P (pk W a) (ps W a) = c ∧ (c = 5 ∨ c = 6) := by
      refine ⟨_, rfl, ?_⟩
      have hq := Nat.two_pow_pos (P - 2)
      unfold clsOf
      rw [if_neg (by omega), if_neg (by omega)]
      cases ps W a
      · rw [if_neg (by simp), if_neg (by omega), if_pos z]; exact .inr rfl
      · rw [if_pos rfl, if_neg (by omega), if_pos z]; exact .inl rfl
    rw [hc] at r
    refine Ev.eq r ?_
    rcases cls_num (neg := ps W b) g2.1 g2.2 with e | e | e | e <;> rw [e] <;> rcases hc5 with rfl | rfl <;> rfl
  · obtain ⟨K, k1, k2⟩ := rem_ev h ha hb near
    obtain ⟨q1, q2⟩ := k1 ⟨z, g1⟩ g2
    refine ⟨K, q1, q2, Ev.eq k2 ?_⟩
    rcases cls_num (neg := ps W a) z g1 with e | e | e | e <;> rcases cls_num (neg := ps W b) g2.1 g2.2 with e' | e' | e' | e' <;> rw [e, e'] <;> rfl
end
end Go.Proofs.YtldjheckpophaaaDoor.X
