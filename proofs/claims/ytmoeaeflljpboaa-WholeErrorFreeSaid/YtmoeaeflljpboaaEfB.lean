/- Plain law: a float's halves, and Dekker's product: what is left of a product is a float. No conditions beyond those that each states. -/
import Derived.Test.YtmoeaeflljpboaaEfA
namespace Go.Proofs.Ytmoeaeflljpboaa.X
open Go Go.Rex
set_option linter.unusedVariables false

theorem RN_zero : RN 0 = 0 := RN_of Rep.zero
theorem RN_neg (z : Int) : RN (-z) = -RN z := by
  by_cases h0 : z = 0
  · subst h0; rw [Int.neg_zero, RN_zero]; rfl
  have e : ∀ (n1 n2 : Bool), rnd 53 0 n1 z.natAbs 1 = rnd 53 0 n2 z.natAbs 1 := by
    intro n1 n2
    unfold rnd cutN chs ups
    simp only [if_true]
  unfold RN
  rw [Int.natAbs_neg, e (decide (-z < 0)) (decide (z < 0))]
  unfold sval
  by_cases c : z < 0
  · rw [decide_eq_true c, decide_eq_false (show ¬ (-z < 0) by omega), if_neg (by simp), if_pos rfl, Int.neg_neg]
  · rw [decide_eq_false c, decide_eq_true (show -z < 0 by omega), if_pos rfl, if_neg (by simp)]
/-- A float's own step. -/
theorem Rep.step {a : Int} (h : Rep a) : ∃ c : Int, a = c * ((2 ^ (blen a.natAbs - 53) : Nat) : Int) := by
  obtain ⟨m, q, h1, h2⟩ := h
  refine mult_down ?_ h2
  have : a.natAbs < 2 ^ (53 + q) := by
    rw [h2, Int.natAbs_mul, Int.natAbs_natCast, Nat.pow_add]
    exact Nat.mul_lt_mul_of_pos_right h1 (Nat.two_pow_pos q)
  have := blen_le_iff.2 this
  omega
theorem Rep.descend {z : Int} {D : Nat} (h : Rep (z * ((2 ^ D : Nat) : Int))) : Rep z := by
  obtain ⟨m, q, h1, h2⟩ := h
  have hp := Nat.two_pow_pos D
  rcases Nat.le_total D q with g | g
  · obtain ⟨j, rfl⟩ := Nat.exists_eq_add_of_le g
    refine ⟨m, j, h1, ?_⟩
    rw [Nat.pow_add, Nat.mul_comm, Int.natCast_mul, ← Int.mul_assoc] at h2
    exact Int.eq_of_mul_eq_mul_right (by omega) h2
  · obtain ⟨j, rfl⟩ := Nat.exists_eq_add_of_le g
    refine ⟨z, 0, ?_, by simp⟩
    have hq := Nat.two_pow_pos q
    rw [Nat.pow_add, Nat.mul_comm, Int.natCast_mul, ← Int.mul_assoc] at h2
    have e := Int.eq_of_mul_eq_mul_right (by omega) h2
    have : z.natAbs * 2 ^ j = m.natAbs := by rw [← e, Int.natAbs_mul, Int.natAbs_natCast]
    have := Nat.le_mul_of_pos_right z.natAbs (Nat.two_pow_pos j)
    omega

/-- The halves of a float above 0. -/
theorem split_pos {a c d h l : Int} (ha : Rep a) (h0 : 0 < a) (hc : c = RN (134217729 * a)) (hd : d = RN (c - a)) (hh : h = RN (c - d)) (hl : l = RN (a - h)) :
    h + l = a ∧ (∃ η : Int, h = η * ((2 ^ (blen a.natAbs - 26) : Nat) : Int) ∧ η.natAbs ≤ 2 ^ 26) ∧ (∃ μ : Int, l = μ * ((2 ^ (blen a.natAbs - 53) : Nat) : Int)) ∧ 2 ^ 27 * l.natAbs ≤ 2 ^ blen a.natAbs := by
  obtain ⟨m0, hm0⟩ := ha.step
  have hn0 : a.natAbs ≠ 0 := by omega
  have b1 := blen_le hn0
  have b2 := blen_lt a.natAbs
  rcases Nat.lt_or_ge (blen a.natAbs) 27 with g | g
  · -- few bits: all is exact
    have hlt : a.natAbs < 2 ^ 26 := Nat.lt_of_lt_of_le b2 (Nat.pow_le_pow_right (by decide) (by omega))
    have p26 : (2 : Nat) ^ 26 = 67108864 := rfl
    have p53 : (2 : Nat) ^ 53 = 9007199254740992 := rfl
    have r1 : Rep (134217729 * a) := ⟨134217729 * a, 0, by omega, by simp⟩
    rw [RN_of r1] at hc
    have r2 : Rep (c - a) := ⟨a, 27, by omega, by rw [hc]; simp; omega⟩
    rw [RN_of r2] at hd
    have e1 : c - d = a := by omega
    rw [e1, RN_of ha] at hh
    rw [hh, Int.sub_self, RN_zero] at hl
    refine ⟨by omega, ⟨a, ?_, by omega⟩, ⟨0, by rw [hl, Int.zero_mul]⟩, by rw [hl]; simp⟩
    rw [show blen a.natAbs - 26 = 0 by omega, hh]; simp
  · obtain ⟨t, ht⟩ : ∃ t, blen a.natAbs = t + 27 := ⟨blen a.natAbs - 27, by omega⟩
    rw [ht] at b1 b2 hm0
    have p1 := Nat.two_pow_pos t
    have eT1 : 2 ^ (t + 27 - 1) = 2 ^ 26 * 2 ^ t := by rw [show t + 27 - 1 = 26 + t by omega, Nat.pow_add]
    have eT : 2 ^ (t + 27) = 2 ^ 27 * 2 ^ t := by rw [Nat.add_comm, Nat.pow_add]
    have e2T : 2 ^ (t + 1) = 2 * 2 ^ t := by rw [Nat.pow_succ, Nat.mul_comm]
    have e4T : 2 ^ (t + 2) = 4 * 2 ^ t := by rw [Nat.pow_add, Nat.mul_comm]
    have e8T : 2 ^ (t + 3) = 8 * 2 ^ t := by rw [Nat.pow_add, Nat.mul_comm]
    -- the step of a
    have hgT : 2 ^ t ≤ 2 ^ 26 * 2 ^ (t + 27 - 53) := by
      rw [← Nat.pow_add]; exact Nat.pow_le_pow_right (by decide) (by omega)
    have hg1 := Nat.two_pow_pos (t + 27 - 53)
    have hgdvd : t + 27 - 53 ≤ t + 1 := by omega
    have hgdvd0 : t + 27 - 53 ≤ t := by omega
    rw [eT1] at b1
    rw [eT] at b2
    have p26 : (2 : Nat) ^ 26 = 67108864 := rfl
    have p27 : (2 : Nat) ^ 27 = 134217728 := rfl
    have p52 : (2 : Nat) ^ 52 = 4503599627370496 := rfl
    have p53 : (2 : Nat) ^ 53 = 9007199254740992 := rfl
    rw [p26] at b1 hgT
    rw [p27] at b2
    -- a's place among the multiples of its step
    have hlow : a = 67108864 * ((2 ^ t : Nat) : Int) ∨ 67108864 * ((2 ^ t : Nat) : Int) + ((2 ^ (t + 27 - 53) : Nat) : Int) ≤ a := by
      obtain ⟨n1, hn1⟩ := mult_down hgdvd0 (show 67108864 * ((2 ^ t : Nat) : Int) = 67108864 * ((2 ^ t : Nat) : Int) from rfl)
      by_cases e : a = 67108864 * ((2 ^ t : Nat) : Int)
      · exact .inl e
      · have := mult_apart hm0 hn1 e
        right; omega
    have hhigh : a + ((2 ^ (t + 27 - 53) : Nat) : Int) ≤ 134217728 * ((2 ^ t : Nat) : Int) := by
      obtain ⟨n1, hn1⟩ := mult_down hgdvd0 (show 134217728 * ((2 ^ t : Nat) : Int) = 134217728 * ((2 ^ t : Nat) : Int) from rfl)
      have := mult_apart hm0 hn1 (by omega)
      omega
    -- the first product
    obtain ⟨q1, c1, f1, f2, f3, f4, f5, f6⟩ := RN_spec6 (134217729 * a)
    rw [← hc] at f1 f2 f5
    rw [p53] at f6
    rw [p52] at f3
    have hq1 : t + 1 ≤ q1 := by
      refine Nat.le_of_not_lt fun g2 => ?_
      have : 2 ^ q1 ≤ 2 ^ t := Nat.pow_le_pow_right (by decide) (by omega)
      omega
    have hq1' : q1 ≤ t + 2 := by
      refine Nat.le_of_not_lt fun g2 => ?_
      have h8 : 2 ^ (t + 3) ≤ 2 ^ q1 := Nat.pow_le_pow_right (by decide) g2
      rw [e8T] at h8
      have := f3.resolve_left (by omega)
      omega
    have hq1T : 2 ^ q1 ≤ 4 * 2 ^ t := by rw [← e4T]; exact Nat.pow_le_pow_right (by decide) hq1'
    obtain ⟨c1', f1'⟩ := mult_down hq1 f1
    -- the second
    obtain ⟨q2, d1, k1, k2, k3, k4, k5, k6⟩ := RN_spec6 (c - a)
    rw [← hd] at k1 k2 k5
    rw [p53] at k6
    rw [p52] at k3
    have hz2 : 9007199254740992 * ((2 ^ t : Nat) : Int) ≤ c - a ∧ c - a ≤ 18014398509481984 * ((2 ^ t : Nat) : Int) := by
      rcases hlow with e | e
      · have r1 : Rep (134217729 * a) := by
          refine ⟨134217729, 26 + t, by decide, ?_⟩
          rw [e, Nat.pow_add, p26, Int.natCast_mul]
          rfl
        rw [RN_of r1] at hc
        constructor <;> omega
      · constructor <;> omega
    have hq2 : t + 1 ≤ q2 := by
      refine Nat.le_of_not_lt fun g2 => ?_
      have : 2 ^ q2 ≤ 2 ^ t := Nat.pow_le_pow_right (by decide) (by omega)
      omega
    obtain ⟨d1', k1'⟩ := mult_down hq2 k1
    have hε : (d - (c - a)).natAbs ≤ 2 ^ t := by
      rcases Nat.lt_or_ge (t + 1) q2 with g2 | g2
      · have h4 : 2 ^ (t + 2) ≤ 2 ^ q2 := Nat.pow_le_pow_right (by decide) g2
        rw [e4T] at h4
        have := k3.resolve_left (by omega)
        have ex : c - a = 18014398509481984 * ((2 ^ t : Nat) : Int) := by omega
        have r2 : Rep (c - a) := by
          refine ⟨1, 54 + t, by decide, ?_⟩
          rw [ex, Nat.pow_add, Int.natCast_mul, Int.one_mul]
          rfl
        rw [RN_of r2] at hd
        omega
      · obtain rfl : q2 = t + 1 := by omega
        rw [e2T] at k2
        omega
    -- the upper half
    have hcd := mult_sub f1' k1'
    have hη : (c1' - d1').natAbs ≤ 67108864 := by
      have e1 : (c - d).natAbs = (c1' - d1').natAbs * 2 ^ (t + 1) := by rw [hcd, Int.natAbs_mul, Int.natAbs_natCast]
      have e2 : (c - d).natAbs < 134217728 * 2 ^ t + 2 * 2 ^ t := by omega
      rw [e1, e2T] at e2
      have e3 : (c1' - d1').natAbs * (2 * 2 ^ t) < 67108865 * (2 * 2 ^ t) := by omega
      have := Nat.lt_of_mul_lt_mul_right e3
      omega
    have r3 : Rep (c - d) := ⟨_, _, by omega, hcd⟩
    rw [RN_of r3] at hh
    clear f1 f2 f3 f4 f5 f6 k1 k2 k3 k4 k5 k6 hq1 hq1' hq1T hq2 hz2 hlow hhigh
    have hrest : (a - (c - d)).natAbs ≤ 2 ^ t := by omega
    -- the lower half
    obtain ⟨n2, hn2⟩ := mult_down hgdvd hcd
    have hah := mult_sub hm0 hn2
    have r4 : Rep (a - (c - d)) := by
      refine Rep.of hah (Nat.le_trans hrest ?_)
      exact Nat.le_trans (Nat.pow_le_pow_right (by decide) (by omega : t ≤ 53 + (t + 27 - 53))) (Nat.le_of_eq (Nat.pow_add _ _ _))
    rw [hh, RN_of r4] at hl
    rw [ht]
    refine ⟨by omega, ⟨c1' - d1', ?_, by rw [p26]; exact hη⟩, ⟨m0 - n2, by rw [hl]; exact hah⟩, ?_⟩
    · rw [show t + 27 - 26 = t + 1 by omega, hh]; exact hcd
    · rw [eT, p27, hl]
      exact Nat.mul_le_mul_left _ hrest
/-- The halves of a float. -/
theorem split_any {a c d h l : Int} (ha : Rep a) (hc : c = RN (134217729 * a)) (hd : d = RN (c - a)) (hh : h = RN (c - d)) (hl : l = RN (a - h)) :
    h + l = a ∧ (∃ η : Int, h = η * ((2 ^ (blen a.natAbs - 26) : Nat) : Int) ∧ η.natAbs ≤ 2 ^ 26) ∧ (∃ μ : Int, l = μ * ((2 ^ (blen a.natAbs - 53) : Nat) : Int)) ∧ 2 ^ 27 * l.natAbs ≤ 2 ^ blen a.natAbs := by
  rcases Int.lt_trichotomy a 0 with g | g | g
  · obtain ⟨e1, ⟨η, e2, e3⟩, ⟨μ, e4⟩, e5⟩ := split_pos (a := -a) (c := -c) (d := -d) (h := -h) (l := -l) ha.neg (by omega)
      (by rw [hc, ← RN_neg]; congr 1; omega) (by rw [hd, ← RN_neg]; congr 1; omega) (by rw [hh, ← RN_neg]; congr 1; omega) (by rw [hl, ← RN_neg]; congr 1; omega)
    rw [Int.natAbs_neg] at e2 e4 e5
    rw [Int.natAbs_neg] at e5
    refine ⟨by omega, ⟨-η, by rw [Int.neg_mul, ← e2, Int.neg_neg], by rw [Int.natAbs_neg]; exact e3⟩, ⟨-μ, by rw [Int.neg_mul, ← e4, Int.neg_neg]⟩, e5⟩
  · subst g
    rw [Int.mul_zero, RN_zero] at hc
    rw [hc, Int.sub_zero, RN_zero] at hd
    rw [hc, hd, Int.sub_zero, RN_zero] at hh
    rw [hh, Int.sub_zero, RN_zero] at hl
    exact ⟨by omega, ⟨0, by rw [hh, Int.zero_mul], by simp⟩, ⟨0, by rw [hl, Int.zero_mul]⟩, by rw [hl]; simp⟩
  · exact split_pos ha g hc hd hh hl
end Go.Proofs.Ytmoeaeflljpboaa.X
