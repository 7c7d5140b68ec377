/- Plain law: layer 12: the rounding to whole numbers; the reference's Open. Conditions: the format is one of the four, the patterns are of its width. -/
import Derived.Test.YtmoeaeflljpboaaDoorRnD
import Derived.Test.YtmoeaeflljpboaaDoorRfE
namespace Go.Proofs.YtmoeaeflljpboaaDoor.X
open Go Go.Rex
set_option linter.unusedVariables false

theorem cls_num' {W P p : Nat} {neg : Bool} (h0 : p ≠ 0) (h1 : p < infP W P) : clsOf W P p neg = 3 ∨ clsOf W P p neg = 4 ∨ clsOf W P p neg = 7 ∨ clsOf W P p neg = 8 := by
  have := Nat.two_pow_pos (P - 2)
  unfold clsOf
  rw [if_neg (by omega), if_neg (by omega)]
  cases neg
  · rw [if_neg (by simp), if_neg (by omega), if_neg h0]; split <;> simp
  · rw [if_pos rfl, if_neg (by omega), if_neg h0]; split <;> simp
/-- A pattern's class, each with what it says of the place. -/
theorem cls_all {W P p : Nat} {neg : Bool} (hi : 0 < infP W P) : ∃ c, clsOf W P p neg = c ∧ ((c = 0 ∧ infP W P < p ∧ p < infP W P + 2 ^ (P - 2)) ∨ (c = 1 ∧ infP W P < p ∧ ¬ p < infP W P + 2 ^ (P - 2)) ∨ (c = 2 ∧ p = infP W P ∧ neg = true) ∨ (c = 9 ∧ p = infP W P ∧ neg = false) ∨ (c = 5 ∧ p = 0 ∧ neg = true) ∨ (c = 6 ∧ p = 0 ∧ neg = false) ∨ ((c = 3 ∨ c = 4 ∨ c = 7 ∨ c = 8) ∧ p ≠ 0 ∧ p < infP W P)) := by
  have hq := Nat.two_pow_pos (P - 2)
  by_cases c1 : infP W P + 2 ^ (P - 2) ≤ p
  · exact ⟨1, by unfold clsOf; rw [if_pos c1], by simp; omega⟩
  by_cases c2 : infP W P < p
  · exact ⟨0, by unfold clsOf; rw [if_neg c1, if_pos c2], by simp; omega⟩
  by_cases c3 : p = infP W P
  · cases neg
    · exact ⟨9, by unfold clsOf; rw [if_neg c1, if_neg c2, if_neg (by simp), if_pos c3], by simp; omega⟩
    · exact ⟨2, by unfold clsOf; rw [if_neg c1, if_neg c2, if_pos rfl, if_pos c3], by simp; omega⟩
  by_cases c4 : p = 0
  · cases neg
    · exact ⟨6, by unfold clsOf; rw [if_neg c1, if_neg c2, if_neg (by simp), if_neg c3, if_pos c4], by simp; omega⟩
    · exact ⟨5, by unfold clsOf; rw [if_neg c1, if_neg c2, if_pos rfl, if_neg c3, if_pos c4], by simp; omega⟩
  exact ⟨_, rfl, by have := cls_num' (neg := neg) c4 (show p < infP W P by omega); omega⟩
/-! ### Whole numbers -/
/-- The unit's denominator; a number rounded to a whole one; is that another one? -/
def wD (P : Nat) (em : Int) : Nat := p2 (-(em - (P : Int) + 1))
def wU (P : Nat) (em m : Int) (s : Bool) (p : Nat) : Nat := cutN m s (plV P p) (wD P em)
def wL (P : Nat) (em : Int) (p : Nat) : Bool := decide (lftN (plV P p) (wD P em) ≠ 0)
/-- The whole one's place. -/
def wK (P : Nat) (em m : Int) (s : Bool) (p : Nat) : Nat := flr P (wU P em m s p * wD P em) 1
theorem wD_pos (P : Nat) (em : Int) : 0 < wD P em := p2_pos _
theorem flr_at' {P K V : Nat} (hP : 2 ≤ P) (hK : plV P K = V) : flr P V 1 = K := by
  obtain ⟨r1, r2⟩ := rnd_exact (k := K) (B := 1) hP (by decide) 2 false
  rw [Nat.mul_one, hK] at r1 r2
  rw [rnd_flr hP, r2, chs_zero] at r1
  exact r1
theorem short_place' {P u q : Nat} (hP : 2 ≤ P) (hu : u < 2 ^ P) : ∃ k, plV P k = u * 2 ^ q := by
  by_cases c0 : u = 0
  · exact ⟨0, by rw [c0, Nat.zero_mul]; exact (plV_zero (by omega)).2 rfl⟩
  have hl : lftP P (u * 2 ^ q) 1 = 0 := by
    have hbu : blen u ≤ P := blen_le_iff.2 hu
    have hsh : shf P (u * 2 ^ q) 1 ≤ q := by
      unfold shf
      rw [Nat.div_one, blen_pow_mul c0]; omega
    unfold lftP
    rw [lftN_zero, Nat.one_mul]
    obtain ⟨d, hd⟩ : ∃ d, q = shf P (u * 2 ^ q) 1 + d := ⟨q - shf P (u * 2 ^ q) 1, by omega⟩
    generalize shf P (u * 2 ^ q) 1 = z at *
    rw [hd, Nat.pow_add, ← Nat.mul_assoc, Nat.mul_comm u, Nat.mul_assoc]
    exact Nat.mul_mod_right _ _
  have hfl := (lftP_zero (P := P) (by omega) (by decide)).1 hl
  rw [Nat.mul_one] at hfl
  exact ⟨_, hfl.symm⟩
/-- Far to the right nothing but a rest is left. -/
theorem cut_far (m : Int) (s : Bool) {n t : Nat} (hn : n < 2 ^ 53) (ht : 54 ≤ t) : cutN m s n (2 ^ t) = chs m s 0 (if n = 0 then 0 else 1) ∧ lftN n (2 ^ t) = (if n = 0 then 0 else 1) := by
  have h1 : 2 ^ 54 ≤ 2 ^ t := pow_mono2 ht
  have h54 : (2 : Nat) ^ 54 = 18014398509481984 := rfl
  have h53 : (2 : Nat) ^ 53 = 9007199254740992 := rfl
  have e1 : n / 2 ^ t = 0 := Nat.div_eq_of_lt (by omega)
  have e2 : n % 2 ^ t = n := Nat.mod_eq_of_lt (by omega)
  have e3 : lft n (2 ^ t) = (if n = 0 then 0 else 1) := by
    unfold lft
    by_cases c : n = 0
    · rw [if_pos c, if_pos c]
    · rw [if_neg c, if_neg c, if_pos (by omega)]
  unfold cutN lftN
  rw [e1, e2, e3]
  exact ⟨rfl, rfl⟩
theorem wrap1 {u : Nat} (hu : u < 9223372036854775808) : IntKind.u64.wrap ((u : Int) + 1) = ((u + 1 : Nat) : Int) := by rw [wrap_u64]; omega
section
variable {f : Int} {W P : Nat} {em ex : Int} (h : Fm f W P em ex)
include h
theorem p_ex : (P : Int) ≤ ex := by
  rcases fm_cases h with ⟨_, _, rfl, _, rfl⟩ | ⟨_, _, rfl, _, rfl⟩ | ⟨_, _, rfl, _, rfl⟩ | ⟨_, _, rfl, _, rfl⟩ <;> decide
theorem wD_pow : ∃ t : Nat, wD P em = 2 ^ t ∧ (t : Int) = -(em - (P : Int) + 1) ∧ 1 ≤ t ∧ t ≤ 2000 := by
  have h8 := h.p8; have h53 := h.p53; have m0 := h.m0; have m1 := h.m1
  obtain ⟨t, ht⟩ : ∃ t : Nat, -(em - (P : Int) + 1) = (t : Int) := ⟨(-(em - (P : Int) + 1)).toNat, by omega⟩
  exact ⟨t, by unfold wD; rw [ht, p2_nat], ht.symm, by omega, by omega⟩
/-- A pattern's significand and its exponent. -/
theorem sig_ex (p : Nat) (hp : p < 2 ^ (W - 1)) : fN P (p / 2 ^ (P - 1)) (p % 2 ^ (P - 1)) < 2 ^ P ∧ fQ (p / 2 ^ (P - 1)) ≤ 2047 := by
  have h8 := h.p8; have h11 := h.wp11; have h3 := h.wp
  have hF := Nat.mod_lt p (Nat.two_pow_pos (P - 1))
  have h2 := pow_half (P := P) (by omega)
  have hE : p / 2 ^ (P - 1) < 2 ^ (W - P) := by
    refine Nat.div_lt_of_lt_mul ?_
    rw [← Nat.pow_add, show P - 1 + (W - P) = W - 1 by omega]; exact hp
  have hE2 : 2 ^ (W - P) ≤ 2 ^ 11 := pow_mono2 (by omega)
  constructor
  · unfold fN; split <;> omega
  · unfold fQ; split <;> omega
/-- The whole number's place. -/
theorem wK_ok {m : Int} {p : Nat} (s : Bool) (hp : p < infP W P) : plV P (wK P em m s p) = wU P em m s p * wD P em ∧ wK P em m s p < infP W P := by
  have h8 := h.p8; have h53 := h.p53; have m0 := h.m0; have m1 := h.m1
  obtain ⟨x1, x2, x3⟩ := fm_ex h
  have hpe := p_ex h
  have hip := infP_le h
  have hpp := Nat.two_pow_pos (P - 1)
  obtain ⟨t, t1, t2, t3, t4⟩ := wD_pow h
  obtain ⟨s1, s2⟩ := sig_ex h p (by omega)
  have hv := plV_pat (P := P) (by omega) p
  have fin : ∀ K, plV P K = wU P em m s p * wD P em → K < infP W P → plV P (wK P em m s p) = wU P em m s p * wD P em ∧ wK P em m s p < infP W P := fun K k1 k2 => by
    unfold wK
    rw [flr_at' (P := P) (by omega) k1]; exact ⟨k1, k2⟩
  generalize fN P (p / 2 ^ (P - 1)) (p % 2 ^ (P - 1)) = N at *
  generalize fQ (p / 2 ^ (P - 1)) = q at *
  by_cases c : t ≤ q
  · -- whole already
    have he : plV P p = N * 2 ^ (q - t) * 2 ^ t := by rw [Nat.mul_assoc, ← Nat.pow_add, show q - t + t = q by omega, hv]
    have hu : wU P em m s p = N * 2 ^ (q - t) := by
      unfold wU cutN
      rw [t1, he, Nat.mul_mod_left, Nat.mul_div_cancel _ (Nat.two_pow_pos t)]
      have : lft 0 (2 ^ t) = 0 := by unfold lft; rw [if_pos rfl]
      rw [this, chs_zero]
    exact fin p (by rw [hu, t1, he]) hp
  · have hu : wU P em m s p = cutN m s N (2 ^ (t - q)) := by
      unfold wU
      rw [t1, ← hv]
      refine cutN_cross m s (Nat.two_pow_pos _) (Nat.two_pow_pos _) ?_
      rw [Nat.mul_assoc, ← Nat.pow_add, show q + (t - q) = t by omega]
    have hlt : wU P em m s p ≤ 2 ^ (P - 1) := by
      rw [hu]
      unfold cutN
      have h1 := chs_le m s (N / 2 ^ (t - q)) (lft (N % 2 ^ (t - q)) (2 ^ (t - q)))
      have h2 : N / 2 ^ (t - q) ≤ N / 2 := by
        have : 2 ^ 1 ≤ 2 ^ (t - q) := pow_mono2 (by omega)
        exact Nat.div_le_div_left (by omega) (by decide)
      have h3 := pow_half (P := P) (by omega)
      omega
    have h3 := pow_half (P := P) (by omega)
    obtain ⟨K, k1⟩ := short_place' (P := P) (q := t) (by omega) (show wU P em m s p < 2 ^ P by omega)
    refine fin K (by rw [t1]; exact k1) ?_
    refine Nat.lt_of_not_le fun g => ?_
    have a1 := (plV_le (P := P) (by omega)).2 g
    rw [k1, plV_inf h] at a1
    have a2 := Nat.mul_le_mul_right (2 ^ t) hlt
    have a3 : 2 ^ (P - 1) * 2 ^ t < 2 ^ (P - 1) * 2 ^ (eTop W P - 1) := by
      rw [← Nat.pow_add, ← Nat.pow_add]
      exact Nat.pow_lt_pow_right (by decide) (by omega)
    omega
end
end Go.Proofs.YtmoeaeflljpboaaDoor.X
