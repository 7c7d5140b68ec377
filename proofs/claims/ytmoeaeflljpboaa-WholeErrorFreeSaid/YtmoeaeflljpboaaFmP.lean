/- Plain law: patterns by their sign and their place among those without a sign: Class, Fields, Value. Conditions: the format is one of the four, the pattern is of its width. -/
import Derived.Test.YtmoeaeflljpboaaFmB
import Derived.Test.YtmoeaeflljpboaaFmC
import Derived.Test.YtmoeaeflljpboaaRndA
import Derived.Test.YtmoeaeflljpboaaRoC
namespace Go.Proofs.Ytmoeaeflljpboaa.X
open Go Go.Rex
set_option linter.unusedVariables false

/-- A pattern's place among those without a sign; its sign. -/
def pk (W a : Nat) : Nat := a % 2 ^ (W - 1)
def ps (W a : Nat) : Bool := decide (2 ^ (W - 1) ≤ a)
theorem tz_mul_pow {n : Nat} (h : n ≠ 0) (q : Nat) : tz (n * 2 ^ q) = tz n + q ∧ oddN (n * 2 ^ q) = oddN n := by
  obtain ⟨m, hm⟩ := tz_spec h
  have e1 : n * 2 ^ q = 2 ^ (tz n + q) * (2 * m + 1) := by
    conv => lhs; rw [hm]
    rw [Nat.pow_add]; grind
  have e2 : tz (n * 2 ^ q) = tz n + q := by rw [e1, tz_eq]
  refine ⟨e2, ?_⟩
  unfold oddN
  rw [e2, Nat.add_comm, Nat.pow_add, ← Nat.div_div_eq_div_mul, Nat.mul_div_cancel _ (Nat.two_pow_pos q)]
theorem plV_pat {P : Nat} (hP : 1 ≤ P) (k : Nat) : fN P (k / 2 ^ (P - 1)) (k % 2 ^ (P - 1)) * 2 ^ fQ (k / 2 ^ (P - 1)) = plV P k := by
  have hp := Nat.two_pow_pos (P - 1)
  have h2 := pow_half hP
  have hd := Nat.div_add_mod k (2 ^ (P - 1))
  have hm := Nat.mod_lt k hp
  unfold fN fQ plV
  by_cases c0 : k / 2 ^ (P - 1) = 0
  · rw [c0, Nat.mul_zero] at hd
    rw [if_pos c0, if_pos c0, if_pos (by omega), Nat.pow_zero]; omega
  · rw [if_neg c0, if_neg c0]
    by_cases c1 : k / 2 ^ (P - 1) = 1
    · rw [c1] at hd
      rw [if_pos (by omega), c1, Nat.sub_self, Nat.pow_zero]; omega
    · have h3 := Nat.mul_le_mul_left (2 ^ (P - 1)) (show 2 ≤ k / 2 ^ (P - 1) by have := Nat.zero_le (k / 2 ^ (P - 1)); omega)
      rw [if_neg (by omega), Nat.add_comm]
theorem plV_zero {P : Nat} (hP : 1 ≤ P) {k : Nat} : plV P k = 0 ↔ k = 0 := by
  have h0 : plV P 0 = 0 := by unfold plV; rw [if_pos (Nat.two_pow_pos P)]
  constructor
  · intro g; exact plV_inj hP (by rw [g, h0])
  · rintro rfl; exact h0
/-- A pattern's class. -/
def clsOf (W P k : Nat) (neg : Bool) : Int :=
  if infP W P + 2 ^ (P - 2) ≤ k then 1 else if infP W P < k then 0
  else if neg then (if k = infP W P then 2 else if k = 0 then 5 else if k < 2 ^ (P - 1) then 4 else 3)
  else (if k = infP W P then 9 else if k = 0 then 6 else if k < 2 ^ (P - 1) then 7 else 8)
section
variable {f : Int} {W P : Nat} {em ex : Int} (h : Fm f W P em ex) {a : Nat} (ha : a < 2 ^ W)
include h ha
theorem pat_parts : a / 2 ^ (P - 1) % 2 ^ (W - P) = pk W a / 2 ^ (P - 1) ∧ a % 2 ^ (P - 1) = pk W a % 2 ^ (P - 1) ∧ ((((a / 2 ^ (W - 1) : Nat) : Int) != 0) = ps W a) ∧ a = pk W a + sgB (ps W a) W ∧ pk W a < 2 ^ (W - 1) ∧ a < 18446744073709551616 := by
  have h2 := h.p8; have h3 := h.wp
  obtain ⟨w1, w2, w3, w4⟩ := wW h
  have hp := Nat.two_pow_pos (W - 1)
  have hpw : 2 ^ (W - 1) = 2 ^ (P - 1) * 2 ^ (W - P) := by rw [← Nat.pow_add]; congr 1; omega
  have hm := Nat.mod_lt a hp
  have hd := Nat.div_add_mod a (2 ^ (W - 1))
  refine ⟨?_, ?_, ?_, ?_, hm, by omega⟩
  · unfold pk; rw [hpw, Nat.mod_mul_right_div_self]
  · unfold pk; rw [Nat.mod_mod_of_dvd _ ⟨2 ^ (W - P), hpw⟩]
  · unfold ps
    by_cases c : 2 ^ (W - 1) ≤ a
    · rw [decide_eq_true c]
      have := Nat.div_pos c hp
      exact nT (by omega)
    · rw [decide_eq_false c, Nat.div_eq_of_lt (by omega)]; rfl
  · unfold pk ps sgB
    by_cases c : 2 ^ (W - 1) ≤ a
    · rw [decide_eq_true c, if_pos rfl]
      have : a / 2 ^ (W - 1) = 1 := by
        refine Nat.le_antisymm ?_ (Nat.div_pos c hp)
        have : a / 2 ^ (W - 1) < 2 := by rw [Nat.div_lt_iff_lt_mul hp]; omega
        omega
      rw [this] at hd; omega
    · rw [decide_eq_false c, if_neg (by simp), Nat.mod_eq_of_lt (by omega)]; rfl
theorem field_top : (pk W a / 2 ^ (P - 1) = eTop W P ↔ infP W P ≤ pk W a) ∧ pk W a / 2 ^ (P - 1) < 2 ^ (W - P) ∧ (infP W P ≤ pk W a → pk W a = infP W P + pk W a % 2 ^ (P - 1)) := by
  obtain ⟨p1, p2, p3, p4, p5, p6⟩ := pat_parts h ha
  have h2 := h.p8; have h3 := h.wp
  have hp := Nat.two_pow_pos (P - 1)
  have hpw : 2 ^ (W - 1) = 2 ^ (P - 1) * 2 ^ (W - P) := by rw [← Nat.pow_add]; congr 1; omega
  have hlt : pk W a / 2 ^ (P - 1) < 2 ^ (W - P) := by rw [Nat.div_lt_iff_lt_mul hp, Nat.mul_comm, ← hpw]; exact p5
  have hiff : pk W a / 2 ^ (P - 1) = eTop W P ↔ infP W P ≤ pk W a := by
    unfold infP
    rw [← Nat.le_div_iff_mul_le hp]
    have := eTop_lt W P
    have : eTop W P + 1 = 2 ^ (W - P) := by unfold eTop; omega
    omega
  refine ⟨hiff, hlt, fun g => ?_⟩
  have e := hiff.2 g
  have hd := Nat.div_add_mod (pk W a) (2 ^ (P - 1))
  rw [e] at hd
  unfold infP
  rw [Nat.mul_comm]; omega
end
end Go.Proofs.Ytmoeaeflljpboaa.X
