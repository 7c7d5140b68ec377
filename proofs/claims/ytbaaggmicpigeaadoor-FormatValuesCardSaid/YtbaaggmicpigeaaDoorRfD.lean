/- Plain law: the reference's formats and its Round: the bits and the flags are the plain rounding's. Conditions: the format is one of the four, the lists are short, the exponent is moderate. -/
import Derived.Test.YtbaaggmicpigeaaDoorRfB
import Derived.Test.YtbaaggmicpigeaaDoorRoC
namespace Go.Proofs.YtbaaggmicpigeaaDoor.X
open Go Go.Rex
set_option linter.unusedVariables false

/-! ### Where a quotient's first bit stands -/
theorem r_cross (A B : Nat) (e : Int) {q l : Int} (h : l ≤ q) : rA A e q * (rB B e l * p2 (q - l)) = rA A e l * rB B e q := by
  have h1 := p2_cross e q l
  rw [p2_neg (z := l - q) (by omega), Nat.mul_one] at h1
  unfold rA rB
  have e1 : A * p2 (e - q) * (B * p2 (l - e) * p2 (q - l)) = A * B * (p2 (e - q) * (p2 (l - e) * p2 (q - l))) := by grind
  have e2 : A * p2 (e - l) * (B * p2 (q - e)) = A * B * (p2 (e - l) * p2 (q - e)) := by grind
  rw [e1, e2, h1]
/-- The greatest T with 2^T at most the number. -/
structure TopAt (A B : Nat) (e T : Int) : Prop where
  lo : rB B e T ≤ rA A e T
  hi : rA A e T < 2 * rB B e T
theorem TopAt.blen {A B : Nat} {e T : Int} (hB : 0 < B) (h : TopAt A B e T) (l : Int) : blen (rA A e l / rB B e l) = (T + 1 - l).toNat := by
  have bl := rB_pos hB e l
  have bT := rB_pos hB e T
  rcases Int.lt_or_le T l with c | c
  · have hc := r_cross A B e (q := l) (l := T) (by omega)
    obtain ⟨x, hx⟩ : ∃ x : Nat, l - T = ((x + 1 : Nat) : Int) := ⟨(l - T - 1).toNat, by omega⟩
    rw [hx, p2_nat, Nat.pow_succ] at hc
    have h2 := Nat.mul_lt_mul_of_pos_right h.hi bl
    have hlt : rA A e l < rB B e l := by
      rcases Nat.lt_or_ge (rA A e l) (rB B e l) with g | g
      · exact g
      · exfalso
        have h3 : rB B e l * (rB B e T * 2) ≤ rA A e l * (rB B e T * (2 ^ x * 2)) := Nat.mul_le_mul g (Nat.mul_le_mul_left _ (by have := Nat.two_pow_pos x; omega))
        have e4 : rB B e l * (rB B e T * 2) = 2 * rB B e T * rB B e l := by grind
        omega
    rw [Nat.div_eq_of_lt hlt, blen_zero]; omega
  · have hc := r_cross A B e (q := T) (l := l) c
    obtain ⟨x, hx⟩ : ∃ x : Nat, T - l = (x : Int) := ⟨(T - l).toNat, by omega⟩
    rw [hx, p2_nat] at hc
    have lo : 2 ^ x ≤ rA A e l / rB B e l := by
      rw [Nat.le_div_iff_mul_le bl]
      have h1 := Nat.mul_le_mul_right (rB B e l * 2 ^ x) h.lo
      rw [hc, Nat.mul_comm (rB B e T)] at h1
      have := Nat.le_of_mul_le_mul_right h1 bT
      rw [Nat.mul_comm]; exact this
    have hi : rA A e l / rB B e l < 2 ^ (x + 1) := by
      rw [Nat.div_lt_iff_lt_mul bl]
      have h1 := Nat.mul_lt_mul_of_pos_right h.hi (Nat.mul_pos bl (Nat.two_pow_pos x))
      rw [hc] at h1
      have e2 : 2 * rB B e T * (rB B e l * 2 ^ x) = 2 ^ (x + 1) * rB B e l * rB B e T := by rw [Nat.pow_succ]; grind
      rw [e2] at h1
      exact Nat.lt_of_mul_lt_mul_right h1
    rw [blen_eq lo hi]; omega
theorem top_ex {A B : Nat} (hA : A ≠ 0) (hB : B ≠ 0) (e : Int) : (rB B e ((blen A : Int) - (blen B : Int) + e) ≤ rA A e ((blen A : Int) - (blen B : Int) + e) → TopAt A B e ((blen A : Int) - (blen B : Int) + e)) ∧
    (rA A e ((blen A : Int) - (blen B : Int) + e) < rB B e ((blen A : Int) - (blen B : Int) + e) → TopAt A B e ((blen A : Int) - (blen B : Int) + e - 1)) := by
  have a1 := blen_le hA
  have a2 := blen_lt A
  have a3 := blen_pos hA
  have b1 := blen_le hB
  have b2 := blen_lt B
  have b3 := blen_pos hB
  have key : ∀ z : Int, e - ((blen A : Int) - (blen B : Int) + e) = z → p2 z * 2 ^ blen A = p2 (-z) * 2 ^ blen B := by
    intro z hz
    unfold p2
    rw [← Nat.pow_add, ← Nat.pow_add]
    congr 1; omega
  have k := key _ rfl
  obtain ⟨x, hx⟩ : ∃ x, blen A = x + 1 := ⟨blen A - 1, by omega⟩
  obtain ⟨y, hy⟩ : ∃ y, blen B = y + 1 := ⟨blen B - 1, by omega⟩
  have k2 : p2 (e - ((blen A : Int) - (blen B : Int) + e)) * 2 ^ x = p2 (((blen A : Int) - (blen B : Int) + e) - e) * 2 ^ y := by
    rw [hx, hy, Nat.pow_succ, Nat.pow_succ, ← Nat.mul_assoc, ← Nat.mul_assoc] at k
    have := Nat.eq_of_mul_eq_mul_right (by decide) k
    rw [hx, hy, this]
    congr 2; omega
  have up : rA A e ((blen A : Int) - (blen B : Int) + e) < 2 * rB B e ((blen A : Int) - (blen B : Int) + e) := by
    unfold rA rB
    have h1 : A * p2 (e - ((blen A : Int) - (blen B : Int) + e)) < 2 ^ (x + 1) * p2 (e - ((blen A : Int) - (blen B : Int) + e)) := Nat.mul_lt_mul_of_pos_right (by rw [← hx]; exact a2) (p2_pos _)
    have h2 : 2 ^ y * p2 (((blen A : Int) - (blen B : Int) + e) - e) ≤ B * p2 (((blen A : Int) - (blen B : Int) + e) - e) := Nat.mul_le_mul_right _ (by rw [show y = blen B - 1 by omega]; exact b1)
    rw [Nat.pow_succ] at h1
    have e1 : 2 ^ x * 2 * p2 (e - ((blen A : Int) - (blen B : Int) + e)) = 2 * (p2 (e - ((blen A : Int) - (blen B : Int) + e)) * 2 ^ x) := by grind
    rw [e1, k2, Nat.mul_comm _ (2 ^ y)] at h1
    omega
  refine ⟨fun h => ⟨h, up⟩, fun h => ?_⟩
  -- one place lower
  have hc := r_cross A B e (q := (blen A : Int) - (blen B : Int) + e) (l := (blen A : Int) - (blen B : Int) + e - 1) (by omega)
  rw [show (blen A : Int) - (blen B : Int) + e - ((blen A : Int) - (blen B : Int) + e - 1) = ((1 : Nat) : Int) by omega, p2_nat, Nat.pow_one] at hc
  have lo0 : rB B e ((blen A : Int) - (blen B : Int) + e) ≤ 2 * rA A e ((blen A : Int) - (blen B : Int) + e) := by
    unfold rA rB
    have h1 : 2 ^ x * p2 (e - ((blen A : Int) - (blen B : Int) + e)) ≤ A * p2 (e - ((blen A : Int) - (blen B : Int) + e)) := Nat.mul_le_mul_right _ (by rw [show x = blen A - 1 by omega]; exact a1)
    have h2 : B * p2 (((blen A : Int) - (blen B : Int) + e) - e) ≤ 2 ^ (y + 1) * p2 (((blen A : Int) - (blen B : Int) + e) - e) := Nat.mul_le_mul_right _ (by rw [← hy]; exact Nat.le_of_lt b2)
    rw [Nat.pow_succ] at h2
    have e1 : 2 ^ y * 2 * p2 (((blen A : Int) - (blen B : Int) + e) - e) = 2 * (p2 (((blen A : Int) - (blen B : Int) + e) - e) * 2 ^ y) := by grind
    rw [e1, ← k2, Nat.mul_comm _ (2 ^ x)] at h2
    omega
  have bq := rB_pos (Nat.pos_of_ne_zero hB) e ((blen A : Int) - (blen B : Int) + e)
  have bl := rB_pos (Nat.pos_of_ne_zero hB) e ((blen A : Int) - (blen B : Int) + e - 1)
  generalize rA A e ((blen A : Int) - (blen B : Int) + e) = u at *
  generalize rB B e ((blen A : Int) - (blen B : Int) + e) = v at *
  constructor
  · generalize rA A e ((blen A : Int) - (blen B : Int) + e - 1) = u' at *
    generalize rB B e ((blen A : Int) - (blen B : Int) + e - 1) = v' at *
    have h1 : v' * v ≤ u' * v := by
      rw [← hc]
      have := Nat.mul_le_mul_left v' lo0
      have e3 : u * (v' * 2) = v' * (2 * u) := by grind
      omega
    exact Nat.le_of_mul_le_mul_right h1 bq
  · generalize rA A e ((blen A : Int) - (blen B : Int) + e - 1) = u' at *
    generalize rB B e ((blen A : Int) - (blen B : Int) + e - 1) = v' at *
    have h1 : u' * v < 2 * v' * v := by
      rw [← hc]
      have := Nat.mul_lt_mul_of_pos_right h (show 0 < v' * 2 by omega)
      have e3 : v * (v' * 2) = 2 * v' * v := by grind
      omega
    exact Nat.lt_of_mul_lt_mul_right h1
/-- Tiny, by the bits at the number's own last place. -/
theorem tiny_iff {A B : Nat} {e T em : Int} {P : Nat} (hP : 2 ≤ P) (hB : 0 < B) (h : TopAt A B e T) (m : Int) (neg : Bool) :
    ((blen (cutN m neg (rA A e (T - (P : Int) + 1)) (rB B e (T - (P : Int) + 1))) : Int) + (T - (P : Int) + 1) ≤ em) ↔ tinyB P m neg (rA A e (em - (P : Int) + 1)) (rB B e (em - (P : Int) + 1)) = true := by
  have hq := h.blen hB (em - (P : Int) + 1)
  have hqb := h.blen hB (T - (P : Int) + 1)
  have bl := rB_pos hB e (em - (P : Int) + 1)
  have bq := rB_pos hB e (T - (P : Int) + 1)
  have h2 := pow_half (P := P) (by omega)
  have hp := Nat.two_pow_pos (P - 1)
  have hAB : rA A e (em - (P : Int) + 1) < rB B e (em - (P : Int) + 1) * 2 ^ (P - 1) ↔ T < em := by
    rw [Nat.mul_comm, ← Nat.div_lt_iff_lt_mul bl, ← blen_le_iff, hq]; omega
  rw [show (T + 1 - (T - (P : Int) + 1)).toNat = P by omega] at hqb
  have hu1 : 2 ^ (P - 1) ≤ rA A e (T - (P : Int) + 1) / rB B e (T - (P : Int) + 1) := by
    have := blen_le (n := rA A e (T - (P : Int) + 1) / rB B e (T - (P : Int) + 1)) (by rintro e0; rw [e0, blen_zero] at hqb; omega)
    rwa [hqb] at this
  have hu2 : rA A e (T - (P : Int) + 1) / rB B e (T - (P : Int) + 1) < 2 ^ P := blen_le_iff.1 (by omega)
  have hv1 := chs_ge m neg (rA A e (T - (P : Int) + 1) / rB B e (T - (P : Int) + 1)) (lft (rA A e (T - (P : Int) + 1) % rB B e (T - (P : Int) + 1)) (rB B e (T - (P : Int) + 1)))
  have hv2 := chs_le m neg (rA A e (T - (P : Int) + 1) / rB B e (T - (P : Int) + 1)) (lft (rA A e (T - (P : Int) + 1) % rB B e (T - (P : Int) + 1)) (rB B e (T - (P : Int) + 1)))
  have hcr : T + 1 = em → cutN m neg (rA A e (T - (P : Int) + 1)) (rB B e (T - (P : Int) + 1)) = cutN m neg (2 * rA A e (em - (P : Int) + 1)) (rB B e (em - (P : Int) + 1)) := by
    intro g
    have hc := r_cross A B e (q := em - (P : Int) + 1) (l := T - (P : Int) + 1) (by omega)
    rw [show em - (P : Int) + 1 - (T - (P : Int) + 1) = ((1 : Nat) : Int) by omega, p2_nat, Nat.pow_one] at hc
    refine cutN_cross m neg bq bl ?_
    rw [← hc]; grind
  have hlow : T + 1 < em → cutN m neg (2 * rA A e (em - (P : Int) + 1)) (rB B e (em - (P : Int) + 1)) < 2 ^ P := by
    intro g
    have : 2 * rA A e (em - (P : Int) + 1) / rB B e (em - (P : Int) + 1) < 2 ^ (P - 1) := by
      have g1 : rA A e (em - (P : Int) + 1) / rB B e (em - (P : Int) + 1) < 2 ^ (P - 2) := by
        rw [← blen_le_iff, hq]; omega
      rw [Nat.div_lt_iff_lt_mul bl] at g1 ⊢
      rw [show P - 1 = (P - 2) + 1 by omega, Nat.pow_succ, Nat.mul_comm (2 ^ (P - 2)) 2, Nat.mul_assoc]
      omega
    have c1 := chs_le m neg (2 * rA A e (em - (P : Int) + 1) / rB B e (em - (P : Int) + 1)) (lft (2 * rA A e (em - (P : Int) + 1) % rB B e (em - (P : Int) + 1)) (rB B e (em - (P : Int) + 1)))
    unfold cutN
    omega
  have hv1' : 2 ^ (P - 1) ≤ cutN m neg (rA A e (T - (P : Int) + 1)) (rB B e (T - (P : Int) + 1)) := by unfold cutN; omega
  have hv2' : cutN m neg (rA A e (T - (P : Int) + 1)) (rB B e (T - (P : Int) + 1)) ≤ 2 ^ P := by unfold cutN; omega
  clear hv1 hv2
  unfold tinyB
  rw [Bool.and_eq_true, decide_eq_true_eq, decide_eq_true_eq, hAB]
  generalize cutN m neg (rA A e (T - (P : Int) + 1)) (rB B e (T - (P : Int) + 1)) = v at *
  generalize cutN m neg (2 * rA A e (em - (P : Int) + 1)) (rB B e (em - (P : Int) + 1)) = v' at *
  have hbv : (blen v = P ∧ v < 2 ^ P) ∨ (blen v = P + 1 ∧ v = 2 ^ P) := by
    rcases Nat.lt_or_ge v (2 ^ P) with g | g
    · left
      have := blen_eq (n := v) (k := P - 1) hv1' (by rw [show P - 1 + 1 = P by omega]; exact g)
      exact ⟨by omega, g⟩
    · right
      have g2 : v = 2 ^ P := by omega
      exact ⟨by rw [g2]; exact blen_eq (Nat.le_refl _) (Nat.pow_lt_pow_right (by decide) (by omega)), g2⟩
  constructor
  · intro g
    refine ⟨by omega, ?_⟩
    by_cases g2 : T + 1 = em
    · rw [← hcr g2]; omega
    · exact hlow (by omega)
  · rintro ⟨g1, g2⟩
    by_cases g3 : T + 1 = em
    · rw [← hcr g3] at g2; omega
    · omega

/-! ### The reference's formats -/
section
variable {f : Int} {W P : Nat} {em ex : Int} (h : Fm f W P em ex)
include h
theorem row_at (k : Nat) : vernierref04_Row k f = some ((W : Int), ((P : Int), (em, (ex, true)))) := by
  rw [vernierref04_Row_eq]
  rcases fm_cases h with ⟨rfl, rfl, rfl, rfl, rfl⟩ | ⟨rfl, rfl, rfl, rfl, rfl⟩ | ⟨rfl, rfl, rfl, rfl, rfl⟩ | ⟨rfl, rfl, rfl, rfl, rfl⟩ <;> rfl
end
end Go.Proofs.YtbaaggmicpigeaaDoor.X
