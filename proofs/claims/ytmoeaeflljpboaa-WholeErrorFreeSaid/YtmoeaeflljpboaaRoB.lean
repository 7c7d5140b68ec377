/- Plain law: layer 5's into: bits and flags of a number, as the plain rounding to a place says. Conditions: the number's natural is short and not 0, its exponent moderate; with an unknown rest it has enough bits. -/
import Derived.Test.YtmoeaeflljpboaaRoA
namespace Go.Proofs.Ytmoeaeflljpboaa.X
open Go Go.Rex
set_option linter.unusedVariables false

theorem blen_pow_mul {n : Nat} (h : n ≠ 0) (x : Nat) : blen (n * 2 ^ x) = blen n + x := by
  have h1 := blen_le h
  have h2 := blen_lt n
  have h3 := blen_pos h
  have := blen_eq (n := n * 2 ^ x) (k := blen n - 1 + x) (by rw [Nat.pow_add]; exact Nat.mul_le_mul_right _ h1) (by
    rw [show blen n - 1 + x + 1 = blen n + x by omega, Nat.pow_add]
    exact Nat.mul_lt_mul_of_pos_right h2 (Nat.two_pow_pos x))
  omega
theorem blen_div_pow {n : Nat} (h : n ≠ 0) (y : Nat) : blen (n / 2 ^ y) = blen n - y := by
  rcases Nat.lt_or_ge n (2 ^ y) with c | c
  · rw [Nat.div_eq_of_lt c, blen_zero]
    have := blen_bound c; omega
  · have := blen_div c; omega
/-- Tiny: rounded as if the exponent had no bound, nearer to zero than the least normal one. -/
def tinyB (P : Nat) (m : Int) (neg : Bool) (A B : Nat) : Bool := decide (A < B * 2 ^ (P - 1)) && decide (cutN m neg (2 * A) B < 2 ^ P)
/-- The bits and the flags of A / B units of the least place. -/
def rnOut (W P : Nat) (m : Int) (neg : Bool) (A B : Nat) : Int × Int :=
  if infP W P ≤ rnd P m neg A B then (((beyN W P m neg : Nat) : Int), 20)
  else (((rnd P m neg A B + sgB neg W : Nat) : Int), if lftP P A B = 0 then 0 else if tinyB P m neg A B then 24 else 16)
theorem tinyB_cross (P : Nat) (m : Int) (neg : Bool) {A B A' B' : Nat} (hB : 0 < B) (hB' : 0 < B') (h : A * B' = A' * B) : tinyB P m neg A B = tinyB P m neg A' B' := by
  unfold tinyB
  rw [cutN_cross m neg (A := 2 * A) (A' := 2 * A') hB hB' (by rw [Nat.mul_assoc, h, Nat.mul_assoc])]
  have : A < B * 2 ^ (P - 1) ↔ A' < B' * 2 ^ (P - 1) := by
    have e1 : A < B * 2 ^ (P - 1) ↔ A * B' < B * 2 ^ (P - 1) * B' := (Nat.mul_lt_mul_right hB').symm
    have e2 : A' < B' * 2 ^ (P - 1) ↔ A' * B < B' * 2 ^ (P - 1) * B := (Nat.mul_lt_mul_right hB).symm
    have e3 : B * 2 ^ (P - 1) * B' = B' * 2 ^ (P - 1) * B := by grind
    rw [e1, e2, h, e3]
  simp only [this]
theorem rnOut_cross (W P : Nat) (m : Int) (neg : Bool) {A B A' B' : Nat} (hB : 0 < B) (hB' : 0 < B') (h : A * B' = A' * B) : rnOut W P m neg A B = rnOut W P m neg A' B' := by
  unfold rnOut
  rw [rnd_cross P m neg hB hB' h, lftP_cross hB hB' h, tinyB_cross P m neg hB hB' h]
/-- The rounded last bits: at most P bits and a carry. -/
theorem cut_facts {P A B : Nat} (hP : 1 ≤ P) (hB : 0 < B) (m : Int) (neg : Bool) : cutN m neg A (B * 2 ^ shf P A B) ≤ 2 ^ P ∧ (shf P A B = 0 ∨ 2 ^ (P - 1) ≤ cutN m neg A (B * 2 ^ shf P A B)) := by
  obtain ⟨h1, h2⟩ := shf_facts (A := A) hP hB
  have h3 := chs_ge m neg (A / (B * 2 ^ shf P A B)) (lft (A % (B * 2 ^ shf P A B)) (B * 2 ^ shf P A B))
  have h4 := chs_le m neg (A / (B * 2 ^ shf P A B)) (lft (A % (B * 2 ^ shf P A B)) (B * 2 ^ shf P A B))
  unfold cutN
  constructor
  · omega
  · omega
theorem blen_le_iff {n k : Nat} : blen n ≤ k ↔ n < 2 ^ k := by
  constructor
  · intro h; exact Nat.lt_of_lt_of_le (blen_lt n) (Nat.pow_le_pow_right (by decide) h)
  · exact blen_bound

theorem cut_at (n : Nat) (e : Int) (more : Bool) (em : Int) (P s : Nat) (m : Int) (neg : Bool) : 
    cutN m neg (qA n e more (em - (P : Int) + 1 + (s : Int))) (qB e more (em - (P : Int) + 1 + (s : Int))) = cutN m neg (qA n e more (em - (P : Int) + 1)) (qB e more (em - (P : Int) + 1) * 2 ^ s) ∧
    lftN (qA n e more (em - (P : Int) + 1 + (s : Int))) (qB e more (em - (P : Int) + 1 + (s : Int))) = lftN (qA n e more (em - (P : Int) + 1)) (qB e more (em - (P : Int) + 1) * 2 ^ s) := by
  have hc := q_cross n e more (q := em - (P : Int) + 1 + (s : Int)) (l := em - (P : Int) + 1) (by omega)
  rw [show em - (P : Int) + 1 + (s : Int) - (em - (P : Int) + 1) = (s : Int) by omega, p2_nat] at hc
  have b1 := qB_pos e more (em - (P : Int) + 1 + (s : Int))
  have b2 := Nat.mul_pos (qB_pos e more (em - (P : Int) + 1)) (Nat.two_pow_pos s)
  exact ⟨cutN_cross m neg b1 b2 hc, lftN_cross b1 b2 hc⟩
theorem small_bl {n P : Nat} (h5 : P ≤ 53) (hb : blen n ≤ P + 1) : (digs n).length ≤ 1000 := by
  have : (digs n).length ≤ 1 := digs_length_lt.2 (by
    rw [Nat.pow_one]
    exact Nat.lt_of_lt_of_le (blen_le_iff.1 hb) (pow_mono2 (b := 64) (by omega)))
  omega
section
variable {f : Int} {W P : Nat} {em ex : Int} (h : Fm f W P em ex)
include h
/-- Beyond: by the bits of what is rounded. -/
theorem over_iff {s n : Nat} (hn : n ≤ 2 ^ P) (hs : s = 0 ∨ 2 ^ (P - 1) ≤ n) (hse : (s : Int) ≤ ex - em) : (em - (P : Int) + 1 + (s : Int) + (blen n : Int) - 1 > ex) ↔ infP W P ≤ s * 2 ^ (P - 1) + n := by
  obtain ⟨x1, x2, x3⟩ := fm_ex h
  have h8 := h.p8
  have m0 := h.m0
  have m1 := h.m1
  have hp := Nat.two_pow_pos (P - 1)
  have h2 := pow_half (P := P) (by omega)
  have et : (eTop W P : Int) = 2 * ex + 1 := by rw [x3]; omega
  have hm : ∀ a b : Nat, a * 2 ^ (P - 1) ≤ b * 2 ^ (P - 1) ↔ a ≤ b := fun a b => Nat.mul_le_mul_right_iff hp
  unfold infP
  rcases Nat.lt_or_ge n (2 ^ (P - 1)) with c | c
  · have hs0 : s = 0 := by omega
    have hb := blen_bound c
    subst hs0
    constructor
    · intro g; omega
    · intro g
      have := (hm 1 (eTop W P)).2 (by omega)
      omega
  · rcases Nat.lt_or_ge n (2 ^ P) with c2 | c2
    · have hb : blen n = P - 1 + 1 := blen_eq c (by rw [show P - 1 + 1 = P by omega]; exact c2)
      constructor
      · intro g; omega
      · intro g
        have : eTop W P * 2 ^ (P - 1) < (s + 2) * 2 ^ (P - 1) := by rw [Nat.add_mul]; omega
        have := Nat.lt_of_mul_lt_mul_right this
        omega
    · have hn2 : n = 2 ^ P := by omega
      have hb : blen n = P + 1 := by rw [hn2]; exact blen_eq (Nat.le_refl _) (Nat.pow_lt_pow_right (by decide) (by omega))
      have e : s * 2 ^ (P - 1) + n = (s + 2) * 2 ^ (P - 1) := by rw [hn2, h2, Nat.add_mul]
      rw [e, hm]
      omega
theorem over_top {s n : Nat} (hs : 2 ^ (P - 1) ≤ n) (hse : ex - em < (s : Int)) : infP W P ≤ s * 2 ^ (P - 1) + n := by
  obtain ⟨x1, x2, x3⟩ := fm_ex h
  have m0 := h.m0
  have m1 := h.m1
  have hp := Nat.two_pow_pos (P - 1)
  have et : (eTop W P : Int) = 2 * ex + 1 := by rw [x3]; omega
  unfold infP
  have := Nat.mul_le_mul_right (2 ^ (P - 1)) (show eTop W P ≤ s + 1 by omega)
  rw [Nat.add_mul] at this
  omega

end
end Go.Proofs.Ytmoeaeflljpboaa.X
