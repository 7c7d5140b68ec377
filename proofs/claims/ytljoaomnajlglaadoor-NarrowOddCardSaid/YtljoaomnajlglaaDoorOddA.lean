/- Plain theory: rounding twice, first to odd, or both times in one direction; no conditions beyond those that each states. -/
import Derived.Test.YtljoaomnajlglaaDoorRnC
namespace Go.Proofs.YtljoaomnajlglaaDoor.X
open Go Go.Rex
set_option linter.unusedVariables false

/-- A / B and A' / B' stand alike to t. -/
def Alike (A B A' B' t : Nat) : Prop := (A < t * B ↔ A' < t * B') ∧ (t * B < A ↔ t * B' < A')
theorem alike_of {A B A' T i j t : Nat} (h : Alike A B A' 1 t) (e : t * 2 ^ i = T * 2 ^ j) : Alike (2 ^ i * A) (B * 2 ^ j) (2 ^ i * A') (2 ^ j) T := by
  have hi := Nat.two_pow_pos i
  have e1 : T * (B * 2 ^ j) = 2 ^ i * (t * B) := by
    calc T * (B * 2 ^ j) = B * (T * 2 ^ j) := by grind
      _ = B * (t * 2 ^ i) := by rw [e]
      _ = 2 ^ i * (t * B) := by grind
  have e2 : T * 2 ^ j = 2 ^ i * (t * 1) := by rw [← e]; grind
  obtain ⟨h1, h2⟩ := h
  unfold Alike
  rw [e1, e2, Nat.mul_lt_mul_left hi, Nat.mul_lt_mul_left hi, Nat.mul_lt_mul_left hi, Nat.mul_lt_mul_left hi]
  exact ⟨h1, h2⟩
section
variable {P A B A' B' : Nat} (hP : 2 ≤ P) (hB : 0 < B) (hB' : 0 < B')
include hP hB hB'
theorem flr_alike (h : ∀ k, Alike A B A' B' (plV P k)) : flr P A' B' = flr P A B := by
  obtain ⟨g1, g2⟩ := flr_facts (A := A) (P := P) (by omega) hB
  refine flr_eq (by omega) hB' ?_ ((h _).1.1 g2)
  have := (h (flr P A B)).1
  omega
theorem lft_alike (h : ∀ k, Alike A B A' B' (plV P k)) (h2 : ∀ k, Alike (2 * A) B (2 * A') B' (plV P k + plV P (k + 1))) : lftP P A' B' = lftP P A B := by
  have hf := flr_alike hP hB hB' h
  obtain ⟨g1, g2⟩ := flr_facts (A := A) (P := P) (by omega) hB
  obtain ⟨k1, k2⟩ := flr_facts (A := A') (P := P) (by omega) hB'
  rw [hf] at k1 k2
  have a1 := h (flr P A B)
  have a2 := h2 (flr P A B)
  rw [lftP_val (by omega) hB, lftP_val (by omega) hB', hf]
  obtain ⟨x1, x2⟩ := a1
  obtain ⟨y1, y2⟩ := a2
  rw [Nat.add_mul, Nat.add_mul] at y1 y2
  generalize plV P (flr P A B) * B = X at *
  generalize plV P (flr P A B + 1) * B = Y at *
  generalize plV P (flr P A B) * B' = X' at *
  generalize plV P (flr P A B + 1) * B' = Y' at *
  unfold lft
  by_cases c1 : A - X = 0
  · rw [if_pos c1, if_pos (by omega)]
  · rw [if_neg c1, if_neg (show ¬ A' - X' = 0 by omega)]
    by_cases c2 : 2 * (A - X) < Y - X
    · rw [if_pos c2, if_pos (by omega)]
    · rw [if_neg c2, if_neg (show ¬ 2 * (A' - X') < Y' - X' by omega)]
      by_cases c3 : 2 * (A - X) = Y - X
      · rw [if_pos c3, if_pos (by omega)]
      · rw [if_neg c3, if_neg (show ¬ 2 * (A' - X') = Y' - X' by omega)]
theorem rnd_alike (m : Int) (neg : Bool) (h : ∀ k, Alike A B A' B' (plV P k)) (h2 : ∀ k, Alike (2 * A) B (2 * A') B' (plV P k + plV P (k + 1))) : rnd P m neg A' B' = rnd P m neg A B := by
  rw [rnd_flr hP, rnd_flr hP, flr_alike hP hB hB' h, lft_alike hP hB hB' h h2]
omit hB hB' in
theorem cut_rnd (m : Int) (neg : Bool) (h : A < B * 2 ^ (P - 1)) : cutN m neg (2 * A) B = rnd P m neg (2 * A) B := by
  have e := pow_half (P := P) (by omega)
  have hl : 2 * A / B < 2 ^ P := Nat.div_lt_of_lt_mul (by rw [e]; have : B * (2 * 2 ^ (P - 1)) = 2 * (B * 2 ^ (P - 1)) := by grind
                                                          omega)
  have hb := blen_le_iff.2 hl
  unfold rnd shf
  rw [show blen (2 * A / B) - P = 0 by omega, Nat.zero_mul, Nat.zero_add, Nat.pow_zero, Nat.mul_one]
theorem tiny_alike (m : Int) (neg : Bool) (h : ∀ k, Alike A B A' B' (plV P k)) (h3 : ∀ k, Alike (2 * A) B (2 * A') B' (plV P k)) (h4 : ∀ k, Alike (2 * (2 * A)) B (2 * (2 * A')) B' (plV P k + plV P (k + 1))) : tinyB P m neg A' B' = tinyB P m neg A B := by
  have e := pow_half (P := P) (by omega)
  have hp := Nat.two_pow_pos (P - 1)
  have a := (h (2 ^ (P - 1))).1
  have v : plV P (2 ^ (P - 1)) = 2 ^ (P - 1) := by unfold plV; rw [if_pos (by omega)]
  rw [v, Nat.mul_comm, Nat.mul_comm (2 ^ (P - 1))] at a
  unfold tinyB
  by_cases c : A < B * 2 ^ (P - 1)
  · have c' := a.1 c
    rw [decide_eq_true c, decide_eq_true c', Bool.true_and, Bool.true_and, cut_rnd hP m neg c, cut_rnd hP m neg c', rnd_alike hP hB hB' m neg h3 h4]
  · rw [decide_eq_false c, decide_eq_false (fun g => c (a.2 g)), Bool.false_and, Bool.false_and]
theorem rnOut_alike (W : Nat) (m : Int) (neg : Bool) (h : ∀ k, Alike A B A' B' (plV P k)) (h2 : ∀ k, Alike (2 * A) B (2 * A') B' (plV P k + plV P (k + 1))) (h3 : ∀ k, Alike (2 * A) B (2 * A') B' (plV P k)) (h4 : ∀ k, Alike (2 * (2 * A)) B (2 * (2 * A')) B' (plV P k + plV P (k + 1))) : rnOut W P m neg A' B' = rnOut W P m neg A B := by
  unfold rnOut
  rw [rnd_alike hP hB hB' m neg h h2, lft_alike hP hB hB' h h2, tiny_alike hP hB hB' m neg h h3 h4]
end
/-! ### Numbers of few digits stand in places; with zeros behind, in even ones -/
theorem plV_rep {P u r : Nat} (hP : 2 ≤ P) (hu : u < 2 ^ P) : ∃ j, plV P j = u * 2 ^ r := by
  by_cases c0 : u * 2 ^ r < 2 ^ P
  · exact ⟨u * 2 ^ r, by unfold plV; rw [if_pos c0]⟩
  · have hu0 : u ≠ 0 := fun e => c0 (by rw [e, Nat.zero_mul]; exact Nat.two_pow_pos P)
    have hb := blen_le_iff.2 hu
    have hl := blen_pow_mul hu0 r
    have hbig : P < blen (u * 2 ^ r) := by
      rcases Nat.lt_or_ge P (blen (u * 2 ^ r)) with g | g
      · exact g
      · exact absurd (blen_le_iff.1 g) c0
    have h1 := blen_pow_mul hu0 (P - blen u)
    have hw0 : u * 2 ^ (P - blen u) ≠ 0 := Nat.mul_ne_zero hu0 (Nat.ne_of_gt (Nat.two_pow_pos _))
    have h2 := blen_le hw0
    have h3 := blen_lt (u * 2 ^ (P - blen u))
    rw [h1, show blen u + (P - blen u) = P by omega] at h2 h3
    refine ⟨(blen u + r - P) * 2 ^ (P - 1) + u * 2 ^ (P - blen u), ?_⟩
    rw [plV_at (by omega) (.inr h2) (Nat.le_of_lt h3), Nat.mul_assoc, ← Nat.pow_add]
    congr 2
    omega
theorem plV_even {P u r : Nat} (hP : 2 ≤ P) (hu : u < 2 ^ (P - 1)) (hr : 1 ≤ r) : ∃ j, plV P (2 * j) = u * 2 ^ r := by
  have e := pow_half (P := P) (by omega)
  by_cases c0 : u * 2 ^ r < 2 ^ P
  · refine ⟨u * 2 ^ (r - 1), ?_⟩
    have er : 2 * (u * 2 ^ (r - 1)) = u * 2 ^ r := by
      rw [show r = (r - 1) + 1 by omega, Nat.pow_succ]
      simp only [Nat.add_sub_cancel]
      grind
    rw [er]; unfold plV; rw [if_pos c0]
  · have hu0 : u ≠ 0 := fun e => c0 (by rw [e, Nat.zero_mul]; exact Nat.two_pow_pos P)
    have hb := blen_le_iff.2 hu
    have hl := blen_pow_mul hu0 r
    have hbig : P < blen (u * 2 ^ r) := by
      rcases Nat.lt_or_ge P (blen (u * 2 ^ r)) with g | g
      · exact g
      · exact absurd (blen_le_iff.1 g) c0
    have h1 := blen_pow_mul hu0 (P - blen u)
    have hw0 : u * 2 ^ (P - blen u) ≠ 0 := Nat.mul_ne_zero hu0 (Nat.ne_of_gt (Nat.two_pow_pos _))
    have h2 := blen_le hw0
    have h3 := blen_lt (u * 2 ^ (P - blen u))
    rw [h1, show blen u + (P - blen u) = P by omega] at h2 h3
    refine ⟨(blen u + r - P) * 2 ^ (P - 2) + u * 2 ^ (P - blen u - 1), ?_⟩
    have ea : 2 * ((blen u + r - P) * 2 ^ (P - 2) + u * 2 ^ (P - blen u - 1)) = (blen u + r - P) * 2 ^ (P - 1) + u * 2 ^ (P - blen u) := by
      have x1 : 2 ^ (P - 1) = 2 ^ (P - 2) * 2 := by rw [← Nat.pow_succ]; congr 1; omega
      have x2 : 2 ^ (P - blen u) = 2 ^ (P - blen u - 1) * 2 := by rw [← Nat.pow_succ]; congr 1; omega
      rw [x1, x2]; grind
    rw [ea, plV_at (by omega) (.inr h2) (Nat.le_of_lt h3), Nat.mul_assoc, ← Nat.pow_add]
    congr 2
    omega
theorem plV_form {P : Nat} (hP : 2 ≤ P) (k : Nat) : ∃ u q, plV P k = u * 2 ^ q ∧ plV P (k + 1) = (u + 1) * 2 ^ q ∧ u < 2 ^ P := by
  obtain ⟨s, u, e, h1, h2⟩ := plV_step (P := P) (by omega) k
  refine ⟨u, s, ?_, ?_, h2⟩
  · rw [e, plV_at (by omega) h1 (by omega)]
  · rw [e, Nat.add_assoc, plV_at (by omega) (by omega) (by omega)]
/-! ### To odd -/
theorem rnd_odd {P A B : Nat} (hP : 2 ≤ P) (hB : 0 < B) (neg : Bool) : (lftP P A B = 0 ∧ rnd P 5 neg A B = flr P A B ∧ A = plV P (flr P A B) * B) ∨ (lftP P A B ≠ 0 ∧ rnd P 5 neg A B % 2 = 1 ∧ (rnd P 5 neg A B = flr P A B ∨ rnd P 5 neg A B = flr P A B + 1) ∧ plV P (flr P A B) * B < A ∧ A < plV P (flr P A B + 1) * B) := by
  obtain ⟨g1, g2⟩ := flr_facts (A := A) (P := P) (by omega) hB
  have hz := lftP_zero (A := A) (P := P) (by omega) hB
  have hr := rnd_flr hP 5 neg A B
  by_cases c : lftP P A B = 0
  · left
    exact ⟨c, by rw [hr, c, chs_zero], hz.1 c⟩
  · right
    have h3 : A ≠ plV P (flr P A B) * B := fun e => c (hz.2 e)
    refine ⟨c, ?_⟩
    unfold chs at hr
    by_cases ho : flr P A B % 2 = 1
    · have : ups 5 neg (flr P A B % 2 == 1) (lftP P A B) = false := by simp [ups, ho]
      rw [this, if_neg (by simp)] at hr
      exact ⟨by omega, .inl hr, by omega, g2⟩
    · have : ups 5 neg (flr P A B % 2 == 1) (lftP P A B) = true := by simp [ups, ho]
      rw [this, if_pos ⟨by omega, rfl⟩] at hr
      exact ⟨by omega, .inr hr, by omega, g2⟩
theorem odd_alike {P A B : Nat} (hP : 2 ≤ P) (hB : 0 < B) (neg : Bool) (j : Nat) : Alike A B (plV P (rnd P 5 neg A B)) 1 (plV P (2 * j)) := by
  have hP1 : 1 ≤ P := by omega
  unfold Alike
  rw [Nat.mul_one]
  rcases rnd_odd (A := A) hP hB neg with ⟨-, e, hA⟩ | ⟨-, hodd, hK, h1, h2⟩
  · rw [e]
    generalize flr P A B = F at *
    rw [hA]
    constructor
    · exact ⟨fun g => Nat.lt_of_mul_lt_mul_right g, fun g => Nat.mul_lt_mul_of_pos_right g hB⟩
    · exact ⟨fun g => Nat.lt_of_mul_lt_mul_right g, fun g => Nat.mul_lt_mul_of_pos_right g hB⟩
  · generalize rnd P 5 neg A B = K at *
    generalize flr P A B = F at *
    have ord : ∀ {x y : Nat}, plV P x < plV P y ↔ x < y := fun {x y} => ⟨fun g => by
      rcases Nat.lt_or_ge x y with c | c
      · exact c
      · have := (plV_le hP1).2 c; omega, plV_lt hP1⟩
    constructor
    · rw [ord]
      constructor
      · intro g
        have : plV P F < plV P (2 * j) := Nat.lt_of_mul_lt_mul_right (a := B) (Nat.lt_trans h1 g)
        have := ord.1 this
        omega
      · intro g
        have : F + 1 ≤ 2 * j := by omega
        exact Nat.lt_of_lt_of_le h2 (Nat.mul_le_mul_right B ((plV_le hP1).2 this))
    · rw [ord]
      constructor
      · intro g
        have : plV P (2 * j) < plV P (F + 1) := Nat.lt_of_mul_lt_mul_right (a := B) (Nat.lt_trans g h2)
        have := ord.1 this
        omega
      · intro g
        have : 2 * j ≤ F := by omega
        exact Nat.lt_of_le_of_lt (Nat.mul_le_mul_right B ((plV_le hP1).2 this)) h1
/-- To odd first, with three digits more and three places finer: as at once. -/
theorem odd_rnOut {Q P s A B : Nat} (hP : 2 ≤ P) (hQ : P + 2 ≤ Q) (hs : 3 ≤ s) (hB : 0 < B) (W : Nat) (m : Int) (neg n' : Bool) : rnOut W P m neg (plV Q (rnd Q 5 n' A B)) (2 ^ s) = rnOut W P m neg A (B * 2 ^ s) ∧ lftP P (plV Q (rnd Q 5 n' A B)) (2 ^ s) = lftP P A (B * 2 ^ s) := by
  have hs0 := Nat.two_pow_pos s
  have key : ∀ (i u q : Nat), i ≤ 2 → u < 2 ^ (P + 1) → Alike (2 ^ i * A) (B * 2 ^ s) (2 ^ i * plV Q (rnd Q 5 n' A B)) (2 ^ s) (u * 2 ^ q) := fun i u q hi hu => by
    have hu2 : u < 2 ^ (Q - 1) := Nat.lt_of_lt_of_le hu (Nat.pow_le_pow_right (by decide) (by omega))
    obtain ⟨j, hj⟩ := plV_even (P := Q) (by omega) hu2 (r := q + s - i) (by omega)
    refine alike_of (odd_alike (by omega) hB n' j) ?_
    rw [hj, Nat.mul_assoc, Nat.mul_assoc, ← Nat.pow_add, ← Nat.pow_add]
    congr 2
    omega
  have hp1 : 2 ^ (P + 1) = 2 * 2 ^ P := by rw [Nat.pow_succ, Nat.mul_comm]
  have a1 : ∀ (i : Nat), i ≤ 2 → ∀ k, Alike (2 ^ i * A) (B * 2 ^ s) (2 ^ i * plV Q (rnd Q 5 n' A B)) (2 ^ s) (plV P k) := fun i hi k => by
    obtain ⟨u, q, e1, e2, e3⟩ := plV_form hP k
    rw [e1]; exact key i u q hi (by omega)
  have a2 : ∀ (i : Nat), i ≤ 2 → ∀ k, Alike (2 ^ i * A) (B * 2 ^ s) (2 ^ i * plV Q (rnd Q 5 n' A B)) (2 ^ s) (plV P k + plV P (k + 1)) := fun i hi k => by
    obtain ⟨u, q, e1, e2, e3⟩ := plV_form hP k
    rw [e1, e2, ← Nat.add_mul]; exact key i _ q hi (by omega)
  have hb : 0 < B * 2 ^ s := Nat.mul_pos hB hs0
  have b0 := a1 0 (by omega)
  have b1 := a1 1 (by omega)
  have c1 := a2 1 (by omega)
  have c2 := a2 2 (by omega)
  simp only [Nat.pow_zero, Nat.one_mul, Nat.pow_one] at b0 b1 c1
  have e4 : ∀ x : Nat, 2 ^ 2 * x = 2 * (2 * x) := fun x => by omega
  simp only [e4] at c2
  exact ⟨rnOut_alike hP hb hs0 W m neg b0 c1 b1 c2, lft_alike hP hb hs0 b0 c1⟩
/-! ### In one direction -/
theorem rnd_down {P A B : Nat} (hP : 2 ≤ P) {m : Int} {neg : Bool} (h : ∀ o l, ups m neg o l = false) : rnd P m neg A B = flr P A B := by
  rw [rnd_flr hP]; unfold chs; rw [h]; simp
theorem rnd_up {P A B : Nat} (hP : 2 ≤ P) (hB : 0 < B) {m : Int} {neg : Bool} (h : ∀ o l, ups m neg o l = true) : (A ≤ plV P (rnd P m neg A B) * B ∧ (rnd P m neg A B ≠ 0 → plV P (rnd P m neg A B - 1) * B < A)) := by
  obtain ⟨g1, g2⟩ := flr_facts (A := A) (P := P) (by omega) hB
  have hz := lftP_zero (A := A) (P := P) (by omega) hB
  have hr := rnd_flr hP m neg A B
  unfold chs at hr
  rw [h] at hr
  by_cases c : lftP P A B = 0
  · rw [if_neg (by omega)] at hr
    have e := hz.1 c
    rw [hr]
    refine ⟨by omega, fun h0 => ?_⟩
    have := Nat.mul_lt_mul_of_pos_right (plV_lt (P := P) (by omega) (show flr P A B - 1 < flr P A B by omega)) hB
    omega
  · rw [if_pos ⟨by omega, rfl⟩] at hr
    have : A ≠ plV P (flr P A B) * B := fun e => c (hz.2 e)
    rw [hr, Nat.add_sub_cancel]
    exact ⟨by omega, fun _ => by omega⟩
theorem rnd_up_eq {P A B k : Nat} (hP : 2 ≤ P) (hB : 0 < B) {m : Int} {neg : Bool} (h : ∀ o l, ups m neg o l = true) (h1 : A ≤ plV P k * B) (h2 : k ≠ 0 → plV P (k - 1) * B < A) : rnd P m neg A B = k := by
  obtain ⟨g1, g2⟩ := rnd_up hP hB h (A := A)
  have ord : ∀ {x y : Nat}, plV P x * B < plV P y * B → x < y := fun {x y} g => by
    have := Nat.lt_of_mul_lt_mul_right g
    rcases Nat.lt_or_ge x y with c | c
    · exact c
    · have := (plV_le (P := P) (by omega)).2 c; omega
  generalize rnd P m neg A B = r at *
  have a1 : r ≠ 0 → r - 1 < k := fun g => ord (Nat.lt_of_lt_of_le (g2 g) h1)
  have a2 : k ≠ 0 → k - 1 < r := fun g => ord (Nat.lt_of_lt_of_le (h2 g) g1)
  omega
/-- In one direction twice: as at once. -/
theorem dir_rnd {Q P s A B : Nat} (hP : 2 ≤ P) (hQ : P ≤ Q) (hB : 0 < B) {m : Int} (neg : Bool) (hm : m = 2 ∨ m = 3 ∨ m = 4) : rnd P m neg (plV Q (rnd Q m neg A B)) (2 ^ s) = rnd P m neg A (B * 2 ^ s) := by
  have hs0 := Nat.two_pow_pos s
  have hb : 0 < B * 2 ^ s := Nat.mul_pos hB hs0
  have inn : ∀ k, ∃ j, plV Q j = plV P k * 2 ^ s := fun k => by
    obtain ⟨u, q, e1, -, e3⟩ := plV_form hP k
    obtain ⟨j, hj⟩ := plV_rep (P := Q) (r := q + s) (by omega) (Nat.lt_of_lt_of_le e3 (Nat.pow_le_pow_right (by decide) hQ))
    exact ⟨j, by rw [hj, e1, Nat.mul_assoc, ← Nat.pow_add]⟩
  have sw : ∀ t : Nat, t * (B * 2 ^ s) = t * 2 ^ s * B := fun t => by grind
  have hu : (∀ o l, ups m neg o l = false) ∨ (∀ o l, ups m neg o l = true) := by
    rcases hm with rfl | rfl | rfl <;> cases neg <;> simp [ups]
  rcases hu with hu | hu
  · rw [rnd_down hP hu, rnd_down hP hu, rnd_down (by omega) hu]
    obtain ⟨g1, g2⟩ := flr_facts (A := A) (P := Q) (by omega) hB
    obtain ⟨k1, k2⟩ := flr_facts (A := A) (B := B * 2 ^ s) (P := P) (by omega) hb
    rw [sw] at k1 k2
    refine flr_eq (by omega) hs0 ?_ ?_
    · obtain ⟨j, hj⟩ := inn (flr P A (B * 2 ^ s))
      rw [← hj] at k1 ⊢
      have : plV Q j < plV Q (flr Q A B + 1) := Nat.lt_of_mul_lt_mul_right (a := B) (by omega)
      refine (plV_le (by omega)).2 ?_
      rcases Nat.lt_or_ge j (flr Q A B + 1) with c | c
      · omega
      · have := (plV_le (P := Q) (by omega)).2 c; omega
    · exact Nat.lt_of_mul_lt_mul_right (a := B) (by omega)
  · obtain ⟨g1, g2⟩ := rnd_up (P := Q) (by omega) hB hu (A := A)
    obtain ⟨k1, k2⟩ := rnd_up (P := P) hP hb hu (A := A)
    refine rnd_up_eq hP hs0 hu ?_ ?_
    · rw [sw] at k1
      obtain ⟨j, hj⟩ := inn (rnd P m neg A (B * 2 ^ s))
      rw [← hj] at k1 ⊢
      refine (plV_le (by omega)).2 ?_
      have := rnd_mono (P := Q) (by omega) hB hB m neg (Nat.mul_le_mul_right B k1)
      rwa [(rnd_exact (P := Q) (by omega) hB m neg).1] at this
    · intro h0
      have := k2 h0
      rw [sw] at this
      exact Nat.lt_of_mul_lt_mul_right (a := B) (by omega)
end Go.Proofs.YtljoaomnajlglaaDoor.X
