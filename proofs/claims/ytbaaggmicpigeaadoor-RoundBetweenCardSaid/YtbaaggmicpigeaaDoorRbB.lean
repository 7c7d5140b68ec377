/- Plain law: the two neighbours of a number as layer 5's law looks at them: values, orders, what lies nearer. Conditions: the format is one of the four, the number fits. -/
import Derived.Test.YtbaaggmicpigeaaDoorRbA
import Derived.Test.YtbaaggmicpigeaaDoorDyW
import Derived.Test.YtbaaggmicpigeaaDoorRoG
import Derived.Test.YtbaaggmicpigeaaDoorPlcA
namespace Go.Proofs.YtbaaggmicpigeaaDoor.X
open Go Go.Rex
set_option linter.unusedVariables false

theorem sg_opp (s : Bool) (Y X : Nat) : sg s Y + sg (!s) X = if s = true then (X : Int) - (Y : Int) else (Y : Int) - (X : Int) := by unfold sg; cases s <;> simp <;> omega
/-- The number in units of 2^b against the number in places. -/
theorem xB {n : Nat} {g l b : Int} (h1 : b ≤ g) (h2 : b ≤ l) : rA n g l * p2 (l - b) = n * p2 (g - b) * rB 1 g l := by
  unfold rA rB
  have := p2_common (e := g) (l := l) (b := b) h1 h2
  rw [Nat.mul_assoc, this, Nat.one_mul, Nat.mul_assoc, Nat.mul_comm (p2 (l - g))]
theorem ord_lt {n : Nat} {g l b : Int} (h1 : b ≤ g) (h2 : b ≤ l) (V : Nat) : V * rB 1 g l < rA n g l ↔ V * p2 (l - b) < n * p2 (g - b) := by
  have hp := p2_pos (l - b)
  have hB : 0 < rB 1 g l := rB_pos Nat.one_pos _ _
  rw [← Nat.mul_lt_mul_right (a := p2 (l - b)) hp, xB h1 h2, Nat.mul_right_comm, Nat.mul_lt_mul_right hB]
theorem ord_gt {n : Nat} {g l b : Int} (h1 : b ≤ g) (h2 : b ≤ l) (V : Nat) : rA n g l < V * rB 1 g l ↔ n * p2 (g - b) < V * p2 (l - b) := by
  have hp := p2_pos (l - b)
  have hB : 0 < rB 1 g l := rB_pos Nat.one_pos _ _
  rw [← Nat.mul_lt_mul_right (a := p2 (l - b)) hp, xB h1 h2, Nat.mul_right_comm V, Nat.mul_lt_mul_right hB]
theorem ord_eq {n : Nat} {g l b : Int} (h1 : b ≤ g) (h2 : b ≤ l) (V : Nat) : rA n g l = V * rB 1 g l ↔ n * p2 (g - b) = V * p2 (l - b) := by
  have a := ord_lt (n := n) h1 h2 V
  have b := ord_gt (n := n) h1 h2 V
  omega
/-- Which neighbour is nearer, in units of 2^b. -/
theorem ord_mid {n : Nat} {g l b : Int} (h1 : b ≤ g) (h2 : b ≤ l) {V V' : Nat} (hV : V * rB 1 g l ≤ rA n g l) (hV' : rA n g l ≤ V' * rB 1 g l) :
    (rA n g l - V * rB 1 g l < V' * rB 1 g l - rA n g l ↔ n * p2 (g - b) - V * p2 (l - b) < V' * p2 (l - b) - n * p2 (g - b)) ∧
    (V' * rB 1 g l - rA n g l < rA n g l - V * rB 1 g l ↔ V' * p2 (l - b) - n * p2 (g - b) < n * p2 (g - b) - V * p2 (l - b)) := by
  have hp := p2_pos (l - b)
  have hB : 0 < rB 1 g l := rB_pos Nat.one_pos _ _
  have e0 := xB (n := n) h1 h2
  generalize rA n g l = A at *
  generalize rB 1 g l = B at *
  generalize p2 (l - b) = c at *
  generalize n * p2 (g - b) = X at *
  have e1 : (A - V * B) * c = (X - V * c) * B := by rw [Nat.sub_mul, Nat.sub_mul, e0, Nat.mul_right_comm]
  have e2 : (V' * B - A) * c = (V' * c - X) * B := by rw [Nat.sub_mul, Nat.sub_mul, e0, Nat.mul_right_comm]
  constructor
  · rw [← Nat.mul_lt_mul_right (a := c) hp, e1, e2, Nat.mul_lt_mul_right hB]
  · rw [← Nat.mul_lt_mul_right (a := c) hp, e1, e2, Nat.mul_lt_mul_right hB]
section
variable {f : Int} {W P : Nat} {em ex : Int} (h : Fm f W P em ex)
include h
theorem value5_ev {K : Nat} (hK : K < infP W P) (s : Bool) : ∃ (t : Bool) (N : Nat) (E : Int), Ev (fun k => vernierlaw05_value k f ((K + sgB s W : Nat) : Int)) (t, (digs N, (E, true))) ∧ Sm N E ∧ -8000 ≤ E ∧ E ≤ 3000 ∧ sg t (N * p2 (E - -8000)) = sg s (plV P K * p2 (em - (P : Int) + 1 - -8000)) := by
  have h8 := h.p8; have h53 := h.p53; have m0 := h.m0; have m1 := h.m1
  obtain ⟨x1, x2, x3⟩ := fm_ex h
  have hip := infP_le h
  have hwp := h.wp
  have hpp := Nat.two_pow_pos (P - 1)
  obtain ⟨w1, w2, w3, w4⟩ := wW h
  obtain ⟨p1, p2', p3⟩ := pk_at (W := W) (K := K) (by omega) (by omega) s
  obtain ⟨v1, v2, v3⟩ := value_pk h (a := K + sgB s W) p3
  rw [p1] at v1 v2 v3
  rw [p2'] at v3
  by_cases c : K = 0
  · refine ⟨false, 0, 0, ?_, ⟨by rw [digs_zero]; decide, by decide, by decide⟩, by decide, by decide, ?_⟩
    · refine Ev.congr (fun k => vernierlaw05_value_eq k _ _) (Ev.bind (Ev.of (v2 c)) (Ev.eq (Ev.some _) ?_))
      rw [digs_zero]; rfl
    · have : plV P K = 0 := by rw [c]; unfold plV; rw [if_pos (Nat.two_pow_pos P)]
      rw [this, Nat.zero_mul, Nat.zero_mul]; cases s <;> rfl
  · have hv0 : plV P K ≠ 0 := by
      have := plV_lt (P := P) (by omega) (show 0 < K by omega)
      omega
    have hvlt : plV P K < plV P (infP W P) := plV_lt (by omega) hK
    have het := eTop_le h
    have hb : blen (plV P K) ≤ P - 1 + (eTop W P - 1) := blen_le_iff.2 (by rw [Nat.pow_add, ← plV_inf h]; exact hvlt)
    have htz := tz_blen hv0
    have hdl : (digs (plV P K)).length ≤ 40 := digs_shortQ (Nat.lt_of_lt_of_le (blen_lt _) (pow_mono2 hb)) (by omega)
    refine ⟨s, oddN (plV P K), em - (P : Int) + 1 + (tz (plV P K) : Int), ?_, ?_, by omega, ?_, ?_⟩
    · exact Ev.congr (fun k => vernierlaw05_value_eq k _ _) (Ev.bind (Ev.of (v3 c hK)) (Ev.some _))
    · exact ⟨Nat.le_trans (digs_len_mono (oddN_le _)) (by omega), by omega, by omega⟩
    · omega
    · unfold p2
      rw [odd_val hv0 (em - (P : Int) + 1) (-8000) (by omega)]
theorem value5_inf (s : Bool) : Ev (fun k => vernierlaw05_value k f ((infP W P + sgB s W : Nat) : Int)) (false, ([], (0, false))) := by
  have h8 := h.p8
  have hip := infP_le h
  have hwp := h.wp
  have hpp := Nat.two_pow_pos (P - 1)
  obtain ⟨w1, w2, w3, w4⟩ := wW h
  obtain ⟨p1, p2', p3⟩ := pk_at (W := W) (K := infP W P) (by omega) (by omega) s
  obtain ⟨v1, v2, v3⟩ := value_pk h (a := infP W P + sgB s W) p3
  rw [p1] at v1
  exact Ev.congr (fun k => vernierlaw05_value_eq k _ _) (Ev.bind (Ev.of (v1 (Nat.le_refl _))) (Ev.some _))
theorem inf5_ev (s : Bool) : Ev (fun k => vernierlaw05_infinite k f ((infP W P + sgB s W : Nat) : Int)) true := by
  have h8 := h.p8
  have hip := infP_le h
  have hwp := h.wp
  have hpp := Nat.two_pow_pos (P - 1)
  have hq := Nat.two_pow_pos (P - 2)
  obtain ⟨w1, w2, w3, w4⟩ := wW h
  obtain ⟨p1, p2', p3⟩ := pk_at (W := W) (K := infP W P) (by omega) (by omega) s
  have c := class_pk h (a := infP W P + sgB s W) p3
  rw [p1, p2'] at c
  have e : clsOf W P (infP W P) s = if s = true then 2 else 9 := by
    unfold clsOf
    rw [if_neg (by omega), if_neg (by omega), if_pos rfl, if_pos rfl]
  rw [e] at c
  refine Ev.congr (fun k => vernierlaw05_infinite_eq k _ _) (Ev.bind (Ev.of c) ?_)
  cases s
  · exact Ev.pos rfl (Ev.neg (bF (by decide)) (Ev.some _))
  · exact Ev.pos rfl (Ev.pos rfl (Ev.some _))
end
end Go.Proofs.YtbaaggmicpigeaaDoor.X
