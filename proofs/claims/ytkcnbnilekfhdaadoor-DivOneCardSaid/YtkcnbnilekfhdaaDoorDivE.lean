/- Plain law: layer 8's law: finite; numbers' classes. Conditions: the format is one of the four. -/
import Derived.Test.YtkcnbnilekfhdaaDoorDivC
namespace Go.Proofs.YtkcnbnilekfhdaaDoor.X
open Go Go.Rex
set_option linter.unusedVariables false

theorem cls_num {W P p : Nat} {neg : Bool} (h0 : p ≠ 0) (h1 : p < infP W P) : clsOf W P p neg = 3 ∨ clsOf W P p neg = 4 ∨ clsOf W P p neg = 7 ∨ clsOf W P p neg = 8 := by
  have := Nat.two_pow_pos (P - 2)
  unfold clsOf
  rw [if_neg (by omega), if_neg (by omega)]
  cases neg
  · rw [if_neg (by simp), if_neg (by omega), if_neg h0]; split <;> simp
  · rw [if_pos rfl, if_neg (by omega), if_neg h0]; split <;> simp
theorem dvR_num {c d : Int} (hc : c = 3 ∨ c = 4 ∨ c = 7 ∨ c = 8) (hd : d = 3 ∨ d = 4 ∨ d = 7 ∨ d = 8) (N I Z : Int) (r : Int × Int × Int) : dvR c d N I Z r = r := by
  rcases hc with rfl | rfl | rfl | rfl <;> rcases hd with rfl | rfl | rfl | rfl <;> simp [dvR]
section
variable {f : Int} {W P : Nat} {em ex : Int} (h : Fm f W P em ex)
include h
theorem finite08_ev {a : Nat} (ha : a < 2 ^ W) : (¬ (pk W a ≠ 0 ∧ pk W a < infP W P) → ∃ b l e, Ev (fun k => vernierlaw08_finite k f (a : Int)) (b, (l, (e, false)))) ∧
    (pk W a ≠ 0 → pk W a < infP W P → Ev (fun k => vernierlaw08_finite k f (a : Int)) (ps W a, (digs (oddN (plV P (pk W a))), (em - (P : Int) + 1 + (tz (plV P (pk W a)) : Int), true)))) := by
  obtain ⟨v1, v2, v3⟩ := value_pk h ha
  constructor
  · intro g
    by_cases c : infP W P ≤ pk W a
    · exact ⟨_, _, _, Ev.congr (fun k => vernierlaw08_finite_eq k _ _) (Ev.bind (Ev.of (v1 c)) (Ev.neg (bF (by decide)) (Ev.some _)))⟩
    · have hz : pk W a = 0 := by omega
      exact ⟨_, _, _, Ev.congr (fun k => vernierlaw08_finite_eq k _ _) (Ev.bind (Ev.of (v2 hz)) (Ev.pos (bT rfl) (Ev.some _)))⟩
  · intro g1 g2
    have hi := infP_le h
    have hp := Nat.two_pow_pos (P - 1)
    obtain ⟨w1, w2, w3, w4⟩ := plV_facts h g1 (by omega)
    have l0 := digs_len_pos.2 (oddN_ne w1)
    refine Ev.congr (fun k => vernierlaw08_finite_eq k _ _) (Ev.bind (Ev.of (v3 g1 g2)) (Ev.pos (bT rfl) (Ev.eq (Ev.some _) ?_)))
    show (ps W a, (digs (oddN (plV P (pk W a))), (em - (P : Int) + 1 + (tz (plV P (pk W a)) : Int), decide (((digs (oddN (plV P (pk W a)))).length : Int) > 0)))) = _
    rw [decide_eq_true (show ((digs (oddN (plV P (pk W a)))).length : Int) > 0 by omega)]
end
end Go.Proofs.YtkcnbnilekfhdaaDoor.X
