/- Plain law: layer 8's law: finite; numbers' classes. Conditions: the format is one of the four. -/
import Derived.Test.YtldjheckpophaaaDoorDivC
namespace Go.Proofs.YtldjheckpophaaaDoor.X
open Go Go.Rex
set_option linter.unusedVariables false

theorem cls_num {W P p : Nat} {neg : Bool} (h0 : p ≠ 0) (h1 : p < infP W P) : clsOf W P p neg = 3 ∨ clsOf W P p neg = 4 ∨ clsOf W P p neg = 7 ∨ clsOf W P p neg = 8 := by
  have := Nat.two_pow_pos (P - 2)
  unfold clsOf
  rw [if_neg (by omega), if_neg (by omega)]
  cases neg
  · rw [if_neg (by simp), if_neg (by omega), if_neg h0]; split <;> simp
  · rw [if_pos rfl, if_neg (by omega), if_neg h0]; split <;> simp
theorem dvR_num {c d : Int} (hc : c = 3 ∨ c = 4 ∨ c = 7 ∨ c = 8) (hd : d = 3 ∨ d = 4 ∨ d = 7 ∨ d = 8) (N I Z : Int) (r : Int × Int × Int) : dvR c d N I Z r = r := by
  rcases hc with rfl | rfl | rfl | rfl <;> rcases hd with rfl | rfl | rfl | rfl <;> simp [dvR]
section
variable {f : Int} {W P : Nat} {em ex : Int} (h : Fm f W P em ex)
include h
/-- Powers of two, as patterns. -/
theorem pow_pat {K : Nat} (h1 : 1 ≤ K) (h2 : K < eTop W P) : K * 2 ^ (P - 1) ≠ 0 ∧ K * 2 ^ (P - 1) < infP W P ∧ K * 2 ^ (P - 1) < 2 ^ W ∧ pk W (K * 2 ^ (P - 1)) = K * 2 ^ (P - 1) ∧ ps W (K * 2 ^ (P - 1)) = false ∧ plV P (K * 2 ^ (P - 1)) = 2 ^ (P + K - 2) ∧ tz (plV P (K * 2 ^ (P - 1))) = P + K - 2 ∧ oddN (plV P (K * 2 ^ (P - 1))) = 1 := by
  have h8 := h.p8; have h3 := h.wp
  have hp := Nat.two_pow_pos (P - 1)
  have hi := infP_le h
  obtain ⟨w1, w2, w3, w4⟩ := wW h
  have hlt : K * 2 ^ (P - 1) < infP W P := by unfold infP; exact (Nat.mul_lt_mul_right hp).2 h2
  have h0 : K * 2 ^ (P - 1) ≠ 0 := Nat.mul_ne_zero (by omega) (by omega)
  have hv : plV P (K * 2 ^ (P - 1)) = 2 ^ (P + K - 2) := by
    have e : K * 2 ^ (P - 1) = (K - 1) * 2 ^ (P - 1) + 2 ^ (P - 1) := by
      obtain ⟨t, rfl⟩ : ∃ t, K = t + 1 := ⟨K - 1, by omega⟩
      rw [Nat.add_sub_cancel, Nat.succ_mul]
    rw [e, plV_at (by omega) (.inr (Nat.le_refl _)) (pow_mono2 (by omega)), ← Nat.pow_add]
    congr 1; omega
  have ht : tz (plV P (K * 2 ^ (P - 1))) = P + K - 2 := by
    rw [hv]
    have := tz_eq (P + K - 2) 0
    rw [Nat.mul_zero, Nat.zero_add, Nat.mul_one] at this
    exact this
  refine ⟨h0, hlt, by omega, Nat.mod_eq_of_lt (by omega), decide_eq_false (by omega), hv, ht, ?_⟩
  unfold oddN
  rw [ht, hv, Nat.div_self (Nat.two_pow_pos _)]
end
end Go.Proofs.YtldjheckpophaaaDoor.X
