/- WideRoots, the plain law: every root is the document's. No conditions. -/
import Derived.Test.YtidjigoghdghiaaWideD
import Derived.Test.YtidjigoghdghiaaVx10
import Derived.Test.YtidjigoghdghiaaVx9
namespace Go.Proofs.Ytidjigoghdghiaa.Pure
open Go.RowKit Go.Proofs.Ytidjigoghdghiaa.V Go.Proofs.YtidjigoghdghiaaQ.PrintWords Go.Proofs.Ytidjigoghdghiaa.L

theorem rroot_loop (A r : Nat) (hA : A < 340282366920938463463374607431768211456) (hr : IsRoot A r) (d : Nat) : d ≤ 64 →
    Ev (fun k => vernierref01_Root.l0 k ((r / 2 ^ d * 2 ^ d : Nat) : Int) ((d : Int) - 1) (hi A) (lo A)) ((r : Int), decide (r * r = A)) := by
  have hlt := hr.lt hA
  induction d with
  | zero =>
    intro _
    refine Ev.step (fun k => rfl) ?_
    refine ev_neg (by omega) ?_
    simp only [Nat.pow_zero, Nat.div_one, Nat.mul_one]
    refine Ev.bind (rmul_ev r r hlt hlt) ?_
    refine Ev.bind (rcmp_ev (r * r) A (mul_lt hlt hlt) hA) ?_
    refine ev_some fun k => ?_
    unfold ord
    by_cases h : r * r = A
    · simp [h]
    · by_cases h2 : r * r < A <;> simp [h, h2]
  | succ d ih =>
    intro hd
    refine Ev.step (fun k => rfl) ?_
    rw [show ((d + 1 : Nat) : Int) - 1 = (d : Int) by omega]
    refine ev_pos (by omega) ?_
    have hd64 : d < 64 := by omega
    have hp := pow_lt_64 hd64
    have hp0 : 0 < 2 ^ d := Nat.two_pow_pos d
    have ht := top_succ r d
    have hle := top_le r d
    have hdv := top_dvd r (d + 1)
    have hb : r / 2 ^ d % 2 = 0 ∨ r / 2 ^ d % 2 = 1 := by omega
    have htry : r / 2 ^ (d + 1) * 2 ^ (d + 1) + 2 ^ d < 18446744073709551616 := by
      have h4 : 2 ^ (d + 1) = 2 * 2 ^ d := two_mul_pow d
      have h5 : 18446744073709551616 % 2 ^ (d + 1) = 0 := by
        rw [show 18446744073709551616 = 2 ^ (d + 1) * 2 ^ (63 - d) by rw [← Nat.pow_add, show d + 1 + (63 - d) = 64 by omega]]
        exact Nat.mul_mod_right _ _
      have h6 : r / 2 ^ (d + 1) < 18446744073709551616 / 2 ^ (d + 1) := by
        rw [Nat.div_lt_iff_lt_mul (by omega), Nat.div_mul_cancel (Nat.dvd_of_mod_eq_zero h5)]
        exact hlt
      have h7 : (r / 2 ^ (d + 1) + 1) * 2 ^ (d + 1) ≤ 18446744073709551616 / 2 ^ (d + 1) * 2 ^ (d + 1) := Nat.mul_le_mul_right _ h6
      rw [Nat.div_mul_cancel (Nat.dvd_of_mod_eq_zero h5), Nat.add_mul] at h7
      omega
    rw [wrapu_nat (by omega)]
    refine ev_pos (by omega) ?_
    rw [shl_one d hd64, or_add _ _ (d + 1) (by have := two_mul_pow d; omega) hdv htry]
    refine Ev.bind (rmul_ev _ _ htry htry) ?_
    refine Ev.bind (rcmp_ev _ A (mul_lt htry htry) hA) ?_
    have ew : wrap64 ((d : Int) - 1) = (d : Int) - 1 := wrap64_id (by omega) (by omega)
    rw [ew]
    have key := hr.le_iff (x := r / 2 ^ (d + 1) * 2 ^ (d + 1) + 2 ^ d)
    rcases hb with hb | hb
    · rw [hb, Nat.zero_mul, Nat.add_zero] at ht
      have hno : ¬ (r / 2 ^ (d + 1) * 2 ^ (d + 1) + 2 ^ d) * (r / 2 ^ (d + 1) * 2 ^ (d + 1) + 2 ^ d) ≤ A := by
        rw [key]
        have e1 := Nat.div_add_mod r (2 ^ d)
        have e2 := Nat.mod_lt r hp0
        rw [Nat.mul_comm] at e1
        omega
      refine ev_neg (by unfold ord; rw [if_neg (by omega), if_neg (by omega)]; omega) ?_
      rw [← ht]
      exact ih (by omega)
    · rw [hb, Nat.one_mul] at ht
      have hyes : (r / 2 ^ (d + 1) * 2 ^ (d + 1) + 2 ^ d) * (r / 2 ^ (d + 1) * 2 ^ (d + 1) + 2 ^ d) ≤ A := by rw [key, ← ht]; exact hle
      refine ev_pos (by unfold ord; split; omega; rw [if_pos (by omega)]; omega) ?_
      rw [← ht]
      exact ih (by omega)
theorem WideRoots : vernierlaw01_WideRoots.Pure := by
  intro a1 a0 ha1 ha0
  obtain ⟨A, hA, rfl, rfl⟩ := words_of a1 a0 ha1 ha0
  obtain ⟨r, hr⟩ := root_ex A
  refine Ev.rounds (g := fun k => vernierlaw01_WideRoots.f k (hi A) (lo A)) ?_
  unfold vernierlaw01_WideRoots.f
  refine Ev.bind (root_ev A r hA hr) ?_
  refine ev_now (w_eq _ _) ?_
  have e := rroot_loop A r hA hr 64 (Nat.le_refl _)
  rw [Nat.div_eq_of_lt (show r < 2 ^ 64 from hr.lt hA), Nat.zero_mul] at e
  refine Ev.bind (show Ev (fun k => vernierref01_Root.f k (hi A) (lo A)) _ from e) ?_
  refine ev_now fixed_true ?_
  refine ev_pos rfl ?_
  refine ev_pos rfl ?_
  exact ev_some fun k => by simp
end Go.Proofs.Ytidjigoghdghiaa.Pure
