/- math/bits.Len64: how many bits a word takes. Conditions: the numbers are words. -/
import Derived.Test.YtidjigoghdghiaaL0
import Derived.Test.YtidjigoghdghiaaVx10
namespace Go.Proofs.Ytidjigoghdghiaa.V
open Go.RowKit Go.Proofs.YtidjigoghdghiaaQ.PrintWords Go.Proofs.Ytidjigoghdghiaa.L
set_option linter.unusedVariables false

theorem len64 (a : Nat) (h : a < 18446744073709551616) : bits_Len64.f a = some ((Lib.bitLen a : Nat) : Int) := by
  unfold bits_Len64.f
  rw [if_pos ⟨⟨by omega, by omega⟩⟩, Int.toNat_natCast]
theorem bitLen_spec (x : Nat) (h : x < 18446744073709551616) : x < 2 ^ Lib.bitLen x ∧ (x ≠ 0 → 2 ^ (Lib.bitLen x - 1) ≤ x) ∧ (x = 0 → Lib.bitLen x = 0) := by
  induction x using Nat.strongRecOn with
  | _ x ih =>
    by_cases h0 : x = 0
    · subst h0
      exact ⟨by decide, fun h => absurd rfl h, fun _ => by decide⟩
    · obtain ⟨h1, h2, h3⟩ := ih (x / 2) (by omega) (by omega)
      have hh := Lib.bitLen_half x h0 h
      rw [hh]
      refine ⟨?_, fun _ => ?_, fun h => absurd h h0⟩
      · rw [Nat.add_comm, Nat.pow_succ]; omega
      · rw [Nat.add_sub_cancel_left]
        by_cases hx : x / 2 = 0
        · rw [h3 hx]; omega
        · have hb : 0 < Lib.bitLen (x / 2) := by
            rcases Nat.eq_zero_or_pos (Lib.bitLen (x / 2)) with h' | h'
            · rw [h'] at h1; omega
            · exact h'
          have := h2 hx
          have e := two_mul_pow (Lib.bitLen (x / 2) - 1)
          rw [show Lib.bitLen (x / 2) - 1 + 1 = Lib.bitLen (x / 2) by omega] at e
          omega
end Go.Proofs.Ytidjigoghdghiaa.V
