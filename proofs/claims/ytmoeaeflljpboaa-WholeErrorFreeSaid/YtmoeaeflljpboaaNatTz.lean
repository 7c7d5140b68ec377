/- Plain law: TrailingZeros64. Conditions: the word is a word, not 0. -/
import Derived.Test.YtmoeaeflljpboaaNatR
import Derived.Lib.TrailingZeros
namespace Go.Proofs.Ytmoeaeflljpboaa.X
open Go Go.Rex
set_option linter.unusedVariables false

/-! ### TrailingZeros64 -/
theorem dbT_at : ∀ j : Fin 64, dbT.getD j.val 0 = ((Lib.deBruijn64tab.getD j.val 0 : Nat) : Int) := by decide +kernel
/-- The look-up's place. -/
theorem tz_wrap (y : Nat) : IntKind.u64.wrap ((y : Int) * 285870213051353865) = ((y * 285870213051353865 % 18446744073709551616 : Nat) : Int) := by
  rw [wrap_u64, Int.natCast_emod, Int.natCast_mul]; rfl
theorem tz_at {z : Nat} (hz : z < 64) : ∃ i : Nat, i < 64 ∧ shrK .u64 (IntKind.u64.wrap (((2 ^ z : Nat) : Int) * 285870213051353865)) 58 = (i : Int) ∧ dbT.getD i 0 = (z : Int) := by
  obtain ⟨d1, d2⟩ := Lib.deBruijn64_at z hz
  refine ⟨2 ^ z * 285870213051353865 % 18446744073709551616 / 288230376151711744, d1, ?_, ?_⟩
  · rw [tz_wrap]
    exact shrK_nat (2 ^ z * 285870213051353865 % 18446744073709551616) 58 (by decide)
  · have h := dbT_at ⟨_, d1⟩
    simp only at h
    rw [h, d2]
end Go.Proofs.Ytmoeaeflljpboaa.X
