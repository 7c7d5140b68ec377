/- Plain law: TrailingZeros64. Conditions: the word is a word, not 0. -/
import Derived.Test.YtmoeaeflljpboaaDoorNatR
import Derived.Lib.TrailingZeros
namespace Go.Proofs.YtmoeaeflljpboaaDoor.X
open Go Go.Rex
set_option linter.unusedVariables false

/-! ### TrailingZeros64 -/
theorem dbT_at : ∀ j : Fin 64, dbT.getD j.val 0 = ((Lib.deBruijn64tab.getD j.val 0 : Nat) : Int) := by decide +kernel
/-- The look-up's place. -/
theorem tz_wrap (y : Nat) : IntKind.u64.wrap ((y : Int) * 285870213051353865) = ((y * 285870213051353865 % 18446744073709551616 : Nat) : Int) := by
  rw [wrap_u64, Int.natCast_emod, Int.natCast_mul]; rfl
theorem tz_at {z : Nat} (hz : z < 64) : ∃ i : Nat, i < 64 ∧ shrK .u64 (IntKind.u64.wrap (((2 ^ z : Nat) : Int) * 285870213051353865)) 58 = (i : Int) ∧ dbT.getD i 0 = (z : Int) := by
  obtain ⟨d1, d2⟩ := Lib.deBruijn64_at z hz
  refine ⟨2 ^ z * 285870213051353865 % 18446744073709551616 / 288230376151711744, d1, ?_, ?_⟩
  · rw [tz_wrap]
    exact shrK_nat (2 ^ z * 285870213051353865 % 18446744073709551616) 58 (by decide)
  · have h := dbT_at ⟨_, d1⟩
    simp only at h
    rw [h, d2]
theorem tz_ev {n : Nat} (h0 : n ≠ 0) (h : n < 18446744073709551616) : ∃ z m : Nat, n = 2 ^ z * (2 * m + 1) ∧ z < 64 ∧ ∀ k, bits_TrailingZeros64 k (n : Int) = some (z : Int) := by
  obtain ⟨hl, hc⟩ := Lib.lowest_bit 64 n h0 h
  obtain ⟨m, hm, hz⟩ : ∃ m, n = 2 ^ Lib.ctz 64 n * (2 * m + 1) ∧ Lib.ctz 64 n < 64 := by
    unfold Lib.ctz
    rw [if_neg h0]
    exact Lib.ctzFrom_spec 64 n (by omega) h
  refine ⟨Lib.ctz 64 n, m, hm, hz, fun k => ?_⟩
  obtain ⟨i, i1, i2, i3⟩ := tz_at hz
  have e1 : IntKind.u64.wrap (0 - (n : Int)) = ((18446744073709551616 - n : Nat) : Int) := by rw [wrap_u64]; omega
  have e2 : andK .u64 (n : Int) (IntKind.u64.wrap (0 - (n : Int))) = ((2 ^ Lib.ctz 64 n : Nat) : Int) := by
    rw [e1, andK_nat n _ h (by omega)]
    exact congrArg (fun x : Nat => (x : Int)) hl
  clear hl hm
  generalize Lib.ctz 64 n = z at *
  rw [bits_TrailingZeros64_eq, if_neg (bF (by omega)), e2, i2, if_pos ⟨by omega, by omega⟩, Int.toNat_natCast, i3, wrapI (by omega) (by omega)]

end Go.Proofs.YtmoeaeflljpboaaDoor.X
