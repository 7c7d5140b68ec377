/- Plain law: what Len and Shl of naturals answer, by the numbers that the lists are. Conditions: the words are words, the lists are not longer than memory. -/
import Derived.Test.YtmoeaeflljpboaaNatI
namespace Go.Proofs.Ytmoeaeflljpboaa.X
open Go Go.Rex
set_option linter.unusedVariables false

/-! ### Len -/
theorem blen_words {v : Nat} (hv : v ≠ 0) {t : Nat} (ht : (digs v).getD ((digs v).length - 1) 0 = (t : Int)) : blen v = 64 * ((digs v).length - 1) + blen t := by
  have hlen := digs_len_pos.2 hv
  have h0 : t ≠ 0 := by
    have := Neat.digs v (by rw [Ne, digs_nil]; exact hv)
    rw [ht] at this; omega
  have htW : t < 18446744073709551616 := by have := (WF.digs v).getD ((digs v).length - 1); rw [ht] at this; omega
  have hs := val_take_last (p := digs v) (n := (digs v).length - 1) (by omega)
  rw [val_digs, ht, Int.toNat_natCast] at hs
  have hlt := take_val_lt (WF.digs v) ((digs v).length - 1)
  generalize (digs v).length - 1 = n at *
  generalize val ((digs v).take n) = low at *
  obtain ⟨b, hb⟩ : ∃ b, blen t = b + 1 := ⟨blen t - 1, by have := blen_pos h0; omega⟩
  have h1 := blen_le h0
  have h2 := blen_lt t
  rw [hb] at h1 h2 ⊢
  rw [show b + 1 - 1 = b by omega] at h1
  rw [← two_64] at *
  refine blen_eq (k := 64 * n + b) ?_ ?_
  · rw [Nat.pow_add, hs]
    have := Nat.mul_le_mul_left (2 ^ (64 * n)) h1
    omega
  · rw [Nat.add_assoc, Nat.pow_add, hs]
    have := Nat.mul_le_mul_left (2 ^ (64 * n)) (show t + 1 ≤ 2 ^ (b + 1) from h2)
    rw [Nat.mul_add, Nat.mul_one] at this
    omega
end Go.Proofs.Ytmoeaeflljpboaa.X
