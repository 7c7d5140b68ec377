/- Plain law: what the functions of naturals answer: divided, DivMod, Gcd. Conditions: the words are words, the lists are not longer than memory. -/
import Derived.Test.YtmoeaeflljpboaaDoorNatH
namespace Go.Proofs.YtmoeaeflljpboaaDoor.X
open Go Go.Rex
set_option linter.unusedVariables false

theorem copy_pad (o : List Int) (n : Nat) (h : o.length ≤ n) : ((List.replicate n (0 : Int)).take 0) ++ ((o.take (min o.length ((List.replicate n (0 : Int)).length))) ++ ((List.replicate n (0 : Int)).drop (min o.length ((List.replicate n (0 : Int)).length)))) = o ++ List.replicate (n - o.length) 0 := by
  simp [List.drop_replicate, Nat.min_eq_left h]
theorem val_pad (o : List Int) (m : Nat) : val (o ++ List.replicate m 0) = val o := by rw [val_append, val_replicate]; omega
/-- The divisor, shifted until its highest bit is set. -/
theorem norm_facts {B : Nat} (hB : B ≠ 0) {t : Nat} (ht : (digs B).getD ((digs B).length - 1) 0 = (t : Int)) : 0 < t ∧ t < 18446744073709551616 ∧ blen t ≤ 64 ∧ 0 < blen t ∧ B * 2 ^ (64 - blen t) < 18446744073709551616 ^ (digs B).length ∧ 9223372036854775808 * 18446744073709551616 ^ ((digs B).length - 1) ≤ B * 2 ^ (64 - blen t) := by
  have hl := digs_len_pos.2 hB
  have hn := Neat.digs B (by rw [Ne, digs_nil]; exact hB)
  have hw := (WF.digs B).getD ((digs B).length - 1)
  rw [ht] at hn hw
  have t0 : 0 < t := by omega
  have tb := blen_bound (n := t) (k := 64) (by omega)
  have tp := blen_pos (n := t) (by omega)
  have hv := val_take_last (p := digs B) (n := (digs B).length - 1) (by omega)
  rw [val_digs, ht, Int.toNat_natCast] at hv
  have hlow := take_val_lt (WF.digs B) ((digs B).length - 1)
  have b1 := blen_lt t
  have b2 := blen_le (n := t) (by omega)
  refine ⟨t0, by omega, tb, tp, ?_, ?_⟩
  · have e : 18446744073709551616 ^ (digs B).length = 18446744073709551616 ^ ((digs B).length - 1) * 18446744073709551616 := by
      rw [← Nat.pow_succ]; congr 1; omega
    have h1 : B < 18446744073709551616 ^ ((digs B).length - 1) * (t + 1) := by rw [Nat.mul_add]; omega
    have h2 : (t + 1) * 2 ^ (64 - blen t) ≤ 2 ^ blen t * 2 ^ (64 - blen t) := Nat.mul_le_mul_right _ b1
    rw [← Nat.pow_add, show blen t + (64 - blen t) = 64 by omega] at h2
    have h3 := Nat.mul_lt_mul_of_pos_right h1 (Nat.two_pow_pos (64 - blen t))
    rw [Nat.mul_assoc] at h3
    rw [e]
    exact Nat.lt_of_lt_of_le h3 (Nat.mul_le_mul_left _ h2)
  · have h2 : 2 ^ (blen t - 1) * 2 ^ (64 - blen t) ≤ t * 2 ^ (64 - blen t) := Nat.mul_le_mul_right _ b2
    rw [← Nat.pow_add, show blen t - 1 + (64 - blen t) = 63 by omega] at h2
    have h3 := Nat.mul_le_mul_right (18446744073709551616 ^ ((digs B).length - 1)) h2
    have h4 : t * 2 ^ (64 - blen t) * 18446744073709551616 ^ ((digs B).length - 1) = 18446744073709551616 ^ ((digs B).length - 1) * t * 2 ^ (64 - blen t) := by grind
    rw [h4] at h3
    have h5 : 18446744073709551616 ^ ((digs B).length - 1) * t * 2 ^ (64 - blen t) ≤ B * 2 ^ (64 - blen t) := Nat.mul_le_mul_right _ (by omega)
    omega
end Go.Proofs.YtmoeaeflljpboaaDoor.X
