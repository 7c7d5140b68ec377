/- Plain law: what the functions of naturals answer: Add, Sub, product, Mul. Conditions: the words are words, the lists are not longer than memory. -/
import Derived.Test.YtmoeaeflljpboaaNatA
namespace Go.Proofs.Ytmoeaeflljpboaa.X
open Go Go.Rex
set_option linter.unusedVariables false

theorem take_succ_val' (a : List Int) (i : Nat) : val (a.take (i + 1)) = val (a.take i) + 18446744073709551616 ^ i * (a.getD i 0).toNat := by
  rcases Nat.lt_or_ge i a.length with h | h
  · exact take_succ_val a h
  · rw [List.take_of_length_le (by omega), List.take_of_length_le (by omega)]
    simp [List.getD_eq_getElem?_getD, List.getElem?_eq_none h]
theorem getD_ge (a : List Int) {i : Nat} (h : a.length ≤ i) : a.getD i 0 = 0 := by simp [List.getD_eq_getElem?_getD, List.getElem?_eq_none h]
theorem take_set_ne (a : List Int) (i : Nat) (x : Int) : (a.set i x).take i = a.take i := by rw [List.take_set_of_le (Nat.le_refl i)]
theorem take_set_succ (a : List Int) {i : Nat} (h : i < a.length) (x : Int) : val ((a.set i x).take (i + 1)) = val (a.take i) + 18446744073709551616 ^ i * x.toNat := by
  rw [take_succ_val', take_set_ne, getD_set_self a h]
theorem pow_s (i : Nat) : 18446744073709551616 ^ (i + 1) = 18446744073709551616 ^ i * 18446744073709551616 := Nat.pow_succ ..

/-! ### bits -/
/-- Two words and a carry. -/
theorem add_step {x y c : Nat} (hx : x < 18446744073709551616) (hy : y < 18446744073709551616) (hc : c ≤ 1) : ∃ s d : Nat, (x + y + c) % 18446744073709551616 = s ∧ (x + y + c) / 18446744073709551616 = d ∧ s < 18446744073709551616 ∧ d ≤ 1 ∧ s + 18446744073709551616 * d = x + y + c :=
  ⟨_, _, rfl, rfl, by omega, by omega, by omega⟩
/-! ### Add -/
theorem copy_more (o : List Int) (n : Nat) (h : n = o.length + 1) : ((List.replicate n (0 : Int)).take 0) ++ ((o.take (min o.length ((List.replicate n (0 : Int)).length))) ++ ((List.replicate n (0 : Int)).drop (min o.length ((List.replicate n (0 : Int)).length)))) = o ++ [0] := by
  subst h
  simp [List.drop_replicate]
end Go.Proofs.Ytmoeaeflljpboaa.X
