/- Plain law: the reference's digits of 32 bits, words, product, Mul, DivMod, Gcd, by the numbers. Conditions: the words are words, the lists are short. -/
import Derived.Test.YtmoeaeflljpboaaDoorRfB
namespace Go.Proofs.YtmoeaeflljpboaaDoor.X
open Go Go.Rex
set_option linter.unusedVariables false

/-! ### Digits of 32 bits -/
def v32 : List Int → Nat
  | [] => 0
  | x :: r => x.toNat + 4294967296 * v32 r
def W32 (a : List Int) : Prop := ∀ x ∈ a, 0 ≤ x ∧ x < 4294967296
theorem v32_append (a b : List Int) : v32 (a ++ b) = v32 a + 4294967296 ^ a.length * v32 b := by
  induction a with
  | nil => simp [v32]
  | cons x r ih =>
    show x.toNat + 4294967296 * v32 (r ++ b) = x.toNat + 4294967296 * v32 r + _
    rw [ih, List.length_cons, Nat.pow_succ, Nat.mul_add, Nat.add_assoc]
    congr 2
    rw [← Nat.mul_assoc, Nat.mul_comm 4294967296]
theorem W32.getD {a : List Int} (h : W32 a) (i : Nat) : ∃ x : Nat, x < 4294967296 ∧ a.getD i 0 = (x : Int) := by
  rw [List.getD_eq_getElem?_getD]
  cases hi : a[i]? with
  | none => exact ⟨0, by decide, rfl⟩
  | some y =>
    have := h y (List.mem_of_getElem? hi)
    exact ⟨y.toNat, by omega, by simp; omega⟩
theorem W32.set {a : List Int} (h : W32 a) (i : Nat) {x : Nat} (hx : x < 4294967296) : W32 (a.set i (x : Int)) := by
  intro y hy
  rcases List.mem_or_eq_of_mem_set hy with e | e
  · exact h y e
  · subst e; omega
theorem W32.replicate (n : Nat) : W32 (List.replicate n 0) := by
  intro x hx
  rw [List.eq_of_mem_replicate hx]; decide
theorem W32.append {a b : List Int} (ha : W32 a) (hb : W32 b) : W32 (a ++ b) := by
  intro x hx
  rcases List.mem_append.1 hx with h | h
  · exact ha x h
  · exact hb x h
theorem v32_replicate (n : Nat) : v32 (List.replicate n 0) = 0 := by
  induction n with
  | zero => rfl
  | succ n ih => rw [List.replicate_succ]; show 0 + 4294967296 * v32 _ = 0; rw [ih]
theorem v32_take_succ (a : List Int) (i : Nat) : v32 (a.take (i + 1)) = v32 (a.take i) + 4294967296 ^ i * (a.getD i 0).toNat := by
  rcases Nat.lt_or_ge i a.length with hi | hi
  · rw [List.take_add_one, v32_append]
    have e : a[i]?.toList = [a.getD i 0] := by simp [List.getD_eq_getElem?_getD, List.getElem?_eq_getElem hi]
    rw [e]
    simp [v32, Nat.min_eq_left (Nat.le_of_lt hi)]
  · rw [List.take_of_length_le (by omega), List.take_of_length_le hi, getD_ge a hi]; simp
theorem v32_take_set_succ (a : List Int) {i : Nat} (h : i < a.length) (x : Int) : v32 ((a.set i x).take (i + 1)) = v32 (a.take i) + 4294967296 ^ i * x.toNat := by
  rw [v32_take_succ, take_set_ne, Rex.getD_set_self a h]
theorem v32_drop (a : List Int) {i : Nat} (hi : i < a.length) : v32 (a.drop i) = (a.getD i 0).toNat + 4294967296 * v32 (a.drop (i + 1)) := by
  rw [List.drop_eq_getElem_cons hi]
  simp [v32, List.getD_eq_getElem?_getD, List.getElem?_eq_getElem hi]
theorem v32_take_drop (a : List Int) (i : Nat) : v32 a = v32 (a.take i) + 4294967296 ^ i * v32 (a.drop i) := by
  rcases Nat.lt_or_ge i a.length with h | h
  · have := v32_append (a.take i) (a.drop i)
    rw [List.take_append_drop] at this
    rw [this]; simp [Nat.min_eq_left (Nat.le_of_lt h)]
  · rw [List.take_of_length_le h, List.drop_of_length_le h]; simp [v32]
theorem v32_set (a : List Int) {i : Nat} (hi : i < a.length) (x : Int) : v32 (a.set i x) + 4294967296 ^ i * (a.getD i 0).toNat = v32 a + 4294967296 ^ i * x.toNat := by
  rw [List.set_eq_take_append_cons_drop, if_pos hi, v32_append, v32_take_drop a i, v32_drop a hi]
  show v32 (a.take i) + 4294967296 ^ (a.take i).length * (x.toNat + 4294967296 * v32 (a.drop (i + 1))) + _ = _
  simp [Nat.min_eq_left (Nat.le_of_lt hi), Nat.mul_add]
  omega
theorem v32_lt {a : List Int} (h : W32 a) : v32 a < 4294967296 ^ a.length := by
  induction a with
  | nil => simp [v32]
  | cons x r ih =>
    have h1 := h x List.mem_cons_self
    have h2 := ih fun y hy => h y (List.mem_cons_of_mem _ hy)
    show x.toNat + 4294967296 * v32 r < _
    rw [List.length_cons, Nat.pow_succ, Nat.mul_comm (4294967296 ^ r.length)]
    have := Nat.mul_le_mul_left 4294967296 (show v32 r + 1 ≤ 4294967296 ^ r.length from h2)
    rw [Nat.mul_add] at this
    omega
theorem b32_even (j : Nat) : 4294967296 ^ (2 * j) = 18446744073709551616 ^ j := by rw [Nat.pow_mul]
theorem b32_odd (j : Nat) : 4294967296 ^ (2 * j + 1) = 18446744073709551616 ^ j * 4294967296 := by rw [Nat.pow_succ, b32_even]
theorem shr32 (x : Nat) : shrK .u64 (x : Int) 32 = ((x / 2 ^ 32 : Nat) : Int) := shrK_nat x 32 (by decide)
theorem two_i (i : Nat) (h : i ≤ 1000000000000) : IntKind.i64.wrap (2 * (i : Int)) = ((2 * i : Nat) : Int) := by rw [wrapI (by omega) (by omega)]; omega

end Go.Proofs.YtmoeaeflljpboaaDoor.X
