/- Plain law: what the functions of naturals answer, in terms of the numbers that the lists are: trim, copied, Cmp, great, same, size. Conditions: the words are words, the lists are not longer than memory. -/
import Derived.Test.YtmoeaeflljpboaaX
import Derived.Test.YtmoeaeflljpboaaR2
namespace Go.Proofs.Ytmoeaeflljpboaa.X
open Go Go.Rex
set_option linter.unusedVariables false

theorem dT {p : Prop} [Decidable p] (h : p) : decide p = true := decide_eq_true h
theorem dF {p : Prop} [Decidable p] (h : ¬ p) : ¬ (decide p = true) := fun e => h (of_decide_eq_true e)
theorem bT {x y : Int} (h : x = y) : (x == y) = true := by rw [h]; exact beq_self_eq_true y
theorem bF {x y : Int} (h : x ≠ y) : ¬ ((x == y) = true) := fun e => h (eq_of_beq e)
theorem nT {x y : Int} (h : x ≠ y) : (x != y) = true := by simpa using h
theorem nF {x y : Int} (h : x = y) : ¬ ((x != y) = true) := by simpa using h
theorem tT {b : Bool} (h : b = true) : (b = true) := h
theorem notT {b : Bool} (h : b = false) : (!b) = true := by simp [h]
theorem notF {b : Bool} (h : b = true) : ¬ ((!b) = true) := by simp [h]
/-- One less. -/
theorem pred_i (n : Nat) (h : n < 9223372036854775808) : IntKind.i64.wrap (((n + 1 : Nat) : Int) - 1) = (n : Int) := by rw [wrapI] <;> omega
theorem succ_i (n : Nat) (h : n < 9223372036854775807) : IntKind.i64.wrap ((n : Int) + 1) = ((n + 1 : Nat) : Int) := by rw [wrapI] <;> omega
theorem add_i (n m : Nat) (h : n + m < 9223372036854775808) : IntKind.i64.wrap ((n : Int) + (m : Int)) = ((n + m : Nat) : Int) := by rw [wrapI] <;> omega
theorem sub_i (n m : Nat) (h : n < 9223372036854775808) (hm : m ≤ n) : IntKind.i64.wrap ((n : Int) - (m : Int)) = ((n - m : Nat) : Int) := by rw [wrapI] <;> omega
/-- Not longer than memory. -/
def Lb (a : List Int) : Prop := a.length ≤ 17592186044416
theorem Lb.ofv {a : List Int} (h : Lb a) (hw : WF a) : Lb (digs (val a)) := Nat.le_trans (digs_length_lt.2 (val_lt hw)) h
theorem Lb.small {n k : Nat} (h : n < 18446744073709551616 ^ k) (hk : k ≤ 17592186044416) : Lb (digs n) := Nat.le_trans (digs_length_lt.2 h) hk

theorem copy_all (o : List Int) (n : Nat) (h : n = o.length) : ((List.replicate n (0 : Int)).take 0) ++ ((o.take (min o.length ((List.replicate n (0 : Int)).length))) ++ ((List.replicate n (0 : Int)).drop (min o.length ((List.replicate n (0 : Int)).length)))) = o := by
  subst h; simp

/-! ### trim -/
/-! ### copied, Trim -/
/-! ### Cmp -/
def cmpN (x y : Nat) : Int := if x < y then -1 else if y < x then 1 else 0
theorem cmpN_add (x y c : Nat) : cmpN (x + c) (y + c) = cmpN x y := by unfold cmpN; split <;> split <;> (try split) <;> (try split) <;> omega
theorem len_lt_val {x y : Nat} (h : (digs x).length < (digs y).length) : x < y := Nat.lt_of_not_le fun hle => by have := digs_len_mono hle; omega
end Go.Proofs.Ytmoeaeflljpboaa.X
