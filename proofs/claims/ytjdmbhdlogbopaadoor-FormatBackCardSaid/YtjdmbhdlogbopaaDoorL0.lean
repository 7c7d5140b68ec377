/- Plain lemmas about words of 64 bits as whole numbers: wraps, shifts, masks, joins. No conditions beyond those that each states. -/
import Derived.Test.YtjdmbhdlogbopaaDoorQ
import Derived.Laws.BitsAllLaws
import Derived.Laws.Bits64b
import Derived.RowKit
namespace Go.Proofs.YtjdmbhdlogbopaaDoor.L
open Go.RowKit Go.Proofs.YtjdmbhdlogbopaaDoorQ.PrintWords
set_option linter.unusedVariables false

theorem u64_of_wf {x : Int} (h : (Lit.int .u64 x).wf = true) : 0 ≤ x ∧ x < 18446744073709551616 := by
  simp [Lit.wf, IntKind.min, IntKind.max, IntKind.signed, IntKind.bits] at h
  omega
theorem i64_of_wf {x : Int} (h : (Lit.int .i64 x).wf = true) : -9223372036854775808 ≤ x ∧ x ≤ 9223372036854775807 := by
  simp [Lit.wf, IntKind.min, IntKind.max, IntKind.signed, IntKind.bits] at h
  omega
theorem nat_of_wf {x : Int} (h : (Lit.int .u64 x).wf = true) : ∃ n : Nat, x = (n : Int) ∧ n < 18446744073709551616 := by
  have := u64_of_wf h
  exact ⟨x.toNat, by omega, by omega⟩
theorem wrapu (x : Int) : IntKind.u64.wrap x = x % 18446744073709551616 := IntKind.wrap_u64 x
theorem wrapu_nat {n : Nat} (h : n < 18446744073709551616) : IntKind.u64.wrap (n : Int) = (n : Int) := by rw [wrapu]; omega
theorem wrapu_id {x : Int} (h0 : 0 ≤ x) (h : x < 18446744073709551616) : IntKind.u64.wrap x = x := by rw [wrapu]; omega
theorem wrap64_id {x : Int} (h0 : -9223372036854775808 ≤ x) (h : x ≤ 9223372036854775807) : wrap64 x = x := by unfold wrap64; omega

/-! ### From some number of rounds on -/
theorem ev_some {α : Type} {g : Nat → Option α} {r : α} (h : ∀ k, g k = some r) : Ev g r := ⟨0, fun k _ => h k⟩
theorem ev_pos {α : Type} {c : Prop} [Decidable c] {g f : Nat → Option α} {r : α} (hc : c) (h : Ev g r) : Ev (fun k => if c then g k else f k) r := Ev.congr (fun _ => if_pos hc) h
theorem ev_neg {α : Type} {c : Prop} [Decidable c] {g f : Nat → Option α} {r : α} (hc : ¬ c) (h : Ev f r) : Ev (fun k => if c then g k else f k) r := Ev.congr (fun _ => if_neg hc) h
theorem ev_now {α β : Type} {o : Option α} {f : Nat → α → Option β} {a : α} {r : β} (h : o = some a) (k : Ev (fun n => f n a) r) : Ev (fun n => o.bind (f n)) r := Ev.bind (ev_some fun _ => h) k
theorem ev_r {α : Type} {g : Nat → Option α} {r r' : α} (h : Ev g r) (e : r = r') : Ev g r' := e ▸ h

/-! ### Shifts -/
theorem shr_nat (x n : Nat) (hn : n ≤ 64) : shr .u64 (x : Int) (n : Int) = ((x / 2 ^ n : Nat) : Int) := by
  unfold shr
  have e : min (n : Int).toNat IntKind.u64.bits = n := by simp [IntKind.bits]; omega
  rw [e, Int.natCast_ediv, Int.natCast_pow]
  rfl
theorem shr_big (x : Nat) (n : Int) (hx : x < 18446744073709551616) (hn : 64 ≤ n) : shr .u64 (x : Int) n = 0 := by
  unfold shr
  have e : min n.toNat IntKind.u64.bits = 64 := by simp [IntKind.bits]; omega
  rw [e]
  exact Int.ediv_eq_zero_of_lt (by omega) (by omega)
theorem shl_nat (x n : Nat) (hn : n ≤ 64) : shl .u64 (x : Int) (n : Int) = ((x * 2 ^ n % 18446744073709551616 : Nat) : Int) := by
  unfold shl
  have e : min (n : Int).toNat IntKind.u64.bits = n := by simp [IntKind.bits]; omega
  rw [e, wrapu, Int.natCast_emod, Int.natCast_mul, Int.natCast_pow]
  rfl
theorem shl_big (x : Nat) (n : Int) (hn : 64 ≤ n) : shl .u64 (x : Int) n = 0 := by
  unfold shl
  have e : min n.toNat IntKind.u64.bits = 64 := by simp [IntKind.bits]; omega
  rw [e, wrapu]
  omega
theorem pow_le_64 {n : Nat} (hn : n ≤ 64) : 2 ^ n ≤ 18446744073709551616 := Nat.pow_le_pow_right (by decide) hn
theorem pow_lt_64 {n : Nat} (hn : n < 64) : 2 ^ n < 18446744073709551616 := Nat.pow_lt_pow_right (by decide) hn
theorem shl_one (n : Nat) (hn : n < 64) : shl .u64 1 (n : Int) = ((2 ^ n : Nat) : Int) := by
  have := shl_nat 1 n (by omega)
  rw [Nat.one_mul, Nat.mod_eq_of_lt (pow_lt_64 hn)] at this
  exact this
theorem shl_exact (x n : Nat) (hn : n ≤ 64) (h : x * 2 ^ n < 18446744073709551616) : shl .u64 (x : Int) (n : Int) = ((x * 2 ^ n : Nat) : Int) := by
  rw [shl_nat x n hn, Nat.mod_eq_of_lt h]

/-! ### Masks and joins -/
theorem and_one (x : Nat) (h : x < 18446744073709551616) : Go.bits .and .u64 (x : Int) 1 = ((x % 2 : Nat) : Int) := by
  have := bits_and_u64_nat x 1 h (by decide)
  rw [Nat.and_one_is_mod] at this
  exact this
theorem and_mask (x n : Nat) (hn : n ≤ 64) (h : x < 18446744073709551616) : Go.bits .and .u64 (x : Int) ((2 ^ n - 1 : Nat) : Int) = ((x % 2 ^ n : Nat) : Int) := by
  have hp := pow_le_64 hn
  have h0 : 0 < 2 ^ n := Nat.two_pow_pos n
  rw [bits_and_u64_nat x (2 ^ n - 1) h (by omega), Nat.and_two_pow_sub_one_eq_mod]
theorem and_mask32 (x : Nat) (h : x < 18446744073709551616) : Go.bits .and .u64 (x : Int) 4294967295 = ((x % 4294967296 : Nat) : Int) := and_mask x 32 (by decide) h
theorem or_disj (a b j : Nat) (hb : b < 2 ^ j) (ha : a % 2 ^ j = 0) : a ||| b = a + b := by
  have e : a = 2 ^ j * (a / 2 ^ j) := by have := Nat.div_add_mod a (2 ^ j); omega
  rw [e, Nat.two_pow_add_eq_or_of_lt hb]
theorem or_add (a b j : Nat) (hb : b < 2 ^ j) (ha : a % 2 ^ j = 0) (hs : a + b < 18446744073709551616) : Go.bits .or .u64 (a : Int) (b : Int) = ((a + b : Nat) : Int) := by
  rw [bits_or_u64_nat a b (by omega) (by omega), or_disj a b j hb ha]
theorem or_add' (a b j : Nat) (ha : a < 2 ^ j) (hb : b % 2 ^ j = 0) (hs : a + b < 18446744073709551616) : Go.bits .or .u64 (a : Int) (b : Int) = ((a + b : Nat) : Int) := by
  rw [bits_or_u64_nat a b (by omega) (by omega), Nat.or_comm, or_disj b a j ha hb, Nat.add_comm]
/-- A bit that is not there is taken away. -/
theorem andNot_bit (a i : Nat) (hi : i < 64) (ha : a < 18446744073709551616) (h : a / 2 ^ i % 2 = 0) : Go.bits .andNot .u64 (a : Int) ((2 ^ i : Nat) : Int) = (a : Int) := by
  rw [u64_andNot_nat a (2 ^ i) ha (pow_lt_64 hi)]
  congr 1
  apply Nat.eq_of_testBit_eq
  intro j
  rw [Nat.testBit_and]
  have hm : 18446744073709551615 - 2 ^ i = 2 ^ 64 - (2 ^ i + 1) := by omega
  rw [hm, Nat.testBit_two_pow_sub_succ (by have := pow_lt_64 hi; omega), Nat.testBit_two_pow]
  by_cases hij : i = j
  · subst hij
    have : a.testBit i = false := by rw [Nat.testBit_eq_decide_div_mod_eq]; simp [h]
    simp [this]
  · by_cases hj : j < 64
    · simp [hj, hij]
    · have : a.testBit j = false := Nat.testBit_lt_two_pow (Nat.lt_of_lt_of_le ha (show 2 ^ 64 ≤ 2 ^ j from Nat.pow_le_pow_right (by decide) (by omega)))
      simp [this]

/-! ### Bits of numbers -/
theorem two_mul_pow (i : Nat) : 2 ^ (i + 1) = 2 * 2 ^ i := by rw [Nat.pow_succ, Nat.mul_comm]
theorem mod_succ (A i : Nat) : A % 2 ^ (i + 1) = A % 2 ^ i + A / 2 ^ i % 2 * 2 ^ i := by
  rw [Nat.pow_succ, Nat.mod_mul]
  rw [Nat.mul_comm]
theorem bit_le (A i : Nat) : A / 2 ^ i % 2 ≤ 1 := by omega
theorem bit_of_lt {A i : Nat} (h : A < 2 ^ i) : A / 2 ^ i % 2 = 0 := by rw [Nat.div_eq_of_lt h]
theorem bit_of_dvd {A i : Nat} (h : A % 2 ^ (i + 1) = 0) : A / 2 ^ i % 2 = 0 := by
  have := mod_succ A i
  have hp : 0 < 2 ^ i := Nat.two_pow_pos i
  rcases Nat.eq_zero_or_pos (A / 2 ^ i % 2) with h0 | h0
  · exact h0
  · have : 1 * 2 ^ i ≤ A / 2 ^ i % 2 * 2 ^ i := Nat.mul_le_mul_right _ h0
    omega
end Go.Proofs.YtjdmbhdlogbopaaDoor.L
