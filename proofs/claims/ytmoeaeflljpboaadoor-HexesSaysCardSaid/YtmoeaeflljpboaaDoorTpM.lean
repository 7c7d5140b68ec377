/- Plain law: verniertop's own naturals in pieces of 32 bits, its exact numbers in units of a power of two, a float's parts, its formats and modes, its question for whole multiples. Conditions: the lists and numbers are short; the format is one of the four, the pattern of its width. -/
import Derived.Test.YtmoeaeflljpboaaDoorRfE
import Derived.Test.YtmoeaeflljpboaaDoorDyB
import Derived.Test.YtmoeaeflljpboaaDoorRnD
import Derived.Test.YtmoeaeflljpboaaDoorSgA
namespace Go.Proofs.YtmoeaeflljpboaaDoor.X
open Go Go.Rex
set_option linter.unusedVariables false

/-! ### A number's pieces -/
def d32 (n : Nat) : List Int := if n = 0 then [] else ((n % 4294967296 : Nat) : Int) :: d32 (n / 4294967296)
termination_by n
decreasing_by exact Nat.div_lt_self (by omega) (by decide)
theorem d32_zero : d32 0 = [] := by rw [d32]; rfl
theorem d32_pos {n : Nat} (h : n ≠ 0) : d32 n = ((n % 4294967296 : Nat) : Int) :: d32 (n / 4294967296) := by rw [d32, if_neg h]
theorem v32_d32 (n : Nat) : v32 (d32 n) = n := by
  induction n using Nat.strongRecOn with
  | _ n ih =>
    by_cases h : n = 0
    · subst h; rw [d32_zero]; rfl
    · rw [d32_pos h]
      show ((n % 4294967296 : Nat) : Int).toNat + 4294967296 * v32 _ = n
      rw [ih _ (Nat.div_lt_self (by omega) (by decide)), Int.toNat_natCast]; omega
theorem W32.cons {x : Int} {r : List Int} (h0 : 0 ≤ x) (h1 : x < 4294967296) (h : W32 r) : W32 (x :: r) := by
  intro y hy
  cases hy with
  | head => exact ⟨h0, h1⟩
  | tail _ hy => exact h y hy
theorem W32.d32 (n : Nat) : W32 (d32 n) := by
  induction n using Nat.strongRecOn with
  | _ n ih =>
    by_cases h : n = 0
    · subst h; rw [d32_zero]; intro x hx; cases hx
    · rw [d32_pos h]
      exact W32.cons (by omega) (by omega) (ih _ (Nat.div_lt_self (by omega) (by decide)))
theorem d32_len {n k : Nat} : (d32 n).length ≤ k ↔ n < 4294967296 ^ k := by
  induction n using Nat.strongRecOn generalizing k with
  | _ n ih =>
    by_cases h : n = 0
    · subst h; rw [d32_zero]; simp [Nat.pow_pos]
    · rw [d32_pos h]
      cases k with
      | zero => simp; omega
      | succ k =>
        rw [List.length_cons, Nat.add_le_add_iff_right, ih _ (Nat.div_lt_self (by omega) (by decide)), Nat.pow_succ]
        exact Nat.div_lt_iff_lt_mul (by decide)
theorem d32_mono {n m : Nat} (h : n ≤ m) : (d32 n).length ≤ (d32 m).length := d32_len.2 (Nat.lt_of_le_of_lt h (d32_len.1 (Nat.le_refl _)))
theorem d32_nil {n : Nat} : d32 n = [] ↔ n = 0 := ⟨fun h => by rw [← v32_d32 n, h]; rfl, fun h => by rw [h, d32_zero]⟩
theorem d32_len_pos {n : Nat} : 0 < (d32 n).length ↔ n ≠ 0 := by rw [← List.ne_nil_iff_length_pos, Ne, d32_nil]
theorem d32_val {a : List Int} (hw : W32 a) (h : Neat a) : d32 (v32 a) = a := by
  induction a with
  | nil => exact d32_zero
  | cons x r ih =>
    have hx := hw x List.mem_cons_self
    have hr : W32 r := fun y hy => hw y (List.mem_cons_of_mem _ hy)
    have hne : v32 (x :: r) ≠ 0 := fun e => by
      exact h.pos hw.wf (by simp) (val_zero hw e)
    have e0 : v32 (x :: r) = x.toNat + 4294967296 * v32 r := rfl
    rw [d32_pos hne, e0]
    have e1 : (x.toNat + 4294967296 * v32 r) % 4294967296 = x.toNat := by omega
    have e2 : (x.toNat + 4294967296 * v32 r) / 4294967296 = v32 r := by omega
    rw [e1, e2, ih hr h.tail]
    congr 1; omega
theorem d32_top {n : Nat} (h : n ≠ 0) : 4294967296 ^ ((d32 n).length - 1) ≤ n := by
  have := d32_len_pos.2 h
  exact Nat.not_lt.1 fun hlt => by have := d32_len.2 hlt; omega
theorem pow32 (n : Nat) : 4294967296 ^ n = 2 ^ (32 * n) := by rw [Nat.pow_mul]
/-- Short enough: fewer than 2^(32 k). -/
theorem d32_short {n p k : Nat} (h : n < 2 ^ p) (hp : p ≤ 32 * k) : (d32 n).length ≤ k := by
  rw [d32_len, pow32]; exact Nat.lt_of_lt_of_le h (Nat.pow_le_pow_right (by decide) hp)
theorem u32w (x : Nat) : IntKind.u32.wrap (x : Int) = ((x % 4294967296 : Nat) : Int) := by
  simp [IntKind.wrap, IntKind.signed, IntKind.bits]
theorem u64n (x : Nat) (h : x < 18446744073709551616) : IntKind.u64.wrap (x : Int) = (x : Int) := by rw [wrap_u64]; omega
theorem one_set (x : Int) : (List.replicate 1 (0 : Int)).set 0 x = [x] := rfl
theorem v32_snoc (o : List Int) (x : Nat) : v32 (o ++ [(x : Int)]) = v32 o + 4294967296 ^ o.length * x := by
  rw [v32_append]
  show v32 o + 4294967296 ^ o.length * ((x : Int).toNat + 4294967296 * 0) = _
  rw [Int.toNat_natCast]; simp
theorem W32.snoc {o : List Int} (h : W32 o) {x : Nat} (hx : x < 4294967296) : W32 (o ++ [(x : Int)]) := h.append (by intro y hy; simp at hy; subst hy; omega)
theorem cap4 {n : Nat} (h : n ≤ 2000000) : capOk 4 n = true := capOk_of (by omega)
/-- An exact number of verniertop's own that is v units of 2^B. -/
def RepT (B : Int) (s : Bool) (l : List Int) (e v : Int) : Prop := ∃ n : Nat, l = d32 n ∧ B ≤ e ∧ e ≤ B + 20000 ∧ sg s (n * 2 ^ (e - B).toNat) = v
theorem tsg_zero (s : Bool) : sg s 0 = 0 := by cases s <;> rfl
theorem tsg_abs (s : Bool) (n : Nat) : (sg s n).natAbs = n := by unfold sg; cases s <;> simp
theorem tsg_neg (s : Bool) (n : Nat) : sg (!s) n = -(sg s n) := by unfold sg; cases s <;> simp
theorem RepT.neg {B : Int} {s : Bool} {l : List Int} {e v : Int} (h : RepT B s l e v) : RepT B (!s) l e (-v) := by
  obtain ⟨n, h1, h2, h3, h4⟩ := h
  exact ⟨n, h1, h2, h3, by rw [tsg_neg, h4]⟩
theorem RepT.abs {B : Int} {s : Bool} {l : List Int} {e v : Int} (h : RepT B s l e v) : RepT B false l e (v.natAbs : Int) := by
  obtain ⟨n, h1, h2, h3, h4⟩ := h
  exact ⟨n, h1, h2, h3, by rw [← h4, tsg_abs]; rfl⟩
theorem RepT.short {n p x : Nat} {s : Bool} {v : Int} (h4 : sg s (n * 2 ^ x) = v) (hv : v.natAbs < 2 ^ p) : n * 2 ^ x < 2 ^ p ∧ n < 2 ^ p := by
  have : n * 2 ^ x < 2 ^ p := by rw [← h4, tsg_abs] at hv; exact hv
  have h2 := Nat.le_mul_of_pos_right n (Nat.two_pow_pos x)
  omega
theorem RepT.nil {n x : Nat} {s : Bool} {v : Int} (h4 : sg s (n * 2 ^ x) = v) : n = 0 ↔ v = 0 := by
  constructor
  · intro e; rw [← h4, e, Nat.zero_mul, tsg_zero]
  · intro e
    have := congrArg Int.natAbs h4
    rw [tsg_abs, e] at this
    rcases Nat.mul_eq_zero.1 this with g | g
    · exact g
    · have := Nat.two_pow_pos x; omega
/-- The kind of a place: finite, infinite, a quiet NaN, a signalling one. -/
def kindT (W P k : Nat) : Int := if k < infP W P then 0 else if k = infP W P then 1 else if infP W P + 2 ^ (P - 2) ≤ k then 2 else 3
theorem kindT_ne {W P k : Nat} (h : infP W P ≤ k) : kindT W P k ≠ 0 := by
  unfold kindT
  rw [if_neg (by omega)]
  split
  · decide
  · split <;> decide
section
variable {f : Int} {W P : Nat} {em ex : Int} (h : Fm f W P em ex)
include h
theorem shl_i64 : shlK IntKind.i64 1 ((W - P : Nat) : Int) = ((2 ^ (W - P) : Nat) : Int) := by
  rcases fm_cases h with ⟨rfl, rfl, rfl, rfl, rfl⟩ | ⟨rfl, rfl, rfl, rfl, rfl⟩ | ⟨rfl, rfl, rfl, rfl, rfl⟩ | ⟨rfl, rfl, rfl, rfl, rfl⟩ <;> decide +kernel
end
theorem tmod_of (x : Int) {w : Nat} (hw : 0 < w) (h6 : w ≤ 6) : 0 ≤ IntKind.i64.wrap ((IntKind.u64.wrap x).tmod (w : Int)) ∧ IntKind.i64.wrap ((IntKind.u64.wrap x).tmod (w : Int)) < (w : Int) := by
  have h0 : 0 ≤ IntKind.u64.wrap x := by rw [wrap_u64]; omega
  have a1 := Int.tmod_nonneg (w : Int) h0
  have a2 := Int.tmod_lt_of_pos (IntKind.u64.wrap x) (show (0 : Int) < (w : Int) by omega)
  rw [wrapI (by omega) (by omega)]
  exact ⟨a1, a2⟩
section
variable {f : Int} {W P : Nat} {em ex : Int} (h : Fm f W P em ex)
include h
end
theorem RepT.pow {B : Int} {e : Int} {t : Nat} (h : e - B = (t : Int)) (h2 : t ≤ 20000) : RepT B false (d32 1) e ((2 ^ t : Nat) : Int) := by
  refine ⟨1, rfl, by omega, by omega, ?_⟩
  rw [Nat.one_mul, h, Int.toNat_natCast]; rfl
/-- A whole number of units 2^0. -/
theorem RepT.nat {B : Int} {t : Nat} (h : -B = (t : Int)) (h2 : t ≤ 20000) (s : Bool) (U : Nat) : RepT B s (d32 U) 0 (sg s (U * 2 ^ t)) := by
  refine ⟨U, rfl, by omega, by omega, ?_⟩
  rw [show (0 - B).toNat = t by omega]
theorem RepT.up {B : Int} {l : List Int} {e : Int} {w : Nat} (h : RepT B false l e (w : Int)) (j : Nat) (hj : e + (j : Int) ≤ B + 20000) : RepT B false l (e + (j : Int)) ((w * 2 ^ j : Nat) : Int) := by
  obtain ⟨n, h1, h2, h3, h4⟩ := h
  refine ⟨n, h1, by omega, hj, ?_⟩
  have h5 : n * 2 ^ (e - B).toNat = w := by
    unfold sg at h4; simp only [Bool.false_eq_true, if_false] at h4; exact Int.ofNat.inj h4
  have e1 : (e + (j : Int) - B).toNat = (e - B).toNat + j := by omega
  rw [e1, Nat.pow_add, ← Nat.mul_assoc, h5]; rfl
theorem RepT.empty {B : Int} {s : Bool} {l : List Int} {e : Int} (h : RepT B s l e 0) : l = [] := by
  obtain ⟨n, h1, h2, h3, h4⟩ := h
  rw [h1, (RepT.nil h4).2 rfl, d32_zero]
theorem RepT.some' {B : Int} {s : Bool} {l : List Int} {e v : Int} (h : RepT B s l e v) (hv : v ≠ 0) : 0 < l.length := by
  obtain ⟨n, h1, h2, h3, h4⟩ := h
  rw [h1]; exact d32_len_pos.2 fun c => hv ((RepT.nil h4).1 c)
theorem eight (x : Nat) : (IntKind.i64.wrap (((x % 8 : Nat) : Int) * 2)).tmod 8 = ((2 * x % 8 : Nat) : Int) ∧ IntKind.i64.wrap (((2 * x % 8 : Nat) : Int) + 1) = (((2 * x + 1) % 8 : Nat) : Int) := by
  have e1 : IntKind.i64.wrap (((x % 8 : Nat) : Int) * 2) = ((2 * (x % 8) : Nat) : Int) := by rw [wrapI (by omega) (by omega)]; omega
  have e2 : (((2 * (x % 8) : Nat) : Int)).tmod 8 = ((2 * x % 8 : Nat) : Int) := by
    rw [show (8 : Int) = ((8 : Nat) : Int) from rfl, tmod_nat]; congr 1; omega
  rw [e1, e2]
  refine ⟨rfl, ?_⟩
  rw [wrapI (by omega) (by omega)]; omega
end Go.Proofs.YtmoeaeflljpboaaDoor.X
