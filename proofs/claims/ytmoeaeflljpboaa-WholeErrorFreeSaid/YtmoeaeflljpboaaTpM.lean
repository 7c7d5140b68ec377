/- Plain law: verniertop's own naturals in pieces of 32 bits, its exact numbers in units of a power of two, a float's parts, its formats and modes, its question for whole multiples. Conditions: the lists and numbers are short; the format is one of the four, the pattern of its width. -/
import Derived.Test.YtmoeaeflljpboaaRfE
import Derived.Test.YtmoeaeflljpboaaDyB
import Derived.Test.YtmoeaeflljpboaaRnD
import Derived.Test.YtmoeaeflljpboaaSgA
namespace Go.Proofs.Ytmoeaeflljpboaa.X
open Go Go.Rex
set_option linter.unusedVariables false

/-! ### A number's pieces -/
def d32 (n : Nat) : List Int := if n = 0 then [] else ((n % 4294967296 : Nat) : Int) :: d32 (n / 4294967296)
termination_by n
decreasing_by exact Nat.div_lt_self (by omega) (by decide)
theorem d32_zero : d32 0 = [] := by rw [d32]; rfl
theorem d32_pos {n : Nat} (h : n ≠ 0) : d32 n = ((n % 4294967296 : Nat) : Int) :: d32 (n / 4294967296) := by rw [d32, if_neg h]
theorem v32_d32 (n : Nat) : v32 (d32 n) = n := by
  induction n using Nat.strongRecOn with
  | _ n ih =>
    by_cases h : n = 0
    · subst h; rw [d32_zero]; rfl
    · rw [d32_pos h]
      show ((n % 4294967296 : Nat) : Int).toNat + 4294967296 * v32 _ = n
      rw [ih _ (Nat.div_lt_self (by omega) (by decide)), Int.toNat_natCast]; omega
theorem W32.cons {x : Int} {r : List Int} (h0 : 0 ≤ x) (h1 : x < 4294967296) (h : W32 r) : W32 (x :: r) := by
  intro y hy
  cases hy with
  | head => exact ⟨h0, h1⟩
  | tail _ hy => exact h y hy
theorem W32.d32 (n : Nat) : W32 (d32 n) := by
  induction n using Nat.strongRecOn with
  | _ n ih =>
    by_cases h : n = 0
    · subst h; rw [d32_zero]; intro x hx; cases hx
    · rw [d32_pos h]
      exact W32.cons (by omega) (by omega) (ih _ (Nat.div_lt_self (by omega) (by decide)))
theorem d32_len {n k : Nat} : (d32 n).length ≤ k ↔ n < 4294967296 ^ k := by
  induction n using Nat.strongRecOn generalizing k with
  | _ n ih =>
    by_cases h : n = 0
    · subst h; rw [d32_zero]; simp [Nat.pow_pos]
    · rw [d32_pos h]
      cases k with
      | zero => simp; omega
      | succ k =>
        rw [List.length_cons, Nat.add_le_add_iff_right, ih _ (Nat.div_lt_self (by omega) (by decide)), Nat.pow_succ]
        exact Nat.div_lt_iff_lt_mul (by decide)
theorem d32_mono {n m : Nat} (h : n ≤ m) : (d32 n).length ≤ (d32 m).length := d32_len.2 (Nat.lt_of_le_of_lt h (d32_len.1 (Nat.le_refl _)))
theorem d32_nil {n : Nat} : d32 n = [] ↔ n = 0 := ⟨fun h => by rw [← v32_d32 n, h]; rfl, fun h => by rw [h, d32_zero]⟩
theorem d32_len_pos {n : Nat} : 0 < (d32 n).length ↔ n ≠ 0 := by rw [← List.ne_nil_iff_length_pos, Ne, d32_nil]
theorem d32_val {a : List Int} (hw : W32 a) (h : Neat a) : d32 (v32 a) = a := by
  induction a with
  | nil => exact d32_zero
  | cons x r ih =>
    have hx := hw x List.mem_cons_self
    have hr : W32 r := fun y hy => hw y (List.mem_cons_of_mem _ hy)
    have hne : v32 (x :: r) ≠ 0 := fun e => by
      exact h.pos hw.wf (by simp) (val_zero hw e)
    have e0 : v32 (x :: r) = x.toNat + 4294967296 * v32 r := rfl
    rw [d32_pos hne, e0]
    have e1 : (x.toNat + 4294967296 * v32 r) % 4294967296 = x.toNat := by omega
    have e2 : (x.toNat + 4294967296 * v32 r) / 4294967296 = v32 r := by omega
    rw [e1, e2, ih hr h.tail]
    congr 1; omega
theorem d32_top {n : Nat} (h : n ≠ 0) : 4294967296 ^ ((d32 n).length - 1) ≤ n := by
  have := d32_len_pos.2 h
  exact Nat.not_lt.1 fun hlt => by have := d32_len.2 hlt; omega
theorem pow32 (n : Nat) : 4294967296 ^ n = 2 ^ (32 * n) := by rw [Nat.pow_mul]
/-- Short enough: fewer than 2^(32 k). -/
theorem d32_short {n p k : Nat} (h : n < 2 ^ p) (hp : p ≤ 32 * k) : (d32 n).length ≤ k := by
  rw [d32_len, pow32]; exact Nat.lt_of_lt_of_le h (Nat.pow_le_pow_right (by decide) hp)
theorem u32w (x : Nat) : IntKind.u32.wrap (x : Int) = ((x % 4294967296 : Nat) : Int) := by
  simp [IntKind.wrap, IntKind.signed, IntKind.bits]
theorem u64n (x : Nat) (h : x < 18446744073709551616) : IntKind.u64.wrap (x : Int) = (x : Int) := by rw [wrap_u64]; omega
theorem ttrim_l0 (n : Nat) : ∀ a : List Int, a.length = n → W32 a → n ≤ 1000000 → Ev2 (fun k m => verniertop_trim.l0 k m a) (d32 (v32 a)) := by
  induction n with
  | zero =>
    intro a hl hw hn
    have : a = [] := List.eq_nil_of_length_eq_zero hl
    subst this
    refine Ev2.step (fun k m => verniertop_trim.l0_eq k m _) (Ev2.neg (dF (by simp)) (Ev2.eq (Ev2.some _) ?_))
    exact d32_zero.symm
  | succ n ih =>
    intro a hl hw hn
    refine Ev2.step (fun k m => verniertop_trim.l0_eq k m _) ?_
    have e : IntKind.i64.wrap ((a.length : Int) - 1) = (n : Int) := by rw [hl]; exact pred_i n (by omega)
    rw [e, Int.toNat_natCast]
    refine Ev2.pos (dT (by omega)) (Ev2.pos ⟨by omega, by omega⟩ ?_)
    have tk : v32 a = v32 (a.take n) + 4294967296 ^ n * (a.getD n 0).toNat := by
      have := v32_take_succ a n
      rwa [List.take_of_length_le (by omega)] at this
    by_cases c : a.getD n 0 = 0
    · refine Ev2.pos (bT c) (Ev2.pos ⟨by omega, by omega⟩ ?_)
      rw [tk, c]
      simpa using ih (a.take n) (by rw [List.length_take]; omega) (hw.take n) (by omega)
    · refine Ev2.neg (bF c) (Ev2.eq (Ev2.some _) (d32_val hw fun _ => ?_).symm)
      rw [hl]; simpa using c
theorem ttrim_ev {a : List Int} (ha : W32 a) (hl : a.length ≤ 1000000) : Ev (fun k => verniertop_trim k a) (d32 (v32 a)) :=
  Ev.congr (fun k => verniertop_trim_eq k a) (ttrim_l0 a.length a rfl ha hl).ev
theorem tnat_ev {x : Nat} (hx : x < 18446744073709551616) : Ev (fun k => verniertop_natural k (x : Int)) (d32 x) := by
  have e : shrK .u64 (x : Int) 32 = ((x / 2 ^ 32 : Nat) : Int) := shr32 x
  have h32 : (2 : Nat) ^ 32 = 4294967296 := rfl
  have hw : W32 (((List.replicate 2 (0 : Int)).set 0 ((x % 4294967296 : Nat) : Int)).set 1 ((x / 2 ^ 32 % 4294967296 : Nat) : Int)) := ((W32.replicate 2).set 0 (by omega)).set 1 (by omega)
  have hv : v32 (((List.replicate 2 (0 : Int)).set 0 ((x % 4294967296 : Nat) : Int)).set 1 ((x / 2 ^ 32 % 4294967296 : Nat) : Int)) = x := by
    show ((x % 4294967296 : Nat) : Int).toNat + 4294967296 * (((x / 2 ^ 32 % 4294967296 : Nat) : Int).toNat + 4294967296 * 0) = x
    rw [Int.toNat_natCast, Int.toNat_natCast, h32]; omega
  have t := ttrim_ev hw (by simp)
  rw [hv] at t
  refine Ev.congr (fun k => verniertop_natural_eq k _) ?_
  rw [e, u32w, u32w]
  exact Ev.bind t (Ev.some _)
theorem tcmp_l0 {a b : List Int} (ha : W32 a) (hb : W32 b) (hab : a.length = b.length) (n : Nat) : n ≤ a.length → a.length ≤ 1000000 → Ev2 (fun k m => verniertop_compare.l0 k m a b ((n : Int) - 1)) (cmpN (v32 (a.take n)) (v32 (b.take n))) := by
  induction n with
  | zero =>
    intro _ _
    refine Ev2.step (fun k m => verniertop_compare.l0_eq k m _ _ _) (Ev2.neg (dF (by omega)) (Ev2.eq (Ev2.some _) ?_))
    simp [v32, cmpN]
  | succ n ih =>
    intro hn hl
    refine Ev2.step (fun k m => verniertop_compare.l0_eq k m _ _ _) ?_
    obtain ⟨x, hx, ex⟩ := ha.getD n
    obtain ⟨y, hy, ey⟩ := hb.getD n
    have la := v32_lt (ha.take n)
    have lb := v32_lt (hb.take n)
    rw [List.length_take, Nat.min_eq_left (by omega)] at la lb
    have p := Nat.pow_pos (n := n) (show 0 < 4294967296 by decide)
    rw [show (((n + 1 : Nat) : Int) - 1) = (n : Int) by omega, Int.toNat_natCast, v32_take_succ a, v32_take_succ b, ex, ey, Int.toNat_natCast, Int.toNat_natCast]
    refine Ev2.pos (dT (by omega)) (Ev2.pos ⟨by omega, by omega⟩ (Ev2.pos ⟨by omega, by omega⟩ ?_))
    by_cases c : x = y
    · have := ih (by omega) hl
      refine Ev2.neg (nF (by omega)) ?_
      rw [c, cmpN_add, wrapI (x := (n : Int) - 1) (by omega) (by omega)]
      exact this
    · refine Ev2.pos (nT (by omega)) (Ev2.pos ⟨by omega, by omega⟩ (Ev2.pos ⟨by omega, by omega⟩ ?_))
      by_cases c2 : x < y
      · refine Ev2.pos (dT (by omega)) (Ev2.eq (Ev2.some _) ?_)
        have := Nat.mul_le_mul_left (4294967296 ^ n) (show x + 1 ≤ y from c2)
        rw [Nat.mul_add] at this
        unfold cmpN; rw [if_pos (by omega)]
      · refine Ev2.neg (dF (by omega)) (Ev2.eq (Ev2.some _) ?_)
        have := Nat.mul_le_mul_left (4294967296 ^ n) (show y + 1 ≤ x by omega)
        rw [Nat.mul_add] at this
        unfold cmpN; rw [if_neg (by omega), if_pos (by omega)]
theorem tcmp_ev {n m : Nat} (hn : (d32 n).length ≤ 1000000) (hm : (d32 m).length ≤ 1000000) : Ev (fun k => verniertop_compare k (d32 n) (d32 m)) (cmpN n m) := by
  refine Ev.congr (fun k => verniertop_compare_eq k _ _) ?_
  by_cases c : (d32 n).length = (d32 m).length
  · refine Ev.neg (nF (by omega)) ?_
    have := (tcmp_l0 (W32.d32 n) (W32.d32 m) c (d32 n).length (Nat.le_refl _) hn).ev
    rw [List.take_length, c, List.take_length, v32_d32, v32_d32] at this
    rw [wrapI (x := ((d32 n).length : Int) - 1) (by omega) (by omega), c]
    exact this
  · refine Ev.pos (nT (by omega)) ?_
    by_cases c2 : (d32 n).length < (d32 m).length
    · refine Ev.pos (dT (by omega)) (Ev.eq (Ev.some _) ?_)
      have : n < m := Nat.lt_of_not_le fun g => by have := d32_mono g; omega
      unfold cmpN; rw [if_pos this]
    · refine Ev.neg (dF (by omega)) (Ev.eq (Ev.some _) ?_)
      have : m < n := Nat.lt_of_not_le fun g => by have := d32_mono g; omega
      unfold cmpN; rw [if_neg (by omega), if_pos this]
theorem one_set (x : Int) : (List.replicate 1 (0 : Int)).set 0 x = [x] := rfl
theorem v32_snoc (o : List Int) (x : Nat) : v32 (o ++ [(x : Int)]) = v32 o + 4294967296 ^ o.length * x := by
  rw [v32_append]
  show v32 o + 4294967296 ^ o.length * ((x : Int).toNat + 4294967296 * 0) = _
  rw [Int.toNat_natCast]; simp
theorem W32.snoc {o : List Int} (h : W32 o) {x : Nat} (hx : x < 4294967296) : W32 (o ++ [(x : Int)]) := h.append (by intro y hy; simp at hy; subst hy; omega)
theorem cap4 {n : Nat} (h : n ≤ 2000000) : capOk 4 n = true := capOk_of (by omega)
theorem tplus_step (P A B O c t : Nat) (h : O + P * c = A + B) (x y : Nat) (ht : t = c + x + y) : O + P * (t % 4294967296) + P * 4294967296 * (t / 4294967296) = (A + P * x) + (B + P * y) := by
  have e := Nat.div_add_mod t 4294967296
  have : P * t = P * (4294967296 * (t / 4294967296)) + P * (t % 4294967296) := by rw [← Nat.mul_add, e]
  rw [← Nat.mul_assoc] at this
  have h2 : P * t = P * c + P * x + P * y := by rw [ht, Nat.mul_add, Nat.mul_add]
  omega
theorem tplus_l0 {a b : List Int} (ha : W32 a) (hb : W32 b) (la : a.length ≤ 500000) (lb : b.length ≤ 500000) (n : Nat) : ∀ (i c : Nat) (o : List Int), i + n = max a.length b.length → c ≤ 1 → W32 o → o.length = i → v32 o + 4294967296 ^ i * c = v32 (a.take i) + v32 (b.take i) →
    Ev2 (fun k m => verniertop_plus.l0 k m a b (c : Int) (i : Int) o) (d32 (v32 a + v32 b)) := by
  have fin : ∀ (i : Nat) (o : List Int), max a.length b.length ≤ i → i ≤ 600000 → W32 o → o.length = i → v32 o = v32 a + v32 b → Ev2 (fun k m => verniertop_plus.l0 k m a b 0 (i : Int) o) (d32 (v32 a + v32 b)) := by
    intro i o hi hi2 ho hl hv
    refine Ev2.step (fun k m => verniertop_plus.l0_eq k m _ _ _ _ _) (Ev2.neg (dF (by omega)) (Ev2.neg (dF (by omega)) (Ev2.neg (dF (by omega)) ?_)))
    have t := ttrim_ev ho (by omega)
    rw [hv] at t
    exact Ev2.call t (Ev2.some _)
  induction n with
  | zero =>
    intro i c o hi hc ho hl hv
    rw [List.take_of_length_le (by omega), List.take_of_length_le (by omega)] at hv
    by_cases c0 : c = 0
    · subst c0
      exact fin i o (by omega) (by omega) ho hl (by simpa using hv)
    · have c1 : c = 1 := by omega
      subst c1
      refine Ev2.step (fun k m => verniertop_plus.l0_eq k m _ _ _ _ _) (Ev2.neg (dF (by omega)) (Ev2.neg (dF (by omega)) (Ev2.pos (dT (by omega)) ?_)))
      refine Ev2.congr (fun k m => verniertop_plus.j1_eq k m _ _ _ _ _) (Ev2.neg (dF (by omega)) (Ev2.neg (dF (by omega)) ?_))
      rw [one_set, u32w, shr32, succ_i i (by omega)]
      refine Ev2.pos (cap4 (by simp; omega)) ?_
      exact fin (i + 1) _ (by omega) (by omega) (ho.snoc (by omega)) (by simp; omega) (by rw [v32_snoc, hl]; simpa using hv)
  | succ n ih =>
    intro i c o hi hc ho hl hv
    obtain ⟨x, hx, ex⟩ := ha.getD i
    obtain ⟨y, hy, ey⟩ := hb.getD i
    have st := tplus_step _ _ _ _ _ (c + x + y) hv x y rfl
    have nx := ih (i + 1) ((c + x + y) / 4294967296) (o ++ [(((c + x + y) % 4294967296 : Nat) : Int)]) (by omega) (by omega) (ho.snoc (by omega)) (by simp; omega) (by
      rw [v32_snoc, hl, v32_take_succ, v32_take_succ, ex, ey, Int.toNat_natCast, Int.toNat_natCast, Nat.pow_succ]; exact st)
    have h32 : (2 : Nat) ^ 32 = 4294967296 := rfl
    have j1 : Ev2 (fun k m => verniertop_plus.j1 k m a b (c : Int) (i : Int) o) (d32 (v32 a + v32 b)) := by
      refine Ev2.congr (fun k m => verniertop_plus.j1_eq k m _ _ _ _ _) ?_
      rw [Int.toNat_natCast, ex, ey, u64n x (by omega), u64n y (by omega), ← Int.natCast_add, u64n (c + x) (by omega), ← Int.natCast_add, u64n (c + x + y) (by omega), ← Int.natCast_add, u64n (c + y) (by omega), one_set, one_set, one_set, one_set, u32w, u32w, u32w, u32w, shr32, shr32, shr32, shr32, succ_i i (by omega), h32]
      by_cases ca : i < a.length
      · refine Ev2.pos (dT (by omega)) (Ev2.pos ⟨by omega, by omega⟩ ?_)
        by_cases cb : i < b.length
        · exact Ev2.pos (dT (by omega)) (Ev2.pos ⟨by omega, by omega⟩ (Ev2.pos (cap4 (by simp; omega)) nx))
        · have : y = 0 := by rw [getD_ge b (by omega)] at ey; omega
          subst this
          exact Ev2.neg (dF (by omega)) (Ev2.pos (cap4 (by simp; omega)) nx)
      · have x0 : x = 0 := by rw [getD_ge a (by omega)] at ex; omega
        subst x0
        have e : c + 0 + y = c + y := by omega
        rw [e] at nx
        exact Ev2.neg (dF (by omega)) (Ev2.pos (dT (by omega)) (Ev2.pos ⟨by omega, by omega⟩ (Ev2.pos (cap4 (by simp; omega)) nx)))
    refine Ev2.step (fun k m => verniertop_plus.l0_eq k m _ _ _ _ _) ?_
    by_cases ca : i < a.length
    · exact Ev2.pos (dT (by omega)) j1
    · exact Ev2.neg (dF (by omega)) (Ev2.pos (dT (by omega)) j1)
theorem tplus_ev {n m : Nat} (hn : (d32 n).length ≤ 500000) (hm : (d32 m).length ≤ 500000) : Ev (fun k => verniertop_plus k (d32 n) (d32 m)) (d32 (n + m)) := by
  have := (tplus_l0 (W32.d32 n) (W32.d32 m) hn hm (max (d32 n).length (d32 m).length) 0 0 [] (by omega) (by omega) (by intro x hx; cases hx) rfl (by simp [v32])).ev
  rw [v32_d32, v32_d32] at this
  exact Ev.congr (fun k => verniertop_plus_eq k _ _) this
theorem i64n (x : Int) (h0 : -9223372036854775808 ≤ x) (h1 : x < 9223372036854775808) : IntKind.i64.wrap x = x := wrapI (by omega) (by omega)
theorem tminus_l0 {a b : List Int} (ha : W32 a) (hb : W32 b) (la : a.length ≤ 500000) (lb : b.length ≤ a.length) (hle : v32 b ≤ v32 a) (n : Nat) : ∀ (i c : Nat) (o : List Int), i + n = a.length → c ≤ 1 → W32 o → o.length = i → v32 o + v32 (b.take i) = v32 (a.take i) + 4294967296 ^ i * c →
    Ev2 (fun k m => verniertop_minus.l0 k m a b (c : Int) (i : Int) o) (d32 (v32 a - v32 b)) := by
  induction n with
  | zero =>
    intro i c o hi hc ho hl hv
    rw [List.take_of_length_le (by omega), List.take_of_length_le (by omega)] at hv
    have lo := v32_lt ho
    rw [hl] at lo
    have c0 : c = 0 := by
      rcases Nat.eq_zero_or_pos c with g | g
      · exact g
      · have : c = 1 := by omega
        subst this
        omega
    subst c0
    refine Ev2.step (fun k m => verniertop_minus.l0_eq k m _ _ _ _ _) (Ev2.neg (dF (by omega)) ?_)
    have t := ttrim_ev ho (by omega)
    rw [show v32 o = v32 a - v32 b by omega] at t
    exact Ev2.call t (Ev2.some _)
  | succ n ih =>
    intro i c o hi hc ho hl hv
    obtain ⟨x, hx, ex⟩ := ha.getD i
    obtain ⟨y, hy, ey⟩ := hb.getD i
    have sa := v32_take_succ a i
    have sb := v32_take_succ b i
    rw [ex, Int.toNat_natCast] at sa
    rw [ey, Int.toNat_natCast] at sb
    have ps : 4294967296 ^ (i + 1) = 4294967296 ^ i * 4294967296 := Nat.pow_succ _ _
    -- the two ways on
    have low : x < c + y → Ev2 (fun k m => verniertop_minus.l0 k m a b 1 ((i + 1 : Nat) : Int) (o ++ [((x + 4294967296 - (c + y) : Nat) : Int)])) (d32 (v32 a - v32 b)) := fun g => by
      refine ih (i + 1) 1 _ (by omega) (by omega) (ho.snoc (by omega)) (by simp; omega) ?_
      rw [v32_snoc, hl, sa, sb, ps]
      obtain ⟨z, hz⟩ : ∃ z, x + 4294967296 = z + (c + y) := ⟨x + 4294967296 - (c + y), by omega⟩
      rw [show x + 4294967296 - (c + y) = z by omega]
      have := congrArg (4294967296 ^ i * ·) hz
      simp only [Nat.mul_add] at this
      omega
    have high : c + y ≤ x → Ev2 (fun k m => verniertop_minus.l0 k m a b 0 ((i + 1 : Nat) : Int) (o ++ [((x - (c + y) : Nat) : Int)])) (d32 (v32 a - v32 b)) := fun g => by
      refine ih (i + 1) 0 _ (by omega) (by omega) (ho.snoc (by omega)) (by simp; omega) ?_
      rw [v32_snoc, hl, sa, sb, ps]
      obtain ⟨z, hz⟩ : ∃ z, x = z + (c + y) := ⟨x - (c + y), by omega⟩
      rw [show x - (c + y) = z by omega]
      have := congrArg (4294967296 ^ i * ·) hz
      simp only [Nat.mul_add] at this
      omega
    refine Ev2.step (fun k m => verniertop_minus.l0_eq k m _ _ _ _ _) ?_
    rw [Int.toNat_natCast, ex, ey, i64n (x : Int) (by omega) (by omega), i64n (y : Int) (by omega) (by omega), i64n ((x : Int) - c) (by omega) (by omega), i64n ((x : Int) - c - y) (by omega) (by omega), one_set, one_set, one_set, one_set, succ_i i (by omega), i64n ((x : Int) - c - y + 4294967296) (by omega) (by omega), i64n ((x : Int) - c + 4294967296) (by omega) (by omega)]
    refine Ev2.pos (dT (by omega)) (Ev2.pos ⟨by omega, by omega⟩ ?_)
    by_cases cb : i < b.length
    · refine Ev2.pos (dT (by omega)) (Ev2.pos ⟨by omega, by omega⟩ ?_)
      by_cases g : x < c + y
      · have e : (x : Int) - c - y + 4294967296 = ((x + 4294967296 - (c + y) : Nat) : Int) := by omega
        rw [e, u32w, Nat.mod_eq_of_lt (a := x + 4294967296 - (c + y)) (by omega)]
        exact Ev2.pos (dT (by omega)) (Ev2.pos (cap4 (by simp; omega)) (low g))
      · have e : (x : Int) - c - y = ((x - (c + y) : Nat) : Int) := by omega
        rw [e, u32w, Nat.mod_eq_of_lt (a := x - (c + y)) (by omega)]
        exact Ev2.neg (dF (by omega)) (Ev2.pos (cap4 (by simp; omega)) (high (by omega)))
    · have y0 : y = 0 := by rw [getD_ge b (by omega)] at ey; omega
      subst y0
      refine Ev2.neg (dF (by omega)) ?_
      by_cases g : x < c + 0
      · have e : (x : Int) - c + 4294967296 = ((x + 4294967296 - (c + 0) : Nat) : Int) := by omega
        rw [e, u32w, Nat.mod_eq_of_lt (a := x + 4294967296 - (c + 0)) (by omega)]
        exact Ev2.pos (dT (by omega)) (Ev2.pos (cap4 (by simp; omega)) (low g))
      · have e : (x : Int) - c = ((x - (c + 0) : Nat) : Int) := by omega
        rw [e, u32w, Nat.mod_eq_of_lt (a := x - (c + 0)) (by omega)]
        exact Ev2.neg (dF (by omega)) (Ev2.pos (cap4 (by simp; omega)) (high (by omega)))
theorem tminus_ev {n m : Nat} (hn : (d32 n).length ≤ 500000) (h : m ≤ n) : Ev (fun k => verniertop_minus k (d32 n) (d32 m)) (d32 (n - m)) := by
  have := (tminus_l0 (W32.d32 n) (W32.d32 m) hn (d32_mono h) (by rw [v32_d32, v32_d32]; exact h) (d32 n).length 0 0 [] (by omega) (by omega) (by intro x hx; cases hx) rfl (by simp [v32])).ev
  rw [v32_d32, v32_d32] at this
  exact Ev.congr (fun k => verniertop_minus_eq k _ _) this
theorem tleft_l0 {a : List Int} (ha : W32 a) (la : a.length ≤ 500000) {t q s : Nat} (ht : t = 32 * q + s) (hs : s < 32) (hq : q ≤ 400000) (n : Nat) : ∀ (i c : Nat) (o : List Int), i + n = a.length → c < 2 ^ s → W32 o → o.length = q + i → v32 o + 4294967296 ^ (q + i) * c = v32 (a.take i) * 2 ^ t →
    Ev2 (fun k m => verniertop_left.l0 k m (t : Int) (c : Int) a (a.length : Int) (i : Int) o) (d32 (v32 a * 2 ^ t)) := by
  have s31 : 2 ^ s ≤ 2 ^ 31 := pow_mono2 (by omega)
  have h31 : (2 : Nat) ^ 31 = 2147483648 := rfl
  have h32 : (2 : Nat) ^ 32 = 4294967296 := rfl
  induction n with
  | zero =>
    intro i c o hi hc ho hl hv
    rw [List.take_of_length_le (by omega)] at hv
    refine Ev2.step (fun k m => verniertop_left.l0_eq k m _ _ _ _ _ _) (Ev2.neg (dF (by omega)) ?_)
    rw [one_set, u32w, Nat.mod_eq_of_lt (by omega)]
    have t := ttrim_ev (ho.snoc (x := c) (by omega)) (by simp; omega)
    rw [v32_snoc, hl, hv] at t
    exact Ev2.pos (cap4 (by simp; omega)) (Ev2.call t (Ev2.some _))
  | succ n ih =>
    intro i c o hi hc ho hl hv
    obtain ⟨x, hx, ex⟩ := ha.getD i
    have hxs : x * 2 ^ s < 4294967296 * 2 ^ s := Nat.mul_lt_mul_of_pos_right hx (Nat.two_pow_pos s)
    have hsum : c + x * 2 ^ s < 4294967296 * 2 ^ s := by
      have := Nat.mul_le_mul_right (2 ^ s) (show x + 1 ≤ 4294967296 from hx)
      rw [Nat.add_mul, Nat.one_mul] at this; omega
    have hlt : c + x * 2 ^ s < 18446744073709551616 := by
      have := Nat.mul_le_mul_left 4294967296 s31; omega
    have em : ((t : Int).tmod 32) = (s : Int) := by rw [show (32 : Int) = ((32 : Nat) : Int) from rfl, tmod_nat]; congr 1; omega
    have eo : orK .u64 (c : Int) ((x * 2 ^ s : Nat) : Int) = ((c + x * 2 ^ s : Nat) : Int) := by
      have := orK_add' c (x * 2 ^ s) s hc (Nat.mul_mod_left _ _) hlt
      exact this
    have nx := ih (i + 1) ((c + x * 2 ^ s) / 4294967296) (o ++ [(((c + x * 2 ^ s) % 4294967296 : Nat) : Int)]) (by omega) (Nat.div_lt_of_lt_mul hsum) (ho.snoc (by omega)) (by simp; omega) (by
      rw [v32_snoc, hl, v32_take_succ, ex, Int.toNat_natCast, Nat.add_mul, ← hv, ← Nat.add_assoc q i 1, Nat.pow_succ]
      have e := Nat.div_add_mod (c + x * 2 ^ s) 4294967296
      generalize (c + x * 2 ^ s) / 4294967296 = hi' at *
      generalize (c + x * 2 ^ s) % 4294967296 = lo at *
      have pw : 4294967296 ^ i * x * 2 ^ t = 4294967296 ^ (q + i) * (x * 2 ^ s) := by
        rw [ht, Nat.pow_add 2, Nat.pow_mul, show (2 : Nat) ^ 32 = 4294967296 from rfl, Nat.pow_add]
        simp only [Nat.mul_assoc, Nat.mul_comm, Nat.mul_left_comm]
      rw [pw]
      generalize 4294967296 ^ (q + i) = P at *
      have := congrArg (P * ·) e
      simp only [Nat.mul_add] at this
      rw [Nat.mul_assoc P 4294967296]
      omega)
    refine Ev2.step (fun k m => verniertop_left.l0_eq k m _ _ _ _ _ _) ?_
    rw [Int.toNat_natCast, ex, em, u64n x (by omega), shlK_exact x s (by omega) (by omega), eo, one_set, one_set, u32w, shr32, h32, succ_i i (by omega)]
    exact Ev2.pos (dT (by omega)) (Ev2.pos ⟨by omega, by omega⟩ (Ev2.pos (by omega) (Ev2.pos (cap4 (by simp; omega)) nx)))
theorem tleft_ev {n t : Nat} (hn : (d32 n).length ≤ 400000) (ht : t ≤ 3000000) : Ev (fun k => verniertop_left k (d32 n) (t : Int)) (d32 (n * 2 ^ t)) := by
  refine Ev.congr (fun k => verniertop_left_eq k _ _) ?_
  by_cases c : n = 0
  · rw [c, d32_zero, Nat.zero_mul, d32_zero]
    exact Ev.pos (bT rfl) (Ev.some _)
  · have := d32_len_pos.2 c
    have ed : IntKind.i64.wrap ((t : Int).tdiv 32) = ((t / 32 : Nat) : Int) := by rw [show (32 : Int) = ((32 : Nat) : Int) from rfl, tdiv_nat, wrapI (by omega) (by omega)]
    rw [ed, Int.toNat_natCast]
    have l0 := (tleft_l0 (W32.d32 n) (by omega) (t := t) (q := t / 32) (s := t % 32) (by omega) (by omega) (by omega) (d32 n).length 0 0 (List.replicate (t / 32) 0) (by omega) (Nat.two_pow_pos _) (W32.replicate _) (by simp) (by simp [v32, v32_replicate])).ev
    rw [v32_d32] at l0
    exact Ev.neg (bF (by omega)) (Ev.pos ⟨by omega, by omega⟩ l0)
/-- An exact number of verniertop's own that is v units of 2^B. -/
def RepT (B : Int) (s : Bool) (l : List Int) (e v : Int) : Prop := ∃ n : Nat, l = d32 n ∧ B ≤ e ∧ e ≤ B + 20000 ∧ sg s (n * 2 ^ (e - B).toNat) = v
theorem tsg_zero (s : Bool) : sg s 0 = 0 := by cases s <;> rfl
theorem tsg_abs (s : Bool) (n : Nat) : (sg s n).natAbs = n := by unfold sg; cases s <;> simp
theorem tsg_neg (s : Bool) (n : Nat) : sg (!s) n = -(sg s n) := by unfold sg; cases s <;> simp
theorem RepT.neg {B : Int} {s : Bool} {l : List Int} {e v : Int} (h : RepT B s l e v) : RepT B (!s) l e (-v) := by
  obtain ⟨n, h1, h2, h3, h4⟩ := h
  exact ⟨n, h1, h2, h3, by rw [tsg_neg, h4]⟩
theorem RepT.abs {B : Int} {s : Bool} {l : List Int} {e v : Int} (h : RepT B s l e v) : RepT B false l e (v.natAbs : Int) := by
  obtain ⟨n, h1, h2, h3, h4⟩ := h
  exact ⟨n, h1, h2, h3, by rw [← h4, tsg_abs]; rfl⟩
theorem RepT.short {n p x : Nat} {s : Bool} {v : Int} (h4 : sg s (n * 2 ^ x) = v) (hv : v.natAbs < 2 ^ p) : n * 2 ^ x < 2 ^ p ∧ n < 2 ^ p := by
  have : n * 2 ^ x < 2 ^ p := by rw [← h4, tsg_abs] at hv; exact hv
  have h2 := Nat.le_mul_of_pos_right n (Nat.two_pow_pos x)
  omega
theorem RepT.nil {n x : Nat} {s : Bool} {v : Int} (h4 : sg s (n * 2 ^ x) = v) : n = 0 ↔ v = 0 := by
  constructor
  · intro e; rw [← h4, e, Nat.zero_mul, tsg_zero]
  · intro e
    have := congrArg Int.natAbs h4
    rw [tsg_abs, e] at this
    rcases Nat.mul_eq_zero.1 this with g | g
    · exact g
    · have := Nat.two_pow_pos x; omega
theorem signT {B : Int} {s : Bool} {l : List Int} {e v : Int} (h : RepT B s l e v) : Ev (fun k => verniertop_sign k s l e) (sgn v) := by
  obtain ⟨n, rfl, h2, h3, h4⟩ := h
  have hn := RepT.nil h4
  refine Ev.congr (fun k => verniertop_sign_eq k _ _ _) ?_
  by_cases c : n = 0
  · rw [hn.1 c, c, d32_zero]
    exact Ev.pos (bT rfl) (Ev.eq (Ev.some _) rfl)
  · have := d32_len_pos.2 c
    have hv : v ≠ 0 := fun e => c (hn.2 e)
    refine Ev.neg (bF (by omega)) ?_
    rw [← h4] at hv ⊢
    generalize n * 2 ^ (e - B).toNat = z at *
    unfold sg at *
    cases s
    · simp at hv ⊢
      exact Ev.eq (Ev.some _) (by unfold sgn; rw [if_neg (by omega), if_neg (by omega)])
    · simp at hv ⊢
      exact Ev.eq (Ev.some _) (by unfold sgn; rw [if_pos (by omega)])
theorem sumB {B : Int} (hB : -5000 ≤ B ∧ B ≤ 5000) {s t : Bool} {l m : List Int} {e f v w : Int} (h : RepT B s l e v) (h' : RepT B t m f w) {p : Nat} (hp : p ≤ 20000) (hv : v.natAbs < 2 ^ p) (hw : w.natAbs < 2 ^ p) :
    ∃ (s1 : Bool) (l1 : List Int) (e1 : Int), Ev (fun k => verniertop_sum k s l e t m f) (s1, (l1, e1)) ∧ (e1 = e ∨ e1 = f) ∧ RepT B s1 l1 e1 (v + w) := by
  obtain ⟨n, rfl, n2, n3, n4⟩ := h
  obtain ⟨q, rfl, q2, q3, q4⟩ := h'
  have zn := RepT.nil n4
  have zq := RepT.nil q4
  have sn := RepT.short n4 hv
  have sq := RepT.short q4 hw
  by_cases c1 : n = 0
  · refine ⟨t, d32 q, f, Ev.congr (fun k => verniertop_sum_eq k _ _ _ _ _ _) (Ev.pos (bT (by rw [c1, d32_zero]; rfl)) (Ev.some _)), .inr rfl, q, rfl, q2, q3, ?_⟩
    rw [zn.1 c1, Int.zero_add]; exact q4
  by_cases c2 : q = 0
  · refine ⟨s, d32 n, e, Ev.congr (fun k => verniertop_sum_eq k _ _ _ _ _ _) (Ev.neg (bF (by have := d32_len_pos.2 c1; omega)) (Ev.pos (bT (by rw [c2, d32_zero]; rfl)) (Ev.some _))), .inl rfl, n, rfl, n2, n3, ?_⟩
    rw [zq.1 c2, Int.add_zero]; exact n4
  have ln : (d32 n).length ≤ 625 := d32_short sn.2 (by omega)
  have lq : (d32 q).length ≤ 625 := d32_short sq.2 (by omega)
  -- both at the lower place
  have al : ∃ (X Y : Nat) (g : Int), Ev (fun k => verniertop_aligned k s (d32 n) e t (d32 q) f) (d32 X, (d32 Y, g)) ∧ (g = e ∨ g = f) ∧ B ≤ g ∧ g ≤ B + 20000 ∧ X * 2 ^ (g - B).toNat = n * 2 ^ (e - B).toNat ∧ Y * 2 ^ (g - B).toNat = q * 2 ^ (f - B).toNat := by
    by_cases c : e > f
    · have e1 : IntKind.i64.wrap (e - f) = ((e - f).toNat : Int) := by rw [wrapI (by omega) (by omega)]; omega
      have lf := tleft_ev (n := n) (t := (e - f).toNat) (by omega) (by omega)
      refine ⟨n * 2 ^ (e - f).toNat, q, f, Ev.congr (fun k => verniertop_aligned_eq k _ _ _ _ _ _) (Ev.pos (dT c) ?_), .inr rfl, q2, by omega, ?_, rfl⟩
      · rw [e1]; exact Ev.bind lf (Ev.some _)
      · rw [Nat.mul_assoc, ← Nat.pow_add]; congr 2; omega
    · have e1 : IntKind.i64.wrap (f - e) = ((f - e).toNat : Int) := by rw [wrapI (by omega) (by omega)]; omega
      have lf := tleft_ev (n := q) (t := (f - e).toNat) (by omega) (by omega)
      refine ⟨n, q * 2 ^ (f - e).toNat, e, Ev.congr (fun k => verniertop_aligned_eq k _ _ _ _ _ _) (Ev.neg (dF c) ?_), .inl rfl, n2, by omega, rfl, ?_⟩
      · rw [e1]; exact Ev.bind lf (Ev.some _)
      · rw [Nat.mul_assoc, ← Nat.pow_add]; congr 2; omega
  obtain ⟨X, Y, g, a1, gg, g0, g1, x1, y1⟩ := al
  have lX : (d32 X).length ≤ 625 := d32_short (p := p) (by have := Nat.le_mul_of_pos_right X (Nat.two_pow_pos (g - B).toNat); omega) (by omega)
  have lY : (d32 Y).length ≤ 625 := d32_short (p := p) (by have := Nat.le_mul_of_pos_right Y (Nat.two_pow_pos (g - B).toNat); omega) (by omega)
  have start : ∀ {r}, Ev (fun k => (if s == t then ((verniertop_plus k (d32 X) (d32 Y))).bind fun o1 => some (s, (o1, g)) else ((verniertop_compare k (d32 X) (d32 Y))).bind fun o2 => (if decide (o2 ≥ 0) then ((verniertop_minus k (d32 X) (d32 Y))).bind fun o3 => some (s, (o3, g)) else ((verniertop_minus k (d32 Y) (d32 X))).bind fun o4 => some (t, (o4, g))))) r → Ev (fun k => verniertop_sum k s (d32 n) e t (d32 q) f) r := fun g => Ev.congr (fun k => verniertop_sum_eq k _ _ _ _ _ _) (Ev.neg (bF (by have := d32_len_pos.2 c1; omega)) (Ev.neg (bF (by have := d32_len_pos.2 c2; omega)) (Ev.bind a1 g)))
  rw [← x1] at n4
  rw [← y1] at q4
  by_cases hs : s = t
  · subst hs
    refine ⟨s, d32 (X + Y), g, start (Ev.pos (by simp) (Ev.bind (tplus_ev (by omega) (by omega)) (Ev.some _))), gg, X + Y, rfl, g0, g1, ?_⟩
    rw [← n4, ← q4, Nat.add_mul]
    generalize X * 2 ^ (g - B).toNat = x' at *
    generalize Y * 2 ^ (g - B).toNat = y' at *
    unfold sg; cases s <;> simp <;> omega
  · have hne : ¬ ((s == t) = true) := by simpa using hs
    have ht : t = !s := by cases s <;> cases t <;> simp_all
    by_cases c : Y ≤ X
    · refine ⟨s, d32 (X - Y), g, start (Ev.neg hne (Ev.bind (tcmp_ev (by omega) (by omega)) (Ev.pos (dT (by unfold cmpN; rw [if_neg (by omega)]; split <;> omega)) (Ev.bind (tminus_ev (by omega) c) (Ev.some _))))), gg, X - Y, rfl, g0, g1, ?_⟩
      have := Nat.mul_le_mul_right (2 ^ (g - B).toNat) c
      rw [← n4, ← q4, ht, tsg_neg, Nat.sub_mul]
      generalize X * 2 ^ (g - B).toNat = x' at *
      generalize Y * 2 ^ (g - B).toNat = y' at *
      unfold sg; cases s <;> simp <;> omega
    · refine ⟨t, d32 (Y - X), g, start (Ev.neg hne (Ev.bind (tcmp_ev (by omega) (by omega)) (Ev.neg (dF (by unfold cmpN; rw [if_pos (by omega)]; decide)) (Ev.bind (tminus_ev (by omega) (by omega)) (Ev.some _))))), gg, Y - X, rfl, g0, g1, ?_⟩
      have := Nat.mul_le_mul_right (2 ^ (g - B).toNat) (show X ≤ Y by omega)
      rw [← n4, ← q4, ht, tsg_neg, tsg_neg, Nat.sub_mul]
      generalize X * 2 ^ (g - B).toNat = x' at *
      generalize Y * 2 ^ (g - B).toNat = y' at *
      unfold sg; cases s <;> simp <;> omega
theorem sumT {B : Int} (hB : -5000 ≤ B ∧ B ≤ 5000) {s t : Bool} {l m : List Int} {e f v w : Int} (h : RepT B s l e v) (h' : RepT B t m f w) {p : Nat} (hp : p ≤ 20000) (hv : v.natAbs < 2 ^ p) (hw : w.natAbs < 2 ^ p) :
    ∃ (s1 : Bool) (l1 : List Int) (e1 : Int), Ev (fun k => verniertop_sum k s l e t m f) (s1, (l1, e1)) ∧ RepT B s1 l1 e1 (v + w) := by
  obtain ⟨s1, l1, e1, r1, -, r2⟩ := sumB hB h h' hp hv hw
  exact ⟨s1, l1, e1, r1, r2⟩
theorem oppT (k : Nat) (s : Bool) (l : List Int) (e : Int) : verniertop_opposite k s l e = some (!s, (l, e)) := verniertop_opposite_eq k s l e
theorem versusT {B : Int} (hB : -5000 ≤ B ∧ B ≤ 5000) {s t : Bool} {l m : List Int} {e f v w : Int} (h : RepT B s l e v) (h' : RepT B t m f w) {p : Nat} (hp : p ≤ 20000) (hv : v.natAbs < 2 ^ p) (hw : w.natAbs < 2 ^ p) :
    Ev (fun k => verniertop_versus k s l e t m f) (sgn (v - w)) := by
  obtain ⟨s1, l1, e1, r1, r2⟩ := sumT hB h h'.neg hp hv (by rw [Int.natAbs_neg]; exact hw)
  have g := signT r2
  rw [← Int.sub_eq_add_neg] at g
  exact Ev.congr (fun k => verniertop_versus_eq k _ _ _ _ _ _) (Ev.bind (Ev.of fun k => oppT k _ _ _) (Ev.bind r1 (Ev.bind g (Ev.some _))))
/-- The kind of a place: finite, infinite, a quiet NaN, a signalling one. -/
def kindT (W P k : Nat) : Int := if k < infP W P then 0 else if k = infP W P then 1 else if infP W P + 2 ^ (P - 2) ≤ k then 2 else 3
theorem kindT_ne {W P k : Nat} (h : infP W P ≤ k) : kindT W P k ≠ 0 := by
  unfold kindT
  rw [if_neg (by omega)]
  split
  · decide
  · split <;> decide
section
variable {f : Int} {W P : Nat} {em ex : Int} (h : Fm f W P em ex)
include h
theorem layT (k : Nat) : verniertop_layout k f = some ((W : Int), ((P : Int), em)) := by
  rcases fm_cases h with ⟨rfl, rfl, rfl, rfl, rfl⟩ | ⟨rfl, rfl, rfl, rfl, rfl⟩ | ⟨rfl, rfl, rfl, rfl, rfl⟩ | ⟨rfl, rfl, rfl, rfl, rfl⟩ <;> rfl
theorem shl_i64 : shlK IntKind.i64 1 ((W - P : Nat) : Int) = ((2 ^ (W - P) : Nat) : Int) := by
  rcases fm_cases h with ⟨rfl, rfl, rfl, rfl, rfl⟩ | ⟨rfl, rfl, rfl, rfl, rfl⟩ | ⟨rfl, rfl, rfl, rfl, rfl⟩ | ⟨rfl, rfl, rfl, rfl, rfl⟩ <;> decide +kernel
omit h in
theorem maskT {n : Nat} (hn : n < 64) : IntKind.u64.wrap (shlK .u64 1 (n : Int) - 1) = ((2 ^ n - 1 : Nat) : Int) := by
  have hp := Nat.two_pow_pos n
  have hl : 2 ^ n < 2 ^ 64 := Nat.pow_lt_pow_right (by decide) hn
  have h64 : (2 : Nat) ^ 64 = 18446744073709551616 := rfl
  have e := shlK_exact 1 n (by omega) (by omega)
  rw [Nat.one_mul, show ((1 : Nat) : Int) = 1 from rfl] at e
  rw [e, show ((2 ^ n : Nat) : Int) - 1 = ((2 ^ n - 1 : Nat) : Int) by omega, u64n _ (by omega)]
theorem partsK {a : Nat} (ha : a < 2 ^ W) : (pk W a < infP W P → ∃ (l : List Int) (e : Int), Ev (fun k => verniertop_parts k f (a : Int)) (ps W a, ((0 : Int), (ps W a, (l, e)))) ∧ RepT (em - (P : Int) + 1) (ps W a) l e (sg (ps W a) (plV P (pk W a))) ∧ e ≤ em - (P : Int) + 1 + 3000) ∧
    (infP W P ≤ pk W a → Ev (fun k => verniertop_parts k f (a : Int)) (ps W a, (kindT W P (pk W a), (false, (([] : List Int), (0 : Int)))))) := by
  have h1 := h.w64; have h8 := h.p8; have h3 := h.wp; have h53 := h.p53; have m0 := h.m0; have m1 := h.m1; have h11 := h.wp11
  obtain ⟨p1, p2, p3, p4, p5, p6⟩ := pat_parts h ha
  obtain ⟨f1, f2, f3⟩ := field_top h ha
  have hwp : 2 ^ (W - P) ≤ 2 ^ 11 := pow_mono2 (by omega)
  have h211 : (2 : Nat) ^ 11 = 2048 := rfl
  have hw5 := Nat.two_pow_pos (W - P)
  have hF := Nat.mod_lt (pk W a) (Nat.two_pow_pos (P - 1))
  have h52 : 2 ^ (P - 1) ≤ 2 ^ 52 := pow_mono2 (by omega)
  have h52' : (2 : Nat) ^ 52 = 4503599627370496 := rfl
  have eT : eTop W P = 2 ^ (W - P) - 1 := rfl
  have i1 : IntKind.i64.wrap ((W : Int) - 1) = ((W - 1 : Nat) : Int) := by rw [wrapI (by omega) (by omega)]; omega
  have i2 : IntKind.i64.wrap ((P : Int) - 1) = ((P - 1 : Nat) : Int) := by rw [wrapI (by omega) (by omega)]; omega
  have i3 : IntKind.i64.wrap ((W : Int) - (P : Int)) = ((W - P : Nat) : Int) := by rw [wrapI (by omega) (by omega)]; omega
  have i4 : IntKind.i64.wrap ((P : Int) - 2) = ((P - 2 : Nat) : Int) := by rw [wrapI (by omega) (by omega)]; omega
  have e1 : (andK IntKind.u64 (shrK IntKind.u64 (a : Int) ((W - 1 : Nat) : Int)) 1 == 1) = ps W a := by
    rw [shrK_nat a (W - 1) (by omega), andK_one _ (by have := Nat.div_le_self a (2 ^ (W - 1)); omega)]
    have hl : a / 2 ^ (W - 1) < 2 := Nat.div_lt_of_lt_mul (by rw [Nat.mul_comm, ← pow_half (P := W) (by omega)]; exact ha)
    rw [← p3, Nat.mod_eq_of_lt hl]
    generalize a / 2 ^ (W - 1) = z at *
    by_cases c : z = 0
    · rw [c]; rfl
    · rw [show z = 1 by omega]; rfl
  have e2 : andK IntKind.u64 (a : Int) (IntKind.u64.wrap (shlK IntKind.u64 1 ((P - 1 : Nat) : Int) - 1)) = ((pk W a % 2 ^ (P - 1) : Nat) : Int) := by
    rw [maskT (by omega), andK_mask a (P - 1) (by omega) p6, p2]
  have e3 : IntKind.i64.wrap (andK IntKind.u64 (shrK IntKind.u64 (a : Int) ((P - 1 : Nat) : Int)) (IntKind.u64.wrap (shlK IntKind.u64 1 ((W - P : Nat) : Int) - 1))) = ((pk W a / 2 ^ (P - 1) : Nat) : Int) := by
    rw [maskT (by omega), shrK_nat a (P - 1) (by omega), andK_mask _ (W - P) (by omega) (by have := Nat.div_le_self a (2 ^ (P - 1)); omega), p1, wrapI (by have := Int.natCast_nonneg (pk W a / 2 ^ (P - 1)); omega) (by omega)]
  have e4 : IntKind.i64.wrap (shlK IntKind.i64 1 ((W - P : Nat) : Int) - 1) = ((eTop W P : Nat) : Int) := by
    rw [shl_i64 h, eT, wrapI (by omega) (by omega)]; omega
  have e5 : IntKind.i64.wrap (IntKind.i64.wrap (em - (P : Int)) + 1) = em - (P : Int) + 1 := by rw [wrapI (x := em - (P : Int)) (by omega) (by omega), wrapI (by omega) (by omega)]
  have hv := plV_pat (P := P) (by omega) (pk W a)
  have start : ∀ {r}, Ev (fun k => verniertop_parts.j0 k (W : Int) (P : Int) em (ps W a) ((pk W a % 2 ^ (P - 1) : Nat) : Int) ((pk W a / 2 ^ (P - 1) : Nat) : Int) (decide (pk W a / 2 ^ (P - 1) = eTop W P) && (((pk W a % 2 ^ (P - 1) : Nat) : Int) == 0)) false 0) r → Ev (fun k => verniertop_parts k f (a : Int)) r := fun g => by
    refine Ev.congr (fun k => verniertop_parts_eq k _ _) (Ev.bind (Ev.of fun k => layT h k) ?_)
    dsimp only
    rw [i1, i2, i3, e1, e2, e3, e4]
    refine Ev.pos (by omega) (Ev.pos (by omega) (Ev.pos (by omega) (Ev.pos (by omega) (Ev.pos (by omega) ?_))))
    by_cases c : pk W a / 2 ^ (P - 1) = eTop W P
    · rw [decide_eq_true c, Bool.true_and] at g
      exact Ev.pos (bT (by rw [c])) g
    · rw [decide_eq_false c, Bool.false_and] at g
      exact Ev.neg (bF (by omega)) g
  generalize pk W a % 2 ^ (P - 1) = Fr at *
  generalize pk W a / 2 ^ (P - 1) = E at *
  refine ⟨fun hi => ?_, fun hi => ?_⟩
  · have hE : E ≠ eTop W P := fun e => by have := f1.1 e; omega
    rw [decide_eq_false hE, Bool.false_and] at start
    unfold fN fQ at hv
    by_cases c : E = 0
    · rw [if_pos c, if_pos c, Nat.pow_zero, Nat.mul_one] at hv
      refine ⟨d32 Fr, em - (P : Int) + 1, start (Ev.congr (fun k => verniertop_parts.j0_eq k _ _ _ _ _ _ _ _ _) ?_), ⟨Fr, rfl, by omega, by omega, ?_⟩, by omega⟩
      · rw [i3, e4]
        refine Ev.neg (by simp) (Ev.pos (by omega) (Ev.neg (bF (by omega)) (Ev.congr (fun k => verniertop_parts.j1_eq k _ _ _ _ _ _ _ _ _) ?_)))
        rw [i3, e4, e5]
        exact Ev.neg (by simp) (Ev.pos (by omega) (Ev.neg (bF (by omega)) (Ev.pos (bT (by omega)) (Ev.bind (tnat_ev (by omega)) (Ev.some _)))))
      · rw [Int.sub_self, Int.toNat_zero, Nat.pow_zero, Nat.mul_one, hv]
    · rw [if_neg c, if_neg c] at hv
      have eo : orK IntKind.u64 (Fr : Int) (shlK IntKind.u64 1 ((P - 1 : Nat) : Int)) = ((Fr + 2 ^ (P - 1) : Nat) : Int) := by
        have e := shlK_exact 1 (P - 1) (by omega) (by omega)
        rw [Nat.one_mul, show ((1 : Nat) : Int) = 1 from rfl] at e
        rw [e, orK_add' _ _ (P - 1) hF (Nat.mod_self _) (by omega)]
      have e6 : IntKind.i64.wrap (IntKind.i64.wrap (em - (P : Int)) + (E : Int)) = em - (P : Int) + (E : Int) := by rw [wrapI (x := em - (P : Int)) (by omega) (by omega), wrapI (by omega) (by omega)]
      refine ⟨d32 (Fr + 2 ^ (P - 1)), em - (P : Int) + (E : Int), start (Ev.congr (fun k => verniertop_parts.j0_eq k _ _ _ _ _ _ _ _ _) ?_), ⟨Fr + 2 ^ (P - 1), rfl, by omega, by omega, ?_⟩, by omega⟩
      · rw [i3, e4]
        refine Ev.neg (by simp) (Ev.pos (by omega) (Ev.neg (bF (by omega)) (Ev.congr (fun k => verniertop_parts.j1_eq k _ _ _ _ _ _ _ _ _) ?_)))
        rw [i3, e4]
        refine Ev.neg (by simp) (Ev.pos (by omega) (Ev.neg (bF (by omega)) (Ev.neg (bF (by omega)) (Ev.congr (fun k => verniertop_parts.j2_eq k _ _ _ _ _ _ _) ?_))))
        rw [i2, eo, e6]
        exact Ev.pos (by omega) (Ev.bind (tnat_ev (by omega)) (Ev.some _))
      · rw [← hv]; congr 3; omega
  · have hE : E = eTop W P := f1.2 hi
    have f4 := f3 hi
    have hp2 := pow_half (P := P - 1) (by omega)
    rw [show P - 1 - 1 = P - 2 by omega] at hp2
    have hp2' := Nat.two_pow_pos (P - 2)
    rw [decide_eq_true hE, Bool.true_and] at start
    unfold kindT
    by_cases c : Fr = 0
    · rw [if_neg (by omega), if_pos (by omega)]
      exact start (Ev.congr (fun k => verniertop_parts.j0_eq k _ _ _ _ _ _ _ _ _) (Ev.pos (bT (by omega)) (Ev.some _)))
    · have es := shrK_nat Fr (P - 2) (by omega)
      rw [if_neg (by omega), if_neg (by omega)]
      by_cases c2 : Fr / 2 ^ (P - 2) = 1
      · have c3 : 2 ^ (P - 2) ≤ Fr := by have := Nat.div_mul_le_self Fr (2 ^ (P - 2)); rw [c2, Nat.one_mul] at this; exact this
        rw [if_pos (by omega)]
        refine start (Ev.congr (fun k => verniertop_parts.j0_eq k _ _ _ _ _ _ _ _ _) (Ev.neg (bF (by omega)) ?_))
        rw [i3, e4, i4, es]
        refine Ev.pos (by omega) (Ev.pos (bT (by omega)) (Ev.pos (by omega) (Ev.congr (fun k => verniertop_parts.j1_eq k _ _ _ _ _ _ _ _ _) (Ev.pos (bT (by rw [c2]; rfl)) (Ev.some _)))))
      · have c3 : Fr < 2 ^ (P - 2) := by
          rcases Nat.lt_or_ge Fr (2 ^ (P - 2)) with g | g
          · exact g
          · refine absurd ?_ c2
            rw [Nat.div_eq_of_lt_le] <;> omega
        rw [if_neg (by omega)]
        refine start (Ev.congr (fun k => verniertop_parts.j0_eq k _ _ _ _ _ _ _ _ _) (Ev.neg (bF (by omega)) ?_))
        rw [i3, e4, i4, es]
        refine Ev.pos (by omega) (Ev.pos (bT (by omega)) (Ev.pos (by omega) (Ev.congr (fun k => verniertop_parts.j1_eq k _ _ _ _ _ _ _ _ _) ?_)))
        rw [i3, e4]
        exact Ev.neg (bF (by omega)) (Ev.pos (by omega) (Ev.pos (bT (by omega)) (Ev.some _)))
theorem partsB {a : Nat} (ha : a < 2 ^ W) : (pk W a < infP W P → ∃ (l : List Int) (e : Int), Ev (fun k => verniertop_parts k f (a : Int)) (ps W a, ((0 : Int), (ps W a, (l, e)))) ∧ RepT (em - (P : Int) + 1) (ps W a) l e (sg (ps W a) (plV P (pk W a))) ∧ e ≤ em - (P : Int) + 1 + 3000) ∧
    (infP W P ≤ pk W a → ∃ c : Int, c ≠ 0 ∧ Ev (fun k => verniertop_parts k f (a : Int)) (ps W a, (c, (false, (([] : List Int), (0 : Int)))))) := by
  obtain ⟨p1, p2⟩ := partsK h ha
  exact ⟨p1, fun hi => ⟨_, kindT_ne hi, p2 hi⟩⟩
theorem partsT {a : Nat} (ha : a < 2 ^ W) : (pk W a < infP W P → ∃ (l : List Int) (e : Int), Ev (fun k => verniertop_parts k f (a : Int)) (ps W a, ((0 : Int), (ps W a, (l, e)))) ∧ RepT (em - (P : Int) + 1) (ps W a) l e (sg (ps W a) (plV P (pk W a)))) ∧
    (infP W P ≤ pk W a → ∃ c : Int, c ≠ 0 ∧ Ev (fun k => verniertop_parts k f (a : Int)) (ps W a, (c, (false, (([] : List Int), (0 : Int)))))) := by
  obtain ⟨p1, p2⟩ := partsB h ha
  refine ⟨fun g => ?_, p2⟩
  obtain ⟨l, e, a1, a2, -⟩ := p1 g
  exact ⟨l, e, a1, a2⟩
end
theorem tmod_of (x : Int) {w : Nat} (hw : 0 < w) (h6 : w ≤ 6) : 0 ≤ IntKind.i64.wrap ((IntKind.u64.wrap x).tmod (w : Int)) ∧ IntKind.i64.wrap ((IntKind.u64.wrap x).tmod (w : Int)) < (w : Int) := by
  have h0 : 0 ≤ IntKind.u64.wrap x := by rw [wrap_u64]; omega
  have a1 := Int.tmod_nonneg (w : Int) h0
  have a2 := Int.tmod_lt_of_pos (IntKind.u64.wrap x) (show (0 : Int) < (w : Int) by omega)
  rw [wrapI (by omega) (by omega)]
  exact ⟨a1, a2⟩
section
variable {f : Int} {W P : Nat} {em ex : Int} (h : Fm f W P em ex)
include h
end
theorem RepT.pow {B : Int} {e : Int} {t : Nat} (h : e - B = (t : Int)) (h2 : t ≤ 20000) : RepT B false (d32 1) e ((2 ^ t : Nat) : Int) := by
  refine ⟨1, rfl, by omega, by omega, ?_⟩
  rw [Nat.one_mul, h, Int.toNat_natCast]; rfl
/-- A whole number of units 2^0. -/
theorem RepT.nat {B : Int} {t : Nat} (h : -B = (t : Int)) (h2 : t ≤ 20000) (s : Bool) (U : Nat) : RepT B s (d32 U) 0 (sg s (U * 2 ^ t)) := by
  refine ⟨U, rfl, by omega, by omega, ?_⟩
  rw [show (0 - B).toNat = t by omega]
theorem RepT.up {B : Int} {l : List Int} {e : Int} {w : Nat} (h : RepT B false l e (w : Int)) (j : Nat) (hj : e + (j : Int) ≤ B + 20000) : RepT B false l (e + (j : Int)) ((w * 2 ^ j : Nat) : Int) := by
  obtain ⟨n, h1, h2, h3, h4⟩ := h
  refine ⟨n, h1, by omega, hj, ?_⟩
  have h5 : n * 2 ^ (e - B).toNat = w := by
    unfold sg at h4; simp only [Bool.false_eq_true, if_false] at h4; exact Int.ofNat.inj h4
  have e1 : (e + (j : Int) - B).toNat = (e - B).toNat + j := by omega
  rw [e1, Nat.pow_add, ← Nat.mul_assoc, h5]; rfl
theorem RepT.empty {B : Int} {s : Bool} {l : List Int} {e : Int} (h : RepT B s l e 0) : l = [] := by
  obtain ⟨n, h1, h2, h3, h4⟩ := h
  rw [h1, (RepT.nil h4).2 rfl, d32_zero]
theorem RepT.some' {B : Int} {s : Bool} {l : List Int} {e v : Int} (h : RepT B s l e v) (hv : v ≠ 0) : 0 < l.length := by
  obtain ⟨n, h1, h2, h3, h4⟩ := h
  rw [h1]; exact d32_len_pos.2 fun c => hv ((RepT.nil h4).1 c)
theorem eight (x : Nat) : (IntKind.i64.wrap (((x % 8 : Nat) : Int) * 2)).tmod 8 = ((2 * x % 8 : Nat) : Int) ∧ IntKind.i64.wrap (((2 * x % 8 : Nat) : Int) + 1) = (((2 * x + 1) % 8 : Nat) : Int) := by
  have e1 : IntKind.i64.wrap (((x % 8 : Nat) : Int) * 2) = ((2 * (x % 8) : Nat) : Int) := by rw [wrapI (by omega) (by omega)]; omega
  have e2 : (((2 * (x % 8) : Nat) : Int)).tmod 8 = ((2 * x % 8 : Nat) : Int) := by
    rw [show (8 : Int) = ((8 : Nat) : Int) from rfl, tmod_nat]; congr 1; omega
  rw [e1, e2]
  refine ⟨rfl, ?_⟩
  rw [wrapI (by omega) (by omega)]; omega
end Go.Proofs.Ytmoeaeflljpboaa.X
