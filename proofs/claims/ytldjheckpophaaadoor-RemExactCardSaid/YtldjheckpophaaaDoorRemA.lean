/- Plain law: layer 11: the rest of one number by another, the nearest multiple, the remainder's bits. Conditions: the format is one of the four, the patterns are of its width. -/
import Derived.Test.YtldjheckpophaaaDoorRnC
import Derived.Test.YtldjheckpophaaaDoorDivE
namespace Go.Proofs.YtldjheckpophaaaDoor.X
open Go Go.Rex
set_option linter.unusedVariables false

/-! ### Plain -/
/-- Is the nearest multiple the next one? -/
def upR (near : Bool) (A B : Nat) : Bool := near && (decide (B < 2 * (A % B)) || (decide (2 * (A % B) = B) && decide (A / B % 2 = 1)))
/-- What is left, and how often. -/
def leftR (near : Bool) (A B : Nat) : Nat := if upR near A B then B - A % B else A % B
def oftenR (near : Bool) (A B : Nat) : Nat := if upR near A B then A / B + 1 else A / B
def signR (near s : Bool) (A B : Nat) : Bool := if leftR near A B = 0 then s else if upR near A B then !s else s
theorem upR_scale (near : Bool) (A : Nat) {B c : Nat} (hc : 0 < c) : upR near (A * c) (B * c) = upR near A B := by
  unfold upR
  have e1 : A * c % (B * c) = A % B * c := Nat.mul_mod_mul_right ..
  have e2 : A * c / (B * c) = A / B := Nat.mul_div_mul_right _ _ hc
  have e3 : (B * c < 2 * (A % B * c)) ↔ B < 2 * (A % B) := by rw [← Nat.mul_assoc]; exact Nat.mul_lt_mul_right hc
  have e4 : (2 * (A % B * c) = B * c) ↔ 2 * (A % B) = B := by rw [← Nat.mul_assoc]; exact Nat.mul_left_inj (by omega)
  rw [e1, e2]; simp only [e3, e4]
theorem leftR_scale (near : Bool) (A : Nat) {B c : Nat} (hc : 0 < c) : leftR near (A * c) (B * c) = leftR near A B * c := by
  unfold leftR
  rw [upR_scale near A hc]
  have e1 : A * c % (B * c) = A % B * c := Nat.mul_mod_mul_right ..
  split
  · rw [e1, ← Nat.sub_mul]
  · exact e1
theorem oftenR_scale (near : Bool) (A : Nat) {B c : Nat} (hc : 0 < c) : oftenR near (A * c) (B * c) = oftenR near A B := by
  unfold oftenR
  rw [upR_scale near A hc, Nat.mul_div_mul_right _ _ hc]
theorem leftR_le (near : Bool) {A B : Nat} (hB : 0 < B) : leftR near A B < B ∧ leftR near A B ≤ A ∨ (upR near A B = true ∧ 2 * leftR near A B ≤ B ∧ leftR near A B ≤ A % B) := by
  have h1 := Nat.mod_lt A hB
  have h2 := Nat.mod_le A B
  unfold leftR
  by_cases c : upR near A B = true
  · rw [if_pos c]
    right
    have : B ≤ 2 * (A % B) := by
      unfold upR at c
      simp only [Bool.and_eq_true, Bool.or_eq_true, decide_eq_true_eq] at c
      rcases c.2 with g | g
      · omega
      · omega
    exact ⟨c, by omega, by omega⟩
  · rw [if_neg c]; exact .inl ⟨h1, h2⟩
theorem leftR_both (near : Bool) {A B : Nat} (hB : 0 < B) : leftR near A B ≤ A ∧ leftR near A B < B ∨ (leftR near A B = 0 ∧ B ≤ A) := by
  have h1 := Nat.mod_lt A hB
  have h2 := Nat.mod_le A B
  rcases leftR_le near (A := A) hB with h | ⟨h3, h4, h5⟩
  · exact .inl ⟨h.2, h.1⟩
  · by_cases c : leftR near A B = 0
    · by_cases c2 : B ≤ A
      · exact .inr ⟨c, c2⟩
      · exact .inl ⟨by omega, by omega⟩
    · exact .inl ⟨by omega, by omega⟩
/-- A remainder's remainder is itself. -/
theorem again_up (near : Bool) {A B : Nat} (hB : 0 < B) : upR near (leftR near A B) B = false ∧ leftR near A B < B := by
  have h1 := Nat.mod_lt A hB
  have hlt : leftR near A B < B := by
    unfold leftR
    by_cases c : upR near A B = true
    · rw [if_pos c]
      have : A % B ≠ 0 := by
        intro e
        unfold upR at c
        rw [e] at c
        simp only [Bool.and_eq_true, Bool.or_eq_true, decide_eq_true_eq] at c
        omega
      omega
    · rw [if_neg c]; exact h1
  refine ⟨?_, hlt⟩
  cases near with
  | false => rfl
  | true =>
    have e1 : leftR true A B % B = leftR true A B := Nat.mod_eq_of_lt hlt
    have e2 : leftR true A B / B = 0 := Nat.div_eq_of_lt hlt
    have h2 : 2 * leftR true A B ≤ B := by
      unfold leftR
      by_cases c : upR true A B = true
      · rw [if_pos c]
        unfold upR at c
        simp only [Bool.and_eq_true, Bool.or_eq_true, decide_eq_true_eq] at c
        omega
      · rw [if_neg c]
        unfold upR at c
        simp only [Bool.and_eq_true, Bool.or_eq_true, decide_eq_true_eq, true_and] at c
        omega
    unfold upR
    rw [e1, e2]
    simp only [Bool.true_and, Bool.or_eq_false_iff, Bool.and_eq_false_iff, decide_eq_false_iff_not]
    exact ⟨by omega, .inr (by omega)⟩
/-- A short number of units of some place is a place's. -/
theorem short_place {P u q : Nat} (hP : 2 ≤ P) (hu : u < 2 ^ P) : ∃ k, plV P k = u * 2 ^ q := by
  by_cases c0 : u = 0
  · exact ⟨0, by rw [c0, Nat.zero_mul]; exact (plV_zero (by omega)).2 rfl⟩
  have hl : lftP P (u * 2 ^ q) 1 = 0 := by
    have hbu : blen u ≤ P := blen_le_iff.2 hu
    have hsh : shf P (u * 2 ^ q) 1 ≤ q := by
      unfold shf
      rw [Nat.div_one, blen_pow_mul c0]; omega
    unfold lftP
    rw [lftN_zero, Nat.one_mul]
    obtain ⟨d, hd⟩ : ∃ d, q = shf P (u * 2 ^ q) 1 + d := ⟨q - shf P (u * 2 ^ q) 1, by omega⟩
    generalize shf P (u * 2 ^ q) 1 = z at *
    rw [hd, Nat.pow_add, ← Nat.mul_assoc, Nat.mul_comm u, Nat.mul_assoc]
    exact Nat.mul_mod_right _ _
  have hfl := (lftP_zero (P := P) (by omega) (by decide)).1 hl
  rw [Nat.mul_one] at hfl
  exact ⟨_, hfl.symm⟩
/-! ### The rest -/
theorem rem_l0_ev {x y : Nat} (hy0 : y ≠ 0) (hy : y < 18446744073709551616) (e : Int) (a b c d : Int) : ∀ (left j : Nat), left ≤ 1000000 → ∃ b' c' d' a', 
    Ev2 (fun k n => rem_cut.l0 k n (y : Int) (left : Int) a b c d ((x * 2 ^ j % y : Nat) : Int) (y : Int) e ((x * 2 ^ j / y % 18446744073709551616 : Nat) : Int)) (((x * 2 ^ (j + left) % y : Nat) : Int), ((y : Int), (e, ((x * 2 ^ (j + left) / y % 18446744073709551616 : Nat) : Int)))) ∧ a' = a ∧ b' = b ∧ c' = c ∧ d' = d := by
  intro left
  induction left using Nat.strongRecOn with
  | ind left ih =>
    intro j hl
    refine ⟨b, c, d, a, ?_, rfl, rfl, rfl, rfl⟩
    refine Ev2.step (fun k n => rem_cut.l0_eq k n _ _ _ _ _ _ _ _ _ _) ?_
    by_cases c0 : left = 0
    · subst c0
      rw [Nat.add_zero]
      exact Ev2.neg (dF (by omega)) (Ev2.some _)
    · obtain ⟨s, hs⟩ : ∃ s, s = min left 64 := ⟨_, rfl⟩
      have hmn : mnI (left : Int) 64 = (s : Int) := by
        unfold mnI
        by_cases g : (64 : Int) < (left : Int)
        · rw [if_pos g]; omega
        · rw [if_neg g]; omega
      have e1 : IntKind.i64.wrap (64 - (s : Int)) = ((64 - s : Nat) : Int) := by rw [wrapI (by omega) (by omega)]; omega
      have e2 : IntKind.i64.wrap ((left : Int) - (s : Int)) = ((left - s : Nat) : Int) := by rw [wrapI (by omega) (by omega)]; omega
      rw [hmn, e1, e2]
      obtain ⟨r, hr⟩ : ∃ r, r = x * 2 ^ j % y := ⟨_, rfl⟩
      obtain ⟨Q, hQ⟩ : ∃ Q, Q = x * 2 ^ j / y := ⟨_, rfl⟩
      have hry : r < y := by rw [hr]; exact Nat.mod_lt _ (by omega)
      rw [← hr, ← hQ, shrK_nat _ _ (by omega), shlK_nat _ _ (by omega), shlK_nat _ _ (by omega)]
      have hsplit : (r / 2 ^ (64 - s)) * 18446744073709551616 + r * 2 ^ s % 18446744073709551616 = r * 2 ^ s := by
        have h1 : (18446744073709551616 : Nat) = 2 ^ (64 - s) * 2 ^ s := by rw [← Nat.pow_add, show 64 - s + s = 64 by omega]
        have h2 : r * 2 ^ s / 18446744073709551616 = r / 2 ^ (64 - s) := by rw [h1, Nat.mul_div_mul_right _ _ (Nat.two_pow_pos s)]
        rw [← h2, Nat.mul_comm (r * 2 ^ s / 18446744073709551616)]
        exact Nat.div_add_mod _ _
      have dv := div64_ev (h := r / 2 ^ (64 - s)) (l := r * 2 ^ s % 18446744073709551616) hy (Nat.lt_of_le_of_lt (Nat.div_le_self _ _) hry) (Nat.mod_lt _ (by decide))
      rw [hsplit] at dv
      have hm : x * 2 ^ (j + s) = y * (Q * 2 ^ s + r * 2 ^ s / y) + r * 2 ^ s % y := by
        have h1 := Nat.div_add_mod (x * 2 ^ j) y
        rw [← hQ, ← hr] at h1
        have h2 := Nat.div_add_mod (r * 2 ^ s) y
        calc x * 2 ^ (j + s) = (y * Q + r) * 2 ^ s := by rw [h1, Nat.pow_add, Nat.mul_assoc]
          _ = y * (Q * 2 ^ s) + r * 2 ^ s := by rw [Nat.add_mul, Nat.mul_assoc]
          _ = y * (Q * 2 ^ s) + (y * (r * 2 ^ s / y) + r * 2 ^ s % y) := by rw [h2]
          _ = y * (Q * 2 ^ s + r * 2 ^ s / y) + r * 2 ^ s % y := by rw [Nat.mul_add, Nat.add_assoc]
      have hlt2 : r * 2 ^ s % y < y := Nat.mod_lt _ (by omega)
      have d1 : r * 2 ^ s % y = x * 2 ^ (j + s) % y := by rw [hm, Nat.mul_add_mod, Nat.mod_eq_of_lt hlt2]
      have d2 : Q * 2 ^ s + r * 2 ^ s / y = x * 2 ^ (j + s) / y := by rw [hm, Nat.mul_add_div (by omega), Nat.div_eq_of_lt hlt2, Nat.add_zero]
      obtain ⟨_, _, _, _, rec, -⟩ := ih (left - s) (by omega) (j + s) (by omega)
      rw [show j + s + (left - s) = j + left by omega] at rec
      refine Ev2.pos (dT (by omega)) (Ev2.pos (by omega) (Ev2.pos (by omega) (Ev2.call dv (Ev2.pos (by omega) ?_))))
      have e3 : IntKind.u64.wrap ((((Q % 18446744073709551616) * 2 ^ s % 18446744073709551616 : Nat) : Int) + ((r * 2 ^ s / y : Nat) : Int)) = ((x * 2 ^ (j + s) / y % 18446744073709551616 : Nat) : Int) := by
        rw [← d2, wrap_u64, ← Int.natCast_add]
        have : ((Q % 18446744073709551616) * 2 ^ s % 18446744073709551616 + r * 2 ^ s / y) % 18446744073709551616 = (Q * 2 ^ s + r * 2 ^ s / y) % 18446744073709551616 := by
          rw [Nat.add_mod, Nat.mod_mod, Nat.mod_mul_mod, ← Nat.add_mod]
        rw [← this]; rfl
      show Ev2 (fun k n => rem_cut.l0 k n (y : Int) ((left - s : Nat) : Int) a b c d ((r * 2 ^ s % y : Nat) : Int) (y : Int) e (IntKind.u64.wrap ((((Q % 18446744073709551616) * 2 ^ s % 18446744073709551616 : Nat) : Int) + ((r * 2 ^ s / y : Nat) : Int)))) _
      rw [e3, d1]
      exact rec
/-- The rest of x * 2^e by y * 2^f. -/
theorem rcut_ev {x y : Nat} (hx0 : x ≠ 0) (hy0 : y ≠ 0) (hx : x < 2 ^ 53) (hy : y < 2 ^ 53) {e f : Int} (he : -10000 ≤ e ∧ e ≤ 10000) (hf : -10000 ≤ f ∧ f ≤ 10000) (s t : Bool) :
    ∃ m n : Nat, n < 18446744073709551616 ∧ n % 8 = x * p2 (e - f) / (y * p2 (f - e)) % 8 ∧ ((m = y * p2 (f - e) ∧ m < 9223372036854775808) ∨ (m = 0 ∧ 2 * (x * p2 (e - f)) < y * p2 (f - e) ∧ e < f)) ∧ n % 2 = x * p2 (e - f) / (y * p2 (f - e)) % 2 ∧
      Ev (fun k => rem_cut k s (digs x) e t (digs y) f) (((x * p2 (e - f) % (y * p2 (f - e)) : Nat) : Int), ((m : Int), ((if f > e then e else f), (n : Int)))) := by
  have h53 : (2 : Nat) ^ 53 = 9007199254740992 := rfl
  have dx : digs x = [(x : Int)] := by
    rw [digs_pos hx0, show x / 18446744073709551616 = 0 by omega, digs_zero, show x % 18446744073709551616 = x by omega]
  have dy : digs y = [(y : Int)] := by
    rw [digs_pos hy0, show y / 18446744073709551616 = 0 by omega, digs_zero, show y % 18446744073709551616 = y by omega]
  by_cases c : f > e
  · rw [if_pos c]
    obtain ⟨d, hd⟩ : ∃ d : Nat, f - e = (d : Int) := ⟨(f - e).toNat, by omega⟩
    have ea : p2 (e - f) = 1 := p2_neg (by omega)
    have eb : p2 (f - e) = 2 ^ d := by rw [hd, p2_nat]
    rw [ea, eb, Nat.mul_one]
    have b1 := blen_lt x
    have b2 := blen_le hx0
    have b3 := blen_lt y
    have b4 := blen_le hy0
    have b5 : blen x ≤ 53 := blen_le_iff.2 hx
    have b6 := blen_pos hy0
    by_cases c2 : blen x + 1 < blen y + d
    · -- more than twice as great
      have hlt : 2 * x < y * 2 ^ d := by
        have h1 : 2 * x < 2 ^ (blen x + 1) := by rw [Nat.pow_succ]; omega
        have h2 : 2 ^ (blen x + 1) ≤ 2 ^ (blen y - 1 + d) := pow_mono2 (by omega)
        have h3 : 2 ^ (blen y - 1 + d) ≤ y * 2 ^ d := by rw [Nat.pow_add]; exact Nat.mul_le_mul_right _ b4
        omega
      have hq : x / (y * 2 ^ d) = 0 := Nat.div_eq_of_lt (by omega)
      refine ⟨0, 0, by omega, by rw [hq], .inr ⟨rfl, hlt, by omega⟩, by rw [hq], ?_⟩
      rw [Nat.mod_eq_of_lt (show x < y * 2 ^ d by omega), dx, dy]
      refine Ev.congr (fun k => rem_cut_eq k _ _ _ _ _ _) (Ev.pos ⟨by decide, by simp⟩ (Ev.pos ⟨by decide, by simp⟩ (Ev.pos (dT c) (Ev.bind (Ev.of fun k => len64 k y (by omega)) (Ev.bind (Ev.of fun k => len64 k x (by omega)) (Ev.pos (dT ?_) (Ev.some _)))))))
      show IntKind.i64.wrap (((blen y : Nat) : Int) + IntKind.i64.wrap (f - e)) > IntKind.i64.wrap (((blen x : Nat) : Int) + 1)
      have : blen y ≤ 53 := blen_le_iff.2 hy
      rw [wrapI (x := f - e) (by omega) (by omega), wrapI (by omega) (by omega), wrapI (by omega) (by omega)]; omega
    · have hb : y * 2 ^ d < 2 ^ 54 := by
        have h1 : y * 2 ^ d < 2 ^ (blen y + d) := by rw [Nat.pow_add]; exact (Nat.mul_lt_mul_right (Nat.two_pow_pos d)).2 b3
        have h2 : 2 ^ (blen y + d) ≤ 2 ^ 54 := pow_mono2 (by omega)
        omega
      have h54 : (2 : Nat) ^ 54 = 18014398509481984 := rfl
      have hy1 : y * 2 ^ d ≠ 0 := Nat.mul_ne_zero hy0 (by have := Nat.two_pow_pos d; omega)
      have hq : x / (y * 2 ^ d) < 18446744073709551616 := Nat.lt_of_le_of_lt (Nat.div_le_self _ _) (by omega)
      refine ⟨y * 2 ^ d, x / (y * 2 ^ d), hq, rfl, .inl ⟨rfl, by omega⟩, rfl, ?_⟩
      rw [dx, dy]
      refine Ev.congr (fun k => rem_cut_eq k _ _ _ _ _ _) (Ev.pos ⟨by decide, by simp⟩ (Ev.pos ⟨by decide, by simp⟩ (Ev.pos (dT c) (Ev.bind (Ev.of fun k => len64 k y (by omega)) (Ev.bind (Ev.of fun k => len64 k x (by omega)) (Ev.neg (dF ?_) ?_))))))
      · show ¬ (IntKind.i64.wrap (((blen y : Nat) : Int) + IntKind.i64.wrap (f - e)) > IntKind.i64.wrap (((blen x : Nat) : Int) + 1))
        rw [wrapI (x := f - e) (by omega) (by omega), wrapI (by omega) (by omega), wrapI (by omega) (by omega)]; omega
      · have es : shlK IntKind.u64 (y : Int) (d : Int) = ((y * 2 ^ d : Nat) : Int) := shlK_exact y d (by omega) (by omega)
        have ew : IntKind.i64.wrap (f - e) = (d : Int) := by rw [wrapI (by omega) (by omega)]; exact hd
        show Ev (fun k => (if 0 ≤ (IntKind.i64.wrap (f - e)) then (if (shlK IntKind.u64 (y : Int) (IntKind.i64.wrap (f - e))) = 0 then none else (if (shlK IntKind.u64 (y : Int) (IntKind.i64.wrap (f - e))) = 0 then none else some (((x : Int).tmod (shlK IntKind.u64 (y : Int) (IntKind.i64.wrap (f - e)))), ((shlK IntKind.u64 (y : Int) (IntKind.i64.wrap (f - e))), (e, (IntKind.u64.wrap ((x : Int).tdiv (shlK IntKind.u64 (y : Int) (IntKind.i64.wrap (f - e)))))))))) else none)) _
        rw [ew, es, tdiv_nat, tmod_nat, wrapUn hq]
        exact Ev.pos (by omega) (Ev.neg (by omega) (Ev.neg (by omega) (Ev.some _)))
  · rw [if_neg c]
    obtain ⟨d, hd⟩ : ∃ d : Nat, e - f = (d : Int) := ⟨(e - f).toNat, by omega⟩
    have ea : p2 (f - e) = 1 := p2_neg (by omega)
    have eb : p2 (e - f) = 2 ^ d := by rw [hd, p2_nat]
    rw [ea, eb, Nat.mul_one]
    refine ⟨y, x * 2 ^ d / y % 18446744073709551616, Nat.mod_lt _ (by decide), Nat.mod_mod_of_dvd _ ⟨2305843009213693952, rfl⟩, .inl ⟨rfl, by omega⟩, Nat.mod_mod_of_dvd _ ⟨9223372036854775808, rfl⟩, ?_⟩
    rw [dx, dy]
    have ew : IntKind.i64.wrap (e - f) = (d : Int) := by rw [wrapI (by omega) (by omega)]; exact hd
    have hq : x / y < 18446744073709551616 := Nat.lt_of_le_of_lt (Nat.div_le_self _ _) (by omega)
    obtain ⟨_, _, _, _, rec, -⟩ := rem_l0_ev (x := x) hy0 (by omega) f 0 0 0 0 d 0 (by omega)
    rw [Nat.pow_zero, Nat.mul_one, Nat.zero_add, Nat.mod_eq_of_lt hq] at rec
    refine Ev.congr (fun k => rem_cut_eq k _ _ _ _ _ _) (Ev.pos ⟨by decide, by simp⟩ (Ev.pos ⟨by decide, by simp⟩ (Ev.neg (dF (by omega)) (Ev.neg ?_ (Ev.neg ?_ ?_)))))
    · show ¬ ((y : Int) = 0); omega
    · show ¬ ((y : Int) = 0); omega
    · show Ev (fun k => rem_cut.l0 k k (y : Int) (IntKind.i64.wrap (e - f)) 0 0 0 0 ((x : Int).tmod (y : Int)) (y : Int) f (IntKind.u64.wrap ((x : Int).tdiv (y : Int)))) _
      rw [ew, tdiv_nat, tmod_nat, wrapUn hq]
      exact rec.ev
/-- On to the nearest multiple. -/
theorem nearest_ev {A B m n : Nat} {e : Int} (hB : 0 < B) (hn : n < 18446744073709551616) (h8 : n % 8 = A / B % 8) (h2 : n % 2 = A / B % 2) (hm : (m = B ∧ m < 9223372036854775808) ∨ (m = 0 ∧ 2 * A < B)) :
    ∃ m' n' : Nat, n' < 18446744073709551616 ∧ n' % 8 = oftenR true A B % 8 ∧ Ev (fun k => rem_rest_nearest k [(((A % B : Nat) : Int), ((m : Int), (e, (n : Int))))]) ([(((leftR true A B : Nat) : Int), ((m' : Int), (e, (n' : Int))))], upR true A B) := by
  have hlt := Nat.mod_lt A hB
  have no : ∀ {b : Bool}, upR true A B = false → n % 8 = oftenR true A B % 8 ∧ leftR true A B = A % B := fun hu => by
    unfold oftenR leftR; rw [hu]; exact ⟨h8, rfl⟩
  rcases hm with ⟨rfl, hm⟩ | ⟨rfl, hA⟩
  · have hw : IntKind.u64.wrap (2 * ((A % m : Nat) : Int)) = ((2 * (A % m) : Nat) : Int) := by rw [wrap_u64]; omega
    have yes : upR true A m = true → ∃ m' n' : Nat, n' < 18446744073709551616 ∧ n' % 8 = oftenR true A m % 8 ∧ leftR true A m = m - A % m ∧ m' = m ∧ IntKind.u64.wrap ((m : Int) - ((A % m : Nat) : Int)) = ((m - A % m : Nat) : Int) ∧ IntKind.u64.wrap ((n : Int) + 1) = (n' : Int) := fun hu => by
      refine ⟨m, (n + 1) % 18446744073709551616, Nat.mod_lt _ (by decide), ?_, by unfold leftR; rw [if_pos hu], rfl, by rw [wrap_u64]; omega, by rw [wrap_u64]; omega⟩
      unfold oftenR; rw [if_pos hu]; omega
    by_cases c1 : 2 * (A % m) < m
    · have hu : upR true A m = false := by unfold upR; simp; omega
      obtain ⟨n1, n2⟩ := no (b := true) hu
      refine ⟨m, n, hn, n1, ?_⟩
      rw [hu, n2]
      refine Ev.congr (fun k => rem_rest_nearest_eq k _) (Ev.neg (bF ?_) (Ev.pos (dT ?_) (Ev.some _)))
      · show (m : Int) ≠ 0; omega
      · show IntKind.u64.wrap (2 * ((A % m : Nat) : Int)) < (m : Int); rw [hw]; omega
    · have t1 : ¬ (decide (IntKind.u64.wrap (2 * ((A % m : Nat) : Int)) < (m : Int)) = true) := dF (by rw [hw]; omega)
      by_cases c2 : 2 * (A % m) = m
      · by_cases c3 : A / m % 2 = 1
        · have hu : upR true A m = true := by unfold upR; simp [c2, c3]
          obtain ⟨m', n', q1, q2, q3, q4, q5, q6⟩ := yes hu
          refine ⟨m', n', q1, q2, ?_⟩
          rw [hu, q3, q4]
          refine Ev.congr (fun k => rem_rest_nearest_eq k _) (Ev.neg (bF ?_) (Ev.neg t1 (Ev.pos (bT ?_) (Ev.neg (bF ?_) (Ev.eq (Ev.some _) ?_)))))
          · show (m : Int) ≠ 0; omega
          · show IntKind.u64.wrap (2 * ((A % m : Nat) : Int)) = (m : Int); rw [hw]; omega
          · show andK IntKind.u64 (n : Int) 1 ≠ 0
            rw [andK_one n hn]; omega
          · show ([(IntKind.u64.wrap ((m : Int) - ((A % m : Nat) : Int)), ((m : Int), (e, IntKind.u64.wrap ((n : Int) + 1))))], true) = _
            rw [q5, q6]
        · have hu : upR true A m = false := by unfold upR; simp [c2, c3]
          obtain ⟨n1, n2⟩ := no (b := true) hu
          refine ⟨m, n, hn, n1, ?_⟩
          rw [hu, n2]
          refine Ev.congr (fun k => rem_rest_nearest_eq k _) (Ev.neg (bF ?_) (Ev.neg t1 (Ev.pos (bT ?_) (Ev.pos (bT ?_) (Ev.some _)))))
          · show (m : Int) ≠ 0; omega
          · show IntKind.u64.wrap (2 * ((A % m : Nat) : Int)) = (m : Int); rw [hw]; omega
          · show andK IntKind.u64 (n : Int) 1 = 0
            rw [andK_one n hn]; omega
      · have hu : upR true A m = true := by unfold upR; simp; omega
        obtain ⟨m', n', q1, q2, q3, q4, q5, q6⟩ := yes hu
        refine ⟨m', n', q1, q2, ?_⟩
        rw [hu, q3, q4]
        refine Ev.congr (fun k => rem_rest_nearest_eq k _) (Ev.neg (bF ?_) (Ev.neg t1 (Ev.neg (bF ?_) (Ev.eq (Ev.some _) ?_))))
        · show (m : Int) ≠ 0; omega
        · show IntKind.u64.wrap (2 * ((A % m : Nat) : Int)) ≠ (m : Int); rw [hw]; omega
        · show ([(IntKind.u64.wrap ((m : Int) - ((A % m : Nat) : Int)), ((m : Int), (e, IntKind.u64.wrap ((n : Int) + 1))))], true) = _
          rw [q5, q6]
  · have hAB : A % B = A := Nat.mod_eq_of_lt (by omega)
    have hu : upR true A B = false := by unfold upR; rw [hAB, Nat.div_eq_of_lt (by omega)]; simp; omega
    obtain ⟨n1, n2⟩ := no (b := true) hu
    refine ⟨0, n, hn, n1, ?_⟩
    rw [hu, n2]
    exact Ev.congr (fun k => rem_rest_nearest_eq k _) (Ev.pos (bT rfl) (Ev.some _))
end Go.Proofs.YtldjheckpophaaaDoor.X
