/- WideJams, the plain law: two shifts are one by the sum, the kept bit too; a shift to the left is taken back where nothing left at the top. No conditions. -/
import Derived.Test.YtidjigoghdghiaaWideT
import Derived.Test.YtidjigoghdghiaaWideS
import Derived.Test.YtidjigoghdghiaaVx22
namespace Go.Proofs.Ytidjigoghdghiaa.Pure
open Go.RowKit Go.Proofs.Ytidjigoghdghiaa.V Go.Proofs.YtidjigoghdghiaaQ.PrintWords Go.Proofs.Ytidjigoghdghiaa.L
set_option linter.unusedVariables false

theorem mask255 (x : Int) : ∃ m : Nat, m < 256 ∧ Go.bits .and .i64 x 255 = (m : Int) := by
  have h : (BitVec.ofInt 64 x &&& BitVec.ofInt 64 255).toNat ≤ 255 := by
    rw [BitVec.toNat_and]
    exact Nat.le_trans Nat.and_le_right (by decide)
  refine ⟨(BitVec.ofInt 64 x &&& BitVec.ofInt 64 255).toNat, by omega, ?_⟩
  show IntKind.i64.wrap ((BitVec.ofInt 64 x &&& BitVec.ofInt 64 255).toNat : Int) = _
  rw [IntKind.wrap_i64]
  omega
theorem or1_div (S n : Nat) (hn : 0 < n) : or1 S / 2 ^ n = S / 2 ^ n := by
  have e : 2 ^ n = 2 * 2 ^ (n - 1) := by rw [← two_mul_pow, Nat.sub_add_cancel hn]
  rw [e, ← Nat.div_div_eq_div_mul, ← Nat.div_div_eq_div_mul]
  congr 1
  unfold or1; omega
theorem odd_mod (J n : Nat) (hn : 0 < n) (h : J % 2 = 1) : J % 2 ^ n ≠ 0 := by
  have e : 2 ^ n = 2 * 2 ^ (n - 1) := by rw [← two_mul_pow, Nat.sub_add_cancel hn]
  intro h0
  have := Nat.mod_mul_right_mod J 2 (2 ^ (n - 1))
  rw [← e, h0] at this
  omega
theorem mod_split (A m n : Nat) : A % 2 ^ (m + n) = 0 ↔ A % 2 ^ m = 0 ∧ A / 2 ^ m % 2 ^ n = 0 := by
  rw [Nat.pow_add, Nat.mod_mul]
  have hp : 0 < 2 ^ m := Nat.two_pow_pos m
  constructor
  · intro h
    have h1 : A % 2 ^ m = 0 := by omega
    have h2 : 2 ^ m * (A / 2 ^ m % 2 ^ n) = 0 := by omega
    exact ⟨h1, by rcases Nat.mul_eq_zero.1 h2 with h3 | h3 <;> omega⟩
  · rintro ⟨h1, h2⟩
    rw [h1, h2, Nat.mul_zero]
theorem or1_odd (V : Nat) : or1 V % 2 = 1 := by unfold or1; omega
theorem jam_jam (A m n : Nat) : jam (jam A m) n = jam A (m + n) := by
  rcases Nat.eq_zero_or_pos n with h0 | hn
  · subst h0
    unfold jam
    rw [Nat.pow_zero, if_pos (Nat.mod_one _), Nat.div_one]
    rfl
  · have key := mod_split A m n
    have ed : A / 2 ^ (m + n) = A / 2 ^ m / 2 ^ n := by rw [Nat.pow_add, Nat.div_div_eq_div_mul]
    unfold jam
    rw [ed]
    by_cases h1 : A % 2 ^ m = 0
    · rw [if_pos h1]
      by_cases h2 : A / 2 ^ m % 2 ^ n = 0
      · rw [if_pos h2, if_pos (key.2 ⟨h1, h2⟩)]
      · rw [if_neg h2, if_neg (fun h => h2 (key.1 h).2)]
    · rw [if_neg h1, if_neg (fun h => h1 (key.1 h).1), if_neg (odd_mod _ n hn (or1_odd _)), or1_div _ n hn]
theorem kept_iff (A n : Nat) (hA : A < 340282366920938463463374607431768211456) : A * 2 ^ n < 340282366920938463463374607431768211456 ↔ A = 0 ∨ len A + n ≤ 128 := by
  obtain ⟨h1, h2, h3, h4⟩ := len_spec A hA
  by_cases h0 : A = 0
  · subst h0; simp
  · obtain ⟨h5, h6⟩ := h2 h0
    constructor
    · intro h
      right
      rcases Nat.lt_or_ge 128 (len A + n) with hg | hg
      · have l1 : 2 ^ (len A - 1) * 2 ^ n ≤ A * 2 ^ n := Nat.mul_le_mul_right _ h5
        rw [← Nat.pow_add] at l1
        have l2 : 2 ^ 128 ≤ 2 ^ (len A - 1 + n) := Nat.pow_le_pow_right (by decide) (by omega)
        have e : (2 : Nat) ^ 128 = 340282366920938463463374607431768211456 := rfl
        omega
      · exact hg
    · rintro (h | h)
      · exact absurd h h0
      · have l1 : A * 2 ^ n < 2 ^ len A * 2 ^ n := Nat.mul_lt_mul_of_pos_right h1 (Nat.two_pow_pos n)
        rw [← Nat.pow_add] at l1
        exact Nat.lt_of_lt_of_le l1 (show 2 ^ (len A + n) ≤ 2 ^ 128 from Nat.pow_le_pow_right (by decide) h)
theorem len_uniq (V l : Nat) (hV : V < 340282366920938463463374607431768211456) (h1 : V < 2 ^ l) (h2 : 2 ^ (l - 1) ≤ V) (hl : 0 < l) : len V = l := by
  obtain ⟨g1, g2, g3, g4⟩ := len_spec V hV
  have hp : 0 < 2 ^ (l - 1) := Nat.two_pow_pos _
  obtain ⟨g5, g6⟩ := g2 (by omega)
  rcases Nat.lt_trichotomy (len V) l with h | h | h
  · have : 2 ^ len V ≤ 2 ^ (l - 1) := Nat.pow_le_pow_right (by decide) (by omega); omega
  · exact h
  · have : 2 ^ l ≤ 2 ^ (len V - 1) := Nat.pow_le_pow_right (by decide) (by omega); omega
theorem len_shift (A n : Nat) (hA : A < 340282366920938463463374607431768211456) (h0 : A ≠ 0) (h : A * 2 ^ n < 340282366920938463463374607431768211456) : len (A * 2 ^ n) = len A + n := by
  obtain ⟨h1, h2, h3, h4⟩ := len_spec A hA
  obtain ⟨h5, h6⟩ := h2 h0
  refine len_uniq _ _ h ?_ ?_ (by omega)
  · rw [Nat.pow_add]; exact Nat.mul_lt_mul_of_pos_right h1 (Nat.two_pow_pos n)
  · rw [show len A + n - 1 = len A - 1 + n by omega, Nat.pow_add]; exact Nat.mul_le_mul_right _ h5

theorem WideJams : vernierlaw01_WideJams.Pure := by
  intro a1 a0 x y ha1 ha0 hx hy
  obtain ⟨A, hA, rfl, rfl⟩ := words_of a1 a0 ha1 ha0
  clear ha1 ha0 hx hy
  obtain ⟨m, hm, em⟩ := mask255 x
  obtain ⟨n, hn, en⟩ := mask255 y
  have shrm : ∀ (B : Nat), B < 340282366920938463463374607431768211456 → ∀ q : Nat, q < 1000 → wide_Shr.f (hi B) (lo B) (q : Int) = some (hi (B / 2 ^ q), lo (B / 2 ^ q)) := fun B hB q hq => shr_eq B q hB (by omega)
  have jamm : ∀ (B : Nat), B < 340282366920938463463374607431768211456 → ∀ q : Nat, q < 1000 → wide_Jam.f (hi B) (lo B) (q : Int) = some (hi (jam B q), lo (jam B q)) := fun B hB q hq => by
    have := jam_eq B (q : Int) hB (by omega) (by omega)
    rw [Int.toNat_natCast] at this
    exact this
  have shlm : ∀ (B : Nat), B < 340282366920938463463374607431768211456 → ∀ q : Nat, q < 1000 → wide_Shl.f (hi B) (lo B) (q : Int) = some (hi (B * 2 ^ q % 340282366920938463463374607431768211456), lo (B * 2 ^ q % 340282366920938463463374607431768211456)) := fun B hB q hq => shl_eq B q hB (by omega)
  have lt_div : ∀ B q : Nat, B < 340282366920938463463374607431768211456 → B / 2 ^ q < 340282366920938463463374607431768211456 := fun B q hB => Nat.lt_of_le_of_lt (Nat.div_le_self _ _) hB
  refine Ev.rounds (g := fun k => vernierlaw01_WideJams.f k (hi A) (lo A) x y) ?_
  unfold vernierlaw01_WideJams.f
  simp only [em, en]
  rw [show wrap64 ((m : Int) + (n : Int)) = ((m + n : Nat) : Int) by rw [wrap64_id (by omega) (by omega)]; omega]
  refine ev_now fixed_true ?_
  refine ev_pos rfl ?_
  refine ev_now (jamm A hA m (by omega)) ?_
  refine ev_now (jamm (jam A m) (jam_lt hA) n (by omega)) ?_
  refine ev_now (jamm A hA (m + n) (by omega)) ?_
  refine ev_neg (by simp only [pair_bne, jam_jam]; simp) ?_
  refine ev_now (shrm A hA m (by omega)) ?_
  refine ev_now (shrm (A / 2 ^ m) (lt_div A m hA) n (by omega)) ?_
  refine ev_now (shrm A hA (m + n) (by omega)) ?_
  have e2 : A / 2 ^ m / 2 ^ n = A / 2 ^ (m + n) := by rw [Nat.pow_add, Nat.div_div_eq_div_mul]
  simp only [pair_bne, e2]
  refine Ev.step (fun k => by rw [vernierlaw01_WideJams.j0]) ?_
  refine ev_neg (by simp) ?_
  refine ev_now (shrm A hA n (by omega)) ?_
  refine ev_now (jamm A hA n (by omega)) ?_
  refine ev_now (shlm (A / 2 ^ n) (lt_div A n hA) n (by omega)) ?_
  -- what is wanted
  have hl : A * 2 ^ n % 340282366920938463463374607431768211456 < 340282366920938463463374607431768211456 := Nat.mod_lt _ (by decide)
  have tail : Ev (fun k => vernierlaw01_WideJams.j2 k (n : Int) (hi A) (lo A) (hi (jam A n)) (lo (jam A n)) (hi (jam A n)) (lo (jam A n))) true := by
    refine Ev.step (fun k => by rw [vernierlaw01_WideJams.j2]) ?_
    refine ev_neg (by rw [pair_bne]; simp) ?_
    refine ev_now (shlm A hA n (by omega)) ?_
    have pz : (hi A == 0 && (lo A == 0)) = decide (A = 0) := pair_beq A 0
    have pl : (hi (A * 2 ^ n % 340282366920938463463374607431768211456) == 0 && (lo (A * 2 ^ n % 340282366920938463463374607431768211456) == 0)) = decide (A * 2 ^ n % 340282366920938463463374607431768211456 = 0) := pair_beq _ 0
    simp only [pz, pl]
    have key := kept_iff A n hA
    have back : A * 2 ^ n % 340282366920938463463374607431768211456 / 2 ^ n = A ↔ A * 2 ^ n < 340282366920938463463374607431768211456 := by
      constructor
      · intro h
        have h1 := Nat.div_mul_le_self (A * 2 ^ n % 340282366920938463463374607431768211456) (2 ^ n)
        rw [h] at h1
        omega
      · intro h
        rw [Nat.mod_eq_of_lt h, Nat.mul_div_cancel _ (Nat.two_pow_pos n)]
    by_cases h0 : A = 0
    · refine ev_pos (by simp [h0]) ?_
      refine ev_now (shrm _ hl n (by omega)) ?_
      have hk := key.2 (Or.inl h0)
      simp only [pair_beq]
      refine ev_pos (by rw [decide_eq_true (back.2 hk)]; rfl) ?_
      exact ev_pos (by simp [h0]) (ev_some fun k => rfl)
    · refine ev_neg (by simp [h0]) ?_
      refine ev_now (len_eq A hA) ?_
      refine ev_now (shrm _ hl n (by omega)) ?_
      obtain ⟨l1, l2, l3, l4⟩ := len_spec A hA
      rw [show wrap64 (((len A : Nat) : Int) + (n : Int)) = ((len A + n : Nat) : Int) by rw [wrap64_id (by omega) (by omega)]; omega]
      have lens := fun (h : A * 2 ^ n < 340282366920938463463374607431768211456) => len_shift A n hA h0 h
      simp only [pair_beq]
      by_cases hk : len A + n ≤ 128
      · have hlt := key.2 (Or.inr hk)
        have hlen := lens hlt
        refine ev_pos (by rw [decide_eq_true (back.2 hlt), decide_eq_true (by omega)]; rfl) ?_
        refine ev_pos (by omega) ?_
        rw [Nat.mod_eq_of_lt hlt] at hl ⊢
        have hnz : A * 2 ^ n ≠ 0 := by
          intro h
          rcases Nat.mul_eq_zero.1 h with h | h
          · exact h0 h
          · have := Nat.two_pow_pos n; omega
        refine ev_neg (by simp only [decide_eq_true_eq]; exact hnz) ?_
        refine ev_now (len_eq _ hl) ?_
        refine ev_now (len_eq A hA) ?_
        refine ev_some fun k => ?_
        rw [hlen, show wrap64 (((len A : Nat) : Int) + (n : Int)) = ((len A + n : Nat) : Int) by rw [wrap64_id (by omega) (by omega)]; omega]
        simp
      · have hnk : ¬ A * 2 ^ n < 340282366920938463463374607431768211456 := fun h => by rcases key.1 h with h | h <;> omega
        refine ev_pos (by rw [decide_eq_false (fun h => hnk (back.1 h)), decide_eq_false (by omega)]; rfl) ?_
        exact ev_neg (by omega) (ev_some fun k => rfl)
  obtain ⟨o1, o2⟩ := or1_lo (A / 2 ^ n)
  have want : ∀ lost : Bool, (lost = true ↔ ¬ A % 2 ^ n = 0) → Ev (fun k => vernierlaw01_WideJams.j1 k (n : Int) lost (hi A) (lo A) (hi (A / 2 ^ n)) (lo (A / 2 ^ n)) (hi (jam A n)) (lo (jam A n))) true := by
    intro lost hlost
    refine Ev.step (fun k => by rw [vernierlaw01_WideJams.j1]) ?_
    by_cases hz : A % 2 ^ n = 0
    · have ej : jam A n = A / 2 ^ n := by unfold jam; rw [if_pos hz]
      refine ev_neg (fun h => hlost.1 h hz) ?_
      rw [← ej]
      exact tail
    · have ej : jam A n = or1 (A / 2 ^ n) := by unfold jam; rw [if_neg hz]
      refine ev_pos (hlost.2 hz) ?_
      rw [o1, ← o2, ← ej]
      exact tail
  by_cases hg : n ≥ 128
  · refine ev_pos (by omega) ?_
    refine want _ ?_
    have pz : (!(hi A == 0) || (!(lo A == 0))) = decide (A ≠ 0) := pair_bne A 0
    rw [pz, Nat.mod_eq_of_lt (Nat.lt_of_lt_of_le hA (show 2 ^ 128 ≤ 2 ^ n from Nat.pow_le_pow_right (by decide) hg))]
    simp
  · refine ev_neg (by omega) ?_
    refine want _ ?_
    simp only [pair_bne]
    rw [decide_eq_true_eq, ne_eq, shift_back A n hA]
end Go.Proofs.Ytidjigoghdghiaa.Pure
