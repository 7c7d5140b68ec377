/- Plain law: whole numbers that are floats (53 bits and a power of two), the nearest float of a whole number; what is left of a sum is a float. No conditions beyond those that each states. -/
import Derived.Test.YtmoeaeflljpboaaIeB
namespace Go.Proofs.Ytmoeaeflljpboaa.X
open Go Go.Rex
set_option linter.unusedVariables false

/-- A whole number of at most 53 bits, times a power of two. -/
def Rep (z : Int) : Prop := ∃ (m : Int) (q : Nat), m.natAbs < 2 ^ 53 ∧ z = m * ((2 ^ q : Nat) : Int)
theorem Rep.zero : Rep 0 := ⟨0, 0, by decide, rfl⟩
theorem Rep.neg {z : Int} (h : Rep z) : Rep (-z) := by
  obtain ⟨m, q, h1, rfl⟩ := h
  exact ⟨-m, q, by rw [Int.natAbs_neg]; exact h1, by rw [Int.neg_mul]⟩
/-- A multiple of 2^k that is at most 2^53 times that. -/
theorem Rep.of {z c : Int} {k : Nat} (h : z = c * ((2 ^ k : Nat) : Int)) (hle : z.natAbs ≤ 2 ^ 53 * 2 ^ k) : Rep z := by
  have hp := Nat.two_pow_pos k
  have e : z.natAbs = c.natAbs * 2 ^ k := by rw [h, Int.natAbs_mul, Int.natAbs_natCast]
  have hc : c.natAbs ≤ 2 ^ 53 := Nat.le_of_mul_le_mul_right (by rw [← e]; exact hle) hp
  rcases Nat.lt_or_ge c.natAbs (2 ^ 53) with g | g
  · exact ⟨c, k, g, h⟩
  · have : c.natAbs = 2 ^ 53 := by omega
    rcases Int.natAbs_eq c with g2 | g2
    · refine ⟨1, 53 + k, by decide, ?_⟩
      rw [h, g2, this, Nat.pow_add, Int.natCast_mul, Int.one_mul]
    · refine ⟨-1, 53 + k, by decide, ?_⟩
      rw [h, g2, this, Nat.pow_add, Int.natCast_mul, Int.neg_mul, Int.neg_mul, Int.one_mul]
/-- A multiple of a lower power is one of... the higher one's multiples are the lower one's too. -/
theorem mult_down {z c : Int} {q k : Nat} (hk : k ≤ q) (h : z = c * ((2 ^ q : Nat) : Int)) : ∃ d : Int, z = d * ((2 ^ k : Nat) : Int) := by
  obtain ⟨j, rfl⟩ := Nat.exists_eq_add_of_le hk
  exact ⟨c * ((2 ^ j : Nat) : Int), by rw [h, Nat.pow_add, Nat.mul_comm, Int.natCast_mul, Int.mul_assoc]⟩
theorem mult_add {x y c d : Int} {k : Nat} (h : x = c * ((2 ^ k : Nat) : Int)) (h' : y = d * ((2 ^ k : Nat) : Int)) : x + y = (c + d) * ((2 ^ k : Nat) : Int) := by rw [h, h', Int.add_mul]
theorem mult_sub {x y c d : Int} {k : Nat} (h : x = c * ((2 ^ k : Nat) : Int)) (h' : y = d * ((2 ^ k : Nat) : Int)) : x - y = (c - d) * ((2 ^ k : Nat) : Int) := by rw [h, h', Int.sub_mul]
/-- Two multiples that are not one: at least a step apart. -/
theorem mult_apart {x y c d : Int} {k : Nat} (h : x = c * ((2 ^ k : Nat) : Int)) (h' : y = d * ((2 ^ k : Nat) : Int)) (hne : x ≠ y) : 2 ^ k ≤ (x - y).natAbs := by
  have e := mult_sub h h'
  have : c - d ≠ 0 := fun g => hne (by rw [g, Int.zero_mul] at e; omega)
  rw [e, Int.natAbs_mul, Int.natAbs_natCast]
  exact Nat.le_mul_of_pos_left _ (by omega)

/-- The nearest float. -/
def RN (z : Int) : Int := sval (decide (z < 0)) (plV 53 (rnd 53 0 (decide (z < 0)) z.natAbs 1))
/-- How a number is rounded to the nearest: a multiple of a step that the number's size tells. -/
theorem RN_spec6 (z : Int) : ∃ (q : Nat) (c : Int), RN z = c * ((2 ^ q : Nat) : Int) ∧ 2 * (RN z - z).natAbs ≤ 2 ^ q ∧ (q = 0 ∨ 2 ^ 52 * 2 ^ q ≤ z.natAbs) ∧ c.natAbs ≤ 2 ^ 53 ∧ (q = 0 → RN z = z) ∧ z.natAbs < 2 ^ 53 * 2 ^ q := by
  obtain ⟨c1, c2⟩ := cut_facts (P := 53) (A := z.natAbs) (B := 1) (by decide) (by decide) 0 (decide (z < 0))
  obtain ⟨s1, s2⟩ := shf_facts (P := 53) (A := z.natAbs) (B := 1) (by decide) (by decide)
  rw [show 53 - 1 = 52 from rfl] at c2 s2
  have hv : plV 53 (rnd 53 0 (decide (z < 0)) z.natAbs 1) = cutN 0 (decide (z < 0)) z.natAbs (1 * 2 ^ shf 53 z.natAbs 1) * 2 ^ shf 53 z.natAbs 1 := plV_at (by decide) c2 c1
  rw [Nat.one_mul] at *
  generalize shf 53 z.natAbs 1 = q at *
  have hp := Nat.two_pow_pos q
  have hd := Nat.div_add_mod z.natAbs (2 ^ q)
  have hm := Nat.mod_lt z.natAbs hp
  -- the distance
  have hdist : 2 * ((cutN 0 (decide (z < 0)) z.natAbs (2 ^ q) * 2 ^ q : Nat) - (z.natAbs : Int)).natAbs ≤ 2 ^ q ∧ (q = 0 → cutN 0 (decide (z < 0)) z.natAbs (2 ^ q) * 2 ^ q = z.natAbs) := by
    unfold cutN
    generalize hu : z.natAbs / 2 ^ q = u at *
    generalize hr : z.natAbs % 2 ^ q = r at *
    have hc : chs 0 (decide (z < 0)) u (lft r (2 ^ q)) = u ∧ 2 * r ≤ 2 ^ q ∨ chs 0 (decide (z < 0)) u (lft r (2 ^ q)) = u + 1 ∧ 2 ^ q ≤ 2 * r := by
      unfold chs ups lft
      simp only [if_true]
      by_cases c0 : r = 0
      · subst c0; left; rw [if_pos rfl]; simp
      · rw [if_neg c0]
        by_cases c1 : 2 * r < 2 ^ q
        · left; rw [if_pos c1]; simp; omega
        · rw [if_neg c1]
          by_cases c2 : 2 * r = 2 ^ q
          · rw [if_pos c2]
            cases (u % 2 == 1)
            · left; simp; omega
            · right; simp; omega
          · right; rw [if_neg c2]; simp; omega
    have e1 : u * 2 ^ q = 2 ^ q * u := Nat.mul_comm _ _
    have e2 : (u + 1) * 2 ^ q = 2 ^ q * u + 2 ^ q := by rw [Nat.add_mul, Nat.one_mul, Nat.mul_comm]
    constructor
    · rcases hc with ⟨hc, h2⟩ | ⟨hc, h2⟩
      · rw [hc, e1]; omega
      · rw [hc, e2]; omega
    · intro h0
      subst h0
      have h1 : (2 : Nat) ^ 0 = 1 := rfl
      rw [h1] at *
      have hr0 : r = 0 := by omega
      rcases hc with ⟨hc, h2⟩ | ⟨hc, h2⟩
      · rw [hc]; omega
      · omega
  have hq : q = 0 ∨ 2 ^ 52 * 2 ^ q ≤ z.natAbs := by
    rcases s2 with s2 | s2
    · exact .inl s2
    · exact .inr ((Nat.le_div_iff_mul_le hp).1 s2)
  have hup : z.natAbs < 2 ^ 53 * 2 ^ q := (Nat.div_lt_iff_lt_mul hp).1 s1
  unfold RN
  rw [hv]
  generalize cutN 0 (decide (z < 0)) z.natAbs (2 ^ q) = u at *
  obtain ⟨hd1, hd2⟩ := hdist
  by_cases hz : z < 0
  · rw [decide_eq_true hz]
    unfold sval
    rw [if_pos rfl]
    refine ⟨q, -(u : Int), by rw [Int.natCast_mul, Int.neg_mul], by omega, hq, by rw [Int.natAbs_neg, Int.natAbs_natCast]; exact c1, fun h0 => ?_, hup⟩
    have := hd2 h0; omega
  · rw [decide_eq_false hz]
    unfold sval
    rw [if_neg (by simp)]
    refine ⟨q, (u : Int), by rw [Int.natCast_mul], by omega, hq, by rw [Int.natAbs_natCast]; exact c1, fun h0 => ?_, hup⟩
    have := hd2 h0; omega
theorem RN_spec (z : Int) : ∃ (q : Nat) (c : Int), RN z = c * ((2 ^ q : Nat) : Int) ∧ 2 * (RN z - z).natAbs ≤ 2 ^ q ∧ (q = 0 ∨ 2 ^ 52 * 2 ^ q ≤ z.natAbs) ∧ c.natAbs ≤ 2 ^ 53 ∧ (q = 0 → RN z = z) := by
  obtain ⟨q, c, h1, h2, h3, h4, h5, _⟩ := RN_spec6 z
  exact ⟨q, c, h1, h2, h3, h4, h5⟩
/-- No float is nearer. -/
theorem RN_near (z : Int) {y : Int} (hy : Rep y) : (RN z - z).natAbs ≤ (y - z).natAbs := by
  obtain ⟨q, c, h1, h2, h3, h4, h5⟩ := RN_spec z
  rcases h3 with h3 | h3
  · rw [h5 h3]; omega
  · -- another multiple of the step is no nearer
    have mult : ∀ {x d : Int}, x = d * ((2 ^ q : Nat) : Int) → (RN z - z).natAbs ≤ (x - z).natAbs := by
      intro x d hx
      by_cases e : x = RN z
      · rw [e]; exact Nat.le_refl _
      · have := mult_apart hx h1 e
        omega
    obtain ⟨m, p, g1, g2⟩ := hy
    rcases Nat.lt_or_ge p q with g | g
    · -- below the least number with that step
      have hyb : y.natAbs ≤ 2 ^ 52 * 2 ^ q := by
        rw [g2, Int.natAbs_mul, Int.natAbs_natCast]
        have a1 : m.natAbs * 2 ^ p ≤ 2 ^ 53 * 2 ^ p := Nat.mul_le_mul_right _ (by omega)
        have a2 : 2 ^ 53 * 2 ^ p ≤ 2 ^ 52 * 2 ^ q := by
          rw [← Nat.pow_add, ← Nat.pow_add]
          exact Nat.pow_le_pow_right (by decide) (by omega)
        omega
      by_cases hz : z < 0
      · have := mult (x := -((2 ^ 52 * 2 ^ q : Nat) : Int)) (d := -((2 ^ 52 : Nat) : Int)) (by rw [Int.natCast_mul, Int.neg_mul])
        omega
      · have := mult (x := ((2 ^ 52 * 2 ^ q : Nat) : Int)) (d := ((2 ^ 52 : Nat) : Int)) (by rw [Int.natCast_mul])
        omega
    · obtain ⟨d, hd⟩ := mult_down g g2
      exact mult hd
theorem RN_rep (z : Int) : Rep (RN z) := by
  obtain ⟨q, c, h1, h2, h3, h4, h5⟩ := RN_spec z
  refine Rep.of h1 ?_
  rw [h1, Int.natAbs_mul, Int.natAbs_natCast]
  exact Nat.mul_le_mul_right _ h4
theorem RN_of {z : Int} (h : Rep z) : RN z = z := by
  have := RN_near z h
  omega

/-! ### Sums -/
theorem abs_swap (x y : Int) : (x - y).natAbs = (y - x).natAbs := by omega
theorem far_apart {x y : Int} {P : Nat} (h : P ≤ (x - y).natAbs) (hp : 0 < P) : ¬ (2 * (y - x).natAbs ≤ P) := by omega
/-- What the nearest float of a sum lacks is a float. -/
theorem rest_rep {a b : Int} (ha : Rep a) (hb : Rep b) : Rep (a + b - RN (a + b)) := by
  have n1 := RN_near (a + b) ha
  have n2 := RN_near (a + b) hb
  have n3 : (RN (a + b) - (a + b)).natAbs ≤ b.natAbs := by omega
  have n4 : (RN (a + b) - (a + b)).natAbs ≤ a.natAbs := by omega
  obtain ⟨q, c, h1, h2, h3, h4, h5⟩ := RN_spec (a + b)
  obtain ⟨m, k, a1, a2⟩ := ha
  obtain ⟨n, l, b1, b2⟩ := hb
  -- by the finer of the two steps
  have key : ∀ {x y m n : Int} {k l : Nat}, m.natAbs < 2 ^ 53 → x = m * ((2 ^ k : Nat) : Int) → y = n * ((2 ^ l : Nat) : Int) → k ≤ l → x + y = a + b → (RN (a + b) - (a + b)).natAbs ≤ x.natAbs → Rep (a + b - RN (a + b)) := by
    intro x y m n k l hm hx hy hkl hxy hn
    obtain ⟨n', hy'⟩ := mult_down hkl hy
    rcases Nat.lt_or_ge q k with g | g
    · -- exact
      rcases h3 with h3 | h3
      · rw [h5 h3, Int.sub_self]; exact Rep.zero
      · have hs := mult_add hx hy'
        obtain ⟨d, hd⟩ := mult_down (Nat.le_of_lt g) hs
        rw [hxy] at hd
        by_cases e : a + b = RN (a + b)
        · rw [← e, Int.sub_self]; exact Rep.zero
        · exact absurd h2 (far_apart (mult_apart hd h1 e) (Nat.two_pow_pos q))
    · obtain ⟨d, hd⟩ := mult_down g h1
      have hs := mult_add hx hy'
      rw [hxy] at hs
      refine Rep.of (mult_sub hs hd) ?_
      have hx2 : x.natAbs ≤ 2 ^ 53 * 2 ^ k := by
        rw [hx, Int.natAbs_mul, Int.natAbs_natCast]
        exact Nat.mul_le_mul_right _ (Nat.le_of_lt hm)
      rw [abs_swap]
      exact Nat.le_trans hn hx2
  rcases Nat.le_total k l with g | g
  · exact key a1 a2 b2 g rfl n4
  · exact key b1 b2 a2 g (Int.add_comm b a) n3
/-- The nearest float of a sum, less the greater of the two. -/
theorem back_rep {a b : Int} (ha : Rep a) (hb : Rep b) (hab : b.natAbs ≤ a.natAbs) : Rep (RN (a + b) - a) := by
  obtain ⟨q, c, h1, h2, h3, h4, h5⟩ := RN_spec (a + b)
  by_cases hex : RN (a + b) = a + b
  · rw [hex, show a + b - a = b by omega]; exact hb
  have hq : 2 ^ 52 * 2 ^ q ≤ (a + b).natAbs := h3.resolve_left fun e => hex (h5 e)
  have hq0 : q ≠ 0 := fun e => hex (h5 e)
  obtain ⟨m, k, a1, a2⟩ := ha
  obtain ⟨n, l, b1, b2⟩ := hb
  have hA : a.natAbs < 2 ^ 53 * 2 ^ k := by
    rw [a2, Int.natAbs_mul, Int.natAbs_natCast]
    exact Nat.mul_lt_mul_of_pos_right a1 (Nat.two_pow_pos k)
  have hA1 : a.natAbs + 2 ^ k ≤ 2 ^ 53 * 2 ^ k := by
    rw [a2, Int.natAbs_mul, Int.natAbs_natCast]
    have := Nat.mul_le_mul_right (2 ^ k) (show m.natAbs + 1 ≤ 2 ^ 53 by omega)
    rw [Nat.add_mul, Nat.one_mul] at this; exact this
  have hB : b.natAbs < 2 ^ 53 * 2 ^ l := by
    rw [b2, Int.natAbs_mul, Int.natAbs_natCast]
    exact Nat.mul_lt_mul_of_pos_right b1 (Nat.two_pow_pos l)
  have hqe : 2 ^ q = 2 * 2 ^ (q - 1) := by rw [show q = (q - 1) + 1 by omega, Nat.pow_succ, Nat.mul_comm]; rfl
  -- the step is at most twice a's
  have hqk : q ≤ k + 1 := by
    refine Nat.le_of_not_lt fun g => ?_
    have : 2 ^ (k + 2) ≤ 2 ^ q := Nat.pow_le_pow_right (by decide) g
    have e : 2 ^ (k + 2) = 4 * 2 ^ k := by rw [Nat.pow_add, Nat.mul_comm]
    have := Nat.mul_le_mul_left (2 ^ 52) this
    rw [e] at this
    have e2 : 2 ^ 52 * (4 * 2 ^ k) = 2 * (2 ^ 53 * 2 ^ k) := by rw [← Nat.mul_assoc, ← Nat.mul_assoc]
    omega
  rcases Nat.lt_or_ge k q with g | g
  · -- the step is just twice a's
    obtain rfl : q = k + 1 := by omega
    rw [show k + 1 - 1 = k from rfl] at hqe
    obtain ⟨d, hd⟩ := mult_down (show k ≤ k + 1 by omega) h1
    refine Rep.of (mult_sub hd a2) ?_
    omega
  · -- b is finer than the step
    obtain ⟨m', hm'⟩ := mult_down g a2
    refine Rep.of (mult_sub h1 hm') ?_
    have hlq : l < q := by
      refine Nat.lt_of_not_le fun g2 => hex ?_
      obtain ⟨n', hn'⟩ := mult_down g2 b2
      have hs := mult_add hm' hn'
      refine Decidable.byContradiction fun e => ?_
      have := mult_apart h1 hs e
      have := Nat.two_pow_pos q
      omega
    have : 2 ^ l ≤ 2 ^ (q - 1) := Nat.pow_le_pow_right (by decide) (by omega)
    have := Nat.mul_le_mul_left (2 ^ 53) this
    have e : 2 ^ 53 * 2 ^ (q - 1) = 2 ^ 52 * 2 ^ q := by rw [hqe, ← Nat.mul_assoc]
    omega
/-- A sum that is nearer to zero than both. -/
theorem small_sum {a b : Int} (ha : Rep a) (hb : Rep b) (h1 : (a + b).natAbs ≤ a.natAbs) (h2 : (a + b).natAbs ≤ b.natAbs) : Rep (a + b) := by
  obtain ⟨m, k, a1, a2⟩ := ha
  obtain ⟨n, l, b1, b2⟩ := hb
  have key : ∀ {x y m n : Int} {k l : Nat}, m.natAbs < 2 ^ 53 → x = m * ((2 ^ k : Nat) : Int) → y = n * ((2 ^ l : Nat) : Int) → k ≤ l → (x + y).natAbs ≤ x.natAbs → Rep (x + y) := by
    intro x y m n k l hm hx hy hkl hn
    obtain ⟨n', hy'⟩ := mult_down hkl hy
    refine Rep.of (mult_add hx hy') ?_
    have hx2 : x.natAbs ≤ 2 ^ 53 * 2 ^ k := by
      rw [hx, Int.natAbs_mul, Int.natAbs_natCast]
      exact Nat.mul_le_mul_right _ (by omega)
    omega
  rcases Nat.le_total k l with g | g
  · exact key a1 a2 b2 g h1
  · rw [Int.add_comm]
    exact key b1 b2 a2 g (by rw [Int.add_comm]; exact h2)
/-- Knuth's sum and its rest. -/
theorem two_sum {a b s t u v w r : Int} (ha : Rep a) (hb : Rep b) (hs : s = RN (a + b)) (ht : t = RN (s - a)) (hu : u = RN (s - t)) (hv : v = RN (b - t)) (hw : w = RN (a - u)) (hr : r = RN (w + v)) : s + r = a + b := by
  have rs : Rep s := hs ▸ RN_rep _
  have he : Rep (a + b - s) := hs ▸ rest_rep ha hb
  have fin : Rep (s - t) → Rep (b - t) → Rep (a - (s - t)) → s + r = a + b := by
    intro g1 g2 g3
    rw [RN_of g1] at hu
    rw [RN_of g2] at hv
    rw [hu, RN_of g3] at hw
    rw [hw, hv, show a - (s - t) + (b - t) = a + b - s by omega, RN_of he] at hr
    omega
  -- what t lacks
  have hδ : Rep (s - a - t) := by
    have := rest_rep rs ha.neg
    rw [show s + -a = s - a by omega, ← ht] at this; exact this
  have g3 : Rep (a - (s - t)) := by
    have := hδ.neg
    rwa [show -(s - a - t) = a - (s - t) by omega] at this
  rcases Nat.le_total b.natAbs a.natAbs with c | c
  · -- t is exact
    have h1 : Rep (s - a) := hs ▸ back_rep ha hb c
    rw [RN_of h1] at ht
    refine fin ?_ ?_ g3
    · rw [ht, show s - (s - a) = a by omega]; exact ha
    · rw [ht, show b - (s - a) = a + b - s by omega]; exact he
  · -- b less t
    have g2 : Rep (b - t) := by
      have hle : (a + b - s).natAbs ≤ a.natAbs := by
        have := RN_near (a + b) hb
        rw [← hs] at this; omega
      -- t is the nearest to b less the rest
      have h1 : Rep (s - b) := by
        have := back_rep hb ha c
        rw [Int.add_comm, ← hs] at this; exact this
      have h2 := back_rep hb he.neg (by omega)
      rw [show b + -(a + b - s) = s - a by omega, ← ht] at h2
      have := h2.neg
      rwa [show -(t - b) = b - t by omega] at this
    refine fin ?_ g2 g3
    rcases Nat.lt_or_ge s.natAbs a.natAbs with d | d
    · -- the sum is small, so all is exact
      have hsm : (a + b).natAbs ≤ a.natAbs := by
        refine Nat.le_of_not_lt fun g => ?_
        have n1 := RN_near (a + b) ha
        have n2 := RN_near (a + b) ha.neg
        rw [← hs] at n1 n2
        omega
      have hex : s = a + b := by rw [hs]; exact RN_of (small_sum ha hb hsm (by omega))
      rw [hex, show a + b - a = b by omega, RN_of hb] at ht
      rw [hex, ht, show a + b - b = a by omega]; exact ha
    · have := back_rep rs ha.neg (by omega)
      rw [show s + -a = s - a by omega, ← ht] at this
      have := this.neg
      rwa [show -(t - s) = s - t by omega] at this
end Go.Proofs.Ytmoeaeflljpboaa.X
