/- Plain law: what the functions of naturals answer: take, back, digit (Knuth's step). Conditions: the words are words, the lists are not longer than memory. -/
import Derived.Test.YtbaaggmicpigeaaDoorNatF
namespace Go.Proofs.YtbaaggmicpigeaaDoor.X
open Go Go.Rex
set_option linter.unusedVariables false

/-- Nothing of it is left to be looked at but its last word. -/
theorem val_take_last {p : List Int} {n : Nat} (h : p.length = n + 1) : val p = val (p.take n) + 18446744073709551616 ^ n * (p.getD n 0).toNat := by
  have := take_succ_val' p n
  rwa [List.take_of_length_le (by omega)] at this
theorem val_set_last {p : List Int} {n : Nat} (h : p.length = n + 1) (x : Int) : val (p.set n x) = val (p.take n) + 18446744073709551616 ^ n * x.toNat := by
  rw [val_take_last (p := p.set n x) (n := n) (by simpa using h), take_set_ne, Rex.getD_set_self p (by omega)]

/-! ### take -/
theorem take_step {P A B x y c b lo d hi s e u T : Nat} (h1 : lo + 18446744073709551616 * hi = x * y + c) (h2 : s + lo + b = u + 18446744073709551616 * e) (hv : A + x * T = B + P * (c + b)) : A + P * s + x * (T + P * y) = B + P * u + P * 18446744073709551616 * (hi + e) := by
  have k1 : P * (lo + 18446744073709551616 * hi) = P * (x * y + c) := by rw [h1]
  have k2 : P * (s + lo + b) = P * (u + 18446744073709551616 * e) := by rw [h2]
  grind
theorem take_mac {x y c : Nat} (hx : x < 18446744073709551616) (hy : y < 18446744073709551616) (hc : c < 18446744073709551616) :
    ∃ lo d hi : Nat, (x * y % 18446744073709551616 + c + 0) % 18446744073709551616 = lo ∧ (x * y % 18446744073709551616 + c + 0) / 18446744073709551616 = d ∧ x * y / 18446744073709551616 + d = hi ∧ hi < 18446744073709551616 ∧ lo < 18446744073709551616 ∧ lo + 18446744073709551616 * hi = x * y + c := by
  have := mul_lt' hx hy
  generalize x * y = z at *
  exact ⟨_, _, _, rfl, rfl, rfl, by omega, by omega, by omega⟩
theorem take_l0 {u v : List Int} (hu : WF u) (hv : WF v) {n x : Nat} (hul : u.length = n + 1) (hvl : v.length = n) (hn : n ≤ 17592186044416) (hx : x < 18446744073709551616) (m : Nat) : ∀ (i c b : Nat) (p : List Int), i + m = n → c < 18446744073709551616 → b ≤ 1 → WF p → p.length = n + 1 → (∀ j, i ≤ j → p.getD j 0 = u.getD j 0) → val (p.take i) + x * val (v.take i) = val (u.take i) + 18446744073709551616 ^ i * (c + b) →
    ∃ (p' : List Int) (b' : Nat), WF p' ∧ p'.length = n + 1 ∧ b' ≤ 1 ∧ val p' + x * val v = val u + 18446744073709551616 ^ (n + 1) * b' ∧
      Ev2 (fun k l => nat_take.l0 k l v (x : Int) (c : Int) (b : Int) v (v.length : Int) (i : Int) p) (p', decide (b' ≠ 0)) := by
  induction m with
  | zero =>
    intro i c b p hi hc hb hp hl hz h
    have hin : i = n := by omega
    subst hin
    have ru := hu.getD i
    obtain ⟨w, ew⟩ := Int.eq_ofNat_of_zero_le ru.1
    obtain ⟨s, e, h3, h4, h5, hev⟩ := sub64_ev (x := w) (y := c) (c := b) (by omega) hc hb
    refine ⟨p.set i (s : Int), e, hp.set _ (by omega) (by omega), by simp [hl], h4, ?_, ?_⟩
    · rw [val_set_last hl, val_take_last hul, ew, Int.toNat_natCast, Int.toNat_natCast, pow_s]
      rw [List.take_of_length_le (l := v) (by omega)] at h
      have k : 18446744073709551616 ^ i * (s + c + b) = 18446744073709551616 ^ i * (w + 18446744073709551616 * e) := by rw [h5]
      generalize 18446744073709551616 ^ i = P at *
      grind
    · refine Ev2.step (fun k l => nat_take.l0_eq k l _ _ _ _ _ _ _ _) (Ev2.neg (dF (by omega)) (Ev2.pos ⟨by omega, by omega⟩ ?_))
      rw [Int.toNat_natCast, hvl, hz i (Nat.le_refl i), ew]
      refine Ev2.call hev (Ev2.pos ⟨by omega, by omega⟩ (Ev2.eq (Ev2.some _) ?_))
      have : e = 0 ∨ e = 1 := by omega
      rcases this with rfl | rfl <;> rfl
  | succ m ih =>
    intro i c b p hi hc hb hp hl hz h
    have ru := hu.getD i
    have rv := hv.getD i
    obtain ⟨w, ew⟩ := Int.eq_ofNat_of_zero_le ru.1
    obtain ⟨y, ey⟩ := Int.eq_ofNat_of_zero_le rv.1
    have e1 := take_succ_val' u i
    have e2 := take_succ_val' v i
    rw [ew, Int.toNat_natCast] at e1
    rw [ey, Int.toNat_natCast] at e2
    obtain ⟨lo, d, hi', a1, a2, a3, a4, a5, a6⟩ := take_mac (x := x) (y := y) (c := c) hx (by omega) hc
    obtain ⟨s, e, h3, h4, h5, hev⟩ := sub64_ev (x := w) (y := lo) (c := b) (by omega) a5 hb
    obtain ⟨p', b', r1, r2, r3, r4, r5⟩ := ih (i + 1) hi' e (p.set i (s : Int)) (by omega) a4 h4 (hp.set _ (by omega) (by omega)) (by simp [hl]) (fun j hj => by rw [Rex.getD_set_ne p (by omega)]; exact hz j (by omega)) (by
      rw [take_set_succ p (by omega), Int.toNat_natCast, e1, e2, pow_s]
      exact take_step (d := d) a6 h5 h)
    refine ⟨p', b', r1, r2, r3, r4, ?_⟩
    refine Ev2.step (fun k l => nat_take.l0_eq k l _ _ _ _ _ _ _ _) (Ev2.pos (dT (by omega)) (Ev2.pos ⟨by omega, by omega⟩ ?_))
    rw [Int.toNat_natCast, ey, hz i (Nat.le_refl i), ew, succ_i i (by omega)]
    refine Ev2.call (mul64_ev hx (by omega)) (Ev2.call (add64_ev (c := 0) (by omega)) (Ev2.pos ⟨by omega, by omega⟩ ?_))
    rw [a1, a2]
    refine Ev2.call hev (Ev2.pos ⟨by omega, by omega⟩ ?_)
    rw [← Int.natCast_add, a3, wrapUn a4]
    exact r5
theorem take_ev {u v : List Int} (hu : WF u) (hv : WF v) {n x : Nat} (hul : u.length = n + 1) (hvl : v.length = n) (hn : n ≤ 17592186044416) (hx : x < 18446744073709551616) :
    ∃ (p : List Int) (b : Nat), WF p ∧ p.length = n + 1 ∧ b ≤ 1 ∧ val p + x * val v = val u + 18446744073709551616 ^ (n + 1) * b ∧ Ev (fun k => nat_take k u v (x : Int)) (p, decide (b ≠ 0)) := by
  obtain ⟨p, b, r1, r2, r3, r4, r5⟩ := take_l0 hu hv hul hvl hn hx n 0 0 0 u (by omega) (by omega) (by omega) hu hul (fun _ _ => rfl) (by simp [val])
  exact ⟨p, b, r1, r2, r3, r4, Ev.congr (fun k => nat_take_eq k u v _) r5.ev⟩

/-! ### back -/
theorem back_l0 {u v : List Int} (hu : WF u) (hv : WF v) {n : Nat} (hul : u.length = n + 1) (hvl : v.length = n) (hn : n ≤ 17592186044416) (m : Nat) : ∀ (i c : Nat) (p : List Int), i + m = n → c ≤ 1 → WF p → p.length = n + 1 → (∀ j, i ≤ j → p.getD j 0 = u.getD j 0) → val (p.take i) + 18446744073709551616 ^ i * c = val (u.take i) + val (v.take i) →
    ∃ (p' : List Int) (c' : Nat), WF p' ∧ p'.length = n + 1 ∧ c' ≤ 1 ∧ val p' + 18446744073709551616 ^ (n + 1) * c' = val u + val v ∧
      Ev2 (fun k l => nat_back.l0 k l v (c : Int) v (v.length : Int) (i : Int) p) (p', decide (c' ≠ 0)) := by
  induction m with
  | zero =>
    intro i c p hi hc hp hl hz h
    have hin : i = n := by omega
    subst hin
    have ru := hu.getD i
    obtain ⟨w, ew⟩ := Int.eq_ofNat_of_zero_le ru.1
    obtain ⟨s, e, h1, h2, h3, h4, h5⟩ := add_step (x := w) (y := 0) (c := c) (by omega) (by omega) hc
    refine ⟨p.set i (s : Int), e, hp.set _ (by omega) (by omega), by simp [hl], h4, ?_, ?_⟩
    · rw [val_set_last hl, val_take_last hul, ew, Int.toNat_natCast, Int.toNat_natCast, pow_s]
      rw [List.take_of_length_le (l := v) (by omega)] at h
      have k : 18446744073709551616 ^ i * (s + 18446744073709551616 * e) = 18446744073709551616 ^ i * (w + 0 + c) := by rw [h5]
      generalize 18446744073709551616 ^ i = P at *
      grind
    · refine Ev2.step (fun k l => nat_back.l0_eq k l _ _ _ _ _ _) (Ev2.neg (dF (by omega)) (Ev2.pos ⟨by omega, by omega⟩ ?_))
      rw [Int.toNat_natCast, hvl, hz i (Nat.le_refl i), ew]
      refine Ev2.call (add64_ev (y := 0) hc) (Ev2.pos ⟨by omega, by omega⟩ (Ev2.eq (Ev2.some _) ?_))
      rw [h1, h2]
      have : e = 0 ∨ e = 1 := by omega
      rcases this with rfl | rfl <;> rfl
  | succ m ih =>
    intro i c p hi hc hp hl hz h
    have ru := hu.getD i
    have rv := hv.getD i
    obtain ⟨w, ew⟩ := Int.eq_ofNat_of_zero_le ru.1
    obtain ⟨y, ey⟩ := Int.eq_ofNat_of_zero_le rv.1
    have e1 := take_succ_val' u i
    have e2 := take_succ_val' v i
    rw [ew, Int.toNat_natCast] at e1
    rw [ey, Int.toNat_natCast] at e2
    obtain ⟨s, e, h1, h2, h3, h4, h5⟩ := add_step (x := w) (y := y) (c := c) (by omega) (by omega) hc
    obtain ⟨p', b', r1, r2, r3, r4, r5⟩ := ih (i + 1) e (p.set i (s : Int)) (by omega) h4 (hp.set _ (by omega) (by omega)) (by simp [hl]) (fun j hj => by rw [Rex.getD_set_ne p (by omega)]; exact hz j (by omega)) (by
      rw [take_set_succ p (by omega), Int.toNat_natCast, e1, e2, pow_s]
      generalize 18446744073709551616 ^ i = P at *
      have k : P * (s + 18446744073709551616 * e) = P * (w + y + c) := by rw [h5]
      grind)
    refine ⟨p', b', r1, r2, r3, r4, ?_⟩
    refine Ev2.step (fun k l => nat_back.l0_eq k l _ _ _ _ _ _) (Ev2.pos (dT (by omega)) (Ev2.pos ⟨by omega, by omega⟩ (Ev2.pos ⟨by omega, by omega⟩ ?_)))
    rw [Int.toNat_natCast, ey, hz i (Nat.le_refl i), ew, succ_i i (by omega)]
    refine Ev2.call (add64_ev hc) (Ev2.pos ⟨by omega, by omega⟩ ?_)
    rw [h1, h2]
    exact r5
theorem back_ev {u v : List Int} (hu : WF u) (hv : WF v) {n : Nat} (hul : u.length = n + 1) (hvl : v.length = n) (hn : n ≤ 17592186044416) :
    ∃ (p : List Int) (c : Nat), WF p ∧ p.length = n + 1 ∧ c ≤ 1 ∧ val p + 18446744073709551616 ^ (n + 1) * c = val u + val v ∧ Ev (fun k => nat_back k u v) (p, decide (c ≠ 0)) := by
  obtain ⟨p, c, r1, r2, r3, r4, r5⟩ := back_l0 hu hv hul hvl hn n 0 0 u (by omega) (by omega) hu hul (fun _ _ => rfl) (by simp [val])
  exact ⟨p, c, r1, r2, r3, r4, Ev.congr (fun k => nat_back_eq k u v) r5.ev⟩

/-! ### digit -/
section
variable {v : List Int} (hv : WF v) {n : Nat} (hvl : v.length = n) (hn : n ≤ 17592186044416) {U Q R : Nat} (hQR : val v * Q + R = U) (hR : R < val v)
include hv hvl hn hQR hR
/-- Back, until it is no longer below zero. -/
theorem digit_l3 (m : Nat) : ∀ (g : Nat) (p : List Int), g = Q + 1 + m → g < 18446744073709551616 → WF p → p.length = n + 1 → val p + val v * g = U + 18446744073709551616 ^ (n + 1) →
    ∃ p' : List Int, WF p' ∧ p'.length = n + 1 ∧ val p' = R ∧ Ev2 (fun k l => nat_digit.l3 k l v (g : Int) p) (p', (Q : Int)) := by
  induction m with
  | zero =>
    intro g p hg hgW hp hl h
    obtain ⟨q, c, r1, r2, r3, r4, r5⟩ := back_ev hp hv hl hvl hn
    have hq := val_lt r1
    rw [r2] at hq
    have eg : val v * g = val v * Q + val v := by rw [hg]; grind
    generalize val v * Q = z at *
    generalize val v * g = z2 at *
    generalize 18446744073709551616 ^ (n + 1) = W1 at *
    have hc : c = 1 := by
      have : c = 0 ∨ c = 1 := by omega
      rcases this with rfl | rfl
      · omega
      · rfl
    subst hc
    refine ⟨q, r1, r2, by omega, ?_⟩
    refine Ev2.step (fun k l => nat_digit.l3_eq k l _ _ _) (Ev2.call r5 (Ev2.pos rfl (Ev2.eq (Ev2.some _) ?_)))
    rw [show IntKind.u64.wrap ((g : Int) - 1) = ((g - 1 : Nat) : Int) by rw [wrap_u64]; omega, hg]
    simp
  | succ m ih =>
    intro g p hg hgW hp hl h
    obtain ⟨q, c, r1, r2, r3, r4, r5⟩ := back_ev hp hv hl hvl hn
    have hq := val_lt hp
    rw [hl] at hq
    have eg : val v * g = val v * Q + val v + val v + val v * m := by rw [hg]; grind
    have eg1 : val v * g = val v * (g - 1) + val v := by rw [← Nat.mul_succ, Nat.succ_eq_add_one, Nat.sub_add_cancel (by omega)]
    have hc : c = 0 := by
      have : c = 0 ∨ c = 1 := by omega
      rcases this with rfl | rfl
      · rfl
      · generalize val v * Q = z at *
        generalize val v * g = z2 at *
        generalize val v * m = z3 at *
        generalize 18446744073709551616 ^ (n + 1) = W1 at *
        omega
    subst hc
    obtain ⟨p', w1, w2, w3, w4⟩ := ih (g - 1) q (by omega) (by omega) r1 r2 (by omega)
    refine ⟨p', w1, w2, w3, ?_⟩
    refine Ev2.step (fun k l => nat_digit.l3_eq k l _ _ _) (Ev2.call r5 (Ev2.neg (by simp) ?_))
    rw [show IntKind.u64.wrap ((g : Int) - 1) = ((g - 1 : Nat) : Int) by rw [wrap_u64]; omega]
    simpa using w4
/-- A guess that is not too small. -/
theorem digit_j1 {u : List Int} (hu : WF u) (hul : u.length = n + 1) (hU : val u = U) {g : Nat} (hg : Q ≤ g) (hgW : g < 18446744073709551616) :
    ∃ p' : List Int, WF p' ∧ p'.length = n + 1 ∧ val p' = R ∧ Ev (fun k => nat_digit.j1 k v (g : Int) u) (p', (Q : Int)) := by
  obtain ⟨p, b, r1, r2, r3, r4, r5⟩ := take_ev hu hv hul hvl hn hgW
  have hp := val_lt r1
  rw [r2] at hp
  rw [Nat.mul_comm, hU] at r4
  obtain ⟨d, hd⟩ : ∃ d, g = Q + d := ⟨g - Q, by omega⟩
  have eg : val v * g = val v * Q + val v * d := by rw [hd, Nat.mul_add]
  have ed : 1 ≤ d → val v ≤ val v * d := fun h => by have := Nat.mul_le_mul_left (val v) h; omega
  have : b = 0 ∨ b = 1 := by omega
  rcases this with rfl | rfl
  · have hd0 : d = 0 := by
      rcases Nat.eq_zero_or_pos d with h | h
      · exact h
      · have := ed h
        generalize val v * Q = z at *
        generalize val v * g = z2 at *
        generalize val v * d = z3 at *
        omega
    subst hd0
    have hgq : g = Q := hd
    refine ⟨p, r1, r2, ?_, Ev.congr (fun k => nat_digit.j1_eq k _ _ _) (Ev.bind r5 (Ev.neg (by simp) (Ev.eq (Ev.some _) (by simp [hgq]))))⟩
    rw [hgq] at r4
    generalize val v * Q = z at *
    omega
  · have hd1 : 1 ≤ d := by
      rcases Nat.eq_zero_or_pos d with h | h
      · subst h
        rw [Nat.mul_zero] at eg
        generalize val v * Q = z at *
        generalize val v * g = z2 at *
        generalize 18446744073709551616 ^ (n + 1) = W1 at *
        omega
      · exact h
    obtain ⟨p', w1, w2, w3, w4⟩ := digit_l3 hv hvl hn hQR hR (d - 1) g p (by omega) hgW r1 r2 (by rw [r4, Nat.mul_one])
    exact ⟨p', w1, w2, w3, Ev.congr (fun k => nat_digit.j1_eq k _ _ _) (Ev.bind r5 (Ev.pos rfl (by simpa using w4.ev)))⟩

/-- The guess by the second word. -/
theorem digit_l0 {u : List Int} (hu : WF u) (hul : u.length = n + 1) (hU : val u = U) (h2 : 2 ≤ n) {v1 v2 T u2 : Nat} (e1 : v.getD (n - 1) 0 = (v1 : Int)) (e2 : v.getD (n - 2) 0 = (v2 : Int)) (e3 : u.getD (n - 2) 0 = (u2 : Int))
    (top : U < (T * 18446744073709551616 + u2 + 1) * 18446744073709551616 ^ (n - 2)) (low : (v1 * 18446744073709551616 + v2) * 18446744073709551616 ^ (n - 2) ≤ val v) (m : Nat) : ∀ (g r : Nat), g = Q + m → g < 18446744073709551616 → r < 18446744073709551616 → g * v1 + r = T →
    ∃ p' : List Int, WF p' ∧ p'.length = n + 1 ∧ val p' = R ∧ Ev2 (fun k l => nat_digit.l0 k l v (n : Int) (g : Int) (r : Int) u) (p', (Q : Int)) := by
  have rv1 := hv.getD (n - 1)
  have rv2 := hv.getD (n - 2)
  have ru2 := hu.getD (n - 2)
  rw [e1] at rv1
  rw [e2] at rv2
  rw [e3] at ru2
  have w2 : IntKind.i64.wrap ((n : Int) - 2) = ((n - 2 : Nat) : Int) := by rw [wrapI] <;> omega
  have w1 : IntKind.i64.wrap ((n : Int) - 1) = ((n - 1 : Nat) : Int) := by rw [wrapI] <;> omega
  -- a guess that the second word tells to be too great is too great
  have big : ∀ g r : Nat, g * v1 + r = T → r * 18446744073709551616 + u2 < g * v2 → Q < g := by
    intro g r hT h
    rcases Nat.lt_or_ge Q g with hlt | hge
    · exact hlt
    · have k1 : (g * (v1 * 18446744073709551616 + v2)) * 18446744073709551616 ^ (n - 2) ≤ val v * Q := by
        have a1 : (v1 * 18446744073709551616 + v2) * 18446744073709551616 ^ (n - 2) * g ≤ val v * g := Nat.mul_le_mul_right _ low
        have a2 : val v * g ≤ val v * Q := Nat.mul_le_mul_left _ hge
        have a3 : (g * (v1 * 18446744073709551616 + v2)) * 18446744073709551616 ^ (n - 2) = (v1 * 18446744073709551616 + v2) * 18446744073709551616 ^ (n - 2) * g := by grind
        omega
      have k2 : T * 18446744073709551616 + u2 + 1 ≤ g * (v1 * 18446744073709551616 + v2) := by
        have : g * (v1 * 18446744073709551616 + v2) = g * v1 * 18446744073709551616 + g * v2 := by grind
        rw [this, ← hT]
        generalize g * v1 = z at *
        generalize g * v2 = z2 at *
        omega
      have k3 := Nat.mul_le_mul_right (18446744073709551616 ^ (n - 2)) k2
      have k4 : val v * Q ≤ U := by omega
      omega
  induction m with
  | zero =>
    intro g r hg hgW hr hT
    obtain ⟨p', a1, a2, a3, a4⟩ := digit_j1 hv hvl hn hQR hR hu hul hU (g := g) (by omega) hgW
    refine ⟨p', a1, a2, a3, Ev2.step (fun k l => nat_digit.l0_eq k l _ _ _ _ _) ?_⟩
    have nb : ¬ r * 18446744073709551616 + u2 < g * v2 := fun h => by have := big g r hT h; omega
    rw [w2, Int.toNat_natCast, e2, e3]
    refine Ev2.pos ⟨by omega, by omega⟩ (Ev2.call (mul64_ev hgW (by omega)) ?_)
    have dm := Nat.div_add_mod (g * v2) 18446744073709551616
    generalize g * v2 = z at *
    by_cases c1 : z / 18446744073709551616 < r
    · exact Ev2.pos (dT (by omega)) (Ev2.call a4 (Ev2.some _) |> fun h => by simpa using h)
    · refine Ev2.neg (dF (by omega)) ?_
      have c2 : z / 18446744073709551616 = r := by omega
      refine Ev2.pos (bT (by omega)) (Ev2.pos ⟨by omega, by omega⟩ (Ev2.pos (dT (by omega)) ?_))
      exact Ev2.call a4 (Ev2.some _) |> fun h => by simpa using h
  | succ m ih =>
    intro g r hg hgW hr hT
    -- one less
    have less : g = Q + m + 1 → ∃ p' : List Int, WF p' ∧ p'.length = n + 1 ∧ val p' = R ∧ Ev2 (fun k l => nat_digit.j2 k l v (n : Int) (g : Int) (r : Int) u) (p', (Q : Int)) := by
      intro _
      have eg : IntKind.u64.wrap ((g : Int) - 1) = ((g - 1 : Nat) : Int) := by rw [wrap_u64]; omega
      have hT' : (g - 1) * v1 + (r + v1) = T := by
        have : g * v1 = (g - 1) * v1 + v1 := by rw [← Nat.succ_mul, Nat.succ_eq_add_one, Nat.sub_add_cancel (by omega)]
        omega
      obtain ⟨s, e, b1, b2, b3, b4, b5⟩ := add_step (x := r) (y := v1) (c := 0) hr (by omega) (by omega)
      by_cases ce : e = 0
      · obtain ⟨p', a1, a2, a3, a4⟩ := ih (g - 1) s (by omega) (by omega) b3 (by omega)
        refine ⟨p', a1, a2, a3, Ev2.congr (fun k l => nat_digit.j2_eq k l _ _ _ _ _) ?_⟩
        rw [w1, Int.toNat_natCast, e1, eg]
        refine Ev2.pos ⟨by omega, by omega⟩ (Ev2.call (add64_ev (c := 0) (by omega)) ?_)
        rw [b1, b2, ce]
        exact Ev2.neg (nF rfl) a4
      · obtain ⟨p', a1, a2, a3, a4⟩ := digit_j1 hv hvl hn hQR hR hu hul hU (g := g - 1) (by omega) (by omega)
        refine ⟨p', a1, a2, a3, Ev2.congr (fun k l => nat_digit.j2_eq k l _ _ _ _ _) ?_⟩
        rw [w1, Int.toNat_natCast, e1, eg]
        refine Ev2.pos ⟨by omega, by omega⟩ (Ev2.call (add64_ev (c := 0) (by omega)) ?_)
        rw [b1, b2]
        exact Ev2.pos (nT (by omega)) (Ev2.call a4 (Ev2.some _) |> fun h => by simpa using h)
    obtain ⟨p', a1, a2, a3, a4⟩ := digit_j1 hv hvl hn hQR hR hu hul hU (g := g) (by omega) hgW
    obtain ⟨q', d1, d2, d3, d4⟩ := less (by omega)
    clear less ih big
    have dm := Nat.div_add_mod (g * v2) 18446744073709551616
    have ml := mul_lt' (a := g) (b := v2) hgW (by omega)
    by_cases c1 : g * v2 / 18446744073709551616 < r ∨ (g * v2 / 18446744073709551616 = r ∧ g * v2 % 18446744073709551616 ≤ u2)
    · refine ⟨p', a1, a2, a3, Ev2.step (fun k l => nat_digit.l0_eq k l _ _ _ _ _) ?_⟩
      rw [w2, Int.toNat_natCast, e2, e3]
      refine Ev2.pos ⟨by omega, by omega⟩ (Ev2.call (mul64_ev hgW (by omega)) ?_)
      generalize g * v2 = z at *
      have j1 : Ev2 (fun k (l : Nat) => nat_digit.j1 k v (g : Int) u) (p', (Q : Int)) := Ev2.call a4 (Ev2.some _) |> fun h => by simpa using h
      rcases c1 with c1 | ⟨c1, c2⟩
      · exact Ev2.pos (dT (by omega)) j1
      · exact Ev2.neg (dF (by omega)) (Ev2.pos (bT (by omega)) (Ev2.pos ⟨by omega, by omega⟩ (Ev2.pos (dT (by omega)) j1)))
    · refine ⟨q', d1, d2, d3, Ev2.step (fun k l => nat_digit.l0_eq k l _ _ _ _ _) ?_⟩
      rw [w2, Int.toNat_natCast, e2, e3]
      refine Ev2.pos ⟨by omega, by omega⟩ (Ev2.call (mul64_ev hgW (by omega)) ?_)
      generalize g * v2 = z at *
      refine Ev2.neg (dF (by omega)) ?_
      by_cases c2 : z / 18446744073709551616 = r
      · exact Ev2.pos (bT (by omega)) (Ev2.pos ⟨by omega, by omega⟩ (Ev2.neg (dF (by omega)) d4))
      · exact Ev2.neg (bF (by omega)) d4
end
end Go.Proofs.YtbaaggmicpigeaaDoor.X
