/- Plain law: FormatMachine answers true. Conditions: what the reading says of the argument. -/
import Derived.Test.YtoeedodjldlalaaDoorIeB
namespace Go.Proofs.YtoeedodjldlalaaDoor.X
open Go Go.Rex
set_option linter.unusedVariables false

theorem fixed_at (k : Nat) : vernierlaw04_fixed k = some true := by kernel_rfl
theorem f64of_ev (x : Int) : Ev (fun k => math_Float64frombits k x) (fOf x) := Ev.of fun _ => rfl
theorem f32of_ev (x : Int) : Ev (fun k => math_Float32frombits k x) (fOf x) := Ev.of fun _ => rfl
theorem f64bits_ev {x : Int} (h : 0 ≤ x) : Ev (fun k => math_Float64bits k x) x := Ev.of fun _ => if_pos h
theorem f32bits_ev {x : Int} (h : 0 ≤ x) : Ev (fun k => math_Float32bits k x) x := Ev.of fun _ => if_pos h
theorem digs1 {v : Nat} (h0 : v ≠ 0) (h : v < 18446744073709551616) : digs v = [(v : Int)] := by
  rw [digs_pos h0, Nat.mod_eq_of_lt h, Nat.div_eq_of_lt h, digs_zero]
theorem i64 : If FloatKind.f64.format 64 53 (-1022) := ie64
theorem i32 : If FloatKind.f32.format 32 24 (-126) := ie32
theorem d64 : dOf 53 (-1022) = 1074 := by decide
theorem d32' : dOf 24 (-126) = 149 := by decide
/-- A number of few bits has a place. -/
theorem short_at {P u q : Nat} (hP : 2 ≤ P) (hu : u < 2 ^ P) : ∃ k, plV P k = u * 2 ^ q := by
  by_cases c0 : u = 0
  · exact ⟨0, by rw [c0, Nat.zero_mul]; exact plV0 P⟩
  have hl : lftP P (u * 2 ^ q) 1 = 0 := by
    have hbu : blen u ≤ P := blen_le_iff.2 hu
    have hsh : shf P (u * 2 ^ q) 1 ≤ q := by
      unfold shf
      rw [Nat.div_one, blen_pow_mul c0]; omega
    unfold lftP
    rw [lftN_zero, Nat.one_mul]
    obtain ⟨d, hd⟩ : ∃ d, q = shf P (u * 2 ^ q) 1 + d := ⟨q - shf P (u * 2 ^ q) 1, by omega⟩
    generalize shf P (u * 2 ^ q) 1 = z at *
    rw [hd, Nat.pow_add, ← Nat.mul_assoc, Nat.mul_comm u, Nat.mul_assoc]
    exact Nat.mul_mod_right _ _
  have hfl := (lftP_zero (P := P) (by omega) (by decide)).1 hl
  rw [Nat.mul_one] at hfl
  exact ⟨_, hfl.symm⟩
theorem place_lt {P K R : Nat} (hP : 1 ≤ P) (h : plV P K ≤ plV P R) {L : Nat} (hR : R < L) : K < L := by have := (plV_le hP).1 h; omega
theorem place_pow (j : Nat) : plV 53 ((j + 1) * 2 ^ 52) = 2 ^ (52 + j) := by
  have := plV_at (P := 53) (s := j) (u := 2 ^ 52) (by decide) (.inr (Nat.le_refl _)) (by decide)
  rw [show 53 - 1 = 52 from rfl] at this
  rw [Nat.add_mul, Nat.one_mul, this, Nat.pow_add]
/-- 2^n. -/
def twoV (n : Nat) : Int := (((1022 + n + 1) * 2 ^ 52 : Nat) : Int)
theorem twoV_fl {n : Nat} (hn : n ≤ 1000) : Fl 64 53 (twoV n) false ((1022 + n + 1) * 2 ^ (53 - 1)) := by
  refine ⟨?_, ?_⟩
  · rw [show sgB false 64 = 0 from rfl, Nat.add_zero]; rfl
  · rw [show infP 64 53 = 2047 * 2 ^ (53 - 1) from rfl]
    exact Nat.mul_lt_mul_of_pos_right (by omega) (Nat.two_pow_pos _)
theorem mtwo_l0 (n : Nat) (hn : n ≤ 600) : ∀ (r i : Nat), i + r = n → Ev2 (fun k m => vernierlaw04_two.l0 k m (twoV i) (n : Int) (i : Int)) (twoV n)
  | 0, i, hi => by
    obtain rfl : i = n := by omega
    exact Ev2.step (fun k m => vernierlaw04_two.l0_eq k m _ _ _) (Ev2.neg (dF (by omega)) (Ev2.some _))
  | r + 1, i, hi => by
    refine Ev2.step (fun k m => vernierlaw04_two.l0_eq k m _ _ _) (Ev2.pos (dT (by omega)) ?_)
    rw [succ_i i (by omega)]
    have hx := twoV_fl (n := i) (by omega)
    have hy := twoV_fl (n := i + 1) (by omega)
    have e := (add_self i64 hx (R := (1022 + (i + 1) + 1) * 2 ^ (53 - 1)) (by
      rw [show 53 - 1 = 52 from rfl, place_pow, place_pow, show 52 + (1022 + (i + 1)) = 52 + (1022 + i) + 1 by omega, Nat.pow_succ, Nat.mul_comm]) hy.lt).e
    have e2 := hy.e
    rw [show fArith .add .f64 (twoV i) (twoV i) = twoV (i + 1) from e.trans e2.symm]
    exact mtwo_l0 n hn r (i + 1) (by omega)
theorem mtwo_ev (n : Nat) (hn : n ≤ 600) : Ev (fun k => vernierlaw04_two k (n : Int)) (twoV n) :=
  Ev.congr (fun k => vernierlaw04_two_eq k _) (mtwo_l0 n hn n 0 (by omega)).ev
theorem mnI_nat (a b : Nat) : mnI (a : Int) (b : Int) = ((min a b : Nat) : Int) := by unfold mnI; split <;> omega

/-- Downwards: divided by powers of two. -/
theorem mpower_l1 {N : Nat} (hN : N < 2 ^ 53) (hN0 : N ≠ 0) (s : Bool) {Rf : Nat} : ∀ (e t : Nat) (x : Int) (K : Nat), Fl 64 53 x s K → plV 53 K = N * 2 ^ (t + e) → plV 53 Rf = N * 2 ^ t → e ≤ 1100 → Ev2 (fun k m => vernierlaw04_power.l1 k m x (-(e : Int))) ((Rf + sgB s 64 : Nat) : Int) := by
  intro e
  induction e using Nat.strongRecOn with
  | ind e ih =>
    intro t x K hx hK hR he
    refine Ev2.step (fun k m => vernierlaw04_power.l1_eq k m _ _) ?_
    by_cases h0 : e = 0
    · subst h0
      refine Ev2.neg (dF (by omega)) (Ev2.eq (Ev2.some _) ?_)
      rw [Nat.add_zero] at hK
      have : K = Rf := plV_inj (P := 53) (by decide) (by rw [hK, hR])
      subst this; exact hx.e
    · have ew : IntKind.i64.wrap (0 - (-(e : Int))) = (e : Int) := by rw [wrapI (by omega) (by omega)]; omega
      have em : mnI ((e : Nat) : Int) 537 = ((min e 537 : Nat) : Int) := mnI_nat e 537
      rw [ew, em]
      refine Ev2.pos (dT (by omega)) (Ev2.call (mtwo_ev _ (by omega)) ?_)
      have e2 : IntKind.i64.wrap (-(e : Int) + ((min e 537 : Nat) : Int)) = -((e - min e 537 : Nat) : Int) := by rw [wrapI (by omega) (by omega)]; omega
      rw [e2]
      have hn0 : min e 537 ≤ e := Nat.min_le_left _ _
      have hn1 : min e 537 ≤ 537 := Nat.min_le_right _ _
      have hn2 : 0 < min e 537 := by omega
      generalize min e 537 = n at *
      obtain ⟨R, hR'⟩ := short_at (P := 53) (q := t + (e - n)) (by decide) hN
      have hlt : R < infP 64 53 := place_lt (P := 53) (by decide) (by rw [hR', hK]; exact Nat.mul_le_mul_left _ (pow_mono2 (by omega))) hx.lt
      have hK0 : K ≠ 0 := by
        rintro rfl
        rw [plV0] at hK
        have := Nat.mul_pos (Nat.pos_of_ne_zero hN0) (Nat.two_pow_pos (t + e))
        omega
      have hq := quo_exact i64 hx hK0 (twoV_fl (n := n) (by omega)) (R := R) (by
        have hd := d64
        generalize dOf 53 (-1022) = D at *
        rw [hK, hR', Nat.mul_assoc, Nat.mul_assoc, ← Nat.pow_add, ← Nat.pow_add]; congr 2 <;> omega) hlt
      exact ih (e - n) (by omega) t _ R hq hR' hR (by omega)
/-- Upwards: by products with powers of two. -/
theorem mpower_l0 {N : Nat} (hN : N < 2 ^ 53) (hN0 : N ≠ 0) (s : Bool) {Rf : Nat} (hRf : Rf < infP 64 53) : ∀ (e t : Nat) (x : Int) (K : Nat), Fl 64 53 x s K → plV 53 K = N * 2 ^ t → plV 53 Rf = N * 2 ^ (t + e) → e ≤ 1100 → Ev2 (fun k m => vernierlaw04_power.l0 k m x (e : Int)) ((Rf + sgB s 64 : Nat) : Int) := by
  intro e
  induction e using Nat.strongRecOn with
  | ind e ih =>
    intro t x K hx hK hR he
    refine Ev2.step (fun k m => vernierlaw04_power.l0_eq k m _ _) ?_
    by_cases h0 : e = 0
    · subst h0
      exact Ev2.neg (dF (by omega)) (mpower_l1 hN hN0 s (Rf := Rf) 0 t x K hx hK hR (by omega)).inner
    · have em : mnI ((e : Nat) : Int) 500 = ((min e 500 : Nat) : Int) := mnI_nat e 500
      rw [em]
      refine Ev2.pos (dT (by omega)) (Ev2.call (mtwo_ev _ (by omega)) ?_)
      have e2 : IntKind.i64.wrap ((e : Int) - ((min e 500 : Nat) : Int)) = ((e - min e 500 : Nat) : Int) := by rw [wrapI (by omega) (by omega)]; omega
      rw [e2]
      have hn0 : min e 500 ≤ e := Nat.min_le_left _ _
      have hn1 : min e 500 ≤ 500 := Nat.min_le_right _ _
      have hn2 : 0 < min e 500 := by omega
      generalize min e 500 = n at *
      obtain ⟨R, hR'⟩ := short_at (P := 53) (q := t + n) (by decide) hN
      have hlt : R < infP 64 53 := place_lt (P := 53) (by decide) (by rw [hR', hR]; exact Nat.mul_le_mul_left _ (pow_mono2 (by omega))) hRf
      have hq := mul_exact i64 hx (twoV_fl (n := n) (by omega)) (R := R) (by
        have hd := d64
        generalize dOf 53 (-1022) = D at *
        rw [show 53 - 1 = 52 from rfl, place_pow, hK, hR', Nat.mul_assoc, Nat.mul_assoc, ← Nat.pow_add, ← Nat.pow_add]; congr 2 <;> omega) hlt
      rw [show (s ^^ false) = s by cases s <;> rfl] at hq
      exact ih (e - n) (by omega) (t + n) _ R hq hR' (by rw [hR]; congr 2 <;> omega) (by omega)
theorem zero_power : Ev (fun k => vernierlaw04_power k 0 0) 0 := by
  refine Ev.congr (fun k => vernierlaw04_power_eq k _ _) ?_
  have h1 : Ev2 (fun k m => vernierlaw04_power.l1 k m 0 0) 0 := Ev2.step (fun k m => vernierlaw04_power.l1_eq k m _ _) (Ev2.neg (dF (by omega)) (Ev2.some _))
  have h0 : Ev2 (fun k m => vernierlaw04_power.l0 k m 0 0) 0 := Ev2.step (fun k m => vernierlaw04_power.l0_eq k m _ _) (Ev2.neg (dF (by omega)) h1.inner)
  exact h0.ev
/-- N * 2^e with its sign, as the machine reads it. -/
theorem mread_ev {N : Nat} (hN : N < 2 ^ 53) (hN0 : N ≠ 0) (s : Bool) {e : Int} (h1 : -1074 ≤ e) (h2 : e ≤ 1100) {Rf : Nat} (hRf : Rf < infP 64 53) (hR : plV 53 Rf = N * 2 ^ (1074 + e).toNat) :
    Ev (fun k => vernierlaw04_read k s (digs N) e) ((Rf + sgB s 64 : Nat) : Int) := by
  have h53 : (2 : Nat) ^ 53 = 9007199254740992 := rfl
  have hd := d64
  obtain ⟨K, hK⟩ := short_at (P := 53) (q := dOf 53 (-1022)) (by decide) hN
  have hKl : K < infP 64 53 := by
    obtain ⟨j, hj⟩ : ∃ j : Nat, j = 2046 := ⟨_, rfl⟩
    have hi : infP 64 53 = (j + 1) * 2 ^ 52 := by subst hj; rfl
    have h3 : plV 53 (infP 64 53) = 2 ^ (52 + j) := by rw [hi, place_pow]
    have : plV 53 K < plV 53 (infP 64 53) := by
      rw [hK, h3]
      have := Nat.mul_lt_mul_of_pos_right hN (Nat.two_pow_pos (dOf 53 (-1022)))
      rw [← Nat.pow_add] at this
      exact Nat.lt_of_lt_of_le this (pow_mono2 (by omega))
    exact Nat.lt_of_not_le fun g => by have := (plV_le (P := 53) (by decide)).2 g; omega
  have hx := ofInt_exact i64 (n := (N : Int)) (R := K) (by rw [Int.natAbs_natCast]; exact hK) hKl
  rw [decide_eq_false (show ¬ ((N : Int) < 0) by omega)] at hx
  have hp : Ev (fun k => vernierlaw04_power k (fOfInt .f64 (N : Int)) e) ((Rf + sgB false 64 : Nat) : Int) := by
    refine Ev.congr (fun k => vernierlaw04_power_eq k _ _) ?_
    rcases Int.le_total 0 e with c | c
    · obtain ⟨n, rfl⟩ := Int.eq_ofNat_of_zero_le c
      exact (mpower_l0 hN hN0 false hRf n _ _ K hx hK (by rw [hR]; congr 2 <;> omega) (by omega)).ev
    · obtain ⟨n, hn⟩ := Int.eq_ofNat_of_zero_le (show 0 ≤ -e by omega)
      have he : e = -(n : Int) := by omega
      subst he
      have h1' : Ev2 (fun k m => vernierlaw04_power.l1 k m (fOfInt .f64 (N : Int)) (-(n : Int))) ((Rf + sgB false 64 : Nat) : Int) :=
        mpower_l1 hN hN0 false n (dOf 53 (-1022) - n) _ K hx (by rw [hK]; congr 2 <;> omega) (by rw [hR]; congr 2 <;> omega) (by omega)
      have h0 : Ev2 (fun k m => vernierlaw04_power.l0 k m (fOfInt .f64 (N : Int)) (-(n : Int))) ((Rf + sgB false 64 : Nat) : Int) :=
        Ev2.step (fun k m => vernierlaw04_power.l0_eq k m _ _) (Ev2.neg (dF (by omega)) h1'.inner)
      exact h0.ev
  refine Ev.congr (fun k => vernierlaw04_read_eq k _ _ _) ?_
  rw [digs1 hN0 (by omega)]
  refine Ev.pos (dT (by simp)) (Ev.pos ⟨by omega, by simp⟩ (Ev.bind hp ?_))
  cases s
  · exact Ev.neg (by simp) (Ev.some _)
  · refine Ev.pos rfl (Ev.eq (Ev.some _) ?_)
    have := (fneg_at i64 (s := false) (K := Rf) ⟨rfl, hRf⟩ rfl).e
    exact this
theorem mread_zero : Ev (fun k => vernierlaw04_read k false [] 0) 0 :=
  Ev.congr (fun k => vernierlaw04_read_eq k _ _ _) (Ev.neg (dF (by simp)) (Ev.bind zero_power (Ev.neg (by simp) (Ev.some _))))

/-! ### Conversions -/
theorem conv_up {c : Nat} (hc : c = 925) {x : Int} {s : Bool} {K R : Nat} (hx : Fl 32 24 x s K) (hR : plV 53 R = plV 24 K * 2 ^ c) (hl : R < infP 64 53) : fFits .f32 .f64 x = true ∧ Fl 64 53 (fConv .f32 .f64 x) s R := by
  obtain ⟨m, q, r1, e1, _⟩ := hx.read i32
  have a1 := (hx.pat i32).2.2.2
  have hw : FloatKind.f64.encode (.number s m ((-126) - ((24 : Nat) : Int) + 1 + (q : Int))) = R + sgB s 64 := by
    show Ieee.double.nearest s m _ = _
    rw [show (-126 : Int) - ((24 : Nat) : Int) + 1 + (q : Int) = (-1022) - ((53 : Nat) : Int) + 1 + (((q + c : Nat) : Int) - ((0 : Nat) : Int)) by omega]
    refine nearest_exact i64 hl s (p2_gen rfl ?_)
    rw [Nat.pow_zero, Nat.mul_one, hR, ← e1, Nat.mul_assoc, ← Nat.pow_add]
  obtain ⟨p1, p2', p3⟩ := pat_of i64 (K := R) (Nat.lt_trans hl (inf_lt i64)) s
  obtain ⟨m', q', r2, _⟩ := read_num i64 p3 (by rw [p1]; exact hl)
  have hd : FloatKind.f32.decode x.toNat = .number s m ((-126) - ((24 : Nat) : Int) + 1 + (q : Int)) := r1
  have he : FloatKind.f64.decode (R + sgB s 64) = .number (ps 64 (R + sgB s 64)) m' ((-1022) - ((53 : Nat) : Int) + 1 + (q' : Int)) := r2
  refine ⟨?_, ?_, hl⟩
  · unfold fFits
    rw [if_neg (by decide), if_pos a1, hd]
    simp only
    rw [hw, he]; rfl
  · unfold fConv
    rw [if_neg (by decide), if_pos a1]
    unfold floatToFloatBits
    rw [if_neg (by decide), hd]
    simp only
    rw [hw, he]; rfl
theorem conv_down {c : Nat} (hc : c = 925) {x : Int} {s : Bool} {K R : Nat} (hx : Fl 64 53 x s R) (hR : plV 53 R = plV 24 K * 2 ^ c) (hl : K < infP 32 24) : fFits .f64 .f32 x = true ∧ Fl 32 24 (fConv .f64 .f32 x) s K := by
  obtain ⟨m, q, r1, e1, _⟩ := hx.read i64
  have a1 := (hx.pat i64).2.2.2
  have hw : FloatKind.f32.encode (.number s m ((-1022) - ((53 : Nat) : Int) + 1 + (q : Int))) = K + sgB s 32 := by
    show Ieee.single.nearest s m _ = _
    rw [show (-1022 : Int) - ((53 : Nat) : Int) + 1 + (q : Int) = (-126) - ((24 : Nat) : Int) + 1 + ((q : Int) - (c : Int)) by omega]
    refine nearest_exact i32 hl s (p2_gen rfl ?_)
    rw [e1, hR]
  obtain ⟨p1, p2', p3⟩ := pat_of i32 (K := K) (Nat.lt_trans hl (inf_lt i32)) s
  obtain ⟨m', q', r2, _⟩ := read_num i32 p3 (by rw [p1]; exact hl)
  have hd : FloatKind.f64.decode x.toNat = .number s m ((-1022) - ((53 : Nat) : Int) + 1 + (q : Int)) := r1
  have he : FloatKind.f32.decode (K + sgB s 32) = .number (ps 32 (K + sgB s 32)) m' ((-126) - ((24 : Nat) : Int) + 1 + (q' : Int)) := r2
  refine ⟨?_, ?_, hl⟩
  · unfold fFits
    rw [if_neg (by decide), if_pos a1, hd]
    simp only
    rw [hw, he]; rfl
  · unfold fConv
    rw [if_neg (by decide), if_pos a1]
    unfold floatToFloatBits
    rw [if_neg (by decide), hd]
    simp only
    rw [hw, he]; rfl

/-! ### The law -/
theorem one_zero64 (s : Bool) : fCmp .lss .f64 (fArith .quo .f64 4607182418800017408 ((sgB s 64 : Nat) : Int)) 0 = s := by cases s <;> decide +kernel
theorem one_zero32 (s : Bool) : fCmp .lss .f32 (fArith .quo .f32 1065353216 ((sgB s 32 : Nat) : Int)) 0 = s := by cases s <;> decide +kernel
theorem cls_nan {W P p : Nat} {s : Bool} (h : infP W P < p) : decide (clsOf W P p s ≤ 1) = true := by
  unfold clsOf
  by_cases c : infP W P + 2 ^ (P - 2) ≤ p
  · rw [if_pos c]; rfl
  · rw [if_neg c, if_pos h]; rfl
theorem cls_inf {W P : Nat} (s : Bool) : clsOf W P (infP W P) s = if s then 2 else 9 := by
  have := Nat.two_pow_pos (P - 2)
  unfold clsOf
  rw [if_neg (by omega), if_neg (by omega)]
  cases s
  · rw [if_neg (by simp), if_pos rfl, if_neg (by simp)]
  · rw [if_pos rfl, if_pos rfl, if_pos rfl]
theorem cls_zero {W P : Nat} (h : 0 < infP W P) (s : Bool) : clsOf W P 0 s = if s then 5 else 6 := by
  have := Nat.two_pow_pos (P - 2)
  unfold clsOf
  rw [if_neg (by omega), if_neg (by omega)]
  cases s
  · rw [if_neg (by simp), if_neg (by omega), if_pos rfl, if_neg (by simp)]
  · rw [if_pos rfl, if_neg (by omega), if_pos rfl, if_pos rfl]
theorem cls_num {W P p : Nat} (s : Bool) (h0 : p ≠ 0) (h1 : p < infP W P) : clsOf W P p s = if s then (if p < 2 ^ (P - 1) then 4 else 3) else (if p < 2 ^ (P - 1) then 7 else 8) := by
  have := Nat.two_pow_pos (P - 2)
  unfold clsOf
  rw [if_neg (by omega), if_neg (by omega)]
  cases s
  · rw [if_neg (show ¬ (false = true) by simp), if_neg (show ¬ (p = infP W P) by omega), if_neg h0, if_neg (show ¬ (false = true) by simp)]
  · rw [if_pos rfl, if_neg (by omega), if_neg h0, if_pos rfl]
theorem fm32' : Fm 2 32 24 (-126) 127 := ⟨by decide, by decide, rfl, by decide, by decide, by decide, by decide, by decide, by decide, by decide⟩
theorem fm64' : Fm 3 64 53 (-1022) 1023 := ⟨by decide, by decide, rfl, by decide, by decide, by decide, by decide, by decide, by decide, by decide⟩
/-- A number's odd part and the zeros behind it. -/
theorem odd_parts {n : Nat} (h : n ≠ 0) : oddN n * 2 ^ tz n = n ∧ oddN n ≠ 0 ∧ oddN n ≤ n := by
  obtain ⟨m, hm⟩ := tz_spec h
  have e : oddN n = 2 * m + 1 := by
    unfold oddN
    conv => lhs; rw [hm]
    rw [tz_eq, Nat.mul_div_cancel_left _ (Nat.two_pow_pos _)]
  have e2 : oddN n * 2 ^ tz n = n := by rw [e, Nat.mul_comm]; exact hm.symm
  refine ⟨e2, by omega, ?_⟩
  have := Nat.le_mul_of_pos_right (oddN n) (Nat.two_pow_pos (tz n))
  omega
theorem odd_small {P k : Nat} (hP : 1 ≤ P) (h : k ≠ 0) : oddN (plV P k) < 2 ^ P := by
  obtain ⟨s, u, e, h1, h2⟩ := plV_step hP k
  have hu : u ≠ 0 := by
    rintro rfl
    have := Nat.two_pow_pos (P - 1)
    rcases h1 with rfl | h1
    · omega
    · omega
  rw [e, plV_at hP h1 (by omega), (tz_mul_pow hu s).2]
  have := (odd_parts hu).2.2
  omega

section
variable {k : FloatKind} {W P : Nat} {em : Int} (h : If k.format W P em)
include h
theorem neq_nan {a : Nat} (ha : a < 2 ^ W) (hk : infP W P < pk W a) : fCmp .neq k (a : Int) (a : Int) = true := by
  unfold fCmp
  simp only
  rw [ord_nan h ha hk]; rfl
theorem neq_inf (s : Bool) : fCmp .neq k ((infP W P + sgB s W : Nat) : Int) ((infP W P + sgB s W : Nat) : Int) = false ∧ fCmp .eql k (fArith .add k ((infP W P + sgB s W : Nat) : Int) ((infP W P + sgB s W : Nat) : Int)) ((infP W P + sgB s W : Nat) : Int) = true ∧ fCmp .neq k ((infP W P + sgB s W : Nat) : Int) 0 = true := by
  refine ⟨?_, ?_, ?_⟩
  · unfold fCmp; simp only; rw [ord_inf_self h s]; rfl
  · rw [add_self_inf h s]; unfold fCmp; simp only; rw [ord_inf_self h s]; rfl
  · unfold fCmp; simp only; rw [(ord_inf_num h rfl (fl_zero' h)).1]; cases s <;> rfl
theorem neq_num {x : Int} {s : Bool} {K : Nat} (hx : Fl W P x s K) : fCmp .neq k x x = false := by
  rw [fNe_num h hx hx, decide_eq_true rfl]; rfl
end

theorem single_ev {a : Nat} (ha : a < 2 ^ 32) : Ev (fun k => vernierlaw04_single k (a : Int)) true := by
  have hw : IntKind.u64.wrap (a : Int) = (a : Int) := wrapUn (by have : (2 : Nat) ^ 32 = 4294967296 := rfl; omega)
  have hv := value_pk fm32' ha
  obtain ⟨v1, v2, v3⟩ := hv
  refine Ev.congr (fun k => vernierlaw04_single_eq k _) (Ev.bind (f32of_ev _) ?_)
  rw [hw, fOf_nat]
  refine Ev.bind (Ev.of fun k => class_pk fm32' ha k) (Ev.neg (nF rfl) ?_)
  rcases Nat.lt_trichotomy (pk 32 a) (infP 32 24) with c | c | c
  · -- a number
    have hx := fl_of i32 ha c
    have hne := neq_num i32 hx
    obtain ⟨z1, z2, z3⟩ := fEq_zero i32 hx
    have hadd := add_self_eq i32 hx
    have hc9 : ∀ b : Bool, (clsOf 32 24 (pk 32 a) (ps 32 a) == 2) = false ∧ (clsOf 32 24 (pk 32 a) (ps 32 a) == 9) = false ∧ decide (clsOf 32 24 (pk 32 a) (ps 32 a) ≤ 1) = false := fun _ => by
      by_cases c0 : pk 32 a = 0
      · rw [c0, cls_zero (by decide)]; cases ps 32 a <;> decide
      · rw [cls_num _ c0 c]
        by_cases g : pk 32 a < 2 ^ (24 - 1) <;> simp only [g, if_true, if_false] <;> cases ps 32 a <;> decide
    obtain ⟨c2, c9, c1⟩ := hc9 true
    refine Ev.neg (by rw [c1, hne]; decide) (Ev.congr (fun k => vernierlaw04_single.j0_eq k _ _ _) (Ev.neg (by rw [hne]; decide) (Ev.neg (by rw [c2]; decide) ?_)))
    by_cases c0 : pk 32 a = 0
    · have e0 : decide (pk 32 a = 0) = true := decide_eq_true c0
      have hx0 : (a : Int) = ((sgB (ps 32 a) 32 : Nat) : Int) := by have := hx.e; rwa [c0, Nat.zero_add] at this
      refine Ev.pos (by rw [hadd, e0]) (Ev.neg (by rw [c9, z2, e0]; decide) (Ev.congr (fun k => vernierlaw04_single.j1_eq k _ _ _) ?_))
      rw [hw]
      refine Ev.bind (Ev.of fun k => v2 c0 k) (Ev.pos (by rw [hadd, e0]) (Ev.neg (by rw [z2, e0]; decide) (Ev.congr (fun k => vernierlaw04_single.j2_eq k _ _ _ _ _ _ _) (Ev.bind mread_zero (Ev.pos (by rw [z1, e0]) (Ev.pos (by decide) (Ev.pos (by decide +kernel) (Ev.eq (Ev.some _) ?_))))))))
      rw [hx0, one_zero32, c0, cls_zero (by decide)]
      cases ps 32 a <;> decide
    · have e0 : decide (pk 32 a = 0) = false := decide_eq_false c0
      refine Ev.neg (by rw [hadd, e0]; decide) (Ev.neg (by rw [c9]; decide) (Ev.congr (fun k => vernierlaw04_single.j1_eq k _ _ _) ?_))
      rw [hw]
      refine Ev.bind (Ev.of fun k => v3 c0 c k) (Ev.neg (by rw [hadd, e0]; decide) (Ev.congr (fun k => vernierlaw04_single.j2_eq k _ _ _ _ _ _ _) ?_))
      have hV : plV 24 (pk 32 a) ≠ 0 := fun e => c0 ((plV_zero (P := 24) (by decide)).1 e)
      obtain ⟨o1, o2, o3⟩ := odd_parts hV
      have o4 := odd_small (P := 24) (by decide) c0
      have ht : tz (plV 24 (pk 32 a)) < 277 := by
        refine Nat.lt_of_not_le fun g => ?_
        have h1 : plV 24 (pk 32 a) < plV 24 (infP 32 24) := plV_lt (by decide) c
        obtain ⟨z, hz⟩ : ∃ z : Nat, z = 254 := ⟨_, rfl⟩
        have h2 : plV 24 (infP 32 24) = 2 ^ 23 * 2 ^ z := by subst hz; decide +kernel
        have h3 : 2 ^ (23 + z) ≤ plV 24 (pk 32 a) := by
          rw [← o1]
          exact Nat.le_trans (pow_mono2 (by omega)) (Nat.le_mul_of_pos_left _ (Nat.pos_of_ne_zero o2))
        rw [h2, ← Nat.pow_add] at h1
        omega
      obtain ⟨cc, hcc⟩ : ∃ cc : Nat, cc = 925 := ⟨_, rfl⟩
      have hd := d64
      obtain ⟨R, hR⟩ := short_at (P := 53) (u := oddN (plV 24 (pk 32 a))) (q := tz (plV 24 (pk 32 a)) + cc) (by decide) (Nat.lt_of_lt_of_le o4 (pow_mono2 (by decide)))
      have hR2 : plV 53 R = plV 24 (pk 32 a) * 2 ^ cc := by rw [hR, Nat.pow_add, ← Nat.mul_assoc, o1]
      have hRl : R < infP 64 53 := by
        obtain ⟨j, hj⟩ : ∃ j : Nat, j = 2046 := ⟨_, rfl⟩
        have hi : infP 64 53 = (j + 1) * 2 ^ 52 := by subst hj; rfl
        have h3 : plV 53 (infP 64 53) = 2 ^ (52 + j) := by rw [hi, place_pow]
        have : plV 53 R < plV 53 (infP 64 53) := by
          rw [hR, h3]
          have := Nat.mul_lt_mul_of_pos_right o4 (Nat.two_pow_pos (tz (plV 24 (pk 32 a)) + cc))
          rw [← Nat.pow_add] at this
          exact Nat.lt_of_lt_of_le this (pow_mono2 (by omega))
        exact Nat.lt_of_not_le fun g => by have := (plV_le (P := 53) (by decide)).2 g; omega
      have hre := mread_ev (N := oddN (plV 24 (pk 32 a))) (Nat.lt_of_lt_of_le o4 (pow_mono2 (by decide))) o2 (ps 32 a) (e := -126 - ((24 : Nat) : Int) + 1 + (tz (plV 24 (pk 32 a)) : Int)) (by omega) (by omega) hRl (by
        rw [hR]; congr 2; omega)
      obtain ⟨u1, u2⟩ := conv_up hcc hx hR2 hRl
      have hy : Fl 64 53 ((R + sgB (ps 32 a) 64 : Nat) : Int) (ps 32 a) R := ⟨rfl, hRl⟩
      obtain ⟨w1, w2⟩ := conv_down hcc hy hR2 c
      refine Ev.bind hre (Ev.neg (by rw [z1, e0]; decide) (Ev.pos (bT rfl) (Ev.bind (f64bits_ev (by omega)) (Ev.pos u1 (Ev.bind (f64bits_ev (u2.pat i64).2.2.2) (Ev.pos (bT u2.e.symm) (Ev.pos w1 (Ev.bind (f32bits_ev (w2.pat i32).2.2.2) (Ev.eq (Ev.some _) ?_)))))))))
      exact bT (w2.e.trans hx.e.symm)
  · -- infinite
    have hx := inf_of i32 ha c
    obtain ⟨n1, n2, n3⟩ := neq_inf i32 (ps 32 a)
    rw [← hx] at n1 n2 n3
    have j1 : ∀ x2 : Int, Ev (fun k => vernierlaw04_single.j1 k (a : Int) (a : Int) x2) true := fun x2 => by
      refine Ev.congr (fun k => vernierlaw04_single.j1_eq k _ _ _) ?_
      rw [hw]
      exact Ev.bind (Ev.of fun k => v1 (by omega) k) (Ev.pos n2 (Ev.pos n3 (Ev.some _)))
    rw [c, cls_inf]
    refine Ev.neg (by rw [n1]; cases ps 32 a <;> decide) (Ev.congr (fun k => vernierlaw04_single.j0_eq k _ _ _) (Ev.neg (by rw [n1]; decide) ?_))
    cases ps 32 a
    · exact Ev.neg (by decide) (Ev.pos n2 (Ev.neg (by rw [n3]; decide) (j1 _)))
    · exact Ev.pos (by decide) (Ev.pos n2 (Ev.neg (by rw [n3]; decide) (j1 _)))
  · have hn := neq_nan i32 ha c
    refine Ev.neg (by rw [cls_nan c, hn]; decide) (Ev.congr (fun k => vernierlaw04_single.j0_eq k _ _ _) (Ev.pos hn (Ev.some _)))

theorem double_ev {a : Nat} (ha : a < 2 ^ 64) : Ev (fun k => vernierlaw04_FormatMachine.j0 k (a : Int)) true := by
  have hv := value_pk fm64' ha
  obtain ⟨v1, v2, v3⟩ := hv
  refine Ev.congr (fun k => vernierlaw04_FormatMachine.j0_eq k _) (Ev.bind (f64of_ev _) ?_)
  rw [fOf_nat]
  refine Ev.bind (Ev.of fun k => class_pk fm64' ha k) (Ev.neg (nF rfl) ?_)
  rcases Nat.lt_trichotomy (pk 64 a) (infP 64 53) with c | c | c
  · have hx := fl_of i64 ha c
    have hne := neq_num i64 hx
    obtain ⟨z1, z2, z3⟩ := fEq_zero i64 hx
    have hadd := add_self_eq i64 hx
    have hc9 : ∀ b : Bool, (clsOf 64 53 (pk 64 a) (ps 64 a) == 2) = false ∧ (clsOf 64 53 (pk 64 a) (ps 64 a) == 9) = false ∧ decide (clsOf 64 53 (pk 64 a) (ps 64 a) ≤ 1) = false := fun _ => by
      by_cases c0 : pk 64 a = 0
      · rw [c0, cls_zero (by decide)]; cases ps 64 a <;> decide
      · rw [cls_num _ c0 c]
        by_cases g : pk 64 a < 2 ^ (53 - 1) <;> simp only [g, if_true, if_false] <;> cases ps 64 a <;> decide
    obtain ⟨c2, c9, c1⟩ := hc9 true
    refine Ev.neg (by rw [c1, hne]; decide) (Ev.congr (fun k => vernierlaw04_FormatMachine.j1_eq k _ _ _) (Ev.neg (by rw [hne]; decide) (Ev.neg (by rw [c2]; decide) ?_)))
    by_cases c0 : pk 64 a = 0
    · have e0 : decide (pk 64 a = 0) = true := decide_eq_true c0
      have hx0 : (a : Int) = ((sgB (ps 64 a) 64 : Nat) : Int) := by have := hx.e; rwa [c0, Nat.zero_add] at this
      refine Ev.pos (by rw [hadd, e0]) (Ev.neg (by rw [c9, z2, e0]; decide) (Ev.congr (fun k => vernierlaw04_FormatMachine.j2_eq k _ _ _) ?_))
      refine Ev.bind (Ev.of fun k => v2 c0 k) (Ev.pos (by rw [hadd, e0]) (Ev.neg (by rw [z2, e0]; decide) (Ev.congr (fun k => vernierlaw04_FormatMachine.j3_eq k _ _ _ _ _ _ _) (Ev.bind mread_zero (Ev.pos (by rw [z1, e0]) (Ev.pos (by decide) (Ev.pos (by decide +kernel) (Ev.eq (Ev.some _) ?_))))))))
      rw [hx0, one_zero64, c0, cls_zero (by decide)]
      cases ps 64 a <;> decide
    · have e0 : decide (pk 64 a = 0) = false := decide_eq_false c0
      refine Ev.neg (by rw [hadd, e0]; decide) (Ev.neg (by rw [c9]; decide) (Ev.congr (fun k => vernierlaw04_FormatMachine.j2_eq k _ _ _) ?_))
      refine Ev.bind (Ev.of fun k => v3 c0 c k) (Ev.neg (by rw [hadd, e0]; decide) (Ev.congr (fun k => vernierlaw04_FormatMachine.j3_eq k _ _ _ _ _ _ _) ?_))
      have hV : plV 53 (pk 64 a) ≠ 0 := fun e => c0 ((plV_zero (P := 53) (by decide)).1 e)
      obtain ⟨o1, o2, o3⟩ := odd_parts hV
      have o4 := odd_small (P := 53) (by decide) c0
      have ht : tz (plV 53 (pk 64 a)) < 2098 := by
        refine Nat.lt_of_not_le fun g => ?_
        have h1 : plV 53 (pk 64 a) < plV 53 (infP 64 53) := plV_lt (by decide) c
        obtain ⟨j, hj⟩ : ∃ j : Nat, j = 2046 := ⟨_, rfl⟩
        have hi : infP 64 53 = (j + 1) * 2 ^ 52 := by subst hj; rfl
        have h2 : plV 53 (infP 64 53) = 2 ^ (52 + j) := by rw [hi, place_pow]
        have h3 : 2 ^ (52 + j) ≤ plV 53 (pk 64 a) := by
          rw [← o1]
          exact Nat.le_trans (pow_mono2 (by omega)) (Nat.le_mul_of_pos_left _ (Nat.pos_of_ne_zero o2))
        rw [h2] at h1
        omega
      have hre := mread_ev (N := oddN (plV 53 (pk 64 a))) o4 o2 (ps 64 a) (e := -1022 - ((53 : Nat) : Int) + 1 + (tz (plV 53 (pk 64 a)) : Int)) (by omega) (by omega) c (by
        conv => lhs; rw [← o1]
        congr 2; omega)
      have hy : ((pk 64 a + sgB (ps 64 a) 64 : Nat) : Int) = (a : Int) := hx.e.symm
      rw [hy] at hre
      refine Ev.bind hre (Ev.neg (by rw [z1, e0]; decide) (Ev.pos (bT rfl) (Ev.bind (f64bits_ev (by omega)) (Ev.pos (bT rfl) ?_))))
      rw [z3, e0, cls_num _ c0 c]
      cases ps 64 a
      · rw [if_neg (show ¬ (false = true) by simp)]
        by_cases g : pk 64 a < 2 ^ (53 - 1)
        · rw [if_pos g]; exact Ev.neg (by decide) (Ev.eq (Ev.some _) (by decide))
        · rw [if_neg g]; exact Ev.neg (by decide) (Ev.eq (Ev.some _) (by decide))
      · rw [if_pos (show true = true from rfl)]
        by_cases g : pk 64 a < 2 ^ (53 - 1)
        · rw [if_pos g]; exact Ev.neg (by decide) (Ev.eq (Ev.some _) (by decide))
        · rw [if_neg g]; exact Ev.pos (by decide) (Ev.eq (Ev.some _) (by decide))
  · have hx := inf_of i64 ha c
    obtain ⟨n1, n2, n3⟩ := neq_inf i64 (ps 64 a)
    rw [← hx] at n1 n2 n3
    have j2 : ∀ x2 : Int, Ev (fun k => vernierlaw04_FormatMachine.j2 k (a : Int) (a : Int) x2) true := fun x2 => by
      refine Ev.congr (fun k => vernierlaw04_FormatMachine.j2_eq k _ _ _) ?_
      exact Ev.bind (Ev.of fun k => v1 (by omega) k) (Ev.pos n2 (Ev.pos n3 (Ev.some _)))
    rw [c, cls_inf]
    refine Ev.neg (by rw [n1]; cases ps 64 a <;> decide) (Ev.congr (fun k => vernierlaw04_FormatMachine.j1_eq k _ _ _) (Ev.neg (by rw [n1]; decide) ?_))
    cases ps 64 a
    · exact Ev.neg (by decide) (Ev.pos n2 (Ev.neg (by rw [n3]; decide) (j2 _)))
    · exact Ev.pos (by decide) (Ev.pos n2 (Ev.neg (by rw [n3]; decide) (j2 _)))
  · have hn := neq_nan i64 ha c
    refine Ev.neg (by rw [cls_nan c, hn]; decide) (Ev.congr (fun k => vernierlaw04_FormatMachine.j1_eq k _ _ _) (Ev.pos hn (Ev.some _)))

namespace Pure
/-- For all patterns: true. -/
theorem FormatMachine (a : Int) (wa : WFt (.int .u64) a) : Ev (fun k => vernierlaw04_FormatMachine k a) true := by
  obtain ⟨h0, h1⟩ := wf_u64 wa
  obtain ⟨a, rfl⟩ := Int.eq_ofNat_of_zero_le h0
  have hw : IntKind.u32.wrap (a : Int) = ((a % 2 ^ 32 : Nat) : Int) := by
    rw [show (2 : Nat) ^ 32 = 4294967296 from rfl]
    simp [IntKind.wrap, IntKind.signed, IntKind.bits]
  refine Ev.congr (fun k => vernierlaw04_FormatMachine_eq k _) (Ev.bind (Ev.of fixed_at) (Ev.neg (by decide) ?_))
  rw [hw]
  exact Ev.bind (single_ev (Nat.mod_lt _ (by decide))) (Ev.neg (by decide) (double_ev (by rw [show (2 : Nat) ^ 64 = 18446744073709551616 from rfl]; omega)))
end Pure
end Go.Proofs.YtoeedodjldlalaaDoor.X
