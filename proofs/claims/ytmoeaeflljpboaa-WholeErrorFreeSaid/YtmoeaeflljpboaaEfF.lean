/- Plain law: the steps of the program's sums with a rest on Doubles: which are finite, how large they are, that sum and rest are exact. Conditions: both are numbers. -/
import Derived.Test.YtmoeaeflljpboaaEfE
namespace Go.Proofs.Ytmoeaeflljpboaa.X
open Go Go.Rex
set_option linter.unusedVariables false

/-- Is it finite, as the program asks it? -/
def fin64 (x : Int) : Bool := !fCmp .neq .f64 (fArith .sub .f64 x x) 0
theorem fin_of {x : Int} {s : Bool} {K : Nat} (hx : Fl 64 53 x s K) : fin64 x = true := by unfold fin64; rw [self_less d64 hx]; rfl
/-- A pattern that is finite is a number. -/
theorem fl_fin {a : Nat} (ha : a < 2 ^ 64) (hf : fin64 (a : Int) = true) : Fl 64 53 (a : Int) (ps 64 a) (pk 64 a) := by
  rcases Nat.lt_trichotomy (pk 64 a) (infP 64 53) with g | g | g
  · exact fl_of d64 ha g
  · unfold fin64 at hf
    rw [inf_of d64 ha g, inf_less d64] at hf
    cases hf
  · obtain ⟨t, r1⟩ := read_nan d64 ha g
    have e : fArith .sub .f64 (a : Int) (a : Int) = -1 := by
      rw [fArith_of (by omega) (by omega), Int.toNat_natCast]
      show optF (FloatKind.f64.format.sub a a) = -1
      unfold Ieee.Format.sub
      rw [r1]; rfl
    unfold fin64 at hf
    rw [e] at hf
    cases hf
theorem fin_add {x y : Int} {s t : Bool} {K J : Nat} (hx : Fl 64 53 x s K) (hy : Fl 64 53 y t J) (hf : fin64 (fArith .add .f64 x y) = true) : ∃ n R, Fl 64 53 (fArith .add .f64 x y) n R ∧ zv n R = RN (zv s K + zv t J) := by
  rcases z_add hx hy with g | g
  · exact g
  · unfold fin64 at hf; rw [g] at hf; cases hf
theorem fin_sub {x y : Int} {s t : Bool} {K J : Nat} (hx : Fl 64 53 x s K) (hy : Fl 64 53 y t J) (hf : fin64 (fArith .sub .f64 x y) = true) : ∃ n R, Fl 64 53 (fArith .sub .f64 x y) n R ∧ zv n R = RN (zv s K - zv t J) := by
  rcases z_sub hx hy with g | g
  · exact g
  · unfold fin64 at hf; rw [g] at hf; cases hf
theorem fin_mul {x y : Int} {s t : Bool} {K J : Nat} (hx : Fl 64 53 x s K) (hy : Fl 64 53 y t J) (hf : fin64 (fArith .mul .f64 x y) = true) : Fl 64 53 (fArith .mul .f64 x y) (s ^^ t) (rnd 53 0 (s ^^ t) (plV 53 K * plV 53 J) (2 ^ dOf 53 (-1022))) := by
  rcases z_mul hx hy with g | g
  · exact g
  · unfold fin64 at hf; rw [g] at hf; cases hf

/-! ### Sizes -/
theorem plV_pow {n : Nat} (hn : 52 ≤ n) : plV 53 ((n - 51) * 2 ^ 52) = 2 ^ n := by
  have e := plV_at (P := 53) (s := n - 52) (u := 4503599627370496) (by decide) (.inr (by decide)) (by decide)
  have e1 : (n - 51) * 2 ^ 52 = (n - 52) * 2 ^ (53 - 1) + 4503599627370496 := by omega
  have e2 : 4503599627370496 * 2 ^ (n - 52) = 2 ^ (52 + (n - 52)) := by rw [Nat.pow_add]
  rw [e1, e, e2, show 52 + (n - 52) = n by omega]
theorem rnd_pow {A B n : Nat} (s : Bool) (hB : 0 < B) (h : A ≤ 2 ^ n * B) (hn : 52 ≤ n) : rnd 53 0 s A B ≤ (n - 51) * 2 ^ 52 ∧ plV 53 (rnd 53 0 s A B) ≤ 2 ^ n := by
  have e := (rnd_exact (P := 53) (k := (n - 51) * 2 ^ 52) (B := B) (by decide) hB 0 s).1
  rw [plV_pow hn] at e
  have m := rnd_mono (P := 53) (A := A) (B := B) (A' := 2 ^ n * B) (B' := B) (by decide) hB hB 0 s (Nat.mul_le_mul_right _ h)
  rw [e] at m
  exact ⟨m, by rw [← plV_pow hn]; exact (plV_le (by decide)).2 m⟩
theorem place_fin {n K : Nat} (hn : n ≤ 2000) (h : K ≤ (n - 51) * 2 ^ 52) : K < infP 64 53 := by
  have : infP 64 53 = 2047 * 2 ^ 52 := by decide
  rw [this]; omega
theorem natAbs_zv (s : Bool) (K : Nat) : (zv s K).natAbs = plV 53 K := natAbs_sval s _
theorem small_add {x y : Int} {s t : Bool} {K J n : Nat} (hx : Fl 64 53 x s K) (hy : Fl 64 53 y t J) (hn : 52 ≤ n) (h2 : n + 1 ≤ 2000) (bx : (zv s K).natAbs ≤ 2 ^ n) (by' : (zv t J).natAbs ≤ 2 ^ n) :
    ∃ m R, Fl 64 53 (fArith .add .f64 x y) m R ∧ (zv m R).natAbs ≤ 2 ^ (n + 1) := by
  have hb : (zv s K + zv t J).natAbs ≤ 2 ^ (n + 1) * 1 := by rw [Nat.pow_succ]; omega
  obtain ⟨q1, q2⟩ := rnd_pow (if zv s K + zv t J = 0 then s && t else decide (zv s K + zv t J < 0)) (by decide) hb (by omega)
  have e := add_fin d64 hx hy (z := zv s K + zv t J) rfl (n := if zv s K + zv t J = 0 then s && t else decide (zv s K + zv t J < 0)) rfl (place_fin h2 q1)
  exact ⟨_, _, e, by rw [natAbs_zv]; exact q2⟩
theorem small_sub {x y : Int} {s t : Bool} {K J n : Nat} (hx : Fl 64 53 x s K) (hy : Fl 64 53 y t J) (hn : 52 ≤ n) (h2 : n + 1 ≤ 2000) (bx : (zv s K).natAbs ≤ 2 ^ n) (by' : (zv t J).natAbs ≤ 2 ^ n) :
    ∃ m R, Fl 64 53 (fArith .sub .f64 x y) m R ∧ (zv m R).natAbs ≤ 2 ^ (n + 1) := by
  have hb : (zv s K - zv t J).natAbs ≤ 2 ^ (n + 1) * 1 := by rw [Nat.pow_succ]; omega
  obtain ⟨q1, q2⟩ := rnd_pow (if zv s K - zv t J = 0 then s && !t else decide (zv s K - zv t J < 0)) (by decide) hb (by omega)
  have e := sub_fin d64 hx hy (z := zv s K - zv t J) rfl (n := if zv s K - zv t J = 0 then s && !t else decide (zv s K - zv t J < 0)) rfl (place_fin h2 q1)
  exact ⟨_, _, e, by rw [natAbs_zv]; exact q2⟩
/-- The place of the least. -/
def De : Nat := dOf 53 (-1022)
theorem De_eq : De = 1074 := by decide
theorem dOf64 : dOf 53 (-1022) = De := rfl
theorem small_mul {x y : Int} {s t : Bool} {K J n m r : Nat} (hx : Fl 64 53 x s K) (hy : Fl 64 53 y t J) (bx : (zv s K).natAbs ≤ 2 ^ n) (by' : (zv t J).natAbs ≤ 2 ^ m) (hr : n + m = r + De) (h1 : 52 ≤ r) (h2 : r ≤ 2000) :
    ∃ m R, Fl 64 53 (fArith .mul .f64 x y) m R ∧ (zv m R).natAbs ≤ 2 ^ r := by
  rw [natAbs_zv] at bx by'
  have hb : plV 53 K * plV 53 J ≤ 2 ^ r * 2 ^ dOf 53 (-1022) := by
    rw [dOf64, ← Nat.pow_add, ← hr, Nat.pow_add]; exact Nat.mul_le_mul bx by'
  obtain ⟨q1, q2⟩ := rnd_pow (s ^^ t) (Nat.two_pow_pos _) hb h1
  exact ⟨_, _, mul_fin d64 hx hy (place_fin h2 q1), by rw [natAbs_zv]; exact q2⟩

/-! ### Lists -/
theorem fin_l0 (l : List Int) (hl : l.length ≤ 1000) (n : Nat) : ∀ i, i + n = l.length → Ev2 (fun k m => eft_finitefloat64.l0 k m l (l.length : Int) (i : Int)) ((l.drop i).all fin64) := by
  induction n with
  | zero =>
    intro i hi
    rw [List.drop_of_length_le (by omega)]
    exact Ev2.step (fun k m => eft_finitefloat64.l0_eq k m _ _ _) (Ev2.neg (dF (by omega)) (Ev2.some _))
  | succ n ih =>
    intro i hi
    have hlt : i < l.length := by omega
    rw [List.drop_eq_getElem_cons hlt, List.all_cons]
    refine Ev2.step (fun k m => eft_finitefloat64.l0_eq k m _ _ _) (Ev2.pos (dT (by omega)) (Ev2.pos ⟨by omega, by omega⟩ ?_))
    rw [Int.toNat_natCast, List.getD_eq_getElem?_getD, List.getElem?_eq_getElem hlt, Option.getD_some]
    have w : IntKind.i64.wrap ((i : Int) + 1) = ((i + 1 : Nat) : Int) := by rw [wrapI (by omega) (by omega)]; omega
    rw [w]
    cases c : fCmp .neq .f64 (fArith .sub .f64 l[i] l[i]) 0 with
    | true => rw [show fin64 l[i] = false by unfold fin64; rw [c]; rfl, Bool.false_and]; exact Ev2.pos rfl (Ev2.some _)
    | false => rw [show fin64 l[i] = true by unfold fin64; rw [c]; rfl, Bool.true_and]; exact Ev2.neg (by simp) (ih (i + 1) (by omega))
theorem fin_ev (l : List Int) (hl : l.length ≤ 1000) : Ev (fun k => eft_finitefloat64 k l) (l.all fin64) := by
  have := (fin_l0 l hl l.length 0 (by omega)).ev
  rw [List.drop_zero] at this
  exact Ev.congr (fun k => eft_finitefloat64_eq k l) this
theorem ref_l1 (l : List Int) (hl : l.length ≤ 1000) (r : Int) (hr : Ev2 (fun k m => eft_refuses.l2 k m 3 l (l.length : Int) 0) r) (n : Nat) : ∀ i, i + n = l.length → Ev2 (fun k m => eft_refuses.l1 k m 3 l l (l.length : Int) (i : Int)) r := by
  induction n with
  | zero =>
    intro i hi
    exact Ev2.step (fun k m => eft_refuses.l1_eq k m _ _ _ _ _) (Ev2.neg (dF (by omega)) hr.inner)
  | succ n ih =>
    intro i hi
    refine Ev2.step (fun k m => eft_refuses.l1_eq k m _ _ _ _ _) (Ev2.pos (dT (by omega)) (Ev2.pos ⟨by omega, by omega⟩ (Ev2.neg (by decide) ?_)))
    have w : IntKind.i64.wrap ((i : Int) + 1) = ((i + 1 : Nat) : Int) := by rw [wrapI (by omega) (by omega)]; omega
    rw [w]
    exact ih (i + 1) (by omega)
theorem ref_l2 (l : List Int) (hl : l.length ≤ 1000) (n : Nat) : ∀ i, i + n = l.length → Ev2 (fun k m => eft_refuses.l2 k m 3 l (l.length : Int) (i : Int)) (if (l.drop i).all (fun x => fin64 (fOf x)) then 0 else 40) := by
  induction n with
  | zero =>
    intro i hi
    rw [List.drop_of_length_le (by omega)]
    exact Ev2.step (fun k m => eft_refuses.l2_eq k m _ _ _ _) (Ev2.neg (dF (by omega)) (Ev2.some _))
  | succ n ih =>
    intro i hi
    have hlt : i < l.length := by omega
    rw [List.drop_eq_getElem_cons hlt, List.all_cons]
    refine Ev2.step (fun k m => eft_refuses.l2_eq k m _ _ _ _) (Ev2.pos (dT (by omega)) (Ev2.pos ⟨by omega, by omega⟩ (Ev2.neg (by decide) (Ev2.pos (by decide) ?_))))
    rw [Int.toNat_natCast, List.getD_eq_getElem?_getD, List.getElem?_eq_getElem hlt, Option.getD_some]
    have w : IntKind.i64.wrap ((i : Int) + 1) = ((i + 1 : Nat) : Int) := by rw [wrapI (by omega) (by omega)]; omega
    rw [w]
    have h1 : Ev (fun k => eft_double k l[i]) (fOf l[i]) := Ev.of fun k => eft_double_eq k _
    have h2 : Ev (fun k => eft_finitefloat64 k ((List.replicate 1 (0 : Int)).set 0 (fOf l[i]))) (fin64 (fOf l[i])) := Ev.eq (fin_ev [fOf l[i]] (by simp)) (by simp)
    refine Ev2.call h1 (Ev2.call h2 ?_)
    cases fin64 (fOf l[i]) with
    | false => exact Ev2.pos rfl (Ev2.some _)
    | true => rw [Bool.true_and]; exact Ev2.neg (by simp) (ih (i + 1) (by omega))
theorem ref_ev (l : List Int) (hl : l.length ≤ 1000) : Ev (fun k => eft_refuses k 3 l) (if l.all (fun x => fin64 (fOf x)) then 0 else 40) := by
  have g := ref_l2 l hl l.length 0 (by omega)
  rw [List.drop_zero] at g
  refine Ev.congr (fun k => eft_refuses_eq k 3 l) (Ev.pos (by decide) (Ev.neg (by decide) (Ev.congr (fun k => eft_refuses.j0_eq k 3 l) ?_)))
  exact (ref_l1 l hl _ g l.length 0 (by omega)).ev

/-! ### Sums with a rest -/
theorem six (x0 x1 x2 x3 x4 x5 : Int) : ((((((List.replicate 6 (0 : Int)).set 0 x0).set 1 x1).set 2 x2).set 3 x3).set 4 x4).set 5 x5 = [x0, x1, x2, x3, x4, x5] := rfl
def tsS (a b : Int) : Int := fArith .add .f64 a b
def tsT (a b : Int) : Int := fArith .sub .f64 (tsS a b) a
def tsU (a b : Int) : Int := fArith .sub .f64 (tsS a b) (tsT a b)
def tsV (a b : Int) : Int := fArith .sub .f64 b (tsT a b)
def tsW (a b : Int) : Int := fArith .sub .f64 a (tsU a b)
def tsR (a b : Int) : Int := fArith .add .f64 (tsW a b) (tsV a b)
def tsL (a b : Int) : List Int := [tsS a b, tsT a b, tsU a b, tsV a b, tsW a b, tsR a b]
theorem ts_of {a b : Int} {s t : Bool} {K J : Nat} (ha : Fl 64 53 a s K) (hb : Fl 64 53 b t J) (hf : (tsL a b).all fin64 = true) :
    ∃ n R n' R', Fl 64 53 (tsS a b) n R ∧ Fl 64 53 (tsR a b) n' R' ∧ zv n R + zv n' R' = zv s K + zv t J := by
  unfold tsL at hf
  simp only [List.all_cons, List.all_nil, Bool.and_eq_true, Bool.and_true] at hf
  obtain ⟨f1, f2, f3, f4, f5, f6⟩ := hf
  obtain ⟨_, _, h1, e1⟩ := fin_add ha hb f1
  obtain ⟨_, _, h2, e2⟩ := fin_sub h1 ha f2
  obtain ⟨_, _, h3, e3⟩ := fin_sub h1 h2 f3
  obtain ⟨_, _, h4, e4⟩ := fin_sub hb h2 f4
  obtain ⟨_, _, h5, e5⟩ := fin_sub ha h3 f5
  obtain ⟨_, _, h6, e6⟩ := fin_add h5 h4 f6
  exact ⟨_, _, _, _, h1, h6, two_sum (zv_rep s K) (zv_rep t J) e1 e2 e3 e4 e5 e6⟩
theorem le_up {x n m : Nat} (h : x ≤ 2 ^ n) (hm : n ≤ m) : x ≤ 2 ^ m := Nat.le_trans h (Nat.pow_le_pow_right (by decide) hm)
theorem ts_small {a b : Int} {s t : Bool} {K J n : Nat} (ha : Fl 64 53 a s K) (hb : Fl 64 53 b t J) (hn : 52 ≤ n) (h2 : n + 6 ≤ 2000) (ba : (zv s K).natAbs ≤ 2 ^ n) (bb : (zv t J).natAbs ≤ 2 ^ n) : (tsL a b).all fin64 = true := by
  obtain ⟨_, _, h1, e1⟩ := small_add ha hb hn (by omega) ba bb
  obtain ⟨_, _, h2, e2⟩ := small_sub h1 ha (n := n + 1) (by omega) (by omega) e1 (le_up ba (by omega))
  obtain ⟨_, _, h3, e3⟩ := small_sub h1 h2 (n := n + 2) (by omega) (by omega) (le_up e1 (by omega)) e2
  obtain ⟨_, _, h4, e4⟩ := small_sub hb h2 (n := n + 2) (by omega) (by omega) (le_up bb (by omega)) e2
  obtain ⟨_, _, h5, e5⟩ := small_sub ha h3 (n := n + 3) (by omega) (by omega) (le_up ba (by omega)) e3
  obtain ⟨_, _, h6, e6⟩ := small_add h5 h4 (n := n + 4) (by omega) (by omega) e5 (le_up e4 (by omega))
  unfold tsL
  simp only [List.all_cons, List.all_nil, Bool.and_eq_true, Bool.and_true]
  exact ⟨fin_of h1, fin_of h2, fin_of h3, fin_of h4, fin_of h5, fin_of h6⟩
theorem ts_ev (a b : Int) : Ev (fun k => eft_twoSumfloat64 k a b) (if (tsL a b).all fin64 then (tsS a b, (tsR a b, 0)) else (0, (0, 7))) := by
  have g := fin_ev (tsL a b) (by simp [tsL])
  refine Ev.congr (fun k => eft_twoSumfloat64_eq k a b) (Ev.bind g ?_)
  cases (tsL a b).all fin64 with
  | true => exact Ev.neg (by simp) (Ev.some _)
  | false => exact Ev.pos rfl (Ev.some _)
theorem doubles_ev {x y : Int} (hx : 0 ≤ x) (hy : 0 ≤ y) (k : Nat) : eft_doubles k x y 0 = some (x, (y, 0)) := by
  rw [eft_doubles_eq]
  unfold math_Float64bits fbitsF
  rw [if_pos hx, if_pos hy]; rfl
theorem doubles_bad (x y e : Int) (he : e ≠ 0) (k : Nat) : eft_doubles k x y e = some (0, (0, e)) := by
  rw [eft_doubles_eq, if_pos (by simpa using he)]
theorem two_set (x y : Int) : ((List.replicate 2 (0 : Int)).set 0 x).set 1 y = [x, y] := rfl
/-- The program's sum with a rest, of two patterns. -/
theorem TwoSum_ev {a b : Nat} (ha : a < 2 ^ 64) (hb : b < 2 ^ 64) : ∃ s r e : Int, Ev (fun k => eft_TwoSum k 3 (a : Int) (b : Int)) (s, (r, e)) ∧
    (e = 0 → fin64 (a : Int) = true ∧ fin64 (b : Int) = true ∧ (tsL (a : Int) (b : Int)).all fin64 = true ∧ s = tsS (a : Int) (b : Int) ∧ r = tsR (a : Int) (b : Int)) ∧
    (fin64 (a : Int) = true → fin64 (b : Int) = true → (tsL (a : Int) (b : Int)).all fin64 = true → e = 0) := by
  have g := ref_ev [(a : Int), (b : Int)] (by simp)
  have eo : ([(a : Int), (b : Int)].all fun x => fin64 (fOf x)) = (fin64 (a : Int) && fin64 (b : Int)) := by
    simp only [List.all_cons, List.all_nil, Bool.and_true, fOf_nat]
  rw [eo] at g
  have start : ∀ {r}, _ → Ev (fun k => eft_TwoSum k 3 (a : Int) (b : Int)) r := fun hh => Ev.congr (fun k => eft_TwoSum_eq k 3 (a : Int) (b : Int)) (Ev.bind g hh)
  cases c : (fin64 (a : Int) && fin64 (b : Int)) with
  | false =>
    rw [c] at start
    refine ⟨0, 0, 40, start (Ev.pos (by decide) (Ev.some _)), fun h => absurd h (by decide), fun h1 h2 => ?_⟩
    rw [h1, h2] at c; cases c
  | true =>
    rw [c] at start
    rw [Bool.and_eq_true] at c
    have d1 : Ev (fun k => eft_double k (a : Int)) (a : Int) := Ev.eq (Ev.of fun k => eft_double_eq k _) (fOf_nat a)
    have d2 : Ev (fun k => eft_double k (b : Int)) (b : Int) := Ev.eq (Ev.of fun k => eft_double_eq k _) (fOf_nat b)
    have g2 := ts_ev (a : Int) (b : Int)
    cases c2 : (tsL (a : Int) (b : Int)).all fin64 with
    | false =>
      rw [c2] at g2
      exact ⟨0, 0, 7, start (Ev.neg (by decide) (Ev.neg (by decide) (Ev.bind d1 (Ev.bind d2 (Ev.bind g2 (Ev.bind (Ev.of fun k => doubles_bad 0 0 7 (by decide) k) (Ev.some _))))))), fun h => absurd h (by decide), fun _ _ h => by cases h⟩
    | true =>
      rw [c2] at g2
      obtain ⟨n, R, n', R', h1, h2, h3⟩ := ts_of (fl_fin ha c.1) (fl_fin hb c.2) c2
      exact ⟨_, _, 0, start (Ev.neg (by decide) (Ev.neg (by decide) (Ev.bind d1 (Ev.bind d2 (Ev.bind g2 (Ev.bind (Ev.of fun k => doubles_ev (h1.pat d64).2.2.2 (h2.pat d64).2.2.2 k) (Ev.some _))))))), fun _ => ⟨c.1, c.2, rfl, rfl, rfl⟩, fun _ _ _ => rfl⟩
end Go.Proofs.Ytmoeaeflljpboaa.X
