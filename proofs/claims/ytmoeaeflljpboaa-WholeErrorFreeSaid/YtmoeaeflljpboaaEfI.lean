/- Plain law: the program's product with a rest on Doubles, run; which products are never refused; patterns brought into a range. Conditions: patterns are of 64 bits. -/
import Derived.Test.YtmoeaeflljpboaaEfH
namespace Go.Proofs.Ytmoeaeflljpboaa.X
open Go Go.Rex
set_option linter.unusedVariables false

/-! ### Powers of two -/
theorem two_fl : Fl 64 53 4611686018427387904 false ((1023 + 1) * 2 ^ (53 - 1)) := ⟨by decide, by decide⟩
theorem pow_l0 (n : Nat) : ∀ i, i + n = 968 → ∀ x : Int, x = (((De - i - 51) * 2 ^ 52 : Nat) : Int) → Ev2 (fun k m => eft_power.l0 k m x 968 (i : Int)) ((55 * 2 ^ 52 : Nat) : Int) := by
  have hD := De_eq
  induction n with
  | zero =>
    intro i hi x hx
    have e : x = ((55 * 2 ^ 52 : Nat) : Int) := by rw [hx, show De - i - 51 = 55 by omega]
    rw [← e]
    exact Ev2.step (fun k m => eft_power.l0_eq k m _ _ _) (Ev2.neg (dF (by omega)) (Ev2.some _))
  | succ n ih =>
    intro i hi x hx
    refine Ev2.step (fun k m => eft_power.l0_eq k m _ _ _) (Ev2.pos (dT (by omega)) ?_)
    rw [show IntKind.i64.wrap ((i : Int) + 1) = ((i + 1 : Nat) : Int) by rw [wrapI (by omega) (by omega)]; omega]
    refine ih (i + 1) (by omega) _ ?_
    have hf : Fl 64 53 x false ((De - i - 51) * 2 ^ 52) := ⟨by rw [hx, show sgB false 64 = 0 from rfl, Nat.add_zero], place_fin (n := De - i) (by omega) (Nat.le_refl _)⟩
    obtain ⟨j, hj⟩ : ∃ j, j = 1023 := ⟨_, rfl⟩
    have two : Fl 64 53 4611686018427387904 false ((j + 1) * 2 ^ (53 - 1)) := by rw [hj]; exact two_fl
    have g := quo_exact (j := j) (R := (De - (i + 1) - 51) * 2 ^ 52) d64 hf (by omega) two (by
      rw [dOf64, plV_pow (n := De - i) (by omega), plV_pow (n := De - (i + 1)) (by omega), ← Nat.pow_add, ← Nat.pow_add, show De - (i + 1) + (53 - 1 + j) = De - i + De by omega]) (place_fin (n := De - (i + 1)) (by omega) (Nat.le_refl _))
    rw [g.e, show sgB false 64 = 0 from rfl, Nat.add_zero]
theorem pow_ev : Ev (fun k => eft_power k (-968)) ((55 * 2 ^ 52 : Nat) : Int) := by
  have hD := De_eq
  refine Ev.congr (fun k => eft_power_eq k _) ?_
  rw [show IntKind.i64.wrap (0 - -968) = 968 by decide]
  exact (pow_l0 968 0 rfl _ (by rw [show De - 0 - 51 = 1023 by omega]; decide)).ev
theorem least_fl : Fl 64 53 ((55 * 2 ^ 52 : Nat) : Int) false (55 * 2 ^ 52) := ⟨rfl, by decide⟩

/-! ### The product's steps -/
theorem nine (x0 x1 x2 x3 x4 x5 x6 x7 x8 : Int) : (((((((((List.replicate 9 (0 : Int)).set 0 x0).set 1 x1).set 2 x2).set 3 x3).set 4 x4).set 5 x5).set 6 x6).set 7 x7).set 8 x8 = [x0, x1, x2, x3, x4, x5, x6, x7, x8] := rfl
instance (a b : Nat) : Decidable (lng a b) := by unfold lng; infer_instance
theorem abs_ev {x : Int} {s : Bool} {K : Nat} (hx : Fl 64 53 x s K)   : ∃ y t, (∀ k, eft_absfloat64 k x = some y) ∧ Fl 64 53 y t K ∧ sval t (plV 53 K) = (plV 53 K : Int) := by
  have e := (fEq_zero d64 hx).2.2
  have hK : K = 0 → plV 53 K = 0 := fun c => by rw [c, plV0]
  cases s with
  | false => exact ⟨x, false, fun k => by rw [eft_absfloat64_eq, e]; rfl, hx, rfl⟩
  | true =>
    by_cases c : K = 0
    · exact ⟨x, true, fun k => by rw [eft_absfloat64_eq, e, decide_eq_true c]; rfl, hx, by rw [hK c]; rfl⟩
    · exact ⟨_, false, fun k => by rw [eft_absfloat64_eq, e, decide_eq_false c]; rfl, fneg_at d64 hx rfl, rfl⟩
theorem tpj_ev (k : Nat) (p r : Int) (b : Bool) : eft_twoProdfloat64.j0 k p r b = some (if b then (0, (0, 7)) else (p, (r, 0))) := by
  rw [eft_twoProdfloat64.j0_eq, eft_twoProdfloat64.j1_eq]
  cases b <;> rfl
theorem tp_ev {a b : Nat} (ha : a < 2 ^ 64) (hb : b < 2 ^ 64) (fa : fin64 (a : Int) = true) (fb : fin64 (b : Int) = true) :
    Ev (fun k => eft_twoProdfloat64 k kc ((55 * 2 ^ 52 : Nat) : Int) (a : Int) (b : Int)) (if (hvs (a : Int)).all fin64 = true ∧ (hvs (b : Int)).all fin64 = true ∧ (tpL (a : Int) (b : Int)).all fin64 = true ∧ lng a b then (tpP (a : Int) (b : Int), (tpR (a : Int) (b : Int), 0)) else (0, (0, 7))) := by
  have xa := fl_fin ha fa
  have xb := fl_fin hb fb
  have g1 := hv_ev (a : Int)
  have g2 := hv_ev (b : Int)
  have g3 := fin_ev (tpL (a : Int) (b : Int)) (by simp [tpL])
  have start : ∀ {r}, _ → Ev (fun k => eft_twoProdfloat64 k kc ((55 * 2 ^ 52 : Nat) : Int) (a : Int) (b : Int)) r := fun hh => Ev.congr (fun k => eft_twoProdfloat64_eq k kc _ (a : Int) (b : Int)) (Ev.bind g1 hh)
  cases c1 : (hvs (a : Int)).all fin64 with
  | false =>
    rw [c1] at start
    rw [if_neg (fun h => by cases h.1)]
    exact start (Ev.pos rfl (Ev.some _))
  | true =>
    rw [c1] at start
    cases c2 : (hvs (b : Int)).all fin64 with
    | false =>
      rw [c2] at g2
      rw [if_neg (fun h => by cases h.2.1)]
      exact start (Ev.neg (nF rfl) (Ev.bind g2 (Ev.pos rfl (Ev.some _))))
    | true =>
      rw [c2] at g2
      cases c3 : (tpL (a : Int) (b : Int)).all fin64 with
      | false =>
        rw [c3] at g3
        rw [if_neg (fun h => by cases h.2.2.1)]
        exact start (Ev.neg (nF rfl) (Ev.bind g2 (Ev.neg (nF rfl) (Ev.bind g3 (Ev.pos rfl (Ev.of fun k => tpj_ev k _ _ true))))))
      | true =>
        rw [c3] at g3
        have hp : fin64 (tpP (a : Int) (b : Int)) = true := by
          unfold tpL at c3
          simp only [List.all_cons, Bool.and_eq_true] at c3
          exact c3.1
        have xp := fin_mul xa xb hp
        have ea := (fEq_zero d64 xa).2.1
        have eb := (fEq_zero d64 xb).2.1
        have tl : ∀ {r}, _ → Ev (fun k => eft_twoProdfloat64 k kc ((55 * 2 ^ 52 : Nat) : Int) (a : Int) (b : Int)) r := fun hh => start (Ev.neg (nF rfl) (Ev.bind g2 (Ev.neg (nF rfl) (Ev.bind g3 (Ev.neg (by simp) hh)))))
        by_cases za : pk 64 a = 0
        · rw [if_pos ⟨rfl, rfl, rfl, .inl za⟩]
          exact tl (Ev.neg (by rw [ea, decide_eq_true za]; simp) (Ev.of fun k => tpj_ev k _ _ false))
        · by_cases zb : pk 64 b = 0
          · rw [if_pos ⟨rfl, rfl, rfl, .inr (.inl zb)⟩]
            exact tl (Ev.pos (by rw [ea, decide_eq_false za]; rfl) (Ev.neg (by rw [eb, decide_eq_true zb]; simp) (Ev.of fun k => tpj_ev k _ _ false)))
          · refine tl (Ev.pos (by rw [ea, decide_eq_false za]; rfl) (Ev.pos (by rw [eb, decide_eq_false zb]; rfl) ?_))
            obtain ⟨y, t, hab, hy, hv⟩ := abs_ev xp
            refine Ev.bind (Ev.of hab) (Ev.eq (Ev.of fun k => tpj_ev k _ _ _) ?_)
            have hlt := fLt_num d64 hy least_fl
            rw [hv, show sval false (plV 53 (55 * 2 ^ 52)) = ((2 ^ 106 : Nat) : Int) by rw [show 55 * 2 ^ 52 = (106 - 51) * 2 ^ 52 by decide, plV_pow (by decide)]; rfl] at hlt
            rw [hlt]
            have hpk : pk 64 (tpP (a : Int) (b : Int)).toNat = rnd 53 0 (ps 64 a ^^ ps 64 b) (plV 53 (pk 64 a) * plV 53 (pk 64 b)) (2 ^ dOf 53 (-1022)) := (xp.pat d64).1
            by_cases cl : 2 ^ 106 ≤ plV 53 (pk 64 (tpP (a : Int) (b : Int)).toNat)
            · refine Eq.trans ?_ (if_pos ⟨rfl, rfl, rfl, .inr (.inr cl)⟩).symm
              rw [hpk] at cl
              rw [decide_eq_false (by omega)]; rfl
            · refine Eq.trans ?_ (if_neg (fun h => by
                rcases h.2.2.2 with g | g | g
                · exact za g
                · exact zb g
                · exact cl g)).symm
              rw [hpk] at cl
              rw [decide_eq_true (by omega)]; rfl
/-- The program's product with a rest, of two patterns. -/
theorem TwoProd_ev {a b : Nat} (ha : a < 2 ^ 64) (hb : b < 2 ^ 64) : ∃ s r e : Int, Ev (fun k => eft_TwoProd k 3 (a : Int) (b : Int)) (s, (r, e)) ∧
    (e = 0 → fin64 (a : Int) = true ∧ fin64 (b : Int) = true ∧ ((hvs (a : Int)).all fin64 = true ∧ (hvs (b : Int)).all fin64 = true ∧ (tpL (a : Int) (b : Int)).all fin64 = true ∧ lng a b) ∧ s = tpP (a : Int) (b : Int) ∧ r = tpR (a : Int) (b : Int)) ∧
    (fin64 (a : Int) = true → fin64 (b : Int) = true → ((hvs (a : Int)).all fin64 = true ∧ (hvs (b : Int)).all fin64 = true ∧ (tpL (a : Int) (b : Int)).all fin64 = true ∧ lng a b) → e = 0) := by
  have g := ref_ev [(a : Int), (b : Int)] (by simp)
  have eo : ([(a : Int), (b : Int)].all fun x => fin64 (fOf x)) = (fin64 (a : Int) && fin64 (b : Int)) := by
    simp only [List.all_cons, List.all_nil, Bool.and_true, fOf_nat]
  rw [eo] at g
  have start : ∀ {r}, _ → Ev (fun k => eft_TwoProd k 3 (a : Int) (b : Int)) r := fun hh => Ev.congr (fun k => eft_TwoProd_eq k 3 (a : Int) (b : Int)) (Ev.bind g hh)
  cases c : (fin64 (a : Int) && fin64 (b : Int)) with
  | false =>
    rw [c] at start
    refine ⟨0, 0, 40, start (Ev.pos (by decide) (Ev.some _)), fun h => absurd h (by decide), fun h1 h2 => ?_⟩
    rw [h1, h2] at c; cases c
  | true =>
    rw [c] at start
    rw [Bool.and_eq_true] at c
    have d1 : Ev (fun k => eft_double k (a : Int)) (a : Int) := Ev.eq (Ev.of fun k => eft_double_eq k _) (fOf_nat a)
    have d2 : Ev (fun k => eft_double k (b : Int)) (b : Int) := Ev.eq (Ev.of fun k => eft_double_eq k _) (fOf_nat b)
    have g2 := tp_ev ha hb c.1 c.2
    by_cases c2 : (hvs (a : Int)).all fin64 = true ∧ (hvs (b : Int)).all fin64 = true ∧ (tpL (a : Int) (b : Int)).all fin64 = true ∧ lng a b
    · rw [if_pos c2] at g2
      obtain ⟨n, R, n', R', h1, h2, h3⟩ := tp_of ha hb c.1 c.2 c2.1 c2.2.1 c2.2.2.1 c2.2.2.2
      exact ⟨_, _, 0, start (Ev.neg (by decide) (Ev.neg (by decide) (Ev.bind pow_ev (Ev.bind d1 (Ev.bind d2 (Ev.bind g2 (Ev.bind (Ev.of fun k => doubles_ev (h1.pat d64).2.2.2 (h2.pat d64).2.2.2 k) (Ev.some _)))))))), fun _ => ⟨c.1, c.2, c2, rfl, rfl⟩, fun _ _ _ => rfl⟩
    · rw [if_neg c2] at g2
      exact ⟨0, 0, 7, start (Ev.neg (by decide) (Ev.neg (by decide) (Ev.bind pow_ev (Ev.bind d1 (Ev.bind d2 (Ev.bind g2 (Ev.bind (Ev.of fun k => doubles_bad 0 0 7 (by decide) k) (Ev.some _)))))))), fun h => absurd h (by decide), fun _ _ h => absurd h c2⟩
/-- Products of middle size are never refused. -/
theorem tp_small {a b : Nat} {s t : Bool} {K J N : Nat} (hN : N = 1474) (xa : Fl 64 53 (a : Int) s K) (xb : Fl 64 53 (b : Int) t J) (ba : (zv s K).natAbs ≤ 2 ^ N) (bb : (zv t J).natAbs ≤ 2 ^ N) (la : 2 ^ (N - 800) ≤ plV 53 K) (lb : 2 ^ (N - 800) ≤ plV 53 J) :
    (hvs (a : Int)).all fin64 = true ∧ (hvs (b : Int)).all fin64 = true ∧ (tpL (a : Int) (b : Int)).all fin64 = true ∧ lng a b := by
  have hD := De_eq
  obtain ⟨h1, _, _, _, _, fh, bh, fl, bl⟩ := hv_small xa (by omega) (by omega) ba
  obtain ⟨h2, _, _, _, _, fi, bi, fj, bj⟩ := hv_small xb (by omega) (by omega) bb
  obtain ⟨_, _, p1, e1⟩ := small_mul xa xb ba bb (r := N + 400) (by omega) (by omega) (by omega)
  obtain ⟨_, _, p2, e2⟩ := small_mul fh fi bh bi (r := N + 464) (by omega) (by omega) (by omega)
  obtain ⟨_, _, p3, e3⟩ := small_mul fh fj bh bj (r := N + 465) (by omega) (by omega) (by omega)
  obtain ⟨_, _, p4, e4⟩ := small_mul fl fi bl bi (r := N + 465) (by omega) (by omega) (by omega)
  obtain ⟨_, _, p5, e5⟩ := small_mul fl fj bl bj (r := N + 466) (by omega) (by omega) (by omega)
  obtain ⟨_, _, p6, e6⟩ := small_sub p2 p1 (n := N + 464) (by omega) (by omega) e2 (le_up e1 (by omega))
  obtain ⟨_, _, p7, e7⟩ := small_add p6 p3 (n := N + 465) (by omega) (by omega) e6 (le_up e3 (by omega))
  obtain ⟨_, _, p8, e8⟩ := small_add p7 p4 (n := N + 466) (by omega) (by omega) e7 (le_up e4 (by omega))
  obtain ⟨_, _, p9, e9⟩ := small_add p8 p5 (n := N + 467) (by omega) (by omega) e8 (le_up e5 (by omega))
  refine ⟨h1, h2, ?_, ?_⟩
  · unfold tpL
    simp only [List.all_cons, List.all_nil, Bool.and_eq_true, Bool.and_true]
    exact ⟨fin_of p1, fin_of p2, fin_of p3, fin_of p4, fin_of p5, fin_of p6, fin_of p7, fin_of p8, fin_of p9⟩
  · refine .inr (.inr ?_)
    have xp := fin_mul xa xb (fin_of p1)
    rw [show tpP (a : Int) (b : Int) = fArith .mul .f64 (a : Int) (b : Int) from rfl, (xp.pat d64).1, dOf64]
    have hm := Nat.mul_le_mul la lb
    rw [← Nat.pow_add] at hm
    have hle : 2 ^ 106 * 2 ^ De ≤ plV 53 K * plV 53 J := Nat.le_trans (by rw [← Nat.pow_add]; exact Nat.pow_le_pow_right (by decide) (by omega)) hm
    have e := (rnd_exact (P := 53) (k := (106 - 51) * 2 ^ 52) (B := 2 ^ De) (by decide) (Nat.two_pow_pos _) 0 (s ^^ t)).1
    rw [plV_pow (by decide)] at e
    have m := rnd_mono (P := 53) (A := 2 ^ 106 * 2 ^ De) (B := 2 ^ De) (A' := plV 53 K * plV 53 J) (B' := 2 ^ De) (by decide) (Nat.two_pow_pos _) (Nat.two_pow_pos _) 0 (s ^^ t) (Nat.mul_le_mul_right _ hle)
    rw [e] at m
    rw [← plV_pow (n := 106) (by decide)]
    exact (plV_le (by decide)).2 m

/-! ### Patterns brought into a range -/
theorem tame_ev {a : Nat} (ha : a < 2 ^ 64) : ∃ c : Nat, c < 2 ^ 64 ∧ 623 * 2 ^ 52 ≤ pk 64 c ∧ pk 64 c < 1423 * 2 ^ 52 ∧ ∀ k, verniertop_tame k (a : Int) 400 = some (c : Int) := by
  obtain ⟨u, hu⟩ : ∃ u, u = a &&& 9227875636482146303 := ⟨_, rfl⟩
  obtain ⟨q, f, hq, hf, huq⟩ : ∃ q f : Nat, q ≤ 1 ∧ f < 2 ^ 52 ∧ u = q * 2 ^ 63 + f := by
    have h1 : u / 2 ^ 52 % 2 ^ 11 = 0 := by
      rw [hu, Nat.and_div_two_pow, Nat.and_mod_two_pow, show 9227875636482146303 / 2 ^ 52 % 2 ^ 11 = 0 by decide, Nat.and_zero]
    have h2 : u < 2 ^ 64 := by rw [hu]; exact Nat.and_lt_two_pow _ (by decide)
    exact ⟨u / 2 ^ 63, u % 2 ^ 52, by omega, by omega, by omega⟩
  obtain ⟨F, hF⟩ : ∃ F, F = 623 + a / 2 ^ 52 % 2 ^ 11 % 800 := ⟨_, rfl⟩
  have hF1 : F < 1423 := by omega
  refine ⟨q * 2 ^ 63 + (F * 2 ^ 52 + f), by omega, ?_, ?_, fun k => ?_⟩
  · unfold pk
    rw [show 64 - 1 = 63 from rfl, Nat.add_comm, Nat.add_mul_mod_self_right, Nat.mod_eq_of_lt (by omega)]; omega
  · unfold pk
    rw [show 64 - 1 = 63 from rfl, Nat.add_comm, Nat.add_mul_mod_self_right, Nat.mod_eq_of_lt (by omega)]; omega
  · rw [verniertop_tame_eq, if_neg (by decide)]
    have s1 : shrK IntKind.u64 (a : Int) 52 = ((a / 2 ^ 52 : Nat) : Int) := shrK_nat a 52 (by decide)
    have s2 : andK IntKind.u64 ((a / 2 ^ 52 : Nat) : Int) 2047 = ((a / 2 ^ 52 % 2 ^ 11 : Nat) : Int) := andK_mask _ 11 (by decide) (by omega)
    have s3 : andK IntKind.u64 (a : Int) 9227875636482146303 = ((q * 2 ^ 63 + f : Nat) : Int) := by rw [← huq, hu]; exact andK_nat a 9227875636482146303 (by omega) (by decide)
    rw [s1, s2, s3]
    have w1 : IntKind.i64.wrap ((a / 2 ^ 52 % 2 ^ 11 : Nat) : Int) = ((a / 2 ^ 52 % 2 ^ 11 : Nat) : Int) := wrapI (by omega) (by omega)
    have w2 : IntKind.i64.wrap (2 * 400) = ((800 : Nat) : Int) := by decide
    have w3 : IntKind.i64.wrap (1023 - 400) = ((623 : Nat) : Int) := by decide
    have w4 : ((a / 2 ^ 52 % 2 ^ 11 : Nat) : Int).tmod ((800 : Nat) : Int) = ((a / 2 ^ 52 % 2 ^ 11 % 800 : Nat) : Int) := rfl
    rw [w1, w2, w3, w4, show ((623 : Nat) : Int) + ((a / 2 ^ 52 % 2 ^ 11 % 800 : Nat) : Int) = (F : Int) by omega, wrapI (by omega) (by omega)]
    have w5 : IntKind.u64.wrap (F : Int) = (F : Int) := by rw [wrap_u64]; omega
    have w6 : shlK IntKind.u64 (F : Int) 52 = ((F * 2 ^ 52 : Nat) : Int) := shlK_exact F 52 (by decide) (by omega)
    rw [w5, w6, orK_nat _ _ (by omega) (by omega)]
    have o1 : q * 2 ^ 63 + f = q * 2 ^ 63 ||| f := (or_disj (q * 2 ^ 63) f 52 (by omega) (by omega)).symm
    have o2 : f ||| F * 2 ^ 52 = F * 2 ^ 52 + f := by rw [Nat.or_comm]; exact or_disj (F * 2 ^ 52) f 52 (by omega) (by omega)
    have o3 : q * 2 ^ 63 ||| (F * 2 ^ 52 + f) = q * 2 ^ 63 + (F * 2 ^ 52 + f) := or_disj (q * 2 ^ 63) (F * 2 ^ 52 + f) 63 (by omega) (by omega)
    rw [o1, Nat.or_assoc, o2, o3]
end Go.Proofs.Ytmoeaeflljpboaa.X
