/- Plain law: the halves of a Double and the program's product with a rest: that halves, product and rest are exact, and which are finite. Conditions: both are numbers; the product is not too small. -/
import Derived.Test.YtmoeaeflljpboaaEfF
namespace Go.Proofs.Ytmoeaeflljpboaa.X
open Go Go.Rex
set_option linter.unusedVariables false

/-! ### Halves -/
def kc : Int := 4728779608772575232
theorem kc_fl : Fl 64 53 kc false 4728779608772575232 := ⟨by decide, by decide⟩
theorem kc_val : plV 53 4728779608772575232 = 134217729 * 2 ^ De := by
  have e := plV_at (P := 53) (s := 1049) (u := 4503599660924928) (by decide) (.inr (by decide)) (by decide)
  have e2 : 4503599660924928 * 2 ^ (De - 25) = 134217729 * 2 ^ (25 + (De - 25)) := by rw [Nat.pow_add, ← Nat.mul_assoc]
  rw [show (4728779608772575232 : Nat) = 1049 * 2 ^ (53 - 1) + 4503599660924928 by decide, e, show 1049 = De - 25 by decide, e2, show 25 + (De - 25) = De by decide]
theorem kc_zv : zv false 4728779608772575232 = ((134217729 * 2 ^ De : Nat) : Int) := by
  show ((plV 53 4728779608772575232 : Nat) : Int) = _
  rw [kc_val]
def hvC (a : Int) : Int := fArith .mul .f64 kc a
def hvD (a : Int) : Int := fArith .sub .f64 (hvC a) a
def hvH (a : Int) : Int := fArith .sub .f64 (hvC a) (hvD a)
def hvL (a : Int) : Int := fArith .sub .f64 a (hvH a)
def hvs (a : Int) : List Int := [hvC a, hvD a, hvH a, hvL a]
theorem zv_sign {s : Bool} {K : Nat} : zv s K ≠ 0 → s = decide (zv s K < 0) := by
  intro h
  unfold zv sval at *
  cases s
  · rw [if_neg (by simp)] at *
    exact (decide_eq_false (by omega)).symm
  · rw [if_pos rfl] at *
    exact (decide_eq_true (by omega)).symm
/-- Rounded in the units of the first: as a whole number. -/
theorem zv_rnd {s : Bool} {A B : Nat} {z : Int} (hz : z.natAbs = A) (hs : z ≠ 0 → s = decide (z < 0)) (hB : 0 < B) : zv s (rnd 53 0 s (A * B) B) = RN z := by
  rw [rnd_cross 53 0 s (A := A * B) (B := B) (A' := A) (B' := 1) hB (by decide) (Nat.mul_one _), ← hz]
  exact RN_sval hs
theorem hvC_at {a : Int} {s : Bool} {K : Nat} (ha : Fl 64 53 a s K) (hf : fin64 (hvC a) = true) : ∃ n R, Fl 64 53 (hvC a) n R ∧ zv n R = RN (134217729 * zv s K) := by
  have g := fin_mul kc_fl ha hf
  refine ⟨_, _, g, ?_⟩
  rw [kc_val, dOf64, Nat.mul_right_comm, Bool.false_xor]
  refine zv_rnd (by rw [Int.natAbs_mul, natAbs_zv]; rfl) (fun h => ?_) (Nat.two_pow_pos _)
  have hz : zv s K ≠ 0 := fun c => h (by rw [c, Int.mul_zero])
  refine (zv_sign hz).trans ?_
  rw [decide_eq_decide]
  generalize zv s K = q
  exact ⟨fun _ => by omega, fun _ => by omega⟩
theorem hv_of {a : Int} {s : Bool} {K : Nat} (ha : Fl 64 53 a s K) (hf : (hvs a).all fin64 = true) :
    ∃ n R n' R', Fl 64 53 (hvH a) n R ∧ Fl 64 53 (hvL a) n' R' ∧ zv n R + zv n' R' = zv s K ∧ (∃ η : Int, zv n R = η * ((2 ^ (blen (zv s K).natAbs - 26) : Nat) : Int) ∧ η.natAbs ≤ 2 ^ 26) ∧ (∃ μ : Int, zv n' R' = μ * ((2 ^ (blen (zv s K).natAbs - 53) : Nat) : Int)) ∧ 2 ^ 27 * (zv n' R').natAbs ≤ 2 ^ blen (zv s K).natAbs := by
  unfold hvs at hf
  simp only [List.all_cons, List.all_nil, Bool.and_eq_true, Bool.and_true] at hf
  obtain ⟨f1, f2, f3, f4⟩ := hf
  obtain ⟨_, _, h1, e1⟩ := hvC_at ha f1
  obtain ⟨_, _, h2, e2⟩ := fin_sub h1 ha f2
  obtain ⟨_, _, h3, e3⟩ := fin_sub h1 h2 f3
  obtain ⟨_, _, h4, e4⟩ := fin_sub ha h3 f4
  exact ⟨_, _, _, _, h3, h4, split_any (zv_rep s K) e1 e2 e3 e4⟩
theorem hv_small {a : Int} {s : Bool} {K n : Nat} (ha : Fl 64 53 a s K) (hn : 52 ≤ n) (h2 : n + 40 ≤ 2000) (ba : (zv s K).natAbs ≤ 2 ^ n) :
    (hvs a).all fin64 = true ∧ ∃ m R m' R', Fl 64 53 (hvH a) m R ∧ (zv m R).natAbs ≤ 2 ^ (n + 32) ∧ Fl 64 53 (hvL a) m' R' ∧ (zv m' R').natAbs ≤ 2 ^ (n + 33) := by
  have kb : (zv false 4728779608772575232).natAbs ≤ 2 ^ (28 + De) := by
    rw [kc_zv, Int.natAbs_natCast, Nat.pow_add]
    exact Nat.mul_le_mul_right _ (by decide)
  obtain ⟨_, _, h1, e1⟩ := small_mul kc_fl ha kb ba (r := n + 28) (by omega) (by omega) (by omega)
  obtain ⟨_, _, h2, e2⟩ := small_sub h1 ha (n := n + 28) (by omega) (by omega) e1 (le_up ba (by omega))
  obtain ⟨_, _, h3, e3⟩ := small_sub h1 h2 (n := n + 29) (by omega) (by omega) (le_up e1 (by omega)) e2
  obtain ⟨_, _, h4, e4⟩ := small_sub ha h3 (n := n + 30) (by omega) (by omega) (le_up ba (by omega)) e3
  refine ⟨?_, _, _, _, _, h3, le_up e3 (by omega), h4, le_up e4 (by omega)⟩
  unfold hvs
  simp only [List.all_cons, List.all_nil, Bool.and_eq_true, Bool.and_true]
  exact ⟨fin_of h1, fin_of h2, fin_of h3, fin_of h4⟩
theorem four (x0 x1 x2 x3 : Int) : ((((List.replicate 4 (0 : Int)).set 0 x0).set 1 x1).set 2 x2).set 3 x3 = [x0, x1, x2, x3] := rfl
theorem hv_ev (a : Int) : Ev (fun k => eft_halvesfloat64 k kc a) (if (hvs a).all fin64 then (hvH a, (hvL a, 0)) else (0, (0, 7))) := by
  have g := fin_ev (hvs a) (by simp [hvs])
  refine Ev.congr (fun k => eft_halvesfloat64_eq k kc a) (Ev.bind g ?_)
  cases (hvs a).all fin64 with
  | true => exact Ev.neg (by simp) (Ev.some _)
  | false => exact Ev.pos rfl (Ev.some _)
/-- The program's halves of a pattern. -/
theorem Split_ev {a : Nat} (ha : a < 2 ^ 64) (hf : fin64 (a : Int) = true) (hh : (hvs (a : Int)).all fin64 = true) : Ev (fun k => eft_Split k 3 (a : Int)) (hvH (a : Int), (hvL (a : Int), 0)) := by
  have g := ref_ev [(a : Int)] (by simp)
  have eo : ([(a : Int)].all fun x => fin64 (fOf x)) = fin64 (a : Int) := by simp only [List.all_cons, List.all_nil, Bool.and_true, fOf_nat]
  rw [eo, hf] at g
  have d1 : Ev (fun k => eft_double k (a : Int)) (a : Int) := Ev.eq (Ev.of fun k => eft_double_eq k _) (fOf_nat a)
  have g2 := hv_ev (a : Int)
  rw [hh] at g2
  obtain ⟨n, R, n', R', h1, h2, -⟩ := hv_of (fl_fin ha hf) hh
  exact Ev.congr (fun k => eft_Split_eq k 3 (a : Int)) (Ev.bind g (Ev.neg (by decide) (Ev.neg (by decide) (Ev.bind d1 (Ev.bind g2 (Ev.bind (Ev.of fun k => doubles_ev (h1.pat d64).2.2.2 (h2.pat d64).2.2.2 k) (Ev.some _)))))))

/-! ### Products -/
def tpP (a b : Int) : Int := fArith .mul .f64 a b
def tpG (a b : Int) : Int := fArith .mul .f64 (hvH a) (hvH b)
def tpHj (a b : Int) : Int := fArith .mul .f64 (hvH a) (hvL b)
def tpLi (a b : Int) : Int := fArith .mul .f64 (hvL a) (hvH b)
def tpLj (a b : Int) : Int := fArith .mul .f64 (hvL a) (hvL b)
def tpW (a b : Int) : Int := fArith .sub .f64 (tpG a b) (tpP a b)
def tpX (a b : Int) : Int := fArith .add .f64 (tpW a b) (tpHj a b)
def tpY (a b : Int) : Int := fArith .add .f64 (tpX a b) (tpLi a b)
def tpR (a b : Int) : Int := fArith .add .f64 (tpY a b) (tpLj a b)
def tpL (a b : Int) : List Int := [tpP a b, tpG a b, tpHj a b, tpLi a b, tpLj a b, tpW a b, tpX a b, tpY a b, tpR a b]

/-- A long quotient by a power of two is rounded as its numerator. -/
theorem rnd_deep {A D : Nat} (s : Bool) (h : 2 ^ (52 + D) ≤ A) : plV 53 (rnd 53 0 s A (2 ^ D)) * 2 ^ D = plV 53 (rnd 53 0 s A 1) := by
  have hp := Nat.two_pow_pos D
  have h1 : shf 53 A 1 = shf 53 A (2 ^ D) + D := by
    have hA : D + 52 < blen A := by
      rcases Nat.lt_or_ge (D + 52) (blen A) with g | g
      · exact g
      · have := blen_le_iff.1 g
        rw [Nat.add_comm D 52] at this; omega
    unfold shf
    rw [Nat.div_one, blen_shr]; omega
  have f1 := shf_facts (P := 53) (A := A) (B := 2 ^ D) (by decide) hp
  have f2 := shf_facts (P := 53) (A := A) (B := 1) (by decide) (by decide)
  have e : 1 * 2 ^ shf 53 A 1 = 2 ^ D * 2 ^ shf 53 A (2 ^ D) := by rw [h1, Nat.one_mul, Nat.add_comm, Nat.pow_add]
  have hc : cutN 0 s A (1 * 2 ^ shf 53 A 1) = cutN 0 s A (2 ^ D * 2 ^ shf 53 A (2 ^ D)) := by rw [e]
  have hle : cutN 0 s A (2 ^ D * 2 ^ shf 53 A (2 ^ D)) ≤ 2 ^ 53 := by
    have := chs_le 0 s (A / (2 ^ D * 2 ^ shf 53 A (2 ^ D))) (lft (A % (2 ^ D * 2 ^ shf 53 A (2 ^ D))) (2 ^ D * 2 ^ shf 53 A (2 ^ D)))
    unfold cutN; omega
  have hge : shf 53 A (2 ^ D) = 0 ∨ 2 ^ (53 - 1) ≤ cutN 0 s A (2 ^ D * 2 ^ shf 53 A (2 ^ D)) := by
    have := chs_ge 0 s (A / (2 ^ D * 2 ^ shf 53 A (2 ^ D))) (lft (A % (2 ^ D * 2 ^ shf 53 A (2 ^ D))) (2 ^ D * 2 ^ shf 53 A (2 ^ D)))
    rcases f1.2 with g | g
    · exact .inl g
    · exact .inr (Nat.le_trans g this)
  have hge2 : shf 53 A 1 = 0 ∨ 2 ^ (53 - 1) ≤ cutN 0 s A (2 ^ D * 2 ^ shf 53 A (2 ^ D)) := by
    have := chs_ge 0 s (A / (1 * 2 ^ shf 53 A 1)) (lft (A % (1 * 2 ^ shf 53 A 1)) (1 * 2 ^ shf 53 A 1))
    rcases f2.2 with g | g
    · exact .inl g
    · refine .inr (Nat.le_trans g ?_)
      rw [← hc]; exact this
  unfold rnd
  rw [plV_at (by decide) hge hle, hc, plV_at (by decide) hge2 hle, h1, Nat.pow_add, Nat.mul_assoc]

theorem xor_sign {s t : Bool} {K J : Nat} (h : zv s K * zv t J ≠ 0) : (s ^^ t) = decide (zv s K * zv t J < 0) := by
  have z1 : zv s K ≠ 0 := fun c => h (by rw [c, Int.zero_mul])
  have z2 : zv t J ≠ 0 := fun c => h (by rw [c, Int.mul_zero])
  have a1 := zv_sign z1
  have a2 := zv_sign z2
  generalize zv s K = A at *
  generalize zv t J = B at *
  rcases Int.lt_or_le A 0 with c1 | c1 <;> rcases Int.lt_or_le B 0 with c2 | c2
  · rw [a1, a2, decide_eq_true c1, decide_eq_true c2]
    have := Int.mul_pos_of_neg_of_neg c1 c2
    exact (decide_eq_false (by omega)).symm
  · rw [a1, a2, decide_eq_true c1, decide_eq_false (by omega)]
    have := Int.mul_neg_of_neg_of_pos c1 (show 0 < B by omega)
    exact (decide_eq_true this).symm
  · rw [a1, a2, decide_eq_false (by omega), decide_eq_true c2]
    have := Int.mul_neg_of_pos_of_neg (show 0 < A by omega) c2
    exact (decide_eq_true this).symm
  · rw [a1, a2, decide_eq_false (by omega), decide_eq_false (by omega)]
    have := Int.mul_nonneg c1 c2
    exact (decide_eq_false (by omega)).symm
/-- The same number of units, in smaller units: a product that is a float. -/
theorem mul_same {x y : Int} {s t : Bool} {K J : Nat} (hx : Fl 64 53 x s K) (hy : Fl 64 53 y t J) (hf : fin64 (fArith .mul .f64 x y) = true) {γ : Nat} (hg : De ≤ γ) (hr : Rep (zv s K * zv t J)) (hm : ∃ c : Int, zv s K * zv t J = c * ((2 ^ γ : Nat) : Int)) :
    ∃ n R, Fl 64 53 (fArith .mul .f64 x y) n R ∧ zv n R * ((2 ^ De : Nat) : Int) = zv s K * zv t J := by
  have g := fin_mul hx hy hf
  obtain ⟨c, hc⟩ := hm
  obtain ⟨d, hd⟩ := mult_down hg hc
  refine ⟨_, _, g, ?_⟩
  have hN : plV 53 K * plV 53 J = d.natAbs * 2 ^ De := by
    rw [← natAbs_zv s K, ← natAbs_zv t J, ← Int.natAbs_mul, hd, Int.natAbs_mul, Int.natAbs_natCast]
  have hdr : Rep d := by rw [hd] at hr; exact hr.descend
  have hsgn : d ≠ 0 → (s ^^ t) = decide (d < 0) := by
    intro h0
    have hp := Nat.two_pow_pos De
    have hT0 : (0 : Int) < ((2 ^ De : Nat) : Int) := by omega
    have hn0 : zv s K * zv t J ≠ 0 := by rw [hd]; exact Int.mul_ne_zero h0 (by omega)
    have hdd : (d < 0) ↔ (zv s K * zv t J < 0) := by
      rw [hd]
      generalize ((2 ^ De : Nat) : Int) = T at *
      have hT : 0 < T := hT0
      constructor
      · intro h; exact Int.mul_neg_of_neg_of_pos h hT
      · intro h
        rcases Int.lt_or_le d 0 with c | c
        · exact c
        · have := Int.mul_nonneg c (Int.le_of_lt hT); omega
    rw [decide_eq_decide.2 hdd]
    exact xor_sign hn0
  rw [hN, dOf64, zv_rnd rfl hsgn (Nat.two_pow_pos _), RN_of hdr, hd]
/-- The nearest float of a long product. -/
theorem mul_long {x y : Int} {s t : Bool} {K J : Nat} (hx : Fl 64 53 x s K) (hy : Fl 64 53 y t J) (hf : fin64 (fArith .mul .f64 x y) = true) (hl : 2 ^ (52 + De) ≤ (zv s K * zv t J).natAbs) :
    ∃ n R, Fl 64 53 (fArith .mul .f64 x y) n R ∧ zv n R * ((2 ^ De : Nat) : Int) = RN (zv s K * zv t J) := by
  have g := fin_mul hx hy hf
  refine ⟨_, _, g, ?_⟩
  have hp := Nat.two_pow_pos (52 + De)
  have hN : plV 53 K * plV 53 J = (zv s K * zv t J).natAbs := by rw [Int.natAbs_mul, natAbs_zv, natAbs_zv]
  rw [hN, dOf64]
  have hd := rnd_deep (A := (zv s K * zv t J).natAbs) (D := De) (s ^^ t) hl
  show sval _ _ * _ = _
  rw [← sval_mul, hd]
  exact RN_sval (fun h => xor_sign h)
end Go.Proofs.Ytmoeaeflljpboaa.X
