/- Plain law: patterns by their sign and their place among those without a sign: Class, Fields, Value. Conditions: the format is one of the four, the pattern is of its width. -/
import Derived.Test.YtmoeaeflljpboaaDoorFmB
import Derived.Test.YtmoeaeflljpboaaDoorFmC
import Derived.Test.YtmoeaeflljpboaaDoorRndA
import Derived.Test.YtmoeaeflljpboaaDoorRoC
namespace Go.Proofs.YtmoeaeflljpboaaDoor.X
open Go Go.Rex
set_option linter.unusedVariables false

/-- A pattern's place among those without a sign; its sign. -/
def pk (W a : Nat) : Nat := a % 2 ^ (W - 1)
def ps (W a : Nat) : Bool := decide (2 ^ (W - 1) ≤ a)
theorem tz_mul_pow {n : Nat} (h : n ≠ 0) (q : Nat) : tz (n * 2 ^ q) = tz n + q ∧ oddN (n * 2 ^ q) = oddN n := by
  obtain ⟨m, hm⟩ := tz_spec h
  have e1 : n * 2 ^ q = 2 ^ (tz n + q) * (2 * m + 1) := by
    conv => lhs; rw [hm]
    rw [Nat.pow_add]; grind
  have e2 : tz (n * 2 ^ q) = tz n + q := by rw [e1, tz_eq]
  refine ⟨e2, ?_⟩
  unfold oddN
  rw [e2, Nat.add_comm, Nat.pow_add, ← Nat.div_div_eq_div_mul, Nat.mul_div_cancel _ (Nat.two_pow_pos q)]
theorem plV_pat {P : Nat} (hP : 1 ≤ P) (k : Nat) : fN P (k / 2 ^ (P - 1)) (k % 2 ^ (P - 1)) * 2 ^ fQ (k / 2 ^ (P - 1)) = plV P k := by
  have hp := Nat.two_pow_pos (P - 1)
  have h2 := pow_half hP
  have hd := Nat.div_add_mod k (2 ^ (P - 1))
  have hm := Nat.mod_lt k hp
  unfold fN fQ plV
  by_cases c0 : k / 2 ^ (P - 1) = 0
  · rw [c0, Nat.mul_zero] at hd
    rw [if_pos c0, if_pos c0, if_pos (by omega), Nat.pow_zero]; omega
  · rw [if_neg c0, if_neg c0]
    by_cases c1 : k / 2 ^ (P - 1) = 1
    · rw [c1] at hd
      rw [if_pos (by omega), c1, Nat.sub_self, Nat.pow_zero]; omega
    · have h3 := Nat.mul_le_mul_left (2 ^ (P - 1)) (show 2 ≤ k / 2 ^ (P - 1) by have := Nat.zero_le (k / 2 ^ (P - 1)); omega)
      rw [if_neg (by omega), Nat.add_comm]
theorem plV_zero {P : Nat} (hP : 1 ≤ P) {k : Nat} : plV P k = 0 ↔ k = 0 := by
  have h0 : plV P 0 = 0 := by unfold plV; rw [if_pos (Nat.two_pow_pos P)]
  constructor
  · intro g; exact plV_inj hP (by rw [g, h0])
  · rintro rfl; exact h0
/-- A pattern's class. -/
def clsOf (W P k : Nat) (neg : Bool) : Int :=
  if infP W P + 2 ^ (P - 2) ≤ k then 1 else if infP W P < k then 0
  else if neg then (if k = infP W P then 2 else if k = 0 then 5 else if k < 2 ^ (P - 1) then 4 else 3)
  else (if k = infP W P then 9 else if k = 0 then 6 else if k < 2 ^ (P - 1) then 7 else 8)
section
variable {f : Int} {W P : Nat} {em ex : Int} (h : Fm f W P em ex) {a : Nat} (ha : a < 2 ^ W)
include h ha
theorem pat_parts : a / 2 ^ (P - 1) % 2 ^ (W - P) = pk W a / 2 ^ (P - 1) ∧ a % 2 ^ (P - 1) = pk W a % 2 ^ (P - 1) ∧ ((((a / 2 ^ (W - 1) : Nat) : Int) != 0) = ps W a) ∧ a = pk W a + sgB (ps W a) W ∧ pk W a < 2 ^ (W - 1) ∧ a < 18446744073709551616 := by
  have h2 := h.p8; have h3 := h.wp
  obtain ⟨w1, w2, w3, w4⟩ := wW h
  have hp := Nat.two_pow_pos (W - 1)
  have hpw : 2 ^ (W - 1) = 2 ^ (P - 1) * 2 ^ (W - P) := by rw [← Nat.pow_add]; congr 1; omega
  have hm := Nat.mod_lt a hp
  have hd := Nat.div_add_mod a (2 ^ (W - 1))
  refine ⟨?_, ?_, ?_, ?_, hm, by omega⟩
  · unfold pk; rw [hpw, Nat.mod_mul_right_div_self]
  · unfold pk; rw [Nat.mod_mod_of_dvd _ ⟨2 ^ (W - P), hpw⟩]
  · unfold ps
    by_cases c : 2 ^ (W - 1) ≤ a
    · rw [decide_eq_true c]
      have := Nat.div_pos c hp
      exact nT (by omega)
    · rw [decide_eq_false c, Nat.div_eq_of_lt (by omega)]; rfl
  · unfold pk ps sgB
    by_cases c : 2 ^ (W - 1) ≤ a
    · rw [decide_eq_true c, if_pos rfl]
      have : a / 2 ^ (W - 1) = 1 := by
        refine Nat.le_antisymm ?_ (Nat.div_pos c hp)
        have : a / 2 ^ (W - 1) < 2 := by rw [Nat.div_lt_iff_lt_mul hp]; omega
        omega
      rw [this] at hd; omega
    · rw [decide_eq_false c, if_neg (by simp), Nat.mod_eq_of_lt (by omega)]; rfl
theorem field_top : (pk W a / 2 ^ (P - 1) = eTop W P ↔ infP W P ≤ pk W a) ∧ pk W a / 2 ^ (P - 1) < 2 ^ (W - P) ∧ (infP W P ≤ pk W a → pk W a = infP W P + pk W a % 2 ^ (P - 1)) := by
  obtain ⟨p1, p2, p3, p4, p5, p6⟩ := pat_parts h ha
  have h2 := h.p8; have h3 := h.wp
  have hp := Nat.two_pow_pos (P - 1)
  have hpw : 2 ^ (W - 1) = 2 ^ (P - 1) * 2 ^ (W - P) := by rw [← Nat.pow_add]; congr 1; omega
  have hlt : pk W a / 2 ^ (P - 1) < 2 ^ (W - P) := by rw [Nat.div_lt_iff_lt_mul hp, Nat.mul_comm, ← hpw]; exact p5
  have hiff : pk W a / 2 ^ (P - 1) = eTop W P ↔ infP W P ≤ pk W a := by
    unfold infP
    rw [← Nat.le_div_iff_mul_le hp]
    have := eTop_lt W P
    have : eTop W P + 1 = 2 ^ (W - P) := by unfold eTop; omega
    omega
  refine ⟨hiff, hlt, fun g => ?_⟩
  have e := hiff.2 g
  have hd := Nat.div_add_mod (pk W a) (2 ^ (P - 1))
  rw [e] at hd
  unfold infP
  rw [Nat.mul_comm]; omega
theorem split_pk (k : Nat) (x y : Int) : format_split k (W : Int) (P : Int) x y (a : Int) = some (ps W a, (((pk W a / 2 ^ (P - 1) : Nat) : Int), ((pk W a % 2 ^ (P - 1) : Nat) : Int))) := by
  obtain ⟨p1, p2, p3, p4, p5, p6⟩ := pat_parts h ha
  rw [split_at h k a p6, p1, p2, p3]
theorem class_pk (k : Nat) : format_Class k f (a : Int) = some (clsOf W P (pk W a) (ps W a), (0 : Int)) := by
  obtain ⟨p1, p2, p3, p4, p5, p6⟩ := pat_parts h ha
  obtain ⟨f1, f2, f3⟩ := field_top h ha
  have h2 := h.p8
  have h5 := h.p53
  have := h.f0; have := h.f4
  have hp := Nat.two_pow_pos (P - 1)
  have hlt := Nat.mod_lt (pk W a) hp
  have hq : 2 ^ (P - 1) = 2 * 2 ^ (P - 2) := by rw [show P - 1 = (P - 2) + 1 by omega, Nat.pow_succ, Nat.mul_comm]
  have hq0 := Nat.two_pow_pos (P - 2)
  have hip : 2 ^ (P - 1) ≤ infP W P := by
    have := (eTop_le h).2
    exact Nat.le_mul_of_pos_left _ (by omega)
  have hdm := Nat.div_add_mod (pk W a) (2 ^ (P - 1))
  have e2 : IntKind.i64.wrap ((P : Int) - 2) = ((P - 2 : Nat) : Int) := by rw [wrapI (by omega) (by omega)]; omega
  -- the sign at the end
  have j1 : ∀ (c : Int) (d : Int), 6 ≤ c → c ≤ 9 → d = (if ps W a then 11 - c else c) → format_Class.j1 k (ps W a) c = some (d, (0 : Int)) := by
    intro c d c1 c2 hd
    rw [format_Class.j1_eq, hd]
    cases ps W a
    · rw [if_neg (by simp), if_neg (by simp)]
    · rw [if_pos rfl, if_pos rfl, wrapI (by omega) (by omega)]
  have zeroE : (((pk W a / 2 ^ (P - 1) : Nat) : Int) == 0) = decide (pk W a < 2 ^ (P - 1)) := by
    by_cases c : pk W a < 2 ^ (P - 1)
    · rw [decide_eq_true c, Nat.div_eq_of_lt c]; rfl
    · rw [decide_eq_false c]
      have := Nat.div_pos (Nat.le_of_not_lt c) hp
      exact beq_eq_false_iff_ne.2 (by omega)
  have zeroF : (((pk W a % 2 ^ (P - 1) : Nat) : Int) == 0) = decide (pk W a % 2 ^ (P - 1) = 0) := by
    by_cases c : pk W a % 2 ^ (P - 1) = 0
    · rw [decide_eq_true c, c]; rfl
    · rw [decide_eq_false c]; exact beq_eq_false_iff_ne.2 (by omega)
  have topE : (((pk W a / 2 ^ (P - 1) : Nat) : Int) == ((eTop W P : Nat) : Int)) = decide (infP W P ≤ pk W a) := by
    by_cases c : infP W P ≤ pk W a
    · rw [decide_eq_true c, f1.2 c]; exact beq_self_eq_true _
    · rw [decide_eq_false c]; exact beq_eq_false_iff_ne.2 (fun e => c (f1.1 (Int.natCast_inj.1 e)))
  rw [format_Class_eq, check_at h k a p6, if_pos ha, Option.bind_some, if_neg (nF rfl), if_pos ⟨by omega, by omega⟩, h.row]
  show ((format_split k (W : Int) (P : Int) em ex (a : Int))).bind (fun o1 => ((format_ones k (IntKind.i64.wrap ((W : Int) - (P : Int))))).bind fun o2 => (if (o1.2.1 == o2) = true then format_Class.j0 k o1.1 o1.2.1 o1.2.2 8 (o1.2.2 == 0) (W : Int) (P : Int) em ex else format_Class.j0 k o1.1 o1.2.1 o1.2.2 8 false (W : Int) (P : Int) em ex)) = _
  rw [split_pk h ha, Option.bind_some, ones_e h, Option.bind_some]
  show (if (((pk W a / 2 ^ (P - 1) : Nat) : Int) == ((eTop W P : Nat) : Int)) = true then format_Class.j0 k (ps W a) ((pk W a / 2 ^ (P - 1) : Nat) : Int) ((pk W a % 2 ^ (P - 1) : Nat) : Int) 8 (((pk W a % 2 ^ (P - 1) : Nat) : Int) == 0) (W : Int) (P : Int) em ex else format_Class.j0 k (ps W a) ((pk W a / 2 ^ (P - 1) : Nat) : Int) ((pk W a % 2 ^ (P - 1) : Nat) : Int) 8 false (W : Int) (P : Int) em ex) = _
  rw [topE, zeroF]
  unfold clsOf
  by_cases ct : infP W P ≤ pk W a
  · have hk := f3 ct
    rw [if_pos (decide_eq_true ct), format_Class.j0_eq]
    by_cases cf : pk W a % 2 ^ (P - 1) = 0
    · rw [if_pos (decide_eq_true cf), if_neg (by omega), if_neg (by omega)]
      have hk2 : pk W a = infP W P := by omega
      refine j1 9 _ (by omega) (by omega) ?_
      cases ps W a
      · rw [if_neg (by simp), if_pos hk2, if_neg (by simp)]
      · rw [if_pos rfl, if_pos hk2, if_pos rfl]; rfl
    · rw [if_neg (by simp [cf]), ones_e h, Option.bind_some, topE, if_pos (decide_eq_true ct), e2, if_pos (by omega), shrK_nat _ _ (by omega), format_Class.j2_eq]
      by_cases cq : 2 ^ (P - 2) ≤ pk W a % 2 ^ (P - 1)
      · have := Nat.div_pos cq hq0
        rw [if_pos (nT (by omega)), if_pos (by omega)]
      · rw [Nat.div_eq_of_lt (by omega), if_neg (show ¬ ((((0 : Nat) : Int) != 0) = true) by decide), ones_e h, Option.bind_some, topE, if_pos (decide_eq_true ct), if_neg (by omega), if_pos (by omega)]
  · rw [if_neg (by simp [ct]), format_Class.j0_eq, if_neg (by simp), ones_e h, Option.bind_some, topE, if_neg (by simp [ct]), format_Class.j2_eq, if_neg (by simp), ones_e h, Option.bind_some, topE, if_neg (by simp [ct]), zeroE, zeroF, if_neg (show ¬ (infP W P + 2 ^ (P - 2) ≤ pk W a) by omega), if_neg (show ¬ (infP W P < pk W a) by omega)]
    have hne : ¬ (pk W a = infP W P) := by omega
    by_cases cs : pk W a < 2 ^ (P - 1)
    · rw [if_pos (decide_eq_true cs)]
      have hF : pk W a % 2 ^ (P - 1) = pk W a := Nat.mod_eq_of_lt cs
      by_cases c0 : pk W a = 0
      · rw [if_pos (decide_eq_true (by rw [hF]; exact c0))]
        refine j1 6 _ (by omega) (by omega) ?_
        cases ps W a
        · rw [if_neg (by simp), if_neg hne, if_pos c0, if_neg (by simp)]
        · rw [if_pos rfl, if_neg hne, if_pos c0, if_pos rfl]; rfl
      · rw [if_neg (by rw [hF]; simp [c0]), if_pos (decide_eq_true cs)]
        refine j1 7 _ (by omega) (by omega) ?_
        cases ps W a
        · rw [if_neg (by simp), if_neg hne, if_neg c0, if_pos cs, if_neg (by simp)]
        · rw [if_pos rfl, if_neg hne, if_neg c0, if_pos cs, if_pos rfl]; rfl
    · rw [if_neg (by simp [cs]), if_neg (by simp [cs])]
      have c0 : ¬ (pk W a = 0) := by omega
      refine j1 8 _ (by omega) (by omega) ?_
      cases ps W a
      · rw [if_neg (by simp), if_neg hne, if_neg c0, if_neg cs, if_neg (by simp)]
      · rw [if_pos rfl, if_neg hne, if_neg c0, if_neg cs, if_pos rfl]; rfl
theorem fields_pk (k : Nat) : format_Fields k f (a : Int) = some (ps W a, (((pk W a / 2 ^ (P - 1) : Nat) : Int), (((pk W a % 2 ^ (P - 1) : Nat) : Int), (0 : Int)))) := by
  obtain ⟨p1, p2, p3, p4, p5, p6⟩ := pat_parts h ha
  have := h.f0; have := h.f4
  rw [format_Fields_eq, check_at h k a p6, if_pos ha, Option.bind_some, if_neg (nF rfl), if_pos ⟨by omega, by omega⟩, h.row]
  show ((format_split k (W : Int) (P : Int) em ex (a : Int))).bind (fun o1 => some (o1.1, (o1.2.1, (o1.2.2, (0 : Int))))) = _
  rw [split_pk h ha, Option.bind_some]
end
end Go.Proofs.YtmoeaeflljpboaaDoor.X
