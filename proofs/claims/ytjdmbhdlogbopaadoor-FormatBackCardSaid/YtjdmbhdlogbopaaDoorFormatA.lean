/- The formats' rows, fields, classes: what the program's and the references' functions compute. Conditions: the pattern is a word. -/
import Derived.Test.YtjdmbhdlogbopaaDoorL0
import Derived.Test.YtjdmbhdlogbopaaDoorVx1
import Derived.Test.YtjdmbhdlogbopaaDoorVx2
import Derived.Test.YtjdmbhdlogbopaaDoorVx4
namespace Go.Proofs.YtjdmbhdlogbopaaDoor.V
open Go.RowKit Go.Proofs.YtjdmbhdlogbopaaDoorQ.PrintWords Go.Proofs.YtjdmbhdlogbopaaDoor.L
set_option linter.unusedVariables false

/-- f is a format, with these numbers. -/
structure IsFmt (f : Int) (W P : Nat) (emin emax : Int) : Prop where
  at_ : format_rowAt.f f = some ((W : Int), (P : Int), emin, emax)
  row : vernierref04_Row.f f = some ((W : Int), (P : Int), emin, emax, true)
  f0 : 0 ≤ f
  f4 : f < 4
  p8 : 8 ≤ P
  wp : P + 5 ≤ W
  w64 : W ≤ 64
  e1 : 15 ≤ emax
  e2 : emax ≤ 1023
  ones : 2 * emax + 1 = ((2 ^ (W - P) - 1 : Nat) : Int)
theorem fmt_cases {f : Int} (h : 0 ≤ f ∧ f < 4) : ∃ W P emin emax, IsFmt f W P emin emax := by
  have h4 : f = 0 ∨ f = 1 ∨ f = 2 ∨ f = 3 := by omega
  rcases h4 with rfl | rfl | rfl | rfl
  · exact ⟨16, 11, -14, 15, by unfold format_rowAt.f; rw [if_pos ⟨by decide⟩]; rfl, rfl, by decide, by decide, by decide, by decide, by decide, by decide, by decide, by decide⟩
  · exact ⟨16, 8, -126, 127, by unfold format_rowAt.f; rw [if_pos ⟨by decide⟩]; rfl, rfl, by decide, by decide, by decide, by decide, by decide, by decide, by decide, by decide⟩
  · exact ⟨32, 24, -126, 127, by unfold format_rowAt.f; rw [if_pos ⟨by decide⟩]; rfl, rfl, by decide, by decide, by decide, by decide, by decide, by decide, by decide, by decide⟩
  · exact ⟨64, 53, -1022, 1023, by unfold format_rowAt.f; rw [if_pos ⟨by decide⟩]; rfl, rfl, by decide, by decide, by decide, by decide, by decide, by decide, by decide, by decide⟩
theorem no_params {f : Int} (h : ¬ (0 ≤ f ∧ f < 4)) : format_Params.f f = some (0, 0, 0, 0, 2) := by
  unfold format_Params.f
  by_cases h0 : f < 0
  · rw [if_pos h0]
  · rw [if_neg h0, if_pos (by omega)]
theorem no_row {f : Int} (h : ¬ (0 ≤ f ∧ f < 4)) : vernierref04_Row.f f = some (0, 0, 0, 0, false) := by
  unfold vernierref04_Row.f
  rw [if_neg (by omega), if_neg (by omega), if_neg (by omega), if_neg (by omega)]
theorem no_check {f : Int} (h : ¬ (0 ≤ f ∧ f < 4)) (a : Int) : format_Check.f f a = some 2 := by
  unfold format_Check.f
  rw [no_params h]
  rfl
theorem no_rcheck {f : Int} (h : ¬ (0 ≤ f ∧ f < 4)) (a : Int) : vernierref04_Check.f f a = some 2 := by
  unfold vernierref04_Check.f
  rw [no_row h]
  rfl
theorem ones_eq (n : Nat) (h : n < 64) : format_ones.f (n : Int) = some ((2 ^ n - 1 : Nat) : Int) := by
  unfold format_ones.f
  have hp := pow_lt_64 h
  have h0 : 0 < 2 ^ n := Nat.two_pow_pos n
  rw [if_pos (by omega), shl_one n h, wrapu]
  congr 1
  omega
/-- The fields of a pattern. -/
def fS (W a : Nat) : Nat := a / 2 ^ (W - 1)
def fE (W P a : Nat) : Nat := a / 2 ^ (P - 1) % 2 ^ (W - P)
def fF (P a : Nat) : Nat := a % 2 ^ (P - 1)

theorem fields_le (W P a : Nat) : fE W P a < 2 ^ (W - P) ∧ fF P a < 2 ^ (P - 1) := ⟨Nat.mod_lt _ (Nat.two_pow_pos _), Nat.mod_lt _ (Nat.two_pow_pos _)⟩

section
variable {f : Int} {W P : Nat} {emin emax : Int} (h : IsFmt f W P emin emax)
include h
theorem params_eq : format_Params.f f = some ((W : Int), (P : Int), emin, emax, 0) := by
  unfold format_Params.f
  rw [if_neg (by have := h.f0; omega), if_neg (by have := h.f4; omega), h.at_]
  rfl
theorem check_eq (a : Nat) (ha : a < 18446744073709551616) : format_Check.f f (a : Int) = some (if a < 2 ^ W then 0 else 4) := by
  unfold format_Check.f
  rw [params_eq h]
  simp only [Option.bind_some, if_true]
  have hw := h.w64
  by_cases h64 : W = 64
  · rw [if_neg (by omega), if_pos (by rw [h64]; exact ha)]
  · rw [if_pos (by omega), if_pos (by omega), shr_nat a W hw]
    by_cases hlt : a < 2 ^ W
    · rw [if_pos (by rw [Nat.div_eq_of_lt hlt]; rfl), if_pos hlt]
    · have : 1 ≤ a / 2 ^ W := by rw [Nat.le_div_iff_mul_le (Nat.two_pow_pos W)]; omega
      rw [if_neg (by omega), if_neg hlt]
theorem rcheck_eq (a : Nat) (ha : a < 18446744073709551616) : vernierref04_Check.f f (a : Int) = some (if a < 2 ^ W then 0 else 4) := by
  unfold vernierref04_Check.f
  rw [h.row]
  simp only [Option.bind_some, if_true]
  have hw := h.w64
  by_cases h64 : W = 64
  · rw [if_neg (by omega), if_pos (by rw [h64]; exact ha)]
  · rw [if_pos (by omega), wrapu_nat (by omega), if_pos (by omega), shr_nat a W hw]
    by_cases hlt : a < 2 ^ W
    · rw [if_pos (by rw [Nat.div_eq_of_lt hlt]; rfl), if_pos hlt]
    · have : 1 ≤ a / 2 ^ W := by rw [Nat.le_div_iff_mul_le (Nat.two_pow_pos W)]; omega
      rw [if_neg (by omega), if_neg hlt]
theorem subWP : wrap64 ((W : Int) - (P : Int)) = ((W - P : Nat) : Int) := by
  have := h.wp; have := h.w64
  rw [wrap64_id (by omega) (by omega)]; omega
theorem subW1 : wrap64 ((W : Int) - 1) = ((W - 1 : Nat) : Int) := by
  have := h.wp; have := h.w64; have := h.p8
  rw [wrap64_id (by omega) (by omega)]; omega
theorem subP1 : wrap64 ((P : Int) - 1) = ((P - 1 : Nat) : Int) := by
  have := h.wp; have := h.w64; have := h.p8
  rw [wrap64_id (by omega) (by omega)]; omega
theorem subP2 : wrap64 ((P : Int) - 2) = ((P - 2 : Nat) : Int) := by
  have := h.wp; have := h.w64; have := h.p8
  rw [wrap64_id (by omega) (by omega)]; omega
theorem onesWP : format_ones.f (wrap64 ((W : Int) - (P : Int))) = some ((2 ^ (W - P) - 1 : Nat) : Int) := by
  have := h.wp; have := h.w64; have := h.p8
  rw [subWP h]; exact ones_eq _ (by omega)
theorem split_eq (a : Nat) (ha : a < 18446744073709551616) : format_split.f (W : Int) (P : Int) emin emax (a : Int) = some (decide (fS W a ≠ 0), ((fE W P a : Nat) : Int), ((fF P a : Nat) : Int)) := by
  have hwp := h.wp; have hw := h.w64; have hp := h.p8
  unfold format_split.f
  rw [subW1 h, subP1 h, onesWP h, ones_eq (P - 1) (by omega), if_pos (by omega), if_pos (by omega)]
  simp only [Option.bind_some]
  rw [shr_nat a (W - 1) (by omega), shr_nat a (P - 1) (by omega), and_mask _ (W - P) (by omega) (Nat.lt_of_le_of_lt (Nat.div_le_self _ _) ha), and_mask a (P - 1) (by omega) ha]
  unfold fS fE fF
  congr 2
  by_cases hz : a / 2 ^ (W - 1) = 0
  · rw [hz]; rfl
  · rw [decide_eq_true hz, bne_iff_ne]
    omega
theorem ref_ones : IntKind.u64.wrap (wrap64 (wrap64 (2 * emax) + 1)) = ((2 ^ (W - P) - 1 : Nat) : Int) := by
  have e1 := h.e1; have e2 := h.e2
  rw [wrap64_id (x := 2 * emax) (by omega) (by omega), wrap64_id (by omega) (by omega), wrapu_id (by omega) (by omega)]
  exact h.ones
theorem parts_eq (a : Nat) (ha : a < 18446744073709551616) : vernierref04_Parts.f f (a : Int) = some (((fS W a % 2 : Nat) : Int), ((fE W P a : Nat) : Int), ((fF P a : Nat) : Int), ((2 ^ (W - P) - 1 : Nat) : Int)) := by
  have hwp := h.wp; have hw := h.w64; have hp := h.p8
  unfold vernierref04_Parts.f
  rw [h.row]
  simp only [Option.bind_some]
  rw [subW1 h, subP1 h, ref_ones h, wrapu_nat (by omega), wrapu_nat (by omega), if_pos (by omega), if_pos (by omega), shl_one (P - 1) (by omega)]
  have h0 : 0 < 2 ^ (P - 1) := Nat.two_pow_pos _
  rw [if_neg (by omega), shr_nat a (W - 1) (by omega), shr_nat a (P - 1) (by omega), and_mask _ (W - P) (by omega) (Nat.lt_of_le_of_lt (Nat.div_le_self _ _) ha), and_one _ (Nat.lt_of_le_of_lt (Nat.div_le_self _ _) ha)]
  unfold fS fE fF
  rw [Int.tmod_eq_emod_of_nonneg (by omega)]
  simp
theorem sign_le (a : Nat) (ha : a < 2 ^ W) : fS W a ≤ 1 := by
  have hwp := h.wp; have hp := h.p8
  unfold fS
  have : a / 2 ^ (W - 1) < 2 := by
    rw [Nat.div_lt_iff_lt_mul (Nat.two_pow_pos _), ← two_mul_pow, show W - 1 + 1 = W by omega]
    exact ha
  omega
end

/-- The class by the fields: o is the exponent's field all ones, q half of the fraction's places. -/
def cls (neg : Bool) (E F o q : Nat) : Int :=
  if E = o then (if F = 0 then (if neg then 2 else 9) else if F / q ≠ 0 then 1 else 0)
  else if E = 0 then (if F = 0 then (if neg then 5 else 6) else if neg then 4 else 7) else if neg then 3 else 8

section
variable {f : Int} {W P : Nat} {emin emax : Int} (h : IsFmt f W P emin emax)
include h
theorem class_ev (a : Nat) (ha : a < 18446744073709551616) (hw : a < 2 ^ W) : Ev (fun k => format_Class.f k f (a : Int)) (cls (decide (fS W a ≠ 0)) (fE W P a) (fF P a) (2 ^ (W - P) - 1) (2 ^ (P - 2)), 0) := by
  have hwp := h.wp; have hw6 := h.w64; have hp := h.p8
  unfold format_Class.f
  refine ev_now (check_eq h a ha) ?_
  rw [if_pos hw]
  refine ev_pos rfl ?_
  refine ev_now h.at_ ?_
  refine ev_now (split_eq h a ha) ?_
  refine ev_now (onesWP h) ?_
  obtain ⟨hE, hF⟩ := fields_le W P a
  have hF64 : fF P a < 18446744073709551616 := Nat.lt_trans hF (pow_lt_64 (by omega))
  generalize fE W P a = E at *
  generalize fF P a = F at *
  generalize decide (fS W a ≠ 0) = neg at *
  have hov := onesWP h
  have h2 := subP2 h
  have hO : 31 ≤ 2 ^ (W - P) - 1 := by
    have : 2 ^ 5 ≤ 2 ^ (W - P) := Nat.pow_le_pow_right (by decide) (by omega)
    omega
  generalize 2 ^ (W - P) - 1 = o at *
  have j2 : ∀ b : Bool, b = decide (E = 0 ∧ F = 0) → E ≠ o → Ev (fun k => format_Class.j2 k neg (E : Int) 8 b) (cls neg E F o (2 ^ (P - 2)), 0) := by
    intro b hb hne
    refine Ev.step (fun k => by rw [format_Class.j2]) ?_
    unfold cls
    by_cases hz : E = 0 ∧ F = 0
    · refine ev_pos (by rw [hb]; exact decide_eq_true hz) ?_
      by_cases hn : neg = true
      · refine ev_pos hn (ev_some fun k => ?_)
        rw [if_neg hne, if_pos hz.1, if_pos hz.2, if_pos hn]; rfl
      · refine ev_neg hn (ev_some fun k => ?_)
        rw [if_neg hne, if_pos hz.1, if_pos hz.2, if_neg hn]
    · refine ev_neg (by rw [hb, decide_eq_true_eq]; exact hz) ?_
      by_cases he : E = 0
      · refine ev_pos (by omega) ?_
        by_cases hn : neg = true
        · refine ev_pos hn (ev_some fun k => ?_)
          rw [if_neg hne, if_pos he, if_neg (by omega), if_pos hn]; rfl
        · refine ev_neg hn (ev_some fun k => ?_)
          rw [if_neg hne, if_pos he, if_neg (by omega), if_neg hn]
      · refine ev_neg (by omega) ?_
        by_cases hn : neg = true
        · refine ev_pos hn (ev_some fun k => ?_)
          rw [if_neg hne, if_neg he, if_pos hn, show wrap64 (11 - 8) = 3 by unfold wrap64; decide]
        · refine ev_neg hn (ev_some fun k => ?_)
          rw [if_neg hne, if_neg he, if_neg hn]
  have j1 : ∀ b : Bool, b = decide (E = o ∧ F / 2 ^ (P - 2) ≠ 0) → ¬ (E = o ∧ F = 0) → Ev (fun k => format_Class.j1 k neg (E : Int) (F : Int) 8 b (W : Int) (P : Int) emin emax) (cls neg E F o (2 ^ (P - 2)), 0) := by
    intro b hb hne
    refine Ev.step (fun k => by rw [format_Class.j1]) ?_
    by_cases hz : E = o ∧ F / 2 ^ (P - 2) ≠ 0
    · refine ev_pos (by rw [hb]; exact decide_eq_true hz) (ev_some fun k => ?_)
      unfold cls
      rw [if_pos hz.1, if_neg (by omega), if_pos hz.2]
    · refine ev_neg (by rw [hb, decide_eq_true_eq]; exact hz) ?_
      refine ev_now hov ?_
      by_cases he : E = o
      · refine ev_pos (by omega) (ev_some fun k => ?_)
        unfold cls
        rw [if_pos he, if_neg (by omega), if_neg (by intro hq; exact hz ⟨he, hq⟩)]
      · refine ev_neg (by omega) ?_
        by_cases h0 : E = 0
        · refine ev_pos (by omega) (j2 _ ?_ he)
          by_cases hF0 : F = 0
          · rw [hF0, decide_eq_true ⟨h0, rfl⟩]; rfl
          · rw [decide_eq_false (fun hq => hF0 hq.2), beq_eq_false_iff_ne]; omega
        · exact ev_neg (by omega) (j2 _ (by rw [decide_eq_false (fun hq => h0 hq.1)]) he)
  have j0 : ∀ b : Bool, b = decide (E = o ∧ F = 0) → Ev (fun k => format_Class.j0 k neg (E : Int) (F : Int) 8 b (W : Int) (P : Int) emin emax) (cls neg E F o (2 ^ (P - 2)), 0) := by
    intro b hb
    refine Ev.step (fun k => by rw [format_Class.j0]) ?_
    by_cases hz : E = o ∧ F = 0
    · refine ev_pos (by rw [hb]; exact decide_eq_true hz) ?_
      unfold cls
      by_cases hn : neg = true
      · refine ev_pos hn (ev_some fun k => ?_)
        rw [if_pos hz.1, if_pos hz.2, if_pos hn]; rfl
      · refine ev_neg hn (ev_some fun k => ?_)
        rw [if_pos hz.1, if_pos hz.2, if_neg hn]
    · refine ev_neg (by rw [hb, decide_eq_true_eq]; exact hz) ?_
      refine ev_now hov ?_
      by_cases he : E = o
      · refine ev_pos (by omega) ?_
        rw [h2]
        refine ev_pos (by omega) ?_
        refine j1 _ ?_ hz
        rw [shr_nat F (P - 2) (by omega)]
        by_cases hq : F / 2 ^ (P - 2) = 0
        · rw [hq, decide_eq_false (fun hh => hh.2 rfl)]; rfl
        · rw [decide_eq_true ⟨he, hq⟩, bne_iff_ne]; exact fun hh => hq (Int.natCast_eq_zero.1 hh)
      · exact ev_neg (by omega) (j1 _ (by rw [decide_eq_false (fun hq => he hq.1)]) hz)
  by_cases he : E = o
  · refine ev_pos (show (E : Int) = (o : Int) by omega) (j0 _ ?_)
    by_cases hF0 : F = 0
    · rw [hF0, decide_eq_true ⟨he, rfl⟩]; rfl
    · rw [decide_eq_false (fun hq => hF0 hq.2), beq_eq_false_iff_ne]
      show (F : Int) ≠ 0
      omega
  · exact ev_neg (show ¬ (E : Int) = (o : Int) by omega) (j0 _ (by rw [decide_eq_false (fun hq => he hq.1)]))
end
end Go.Proofs.YtjdmbhdlogbopaaDoor.V
