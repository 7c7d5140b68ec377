/- The reference's class, and what the laws' fixed answers come to. Conditions: the pattern is a word. -/
import Derived.Test.YtjdmbhdlogbopaaDoorFormatA
import Derived.Test.YtjdmbhdlogbopaaDoorVx4
import Derived.Test.YtjdmbhdlogbopaaDoorVx5
namespace Go.Proofs.YtjdmbhdlogbopaaDoor.V
open Go.RowKit Go.Proofs.YtjdmbhdlogbopaaDoorQ.PrintWords Go.Proofs.YtjdmbhdlogbopaaDoor.L
set_option linter.unusedVariables false

section
variable {f : Int} {W P : Nat} {emin emax : Int} (h : IsFmt f W P emin emax)
include h
theorem rnan_eq (a : Nat) (ha : a < 18446744073709551616) : vernierref04_IsNaN.f f (a : Int) = some (decide (fE W P a = 2 ^ (W - P) - 1 ∧ fF P a ≠ 0)) := by
  unfold vernierref04_IsNaN.f
  rw [parts_eq h a ha]
  simp only [Option.bind_some]
  by_cases he : fE W P a = 2 ^ (W - P) - 1
  · rw [if_pos (by rw [he])]
    by_cases hF : fF P a = 0
    · rw [hF, decide_eq_false (fun hh => hh.2 rfl)]; rfl
    · rw [decide_eq_true ⟨he, hF⟩]
      congr 1
      rw [bne_iff_ne]
      exact fun hh => hF (Int.natCast_eq_zero.1 hh)
  · rw [if_neg (fun hh => he (Int.ofNat_inj.1 hh)), decide_eq_false (fun hh => he hh.1)]
theorem rsignals_eq (a : Nat) (ha : a < 18446744073709551616) : vernierref04_Signals.f f (a : Int) = some (decide (fE W P a = 2 ^ (W - P) - 1 ∧ fF P a ≠ 0 ∧ fF P a / 2 ^ (P - 2) = 0)) := by
  have hwp := h.wp; have hw := h.w64; have hp := h.p8
  unfold vernierref04_Signals.f
  rw [h.row]
  simp only [Option.bind_some]
  rw [parts_eq h a ha]
  simp only [Option.bind_some]
  rw [rnan_eq h a ha]
  simp only [Option.bind_some]
  by_cases hn : fE W P a = 2 ^ (W - P) - 1 ∧ fF P a ≠ 0
  · rw [if_pos (decide_eq_true hn), subP2 h, wrapu_nat (by omega), if_pos (by omega), shr_nat _ (P - 2) (by omega)]
    by_cases hq : fF P a / 2 ^ (P - 2) = 0
    · rw [hq, decide_eq_true ⟨hn.1, hn.2, rfl⟩]; rfl
    · rw [decide_eq_false (fun hh => hq hh.2.2)]
      congr 1
      rw [beq_eq_false_iff_ne]
      exact fun hh => hq (Int.natCast_eq_zero.1 hh)
  · rw [if_neg (by rw [decide_eq_true_eq]; exact hn), decide_eq_false (fun hh => hn ⟨hh.1, hh.2.1⟩)]
theorem rclass_ev (a : Nat) (ha : a < 18446744073709551616) (hw : a < 2 ^ W) : Ev (fun k => vernierref04_Class.f k f (a : Int)) (cls (decide (fS W a ≠ 0)) (fE W P a) (fF P a) (2 ^ (W - P) - 1) (2 ^ (P - 2))) := by
  have hwp := h.wp; have hw6 := h.w64; have hp := h.p8
  unfold vernierref04_Class.f
  refine ev_now (parts_eq h a ha) ?_
  obtain ⟨hE, hF⟩ := fields_le W P a
  have hs := sign_le h a hw
  have sg := rsignals_eq h a ha
  have hO : 31 ≤ 2 ^ (W - P) - 1 := by
    have : 2 ^ 5 ≤ 2 ^ (W - P) := Nat.pow_le_pow_right (by decide) (by omega)
    omega
  generalize fE W P a = E at *
  generalize fF P a = F at *
  obtain ⟨s, hse⟩ : ∃ s, s = fS W a := ⟨_, rfl⟩
  rw [← hse] at hs ⊢
  clear hse
  generalize 2 ^ (W - P) - 1 = o at *
  have hsm : s % 2 = s := by omega
  rw [hsm]
  have sd : decide (s ≠ 0) = decide ((s : Int) = 1) := by
    by_cases hz : s = 0
    · subst hz; rfl
    · have : s = 1 := by omega
      subst this; rfl
  rw [sd]
  have sgn : ∀ (k : Nat) (x y : Int), (if (s : Int) = 1 then some x else some y) = some (if decide ((s : Int) = 1) = true then x else y) := by
    intro k x y
    by_cases hz : (s : Int) = 1 <;> simp [hz]
  have j1 : ∀ b : Bool, b = decide (E = 0 ∧ F = 0) → E ≠ o → Ev (fun k => vernierref04_Class.j1 k (s : Int) (E : Int) 3 b) (cls (decide ((s : Int) = 1)) E F o (2 ^ (P - 2))) := by
    intro b hb hne
    refine Ev.step (fun k => by rw [vernierref04_Class.j1]) ?_
    unfold cls
    by_cases hz : E = 0 ∧ F = 0
    · refine ev_pos (by rw [hb]; exact decide_eq_true hz) (ev_some fun k => ?_)
      rw [sgn k, if_neg hne, if_pos hz.1, if_pos hz.2]; rfl
    · refine ev_neg (by rw [hb, decide_eq_true_eq]; exact hz) ?_
      by_cases he : E = 0
      · refine ev_pos (by omega) (ev_some fun k => ?_)
        rw [sgn k, if_neg hne, if_pos he, if_neg (show ¬ F = 0 from fun hf => hz ⟨he, hf⟩)]; rfl
      · refine ev_neg (by omega) (ev_some fun k => ?_)
        rw [sgn k, if_neg hne, if_neg he, show wrap64 (9 - wrap64 (3 - 2)) = 8 by unfold wrap64; decide]
  have j0 : ∀ b : Bool, b = decide (E = o ∧ F ≠ 0) → Ev (fun k => vernierref04_Class.j0 k f (a : Int) (s : Int) (E : Int) (F : Int) (o : Int) 3 b) (cls (decide ((s : Int) = 1)) E F o (2 ^ (P - 2))) := by
    intro b hb
    refine Ev.step (fun k => by rw [vernierref04_Class.j0]) ?_
    by_cases hz : E = o ∧ F ≠ 0
    · refine ev_pos (by rw [hb]; exact decide_eq_true hz) ?_
      refine ev_now sg ?_
      unfold cls
      by_cases hq : F / 2 ^ (P - 2) = 0
      · refine ev_pos (decide_eq_true ⟨hz.1, hz.2, hq⟩) (ev_some fun k => ?_)
        rw [if_pos hz.1, if_neg hz.2, if_neg (show ¬ F / 2 ^ (P - 2) ≠ 0 from fun hh => hh hq)]
      · refine ev_neg (by rw [decide_eq_true_eq]; exact fun hh => hq hh.2.2) (ev_some fun k => ?_)
        rw [if_pos hz.1, if_neg hz.2, if_pos hq]
    · refine ev_neg (by rw [hb, decide_eq_true_eq]; exact hz) ?_
      by_cases he : E = o
      · refine ev_pos (by omega) (ev_some fun k => ?_)
        unfold cls
        rw [sgn k, if_pos he, if_pos (show F = 0 from by rcases Nat.eq_zero_or_pos F with h' | h'; exact h'; exact absurd ⟨he, by omega⟩ hz)]; rfl
      · refine ev_neg (by omega) ?_
        by_cases h0 : E = 0
        · refine ev_pos (by omega) (j1 _ ?_ he)
          by_cases hF0 : F = 0
          · rw [hF0, decide_eq_true ⟨h0, rfl⟩]; rfl
          · rw [decide_eq_false (fun hq => hF0 hq.2), beq_eq_false_iff_ne]; omega
        · exact ev_neg (by omega) (j1 _ (by rw [decide_eq_false (fun hq => h0 hq.1)]) he)
  by_cases he : E = o
  · refine ev_pos (show (E : Int) = (o : Int) by omega) (j0 _ ?_)
    by_cases hF0 : F = 0
    · rw [hF0, decide_eq_false (fun hq => hq.2 rfl)]; rfl
    · rw [decide_eq_true ⟨he, hF0⟩, bne_iff_ne]
      show (F : Int) ≠ 0
      omega
  · exact ev_neg (show ¬ (E : Int) = (o : Int) by omega) (j0 _ (by rw [decide_eq_false (fun hq => he hq.1)]))
end
theorem fmt0 : IsFmt 0 16 11 (-14) 15 := ⟨by unfold format_rowAt.f; rw [if_pos ⟨by decide⟩]; rfl, rfl, by decide, by decide, by decide, by decide, by decide, by decide, by decide, by decide⟩
theorem fmt1 : IsFmt 1 16 8 (-126) 127 := ⟨by unfold format_rowAt.f; rw [if_pos ⟨by decide⟩]; rfl, rfl, by decide, by decide, by decide, by decide, by decide, by decide, by decide, by decide⟩
theorem fixed_ev : Ev (fun k => vernierlaw04_fixed.f k) true := by
  unfold vernierlaw04_fixed.f
  have c := class_ev fmt0 64513 (by decide) (by decide)
  rw [show cls (decide (fS 16 64513 ≠ 0)) (fE 16 11 64513) (fF 11 64513) (2 ^ (16 - 11) - 1) (2 ^ (11 - 2)) = 0 by decide] at c
  refine Ev.bind (show Ev (fun k => format_Class.f k 0 64513) _ from c) ?_
  have n : format_NaN.f 1 = some (32704, 0) := by
    unfold format_NaN.f format_special_none_top.f
    rw [params_eq fmt1]
    simp only [Option.bind_some, if_true]
    rw [onesWP fmt1]
    decide +kernel
  refine ev_now n ?_
  exact ev_some fun k => rfl
end Go.Proofs.YtjdmbhdlogbopaaDoor.V
