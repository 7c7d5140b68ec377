/- FormatBack, the plain law: Pack of Fields is the pattern; class, sign and value agree. No conditions. -/
import Derived.Test.YtjdmbhdlogbopaaDoorFormatD
import Derived.Test.YtjdmbhdlogbopaaDoorVx18
namespace Go.Proofs.YtjdmbhdlogbopaaDoor.Pure
open Go.RowKit Go.Proofs.YtjdmbhdlogbopaaDoor.V Go.Proofs.YtjdmbhdlogbopaaDoorQ.PrintWords Go.Proofs.YtjdmbhdlogbopaaDoor.L

theorem FormatBack : vernierlaw04_FormatBack.Pure := by
  intro f x hf hx
  obtain ⟨a, rfl, ha⟩ := nat_of_wf hx
  refine Ev.rounds (g := fun k => vernierlaw04_FormatBack.f k f (a : Int)) ?_
  unfold vernierlaw04_FormatBack.f
  refine Ev.bind fixed_ev ?_
  refine ev_pos rfl ?_
  by_cases hr : 0 ≤ f ∧ f < 4
  · obtain ⟨W, P, emin, emax, h⟩ := fmt_cases hr
    have hfi := fields_eq h a ha
    have ck := check_eq h a ha
    by_cases hw : a < 2 ^ W
    · rw [if_pos hw] at hfi
      refine ev_now hfi ?_
      refine ev_pos rfl ?_
      obtain ⟨hE, hF⟩ := fields_le W P a
      have hs := sign_le h a hw
      refine ev_now (pack_eq h _ hE hF) ?_
      refine Ev.bind (class_ev h a ha hw) ?_
      refine ev_now (value_eq h a ha hw) ?_
      refine ev_pos rfl ?_
      refine ev_pos rfl ?_
      have hpk : pk W P (if decide (fS W a ≠ 0) = true then 1 else 0) (fE W P a) (fF P a) = a := by
        have e : (if decide (fS W a ≠ 0) = true then 1 else 0) = fS W a := by
          by_cases hz : fS W a = 0
          · rw [hz]; rfl
          · have : fS W a = 1 := by omega
            rw [this]; rfl
        rw [e]
        exact (apart h a).symm
      refine ev_pos (congrArg (fun n : Nat => (n : Int)) hpk.symm) ?_
      refine ev_some fun k => ?_
      generalize decide (fS W a ≠ 0) = neg
      have hv : (valueOf neg W P (fE W P a) (fF P a) emin).2.2.2 = if fE W P a = 2 ^ (W - P) - 1 then 40 else 0 := by
        unfold valueOf
        by_cases he : fE W P a = 2 ^ (W - P) - 1
        · rw [if_pos he, if_pos he]
        · rw [if_neg he, if_neg he]
          split <;> rfl
      simp only [hv]
      unfold cls
      generalize fE W P a = E
      generalize fF P a = F
      by_cases he : E = 2 ^ (W - P) - 1
      · simp only [if_pos he]
        by_cases h0 : F = 0
        · simp only [if_pos h0]
          cases neg <;> rfl
        · simp only [if_neg h0]
          by_cases hq : F / 2 ^ (P - 2) ≠ 0
          · simp only [if_pos hq]
            rfl
          · simp only [if_neg hq]
            rfl
      · simp only [if_neg he]
        by_cases h1 : E = 0
        · simp only [if_pos h1]
          by_cases h0 : F = 0
          · simp only [if_pos h0]
            cases neg <;> rfl
          · simp only [if_neg h0]
            cases neg <;> rfl
        · simp only [if_neg h1]
          cases neg <;> rfl
    · rw [if_neg hw] at hfi ck
      refine ev_now hfi ?_
      refine ev_neg (by decide) ?_
      refine ev_now ck ?_
      refine ev_pos rfl ?_
      refine ev_pos rfl ?_
      refine ev_pos rfl ?_
      exact ev_some fun k => rfl
  · refine ev_now (a := (false, 0, 0, 2)) (by unfold format_Fields.f; rw [no_check hr]; rfl) ?_
    refine ev_neg (by decide) ?_
    refine ev_now (no_check hr _) ?_
    refine ev_pos rfl ?_
    refine ev_pos rfl ?_
    refine ev_pos rfl ?_
    exact ev_some fun k => rfl
end Go.Proofs.YtjdmbhdlogbopaaDoor.Pure
