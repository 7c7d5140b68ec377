/- FormatFields, the plain law: check, class and fields of every pattern are the document's. No conditions. -/
import Derived.Test.YtjdmbhdlogbopaaDoorFormatB
import Derived.Test.YtjdmbhdlogbopaaDoorVx3
import Derived.Test.YtjdmbhdlogbopaaDoorVx6
namespace Go.Proofs.YtjdmbhdlogbopaaDoor.Pure
open Go.RowKit Go.Proofs.YtjdmbhdlogbopaaDoor.V Go.Proofs.YtjdmbhdlogbopaaDoorQ.PrintWords Go.Proofs.YtjdmbhdlogbopaaDoor.L

theorem fields_eq {f : Int} {W P : Nat} {emin emax : Int} (h : IsFmt f W P emin emax) (a : Nat) (ha : a < 18446744073709551616) :
    format_Fields.f f (a : Int) = some (if a < 2 ^ W then (decide (fS W a ≠ 0), ((fE W P a : Nat) : Int), ((fF P a : Nat) : Int), 0) else (false, 0, 0, 4)) := by
  unfold format_Fields.f
  rw [check_eq h a ha]
  simp only [Option.bind_some]
  by_cases hw : a < 2 ^ W
  · rw [if_pos hw, if_pos rfl, if_pos hw, h.at_]
    simp only [Option.bind_some]
    rw [split_eq h a ha]
    rfl
  · rw [if_neg hw, if_neg (by decide), if_neg hw]
theorem FormatFields : vernierlaw04_FormatFields.Pure := by
  intro f a hf ha0
  obtain ⟨a, rfl, ha⟩ := nat_of_wf ha0
  refine Ev.rounds (g := fun k => vernierlaw04_FormatFields.f k f (a : Int)) ?_
  unfold vernierlaw04_FormatFields.f
  by_cases hr : 0 ≤ f ∧ f < 4
  · obtain ⟨W, P, emin, emax, h⟩ := fmt_cases hr
    refine ev_now (check_eq h a ha) ?_
    refine ev_now (rcheck_eq h a ha) ?_
    by_cases hw : a < 2 ^ W
    · refine Ev.bind (class_ev h a ha hw) ?_
      refine ev_now (fields_eq h a ha) ?_
      refine Ev.bind fixed_ev ?_
      rw [if_pos hw, if_pos hw]
      refine ev_pos rfl ?_
      refine ev_pos rfl ?_
      refine ev_pos rfl ?_
      refine ev_pos rfl ?_
      refine ev_pos rfl ?_
      refine ev_now (parts_eq h a ha) ?_
      refine Ev.bind (rclass_ev h a ha hw) ?_
      refine ev_pos rfl ?_
      have hs := sign_le h a hw
      have hb : vernierlaw04_bit.f (decide (fS W a ≠ 0)) = some ((fS W a % 2 : Nat) : Int) := by
        unfold vernierlaw04_bit.f
        by_cases hz : fS W a = 0
        · rw [hz]; rfl
        · have : fS W a = 1 := by omega
          rw [this]; rfl
      refine ev_now hb ?_
      refine ev_pos rfl ?_
      refine ev_pos rfl ?_
      exact ev_some fun k => by simp
    · refine Ev.bind (a := (0, 4)) (ev_some fun k => by unfold format_Class.f; rw [check_eq h a ha, if_neg hw]; rfl) ?_
      refine ev_now (fields_eq h a ha) ?_
      refine Ev.bind fixed_ev ?_
      rw [if_neg hw, if_neg hw]
      refine ev_pos rfl ?_
      refine ev_pos rfl ?_
      refine ev_pos rfl ?_
      refine ev_pos rfl ?_
      refine ev_neg (by decide) ?_
      refine ev_pos rfl ?_
      refine ev_neg (by decide) ?_
      refine ev_pos rfl ?_
      exact ev_some fun k => rfl
  · refine ev_now (no_check hr _) ?_
    refine ev_now (no_rcheck hr _) ?_
    refine Ev.bind (a := (0, 2)) (ev_some fun k => by unfold format_Class.f; rw [no_check hr]; rfl) ?_
    refine ev_now (a := (false, 0, 0, 2)) (by unfold format_Fields.f; rw [no_check hr]; rfl) ?_
    refine Ev.bind fixed_ev ?_
    refine ev_pos rfl ?_
    refine ev_pos rfl ?_
    refine ev_pos rfl ?_
    refine ev_pos rfl ?_
    refine ev_neg (by decide) ?_
    refine ev_pos rfl ?_
    refine ev_neg (by decide) ?_
    refine ev_pos rfl ?_
    exact ev_some fun k => rfl
end Go.Proofs.YtjdmbhdlogbopaaDoor.Pure
