/- FormatParams, the plain law: the rows and the special patterns of every format. No conditions. -/
import Derived.Test.YtjdmbhdlogbopaaDoorFormatB
import Derived.Test.YtjdmbhdlogbopaaDoorVx10
import Derived.Test.YtjdmbhdlogbopaaDoorVx11
import Derived.Test.YtjdmbhdlogbopaaDoorVx12
import Derived.Test.YtjdmbhdlogbopaaDoorVx7
import Derived.Test.YtjdmbhdlogbopaaDoorVx8
import Derived.Test.YtjdmbhdlogbopaaDoorVx9
namespace Go.Proofs.YtjdmbhdlogbopaaDoor.Pure
open Go.RowKit Go.Proofs.YtjdmbhdlogbopaaDoor.V Go.Proofs.YtjdmbhdlogbopaaDoorQ.PrintWords Go.Proofs.YtjdmbhdlogbopaaDoor.L

theorem fmt2 : IsFmt 2 32 24 (-126) 127 := ⟨by unfold format_rowAt.f; rw [if_pos ⟨by decide⟩]; rfl, rfl, by decide, by decide, by decide, by decide, by decide, by decide, by decide, by decide⟩
theorem fmt3 : IsFmt 3 64 53 (-1022) 1023 := ⟨by unfold format_rowAt.f; rw [if_pos ⟨by decide⟩]; rfl, rfl, by decide, by decide, by decide, by decide, by decide, by decide, by decide, by decide⟩
theorem params_of {f : Int} {W P : Nat} {emin emax : Int} (h : IsFmt f W P emin emax) (neg : Bool)
    (ends : vernierlaw04_ends.f f neg = some true)
    (tail : (format_NaN.f f).bind (fun bt335 => ((format_Infinity.f f neg).bind fun bt337 => ((format_Zero.f f neg).bind fun bt339 => ((vernierlaw04_bit.f neg).bind fun t341 => ((vernierref04_NaN.f f).bind fun t342 => ((vernierlaw04_pattern.f bt335.1 bt335.2 t342 true).bind fun t343 => (if t343 = true then ((vernierref04_Inf.f f t341).bind fun t344 => ((vernierlaw04_pattern.f bt337.1 bt337.2 t344 true).bind fun t345 => (if t345 = true then ((vernierref04_Zero.f f t341).bind fun t346 => ((vernierlaw04_pattern.f bt339.1 bt339.2 t346 true).bind fun t347 => (some t347))) else (none)))) else (none)))))))) = some true) :
    ∃ k, vernierlaw04_FormatParams.f k f neg = some true := by
  refine Ev.rounds (g := fun k => vernierlaw04_FormatParams.f k f neg) ?_
  unfold vernierlaw04_FormatParams.f
  refine ev_now ends ?_
  refine ev_pos rfl ?_
  refine ev_now (params_eq h) ?_
  refine ev_now h.row ?_
  refine Ev.bind fixed_ev ?_
  refine ev_pos rfl ?_
  refine ev_pos rfl ?_
  refine ev_pos rfl ?_
  refine ev_pos rfl ?_
  refine ev_pos rfl ?_
  refine ev_neg (show ¬ (((0 : Int) == 0) != true) = true by decide) ?_
  refine ev_pos rfl ?_
  exact ev_some fun _ => tail
theorem ends0 (n : Bool) : vernierlaw04_ends.f 0 n = some true := by
  cases n <;> (unfold vernierlaw04_ends.f format_Greatest.f format_LeastNormal.f format_Least.f format_special_one_fraction.f format_special_LeastNormal_1_none.f format_special_all_one.f; rw [params_eq fmt0]; decide +kernel)
theorem ends1 (n : Bool) : vernierlaw04_ends.f 1 n = some true := by
  cases n <;> (unfold vernierlaw04_ends.f format_Greatest.f format_LeastNormal.f format_Least.f format_special_one_fraction.f format_special_LeastNormal_1_none.f format_special_all_one.f; rw [params_eq fmt1]; decide +kernel)
theorem ends2 (n : Bool) : vernierlaw04_ends.f 2 n = some true := by
  cases n <;> (unfold vernierlaw04_ends.f format_Greatest.f format_LeastNormal.f format_Least.f format_special_one_fraction.f format_special_LeastNormal_1_none.f format_special_all_one.f; rw [params_eq fmt2]; decide +kernel)
theorem ends3 (n : Bool) : vernierlaw04_ends.f 3 n = some true := by
  cases n <;> (unfold vernierlaw04_ends.f format_Greatest.f format_LeastNormal.f format_Least.f format_special_one_fraction.f format_special_LeastNormal_1_none.f format_special_all_one.f; rw [params_eq fmt3]; decide +kernel)
theorem FormatParams : vernierlaw04_FormatParams.Pure := by
  intro f n hf
  by_cases hr : 0 ≤ f ∧ f < 4
  · have h4 : f = 0 ∨ f = 1 ∨ f = 2 ∨ f = 3 := by omega
    rcases h4 with rfl | rfl | rfl | rfl
    · refine params_of fmt0 n (ends0 n) ?_
      cases n <;> (unfold format_NaN.f format_Infinity.f format_Zero.f format_special_none_top.f format_special_none_none.f format_special_all_none.f; rw [params_eq fmt0]; decide +kernel)
    · refine params_of fmt1 n (ends1 n) ?_
      cases n <;> (unfold format_NaN.f format_Infinity.f format_Zero.f format_special_none_top.f format_special_none_none.f format_special_all_none.f; rw [params_eq fmt1]; decide +kernel)
    · refine params_of fmt2 n (ends2 n) ?_
      cases n <;> (unfold format_NaN.f format_Infinity.f format_Zero.f format_special_none_top.f format_special_none_none.f format_special_all_none.f; rw [params_eq fmt2]; decide +kernel)
    · refine params_of fmt3 n (ends3 n) ?_
      cases n <;> (unfold format_NaN.f format_Infinity.f format_Zero.f format_special_none_top.f format_special_none_none.f format_special_all_none.f; rw [params_eq fmt3]; decide +kernel)
  · refine Ev.rounds (g := fun k => vernierlaw04_FormatParams.f k f n) ?_
    have hp := no_params hr
    unfold vernierlaw04_FormatParams.f
    have ends : vernierlaw04_ends.f f n = some true := by
      unfold vernierlaw04_ends.f format_Greatest.f format_LeastNormal.f format_Least.f format_special_one_fraction.f format_special_LeastNormal_1_none.f format_special_all_one.f
      rw [no_row hr, hp]
      rfl
    refine ev_now ends ?_
    refine ev_pos rfl ?_
    refine ev_now hp ?_
    refine ev_now (no_row hr) ?_
    refine Ev.bind fixed_ev ?_
    refine ev_pos rfl ?_
    refine ev_pos rfl ?_
    refine ev_pos rfl ?_
    refine ev_pos rfl ?_
    refine ev_pos rfl ?_
    refine ev_neg (by decide) ?_
    refine ev_neg (by decide) ?_
    refine ev_pos rfl ?_
    refine ev_some fun k => ?_
    unfold format_NaN.f format_Infinity.f format_Zero.f format_special_none_top.f format_special_none_none.f format_special_all_none.f
    rw [hp]
    rfl
end Go.Proofs.YtjdmbhdlogbopaaDoor.Pure
