/- FormatPacks, the plain law: fields put together. No conditions. -/
import Derived.Test.YtjdmbhdlogbopaaDoorFormatC
import Derived.Test.YtjdmbhdlogbopaaDoorVx12
import Derived.Test.YtjdmbhdlogbopaaDoorVx13
namespace Go.Proofs.YtjdmbhdlogbopaaDoor.Pure
open Go.RowKit Go.Proofs.YtjdmbhdlogbopaaDoor.V Go.Proofs.YtjdmbhdlogbopaaDoorQ.PrintWords Go.Proofs.YtjdmbhdlogbopaaDoor.L

theorem FormatPacks : vernierlaw04_FormatPacks.Pure := by
  intro f n x y hf hx hy
  obtain ⟨E, rfl, hE⟩ := nat_of_wf hx
  obtain ⟨F, rfl, hF⟩ := nat_of_wf hy
  refine Ev.rounds (g := fun k => vernierlaw04_FormatPacks.f k f n (E : Int) (F : Int)) ?_
  unfold vernierlaw04_FormatPacks.f
  by_cases hr : 0 ≤ f ∧ f < 4
  · obtain ⟨W, P, emin, emax, h⟩ := fmt_cases hr
    have hwp := h.wp; have hw := h.w64; have hp := h.p8
    have ho := Nat.two_pow_pos (W - P)
    have hq := Nat.two_pow_pos (P - 1)
    have one := onesWP h
    have onep : format_ones.f (wrap64 ((P : Int) - 1)) = some ((2 ^ (P - 1) - 1 : Nat) : Int) := by rw [subP1 h]; exact ones_eq _ (by omega)
    have ro := ref_ones h
    have p1 := subP1 h
    have s1 := shl_one (P - 1) (by omega)
    have jn := fun (hE : E < 2 ^ (W - P)) (hF : F < 2 ^ (P - 1)) => join_eq h n hE hF
    have mk := fun (hE : E < 2 ^ (W - P)) (hF : F < 2 ^ (P - 1)) => make_eq h (s := if n = true then 1 else 0) (by cases n <;> decide) hE hF
    generalize 2 ^ (W - P) = o at *
    generalize 2 ^ (P - 1) = q at *
    by_cases h1 : E < o
    · by_cases h2 : F < q
      · refine ev_now (a := (((pk W P (if n = true then 1 else 0) E F : Nat) : Int), 0)) ?_ ?_
        · unfold format_Pack.f
          rw [params_eq h]
          simp only [Option.bind_some, if_true]
          rw [one]
          simp only [Option.bind_some]
          rw [if_neg (by omega), onep]
          simp only [Option.bind_some]
          rw [if_neg (by omega), jn h1 h2]
          rfl
        refine ev_now h.row ?_
        refine Ev.bind fixed_ev ?_
        refine ev_pos rfl ?_
        refine ev_pos rfl ?_
        refine ev_neg ?_ ?_
        · show ¬ ((E : Int) > IntKind.u64.wrap (wrap64 (wrap64 (2 * emax) + 1)))
          rw [ro]; omega
        refine ev_pos ?_ ?_
        · show 0 ≤ IntKind.u64.wrap (wrap64 ((P : Int) - 1))
          rw [p1, wrapu_nat (by omega)]; omega
        refine ev_neg ?_ ?_
        · show ¬ ((F : Int) ≥ shl .u64 1 (IntKind.u64.wrap (wrap64 ((P : Int) - 1))))
          rw [p1, wrapu_nat (by omega), s1]; omega
        refine ev_now (bit_eq n) ?_
        refine ev_now (mk h1 h2) ?_
        refine ev_pos rfl ?_
        exact ev_some fun k => rfl
      · refine ev_now (a := (0, 7)) ?_ ?_
        · unfold format_Pack.f
          rw [params_eq h]
          simp only [Option.bind_some, if_true]
          rw [one]
          simp only [Option.bind_some]
          rw [if_neg (by omega), onep]
          simp only [Option.bind_some]
          rw [if_pos (by omega)]
        refine ev_now h.row ?_
        refine Ev.bind fixed_ev ?_
        refine ev_pos rfl ?_
        refine ev_pos rfl ?_
        refine ev_neg ?_ ?_
        · show ¬ ((E : Int) > IntKind.u64.wrap (wrap64 (wrap64 (2 * emax) + 1)))
          rw [ro]; omega
        refine ev_pos ?_ ?_
        · show 0 ≤ IntKind.u64.wrap (wrap64 ((P : Int) - 1))
          rw [p1, wrapu_nat (by omega)]; omega
        refine ev_pos ?_ ?_
        · show (F : Int) ≥ shl .u64 1 (IntKind.u64.wrap (wrap64 ((P : Int) - 1)))
          rw [p1, wrapu_nat (by omega), s1]; omega
        refine ev_pos rfl ?_
        exact ev_some fun k => rfl
    · refine ev_now (a := (0, 7)) ?_ ?_
      · unfold format_Pack.f
        rw [params_eq h]
        simp only [Option.bind_some, if_true]
        rw [one]
        simp only [Option.bind_some]
        rw [if_pos (by omega)]
      refine ev_now h.row ?_
      refine Ev.bind fixed_ev ?_
      refine ev_pos rfl ?_
      refine ev_pos rfl ?_
      refine ev_pos ?_ ?_
      · show (E : Int) > IntKind.u64.wrap (wrap64 (wrap64 (2 * emax) + 1))
        rw [ro]; omega
      refine ev_pos rfl ?_
      exact ev_some fun k => rfl
  · refine ev_now (a := (0, 2)) (by unfold format_Pack.f; rw [no_params hr]; rfl) ?_
    refine ev_now (no_row hr) ?_
    refine Ev.bind fixed_ev ?_
    refine ev_pos rfl ?_
    refine ev_neg (by decide) ?_
    refine ev_pos rfl ?_
    exact ev_some fun k => rfl
end Go.Proofs.YtjdmbhdlogbopaaDoor.Pure
