/- Plain law: HexesPrints answers true. Conditions: what the reading says of the arguments. -/
import Derived.Test.YtmoeaeflljpboaaDoorHxR
import Derived.Test.YtmoeaeflljpboaaDoorR2
namespace Go.Proofs.YtmoeaeflljpboaaDoor.X
open Go Go.Rex
set_option linter.unusedVariables false
theorem class_badf {f : Int} (hf : f < 0 ∨ 4 ≤ f) (a : Int) : Ev (fun k => format_Class k f a) ((0 : Int), (2 : Int)) :=
  Ev.congr (fun k => format_Class_eq k f a) (Ev.bind (Ev.congr (fun k => format_Check_eq k f a) (Ev.bind (params_bad hf) (Ev.pos (nT (by decide)) (Ev.some _)))) (Ev.pos (nT (by decide)) (Ev.some _)))
theorem print_any (f : Int) {a : Nat} (ha : a < 18446744073709551616) : ∃ (s t : ByteArray) (e : Int), Ev (fun k => hexes_Print k f (a : Int)) (s, e) ∧ Ev (fun k => vernierref15_Print k f (a : Int)) (t, e) ∧ bl s = bl t := by
  have e0 : bl hexes_Print.s0 = [] := by decide
  have e1 : bl vernierref15_Print.s0 = [] := by decide
  have kn := known_ev f 0
  unfold badFm at kn
  by_cases hf : 0 ≤ f ∧ f < 4
  · obtain ⟨W, P, em, ex, h⟩ := fm_of hf.1 hf.2
    rw [if_pos hf, if_pos (by decide)] at kn
    by_cases c : a < 2 ^ W
    · obtain ⟨s, g1, g2⟩ := print_ev h c
      obtain ⟨t, g3, g4⟩ := rprint_ev h c
      exact ⟨s, t, 0, g1, g3, g2.trans g4.symm⟩
    · refine ⟨hexes_Print.s0, vernierref15_Print.s0, 4, ?_, ?_, e0.trans e1.symm⟩
      · have g : Ev (fun k => format_Class k f (a : Int)) ((0 : Int), (4 : Int)) := by
          refine Ev.congr (fun k => format_Class_eq k _ _) (Ev.bind (Ev.of fun k => check_at h k a ha) ?_)
          rw [if_neg c]
          exact Ev.pos (nT (by decide)) (Ev.some _)
        exact Ev.congr (fun k => hexes_Print_eq k _ _) (Ev.bind g (Ev.pos (nT (by decide)) (Ev.some _)))
      · exact Ev.congr (fun k => vernierref15_Print_eq k _ _) (Ev.bind kn (Ev.neg (nF rfl) (Ev.bind (Ev.of fun k => by rw [fits15 h ha, decide_eq_false c]) (Ev.pos rfl (Ev.some _)))))
  · rw [if_neg hf] at kn
    exact ⟨hexes_Print.s0, vernierref15_Print.s0, 2, Ev.congr (fun k => hexes_Print_eq k _ _) (Ev.bind (class_badf (by omega) _) (Ev.pos (nT (by decide)) (Ev.some _))), Ev.congr (fun k => vernierref15_Print_eq k _ _) (Ev.bind kn (Ev.pos (nT (by decide)) (Ev.some _))), e0.trans e1.symm⟩
namespace Pure
/-- For all formats and patterns: true. -/
theorem HexesPrints (f : Int) (a : Int) (wf : WFt (.int .i64) f) (wa : WFt (.int .u64) a) : Ev (fun k => vernierlaw15_HexesPrints k f a) true := by
  obtain ⟨a0, a1⟩ := wf_u64 wa
  obtain ⟨a, rfl⟩ := Int.eq_ofNat_of_zero_le a0
  obtain ⟨s, t, e, g1, g2, g3⟩ := print_any f (a := a) (by omega)
  refine Ev.congr (fun k => vernierlaw15_HexesPrints_eq k f _) (Ev.bind g1 (Ev.bind g2 (Ev.bind awake15_ev (Ev.pos rfl (Ev.pos ?_ (Ev.eq (Ev.some _) (beq_self_eq_true _)))))))
  rw [toList_bl]; exact decide_eq_true g3
end Pure
end Go.Proofs.YtmoeaeflljpboaaDoor.X
