/- Plain law: both sides' readers of hexadecimal texts answer the same, for every format, mode and text; the closed calls. Conditions: none. -/
import Derived.Test.YtmoeaeflljpboaaDoorHxF
namespace Go.Proofs.YtmoeaeflljpboaaDoor.X
open Go Go.Rex
set_option linter.unusedVariables false

theorem wk_hex : rnOut 32 24 3 false (16777217 * 2 ^ 125) 1 = (1065353217, 16) := by
  have hb : blen (16777217 * 2 ^ 125 / 1) = 149 + 1 := blen_is (by decide +kernel) (by decide +kernel)
  have hs : shf 24 (16777217 * 2 ^ 125) 1 = 126 := by unfold shf; rw [hb]
  unfold rnOut rnd lftP tinyB
  rw [hs]
  decide +kernel
theorem print_at (m : Nat) : hexes_Print (m + 200) 2 3226468352 = some (vernierlaw15_awake.s1, 0) := by kernel_rfl
theorem said_at : sdF 30000 (sgnL (bl vernierlaw15_awake.s0)).2 = .num [1, 0, 0, 0, 0, 0, 1] 6 0 ∧ (sgnL (bl vernierlaw15_awake.s0)).1 = false := by
  have e : bl vernierlaw15_awake.s0 = [48, 120, 49, 46, 48, 48, 48, 48, 48, 49, 80, 48] := by decide
  rw [e]
  exact ⟨by kernel_rfl, by decide⟩
theorem parse_at : Ev (fun k => hexes_Parse k 2 3 vernierlaw15_awake.s0) (1065353217, (16, 0)) := by
  have g := parse_ok fm32 (m := 3) ⟨by decide, by decide⟩ (s := vernierlaw15_awake.s0) (by decide)
  rw [said_at.1, said_at.2] at g
  have e : finR 32 24 (-126) 3 false (hexN [1, 0, 0, 0, 0, 0, 1]) (0 - 4 * ((6 : Nat) : Int)) = (1065353217, 16) := by
    have hN : hexN [1, 0, 0, 0, 0, 0, 1] = 16777217 := by decide
    rw [hN]
    unfold finR
    rw [if_neg (by decide)]
    have hA : qA 16777217 (0 - 4 * ((6 : Nat) : Int)) false (-126 - ((24 : Nat) : Int) + 1) = 16777217 * 2 ^ 125 := rfl
    have hB : qB (0 - 4 * ((6 : Nat) : Int)) false (-126 - ((24 : Nat) : Int) + 1) = 1 := rfl
    rw [hA, hB, wk_hex]
  unfold ansF at g
  simp only at g
  rw [e] at g
  exact g
theorem awake15_ev : Ev (fun k => vernierlaw15_awake k) true := by
  have p : Ev (fun k => hexes_Print k 2 3226468352) (vernierlaw15_awake.s1, (0 : Int)) := ⟨200, fun k hk => by
    obtain ⟨m, rfl⟩ := Nat.exists_eq_add_of_le hk
    rw [Nat.add_comm]
    exact print_at m⟩
  exact Ev.congr (fun k => vernierlaw15_awake_eq k) (Ev.bind p (Ev.bind parse_at (Ev.pos (by rw [toList_bl]; simp) (Ev.pos (bT rfl) (Ev.pos (bT rfl) (Ev.pos (bT rfl) (Ev.eq (Ev.some _) rfl)))))))
theorem nan_bad {f : Int} (hf : f < 0 ∨ 4 ≤ f) : Ev (fun k => format_NaN k f) ((0 : Int), (2 : Int)) :=
  Ev.congr (fun k => format_NaN_eq k f) (Ev.bind (Ev.congr (fun k => format_special_none_top_eq k f false) (Ev.bind (params_bad hf) (Ev.pos (nT (by decide)) (Ev.some _)))) (Ev.some _))
theorem parse_any (f m : Int) (s : ByteArray) : ∃ r, Ev (fun k => hexes_Parse k f m s) r ∧ Ev (fun k => vernierref15_Parse k f m s) r := by
  have kn := known_ev f m
  unfold badFm at kn
  by_cases hf : 0 ≤ f ∧ f < 4
  · obtain ⟨W, P, em, ex, h⟩ := fm_of hf.1 hf.2
    rw [if_pos hf] at kn
    have st : ∀ {r}, _ → Ev (fun k => hexes_Parse k f m s) r := fun hh => Ev.congr (fun k => hexes_Parse_eq k _ _ _) (Ev.bind (Ev.of fun k => nan_at h k) (Ev.neg (nF rfl) hh))
    by_cases hm : 0 ≤ m ∧ m ≤ 5
    · rw [if_pos hm] at kn
      by_cases hs : s.size ≤ 2000
      · exact ⟨_, parse_ok h ⟨hm.1, hm.2⟩ hs, rparse_ok h ⟨hm.1, hm.2⟩ hs⟩
      · exact ⟨_, st (Ev.neg (dF (by omega)) (Ev.neg (dF (by omega)) (Ev.pos (dT (by omega)) (Ev.some _)))), Ev.congr (fun k => vernierref15_Parse_eq k _ _ _) (Ev.bind kn (Ev.neg (nF rfl) (Ev.pos (dT (by omega)) (Ev.some _))))⟩
    · rw [if_neg hm] at kn
      have r2 : Ev (fun k => vernierref15_Parse k f m s) (0, (0, 3)) := Ev.congr (fun k => vernierref15_Parse_eq k _ _ _) (Ev.bind kn (Ev.pos (nT (by decide)) (Ev.some _)))
      by_cases c : m < 0
      · exact ⟨_, st (Ev.pos (dT c) (Ev.some _)), r2⟩
      · exact ⟨_, st (Ev.neg (dF c) (Ev.pos (dT (by omega)) (Ev.some _))), r2⟩
  · rw [if_neg hf] at kn
    exact ⟨(0, (0, 2)), Ev.congr (fun k => hexes_Parse_eq k _ _ _) (Ev.bind (nan_bad (by omega)) (Ev.pos (nT (by decide)) (Ev.some _))), Ev.congr (fun k => vernierref15_Parse_eq k _ _ _) (Ev.bind kn (Ev.pos (nT (by decide)) (Ev.some _)))⟩
end Go.Proofs.YtmoeaeflljpboaaDoor.X
