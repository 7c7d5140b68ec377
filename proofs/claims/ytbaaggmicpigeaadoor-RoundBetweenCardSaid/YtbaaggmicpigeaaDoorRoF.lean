/- Plain law: the numbers that the laws of layer 5 look at (twin, fit). Conditions: the words are words. -/
import Derived.Test.YtbaaggmicpigeaaDoorFitE
import Derived.Test.YtbaaggmicpigeaaDoorRoE
namespace Go.Proofs.YtbaaggmicpigeaaDoor.X
open Go Go.Rex
set_option linter.unusedVariables false

theorem twin_list (a r : List Int) (n : Nat) (Y : List Int) (Z : List Int) (hn : n = a.length) (hr : r.length = n + 4) :
    (((r.take 0 ++ ((a.take (min a.length (r.take n).length) ++ (r.take n).drop (min a.length (r.take n).length)) ++ r.drop (0 + n))).take n) ++ Y).take n = a := by
  subst hn
  have h1 : (r.take a.length).length = a.length := by rw [List.length_take]; omega
  have h2 : (r.take a.length).drop a.length = [] := List.drop_eq_nil_of_le (by omega)
  rw [h1, Nat.min_self, List.take_length, h2, List.append_nil, List.take_zero, List.nil_append, List.take_left' rfl, List.take_left' rfl]
theorem twin05_ev {a : List Int} (hl : a.length ≤ 200) : Ev (fun k => vernierlaw05_twin k a) a := by
  refine Ev.congr (fun k => vernierlaw05_twin_eq k a) ?_
  have e : IntKind.i64.wrap ((a.length : Int) + 4) = ((a.length + 4 : Nat) : Int) := by rw [wrapI (by omega) (by omega)]; omega
  rw [e, Int.toNat_natCast, Int.toNat_natCast]
  refine Ev.pos ⟨by omega, by omega, by omega⟩ (Ev.pos ⟨by omega, ?_⟩ (Ev.pos ⟨by omega, by omega⟩ (Ev.eq (Ev.some _) ?_)))
  · simp
  · exact twin_list a (List.replicate (a.length + 4) 0) a.length _ [] rfl (by simp)
theorem fit_ev {a : List Int} (ha : WF a) (neg : Bool) (e : Int) : Ev (fun k => vernierlaw05_fit k neg a e) (neg, (a, (e, false))) ∨
    ∃ (s : Bool) (n : Nat) (g : Int), Ev (fun k => vernierlaw05_fit k neg a e) (s, (digs n, (g, true))) ∧ (n = 0 → s = false ∧ g = 0) ∧ (n ≠ 0 → n % 2 = 1) ∧ (digs n).length ≤ 200 ∧ -8000 ≤ g ∧ g ≤ 30000 := by
  by_cases c1 : (a.length : Int) > 200
  · exact .inl (Ev.congr (fun k => vernierlaw05_fit_eq k _ _ _) (Ev.pos (dT c1) (Ev.some _)))
  · by_cases c2 : e < -8000
    · exact .inl (Ev.congr (fun k => vernierlaw05_fit_eq k _ _ _) (Ev.neg (dF c1) (Ev.pos (dT c2) (Ev.some _))))
    · by_cases c3 : e > 8000
      · exact .inl (Ev.congr (fun k => vernierlaw05_fit_eq k _ _ _) (Ev.neg (dF c1) (Ev.neg (dF c2) (Ev.pos (dT c3) (Ev.some _)))))
      · right
        have hl : a.length ≤ 200 := by omega
        have hd : (digs (val a)).length ≤ 200 := Nat.le_trans (digs_length_lt.2 (val_lt ha)) hl
        have start : ∀ {s : Bool} {n : Nat} {g : Int}, Ev (fun k => dyad_Canon k neg a e) (s, (digs n, (g, (0 : Int)))) → Ev (fun k => vernierlaw05_fit k neg a e) (s, (digs n, (g, true))) := fun cn =>
          Ev.congr (fun k => vernierlaw05_fit_eq k _ _ _) (Ev.neg (dF c1) (Ev.neg (dF c2) (Ev.neg (dF c3) (Ev.bind (twin05_ev hl) (Ev.bind cn (Ev.some _))))))
        by_cases hv : val a = 0
        · refine ⟨false, 0, 0, start ?_, fun _ => ⟨rfl, rfl⟩, fun h => absurd rfl h, by rw [digs_zero]; decide, by decide, by decide⟩
          rw [digs_zero]
          exact Canon_zero ha (by omega) (by omega) hv neg
        · have ht := tz_blen hv
          have hb2 := blen_len hd
          refine ⟨neg, oddN (val a), e + (tz (val a) : Int), start (Canon_ok ha (by omega) (by omega) hv (by omega) neg), fun h => absurd h (oddN_ne hv), fun _ => oddN_odd hv, Nat.le_trans (digs_len_mono (oddN_le _)) hd, by omega, by omega⟩
end Go.Proofs.YtbaaggmicpigeaaDoor.X
