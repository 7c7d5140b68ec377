/- Plain law: an exact number times a power of two; a word's rounding to so many bits without bounds of the exponent. Conditions: the numbers are short, the exponents moderate. -/
import Derived.Test.YtldjheckpophaaaDoorRnD
import Derived.Test.YtldjheckpophaaaDoorDyB
namespace Go.Proofs.YtldjheckpophaaaDoor.X
open Go Go.Rex
set_option linter.unusedVariables false

theorem oddN_idem {n : Nat} (h : n ≠ 0) : tz (oddN n) = 0 ∧ oddN (oddN n) = oddN n := by
  have e := tz_of_odd (oddN_odd h)
  refine ⟨e, ?_⟩
  have := oddN_mul (oddN_ne h)
  rw [e, Nat.pow_zero, Nat.mul_one] at this
  exact this
theorem Scale_ok {N : Nat} (hN : N ≠ 0) (hl : (digs N).length ≤ 1000) {e n : Int} (he : -40000 ≤ e ∧ e ≤ 40000) (hn : -400000 ≤ n ∧ n ≤ 400000) (ht : -40000 ≤ e + (tz N : Int) + n ∧ e + (tz N : Int) + n ≤ 40000) (neg : Bool) : Ev (fun k => dyad_Scale k neg (digs N) e n) (neg, (digs (oddN N), (e + (tz N : Int) + n, (0 : Int)))) := by
  have ho : (digs (oddN N)).length ≤ 1000 := Nat.le_trans (digs_len_mono (oddN_le _)) hl
  have hb := blen_len hl
  have htz := tz_blen hN
  have h0 := oddN_ne hN
  obtain ⟨i1, i2⟩ := oddN_idem hN
  have o1 := odd_all (a := digs N) (WF.digs _) (by unfold Lb; omega) (by rw [val_digs]; omega) (by rw [val_digs]; exact hN) neg (e := e) (by omega)
  rw [val_digs] at o1
  have o2 := odd_all (a := digs (oddN N)) (WF.digs _) (by unfold Lb; omega) (by rw [val_digs]; omega) (by rw [val_digs]; exact h0) neg (e := e + (tz N : Int) + n) (by omega)
  rw [val_digs, i1, i2] at o2
  have hpos := digs_len_pos.2 h0
  have em : IntKind.i64.wrap (e + (tz N : Int) + mxI (-422144) (mnI n 422144)) = e + (tz N : Int) + n := by
    have : mxI (-422144) (mnI n 422144) = n := by unfold mxI mnI; rw [if_neg (show ¬ (422144 : Int) < n by omega)]; rw [if_pos (by omega)]
    rw [this, wrapI (by omega) (by omega)]
  refine Ev.congr (fun k => dyad_Scale_eq k _ _ _ _) (Ev.bind (refuses_ev ⟨hl, he.1, he.2⟩ neg) (Ev.neg (nF rfl) (Ev.bind o1 (Ev.neg (bF ?_) ?_))))
  · show ¬ (((digs (oddN N)).length : Int) = 0); omega
  · dsimp only
    rw [em]
    refine Ev.bind (Ev.congr (fun k => dyad_answer_eq k _ _ _) (Ev.bind o2 (Ev.neg (dF ?_) (Ev.neg (dF ?_) (Ev.neg (dF ?_) (Ev.some _)))))) (Ev.eq (Ev.some _) ?_)
    · show ¬ (((digs (oddN N)).length : Int) > 1024); omega
    · show ¬ (e + (tz N : Int) + n + ((0 : Nat) : Int) < -40000); omega
    · show ¬ (e + (tz N : Int) + n + ((0 : Nat) : Int) > 40000); omega
    · simp
end Go.Proofs.YtldjheckpophaaaDoor.X
