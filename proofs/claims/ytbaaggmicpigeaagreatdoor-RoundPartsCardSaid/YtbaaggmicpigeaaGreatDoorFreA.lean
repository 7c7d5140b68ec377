/- Plain law: an exact number times a power of two; a word's rounding to so many bits without bounds of the exponent. Conditions: the numbers are short, the exponents moderate. -/
import Derived.Test.YtbaaggmicpigeaaGreatDoorRnD
import Derived.Test.YtbaaggmicpigeaaGreatDoorDyB
namespace Go.Proofs.YtbaaggmicpigeaaGreatDoor.X
open Go Go.Rex
set_option linter.unusedVariables false

theorem oddN_idem {n : Nat} (h : n ≠ 0) : tz (oddN n) = 0 ∧ oddN (oddN n) = oddN n := by
  have e := tz_of_odd (oddN_odd h)
  refine ⟨e, ?_⟩
  have := oddN_mul (oddN_ne h)
  rw [e, Nat.pow_zero, Nat.mul_one] at this
  exact this
theorem Scale_ok {N : Nat} (hN : N ≠ 0) (hl : (digs N).length ≤ 1000) {e n : Int} (he : -40000 ≤ e ∧ e ≤ 40000) (hn : -400000 ≤ n ∧ n ≤ 400000) (ht : -40000 ≤ e + (tz N : Int) + n ∧ e + (tz N : Int) + n ≤ 40000) (neg : Bool) : Ev (fun k => dyad_Scale k neg (digs N) e n) (neg, (digs (oddN N), (e + (tz N : Int) + n, (0 : Int)))) := by
  have ho : (digs (oddN N)).length ≤ 1000 := Nat.le_trans (digs_len_mono (oddN_le _)) hl
  have hb := blen_len hl
  have htz := tz_blen hN
  have h0 := oddN_ne hN
  obtain ⟨i1, i2⟩ := oddN_idem hN
  have o1 := odd_all (a := digs N) (WF.digs _) (by unfold Lb; omega) (by rw [val_digs]; omega) (by rw [val_digs]; exact hN) neg (e := e) (by omega)
  rw [val_digs] at o1
  have o2 := odd_all (a := digs (oddN N)) (WF.digs _) (by unfold Lb; omega) (by rw [val_digs]; omega) (by rw [val_digs]; exact h0) neg (e := e + (tz N : Int) + n) (by omega)
  rw [val_digs, i1, i2] at o2
  have hpos := digs_len_pos.2 h0
  have em : IntKind.i64.wrap (e + (tz N : Int) + mxI (-422144) (mnI n 422144)) = e + (tz N : Int) + n := by
    have : mxI (-422144) (mnI n 422144) = n := by unfold mxI mnI; rw [if_neg (show ¬ (422144 : Int) < n by omega)]; rw [if_pos (by omega)]
    rw [this, wrapI (by omega) (by omega)]
  refine Ev.congr (fun k => dyad_Scale_eq k _ _ _ _) (Ev.bind (refuses_ev ⟨hl, he.1, he.2⟩ neg) (Ev.neg (nF rfl) (Ev.bind o1 (Ev.neg (bF ?_) ?_))))
  · show ¬ (((digs (oddN N)).length : Int) = 0); omega
  · dsimp only
    rw [em]
    refine Ev.bind (Ev.congr (fun k => dyad_answer_eq k _ _ _) (Ev.bind o2 (Ev.neg (dF ?_) (Ev.neg (dF ?_) (Ev.neg (dF ?_) (Ev.some _)))))) (Ev.eq (Ev.some _) ?_)
    · show ¬ (((digs (oddN N)).length : Int) > 1024); omega
    · show ¬ (e + (tz N : Int) + n + ((0 : Nat) : Int) < -40000); omega
    · show ¬ (e + (tz N : Int) + n + ((0 : Nat) : Int) > 40000); omega
    · simp
section
variable {sig : Nat} (hs : sig ≠ 0) (h64 : sig < 18446744073709551616) {e : Int} (he : -8000 ≤ e ∧ e ≤ 8000) {P : Nat} (hP : 2 ≤ P) (hP2 : P ≤ 64) {m : Int} (hm : 0 ≤ m ∧ m ≤ 5) (neg : Bool)
include hs h64 he hP hP2 hm
theorem Free_few (hq : e + (blen sig : Int) - 1 - (P : Int) + 1 ≤ e + (tz sig : Int)) : Ev (fun k => round_Free k m (P : Int) neg (digs sig) e) (neg, (digs (oddN sig), (e + (tz sig : Int), (false, (0 : Int))))) := by
  have hl : (digs sig).length ≤ 1 := digs_length_lt.2 (by rw [Nat.pow_one]; exact h64)
  have hb := blen_len hl
  have htz := tz_blen hs
  have h0 := oddN_ne hs
  have hpos := digs_len_pos.2 h0
  have ho : (digs (oddN sig)).length ≤ 1 := Nat.le_trans (digs_len_mono (oddN_le _)) hl
  have c := Canon_ok (a := digs sig) (WF.digs _) (by omega) (e := e) (by omega) (by rw [val_digs]; exact hs) (by rw [val_digs]; omega) neg
  rw [val_digs] at c
  have ob := blen_pow_mul h0 (tz sig)
  rw [oddN_mul hs] at ob
  have ln := Len_ev (a := digs (oddN sig)) (WF.digs _) (by unfold Lb; omega)
  rw [val_digs] at ln
  have me : Ev (fun k => round_modeError k m) 0 := by have := modeErr_ev m; rwa [if_pos hm] at this
  have tp : IntKind.i64.wrap (IntKind.i64.wrap (e + (tz sig : Int) + (blen (oddN sig) : Int)) - 1) = e + (blen sig : Int) - 1 := by rw [wrapI (x := e + (tz sig : Int) + (blen (oddN sig) : Int)) (by omega) (by omega), wrapI (by omega) (by omega)]; omega
  have qq : IntKind.i64.wrap (IntKind.i64.wrap (e + (blen sig : Int) - 1 - (P : Int)) + 1) = e + (blen sig : Int) - 1 - (P : Int) + 1 := by rw [wrapI (x := e + (blen sig : Int) - 1 - (P : Int)) (by omega) (by omega), wrapI (by omega) (by omega)]
  refine Ev.congr (fun k => round_Free_eq k _ _ _ _ _) (Ev.bind me (Ev.neg (nF rfl) (Ev.neg (dF (by omega)) (Ev.neg (dF (by omega)) (Ev.congr (fun k => round_Free.j0_eq k _ _ _ _ _ _ _) (Ev.bind c (Ev.neg (nF rfl) (Ev.neg (bF ?_) ?_))))))))
  · show ¬ (((digs (oddN sig)).length : Int) = 0); omega
  · refine Ev.congr (fun k => round_Free.j1_eq k _ _ _ _ _ _ _) (Ev.bind (Ev.congr (fun k => round_number_top_eq k _ _ _ _) (Ev.bind ln (Ev.some _))) ?_)
    dsimp only
    rw [tp, qq]
    exact Ev.pos (dT hq) (Ev.some _)
theorem Free_cut (hq : e + (tz sig : Int) < e + (blen sig : Int) - 1 - (P : Int) + 1) {U : Nat} (hU : U = cutN m neg (qA sig e false (e + (blen sig : Int) - 1 - (P : Int) + 1)) (qB e false (e + (blen sig : Int) - 1 - (P : Int) + 1))) :
    U ≠ 0 ∧ Ev (fun k => round_Free k m (P : Int) neg (digs sig) e) (neg, (digs (oddN U), ((tz U : Int) + (e + (blen sig : Int) - 1 - (P : Int) + 1), (true, (0 : Int))))) := by
  have hl : (digs sig).length ≤ 1 := digs_length_lt.2 (by rw [Nat.pow_one]; exact h64)
  have hb := blen_len hl
  have htz := tz_blen hs
  have h0 := oddN_ne hs
  have hpos := digs_len_pos.2 h0
  have ho : (digs (oddN sig)).length ≤ 1 := Nat.le_trans (digs_len_mono (oddN_le _)) hl
  have c := Canon_ok (a := digs sig) (WF.digs _) (by omega) (e := e) (by omega) (by rw [val_digs]; exact hs) (by rw [val_digs]; omega) neg
  rw [val_digs] at c
  have ob := blen_pow_mul h0 (tz sig)
  rw [oddN_mul hs] at ob
  have ln := Len_ev (a := digs (oddN sig)) (WF.digs _) (by unfold Lb; omega)
  rw [val_digs] at ln
  have me : Ev (fun k => round_modeError k m) 0 := by have := modeErr_ev m; rwa [if_pos hm] at this
  have tp : IntKind.i64.wrap (IntKind.i64.wrap (e + (tz sig : Int) + (blen (oddN sig) : Int)) - 1) = e + (blen sig : Int) - 1 := by rw [wrapI (x := e + (tz sig : Int) + (blen (oddN sig) : Int)) (by omega) (by omega), wrapI (by omega) (by omega)]; omega
  have qq : IntKind.i64.wrap (IntKind.i64.wrap (e + (blen sig : Int) - 1 - (P : Int)) + 1) = e + (blen sig : Int) - 1 - (P : Int) + 1 := by rw [wrapI (x := e + (blen sig : Int) - 1 - (P : Int)) (by omega) (by omega), wrapI (by omega) (by omega)]
  have hbq := blen_q hs e false (e + (blen sig : Int) - 1 - (P : Int) + 1)
  rw [show (blen sig : Int) + e - (e + (blen sig : Int) - 1 - (P : Int) + 1) = (P : Int) by omega, Int.toNat_natCast] at hbq
  generalize hqv : e + (blen sig : Int) - 1 - (P : Int) + 1 = q at *
  have bp := qB_pos e false q
  have cr : cutN m neg (qA (oddN sig) (e + (tz sig : Int)) false q) (qB (e + (tz sig : Int)) false q) = U := by
    rw [hU]
    refine cutN_cross m neg (qB_pos _ _ _) bp ?_
    have := r_shift (A := oddN sig) (B := 1) (A' := sig) (B' := 1) (e := e + (tz sig : Int)) (e' := e) q (tz sig) rfl (by rw [Nat.mul_one, Nat.mul_one, oddN_mul hs])
    exact this
  have u1 := chs_ge m neg (qA sig e false q / qB e false q) (lft (qA sig e false q % qB e false q) (qB e false q))
  have u2 := chs_le m neg (qA sig e false q / qB e false q) (lft (qA sig e false q % qB e false q) (qB e false q))
  have hlt := blen_lt (qA sig e false q / qB e false q)
  have hne : qA sig e false q / qB e false q ≠ 0 := by
    intro z
    rw [z] at hbq
    have : blen 0 = 0 := by decide
    omega
  rw [hbq] at hlt
  have hUc : U = chs m neg (qA sig e false q / qB e false q) (lft (qA sig e false q % qB e false q) (qB e false q)) := hU
  have hU0 : U ≠ 0 := by
    rw [hUc]
    exact Nat.ne_of_gt (Nat.lt_of_lt_of_le (Nat.pos_of_ne_zero hne) u1)
  have hUP : U ≤ 2 ^ 64 := by
    rw [hUc]
    exact Nat.le_trans (Nat.le_trans u2 hlt) (pow_mono2 hP2)
  have hUl : (digs U).length ≤ 2 := digs_length_lt.2 (Nat.lt_of_le_of_lt hUP (by decide))
  refine ⟨hU0, ?_⟩
  have ct := cut_ev (n := oddN sig) (e := e + (tz sig : Int)) (q := q) (more := false) m neg (by omega) (by omega) (by omega) (.inr ⟨rfl, by omega, by omega⟩)
  rw [cr] at ct
  have hUb := blen_len hUl
  have hUt := tz_blen hU0
  have c2 := Canon_ok (a := digs U) (WF.digs _) (by omega) (e := 0) (by omega) (by rw [val_digs]; exact hU0) (by rw [val_digs]; omega) neg
  rw [val_digs] at c2
  obtain ⟨i1, i2⟩ := oddN_idem hU0
  have sc := Scale_ok (N := oddN U) (oddN_ne hU0) (Nat.le_trans (digs_len_mono (oddN_le _)) (by omega)) (e := 0 + (tz U : Int)) (n := q) (by omega) (by omega) (by rw [i1]; omega) neg
  rw [i1, i2] at sc
  refine Ev.congr (fun k => round_Free_eq k _ _ _ _ _) (Ev.bind me (Ev.neg (nF rfl) (Ev.neg (dF (by omega)) (Ev.neg (dF (by omega)) (Ev.congr (fun k => round_Free.j0_eq k _ _ _ _ _ _ _) (Ev.bind c (Ev.neg (nF rfl) (Ev.neg (bF ?_) ?_))))))))
  · show ¬ (((digs (oddN sig)).length : Int) = 0); omega
  · refine Ev.congr (fun k => round_Free.j1_eq k _ _ _ _ _ _ _) (Ev.bind (Ev.congr (fun k => round_number_top_eq k _ _ _ _) (Ev.bind ln (Ev.some _))) ?_)
    dsimp only
    rw [tp, qq]
    refine Ev.neg (dF (by omega)) (Ev.bind ct (Ev.bind c2 (Ev.pos (bT rfl) (Ev.bind sc (Ev.neg (nF rfl) (Ev.eq (Ev.some _) ?_))))))
    simp
end
end Go.Proofs.YtbaaggmicpigeaaGreatDoor.X
