/- Plain law: layer 5's rounding to so many bits, the program's and the reference's, for all inputs. Conditions: the words are words. -/
import Derived.Test.YtbaaggmicpigeaaGreatDoorRxA
import Derived.Test.YtbaaggmicpigeaaGreatDoorFreA
namespace Go.Proofs.YtbaaggmicpigeaaGreatDoor.X
open Go Go.Rex
set_option linter.unusedVariables false
set_option linter.unusedSectionVars false

theorem Scale_big {N : Nat} (hN : N ≠ 0) (hl : (digs N).length ≤ 1000) {e n : Int} (he : -40000 ≤ e ∧ e ≤ 40000) (hn : -400000 ≤ n ∧ n ≤ 400000) (ht : 40000 < e + (tz N : Int) + n) (neg : Bool) : Ev (fun k => dyad_Scale k neg (digs N) e n) (false, (([] : List Int), ((0 : Int), (30 : Int)))) := by
  have ho : (digs (oddN N)).length ≤ 1000 := Nat.le_trans (digs_len_mono (oddN_le _)) hl
  have hb := blen_len hl
  have htz := tz_blen hN
  have h0 := oddN_ne hN
  obtain ⟨i1, i2⟩ := oddN_idem hN
  have o1 := odd_all (a := digs N) (WF.digs _) (by unfold Lb; omega) (by rw [val_digs]; omega) (by rw [val_digs]; exact hN) neg (e := e) (by omega)
  rw [val_digs] at o1
  have o2 := odd_all (a := digs (oddN N)) (WF.digs _) (by unfold Lb; omega) (by rw [val_digs]; omega) (by rw [val_digs]; exact h0) neg (e := e + (tz N : Int) + n) (by omega)
  rw [val_digs, i1, i2] at o2
  have hpos := digs_len_pos.2 h0
  have em : IntKind.i64.wrap (e + (tz N : Int) + mxI (-422144) (mnI n 422144)) = e + (tz N : Int) + n := by
    have : mxI (-422144) (mnI n 422144) = n := by unfold mxI mnI; rw [if_neg (show ¬ (422144 : Int) < n by omega)]; rw [if_pos (by omega)]
    rw [this, wrapI (by omega) (by omega)]
  refine Ev.congr (fun k => dyad_Scale_eq k _ _ _ _) (Ev.bind (refuses_ev ⟨hl, he.1, he.2⟩ neg) (Ev.neg (nF rfl) (Ev.bind o1 (Ev.neg (bF ?_) ?_))))
  · show ¬ (((digs (oddN N)).length : Int) = 0); omega
  · dsimp only
    rw [em]
    refine Ev.bind (Ev.congr (fun k => dyad_answer_eq k _ _ _) (Ev.bind o2 (Ev.neg (dF ?_) (Ev.neg (dF ?_) (Ev.pos (dT ?_) (Ev.some _)))))) (Ev.some _)
    · show ¬ (((digs (oddN N)).length : Int) > 1024); omega
    · show ¬ (e + (tz N : Int) + n + ((0 : Nat) : Int) < -40000); omega
    · show e + (tz N : Int) + n + ((0 : Nat) : Int) > 40000; omega

/-- The answer for an odd number. -/
def frO (P : Nat) (m : Int) (neg : Bool) (N : Nat) (E : Int) : Bool × List Int × Int × Bool × Int :=
  if E + (blen N : Int) - (P : Int) ≤ E then (neg, (digs N, (E, (false, 0))))
  else if 40000 < (tz (cutN m neg (qA N E false (E + (blen N : Int) - (P : Int))) (qB E false (E + (blen N : Int) - (P : Int)))) : Int) + (E + (blen N : Int) - (P : Int)) then (false, ([], (0, (false, 30))))
  else (neg, (digs (oddN (cutN m neg (qA N E false (E + (blen N : Int) - (P : Int))) (qB E false (E + (blen N : Int) - (P : Int))))), ((tz (cutN m neg (qA N E false (E + (blen N : Int) - (P : Int))) (qB E false (E + (blen N : Int) - (P : Int)))) : Int) + (E + (blen N : Int) - (P : Int)), (true, 0))))
section
variable {N : Nat} (hN : N % 2 = 1) (hl : (digs N).length ≤ 1024) {E : Int} (hE : -40000 ≤ E ∧ E ≤ 40000) {P : Nat} (hP : 1 ≤ P) (hP2 : P ≤ 128) {m : Int} (neg : Bool)
include hN hl hE hP hP2
theorem cut_facts5 {q : Int} (hq : q = E + (blen N : Int) - (P : Int)) (h : E < q) (m : Int) :
    cutN m neg (qA N E false q) (qB E false q) ≠ 0 ∧ (digs (cutN m neg (qA N E false q) (qB E false q))).length ≤ 3 ∧ (digs (qA N E false q / qB E false q)).length ≤ 3 ∧ lftN (qA N E false q) (qB E false q) ≠ 0 := by
  have h0 : N ≠ 0 := by omega
  have bp := qB_pos E false q
  have hbq := blen_q h0 E false q
  rw [show (blen N : Int) + E - q = (P : Int) by omega, Int.toNat_natCast] at hbq
  have u1 := chs_ge m neg (qA N E false q / qB E false q) (lft (qA N E false q % qB E false q) (qB E false q))
  have u2 := chs_le m neg (qA N E false q / qB E false q) (lft (qA N E false q % qB E false q) (qB E false q))
  have hlt := blen_lt (qA N E false q / qB E false q)
  have hne : qA N E false q / qB E false q ≠ 0 := by
    intro z
    rw [z] at hbq
    have : blen 0 = 0 := by decide
    omega
  rw [hbq] at hlt
  have hUc : cutN m neg (qA N E false q) (qB E false q) = chs m neg (qA N E false q / qB E false q) (lft (qA N E false q % qB E false q) (qB E false q)) := rfl
  have h128 : (2 : Nat) ^ P ≤ 2 ^ 128 := pow_mono2 hP2
  refine ⟨?_, ?_, ?_, ?_⟩
  · rw [hUc]; exact Nat.ne_of_gt (Nat.lt_of_lt_of_le (Nat.pos_of_ne_zero hne) u1)
  · refine digs_length_lt.2 ?_
    rw [hUc]
    exact Nat.lt_of_le_of_lt (Nat.le_trans u2 (Nat.le_trans hlt h128)) (by decide)
  · exact digs_length_lt.2 (Nat.lt_of_lt_of_le hlt (Nat.le_trans h128 (by decide)))
  · intro z
    rw [lftN_zero] at z
    unfold qA qB nuN nuD p2 at z
    rw [if_neg (by decide), if_neg (by decide), Nat.one_mul, show (E - q).toNat = 0 by omega, Nat.pow_zero, Nat.mul_one] at z
    have d : (2 : Nat) ∣ 2 ^ (q - E).toNat := ⟨2 ^ ((q - E).toNat - 1), by
      have : (q - E).toNat = (q - E).toNat - 1 + 1 := by omega
      rw [this, Nat.pow_succ, Nat.mul_comm]; congr 2⟩
    have := Nat.dvd_trans d (Nat.dvd_of_mod_eq_zero z)
    omega
theorem Free5_j1 : Ev (fun k => round_Free.j1 k m (P : Int) false 0 (digs N) neg E) (frO P m neg N E) := by
  have h0 : N ≠ 0 := by omega
  have hb := blen_len hl
  have ln := Len_ev (a := digs N) (WF.digs _) (by unfold Lb; omega)
  rw [val_digs] at ln
  have tp : IntKind.i64.wrap (IntKind.i64.wrap (E + (blen N : Int)) - 1) = E + (blen N : Int) - 1 := by rw [wrapI (x := E + (blen N : Int)) (by omega) (by omega), wrapI (by omega) (by omega)]
  have qq : IntKind.i64.wrap (IntKind.i64.wrap (E + (blen N : Int) - 1 - (P : Int)) + 1) = E + (blen N : Int) - (P : Int) := by rw [wrapI (x := E + (blen N : Int) - 1 - (P : Int)) (by omega) (by omega), wrapI (by omega) (by omega)]; omega
  refine Ev.congr (fun k => round_Free.j1_eq k _ _ _ _ _ _ _) (Ev.bind (Ev.congr (fun k => round_number_top_eq k _ _ _ _) (Ev.bind ln (Ev.some _))) ?_)
  rw [tp, qq]
  unfold frO
  generalize hq : E + (blen N : Int) - (P : Int) = q
  by_cases c : q ≤ E
  · rw [if_pos c]; exact Ev.pos (dT c) (Ev.some _)
  · rw [if_neg c]
    obtain ⟨U0, U3, V3, L0⟩ := cut_facts5 hN hl hE hP hP2 neg (q := q) hq.symm (by omega) m
    have hlen : q - E = 1 → (digs N).length ≤ 1000 := fun g => by
      have hbl := blen_lt N
      have : (digs N).length ≤ 3 := digs_length_lt.2 (Nat.lt_of_lt_of_le hbl (Nat.le_trans (pow_mono2 (show blen N ≤ 129 by omega)) (by decide)))
      omega
    have ct := cut_ev (n := N) (e := E) (q := q) (more := false) m neg (by omega) (by omega) (by omega) (by
      by_cases g : q - E = 1
      · exact .inr ⟨rfl, by omega, hlen g⟩
      · exact .inl (by omega))
    generalize cutN m neg (qA N E false q) (qB E false q) = U at *
    have hUb := blen_len U3
    have hUt := tz_blen U0
    have c2 := Canon_ok (a := digs U) (WF.digs _) (by omega) (e := 0) (by omega) (by rw [val_digs]; exact U0) (by rw [val_digs]; omega) neg
    rw [val_digs] at c2
    obtain ⟨i1, i2⟩ := oddN_idem U0
    have ol : (digs (oddN U)).length ≤ 1000 := Nat.le_trans (digs_len_mono (oddN_le _)) (by omega)
    by_cases cb : 40000 < (tz U : Int) + q
    · rw [if_pos cb]
      have sc := Scale_big (N := oddN U) (oddN_ne U0) ol (e := 0 + (tz U : Int)) (n := q) (by omega) (by omega) (by rw [i1]; omega) neg
      exact Ev.neg (dF c) (Ev.bind ct (Ev.bind c2 (Ev.pos (bT rfl) (Ev.bind sc (Ev.pos (nT (by decide)) (Ev.some _))))))
    · rw [if_neg cb]
      have sc := Scale_ok (N := oddN U) (oddN_ne U0) ol (e := 0 + (tz U : Int)) (n := q) (by omega) (by omega) (by rw [i1]; omega) neg
      rw [i1, i2] at sc
      refine Ev.neg (dF c) (Ev.bind ct (Ev.bind c2 (Ev.pos (bT rfl) (Ev.bind sc (Ev.neg (nF rfl) (Ev.eq (Ev.some _) ?_))))))
      simp
theorem rFree5_j2 : Ev (fun k => vernierref05_Free.j2 k m (P : Int) false 0 neg (digs N) E) (frO P m neg N E) := by
  have h0 : N ≠ 0 := by omega
  have hb := blen_len hl
  have tr := rTrim_ev (a := digs N) (WF.digs N) (by unfold Lb; omega)
  rw [val_digs] at tr
  have of5 : Ev (fun k => vernierref05_of k neg (digs N) E) (neg, (digs N, (((List.replicate 1 (0 : Int)).set 0 1), E))) :=
    Ev.congr (fun k => vernierref05_of_eq k _ _ _) (Ev.bind tr (Ev.bind (Ev.of fun k => vernierref05_Whole_eq k _ _ _) (Ev.some _)))
  rw [one_words] at of5
  have l1 : (digs 1).length ≤ 4000 := by rw [← one_words]; decide
  obtain ⟨T, hT, T0, T1, hTev⟩ := top_ev (a := digs N) (b := digs 1) (WF.digs N) (WF.digs 1) (by omega) l1 (by rw [val_digs]; decide) (e := E) (by omega) (by rw [val_digs]; exact h0) neg
  rw [val_digs, val_digs] at hT
  have hTb := hT.blen Nat.one_pos E
  have eN : rA N E E / rB 1 E E = N := by
    unfold rA rB p2
    rw [show (E - E).toNat = 0 by omega, Nat.pow_zero, Nat.mul_one, Nat.mul_one, Nat.div_one]
  rw [eN] at hTb
  have hbpos : 0 < blen N := blen_pos h0
  have hTe : T = E + (blen N : Int) - 1 := by omega
  have qq : IntKind.i64.wrap (IntKind.i64.wrap (T - (P : Int)) + 1) = E + (blen N : Int) - (P : Int) := by rw [wrapI (x := T - (P : Int)) (by omega) (by omega), wrapI (by omega) (by omega)]; omega
  have pl := places_ev (a := digs N) (b := digs 1) (WF.digs N) (WF.digs 1) (by omega) l1 (by rw [val_digs]; decide) (e := E) (by omega) (q := E + (blen N : Int) - (P : Int)) (by omega) neg
  rw [val_digs, val_digs] at pl
  refine Ev.congr (fun k => vernierref05_Free.j2_eq k _ _ _ _ _ _ _) (Ev.bind of5 (Ev.bind hTev ?_))
  rw [qq]
  refine Ev.bind pl ?_
  unfold frO
  have eA : ∀ q, qA N E false q = rA N E q := fun _ => rfl
  have eB : ∀ q, qB E false q = rB 1 E q := fun _ => rfl
  generalize hq : E + (blen N : Int) - (P : Int) = q at *
  have hl3 : lftN (rA N E q) (rB 1 E q) ≤ 3 := lft_le3 _ _
  by_cases c : q ≤ E
  · rw [if_pos c]
    have e1 : rB 1 E q = 1 := by unfold rB p2; rw [show (q - E).toNat = 0 by omega]
    have e2 : rA N E q = N * 2 ^ (E - q).toNat := rfl
    have e3 : lftN (rA N E q) (rB 1 E q) = 0 := by rw [lftN_zero, e1, Nat.mod_one]
    rw [e3, e1, Nat.div_one, e2]
    have hbn := blen_pow_mul h0 (E - q).toNat
    have hlt := blen_lt (N * 2 ^ (E - q).toNat)
    have hl128 : (digs (N * 2 ^ (E - q).toNat)).length ≤ 3 := digs_length_lt.2 (Nat.lt_of_lt_of_le hlt (Nat.le_trans (pow_mono2 (show blen (N * 2 ^ (E - q).toNat) ≤ 128 by omega)) (by decide)))
    have ch := chosen_ev (u := N * 2 ^ (E - q).toNat) (l := 0) (by omega) (by omega) m neg
    rw [chs_zero] at ch
    have hn0 : N * 2 ^ (E - q).toNat ≠ 0 := Nat.mul_ne_zero h0 (Nat.ne_of_gt (Nat.two_pow_pos _))
    obtain ⟨d, d1, d2, d3, d4, d5⟩ := r3Dig_ev (a := digs (N * 2 ^ (E - q).toNat)) (WF.digs _) (by omega)
    rw [val_digs] at d4
    have cn := r3Canonical_ev d1 d2 (by omega) neg (e := q) (by omega)
    rw [d4, if_neg hn0] at cn
    obtain ⟨t1, t2⟩ := tz_mul_pow h0 (E - q).toNat
    rw [tz_of_odd hN, Nat.zero_add] at t1
    rw [oddN_of_odd hN] at t2
    rw [t1, t2] at cn
    refine Ev.bind ch (Ev.bind d5 (Ev.bind cn (Ev.neg (dF ?_) (Ev.eq (Ev.some _) ?_))))
    · show ¬ (q + ((E - q).toNat : Int) > 40000); omega
    · show (neg, (digs N, (q + ((E - q).toNat : Int), (decide (((0 : Nat) : Int) > 0), (0 : Int))))) = _
      rw [show q + ((E - q).toNat : Int) = E by omega]; rfl
  · rw [if_neg c]
    obtain ⟨U0, U3, V3, L0⟩ := cut_facts5 hN hl hE hP hP2 neg (q := q) hq.symm (by omega) m
    rw [eA, eB] at U0 U3 V3 L0 ⊢
    have hUc : cutN m neg (rA N E q) (rB 1 E q) = chs m neg (rA N E q / rB 1 E q) (lftN (rA N E q) (rB 1 E q)) := rfl
    have ch := chosen_ev (u := rA N E q / rB 1 E q) (l := lftN (rA N E q) (rB 1 E q)) (by omega) hl3 m neg
    rw [← hUc] at ch
    generalize cutN m neg (rA N E q) (rB 1 E q) = U at *
    obtain ⟨d, d1, d2, d3, d4, d5⟩ := r3Dig_ev (a := digs U) (WF.digs _) (by omega)
    rw [val_digs] at d4
    have hUb := blen_len U3
    have hUt := tz_blen U0
    have cn := r3Canonical_ev d1 d2 (by omega) neg (e := q) (by omega)
    rw [d4, if_neg U0] at cn
    refine Ev.bind ch (Ev.bind d5 (Ev.bind cn ?_))
    by_cases cb : 40000 < (tz U : Int) + q
    · rw [if_pos cb]; exact Ev.pos (dT (show q + (tz U : Int) > 40000 by omega)) (Ev.some _)
    · rw [if_neg cb]
      refine Ev.neg (dF (show ¬ (q + (tz U : Int) > 40000) by omega)) (Ev.eq (Ev.some _) ?_)
      show (neg, (digs (oddN U), (q + (tz U : Int), (decide (((lftN (rA N E q) (rB 1 E q) : Nat) : Int) > 0), (0 : Int))))) = _
      rw [decide_eq_true (show ((lftN (rA N E q) (rB 1 E q) : Nat) : Int) > 0 by omega), Int.add_comm q]
end
/-- The answer for all inputs. -/
def frR (m P : Int) (neg : Bool) (a : List Int) (e : Int) : Bool × List Int × Int × Bool × Int :=
  if ¬ (0 ≤ m ∧ m ≤ 5) then (false, ([], (0, (false, 3))))
  else if P < 1 ∨ 128 < P then (false, ([], (0, (false, 7))))
  else if badE a e ≠ 0 then (false, ([], (0, (false, badE a e))))
  else if val a = 0 then (false, ([], (0, (false, 0))))
  else if 40000 < e + (tz (val a) : Int) then (false, ([], (0, (false, 30))))
  else frO P.toNat m neg (oddN (val a)) (e + (tz (val a) : Int))
theorem Free_all {a : List Int} (ha : WF a) (m P : Int) (neg : Bool) (e : Int) : Ev (fun k => round_Free k m P neg a e) (frR m P neg a e) ∧ Ev (fun k => vernierref05_Free k m P neg a e) (frR m P neg a e) := by
  have me := modeErr_ev m
  have cn := r3Canon_ev ha e neg
  unfold frR
  unfold canR at cn
  by_cases hm : 0 ≤ m ∧ m ≤ 5
  · rw [if_pos hm] at me
    rw [if_neg (not_not_intro hm)]
    by_cases hP : P < 1 ∨ 128 < P
    · rw [if_pos hP]
      by_cases c1 : P < 1
      · exact ⟨Ev.congr (fun k => round_Free_eq k _ _ _ _ _) (Ev.bind me (Ev.neg (nF rfl) (Ev.pos (dT c1) (Ev.some _)))),
          Ev.congr (fun k => vernierref05_Free_eq k _ _ _ _ _) (Ev.neg (dF (by omega)) (Ev.neg (dF (by omega)) (Ev.congr (fun k => vernierref05_Free.j0_eq k _ _ _ _ _ _ _) (Ev.pos (dT c1) (Ev.some _)))))⟩
      · exact ⟨Ev.congr (fun k => round_Free_eq k _ _ _ _ _) (Ev.bind me (Ev.neg (nF rfl) (Ev.neg (dF c1) (Ev.pos (dT (by omega)) (Ev.some _))))),
          Ev.congr (fun k => vernierref05_Free_eq k _ _ _ _ _) (Ev.neg (dF (by omega)) (Ev.neg (dF (by omega)) (Ev.congr (fun k => vernierref05_Free.j0_eq k _ _ _ _ _ _ _) (Ev.neg (dF c1) (Ev.pos (dT (by omega)) (Ev.some _))))))⟩
    · rw [if_neg hP]
      have mkp : ∀ R, Ev (fun k => round_Free.j0 k m P neg a e false 0) R → Ev (fun k => round_Free k m P neg a e) R := fun R h =>
        Ev.congr (fun k => round_Free_eq k _ _ _ _ _) (Ev.bind me (Ev.neg (nF rfl) (Ev.neg (dF (by omega)) (Ev.neg (dF (by omega)) h))))
      have mkr : ∀ R, Ev (fun k => vernierref05_Free.j1 k m P neg a e false 0) R → Ev (fun k => vernierref05_Free k m P neg a e) R := fun R h =>
        Ev.congr (fun k => vernierref05_Free_eq k _ _ _ _ _) (Ev.neg (dF (by omega)) (Ev.neg (dF (by omega)) (Ev.congr (fun k => vernierref05_Free.j0_eq k _ _ _ _ _ _ _) (Ev.neg (dF (by omega)) (Ev.neg (dF (by omega)) h)))))
      by_cases cb : badE a e ≠ 0
      · rw [if_pos cb] at cn ⊢
        exact ⟨mkp _ (Ev.congr (fun k => round_Free.j0_eq k _ _ _ _ _ _ _) (Ev.bind (Canon_bad cb neg) (Ev.pos (nT cb) (Ev.some _)))),
          mkr _ (Ev.congr (fun k => vernierref05_Free.j1_eq k _ _ _ _ _ _ _) (Ev.bind cn (Ev.pos (nT cb) (Ev.some _))))⟩
      · rw [if_neg cb] at cn ⊢
        obtain ⟨b1, b2, b3⟩ := badE_ok (show badE a e = 0 by omega)
        by_cases c0 : val a = 0
        · rw [if_pos c0] at cn ⊢
          exact ⟨mkp _ (Ev.congr (fun k => round_Free.j0_eq k _ _ _ _ _ _ _) (Ev.bind (Canon_zero ha b1 ⟨b2, b3⟩ c0 neg) (Ev.neg (nF rfl) (Ev.pos (bT rfl) (Ev.some _))))),
            mkr _ (Ev.congr (fun k => vernierref05_Free.j1_eq k _ _ _ _ _ _ _) (Ev.bind cn (Ev.neg (nF rfl) (Ev.pos (bT rfl) (Ev.some _)))))⟩
        · rw [if_neg c0] at cn ⊢
          by_cases ct : 40000 < e + (tz (val a) : Int)
          · rw [if_pos ct] at cn ⊢
            exact ⟨mkp _ (Ev.congr (fun k => round_Free.j0_eq k _ _ _ _ _ _ _) (Ev.bind (Canon_exp ha b1 ⟨b2, b3⟩ c0 ct neg) (Ev.pos (nT (by decide)) (Ev.some _)))),
              mkr _ (Ev.congr (fun k => vernierref05_Free.j1_eq k _ _ _ _ _ _ _) (Ev.bind cn (Ev.pos (nT (by decide)) (Ev.some _))))⟩
          · rw [if_neg ct] at cn ⊢
            have hln : (digs (val a)).length ≤ 1024 := Nat.le_trans (digs_length_lt.2 (val_lt ha)) b1
            have hlo : (digs (oddN (val a))).length ≤ 1024 := Nat.le_trans (digs_len_mono (oddN_le _)) hln
            have hpo := digs_len_pos.2 (oddN_ne c0)
            have hod := oddN_odd c0
            obtain ⟨p, rfl⟩ := Int.eq_ofNat_of_zero_le (show 0 ≤ P by omega)
            have fp := Free5_j1 hod hlo (E := e + (tz (val a) : Int)) (by omega) (P := p) (by omega) (by omega) (m := m) neg
            have fr := rFree5_j2 hod hlo (E := e + (tz (val a) : Int)) (by omega) (P := p) (by omega) (by omega) (m := m) neg
            rw [Int.toNat_natCast]
            refine ⟨mkp _ (Ev.congr (fun k => round_Free.j0_eq k _ _ _ _ _ _ _) (Ev.bind (Canon_ok ha b1 ⟨b2, b3⟩ c0 (by omega) neg) (Ev.neg (nF rfl) (Ev.neg (bF ?_) fp)))),
              mkr _ (Ev.congr (fun k => vernierref05_Free.j1_eq k _ _ _ _ _ _ _) (Ev.bind cn (Ev.neg (nF rfl) (Ev.neg (bF ?_) fr))))⟩
            · show ¬ (((digs (oddN (val a))).length : Int) = 0); omega
            · show ¬ (((digs (oddN (val a))).length : Int) = 0); omega
  · rw [if_neg hm] at me
    rw [if_pos hm]
    refine ⟨Ev.congr (fun k => round_Free_eq k _ _ _ _ _) (Ev.bind me (Ev.pos (nT (by decide)) (Ev.some _))), Ev.congr (fun k => vernierref05_Free_eq k _ _ _ _ _) ?_⟩
    by_cases c1 : m < 0
    · exact Ev.pos (dT c1) (Ev.some _)
    · exact Ev.neg (dF c1) (Ev.pos (dT (by omega)) (Ev.some _))
end Go.Proofs.YtbaaggmicpigeaaGreatDoor.X
