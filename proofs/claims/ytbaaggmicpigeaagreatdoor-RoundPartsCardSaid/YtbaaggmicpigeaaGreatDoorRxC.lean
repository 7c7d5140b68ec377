/- Plain law: layer 5's fractions and parts, the program's and the reference's, for all inputs. Conditions: the words are words. -/
import Derived.Test.YtbaaggmicpigeaaGreatDoorRxA
namespace Go.Proofs.YtbaaggmicpigeaaGreatDoor.X
open Go Go.Rex
set_option linter.unusedVariables false

theorem Ratio_all (f m : Int) (neg : Bool) {a b : List Int} (ha : WF a) (hb : WF b) (la : a.length ≤ 17592186044000) (lb : b.length ≤ 17592186044000) (e : Int) : ∃ r : Int × Int × Int, Ev (fun k => round_Ratio k f m neg a b e) r ∧ Ev (fun k => vernierref05_Ratio k f m neg a b e) r := by
  by_cases c : fmE f m = 0
  · obtain ⟨cf, hm⟩ := fmE_zero c
    obtain ⟨W, P, em, ex, h⟩ := fm_of cf.1 cf.2
    have La : Lb a := by unfold Lb; omega
    have Lb' : Lb b := by unfold Lb; omega
    refine ⟨_, Ratio_ev h hm ha hb La Lb' e neg, ?_⟩
    have da : (digs (val a)).length ≤ a.length := digs_length_lt.2 (val_lt ha)
    have db : (digs (val b)).length ≤ b.length := digs_length_lt.2 (val_lt hb)
    refine Ev.congr (fun k => vernierref05_Ratio_eq k _ _ _ _ _ _) (Ev.bind (good5_ev f m) (Ev.neg (nF c) (Ev.bind (rTrim_ev ha La) (Ev.bind (rTrim_ev hb Lb') ?_))))
    generalize val a = num at *
    generalize val b = den at *
    rw [add_i _ _ (by omega)]
    unfold raR
    by_cases c1 : 1024 < (digs num).length + (digs den).length
    · rw [if_pos c1]; exact Ev.pos (dT (by omega)) (Ev.some _)
    · rw [if_neg c1]
      refine Ev.neg (dF (by omega)) ?_
      by_cases c2 : e < -40000
      · rw [if_pos (show e < -40000 ∨ 40000 < e by omega)]; exact Ev.pos (dT c2) (Ev.some _)
      · refine Ev.neg (dF c2) ?_
        by_cases c3 : e > 40000
        · rw [if_pos (show e < -40000 ∨ 40000 < e by omega)]; exact Ev.pos (dT c3) (Ev.some _)
        · rw [if_neg (show ¬ (e < -40000 ∨ 40000 < e) by omega)]
          refine Ev.neg (dF c3) (Ev.congr (fun k => vernierref05_Ratio.j0_eq k _ _ _ _ _ _) ?_)
          by_cases c4 : den = 0
          · rw [if_pos c4]; exact Ev.pos (bT (by rw [c4, digs_zero]; rfl)) (Ev.some _)
          · rw [if_neg c4]
            have hp := digs_len_pos.2 c4
            have ro := Round_ev h (a := digs num) (b := digs den) (WF.digs _) (WF.digs _) (by omega) (by omega) (by rw [val_digs]; exact c4) (e := e) (by omega) m neg
            rw [val_digs, val_digs] at ro
            refine Ev.neg (bF (show ¬ (((digs den).length : Int) = 0) by omega)) (Ev.bind ro (Ev.eq (Ev.some _) ?_))
            by_cases c5 : num = 0
            · rw [if_pos c5, if_pos c5]
            · rw [if_neg c5, if_neg c5]
  · refine ⟨(0, (0, fmE f m)), ?_, ?_⟩
    · obtain ⟨W, P, em, ex, r0⟩ := refuses5_ev f m
      exact Ev.congr (fun k => round_Ratio_eq k _ _ _ _ _ _) (Ev.bind r0 (Ev.pos (nT c) (Ev.some _)))
    · exact Ev.congr (fun k => vernierref05_Ratio_eq k _ _ _ _ _ _) (Ev.bind (good5_ev f m) (Ev.pos (nT c) (Ev.some _)))
theorem Parts_all (f m : Int) (neg : Bool) {hi lo : Nat} (hhi : hi < 18446744073709551616) (hlo : lo < 18446744073709551616) (e : Int) (more : Bool) : ∃ r : Int × Int × Int, Ev (fun k => round_Parts k f m neg (hi : Int) (lo : Int) e more) r ∧ Ev (fun k => vernierref05_Parts k f m neg (hi : Int) (lo : Int) e more) r := by
  by_cases c : fmE f m = 0
  · obtain ⟨cf, hm⟩ := fmE_zero c
    obtain ⟨W, P, em, ex, h⟩ := fm_of cf.1 cf.2
    refine ⟨_, Parts_ev h hm hhi hlo e neg more, ?_⟩
    have h8 := h.p8; have h53 := h.p53
    have w2 : WF (((List.replicate 2 (0 : Int)).set 0 (lo : Int)).set 1 (hi : Int)) := WF.cons (by omega) (by omega) (WF.cons (by omega) (by omega) WF.nil)
    have ev2 : val (((List.replicate 2 (0 : Int)).set 0 (lo : Int)).set 1 (hi : Int)) = lo + 18446744073709551616 * hi := by
      show (lo : Int).toNat + 18446744073709551616 * ((hi : Int).toNat + 18446744073709551616 * 0) = _
      rw [Int.toNat_natCast, Int.toNat_natCast]; omega
    have tr := rTrim_ev w2 (by unfold Lb; simp)
    rw [ev2] at tr
    have hl2 : (digs (lo + 18446744073709551616 * hi)).length ≤ 2 := digs_length_lt.2 (by
      show _ < 18446744073709551616 ^ 2
      have : lo + 18446744073709551616 * hi < 340282366920938463463374607431768211456 := by omega
      exact Nat.lt_of_lt_of_le this (by decide))
    generalize lo + 18446744073709551616 * hi = n at *
    refine Ev.congr (fun k => vernierref05_Parts_eq k _ _ _ _ _ _ _) (Ev.bind (good5_ev f m) (Ev.neg (nF c) ?_))
    unfold paR
    by_cases c2 : e < -40000
    · rw [if_pos (show e < -40000 ∨ 40000 < e by omega)]; exact Ev.pos (dT c2) (Ev.some _)
    · refine Ev.neg (dF c2) ?_
      by_cases c3 : e > 40000
      · rw [if_pos (show e < -40000 ∨ 40000 < e by omega)]; exact Ev.pos (dT c3) (Ev.some _)
      · rw [if_neg (show ¬ (e < -40000 ∨ 40000 < e) by omega)]
        refine Ev.neg (dF c3) (Ev.congr (fun k => vernierref05_Parts.j0_eq k _ _ _ _ _ _ _) (Ev.bind tr (Ev.bind (Ev.of fun k => row_at h k) ?_)))
        have ln := rLen_ev (a := digs n) (WF.digs _) (by unfold Lb; omega)
        rw [val_digs] at ln
        have whole : ∀ (d : List Int) (e : Int), Ev (fun k => vernierref05_Whole k neg d e) (neg, (d, (digs 1, e))) := fun d e => Ev.of fun k => by rw [vernierref05_Whole_eq, one_words]
        have l1 : (digs 1).length ≤ 4000 := by rw [← one_words]; decide
        cases more with
        | true =>
          refine Ev.pos rfl (Ev.bind ln ?_)
          have e2 : IntKind.i64.wrap ((P : Int) + 2) = (P : Int) + 2 := wrapI (by omega) (by omega)
          show Ev (fun k => if decide ((blen n : Int) < IntKind.i64.wrap ((P : Int) + 2)) = true then _ else _) _
          rw [e2]
          by_cases c4 : blen n < P + 2
          · rw [if_pos ⟨rfl, c4⟩]; exact Ev.pos (dT (by omega)) (Ev.some _)
          · rw [if_neg (fun g => c4 g.2)]
            have hn0 : n ≠ 0 := by
              intro z
              rw [z] at c4
              have : blen 0 = 0 := by decide
              omega
            rw [if_neg hn0]
            have up := rUp_ev (a := digs n) (WF.digs _) (by unfold Lb; omega) (t := 1) (by decide) (by rw [val_digs]; omega)
            rw [val_digs] at up
            have d3 : (digs (n * 2 ^ 1)).length ≤ 3 := digs_length_lt.2 (by
              have := digs_length_lt.1 hl2
              show _ < 18446744073709551616 ^ 3
              have e9 : (18446744073709551616 : Nat) ^ 3 = 18446744073709551616 ^ 2 * 18446744073709551616 := rfl
              rw [Nat.pow_one, e9]
              have : n < 18446744073709551616 ^ 2 := this
              omega)
            have ad := rAdd_ev (a := digs (n * 2 ^ 1)) (b := digs 1) (WF.digs _) (WF.digs _) (by unfold Lb; omega) (by unfold Lb; omega) (by rw [val_digs]; omega) (by rw [val_digs]; omega)
            rw [val_digs, val_digs] at ad
            have d4 : (digs (n * 2 ^ 1 + 1)).length ≤ 3 := digs_length_lt.2 (by
              have := digs_length_lt.1 hl2
              show _ < 18446744073709551616 ^ 3
              have e9 : (18446744073709551616 : Nat) ^ 3 = 18446744073709551616 ^ 2 * 18446744073709551616 := rfl
              rw [Nat.pow_one, e9]
              have : n < 18446744073709551616 ^ 2 := this
              omega)
            have ro := Round_ev h (a := digs (n * 2 ^ 1 + 1)) (b := digs 1) (WF.digs _) (WF.digs _) (by omega) l1 (by rw [val_digs]; decide) (e := e - 1) (by omega) m neg
            rw [val_digs, val_digs, if_neg (by omega)] at ro
            have ew : IntKind.i64.wrap (e - 1) = e - 1 := wrapI (by omega) (by omega)
            have hc := r_shift (A := 2 * n + 1) (B := 2) (A' := n * 2 ^ 1 + 1) (B' := 1) (e := e) (e' := e - 1) (em - (P : Int) + 1) 1 (by omega) (by rw [Nat.pow_one]; omega)
            have hq := rnOut_cross W P m neg (rB_pos (show 0 < 2 by decide) e (em - (P : Int) + 1)) (rB_pos Nat.one_pos (e - 1) (em - (P : Int) + 1)) hc
            rw [← hq] at ro
            refine Ev.neg (dF (by omega)) (Ev.congr (fun k => vernierref05_Parts.j1_eq k _ _ _ _ _ _) (Ev.pos rfl (Ev.bind up ?_)))
            rw [one_words, ew]
            exact Ev.bind ad (Ev.bind (whole _ _) (Ev.bind ro (Ev.some _)))
        | false =>
          rw [if_neg (fun g => Bool.noConfusion g.1)]
          refine Ev.neg (by decide) (Ev.congr (fun k => vernierref05_Parts.j1_eq k _ _ _ _ _ _) (Ev.neg (by decide) (Ev.bind (whole _ _) ?_)))
          have ro := Round_ev h (a := digs n) (b := digs 1) (WF.digs _) (WF.digs _) (by omega) l1 (by rw [val_digs]; decide) (e := e) (by omega) m neg
          rw [val_digs, val_digs] at ro
          refine Ev.bind ro (Ev.eq (Ev.some _) ?_)
          by_cases c5 : n = 0
          · rw [if_pos c5, if_pos c5]
          · rw [if_neg c5, if_neg c5]; rfl
  · refine ⟨(0, (0, fmE f m)), ?_, ?_⟩
    · obtain ⟨W, P, em, ex, r0⟩ := refuses5_ev f m
      exact Ev.congr (fun k => round_Parts_eq k _ _ _ _ _ _ _) (Ev.bind r0 (Ev.pos (nT c) (Ev.some _)))
    · exact Ev.congr (fun k => vernierref05_Parts_eq k _ _ _ _ _ _ _) (Ev.bind (good5_ev f m) (Ev.pos (nT c) (Ev.some _)))
end Go.Proofs.YtbaaggmicpigeaaGreatDoor.X
