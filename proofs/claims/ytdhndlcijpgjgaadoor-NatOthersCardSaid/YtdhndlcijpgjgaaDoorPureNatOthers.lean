/- Plain law: NatOthers answers true. Conditions: what the reading says of the script. -/
import Derived.Test.YtdhndlcijpgjgaaDoorNatPlay
import Derived.Test.YtdhndlcijpgjgaaDoorRfF
import Derived.Test.YtdhndlcijpgjgaaDoorRfG
namespace Go.Proofs.YtdhndlcijpgjgaaDoor.X
open Go Go.Rex
set_option linter.unusedVariables false

theorem Shl_all {a : List Int} (ha : WF a) (la : Lb a) (n : Int) : Ev (fun k => nat_Shl k a n) (if n < 0 ∨ 65536 < n then (([] : List Int), (7 : Int)) else if (digs (val a)).length ≤ 1024 ∧ (digs (val a * 2 ^ n.toNat)).length ≤ 1024 then (digs (val a * 2 ^ n.toNat), (0 : Int)) else (([] : List Int), (5 : Int))) := by
  by_cases c1 : n < 0 ∨ 65536 < n
  · rw [if_pos c1]; exact Shl_range c1
  · rw [if_neg c1]
    obtain ⟨t, rfl⟩ := Int.eq_ofNat_of_zero_le (show 0 ≤ n by omega)
    rw [Int.toNat_natCast]
    by_cases c2 : (digs (val a)).length ≤ 1024 ∧ (digs (val a * 2 ^ t)).length ≤ 1024
    · rw [if_pos c2]; exact Shl_ev ha la (by omega) c2.1 c2.2
    · rw [if_neg c2]; exact Shl_size ha la (by omega) (by omega)
theorem Shr_all {a : List Int} (ha : WF a) (la : Lb a) {n : Int} (hn : n ≤ 9223372036854775807) : Ev (fun k => nat_Shr k a n) (if n < 0 then (([] : List Int), (7 : Int)) else (digs (val a / 2 ^ n.toNat), (0 : Int))) := by
  by_cases c1 : n < 0
  · rw [if_pos c1]; exact Shr_range c1
  · rw [if_neg c1]
    obtain ⟨t, rfl⟩ := Int.eq_ofNat_of_zero_le (show 0 ≤ n by omega)
    rw [Int.toNat_natCast]
    exact Shr_ev ha la t (by omega)
theorem Jam_all {a : List Int} (ha : WF a) (la : Lb a) {n : Int} (hn : n ≤ 9223372036854775807) : Ev (fun k => nat_Jam k a n) (if n < 0 then (([] : List Int), (7 : Int)) else (digs (jamN (val a) n.toNat), (0 : Int))) := by
  by_cases c1 : n < 0
  · rw [if_pos c1]; exact Jam_range c1
  · rw [if_neg c1]
    obtain ⟨t, rfl⟩ := Int.eq_ofNat_of_zero_le (show 0 ≤ n by omega)
    rw [Int.toNat_natCast]
    exact Jam_ev ha la (by omega)
theorem Root_long {a : List Int} (ha : WF a) (la : Lb a) (hl : 1024 < (digs (val a)).length) : Ev (fun k => nat_Root k a) (([] : List Int), (false, (5 : Int))) := by
  refine Ev.congr (fun k => nat_Root_eq k a) ?_
  rw [set1]
  exact Ev.bind (Ev.eq (great_ev (l := [a]) (fun x hx => by simp at hx; subst hx; exact ⟨ha, la⟩) (by simp)) (r' := true) (by simp; omega)) (Ev.pos rfl (Ev.some _))
theorem Power_all {b : Nat} (hb : b < 18446744073709551616) (n : Int) : Ev (fun k => nat_Power k (b : Int) n) (if n < 0 ∨ 20000 < n then (([] : List Int), (7 : Int)) else if (digs (b ^ n.toNat)).length ≤ 1024 then (digs (b ^ n.toNat), (0 : Int)) else (([] : List Int), (5 : Int))) := by
  by_cases c1 : n < 0 ∨ 20000 < n
  · rw [if_pos c1]; exact Power_range c1
  · rw [if_neg c1]
    obtain ⟨t, rfl⟩ := Int.eq_ofNat_of_zero_le (show 0 ≤ n by omega)
    rw [Int.toNat_natCast]
    exact Power_ev hb (by omega)
namespace Pure
theorem j0_ev {l : List Int} {e : Int} (hl : Lb l) : Ev (fun k => vernierlaw02_others.j0 k l e e l) true :=
  Ev.congr (fun k => vernierlaw02_others.j0_eq k _ _ _ _) (Ev.pos (bT rfl) (Ev.bind (same_refl hl) (Ev.some _)))
theorem lb_nil : Lb ([] : List Int) := by unfold Lb; simp
theorem lb_jam {v n : Nat} (h : (digs v).length ≤ 17592186043904) : Lb (digs (jamN v n)) := by
  have h1 : jamN v n ≤ v + 1 := by
    unfold jamN
    have := Nat.div_le_self v (2 ^ n)
    split <;> omega
  have h2 := digs_length_lt.1 (Nat.le_refl (digs v).length)
  have h3 : v + 1 < 18446744073709551616 ^ ((digs v).length + 1) := by
    rw [Nat.pow_succ]
    have : 0 < 18446744073709551616 ^ (digs v).length := Nat.pow_pos (by decide)
    omega
  have h4 := Nat.le_trans (digs_len_mono h1) (digs_length_lt.2 h3)
  unfold Lb; omega
theorem lb_parN {l : List Int} : Lb (parN l).1 := by
  by_cases h : Dig l
  · rw [parN_dig h]
    by_cases c : (digs (dval l)).length ≤ 1024
    · rw [if_pos c]; show Lb (digs (dval l)); unfold Lb; omega
    · rw [if_neg c]; exact lb_nil
  · rw [parN_bad h]; exact lb_nil
theorem others_ev {a b : List Int} (ha : Ws a) {x n w : Int} {s : ByteArray} (hn : n ≤ 9223372036854775807) (hw : 0 ≤ w ∧ w < 18446744073709551616) : Ev (fun k => vernierlaw02_others k x a b n w s a) true := by
  have la := ha.lb
  have wa := ha.wf
  have da := ha.dl
  refine Ev.congr (fun k => vernierlaw02_others_eq k _ _ _ _ _ _ _) ?_
  by_cases c1 : x = 8
  · refine Ev.pos (bT c1) (Ev.bind (Shl_all wa la n) (Ev.bind (rShl_ev wa la n) (j0_ev ?_)))
    split
    · exact lb_nil
    · split
      · rename_i h; show Lb (digs (val a * 2 ^ n.toNat)); unfold Lb; omega
      · exact lb_nil
  · refine Ev.neg (bF c1) ?_
    by_cases c2 : x = 9
    · refine Ev.pos (bT c2) (Ev.bind (Shr_all wa la hn) (Ev.bind (rShr_ev wa la hn) (j0_ev ?_)))
      split
      · exact lb_nil
      · show Lb (digs (val a / 2 ^ n.toNat))
        have := digs_len_mono (Nat.div_le_self (val a) (2 ^ n.toNat))
        unfold Lb; omega
    · refine Ev.neg (bF c2) ?_
      by_cases c3 : x = 10
      · refine Ev.pos (bT c3) (Ev.bind (Jam_all wa la hn) (Ev.bind (rJam_ev wa la hn (by omega)) (j0_ev ?_)))
        split
        · exact lb_nil
        · exact lb_jam da
      · refine Ev.neg (bF c3) ?_
        by_cases c4 : x = 11
        · refine Ev.pos (bT c4) ?_
          by_cases hl : (digs (val a)).length ≤ 1024
          · obtain ⟨R, R1, R2, R3⟩ := rRoot_ev wa la hl
            have hR : Lb (digs R) := by
              have h1 : R ≤ val a := Nat.le_trans (by cases R with | zero => exact Nat.le_refl _ | succ r => exact Nat.le_mul_of_pos_left _ (by omega)) R1
              have := digs_len_mono h1
              unfold Lb; omega
            exact Ev.bind (Root_ev wa la hl R1 R2) (Ev.bind R3 (Ev.pos (bT rfl) (Ev.pos (by simp) (Ev.bind (same_refl hR) (Ev.some _)))))
          · exact Ev.bind (Root_long wa la (by omega)) (Ev.bind (rRoot_size wa la (by omega)) (Ev.pos (bT rfl) (Ev.pos (by simp) (Ev.bind (same_refl lb_nil) (Ev.some _)))))
        · refine Ev.neg (bF c4) ?_
          by_cases c5 : x = 12
          · obtain ⟨b, rfl⟩ := Int.eq_ofNat_of_zero_le hw.1
            refine Ev.pos (bT c5) (Ev.bind (Power_all (by omega) n) (Ev.bind (rPower_ev (by omega) n) (j0_ev ?_)))
            split
            · exact lb_nil
            · split
              · rename_i h; show Lb (digs (b ^ n.toNat)); unfold Lb; omega
              · exact lb_nil
          · refine Ev.neg (bF c5) ?_
            by_cases c6 : x = 13
            · refine Ev.pos (bT c6) ?_
              by_cases hl : (digs (val a)).length ≤ 1024
              · exact Ev.bind (Text_ev wa la hl) (Ev.bind (rText_ev wa la hl) (Ev.pos (bT rfl) (Ev.eq (Ev.some _) (by rw [beq_self_eq_true]))))
              · exact Ev.bind (Text_long wa la (by omega)) (Ev.bind (rText_long wa la (by omega)) (Ev.pos (bT rfl) (Ev.eq (Ev.some _) (by rw [beq_self_eq_true]))))
            · refine Ev.neg (bF c6) (Ev.bind Parse_all (Ev.bind rParse_ev (j0_ev ?_)))
              split
              · exact lb_nil
              · split
                · exact lb_nil
                · exact lb_parN
/-- For all scripts: true. -/
theorem NatOthers (l : List OpT) (w : WFt (.sl OpTy) l) : Ev (fun k => vernierlaw02_NatOthers k l) true := by
  obtain ⟨h1, h2⟩ := op_of w
  refine Ev.congr (fun k => vernierlaw02_NatOthers_eq k _) (Ev.bind (all_ev h1 fun o ho c1 c2 => ?_) (Ev.some _))
  obtain ⟨g1, g2, g3, g4, g5⟩ := h2 o ho
  exact plays_ev g1 g2 (by omega) (by omega) (fun _ => by omega) (fun _ _ => by omega) (fun _ => others_ev g1 g3.2 g4)
end Pure
end Go.Proofs.YtdhndlcijpgjgaaDoor.X
