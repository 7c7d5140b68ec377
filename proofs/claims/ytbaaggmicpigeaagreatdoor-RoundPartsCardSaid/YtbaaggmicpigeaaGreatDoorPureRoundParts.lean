/- Plain law: RoundParts answers true. Conditions: what the reading says of the arguments. -/
import Derived.Test.YtbaaggmicpigeaaGreatDoorRxB
import Derived.Test.YtbaaggmicpigeaaGreatDoorRxC
import Derived.Test.YtbaaggmicpigeaaGreatDoorR2
namespace Go.Proofs.YtbaaggmicpigeaaGreatDoor.X
open Go Go.Rex
set_option linter.unusedVariables false

theorem frR_len {a : List Int} (ha : WF a) (m P : Int) (neg : Bool) (e : Int) : (frR m P neg a e).2.1.length ≤ 1024 := by
  unfold frR
  by_cases c1 : ¬ (0 ≤ m ∧ m ≤ 5)
  · rw [if_pos c1]; exact Nat.zero_le _
  rw [if_neg c1]
  by_cases c2 : P < 1 ∨ 128 < P
  · rw [if_pos c2]; exact Nat.zero_le _
  rw [if_neg c2]
  by_cases c3 : badE a e ≠ 0
  · rw [if_pos c3]; exact Nat.zero_le _
  rw [if_neg c3]
  by_cases c4 : val a = 0
  · rw [if_pos c4]; exact Nat.zero_le _
  rw [if_neg c4]
  by_cases c5 : 40000 < e + (tz (val a) : Int)
  · rw [if_pos c5]; exact Nat.zero_le _
  rw [if_neg c5]
  obtain ⟨b1, b2, b3⟩ := badE_ok (show badE a e = 0 by omega)
  have hln : (digs (val a)).length ≤ 1024 := Nat.le_trans (digs_length_lt.2 (val_lt ha)) b1
  have hlo : (digs (oddN (val a))).length ≤ 1024 := Nat.le_trans (digs_len_mono (oddN_le _)) hln
  have hod := oddN_odd c4
  unfold frO
  by_cases c6 : e + (tz (val a) : Int) + (blen (oddN (val a)) : Int) - (P.toNat : Int) ≤ e + (tz (val a) : Int)
  · rw [if_pos c6]; exact hlo
  rw [if_neg c6]
  obtain ⟨U0, U3, V3, L0⟩ := cut_facts5 hod hlo (E := e + (tz (val a) : Int)) (by omega) (P := P.toNat) (by omega) (by omega) neg rfl (by omega) m
  split
  · exact Nat.zero_le _
  · exact Nat.le_trans (digs_len_mono (oddN_le _)) (by omega)
theorem getD_end (l y : List Int) (x : Int) {n : Nat} (hn : n = l.length) : (l ++ x :: y).getD n 0 = x := by
  rw [List.getD_eq_getElem?_getD, List.getElem?_append_right (by omega), hn, Nat.sub_self]; rfl
section
variable {a : List Int} (ha : WF a) (hl : a.length ≤ 17592186044000) (m P : Int) (neg : Bool) (e : Int)
include ha hl
theorem parts5_l0 (x1 x2 : Int) (b7 : Bool) (l8 l9 : List Int) (x10 x11 : Int) (b13 b19 : Bool) (x20 : Int) (b21 : Bool) (x23 : Int) (b25 : Bool) (x26 : Int) (n : Nat) :
    ∀ (i : Nat) (l : List Int), i + n = l.length → l.length = (frR m P neg a e).2.1.length → Ev2 (fun k z => vernierlaw05_parts.l0 k z (i : Int) x1 x2 m neg a e b7 l8 l9 x10 x11 P b13 (a ++ marks) neg a.length e l b19 x20 b21 (frR m P neg a e).2.1 x23 (frR m P neg a e).2.1 b25 x26) true := by
  have hw := frR_len ha m P neg e
  obtain ⟨fp, fr⟩ := Free_all ha m P neg e
  have kp := kept5_ev (a := a) (by omega)
  generalize hR : frR m P neg a e = R at *
  induction n with
  | zero =>
    intro i l hi hll
    have sr := same5_refl (a := R.2.1) (by unfold Lb; omega)
    refine Ev2.step (fun k z => vernierlaw05_parts.l0_eq k z _ _ _ _ _ _ _ _ _ _ _ _ _ _ _ _ _ _ _ _ _ _ _ _ _ _ _) (Ev2.neg (dF (by omega)) (Ev2.pos (capOk_of ?_) (Ev2.pos (capOk_of ?_) (Ev2.call kp (Ev2.neg (notF rfl) (Ev2.call sr (Ev2.neg (notF rfl) (Ev2.pos ⟨by omega, ?_⟩ (Ev2.neg ?_ (Ev2.pos ⟨by omega, ?_⟩ (Ev2.neg ?_ ?_)))))))))))
    · show (l.length + 3) * 8 ≤ _; omega
    · show (R.2.1.length + 3) * 8 ≤ _; omega
    · show _ < (((l ++ [71, 72, 73]).length : Nat) : Int); rw [List.length_append]; show _ < ((l.length + 3 : Nat) : Int); omega
    · rw [Int.toNat_natCast]
      show ¬ (((l ++ 71 :: [72, 73]).getD R.2.1.length 0 != 71) = true)
      rw [getD_end l _ _ (by omega)]; decide
    · show _ < (((R.2.1 ++ [81, 82, 83]).length : Nat) : Int); rw [List.length_append]; show _ < ((R.2.1.length + 3 : Nat) : Int); omega
    · rw [Int.toNat_natCast]
      show ¬ (((R.2.1 ++ 81 :: [82, 83]).getD R.2.1.length 0 != 81) = true)
      rw [getD_end R.2.1 _ _ rfl]; decide
    · rw [List.take_left]
      exact Ev2.call fp (Ev2.call sr (Ev2.some _))
  | succ n ih =>
    intro i l hi hll
    refine Ev2.step (fun k z => vernierlaw05_parts.l0_eq k z _ _ _ _ _ _ _ _ _ _ _ _ _ _ _ _ _ _ _ _ _ _ _ _ _ _ _) (Ev2.pos (dT (by omega)) (Ev2.pos ⟨by omega, by omega⟩ ?_))
    rw [succ_i i (by omega)]
    exact ih (i + 1) _ (by rw [List.length_set]; omega) (by rw [List.length_set]; exact hll)
end
theorem parts5_ev {x f m : Int} (neg : Bool) {a b c : List Int} (ha : WF a) (hb : WF b) (hc : WF c) (la : a.length ≤ 17592186044000) (lb : b.length ≤ 17592186044000) (lc : c.length ≤ 17592186044000) (e : Int) (neg2 : Bool) {h l : Int} (hh : 0 ≤ h ∧ h < 18446744073709551616) (hlo : 0 ≤ l ∧ l < 18446744073709551616) (s : Int) (t : Bool) :
    Ev (fun k => vernierlaw05_parts k x f m neg a e neg2 b c h l s t) true := by
  refine Ev.congr (fun k => vernierlaw05_parts_eq k _ _ _ _ _ _ _ _ _ _ _ _ _) ?_
  by_cases c1 : x = 4
  · refine Ev.pos (bT c1) (Ev.bind (twin5_ev (a := b) (by omega)) (Ev.bind (twin5_ev (a := c) (by omega)) ?_))
    obtain ⟨r, p, q⟩ := Ratio_all f m neg2 hb hc lb lc s
    have h1 : (b ++ marks).take b.length = b := List.take_left
    have h2 : (c ++ marks).take c.length = c := List.take_left
    show Ev (fun k => (round_Ratio k f m neg2 ((b ++ marks).take b.length) ((c ++ marks).take c.length) s).bind _) true
    rw [h1, h2]
    exact Ev.bind p (Ev.bind q (Ev.pos (bT rfl) (Ev.pos (bT rfl) (Ev.pos (bT rfl) (Ev.bind (kept5_ev (a := b) (by omega)) (Ev.pos rfl (Ev.bind (kept5_ev (a := c) (by omega)) (Ev.some _))))))))
  · refine Ev.neg (bF c1) ?_
    by_cases c2 : x = 5
    · obtain ⟨hi, rfl⟩ := Int.eq_ofNat_of_zero_le hh.1
      obtain ⟨lo, rfl⟩ := Int.eq_ofNat_of_zero_le hlo.1
      obtain ⟨r, p, q⟩ := Parts_all f m neg2 (hi := hi) (lo := lo) (by omega) (by omega) s t
      exact Ev.pos (bT c2) (Ev.bind p (Ev.bind q (Ev.pos (bT rfl) (Ev.pos (bT rfl) (Ev.eq (Ev.some _) (by rw [beq_self_eq_true]))))))
    · refine Ev.neg (bF c2) (Ev.bind (twin5_ev (a := a) (by omega)) ?_)
      obtain ⟨fp, fr⟩ := Free_all ha m s neg e
      have hw := frR_len ha m s neg e
      have h1 : (a ++ marks).take a.length = a := List.take_left
      show Ev (fun k => (round_Free k m s neg ((a ++ marks).take a.length) e).bind _) true
      have L := (parts5_l0 ha la m s neg e x f neg2 b c h l t (frR m s neg a e).1 (frR m s neg a e).2.2.1 (frR m s neg a e).1 (frR m s neg a e).2.2.1 (frR m s neg a e).1 (frR m s neg a e).2.2.1 (frR m s neg a e).2.1.length 0 (frR m s neg a e).2.1 (by omega) rfl).ev
      rw [h1]
      refine Ev.bind fp (Ev.bind fr (Ev.neg (notF (beq_self_eq_true _)) (Ev.neg (nF rfl) (Ev.bind (same5_refl (by unfold Lb; omega)) (Ev.neg (notF rfl) (Ev.neg (notF (beq_self_eq_true _)) (Ev.neg (nF rfl) (Ev.bind (kept5_ev (a := a) (by omega)) (Ev.neg (notF rfl) ?_)))))))))
      exact Ev.bind fp L
abbrev OpT := Int × (Int × (Int × ((Bool × ((List Int) × Int)) × (Bool × ((List Int) × ((List Int) × ((Int × Int) × (Int × Bool))))))))
abbrev OpTy : Ty := .pair (.int .i64) (.pair (.int .i64) (.pair (.int .i64) (.pair (.pair .bool (.pair (.sl (.int .u64)) (.int .i64))) (.pair .bool (.pair (.sl (.int .u64)) (.pair (.sl (.int .u64)) (.pair (.pair (.int .u64) (.int .u64)) (.pair (.int .i64) .bool))))))))
theorem opWs {x : List Int} (w : WFt (.sl (.int .u64)) x) : WF x ∧ x.length ≤ 17592186044000 := by
  obtain ⟨h1, h2⟩ := w
  refine ⟨fun y hy => wf_u64 (h2 y hy), ?_⟩
  simp only [minB, IntKind.bits] at h1
  omega
theorem op_of {l : List OpT} (w : WFt (.sl OpTy) l) : l.length ≤ 17592186044416 ∧ ∀ o ∈ l, WFt OpTy o := by
  obtain ⟨h1, h2⟩ := w
  refine ⟨?_, h2⟩
  simp only [minB, IntKind.bits] at h1; omega
theorem all5_l0 {l : List OpT} (hl : l.length ≤ 17592186044416) {lo hi : Int}
    (H : ∀ o ∈ l, lo ≤ o.1 → o.1 ≤ hi → (o.1 ≤ 3 → Ev (fun k => vernierlaw05_exact k o.1 o.2.1 o.2.2.1 o.2.2.2.1.1 o.2.2.2.1.2.1 o.2.2.2.1.2.2 o.2.2.2.2.1 o.2.2.2.2.2.1 o.2.2.2.2.2.2.1 o.2.2.2.2.2.2.2.1.1 o.2.2.2.2.2.2.2.1.2 o.2.2.2.2.2.2.2.2.1 o.2.2.2.2.2.2.2.2.2) true) ∧ (3 < o.1 → Ev (fun k => vernierlaw05_parts k o.1 o.2.1 o.2.2.1 o.2.2.2.1.1 o.2.2.2.1.2.1 o.2.2.2.1.2.2 o.2.2.2.2.1 o.2.2.2.2.2.1 o.2.2.2.2.2.2.1 o.2.2.2.2.2.2.2.1.1 o.2.2.2.2.2.2.2.1.2 o.2.2.2.2.2.2.2.2.1 o.2.2.2.2.2.2.2.2.2) true)) (n : Nat) :
    ∀ i : Nat, i + n = l.length → Ev2 (fun k m => vernierlaw05_all.l0 k m lo hi l (l.length : Int) (i : Int)) true := by
  induction n with
  | zero =>
    intro i hi'
    exact Ev2.step (fun k m => vernierlaw05_all.l0_eq k m _ _ _ _ _) (Ev2.neg (dF (by omega)) (Ev2.some _))
  | succ n ih =>
    intro i hi'
    refine Ev2.step (fun k m => vernierlaw05_all.l0_eq k m _ _ _ _ _) ?_
    rw [Int.toNat_natCast, succ_i i (by omega)]
    have hmem : l.getD i (0, (0, (0, ((false, ([], 0)), (false, ([], ([], ((0, 0), (0, false)))))))))  ∈ l := by rw [List.getD_eq_getElem?_getD, List.getElem?_eq_getElem (show i < l.length by omega)]; exact List.getElem_mem _
    have Ho := H _ hmem
    generalize l.getD i (0, (0, (0, ((false, ([], 0)), (false, ([], ([], ((0, 0), (0, false))))))))) = o at *
    refine Ev2.pos (dT (by omega)) (Ev2.pos ⟨by omega, by omega⟩ ?_)
    have nx := ih (i + 1) (by omega)
    by_cases c1 : o.1 < lo
    · exact Ev2.pos (dT c1) nx
    · refine Ev2.neg (dF c1) ?_
      by_cases c2 : o.1 > hi
      · exact Ev2.pos (dT c2) nx
      · refine Ev2.neg (dF c2) ?_
        obtain ⟨h1, h2⟩ := Ho (by omega) (by omega)
        by_cases c3 : o.1 ≤ 3
        · exact Ev2.pos (dT c3) (Ev2.call (h1 c3) (Ev2.neg (notF rfl) (Ev2.neg (dF (by omega)) nx)))
        · exact Ev2.neg (dF c3) (Ev2.pos (dT (by omega)) (Ev2.call (h2 (by omega)) (Ev2.neg (notF rfl) nx)))
namespace Pure
/-- For all scripts: true. -/
theorem RoundParts (l : List OpT) (w : WFt (.sl OpTy) l) : Ev (fun k => vernierlaw05_RoundParts k l) true := by
  obtain ⟨h1, h2⟩ := op_of w
  refine Ev.congr (fun k => vernierlaw05_RoundParts_eq k _) (Ev.bind (Ev.congr (fun k => vernierlaw05_all_eq k _ _ _) (Ev.bind awake05_ev (Ev.neg (notF rfl) (all5_l0 h1 (fun o ho c1 c2 => ⟨fun c3 => by omega, fun c3 => ?_⟩) l.length 0 (by omega)).ev))) (Ev.some _))
  obtain ⟨g1, g2, g3, g4, g5⟩ := h2 o ho
  obtain ⟨g6, g7, g8⟩ := g4
  obtain ⟨g9, g10, g11, g12, g13⟩ := g5
  obtain ⟨wa, la⟩ := opWs g7
  obtain ⟨wb, lb⟩ := opWs g10
  obtain ⟨wc, lc⟩ := opWs g11
  exact parts5_ev _ wa wb wc la lb lc _ _ (wf_u64 g12.1) (wf_u64 g12.2) _ _
end Pure
end Go.Proofs.YtbaaggmicpigeaaGreatDoor.X
