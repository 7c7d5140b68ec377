/- Plain law: NatRoots answers true. Conditions: what the reading says of the list and the number. -/
import Derived.Test.YtdhndlcijpgjgaaDoorNatJ
import Derived.Test.YtdhndlcijpgjgaaDoorR2
namespace Go.Proofs.YtdhndlcijpgjgaaDoor.X
open Go Go.Rex
set_option linter.unusedVariables false

theorem wf_words {x : List Int} (w : WFt (.sl (.int .u64)) x) : WF x ∧ Lb x := by
  obtain ⟨h1, h2⟩ := w
  refine ⟨fun y hy => wf_u64 (h2 y hy), ?_⟩
  simp only [minB, IntKind.bits] at h1
  unfold Lb
  omega
theorem lb_of {n m : Nat} (h : (digs n).length ≤ m) (hm : m ≤ 17592186044416) : Lb (digs n) := Nat.le_trans h hm
theorem low_bit (v : Nat) : andK .u64 ((digs v).getD 0 0) 1 = ((v % 2 : Nat) : Int) := by
  by_cases h0 : v = 0
  · subst h0; rw [digs_zero]; rfl
  · rw [digs_pos h0]
    have hm := Nat.mod_lt v (show 0 < 18446744073709551616 by decide)
    simp only [List.getD_eq_getElem?_getD, List.getElem?_cons_zero, Option.getD_some]
    rw [andK_one _ hm]
    congr 1; omega
theorem same_digs {x y : Nat} (hl : Lb (digs x)) : Ev (fun k => vernierlaw02_same k (digs x) (digs y)) (decide (x = y)) := by
  refine Ev.eq (same_ev hl) ?_
  by_cases h : x = y
  · rw [decide_eq_true h, decide_eq_true (by rw [h])]
  · rw [decide_eq_false h, decide_eq_false (fun e => h (digs_inj e))]

namespace Pure
section
variable {a : List Int} {n : Nat} (ha : WF a) (la : Lb a) (ca : (digs (val a)).length ≤ 300) (hn : n ≤ 20000)
include ha la ca

theorem roots_j3 : Ev (fun k => vernierlaw02_NatRoots.j3 k a (digs (val a / 2 ^ n)) (digs (val a / 2 ^ n * 2 ^ n)) (digs (jamN (val a) n))) true := by
  have hd := Nat.div_add_mod (val a) (2 ^ n)
  have hx : (digs (val a / 2 ^ n)).length ≤ 300 := Nat.le_trans (digs_len_mono (Nat.div_le_self _ _)) ca
  have hy : (digs (val a / 2 ^ n * 2 ^ n)).length ≤ 300 := Nat.le_trans (digs_len_mono (Nat.div_mul_le_self _ _)) ca
  have hz : (digs (jamN (val a) n)).length ≤ 302 := by
    have : jamN (val a) n ≤ val a / 2 ^ n + 1 := by unfold jamN; split <;> omega
    exact Nat.le_trans (digs_len_mono this) (Nat.le_trans (small_len hx (by omega) (by omega)) (by omega))
  have c := Cmp_ev (a := digs (val a / 2 ^ n * 2 ^ n)) (b := a) (WF.digs _) ha (lb_of hy (by omega)) la
  rw [val_digs] at c
  refine Ev.congr (fun k => vernierlaw02_NatRoots.j3_eq k _ _ _ _) (Ev.bind (twin_ev la) (Ev.bind c ?_))
  have hmul : val a / 2 ^ n * 2 ^ n = 2 ^ n * (val a / 2 ^ n) := Nat.mul_comm _ _
  by_cases h0 : val a % 2 ^ n = 0
  · refine Ev.pos (by rw [show val a / 2 ^ n * 2 ^ n = val a by omega]; simp [cmpN]) (Ev.bind (same_digs (lb_of hz (by omega))) (Ev.eq (Ev.some _) ?_))
    simp [jamN, h0]
  · refine Ev.neg (bF (by rw [cmpN, if_pos (by omega)]; decide)) ?_
    have ej : jamN (val a) n = val a / 2 ^ n / 2 * 2 + 1 := by unfold jamN; rw [if_neg h0]
    rw [ej] at hz ⊢
    generalize val a / 2 ^ n = x at *
    have lz := lb_of hz (by omega)
    have hp := digs_len_pos.2 (show x / 2 * 2 + 1 ≠ 0 by omega)
    have l1 : (digs 1).length ≤ 1 := by rw [digs_word (by omega) (by omega)]; simp
    refine Ev.pos (dT (by omega)) (Ev.pos ⟨by omega, by omega⟩ (Ev.pos (by rw [low_bit]; exact bT (by omega)) (Ev.bind (same_digs lz) ?_)))
    by_cases hs : x / 2 * 2 + 1 = x
    · exact Ev.pos (decide_eq_true hs) (Ev.some _)
    · refine Ev.neg (by simpa using hs) ?_
      by_cases hx0 : x = 0
      · subst hx0
        rw [digs_zero]
        refine Ev.pos (bT rfl) ?_
        have : ((List.replicate 1 (0 : Int)).set 0 1) = digs 1 := by rw [digs_word (by omega) (by omega)]; rfl
        rw [this]
        exact Ev.bind (same_digs lz) (Ev.pos (by decide) (Ev.some _))
      · have hxp := digs_len_pos.2 hx0
        refine Ev.neg (bF (by omega)) (Ev.pos (dT (by omega)) (Ev.pos ⟨by omega, by omega⟩ (Ev.pos (by rw [show ((0 : Int).toNat) = 0 from rfl, low_bit]; exact bT (by omega)) ?_)))
        have ad := Add_ev (a := digs x) (b := (List.replicate 1 (0 : Int)).set 0 1) (WF.digs _) (WF.cons (by decide) (by decide) WF.nil) (lb_of hx (by omega)) (by unfold Lb; simp) (by rw [val_digs]; omega) (by show (digs 1).length ≤ _; omega)
        rw [val_digs, show val ((List.replicate 1 (0 : Int)).set 0 1) = 1 from rfl] at ad
        refine Ev.bind ad (Ev.bind (same_digs lz) (Ev.eq (Ev.some _) ?_))
        exact decide_eq_true (by omega)

include hn
theorem roots_j2 : Ev (fun k => vernierlaw02_NatRoots.j2 k a (n : Int)) true := by
  have hx : (digs (val a / 2 ^ n)).length ≤ 300 := Nat.le_trans (digs_len_mono (Nat.div_le_self _ _)) ca
  have hy : (digs (val a / 2 ^ n * 2 ^ n)).length ≤ 300 := Nat.le_trans (digs_len_mono (Nat.div_mul_le_self _ _)) ca
  have s2 := Shl_ev (a := digs (val a / 2 ^ n)) (WF.digs _) (lb_of hx (by omega)) (n := n) (by omega) (by rw [val_digs]; omega) (by rw [val_digs]; omega)
  rw [val_digs] at s2
  have c := Cmp_ev (a := digs (val a / 2 ^ n * 2 ^ n)) (b := a) (WF.digs _) ha (lb_of hy (by omega)) la
  rw [val_digs] at c
  refine Ev.congr (fun k => vernierlaw02_NatRoots.j2_eq k _ _) (Ev.bind (twin_ev la) (Ev.bind (Shr_ev ha la n (by omega)) (Ev.bind s2 (Ev.bind (twin_ev la) (Ev.bind (Jam_ev ha la (by omega)) ?_)))))
  refine Ev.neg (nF rfl) (Ev.neg (nF rfl) (Ev.neg (nF rfl) (Ev.bind (twin_ev la) (Ev.bind c (Ev.neg (dF ?_) (roots_j3 ha la ca))))))
  have := Nat.div_mul_le_self (val a) (2 ^ n)
  unfold cmpN
  split
  · decide
  · rw [if_neg (by omega)]; decide

theorem roots_j1 : Ev (fun k => vernierlaw02_NatRoots.j1 k a (n : Int)) true := by
  have hy : (digs (val a * 2 ^ n)).length ≤ 1024 := Nat.le_trans (shl_len_ ca) (by omega)
  have s1 := Shl_ev ha la (n := n) (by omega) (by omega) hy
  have r1 := Shr_ev (a := digs (val a * 2 ^ n)) (WF.digs _) (lb_of hy (by omega)) n (by omega)
  have j1 := Jam_ev (a := digs (val a * 2 ^ n)) (WF.digs _) (lb_of hy (by omega)) (n := n) (by omega)
  rw [val_digs, Nat.mul_div_cancel _ (Nat.two_pow_pos n)] at r1
  rw [val_digs, jamN, if_pos (Nat.mul_mod_left _ _), Nat.mul_div_cancel _ (Nat.two_pow_pos n)] at j1
  refine Ev.congr (fun k => vernierlaw02_NatRoots.j1_eq k _ _) (Ev.bind (twin_ev la) (Ev.bind s1 (Ev.bind r1 (Ev.bind j1 ?_))))
  exact Ev.neg (nF rfl) (Ev.neg (nF rfl) (Ev.neg (nF rfl) (Ev.bind (twin_ev la) (Ev.bind (Trim_ev ha la) (Ev.bind (same_refl (la.ofv ha)) (Ev.neg (notF rfl) (Ev.bind (same_refl (la.ofv ha)) (Ev.neg (notF rfl) (roots_j2 ha la ca hn)))))))))
end

/-- For all lists and numbers: true. -/
theorem NatRoots (a : List Int) (n : Int) (wa : WFt (.sl (.int .u64)) a) (wn : (Lit.int .i64 n).wf = true) : Ev (fun k => vernierlaw02_NatRoots k a n) true := by
  obtain ⟨ha, la⟩ := wf_words wa
  refine Ev.congr (fun k => vernierlaw02_NatRoots_eq k a n) (Ev.bind awake_ev (Ev.neg (notF rfl) (Ev.bind (size_ev ha la) ?_)))
  by_cases ca : (digs (val a)).length ≤ 300
  · refine Ev.neg (dF (by omega)) (Ev.bind (twin_ev la) ?_)
    obtain ⟨r, h1, h2⟩ := sqrt_ex (val a)
    have hr : (digs r).length ≤ 300 := by
      refine Nat.le_trans (digs_len_mono ?_) ca
      rcases Nat.eq_zero_or_pos r with h | h
      · omega
      · exact Nat.le_trans (Nat.le_mul_of_pos_left r h) h1
    have hrr : (digs (r * r)).length ≤ 300 := Nat.le_trans (digs_len_mono h1) ca
    have l1 : (digs 1).length ≤ 1 := by rw [digs_word (by omega) (by omega)]; simp
    have hr1 : (digs (r + 1)).length ≤ 301 := small_len hr (by omega) (by omega)
    have hr2 := mul_len hr1 hr1
    have m1 := Mul_ev (a := digs r) (b := digs r) (WF.digs _) (WF.digs _) (lb_of hr (by omega)) (lb_of hr (by omega)) (by rw [val_digs]; omega) (by rw [val_digs]; omega) (by rw [val_digs]; omega)
    have ad := Add_ev (a := digs r) (b := (List.replicate 1 (0 : Int)).set 0 1) (WF.digs _) (WF.cons (by decide) (by decide) WF.nil) (lb_of hr (by omega)) (by unfold Lb; simp) (by rw [val_digs]; omega) (by show (digs 1).length ≤ _; omega)
    have m2 := Mul_ev (a := digs (r + 1)) (b := digs (r + 1)) (WF.digs _) (WF.digs _) (lb_of hr1 (by omega)) (lb_of hr1 (by omega)) (by rw [val_digs]; omega) (by rw [val_digs]; omega) (by rw [val_digs]; omega)
    rw [val_digs] at m1 m2
    rw [val_digs, show val ((List.replicate 1 (0 : Int)).set 0 1) = 1 from rfl] at ad
    have c1 := Cmp_ev (a := digs (r * r)) (b := a) (WF.digs _) ha (lb_of hrr (by omega)) la
    have c2 := Cmp_ev (a := digs ((r + 1) * (r + 1))) (b := a) (WF.digs _) ha (lb_of hr2 (by omega)) la
    rw [val_digs] at c1 c2
    refine Ev.bind (Root_ev ha la (by omega) h1 h2) (Ev.bind m1 (Ev.bind ad (Ev.bind m2 ?_)))
    refine Ev.neg (nF rfl) (Ev.neg (nF rfl) (Ev.neg (nF rfl) (Ev.bind (neat_ev (lb_of hr (by omega))) (Ev.neg (notF rfl) (Ev.bind (twin_ev la) (Ev.bind c1 (Ev.neg (dF ?_) (Ev.bind (twin_ev la) (Ev.bind c2 (Ev.neg (dF ?_) (Ev.bind (twin_ev la) (Ev.bind c1 (Ev.neg ?_ ?_)))))))))))))
    · unfold cmpN
      split
      · decide
      · rw [if_neg (by omega)]; decide
    · rw [cmpN, if_neg (by omega), if_pos h2]; decide
    · by_cases e : r * r = val a
      · simp [e, cmpN]
      · rw [cmpN, if_pos (by omega)]; simp [e]
    · refine Ev.congr (fun k => vernierlaw02_NatRoots.j0_eq k _ _) ?_
      by_cases h3 : n < 0
      · exact Ev.pos (dT h3) (Ev.some _)
      · refine Ev.neg (dF h3) ?_
        by_cases h4 : n > 20000
        · exact Ev.pos (dT h4) (Ev.some _)
        · obtain ⟨m, rfl⟩ := Int.eq_ofNat_of_zero_le (show 0 ≤ n by omega)
          exact Ev.neg (dF h4) (roots_j1 ha la ca (by omega))
  · exact Ev.pos (dT (by omega)) (Ev.some _)
end Pure
end Go.Proofs.YtdhndlcijpgjgaaDoor.X
