/- Plain law: exact numbers of layer 3 in units of 2^B, of up to ten thousand bits: Add, Sub, Cmp. Conditions: the numbers are below 2^p, the exponents in their range. -/
import Derived.Test.YtbaaggmicpigeaaDoorDyC
namespace Go.Proofs.YtbaaggmicpigeaaDoor.X
open Go Go.Rex
set_option linter.unusedVariables false

def RepQ (B : Int) (s : Bool) (l : List Int) (e v : Int) : Prop := ∃ n : Nat, l = digs n ∧ B ≤ e ∧ e ≤ B + 21000 ∧ sg s (n * 2 ^ (e - B).toNat) = v
theorem qsg_abs (s : Bool) (n : Nat) : (sg s n).natAbs = n := by unfold sg; cases s <;> simp
theorem RepQ.neg {B : Int} {s : Bool} {l : List Int} {e v : Int} (h : RepQ B s l e v) : RepQ B (!s) l e (-v) := by
  obtain ⟨n, h1, h2, h3, h4⟩ := h
  exact ⟨n, h1, h2, h3, by rw [← h4]; unfold sg; cases s <;> simp⟩
theorem digs_shortQ {n p k : Nat} (h : n < 2 ^ p) (hp : p ≤ 64 * k) : (digs n).length ≤ k := by
  rw [digs_length_lt, ← two_64 k]
  exact Nat.lt_of_lt_of_le h (pow_mono2 hp)
theorem RepQ.facts {B : Int} {s : Bool} {l : List Int} {e v : Int} (h : RepQ B s l e v) {p : Nat} (hp : p ≤ 10900) (hv : v.natAbs < 2 ^ p) : ∃ n : Nat, l = digs n ∧ (digs n).length ≤ 171 ∧ B ≤ e ∧ e ≤ B + 21000 ∧ sg s (n * 2 ^ (e - B).toNat) = v ∧ (n = 0 ↔ v = 0) ∧ n * 2 ^ (e - B).toNat = v.natAbs ∧ (n ≠ 0 → blen n + (e - B).toNat = blen v.natAbs ∧ blen v.natAbs ≤ p) := by
  obtain ⟨n, h1, h2, h3, h4⟩ := h
  have ha : n * 2 ^ (e - B).toNat = v.natAbs := by rw [← h4, qsg_abs]
  have hpp := Nat.two_pow_pos (e - B).toNat
  have hn : n < 2 ^ p := by
    have := Nat.le_mul_of_pos_right n hpp
    omega
  refine ⟨n, h1, digs_shortQ hn (by omega), h2, h3, h4, ?_, ha, fun h0 => ?_⟩
  · constructor
    · intro e; rw [e, Nat.zero_mul] at ha; omega
    · intro e
      rw [e] at ha
      rcases Nat.mul_eq_zero.1 ha with g | g
      · exact g
      · omega
  · rw [← ha, blen_pow_mul h0]
    refine ⟨rfl, ?_⟩
    have := (blen_le_iff (n := n * 2 ^ (e - B).toNat) (k := p)).2 (by rw [ha]; exact hv)
    rwa [blen_pow_mul h0] at this
def RepQB (L : Nat) (B : Int) (s : Bool) (l : List Int) (e v : Int) : Prop := ∃ n : Nat, l = digs n ∧ (digs n).length ≤ L ∧ B ≤ e ∧ e ≤ 40000 ∧ sg s (n * 2 ^ (e - B).toNat) = v
theorem outZ_repQ {L : Nat} {g B Z v : Int} (hB : B ≤ g) (hB0 : B ≤ 0) (hg : g ≤ 12000) (hL : (digs Z.natAbs).length ≤ L) (hL2 : L ≤ 200) (hv : Z * ((2 ^ (g - B).toNat : Nat) : Int) = v) : RepQB L B (outZ g Z).1 (outZ g Z).2.1 (outZ g Z).2.2 v := by
  unfold outZ
  by_cases c : Z = 0
  · rw [if_pos c]
    rw [c, Int.zero_mul] at hv
    rw [← hv]
    exact ⟨0, digs_zero.symm, by simp [digs_zero], hB0, by show (0:Int) ≤ 40000; omega, by rw [Nat.zero_mul]; rfl⟩
  · rw [if_neg c]
    have hn : Z.natAbs ≠ 0 := by omega
    have b1 := tz_blen hn
    have b2 := blen_len hL
    refine ⟨oddN Z.natAbs, rfl, Nat.le_trans (digs_len_mono (oddN_le _)) hL, ?_, ?_, ?_⟩
    · show B ≤ g + (tz Z.natAbs : Int); omega
    · show g + (tz Z.natAbs : Int) ≤ 40000; omega
    · show sg (decide (Z < 0)) (oddN Z.natAbs * 2 ^ (g + (tz Z.natAbs : Int) - B).toNat) = v
      rw [odd_val hn g B hB, sg_mul, ← hv]
      congr 1
      unfold sg
      by_cases c2 : Z < 0
      · rw [decide_eq_true c2, if_pos rfl]; omega
      · rw [decide_eq_false c2, if_neg (by simp)]; omega
theorem ans_outQ {g Z : Int} (hg : -10000 ≤ g ∧ g ≤ 12000) (hL : (digs Z.natAbs).length ≤ 200) : Ev (fun k => dyad_answer k (outZ g Z).1 (outZ g Z).2.1 (outZ g Z).2.2) ((outZ g Z).1, ((outZ g Z).2.1, ((outZ g Z).2.2, (0 : Int)))) := by
  unfold outZ
  by_cases c : Z = 0
  · rw [if_pos c]
    exact Ev.congr (fun k => dyad_answer_eq k _ _ _) (Ev.bind (odd_zero (a := []) WF.nil (by unfold Lb; simp) rfl false 0) (Ev.neg (dF (by simp)) (Ev.neg (dF (by simp)) (Ev.neg (dF (by simp)) (Ev.some _)))))
  · rw [if_neg c]
    have hn : Z.natAbs ≠ 0 := by omega
    have b1 := tz_blen hn
    have b2 := blen_len hL
    have ho := oddN_odd hn
    have ll := digs_len_mono (oddN_le Z.natAbs)
    have o := odd_at (n := oddN Z.natAbs) (oddN_ne hn) (by omega) (decide (Z < 0)) (e := g + (tz Z.natAbs : Int)) (by omega)
    rw [oddN_of_odd ho, tz_of_odd ho, show g + (tz Z.natAbs : Int) + ((0 : Nat) : Int) = g + (tz Z.natAbs : Int) by omega] at o
    refine Ev.congr (fun k => dyad_answer_eq k _ _ _) (Ev.bind o (Ev.neg (dF ?_) (Ev.neg (dF ?_) (Ev.neg (dF ?_) (Ev.some _)))))
    · show ¬ (((digs (oddN Z.natAbs)).length : Int) > 1024); omega
    · show ¬ (g + (tz Z.natAbs : Int) < -40000); omega
    · show ¬ (g + (tz Z.natAbs : Int) > 40000); omega
theorem addQ {B : Int} (hB : -9000 ≤ B ∧ B ≤ 0) {s t : Bool} {l m : List Int} {e f v w : Int} (h : RepQ B s l e v) (h' : RepQ B t m f w) {p : Nat} (hp : p ≤ 10000) (hv : v.natAbs < 2 ^ p) (hw : w.natAbs < 2 ^ p) : ∃ r : Bool × (List Int × Int), Ev (fun k => dyad_Add k s l e t m f) (r.1, (r.2.1, (r.2.2, (0 : Int)))) ∧ RepQ B r.1 r.2.1 r.2.2 (v + w) ∧ (v + w = 0 → r = (false, ([], 0))) := by
  have hvw : (v + w).natAbs < 2 ^ (p + 1) := by have : 2 ^ (p + 1) = 2 * 2 ^ p := by rw [Nat.pow_succ, Nat.mul_comm]
                                                omega
  obtain ⟨n, rfl, n1, n2, n3, n4, nz, na, nb⟩ := h.facts (by omega) hv
  obtain ⟨q, rfl, q1, q2, q3, q4, qz, qa, qb⟩ := h'.facts (by omega) hw
  have tw := two_ev (n := n) (m := q) (e := e) (f := f) ⟨by omega, by omega, by omega⟩ ⟨by omega, by omega, by omega⟩ s t
  have fin : ∀ (s1 : Bool) (l1 : List Int) (e1 : Int) (s2 : Bool) (l2 : List Int) (e2 : Int) (g Z : Int), Ev (fun k => dyad_odd k s (digs n) e) (s1, (l1, e1)) → Ev (fun k => dyad_odd k t (digs q) f) (s2, (l2, e2)) → Ev (fun k => dyad_sum k s1 l1 e1 s2 l2 e2) (outZ g Z) → B ≤ g → g ≤ 12000 → Z * ((2 ^ (g - B).toNat : Nat) : Int) = v + w →
      ∃ r : Bool × (List Int × Int), Ev (fun k => dyad_Add k s (digs n) e t (digs q) f) (r.1, (r.2.1, (r.2.2, (0 : Int)))) ∧ RepQ B r.1 r.2.1 r.2.2 (v + w) ∧ (v + w = 0 → r = (false, ([], 0))) := by
    intro s1 l1 e1 s2 l2 e2 g Z o1 o2 sm hg hg5 hZ
    have hpg := Nat.two_pow_pos (g - B).toNat
    have hZa : Z.natAbs * 2 ^ (g - B).toNat = (v + w).natAbs := by rw [← hZ, Int.natAbs_mul, Int.natAbs_natCast]
    have hZl : Z.natAbs < 2 ^ (p + 1) := by
      have := Nat.le_mul_of_pos_right Z.natAbs hpg
      omega
    have hl : (digs Z.natAbs).length ≤ 200 := digs_shortQ hZl (by omega)
    refine ⟨outZ g Z, ?_, ?_, fun z => ?_⟩
    · exact Ev.congr (fun k => dyad_Add_eq k _ _ _ _ _ _) (Ev.bind tw (Ev.neg (nF rfl) (Ev.bind o1 (Ev.bind o2 (Ev.bind sm (Ev.bind (ans_outQ (by omega) hl) (Ev.some _)))))))
    · obtain ⟨x, r1, r2, r3, r4, r5⟩ := outZ_repQ hg hB.2 hg5 hl (by decide) hZ
      refine ⟨x, r1, r3, ?_, r5⟩
      by_cases c : Z = 0
      · unfold outZ; rw [if_pos c]; show (0 : Int) ≤ B + 21000; omega
      · unfold outZ; rw [if_neg c]
        have hn : Z.natAbs ≠ 0 := by omega
        have b1 := tz_blen hn
        have b2 := (blen_le_iff (n := Z.natAbs * 2 ^ (g - B).toNat) (k := p + 1)).2 (by omega)
        rw [blen_pow_mul hn] at b2
        show g + (tz Z.natAbs : Int) ≤ B + 21000
        omega
    · rw [z] at hZ
      have : Z = 0 := by
        rcases Int.mul_eq_zero.1 hZ with g1 | g1
        · exact g1
        · have := Nat.two_pow_pos (g - B).toNat; omega
      unfold outZ; rw [if_pos this]
  by_cases z1 : n = 0
  · have o1 := odd_zero (a := digs n) (WF.digs n) (lb_short n1 (by omega)) (by rw [val_digs]; exact z1) s e
    have hv : v = 0 := nz.1 z1
    by_cases z2 : q = 0
    · have o2 := odd_zero (a := digs q) (WF.digs q) (lb_short q1 (by omega)) (by rw [val_digs]; exact z2) t f
      have hw : w = 0 := qz.1 z2
      refine fin _ _ _ _ _ _ 0 0 o1 o2 ?_ hB.2 (by decide) (by rw [hv, hw, Int.zero_mul]; rfl)
      exact Ev.congr (fun k => dyad_sum_eq k _ _ _ _ _ _) (Ev.pos (bT rfl) (Ev.some _))
    · have o2 := odd_at z2 (by omega) t (e := f) (by omega)
      have := qb z2
      refine fin _ _ _ _ _ _ f (sg t q) o1 o2 ?_ q2 (by omega) (by rw [hv, Int.zero_add, ← q4, sg_mul])
      rw [outZ_of z2]
      exact Ev.congr (fun k => dyad_sum_eq k _ _ _ _ _ _) (Ev.pos (bT rfl) (Ev.some _))
  · have o1 := odd_at z1 (by omega) s (e := e) (by omega)
    have p1 := digs_len_pos.2 (oddN_ne z1)
    have nb' := nb z1
    by_cases z2 : q = 0
    · have o2 := odd_zero (a := digs q) (WF.digs q) (lb_short q1 (by omega)) (by rw [val_digs]; exact z2) t f
      have hw : w = 0 := qz.1 z2
      refine fin _ _ _ _ _ _ e (sg s n) o1 o2 ?_ n2 (by omega) (by rw [hw, Int.add_zero, ← n4, sg_mul])
      rw [outZ_of z1]
      exact Ev.congr (fun k => dyad_sum_eq k _ _ _ _ _ _) (Ev.neg (bF (by omega)) (Ev.pos (bT rfl) (Ev.some _)))
    · have o2 := odd_at z2 (by omega) t (e := f) (by omega)
      have qb' := qb z2
      have t1 := tz_blen z1
      have t2 := tz_blen z2
      have l1 := Nat.le_trans (digs_len_mono (oddN_le n)) n1
      have l2 := Nat.le_trans (digs_len_mono (oddN_le q)) q1
      have sm := sumV (e := e + (tz n : Int)) (f := f + (tz q : Int)) (oddN_ne z1) (oddN_ne z2) (by omega) (by omega) (by omega) (by omega) s t
      obtain ⟨g, hg⟩ : ∃ g : Int, g = min (e + (tz n : Int)) (f + (tz q : Int)) := ⟨_, rfl⟩
      rw [← hg] at sm
      refine fin _ _ _ _ _ _ g _ o1 o2 sm (by omega) (by omega) ?_
      rw [Int.add_mul, ← sg_mul, ← sg_mul, Nat.mul_assoc, Nat.mul_assoc, ← Nat.pow_add, ← Nat.pow_add]
      have x1 : (e + (tz n : Int) - g).toNat + (g - B).toNat = (e + (tz n : Int) - B).toNat := by omega
      have x2 : (f + (tz q : Int) - g).toNat + (g - B).toNat = (f + (tz q : Int) - B).toNat := by omega
      rw [x1, x2, odd_val z1 e B n2, odd_val z2 f B q2, n4, q4]
theorem subQ {B : Int} (hB : -9000 ≤ B ∧ B ≤ 0) {s t : Bool} {l m : List Int} {e f v w : Int} (h : RepQ B s l e v) (h' : RepQ B t m f w) {p : Nat} (hp : p ≤ 10000) (hv : v.natAbs < 2 ^ p) (hw : w.natAbs < 2 ^ p) : ∃ r : Bool × (List Int × Int), Ev (fun k => dyad_Sub k s l e t m f) (r.1, (r.2.1, (r.2.2, (0 : Int)))) ∧ RepQ B r.1 r.2.1 r.2.2 (v - w) ∧ (v - w = 0 → r = (false, ([], 0))) := by
  obtain ⟨r, r1, r2, r3⟩ := addQ hB h h'.neg hp hv (by rw [Int.natAbs_neg]; exact hw)
  rw [← Int.sub_eq_add_neg] at r2 r3
  exact ⟨r, Ev.congr (fun k => dyad_Sub_eq k _ _ _ _ _ _) (Ev.bind r1 (Ev.some _)), r2, r3⟩
theorem cmpQ {B : Int} (hB : -9000 ≤ B ∧ B ≤ 0) {s t : Bool} {l m : List Int} {e f v w : Int} (h : RepQ B s l e v) (h' : RepQ B t m f w) {p : Nat} (hp : p ≤ 10000) (hv : v.natAbs < 2 ^ p) (hw : w.natAbs < 2 ^ p) : Ev (fun k => dyad_Cmp k s l e t m f) (sgn (v - w), (0 : Int)) := by
  obtain ⟨n, rfl, n1, n2, n3, n4, -⟩ := h.facts (by omega) hv
  obtain ⟨q, rfl, q1, q2, q3, q4, -⟩ := h'.facts (by omega) hw
  have c := DCmp_ev (n := n) (m := q) (e := e) (f := f) ⟨by omega, by omega, by omega⟩ ⟨by omega, by omega, by omega⟩ s t B n2 q2 (by omega)
  have e : sg s (n * 2 ^ (e - B).toNat) + sg (!t) (q * 2 ^ (f - B).toNat) = v - w := by
    rw [n4, ← q4]; unfold sg; cases t <;> simp [Int.sub_eq_add_neg]
  rw [e] at c
  exact c
end Go.Proofs.YtbaaggmicpigeaaDoor.X
