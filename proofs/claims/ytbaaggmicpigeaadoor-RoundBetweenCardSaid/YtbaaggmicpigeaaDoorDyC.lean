/- Plain law: exact numbers of layer 3 in units of a power of two: Add, Sub, Cmp, Sign tell the numbers. Conditions: the exponents are in their range, the naturals short. -/
import Derived.Test.YtbaaggmicpigeaaDoorDyB
import Derived.Test.YtbaaggmicpigeaaDoorRnB
namespace Go.Proofs.YtbaaggmicpigeaaDoor.X
open Go Go.Rex
set_option linter.unusedVariables false

/-- An exact number that is v units of 2^B. -/
def RepB (L : Nat) (B : Int) (s : Bool) (l : List Int) (e v : Int) : Prop := ∃ n : Nat, l = digs n ∧ (digs n).length ≤ L ∧ B ≤ e ∧ e ≤ 10000 ∧ sg s (n * 2 ^ (e - B).toNat) = v
theorem sg_zero (s : Bool) : sg s 0 = 0 := by cases s <;> rfl
theorem RepB.zero {B : Int} (hB : B ≤ 0) : RepB 0 B false [] 0 0 := ⟨0, digs_zero.symm, by simp [digs_zero], hB, by omega, by rw [Nat.zero_mul]; rfl⟩
theorem RepB.mono {L M : Nat} {B : Int} {s : Bool} {l : List Int} {e v : Int} (h : RepB L B s l e v) (hL : L ≤ M) : RepB M B s l e v := by
  obtain ⟨n, h1, h2, h3⟩ := h
  exact ⟨n, h1, Nat.le_trans h2 hL, h3⟩
/-- A sum, told: its odd part at its place. -/
def outZ (g Z : Int) : Bool × (List Int × Int) := if Z = 0 then (false, ([], 0)) else (decide (Z < 0), (digs (oddN Z.natAbs), g + (tz Z.natAbs : Int)))
theorem outZ_of {neg : Bool} {r : Nat} (hr : r ≠ 0) (g : Int) : outZ g (sg neg r) = (neg, (digs (oddN r), g + (tz r : Int))) := by
  cases neg
  · rw [show sg false r = (r : Int) from rfl]
    unfold outZ
    rw [if_neg (by omega), decide_eq_false (by omega), Int.natAbs_natCast]
  · rw [show sg true r = -(r : Int) from rfl]
    unfold outZ
    rw [if_neg (by omega), decide_eq_true (by omega), Int.natAbs_neg, Int.natAbs_natCast]
theorem odd_at {n : Nat} (hn : n ≠ 0) (hl : (digs n).length ≤ 100000) (neg : Bool) {e : Int} (he : -1000000000 ≤ e ∧ e ≤ 1000000000) : Ev (fun k => dyad_odd k neg (digs n) e) (neg, (digs (oddN n), e + (tz n : Int))) := by
  have o := odd_all (WF.digs n) (lb_short hl (by omega)) (by rw [val_digs]; exact hl) (by rw [val_digs]; exact hn) neg he
  rwa [val_digs] at o
theorem sumV {A B : Nat} {e f : Int} (hA : A ≠ 0) (hB : B ≠ 0) (la : (digs A).length ≤ 2000) (lb : (digs B).length ≤ 2000) (he : -200000 ≤ e ∧ e ≤ 200000) (hf : -200000 ≤ f ∧ f ≤ 200000) (a b : Bool) :
    Ev (fun k => dyad_sum k a (digs A) e b (digs B) f) (outZ (min e f) (sg a (A * 2 ^ (e - min e f).toNat) + sg b (B * 2 ^ (f - min e f).toNat))) := by
  have pA := digs_len_pos.2 hA
  have pB := digs_len_pos.2 hB
  have hmn : mnI e f = min e f := by unfold mnI; split <;> omega
  obtain ⟨x, hx⟩ : ∃ x : Nat, e - min e f = (x : Int) := ⟨(e - min e f).toNat, by omega⟩
  obtain ⟨y, hy⟩ : ∃ y : Nat, f - min e f = (y : Int) := ⟨(f - min e f).toNat, by omega⟩
  have hx4 : x ≤ 400000 := by omega
  have hy4 : y ≤ 400000 := by omega
  have ral := raised_ev (N := A) (by_ := x) (by omega)
  have rbl := raised_ev (N := B) (by_ := y) (by omega)
  have hal : Ev (fun k => dyad_aligned k a (digs A) e b (digs B) f) (digs (A * 2 ^ x), (digs (B * 2 ^ y), min e f)) := by
    refine Ev.congr (fun k => dyad_aligned_eq k _ _ _ _ _ _) ?_
    rw [hmn, hx, hy, wrapS (by omega) (by omega), wrapS (by omega) (by omega)]
    exact Ev.bind ral (Ev.bind rbl (Ev.some _))
  have kA : (digs (A * 2 ^ x)).length ≤ 10000 := Nat.le_trans (pow_len la) (by omega)
  have kB : (digs (B * 2 ^ y)).length ≤ 10000 := Nat.le_trans (pow_len lb) (by omega)
  have nA : A * 2 ^ x ≠ 0 := by have := Nat.mul_pos (Nat.pos_of_ne_zero hA) (Nat.two_pow_pos x); omega
  have nB : B * 2 ^ y ≠ 0 := by have := Nat.mul_pos (Nat.pos_of_ne_zero hB) (Nat.two_pow_pos y); omega
  rw [hx, hy, Int.toNat_natCast, Int.toNat_natCast]
  have hmin : -1000000000 ≤ min e f ∧ min e f ≤ 1000000000 := by omega
  have start : ∀ r, Ev (fun k => (if a == b then ((nat_Add k (digs (A * 2 ^ x)) (digs (B * 2 ^ y)))).bind fun o1 => ((dyad_odd k a o1 (min e f))).bind fun o2 => some (o2.1, (o2.2.1, o2.2.2)) else ((nat_Cmp k (digs (A * 2 ^ x)) (digs (B * 2 ^ y)))).bind fun o3 => (if decide (o3 < 0) then ((nat_Sub k (digs (B * 2 ^ y)) (digs (A * 2 ^ x)))).bind fun o4 => ((dyad_odd k b o4.1 (min e f))).bind fun o5 => some (o5.1, (o5.2.1, o5.2.2)) else ((nat_Sub k (digs (A * 2 ^ x)) (digs (B * 2 ^ y)))).bind fun o6 => ((dyad_odd k a o6.1 (min e f))).bind fun o7 => some (o7.1, (o7.2.1, o7.2.2))))) r →
      Ev (fun k => dyad_sum k a (digs A) e b (digs B) f) r := fun r h =>
    Ev.congr (fun k => dyad_sum_eq k _ _ _ _ _ _) (Ev.neg (bF (by omega)) (Ev.neg (bF (by omega)) (Ev.bind hal h)))
  have hadd := Add_ev (WF.digs (A * 2 ^ x)) (WF.digs (B * 2 ^ y)) (lb_short kA (by omega)) (lb_short kB (by omega)) (by rw [val_digs]; omega) (by rw [val_digs]; omega)
  have hcmp := Cmp_ev (WF.digs (A * 2 ^ x)) (WF.digs (B * 2 ^ y)) (lb_short kA (by omega)) (lb_short kB (by omega))
  have hsab : B * 2 ^ y ≤ A * 2 ^ x → _ := fun h => Sub_ev (WF.digs (A * 2 ^ x)) (WF.digs (B * 2 ^ y)) (lb_short kA (by omega)) (lb_short kB (by omega)) (by rw [val_digs, val_digs]; exact h)
  have hsba : A * 2 ^ x ≤ B * 2 ^ y → _ := fun h => Sub_ev (WF.digs (B * 2 ^ y)) (WF.digs (A * 2 ^ x)) (lb_short kB (by omega)) (lb_short kA (by omega)) (by rw [val_digs, val_digs]; exact h)
  rw [val_digs, val_digs] at hadd hcmp
  simp only [val_digs] at hsab hsba
  generalize A * 2 ^ x = X at *
  generalize B * 2 ^ y = Y at *
  by_cases hab : a = b
  · subst hab
    have kS : (digs (X + Y)).length ≤ 100000 := Nat.le_trans (sum_len kA kB) (by omega)
    have h3 := odd_at (n := X + Y) (by omega) kS a hmin
    have e1 : sg a X + sg a Y = sg a (X + Y) := by cases a <;> simp [sg] <;> omega
    rw [e1, outZ_of (by omega)]
    exact start _ (Ev.pos (by simp) (Ev.bind hadd (Ev.bind h3 (Ev.some _))))
  · have hne : ¬ ((a == b) = true) := by simpa using hab
    have hb : b = !a := by cases a <;> cases b <;> simp_all
    rcases Nat.lt_trichotomy X Y with h | h | h
    · have h3 := odd_at (n := Y - X) (by omega) (Nat.le_trans (digs_len_mono (Nat.sub_le _ _)) (by omega)) b hmin
      have e1 : sg a X + sg b Y = sg b (Y - X) := by rw [hb]; cases a <;> simp [sg] <;> omega
      rw [e1, outZ_of (by omega)]
      exact start _ (Ev.neg hne (Ev.bind hcmp (Ev.pos (dT (by rw [cmpN, if_pos h]; omega)) (Ev.bind (hsba (by omega)) (Ev.bind h3 (Ev.some _))))))
    · subst h
      have e1 : sg a X + sg b X = 0 := by rw [hb]; cases a <;> simp [sg] <;> omega
      rw [e1]
      refine start _ (Ev.neg hne (Ev.bind hcmp (Ev.neg (dF (by rw [cmpN, if_neg (by omega), if_neg (by omega)]; omega)) (Ev.bind (hsab (by omega)) ?_))))
      rw [Nat.sub_self, digs_zero]
      exact Ev.bind (odd_zero WF.nil (by unfold Lb; simp) rfl a _) (Ev.some _)
    · have h3 := odd_at (n := X - Y) (by omega) (Nat.le_trans (digs_len_mono (Nat.sub_le _ _)) (by omega)) a hmin
      have e1 : sg a X + sg b Y = sg a (X - Y) := by rw [hb]; cases a <;> simp [sg] <;> omega
      rw [e1, outZ_of (by omega)]
      exact start _ (Ev.neg hne (Ev.bind hcmp (Ev.neg (dF (by rw [cmpN, if_neg (by omega), if_pos h]; omega)) (Ev.bind (hsab (by omega)) (Ev.bind h3 (Ev.some _))))))
/-- The number at a lower unit. -/
theorem sg_mul (s : Bool) (n p : Nat) : sg s (n * p) = sg s n * (p : Int) := by unfold sg; cases s <;> simp [Int.natCast_mul, Int.neg_mul]
theorem odd_val {n : Nat} (hn : n ≠ 0) (e B : Int) (hB : B ≤ e) : oddN n * 2 ^ (e + (tz n : Int) - B).toNat = n * 2 ^ (e - B).toNat := by
  conv => rhs; rw [← oddN_mul hn]
  rw [Nat.mul_assoc, ← Nat.pow_add]
  congr 2; omega
/-- What a sum is. -/
theorem outZ_rep {L : Nat} {g B Z v : Int} (hB : B ≤ g) (hB0 : B ≤ 0) (hg : g ≤ 4800) (hL : (digs Z.natAbs).length ≤ L) (hL2 : L ≤ 80) (hv : Z * ((2 ^ (g - B).toNat : Nat) : Int) = v) : RepB L B (outZ g Z).1 (outZ g Z).2.1 (outZ g Z).2.2 v := by
  unfold outZ
  by_cases c : Z = 0
  · rw [if_pos c]
    rw [c, Int.zero_mul] at hv
    rw [← hv]
    exact (RepB.zero hB0).mono (Nat.zero_le _)
  · rw [if_neg c]
    have hn : Z.natAbs ≠ 0 := by omega
    have b1 := tz_blen hn
    have b2 := blen_len hL
    refine ⟨oddN Z.natAbs, rfl, Nat.le_trans (digs_len_mono (oddN_le _)) hL, ?_, ?_, ?_⟩
    · show B ≤ g + (tz Z.natAbs : Int); omega
    · show g + (tz Z.natAbs : Int) ≤ 10000; omega
    · show sg (decide (Z < 0)) (oddN Z.natAbs * 2 ^ (g + (tz Z.natAbs : Int) - B).toNat) = v
      rw [odd_val hn g B hB, sg_mul, ← hv]
      congr 1
      unfold sg
      by_cases c2 : Z < 0
      · rw [decide_eq_true c2, if_pos rfl]; omega
      · rw [decide_eq_false c2, if_neg (by simp)]; omega
theorem ans_outZ {g Z : Int} (hg : -10000 ≤ g ∧ g ≤ 4800) (hL : (digs Z.natAbs).length ≤ 80) : Ev (fun k => dyad_answer k (outZ g Z).1 (outZ g Z).2.1 (outZ g Z).2.2) ((outZ g Z).1, ((outZ g Z).2.1, ((outZ g Z).2.2, (0 : Int)))) := by
  unfold outZ
  by_cases c : Z = 0
  · rw [if_pos c]
    exact Ev.congr (fun k => dyad_answer_eq k _ _ _) (Ev.bind (odd_zero (a := []) WF.nil (by unfold Lb; simp) rfl false 0) (Ev.neg (dF (by simp)) (Ev.neg (dF (by simp)) (Ev.neg (dF (by simp)) (Ev.some _)))))
  · rw [if_neg c]
    have hn : Z.natAbs ≠ 0 := by omega
    have b1 := tz_blen hn
    have b2 := blen_len hL
    have ho := oddN_odd hn
    have ll := digs_len_mono (oddN_le Z.natAbs)
    have o := odd_at (n := oddN Z.natAbs) (oddN_ne hn) (by omega) (decide (Z < 0)) (e := g + (tz Z.natAbs : Int)) (by omega)
    rw [oddN_of_odd ho, tz_of_odd ho, show g + (tz Z.natAbs : Int) + ((0 : Nat) : Int) = g + (tz Z.natAbs : Int) by omega] at o
    refine Ev.congr (fun k => dyad_answer_eq k _ _ _) (Ev.bind o (Ev.neg (dF ?_) (Ev.neg (dF ?_) (Ev.neg (dF ?_) (Ev.some _)))))
    · show ¬ (((digs (oddN Z.natAbs)).length : Int) > 1024); omega
    · show ¬ (g + (tz Z.natAbs : Int) < -40000); omega
    · show ¬ (g + (tz Z.natAbs : Int) > 40000); omega
theorem len_abs {a b : Bool} {x y m : Nat} (hx : (digs x).length ≤ m) (hy : (digs y).length ≤ m) : (digs (sg a x + sg b y).natAbs).length ≤ m + 1 :=
  Nat.le_trans (digs_len_mono (show (sg a x + sg b y).natAbs ≤ x + y by cases a <;> cases b <;> simp [sg] <;> omega)) (sum_len hx hy)
theorem len_pow {x t m w : Nat} (hx : (digs x).length ≤ m) (ht : t ≤ 64 * w) : (digs (x * 2 ^ t)).length ≤ m + w := by
  rw [digs_length_lt] at *
  rw [pow_split, ← two_64 w]
  exact Nat.mul_lt_mul_of_lt_of_le hx (pow_mono2 ht) (Nat.two_pow_pos _)
/-- A sum. -/
theorem addB {B : Int} (hB : -1200 ≤ B ∧ B ≤ 0) {s t : Bool} {l m : List Int} {e f v w : Int} (h : RepB 20 B s l e v) (h' : RepB 20 B t m f w) (he : e ≤ 1200) (hf : f ≤ 1200) : ∃ r : Bool × (List Int × Int), Ev (fun k => dyad_Add k s l e t m f) (r.1, (r.2.1, (r.2.2, (0 : Int)))) ∧ RepB 80 B r.1 r.2.1 r.2.2 (v + w) ∧ (v + w = 0 → r = (false, ([], 0))) := by
  obtain ⟨n, rfl, n1, n2, n3, n4⟩ := h
  obtain ⟨q, rfl, q1, q2, q3, q4⟩ := h'
  have tw := two_ev (n := n) (m := q) (e := e) (f := f) ⟨by omega, by omega, by omega⟩ ⟨by omega, by omega, by omega⟩ s t
  -- from a sum told by outZ on
  have fin : ∀ (s1 : Bool) (l1 : List Int) (e1 : Int) (s2 : Bool) (l2 : List Int) (e2 : Int) (g Z : Int), Ev (fun k => dyad_odd k s (digs n) e) (s1, (l1, e1)) → Ev (fun k => dyad_odd k t (digs q) f) (s2, (l2, e2)) → Ev (fun k => dyad_sum k s1 l1 e1 s2 l2 e2) (outZ g Z) → B ≤ g → g ≤ 4800 → (digs Z.natAbs).length ≤ 80 → Z * ((2 ^ (g - B).toNat : Nat) : Int) = v + w →
      ∃ r : Bool × (List Int × Int), Ev (fun k => dyad_Add k s (digs n) e t (digs q) f) (r.1, (r.2.1, (r.2.2, (0 : Int)))) ∧ RepB 80 B r.1 r.2.1 r.2.2 (v + w) ∧ (v + w = 0 → r = (false, ([], 0))) := by
    intro s1 l1 e1 s2 l2 e2 g Z o1 o2 sm hg hg5 hl hv
    refine ⟨outZ g Z, ?_, outZ_rep hg hB.2 hg5 hl (by decide) hv, fun z => ?_⟩
    · exact Ev.congr (fun k => dyad_Add_eq k _ _ _ _ _ _) (Ev.bind tw (Ev.neg (nF rfl) (Ev.bind o1 (Ev.bind o2 (Ev.bind sm (Ev.bind (ans_outZ (by omega) hl) (Ev.some _)))))))
    · rw [z] at hv
      have : Z = 0 := by
        rcases Int.mul_eq_zero.1 hv with g1 | g1
        · exact g1
        · have := Nat.two_pow_pos (g - B).toNat; omega
      unfold outZ; rw [if_pos this]
  by_cases z1 : n = 0
  · have o1 := odd_zero (a := digs n) (WF.digs n) (lb_short n1 (by omega)) (by rw [val_digs]; exact z1) s e
    have hv : v = 0 := by rw [← n4, z1, Nat.zero_mul, sg_zero]
    by_cases z2 : q = 0
    · have o2 := odd_zero (a := digs q) (WF.digs q) (lb_short q1 (by omega)) (by rw [val_digs]; exact z2) t f
      have hw : w = 0 := by rw [← q4, z2, Nat.zero_mul, sg_zero]
      refine fin _ _ _ _ _ _ 0 0 o1 o2 ?_ hB.2 (by decide) (by simp [digs_zero]) (by rw [hv, hw, Int.zero_mul]; rfl)
      exact Ev.congr (fun k => dyad_sum_eq k _ _ _ _ _ _) (Ev.pos (bT rfl) (Ev.some _))
    · have o2 := odd_at z2 (by omega) t (e := f) (by omega)
      have hz : sg t q ≠ 0 := by unfold sg; split <;> omega
      refine fin _ _ _ _ _ _ f (sg t q) o1 o2 ?_ q2 (by omega) (by rw [show (sg t q).natAbs = q by unfold sg; split <;> omega]; omega) (by rw [hv, Int.zero_add, ← q4, sg_mul])
      rw [outZ_of z2]
      exact Ev.congr (fun k => dyad_sum_eq k _ _ _ _ _ _) (Ev.pos (bT rfl) (Ev.some _))
  · have o1 := odd_at z1 (by omega) s (e := e) (by omega)
    have p1 := digs_len_pos.2 (oddN_ne z1)
    by_cases z2 : q = 0
    · have o2 := odd_zero (a := digs q) (WF.digs q) (lb_short q1 (by omega)) (by rw [val_digs]; exact z2) t f
      have hw : w = 0 := by rw [← q4, z2, Nat.zero_mul, sg_zero]
      refine fin _ _ _ _ _ _ e (sg s n) o1 o2 ?_ n2 (by omega) (by rw [show (sg s n).natAbs = n by unfold sg; split <;> omega]; omega) (by rw [hw, Int.add_zero, ← n4, sg_mul])
      rw [outZ_of z1]
      exact Ev.congr (fun k => dyad_sum_eq k _ _ _ _ _ _) (Ev.neg (bF (by omega)) (Ev.pos (bT rfl) (Ev.some _)))
    · have o2 := odd_at z2 (by omega) t (e := f) (by omega)
      have t1 := tz_blen z1
      have t2 := tz_blen z2
      have b1 := blen_len n1
      have b2 := blen_len q1
      have l1 := Nat.le_trans (digs_len_mono (oddN_le n)) n1
      have l2 := Nat.le_trans (digs_len_mono (oddN_le q)) q1
      have sm := sumV (e := e + (tz n : Int)) (f := f + (tz q : Int)) (oddN_ne z1) (oddN_ne z2) (by omega) (by omega) (by omega) (by omega) s t
      obtain ⟨g, hg⟩ : ∃ g : Int, g = min (e + (tz n : Int)) (f + (tz q : Int)) := ⟨_, rfl⟩
      rw [← hg] at sm
      have k1 := len_pow (w := 58) l1 (t := (e + (tz n : Int) - g).toNat) (by omega)
      have k2 := len_pow (w := 58) l2 (t := (f + (tz q : Int) - g).toNat) (by omega)
      refine fin _ _ _ _ _ _ g _ o1 o2 sm (by omega) (by omega) (Nat.le_trans (len_abs k1 k2) (by decide)) ?_
      rw [Int.add_mul, ← sg_mul, ← sg_mul, Nat.mul_assoc, Nat.mul_assoc, ← Nat.pow_add, ← Nat.pow_add]
      have x1 : (e + (tz n : Int) - g).toNat + (g - B).toNat = (e + (tz n : Int) - B).toNat := by omega
      have x2 : (f + (tz q : Int) - g).toNat + (g - B).toNat = (f + (tz q : Int) - B).toNat := by omega
      rw [x1, x2, odd_val z1 e B n2, odd_val z2 f B q2, n4, q4]
theorem RepB.neg {L : Nat} {B : Int} {s : Bool} {l : List Int} {e v : Int} (h : RepB L B s l e v) : RepB L B (!s) l e (-v) := by
  obtain ⟨n, h1, h2, h3, h4, h5⟩ := h
  exact ⟨n, h1, h2, h3, h4, by rw [← h5]; cases s <;> simp [sg]⟩
theorem subB {B : Int} (hB : -1200 ≤ B ∧ B ≤ 0) {s t : Bool} {l m : List Int} {e f v w : Int} (h : RepB 20 B s l e v) (h' : RepB 20 B t m f w) (he : e ≤ 1200) (hf : f ≤ 1200) : ∃ r : Bool × (List Int × Int), Ev (fun k => dyad_Sub k s l e t m f) (r.1, (r.2.1, (r.2.2, (0 : Int)))) ∧ RepB 80 B r.1 r.2.1 r.2.2 (v - w) ∧ (v - w = 0 → r = (false, ([], 0))) := by
  obtain ⟨r, r1, r2, r3⟩ := addB hB h h'.neg he hf
  rw [← Int.sub_eq_add_neg] at r2 r3
  exact ⟨r, Ev.congr (fun k => dyad_Sub_eq k _ _ _ _ _ _) (Ev.bind r1 (Ev.some _)), r2, r3⟩
theorem cmpB {B : Int} (hB : -1200 ≤ B) {L M : Nat} (hL : L ≤ 1000) (hM : M ≤ 1000) {s t : Bool} {l m : List Int} {e f v w : Int} (h : RepB L B s l e v) (h' : RepB M B t m f w) : Ev (fun k => dyad_Cmp k s l e t m f) (sgn (v - w), (0 : Int)) := by
  obtain ⟨n, rfl, n1, n2, n3, n4⟩ := h
  obtain ⟨q, rfl, q1, q2, q3, q4⟩ := h'
  have c := DCmp_ev (n := n) (m := q) ⟨by omega, by omega, by omega⟩ ⟨by omega, by omega, by omega⟩ s t B n2 q2 (by omega)
  have e : sg s (n * 2 ^ (e - B).toNat) + sg (!t) (q * 2 ^ (f - B).toNat) = v - w := by
    rw [n4, ← q4]; unfold sg; cases t <;> simp [Int.sub_eq_add_neg]
  rw [e] at c
  exact c
theorem signB {L : Nat} {B : Int} {s : Bool} {l : List Int} {e v : Int} (h : RepB L B s l e v) (hL : L ≤ 100000) : Ev (fun k => dyad_Sign k s l e) (sgn v) := by
  obtain ⟨n, rfl, n1, n2, n3, n4⟩ := h
  refine Ev.eq (Sign_ev (by omega) s e) ?_
  have hp := Nat.two_pow_pos (e - B).toNat
  by_cases c : n = 0
  · rw [if_pos c, ← n4, c, Nat.zero_mul, sg_zero]; rfl
  · have := Nat.mul_pos (Nat.pos_of_ne_zero c) hp
    rw [if_neg c, ← n4]
    generalize n * 2 ^ (e - B).toNat = z at *
    unfold sgn sg
    cases s
    · simp only [Bool.false_eq_true, if_false]
      rw [if_neg (by omega), if_neg (by omega)]
    · simp only [if_true]
      rw [if_pos (by omega)]
end Go.Proofs.YtbaaggmicpigeaaDoor.X
