/- Plain law: which of two neighbours is nearer, as layer 5's law asks it. Conditions: both neighbours are finite. -/
import Derived.Test.YtbaaggmicpigeaaDoorRbB
namespace Go.Proofs.YtbaaggmicpigeaaDoor.X
open Go Go.Rex
set_option linter.unusedVariables false

theorem sgn_lt0 {x : Int} : sgn x < 0 ↔ x < 0 := by unfold sgn; split <;> (try split) <;> omega
theorem sgn_ne0 {x : Int} : sgn x ≠ 0 ↔ x ≠ 0 := by unfold sgn; split <;> (try split) <;> omega
theorem near_core {B : Int} (hB : -9000 ≤ B ∧ B ≤ 0) {tv tx tw : Bool} {lv lx lw : List Int} {ev ex ew v x w : Int} (hv : RepQ B tv lv ev v) (hx : RepQ B tx lx ex x) (hw : RepQ B tw lw ew w) {p : Nat} (hp : p + 1 ≤ 10000) (v2 : v.natAbs < 2 ^ p) (x2 : x.natAbs < 2 ^ p) (w2 : w.natAbs < 2 ^ p) (low last even : Bool) :
    Ev (fun k => vernierlaw05_nearer k tv lv ev tx lx ex tw lw ew low last even) (if x - v - (w - x) ≠ 0 then decide (x - v - (w - x) < 0) == low else if even = true then last else low == tx) := by
  have hpp : 2 ^ (p + 1) = 2 * 2 ^ p := by rw [Nat.pow_succ, Nat.mul_comm]
  obtain ⟨r, r1, r2, r3⟩ := subQ hB hx hv (by omega) x2 v2
  obtain ⟨q, q1, q2, q3⟩ := subQ hB hw hx (by omega) w2 x2
  have c := cmpQ hB r2 q2 hp (by omega) (by omega)
  refine Ev.congr (fun k => vernierlaw05_nearer_eq k _ _ _ _ _ _ _ _ _ _ _ _) (Ev.bind r1 (Ev.bind q1 (Ev.bind (Ev.congr (fun k => vernierlaw05_cmp_eq k _ _ _ _ _ _) (Ev.bind c (Ev.some _))) ?_)))
  generalize x - v - (w - x) = z at *
  by_cases c0 : z = 0
  · rw [if_neg (show ¬ (z ≠ 0) by omega)]
    refine Ev.neg (nF (by rw [c0]; rfl)) ?_
    cases even
    · exact Ev.neg (by decide) (Ev.some _)
    · exact Ev.pos rfl (Ev.some _)
  · rw [if_pos c0]
    refine Ev.pos (nT (sgn_ne0.2 c0)) (Ev.eq (Ev.some _) ?_)
    congr 1
    by_cases c1 : z < 0
    · rw [decide_eq_true c1]; exact decide_eq_true (sgn_lt0.2 c1)
    · rw [decide_eq_false c1]; exact decide_eq_false (fun g => c1 (sgn_lt0.1 g))
section
variable {f : Int} {W P : Nat} {em ex : Int} (h : Fm f W P em ex) {s : Bool} {n : Nat} {g : Int} (hx : Ft s n g) (hn : n ≠ 0)
include h hx hn
/-- Both neighbours are finite: the question's answer is true. -/
theorem near_true {m : Int} (hm : m = 0 ∨ m = 1) (hi : inX W P (rA n g (em - (P : Int) + 1)) (rB 1 g (em - (P : Int) + 1)) = true) {K : Nat} (hK : dnK W P (rA n g (em - (P : Int) + 1)) (rB 1 g (em - (P : Int) + 1)) = K) (hK1 : K + 1 < infP W P)
    {tv tw : Bool} {Nv Nw : Nat} {Ev' Ew : Int} (e1 : -8000 ≤ Ev' ∧ Ev' ≤ 3000) (e2 : -8000 ≤ Ew ∧ Ew ≤ 3000)
    (hv : sg tv (Nv * p2 (Ev' - -8000)) = sg s (plV P (if s = true then K + 1 else K) * p2 (em - (P : Int) + 1 - -8000))) (hw : sg tw (Nw * p2 (Ew - -8000)) = sg s (plV P (if s = true then K else K + 1) * p2 (em - (P : Int) + 1 - -8000)))
    {low last even : Bool} (hlow : low = (upK W P m s (rA n g (em - (P : Int) + 1)) (rB 1 g (em - (P : Int) + 1)) == s)) (hlast : last = decide ((K + (if upK W P m s (rA n g (em - (P : Int) + 1)) (rB 1 g (em - (P : Int) + 1)) = true then 1 else 0)) % 2 = 0)) (heven : even = (m == 0)) :
    Ev (fun k => vernierlaw05_nearer k tv (digs Nv) Ev' s (digs n) g tw (digs Nw) Ew low last even) true := by
  have h8 := h.p8; have h53 := h.p53; have m0 := h.m0; have m1 := h.m1
  obtain ⟨x1, x2, x3⟩ := fm_ex h
  have het := eTop_le h
  have hg0 := hx.g0
  have hBp : 0 < rB 1 g (em - (P : Int) + 1) := rB_pos Nat.one_pos _ _
  have hnu := near_up (W := W) (P := P) (A := rA n g (em - (P : Int) + 1)) (B := rB 1 g (em - (P : Int) + 1)) (by omega) hBp hi (by rw [hK]; exact hK1) s
  obtain ⟨-, hd⟩ := exact_dn (W := W) (P := P) (A := rA n g (em - (P : Int) + 1)) (B := rB 1 g (em - (P : Int) + 1)) (by omega) hBp (by omega)
  obtain ⟨d1, d2⟩ := hd hi
  rw [hK] at hnu d1 d2
  have d2 := d2 hK1
  obtain ⟨o1, o2⟩ := ord_mid (n := n) (g := g) (l := em - (P : Int) + 1) (b := -8000) hg0 (by omega) (Nat.le_of_lt d1) (Nat.le_of_lt d2)
  have y1 := (ord_lt (n := n) (g := g) (l := em - (P : Int) + 1) (b := -8000) hg0 (by omega) (plV P K)).1 d1
  have y2 := (ord_gt (n := n) (g := g) (l := em - (P : Int) + 1) (b := -8000) hg0 (by omega) (plV P (K + 1))).1 d2
  obtain ⟨p, hp⟩ : ∃ p : Nat, p = 9200 := ⟨_, rfl⟩
  have hvi : plV P (K + 1) < plV P (infP W P) := plV_lt (by omega) hK1
  have hyb : plV P (K + 1) * p2 (em - (P : Int) + 1 - -8000) < 2 ^ p := by
    have z := (Nat.mul_lt_mul_right (p2_pos (em - (P : Int) + 1 - -8000))).2 hvi
    rw [plV_inf h, ← Nat.pow_add] at z
    unfold p2 at z ⊢
    rw [← Nat.pow_add] at z
    exact Nat.lt_of_lt_of_le z (pow_mono2 (by omega))
  have hgb : g ≤ 1300 := by
    refine Int.not_lt.1 fun c => ?_
    have z1 : 2 ^ p ≤ 2 ^ (g - -8000).toNat := pow_mono2 (by omega)
    have z2 : 2 ^ (g - -8000).toNat ≤ n * p2 (g - -8000) := Nat.le_mul_of_pos_left _ (by omega)
    omega
  have rx : RepQ (-8000) s (digs n) g (sg s (n * p2 (g - -8000))) := ⟨n, rfl, by omega, by omega, rfl⟩
  have t1 : n * p2 (g - -8000) - plV P K * p2 (em - (P : Int) + 1 - -8000) < plV P (K + 1) * p2 (em - (P : Int) + 1 - -8000) - n * p2 (g - -8000) → upK W P m s (rA n g (em - (P : Int) + 1)) (rB 1 g (em - (P : Int) + 1)) = false := fun q => by
    rcases hm with rfl | rfl
    · exact (hnu.1 (o1.2 q)).1
    · exact (hnu.1 (o1.2 q)).2
  have t2 : plV P (K + 1) * p2 (em - (P : Int) + 1 - -8000) - n * p2 (g - -8000) < n * p2 (g - -8000) - plV P K * p2 (em - (P : Int) + 1 - -8000) → upK W P m s (rA n g (em - (P : Int) + 1)) (rB 1 g (em - (P : Int) + 1)) = true := fun q => by
    rcases hm with rfl | rfl
    · exact (hnu.2.1 (o2.2 q)).1
    · exact (hnu.2.1 (o2.2 q)).2
  have t3 : n * p2 (g - -8000) - plV P K * p2 (em - (P : Int) + 1 - -8000) = plV P (K + 1) * p2 (em - (P : Int) + 1 - -8000) - n * p2 (g - -8000) → upK W P 0 s (rA n g (em - (P : Int) + 1)) (rB 1 g (em - (P : Int) + 1)) = (K % 2 == 1) ∧ upK W P 1 s (rA n g (em - (P : Int) + 1)) (rB 1 g (em - (P : Int) + 1)) = true := fun q =>
    hnu.2.2 (Nat.le_antisymm (Nat.not_lt.1 fun c => by have := o2.1 c; omega) (Nat.not_lt.1 fun c => by have := o1.1 c; omega))
  have tie : n * p2 (g - -8000) - plV P K * p2 (em - (P : Int) + 1 - -8000) = plV P (K + 1) * p2 (em - (P : Int) + 1 - -8000) - n * p2 (g - -8000) → (if even = true then last else low == s) = true := fun q => by
    obtain ⟨a0, a1⟩ := t3 q
    rcases hm with rfl | rfl
    · rw [heven, if_pos (show ((0 : Int) == 0) = true from rfl), hlast, a0]
      rcases Nat.mod_two_eq_zero_or_one K with k | k
      · rw [k]; exact decide_eq_true (by rw [if_neg (by decide)]; omega)
      · rw [k]; exact decide_eq_true (by rw [if_pos (show ((1 : Nat) == 1) = true from rfl)]; omega)
    · rw [heven, if_neg (show ¬ (((1 : Int) == 0) = true) by decide), hlow, a1]
      cases s <;> rfl
  clear hnu o1 o2 t3 d1 d2 hd hvi hlast heven
  obtain ⟨X, hX⟩ : ∃ X : Nat, X = n * p2 (g - -8000) := ⟨_, rfl⟩
  obtain ⟨Y0, hY0⟩ : ∃ Y : Nat, Y = plV P K * p2 (em - (P : Int) + 1 - -8000) := ⟨_, rfl⟩
  obtain ⟨Y1, hY1⟩ : ∃ Y : Nat, Y = plV P (K + 1) * p2 (em - (P : Int) + 1 - -8000) := ⟨_, rfl⟩
  rw [← hX, ← hY0, ← hY1] at t1 t2 tie
  rw [← hX, ← hY0] at y1
  rw [← hX, ← hY1] at y2
  rw [← hY1] at hyb
  rw [← hX] at rx
  cases s with
  | false =>
    rw [if_neg (by decide), ← hY0] at hv
    rw [if_neg (by decide), ← hY1] at hw
    have rv : RepQ (-8000) tv (digs Nv) Ev' (Y0 : Int) := ⟨Nv, rfl, by omega, by omega, hv⟩
    have rw' : RepQ (-8000) tw (digs Nw) Ew (Y1 : Int) := ⟨Nw, rfl, by omega, by omega, hw⟩
    refine Ev.eq (near_core (B := -8000) (by decide) rv rx rw' (p := p) (by omega) (by omega) (by show ((X : Int)).natAbs < _; omega) (by omega) low last even) ?_
    rw [show sg false X = (X : Int) from rfl]
    generalize hz : (X : Int) - (Y0 : Int) - ((Y1 : Int) - (X : Int)) = z
    rcases Nat.lt_trichotomy (X - Y0) (Y1 - X) with q | q | q
    · rw [if_pos (show z ≠ 0 by omega), decide_eq_true (show z < 0 by omega), hlow, t1 q]; rfl
    · rw [if_neg (show ¬ (z ≠ 0) by omega)]; exact tie q
    · rw [if_pos (show z ≠ 0 by omega), decide_eq_false (show ¬ z < 0 by omega), hlow, t2 q]; rfl
  | true =>
    rw [if_pos rfl, ← hY1] at hv
    rw [if_pos rfl, ← hY0] at hw
    have rv : RepQ (-8000) tv (digs Nv) Ev' (-(Y1 : Int)) := ⟨Nv, rfl, by omega, by omega, hv⟩
    have rw' : RepQ (-8000) tw (digs Nw) Ew (-(Y0 : Int)) := ⟨Nw, rfl, by omega, by omega, hw⟩
    refine Ev.eq (near_core (B := -8000) (by decide) rv rx rw' (p := p) (by omega) (by omega) (by show (-(X : Int)).natAbs < _; omega) (by omega) low last even) ?_
    rw [show sg true X = -(X : Int) from rfl]
    generalize hz : -(X : Int) - -(Y1 : Int) - (-(Y0 : Int) - -(X : Int)) = z
    rcases Nat.lt_trichotomy (X - Y0) (Y1 - X) with q | q | q
    · rw [if_pos (show z ≠ 0 by omega), decide_eq_false (show ¬ z < 0 by omega), hlow, t1 q]; rfl
    · rw [if_neg (show ¬ (z ≠ 0) by omega)]; exact tie q
    · rw [if_pos (show z ≠ 0 by omega), decide_eq_true (show z < 0 by omega), hlow, t2 q]; rfl
end
end Go.Proofs.YtbaaggmicpigeaaDoor.X
