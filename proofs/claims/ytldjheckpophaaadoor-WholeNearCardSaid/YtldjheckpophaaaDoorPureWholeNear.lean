/- Plain law: WholeNear answers true. Conditions: what the reading says of the arguments. -/
import Derived.Test.YtldjheckpophaaaDoorWhE
import Derived.Test.YtldjheckpophaaaDoorDyC
namespace Go.Proofs.YtldjheckpophaaaDoor.X
open Go Go.Rex
set_option linter.unusedVariables false

theorem sgn_zero {x : Int} : sgn x = 0 ↔ x = 0 := by
  unfold sgn
  by_cases c : x < 0
  · rw [if_pos c]; omega
  · rw [if_neg c]; split <;> omega
theorem sgn_lt {x : Int} : sgn x < 0 ↔ x < 0 := by
  unfold sgn
  by_cases c : x < 0
  · rw [if_pos c]; omega
  · rw [if_neg c]; split <;> omega
theorem sgn_gt {x : Int} : 0 < sgn x ↔ 0 < x := by
  unfold sgn
  by_cases c : x < 0
  · rw [if_pos c]; omega
  · rw [if_neg c]; split <;> omega
/-- What a cut moves. -/
theorem cut_delta (m : Int) (s : Bool) (V : Nat) {D : Nat} (hD : 0 < D) : V % D < D ∧
    ((cutN m s V D * D + V % D = V ∧ (V % D = 0 ∨ ups m s (cutN m s V D % 2 == 1) (lft (V % D) D) = false)) ∨
     (cutN m s V D * D + V % D = V + D ∧ V % D ≠ 0 ∧ ups m s (cutN m s V D % 2 == 0) (lft (V % D) D) = true)) := by
  have h1 := Nat.div_add_mod V D
  have h2 := Nat.mod_lt V hD
  refine ⟨h2, ?_⟩
  unfold cutN chs
  by_cases c : 0 < lft (V % D) D ∧ ups m s (V / D % 2 == 1) (lft (V % D) D) = true
  · rw [if_pos c]
    right
    have hr : V % D ≠ 0 := fun e => by have := lft_zero (r := V % D) (d := D) |>.2 e; omega
    refine ⟨by rw [Nat.add_mul, Nat.mul_comm (V / D) D]; omega, hr, ?_⟩
    have : ((V / D + 1) % 2 == 0) = (V / D % 2 == 1) := by
      by_cases g : V / D % 2 = 1
      · rw [g, show (V / D + 1) % 2 = 0 by omega]; rfl
      · rw [show V / D % 2 = 0 by omega, show (V / D + 1) % 2 = 1 by omega]; rfl
    rw [this]; exact c.2
  · rw [if_neg c]
    left
    refine ⟨by rw [Nat.mul_comm (V / D) D]; omega, ?_⟩
    by_cases hr : V % D = 0
    · exact .inl hr
    · right
      have : 0 < lft (V % D) D := Nat.pos_of_ne_zero fun e => hr (lft_zero.1 e)
      cases hu : ups m s (V / D % 2 == 1) (lft (V % D) D)
      · rfl
      · exact absurd ⟨this, hu⟩ c
theorem sg_dist (s : Bool) (x y : Nat) : sg s x - sg s y = (if s then -1 else 1) * ((x : Int) - (y : Int)) := by
  unfold sg; cases s <;> simp <;> omega
theorem RepB.one {B : Int} (hB : B ≤ -1) {t : Nat} (ht : (t : Int) = -B) (h2 : t ≤ 5000) : RepB 1 B false (digs 1) 0 ((2 ^ t : Nat) : Int) := by
  refine ⟨1, rfl, one_len, by omega, by omega, ?_⟩
  rw [Nat.one_mul, show (0 - B).toNat = t by omega]; rfl
theorem RepB.half {B : Int} (hB : B ≤ -1) {t : Nat} (ht : (t : Int) = -B) (h2 : t ≤ 5000) : RepB 1 B false (digs 1) (-1) ((2 ^ (t - 1) : Nat) : Int) := by
  refine ⟨1, rfl, one_len, by omega, by omega, ?_⟩
  rw [Nat.one_mul, show (-1 - B).toNat = t - 1 by omega]; rfl
theorem minusB {B : Int} (hB : -1200 ≤ B ∧ B ≤ 0) {s t : Bool} {l m : List Int} {e f v w : Int} (h : RepB 20 B s l e v) (h' : RepB 20 B t m f w) (he : e ≤ 1200) (hf : f ≤ 1200) : ∃ r : Bool × (List Int × Int), Ev (fun k => vernierlaw12_minus k s l e t m f) r ∧ RepB 80 B r.1 r.2.1 r.2.2 (v - w) := by
  obtain ⟨r, r1, r2, r3⟩ := subB hB h h' he hf
  exact ⟨r, Ev.congr (fun k => vernierlaw12_minus_eq k _ _ _ _ _ _) (Ev.bind r1 (Ev.neg (nF rfl) (Ev.some _))), r2⟩
theorem compB {B : Int} (hB : -1200 ≤ B) {L M : Nat} (hL : L ≤ 1000) (hM : M ≤ 1000) {s t : Bool} {l m : List Int} {e f v w : Int} (h : RepB L B s l e v) (h' : RepB M B t m f w) : Ev (fun k => vernierlaw12_compare k s l e t m f) (sgn (v - w)) :=
  Ev.congr (fun k => vernierlaw12_compare_eq k _ _ _ _ _ _) (Ev.bind (cmpB hB hL hM h h') (Ev.neg (nF rfl) (Ev.some _)))
theorem one12 : Ev (fun k => dyad_FromInt k 1) (false, (digs 1, 0)) := by
  have o := odd_at (n := 1) (by decide) (by have := one_len; omega) false (e := 0) (by omega)
  rw [oddN_of_odd (n := 1) (by decide), tz_of_odd (n := 1) (by decide), ← one_digs] at o
  rw [← one_digs]
  refine Ev.congr (fun k => dyad_FromInt_eq k _) (Ev.neg (dF (by omega)) ?_)
  rw [show IntKind.u64.wrap 1 = 1 by rw [wrap_u64]; decide, show decide ((1 : Int) < 0) = false by decide]
  exact Ev.bind o (Ev.some _)
section
variable {f : Int} {W P : Nat} {em ex : Int} (h : Fm f W P em ex)
include h
/-- A pattern's value, in units of the least one. -/
theorem valueB {K : Nat} (hi : K < infP W P) (s : Bool) : ∃ s' l e, Ev (fun k => vernierlaw12_value k f ((K + sgB s W : Nat) : Int)) (s', (l, e)) ∧ RepB 1 (em - (P : Int) + 1) s' l e (sg s (plV P K)) ∧ e ≤ 1200 ∧ (K = 0 → l = [] ∧ e = 0) ∧ (K ≠ 0 → l = digs (oddN (plV P K)) ∧ e = em - (P : Int) + 1 + (tz (plV P K) : Int)) := by
  have h8 := h.p8; have h3 := h.wp; have h53 := h.p53; have m0 := h.m0; have m1 := h.m1
  obtain ⟨x1, x2, x3⟩ := fm_ex h
  have hip := infP_le h
  have hpp := Nat.two_pow_pos (P - 1)
  obtain ⟨q1, q2, q3⟩ := pk_at (W := W) (K := K) (by omega) (by omega) s
  obtain ⟨v1, v2, v3⟩ := value_pk h q3
  rw [q1] at v1 v2 v3
  rw [q2] at v3
  by_cases c : K = 0
  · refine ⟨false, [], 0, Ev.congr (fun k => vernierlaw12_value_eq k _ _) (Ev.bind (Ev.of (v2 c)) (Ev.some _)), ?_, by omega, fun _ => ⟨rfl, rfl⟩, fun g => absurd c g⟩
    rw [c, (plV_zero (P := P) (by omega)).2 rfl, sg_zero]
    exact (RepB.zero (by omega)).mono (by decide)
  · obtain ⟨f1, f2, f3, f4⟩ := plV_facts h c (by omega)
    have b1 := tz_blen f1
    have hb : blen (plV P K) ≤ P - 1 + (eTop W P - 1) := by
      rw [blen_le_iff, Nat.pow_add, ← plV_inf h]
      refine Nat.lt_of_not_le fun g => ?_
      have := (plV_le (P := P) (by omega)).1 g
      omega
    have ll : (digs (oddN (plV P K))).length ≤ 1 := digs_length_lt.2 (by rw [Nat.pow_one]; exact f4)
    refine ⟨s, digs (oddN (plV P K)), em - (P : Int) + 1 + (tz (plV P K) : Int), Ev.congr (fun k => vernierlaw12_value_eq k _ _) (Ev.bind (Ev.of (v3 c hi)) (Ev.some _)), ?_, by omega, fun g => absurd g c, fun _ => ⟨rfl, rfl⟩⟩
    refine ⟨oddN (plV P K), rfl, ll, by omega, by omega, ?_⟩
    rw [show (em - (P : Int) + 1 + (tz (plV P K) : Int) - (em - (P : Int) + 1)).toNat = tz (plV P K) by omega, oddN_mul f1]
end
/-- The end of the law, told of plain numbers: a is V units, r is U whole ones of D units each, d is r - a. -/
theorem near_j1 {B : Int} (hB : -1200 ≤ B ∧ B ≤ -1) {t : Nat} (ht : (t : Int) = -B) {M : Int} (hM : Md M) (s : Bool) (V : Nat)
    {sa sr sd : Bool} {la lr ld : List Int} {ea er ed : Int} (ra : RepB 1 B sa la ea (sg s V)) (rd : RepB 80 B sd ld ed (sg s (cutN M s V (2 ^ t) * 2 ^ t) - sg s V))
    (he : cutN M s V (2 ^ t) = 0 → lr = [] ∧ er = 0) (ho : cutN M s V (2 ^ t) ≠ 0 → lr ≠ [] ∧ er = (tz (cutN M s V (2 ^ t)) : Int)) (F K A X : Int) :
    Ev (fun k => vernierlaw12_WholeNear.j1 k (sgn (sg s (cutN M s V (2 ^ t) * 2 ^ t) - sg s V)) F M K A X la sa ea lr sr er ld sd ed) true := by
  have m0 := hM.m0; have m5 := hM.m5
  have hp := Nat.two_pow_pos t
  have hh : 2 ^ t = 2 * 2 ^ (t - 1) := pow_half (by omega)
  obtain ⟨c1, c2⟩ := cut_delta M s V hp
  have signA := signB ra (by decide)
  have rh := RepB.half hB.2 ht (by omega)
  have z20 : RepB 20 B false [] 0 0 := (RepB.zero (by omega)).mono (by decide)
  obtain ⟨nh, nh1, nh2⟩ := minusB ⟨hB.1, by omega⟩ z20 (rh.mono (by decide)) (by omega) (by omega)
  have cp := compB hB.1 (by decide) (by decide) rd rh
  have cn := compB hB.1 (by decide) (by decide) nh2 rd
  rw [← one_digs] at cp nh1
  -- the parity told by the reading of r
  have even_ok : cutN M s V (2 ^ t) % 2 = 0 → (lr ≠ [] → er > 0) := fun g l0 => by
    by_cases z : cutN M s V (2 ^ t) = 0
    · exact absurd (he z).1 l0
    · obtain ⟨-, o2⟩ := ho z
      have := oddN_mul z
      by_cases tz0 : tz (cutN M s V (2 ^ t)) = 0
      · have h1 := oddN_odd z
        rw [tz0, Nat.pow_zero, Nat.mul_one] at this
        omega
      · omega
  have odd_ok : cutN M s V (2 ^ t) % 2 = 1 → lr ≠ [] ∧ er = 0 := fun g => by
    obtain ⟨o1, o2⟩ := ho (by omega)
    rw [tz_of_odd g] at o2
    exact ⟨o1, o2⟩
  have lft_up : ∀ r, lft r (2 ^ t) = if r = 0 then 0 else if r < 2 ^ (t - 1) then 1 else if r = 2 ^ (t - 1) then 2 else 3 := fun r => by
    unfold lft; rw [hh]
    by_cases a : r = 0
    · rw [if_pos a, if_pos a]
    · rw [if_neg a, if_neg a]
      by_cases b : r < 2 ^ (t - 1)
      · rw [if_pos b, if_pos (by omega)]
      · rw [if_neg b, if_neg (by omega)]
        by_cases e : r = 2 ^ (t - 1)
        · rw [if_pos e, if_pos (by omega)]
        · rw [if_neg e, if_neg (by omega)]
  rw [lft_up] at c2
  have posV : V % 2 ^ t ≠ 0 → V ≠ 0 := fun g e => g (by rw [e, Nat.zero_mod])
  have hd : ∀ Y : Nat, (s = false → sg s Y - sg s V = (Y : Int) - V) ∧ (s = true → sg s Y - sg s V = (V : Int) - Y) := fun Y => by
    unfold sg; cases s <;> simp <;> omega
  have hd := hd (cutN M s V (2 ^ t) * 2 ^ t)
  have hsa : (s = false → V ≠ 0 → sgn (sg s V) = 1) ∧ (s = true → V ≠ 0 → sgn (sg s V) = -1) := by
    unfold sg sgn
    cases s
    · simp only [Bool.false_eq_true, if_false]
      exact ⟨fun _ g => by rw [if_neg (by omega), if_neg (by omega)], fun g => by simp at g⟩
    · simp only [if_true]
      exact ⟨fun g => by simp at g, fun _ g => by rw [if_pos (by omega)]⟩
  generalize sg s (cutN M s V (2 ^ t) * 2 ^ t) - sg s V = d at *
  generalize sgn (sg s V) = sV at *
  generalize cutN M s V (2 ^ t) = U at *
  generalize U * 2 ^ t = Y at *
  generalize V % 2 ^ t = r at *
  generalize 2 ^ t = D at *
  generalize 2 ^ (t - 1) = Hf at *
  refine Ev.congr (fun k => vernierlaw12_WholeNear.j1_eq k _ _ _ _ _ _ _ _ _ _ _ _ _ _ _) ?_
  have mm : M = 0 ∨ M = 1 ∨ M = 2 ∨ M = 3 ∨ M = 4 ∨ M = 5 := by omega
  have nn : (M = 0 ∨ M = 1) → (Y + r = V ∧ r ≤ Hf ∧ (r = Hf → M = 0 ∧ U % 2 = 0)) ∨ (Y + r = V + D ∧ Hf ≤ r ∧ r ≠ 0 ∧ (r = Hf → M = 1 ∨ U % 2 = 0)) := by
    intro cc
    rcases c2 with ⟨a1, a2⟩ | ⟨a1, a2, a3⟩
    · left
      refine ⟨a1, ?_⟩
      rcases a2 with a2 | a2
      · exact ⟨by omega, fun e => by omega⟩
      · rcases cc with rfl | rfl
        · by_cases b1 : r = 0
          · exact ⟨by omega, fun e => by omega⟩
          rw [if_neg b1] at a2
          by_cases b2 : r < Hf
          · exact ⟨by omega, fun e => by omega⟩
          rw [if_neg b2] at a2
          by_cases b3 : r = Hf
          · rw [if_pos b3] at a2
            simp [ups] at a2
            exact ⟨by omega, fun e => ⟨rfl, by omega⟩⟩
          · rw [if_neg b3] at a2
            simp [ups] at a2
        · by_cases b1 : r = 0
          · exact ⟨by omega, fun e => by omega⟩
          rw [if_neg b1] at a2
          by_cases b2 : r < Hf
          · exact ⟨by omega, fun e => by omega⟩
          rw [if_neg b2] at a2
          by_cases b3 : r = Hf
          · rw [if_pos b3] at a2
            simp [ups] at a2
          · rw [if_neg b3] at a2
            simp [ups] at a2
    · right
      refine ⟨a1, ?_⟩
      rw [if_neg a2] at a3
      by_cases b2 : r < Hf
      · rw [if_pos b2] at a3
        rcases cc with rfl | rfl <;> simp [ups] at a3
      · refine ⟨by omega, a2, fun e => ?_⟩
        rw [if_neg b2, if_pos e] at a3
        rcases cc with rfl | rfl
        · simp [ups] at a3; exact .inr a3
        · exact .inl rfl
  rcases mm with rfl | rfl | rfl | rfl | rfl | rfl
  · have n0 := nn (.inl rfl)
    have tie : (d = Hf ∨ d = -(Hf : Int)) → Ev (fun k => (if (0 : Int) == 0 then (if (lr.length : Int) == 0 then some true else some (decide (er > 0))) else ((dyad_Sign k sa la ea)).bind fun o23 => some (sgn d == o23))) true := fun g => by
      refine Ev.pos rfl ?_
      have hu : U % 2 = 0 := by
        cases s <;> simp at hd <;> omega
      by_cases l0 : lr = []
      · exact Ev.pos (bT (by rw [l0]; rfl)) (Ev.some _)
      · have := even_ok hu l0
        refine Ev.neg (bF fun g => l0 (List.eq_nil_of_length_eq_zero (by omega))) (Ev.eq (Ev.some _) (decide_eq_true this))
    have hle : d ≤ Hf ∧ -(Hf : Int) ≤ d := by cases s <;> simp at hd <;> omega
    refine Ev.neg (bF (by decide)) (Ev.neg (bF (by decide)) (Ev.neg (bF (by decide)) (Ev.neg (bF (by decide)) (Ev.bind cp ?_))))
    by_cases g1 : d = Hf
    · exact Ev.pos (bT (sgn_zero.2 (by omega))) (tie (.inl g1))
    · refine Ev.neg (bF fun e => g1 (by have := sgn_zero.1 e; omega)) (Ev.bind nh1 (Ev.bind cn ?_))
      by_cases g2 : d = -(Hf : Int)
      · exact Ev.pos (bT (sgn_zero.2 (by omega))) (tie (.inr g2))
      · refine Ev.neg (bF fun e => g2 (by have := sgn_zero.1 e; omega)) (Ev.bind cp (Ev.pos (dT ?_) (Ev.bind nh1 (Ev.bind cn (Ev.eq (Ev.some _) (decide_eq_true ?_))))))
        · have := (sgn_lt (x := d - Hf)).2 (by omega); omega
        · have := (sgn_lt (x := 0 - (Hf : Int) - d)).2 (by omega); omega
  · have n0 := nn (.inr rfl)
    have tie : (d = Hf ∨ d = -(Hf : Int)) → Ev (fun k => (if (1 : Int) == 0 then (if (lr.length : Int) == 0 then some true else some (decide (er > 0))) else ((dyad_Sign k sa la ea)).bind fun o23 => some (sgn d == o23))) true := fun g => by
      refine Ev.neg (bF (by decide)) (Ev.bind signA (Ev.eq (Ev.some _) (bT ?_)))
      have hV : V ≠ 0 := posV (by cases s <;> simp at hd <;> omega)
      cases s
      · simp at hd hsa
        rw [hsa hV]
        have : 0 < d := by omega
        unfold sgn; rw [if_neg (by omega), if_neg (by omega)]
      · simp at hd hsa
        rw [hsa hV]
        have : d < 0 := by omega
        unfold sgn; rw [if_pos (by omega)]
    have hle : d ≤ Hf ∧ -(Hf : Int) ≤ d := by cases s <;> simp at hd <;> omega
    refine Ev.neg (bF (by decide)) (Ev.neg (bF (by decide)) (Ev.neg (bF (by decide)) (Ev.neg (bF (by decide)) (Ev.bind cp ?_))))
    by_cases g1 : d = Hf
    · exact Ev.pos (bT (sgn_zero.2 (by omega))) (tie (.inl g1))
    · refine Ev.neg (bF fun e => g1 (by have := sgn_zero.1 e; omega)) (Ev.bind nh1 (Ev.bind cn ?_))
      by_cases g2 : d = -(Hf : Int)
      · exact Ev.pos (bT (sgn_zero.2 (by omega))) (tie (.inr g2))
      · refine Ev.neg (bF fun e => g2 (by have := sgn_zero.1 e; omega)) (Ev.bind cp (Ev.pos (dT ?_) (Ev.bind nh1 (Ev.bind cn (Ev.eq (Ev.some _) (decide_eq_true ?_))))))
        · have := (sgn_lt (x := d - Hf)).2 (by omega); omega
        · have := (sgn_lt (x := 0 - (Hf : Int) - d)).2 (by omega); omega
  · have n0 : Y + r = V := by
      rcases c2 with ⟨a1, a2⟩ | ⟨a1, a2, a3⟩
      · exact a1
      · simp [ups] at a3
    refine Ev.neg (bF (by decide)) (Ev.neg (bF (by decide)) (Ev.pos (bT rfl) ?_))
    by_cases g : d = 0
    · exact Ev.pos (bT (sgn_zero.2 g)) (Ev.some _)
    · refine Ev.neg (bF fun e => g (sgn_zero.1 e)) (Ev.bind signA (Ev.eq (Ev.some _) (nT ?_)))
      have hV : V ≠ 0 := posV (by cases s <;> simp at hd <;> omega)
      cases s
      · simp at hd hsa
        rw [hsa hV]
        unfold sgn; rw [if_pos (by omega)]; decide
      · simp at hd hsa
        rw [hsa hV]
        unfold sgn; rw [if_neg (by omega), if_neg (by omega)]; decide
  · refine Ev.neg (bF (by decide)) (Ev.pos (bT rfl) (Ev.eq (Ev.some _) (decide_eq_true ?_)))
    have : 0 ≤ d := by
      rcases c2 with ⟨a1, a2⟩ | ⟨a1, a2, a3⟩
      · cases s
        · simp at hd
          rcases a2 with a2 | a2
          · omega
          · simp [ups] at a2
        · simp at hd; omega
      · cases s
        · simp at hd; omega
        · simp [ups] at a3
    have h2 := (sgn_lt (x := d))
    omega
  · refine Ev.pos (bT rfl) (Ev.eq (Ev.some _) (decide_eq_true ?_))
    have : d ≤ 0 := by
      rcases c2 with ⟨a1, a2⟩ | ⟨a1, a2, a3⟩
      · cases s
        · simp at hd; omega
        · simp at hd
          rcases a2 with a2 | a2
          · omega
          · simp [ups] at a2
      · cases s
        · simp [ups] at a3
        · simp at hd; omega
    have h2 := (sgn_gt (x := d))
    omega
  · refine Ev.neg (bF (by decide)) (Ev.neg (bF (by decide)) (Ev.neg (bF (by decide)) (Ev.pos (bT rfl) ?_)))
    by_cases g : d = 0
    · exact Ev.pos (bT (sgn_zero.2 g)) (Ev.some _)
    · refine Ev.neg (bF fun e => g (sgn_zero.1 e)) ?_
      have hu : U % 2 = 1 := by
        rcases c2 with ⟨a1, a2⟩ | ⟨a1, a2, a3⟩
        · rcases a2 with a2 | a2
          · exfalso; cases s <;> simp at hd <;> omega
          · simp [ups] at a2; exact a2
        · simp [ups] at a3; omega
      obtain ⟨o1, o2⟩ := odd_ok hu
      refine Ev.pos (dT ?_) (Ev.eq (Ev.some _) (bT o2))
      have := List.length_pos_iff.2 o1
      omega
namespace Pure
abbrev OneTyN : Ty := .pair (.int .i64) (.pair (.int .i64) (.pair (.int .i64) (.pair (.int .u64) (.int .i64))))
theorem WholeNear (t : Int × (Int × (Int × (Int × Int)))) (w : WFt OneTyN t) : Ev (fun k => vernierlaw12_WholeNear k t.1 t.2.1 t.2.2.1 t.2.2.2.1 t.2.2.2.2) true := by
  obtain ⟨w1, w2, w3, w4, w5⟩ := w
  obtain ⟨f, m, κ, a, X⟩ := t
  have hf := wf_i64 w1
  have hm := wf_i64 w2
  have hk := wf_i64 w3
  have ha : 0 ≤ a ∧ a < 18446744073709551616 := wf_u64 w4
  have hX := wf_i64 w5
  show Ev (fun k => vernierlaw12_WholeNear k f m κ a X) true
  obtain ⟨a, rfl⟩ := Int.eq_ofNat_of_zero_le ha.1
  obtain ⟨F, M, K, W, P, em, ex, h, hM, k0, k3, rt⟩ := wright_ev (f := f) (m := m) (κ := κ) (a := a) X hf hm hk (by omega)
  refine Ev.congr (fun k => vernierlaw12_WholeNear_eq k _ _ _ _ _) (Ev.bind awake12_ev (Ev.neg (notF rfl) (Ev.bind rt ?_)))
  have h8 := h.p8; have h3 := h.wp; have h53 := h.p53; have m0 := h.m0; have m1 := h.m1
  have hip := infP_le h
  have hpp := Nat.two_pow_pos (P - 1)
  have hx : a % 2 ^ W < 2 ^ W := Nat.mod_lt _ (Nat.two_pow_pos W)
  generalize a % 2 ^ W = A at *
  have fa := finite12_ev h hx
  by_cases hi : pk W A < infP W P
  · rw [decide_eq_true hi] at fa
    refine Ev.bind fa (Ev.neg (notF rfl) ?_)
    obtain ⟨p1, p2, p3, p4, p5, p6⟩ := pat_parts h hx
    obtain ⟨kv, kl⟩ := wK_ok h (m := M) (ps W A) hi
    obtain ⟨t, t1, t2, t3, t4⟩ := wD_pow h
    have hD := wD_pos P em
    have i1 := Integral_ev h hM hx true
    rw [inR_fin h M hx hi] at i1
    have i2 := Integral_ev h hM hx false
    rw [inR_fin h M hx hi, if_neg (by simp)] at i2
    obtain ⟨M2, a1, a2, a3⟩ := winto_ev (n := IntKind.i64.wrap (M + K)) (by rw [wrap_i64]; omega) (.inr rfl)
    obtain ⟨z1, z2, z3⟩ := pk_at (W := W) (K := wK P em M (ps W A) (pk W A)) (by omega) (by omega) (ps W A)
    -- the whole one again: itself
    have i3 := Integral_ev h (m := M2) ⟨a1, by omega⟩ z3 true
    rw [inR_fin h M2 z3 (by rw [z1]; exact kl), z1, z2] at i3
    have l0 : lft 0 (wD P em) = 0 := by unfold lft; rw [if_pos rfl]
    have hu : wU P em M2 (ps W A) (wK P em M (ps W A) (pk W A)) = wU P em M (ps W A) (pk W A) := by
      conv => lhs; unfold wU cutN
      rw [kv, Nat.mul_mod_left, Nat.mul_div_cancel _ hD, l0, chs_zero]
    have hl : wL P em (wK P em M (ps W A) (pk W A)) = false := by
      unfold wL lftN
      rw [kv, Nat.mul_mod_left, l0]; rfl
    have hk2 : wK P em M2 (ps W A) (wK P em M (ps W A) (pk W A)) = wK P em M (ps W A) (pk W A) := by
      rw [show wK P em M2 (ps W A) (wK P em M (ps W A) (pk W A)) = flr P (wU P em M2 (ps W A) (wK P em M (ps W A) (pk W A)) * wD P em) 1 from rfl, hu, flr_at' (P := P) (by omega) kv]
    rw [hl, hk2, if_neg (by simp)] at i3
    have fr := finite12_ev h z3
    rw [z1, decide_eq_true kl] at fr
    obtain ⟨vn, d0, e0, op, -⟩ := open06 h z3
    obtain ⟨vn', d0', e0', op', -⟩ := open06 h hx
    rw [z1, z2] at op
    obtain ⟨sr, lr, er, vr, vr1, vr2, vr3, vr4⟩ := valueB h kl (ps W A)
    obtain ⟨sa, la, ea, va, va1, va2, va3, va4⟩ := valueB h hi (ps W A)
    rw [← p4] at va
    obtain ⟨d, d1, d2⟩ := minusB (B := em - (P : Int) + 1) (by omega) (vr1.mono (by decide)) (va1.mono (by decide)) vr2 va2
    have o1 := RepB.one (B := em - (P : Int) + 1) (by omega) (t := t) (by omega) (by omega)
    obtain ⟨no, no1, no2⟩ := minusB (B := em - (P : Int) + 1) (by omega) (s := false) (l := []) (e := 0) ((RepB.zero (by omega)).mono (by decide)) (o1.mono (by decide)) (by omega) (by omega)
    have sd := signB d2 (by decide)
    have c1 := compB (by omega) (by decide) (by decide) d2 o1
    have c2 := compB (by omega) (by decide) (by decide) no2 d2
    have hw : wL P em (pk W A) = decide (plV P (pk W A) % 2 ^ t ≠ 0) := by
      unfold wL
      rw [t1]
      by_cases g : plV P (pk W A) % 2 ^ t = 0
      · rw [decide_eq_false (show ¬ plV P (pk W A) % 2 ^ t ≠ 0 by omega), decide_eq_false (by rw [lftN_zero.2 g]; simp)]
      · rw [decide_eq_true (show plV P (pk W A) % 2 ^ t ≠ 0 from g), decide_eq_true (show lftN (plV P (pk W A)) (2 ^ t) ≠ 0 from fun e => g (lftN_zero.1 e))]
    have hcut : wU P em M (ps W A) (pk W A) = cutN M (ps W A) (plV P (pk W A)) (2 ^ t) := by unfold wU; rw [t1]
    have hpt := Nat.two_pow_pos t
    obtain ⟨q1, q2⟩ := cut_delta M (ps W A) (plV P (pk W A)) hpt
    rw [kv, t1, hcut] at d2 vr1 vr4 sd c1 c2
    rw [t1, hcut] at kv
    have er0 : 0 ≤ er ∧ (cutN M (ps W A) (plV P (pk W A)) (2 ^ t) = 0 → lr = [] ∧ er = 0) ∧ (cutN M (ps W A) (plV P (pk W A)) (2 ^ t) ≠ 0 → lr ≠ [] ∧ er = (tz (cutN M (ps W A) (plV P (pk W A)) (2 ^ t)) : Int)) := by
      by_cases g : cutN M (ps W A) (plV P (pk W A)) (2 ^ t) = 0
      · rw [g, Nat.zero_mul] at kv
        obtain ⟨g1, g2⟩ := vr3 ((plV_zero (by omega)).1 kv)
        exact ⟨by omega, fun _ => ⟨g1, g2⟩, fun g' => absurd g g'⟩
      · obtain ⟨g1, g2⟩ := vr4 (fun e => by
          rw [e, (plV_zero (P := P) (by omega)).2 rfl] at kv
          rcases Nat.mul_eq_zero.1 kv.symm with g' | g'
          · exact g g'
          · omega)
        obtain ⟨b1, b2⟩ := tz_mul_pow g t
        rw [b2] at g1
        rw [b1] at g2
        refine ⟨by omega, fun e => absurd e g, fun _ => ⟨fun e => ?_, by omega⟩⟩
        have := digs_len_pos.2 (oddN_ne g)
        rw [← g1, e] at this
        simp at this
    have fin := near_j1 (B := em - (P : Int) + 1) (sr := sr) (by omega) (t := t) (by omega) hM (ps W A) (plV P (pk W A)) va1 d2 er0.2.1 er0.2.2 F K ((A : Nat) : Int) X
    have hd : ∀ Y : Nat, (ps W A = false → sg (ps W A) Y - sg (ps W A) (plV P (pk W A)) = (Y : Int) - plV P (pk W A)) ∧ (ps W A = true → sg (ps W A) Y - sg (ps W A) (plV P (pk W A)) = (plV P (pk W A) : Int) - Y) := fun Y => by
      unfold sg; cases ps W A <;> simp <;> omega
    have hd := hd (cutN M (ps W A) (plV P (pk W A)) (2 ^ t) * 2 ^ t)
    generalize sg (ps W A) (cutN M (ps W A) (plV P (pk W A)) (2 ^ t) * 2 ^ t) - sg (ps W A) (plV P (pk W A)) = δ at *
    generalize cutN M (ps W A) (plV P (pk W A)) (2 ^ t) * 2 ^ t = Y at *
    have bd : δ < ((2 ^ t : Nat) : Int) ∧ -((2 ^ t : Nat) : Int) < δ ∧ (δ = 0 ↔ plV P (pk W A) % 2 ^ t = 0) := by
      generalize plV P (pk W A) % 2 ^ t = r at *
      generalize 2 ^ t = D at *
      cases hs : ps W A
      · simp [hs] at hd
        rcases q2 with ⟨b1, -⟩ | ⟨b1, b2, -⟩ <;> omega
      · simp [hs] at hd
        rcases q2 with ⟨b1, -⟩ | ⟨b1, b2, -⟩ <;> omega
    generalize ((wK P em M (ps W A) (pk W A) + sgB (ps W A) W : Nat) : Int) = R at *
    refine Ev.bind i1 (Ev.bind i2 (Ev.bind a3 (Ev.bind i3 (Ev.neg (nF rfl) (Ev.neg (nF rfl) (Ev.neg (nF rfl) (Ev.neg (nF rfl) (Ev.neg (nF rfl) (Ev.neg (nF rfl) (Ev.neg (nF rfl) (Ev.bind fr (Ev.neg (notF rfl) ?_))))))))))))
    refine Ev.congr (fun k => vernierlaw12_WholeNear.j0_eq k _ _ _ _ _ _ _) (Ev.bind op (Ev.bind op' (Ev.neg (notF (beq_self_eq_true _)) (Ev.bind va (Ev.bind vr (Ev.bind d1 (Ev.bind one12 (Ev.bind sd ?_))))))))
    have er1 : ¬ (decide ((sr, (lr, er)).2.2 < 0) = true) := dF (by have := er0.1; show ¬ er < 0; omega)
    have cmp1 : ¬ (decide (sgn (δ - ((2 ^ t : Nat) : Int)) ≥ 0) = true) := dF (by have := (sgn_lt (x := δ - ((2 ^ t : Nat) : Int))).2 (by omega); omega)
    have cmp2 : ¬ (decide (sgn (0 - ((2 ^ t : Nat) : Int) - δ) ≥ 0) = true) := dF (by have := (sgn_lt (x := 0 - ((2 ^ t : Nat) : Int) - δ)).2 (by omega); omega)
    by_cases g : plV P (pk W A) % 2 ^ t = 0
    · rw [hw, decide_eq_false (show ¬ plV P (pk W A) % 2 ^ t ≠ 0 by omega), if_neg (by simp)]
      have s0 : sgn δ = 0 := sgn_zero.2 (bd.2.2.2 g)
      refine Ev.neg (notF (by rw [s0]; rfl)) (Ev.neg (nF rfl) (Ev.neg er1 (Ev.bind c1 (Ev.neg cmp1 (Ev.bind no1 (Ev.bind c2 (Ev.neg cmp2 fin)))))))
    · rw [hw, decide_eq_true (show plV P (pk W A) % 2 ^ t ≠ 0 from g), if_pos ⟨rfl, rfl⟩]
      have s0 : sgn δ ≠ 0 := fun e => g (bd.2.2.1 (sgn_zero.1 e))
      refine Ev.neg (notF (by rw [show (sgn δ != 0) = true from bne_iff_ne.2 s0]; rfl)) (Ev.pos rfl (Ev.neg (nF rfl) (Ev.neg er1 (Ev.bind c1 (Ev.neg cmp1 (Ev.bind no1 (Ev.bind c2 (Ev.neg cmp2 fin))))))))
  · rw [decide_eq_false hi] at fa
    exact Ev.bind fa (Ev.pos (notT rfl) (Ev.some _))
end Pure
end Go.Proofs.YtldjheckpophaaaDoor.X
