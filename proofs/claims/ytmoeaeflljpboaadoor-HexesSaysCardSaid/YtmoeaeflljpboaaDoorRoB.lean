/- Plain law: layer 5's into: bits and flags of a number, as the plain rounding to a place says. Conditions: the number's natural is short and not 0, its exponent moderate; with an unknown rest it has enough bits. -/
import Derived.Test.YtmoeaeflljpboaaDoorRoA
namespace Go.Proofs.YtmoeaeflljpboaaDoor.X
open Go Go.Rex
set_option linter.unusedVariables false

theorem blen_pow_mul {n : Nat} (h : n ≠ 0) (x : Nat) : blen (n * 2 ^ x) = blen n + x := by
  have h1 := blen_le h
  have h2 := blen_lt n
  have h3 := blen_pos h
  have := blen_eq (n := n * 2 ^ x) (k := blen n - 1 + x) (by rw [Nat.pow_add]; exact Nat.mul_le_mul_right _ h1) (by
    rw [show blen n - 1 + x + 1 = blen n + x by omega, Nat.pow_add]
    exact Nat.mul_lt_mul_of_pos_right h2 (Nat.two_pow_pos x))
  omega
theorem blen_two_odd (n : Nat) : blen (2 * n + 1) = blen n + 1 := by
  have := blen_half (n := 2 * n + 1) (by omega)
  rw [show (2 * n + 1) / 2 = n by omega] at this
  exact this
theorem blen_div_pow {n : Nat} (h : n ≠ 0) (y : Nat) : blen (n / 2 ^ y) = blen n - y := by
  rcases Nat.lt_or_ge n (2 ^ y) with c | c
  · rw [Nat.div_eq_of_lt c, blen_zero]
    have := blen_bound c; omega
  · have := blen_div c; omega
/-- The bits of a number's floor in places of 2^l. -/
theorem blen_q {n : Nat} (hn : n ≠ 0) (e : Int) (more : Bool) (l : Int) : blen (qA n e more l / qB e more l) = ((blen n : Int) + e - l).toNat := by
  unfold qA qB nuN nuD
  rcases Int.lt_or_le e l with c | c
  · obtain ⟨y, hy⟩ : ∃ y : Nat, l - e = (y : Int) := ⟨(l - e).toNat, by omega⟩
    rw [p2_neg (z := e - l) (by omega), hy, p2_nat, Nat.mul_one]
    cases more
    · rw [if_neg (by simp), if_neg (by simp), Nat.one_mul, blen_div_pow hn]; omega
    · rw [if_pos rfl, if_pos rfl, sticky_half, blen_div_pow hn]; omega
  · obtain ⟨x, hx⟩ : ∃ x : Nat, e - l = (x : Int) := ⟨(e - l).toNat, by omega⟩
    rw [p2_neg (z := l - e) (by omega), hx, p2_nat, Nat.mul_one]
    cases more
    · rw [if_neg (by simp), if_neg (by simp), Nat.div_one, blen_pow_mul hn]; omega
    · rw [if_pos rfl, if_pos rfl]
      cases x with
      | zero => rw [Nat.pow_zero, Nat.mul_one, show (2 * n + 1) / 2 = n by omega]; omega
      | succ x =>
        rw [Nat.pow_succ, ← Nat.mul_assoc, Nat.mul_div_cancel _ (by decide), blen_pow_mul (by omega), blen_two_odd]; omega
/-- Tiny: rounded as if the exponent had no bound, nearer to zero than the least normal one. -/
def tinyB (P : Nat) (m : Int) (neg : Bool) (A B : Nat) : Bool := decide (A < B * 2 ^ (P - 1)) && decide (cutN m neg (2 * A) B < 2 ^ P)
/-- The bits and the flags of A / B units of the least place. -/
def rnOut (W P : Nat) (m : Int) (neg : Bool) (A B : Nat) : Int × Int :=
  if infP W P ≤ rnd P m neg A B then (((beyN W P m neg : Nat) : Int), 20)
  else (((rnd P m neg A B + sgB neg W : Nat) : Int), if lftP P A B = 0 then 0 else if tinyB P m neg A B then 24 else 16)
theorem tinyB_cross (P : Nat) (m : Int) (neg : Bool) {A B A' B' : Nat} (hB : 0 < B) (hB' : 0 < B') (h : A * B' = A' * B) : tinyB P m neg A B = tinyB P m neg A' B' := by
  unfold tinyB
  rw [cutN_cross m neg (A := 2 * A) (A' := 2 * A') hB hB' (by rw [Nat.mul_assoc, h, Nat.mul_assoc])]
  have : A < B * 2 ^ (P - 1) ↔ A' < B' * 2 ^ (P - 1) := by
    have e1 : A < B * 2 ^ (P - 1) ↔ A * B' < B * 2 ^ (P - 1) * B' := (Nat.mul_lt_mul_right hB').symm
    have e2 : A' < B' * 2 ^ (P - 1) ↔ A' * B < B' * 2 ^ (P - 1) * B := (Nat.mul_lt_mul_right hB).symm
    have e3 : B * 2 ^ (P - 1) * B' = B' * 2 ^ (P - 1) * B := by grind
    rw [e1, e2, h, e3]
  simp only [this]
theorem rnOut_cross (W P : Nat) (m : Int) (neg : Bool) {A B A' B' : Nat} (hB : 0 < B) (hB' : 0 < B') (h : A * B' = A' * B) : rnOut W P m neg A B = rnOut W P m neg A' B' := by
  unfold rnOut
  rw [rnd_cross P m neg hB hB' h, lftP_cross hB hB' h, tinyB_cross P m neg hB hB' h]
/-- The rounded last bits: at most P bits and a carry. -/
theorem cut_facts {P A B : Nat} (hP : 1 ≤ P) (hB : 0 < B) (m : Int) (neg : Bool) : cutN m neg A (B * 2 ^ shf P A B) ≤ 2 ^ P ∧ (shf P A B = 0 ∨ 2 ^ (P - 1) ≤ cutN m neg A (B * 2 ^ shf P A B)) := by
  obtain ⟨h1, h2⟩ := shf_facts (A := A) hP hB
  have h3 := chs_ge m neg (A / (B * 2 ^ shf P A B)) (lft (A % (B * 2 ^ shf P A B)) (B * 2 ^ shf P A B))
  have h4 := chs_le m neg (A / (B * 2 ^ shf P A B)) (lft (A % (B * 2 ^ shf P A B)) (B * 2 ^ shf P A B))
  unfold cutN
  constructor
  · omega
  · omega
theorem blen_le_iff {n k : Nat} : blen n ≤ k ↔ n < 2 ^ k := by
  constructor
  · intro h; exact Nat.lt_of_lt_of_le (blen_lt n) (Nat.pow_le_pow_right (by decide) h)
  · exact blen_bound

theorem cut_at (n : Nat) (e : Int) (more : Bool) (em : Int) (P s : Nat) (m : Int) (neg : Bool) : 
    cutN m neg (qA n e more (em - (P : Int) + 1 + (s : Int))) (qB e more (em - (P : Int) + 1 + (s : Int))) = cutN m neg (qA n e more (em - (P : Int) + 1)) (qB e more (em - (P : Int) + 1) * 2 ^ s) ∧
    lftN (qA n e more (em - (P : Int) + 1 + (s : Int))) (qB e more (em - (P : Int) + 1 + (s : Int))) = lftN (qA n e more (em - (P : Int) + 1)) (qB e more (em - (P : Int) + 1) * 2 ^ s) := by
  have hc := q_cross n e more (q := em - (P : Int) + 1 + (s : Int)) (l := em - (P : Int) + 1) (by omega)
  rw [show em - (P : Int) + 1 + (s : Int) - (em - (P : Int) + 1) = (s : Int) by omega, p2_nat] at hc
  have b1 := qB_pos e more (em - (P : Int) + 1 + (s : Int))
  have b2 := Nat.mul_pos (qB_pos e more (em - (P : Int) + 1)) (Nat.two_pow_pos s)
  exact ⟨cutN_cross m neg b1 b2 hc, lftN_cross b1 b2 hc⟩
theorem small_bl {n P : Nat} (h5 : P ≤ 53) (hb : blen n ≤ P + 1) : (digs n).length ≤ 1000 := by
  have : (digs n).length ≤ 1 := digs_length_lt.2 (by
    rw [Nat.pow_one]
    exact Nat.lt_of_lt_of_le (blen_le_iff.1 hb) (pow_mono2 (b := 64) (by omega)))
  omega
section
variable {f : Int} {W P : Nat} {em ex : Int} (h : Fm f W P em ex)
include h
/-- Beyond: by the bits of what is rounded. -/
theorem over_iff {s n : Nat} (hn : n ≤ 2 ^ P) (hs : s = 0 ∨ 2 ^ (P - 1) ≤ n) (hse : (s : Int) ≤ ex - em) : (em - (P : Int) + 1 + (s : Int) + (blen n : Int) - 1 > ex) ↔ infP W P ≤ s * 2 ^ (P - 1) + n := by
  obtain ⟨x1, x2, x3⟩ := fm_ex h
  have h8 := h.p8
  have m0 := h.m0
  have m1 := h.m1
  have hp := Nat.two_pow_pos (P - 1)
  have h2 := pow_half (P := P) (by omega)
  have et : (eTop W P : Int) = 2 * ex + 1 := by rw [x3]; omega
  have hm : ∀ a b : Nat, a * 2 ^ (P - 1) ≤ b * 2 ^ (P - 1) ↔ a ≤ b := fun a b => Nat.mul_le_mul_right_iff hp
  unfold infP
  rcases Nat.lt_or_ge n (2 ^ (P - 1)) with c | c
  · have hs0 : s = 0 := by omega
    have hb := blen_bound c
    subst hs0
    constructor
    · intro g; omega
    · intro g
      have := (hm 1 (eTop W P)).2 (by omega)
      omega
  · rcases Nat.lt_or_ge n (2 ^ P) with c2 | c2
    · have hb : blen n = P - 1 + 1 := blen_eq c (by rw [show P - 1 + 1 = P by omega]; exact c2)
      constructor
      · intro g; omega
      · intro g
        have : eTop W P * 2 ^ (P - 1) < (s + 2) * 2 ^ (P - 1) := by rw [Nat.add_mul]; omega
        have := Nat.lt_of_mul_lt_mul_right this
        omega
    · have hn2 : n = 2 ^ P := by omega
      have hb : blen n = P + 1 := by rw [hn2]; exact blen_eq (Nat.le_refl _) (Nat.pow_lt_pow_right (by decide) (by omega))
      have e : s * 2 ^ (P - 1) + n = (s + 2) * 2 ^ (P - 1) := by rw [hn2, h2, Nat.add_mul]
      rw [e, hm]
      omega
theorem over_top {s n : Nat} (hs : 2 ^ (P - 1) ≤ n) (hse : ex - em < (s : Int)) : infP W P ≤ s * 2 ^ (P - 1) + n := by
  obtain ⟨x1, x2, x3⟩ := fm_ex h
  have m0 := h.m0
  have m1 := h.m1
  have hp := Nat.two_pow_pos (P - 1)
  have et : (eTop W P : Int) = 2 * ex + 1 := by rw [x3]; omega
  unfold infP
  have := Nat.mul_le_mul_right (2 ^ (P - 1)) (show eTop W P ≤ s + 1 by omega)
  rw [Nat.add_mul] at this
  omega

section
variable {n : Nat} {e : Int} {more : Bool} (hn : n ≠ 0) (hl : (digs n).length ≤ 2500) (he : -300000 ≤ e ∧ e ≤ 300000) (hmore : more = true → P + 2 ≤ blen n)
include hn
theorem shf_q : (shf P (qA n e more (em - (P : Int) + 1)) (qB e more (em - (P : Int) + 1)) : Int) = max (e + (blen n : Int) - 1 - em) 0 := by
  have h8 := h.p8
  unfold shf
  rw [blen_q hn]
  omega
include hl he hmore
/-- tiny. -/
theorem tiny_ev (m : Int) (neg : Bool) (x0 : Int) : Ev (fun k => round_number_tiny k neg (digs n) e more (W : Int) (P : Int) em ex m (e + (blen n : Int) - 1)) (tinyB P m neg (qA n e more (em - (P : Int) + 1)) (qB e more (em - (P : Int) + 1))) := by
  have h8 := h.p8
  have h5 := h.p53
  have m0 := h.m0
  have m1 := h.m1
  have hbl := blen_len hl
  have hbp := blen_pos hn
  have bpos := qB_pos e more (em - (P : Int) + 1)
  have hq := blen_q hn e more (em - (P : Int) + 1)
  have hAB : qA n e more (em - (P : Int) + 1) < qB e more (em - (P : Int) + 1) * 2 ^ (P - 1) ↔ e + (blen n : Int) - 1 < em := by
    rw [Nat.mul_comm, ← Nat.div_lt_iff_lt_mul bpos, ← blen_le_iff, hq]
    omega
  refine Ev.congr (fun k => round_number_tiny_eq k _ _ _ _ _ _ _ _ _ _) ?_
  unfold tinyB
  by_cases c : em ≤ e + (blen n : Int) - 1
  · refine Ev.pos (dT c) (Ev.eq (Ev.some _) ?_)
    rw [decide_eq_false (fun g => by have := hAB.1 g; omega)]; rfl
  · rw [decide_eq_true (hAB.2 (by omega)), Bool.true_and]
    have e1 : IntKind.i64.wrap ((IntKind.i64.wrap (e + (blen n : Int) - 1 - (P : Int))) + 1) = e + (blen n : Int) - (P : Int) := by
      rw [wrapI (x := e + (blen n : Int) - 1 - (P : Int)) (by omega) (by omega), wrapI (by omega) (by omega)]; omega
    have cu := cut_ev (n := n) (e := e) (q := e + (blen n : Int) - (P : Int)) (more := more) m neg (by omega) (by omega) (by omega) (by
      cases more
      · by_cases c2 : 2 ≤ e + (blen n : Int) - (P : Int) - e
        · exact .inl c2
        · exact .inr ⟨rfl, by omega, small_bl h5 (by omega)⟩
      · have := hmore rfl; left; omega)
    refine Ev.neg (dF c) ?_
    rw [e1]
    -- the bits of what is cut
    have hqb := blen_q hn e more (e + (blen n : Int) - (P : Int))
    have bq := qB_pos e more (e + (blen n : Int) - (P : Int))
    rw [show ((blen n : Int) + e - (e + (blen n : Int) - (P : Int))).toNat = P by omega] at hqb
    have hu1 : 2 ^ (P - 1) ≤ qA n e more (e + (blen n : Int) - (P : Int)) / qB e more (e + (blen n : Int) - (P : Int)) := by
      have := blen_le (n := qA n e more (e + (blen n : Int) - (P : Int)) / qB e more (e + (blen n : Int) - (P : Int))) (by rintro e0; rw [e0, blen_zero] at hqb; omega)
      rwa [hqb] at this
    have hu2 : qA n e more (e + (blen n : Int) - (P : Int)) / qB e more (e + (blen n : Int) - (P : Int)) < 2 ^ P := blen_le_iff.1 (by omega)
    have hv1 := chs_ge m neg (qA n e more (e + (blen n : Int) - (P : Int)) / qB e more (e + (blen n : Int) - (P : Int))) (lft (qA n e more (e + (blen n : Int) - (P : Int)) % qB e more (e + (blen n : Int) - (P : Int))) (qB e more (e + (blen n : Int) - (P : Int))))
    have hv2 := chs_le m neg (qA n e more (e + (blen n : Int) - (P : Int)) / qB e more (e + (blen n : Int) - (P : Int))) (lft (qA n e more (e + (blen n : Int) - (P : Int)) % qB e more (e + (blen n : Int) - (P : Int))) (qB e more (e + (blen n : Int) - (P : Int))))
    -- at the place below the least
    have hcr : e + (blen n : Int) = em → cutN m neg (qA n e more (e + (blen n : Int) - (P : Int))) (qB e more (e + (blen n : Int) - (P : Int))) = cutN m neg (2 * qA n e more (em - (P : Int) + 1)) (qB e more (em - (P : Int) + 1)) := by
      intro g
      have hc := q_cross n e more (q := em - (P : Int) + 1) (l := e + (blen n : Int) - (P : Int)) (by omega)
      rw [show em - (P : Int) + 1 - (e + (blen n : Int) - (P : Int)) = ((1 : Nat) : Int) by omega, p2_nat, Nat.pow_one] at hc
      refine cutN_cross m neg bq bpos ?_
      rw [← hc]; grind
    have hlow : e + (blen n : Int) < em → cutN m neg (2 * qA n e more (em - (P : Int) + 1)) (qB e more (em - (P : Int) + 1)) < 2 ^ P := by
      intro g
      have : 2 * qA n e more (em - (P : Int) + 1) / qB e more (em - (P : Int) + 1) < 2 ^ (P - 1) := by
        have g1 : qA n e more (em - (P : Int) + 1) / qB e more (em - (P : Int) + 1) < 2 ^ (P - 2) := by
          rw [← blen_le_iff, hq]; omega
        rw [Nat.div_lt_iff_lt_mul bpos] at g1 ⊢
        rw [show P - 1 = (P - 2) + 1 by omega, Nat.pow_succ, Nat.mul_comm (2 ^ (P - 2)) 2, Nat.mul_assoc]
        omega
      have c1 := chs_le m neg (2 * qA n e more (em - (P : Int) + 1) / qB e more (em - (P : Int) + 1)) (lft (2 * qA n e more (em - (P : Int) + 1) % qB e more (em - (P : Int) + 1)) (qB e more (em - (P : Int) + 1)))
      have h2 := pow_half (P := P) (by omega)
      have hp := Nat.two_pow_pos (P - 1)
      unfold cutN
      omega
    unfold cutN at cu hcr
    rw [show (chs m neg (2 * qA n e more (em - (P : Int) + 1) / qB e more (em - (P : Int) + 1)) (lft (2 * qA n e more (em - (P : Int) + 1) % qB e more (em - (P : Int) + 1)) (qB e more (em - (P : Int) + 1)))) = cutN m neg (2 * qA n e more (em - (P : Int) + 1)) (qB e more (em - (P : Int) + 1)) from rfl] at hcr
    generalize chs m neg (qA n e more (e + (blen n : Int) - (P : Int)) / qB e more (e + (blen n : Int) - (P : Int))) (lft (qA n e more (e + (blen n : Int) - (P : Int)) % qB e more (e + (blen n : Int) - (P : Int))) (qB e more (e + (blen n : Int) - (P : Int)))) = v at *
    generalize cutN m neg (2 * qA n e more (em - (P : Int) + 1)) (qB e more (em - (P : Int) + 1)) = v' at *
    have hvl : (digs v).length ≤ 1 := digs_length_lt.2 (by
      have : 2 ^ P ≤ 2 ^ 53 := Nat.pow_le_pow_right (by decide) h5
      rw [Nat.pow_one]; omega)
    have le := Len_ev (a := digs v) (WF.digs _) (by unfold Lb; omega)
    rw [val_digs] at le
    refine Ev.bind cu (Ev.bind le (Ev.eq (Ev.some _) ?_))
    have hbv : blen v = P ∨ (blen v = P + 1 ∧ v = 2 ^ P) := by
      rcases Nat.lt_or_ge v (2 ^ P) with g | g
      · left
        have := blen_eq (n := v) (k := P - 1) (by omega) (by rw [show P - 1 + 1 = P by omega]; exact g)
        omega
      · right
        have g2 : v = 2 ^ P := by omega
        exact ⟨by rw [g2]; exact blen_eq (Nat.le_refl _) (Nat.pow_lt_pow_right (by decide) (by omega)), g2⟩
    rw [wrapI (x := e + (blen n : Int) - 1 - (P : Int)) (by omega) (by omega), wrapI (by omega) (by omega)]
    by_cases g : e + (blen n : Int) = em
    · rw [← hcr g]
      rcases hbv with hb | ⟨hb, hb2⟩
      · have : v < 2 ^ P := by rw [← blen_le_iff]; omega
        rw [decide_eq_true this, decide_eq_true (by omega)]
      · rw [decide_eq_false (show ¬ (v < 2 ^ P) by omega), decide_eq_false (by omega)]
    · rw [decide_eq_true (hlow (by omega)), decide_eq_true (by omega)]
/-- The bits and the flags. -/
theorem into_ev (m : Int) (neg : Bool) : Ev (fun k => round_number_into k neg (digs n) e more f (W : Int) (P : Int) em ex m) (rnOut W P m neg (qA n e more (em - (P : Int) + 1)) (qB e more (em - (P : Int) + 1))) := by
  have h8 := h.p8
  have h5 := h.p53
  have hwp := h.wp
  have hw64 := h.w64
  have m0 := h.m0
  have m1 := h.m1
  obtain ⟨x1, x2, x3⟩ := fm_ex h
  have hbl := blen_len hl
  have hbp := blen_pos hn
  have bpos := qB_pos e more (em - (P : Int) + 1)
  have hs := shf_q (e := e) (more := more) h hn
  have lb : Lb (digs n) := by unfold Lb; omega
  have tp : Ev (fun k => round_number_top k neg (digs n) e more) (e + (blen n : Int) - 1) := by
    refine Ev.congr (fun k => round_number_top_eq k _ _ _ _) (Ev.bind (Len_ev (WF.digs n) lb) (Ev.eq (Ev.some _) ?_))
    rw [val_digs, wrapI (x := e + (blen n : Int)) (by omega) (by omega), wrapI (by omega) (by omega)]
  obtain ⟨c1, c2⟩ := cut_facts (A := qA n e more (em - (P : Int) + 1)) (show 1 ≤ P by omega) bpos m neg
  refine Ev.congr (fun k => round_number_into_eq k _ _ _ _ _ _ _ _ _ _) (Ev.bind tp ?_)
  unfold rnOut rnd
  generalize hsv : shf P (qA n e more (em - (P : Int) + 1)) (qB e more (em - (P : Int) + 1)) = s at *
  have hbey := ev_of (fun k => beyond_at h k m neg)
  by_cases ctop : e + (blen n : Int) - 1 > ex
  · rw [if_pos (over_top h (by omega) (by omega))]
    exact Ev.pos (dT ctop) (Ev.bind hbey (Ev.some _))
  · refine Ev.neg (dF ctop) ?_
    have hmx : mxI (e + (blen n : Int) - 1) em = em + (s : Int) := by unfold mxI; split <;> omega
    have hse : (s : Int) ≤ ex - em := by omega
    have e1 : IntKind.i64.wrap ((IntKind.i64.wrap ((mxI (e + (blen n : Int) - 1) em) - (P : Int))) + 1) = em - (P : Int) + 1 + (s : Int) := by
      rw [hmx, wrapI (x := em + (s : Int) - (P : Int)) (by omega) (by omega), wrapI (by omega) (by omega)]; omega
    have e2 : IntKind.i64.wrap ((IntKind.i64.wrap (em - (P : Int))) + 1) = em - (P : Int) + 1 := by
      rw [wrapI (x := em - (P : Int)) (by omega) (by omega), wrapI (by omega) (by omega)]
    have e3 : IntKind.u64.wrap (IntKind.i64.wrap (em - (P : Int) + 1 + (s : Int) - (em - (P : Int) + 1))) = (s : Int) := by
      rw [wrapI (by omega) (by omega), wrap_u64]; omega
    have e4 : IntKind.i64.wrap ((P : Int) - 1) = ((P - 1 : Nat) : Int) := by rw [wrapI (by omega) (by omega)]; omega
    have e5 : IntKind.i64.wrap ((W : Int) - 1) = ((W - 1 : Nat) : Int) := by rw [wrapI (by omega) (by omega)]; omega
    have cu := cut_ev (n := n) (e := e) (q := em - (P : Int) + 1 + (s : Int)) (more := more) m neg (by omega) (by omega) (by omega) (by
      cases more
      · by_cases c2 : 2 ≤ em - (P : Int) + 1 + (s : Int) - e
        · exact .inl c2
        · exact .inr ⟨rfl, by omega, small_bl h5 (by omega)⟩
      · have := hmore rfl; left; omega)
    obtain ⟨a1, a2⟩ := cut_at n e more em P s m neg
    rw [a1, a2] at cu
    rw [e1, e2, e3, e4]
    have hlp : lftN (qA n e more (em - (P : Int) + 1)) (qB e more (em - (P : Int) + 1) * 2 ^ s) = lftP P (qA n e more (em - (P : Int) + 1)) (qB e more (em - (P : Int) + 1)) := by unfold lftP; rw [hsv]
    rw [hlp] at cu
    have hti := tiny_ev h hn hl he hmore m neg 0
    generalize tinyB P m neg (qA n e more (em - (P : Int) + 1)) (qB e more (em - (P : Int) + 1)) = tb at *
    generalize lftP P (qA n e more (em - (P : Int) + 1)) (qB e more (em - (P : Int) + 1)) = lf at *
    have hov := over_iff h (s := s) (n := cutN m neg (qA n e more (em - (P : Int) + 1)) (qB e more (em - (P : Int) + 1) * 2 ^ s)) c1 c2 hse
    generalize cutN m neg (qA n e more (em - (P : Int) + 1)) (qB e more (em - (P : Int) + 1) * 2 ^ s) = v at *
    refine Ev.bind cu (Ev.pos (by omega) ?_)
    -- sizes
    have hip := infP_le h
    obtain ⟨w1, w2, w3, w4⟩ := wW h
    have hp := Nat.two_pow_pos (P - 1)
    have hpp := pow_half (P := P) (by omega)
    have hsT : (s + 2) * 2 ^ (P - 1) ≤ infP W P := Nat.mul_le_mul_right _ (by rw [x3]; omega)
    rw [Nat.add_mul] at hsT
    have hvl : (digs v).length ≤ 1 := digs_length_lt.2 (by rw [Nat.pow_one]; omega)
    have le := Len_ev (a := digs v) (WF.digs _) (by unfold Lb; omega)
    rw [val_digs] at le
    have shl := shlK_exact s (P - 1) (by omega) (by omega)
    rw [shl]
    -- behind the bits
    have j0 : ∀ x6 : Int, x6 = ((s * 2 ^ (P - 1) + v : Nat) : Int) → Ev (fun k => round_number_into.j0 k f m (e + (blen n : Int) - 1) (em - (P : Int) + 1 + (s : Int)) (digs v) (decide (lf ≠ 0)) x6 neg (digs n) e more (W : Int) (P : Int) em ex) (if infP W P ≤ s * 2 ^ (P - 1) + v then (((beyN W P m neg : Nat) : Int), 20) else (((s * 2 ^ (P - 1) + v + sgB neg W : Nat) : Int), if lf = 0 then 0 else if tb then 24 else 16)) := by
      intro x6 hx6
      subst hx6
      refine Ev.congr (fun k => round_number_into.j0_eq k _ _ _ _ _ _ _ _ _ _ _ _ _ _ _) (Ev.bind le ?_)
      have hbv : blen v ≤ 64 := Nat.le_trans (blen_len hvl) (by omega)
      rw [wrapI (x := em - (P : Int) + 1 + (s : Int) + (blen v : Int)) (by omega) (by omega), wrapI (by omega) (by omega)]
      by_cases co : infP W P ≤ s * 2 ^ (P - 1) + v
      · rw [if_pos co]
        exact Ev.pos (dT (hov.2 co)) (Ev.bind hbey (Ev.some _))
      · rw [if_neg co]
        refine Ev.neg (dF (fun g => co (hov.1 g))) ?_
        have sh1 := shlK_exact 1 (W - 1) (by omega) (by omega)
        rw [show ((1 : Nat) : Int) = 1 from rfl, Nat.one_mul] at sh1
        have or1 := orK_add' (s * 2 ^ (P - 1) + v) (2 ^ (W - 1)) (W - 1) (by omega) (Nat.mod_self _) (by omega)
        by_cases hlf : lf = 0
        · subst hlf
          rw [if_pos rfl]
          cases neg
          · exact Ev.neg (by simp) (Ev.pos (by simp) (Ev.some _))
          · rw [e5, sh1, or1]
            exact Ev.pos rfl (Ev.pos (by omega) (Ev.pos (by simp) (Ev.some _)))
        · rw [if_neg hlf, decide_eq_true hlf]
          cases neg
          · refine Ev.neg (by simp) (Ev.neg (by simp) (Ev.bind hti ?_))
            cases tb
            · exact Ev.neg (by simp) (Ev.some _)
            · exact Ev.pos rfl (Ev.some _)
          · rw [e5, sh1, or1]
            refine Ev.pos rfl (Ev.pos (by omega) (Ev.neg (by simp) (Ev.bind hti ?_)))
            cases tb
            · exact Ev.neg (by simp) (Ev.some _)
            · exact Ev.pos rfl (Ev.some _)
    by_cases hv0 : v = 0
    · refine Ev.neg (dF (by show ¬ (((digs v).length : Int) > 0); rw [hv0, digs_zero]; simp)) (j0 _ ?_)
      rw [hv0, Nat.add_zero]
    · have hlp2 := digs_len_pos.2 hv0
      refine Ev.pos (dT (by show ((digs v).length : Int) > 0; omega)) (Ev.pos ⟨by omega, by show 0 < ((digs v).length : Int); omega⟩ (j0 _ ?_))
      show IntKind.u64.wrap (((s * 2 ^ (P - 1) : Nat) : Int) + (digs v).getD 0 0) = _
      rw [digs_word hv0 (by omega)]
      show IntKind.u64.wrap (((s * 2 ^ (P - 1) : Nat) : Int) + (v : Int)) = _
      rw [show (((s * 2 ^ (P - 1) : Nat) : Int) + (v : Int)) = ((s * 2 ^ (P - 1) + v : Nat) : Int) by omega, wrapUn (by omega)]
end
end
end Go.Proofs.YtmoeaeflljpboaaDoor.X
