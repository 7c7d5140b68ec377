/- Plain law: the reference's rounding (chapter 6) of exact numbers in digits of 32 bits is the one rounding rnOut; its formats' errors and patterns. Conditions: the format is one of the four, the mode one of the six, the digits are short. -/
import Derived.Test.YtmoeaeflljpboaaDoorR3A
import Derived.Test.YtmoeaeflljpboaaDoorWhB
namespace Go.Proofs.YtmoeaeflljpboaaDoor.X
open Go Go.Rex
set_option linter.unusedVariables false

theorem lft_mid6 {r d : Nat} (hr : r ≠ 0) : (lft r d = 1 ∧ 2 * r < d) ∨ (lft r d = 2 ∧ 2 * r = d) ∨ (lft r d = 3 ∧ d < 2 * r) := by
  unfold lft
  rw [if_neg hr]
  by_cases c1 : 2 * r < d
  · rw [if_pos c1]; exact .inl ⟨rfl, c1⟩
  · rw [if_neg c1]
    by_cases c2 : 2 * r = d
    · rw [if_pos c2]; exact .inr (.inl ⟨rfl, c2⟩)
    · rw [if_neg c2]; exact .inr (.inr ⟨rfl, by omega⟩)
theorem blen_d32 {n k : Nat} (h : (d32 n).length ≤ k) : blen n ≤ 32 * k := by
  have h1 := d32_len.1 h
  rw [pow32] at h1
  exact blen_le_iff.2 h1
theorem d32_one : ((List.replicate 1 (0 : Int)).set 0 1) = d32 1 := by
  have := d32_val (a := [1]) (W32.cons (by decide) (by decide) (fun x hx => by cases hx)) (by rw [show [(1 : Int)] = digs 1 by rw [digs_pos (by decide)]; simp [digs_zero]]; exact Neat.digs _)
  rw [show v32 [1] = 1 by simp [v32]] at this
  exact this.symm
theorem d32_get0 {u : Nat} (h : u ≠ 0) : (d32 u).getD 0 0 = ((u % 4294967296 : Nat) : Int) := by
  obtain ⟨x, hx, ex⟩ := (W32.d32 u).getD 0
  have hs := v32_drop (d32 u) (i := 0) (d32_len_pos.2 h)
  rw [List.drop_zero, v32_d32, ex, Int.toNat_natCast] at hs
  rw [ex]
  congr 1
  omega
theorem rWhole {m : Int} (hm : Md m) (neg : Bool) {n : Nat} (hl : (d32 n).length ≤ 300) {e q : Int} (he : -60000 ≤ e ∧ e ≤ 60000) (hq : -60000 ≤ q ∧ q ≤ 60000) :
    Ev (fun k => vernierref06_Whole k m neg (d32 n) e q) (d32 (cutN m neg (qA n e false q) (qB e false q)), decide (lftN (qA n e false q) (qB e false q) ≠ 0)) := by
  refine Ev.congr (fun k => vernierref06_Whole_eq k _ _ _ _ _) ?_
  unfold qA qB nuN nuD
  rw [if_neg (by decide), if_neg (by decide), Nat.one_mul]
  by_cases c : q ≤ e
  · have w : IntKind.i64.wrap (e - q) = ((e - q).toNat : Int) := by rw [wrapI (by omega) (by omega)]; omega
    have hb : p2 (q - e) = 1 := p2_neg (by omega)
    refine Ev.pos (dT c) ?_
    rw [w, hb]
    refine Ev.bind (rLeft (by omega) (by omega)) (Ev.eq (Ev.some _) ?_)
    unfold cutN lftN
    have l0 : lft 0 1 = 0 := by decide
    rw [Nat.mod_one, Nat.div_one, l0, chs_zero]
    rfl
  · obtain ⟨s, hs⟩ : ∃ s : Nat, q - e = ((s + 1 : Nat) : Int) := ⟨(q - e).toNat - 1, by omega⟩
    have w : IntKind.i64.wrap (q - e) = ((s + 1 : Nat) : Int) := by rw [wrapI (by omega) (by omega), hs]
    have w2 : IntKind.i64.wrap (((s + 1 : Nat) : Int) - 1) = (s : Int) := by rw [wrapI (by omega) (by omega)]; omega
    have ha : p2 (e - q) = 1 := p2_neg (by omega)
    have hb : p2 (q - e) = 2 ^ (s + 1) := by rw [hs, p2_nat]
    have hs2 : s ≤ 120000 := by omega
    rw [w, w2, ha, hb, Nat.mul_one]
    have hp := Nat.two_pow_pos (s + 1)
    have hdm := Nat.div_add_mod n (2 ^ (s + 1))
    have hlt := Nat.mod_lt n hp
    have hu : n / 2 ^ (s + 1) ≤ n := Nat.div_le_self _ _
    have lu : (d32 (n / 2 ^ (s + 1))).length ≤ 300 := Nat.le_trans (d32_mono hu) hl
    have hur : n / 2 ^ (s + 1) * 2 ^ (s + 1) ≤ n := Nat.div_mul_le_self _ _
    have er : n - n / 2 ^ (s + 1) * 2 ^ (s + 1) = n % 2 ^ (s + 1) := by rw [Nat.mul_comm] at hur ⊢; omega
    have hmn := rMinus (n := n) (m := n / 2 ^ (s + 1) * 2 ^ (s + 1)) (by omega) hur
    rw [er] at hmn
    refine Ev.neg (dF c) (Ev.bind (rRight (by omega) (by omega)) (Ev.bind (rLeft (by omega) (by omega)) (Ev.bind hmn ?_)))
    have lr : (d32 (n % 2 ^ (s + 1))).length ≤ 300 := Nat.le_trans (d32_mono (Nat.mod_le _ _)) hl
    unfold cutN lftN
    generalize n / 2 ^ (s + 1) = u at *
    generalize n % 2 ^ (s + 1) = r at *
    by_cases c0 : r = 0
    · subst c0
      have l0 : lft 0 (2 ^ (s + 1)) = 0 := by unfold lft; rw [if_pos rfl]
      rw [d32_zero, l0, chs_zero]
      exact Ev.pos (bT rfl) (Ev.eq (Ev.some _) rfl)
    · have lr0 := d32_len_pos.2 c0
      have hL := rLeft (n := 1) (t := s) (by rw [← d32_one]; simp) (by omega)
      rw [← d32_one, Nat.one_mul] at hL
      have hpw : 2 ^ (s + 1) = 2 * 2 ^ s := by rw [Nat.pow_succ, Nat.mul_comm]
      have hps : (d32 (2 ^ s)).length ≤ 4000 := d32_short (n := 2 ^ s) (p := s + 1) (by rw [hpw]; have := Nat.two_pow_pos s; omega) (by omega)
      have hC := rCmp (n := r) (m := 2 ^ s) (by omega) (by omega)
      refine Ev.neg (bF (by omega)) (Ev.bind hL (Ev.bind hC ?_))
      have hmid : (lft r (2 ^ (s + 1)) = 1 ∧ cmpN r (2 ^ s) = -1) ∨ (lft r (2 ^ (s + 1)) = 2 ∧ cmpN r (2 ^ s) = 0) ∨ (lft r (2 ^ (s + 1)) = 3 ∧ cmpN r (2 ^ s) = 1) := by
        rcases lft_mid6 (d := 2 ^ (s + 1)) c0 with ⟨a, b⟩ | ⟨a, b⟩ | ⟨a, b⟩
        · exact .inl ⟨a, by unfold cmpN; rw [if_pos (by omega)]⟩
        · exact .inr (.inl ⟨a, by unfold cmpN; rw [if_neg (by omega), if_neg (by omega)]⟩)
        · exact .inr (.inr ⟨a, by unfold cmpN; rw [if_neg (by omega), if_pos (by omega)]⟩)
      have j1 : ∀ b : Bool, ups m neg (u % 2 == 1) (lft r (2 ^ (s + 1))) = b → Ev (fun k => vernierref06_Whole.j1 k (d32 u) b) (d32 (chs m neg u (lft r (2 ^ (s + 1)))), decide (lft r (2 ^ (s + 1)) ≠ 0)) := fun b hb' => by
        have lp : 0 < lft r (2 ^ (s + 1)) := by omega
        refine Ev.congr (fun k => vernierref06_Whole.j1_eq k _ _) ?_
        rw [decide_eq_true (show lft r (2 ^ (s + 1)) ≠ 0 by omega)]
        unfold chs
        rw [hb']
        cases b
        · rw [if_neg (by simp)]
          exact Ev.neg (by decide) (Ev.some _)
        · rw [if_pos ⟨lp, rfl⟩, d32_one]
          exact Ev.pos rfl (Ev.bind (rPlus (by omega) (by rw [← d32_one]; simp)) (Ev.some _))
      generalize lft r (2 ^ (s + 1)) = lf at *
      generalize cmpN r (2 ^ s) = z at *
      have hm0 := hm.m0; have hm5 := hm.m5
      have hm' : m = 0 ∨ m = 1 ∨ m = 2 ∨ m = 3 ∨ m = 4 ∨ m = 5 := by omega
      have j0 : ∀ x6 : Int, Ev (fun k => vernierref06_Whole.j0 k m (d32 u) z (u % 2 == 1) neg (d32 n) x6) (d32 (chs m neg u lf), decide (lf ≠ 0)) := fun x6 => by
        refine Ev.congr (fun k => vernierref06_Whole.j0_eq k _ _ _ _ _ _ _) ?_
        rcases hm' with rfl | rfl | rfl | rfl | rfl | rfl
        · rcases hmid with ⟨rfl, rfl⟩ | ⟨rfl, rfl⟩ | ⟨rfl, rfl⟩
          · exact Ev.pos (by decide) (Ev.neg (by decide) (Ev.neg (by decide) (j1 _ (by simp [ups]))))
          · exact Ev.pos (by decide) (Ev.neg (by decide) (Ev.pos (by decide) (j1 _ (by simp [ups]))))
          · exact Ev.pos (by decide) (Ev.pos (by decide) (j1 _ (by simp [ups])))
        · rcases hmid with ⟨rfl, rfl⟩ | ⟨rfl, rfl⟩ | ⟨rfl, rfl⟩
          · exact Ev.neg (by decide) (Ev.pos (by decide) (j1 _ (by simp [ups])))
          · exact Ev.neg (by decide) (Ev.pos (by decide) (j1 _ (by simp [ups])))
          · exact Ev.neg (by decide) (Ev.pos (by decide) (j1 _ (by simp [ups])))
        · exact Ev.neg (by decide) (Ev.neg (by decide) (Ev.neg (by decide) (Ev.neg (by decide) (Ev.neg (by decide) (j1 _ (by simp [ups]))))))
        · exact Ev.neg (by decide) (Ev.neg (by decide) (Ev.pos (by decide) (j1 _ (by simp [ups]))))
        · exact Ev.neg (by decide) (Ev.neg (by decide) (Ev.neg (by decide) (Ev.pos (by decide) (j1 _ (by simp [ups])))))
        · exact Ev.neg (by decide) (Ev.neg (by decide) (Ev.neg (by decide) (Ev.neg (by decide) (Ev.pos (by decide) (j1 _ (by simp [ups]))))))
      by_cases cu : u = 0
      · subst cu
        rw [d32_zero] at j0 ⊢
        exact Ev.neg (by decide) (j0 _)
      · have lu0 := d32_len_pos.2 cu
        have hg : (((d32 u).getD ((0 : Int).toNat) 0).tmod 2 == 1) = (u % 2 == 1) := by
          rw [Int.toNat_zero, d32_get0 cu, show (2 : Int) = ((2 : Nat) : Int) from rfl, tmod_nat, show u % 4294967296 % 2 = u % 2 by omega]
          rcases Nat.mod_two_eq_zero_or_one u with g | g <;> rw [g] <;> rfl
        rw [hg]
        exact Ev.pos (dT (by omega)) (Ev.pos ⟨by omega, by omega⟩ (j0 _))
section
variable {f : Int} {W P : Nat} {em ex : Int} (h : Fm f W P em ex)
include h
theorem rSign (k : Nat) (neg : Bool) : vernierref06_sign k f neg = some ((sgB neg W : Nat) : Int) := by
  rcases fm_cases h with ⟨rfl, rfl, rfl, rfl, rfl⟩ | ⟨rfl, rfl, rfl, rfl, rfl⟩ | ⟨rfl, rfl, rfl, rfl, rfl⟩ | ⟨rfl, rfl, rfl, rfl, rfl⟩ <;> cases neg <;> rfl
theorem rQuiet (k : Nat) : vernierref06_Quiet k f = some ((infP W P + 2 ^ (P - 2) : Nat) : Int) := by
  rcases fm_cases h with ⟨rfl, rfl, rfl, rfl, rfl⟩ | ⟨rfl, rfl, rfl, rfl, rfl⟩ | ⟨rfl, rfl, rfl, rfl, rfl⟩ | ⟨rfl, rfl, rfl, rfl, rfl⟩ <;> rfl
theorem rInf (k : Nat) (neg : Bool) : vernierref06_Infinity k f neg = some ((infP W P + sgB neg W : Nat) : Int) := by
  rcases fm_cases h with ⟨rfl, rfl, rfl, rfl, rfl⟩ | ⟨rfl, rfl, rfl, rfl, rfl⟩ | ⟨rfl, rfl, rfl, rfl, rfl⟩ | ⟨rfl, rfl, rfl, rfl, rfl⟩ <;> cases neg <;> rfl
theorem rBeyond (k : Nat) {m : Int} (hm : Md m) (neg : Bool) : vernierref06_Beyond k f m neg = some ((beyN W P m neg : Nat) : Int) := by
  have hm0 := hm.m0; have hm5 := hm.m5
  have hm' : m = 0 ∨ m = 1 ∨ m = 2 ∨ m = 3 ∨ m = 4 ∨ m = 5 := by omega
  have hi := infP_le h
  have hw := h.w64
  have ht := (eTop_le h).2
  have hpp := Nat.two_pow_pos (P - 1)
  have hw2 : 2 ^ (W - 1) ≤ 2 ^ 63 := pow_mono2 (by omega)
  have e63 : (2 : Nat) ^ 63 = 9223372036854775808 := rfl
  have hs := sgB_le W neg
  have h1 : 1 ≤ infP W P := by
    have : 1 * 1 ≤ eTop W P * 2 ^ (P - 1) := Nat.mul_le_mul (by omega) hpp
    exact this
  have hd : IntKind.u64.wrap (((infP W P + sgB neg W : Nat) : Int) - 1) = ((infP W P - 1 + sgB neg W : Nat) : Int) := by
    rw [show ((infP W P + sgB neg W : Nat) : Int) - 1 = ((infP W P - 1 + sgB neg W : Nat) : Int) by omega, wrapUn (by omega)]
  have hd2 := hd
  simp only [Int.natCast_add] at hd2
  rw [vernierref06_Beyond_eq]
  unfold beyN
  rcases hm' with rfl | rfl | rfl | rfl | rfl | rfl <;> cases neg <;> simp [vernierref06_Beyond.j0_eq, vernierref06_Beyond.j1_eq, rInf h, toInf, hd2]
theorem rTiny {n : Nat} (hn : n ≠ 0) {e : Int} (hc : e + (blen n : Int) - 1 < em) (m : Int) (neg : Bool) : blen (cutN m neg (qA n e false (e + (blen n : Int) - (P : Int))) (qB e false (e + (blen n : Int) - (P : Int)))) ≤ P + 1 ∧
    (decide (e + (blen n : Int) - 1 - (P : Int) + (blen (cutN m neg (qA n e false (e + (blen n : Int) - (P : Int))) (qB e false (e + (blen n : Int) - (P : Int)))) : Int) < em) = tinyB P m neg (qA n e false (em - (P : Int) + 1)) (qB e false (em - (P : Int) + 1))) := by
  have h8 := h.p8
  have h5 := h.p53
  have hbp := blen_pos hn
  have bpos := qB_pos e false (em - (P : Int) + 1)
  have hq := blen_q hn e false (em - (P : Int) + 1)
  have hAB : qA n e false (em - (P : Int) + 1) < qB e false (em - (P : Int) + 1) * 2 ^ (P - 1) := by
    rw [Nat.mul_comm, ← Nat.div_lt_iff_lt_mul bpos, ← blen_le_iff, hq]
    omega
  unfold tinyB
  rw [decide_eq_true hAB, Bool.true_and]
  have hqb := blen_q hn e false (e + (blen n : Int) - (P : Int))
  have bq := qB_pos e false (e + (blen n : Int) - (P : Int))
  rw [show ((blen n : Int) + e - (e + (blen n : Int) - (P : Int))).toNat = P by omega] at hqb
  have hu1 : 2 ^ (P - 1) ≤ qA n e false (e + (blen n : Int) - (P : Int)) / qB e false (e + (blen n : Int) - (P : Int)) := by
    have := blen_le (n := qA n e false (e + (blen n : Int) - (P : Int)) / qB e false (e + (blen n : Int) - (P : Int))) (by rintro e0; rw [e0, blen_zero] at hqb; omega)
    rwa [hqb] at this
  have hu2 : qA n e false (e + (blen n : Int) - (P : Int)) / qB e false (e + (blen n : Int) - (P : Int)) < 2 ^ P := blen_le_iff.1 (by omega)
  have hv1 := chs_ge m neg (qA n e false (e + (blen n : Int) - (P : Int)) / qB e false (e + (blen n : Int) - (P : Int))) (lft (qA n e false (e + (blen n : Int) - (P : Int)) % qB e false (e + (blen n : Int) - (P : Int))) (qB e false (e + (blen n : Int) - (P : Int))))
  have hv2 := chs_le m neg (qA n e false (e + (blen n : Int) - (P : Int)) / qB e false (e + (blen n : Int) - (P : Int))) (lft (qA n e false (e + (blen n : Int) - (P : Int)) % qB e false (e + (blen n : Int) - (P : Int))) (qB e false (e + (blen n : Int) - (P : Int))))
  have hcr : e + (blen n : Int) = em → cutN m neg (qA n e false (e + (blen n : Int) - (P : Int))) (qB e false (e + (blen n : Int) - (P : Int))) = cutN m neg (2 * qA n e false (em - (P : Int) + 1)) (qB e false (em - (P : Int) + 1)) := by
    intro g
    have hc := q_cross n e false (q := em - (P : Int) + 1) (l := e + (blen n : Int) - (P : Int)) (by omega)
    rw [show em - (P : Int) + 1 - (e + (blen n : Int) - (P : Int)) = ((1 : Nat) : Int) by omega, p2_nat, Nat.pow_one] at hc
    refine cutN_cross m neg bq bpos ?_
    rw [← hc]; grind
  have hlow : e + (blen n : Int) < em → cutN m neg (2 * qA n e false (em - (P : Int) + 1)) (qB e false (em - (P : Int) + 1)) < 2 ^ P := by
    intro g
    have : 2 * qA n e false (em - (P : Int) + 1) / qB e false (em - (P : Int) + 1) < 2 ^ (P - 1) := by
      have g1 : qA n e false (em - (P : Int) + 1) / qB e false (em - (P : Int) + 1) < 2 ^ (P - 2) := by
        rw [← blen_le_iff, hq]; omega
      rw [Nat.div_lt_iff_lt_mul bpos] at g1 ⊢
      rw [show P - 1 = (P - 2) + 1 by omega, Nat.pow_succ, Nat.mul_comm (2 ^ (P - 2)) 2, Nat.mul_assoc]
      omega
    have c1 := chs_le m neg (2 * qA n e false (em - (P : Int) + 1) / qB e false (em - (P : Int) + 1)) (lft (2 * qA n e false (em - (P : Int) + 1) % qB e false (em - (P : Int) + 1)) (qB e false (em - (P : Int) + 1)))
    have h2 := pow_half (P := P) (by omega)
    have hp := Nat.two_pow_pos (P - 1)
    unfold cutN
    omega
  unfold cutN at hcr ⊢
  rw [show (chs m neg (2 * qA n e false (em - (P : Int) + 1) / qB e false (em - (P : Int) + 1)) (lft (2 * qA n e false (em - (P : Int) + 1) % qB e false (em - (P : Int) + 1)) (qB e false (em - (P : Int) + 1)))) = cutN m neg (2 * qA n e false (em - (P : Int) + 1)) (qB e false (em - (P : Int) + 1)) from rfl] at hcr ⊢
  generalize chs m neg (qA n e false (e + (blen n : Int) - (P : Int)) / qB e false (e + (blen n : Int) - (P : Int))) (lft (qA n e false (e + (blen n : Int) - (P : Int)) % qB e false (e + (blen n : Int) - (P : Int))) (qB e false (e + (blen n : Int) - (P : Int)))) = v at *
  generalize cutN m neg (2 * qA n e false (em - (P : Int) + 1)) (qB e false (em - (P : Int) + 1)) = v' at *
  have hbv : blen v = P ∨ (blen v = P + 1 ∧ v = 2 ^ P) := by
    rcases Nat.lt_or_ge v (2 ^ P) with g | g
    · left
      have := blen_eq (n := v) (k := P - 1) (by omega) (by rw [show P - 1 + 1 = P by omega]; exact g)
      omega
    · right
      have g2 : v = 2 ^ P := by omega
      exact ⟨by rw [g2]; exact blen_eq (Nat.le_refl _) (Nat.pow_lt_pow_right (by decide) (by omega)), g2⟩
  refine ⟨by omega, ?_⟩
  by_cases g : e + (blen n : Int) = em
  · rw [← hcr g]
    rcases hbv with hb | ⟨hb, hb2⟩
    · have : v < 2 ^ P := by rw [← blen_le_iff]; omega
      rw [decide_eq_true this, decide_eq_true (by omega)]
    · rw [decide_eq_false (show ¬ (v < 2 ^ P) by omega), decide_eq_false (by omega)]
  · rw [decide_eq_true (hlow (by omega)), decide_eq_true (by omega)]
set_option maxHeartbeats 2000000 in
theorem rRound {m : Int} (hm : Md m) (neg : Bool) {n : Nat} (hn : n ≠ 0) (hl : (d32 n).length ≤ 300) {e : Int} (he : -50000 ≤ e ∧ e ≤ 50000) : Ev (fun k => vernierref06_Round k f m neg (d32 n) e) (rnOut W P m neg (qA n e false (em - (P : Int) + 1)) (qB e false (em - (P : Int) + 1))) := by
  have h8 := h.p8
  have h5 := h.p53
  have hwp := h.wp
  have hw64 := h.w64
  have m0 := h.m0
  have m1 := h.m1
  obtain ⟨x1, x2, x3⟩ := fm_ex h
  have hbl : blen n ≤ 9600 := blen_d32 hl
  have hbp := blen_pos hn
  have bpos := qB_pos e false (em - (P : Int) + 1)
  have hs := shf_q (e := e) (more := false) h hn
  obtain ⟨c1, c2⟩ := cut_facts (A := qA n e false (em - (P : Int) + 1)) (show 1 ≤ P by omega) bpos m neg
  have hbey := Ev.of (fun k => rBeyond h k hm neg)
  have top : IntKind.i64.wrap (IntKind.i64.wrap (e + (blen n : Int)) - 1) = e + (blen n : Int) - 1 := by rw [wrapI (x := e + (blen n : Int)) (by omega) (by omega), wrapI (by omega) (by omega)]
  have hex : IntKind.i64.wrap (1 - em) = ex := by rw [wrapI (by omega) (by omega)]; omega
  refine Ev.congr (fun k => vernierref06_Round_eq k _ _ _ _ _) (Ev.bind (Ev.of fun k => params06 h k) (Ev.bind (rBits (by omega)) ?_))
  dsimp only
  rw [top, hex]
  have hti := fun c => rTiny h hn (e := e) c m neg
  unfold rnOut rnd
  generalize hsv : shf P (qA n e false (em - (P : Int) + 1)) (qB e false (em - (P : Int) + 1)) = s at *
  by_cases ctop : e + (blen n : Int) - 1 > ex
  · rw [if_pos (over_top h (by omega) (by omega))]
    exact Ev.pos (dT ctop) (Ev.bind hbey (Ev.some _))
  · refine Ev.neg (dF ctop) ?_
    have hmx : mxI (e + (blen n : Int) - 1) em = em + (s : Int) := by unfold mxI; split <;> omega
    have hse : (s : Int) ≤ ex - em := by omega
    have e1 : IntKind.i64.wrap ((IntKind.i64.wrap ((mxI (e + (blen n : Int) - 1) em) - (P : Int))) + 1) = em - (P : Int) + 1 + (s : Int) := by
      rw [hmx, wrapI (x := em + (s : Int) - (P : Int)) (by omega) (by omega), wrapI (by omega) (by omega)]; omega
    have e2 : IntKind.i64.wrap ((IntKind.i64.wrap (em - (P : Int))) + 1) = em - (P : Int) + 1 := by
      rw [wrapI (x := em - (P : Int)) (by omega) (by omega), wrapI (by omega) (by omega)]
    have e3 : IntKind.u64.wrap (IntKind.i64.wrap (em - (P : Int) + 1 + (s : Int) - (em - (P : Int) + 1))) = (s : Int) := by
      rw [wrapI (by omega) (by omega), wrap_u64]; omega
    have e4 : IntKind.u64.wrap (IntKind.i64.wrap ((P : Int) - 1)) = ((P - 1 : Nat) : Int) := by rw [wrapI (by omega) (by omega), wrap_u64]; omega
    have cu := rWhole hm neg hl (e := e) (q := em - (P : Int) + 1 + (s : Int)) (by omega) (by omega)
    obtain ⟨a1, a2⟩ := cut_at n e false em P s m neg
    rw [a1, a2] at cu
    rw [e1, e2, e3, e4]
    have hlp : lftN (qA n e false (em - (P : Int) + 1)) (qB e false (em - (P : Int) + 1) * 2 ^ s) = lftP P (qA n e false (em - (P : Int) + 1)) (qB e false (em - (P : Int) + 1)) := by unfold lftP; rw [hsv]
    rw [hlp] at cu
    have hov := over_iff h (s := s) (n := cutN m neg (qA n e false (em - (P : Int) + 1)) (qB e false (em - (P : Int) + 1) * 2 ^ s)) c1 c2 hse
    have hAB : qA n e false (em - (P : Int) + 1) < qB e false (em - (P : Int) + 1) * 2 ^ (P - 1) ↔ e + (blen n : Int) - 1 < em := by
      rw [Nat.mul_comm, ← Nat.div_lt_iff_lt_mul bpos, ← blen_le_iff, blen_q hn e false (em - (P : Int) + 1)]
      omega
    have htn : ¬ (e + (blen n : Int) - 1 < em) → tinyB P m neg (qA n e false (em - (P : Int) + 1)) (qB e false (em - (P : Int) + 1)) = false := fun g => by
      unfold tinyB; rw [decide_eq_false (fun z => g (hAB.1 z)), Bool.false_and]
    generalize tinyB P m neg (qA n e false (em - (P : Int) + 1)) (qB e false (em - (P : Int) + 1)) = tb at *
    generalize lftP P (qA n e false (em - (P : Int) + 1)) (qB e false (em - (P : Int) + 1)) = lf at *
    generalize cutN m neg (qA n e false (em - (P : Int) + 1)) (qB e false (em - (P : Int) + 1) * 2 ^ s) = v at *
    have hip := infP_le h
    obtain ⟨w1, w2, w3, w4⟩ := wW h
    have hp := Nat.two_pow_pos (P - 1)
    have hpp := pow_half (P := P) (by omega)
    have hsT : (s + 2) * 2 ^ (P - 1) ≤ infP W P := Nat.mul_le_mul_right _ (by rw [x3]; omega)
    rw [Nat.add_mul] at hsT
    have hvl : (d32 v).length ≤ 2 := d32_short (n := v) (p := P + 1) (by rw [Nat.pow_succ]; omega) (by omega)
    have hbv : blen v ≤ P + 1 := blen_le_iff.2 (by rw [Nat.pow_succ]; omega)
    have shl := shlK_exact s (P - 1) (by omega) (by omega)
    have hsg := sgB_le W neg
    refine Ev.bind cu (Ev.bind (rBits (by omega)) ?_)
    dsimp only
    rw [wrapI (x := em - (P : Int) + 1 + (s : Int) + (blen v : Int)) (by omega) (by omega), wrapI (x := em - (P : Int) + 1 + (s : Int) + (blen v : Int) - 1) (by omega) (by omega)]
    by_cases co : infP W P ≤ s * 2 ^ (P - 1) + v
    · rw [if_pos co]
      exact Ev.pos (dT (hov.2 co)) (Ev.bind hbey (Ev.some _))
    · rw [if_neg co]
      -- behind the bits
      have j0 : ∀ x5 : Int, x5 = ((s * 2 ^ (P - 1) + v + sgB neg W : Nat) : Int) → Ev (fun k => vernierref06_Round.j0 k m (P : Int) em (e + (blen n : Int) - 1) (decide (lf ≠ 0)) x5 neg (d32 n) e) (((s * 2 ^ (P - 1) + v + sgB neg W : Nat) : Int), if lf = 0 then 0 else if tb = true then 24 else 16) := fun x5 hx => by
        subst hx
        refine Ev.congr (fun k => vernierref06_Round.j0_eq k _ _ _ _ _ _ _ _ _) ?_
        by_cases hlf : lf = 0
        · subst hlf
          rw [if_pos rfl]
          exact Ev.pos (by simp) (Ev.some _)
        · rw [if_neg hlf, decide_eq_true hlf]
          refine Ev.neg (by simp) ?_
          by_cases cl : e + (blen n : Int) - 1 < em
          · obtain ⟨t1, t2⟩ := hti cl
            have e6 : IntKind.i64.wrap (IntKind.i64.wrap (e + (blen n : Int) - 1 - (P : Int)) + 1) = e + (blen n : Int) - (P : Int) := by
              rw [wrapI (x := e + (blen n : Int) - 1 - (P : Int)) (by omega) (by omega), wrapI (by omega) (by omega)]; omega
            have cu2 := rWhole hm neg hl (e := e) (q := e + (blen n : Int) - (P : Int)) (by omega) (by omega)
            generalize cutN m neg (qA n e false (e + (blen n : Int) - (P : Int))) (qB e false (e + (blen n : Int) - (P : Int))) = v2 at *
            have lv2 : (d32 v2).length ≤ 2 := d32_short (n := v2) (p := P + 1) (blen_le_iff.1 t1) (by omega)
            rw [e6]
            refine Ev.pos (dT cl) (Ev.bind cu2 (Ev.bind (rBits (by omega)) ?_))
            rw [wrapI (x := e + (blen n : Int) - 1 - (P : Int)) (by omega) (by omega), wrapI (x := e + (blen n : Int) - 1 - (P : Int) + (blen v2 : Int)) (by omega) (by omega), t2]
            cases tb
            · exact Ev.neg (by simp) (Ev.some _)
            · exact Ev.pos rfl (Ev.some _)
          · rw [htn cl]
            exact Ev.neg (dF cl) (Ev.some _)
      refine Ev.neg (dF (fun g => co (hov.1 g))) (Ev.bind (Ev.of fun k => rSign h k neg) (Ev.bind (rWords (by omega)) ?_))
      rw [shl]
      by_cases hv0 : v = 0
      · refine Ev.neg (dF (by show ¬ (((digs v).length : Int) > 0); rw [hv0, digs_zero]; simp)) (j0 _ ?_)
        -- no places: the least number is not reached
        have : s = 0 := by
          rcases c2 with g | g
          · exact g
          · omega
        rw [hv0, this, Nat.zero_mul, Nat.zero_add]
      · have hlp2 := digs_len_pos.2 hv0
        refine Ev.pos (dT (by show ((digs v).length : Int) > 0; omega)) (Ev.pos ⟨by omega, by show 0 < ((digs v).length : Int); omega⟩ (Ev.pos (by omega) (j0 _ ?_)))
        show IntKind.u64.wrap (((sgB neg W : Nat) : Int) + IntKind.u64.wrap ((digs v).getD 0 0 + ((s * 2 ^ (P - 1) : Nat) : Int))) = _
        rw [digs_word hv0 (by omega)]
        show IntKind.u64.wrap (((sgB neg W : Nat) : Int) + IntKind.u64.wrap ((v : Int) + ((s * 2 ^ (P - 1) : Nat) : Int))) = _
        rw [show ((v : Nat) : Int) + ((s * 2 ^ (P - 1) : Nat) : Int) = ((v + s * 2 ^ (P - 1) : Nat) : Int) by omega, wrapUn (by omega), show ((sgB neg W : Nat) : Int) + ((v + s * 2 ^ (P - 1) : Nat) : Int) = ((s * 2 ^ (P - 1) + v + sgB neg W : Nat) : Int) by omega, wrapUn (by omega)]
theorem rFinal {m : Int} (hm : Md m) (neg nz : Bool) {n : Nat} (hl : (d32 n).length ≤ 300) {e : Int} (he : -50000 ≤ e ∧ e ≤ 50000) : Ev (fun k => vernierref06_Final k f m neg (d32 n) e nz) (if n = 0 then (((sgB nz W : Nat) : Int), 0) else rnOut W P m neg (qA n e false (em - (P : Int) + 1)) (qB e false (em - (P : Int) + 1))) := by
  refine Ev.congr (fun k => vernierref06_Final_eq k _ _ _ _ _ _) ?_
  by_cases c : n = 0
  · rw [if_pos c, c, d32_zero]
    exact Ev.pos (bT rfl) (Ev.bind (Ev.congr (fun k => vernierref06_Nought_eq k _ _) (Ev.bind (Ev.of fun k => rSign h k nz) (Ev.some _))) (Ev.some _))
  · rw [if_neg c]
    have := d32_len_pos.2 c
    exact Ev.neg (bF (by omega)) (Ev.bind (rRound h hm neg c hl he) (Ev.some _))
end
end Go.Proofs.YtmoeaeflljpboaaDoor.X
