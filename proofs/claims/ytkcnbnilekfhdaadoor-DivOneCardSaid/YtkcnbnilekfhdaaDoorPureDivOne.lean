/- Plain law: DivOne answers true. Conditions: what the reading says of the arguments. -/
import Derived.Test.YtkcnbnilekfhdaaDoorDivE
import Derived.Test.YtkcnbnilekfhdaaDoorRnD
namespace Go.Proofs.YtkcnbnilekfhdaaDoor.X
open Go Go.Rex
set_option linter.unusedVariables false

section
variable {f : Int} {W P : Nat} {em ex : Int} (h : Fm f W P em ex)
include h
/-- The sign turned. -/
theorem neg_pk (k : Nat) {K : Nat} (hK : K < 2 ^ (W - 1)) (s : Bool) : format_Neg k f ((K + sgB s W : Nat) : Int) = some (((K + sgB (!s) W : Nat) : Int), (0 : Int)) := by
  cases s
  · have e := neg_at h k K hK
    unfold sgB
    rw [if_neg (by simp), if_pos (by simp), Nat.add_zero]; exact e
  · have h1 := h.w64; have h2 := h.p8; have h3 := h.wp
    have hW : 2 ^ W = 2 * 2 ^ (W - 1) := by rw [show W = (W - 1) + 1 by omega, Nat.pow_succ, Nat.mul_comm]; rfl
    have h64 : 2 ^ W ≤ 18446744073709551616 := pow_mono2 (b := 64) h1
    unfold sgB
    rw [if_pos rfl, if_neg (by simp), Nat.add_zero, format_Neg_eq, check_at h k _ (by omega), if_pos (by omega), Option.bind_some, if_neg (nF rfl), sign_at h, Option.bind_some]
    congr 2
    unfold xorK
    show IntKind.u64.wrap ((BitVec.ofInt 64 ((K + 2 ^ (W - 1) : Nat) : Int) ^^^ BitVec.ofInt 64 ((2 ^ (W - 1) : Nat) : Int)).toNat : Int) = _
    rw [BitVec.toNat_xor, ofInt_nat _ (by omega), ofInt_nat _ (by omega)]
    have e : K + 2 ^ (W - 1) = K ^^^ 2 ^ (W - 1) := by
      rw [Nat.xor_comm, Nat.add_comm]
      apply Nat.eq_of_testBit_eq
      intro j
      have hor := Nat.two_pow_add_eq_or_of_lt hK 1
      rw [Nat.mul_one] at hor
      rw [hor, Nat.testBit_xor, Nat.testBit_or, Nat.testBit_two_pow]
      by_cases hj : W - 1 = j
      · subst hj
        rw [Nat.testBit_lt_two_pow hK]; simp
      · simp [hj]
    rw [e, Nat.xor_assoc, Nat.xor_self, Nat.xor_zero, wrapUn (by omega)]
/-- Powers of two, as patterns. -/
theorem pow_pat {K : Nat} (h1 : 1 ≤ K) (h2 : K < eTop W P) : K * 2 ^ (P - 1) ≠ 0 ∧ K * 2 ^ (P - 1) < infP W P ∧ K * 2 ^ (P - 1) < 2 ^ W ∧ pk W (K * 2 ^ (P - 1)) = K * 2 ^ (P - 1) ∧ ps W (K * 2 ^ (P - 1)) = false ∧ plV P (K * 2 ^ (P - 1)) = 2 ^ (P + K - 2) ∧ tz (plV P (K * 2 ^ (P - 1))) = P + K - 2 ∧ oddN (plV P (K * 2 ^ (P - 1))) = 1 := by
  have h8 := h.p8; have h3 := h.wp
  have hp := Nat.two_pow_pos (P - 1)
  have hi := infP_le h
  obtain ⟨w1, w2, w3, w4⟩ := wW h
  have hlt : K * 2 ^ (P - 1) < infP W P := by unfold infP; exact (Nat.mul_lt_mul_right hp).2 h2
  have h0 : K * 2 ^ (P - 1) ≠ 0 := Nat.mul_ne_zero (by omega) (by omega)
  have hv : plV P (K * 2 ^ (P - 1)) = 2 ^ (P + K - 2) := by
    have e : K * 2 ^ (P - 1) = (K - 1) * 2 ^ (P - 1) + 2 ^ (P - 1) := by
      obtain ⟨t, rfl⟩ : ∃ t, K = t + 1 := ⟨K - 1, by omega⟩
      rw [Nat.add_sub_cancel, Nat.succ_mul]
    rw [e, plV_at (by omega) (.inr (Nat.le_refl _)) (pow_mono2 (by omega)), ← Nat.pow_add]
    congr 1; omega
  have ht : tz (plV P (K * 2 ^ (P - 1))) = P + K - 2 := by
    rw [hv]
    have := tz_eq (P + K - 2) 0
    rw [Nat.mul_zero, Nat.zero_add, Nat.mul_one] at this
    exact this
  refine ⟨h0, hlt, by omega, Nat.mod_eq_of_lt (by omega), decide_eq_false (by omega), hv, ht, ?_⟩
  unfold oddN
  rw [ht, hv, Nat.div_self (Nat.two_pow_pos _)]
theorem pack_pow (k : Nat) {K : Nat} (h2 : K < eTop W P) : format_Pack k f false (K : Int) 0 = some (((K * 2 ^ (P - 1) : Nat) : Int), (0 : Int)) := by
  have h8 := h.p8; have h3 := h.wp; have h5 := h.p53
  have hp := Nat.two_pow_pos (P - 1)
  have e1 : IntKind.i64.wrap ((P : Int) - 1) = ((P - 1 : Nat) : Int) := by rw [wrapI (by omega) (by omega)]; omega
  have hj := join_at h k (E := K) (F := 0) (by have := eTop_lt W P; omega) hp em ex false
  rw [show sgB false W = 0 by unfold sgB; rw [if_neg (by simp)], Nat.add_zero] at hj
  rw [format_Pack_eq, params_at h, Option.bind_some, if_neg (nF rfl)]
  show ((format_ones k (IntKind.i64.wrap ((W : Int) - (P : Int))))).bind (fun o1 => (if decide ((K : Int) > o1) then some (0, 7) else ((format_ones k (IntKind.i64.wrap ((P : Int) - 1)))).bind fun o2 => (if decide ((0 : Int) > o2) then some (0, 7) else ((format_join k (W : Int) (P : Int) em ex false (K : Int) 0)).bind fun o3 => some (o3, 0)))) = _
  rw [ones_e h, Option.bind_some, if_neg (dF (by omega)), e1, ones_at k _ (by omega), Option.bind_some, if_neg (dF (by omega))]
  rw [show (0 : Int) = ((0 : Nat) : Int) from rfl, hj, Option.bind_some]
/-- A quotient of numbers of the format. -/
theorem raR_nums (m : Int) (neg : Bool) {p q : Nat} (g1 : p ≠ 0 ∧ p < infP W P) (g2 : q ≠ 0 ∧ q < infP W P) : raR W P em m neg (oddN (plV P p)) (oddN (plV P q)) ((tz (plV P p) : Int) - (tz (plV P q) : Int)) = ((rnOut W P m neg (rA (oddN (plV P p)) ((tz (plV P p) : Int) - (tz (plV P q) : Int)) (em - (P : Int) + 1)) (rB (oddN (plV P q)) ((tz (plV P p) : Int) - (tz (plV P q) : Int)) (em - (P : Int) + 1))).1, ((rnOut W P m neg (rA (oddN (plV P p)) ((tz (plV P p) : Int) - (tz (plV P q) : Int)) (em - (P : Int) + 1)) (rB (oddN (plV P q)) ((tz (plV P p) : Int) - (tz (plV P q) : Int)) (em - (P : Int) + 1))).2, 0)) := by
  have hip := infP_le h
  have hpp := Nat.two_pow_pos (P - 1)
  obtain ⟨w1, w2, w3, w4⟩ := plV_facts h g1.1 (by omega)
  obtain ⟨x1, x2, x3, x4⟩ := plV_facts h g2.1 (by omega)
  have l1 : (digs (oddN (plV P p))).length ≤ 1 := digs_length_lt.2 (by rw [Nat.pow_one]; exact w4)
  have l2 : (digs (oddN (plV P q))).length ≤ 1 := digs_length_lt.2 (by rw [Nat.pow_one]; exact x4)
  unfold raR
  rw [if_neg (by omega), if_neg (by omega), if_neg (oddN_ne x1), if_neg (oddN_ne w1)]
/-- By a power of two: what Exact answers of the number with its exponent moved. -/
theorem raR_pow (m : Int) (neg : Bool) {p K : Nat} (g1 : p ≠ 0 ∧ p < infP W P) (h1 : 1 ≤ K) (h2 : K < eTop W P) : raR W P em m neg (oddN (plV P p)) (oddN (plV P (K * 2 ^ (P - 1)))) ((tz (plV P p) : Int) - (tz (plV P (K * 2 ^ (P - 1))) : Int)) = exR W P em m neg (digs (oddN (plV P p))) (em - (P : Int) + 1 + (tz (plV P p) : Int) - ((K : Int) - ex)) := by
  obtain ⟨q1, q2, q3, q4, q5, q6, q7, q8⟩ := pow_pat h h1 h2
  have h8 := h.p8; have h53 := h.p53; have m0 := h.m0; have m1 := h.m1
  have hx := (fm_ex h).1
  have ht := (eTop_le h).1
  have hip := infP_le h
  have hpp := Nat.two_pow_pos (P - 1)
  obtain ⟨w1, w2, w3, w4⟩ := plV_facts h g1.1 (by omega)
  have l1 : (digs (oddN (plV P p))).length ≤ 1 := digs_length_lt.2 (by rw [Nat.pow_one]; exact w4)
  rw [raR_nums h m neg g1 ⟨q1, q2⟩, q7, q8]
  have ee : ((tz (plV P p) : Int) - ((P + K - 2 : Nat) : Int)) = em - (P : Int) + 1 + (tz (plV P p) : Int) - ((K : Int) - ex) := by omega
  rw [ee]
  have hb : badE (digs (oddN (plV P p))) (em - (P : Int) + 1 + (tz (plV P p) : Int) - ((K : Int) - ex)) = 0 := by
    unfold badE; rw [if_neg (by omega), if_neg (by omega)]
  unfold exR
  rw [val_digs, tz_of_odd (oddN_odd w1), if_neg (by rw [hb]; decide), if_neg (oddN_ne w1), if_neg (by omega)]
/-- By itself. -/
theorem raR_self (m : Int) {p : Nat} (g1 : p ≠ 0 ∧ p < infP W P) : raR W P em m false (oddN (plV P p)) (oddN (plV P p)) ((tz (plV P p) : Int) - (tz (plV P p) : Int)) = (((ex.toNat * 2 ^ (P - 1) : Nat) : Int), ((0 : Int), (0 : Int))) := by
  have h8 := h.p8; have h53 := h.p53; have m0 := h.m0; have m1 := h.m1
  have hx := (fm_ex h).1
  have ht := (fm_ex h).2.2
  have hip := infP_le h
  have hpp := Nat.two_pow_pos (P - 1)
  obtain ⟨w1, w2, w3, w4⟩ := plV_facts h g1.1 (by omega)
  obtain ⟨q1, q2, q3, q4, q5, q6, q7, q8⟩ := pow_pat h (K := ex.toNat) (by omega) (by omega)
  have hn := oddN_ne w1
  rw [raR_nums h m false g1 g1, Int.sub_self]
  generalize oddN (plV P p) = n at *
  have eA : rA n 0 (em - (P : Int) + 1) = plV P (ex.toNat * 2 ^ (P - 1)) * n := by
    unfold rA
    rw [q6, Nat.mul_comm]
    congr 1
    unfold p2
    congr 1; omega
  have eB : rB n 0 (em - (P : Int) + 1) = n := by unfold rB; rw [p2_neg (by omega), Nat.mul_one]
  rw [eA, eB, rnOut_rep (W := W) (by omega) (by omega) q2 m false]
  rw [show sgB false W = 0 by unfold sgB; rw [if_neg (by simp)], Nat.add_zero]
/-- What the quotient of the opposite answers in the mirrored mode. -/
theorem div_mir (m : Int) {p q : Nat} {s t : Bool} (g1 : p ≠ 0 ∧ p < infP W P) : ∃ (K K' : Nat) (u u' : Bool) (fl fl' : Int), K < 2 ^ (W - 1) ∧ K' < 2 ^ (W - 1) ∧
    dvR (clsOf W P p s) (clsOf W P q t) ((infP W P + 2 ^ (P - 2) : Nat) : Int) ((infP W P + sgB (!(s == t)) W : Nat) : Int) ((sgB (!(s == t)) W : Nat) : Int) (raR W P em m (!(s == t)) (oddN (plV P p)) (oddN (plV P q)) ((tz (plV P p) : Int) - (tz (plV P q) : Int))) = (((K + sgB u W : Nat) : Int), (fl, 0)) ∧
    dvR (clsOf W P p (!s)) (clsOf W P q t) ((infP W P + 2 ^ (P - 2) : Nat) : Int) ((infP W P + sgB (!((!s) == t)) W : Nat) : Int) ((sgB (!((!s) == t)) W : Nat) : Int) (raR W P em (mir m) (!((!s) == t)) (oddN (plV P p)) (oddN (plV P q)) ((tz (plV P p) : Int) - (tz (plV P q) : Int))) = (((K' + sgB u' W : Nat) : Int), (fl', 0)) ∧
    (clsOf W P q t ≠ 1 → clsOf W P q t ≠ 0 → K = K' ∧ u' = !u ∧ fl = fl') := by
  have h8 := h.p8
  have hip := infP_le h
  have hpp := Nat.two_pow_pos (P - 1)
  have hq2 := Nat.two_pow_pos (P - 2)
  have hq1 : 2 ^ (P - 1) = 2 * 2 ^ (P - 2) := by rw [show P - 1 = (P - 2) + 1 by omega, Nat.pow_succ, Nat.mul_comm]
  have hb : ∀ x y : Bool, (!((!x) == y)) = !(!(x == y)) := by decide
  have hc1 := cls_num (neg := s) g1.1 g1.2
  have hc2 := cls_num (neg := !s) g1.1 g1.2
  rw [hb]
  generalize (!(s == t)) = n at *
  generalize clsOf W P p s = c at *
  generalize clsOf W P p (!s) = c' at *
  obtain ⟨d, hd, hdd⟩ := cls_cases (W := W) (P := P) (p := q) (neg := t) hq2
  rw [hd]
  have s0 : sgB false W = 0 := by unfold sgB; rw [if_neg (by simp)]
  have hN : ∀ x : Nat, ((x : Nat) : Int) = ((x + sgB false W : Nat) : Int) := fun x => by rw [s0, Nat.add_zero]
  have e0 : ∀ (c : Int), (c = 3 ∨ c = 4 ∨ c = 7 ∨ c = 8) → ∀ N I Z r, dvR c 0 N I Z r = (N, (1, 0)) := by
    intro c hc N I Z r; rcases hc with rfl | rfl | rfl | rfl <;> simp [dvR]
  have e1 : ∀ (c : Int), (c = 3 ∨ c = 4 ∨ c = 7 ∨ c = 8) → ∀ N I Z r, dvR c 1 N I Z r = (N, (0, 0)) := by
    intro c hc N I Z r; rcases hc with rfl | rfl | rfl | rfl <;> simp [dvR]
  have e2 : ∀ (c : Int), (c = 3 ∨ c = 4 ∨ c = 7 ∨ c = 8) → ∀ d : Int, (d = 2 ∨ d = 9) → ∀ N I Z r, dvR c d N I Z r = (Z, (0, 0)) := by
    intro c hc d hd N I Z r; rcases hc with rfl | rfl | rfl | rfl <;> rcases hd with rfl | rfl <;> simp [dvR]
  have e3 : ∀ (c : Int), (c = 3 ∨ c = 4 ∨ c = 7 ∨ c = 8) → ∀ d : Int, (d = 5 ∨ d = 6) → ∀ N I Z r, dvR c d N I Z r = (I, (2, 0)) := by
    intro c hc d hd N I Z r; rcases hc with rfl | rfl | rfl | rfl <;> rcases hd with rfl | rfl <;> simp [dvR]
  have h5 : d = 0 ∨ d = 1 ∨ (d = 2 ∨ d = 9) ∨ (d = 5 ∨ d = 6) ∨ ((d = 3 ∨ d = 4 ∨ d = 7 ∨ d = 8) ∧ (q ≠ 0 ∧ q < infP W P)) := by omega
  clear hdd hd
  rcases h5 with hd0 | hd0 | hd0 | hd0 | ⟨hd0, g2⟩
  · exact ⟨infP W P + 2 ^ (P - 2), infP W P + 2 ^ (P - 2), false, false, (1 : Int), (1 : Int), by omega, by omega, by rw [hd0, e0 _ hc1, hN], by rw [hd0, e0 _ hc2, hN], fun _ g => absurd hd0 g⟩
  · exact ⟨infP W P + 2 ^ (P - 2), infP W P + 2 ^ (P - 2), false, false, (0 : Int), (0 : Int), by omega, by omega, by rw [hd0, e1 _ hc1, hN], by rw [hd0, e1 _ hc2, hN], fun g _ => absurd hd0 g⟩
  · exact ⟨0, 0, n, !n, (0 : Int), (0 : Int), by omega, by omega, by rw [e2 _ hc1 _ hd0, Nat.zero_add], by rw [e2 _ hc2 _ hd0, Nat.zero_add], fun _ _ => ⟨rfl, rfl, rfl⟩⟩
  · exact ⟨infP W P, infP W P, n, !n, (2 : Int), (2 : Int), by omega, by omega, by rw [e3 _ hc1 _ hd0], by rw [e3 _ hc2 _ hd0], fun _ _ => ⟨rfl, rfl, rfl⟩⟩
  · have r1 := raR_nums h m n g1 g2
    have r2 := raR_nums h (mir m) (!n) g1 g2
    generalize rA (oddN (plV P p)) ((tz (plV P p) : Int) - (tz (plV P q) : Int)) (em - (P : Int) + 1) = A at *
    generalize rB (oddN (plV P q)) ((tz (plV P p) : Int) - (tz (plV P q) : Int)) (em - (P : Int) + 1) = B at *
    have hk := kOut_le W P m n A B
    exact ⟨kOut W P m n A B, kOut W P m n A B, n, !n, (rnOut W P m n A B).2, (rnOut W P m n A B).2, by omega, by omega, by rw [dvR_num hc1 hd0, r1, rnOut_bits], by rw [dvR_num hc2 hd0, r2, rnOut_bits, kOut_mir, flags_mir], fun _ _ => ⟨rfl, rfl, rfl⟩⟩
omit h in
theorem scale_ev {V : Nat} (hV : V ≠ 0) (hl : oddN V < 18446744073709551616) (neg : Bool) {e t : Int} (he : -20000 ≤ e ∧ e ≤ 20000) (ht : -20000 ≤ t ∧ t ≤ 20000) : Ev (fun k => dyad_Scale k neg (digs (oddN V)) e t) (neg, (digs (oddN V), (e + t, (0 : Int)))) := by
  have l1 : (digs (oddN V)).length ≤ 1 := digs_length_lt.2 (by rw [Nat.pow_one]; exact hl)
  have l0 := digs_len_pos.2 (oddN_ne hV)
  have o := fun (e : Int) (he : -1000000000 ≤ e ∧ e ≤ 1000000000) => odd_all (WF.digs (oddN V)) (by unfold Lb; omega) (by rw [val_digs]; omega) (by rw [val_digs]; exact oddN_ne hV) neg (e := e) he
  simp only [val_digs, tz_of_odd (oddN_odd hV), oddN_of_odd (oddN_odd hV)] at o
  have em : mxI (-422144) (mnI t 422144) = t := by
    unfold mnI mxI
    rw [if_neg (show ¬ ((422144 : Int) < t) by omega), if_pos (show t > -422144 by omega)]
  have o1 := o e (by omega)
  have o2 := o (e + t) (by omega)
  rw [show e + ((0 : Nat) : Int) = e by omega] at o1
  rw [show e + t + ((0 : Nat) : Int) = e + t by omega] at o2
  refine Ev.congr (fun k => dyad_Scale_eq k _ _ _ _) (Ev.bind (Ev.congr (fun k => dyad_refuses_eq k _ _ _) (Ev.neg (dF (by omega)) (Ev.neg (dF (by omega)) (Ev.neg (dF (by omega)) (Ev.some (0 : Int)))))) (Ev.neg (nF rfl) (Ev.bind o1 (Ev.neg (bF ?_) ?_))))
  · show ((digs (oddN V)).length : Int) ≠ 0; omega
  show Ev (fun k => ((dyad_answer k neg (digs (oddN V)) (IntKind.i64.wrap (e + (mxI (-422144) (mnI t 422144)))))).bind fun o2 => some (o2.1, (o2.2.1, (o2.2.2.1, o2.2.2.2)))) _
  rw [em, wrapI (by omega) (by omega)]
  refine Ev.bind (Ev.congr (fun k => dyad_answer_eq k _ _ _) (Ev.bind o2 (Ev.neg (dF ?_) (Ev.neg (dF ?_) (Ev.neg (dF ?_) (Ev.some _)))))) (Ev.some _)
  · show ¬ (((digs (oddN V)).length : Int) > 1024); omega
  · show ¬ (e + t < -40000); omega
  · show ¬ (e + t > 40000); omega
end
theorem j2_mir (k : Nat) (x0 x1 x2 x3 x4 x5 x6 x7 x8 : Int) (l9 : List Int) (b10 : Bool) (x11 : Int) : vernierlaw08_DivOne.j2 k x0 x1 x2 x3 x4 x5 x6 x7 x8 l9 b10 x11 = vernierlaw08_DivOne.j3 k x0 x1 x2 x3 x4 (mir x4) x5 x6 x7 x8 l9 b10 x11 := by
  rw [vernierlaw08_DivOne.j2_eq]
  unfold mir
  by_cases c3 : x4 = 3
  · rw [if_pos (bT c3), if_pos c3]
  · rw [if_neg (bF c3), if_neg c3]
    by_cases c4 : x4 = 4
    · rw [if_pos (bT c4), if_pos c4]
    · rw [if_neg (bF c4), if_neg c4]
namespace Pure
abbrev FiveTy : Ty := .pair (.int .i64) (.pair (.int .i64) (.pair (.int .u64) (.pair (.int .u64) (.int .i64))))
theorem DivOne (t : Int × (Int × (Int × (Int × Int)))) (w : WFt FiveTy t) : Ev (fun k => vernierlaw08_DivOne k t.1 t.2.1 t.2.2.1 t.2.2.2.1 t.2.2.2.2) true := by
  obtain ⟨w1, w2, w3, w4, w5⟩ := w
  obtain ⟨f, m, a, b, j⟩ := t
  have ha : 0 ≤ a ∧ a < 18446744073709551616 := wf_u64 w3
  have hb : 0 ≤ b ∧ b < 18446744073709551616 := wf_u64 w4
  have hj : -9223372036854775808 ≤ j ∧ j ≤ 9223372036854775807 := wf_i64 w5
  show Ev (fun k => vernierlaw08_DivOne k f m a b j) true
  refine Ev.congr (fun k => vernierlaw08_DivOne_eq k _ _ _ _ _) (Ev.bind awake08_ev (Ev.neg (notF rfl) ?_))
  by_cases c1 : f < 0
  · exact Ev.pos (dT c1) (Ev.some _)
  refine Ev.neg (dF c1) ?_
  by_cases c2 : f > 3
  · exact Ev.pos (dT c2) (Ev.some _)
  refine Ev.neg (dF c2) ?_
  by_cases c3 : m < 0
  · exact Ev.pos (dT c3) (Ev.some _)
  refine Ev.neg (dF c3) ?_
  by_cases c4 : m > 5
  · exact Ev.pos (dT c4) (Ev.some _)
  refine Ev.neg (dF c4) (Ev.congr (fun k => vernierlaw08_DivOne.j0_eq k _ _ _ _ _) ?_)
  obtain ⟨W, P, em, ex, h⟩ := fm_of (f := f) (by omega) (by omega)
  have hm : Md m := ⟨by omega, by omega⟩
  have hm' : Md (mir m) := by unfold mir; split <;> (try split) <;> constructor <;> omega
  obtain ⟨x, rfl⟩ := Int.eq_ofNat_of_zero_le ha.1
  obtain ⟨y, rfl⟩ := Int.eq_ofNat_of_zero_le hb.1
  have l1 := Nat.mod_lt x (Nat.two_pow_pos W)
  have l2 := Nat.mod_lt y (Nat.two_pow_pos W)
  refine Ev.bind (cut08_ev h (x := x) (by omega)) (Ev.bind (cut08_ev h (x := y) (by omega)) ?_)
  generalize x % 2 ^ W = A at *
  generalize y % 2 ^ W = B at *
  have h8 := h.p8; have h53 := h.p53; have m0 := h.m0; have m1 := h.m1
  have hx := (fm_ex h).1
  have ht := (fm_ex h).2.2
  have hip := infP_le h
  have hpp := Nat.two_pow_pos (P - 1)
  obtain ⟨X, hX⟩ : ∃ X : Nat, ex = (X : Int) := ⟨ex.toNat, by omega⟩
  have eX : ex.toNat = X := by omega
  have one := pack_pow h (K := X)
  refine Ev.bind (Ev.of fun k => params_at h k) ?_
  show Ev (fun k => ((format_Pack k f false (IntKind.u64.wrap ex) 0)).bind fun o4 => ((vernierlaw08_finite k f (A : Int))).bind fun o5 => (if ((0 : Int) != 0) then some false else (if o4.2 != 0 then some false else vernierlaw08_DivOne.j1 k (A : Int) (B : Int) j f m o4.1 o5.2.2.2 (W : Int) (P : Int) em ex o5.2.1 o5.1 o5.2.2.1))) true
  rw [hX, wrapUn (by omega)]
  obtain ⟨n1, n2⟩ := finite08_ev h l1
  refine Ev.bind (Ev.of fun k => one k (by omega)) ?_
  by_cases ok : pk W A ≠ 0 ∧ pk W A < infP W P
  case neg =>
    obtain ⟨u, v, z, g⟩ := n1 ok
    exact Ev.bind g (Ev.neg (nF rfl) (Ev.neg (nF rfl) (Ev.congr (fun k => vernierlaw08_DivOne.j1_eq k _ _ _ _ _ _ _ _ _ _ _ _ _ _) (Ev.pos rfl (Ev.some _)))))
  refine Ev.bind (n2 ok.1 ok.2) (Ev.neg (nF rfl) (Ev.neg (nF rfl) (Ev.congr (fun k => vernierlaw08_DivOne.j1_eq k _ _ _ _ _ _ _ _ _ _ _ _ _ _) (Ev.neg (notF rfl) ?_))))
  obtain ⟨p1, p2, p3, p4, p5, p6⟩ := pat_parts h l1
  obtain ⟨o1, o2, o3, o4, o5, o6, o7, o8⟩ := pow_pat h (K := X) (by omega) (by omega)
  obtain ⟨w1, w2, w3, w4⟩ := plV_facts h ok.1 (by omega)
  -- by one
  have d1 := Div_ev h hm l1 o3
  rw [o4, o5, dvR_num (cls_num ok.1 ok.2) (cls_num o1 o2), raR_pow h m _ ok (by omega) (by omega), show em - (P : Int) + 1 + (tz (plV P (pk W A)) : Int) - ((X : Int) - ex) = em - (P : Int) + 1 + (tz (plV P (pk W A)) : Int) by omega, exR_val h ok.1 ok.2] at d1
  have es : (!(ps W A == false)) = ps W A := by cases ps W A <;> rfl
  rw [es, ← p4] at d1
  -- by itself
  have d2 := Div_ev h hm l1 l1
  have es2 : (!(ps W A == ps W A)) = false := by cases ps W A <;> rfl
  rw [dvR_num (cls_num ok.1 ok.2) (cls_num ok.1 ok.2), es2, raR_self h m ok, eX] at d2
  refine Ev.bind d1 (Ev.bind d2 (Ev.neg (nF rfl) (Ev.neg (nF rfl) (Ev.neg (nF rfl) (Ev.neg (nF rfl) (Ev.neg (nF rfl) (Ev.neg (nF rfl) (Ev.congr (fun k => j2_mir k _ _ _ _ _ _ _ _ _ _ _ _) (Ev.congr (fun k => vernierlaw08_DivOne.j3_eq k _ _ _ _ _ _ _ _ _ _ _ _ _) ?_)))))))))
  -- the signs
  have ng := fun k => neg_pk h k (K := pk W A) p5 (ps W A)
  have ng' : ∀ k, format_Neg k f (A : Int) = some (((pk W A + sgB (!ps W A) W : Nat) : Int), (0 : Int)) := fun k => by
    have := ng k
    rw [← p4] at this; exact this
  obtain ⟨y1, y2, y3⟩ := pk_at (W := W) (K := pk W A) p5 (by have := h.wp; omega) (!ps W A)
  have d3 := Div_ev h hm l1 l2
  have d4 := Div_ev h hm' y3 l2
  rw [y1, y2] at d4
  obtain ⟨K, K', u, u', fl, fl', k1, k2, k3, k4, k5⟩ := div_mir h m (p := pk W A) (q := pk W B) (s := ps W A) (t := ps W B) ok
  rw [k3] at d3
  rw [k4] at d4
  have ng2 := fun k => neg_pk h k (K := K') k2 u'
  refine Ev.bind (Ev.of ng') (Ev.neg (nF rfl) (Ev.bind d3 (Ev.bind d4 (Ev.bind (Ev.of ng2) (Ev.bind (Ev.of fun k => class_pk h l2 k) (Ev.neg (nF rfl) (Ev.neg (nF rfl) (Ev.neg (nF rfl) (Ev.neg (nF rfl) (Ev.congr (fun k => vernierlaw08_DivOne.j4_eq k _ _ _ _ _ _ _ _ _ _ _ _ _ _ _ _) ?_))))))))))
  -- the powers of two
  have j5 : Ev (fun k => vernierlaw08_DivOne.j5 k (A : Int) j f m (W : Int) (P : Int) em (X : Int) (digs (oddN (plV P (pk W A)))) (ps W A) (em - (P : Int) + 1 + (tz (plV P (pk W A)) : Int))) true := by
    refine Ev.congr (fun k => vernierlaw08_DivOne.j5_eq k _ _ _ _ _ _ _ _ _ _ _) ?_
    by_cases b1 : j < em
    · exact Ev.pos (dT b1) (Ev.some _)
    refine Ev.neg (dF b1) ?_
    by_cases b2 : j > (X : Int)
    · exact Ev.pos (dT b2) (Ev.some _)
    refine Ev.neg (dF b2) (Ev.congr (fun k => vernierlaw08_DivOne.j6_eq k _ _ _ _ _ _ _ _ _ _ _) ?_)
    obtain ⟨K2, hK2⟩ : ∃ K2 : Nat, (X : Int) + j = (K2 : Int) := ⟨((X : Int) + j).toNat, by omega⟩
    rw [wrapI (x := (X : Int) + j) (by omega) (by omega), hK2, wrapUn (by omega), wrapI (x := 0 - (X : Int)) (by omega) (by omega)]
    refine Ev.bind (Ev.of fun k => pack_pow h k (K := K2) (by omega)) (Ev.neg (nF rfl) (Ev.neg (bF (by omega)) (Ev.congr (fun k => vernierlaw08_DivOne.j7_eq k _ _ _ _ _ _ _ _) ?_)))
    obtain ⟨q1, q2, q3, q4, q5, q6, q7, q8⟩ := pow_pat h (K := K2) (by omega) (by omega)
    have d5 := Div_ev h hm l1 q3
    rw [q4, q5, dvR_num (cls_num ok.1 ok.2) (cls_num q1 q2), raR_pow h m _ ok (by omega) (by omega), es, show em - (P : Int) + 1 + (tz (plV P (pk W A)) : Int) - ((K2 : Int) - ex) = em - (P : Int) + 1 + (tz (plV P (pk W A)) : Int) + (0 - j) by omega] at d5
    have sc := scale_ev w1 w4 (ps W A) (e := em - (P : Int) + 1 + (tz (plV P (pk W A)) : Int)) (t := 0 - j) (by omega) (by omega)
    have l3 : (digs (oddN (plV P (pk W A)))).length ≤ 1 := digs_length_lt.2 (by rw [Nat.pow_one]; exact w4)
    have x5 := Exact_ev h hm (a := digs (oddN (plV P (pk W A)))) (WF.digs _) (em - (P : Int) + 1 + (tz (plV P (pk W A)) : Int) + (0 - j)) (ps W A)
    have hz : (exR W P em m (ps W A) (digs (oddN (plV P (pk W A)))) (em - (P : Int) + 1 + (tz (plV P (pk W A)) : Int) + (0 - j))).2.2 = 0 := by
      unfold exR
      have hb : badE (digs (oddN (plV P (pk W A)))) (em - (P : Int) + 1 + (tz (plV P (pk W A)) : Int) + (0 - j)) = 0 := by
        unfold badE; rw [if_neg (by omega), if_neg (by omega)]
      rw [val_digs, tz_of_odd (oddN_odd w1), if_neg (by rw [hb]; decide), if_neg (oddN_ne w1), if_neg (by omega)]
    rw [wrapI (x := 0 - j) (by omega) (by omega)]
    refine Ev.bind sc (Ev.neg (nF rfl) (Ev.bind d5 (Ev.bind x5 ?_)))
    generalize exR W P em m (ps W A) (digs (oddN (plV P (pk W A)))) (em - (P : Int) + 1 + (tz (plV P (pk W A)) : Int) + (0 - j)) = r at *
    exact Ev.pos (bT hz) (Ev.pos (bT hz) (Ev.pos (bT rfl) (Ev.eq (Ev.some _) (bT rfl))))
  by_cases b1 : clsOf W P (pk W B) (ps W B) = 1
  · exact Ev.neg (nF b1) j5
  refine Ev.pos (nT b1) ?_
  by_cases b0 : clsOf W P (pk W B) (ps W B) = 0
  · exact Ev.neg (nF b0) j5
  refine Ev.pos (nT b0) ?_
  obtain ⟨e1, e2, e3⟩ := k5 b1 b0
  subst e1 e2 e3
  exact Ev.neg (nF (by rw [Bool.not_not])) (Ev.neg (nF rfl) j5)
end Pure
end Go.Proofs.YtkcnbnilekfhdaaDoor.X
