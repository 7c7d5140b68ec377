/- Plain law: RemAll answers true. Conditions: what the reading says of the script. -/
import Derived.Test.YtkcnbnilekfhdaaDoorRemC
import Derived.Test.YtkcnbnilekfhdaaDoorRfI
namespace Go.Proofs.YtkcnbnilekfhdaaDoor.X
open Go Go.Rex
set_option linter.unusedVariables false

theorem low_word (n : Nat) (hl : (digs n).length ≤ 1000000) : ∃ x : Nat, x < 18446744073709551616 ∧ (digs n).getD 0 0 = (x : Int) ∧ x % 8 = n % 8 := by
  by_cases h0 : n = 0
  · exact ⟨0, by decide, by rw [h0, digs_zero]; rfl, by rw [h0]⟩
  · refine ⟨n % 18446744073709551616, Nat.mod_lt _ (by decide), ?_, by omega⟩
    rw [digs_pos h0]; rfl
theorem low3 {x : Nat} (hn : x < 18446744073709551616) : IntKind.i64.wrap (andK IntKind.u64 (x : Int) 7) = ((x % 8 : Nat) : Int) := by
  have := andK_mask x 3 (by decide) hn
  rw [show ((2 ^ 3 - 1 : Nat) : Int) = 7 from rfl, show (2 : Nat) ^ 3 = 8 from rfl] at this
  rw [this, wrapI (by omega) (by omega)]
section
variable {f : Int} {W P : Nat} {em ex : Int} (h : Fm f W P em ex)
include h
/-- The reference's remainder, in the lesser one's places. -/
theorem rrem_core {a : Nat} (ha : a < 2 ^ W) (near : Bool) {N M q t : Nat} (n1 : N < 18446744073709551616) (n3 : q ≤ 2047) (m1' : M < 18446744073709551616) (m2 : M ≠ 0) (m3 : t ≤ 2047) {e : Int} (he : e = em - (P : Int) + 1 + ((min q t : Nat) : Int)) {A B c K : Nat} (hA : A = N * 2 ^ (q - min q t)) (hB : B = M * 2 ^ (t - min q t)) (hc : c = 2 ^ min q t) (k2 : K < infP W P) (hK : plV P K = leftR near A B * c) (b : Int) :
    Ev (fun k => vernierref11_remainder.j2 k f (a : Int) near (N : Int) ((q : Int) + (em - (P : Int) + 1)) (M : Int) ((t : Int) + (em - (P : Int) + 1)) e) (((K + sgB (signR near (ps W a) A B) W : Nat) : Int), (((oftenR near A B % 8 : Nat) : Int), ((0 : Int), (0 : Int)))) := by
  have h8 := h.p8; have h53 := h.p53; have m0 := h.m0; have m1 := h.m1
  have hc0 : 0 < c := by rw [hc]; exact Nat.two_pow_pos _
  have hB0 : 0 < B := by rw [hB]; exact Nat.mul_pos (by omega) (Nat.two_pow_pos _)
  -- lengths
  have lN : (digs N).length ≤ 1 := digs_length_lt.2 (by rw [Nat.pow_one]; exact n1)
  have lM : (digs M).length ≤ 1 := digs_length_lt.2 (by rw [Nat.pow_one]; exact m1')
  have lA : (digs A).length ≤ 40 := by rw [hA]; exact Nat.le_trans (shl_len_ lN) (by omega)
  have lB : (digs B).length ≤ 40 := by rw [hB]; exact Nat.le_trans (shl_len_ lM) (by omega)
  have wf1 : ∀ {N : Nat}, N < 18446744073709551616 → WF ((List.replicate 1 (0 : Int)).set 0 (N : Int)) := fun h => WF.cons (by omega) (by omega) WF.nil
  have v1 : ∀ N : Nat, val ((List.replicate 1 (0 : Int)).set 0 (N : Int)) = N := fun N => by
    show (N : Int).toNat + 18446744073709551616 * 0 = N
    rw [Int.toNat_natCast]; omega
  have w1 : IntKind.i64.wrap ((q : Int) + (em - (P : Int) + 1) - e) = ((q - min q t : Nat) : Int) := by rw [wrapI (by omega) (by omega)]; omega
  have w2 : IntKind.i64.wrap ((t : Int) + (em - (P : Int) + 1) - e) = ((t - min q t : Nat) : Int) := by rw [wrapI (by omega) (by omega)]; omega
  have up1 := rUp_ev (wf1 n1) (by unfold Lb; simp) (t := q - min q t) (by omega) (by rw [v1]; omega)
  have up2 := rUp_ev (wf1 m1') (by unfold Lb; simp) (t := t - min q t) (by omega) (by rw [v1]; omega)
  rw [v1, ← hA] at up1
  rw [v1, ← hB] at up2
  have dv := rDivide_ev (a := digs A) (b := digs B) (WF.digs _) (WF.digs _) (by unfold Lb; omega) (by unfold Lb; omega) (by rw [val_digs]; omega) (by rw [val_digs]; omega)
  rw [val_digs, val_digs] at dv
  have hr : A % B < B := Nat.mod_lt _ hB0
  have lQ : (digs (A / B)).length ≤ 40 := Nat.le_trans (digs_len_mono (Nat.div_le_self _ _)) lA
  have lR : (digs (A % B)).length ≤ 40 := Nat.le_trans (digs_len_mono (Nat.le_of_lt hr)) lB
  have up3 := rUp_ev (a := digs (A % B)) (WF.digs _) (by unfold Lb; omega) (t := 1) (by omega) (by rw [val_digs]; omega)
  rw [val_digs, show A % B * 2 ^ 1 = 2 * (A % B) by omega] at up3
  have l2R : (digs (2 * (A % B))).length ≤ 41 := by
    have := shl_len_ (n := 1) lR
    rw [show A % B * 2 ^ 1 = 2 * (A % B) by omega] at this
    omega
  have cm := rCmp_ev (a := digs (2 * (A % B))) (b := digs B) (WF.digs _) (WF.digs _) (by unfold Lb; omega) (by unfold Lb; omega)
  rw [val_digs, val_digs] at cm
  have sg := Ev.of fun k => rsg_at h ha k
  have bitE := rBit_ev (a := digs (A / B)) (WF.digs _) 0 (by decide)
  rw [val_digs, Nat.pow_zero, Nat.div_one] at bitE
  have es : ((if ps W a = true then (1 : Int) else 0) == 1) = ps W a := by cases ps W a <;> rfl
  -- the end
  have j5 : ∀ (n : Nat) (neg : Bool), n = leftR near A B → (n = 0 → neg = neg) → (n ≠ 0 → neg = signR near (ps W a) A B) → (n = 0 → signR near (ps W a) A B = ps W a) → ∀ x : Int, Ev (fun k => vernierref11_remainder.j5 k f (a : Int) e neg x (digs n)) (((K + sgB (signR near (ps W a) A B) W : Nat) : Int), (x, ((0 : Int), (0 : Int)))) := by
    intro n neg hn _ h2 h3' x
    have hl : n ≤ B := by
      rw [hn]; unfold leftR; split <;> omega
    have lL : (digs n).length ≤ 40 := Nat.le_trans (digs_len_mono hl) lB
    refine Ev.congr (fun k => vernierref11_remainder.j5_eq k _ _ _ _ _ _) ?_
    by_cases c0 : n = 0
    · rw [c0] at hn
      rw [← hn, Nat.zero_mul] at hK
      have hK0 := (plV_zero (P := P) (by omega)).1 hK
      rw [h3' c0, hK0, Nat.zero_add]
      exact Ev.pos (bT (by rw [c0, digs_zero]; rfl)) (Ev.bind sg (Ev.bind (Ev.of fun k => rzero_at h k (ps W a)) (Ev.some _)))
    · have hne := h2 c0
      subst hne
      have hp := digs_len_pos.2 c0
      have wfo : WF ((List.replicate 1 (0 : Int)).set 0 1) := WF.cons (by decide) (by decide) WF.nil
      have v2 : val ((List.replicate 1 (0 : Int)).set 0 1) = 1 := rfl
      have rd := Round_ev h (a := digs n) (WF.digs _) wfo (by omega) (by simp) (by rw [v2]; decide) (e := e) (by omega) 0 (signR near (ps W a) A B)
      rw [val_digs, v2, if_neg c0] at rd
      have eq1 : rA n e (em - (P : Int) + 1) = plV P K * 1 := by
        unfold rA
        rw [Nat.mul_one, hK, hn, hc, he, show em - (P : Int) + 1 + ((min q t : Nat) : Int) - (em - (P : Int) + 1) = ((min q t : Nat) : Int) by omega, p2_nat]
      have eq2 : rB 1 e (em - (P : Int) + 1) = 1 := by unfold rB; rw [p2_neg (by omega)]
      rw [eq1, eq2, rnOut_rep (W := W) (by omega) (by decide) k2 0 _] at rd
      refine Ev.neg (bF (by omega)) (Ev.bind (Ev.of fun k => vernierref05_Whole_eq k _ _ _) (Ev.bind rd (Ev.some _)))
  have j4 : ∀ (n o : Nat) (neg : Bool), n = leftR near A B → o = oftenR near A B → (n ≠ 0 → neg = signR near (ps W a) A B) → (n = 0 → signR near (ps W a) A B = ps W a) → (digs o).length ≤ 1000 → Ev (fun k => vernierref11_remainder.j4 k f (a : Int) e neg (digs o) (digs n)) (((K + sgB (signR near (ps W a) A B) W : Nat) : Int), (((oftenR near A B % 8 : Nat) : Int), ((0 : Int), (0 : Int)))) := by
    intro n o neg hn ho h2 h3' lo
    refine Ev.congr (fun k => vernierref11_remainder.j4_eq k _ _ _ _ _ _) ?_
    obtain ⟨x, x1, x2, x3⟩ := low_word o (by omega)
    by_cases c0 : o = 0
    · have hz : ((oftenR near A B % 8 : Nat) : Int) = 0 := by rw [← ho, c0]; rfl
      rw [hz]
      refine Ev.neg (dF ?_) (j5 n neg hn (fun _ => rfl) h2 h3' 0)
      rw [c0, digs_zero]; simp
    · have hp := digs_len_pos.2 c0
      refine Ev.pos (dT (by omega)) (Ev.pos ⟨by decide, by omega⟩ ?_)
      rw [x2, low3 x1, x3, ho]
      exact j5 n neg hn (fun _ => rfl) h2 h3' _
  have j3 : Ev (fun k => vernierref11_remainder.j3 k f (a : Int) e (ps W a) (upR near A B) (digs B) (digs (A / B)) (digs (A % B))) (((K + sgB (signR near (ps W a) A B) W : Nat) : Int), (((oftenR near A B % 8 : Nat) : Int), ((0 : Int), (0 : Int)))) := by
    refine Ev.congr (fun k => vernierref11_remainder.j3_eq k _ _ _ _ _ _ _ _) ?_
    by_cases cu : upR near A B = true
    · have ad := rAdd_ev (a := digs (A / B)) (b := (List.replicate 1 (0 : Int)).set 0 1) (WF.digs _) (WF.cons (by decide) (by decide) WF.nil) (by unfold Lb; omega) (by unfold Lb; simp) (by rw [val_digs]; omega) (by
        show (digs 1).length ≤ 17592186044400
        have := one_len; omega)
      rw [val_digs, show val ((List.replicate 1 (0 : Int)).set 0 1) = 1 from rfl] at ad
      have sb := rSub_ev (a := digs B) (b := digs (A % B)) (WF.digs _) (WF.digs _) (by unfold Lb; omega) (by unfold Lb; omega) (by rw [val_digs, val_digs]; omega)
      rw [val_digs, val_digs] at sb
      refine Ev.pos cu (Ev.bind ad (Ev.bind sb (j4 (B - A % B) (A / B + 1) (!ps W a) (by unfold leftR; rw [if_pos cu]) (by unfold oftenR; rw [if_pos cu]) (fun hz => ?_) (fun hz => ?_) ?_)))
      · unfold signR
        have hl : leftR near A B = B - A % B := by unfold leftR; rw [if_pos cu]
        rw [hl, if_neg hz, if_pos cu]
      · unfold signR
        have hl : leftR near A B = B - A % B := by unfold leftR; rw [if_pos cu]
        rw [hl, if_pos hz]
      · have := small_len (y := 1) lQ (by decide) (by decide); omega
    · refine Ev.neg cu (j4 (A % B) (A / B) (ps W a) (by unfold leftR; rw [if_neg cu]) (by unfold oftenR; rw [if_neg cu]) (fun _ => ?_) (fun _ => ?_) (by omega))
      · unfold signR; rw [if_neg cu]; split <;> rfl
      · unfold signR; rw [if_neg cu]; split <;> rfl
  refine Ev.congr (fun k => vernierref11_remainder.j2_eq k _ _ _ _ _ _ _ _) ?_
  rw [w1, w2]
  refine Ev.bind up1 (Ev.bind up2 (Ev.bind dv (Ev.bind sg (Ev.bind up3 (Ev.bind cm ?_)))))
  rw [es]
  cases near with
  | false =>
    refine Ev.neg (by simp) ?_
    have : upR false A B = false := rfl
    rw [this] at j3
    exact j3
  | true =>
    refine Ev.pos rfl ?_
    by_cases c1 : B < 2 * (A % B)
    · have : upR true A B = true := by unfold upR; simp [c1]
      rw [this] at j3
      exact Ev.pos (dT (cmpN_pos.2 c1)) j3
    · refine Ev.neg (dF fun g => c1 (cmpN_pos.1 g)) ?_
      by_cases c2 : 2 * (A % B) = B
      · refine Ev.pos (bT (by rw [c2]; unfold cmpN; rw [if_neg (by omega), if_neg (by omega)])) (Ev.bind bitE ?_)
        have : upR true A B = (((A / B % 2 : Nat) : Int) == 1) := by
          unfold upR
          have e1 : decide (B < 2 * (A % B)) = false := decide_eq_false c1
          rw [e1, decide_eq_true c2]
          by_cases c3 : A / B % 2 = 1
          · rw [decide_eq_true c3, c3]; rfl
          · rw [decide_eq_false c3, beq_eq_false_iff_ne.2 (by omega)]; rfl
        rw [this] at j3
        exact j3
      · have : upR true A B = false := by unfold upR; simp [c1, c2]
        rw [this] at j3
        refine Ev.neg (bF ?_) j3
        unfold cmpN
        by_cases c3 : 2 * (A % B) < B
        · rw [if_pos c3]; decide
        · omega
/-- The reference's remainder of two numbers. -/
theorem rrem_nums {a b : Nat} (ha : a < 2 ^ W) (hb : b < 2 ^ W) (near : Bool) (g1 : pk W a ≠ 0 ∧ pk W a < infP W P) (g2 : pk W b ≠ 0 ∧ pk W b < infP W P) {N M q t : Nat} (n1 : N < 18446744073709551616) (n3 : q ≤ 2047) (n4 : N * 2 ^ q = plV P (pk W a)) (m1' : M < 18446744073709551616) (m2 : M ≠ 0) (m3 : t ≤ 2047) (m4 : M * 2 ^ t = plV P (pk W b)) {e : Int} (he : e = em - (P : Int) + 1 + ((min q t : Nat) : Int)) :
    Ev (fun k => vernierref11_remainder.j2 k f (a : Int) near (N : Int) ((q : Int) + (em - (P : Int) + 1)) (M : Int) ((t : Int) + (em - (P : Int) + 1)) e) (remF W P near (ps W a) (pk W a) (pk W b)) := by
  obtain ⟨k1, k2⟩ := remK_ok h near g1 g2
  obtain ⟨A, hA⟩ : ∃ A, A = N * 2 ^ (q - min q t) := ⟨_, rfl⟩
  obtain ⟨B, hB⟩ : ∃ B, B = M * 2 ^ (t - min q t) := ⟨_, rfl⟩
  obtain ⟨c, hc⟩ : ∃ c, c = 2 ^ min q t := ⟨_, rfl⟩
  have hc0 : 0 < c := by rw [hc]; exact Nat.two_pow_pos _
  have eA : plV P (pk W a) = A * c := by rw [← n4, hA, hc, Nat.mul_assoc, ← Nat.pow_add]; congr 2; omega
  have eB : plV P (pk W b) = B * c := by rw [← m4, hB, hc, Nat.mul_assoc, ← Nat.pow_add]; congr 2; omega
  have hsg : signR near (ps W a) (plV P (pk W a)) (plV P (pk W b)) = signR near (ps W a) A B := by
    unfold signR
    rw [eA, eB, leftR_scale near A hc0, upR_scale near A hc0]
    by_cases z : leftR near A B = 0
    · rw [z, Nat.zero_mul]
    · rw [if_neg z, if_neg (Nat.mul_ne_zero z (by omega))]
  have hK : plV P (remK P near (pk W a) (pk W b)) = leftR near A B * c := by rw [k1, eA, eB, leftR_scale near A hc0]
  have fin := rrem_core h ha near n1 n3 m1' m2 m3 he hA hB hc k2 hK 0
  unfold remF
  rw [hsg, eA, eB, oftenR_scale near A hc0]
  exact fin
/-- A number of a pattern, as the reference has it. -/
theorem rnum_ex {x : Nat} (hx : x < 2 ^ W) : ∃ N q : Nat, N < 18446744073709551616 ∧ q ≤ 2047 ∧ N * 2 ^ q = plV P (pk W x) ∧ ∀ k, vernierref04_Number k f (x : Int) = some ((N : Int), (q : Int) + (em - (P : Int) + 1)) := by
  have h8 := h.p8; have h11 := h.wp11
  have hv := plV_pat (P := P) (by omega) (pk W x)
  have hF := Nat.mod_lt (pk W x) (Nat.two_pow_pos (P - 1))
  have hn := fN_lt h (E := pk W x / 2 ^ (P - 1)) hF
  have hE2 : 2 ^ (W - P) ≤ 2 ^ 11 := pow_mono2 (by omega)
  obtain ⟨f1, f2, f3⟩ := field_top h hx
  refine ⟨_, _, hn, ?_, hv, rnum_at h hx⟩
  unfold fQ; split <;> omega
theorem rnum_ne {N q p : Nat} (h1 : N * 2 ^ q = plV P p) (hp : p ≠ 0) : N ≠ 0 := by
  have h8 := h.p8
  intro e
  rw [e, Nat.zero_mul] at h1
  exact hp ((plV_zero (P := P) (by omega)).1 h1.symm)
/-- Of a zero. -/
theorem rrem_zero {a b : Nat} (ha : a < 2 ^ W) (hb : b < 2 ^ W) (near : Bool) (g1 : pk W a = 0) (g2 : pk W b ≠ 0 ∧ pk W b < infP W P) :
    Ev (fun k => ((vernierref04_Number k f (a : Int))).bind fun o11 => ((vernierref04_Number k f (b : Int))).bind fun o12 => (if decide (o12.2 < o11.2) then vernierref11_remainder.j2 k f (a : Int) near o11.1 o11.2 o12.1 o12.2 o12.2 else vernierref11_remainder.j2 k f (a : Int) near o11.1 o11.2 o12.1 o12.2 o11.2)) ((a : Int), ((0 : Int), ((0 : Int), (0 : Int)))) := by
  have h8 := h.p8
  obtain ⟨p1, p2, p3, p4, p5, p6⟩ := pat_parts h ha
  obtain ⟨N, q, n1, n3, n4, n5⟩ := rnum_ex h ha
  obtain ⟨M, t, m1', m3, m4, m5⟩ := rnum_ex h hb
  have m2 := rnum_ne h m4 g2.1
  have hz : plV P 0 = 0 := (plV_zero (P := P) (by omega)).2 rfl
  have n0 : N = 0 := by
    rw [g1, hz] at n4
    rcases Nat.mul_eq_zero.1 n4 with e | e
    · exact e
    · have := Nat.two_pow_pos q; omega
  have i1 : 0 < infP W P := by omega
  have hB0 : 0 < M * 2 ^ (t - min q t) := Nat.mul_pos (by omega) (Nat.two_pow_pos _)
  have u0 : upR near (N * 2 ^ (q - min q t)) (M * 2 ^ (t - min q t)) = false := by
    rw [n0, Nat.zero_mul]; unfold upR
    rw [Nat.zero_mod, decide_eq_false (by omega), decide_eq_false (by omega)]; simp
  have l0 : leftR near (N * 2 ^ (q - min q t)) (M * 2 ^ (t - min q t)) = 0 := by
    unfold leftR; rw [if_neg (by rw [u0]; simp), n0, Nat.zero_mul, Nat.zero_mod]
  have o0 : oftenR near (N * 2 ^ (q - min q t)) (M * 2 ^ (t - min q t)) = 0 := by
    unfold oftenR; rw [if_neg (by rw [u0]; simp), n0, Nat.zero_mul, Nat.zero_div]
  have s0 : signR near (ps W a) (N * 2 ^ (q - min q t)) (M * 2 ^ (t - min q t)) = ps W a := by unfold signR; rw [if_pos l0]
  have fin := fun {e : Int} (he : e = em - (P : Int) + 1 + ((min q t : Nat) : Int)) => rrem_core h ha near n1 n3 m1' m2 m3 he rfl rfl rfl (K := 0) i1 (by rw [l0, Nat.zero_mul, hz]) 0
  have ea : (((0 + sgB (ps W a) W : Nat) : Int), (((0 % 8 : Nat) : Int), ((0 : Int), (0 : Int)))) = ((a : Int), ((0 : Int), ((0 : Int), (0 : Int)))) := by
    rw [g1] at p4
    rw [← p4]; rfl
  rw [s0, o0, ea] at fin
  refine Ev.bind (Ev.of n5) (Ev.bind (Ev.of m5) ?_)
  by_cases c : (t : Int) + (em - (P : Int) + 1) < (q : Int) + (em - (P : Int) + 1)
  · exact Ev.pos (dT c) (fin (by omega))
  · exact Ev.neg (dF c) (fin (by omega))
/-- The reference's remainder of two patterns. -/
theorem rrem_at {a b : Nat} (ha : a < 2 ^ W) (hb : b < 2 ^ W) (near : Bool) :
    Ev (fun k => vernierref11_remainder k f (a : Int) (b : Int) near) (spZ (clsOf W P (pk W a) (ps W a)) (clsOf W P (pk W b) (ps W b)) (a : Int) ((infP W P + 2 ^ (P - 2) : Nat) : Int) (remF W P near (ps W a) (pk W a) (pk W b))) := by
  have h8 := h.p8; have h53 := h.p53; have m0 := h.m0; have m1 := h.m1; have h11 := h.wp11
  have i1 : 0 < infP W P := Nat.mul_pos (by have := (eTop_le h).2; omega) (Nat.two_pow_pos _)
  obtain ⟨p1, p2, p3, p4, p5, p6⟩ := pat_parts h ha
  obtain ⟨q1, q2, q3, q4, q5, q6⟩ := pat_parts h hb
  have ca := rchk_ev h p6
  have cb := rchk_ev h q6
  rw [if_pos ha] at ca
  rw [if_pos hb] at cb
  have j2 : pk W a ≠ 0 ∧ pk W a < infP W P → pk W b ≠ 0 ∧ pk W b < infP W P → Ev (fun k => ((vernierref04_Number k f (a : Int))).bind fun o11 => ((vernierref04_Number k f (b : Int))).bind fun o12 => (if decide (o12.2 < o11.2) then vernierref11_remainder.j2 k f (a : Int) near o11.1 o11.2 o12.1 o12.2 o12.2 else vernierref11_remainder.j2 k f (a : Int) near o11.1 o11.2 o12.1 o12.2 o11.2)) (remF W P near (ps W a) (pk W a) (pk W b)) := fun g1 g2 => by
    obtain ⟨N, q, n1, n3, n4, n5⟩ := rnum_ex h ha
    obtain ⟨M, t, m1', m3, m4, m5⟩ := rnum_ex h hb
    have m2 := rnum_ne h m4 g2.1
    refine Ev.bind (Ev.of n5) (Ev.bind (Ev.of m5) ?_)
    by_cases c : (t : Int) + (em - (P : Int) + 1) < (q : Int) + (em - (P : Int) + 1)
    · exact Ev.pos (dT c) (rrem_nums h ha hb near g1 g2 n1 n3 n4 m1' m2 m3 m4 (by omega))
    · exact Ev.neg (dF c) (rrem_nums h ha hb near g1 g2 n1 n3 n4 m1' m2 m3 m4 (by omega))
  refine Ev.congr (fun k => vernierref11_remainder_eq k _ _ _ _) (Ev.bind ca (Ev.neg (nF rfl) (Ev.bind cb (Ev.neg (nF rfl) (Ev.congr (fun k => vernierref11_remainder.j0_eq k _ _ _ _) ?_)))))
  have na := risnan_at h ha; have nb := risnan_at h hb
  have sa := rsig_at h ha; have sb := rsig_at h hb
  have ia := risinf_at h ha; have ib := risinf_at h hb
  have zb := riszero_at h hb
  have nn := rnan_at h
  obtain ⟨c, b1, b2, b3, b4, e0, e1, e2, e3, e4, hc⟩ := cls10 (W := W) (P := P) (p := pk W a) (neg := ps W a) i1
  obtain ⟨d, d1, d2, d3, d4, f0, f1, f2, f3, f4, hd⟩ := cls10 (W := W) (P := P) (p := pk W b) (neg := ps W b) i1
  -- a zero on the left
  have zl : pk W a = 0 → (pk W b ≠ 0 ∧ pk W b < infP W P) → Ev (fun k => ((vernierref04_Number k f (a : Int))).bind fun o11 => ((vernierref04_Number k f (b : Int))).bind fun o12 => (if decide (o12.2 < o11.2) then vernierref11_remainder.j2 k f (a : Int) near o11.1 o11.2 o12.1 o12.2 o12.2 else vernierref11_remainder.j2 k f (a : Int) near o11.1 o11.2 o12.1 o12.2 o11.2)) ((a : Int), ((0 : Int), ((0 : Int), (0 : Int)))) := rrem_zero h ha hb near
  rw [e1] at na; rw [e2] at sa; rw [e3] at ia
  rw [f1] at nb; rw [f2] at sb; rw [f3] at ib; rw [f4] at zb
  rw [e0, f0]
  have kz : b4 = true → pk W a = 0 := fun g => by rw [g] at e4; exact of_decide_eq_true e4
  clear e0 e1 e2 e3 e4 f0 f1 f2 f3 f4 ca cb
  generalize remF W P near (ps W a) (pk W a) (pk W b) = r at *
  generalize pk W a = p at *
  generalize pk W b = q at *
  rcases hc with ⟨rfl, rfl, rfl, rfl, rfl⟩ | ⟨rfl, rfl, rfl, rfl, rfl⟩ | ⟨rfl, rfl, rfl, rfl, rfl⟩ | ⟨rfl, rfl, rfl, rfl, rfl⟩ | ⟨rfl, rfl, rfl, rfl, rfl⟩ | ⟨rfl, rfl, rfl, rfl, rfl⟩ | ⟨rfl, rfl, rfl, rfl, rfl, g1⟩ | ⟨rfl, rfl, rfl, rfl, rfl, g1⟩ | ⟨rfl, rfl, rfl, rfl, rfl, g1⟩ | ⟨rfl, rfl, rfl, rfl, rfl, g1⟩ <;>
    rcases hd with ⟨rfl, rfl, rfl, rfl, rfl⟩ | ⟨rfl, rfl, rfl, rfl, rfl⟩ | ⟨rfl, rfl, rfl, rfl, rfl⟩ | ⟨rfl, rfl, rfl, rfl, rfl⟩ | ⟨rfl, rfl, rfl, rfl, rfl⟩ | ⟨rfl, rfl, rfl, rfl, rfl⟩ | ⟨rfl, rfl, rfl, rfl, rfl, g2⟩ | ⟨rfl, rfl, rfl, rfl, rfl, g2⟩ | ⟨rfl, rfl, rfl, rfl, rfl, g2⟩ | ⟨rfl, rfl, rfl, rfl, rfl, g2⟩ <;>
    first
    | (refine Ev.congr (fun k => ?_) (j2 g1 g2); simp [vernierref08_NaNs_eq, vernierref11_remainder.j1_eq, na, nb, sa, sb, ia, ib, zb, nn]; done)
    | (refine Ev.congr (fun k => ?_) (zl (kz rfl) g2); simp [vernierref08_NaNs_eq, vernierref11_remainder.j1_eq, na, nb, sa, sb, ia, ib, zb, nn]; done)
    | (refine Ev.of fun k => ?_; simp [vernierref08_NaNs_eq, vernierref11_remainder.j1_eq, na, nb, sa, sb, ia, ib, zb, nn, spZ]; done)
end
/-- One remainder: the program and the reference. -/
theorem both_rem (f : Int) {a b : Nat} (ha : a < 18446744073709551616) (hb : b < 18446744073709551616) (near : Bool) : ∃ r, Ev (fun k => rem_remainder k f (a : Int) (b : Int) near) r ∧ Ev (fun k => vernierref11_remainder k f (a : Int) (b : Int) near) r := by
  by_cases hf : 0 ≤ f ∧ f < 4
  case neg =>
    have ck : ∀ x : Int, Ev (fun k => vernierref04_Check k f x) 2 := fun x => Ev.congr (fun k => vernierref04_Check_eq k _ _) (Ev.bind (row_bad hf) (Ev.pos rfl (Ev.some _)))
    exact ⟨(0, (0, (0, 2))), rem_bad_f hf _ _ near, Ev.congr (fun k => vernierref11_remainder_eq k _ _ _ _) (Ev.bind (ck _) (Ev.pos (nT (by decide)) (Ev.bind (row_bad hf) (Ev.pos rfl (Ev.some _)))))⟩
  obtain ⟨W, P, em, ex, h⟩ := fm_of hf.1 hf.2
  by_cases c : a < 2 ^ W ∧ b < 2 ^ W
  · exact ⟨_, rem_at h c.1 c.2 near, rrem_at h c.1 c.2 near⟩
  · refine ⟨(0, (0, (0, 4))), rem_bad_b h ha hb c near, ?_⟩
    have ca := rchk_ev h ha
    have cb := rchk_ev h hb
    have rw1 := Ev.of fun k => row_at h k
    refine Ev.congr (fun k => vernierref11_remainder_eq k _ _ _ _) (Ev.bind ca ?_)
    by_cases c1 : a < 2 ^ W
    · rw [if_neg (fun g => c ⟨c1, g⟩)] at cb
      rw [if_pos c1]
      exact Ev.neg (nF rfl) (Ev.bind cb (Ev.pos (nT (by decide)) (Ev.bind rw1 (Ev.neg (notF rfl) (Ev.some _)))))
    · rw [if_neg c1]
      exact Ev.pos (nT (by decide)) (Ev.bind rw1 (Ev.neg (notF rfl) (Ev.some _)))
namespace Pure
abbrev RTwo := Int × (Int × Int)
abbrev RTwoTy2 : Ty := .pair (.int .i64) (.pair (.int .u64) (.int .u64))
theorem all11_l0 {l : List RTwo} (hl : l.length ≤ 17592186044416) (H : ∀ o ∈ l, (0 ≤ o.2.1 ∧ o.2.1 < 18446744073709551616) ∧ (0 ≤ o.2.2 ∧ o.2.2 < 18446744073709551616)) (n : Nat) : ∀ i : Nat, i + n = l.length → Ev2 (fun k m => vernierlaw11_RemAll.l0 k m l (l.length : Int) (i : Int)) true := by
  induction n with
  | zero =>
    intro i hi
    exact Ev2.step (fun k m => vernierlaw11_RemAll.l0_eq k m _ _ _) (Ev2.neg (dF (by omega)) (Ev2.some _))
  | succ n ih =>
    intro i hi
    refine Ev2.step (fun k m => vernierlaw11_RemAll.l0_eq k m _ _ _) ?_
    rw [Int.toNat_natCast]
    have hmem : l.getD i (0, (0, 0)) ∈ l := by rw [List.getD_eq_getElem?_getD, List.getElem?_eq_getElem (show i < l.length by omega)]; exact List.getElem_mem _
    have Ho := H _ hmem
    generalize l.getD i (0, (0, 0)) = o at *
    obtain ⟨f, a, b⟩ := o
    obtain ⟨Ha, Hb⟩ := Ho
    obtain ⟨x, rfl⟩ := Int.eq_ofNat_of_zero_le Ha.1
    obtain ⟨y, rfl⟩ := Int.eq_ofNat_of_zero_le Hb.1
    have hx : x < 18446744073709551616 := by have := Ha.2; simp only at this; omega
    have hy : y < 18446744073709551616 := by have := Hb.2; simp only at this; omega
    obtain ⟨r, r1, r2⟩ := both_rem f hx hy true
    obtain ⟨s, s1, s2⟩ := both_rem f hx hy false
    have r1' := Remainder_ev r1
    have s1' := Mod_ev s1
    have r2' : Ev (fun k => vernierref11_Remainder k f (x : Int) (y : Int)) r := Ev.congr (fun k => vernierref11_Remainder_eq k _ _ _) (Ev.bind r2 (Ev.some _))
    have s2' : Ev (fun k => vernierref11_Mod k f (x : Int) (y : Int)) s := Ev.congr (fun k => vernierref11_Mod_eq k _ _ _) (Ev.bind s2 (Ev.some _))
    refine Ev2.pos (dT (by omega)) (Ev2.pos ⟨by omega, by omega⟩ (Ev2.call r1' (Ev2.call r2' (Ev2.neg (nF rfl) (Ev2.neg (nF rfl) (Ev2.neg (nF rfl) (Ev2.neg (nF rfl) ?_)))))))
    refine Ev2.congr (fun k m => vernierlaw11_RemAll.j1_eq k m _ _ _ _ _ _) (Ev2.call s1' (Ev2.call s2' (Ev2.neg (nF rfl) (Ev2.neg (nF rfl) (Ev2.neg (nF rfl) (Ev2.neg (nF rfl) ?_))))))
    rw [succ_i i (by omega)]
    exact ih (i + 1) (by omega)
/-- For all scripts: true. -/
theorem RemAll (l : List RTwo) (w : WFt (.sl RTwoTy2) l) : Ev (fun k => vernierlaw11_RemAll k l) true := by
  obtain ⟨h1, h2⟩ := w
  have hl : l.length ≤ 17592186044416 := by simp only [minB, IntKind.bits] at h1; omega
  exact Ev.congr (fun k => vernierlaw11_RemAll_eq k _) (Ev.bind awake11_ev (Ev.neg (notF rfl) (all11_l0 hl (fun o ho => ⟨wf_u64 (h2 o ho).2.1, wf_u64 (h2 o ho).2.2⟩) l.length 0 (by omega)).ev))
end Pure
end Go.Proofs.YtkcnbnilekfhdaaDoor.X
