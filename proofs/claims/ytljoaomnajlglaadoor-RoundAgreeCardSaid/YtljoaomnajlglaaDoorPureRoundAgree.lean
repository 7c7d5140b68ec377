/- Plain law: RoundAgree answers true. Conditions: what the reading says of the arguments. -/
import Derived.Test.YtljoaomnajlglaaDoorFreA
import Derived.Test.YtljoaomnajlglaaDoorFitE
namespace Go.Proofs.YtljoaomnajlglaaDoor.X
open Go Go.Rex
set_option linter.unusedVariables false

theorem one_word {x : Nat} (h0 : x ≠ 0) (h : x < 18446744073709551616) : ((List.replicate 1 (0 : Int)).set 0 (x : Int)) = digs x := by
  rw [digs_pos h0]
  have : x / 18446744073709551616 = 0 := Nat.div_eq_of_lt h
  rw [this, digs_zero, Nat.mod_eq_of_lt h]; rfl
/-- Is a word a multiple of 2^j? -/
theorem mod_tz {n : Nat} (h : n ≠ 0) (j : Nat) : n % 2 ^ j = 0 ↔ j ≤ tz n := by
  obtain ⟨m, hm⟩ := tz_spec h
  constructor
  · intro g
    refine Nat.le_of_not_lt fun c => ?_
    have d1 : 2 ^ (tz n + 1) ∣ n := Nat.dvd_trans (Nat.pow_dvd_pow 2 c) (Nat.dvd_of_mod_eq_zero g)
    obtain ⟨y, hy⟩ := d1
    rw [Nat.pow_succ, Nat.mul_assoc] at hy
    have : 2 ^ tz n * (2 * m + 1) = 2 ^ tz n * (2 * y) := by rw [← hm, ← hy]
    have := Nat.eq_of_mul_eq_mul_left (Nat.two_pow_pos _) this
    omega
  · intro g
    refine Nat.mod_eq_zero_of_dvd (Nat.dvd_trans (Nat.pow_dvd_pow 2 g) ⟨2 * m + 1, hm⟩)
theorem q_zero {n : Nat} (h : n ≠ 0) (e q : Int) : lftN (qA n e false q) (qB e false q) = 0 ↔ q ≤ e + (tz n : Int) := by
  rw [lftN_zero]
  unfold qA qB nuN nuD p2
  rw [if_neg (by decide), if_neg (by decide), Nat.one_mul]
  by_cases c : q ≤ e
  · rw [show (q - e).toNat = 0 by omega, Nat.pow_zero, Nat.mod_one]
    exact iff_of_true rfl (by omega)
  · rw [show (e - q).toNat = 0 by omega, Nat.pow_zero, Nat.mul_one, mod_tz h]
    omega
theorem p2_up {V sig : Nat} {e l b : Int} (h1 : b ≤ e) (h2 : b ≤ l) (h : sig * p2 (e - l) = V * p2 (l - e)) : sig * 2 ^ (e - b).toNat = V * 2 ^ (l - b).toNat := by
  unfold p2 at h
  by_cases c : l ≤ e
  · rw [show (l - e).toNat = 0 by omega, Nat.pow_zero, Nat.mul_one] at h
    rw [← h, Nat.mul_assoc, ← Nat.pow_add]; congr 2; omega
  · rw [show (e - l).toNat = 0 by omega, Nat.pow_zero, Nat.mul_one] at h
    rw [h, Nat.mul_assoc, ← Nat.pow_add]; congr 2; omega
section
variable {f : Int} {W P : Nat} {em ex : Int} (h : Fm f W P em ex)
include h
omit h in
/-- Two exact numbers of one sign and one value. -/
theorem cmp_same {n k : Nat} {g q b : Int} (hn : (digs n).length ≤ 1000) (hk : (digs k).length ≤ 1000) (hg : -40000 ≤ g ∧ g ≤ 40000) (hq : -40000 ≤ q ∧ q ≤ 40000) (h1 : b ≤ g) (h2 : b ≤ q) (h3 : -200000 ≤ b) (hv : n * 2 ^ (g - b).toNat = k * 2 ^ (q - b).toNat) (s : Bool) : Ev (fun z => vernierlaw05_cmp z s (digs n) g s (digs k) q) 0 := by
  have c := DCmp_ev (n := n) (m := k) (e := g) (f := q) ⟨hn, hg.1, hg.2⟩ ⟨hk, hq.1, hq.2⟩ s s b h1 h2 h3
  rw [hv] at c
  have z : sgn (sg s (k * 2 ^ (q - b).toNat) + sg (!s) (k * 2 ^ (q - b).toNat)) = 0 := by
    generalize k * 2 ^ (q - b).toNat = x
    unfold sgn sg
    cases s <;> simp <;> omega
  rw [z] at c
  exact Ev.congr (fun z => vernierlaw05_cmp_eq z _ _ _ _ _ _) (Ev.bind c (Ev.some _))
/-- The rounding without bounds is the one in the format, where that is normal and no flag but Inexact is raised. -/
theorem free_agree {sig : Nat} (hs : sig ≠ 0) (h64 : sig < 18446744073709551616) {e : Int} (he : -8000 ≤ e ∧ e ≤ 8000) {m : Int} (hm : Md m) (neg : Bool)
    (hr : rnd P m neg (rA sig e (em - (P : Int) + 1)) (rB 1 e (em - (P : Int) + 1)) < infP W P) (hn : 2 ^ (P - 1) ≤ rnd P m neg (rA sig e (em - (P : Int) + 1)) (rB 1 e (em - (P : Int) + 1)))
    (hfl : (rnOut W P m neg (rA sig e (em - (P : Int) + 1)) (rB 1 e (em - (P : Int) + 1))).2 ≠ 24) :
    ∃ (n : Nat) (g : Int) (b : Bool), Ev (fun k => round_Free k m (P : Int) neg (digs sig) e) (neg, (digs n, (g, (b, (0 : Int))))) ∧ (digs n).length ≤ 1000 ∧ (-30000 ≤ g ∧ g ≤ 40000) ∧
      n * 2 ^ (g - -30000).toNat = plV P (rnd P m neg (rA sig e (em - (P : Int) + 1)) (rB 1 e (em - (P : Int) + 1))) * 2 ^ (em - (P : Int) + 1 - -30000).toNat ∧
      b = ((rnOut W P m neg (rA sig e (em - (P : Int) + 1)) (rB 1 e (em - (P : Int) + 1))).2 == 16) := by
  have h8 := h.p8; have h53 := h.p53; have m0 := h.m0; have m1 := h.m1
  have hl : (digs sig).length ≤ 1 := digs_length_lt.2 (by rw [Nat.pow_one]; exact h64)
  have hb := blen_len hl
  have htz := tz_blen hs
  have hmm : 0 ≤ m ∧ m ≤ 5 := ⟨hm.m0, hm.m5⟩
  have hBp : 0 < rB 1 e (em - (P : Int) + 1) := rB_pos (by decide) _ _
  have eA : qA sig e false (em - (P : Int) + 1) = rA sig e (em - (P : Int) + 1) := rfl
  have eB : qB e false (em - (P : Int) + 1) = rB 1 e (em - (P : Int) + 1) := rfl
  have hsf := shf_q (more := false) (e := e) h hs
  rw [eA, eB] at hsf
  have h2P := pow_half (P := P) (by omega)
  have hz := lftP_zero (P := P) (A := rA sig e (em - (P : Int) + 1)) (by omega) hBp
  -- below the least normal number: a quarter of it at least
  have low : e + (blen sig : Int) - 1 < em → rA sig e (em - (P : Int) + 1) < rB 1 e (em - (P : Int) + 1) * 2 ^ (P - 1) := fun c => by
    have hbq := blen_q hs e false (em - (P : Int) + 1)
    rw [eA, eB] at hbq
    have : rA sig e (em - (P : Int) + 1) / rB 1 e (em - (P : Int) + 1) < 2 ^ (P - 1) := blen_le_iff.1 (by rw [hbq]; omega)
    exact (Nat.div_lt_iff_lt_mul hBp).1 this |> fun g => by rw [Nat.mul_comm]; exact g
  have lowl : e + (blen sig : Int) - 1 < em → lftP P (rA sig e (em - (P : Int) + 1)) (rB 1 e (em - (P : Int) + 1)) ≠ 0 := fun c z => by
    have e1 := hz.1 z
    have e2 := rnd_flr (P := P) (by omega) m neg (rA sig e (em - (P : Int) + 1)) (rB 1 e (em - (P : Int) + 1))
    rw [z, chs_zero] at e2
    rw [← e2] at e1
    have e3 := low c
    have e4 := (plV_le (P := P) (by omega)).2 hn
    have e5 : plV P (2 ^ (P - 1)) = 2 ^ (P - 1) := by unfold plV; rw [if_pos (by have := Nat.two_pow_pos (P - 1); omega)]
    rw [e5] at e4
    have := Nat.mul_le_mul_right (rB 1 e (em - (P : Int) + 1)) e4
    rw [Nat.mul_comm] at e3
    omega
  have lowt : e + (blen sig : Int) - 1 < em → 2 ^ P ≤ cutN m neg (2 * rA sig e (em - (P : Int) + 1)) (rB 1 e (em - (P : Int) + 1)) := fun c => by
    refine Nat.le_of_not_lt fun g => hfl ?_
    unfold rnOut tinyB
    rw [if_neg (by omega), if_neg (lowl c), decide_eq_true (low c), decide_eq_true g]
    rfl
  -- twice the number, one place lower
  have dbl : ∀ s : Bool, cutN m s (qA sig e false (em - (P : Int))) (qB e false (em - (P : Int))) = cutN m s (2 * rA sig e (em - (P : Int) + 1)) (rB 1 e (em - (P : Int) + 1)) ∧ lftN (qA sig e false (em - (P : Int))) (qB e false (em - (P : Int))) = lftN (2 * rA sig e (em - (P : Int) + 1)) (rB 1 e (em - (P : Int) + 1)) := fun s => by
    have c := q_cross sig e false (q := em - (P : Int) + 1) (l := em - (P : Int)) (by omega)
    rw [show em - (P : Int) + 1 - (em - (P : Int)) = ((1 : Nat) : Int) by omega, p2_nat, Nat.pow_one, eA, eB] at c
    have cc : qA sig e false (em - (P : Int)) * rB 1 e (em - (P : Int) + 1) = 2 * rA sig e (em - (P : Int) + 1) * qB e false (em - (P : Int)) := by rw [← c]; grind
    exact ⟨cutN_cross m s (qB_pos _ _ _) hBp cc, lftN_cross (qB_pos _ _ _) hBp cc⟩
  have dblq : 2 * rA sig e (em - (P : Int) + 1) / rB 1 e (em - (P : Int) + 1) = qA sig e false (em - (P : Int)) / qB e false (em - (P : Int)) := by
    have c := q_cross sig e false (q := em - (P : Int) + 1) (l := em - (P : Int)) (by omega)
    rw [show em - (P : Int) + 1 - (em - (P : Int)) = ((1 : Nat) : Int) by omega, p2_nat, Nat.pow_one, eA, eB] at c
    exact div_cross hBp (qB_pos _ _ _) (by rw [← c]; grind)
  have lowe : e + (blen sig : Int) - 1 < em → e + (blen sig : Int) - 1 = em - 1 := fun c => by
    refine Int.le_antisymm (by omega) (Int.not_lt.1 fun g => ?_)
    have hbq := blen_q hs e false (em - (P : Int))
    have h1 : qA sig e false (em - (P : Int)) / qB e false (em - (P : Int)) < 2 ^ (P - 1) := blen_le_iff.1 (by rw [hbq]; omega)
    have h2 := lowt c
    have h3 : cutN m neg (2 * rA sig e (em - (P : Int) + 1)) (rB 1 e (em - (P : Int) + 1)) ≤ 2 * rA sig e (em - (P : Int) + 1) / rB 1 e (em - (P : Int) + 1) + 1 := chs_le _ _ _ _
    have := Nat.two_pow_pos (P - 1)
    rw [dblq] at h3
    omega
  by_cases hq : e + (blen sig : Int) - 1 - (P : Int) + 1 ≤ e + (tz sig : Int)
  · -- exact
    have hex : lftP P (rA sig e (em - (P : Int) + 1)) (rB 1 e (em - (P : Int) + 1)) = 0 := by
      by_cases c : e + (blen sig : Int) - 1 < em
      · exfalso
        have c2 := lowe c
        have h2 := lowt c
        have hbq := blen_q hs e false (em - (P : Int))
        have h1 : qA sig e false (em - (P : Int)) / qB e false (em - (P : Int)) < 2 ^ P := blen_le_iff.1 (by rw [hbq]; omega)
        have z := (q_zero hs e (em - (P : Int))).2 (by omega)
        rw [(dbl neg).2] at z
        unfold cutN at h2
        unfold lftN at z
        rw [z, chs_zero, dblq] at h2
        omega
      · obtain ⟨s, hs'⟩ : ∃ s : Nat, e + (blen sig : Int) - 1 - em = (s : Int) := ⟨(e + (blen sig : Int) - 1 - em).toNat, by omega⟩
        have e1 : shf P (rA sig e (em - (P : Int) + 1)) (rB 1 e (em - (P : Int) + 1)) = s := by omega
        have z := (q_zero hs e (em - (P : Int) + 1 + (s : Int))).2 (by omega)
        rw [(cut_at sig e false em P s m neg).2, eA, eB] at z
        unfold lftP
        rw [e1]; exact z
    have e1 := hz.1 hex
    have e2 := rnd_flr (P := P) (by omega) m neg (rA sig e (em - (P : Int) + 1)) (rB 1 e (em - (P : Int) + 1))
    rw [hex, chs_zero] at e2
    rw [← e2] at e1
    have fl0 : (rnOut W P m neg (rA sig e (em - (P : Int) + 1)) (rB 1 e (em - (P : Int) + 1))).2 = 0 := by unfold rnOut; rw [if_neg (by omega), if_pos hex]
    refine ⟨oddN sig, e + (tz sig : Int), false, Free_few hs h64 he (by omega) (by omega) hmm neg hq, Nat.le_trans (digs_len_mono (oddN_le _)) (by omega), by omega, ?_, by rw [fl0]; rfl⟩
    have e3 : sig * p2 (e - (em - (P : Int) + 1)) = plV P (rnd P m neg (rA sig e (em - (P : Int) + 1)) (rB 1 e (em - (P : Int) + 1))) * p2 (em - (P : Int) + 1 - e) := by
      generalize rnd P m neg (rA sig e (em - (P : Int) + 1)) (rB 1 e (em - (P : Int) + 1)) = K at *
      unfold rA rB at e1
      rw [Nat.one_mul] at e1
      exact e1
    have e4 := p2_up (b := -30000) (by omega) (by omega) e3
    rw [← e4, show (e + (tz sig : Int) - -30000).toNat = tz sig + (e - -30000).toNat by omega, Nat.pow_add, ← Nat.mul_assoc, oddN_mul hs]
  · -- cut
    obtain ⟨hU0, fr⟩ := Free_cut (P := P) hs h64 he (by omega) (by omega) hmm neg (by omega) (U := _) rfl
    have hne : lftP P (rA sig e (em - (P : Int) + 1)) (rB 1 e (em - (P : Int) + 1)) ≠ 0 := by
      by_cases c : e + (blen sig : Int) - 1 < em
      · exact lowl c
      · obtain ⟨s, hs'⟩ : ∃ s : Nat, e + (blen sig : Int) - 1 - em = (s : Int) := ⟨(e + (blen sig : Int) - 1 - em).toNat, by omega⟩
        have e1 : shf P (rA sig e (em - (P : Int) + 1)) (rB 1 e (em - (P : Int) + 1)) = s := by omega
        intro z
        unfold lftP at z
        rw [e1, ← eA, ← eB, ← (cut_at sig e false em P s m neg).2] at z
        have := (q_zero hs e (em - (P : Int) + 1 + (s : Int))).1 z
        omega
    have fl16 : (rnOut W P m neg (rA sig e (em - (P : Int) + 1)) (rB 1 e (em - (P : Int) + 1))).2 = 16 := by
      unfold rnOut at hfl ⊢
      rw [if_neg (by omega), if_neg hne] at hfl ⊢
      by_cases c : tinyB P m neg (rA sig e (em - (P : Int) + 1)) (rB 1 e (em - (P : Int) + 1)) = true
      · rw [if_pos c] at hfl; exact absurd rfl hfl
      · rw [if_neg c]
    generalize hUd : cutN m neg (qA sig e false (e + (blen sig : Int) - 1 - (P : Int) + 1)) (qB e false (e + (blen sig : Int) - 1 - (P : Int) + 1)) = U at *
    -- what it is in the format's places
    have val : U ≤ 2 ^ P ∧ U * 2 ^ (e + (blen sig : Int) - 1 - (P : Int) + 1 - -30000).toNat = plV P (rnd P m neg (rA sig e (em - (P : Int) + 1)) (rB 1 e (em - (P : Int) + 1))) * 2 ^ (em - (P : Int) + 1 - -30000).toNat := by
      by_cases c : e + (blen sig : Int) - 1 < em
      · have c2 := lowe c
        have h2 := lowt c
        rw [show e + (blen sig : Int) - 1 - (P : Int) + 1 = em - (P : Int) by omega] at hUd ⊢
        rw [(dbl neg).1] at hUd
        have hbq := blen_q hs e false (em - (P : Int))
        have h1 : qA sig e false (em - (P : Int)) / qB e false (em - (P : Int)) < 2 ^ P := blen_le_iff.1 (by rw [hbq]; omega)
        have h3 : cutN m neg (2 * rA sig e (em - (P : Int) + 1)) (rB 1 e (em - (P : Int) + 1)) ≤ 2 * rA sig e (em - (P : Int) + 1) / rB 1 e (em - (P : Int) + 1) + 1 := chs_le _ _ _ _
        rw [dblq] at h3
        have hU : U = 2 ^ P := by omega
        -- its place is the least normal one
        have hK : rnd P m neg (rA sig e (em - (P : Int) + 1)) (rB 1 e (em - (P : Int) + 1)) ≤ 2 ^ (P - 1) := by
          have mm := rnd_mono (P := P) (by omega) hBp hBp m neg (A := rA sig e (em - (P : Int) + 1)) (A' := plV P (2 ^ (P - 1)) * rB 1 e (em - (P : Int) + 1)) (Nat.mul_le_mul_right _ (by
            have e5 : plV P (2 ^ (P - 1)) = 2 ^ (P - 1) := by unfold plV; rw [if_pos (by have := Nat.two_pow_pos (P - 1); omega)]
            rw [e5, Nat.mul_comm]
            exact Nat.le_of_lt (low c)))
          rwa [(rnd_exact (P := P) (by omega) hBp m neg).1] at mm
        have e5 : plV P (2 ^ (P - 1)) = 2 ^ (P - 1) := by unfold plV; rw [if_pos (by have := Nat.two_pow_pos (P - 1); omega)]
        rw [Nat.le_antisymm hK hn, e5, hU]
        refine ⟨Nat.le_refl _, ?_⟩
        rw [h2P, show (em - (P : Int) + 1 - -30000).toNat = (em - (P : Int) - -30000).toNat + 1 by omega, Nat.pow_succ]
        grind
      · obtain ⟨s, hs'⟩ : ∃ s : Nat, e + (blen sig : Int) - 1 - em = (s : Int) := ⟨(e + (blen sig : Int) - 1 - em).toNat, by omega⟩
        have e1 : shf P (rA sig e (em - (P : Int) + 1)) (rB 1 e (em - (P : Int) + 1)) = s := by omega
        rw [show e + (blen sig : Int) - 1 - (P : Int) + 1 = em - (P : Int) + 1 + (s : Int) by omega] at hUd ⊢
        rw [(cut_at sig e false em P s m neg).1, eA, eB] at hUd
        obtain ⟨f1, f2⟩ := cut_facts (P := P) (A := rA sig e (em - (P : Int) + 1)) (by omega) hBp m neg
        rw [e1, hUd] at f1 f2
        refine ⟨f1, ?_⟩
        have e6 : rnd P m neg (rA sig e (em - (P : Int) + 1)) (rB 1 e (em - (P : Int) + 1)) = s * 2 ^ (P - 1) + U := by unfold rnd; rw [e1, hUd]
        rw [e6, plV_at (by omega) f2 f1, Nat.mul_assoc, ← Nat.pow_add]
        congr 2; omega
    have hUP : U ≤ 2 ^ 53 := Nat.le_trans val.1 (pow_mono2 h53)
    have e53 : (2 : Nat) ^ 53 = 9007199254740992 := rfl
    have e2 : (18446744073709551616 : Nat) ^ 2 = 340282366920938463463374607431768211456 := by decide +kernel
    have hUl : (digs U).length ≤ 2 := digs_length_lt.2 (by rw [e2]; omega)
    have hUb := blen_len hUl
    have hUt := tz_blen hU0
    refine ⟨oddN U, (tz U : Int) + (e + (blen sig : Int) - 1 - (P : Int) + 1), true, fr, Nat.le_trans (digs_len_mono (oddN_le _)) (by omega), by omega, ?_, by rw [fl16]; rfl⟩
    rw [← val.2, show ((tz U : Int) + (e + (blen sig : Int) - 1 - (P : Int) + 1) - -30000).toNat = tz U + (e + (blen sig : Int) - 1 - (P : Int) + 1 - -30000).toNat by omega, Nat.pow_add, ← Nat.mul_assoc, oddN_mul hU0]
end
namespace Pure
abbrev SigsTy : Ty := .pair (.int .i64) (.pair (.int .i64) (.pair .bool (.pair (.int .u64) (.int .i64))))
theorem RoundAgree (t : Int × (Int × (Bool × (Int × Int)))) (w : WFt SigsTy t) : Ev (fun k => vernierlaw05_RoundAgree k t.1 t.2.1 t.2.2.1 t.2.2.2.1 t.2.2.2.2) true := by
  obtain ⟨w1, w2, w3, w4, w5⟩ := w
  obtain ⟨f, m, neg, sg', e⟩ := t
  have ha : 0 ≤ sg' ∧ sg' < 18446744073709551616 := wf_u64 w4
  clear w1 w2 w3 w4 w5
  obtain ⟨sig, rfl⟩ := Int.eq_ofNat_of_zero_le ha.1
  show Ev (fun k => vernierlaw05_RoundAgree k f m neg (sig : Int) e) true
  refine Ev.congr (fun k => vernierlaw05_RoundAgree_eq k _ _ _ _ _) (Ev.bind awake05_ev (Ev.neg (notF rfl) ?_))
  by_cases c1 : f < 0
  · exact Ev.pos (dT c1) (Ev.some _)
  refine Ev.neg (dF c1) ?_
  by_cases c2 : f > 3
  · exact Ev.pos (dT c2) (Ev.some _)
  refine Ev.neg (dF c2) ?_
  by_cases c3 : m < 0
  · exact Ev.pos (dT c3) (Ev.some _)
  refine Ev.neg (dF c3) ?_
  by_cases c4 : m > 5
  · exact Ev.pos (dT c4) (Ev.some _)
  refine Ev.neg (dF c4) ?_
  by_cases c5 : (sig : Int) = 0
  · exact Ev.pos (bT c5) (Ev.some _)
  refine Ev.neg (bF c5) ?_
  by_cases c6 : e < -8000
  · exact Ev.pos (dT c6) (Ev.some _)
  refine Ev.neg (dF c6) ?_
  by_cases c7 : e > 8000
  · exact Ev.pos (dT c7) (Ev.some _)
  refine Ev.neg (dF c7) ?_
  have hs : sig ≠ 0 := by omega
  have h64 : sig < 18446744073709551616 := by omega
  have hm : Md m := ⟨by omega, by omega⟩
  obtain ⟨W, P, em, ex, h⟩ := fm_of (f := f) (by omega) (by omega)
  have h8 := h.p8; have h53 := h.p53; have m0 := h.m0; have m1 := h.m1; have h3 := h.wp
  have hl : (digs sig).length ≤ 1 := digs_length_lt.2 (by rw [Nat.pow_one]; exact h64)
  have hl1 := one_len
  have hb := blen_len hl
  have htz := tz_blen hs
  have hip := infP_le h
  have hpp := Nat.two_pow_pos (P - 1)
  have hp2 := Nat.two_pow_pos (P - 2)
  -- the four ways
  have x1 := Exact_ev h hm (a := digs sig) (WF.digs _) e neg
  have x2 := Ratio_ev h hm (a := digs sig) (b := digs 1) (WF.digs _) (WF.digs _) (by unfold Lb; omega) (by unfold Lb; omega) e neg
  have x3 := Parts_ev h hm (hi := 0) (lo := sig) (by decide) h64 e neg false
  have x4 := Parts_ev h hm (hi := sig) (lo := 0) h64 (by decide) e neg true
  have x5 := Exact_ev h hm (a := [1, 0, (sig : Int)]) (WF.cons (by decide) (by decide) (WF.cons (by decide) (by decide) (WF.cons (by omega) (by omega) WF.nil))) (e - 64) neg
  rw [val_digs, val_digs] at x2
  have r1 : exR W P em m neg (digs sig) e = ((rnOut W P m neg (rA sig e (em - (P : Int) + 1)) (rB 1 e (em - (P : Int) + 1))).1, ((rnOut W P m neg (rA sig e (em - (P : Int) + 1)) (rB 1 e (em - (P : Int) + 1))).2, (0 : Int))) := by
    have hb0 : badE (digs sig) e = 0 := by unfold badE; rw [if_neg (by omega), if_neg (by omega)]
    unfold exR
    rw [hb0, val_digs, if_neg (by decide), if_neg hs, if_neg (by omega)]
  have r2 : raR W P em m neg sig 1 e = ((rnOut W P m neg (rA sig e (em - (P : Int) + 1)) (rB 1 e (em - (P : Int) + 1))).1, ((rnOut W P m neg (rA sig e (em - (P : Int) + 1)) (rB 1 e (em - (P : Int) + 1))).2, (0 : Int))) := by
    unfold raR
    rw [if_neg (by omega), if_neg (by omega), if_neg (by decide), if_neg hs]
  have r3 : paR W P em m neg (sig + 18446744073709551616 * 0) e false = ((rnOut W P m neg (rA sig e (em - (P : Int) + 1)) (rB 1 e (em - (P : Int) + 1))).1, ((rnOut W P m neg (rA sig e (em - (P : Int) + 1)) (rB 1 e (em - (P : Int) + 1))).2, (0 : Int))) := by
    unfold paR
    rw [Nat.mul_zero, Nat.add_zero, if_neg (by omega), if_neg (by simp), if_neg hs]
    rfl
  have hbn : blen (0 + 18446744073709551616 * sig) = blen sig + 64 := by
    rw [Nat.zero_add, Nat.mul_comm, show (18446744073709551616 : Nat) = 2 ^ 64 from rfl, blen_pow_mul hs]
  have hbp := blen_pos hs
  have hv5 : val [1, 0, (sig : Int)] = 1 + 18446744073709551616 * (18446744073709551616 * sig) := by
    show (1 : Int).toNat + 18446744073709551616 * ((0 : Int).toNat + 18446744073709551616 * ((sig : Int).toNat + 18446744073709551616 * 0)) = _
    rw [Int.toNat_natCast]; simp
  have r45 : ∃ b fl : Int, paR W P em m neg (0 + 18446744073709551616 * sig) e true = (b, (fl, (0 : Int))) ∧ exR W P em m neg [1, 0, (sig : Int)] (e - 64) = (b, (fl, (0 : Int))) := by
    refine ⟨(rnOut W P m neg (qA (18446744073709551616 * sig) e true (em - (P : Int) + 1)) (qB e true (em - (P : Int) + 1))).1, (rnOut W P m neg (qA (18446744073709551616 * sig) e true (em - (P : Int) + 1)) (qB e true (em - (P : Int) + 1))).2, ?_, ?_⟩
    · unfold paR
      rw [if_neg (by omega), if_neg (by rw [hbn]; omega), if_neg (by omega), Nat.zero_add]
    · have hb0 : badE [1, 0, (sig : Int)] (e - 64) = 0 := by unfold badE; rw [if_neg (by simp), if_neg (by omega)]
      unfold exR
      rw [hb0, hv5, if_neg (by decide), if_neg (by omega), tz_of_odd (by omega), if_neg (by omega)]
      have hB : (0 : Nat) < 18446744073709551616 := by decide
      have dv : (1 + 18446744073709551616 * (18446744073709551616 * sig)) / 18446744073709551616 = 18446744073709551616 * sig := by omega
      have st := rnOut_sticky W (P := P) (by omega) m neg (A := 1 + 18446744073709551616 * (18446744073709551616 * sig)) (B := 18446744073709551616) hB (by omega) (by rw [dv, ← Nat.zero_add (18446744073709551616 * sig), hbn]; omega) e (em - (P : Int) + 1)
      rw [dv] at st
      rw [← st]
      have cr := r_shift (A := 1 + 18446744073709551616 * (18446744073709551616 * sig)) (B := 18446744073709551616) (A' := 1 + 18446744073709551616 * (18446744073709551616 * sig)) (B' := 1) (e := e) (e' := e - 64) (em - (P : Int) + 1) 64 (by omega) (by rw [Nat.mul_one])
      rw [rnOut_cross W P m neg (rB_pos hB e (em - (P : Int) + 1)) (rB_pos (by decide) (e - 64) (em - (P : Int) + 1)) cr]
  obtain ⟨b45, f45, r4, r5⟩ := r45
  rw [r1] at x1
  rw [r2] at x2
  rw [r3] at x3
  rw [r4] at x4
  rw [r5] at x5
  have e1 : ((List.replicate 1 (0 : Int)).set 0 (sig : Int)) = digs sig := one_word hs h64
  refine Ev.congr (fun k => vernierlaw05_RoundAgree.j0_eq k _ _ _ _ _) (Ev.bind (Ev.of fun k => params_at h k) (Ev.neg (nF rfl) ?_))
  rw [e1, one_digs]
  refine Ev.bind x1 (Ev.bind x2 (Ev.bind x3 (Ev.neg (nF rfl) (Ev.neg (nF rfl) (Ev.neg (nF rfl) (Ev.neg (nF rfl) (Ev.neg (nF rfl) (Ev.neg (nF rfl) (Ev.neg (nF rfl) ?_)))))))))
  refine Ev.congr (fun k => vernierlaw05_RoundAgree.j1_eq k _ _ _ _ _ _ _ _ _ _ _ _ _ _) ?_
  rw [wrapI (x := e - 64) (by omega) (by omega)]
  refine Ev.bind x4 (Ev.bind x5 (Ev.neg (nF rfl) (Ev.neg (nF rfl) (Ev.neg (nF rfl) (Ev.neg (nF rfl) ?_)))))
  refine Ev.congr (fun k => vernierlaw05_RoundAgree.j2_eq k _ _ _ _ _ _ _ _ _ _ _) ?_
  dsimp only
  -- the rounding's place and flags
  have fa := flags_are W P m neg (rA sig e (em - (P : Int) + 1)) (rB 1 e (em - (P : Int) + 1))
  have kle := kOut_le W P m neg (rA sig e (em - (P : Int) + 1)) (rB 1 e (em - (P : Int) + 1))
  have fg := free_agree h hs h64 (e := e) ⟨by omega, by omega⟩ hm neg
  obtain ⟨q1, q2, q3⟩ := pk_at (W := W) (K := kOut W P m neg (rA sig e (em - (P : Int) + 1)) (rB 1 e (em - (P : Int) + 1))) (by omega) (by omega) neg
  obtain ⟨v1, v2, v3⟩ := value_pk h q3
  have cl := class_pk h q3
  rw [q1] at v1 v2 v3 cl
  rw [q2] at v3 cl
  rw [rnOut_bits]
  -- Free does not refuse
  have free : ∃ (n : List Int) (g : Int) (b : Bool), Ev (fun k => round_Free k m (P : Int) neg (digs sig) e) (neg, (n, (g, (b, (0 : Int))))) := by
    by_cases hq : e + (blen sig : Int) - 1 - (P : Int) + 1 ≤ e + (tz sig : Int)
    · exact ⟨_, _, _, Free_few (P := P) hs h64 ⟨by omega, by omega⟩ (by omega) (by omega) ⟨by omega, by omega⟩ neg hq⟩
    · exact ⟨_, _, _, (Free_cut (P := P) hs h64 ⟨by omega, by omega⟩ (by omega) (by omega) ⟨by omega, by omega⟩ neg (by omega) (U := _) rfl).2⟩
  by_cases ck : kOut W P m neg (rA sig e (em - (P : Int) + 1)) (rB 1 e (em - (P : Int) + 1)) < infP W P ∧ (rnOut W P m neg (rA sig e (em - (P : Int) + 1)) (rB 1 e (em - (P : Int) + 1))).2 ≠ 20 ∧ (rnOut W P m neg (rA sig e (em - (P : Int) + 1)) (rB 1 e (em - (P : Int) + 1))).2 ≠ 24 ∧ 2 ^ (P - 1) ≤ kOut W P m neg (rA sig e (em - (P : Int) + 1)) (rB 1 e (em - (P : Int) + 1))
  · obtain ⟨k1, k2, k3, k4⟩ := ck
    have hr : rnd P m neg (rA sig e (em - (P : Int) + 1)) (rB 1 e (em - (P : Int) + 1)) < infP W P := by
      refine Nat.lt_of_not_le fun g => k2 ?_
      unfold rnOut; rw [if_pos g]
    have hk : kOut W P m neg (rA sig e (em - (P : Int) + 1)) (rB 1 e (em - (P : Int) + 1)) = rnd P m neg (rA sig e (em - (P : Int) + 1)) (rB 1 e (em - (P : Int) + 1)) := by unfold kOut; rw [if_neg (by omega)]
    obtain ⟨n, g, b, g1, g2, g3, g4, g5⟩ := fg hr (by omega) k3
    rw [← hk] at g4
    generalize kOut W P m neg (rA sig e (em - (P : Int) + 1)) (rB 1 e (em - (P : Int) + 1)) = K at *
    generalize (rnOut W P m neg (rA sig e (em - (P : Int) + 1)) (rB 1 e (em - (P : Int) + 1))).2 = fl at *
    obtain ⟨u1, u2, u3, u4⟩ := plV_facts h (k := K) (by omega) (by omega)
    have hlK : (digs (oddN (plV P K))).length ≤ 1 := digs_length_lt.2 (by rw [Nat.pow_one]; exact u4)
    have hfl : fl = 0 ∨ fl = 16 := by
      rcases fa with ⟨q, -⟩ | q | ⟨q, -⟩ | q
      · exact absurd q k2
      · exact .inl q
      · exact absurd q k3
      · exact .inr q
    have hcls : clsOf W P K neg = 3 ∨ clsOf W P K neg = 8 := by
      unfold clsOf
      rw [if_neg (by omega), if_neg (by omega)]
      cases neg
      · rw [if_neg (by decide), if_neg (by omega), if_neg (by omega), if_neg (by omega)]; exact .inr rfl
      · rw [if_pos rfl, if_neg (by omega), if_neg (by omega), if_neg (by omega)]; exact .inl rfl
    have cmp := cmp_same (n := n) (k := oddN (plV P K)) (g := g) (q := em - (P : Int) + 1 + (tz (plV P K) : Int)) (b := -30000) g2 (by omega) (by omega) (by omega) g3.1 (by omega) (by omega) (by
      rw [g4, show (em - (P : Int) + 1 + (tz (plV P K) : Int) - -30000).toNat = tz (plV P K) + (em - (P : Int) + 1 - -30000).toNat by omega, Nat.pow_add, ← Nat.mul_assoc, oddN_mul u1]) neg
    have j4 : Ev (fun k => vernierlaw05_RoundAgree.j4 k fl b (digs n) neg g (digs (oddN (plV P K))) neg (em - (P : Int) + 1 + (tz (plV P K) : Int))) true := by
      refine Ev.congr (fun k => vernierlaw05_RoundAgree.j4_eq k _ _ _ _ _ _ _ _) (Ev.bind cmp (Ev.pos (bT rfl) (Ev.eq (Ev.some _) ?_)))
      rw [g5]; simp
    refine Ev.bind g1 (Ev.neg (nF rfl) (Ev.bind (Ev.of (v3 (by omega) k1)) (Ev.neg (nF rfl) (Ev.neg (nF ?_) (Ev.congr (fun k => vernierlaw05_RoundAgree.j3_eq k _ _ _ _ _ _ _ _ _ _) (Ev.bind (Ev.of cl) (Ev.neg (nF rfl) ?_)))))))
    · rcases hfl with rfl | rfl <;> decide
    · dsimp only
      rcases hcls with q | q
      · rw [q]; exact Ev.neg (nF rfl) j4
      · rw [q]; exact Ev.pos (nT (by decide)) (Ev.neg (nF rfl) j4)
  · obtain ⟨n, g, b, g1⟩ := free
    refine Ev.bind g1 (Ev.neg (nF rfl) ?_)
    generalize kOut W P m neg (rA sig e (em - (P : Int) + 1)) (rB 1 e (em - (P : Int) + 1)) = K at *
    by_cases k1 : K < infP W P
    · have val : ∃ vb vn ve, ∀ k, format_Value k f (((K + sgB neg W : Nat) : Int)) = some (vb, (vn, (ve, (0 : Int)))) := by
        by_cases k0 : K = 0
        · exact ⟨_, _, _, v2 k0⟩
        · exact ⟨_, _, _, v3 k0 k1⟩
      obtain ⟨vb, vn, ve, vv⟩ := val
      refine Ev.bind (Ev.of vv) (Ev.neg (nF rfl) ?_)
      by_cases cf : (rnOut W P m neg (rA sig e (em - (P : Int) + 1)) (rB 1 e (em - (P : Int) + 1))).2 = 20 ∨ (rnOut W P m neg (rA sig e (em - (P : Int) + 1)) (rB 1 e (em - (P : Int) + 1))).2 = 24
      · refine Ev.pos (nT ?_) (Ev.some _)
        rcases cf with q | q <;> rw [q] <;> decide
      · have hfl : (rnOut W P m neg (rA sig e (em - (P : Int) + 1)) (rB 1 e (em - (P : Int) + 1))).2 = 0 ∨ (rnOut W P m neg (rA sig e (em - (P : Int) + 1)) (rB 1 e (em - (P : Int) + 1))).2 = 16 := by
          rcases fa with ⟨q, -⟩ | q | ⟨q, -⟩ | q
          · exact absurd (.inl q) cf
          · exact .inl q
          · exact absurd (.inr q) cf
          · exact .inr q
        have hK : K < 2 ^ (P - 1) := by
          refine Nat.lt_of_not_le fun q => ck ⟨k1, ?_, ?_, q⟩
          · intro z; exact cf (.inl z)
          · intro z; exact cf (.inr z)
        have hcls : clsOf W P K neg ≠ 3 ∧ clsOf W P K neg ≠ 8 := by
          unfold clsOf
          rw [if_neg (by omega), if_neg (by omega)]
          by_cases k0 : K = 0
          · cases neg
            · rw [if_neg (by decide), if_neg (by omega), if_pos k0]; decide
            · rw [if_pos rfl, if_neg (by omega), if_pos k0]; decide
          · cases neg
            · rw [if_neg (by decide), if_neg (by omega), if_neg k0, if_pos hK]; decide
            · rw [if_pos rfl, if_neg (by omega), if_neg k0, if_pos hK]; decide
        refine Ev.neg (nF ?_) (Ev.congr (fun k => vernierlaw05_RoundAgree.j3_eq k _ _ _ _ _ _ _ _ _ _) (Ev.bind (Ev.of cl) (Ev.neg (nF rfl) (Ev.pos (nT hcls.1) (Ev.pos (nT hcls.2) (Ev.eq (Ev.some _) rfl))))))
        rcases hfl with q | q <;> rw [q] <;> decide
    · exact Ev.bind (Ev.of (v1 (by omega))) (Ev.pos (nT (by decide)) (Ev.some _))
end Pure
end Go.Proofs.YtljoaomnajlglaaDoor.X
