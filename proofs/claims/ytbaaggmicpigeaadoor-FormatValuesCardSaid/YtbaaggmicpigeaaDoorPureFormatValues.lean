/- Plain law: FormatValues answers true. Conditions: what the reading says of the arguments. -/
import Derived.Test.YtbaaggmicpigeaaDoorRfH
namespace Go.Proofs.YtbaaggmicpigeaaDoor.X
open Go Go.Rex
set_option linter.unusedVariables false

theorem fixed_at (k : Nat) : vernierlaw04_fixed k = some true := by kernel_rfl
theorem digs1 {v : Nat} (h0 : v ≠ 0) (h : v < 18446744073709551616) : digs v = [(v : Int)] := by
  rw [digs_pos h0, Nat.mod_eq_of_lt h, Nat.div_eq_of_lt h, digs_zero]
theorem odd_parts {n : Nat} (h : n ≠ 0) : oddN n ≠ 0 ∧ oddN n ≤ n := by
  obtain ⟨m, hm⟩ := tz_spec h
  have e : oddN n = 2 * m + 1 := by
    unfold oddN
    conv => lhs; rw [hm]
    rw [tz_eq, Nat.mul_div_cancel_left _ (Nat.two_pow_pos _)]
  refine ⟨by omega, ?_⟩
  unfold oddN
  exact Nat.div_le_self _ _
theorem row_bad' {f : Int} (hf : ¬ (0 ≤ f ∧ f < 4)) : Ev (fun k => vernierref04_Row k f) ((0 : Int), ((0 : Int), ((0 : Int), ((0 : Int), false)))) :=
  Ev.of fun k => by
    rw [vernierref04_Row_eq, if_neg (bF (by omega)), if_neg (bF (by omega)), if_neg (bF (by omega)), if_neg (bF (by omega))]
/-- What the law asks of a value and the document's. -/
def Alike2 (f a : Int) : Prop := ∃ (neg : Bool) (N : Nat) (q e : Int), N < 18446744073709551616 ∧ (N ≠ 0 → e = 0) ∧ Ev (fun k => format_Value k f a) (neg, (digs N, (q, e))) ∧ Ev (fun k => vernierref04_Value k f a) (neg, ((N : Int), (q, e)))
theorem digs0 : digs 0 = [] := digs_zero
theorem vbad {f a : Int} (hf : ¬ (0 ≤ f ∧ f < 4)) : Alike2 f a := by
  refine ⟨false, 0, 0, 2, by decide, fun h => absurd rfl h, ?_, ?_⟩
  · rw [digs0]
    have pb : Ev (fun k => format_Params k f) ((0 : Int), ((0 : Int), ((0 : Int), ((0 : Int), (2 : Int))))) := by
      refine Ev.congr (fun k => format_Params_eq k _) ?_
      by_cases c1 : f < 0
      · exact Ev.pos (dT c1) (Ev.some _)
      · exact Ev.neg (dF c1) (Ev.pos (dT (by omega)) (Ev.some _))
    have cb : Ev (fun k => format_Check k f a) 2 := Ev.congr (fun k => format_Check_eq k _ _) (Ev.bind pb (Ev.pos (nT (by decide)) (Ev.some _)))
    exact Ev.congr (fun k => format_Value_eq k _ _) (Ev.bind cb (Ev.pos (nT (by decide)) (Ev.some _)))
  · have cb : Ev (fun k => vernierref04_Check k f a) 2 := Ev.congr (fun k => vernierref04_Check_eq k _ _) (Ev.bind (row_bad' hf) (Ev.pos rfl (Ev.some _)))
    exact Ev.congr (fun k => vernierref04_Value_eq k _ _) (Ev.bind cb (Ev.pos (nT (by decide)) (Ev.some _)))
section
variable {f : Int} {W P : Nat} {em ex : Int} (h : Fm f W P em ex)
include h
/-- The document's own way to the odd part. -/
theorem rodd_l1 {a : Nat} (ha : a < 2 ^ W) (z : Nat) : ∀ (x : Nat) (q : Int), x ≠ 0 → x < 18446744073709551616 → tz x = z → -100000 ≤ q → q + (z : Int) ≤ 100000 →
    Ev2 (fun k m => vernierref04_Value.l1 k m f (a : Int) (x : Int) q) (ps W a, ((oddN x : Int), (q + (z : Int), (0 : Int)))) := by
  induction z with
  | zero =>
    intro x q h0 hx hz h1 h2
    refine Ev2.step (fun k m => vernierref04_Value.l1_eq k m _ _ _ _) ?_
    have hodd : x % 2 = 1 := by
      unfold tz at hz
      rw [if_neg h0] at hz
      split at hz
      · assumption
      · omega
    have e : ((x : Int).tmod 2 == 0) = false := by rw [show (2 : Int) = ((2 : Nat) : Int) from rfl, tmod_nat, hodd]; rfl
    refine Ev2.neg (by rw [e]; decide) (Ev2.call (Ev.of fun k => rsg_at h ha k) (Ev2.eq (Ev2.some _) ?_))
    have eo : oddN x = x := by unfold oddN; rw [hz, Nat.pow_zero, Nat.div_one]
    rw [eo, Int.natCast_zero, Int.add_zero]
    cases ps W a <;> rfl
  | succ z ih =>
    intro x q h0 hx hz h1 h2
    refine Ev2.step (fun k m => vernierref04_Value.l1_eq k m _ _ _ _) ?_
    have hev : x % 2 = 0 ∧ tz (x / 2) = z := by
      unfold tz at hz
      rw [if_neg h0] at hz
      split at hz
      · omega
      · exact ⟨by omega, by omega⟩
    have e : ((x : Int).tmod 2 == 0) = true := by rw [show (2 : Int) = ((2 : Nat) : Int) from rfl, tmod_nat, hev.1]; rfl
    refine Ev2.pos e ?_
    have e1 : IntKind.u64.wrap ((x : Int).tdiv 2) = ((x / 2 : Nat) : Int) := by
      rw [show (2 : Int) = ((2 : Nat) : Int) from rfl, tdiv_nat, wrapUn (by omega)]
    have e2 : IntKind.i64.wrap (q + 1) = q + 1 := wrapI (by omega) (by omega)
    rw [e1, e2]
    have := ih (x / 2) (q + 1) (by omega) (by omega) hev.2 (by omega) (by omega)
    have eo : oddN (x / 2) = oddN x := by
      unfold oddN
      rw [hev.2, hz, Nat.div_div_eq_div_mul, Nat.pow_succ, Nat.mul_comm]
    rw [eo, show q + 1 + (z : Int) = q + ((z + 1 : Nat) : Int) by omega] at this
    exact this
theorem vgood {a : Nat} (ha0 : a < 18446744073709551616) : Alike2 f (a : Int) := by
  have h8 := h.p8; have h53 := h.p53; have m0 := h.m0; have m1 := h.m1; have wp11 := h.wp11
  by_cases ha : a < 2 ^ W
  · obtain ⟨p1, p2, p3, p4, p5, p6⟩ := pat_parts h ha
    obtain ⟨v1, v2, v3⟩ := value_pk h ha
    have rck : Ev (fun k => vernierref04_Check k f (a : Int)) 0 := by
      have := (Ev.of fun k => rcheck_at h k a ha0)
      rwa [if_pos ha] at this
    have nan := risnan_at h ha
    have inf := risinf_at h ha
    by_cases c : infP W P ≤ pk W a
    · refine ⟨false, 0, 0, 40, by decide, fun h => absurd rfl h, by rw [digs0]; exact Ev.of (v1 c), ?_⟩
      refine Ev.congr (fun k => vernierref04_Value_eq k _ _) (Ev.bind rck (Ev.neg (nF rfl) (Ev.bind (Ev.of nan) ?_)))
      by_cases c2 : infP W P < pk W a
      · exact Ev.pos (decide_eq_true c2) (Ev.some _)
      · exact Ev.neg (by rw [decide_eq_false c2]; decide) (Ev.bind (Ev.of inf) (Ev.pos (decide_eq_true (by omega)) (Ev.some _)))
    · have go : ∀ r, Ev (fun k => vernierref04_Value.j0 k f (a : Int)) r → Ev (fun k => vernierref04_Value k f (a : Int)) r := fun r hr =>
        Ev.congr (fun k => vernierref04_Value_eq k _ _) (Ev.bind rck (Ev.neg (nF rfl) (Ev.bind (Ev.of nan) (Ev.neg (by rw [decide_eq_false (by omega)]; decide) (Ev.bind (Ev.of inf) (Ev.neg (by rw [decide_eq_false (by omega)]; decide) hr))))))
      have num := rnum_at h ha
      have hv := plV_pat (P := P) (by omega) (pk W a)
      by_cases c0 : pk W a = 0
      · refine ⟨false, 0, 0, 0, by decide, fun h => absurd rfl h, by rw [digs0]; exact Ev.of (v2 c0), go _ (Ev.congr (fun k => vernierref04_Value.j0_eq k _ _) (Ev.bind (Ev.of num) (Ev.pos ?_ (Ev.some _))))⟩
        have : fN P (pk W a / 2 ^ (P - 1)) (pk W a % 2 ^ (P - 1)) = 0 := by
          rw [c0, Nat.zero_div, Nat.zero_mod]; rfl
        rw [this]; rfl
      · have hV : plV P (pk W a) ≠ 0 := fun e => c0 ((plV_zero (P := P) (by omega)).1 e)
        have hN0 : fN P (pk W a / 2 ^ (P - 1)) (pk W a % 2 ^ (P - 1)) ≠ 0 := fun e => hV (by rw [← hv, e, Nat.zero_mul])
        have hNl : fN P (pk W a / 2 ^ (P - 1)) (pk W a % 2 ^ (P - 1)) < 2 ^ P := by
          have := Nat.mod_lt (pk W a) (Nat.two_pow_pos (P - 1))
          have := pow_half (P := P) (by omega)
          unfold fN; split <;> omega
        have h53' : 2 ^ P ≤ 2 ^ 53 := pow_mono2 h53
        have e53 : (2 : Nat) ^ 53 = 9007199254740992 := rfl
        have hq : fQ (pk W a / 2 ^ (P - 1)) < 2 ^ 11 := by
          obtain ⟨_, f2, _⟩ := field_top h ha
          have : 2 ^ (W - P) ≤ 2 ^ 11 := pow_mono2 (by omega)
          unfold fQ; split <;> omega
        obtain ⟨t1, t2⟩ := tz_mul_pow hN0 (fQ (pk W a / 2 ^ (P - 1)))
        rw [hv] at t1 t2
        have hz : tz (fN P (pk W a / 2 ^ (P - 1)) (pk W a % 2 ^ (P - 1))) < 64 := by
          have := tz_blen hN0
          have := blen_le_iff.2 hNl
          omega
        generalize fN P (pk W a / 2 ^ (P - 1)) (pk W a % 2 ^ (P - 1)) = N at *
        generalize fQ (pk W a / 2 ^ (P - 1)) = Q at *
        have o := odd_parts hN0
        have e11 : (2 : Nat) ^ 11 = 2048 := rfl
        refine ⟨ps W a, oddN N, em - (P : Int) + 1 + (Q : Int) + (tz N : Int), 0, by omega, fun _ => rfl, ?_, go _ (Ev.congr (fun k => vernierref04_Value.j0_eq k _ _) (Ev.bind (Ev.of num) (Ev.neg (bF (by omega)) ?_)))⟩
        · have := v3 c0 (by omega)
          rw [t1, t2] at this
          rw [show em - (P : Int) + 1 + (Q : Int) + (tz N : Int) = em - (P : Int) + 1 + ((tz N + Q : Nat) : Int) by omega]
          exact Ev.of this
        · have := (rodd_l1 h ha (tz N) N ((Q : Int) + (em - (P : Int) + 1)) hN0 (by omega) rfl (by omega) (by omega)).ev
          rw [show em - (P : Int) + 1 + (Q : Int) + (tz N : Int) = (Q : Int) + (em - (P : Int) + 1) + (tz N : Int) by omega]
          exact this
  · refine ⟨false, 0, 0, 4, by decide, fun h => absurd rfl h, ?_, ?_⟩
    · rw [digs0]
      have := (Ev.of fun k => check_at h k a ha0)
      rw [if_neg ha] at this
      exact Ev.congr (fun k => format_Value_eq k _ _) (Ev.bind this (Ev.pos (nT (by decide)) (Ev.some _)))
    · have := (Ev.of fun k => rcheck_at h k a ha0)
      rw [if_neg ha] at this
      exact Ev.congr (fun k => vernierref04_Value_eq k _ _) (Ev.bind this (Ev.pos (nT (by decide)) (Ev.some _)))
end
namespace Pure
/-- For all formats and patterns: true. -/
theorem FormatValues (f a : Int) (wf : WFt (.int .i64) f) (wa : WFt (.int .u64) a) : Ev (fun k => vernierlaw04_FormatValues k f a) true := by
  obtain ⟨h2, h3⟩ := wf_u64 wa
  obtain ⟨a, rfl⟩ := Int.eq_ofNat_of_zero_le h2
  have al : Alike2 f (a : Int) := by
    by_cases c : 0 ≤ f ∧ f < 4
    · obtain ⟨W, P, em, ex, h⟩ := fm_of c.1 c.2
      exact vgood h (by omega)
    · exact vbad c
  obtain ⟨neg, N, q, e, hN, he, e1, e2⟩ := al
  refine Ev.congr (fun k => vernierlaw04_FormatValues_eq k _ _) (Ev.bind e1 (Ev.bind e2 (Ev.bind (Ev.of fixed_at) (Ev.neg (by decide) (Ev.neg (nF rfl) (Ev.neg (by simp) (Ev.neg (nF rfl) (Ev.congr (fun k => vernierlaw04_FormatValues.j0_eq k _ _ _ _ _ _) ?_))))))))
  by_cases c0 : N = 0
  · subst c0
    refine Ev.pos (bT rfl) (Ev.eq (Ev.some _) ?_)
    rw [digs0]; rfl
  · have e0 := he c0
    subst e0
    have fe : Ev (fun k => vernierlaw04_form k f (a : Int)) ([(N : Int)], 0) := by
      have := Ev.congr (fun k => vernierlaw04_form_eq k f (a : Int)) (Ev.bind e1 (Ev.some _))
      rwa [digs1 c0 hN] at this
    rw [digs1 c0 hN]
    refine Ev.neg (bF (show (N : Int) ≠ 0 by omega)) (Ev.neg (nF rfl) (Ev.pos ⟨by decide, by simp⟩ (Ev.neg (nF rfl) (Ev.congr (fun k => vernierlaw04_FormatValues.j1_eq k _ _ _ _ _ _) (Ev.bind fe ?_)))))
    refine Ev.pos ⟨by decide, by simp⟩ (Ev.pos (capOk_of (by simp)) (Ev.pos (capOk_of (by simp)) (Ev.bind fe ?_)))
    exact Ev.pos (bT rfl) (Ev.pos (bT rfl) (Ev.pos (bT rfl) (Ev.pos ⟨by decide, by simp⟩ (Ev.pos (bT rfl) (Ev.pos (bT rfl) (Ev.pos ⟨by decide, by simp⟩ (Ev.pos (bT rfl) (Ev.pos ⟨by decide, by simp⟩ (Ev.pos (bT rfl) (Ev.pos ⟨by decide, by simp⟩ (Ev.pos (bT rfl) (Ev.pos ⟨by decide, by simp⟩ (Ev.pos (bT rfl) (Ev.pos ⟨by decide, by simp⟩ (Ev.eq (Ev.some _) (bT rfl))))))))))))))))
end Pure
end Go.Proofs.YtbaaggmicpigeaaDoor.X
