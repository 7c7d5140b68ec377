/- What a pattern's value is: the program's Value and the reference's. Conditions: the pattern is of the format. -/
import Derived.Test.YtjdmbhdlogbopaaDoorFormatC
import Derived.Test.YtjdmbhdlogbopaaDoorVx12
import Derived.Test.YtjdmbhdlogbopaaDoorVx13
import Derived.Test.YtjdmbhdlogbopaaDoorVx15
import Derived.Test.YtjdmbhdlogbopaaDoorVx16
import Derived.Test.YtjdmbhdlogbopaaDoorVx3
namespace Go.Proofs.YtjdmbhdlogbopaaDoor.V
open Go.RowKit Go.Proofs.YtjdmbhdlogbopaaDoorQ.PrintWords Go.Proofs.YtjdmbhdlogbopaaDoor.L
set_option linter.unusedVariables false

theorem tz_eq {n : Nat} (h : n < 18446744073709551616) : bits_TrailingZeros64.f (n : Int) = some ((Lib.ctz 64 n : Nat) : Int) := by
  unfold bits_TrailingZeros64.f
  rw [if_pos ⟨by omega⟩, Int.toNat_natCast]
theorem ctz_spec {n : Nat} (h0 : n ≠ 0) (h : n < 18446744073709551616) : ∃ m, n = 2 ^ Lib.ctz 64 n * (2 * m + 1) ∧ Lib.ctz 64 n < 64 := by
  unfold Lib.ctz
  rw [if_neg h0]
  exact Lib.ctzFrom_spec 64 n (by omega) h
theorem wsmall (x : Int) (a : -1000000 ≤ x) (b : x ≤ 1000000) : wrap64 x = x := wrap64_id (by omega) (by omega)
/-- A finite number's natural and exponent, by the fields. -/
def vN (P E F : Nat) : Nat := if E = 0 then F else F + 2 ^ (P - 1)
def vQ (P E : Nat) (emin : Int) : Int := ((if E = 0 then 1 else E : Nat) : Int) - 1 + emin - (P : Int) + 1
def valueOf (neg : Bool) (W P E F : Nat) (emin : Int) : Bool × List Int × Int × Int :=
  if E = 2 ^ (W - P) - 1 then (false, [], 0, 40) else if vN P E F = 0 then (false, [], 0, 0)
  else (neg, [((vN P E F / 2 ^ Lib.ctz 64 (vN P E F) : Nat) : Int)], vQ P E emin + ((Lib.ctz 64 (vN P E F) : Nat) : Int), 0)
def rvalueOf (neg : Bool) (W P E F : Nat) (emin : Int) : Bool × Int × Int × Int :=
  if E = 2 ^ (W - P) - 1 then (false, 0, 0, 40) else if vN P E F = 0 then (false, 0, 0, 0)
  else (neg, ((vN P E F / 2 ^ Lib.ctz 64 (vN P E F) : Nat) : Int), vQ P E emin + ((Lib.ctz 64 (vN P E F) : Nat) : Int), 0)
section
variable {f : Int} {W P : Nat} {emin emax : Int} (h : IsFmt f W P emin emax)
include h
theorem emin_bd : -1022 ≤ emin ∧ emin ≤ -14 := by
  have f0 := h.f0; have f4 := h.f4; have hr := h.row
  have h4 : f = 0 ∨ f = 1 ∨ f = 2 ∨ f = 3 := by omega
  have e := congrArg (fun o : Option (Int × Int × Int × Int × Bool) => (o.getD default).2.2.1) hr
  rcases h4 with rfl | rfl | rfl | rfl
  · have : (-14 : Int) = emin := e
    omega
  · have : (-126 : Int) = emin := e
    omega
  · have : (-126 : Int) = emin := e
    omega
  · have : (-1022 : Int) = emin := e
    omega
theorem vN_lt {E F : Nat} (hF : F < 2 ^ (P - 1)) : vN P E F < 18446744073709551616 := by
  have hwp := h.wp; have hw6 := h.w64; have hp := h.p8
  have ht : 2 ^ (P - 1 + 1) ≤ 2 ^ 64 := Nat.pow_le_pow_right (by decide) (by omega)
  rw [two_mul_pow] at ht
  unfold vN
  split <;> omega
theorem E_le {E : Nat} (hE : E < 2 ^ (W - P)) : E ≤ 2047 := by
  have := h.ones; have := h.e2
  omega
theorem value_eq (a : Nat) (ha : a < 18446744073709551616) (hw : a < 2 ^ W) :
    format_Value.f f (a : Int) = some (valueOf (decide (fS W a ≠ 0)) W P (fE W P a) (fF P a) emin) := by
  have hwp := h.wp; have hw6 := h.w64; have hp := h.p8
  obtain ⟨m0, m1⟩ := emin_bd h
  have ck := check_eq h a ha
  rw [if_pos hw] at ck
  unfold format_Value.f
  rw [ck]
  simp only [Option.bind_some, if_true]
  rw [h.at_]
  simp only [Option.bind_some]
  rw [split_eq h a ha]
  simp only [Option.bind_some]
  rw [onesWP h]
  simp only [Option.bind_some]
  obtain ⟨hE, hF⟩ := fields_le W P a
  have hE2 := E_le h hE
  have hn := vN_lt h (E := fE W P a) hF
  have s1 := shl_one (P - 1) (by omega)
  have ht : 2 ^ (P - 1 + 1) ≤ 2 ^ 64 := Nat.pow_le_pow_right (by decide) (by omega)
  rw [two_mul_pow] at ht
  have p1 := subP1 h
  have hor : Go.bits .or .u64 ((fF P a : Nat) : Int) ((2 ^ (P - 1) : Nat) : Int) = ((fF P a + 2 ^ (P - 1) : Nat) : Int) := or_add' _ _ (P - 1) hF (Nat.mod_self _) (by omega)
  have hq := Nat.two_pow_pos (P - 1)
  generalize fE W P a = E at *
  generalize fF P a = F at *
  unfold valueOf
  by_cases he : E = 2 ^ (W - P) - 1
  · rw [if_pos (by rw [he]), if_pos he]
  · rw [if_neg (fun hh => he (Int.ofNat_inj.1 hh)), if_neg he]
    by_cases h0 : E = 0
    · subst h0
      have hv : vN P 0 F = F := rfl
      rw [hv] at hn ⊢
      rw [if_pos (by rfl)]
      by_cases hF0 : F = 0
      · rw [if_pos (by rw [hF0]; rfl), if_pos hF0]
      · obtain ⟨m, -, hz⟩ := ctz_spec hF0 hn
        rw [if_neg (fun hh => hF0 (Int.natCast_eq_zero.1 hh)), if_neg hF0, tz_eq hn]
        simp only [Option.bind_some]
        rw [if_pos (Int.natCast_nonneg _), shr_nat F _ (by omega)]
        congr 4
        unfold vQ
        rw [if_pos rfl, wsmall 1 (by omega) (by omega), wsmall (1 - 1) (by omega) (by omega), wsmall (1 - 1 + emin) (by omega) (by omega), wsmall (1 - 1 + emin - (P : Int)) (by omega) (by omega), wsmall (1 - 1 + emin - (P : Int) + 1) (by omega) (by omega), wsmall _ (by omega) (by omega)]
        rfl
    · have hv : vN P E F = F + 2 ^ (P - 1) := if_neg h0
      rw [hv] at hn ⊢
      rw [if_neg (fun hh => h0 (Int.natCast_eq_zero.1 hh)), p1, if_pos (Int.natCast_nonneg _), s1, hor]
      have hF0 : F + 2 ^ (P - 1) ≠ 0 := by omega
      obtain ⟨m, -, hz⟩ := ctz_spec hF0 hn
      rw [if_neg (fun hh => hF0 (Int.natCast_eq_zero.1 hh)), if_neg hF0, tz_eq hn]
      simp only [Option.bind_some]
      rw [if_pos (Int.natCast_nonneg _), shr_nat _ _ (by omega)]
      congr 4
      unfold vQ
      rw [if_neg h0, wsmall (E : Int) (by omega) (by omega), wsmall ((E : Int) - 1) (by omega) (by omega), wsmall ((E : Int) - 1 + emin) (by omega) (by omega), wsmall ((E : Int) - 1 + emin - (P : Int)) (by omega) (by omega), wsmall ((E : Int) - 1 + emin - (P : Int) + 1) (by omega) (by omega), wsmall _ (by omega) (by omega)]
theorem rloop_ev (a : Nat) (ha : a < 18446744073709551616) (m : Nat) : ∀ (z : Nat) (q : Int), z ≤ 64 → 2 ^ z * (2 * m + 1) < 18446744073709551616 → -10000 ≤ q → q ≤ 10000 - 64 + (64 - z) →
    Ev (fun k => vernierref04_Value.l0 k f (a : Int) ((2 ^ z * (2 * m + 1) : Nat) : Int) q) (decide (fS W a % 2 = 1), ((2 * m + 1 : Nat) : Int), q + (z : Int), 0)
  | 0, q, _, hl, _, _ => by
    refine Ev.step (fun k => by rw [vernierref04_Value.l0]) ?_
    refine ev_neg ?_ ?_
    · rw [Nat.pow_zero, Nat.one_mul, Int.tmod_eq_emod_of_nonneg (by omega)]; omega
    refine ev_now (a := (((fS W a % 2 : Nat) : Int))) (by unfold vernierref04_Sign.f; rw [parts_eq h a ha]; rfl) (ev_some fun k => ?_)
    rw [Nat.pow_zero, Nat.one_mul]
    congr 2
    · by_cases hs : fS W a % 2 = 1
      · rw [hs]; rfl
      · rw [decide_eq_false hs, show fS W a % 2 = 0 by omega]; rfl
    · simp
  | z + 1, q, hz, hl, hq0, hq => by
    refine Ev.step (fun k => by rw [vernierref04_Value.l0]) ?_
    have e : 2 ^ (z + 1) * (2 * m + 1) = 2 * (2 ^ z * (2 * m + 1)) := by rw [two_mul_pow, Nat.mul_assoc]
    rw [e] at hl ⊢
    generalize hN : 2 ^ z * (2 * m + 1) = N at *
    refine ev_pos ?_ ?_
    · rw [Int.tmod_eq_emod_of_nonneg (by omega)]; omega
    have e1 : IntKind.u64.wrap (Int.tdiv ((2 * N : Nat) : Int) 2) = (N : Int) := by
      rw [Int.tdiv_eq_ediv_of_nonneg (by omega), show ((2 * N : Nat) : Int) / 2 = (N : Int) by omega, wrapu_nat (by omega)]
    rw [e1, wrap64_id (x := q + 1) (by omega) (by omega)]
    subst hN
    refine ev_r (rloop_ev a ha m z (q + 1) (by omega) (by omega) (by omega) (by omega)) ?_
    congr 3
    omega
theorem rinf_eq (a : Nat) (ha : a < 18446744073709551616) : vernierref04_IsInf.f f (a : Int) = some (decide (fE W P a = 2 ^ (W - P) - 1 ∧ fF P a = 0)) := by
  unfold vernierref04_IsInf.f
  rw [parts_eq h a ha]
  simp only [Option.bind_some]
  by_cases he : fE W P a = 2 ^ (W - P) - 1
  · rw [if_pos (by rw [he])]
    by_cases hF : fF P a = 0
    · rw [hF, decide_eq_true ⟨he, rfl⟩]; rfl
    · rw [decide_eq_false (fun hh => hF hh.2)]
      congr 1
      rw [beq_eq_false_iff_ne]
      exact fun hh => hF (Int.natCast_eq_zero.1 hh)
  · rw [if_neg (fun hh => he (Int.ofNat_inj.1 hh)), decide_eq_false (fun hh => he hh.1)]
theorem rnumber_eq (a : Nat) (ha : a < 18446744073709551616) : vernierref04_Number.f f (a : Int) = some (((vN P (fE W P a) (fF P a) : Nat) : Int), vQ P (fE W P a) emin) := by
  have hwp := h.wp; have hw6 := h.w64; have hp := h.p8
  obtain ⟨m0, m1⟩ := emin_bd h
  unfold vernierref04_Number.f
  rw [h.row]
  simp only [Option.bind_some]
  rw [parts_eq h a ha]
  simp only [Option.bind_some]
  obtain ⟨hE, hF⟩ := fields_le W P a
  have hE2 := E_le h hE
  have hn := vN_lt h (E := fE W P a) hF
  rw [subP1 h, wrapu_nat (n := P - 1) (by omega), shl_one (P - 1) (by omega)]
  generalize fE W P a = E at *
  generalize fF P a = F at *
  by_cases h0 : E = 0
  · subst h0
    rw [if_pos (by rfl)]
    congr 2
    unfold vQ
    rw [if_pos rfl, wsmall (emin - (P : Int)) (by omega) (by omega), wsmall _ (by omega) (by omega)]
    omega
  · have hv : vN P E F = F + 2 ^ (P - 1) := if_neg h0
    rw [hv] at hn
    rw [if_neg (fun hh => h0 (Int.natCast_eq_zero.1 hh)), if_pos (Int.natCast_nonneg _), hv]
    congr 2
    · rw [wrapu_id (by omega) (by omega)]; omega
    · unfold vQ
      rw [if_neg h0, wsmall (E : Int) (by omega) (by omega), wsmall ((E : Int) - 1) (by omega) (by omega), wsmall ((E : Int) - 1 + emin) (by omega) (by omega), wsmall ((E : Int) - 1 + emin - (P : Int)) (by omega) (by omega), wsmall _ (by omega) (by omega)]
theorem rvalue_ev (a : Nat) (ha : a < 18446744073709551616) (hw : a < 2 ^ W) :
    Ev (fun k => vernierref04_Value.f k f (a : Int)) (rvalueOf (decide (fS W a ≠ 0)) W P (fE W P a) (fF P a) emin) := by
  have hs := sign_le h a hw
  have ck := rcheck_eq h a ha
  rw [if_pos hw] at ck
  obtain ⟨m0, m1⟩ := emin_bd h
  have hwp := h.wp; have hw6 := h.w64; have hp := h.p8
  obtain ⟨hE, hF⟩ := fields_le W P a
  have hE2 := E_le h hE
  unfold vernierref04_Value.f
  refine ev_now ck ?_
  refine ev_pos rfl ?_
  refine ev_now (rnan_eq h a ha) ?_
  have hn := vN_lt h (E := fE W P a) hF
  have j0 : ∀ b : Bool, b = decide (fE W P a = 2 ^ (W - P) - 1) → Ev (fun k => vernierref04_Value.j0 k f (a : Int) b) (rvalueOf (decide (fS W a ≠ 0)) W P (fE W P a) (fF P a) emin) := by
    intro b hb
    refine Ev.step (fun k => by rw [vernierref04_Value.j0]) ?_
    unfold rvalueOf
    by_cases he : fE W P a = 2 ^ (W - P) - 1
    · rw [if_pos he]
      exact ev_pos (by rw [hb]; exact decide_eq_true he) (ev_some fun k => rfl)
    · rw [if_neg he]
      refine ev_neg (by rw [hb, decide_eq_true_eq]; exact he) ?_
      refine ev_now (rnumber_eq h a ha) ?_
      have hq : -10000 ≤ vQ P (fE W P a) emin ∧ vQ P (fE W P a) emin ≤ 9936 := by
        unfold vQ
        split <;> omega
      generalize vQ P (fE W P a) emin = q at *
      generalize vN P (fE W P a) (fF P a) = n at *
      by_cases h0 : n = 0
      · rw [if_pos h0]
        exact ev_pos (by rw [h0]; rfl) (ev_some fun k => rfl)
      · rw [if_neg h0]
        refine ev_neg (fun hh => h0 (Int.natCast_eq_zero.1 hh)) ?_
        obtain ⟨m, hm, hz⟩ := ctz_spec h0 hn
        generalize Lib.ctz 64 n = z at *
        have ed : n / 2 ^ z = 2 * m + 1 := by rw [hm, Nat.mul_div_cancel_left _ (Nat.two_pow_pos z)]
        rw [ed]
        have := rloop_ev h a ha m z q (by omega) (by omega) (by omega) (by omega)
        rw [← hm] at this
        refine ev_r this ?_
        congr 1
        by_cases hs0 : fS W a = 0
        · rw [hs0]; rfl
        · rw [show fS W a = 1 by omega]; rfl
  by_cases hF0 : fE W P a = 2 ^ (W - P) - 1 ∧ fF P a ≠ 0
  · refine ev_pos (decide_eq_true hF0) (j0 true (decide_eq_true hF0.1).symm)
  · refine ev_neg (by rw [decide_eq_true_eq]; exact hF0) ?_
    refine ev_now (rinf_eq h a ha) ?_
    refine j0 _ ?_
    by_cases he : fE W P a = 2 ^ (W - P) - 1
    · rw [decide_eq_true he, decide_eq_true]
      refine ⟨he, ?_⟩
      rcases Nat.eq_zero_or_pos (fF P a) with h' | h'
      · exact h'
      · exact absurd ⟨he, by omega⟩ hF0
    · rw [decide_eq_false he, decide_eq_false (fun hh => he hh.1)]
theorem fields_eq (a : Nat) (ha : a < 18446744073709551616) :
    format_Fields.f f (a : Int) = some (if a < 2 ^ W then (decide (fS W a ≠ 0), ((fE W P a : Nat) : Int), ((fF P a : Nat) : Int), 0) else (false, 0, 0, 4)) := by
  unfold format_Fields.f
  rw [check_eq h a ha]
  simp only [Option.bind_some]
  by_cases hw : a < 2 ^ W
  · rw [if_pos hw, if_pos rfl, if_pos hw, h.at_]
    simp only [Option.bind_some]
    rw [split_eq h a ha]
    rfl
  · rw [if_neg hw, if_neg (by decide), if_neg hw]
theorem pack_eq (n : Bool) {E F : Nat} (h1 : E < 2 ^ (W - P)) (h2 : F < 2 ^ (P - 1)) : format_Pack.f f n (E : Int) (F : Int) = some (((pk W P (if n = true then 1 else 0) E F : Nat) : Int), 0) := by
  have hwp := h.wp; have hw := h.w64; have hp := h.p8
  have onep : format_ones.f (wrap64 ((P : Int) - 1)) = some ((2 ^ (P - 1) - 1 : Nat) : Int) := by rw [subP1 h]; exact ones_eq _ (by omega)
  unfold format_Pack.f
  rw [params_eq h]
  simp only [Option.bind_some, if_true]
  rw [onesWP h]
  simp only [Option.bind_some]
  rw [if_neg (by omega), onep]
  simp only [Option.bind_some]
  rw [if_neg (by omega), join_eq h n h1 h2]
  rfl
end
end Go.Proofs.YtjdmbhdlogbopaaDoor.V
