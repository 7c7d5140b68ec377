/- Plain law: verniertop's own formats, modes and fitted patterns; powers of two; layer 4's Abs. Conditions: those that each states. -/
import Derived.Test.YtldjheckpophaaaDoorTpB
import Derived.Test.YtldjheckpophaaaDoorWhF
namespace Go.Proofs.YtldjheckpophaaaDoor.X
open Go Go.Rex
set_option linter.unusedVariables false

theorem tmod_of (x : Int) {w : Nat} (hw : 0 < w) (h6 : w ≤ 6) : 0 ≤ IntKind.i64.wrap ((IntKind.u64.wrap x).tmod (w : Int)) ∧ IntKind.i64.wrap ((IntKind.u64.wrap x).tmod (w : Int)) < (w : Int) := by
  have h0 : 0 ≤ IntKind.u64.wrap x := by rw [wrap_u64]; omega
  have a1 := Int.tmod_nonneg (w : Int) h0
  have a2 := Int.tmod_lt_of_pos (IntKind.u64.wrap x) (show (0 : Int) < (w : Int) by omega)
  rw [wrapI (by omega) (by omega)]
  exact ⟨a1, a2⟩
section
variable {f : Int} {W P : Nat} {em ex : Int} (h : Fm f W P em ex)
include h
theorem fitT {a : Int} (h0 : 0 ≤ a) (h1 : a < 18446744073709551616) : ∃ A : Nat, A < 2 ^ W ∧ Ev (fun k => verniertop_fit k f a) (A : Int) := by
  have hw := h.w64; have h8 := h.p8; have h3 := h.wp
  obtain ⟨a, rfl⟩ := Int.eq_ofNat_of_zero_le h0
  refine ⟨a % 2 ^ W, Nat.mod_lt _ (Nat.two_pow_pos W), Ev.congr (fun k => verniertop_fit_eq k _ _) (Ev.bind (Ev.of fun k => layT h k) ?_)⟩
  dsimp only
  by_cases c : W = 64
  · refine Ev.pos (bT (by omega)) (Ev.eq (Ev.some _) ?_)
    rw [c, show (2 : Nat) ^ 64 = 18446744073709551616 from rfl, Nat.mod_eq_of_lt (by omega)]
  · refine Ev.neg (bF (by omega)) (Ev.pos (by omega) (Ev.eq (Ev.some _) ?_))
    rw [maskT (by omega), andK_mask a W (by omega) (by omega)]
theorem absT {a : Nat} (ha : a < 2 ^ W) (k : Nat) : format_Abs k f (a : Int) = some (andNotK IntKind.u64 (a : Int) ((2 ^ (W - 1) : Nat) : Int), (0 : Int)) := by
  have h64 : 2 ^ W ≤ 18446744073709551616 := pow_mono2 (b := 64) h.w64
  rw [format_Abs_eq, check_at h k a (by omega), Option.bind_some, if_pos ha, if_neg (nF rfl), sign_at h, Option.bind_some]
theorem abs_zeros : andNotK IntKind.u64 ((2 ^ (W - 1) : Nat) : Int) ((2 ^ (W - 1) : Nat) : Int) = andNotK IntKind.u64 ((0 : Nat) : Int) ((2 ^ (W - 1) : Nat) : Int) := by
  rcases fm_cases h with ⟨rfl, rfl, rfl, rfl, rfl⟩ | ⟨rfl, rfl, rfl, rfl, rfl⟩ | ⟨rfl, rfl, rfl, rfl, rfl⟩ | ⟨rfl, rfl, rfl, rfl, rfl⟩ <;> decide +kernel
end
theorem fittedT {f m a b c : Int} (ha : 0 ≤ a ∧ a < 18446744073709551616) (hb : 0 ≤ b ∧ b < 18446744073709551616) (hc : 0 ≤ c ∧ c < 18446744073709551616) :
    ∃ (F M : Int) (W P : Nat) (em ex : Int) (A B C : Nat), Fm F W P em ex ∧ Md M ∧ A < 2 ^ W ∧ B < 2 ^ W ∧ C < 2 ^ W ∧ Ev (fun k => verniertop_fitted k f m a b c) (F, (M, ((A : Int), ((B : Int), (C : Int))))) := by
  obtain ⟨f0, f1⟩ := tmod_of f (w := 4) (by decide) (by decide)
  obtain ⟨m0, m1⟩ := tmod_of m (w := 6) (by decide) (by decide)
  obtain ⟨W, P, em, ex, h⟩ := fm_of f0 f1
  obtain ⟨A, a1, a2⟩ := fitT h ha.1 ha.2
  obtain ⟨B, b1, b2⟩ := fitT h hb.1 hb.2
  obtain ⟨C, c1, c2⟩ := fitT h hc.1 hc.2
  exact ⟨_, _, W, P, em, ex, A, B, C, h, ⟨m0, by omega⟩, a1, b1, c1, Ev.congr (fun k => verniertop_fitted_eq k _ _ _ _ _) (Ev.bind (Ev.congr (fun k => verniertop_formatOf_eq k _) (Ev.some _)) (Ev.bind (Ev.congr (fun k => verniertop_modeOf_eq k _) (Ev.some _)) (Ev.bind a2 (Ev.bind b2 (Ev.bind c2 (Ev.some _))))))⟩
theorem powT (e : Int) : Ev (fun k => verniertop_power k e) (false, (d32 1, e)) :=
  Ev.congr (fun k => verniertop_power_eq k _) (Ev.bind (tnat_ev (x := 1) (by decide)) (Ev.some _))
theorem RepT.pow {B : Int} {e : Int} {t : Nat} (h : e - B = (t : Int)) (h2 : t ≤ 20000) : RepT B false (d32 1) e ((2 ^ t : Nat) : Int) := by
  refine ⟨1, rfl, by omega, by omega, ?_⟩
  rw [Nat.one_mul, h, Int.toNat_natCast]; rfl
/-- A whole number of units 2^0. -/
theorem RepT.nat {B : Int} {t : Nat} (h : -B = (t : Int)) (h2 : t ≤ 20000) (s : Bool) (U : Nat) : RepT B s (d32 U) 0 (sg s (U * 2 ^ t)) := by
  refine ⟨U, rfl, by omega, by omega, ?_⟩
  rw [show (0 - B).toNat = t by omega]
end Go.Proofs.YtldjheckpophaaaDoor.X
