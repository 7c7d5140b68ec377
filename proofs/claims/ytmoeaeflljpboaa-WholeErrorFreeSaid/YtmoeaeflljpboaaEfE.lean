/- Plain law: a Double's sum, difference, product is the nearest float of the numbers', or not finite as the program asks it. Conditions: both are numbers. -/
import Derived.Test.YtmoeaeflljpboaaEfD
namespace Go.Proofs.Ytmoeaeflljpboaa.X
open Go Go.Rex
set_option linter.unusedVariables false
section
variable {k : FloatKind} {W P : Nat} {em : Int} (h : If k.format W P em)
include h
theorem inf_less (s : Bool) : fCmp .neq k (fArith .sub k ((infP W P + sgB s W : Nat) : Int) ((infP W P + sgB s W : Nat) : Int)) 0 = true := by
  have hi := inf_lt h
  obtain ⟨p1, p2', p3⟩ := pat_of h (K := infP W P) hi s
  have r := read_inf h (a := infP W P + sgB s W) p3 p1
  rw [p2'] at r
  rw [fArith_of (by omega) (by omega), Int.toNat_natCast]
  show fCmp .neq k (optF (k.format.sub (infP W P + sgB s W) (infP W P + sgB s W))) 0 = true
  unfold Ieee.Format.sub
  rw [r]
  cases s <;> rfl
/-- Whatever is told of a rounding's answer: a number, or no finite one. -/
theorem fin_or {x : Int} {n : Bool} {R : Nat} (hx : x = ((min R (infP W P) + sgB n W : Nat) : Int)) : Fl W P x n R ∨ fCmp .neq k (fArith .sub k x x) 0 = true := by
  rcases Nat.lt_or_ge R (infP W P) with g | g
  · exact .inl ⟨by rw [hx, Nat.min_eq_left (by omega)], g⟩
  · rw [hx, Nat.min_eq_right g]; exact .inr (inf_less h n)
end
theorem d64 : If FloatKind.f64.format 64 53 (-1022) := ie64
theorem z_add {x y : Int} {s t : Bool} {K J : Nat} (hx : Fl 64 53 x s K) (hy : Fl 64 53 y t J) : (∃ n R, Fl 64 53 (fArith .add .f64 x y) n R ∧ zv n R = RN (zv s K + zv t J)) ∨ fCmp .neq .f64 (fArith .sub .f64 (fArith .add .f64 x y) (fArith .add .f64 x y)) 0 = true := by
  have e := add_at d64 hx hy (z := zv s K + zv t J) rfl (n := if zv s K + zv t J = 0 then s && t else decide (zv s K + zv t J < 0)) rfl
  rcases fin_or d64 e with g | g
  · exact .inl ⟨_, _, g, RN_sval (fun c => by rw [if_neg c])⟩
  · exact .inr g
theorem z_sub {x y : Int} {s t : Bool} {K J : Nat} (hx : Fl 64 53 x s K) (hy : Fl 64 53 y t J) : (∃ n R, Fl 64 53 (fArith .sub .f64 x y) n R ∧ zv n R = RN (zv s K - zv t J)) ∨ fCmp .neq .f64 (fArith .sub .f64 (fArith .sub .f64 x y) (fArith .sub .f64 x y)) 0 = true := by
  have e := sub_at d64 hx hy (z := zv s K - zv t J) rfl (n := if zv s K - zv t J = 0 then s && !t else decide (zv s K - zv t J < 0)) rfl
  rcases fin_or d64 e with g | g
  · exact .inl ⟨_, _, g, RN_sval (fun c => by rw [if_neg c])⟩
  · exact .inr g
/-- A product: the nearest, in units of 2^-1074, of the product in units of 2^-2148. -/
theorem z_mul {x y : Int} {s t : Bool} {K J : Nat} (hx : Fl 64 53 x s K) (hy : Fl 64 53 y t J) : (Fl 64 53 (fArith .mul .f64 x y) (s ^^ t) (rnd 53 0 (s ^^ t) (plV 53 K * plV 53 J) (2 ^ dOf 53 (-1022)))) ∨ fCmp .neq .f64 (fArith .sub .f64 (fArith .mul .f64 x y) (fArith .mul .f64 x y)) 0 = true :=
  fin_or d64 (mul_at d64 hx hy)
theorem zv_rep (s : Bool) (K : Nat) : Rep (zv s K) := by
  obtain ⟨z, u, e, h1, h2⟩ := plV_step (P := 53) (by decide) K
  have hv : plV 53 K = u * 2 ^ z := by rw [e]; exact plV_at (by decide) h1 (by omega)
  unfold zv
  rw [hv, sval_mul]
  exact ⟨sval s u, z, by rw [natAbs_sval]; exact h2, rfl⟩
end Go.Proofs.Ytmoeaeflljpboaa.X
