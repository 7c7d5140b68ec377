/- Plain law: the program's product with a rest on Doubles: product and rest are exact, the product is the machine's own. Conditions: both are numbers; the product is nothing or not too small. -/
import Derived.Test.YtmoeaeflljpboaaEfG
namespace Go.Proofs.Ytmoeaeflljpboaa.X
open Go Go.Rex
set_option linter.unusedVariables false

theorem mult0 {T z : Int} (hT : T ≠ 0) (h : z * T = 0) : z = 0 := by
  rcases Int.mul_eq_zero.1 h with g | g
  · exact g
  · exact absurd g hT
theorem halves_zero {a h l : Int} (ha : a = 0) (h1 : h + l = a) (h2 : 2 ^ 27 * l.natAbs ≤ 2 ^ blen a.natAbs) : h = 0 ∧ l = 0 := by
  subst ha
  rw [show (0 : Int).natAbs = 0 from rfl, blen_zero] at h2
  omega
/-- The steps behind the products, all exact. -/
theorem tp_chain {a b : Int} {nP RP nG RG n3 R3 n4 R4 n5 R5 : _} (hP : Fl 64 53 (tpP a b) nP RP) (hG : Fl 64 53 (tpG a b) nG RG) (hHj : Fl 64 53 (tpHj a b) n3 R3) (hLi : Fl 64 53 (tpLi a b) n4 R4) (hLj : Fl 64 53 (tpLj a b) n5 R5)
    (f6 : fin64 (tpW a b) = true) (f7 : fin64 (tpX a b) = true) (f8 : fin64 (tpY a b) = true) (f9 : fin64 (tpR a b) = true)
    (r6 : Rep (zv nG RG - zv nP RP)) (r7 : Rep (zv nG RG - zv nP RP + zv n3 R3)) (r8 : Rep (zv nG RG - zv nP RP + zv n3 R3 + zv n4 R4)) (r9 : Rep (zv nG RG - zv nP RP + zv n3 R3 + zv n4 R4 + zv n5 R5)) :
    ∃ n R, Fl 64 53 (tpR a b) n R ∧ zv n R = zv nG RG - zv nP RP + zv n3 R3 + zv n4 R4 + zv n5 R5 := by
  obtain ⟨_, _, h6, e6⟩ := fin_sub hG hP f6
  rw [RN_of r6] at e6
  obtain ⟨_, _, h7, e7⟩ := fin_add h6 hHj f7
  rw [e6, RN_of r7] at e7
  obtain ⟨_, _, h8, e8⟩ := fin_add h7 hLi f8
  rw [e7, RN_of r8] at e8
  obtain ⟨_, _, h9, e9⟩ := fin_add h8 hLj f9
  rw [e8, RN_of r9] at e9
  exact ⟨_, _, h9, e9⟩
def lng (a b : Nat) : Prop := pk 64 a = 0 ∨ pk 64 b = 0 ∨ 2 ^ 106 ≤ plV 53 (pk 64 (tpP (a : Int) (b : Int)).toNat)
theorem zv0 (s : Bool) : zv s 0 = 0 := by unfold zv; rw [plV0]; cases s <;> rfl
theorem tp_of {a b : Nat} (ha : a < 2 ^ 64) (hb : b < 2 ^ 64) (fa : fin64 (a : Int) = true) (fb : fin64 (b : Int) = true) (h1 : (hvs (a : Int)).all fin64 = true) (h2 : (hvs (b : Int)).all fin64 = true) (hf : (tpL (a : Int) (b : Int)).all fin64 = true) (hl : lng a b) :
    ∃ n R n' R', Fl 64 53 (tpP (a : Int) (b : Int)) n R ∧ Fl 64 53 (tpR (a : Int) (b : Int)) n' R' ∧ (zv n R + zv n' R') * ((2 ^ De : Nat) : Int) = zv (ps 64 a) (pk 64 a) * zv (ps 64 b) (pk 64 b) := by
  have xa := fl_fin ha fa
  have xb := fl_fin hb fb
  unfold tpL at hf
  simp only [List.all_cons, List.all_nil, Bool.and_eq_true, Bool.and_true] at hf
  obtain ⟨f1, f2, f3, f4, f5, f6, f7, f8, f9⟩ := hf
  obtain ⟨sh, Kh, sl, Kl, fh, fl, eA, ⟨η, q1, q1'⟩, ⟨μ, q2⟩, q3⟩ := hv_of xa h1
  obtain ⟨si, Ki, sj, Kj, fi, fj, eB, ⟨ι, u1, u1'⟩, ⟨ν, u2⟩, u3⟩ := hv_of xb h2
  have hT : ((2 ^ De : Nat) : Int) ≠ 0 := by have := Nat.two_pow_pos De; omega
  have hsame : ∀ {x y : Int} {s t : Bool} {K J : Nat}, Fl 64 53 x s K → Fl 64 53 y t J → fin64 (fArith .mul .f64 x y) = true → zv s K * zv t J = 0 → ∃ n R, Fl 64 53 (fArith .mul .f64 x y) n R ∧ zv n R = 0 := by
    intro x y s t K J hx hy hf hz
    obtain ⟨n, R, g1, g2⟩ := mul_same hx hy hf (Nat.le_refl De) (by rw [hz]; exact Rep.zero) ⟨0, by rw [hz, Int.zero_mul]⟩
    exact ⟨n, R, g1, mult0 hT (by rw [g2, hz])⟩
  by_cases hz : zv (ps 64 a) (pk 64 a) * zv (ps 64 b) (pk 64 b) = 0
  · have hh : zv sh Kh * zv si Ki = 0 ∧ zv sh Kh * zv sj Kj = 0 ∧ zv sl Kl * zv si Ki = 0 ∧ zv sl Kl * zv sj Kj = 0 := by
      rcases Int.mul_eq_zero.1 hz with g | g
      · obtain ⟨z1, z2⟩ := halves_zero g eA q3
        rw [z1, z2]; simp only [Int.zero_mul, and_self]
      · obtain ⟨z1, z2⟩ := halves_zero g eB u3
        rw [z1, z2]; simp only [Int.mul_zero, and_self]
    obtain ⟨_, _, g1, e1⟩ := hsame xa xb f1 hz
    obtain ⟨_, _, g2, e2⟩ := hsame fh fi f2 hh.1
    obtain ⟨_, _, g3, e3⟩ := hsame fh fj f3 hh.2.1
    obtain ⟨_, _, g4, e4⟩ := hsame fl fi f4 hh.2.2.1
    obtain ⟨_, _, g5, e5⟩ := hsame fl fj f5 hh.2.2.2
    obtain ⟨_, _, g9, e9⟩ := tp_chain (a := (a : Int)) (b := (b : Int)) g1 g2 g3 g4 g5 f6 f7 f8 f9 (by rw [e1, e2]; exact Rep.zero) (by rw [e1, e2, e3]; exact Rep.zero) (by rw [e1, e2, e3, e4]; exact Rep.zero) (by rw [e1, e2, e3, e4, e5]; exact Rep.zero)
    refine ⟨_, _, _, _, g1, g9, ?_⟩
    rw [e9, e1, e2, e3, e4, e5, hz]; simp
  · -- a long product
    have z1 : zv (ps 64 a) (pk 64 a) ≠ 0 := fun c => hz (by rw [c, Int.zero_mul])
    have z2 : zv (ps 64 b) (pk 64 b) ≠ 0 := fun c => hz (by rw [c, Int.mul_zero])
    have hl' : 2 ^ 106 ≤ plV 53 (pk 64 (tpP (a : Int) (b : Int)).toNat) := by
      rcases hl with g | g | g
      · exact absurd (by rw [g, zv0]) z1
      · exact absurd (by rw [g, zv0]) z2
      · exact g
    have gp := fin_mul xa xb f1
    rw [show (tpP (a : Int) (b : Int)) = fArith .mul .f64 (a : Int) (b : Int) from rfl, (gp.pat d64).1] at hl'
    have hN : plV 53 (pk 64 a) * plV 53 (pk 64 b) = (zv (ps 64 a) (pk 64 a) * zv (ps 64 b) (pk 64 b)).natAbs := by rw [Int.natAbs_mul, natAbs_zv, natAbs_zv]
    rw [hN, dOf64] at hl'
    have hlong : 2 ^ (105 + De) < (zv (ps 64 a) (pk 64 a) * zv (ps 64 b) (pk 64 b)).natAbs := by
      rcases Nat.lt_or_ge (2 ^ (105 + De)) (zv (ps 64 a) (pk 64 a) * zv (ps 64 b) (pk 64 b)).natAbs with g | g
      · exact g
      · have := (rnd_pow (A := (zv (ps 64 a) (pk 64 a) * zv (ps 64 b) (pk 64 b)).natAbs) (B := 2 ^ De) (n := 105) (ps 64 a ^^ ps 64 b) (Nat.two_pow_pos _) (by rw [← Nat.pow_add]; exact g) (by decide)).2
        have h3 : (2 : Nat) ^ 105 < 2 ^ 106 := by decide
        omega
    generalize hAv : zv (ps 64 a) (pk 64 a) = A at *
    generalize hBv : zv (ps 64 b) (pk 64 b) = B at *
    have a0 : A.natAbs ≠ 0 := by omega
    have b0 : B.natAbs ≠ 0 := by omega
    have bl1 := blen_lt A.natAbs
    have bl2 := blen_lt B.natAbs
    have bg1 := blen_le a0
    have bg2 := blen_le b0
    have hbl : 105 + De < blen A.natAbs + blen B.natAbs := by
      rw [Int.natAbs_mul] at hlong
      have h3 := Nat.mul_lt_mul'' bl1 bl2
      rw [← Nat.pow_add] at h3
      exact (Nat.pow_lt_pow_iff_right (by decide : 1 < 2)).1 (Nat.lt_trans hlong h3)
    have p0 : 0 < blen A.natAbs := by
      rcases Nat.eq_zero_or_pos (blen A.natAbs) with g | g
      · rw [g] at bl1; omega
      · exact g
    have p0' : 0 < blen B.natAbs := by
      rcases Nat.eq_zero_or_pos (blen B.natAbs) with g | g
      · rw [g] at bl2; omega
      · exact g
    have dbl : ∀ n, 0 < n → 2 ^ n = 2 * 2 ^ (n - 1) := fun n hn => by rw [show n = (n - 1) + 1 by omega, Nat.pow_succ, Nat.mul_comm]; rfl
    obtain ⟨γ, hγ⟩ : ∃ γ, γ = blen A.natAbs + blen B.natAbs - 106 := ⟨_, rfl⟩
    obtain ⟨⟨cP, mP⟩, ⟨rg, mg⟩, ⟨rhj, mhj⟩, ⟨rli, mli⟩, ⟨rlj, mlj⟩, d6, d7, d8, d9⟩ := dekker (γ := γ) (P := RN (A * B)) (by have := De_eq; omega) bl1 bl2 (by rw [dbl _ p0]; omega) (by rw [dbl _ p0']; omega) eA eB q1 q2 u1 u2 q3 u3 rfl
    have hg : De ≤ γ := by have := De_eq; omega
    subst hAv
    subst hBv
    obtain ⟨np, Rp, g1, e1⟩ := mul_long xa xb f1 (Nat.le_trans (Nat.pow_le_pow_right (by decide) (by omega)) (Nat.le_of_lt hlong))
    obtain ⟨_, _, g2, e2⟩ := mul_same fh fi f2 hg rg mg
    obtain ⟨_, _, g3, e3⟩ := mul_same fh fj f3 hg rhj mhj
    obtain ⟨_, _, g4, e4⟩ := mul_same fl fi f4 hg rli mli
    obtain ⟨_, _, g5, e5⟩ := mul_same fl fj f5 hg rlj mlj
    have eW : zv (ps 64 a) (pk 64 a) * zv (ps 64 b) (pk 64 b) = zv sh Kh * zv si Ki + zv sh Kh * zv sj Kj + zv sl Kl * zv si Ki + zv sl Kl * zv sj Kj := by rw [← eA, ← eB]; grind
    rw [← e2, ← e1] at d6
    rw [← e2, ← e1, ← e3] at d7
    rw [← e2, ← e1, ← e3, ← e4] at d8
    rw [eW, ← eW, ← e1] at d9
    obtain ⟨_, _, g9, e9⟩ := tp_chain (a := (a : Int)) (b := (b : Int)) g1 g2 g3 g4 g5 f6 f7 f8 f9
      (Rep.descend (by rw [Int.sub_mul]; exact d6)) (Rep.descend (by rw [Int.add_mul, Int.sub_mul]; exact d7)) (Rep.descend (by rw [Int.add_mul, Int.add_mul, Int.sub_mul]; exact d8))
      (Rep.descend (D := De) (by
        rw [Int.add_mul, Int.add_mul, Int.add_mul, Int.sub_mul, e2, e3, e4, e5]
        have : zv sh Kh * zv si Ki - zv np Rp * ((2 ^ De : Nat) : Int) + zv sh Kh * zv sj Kj + zv sl Kl * zv si Ki + zv sl Kl * zv sj Kj = zv (ps 64 a) (pk 64 a) * zv (ps 64 b) (pk 64 b) - zv np Rp * ((2 ^ De : Nat) : Int) := by rw [eW]; omega
        rw [this]; exact d9))
    refine ⟨_, _, _, _, g1, g9, ?_⟩
    rw [e9, Int.add_mul, Int.add_mul, Int.add_mul, Int.add_mul, Int.sub_mul, e2, e3, e4, e5, eW]
    omega
end Go.Proofs.Ytmoeaeflljpboaa.X
