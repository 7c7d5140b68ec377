/- Plain law: WholeQuotients answers true. Conditions: what the reading says of the arguments. -/
import Derived.Test.YtldjheckpophaaaDoorMulC
namespace Go.Proofs.YtldjheckpophaaaDoor.X
open Go Go.Rex
set_option linter.unusedVariables false

section
variable {f : Int} {W P : Nat} {em ex : Int} (h : Fm f W P em ex)
include h
theorem raR_quot (m : Int) (neg : Bool) {x y : Nat} (hx : x < 2 ^ (W - 1)) (hy : y < 2 ^ (W - 1)) (x0 : x ≠ 0) (y0 : y ≠ 0) {d : Nat} (hd : (d : Int) = (P : Int) + 1 - em) :
    raR W P em m neg (oddN (plV P x)) (oddN (plV P y)) ((tz (plV P x) : Int) - (tz (plV P y) : Int)) = ((rnOut W P m neg (plV P x * 2 ^ d) (4 * plV P y)).1, (rnOut W P m neg (plV P x * 2 ^ d) (4 * plV P y)).2, 0) := by
  have h53 := h.p53; have h8 := h.p8; have m0 := h.m0; have m1 := h.m1
  obtain ⟨w1, w2, w3, w4⟩ := plV_facts h x0 hx
  obtain ⟨v1, v2, v3, v4⟩ := plV_facts h y0 hy
  have l1 : (digs (oddN (plV P x))).length ≤ 1 := digs_length_lt.2 (by rw [Nat.pow_one]; exact w4)
  have l2 : (digs (oddN (plV P y))).length ≤ 1 := digs_length_lt.2 (by rw [Nat.pow_one]; exact v4)
  have ox := oddN_mul w1
  have oy := oddN_mul v1
  have nx : oddN (plV P x) ≠ 0 := fun e => by rw [e, Nat.zero_mul] at ox; exact w1 ox.symm
  have ny : oddN (plV P y) ≠ 0 := fun e => by rw [e, Nat.zero_mul] at oy; exact v1 oy.symm
  unfold raR
  rw [if_neg (by omega), if_neg (by omega), if_neg ny, if_neg nx]
  have e := rnOut_cross W P m neg (A := rA (oddN (plV P x)) ((tz (plV P x) : Int) - (tz (plV P y) : Int)) (em - (P : Int) + 1)) (B := rB (oddN (plV P y)) ((tz (plV P x) : Int) - (tz (plV P y) : Int)) (em - (P : Int) + 1)) (A' := plV P x * 2 ^ d) (B' := 4 * plV P y) (rB_pos (Nat.pos_of_ne_zero ny) _ _) (by omega) (by
    unfold rA rB
    have hs := p2_shift (tz (plV P x) + (d - 2)) (tz (plV P y))
    rw [show (tz (plV P x) : Int) - (tz (plV P y) : Int) - (em - (P : Int) + 1) = ((tz (plV P x) + (d - 2) : Nat) : Int) - (tz (plV P y) : Int) by omega, show em - (P : Int) + 1 - ((tz (plV P x) : Int) - (tz (plV P y) : Int)) = (tz (plV P y) : Int) - ((tz (plV P x) + (d - 2) : Nat) : Int) by omega]
    have h4 : (2 : Nat) ^ d = 2 ^ (d - 2) * 4 := by rw [show d = (d - 2) + 2 by omega, Nat.pow_add]; simp
    rw [Nat.pow_add] at hs
    generalize p2 (((tz (plV P x) + (d - 2) : Nat) : Int) - (tz (plV P y) : Int)) = p at *
    generalize p2 ((tz (plV P y) : Int) - ((tz (plV P x) + (d - 2) : Nat) : Int)) = q at *
    rw [h4]
    generalize (2 : Nat) ^ (d - 2) = z at *
    generalize (2 : Nat) ^ tz (plV P x) = s at *
    generalize (2 : Nat) ^ tz (plV P y) = t at *
    generalize oddN (plV P x) = a at *
    generalize oddN (plV P y) = b at *
    rw [← ox, ← oy]
    calc a * p * (4 * (b * t)) = 4 * (a * b) * (p * t) := by grind
      _ = 4 * (a * b) * (s * z * q) := by rw [hs]
      _ = a * s * (z * 4) * (b * q) := by grind)
  rw [e]
end
theorem wk_third_half : rnOut 16 11 3 false (2 ^ 24) 3 = (13654, 16) := by
  have hb : blen (2 ^ 24 / 3) = 22 + 1 := blen_is (by decide +kernel) (by decide +kernel)
  have hs : shf 11 (2 ^ 24) 3 = 12 := by unfold shf; rw [hb]
  unfold rnOut rnd lftP tinyB
  rw [hs]
  decide +kernel
theorem quotients_awake : Ev (fun k => div_Div k 0 3 15360 16896) ((13654 : Int), ((16 : Int), (0 : Int))) := by
  have g := Div_ev fm16 (m := 3) ⟨by decide, by decide⟩ (a := 15360) (b := 16896) (by decide) (by decide)
  have c1 : clsOf 16 11 (pk 16 15360) (ps 16 15360) = 8 := by decide +kernel
  have c2 : clsOf 16 11 (pk 16 16896) (ps 16 16896) = 8 := by decide +kernel
  have s1 : (!(ps 16 15360 == ps 16 16896)) = false := by decide +kernel
  have e := raR_quot fm16 3 false (x := pk 16 15360) (y := pk 16 16896) (by decide) (by decide) (by decide) (by decide) (d := 26) (by decide)
  have v : plV 11 (pk 16 15360) = 2 ^ 24 := by decide +kernel
  have v' : plV 11 (pk 16 16896) = 3 * 2 ^ 24 := by decide +kernel
  have r := rnOut_cross 16 11 3 false (A := 2 ^ 24 * 2 ^ 26) (B := 4 * (3 * 2 ^ 24)) (A' := 2 ^ 24) (B' := 3) (by decide) (by decide) (by decide +kernel)
  rw [v, v', r, wk_third_half] at e
  rw [c1, c2, s1, v, v', e] at g
  exact g
namespace Pure
abbrev ThreeTyQ : Ty := .pair (.int .i64) (.pair (.int .i64) (.pair (.int .u64) (.pair (.int .u64) (.int .u64))))
theorem WholeQuotients (t : Int × (Int × (Int × (Int × Int)))) (w : WFt ThreeTyQ t) : Ev (fun k => verniertop_WholeQuotients k t.1 t.2.1 t.2.2.1 t.2.2.2.1 t.2.2.2.2) true := by
  obtain ⟨w1, w2, w3, w4, w5⟩ := w
  obtain ⟨f, m, a, b, c⟩ := t
  have ha : 0 ≤ a ∧ a < 18446744073709551616 := wf_u64 w3
  have hb : 0 ≤ b ∧ b < 18446744073709551616 := wf_u64 w4
  have hc : 0 ≤ c ∧ c < 18446744073709551616 := wf_u64 w5
  show Ev (fun k => verniertop_WholeQuotients k f m a b c) true
  obtain ⟨F, M, W, P, em, ex, A, B, C', h, hM, hA, hB, -, ft⟩ := fittedT (f := f) (m := m) ha hb hc
  clear ha hb hc w1 w2 w3 w4 w5
  have h8 := h.p8; have h3 := h.wp; have h53 := h.p53; have m0 := h.m0; have m1 := h.m1; have h64 := h.w64
  have hip := infP_le h
  have hpp := Nat.two_pow_pos (P - 1)
  have hinf : 0 < infP W P := by
    have := (eTop_le h).2
    exact Nat.mul_pos (by omega) hpp
  have hdiv := Div_ev h hM hA hB
  rw [dvR_pk hinf (Nat.two_pow_pos _)] at hdiv
  have nn := nansT h hA hB
  have start : ∀ {R : Int × Int × Int}, R.2.2 = 0 → Ev (fun k => div_Div k F M (A : Int) (B : Int)) R → Ev (fun k => verniertop_WholeQuotients.j0 k F M R.1 R.2.1 F M (A : Int) (B : Int) (C' : Int)) true → Ev (fun k => verniertop_WholeQuotients k f m a b c) true := fun h0 hR g => by
    exact Ev.congr (fun k => verniertop_WholeQuotients_eq k _ _ _ _ _) (Ev.bind ft (Ev.bind hR (Ev.bind quotients_awake (Ev.neg (nF h0) (Ev.neg (nF rfl) (Ev.neg (nF rfl) g))))))
  by_cases cN : infP W P < pk W A ∨ infP W P < pk W B
  · rw [if_pos cN] at hdiv
    refine start rfl hdiv (Ev.congr (fun k => verniertop_WholeQuotients.j0_eq k _ _ _ _ _ _ _ _ _) (Ev.bind nn (Ev.pos ?_ (Ev.bind (Ev.of fun k => failedT h k _) (Ev.some _)))))
    rcases cN with g | g <;> simp [g]
  rw [if_neg cN] at hdiv
  have cA : ¬ (infP W P < pk W A) := fun g => cN (.inl g)
  have cB : ¬ (infP W P < pk W B) := fun g => cN (.inr g)
  rw [decide_eq_false cA, decide_eq_false cB] at nn
  obtain ⟨ka, na, la, ea, pa, fa⟩ := partsF h hA cA
  obtain ⟨kb, nb, lb, eb, pb, fb⟩ := partsF h hB cB
  have j0 : ∀ {r fl : Int}, Ev (fun k => (if ka == 0 then (if kb == 0 then verniertop_WholeQuotients.j1 k F M r fl (ps W A) ka (ps W B) kb ((la.length : Int) == 0) ((lb.length : Int) == 0) na la ea nb lb eb else verniertop_WholeQuotients.j1 k F M r fl (ps W A) ka (ps W B) kb ((la.length : Int) == 0) false na la ea nb lb eb) else (if kb == 0 then verniertop_WholeQuotients.j1 k F M r fl (ps W A) ka (ps W B) kb false ((lb.length : Int) == 0) na la ea nb lb eb else verniertop_WholeQuotients.j1 k F M r fl (ps W A) ka (ps W B) kb false false na la ea nb lb eb))) true → Ev (fun k => verniertop_WholeQuotients.j0 k F M r fl F M (A : Int) (B : Int) (C' : Int)) true := fun g =>
    Ev.congr (fun k => verniertop_WholeQuotients.j0_eq k _ _ _ _ _ _ _ _ _) (Ev.bind nn (Ev.neg Bool.false_ne_true (Ev.bind pa (Ev.bind pb g))))
  have hz : (0 : Nat) < 2 ^ (W - 1) := Nat.two_pow_pos _
  have zer : Ev (fun k => verniertop_signed k F ((sgB (!(ps W A == ps W B)) W : Nat) : Int) 0 0 (!(ps W A == ps W B)) 0) true := Ev.of fun k => by
    have := signedT h (K := 0) hz (!(ps W A == ps W B)) 0 k
    rwa [Nat.zero_add] at this
  have infs : ∀ fl : Int, Ev (fun k => (verniertop_infinity k F false).bind fun o => (verniertop_signed k F ((infP W P + sgB (!(ps W A == ps W B)) W : Nat) : Int) fl fl (!(ps W A == ps W B)) o).bind fun o' => some o') true := fun fl =>
    Ev.bind (Ev.of fun k => infT h k false) (Ev.bind (Ev.of fun k => signedT h (K := infP W P) (by omega) _ fl k) (Ev.some _))
  have bad : Ev (fun k => (verniertop_failed k F ((infP W P + 2 ^ (P - 2) : Nat) : Int) 1 true).bind fun o => some o) true := Ev.bind (Ev.of fun k => failedT h k true) (Ev.some _)
  rcases fa with ⟨ga, rfl⟩ | ⟨ga, rfl, rfl, xa, xa2, za⟩
  · rcases fb with ⟨gb, rfl⟩ | ⟨gb, rfl, rfl, xb, xb2, zb⟩
    · rw [if_pos (by omega)] at hdiv
      exact start rfl hdiv (j0 (Ev.neg (by decide) (Ev.neg (by decide) (Ev.congr (fun k => verniertop_WholeQuotients.j1_eq k _ _ _ _ _ _ _ _ _ _ _ _ _ _ _ _) (Ev.pos (by decide) (Ev.pos (by decide) (Ev.congr (fun k => verniertop_WholeQuotients.j2_eq k _ _ _ _ _ _ _ _ _ _ _ _ _ _ _ _ _) (Ev.pos rfl bad))))))))
    · rw [if_neg (by omega), if_pos ga] at hdiv
      exact start rfl hdiv (j0 (Ev.neg (by decide) (Ev.pos (by decide) (Ev.congr (fun k => verniertop_WholeQuotients.j1_eq k _ _ _ _ _ _ _ _ _ _ _ _ _ _ _ _) (Ev.pos (by decide) (Ev.neg (by decide) (Ev.neg (by decide) (Ev.congr (fun k => verniertop_WholeQuotients.j2_eq k _ _ _ _ _ _ _ _ _ _ _ _ _ _ _ _ _) (Ev.neg (by decide) (Ev.pos (by decide) (infs 0)))))))))))
  · rcases fb with ⟨gb, rfl⟩ | ⟨gb, rfl, rfl, xb, xb2, zb⟩
    · rw [if_neg (by omega), if_neg (by omega), if_neg (by omega), if_pos gb] at hdiv
      have fin : ∀ b : Bool, Ev (fun k => verniertop_WholeQuotients.j2 k F M ((sgB (!(ps W A == ps W B)) W : Nat) : Int) 0 (ps W A) 0 (ps W B) 1 b false false (ps W A) la ea nb lb eb) true := fun b =>
        Ev.congr (fun k => verniertop_WholeQuotients.j2_eq k _ _ _ _ _ _ _ _ _ _ _ _ _ _ _ _ _) (Ev.neg (by decide) (Ev.neg (by decide) (Ev.neg (by decide) (Ev.pos (by decide) (Ev.bind zer (Ev.some _))))))
      refine start rfl hdiv (j0 (Ev.pos (by decide) (Ev.neg (by decide) (Ev.congr (fun k => verniertop_WholeQuotients.j1_eq k _ _ _ _ _ _ _ _ _ _ _ _ _ _ _ _) (Ev.neg (by decide) ?_)))))
      by_cases c0 : pk W A = 0
      · rw [za, decide_eq_true c0]; exact Ev.pos rfl (fin true)
      · rw [za, decide_eq_false c0]; exact Ev.neg (by decide) (fin false)
    · by_cases c0 : pk W A = 0
      · by_cases d0 : pk W B = 0
        · rw [if_pos (by omega)] at hdiv
          refine start rfl hdiv (j0 (Ev.pos (by decide) (Ev.pos (by decide) (Ev.congr (fun k => verniertop_WholeQuotients.j1_eq k _ _ _ _ _ _ _ _ _ _ _ _ _ _ _ _) (Ev.neg (by decide) ?_)))))
          rw [za, zb, decide_eq_true c0, decide_eq_true d0]
          exact Ev.pos rfl (Ev.congr (fun k => verniertop_WholeQuotients.j2_eq k _ _ _ _ _ _ _ _ _ _ _ _ _ _ _ _ _) (Ev.pos rfl bad))
        · rw [if_neg (by omega), if_neg (by omega), if_neg d0, if_neg (by omega), if_pos c0] at hdiv
          refine start rfl hdiv (j0 (Ev.pos (by decide) (Ev.pos (by decide) (Ev.congr (fun k => verniertop_WholeQuotients.j1_eq k _ _ _ _ _ _ _ _ _ _ _ _ _ _ _ _) (Ev.neg (by decide) ?_)))))
          rw [za, zb, decide_eq_true c0, decide_eq_false d0]
          exact Ev.pos rfl (Ev.congr (fun k => verniertop_WholeQuotients.j2_eq k _ _ _ _ _ _ _ _ _ _ _ _ _ _ _ _ _) (Ev.neg (by decide) (Ev.neg (by decide) (Ev.neg (by decide) (Ev.neg (by decide) (Ev.pos rfl (Ev.bind zer (Ev.some _))))))))
      · by_cases d0 : pk W B = 0
        · rw [if_neg (by omega), if_neg (by omega), if_pos d0] at hdiv
          refine start rfl hdiv (j0 (Ev.pos (by decide) (Ev.pos (by decide) (Ev.congr (fun k => verniertop_WholeQuotients.j1_eq k _ _ _ _ _ _ _ _ _ _ _ _ _ _ _ _) (Ev.neg (by decide) ?_)))))
          rw [za, zb, decide_eq_false c0, decide_eq_true d0]
          exact Ev.neg (by decide) (Ev.congr (fun k => verniertop_WholeQuotients.j2_eq k _ _ _ _ _ _ _ _ _ _ _ _ _ _ _ _ _) (Ev.neg (by decide) (Ev.neg (by decide) (Ev.pos rfl (infs 2)))))
        · rw [if_neg (by omega), if_neg (by omega), if_neg d0, if_neg (by omega), if_neg c0] at hdiv
          obtain ⟨d, hd⟩ : ∃ d : Nat, (d : Int) = (P : Int) + 1 - em := ⟨((P : Int) + 1 - em).toNat, by omega⟩
          rw [raR_quot h M (!(ps W A == ps W B)) (x := pk W A) (y := pk W B) (by omega) (by omega) c0 d0 hd] at hdiv
          have va := plV_small h (k := pk W A) (by omega)
          have vb := plV_small h (k := pk W B) (by omega)
          have sm : ∀ x : Nat, 4 * x < 2 ^ xA → x < 2 ^ xB := fun x hx => by
            have : 2 ^ xA ≤ 2 ^ xB := pow_mono2 (by rw [xA_is, xB_is]; decide)
            omega
          have xa' := xa.abs
          have xb' := xb.abs
          rw [tsg_abs] at xa' xb'
          have hat := at_ratio (L := em - (P : Int) - 1) (d := d) (by omega) (by omega) (by omega) xa' xb' (sm _ va) (sm _ vb) (by omega) (by omega)
          have hy : 0 < plV P (pk W B) := Nat.pos_of_ne_zero fun e => d0 ((plV_zero (P := P) (by omega)).1 e)
          have g := rounded_sign h hat rfl hy hM (!(ps W A == ps W B))
          have hk := kOut_lt h M (!(ps W A == ps W B)) (plV P (pk W A) * 2 ^ d) (4 * plV P (pk W B))
          have i1 : IntKind.i64.wrap ((W : Int) - 1) = ((W - 1 : Nat) : Int) := by rw [wrapI (by omega) (by omega)]; omega
          refine start rfl hdiv (j0 (Ev.pos (by decide) (Ev.pos (by decide) (Ev.congr (fun k => verniertop_WholeQuotients.j1_eq k _ _ _ _ _ _ _ _ _ _ _ _ _ _ _ _) (Ev.neg (by decide) ?_)))))
          rw [za, zb, decide_eq_false c0, decide_eq_false d0]
          refine Ev.neg (by decide) (Ev.congr (fun k => verniertop_WholeQuotients.j2_eq k _ _ _ _ _ _ _ _ _ _ _ _ _ _ _ _ _) (Ev.neg (by decide) (Ev.neg (by decide) (Ev.neg (by decide) (Ev.neg (by decide) (Ev.neg (by decide) (Ev.congr (fun k => verniertop_WholeQuotients.j3_eq k _ _ _ _ _ _ _ _ _ _ _ _) (Ev.bind (Ev.of fun k => layT h k) ?_))))))))
          dsimp only
          rw [i1, rnOut_bits, topbit h hk]
          exact Ev.pos (by omega) (Ev.neg (by simp) (Ev.bind (Ev.of fun k => turnT M _ k) (Ev.bind (Ev.of fun k => bareT h hk _ k) (Ev.bind (Ev.of fun k => verniertop_size_eq k _ _ _) (Ev.bind (Ev.of fun k => verniertop_size_eq k _ _ _) (Ev.bind g (Ev.some _)))))))
end Pure
end Go.Proofs.YtldjheckpophaaaDoor.X
