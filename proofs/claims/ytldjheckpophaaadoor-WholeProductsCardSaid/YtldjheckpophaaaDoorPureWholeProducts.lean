/- Plain law: WholeProducts answers true. Conditions: what the reading says of the arguments. -/
import Derived.Test.YtldjheckpophaaaDoorMulC
namespace Go.Proofs.YtldjheckpophaaaDoor.X
open Go Go.Rex
set_option linter.unusedVariables false

theorem products_awake : Ev (fun k => mul_Mul k 0 0 16896 17664) ((19328 : Int), ((0 : Int), (0 : Int))) := by
  have g := Mul_ev' fm16 (m := 0) ⟨by decide, by decide⟩ (a := 16896) (b := 17664) (by decide) (by decide)
  have c1 : clsOf 16 11 (pk 16 16896) (ps 16 16896) = 8 := by decide +kernel
  have c2 : clsOf 16 11 (pk 16 17664) (ps 16 17664) = 8 := by decide +kernel
  have s1 : (!(ps 16 16896 == ps 16 17664)) = false := by decide +kernel
  have e := paR_prod fm16 0 false (a := 16896) (b := 17664) (by decide) (by decide) (by decide) (by decide) (D := 24) (by decide)
  have v : plV 11 (pk 16 16896) * plV 11 (pk 16 17664) = plV 11 19328 * 2 ^ 24 := by decide +kernel
  have r := rnOut_rep (W := 16) (P := 11) (by decide) (k := 19328) (B := 2 ^ 24) (Nat.two_pow_pos _) (by decide +kernel) 0 false
  rw [v, r] at e
  rw [c1, c2, s1, e] at g
  exact g
namespace Pure
abbrev ThreeTyP : Ty := .pair (.int .i64) (.pair (.int .i64) (.pair (.int .u64) (.pair (.int .u64) (.int .u64))))
theorem WholeProducts (t : Int × (Int × (Int × (Int × Int)))) (w : WFt ThreeTyP t) : Ev (fun k => verniertop_WholeProducts k t.1 t.2.1 t.2.2.1 t.2.2.2.1 t.2.2.2.2) true := by
  obtain ⟨w1, w2, w3, w4, w5⟩ := w
  obtain ⟨f, m, a, b, c⟩ := t
  have ha : 0 ≤ a ∧ a < 18446744073709551616 := wf_u64 w3
  have hb : 0 ≤ b ∧ b < 18446744073709551616 := wf_u64 w4
  have hc : 0 ≤ c ∧ c < 18446744073709551616 := wf_u64 w5
  show Ev (fun k => verniertop_WholeProducts k f m a b c) true
  obtain ⟨F, M, W, P, em, ex, A, B, C', h, hM, hA, hB, -, ft⟩ := fittedT (f := f) (m := m) ha hb hc
  clear ha hb hc w1 w2 w3 w4 w5
  have h8 := h.p8; have h3 := h.wp; have h53 := h.p53; have m0 := h.m0; have m1 := h.m1
  have hip := infP_le h
  have hpp := Nat.two_pow_pos (P - 1)
  have hinf : 0 < infP W P := by
    have := (eTop_le h).2
    exact Nat.mul_pos (by omega) hpp
  have hmul := Mul_ev' h hM hA hB
  rw [mlR_pk hinf (Nat.two_pow_pos _)] at hmul
  have nn := nansT h hA hB
  have start : ∀ {R : Int × Int × Int}, R.2.2 = 0 → Ev (fun k => mul_Mul k F M (A : Int) (B : Int)) R → Ev (fun k => verniertop_WholeProducts.j0 k F M R.1 R.2.1 F M (A : Int) (B : Int) (C' : Int)) true → Ev (fun k => verniertop_WholeProducts k f m a b c) true := fun h0 hR g => by
    exact Ev.congr (fun k => verniertop_WholeProducts_eq k _ _ _ _ _) (Ev.bind ft (Ev.bind hR (Ev.bind products_awake (Ev.neg (nF h0) (Ev.neg (nF rfl) g)))))
  by_cases cN : infP W P < pk W A ∨ infP W P < pk W B
  · rw [if_pos cN] at hmul
    refine start rfl hmul (Ev.congr (fun k => verniertop_WholeProducts.j0_eq k _ _ _ _ _ _ _ _ _) (Ev.bind nn (Ev.pos ?_ (Ev.bind (Ev.of fun k => failedT h k _) (Ev.some _)))))
    rcases cN with g | g <;> simp [g]
  rw [if_neg cN] at hmul
  have cA : ¬ (infP W P < pk W A) := fun g => cN (.inl g)
  have cB : ¬ (infP W P < pk W B) := fun g => cN (.inr g)
  rw [decide_eq_false cA, decide_eq_false cB] at nn
  obtain ⟨ka, na, la, ea, pa, fa⟩ := partsF h hA cA
  obtain ⟨kb, nb, lb, eb, pb, fb⟩ := partsF h hB cB
  have j0 : ∀ {r fl : Int}, Ev (fun k => (if ka == 1 then (if kb == 0 then (if (lb.length : Int) == 0 then verniertop_WholeProducts.j1 k F M r fl (ps W A) ka (ps W B) kb true na la ea nb lb eb else (if kb == 1 then (if ka == 0 then verniertop_WholeProducts.j1 k F M r fl (ps W A) ka (ps W B) kb ((la.length : Int) == 0) na la ea nb lb eb else verniertop_WholeProducts.j1 k F M r fl (ps W A) ka (ps W B) kb false na la ea nb lb eb) else verniertop_WholeProducts.j1 k F M r fl (ps W A) ka (ps W B) kb false na la ea nb lb eb)) else (if kb == 1 then (if ka == 0 then verniertop_WholeProducts.j1 k F M r fl (ps W A) ka (ps W B) kb ((la.length : Int) == 0) na la ea nb lb eb else verniertop_WholeProducts.j1 k F M r fl (ps W A) ka (ps W B) kb false na la ea nb lb eb) else verniertop_WholeProducts.j1 k F M r fl (ps W A) ka (ps W B) kb false na la ea nb lb eb)) else (if kb == 1 then (if ka == 0 then verniertop_WholeProducts.j1 k F M r fl (ps W A) ka (ps W B) kb ((la.length : Int) == 0) na la ea nb lb eb else verniertop_WholeProducts.j1 k F M r fl (ps W A) ka (ps W B) kb false na la ea nb lb eb) else verniertop_WholeProducts.j1 k F M r fl (ps W A) ka (ps W B) kb false na la ea nb lb eb))) true → Ev (fun k => verniertop_WholeProducts.j0 k F M r fl F M (A : Int) (B : Int) (C' : Int)) true := fun g =>
    Ev.congr (fun k => verniertop_WholeProducts.j0_eq k _ _ _ _ _ _ _ _ _) (Ev.bind nn (Ev.neg Bool.false_ne_true (Ev.bind pa (Ev.bind pb g))))
  have hz : (0 : Nat) < 2 ^ (W - 1) := Nat.two_pow_pos _
  -- infinite
  have infs : Ev (fun k => verniertop_WholeProducts.j2 k F M ((infP W P + sgB (!(ps W A == ps W B)) W : Nat) : Int) 0 (ps W A) (ps W B) true na la ea nb lb eb) true :=
    Ev.congr (fun k => verniertop_WholeProducts.j2_eq k _ _ _ _ _ _ _ _ _ _ _ _ _) (Ev.pos rfl (Ev.bind (Ev.of fun k => infT h k false) (Ev.bind (Ev.of fun k => signedT h (K := infP W P) (by omega) _ 0 k) (Ev.some _))))
  have bad : ∀ {r fl : Int}, r = ((infP W P + 2 ^ (P - 2) : Nat) : Int) → fl = 1 → Ev (fun k => verniertop_WholeProducts.j1 k F M r fl (ps W A) ka (ps W B) kb true na la ea nb lb eb) true := fun h1 h2 => by
    subst h1; subst h2
    exact Ev.congr (fun k => verniertop_WholeProducts.j1_eq k _ _ _ _ _ _ _ _ _ _ _ _ _ _ _) (Ev.pos rfl (Ev.bind (Ev.of fun k => failedT h k true) (Ev.some _)))
  rcases fa with ⟨ga, rfl⟩ | ⟨ga, rfl, rfl, xa, xa2, za⟩
  · rcases fb with ⟨gb, rfl⟩ | ⟨gb, rfl, rfl, xb, xb2, zb⟩
    · rw [if_neg (by omega), if_pos (by omega)] at hmul
      exact start rfl hmul (j0 (Ev.pos (by decide) (Ev.neg (by decide) (Ev.pos (by decide) (Ev.neg (by decide) (Ev.congr (fun k => verniertop_WholeProducts.j1_eq k _ _ _ _ _ _ _ _ _ _ _ _ _ _ _) (Ev.neg (by decide) (Ev.pos (by decide) infs))))))))
    · by_cases c0 : pk W B = 0
      · rw [if_pos (by omega)] at hmul
        exact start rfl hmul (j0 (Ev.pos (by decide) (Ev.pos (by decide) (Ev.pos (by rw [zb]; exact decide_eq_true c0) (bad rfl rfl)))))
      · rw [if_neg (by omega), if_pos (by omega)] at hmul
        exact start rfl hmul (j0 (Ev.pos (by decide) (Ev.pos (by decide) (Ev.neg (by rw [zb]; simpa using c0) (Ev.neg (by decide) (Ev.congr (fun k => verniertop_WholeProducts.j1_eq k _ _ _ _ _ _ _ _ _ _ _ _ _ _ _) (Ev.neg (by decide) (Ev.pos (by decide) infs))))))))
  · rcases fb with ⟨gb, rfl⟩ | ⟨gb, rfl, rfl, xb, xb2, zb⟩
    · by_cases c0 : pk W A = 0
      · rw [if_pos (by omega)] at hmul
        refine start rfl hmul (j0 (Ev.neg (by decide) (Ev.pos (by decide) (Ev.pos (by decide) ?_))))
        rw [za, decide_eq_true c0]
        exact bad rfl rfl
      · rw [if_neg (by omega), if_pos (by omega)] at hmul
        refine start rfl hmul (j0 (Ev.neg (by decide) (Ev.pos (by decide) (Ev.pos (by decide) ?_))))
        rw [za, decide_eq_false c0]
        exact Ev.congr (fun k => verniertop_WholeProducts.j1_eq k _ _ _ _ _ _ _ _ _ _ _ _ _ _ _) (Ev.neg (by decide) (Ev.neg (by decide) infs))
    · rw [if_neg (by omega), if_neg (by omega)] at hmul
      have j2 : ∀ {r fl : Int}, Ev (fun k => verniertop_WholeProducts.j2 k F M r fl (ps W A) (ps W B) false (ps W A) la ea (ps W B) lb eb) true → Ev (fun k => verniertop_WholeProducts.j0 k F M r fl F M (A : Int) (B : Int) (C' : Int)) true := fun g =>
        j0 (Ev.neg (by decide) (Ev.neg (by decide) (Ev.congr (fun k => verniertop_WholeProducts.j1_eq k _ _ _ _ _ _ _ _ _ _ _ _ _ _ _) (Ev.neg (by decide) (Ev.neg (by decide) g)))))
      have zer : Ev (fun k => verniertop_signed k F ((sgB (!(ps W A == ps W B)) W : Nat) : Int) 0 0 (!(ps W A == ps W B)) 0) true := Ev.of fun k => by
        have := signedT h (K := 0) hz (!(ps W A == ps W B)) 0 k
        rwa [Nat.zero_add] at this
      by_cases c0 : pk W A = 0
      · rw [if_pos (by omega)] at hmul
        refine start rfl hmul (j2 (Ev.congr (fun k => verniertop_WholeProducts.j2_eq k _ _ _ _ _ _ _ _ _ _ _ _ _) (Ev.neg (by decide) (Ev.pos (by rw [za]; exact decide_eq_true c0) (Ev.bind zer (Ev.some _))))))
      · by_cases d0 : pk W B = 0
        · rw [if_pos (by omega)] at hmul
          refine start rfl hmul (j2 (Ev.congr (fun k => verniertop_WholeProducts.j2_eq k _ _ _ _ _ _ _ _ _ _ _ _ _) (Ev.neg (by decide) (Ev.neg (by rw [za]; simpa using c0) (Ev.pos (by rw [zb]; exact decide_eq_true d0) (Ev.bind zer (Ev.some _)))))))
        · rw [if_neg (by omega)] at hmul
          obtain ⟨d, hd⟩ : ∃ d : Nat, (d : Int) = (P : Int) - em - 3 := ⟨((P : Int) - em - 3).toNat, by omega⟩
          rw [paR_prod h M (!(ps W A == ps W B)) hA hB c0 d0 (D := d + 2) (by omega), Nat.pow_add, Nat.mul_comm (2 ^ d), show (2 : Nat) ^ 2 = 4 from rfl] at hmul
          have va := plV_small h (k := pk W A) (by omega)
          have vb := plV_small h (k := pk W B) (by omega)
          have sm : ∀ x : Nat, 4 * x < 2 ^ xA → x < 2 ^ xA := fun x hx => by omega
          obtain ⟨l1, r1, r2⟩ := prodT xa xb (by omega) (by omega) (by omega) (p := xA) (by rw [xA_is]; omega) (by rw [tsg_abs]; exact sm _ va) (by rw [tsg_abs]; exact sm _ vb)
          rw [← sg_mul] at r2
          have hAB : plV P (pk W A) * plV P (pk W B) < 2 ^ xC := by
            have : plV P (pk W A) * plV P (pk W B) < 2 ^ xA * 2 ^ xA := Nat.mul_lt_mul'' (sm _ va) (sm _ vb)
            rw [← Nat.pow_add] at this
            exact Nat.lt_of_lt_of_le this (pow_mono2 (by rw [xA_is, xC_is]; decide))
          have an := answersT h (L := em - (P : Int) - 1) rfl (d := d) (by omega) (by omega) (by omega) r2 hAB hM
          refine start rfl hmul (j2 (Ev.congr (fun k => verniertop_WholeProducts.j2_eq k _ _ _ _ _ _ _ _ _ _ _ _ _) (Ev.neg (by decide) (Ev.neg (by rw [za]; simpa using c0) (Ev.neg (by rw [zb]; simpa using d0) (Ev.congr (fun k => verniertop_WholeProducts.j3_eq k _ _ _ _ _ _ _ _ _ _) (Ev.bind r1 (Ev.bind an (Ev.some _)))))))))
end Pure
end Go.Proofs.YtldjheckpophaaaDoor.X
