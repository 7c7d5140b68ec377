/- Plain law: DivAll answers true. Conditions: what the reading says of the script. -/
import Derived.Test.YtkcnbnilekfhdaaGreatDoorDivE
import Derived.Test.YtkcnbnilekfhdaaGreatDoorDivBk
import Derived.Test.YtkcnbnilekfhdaaGreatDoorRfH
namespace Go.Proofs.YtkcnbnilekfhdaaGreatDoor.X
open Go Go.Rex
set_option linter.unusedVariables false

/-- A pattern's class, and what the reference asks of it. -/
theorem cls10 {W P p : Nat} {neg : Bool} (hi : 0 < infP W P) : ∃ c na sa ia za, clsOf W P p neg = c ∧ decide (infP W P < p) = na ∧ decide (infP W P < p ∧ p < infP W P + 2 ^ (P - 2)) = sa ∧ decide (p = infP W P) = ia ∧ decide (p = 0) = za ∧
    ((c = 0 ∧ na = true ∧ sa = true ∧ ia = false ∧ za = false) ∨ (c = 1 ∧ na = true ∧ sa = false ∧ ia = false ∧ za = false) ∨ (c = 2 ∧ na = false ∧ sa = false ∧ ia = true ∧ za = false) ∨ (c = 9 ∧ na = false ∧ sa = false ∧ ia = true ∧ za = false) ∨
      (c = 5 ∧ na = false ∧ sa = false ∧ ia = false ∧ za = true) ∨ (c = 6 ∧ na = false ∧ sa = false ∧ ia = false ∧ za = true) ∨ (c = 3 ∧ na = false ∧ sa = false ∧ ia = false ∧ za = false ∧ p ≠ 0 ∧ p < infP W P) ∨ (c = 4 ∧ na = false ∧ sa = false ∧ ia = false ∧ za = false ∧ p ≠ 0 ∧ p < infP W P) ∨
      (c = 7 ∧ na = false ∧ sa = false ∧ ia = false ∧ za = false ∧ p ≠ 0 ∧ p < infP W P) ∨ (c = 8 ∧ na = false ∧ sa = false ∧ ia = false ∧ za = false ∧ p ≠ 0 ∧ p < infP W P)) := by
  have hq := Nat.two_pow_pos (P - 2)
  by_cases c1 : infP W P + 2 ^ (P - 2) ≤ p
  · refine ⟨1, true, false, false, false, by unfold clsOf; rw [if_pos c1], decide_eq_true (by omega), decide_eq_false (by omega), decide_eq_false (by omega), decide_eq_false (by omega), by simp⟩
  by_cases c2 : infP W P < p
  · refine ⟨0, true, true, false, false, by unfold clsOf; rw [if_neg c1, if_pos c2], decide_eq_true (by omega), decide_eq_true (by omega), decide_eq_false (by omega), decide_eq_false (by omega), by simp⟩
  by_cases c3 : p = infP W P
  · cases neg
    · refine ⟨9, false, false, true, false, by unfold clsOf; rw [if_neg c1, if_neg c2, if_neg (by simp), if_pos c3], decide_eq_false (by omega), decide_eq_false (by omega), decide_eq_true (by omega), decide_eq_false (by omega), by simp⟩
    · refine ⟨2, false, false, true, false, by unfold clsOf; rw [if_neg c1, if_neg c2, if_pos rfl, if_pos c3], decide_eq_false (by omega), decide_eq_false (by omega), decide_eq_true (by omega), decide_eq_false (by omega), by simp⟩
  by_cases c4 : p = 0
  · cases neg
    · refine ⟨6, false, false, false, true, by unfold clsOf; rw [if_neg c1, if_neg c2, if_neg (by simp), if_neg c3, if_pos c4], decide_eq_false (by omega), decide_eq_false (by omega), decide_eq_false (by omega), decide_eq_true (by omega), by simp⟩
    · refine ⟨5, false, false, false, true, by unfold clsOf; rw [if_neg c1, if_neg c2, if_pos rfl, if_neg c3, if_pos c4], decide_eq_false (by omega), decide_eq_false (by omega), decide_eq_false (by omega), decide_eq_true (by omega), by simp⟩
  refine ⟨clsOf W P p neg, false, false, false, false, rfl, decide_eq_false (by omega), decide_eq_false (by omega), decide_eq_false (by omega), decide_eq_false (by omega), ?_⟩
  have hlt : p < infP W P := by omega
  rcases cls_num (neg := neg) c4 hlt with e | e | e | e <;> simp [e, c4, hlt]
section
variable {f : Int} {W P : Nat} {em ex : Int} (h : Fm f W P em ex)
include h
theorem riszero_at {a : Nat} (ha : a < 2 ^ W) (k : Nat) : vernierref04_IsZero k f (a : Int) = some (decide (pk W a = 0)) := by
  have hd := Nat.div_add_mod (pk W a) (2 ^ (P - 1))
  rw [vernierref04_IsZero_eq, rparts_at h ha, Option.bind_some]
  show (if (((pk W a / 2 ^ (P - 1) : Nat) : Int) == 0) = true then some (((pk W a % 2 ^ (P - 1) : Nat) : Int) == 0) else some false) = _
  by_cases c : pk W a / 2 ^ (P - 1) = 0
  · rw [if_pos (bT (by omega))]
    by_cases c2 : pk W a % 2 ^ (P - 1) = 0
    · rw [c, c2, Nat.mul_zero] at hd
      rw [bT (by omega), decide_eq_true (by omega)]
    · rw [beq_eq_false_iff_ne.2 (by omega), decide_eq_false]
      intro e; rw [e] at c2; exact c2 (Nat.zero_mod _)
  · rw [if_neg (bF (by omega)), decide_eq_false]
    intro e; rw [e] at c; exact c (Nat.zero_div _)
/-- The reference's quotient of numbers. -/
theorem rround_ev {m : Int} {a b : Nat} (ha : a < 2 ^ W) (hb : b < 2 ^ W) (n : Bool) (g1 : pk W a ≠ 0 ∧ pk W a < infP W P) (g2 : pk W b ≠ 0 ∧ pk W b < infP W P) :
    Ev (fun k => vernierref08_Div.j2 k f m (a : Int) (b : Int) (if n then 1 else 0)) (raR W P em m n (oddN (plV P (pk W a))) (oddN (plV P (pk W b))) ((tz (plV P (pk W a)) : Int) - (tz (plV P (pk W b)) : Int))) := by
  rw [raR_plain h m n g1 g2]
  have h8 := h.p8; have h53 := h.p53; have m0 := h.m0; have m1 := h.m1; have h11 := h.wp11
  have num : ∀ {x : Nat}, x < 2 ^ W → pk W x ≠ 0 → ∃ N q : Nat, N < 18446744073709551616 ∧ N ≠ 0 ∧ q ≤ 2047 ∧ N * 2 ^ q = plV P (pk W x) ∧ ∀ k, vernierref04_Number k f (x : Int) = some ((N : Int), (q : Int) + (em - (P : Int) + 1)) := by
    intro x hx hx0
    have hv := plV_pat (P := P) (by omega) (pk W x)
    have hF := Nat.mod_lt (pk W x) (Nat.two_pow_pos (P - 1))
    have hn := fN_lt h (E := pk W x / 2 ^ (P - 1)) hF
    have hE2 : 2 ^ (W - P) ≤ 2 ^ 11 := pow_mono2 (by omega)
    obtain ⟨f1, f2, f3⟩ := field_top h hx
    refine ⟨_, _, hn, fun e => hx0 ((plV_zero (P := P) (by omega)).1 (by rw [← hv, e, Nat.zero_mul])), ?_, hv, rnum_at h hx⟩
    unfold fQ; split <;> omega
  obtain ⟨N, q, n1, n2, n3, n4, n5⟩ := num ha g1.1
  obtain ⟨M, t, m1', m2, m3, m4, m5⟩ := num hb g2.1
  refine Ev.congr (fun k => vernierref08_Div.j2_eq k _ _ _ _ _) (Ev.bind (Ev.of n5) (Ev.bind (Ev.of m5) ?_))
  have wf1 : ∀ {N : Nat}, N < 18446744073709551616 → WF ((List.replicate 1 (0 : Int)).set 0 (N : Int)) := fun h => WF.cons (by omega) (by omega) WF.nil
  have v1 : ∀ N : Nat, val ((List.replicate 1 (0 : Int)).set 0 (N : Int)) = N := fun N => by
    show (N : Int).toNat + 18446744073709551616 * 0 = N
    rw [Int.toNat_natCast]; omega
  have es : ((if n = true then (1 : Int) else 0) == 1) = n := by cases n <;> rfl
  have ee : IntKind.i64.wrap ((q : Int) + (em - (P : Int) + 1) - ((t : Int) + (em - (P : Int) + 1))) = (q : Int) - (t : Int) := by rw [wrapI (by omega) (by omega)]; omega
  show Ev (fun k => (vernierref05_Round k f m ((if n = true then (1 : Int) else 0) == 1) ((List.replicate 1 (0 : Int)).set 0 (N : Int)) ((List.replicate 1 (0 : Int)).set 0 (M : Int)) (IntKind.i64.wrap ((q : Int) + (em - (P : Int) + 1) - ((t : Int) + (em - (P : Int) + 1))))).bind fun o18 => some (o18.1, (o18.2, (0 : Int)))) _
  rw [es, ee]
  have rd := Round_ev h (wf1 n1) (wf1 m1') (by simp) (by simp) (by rw [v1]; exact m2) (e := (q : Int) - (t : Int)) (by omega) m n
  rw [v1, v1, if_neg n2] at rd
  refine Ev.bind rd (Ev.eq (Ev.some _) ?_)
  have cr := ratio_cross (l := em - (P : Int) + 1) (by omega) N M q t
  rw [n4, m4] at cr
  have hM : 0 < M := by omega
  have hq0 : 0 < plV P (pk W b) := by rw [← m4]; exact Nat.mul_pos hM (Nat.two_pow_pos _)
  rw [rnOut_cross W P m n (rB_pos hM _ _) hq0 cr]
/-- The reference's quotient. -/
theorem rDiv_ev {m : Int} (hm : Md m) {a b : Nat} (ha : a < 2 ^ W) (hb : b < 2 ^ W) : Ev (fun k => vernierref08_Div k f m (a : Int) (b : Int)) (dvR (clsOf W P (pk W a) (ps W a)) (clsOf W P (pk W b) (ps W b)) ((infP W P + 2 ^ (P - 2) : Nat) : Int) ((infP W P + sgB (!(ps W a == ps W b)) W : Nat) : Int) ((sgB (!(ps W a == ps W b)) W : Nat) : Int) (raR W P em m (!(ps W a == ps W b)) (oddN (plV P (pk W a))) (oddN (plV P (pk W b))) ((tz (plV P (pk W a)) : Int) - (tz (plV P (pk W b)) : Int)))) := by
  have hm0 := hm.m0; have hm5 := hm.m5
  have hip := infP_le h
  have h8 := h.p8
  have i1 : 0 < infP W P := Nat.mul_pos (by have := (eTop_le h).2; omega) (Nat.two_pow_pos _)
  obtain ⟨p1, p2, p3, p4, p5, p6⟩ := pat_parts h ha
  obtain ⟨q1, q2, q3, q4, q5, q6⟩ := pat_parts h hb
  have gd : Ev (fun k => vernierref08_Good k f m) 0 := Ev.congr (fun k => vernierref08_Good_eq k _ _) (Ev.bind (Ev.of fun k => row_at h k) (Ev.neg (notF rfl) (Ev.neg (dF (by omega)) (Ev.neg (dF (by omega)) (Ev.some _)))))
  have ca : Ev (fun k => vernierref04_Check k f (a : Int)) 0 := Ev.of fun k => by rw [rcheck_at h k a p6, if_pos ha]
  have cb : Ev (fun k => vernierref04_Check k f (b : Int)) 0 := Ev.of fun k => by rw [rcheck_at h k b q6, if_pos hb]
  refine Ev.congr (fun k => vernierref08_Div_eq k _ _ _ _) (Ev.bind gd (Ev.neg (nF rfl) (Ev.bind ca (Ev.neg (nF rfl) (Ev.bind cb (Ev.neg (nF rfl) (Ev.congr (fun k => vernierref08_Div.j0_eq k _ _ _ _) ?_)))))))
  have na := risnan_at h ha; have nb := risnan_at h hb
  have sa := rsig_at h ha; have sb := rsig_at h hb
  have ia := risinf_at h ha; have ib := risinf_at h hb
  have za := riszero_at h ha; have zb := riszero_at h hb
  have ga := rsg_at h ha; have gb := rsg_at h hb
  have nn := rnan_at h
  have ii := rinf_at h
  have zz := rzero_at h
  obtain ⟨c, b1, b2, b3, b4, e0, e1, e2, e3, e4, hc⟩ := cls10 (W := W) (P := P) (p := pk W a) (neg := ps W a) i1
  obtain ⟨d, d1, d2, d3, d4, f0, f1, f2, f3, f4, hd⟩ := cls10 (W := W) (P := P) (p := pk W b) (neg := ps W b) i1
  have j2 := rround_ev h (m := m) ha hb (!(ps W a == ps W b))
  rw [e1] at na; rw [e2] at sa; rw [e3] at ia; rw [e4] at za
  rw [f1] at nb; rw [f2] at sb; rw [f3] at ib; rw [f4] at zb
  rw [e0, f0]
  have hx : xorK IntKind.u64 (if ps W a = true then (1 : Int) else 0) (if ps W b = true then (1 : Int) else 0) = if (!(ps W a == ps W b)) = true then (1 : Int) else 0 := by
    cases ps W a <;> cases ps W b <;> decide +kernel
  clear e0 e1 e2 e3 e4 f0 f1 f2 f3 f4 ca cb gd
  generalize (if ps W a = true then (1 : Int) else 0) = u at *
  generalize (if ps W b = true then (1 : Int) else 0) = v at *
  generalize (!(ps W a == ps W b)) = n at *
  generalize raR W P em m n (oddN (plV P (pk W a))) (oddN (plV P (pk W b))) ((tz (plV P (pk W a)) : Int) - (tz (plV P (pk W b)) : Int)) = r at *
  generalize pk W a = p at *
  generalize pk W b = q at *
  rcases hc with ⟨rfl, rfl, rfl, rfl, rfl⟩ | ⟨rfl, rfl, rfl, rfl, rfl⟩ | ⟨rfl, rfl, rfl, rfl, rfl⟩ | ⟨rfl, rfl, rfl, rfl, rfl⟩ | ⟨rfl, rfl, rfl, rfl, rfl⟩ | ⟨rfl, rfl, rfl, rfl, rfl⟩ | ⟨rfl, rfl, rfl, rfl, rfl, g1⟩ | ⟨rfl, rfl, rfl, rfl, rfl, g1⟩ | ⟨rfl, rfl, rfl, rfl, rfl, g1⟩ | ⟨rfl, rfl, rfl, rfl, rfl, g1⟩ <;>
    rcases hd with ⟨rfl, rfl, rfl, rfl, rfl⟩ | ⟨rfl, rfl, rfl, rfl, rfl⟩ | ⟨rfl, rfl, rfl, rfl, rfl⟩ | ⟨rfl, rfl, rfl, rfl, rfl⟩ | ⟨rfl, rfl, rfl, rfl, rfl⟩ | ⟨rfl, rfl, rfl, rfl, rfl⟩ | ⟨rfl, rfl, rfl, rfl, rfl, g2⟩ | ⟨rfl, rfl, rfl, rfl, rfl, g2⟩ | ⟨rfl, rfl, rfl, rfl, rfl, g2⟩ | ⟨rfl, rfl, rfl, rfl, rfl, g2⟩ <;>
    first
    | (refine Ev.congr (fun k => ?_) (j2 g1 g2); simp [vernierref08_NaNs_eq, vernierref08_Div.j1_eq, na, nb, sa, sb, ia, ib, za, zb, ga, gb, hx])
    | (refine Ev.of fun k => ?_; simp [vernierref08_NaNs_eq, vernierref08_Div.j1_eq, na, nb, sa, sb, ia, ib, za, zb, ga, gb, hx, nn, ii, zz, dvR])
end
/-! ### The errors -/
theorem row_bad {f : Int} (hf : ¬ (0 ≤ f ∧ f < 4)) : Ev (fun k => vernierref04_Row k f) ((0 : Int), ((0 : Int), ((0 : Int), ((0 : Int), false)))) :=
  Ev.of fun k => by
    rw [vernierref04_Row_eq, if_neg (bF (by omega)), if_neg (bF (by omega)), if_neg (bF (by omega)), if_neg (bF (by omega))]
theorem dref_f {f : Int} (hf : ¬ (0 ≤ f ∧ f < 4)) (m : Int) (l : List Int) : Ev (fun k => div_refuses k f m l) 2 :=
  Ev.congr (fun k => div_refuses_eq k _ _ _) (Ev.bind (params_bad (by omega)) (Ev.pos (nT (by decide)) (Ev.some _)))
section
variable {f : Int} {W P : Nat} {em ex : Int} (h : Fm f W P em ex)
include h
theorem dref_m {m : Int} (hm : ¬ (0 ≤ m ∧ m ≤ 5)) (l : List Int) : Ev (fun k => div_refuses k f m l) 3 := by
  refine Ev.congr (fun k => div_refuses_eq k _ _ _) (Ev.bind (Ev.of fun k => params_at h k) (Ev.neg (nF rfl) ?_))
  by_cases c : m < 0
  · exact Ev.pos (dT c) (Ev.some _)
  · exact Ev.neg (dF c) (Ev.pos (dT (by omega)) (Ev.some _))
theorem dref_l {m : Int} (hm : 0 ≤ m ∧ m ≤ 5) (l : List Int) {e : Int} (hl : Ev2 (fun k n => div_refuses.l0 k n f l (l.length : Int) 0) e) : Ev (fun k => div_refuses k f m l) e :=
  Ev.congr (fun k => div_refuses_eq k _ _ _) (Ev.bind (Ev.of fun k => params_at h k) (Ev.neg (nF rfl) (Ev.neg (dF (by omega)) (Ev.neg (dF (by omega)) hl.ev))))
theorem chk_ev {a : Nat} (ha : a < 18446744073709551616) : Ev (fun k => format_Check k f (a : Int)) (if a < 2 ^ W then 0 else 4) := Ev.of fun k => check_at h k a ha
theorem rchk_ev {a : Nat} (ha : a < 18446744073709551616) : Ev (fun k => vernierref04_Check k f (a : Int)) (if a < 2 ^ W then 0 else 4) := Ev.of fun k => rcheck_at h k a ha
theorem dref_1 {m : Int} (hm : 0 ≤ m ∧ m ≤ 5) {a : Nat} (ha : a < 18446744073709551616) : Ev (fun k => div_refuses k f m ((List.replicate 1 (0 : Int)).set 0 (a : Int))) (if a < 2 ^ W then 0 else 4) := by
  have e : ((List.replicate 1 (0 : Int)).set 0 (a : Int)) = [(a : Int)] := rfl
  rw [e]
  have ca := chk_ev h ha
  refine dref_l h hm _ ?_
  show Ev2 (fun k n => div_refuses.l0 k n f [(a : Int)] 1 0) _
  refine Ev2.step (fun k n => div_refuses.l0_eq k n _ _ _ _) (Ev2.pos (by decide) (Ev2.pos ⟨by decide, by simp⟩ (Ev2.call ca ?_)))
  by_cases c : a < 2 ^ W
  · rw [if_pos c]
    exact Ev2.neg (nF rfl) (Ev2.step (fun k n => div_refuses.l0_eq k n _ _ _ _) (Ev2.neg (by decide) (Ev2.some _)))
  · rw [if_neg c]
    exact Ev2.pos (nT (by decide)) (Ev2.some _)
theorem dref_2 {m : Int} (hm : 0 ≤ m ∧ m ≤ 5) {a b : Nat} (ha : a < 18446744073709551616) (hb : b < 18446744073709551616) (hbad : ¬ (a < 2 ^ W ∧ b < 2 ^ W)) : Ev (fun k => div_refuses k f m (((List.replicate 2 (0 : Int)).set 0 (a : Int)).set 1 (b : Int))) 4 := by
  have e : (((List.replicate 2 (0 : Int)).set 0 (a : Int)).set 1 (b : Int)) = [(a : Int), (b : Int)] := rfl
  rw [e]
  have ca := chk_ev h ha
  have cb := chk_ev h hb
  refine dref_l h hm _ ?_
  show Ev2 (fun k n => div_refuses.l0 k n f [(a : Int), (b : Int)] 2 0) _
  refine Ev2.step (fun k n => div_refuses.l0_eq k n _ _ _ _) (Ev2.pos (by decide) (Ev2.pos ⟨by decide, by simp⟩ (Ev2.call ca ?_)))
  by_cases c : a < 2 ^ W
  · rw [if_pos c]
    rw [if_neg (fun g => hbad ⟨c, g⟩)] at cb
    exact Ev2.neg (nF rfl) (Ev2.step (fun k n => div_refuses.l0_eq k n _ _ _ _) (Ev2.pos (by decide) (Ev2.pos ⟨by decide, by show IntKind.i64.wrap (0 + 1) < ((2 : Nat) : Int); decide⟩ (Ev2.call cb (Ev2.pos (nT (by decide)) (Ev2.some _))))))
  · rw [if_neg c]
    exact Ev2.pos (nT (by decide)) (Ev2.some _)
end
theorem both_div (f m : Int) {a b : Nat} (ha : a < 18446744073709551616) (hb : b < 18446744073709551616) : ∃ r, Ev (fun k => div_Div k f m (a : Int) (b : Int)) r ∧ Ev (fun k => vernierref08_Div k f m (a : Int) (b : Int)) r := by
  by_cases hf : 0 ≤ f ∧ f < 4
  case neg =>
    refine ⟨(0, (0, 2)), Ev.congr (fun k => div_Div_eq k _ _ _ _) (Ev.bind (dref_f hf m _) (Ev.pos (nT (by decide)) (Ev.some _))), ?_⟩
    exact Ev.congr (fun k => vernierref08_Div_eq k _ _ _ _) (Ev.bind (Ev.congr (fun k => vernierref08_Good_eq k _ _) (Ev.bind (row_bad hf) (Ev.pos rfl (Ev.some _)))) (Ev.pos (nT (by decide)) (Ev.some _)))
  obtain ⟨W, P, em, ex, h⟩ := fm_of hf.1 hf.2
  by_cases hm : 0 ≤ m ∧ m ≤ 5
  case neg =>
    refine ⟨(0, (0, 3)), Ev.congr (fun k => div_Div_eq k _ _ _ _) (Ev.bind (dref_m h hm _) (Ev.pos (nT (by decide)) (Ev.some _))), ?_⟩
    have gd : Ev (fun k => vernierref08_Good k f m) 3 := by
      refine Ev.congr (fun k => vernierref08_Good_eq k _ _) (Ev.bind (Ev.of fun k => row_at h k) (Ev.neg (notF rfl) ?_))
      by_cases c : m < 0
      · exact Ev.pos (dT c) (Ev.some _)
      · exact Ev.neg (dF c) (Ev.pos (dT (by omega)) (Ev.some _))
    exact Ev.congr (fun k => vernierref08_Div_eq k _ _ _ _) (Ev.bind gd (Ev.pos (nT (by decide)) (Ev.some _)))
  have gd : Ev (fun k => vernierref08_Good k f m) 0 := Ev.congr (fun k => vernierref08_Good_eq k _ _) (Ev.bind (Ev.of fun k => row_at h k) (Ev.neg (notF rfl) (Ev.neg (dF (by omega)) (Ev.neg (dF (by omega)) (Ev.some _)))))
  by_cases c : a < 2 ^ W ∧ b < 2 ^ W
  · exact ⟨_, Div_ev h ⟨hm.1, hm.2⟩ c.1 c.2, rDiv_ev h ⟨hm.1, hm.2⟩ c.1 c.2⟩
  · refine ⟨(0, (0, 4)), Ev.congr (fun k => div_Div_eq k _ _ _ _) (Ev.bind (dref_2 h hm ha hb c) (Ev.pos (nT (by decide)) (Ev.some _))), ?_⟩
    refine Ev.congr (fun k => vernierref08_Div_eq k _ _ _ _) (Ev.bind gd (Ev.neg (nF rfl) (Ev.bind (rchk_ev h ha) ?_)))
    by_cases c1 : a < 2 ^ W
    · have cb := rchk_ev h hb
      rw [if_neg (fun g => c ⟨c1, g⟩)] at cb
      rw [if_pos c1]
      exact Ev.neg (nF rfl) (Ev.bind cb (Ev.pos (nT (by decide)) (Ev.some _)))
    · rw [if_neg c1]
      exact Ev.pos (nT (by decide)) (Ev.some _)
theorem both_recip (f m : Int) {b : Nat} (hb : b < 18446744073709551616) : ∃ r, Ev (fun k => div_Recip k f m (b : Int)) r ∧ Ev (fun k => vernierref08_Recip k f m (b : Int)) r := by
  by_cases hf : 0 ≤ f ∧ f < 4
  case neg =>
    exact ⟨(0, (0, 2)), Ev.congr (fun k => div_Recip_eq k _ _ _) (Ev.bind (dref_f hf m _) (Ev.pos (nT (by decide)) (Ev.some _))), Ev.congr (fun k => vernierref08_Recip_eq k _ _ _) (Ev.bind (row_bad hf) (Ev.pos rfl (Ev.some _)))⟩
  obtain ⟨W, P, em, ex, h⟩ := fm_of hf.1 hf.2
  have h8 := h.p8; have h53 := h.p53; have m0 := h.m0; have m1 := h.m1
  have hx := (fm_ex h).1
  have ht := (fm_ex h).2.2
  obtain ⟨X, hX⟩ : ∃ X : Nat, ex = (X : Int) := ⟨ex.toNat, by omega⟩
  obtain ⟨o1, o2, o3, o4, o5, o6, o7, o8⟩ := pow_pat h (K := X) (by omega) (by omega)
  obtain ⟨w1, w2, w3, w4⟩ := wW h
  obtain ⟨r, r1, r2⟩ := both_div f m (a := X * 2 ^ (P - 1)) (b := b) (by omega) hb
  have mk : Ev (fun k => vernierref04_Make k f 0 (IntKind.u64.wrap ex) 0) ((X * 2 ^ (P - 1) : Nat) : Int) := Ev.of fun k => by
    have := make_at h k false (E := X) (F := 0) (by have := eTop_lt W P; omega) (Nat.two_pow_pos _)
    rw [show sgB false W = 0 by unfold sgB; rw [if_neg (by simp)], Nat.add_zero] at this
    rw [hX, wrapUn (by omega)]
    exact this
  have rr : Ev (fun k => vernierref08_Recip k f m (b : Int)) r := Ev.congr (fun k => vernierref08_Recip_eq k _ _ _) (Ev.bind (Ev.of fun k => row_at h k) (Ev.neg (notF rfl) (Ev.bind mk (Ev.bind r2 (Ev.some _)))))
  by_cases hm : 0 ≤ m ∧ m ≤ 5
  case neg =>
    refine ⟨(0, (0, 3)), Ev.congr (fun k => div_Recip_eq k _ _ _) (Ev.bind (dref_m h hm _) (Ev.pos (nT (by decide)) (Ev.some _))), ?_⟩
    have gd : Ev (fun k => vernierref08_Good k f m) 3 := by
      refine Ev.congr (fun k => vernierref08_Good_eq k _ _) (Ev.bind (Ev.of fun k => row_at h k) (Ev.neg (notF rfl) ?_))
      by_cases c : m < 0
      · exact Ev.pos (dT c) (Ev.some _)
      · exact Ev.neg (dF c) (Ev.pos (dT (by omega)) (Ev.some _))
    have dd : Ev (fun k => vernierref08_Div k f m ((X * 2 ^ (P - 1) : Nat) : Int) (b : Int)) (0, (0, 3)) := Ev.congr (fun k => vernierref08_Div_eq k _ _ _ _) (Ev.bind gd (Ev.pos (nT (by decide)) (Ev.some _)))
    exact Ev.congr (fun k => vernierref08_Recip_eq k _ _ _) (Ev.bind (Ev.of fun k => row_at h k) (Ev.neg (notF rfl) (Ev.bind mk (Ev.bind dd (Ev.some _)))))
  have d1 := dref_1 h hm hb
  by_cases c : b < 2 ^ W
  · rw [if_pos c] at d1
    refine ⟨r, Ev.congr (fun k => div_Recip_eq k _ _ _) (Ev.bind d1 (Ev.neg (nF rfl) (Ev.bind (Ev.of fun k => params_at h k) ?_))), rr⟩
    show Ev (fun k => ((format_Pack k f false (IntKind.u64.wrap ex) 0)).bind fun o2 => ((div_Div k f m o2.1 (b : Int))).bind fun o3 => some (o3.1, (o3.2.1, o3.2.2))) _
    rw [hX, wrapUn (by omega)]
    exact Ev.bind (Ev.of fun k => pack_pow h k (by omega)) (Ev.bind r1 (Ev.some _))
  · rw [if_neg c] at d1
    refine ⟨(0, (0, 4)), Ev.congr (fun k => div_Recip_eq k _ _ _) (Ev.bind d1 (Ev.pos (nT (by decide)) (Ev.some _))), ?_⟩
    have gd : Ev (fun k => vernierref08_Good k f m) 0 := Ev.congr (fun k => vernierref08_Good_eq k _ _) (Ev.bind (Ev.of fun k => row_at h k) (Ev.neg (notF rfl) (Ev.neg (dF (by omega)) (Ev.neg (dF (by omega)) (Ev.some _)))))
    have ca := rchk_ev h (a := X * 2 ^ (P - 1)) (by omega)
    have cb := rchk_ev h hb
    rw [if_pos o3] at ca
    rw [if_neg c] at cb
    have dd : Ev (fun k => vernierref08_Div k f m ((X * 2 ^ (P - 1) : Nat) : Int) (b : Int)) (0, (0, 4)) := Ev.congr (fun k => vernierref08_Div_eq k _ _ _ _) (Ev.bind gd (Ev.neg (nF rfl) (Ev.bind ca (Ev.neg (nF rfl) (Ev.bind cb (Ev.pos (nT (by decide)) (Ev.some _)))))))
    exact Ev.congr (fun k => vernierref08_Recip_eq k _ _ _) (Ev.bind (Ev.of fun k => row_at h k) (Ev.neg (notF rfl) (Ev.bind mk (Ev.bind dd (Ev.some _)))))
namespace Pure
abbrev DTwo := Int × (Int × (Int × Int))
abbrev DTwoTy : Ty := .pair (.int .i64) (.pair (.int .i64) (.pair (.int .u64) (.int .u64)))
theorem all08_l0 {l : List DTwo} (hl : l.length ≤ 17592186044416) (H : ∀ o ∈ l, (0 ≤ o.2.2.1 ∧ o.2.2.1 < 18446744073709551616) ∧ (0 ≤ o.2.2.2 ∧ o.2.2.2 < 18446744073709551616)) (n : Nat) : ∀ i : Nat, i + n = l.length → Ev2 (fun k m => vernierlaw08_DivAll.l0 k m l (l.length : Int) (i : Int)) true := by
  induction n with
  | zero =>
    intro i hi
    exact Ev2.step (fun k m => vernierlaw08_DivAll.l0_eq k m _ _ _) (Ev2.neg (dF (by omega)) (Ev2.some _))
  | succ n ih =>
    intro i hi
    refine Ev2.step (fun k m => vernierlaw08_DivAll.l0_eq k m _ _ _) ?_
    rw [Int.toNat_natCast]
    have hmem : l.getD i (0, (0, (0, 0))) ∈ l := by rw [List.getD_eq_getElem?_getD, List.getElem?_eq_getElem (show i < l.length by omega)]; exact List.getElem_mem _
    have Ho := H _ hmem
    generalize l.getD i (0, (0, (0, 0))) = o at *
    obtain ⟨f, m, a, b⟩ := o
    obtain ⟨Ha, Hb⟩ := Ho
    obtain ⟨x, rfl⟩ := Int.eq_ofNat_of_zero_le Ha.1
    obtain ⟨y, rfl⟩ := Int.eq_ofNat_of_zero_le Hb.1
    have hx : x < 18446744073709551616 := by have := Ha.2; simp only at this; omega
    have hy : y < 18446744073709551616 := by have := Hb.2; simp only at this; omega
    obtain ⟨r, r1, r2⟩ := both_div f m hx hy
    obtain ⟨s, s1, s2⟩ := both_recip f m hy
    refine Ev2.pos (dT (by omega)) (Ev2.pos ⟨by omega, by omega⟩ (Ev2.call r1 (Ev2.call r2 (Ev2.neg (nF rfl) (Ev2.neg (nF rfl) (Ev2.neg (nF rfl) ?_))))))
    refine Ev2.congr (fun k m => vernierlaw08_DivAll.j1_eq k m _ _ _ _ _ _ _) (Ev2.call s1 (Ev2.call s2 (Ev2.neg (nF rfl) (Ev2.neg (nF rfl) (Ev2.neg (nF rfl) ?_)))))
    rw [succ_i i (by omega)]
    exact ih (i + 1) (by omega)
/-- For all scripts: true. -/
theorem DivAll (l : List DTwo) (w : WFt (.sl DTwoTy) l) : Ev (fun k => vernierlaw08_DivAll k l) true := by
  obtain ⟨h1, h2⟩ := w
  have hl : l.length ≤ 17592186044416 := by simp only [minB, IntKind.bits] at h1; omega
  exact Ev.congr (fun k => vernierlaw08_DivAll_eq k _) (Ev.bind awake08_ev (Ev.neg (notF rfl) (all08_l0 hl (fun o ho => ⟨wf_u64 (h2 o ho).2.2.1, wf_u64 (h2 o ho).2.2.2⟩) l.length 0 (by omega)).ev))
end Pure
end Go.Proofs.YtkcnbnilekfhdaaGreatDoor.X
