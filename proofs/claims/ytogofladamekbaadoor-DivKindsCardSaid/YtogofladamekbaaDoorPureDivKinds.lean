/- Plain law: DivKinds answers true. Conditions: what the reading says of the arguments. -/
import Derived.Test.YtogofladamekbaaDoorDivA
namespace Go.Proofs.YtogofladamekbaaDoor.X
open Go Go.Rex
set_option linter.unusedVariables false

theorem awake08_ev : Ev (fun k => vernierlaw08_awake k) true := by
  have e1 : pk 32 1065353216 = 1065353216 := by decide +kernel
  have e2 : ps 32 1065353216 = false := by decide +kernel
  have e3 : pk 32 1077936128 = 1077936128 := by decide +kernel
  have e4 : ps 32 1077936128 = false := by decide +kernel
  have v1 : plV 24 1065353216 = 2 ^ 149 * (2 * 0 + 1) := by decide +kernel
  have v2 : plV 24 1077936128 = 2 ^ 149 * (2 * 1 + 1) := by decide +kernel
  have t1 : tz (plV 24 1065353216) = 149 := by rw [v1, tz_eq]
  have t2 : tz (plV 24 1077936128) = 149 := by rw [v2, tz_eq]
  have o1 : oddN (plV 24 1065353216) = 1 := by unfold oddN; rw [t1, v1]
  have o2 : oddN (plV 24 1077936128) = 3 := by unfold oddN; rw [t2, v2]
  have c1 : clsOf 32 24 1065353216 false = 8 := by decide +kernel
  have c2 : clsOf 32 24 1077936128 false = 8 := by decide +kernel
  have p := Div_ev fm32 (m := 0) ⟨by decide, by decide⟩ (a := 1065353216) (b := 1077936128) (by decide) (by decide)
  rw [e1, e2, e3, e4, t1, t2, o1, o2, c1, c2] at p
  have er : raR 32 24 (-126) 0 (!(false == false)) 1 3 (((149 : Nat) : Int) - ((149 : Nat) : Int)) = (1051372203, (16, 0)) := raR_third
  rw [er] at p
  refine Ev.congr (fun k => vernierlaw08_awake_eq k) (Ev.bind p ?_)
  exact Ev.pos rfl (Ev.pos rfl (Ev.some _))
theorem j8_at (k : Nat) (x0 x1 x2 x3 x4 : Int) (b5 b6 b7 b8 b9 : Bool) : vernierlaw08_DivKinds.j8 k x0 x1 x2 x3 x4 b5 b6 b7 b8 b9 = (if b9 then (if x0 == x2 then some (x1 == 0) else some false)
    else if (b5 && b6) || (b7 && b8) then (if x0 == x2 then some (x1 == 1) else some false) else if b5 then (if x0 == x3 then some (x1 == 0) else some false) else if b6 || b7 then (if x0 == x4 then some (x1 == 0) else some false) else if b8 then (if x0 == x3 then some (x1 == 2) else some false) else some ((andK IntKind.i64 x1 3) == 0)) := by
  cases b5 <;> cases b6 <;> cases b7 <;> cases b8 <;> cases b9 <;> kernel_rfl
section
variable {f : Int} {W P : Nat} {em ex : Int} (h : Fm f W P em ex)
include h
theorem cut08_ev {x : Nat} (hx : x < 18446744073709551616) : Ev (fun k => vernierlaw08_cut k f (x : Int)) ((x % 2 ^ W : Nat) : Int) := by
  have h8 := h.p8; have h3 := h.wp; have h64 := h.w64
  refine Ev.congr (fun k => vernierlaw08_cut_eq k _ _) (Ev.bind (Ev.of fun k => params_at h k) (Ev.neg (dF ?_) (Ev.neg (dF ?_) ?_)))
  · show ¬ ((W : Int) < 1); omega
  · show ¬ ((W : Int) > 64); omega
  show Ev (fun k => (if 0 ≤ (IntKind.u64.wrap (IntKind.i64.wrap (64 - (W : Int)))) then (if 0 ≤ (IntKind.u64.wrap (IntKind.i64.wrap (64 - (W : Int)))) then some (shrK IntKind.u64 (shlK IntKind.u64 (x : Int) (IntKind.u64.wrap (IntKind.i64.wrap (64 - (W : Int))))) (IntKind.u64.wrap (IntKind.i64.wrap (64 - (W : Int))))) else none) else none)) _
  have ew : IntKind.u64.wrap (IntKind.i64.wrap (64 - (W : Int))) = ((64 - W : Nat) : Int) := by
    rw [wrapI (by omega) (by omega), wrap_u64]; omega
  rw [ew, cut_low x W h64]
  exact Ev.pos (by omega) (Ev.pos (by omega) (Ev.some _))
omit h in
theorem rnOut_flags (m : Int) (neg : Bool) (A B : Nat) : (andK .i64 (rnOut W P m neg A B).2 3 == 0) = true := by
  unfold rnOut
  split
  · show (andK .i64 20 3 == 0) = true; decide +kernel
  · show (andK .i64 (if lftP P A B = 0 then 0 else if tinyB P m neg A B then 24 else 16) 3 == 0) = true
    split
    · decide +kernel
    · split <;> decide +kernel
theorem raR_fine (m : Int) (neg : Bool) {p q : Nat} (g1 : p ≠ 0 ∧ p < infP W P) (g2 : q ≠ 0 ∧ q < infP W P) : ∃ x y : Int, raR W P em m neg (oddN (plV P p)) (oddN (plV P q)) ((tz (plV P p) : Int) - (tz (plV P q) : Int)) = (x, (y, 0)) ∧ (andK .i64 y 3 == 0) = true := by
  have hip := infP_le h
  have hpp := Nat.two_pow_pos (P - 1)
  obtain ⟨w1, w2, w3, w4⟩ := plV_facts h g1.1 (by omega)
  obtain ⟨x1, x2, x3, x4⟩ := plV_facts h g2.1 (by omega)
  have l1 : (digs (oddN (plV P p))).length ≤ 1 := digs_length_lt.2 (by rw [Nat.pow_one]; exact w4)
  have l2 : (digs (oddN (plV P q))).length ≤ 1 := digs_length_lt.2 (by rw [Nat.pow_one]; exact x4)
  have e : raR W P em m neg (oddN (plV P p)) (oddN (plV P q)) ((tz (plV P p) : Int) - (tz (plV P q) : Int)) = ((rnOut W P m neg (rA (oddN (plV P p)) ((tz (plV P p) : Int) - (tz (plV P q) : Int)) (em - (P : Int) + 1)) (rB (oddN (plV P q)) ((tz (plV P p) : Int) - (tz (plV P q) : Int)) (em - (P : Int) + 1))).1, ((rnOut W P m neg (rA (oddN (plV P p)) ((tz (plV P p) : Int) - (tz (plV P q) : Int)) (em - (P : Int) + 1)) (rB (oddN (plV P q)) ((tz (plV P p) : Int) - (tz (plV P q) : Int)) (em - (P : Int) + 1))).2, 0)) := by
    unfold raR
    rw [if_neg (by omega), if_neg (by omega), if_neg (oddN_ne x1), if_neg (oddN_ne w1)]
  exact ⟨_, _, e, rnOut_flags m neg _ _⟩
end
namespace Pure
abbrev TwoTy : Ty := .pair (.int .i64) (.pair (.int .i64) (.pair (.int .u64) (.int .u64)))
theorem DivKinds (t : Int × (Int × (Int × Int))) (w : WFt TwoTy t) : Ev (fun k => vernierlaw08_DivKinds k t.1 t.2.1 t.2.2.1 t.2.2.2) true := by
  obtain ⟨w1, w2, w3, w4⟩ := w
  obtain ⟨f, m, a, b⟩ := t
  have ha : 0 ≤ a ∧ a < 18446744073709551616 := wf_u64 w3
  have hb : 0 ≤ b ∧ b < 18446744073709551616 := wf_u64 w4
  show Ev (fun k => vernierlaw08_DivKinds k f m a b) true
  refine Ev.congr (fun k => vernierlaw08_DivKinds_eq k _ _ _ _) (Ev.bind awake08_ev (Ev.neg (notF rfl) ?_))
  by_cases c1 : f < 0
  · exact Ev.pos (dT c1) (Ev.some _)
  · refine Ev.neg (dF c1) ?_
    by_cases c2 : f > 3
    · exact Ev.pos (dT c2) (Ev.some _)
    · refine Ev.neg (dF c2) ?_
      by_cases c3 : m < 0
      · exact Ev.pos (dT c3) (Ev.some _)
      · refine Ev.neg (dF c3) ?_
        by_cases c4 : m > 5
        · exact Ev.pos (dT c4) (Ev.some _)
        · refine Ev.neg (dF c4) (Ev.congr (fun k => vernierlaw08_DivKinds.j0_eq k _ _ _ _) ?_)
          obtain ⟨W, P, em, ex, h⟩ := fm_of (f := f) (by omega) (by omega)
          obtain ⟨x, rfl⟩ := Int.eq_ofNat_of_zero_le ha.1
          obtain ⟨y, rfl⟩ := Int.eq_ofNat_of_zero_le hb.1
          have l1 := Nat.mod_lt x (Nat.two_pow_pos W)
          have l2 := Nat.mod_lt y (Nat.two_pow_pos W)
          refine Ev.bind (cut08_ev h (x := x) (by omega)) (Ev.bind (cut08_ev h (x := y) (by omega)) ?_)
          generalize x % 2 ^ W = A at *
          generalize y % 2 ^ W = B at *
          have dv := Div_ev h (m := m) ⟨by omega, by omega⟩ l1 l2
          have k1 := Ev.of fun k => class_pk h l1 k
          have k2 := Ev.of fun k => class_pk h l2 k
          obtain ⟨c, hc, hcc⟩ := cls_cases (W := W) (P := P) (p := pk W A) (neg := ps W A) (Nat.two_pow_pos _)
          obtain ⟨d, hd, hdd⟩ := cls_cases (W := W) (P := P) (p := pk W B) (neg := ps W B) (Nat.two_pow_pos _)
          have fine := raR_fine h m (!(ps W A == ps W B)) (p := pk W A) (q := pk W B)
          rw [hc] at dv k1
          rw [hd] at dv k2
          generalize pk W A = p at *
          generalize pk W B = q at *
          generalize ps W A = s at *
          generalize ps W B = t at *
          generalize raR W P em m (!(s == t)) (oddN (plV P p)) (oddN (plV P q)) ((tz (plV P p) : Int) - (tz (plV P q) : Int)) = r at *
          have nn := nan_at h
          have ii := inf_at h
          have zz := zero_at h
          refine Ev.bind dv (Ev.bind k1 (Ev.bind k2 (Ev.bind (Ev.of fun k => nn k) ?_)))
          clear dv k1 k2
          refine Ev.of fun k => ?_
          rcases hcc with rfl | rfl | ⟨rfl, rfl⟩ | ⟨rfl, rfl⟩ | ⟨rfl, rfl⟩ | ⟨rfl, rfl⟩ | ⟨rfl, rfl, g1⟩ | ⟨rfl, rfl, g1⟩ | ⟨rfl, rfl, g1⟩ | ⟨rfl, rfl, g1⟩ <;> rcases hdd with rfl | rfl | ⟨rfl, rfl⟩ | ⟨rfl, rfl⟩ | ⟨rfl, rfl⟩ | ⟨rfl, rfl⟩ | ⟨rfl, rfl, g2⟩ | ⟨rfl, rfl, g2⟩ | ⟨rfl, rfl, g2⟩ | ⟨rfl, rfl, g2⟩ <;>
            first
            | (obtain ⟨x, y, rfl, hy⟩ := fine g1 g2; simp [dvR, vernierlaw08_DivKinds.j1_eq, vernierlaw08_DivKinds.j2_eq, vernierlaw08_DivKinds.j3_eq, vernierlaw08_DivKinds.j4_eq, vernierlaw08_DivKinds.j5_eq, vernierlaw08_DivKinds.j6_eq, vernierlaw08_DivKinds.j7_eq, j8_at, ii, zz]; simpa using hy)
            | (clear fine; simp [dvR, vernierlaw08_DivKinds.j1_eq, vernierlaw08_DivKinds.j2_eq, vernierlaw08_DivKinds.j3_eq, vernierlaw08_DivKinds.j4_eq, vernierlaw08_DivKinds.j5_eq, vernierlaw08_DivKinds.j6_eq, vernierlaw08_DivKinds.j7_eq, j8_at, ii, zz])
end Pure
end Go.Proofs.YtogofladamekbaaDoor.X
