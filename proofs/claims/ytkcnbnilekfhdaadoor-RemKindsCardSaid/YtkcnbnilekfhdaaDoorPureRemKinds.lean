/- Plain law: RemKinds answers true. Conditions: what the reading says of the arguments. -/
import Derived.Test.YtkcnbnilekfhdaaDoorRemC
namespace Go.Proofs.YtkcnbnilekfhdaaDoor.X
open Go Go.Rex
set_option linter.unusedVariables false

theorem kinds_step {c d a N : Int} (hc : c = 0 ∨ c = 1 ∨ c = 2 ∨ c = 9 ∨ c = 5 ∨ c = 6 ∨ c = 3 ∨ c = 4 ∨ c = 7 ∨ c = 8) (hd : d = 0 ∨ d = 1 ∨ d = 2 ∨ d = 9 ∨ d = 5 ∨ d = 6 ∨ d = 3 ∨ d = 4 ∨ d = 7 ∨ d = 8) {r : Int × (Int × (Int × Int))} (hr : r.2.2.2 = 0) (k n : Nat) (f b i : Int) :
    (if ((spZ c d a N r).2.2.2 != 0) = true then some false else (if (c == 0) = true then vernierlaw11_RemKinds.j3 k n f a b c d N i (spZ c d a N r).1 (spZ c d a N r).2.1 (spZ c d a N r).2.2.1 true true else vernierlaw11_RemKinds.j3 k n f a b c d N i (spZ c d a N r).1 (spZ c d a N r).2.1 (spZ c d a N r).2.2.1 true (d == 0))) = vernierlaw11_RemKinds.l2 k n f a b c d N (IntKind.i64.wrap (i + 1)) := by
  rcases hc with rfl | rfl | rfl | rfl | rfl | rfl | rfl | rfl | rfl | rfl <;> rcases hd with rfl | rfl | rfl | rfl | rfl | rfl | rfl | rfl | rfl | rfl <;>
    simp [spZ, hr, vernierlaw11_RemKinds.j3_eq, vernierlaw11_RemKinds.j4_eq, vernierlaw11_RemKinds.j5_eq, vernierlaw11_RemKinds.j6_eq, vernierlaw11_RemKinds.j7_eq, vernierlaw11_RemKinds.j8_eq]
namespace Pure
abbrev RTwoTy : Ty := .pair (.int .i64) (.pair (.int .u64) (.int .u64))
theorem RemKinds (t : Int × (Int × Int)) (w : WFt RTwoTy t) : Ev (fun k => vernierlaw11_RemKinds k t.1 t.2.1 t.2.2) true := by
  obtain ⟨w1, w2, w3⟩ := w
  obtain ⟨f, a, b⟩ := t
  have ha : 0 ≤ a ∧ a < 18446744073709551616 := wf_u64 w2
  have hb : 0 ≤ b ∧ b < 18446744073709551616 := wf_u64 w3
  show Ev (fun k => vernierlaw11_RemKinds k f a b) true
  refine Ev.congr (fun k => vernierlaw11_RemKinds_eq k _ _ _) (Ev.bind awake11_ev (Ev.neg (notF rfl) ?_))
  by_cases c1 : f < 0
  · exact Ev.pos (dT c1) (Ev.some _)
  refine Ev.neg (dF c1) ?_
  by_cases c2 : f > 3
  · exact Ev.pos (dT c2) (Ev.some _)
  refine Ev.neg (dF c2) (Ev.congr (fun k => vernierlaw11_RemKinds.j0_eq k _ _ _) ?_)
  obtain ⟨W, P, em, ex, h⟩ := fm_of (f := f) (by omega) (by omega)
  obtain ⟨x, rfl⟩ := Int.eq_ofNat_of_zero_le ha.1
  obtain ⟨y, rfl⟩ := Int.eq_ofNat_of_zero_le hb.1
  have l1 := Nat.mod_lt x (Nat.two_pow_pos W)
  have l2 := Nat.mod_lt y (Nat.two_pow_pos W)
  refine Ev.bind (cut11_ev h (x := x) (by omega)) (Ev.bind (cut11_ev h (x := y) (by omega)) ?_)
  generalize x % 2 ^ W = A at *
  generalize y % 2 ^ W = B at *
  refine Ev.bind (Ev.of fun k => class_pk h l1 k) (Ev.bind (Ev.of fun k => class_pk h l2 k) (Ev.bind (Ev.of fun k => nan_at h k) (Ev.neg (nF rfl) (Ev.neg (nF rfl) (Ev.neg (nF rfl) (Ev.congr (fun k => vernierlaw11_RemKinds.j1_eq k _ _ _ _ _ _) ?_))))))
  have a0 := asked_ev h l1 l2 (i := 0)
  have a1 := asked_ev h l1 l2 (i := 1)
  have r0 : (remF W P ((0 : Int) == 0) (ps W A) (pk W A) (pk W B)).2.2.2 = 0 := rfl
  have r1 : (remF W P ((1 : Int) == 0) (ps W A) (pk W A) (pk W B)).2.2.2 = 0 := rfl
  obtain ⟨c, hc, hcc⟩ := cls_cases (W := W) (P := P) (p := pk W A) (neg := ps W A) (Nat.two_pow_pos _)
  obtain ⟨d, hd, hdd⟩ := cls_cases (W := W) (P := P) (p := pk W B) (neg := ps W B) (Nat.two_pow_pos _)
  have hc' : c = 0 ∨ c = 1 ∨ c = 2 ∨ c = 9 ∨ c = 5 ∨ c = 6 ∨ c = 3 ∨ c = 4 ∨ c = 7 ∨ c = 8 := by omega
  have hd' : d = 0 ∨ d = 1 ∨ d = 2 ∨ d = 9 ∨ d = 5 ∨ d = 6 ∨ d = 3 ∨ d = 4 ∨ d = 7 ∨ d = 8 := by omega
  clear hcc hdd
  rw [hc, hd] at a0 a1 ⊢
  generalize remF W P ((0 : Int) == 0) (ps W A) (pk W A) (pk W B) = R0 at *
  generalize remF W P ((1 : Int) == 0) (ps W A) (pk W A) (pk W B) = R1 at *
  show Ev (fun k => vernierlaw11_RemKinds.l2 k k f (A : Int) (B : Int) c d ((infP W P + 2 ^ (P - 2) : Nat) : Int) 0) true
  generalize ((infP W P + 2 ^ (P - 2) : Nat) : Int) = N at *
  have s2 : Ev2 (fun k n => vernierlaw11_RemKinds.l2 k n f (A : Int) (B : Int) c d N (IntKind.i64.wrap (1 + 1))) true := Ev2.step (fun k n => vernierlaw11_RemKinds.l2_eq k n _ _ _ _ _ _ _) (Ev2.neg (by decide) (Ev2.some _))
  have s1 : Ev2 (fun k n => vernierlaw11_RemKinds.l2 k n f (A : Int) (B : Int) c d N (IntKind.i64.wrap (0 + 1))) true := by
    refine Ev2.step (fun k n => vernierlaw11_RemKinds.l2_eq k n _ _ _ _ _ _ _) (Ev2.pos (by decide) (Ev2.call a1 (Ev2.congr (fun k n => ?_) s2)))
    exact kinds_step hc' hd' r1 k n f (B : Int) 1
  have s0 : Ev2 (fun k n => vernierlaw11_RemKinds.l2 k n f (A : Int) (B : Int) c d N 0) true := by
    refine Ev2.step (fun k n => vernierlaw11_RemKinds.l2_eq k n _ _ _ _ _ _ _) (Ev2.pos (by decide) (Ev2.call a0 (Ev2.congr (fun k n => ?_) s1)))
    exact kinds_step hc' hd' r0 k n f (B : Int) 0
  exact s0.ev
end Pure
end Go.Proofs.YtkcnbnilekfhdaaDoor.X
