/- Plain law: RoundExact answers true. Conditions: what the reading says of the arguments. -/
import Derived.Test.YtbaaggmicpigeaaGreatDoorRxA
import Derived.Test.YtbaaggmicpigeaaGreatDoorR2
namespace Go.Proofs.YtbaaggmicpigeaaGreatDoor.X
open Go Go.Rex
set_option linter.unusedVariables false

theorem Around_all (f : Int) (neg : Bool) {a : List Int} (ha : WF a) (e : Int) : ∃ r, Ev (fun k => round_Around k f neg a e) r ∧ Ev (fun k => vernierref05_Around k f neg a e) r := by
  obtain ⟨r4, ⟨p4, q4⟩, e4, z4⟩ := exact_all f 4 neg ha e
  obtain ⟨r3, ⟨p3, q3⟩, e3, z3⟩ := exact_all f 3 neg ha e
  have hee : r3.2.2 = r4.2.2 := by rw [e3, e4]; exact exE_mode f (by decide) (by decide) a e
  refine ⟨(r4.1, (r3.1, r4.2.2)), ?_, Ev.congr (fun k => vernierref05_Around_eq k _ _ _ _) (Ev.bind q4 (Ev.bind q3 (Ev.some _)))⟩
  refine Ev.congr (fun k => round_Around_eq k _ _ _ _) (Ev.bind p4 ?_)
  by_cases c : r4.2.2 = 0
  · exact Ev.neg (nF c) (Ev.bind p3 (Ev.eq (Ev.some _) (by rw [hee])))
  · exact Ev.pos (nT c) (Ev.eq (Ev.some _) (by rw [z4 c, z3 (by rw [hee]; exact c)]))
theorem beyond5_ev (f m : Int) : Ev (fun k => vernierlaw05_beyond k f m) (fmE f m) := by
  refine Ev.congr (fun k => vernierlaw05_beyond_eq k _ _) ?_
  unfold fmE
  by_cases c : 0 ≤ f ∧ f < 4
  · rw [if_pos c]
    refine Ev.neg (dF (by omega)) (Ev.neg (dF (by omega)) ?_)
    by_cases c1 : m < 0
    · rw [if_neg (show ¬ (0 ≤ m ∧ m ≤ 5) by omega)]; exact Ev.pos (dT c1) (Ev.some _)
    · by_cases c2 : m > 5
      · rw [if_neg (show ¬ (0 ≤ m ∧ m ≤ 5) by omega)]; exact Ev.neg (dF c1) (Ev.pos (dT c2) (Ev.some _))
      · rw [if_pos (show 0 ≤ m ∧ m ≤ 5 by omega)]; exact Ev.neg (dF c1) (Ev.neg (dF c2) (Ev.some _))
  · rw [if_neg c]
    by_cases c1 : f < 0
    · exact Ev.pos (dT c1) (Ev.some _)
    · exact Ev.neg (dF c1) (Ev.pos (dT (by omega)) (Ev.some _))
theorem Beyond_all (f m : Int) (neg : Bool) : if fmE f m ≠ 0 then Ev (fun k => round_Beyond k f m neg) (0, fmE f m) else ∃ r, Ev (fun k => round_Beyond k f m neg) (r, 0) ∧ Ev (fun k => vernierref05_Beyond k f m neg) r := by
  obtain ⟨W, P, em, ex, r0⟩ := refuses5_ev f m
  by_cases c : fmE f m = 0
  · rw [if_neg (by omega)]
    obtain ⟨cf, hm⟩ := fmE_zero c
    obtain ⟨W', P', em', ex', h⟩ := fm_of cf.1 cf.2
    exact ⟨_, Ev.congr (fun k => round_Beyond_eq k _ _ _) (Ev.bind r0 (Ev.neg (nF c) (Ev.bind (Ev.of fun k => beyond_at h k m neg) (Ev.some _)))), Ev.of fun k => rbeyond_at h k m neg⟩
  · rw [if_pos c]
    exact Ev.congr (fun k => round_Beyond_eq k _ _ _) (Ev.bind r0 (Ev.pos (nT c) (Ev.some _)))
theorem exact5_ev {x f m : Int} (neg : Bool) {a : List Int} (ha : WF a) (hl : a.length ≤ 17592186044000) (e : Int) (neg2 : Bool) (b c : List Int) (h l s : Int) (t : Bool) :
    Ev (fun k => vernierlaw05_exact k x f m neg a e neg2 b c h l s t) true := by
  have tw := twin5_ev (a := a) (by omega)
  have kp := kept5_ev (a := a) (by omega)
  refine Ev.congr (fun k => vernierlaw05_exact_eq k _ _ _ _ _ _ _ _ _ _ _ _ _) (Ev.bind tw ?_)
  have ht : (a ++ marks).take a.length = a := List.take_left
  show Ev (fun k => if (x == 1) = true then (round_Exact k f m neg ((a ++ marks).take a.length) e).bind _ else if (x == 2) = true then (round_Around k f neg ((a ++ marks).take a.length) e).bind _ else _) true
  rw [ht]
  by_cases c1 : x = 1
  · obtain ⟨r, ⟨p, q⟩, _⟩ := exact_all f m neg ha e
    exact Ev.pos (bT c1) (Ev.bind p (Ev.bind q (Ev.pos (bT rfl) (Ev.pos (bT rfl) (Ev.pos (bT rfl) (Ev.bind kp (Ev.some _)))))))
  · refine Ev.neg (bF c1) ?_
    by_cases c2 : x = 2
    · obtain ⟨r, p, q⟩ := Around_all f neg ha e
      exact Ev.pos (bT c2) (Ev.bind p (Ev.bind q (Ev.pos (bT rfl) (Ev.pos (bT rfl) (Ev.pos (bT rfl) (Ev.bind kp (Ev.some _)))))))
    · refine Ev.neg (bF c2) ?_
      have B := Beyond_all f m neg2
      by_cases c : fmE f m = 0
      · rw [if_neg (by omega)] at B
        obtain ⟨r, p, q⟩ := B
        exact Ev.bind p (Ev.bind (beyond5_ev f m) (Ev.neg (nF c) (Ev.bind q (Ev.pos (bT rfl) (Ev.eq (Ev.some _) rfl)))))
      · rw [if_pos c] at B
        exact Ev.bind B (Ev.bind (beyond5_ev f m) (Ev.pos (nT c) (Ev.pos rfl (Ev.eq (Ev.some _) (by rw [beq_self_eq_true])))))
abbrev OpT := Int × (Int × (Int × ((Bool × ((List Int) × Int)) × (Bool × ((List Int) × ((List Int) × ((Int × Int) × (Int × Bool))))))))
abbrev OpTy : Ty := .pair (.int .i64) (.pair (.int .i64) (.pair (.int .i64) (.pair (.pair .bool (.pair (.sl (.int .u64)) (.int .i64))) (.pair .bool (.pair (.sl (.int .u64)) (.pair (.sl (.int .u64)) (.pair (.pair (.int .u64) (.int .u64)) (.pair (.int .i64) .bool))))))))
theorem opWs {x : List Int} (w : WFt (.sl (.int .u64)) x) : WF x ∧ x.length ≤ 17592186044000 := by
  obtain ⟨h1, h2⟩ := w
  refine ⟨fun y hy => wf_u64 (h2 y hy), ?_⟩
  simp only [minB, IntKind.bits] at h1
  omega
theorem op_of {l : List OpT} (w : WFt (.sl OpTy) l) : l.length ≤ 17592186044416 ∧ ∀ o ∈ l, WFt OpTy o := by
  obtain ⟨h1, h2⟩ := w
  refine ⟨?_, h2⟩
  simp only [minB, IntKind.bits] at h1; omega
theorem all5_l0 {l : List OpT} (hl : l.length ≤ 17592186044416) {lo hi : Int}
    (H : ∀ o ∈ l, lo ≤ o.1 → o.1 ≤ hi → (o.1 ≤ 3 → Ev (fun k => vernierlaw05_exact k o.1 o.2.1 o.2.2.1 o.2.2.2.1.1 o.2.2.2.1.2.1 o.2.2.2.1.2.2 o.2.2.2.2.1 o.2.2.2.2.2.1 o.2.2.2.2.2.2.1 o.2.2.2.2.2.2.2.1.1 o.2.2.2.2.2.2.2.1.2 o.2.2.2.2.2.2.2.2.1 o.2.2.2.2.2.2.2.2.2) true) ∧ (3 < o.1 → Ev (fun k => vernierlaw05_parts k o.1 o.2.1 o.2.2.1 o.2.2.2.1.1 o.2.2.2.1.2.1 o.2.2.2.1.2.2 o.2.2.2.2.1 o.2.2.2.2.2.1 o.2.2.2.2.2.2.1 o.2.2.2.2.2.2.2.1.1 o.2.2.2.2.2.2.2.1.2 o.2.2.2.2.2.2.2.2.1 o.2.2.2.2.2.2.2.2.2) true)) (n : Nat) :
    ∀ i : Nat, i + n = l.length → Ev2 (fun k m => vernierlaw05_all.l0 k m lo hi l (l.length : Int) (i : Int)) true := by
  induction n with
  | zero =>
    intro i hi'
    exact Ev2.step (fun k m => vernierlaw05_all.l0_eq k m _ _ _ _ _) (Ev2.neg (dF (by omega)) (Ev2.some _))
  | succ n ih =>
    intro i hi'
    refine Ev2.step (fun k m => vernierlaw05_all.l0_eq k m _ _ _ _ _) ?_
    rw [Int.toNat_natCast, succ_i i (by omega)]
    have hmem : l.getD i (0, (0, (0, ((false, ([], 0)), (false, ([], ([], ((0, 0), (0, false)))))))))  ∈ l := by rw [List.getD_eq_getElem?_getD, List.getElem?_eq_getElem (show i < l.length by omega)]; exact List.getElem_mem _
    have Ho := H _ hmem
    generalize l.getD i (0, (0, (0, ((false, ([], 0)), (false, ([], ([], ((0, 0), (0, false))))))))) = o at *
    refine Ev2.pos (dT (by omega)) (Ev2.pos ⟨by omega, by omega⟩ ?_)
    have nx := ih (i + 1) (by omega)
    by_cases c1 : o.1 < lo
    · exact Ev2.pos (dT c1) nx
    · refine Ev2.neg (dF c1) ?_
      by_cases c2 : o.1 > hi
      · exact Ev2.pos (dT c2) nx
      · refine Ev2.neg (dF c2) ?_
        obtain ⟨h1, h2⟩ := Ho (by omega) (by omega)
        by_cases c3 : o.1 ≤ 3
        · exact Ev2.pos (dT c3) (Ev2.call (h1 c3) (Ev2.neg (notF rfl) (Ev2.neg (dF (by omega)) nx)))
        · exact Ev2.neg (dF c3) (Ev2.pos (dT (by omega)) (Ev2.call (h2 (by omega)) (Ev2.neg (notF rfl) nx)))
namespace Pure
/-- For all scripts: true. -/
theorem RoundExact (l : List OpT) (w : WFt (.sl OpTy) l) : Ev (fun k => vernierlaw05_RoundExact k l) true := by
  obtain ⟨h1, h2⟩ := op_of w
  refine Ev.congr (fun k => vernierlaw05_RoundExact_eq k _) (Ev.bind (Ev.congr (fun k => vernierlaw05_all_eq k _ _ _) (Ev.bind awake05_ev (Ev.neg (notF rfl) (all5_l0 h1 (fun o ho c1 c2 => ⟨fun c3 => ?_, fun c3 => by omega⟩) l.length 0 (by omega)).ev))) (Ev.some _))
  obtain ⟨g1, g2, g3, g4, g5⟩ := h2 o ho
  obtain ⟨g6, g7, g8⟩ := g4
  obtain ⟨wa, la⟩ := opWs g7
  exact exact5_ev _ wa la _ _ _ _ _ _ _ _
end Pure
end Go.Proofs.YtbaaggmicpigeaaGreatDoor.X
