/- Plain law: a step of a script over naturals is played as the reference says, what is handed in stays. Conditions: what the reading says of the script. -/
import Derived.Test.YtdhndlcijpgjgaaDoorNatJ
import Derived.Test.YtdhndlcijpgjgaaDoorRfB
import Derived.Test.YtdhndlcijpgjgaaDoorR2
namespace Go.Proofs.YtdhndlcijpgjgaaDoor.X
open Go Go.Rex
set_option linter.unusedVariables false

/-- A word list that was read: short enough to be grown. -/
structure Ws (a : List Int) : Prop where
  wf : WF a
  len : a.length ≤ 17592186043904
theorem Ws.of {x : List Int} (w : WFt (.sl (.int .u64)) x) : Ws x := by
  obtain ⟨h1, h2⟩ := w
  refine ⟨fun y hy => wf_u64 (h2 y hy), ?_⟩
  simp only [minB, IntKind.bits] at h1
  omega
theorem Ws.lb {a : List Int} (h : Ws a) : Lb a := by have := h.len; unfold Lb; omega
theorem Ws.dl {a : List Int} (h : Ws a) : (digs (val a)).length ≤ 17592186043904 := Nat.le_trans (size_le a h.wf) h.len
theorem same_digs {x y : Nat} (hl : Lb (digs x)) : Ev (fun k => vernierlaw02_same k (digs x) (digs y)) (decide (x = y)) := by
  refine Ev.eq (same_ev hl) ?_
  by_cases h : x = y
  · rw [decide_eq_true h, decide_eq_true (by rw [h])]
  · rw [decide_eq_false h, decide_eq_false (fun e => h (digs_inj e))]
def marks : List Int := (((((((((List.replicate 8 (0 : Int)).set 0 91).set 1 92).set 2 93).set 3 94).set 4 95).set 5 96).set 6 97).set 7 98)
theorem roomy_ev {a : List Int} (h : Ws a) : Ev (fun k => vernierlaw02_roomy k a) (a ++ marks, a) := by
  have := h.len
  refine Ev.congr (fun k => vernierlaw02_roomy_eq k a) (Ev.bind (twin_ev h.lb) (Ev.pos (capOk_of ?_) (Ev.pos ⟨by omega, ?_⟩ (Ev.eq (Ev.some _) ?_))))
  · show (a.length + 8) * 8 ≤ _; omega
  · rw [List.length_append]; omega
  · rw [Int.toNat_natCast, List.take_left' rfl]; rfl
theorem plays_ev {a b : List Int} (ha : Ws a) (hb : Ws b) {x n w : Int} {s : ByteArray} (h1 : 1 ≤ x) (h14 : x ≤ 14)
    (hs : x ≤ 4 → Ev (fun k => vernierlaw02_simple k x a b n w s a b) true) (hp : 4 < x → x ≤ 7 → Ev (fun k => vernierlaw02_products k x a b n w s a b) true) (ho : 7 < x → Ev (fun k => vernierlaw02_others k x a b n w s a) true) :
    Ev (fun k => vernierlaw02_plays k x a b n w s) true := by
  have la := ha.len
  have lb := hb.len
  have l1 : Lb (a ++ marks) := by unfold Lb; rw [List.length_append]; show a.length + 8 ≤ _; omega
  have l2 : Lb (b ++ marks) := by unfold Lb; rw [List.length_append]; show b.length + 8 ≤ _; omega
  have j1 : Ev (fun k => vernierlaw02_plays.j1 k (a ++ marks) (b ++ marks) true (a ++ marks) (b ++ marks)) true :=
    Ev.congr (fun k => vernierlaw02_plays.j1_eq k _ _ _ _ _) (Ev.pos rfl (Ev.bind (same_refl l1) (Ev.pos rfl (Ev.bind (same_refl l2) (Ev.some _)))))
  refine Ev.congr (fun k => vernierlaw02_plays_eq k _ _ _ _ _ _) (Ev.bind (roomy_ev ha) (Ev.bind (roomy_ev hb) (Ev.bind (twin_ev l1) (Ev.bind (twin_ev l2) (Ev.neg (dF (by omega)) ?_)))))
  refine Ev.congr (fun k => vernierlaw02_plays.j0_eq k _ _ _ _ _ _ _ _ _ _ _ _ _ _) (Ev.neg (dF (by omega)) ?_)
  by_cases c1 : x ≤ 4
  · exact Ev.pos (dT c1) (Ev.bind (hs c1) j1)
  · refine Ev.neg (dF c1) ?_
    by_cases c2 : x ≤ 7
    · exact Ev.pos (dT c2) (Ev.bind (hp (by omega) c2) j1)
    · exact Ev.neg (dF c2) (Ev.bind (ho (by omega)) j1)
abbrev OpT := Int × ((List Int) × ((List Int) × (Int × (Int × ByteArray))))
theorem all_l0 {l : List OpT} (hl : l.length ≤ 17592186044416) {lo hi : Int} (H : ∀ o ∈ l, lo ≤ o.1 → o.1 ≤ hi → Ev (fun k => vernierlaw02_plays k o.1 o.2.1 o.2.2.1 o.2.2.2.1 o.2.2.2.2.1 o.2.2.2.2.2) true) (n : Nat) : ∀ i : Nat, i + n = l.length → Ev2 (fun k m => vernierlaw02_all.l0 k m lo hi l (l.length : Int) (i : Int)) true := by
  induction n with
  | zero =>
    intro i hi'
    exact Ev2.step (fun k m => vernierlaw02_all.l0_eq k m _ _ _ _ _) (Ev2.neg (dF (by omega)) (Ev2.some _))
  | succ n ih =>
    intro i hi'
    refine Ev2.step (fun k m => vernierlaw02_all.l0_eq k m _ _ _ _ _) ?_
    rw [Int.toNat_natCast, succ_i i (by omega)]
    have hmem : l.getD i (0, ([], ([], (0, (0, ByteArray.empty))))) ∈ l := by rw [List.getD_eq_getElem?_getD, List.getElem?_eq_getElem (show i < l.length by omega)]; exact List.getElem_mem _
    have Ho := H _ hmem
    generalize l.getD i (0, ([], ([], (0, (0, ByteArray.empty))))) = o at *
    refine Ev2.pos (dT (by omega)) (Ev2.pos ⟨by omega, by omega⟩ ?_)
    by_cases c1 : lo ≤ o.1
    · refine Ev2.pos (dT c1) ?_
      by_cases c2 : o.1 ≤ hi
      · exact Ev2.pos (dT c2) (Ev2.call (Ho c1 c2) (Ev2.neg (notF rfl) (ih (i + 1) (by omega))))
      · exact Ev2.neg (dF c2) (ih (i + 1) (by omega))
    · exact Ev2.neg (dF c1) (ih (i + 1) (by omega))
theorem all_ev {l : List OpT} (hl : l.length ≤ 17592186044416) {lo hi : Int} (H : ∀ o ∈ l, lo ≤ o.1 → o.1 ≤ hi → Ev (fun k => vernierlaw02_plays k o.1 o.2.1 o.2.2.1 o.2.2.2.1 o.2.2.2.2.1 o.2.2.2.2.2) true) : Ev (fun k => vernierlaw02_all k l lo hi) true :=
  Ev.congr (fun k => vernierlaw02_all_eq k _ _ _) (Ev.bind awake_ev (Ev.neg (notF rfl) (all_l0 hl H l.length 0 (by omega)).ev))
abbrev OpTy : Ty := .pair (.int .i64) (.pair (.sl (.int .u64)) (.pair (.sl (.int .u64)) (.pair (.int .i64) (.pair (.int .u64) .str))))
theorem op_of {l : List OpT} (w : WFt (.sl OpTy) l) : l.length ≤ 17592186044416 ∧ ∀ o ∈ l, Ws o.2.1 ∧ Ws o.2.2.1 ∧ (-9223372036854775808 ≤ o.2.2.2.1 ∧ o.2.2.2.1 ≤ 9223372036854775807) ∧ (0 ≤ o.2.2.2.2.1 ∧ o.2.2.2.2.1 < 18446744073709551616) ∧ o.2.2.2.2.2.size ≤ 140737488351232 := by
  obtain ⟨h1, h2⟩ := w
  refine ⟨?_, fun o ho => ?_⟩
  · simp only [minB, IntKind.bits] at h1; omega
  · obtain ⟨g1, g2, g3, g4, g5, g6⟩ := h2 o ho
    exact ⟨Ws.of g2, Ws.of g3, wf_i64 g4, wf_u64 g5, g6⟩
end Go.Proofs.YtdhndlcijpgjgaaDoor.X
