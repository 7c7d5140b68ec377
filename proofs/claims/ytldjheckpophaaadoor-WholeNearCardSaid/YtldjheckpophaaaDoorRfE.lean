/- Plain law: the reference's exact numbers: Canon. Conditions: the words are words, the list is within the limits. -/
import Derived.Test.YtldjheckpophaaaDoorRfC
import Derived.Test.YtldjheckpophaaaDoorRoC
namespace Go.Proofs.YtldjheckpophaaaDoor.X
open Go Go.Rex
set_option linter.unusedVariables false

theorem W32.wf {d : List Int} (h : W32 d) : WF d := fun x hx => by have := h x hx; omega
theorem W32.take {d : List Int} (h : W32 d) (n : Nat) : W32 (d.take n) := fun x hx => h x (List.mem_of_mem_take hx)
theorem v32_zero {d : List Int} (h : W32 d) (h0 : val d = 0) : v32 d = 0 := by
  induction d with
  | nil => rfl
  | cons x r ih =>
    have h1 := h x List.mem_cons_self
    rw [val_cons] at h0
    show x.toNat + 4294967296 * v32 r = 0
    rw [ih (fun y hy => h y (List.mem_cons_of_mem _ hy)) (by omega)]; omega
theorem val_zero {d : List Int} (h : W32 d) (h0 : v32 d = 0) : val d = 0 := by
  induction d with
  | nil => rfl
  | cons x r ih =>
    have h1 := h x List.mem_cons_self
    have h2 : x.toNat + 4294967296 * v32 r = 0 := h0
    rw [val_cons, ih (fun y hy => h y (List.mem_cons_of_mem _ hy)) (by omega)]; omega
/-- Digits without the zeros at their end: the same number. -/
theorem v32_trim {d : List Int} (h : W32 d) : v32 (digs (val d)) = v32 d ∧ W32 (digs (val d)) ∧ (digs (val d)).length ≤ d.length := by
  have ht := take_digs h.wf
  have hz := val_drop_size h.wf (Nat.le_refl (digs (val d)).length)
  have hzd := v32_zero (d := d.drop (digs (val d)).length) (fun x hx => h x (List.mem_of_mem_drop hx)) hz
  have h1 := v32_take_drop d (digs (val d)).length
  rw [hzd, ht] at h1
  refine ⟨by omega, ?_, size_le d h.wf⟩
  rw [← ht]; exact h.take _
theorem r3Trim_l0 {a : List Int} (hw : WF a) (hl : Lb a) (n : Nat) : n ≤ a.length → Ev2 (fun k m => vernierref03_Trim.l0 k m a (n : Int)) (digs (val (a.take n))) := by
  unfold Lb at hl
  induction n with
  | zero =>
    intro _
    refine Ev2.step (fun k m => vernierref03_Trim.l0_eq k m _ _) ?_
    refine Ev2.neg (dF (by omega)) (Ev2.pos ⟨by omega, by omega⟩ (Ev2.eq (Ev2.some _) ?_))
    simp [val, digs_zero]
  | succ n ih =>
    intro hn
    refine Ev2.step (fun k m => vernierref03_Trim.l0_eq k m _ _) ?_
    rw [pred_i n (by omega)]
    refine Ev2.pos (dT (by omega)) (Ev2.pos ⟨by omega, by omega⟩ ?_)
    rw [Int.toNat_natCast]
    by_cases h : a.getD n 0 = 0
    · refine Ev2.pos (bT h) ?_
      have := ih (by omega)
      rw [take_succ_val a (by omega), h]; simpa using this
    · refine Ev2.neg (bF h) (Ev2.pos ⟨by omega, by omega⟩ (Ev2.eq (Ev2.some _) ?_))
      rw [Int.toNat_natCast, digs_val (neat_take hn (.inr (by simpa using h))) (hw.take _)]
theorem r3Trim_ev {a : List Int} (hw : WF a) (hl : Lb a) : Ev (fun k => vernierref03_Trim k a) (digs (val a)) := by
  refine Ev.congr (fun k => vernierref03_Trim_eq k a) ?_
  have := (r3Trim_l0 hw hl a.length (Nat.le_refl _)).ev
  rwa [List.take_length] at this
theorem r3Dig_l0 {a : List Int} (ha : WF a) (hl : a.length ≤ 1000000) (n : Nat) : ∀ (i : Nat) (d : List Int), i + n = a.length → W32 d → d.length = 2 * i → v32 d = val (a.take i) →
    ∃ e, W32 e ∧ Neat e ∧ e.length ≤ 2 * a.length ∧ v32 e = val a ∧ Ev2 (fun k m => vernierref03_Digits.l0 k m a (i : Int) d) e := by
  induction n with
  | zero =>
    intro i d hi hd hdl hv
    obtain ⟨t1, t2, t3⟩ := v32_trim hd
    refine ⟨digs (val d), t2, Neat.digs _, by omega, by rw [t1, hv, List.take_of_length_le (by omega)], Ev2.step (fun k m => vernierref03_Digits.l0_eq k m _ _ _) (Ev2.neg (dF (by omega)) (Ev2.call (r3Trim_ev hd.wf (by unfold Lb; omega)) (Ev2.some _)))⟩
  | succ n ih =>
    intro i d hi hd hdl hv
    obtain ⟨x, hx, ex⟩ := word_nat ha i
    have hnew : W32 (d ++ (((List.replicate 2 (0 : Int)).set 0 ((x % 4294967296 : Nat) : Int)).set 1 ((x / 4294967296 : Nat) : Int))) := by
      refine hd.append ?_
      intro y hy
      have : y = ((x % 4294967296 : Nat) : Int) ∨ y = ((x / 4294967296 : Nat) : Int) := by simpa using hy
      omega
    obtain ⟨e, e1, e2, e3, e4, e5⟩ := ih (i + 1) (d ++ (((List.replicate 2 (0 : Int)).set 0 ((x % 4294967296 : Nat) : Int)).set 1 ((x / 4294967296 : Nat) : Int))) (by omega) hnew (by simp; omega) (by
      rw [v32_append, hv, take_succ_val a (by omega), ex, Int.toNat_natCast, hdl, b32_even]
      show _ + _ * (((x % 4294967296 : Nat) : Int).toNat + 4294967296 * (((x / 4294967296 : Nat) : Int).toNat + 4294967296 * 0)) = _
      rw [Int.toNat_natCast, Int.toNat_natCast]
      congr 2; omega)
    refine ⟨e, e1, e2, e3, e4, Ev2.step (fun k m => vernierref03_Digits.l0_eq k m _ _ _) ?_⟩
    rw [Int.toNat_natCast, ex, succ_i i (by omega), show (4294967296 : Int) = ((4294967296 : Nat) : Int) from rfl, tmod_nat, tdiv_nat, wrapUn (n := x / 4294967296) (by omega)]
    exact Ev2.pos (dT (by omega)) (Ev2.pos ⟨by omega, by omega⟩ (Ev2.pos ⟨by omega, by omega⟩ (Ev2.pos (capOk_of (by simp; omega)) e5)))
theorem r3Dig_ev {a : List Int} (ha : WF a) (hl : a.length ≤ 1000000) : ∃ e, W32 e ∧ Neat e ∧ e.length ≤ 2 * a.length ∧ v32 e = val a ∧ Ev (fun k => vernierref03_Digits k a) e := by
  obtain ⟨e, e1, e2, e3, e4, e5⟩ := r3Dig_l0 ha hl a.length 0 [] (by omega) (fun x hx => by cases hx) rfl (by simp [v32, val])
  refine ⟨e, e1, e2, e3, e4, Ev.congr (fun k => vernierref03_Digits_eq k a) ?_⟩
  rw [two_i _ (by omega), List.take_zero]
  exact Ev.pos ⟨by omega, by omega, by omega⟩ e5.ev
end Go.Proofs.YtldjheckpophaaaDoor.X
