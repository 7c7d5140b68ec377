/- Plain law: the reference's exact numbers: Canon. Conditions: the words are words, the list is within the limits. -/
import Derived.Test.YtmoeaeflljpboaaRfC
import Derived.Test.YtmoeaeflljpboaaRoC
namespace Go.Proofs.Ytmoeaeflljpboaa.X
open Go Go.Rex
set_option linter.unusedVariables false

theorem W32.wf {d : List Int} (h : W32 d) : WF d := fun x hx => by have := h x hx; omega
theorem W32.take {d : List Int} (h : W32 d) (n : Nat) : W32 (d.take n) := fun x hx => h x (List.mem_of_mem_take hx)
theorem v32_zero {d : List Int} (h : W32 d) (h0 : val d = 0) : v32 d = 0 := by
  induction d with
  | nil => rfl
  | cons x r ih =>
    have h1 := h x List.mem_cons_self
    rw [val_cons] at h0
    show x.toNat + 4294967296 * v32 r = 0
    rw [ih (fun y hy => h y (List.mem_cons_of_mem _ hy)) (by omega)]; omega
theorem val_zero {d : List Int} (h : W32 d) (h0 : v32 d = 0) : val d = 0 := by
  induction d with
  | nil => rfl
  | cons x r ih =>
    have h1 := h x List.mem_cons_self
    have h2 : x.toNat + 4294967296 * v32 r = 0 := h0
    rw [val_cons, ih (fun y hy => h y (List.mem_cons_of_mem _ hy)) (by omega)]; omega
/-- Digits without the zeros at their end: the same number. -/
theorem v32_trim {d : List Int} (h : W32 d) : v32 (digs (val d)) = v32 d ∧ W32 (digs (val d)) ∧ (digs (val d)).length ≤ d.length := by
  have ht := take_digs h.wf
  have hz := val_drop_size h.wf (Nat.le_refl (digs (val d)).length)
  have hzd := v32_zero (d := d.drop (digs (val d)).length) (fun x hx => h x (List.mem_of_mem_drop hx)) hz
  have h1 := v32_take_drop d (digs (val d)).length
  rw [hzd, ht] at h1
  refine ⟨by omega, ?_, size_le d h.wf⟩
  rw [← ht]; exact h.take _
end Go.Proofs.Ytmoeaeflljpboaa.X
