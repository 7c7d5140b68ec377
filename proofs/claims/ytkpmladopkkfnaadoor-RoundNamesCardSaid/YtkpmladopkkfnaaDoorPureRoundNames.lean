/- Plain law: RoundNames answers true. No conditions. -/
import Derived.Test.YtkpmladopkkfnaaDoorRnB
namespace Go.Proofs.YtkpmladopkkfnaaDoor.X
open Go Go.Rex
set_option linter.unusedVariables false
set_option maxRecDepth 100000

namespace Pure
theorem paR_ok {W P : Nat} {em m : Int} {neg : Bool} {n : Nat} {e : Int} (h : ¬ (e < -40000 ∨ 40000 < e)) : (paR W P em m neg n e false).2.2 = 0 := by
  unfold paR
  rw [if_neg h, if_neg (by simp)]
  split <;> rfl
theorem RoundNames : Ev (fun k => vernierlaw05_RoundNames k) true := by
  have p1 := Parts_ev fm16 (m := 3) ⟨by decide, by decide⟩ (hi := 0) (lo := 1) (by decide) (by decide) 40000 false false
  have p2 := Parts_ev fm16 (m := 3) ⟨by decide, by decide⟩ (hi := 0) (lo := 1) (by decide) (by decide) 40001 false false
  have w1 : WF ((List.replicate 1 (0 : Int)).set 0 1) := WF.cons (by decide) (by decide) WF.nil
  have p3 := Ratio_ev fm16 (m := 3) ⟨by decide, by decide⟩ (a := List.replicate ((2000 : Int).toNat) (0 : Int)) (b := (List.replicate 1 (0 : Int)).set 0 1) (WF.replicate _) w1 (by unfold Lb; simp) (by unfold Lb; simp) (-40000) false
  have r1 : (paR 16 11 (-14) 3 false (1 + 18446744073709551616 * 0) 40000 false).2.2 = 0 := paR_ok (by decide)
  have r2 : (paR 16 11 (-14) 3 false (1 + 18446744073709551616 * 0) 40001 false).2.2 = 30 := by unfold paR; rw [if_pos (by decide)]
  have h1 : val ((List.replicate 1 (0 : Int)).set 0 1) = 1 := rfl
  have l1 : (digs 1).length ≤ 1 := digs_length_lt.2 (by decide)
  have r3 : (raR 16 11 (-14) 3 false (val (List.replicate ((2000 : Int).toNat) (0 : Int))) (val ((List.replicate 1 (0 : Int)).set 0 1)) (-40000)).2.2 = 0 := by
    rw [val_replicate, h1]
    unfold raR
    rw [digs_zero, if_neg (by simp; omega), if_neg (by decide), if_neg (by decide), if_pos rfl]
  refine Ev.congr (fun k => vernierlaw05_RoundNames_eq k) (Ev.bind p1 (Ev.bind p2 (Ev.bind p3 ?_)))
  exact Ev.pos (bT r1) (Ev.pos (bT r2) (Ev.pos (bT r3) (Ev.bind awake05_ev (Ev.some _))))
end Pure
end Go.Proofs.YtkpmladopkkfnaaDoor.X
