/- The row of WholeErrorFree: for every input the call returns true and the input reads as it did. No conditions. -/
import Derived.Test.YtmoeaeflljpboaaRows
import Derived.Test.YtmoeaeflljpboaaR2
import Derived.Test.YtmoeaeflljpboaaPureWholeErrorFree
import Derived.WalkKit
import Derived.ProofKit
import Derived.OpenShut
import Derived.ShutString
import Derived.ChangeOld
import Derived.Below
import Derived.SizedLaws
import Derived.Lib.SmallJoins
namespace Go.Proofs.Ytmoeaeflljpboaa.wholeErrorFree
open Go.ChangeShapes Go.WideShapes Go.ChangeAt Go.RowKit Go.Joins Go.Rex Go.Proofs.Ytmoeaeflljpboaa.X
open Go.ChangeMaps (open_string shut_string)
set_option linter.unusedVariables false
theorem own : ownKnob Try.prog.godebug = none := by kernel_rfl
theorem laidOut : laidOutB Try.prog = true := by kernel_rfl
set_option maxRecDepth 100000 in
/-- The law's run. -/
theorem run {W : World} (hgl : ∀ g x, Rex.get g GL = some x → VRel (oldR W) noMap W x (.pointer (some ⟨g, 0, none⟩))) (k : Nat) (x0 : Int) (x1 : Int) (hk : verniertop_WholeErrorFree k x0 x1 = some true) : Calls Try.prog 3 #[.int .u64 x0, .int .u64 x1] W fun e W' => e = .returned (.bool true) ∧ Below W.heap.size W W' := by
  have hsh : shapeOk verniertop_WholeErrorFree.sg.ps [.one (.int .u64 x0), .one (.int .u64 x1)] = true := by kernel_rfl
  have hap0 : applyArgs (O := verniertop_WholeErrorFree.sg.Out) noLook verniertop_WholeErrorFree.sg.ks (verniertop_WholeErrorFree k) (leaves [.one (.int .u64 x0), .one (.int .u64 x1)]) ⟨[], [], []⟩ = some ((verniertop_WholeErrorFree k x0 x1 : Option verniertop_WholeErrorFree.sg.Out), ⟨[], [], []⟩) := by kernel_rfl
  have hpm : putMuts noLook verniertop_WholeErrorFree.sg.ks (leaves [.one (.int .u64 x0), .one (.int .u64 x1)]) ((flat verniertop_WholeErrorFree.sg.rs).map RK.den) true = some ([], true) := by kernel_rfl
  have heff : callEff verniertop_WholeErrorFree.sg 0 ⟨[], [], []⟩ [] true = ⟨.one (.bool true), []⟩ := by kernel_rfl
  have hn : (Try.f3.name == "runtime.NumGoroutine") = false := by kernel_rfl
  have hb : Try.f3.body = some (bodyOf Try.f3) := by kernel_rfl
  exact law_calls2 (sg := verniertop_WholeErrorFree.sg) (F := verniertop_WholeErrorFree) (w := W) (vs := #[.int .u64 x0, .int .u64 x1]) (fuel := k) (out := true) (o' := true) (args := [.one (.int .u64 x0), .one (.int .u64 x1)]) (X := verniertop_WholeErrorFree k x0 x1) verniertop_WholeErrorFree_ok Try.func3 hb hn hsh hap0 hk hpm heff hgl ⟨arg_int _ _, arg_int _ _, trivial⟩
set_option maxRecDepth 100000 in
theorem lifted (os : Os) (started : os.Started) (H : Type) (enc : TypeId × Value → H) :
    ReturnsInHanded {} Try.checked os 3 .any (Rows.wholeErrorFreeSpec.pre6 enc Try.prog Try.f3 Rows.wholeErrorFreeRow.domain false) (Rows.wholeErrorFreeSpec.post enc Try.prog Try.f3 false true false false) := by
  refine returnsInHanded_of_change_sized (C := Try.checked) own started (by kernel_rfl) Try.func3
    (ChangeSpec.witness6 (enc := enc) (C := Try.checked) false ⟨#[], #[.int .u64 0, .int .u64 0], []⟩ 8 (by kernel_rfl) (by kernel_rfl) (by kernel_rfl) (by kernel_rfl)) ?_
  intro W base args ds gs before hval0 hW hcnd hsz0 _
  have hsz : (DataW.weightsEach Try.prog (Try.f3.params.toList ++ Rows.wholeErrorFreeSpec.plain.varTypes Try.prog) (ds ++ gs)).all (· ≤ reachBytes) = true := hsz0
  have hval : ∀ (j : Nat) t v, Try.f3.params[j]? = some t → args[j]? = some v → Value.okWide Try.prog W .any base t v := hval0
  have hW' := hW
  obtain ⟨p, q, hA0, hV, rfl, hfz, hnd⟩ := hW
  have hA : DataW.TrodAll enc Try.prog W 0 (fun _ => true) true Try.f3.params.toList args.toList ds p := hA0
  rw [Try.params3] at hA hval hsz
  obtain ⟨v0, vs0, d0, ds0, p0, q0, hargs, rfl, rfl, h0, r0⟩ := trodAll_cons hA
  obtain ⟨v1, vs1, d1, ds1, p1, q1, rfl, rfl, rfl, h1, r1⟩ := trodAll_cons r0
  obtain ⟨rfl, rfl, rfl⟩ := trodAll_nil r1
  obtain rfl : args = #[v0, v1] := by cases args; simp_all
  obtain ⟨rfl, rfl⟩ := trodVars_none hV
  obtain ⟨x0, rfl, rfl, rfl, w0⟩ := open_int Try.underlying22 (hval 0 22 v0 rfl rfl) h0
  obtain ⟨x1, rfl, rfl, rfl, w1⟩ := open_int Try.underlying22 (hval 1 22 v1 rfl rfl) h1
  clear hA0 hval0 hsz0 hsz
  obtain ⟨k, hk⟩ := Pure.WholeErrorFree x0 x1 w0 w1
  have hk : verniertop_WholeErrorFree k x0 x1 = some true := hk k (Nat.le_refl k)
  refine (run (fun _ _ h => by cases h) k x0 x1 hk).mono fun e W' ⟨he, bel⟩ => ?_
  subst he
  exact ⟨_, rfl, _, _, _, [], _, [], hW', trodAll_mk1 (shut_bool Try.underlying4 _), (trodAll_cons_mk (shut_int Try.underlying22 w0) (trodAll_cons_mk (shut_int Try.underlying22 w1) trodAll_mk0)), rfl, bel.frame _, fun h => by cases h⟩
theorem over : Rows.wholeErrorFreeRow.holds Try.pinned (OpenSpec.ofChange Rows.wholeErrorFreeSpec) :=
  OpenClaim.holds_of_wide 3 Try.f3 rfl rfl rfl rfl rfl rfl rfl ⟨rfl, rfl, rfl, rfl, rfl⟩ rfl rfl rfl rfl rfl (by kernel_rfl) Try.func3 (by kernel_rfl)
    (of_decide_eq_true (by kernel_rfl)) (by unfold Func.isWrapper; first | (rw [if_pos (by decide +kernel)]; kernel_rfl) | (rw [if_neg (by decide +kernel)]; exact ⟨rfl, rfl⟩))
    (fun os started H enc _ => lifted os started H enc)
theorem proved : Rows.WholeErrorFreeSaid := over
#print axioms proved
end Go.Proofs.Ytmoeaeflljpboaa.wholeErrorFree
namespace Go.Proofs.Ytmoeaeflljpboaa
/-- The row, under a short name, for the claim. -/
theorem wholeErrorFree_holds : Rows.WholeErrorFreeSaid := wholeErrorFree.proved
end Go.Proofs.Ytmoeaeflljpboaa
