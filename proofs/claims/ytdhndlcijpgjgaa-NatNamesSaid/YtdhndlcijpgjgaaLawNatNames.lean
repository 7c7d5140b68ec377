/- The row of NatNames: for every input the call returns true and the input reads as it did. No conditions. -/
import Derived.Test.YtdhndlcijpgjgaaRows
import Derived.Test.YtdhndlcijpgjgaaR2
import Derived.Test.YtdhndlcijpgjgaaPureNatNames
import Derived.WalkKit
import Derived.ProofKit
import Derived.OpenShut
import Derived.ShutString
import Derived.ChangeOld
import Derived.Below
import Derived.SizedLaws
import Derived.Lib.SmallJoins
namespace Go.Proofs.Ytdhndlcijpgjgaa.natNames
open Go.ChangeShapes Go.WideShapes Go.ChangeAt Go.RowKit Go.Joins Go.Rex Go.Proofs.Ytdhndlcijpgjgaa.X
open Go.ChangeMaps (open_string shut_string)
set_option linter.unusedVariables false
theorem own : ownKnob Try.prog.godebug = none := by kernel_rfl
theorem laidOut : laidOutB Try.prog = true := by kernel_rfl
/-- The law's run. -/
theorem run {W : World} (hgl : ∀ g x, Rex.get g GL = some x → VRel (oldR W) noMap W x (.pointer (some ⟨g, 0, none⟩))) (k : Nat)  (hk : vernierlaw02_NatNames k  = some true) : Calls Try.prog 5 #[] W fun e W' => e = .returned (.bool true) ∧ Below W.heap.size W W' := by
  have hsh : shapeOk vernierlaw02_NatNames.sg.ps [] = true := by kernel_rfl
  have hap0 : applyArgs (O := vernierlaw02_NatNames.sg.Out) noLook vernierlaw02_NatNames.sg.ks (vernierlaw02_NatNames k) (leaves []) ⟨[], [], []⟩ = some ((vernierlaw02_NatNames k  : Option vernierlaw02_NatNames.sg.Out), ⟨[], [], []⟩) := by kernel_rfl
  have hpm : putMuts noLook vernierlaw02_NatNames.sg.ks (leaves []) ((flat vernierlaw02_NatNames.sg.rs).map RK.den) true = some ([], true) := by kernel_rfl
  have heff : callEff vernierlaw02_NatNames.sg 0 ⟨[], [], []⟩ [] true = ⟨.one (.bool true), []⟩ := by kernel_rfl
  have hn : (Try.f5.name == "runtime.NumGoroutine") = false := by kernel_rfl
  have hb : Try.f5.body = some (bodyOf Try.f5) := by kernel_rfl
  exact law_calls2 (sg := vernierlaw02_NatNames.sg) (F := vernierlaw02_NatNames) (w := W) (vs := #[]) (fuel := k) (out := true) (o' := true) (args := []) (X := vernierlaw02_NatNames k ) vernierlaw02_NatNames_ok Try.func5 hb hn hsh hap0 hk hpm heff hgl trivial
set_option maxRecDepth 100000 in
theorem lifted (os : Os) (started : os.Started) (H : Type) (enc : TypeId × Value → H) :
    ReturnsInHanded {} Try.checked os 5 .any (Rows.natNamesSpec.pre6 enc Try.prog Try.f5 Rows.natNamesRow.domain false) (Rows.natNamesSpec.post enc Try.prog Try.f5 false true false false) := by
  refine returnsInHanded_of_change_sized (C := Try.checked) own started (by kernel_rfl) Try.func5
    (ChangeSpec.witness6 (enc := enc) (C := Try.checked) false ⟨#[], #[], []⟩ 8 (by kernel_rfl) (by kernel_rfl) (by kernel_rfl) (by kernel_rfl)) ?_
  intro W base args ds gs before hval0 hW hcnd hsz0 _
  have hsz : (DataW.weightsEach Try.prog (Try.f5.params.toList ++ Rows.natNamesSpec.plain.varTypes Try.prog) (ds ++ gs)).all (· ≤ reachBytes) = true := hsz0
  have hval : ∀ (j : Nat) t v, Try.f5.params[j]? = some t → args[j]? = some v → Value.okWide Try.prog W .any base t v := hval0
  have hW' := hW
  obtain ⟨p, q, hA0, hV, rfl, hfz, hnd⟩ := hW
  have hA : DataW.TrodAll enc Try.prog W 0 (fun _ => true) true Try.f5.params.toList args.toList ds p := hA0
  rw [Try.params5] at hA hval hsz
  obtain ⟨rfl, rfl, rfl⟩ := trodAll_none hA
  obtain ⟨rfl, rfl⟩ := trodVars_none hV
  clear hA0 hval0 hsz0 hsz
  obtain ⟨k, hk⟩ := Pure.NatNames 
  have hk : vernierlaw02_NatNames k  = some true := hk k (Nat.le_refl k)
  refine (run (fun _ _ h => by cases h) k  hk).mono fun e W' ⟨he, bel⟩ => ?_
  subst he
  exact ⟨_, rfl, _, _, _, [], _, [], hW', trodAll_mk1 (shut_bool Try.underlying4 _), trodAll_mk0, rfl, bel.frame _, fun h => by cases h⟩
theorem over : Rows.natNamesRow.holds Try.pinned (OpenSpec.ofChange Rows.natNamesSpec) :=
  OpenClaim.holds_of_wide 5 Try.f5 rfl rfl rfl rfl rfl rfl rfl ⟨rfl, rfl, rfl, rfl, rfl⟩ rfl rfl rfl rfl rfl (by kernel_rfl) Try.func5 (by kernel_rfl)
    (of_decide_eq_true (by kernel_rfl)) (by unfold Func.isWrapper; first | (rw [if_pos (by decide +kernel)]; kernel_rfl) | (rw [if_neg (by decide +kernel)]; exact ⟨rfl, rfl⟩))
    (fun os started H enc _ => lifted os started H enc)
theorem proved : Rows.NatNamesSaid := over
#print axioms proved
end Go.Proofs.Ytdhndlcijpgjgaa.natNames
namespace Go.Proofs.Ytdhndlcijpgjgaa
/-- The row, under a short name, for the claim. -/
theorem natNames_holds : Rows.NatNamesSaid := natNames.proved
end Go.Proofs.Ytdhndlcijpgjgaa
