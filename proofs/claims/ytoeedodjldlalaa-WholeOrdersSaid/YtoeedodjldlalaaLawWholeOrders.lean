/- The row of WholeOrders: for every input the call returns true and the input reads as it did. No conditions. -/
import Derived.Test.YtoeedodjldlalaaRows
import Derived.Test.YtoeedodjldlalaaR2
import Derived.Test.YtoeedodjldlalaaPureWholeOrders
import Derived.WalkKit
import Derived.ProofKit
import Derived.OpenShut
import Derived.ShutString
import Derived.ChangeOld
import Derived.Below
import Derived.SizedLaws
import Derived.Lib.SmallJoins
namespace Go.Proofs.Ytoeedodjldlalaa.wholeOrders
open Go.ChangeShapes Go.WideShapes Go.ChangeAt Go.RowKit Go.Joins Go.Rex Go.Proofs.Ytoeedodjldlalaa.X
open Go.ChangeMaps (open_string shut_string)
set_option linter.unusedVariables false
theorem own : ownKnob Try.prog.godebug = none := by kernel_rfl
theorem laidOut : laidOutB Try.prog = true := by kernel_rfl
set_option maxRecDepth 100000 in
/-- The law's run. -/
theorem run {W : World} (hgl : ∀ g x, Rex.get g GL = some x → VRel (oldR W) noMap W x (.pointer (some ⟨g, 0, none⟩))) (k : Nat) (a0 : Option Addr) (len0 cap0 : Nat) (x0 : List Int) (e0 : Enc (oldR W) W (.sl (.int .u64)) x0 [.slice a0 len0 cap0]) (hk : verniertop_WholeOrders k x0 = some true) : Calls Try.prog 3 #[.slice a0 len0 cap0] W fun e W' => e = .returned (.bool true) ∧ Below W.heap.size W W' := by
  have hsh : shapeOk verniertop_WholeOrders.sg.ps [.one (.ro (.int .u64) x0)] = true := by kernel_rfl
  have hap0 : applyArgs (O := verniertop_WholeOrders.sg.Out) noLook verniertop_WholeOrders.sg.ks (verniertop_WholeOrders k) (leaves [.one (.ro (.int .u64) x0)]) ⟨[], [], []⟩ = some ((verniertop_WholeOrders k x0 : Option verniertop_WholeOrders.sg.Out), ⟨[], [], []⟩) := by kernel_rfl
  have hpm : putMuts noLook verniertop_WholeOrders.sg.ks (leaves [.one (.ro (.int .u64) x0)]) ((flat verniertop_WholeOrders.sg.rs).map RK.den) true = some ([], true) := by kernel_rfl
  have heff : callEff verniertop_WholeOrders.sg 0 ⟨[], [], []⟩ [] true = ⟨.one (.bool true), []⟩ := by kernel_rfl
  have hn : (Try.f3.name == "runtime.NumGoroutine") = false := by kernel_rfl
  have hb : Try.f3.body = some (bodyOf Try.f3) := by kernel_rfl
  exact law_calls2 (sg := verniertop_WholeOrders.sg) (F := verniertop_WholeOrders) (w := W) (vs := #[.slice a0 len0 cap0]) (fuel := k) (out := true) (o' := true) (args := [.one (.ro (.int .u64) x0)]) (X := verniertop_WholeOrders k x0) verniertop_WholeOrders_ok Try.func3 hb hn hsh hap0 hk hpm heff hgl ⟨arg_ro e0, trivial⟩
set_option maxRecDepth 100000 in
theorem lifted (os : Os) (started : os.Started) (H : Type) (enc : TypeId × Value → H) :
    ReturnsInHanded {} Try.checked os 3 .any (Rows.wholeOrdersSpec.pre6 enc Try.prog Try.f3 Rows.wholeOrdersRow.domain false) (Rows.wholeOrdersSpec.post enc Try.prog Try.f3 false true false false) := by
  refine returnsInHanded_of_change_sized (C := Try.checked) own started (by kernel_rfl) Try.func3
    (ChangeSpec.witness6 (enc := enc) (C := Try.checked) false ⟨#[], #[.slice none 0 0], []⟩ 8 (by kernel_rfl) (by kernel_rfl) (by kernel_rfl) (by kernel_rfl)) ?_
  intro W base args ds gs before hval0 hW hcnd hsz0 _
  have hsz : (DataW.weightsEach Try.prog (Try.f3.params.toList ++ Rows.wholeOrdersSpec.plain.varTypes Try.prog) (ds ++ gs)).all (· ≤ reachBytes) = true := hsz0
  have hval : ∀ (j : Nat) t v, Try.f3.params[j]? = some t → args[j]? = some v → Value.okWide Try.prog W .any base t v := hval0
  have hW' := hW
  obtain ⟨p, q, hA0, hV, rfl, hfz, hnd⟩ := hW
  have hA : DataW.TrodAll enc Try.prog W 0 (fun _ => true) true Try.f3.params.toList args.toList ds p := hA0
  rw [Try.params3] at hA hval hsz
  obtain ⟨v0, vs0, d0, ds0, p0, q0, hargs, rfl, rfl, h0, r0⟩ := trodAll_cons hA
  obtain ⟨rfl, rfl, rfl⟩ := trodAll_nil r0
  obtain rfl : args = #[v0] := by cases args; simp_all
  obtain ⟨rfl, rfl⟩ := trodVars_none hV
  obtain ⟨a0, len0, cap0, rfl⟩ := okWide_slice Try.underlying22 (hval 0 22 v0 rfl rfl)
  have k0 := h0
  have lt0 : ∀ x ∈ p0, x.block < W.heap.size := by obtain ⟨m, hm⟩ := k0; exact DataW.trod_lt m _ _ _ hm
  obtain ⟨u0, hu0⟩ := id h0
  obtain ⟨x0, e0, w0⟩ := enc_of_trod 30 (.sl (.int .u64)) 22 _ _ u0 (by kernel_rfl) hu0 (fun k hk => by
    have := List.all_eq_true.1 hsz _ (DataW.weights_mem_each (ts := _) (j := 0) (t := 22) rfl rfl k hk)
    exact of_decide_eq_true this)
  clear hA0 hval0 hsz0 hsz
  obtain ⟨k, hk⟩ := Pure.WholeOrders x0 w0
  have hk : verniertop_WholeOrders k x0 = some true := hk k (Nat.le_refl k)
  refine (run (fun _ _ h => by cases h) k a0 len0 cap0 x0 e0 hk).mono fun e W' ⟨he, bel⟩ => ?_
  subst he
  exact ⟨_, rfl, _, _, _, [], _, [], hW', trodAll_mk1 (shut_bool Try.underlying4 _), (trodAll_cons_mk (Below.trod laidOut (by kernel_rfl) (of_decide_eq_true (by kernel_rfl)) k0 bel lt0) trodAll_mk0), rfl, bel.frame _, fun h => by cases h⟩
theorem over : Rows.wholeOrdersRow.holds Try.pinned (OpenSpec.ofChange Rows.wholeOrdersSpec) :=
  OpenClaim.holds_of_wide 3 Try.f3 rfl rfl rfl rfl rfl rfl rfl ⟨rfl, rfl, rfl, rfl, rfl⟩ rfl rfl rfl rfl rfl (by kernel_rfl) Try.func3 (by kernel_rfl)
    (of_decide_eq_true (by kernel_rfl)) (by unfold Func.isWrapper; first | (rw [if_pos (by decide +kernel)]; kernel_rfl) | (rw [if_neg (by decide +kernel)]; exact ⟨rfl, rfl⟩))
    (fun os started H enc _ => lifted os started H enc)
theorem proved : Rows.WholeOrdersSaid := over
#print axioms proved
end Go.Proofs.Ytoeedodjldlalaa.wholeOrders
namespace Go.Proofs.Ytoeedodjldlalaa
/-- The row, under a short name, for the claim. -/
theorem wholeOrders_holds : Rows.WholeOrdersSaid := wholeOrders.proved
end Go.Proofs.Ytoeedodjldlalaa
