/- The row of NatBack: for every input the call returns true and the input reads as it did. No conditions. -/
import Derived.Test.YtdhndlcijpgjgaaRows
import Derived.Test.YtdhndlcijpgjgaaR2
import Derived.Test.YtdhndlcijpgjgaaPureNatBack
import Derived.WalkKit
import Derived.ProofKit
import Derived.OpenShut
import Derived.ShutString
import Derived.ChangeOld
import Derived.Below
import Derived.SizedLaws
import Derived.Lib.SmallJoins
namespace Go.Proofs.Ytdhndlcijpgjgaa.natBack
open Go.ChangeShapes Go.WideShapes Go.ChangeAt Go.RowKit Go.Joins Go.Rex Go.Proofs.Ytdhndlcijpgjgaa.X
open Go.ChangeMaps (open_string shut_string)
set_option linter.unusedVariables false
theorem own : ownKnob Try.prog.godebug = none := by kernel_rfl
theorem laidOut : laidOutB Try.prog = true := by kernel_rfl
/-- The law's run. -/
theorem run {W : World} (hgl : ∀ g x, Rex.get g GL = some x → VRel (oldR W) noMap W x (.pointer (some ⟨g, 0, none⟩))) (k : Nat) (a0 : Option Addr) (len0 cap0 : Nat) (x0 : List Int) (e0 : Enc (oldR W) W (.sl (.int .u64)) x0 [.slice a0 len0 cap0]) (x1 : Int) (x2 : Int) (hk : vernierlaw02_NatBack k x0 x1 x2 = some true) : Calls Try.prog 6 #[.slice a0 len0 cap0, .int .u8 x1, .int .i64 x2] W fun e W' => e = .returned (.bool true) ∧ Below W.heap.size W W' := by
  have hsh : shapeOk vernierlaw02_NatBack.sg.ps [.one (.ro (.int .u64) x0), .one (.int .u8 x1), .one (.int .i64 x2)] = true := by kernel_rfl
  have hap0 : applyArgs (O := vernierlaw02_NatBack.sg.Out) noLook vernierlaw02_NatBack.sg.ks (vernierlaw02_NatBack k) (leaves [.one (.ro (.int .u64) x0), .one (.int .u8 x1), .one (.int .i64 x2)]) ⟨[], [], []⟩ = some ((vernierlaw02_NatBack k x0 x1 x2 : Option vernierlaw02_NatBack.sg.Out), ⟨[], [], []⟩) := by kernel_rfl
  have hpm : putMuts noLook vernierlaw02_NatBack.sg.ks (leaves [.one (.ro (.int .u64) x0), .one (.int .u8 x1), .one (.int .i64 x2)]) ((flat vernierlaw02_NatBack.sg.rs).map RK.den) true = some ([], true) := by kernel_rfl
  have heff : callEff vernierlaw02_NatBack.sg 0 ⟨[], [], []⟩ [] true = ⟨.one (.bool true), []⟩ := by kernel_rfl
  have hn : (Try.f6.name == "runtime.NumGoroutine") = false := by kernel_rfl
  have hb : Try.f6.body = some (bodyOf Try.f6) := by kernel_rfl
  exact law_calls2 (sg := vernierlaw02_NatBack.sg) (F := vernierlaw02_NatBack) (w := W) (vs := #[.slice a0 len0 cap0, .int .u8 x1, .int .i64 x2]) (fuel := k) (out := true) (o' := true) (args := [.one (.ro (.int .u64) x0), .one (.int .u8 x1), .one (.int .i64 x2)]) (X := vernierlaw02_NatBack k x0 x1 x2) vernierlaw02_NatBack_ok Try.func6 hb hn hsh hap0 hk hpm heff hgl ⟨arg_ro e0, arg_int _ _, arg_int _ _, trivial⟩
set_option maxRecDepth 100000 in
theorem lifted (os : Os) (started : os.Started) (H : Type) (enc : TypeId × Value → H) :
    ReturnsInHanded {} Try.checked os 6 .any (Rows.natBackSpec.pre6 enc Try.prog Try.f6 Rows.natBackRow.domain false) (Rows.natBackSpec.post enc Try.prog Try.f6 false true false false) := by
  refine returnsInHanded_of_change_sized (C := Try.checked) own started (by kernel_rfl) Try.func6
    (ChangeSpec.witness6 (enc := enc) (C := Try.checked) false ⟨#[], #[.slice none 0 0, .int .u8 0, .int .i64 0], []⟩ 8 (by kernel_rfl) (by kernel_rfl) (by kernel_rfl) (by kernel_rfl)) ?_
  intro W base args ds gs before hval0 hW hcnd hsz0 _
  have hsz : (DataW.weightsEach Try.prog (Try.f6.params.toList ++ Rows.natBackSpec.plain.varTypes Try.prog) (ds ++ gs)).all (· ≤ reachBytes) = true := hsz0
  have hval : ∀ (j : Nat) t v, Try.f6.params[j]? = some t → args[j]? = some v → Value.okWide Try.prog W .any base t v := hval0
  have hW' := hW
  obtain ⟨p, q, hA0, hV, rfl, hfz, hnd⟩ := hW
  have hA : DataW.TrodAll enc Try.prog W 0 (fun _ => true) true Try.f6.params.toList args.toList ds p := hA0
  rw [Try.params6] at hA hval hsz
  obtain ⟨v0, vs0, d0, ds0, p0, q0, hargs, rfl, rfl, h0, r0⟩ := trodAll_cons hA
  obtain ⟨v1, vs1, d1, ds1, p1, q1, rfl, rfl, rfl, h1, r1⟩ := trodAll_cons r0
  obtain ⟨v2, vs2, d2, ds2, p2, q2, rfl, rfl, rfl, h2, r2⟩ := trodAll_cons r1
  obtain ⟨rfl, rfl, rfl⟩ := trodAll_nil r2
  obtain rfl : args = #[v0, v1, v2] := by cases args; simp_all
  obtain ⟨rfl, rfl⟩ := trodVars_none hV
  obtain ⟨a0, len0, cap0, rfl⟩ := okWide_slice Try.underlying22 (hval 0 22 v0 rfl rfl)
  have k0 := h0
  have lt0 : ∀ x ∈ p0, x.block < W.heap.size := by obtain ⟨m, hm⟩ := k0; exact DataW.trod_lt m _ _ _ hm
  obtain ⟨u0, hu0⟩ := id h0
  obtain ⟨x0, e0, w0⟩ := enc_of_trod 30 (.sl (.int .u64)) 22 _ _ u0 (by kernel_rfl) hu0 (fun k hk => by
    have := List.all_eq_true.1 hsz _ (DataW.weights_mem_each (ts := _) (j := 0) (t := 22) rfl rfl k hk)
    exact of_decide_eq_true this)
  obtain ⟨x1, rfl, rfl, rfl, w1⟩ := open_int Try.underlying5 (hval 1 5 v1 rfl rfl) h1
  obtain ⟨x2, rfl, rfl, rfl, w2⟩ := open_int Try.underlying3 (hval 2 3 v2 rfl rfl) h2
  clear hA0 hval0 hsz0 hsz
  obtain ⟨k, hk⟩ := Pure.NatBack x0 x1 x2 w0 w1 w2
  have hk : vernierlaw02_NatBack k x0 x1 x2 = some true := hk k (Nat.le_refl k)
  refine (run (fun _ _ h => by cases h) k a0 len0 cap0 x0 e0 x1 x2 hk).mono fun e W' ⟨he, bel⟩ => ?_
  subst he
  exact ⟨_, rfl, _, _, _, [], _, [], hW', trodAll_mk1 (shut_bool Try.underlying4 _), (trodAll_cons_mk (Below.trod laidOut (by kernel_rfl) (of_decide_eq_true (by kernel_rfl)) k0 bel lt0) (trodAll_cons_mk (shut_int Try.underlying5 w1) (trodAll_cons_mk (shut_int Try.underlying3 w2) trodAll_mk0))), rfl, bel.frame _, fun h => by cases h⟩
theorem over : Rows.natBackRow.holds Try.pinned (OpenSpec.ofChange Rows.natBackSpec) :=
  OpenClaim.holds_of_wide 6 Try.f6 rfl rfl rfl rfl rfl rfl rfl ⟨rfl, rfl, rfl, rfl, rfl⟩ rfl rfl rfl rfl rfl (by kernel_rfl) Try.func6 (by kernel_rfl)
    (of_decide_eq_true (by kernel_rfl)) (by unfold Func.isWrapper; first | (rw [if_pos (by decide +kernel)]; kernel_rfl) | (rw [if_neg (by decide +kernel)]; exact ⟨rfl, rfl⟩))
    (fun os started H enc _ => lifted os started H enc)
theorem proved : Rows.NatBackSaid := over
#print axioms proved
end Go.Proofs.Ytdhndlcijpgjgaa.natBack
namespace Go.Proofs.Ytdhndlcijpgjgaa
/-- The row, under a short name, for the claim. -/
theorem natBack_holds : Rows.NatBackSaid := natBack.proved
end Go.Proofs.Ytdhndlcijpgjgaa
