/- The row of NatDivides: for every input the call returns true and the input reads as it did. No conditions. -/
import Derived.Test.YtdhndlcijpgjgaaRows
import Derived.Test.YtdhndlcijpgjgaaR2
import Derived.Test.YtdhndlcijpgjgaaPureNatDivides
import Derived.WalkKit
import Derived.ProofKit
import Derived.OpenShut
import Derived.ShutString
import Derived.ChangeOld
import Derived.Below
import Derived.SizedLaws
import Derived.Lib.SmallJoins
namespace Go.Proofs.Ytdhndlcijpgjgaa.natDivides
open Go.ChangeShapes Go.WideShapes Go.ChangeAt Go.RowKit Go.Joins Go.Rex Go.Proofs.Ytdhndlcijpgjgaa.X
open Go.ChangeMaps (open_string shut_string)
set_option linter.unusedVariables false
theorem own : ownKnob Try.prog.godebug = none := by kernel_rfl
theorem laidOut : laidOutB Try.prog = true := by kernel_rfl
set_option maxRecDepth 100000 in
theorem lifted (os : Os) (started : os.Started) (H : Type) (enc : TypeId × Value → H) :
    ReturnsInHanded {} Try.checked os 3 .any (Rows.natDividesSpec.pre6 enc Try.prog Try.f3 Rows.natDividesRow.domain false) (Rows.natDividesSpec.post enc Try.prog Try.f3 false true false false) := by
  refine returnsInHanded_of_change_sized (C := Try.checked) own started (by kernel_rfl) Try.func3
    (ChangeSpec.witness6 (enc := enc) (C := Try.checked) false ⟨#[], #[.slice none 0 0, .slice none 0 0, .slice none 0 0], []⟩ 8 (by kernel_rfl) (by kernel_rfl) (by kernel_rfl) (by kernel_rfl)) ?_
  intro W base args ds gs before hval0 hW hcnd hsz0 _
  have hsz : (DataW.weightsEach Try.prog (Try.f3.params.toList ++ Rows.natDividesSpec.plain.varTypes Try.prog) (ds ++ gs)).all (· ≤ reachBytes) = true := hsz0
  have hval : ∀ (j : Nat) t v, Try.f3.params[j]? = some t → args[j]? = some v → Value.okWide Try.prog W .any base t v := hval0
  have hW' := hW
  obtain ⟨p, q, hA0, hV, rfl, hfz, hnd⟩ := hW
  have hA : DataW.TrodAll enc Try.prog W 0 (fun _ => true) true Try.f3.params.toList args.toList ds p := hA0
  rw [Try.params3] at hA hval hsz
  obtain ⟨v0, vs0, d0, ds0, p0, q0, hargs, rfl, rfl, h0, r0⟩ := trodAll_cons hA
  obtain ⟨v1, vs1, d1, ds1, p1, q1, rfl, rfl, rfl, h1, r1⟩ := trodAll_cons r0
  obtain ⟨v2, vs2, d2, ds2, p2, q2, rfl, rfl, rfl, h2, r2⟩ := trodAll_cons r1
  obtain ⟨rfl, rfl, rfl⟩ := trodAll_nil r2
  obtain rfl : args = #[v0, v1, v2] := by cases args; simp_all
  obtain ⟨rfl, rfl⟩ := trodVars_none hV
  obtain ⟨a0, len0, cap0, rfl⟩ := okWide_slice Try.underlying22 (hval 0 22 v0 rfl rfl)
  have k0 := h0
  have lt0 : ∀ x ∈ p0, x.block < W.heap.size := by obtain ⟨m, hm⟩ := k0; exact DataW.trod_lt m _ _ _ hm
  obtain ⟨u0, hu0⟩ := id h0
  obtain ⟨x0, e0, w0⟩ := enc_of_trod 30 (.sl (.int .u64)) 22 _ _ u0 (by kernel_rfl) hu0 (fun k hk => by
    have := List.all_eq_true.1 hsz _ (DataW.weights_mem_each (ts := _) (j := 0) (t := 22) rfl rfl k hk)
    exact of_decide_eq_true this)
  obtain ⟨a1, len1, cap1, rfl⟩ := okWide_slice Try.underlying22 (hval 1 22 v1 rfl rfl)
  have k1 := h1
  have lt1 : ∀ x ∈ p1, x.block < W.heap.size := by obtain ⟨m, hm⟩ := k1; exact DataW.trod_lt m _ _ _ hm
  obtain ⟨u1, hu1⟩ := id h1
  obtain ⟨x1, e1, w1⟩ := enc_of_trod 30 (.sl (.int .u64)) 22 _ _ u1 (by kernel_rfl) hu1 (fun k hk => by
    have := List.all_eq_true.1 hsz _ (DataW.weights_mem_each (ts := _) (j := 1) (t := 22) rfl rfl k hk)
    exact of_decide_eq_true this)
  obtain ⟨a2, len2, cap2, rfl⟩ := okWide_slice Try.underlying22 (hval 2 22 v2 rfl rfl)
  have k2 := h2
  have lt2 : ∀ x ∈ p2, x.block < W.heap.size := by obtain ⟨m, hm⟩ := k2; exact DataW.trod_lt m _ _ _ hm
  obtain ⟨u2, hu2⟩ := id h2
  obtain ⟨x2, e2, w2⟩ := enc_of_trod 30 (.sl (.int .u64)) 22 _ _ u2 (by kernel_rfl) hu2 (fun k hk => by
    have := List.all_eq_true.1 hsz _ (DataW.weights_mem_each (ts := _) (j := 2) (t := 22) rfl rfl k hk)
    exact of_decide_eq_true this)
  clear hA0 hval0 hsz0 hsz
  obtain ⟨k, hk⟩ := Pure.NatDivides x0 x1 x2 w0 w1 w2
  have hk : vernierlaw02_NatDivides k x0 x1 x2 = some true := hk k (Nat.le_refl k)
  refine (law_calls (w := W) (vs := #[.slice a0 len0 cap0, .slice a1 len1 cap1, .slice a2 len2 cap2]) (fuel := k) (out := true) (o' := true) (args := [.one (.ro (.int .u64) x0), .one (.ro (.int .u64) x1), .one (.ro (.int .u64) x2)]) vernierlaw02_NatDivides_ok Try.func3 (by rfl) (by decide +kernel) (by rfl) (by show some (vernierlaw02_NatDivides k x0 x1 x2, _) = _; rw [hk]; rfl) (by rfl) (by rfl) (fun _ _ h => by cases h) ⟨(show Enc _ _ (.sl (.int .u64)) x0 [_] from e0), (show Enc _ _ (.sl (.int .u64)) x1 [_] from e1), (show Enc _ _ (.sl (.int .u64)) x2 [_] from e2), trivial⟩).mono fun e W' ⟨he, bel⟩ => ?_
  subst he
  exact ⟨_, rfl, _, _, _, [], _, [], hW', trodAll_mk1 (shut_bool Try.underlying4 _), (trodAll_cons_mk (Below.trod laidOut (by kernel_rfl) (of_decide_eq_true (by kernel_rfl)) k0 bel lt0) (trodAll_cons_mk (Below.trod laidOut (by kernel_rfl) (of_decide_eq_true (by kernel_rfl)) k1 bel lt1) (trodAll_cons_mk (Below.trod laidOut (by kernel_rfl) (of_decide_eq_true (by kernel_rfl)) k2 bel lt2) trodAll_mk0))), rfl, bel.frame _, fun h => by cases h⟩
theorem over : Rows.natDividesRow.holds Try.pinned (OpenSpec.ofChange Rows.natDividesSpec) :=
  OpenClaim.holds_of_wide 3 Try.f3 rfl rfl rfl rfl rfl rfl rfl ⟨rfl, rfl, rfl, rfl, rfl⟩ rfl rfl rfl rfl rfl (by kernel_rfl) Try.func3 (by kernel_rfl)
    (of_decide_eq_true (by kernel_rfl)) (by unfold Func.isWrapper; first | (rw [if_pos (by decide +kernel)]; kernel_rfl) | (rw [if_neg (by decide +kernel)]; exact ⟨rfl, rfl⟩))
    (fun os started H enc _ => lifted os started H enc)
theorem proved : Rows.NatDividesSaid := over
#print axioms proved
end Go.Proofs.Ytdhndlcijpgjgaa.natDivides
namespace Go.Proofs.Ytdhndlcijpgjgaa
/-- The row, under a short name, for the claim. -/
theorem natDivides_holds : Rows.NatDividesSaid := natDivides.proved
end Go.Proofs.Ytdhndlcijpgjgaa
