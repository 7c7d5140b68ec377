/- The card of RoundParts: for every input the call returns true and the input reads as it did. Condition: the package variables math/bits.deBruijn64tab, vernier/format.rows hold what the program's text lays; the card ties that to the text. -/
import Derived.Test.YtbaaggmicpigeaaGreatDoorCards
import Derived.Test.YtbaaggmicpigeaaGreatDoorTie
import Derived.Test.YtbaaggmicpigeaaGreatDoorR2
import Derived.Test.YtbaaggmicpigeaaGreatDoorPureRoundParts
import Derived.WalkKit
import Derived.ProofKit
import Derived.OpenShut
import Derived.ShutString
import Derived.ChangeOld
import Derived.Below
import Derived.SizedLaws
import Derived.Lib.SmallJoins
import Derived.LaidMore
import Derived.Stop.Joined
import Derived.SevenTiedAt
namespace Go.Proofs.YtbaaggmicpigeaaGreatDoor.roundParts
open Go.ChangeShapes Go.WideShapes Go.ChangeAt Go.RowKit Go.Joins Go.WideMaps Go.WideElems Go.Rex Go.Proofs.YtbaaggmicpigeaaGreatDoor.X
open Go.ChangeMaps (open_string shut_string)
set_option linter.unusedVariables false
theorem own : ownKnob Tryz.prog.godebug = none := by kernel_rfl
theorem laidOut : laidOutB Tryz.prog = true := by kernel_rfl
/-- What the row lists. -/
def laidL : List (String × DataW Unit) := [("math/bits.deBruijn64tab", Rows.laid_math_bits_deBruijn64tab), ("vernier/format.rows", Rows.laid_vernier_format_rows)]
theorem door_met (os : Os) (args : Array Value) : laidMetH Tryz.prog laidL ((World.doorLaid Tryz.prog 400 os).forCall (fun _ _ => 0) ⟨#[], args, []⟩).memory :=
  laidMetH_of_parts3 (fuel := 8) (laidMet_of_run' 8 (by kernel_rfl) (by kernel_rfl)) (by kernel_rfl) (by kernel_rfl)
theorem gl_of {W : World} (h : laidMetH Tryz.prog laidL W) : ∀ g x, get g GL = some x → VRel (oldR W) noMap W x (.pointer (some ⟨g, 0, none⟩)) := by
  rw [MakeChecks.laidMetH_plain _ _ _ (by kernel_rfl)] at h
  obtain ⟨ps, ⟨g0, t0, cs0, f0, p0, q0, hg0, ht0, hv0, hd0, ⟨g1, t1, cs1, f1, p1, q1, hg1, ht1, hv1, hd1, _, _⟩, _⟩, _, _⟩ := h
  intro g x hx
  obtain rfl := Option.some.inj ((show Tryz.prog.globalNamed "math/bits.deBruijn64tab" = some 1 by kernel_rfl).symm.trans hg0)
  obtain rfl := Option.some.inj ((show (Tryz.prog.globals[1]?).map (·.type) = some 136 by kernel_rfl).symm.trans ht0)
  have c0 := Option.some.inj ((trod_lits 6 136 _ _ f0 (by kernel_rfl) hd0).symm.trans (show litsOf 6 (Rows.laid_math_bits_deBruijn64tab : DataW Unit) = some (dbT.flatMap (vals (.int .u8))) by kernel_rfl))
  have r0 := rarr_rel (t := .int .u8) rfl (xs := dbT) (w := W) (g := 1) (cs := cs0.toList) (fun e => absurd (congrArg List.length (c0.symm.trans e)) (by decide +kernel)) (fun k => by rw [World.var?_cell hg0 hv0 k, Array.getElem?_toList]) c0
  obtain rfl := Option.some.inj ((show Tryz.prog.globalNamed "vernier/format.rows" = some 0 by kernel_rfl).symm.trans hg1)
  obtain rfl := Option.some.inj ((show (Tryz.prog.globals[0]?).map (·.type) = some 123 by kernel_rfl).symm.trans ht1)
  have c1 := Option.some.inj ((trod_lits 6 123 _ _ f1 (by kernel_rfl) hd1).symm.trans (show litsOf 6 (Rows.laid_vernier_format_rows : DataW Unit) = some (rowsT.flatMap (vals (.pair (.int .i64) (.pair (.int .i64) (.pair (.int .i64) (.int .i64)))))) by kernel_rfl))
  have r1 := rarr_rel (t := .pair (.int .i64) (.pair (.int .i64) (.pair (.int .i64) (.int .i64)))) rfl (xs := rowsT) (w := W) (g := 0) (cs := cs1.toList) (fun e => absurd (congrArg List.length (c1.symm.trans e)) (by decide +kernel)) (fun k => by rw [World.var?_cell hg1 hv1 k, Array.getElem?_toList]) c1
  simp only [GL, Rex.get] at hx
  split at hx
  · rename_i e; subst e; cases hx; exact r1
  · skip
    split at hx
    · rename_i e; subst e; cases hx; exact r0
    · cases hx
set_option maxRecDepth 100000 in
/-- The law's run. -/
theorem run {W : World} (hgl : ∀ g x, Rex.get g GL = some x → VRel (oldR W) noMap W x (.pointer (some ⟨g, 0, none⟩))) (k : Nat) (a0 : Option Addr) (len0 cap0 : Nat) (x0 : List (Ty.den (.pair (.int .i64) (.pair (.int .i64) (.pair (.int .i64) (.pair (.pair .bool (.pair (.sl (.int .u64)) (.int .i64))) (.pair .bool (.pair (.sl (.int .u64)) (.pair (.sl (.int .u64)) (.pair (.pair (.int .u64) (.int .u64)) (.pair (.int .i64) .bool))))))))))) (e0 : Enc (oldR W) W (.sl (.pair (.int .i64) (.pair (.int .i64) (.pair (.int .i64) (.pair (.pair .bool (.pair (.sl (.int .u64)) (.int .i64))) (.pair .bool (.pair (.sl (.int .u64)) (.pair (.sl (.int .u64)) (.pair (.pair (.int .u64) (.int .u64)) (.pair (.int .i64) .bool)))))))))) x0 [.slice a0 len0 cap0]) (hk : vernierlaw05_RoundParts k x0 = some true) : Calls Tryz.prog 4 #[.slice a0 len0 cap0] W fun e W' => e = .returned (.bool true) ∧ Below W.heap.size W W' := by
  have hsh : shapeOk vernierlaw05_RoundParts.sg.ps [.one (.ro (.pair (.int .i64) (.pair (.int .i64) (.pair (.int .i64) (.pair (.pair .bool (.pair (.sl (.int .u64)) (.int .i64))) (.pair .bool (.pair (.sl (.int .u64)) (.pair (.sl (.int .u64)) (.pair (.pair (.int .u64) (.int .u64)) (.pair (.int .i64) .bool))))))))) x0)] = true := by kernel_rfl
  have hap0 : applyArgs (O := vernierlaw05_RoundParts.sg.Out) noLook vernierlaw05_RoundParts.sg.ks (vernierlaw05_RoundParts k) (leaves [.one (.ro (.pair (.int .i64) (.pair (.int .i64) (.pair (.int .i64) (.pair (.pair .bool (.pair (.sl (.int .u64)) (.int .i64))) (.pair .bool (.pair (.sl (.int .u64)) (.pair (.sl (.int .u64)) (.pair (.pair (.int .u64) (.int .u64)) (.pair (.int .i64) .bool))))))))) x0)]) ⟨[], [], []⟩ = some ((vernierlaw05_RoundParts k x0 : Option vernierlaw05_RoundParts.sg.Out), ⟨[], [], []⟩) := by kernel_rfl
  have hpm : putMuts noLook vernierlaw05_RoundParts.sg.ks (leaves [.one (.ro (.pair (.int .i64) (.pair (.int .i64) (.pair (.int .i64) (.pair (.pair .bool (.pair (.sl (.int .u64)) (.int .i64))) (.pair .bool (.pair (.sl (.int .u64)) (.pair (.sl (.int .u64)) (.pair (.pair (.int .u64) (.int .u64)) (.pair (.int .i64) .bool))))))))) x0)]) ((flat vernierlaw05_RoundParts.sg.rs).map RK.den) true = some ([], true) := by kernel_rfl
  have heff : callEff vernierlaw05_RoundParts.sg 0 ⟨[], [], []⟩ [] true = ⟨.one (.bool true), []⟩ := by kernel_rfl
  have hn : (Tryz.f4.name == "runtime.NumGoroutine") = false := by kernel_rfl
  have hb : Tryz.f4.body = some (bodyOf Tryz.f4) := by kernel_rfl
  exact law_calls2 (sg := vernierlaw05_RoundParts.sg) (F := vernierlaw05_RoundParts) (w := W) (vs := #[.slice a0 len0 cap0]) (fuel := k) (out := true) (o' := true) (args := [.one (.ro (.pair (.int .i64) (.pair (.int .i64) (.pair (.int .i64) (.pair (.pair .bool (.pair (.sl (.int .u64)) (.int .i64))) (.pair .bool (.pair (.sl (.int .u64)) (.pair (.sl (.int .u64)) (.pair (.pair (.int .u64) (.int .u64)) (.pair (.int .i64) .bool))))))))) x0)]) (X := vernierlaw05_RoundParts k x0) vernierlaw05_RoundParts_ok Tryz.func4 hb hn hsh hap0 hk hpm heff hgl ⟨arg_ro e0, trivial⟩
set_option maxRecDepth 100000 in
theorem lifted (os : Os) (started : os.Started) (H : Type) (enc : TypeId × Value → H) :
    ReturnsInHanded {} Tryz.checked os 4 .any (fun w args => (Rows.roundPartsSpec.pre enc Tryz.prog Tryz.f4 [] false w args ∧ laidMetH Tryz.prog laidL w) ∧ sizedMet enc Tryz.prog Tryz.f4 (OpenSpec.ofChange Rows.roundPartsSpec) false w args)
      (Rows.roundPartsSpec.post enc Tryz.prog Tryz.f4 false true false false) := by
  refine returnsInHanded_of_change_and (C := Tryz.checked) (X := fun w _ => laidMetH Tryz.prog laidL w) (fun _ _ _ hh h => h.of_heap hh) own started (by kernel_rfl) Tryz.func4
    (ChangeSpec.witness_shaped (enc := enc) (C := Tryz.checked) (os := os) (X := fun w _ => laidMetH Tryz.prog laidL w) false (World.doorLaid Tryz.prog 400 os) #[.slice none 0 0] 8 rfl (World.shaped_of_RefB (by kernel_rfl) (by kernel_rfl)) (by kernel_rfl) (by kernel_rfl) (by kernel_rfl) (door_met os _)) ?_
  intro W base args ds gs before hval0 hW _ hsz0 hL _
  have hval : ∀ (j : Nat) t v, Tryz.f4.params[j]? = some t → args[j]? = some v → Value.okWide Tryz.prog W .any base t v := hval0
  have hW' := hW
  obtain ⟨p, q, hA0, hV, rfl, hfz, hnd⟩ := hW
  have hA : DataW.TrodAll enc Tryz.prog W 0 (fun _ => true) true Tryz.f4.params.toList args.toList ds p := hA0
  have hsz : (DataW.weightsEach Tryz.prog (Tryz.f4.params.toList ++ Rows.roundPartsSpec.plain.varTypes Tryz.prog) (ds ++ gs)).all (· ≤ reachBytes) = true := hsz0
  rw [Tryz.params4] at hA hval hsz
  obtain ⟨v0, vs0, d0, ds0, p0, q0, hargs, rfl, rfl, h0, r0⟩ := trodAll_cons hA
  obtain ⟨rfl, rfl, rfl⟩ := trodAll_nil r0
  obtain rfl : args = #[v0] := by cases args; simp_all
  obtain ⟨rfl, rfl⟩ := trodVars_none hV
  obtain ⟨a0, len0, cap0, rfl⟩ := okWide_slice Tryz.underlying22 (hval 0 22 v0 rfl rfl)
  have k0 := h0
  have lt0 : ∀ x ∈ p0, x.block < W.heap.size := by obtain ⟨m, hm⟩ := k0; exact DataW.trod_lt m _ _ _ hm
  obtain ⟨u0, hu0⟩ := id h0
  obtain ⟨x0, e0, w0⟩ := enc_of_trod 30 (.sl (.pair (.int .i64) (.pair (.int .i64) (.pair (.int .i64) (.pair (.pair .bool (.pair (.sl (.int .u64)) (.int .i64))) (.pair .bool (.pair (.sl (.int .u64)) (.pair (.sl (.int .u64)) (.pair (.pair (.int .u64) (.int .u64)) (.pair (.int .i64) .bool)))))))))) 22 _ _ u0 (by kernel_rfl) hu0 (fun k hk => by
    have := List.all_eq_true.1 hsz _ (DataW.weights_mem_each (ts := _) (j := 0) (t := 22) rfl rfl k hk)
    exact of_decide_eq_true this)
  clear hA0 hval0
  obtain ⟨k, hk⟩ := Pure.RoundParts x0 w0
  have hk : vernierlaw05_RoundParts k x0 = some true := hk k (Nat.le_refl k)
  refine (run (gl_of hL) k a0 len0 cap0 x0 e0 hk).mono fun e W' ⟨he, bel⟩ => ?_
  subst he
  exact ⟨_, rfl, _, _, _, [], _, [], hW', trodAll_mk1 (shut_bool Tryz.underlying4 _), (trodAll_cons_mk (Below.trod laidOut (by kernel_rfl) (of_decide_eq_true (by kernel_rfl)) k0 bel lt0) trodAll_mk0), rfl, bel.frame _, fun h => by cases h⟩
theorem row_holds : Rows.roundPartsRow.holds Tryz.pinned (OpenSpec.ofChange Rows.roundPartsSpec) :=
  OpenClaim.holds_of_wide 4 Tryz.f4 rfl rfl rfl rfl rfl rfl rfl ⟨rfl, rfl, rfl, rfl, rfl⟩ rfl rfl rfl rfl rfl (by kernel_rfl) Tryz.func4 (by kernel_rfl)
    (of_decide_eq_true (by kernel_rfl)) (by unfold Func.isWrapper; first | (rw [if_pos (by decide +kernel)]; kernel_rfl) | (rw [if_neg (by decide +kernel)]; exact ⟨rfl, rfl⟩))
    (fun os started H enc _ => lifted os started H enc)
theorem proved : Rows.RoundPartsCardSaid :=
  Claim7.holds_tied_plain_at .later [] [.data, .data] true (true, "da1273058baa254e2f773ebc6cafdce5fceea7087acb5d3cab4139a30fc445d2") false
    row_holds (fun _ h => by cases h) (by kernel_rfl) (fun _ h => by cases h) roundParts_row_tie rfl ⟨rfl, rfl⟩ (by kernel_rfl) rfl
    (fun f fn hf hfn => by
      obtain rfl : f = 4 := Option.some.inj ((show Tryz.prog.funcNamed "vernier/vernierlaw05.RoundParts" = some 4 by kernel_rfl).symm.trans hf) |>.symm
      obtain rfl : fn = Tryz.f4 := (Option.some.inj (Tryz.func4.symm.trans hfn)).symm
      exact ⟨by kernel_rfl, fun j t ht => by
        rw [Tryz.params4] at ht
        have hm : t ∈ [22] := by simpa using Array.mem_of_getElem? ht
        have hall : ([22].all fun u => !Tryz.prog.wantsStandIn u) = true := by kernel_rfl
        exact (show Tryz.prog.wantsStandIn t = false by simpa using List.all_eq_true.1 hall t hm)⟩)
    (by kernel_rfl)
#print axioms proved
end Go.Proofs.YtbaaggmicpigeaaGreatDoor.roundParts
namespace Go.Proofs.YtbaaggmicpigeaaGreatDoor
/-- The card, under a short name, for the claim. -/
theorem roundParts_holds : Rows.RoundPartsCardSaid := roundParts.proved
end Go.Proofs.YtbaaggmicpigeaaGreatDoor
