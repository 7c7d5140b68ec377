/- The card of RoundBetween: for every input the call returns true and the input reads as it did. Condition: the package variables math/bits.deBruijn64tab, vernier/format.rows hold what the program's text lays; the card ties that to the text. -/
import Derived.Test.YtbaaggmicpigeaaDoorCards
import Derived.Test.YtbaaggmicpigeaaDoorTie
import Derived.Test.YtbaaggmicpigeaaDoorR2
import Derived.Test.YtbaaggmicpigeaaDoorPureRoundBetween
import Derived.WalkKit
import Derived.ProofKit
import Derived.OpenShut
import Derived.ShutString
import Derived.ChangeOld
import Derived.Below
import Derived.SizedLaws
import Derived.Lib.SmallJoins
import Derived.LaidMore
import Derived.Stop.Joined
import Derived.SevenTiedAt
namespace Go.Proofs.YtbaaggmicpigeaaDoor.roundBetween
open Go.ChangeShapes Go.WideShapes Go.ChangeAt Go.RowKit Go.Joins Go.WideMaps Go.WideElems Go.Rex Go.Proofs.YtbaaggmicpigeaaDoor.X
open Go.ChangeMaps (open_string shut_string)
set_option linter.unusedVariables false
theorem own : ownKnob Tryd.prog.godebug = none := by kernel_rfl
theorem laidOut : laidOutB Tryd.prog = true := by kernel_rfl
/-- What the row lists. -/
def laidL : List (String × DataW Unit) := [("math/bits.deBruijn64tab", Rows.laid_math_bits_deBruijn64tab), ("vernier/format.rows", Rows.laid_vernier_format_rows)]
theorem door_met (os : Os) (args : Array Value) : laidMetH Tryd.prog laidL ((World.doorLaid Tryd.prog 400 os).forCall (fun _ _ => 0) ⟨#[], args, []⟩).memory :=
  laidMetH_of_parts3 (fuel := 8) (laidMet_of_run' 8 (by kernel_rfl) (by kernel_rfl)) (by kernel_rfl) (by kernel_rfl)
theorem gl_of {W : World} (h : laidMetH Tryd.prog laidL W) : ∀ g x, get g GL = some x → VRel (oldR W) noMap W x (.pointer (some ⟨g, 0, none⟩)) := by
  rw [MakeChecks.laidMetH_plain _ _ _ (by kernel_rfl)] at h
  obtain ⟨ps, ⟨g0, t0, cs0, f0, p0, q0, hg0, ht0, hv0, hd0, ⟨g1, t1, cs1, f1, p1, q1, hg1, ht1, hv1, hd1, _, _⟩, _⟩, _, _⟩ := h
  intro g x hx
  obtain rfl := Option.some.inj ((show Tryd.prog.globalNamed "math/bits.deBruijn64tab" = some 1 by kernel_rfl).symm.trans hg0)
  obtain rfl := Option.some.inj ((show (Tryd.prog.globals[1]?).map (·.type) = some 138 by kernel_rfl).symm.trans ht0)
  have c0 := Option.some.inj ((trod_lits 6 138 _ _ f0 (by kernel_rfl) hd0).symm.trans (show litsOf 6 (Rows.laid_math_bits_deBruijn64tab : DataW Unit) = some (dbT.flatMap (vals (.int .u8))) by kernel_rfl))
  have r0 := rarr_rel (t := .int .u8) rfl (xs := dbT) (w := W) (g := 1) (cs := cs0.toList) (fun e => absurd (congrArg List.length (c0.symm.trans e)) (by decide +kernel)) (fun k => by rw [World.var?_cell hg0 hv0 k, Array.getElem?_toList]) c0
  obtain rfl := Option.some.inj ((show Tryd.prog.globalNamed "vernier/format.rows" = some 0 by kernel_rfl).symm.trans hg1)
  obtain rfl := Option.some.inj ((show (Tryd.prog.globals[0]?).map (·.type) = some 89 by kernel_rfl).symm.trans ht1)
  have c1 := Option.some.inj ((trod_lits 6 89 _ _ f1 (by kernel_rfl) hd1).symm.trans (show litsOf 6 (Rows.laid_vernier_format_rows : DataW Unit) = some (rowsT.flatMap (vals (.pair (.int .i64) (.pair (.int .i64) (.pair (.int .i64) (.int .i64)))))) by kernel_rfl))
  have r1 := rarr_rel (t := .pair (.int .i64) (.pair (.int .i64) (.pair (.int .i64) (.int .i64)))) rfl (xs := rowsT) (w := W) (g := 0) (cs := cs1.toList) (fun e => absurd (congrArg List.length (c1.symm.trans e)) (by decide +kernel)) (fun k => by rw [World.var?_cell hg1 hv1 k, Array.getElem?_toList]) c1
  simp only [GL, Rex.get] at hx
  split at hx
  · rename_i e; subst e; cases hx; exact r1
  · skip
    split at hx
    · rename_i e; subst e; cases hx; exact r0
    · cases hx
set_option maxRecDepth 100000 in
/-- The law's run. -/
theorem run {W : World} (hgl : ∀ g x, Rex.get g GL = some x → VRel (oldR W) noMap W x (.pointer (some ⟨g, 0, none⟩))) (k : Nat) (x0 : Int) (c1 : Array Value) (x1 : Ty.den (.pair .bool (.pair (.sl (.int .u64)) (.int .i64)))) (e1 : Enc (oldR W) W (.pair .bool (.pair (.sl (.int .u64)) (.int .i64))) x1 c1.toList) (hk : vernierlaw05_RoundBetween k x0 x1.1 x1.2.1 x1.2.2 = some true) : Calls Tryd.prog 4 #[.int .i64 x0, .agg c1] W fun e W' => e = .returned (.bool true) ∧ Below W.heap.size W W' := by
  have hsh : shapeOk vernierlaw05_RoundBetween.sg.ps [.one (.int .i64 x0), .v (true, cells (.pair .bool (.pair (.sl (.int .u64)) (.int .i64))) x1)] = true := by kernel_rfl
  have hap0 : applyArgs (O := vernierlaw05_RoundBetween.sg.Out) noLook vernierlaw05_RoundBetween.sg.ks (vernierlaw05_RoundBetween k) (leaves [.one (.int .i64 x0), .v (true, cells (.pair .bool (.pair (.sl (.int .u64)) (.int .i64))) x1)]) ⟨[], [], []⟩ = some ((vernierlaw05_RoundBetween k x0 x1.1 x1.2.1 x1.2.2 : Option vernierlaw05_RoundBetween.sg.Out), ⟨[], [], []⟩) := by kernel_rfl
  have hpm : putMuts noLook vernierlaw05_RoundBetween.sg.ks (leaves [.one (.int .i64 x0), .v (true, cells (.pair .bool (.pair (.sl (.int .u64)) (.int .i64))) x1)]) ((flat vernierlaw05_RoundBetween.sg.rs).map RK.den) true = some ([], true) := by kernel_rfl
  have heff : callEff vernierlaw05_RoundBetween.sg 0 ⟨[], [], []⟩ [] true = ⟨.one (.bool true), []⟩ := by kernel_rfl
  have hn : (Tryd.f4.name == "runtime.NumGoroutine") = false := by kernel_rfl
  have hb : Tryd.f4.body = some (bodyOf Tryd.f4) := by kernel_rfl
  exact law_calls2 (sg := vernierlaw05_RoundBetween.sg) (F := vernierlaw05_RoundBetween) (w := W) (vs := #[.int .i64 x0, .agg c1]) (fuel := k) (out := true) (o' := true) (args := [.one (.int .i64 x0), .v (true, cells (.pair .bool (.pair (.sl (.int .u64)) (.int .i64))) x1)]) (X := vernierlaw05_RoundBetween k x0 x1.1 x1.2.1 x1.2.2) vernierlaw05_RoundBetween_ok Tryd.func4 hb hn hsh hap0 hk hpm heff hgl ⟨arg_int _ _, (arg_agg (ty := .pair .bool (.pair (.sl (.int .u64)) (.int .i64))) (x := x1) e1), trivial⟩
set_option maxRecDepth 100000 in
theorem lifted (os : Os) (started : os.Started) (H : Type) (enc : TypeId × Value → H) :
    ReturnsInHanded {} Tryd.checked os 4 .any (fun w args => (Rows.roundBetweenSpec.pre enc Tryd.prog Tryd.f4 [] false w args ∧ laidMetH Tryd.prog laidL w) ∧ sizedMet enc Tryd.prog Tryd.f4 (OpenSpec.ofChange Rows.roundBetweenSpec) false w args)
      (Rows.roundBetweenSpec.post enc Tryd.prog Tryd.f4 false true false false) := by
  refine returnsInHanded_of_change_and (C := Tryd.checked) (X := fun w _ => laidMetH Tryd.prog laidL w) (fun _ _ _ hh h => h.of_heap hh) own started (by kernel_rfl) Tryd.func4
    (ChangeSpec.witness_shaped (enc := enc) (C := Tryd.checked) (os := os) (X := fun w _ => laidMetH Tryd.prog laidL w) false (World.doorLaid Tryd.prog 400 os) #[.int .i64 0, .agg #[.bool false, .slice none 0 0, .int .i64 0]] 8 rfl (World.shaped_of_RefB (by kernel_rfl) (by kernel_rfl)) (by kernel_rfl) (by kernel_rfl) (by kernel_rfl) (door_met os _)) ?_
  intro W base args ds gs before hval0 hW _ hsz0 hL _
  have hval : ∀ (j : Nat) t v, Tryd.f4.params[j]? = some t → args[j]? = some v → Value.okWide Tryd.prog W .any base t v := hval0
  have hW' := hW
  obtain ⟨p, q, hA0, hV, rfl, hfz, hnd⟩ := hW
  have hA : DataW.TrodAll enc Tryd.prog W 0 (fun _ => true) true Tryd.f4.params.toList args.toList ds p := hA0
  have hsz : (DataW.weightsEach Tryd.prog (Tryd.f4.params.toList ++ Rows.roundBetweenSpec.plain.varTypes Tryd.prog) (ds ++ gs)).all (· ≤ reachBytes) = true := hsz0
  rw [Tryd.params4] at hA hval hsz
  obtain ⟨v0, vs0, d0, ds0, p0, q0, hargs, rfl, rfl, h0, r0⟩ := trodAll_cons hA
  obtain ⟨v1, vs1, d1, ds1, p1, q1, rfl, rfl, rfl, h1, r1⟩ := trodAll_cons r0
  obtain ⟨rfl, rfl, rfl⟩ := trodAll_nil r1
  obtain rfl : args = #[v0, v1] := by cases args; simp_all
  obtain ⟨rfl, rfl⟩ := trodVars_none hV
  obtain ⟨x0, rfl, rfl, rfl, w0⟩ := open_int Tryd.underlying3 (hval 0 3 v0 rfl rfl) h0
  obtain ⟨c1, rfl, -⟩ := okWide_struct Tryd.underlying25 (hval 1 25 v1 rfl rfl)
  have k1 := h1
  have lt1 : ∀ x ∈ p1, x.block < W.heap.size := by obtain ⟨m, hm⟩ := k1; exact DataW.trod_lt m _ _ _ hm
  obtain ⟨u1, hu1⟩ := id h1
  obtain ⟨x1, e1, w1⟩ := enc_of_trod 30 (.pair .bool (.pair (.sl (.int .u64)) (.int .i64))) 25 _ _ u1 (by kernel_rfl) hu1 (fun k hk => by
    have := List.all_eq_true.1 hsz _ (DataW.weights_mem_each (ts := _) (j := 1) (t := 25) rfl rfl k hk)
    exact of_decide_eq_true this)
  clear hA0 hval0
  obtain ⟨k, hk⟩ := Pure.RoundBetween x0 x1 w0 w1
  have hk : vernierlaw05_RoundBetween k x0 x1.1 x1.2.1 x1.2.2 = some true := hk k (Nat.le_refl k)
  refine (run (gl_of hL) k x0 c1 x1 e1 hk).mono fun e W' ⟨he, bel⟩ => ?_
  subst he
  exact ⟨_, rfl, _, _, _, [], _, [], hW', trodAll_mk1 (shut_bool Tryd.underlying4 _), (trodAll_cons_mk (shut_int Tryd.underlying3 w0) (trodAll_cons_mk (Below.trod laidOut (by kernel_rfl) (of_decide_eq_true (by kernel_rfl)) k1 bel lt1) trodAll_mk0)), rfl, bel.frame _, fun h => by cases h⟩
theorem row_holds : Rows.roundBetweenRow.holds Tryd.pinned (OpenSpec.ofChange Rows.roundBetweenSpec) :=
  OpenClaim.holds_of_wide 4 Tryd.f4 rfl rfl rfl rfl rfl rfl rfl ⟨rfl, rfl, rfl, rfl, rfl⟩ rfl rfl rfl rfl rfl (by kernel_rfl) Tryd.func4 (by kernel_rfl)
    (of_decide_eq_true (by kernel_rfl)) (by unfold Func.isWrapper; first | (rw [if_pos (by decide +kernel)]; kernel_rfl) | (rw [if_neg (by decide +kernel)]; exact ⟨rfl, rfl⟩))
    (fun os started H enc _ => lifted os started H enc)
theorem proved : Rows.RoundBetweenCardSaid :=
  Claim7.holds_tied_plain_at .later [] [.data, .data] true (true, "fd99fab75102b5d8eaf2c5fb973dcc7220a4009d75117c76e49c5401f59df049") false
    row_holds (fun _ h => by cases h) (by kernel_rfl) (fun _ h => by cases h) roundBetween_row_tie rfl ⟨rfl, rfl⟩ (by kernel_rfl) rfl
    (fun f fn hf hfn => by
      obtain rfl : f = 4 := Option.some.inj ((show Tryd.prog.funcNamed "vernier/vernierlaw05.RoundBetween" = some 4 by kernel_rfl).symm.trans hf) |>.symm
      obtain rfl : fn = Tryd.f4 := (Option.some.inj (Tryd.func4.symm.trans hfn)).symm
      exact ⟨by kernel_rfl, fun j t ht => by
        rw [Tryd.params4] at ht
        have hm : t ∈ [3, 25] := by simpa using Array.mem_of_getElem? ht
        have hall : ([3, 25].all fun u => !Tryd.prog.wantsStandIn u) = true := by kernel_rfl
        exact (show Tryd.prog.wantsStandIn t = false by simpa using List.all_eq_true.1 hall t hm)⟩)
    (by kernel_rfl)
#print axioms proved
end Go.Proofs.YtbaaggmicpigeaaDoor.roundBetween
namespace Go.Proofs.YtbaaggmicpigeaaDoor
/-- The card, under a short name, for the claim. -/
theorem roundBetween_holds : Rows.RoundBetweenCardSaid := roundBetween.proved
end Go.Proofs.YtbaaggmicpigeaaDoor
