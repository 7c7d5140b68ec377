/- The card of HexesSays: for every input the call returns true and the input reads as it did. Condition: the package variables math/bits.deBruijn32tab, math/bits.deBruijn64tab, internal/strconv.uint64pow10, vernier/format.rows hold what the program's text lays; the card ties that to the text. -/
import Derived.Test.YtmoeaeflljpboaaDoorCards
import Derived.Test.YtmoeaeflljpboaaDoorTie
import Derived.Test.YtmoeaeflljpboaaDoorR2
import Derived.Test.YtmoeaeflljpboaaDoorPureHexesSays
import Derived.WalkKit
import Derived.ProofKit
import Derived.OpenShut
import Derived.ShutString
import Derived.ChangeOld
import Derived.Below
import Derived.SizedLaws
import Derived.Lib.SmallJoins
import Derived.LaidMore
import Derived.Stop.Joined
import Derived.SevenTiedAt
namespace Go.Proofs.YtmoeaeflljpboaaDoor.hexesSays
open Go.ChangeShapes Go.WideShapes Go.ChangeAt Go.RowKit Go.Joins Go.WideMaps Go.WideElems Go.Rex Go.Proofs.YtmoeaeflljpboaaDoor.X
open Go.ChangeMaps (open_string shut_string)
set_option linter.unusedVariables false
theorem own : ownKnob Tryd.prog.godebug = none := by kernel_rfl
theorem laidOut : laidOutB Tryd.prog = true := by kernel_rfl
/-- What the row lists. -/
def laidL : List (String × DataW Unit) := [("math/bits.deBruijn32tab", Rows.laid_math_bits_deBruijn32tab), ("math/bits.deBruijn64tab", Rows.laid_math_bits_deBruijn64tab), ("internal/strconv.uint64pow10", Rows.laid_internal_strconv_uint64pow10), ("vernier/format.rows", Rows.laid_vernier_format_rows)]
theorem door_met (os : Os) (args : Array Value) : laidMetH Tryd.prog laidL ((World.doorLaid Tryd.prog 400 os).forCall (fun _ _ => 0) ⟨#[], args, []⟩).memory :=
  laidMetH_of_parts3 (fuel := 8) (laidMet_of_run' 8 (by kernel_rfl) (by kernel_rfl)) (by kernel_rfl) (by kernel_rfl)
theorem gl_of {W : World} (h : laidMetH Tryd.prog laidL W) : ∀ g x, get g GL = some x → VRel (oldR W) noMap W x (.pointer (some ⟨g, 0, none⟩)) := by
  rw [MakeChecks.laidMetH_plain _ _ _ (by kernel_rfl)] at h
  obtain ⟨ps, ⟨g0, t0, cs0, f0, p0, q0, hg0, ht0, hv0, hd0, ⟨g1, t1, cs1, f1, p1, q1, hg1, ht1, hv1, hd1, ⟨g2, t2, cs2, f2, p2, q2, hg2, ht2, hv2, hd2, ⟨g3, t3, cs3, f3, p3, q3, hg3, ht3, hv3, hd3, _, _⟩, _⟩, _⟩, _⟩, _, _⟩ := h
  intro g x hx
  obtain rfl := Option.some.inj ((show Tryd.prog.globalNamed "math/bits.deBruijn64tab" = some 1 by kernel_rfl).symm.trans hg1)
  obtain rfl := Option.some.inj ((show (Tryd.prog.globals[1]?).map (·.type) = some 173 by kernel_rfl).symm.trans ht1)
  have c1 := Option.some.inj ((trod_lits 6 173 _ _ f1 (by kernel_rfl) hd1).symm.trans (show litsOf 6 (Rows.laid_math_bits_deBruijn64tab : DataW Unit) = some (dbT.flatMap (vals (.int .u8))) by kernel_rfl))
  have r1 := rarr_rel (t := .int .u8) rfl (xs := dbT) (w := W) (g := 1) (cs := cs1.toList) (fun e => absurd (congrArg List.length (c1.symm.trans e)) (by decide +kernel)) (fun k => by rw [World.var?_cell hg1 hv1 k, Array.getElem?_toList]) c1
  obtain rfl := Option.some.inj ((show Tryd.prog.globalNamed "internal/strconv.uint64pow10" = some 4 by kernel_rfl).symm.trans hg2)
  obtain rfl := Option.some.inj ((show (Tryd.prog.globals[4]?).map (·.type) = some 180 by kernel_rfl).symm.trans ht2)
  have c2 := Option.some.inj ((trod_lits 6 180 _ _ f2 (by kernel_rfl) hd2).symm.trans (show litsOf 6 (Rows.laid_internal_strconv_uint64pow10 : DataW Unit) = some (p10T.flatMap (vals (.int .u64))) by kernel_rfl))
  have r2 := rarr_rel (t := .int .u64) rfl (xs := p10T) (w := W) (g := 4) (cs := cs2.toList) (fun e => absurd (congrArg List.length (c2.symm.trans e)) (by decide +kernel)) (fun k => by rw [World.var?_cell hg2 hv2 k, Array.getElem?_toList]) c2
  obtain rfl := Option.some.inj ((show Tryd.prog.globalNamed "vernier/format.rows" = some 0 by kernel_rfl).symm.trans hg3)
  obtain rfl := Option.some.inj ((show (Tryd.prog.globals[0]?).map (·.type) = some 145 by kernel_rfl).symm.trans ht3)
  have c3 := Option.some.inj ((trod_lits 6 145 _ _ f3 (by kernel_rfl) hd3).symm.trans (show litsOf 6 (Rows.laid_vernier_format_rows : DataW Unit) = some (rowsT.flatMap (vals (.pair (.int .i64) (.pair (.int .i64) (.pair (.int .i64) (.int .i64)))))) by kernel_rfl))
  have r3 := rarr_rel (t := .pair (.int .i64) (.pair (.int .i64) (.pair (.int .i64) (.int .i64)))) rfl (xs := rowsT) (w := W) (g := 0) (cs := cs3.toList) (fun e => absurd (congrArg List.length (c3.symm.trans e)) (by decide +kernel)) (fun k => by rw [World.var?_cell hg3 hv3 k, Array.getElem?_toList]) c3
  simp only [GL, Rex.get] at hx
  split at hx
  · rename_i e; subst e; cases hx; exact r3
  · skip
    split at hx
    · rename_i e; subst e; cases hx; exact r1
    · skip
      split at hx
      · rename_i e; subst e; cases hx; exact r2
      · cases hx
set_option maxRecDepth 100000 in
/-- The law's run. -/
theorem run {W : World} (hgl : ∀ g x, Rex.get g GL = some x → VRel (oldR W) noMap W x (.pointer (some ⟨g, 0, none⟩))) (k : Nat) (c0 : Array Value) (x0 : Ty.den (.pair (.int .i64) (.pair (.int .i64) (.pair (.sl (.int .i64)) (.pair (.sl (.int .i64)) (.pair (.int .i64) .bool)))))) (e0 : Enc (oldR W) W (.pair (.int .i64) (.pair (.int .i64) (.pair (.sl (.int .i64)) (.pair (.sl (.int .i64)) (.pair (.int .i64) .bool))))) x0 c0.toList) (hk : vernierlaw15_HexesSays k x0.1 x0.2.1 x0.2.2.1 x0.2.2.2.1 x0.2.2.2.2.1 x0.2.2.2.2.2 = some true) : Calls Tryd.prog 8 #[.agg c0] W fun e W' => e = .returned (.bool true) ∧ Below W.heap.size W W' := by
  have hsh : shapeOk vernierlaw15_HexesSays.sg.ps [.v (true, cells (.pair (.int .i64) (.pair (.int .i64) (.pair (.sl (.int .i64)) (.pair (.sl (.int .i64)) (.pair (.int .i64) .bool))))) x0)] = true := by kernel_rfl
  have hap0 : applyArgs (O := vernierlaw15_HexesSays.sg.Out) noLook vernierlaw15_HexesSays.sg.ks (vernierlaw15_HexesSays k) (leaves [.v (true, cells (.pair (.int .i64) (.pair (.int .i64) (.pair (.sl (.int .i64)) (.pair (.sl (.int .i64)) (.pair (.int .i64) .bool))))) x0)]) ⟨[], [], []⟩ = some ((vernierlaw15_HexesSays k x0.1 x0.2.1 x0.2.2.1 x0.2.2.2.1 x0.2.2.2.2.1 x0.2.2.2.2.2 : Option vernierlaw15_HexesSays.sg.Out), ⟨[], [], []⟩) := by kernel_rfl
  have hpm : putMuts noLook vernierlaw15_HexesSays.sg.ks (leaves [.v (true, cells (.pair (.int .i64) (.pair (.int .i64) (.pair (.sl (.int .i64)) (.pair (.sl (.int .i64)) (.pair (.int .i64) .bool))))) x0)]) ((flat vernierlaw15_HexesSays.sg.rs).map RK.den) true = some ([], true) := by kernel_rfl
  have heff : callEff vernierlaw15_HexesSays.sg 0 ⟨[], [], []⟩ [] true = ⟨.one (.bool true), []⟩ := by kernel_rfl
  have hn : (Tryd.f8.name == "runtime.NumGoroutine") = false := by kernel_rfl
  have hb : Tryd.f8.body = some (bodyOf Tryd.f8) := by kernel_rfl
  exact law_calls2 (sg := vernierlaw15_HexesSays.sg) (F := vernierlaw15_HexesSays) (w := W) (vs := #[.agg c0]) (fuel := k) (out := true) (o' := true) (args := [.v (true, cells (.pair (.int .i64) (.pair (.int .i64) (.pair (.sl (.int .i64)) (.pair (.sl (.int .i64)) (.pair (.int .i64) .bool))))) x0)]) (X := vernierlaw15_HexesSays k x0.1 x0.2.1 x0.2.2.1 x0.2.2.2.1 x0.2.2.2.2.1 x0.2.2.2.2.2) vernierlaw15_HexesSays_ok Tryd.func8 hb hn hsh hap0 hk hpm heff hgl ⟨(arg_agg (ty := .pair (.int .i64) (.pair (.int .i64) (.pair (.sl (.int .i64)) (.pair (.sl (.int .i64)) (.pair (.int .i64) .bool))))) (x := x0) e0), trivial⟩
set_option maxRecDepth 100000 in
theorem lifted (os : Os) (started : os.Started) (H : Type) (enc : TypeId × Value → H) :
    ReturnsInHanded {} Tryd.checked os 8 .any (fun w args => (Rows.hexesSaysSpec.pre enc Tryd.prog Tryd.f8 [] false w args ∧ laidMetH Tryd.prog laidL w) ∧ sizedMet enc Tryd.prog Tryd.f8 (OpenSpec.ofChange Rows.hexesSaysSpec) false w args)
      (Rows.hexesSaysSpec.post enc Tryd.prog Tryd.f8 false true false false) := by
  refine returnsInHanded_of_change_and (C := Tryd.checked) (X := fun w _ => laidMetH Tryd.prog laidL w) (fun _ _ _ hh h => h.of_heap hh) own started (by kernel_rfl) Tryd.func8
    (ChangeSpec.witness_shaped (enc := enc) (C := Tryd.checked) (os := os) (X := fun w _ => laidMetH Tryd.prog laidL w) false (World.doorLaid Tryd.prog 400 os) #[.agg #[.int .i64 0, .int .i64 0, .slice none 0 0, .slice none 0 0, .int .i64 0, .bool false]] 8 rfl (World.shaped_of_RefB (by kernel_rfl) (by kernel_rfl)) (by kernel_rfl) (by kernel_rfl) (by kernel_rfl) (door_met os _)) ?_
  intro W base args ds gs before hval0 hW _ hsz0 hL _
  have hval : ∀ (j : Nat) t v, Tryd.f8.params[j]? = some t → args[j]? = some v → Value.okWide Tryd.prog W .any base t v := hval0
  have hW' := hW
  obtain ⟨p, q, hA0, hV, rfl, hfz, hnd⟩ := hW
  have hA : DataW.TrodAll enc Tryd.prog W 0 (fun _ => true) true Tryd.f8.params.toList args.toList ds p := hA0
  have hsz : (DataW.weightsEach Tryd.prog (Tryd.f8.params.toList ++ Rows.hexesSaysSpec.plain.varTypes Tryd.prog) (ds ++ gs)).all (· ≤ reachBytes) = true := hsz0
  rw [Tryd.params8] at hA hval hsz
  obtain ⟨v0, vs0, d0, ds0, p0, q0, hargs, rfl, rfl, h0, r0⟩ := trodAll_cons hA
  obtain ⟨rfl, rfl, rfl⟩ := trodAll_nil r0
  obtain rfl : args = #[v0] := by cases args; simp_all
  obtain ⟨rfl, rfl⟩ := trodVars_none hV
  obtain ⟨c0, rfl, -⟩ := okWide_struct Tryd.underlying66 (hval 0 66 v0 rfl rfl)
  have k0 := h0
  have lt0 : ∀ x ∈ p0, x.block < W.heap.size := by obtain ⟨m, hm⟩ := k0; exact DataW.trod_lt m _ _ _ hm
  obtain ⟨u0, hu0⟩ := id h0
  obtain ⟨x0, e0, w0⟩ := enc_of_trod 30 (.pair (.int .i64) (.pair (.int .i64) (.pair (.sl (.int .i64)) (.pair (.sl (.int .i64)) (.pair (.int .i64) .bool))))) 66 _ _ u0 (by kernel_rfl) hu0 (fun k hk => by
    have := List.all_eq_true.1 hsz _ (DataW.weights_mem_each (ts := _) (j := 0) (t := 66) rfl rfl k hk)
    exact of_decide_eq_true this)
  clear hA0 hval0
  obtain ⟨k, hk⟩ := Pure.HexesSays x0 w0
  have hk : vernierlaw15_HexesSays k x0.1 x0.2.1 x0.2.2.1 x0.2.2.2.1 x0.2.2.2.2.1 x0.2.2.2.2.2 = some true := hk k (Nat.le_refl k)
  refine (run (gl_of hL) k c0 x0 e0 hk).mono fun e W' ⟨he, bel⟩ => ?_
  subst he
  exact ⟨_, rfl, _, _, _, [], _, [], hW', trodAll_mk1 (shut_bool Tryd.underlying4 _), (trodAll_cons_mk (Below.trod laidOut (by kernel_rfl) (of_decide_eq_true (by kernel_rfl)) k0 bel lt0) trodAll_mk0), rfl, bel.frame _, fun h => by cases h⟩
theorem row_holds : Rows.hexesSaysRow.holds Tryd.pinned (OpenSpec.ofChange Rows.hexesSaysSpec) :=
  OpenClaim.holds_of_wide 8 Tryd.f8 rfl rfl rfl rfl rfl rfl rfl ⟨rfl, rfl, rfl, rfl, rfl⟩ rfl rfl rfl rfl rfl (by kernel_rfl) Tryd.func8 (by kernel_rfl)
    (of_decide_eq_true (by kernel_rfl)) (by unfold Func.isWrapper; first | (rw [if_pos (by decide +kernel)]; kernel_rfl) | (rw [if_neg (by decide +kernel)]; exact ⟨rfl, rfl⟩))
    (fun os started H enc _ => lifted os started H enc)
theorem proved : Rows.HexesSaysCardSaid :=
  Claim7.holds_tied_plain_at .later [] [.data, .data, .data, .data] true (true, "3b48a22506d84dd1d5b9fa918de1b7c26035b807c4ace3af1efb2295708a3b56") false
    row_holds (fun _ h => by cases h) (by kernel_rfl) (fun _ h => by cases h) hexesSays_row_tie rfl ⟨rfl, rfl⟩ (by kernel_rfl) rfl
    (fun f fn hf hfn => by
      obtain rfl : f = 8 := Option.some.inj ((show Tryd.prog.funcNamed "vernier/vernierlaw15.HexesSays" = some 8 by kernel_rfl).symm.trans hf) |>.symm
      obtain rfl : fn = Tryd.f8 := (Option.some.inj (Tryd.func8.symm.trans hfn)).symm
      exact ⟨by kernel_rfl, fun j t ht => by
        rw [Tryd.params8] at ht
        have hm : t ∈ [66] := by simpa using Array.mem_of_getElem? ht
        have hall : ([66].all fun u => !Tryd.prog.wantsStandIn u) = true := by kernel_rfl
        exact (show Tryd.prog.wantsStandIn t = false by simpa using List.all_eq_true.1 hall t hm)⟩)
    (by kernel_rfl)
#print axioms proved
end Go.Proofs.YtmoeaeflljpboaaDoor.hexesSays
namespace Go.Proofs.YtmoeaeflljpboaaDoor
/-- The card, under a short name, for the claim. -/
theorem hexesSays_holds : Rows.HexesSaysCardSaid := hexesSays.proved
end Go.Proofs.YtmoeaeflljpboaaDoor
