/- Plain law: HexesParses answers true. Conditions: what the reading says of the arguments. -/
import Derived.Test.YtmoeaeflljpboaaDoorHxG
import Derived.Test.YtmoeaeflljpboaaDoorR2
namespace Go.Proofs.YtmoeaeflljpboaaDoor.X
open Go Go.Rex
set_option linter.unusedVariables false
namespace Pure
/-- For all formats, modes and texts: true. -/
theorem HexesParses (f : Int) (m : Int) (s : ByteArray) (wf : WFt (.int .i64) f) (wm : WFt (.int .i64) m) (ws : s.size ≤ 140737488351232) : Ev (fun k => vernierlaw15_HexesParses k f m s) true := by
  obtain ⟨r, g1, g2⟩ := parse_any f m s
  obtain ⟨q, g3, g4⟩ := parse_any 3 4 s
  refine Ev.congr (fun k => vernierlaw15_HexesParses_eq k f m s) (Ev.bind awake15_ev (Ev.neg (by simp) (Ev.bind g1 (Ev.bind g2 (Ev.neg (nF rfl) (Ev.neg (nF rfl) (Ev.neg (nF rfl) ?_)))))))
  exact Ev.congr (fun k => vernierlaw15_HexesParses.j0_eq k s) (Ev.bind g3 (Ev.bind g4 (Ev.pos (bT rfl) (Ev.pos (bT rfl) (Ev.eq (Ev.some _) (beq_self_eq_true _))))))
end Pure
end Go.Proofs.YtmoeaeflljpboaaDoor.X
