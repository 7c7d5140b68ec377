/- Plain law: layer 5's Exact, Ratio and Parts answer the plain rounding. Conditions: format and mode are such; the words are words. -/
import Derived.Test.YtmoeaeflljpboaaRoC
namespace Go.Proofs.Ytmoeaeflljpboaa.X
open Go Go.Rex
set_option linter.unusedVariables false

/-- A mode. -/
structure Md (m : Int) : Prop where
  m0 : 0 ≤ m
  m5 : m ≤ 5
theorem ev_some {α : Type} {x y : α} (h : x = y) : Ev (fun _ => some x) y := h ▸ Ev.some x
section
variable {f : Int} {W P : Nat} {em ex : Int} (h : Fm f W P em ex)
include h
end
end Go.Proofs.Ytmoeaeflljpboaa.X
