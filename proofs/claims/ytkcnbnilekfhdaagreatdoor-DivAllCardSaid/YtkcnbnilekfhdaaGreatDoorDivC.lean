/- Plain law: layer 8's law: awake and cut. Conditions: the format is one of the four. -/
import Derived.Test.YtkcnbnilekfhdaaGreatDoorDivA
namespace Go.Proofs.YtkcnbnilekfhdaaGreatDoor.X
open Go Go.Rex
set_option linter.unusedVariables false

theorem awake08_ev : Ev (fun k => vernierlaw08_awake k) true := by
  have e1 : pk 32 1065353216 = 1065353216 := by decide +kernel
  have e2 : ps 32 1065353216 = false := by decide +kernel
  have e3 : pk 32 1077936128 = 1077936128 := by decide +kernel
  have e4 : ps 32 1077936128 = false := by decide +kernel
  have v1 : plV 24 1065353216 = 2 ^ 149 * (2 * 0 + 1) := by decide +kernel
  have v2 : plV 24 1077936128 = 2 ^ 149 * (2 * 1 + 1) := by decide +kernel
  have t1 : tz (plV 24 1065353216) = 149 := by rw [v1, tz_eq]
  have t2 : tz (plV 24 1077936128) = 149 := by rw [v2, tz_eq]
  have o1 : oddN (plV 24 1065353216) = 1 := by unfold oddN; rw [t1, v1]
  have o2 : oddN (plV 24 1077936128) = 3 := by unfold oddN; rw [t2, v2]
  have c1 : clsOf 32 24 1065353216 false = 8 := by decide +kernel
  have c2 : clsOf 32 24 1077936128 false = 8 := by decide +kernel
  have p := Div_ev fm32 (m := 0) ⟨by decide, by decide⟩ (a := 1065353216) (b := 1077936128) (by decide) (by decide)
  rw [e1, e2, e3, e4, t1, t2, o1, o2, c1, c2] at p
  have er : raR 32 24 (-126) 0 (!(false == false)) 1 3 (((149 : Nat) : Int) - ((149 : Nat) : Int)) = (1051372203, (16, 0)) := raR_third
  rw [er] at p
  refine Ev.congr (fun k => vernierlaw08_awake_eq k) (Ev.bind p ?_)
  exact Ev.pos rfl (Ev.pos rfl (Ev.some _))
section
variable {f : Int} {W P : Nat} {em ex : Int} (h : Fm f W P em ex)
include h
end
end Go.Proofs.YtkcnbnilekfhdaaGreatDoor.X
