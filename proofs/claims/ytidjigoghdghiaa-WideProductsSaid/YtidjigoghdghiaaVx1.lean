/- Contracts of the program's functions, each: where the printed function answers, the call answers the same. Written by vprint.py, this session's own program over the kit's print.py; Lean checks it. No conditions beyond those that each states. -/
import Derived.Test.YtidjigoghdghiaaVx0
namespace Go.Proofs.Ytidjigoghdghiaa.V
open Go.RowKit Go.Proofs.YtidjigoghdghiaaQ.PrintWords Go.Proofs.YtidjigoghdghiaaQ.PrintLast Go.Proofs.YtidjigoghdghiaaQ.PrintMore
open Bool renaming true → Y, false → Z
open List renaming setIfInBounds_toArray → lT, set_cons_zero → lZ, set_cons_succ → lS, map_toArray → mT, map_cons → mC, map_nil → mN, length_drop → lD, length_take → lK
open Act renaming put → aP
attribute [local go_sem] max2_int min2_int max_two min_two max_three min_three max_four min_four   -- for this text's walks alone
set_option linter.unusedVariables false
set_option linter.unusedSimpArgs false

theorem eqA24 (d : Nat) (w : World) (x0 y0 : Int) (x1 y1 : Int) :
    (Op.equalIn (d + 2) 24 (.agg #[.int .u64 x0,.int .u64 x1]) (.agg #[.int .u64 y0,.int .u64 y1])).run Try.prog w = .ok (x0 == y0 && (x1 == y1)) w:=by
  refine eqA_of Try.underlying24 (by kernel_rfl) ?_
  refine eqf_cons (by rfl) (by go_simp;rfl) (by go_simp;rfl) (by go_simp) ?_
  exact eqf_last (by rfl) (by go_simp;rfl) (by go_simp;rfl) (by go_simp)
end Go.Proofs.Ytidjigoghdghiaa.V
