/- Contracts of the program's functions, each: where the printed function answers, the call answers the same. Written by vprint.py, this session's own program over the kit's print.py; Lean checks it. No conditions beyond those that each states. -/
import Derived.Test.YtidjigoghdghiaaVx0
import Derived.Test.YtidjigoghdghiaaVx4
import Derived.Test.YtidjigoghdghiaaVx5
import Derived.Test.YtidjigoghdghiaaVx6
import Derived.Test.YtidjigoghdghiaaVx7
import Derived.Test.YtidjigoghdghiaaVx12
namespace Go.Proofs.Ytidjigoghdghiaa.V
open Go.RowKit Go.Proofs.YtidjigoghdghiaaQ.PrintWords Go.Proofs.YtidjigoghdghiaaQ.PrintLast Go.Proofs.YtidjigoghdghiaaQ.PrintMore
open Bool renaming true → Y, false → Z
open List renaming setIfInBounds_toArray → lT, set_cons_zero → lZ, set_cons_succ → lS, map_toArray → mT, map_cons → mC, map_nil → mN, length_drop → lD, length_take → lK
open Act renaming put → aP
attribute [local go_sem] max2_int min2_int max_two min_two max_three min_three max_four min_four   -- for this text's walks alone
set_option linter.unusedVariables false
set_option linter.unusedSimpArgs false

/-! ### vernierref01_Div: function 32 -/
def vernierref01_Div.l0 : Nat→Int→Int→Int→Int→Int→Int→Int→Int→Option (Int × Int × Int × Int)
  | 0,_,_,_,_,_,_,_,_ => none
  | k + 1,x1,x9,x384000,x384001,x386000,x386001,x387000,x387001 => if x9 ≥ 0 then ((vernierref01_Shl.f k x387000 x387001 1).bind fun bt387 => ((vernierref01_Bit.f k x384000 x384001 x9).bind fun t389 => ((vernierref01_Cmp.f k bt387.1 (Go.bits .or .u64 bt387.2 t389) 0 x1).bind fun t390 => (if t390 ≥ 0 then ((vernierref01_Sub.f k bt387.1 (Go.bits .or .u64 bt387.2 t389) 0 x1).bind fun bt391 => ((vernierref01_With.f x386000 x386001 x9 1).bind fun bt394 => (vernierref01_Div.l0 k x1 (wrap64 (x9 - 1)) x384000 x384001 bt394.1 bt394.2 bt391.1 bt391.2.1))) else (vernierref01_Div.l0 k x1 (wrap64 (x9 - 1)) x384000 x384001 x386000 x386001 bt387.1 (Go.bits .or .u64 bt387.2 t389)))))) else (some (x386000,x386001,x387001,0))
def vernierref01_Div.f (k : Nat) (a0_0 : Int) (a0_1 : Int) (a1 : Int) : Option (Int × Int × Int × Int):=if a1 = 0 then (some (0,0,0,10)) else (vernierref01_Div.l0 k a1 127 a0_0 a0_1 0 0 0 0)
theorem vernierref01_Div.mono_l : ∀ k,(∀ y0 y1 y2 y3 y4 y5 y6 y7,LeO (vernierref01_Div.l0 k y0 y1 y2 y3 y4 y5 y6 y7) (vernierref01_Div.l0 (k + 1) y0 y1 y2 y3 y4 y5 y6 y7))
  | 0 => fun _ _ _ _ _ _ _ _ r h => by simp [vernierref01_Div.l0] at h
  | k + 1 => by
    have ih0:=vernierref01_Div.mono_l k
    · intro y0 y1 y2 y3 y4 y5 y6 y7
      unfold vernierref01_Div.l0
      repeat' first
      | (with_reducible exact ih0 _ _ _ _ _ _ _ _)
      | (with_reducible exact vernierref01_Bit.mono _ _ _ _)
      | (with_reducible exact vernierref01_Cmp.mono _ _ _ _ _)
      | (with_reducible exact vernierref01_Shl.mono _ _ _ _)
      | (with_reducible exact vernierref01_Sub.mono _ _ _ _ _)
      | (with_reducible exact LeO.refl _)
      | (with_reducible exact LeO.none _)
      | (with_reducible refine LeO.ite ?_ ?_)
      | (with_reducible refine LeO.bind ?_ (fun _ => ?_))
      | exact ih0 _ _ _ _ _ _ _ _
      | exact vernierref01_Bit.mono _ _ _ _
      | exact vernierref01_Cmp.mono _ _ _ _ _
      | exact vernierref01_Shl.mono _ _ _ _
      | exact vernierref01_Sub.mono _ _ _ _ _
      | exact LeO.none _
      | refine LeO.ite ?_ ?_
      | refine LeO.bind ?_ (fun _ => ?_)
theorem vernierref01_Div.mono : ∀ a0 a1 a2 k,LeO (vernierref01_Div.f k a0 a1 a2) (vernierref01_Div.f (k + 1) a0 a1 a2):=by
  intro a0 a1 a2 k
  have ih0:=vernierref01_Div.mono_l k
  unfold vernierref01_Div.f
  repeat' first
      | (with_reducible exact ih0 _ _ _ _ _ _ _ _)
      | (with_reducible exact vernierref01_Bit.mono _ _ _ _)
      | (with_reducible exact vernierref01_Cmp.mono _ _ _ _ _)
      | (with_reducible exact vernierref01_Shl.mono _ _ _ _)
      | (with_reducible exact vernierref01_Sub.mono _ _ _ _ _)
      | (with_reducible exact LeO.refl _)
      | (with_reducible exact LeO.none _)
      | (with_reducible refine LeO.ite ?_ ?_)
      | (with_reducible refine LeO.bind ?_ (fun _ => ?_))
      | exact ih0 _ _ _ _ _ _ _ _
      | exact vernierref01_Bit.mono _ _ _ _
      | exact vernierref01_Cmp.mono _ _ _ _ _
      | exact vernierref01_Shl.mono _ _ _ _
      | exact vernierref01_Sub.mono _ _ _ _ _
      | exact LeO.none _
      | refine LeO.ite ?_ ?_
      | refine LeO.bind ?_ (fun _ => ?_)
def vernierref01_Div.T8 : Bool × List (List Nat × List Nat):=(true,[([],[]),([0],[0]),([],[]),([],[]),([2,3],[2,3]),([1,4],[1,4]),([0,1,2,3,4,5],[]),([6,5,4,0,1,2,3,4,5],[5,6])])
def vernierref01_Div.B8 : List Nat:=[0,1,0,0,12,31,63,127]
theorem vernierref01_Div.tab8 : rtab .any (opsOf Try.f32 8) = vernierref01_Div.T8:=by kernel_rfl
theorem vernierref01_Div.bits8 : waitsOk vernierref01_Div.T8.2 vernierref01_Div.B8 = true:=by kernel_rfl
set_option maxHeartbeats 8000000 in
set_option maxRecDepth 100000 in
theorem vernierref01_Div.calls (k : Nat) (a0_0 : Int) (a0_1 : Int) (a1 : Int) (r1 : Int) (r2 : Int) (r3 : Int) (r4 : Int) (w : World) (h : vernierref01_Div.f k a0_0 a0_1 a1 = some (r1,r2,r3,r4)) :
    Calls Try.prog 32 #[.agg #[.int .u64 a0_0,.int .u64 a0_1],.int .u64 a1] w fun e w' => e = .returned (.tuple #[.agg #[.int .u64 r1,.int .u64 r2],.int .u64 r3,.int .i64 r4])∧Below w.heap.size w w':=by
  have hu28:=Try.underlying28
  have HB:=A0.mk (Below.refl w.heap.size w)
  have H : (if a1 = 0 then (some (0,0,0,10)) else (vernierref01_Div.l0 k a1 127 a0_0 a0_1 0 0 0 0)) = some (r1,r2,r3,r4):=h
  clear h
  by_cases c3 : a1 = 0
  · rw [if_pos c3] at H
    have c3b0 : (a1 == 0) = true:=beq_iff_eq.mpr c3
    have c3b1 : (a1 != 0) = false:=bne_eq_false_iff_eq.mpr c3
    clear c3
    simp only [Option.some.injEq,Prod.mk.injEq] at H
    obtain ⟨rfl,rfl,rfl,rfl⟩:=H
    go_enter Try.func32,Try.ntmps32
    go_wp2_with (first|((with_reducible refine gD (N:=2) rfl ?_);refine bE ?hg (N:=2) ?hd (cs:=#[.int .u64 a0_0,.int .u64 a0_1]) (t:=28) ?hr ?_;(case hd => rfl);(case hg => rfl);(case hr => first|(go_simp;done)|(go_simp;rfl));intro gb383 hg w4 hbox hb;have n0_:=A0.mk (wT (by repeat (first|(with_reducible first|exact HB.out|apply wA|apply wN|apply wD)|exact HB.out)) hb);have n1_:=A0.mk (hbox);have n2_:=A0.mk ((by rw [hg];exact (wZ (by repeat (first|(with_reducible first|exact HB.out|apply wA|apply wN|apply wD)|exact HB.out))) : w.heap.size ≤ gb383));have n3_:=A0.mk ((by rw [hg];exact (wZ (by repeat (first|(with_reducible first|exact HB.out|apply wA|apply wN|apply wD)|exact HB.out))) : w.heap.size ≤ gb383));clear HB;have HB:=n0_;have BK383:=n1_;have GW383:=n2_;have GE383:=n3_;clear n0_ n1_ n2_ n3_;clear hb hbox hg)|((with_reducible refine gD (N:=4) rfl ?_);refine bE ?hg (N:=4) ?hd (cs:=#[.int .u64 0,.int .u64 0]) (t:=28) ?hr ?_;(case hd => rfl);(case hg => rfl);(case hr => first|(go_simp;done)|(go_simp;rfl));intro gb384 hg w5 hbox hb;have n0_:=A0.mk (bB (g:=gb383) (o:=.cells #[.int .u64 a0_0,.int .u64 a0_1] 28 (0,0)) (by (with_reducible repeat (first|refine bN ?_ _|refine bD ?_|refine bA ?_ _));exact BK383.out) hb);have n1_:=A0.mk (wT (by repeat (first|(with_reducible first|exact HB.out|apply wA|apply wN|apply wD|refine wS ?_ GE383.out)|exact HB.out)) hb);have n2_:=A0.mk (hbox);have n3_:=A0.mk ((by rw [hg];exact (wZ (by repeat (first|(with_reducible first|exact HB.out|apply wA|apply wN|apply wD|refine wS ?_ GE383.out)|exact HB.out))) : w.heap.size ≤ gb384));have n4_:=A0.mk ((by rw [hg];exact (wZ (by repeat (first|(with_reducible first|exact HB.out|apply wA|apply wN|apply wD|refine wS ?_ GE383.out)|exact HB.out))) : w.heap.size ≤ gb384));have n5_:=A0.mk ((by rw [hg];exact Nat.ne_of_lt (blk_lt (g:=gb383) (o:=.cells #[.int .u64 a0_0,.int .u64 a0_1] 28 (0,0)) (by (with_reducible repeat (first|refine bN ?_ _|refine bD ?_|refine bA ?_ _));exact BK383.out)) : gb383 ≠ gb384));have n6_:=A0.mk ((by rw [hg];exact Nat.ne_of_gt (blk_lt (g:=gb383) (o:=.cells #[.int .u64 a0_0,.int .u64 a0_1] 28 (0,0)) (by (with_reducible repeat (first|refine bN ?_ _|refine bD ?_|refine bA ?_ _));exact BK383.out)) : gb384 ≠ gb383));clear BK383;clear HB;have BK383:=n0_;have HB:=n1_;have BK384:=n2_;have GW384:=n3_;have GE384:=n4_;have NB383_384:=n5_;have NB384_383:=n6_;clear n0_ n1_ n2_ n3_ n4_ n5_ n6_;clear hb hbox hg;have hnb6:=NB384_383.out;have hnc6:=NB383_384.out;have hcz7_0 : w5.cell? ⟨gb384,0,none⟩ = some (.int .u64 0):=(bC BK384.out 0).trans rfl;have hcz7_1 : w5.cell? ⟨gb384,1,none⟩ = some (.int .u64 0):=(bC BK384.out 1).trans rfl;have hfz7_0:=bF BK384.out 0;have hfz7_1:=bF BK384.out 1))
    refine bodyPost_ret (results_ctt rfl _ _ gb384 28 #[.int .u64 0,.int .u64 0] (0,0) _ rfl (by (with_reducible repeat (first|refine bN ?_ _|refine bD ?_|refine bA ?_ _));refine bP (cs:=#[.int .u64 0,.int .u64 0]) ?_ 1 _ rfl;(with_reducible repeat (first|refine bN ?_ _|refine bD ?_|refine bA ?_ _));refine bP (cs:=#[.int .u64 0,.int .u64 0]) ?_ 0 _ rfl;(with_reducible repeat (first|refine bN ?_ _|refine bD ?_|refine bA ?_ _));exact BK384.out) Try.underlying28 rfl (by kernel_rfl)) rfl ?_
    exact ⟨by first|rfl|(simp [errW_none,errW_some] <;> rfl)|(simp [*,errW_none,errW_some] <;> rfl),by repeat (first|(with_reducible first|exact HB.out|apply wA|apply wN|apply wD|refine wS ?_ GE383.out|refine wS ?_ GE384.out)|exact HB.out)⟩
  · rw [if_neg c3] at H
    have c3b0 : (a1 == 0) = false:=beq_eq_false_iff_ne.mpr c3
    have c3b1 : (a1 != 0) = true:=bne_iff_ne.mpr c3
    have H':=A0.mk H
    clear H
    go_enter Try.func32,Try.ntmps32
    go_wp2_with (first|((with_reducible refine gD (N:=2) rfl ?_);refine bE ?hg (N:=2) ?hd (cs:=#[.int .u64 a0_0,.int .u64 a0_1]) (t:=28) ?hr ?_;(case hd => rfl);(case hg => rfl);(case hr => first|(go_simp;done)|(go_simp;rfl));intro gb383 hg w8 hbox hb;have n0_:=A0.mk (wT (by repeat (first|(with_reducible first|exact HB.out|apply wA|apply wN|apply wD)|exact HB.out)) hb);have n1_:=A0.mk (hbox);have n2_:=A0.mk ((by rw [hg];exact (wZ (by repeat (first|(with_reducible first|exact HB.out|apply wA|apply wN|apply wD)|exact HB.out))) : w.heap.size ≤ gb383));have n3_:=A0.mk ((by rw [hg];exact (wZ (by repeat (first|(with_reducible first|exact HB.out|apply wA|apply wN|apply wD)|exact HB.out))) : w.heap.size ≤ gb383));clear HB;have HB:=n0_;have BK383:=n1_;have GW383:=n2_;have GE383:=n3_;clear n0_ n1_ n2_ n3_;clear hb hbox hg)|((with_reducible refine gD (N:=4) rfl ?_);refine bE ?hg (N:=4) ?hd (cs:=#[.int .u64 0,.int .u64 0]) (t:=28) ?hr ?_;(case hd => rfl);(case hg => rfl);(case hr => first|(go_simp;done)|(go_simp;rfl));intro gb384 hg w9 hbox hb;have n0_:=A0.mk (bB (g:=gb383) (o:=.cells #[.int .u64 a0_0,.int .u64 a0_1] 28 (0,0)) (by (with_reducible repeat (first|refine bN ?_ _|refine bD ?_|refine bA ?_ _));exact BK383.out) hb);have n1_:=A0.mk (wT (by repeat (first|(with_reducible first|exact HB.out|apply wA|apply wN|apply wD|refine wS ?_ GE383.out)|exact HB.out)) hb);have n2_:=A0.mk (hbox);have n3_:=A0.mk ((by rw [hg];exact (wZ (by repeat (first|(with_reducible first|exact HB.out|apply wA|apply wN|apply wD|refine wS ?_ GE383.out)|exact HB.out))) : w.heap.size ≤ gb384));have n4_:=A0.mk ((by rw [hg];exact (wZ (by repeat (first|(with_reducible first|exact HB.out|apply wA|apply wN|apply wD|refine wS ?_ GE383.out)|exact HB.out))) : w.heap.size ≤ gb384));have n5_:=A0.mk ((by rw [hg];exact Nat.ne_of_lt (blk_lt (g:=gb383) (o:=.cells #[.int .u64 a0_0,.int .u64 a0_1] 28 (0,0)) (by (with_reducible repeat (first|refine bN ?_ _|refine bD ?_|refine bA ?_ _));exact BK383.out)) : gb383 ≠ gb384));have n6_:=A0.mk ((by rw [hg];exact Nat.ne_of_gt (blk_lt (g:=gb383) (o:=.cells #[.int .u64 a0_0,.int .u64 a0_1] 28 (0,0)) (by (with_reducible repeat (first|refine bN ?_ _|refine bD ?_|refine bA ?_ _));exact BK383.out)) : gb384 ≠ gb383));clear BK383;clear HB;have BK383:=n0_;have HB:=n1_;have BK384:=n2_;have GW384:=n3_;have GE384:=n4_;have NB383_384:=n5_;have NB384_383:=n6_;clear n0_ n1_ n2_ n3_ n4_ n5_ n6_;clear hb hbox hg)|((with_reducible refine gD (N:=7) rfl ?_);refine bE ?hg (N:=7) ?hd (cs:=#[.int .u64 0,.int .u64 0]) (t:=28) ?hr ?_;(case hd => rfl);(case hg => rfl);(case hr => first|(go_simp;done)|(go_simp;rfl));intro gb385 hg w10 hbox hb;have n0_:=A0.mk (bB (g:=gb383) (o:=.cells #[.int .u64 a0_0,.int .u64 a0_1] 28 (0,0)) (by (with_reducible repeat (first|refine bN ?_ _|refine bD ?_|refine bA ?_ _));exact BK383.out) hb);have n1_:=A0.mk (bB (g:=gb384) (o:=.cells #[.int .u64 0,.int .u64 0] 28 (0,0)) (by (with_reducible repeat (first|refine bN ?_ _|refine bD ?_|refine bA ?_ _));exact BK384.out) hb);have n2_:=A0.mk (wT (by repeat (first|(with_reducible first|exact HB.out|apply wA|apply wN|apply wD|refine wS ?_ GE383.out|refine wS ?_ GE384.out)|exact HB.out)) hb);have n3_:=A0.mk (hbox);have n4_:=A0.mk ((by rw [hg];exact (wZ (by repeat (first|(with_reducible first|exact HB.out|apply wA|apply wN|apply wD|refine wS ?_ GE383.out|refine wS ?_ GE384.out)|exact HB.out))) : w.heap.size ≤ gb385));have n5_:=A0.mk ((by rw [hg];exact (wZ (by repeat (first|(with_reducible first|exact HB.out|apply wA|apply wN|apply wD|refine wS ?_ GE383.out|refine wS ?_ GE384.out)|exact HB.out))) : w.heap.size ≤ gb385));have n6_:=A0.mk ((by rw [hg];exact Nat.ne_of_lt (blk_lt (g:=gb383) (o:=.cells #[.int .u64 a0_0,.int .u64 a0_1] 28 (0,0)) (by (with_reducible repeat (first|refine bN ?_ _|refine bD ?_|refine bA ?_ _));exact BK383.out)) : gb383 ≠ gb385));have n7_:=A0.mk ((by rw [hg];exact Nat.ne_of_gt (blk_lt (g:=gb383) (o:=.cells #[.int .u64 a0_0,.int .u64 a0_1] 28 (0,0)) (by (with_reducible repeat (first|refine bN ?_ _|refine bD ?_|refine bA ?_ _));exact BK383.out)) : gb385 ≠ gb383));have n8_:=A0.mk ((by rw [hg];exact Nat.ne_of_lt (blk_lt (g:=gb384) (o:=.cells #[.int .u64 0,.int .u64 0] 28 (0,0)) (by (with_reducible repeat (first|refine bN ?_ _|refine bD ?_|refine bA ?_ _));exact BK384.out)) : gb384 ≠ gb385));have n9_:=A0.mk ((by rw [hg];exact Nat.ne_of_gt (blk_lt (g:=gb384) (o:=.cells #[.int .u64 0,.int .u64 0] 28 (0,0)) (by (with_reducible repeat (first|refine bN ?_ _|refine bD ?_|refine bA ?_ _));exact BK384.out)) : gb385 ≠ gb384));clear BK383;clear BK384;clear HB;have BK383:=n0_;have BK384:=n1_;have HB:=n2_;have BK385:=n3_;have GW385:=n4_;have GE385:=n5_;have NB383_385:=n6_;have NB385_383:=n7_;have NB384_385:=n8_;have NB385_384:=n9_;clear n0_ n1_ n2_ n3_ n4_ n5_ n6_ n7_ n8_ n9_;clear hb hbox hg)|((with_reducible refine gD (N:=8) rfl ?_);refine bE ?hg (N:=8) ?hd (cs:=#[.int .u64 0,.int .u64 0]) (t:=28) ?hr ?_;(case hd => rfl);(case hg => rfl);(case hr => first|(go_simp;done)|(go_simp;rfl));intro gb386 hg w11 hbox hb;have n0_:=A0.mk (bB (g:=gb383) (o:=.cells #[.int .u64 a0_0,.int .u64 a0_1] 28 (0,0)) (by (with_reducible repeat (first|refine bN ?_ _|refine bD ?_|refine bA ?_ _));exact BK383.out) hb);have n1_:=A0.mk (bB (g:=gb384) (o:=.cells #[.int .u64 0,.int .u64 0] 28 (0,0)) (by (with_reducible repeat (first|refine bN ?_ _|refine bD ?_|refine bA ?_ _));exact BK384.out) hb);have n2_:=A0.mk (bB (g:=gb385) (o:=.cells #[.int .u64 0,.int .u64 0] 28 (0,0)) (by (with_reducible repeat (first|refine bN ?_ _|refine bD ?_|refine bA ?_ _));exact BK385.out) hb);have n3_:=A0.mk (wT (by repeat (first|(with_reducible first|exact HB.out|apply wA|apply wN|apply wD|refine wS ?_ GE383.out|refine wS ?_ GE384.out|refine wS ?_ GE385.out)|exact HB.out)) hb);have n4_:=A0.mk (hbox);have n5_:=A0.mk ((by rw [hg];exact (wZ (by repeat (first|(with_reducible first|exact HB.out|apply wA|apply wN|apply wD|refine wS ?_ GE383.out|refine wS ?_ GE384.out|refine wS ?_ GE385.out)|exact HB.out))) : w.heap.size ≤ gb386));have n6_:=A0.mk ((by rw [hg];exact (wZ (by repeat (first|(with_reducible first|exact HB.out|apply wA|apply wN|apply wD|refine wS ?_ GE383.out|refine wS ?_ GE384.out|refine wS ?_ GE385.out)|exact HB.out))) : w.heap.size ≤ gb386));have n7_:=A0.mk ((by rw [hg];exact Nat.ne_of_lt (blk_lt (g:=gb383) (o:=.cells #[.int .u64 a0_0,.int .u64 a0_1] 28 (0,0)) (by (with_reducible repeat (first|refine bN ?_ _|refine bD ?_|refine bA ?_ _));exact BK383.out)) : gb383 ≠ gb386));have n8_:=A0.mk ((by rw [hg];exact Nat.ne_of_gt (blk_lt (g:=gb383) (o:=.cells #[.int .u64 a0_0,.int .u64 a0_1] 28 (0,0)) (by (with_reducible repeat (first|refine bN ?_ _|refine bD ?_|refine bA ?_ _));exact BK383.out)) : gb386 ≠ gb383));have n9_:=A0.mk ((by rw [hg];exact Nat.ne_of_lt (blk_lt (g:=gb384) (o:=.cells #[.int .u64 0,.int .u64 0] 28 (0,0)) (by (with_reducible repeat (first|refine bN ?_ _|refine bD ?_|refine bA ?_ _));exact BK384.out)) : gb384 ≠ gb386));have n10_:=A0.mk ((by rw [hg];exact Nat.ne_of_gt (blk_lt (g:=gb384) (o:=.cells #[.int .u64 0,.int .u64 0] 28 (0,0)) (by (with_reducible repeat (first|refine bN ?_ _|refine bD ?_|refine bA ?_ _));exact BK384.out)) : gb386 ≠ gb384));have n11_:=A0.mk ((by rw [hg];exact Nat.ne_of_lt (blk_lt (g:=gb385) (o:=.cells #[.int .u64 0,.int .u64 0] 28 (0,0)) (by (with_reducible repeat (first|refine bN ?_ _|refine bD ?_|refine bA ?_ _));exact BK385.out)) : gb385 ≠ gb386));have n12_:=A0.mk ((by rw [hg];exact Nat.ne_of_gt (blk_lt (g:=gb385) (o:=.cells #[.int .u64 0,.int .u64 0] 28 (0,0)) (by (with_reducible repeat (first|refine bN ?_ _|refine bD ?_|refine bA ?_ _));exact BK385.out)) : gb386 ≠ gb385));clear BK383;clear BK384;clear BK385;clear HB;have BK383:=n0_;have BK384:=n1_;have BK385:=n2_;have HB:=n3_;have BK386:=n4_;have GW386:=n5_;have GE386:=n6_;have NB383_386:=n7_;have NB386_383:=n8_;have NB384_386:=n9_;have NB386_384:=n10_;have NB385_386:=n11_;have NB386_385:=n12_;clear n0_ n1_ n2_ n3_ n4_ n5_ n6_ n7_ n8_ n9_ n10_ n11_ n12_;clear hb hbox hg;have hnb12:=NB385_383.out;have hnc12:=NB383_385.out;have hnb13:=NB385_384.out;have hnc13:=NB384_385.out;have hnb14:=NB385_386.out;have hnc14:=NB386_385.out;have hcz15_0 : w11.cell? ⟨gb385,0,none⟩ = some (.int .u64 0):=(bC BK385.out 0).trans rfl;have hcz15_1 : w11.cell? ⟨gb385,1,none⟩ = some (.int .u64 0):=(bC BK385.out 1).trans rfl;have hfz15_0:=bF BK385.out 0;have hfz15_1:=bF BK385.out 1;have hnb16:=NB386_383.out;have hnc16:=NB383_386.out;have hnb17:=NB386_384.out;have hnc17:=NB384_386.out;have hcz18_0 : w11.cell? ⟨gb386,0,none⟩ = some (.int .u64 0):=(bC BK386.out 0).trans rfl;have hcz18_1 : w11.cell? ⟨gb386,1,none⟩ = some (.int .u64 0):=(bC BK386.out 1).trans rfl;have hfz18_0:=bF BK386.out 0;have hfz18_1:=bF BK386.out 1))
    go_loopg [9] k (fun kq v9 w' => ∃ (x9_1 : Int) (x386000_1 : Int) (x386001_1 : Int) (x387000_1 : Int) (x387001_1 : Int),v9 = .int .i64 x9_1∧A0 (vernierref01_Div.l0 kq a1 x9_1 a0_0 a0_1 x386000_1 x386001_1 x387000_1 x387001_1 = some (r1,r2,r3,r4))∧A0 (kq ≤ k)∧A0 (w'.heap[gb383]? = some (.cells #[.int .u64 a0_0,.int .u64 a0_1] 28 (0,0)))∧A0 (w'.heap[gb384]? = some (.cells #[.int .u64 0,.int .u64 0] 28 (0,0)))∧A0 (w'.heap[gb385]? = some (.cells #[.int .u64 x386000_1,.int .u64 x386001_1] 28 (0,0)))∧A0 (w'.heap[gb386]? = some (.cells #[.int .u64 x387000_1,.int .u64 x387001_1] 28 (0,0)))∧A0 (Below w.heap.size w w'))
    case atStart => exact ⟨(127),(0),(0),(0),(0),(by first|rfl|(simp;done)|(simp [*];done)),H',⟨Nat.le_refl _⟩,⟨by (with_reducible repeat (first|refine bN ?_ _|refine bD ?_|refine bA ?_ _));refine bR ?_ NB383_386.out _;(with_reducible repeat (first|refine bN ?_ _|refine bD ?_|refine bA ?_ _));refine bR ?_ NB383_386.out _;(with_reducible repeat (first|refine bN ?_ _|refine bD ?_|refine bA ?_ _));refine bR ?_ NB383_385.out _;(with_reducible repeat (first|refine bN ?_ _|refine bD ?_|refine bA ?_ _));refine bR ?_ NB383_385.out _;(with_reducible repeat (first|refine bN ?_ _|refine bD ?_|refine bA ?_ _));exact BK383.out⟩,⟨by (with_reducible repeat (first|refine bN ?_ _|refine bD ?_|refine bA ?_ _));refine bR ?_ NB384_386.out _;(with_reducible repeat (first|refine bN ?_ _|refine bD ?_|refine bA ?_ _));refine bR ?_ NB384_386.out _;(with_reducible repeat (first|refine bN ?_ _|refine bD ?_|refine bA ?_ _));refine bR ?_ NB384_385.out _;(with_reducible repeat (first|refine bN ?_ _|refine bD ?_|refine bA ?_ _));refine bR ?_ NB384_385.out _;(with_reducible repeat (first|refine bN ?_ _|refine bD ?_|refine bA ?_ _));exact BK384.out⟩,⟨by (with_reducible repeat (first|refine bN ?_ _|refine bD ?_|refine bA ?_ _));refine bR ?_ NB385_386.out _;(with_reducible repeat (first|refine bN ?_ _|refine bD ?_|refine bA ?_ _));refine bR ?_ NB385_386.out _;(with_reducible repeat (first|refine bN ?_ _|refine bD ?_|refine bA ?_ _));refine bP (cs:=#[.int .u64 0,.int .u64 0]) ?_ 1 _ rfl;(with_reducible repeat (first|refine bN ?_ _|refine bD ?_|refine bA ?_ _));refine bP (cs:=#[.int .u64 0,.int .u64 0]) ?_ 0 _ rfl;(with_reducible repeat (first|refine bN ?_ _|refine bD ?_|refine bA ?_ _));exact BK385.out⟩,⟨by (with_reducible repeat (first|refine bN ?_ _|refine bD ?_|refine bA ?_ _));refine bP (cs:=#[.int .u64 0,.int .u64 0]) ?_ 1 _ rfl;(with_reducible repeat (first|refine bN ?_ _|refine bD ?_|refine bA ?_ _));refine bP (cs:=#[.int .u64 0,.int .u64 0]) ?_ 0 _ rfl;(with_reducible repeat (first|refine bN ?_ _|refine bD ?_|refine bA ?_ _));refine bR ?_ NB386_385.out _;(with_reducible repeat (first|refine bN ?_ _|refine bD ?_|refine bA ?_ _));refine bR ?_ NB386_385.out _;(with_reducible repeat (first|refine bN ?_ _|refine bD ?_|refine bA ?_ _));exact BK386.out⟩,⟨by repeat (first|(with_reducible first|exact HB.out|apply wA|apply wN|apply wD|refine wS ?_ GE383.out|refine wS ?_ GE384.out|refine wS ?_ GE385.out|refine wS ?_ GE386.out)|exact HB.out)⟩⟩
    case round =>
      clear H'
      try clear c1
      try clear p2
      try clear c3
      try clear c3b0
      try clear c3b1
      try clear c6
      try clear c12
      try clear c13
      try clear c14
      try clear c16
      try clear c17
      try clear hcz15_0
      try clear hcz15_1
      try clear hcz18_0
      try clear hcz18_1
      try clear hcz7_0
      try clear hcz7_1
      try clear hfz15_0
      try clear hfz15_1
      try clear hfz18_0
      try clear hfz18_1
      try clear hfz7_0
      try clear hfz7_1
      obtain ⟨x9_1,x386000_1,x386001_1,x387000_1,x387001_1,rfl,HA,HK1,BK383,BK384,BK385,BK386,HB⟩:=hrel
      cases gk with
      | zero => exact absurd HA.out (by simp [vernierref01_Div.l0])
      | succ k1 =>
        have H:=HA.out
        clear HA
        simp only [vernierref01_Div.l0] at H
        by_cases c19 : x9_1 ≥ 0
        · rw [if_pos c19] at H
          have c19b0 : decide (0 ≤ x9_1) = true:=decide_eq_true c19
          clear c19;replace H:=Option.bind_eq_some_iff.mp H;obtain ⟨⟨t387,t388⟩,A200,H⟩:=H
          replace H : ((vernierref01_Bit.f k1 a0_0 a0_1 x9_1).bind fun t389 => ((vernierref01_Cmp.f k1 t387 (Go.bits .or .u64 t388 t389) 0 a1).bind fun t390 => (if t390 ≥ 0 then ((vernierref01_Sub.f k1 t387 (Go.bits .or .u64 t388 t389) 0 a1).bind fun bt391 => ((vernierref01_With.f x386000_1 x386001_1 x9_1 1).bind fun bt394 => (vernierref01_Div.l0 k1 a1 (wrap64 (x9_1 - 1)) a0_0 a0_1 bt394.1 bt394.2 bt391.1 bt391.2.1))) else (vernierref01_Div.l0 k1 a1 (wrap64 (x9_1 - 1)) a0_0 a0_1 x386000_1 x386001_1 t387 (Go.bits .or .u64 t388 t389))))) = some (r1,r2,r3,r4):=H
          have A20:=A0.mk A200;clear A200;replace H:=Option.bind_eq_some_iff.mp H;obtain ⟨t389,A210,H⟩:=H
          replace H : ((vernierref01_Cmp.f k1 t387 (Go.bits .or .u64 t388 t389) 0 a1).bind fun t390 => (if t390 ≥ 0 then ((vernierref01_Sub.f k1 t387 (Go.bits .or .u64 t388 t389) 0 a1).bind fun bt391 => ((vernierref01_With.f x386000_1 x386001_1 x9_1 1).bind fun bt394 => (vernierref01_Div.l0 k1 a1 (wrap64 (x9_1 - 1)) a0_0 a0_1 bt394.1 bt394.2 bt391.1 bt391.2.1))) else (vernierref01_Div.l0 k1 a1 (wrap64 (x9_1 - 1)) a0_0 a0_1 x386000_1 x386001_1 t387 (Go.bits .or .u64 t388 t389)))) = some (r1,r2,r3,r4):=H
          have A21:=A0.mk A210;clear A210;replace H:=Option.bind_eq_some_iff.mp H;obtain ⟨t390,A220,H⟩:=H
          replace H : (if t390 ≥ 0 then ((vernierref01_Sub.f k1 t387 (Go.bits .or .u64 t388 t389) 0 a1).bind fun bt391 => ((vernierref01_With.f x386000_1 x386001_1 x9_1 1).bind fun bt394 => (vernierref01_Div.l0 k1 a1 (wrap64 (x9_1 - 1)) a0_0 a0_1 bt394.1 bt394.2 bt391.1 bt391.2.1))) else (vernierref01_Div.l0 k1 a1 (wrap64 (x9_1 - 1)) a0_0 a0_1 x386000_1 x386001_1 t387 (Go.bits .or .u64 t388 t389))) = some (r1,r2,r3,r4):=H
          have A22:=A0.mk A220;clear A220
          by_cases c23 : t390 ≥ 0
          · rw [if_pos c23] at H
            have c23b0 : decide (0 ≤ t390) = true:=decide_eq_true c23
            clear c23;replace H:=Option.bind_eq_some_iff.mp H;obtain ⟨⟨t391,t392,t393⟩,A240,H⟩:=H
            replace H : ((vernierref01_With.f x386000_1 x386001_1 x9_1 1).bind fun bt394 => (vernierref01_Div.l0 k1 a1 (wrap64 (x9_1 - 1)) a0_0 a0_1 bt394.1 bt394.2 t391 t392)) = some (r1,r2,r3,r4):=H
            have A24:=A0.mk A240;clear A240;replace H:=Option.bind_eq_some_iff.mp H;obtain ⟨⟨t394,t395⟩,A250,H⟩:=H
            replace H : (vernierref01_Div.l0 k1 a1 (wrap64 (x9_1 - 1)) a0_0 a0_1 t394 t395 t391 t392) = some (r1,r2,r3,r4):=H
            have A25:=A0.mk A250;clear A250
            have H':=A0.mk H
            clear H
            have hnb26:=NB386_383.out
            have hnc26:=NB383_386.out
            have hnb27:=NB386_384.out
            have hnc27:=NB384_386.out
            have hnb28:=NB386_385.out
            have hnc28:=NB385_386.out
            have hcz29_0 : wr.cell? ⟨gb386,0,none⟩ = some (.int .u64 x387000_1):=(bC BK386.out 0).trans rfl
            have hcz29_1 : wr.cell? ⟨gb386,1,none⟩ = some (.int .u64 x387001_1):=(bC BK386.out 1).trans rfl
            have hfz29_0:=bF BK386.out 0
            have hfz29_1:=bF BK386.out 1
            try go_wp2_with (first|((with_reducible refine gC (f:=26) rfl ?_);refine goesL_ (some 20) rfl rfl Try.func26 (by kernel_rfl) rfl #[.agg #[.int .u64 x387000_1,.int .u64 x387001_1],.int .i64 1] rfl (by (try simp only [mT,mC,mN]);first|done|rfl|(simp only [lD,lK];rfl)) ?_;(with_reducible refine (vernierref01_Shl.calls k1 x387000_1 x387001_1 1 t387 t388 _ A20.out).mono ?_);rintro e w30 ⟨rfl,hb⟩;refine ⟨_,rfl,?_⟩;have n0_:=A0.mk (bB (g:=gb383) (o:=.cells #[.int .u64 a0_0,.int .u64 a0_1] 28 (0,0)) (by (with_reducible repeat (first|refine bN ?_ _|refine bD ?_|refine bA ?_ _));exact BK383.out) hb);have n1_:=A0.mk (bB (g:=gb384) (o:=.cells #[.int .u64 0,.int .u64 0] 28 (0,0)) (by (with_reducible repeat (first|refine bN ?_ _|refine bD ?_|refine bA ?_ _));exact BK384.out) hb);have n2_:=A0.mk (bB (g:=gb385) (o:=.cells #[.int .u64 x386000_1,.int .u64 x386001_1] 28 (0,0)) (by (with_reducible repeat (first|refine bN ?_ _|refine bD ?_|refine bA ?_ _));exact BK385.out) hb);have n3_:=A0.mk (bB (g:=gb386) (o:=.cells #[.int .u64 x387000_1,.int .u64 x387001_1] 28 (0,0)) (by (with_reducible repeat (first|refine bN ?_ _|refine bD ?_|refine bA ?_ _));exact BK386.out) hb);have n4_:=A0.mk (wT (by repeat (first|(with_reducible first|exact HB.out|apply wA|apply wN|apply wD|refine wS ?_ GE383.out|refine wS ?_ GE384.out|refine wS ?_ GE385.out|refine wS ?_ GE386.out)|exact HB.out)) hb);clear BK383;clear BK384;clear BK385;clear BK386;clear HB;have BK383:=n0_;have BK384:=n1_;have BK385:=n2_;have BK386:=n3_;have HB:=n4_;clear n0_ n1_ n2_ n3_ n4_;(try clear hb);(try clear hb2);(try clear hk);(try clear hi);have hcz31_0 : w30.cell? ⟨gb386,0,none⟩ = some (.int .u64 x387000_1):=(bC BK386.out 0).trans rfl;have hcz31_1 : w30.cell? ⟨gb386,1,none⟩ = some (.int .u64 x387001_1):=(bC BK386.out 1).trans rfl;have hfz31_0:=bF BK386.out 0;have hfz31_1:=bF BK386.out 1))
            have n0_ : A0 (((w30.setCell ⟨gb386,0,none⟩ (.int .u64 t387)).setCell ⟨gb386,1,none⟩ (.int .u64 t388)).heap[gb383]? = some (.cells #[.int .u64 a0_0,.int .u64 a0_1] 28 (0,0))):=⟨by (with_reducible repeat (first|refine bN ?_ _|refine bD ?_|refine bA ?_ _));refine bR ?_ NB383_386.out _;(with_reducible repeat (first|refine bN ?_ _|refine bD ?_|refine bA ?_ _));refine bR ?_ NB383_386.out _;(with_reducible repeat (first|refine bN ?_ _|refine bD ?_|refine bA ?_ _));exact BK383.out⟩
            have n1_ : A0 (((w30.setCell ⟨gb386,0,none⟩ (.int .u64 t387)).setCell ⟨gb386,1,none⟩ (.int .u64 t388)).heap[gb384]? = some (.cells #[.int .u64 0,.int .u64 0] 28 (0,0))):=⟨by (with_reducible repeat (first|refine bN ?_ _|refine bD ?_|refine bA ?_ _));refine bR ?_ NB384_386.out _;(with_reducible repeat (first|refine bN ?_ _|refine bD ?_|refine bA ?_ _));refine bR ?_ NB384_386.out _;(with_reducible repeat (first|refine bN ?_ _|refine bD ?_|refine bA ?_ _));exact BK384.out⟩
            have n2_ : A0 (((w30.setCell ⟨gb386,0,none⟩ (.int .u64 t387)).setCell ⟨gb386,1,none⟩ (.int .u64 t388)).heap[gb385]? = some (.cells #[.int .u64 x386000_1,.int .u64 x386001_1] 28 (0,0))):=⟨by (with_reducible repeat (first|refine bN ?_ _|refine bD ?_|refine bA ?_ _));refine bR ?_ NB385_386.out _;(with_reducible repeat (first|refine bN ?_ _|refine bD ?_|refine bA ?_ _));refine bR ?_ NB385_386.out _;(with_reducible repeat (first|refine bN ?_ _|refine bD ?_|refine bA ?_ _));exact BK385.out⟩
            have n3_ : A0 (((w30.setCell ⟨gb386,0,none⟩ (.int .u64 t387)).setCell ⟨gb386,1,none⟩ (.int .u64 t388)).heap[gb386]? = some (.cells #[.int .u64 t387,.int .u64 t388] 28 (0,0))):=⟨by (with_reducible repeat (first|refine bN ?_ _|refine bD ?_|refine bA ?_ _));refine bP (cs:=#[.int .u64 t387,.int .u64 x387001_1]) ?_ 1 _ rfl;(with_reducible repeat (first|refine bN ?_ _|refine bD ?_|refine bA ?_ _));refine bP (cs:=#[.int .u64 x387000_1,.int .u64 x387001_1]) ?_ 0 _ rfl;(with_reducible repeat (first|refine bN ?_ _|refine bD ?_|refine bA ?_ _));exact BK386.out⟩
            have n4_ : A0 (Below w.heap.size w ((w30.setCell ⟨gb386,0,none⟩ (.int .u64 t387)).setCell ⟨gb386,1,none⟩ (.int .u64 t388))):=⟨by repeat (first|(with_reducible first|exact HB.out|apply wA|apply wN|apply wD|refine wS ?_ GE383.out|refine wS ?_ GE384.out|refine wS ?_ GE385.out|refine wS ?_ GE386.out)|exact HB.out)⟩
            (try clear BK383);(try clear BK384);(try clear BK385);(try clear BK386);(try clear HB)
            generalize ((w30.setCell ⟨gb386,0,none⟩ (.int .u64 t387)).setCell ⟨gb386,1,none⟩ (.int .u64 t388)) = w32 at n0_ n1_ n2_ n3_ n4_ ⊢
            have BK383:=n0_;have BK384:=n1_;have BK385:=n2_;have BK386:=n3_;have HB:=n4_;clear n0_ n1_ n2_ n3_ n4_;have n0_:=A0.mk (bD BK383.out);have n1_:=A0.mk (bD BK384.out);have n2_:=A0.mk (bD BK385.out);have n3_:=A0.mk (bD BK386.out);have n4_:=A0.mk (wD HB.out);clear BK383;clear BK384;clear BK385;clear BK386;clear HB;have BK383:=n0_;have BK384:=n1_;have BK385:=n2_;have BK386:=n3_;have HB:=n4_;clear n0_ n1_ n2_ n3_ n4_
            refine start_ (n:=8) (S:=fun w' => w'.cell? ⟨gb386,0,none⟩ = some (.int .u64 t387)∧w'.cell? ⟨gb386,1,none⟩ = some (.int .u64 t388)∧w'.cell? ⟨gb383,0,none⟩ = some (.int .u64 a0_0)∧w'.cell? ⟨gb383,1,none⟩ = some (.int .u64 a0_1)) (ds:=[7]) #[Z,Z,Z,Z,Z,Z,Z,Z] (by kernel_rfl) rfl rfl ⟨(bC BK386.out 0).trans rfl,(bC BK386.out 1).trans rfl,(bC BK383.out 0).trans rfl,(bC BK383.out 1).trans rfl⟩ (fun hHeld => ?_);refine with_tabW vernierref01_Div.tab8 vernierref01_Div.bits8 (fun HT_ HW_ => ?_)
            generalize w32.drew = w33 at BK383 BK384 BK385 BK386 HB hHeld ⊢
            refine pure_ (i:=0) (N:=some 21) (v:=?_) (a':=?_) #[Y,Z,Z,Z,Z,Z,Z,Z] rfl rfl (any_of HT_.out (by kernel_rfl)) (fun _ _ _ h => h) (Or.inl ⟨by rfl,?_⟩) ?_ ?_
            rotate_left;(intro w';go_simp;with_reducible rfl);rotate_left;(simp only [aP,lT,lZ,lS,i64_w,i32_w];rfl)
            refine pure_ (i:=3) (N:=some 24) (v:=?_) (a':=?_) #[Y,Z,Z,Y,Z,Z,Z,Z] rfl rfl (any_of HT_.out (by kernel_rfl)) (fun _ _ _ h => h) (Or.inl ⟨by rfl,?_⟩) ?_ ?_
            rotate_left;(intro w';go_simp;with_reducible rfl);rotate_left;(simp only [aP,lT,lZ,lS,i64_w,i32_w];rfl)
            refine take_ (i:=1) (N:=some 22) (v:=?_) (a':=?_) #[Y,Y,Z,Y,Z,Z,Z,Z] rfl rfl (take_ofW HT_.out HW_.out (by kernel_rfl)) (fun _ _ _ h => h) (Or.inl ⟨by rfl,?_⟩) hHeld ?_ ?_
            rotate_left;(rintro w' ⟨s0,s1,s2,s3⟩;go_simp;with_reducible rfl);rotate_left;(simp only [aP,lT,lZ,lS,i64_w,i32_w];rfl)
            refine take_ (i:=2) (N:=some 23) (v:=?_) (a':=?_) #[Y,Y,Y,Y,Z,Z,Z,Z] rfl rfl (take_ofW HT_.out HW_.out (by kernel_rfl)) (fun _ _ _ h => h) (Or.inl ⟨by rfl,?_⟩) hHeld ?_ ?_
            rotate_left;(rintro w' ⟨s0,s1,s2,s3⟩;go_simp;with_reducible rfl);rotate_left;(simp only [aP,lT,lZ,lS,i64_w,i32_w];rfl)
            refine one_ (i:=4) (N:=some 25) #[Y,Y,Y,Y,Y,Z,Z,Z] rfl rfl (one_of HT_.out (by kernel_rfl)) (by decide) (fun K hK => ?_)
            refine goes_ Try.func37 (by kernel_rfl) rfl #[.agg #[.int .u64 a0_0,.int .u64 a0_1],.int .i64 x9_1] (by rfl) rfl rfl (by (try simp only [mT,mC,mN]);first|done|rfl|(simp only [lD,lK];rfl)) ?_
            with_reducible refine (vernierref01_Bit.calls k1 a0_0 a0_1 x9_1 t389 _ A21.out).mono ?_
            rintro e w34 ⟨rfl,hb⟩;refine ⟨_,rfl,?_⟩;have n0_:=A0.mk (bB (g:=gb383) (o:=.cells #[.int .u64 a0_0,.int .u64 a0_1] 28 (0,0)) (by (with_reducible repeat (first|refine bN ?_ _|refine bD ?_|refine bA ?_ _));exact BK383.out) hb);have n1_:=A0.mk (bB (g:=gb384) (o:=.cells #[.int .u64 0,.int .u64 0] 28 (0,0)) (by (with_reducible repeat (first|refine bN ?_ _|refine bD ?_|refine bA ?_ _));exact BK384.out) hb);have n2_:=A0.mk (bB (g:=gb385) (o:=.cells #[.int .u64 x386000_1,.int .u64 x386001_1] 28 (0,0)) (by (with_reducible repeat (first|refine bN ?_ _|refine bD ?_|refine bA ?_ _));exact BK385.out) hb);have n3_:=A0.mk (bB (g:=gb386) (o:=.cells #[.int .u64 t387,.int .u64 t388] 28 (0,0)) (by (with_reducible repeat (first|refine bN ?_ _|refine bD ?_|refine bA ?_ _));exact BK386.out) hb);have n4_:=A0.mk (wT (by repeat (first|(with_reducible first|exact HB.out|apply wA|apply wN|apply wD|refine wS ?_ GE383.out|refine wS ?_ GE384.out|refine wS ?_ GE385.out|refine wS ?_ GE386.out)|exact HB.out)) hb);clear BK383;clear BK384;clear BK385;clear BK386;clear HB;have BK383:=n0_;have BK384:=n1_;have BK385:=n2_;have BK386:=n3_;have HB:=n4_;clear n0_ n1_ n2_ n3_ n4_;(try clear hb);(try clear hb2);(try clear hk);(try clear hi)
            refine hK.out _ _ ⟨(bC BK386.out 0).trans rfl,(bC BK386.out 1).trans rfl,(bC BK383.out 0).trans rfl,(bC BK383.out 1).trans rfl⟩ (fun hHeld => ?_)
            clear hK K
            refine norm_ (a':=?_) ?_ ?_
            rotate_left;(show Act.put _ (some 25) _ = _;simp only [aP,lT,lZ,lS,i64_w,i32_w];rfl)
            refine pure_ (i:=5) (N:=some 26) (v:=?_) (a':=?_) #[Y,Y,Y,Y,Y,Y,Z,Z] rfl rfl (any_of HT_.out (by kernel_rfl)) (fun _ _ _ h => h) (Or.inl ⟨by rfl,?_⟩) ?_ ?_
            rotate_left;(intro w';go_simp;with_reducible rfl);rotate_left;(simp only [aP,lT,lZ,lS,i64_w,i32_w];rfl)
            refine pure_ (i:=6) (N:=some 27) (v:=?_) (a':=?_) #[Y,Y,Y,Y,Y,Y,Y,Z] rfl rfl (any_of HT_.out (by kernel_rfl)) (fun _ _ _ h => h) (Or.inl ⟨by rfl,?_⟩) ?_ ?_
            rotate_left;(intro w';go_simp;with_reducible rfl);rotate_left;(simp only [aP,lT,lZ,lS,i64_w,i32_w];rfl)
            refine last_ (i:=7) (N:=none) #[Y,Y,Y,Y,Y,Y,Y,Y] rfl rfl (one_of HT_.out (by kernel_rfl)) (by decide) (fun K hK => ?_)
            have hs35 : w34.cell? ⟨gb386,1,none⟩ = some (.int .u64 t388):=(bC BK386.out 1).trans rfl
            have hfs35:=bF BK386.out 1
            have hns35_0:=NB383_386.out
            have hns35_1:=NB384_386.out
            have hns35_2:=NB385_386.out
            have hms35_0:=NB386_383.out
            have hms35_1:=NB386_384.out
            have hms35_2:=NB386_385.out
            refine skip_ (w1:=?_) (by rfl) rfl ?_ ?_
            rotate_left
            · go_simp
              rfl
            refine hK.out _ _ ?_
            clear hK K
            refine done_ (done_of HT_.out (by kernel_rfl)) ?_
            have hcz36_0 : w34.cell? ⟨gb386,0,none⟩ = some (.int .u64 t387):=(bC BK386.out 0).trans rfl
            have hcz36_1 : w34.cell? ⟨gb386,1,none⟩ = some (.int .u64 t388):=(bC BK386.out 1).trans rfl
            have hfz36_0:=bF BK386.out 0
            have hfz36_1:=bF BK386.out 1
            try go_wp2_with (first|((with_reducible refine gC (f:=22) rfl ?_);refine goesL_ (some 31) rfl rfl Try.func22 (by kernel_rfl) rfl #[.agg #[.int .u64 t387,.int .u64 (Go.bits .or .u64 t388 t389)],.agg #[.int .u64 0,.int .u64 a1]] rfl (by (try simp only [mT,mC,mN]);first|done|rfl|(simp only [lD,lK];rfl)) ?_;(with_reducible refine (vernierref01_Cmp.calls k1 t387 (Go.bits .or .u64 t388 t389) 0 a1 t390 _ A22.out).mono ?_);rintro e w37 ⟨rfl,hb⟩;refine ⟨_,rfl,?_⟩;have n0_:=A0.mk (bB (g:=gb383) (o:=.cells #[.int .u64 a0_0,.int .u64 a0_1] 28 (0,0)) (by (with_reducible repeat (first|refine bN ?_ _|refine bD ?_|refine bA ?_ _));refine bR ?_ NB383_386.out _;(with_reducible repeat (first|refine bN ?_ _|refine bD ?_|refine bA ?_ _));exact BK383.out) hb);have n1_:=A0.mk (bB (g:=gb384) (o:=.cells #[.int .u64 0,.int .u64 0] 28 (0,0)) (by (with_reducible repeat (first|refine bN ?_ _|refine bD ?_|refine bA ?_ _));refine bR ?_ NB384_386.out _;(with_reducible repeat (first|refine bN ?_ _|refine bD ?_|refine bA ?_ _));exact BK384.out) hb);have n2_:=A0.mk (bB (g:=gb385) (o:=.cells #[.int .u64 x386000_1,.int .u64 x386001_1] 28 (0,0)) (by (with_reducible repeat (first|refine bN ?_ _|refine bD ?_|refine bA ?_ _));refine bR ?_ NB385_386.out _;(with_reducible repeat (first|refine bN ?_ _|refine bD ?_|refine bA ?_ _));exact BK385.out) hb);have n3_:=A0.mk (bB (g:=gb386) (o:=.cells #[.int .u64 t387,.int .u64 (Go.bits .or .u64 t388 t389)] 28 (0,0)) (by (with_reducible repeat (first|refine bN ?_ _|refine bD ?_|refine bA ?_ _));refine bP (cs:=#[.int .u64 t387,.int .u64 t388]) ?_ 1 _ rfl;(with_reducible repeat (first|refine bN ?_ _|refine bD ?_|refine bA ?_ _));exact BK386.out) hb);have n4_:=A0.mk (wT (by repeat (first|(with_reducible first|exact HB.out|apply wA|apply wN|apply wD|refine wS ?_ GE383.out|refine wS ?_ GE384.out|refine wS ?_ GE385.out|refine wS ?_ GE386.out)|exact HB.out)) hb);clear BK383;clear BK384;clear BK385;clear BK386;clear HB;have BK383:=n0_;have BK384:=n1_;have BK385:=n2_;have BK386:=n3_;have HB:=n4_;clear n0_ n1_ n2_ n3_ n4_;(try clear hb);(try clear hb2);(try clear hk);(try clear hi);have hcz38_0 : w37.cell? ⟨gb386,0,none⟩ = some (.int .u64 t387):=(bC BK386.out 0).trans rfl;have hcz38_1 : w37.cell? ⟨gb386,1,none⟩ = some (.int .u64 (Go.bits .or .u64 t388 t389)):=(bC BK386.out 1).trans rfl;have hfz38_0:=bF BK386.out 0;have hfz38_1:=bF BK386.out 1)|((with_reducible refine gC (f:=20) rfl ?_);refine goesL_ (some 37) rfl rfl Try.func20 (by kernel_rfl) rfl #[.agg #[.int .u64 t387,.int .u64 (Go.bits .or .u64 t388 t389)],.agg #[.int .u64 0,.int .u64 a1]] rfl (by (try simp only [mT,mC,mN]);first|done|rfl|(simp only [lD,lK];rfl)) ?_;(with_reducible refine (vernierref01_Sub.calls k1 t387 (Go.bits .or .u64 t388 t389) 0 a1 t391 t392 t393 _ A24.out).mono ?_);rintro e w39 ⟨rfl,hb⟩;refine ⟨_,rfl,?_⟩;have n0_:=A0.mk (bB (g:=gb383) (o:=.cells #[.int .u64 a0_0,.int .u64 a0_1] 28 (0,0)) (by (with_reducible repeat (first|refine bN ?_ _|refine bD ?_|refine bA ?_ _));exact BK383.out) hb);have n1_:=A0.mk (bB (g:=gb384) (o:=.cells #[.int .u64 0,.int .u64 0] 28 (0,0)) (by (with_reducible repeat (first|refine bN ?_ _|refine bD ?_|refine bA ?_ _));exact BK384.out) hb);have n2_:=A0.mk (bB (g:=gb385) (o:=.cells #[.int .u64 x386000_1,.int .u64 x386001_1] 28 (0,0)) (by (with_reducible repeat (first|refine bN ?_ _|refine bD ?_|refine bA ?_ _));exact BK385.out) hb);have n3_:=A0.mk (bB (g:=gb386) (o:=.cells #[.int .u64 t387,.int .u64 (Go.bits .or .u64 t388 t389)] 28 (0,0)) (by (with_reducible repeat (first|refine bN ?_ _|refine bD ?_|refine bA ?_ _));exact BK386.out) hb);have n4_:=A0.mk (wT (by repeat (first|(with_reducible first|exact HB.out|apply wA|apply wN|apply wD|refine wS ?_ GE383.out|refine wS ?_ GE384.out|refine wS ?_ GE385.out|refine wS ?_ GE386.out)|exact HB.out)) hb);clear BK383;clear BK384;clear BK385;clear BK386;clear HB;have BK383:=n0_;have BK384:=n1_;have BK385:=n2_;have BK386:=n3_;have HB:=n4_;clear n0_ n1_ n2_ n3_ n4_;(try clear hb);(try clear hb2);(try clear hk);(try clear hi);have hcz40_0 : w39.cell? ⟨gb386,0,none⟩ = some (.int .u64 t387):=(bC BK386.out 0).trans rfl;have hcz40_1 : w39.cell? ⟨gb386,1,none⟩ = some (.int .u64 (Go.bits .or .u64 t388 t389)):=(bC BK386.out 1).trans rfl;have hfz40_0:=bF BK386.out 0;have hfz40_1:=bF BK386.out 1;have hnb41:=NB385_383.out;have hnc41:=NB383_385.out;have hnb42:=NB385_384.out;have hnc42:=NB384_385.out;have hcz43_0 : w39.cell? ⟨gb385,0,none⟩ = some (.int .u64 x386000_1):=(bC BK385.out 0).trans rfl;have hcz43_1 : w39.cell? ⟨gb385,1,none⟩ = some (.int .u64 x386001_1):=(bC BK385.out 1).trans rfl;have hfz43_0:=bF BK385.out 0;have hfz43_1:=bF BK385.out 1)|((with_reducible refine gC (f:=38) rfl ?_);refine goesL_ (some 42) rfl rfl Try.func38 (by kernel_rfl) rfl #[.agg #[.int .u64 x386000_1,.int .u64 x386001_1],.int .i64 x9_1,.int .u64 1] rfl (by (try simp only [mT,mC,mN]);first|done|rfl|(simp only [lD,lK];rfl)) ?_;(with_reducible refine (vernierref01_With.calls x386000_1 x386001_1 x9_1 1 t394 t395 _ A25.out).mono ?_);rintro e w44 ⟨rfl,hb⟩;refine ⟨_,rfl,?_⟩;have n0_:=A0.mk (bB (g:=gb383) (o:=.cells #[.int .u64 a0_0,.int .u64 a0_1] 28 (0,0)) (by (with_reducible repeat (first|refine bN ?_ _|refine bD ?_|refine bA ?_ _));refine bR ?_ NB383_386.out _;(with_reducible repeat (first|refine bN ?_ _|refine bD ?_|refine bA ?_ _));refine bR ?_ NB383_386.out _;(with_reducible repeat (first|refine bN ?_ _|refine bD ?_|refine bA ?_ _));exact BK383.out) hb);have n1_:=A0.mk (bB (g:=gb384) (o:=.cells #[.int .u64 0,.int .u64 0] 28 (0,0)) (by (with_reducible repeat (first|refine bN ?_ _|refine bD ?_|refine bA ?_ _));refine bR ?_ NB384_386.out _;(with_reducible repeat (first|refine bN ?_ _|refine bD ?_|refine bA ?_ _));refine bR ?_ NB384_386.out _;(with_reducible repeat (first|refine bN ?_ _|refine bD ?_|refine bA ?_ _));exact BK384.out) hb);have n2_:=A0.mk (bB (g:=gb385) (o:=.cells #[.int .u64 x386000_1,.int .u64 x386001_1] 28 (0,0)) (by (with_reducible repeat (first|refine bN ?_ _|refine bD ?_|refine bA ?_ _));refine bR ?_ NB385_386.out _;(with_reducible repeat (first|refine bN ?_ _|refine bD ?_|refine bA ?_ _));refine bR ?_ NB385_386.out _;(with_reducible repeat (first|refine bN ?_ _|refine bD ?_|refine bA ?_ _));exact BK385.out) hb);have n3_:=A0.mk (bB (g:=gb386) (o:=.cells #[.int .u64 t391,.int .u64 t392] 28 (0,0)) (by (with_reducible repeat (first|refine bN ?_ _|refine bD ?_|refine bA ?_ _));refine bP (cs:=#[.int .u64 t391,.int .u64 (Go.bits .or .u64 t388 t389)]) ?_ 1 _ rfl;(with_reducible repeat (first|refine bN ?_ _|refine bD ?_|refine bA ?_ _));refine bP (cs:=#[.int .u64 t387,.int .u64 (Go.bits .or .u64 t388 t389)]) ?_ 0 _ rfl;(with_reducible repeat (first|refine bN ?_ _|refine bD ?_|refine bA ?_ _));exact BK386.out) hb);have n4_:=A0.mk (wT (by repeat (first|(with_reducible first|exact HB.out|apply wA|apply wN|apply wD|refine wS ?_ GE383.out|refine wS ?_ GE384.out|refine wS ?_ GE385.out|refine wS ?_ GE386.out)|exact HB.out)) hb);clear BK383;clear BK384;clear BK385;clear BK386;clear HB;have BK383:=n0_;have BK384:=n1_;have BK385:=n2_;have BK386:=n3_;have HB:=n4_;clear n0_ n1_ n2_ n3_ n4_;(try clear hb);(try clear hb2);(try clear hk);(try clear hi);have hcz45_0 : w44.cell? ⟨gb385,0,none⟩ = some (.int .u64 x386000_1):=(bC BK385.out 0).trans rfl;have hcz45_1 : w44.cell? ⟨gb385,1,none⟩ = some (.int .u64 x386001_1):=(bC BK385.out 1).trans rfl;have hfz45_0:=bF BK385.out 0;have hfz45_1:=bF BK385.out 1))
            go_roundg k1
            case measure => have:=HK1.out;omega
            case rel => exact ⟨(wrap64 (x9_1 - 1)),(t394),(t395),(t391),(t392),(by first|rfl|(simp;done)|(simp [*];done)),H',⟨by have:=HK1.out;omega⟩,⟨by (with_reducible repeat (first|refine bN ?_ _|refine bD ?_|refine bA ?_ _));refine bR ?_ NB383_385.out _;(with_reducible repeat (first|refine bN ?_ _|refine bD ?_|refine bA ?_ _));refine bR ?_ NB383_385.out _;(with_reducible repeat (first|refine bN ?_ _|refine bD ?_|refine bA ?_ _));exact BK383.out⟩,⟨by (with_reducible repeat (first|refine bN ?_ _|refine bD ?_|refine bA ?_ _));refine bR ?_ NB384_385.out _;(with_reducible repeat (first|refine bN ?_ _|refine bD ?_|refine bA ?_ _));refine bR ?_ NB384_385.out _;(with_reducible repeat (first|refine bN ?_ _|refine bD ?_|refine bA ?_ _));exact BK384.out⟩,⟨by (with_reducible repeat (first|refine bN ?_ _|refine bD ?_|refine bA ?_ _));refine bP (cs:=#[.int .u64 t394,.int .u64 x386001_1]) ?_ 1 _ rfl;(with_reducible repeat (first|refine bN ?_ _|refine bD ?_|refine bA ?_ _));refine bP (cs:=#[.int .u64 x386000_1,.int .u64 x386001_1]) ?_ 0 _ rfl;(with_reducible repeat (first|refine bN ?_ _|refine bD ?_|refine bA ?_ _));exact BK385.out⟩,⟨by (with_reducible repeat (first|refine bN ?_ _|refine bD ?_|refine bA ?_ _));refine bR ?_ NB386_385.out _;(with_reducible repeat (first|refine bN ?_ _|refine bD ?_|refine bA ?_ _));refine bR ?_ NB386_385.out _;(with_reducible repeat (first|refine bN ?_ _|refine bD ?_|refine bA ?_ _));exact BK386.out⟩,⟨by repeat (first|(with_reducible first|exact HB.out|apply wA|apply wN|apply wD|refine wS ?_ GE383.out|refine wS ?_ GE384.out|refine wS ?_ GE385.out|refine wS ?_ GE386.out)|exact HB.out)⟩⟩
          · rw [if_neg c23] at H
            have c23b0 : decide (0 ≤ t390) = false:=decide_eq_false c23
            clear c23
            have H':=A0.mk H
            clear H
            have hnb46:=NB386_383.out
            have hnc46:=NB383_386.out
            have hnb47:=NB386_384.out
            have hnc47:=NB384_386.out
            have hnb48:=NB386_385.out
            have hnc48:=NB385_386.out
            have hcz49_0 : wr.cell? ⟨gb386,0,none⟩ = some (.int .u64 x387000_1):=(bC BK386.out 0).trans rfl
            have hcz49_1 : wr.cell? ⟨gb386,1,none⟩ = some (.int .u64 x387001_1):=(bC BK386.out 1).trans rfl
            have hfz49_0:=bF BK386.out 0
            have hfz49_1:=bF BK386.out 1
            try go_wp2_with (first|((with_reducible refine gC (f:=26) rfl ?_);refine goesL_ (some 20) rfl rfl Try.func26 (by kernel_rfl) rfl #[.agg #[.int .u64 x387000_1,.int .u64 x387001_1],.int .i64 1] rfl (by (try simp only [mT,mC,mN]);first|done|rfl|(simp only [lD,lK];rfl)) ?_;(with_reducible refine (vernierref01_Shl.calls k1 x387000_1 x387001_1 1 t387 t388 _ A20.out).mono ?_);rintro e w50 ⟨rfl,hb⟩;refine ⟨_,rfl,?_⟩;have n0_:=A0.mk (bB (g:=gb383) (o:=.cells #[.int .u64 a0_0,.int .u64 a0_1] 28 (0,0)) (by (with_reducible repeat (first|refine bN ?_ _|refine bD ?_|refine bA ?_ _));exact BK383.out) hb);have n1_:=A0.mk (bB (g:=gb384) (o:=.cells #[.int .u64 0,.int .u64 0] 28 (0,0)) (by (with_reducible repeat (first|refine bN ?_ _|refine bD ?_|refine bA ?_ _));exact BK384.out) hb);have n2_:=A0.mk (bB (g:=gb385) (o:=.cells #[.int .u64 x386000_1,.int .u64 x386001_1] 28 (0,0)) (by (with_reducible repeat (first|refine bN ?_ _|refine bD ?_|refine bA ?_ _));exact BK385.out) hb);have n3_:=A0.mk (bB (g:=gb386) (o:=.cells #[.int .u64 x387000_1,.int .u64 x387001_1] 28 (0,0)) (by (with_reducible repeat (first|refine bN ?_ _|refine bD ?_|refine bA ?_ _));exact BK386.out) hb);have n4_:=A0.mk (wT (by repeat (first|(with_reducible first|exact HB.out|apply wA|apply wN|apply wD|refine wS ?_ GE383.out|refine wS ?_ GE384.out|refine wS ?_ GE385.out|refine wS ?_ GE386.out)|exact HB.out)) hb);clear BK383;clear BK384;clear BK385;clear BK386;clear HB;have BK383:=n0_;have BK384:=n1_;have BK385:=n2_;have BK386:=n3_;have HB:=n4_;clear n0_ n1_ n2_ n3_ n4_;(try clear hb);(try clear hb2);(try clear hk);(try clear hi);have hcz51_0 : w50.cell? ⟨gb386,0,none⟩ = some (.int .u64 x387000_1):=(bC BK386.out 0).trans rfl;have hcz51_1 : w50.cell? ⟨gb386,1,none⟩ = some (.int .u64 x387001_1):=(bC BK386.out 1).trans rfl;have hfz51_0:=bF BK386.out 0;have hfz51_1:=bF BK386.out 1))
            have n0_ : A0 (((w50.setCell ⟨gb386,0,none⟩ (.int .u64 t387)).setCell ⟨gb386,1,none⟩ (.int .u64 t388)).heap[gb383]? = some (.cells #[.int .u64 a0_0,.int .u64 a0_1] 28 (0,0))):=⟨by (with_reducible repeat (first|refine bN ?_ _|refine bD ?_|refine bA ?_ _));refine bR ?_ NB383_386.out _;(with_reducible repeat (first|refine bN ?_ _|refine bD ?_|refine bA ?_ _));refine bR ?_ NB383_386.out _;(with_reducible repeat (first|refine bN ?_ _|refine bD ?_|refine bA ?_ _));exact BK383.out⟩
            have n1_ : A0 (((w50.setCell ⟨gb386,0,none⟩ (.int .u64 t387)).setCell ⟨gb386,1,none⟩ (.int .u64 t388)).heap[gb384]? = some (.cells #[.int .u64 0,.int .u64 0] 28 (0,0))):=⟨by (with_reducible repeat (first|refine bN ?_ _|refine bD ?_|refine bA ?_ _));refine bR ?_ NB384_386.out _;(with_reducible repeat (first|refine bN ?_ _|refine bD ?_|refine bA ?_ _));refine bR ?_ NB384_386.out _;(with_reducible repeat (first|refine bN ?_ _|refine bD ?_|refine bA ?_ _));exact BK384.out⟩
            have n2_ : A0 (((w50.setCell ⟨gb386,0,none⟩ (.int .u64 t387)).setCell ⟨gb386,1,none⟩ (.int .u64 t388)).heap[gb385]? = some (.cells #[.int .u64 x386000_1,.int .u64 x386001_1] 28 (0,0))):=⟨by (with_reducible repeat (first|refine bN ?_ _|refine bD ?_|refine bA ?_ _));refine bR ?_ NB385_386.out _;(with_reducible repeat (first|refine bN ?_ _|refine bD ?_|refine bA ?_ _));refine bR ?_ NB385_386.out _;(with_reducible repeat (first|refine bN ?_ _|refine bD ?_|refine bA ?_ _));exact BK385.out⟩
            have n3_ : A0 (((w50.setCell ⟨gb386,0,none⟩ (.int .u64 t387)).setCell ⟨gb386,1,none⟩ (.int .u64 t388)).heap[gb386]? = some (.cells #[.int .u64 t387,.int .u64 t388] 28 (0,0))):=⟨by (with_reducible repeat (first|refine bN ?_ _|refine bD ?_|refine bA ?_ _));refine bP (cs:=#[.int .u64 t387,.int .u64 x387001_1]) ?_ 1 _ rfl;(with_reducible repeat (first|refine bN ?_ _|refine bD ?_|refine bA ?_ _));refine bP (cs:=#[.int .u64 x387000_1,.int .u64 x387001_1]) ?_ 0 _ rfl;(with_reducible repeat (first|refine bN ?_ _|refine bD ?_|refine bA ?_ _));exact BK386.out⟩
            have n4_ : A0 (Below w.heap.size w ((w50.setCell ⟨gb386,0,none⟩ (.int .u64 t387)).setCell ⟨gb386,1,none⟩ (.int .u64 t388))):=⟨by repeat (first|(with_reducible first|exact HB.out|apply wA|apply wN|apply wD|refine wS ?_ GE383.out|refine wS ?_ GE384.out|refine wS ?_ GE385.out|refine wS ?_ GE386.out)|exact HB.out)⟩
            (try clear BK383);(try clear BK384);(try clear BK385);(try clear BK386);(try clear HB)
            generalize ((w50.setCell ⟨gb386,0,none⟩ (.int .u64 t387)).setCell ⟨gb386,1,none⟩ (.int .u64 t388)) = w52 at n0_ n1_ n2_ n3_ n4_ ⊢
            have BK383:=n0_;have BK384:=n1_;have BK385:=n2_;have BK386:=n3_;have HB:=n4_;clear n0_ n1_ n2_ n3_ n4_;have n0_:=A0.mk (bD BK383.out);have n1_:=A0.mk (bD BK384.out);have n2_:=A0.mk (bD BK385.out);have n3_:=A0.mk (bD BK386.out);have n4_:=A0.mk (wD HB.out);clear BK383;clear BK384;clear BK385;clear BK386;clear HB;have BK383:=n0_;have BK384:=n1_;have BK385:=n2_;have BK386:=n3_;have HB:=n4_;clear n0_ n1_ n2_ n3_ n4_
            refine start_ (n:=8) (S:=fun w' => w'.cell? ⟨gb386,0,none⟩ = some (.int .u64 t387)∧w'.cell? ⟨gb386,1,none⟩ = some (.int .u64 t388)∧w'.cell? ⟨gb383,0,none⟩ = some (.int .u64 a0_0)∧w'.cell? ⟨gb383,1,none⟩ = some (.int .u64 a0_1)) (ds:=[7]) #[Z,Z,Z,Z,Z,Z,Z,Z] (by kernel_rfl) rfl rfl ⟨(bC BK386.out 0).trans rfl,(bC BK386.out 1).trans rfl,(bC BK383.out 0).trans rfl,(bC BK383.out 1).trans rfl⟩ (fun hHeld => ?_);refine with_tabW vernierref01_Div.tab8 vernierref01_Div.bits8 (fun HT_ HW_ => ?_)
            generalize w52.drew = w53 at BK383 BK384 BK385 BK386 HB hHeld ⊢
            refine pure_ (i:=0) (N:=some 21) (v:=?_) (a':=?_) #[Y,Z,Z,Z,Z,Z,Z,Z] rfl rfl (any_of HT_.out (by kernel_rfl)) (fun _ _ _ h => h) (Or.inl ⟨by rfl,?_⟩) ?_ ?_
            rotate_left;(intro w';go_simp;with_reducible rfl);rotate_left;(simp only [aP,lT,lZ,lS,i64_w,i32_w];rfl)
            refine pure_ (i:=3) (N:=some 24) (v:=?_) (a':=?_) #[Y,Z,Z,Y,Z,Z,Z,Z] rfl rfl (any_of HT_.out (by kernel_rfl)) (fun _ _ _ h => h) (Or.inl ⟨by rfl,?_⟩) ?_ ?_
            rotate_left;(intro w';go_simp;with_reducible rfl);rotate_left;(simp only [aP,lT,lZ,lS,i64_w,i32_w];rfl)
            refine take_ (i:=1) (N:=some 22) (v:=?_) (a':=?_) #[Y,Y,Z,Y,Z,Z,Z,Z] rfl rfl (take_ofW HT_.out HW_.out (by kernel_rfl)) (fun _ _ _ h => h) (Or.inl ⟨by rfl,?_⟩) hHeld ?_ ?_
            rotate_left;(rintro w' ⟨s0,s1,s2,s3⟩;go_simp;with_reducible rfl);rotate_left;(simp only [aP,lT,lZ,lS,i64_w,i32_w];rfl)
            refine take_ (i:=2) (N:=some 23) (v:=?_) (a':=?_) #[Y,Y,Y,Y,Z,Z,Z,Z] rfl rfl (take_ofW HT_.out HW_.out (by kernel_rfl)) (fun _ _ _ h => h) (Or.inl ⟨by rfl,?_⟩) hHeld ?_ ?_
            rotate_left;(rintro w' ⟨s0,s1,s2,s3⟩;go_simp;with_reducible rfl);rotate_left;(simp only [aP,lT,lZ,lS,i64_w,i32_w];rfl)
            refine one_ (i:=4) (N:=some 25) #[Y,Y,Y,Y,Y,Z,Z,Z] rfl rfl (one_of HT_.out (by kernel_rfl)) (by decide) (fun K hK => ?_)
            refine goes_ Try.func37 (by kernel_rfl) rfl #[.agg #[.int .u64 a0_0,.int .u64 a0_1],.int .i64 x9_1] (by rfl) rfl rfl (by (try simp only [mT,mC,mN]);first|done|rfl|(simp only [lD,lK];rfl)) ?_
            with_reducible refine (vernierref01_Bit.calls k1 a0_0 a0_1 x9_1 t389 _ A21.out).mono ?_
            rintro e w54 ⟨rfl,hb⟩;refine ⟨_,rfl,?_⟩;have n0_:=A0.mk (bB (g:=gb383) (o:=.cells #[.int .u64 a0_0,.int .u64 a0_1] 28 (0,0)) (by (with_reducible repeat (first|refine bN ?_ _|refine bD ?_|refine bA ?_ _));exact BK383.out) hb);have n1_:=A0.mk (bB (g:=gb384) (o:=.cells #[.int .u64 0,.int .u64 0] 28 (0,0)) (by (with_reducible repeat (first|refine bN ?_ _|refine bD ?_|refine bA ?_ _));exact BK384.out) hb);have n2_:=A0.mk (bB (g:=gb385) (o:=.cells #[.int .u64 x386000_1,.int .u64 x386001_1] 28 (0,0)) (by (with_reducible repeat (first|refine bN ?_ _|refine bD ?_|refine bA ?_ _));exact BK385.out) hb);have n3_:=A0.mk (bB (g:=gb386) (o:=.cells #[.int .u64 t387,.int .u64 t388] 28 (0,0)) (by (with_reducible repeat (first|refine bN ?_ _|refine bD ?_|refine bA ?_ _));exact BK386.out) hb);have n4_:=A0.mk (wT (by repeat (first|(with_reducible first|exact HB.out|apply wA|apply wN|apply wD|refine wS ?_ GE383.out|refine wS ?_ GE384.out|refine wS ?_ GE385.out|refine wS ?_ GE386.out)|exact HB.out)) hb);clear BK383;clear BK384;clear BK385;clear BK386;clear HB;have BK383:=n0_;have BK384:=n1_;have BK385:=n2_;have BK386:=n3_;have HB:=n4_;clear n0_ n1_ n2_ n3_ n4_;(try clear hb);(try clear hb2);(try clear hk);(try clear hi)
            refine hK.out _ _ ⟨(bC BK386.out 0).trans rfl,(bC BK386.out 1).trans rfl,(bC BK383.out 0).trans rfl,(bC BK383.out 1).trans rfl⟩ (fun hHeld => ?_)
            clear hK K
            refine norm_ (a':=?_) ?_ ?_
            rotate_left;(show Act.put _ (some 25) _ = _;simp only [aP,lT,lZ,lS,i64_w,i32_w];rfl)
            refine pure_ (i:=5) (N:=some 26) (v:=?_) (a':=?_) #[Y,Y,Y,Y,Y,Y,Z,Z] rfl rfl (any_of HT_.out (by kernel_rfl)) (fun _ _ _ h => h) (Or.inl ⟨by rfl,?_⟩) ?_ ?_
            rotate_left;(intro w';go_simp;with_reducible rfl);rotate_left;(simp only [aP,lT,lZ,lS,i64_w,i32_w];rfl)
            refine pure_ (i:=6) (N:=some 27) (v:=?_) (a':=?_) #[Y,Y,Y,Y,Y,Y,Y,Z] rfl rfl (any_of HT_.out (by kernel_rfl)) (fun _ _ _ h => h) (Or.inl ⟨by rfl,?_⟩) ?_ ?_
            rotate_left;(intro w';go_simp;with_reducible rfl);rotate_left;(simp only [aP,lT,lZ,lS,i64_w,i32_w];rfl)
            refine last_ (i:=7) (N:=none) #[Y,Y,Y,Y,Y,Y,Y,Y] rfl rfl (one_of HT_.out (by kernel_rfl)) (by decide) (fun K hK => ?_)
            have hs55 : w54.cell? ⟨gb386,1,none⟩ = some (.int .u64 t388):=(bC BK386.out 1).trans rfl
            have hfs55:=bF BK386.out 1
            have hns55_0:=NB383_386.out
            have hns55_1:=NB384_386.out
            have hns55_2:=NB385_386.out
            have hms55_0:=NB386_383.out
            have hms55_1:=NB386_384.out
            have hms55_2:=NB386_385.out
            refine skip_ (w1:=?_) (by rfl) rfl ?_ ?_
            rotate_left
            · go_simp
              rfl
            refine hK.out _ _ ?_
            clear hK K
            refine done_ (done_of HT_.out (by kernel_rfl)) ?_
            have hcz56_0 : w54.cell? ⟨gb386,0,none⟩ = some (.int .u64 t387):=(bC BK386.out 0).trans rfl
            have hcz56_1 : w54.cell? ⟨gb386,1,none⟩ = some (.int .u64 t388):=(bC BK386.out 1).trans rfl
            have hfz56_0:=bF BK386.out 0
            have hfz56_1:=bF BK386.out 1
            try go_wp2_with (first|((with_reducible refine gC (f:=22) rfl ?_);refine goesL_ (some 31) rfl rfl Try.func22 (by kernel_rfl) rfl #[.agg #[.int .u64 t387,.int .u64 (Go.bits .or .u64 t388 t389)],.agg #[.int .u64 0,.int .u64 a1]] rfl (by (try simp only [mT,mC,mN]);first|done|rfl|(simp only [lD,lK];rfl)) ?_;(with_reducible refine (vernierref01_Cmp.calls k1 t387 (Go.bits .or .u64 t388 t389) 0 a1 t390 _ A22.out).mono ?_);rintro e w57 ⟨rfl,hb⟩;refine ⟨_,rfl,?_⟩;have n0_:=A0.mk (bB (g:=gb383) (o:=.cells #[.int .u64 a0_0,.int .u64 a0_1] 28 (0,0)) (by (with_reducible repeat (first|refine bN ?_ _|refine bD ?_|refine bA ?_ _));refine bR ?_ NB383_386.out _;(with_reducible repeat (first|refine bN ?_ _|refine bD ?_|refine bA ?_ _));exact BK383.out) hb);have n1_:=A0.mk (bB (g:=gb384) (o:=.cells #[.int .u64 0,.int .u64 0] 28 (0,0)) (by (with_reducible repeat (first|refine bN ?_ _|refine bD ?_|refine bA ?_ _));refine bR ?_ NB384_386.out _;(with_reducible repeat (first|refine bN ?_ _|refine bD ?_|refine bA ?_ _));exact BK384.out) hb);have n2_:=A0.mk (bB (g:=gb385) (o:=.cells #[.int .u64 x386000_1,.int .u64 x386001_1] 28 (0,0)) (by (with_reducible repeat (first|refine bN ?_ _|refine bD ?_|refine bA ?_ _));refine bR ?_ NB385_386.out _;(with_reducible repeat (first|refine bN ?_ _|refine bD ?_|refine bA ?_ _));exact BK385.out) hb);have n3_:=A0.mk (bB (g:=gb386) (o:=.cells #[.int .u64 t387,.int .u64 (Go.bits .or .u64 t388 t389)] 28 (0,0)) (by (with_reducible repeat (first|refine bN ?_ _|refine bD ?_|refine bA ?_ _));refine bP (cs:=#[.int .u64 t387,.int .u64 t388]) ?_ 1 _ rfl;(with_reducible repeat (first|refine bN ?_ _|refine bD ?_|refine bA ?_ _));exact BK386.out) hb);have n4_:=A0.mk (wT (by repeat (first|(with_reducible first|exact HB.out|apply wA|apply wN|apply wD|refine wS ?_ GE383.out|refine wS ?_ GE384.out|refine wS ?_ GE385.out|refine wS ?_ GE386.out)|exact HB.out)) hb);clear BK383;clear BK384;clear BK385;clear BK386;clear HB;have BK383:=n0_;have BK384:=n1_;have BK385:=n2_;have BK386:=n3_;have HB:=n4_;clear n0_ n1_ n2_ n3_ n4_;(try clear hb);(try clear hb2);(try clear hk);(try clear hi)))
            go_roundg k1
            case measure => have:=HK1.out;omega
            case rel => exact ⟨(wrap64 (x9_1 - 1)),(x386000_1),(x386001_1),(t387),(Go.bits .or .u64 t388 t389),(by first|rfl|(simp;done)|(simp [*];done)),H',⟨by have:=HK1.out;omega⟩,⟨by (with_reducible repeat (first|refine bN ?_ _|refine bD ?_|refine bA ?_ _));exact BK383.out⟩,⟨by (with_reducible repeat (first|refine bN ?_ _|refine bD ?_|refine bA ?_ _));exact BK384.out⟩,⟨by (with_reducible repeat (first|refine bN ?_ _|refine bD ?_|refine bA ?_ _));exact BK385.out⟩,⟨by (with_reducible repeat (first|refine bN ?_ _|refine bD ?_|refine bA ?_ _));exact BK386.out⟩,⟨by repeat (first|(with_reducible first|exact HB.out|apply wA|apply wN|apply wD|refine wS ?_ GE383.out|refine wS ?_ GE384.out|refine wS ?_ GE385.out|refine wS ?_ GE386.out)|exact HB.out)⟩⟩
        · rw [if_neg c19] at H
          have c19b0 : decide (0 ≤ x9_1) = false:=decide_eq_false c19
          clear c19
          simp only [Option.some.injEq,Prod.mk.injEq] at H
          obtain ⟨rfl,rfl,rfl,rfl⟩:=H
          try go_wp2
          have n0_:=A0.mk (bD BK383.out);have n1_:=A0.mk (bD BK384.out);have n2_:=A0.mk (bD BK385.out);have n3_:=A0.mk (bD BK386.out);have n4_:=A0.mk (wD HB.out);clear BK383;clear BK384;clear BK385;clear BK386;clear HB;have BK383:=n0_;have BK384:=n1_;have BK385:=n2_;have BK386:=n3_;have HB:=n4_;clear n0_ n1_ n2_ n3_ n4_
          refine start_ (n:=6) (S:=fun w' => w'.cell? ⟨gb385,0,none⟩ = some (.int .u64 x386000_1)∧w'.cell? ⟨gb385,1,none⟩ = some (.int .u64 x386001_1)∧w'.cell? ⟨gb386,0,none⟩ = some (.int .u64 x387000_1)∧w'.cell? ⟨gb386,1,none⟩ = some (.int .u64 x387001_1)) (ds:=[]) #[Z,Z,Z,Z,Z,Z] (by kernel_rfl) rfl rfl ⟨(bC BK385.out 0).trans rfl,(bC BK385.out 1).trans rfl,(bC BK386.out 0).trans rfl,(bC BK386.out 1).trans rfl⟩ (fun hHeld => ?_)
          generalize wr.drew = w58 at BK383 BK384 BK385 BK386 HB hHeld ⊢
          refine pure_ (i:=1) (N:=some 44) (v:=?_) (a':=?_) #[Z,Y,Z,Z,Z,Z] rfl rfl (by kernel_rfl) (fun _ _ _ h => h) (Or.inl ⟨by rfl,?_⟩) ?_ ?_
          rotate_left;(intro w';go_simp;with_reducible rfl);rotate_left;(simp only [aP,lT,lZ,lS,i64_w,i32_w];rfl)
          refine take_ (i:=0) (N:=some 43) (v:=?_) (a':=?_) #[Y,Y,Z,Z,Z,Z] rfl rfl (by kernel_rfl) (fun _ _ _ h => h) (Or.inl ⟨by rfl,?_⟩) hHeld ?_ ?_
          rotate_left;(rintro w' ⟨s0,s1,s2,s3⟩;go_simp;with_reducible rfl);rotate_left;(simp only [aP,lT,lZ,lS,i64_w,i32_w];rfl)
          refine take_ (i:=2) (N:=some 45) (v:=?_) (a':=?_) #[Y,Y,Y,Z,Z,Z] rfl rfl (by kernel_rfl) (fun _ _ _ h => h) (Or.inl ⟨by rfl,?_⟩) hHeld ?_ ?_
          rotate_left;(rintro w' ⟨s0,s1,s2,s3⟩;go_simp;with_reducible rfl);rotate_left;(simp only [aP,lT,lZ,lS,i64_w,i32_w];rfl)
          refine one_ (i:=3) (N:=none) #[Y,Y,Y,Y,Z,Z] rfl rfl (by kernel_rfl) (by decide) (fun K hK => ?_)
          have hs59 : w58.cell? ⟨gb384,0,none⟩ = some (.int .u64 0):=(bC BK384.out 0).trans rfl
          have hfs59:=bF BK384.out 0
          have hns59_0:=NB383_384.out
          have hns59_2:=NB385_384.out
          have hns59_3:=NB386_384.out
          have hms59_0:=NB384_383.out
          have hms59_2:=NB384_385.out
          have hms59_3:=NB384_386.out
          have hs60 : w58.cell? ⟨gb384,1,none⟩ = some (.int .u64 0):=(bC BK384.out 1).trans rfl
          have hfs60:=bF BK384.out 1
          have hns60_0:=NB383_384.out
          have hns60_2:=NB385_384.out
          have hns60_3:=NB386_384.out
          have hms60_0:=NB384_383.out
          have hms60_2:=NB384_385.out
          have hms60_3:=NB384_386.out
          refine skip_ (w1:=?_) (by rfl) rfl ?_ ?_
          rotate_left
          · go_simp
            rfl
          refine hK.out _ _ ⟨((cell_far (p:=⟨gb384,_,none⟩) NB385_384.out _).trans (((cell_far (p:=⟨gb384,_,none⟩) NB385_384.out _).trans (hHeld.1)))),((cell_far (p:=⟨gb384,_,none⟩) NB385_384.out _).trans (((cell_far (p:=⟨gb384,_,none⟩) NB385_384.out _).trans (hHeld.2.1)))),((cell_far (p:=⟨gb384,_,none⟩) NB386_384.out _).trans (((cell_far (p:=⟨gb384,_,none⟩) NB386_384.out _).trans (hHeld.2.2.1)))),((cell_far (p:=⟨gb384,_,none⟩) NB386_384.out _).trans (((cell_far (p:=⟨gb384,_,none⟩) NB386_384.out _).trans (hHeld.2.2.2))))⟩ (fun hHeld => ?_)
          clear hK K
          refine pure_ (i:=4) (N:=some 5) (v:=?_) (a':=?_) #[Y,Y,Y,Y,Y,Z] rfl rfl (by kernel_rfl) (fun _ _ _ h => h) (Or.inl ⟨by rfl,?_⟩) ?_ ?_
          rotate_left;(intro w';go_simp;with_reducible rfl);rotate_left;(simp only [aP,lT,lZ,lS,i64_w,i32_w];rfl)
          refine pure_ (i:=5) (N:=some 6) (v:=?_) (a':=?_) #[Y,Y,Y,Y,Y,Y] rfl rfl (by kernel_rfl) (fun _ _ _ h => h) (Or.inl ⟨by rfl,?_⟩) ?_ ?_
          rotate_left;(intro w';go_simp;with_reducible rfl);rotate_left;(simp only [aP,lT,lZ,lS,i64_w,i32_w];rfl)
          refine done_ (by kernel_rfl) ?_
          try go_wp2
          refine bodyPost_ret (results_ctt rfl _ _ gb384 28 #[.int .u64 x386000_1,.int .u64 x386001_1] (0,0) _ rfl (by (with_reducible repeat (first|refine bN ?_ _|refine bD ?_|refine bA ?_ _));refine bP (cs:=#[.int .u64 x386000_1,.int .u64 0]) ?_ 1 _ rfl;(with_reducible repeat (first|refine bN ?_ _|refine bD ?_|refine bA ?_ _));refine bP (cs:=#[.int .u64 0,.int .u64 0]) ?_ 0 _ rfl;(with_reducible repeat (first|refine bN ?_ _|refine bD ?_|refine bA ?_ _));exact BK384.out) Try.underlying28 rfl (by kernel_rfl)) rfl ?_
          exact ⟨by first|rfl|(simp [errW_none,errW_some] <;> rfl)|(simp [*,errW_none,errW_some] <;> rfl),by repeat (first|(with_reducible first|exact HB.out|apply wA|apply wN|apply wD|refine wS ?_ GE383.out|refine wS ?_ GE384.out|refine wS ?_ GE385.out|refine wS ?_ GE386.out)|exact HB.out)⟩

end Go.Proofs.Ytidjigoghdghiaa.V
