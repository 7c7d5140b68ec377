/- Contracts of the program's functions, each: where the printed function answers, the call answers the same. Written by vprint.py, this session's own program over the kit's print.py; Lean checks it. No conditions beyond those that each states. -/
import Derived.Test.YtidjigoghdghiaaVx0
import Derived.Test.YtidjigoghdghiaaVx4
import Derived.Test.YtidjigoghdghiaaVx6
namespace Go.Proofs.Ytidjigoghdghiaa.V
open Go.RowKit Go.Proofs.YtidjigoghdghiaaQ.PrintWords Go.Proofs.YtidjigoghdghiaaQ.PrintLast Go.Proofs.YtidjigoghdghiaaQ.PrintMore
open Bool renaming true → Y, false → Z
open List renaming setIfInBounds_toArray → lT, set_cons_zero → lZ, set_cons_succ → lS, map_toArray → mT, map_cons → mC, map_nil → mN, length_drop → lD, length_take → lK
open Act renaming put → aP
attribute [local go_sem] max2_int min2_int max_two min_two max_three min_three max_four min_four   -- for this text's walks alone
set_option linter.unusedVariables false
set_option linter.unusedSimpArgs false

/-! ### vernierref01_Shl: function 26 -/
def vernierref01_Shl.l0 : Nat→Int→Int→Int→Int→Int→Int→Option (Int × Int)
  | 0,_,_,_,_,_,_ => none
  | k + 1,x1,x6,x128000,x128001,x130000,x130001 => if x6 < 128 then (if x1 ≤ x6 then ((vernierref01_Bit.f k x128000 x128001 (wrap64 (x6 - x1))).bind fun t130 => ((vernierref01_With.f x130000 x130001 x6 t130).bind fun bt131 => (vernierref01_Shl.l0 k x1 (wrap64 (x6 + 1)) x128000 x128001 bt131.1 bt131.2))) else (vernierref01_Shl.l0 k x1 (wrap64 (x6 + 1)) x128000 x128001 x130000 x130001)) else (some (x130000,x130001))
def vernierref01_Shl.f (k : Nat) (a0_0 : Int) (a0_1 : Int) (a1 : Int) : Option (Int × Int):=if a1 ≤ 0 then (some (a0_0,a0_1)) else (vernierref01_Shl.l0 k a1 0 a0_0 a0_1 0 0)
theorem vernierref01_Shl.mono_l : ∀ k,(∀ y0 y1 y2 y3 y4 y5,LeO (vernierref01_Shl.l0 k y0 y1 y2 y3 y4 y5) (vernierref01_Shl.l0 (k + 1) y0 y1 y2 y3 y4 y5))
  | 0 => fun _ _ _ _ _ _ r h => by simp [vernierref01_Shl.l0] at h
  | k + 1 => by
    have ih0:=vernierref01_Shl.mono_l k
    · intro y0 y1 y2 y3 y4 y5
      unfold vernierref01_Shl.l0
      repeat' first
      | (with_reducible exact ih0 _ _ _ _ _ _)
      | (with_reducible exact vernierref01_Bit.mono _ _ _ _)
      | (with_reducible exact LeO.refl _)
      | (with_reducible exact LeO.none _)
      | (with_reducible refine LeO.ite ?_ ?_)
      | (with_reducible refine LeO.bind ?_ (fun _ => ?_))
      | exact ih0 _ _ _ _ _ _
      | exact vernierref01_Bit.mono _ _ _ _
      | exact LeO.none _
      | refine LeO.ite ?_ ?_
      | refine LeO.bind ?_ (fun _ => ?_)
theorem vernierref01_Shl.mono : ∀ a0 a1 a2 k,LeO (vernierref01_Shl.f k a0 a1 a2) (vernierref01_Shl.f (k + 1) a0 a1 a2):=by
  intro a0 a1 a2 k
  have ih0:=vernierref01_Shl.mono_l k
  unfold vernierref01_Shl.f
  repeat' first
      | (with_reducible exact ih0 _ _ _ _ _ _)
      | (with_reducible exact vernierref01_Bit.mono _ _ _ _)
      | (with_reducible exact LeO.refl _)
      | (with_reducible exact LeO.none _)
      | (with_reducible refine LeO.ite ?_ ?_)
      | (with_reducible refine LeO.bind ?_ (fun _ => ?_))
      | exact ih0 _ _ _ _ _ _
      | exact vernierref01_Bit.mono _ _ _ _
      | exact LeO.none _
      | refine LeO.ite ?_ ?_
      | refine LeO.bind ?_ (fun _ => ?_)
def vernierref01_Shl.T8 : Bool × List (List Nat × List Nat):=(true,[([],[]),([],[]),([],[]),([],[]),([],[]),([3,4],[3,4]),([2,5],[2,5]),([0,1,6,6],[0,1,6]),([7,7,0,1,2,3,4,5,6,7],[7])])
def vernierref01_Shl.B8 : List Nat:=[0,0,0,0,0,24,60,127,255]
theorem vernierref01_Shl.tab8 : rtab .any (opsOf Try.f26 8) = vernierref01_Shl.T8:=by kernel_rfl
theorem vernierref01_Shl.bits8 : waitsOk vernierref01_Shl.T8.2 vernierref01_Shl.B8 = true:=by kernel_rfl
set_option maxHeartbeats 8000000 in
set_option maxRecDepth 100000 in
theorem vernierref01_Shl.calls (k : Nat) (a0_0 : Int) (a0_1 : Int) (a1 : Int) (r1 : Int) (r2 : Int) (w : World) (h : vernierref01_Shl.f k a0_0 a0_1 a1 = some (r1,r2)) :
    Calls Try.prog 26 #[.agg #[.int .u64 a0_0,.int .u64 a0_1],.int .i64 a1] w fun e w' => e = .returned (.agg #[.int .u64 r1,.int .u64 r2])∧Below w.heap.size w w':=by
  have hu28:=Try.underlying28
  have HB:=A0.mk (Below.refl w.heap.size w)
  have H : (if a1 ≤ 0 then (some (a0_0,a0_1)) else (vernierref01_Shl.l0 k a1 0 a0_0 a0_1 0 0)) = some (r1,r2):=h
  clear h
  by_cases c3 : a1 ≤ 0
  · rw [if_pos c3] at H
    have c3b0 : decide (a1 ≤ 0) = true:=decide_eq_true c3
    clear c3
    simp only [Option.some.injEq,Prod.mk.injEq] at H
    obtain ⟨rfl,rfl⟩:=H
    go_enter Try.func26,Try.ntmps26
    go_wp2_with (first|((with_reducible refine gD (N:=2) rfl ?_);refine bE ?hg (N:=2) ?hd (cs:=#[.int .u64 a0_0,.int .u64 a0_1]) (t:=28) ?hr ?_;(case hd => rfl);(case hg => rfl);(case hr => first|(go_simp;done)|(go_simp;rfl));intro gb127 hg w4 hbox hb;have n0_:=A0.mk (wT (by repeat (first|(with_reducible first|exact HB.out|apply wA|apply wN|apply wD)|exact HB.out)) hb);have n1_:=A0.mk (hbox);have n2_:=A0.mk ((by rw [hg];exact (wZ (by repeat (first|(with_reducible first|exact HB.out|apply wA|apply wN|apply wD)|exact HB.out))) : w.heap.size ≤ gb127));have n3_:=A0.mk ((by rw [hg];exact (wZ (by repeat (first|(with_reducible first|exact HB.out|apply wA|apply wN|apply wD)|exact HB.out))) : w.heap.size ≤ gb127));clear HB;have HB:=n0_;have BK127:=n1_;have GW127:=n2_;have GE127:=n3_;clear n0_ n1_ n2_ n3_;clear hb hbox hg)|((with_reducible refine gD (N:=4) rfl ?_);refine bE ?hg (N:=4) ?hd (cs:=#[.int .u64 0,.int .u64 0]) (t:=28) ?hr ?_;(case hd => rfl);(case hg => rfl);(case hr => first|(go_simp;done)|(go_simp;rfl));intro gb128 hg w5 hbox hb;have n0_:=A0.mk (bB (g:=gb127) (o:=.cells #[.int .u64 a0_0,.int .u64 a0_1] 28 (0,0)) (by (with_reducible repeat (first|refine bN ?_ _|refine bD ?_|refine bA ?_ _));exact BK127.out) hb);have n1_:=A0.mk (wT (by repeat (first|(with_reducible first|exact HB.out|apply wA|apply wN|apply wD|refine wS ?_ GE127.out)|exact HB.out)) hb);have n2_:=A0.mk (hbox);have n3_:=A0.mk ((by rw [hg];exact (wZ (by repeat (first|(with_reducible first|exact HB.out|apply wA|apply wN|apply wD|refine wS ?_ GE127.out)|exact HB.out))) : w.heap.size ≤ gb128));have n4_:=A0.mk ((by rw [hg];exact (wZ (by repeat (first|(with_reducible first|exact HB.out|apply wA|apply wN|apply wD|refine wS ?_ GE127.out)|exact HB.out))) : w.heap.size ≤ gb128));have n5_:=A0.mk ((by rw [hg];exact Nat.ne_of_lt (blk_lt (g:=gb127) (o:=.cells #[.int .u64 a0_0,.int .u64 a0_1] 28 (0,0)) (by (with_reducible repeat (first|refine bN ?_ _|refine bD ?_|refine bA ?_ _));exact BK127.out)) : gb127 ≠ gb128));have n6_:=A0.mk ((by rw [hg];exact Nat.ne_of_gt (blk_lt (g:=gb127) (o:=.cells #[.int .u64 a0_0,.int .u64 a0_1] 28 (0,0)) (by (with_reducible repeat (first|refine bN ?_ _|refine bD ?_|refine bA ?_ _));exact BK127.out)) : gb128 ≠ gb127));clear BK127;clear HB;have BK127:=n0_;have HB:=n1_;have BK128:=n2_;have GW128:=n3_;have GE128:=n4_;have NB127_128:=n5_;have NB128_127:=n6_;clear n0_ n1_ n2_ n3_ n4_ n5_ n6_;clear hb hbox hg;have hnb6:=NB127_128.out;have hnc6:=NB128_127.out;have hcz7_0 : w5.cell? ⟨gb127,0,none⟩ = some (.int .u64 a0_0):=(bC BK127.out 0).trans rfl;have hcz7_1 : w5.cell? ⟨gb127,1,none⟩ = some (.int .u64 a0_1):=(bC BK127.out 1).trans rfl;have hfz7_0:=bF BK127.out 0;have hfz7_1:=bF BK127.out 1;have hcz8_0 : w5.cell? ⟨gb128,0,none⟩ = some (.int .u64 0):=(bC BK128.out 0).trans rfl;have hcz8_1 : w5.cell? ⟨gb128,1,none⟩ = some (.int .u64 0):=(bC BK128.out 1).trans rfl;have hfz8_0:=bF BK128.out 0;have hfz8_1:=bF BK128.out 1))
    refine bodyPost_ret (results_cell_row rfl _ _ gb128 28 #[.int .u64 a0_0,.int .u64 a0_1] (0,0) _ rfl (by (with_reducible repeat (first|refine bN ?_ _|refine bD ?_|refine bA ?_ _));refine bP (cs:=#[.int .u64 a0_0,.int .u64 0]) ?_ 1 _ rfl;(with_reducible repeat (first|refine bN ?_ _|refine bD ?_|refine bA ?_ _));refine bP (cs:=#[.int .u64 0,.int .u64 0]) ?_ 0 _ rfl;(with_reducible repeat (first|refine bN ?_ _|refine bD ?_|refine bA ?_ _));exact BK128.out) Try.underlying28 rfl (by kernel_rfl)) rfl ?_
    exact ⟨by first|rfl|(simp [errW_none,errW_some] <;> rfl)|(simp [*,errW_none,errW_some] <;> rfl),by repeat (first|(with_reducible first|exact HB.out|apply wA|apply wN|apply wD|refine wS ?_ GE127.out|refine wS ?_ GE128.out)|exact HB.out)⟩
  · rw [if_neg c3] at H
    have c3b0 : decide (a1 ≤ 0) = false:=decide_eq_false c3
    clear c3
    have H':=A0.mk H
    clear H
    go_enter Try.func26,Try.ntmps26
    go_wp2_with (first|((with_reducible refine gD (N:=2) rfl ?_);refine bE ?hg (N:=2) ?hd (cs:=#[.int .u64 a0_0,.int .u64 a0_1]) (t:=28) ?hr ?_;(case hd => rfl);(case hg => rfl);(case hr => first|(go_simp;done)|(go_simp;rfl));intro gb127 hg w9 hbox hb;have n0_:=A0.mk (wT (by repeat (first|(with_reducible first|exact HB.out|apply wA|apply wN|apply wD)|exact HB.out)) hb);have n1_:=A0.mk (hbox);have n2_:=A0.mk ((by rw [hg];exact (wZ (by repeat (first|(with_reducible first|exact HB.out|apply wA|apply wN|apply wD)|exact HB.out))) : w.heap.size ≤ gb127));have n3_:=A0.mk ((by rw [hg];exact (wZ (by repeat (first|(with_reducible first|exact HB.out|apply wA|apply wN|apply wD)|exact HB.out))) : w.heap.size ≤ gb127));clear HB;have HB:=n0_;have BK127:=n1_;have GW127:=n2_;have GE127:=n3_;clear n0_ n1_ n2_ n3_;clear hb hbox hg)|((with_reducible refine gD (N:=4) rfl ?_);refine bE ?hg (N:=4) ?hd (cs:=#[.int .u64 0,.int .u64 0]) (t:=28) ?hr ?_;(case hd => rfl);(case hg => rfl);(case hr => first|(go_simp;done)|(go_simp;rfl));intro gb128 hg w10 hbox hb;have n0_:=A0.mk (bB (g:=gb127) (o:=.cells #[.int .u64 a0_0,.int .u64 a0_1] 28 (0,0)) (by (with_reducible repeat (first|refine bN ?_ _|refine bD ?_|refine bA ?_ _));exact BK127.out) hb);have n1_:=A0.mk (wT (by repeat (first|(with_reducible first|exact HB.out|apply wA|apply wN|apply wD|refine wS ?_ GE127.out)|exact HB.out)) hb);have n2_:=A0.mk (hbox);have n3_:=A0.mk ((by rw [hg];exact (wZ (by repeat (first|(with_reducible first|exact HB.out|apply wA|apply wN|apply wD|refine wS ?_ GE127.out)|exact HB.out))) : w.heap.size ≤ gb128));have n4_:=A0.mk ((by rw [hg];exact (wZ (by repeat (first|(with_reducible first|exact HB.out|apply wA|apply wN|apply wD|refine wS ?_ GE127.out)|exact HB.out))) : w.heap.size ≤ gb128));have n5_:=A0.mk ((by rw [hg];exact Nat.ne_of_lt (blk_lt (g:=gb127) (o:=.cells #[.int .u64 a0_0,.int .u64 a0_1] 28 (0,0)) (by (with_reducible repeat (first|refine bN ?_ _|refine bD ?_|refine bA ?_ _));exact BK127.out)) : gb127 ≠ gb128));have n6_:=A0.mk ((by rw [hg];exact Nat.ne_of_gt (blk_lt (g:=gb127) (o:=.cells #[.int .u64 a0_0,.int .u64 a0_1] 28 (0,0)) (by (with_reducible repeat (first|refine bN ?_ _|refine bD ?_|refine bA ?_ _));exact BK127.out)) : gb128 ≠ gb127));clear BK127;clear HB;have BK127:=n0_;have HB:=n1_;have BK128:=n2_;have GW128:=n3_;have GE128:=n4_;have NB127_128:=n5_;have NB128_127:=n6_;clear n0_ n1_ n2_ n3_ n4_ n5_ n6_;clear hb hbox hg)|((with_reducible refine gD (N:=5) rfl ?_);refine bE ?hg (N:=5) ?hd (cs:=#[.int .u64 0,.int .u64 0]) (t:=28) ?hr ?_;(case hd => rfl);(case hg => rfl);(case hr => first|(go_simp;done)|(go_simp;rfl));intro gb129 hg w11 hbox hb;have n0_:=A0.mk (bB (g:=gb127) (o:=.cells #[.int .u64 a0_0,.int .u64 a0_1] 28 (0,0)) (by (with_reducible repeat (first|refine bN ?_ _|refine bD ?_|refine bA ?_ _));exact BK127.out) hb);have n1_:=A0.mk (bB (g:=gb128) (o:=.cells #[.int .u64 0,.int .u64 0] 28 (0,0)) (by (with_reducible repeat (first|refine bN ?_ _|refine bD ?_|refine bA ?_ _));exact BK128.out) hb);have n2_:=A0.mk (wT (by repeat (first|(with_reducible first|exact HB.out|apply wA|apply wN|apply wD|refine wS ?_ GE127.out|refine wS ?_ GE128.out)|exact HB.out)) hb);have n3_:=A0.mk (hbox);have n4_:=A0.mk ((by rw [hg];exact (wZ (by repeat (first|(with_reducible first|exact HB.out|apply wA|apply wN|apply wD|refine wS ?_ GE127.out|refine wS ?_ GE128.out)|exact HB.out))) : w.heap.size ≤ gb129));have n5_:=A0.mk ((by rw [hg];exact (wZ (by repeat (first|(with_reducible first|exact HB.out|apply wA|apply wN|apply wD|refine wS ?_ GE127.out|refine wS ?_ GE128.out)|exact HB.out))) : w.heap.size ≤ gb129));have n6_:=A0.mk ((by rw [hg];exact Nat.ne_of_lt (blk_lt (g:=gb127) (o:=.cells #[.int .u64 a0_0,.int .u64 a0_1] 28 (0,0)) (by (with_reducible repeat (first|refine bN ?_ _|refine bD ?_|refine bA ?_ _));exact BK127.out)) : gb127 ≠ gb129));have n7_:=A0.mk ((by rw [hg];exact Nat.ne_of_gt (blk_lt (g:=gb127) (o:=.cells #[.int .u64 a0_0,.int .u64 a0_1] 28 (0,0)) (by (with_reducible repeat (first|refine bN ?_ _|refine bD ?_|refine bA ?_ _));exact BK127.out)) : gb129 ≠ gb127));have n8_:=A0.mk ((by rw [hg];exact Nat.ne_of_lt (blk_lt (g:=gb128) (o:=.cells #[.int .u64 0,.int .u64 0] 28 (0,0)) (by (with_reducible repeat (first|refine bN ?_ _|refine bD ?_|refine bA ?_ _));exact BK128.out)) : gb128 ≠ gb129));have n9_:=A0.mk ((by rw [hg];exact Nat.ne_of_gt (blk_lt (g:=gb128) (o:=.cells #[.int .u64 0,.int .u64 0] 28 (0,0)) (by (with_reducible repeat (first|refine bN ?_ _|refine bD ?_|refine bA ?_ _));exact BK128.out)) : gb129 ≠ gb128));clear BK127;clear BK128;clear HB;have BK127:=n0_;have BK128:=n1_;have HB:=n2_;have BK129:=n3_;have GW129:=n4_;have GE129:=n5_;have NB127_129:=n6_;have NB129_127:=n7_;have NB128_129:=n8_;have NB129_128:=n9_;clear n0_ n1_ n2_ n3_ n4_ n5_ n6_ n7_ n8_ n9_;clear hb hbox hg;have hnb12:=NB129_127.out;have hnc12:=NB127_129.out;have hnb13:=NB129_128.out;have hnc13:=NB128_129.out;have hcz14_0 : w11.cell? ⟨gb129,0,none⟩ = some (.int .u64 0):=(bC BK129.out 0).trans rfl;have hcz14_1 : w11.cell? ⟨gb129,1,none⟩ = some (.int .u64 0):=(bC BK129.out 1).trans rfl;have hfz14_0:=bF BK129.out 0;have hfz14_1:=bF BK129.out 1))
    go_loopg [6] k (fun kq v6 w' => ∃ (x6_1 : Int) (x130000_1 : Int) (x130001_1 : Int),v6 = .int .i64 x6_1∧A0 (vernierref01_Shl.l0 kq a1 x6_1 a0_0 a0_1 x130000_1 x130001_1 = some (r1,r2))∧A0 (kq ≤ k)∧A0 (w'.heap[gb127]? = some (.cells #[.int .u64 a0_0,.int .u64 a0_1] 28 (0,0)))∧A0 (w'.heap[gb128]? = some (.cells #[.int .u64 0,.int .u64 0] 28 (0,0)))∧A0 (w'.heap[gb129]? = some (.cells #[.int .u64 x130000_1,.int .u64 x130001_1] 28 (0,0)))∧A0 (Below w.heap.size w w'))
    case atStart => exact ⟨(0),(0),(0),(by first|rfl|(simp;done)|(simp [*];done)),H',⟨Nat.le_refl _⟩,⟨by (with_reducible repeat (first|refine bN ?_ _|refine bD ?_|refine bA ?_ _));refine bR ?_ NB127_129.out _;(with_reducible repeat (first|refine bN ?_ _|refine bD ?_|refine bA ?_ _));refine bR ?_ NB127_129.out _;(with_reducible repeat (first|refine bN ?_ _|refine bD ?_|refine bA ?_ _));exact BK127.out⟩,⟨by (with_reducible repeat (first|refine bN ?_ _|refine bD ?_|refine bA ?_ _));refine bR ?_ NB128_129.out _;(with_reducible repeat (first|refine bN ?_ _|refine bD ?_|refine bA ?_ _));refine bR ?_ NB128_129.out _;(with_reducible repeat (first|refine bN ?_ _|refine bD ?_|refine bA ?_ _));exact BK128.out⟩,⟨by (with_reducible repeat (first|refine bN ?_ _|refine bD ?_|refine bA ?_ _));refine bP (cs:=#[.int .u64 0,.int .u64 0]) ?_ 1 _ rfl;(with_reducible repeat (first|refine bN ?_ _|refine bD ?_|refine bA ?_ _));refine bP (cs:=#[.int .u64 0,.int .u64 0]) ?_ 0 _ rfl;(with_reducible repeat (first|refine bN ?_ _|refine bD ?_|refine bA ?_ _));exact BK129.out⟩,⟨by repeat (first|(with_reducible first|exact HB.out|apply wA|apply wN|apply wD|refine wS ?_ GE127.out|refine wS ?_ GE128.out|refine wS ?_ GE129.out)|exact HB.out)⟩⟩
    case round =>
      clear H'
      try clear c1
      try clear c2
      try clear p2
      try clear c3
      try clear c3b0
      try clear c6
      try clear c12
      try clear c13
      try clear hcz14_0
      try clear hcz14_1
      try clear hcz7_0
      try clear hcz7_1
      try clear hcz8_0
      try clear hcz8_1
      try clear hfz14_0
      try clear hfz14_1
      try clear hfz7_0
      try clear hfz7_1
      try clear hfz8_0
      try clear hfz8_1
      obtain ⟨x6_1,x130000_1,x130001_1,rfl,HA,HK1,BK127,BK128,BK129,HB⟩:=hrel
      cases gk with
      | zero => exact absurd HA.out (by simp [vernierref01_Shl.l0])
      | succ k1 =>
        have H:=HA.out
        clear HA
        simp only [vernierref01_Shl.l0] at H
        by_cases c15 : x6_1 < 128
        · rw [if_pos c15] at H
          have c15b0 : decide (x6_1 < 128) = true:=decide_eq_true c15
          clear c15
          by_cases c16 : a1 ≤ x6_1
          · rw [if_pos c16] at H
            have c16b0 : decide (a1 ≤ x6_1) = true:=decide_eq_true c16
            clear c16;replace H:=Option.bind_eq_some_iff.mp H;obtain ⟨t130,A170,H⟩:=H
            replace H : ((vernierref01_With.f x130000_1 x130001_1 x6_1 t130).bind fun bt131 => (vernierref01_Shl.l0 k1 a1 (wrap64 (x6_1 + 1)) a0_0 a0_1 bt131.1 bt131.2)) = some (r1,r2):=H
            have A17:=A0.mk A170;clear A170;replace H:=Option.bind_eq_some_iff.mp H;obtain ⟨⟨t131,t132⟩,A180,H⟩:=H
            replace H : (vernierref01_Shl.l0 k1 a1 (wrap64 (x6_1 + 1)) a0_0 a0_1 t131 t132) = some (r1,r2):=H
            have A18:=A0.mk A180;clear A180
            have H':=A0.mk H
            clear H
            try go_wp2
            have n0_:=A0.mk (bD BK127.out);have n1_:=A0.mk (bD BK128.out);have n2_:=A0.mk (bD BK129.out);have n3_:=A0.mk (wD HB.out);clear BK127;clear BK128;clear BK129;clear HB;have BK127:=n0_;have BK128:=n1_;have BK129:=n2_;have HB:=n3_;clear n0_ n1_ n2_ n3_
            refine start_ (n:=9) (S:=fun w' => w'.cell? ⟨gb129,0,none⟩ = some (.int .u64 x130000_1)∧w'.cell? ⟨gb129,1,none⟩ = some (.int .u64 x130001_1)∧w'.cell? ⟨gb127,0,none⟩ = some (.int .u64 a0_0)∧w'.cell? ⟨gb127,1,none⟩ = some (.int .u64 a0_1)) (ds:=[8]) #[Z,Z,Z,Z,Z,Z,Z,Z,Z] (by kernel_rfl) rfl rfl ⟨(bC BK129.out 0).trans rfl,(bC BK129.out 1).trans rfl,(bC BK127.out 0).trans rfl,(bC BK127.out 1).trans rfl⟩ (fun hHeld => ?_);refine with_tabW vernierref01_Shl.tab8 vernierref01_Shl.bits8 (fun HT_ HW_ => ?_)
            generalize wr.drew = w19 at BK127 BK128 BK129 HB hHeld ⊢
            refine pure_ (i:=1) (N:=some 19) (v:=?_) (a':=?_) #[Z,Y,Z,Z,Z,Z,Z,Z,Z] rfl rfl (any_of HT_.out (by kernel_rfl)) (fun _ _ _ h => h) (Or.inl ⟨by rfl,?_⟩) ?_ ?_
            rotate_left;(intro w';go_simp;with_reducible rfl);rotate_left;(simp only [aP,lT,lZ,lS,i64_w,i32_w];rfl)
            refine pure_ (i:=3) (N:=some 21) (v:=?_) (a':=?_) #[Z,Y,Z,Y,Z,Z,Z,Z,Z] rfl rfl (any_of HT_.out (by kernel_rfl)) (fun _ _ _ h => h) (Or.inl ⟨by rfl,?_⟩) ?_ ?_
            rotate_left;(intro w';go_simp;with_reducible rfl);rotate_left;(simp only [aP,lT,lZ,lS,i64_w,i32_w];rfl)
            refine pure_ (i:=4) (N:=some 22) (v:=?_) (a':=?_) #[Z,Y,Z,Y,Y,Z,Z,Z,Z] rfl rfl (any_of HT_.out (by kernel_rfl)) (fun _ _ _ h => h) (Or.inl ⟨by rfl,?_⟩) ?_ ?_
            rotate_left;(intro w';go_simp;with_reducible rfl);rotate_left;(simp only [aP,lT,lZ,lS,i64_w,i32_w];rfl)
            refine pure_ (i:=5) (N:=some 23) (v:=?_) (a':=?_) #[Z,Y,Z,Y,Y,Y,Z,Z,Z] rfl rfl (any_of HT_.out (by kernel_rfl)) (fun _ _ _ h => h) (Or.inl ⟨by rfl,?_⟩) ?_ ?_
            rotate_left;(intro w';go_simp;with_reducible rfl);rotate_left;(simp only [aP,lT,lZ,lS,i64_w,i32_w];rfl)
            refine take_ (i:=0) (N:=some 18) (v:=?_) (a':=?_) #[Y,Y,Z,Y,Y,Y,Z,Z,Z] rfl rfl (take_ofW HT_.out HW_.out (by kernel_rfl)) (fun _ _ _ h => h) (Or.inl ⟨by rfl,?_⟩) hHeld ?_ ?_
            rotate_left;(rintro w' ⟨s0,s1,s2,s3⟩;go_simp;with_reducible rfl);rotate_left;(simp only [aP,lT,lZ,lS,i64_w,i32_w];rfl)
            refine take_ (i:=2) (N:=some 20) (v:=?_) (a':=?_) #[Y,Y,Y,Y,Y,Y,Z,Z,Z] rfl rfl (take_ofW HT_.out HW_.out (by kernel_rfl)) (fun _ _ _ h => h) (Or.inl ⟨by rfl,?_⟩) hHeld ?_ ?_
            rotate_left;(rintro w' ⟨s0,s1,s2,s3⟩;go_simp;with_reducible rfl);rotate_left;(simp only [aP,lT,lZ,lS,i64_w,i32_w];rfl)
            refine one_ (i:=6) (N:=some 24) #[Y,Y,Y,Y,Y,Y,Y,Z,Z] rfl rfl (one_of HT_.out (by kernel_rfl)) (by decide) (fun K hK => ?_)
            refine goes_ Try.func37 (by kernel_rfl) rfl #[.agg #[.int .u64 a0_0,.int .u64 a0_1],.int .i64 (wrap64 (x6_1 - a1))] (by rfl) rfl rfl (by (try simp only [mT,mC,mN]);first|done|rfl|(simp only [lD,lK];rfl)) ?_
            with_reducible refine (vernierref01_Bit.calls k1 a0_0 a0_1 (wrap64 (x6_1 - a1)) t130 _ A17.out).mono ?_
            rintro e w20 ⟨rfl,hb⟩;refine ⟨_,rfl,?_⟩;have n0_:=A0.mk (bB (g:=gb127) (o:=.cells #[.int .u64 a0_0,.int .u64 a0_1] 28 (0,0)) (by (with_reducible repeat (first|refine bN ?_ _|refine bD ?_|refine bA ?_ _));exact BK127.out) hb);have n1_:=A0.mk (bB (g:=gb128) (o:=.cells #[.int .u64 0,.int .u64 0] 28 (0,0)) (by (with_reducible repeat (first|refine bN ?_ _|refine bD ?_|refine bA ?_ _));exact BK128.out) hb);have n2_:=A0.mk (bB (g:=gb129) (o:=.cells #[.int .u64 x130000_1,.int .u64 x130001_1] 28 (0,0)) (by (with_reducible repeat (first|refine bN ?_ _|refine bD ?_|refine bA ?_ _));exact BK129.out) hb);have n3_:=A0.mk (wT (by repeat (first|(with_reducible first|exact HB.out|apply wA|apply wN|apply wD|refine wS ?_ GE127.out|refine wS ?_ GE128.out|refine wS ?_ GE129.out)|exact HB.out)) hb);clear BK127;clear BK128;clear BK129;clear HB;have BK127:=n0_;have BK128:=n1_;have BK129:=n2_;have HB:=n3_;clear n0_ n1_ n2_ n3_;(try clear hb);(try clear hb2);(try clear hk);(try clear hi)
            refine hK.out _ _ ⟨(bC BK129.out 0).trans rfl,(bC BK129.out 1).trans rfl,(bC BK127.out 0).trans rfl,(bC BK127.out 1).trans rfl⟩ (fun hHeld => ?_)
            clear hK K
            refine norm_ (a':=?_) ?_ ?_
            rotate_left;(show Act.put _ (some 24) _ = _;simp only [aP,lT,lZ,lS,i64_w,i32_w];rfl)
            refine one_ (i:=7) (N:=some 25) #[Y,Y,Y,Y,Y,Y,Y,Y,Z] rfl rfl (one_of HT_.out (by kernel_rfl)) (by decide) (fun K hK => ?_)
            refine goes_ Try.func38 (by kernel_rfl) rfl #[.agg #[.int .u64 x130000_1,.int .u64 x130001_1],.int .i64 x6_1,.int .u64 t130] (by rfl) rfl rfl (by (try simp only [mT,mC,mN]);first|done|rfl|(simp only [lD,lK];rfl)) ?_
            with_reducible refine (vernierref01_With.calls x130000_1 x130001_1 x6_1 t130 t131 t132 _ A18.out).mono ?_
            rintro e w21 ⟨rfl,hb⟩;refine ⟨_,rfl,?_⟩;have n0_:=A0.mk (bB (g:=gb127) (o:=.cells #[.int .u64 a0_0,.int .u64 a0_1] 28 (0,0)) (by (with_reducible repeat (first|refine bN ?_ _|refine bD ?_|refine bA ?_ _));exact BK127.out) hb);have n1_:=A0.mk (bB (g:=gb128) (o:=.cells #[.int .u64 0,.int .u64 0] 28 (0,0)) (by (with_reducible repeat (first|refine bN ?_ _|refine bD ?_|refine bA ?_ _));exact BK128.out) hb);have n2_:=A0.mk (bB (g:=gb129) (o:=.cells #[.int .u64 x130000_1,.int .u64 x130001_1] 28 (0,0)) (by (with_reducible repeat (first|refine bN ?_ _|refine bD ?_|refine bA ?_ _));exact BK129.out) hb);have n3_:=A0.mk (wT (by repeat (first|(with_reducible first|exact HB.out|apply wA|apply wN|apply wD|refine wS ?_ GE127.out|refine wS ?_ GE128.out|refine wS ?_ GE129.out)|exact HB.out)) hb);clear BK127;clear BK128;clear BK129;clear HB;have BK127:=n0_;have BK128:=n1_;have BK129:=n2_;have HB:=n3_;clear n0_ n1_ n2_ n3_;(try clear hb);(try clear hb2);(try clear hk);(try clear hi)
            refine hK.out _ _ ⟨(bC BK129.out 0).trans rfl,(bC BK129.out 1).trans rfl,(bC BK127.out 0).trans rfl,(bC BK127.out 1).trans rfl⟩ (fun hHeld => ?_)
            clear hK K
            refine norm_ (a':=?_) ?_ ?_
            rotate_left;(show Act.put _ (some 25) _ = _;simp only [aP,lT,lZ,lS,i64_w,i32_w];rfl)
            refine last_ (i:=8) (N:=none) #[Y,Y,Y,Y,Y,Y,Y,Y,Y] rfl rfl (one_of HT_.out (by kernel_rfl)) (by decide) (fun K hK => ?_)
            have hs22 : w21.cell? ⟨gb129,0,none⟩ = some (.int .u64 x130000_1):=(bC BK129.out 0).trans rfl
            have hfs22:=bF BK129.out 0
            have hns22_0:=NB127_129.out
            have hns22_1:=NB128_129.out
            have hms22_0:=NB129_127.out
            have hms22_1:=NB129_128.out
            have hs23 : w21.cell? ⟨gb129,1,none⟩ = some (.int .u64 x130001_1):=(bC BK129.out 1).trans rfl
            have hfs23:=bF BK129.out 1
            have hns23_0:=NB127_129.out
            have hns23_1:=NB128_129.out
            have hms23_0:=NB129_127.out
            have hms23_1:=NB129_128.out
            refine skip_ (w1:=?_) (by rfl) rfl ?_ ?_
            rotate_left
            · go_simp
              rfl
            refine hK.out _ _ ?_
            clear hK K
            refine done_ (done_of HT_.out (by kernel_rfl)) ?_
            try go_wp2
            go_roundg k1
            case measure => have:=HK1.out;omega
            case rel => exact ⟨(wrap64 (x6_1 + 1)),(t131),(t132),(by first|rfl|(simp;done)|(simp [*];done)),H',⟨by have:=HK1.out;omega⟩,⟨by (with_reducible repeat (first|refine bN ?_ _|refine bD ?_|refine bA ?_ _));refine bR ?_ NB127_129.out _;(with_reducible repeat (first|refine bN ?_ _|refine bD ?_|refine bA ?_ _));refine bR ?_ NB127_129.out _;(with_reducible repeat (first|refine bN ?_ _|refine bD ?_|refine bA ?_ _));exact BK127.out⟩,⟨by (with_reducible repeat (first|refine bN ?_ _|refine bD ?_|refine bA ?_ _));refine bR ?_ NB128_129.out _;(with_reducible repeat (first|refine bN ?_ _|refine bD ?_|refine bA ?_ _));refine bR ?_ NB128_129.out _;(with_reducible repeat (first|refine bN ?_ _|refine bD ?_|refine bA ?_ _));exact BK128.out⟩,⟨by (with_reducible repeat (first|refine bN ?_ _|refine bD ?_|refine bA ?_ _));refine bP (cs:=#[.int .u64 t131,.int .u64 x130001_1]) ?_ 1 _ rfl;(with_reducible repeat (first|refine bN ?_ _|refine bD ?_|refine bA ?_ _));refine bP (cs:=#[.int .u64 x130000_1,.int .u64 x130001_1]) ?_ 0 _ rfl;(with_reducible repeat (first|refine bN ?_ _|refine bD ?_|refine bA ?_ _));exact BK129.out⟩,⟨by repeat (first|(with_reducible first|exact HB.out|apply wA|apply wN|apply wD|refine wS ?_ GE127.out|refine wS ?_ GE128.out|refine wS ?_ GE129.out)|exact HB.out)⟩⟩
          · rw [if_neg c16] at H
            have c16b0 : decide (a1 ≤ x6_1) = false:=decide_eq_false c16
            clear c16
            have H':=A0.mk H
            clear H
            go_wp2
            go_roundg k1
            case measure => have:=HK1.out;omega
            case rel => exact ⟨(wrap64 (x6_1 + 1)),(x130000_1),(x130001_1),(by first|rfl|(simp;done)|(simp [*];done)),H',⟨by have:=HK1.out;omega⟩,⟨by (with_reducible repeat (first|refine bN ?_ _|refine bD ?_|refine bA ?_ _));exact BK127.out⟩,⟨by (with_reducible repeat (first|refine bN ?_ _|refine bD ?_|refine bA ?_ _));exact BK128.out⟩,⟨by (with_reducible repeat (first|refine bN ?_ _|refine bD ?_|refine bA ?_ _));exact BK129.out⟩,⟨by repeat (first|(with_reducible first|exact HB.out|apply wA|apply wN|apply wD|refine wS ?_ GE127.out|refine wS ?_ GE128.out|refine wS ?_ GE129.out)|exact HB.out)⟩⟩
        · rw [if_neg c15] at H
          have c15b0 : decide (x6_1 < 128) = false:=decide_eq_false c15
          clear c15
          simp only [Option.some.injEq,Prod.mk.injEq] at H
          obtain ⟨rfl,rfl⟩:=H
          have hnb24:=NB129_127.out
          have hnc24:=NB127_129.out
          have hnb25:=NB129_128.out
          have hnc25:=NB128_129.out
          have hcz26_0 : wr.cell? ⟨gb129,0,none⟩ = some (.int .u64 x130000_1):=(bC BK129.out 0).trans rfl
          have hcz26_1 : wr.cell? ⟨gb129,1,none⟩ = some (.int .u64 x130001_1):=(bC BK129.out 1).trans rfl
          have hfz26_0:=bF BK129.out 0
          have hfz26_1:=bF BK129.out 1
          have hnb27:=NB128_127.out
          have hnc27:=NB127_128.out
          have hcz28_0 : wr.cell? ⟨gb128,0,none⟩ = some (.int .u64 0):=(bC BK128.out 0).trans rfl
          have hcz28_1 : wr.cell? ⟨gb128,1,none⟩ = some (.int .u64 0):=(bC BK128.out 1).trans rfl
          have hfz28_0:=bF BK128.out 0
          have hfz28_1:=bF BK128.out 1
          go_wp2
          refine bodyPost_ret (results_cell_row rfl _ _ gb128 28 #[.int .u64 x130000_1,.int .u64 x130001_1] (0,0) _ rfl (by (with_reducible repeat (first|refine bN ?_ _|refine bD ?_|refine bA ?_ _));refine bP (cs:=#[.int .u64 x130000_1,.int .u64 0]) ?_ 1 _ rfl;(with_reducible repeat (first|refine bN ?_ _|refine bD ?_|refine bA ?_ _));refine bP (cs:=#[.int .u64 0,.int .u64 0]) ?_ 0 _ rfl;(with_reducible repeat (first|refine bN ?_ _|refine bD ?_|refine bA ?_ _));exact BK128.out) Try.underlying28 rfl (by kernel_rfl)) rfl ?_
          exact ⟨by first|rfl|(simp [errW_none,errW_some] <;> rfl)|(simp [*,errW_none,errW_some] <;> rfl),by repeat (first|(with_reducible first|exact HB.out|apply wA|apply wN|apply wD|refine wS ?_ GE127.out|refine wS ?_ GE128.out|refine wS ?_ GE129.out)|exact HB.out)⟩

end Go.Proofs.Ytidjigoghdghiaa.V
