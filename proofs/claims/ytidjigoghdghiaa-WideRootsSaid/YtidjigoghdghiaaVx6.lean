/- Contracts of the program's functions, each: where the printed function answers, the call answers the same. Written by vprint.py, this session's own program over the kit's print.py; Lean checks it. No conditions beyond those that each states. -/
import Derived.Test.YtidjigoghdghiaaVx0
import Derived.Test.YtidjigoghdghiaaVx4
namespace Go.Proofs.Ytidjigoghdghiaa.V
open Go.RowKit Go.Proofs.YtidjigoghdghiaaQ.PrintWords Go.Proofs.YtidjigoghdghiaaQ.PrintLast Go.Proofs.YtidjigoghdghiaaQ.PrintMore
open Bool renaming true → Y, false → Z
open List renaming setIfInBounds_toArray → lT, set_cons_zero → lZ, set_cons_succ → lS, map_toArray → mT, map_cons → mC, map_nil → mN, length_drop → lD, length_take → lK
open Act renaming put → aP
attribute [local go_sem] max2_int min2_int max_two min_two max_three min_three max_four min_four   -- for this text's walks alone
set_option linter.unusedVariables false
set_option linter.unusedSimpArgs false

/-! ### vernierref01_With: function 38 -/
def vernierref01_With.f (a0_0 : Int) (a0_1 : Int) (a1 : Int) (a2 : Int) : Option (Int × Int):=if a1 < 64 then (if 0 ≤ (IntKind.u64.wrap (a1)) then (some (a0_0,Go.bits .or .u64 (Go.bits .andNot .u64 a0_1 (shl .u64 1 (IntKind.u64.wrap (a1)))) (shl .u64 a2 (IntKind.u64.wrap (a1))))) else (none)) else (if 0 ≤ (IntKind.u64.wrap (wrap64 (a1 - 64))) then (some (Go.bits .or .u64 (Go.bits .andNot .u64 a0_0 (shl .u64 1 (IntKind.u64.wrap (wrap64 (a1 - 64))))) (shl .u64 a2 (IntKind.u64.wrap (wrap64 (a1 - 64)))),a0_1)) else (none))
set_option maxHeartbeats 8000000 in
set_option maxRecDepth 100000 in
theorem vernierref01_With.calls (a0_0 : Int) (a0_1 : Int) (a1 : Int) (a2 : Int) (r1 : Int) (r2 : Int) (w : World) (h : vernierref01_With.f a0_0 a0_1 a1 a2 = some (r1,r2)) :
    Calls Try.prog 38 #[.agg #[.int .u64 a0_0,.int .u64 a0_1],.int .i64 a1,.int .u64 a2] w fun e w' => e = .returned (.agg #[.int .u64 r1,.int .u64 r2])∧Below w.heap.size w w':=by
  have hu28:=Try.underlying28
  have HB:=A0.mk (Below.refl w.heap.size w)
  have H : (if a1 < 64 then (if 0 ≤ (IntKind.u64.wrap (a1)) then (some (a0_0,Go.bits .or .u64 (Go.bits .andNot .u64 a0_1 (shl .u64 1 (IntKind.u64.wrap (a1)))) (shl .u64 a2 (IntKind.u64.wrap (a1))))) else (none)) else (if 0 ≤ (IntKind.u64.wrap (wrap64 (a1 - 64))) then (some (Go.bits .or .u64 (Go.bits .andNot .u64 a0_0 (shl .u64 1 (IntKind.u64.wrap (wrap64 (a1 - 64))))) (shl .u64 a2 (IntKind.u64.wrap (wrap64 (a1 - 64)))),a0_1)) else (none))) = some (r1,r2):=h
  clear h
  by_cases c4 : a1 < 64
  · rw [if_pos c4] at H
    have c4b0 : decide (a1 < 64) = true:=decide_eq_true c4
    clear c4
    obtain ⟨ji5,hji5⟩ : ∃ j_ : Int,(IntKind.u64.wrap (a1)) = j_:=⟨_,rfl⟩
    replace H : (if 0 ≤ (ji5) then (some (a0_0,Go.bits .or .u64 (Go.bits .andNot .u64 a0_1 (shl .u64 1 (ji5))) (shl .u64 a2 (ji5)))) else (none)) = some (r1,r2):=by first|(rw [hji5] at H;exact H)|(simp only [hji5] at H ⊢;exact H)
    by_cases c6 : 0 ≤ (ji5)
    · rw [if_pos c6] at H
      have c6b0:=eq_true c6
      have c6b1 : decide (0 ≤ (ji5)) = true:=decide_eq_true c6
      clear c6
      obtain ⟨ji7,hji7⟩ : ∃ j_ : Int,(shl .u64 1 (ji5)) = j_:=⟨_,rfl⟩
      replace H : (some (a0_0,Go.bits .or .u64 (Go.bits .andNot .u64 a0_1 (ji7)) (shl .u64 a2 (ji5)))) = some (r1,r2):=by first|(rw [hji7] at H;exact H)|(simp only [hji7] at H ⊢;exact H)
      have hji7_ : (IntKind.u64.wrap (1 * 2 ^ min (ji5).toNat 64)) = ji7:=hji7
      have hji7z : (ji5) ≤ 64→(IntKind.u64.wrap (1 * 2 ^ (ji5).toNat)) = ji7:=shl_small hji7
      have hji7u : (IntKind.u64.wrap (2 ^ min (ji5).toNat 64)) = ji7:=by have h_:=hji7_;rw [Int.one_mul] at h_;exact h_
      have hji7v : (ji5) ≤ 64→(IntKind.u64.wrap (2 ^ (ji5).toNat)) = ji7:=fun hle_ => by have h_:=hji7z hle_;rw [Int.one_mul] at h_;exact h_
      have c8b0:=eq_true (of_decide_eq_true (by first|(with_reducible assumption)|assumption) : 0 ≤ (ji5))
      obtain ⟨ji9,hji9⟩ : ∃ j_ : Int,(shl .u64 a2 (ji5)) = j_:=⟨_,rfl⟩
      replace H : (some (a0_0,Go.bits .or .u64 (Go.bits .andNot .u64 a0_1 (ji7)) (ji9))) = some (r1,r2):=by first|(rw [hji9] at H;exact H)|(simp only [hji9] at H ⊢;exact H)
      have hji9_ : (IntKind.u64.wrap (a2 * 2 ^ min (ji5).toNat 64)) = ji9:=hji9
      have hji9z : (ji5) ≤ 64→(IntKind.u64.wrap (a2 * 2 ^ (ji5).toNat)) = ji9:=shl_small hji9
      simp only [Option.some.injEq,Prod.mk.injEq] at H
      obtain ⟨rfl,rfl⟩:=H
      go_enter Try.func38,Try.ntmps38
      go_wp2_with (first|((with_reducible refine gD (N:=3) rfl ?_);refine bE ?hg (N:=3) ?hd (cs:=#[.int .u64 a0_0,.int .u64 a0_1]) (t:=28) ?hr ?_;(case hd => rfl);(case hg => rfl);(case hr => first|(go_simp;done)|(go_simp;rfl));intro gb117 hg w10 hbox hb;have n0_:=A0.mk (wT (by repeat (first|(with_reducible first|exact HB.out|apply wA|apply wN|apply wD)|exact HB.out)) hb);have n1_:=A0.mk (hbox);have n2_:=A0.mk ((by rw [hg];exact (wZ (by repeat (first|(with_reducible first|exact HB.out|apply wA|apply wN|apply wD)|exact HB.out))) : w.heap.size ≤ gb117));have n3_:=A0.mk ((by rw [hg];exact (wZ (by repeat (first|(with_reducible first|exact HB.out|apply wA|apply wN|apply wD)|exact HB.out))) : w.heap.size ≤ gb117));clear HB;have HB:=n0_;have BK117:=n1_;have GW117:=n2_;have GE117:=n3_;clear n0_ n1_ n2_ n3_;clear hb hbox hg)|((with_reducible refine gD (N:=6) rfl ?_);refine bE ?hg (N:=6) ?hd (cs:=#[.int .u64 0,.int .u64 0]) (t:=28) ?hr ?_;(case hd => rfl);(case hg => rfl);(case hr => first|(go_simp;done)|(go_simp;rfl));intro gb118 hg w11 hbox hb;have n0_:=A0.mk (bB (g:=gb117) (o:=.cells #[.int .u64 a0_0,.int .u64 a0_1] 28 (0,0)) (by (with_reducible repeat (first|refine bN ?_ _|refine bD ?_|refine bA ?_ _));exact BK117.out) hb);have n1_:=A0.mk (wT (by repeat (first|(with_reducible first|exact HB.out|apply wA|apply wN|apply wD|refine wS ?_ GE117.out)|exact HB.out)) hb);have n2_:=A0.mk (hbox);have n3_:=A0.mk ((by rw [hg];exact (wZ (by repeat (first|(with_reducible first|exact HB.out|apply wA|apply wN|apply wD|refine wS ?_ GE117.out)|exact HB.out))) : w.heap.size ≤ gb118));have n4_:=A0.mk ((by rw [hg];exact (wZ (by repeat (first|(with_reducible first|exact HB.out|apply wA|apply wN|apply wD|refine wS ?_ GE117.out)|exact HB.out))) : w.heap.size ≤ gb118));have n5_:=A0.mk ((by rw [hg];exact Nat.ne_of_lt (blk_lt (g:=gb117) (o:=.cells #[.int .u64 a0_0,.int .u64 a0_1] 28 (0,0)) (by (with_reducible repeat (first|refine bN ?_ _|refine bD ?_|refine bA ?_ _));exact BK117.out)) : gb117 ≠ gb118));have n6_:=A0.mk ((by rw [hg];exact Nat.ne_of_gt (blk_lt (g:=gb117) (o:=.cells #[.int .u64 a0_0,.int .u64 a0_1] 28 (0,0)) (by (with_reducible repeat (first|refine bN ?_ _|refine bD ?_|refine bA ?_ _));exact BK117.out)) : gb118 ≠ gb117));clear BK117;clear HB;have BK117:=n0_;have HB:=n1_;have BK118:=n2_;have GW118:=n3_;have GE118:=n4_;have NB117_118:=n5_;have NB118_117:=n6_;clear n0_ n1_ n2_ n3_ n4_ n5_ n6_;clear hb hbox hg;have hnb12:=NB117_118.out;have hnc12:=NB118_117.out;have hcz13_0 : w11.cell? ⟨gb117,0,none⟩ = some (.int .u64 a0_0):=(bC BK117.out 0).trans rfl;have hcz13_1 : w11.cell? ⟨gb117,1,none⟩ = some (.int .u64 a0_1):=(bC BK117.out 1).trans rfl;have hfz13_0:=bF BK117.out 0;have hfz13_1:=bF BK117.out 1;have hcz14_0 : w11.cell? ⟨gb118,0,none⟩ = some (.int .u64 0):=(bC BK118.out 0).trans rfl;have hcz14_1 : w11.cell? ⟨gb118,1,none⟩ = some (.int .u64 0):=(bC BK118.out 1).trans rfl;have hfz14_0:=bF BK118.out 0;have hfz14_1:=bF BK118.out 1))
      refine bodyPost_ret (results_cell_row rfl _ _ gb118 28 #[.int .u64 a0_0,.int .u64 (Go.bits .or .u64 (Go.bits .andNot .u64 a0_1 (ji7)) (ji9))] (0,0) _ rfl (by (with_reducible repeat (first|refine bN ?_ _|refine bD ?_|refine bA ?_ _));refine bP (cs:=#[.int .u64 a0_0,.int .u64 0]) ?_ 1 _ rfl;(with_reducible repeat (first|refine bN ?_ _|refine bD ?_|refine bA ?_ _));refine bP (cs:=#[.int .u64 0,.int .u64 0]) ?_ 0 _ rfl;(with_reducible repeat (first|refine bN ?_ _|refine bD ?_|refine bA ?_ _));refine bR ?_ NB118_117.out _;(with_reducible repeat (first|refine bN ?_ _|refine bD ?_|refine bA ?_ _));exact BK118.out) Try.underlying28 rfl (by kernel_rfl)) rfl ?_
      exact ⟨by first|rfl|(simp [errW_none,errW_some] <;> rfl)|(simp only [← hji5,← hji7,← hji9];first|rfl|(simp [errW_none,errW_some] <;> rfl))|(simp [*,errW_none,errW_some] <;> rfl),by repeat (first|(with_reducible first|exact HB.out|apply wA|apply wN|apply wD|refine wS ?_ GE117.out|refine wS ?_ GE118.out)|exact HB.out)⟩
    · rw [if_neg c6] at H
      exact absurd H (by simp)
  · rw [if_neg c4] at H
    have c4b0 : decide (a1 < 64) = false:=decide_eq_false c4
    clear c4
    obtain ⟨ji15,hji15⟩ : ∃ j_ : Int,(IntKind.u64.wrap (wrap64 (a1 - 64))) = j_:=⟨_,rfl⟩
    replace H : (if 0 ≤ (ji15) then (some (Go.bits .or .u64 (Go.bits .andNot .u64 a0_0 (shl .u64 1 (ji15))) (shl .u64 a2 (ji15)),a0_1)) else (none)) = some (r1,r2):=by first|(rw [hji15] at H;exact H)|(simp only [hji15] at H ⊢;exact H)
    by_cases c16 : 0 ≤ (ji15)
    · rw [if_pos c16] at H
      have c16b0:=eq_true c16
      have c16b1 : decide (0 ≤ (ji15)) = true:=decide_eq_true c16
      clear c16
      obtain ⟨ji17,hji17⟩ : ∃ j_ : Int,(shl .u64 1 (ji15)) = j_:=⟨_,rfl⟩
      replace H : (some (Go.bits .or .u64 (Go.bits .andNot .u64 a0_0 (ji17)) (shl .u64 a2 (ji15)),a0_1)) = some (r1,r2):=by first|(rw [hji17] at H;exact H)|(simp only [hji17] at H ⊢;exact H)
      have hji17_ : (IntKind.u64.wrap (1 * 2 ^ min (ji15).toNat 64)) = ji17:=hji17
      have hji17z : (ji15) ≤ 64→(IntKind.u64.wrap (1 * 2 ^ (ji15).toNat)) = ji17:=shl_small hji17
      have hji17u : (IntKind.u64.wrap (2 ^ min (ji15).toNat 64)) = ji17:=by have h_:=hji17_;rw [Int.one_mul] at h_;exact h_
      have hji17v : (ji15) ≤ 64→(IntKind.u64.wrap (2 ^ (ji15).toNat)) = ji17:=fun hle_ => by have h_:=hji17z hle_;rw [Int.one_mul] at h_;exact h_
      have c18b0:=eq_true (of_decide_eq_true (by first|(with_reducible assumption)|assumption) : 0 ≤ (ji15))
      obtain ⟨ji19,hji19⟩ : ∃ j_ : Int,(shl .u64 a2 (ji15)) = j_:=⟨_,rfl⟩
      replace H : (some (Go.bits .or .u64 (Go.bits .andNot .u64 a0_0 (ji17)) (ji19),a0_1)) = some (r1,r2):=by first|(rw [hji19] at H;exact H)|(simp only [hji19] at H ⊢;exact H)
      have hji19_ : (IntKind.u64.wrap (a2 * 2 ^ min (ji15).toNat 64)) = ji19:=hji19
      have hji19z : (ji15) ≤ 64→(IntKind.u64.wrap (a2 * 2 ^ (ji15).toNat)) = ji19:=shl_small hji19
      simp only [Option.some.injEq,Prod.mk.injEq] at H
      obtain ⟨rfl,rfl⟩:=H
      go_enter Try.func38,Try.ntmps38
      go_wp2_with (first|((with_reducible refine gD (N:=3) rfl ?_);refine bE ?hg (N:=3) ?hd (cs:=#[.int .u64 a0_0,.int .u64 a0_1]) (t:=28) ?hr ?_;(case hd => rfl);(case hg => rfl);(case hr => first|(go_simp;done)|(go_simp;rfl));intro gb117 hg w20 hbox hb;have n0_:=A0.mk (wT (by repeat (first|(with_reducible first|exact HB.out|apply wA|apply wN|apply wD)|exact HB.out)) hb);have n1_:=A0.mk (hbox);have n2_:=A0.mk ((by rw [hg];exact (wZ (by repeat (first|(with_reducible first|exact HB.out|apply wA|apply wN|apply wD)|exact HB.out))) : w.heap.size ≤ gb117));have n3_:=A0.mk ((by rw [hg];exact (wZ (by repeat (first|(with_reducible first|exact HB.out|apply wA|apply wN|apply wD)|exact HB.out))) : w.heap.size ≤ gb117));clear HB;have HB:=n0_;have BK117:=n1_;have GW117:=n2_;have GE117:=n3_;clear n0_ n1_ n2_ n3_;clear hb hbox hg)|((with_reducible refine gD (N:=6) rfl ?_);refine bE ?hg (N:=6) ?hd (cs:=#[.int .u64 0,.int .u64 0]) (t:=28) ?hr ?_;(case hd => rfl);(case hg => rfl);(case hr => first|(go_simp;done)|(go_simp;rfl));intro gb118 hg w21 hbox hb;have n0_:=A0.mk (bB (g:=gb117) (o:=.cells #[.int .u64 a0_0,.int .u64 a0_1] 28 (0,0)) (by (with_reducible repeat (first|refine bN ?_ _|refine bD ?_|refine bA ?_ _));exact BK117.out) hb);have n1_:=A0.mk (wT (by repeat (first|(with_reducible first|exact HB.out|apply wA|apply wN|apply wD|refine wS ?_ GE117.out)|exact HB.out)) hb);have n2_:=A0.mk (hbox);have n3_:=A0.mk ((by rw [hg];exact (wZ (by repeat (first|(with_reducible first|exact HB.out|apply wA|apply wN|apply wD|refine wS ?_ GE117.out)|exact HB.out))) : w.heap.size ≤ gb118));have n4_:=A0.mk ((by rw [hg];exact (wZ (by repeat (first|(with_reducible first|exact HB.out|apply wA|apply wN|apply wD|refine wS ?_ GE117.out)|exact HB.out))) : w.heap.size ≤ gb118));have n5_:=A0.mk ((by rw [hg];exact Nat.ne_of_lt (blk_lt (g:=gb117) (o:=.cells #[.int .u64 a0_0,.int .u64 a0_1] 28 (0,0)) (by (with_reducible repeat (first|refine bN ?_ _|refine bD ?_|refine bA ?_ _));exact BK117.out)) : gb117 ≠ gb118));have n6_:=A0.mk ((by rw [hg];exact Nat.ne_of_gt (blk_lt (g:=gb117) (o:=.cells #[.int .u64 a0_0,.int .u64 a0_1] 28 (0,0)) (by (with_reducible repeat (first|refine bN ?_ _|refine bD ?_|refine bA ?_ _));exact BK117.out)) : gb118 ≠ gb117));clear BK117;clear HB;have BK117:=n0_;have HB:=n1_;have BK118:=n2_;have GW118:=n3_;have GE118:=n4_;have NB117_118:=n5_;have NB118_117:=n6_;clear n0_ n1_ n2_ n3_ n4_ n5_ n6_;clear hb hbox hg;have hnb22:=NB117_118.out;have hnc22:=NB118_117.out;have hcz23_0 : w21.cell? ⟨gb117,0,none⟩ = some (.int .u64 a0_0):=(bC BK117.out 0).trans rfl;have hcz23_1 : w21.cell? ⟨gb117,1,none⟩ = some (.int .u64 a0_1):=(bC BK117.out 1).trans rfl;have hfz23_0:=bF BK117.out 0;have hfz23_1:=bF BK117.out 1;have hcz24_0 : w21.cell? ⟨gb118,0,none⟩ = some (.int .u64 0):=(bC BK118.out 0).trans rfl;have hcz24_1 : w21.cell? ⟨gb118,1,none⟩ = some (.int .u64 0):=(bC BK118.out 1).trans rfl;have hfz24_0:=bF BK118.out 0;have hfz24_1:=bF BK118.out 1))
      refine bodyPost_ret (results_cell_row rfl _ _ gb118 28 #[.int .u64 (Go.bits .or .u64 (Go.bits .andNot .u64 a0_0 (ji17)) (ji19)),.int .u64 a0_1] (0,0) _ rfl (by (with_reducible repeat (first|refine bN ?_ _|refine bD ?_|refine bA ?_ _));refine bP (cs:=#[.int .u64 (Go.bits .or .u64 (Go.bits .andNot .u64 a0_0 (ji17)) (ji19)),.int .u64 0]) ?_ 1 _ rfl;(with_reducible repeat (first|refine bN ?_ _|refine bD ?_|refine bA ?_ _));refine bP (cs:=#[.int .u64 0,.int .u64 0]) ?_ 0 _ rfl;(with_reducible repeat (first|refine bN ?_ _|refine bD ?_|refine bA ?_ _));refine bR ?_ NB118_117.out _;(with_reducible repeat (first|refine bN ?_ _|refine bD ?_|refine bA ?_ _));exact BK118.out) Try.underlying28 rfl (by kernel_rfl)) rfl ?_
      exact ⟨by first|rfl|(simp [errW_none,errW_some] <;> rfl)|(simp only [← hji15,← hji17,← hji19];first|rfl|(simp [errW_none,errW_some] <;> rfl))|(simp [*,errW_none,errW_some] <;> rfl),by repeat (first|(with_reducible first|exact HB.out|apply wA|apply wN|apply wD|refine wS ?_ GE117.out|refine wS ?_ GE118.out)|exact HB.out)⟩
    · rw [if_neg c16] at H
      exact absurd H (by simp)

/-! ### vernierref01_Add: function 18 -/
def vernierref01_Add.l0 : Nat→Int→Int→Int→Int→Int→Int→Int→Int→Option (Int × Int × Int)
  | 0,_,_,_,_,_,_,_,_ => none
  | k + 1,x7,x8,x120000,x120001,x121000,x121001,x123000,x123001 => if x8 < 128 then ((vernierref01_Bit.f k x120000 x120001 x8).bind fun t123 => ((vernierref01_Bit.f k x121000 x121001 x8).bind fun t124 => ((vernierref01_With.f x123000 x123001 x8 (Int.tmod (IntKind.u64.wrap ((IntKind.u64.wrap (t123 + t124)) + x7)) 2)).bind fun bt125 => (vernierref01_Add.l0 k (IntKind.u64.wrap (Int.tdiv (IntKind.u64.wrap ((IntKind.u64.wrap (t123 + t124)) + x7)) 2)) (wrap64 (x8 + 1)) x120000 x120001 x121000 x121001 bt125.1 bt125.2)))) else (some (x123000,x123001,x7))
def vernierref01_Add.f (k : Nat) (a0_0 : Int) (a0_1 : Int) (a1_0 : Int) (a1_1 : Int) : Option (Int × Int × Int):=vernierref01_Add.l0 k 0 0 a0_0 a0_1 a1_0 a1_1 0 0
theorem vernierref01_Add.mono_l : ∀ k,(∀ y0 y1 y2 y3 y4 y5 y6 y7,LeO (vernierref01_Add.l0 k y0 y1 y2 y3 y4 y5 y6 y7) (vernierref01_Add.l0 (k + 1) y0 y1 y2 y3 y4 y5 y6 y7))
  | 0 => fun _ _ _ _ _ _ _ _ r h => by simp [vernierref01_Add.l0] at h
  | k + 1 => by
    have ih0:=vernierref01_Add.mono_l k
    · intro y0 y1 y2 y3 y4 y5 y6 y7
      unfold vernierref01_Add.l0
      repeat' first
      | (with_reducible exact ih0 _ _ _ _ _ _ _ _)
      | (with_reducible exact vernierref01_Bit.mono _ _ _ _)
      | (with_reducible exact LeO.refl _)
      | (with_reducible exact LeO.none _)
      | (with_reducible refine LeO.ite ?_ ?_)
      | (with_reducible refine LeO.bind ?_ (fun _ => ?_))
      | exact ih0 _ _ _ _ _ _ _ _
      | exact vernierref01_Bit.mono _ _ _ _
      | exact LeO.none _
      | refine LeO.ite ?_ ?_
      | refine LeO.bind ?_ (fun _ => ?_)
theorem vernierref01_Add.mono : ∀ a0 a1 a2 a3 k,LeO (vernierref01_Add.f k a0 a1 a2 a3) (vernierref01_Add.f (k + 1) a0 a1 a2 a3):=by
  intro a0 a1 a2 a3 k
  have ih0:=vernierref01_Add.mono_l k
  unfold vernierref01_Add.f
  repeat' first
      | (with_reducible exact ih0 _ _ _ _ _ _ _ _)
      | (with_reducible exact vernierref01_Bit.mono _ _ _ _)
      | (with_reducible exact LeO.refl _)
      | (with_reducible exact LeO.none _)
      | (with_reducible refine LeO.ite ?_ ?_)
      | (with_reducible refine LeO.bind ?_ (fun _ => ?_))
      | exact ih0 _ _ _ _ _ _ _ _
      | exact vernierref01_Bit.mono _ _ _ _
      | exact LeO.none _
      | refine LeO.ite ?_ ?_
      | refine LeO.bind ?_ (fun _ => ?_)
def vernierref01_Add.T6 : Bool × List (List Nat × List Nat):=(true,[([],[]),([],[]),([0,1],[0,1]),([],[]),([],[]),([3,4,2],[3,4]),([2,5],[2,5]),([],[]),([6,7],[6,7]),([8,5,0,1,2,3,4,5,6,7,8],[8])])
def vernierref01_Add.B6 : List Nat:=[0,0,3,0,0,31,63,0,255,511]
theorem vernierref01_Add.tab6 : rtab .any (opsOf Try.f18 6) = vernierref01_Add.T6:=by kernel_rfl
theorem vernierref01_Add.bits6 : waitsOk vernierref01_Add.T6.2 vernierref01_Add.B6 = true:=by kernel_rfl
set_option maxHeartbeats 8000000 in
set_option maxRecDepth 100000 in
theorem vernierref01_Add.calls (k : Nat) (a0_0 : Int) (a0_1 : Int) (a1_0 : Int) (a1_1 : Int) (r1 : Int) (r2 : Int) (r3 : Int) (w : World) (h : vernierref01_Add.f k a0_0 a0_1 a1_0 a1_1 = some (r1,r2,r3)) :
    Calls Try.prog 18 #[.agg #[.int .u64 a0_0,.int .u64 a0_1],.agg #[.int .u64 a1_0,.int .u64 a1_1]] w fun e w' => e = .returned (.tuple #[.agg #[.int .u64 r1,.int .u64 r2],.int .u64 r3])∧Below w.heap.size w w':=by
  have hu28:=Try.underlying28
  have HB:=A0.mk (Below.refl w.heap.size w)
  have H : (vernierref01_Add.l0 k 0 0 a0_0 a0_1 a1_0 a1_1 0 0) = some (r1,r2,r3):=h
  clear h
  have H':=A0.mk H
  clear H
  go_enter Try.func18,Try.ntmps18
  go_wp2_with (first|((with_reducible refine gD (N:=2) rfl ?_);refine bE ?hg (N:=2) ?hd (cs:=#[.int .u64 a0_0,.int .u64 a0_1]) (t:=28) ?hr ?_;(case hd => rfl);(case hg => rfl);(case hr => first|(go_simp;done)|(go_simp;rfl));intro gb119 hg w3 hbox hb;have n0_:=A0.mk (wT (by repeat (first|(with_reducible first|exact HB.out|apply wA|apply wN|apply wD)|exact HB.out)) hb);have n1_:=A0.mk (hbox);have n2_:=A0.mk ((by rw [hg];exact (wZ (by repeat (first|(with_reducible first|exact HB.out|apply wA|apply wN|apply wD)|exact HB.out))) : w.heap.size ≤ gb119));have n3_:=A0.mk ((by rw [hg];exact (wZ (by repeat (first|(with_reducible first|exact HB.out|apply wA|apply wN|apply wD)|exact HB.out))) : w.heap.size ≤ gb119));clear HB;have HB:=n0_;have BK119:=n1_;have GW119:=n2_;have GE119:=n3_;clear n0_ n1_ n2_ n3_;clear hb hbox hg)|((with_reducible refine gD (N:=3) rfl ?_);refine bE ?hg (N:=3) ?hd (cs:=#[.int .u64 a1_0,.int .u64 a1_1]) (t:=28) ?hr ?_;(case hd => rfl);(case hg => rfl);(case hr => first|(go_simp;done)|(go_simp;rfl));intro gb120 hg w4 hbox hb;have n0_:=A0.mk (bB (g:=gb119) (o:=.cells #[.int .u64 a0_0,.int .u64 a0_1] 28 (0,0)) (by (with_reducible repeat (first|refine bN ?_ _|refine bD ?_|refine bA ?_ _));exact BK119.out) hb);have n1_:=A0.mk (wT (by repeat (first|(with_reducible first|exact HB.out|apply wA|apply wN|apply wD|refine wS ?_ GE119.out)|exact HB.out)) hb);have n2_:=A0.mk (hbox);have n3_:=A0.mk ((by rw [hg];exact (wZ (by repeat (first|(with_reducible first|exact HB.out|apply wA|apply wN|apply wD|refine wS ?_ GE119.out)|exact HB.out))) : w.heap.size ≤ gb120));have n4_:=A0.mk ((by rw [hg];exact (wZ (by repeat (first|(with_reducible first|exact HB.out|apply wA|apply wN|apply wD|refine wS ?_ GE119.out)|exact HB.out))) : w.heap.size ≤ gb120));have n5_:=A0.mk ((by rw [hg];exact Nat.ne_of_lt (blk_lt (g:=gb119) (o:=.cells #[.int .u64 a0_0,.int .u64 a0_1] 28 (0,0)) (by (with_reducible repeat (first|refine bN ?_ _|refine bD ?_|refine bA ?_ _));exact BK119.out)) : gb119 ≠ gb120));have n6_:=A0.mk ((by rw [hg];exact Nat.ne_of_gt (blk_lt (g:=gb119) (o:=.cells #[.int .u64 a0_0,.int .u64 a0_1] 28 (0,0)) (by (with_reducible repeat (first|refine bN ?_ _|refine bD ?_|refine bA ?_ _));exact BK119.out)) : gb120 ≠ gb119));clear BK119;clear HB;have BK119:=n0_;have HB:=n1_;have BK120:=n2_;have GW120:=n3_;have GE120:=n4_;have NB119_120:=n5_;have NB120_119:=n6_;clear n0_ n1_ n2_ n3_ n4_ n5_ n6_;clear hb hbox hg)|((with_reducible refine gD (N:=4) rfl ?_);refine bE ?hg (N:=4) ?hd (cs:=#[.int .u64 0,.int .u64 0]) (t:=28) ?hr ?_;(case hd => rfl);(case hg => rfl);(case hr => first|(go_simp;done)|(go_simp;rfl));intro gb121 hg w5 hbox hb;have n0_:=A0.mk (bB (g:=gb119) (o:=.cells #[.int .u64 a0_0,.int .u64 a0_1] 28 (0,0)) (by (with_reducible repeat (first|refine bN ?_ _|refine bD ?_|refine bA ?_ _));exact BK119.out) hb);have n1_:=A0.mk (bB (g:=gb120) (o:=.cells #[.int .u64 a1_0,.int .u64 a1_1] 28 (0,0)) (by (with_reducible repeat (first|refine bN ?_ _|refine bD ?_|refine bA ?_ _));exact BK120.out) hb);have n2_:=A0.mk (wT (by repeat (first|(with_reducible first|exact HB.out|apply wA|apply wN|apply wD|refine wS ?_ GE119.out|refine wS ?_ GE120.out)|exact HB.out)) hb);have n3_:=A0.mk (hbox);have n4_:=A0.mk ((by rw [hg];exact (wZ (by repeat (first|(with_reducible first|exact HB.out|apply wA|apply wN|apply wD|refine wS ?_ GE119.out|refine wS ?_ GE120.out)|exact HB.out))) : w.heap.size ≤ gb121));have n5_:=A0.mk ((by rw [hg];exact (wZ (by repeat (first|(with_reducible first|exact HB.out|apply wA|apply wN|apply wD|refine wS ?_ GE119.out|refine wS ?_ GE120.out)|exact HB.out))) : w.heap.size ≤ gb121));have n6_:=A0.mk ((by rw [hg];exact Nat.ne_of_lt (blk_lt (g:=gb119) (o:=.cells #[.int .u64 a0_0,.int .u64 a0_1] 28 (0,0)) (by (with_reducible repeat (first|refine bN ?_ _|refine bD ?_|refine bA ?_ _));exact BK119.out)) : gb119 ≠ gb121));have n7_:=A0.mk ((by rw [hg];exact Nat.ne_of_gt (blk_lt (g:=gb119) (o:=.cells #[.int .u64 a0_0,.int .u64 a0_1] 28 (0,0)) (by (with_reducible repeat (first|refine bN ?_ _|refine bD ?_|refine bA ?_ _));exact BK119.out)) : gb121 ≠ gb119));have n8_:=A0.mk ((by rw [hg];exact Nat.ne_of_lt (blk_lt (g:=gb120) (o:=.cells #[.int .u64 a1_0,.int .u64 a1_1] 28 (0,0)) (by (with_reducible repeat (first|refine bN ?_ _|refine bD ?_|refine bA ?_ _));exact BK120.out)) : gb120 ≠ gb121));have n9_:=A0.mk ((by rw [hg];exact Nat.ne_of_gt (blk_lt (g:=gb120) (o:=.cells #[.int .u64 a1_0,.int .u64 a1_1] 28 (0,0)) (by (with_reducible repeat (first|refine bN ?_ _|refine bD ?_|refine bA ?_ _));exact BK120.out)) : gb121 ≠ gb120));clear BK119;clear BK120;clear HB;have BK119:=n0_;have BK120:=n1_;have HB:=n2_;have BK121:=n3_;have GW121:=n4_;have GE121:=n5_;have NB119_121:=n6_;have NB121_119:=n7_;have NB120_121:=n8_;have NB121_120:=n9_;clear n0_ n1_ n2_ n3_ n4_ n5_ n6_ n7_ n8_ n9_;clear hb hbox hg)|((with_reducible refine gD (N:=6) rfl ?_);refine bE ?hg (N:=6) ?hd (cs:=#[.int .u64 0,.int .u64 0]) (t:=28) ?hr ?_;(case hd => rfl);(case hg => rfl);(case hr => first|(go_simp;done)|(go_simp;rfl));intro gb122 hg w6 hbox hb;have n0_:=A0.mk (bB (g:=gb119) (o:=.cells #[.int .u64 a0_0,.int .u64 a0_1] 28 (0,0)) (by (with_reducible repeat (first|refine bN ?_ _|refine bD ?_|refine bA ?_ _));exact BK119.out) hb);have n1_:=A0.mk (bB (g:=gb120) (o:=.cells #[.int .u64 a1_0,.int .u64 a1_1] 28 (0,0)) (by (with_reducible repeat (first|refine bN ?_ _|refine bD ?_|refine bA ?_ _));exact BK120.out) hb);have n2_:=A0.mk (bB (g:=gb121) (o:=.cells #[.int .u64 0,.int .u64 0] 28 (0,0)) (by (with_reducible repeat (first|refine bN ?_ _|refine bD ?_|refine bA ?_ _));exact BK121.out) hb);have n3_:=A0.mk (wT (by repeat (first|(with_reducible first|exact HB.out|apply wA|apply wN|apply wD|refine wS ?_ GE119.out|refine wS ?_ GE120.out|refine wS ?_ GE121.out)|exact HB.out)) hb);have n4_:=A0.mk (hbox);have n5_:=A0.mk ((by rw [hg];exact (wZ (by repeat (first|(with_reducible first|exact HB.out|apply wA|apply wN|apply wD|refine wS ?_ GE119.out|refine wS ?_ GE120.out|refine wS ?_ GE121.out)|exact HB.out))) : w.heap.size ≤ gb122));have n6_:=A0.mk ((by rw [hg];exact (wZ (by repeat (first|(with_reducible first|exact HB.out|apply wA|apply wN|apply wD|refine wS ?_ GE119.out|refine wS ?_ GE120.out|refine wS ?_ GE121.out)|exact HB.out))) : w.heap.size ≤ gb122));have n7_:=A0.mk ((by rw [hg];exact Nat.ne_of_lt (blk_lt (g:=gb119) (o:=.cells #[.int .u64 a0_0,.int .u64 a0_1] 28 (0,0)) (by (with_reducible repeat (first|refine bN ?_ _|refine bD ?_|refine bA ?_ _));exact BK119.out)) : gb119 ≠ gb122));have n8_:=A0.mk ((by rw [hg];exact Nat.ne_of_gt (blk_lt (g:=gb119) (o:=.cells #[.int .u64 a0_0,.int .u64 a0_1] 28 (0,0)) (by (with_reducible repeat (first|refine bN ?_ _|refine bD ?_|refine bA ?_ _));exact BK119.out)) : gb122 ≠ gb119));have n9_:=A0.mk ((by rw [hg];exact Nat.ne_of_lt (blk_lt (g:=gb120) (o:=.cells #[.int .u64 a1_0,.int .u64 a1_1] 28 (0,0)) (by (with_reducible repeat (first|refine bN ?_ _|refine bD ?_|refine bA ?_ _));exact BK120.out)) : gb120 ≠ gb122));have n10_:=A0.mk ((by rw [hg];exact Nat.ne_of_gt (blk_lt (g:=gb120) (o:=.cells #[.int .u64 a1_0,.int .u64 a1_1] 28 (0,0)) (by (with_reducible repeat (first|refine bN ?_ _|refine bD ?_|refine bA ?_ _));exact BK120.out)) : gb122 ≠ gb120));have n11_:=A0.mk ((by rw [hg];exact Nat.ne_of_lt (blk_lt (g:=gb121) (o:=.cells #[.int .u64 0,.int .u64 0] 28 (0,0)) (by (with_reducible repeat (first|refine bN ?_ _|refine bD ?_|refine bA ?_ _));exact BK121.out)) : gb121 ≠ gb122));have n12_:=A0.mk ((by rw [hg];exact Nat.ne_of_gt (blk_lt (g:=gb121) (o:=.cells #[.int .u64 0,.int .u64 0] 28 (0,0)) (by (with_reducible repeat (first|refine bN ?_ _|refine bD ?_|refine bA ?_ _));exact BK121.out)) : gb122 ≠ gb121));clear BK119;clear BK120;clear BK121;clear HB;have BK119:=n0_;have BK120:=n1_;have BK121:=n2_;have HB:=n3_;have BK122:=n4_;have GW122:=n5_;have GE122:=n6_;have NB119_122:=n7_;have NB122_119:=n8_;have NB120_122:=n9_;have NB122_120:=n10_;have NB121_122:=n11_;have NB122_121:=n12_;clear n0_ n1_ n2_ n3_ n4_ n5_ n6_ n7_ n8_ n9_ n10_ n11_ n12_;clear hb hbox hg;have hnb7:=NB122_119.out;have hnc7:=NB119_122.out;have hnb8:=NB122_120.out;have hnc8:=NB120_122.out;have hnb9:=NB122_121.out;have hnc9:=NB121_122.out;have hcz10_0 : w6.cell? ⟨gb122,0,none⟩ = some (.int .u64 0):=(bC BK122.out 0).trans rfl;have hcz10_1 : w6.cell? ⟨gb122,1,none⟩ = some (.int .u64 0):=(bC BK122.out 1).trans rfl;have hfz10_0:=bF BK122.out 0;have hfz10_1:=bF BK122.out 1))
  go_loopg [7,8] k (fun kq v7 v8 w' => ∃ (x7_1 : Int) (x8_1 : Int) (x123000_1 : Int) (x123001_1 : Int),v7 = .int .u64 x7_1∧v8 = .int .i64 x8_1∧A0 (vernierref01_Add.l0 kq x7_1 x8_1 a0_0 a0_1 a1_0 a1_1 x123000_1 x123001_1 = some (r1,r2,r3))∧A0 (kq ≤ k)∧A0 (w'.heap[gb119]? = some (.cells #[.int .u64 a0_0,.int .u64 a0_1] 28 (0,0)))∧A0 (w'.heap[gb120]? = some (.cells #[.int .u64 a1_0,.int .u64 a1_1] 28 (0,0)))∧A0 (w'.heap[gb121]? = some (.cells #[.int .u64 0,.int .u64 0] 28 (0,0)))∧A0 (w'.heap[gb122]? = some (.cells #[.int .u64 x123000_1,.int .u64 x123001_1] 28 (0,0)))∧A0 (Below w.heap.size w w'))
  case atStart => exact ⟨(0),(0),(0),(0),(by first|rfl|(simp;done)|(simp [*];done)),(by first|rfl|(simp;done)|(simp [*];done)),H',⟨Nat.le_refl _⟩,⟨by (with_reducible repeat (first|refine bN ?_ _|refine bD ?_|refine bA ?_ _));refine bR ?_ NB119_122.out _;(with_reducible repeat (first|refine bN ?_ _|refine bD ?_|refine bA ?_ _));refine bR ?_ NB119_122.out _;(with_reducible repeat (first|refine bN ?_ _|refine bD ?_|refine bA ?_ _));exact BK119.out⟩,⟨by (with_reducible repeat (first|refine bN ?_ _|refine bD ?_|refine bA ?_ _));refine bR ?_ NB120_122.out _;(with_reducible repeat (first|refine bN ?_ _|refine bD ?_|refine bA ?_ _));refine bR ?_ NB120_122.out _;(with_reducible repeat (first|refine bN ?_ _|refine bD ?_|refine bA ?_ _));exact BK120.out⟩,⟨by (with_reducible repeat (first|refine bN ?_ _|refine bD ?_|refine bA ?_ _));refine bR ?_ NB121_122.out _;(with_reducible repeat (first|refine bN ?_ _|refine bD ?_|refine bA ?_ _));refine bR ?_ NB121_122.out _;(with_reducible repeat (first|refine bN ?_ _|refine bD ?_|refine bA ?_ _));exact BK121.out⟩,⟨by (with_reducible repeat (first|refine bN ?_ _|refine bD ?_|refine bA ?_ _));refine bP (cs:=#[.int .u64 0,.int .u64 0]) ?_ 1 _ rfl;(with_reducible repeat (first|refine bN ?_ _|refine bD ?_|refine bA ?_ _));refine bP (cs:=#[.int .u64 0,.int .u64 0]) ?_ 0 _ rfl;(with_reducible repeat (first|refine bN ?_ _|refine bD ?_|refine bA ?_ _));exact BK122.out⟩,⟨by repeat (first|(with_reducible first|exact HB.out|apply wA|apply wN|apply wD|refine wS ?_ GE119.out|refine wS ?_ GE120.out|refine wS ?_ GE121.out|refine wS ?_ GE122.out)|exact HB.out)⟩⟩
  case round =>
    clear H'
    try clear c1
    try clear p2
    try clear c7
    try clear c8
    try clear c9
    try clear hcz10_0
    try clear hcz10_1
    try clear hfz10_0
    try clear hfz10_1
    obtain ⟨x7_1,x8_1,x123000_1,x123001_1,rfl,rfl,HA,HK1,BK119,BK120,BK121,BK122,HB⟩:=hrel
    cases gk with
    | zero => exact absurd HA.out (by simp [vernierref01_Add.l0])
    | succ k1 =>
      have H:=HA.out
      clear HA
      simp only [vernierref01_Add.l0] at H
      by_cases c11 : x8_1 < 128
      · rw [if_pos c11] at H
        have c11b0 : decide (x8_1 < 128) = true:=decide_eq_true c11
        clear c11;replace H:=Option.bind_eq_some_iff.mp H;obtain ⟨t123,A120,H⟩:=H
        replace H : ((vernierref01_Bit.f k1 a1_0 a1_1 x8_1).bind fun t124 => ((vernierref01_With.f x123000_1 x123001_1 x8_1 (Int.tmod (IntKind.u64.wrap ((IntKind.u64.wrap (t123 + t124)) + x7_1)) 2)).bind fun bt125 => (vernierref01_Add.l0 k1 (IntKind.u64.wrap (Int.tdiv (IntKind.u64.wrap ((IntKind.u64.wrap (t123 + t124)) + x7_1)) 2)) (wrap64 (x8_1 + 1)) a0_0 a0_1 a1_0 a1_1 bt125.1 bt125.2))) = some (r1,r2,r3):=H
        have A12:=A0.mk A120;clear A120;replace H:=Option.bind_eq_some_iff.mp H;obtain ⟨t124,A130,H⟩:=H
        replace H : ((vernierref01_With.f x123000_1 x123001_1 x8_1 (Int.tmod (IntKind.u64.wrap ((IntKind.u64.wrap (t123 + t124)) + x7_1)) 2)).bind fun bt125 => (vernierref01_Add.l0 k1 (IntKind.u64.wrap (Int.tdiv (IntKind.u64.wrap ((IntKind.u64.wrap (t123 + t124)) + x7_1)) 2)) (wrap64 (x8_1 + 1)) a0_0 a0_1 a1_0 a1_1 bt125.1 bt125.2)) = some (r1,r2,r3):=H
        have A13:=A0.mk A130;clear A130;replace H:=Option.bind_eq_some_iff.mp H;obtain ⟨⟨t125,t126⟩,A140,H⟩:=H
        replace H : (vernierref01_Add.l0 k1 (IntKind.u64.wrap (Int.tdiv (IntKind.u64.wrap ((IntKind.u64.wrap (t123 + t124)) + x7_1)) 2)) (wrap64 (x8_1 + 1)) a0_0 a0_1 a1_0 a1_1 t125 t126) = some (r1,r2,r3):=H
        have A14:=A0.mk A140;clear A140
        have H':=A0.mk H
        clear H
        try go_wp2
        have n0_:=A0.mk (bD BK119.out);have n1_:=A0.mk (bD BK120.out);have n2_:=A0.mk (bD BK121.out);have n3_:=A0.mk (bD BK122.out);have n4_:=A0.mk (wD HB.out);clear BK119;clear BK120;clear BK121;clear BK122;clear HB;have BK119:=n0_;have BK120:=n1_;have BK121:=n2_;have BK122:=n3_;have HB:=n4_;clear n0_ n1_ n2_ n3_ n4_
        refine start_ (n:=10) (S:=fun w' => w'.cell? ⟨gb119,0,none⟩ = some (.int .u64 a0_0)∧w'.cell? ⟨gb119,1,none⟩ = some (.int .u64 a0_1)∧w'.cell? ⟨gb120,0,none⟩ = some (.int .u64 a1_0)∧w'.cell? ⟨gb120,1,none⟩ = some (.int .u64 a1_1)) (ds:=[]) #[Z,Z,Z,Z,Z,Z,Z,Z,Z,Z] (by kernel_rfl) rfl rfl ⟨(bC BK119.out 0).trans rfl,(bC BK119.out 1).trans rfl,(bC BK120.out 0).trans rfl,(bC BK120.out 1).trans rfl⟩ (fun hHeld => ?_);refine with_tabW vernierref01_Add.tab6 vernierref01_Add.bits6 (fun HT_ HW_ => ?_)
        generalize wr.drew = w15 at BK119 BK120 BK121 BK122 HB hHeld ⊢
        refine pure_ (i:=1) (N:=some 16) (v:=?_) (a':=?_) #[Z,Y,Z,Z,Z,Z,Z,Z,Z,Z] rfl rfl (any_of HT_.out (by kernel_rfl)) (fun _ _ _ h => h) (Or.inl ⟨by rfl,?_⟩) ?_ ?_
        rotate_left;(intro w';go_simp;with_reducible rfl);rotate_left;(simp only [aP,lT,lZ,lS,i64_w,i32_w];rfl)
        refine pure_ (i:=4) (N:=some 19) (v:=?_) (a':=?_) #[Z,Y,Z,Z,Y,Z,Z,Z,Z,Z] rfl rfl (any_of HT_.out (by kernel_rfl)) (fun _ _ _ h => h) (Or.inl ⟨by rfl,?_⟩) ?_ ?_
        rotate_left;(intro w';go_simp;with_reducible rfl);rotate_left;(simp only [aP,lT,lZ,lS,i64_w,i32_w];rfl)
        refine pure_ (i:=7) (N:=some 22) (v:=?_) (a':=?_) #[Z,Y,Z,Z,Y,Z,Z,Y,Z,Z] rfl rfl (any_of HT_.out (by kernel_rfl)) (fun _ _ _ h => h) (Or.inl ⟨by rfl,?_⟩) ?_ ?_
        rotate_left;(intro w';go_simp;with_reducible rfl);rotate_left;(simp only [aP,lT,lZ,lS,i64_w,i32_w];rfl)
        refine take_ (i:=0) (N:=some 15) (v:=?_) (a':=?_) #[Y,Y,Z,Z,Y,Z,Z,Y,Z,Z] rfl rfl (take_ofW HT_.out HW_.out (by kernel_rfl)) (fun _ _ _ h => h) (Or.inl ⟨by rfl,?_⟩) hHeld ?_ ?_
        rotate_left;(rintro w' ⟨s0,s1,s2,s3⟩;go_simp;with_reducible rfl);rotate_left;(simp only [aP,lT,lZ,lS,i64_w,i32_w];rfl)
        refine take_ (i:=3) (N:=some 18) (v:=?_) (a':=?_) #[Y,Y,Z,Y,Y,Z,Z,Y,Z,Z] rfl rfl (take_ofW HT_.out HW_.out (by kernel_rfl)) (fun _ _ _ h => h) (Or.inl ⟨by rfl,?_⟩) hHeld ?_ ?_
        rotate_left;(rintro w' ⟨s0,s1,s2,s3⟩;go_simp;with_reducible rfl);rotate_left;(simp only [aP,lT,lZ,lS,i64_w,i32_w];rfl)
        refine one_ (i:=2) (N:=some 17) #[Y,Y,Y,Y,Y,Z,Z,Y,Z,Z] rfl rfl (one_of HT_.out (by kernel_rfl)) (by decide) (fun K hK => ?_)
        refine goes_ Try.func37 (by kernel_rfl) rfl #[.agg #[.int .u64 a0_0,.int .u64 a0_1],.int .i64 x8_1] (by rfl) rfl rfl (by (try simp only [mT,mC,mN]);first|done|rfl|(simp only [lD,lK];rfl)) ?_
        with_reducible refine (vernierref01_Bit.calls k1 a0_0 a0_1 x8_1 t123 _ A12.out).mono ?_
        rintro e w16 ⟨rfl,hb⟩;refine ⟨_,rfl,?_⟩;have n0_:=A0.mk (bB (g:=gb119) (o:=.cells #[.int .u64 a0_0,.int .u64 a0_1] 28 (0,0)) (by (with_reducible repeat (first|refine bN ?_ _|refine bD ?_|refine bA ?_ _));exact BK119.out) hb);have n1_:=A0.mk (bB (g:=gb120) (o:=.cells #[.int .u64 a1_0,.int .u64 a1_1] 28 (0,0)) (by (with_reducible repeat (first|refine bN ?_ _|refine bD ?_|refine bA ?_ _));exact BK120.out) hb);have n2_:=A0.mk (bB (g:=gb121) (o:=.cells #[.int .u64 0,.int .u64 0] 28 (0,0)) (by (with_reducible repeat (first|refine bN ?_ _|refine bD ?_|refine bA ?_ _));exact BK121.out) hb);have n3_:=A0.mk (bB (g:=gb122) (o:=.cells #[.int .u64 x123000_1,.int .u64 x123001_1] 28 (0,0)) (by (with_reducible repeat (first|refine bN ?_ _|refine bD ?_|refine bA ?_ _));exact BK122.out) hb);have n4_:=A0.mk (wT (by repeat (first|(with_reducible first|exact HB.out|apply wA|apply wN|apply wD|refine wS ?_ GE119.out|refine wS ?_ GE120.out|refine wS ?_ GE121.out|refine wS ?_ GE122.out)|exact HB.out)) hb);clear BK119;clear BK120;clear BK121;clear BK122;clear HB;have BK119:=n0_;have BK120:=n1_;have BK121:=n2_;have BK122:=n3_;have HB:=n4_;clear n0_ n1_ n2_ n3_ n4_;(try clear hb);(try clear hb2);(try clear hk);(try clear hi)
        refine hK.out _ _ ⟨(bC BK119.out 0).trans rfl,(bC BK119.out 1).trans rfl,(bC BK120.out 0).trans rfl,(bC BK120.out 1).trans rfl⟩ (fun hHeld => ?_)
        clear hK K
        refine norm_ (a':=?_) ?_ ?_
        rotate_left;(show Act.put _ (some 17) _ = _;simp only [aP,lT,lZ,lS,i64_w,i32_w];rfl)
        refine one_ (i:=5) (N:=some 20) #[Y,Y,Y,Y,Y,Y,Z,Y,Z,Z] rfl rfl (one_of HT_.out (by kernel_rfl)) (by decide) (fun K hK => ?_)
        refine goes_ Try.func37 (by kernel_rfl) rfl #[.agg #[.int .u64 a1_0,.int .u64 a1_1],.int .i64 x8_1] (by rfl) rfl rfl (by (try simp only [mT,mC,mN]);first|done|rfl|(simp only [lD,lK];rfl)) ?_
        with_reducible refine (vernierref01_Bit.calls k1 a1_0 a1_1 x8_1 t124 _ A13.out).mono ?_
        rintro e w17 ⟨rfl,hb⟩;refine ⟨_,rfl,?_⟩;have n0_:=A0.mk (bB (g:=gb119) (o:=.cells #[.int .u64 a0_0,.int .u64 a0_1] 28 (0,0)) (by (with_reducible repeat (first|refine bN ?_ _|refine bD ?_|refine bA ?_ _));exact BK119.out) hb);have n1_:=A0.mk (bB (g:=gb120) (o:=.cells #[.int .u64 a1_0,.int .u64 a1_1] 28 (0,0)) (by (with_reducible repeat (first|refine bN ?_ _|refine bD ?_|refine bA ?_ _));exact BK120.out) hb);have n2_:=A0.mk (bB (g:=gb121) (o:=.cells #[.int .u64 0,.int .u64 0] 28 (0,0)) (by (with_reducible repeat (first|refine bN ?_ _|refine bD ?_|refine bA ?_ _));exact BK121.out) hb);have n3_:=A0.mk (bB (g:=gb122) (o:=.cells #[.int .u64 x123000_1,.int .u64 x123001_1] 28 (0,0)) (by (with_reducible repeat (first|refine bN ?_ _|refine bD ?_|refine bA ?_ _));exact BK122.out) hb);have n4_:=A0.mk (wT (by repeat (first|(with_reducible first|exact HB.out|apply wA|apply wN|apply wD|refine wS ?_ GE119.out|refine wS ?_ GE120.out|refine wS ?_ GE121.out|refine wS ?_ GE122.out)|exact HB.out)) hb);clear BK119;clear BK120;clear BK121;clear BK122;clear HB;have BK119:=n0_;have BK120:=n1_;have BK121:=n2_;have BK122:=n3_;have HB:=n4_;clear n0_ n1_ n2_ n3_ n4_;(try clear hb);(try clear hb2);(try clear hk);(try clear hi)
        refine hK.out _ _ ⟨(bC BK119.out 0).trans rfl,(bC BK119.out 1).trans rfl,(bC BK120.out 0).trans rfl,(bC BK120.out 1).trans rfl⟩ (fun hHeld => ?_)
        clear hK K
        refine norm_ (a':=?_) ?_ ?_
        rotate_left;(show Act.put _ (some 20) _ = _;simp only [aP,lT,lZ,lS,i64_w,i32_w];rfl)
        refine pure_ (i:=6) (N:=some 21) (v:=?_) (a':=?_) #[Y,Y,Y,Y,Y,Y,Y,Y,Z,Z] rfl rfl (any_of HT_.out (by kernel_rfl)) (fun _ _ _ h => h) (Or.inl ⟨by rfl,?_⟩) ?_ ?_
        rotate_left;(intro w';go_simp;with_reducible rfl);rotate_left;(simp only [aP,lT,lZ,lS,i64_w,i32_w];rfl)
        refine pure_ (i:=8) (N:=some 23) (v:=?_) (a':=?_) #[Y,Y,Y,Y,Y,Y,Y,Y,Y,Z] rfl rfl (any_of HT_.out (by kernel_rfl)) (fun _ _ _ h => h) (Or.inl ⟨by rfl,?_⟩) ?_ ?_
        rotate_left;(intro w';go_simp;with_reducible rfl);rotate_left;(simp only [aP,lT,lZ,lS,i64_w,i32_w];rfl)
        refine pure_ (i:=9) (N:=some 9) (v:=?_) (a':=?_) #[Y,Y,Y,Y,Y,Y,Y,Y,Y,Y] rfl rfl (any_of HT_.out (by kernel_rfl)) (fun _ _ _ h => h) (Or.inl ⟨by rfl,?_⟩) ?_ ?_
        rotate_left;(intro w';go_simp;with_reducible rfl);rotate_left;(simp only [aP,lT,lZ,lS,i64_w,i32_w];rfl)
        refine done_ (done_of HT_.out (by kernel_rfl)) ?_
        have hnb18:=NB122_119.out
        have hnc18:=NB119_122.out
        have hnb19:=NB122_120.out
        have hnc19:=NB120_122.out
        have hnb20:=NB122_121.out
        have hnc20:=NB121_122.out
        have hcz21_0 : w17.cell? ⟨gb122,0,none⟩ = some (.int .u64 x123000_1):=(bC BK122.out 0).trans rfl
        have hcz21_1 : w17.cell? ⟨gb122,1,none⟩ = some (.int .u64 x123001_1):=(bC BK122.out 1).trans rfl
        have hfz21_0:=bF BK122.out 0
        have hfz21_1:=bF BK122.out 1
        try go_wp2_with (first|((with_reducible refine gC (f:=38) rfl ?_);refine goesL_ (some 28) rfl rfl Try.func38 (by kernel_rfl) rfl #[.agg #[.int .u64 x123000_1,.int .u64 x123001_1],.int .i64 x8_1,.int .u64 (Int.tmod (IntKind.u64.wrap ((IntKind.u64.wrap (t123 + t124)) + x7_1)) 2)] rfl (by (try simp only [mT,mC,mN]);first|done|rfl|(simp only [lD,lK];rfl)) ?_;(with_reducible refine (vernierref01_With.calls x123000_1 x123001_1 x8_1 (Int.tmod (IntKind.u64.wrap ((IntKind.u64.wrap (t123 + t124)) + x7_1)) 2) t125 t126 _ A14.out).mono ?_);rintro e w22 ⟨rfl,hb⟩;refine ⟨_,rfl,?_⟩;have n0_:=A0.mk (bB (g:=gb119) (o:=.cells #[.int .u64 a0_0,.int .u64 a0_1] 28 (0,0)) (by (with_reducible repeat (first|refine bN ?_ _|refine bD ?_|refine bA ?_ _));exact BK119.out) hb);have n1_:=A0.mk (bB (g:=gb120) (o:=.cells #[.int .u64 a1_0,.int .u64 a1_1] 28 (0,0)) (by (with_reducible repeat (first|refine bN ?_ _|refine bD ?_|refine bA ?_ _));exact BK120.out) hb);have n2_:=A0.mk (bB (g:=gb121) (o:=.cells #[.int .u64 0,.int .u64 0] 28 (0,0)) (by (with_reducible repeat (first|refine bN ?_ _|refine bD ?_|refine bA ?_ _));exact BK121.out) hb);have n3_:=A0.mk (bB (g:=gb122) (o:=.cells #[.int .u64 x123000_1,.int .u64 x123001_1] 28 (0,0)) (by (with_reducible repeat (first|refine bN ?_ _|refine bD ?_|refine bA ?_ _));exact BK122.out) hb);have n4_:=A0.mk (wT (by repeat (first|(with_reducible first|exact HB.out|apply wA|apply wN|apply wD|refine wS ?_ GE119.out|refine wS ?_ GE120.out|refine wS ?_ GE121.out|refine wS ?_ GE122.out)|exact HB.out)) hb);clear BK119;clear BK120;clear BK121;clear BK122;clear HB;have BK119:=n0_;have BK120:=n1_;have BK121:=n2_;have BK122:=n3_;have HB:=n4_;clear n0_ n1_ n2_ n3_ n4_;(try clear hb);(try clear hb2);(try clear hk);(try clear hi);have hcz23_0 : w22.cell? ⟨gb122,0,none⟩ = some (.int .u64 x123000_1):=(bC BK122.out 0).trans rfl;have hcz23_1 : w22.cell? ⟨gb122,1,none⟩ = some (.int .u64 x123001_1):=(bC BK122.out 1).trans rfl;have hfz23_0:=bF BK122.out 0;have hfz23_1:=bF BK122.out 1))
        go_roundg k1
        case measure => have:=HK1.out;omega
        case rel => exact ⟨(IntKind.u64.wrap (Int.tdiv (IntKind.u64.wrap ((IntKind.u64.wrap (t123 + t124)) + x7_1)) 2)),(wrap64 (x8_1 + 1)),(t125),(t126),(by first|rfl|(simp;done)|(simp [*];done)),(by first|rfl|(simp;done)|(simp [*];done)),H',⟨by have:=HK1.out;omega⟩,⟨by (with_reducible repeat (first|refine bN ?_ _|refine bD ?_|refine bA ?_ _));refine bR ?_ NB119_122.out _;(with_reducible repeat (first|refine bN ?_ _|refine bD ?_|refine bA ?_ _));refine bR ?_ NB119_122.out _;(with_reducible repeat (first|refine bN ?_ _|refine bD ?_|refine bA ?_ _));exact BK119.out⟩,⟨by (with_reducible repeat (first|refine bN ?_ _|refine bD ?_|refine bA ?_ _));refine bR ?_ NB120_122.out _;(with_reducible repeat (first|refine bN ?_ _|refine bD ?_|refine bA ?_ _));refine bR ?_ NB120_122.out _;(with_reducible repeat (first|refine bN ?_ _|refine bD ?_|refine bA ?_ _));exact BK120.out⟩,⟨by (with_reducible repeat (first|refine bN ?_ _|refine bD ?_|refine bA ?_ _));refine bR ?_ NB121_122.out _;(with_reducible repeat (first|refine bN ?_ _|refine bD ?_|refine bA ?_ _));refine bR ?_ NB121_122.out _;(with_reducible repeat (first|refine bN ?_ _|refine bD ?_|refine bA ?_ _));exact BK121.out⟩,⟨by (with_reducible repeat (first|refine bN ?_ _|refine bD ?_|refine bA ?_ _));refine bP (cs:=#[.int .u64 t125,.int .u64 x123001_1]) ?_ 1 _ rfl;(with_reducible repeat (first|refine bN ?_ _|refine bD ?_|refine bA ?_ _));refine bP (cs:=#[.int .u64 x123000_1,.int .u64 x123001_1]) ?_ 0 _ rfl;(with_reducible repeat (first|refine bN ?_ _|refine bD ?_|refine bA ?_ _));exact BK122.out⟩,⟨by repeat (first|(with_reducible first|exact HB.out|apply wA|apply wN|apply wD|refine wS ?_ GE119.out|refine wS ?_ GE120.out|refine wS ?_ GE121.out|refine wS ?_ GE122.out)|exact HB.out)⟩⟩
      · rw [if_neg c11] at H
        have c11b0 : decide (x8_1 < 128) = false:=decide_eq_false c11
        clear c11
        simp only [Option.some.injEq,Prod.mk.injEq] at H
        obtain ⟨rfl,rfl,rfl⟩:=H
        have hnb24:=NB122_119.out
        have hnc24:=NB119_122.out
        have hnb25:=NB122_120.out
        have hnc25:=NB120_122.out
        have hnb26:=NB122_121.out
        have hnc26:=NB121_122.out
        have hcz27_0 : wr.cell? ⟨gb122,0,none⟩ = some (.int .u64 x123000_1):=(bC BK122.out 0).trans rfl
        have hcz27_1 : wr.cell? ⟨gb122,1,none⟩ = some (.int .u64 x123001_1):=(bC BK122.out 1).trans rfl
        have hfz27_0:=bF BK122.out 0
        have hfz27_1:=bF BK122.out 1
        have hnb28:=NB121_119.out
        have hnc28:=NB119_121.out
        have hnb29:=NB121_120.out
        have hnc29:=NB120_121.out
        have hcz30_0 : wr.cell? ⟨gb121,0,none⟩ = some (.int .u64 0):=(bC BK121.out 0).trans rfl
        have hcz30_1 : wr.cell? ⟨gb121,1,none⟩ = some (.int .u64 0):=(bC BK121.out 1).trans rfl
        have hfz30_0:=bF BK121.out 0
        have hfz30_1:=bF BK121.out 1
        go_wp2
        refine bodyPost_ret (results_ct rfl _ _ gb121 28 #[.int .u64 x123000_1,.int .u64 x123001_1] (0,0) _ rfl (by (with_reducible repeat (first|refine bN ?_ _|refine bD ?_|refine bA ?_ _));refine bP (cs:=#[.int .u64 x123000_1,.int .u64 0]) ?_ 1 _ rfl;(with_reducible repeat (first|refine bN ?_ _|refine bD ?_|refine bA ?_ _));refine bP (cs:=#[.int .u64 0,.int .u64 0]) ?_ 0 _ rfl;(with_reducible repeat (first|refine bN ?_ _|refine bD ?_|refine bA ?_ _));exact BK121.out) Try.underlying28 rfl (by kernel_rfl)) rfl ?_
        exact ⟨by first|rfl|(simp [errW_none,errW_some] <;> rfl)|(simp [*,errW_none,errW_some] <;> rfl),by repeat (first|(with_reducible first|exact HB.out|apply wA|apply wN|apply wD|refine wS ?_ GE119.out|refine wS ?_ GE120.out|refine wS ?_ GE121.out|refine wS ?_ GE122.out)|exact HB.out)⟩

end Go.Proofs.Ytidjigoghdghiaa.V
