/- Contracts of the program's functions, each: where the printed function answers, the call answers the same. Written by vprint.py, this session's own program over the kit's print.py; Lean checks it. No conditions beyond those that each states. -/
import Derived.Test.YtidjigoghdghiaaVx0
import Derived.Test.YtidjigoghdghiaaVx4
namespace Go.Proofs.Ytidjigoghdghiaa.V
open Go.RowKit Go.Proofs.YtidjigoghdghiaaQ.PrintWords Go.Proofs.YtidjigoghdghiaaQ.PrintLast Go.Proofs.YtidjigoghdghiaaQ.PrintMore
open Bool renaming true → Y, false → Z
open List renaming setIfInBounds_toArray → lT, set_cons_zero → lZ, set_cons_succ → lS, map_toArray → mT, map_cons → mC, map_nil → mN, length_drop → lD, length_take → lK
open Act renaming put → aP
attribute [local go_sem] max2_int min2_int max_two min_two max_three min_three max_four min_four   -- for this text's walks alone
set_option linter.unusedVariables false
set_option linter.unusedSimpArgs false

/-! ### vernierref01_Len: function 24 -/
def vernierref01_Len.l0 : Nat→Int→Int→Int→Option (Int)
  | 0,_,_,_ => none
  | k + 1,x3,x214000,x214001 => if x3 > 0 then ((vernierref01_Bit.f k x214000 x214001 (wrap64 (x3 - 1))).bind fun t214 => (if t214 = 0 then (vernierref01_Len.l0 k (wrap64 (x3 - 1)) x214000 x214001) else (some x3))) else (some x3)
def vernierref01_Len.f (k : Nat) (a0_0 : Int) (a0_1 : Int) : Option (Int):=vernierref01_Len.l0 k 128 a0_0 a0_1
theorem vernierref01_Len.mono_l : ∀ k,(∀ y0 y1 y2,LeO (vernierref01_Len.l0 k y0 y1 y2) (vernierref01_Len.l0 (k + 1) y0 y1 y2))
  | 0 => fun _ _ _ r h => by simp [vernierref01_Len.l0] at h
  | k + 1 => by
    have ih0:=vernierref01_Len.mono_l k
    · intro y0 y1 y2
      unfold vernierref01_Len.l0
      repeat' first
      | (with_reducible exact ih0 _ _ _)
      | (with_reducible exact vernierref01_Bit.mono _ _ _ _)
      | (with_reducible exact LeO.refl _)
      | (with_reducible exact LeO.none _)
      | (with_reducible refine LeO.ite ?_ ?_)
      | (with_reducible refine LeO.bind ?_ (fun _ => ?_))
      | exact ih0 _ _ _
      | exact vernierref01_Bit.mono _ _ _ _
      | exact LeO.none _
      | refine LeO.ite ?_ ?_
      | refine LeO.bind ?_ (fun _ => ?_)
theorem vernierref01_Len.mono : ∀ a0 a1 k,LeO (vernierref01_Len.f k a0 a1) (vernierref01_Len.f (k + 1) a0 a1):=by
  intro a0 a1 k
  have ih0:=vernierref01_Len.mono_l k
  unfold vernierref01_Len.f
  repeat' first
      | (with_reducible exact ih0 _ _ _)
      | (with_reducible exact vernierref01_Bit.mono _ _ _ _)
      | (with_reducible exact LeO.refl _)
      | (with_reducible exact LeO.none _)
      | (with_reducible refine LeO.ite ?_ ?_)
      | (with_reducible refine LeO.bind ?_ (fun _ => ?_))
      | exact ih0 _ _ _
      | exact vernierref01_Bit.mono _ _ _ _
      | exact LeO.none _
      | refine LeO.ite ?_ ?_
      | refine LeO.bind ?_ (fun _ => ?_)
set_option maxHeartbeats 8000000 in
set_option maxRecDepth 100000 in
theorem vernierref01_Len.calls (k : Nat) (a0_0 : Int) (a0_1 : Int) (r : Int) (w : World) (h : vernierref01_Len.f k a0_0 a0_1 = some r) :
    Calls Try.prog 24 #[.agg #[.int .u64 a0_0,.int .u64 a0_1]] w fun e w' => e = .returned (.int .i64 r)∧Below w.heap.size w w':=by
  have hu28:=Try.underlying28
  have HB:=A0.mk (Below.refl w.heap.size w)
  have H : (vernierref01_Len.l0 k 128 a0_0 a0_1) = some r:=h
  clear h
  have H':=A0.mk H
  clear H
  go_enter Try.func24,Try.ntmps24
  go_wp2_with (first|((with_reducible refine gD (N:=1) rfl ?_);refine bE ?hg (N:=1) ?hd (cs:=#[.int .u64 a0_0,.int .u64 a0_1]) (t:=28) ?hr ?_;(case hd => rfl);(case hg => rfl);(case hr => first|(go_simp;done)|(go_simp;rfl));intro gb213 hg w2 hbox hb;have n0_:=A0.mk (wT (by repeat (first|(with_reducible first|exact HB.out|apply wA|apply wN|apply wD)|exact HB.out)) hb);have n1_:=A0.mk (hbox);have n2_:=A0.mk ((by rw [hg];exact (wZ (by repeat (first|(with_reducible first|exact HB.out|apply wA|apply wN|apply wD)|exact HB.out))) : w.heap.size ≤ gb213));have n3_:=A0.mk ((by rw [hg];exact (wZ (by repeat (first|(with_reducible first|exact HB.out|apply wA|apply wN|apply wD)|exact HB.out))) : w.heap.size ≤ gb213));clear HB;have HB:=n0_;have BK213:=n1_;have GW213:=n2_;have GE213:=n3_;clear n0_ n1_ n2_ n3_;clear hb hbox hg))
  go_loopg [3] k (fun kq v3 w' => ∃ (x3_1 : Int),v3 = .int .i64 x3_1∧A0 (vernierref01_Len.l0 kq x3_1 a0_0 a0_1 = some r)∧A0 (kq ≤ k)∧A0 (w'.heap[gb213]? = some (.cells #[.int .u64 a0_0,.int .u64 a0_1] 28 (0,0)))∧A0 (Below w.heap.size w w'))
  case atStart => exact ⟨(128),(by first|rfl|(simp;done)|(simp [*];done)),H',⟨Nat.le_refl _⟩,⟨by (with_reducible repeat (first|refine bN ?_ _|refine bD ?_|refine bA ?_ _));exact BK213.out⟩,⟨by repeat (first|(with_reducible first|exact HB.out|apply wA|apply wN|apply wD|refine wS ?_ GE213.out)|exact HB.out)⟩⟩
  case round =>
    clear H'
    try clear c2
    try clear p2
    obtain ⟨x3_1,rfl,HA,HK1,BK213,HB⟩:=hrel
    cases gk with
    | zero => exact absurd HA.out (by simp [vernierref01_Len.l0])
    | succ k1 =>
      have H:=HA.out
      clear HA
      simp only [vernierref01_Len.l0] at H
      by_cases c3 : x3_1 > 0
      · rw [if_pos c3] at H
        have c3b0 : decide (0 < x3_1) = true:=decide_eq_true c3
        clear c3;replace H:=Option.bind_eq_some_iff.mp H;obtain ⟨t214,A40,H⟩:=H
        replace H : (if t214 = 0 then (vernierref01_Len.l0 k1 (wrap64 (x3_1 - 1)) a0_0 a0_1) else (some x3_1)) = some r:=H
        have A4:=A0.mk A40;clear A40
        by_cases c5 : t214 = 0
        · rw [if_pos c5] at H
          have c5b0 : (t214 == 0) = true:=beq_iff_eq.mpr c5
          have c5b1 : (t214 != 0) = false:=bne_eq_false_iff_eq.mpr c5
          clear c5
          have H':=A0.mk H
          clear H
          have hcz6_0 : wr.cell? ⟨gb213,0,none⟩ = some (.int .u64 a0_0):=(bC BK213.out 0).trans rfl
          have hcz6_1 : wr.cell? ⟨gb213,1,none⟩ = some (.int .u64 a0_1):=(bC BK213.out 1).trans rfl
          have hfz6_0:=bF BK213.out 0
          have hfz6_1:=bF BK213.out 1
          go_wp2_with (first|(go_at_call 37;(with_reducible refine (vernierref01_Bit.calls k1 a0_0 a0_1 (wrap64 (x3_1 - 1)) t214 _ A4.out).mono ?_);rintro e w7 ⟨rfl,hb⟩;have n0_:=A0.mk (bB (g:=gb213) (o:=.cells #[.int .u64 a0_0,.int .u64 a0_1] 28 (0,0)) (by (with_reducible repeat (first|refine bN ?_ _|refine bD ?_|refine bA ?_ _));exact BK213.out) hb);have n1_:=A0.mk (wT (by repeat (first|(with_reducible first|exact HB.out|apply wA|apply wN|apply wD|refine wS ?_ GE213.out)|exact HB.out)) hb);clear BK213;clear HB;have BK213:=n0_;have HB:=n1_;clear n0_ n1_;(try clear hb);(try clear hb2);(try clear hk);(try clear hi)))
          go_roundg k1
          case measure => have:=HK1.out;omega
          case rel => exact ⟨(wrap64 (x3_1 - 1)),(by first|rfl|(simp;done)|(simp [*];done)),H',⟨by have:=HK1.out;omega⟩,⟨by (with_reducible repeat (first|refine bN ?_ _|refine bD ?_|refine bA ?_ _));exact BK213.out⟩,⟨by repeat (first|(with_reducible first|exact HB.out|apply wA|apply wN|apply wD|refine wS ?_ GE213.out)|exact HB.out)⟩⟩
        · rw [if_neg c5] at H
          have c5b0 : (t214 == 0) = false:=beq_eq_false_iff_ne.mpr c5
          have c5b1 : (t214 != 0) = true:=bne_iff_ne.mpr c5
          obtain rfl:=Option.some.inj H
          have hcz8_0 : wr.cell? ⟨gb213,0,none⟩ = some (.int .u64 a0_0):=(bC BK213.out 0).trans rfl
          have hcz8_1 : wr.cell? ⟨gb213,1,none⟩ = some (.int .u64 a0_1):=(bC BK213.out 1).trans rfl
          have hfz8_0:=bF BK213.out 0
          have hfz8_1:=bF BK213.out 1
          go_wp2_with (first|(go_at_call 37;(with_reducible refine (vernierref01_Bit.calls k1 a0_0 a0_1 (wrap64 (x3_1 - 1)) t214 _ A4.out).mono ?_);rintro e w9 ⟨rfl,hb⟩;have n0_:=A0.mk (bB (g:=gb213) (o:=.cells #[.int .u64 a0_0,.int .u64 a0_1] 28 (0,0)) (by (with_reducible repeat (first|refine bN ?_ _|refine bD ?_|refine bA ?_ _));exact BK213.out) hb);have n1_:=A0.mk (wT (by repeat (first|(with_reducible first|exact HB.out|apply wA|apply wN|apply wD|refine wS ?_ GE213.out)|exact HB.out)) hb);clear BK213;clear HB;have BK213:=n0_;have HB:=n1_;clear n0_ n1_;(try clear hb);(try clear hb2);(try clear hk);(try clear hi)))
          go_ret
          exact ⟨by first|rfl|(simp [errW_none,errW_some] <;> rfl)|(simp [*,errW_none,errW_some] <;> rfl),by repeat (first|(with_reducible first|exact HB.out|apply wA|apply wN|apply wD|refine wS ?_ GE213.out)|exact HB.out)⟩
      · rw [if_neg c3] at H
        have c3b0 : decide (0 < x3_1) = false:=decide_eq_false c3
        clear c3;obtain rfl:=Option.some.inj H
        go_wp2
        go_ret
        exact ⟨by first|rfl|(simp [errW_none,errW_some] <;> rfl)|(simp [*,errW_none,errW_some] <;> rfl),by repeat (first|(with_reducible first|exact HB.out|apply wA|apply wN|apply wD|refine wS ?_ GE213.out)|exact HB.out)⟩

end Go.Proofs.Ytidjigoghdghiaa.V
