/- Contracts of the program's functions, each: where the printed function answers, the call answers the same. Written by vprint.py, this session's own program over the kit's print.py; Lean checks it. No conditions beyond those that each states. -/
import Derived.Test.YtidjigoghdghiaaVx0
namespace Go.Proofs.Ytidjigoghdghiaa.V
open Go.RowKit Go.Proofs.YtidjigoghdghiaaQ.PrintWords Go.Proofs.YtidjigoghdghiaaQ.PrintLast Go.Proofs.YtidjigoghdghiaaQ.PrintMore
open Bool renaming true → Y, false → Z
open List renaming setIfInBounds_toArray → lT, set_cons_zero → lZ, set_cons_succ → lS, map_toArray → mT, map_cons → mC, map_nil → mN, length_drop → lD, length_take → lK
open Act renaming put → aP
attribute [local go_sem] max2_int min2_int max_two min_two max_three min_three max_four min_four   -- for this text's walks alone
set_option linter.unusedVariables false
set_option linter.unusedSimpArgs false

/-! ### vernierref01_Bit: function 37 -/
def vernierref01_Bit.j0 : Nat→Int→Bool→Int→Int→Option (Int)
  | 0,_,_,_,_ => none
  | k + 1,x1,x10,x113000,x113001 => if x10 = true then (some 0) else (if x1 < 64 then (if 0 ≤ (IntKind.u64.wrap (x1)) then (some (Go.bits .and .u64 (shr .u64 x113001 (IntKind.u64.wrap (x1))) 1)) else (none)) else (if 0 ≤ (IntKind.u64.wrap (wrap64 (x1 - 64))) then (some (Go.bits .and .u64 (shr .u64 x113000 (IntKind.u64.wrap (wrap64 (x1 - 64)))) 1)) else (none)))
def vernierref01_Bit.f (k : Nat) (a0_0 : Int) (a0_1 : Int) (a1 : Int) : Option (Int):=if a1 < 0 then (vernierref01_Bit.j0 k a1 true a0_0 a0_1) else (vernierref01_Bit.j0 k a1 (decide (a1 > 127)) a0_0 a0_1)
theorem vernierref01_Bit.mono_l : ∀ k,(∀ y0 y1 y2 y3,LeO (vernierref01_Bit.j0 k y0 y1 y2 y3) (vernierref01_Bit.j0 (k + 1) y0 y1 y2 y3))
  | 0 => fun _ _ _ _ r h => by simp [vernierref01_Bit.j0] at h
  | k + 1 => by
    have ih0:=vernierref01_Bit.mono_l k
    · intro y0 y1 y2 y3
      unfold vernierref01_Bit.j0
      repeat' first
      | (with_reducible exact ih0 _ _ _ _)
      | (with_reducible exact LeO.refl _)
      | (with_reducible exact LeO.none _)
      | (with_reducible refine LeO.ite ?_ ?_)
      | (with_reducible refine LeO.bind ?_ (fun _ => ?_))
      | exact ih0 _ _ _ _
      | exact LeO.none _
      | refine LeO.ite ?_ ?_
      | refine LeO.bind ?_ (fun _ => ?_)
theorem vernierref01_Bit.mono : ∀ a0 a1 a2 k,LeO (vernierref01_Bit.f k a0 a1 a2) (vernierref01_Bit.f (k + 1) a0 a1 a2):=by
  intro a0 a1 a2 k
  have ih0:=vernierref01_Bit.mono_l k
  unfold vernierref01_Bit.f
  repeat' first
      | (with_reducible exact ih0 _ _ _ _)
      | (with_reducible exact LeO.refl _)
      | (with_reducible exact LeO.none _)
      | (with_reducible refine LeO.ite ?_ ?_)
      | (with_reducible refine LeO.bind ?_ (fun _ => ?_))
      | exact ih0 _ _ _ _
      | exact LeO.none _
      | refine LeO.ite ?_ ?_
      | refine LeO.bind ?_ (fun _ => ?_)
set_option maxHeartbeats 8000000 in
set_option maxRecDepth 100000 in
theorem vernierref01_Bit.calls (k : Nat) (a0_0 : Int) (a0_1 : Int) (a1 : Int) (r : Int) (w : World) (h : vernierref01_Bit.f k a0_0 a0_1 a1 = some r) :
    Calls Try.prog 37 #[.agg #[.int .u64 a0_0,.int .u64 a0_1],.int .i64 a1] w fun e w' => e = .returned (.int .u64 r)∧Below w.heap.size w w':=by
  have hu28:=Try.underlying28
  have HB:=A0.mk (Below.refl w.heap.size w)
  have H : (if a1 < 0 then (vernierref01_Bit.j0 k a1 true a0_0 a0_1) else (vernierref01_Bit.j0 k a1 (decide (a1 > 127)) a0_0 a0_1)) = some r:=h
  clear h;have HC3:=A0.mk H;clear H
  go_enter Try.func37,Try.ntmps37
  go_upto_region 1 with (first|((with_reducible refine gD (N:=2) rfl ?_);refine bE ?hg (N:=2) ?hd (cs:=#[.int .u64 a0_0,.int .u64 a0_1]) (t:=28) ?hr ?_;(case hd => rfl);(case hg => rfl);(case hr => first|(go_simp;done)|(go_simp;rfl));intro gb112 hg w4 hbox hb;have n0_:=A0.mk (wT (by repeat (first|(with_reducible first|exact HB.out|apply wA|apply wN|apply wD)|exact HB.out)) hb);have n1_:=A0.mk (hbox);have n2_:=A0.mk ((by rw [hg];exact (wZ (by repeat (first|(with_reducible first|exact HB.out|apply wA|apply wN|apply wD)|exact HB.out))) : w.heap.size ≤ gb112));have n3_:=A0.mk ((by rw [hg];exact (wZ (by repeat (first|(with_reducible first|exact HB.out|apply wA|apply wN|apply wD)|exact HB.out))) : w.heap.size ≤ gb112));clear HB;have HB:=n0_;have BK112:=n1_;have GW112:=n2_;have GE112:=n3_;clear n0_ n1_ n2_ n3_;clear hb hbox hg))
  (try simp only [aP,lT,lZ,lS])
  go_cut [10] (fun v10 wc => ∃ (kq : Nat) (x10_2 : Bool),v10 = .bool x10_2∧A0 (vernierref01_Bit.j0 kq a1 x10_2 a0_0 a0_1 = some r)∧A0 (kq ≤ k)∧A0 (wc.heap[gb112]? = some (.cells #[.int .u64 a0_0,.int .u64 a0_1] 28 (0,0)))∧A0 (Below w.heap.size w wc))
  case first =>
    have H:=HC3.out
    clear HC3
    by_cases c5 : a1 < 0
    · rw [if_pos c5] at H
      have c5b0 : decide (a1 < 0) = true:=decide_eq_true c5
      clear c5
      (first|rw [c5b0]|(simp only [i64_w,i32_w];rw [c5b0])|skip)
      have H':=A0.mk H
      clear H
      go_wp2
      go_meet
      case rel => exact ⟨_,(true),(by first|rfl|(simp;done)|(simp [*];done)),H',⟨by first|omega|exact Nat.le_refl _⟩,⟨by (with_reducible repeat (first|refine bN ?_ _|refine bD ?_|refine bA ?_ _));exact BK112.out⟩,⟨by repeat (first|(with_reducible first|exact HB.out|apply wA|apply wN|apply wD|refine wS ?_ GE112.out)|exact HB.out)⟩⟩
    · rw [if_neg c5] at H
      have c5b0 : decide (a1 < 0) = false:=decide_eq_false c5
      clear c5
      (first|rw [c5b0]|(simp only [i64_w,i32_w];rw [c5b0])|skip)
      have H':=A0.mk H
      clear H
      go_wp2
      go_meet
      case rel => exact ⟨_,(decide (a1 > 127)),(by first|rfl|(simp;done)|(simp [*];done)),H',⟨by first|omega|exact Nat.le_refl _⟩,⟨by (with_reducible repeat (first|refine bN ?_ _|refine bD ?_|refine bA ?_ _));exact BK112.out⟩,⟨by repeat (first|(with_reducible first|exact HB.out|apply wA|apply wN|apply wD|refine wS ?_ GE112.out)|exact HB.out)⟩⟩
  case rest =>
    clear HC3
    try clear p2
    try clear c3
    try clear c5
    try clear c5b0
    obtain ⟨kq,x10_2,rfl,HA,HJ2,BK112,HB⟩:=hcut
    cases kq with
    | zero => exact absurd HA.out (by simp [vernierref01_Bit.j0])
    | succ kj2 =>
      have H:=HA.out
      clear HA
      simp only [vernierref01_Bit.j0] at H
      by_cases c6 : x10_2 = true
      · subst c6
        have H1 : (some 0) = some r:=by rw [if_pos rfl] at H;exact H
        clear H;have H:=H1;clear H1;obtain rfl:=Option.some.inj H
        go_wp2
        go_ret
        exact ⟨by first|rfl|(simp [errW_none,errW_some] <;> rfl)|(simp [*,errW_none,errW_some] <;> rfl),by repeat (first|(with_reducible first|exact HB.out|apply wA|apply wN|apply wD|refine wS ?_ GE112.out)|exact HB.out)⟩
      · replace c6:=Bool.eq_false_iff.mpr c6
        subst c6
        have H1 : (if a1 < 64 then (if 0 ≤ (IntKind.u64.wrap (a1)) then (some (Go.bits .and .u64 (shr .u64 a0_1 (IntKind.u64.wrap (a1))) 1)) else (none)) else (if 0 ≤ (IntKind.u64.wrap (wrap64 (a1 - 64))) then (some (Go.bits .and .u64 (shr .u64 a0_0 (IntKind.u64.wrap (wrap64 (a1 - 64)))) 1)) else (none))) = some r:=by rw [if_neg (show ¬ (false = true) by decide)] at H;exact H
        clear H;have H:=H1;clear H1
        by_cases c7 : a1 < 64
        · rw [if_pos c7] at H
          have c7b0 : decide (a1 < 64) = true:=decide_eq_true c7
          clear c7
          obtain ⟨ji8,hji8⟩ : ∃ j_ : Int,(IntKind.u64.wrap (a1)) = j_:=⟨_,rfl⟩
          replace H : (if 0 ≤ (ji8) then (some (Go.bits .and .u64 (shr .u64 a0_1 (ji8)) 1)) else (none)) = some r:=by first|(rw [hji8] at H;exact H)|(simp only [hji8] at H ⊢;exact H)
          by_cases c9 : 0 ≤ (ji8)
          · rw [if_pos c9] at H
            have c9b0:=eq_true c9
            have c9b1 : decide (0 ≤ (ji8)) = true:=decide_eq_true c9
            clear c9
            obtain ⟨ji10,hji10⟩ : ∃ j_ : Int,(shr .u64 a0_1 (ji8)) = j_:=⟨_,rfl⟩
            replace H : (some (Go.bits .and .u64 (ji10) 1)) = some r:=by first|(rw [hji10] at H;exact H)|(simp only [hji10] at H ⊢;exact H)
            have hji10_ : (a0_1 / 2 ^ min (ji8).toNat 64) = ji10:=hji10
            have hji10z : (ji8) ≤ 64→(a0_1 / 2 ^ (ji8).toNat) = ji10:=shr_small hji10
            obtain rfl:=Option.some.inj H
            have hcz11_0 : wc.cell? ⟨gb112,0,none⟩ = some (.int .u64 a0_0):=(bC BK112.out 0).trans rfl
            have hcz11_1 : wc.cell? ⟨gb112,1,none⟩ = some (.int .u64 a0_1):=(bC BK112.out 1).trans rfl
            have hfz11_0:=bF BK112.out 0
            have hfz11_1:=bF BK112.out 1
            go_wp2
            go_ret
            exact ⟨by first|rfl|(simp [errW_none,errW_some] <;> rfl)|(simp only [← hji8,← hji10];first|rfl|(simp [errW_none,errW_some] <;> rfl))|(simp [*,errW_none,errW_some] <;> rfl),by repeat (first|(with_reducible first|exact HB.out|apply wA|apply wN|apply wD|refine wS ?_ GE112.out)|exact HB.out)⟩
          · rw [if_neg c9] at H
            exact absurd H (by simp)
        · rw [if_neg c7] at H
          have c7b0 : decide (a1 < 64) = false:=decide_eq_false c7
          clear c7
          obtain ⟨ji12,hji12⟩ : ∃ j_ : Int,(IntKind.u64.wrap (wrap64 (a1 - 64))) = j_:=⟨_,rfl⟩
          replace H : (if 0 ≤ (ji12) then (some (Go.bits .and .u64 (shr .u64 a0_0 (ji12)) 1)) else (none)) = some r:=by first|(rw [hji12] at H;exact H)|(simp only [hji12] at H ⊢;exact H)
          by_cases c13 : 0 ≤ (ji12)
          · rw [if_pos c13] at H
            have c13b0:=eq_true c13
            have c13b1 : decide (0 ≤ (ji12)) = true:=decide_eq_true c13
            clear c13
            obtain ⟨ji14,hji14⟩ : ∃ j_ : Int,(shr .u64 a0_0 (ji12)) = j_:=⟨_,rfl⟩
            replace H : (some (Go.bits .and .u64 (ji14) 1)) = some r:=by first|(rw [hji14] at H;exact H)|(simp only [hji14] at H ⊢;exact H)
            have hji14_ : (a0_0 / 2 ^ min (ji12).toNat 64) = ji14:=hji14
            have hji14z : (ji12) ≤ 64→(a0_0 / 2 ^ (ji12).toNat) = ji14:=shr_small hji14
            obtain rfl:=Option.some.inj H
            have hcz15_0 : wc.cell? ⟨gb112,0,none⟩ = some (.int .u64 a0_0):=(bC BK112.out 0).trans rfl
            have hcz15_1 : wc.cell? ⟨gb112,1,none⟩ = some (.int .u64 a0_1):=(bC BK112.out 1).trans rfl
            have hfz15_0:=bF BK112.out 0
            have hfz15_1:=bF BK112.out 1
            go_wp2
            go_ret
            exact ⟨by first|rfl|(simp [errW_none,errW_some] <;> rfl)|(simp only [← hji12,← hji14];first|rfl|(simp [errW_none,errW_some] <;> rfl))|(simp [*,errW_none,errW_some] <;> rfl),by repeat (first|(with_reducible first|exact HB.out|apply wA|apply wN|apply wD|refine wS ?_ GE112.out)|exact HB.out)⟩
          · rw [if_neg c13] at H
            exact absurd H (by simp)

end Go.Proofs.Ytidjigoghdghiaa.V
