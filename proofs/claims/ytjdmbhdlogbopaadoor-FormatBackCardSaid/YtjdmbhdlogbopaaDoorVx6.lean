/- Contracts of the program's functions, each: where the printed function answers, the call answers the same. Written by vprint.py, this session's own program over the kit's print.py; Lean checks it. No conditions beyond those that each states. -/
import Derived.Test.YtjdmbhdlogbopaaDoorVx0
import Derived.Test.YtjdmbhdlogbopaaDoorVx1
import Derived.Test.YtjdmbhdlogbopaaDoorVx2
import Derived.Test.YtjdmbhdlogbopaaDoorVx3
import Derived.Test.YtjdmbhdlogbopaaDoorVx4
import Derived.Test.YtjdmbhdlogbopaaDoorVx5
namespace Go.Proofs.YtjdmbhdlogbopaaDoor.V
open Go.RowKit Go.Proofs.YtjdmbhdlogbopaaDoorQ.PrintWords Go.Proofs.YtjdmbhdlogbopaaDoorQ.PrintLast Go.Proofs.YtjdmbhdlogbopaaDoorQ.PrintMore
open Bool renaming true → Y, false → Z
open List renaming setIfInBounds_toArray → lT, set_cons_zero → lZ, set_cons_succ → lS, map_toArray → mT, map_cons → mC, map_nil → mN, length_drop → lD, length_take → lK
open Act renaming put → aP
attribute [local go_sem] max2_int min2_int max_two min_two max_three min_three max_four min_four   -- for this text's walks alone
set_option linter.unusedVariables false
set_option linter.unusedSimpArgs false

/-! ### vernierlaw04_FormatFields: function 3 -/
noncomputable def vernierlaw04_FormatFields.f (k : Nat) (a0 : Int) (a1 : Int) : Option (Bool):=(format_Check.f a0 a1).bind fun t187 => ((vernierref04_Check.f a0 a1).bind fun t188 => ((format_Class.f k a0 a1).bind fun bt189 => ((format_Fields.f a0 a1).bind fun bt191 => ((vernierlaw04_fixed.f k).bind fun t195 => (if t195 = true then (if t187 = t188 then (if bt189.2 = t187 then (if bt191.2.2.2 = t187 then (if t188 = 0 then ((vernierref04_Parts.f a0 a1).bind fun bt196 => ((vernierref04_Class.f k a0 a1).bind fun t200 => (if bt189.1 = t200 then ((vernierlaw04_bit.f bt191.1).bind fun t201 => (if t201 = bt196.1 then (if bt191.2.1 = bt196.2.1 then (some (bt191.2.2.1 == bt196.2.2.1)) else (none)) else (none))) else (none)))) else (if bt189.1 = 0 then (if bt191.1 = true then (none) else (if bt191.2.1 = 0 then (some (bt191.2.2.1 == 0)) else (none))) else (none))) else (none)) else (none)) else (none)) else (none))))))
theorem vernierlaw04_FormatFields.mono : ∀ a0 a1 k,LeO (vernierlaw04_FormatFields.f k a0 a1) (vernierlaw04_FormatFields.f (k + 1) a0 a1):=by
  intro a0 a1 k
  unfold vernierlaw04_FormatFields.f
  repeat' first
      | (with_reducible exact format_Class.mono _ _ _)
      | (with_reducible exact vernierlaw04_fixed.mono _)
      | (with_reducible exact vernierref04_Class.mono _ _ _)
      | (with_reducible exact LeO.refl _)
      | (with_reducible exact LeO.none _)
      | (with_reducible refine LeO.ite ?_ ?_)
      | (with_reducible refine LeO.bind ?_ (fun _ => ?_))
      | exact format_Class.mono _ _ _
      | exact vernierlaw04_fixed.mono _
      | exact vernierref04_Class.mono _ _ _
      | exact LeO.none _
      | refine LeO.ite ?_ ?_
      | refine LeO.bind ?_ (fun _ => ?_)
set_option maxHeartbeats 8000000 in
set_option maxRecDepth 100000 in
theorem vernierlaw04_FormatFields.calls (k : Nat) (a0 : Int) (a1 : Int) (r : Bool) (w : World) (hG : A0 (GlobR w)) (h : vernierlaw04_FormatFields.f k a0 a1 = some r) :
    Calls Tryd.prog 3 #[.int .i64 a0,.int .u64 a1] w fun e w' => e = .returned (.bool r)∧Below w.heap.size w w':=by
  have HB:=A0.mk (Below.refl w.heap.size w)
  have H : ((format_Check.f a0 a1).bind fun t187 => ((vernierref04_Check.f a0 a1).bind fun t188 => ((format_Class.f k a0 a1).bind fun bt189 => ((format_Fields.f a0 a1).bind fun bt191 => ((vernierlaw04_fixed.f k).bind fun t195 => (if t195 = true then (if t187 = t188 then (if bt189.2 = t187 then (if bt191.2.2.2 = t187 then (if t188 = 0 then ((vernierref04_Parts.f a0 a1).bind fun bt196 => ((vernierref04_Class.f k a0 a1).bind fun t200 => (if bt189.1 = t200 then ((vernierlaw04_bit.f bt191.1).bind fun t201 => (if t201 = bt196.1 then (if bt191.2.1 = bt196.2.1 then (some (bt191.2.2.1 == bt196.2.2.1)) else (none)) else (none))) else (none)))) else (if bt189.1 = 0 then (if bt191.1 = true then (none) else (if bt191.2.1 = 0 then (some (bt191.2.2.1 == 0)) else (none))) else (none))) else (none)) else (none)) else (none)) else (none))))))) = some r:=h
  clear h;replace H:=Option.bind_eq_some_iff.mp H;obtain ⟨t187,A30,H⟩:=H
  replace H : ((vernierref04_Check.f a0 a1).bind fun t188 => ((format_Class.f k a0 a1).bind fun bt189 => ((format_Fields.f a0 a1).bind fun bt191 => ((vernierlaw04_fixed.f k).bind fun t195 => (if t195 = true then (if t187 = t188 then (if bt189.2 = t187 then (if bt191.2.2.2 = t187 then (if t188 = 0 then ((vernierref04_Parts.f a0 a1).bind fun bt196 => ((vernierref04_Class.f k a0 a1).bind fun t200 => (if bt189.1 = t200 then ((vernierlaw04_bit.f bt191.1).bind fun t201 => (if t201 = bt196.1 then (if bt191.2.1 = bt196.2.1 then (some (bt191.2.2.1 == bt196.2.2.1)) else (none)) else (none))) else (none)))) else (if bt189.1 = 0 then (if bt191.1 = true then (none) else (if bt191.2.1 = 0 then (some (bt191.2.2.1 == 0)) else (none))) else (none))) else (none)) else (none)) else (none)) else (none)))))) = some r:=H
  have A3:=A0.mk A30;clear A30;replace H:=Option.bind_eq_some_iff.mp H;obtain ⟨t188,A40,H⟩:=H
  replace H : ((format_Class.f k a0 a1).bind fun bt189 => ((format_Fields.f a0 a1).bind fun bt191 => ((vernierlaw04_fixed.f k).bind fun t195 => (if t195 = true then (if t187 = t188 then (if bt189.2 = t187 then (if bt191.2.2.2 = t187 then (if t188 = 0 then ((vernierref04_Parts.f a0 a1).bind fun bt196 => ((vernierref04_Class.f k a0 a1).bind fun t200 => (if bt189.1 = t200 then ((vernierlaw04_bit.f bt191.1).bind fun t201 => (if t201 = bt196.1 then (if bt191.2.1 = bt196.2.1 then (some (bt191.2.2.1 == bt196.2.2.1)) else (none)) else (none))) else (none)))) else (if bt189.1 = 0 then (if bt191.1 = true then (none) else (if bt191.2.1 = 0 then (some (bt191.2.2.1 == 0)) else (none))) else (none))) else (none)) else (none)) else (none)) else (none))))) = some r:=H
  have A4:=A0.mk A40;clear A40;replace H:=Option.bind_eq_some_iff.mp H;obtain ⟨⟨t189,t190⟩,A50,H⟩:=H
  replace H : ((format_Fields.f a0 a1).bind fun bt191 => ((vernierlaw04_fixed.f k).bind fun t195 => (if t195 = true then (if t187 = t188 then (if t190 = t187 then (if bt191.2.2.2 = t187 then (if t188 = 0 then ((vernierref04_Parts.f a0 a1).bind fun bt196 => ((vernierref04_Class.f k a0 a1).bind fun t200 => (if t189 = t200 then ((vernierlaw04_bit.f bt191.1).bind fun t201 => (if t201 = bt196.1 then (if bt191.2.1 = bt196.2.1 then (some (bt191.2.2.1 == bt196.2.2.1)) else (none)) else (none))) else (none)))) else (if t189 = 0 then (if bt191.1 = true then (none) else (if bt191.2.1 = 0 then (some (bt191.2.2.1 == 0)) else (none))) else (none))) else (none)) else (none)) else (none)) else (none)))) = some r:=H
  have A5:=A0.mk A50;clear A50;replace H:=Option.bind_eq_some_iff.mp H;obtain ⟨⟨t191,t192,t193,t194⟩,A60,H⟩:=H
  replace H : ((vernierlaw04_fixed.f k).bind fun t195 => (if t195 = true then (if t187 = t188 then (if t190 = t187 then (if t194 = t187 then (if t188 = 0 then ((vernierref04_Parts.f a0 a1).bind fun bt196 => ((vernierref04_Class.f k a0 a1).bind fun t200 => (if t189 = t200 then ((vernierlaw04_bit.f t191).bind fun t201 => (if t201 = bt196.1 then (if t192 = bt196.2.1 then (some (t193 == bt196.2.2.1)) else (none)) else (none))) else (none)))) else (if t189 = 0 then (if t191 = true then (none) else (if t192 = 0 then (some (t193 == 0)) else (none))) else (none))) else (none)) else (none)) else (none)) else (none))) = some r:=H
  have A6:=A0.mk A60;clear A60;replace H:=Option.bind_eq_some_iff.mp H;obtain ⟨t195,A70,H⟩:=H
  replace H : (if t195 = true then (if t187 = t188 then (if t190 = t187 then (if t194 = t187 then (if t188 = 0 then ((vernierref04_Parts.f a0 a1).bind fun bt196 => ((vernierref04_Class.f k a0 a1).bind fun t200 => (if t189 = t200 then ((vernierlaw04_bit.f t191).bind fun t201 => (if t201 = bt196.1 then (if t192 = bt196.2.1 then (some (t193 == bt196.2.2.1)) else (none)) else (none))) else (none)))) else (if t189 = 0 then (if t191 = true then (none) else (if t192 = 0 then (some (t193 == 0)) else (none))) else (none))) else (none)) else (none)) else (none)) else (none)) = some r:=H
  have A7:=A0.mk A70;clear A70
  by_cases c8 : t195 = true
  · subst c8
    have H1 : (if t187 = t188 then (if t190 = t187 then (if t194 = t187 then (if t188 = 0 then ((vernierref04_Parts.f a0 a1).bind fun bt196 => ((vernierref04_Class.f k a0 a1).bind fun t200 => (if t189 = t200 then ((vernierlaw04_bit.f t191).bind fun t201 => (if t201 = bt196.1 then (if t192 = bt196.2.1 then (some (t193 == bt196.2.2.1)) else (none)) else (none))) else (none)))) else (if t189 = 0 then (if t191 = true then (none) else (if t192 = 0 then (some (t193 == 0)) else (none))) else (none))) else (none)) else (none)) else (none)) = some r:=by rw [if_pos rfl] at H;exact H
    clear H;have H:=H1;clear H1
    by_cases c9 : t187 = t188
    · rw [if_pos c9] at H
      have c9b0 : (t187 == t188) = true:=beq_iff_eq.mpr c9
      have c9b1 : (t187 != t188) = false:=bne_eq_false_iff_eq.mpr c9
      clear c9
      by_cases c10 : t190 = t187
      · rw [if_pos c10] at H
        have c10b0 : (t190 == t187) = true:=beq_iff_eq.mpr c10
        have c10b1 : (t190 != t187) = false:=bne_eq_false_iff_eq.mpr c10
        clear c10
        by_cases c11 : t194 = t187
        · rw [if_pos c11] at H
          have c11b0 : (t194 == t187) = true:=beq_iff_eq.mpr c11
          have c11b1 : (t194 != t187) = false:=bne_eq_false_iff_eq.mpr c11
          clear c11
          by_cases c12 : t188 = 0
          · rw [if_pos c12] at H
            have c12b0 : (t188 == 0) = true:=beq_iff_eq.mpr c12
            have c12b1 : (t188 != 0) = false:=bne_eq_false_iff_eq.mpr c12
            clear c12;replace H:=Option.bind_eq_some_iff.mp H;obtain ⟨⟨t196,t197,t198,t199⟩,A130,H⟩:=H
            replace H : ((vernierref04_Class.f k a0 a1).bind fun t200 => (if t189 = t200 then ((vernierlaw04_bit.f t191).bind fun t201 => (if t201 = t196 then (if t192 = t197 then (some (t193 == t198)) else (none)) else (none))) else (none))) = some r:=H
            have A13:=A0.mk A130;clear A130;replace H:=Option.bind_eq_some_iff.mp H;obtain ⟨t200,A140,H⟩:=H
            replace H : (if t189 = t200 then ((vernierlaw04_bit.f t191).bind fun t201 => (if t201 = t196 then (if t192 = t197 then (some (t193 == t198)) else (none)) else (none))) else (none)) = some r:=H
            have A14:=A0.mk A140;clear A140
            by_cases c15 : t189 = t200
            · rw [if_pos c15] at H
              have c15b0 : (t189 == t200) = true:=beq_iff_eq.mpr c15
              have c15b1 : (t189 != t200) = false:=bne_eq_false_iff_eq.mpr c15
              clear c15;replace H:=Option.bind_eq_some_iff.mp H;obtain ⟨t201,A160,H⟩:=H
              replace H : (if t201 = t196 then (if t192 = t197 then (some (t193 == t198)) else (none)) else (none)) = some r:=H
              have A16:=A0.mk A160;clear A160
              by_cases c17 : t201 = t196
              · rw [if_pos c17] at H
                have c17b0 : (t201 == t196) = true:=beq_iff_eq.mpr c17
                have c17b1 : (t201 != t196) = false:=bne_eq_false_iff_eq.mpr c17
                clear c17
                by_cases c18 : t192 = t197
                · rw [if_pos c18] at H
                  have c18b0 : (t192 == t197) = true:=beq_iff_eq.mpr c18
                  have c18b1 : (t192 != t197) = false:=bne_eq_false_iff_eq.mpr c18
                  clear c18;obtain rfl:=Option.some.inj H
                  go_enter Tryd.func3,Tryd.ntmps3
                  go_wp2_with (first|((with_reducible refine gC (f:=11) rfl ?_);refine goesL_ (some 19) rfl rfl Tryd.func11 (by kernel_rfl) rfl #[.int .i64 a0,.int .u64 a1] rfl (by (try simp only [mT,mC,mN]);first|done|rfl|(simp only [lD,lK];rfl)) ?_;(with_reducible refine (format_Check.calls a0 a1 t187 _ ?hG A3.out).mono ?_);(case hG => exact GlobR.below hG.out (by repeat (first|(with_reducible first|exact HB.out|apply wA|apply wN|apply wD)|exact HB.out)));rintro e w19 ⟨rfl,hb⟩;refine ⟨_,rfl,?_⟩;have n0_:=A0.mk (wT (by repeat (first|(with_reducible first|exact HB.out|apply wA|apply wN|apply wD)|exact HB.out)) hb);clear HB;have HB:=n0_;clear n0_;(try clear hb);(try clear hb2);(try clear hk);(try clear hi))|((with_reducible refine gC (f:=12) rfl ?_);refine goesL_ (some 22) rfl rfl Tryd.func12 (by kernel_rfl) rfl #[.int .i64 a0,.int .u64 a1] rfl (by (try simp only [mT,mC,mN]);first|done|rfl|(simp only [lD,lK];rfl)) ?_;(with_reducible refine (vernierref04_Check.calls a0 a1 t188 _ A4.out).mono ?_);rintro e w20 ⟨rfl,hb⟩;refine ⟨_,rfl,?_⟩;have n0_:=A0.mk (wT (by repeat (first|(with_reducible first|exact HB.out|apply wA|apply wN|apply wD)|exact HB.out)) hb);clear HB;have HB:=n0_;clear n0_;(try clear hb);(try clear hb2);(try clear hk);(try clear hi))|((with_reducible refine gC (f:=13) rfl ?_);refine goesL_ (some 26) rfl rfl Tryd.func13 (by kernel_rfl) rfl #[.int .i64 a0,.int .u64 a1] rfl (by (try simp only [mT,mC,mN]);first|done|rfl|(simp only [lD,lK];rfl)) ?_;(with_reducible refine (format_Class.calls k a0 a1 t189 t190 _ ?hG A5.out).mono ?_);(case hG => exact GlobR.below hG.out (by repeat (first|(with_reducible first|exact HB.out|apply wA|apply wN|apply wD)|exact HB.out)));rintro e w21 ⟨rfl,hb⟩;refine ⟨_,rfl,?_⟩;have n0_:=A0.mk (wT (by repeat (first|(with_reducible first|exact HB.out|apply wA|apply wN|apply wD)|exact HB.out)) hb);clear HB;have HB:=n0_;clear n0_;(try clear hb);(try clear hb2);(try clear hk);(try clear hi))|((with_reducible refine gC (f:=14) rfl ?_);refine goesL_ (some 32) rfl rfl Tryd.func14 (by kernel_rfl) rfl #[.int .i64 a0,.int .u64 a1] rfl (by (try simp only [mT,mC,mN]);first|done|rfl|(simp only [lD,lK];rfl)) ?_;(with_reducible refine (format_Fields.calls a0 a1 t191 t192 t193 t194 _ ?hG A6.out).mono ?_);(case hG => exact GlobR.below hG.out (by repeat (first|(with_reducible first|exact HB.out|apply wA|apply wN|apply wD)|exact HB.out)));rintro e w22 ⟨rfl,hb⟩;refine ⟨_,rfl,?_⟩;have n0_:=A0.mk (wT (by repeat (first|(with_reducible first|exact HB.out|apply wA|apply wN|apply wD)|exact HB.out)) hb);clear HB;have HB:=n0_;clear n0_;(try clear hb);(try clear hb2);(try clear hk);(try clear hi))|((with_reducible refine gC (f:=15) rfl ?_);refine goesL_ (some 37) rfl rfl Tryd.func15 (by kernel_rfl) rfl #[] rfl (by (try simp only [mT,mC,mN]);first|done|rfl|(simp only [lD,lK];rfl)) ?_;(with_reducible refine (vernierlaw04_fixed.calls k  true _ ?hG A7.out).mono ?_);(case hG => exact GlobR.below hG.out (by repeat (first|(with_reducible first|exact HB.out|apply wA|apply wN|apply wD)|exact HB.out)));rintro e w23 ⟨rfl,hb⟩;refine ⟨_,rfl,?_⟩;have n0_:=A0.mk (wT (by repeat (first|(with_reducible first|exact HB.out|apply wA|apply wN|apply wD)|exact HB.out)) hb);clear HB;have HB:=n0_;clear n0_;(try clear hb);(try clear hb2);(try clear hk);(try clear hi))|((with_reducible refine gC (f:=16) rfl ?_);refine goesL_ (some 73) rfl rfl Tryd.func16 (by kernel_rfl) rfl #[.int .i64 a0,.int .u64 a1] rfl (by (try simp only [mT,mC,mN]);first|done|rfl|(simp only [lD,lK];rfl)) ?_;(with_reducible refine (vernierref04_Parts.calls a0 a1 t196 t197 t198 t199 _ A13.out).mono ?_);rintro e w24 ⟨rfl,hb⟩;refine ⟨_,rfl,?_⟩;have n0_:=A0.mk (wT (by repeat (first|(with_reducible first|exact HB.out|apply wA|apply wN|apply wD)|exact HB.out)) hb);clear HB;have HB:=n0_;clear n0_;(try clear hb);(try clear hb2);(try clear hk);(try clear hi))|((with_reducible refine gC (f:=17) rfl ?_);refine goesL_ (some 81) rfl rfl Tryd.func17 (by kernel_rfl) rfl #[.int .i64 a0,.int .u64 a1] rfl (by (try simp only [mT,mC,mN]);first|done|rfl|(simp only [lD,lK];rfl)) ?_;(with_reducible refine (vernierref04_Class.calls k a0 a1 t200 _ A14.out).mono ?_);rintro e w25 ⟨rfl,hb⟩;refine ⟨_,rfl,?_⟩;have n0_:=A0.mk (wT (by repeat (first|(with_reducible first|exact HB.out|apply wA|apply wN|apply wD)|exact HB.out)) hb);clear HB;have HB:=n0_;clear n0_;(try clear hb);(try clear hb2);(try clear hk);(try clear hi))|(go_at_call 18;(with_reducible refine (vernierlaw04_bit.calls t191 t201 _ A16.out).mono ?_);rintro e w' ⟨rfl,⟨nd,rfl⟩⟩))
                  go_ret
                  exact ⟨by first|rfl|(simp [errW_none,errW_some] <;> rfl)|(simp [*,errW_none,errW_some] <;> rfl)|(simp [wrap64];done),by repeat (first|(with_reducible first|exact HB.out|apply wA|apply wN|apply wD)|exact HB.out)⟩
                · rw [if_neg c18] at H
                  exact absurd H (by simp)
              · rw [if_neg c17] at H
                exact absurd H (by simp)
            · rw [if_neg c15] at H
              exact absurd H (by simp)
          · rw [if_neg c12] at H
            have c12b0 : (t188 == 0) = false:=beq_eq_false_iff_ne.mpr c12
            have c12b1 : (t188 != 0) = true:=bne_iff_ne.mpr c12
            by_cases c26 : t189 = 0
            · rw [if_pos c26] at H
              have c26b0 : (t189 == 0) = true:=beq_iff_eq.mpr c26
              have c26b1 : (t189 != 0) = false:=bne_eq_false_iff_eq.mpr c26
              clear c26
              by_cases c27 : t191 = true
              · subst c27
                have H1 : (none) = some r:=by rw [if_pos rfl] at H;exact H
                clear H;have H:=H1;clear H1
                exact absurd H (by simp)
              · replace c27:=Bool.eq_false_iff.mpr c27
                subst c27
                have H1 : (if t192 = 0 then (some (t193 == 0)) else (none)) = some r:=by rw [if_neg (show ¬ (false = true) by decide)] at H;exact H
                clear H;have H:=H1;clear H1
                by_cases c28 : t192 = 0
                · rw [if_pos c28] at H
                  have c28b0 : (t192 == 0) = true:=beq_iff_eq.mpr c28
                  have c28b1 : (t192 != 0) = false:=bne_eq_false_iff_eq.mpr c28
                  clear c28;obtain rfl:=Option.some.inj H
                  go_enter Tryd.func3,Tryd.ntmps3
                  go_wp2_with (first|((with_reducible refine gC (f:=11) rfl ?_);refine goesL_ (some 19) rfl rfl Tryd.func11 (by kernel_rfl) rfl #[.int .i64 a0,.int .u64 a1] rfl (by (try simp only [mT,mC,mN]);first|done|rfl|(simp only [lD,lK];rfl)) ?_;(with_reducible refine (format_Check.calls a0 a1 t187 _ ?hG A3.out).mono ?_);(case hG => exact GlobR.below hG.out (by repeat (first|(with_reducible first|exact HB.out|apply wA|apply wN|apply wD)|exact HB.out)));rintro e w29 ⟨rfl,hb⟩;refine ⟨_,rfl,?_⟩;have n0_:=A0.mk (wT (by repeat (first|(with_reducible first|exact HB.out|apply wA|apply wN|apply wD)|exact HB.out)) hb);clear HB;have HB:=n0_;clear n0_;(try clear hb);(try clear hb2);(try clear hk);(try clear hi))|((with_reducible refine gC (f:=12) rfl ?_);refine goesL_ (some 22) rfl rfl Tryd.func12 (by kernel_rfl) rfl #[.int .i64 a0,.int .u64 a1] rfl (by (try simp only [mT,mC,mN]);first|done|rfl|(simp only [lD,lK];rfl)) ?_;(with_reducible refine (vernierref04_Check.calls a0 a1 t188 _ A4.out).mono ?_);rintro e w30 ⟨rfl,hb⟩;refine ⟨_,rfl,?_⟩;have n0_:=A0.mk (wT (by repeat (first|(with_reducible first|exact HB.out|apply wA|apply wN|apply wD)|exact HB.out)) hb);clear HB;have HB:=n0_;clear n0_;(try clear hb);(try clear hb2);(try clear hk);(try clear hi))|((with_reducible refine gC (f:=13) rfl ?_);refine goesL_ (some 26) rfl rfl Tryd.func13 (by kernel_rfl) rfl #[.int .i64 a0,.int .u64 a1] rfl (by (try simp only [mT,mC,mN]);first|done|rfl|(simp only [lD,lK];rfl)) ?_;(with_reducible refine (format_Class.calls k a0 a1 t189 t190 _ ?hG A5.out).mono ?_);(case hG => exact GlobR.below hG.out (by repeat (first|(with_reducible first|exact HB.out|apply wA|apply wN|apply wD)|exact HB.out)));rintro e w31 ⟨rfl,hb⟩;refine ⟨_,rfl,?_⟩;have n0_:=A0.mk (wT (by repeat (first|(with_reducible first|exact HB.out|apply wA|apply wN|apply wD)|exact HB.out)) hb);clear HB;have HB:=n0_;clear n0_;(try clear hb);(try clear hb2);(try clear hk);(try clear hi))|((with_reducible refine gC (f:=14) rfl ?_);refine goesL_ (some 32) rfl rfl Tryd.func14 (by kernel_rfl) rfl #[.int .i64 a0,.int .u64 a1] rfl (by (try simp only [mT,mC,mN]);first|done|rfl|(simp only [lD,lK];rfl)) ?_;(with_reducible refine (format_Fields.calls a0 a1 false t192 t193 t194 _ ?hG A6.out).mono ?_);(case hG => exact GlobR.below hG.out (by repeat (first|(with_reducible first|exact HB.out|apply wA|apply wN|apply wD)|exact HB.out)));rintro e w32 ⟨rfl,hb⟩;refine ⟨_,rfl,?_⟩;have n0_:=A0.mk (wT (by repeat (first|(with_reducible first|exact HB.out|apply wA|apply wN|apply wD)|exact HB.out)) hb);clear HB;have HB:=n0_;clear n0_;(try clear hb);(try clear hb2);(try clear hk);(try clear hi))|((with_reducible refine gC (f:=15) rfl ?_);refine goesL_ (some 37) rfl rfl Tryd.func15 (by kernel_rfl) rfl #[] rfl (by (try simp only [mT,mC,mN]);first|done|rfl|(simp only [lD,lK];rfl)) ?_;(with_reducible refine (vernierlaw04_fixed.calls k  true _ ?hG A7.out).mono ?_);(case hG => exact GlobR.below hG.out (by repeat (first|(with_reducible first|exact HB.out|apply wA|apply wN|apply wD)|exact HB.out)));rintro e w33 ⟨rfl,hb⟩;refine ⟨_,rfl,?_⟩;have n0_:=A0.mk (wT (by repeat (first|(with_reducible first|exact HB.out|apply wA|apply wN|apply wD)|exact HB.out)) hb);clear HB;have HB:=n0_;clear n0_;(try clear hb);(try clear hb2);(try clear hk);(try clear hi)))
                  go_ret
                  exact ⟨by first|rfl|(simp [errW_none,errW_some] <;> rfl)|(simp [*,errW_none,errW_some] <;> rfl)|(simp [wrap64];done),by repeat (first|(with_reducible first|exact HB.out|apply wA|apply wN|apply wD)|exact HB.out)⟩
                · rw [if_neg c28] at H
                  exact absurd H (by simp)
            · rw [if_neg c26] at H
              exact absurd H (by simp)
        · rw [if_neg c11] at H
          exact absurd H (by simp)
      · rw [if_neg c10] at H
        exact absurd H (by simp)
    · rw [if_neg c9] at H
      exact absurd H (by simp)
  · replace c8:=Bool.eq_false_iff.mpr c8
    subst c8
    have H1 : (none) = some r:=by rw [if_neg (show ¬ (false = true) by decide)] at H;exact H
    clear H;have H:=H1;clear H1
    exact absurd H (by simp)

/-- THE ONE PURE STATEMENT of vernierlaw04_FormatFields: yours. -/
def vernierlaw04_FormatFields.Pure : Prop:=∀ (a0 : Int) (a1 : Int),(Lit.int .i64 a0).wf = true→(Lit.int .u64 a1).wf = true→∃ k,vernierlaw04_FormatFields.f k a0 a1 = some true
theorem vernierlaw04_FormatFields.walk (P : vernierlaw04_FormatFields.Pure) (a0 : Int) (a1 : Int) (w : World) (hG : A0 (GlobR w)) (w0 : (Lit.int .i64 a0).wf = true) (w1 : (Lit.int .u64 a1).wf = true) :
    Calls Tryd.prog 3 #[.int .i64 a0,.int .u64 a1] w fun e w' => e = .returned (.bool true)∧Below w.heap.size w w':=by
  obtain ⟨k,h⟩:=P a0 a1 w0 w1
  refine (vernierlaw04_FormatFields.calls k a0 a1 true w hG h).mono ?_
  rintro e w' ⟨rfl,hd⟩
  exact ⟨rfl,hd⟩

/-! ### vernierlaw04_pattern: function 25 -/
def vernierlaw04_pattern.f (a0 : Int) (a1 : Int) (a2 : Int) (a3 : Bool) : Option (Bool):=if a3 = true then (if a0 = a2 then (some (a1 == 0)) else (some false)) else (if a0 = 0 then (some (a1 == 2)) else (some false))
set_option maxHeartbeats 8000000 in
set_option maxRecDepth 100000 in
theorem vernierlaw04_pattern.calls (a0 : Int) (a1 : Int) (a2 : Int) (a3 : Bool) (r : Bool) (w : World) (h : vernierlaw04_pattern.f a0 a1 a2 a3 = some r) :
    Calls Tryd.prog 25 #[.int .u64 a0,.int .i64 a1,.int .u64 a2,.bool a3] w fun e w' => e = .returned (.bool r)∧Drawn0 w w':=by
  have H : (if a3 = true then (if a0 = a2 then (some (a1 == 0)) else (some false)) else (if a0 = 0 then (some (a1 == 2)) else (some false))) = some r:=h
  clear h
  by_cases c5 : a3 = true
  · subst c5
    have H1 : (if a0 = a2 then (some (a1 == 0)) else (some false)) = some r:=by rw [if_pos rfl] at H;exact H
    clear H;have H:=H1;clear H1
    by_cases c6 : a0 = a2
    · rw [if_pos c6] at H
      have c6b0 : (a0 == a2) = true:=beq_iff_eq.mpr c6
      have c6b1 : (a0 != a2) = false:=bne_eq_false_iff_eq.mpr c6
      clear c6;obtain rfl:=Option.some.inj H
      go_enter Tryd.func25,Tryd.ntmps25
      go_wp2
      go_ret
      exact ⟨by first|rfl|(simp;done)|(simp [*];done)|(simp [wrap64];done),by repeat (first|exact Drawn0.refl _|apply Drawn0.step)⟩
    · rw [if_neg c6] at H
      have c6b0 : (a0 == a2) = false:=beq_eq_false_iff_ne.mpr c6
      have c6b1 : (a0 != a2) = true:=bne_iff_ne.mpr c6
      obtain rfl:=Option.some.inj H
      go_enter Tryd.func25,Tryd.ntmps25
      go_wp2
      go_ret
      exact ⟨by first|rfl|(simp;done)|(simp [*];done)|(simp [wrap64];done),by repeat (first|exact Drawn0.refl _|apply Drawn0.step)⟩
  · replace c5:=Bool.eq_false_iff.mpr c5
    subst c5
    have H1 : (if a0 = 0 then (some (a1 == 2)) else (some false)) = some r:=by rw [if_neg (show ¬ (false = true) by decide)] at H;exact H
    clear H;have H:=H1;clear H1
    by_cases c7 : a0 = 0
    · rw [if_pos c7] at H
      have c7b0 : (a0 == 0) = true:=beq_iff_eq.mpr c7
      have c7b1 : (a0 != 0) = false:=bne_eq_false_iff_eq.mpr c7
      clear c7;obtain rfl:=Option.some.inj H
      go_enter Tryd.func25,Tryd.ntmps25
      go_wp2
      go_ret
      exact ⟨by first|rfl|(simp;done)|(simp [*];done)|(simp [wrap64];done),by repeat (first|exact Drawn0.refl _|apply Drawn0.step)⟩
    · rw [if_neg c7] at H
      have c7b0 : (a0 == 0) = false:=beq_eq_false_iff_ne.mpr c7
      have c7b1 : (a0 != 0) = true:=bne_iff_ne.mpr c7
      obtain rfl:=Option.some.inj H
      go_enter Tryd.func25,Tryd.ntmps25
      go_wp2
      go_ret
      exact ⟨by first|rfl|(simp;done)|(simp [*];done)|(simp [wrap64];done),by repeat (first|exact Drawn0.refl _|apply Drawn0.step)⟩

/-! ### format_one: function 74 -/
def format_one.f (a0_0 : Int) (a0_1 : Int) (a0_2 : Int) (a0_3 : Int) : Option (Int):=some 1
set_option maxHeartbeats 8000000 in
set_option maxRecDepth 100000 in
theorem format_one.calls (a0_0 : Int) (a0_1 : Int) (a0_2 : Int) (a0_3 : Int) (r : Int) (w : World) (h : format_one.f a0_0 a0_1 a0_2 a0_3 = some r) :
    Calls Tryd.prog 74 #[.agg #[.int .i64 a0_0,.int .i64 a0_1,.int .i64 a0_2,.int .i64 a0_3]] w fun e w' => e = .returned (.int .u64 r)∧Below w.heap.size w w':=by
  have hu39:=Tryd.underlying39
  have HB:=A0.mk (Below.refl w.heap.size w)
  have H : (some 1) = some r:=h
  clear h;obtain rfl:=Option.some.inj H
  go_enter Tryd.func74,Tryd.ntmps74
  go_wp2_with (first|((with_reducible refine gD (N:=1) rfl ?_);refine bE ?hg (N:=1) ?hd (cs:=#[.int .i64 a0_0,.int .i64 a0_1,.int .i64 a0_2,.int .i64 a0_3]) (t:=39) ?hr ?_;(case hd => rfl);(case hg => rfl);(case hr => first|(go_simp;done)|(go_simp;rfl));intro gb202 hg w2 hbox hb;have n0_:=A0.mk (wT (by repeat (first|(with_reducible first|exact HB.out|apply wA|apply wN|apply wD)|exact HB.out)) hb);have n1_:=A0.mk (hbox);have n2_:=A0.mk ((by rw [hg];exact (wZ (by repeat (first|(with_reducible first|exact HB.out|apply wA|apply wN|apply wD)|exact HB.out))) : w.heap.size ≤ gb202));have n3_:=A0.mk ((by rw [hg];exact (wZ (by repeat (first|(with_reducible first|exact HB.out|apply wA|apply wN|apply wD)|exact HB.out))) : w.heap.size ≤ gb202));clear HB;have HB:=n0_;have BK202:=n1_;have GW202:=n2_;have GE202:=n3_;clear n0_ n1_ n2_ n3_;clear hb hbox hg))
  go_ret
  exact ⟨by first|rfl|(simp [errW_none,errW_some] <;> rfl)|(simp [*,errW_none,errW_some] <;> rfl)|(simp [wrap64];done),by repeat (first|(with_reducible first|exact HB.out|apply wA|apply wN|apply wD|refine wS ?_ GE202.out)|exact HB.out)⟩

/-! ### format_fraction: function 75 -/
def format_fraction.f (a0_0 : Int) (a0_1 : Int) (a0_2 : Int) (a0_3 : Int) : Option (Int):=(format_ones.f (wrap64 (a0_1 - 1))).bind fun t204 => (some t204)
set_option maxHeartbeats 8000000 in
set_option maxRecDepth 100000 in
theorem format_fraction.calls (a0_0 : Int) (a0_1 : Int) (a0_2 : Int) (a0_3 : Int) (r : Int) (w : World) (h : format_fraction.f a0_0 a0_1 a0_2 a0_3 = some r) :
    Calls Tryd.prog 75 #[.agg #[.int .i64 a0_0,.int .i64 a0_1,.int .i64 a0_2,.int .i64 a0_3]] w fun e w' => e = .returned (.int .u64 r)∧Below w.heap.size w w':=by
  have hu39:=Tryd.underlying39
  have HB:=A0.mk (Below.refl w.heap.size w)
  have H : ((format_ones.f (wrap64 (a0_1 - 1))).bind fun t204 => (some t204)) = some r:=h
  clear h;replace H:=Option.bind_eq_some_iff.mp H;obtain ⟨t204,A20,H⟩:=H
  replace H : (some t204) = some r:=H
  have A2:=A0.mk A20;clear A20;obtain rfl:=Option.some.inj H
  go_enter Tryd.func75,Tryd.ntmps75
  go_wp2_with (first|((with_reducible refine gD (N:=1) rfl ?_);refine bE ?hg (N:=1) ?hd (cs:=#[.int .i64 a0_0,.int .i64 a0_1,.int .i64 a0_2,.int .i64 a0_3]) (t:=39) ?hr ?_;(case hd => rfl);(case hg => rfl);(case hr => first|(go_simp;done)|(go_simp;rfl));intro gb203 hg w3 hbox hb;have n0_:=A0.mk (wT (by repeat (first|(with_reducible first|exact HB.out|apply wA|apply wN|apply wD)|exact HB.out)) hb);have n1_:=A0.mk (hbox);have n2_:=A0.mk ((by rw [hg];exact (wZ (by repeat (first|(with_reducible first|exact HB.out|apply wA|apply wN|apply wD)|exact HB.out))) : w.heap.size ≤ gb203));have n3_:=A0.mk ((by rw [hg];exact (wZ (by repeat (first|(with_reducible first|exact HB.out|apply wA|apply wN|apply wD)|exact HB.out))) : w.heap.size ≤ gb203));clear HB;have HB:=n0_;have BK203:=n1_;have GW203:=n2_;have GE203:=n3_;clear n0_ n1_ n2_ n3_;clear hb hbox hg;have hcz4_0 : w3.cell? ⟨gb203,0,none⟩ = some (.int .i64 a0_0):=(bC BK203.out 0).trans rfl;have hcz4_1 : w3.cell? ⟨gb203,1,none⟩ = some (.int .i64 a0_1):=(bC BK203.out 1).trans rfl;have hcz4_2 : w3.cell? ⟨gb203,2,none⟩ = some (.int .i64 a0_2):=(bC BK203.out 2).trans rfl;have hcz4_3 : w3.cell? ⟨gb203,3,none⟩ = some (.int .i64 a0_3):=(bC BK203.out 3).trans rfl;have hfz4_0:=bF BK203.out 0;have hfz4_1:=bF BK203.out 1;have hfz4_2:=bF BK203.out 2;have hfz4_3:=bF BK203.out 3)|((with_reducible refine gC (f:=47) rfl ?_);refine goesL_ (some 6) rfl rfl Tryd.func47 (by kernel_rfl) rfl #[.int .i64 (wrap64 (a0_1 - 1))] rfl (by (try simp only [mT,mC,mN]);first|done|rfl|(simp only [lD,lK];rfl)) ?_;(with_reducible refine (format_ones.calls (wrap64 (a0_1 - 1)) t204 _ A2.out).mono ?_);rintro e w' ⟨rfl,⟨nd,rfl⟩⟩;refine ⟨_,rfl,?_⟩))
  go_ret
  exact ⟨by first|rfl|(simp [errW_none,errW_some] <;> rfl)|(simp [*,errW_none,errW_some] <;> rfl)|(simp [wrap64];done),by repeat (first|(with_reducible first|exact HB.out|apply wA|apply wN|apply wD|refine wS ?_ GE203.out)|exact HB.out)⟩

end Go.Proofs.YtjdmbhdlogbopaaDoor.V
