/- Contracts of the program's functions, each: where the printed function answers, the call answers the same. Written by vprint.py, this session's own program over the kit's print.py; Lean checks it. No conditions beyond those that each states. -/
import Derived.Test.YtjdmbhdlogbopaaDoorVx0
import Derived.Test.YtjdmbhdlogbopaaDoorVx1
import Derived.Test.YtjdmbhdlogbopaaDoorVx4
import Derived.Test.YtjdmbhdlogbopaaDoorVx9
import Derived.Test.YtjdmbhdlogbopaaDoorVx13
namespace Go.Proofs.YtjdmbhdlogbopaaDoor.V
open Go.RowKit Go.Proofs.YtjdmbhdlogbopaaDoorQ.PrintWords Go.Proofs.YtjdmbhdlogbopaaDoorQ.PrintLast Go.Proofs.YtjdmbhdlogbopaaDoorQ.PrintMore
open Bool renaming true → Y, false → Z
open List renaming setIfInBounds_toArray → lT, set_cons_zero → lZ, set_cons_succ → lS, map_toArray → mT, map_cons → mC, map_nil → mN, length_drop → lD, length_take → lK
open Act renaming put → aP
attribute [local go_sem] max2_int min2_int max_two min_two max_three min_three max_four min_four   -- for this text's walks alone
set_option linter.unusedVariables false
set_option linter.unusedSimpArgs false

/-! ### vernierlaw04_FormatSigns: function 6 -/
noncomputable def vernierlaw04_FormatSigns.f (k : Nat) (a0 : Int) (a1 : Int) (a2 : Int) : Option (Bool):=(format_Neg.f a0 a1).bind fun bt402 => ((format_Abs.f a0 a1).bind fun bt404 => ((format_CopySign.f a0 a1 a2).bind fun bt406 => ((vernierref04_Check.f a0 a1).bind fun t408 => ((vernierlaw04_fixed.f k).bind fun t409 => (if t409 = true then (if bt402.2 = t408 then (if bt404.2 = t408 then (if t408 = 0 then ((vernierref04_Turn.f a0 a1).bind fun t410 => (if bt402.1 = t410 then ((vernierref04_Plain.f a0 a1).bind fun t411 => (if bt404.1 = t411 then ((vernierref04_Check.f a0 a2).bind fun t412 => (if t412 = 0 then ((vernierref04_Parts.f a0 a1).bind fun bt413 => ((vernierref04_Sign.f a0 a2).bind fun t417 => (if bt406.2 = 0 then ((vernierref04_Make.f a0 t417 bt413.2.1 bt413.2.2.1).bind fun t418 => (some (bt406.1 == t418))) else (none)))) else (if bt406.1 = 0 then (some (bt406.2 == t412)) else (none)))) else (none))) else (none))) else (if bt402.1 = 0 then (if bt404.1 = 0 then (if bt406.1 = 0 then (some (bt406.2 == t408)) else (none)) else (none)) else (none))) else (none)) else (none)) else (none))))))
theorem vernierlaw04_FormatSigns.mono : ∀ a0 a1 a2 k,LeO (vernierlaw04_FormatSigns.f k a0 a1 a2) (vernierlaw04_FormatSigns.f (k + 1) a0 a1 a2):=by
  intro a0 a1 a2 k
  unfold vernierlaw04_FormatSigns.f
  repeat' first
      | (with_reducible exact vernierlaw04_fixed.mono _)
      | (with_reducible exact LeO.refl _)
      | (with_reducible exact LeO.none _)
      | (with_reducible refine LeO.ite ?_ ?_)
      | (with_reducible refine LeO.bind ?_ (fun _ => ?_))
      | exact vernierlaw04_fixed.mono _
      | exact LeO.none _
      | refine LeO.ite ?_ ?_
      | refine LeO.bind ?_ (fun _ => ?_)
set_option maxHeartbeats 8000000 in
set_option maxRecDepth 100000 in
theorem vernierlaw04_FormatSigns.calls (k : Nat) (a0 : Int) (a1 : Int) (a2 : Int) (r : Bool) (w : World) (hG : A0 (GlobR w)) (h : vernierlaw04_FormatSigns.f k a0 a1 a2 = some r) :
    Calls Tryd.prog 6 #[.int .i64 a0,.int .u64 a1,.int .u64 a2] w fun e w' => e = .returned (.bool r)∧Below w.heap.size w w':=by
  have HB:=A0.mk (Below.refl w.heap.size w)
  have H : ((format_Neg.f a0 a1).bind fun bt402 => ((format_Abs.f a0 a1).bind fun bt404 => ((format_CopySign.f a0 a1 a2).bind fun bt406 => ((vernierref04_Check.f a0 a1).bind fun t408 => ((vernierlaw04_fixed.f k).bind fun t409 => (if t409 = true then (if bt402.2 = t408 then (if bt404.2 = t408 then (if t408 = 0 then ((vernierref04_Turn.f a0 a1).bind fun t410 => (if bt402.1 = t410 then ((vernierref04_Plain.f a0 a1).bind fun t411 => (if bt404.1 = t411 then ((vernierref04_Check.f a0 a2).bind fun t412 => (if t412 = 0 then ((vernierref04_Parts.f a0 a1).bind fun bt413 => ((vernierref04_Sign.f a0 a2).bind fun t417 => (if bt406.2 = 0 then ((vernierref04_Make.f a0 t417 bt413.2.1 bt413.2.2.1).bind fun t418 => (some (bt406.1 == t418))) else (none)))) else (if bt406.1 = 0 then (some (bt406.2 == t412)) else (none)))) else (none))) else (none))) else (if bt402.1 = 0 then (if bt404.1 = 0 then (if bt406.1 = 0 then (some (bt406.2 == t408)) else (none)) else (none)) else (none))) else (none)) else (none)) else (none))))))) = some r:=h
  clear h;replace H:=Option.bind_eq_some_iff.mp H;obtain ⟨⟨t402,t403⟩,A40,H⟩:=H
  replace H : ((format_Abs.f a0 a1).bind fun bt404 => ((format_CopySign.f a0 a1 a2).bind fun bt406 => ((vernierref04_Check.f a0 a1).bind fun t408 => ((vernierlaw04_fixed.f k).bind fun t409 => (if t409 = true then (if t403 = t408 then (if bt404.2 = t408 then (if t408 = 0 then ((vernierref04_Turn.f a0 a1).bind fun t410 => (if t402 = t410 then ((vernierref04_Plain.f a0 a1).bind fun t411 => (if bt404.1 = t411 then ((vernierref04_Check.f a0 a2).bind fun t412 => (if t412 = 0 then ((vernierref04_Parts.f a0 a1).bind fun bt413 => ((vernierref04_Sign.f a0 a2).bind fun t417 => (if bt406.2 = 0 then ((vernierref04_Make.f a0 t417 bt413.2.1 bt413.2.2.1).bind fun t418 => (some (bt406.1 == t418))) else (none)))) else (if bt406.1 = 0 then (some (bt406.2 == t412)) else (none)))) else (none))) else (none))) else (if t402 = 0 then (if bt404.1 = 0 then (if bt406.1 = 0 then (some (bt406.2 == t408)) else (none)) else (none)) else (none))) else (none)) else (none)) else (none)))))) = some r:=H
  have A4:=A0.mk A40;clear A40;replace H:=Option.bind_eq_some_iff.mp H;obtain ⟨⟨t404,t405⟩,A50,H⟩:=H
  replace H : ((format_CopySign.f a0 a1 a2).bind fun bt406 => ((vernierref04_Check.f a0 a1).bind fun t408 => ((vernierlaw04_fixed.f k).bind fun t409 => (if t409 = true then (if t403 = t408 then (if t405 = t408 then (if t408 = 0 then ((vernierref04_Turn.f a0 a1).bind fun t410 => (if t402 = t410 then ((vernierref04_Plain.f a0 a1).bind fun t411 => (if t404 = t411 then ((vernierref04_Check.f a0 a2).bind fun t412 => (if t412 = 0 then ((vernierref04_Parts.f a0 a1).bind fun bt413 => ((vernierref04_Sign.f a0 a2).bind fun t417 => (if bt406.2 = 0 then ((vernierref04_Make.f a0 t417 bt413.2.1 bt413.2.2.1).bind fun t418 => (some (bt406.1 == t418))) else (none)))) else (if bt406.1 = 0 then (some (bt406.2 == t412)) else (none)))) else (none))) else (none))) else (if t402 = 0 then (if t404 = 0 then (if bt406.1 = 0 then (some (bt406.2 == t408)) else (none)) else (none)) else (none))) else (none)) else (none)) else (none))))) = some r:=H
  have A5:=A0.mk A50;clear A50;replace H:=Option.bind_eq_some_iff.mp H;obtain ⟨⟨t406,t407⟩,A60,H⟩:=H
  replace H : ((vernierref04_Check.f a0 a1).bind fun t408 => ((vernierlaw04_fixed.f k).bind fun t409 => (if t409 = true then (if t403 = t408 then (if t405 = t408 then (if t408 = 0 then ((vernierref04_Turn.f a0 a1).bind fun t410 => (if t402 = t410 then ((vernierref04_Plain.f a0 a1).bind fun t411 => (if t404 = t411 then ((vernierref04_Check.f a0 a2).bind fun t412 => (if t412 = 0 then ((vernierref04_Parts.f a0 a1).bind fun bt413 => ((vernierref04_Sign.f a0 a2).bind fun t417 => (if t407 = 0 then ((vernierref04_Make.f a0 t417 bt413.2.1 bt413.2.2.1).bind fun t418 => (some (t406 == t418))) else (none)))) else (if t406 = 0 then (some (t407 == t412)) else (none)))) else (none))) else (none))) else (if t402 = 0 then (if t404 = 0 then (if t406 = 0 then (some (t407 == t408)) else (none)) else (none)) else (none))) else (none)) else (none)) else (none)))) = some r:=H
  have A6:=A0.mk A60;clear A60;replace H:=Option.bind_eq_some_iff.mp H;obtain ⟨t408,A70,H⟩:=H
  replace H : ((vernierlaw04_fixed.f k).bind fun t409 => (if t409 = true then (if t403 = t408 then (if t405 = t408 then (if t408 = 0 then ((vernierref04_Turn.f a0 a1).bind fun t410 => (if t402 = t410 then ((vernierref04_Plain.f a0 a1).bind fun t411 => (if t404 = t411 then ((vernierref04_Check.f a0 a2).bind fun t412 => (if t412 = 0 then ((vernierref04_Parts.f a0 a1).bind fun bt413 => ((vernierref04_Sign.f a0 a2).bind fun t417 => (if t407 = 0 then ((vernierref04_Make.f a0 t417 bt413.2.1 bt413.2.2.1).bind fun t418 => (some (t406 == t418))) else (none)))) else (if t406 = 0 then (some (t407 == t412)) else (none)))) else (none))) else (none))) else (if t402 = 0 then (if t404 = 0 then (if t406 = 0 then (some (t407 == t408)) else (none)) else (none)) else (none))) else (none)) else (none)) else (none))) = some r:=H
  have A7:=A0.mk A70;clear A70;replace H:=Option.bind_eq_some_iff.mp H;obtain ⟨t409,A80,H⟩:=H
  replace H : (if t409 = true then (if t403 = t408 then (if t405 = t408 then (if t408 = 0 then ((vernierref04_Turn.f a0 a1).bind fun t410 => (if t402 = t410 then ((vernierref04_Plain.f a0 a1).bind fun t411 => (if t404 = t411 then ((vernierref04_Check.f a0 a2).bind fun t412 => (if t412 = 0 then ((vernierref04_Parts.f a0 a1).bind fun bt413 => ((vernierref04_Sign.f a0 a2).bind fun t417 => (if t407 = 0 then ((vernierref04_Make.f a0 t417 bt413.2.1 bt413.2.2.1).bind fun t418 => (some (t406 == t418))) else (none)))) else (if t406 = 0 then (some (t407 == t412)) else (none)))) else (none))) else (none))) else (if t402 = 0 then (if t404 = 0 then (if t406 = 0 then (some (t407 == t408)) else (none)) else (none)) else (none))) else (none)) else (none)) else (none)) = some r:=H
  have A8:=A0.mk A80;clear A80
  by_cases c9 : t409 = true
  · subst c9
    have H1 : (if t403 = t408 then (if t405 = t408 then (if t408 = 0 then ((vernierref04_Turn.f a0 a1).bind fun t410 => (if t402 = t410 then ((vernierref04_Plain.f a0 a1).bind fun t411 => (if t404 = t411 then ((vernierref04_Check.f a0 a2).bind fun t412 => (if t412 = 0 then ((vernierref04_Parts.f a0 a1).bind fun bt413 => ((vernierref04_Sign.f a0 a2).bind fun t417 => (if t407 = 0 then ((vernierref04_Make.f a0 t417 bt413.2.1 bt413.2.2.1).bind fun t418 => (some (t406 == t418))) else (none)))) else (if t406 = 0 then (some (t407 == t412)) else (none)))) else (none))) else (none))) else (if t402 = 0 then (if t404 = 0 then (if t406 = 0 then (some (t407 == t408)) else (none)) else (none)) else (none))) else (none)) else (none)) = some r:=by rw [if_pos rfl] at H;exact H
    clear H;have H:=H1;clear H1
    by_cases c10 : t403 = t408
    · rw [if_pos c10] at H
      have c10b0 : (t403 == t408) = true:=beq_iff_eq.mpr c10
      have c10b1 : (t403 != t408) = false:=bne_eq_false_iff_eq.mpr c10
      clear c10
      by_cases c11 : t405 = t408
      · rw [if_pos c11] at H
        have c11b0 : (t405 == t408) = true:=beq_iff_eq.mpr c11
        have c11b1 : (t405 != t408) = false:=bne_eq_false_iff_eq.mpr c11
        clear c11
        by_cases c12 : t408 = 0
        · rw [if_pos c12] at H
          have c12b0 : (t408 == 0) = true:=beq_iff_eq.mpr c12
          have c12b1 : (t408 != 0) = false:=bne_eq_false_iff_eq.mpr c12
          clear c12;replace H:=Option.bind_eq_some_iff.mp H;obtain ⟨t410,A130,H⟩:=H
          replace H : (if t402 = t410 then ((vernierref04_Plain.f a0 a1).bind fun t411 => (if t404 = t411 then ((vernierref04_Check.f a0 a2).bind fun t412 => (if t412 = 0 then ((vernierref04_Parts.f a0 a1).bind fun bt413 => ((vernierref04_Sign.f a0 a2).bind fun t417 => (if t407 = 0 then ((vernierref04_Make.f a0 t417 bt413.2.1 bt413.2.2.1).bind fun t418 => (some (t406 == t418))) else (none)))) else (if t406 = 0 then (some (t407 == t412)) else (none)))) else (none))) else (none)) = some r:=H
          have A13:=A0.mk A130;clear A130
          by_cases c14 : t402 = t410
          · rw [if_pos c14] at H
            have c14b0 : (t402 == t410) = true:=beq_iff_eq.mpr c14
            have c14b1 : (t402 != t410) = false:=bne_eq_false_iff_eq.mpr c14
            clear c14;replace H:=Option.bind_eq_some_iff.mp H;obtain ⟨t411,A150,H⟩:=H
            replace H : (if t404 = t411 then ((vernierref04_Check.f a0 a2).bind fun t412 => (if t412 = 0 then ((vernierref04_Parts.f a0 a1).bind fun bt413 => ((vernierref04_Sign.f a0 a2).bind fun t417 => (if t407 = 0 then ((vernierref04_Make.f a0 t417 bt413.2.1 bt413.2.2.1).bind fun t418 => (some (t406 == t418))) else (none)))) else (if t406 = 0 then (some (t407 == t412)) else (none)))) else (none)) = some r:=H
            have A15:=A0.mk A150;clear A150
            by_cases c16 : t404 = t411
            · rw [if_pos c16] at H
              have c16b0 : (t404 == t411) = true:=beq_iff_eq.mpr c16
              have c16b1 : (t404 != t411) = false:=bne_eq_false_iff_eq.mpr c16
              clear c16;replace H:=Option.bind_eq_some_iff.mp H;obtain ⟨t412,A170,H⟩:=H
              replace H : (if t412 = 0 then ((vernierref04_Parts.f a0 a1).bind fun bt413 => ((vernierref04_Sign.f a0 a2).bind fun t417 => (if t407 = 0 then ((vernierref04_Make.f a0 t417 bt413.2.1 bt413.2.2.1).bind fun t418 => (some (t406 == t418))) else (none)))) else (if t406 = 0 then (some (t407 == t412)) else (none))) = some r:=H
              have A17:=A0.mk A170;clear A170
              by_cases c18 : t412 = 0
              · rw [if_pos c18] at H
                have c18b0 : (t412 == 0) = true:=beq_iff_eq.mpr c18
                have c18b1 : (t412 != 0) = false:=bne_eq_false_iff_eq.mpr c18
                clear c18;replace H:=Option.bind_eq_some_iff.mp H;obtain ⟨⟨t413,t414,t415,t416⟩,A190,H⟩:=H
                replace H : ((vernierref04_Sign.f a0 a2).bind fun t417 => (if t407 = 0 then ((vernierref04_Make.f a0 t417 t414 t415).bind fun t418 => (some (t406 == t418))) else (none))) = some r:=H
                have A19:=A0.mk A190;clear A190;replace H:=Option.bind_eq_some_iff.mp H;obtain ⟨t417,A200,H⟩:=H
                replace H : (if t407 = 0 then ((vernierref04_Make.f a0 t417 t414 t415).bind fun t418 => (some (t406 == t418))) else (none)) = some r:=H
                have A20:=A0.mk A200;clear A200
                by_cases c21 : t407 = 0
                · rw [if_pos c21] at H
                  have c21b0 : (t407 == 0) = true:=beq_iff_eq.mpr c21
                  have c21b1 : (t407 != 0) = false:=bne_eq_false_iff_eq.mpr c21
                  clear c21;replace H:=Option.bind_eq_some_iff.mp H;obtain ⟨t418,A220,H⟩:=H
                  replace H : (some (t406 == t418)) = some r:=H
                  have A22:=A0.mk A220;clear A220;obtain rfl:=Option.some.inj H
                  go_enter Tryd.func6,Tryd.ntmps6
                  go_wp2_with (first|((with_reducible refine gC (f:=31) rfl ?_);refine goesL_ (some 21) rfl rfl Tryd.func31 (by kernel_rfl) rfl #[.int .i64 a0,.int .u64 a1] rfl (by (try simp only [mT,mC,mN]);first|done|rfl|(simp only [lD,lK];rfl)) ?_;(with_reducible refine (format_Neg.calls a0 a1 t402 t403 _ ?hG A4.out).mono ?_);(case hG => exact GlobR.below hG.out (by repeat (first|(with_reducible first|exact HB.out|apply wA|apply wN|apply wD)|exact HB.out)));rintro e w23 ⟨rfl,hb⟩;refine ⟨_,rfl,?_⟩;have n0_:=A0.mk (wT (by repeat (first|(with_reducible first|exact HB.out|apply wA|apply wN|apply wD)|exact HB.out)) hb);clear HB;have HB:=n0_;clear n0_;(try clear hb);(try clear hb2);(try clear hk);(try clear hi))|((with_reducible refine gC (f:=32) rfl ?_);refine goesL_ (some 27) rfl rfl Tryd.func32 (by kernel_rfl) rfl #[.int .i64 a0,.int .u64 a1] rfl (by (try simp only [mT,mC,mN]);first|done|rfl|(simp only [lD,lK];rfl)) ?_;(with_reducible refine (format_Abs.calls a0 a1 t404 t405 _ ?hG A5.out).mono ?_);(case hG => exact GlobR.below hG.out (by repeat (first|(with_reducible first|exact HB.out|apply wA|apply wN|apply wD)|exact HB.out)));rintro e w24 ⟨rfl,hb⟩;refine ⟨_,rfl,?_⟩;have n0_:=A0.mk (wT (by repeat (first|(with_reducible first|exact HB.out|apply wA|apply wN|apply wD)|exact HB.out)) hb);clear HB;have HB:=n0_;clear n0_;(try clear hb);(try clear hb2);(try clear hk);(try clear hi))|((with_reducible refine gC (f:=33) rfl ?_);refine goesL_ (some 34) rfl rfl Tryd.func33 (by kernel_rfl) rfl #[.int .i64 a0,.int .u64 a1,.int .u64 a2] rfl (by (try simp only [mT,mC,mN]);first|done|rfl|(simp only [lD,lK];rfl)) ?_;(with_reducible refine (format_CopySign.calls a0 a1 a2 t406 t407 _ ?hG A6.out).mono ?_);(case hG => exact GlobR.below hG.out (by repeat (first|(with_reducible first|exact HB.out|apply wA|apply wN|apply wD)|exact HB.out)));rintro e w25 ⟨rfl,hb⟩;refine ⟨_,rfl,?_⟩;have n0_:=A0.mk (wT (by repeat (first|(with_reducible first|exact HB.out|apply wA|apply wN|apply wD)|exact HB.out)) hb);clear HB;have HB:=n0_;clear n0_;(try clear hb);(try clear hb2);(try clear hk);(try clear hi))|((with_reducible refine gC (f:=12) rfl ?_);refine goesL_ (some 39) rfl rfl Tryd.func12 (by kernel_rfl) rfl #[.int .i64 a0,.int .u64 a1] rfl (by (try simp only [mT,mC,mN]);first|done|rfl|(simp only [lD,lK];rfl)) ?_;(with_reducible refine (vernierref04_Check.calls a0 a1 t408 _ A7.out).mono ?_);rintro e w26 ⟨rfl,hb⟩;refine ⟨_,rfl,?_⟩;have n0_:=A0.mk (wT (by repeat (first|(with_reducible first|exact HB.out|apply wA|apply wN|apply wD)|exact HB.out)) hb);clear HB;have HB:=n0_;clear n0_;(try clear hb);(try clear hb2);(try clear hk);(try clear hi))|((with_reducible refine gC (f:=15) rfl ?_);refine goesL_ (some 40) rfl rfl Tryd.func15 (by kernel_rfl) rfl #[] rfl (by (try simp only [mT,mC,mN]);first|done|rfl|(simp only [lD,lK];rfl)) ?_;(with_reducible refine (vernierlaw04_fixed.calls k  true _ ?hG A8.out).mono ?_);(case hG => exact GlobR.below hG.out (by repeat (first|(with_reducible first|exact HB.out|apply wA|apply wN|apply wD)|exact HB.out)));rintro e w27 ⟨rfl,hb⟩;refine ⟨_,rfl,?_⟩;have n0_:=A0.mk (wT (by repeat (first|(with_reducible first|exact HB.out|apply wA|apply wN|apply wD)|exact HB.out)) hb);clear HB;have HB:=n0_;clear n0_;(try clear hb);(try clear hb2);(try clear hk);(try clear hi))|((with_reducible refine gC (f:=34) rfl ?_);refine goesL_ (some 72) rfl rfl Tryd.func34 (by kernel_rfl) rfl #[.int .i64 a0,.int .u64 a1] rfl (by (try simp only [mT,mC,mN]);first|done|rfl|(simp only [lD,lK];rfl)) ?_;(with_reducible refine (vernierref04_Turn.calls a0 a1 t410 _ A13.out).mono ?_);rintro e w28 ⟨rfl,hb⟩;refine ⟨_,rfl,?_⟩;have n0_:=A0.mk (wT (by repeat (first|(with_reducible first|exact HB.out|apply wA|apply wN|apply wD)|exact HB.out)) hb);clear HB;have HB:=n0_;clear n0_;(try clear hb);(try clear hb2);(try clear hk);(try clear hi))|(go_at_call 35;(with_reducible refine (vernierref04_Plain.calls a0 a1 t411 _ A15.out).mono ?_);rintro e w29 ⟨rfl,hb⟩;have n0_:=A0.mk (wT (by repeat (first|(with_reducible first|exact HB.out|apply wA|apply wN|apply wD)|exact HB.out)) hb);clear HB;have HB:=n0_;clear n0_;(try clear hb);(try clear hb2);(try clear hk);(try clear hi))|((with_reducible refine gC (f:=12) rfl ?_);refine goesL_ (some 83) rfl rfl Tryd.func12 (by kernel_rfl) rfl #[.int .i64 a0,.int .u64 a2] rfl (by (try simp only [mT,mC,mN]);first|done|rfl|(simp only [lD,lK];rfl)) ?_;(with_reducible refine (vernierref04_Check.calls a0 a2 t412 _ A17.out).mono ?_);rintro e w30 ⟨rfl,hb⟩;refine ⟨_,rfl,?_⟩;have n0_:=A0.mk (wT (by repeat (first|(with_reducible first|exact HB.out|apply wA|apply wN|apply wD)|exact HB.out)) hb);clear HB;have HB:=n0_;clear n0_;(try clear hb);(try clear hb2);(try clear hk);(try clear hi))|((with_reducible refine gC (f:=16) rfl ?_);refine goesL_ (some 96) rfl rfl Tryd.func16 (by kernel_rfl) rfl #[.int .i64 a0,.int .u64 a1] rfl (by (try simp only [mT,mC,mN]);first|done|rfl|(simp only [lD,lK];rfl)) ?_;(with_reducible refine (vernierref04_Parts.calls a0 a1 t413 t414 t415 t416 _ A19.out).mono ?_);rintro e w31 ⟨rfl,hb⟩;refine ⟨_,rfl,?_⟩;have n0_:=A0.mk (wT (by repeat (first|(with_reducible first|exact HB.out|apply wA|apply wN|apply wD)|exact HB.out)) hb);clear HB;have HB:=n0_;clear n0_;(try clear hb);(try clear hb2);(try clear hk);(try clear hi))|((with_reducible refine gC (f:=36) rfl ?_);refine goesL_ (some 103) rfl rfl Tryd.func36 (by kernel_rfl) rfl #[.int .i64 a0,.int .u64 a2] rfl (by (try simp only [mT,mC,mN]);first|done|rfl|(simp only [lD,lK];rfl)) ?_;(with_reducible refine (vernierref04_Sign.calls a0 a2 t417 _ A20.out).mono ?_);rintro e w32 ⟨rfl,hb⟩;refine ⟨_,rfl,?_⟩;have n0_:=A0.mk (wT (by repeat (first|(with_reducible first|exact HB.out|apply wA|apply wN|apply wD)|exact HB.out)) hb);clear HB;have HB:=n0_;clear n0_;(try clear hb);(try clear hb2);(try clear hk);(try clear hi))|(go_at_call 30;(with_reducible refine (vernierref04_Make.calls a0 t417 t414 t415 t418 _ A22.out).mono ?_);rintro e w33 ⟨rfl,hb⟩;have n0_:=A0.mk (wT (by repeat (first|(with_reducible first|exact HB.out|apply wA|apply wN|apply wD)|exact HB.out)) hb);clear HB;have HB:=n0_;clear n0_;(try clear hb);(try clear hb2);(try clear hk);(try clear hi)))
                  go_ret
                  exact ⟨by first|rfl|(simp [errW_none,errW_some] <;> rfl)|(simp [*,errW_none,errW_some] <;> rfl)|(simp [wrap64];done),by repeat (first|(with_reducible first|exact HB.out|apply wA|apply wN|apply wD)|exact HB.out)⟩
                · rw [if_neg c21] at H
                  exact absurd H (by simp)
              · rw [if_neg c18] at H
                have c18b0 : (t412 == 0) = false:=beq_eq_false_iff_ne.mpr c18
                have c18b1 : (t412 != 0) = true:=bne_iff_ne.mpr c18
                by_cases c34 : t406 = 0
                · rw [if_pos c34] at H
                  have c34b0 : (t406 == 0) = true:=beq_iff_eq.mpr c34
                  have c34b1 : (t406 != 0) = false:=bne_eq_false_iff_eq.mpr c34
                  clear c34;obtain rfl:=Option.some.inj H
                  go_enter Tryd.func6,Tryd.ntmps6
                  go_wp2_with (first|((with_reducible refine gC (f:=31) rfl ?_);refine goesL_ (some 21) rfl rfl Tryd.func31 (by kernel_rfl) rfl #[.int .i64 a0,.int .u64 a1] rfl (by (try simp only [mT,mC,mN]);first|done|rfl|(simp only [lD,lK];rfl)) ?_;(with_reducible refine (format_Neg.calls a0 a1 t402 t403 _ ?hG A4.out).mono ?_);(case hG => exact GlobR.below hG.out (by repeat (first|(with_reducible first|exact HB.out|apply wA|apply wN|apply wD)|exact HB.out)));rintro e w35 ⟨rfl,hb⟩;refine ⟨_,rfl,?_⟩;have n0_:=A0.mk (wT (by repeat (first|(with_reducible first|exact HB.out|apply wA|apply wN|apply wD)|exact HB.out)) hb);clear HB;have HB:=n0_;clear n0_;(try clear hb);(try clear hb2);(try clear hk);(try clear hi))|((with_reducible refine gC (f:=32) rfl ?_);refine goesL_ (some 27) rfl rfl Tryd.func32 (by kernel_rfl) rfl #[.int .i64 a0,.int .u64 a1] rfl (by (try simp only [mT,mC,mN]);first|done|rfl|(simp only [lD,lK];rfl)) ?_;(with_reducible refine (format_Abs.calls a0 a1 t404 t405 _ ?hG A5.out).mono ?_);(case hG => exact GlobR.below hG.out (by repeat (first|(with_reducible first|exact HB.out|apply wA|apply wN|apply wD)|exact HB.out)));rintro e w36 ⟨rfl,hb⟩;refine ⟨_,rfl,?_⟩;have n0_:=A0.mk (wT (by repeat (first|(with_reducible first|exact HB.out|apply wA|apply wN|apply wD)|exact HB.out)) hb);clear HB;have HB:=n0_;clear n0_;(try clear hb);(try clear hb2);(try clear hk);(try clear hi))|((with_reducible refine gC (f:=33) rfl ?_);refine goesL_ (some 34) rfl rfl Tryd.func33 (by kernel_rfl) rfl #[.int .i64 a0,.int .u64 a1,.int .u64 a2] rfl (by (try simp only [mT,mC,mN]);first|done|rfl|(simp only [lD,lK];rfl)) ?_;(with_reducible refine (format_CopySign.calls a0 a1 a2 t406 t407 _ ?hG A6.out).mono ?_);(case hG => exact GlobR.below hG.out (by repeat (first|(with_reducible first|exact HB.out|apply wA|apply wN|apply wD)|exact HB.out)));rintro e w37 ⟨rfl,hb⟩;refine ⟨_,rfl,?_⟩;have n0_:=A0.mk (wT (by repeat (first|(with_reducible first|exact HB.out|apply wA|apply wN|apply wD)|exact HB.out)) hb);clear HB;have HB:=n0_;clear n0_;(try clear hb);(try clear hb2);(try clear hk);(try clear hi))|((with_reducible refine gC (f:=12) rfl ?_);refine goesL_ (some 39) rfl rfl Tryd.func12 (by kernel_rfl) rfl #[.int .i64 a0,.int .u64 a1] rfl (by (try simp only [mT,mC,mN]);first|done|rfl|(simp only [lD,lK];rfl)) ?_;(with_reducible refine (vernierref04_Check.calls a0 a1 t408 _ A7.out).mono ?_);rintro e w38 ⟨rfl,hb⟩;refine ⟨_,rfl,?_⟩;have n0_:=A0.mk (wT (by repeat (first|(with_reducible first|exact HB.out|apply wA|apply wN|apply wD)|exact HB.out)) hb);clear HB;have HB:=n0_;clear n0_;(try clear hb);(try clear hb2);(try clear hk);(try clear hi))|((with_reducible refine gC (f:=15) rfl ?_);refine goesL_ (some 40) rfl rfl Tryd.func15 (by kernel_rfl) rfl #[] rfl (by (try simp only [mT,mC,mN]);first|done|rfl|(simp only [lD,lK];rfl)) ?_;(with_reducible refine (vernierlaw04_fixed.calls k  true _ ?hG A8.out).mono ?_);(case hG => exact GlobR.below hG.out (by repeat (first|(with_reducible first|exact HB.out|apply wA|apply wN|apply wD)|exact HB.out)));rintro e w39 ⟨rfl,hb⟩;refine ⟨_,rfl,?_⟩;have n0_:=A0.mk (wT (by repeat (first|(with_reducible first|exact HB.out|apply wA|apply wN|apply wD)|exact HB.out)) hb);clear HB;have HB:=n0_;clear n0_;(try clear hb);(try clear hb2);(try clear hk);(try clear hi))|((with_reducible refine gC (f:=34) rfl ?_);refine goesL_ (some 72) rfl rfl Tryd.func34 (by kernel_rfl) rfl #[.int .i64 a0,.int .u64 a1] rfl (by (try simp only [mT,mC,mN]);first|done|rfl|(simp only [lD,lK];rfl)) ?_;(with_reducible refine (vernierref04_Turn.calls a0 a1 t410 _ A13.out).mono ?_);rintro e w40 ⟨rfl,hb⟩;refine ⟨_,rfl,?_⟩;have n0_:=A0.mk (wT (by repeat (first|(with_reducible first|exact HB.out|apply wA|apply wN|apply wD)|exact HB.out)) hb);clear HB;have HB:=n0_;clear n0_;(try clear hb);(try clear hb2);(try clear hk);(try clear hi))|(go_at_call 35;(with_reducible refine (vernierref04_Plain.calls a0 a1 t411 _ A15.out).mono ?_);rintro e w41 ⟨rfl,hb⟩;have n0_:=A0.mk (wT (by repeat (first|(with_reducible first|exact HB.out|apply wA|apply wN|apply wD)|exact HB.out)) hb);clear HB;have HB:=n0_;clear n0_;(try clear hb);(try clear hb2);(try clear hk);(try clear hi))|((with_reducible refine gC (f:=12) rfl ?_);refine goesL_ (some 83) rfl rfl Tryd.func12 (by kernel_rfl) rfl #[.int .i64 a0,.int .u64 a2] rfl (by (try simp only [mT,mC,mN]);first|done|rfl|(simp only [lD,lK];rfl)) ?_;(with_reducible refine (vernierref04_Check.calls a0 a2 t412 _ A17.out).mono ?_);rintro e w42 ⟨rfl,hb⟩;refine ⟨_,rfl,?_⟩;have n0_:=A0.mk (wT (by repeat (first|(with_reducible first|exact HB.out|apply wA|apply wN|apply wD)|exact HB.out)) hb);clear HB;have HB:=n0_;clear n0_;(try clear hb);(try clear hb2);(try clear hk);(try clear hi)))
                  go_ret
                  exact ⟨by first|rfl|(simp [errW_none,errW_some] <;> rfl)|(simp [*,errW_none,errW_some] <;> rfl)|(simp [wrap64];done),by repeat (first|(with_reducible first|exact HB.out|apply wA|apply wN|apply wD)|exact HB.out)⟩
                · rw [if_neg c34] at H
                  exact absurd H (by simp)
            · rw [if_neg c16] at H
              exact absurd H (by simp)
          · rw [if_neg c14] at H
            exact absurd H (by simp)
        · rw [if_neg c12] at H
          have c12b0 : (t408 == 0) = false:=beq_eq_false_iff_ne.mpr c12
          have c12b1 : (t408 != 0) = true:=bne_iff_ne.mpr c12
          by_cases c43 : t402 = 0
          · rw [if_pos c43] at H
            have c43b0 : (t402 == 0) = true:=beq_iff_eq.mpr c43
            have c43b1 : (t402 != 0) = false:=bne_eq_false_iff_eq.mpr c43
            clear c43
            by_cases c44 : t404 = 0
            · rw [if_pos c44] at H
              have c44b0 : (t404 == 0) = true:=beq_iff_eq.mpr c44
              have c44b1 : (t404 != 0) = false:=bne_eq_false_iff_eq.mpr c44
              clear c44
              by_cases c45 : t406 = 0
              · rw [if_pos c45] at H
                have c45b0 : (t406 == 0) = true:=beq_iff_eq.mpr c45
                have c45b1 : (t406 != 0) = false:=bne_eq_false_iff_eq.mpr c45
                clear c45;obtain rfl:=Option.some.inj H
                go_enter Tryd.func6,Tryd.ntmps6
                go_wp2_with (first|((with_reducible refine gC (f:=31) rfl ?_);refine goesL_ (some 21) rfl rfl Tryd.func31 (by kernel_rfl) rfl #[.int .i64 a0,.int .u64 a1] rfl (by (try simp only [mT,mC,mN]);first|done|rfl|(simp only [lD,lK];rfl)) ?_;(with_reducible refine (format_Neg.calls a0 a1 t402 t403 _ ?hG A4.out).mono ?_);(case hG => exact GlobR.below hG.out (by repeat (first|(with_reducible first|exact HB.out|apply wA|apply wN|apply wD)|exact HB.out)));rintro e w46 ⟨rfl,hb⟩;refine ⟨_,rfl,?_⟩;have n0_:=A0.mk (wT (by repeat (first|(with_reducible first|exact HB.out|apply wA|apply wN|apply wD)|exact HB.out)) hb);clear HB;have HB:=n0_;clear n0_;(try clear hb);(try clear hb2);(try clear hk);(try clear hi))|((with_reducible refine gC (f:=32) rfl ?_);refine goesL_ (some 27) rfl rfl Tryd.func32 (by kernel_rfl) rfl #[.int .i64 a0,.int .u64 a1] rfl (by (try simp only [mT,mC,mN]);first|done|rfl|(simp only [lD,lK];rfl)) ?_;(with_reducible refine (format_Abs.calls a0 a1 t404 t405 _ ?hG A5.out).mono ?_);(case hG => exact GlobR.below hG.out (by repeat (first|(with_reducible first|exact HB.out|apply wA|apply wN|apply wD)|exact HB.out)));rintro e w47 ⟨rfl,hb⟩;refine ⟨_,rfl,?_⟩;have n0_:=A0.mk (wT (by repeat (first|(with_reducible first|exact HB.out|apply wA|apply wN|apply wD)|exact HB.out)) hb);clear HB;have HB:=n0_;clear n0_;(try clear hb);(try clear hb2);(try clear hk);(try clear hi))|((with_reducible refine gC (f:=33) rfl ?_);refine goesL_ (some 34) rfl rfl Tryd.func33 (by kernel_rfl) rfl #[.int .i64 a0,.int .u64 a1,.int .u64 a2] rfl (by (try simp only [mT,mC,mN]);first|done|rfl|(simp only [lD,lK];rfl)) ?_;(with_reducible refine (format_CopySign.calls a0 a1 a2 t406 t407 _ ?hG A6.out).mono ?_);(case hG => exact GlobR.below hG.out (by repeat (first|(with_reducible first|exact HB.out|apply wA|apply wN|apply wD)|exact HB.out)));rintro e w48 ⟨rfl,hb⟩;refine ⟨_,rfl,?_⟩;have n0_:=A0.mk (wT (by repeat (first|(with_reducible first|exact HB.out|apply wA|apply wN|apply wD)|exact HB.out)) hb);clear HB;have HB:=n0_;clear n0_;(try clear hb);(try clear hb2);(try clear hk);(try clear hi))|((with_reducible refine gC (f:=12) rfl ?_);refine goesL_ (some 39) rfl rfl Tryd.func12 (by kernel_rfl) rfl #[.int .i64 a0,.int .u64 a1] rfl (by (try simp only [mT,mC,mN]);first|done|rfl|(simp only [lD,lK];rfl)) ?_;(with_reducible refine (vernierref04_Check.calls a0 a1 t408 _ A7.out).mono ?_);rintro e w49 ⟨rfl,hb⟩;refine ⟨_,rfl,?_⟩;have n0_:=A0.mk (wT (by repeat (first|(with_reducible first|exact HB.out|apply wA|apply wN|apply wD)|exact HB.out)) hb);clear HB;have HB:=n0_;clear n0_;(try clear hb);(try clear hb2);(try clear hk);(try clear hi))|((with_reducible refine gC (f:=15) rfl ?_);refine goesL_ (some 40) rfl rfl Tryd.func15 (by kernel_rfl) rfl #[] rfl (by (try simp only [mT,mC,mN]);first|done|rfl|(simp only [lD,lK];rfl)) ?_;(with_reducible refine (vernierlaw04_fixed.calls k  true _ ?hG A8.out).mono ?_);(case hG => exact GlobR.below hG.out (by repeat (first|(with_reducible first|exact HB.out|apply wA|apply wN|apply wD)|exact HB.out)));rintro e w50 ⟨rfl,hb⟩;refine ⟨_,rfl,?_⟩;have n0_:=A0.mk (wT (by repeat (first|(with_reducible first|exact HB.out|apply wA|apply wN|apply wD)|exact HB.out)) hb);clear HB;have HB:=n0_;clear n0_;(try clear hb);(try clear hb2);(try clear hk);(try clear hi)))
                go_ret
                exact ⟨by first|rfl|(simp [errW_none,errW_some] <;> rfl)|(simp [*,errW_none,errW_some] <;> rfl)|(simp [wrap64];done),by repeat (first|(with_reducible first|exact HB.out|apply wA|apply wN|apply wD)|exact HB.out)⟩
              · rw [if_neg c45] at H
                exact absurd H (by simp)
            · rw [if_neg c44] at H
              exact absurd H (by simp)
          · rw [if_neg c43] at H
            exact absurd H (by simp)
      · rw [if_neg c11] at H
        exact absurd H (by simp)
    · rw [if_neg c10] at H
      exact absurd H (by simp)
  · replace c9:=Bool.eq_false_iff.mpr c9
    subst c9
    have H1 : (none) = some r:=by rw [if_neg (show ¬ (false = true) by decide)] at H;exact H
    clear H;have H:=H1;clear H1
    exact absurd H (by simp)

/-- THE ONE PURE STATEMENT of vernierlaw04_FormatSigns: yours. -/
def vernierlaw04_FormatSigns.Pure : Prop:=∀ (a0 : Int) (a1 : Int) (a2 : Int),(Lit.int .i64 a0).wf = true→(Lit.int .u64 a1).wf = true→(Lit.int .u64 a2).wf = true→∃ k,vernierlaw04_FormatSigns.f k a0 a1 a2 = some true
theorem vernierlaw04_FormatSigns.walk (P : vernierlaw04_FormatSigns.Pure) (a0 : Int) (a1 : Int) (a2 : Int) (w : World) (hG : A0 (GlobR w)) (w0 : (Lit.int .i64 a0).wf = true) (w1 : (Lit.int .u64 a1).wf = true) (w2 : (Lit.int .u64 a2).wf = true) :
    Calls Tryd.prog 6 #[.int .i64 a0,.int .u64 a1,.int .u64 a2] w fun e w' => e = .returned (.bool true)∧Below w.heap.size w w':=by
  obtain ⟨k,h⟩:=P a0 a1 a2 w0 w1 w2
  refine (vernierlaw04_FormatSigns.calls k a0 a1 a2 true w hG h).mono ?_
  rintro e w' ⟨rfl,hd⟩
  exact ⟨rfl,hd⟩

/-! ### bits_TrailingZeros64: function 61 -/
noncomputable def bits_TrailingZeros64.f (a0 : Int) : Option (Int):=if Told (0 ≤ a0∧a0 < 18446744073709551616) then some (Lib.ctz 64 a0.toNat : Int) else none
set_option maxHeartbeats 8000000 in
set_option maxRecDepth 100000 in
theorem bits_TrailingZeros64.core (y k idx : Nat) (w : World) (hx0 : ((y : Int) == 0) = false)
    (key : IntKind.u64.wrap (bits BinOp.and IntKind.u64 (y : Int) (IntKind.u64.wrap (-(y : Int))) * 285870213051353865) / 288230376151711744 = (idx : Int))
    (hi : idx < 64) (hk : k < 64) (hcell : w.cell? ⟨2,idx,none⟩ = some (.int .u8 k)) :
    Calls Tryd.prog 61 #[.int .u64 y] w fun e w' => e = .returned (.int .i64 k)∧Drawn0 w w':=by
  have hu:=Tryd.underlying98
  go_enter Tryd.func61,Tryd.ntmps61
  go_wp2_with (simp only [key])
  go_ret
  exact ⟨rfl,Drawn0.refl _⟩
set_option maxRecDepth 100000 in
theorem bits_TrailingZeros64.zero (w : World) : Calls Tryd.prog 61 #[.int .u64 0] w fun e w' => e = .returned (.int .i64 64)∧Drawn0 w w':=by
  go_enter Tryd.func61,Tryd.ntmps61
  go_wp2
  go_ret
  exact ⟨rfl,Drawn0.refl _⟩
theorem bits_TrailingZeros64.calls (a0 : Int) (r : Int) (w : World) (hD : A0 (GlobD w)) (h : bits_TrailingZeros64.f a0 = some r) :
    Calls Tryd.prog 61 #[.int .u64 a0] w fun e w' => e = .returned (.int .i64 r)∧Drawn0 w w':=by
  unfold bits_TrailingZeros64.f at h
  split at h
  · rename_i hc0
    have hc:=hc0.out
    simp only [Option.some.injEq] at h
    obtain ⟨y,rfl⟩:=Int.eq_ofNat_of_zero_le hc.1
    have hy : y < 18446744073709551616:=by omega
    rw [Int.toNat_natCast] at h
    subst h
    by_cases h0 : y = 0
    · subst h0
      exact bits_TrailingZeros64.zero w
    · obtain ⟨hlow,hk⟩:=Lib.lowest_bit 64 y h0 hy
      obtain ⟨hi,htab⟩:=Lib.deBruijn64_at _ hk
      have hcell:=hD.out.db _ hi
      rw [htab] at hcell
      exact bits_TrailingZeros64.core y _ _ w (by simp;omega) (tz_key y _ hy h0 hlow) hi hk hcell
  · cases h

end Go.Proofs.YtjdmbhdlogbopaaDoor.V
