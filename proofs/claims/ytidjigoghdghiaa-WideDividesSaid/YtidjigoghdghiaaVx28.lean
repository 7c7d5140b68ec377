/- Contracts of the program's functions, each: where the printed function answers, the call answers the same. Written by vprint.py, this session's own program over the kit's print.py; Lean checks it. No conditions beyond those that each states. -/
import Derived.Test.YtidjigoghdghiaaVx0
import Derived.Test.YtidjigoghdghiaaVx1
import Derived.Test.YtidjigoghdghiaaVx2
import Derived.Test.YtidjigoghdghiaaVx10
namespace Go.Proofs.Ytidjigoghdghiaa.V
open Go.RowKit Go.Proofs.YtidjigoghdghiaaQ.PrintWords Go.Proofs.YtidjigoghdghiaaQ.PrintLast Go.Proofs.YtidjigoghdghiaaQ.PrintMore
open Bool renaming true → Y, false → Z
open List renaming setIfInBounds_toArray → lT, set_cons_zero → lZ, set_cons_succ → lS, map_toArray → mT, map_cons → mC, map_nil → mN, length_drop → lD, length_take → lK
open Act renaming put → aP
attribute [local go_sem] max2_int min2_int max_two min_two max_three min_three max_four min_four   -- for this text's walks alone
set_option linter.unusedVariables false
set_option linter.unusedSimpArgs false

attribute [local go_sem high] eqA24
/-! ### vernierlaw01_spreads: function 34 -/
noncomputable def vernierlaw01_spreads.f (a0 : Int) (a1 : Int) (a2 : Int) : Option (Bool):=(wide_Mul.f a0 a1).bind fun bt421 => ((wide_Mul.f a1 a0).bind fun bt423 => (if (!(bt421.1 == bt423.1) || (!(bt421.2 == bt423.2))) = true then (none) else ((wide_Mul.f a0 1).bind fun bt425 => (if (!(bt425.1 == 0) || (!(bt425.2 == a0))) = true then (none) else ((wide_Mul.f a0 0).bind fun bt427 => (if (!(bt427.1 == 0) || (!(bt427.2 == 0))) = true then (none) else (if a2 > (IntKind.u64.wrap (18446744073709551615 - a1)) then ((wide_Mul.f a0 a1).bind fun bt429 => ((wide_Mul.f a0 (IntKind.u64.wrap (18446744073709551615 - a1))).bind fun bt431 => ((wide_Add.f bt429.1 bt429.2 bt431.1 bt431.2).bind fun bt433 => (if bt433.2.2 = 0 then ((wide_Mul.f a0 (IntKind.u64.wrap (a1 + (IntKind.u64.wrap (18446744073709551615 - a1))))).bind fun bt437 => (some (bt437.1 == bt433.1 && (bt437.2 == bt433.2.1)))) else (none))))) else ((wide_Mul.f a0 a1).bind fun bt439 => ((wide_Mul.f a0 a2).bind fun bt441 => ((wide_Add.f bt439.1 bt439.2 bt441.1 bt441.2).bind fun bt443 => (if bt443.2.2 = 0 then ((wide_Mul.f a0 (IntKind.u64.wrap (a1 + a2))).bind fun bt447 => (some (bt447.1 == bt443.1 && (bt447.2 == bt443.2.1)))) else (none))))))))))))
def vernierlaw01_spreads.T6 : Bool × List (List Nat × List Nat):=(true,[([],[]),([0],[0]),([1],[1]),([2],[2]),([2],[2]),([2],[2]),([4,5,2],[2,4,5]),([3,6,2,2],[2,3,6]),([2],[2]),([7,8,2],[2,7,8]),([2,9],[2,9]),([10,7,0,1,2,3,4,5,6,7,8,9,10],[10])])
def vernierlaw01_spreads.B6 : List Nat:=[0,1,3,7,7,7,55,127,7,511,1023,2047]
theorem vernierlaw01_spreads.tab6 : rtab .any (opsOf Try.f34 6) = vernierlaw01_spreads.T6:=by kernel_rfl
theorem vernierlaw01_spreads.bits6 : waitsOk vernierlaw01_spreads.T6.2 vernierlaw01_spreads.B6 = true:=by kernel_rfl
set_option maxHeartbeats 8000000 in
set_option maxRecDepth 100000 in
theorem vernierlaw01_spreads.calls (a0 : Int) (a1 : Int) (a2 : Int) (r : Bool) (w : World) (h : vernierlaw01_spreads.f a0 a1 a2 = some r) :
    Calls Try.prog 34 #[.int .u64 a0,.int .u64 a1,.int .u64 a2] w fun e w' => e = .returned (.bool r)∧Below w.heap.size w w':=by
  have hu24:=Try.underlying24
  have HB:=A0.mk (Below.refl w.heap.size w)
  have H : ((wide_Mul.f a0 a1).bind fun bt421 => ((wide_Mul.f a1 a0).bind fun bt423 => (if (!(bt421.1 == bt423.1) || (!(bt421.2 == bt423.2))) = true then (none) else ((wide_Mul.f a0 1).bind fun bt425 => (if (!(bt425.1 == 0) || (!(bt425.2 == a0))) = true then (none) else ((wide_Mul.f a0 0).bind fun bt427 => (if (!(bt427.1 == 0) || (!(bt427.2 == 0))) = true then (none) else (if a2 > (IntKind.u64.wrap (18446744073709551615 - a1)) then ((wide_Mul.f a0 a1).bind fun bt429 => ((wide_Mul.f a0 (IntKind.u64.wrap (18446744073709551615 - a1))).bind fun bt431 => ((wide_Add.f bt429.1 bt429.2 bt431.1 bt431.2).bind fun bt433 => (if bt433.2.2 = 0 then ((wide_Mul.f a0 (IntKind.u64.wrap (a1 + (IntKind.u64.wrap (18446744073709551615 - a1))))).bind fun bt437 => (some (bt437.1 == bt433.1 && (bt437.2 == bt433.2.1)))) else (none))))) else ((wide_Mul.f a0 a1).bind fun bt439 => ((wide_Mul.f a0 a2).bind fun bt441 => ((wide_Add.f bt439.1 bt439.2 bt441.1 bt441.2).bind fun bt443 => (if bt443.2.2 = 0 then ((wide_Mul.f a0 (IntKind.u64.wrap (a1 + a2))).bind fun bt447 => (some (bt447.1 == bt443.1 && (bt447.2 == bt443.2.1)))) else (none))))))))))))) = some r:=h
  clear h;replace H:=Option.bind_eq_some_iff.mp H;obtain ⟨⟨t421,t422⟩,A40,H⟩:=H
  replace H : ((wide_Mul.f a1 a0).bind fun bt423 => (if (!(t421 == bt423.1) || (!(t422 == bt423.2))) = true then (none) else ((wide_Mul.f a0 1).bind fun bt425 => (if (!(bt425.1 == 0) || (!(bt425.2 == a0))) = true then (none) else ((wide_Mul.f a0 0).bind fun bt427 => (if (!(bt427.1 == 0) || (!(bt427.2 == 0))) = true then (none) else (if a2 > (IntKind.u64.wrap (18446744073709551615 - a1)) then ((wide_Mul.f a0 a1).bind fun bt429 => ((wide_Mul.f a0 (IntKind.u64.wrap (18446744073709551615 - a1))).bind fun bt431 => ((wide_Add.f bt429.1 bt429.2 bt431.1 bt431.2).bind fun bt433 => (if bt433.2.2 = 0 then ((wide_Mul.f a0 (IntKind.u64.wrap (a1 + (IntKind.u64.wrap (18446744073709551615 - a1))))).bind fun bt437 => (some (bt437.1 == bt433.1 && (bt437.2 == bt433.2.1)))) else (none))))) else ((wide_Mul.f a0 a1).bind fun bt439 => ((wide_Mul.f a0 a2).bind fun bt441 => ((wide_Add.f bt439.1 bt439.2 bt441.1 bt441.2).bind fun bt443 => (if bt443.2.2 = 0 then ((wide_Mul.f a0 (IntKind.u64.wrap (a1 + a2))).bind fun bt447 => (some (bt447.1 == bt443.1 && (bt447.2 == bt443.2.1)))) else (none)))))))))))) = some r:=H
  have A4:=A0.mk A40;clear A40;replace H:=Option.bind_eq_some_iff.mp H;obtain ⟨⟨t423,t424⟩,A50,H⟩:=H
  replace H : (if (!(t421 == t423) || (!(t422 == t424))) = true then (none) else ((wide_Mul.f a0 1).bind fun bt425 => (if (!(bt425.1 == 0) || (!(bt425.2 == a0))) = true then (none) else ((wide_Mul.f a0 0).bind fun bt427 => (if (!(bt427.1 == 0) || (!(bt427.2 == 0))) = true then (none) else (if a2 > (IntKind.u64.wrap (18446744073709551615 - a1)) then ((wide_Mul.f a0 a1).bind fun bt429 => ((wide_Mul.f a0 (IntKind.u64.wrap (18446744073709551615 - a1))).bind fun bt431 => ((wide_Add.f bt429.1 bt429.2 bt431.1 bt431.2).bind fun bt433 => (if bt433.2.2 = 0 then ((wide_Mul.f a0 (IntKind.u64.wrap (a1 + (IntKind.u64.wrap (18446744073709551615 - a1))))).bind fun bt437 => (some (bt437.1 == bt433.1 && (bt437.2 == bt433.2.1)))) else (none))))) else ((wide_Mul.f a0 a1).bind fun bt439 => ((wide_Mul.f a0 a2).bind fun bt441 => ((wide_Add.f bt439.1 bt439.2 bt441.1 bt441.2).bind fun bt443 => (if bt443.2.2 = 0 then ((wide_Mul.f a0 (IntKind.u64.wrap (a1 + a2))).bind fun bt447 => (some (bt447.1 == bt443.1 && (bt447.2 == bt443.2.1)))) else (none))))))))))) = some r:=H
  have A5:=A0.mk A50;clear A50
  by_cases c6 : (!(t421 == t423) || (!(t422 == t424))) = true
  · rw [if_pos c6] at H
    exact absurd H (by simp)
  · rw [if_neg c6] at H
    have c6b0 : (!(t421 == t423) || (!(t422 == t424))) = false:=by simpa using c6
    clear c6;replace H:=Option.bind_eq_some_iff.mp H;obtain ⟨⟨t425,t426⟩,A70,H⟩:=H
    replace H : (if (!(t425 == 0) || (!(t426 == a0))) = true then (none) else ((wide_Mul.f a0 0).bind fun bt427 => (if (!(bt427.1 == 0) || (!(bt427.2 == 0))) = true then (none) else (if a2 > (IntKind.u64.wrap (18446744073709551615 - a1)) then ((wide_Mul.f a0 a1).bind fun bt429 => ((wide_Mul.f a0 (IntKind.u64.wrap (18446744073709551615 - a1))).bind fun bt431 => ((wide_Add.f bt429.1 bt429.2 bt431.1 bt431.2).bind fun bt433 => (if bt433.2.2 = 0 then ((wide_Mul.f a0 (IntKind.u64.wrap (a1 + (IntKind.u64.wrap (18446744073709551615 - a1))))).bind fun bt437 => (some (bt437.1 == bt433.1 && (bt437.2 == bt433.2.1)))) else (none))))) else ((wide_Mul.f a0 a1).bind fun bt439 => ((wide_Mul.f a0 a2).bind fun bt441 => ((wide_Add.f bt439.1 bt439.2 bt441.1 bt441.2).bind fun bt443 => (if bt443.2.2 = 0 then ((wide_Mul.f a0 (IntKind.u64.wrap (a1 + a2))).bind fun bt447 => (some (bt447.1 == bt443.1 && (bt447.2 == bt443.2.1)))) else (none))))))))) = some r:=H
    have A7:=A0.mk A70;clear A70
    by_cases c8 : (!(t425 == 0) || (!(t426 == a0))) = true
    · rw [if_pos c8] at H
      exact absurd H (by simp)
    · rw [if_neg c8] at H
      have c8b0 : (!(t425 == 0) || (!(t426 == a0))) = false:=by simpa using c8
      clear c8;replace H:=Option.bind_eq_some_iff.mp H;obtain ⟨⟨t427,t428⟩,A90,H⟩:=H
      replace H : (if (!(t427 == 0) || (!(t428 == 0))) = true then (none) else (if a2 > (IntKind.u64.wrap (18446744073709551615 - a1)) then ((wide_Mul.f a0 a1).bind fun bt429 => ((wide_Mul.f a0 (IntKind.u64.wrap (18446744073709551615 - a1))).bind fun bt431 => ((wide_Add.f bt429.1 bt429.2 bt431.1 bt431.2).bind fun bt433 => (if bt433.2.2 = 0 then ((wide_Mul.f a0 (IntKind.u64.wrap (a1 + (IntKind.u64.wrap (18446744073709551615 - a1))))).bind fun bt437 => (some (bt437.1 == bt433.1 && (bt437.2 == bt433.2.1)))) else (none))))) else ((wide_Mul.f a0 a1).bind fun bt439 => ((wide_Mul.f a0 a2).bind fun bt441 => ((wide_Add.f bt439.1 bt439.2 bt441.1 bt441.2).bind fun bt443 => (if bt443.2.2 = 0 then ((wide_Mul.f a0 (IntKind.u64.wrap (a1 + a2))).bind fun bt447 => (some (bt447.1 == bt443.1 && (bt447.2 == bt443.2.1)))) else (none))))))) = some r:=H
      have A9:=A0.mk A90;clear A90
      by_cases c10 : (!(t427 == 0) || (!(t428 == 0))) = true
      · rw [if_pos c10] at H
        exact absurd H (by simp)
      · rw [if_neg c10] at H
        have c10b0 : (!(t427 == 0) || (!(t428 == 0))) = false:=by simpa using c10
        clear c10
        by_cases c11 : a2 > (IntKind.u64.wrap (18446744073709551615 - a1))
        · rw [if_pos c11] at H
          have c11b0 : decide ((IntKind.u64.wrap (18446744073709551615 - a1)) < a2) = true:=decide_eq_true c11
          clear c11;replace H:=Option.bind_eq_some_iff.mp H;obtain ⟨⟨t429,t430⟩,A120,H⟩:=H
          replace H : ((wide_Mul.f a0 (IntKind.u64.wrap (18446744073709551615 - a1))).bind fun bt431 => ((wide_Add.f t429 t430 bt431.1 bt431.2).bind fun bt433 => (if bt433.2.2 = 0 then ((wide_Mul.f a0 (IntKind.u64.wrap (a1 + (IntKind.u64.wrap (18446744073709551615 - a1))))).bind fun bt437 => (some (bt437.1 == bt433.1 && (bt437.2 == bt433.2.1)))) else (none)))) = some r:=H
          have A12:=A0.mk A120;clear A120;replace H:=Option.bind_eq_some_iff.mp H;obtain ⟨⟨t431,t432⟩,A130,H⟩:=H
          replace H : ((wide_Add.f t429 t430 t431 t432).bind fun bt433 => (if bt433.2.2 = 0 then ((wide_Mul.f a0 (IntKind.u64.wrap (a1 + (IntKind.u64.wrap (18446744073709551615 - a1))))).bind fun bt437 => (some (bt437.1 == bt433.1 && (bt437.2 == bt433.2.1)))) else (none))) = some r:=H
          have A13:=A0.mk A130;clear A130;replace H:=Option.bind_eq_some_iff.mp H;obtain ⟨⟨t433,t434,t435⟩,A140,H⟩:=H
          replace H : (if t435 = 0 then ((wide_Mul.f a0 (IntKind.u64.wrap (a1 + (IntKind.u64.wrap (18446744073709551615 - a1))))).bind fun bt437 => (some (bt437.1 == t433 && (bt437.2 == t434)))) else (none)) = some r:=H
          have A14:=A0.mk A140;clear A140
          by_cases c15 : t435 = 0
          · rw [if_pos c15] at H
            have c15b0 : (t435 == 0) = true:=beq_iff_eq.mpr c15
            have c15b1 : (t435 != 0) = false:=bne_eq_false_iff_eq.mpr c15
            clear c15;replace H:=Option.bind_eq_some_iff.mp H;obtain ⟨⟨t437,t438⟩,A160,H⟩:=H
            replace H : (some (t437 == t433 && (t438 == t434))) = some r:=H
            have A16:=A0.mk A160;clear A160;obtain rfl:=Option.some.inj H
            go_enter Try.func34,Try.ntmps34
            try go_wp2_with (first|((with_reducible refine gC (f:=15) rfl ?_);refine goesL_ (some 11) rfl rfl Try.func15 (by kernel_rfl) rfl #[.int .u64 a0,.int .u64 a1] rfl (by (try simp only [mT,mC,mN]);first|done|rfl|(simp only [lD,lK];rfl)) ?_;(with_reducible refine (wide_Mul.calls a0 a1 t421 t422 _ A4.out).mono ?_);rintro e w17 ⟨rfl,hb⟩;refine ⟨_,rfl,?_⟩;have n0_:=A0.mk (wT (by repeat (first|(with_reducible first|exact HB.out|apply wA|apply wN|apply wD)|exact HB.out)) hb);clear HB;have HB:=n0_;clear n0_;(try clear hb);(try clear hb2);(try clear hk);(try clear hi))|((with_reducible refine gC (f:=15) rfl ?_);refine goesL_ (some 14) rfl rfl Try.func15 (by kernel_rfl) rfl #[.int .u64 a1,.int .u64 a0] rfl (by (try simp only [mT,mC,mN]);first|done|rfl|(simp only [lD,lK];rfl)) ?_;(with_reducible refine (wide_Mul.calls a1 a0 t423 t424 _ A5.out).mono ?_);rintro e w18 ⟨rfl,hb⟩;refine ⟨_,rfl,?_⟩;have n0_:=A0.mk (wT (by repeat (first|(with_reducible first|exact HB.out|apply wA|apply wN|apply wD)|exact HB.out)) hb);clear HB;have HB:=n0_;clear n0_;(try clear hb);(try clear hb2);(try clear hk);(try clear hi))|(go_at_call 15;(with_reducible refine (wide_Mul.calls a0 1 t425 t426 _ A7.out).mono ?_);rintro e w19 ⟨rfl,hb⟩;have n0_:=A0.mk (wT (by repeat (first|(with_reducible first|exact HB.out|apply wA|apply wN|apply wD)|exact HB.out)) hb);clear HB;have HB:=n0_;clear n0_;(try clear hb);(try clear hb2);(try clear hk);(try clear hi))|(go_at_call 15;(with_reducible refine (wide_Mul.calls a0 0 t427 t428 _ A9.out).mono ?_);rintro e w20 ⟨rfl,hb⟩;have n0_:=A0.mk (wT (by repeat (first|(with_reducible first|exact HB.out|apply wA|apply wN|apply wD)|exact HB.out)) hb);clear HB;have HB:=n0_;clear n0_;(try clear hb);(try clear hb2);(try clear hk);(try clear hi))|((with_reducible refine gC (f:=15) rfl ?_);refine goesL_ (some 38) rfl rfl Try.func15 (by kernel_rfl) rfl #[.int .u64 a0,.int .u64 a1] rfl (by (try simp only [mT,mC,mN]);first|done|rfl|(simp only [lD,lK];rfl)) ?_;(with_reducible refine (wide_Mul.calls a0 a1 t429 t430 _ A12.out).mono ?_);rintro e w21 ⟨rfl,hb⟩;refine ⟨_,rfl,?_⟩;have n0_:=A0.mk (wT (by repeat (first|(with_reducible first|exact HB.out|apply wA|apply wN|apply wD)|exact HB.out)) hb);clear HB;have HB:=n0_;clear n0_;(try clear hb);(try clear hb2);(try clear hk);(try clear hi))|((with_reducible refine gC (f:=15) rfl ?_);refine goesL_ (some 41) rfl rfl Try.func15 (by kernel_rfl) rfl #[.int .u64 a0,.int .u64 (IntKind.u64.wrap (18446744073709551615 - a1))] rfl (by (try simp only [mT,mC,mN]);first|done|rfl|(simp only [lD,lK];rfl)) ?_;(with_reducible refine (wide_Mul.calls a0 (IntKind.u64.wrap (18446744073709551615 - a1)) t431 t432 _ A13.out).mono ?_);rintro e w22 ⟨rfl,hb⟩;refine ⟨_,rfl,?_⟩;have n0_:=A0.mk (wT (by repeat (first|(with_reducible first|exact HB.out|apply wA|apply wN|apply wD)|exact HB.out)) hb);clear HB;have HB:=n0_;clear n0_;(try clear hb);(try clear hb2);(try clear hk);(try clear hi))|((with_reducible refine gC (f:=17) rfl ?_);refine goesL_ (some 42) rfl rfl Try.func17 (by kernel_rfl) rfl #[.agg #[.int .u64 t429,.int .u64 t430],.agg #[.int .u64 t431,.int .u64 t432]] rfl (by (try simp only [mT,mC,mN]);first|done|rfl|(simp only [lD,lK];rfl)) ?_;(with_reducible refine (wide_Add.calls t429 t430 t431 t432 t433 t434 t435 _ A14.out).mono ?_);rintro e w23 ⟨rfl,hb⟩;refine ⟨_,rfl,?_⟩;have n0_:=A0.mk (wT (by repeat (first|(with_reducible first|exact HB.out|apply wA|apply wN|apply wD)|exact HB.out)) hb);clear HB;have HB:=n0_;clear n0_;(try clear hb);(try clear hb2);(try clear hk);(try clear hi))|((with_reducible refine gD (N:=7) rfl ?_);refine bE ?hg (N:=7) ?hd (cs:=#[.int .u64 0,.int .u64 0]) (t:=24) ?hr ?_;(case hd => rfl);(case hg => rfl);(case hr => first|(go_simp;done)|(go_simp;rfl));intro gb436 hg w24 hbox hb;have n0_:=A0.mk (wT (by repeat (first|(with_reducible first|exact HB.out|apply wA|apply wN|apply wD)|exact HB.out)) hb);have n1_:=A0.mk (hbox);have n2_:=A0.mk ((by rw [hg];exact (wZ (by repeat (first|(with_reducible first|exact HB.out|apply wA|apply wN|apply wD)|exact HB.out))) : w.heap.size ≤ gb436));have n3_:=A0.mk ((by rw [hg];exact (wZ (by repeat (first|(with_reducible first|exact HB.out|apply wA|apply wN|apply wD)|exact HB.out))) : w.heap.size ≤ gb436));clear HB;have HB:=n0_;have BK436:=n1_;have GW436:=n2_;have GE436:=n3_;clear n0_ n1_ n2_ n3_;clear hb hbox hg;have hcz25_0 : w24.cell? ⟨gb436,0,none⟩ = some (.int .u64 0):=(bC BK436.out 0).trans rfl;have hcz25_1 : w24.cell? ⟨gb436,1,none⟩ = some (.int .u64 0):=(bC BK436.out 1).trans rfl;have hfz25_0:=bF BK436.out 0;have hfz25_1:=bF BK436.out 1))
            have n0_ : A0 (((w24.setCell ⟨gb436,0,none⟩ (.int .u64 t433)).setCell ⟨gb436,1,none⟩ (.int .u64 t434)).heap[gb436]? = some (.cells #[.int .u64 t433,.int .u64 t434] 24 (0,0))):=⟨by (with_reducible repeat (first|refine bN ?_ _|refine bD ?_|refine bA ?_ _));refine bP (cs:=#[.int .u64 t433,.int .u64 0]) ?_ 1 _ rfl;(with_reducible repeat (first|refine bN ?_ _|refine bD ?_|refine bA ?_ _));refine bP (cs:=#[.int .u64 0,.int .u64 0]) ?_ 0 _ rfl;(with_reducible repeat (first|refine bN ?_ _|refine bD ?_|refine bA ?_ _));exact BK436.out⟩
            have n1_ : A0 (Below w.heap.size w ((w24.setCell ⟨gb436,0,none⟩ (.int .u64 t433)).setCell ⟨gb436,1,none⟩ (.int .u64 t434))):=⟨by repeat (first|(with_reducible first|exact HB.out|apply wA|apply wN|apply wD|refine wS ?_ GE436.out)|exact HB.out)⟩
            (try clear BK436);(try clear HB)
            generalize ((w24.setCell ⟨gb436,0,none⟩ (.int .u64 t433)).setCell ⟨gb436,1,none⟩ (.int .u64 t434)) = w26 at n0_ n1_ ⊢
            have BK436:=n0_;have HB:=n1_;clear n0_ n1_;have n0_:=A0.mk (bD BK436.out);have n1_:=A0.mk (wD HB.out);clear BK436;clear HB;have BK436:=n0_;have HB:=n1_;clear n0_ n1_
            refine start_ (n:=12) (S:=fun w' => w'.cell? ⟨gb436,0,none⟩ = some (.int .u64 t433)∧w'.cell? ⟨gb436,1,none⟩ = some (.int .u64 t434)) (ds:=[]) #[Z,Z,Z,Z,Z,Z,Z,Z,Z,Z,Z,Z] (by kernel_rfl) rfl rfl ⟨(bC BK436.out 0).trans rfl,(bC BK436.out 1).trans rfl⟩ (fun hHeld => ?_);refine with_tabW vernierlaw01_spreads.tab6 vernierlaw01_spreads.bits6 (fun HT_ HW_ => ?_)
            generalize w26.drew = w27 at BK436 HB hHeld ⊢
            refine pure_ (i:=0) (N:=some 45) (v:=?_) (a':=?_) #[Y,Z,Z,Z,Z,Z,Z,Z,Z,Z,Z,Z] rfl rfl (any_of HT_.out (by kernel_rfl)) (fun _ _ _ h => h) (Or.inl ⟨by rfl,?_⟩) ?_ ?_
            rotate_left;(intro w';go_simp;with_reducible rfl);rotate_left;(simp only [aP,lT,lZ,lS,i64_w,i32_w];rfl)
            refine pure_ (i:=1) (N:=some 46) (v:=?_) (a':=?_) #[Y,Y,Z,Z,Z,Z,Z,Z,Z,Z,Z,Z] rfl rfl (any_of HT_.out (by kernel_rfl)) (fun _ _ _ h => h) (Or.inl ⟨by rfl,?_⟩) ?_ ?_
            rotate_left;(intro w';go_simp;with_reducible rfl);rotate_left;(simp only [aP,lT,lZ,lS,i64_w,i32_w];rfl)
            refine pure_ (i:=2) (N:=some 47) (v:=?_) (a':=?_) #[Y,Y,Y,Z,Z,Z,Z,Z,Z,Z,Z,Z] rfl rfl (any_of HT_.out (by kernel_rfl)) (fun _ _ _ h => h) (Or.inl ⟨by rfl,?_⟩) ?_ ?_
            rotate_left;(intro w';go_simp;with_reducible rfl);rotate_left;(simp only [aP,lT,lZ,lS,i64_w,i32_w];rfl)
            refine pure_ (i:=3) (N:=some 48) (v:=?_) (a':=?_) #[Y,Y,Y,Y,Z,Z,Z,Z,Z,Z,Z,Z] rfl rfl (any_of HT_.out (by kernel_rfl)) (fun _ _ _ h => h) (Or.inl ⟨by rfl,?_⟩) ?_ ?_
            rotate_left;(intro w';go_simp;with_reducible rfl);rotate_left;(simp only [aP,lT,lZ,lS,i64_w,i32_w];rfl)
            refine pure_ (i:=4) (N:=some 49) (v:=?_) (a':=?_) #[Y,Y,Y,Y,Y,Z,Z,Z,Z,Z,Z,Z] rfl rfl (any_of HT_.out (by kernel_rfl)) (fun _ _ _ h => h) (Or.inl ⟨by rfl,?_⟩) ?_ ?_
            rotate_left;(intro w';go_simp;with_reducible rfl);rotate_left;(simp only [aP,lT,lZ,lS,i64_w,i32_w];rfl)
            refine pure_ (i:=5) (N:=some 50) (v:=?_) (a':=?_) #[Y,Y,Y,Y,Y,Y,Z,Z,Z,Z,Z,Z] rfl rfl (any_of HT_.out (by kernel_rfl)) (fun _ _ _ h => h) (Or.inl ⟨by rfl,?_⟩) ?_ ?_
            rotate_left;(intro w';go_simp;with_reducible rfl);rotate_left;(simp only [aP,lT,lZ,lS,i64_w,i32_w];rfl)
            refine pure_ (i:=6) (N:=some 51) (v:=?_) (a':=?_) #[Y,Y,Y,Y,Y,Y,Y,Z,Z,Z,Z,Z] rfl rfl (any_of HT_.out (by kernel_rfl)) (fun _ _ _ h => h) (Or.inl ⟨by rfl,?_⟩) ?_ ?_
            rotate_left;(intro w';go_simp;with_reducible rfl);rotate_left;(simp only [aP,lT,lZ,lS,i64_w,i32_w];rfl)
            refine take_ (i:=8) (N:=some 53) (v:=?_) (a':=?_) #[Y,Y,Y,Y,Y,Y,Y,Z,Y,Z,Z,Z] rfl rfl (take_ofW HT_.out HW_.out (by kernel_rfl)) (fun _ _ _ h => h) (Or.inl ⟨by rfl,?_⟩) hHeld ?_ ?_
            rotate_left;(rintro w' ⟨s0,s1⟩;go_simp;with_reducible rfl);rotate_left;(simp only [aP,lT,lZ,lS,i64_w,i32_w];rfl)
            refine one_ (i:=7) (N:=some 52) #[Y,Y,Y,Y,Y,Y,Y,Y,Y,Z,Z,Z] rfl rfl (one_of HT_.out (by kernel_rfl)) (by decide) (fun K hK => ?_)
            refine goes_ Try.func15 (by kernel_rfl) rfl #[.int .u64 a0,.int .u64 (IntKind.u64.wrap (a1 + (IntKind.u64.wrap (18446744073709551615 - a1))))] (by rfl) rfl rfl (by (try simp only [mT,mC,mN]);first|done|rfl|(simp only [lD,lK];rfl)) ?_
            with_reducible refine (wide_Mul.calls a0 (IntKind.u64.wrap (a1 + (IntKind.u64.wrap (18446744073709551615 - a1)))) t437 t438 _ A16.out).mono ?_
            rintro e w28 ⟨rfl,hb⟩;refine ⟨_,rfl,?_⟩;have n0_:=A0.mk (bB (g:=gb436) (o:=.cells #[.int .u64 t433,.int .u64 t434] 24 (0,0)) (by (with_reducible repeat (first|refine bN ?_ _|refine bD ?_|refine bA ?_ _));exact BK436.out) hb);have n1_:=A0.mk (wT (by repeat (first|(with_reducible first|exact HB.out|apply wA|apply wN|apply wD|refine wS ?_ GE436.out)|exact HB.out)) hb);clear BK436;clear HB;have BK436:=n0_;have HB:=n1_;clear n0_ n1_;(try clear hb);(try clear hb2);(try clear hk);(try clear hi)
            refine hK.out _ _ ⟨(bC BK436.out 0).trans rfl,(bC BK436.out 1).trans rfl⟩ (fun hHeld => ?_)
            clear hK K
            refine norm_ (a':=?_) ?_ ?_
            rotate_left;(show Act.put _ (some 52) _ = _;simp only [aP,lT,lZ,lS,i64_w,i32_w];rfl)
            refine pure_ (i:=9) (N:=some 54) (v:=?_) (a':=?_) #[Y,Y,Y,Y,Y,Y,Y,Y,Y,Y,Z,Z] rfl rfl (any_of HT_.out (by kernel_rfl)) (fun _ _ _ h => h) (Or.inl ⟨by rfl,?_⟩) ?_ ?_
            rotate_left;(intro w';go_simp;with_reducible rfl);rotate_left;(simp only [aP,lT,lZ,lS,i64_w,i32_w];rfl)
            refine pure_ (i:=10) (N:=some 55) (v:=?_) (a':=?_) #[Y,Y,Y,Y,Y,Y,Y,Y,Y,Y,Y,Z] rfl rfl (any_of HT_.out (by kernel_rfl)) (fun _ _ _ h => h) (Or.inl ⟨by rfl,?_⟩) ?_ ?_
            rotate_left;(intro w';go_simp;with_reducible rfl);rotate_left;(simp only [aP,lT,lZ,lS,i64_w,i32_w];rfl)
            refine pure_ (i:=11) (N:=some 6) (v:=?_) (a':=?_) #[Y,Y,Y,Y,Y,Y,Y,Y,Y,Y,Y,Y] rfl rfl (any_of HT_.out (by kernel_rfl)) (fun _ _ _ h => h) (Or.inl ⟨by rfl,?_⟩) ?_ ?_
            rotate_left;(intro w';go_simp;with_reducible rfl);rotate_left;(simp only [aP,lT,lZ,lS,i64_w,i32_w];rfl)
            refine done_ (done_of HT_.out (by kernel_rfl)) ?_
            try go_wp2
            go_ret
            exact ⟨by first|rfl|(simp [errW_none,errW_some] <;> rfl)|(simp [*,errW_none,errW_some] <;> rfl),by repeat (first|(with_reducible first|exact HB.out|apply wA|apply wN|apply wD|refine wS ?_ GE436.out)|exact HB.out)⟩
          · rw [if_neg c15] at H
            have c15b0 : (t435 == 0) = false:=beq_eq_false_iff_ne.mpr c15
            have c15b1 : (t435 != 0) = true:=bne_iff_ne.mpr c15
            exact absurd H (by simp)
        · rw [if_neg c11] at H
          have c11b0 : decide ((IntKind.u64.wrap (18446744073709551615 - a1)) < a2) = false:=decide_eq_false c11
          clear c11;replace H:=Option.bind_eq_some_iff.mp H;obtain ⟨⟨t439,t440⟩,A290,H⟩:=H
          replace H : ((wide_Mul.f a0 a2).bind fun bt441 => ((wide_Add.f t439 t440 bt441.1 bt441.2).bind fun bt443 => (if bt443.2.2 = 0 then ((wide_Mul.f a0 (IntKind.u64.wrap (a1 + a2))).bind fun bt447 => (some (bt447.1 == bt443.1 && (bt447.2 == bt443.2.1)))) else (none)))) = some r:=H
          have A29:=A0.mk A290;clear A290;replace H:=Option.bind_eq_some_iff.mp H;obtain ⟨⟨t441,t442⟩,A300,H⟩:=H
          replace H : ((wide_Add.f t439 t440 t441 t442).bind fun bt443 => (if bt443.2.2 = 0 then ((wide_Mul.f a0 (IntKind.u64.wrap (a1 + a2))).bind fun bt447 => (some (bt447.1 == bt443.1 && (bt447.2 == bt443.2.1)))) else (none))) = some r:=H
          have A30:=A0.mk A300;clear A300;replace H:=Option.bind_eq_some_iff.mp H;obtain ⟨⟨t443,t444,t445⟩,A310,H⟩:=H
          replace H : (if t445 = 0 then ((wide_Mul.f a0 (IntKind.u64.wrap (a1 + a2))).bind fun bt447 => (some (bt447.1 == t443 && (bt447.2 == t444)))) else (none)) = some r:=H
          have A31:=A0.mk A310;clear A310
          by_cases c32 : t445 = 0
          · rw [if_pos c32] at H
            have c32b0 : (t445 == 0) = true:=beq_iff_eq.mpr c32
            have c32b1 : (t445 != 0) = false:=bne_eq_false_iff_eq.mpr c32
            clear c32;replace H:=Option.bind_eq_some_iff.mp H;obtain ⟨⟨t447,t448⟩,A330,H⟩:=H
            replace H : (some (t447 == t443 && (t448 == t444))) = some r:=H
            have A33:=A0.mk A330;clear A330;obtain rfl:=Option.some.inj H
            go_enter Try.func34,Try.ntmps34
            try go_wp2_with (first|((with_reducible refine gC (f:=15) rfl ?_);refine goesL_ (some 11) rfl rfl Try.func15 (by kernel_rfl) rfl #[.int .u64 a0,.int .u64 a1] rfl (by (try simp only [mT,mC,mN]);first|done|rfl|(simp only [lD,lK];rfl)) ?_;(with_reducible refine (wide_Mul.calls a0 a1 t421 t422 _ A4.out).mono ?_);rintro e w34 ⟨rfl,hb⟩;refine ⟨_,rfl,?_⟩;have n0_:=A0.mk (wT (by repeat (first|(with_reducible first|exact HB.out|apply wA|apply wN|apply wD)|exact HB.out)) hb);clear HB;have HB:=n0_;clear n0_;(try clear hb);(try clear hb2);(try clear hk);(try clear hi))|((with_reducible refine gC (f:=15) rfl ?_);refine goesL_ (some 14) rfl rfl Try.func15 (by kernel_rfl) rfl #[.int .u64 a1,.int .u64 a0] rfl (by (try simp only [mT,mC,mN]);first|done|rfl|(simp only [lD,lK];rfl)) ?_;(with_reducible refine (wide_Mul.calls a1 a0 t423 t424 _ A5.out).mono ?_);rintro e w35 ⟨rfl,hb⟩;refine ⟨_,rfl,?_⟩;have n0_:=A0.mk (wT (by repeat (first|(with_reducible first|exact HB.out|apply wA|apply wN|apply wD)|exact HB.out)) hb);clear HB;have HB:=n0_;clear n0_;(try clear hb);(try clear hb2);(try clear hk);(try clear hi))|(go_at_call 15;(with_reducible refine (wide_Mul.calls a0 1 t425 t426 _ A7.out).mono ?_);rintro e w36 ⟨rfl,hb⟩;have n0_:=A0.mk (wT (by repeat (first|(with_reducible first|exact HB.out|apply wA|apply wN|apply wD)|exact HB.out)) hb);clear HB;have HB:=n0_;clear n0_;(try clear hb);(try clear hb2);(try clear hk);(try clear hi))|(go_at_call 15;(with_reducible refine (wide_Mul.calls a0 0 t427 t428 _ A9.out).mono ?_);rintro e w37 ⟨rfl,hb⟩;have n0_:=A0.mk (wT (by repeat (first|(with_reducible first|exact HB.out|apply wA|apply wN|apply wD)|exact HB.out)) hb);clear HB;have HB:=n0_;clear n0_;(try clear hb);(try clear hb2);(try clear hk);(try clear hi))|((with_reducible refine gC (f:=15) rfl ?_);refine goesL_ (some 38) rfl rfl Try.func15 (by kernel_rfl) rfl #[.int .u64 a0,.int .u64 a1] rfl (by (try simp only [mT,mC,mN]);first|done|rfl|(simp only [lD,lK];rfl)) ?_;(with_reducible refine (wide_Mul.calls a0 a1 t439 t440 _ A29.out).mono ?_);rintro e w38 ⟨rfl,hb⟩;refine ⟨_,rfl,?_⟩;have n0_:=A0.mk (wT (by repeat (first|(with_reducible first|exact HB.out|apply wA|apply wN|apply wD)|exact HB.out)) hb);clear HB;have HB:=n0_;clear n0_;(try clear hb);(try clear hb2);(try clear hk);(try clear hi))|((with_reducible refine gC (f:=15) rfl ?_);refine goesL_ (some 41) rfl rfl Try.func15 (by kernel_rfl) rfl #[.int .u64 a0,.int .u64 a2] rfl (by (try simp only [mT,mC,mN]);first|done|rfl|(simp only [lD,lK];rfl)) ?_;(with_reducible refine (wide_Mul.calls a0 a2 t441 t442 _ A30.out).mono ?_);rintro e w39 ⟨rfl,hb⟩;refine ⟨_,rfl,?_⟩;have n0_:=A0.mk (wT (by repeat (first|(with_reducible first|exact HB.out|apply wA|apply wN|apply wD)|exact HB.out)) hb);clear HB;have HB:=n0_;clear n0_;(try clear hb);(try clear hb2);(try clear hk);(try clear hi))|((with_reducible refine gC (f:=17) rfl ?_);refine goesL_ (some 42) rfl rfl Try.func17 (by kernel_rfl) rfl #[.agg #[.int .u64 t439,.int .u64 t440],.agg #[.int .u64 t441,.int .u64 t442]] rfl (by (try simp only [mT,mC,mN]);first|done|rfl|(simp only [lD,lK];rfl)) ?_;(with_reducible refine (wide_Add.calls t439 t440 t441 t442 t443 t444 t445 _ A31.out).mono ?_);rintro e w40 ⟨rfl,hb⟩;refine ⟨_,rfl,?_⟩;have n0_:=A0.mk (wT (by repeat (first|(with_reducible first|exact HB.out|apply wA|apply wN|apply wD)|exact HB.out)) hb);clear HB;have HB:=n0_;clear n0_;(try clear hb);(try clear hb2);(try clear hk);(try clear hi))|((with_reducible refine gD (N:=7) rfl ?_);refine bE ?hg (N:=7) ?hd (cs:=#[.int .u64 0,.int .u64 0]) (t:=24) ?hr ?_;(case hd => rfl);(case hg => rfl);(case hr => first|(go_simp;done)|(go_simp;rfl));intro gb446 hg w41 hbox hb;have n0_:=A0.mk (wT (by repeat (first|(with_reducible first|exact HB.out|apply wA|apply wN|apply wD)|exact HB.out)) hb);have n1_:=A0.mk (hbox);have n2_:=A0.mk ((by rw [hg];exact (wZ (by repeat (first|(with_reducible first|exact HB.out|apply wA|apply wN|apply wD)|exact HB.out))) : w.heap.size ≤ gb446));have n3_:=A0.mk ((by rw [hg];exact (wZ (by repeat (first|(with_reducible first|exact HB.out|apply wA|apply wN|apply wD)|exact HB.out))) : w.heap.size ≤ gb446));clear HB;have HB:=n0_;have BK446:=n1_;have GW446:=n2_;have GE446:=n3_;clear n0_ n1_ n2_ n3_;clear hb hbox hg;have hcz42_0 : w41.cell? ⟨gb446,0,none⟩ = some (.int .u64 0):=(bC BK446.out 0).trans rfl;have hcz42_1 : w41.cell? ⟨gb446,1,none⟩ = some (.int .u64 0):=(bC BK446.out 1).trans rfl;have hfz42_0:=bF BK446.out 0;have hfz42_1:=bF BK446.out 1))
            have n0_ : A0 (((w41.setCell ⟨gb446,0,none⟩ (.int .u64 t443)).setCell ⟨gb446,1,none⟩ (.int .u64 t444)).heap[gb446]? = some (.cells #[.int .u64 t443,.int .u64 t444] 24 (0,0))):=⟨by (with_reducible repeat (first|refine bN ?_ _|refine bD ?_|refine bA ?_ _));refine bP (cs:=#[.int .u64 t443,.int .u64 0]) ?_ 1 _ rfl;(with_reducible repeat (first|refine bN ?_ _|refine bD ?_|refine bA ?_ _));refine bP (cs:=#[.int .u64 0,.int .u64 0]) ?_ 0 _ rfl;(with_reducible repeat (first|refine bN ?_ _|refine bD ?_|refine bA ?_ _));exact BK446.out⟩
            have n1_ : A0 (Below w.heap.size w ((w41.setCell ⟨gb446,0,none⟩ (.int .u64 t443)).setCell ⟨gb446,1,none⟩ (.int .u64 t444))):=⟨by repeat (first|(with_reducible first|exact HB.out|apply wA|apply wN|apply wD|refine wS ?_ GE446.out)|exact HB.out)⟩
            (try clear BK446);(try clear HB)
            generalize ((w41.setCell ⟨gb446,0,none⟩ (.int .u64 t443)).setCell ⟨gb446,1,none⟩ (.int .u64 t444)) = w43 at n0_ n1_ ⊢
            have BK446:=n0_;have HB:=n1_;clear n0_ n1_;have n0_:=A0.mk (bD BK446.out);have n1_:=A0.mk (wD HB.out);clear BK446;clear HB;have BK446:=n0_;have HB:=n1_;clear n0_ n1_
            refine start_ (n:=12) (S:=fun w' => w'.cell? ⟨gb446,0,none⟩ = some (.int .u64 t443)∧w'.cell? ⟨gb446,1,none⟩ = some (.int .u64 t444)) (ds:=[]) #[Z,Z,Z,Z,Z,Z,Z,Z,Z,Z,Z,Z] (by kernel_rfl) rfl rfl ⟨(bC BK446.out 0).trans rfl,(bC BK446.out 1).trans rfl⟩ (fun hHeld => ?_);refine with_tabW vernierlaw01_spreads.tab6 vernierlaw01_spreads.bits6 (fun HT_ HW_ => ?_)
            generalize w43.drew = w44 at BK446 HB hHeld ⊢
            refine pure_ (i:=0) (N:=some 45) (v:=?_) (a':=?_) #[Y,Z,Z,Z,Z,Z,Z,Z,Z,Z,Z,Z] rfl rfl (any_of HT_.out (by kernel_rfl)) (fun _ _ _ h => h) (Or.inl ⟨by rfl,?_⟩) ?_ ?_
            rotate_left;(intro w';go_simp;with_reducible rfl);rotate_left;(simp only [aP,lT,lZ,lS,i64_w,i32_w];rfl)
            refine pure_ (i:=1) (N:=some 46) (v:=?_) (a':=?_) #[Y,Y,Z,Z,Z,Z,Z,Z,Z,Z,Z,Z] rfl rfl (any_of HT_.out (by kernel_rfl)) (fun _ _ _ h => h) (Or.inl ⟨by rfl,?_⟩) ?_ ?_
            rotate_left;(intro w';go_simp;with_reducible rfl);rotate_left;(simp only [aP,lT,lZ,lS,i64_w,i32_w];rfl)
            refine pure_ (i:=2) (N:=some 47) (v:=?_) (a':=?_) #[Y,Y,Y,Z,Z,Z,Z,Z,Z,Z,Z,Z] rfl rfl (any_of HT_.out (by kernel_rfl)) (fun _ _ _ h => h) (Or.inl ⟨by rfl,?_⟩) ?_ ?_
            rotate_left;(intro w';go_simp;with_reducible rfl);rotate_left;(simp only [aP,lT,lZ,lS,i64_w,i32_w];rfl)
            refine pure_ (i:=3) (N:=some 48) (v:=?_) (a':=?_) #[Y,Y,Y,Y,Z,Z,Z,Z,Z,Z,Z,Z] rfl rfl (any_of HT_.out (by kernel_rfl)) (fun _ _ _ h => h) (Or.inl ⟨by rfl,?_⟩) ?_ ?_
            rotate_left;(intro w';go_simp;with_reducible rfl);rotate_left;(simp only [aP,lT,lZ,lS,i64_w,i32_w];rfl)
            refine pure_ (i:=4) (N:=some 49) (v:=?_) (a':=?_) #[Y,Y,Y,Y,Y,Z,Z,Z,Z,Z,Z,Z] rfl rfl (any_of HT_.out (by kernel_rfl)) (fun _ _ _ h => h) (Or.inl ⟨by rfl,?_⟩) ?_ ?_
            rotate_left;(intro w';go_simp;with_reducible rfl);rotate_left;(simp only [aP,lT,lZ,lS,i64_w,i32_w];rfl)
            refine pure_ (i:=5) (N:=some 50) (v:=?_) (a':=?_) #[Y,Y,Y,Y,Y,Y,Z,Z,Z,Z,Z,Z] rfl rfl (any_of HT_.out (by kernel_rfl)) (fun _ _ _ h => h) (Or.inl ⟨by rfl,?_⟩) ?_ ?_
            rotate_left;(intro w';go_simp;with_reducible rfl);rotate_left;(simp only [aP,lT,lZ,lS,i64_w,i32_w];rfl)
            refine pure_ (i:=6) (N:=some 51) (v:=?_) (a':=?_) #[Y,Y,Y,Y,Y,Y,Y,Z,Z,Z,Z,Z] rfl rfl (any_of HT_.out (by kernel_rfl)) (fun _ _ _ h => h) (Or.inl ⟨by rfl,?_⟩) ?_ ?_
            rotate_left;(intro w';go_simp;with_reducible rfl);rotate_left;(simp only [aP,lT,lZ,lS,i64_w,i32_w];rfl)
            refine take_ (i:=8) (N:=some 53) (v:=?_) (a':=?_) #[Y,Y,Y,Y,Y,Y,Y,Z,Y,Z,Z,Z] rfl rfl (take_ofW HT_.out HW_.out (by kernel_rfl)) (fun _ _ _ h => h) (Or.inl ⟨by rfl,?_⟩) hHeld ?_ ?_
            rotate_left;(rintro w' ⟨s0,s1⟩;go_simp;with_reducible rfl);rotate_left;(simp only [aP,lT,lZ,lS,i64_w,i32_w];rfl)
            refine one_ (i:=7) (N:=some 52) #[Y,Y,Y,Y,Y,Y,Y,Y,Y,Z,Z,Z] rfl rfl (one_of HT_.out (by kernel_rfl)) (by decide) (fun K hK => ?_)
            refine goes_ Try.func15 (by kernel_rfl) rfl #[.int .u64 a0,.int .u64 (IntKind.u64.wrap (a1 + a2))] (by rfl) rfl rfl (by (try simp only [mT,mC,mN]);first|done|rfl|(simp only [lD,lK];rfl)) ?_
            with_reducible refine (wide_Mul.calls a0 (IntKind.u64.wrap (a1 + a2)) t447 t448 _ A33.out).mono ?_
            rintro e w45 ⟨rfl,hb⟩;refine ⟨_,rfl,?_⟩;have n0_:=A0.mk (bB (g:=gb446) (o:=.cells #[.int .u64 t443,.int .u64 t444] 24 (0,0)) (by (with_reducible repeat (first|refine bN ?_ _|refine bD ?_|refine bA ?_ _));exact BK446.out) hb);have n1_:=A0.mk (wT (by repeat (first|(with_reducible first|exact HB.out|apply wA|apply wN|apply wD|refine wS ?_ GE446.out)|exact HB.out)) hb);clear BK446;clear HB;have BK446:=n0_;have HB:=n1_;clear n0_ n1_;(try clear hb);(try clear hb2);(try clear hk);(try clear hi)
            refine hK.out _ _ ⟨(bC BK446.out 0).trans rfl,(bC BK446.out 1).trans rfl⟩ (fun hHeld => ?_)
            clear hK K
            refine norm_ (a':=?_) ?_ ?_
            rotate_left;(show Act.put _ (some 52) _ = _;simp only [aP,lT,lZ,lS,i64_w,i32_w];rfl)
            refine pure_ (i:=9) (N:=some 54) (v:=?_) (a':=?_) #[Y,Y,Y,Y,Y,Y,Y,Y,Y,Y,Z,Z] rfl rfl (any_of HT_.out (by kernel_rfl)) (fun _ _ _ h => h) (Or.inl ⟨by rfl,?_⟩) ?_ ?_
            rotate_left;(intro w';go_simp;with_reducible rfl);rotate_left;(simp only [aP,lT,lZ,lS,i64_w,i32_w];rfl)
            refine pure_ (i:=10) (N:=some 55) (v:=?_) (a':=?_) #[Y,Y,Y,Y,Y,Y,Y,Y,Y,Y,Y,Z] rfl rfl (any_of HT_.out (by kernel_rfl)) (fun _ _ _ h => h) (Or.inl ⟨by rfl,?_⟩) ?_ ?_
            rotate_left;(intro w';go_simp;with_reducible rfl);rotate_left;(simp only [aP,lT,lZ,lS,i64_w,i32_w];rfl)
            refine pure_ (i:=11) (N:=some 6) (v:=?_) (a':=?_) #[Y,Y,Y,Y,Y,Y,Y,Y,Y,Y,Y,Y] rfl rfl (any_of HT_.out (by kernel_rfl)) (fun _ _ _ h => h) (Or.inl ⟨by rfl,?_⟩) ?_ ?_
            rotate_left;(intro w';go_simp;with_reducible rfl);rotate_left;(simp only [aP,lT,lZ,lS,i64_w,i32_w];rfl)
            refine done_ (done_of HT_.out (by kernel_rfl)) ?_
            try go_wp2
            go_ret
            exact ⟨by first|rfl|(simp [errW_none,errW_some] <;> rfl)|(simp [*,errW_none,errW_some] <;> rfl),by repeat (first|(with_reducible first|exact HB.out|apply wA|apply wN|apply wD|refine wS ?_ GE446.out)|exact HB.out)⟩
          · rw [if_neg c32] at H
            have c32b0 : (t445 == 0) = false:=beq_eq_false_iff_ne.mpr c32
            have c32b1 : (t445 != 0) = true:=bne_iff_ne.mpr c32
            exact absurd H (by simp)

end Go.Proofs.Ytidjigoghdghiaa.V
