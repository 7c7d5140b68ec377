/- Contracts of the program's functions, each: where the printed function answers, the call answers the same. Written by vprint.py, this session's own program over the kit's print.py; Lean checks it. No conditions beyond those that each states. -/
import Derived.Test.YtjdmbhdlogbopaaDoorVx0
import Derived.Test.YtjdmbhdlogbopaaDoorVx1
import Derived.Test.YtjdmbhdlogbopaaDoorVx4
import Derived.Test.YtjdmbhdlogbopaaDoorVx13
import Derived.Test.YtjdmbhdlogbopaaDoorVx15
namespace Go.Proofs.YtjdmbhdlogbopaaDoor.V
open Go.RowKit Go.Proofs.YtjdmbhdlogbopaaDoorQ.PrintWords Go.Proofs.YtjdmbhdlogbopaaDoorQ.PrintLast Go.Proofs.YtjdmbhdlogbopaaDoorQ.PrintMore
open Bool renaming true → Y, false → Z
open List renaming setIfInBounds_toArray → lT, set_cons_zero → lZ, set_cons_succ → lS, map_toArray → mT, map_cons → mC, map_nil → mN, length_drop → lD, length_take → lK
open Act renaming put → aP
attribute [local go_sem] max2_int min2_int max_two min_two max_three min_three max_four min_four   -- for this text's walks alone
set_option linter.unusedVariables false
set_option linter.unusedSimpArgs false

/-! ### vernierref04_IsInf: function 63 -/
def vernierref04_IsInf.f (a0 : Int) (a1 : Int) : Option (Bool):=(vernierref04_Parts.f a0 a1).bind fun bt438 => (if bt438.2.1 = bt438.2.2.2 then (some (bt438.2.2.1 == 0)) else (some false))
set_option maxHeartbeats 8000000 in
set_option maxRecDepth 100000 in
theorem vernierref04_IsInf.calls (a0 : Int) (a1 : Int) (r : Bool) (w : World) (h : vernierref04_IsInf.f a0 a1 = some r) :
    Calls Tryd.prog 63 #[.int .i64 a0,.int .u64 a1] w fun e w' => e = .returned (.bool r)∧Below w.heap.size w w':=by
  have HB:=A0.mk (Below.refl w.heap.size w)
  have H : ((vernierref04_Parts.f a0 a1).bind fun bt438 => (if bt438.2.1 = bt438.2.2.2 then (some (bt438.2.2.1 == 0)) else (some false))) = some r:=h
  clear h;replace H:=Option.bind_eq_some_iff.mp H;obtain ⟨⟨t438,t439,t440,t441⟩,A30,H⟩:=H
  replace H : (if t439 = t441 then (some (t440 == 0)) else (some false)) = some r:=H
  have A3:=A0.mk A30;clear A30
  by_cases c4 : t439 = t441
  · rw [if_pos c4] at H
    have c4b0 : (t439 == t441) = true:=beq_iff_eq.mpr c4
    have c4b1 : (t439 != t441) = false:=bne_eq_false_iff_eq.mpr c4
    clear c4;obtain rfl:=Option.some.inj H
    go_enter Tryd.func63,Tryd.ntmps63
    go_wp2_with (first|((with_reducible refine gC (f:=16) rfl ?_);refine goesL_ (some 12) rfl rfl Tryd.func16 (by kernel_rfl) rfl #[.int .i64 a0,.int .u64 a1] rfl (by (try simp only [mT,mC,mN]);first|done|rfl|(simp only [lD,lK];rfl)) ?_;(with_reducible refine (vernierref04_Parts.calls a0 a1 t438 t439 t440 t441 _ A3.out).mono ?_);rintro e w5 ⟨rfl,hb⟩;refine ⟨_,rfl,?_⟩;have n0_:=A0.mk (wT (by repeat (first|(with_reducible first|exact HB.out|apply wA|apply wN|apply wD)|exact HB.out)) hb);clear HB;have HB:=n0_;clear n0_;(try clear hb);(try clear hb2);(try clear hk);(try clear hi)))
    go_ret
    exact ⟨by first|rfl|(simp [errW_none,errW_some] <;> rfl)|(simp [*,errW_none,errW_some] <;> rfl)|(simp [wrap64];done),by repeat (first|(with_reducible first|exact HB.out|apply wA|apply wN|apply wD)|exact HB.out)⟩
  · rw [if_neg c4] at H
    have c4b0 : (t439 == t441) = false:=beq_eq_false_iff_ne.mpr c4
    have c4b1 : (t439 != t441) = true:=bne_iff_ne.mpr c4
    obtain rfl:=Option.some.inj H
    go_enter Tryd.func63,Tryd.ntmps63
    go_wp2_with (first|((with_reducible refine gC (f:=16) rfl ?_);refine goesL_ (some 12) rfl rfl Tryd.func16 (by kernel_rfl) rfl #[.int .i64 a0,.int .u64 a1] rfl (by (try simp only [mT,mC,mN]);first|done|rfl|(simp only [lD,lK];rfl)) ?_;(with_reducible refine (vernierref04_Parts.calls a0 a1 t438 t439 t440 t441 _ A3.out).mono ?_);rintro e w6 ⟨rfl,hb⟩;refine ⟨_,rfl,?_⟩;have n0_:=A0.mk (wT (by repeat (first|(with_reducible first|exact HB.out|apply wA|apply wN|apply wD)|exact HB.out)) hb);clear HB;have HB:=n0_;clear n0_;(try clear hb);(try clear hb2);(try clear hk);(try clear hi)))
    go_ret
    exact ⟨by first|rfl|(simp [errW_none,errW_some] <;> rfl)|(simp [*,errW_none,errW_some] <;> rfl)|(simp [wrap64];done),by repeat (first|(with_reducible first|exact HB.out|apply wA|apply wN|apply wD)|exact HB.out)⟩

/-! ### vernierref04_Number: function 64 -/
def vernierref04_Number.f (a0 : Int) (a1 : Int) : Option (Int × Int):=(vernierref04_Row.f a0).bind fun bt442 => ((vernierref04_Parts.f a0 a1).bind fun bt448 => (if bt448.2.1 = 0 then (some (bt448.2.2.1,wrap64 ((wrap64 (bt442.2.2.1 - bt442.2.1)) + 1))) else (if 0 ≤ (IntKind.u64.wrap (wrap64 (bt442.2.1 - 1))) then (some (IntKind.u64.wrap ((shl .u64 1 (IntKind.u64.wrap (wrap64 (bt442.2.1 - 1)))) + bt448.2.2.1),wrap64 ((wrap64 ((wrap64 ((wrap64 ((wrap64 (bt448.2.1)) - 1)) + bt442.2.2.1)) - bt442.2.1)) + 1))) else (none))))
set_option maxHeartbeats 8000000 in
set_option maxRecDepth 100000 in
theorem vernierref04_Number.calls (a0 : Int) (a1 : Int) (r1 : Int) (r2 : Int) (w : World) (h : vernierref04_Number.f a0 a1 = some (r1,r2)) :
    Calls Tryd.prog 64 #[.int .i64 a0,.int .u64 a1] w fun e w' => e = .returned (.tuple #[.int .u64 r1,.int .i64 r2])∧Below w.heap.size w w':=by
  have hu42:=Tryd.underlying42
  have HB:=A0.mk (Below.refl w.heap.size w)
  have H : ((vernierref04_Row.f a0).bind fun bt442 => ((vernierref04_Parts.f a0 a1).bind fun bt448 => (if bt448.2.1 = 0 then (some (bt448.2.2.1,wrap64 ((wrap64 (bt442.2.2.1 - bt442.2.1)) + 1))) else (if 0 ≤ (IntKind.u64.wrap (wrap64 (bt442.2.1 - 1))) then (some (IntKind.u64.wrap ((shl .u64 1 (IntKind.u64.wrap (wrap64 (bt442.2.1 - 1)))) + bt448.2.2.1),wrap64 ((wrap64 ((wrap64 ((wrap64 ((wrap64 (bt448.2.1)) - 1)) + bt442.2.2.1)) - bt442.2.1)) + 1))) else (none))))) = some (r1,r2):=h
  clear h;replace H:=Option.bind_eq_some_iff.mp H;obtain ⟨⟨t442,t443,t444,t445,t446⟩,A30,H⟩:=H
  replace H : ((vernierref04_Parts.f a0 a1).bind fun bt448 => (if bt448.2.1 = 0 then (some (bt448.2.2.1,wrap64 ((wrap64 (t444 - t443)) + 1))) else (if 0 ≤ (IntKind.u64.wrap (wrap64 (t443 - 1))) then (some (IntKind.u64.wrap ((shl .u64 1 (IntKind.u64.wrap (wrap64 (t443 - 1)))) + bt448.2.2.1),wrap64 ((wrap64 ((wrap64 ((wrap64 ((wrap64 (bt448.2.1)) - 1)) + t444)) - t443)) + 1))) else (none)))) = some (r1,r2):=H
  have A3:=A0.mk A30;clear A30;replace H:=Option.bind_eq_some_iff.mp H;obtain ⟨⟨t448,t449,t450,t451⟩,A40,H⟩:=H
  replace H : (if t449 = 0 then (some (t450,wrap64 ((wrap64 (t444 - t443)) + 1))) else (if 0 ≤ (IntKind.u64.wrap (wrap64 (t443 - 1))) then (some (IntKind.u64.wrap ((shl .u64 1 (IntKind.u64.wrap (wrap64 (t443 - 1)))) + t450),wrap64 ((wrap64 ((wrap64 ((wrap64 ((wrap64 (t449)) - 1)) + t444)) - t443)) + 1))) else (none))) = some (r1,r2):=H
  have A4:=A0.mk A40;clear A40
  by_cases c5 : t449 = 0
  · rw [if_pos c5] at H
    have c5b0 : (t449 == 0) = true:=beq_iff_eq.mpr c5
    have c5b1 : (t449 != 0) = false:=bne_eq_false_iff_eq.mpr c5
    clear c5
    simp only [Option.some.injEq,Prod.mk.injEq] at H
    obtain ⟨rfl,rfl⟩:=H
    go_enter Tryd.func64,Tryd.ntmps64
    go_wp2_with (first|(go_at_call 21;(with_reducible refine (vernierref04_Row.calls a0 t442 t443 t444 t445 t446 _ A3.out).mono ?_);rintro e w6 ⟨rfl,hb⟩;have n0_:=A0.mk (wT (by repeat (first|(with_reducible first|exact HB.out|apply wA|apply wN|apply wD)|exact HB.out)) hb);clear HB;have HB:=n0_;clear n0_;(try clear hb);(try clear hb2);(try clear hk);(try clear hi))|((with_reducible refine gD (N:=6) rfl ?_);refine bE ?hg (N:=6) ?hd (cs:=#[.int .i64 0,.int .i64 0,.int .i64 0,.int .i64 0]) (t:=42) ?hr ?_;(case hd => rfl);(case hg => rfl);(case hr => first|(go_simp;done)|(go_simp;rfl));intro gb447 hg w7 hbox hb;have n0_:=A0.mk (wT (by repeat (first|(with_reducible first|exact HB.out|apply wA|apply wN|apply wD)|exact HB.out)) hb);have n1_:=A0.mk (hbox);have n2_:=A0.mk ((by rw [hg];exact (wZ (by repeat (first|(with_reducible first|exact HB.out|apply wA|apply wN|apply wD)|exact HB.out))) : w.heap.size ≤ gb447));have n3_:=A0.mk ((by rw [hg];exact (wZ (by repeat (first|(with_reducible first|exact HB.out|apply wA|apply wN|apply wD)|exact HB.out))) : w.heap.size ≤ gb447));clear HB;have HB:=n0_;have BK447:=n1_;have GW447:=n2_;have GE447:=n3_;clear n0_ n1_ n2_ n3_;clear hb hbox hg;have hcz8_0 : w7.cell? ⟨gb447,0,none⟩ = some (.int .i64 0):=(bC BK447.out 0).trans rfl;have hcz8_1 : w7.cell? ⟨gb447,1,none⟩ = some (.int .i64 0):=(bC BK447.out 1).trans rfl;have hcz8_2 : w7.cell? ⟨gb447,2,none⟩ = some (.int .i64 0):=(bC BK447.out 2).trans rfl;have hcz8_3 : w7.cell? ⟨gb447,3,none⟩ = some (.int .i64 0):=(bC BK447.out 3).trans rfl;have hfz8_0:=bF BK447.out 0;have hfz8_1:=bF BK447.out 1;have hfz8_2:=bF BK447.out 2;have hfz8_3:=bF BK447.out 3)|(go_at_call 16;(with_reducible refine (vernierref04_Parts.calls a0 a1 t448 t449 t450 t451 _ A4.out).mono ?_);rintro e w9 ⟨rfl,hb⟩;have n0_:=A0.mk (bB (g:=gb447) (o:=.cells #[.int .i64 t442,.int .i64 t443,.int .i64 t444,.int .i64 t445] 42 (0,0)) (by (with_reducible repeat (first|refine bN ?_ _|refine bD ?_|refine bA ?_ _));refine bP (cs:=#[.int .i64 t442,.int .i64 t443,.int .i64 t444,.int .i64 0]) ?_ 3 _ rfl;(with_reducible repeat (first|refine bN ?_ _|refine bD ?_|refine bA ?_ _));refine bP (cs:=#[.int .i64 t442,.int .i64 t443,.int .i64 0,.int .i64 0]) ?_ 2 _ rfl;(with_reducible repeat (first|refine bN ?_ _|refine bD ?_|refine bA ?_ _));refine bP (cs:=#[.int .i64 t442,.int .i64 0,.int .i64 0,.int .i64 0]) ?_ 1 _ rfl;(with_reducible repeat (first|refine bN ?_ _|refine bD ?_|refine bA ?_ _));refine bP (cs:=#[.int .i64 0,.int .i64 0,.int .i64 0,.int .i64 0]) ?_ 0 _ rfl;(with_reducible repeat (first|refine bN ?_ _|refine bD ?_|refine bA ?_ _));exact BK447.out) hb);have n1_:=A0.mk (wT (by repeat (first|(with_reducible first|exact HB.out|apply wA|apply wN|apply wD|refine wS ?_ GE447.out)|exact HB.out)) hb);clear BK447;clear HB;have BK447:=n0_;have HB:=n1_;clear n0_ n1_;(try clear hb);(try clear hb2);(try clear hk);(try clear hi);have hcz10_0 : w9.cell? ⟨gb447,0,none⟩ = some (.int .i64 t442):=(bC BK447.out 0).trans rfl;have hcz10_1 : w9.cell? ⟨gb447,1,none⟩ = some (.int .i64 t443):=(bC BK447.out 1).trans rfl;have hcz10_2 : w9.cell? ⟨gb447,2,none⟩ = some (.int .i64 t444):=(bC BK447.out 2).trans rfl;have hcz10_3 : w9.cell? ⟨gb447,3,none⟩ = some (.int .i64 t445):=(bC BK447.out 3).trans rfl;have hfz10_0:=bF BK447.out 0;have hfz10_1:=bF BK447.out 1;have hfz10_2:=bF BK447.out 2;have hfz10_3:=bF BK447.out 3))
    repeat (go_quiet (first|(go_at_call 21;(with_reducible refine (vernierref04_Row.calls a0 t442 t443 t444 t445 t446 _ A3.out).mono ?_);rintro e w6 ⟨rfl,hb⟩;have n0_:=A0.mk (wT (by repeat (first|(with_reducible first|exact HB.out|apply wA|apply wN|apply wD)|exact HB.out)) hb);clear HB;have HB:=n0_;clear n0_;(try clear hb);(try clear hb2);(try clear hk);(try clear hi))|((with_reducible refine gD (N:=6) rfl ?_);refine bE ?hg (N:=6) ?hd (cs:=#[.int .i64 0,.int .i64 0,.int .i64 0,.int .i64 0]) (t:=42) ?hr ?_;(case hd => rfl);(case hg => rfl);(case hr => first|(go_simp;done)|(go_simp;rfl));intro gb447 hg w7 hbox hb;have n0_:=A0.mk (wT (by repeat (first|(with_reducible first|exact HB.out|apply wA|apply wN|apply wD)|exact HB.out)) hb);have n1_:=A0.mk (hbox);have n2_:=A0.mk ((by rw [hg];exact (wZ (by repeat (first|(with_reducible first|exact HB.out|apply wA|apply wN|apply wD)|exact HB.out))) : w.heap.size ≤ gb447));have n3_:=A0.mk ((by rw [hg];exact (wZ (by repeat (first|(with_reducible first|exact HB.out|apply wA|apply wN|apply wD)|exact HB.out))) : w.heap.size ≤ gb447));clear HB;have HB:=n0_;have BK447:=n1_;have GW447:=n2_;have GE447:=n3_;clear n0_ n1_ n2_ n3_;clear hb hbox hg;have hcz8_0 : w7.cell? ⟨gb447,0,none⟩ = some (.int .i64 0):=(bC BK447.out 0).trans rfl;have hcz8_1 : w7.cell? ⟨gb447,1,none⟩ = some (.int .i64 0):=(bC BK447.out 1).trans rfl;have hcz8_2 : w7.cell? ⟨gb447,2,none⟩ = some (.int .i64 0):=(bC BK447.out 2).trans rfl;have hcz8_3 : w7.cell? ⟨gb447,3,none⟩ = some (.int .i64 0):=(bC BK447.out 3).trans rfl;have hfz8_0:=bF BK447.out 0;have hfz8_1:=bF BK447.out 1;have hfz8_2:=bF BK447.out 2;have hfz8_3:=bF BK447.out 3)|(go_at_call 16;(with_reducible refine (vernierref04_Parts.calls a0 a1 t448 t449 t450 t451 _ A4.out).mono ?_);rintro e w9 ⟨rfl,hb⟩;have n0_:=A0.mk (bB (g:=gb447) (o:=.cells #[.int .i64 t442,.int .i64 t443,.int .i64 t444,.int .i64 t445] 42 (0,0)) (by (with_reducible repeat (first|refine bN ?_ _|refine bD ?_|refine bA ?_ _));refine bP (cs:=#[.int .i64 t442,.int .i64 t443,.int .i64 t444,.int .i64 0]) ?_ 3 _ rfl;(with_reducible repeat (first|refine bN ?_ _|refine bD ?_|refine bA ?_ _));refine bP (cs:=#[.int .i64 t442,.int .i64 t443,.int .i64 0,.int .i64 0]) ?_ 2 _ rfl;(with_reducible repeat (first|refine bN ?_ _|refine bD ?_|refine bA ?_ _));refine bP (cs:=#[.int .i64 t442,.int .i64 0,.int .i64 0,.int .i64 0]) ?_ 1 _ rfl;(with_reducible repeat (first|refine bN ?_ _|refine bD ?_|refine bA ?_ _));refine bP (cs:=#[.int .i64 0,.int .i64 0,.int .i64 0,.int .i64 0]) ?_ 0 _ rfl;(with_reducible repeat (first|refine bN ?_ _|refine bD ?_|refine bA ?_ _));exact BK447.out) hb);have n1_:=A0.mk (wT (by repeat (first|(with_reducible first|exact HB.out|apply wA|apply wN|apply wD|refine wS ?_ GE447.out)|exact HB.out)) hb);clear BK447;clear HB;have BK447:=n0_;have HB:=n1_;clear n0_ n1_;(try clear hb);(try clear hb2);(try clear hk);(try clear hi);have hcz10_0 : w9.cell? ⟨gb447,0,none⟩ = some (.int .i64 t442):=(bC BK447.out 0).trans rfl;have hcz10_1 : w9.cell? ⟨gb447,1,none⟩ = some (.int .i64 t443):=(bC BK447.out 1).trans rfl;have hcz10_2 : w9.cell? ⟨gb447,2,none⟩ = some (.int .i64 t444):=(bC BK447.out 2).trans rfl;have hcz10_3 : w9.cell? ⟨gb447,3,none⟩ = some (.int .i64 t445):=(bC BK447.out 3).trans rfl;have hfz10_0:=bF BK447.out 0;have hfz10_1:=bF BK447.out 1;have hfz10_2:=bF BK447.out 2;have hfz10_3:=bF BK447.out 3));try go_wp2_with (first|(go_at_call 21;(with_reducible refine (vernierref04_Row.calls a0 t442 t443 t444 t445 t446 _ A3.out).mono ?_);rintro e w6 ⟨rfl,hb⟩;have n0_:=A0.mk (wT (by repeat (first|(with_reducible first|exact HB.out|apply wA|apply wN|apply wD)|exact HB.out)) hb);clear HB;have HB:=n0_;clear n0_;(try clear hb);(try clear hb2);(try clear hk);(try clear hi))|((with_reducible refine gD (N:=6) rfl ?_);refine bE ?hg (N:=6) ?hd (cs:=#[.int .i64 0,.int .i64 0,.int .i64 0,.int .i64 0]) (t:=42) ?hr ?_;(case hd => rfl);(case hg => rfl);(case hr => first|(go_simp;done)|(go_simp;rfl));intro gb447 hg w7 hbox hb;have n0_:=A0.mk (wT (by repeat (first|(with_reducible first|exact HB.out|apply wA|apply wN|apply wD)|exact HB.out)) hb);have n1_:=A0.mk (hbox);have n2_:=A0.mk ((by rw [hg];exact (wZ (by repeat (first|(with_reducible first|exact HB.out|apply wA|apply wN|apply wD)|exact HB.out))) : w.heap.size ≤ gb447));have n3_:=A0.mk ((by rw [hg];exact (wZ (by repeat (first|(with_reducible first|exact HB.out|apply wA|apply wN|apply wD)|exact HB.out))) : w.heap.size ≤ gb447));clear HB;have HB:=n0_;have BK447:=n1_;have GW447:=n2_;have GE447:=n3_;clear n0_ n1_ n2_ n3_;clear hb hbox hg;have hcz8_0 : w7.cell? ⟨gb447,0,none⟩ = some (.int .i64 0):=(bC BK447.out 0).trans rfl;have hcz8_1 : w7.cell? ⟨gb447,1,none⟩ = some (.int .i64 0):=(bC BK447.out 1).trans rfl;have hcz8_2 : w7.cell? ⟨gb447,2,none⟩ = some (.int .i64 0):=(bC BK447.out 2).trans rfl;have hcz8_3 : w7.cell? ⟨gb447,3,none⟩ = some (.int .i64 0):=(bC BK447.out 3).trans rfl;have hfz8_0:=bF BK447.out 0;have hfz8_1:=bF BK447.out 1;have hfz8_2:=bF BK447.out 2;have hfz8_3:=bF BK447.out 3)|(go_at_call 16;(with_reducible refine (vernierref04_Parts.calls a0 a1 t448 t449 t450 t451 _ A4.out).mono ?_);rintro e w9 ⟨rfl,hb⟩;have n0_:=A0.mk (bB (g:=gb447) (o:=.cells #[.int .i64 t442,.int .i64 t443,.int .i64 t444,.int .i64 t445] 42 (0,0)) (by (with_reducible repeat (first|refine bN ?_ _|refine bD ?_|refine bA ?_ _));refine bP (cs:=#[.int .i64 t442,.int .i64 t443,.int .i64 t444,.int .i64 0]) ?_ 3 _ rfl;(with_reducible repeat (first|refine bN ?_ _|refine bD ?_|refine bA ?_ _));refine bP (cs:=#[.int .i64 t442,.int .i64 t443,.int .i64 0,.int .i64 0]) ?_ 2 _ rfl;(with_reducible repeat (first|refine bN ?_ _|refine bD ?_|refine bA ?_ _));refine bP (cs:=#[.int .i64 t442,.int .i64 0,.int .i64 0,.int .i64 0]) ?_ 1 _ rfl;(with_reducible repeat (first|refine bN ?_ _|refine bD ?_|refine bA ?_ _));refine bP (cs:=#[.int .i64 0,.int .i64 0,.int .i64 0,.int .i64 0]) ?_ 0 _ rfl;(with_reducible repeat (first|refine bN ?_ _|refine bD ?_|refine bA ?_ _));exact BK447.out) hb);have n1_:=A0.mk (wT (by repeat (first|(with_reducible first|exact HB.out|apply wA|apply wN|apply wD|refine wS ?_ GE447.out)|exact HB.out)) hb);clear BK447;clear HB;have BK447:=n0_;have HB:=n1_;clear n0_ n1_;(try clear hb);(try clear hb2);(try clear hk);(try clear hi);have hcz10_0 : w9.cell? ⟨gb447,0,none⟩ = some (.int .i64 t442):=(bC BK447.out 0).trans rfl;have hcz10_1 : w9.cell? ⟨gb447,1,none⟩ = some (.int .i64 t443):=(bC BK447.out 1).trans rfl;have hcz10_2 : w9.cell? ⟨gb447,2,none⟩ = some (.int .i64 t444):=(bC BK447.out 2).trans rfl;have hcz10_3 : w9.cell? ⟨gb447,3,none⟩ = some (.int .i64 t445):=(bC BK447.out 3).trans rfl;have hfz10_0:=bF BK447.out 0;have hfz10_1:=bF BK447.out 1;have hfz10_2:=bF BK447.out 2;have hfz10_3:=bF BK447.out 3)))
    go_ret2
    exact ⟨by first|rfl|(simp [errW_none,errW_some] <;> rfl)|(simp [*,errW_none,errW_some] <;> rfl)|(simp [wrap64];done),by repeat (first|(with_reducible first|exact HB.out|apply wA|apply wN|apply wD|refine wS ?_ GE447.out)|exact HB.out)⟩
  · rw [if_neg c5] at H
    have c5b0 : (t449 == 0) = false:=beq_eq_false_iff_ne.mpr c5
    have c5b1 : (t449 != 0) = true:=bne_iff_ne.mpr c5
    obtain ⟨ji11,hji11⟩ : ∃ j_ : Int,(IntKind.u64.wrap (wrap64 (t443 - 1))) = j_:=⟨_,rfl⟩
    replace H : (if 0 ≤ (ji11) then (some (IntKind.u64.wrap ((shl .u64 1 (ji11)) + t450),wrap64 ((wrap64 ((wrap64 ((wrap64 ((wrap64 (t449)) - 1)) + t444)) - t443)) + 1))) else (none)) = some (r1,r2):=by first|(rw [hji11] at H;exact H)|(simp only [hji11] at H ⊢;exact H)
    (try rw [hji11] at A3)
    (try rw [hji11] at A4)
    by_cases c12 : 0 ≤ (ji11)
    · rw [if_pos c12] at H
      have c12b0:=eq_true c12
      have c12b1 : decide (0 ≤ (ji11)) = true:=decide_eq_true c12
      clear c12
      obtain ⟨ji13,hji13⟩ : ∃ j_ : Int,(shl .u64 1 (ji11)) = j_:=⟨_,rfl⟩
      replace H : (some (IntKind.u64.wrap ((ji13) + t450),wrap64 ((wrap64 ((wrap64 ((wrap64 ((wrap64 (t449)) - 1)) + t444)) - t443)) + 1))) = some (r1,r2):=by first|(rw [hji13] at H;exact H)|(simp only [hji13] at H ⊢;exact H)
      (try rw [hji13] at A3)
      (try rw [hji13] at A4)
      have hji13_ : (IntKind.u64.wrap (1 * 2 ^ min (ji11).toNat 64)) = ji13:=hji13
      have hji13z : (ji11) ≤ 64→(IntKind.u64.wrap (1 * 2 ^ (ji11).toNat)) = ji13:=shl_small hji13
      have hji13u : (IntKind.u64.wrap (2 ^ min (ji11).toNat 64)) = ji13:=by have h_:=hji13_;rw [Int.one_mul] at h_;exact h_
      have hji13v : (ji11) ≤ 64→(IntKind.u64.wrap (2 ^ (ji11).toNat)) = ji13:=fun hle_ => by have h_:=hji13z hle_;rw [Int.one_mul] at h_;exact h_
      simp only [Option.some.injEq,Prod.mk.injEq] at H
      obtain ⟨rfl,rfl⟩:=H
      go_enter Tryd.func64,Tryd.ntmps64
      go_wp2_with (first|(go_at_call 21;(with_reducible refine (vernierref04_Row.calls a0 t442 t443 t444 t445 t446 _ A3.out).mono ?_);rintro e w14 ⟨rfl,hb⟩;have n0_:=A0.mk (wT (by repeat (first|(with_reducible first|exact HB.out|apply wA|apply wN|apply wD)|exact HB.out)) hb);clear HB;have HB:=n0_;clear n0_;(try clear hb);(try clear hb2);(try clear hk);(try clear hi))|((with_reducible refine gD (N:=6) rfl ?_);refine bE ?hg (N:=6) ?hd (cs:=#[.int .i64 0,.int .i64 0,.int .i64 0,.int .i64 0]) (t:=42) ?hr ?_;(case hd => rfl);(case hg => rfl);(case hr => first|(go_simp;done)|(go_simp;rfl));intro gb447 hg w15 hbox hb;have n0_:=A0.mk (wT (by repeat (first|(with_reducible first|exact HB.out|apply wA|apply wN|apply wD)|exact HB.out)) hb);have n1_:=A0.mk (hbox);have n2_:=A0.mk ((by rw [hg];exact (wZ (by repeat (first|(with_reducible first|exact HB.out|apply wA|apply wN|apply wD)|exact HB.out))) : w.heap.size ≤ gb447));have n3_:=A0.mk ((by rw [hg];exact (wZ (by repeat (first|(with_reducible first|exact HB.out|apply wA|apply wN|apply wD)|exact HB.out))) : w.heap.size ≤ gb447));clear HB;have HB:=n0_;have BK447:=n1_;have GW447:=n2_;have GE447:=n3_;clear n0_ n1_ n2_ n3_;clear hb hbox hg;have hcz16_0 : w15.cell? ⟨gb447,0,none⟩ = some (.int .i64 0):=(bC BK447.out 0).trans rfl;have hcz16_1 : w15.cell? ⟨gb447,1,none⟩ = some (.int .i64 0):=(bC BK447.out 1).trans rfl;have hcz16_2 : w15.cell? ⟨gb447,2,none⟩ = some (.int .i64 0):=(bC BK447.out 2).trans rfl;have hcz16_3 : w15.cell? ⟨gb447,3,none⟩ = some (.int .i64 0):=(bC BK447.out 3).trans rfl;have hfz16_0:=bF BK447.out 0;have hfz16_1:=bF BK447.out 1;have hfz16_2:=bF BK447.out 2;have hfz16_3:=bF BK447.out 3)|(go_at_call 16;(with_reducible refine (vernierref04_Parts.calls a0 a1 t448 t449 t450 t451 _ A4.out).mono ?_);rintro e w17 ⟨rfl,hb⟩;have n0_:=A0.mk (bB (g:=gb447) (o:=.cells #[.int .i64 t442,.int .i64 t443,.int .i64 t444,.int .i64 t445] 42 (0,0)) (by (with_reducible repeat (first|refine bN ?_ _|refine bD ?_|refine bA ?_ _));refine bP (cs:=#[.int .i64 t442,.int .i64 t443,.int .i64 t444,.int .i64 0]) ?_ 3 _ rfl;(with_reducible repeat (first|refine bN ?_ _|refine bD ?_|refine bA ?_ _));refine bP (cs:=#[.int .i64 t442,.int .i64 t443,.int .i64 0,.int .i64 0]) ?_ 2 _ rfl;(with_reducible repeat (first|refine bN ?_ _|refine bD ?_|refine bA ?_ _));refine bP (cs:=#[.int .i64 t442,.int .i64 0,.int .i64 0,.int .i64 0]) ?_ 1 _ rfl;(with_reducible repeat (first|refine bN ?_ _|refine bD ?_|refine bA ?_ _));refine bP (cs:=#[.int .i64 0,.int .i64 0,.int .i64 0,.int .i64 0]) ?_ 0 _ rfl;(with_reducible repeat (first|refine bN ?_ _|refine bD ?_|refine bA ?_ _));exact BK447.out) hb);have n1_:=A0.mk (wT (by repeat (first|(with_reducible first|exact HB.out|apply wA|apply wN|apply wD|refine wS ?_ GE447.out)|exact HB.out)) hb);clear BK447;clear HB;have BK447:=n0_;have HB:=n1_;clear n0_ n1_;(try clear hb);(try clear hb2);(try clear hk);(try clear hi);have hcz18_0 : w17.cell? ⟨gb447,0,none⟩ = some (.int .i64 t442):=(bC BK447.out 0).trans rfl;have hcz18_1 : w17.cell? ⟨gb447,1,none⟩ = some (.int .i64 t443):=(bC BK447.out 1).trans rfl;have hcz18_2 : w17.cell? ⟨gb447,2,none⟩ = some (.int .i64 t444):=(bC BK447.out 2).trans rfl;have hcz18_3 : w17.cell? ⟨gb447,3,none⟩ = some (.int .i64 t445):=(bC BK447.out 3).trans rfl;have hfz18_0:=bF BK447.out 0;have hfz18_1:=bF BK447.out 1;have hfz18_2:=bF BK447.out 2;have hfz18_3:=bF BK447.out 3))
      repeat (go_quiet (first|(go_at_call 21;(with_reducible refine (vernierref04_Row.calls a0 t442 t443 t444 t445 t446 _ A3.out).mono ?_);rintro e w14 ⟨rfl,hb⟩;have n0_:=A0.mk (wT (by repeat (first|(with_reducible first|exact HB.out|apply wA|apply wN|apply wD)|exact HB.out)) hb);clear HB;have HB:=n0_;clear n0_;(try clear hb);(try clear hb2);(try clear hk);(try clear hi))|((with_reducible refine gD (N:=6) rfl ?_);refine bE ?hg (N:=6) ?hd (cs:=#[.int .i64 0,.int .i64 0,.int .i64 0,.int .i64 0]) (t:=42) ?hr ?_;(case hd => rfl);(case hg => rfl);(case hr => first|(go_simp;done)|(go_simp;rfl));intro gb447 hg w15 hbox hb;have n0_:=A0.mk (wT (by repeat (first|(with_reducible first|exact HB.out|apply wA|apply wN|apply wD)|exact HB.out)) hb);have n1_:=A0.mk (hbox);have n2_:=A0.mk ((by rw [hg];exact (wZ (by repeat (first|(with_reducible first|exact HB.out|apply wA|apply wN|apply wD)|exact HB.out))) : w.heap.size ≤ gb447));have n3_:=A0.mk ((by rw [hg];exact (wZ (by repeat (first|(with_reducible first|exact HB.out|apply wA|apply wN|apply wD)|exact HB.out))) : w.heap.size ≤ gb447));clear HB;have HB:=n0_;have BK447:=n1_;have GW447:=n2_;have GE447:=n3_;clear n0_ n1_ n2_ n3_;clear hb hbox hg;have hcz16_0 : w15.cell? ⟨gb447,0,none⟩ = some (.int .i64 0):=(bC BK447.out 0).trans rfl;have hcz16_1 : w15.cell? ⟨gb447,1,none⟩ = some (.int .i64 0):=(bC BK447.out 1).trans rfl;have hcz16_2 : w15.cell? ⟨gb447,2,none⟩ = some (.int .i64 0):=(bC BK447.out 2).trans rfl;have hcz16_3 : w15.cell? ⟨gb447,3,none⟩ = some (.int .i64 0):=(bC BK447.out 3).trans rfl;have hfz16_0:=bF BK447.out 0;have hfz16_1:=bF BK447.out 1;have hfz16_2:=bF BK447.out 2;have hfz16_3:=bF BK447.out 3)|(go_at_call 16;(with_reducible refine (vernierref04_Parts.calls a0 a1 t448 t449 t450 t451 _ A4.out).mono ?_);rintro e w17 ⟨rfl,hb⟩;have n0_:=A0.mk (bB (g:=gb447) (o:=.cells #[.int .i64 t442,.int .i64 t443,.int .i64 t444,.int .i64 t445] 42 (0,0)) (by (with_reducible repeat (first|refine bN ?_ _|refine bD ?_|refine bA ?_ _));refine bP (cs:=#[.int .i64 t442,.int .i64 t443,.int .i64 t444,.int .i64 0]) ?_ 3 _ rfl;(with_reducible repeat (first|refine bN ?_ _|refine bD ?_|refine bA ?_ _));refine bP (cs:=#[.int .i64 t442,.int .i64 t443,.int .i64 0,.int .i64 0]) ?_ 2 _ rfl;(with_reducible repeat (first|refine bN ?_ _|refine bD ?_|refine bA ?_ _));refine bP (cs:=#[.int .i64 t442,.int .i64 0,.int .i64 0,.int .i64 0]) ?_ 1 _ rfl;(with_reducible repeat (first|refine bN ?_ _|refine bD ?_|refine bA ?_ _));refine bP (cs:=#[.int .i64 0,.int .i64 0,.int .i64 0,.int .i64 0]) ?_ 0 _ rfl;(with_reducible repeat (first|refine bN ?_ _|refine bD ?_|refine bA ?_ _));exact BK447.out) hb);have n1_:=A0.mk (wT (by repeat (first|(with_reducible first|exact HB.out|apply wA|apply wN|apply wD|refine wS ?_ GE447.out)|exact HB.out)) hb);clear BK447;clear HB;have BK447:=n0_;have HB:=n1_;clear n0_ n1_;(try clear hb);(try clear hb2);(try clear hk);(try clear hi);have hcz18_0 : w17.cell? ⟨gb447,0,none⟩ = some (.int .i64 t442):=(bC BK447.out 0).trans rfl;have hcz18_1 : w17.cell? ⟨gb447,1,none⟩ = some (.int .i64 t443):=(bC BK447.out 1).trans rfl;have hcz18_2 : w17.cell? ⟨gb447,2,none⟩ = some (.int .i64 t444):=(bC BK447.out 2).trans rfl;have hcz18_3 : w17.cell? ⟨gb447,3,none⟩ = some (.int .i64 t445):=(bC BK447.out 3).trans rfl;have hfz18_0:=bF BK447.out 0;have hfz18_1:=bF BK447.out 1;have hfz18_2:=bF BK447.out 2;have hfz18_3:=bF BK447.out 3));try go_wp2_with (first|(go_at_call 21;(with_reducible refine (vernierref04_Row.calls a0 t442 t443 t444 t445 t446 _ A3.out).mono ?_);rintro e w14 ⟨rfl,hb⟩;have n0_:=A0.mk (wT (by repeat (first|(with_reducible first|exact HB.out|apply wA|apply wN|apply wD)|exact HB.out)) hb);clear HB;have HB:=n0_;clear n0_;(try clear hb);(try clear hb2);(try clear hk);(try clear hi))|((with_reducible refine gD (N:=6) rfl ?_);refine bE ?hg (N:=6) ?hd (cs:=#[.int .i64 0,.int .i64 0,.int .i64 0,.int .i64 0]) (t:=42) ?hr ?_;(case hd => rfl);(case hg => rfl);(case hr => first|(go_simp;done)|(go_simp;rfl));intro gb447 hg w15 hbox hb;have n0_:=A0.mk (wT (by repeat (first|(with_reducible first|exact HB.out|apply wA|apply wN|apply wD)|exact HB.out)) hb);have n1_:=A0.mk (hbox);have n2_:=A0.mk ((by rw [hg];exact (wZ (by repeat (first|(with_reducible first|exact HB.out|apply wA|apply wN|apply wD)|exact HB.out))) : w.heap.size ≤ gb447));have n3_:=A0.mk ((by rw [hg];exact (wZ (by repeat (first|(with_reducible first|exact HB.out|apply wA|apply wN|apply wD)|exact HB.out))) : w.heap.size ≤ gb447));clear HB;have HB:=n0_;have BK447:=n1_;have GW447:=n2_;have GE447:=n3_;clear n0_ n1_ n2_ n3_;clear hb hbox hg;have hcz16_0 : w15.cell? ⟨gb447,0,none⟩ = some (.int .i64 0):=(bC BK447.out 0).trans rfl;have hcz16_1 : w15.cell? ⟨gb447,1,none⟩ = some (.int .i64 0):=(bC BK447.out 1).trans rfl;have hcz16_2 : w15.cell? ⟨gb447,2,none⟩ = some (.int .i64 0):=(bC BK447.out 2).trans rfl;have hcz16_3 : w15.cell? ⟨gb447,3,none⟩ = some (.int .i64 0):=(bC BK447.out 3).trans rfl;have hfz16_0:=bF BK447.out 0;have hfz16_1:=bF BK447.out 1;have hfz16_2:=bF BK447.out 2;have hfz16_3:=bF BK447.out 3)|(go_at_call 16;(with_reducible refine (vernierref04_Parts.calls a0 a1 t448 t449 t450 t451 _ A4.out).mono ?_);rintro e w17 ⟨rfl,hb⟩;have n0_:=A0.mk (bB (g:=gb447) (o:=.cells #[.int .i64 t442,.int .i64 t443,.int .i64 t444,.int .i64 t445] 42 (0,0)) (by (with_reducible repeat (first|refine bN ?_ _|refine bD ?_|refine bA ?_ _));refine bP (cs:=#[.int .i64 t442,.int .i64 t443,.int .i64 t444,.int .i64 0]) ?_ 3 _ rfl;(with_reducible repeat (first|refine bN ?_ _|refine bD ?_|refine bA ?_ _));refine bP (cs:=#[.int .i64 t442,.int .i64 t443,.int .i64 0,.int .i64 0]) ?_ 2 _ rfl;(with_reducible repeat (first|refine bN ?_ _|refine bD ?_|refine bA ?_ _));refine bP (cs:=#[.int .i64 t442,.int .i64 0,.int .i64 0,.int .i64 0]) ?_ 1 _ rfl;(with_reducible repeat (first|refine bN ?_ _|refine bD ?_|refine bA ?_ _));refine bP (cs:=#[.int .i64 0,.int .i64 0,.int .i64 0,.int .i64 0]) ?_ 0 _ rfl;(with_reducible repeat (first|refine bN ?_ _|refine bD ?_|refine bA ?_ _));exact BK447.out) hb);have n1_:=A0.mk (wT (by repeat (first|(with_reducible first|exact HB.out|apply wA|apply wN|apply wD|refine wS ?_ GE447.out)|exact HB.out)) hb);clear BK447;clear HB;have BK447:=n0_;have HB:=n1_;clear n0_ n1_;(try clear hb);(try clear hb2);(try clear hk);(try clear hi);have hcz18_0 : w17.cell? ⟨gb447,0,none⟩ = some (.int .i64 t442):=(bC BK447.out 0).trans rfl;have hcz18_1 : w17.cell? ⟨gb447,1,none⟩ = some (.int .i64 t443):=(bC BK447.out 1).trans rfl;have hcz18_2 : w17.cell? ⟨gb447,2,none⟩ = some (.int .i64 t444):=(bC BK447.out 2).trans rfl;have hcz18_3 : w17.cell? ⟨gb447,3,none⟩ = some (.int .i64 t445):=(bC BK447.out 3).trans rfl;have hfz18_0:=bF BK447.out 0;have hfz18_1:=bF BK447.out 1;have hfz18_2:=bF BK447.out 2;have hfz18_3:=bF BK447.out 3)))
      go_ret2
      exact ⟨by first|rfl|(simp [errW_none,errW_some] <;> rfl)|(simp only [← hji11,← hji13];first|rfl|(simp [errW_none,errW_some] <;> rfl))|(simp [*,errW_none,errW_some] <;> rfl),by repeat (first|(with_reducible first|exact HB.out|apply wA|apply wN|apply wD|refine wS ?_ GE447.out)|exact HB.out)⟩
    · rw [if_neg c12] at H
      exact absurd H (by simp)

/-! ### vernierref04_Value: function 38 -/
mutual
def vernierref04_Value.j0 : Nat→Int→Int→Bool→Option (Bool × Int × Int × Int)
  | 0,_,_,_ => none
  | k + 1,x0,x1,x24 => if x24 = true then (some (false,0,0,40)) else ((vernierref04_Number.f x0 x1).bind fun bt455 => (if bt455.1 = 0 then (some (false,0,0,0)) else (vernierref04_Value.l0 k x0 x1 bt455.1 bt455.2)))
def vernierref04_Value.l0 : Nat→Int→Int→Int→Int→Option (Bool × Int × Int × Int)
  | 0,_,_,_,_ => none
  | k + 1,x0,x1,x9,x10 => if (Int.tmod x9 2) = 0 then (vernierref04_Value.l0 k x0 x1 (IntKind.u64.wrap (Int.tdiv x9 2)) (wrap64 (x10 + 1))) else ((vernierref04_Sign.f x0 x1).bind fun t457 => (some ((t457 == 1),x9,x10,0)))
end
def vernierref04_Value.f (k : Nat) (a0 : Int) (a1 : Int) : Option (Bool × Int × Int × Int):=(vernierref04_Check.f a0 a1).bind fun t452 => (if t452 = 0 then ((vernierref04_IsNaN.f a0 a1).bind fun t453 => (if t453 = true then (vernierref04_Value.j0 k a0 a1 true) else ((vernierref04_IsInf.f a0 a1).bind fun t454 => (vernierref04_Value.j0 k a0 a1 t454)))) else (some (false,0,0,t452)))
theorem vernierref04_Value.mono_l : ∀ k,(∀ y0 y1 y2,LeO (vernierref04_Value.j0 k y0 y1 y2) (vernierref04_Value.j0 (k + 1) y0 y1 y2))∧(∀ y0 y1 y2 y3,LeO (vernierref04_Value.l0 k y0 y1 y2 y3) (vernierref04_Value.l0 (k + 1) y0 y1 y2 y3))
  | 0 => ⟨fun _ _ _ r h => by simp [vernierref04_Value.j0] at h,fun _ _ _ _ r h => by simp [vernierref04_Value.l0] at h⟩
  | k + 1 => by
    obtain ⟨ih0,ih1⟩:=vernierref04_Value.mono_l k
    refine ⟨?_,?_⟩
    · intro y0 y1 y2
      unfold vernierref04_Value.j0
      repeat' first
      | (with_reducible exact ih0 _ _ _)
      | (with_reducible exact ih1 _ _ _ _)
      | (with_reducible exact LeO.refl _)
      | (with_reducible exact LeO.none _)
      | (with_reducible refine LeO.ite ?_ ?_)
      | (with_reducible refine LeO.bind ?_ (fun _ => ?_))
      | exact ih0 _ _ _
      | exact ih1 _ _ _ _
      | exact LeO.none _
      | refine LeO.ite ?_ ?_
      | refine LeO.bind ?_ (fun _ => ?_)
    · intro y0 y1 y2 y3
      unfold vernierref04_Value.l0
      repeat' first
      | (with_reducible exact ih0 _ _ _)
      | (with_reducible exact ih1 _ _ _ _)
      | (with_reducible exact LeO.refl _)
      | (with_reducible exact LeO.none _)
      | (with_reducible refine LeO.ite ?_ ?_)
      | (with_reducible refine LeO.bind ?_ (fun _ => ?_))
      | exact ih0 _ _ _
      | exact ih1 _ _ _ _
      | exact LeO.none _
      | refine LeO.ite ?_ ?_
      | refine LeO.bind ?_ (fun _ => ?_)
theorem vernierref04_Value.mono : ∀ a0 a1 k,LeO (vernierref04_Value.f k a0 a1) (vernierref04_Value.f (k + 1) a0 a1):=by
  intro a0 a1 k
  obtain ⟨ih0,ih1⟩:=vernierref04_Value.mono_l k
  unfold vernierref04_Value.f
  repeat' first
      | (with_reducible exact ih0 _ _ _)
      | (with_reducible exact ih1 _ _ _ _)
      | (with_reducible exact LeO.refl _)
      | (with_reducible exact LeO.none _)
      | (with_reducible refine LeO.ite ?_ ?_)
      | (with_reducible refine LeO.bind ?_ (fun _ => ?_))
      | exact ih0 _ _ _
      | exact ih1 _ _ _ _
      | exact LeO.none _
      | refine LeO.ite ?_ ?_
      | refine LeO.bind ?_ (fun _ => ?_)
set_option maxHeartbeats 8000000 in
set_option maxRecDepth 100000 in
theorem vernierref04_Value.calls (k : Nat) (a0 : Int) (a1 : Int) (r1 : Bool) (r2 : Int) (r3 : Int) (r4 : Int) (w : World) (h : vernierref04_Value.f k a0 a1 = some (r1,r2,r3,r4)) :
    Calls Tryd.prog 38 #[.int .i64 a0,.int .u64 a1] w fun e w' => e = .returned (.tuple #[.bool r1,.int .u64 r2,.int .i64 r3,.int .i64 r4])∧Below w.heap.size w w':=by
  have HB:=A0.mk (Below.refl w.heap.size w)
  have H : ((vernierref04_Check.f a0 a1).bind fun t452 => (if t452 = 0 then ((vernierref04_IsNaN.f a0 a1).bind fun t453 => (if t453 = true then (vernierref04_Value.j0 k a0 a1 true) else ((vernierref04_IsInf.f a0 a1).bind fun t454 => (vernierref04_Value.j0 k a0 a1 t454)))) else (some (false,0,0,t452)))) = some (r1,r2,r3,r4):=h
  clear h;replace H:=Option.bind_eq_some_iff.mp H;obtain ⟨t452,A30,H⟩:=H
  replace H : (if t452 = 0 then ((vernierref04_IsNaN.f a0 a1).bind fun t453 => (if t453 = true then (vernierref04_Value.j0 k a0 a1 true) else ((vernierref04_IsInf.f a0 a1).bind fun t454 => (vernierref04_Value.j0 k a0 a1 t454)))) else (some (false,0,0,t452))) = some (r1,r2,r3,r4):=H
  have A3:=A0.mk A30;clear A30
  by_cases c4 : t452 = 0
  · rw [if_pos c4] at H
    have c4b0 : (t452 == 0) = true:=beq_iff_eq.mpr c4
    have c4b1 : (t452 != 0) = false:=bne_eq_false_iff_eq.mpr c4
    clear c4;have HC5:=A0.mk H;clear H
    go_enter Tryd.func38,Tryd.ntmps38
    go_upto_region 4 with (first|((with_reducible refine gC (f:=12) rfl ?_);refine goesL_ (some 13) rfl rfl Tryd.func12 (by kernel_rfl) rfl #[.int .i64 a0,.int .u64 a1] rfl (by (try simp only [mT,mC,mN]);first|done|rfl|(simp only [lD,lK];rfl)) ?_;(with_reducible refine (vernierref04_Check.calls a0 a1 t452 _ A3.out).mono ?_);rintro e w6 ⟨rfl,hb⟩;refine ⟨_,rfl,?_⟩;have n0_:=A0.mk (wT (by repeat (first|(with_reducible first|exact HB.out|apply wA|apply wN|apply wD)|exact HB.out)) hb);clear HB;have HB:=n0_;clear n0_;(try clear hb);(try clear hb2);(try clear hk);(try clear hi)))
    (try simp only [aP,lT,lZ,lS])
    go_cut [24] (fun v24 wc => ∃ (kq : Nat) (x24_4 : Bool),v24 = .bool x24_4∧A0 (vernierref04_Value.j0 kq a0 a1 x24_4 = some (r1,r2,r3,r4))∧A0 (kq ≤ k)∧A0 (Below w.heap.size w wc))
    case first =>
      have H:=HC5.out
      clear HC5;replace H:=Option.bind_eq_some_iff.mp H;obtain ⟨t453,A70,H⟩:=H
      replace H : (if t453 = true then (vernierref04_Value.j0 k a0 a1 true) else ((vernierref04_IsInf.f a0 a1).bind fun t454 => (vernierref04_Value.j0 k a0 a1 t454))) = some (r1,r2,r3,r4):=H
      have A7:=A0.mk A70;clear A70
      by_cases c8 : t453 = true
      · subst c8
        have H1 : (vernierref04_Value.j0 k a0 a1 true) = some (r1,r2,r3,r4):=by rw [if_pos rfl] at H;exact H
        clear H;have H:=H1;clear H1
        have H':=A0.mk H
        clear H
        go_wp2_with (first|((with_reducible refine gC (f:=62) rfl ?_);refine goesL_ (some 19) rfl rfl Tryd.func62 (by kernel_rfl) rfl #[.int .i64 a0,.int .u64 a1] rfl (by (try simp only [mT,mC,mN]);first|done|rfl|(simp only [lD,lK];rfl)) ?_;(with_reducible refine (vernierref04_IsNaN.calls a0 a1 true _ A7.out).mono ?_);rintro e w9 ⟨rfl,hb⟩;refine ⟨_,rfl,?_⟩;have n0_:=A0.mk (wT (by repeat (first|(with_reducible first|exact HB.out|apply wA|apply wN|apply wD)|exact HB.out)) hb);clear HB;have HB:=n0_;clear n0_;(try clear hb);(try clear hb2);(try clear hk);(try clear hi)))
        go_meet
        case rel => exact ⟨_,(true),(by first|rfl|(simp;done)|(simp [*];done)|(simp [wrap64];done)),H',⟨by first|omega|exact Nat.le_refl _⟩,⟨by repeat (first|(with_reducible first|exact HB.out|apply wA|apply wN|apply wD)|exact HB.out)⟩⟩
      · replace c8:=Bool.eq_false_iff.mpr c8
        subst c8
        have H1 : ((vernierref04_IsInf.f a0 a1).bind fun t454 => (vernierref04_Value.j0 k a0 a1 t454)) = some (r1,r2,r3,r4):=by rw [if_neg (show ¬ (false = true) by decide)] at H;exact H
        clear H;have H:=H1;clear H1;replace H:=Option.bind_eq_some_iff.mp H;obtain ⟨t454,A100,H⟩:=H
        replace H : (vernierref04_Value.j0 k a0 a1 t454) = some (r1,r2,r3,r4):=H
        have A10:=A0.mk A100;clear A100
        have H':=A0.mk H
        clear H
        go_wp2_with (first|((with_reducible refine gC (f:=62) rfl ?_);refine goesL_ (some 19) rfl rfl Tryd.func62 (by kernel_rfl) rfl #[.int .i64 a0,.int .u64 a1] rfl (by (try simp only [mT,mC,mN]);first|done|rfl|(simp only [lD,lK];rfl)) ?_;(with_reducible refine (vernierref04_IsNaN.calls a0 a1 false _ A7.out).mono ?_);rintro e w11 ⟨rfl,hb⟩;refine ⟨_,rfl,?_⟩;have n0_:=A0.mk (wT (by repeat (first|(with_reducible first|exact HB.out|apply wA|apply wN|apply wD)|exact HB.out)) hb);clear HB;have HB:=n0_;clear n0_;(try clear hb);(try clear hb2);(try clear hk);(try clear hi))|(go_at_call 63;(with_reducible refine (vernierref04_IsInf.calls a0 a1 t454 _ A10.out).mono ?_);rintro e w12 ⟨rfl,hb⟩;have n0_:=A0.mk (wT (by repeat (first|(with_reducible first|exact HB.out|apply wA|apply wN|apply wD)|exact HB.out)) hb);clear HB;have HB:=n0_;clear n0_;(try clear hb);(try clear hb2);(try clear hk);(try clear hi)))
        go_meet
        case rel => exact ⟨_,(t454),(by first|rfl|(simp;done)|(simp [*];done)|(simp [wrap64];done)),H',⟨by first|omega|exact Nat.le_refl _⟩,⟨by repeat (first|(with_reducible first|exact HB.out|apply wA|apply wN|apply wD)|exact HB.out)⟩⟩
    case rest =>
      clear HC5
      try clear c1
      try clear p2
      try clear c3
      try clear c4
      try clear c4b0
      try clear c4b1
      try clear c6
      try clear c8
      try clear c12
      obtain ⟨kq,x24_4,rfl,HA,HJ4,HB⟩:=hcut
      cases kq with
      | zero => exact absurd HA.out (by simp [vernierref04_Value.j0])
      | succ kj4 =>
        have H:=HA.out
        clear HA
        simp only [vernierref04_Value.j0] at H
        by_cases c13 : x24_4 = true
        · subst c13
          have H1 : (some (false,0,0,40)) = some (r1,r2,r3,r4):=by rw [if_pos rfl] at H;exact H
          clear H;have H:=H1;clear H1
          simp only [Option.some.injEq,Prod.mk.injEq] at H
          obtain ⟨rfl,rfl,rfl,rfl⟩:=H
          go_wp2
          refine bodyPost_ret (results_list (rs:=[.tmp 4,.tmp 5,.tmp 6,.tmp 7]) rfl (by simp) (.tmp (.tmp (.tmp (.tmp .nil))))) rfl ?_
          exact ⟨by first|rfl|(simp [errW_none,errW_some] <;> rfl)|(simp [*,errW_none,errW_some] <;> rfl)|(simp [wrap64];done),by repeat (first|(with_reducible first|exact HB.out|apply wA|apply wN|apply wD)|exact HB.out)⟩
        · replace c13:=Bool.eq_false_iff.mpr c13
          subst c13
          have H1 : ((vernierref04_Number.f a0 a1).bind fun bt455 => (if bt455.1 = 0 then (some (false,0,0,0)) else (vernierref04_Value.l0 kj4 a0 a1 bt455.1 bt455.2))) = some (r1,r2,r3,r4):=by rw [if_neg (show ¬ (false = true) by decide)] at H;exact H
          clear H;have H:=H1;clear H1;replace H:=Option.bind_eq_some_iff.mp H;obtain ⟨⟨t455,t456⟩,A140,H⟩:=H
          replace H : (if t455 = 0 then (some (false,0,0,0)) else (vernierref04_Value.l0 kj4 a0 a1 t455 t456)) = some (r1,r2,r3,r4):=H
          have A14:=A0.mk A140;clear A140
          by_cases c15 : t455 = 0
          · rw [if_pos c15] at H
            have c15b0 : (t455 == 0) = true:=beq_iff_eq.mpr c15
            have c15b1 : (t455 != 0) = false:=bne_eq_false_iff_eq.mpr c15
            clear c15
            simp only [Option.some.injEq,Prod.mk.injEq] at H
            obtain ⟨rfl,rfl,rfl,rfl⟩:=H
            go_wp2_with (first|((with_reducible refine gC (f:=64) rfl ?_);refine goesL_ (some 28) rfl rfl Tryd.func64 (by kernel_rfl) rfl #[.int .i64 a0,.int .u64 a1] rfl (by (try simp only [mT,mC,mN]);first|done|rfl|(simp only [lD,lK];rfl)) ?_;(with_reducible refine (vernierref04_Number.calls a0 a1 t455 t456 _ A14.out).mono ?_);rintro e w16 ⟨rfl,hb⟩;refine ⟨_,rfl,?_⟩;have n0_:=A0.mk (wT (by repeat (first|(with_reducible first|exact HB.out|apply wA|apply wN|apply wD)|exact HB.out)) hb);clear HB;have HB:=n0_;clear n0_;(try clear hb);(try clear hb2);(try clear hk);(try clear hi)))
            refine bodyPost_ret (results_list (rs:=[.tmp 4,.tmp 5,.tmp 6,.tmp 7]) rfl (by simp) (.tmp (.tmp (.tmp (.tmp .nil))))) rfl ?_
            exact ⟨by first|rfl|(simp [errW_none,errW_some] <;> rfl)|(simp [*,errW_none,errW_some] <;> rfl)|(simp [wrap64];done),by repeat (first|(with_reducible first|exact HB.out|apply wA|apply wN|apply wD)|exact HB.out)⟩
          · rw [if_neg c15] at H
            have c15b0 : (t455 == 0) = false:=beq_eq_false_iff_ne.mpr c15
            have c15b1 : (t455 != 0) = true:=bne_iff_ne.mpr c15
            have H':=A0.mk H
            clear H
            go_wp2_with (first|((with_reducible refine gC (f:=64) rfl ?_);refine goesL_ (some 28) rfl rfl Tryd.func64 (by kernel_rfl) rfl #[.int .i64 a0,.int .u64 a1] rfl (by (try simp only [mT,mC,mN]);first|done|rfl|(simp only [lD,lK];rfl)) ?_;(with_reducible refine (vernierref04_Number.calls a0 a1 t455 t456 _ A14.out).mono ?_);rintro e w17 ⟨rfl,hb⟩;refine ⟨_,rfl,?_⟩;have n0_:=A0.mk (wT (by repeat (first|(with_reducible first|exact HB.out|apply wA|apply wN|apply wD)|exact HB.out)) hb);clear HB;have HB:=n0_;clear n0_;(try clear hb);(try clear hb2);(try clear hk);(try clear hi)))
            go_loopg [9,10] kj4 (fun kq v9 v10 w' => ∃ (x9_2 : Int) (x10_2 : Int),v9 = .int .u64 x9_2∧v10 = .int .i64 x10_2∧A0 (vernierref04_Value.l0 kq a0 a1 x9_2 x10_2 = some (r1,r2,r3,r4))∧A0 (kq ≤ kj4)∧A0 (Below w.heap.size w w'))
            case atStart => exact ⟨(t455),(t456),(by first|rfl|(simp;done)|(simp [*];done)|(simp [wrap64];done)),(by first|rfl|(simp;done)|(simp [*];done)|(simp [wrap64];done)),H',⟨Nat.le_refl _⟩,⟨by repeat (first|(with_reducible first|exact HB.out|apply wA|apply wN|apply wD)|exact HB.out)⟩⟩
            case round =>
              clear H'
              try clear c1
              try clear p2
              try clear c3
              try clear c4
              try clear c4b0
              try clear c4b1
              try clear c6
              try clear c8
              try clear c12
              try clear c13
              try clear c15
              try clear c15b0
              try clear c15b1
              try clear p2
              obtain ⟨x9_2,x10_2,rfl,rfl,HA,HK2,HB⟩:=hrel
              cases gk with
              | zero => exact absurd HA.out (by simp [vernierref04_Value.l0])
              | succ k2 =>
                have H:=HA.out
                clear HA
                simp only [vernierref04_Value.l0] at H
                by_cases c18 : (Int.tmod x9_2 2) = 0
                · rw [if_pos c18] at H
                  have c18b0 : ((Int.tmod x9_2 2) == 0) = true:=beq_iff_eq.mpr c18
                  have c18b1 : ((Int.tmod x9_2 2) != 0) = false:=bne_eq_false_iff_eq.mpr c18
                  clear c18
                  have H':=A0.mk H
                  clear H
                  go_wp2
                  go_roundg k2
                  case measure => have:=HJ4.out;have:=HK2.out;omega
                  case rel => exact ⟨(IntKind.u64.wrap (Int.tdiv x9_2 2)),(wrap64 (x10_2 + 1)),(by first|rfl|(simp;done)|(simp [*];done)|(simp [wrap64];done)),(by first|rfl|(simp;done)|(simp [*];done)|(simp [wrap64];done)),H',⟨by have:=HJ4.out;have:=HK2.out;omega⟩,⟨by repeat (first|(with_reducible first|exact HB.out|apply wA|apply wN|apply wD)|exact HB.out)⟩⟩
                · rw [if_neg c18] at H
                  have c18b0 : ((Int.tmod x9_2 2) == 0) = false:=beq_eq_false_iff_ne.mpr c18
                  have c18b1 : ((Int.tmod x9_2 2) != 0) = true:=bne_iff_ne.mpr c18
                  replace H:=Option.bind_eq_some_iff.mp H;obtain ⟨t457,A190,H⟩:=H
                  replace H : (some ((t457 == 1),x9_2,x10_2,0)) = some (r1,r2,r3,r4):=H
                  have A19:=A0.mk A190;clear A190
                  simp only [Option.some.injEq,Prod.mk.injEq] at H
                  obtain ⟨rfl,rfl,rfl,rfl⟩:=H
                  go_wp2_with (first|((with_reducible refine gC (f:=36) rfl ?_);refine goesL_ (some 42) rfl rfl Tryd.func36 (by kernel_rfl) rfl #[.int .i64 a0,.int .u64 a1] rfl (by (try simp only [mT,mC,mN]);first|done|rfl|(simp only [lD,lK];rfl)) ?_;(with_reducible refine (vernierref04_Sign.calls a0 a1 t457 _ A19.out).mono ?_);rintro e w20 ⟨rfl,hb⟩;refine ⟨_,rfl,?_⟩;have n0_:=A0.mk (wT (by repeat (first|(with_reducible first|exact HB.out|apply wA|apply wN|apply wD)|exact HB.out)) hb);clear HB;have HB:=n0_;clear n0_;(try clear hb);(try clear hb2);(try clear hk);(try clear hi)))
                  refine bodyPost_ret (results_list (rs:=[.tmp 4,.tmp 5,.tmp 6,.tmp 7]) rfl (by simp) (.tmp (.tmp (.tmp (.tmp .nil))))) rfl ?_
                  exact ⟨by first|rfl|(simp [errW_none,errW_some] <;> rfl)|(simp [*,errW_none,errW_some] <;> rfl)|(simp [wrap64];done),by repeat (first|(with_reducible first|exact HB.out|apply wA|apply wN|apply wD)|exact HB.out)⟩
  · rw [if_neg c4] at H
    have c4b0 : (t452 == 0) = false:=beq_eq_false_iff_ne.mpr c4
    have c4b1 : (t452 != 0) = true:=bne_iff_ne.mpr c4
    simp only [Option.some.injEq,Prod.mk.injEq] at H
    obtain ⟨rfl,rfl,rfl,rfl⟩:=H
    go_enter Tryd.func38,Tryd.ntmps38
    go_wp2_with (first|((with_reducible refine gC (f:=12) rfl ?_);refine goesL_ (some 13) rfl rfl Tryd.func12 (by kernel_rfl) rfl #[.int .i64 a0,.int .u64 a1] rfl (by (try simp only [mT,mC,mN]);first|done|rfl|(simp only [lD,lK];rfl)) ?_;(with_reducible refine (vernierref04_Check.calls a0 a1 t452 _ A3.out).mono ?_);rintro e w21 ⟨rfl,hb⟩;refine ⟨_,rfl,?_⟩;have n0_:=A0.mk (wT (by repeat (first|(with_reducible first|exact HB.out|apply wA|apply wN|apply wD)|exact HB.out)) hb);clear HB;have HB:=n0_;clear n0_;(try clear hb);(try clear hb2);(try clear hk);(try clear hi)))
    refine bodyPost_ret (results_list (rs:=[.tmp 4,.tmp 5,.tmp 6,.tmp 7]) rfl (by simp) (.tmp (.tmp (.tmp (.tmp .nil))))) rfl ?_
    exact ⟨by first|rfl|(simp [errW_none,errW_some] <;> rfl)|(simp [*,errW_none,errW_some] <;> rfl)|(simp [wrap64];done),by repeat (first|(with_reducible first|exact HB.out|apply wA|apply wN|apply wD)|exact HB.out)⟩

/-! ### vernierlaw04_form: function 39 -/
noncomputable def vernierlaw04_form.f (a0 : Int) (a1 : Int) : Option (List Int × Int):=(format_Value.f a0 a1).bind fun bt458 => (some (bt458.2.1,bt458.2.2.2))
set_option maxHeartbeats 8000000 in
set_option maxRecDepth 100000 in
theorem vernierlaw04_form.calls (a0 : Int) (a1 : Int) (r1 : List Int) (r2 : Int) (w : World) (hG : A0 (GlobR w)) (hD : A0 (GlobD w)) (h : vernierlaw04_form.f a0 a1 = some (r1,r2)) :
    Calls Tryd.prog 39 #[.int .i64 a0,.int .u64 a1] w fun e w' => ∃ v0_ : Value,e = .returned (.tuple #[v0_,.int .i64 r2])∧Kd.R (Kd.int .u64) 22 w' w.heap.size (fun _ => True) v0_ r1∧Below w.heap.size w w':=by
  have hu62:=Tryd.underlying62
  have HB:=A0.mk (Below.refl w.heap.size w)
  have H : ((format_Value.f a0 a1).bind fun bt458 => (some (bt458.2.1,bt458.2.2.2))) = some (r1,r2):=h
  clear h;replace H:=Option.bind_eq_some_iff.mp H;obtain ⟨⟨t458,t459,t462,t463⟩,A30,H⟩:=H
  replace H : (some (t459,t463)) = some (r1,r2):=H
  have A3:=A0.mk A30;clear A30
  simp only [Option.some.injEq,Prod.mk.injEq] at H
  obtain ⟨rfl,rfl⟩:=H
  go_enter Tryd.func39,Tryd.ntmps39
  go_wp2_with (first|((with_reducible refine gC (f:=37) rfl ?_);refine goesL_ (some 11) rfl rfl Tryd.func37 (by kernel_rfl) rfl #[.int .i64 a0,.int .u64 a1] rfl (by (try simp only [mT,mC,mN]);first|done|rfl|(simp only [lD,lK];rfl)) ?_;(with_reducible refine (format_Value.calls a0 a1 t458 t459 t462 t463 _ ?hG ?hD A3.out).mono ?_);(case hG => exact GlobR.below hG.out (by repeat (first|(with_reducible first|exact HB.out|apply wA|apply wN|apply wD|refine wS ?_ GE464.out)|exact HB.out)));(case hD => exact GlobD.below hD.out (by repeat (first|(with_reducible first|exact HB.out|apply wA|apply wN|apply wD|refine wS ?_ GE464.out)|exact HB.out)));rintro e w4 ⟨v460,rfl,ho0,hb⟩;refine ⟨_,rfl,?_⟩;have n0_:=A0.mk (Kd.R_lower ho0 (wZ (by repeat (first|(with_reducible first|exact HB.out|apply wA|apply wN|apply wD)|exact HB.out))));have n1_:=A0.mk (wT (by repeat (first|(with_reducible first|exact HB.out|apply wA|apply wN|apply wD)|exact HB.out)) hb);clear HB;have HO461:=n0_;have HB:=n1_;clear n0_ n1_;(try clear hb);(try clear hb2);(try clear hk);(try clear hi);(try clear ho0))|((with_reducible refine gD (N:=6) rfl ?_);refine bE ?hg (N:=6) ?hd (cs:=#[.bool false,.slice none 0 0,.int .i64 0]) (t:=62) ?hr ?_;(case hd => rfl);(case hg => rfl);(case hr => first|(go_simp;done)|(go_simp;rfl));intro gb464 hg w5 hbox hb;have n0_:=A0.mk (Kd.R_below (by (with_reducible repeat (first|apply Kd.R_alloc|apply Kd.R_drewN|apply Kd.R_drew));exact HO461.out) hb);have n1_:=A0.mk (wT (by repeat (first|(with_reducible first|exact HB.out|apply wA|apply wN|apply wD)|exact HB.out)) hb);have n2_:=A0.mk (hbox);have n3_:=A0.mk ((by rw [hg];exact (wZ (by repeat (first|(with_reducible first|exact HB.out|apply wA|apply wN|apply wD)|exact HB.out))) : w.heap.size ≤ gb464));have n4_:=A0.mk ((by rw [hg];exact (wZ (by repeat (first|(with_reducible first|exact HB.out|apply wA|apply wN|apply wD)|exact HB.out))) : w.heap.size ≤ gb464));clear HO461;clear HB;have HO461:=n0_;have HB:=n1_;have BK464:=n2_;have GW464:=n3_;have GE464:=n4_;clear n0_ n1_ n2_ n3_ n4_;clear hb hbox hg;have hcz6_0 : w5.cell? ⟨gb464,0,none⟩ = some (.bool false):=(bC BK464.out 0).trans rfl;have hcz6_1 : w5.cell? ⟨gb464,1,none⟩ = some (.slice none 0 0):=(bC BK464.out 1).trans rfl;have hcz6_2 : w5.cell? ⟨gb464,2,none⟩ = some (.int .i64 0):=(bC BK464.out 2).trans rfl;have hfz6_0:=bF BK464.out 0;have hfz6_1:=bF BK464.out 1;have hfz6_2:=bF BK464.out 2;obtain ⟨Ao7,co7,eo7⟩:=Kd.R_slice HO461.out;subst eo7))
  go_ret2
  exact ⟨_,by first|rfl|(simp [errW_none,errW_some] <;> rfl)|(simp [*,errW_none,errW_some] <;> rfl)|(simp [wrap64];done),by (with_reducible repeat (first|apply Kd.R_alloc|apply Kd.R_drewN|apply Kd.R_drew));exact Kd.R_mono (Kd.R_far (p:=⟨gb464,2,none⟩) (Kd.R_far (p:=⟨gb464,1,none⟩) (Kd.R_far (p:=⟨gb464,0,none⟩) (Kd.R_types HO461.out BK464.out (by decide)) (fun _ hk => hk.2) (.bool t458)) (fun _ hk => hk.2) (.slice Ao7 t459.length co7)) (fun _ hk => hk.2) (.int .i64 t462)) (fun _ hk => trivial),by repeat (first|(with_reducible first|exact HB.out|apply wA|apply wN|apply wD|refine wS ?_ GE464.out)|exact HB.out)⟩

end Go.Proofs.YtjdmbhdlogbopaaDoor.V
