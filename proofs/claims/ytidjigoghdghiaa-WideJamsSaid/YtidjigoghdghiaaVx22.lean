/- Contracts of the program's functions, each: where the printed function answers, the call answers the same. Written by vprint.py, this session's own program over the kit's print.py; Lean checks it. No conditions beyond those that each states. -/
import Derived.Test.YtidjigoghdghiaaVx0
import Derived.Test.YtidjigoghdghiaaVx1
import Derived.Test.YtidjigoghdghiaaVx10
import Derived.Test.YtidjigoghdghiaaVx16
import Derived.Test.YtidjigoghdghiaaVx17
import Derived.Test.YtidjigoghdghiaaVx19
namespace Go.Proofs.Ytidjigoghdghiaa.V
open Go.RowKit Go.Proofs.YtidjigoghdghiaaQ.PrintWords Go.Proofs.YtidjigoghdghiaaQ.PrintLast Go.Proofs.YtidjigoghdghiaaQ.PrintMore
open Bool renaming true → Y, false → Z
open List renaming setIfInBounds_toArray → lT, set_cons_zero → lZ, set_cons_succ → lS, map_toArray → mT, map_cons → mC, map_nil → mN, length_drop → lD, length_take → lK
open Act renaming put → aP
attribute [local go_sem] max2_int min2_int max_two min_two max_three min_three max_four min_four   -- for this text's walks alone
set_option linter.unusedVariables false
set_option linter.unusedSimpArgs false

attribute [local go_sem high] eqA24
/-! ### vernierlaw01_WideJams: function 8 -/
mutual
noncomputable def vernierlaw01_WideJams.j0 : Nat→Int→Bool→Int→Int→Option (Bool)
  | 0,_,_,_,_ => none
  | k + 1,x2,x42,x343000,x343001 => if x42 = true then (none) else ((wide_Shr.f x343000 x343001 x2).bind fun bt356 => ((wide_Jam.f x343000 x343001 x2).bind fun bt358 => ((wide_Shl.f bt356.1 bt356.2 x2).bind fun bt362 => (if x2 ≥ 128 then (vernierlaw01_WideJams.j1 k x2 (!(x343000 == 0) || (!(x343001 == 0))) x343000 x343001 bt356.1 bt356.2 bt358.1 bt358.2) else (vernierlaw01_WideJams.j1 k x2 (!(bt362.1 == x343000) || (!(bt362.2 == x343001))) x343000 x343001 bt356.1 bt356.2 bt358.1 bt358.2)))))
noncomputable def vernierlaw01_WideJams.j1 : Nat→Int→Bool→Int→Int→Int→Int→Int→Int→Option (Bool)
  | 0,_,_,_,_,_,_,_,_ => none
  | k + 1,x2,x9,x343000,x343001,x361000,x361001,x362000,x362001 => if x9 = true then (vernierlaw01_WideJams.j2 k x2 x343000 x343001 x362000 x362001 x361000 (Go.bits .or .u64 x361001 1)) else (vernierlaw01_WideJams.j2 k x2 x343000 x343001 x362000 x362001 x361000 x361001)
noncomputable def vernierlaw01_WideJams.j2 : Nat→Int→Int→Int→Int→Int→Int→Int→Option (Bool)
  | 0,_,_,_,_,_,_,_ => none
  | k + 1,x2,x343000,x343001,x362000,x362001,x365000,x365001 => if (!(x362000 == x365000) || (!(x362001 == x365001))) = true then (none) else ((wide_Shl.f x343000 x343001 x2).bind fun bt365 => (if (x343000 == 0 && (x343001 == 0)) = true then ((wide_Shr.f bt365.1 bt365.2 x2).bind fun bt368 => (if ((bt368.1 == x343000 && (bt368.2 == x343001)) == true) = true then (if (bt365.1 == 0 && (bt365.2 == 0)) = true then (some true) else ((wide_Len.f bt365.1 bt365.2).bind fun t370 => ((wide_Len.f x343000 x343001).bind fun t371 => (some (t370 == (wrap64 (t371 + x2))))))) else (none))) else ((wide_Len.f x343000 x343001).bind fun t372 => ((wide_Shr.f bt365.1 bt365.2 x2).bind fun bt373 => (if ((bt373.1 == x343000 && (bt373.2 == x343001)) == (decide ((wrap64 (t372 + x2)) ≤ 128))) = true then (if ((wrap64 (t372 + x2)) ≤ 128) then (if (bt365.1 == 0 && (bt365.2 == 0)) = true then (some true) else ((wide_Len.f bt365.1 bt365.2).bind fun t375 => ((wide_Len.f x343000 x343001).bind fun t376 => (some (t375 == (wrap64 (t376 + x2))))))) else (some true)) else (none))))))
end
noncomputable def vernierlaw01_WideJams.f (k : Nat) (a0_0 : Int) (a0_1 : Int) (a1 : Int) (a2 : Int) : Option (Bool):=(vernierlaw01_fixed.f).bind fun t343 => (if t343 = true then ((wide_Jam.f a0_0 a0_1 (Go.bits .and .i64 a1 255)).bind fun bt344 => ((wide_Jam.f bt344.1 bt344.2 (Go.bits .and .i64 a2 255)).bind fun bt346 => ((wide_Jam.f a0_0 a0_1 (wrap64 ((Go.bits .and .i64 a1 255) + (Go.bits .and .i64 a2 255)))).bind fun bt348 => (if (!(bt346.1 == bt348.1) || (!(bt346.2 == bt348.2))) = true then (vernierlaw01_WideJams.j0 k (Go.bits .and .i64 a2 255) true a0_0 a0_1) else ((wide_Shr.f a0_0 a0_1 (Go.bits .and .i64 a1 255)).bind fun bt350 => ((wide_Shr.f bt350.1 bt350.2 (Go.bits .and .i64 a2 255)).bind fun bt352 => ((wide_Shr.f a0_0 a0_1 (wrap64 ((Go.bits .and .i64 a1 255) + (Go.bits .and .i64 a2 255)))).bind fun bt354 => (vernierlaw01_WideJams.j0 k (Go.bits .and .i64 a2 255) (!(bt352.1 == bt354.1) || (!(bt352.2 == bt354.2))) a0_0 a0_1)))))))) else (none))
theorem vernierlaw01_WideJams.mono_l : ∀ k,(∀ y0 y1 y2 y3,LeO (vernierlaw01_WideJams.j0 k y0 y1 y2 y3) (vernierlaw01_WideJams.j0 (k + 1) y0 y1 y2 y3))∧(∀ y0 y1 y2 y3 y4 y5 y6 y7,LeO (vernierlaw01_WideJams.j1 k y0 y1 y2 y3 y4 y5 y6 y7) (vernierlaw01_WideJams.j1 (k + 1) y0 y1 y2 y3 y4 y5 y6 y7))∧(∀ y0 y1 y2 y3 y4 y5 y6,LeO (vernierlaw01_WideJams.j2 k y0 y1 y2 y3 y4 y5 y6) (vernierlaw01_WideJams.j2 (k + 1) y0 y1 y2 y3 y4 y5 y6))
  | 0 => ⟨fun _ _ _ _ r h => by simp [vernierlaw01_WideJams.j0] at h,fun _ _ _ _ _ _ _ _ r h => by simp [vernierlaw01_WideJams.j1] at h,fun _ _ _ _ _ _ _ r h => by simp [vernierlaw01_WideJams.j2] at h⟩
  | k + 1 => by
    obtain ⟨ih0,ih1,ih2⟩:=vernierlaw01_WideJams.mono_l k
    refine ⟨?_,?_,?_⟩
    · intro y0 y1 y2 y3
      unfold vernierlaw01_WideJams.j0
      repeat' first
      | (with_reducible exact ih0 _ _ _ _)
      | (with_reducible exact ih1 _ _ _ _ _ _ _ _)
      | (with_reducible exact ih2 _ _ _ _ _ _ _)
      | (with_reducible exact LeO.refl _)
      | (with_reducible exact LeO.none _)
      | (with_reducible refine LeO.ite ?_ ?_)
      | (with_reducible refine LeO.bind ?_ (fun _ => ?_))
      | exact ih0 _ _ _ _
      | exact ih1 _ _ _ _ _ _ _ _
      | exact ih2 _ _ _ _ _ _ _
      | exact LeO.none _
      | refine LeO.ite ?_ ?_
      | refine LeO.bind ?_ (fun _ => ?_)
    · intro y0 y1 y2 y3 y4 y5 y6 y7
      unfold vernierlaw01_WideJams.j1
      repeat' first
      | (with_reducible exact ih0 _ _ _ _)
      | (with_reducible exact ih1 _ _ _ _ _ _ _ _)
      | (with_reducible exact ih2 _ _ _ _ _ _ _)
      | (with_reducible exact LeO.refl _)
      | (with_reducible exact LeO.none _)
      | (with_reducible refine LeO.ite ?_ ?_)
      | (with_reducible refine LeO.bind ?_ (fun _ => ?_))
      | exact ih0 _ _ _ _
      | exact ih1 _ _ _ _ _ _ _ _
      | exact ih2 _ _ _ _ _ _ _
      | exact LeO.none _
      | refine LeO.ite ?_ ?_
      | refine LeO.bind ?_ (fun _ => ?_)
    · intro y0 y1 y2 y3 y4 y5 y6
      unfold vernierlaw01_WideJams.j2
      repeat' first
      | (with_reducible exact ih0 _ _ _ _)
      | (with_reducible exact ih1 _ _ _ _ _ _ _ _)
      | (with_reducible exact ih2 _ _ _ _ _ _ _)
      | (with_reducible exact LeO.refl _)
      | (with_reducible exact LeO.none _)
      | (with_reducible refine LeO.ite ?_ ?_)
      | (with_reducible refine LeO.bind ?_ (fun _ => ?_))
      | exact ih0 _ _ _ _
      | exact ih1 _ _ _ _ _ _ _ _
      | exact ih2 _ _ _ _ _ _ _
      | exact LeO.none _
      | refine LeO.ite ?_ ?_
      | refine LeO.bind ?_ (fun _ => ?_)
theorem vernierlaw01_WideJams.mono : ∀ a0 a1 a2 a3 k,LeO (vernierlaw01_WideJams.f k a0 a1 a2 a3) (vernierlaw01_WideJams.f (k + 1) a0 a1 a2 a3):=by
  intro a0 a1 a2 a3 k
  obtain ⟨ih0,ih1,ih2⟩:=vernierlaw01_WideJams.mono_l k
  unfold vernierlaw01_WideJams.f
  repeat' first
      | (with_reducible exact ih0 _ _ _ _)
      | (with_reducible exact ih1 _ _ _ _ _ _ _ _)
      | (with_reducible exact ih2 _ _ _ _ _ _ _)
      | (with_reducible exact LeO.refl _)
      | (with_reducible exact LeO.none _)
      | (with_reducible refine LeO.ite ?_ ?_)
      | (with_reducible refine LeO.bind ?_ (fun _ => ?_))
      | exact ih0 _ _ _ _
      | exact ih1 _ _ _ _ _ _ _ _
      | exact ih2 _ _ _ _ _ _ _
      | exact LeO.none _
      | refine LeO.ite ?_ ?_
      | refine LeO.bind ?_ (fun _ => ?_)
def vernierlaw01_WideJams.T4 : Bool × List (List Nat × List Nat):=(true,[([],[]),([],[]),([0,1],[0,1]),([],[]),([2,3,2],[2,3]),([],[]),([],[]),([],[]),([6,7],[6,7]),([5,8,4],[5,8]),([4,9],[4,9]),([10,9],[10]),([11],[11]),([11],[11]),([12,13,11,11],[11,12,13]),([11],[11]),([14,15,14,11],[11,14,15]),([11],[11]),([11],[11]),([11],[11]),([18,19,11],[11,18,19]),([17,20,16,11],[11,17,20]),([16,21,11],[11,16,21]),([11,22],[11,22])])
def vernierlaw01_WideJams.B4 : List Nat:=[0,0,3,0,15,0,0,0,192,511,1023,2047,4095,4095,16383,4095,65535,4095,4095,4095,790527,2097151,4194303,8388607]
theorem vernierlaw01_WideJams.tab4 : rtab .any (opsOf Try.f8 4) = vernierlaw01_WideJams.T4:=by kernel_rfl
theorem vernierlaw01_WideJams.bits4 : waitsOk vernierlaw01_WideJams.T4.2 vernierlaw01_WideJams.B4 = true:=by kernel_rfl
def vernierlaw01_WideJams.T6 : Bool × List (List Nat × List Nat):=(true,[([],[]),([],[]),([0,1],[0,1]),([],[]),([],[]),([3,4,2],[3,4]),([],[]),([],[]),([6,2,5,0,1,2,6,7],[2,6]),([7,5,8,0,1,2,3,4,5,6,7,8],[5,7])])
def vernierlaw01_WideJams.B6 : List Nat:=[0,0,3,0,0,31,0,0,255,511]
theorem vernierlaw01_WideJams.tab6 : rtab .any (opsOf Try.f8 6) = vernierlaw01_WideJams.T6:=by kernel_rfl
theorem vernierlaw01_WideJams.bits6 : waitsOk vernierlaw01_WideJams.T6.2 vernierlaw01_WideJams.B6 = true:=by kernel_rfl
def vernierlaw01_WideJams.T17 : Bool × List (List Nat × List Nat):=(true,[([],[]),([],[]),([0,1],[0,1]),([],[]),([2,3],[2,3]),([],[]),([4,5],[4,5]),([6,2],[6]),([7],[7]),([8,7],[7,8]),([9,7,7],[7,9]),([10],[10]),([10],[10]),([11,12,10],[10,11,12]),([10,13,7],[7,10,13]),([14,10,7],[7,14]),([15],[15]),([16,15,15],[15,16]),([15],[15]),([18,17,15],[15,18]),([15],[15]),([19,20,15],[15,19,20]),([17,21,15],[15,17,21]),([15,22,7],[7,15,22]),([7,23],[7,23]),([24,19,0,1,2,3,4,5,6,7,8,9,10,11,12,13,14,15,16,17,18,19,20,21,22,23,24],[24])])
def vernierlaw01_WideJams.B17 : List Nat:=[0,0,3,0,15,0,63,127,255,511,1023,2047,2047,8191,16383,32767,65535,131071,65535,524287,65535,2097151,4194303,8388607,16777215,33554431]
theorem vernierlaw01_WideJams.tab17 : rtab .any (opsOf Try.f8 17) = vernierlaw01_WideJams.T17:=by kernel_rfl
theorem vernierlaw01_WideJams.bits17 : waitsOk vernierlaw01_WideJams.T17.2 vernierlaw01_WideJams.B17 = true:=by kernel_rfl
set_option maxHeartbeats 8000000 in
set_option maxRecDepth 100000 in
theorem vernierlaw01_WideJams.calls (k : Nat) (a0_0 : Int) (a0_1 : Int) (a1 : Int) (a2 : Int) (r : Bool) (w : World) (h : vernierlaw01_WideJams.f k a0_0 a0_1 a1 a2 = some r) :
    Calls Try.prog 8 #[.agg #[.int .u64 a0_0,.int .u64 a0_1],.int .i64 a1,.int .i64 a2] w fun e w' => e = .returned (.bool r)∧Below w.heap.size w w':=by
  have hu24:=Try.underlying24
  have HB:=A0.mk (Below.refl w.heap.size w)
  have H : ((vernierlaw01_fixed.f).bind fun t343 => (if t343 = true then ((wide_Jam.f a0_0 a0_1 (Go.bits .and .i64 a1 255)).bind fun bt344 => ((wide_Jam.f bt344.1 bt344.2 (Go.bits .and .i64 a2 255)).bind fun bt346 => ((wide_Jam.f a0_0 a0_1 (wrap64 ((Go.bits .and .i64 a1 255) + (Go.bits .and .i64 a2 255)))).bind fun bt348 => (if (!(bt346.1 == bt348.1) || (!(bt346.2 == bt348.2))) = true then (vernierlaw01_WideJams.j0 k (Go.bits .and .i64 a2 255) true a0_0 a0_1) else ((wide_Shr.f a0_0 a0_1 (Go.bits .and .i64 a1 255)).bind fun bt350 => ((wide_Shr.f bt350.1 bt350.2 (Go.bits .and .i64 a2 255)).bind fun bt352 => ((wide_Shr.f a0_0 a0_1 (wrap64 ((Go.bits .and .i64 a1 255) + (Go.bits .and .i64 a2 255)))).bind fun bt354 => (vernierlaw01_WideJams.j0 k (Go.bits .and .i64 a2 255) (!(bt352.1 == bt354.1) || (!(bt352.2 == bt354.2))) a0_0 a0_1)))))))) else (none))) = some r:=h
  clear h;replace H:=Option.bind_eq_some_iff.mp H;obtain ⟨t343,A40,H⟩:=H
  replace H : (if t343 = true then ((wide_Jam.f a0_0 a0_1 (Go.bits .and .i64 a1 255)).bind fun bt344 => ((wide_Jam.f bt344.1 bt344.2 (Go.bits .and .i64 a2 255)).bind fun bt346 => ((wide_Jam.f a0_0 a0_1 (wrap64 ((Go.bits .and .i64 a1 255) + (Go.bits .and .i64 a2 255)))).bind fun bt348 => (if (!(bt346.1 == bt348.1) || (!(bt346.2 == bt348.2))) = true then (vernierlaw01_WideJams.j0 k (Go.bits .and .i64 a2 255) true a0_0 a0_1) else ((wide_Shr.f a0_0 a0_1 (Go.bits .and .i64 a1 255)).bind fun bt350 => ((wide_Shr.f bt350.1 bt350.2 (Go.bits .and .i64 a2 255)).bind fun bt352 => ((wide_Shr.f a0_0 a0_1 (wrap64 ((Go.bits .and .i64 a1 255) + (Go.bits .and .i64 a2 255)))).bind fun bt354 => (vernierlaw01_WideJams.j0 k (Go.bits .and .i64 a2 255) (!(bt352.1 == bt354.1) || (!(bt352.2 == bt354.2))) a0_0 a0_1)))))))) else (none)) = some r:=H
  have A4:=A0.mk A40;clear A40
  by_cases c5 : t343 = true
  · subst c5
    have H1 : ((wide_Jam.f a0_0 a0_1 (Go.bits .and .i64 a1 255)).bind fun bt344 => ((wide_Jam.f bt344.1 bt344.2 (Go.bits .and .i64 a2 255)).bind fun bt346 => ((wide_Jam.f a0_0 a0_1 (wrap64 ((Go.bits .and .i64 a1 255) + (Go.bits .and .i64 a2 255)))).bind fun bt348 => (if (!(bt346.1 == bt348.1) || (!(bt346.2 == bt348.2))) = true then (vernierlaw01_WideJams.j0 k (Go.bits .and .i64 a2 255) true a0_0 a0_1) else ((wide_Shr.f a0_0 a0_1 (Go.bits .and .i64 a1 255)).bind fun bt350 => ((wide_Shr.f bt350.1 bt350.2 (Go.bits .and .i64 a2 255)).bind fun bt352 => ((wide_Shr.f a0_0 a0_1 (wrap64 ((Go.bits .and .i64 a1 255) + (Go.bits .and .i64 a2 255)))).bind fun bt354 => (vernierlaw01_WideJams.j0 k (Go.bits .and .i64 a2 255) (!(bt352.1 == bt354.1) || (!(bt352.2 == bt354.2))) a0_0 a0_1)))))))) = some r:=by rw [if_pos rfl] at H;exact H
    clear H;have H:=H1;clear H1;have HC6:=A0.mk H;clear H
    go_enter Try.func8,Try.ntmps8
    go_upto_region 4 with (first|((with_reducible refine gD (N:=3) rfl ?_);refine bE ?hg (N:=3) ?hd (cs:=#[.int .u64 a0_0,.int .u64 a0_1]) (t:=24) ?hr ?_;(case hd => rfl);(case hg => rfl);(case hr => first|(go_simp;done)|(go_simp;rfl));intro gb342 hg w7 hbox hb;have n0_:=A0.mk (wT (by repeat (first|(with_reducible first|exact HB.out|apply wA|apply wN|apply wD)|exact HB.out)) hb);have n1_:=A0.mk (hbox);have n2_:=A0.mk ((by rw [hg];exact (wZ (by repeat (first|(with_reducible first|exact HB.out|apply wA|apply wN|apply wD)|exact HB.out))) : w.heap.size ≤ gb342));have n3_:=A0.mk ((by rw [hg];exact (wZ (by repeat (first|(with_reducible first|exact HB.out|apply wA|apply wN|apply wD)|exact HB.out))) : w.heap.size ≤ gb342));clear HB;have HB:=n0_;have BK342:=n1_;have GW342:=n2_;have GE342:=n3_;clear n0_ n1_ n2_ n3_;clear hb hbox hg)|((with_reducible refine gC (f:=14) rfl ?_);refine goesL_ (some 13) rfl rfl Try.func14 (by kernel_rfl) rfl #[] rfl (by (try simp only [mT,mC,mN]);first|done|rfl|(simp only [lD,lK];rfl)) ?_;(with_reducible refine (vernierlaw01_fixed.calls  true _ A4.out).mono ?_);rintro e w8 ⟨rfl,hb⟩;refine ⟨_,rfl,?_⟩;have n0_:=A0.mk (bB (g:=gb342) (o:=.cells #[.int .u64 a0_0,.int .u64 a0_1] 24 (0,0)) (by (with_reducible repeat (first|refine bN ?_ _|refine bD ?_|refine bA ?_ _));exact BK342.out) hb);have n1_:=A0.mk (wT (by repeat (first|(with_reducible first|exact HB.out|apply wA|apply wN|apply wD|refine wS ?_ GE342.out)|exact HB.out)) hb);clear BK342;clear HB;have BK342:=n0_;have HB:=n1_;clear n0_ n1_;(try clear hb);(try clear hb2);(try clear hk);(try clear hi)))
    (try simp only [aP,lT,lZ,lS])
    go_cut [42] (fun v42 wc => ∃ (kq : Nat) (x42_5 : Bool),v42 = .bool x42_5∧A0 (vernierlaw01_WideJams.j0 kq (Go.bits .and .i64 a2 255) x42_5 a0_0 a0_1 = some r)∧A0 (kq ≤ k)∧A0 (wc.heap[gb342]? = some (.cells #[.int .u64 a0_0,.int .u64 a0_1] 24 (0,0)))∧A0 (Below w.heap.size w wc))
    case first =>
      have H:=HC6.out
      clear HC6;replace H:=Option.bind_eq_some_iff.mp H;obtain ⟨⟨t344,t345⟩,A90,H⟩:=H
      replace H : ((wide_Jam.f t344 t345 (Go.bits .and .i64 a2 255)).bind fun bt346 => ((wide_Jam.f a0_0 a0_1 (wrap64 ((Go.bits .and .i64 a1 255) + (Go.bits .and .i64 a2 255)))).bind fun bt348 => (if (!(bt346.1 == bt348.1) || (!(bt346.2 == bt348.2))) = true then (vernierlaw01_WideJams.j0 k (Go.bits .and .i64 a2 255) true a0_0 a0_1) else ((wide_Shr.f a0_0 a0_1 (Go.bits .and .i64 a1 255)).bind fun bt350 => ((wide_Shr.f bt350.1 bt350.2 (Go.bits .and .i64 a2 255)).bind fun bt352 => ((wide_Shr.f a0_0 a0_1 (wrap64 ((Go.bits .and .i64 a1 255) + (Go.bits .and .i64 a2 255)))).bind fun bt354 => (vernierlaw01_WideJams.j0 k (Go.bits .and .i64 a2 255) (!(bt352.1 == bt354.1) || (!(bt352.2 == bt354.2))) a0_0 a0_1))))))) = some r:=H
      have A9:=A0.mk A90;clear A90;replace H:=Option.bind_eq_some_iff.mp H;obtain ⟨⟨t346,t347⟩,A100,H⟩:=H
      replace H : ((wide_Jam.f a0_0 a0_1 (wrap64 ((Go.bits .and .i64 a1 255) + (Go.bits .and .i64 a2 255)))).bind fun bt348 => (if (!(t346 == bt348.1) || (!(t347 == bt348.2))) = true then (vernierlaw01_WideJams.j0 k (Go.bits .and .i64 a2 255) true a0_0 a0_1) else ((wide_Shr.f a0_0 a0_1 (Go.bits .and .i64 a1 255)).bind fun bt350 => ((wide_Shr.f bt350.1 bt350.2 (Go.bits .and .i64 a2 255)).bind fun bt352 => ((wide_Shr.f a0_0 a0_1 (wrap64 ((Go.bits .and .i64 a1 255) + (Go.bits .and .i64 a2 255)))).bind fun bt354 => (vernierlaw01_WideJams.j0 k (Go.bits .and .i64 a2 255) (!(bt352.1 == bt354.1) || (!(bt352.2 == bt354.2))) a0_0 a0_1)))))) = some r:=H
      have A10:=A0.mk A100;clear A100;replace H:=Option.bind_eq_some_iff.mp H;obtain ⟨⟨t348,t349⟩,A110,H⟩:=H
      replace H : (if (!(t346 == t348) || (!(t347 == t349))) = true then (vernierlaw01_WideJams.j0 k (Go.bits .and .i64 a2 255) true a0_0 a0_1) else ((wide_Shr.f a0_0 a0_1 (Go.bits .and .i64 a1 255)).bind fun bt350 => ((wide_Shr.f bt350.1 bt350.2 (Go.bits .and .i64 a2 255)).bind fun bt352 => ((wide_Shr.f a0_0 a0_1 (wrap64 ((Go.bits .and .i64 a1 255) + (Go.bits .and .i64 a2 255)))).bind fun bt354 => (vernierlaw01_WideJams.j0 k (Go.bits .and .i64 a2 255) (!(bt352.1 == bt354.1) || (!(bt352.2 == bt354.2))) a0_0 a0_1))))) = some r:=H
      have A11:=A0.mk A110;clear A110
      by_cases c12 : (!(t346 == t348) || (!(t347 == t349))) = true
      · rw [if_pos c12] at H
        have c12b0 : (!(t346 == t348) || (!(t347 == t349))) = true:=c12
        clear c12
        (first|rw [c12b0]|(simp only [i64_w,i32_w];rw [c12b0])|skip)
        have H':=A0.mk H
        clear H
        try go_wp2
        have n0_:=A0.mk (bD BK342.out);have n1_:=A0.mk (wD HB.out);clear BK342;clear HB;have BK342:=n0_;have HB:=n1_;clear n0_ n1_
        refine start_ (n:=24) (S:=fun w' => w'.cell? ⟨gb342,0,none⟩ = some (.int .u64 a0_0)∧w'.cell? ⟨gb342,1,none⟩ = some (.int .u64 a0_1)) (ds:=[]) #[Z,Z,Z,Z,Z,Z,Z,Z,Z,Z,Z,Z,Z,Z,Z,Z,Z,Z,Z,Z,Z,Z,Z,Z] (by kernel_rfl) rfl rfl ⟨(bC BK342.out 0).trans rfl,(bC BK342.out 1).trans rfl⟩ (fun hHeld => ?_);refine with_tabW vernierlaw01_WideJams.tab4 vernierlaw01_WideJams.bits4 (fun HT_ HW_ => ?_)
        generalize w8.drew = w13 at BK342 HB hHeld ⊢
        refine pure_ (i:=1) (N:=some 20) (v:=?_) (a':=?_) #[Z,Y,Z,Z,Z,Z,Z,Z,Z,Z,Z,Z,Z,Z,Z,Z,Z,Z,Z,Z,Z,Z,Z,Z] rfl rfl (any_of HT_.out (by kernel_rfl)) (fun _ _ _ h => h) (Or.inl ⟨by rfl,?_⟩) ?_ ?_
        rotate_left;(intro w';go_simp;with_reducible rfl);rotate_left;(simp only [aP,lT,lZ,lS,i64_w,i32_w];rfl)
        refine pure_ (i:=3) (N:=some 22) (v:=?_) (a':=?_) #[Z,Y,Z,Y,Z,Z,Z,Z,Z,Z,Z,Z,Z,Z,Z,Z,Z,Z,Z,Z,Z,Z,Z,Z] rfl rfl (any_of HT_.out (by kernel_rfl)) (fun _ _ _ h => h) (Or.inl ⟨by rfl,?_⟩) ?_ ?_
        rotate_left;(intro w';go_simp;with_reducible rfl);rotate_left;(simp only [aP,lT,lZ,lS,i64_w,i32_w];rfl)
        refine pure_ (i:=6) (N:=some 25) (v:=?_) (a':=?_) #[Z,Y,Z,Y,Z,Z,Y,Z,Z,Z,Z,Z,Z,Z,Z,Z,Z,Z,Z,Z,Z,Z,Z,Z] rfl rfl (any_of HT_.out (by kernel_rfl)) (fun _ _ _ h => h) (Or.inl ⟨by rfl,?_⟩) ?_ ?_
        rotate_left;(intro w';go_simp;with_reducible rfl);rotate_left;(simp only [aP,lT,lZ,lS,i64_w,i32_w];rfl)
        refine pure_ (i:=7) (N:=some 26) (v:=?_) (a':=?_) #[Z,Y,Z,Y,Z,Z,Y,Y,Z,Z,Z,Z,Z,Z,Z,Z,Z,Z,Z,Z,Z,Z,Z,Z] rfl rfl (any_of HT_.out (by kernel_rfl)) (fun _ _ _ h => h) (Or.inl ⟨by rfl,?_⟩) ?_ ?_
        rotate_left;(intro w';go_simp;with_reducible rfl);rotate_left;(simp only [aP,lT,lZ,lS,i64_w,i32_w];rfl)
        refine pure_ (i:=8) (N:=some 27) (v:=?_) (a':=?_) #[Z,Y,Z,Y,Z,Z,Y,Y,Y,Z,Z,Z,Z,Z,Z,Z,Z,Z,Z,Z,Z,Z,Z,Z] rfl rfl (any_of HT_.out (by kernel_rfl)) (fun _ _ _ h => h) (Or.inl ⟨by rfl,?_⟩) ?_ ?_
        rotate_left;(intro w';go_simp;with_reducible rfl);rotate_left;(simp only [aP,lT,lZ,lS,i64_w,i32_w];rfl)
        refine take_ (i:=0) (N:=some 19) (v:=?_) (a':=?_) #[Y,Y,Z,Y,Z,Z,Y,Y,Y,Z,Z,Z,Z,Z,Z,Z,Z,Z,Z,Z,Z,Z,Z,Z] rfl rfl (take_ofW HT_.out HW_.out (by kernel_rfl)) (fun _ _ _ h => h) (Or.inl ⟨by rfl,?_⟩) hHeld ?_ ?_
        rotate_left;(rintro w' ⟨s0,s1⟩;go_simp;with_reducible rfl);rotate_left;(simp only [aP,lT,lZ,lS,i64_w,i32_w];rfl)
        refine take_ (i:=5) (N:=some 24) (v:=?_) (a':=?_) #[Y,Y,Z,Y,Z,Y,Y,Y,Y,Z,Z,Z,Z,Z,Z,Z,Z,Z,Z,Z,Z,Z,Z,Z] rfl rfl (take_ofW HT_.out HW_.out (by kernel_rfl)) (fun _ _ _ h => h) (Or.inl ⟨by rfl,?_⟩) hHeld ?_ ?_
        rotate_left;(rintro w' ⟨s0,s1⟩;go_simp;with_reducible rfl);rotate_left;(simp only [aP,lT,lZ,lS,i64_w,i32_w];rfl)
        refine one_ (i:=2) (N:=some 21) #[Y,Y,Y,Y,Z,Y,Y,Y,Y,Z,Z,Z,Z,Z,Z,Z,Z,Z,Z,Z,Z,Z,Z,Z] rfl rfl (one_of HT_.out (by kernel_rfl)) (by decide) (fun K hK => ?_)
        refine goes_ Try.func29 (by kernel_rfl) rfl #[.agg #[.int .u64 a0_0,.int .u64 a0_1],.int .i64 (Go.bits .and .i64 a1 255)] (by rfl) rfl rfl (by (try simp only [mT,mC,mN]);first|done|rfl|(simp only [lD,lK];rfl)) ?_
        with_reducible refine (wide_Jam.calls a0_0 a0_1 (Go.bits .and .i64 a1 255) t344 t345 _ A9.out).mono ?_
        rintro e w14 ⟨rfl,hb⟩;refine ⟨_,rfl,?_⟩;have n0_:=A0.mk (bB (g:=gb342) (o:=.cells #[.int .u64 a0_0,.int .u64 a0_1] 24 (0,0)) (by (with_reducible repeat (first|refine bN ?_ _|refine bD ?_|refine bA ?_ _));exact BK342.out) hb);have n1_:=A0.mk (wT (by repeat (first|(with_reducible first|exact HB.out|apply wA|apply wN|apply wD|refine wS ?_ GE342.out)|exact HB.out)) hb);clear BK342;clear HB;have BK342:=n0_;have HB:=n1_;clear n0_ n1_;(try clear hb);(try clear hb2);(try clear hk);(try clear hi)
        refine hK.out _ _ ⟨(bC BK342.out 0).trans rfl,(bC BK342.out 1).trans rfl⟩ (fun hHeld => ?_)
        clear hK K
        refine norm_ (a':=?_) ?_ ?_
        rotate_left;(show Act.put _ (some 21) _ = _;simp only [aP,lT,lZ,lS,i64_w,i32_w];rfl)
        refine one_ (i:=4) (N:=some 23) #[Y,Y,Y,Y,Y,Y,Y,Y,Y,Z,Z,Z,Z,Z,Z,Z,Z,Z,Z,Z,Z,Z,Z,Z] rfl rfl (one_of HT_.out (by kernel_rfl)) (by decide) (fun K hK => ?_)
        refine goes_ Try.func29 (by kernel_rfl) rfl #[.agg #[.int .u64 t344,.int .u64 t345],.int .i64 (Go.bits .and .i64 a2 255)] (by rfl) rfl rfl (by (try simp only [mT,mC,mN]);first|done|rfl|(simp only [lD,lK];rfl)) ?_
        with_reducible refine (wide_Jam.calls t344 t345 (Go.bits .and .i64 a2 255) t346 t347 _ A10.out).mono ?_
        rintro e w15 ⟨rfl,hb⟩;refine ⟨_,rfl,?_⟩;have n0_:=A0.mk (bB (g:=gb342) (o:=.cells #[.int .u64 a0_0,.int .u64 a0_1] 24 (0,0)) (by (with_reducible repeat (first|refine bN ?_ _|refine bD ?_|refine bA ?_ _));exact BK342.out) hb);have n1_:=A0.mk (wT (by repeat (first|(with_reducible first|exact HB.out|apply wA|apply wN|apply wD|refine wS ?_ GE342.out)|exact HB.out)) hb);clear BK342;clear HB;have BK342:=n0_;have HB:=n1_;clear n0_ n1_;(try clear hb);(try clear hb2);(try clear hk);(try clear hi)
        refine hK.out _ _ ⟨(bC BK342.out 0).trans rfl,(bC BK342.out 1).trans rfl⟩ (fun hHeld => ?_)
        clear hK K
        refine norm_ (a':=?_) ?_ ?_
        rotate_left;(show Act.put _ (some 23) _ = _;simp only [aP,lT,lZ,lS,i64_w,i32_w];rfl)
        refine one_ (i:=9) (N:=some 28) #[Y,Y,Y,Y,Y,Y,Y,Y,Y,Y,Z,Z,Z,Z,Z,Z,Z,Z,Z,Z,Z,Z,Z,Z] rfl rfl (one_of HT_.out (by kernel_rfl)) (by decide) (fun K hK => ?_)
        refine goes_ Try.func29 (by kernel_rfl) rfl #[.agg #[.int .u64 a0_0,.int .u64 a0_1],.int .i64 (wrap64 ((Go.bits .and .i64 a1 255) + (Go.bits .and .i64 a2 255)))] (by rfl) rfl rfl (by (try simp only [mT,mC,mN]);first|done|rfl|(simp only [lD,lK];rfl)) ?_
        with_reducible refine (wide_Jam.calls a0_0 a0_1 (wrap64 ((Go.bits .and .i64 a1 255) + (Go.bits .and .i64 a2 255))) t348 t349 _ A11.out).mono ?_
        rintro e w16 ⟨rfl,hb⟩;refine ⟨_,rfl,?_⟩;have n0_:=A0.mk (bB (g:=gb342) (o:=.cells #[.int .u64 a0_0,.int .u64 a0_1] 24 (0,0)) (by (with_reducible repeat (first|refine bN ?_ _|refine bD ?_|refine bA ?_ _));exact BK342.out) hb);have n1_:=A0.mk (wT (by repeat (first|(with_reducible first|exact HB.out|apply wA|apply wN|apply wD|refine wS ?_ GE342.out)|exact HB.out)) hb);clear BK342;clear HB;have BK342:=n0_;have HB:=n1_;clear n0_ n1_;(try clear hb);(try clear hb2);(try clear hk);(try clear hi)
        refine hK.out _ _ ⟨(bC BK342.out 0).trans rfl,(bC BK342.out 1).trans rfl⟩ (fun hHeld => ?_)
        clear hK K
        refine norm_ (a':=?_) ?_ ?_
        rotate_left;(show Act.put _ (some 28) _ = _;simp only [aP,lT,lZ,lS,i64_w,i32_w];rfl)
        refine pure_ (i:=10) (N:=some 29) (v:=?_) (a':=?_) #[Y,Y,Y,Y,Y,Y,Y,Y,Y,Y,Y,Z,Z,Z,Z,Z,Z,Z,Z,Z,Z,Z,Z,Z] rfl rfl (any_of HT_.out (by kernel_rfl)) (fun _ _ _ h => h) (Or.inl ⟨by rfl,?_⟩) ?_ ?_
        rotate_left;(intro w';go_simp;with_reducible rfl);rotate_left;(simp only [aP,lT,lZ,lS,i64_w,i32_w];rfl)
        refine pure_ (i:=11) (N:=some 30) (v:=?_) (a':=?_) #[Y,Y,Y,Y,Y,Y,Y,Y,Y,Y,Y,Y,Z,Z,Z,Z,Z,Z,Z,Z,Z,Z,Z,Z] rfl rfl (any_of HT_.out (by kernel_rfl)) (fun _ _ _ h => h) (Or.inl ⟨by rfl,?_⟩) ?_ ?_
        rotate_left;(intro w';go_simp;with_reducible rfl);rotate_left;(simp only [aP,lT,lZ,lS,i64_w,i32_w];rfl)
        refine pure_ (i:=12) (N:=some 31) (v:=undef) (a':=?_) #[Y,Y,Y,Y,Y,Y,Y,Y,Y,Y,Y,Y,Y,Z,Z,Z,Z,Z,Z,Z,Z,Z,Z,Z] rfl rfl (any_of HT_.out (by kernel_rfl)) (fun _ _ _ h => h) (Or.inr ⟨by rfl,rfl⟩) ?_ ?_
        rotate_left
        · simp only [aP,lT,lZ,lS,i64_w,i32_w]
          rfl
        refine pure_ (i:=13) (N:=some 32) (v:=undef) (a':=?_) #[Y,Y,Y,Y,Y,Y,Y,Y,Y,Y,Y,Y,Y,Y,Z,Z,Z,Z,Z,Z,Z,Z,Z,Z] rfl rfl (any_of HT_.out (by kernel_rfl)) (fun _ _ _ h => h) (Or.inr ⟨by rfl,rfl⟩) ?_ ?_
        rotate_left
        · simp only [aP,lT,lZ,lS,i64_w,i32_w]
          rfl
        refine pure_ (i:=14) (N:=some 33) (v:=undef) (a':=?_) #[Y,Y,Y,Y,Y,Y,Y,Y,Y,Y,Y,Y,Y,Y,Y,Z,Z,Z,Z,Z,Z,Z,Z,Z] rfl rfl (any_of HT_.out (by kernel_rfl)) (fun _ _ _ h => h) (Or.inr ⟨by rfl,rfl⟩) ?_ ?_
        rotate_left
        · simp only [aP,lT,lZ,lS,i64_w,i32_w]
          rfl
        refine pure_ (i:=15) (N:=some 34) (v:=undef) (a':=?_) #[Y,Y,Y,Y,Y,Y,Y,Y,Y,Y,Y,Y,Y,Y,Y,Y,Z,Z,Z,Z,Z,Z,Z,Z] rfl rfl (any_of HT_.out (by kernel_rfl)) (fun _ _ _ h => h) (Or.inr ⟨by rfl,rfl⟩) ?_ ?_
        rotate_left
        · simp only [aP,lT,lZ,lS,i64_w,i32_w]
          rfl
        refine pure_ (i:=16) (N:=some 35) (v:=undef) (a':=?_) #[Y,Y,Y,Y,Y,Y,Y,Y,Y,Y,Y,Y,Y,Y,Y,Y,Y,Z,Z,Z,Z,Z,Z,Z] rfl rfl (any_of HT_.out (by kernel_rfl)) (fun _ _ _ h => h) (Or.inr ⟨by rfl,rfl⟩) ?_ ?_
        rotate_left
        · simp only [aP,lT,lZ,lS,i64_w,i32_w]
          rfl
        refine pure_ (i:=17) (N:=some 36) (v:=undef) (a':=?_) #[Y,Y,Y,Y,Y,Y,Y,Y,Y,Y,Y,Y,Y,Y,Y,Y,Y,Y,Z,Z,Z,Z,Z,Z] rfl rfl (any_of HT_.out (by kernel_rfl)) (fun _ _ _ h => h) (Or.inr ⟨by rfl,rfl⟩) ?_ ?_
        rotate_left
        · simp only [aP,lT,lZ,lS,i64_w,i32_w]
          rfl
        refine pure_ (i:=18) (N:=some 37) (v:=undef) (a':=?_) #[Y,Y,Y,Y,Y,Y,Y,Y,Y,Y,Y,Y,Y,Y,Y,Y,Y,Y,Y,Z,Z,Z,Z,Z] rfl rfl (any_of HT_.out (by kernel_rfl)) (fun _ _ _ h => h) (Or.inr ⟨by rfl,rfl⟩) ?_ ?_
        rotate_left
        · simp only [aP,lT,lZ,lS,i64_w,i32_w]
          rfl
        refine pure_ (i:=19) (N:=some 38) (v:=undef) (a':=?_) #[Y,Y,Y,Y,Y,Y,Y,Y,Y,Y,Y,Y,Y,Y,Y,Y,Y,Y,Y,Y,Z,Z,Z,Z] rfl rfl (any_of HT_.out (by kernel_rfl)) (fun _ _ _ h => h) (Or.inr ⟨by rfl,rfl⟩) ?_ ?_
        rotate_left
        · simp only [aP,lT,lZ,lS,i64_w,i32_w]
          rfl
        refine pure_ (i:=20) (N:=some 39) (v:=undef) (a':=?_) #[Y,Y,Y,Y,Y,Y,Y,Y,Y,Y,Y,Y,Y,Y,Y,Y,Y,Y,Y,Y,Y,Z,Z,Z] rfl rfl (any_of HT_.out (by kernel_rfl)) (fun _ _ _ h => h) (Or.inr ⟨by rfl,rfl⟩) ?_ ?_
        rotate_left
        · simp only [aP,lT,lZ,lS,i64_w,i32_w]
          rfl
        refine pure_ (i:=21) (N:=some 40) (v:=undef) (a':=?_) #[Y,Y,Y,Y,Y,Y,Y,Y,Y,Y,Y,Y,Y,Y,Y,Y,Y,Y,Y,Y,Y,Y,Z,Z] rfl rfl (any_of HT_.out (by kernel_rfl)) (fun _ _ _ h => h) (Or.inr ⟨by rfl,rfl⟩) ?_ ?_
        rotate_left
        · simp only [aP,lT,lZ,lS,i64_w,i32_w]
          rfl
        refine pure_ (i:=22) (N:=some 41) (v:=undef) (a':=?_) #[Y,Y,Y,Y,Y,Y,Y,Y,Y,Y,Y,Y,Y,Y,Y,Y,Y,Y,Y,Y,Y,Y,Y,Z] rfl rfl (any_of HT_.out (by kernel_rfl)) (fun _ _ _ h => h) (Or.inr ⟨by rfl,rfl⟩) ?_ ?_
        rotate_left
        · simp only [aP,lT,lZ,lS,i64_w,i32_w]
          rfl
        refine pure_ (i:=23) (N:=some 42) (v:=?_) (a':=?_) #[Y,Y,Y,Y,Y,Y,Y,Y,Y,Y,Y,Y,Y,Y,Y,Y,Y,Y,Y,Y,Y,Y,Y,Y] rfl rfl (any_of HT_.out (by kernel_rfl)) (fun _ _ _ h => h) (Or.inl ⟨by rfl,?_⟩) ?_ ?_
        rotate_left;(intro w';go_simp;with_reducible rfl);rotate_left;(simp only [aP,lT,lZ,lS,i64_w,i32_w];rfl)
        refine done_ (done_of HT_.out (by kernel_rfl)) ?_
        try go_wp2
        go_meet
        case rel => exact ⟨_,(true),(by first|rfl|(simp;done)|(simp [*];done)),H',⟨by first|omega|exact Nat.le_refl _⟩,⟨by (with_reducible repeat (first|refine bN ?_ _|refine bD ?_|refine bA ?_ _));exact BK342.out⟩,⟨by repeat (first|(with_reducible first|exact HB.out|apply wA|apply wN|apply wD|refine wS ?_ GE342.out)|exact HB.out)⟩⟩
      · rw [if_neg c12] at H
        have c12b0 : (!(t346 == t348) || (!(t347 == t349))) = false:=by simpa using c12
        clear c12
        (first|rw [c12b0]|(simp only [i64_w,i32_w];rw [c12b0])|skip)
        replace H:=Option.bind_eq_some_iff.mp H;obtain ⟨⟨t350,t351⟩,A170,H⟩:=H
        replace H : ((wide_Shr.f t350 t351 (Go.bits .and .i64 a2 255)).bind fun bt352 => ((wide_Shr.f a0_0 a0_1 (wrap64 ((Go.bits .and .i64 a1 255) + (Go.bits .and .i64 a2 255)))).bind fun bt354 => (vernierlaw01_WideJams.j0 k (Go.bits .and .i64 a2 255) (!(bt352.1 == bt354.1) || (!(bt352.2 == bt354.2))) a0_0 a0_1))) = some r:=H
        have A17:=A0.mk A170;clear A170;replace H:=Option.bind_eq_some_iff.mp H;obtain ⟨⟨t352,t353⟩,A180,H⟩:=H
        replace H : ((wide_Shr.f a0_0 a0_1 (wrap64 ((Go.bits .and .i64 a1 255) + (Go.bits .and .i64 a2 255)))).bind fun bt354 => (vernierlaw01_WideJams.j0 k (Go.bits .and .i64 a2 255) (!(t352 == bt354.1) || (!(t353 == bt354.2))) a0_0 a0_1)) = some r:=H
        have A18:=A0.mk A180;clear A180;replace H:=Option.bind_eq_some_iff.mp H;obtain ⟨⟨t354,t355⟩,A190,H⟩:=H
        replace H : (vernierlaw01_WideJams.j0 k (Go.bits .and .i64 a2 255) (!(t352 == t354) || (!(t353 == t355))) a0_0 a0_1) = some r:=H
        have A19:=A0.mk A190;clear A190
        have H':=A0.mk H
        clear H
        try go_wp2
        have n0_:=A0.mk (bD BK342.out);have n1_:=A0.mk (wD HB.out);clear BK342;clear HB;have BK342:=n0_;have HB:=n1_;clear n0_ n1_
        refine start_ (n:=24) (S:=fun w' => w'.cell? ⟨gb342,0,none⟩ = some (.int .u64 a0_0)∧w'.cell? ⟨gb342,1,none⟩ = some (.int .u64 a0_1)) (ds:=[]) #[Z,Z,Z,Z,Z,Z,Z,Z,Z,Z,Z,Z,Z,Z,Z,Z,Z,Z,Z,Z,Z,Z,Z,Z] (by kernel_rfl) rfl rfl ⟨(bC BK342.out 0).trans rfl,(bC BK342.out 1).trans rfl⟩ (fun hHeld => ?_);refine with_tabW vernierlaw01_WideJams.tab4 vernierlaw01_WideJams.bits4 (fun HT_ HW_ => ?_)
        generalize w8.drew = w20 at BK342 HB hHeld ⊢
        refine pure_ (i:=1) (N:=some 20) (v:=?_) (a':=?_) #[Z,Y,Z,Z,Z,Z,Z,Z,Z,Z,Z,Z,Z,Z,Z,Z,Z,Z,Z,Z,Z,Z,Z,Z] rfl rfl (any_of HT_.out (by kernel_rfl)) (fun _ _ _ h => h) (Or.inl ⟨by rfl,?_⟩) ?_ ?_
        rotate_left;(intro w';go_simp;with_reducible rfl);rotate_left;(simp only [aP,lT,lZ,lS,i64_w,i32_w];rfl)
        refine pure_ (i:=3) (N:=some 22) (v:=?_) (a':=?_) #[Z,Y,Z,Y,Z,Z,Z,Z,Z,Z,Z,Z,Z,Z,Z,Z,Z,Z,Z,Z,Z,Z,Z,Z] rfl rfl (any_of HT_.out (by kernel_rfl)) (fun _ _ _ h => h) (Or.inl ⟨by rfl,?_⟩) ?_ ?_
        rotate_left;(intro w';go_simp;with_reducible rfl);rotate_left;(simp only [aP,lT,lZ,lS,i64_w,i32_w];rfl)
        refine pure_ (i:=6) (N:=some 25) (v:=?_) (a':=?_) #[Z,Y,Z,Y,Z,Z,Y,Z,Z,Z,Z,Z,Z,Z,Z,Z,Z,Z,Z,Z,Z,Z,Z,Z] rfl rfl (any_of HT_.out (by kernel_rfl)) (fun _ _ _ h => h) (Or.inl ⟨by rfl,?_⟩) ?_ ?_
        rotate_left;(intro w';go_simp;with_reducible rfl);rotate_left;(simp only [aP,lT,lZ,lS,i64_w,i32_w];rfl)
        refine pure_ (i:=7) (N:=some 26) (v:=?_) (a':=?_) #[Z,Y,Z,Y,Z,Z,Y,Y,Z,Z,Z,Z,Z,Z,Z,Z,Z,Z,Z,Z,Z,Z,Z,Z] rfl rfl (any_of HT_.out (by kernel_rfl)) (fun _ _ _ h => h) (Or.inl ⟨by rfl,?_⟩) ?_ ?_
        rotate_left;(intro w';go_simp;with_reducible rfl);rotate_left;(simp only [aP,lT,lZ,lS,i64_w,i32_w];rfl)
        refine pure_ (i:=8) (N:=some 27) (v:=?_) (a':=?_) #[Z,Y,Z,Y,Z,Z,Y,Y,Y,Z,Z,Z,Z,Z,Z,Z,Z,Z,Z,Z,Z,Z,Z,Z] rfl rfl (any_of HT_.out (by kernel_rfl)) (fun _ _ _ h => h) (Or.inl ⟨by rfl,?_⟩) ?_ ?_
        rotate_left;(intro w';go_simp;with_reducible rfl);rotate_left;(simp only [aP,lT,lZ,lS,i64_w,i32_w];rfl)
        refine take_ (i:=0) (N:=some 19) (v:=?_) (a':=?_) #[Y,Y,Z,Y,Z,Z,Y,Y,Y,Z,Z,Z,Z,Z,Z,Z,Z,Z,Z,Z,Z,Z,Z,Z] rfl rfl (take_ofW HT_.out HW_.out (by kernel_rfl)) (fun _ _ _ h => h) (Or.inl ⟨by rfl,?_⟩) hHeld ?_ ?_
        rotate_left;(rintro w' ⟨s0,s1⟩;go_simp;with_reducible rfl);rotate_left;(simp only [aP,lT,lZ,lS,i64_w,i32_w];rfl)
        refine take_ (i:=5) (N:=some 24) (v:=?_) (a':=?_) #[Y,Y,Z,Y,Z,Y,Y,Y,Y,Z,Z,Z,Z,Z,Z,Z,Z,Z,Z,Z,Z,Z,Z,Z] rfl rfl (take_ofW HT_.out HW_.out (by kernel_rfl)) (fun _ _ _ h => h) (Or.inl ⟨by rfl,?_⟩) hHeld ?_ ?_
        rotate_left;(rintro w' ⟨s0,s1⟩;go_simp;with_reducible rfl);rotate_left;(simp only [aP,lT,lZ,lS,i64_w,i32_w];rfl)
        refine one_ (i:=2) (N:=some 21) #[Y,Y,Y,Y,Z,Y,Y,Y,Y,Z,Z,Z,Z,Z,Z,Z,Z,Z,Z,Z,Z,Z,Z,Z] rfl rfl (one_of HT_.out (by kernel_rfl)) (by decide) (fun K hK => ?_)
        refine goes_ Try.func29 (by kernel_rfl) rfl #[.agg #[.int .u64 a0_0,.int .u64 a0_1],.int .i64 (Go.bits .and .i64 a1 255)] (by rfl) rfl rfl (by (try simp only [mT,mC,mN]);first|done|rfl|(simp only [lD,lK];rfl)) ?_
        with_reducible refine (wide_Jam.calls a0_0 a0_1 (Go.bits .and .i64 a1 255) t344 t345 _ A9.out).mono ?_
        rintro e w21 ⟨rfl,hb⟩;refine ⟨_,rfl,?_⟩;have n0_:=A0.mk (bB (g:=gb342) (o:=.cells #[.int .u64 a0_0,.int .u64 a0_1] 24 (0,0)) (by (with_reducible repeat (first|refine bN ?_ _|refine bD ?_|refine bA ?_ _));exact BK342.out) hb);have n1_:=A0.mk (wT (by repeat (first|(with_reducible first|exact HB.out|apply wA|apply wN|apply wD|refine wS ?_ GE342.out)|exact HB.out)) hb);clear BK342;clear HB;have BK342:=n0_;have HB:=n1_;clear n0_ n1_;(try clear hb);(try clear hb2);(try clear hk);(try clear hi)
        refine hK.out _ _ ⟨(bC BK342.out 0).trans rfl,(bC BK342.out 1).trans rfl⟩ (fun hHeld => ?_)
        clear hK K
        refine norm_ (a':=?_) ?_ ?_
        rotate_left;(show Act.put _ (some 21) _ = _;simp only [aP,lT,lZ,lS,i64_w,i32_w];rfl)
        refine one_ (i:=4) (N:=some 23) #[Y,Y,Y,Y,Y,Y,Y,Y,Y,Z,Z,Z,Z,Z,Z,Z,Z,Z,Z,Z,Z,Z,Z,Z] rfl rfl (one_of HT_.out (by kernel_rfl)) (by decide) (fun K hK => ?_)
        refine goes_ Try.func29 (by kernel_rfl) rfl #[.agg #[.int .u64 t344,.int .u64 t345],.int .i64 (Go.bits .and .i64 a2 255)] (by rfl) rfl rfl (by (try simp only [mT,mC,mN]);first|done|rfl|(simp only [lD,lK];rfl)) ?_
        with_reducible refine (wide_Jam.calls t344 t345 (Go.bits .and .i64 a2 255) t346 t347 _ A10.out).mono ?_
        rintro e w22 ⟨rfl,hb⟩;refine ⟨_,rfl,?_⟩;have n0_:=A0.mk (bB (g:=gb342) (o:=.cells #[.int .u64 a0_0,.int .u64 a0_1] 24 (0,0)) (by (with_reducible repeat (first|refine bN ?_ _|refine bD ?_|refine bA ?_ _));exact BK342.out) hb);have n1_:=A0.mk (wT (by repeat (first|(with_reducible first|exact HB.out|apply wA|apply wN|apply wD|refine wS ?_ GE342.out)|exact HB.out)) hb);clear BK342;clear HB;have BK342:=n0_;have HB:=n1_;clear n0_ n1_;(try clear hb);(try clear hb2);(try clear hk);(try clear hi)
        refine hK.out _ _ ⟨(bC BK342.out 0).trans rfl,(bC BK342.out 1).trans rfl⟩ (fun hHeld => ?_)
        clear hK K
        refine norm_ (a':=?_) ?_ ?_
        rotate_left;(show Act.put _ (some 23) _ = _;simp only [aP,lT,lZ,lS,i64_w,i32_w];rfl)
        refine one_ (i:=9) (N:=some 28) #[Y,Y,Y,Y,Y,Y,Y,Y,Y,Y,Z,Z,Z,Z,Z,Z,Z,Z,Z,Z,Z,Z,Z,Z] rfl rfl (one_of HT_.out (by kernel_rfl)) (by decide) (fun K hK => ?_)
        refine goes_ Try.func29 (by kernel_rfl) rfl #[.agg #[.int .u64 a0_0,.int .u64 a0_1],.int .i64 (wrap64 ((Go.bits .and .i64 a1 255) + (Go.bits .and .i64 a2 255)))] (by rfl) rfl rfl (by (try simp only [mT,mC,mN]);first|done|rfl|(simp only [lD,lK];rfl)) ?_
        with_reducible refine (wide_Jam.calls a0_0 a0_1 (wrap64 ((Go.bits .and .i64 a1 255) + (Go.bits .and .i64 a2 255))) t348 t349 _ A11.out).mono ?_
        rintro e w23 ⟨rfl,hb⟩;refine ⟨_,rfl,?_⟩;have n0_:=A0.mk (bB (g:=gb342) (o:=.cells #[.int .u64 a0_0,.int .u64 a0_1] 24 (0,0)) (by (with_reducible repeat (first|refine bN ?_ _|refine bD ?_|refine bA ?_ _));exact BK342.out) hb);have n1_:=A0.mk (wT (by repeat (first|(with_reducible first|exact HB.out|apply wA|apply wN|apply wD|refine wS ?_ GE342.out)|exact HB.out)) hb);clear BK342;clear HB;have BK342:=n0_;have HB:=n1_;clear n0_ n1_;(try clear hb);(try clear hb2);(try clear hk);(try clear hi)
        refine hK.out _ _ ⟨(bC BK342.out 0).trans rfl,(bC BK342.out 1).trans rfl⟩ (fun hHeld => ?_)
        clear hK K
        refine norm_ (a':=?_) ?_ ?_
        rotate_left;(show Act.put _ (some 28) _ = _;simp only [aP,lT,lZ,lS,i64_w,i32_w];rfl)
        refine pure_ (i:=10) (N:=some 29) (v:=?_) (a':=?_) #[Y,Y,Y,Y,Y,Y,Y,Y,Y,Y,Y,Z,Z,Z,Z,Z,Z,Z,Z,Z,Z,Z,Z,Z] rfl rfl (any_of HT_.out (by kernel_rfl)) (fun _ _ _ h => h) (Or.inl ⟨by rfl,?_⟩) ?_ ?_
        rotate_left;(intro w';go_simp;with_reducible rfl);rotate_left;(simp only [aP,lT,lZ,lS,i64_w,i32_w];rfl)
        refine pure_ (i:=11) (N:=some 30) (v:=?_) (a':=?_) #[Y,Y,Y,Y,Y,Y,Y,Y,Y,Y,Y,Y,Z,Z,Z,Z,Z,Z,Z,Z,Z,Z,Z,Z] rfl rfl (any_of HT_.out (by kernel_rfl)) (fun _ _ _ h => h) (Or.inl ⟨by rfl,?_⟩) ?_ ?_
        rotate_left;(intro w';go_simp;with_reducible rfl);rotate_left;(simp only [aP,lT,lZ,lS,i64_w,i32_w];rfl)
        refine pure_ (i:=13) (N:=some 32) (v:=?_) (a':=?_) #[Y,Y,Y,Y,Y,Y,Y,Y,Y,Y,Y,Y,Z,Y,Z,Z,Z,Z,Z,Z,Z,Z,Z,Z] rfl rfl (any_of HT_.out (by kernel_rfl)) (fun _ _ _ h => h) (Or.inl ⟨by rfl,?_⟩) ?_ ?_
        rotate_left;(intro w';go_simp;with_reducible rfl);rotate_left;(simp only [aP,lT,lZ,lS,i64_w,i32_w];rfl)
        refine pure_ (i:=15) (N:=some 34) (v:=?_) (a':=?_) #[Y,Y,Y,Y,Y,Y,Y,Y,Y,Y,Y,Y,Z,Y,Z,Y,Z,Z,Z,Z,Z,Z,Z,Z] rfl rfl (any_of HT_.out (by kernel_rfl)) (fun _ _ _ h => h) (Or.inl ⟨by rfl,?_⟩) ?_ ?_
        rotate_left;(intro w';go_simp;with_reducible rfl);rotate_left;(simp only [aP,lT,lZ,lS,i64_w,i32_w];rfl)
        refine pure_ (i:=18) (N:=some 37) (v:=?_) (a':=?_) #[Y,Y,Y,Y,Y,Y,Y,Y,Y,Y,Y,Y,Z,Y,Z,Y,Z,Z,Y,Z,Z,Z,Z,Z] rfl rfl (any_of HT_.out (by kernel_rfl)) (fun _ _ _ h => h) (Or.inl ⟨by rfl,?_⟩) ?_ ?_
        rotate_left;(intro w';go_simp;with_reducible rfl);rotate_left;(simp only [aP,lT,lZ,lS,i64_w,i32_w];rfl)
        refine pure_ (i:=19) (N:=some 38) (v:=?_) (a':=?_) #[Y,Y,Y,Y,Y,Y,Y,Y,Y,Y,Y,Y,Z,Y,Z,Y,Z,Z,Y,Y,Z,Z,Z,Z] rfl rfl (any_of HT_.out (by kernel_rfl)) (fun _ _ _ h => h) (Or.inl ⟨by rfl,?_⟩) ?_ ?_
        rotate_left;(intro w';go_simp;with_reducible rfl);rotate_left;(simp only [aP,lT,lZ,lS,i64_w,i32_w];rfl)
        refine pure_ (i:=20) (N:=some 39) (v:=?_) (a':=?_) #[Y,Y,Y,Y,Y,Y,Y,Y,Y,Y,Y,Y,Z,Y,Z,Y,Z,Z,Y,Y,Y,Z,Z,Z] rfl rfl (any_of HT_.out (by kernel_rfl)) (fun _ _ _ h => h) (Or.inl ⟨by rfl,?_⟩) ?_ ?_
        rotate_left;(intro w';go_simp;with_reducible rfl);rotate_left;(simp only [aP,lT,lZ,lS,i64_w,i32_w];rfl)
        refine take_ (i:=12) (N:=some 31) (v:=?_) (a':=?_) #[Y,Y,Y,Y,Y,Y,Y,Y,Y,Y,Y,Y,Y,Y,Z,Y,Z,Z,Y,Y,Y,Z,Z,Z] rfl rfl (take_ofW HT_.out HW_.out (by kernel_rfl)) (fun _ _ _ h => h) (Or.inl ⟨by rfl,?_⟩) hHeld ?_ ?_
        rotate_left;(rintro w' ⟨s0,s1⟩;go_simp;with_reducible rfl);rotate_left;(simp only [aP,lT,lZ,lS,i64_w,i32_w];rfl)
        refine take_ (i:=17) (N:=some 36) (v:=?_) (a':=?_) #[Y,Y,Y,Y,Y,Y,Y,Y,Y,Y,Y,Y,Y,Y,Z,Y,Z,Y,Y,Y,Y,Z,Z,Z] rfl rfl (take_ofW HT_.out HW_.out (by kernel_rfl)) (fun _ _ _ h => h) (Or.inl ⟨by rfl,?_⟩) hHeld ?_ ?_
        rotate_left;(rintro w' ⟨s0,s1⟩;go_simp;with_reducible rfl);rotate_left;(simp only [aP,lT,lZ,lS,i64_w,i32_w];rfl)
        refine one_ (i:=14) (N:=some 33) #[Y,Y,Y,Y,Y,Y,Y,Y,Y,Y,Y,Y,Y,Y,Y,Y,Z,Y,Y,Y,Y,Z,Z,Z] rfl rfl (one_of HT_.out (by kernel_rfl)) (by decide) (fun K hK => ?_)
        refine goes_ Try.func27 (by kernel_rfl) rfl #[.agg #[.int .u64 a0_0,.int .u64 a0_1],.int .i64 (Go.bits .and .i64 a1 255)] (by rfl) rfl rfl (by (try simp only [mT,mC,mN]);first|done|rfl|(simp only [lD,lK];rfl)) ?_
        with_reducible refine (wide_Shr.calls a0_0 a0_1 (Go.bits .and .i64 a1 255) t350 t351 _ A17.out).mono ?_
        rintro e w24 ⟨rfl,hb⟩;refine ⟨_,rfl,?_⟩;have n0_:=A0.mk (bB (g:=gb342) (o:=.cells #[.int .u64 a0_0,.int .u64 a0_1] 24 (0,0)) (by (with_reducible repeat (first|refine bN ?_ _|refine bD ?_|refine bA ?_ _));exact BK342.out) hb);have n1_:=A0.mk (wT (by repeat (first|(with_reducible first|exact HB.out|apply wA|apply wN|apply wD|refine wS ?_ GE342.out)|exact HB.out)) hb);clear BK342;clear HB;have BK342:=n0_;have HB:=n1_;clear n0_ n1_;(try clear hb);(try clear hb2);(try clear hk);(try clear hi)
        refine hK.out _ _ ⟨(bC BK342.out 0).trans rfl,(bC BK342.out 1).trans rfl⟩ (fun hHeld => ?_)
        clear hK K
        refine norm_ (a':=?_) ?_ ?_
        rotate_left;(show Act.put _ (some 33) _ = _;simp only [aP,lT,lZ,lS,i64_w,i32_w];rfl)
        refine one_ (i:=16) (N:=some 35) #[Y,Y,Y,Y,Y,Y,Y,Y,Y,Y,Y,Y,Y,Y,Y,Y,Y,Y,Y,Y,Y,Z,Z,Z] rfl rfl (one_of HT_.out (by kernel_rfl)) (by decide) (fun K hK => ?_)
        refine goes_ Try.func27 (by kernel_rfl) rfl #[.agg #[.int .u64 t350,.int .u64 t351],.int .i64 (Go.bits .and .i64 a2 255)] (by rfl) rfl rfl (by (try simp only [mT,mC,mN]);first|done|rfl|(simp only [lD,lK];rfl)) ?_
        with_reducible refine (wide_Shr.calls t350 t351 (Go.bits .and .i64 a2 255) t352 t353 _ A18.out).mono ?_
        rintro e w25 ⟨rfl,hb⟩;refine ⟨_,rfl,?_⟩;have n0_:=A0.mk (bB (g:=gb342) (o:=.cells #[.int .u64 a0_0,.int .u64 a0_1] 24 (0,0)) (by (with_reducible repeat (first|refine bN ?_ _|refine bD ?_|refine bA ?_ _));exact BK342.out) hb);have n1_:=A0.mk (wT (by repeat (first|(with_reducible first|exact HB.out|apply wA|apply wN|apply wD|refine wS ?_ GE342.out)|exact HB.out)) hb);clear BK342;clear HB;have BK342:=n0_;have HB:=n1_;clear n0_ n1_;(try clear hb);(try clear hb2);(try clear hk);(try clear hi)
        refine hK.out _ _ ⟨(bC BK342.out 0).trans rfl,(bC BK342.out 1).trans rfl⟩ (fun hHeld => ?_)
        clear hK K
        refine norm_ (a':=?_) ?_ ?_
        rotate_left;(show Act.put _ (some 35) _ = _;simp only [aP,lT,lZ,lS,i64_w,i32_w];rfl)
        refine one_ (i:=21) (N:=some 40) #[Y,Y,Y,Y,Y,Y,Y,Y,Y,Y,Y,Y,Y,Y,Y,Y,Y,Y,Y,Y,Y,Y,Z,Z] rfl rfl (one_of HT_.out (by kernel_rfl)) (by decide) (fun K hK => ?_)
        refine goes_ Try.func27 (by kernel_rfl) rfl #[.agg #[.int .u64 a0_0,.int .u64 a0_1],.int .i64 (wrap64 ((Go.bits .and .i64 a1 255) + (Go.bits .and .i64 a2 255)))] (by rfl) rfl rfl (by (try simp only [mT,mC,mN]);first|done|rfl|(simp only [lD,lK];rfl)) ?_
        with_reducible refine (wide_Shr.calls a0_0 a0_1 (wrap64 ((Go.bits .and .i64 a1 255) + (Go.bits .and .i64 a2 255))) t354 t355 _ A19.out).mono ?_
        rintro e w26 ⟨rfl,hb⟩;refine ⟨_,rfl,?_⟩;have n0_:=A0.mk (bB (g:=gb342) (o:=.cells #[.int .u64 a0_0,.int .u64 a0_1] 24 (0,0)) (by (with_reducible repeat (first|refine bN ?_ _|refine bD ?_|refine bA ?_ _));exact BK342.out) hb);have n1_:=A0.mk (wT (by repeat (first|(with_reducible first|exact HB.out|apply wA|apply wN|apply wD|refine wS ?_ GE342.out)|exact HB.out)) hb);clear BK342;clear HB;have BK342:=n0_;have HB:=n1_;clear n0_ n1_;(try clear hb);(try clear hb2);(try clear hk);(try clear hi)
        refine hK.out _ _ ⟨(bC BK342.out 0).trans rfl,(bC BK342.out 1).trans rfl⟩ (fun hHeld => ?_)
        clear hK K
        refine norm_ (a':=?_) ?_ ?_
        rotate_left;(show Act.put _ (some 40) _ = _;simp only [aP,lT,lZ,lS,i64_w,i32_w];rfl)
        refine pure_ (i:=22) (N:=some 41) (v:=?_) (a':=?_) #[Y,Y,Y,Y,Y,Y,Y,Y,Y,Y,Y,Y,Y,Y,Y,Y,Y,Y,Y,Y,Y,Y,Y,Z] rfl rfl (any_of HT_.out (by kernel_rfl)) (fun _ _ _ h => h) (Or.inl ⟨by rfl,?_⟩) ?_ ?_
        rotate_left;(intro w';go_simp;with_reducible rfl);rotate_left;(simp only [aP,lT,lZ,lS,i64_w,i32_w];rfl)
        refine pure_ (i:=23) (N:=some 42) (v:=?_) (a':=?_) #[Y,Y,Y,Y,Y,Y,Y,Y,Y,Y,Y,Y,Y,Y,Y,Y,Y,Y,Y,Y,Y,Y,Y,Y] rfl rfl (any_of HT_.out (by kernel_rfl)) (fun _ _ _ h => h) (Or.inl ⟨by rfl,?_⟩) ?_ ?_
        rotate_left;(intro w';go_simp;with_reducible rfl);rotate_left;(simp only [aP,lT,lZ,lS,i64_w,i32_w];rfl)
        refine done_ (done_of HT_.out (by kernel_rfl)) ?_
        try go_wp2
        go_meet
        case rel => exact ⟨_,((!(t352 == t354) || (!(t353 == t355)))),(by first|rfl|(simp;done)|(simp [*];done)),H',⟨by first|omega|exact Nat.le_refl _⟩,⟨by (with_reducible repeat (first|refine bN ?_ _|refine bD ?_|refine bA ?_ _));exact BK342.out⟩,⟨by repeat (first|(with_reducible first|exact HB.out|apply wA|apply wN|apply wD|refine wS ?_ GE342.out)|exact HB.out)⟩⟩
    case rest =>
      clear HC6
      try clear c1
      try clear c2
      try clear p2
      try clear c5
      try clear p6
      try clear c8
      try clear c12
      try clear c12b0
      try clear c14
      obtain ⟨kq,x42_5,rfl,HA,HJ5,BK342,HB⟩:=hcut
      cases kq with
      | zero => exact absurd HA.out (by simp [vernierlaw01_WideJams.j0])
      | succ kj5 =>
        have H:=HA.out
        clear HA
        simp only [vernierlaw01_WideJams.j0] at H
        by_cases c27 : x42_5 = true
        · subst c27
          have H1 : (none) = some r:=by rw [if_pos rfl] at H;exact H
          clear H;have H:=H1;clear H1
          exact absurd H (by simp)
        · replace c27:=Bool.eq_false_iff.mpr c27
          subst c27
          have H1 : ((wide_Shr.f a0_0 a0_1 (Go.bits .and .i64 a2 255)).bind fun bt356 => ((wide_Jam.f a0_0 a0_1 (Go.bits .and .i64 a2 255)).bind fun bt358 => ((wide_Shl.f bt356.1 bt356.2 (Go.bits .and .i64 a2 255)).bind fun bt362 => (if (Go.bits .and .i64 a2 255) ≥ 128 then (vernierlaw01_WideJams.j1 kj5 (Go.bits .and .i64 a2 255) (!(a0_0 == 0) || (!(a0_1 == 0))) a0_0 a0_1 bt356.1 bt356.2 bt358.1 bt358.2) else (vernierlaw01_WideJams.j1 kj5 (Go.bits .and .i64 a2 255) (!(bt362.1 == a0_0) || (!(bt362.2 == a0_1))) a0_0 a0_1 bt356.1 bt356.2 bt358.1 bt358.2))))) = some r:=by rw [if_neg (show ¬ (false = true) by decide)] at H;exact H
          clear H;have H:=H1;clear H1;replace H:=Option.bind_eq_some_iff.mp H;obtain ⟨⟨t356,t357⟩,A280,H⟩:=H
          replace H : ((wide_Jam.f a0_0 a0_1 (Go.bits .and .i64 a2 255)).bind fun bt358 => ((wide_Shl.f t356 t357 (Go.bits .and .i64 a2 255)).bind fun bt362 => (if (Go.bits .and .i64 a2 255) ≥ 128 then (vernierlaw01_WideJams.j1 kj5 (Go.bits .and .i64 a2 255) (!(a0_0 == 0) || (!(a0_1 == 0))) a0_0 a0_1 t356 t357 bt358.1 bt358.2) else (vernierlaw01_WideJams.j1 kj5 (Go.bits .and .i64 a2 255) (!(bt362.1 == a0_0) || (!(bt362.2 == a0_1))) a0_0 a0_1 t356 t357 bt358.1 bt358.2)))) = some r:=H
          have A28:=A0.mk A280;clear A280;replace H:=Option.bind_eq_some_iff.mp H;obtain ⟨⟨t358,t359⟩,A290,H⟩:=H
          replace H : ((wide_Shl.f t356 t357 (Go.bits .and .i64 a2 255)).bind fun bt362 => (if (Go.bits .and .i64 a2 255) ≥ 128 then (vernierlaw01_WideJams.j1 kj5 (Go.bits .and .i64 a2 255) (!(a0_0 == 0) || (!(a0_1 == 0))) a0_0 a0_1 t356 t357 t358 t359) else (vernierlaw01_WideJams.j1 kj5 (Go.bits .and .i64 a2 255) (!(bt362.1 == a0_0) || (!(bt362.2 == a0_1))) a0_0 a0_1 t356 t357 t358 t359))) = some r:=H
          have A29:=A0.mk A290;clear A290;replace H:=Option.bind_eq_some_iff.mp H;obtain ⟨⟨t362,t363⟩,A300,H⟩:=H
          replace H : (if (Go.bits .and .i64 a2 255) ≥ 128 then (vernierlaw01_WideJams.j1 kj5 (Go.bits .and .i64 a2 255) (!(a0_0 == 0) || (!(a0_1 == 0))) a0_0 a0_1 t356 t357 t358 t359) else (vernierlaw01_WideJams.j1 kj5 (Go.bits .and .i64 a2 255) (!(t362 == a0_0) || (!(t363 == a0_1))) a0_0 a0_1 t356 t357 t358 t359)) = some r:=H
          have A30:=A0.mk A300;clear A300;have HC31:=A0.mk H;clear H
          try go_wp2
          have n0_:=A0.mk (bD BK342.out);have n1_:=A0.mk (wD HB.out);clear BK342;clear HB;have BK342:=n0_;have HB:=n1_;clear n0_ n1_
          refine start_ (n:=10) (S:=fun w' => w'.cell? ⟨gb342,0,none⟩ = some (.int .u64 a0_0)∧w'.cell? ⟨gb342,1,none⟩ = some (.int .u64 a0_1)) (ds:=[]) #[Z,Z,Z,Z,Z,Z,Z,Z,Z,Z] (by kernel_rfl) rfl rfl ⟨(bC BK342.out 0).trans rfl,(bC BK342.out 1).trans rfl⟩ (fun hHeld => ?_);refine with_tabW vernierlaw01_WideJams.tab6 vernierlaw01_WideJams.bits6 (fun HT_ HW_ => ?_)
          generalize wc.drew = w32 at BK342 HB hHeld ⊢
          refine pure_ (i:=1) (N:=some 44) (v:=?_) (a':=?_) #[Z,Y,Z,Z,Z,Z,Z,Z,Z,Z] rfl rfl (any_of HT_.out (by kernel_rfl)) (fun _ _ _ h => h) (Or.inl ⟨by rfl,?_⟩) ?_ ?_
          rotate_left;(intro w';go_simp;with_reducible rfl);rotate_left;(simp only [aP,lT,lZ,lS,i64_w,i32_w];rfl)
          refine pure_ (i:=4) (N:=some 47) (v:=?_) (a':=?_) #[Z,Y,Z,Z,Y,Z,Z,Z,Z,Z] rfl rfl (any_of HT_.out (by kernel_rfl)) (fun _ _ _ h => h) (Or.inl ⟨by rfl,?_⟩) ?_ ?_
          rotate_left;(intro w';go_simp;with_reducible rfl);rotate_left;(simp only [aP,lT,lZ,lS,i64_w,i32_w];rfl)
          refine take_ (i:=0) (N:=some 43) (v:=?_) (a':=?_) #[Y,Y,Z,Z,Y,Z,Z,Z,Z,Z] rfl rfl (take_ofW HT_.out HW_.out (by kernel_rfl)) (fun _ _ _ h => h) (Or.inl ⟨by rfl,?_⟩) hHeld ?_ ?_
          rotate_left;(rintro w' ⟨s0,s1⟩;go_simp;with_reducible rfl);rotate_left;(simp only [aP,lT,lZ,lS,i64_w,i32_w];rfl)
          refine take_ (i:=3) (N:=some 46) (v:=?_) (a':=?_) #[Y,Y,Z,Y,Y,Z,Z,Z,Z,Z] rfl rfl (take_ofW HT_.out HW_.out (by kernel_rfl)) (fun _ _ _ h => h) (Or.inl ⟨by rfl,?_⟩) hHeld ?_ ?_
          rotate_left;(rintro w' ⟨s0,s1⟩;go_simp;with_reducible rfl);rotate_left;(simp only [aP,lT,lZ,lS,i64_w,i32_w];rfl)
          refine join_ (σ:=Nat × Nat) 2 #[Y,Y,Y,Y,Y,Y,Y,Y,Z,Z] (fun s_ => [(45,.agg #[.int .u64 t356,.int .u64 t357]),(48,.agg #[.int .u64 t358,.int .u64 t359]),(7,.pointer (some ⟨s_.1,0,none⟩)),(8,.pointer (some ⟨s_.2,0,none⟩))]) (fun s_ w' => (w'.cell? ⟨gb342,0,none⟩ = some (.int .u64 a0_0)∧w'.cell? ⟨gb342,1,none⟩ = some (.int .u64 a0_1))∧(w'.heap[gb342]? = some (.cells #[.int .u64 a0_0,.int .u64 a0_1] 24 (0,0)))∧(w'.heap[s_.1]? = some (.cells #[.int .u64 0,.int .u64 0] 24 (0,0)))∧(w'.heap[s_.2]? = some (.cells #[.int .u64 0,.int .u64 0] 24 (0,0)))∧(w.heap.size ≤ s_.1)∧(w.heap.size ≤ s_.1)∧(gb342 ≠ s_.1)∧(s_.1 ≠ gb342)∧(s_.2 ≠ s_.1)∧(s_.1 ≠ s_.2)∧(w.heap.size ≤ s_.2)∧(w.heap.size ≤ s_.2)∧(gb342 ≠ s_.2)∧(s_.2 ≠ gb342)∧(Below w.heap.size w w')) ?_ ?_
          rotate_left
          · intro hJ2_5_6_7
            refine join_ (σ:=Nat) 3 #[Y,Y,Y,Y,Y,Y,Y,Z,Z,Z] (fun s_ => [(45,.agg #[.int .u64 t356,.int .u64 t357]),(48,.agg #[.int .u64 t358,.int .u64 t359]),(7,.pointer (some ⟨s_,0,none⟩))]) (fun s_ w' => (w'.cell? ⟨gb342,0,none⟩ = some (.int .u64 a0_0)∧w'.cell? ⟨gb342,1,none⟩ = some (.int .u64 a0_1))∧(w'.heap[gb342]? = some (.cells #[.int .u64 a0_0,.int .u64 a0_1] 24 (0,0)))∧(w'.heap[s_]? = some (.cells #[.int .u64 0,.int .u64 0] 24 (0,0)))∧(w.heap.size ≤ s_)∧(w.heap.size ≤ s_)∧(gb342 ≠ s_)∧(s_ ≠ gb342)∧(Below w.heap.size w w')) ?_ ?_
            rotate_left
            · intro hJ2_5_6
              refine join_ (σ:=Nat) 3 #[Y,Y,Y,Y,Y,Y,Z,Y,Z,Z] (fun s_ => [(45,.agg #[.int .u64 t356,.int .u64 t357]),(48,.agg #[.int .u64 t358,.int .u64 t359]),(8,.pointer (some ⟨s_,0,none⟩))]) (fun s_ w' => (w'.cell? ⟨gb342,0,none⟩ = some (.int .u64 a0_0)∧w'.cell? ⟨gb342,1,none⟩ = some (.int .u64 a0_1))∧(w'.heap[gb342]? = some (.cells #[.int .u64 a0_0,.int .u64 a0_1] 24 (0,0)))∧(w'.heap[s_]? = some (.cells #[.int .u64 0,.int .u64 0] 24 (0,0)))∧(w.heap.size ≤ s_)∧(w.heap.size ≤ s_)∧(gb342 ≠ s_)∧(s_ ≠ gb342)∧(Below w.heap.size w w')) ?_ ?_
              rotate_left
              · intro hJ2_5_7
                refine join_ (σ:=Nat × Nat) 3 #[Y,Y,Y,Y,Y,Z,Y,Y,Z,Z] (fun s_ => [(45,.agg #[.int .u64 t356,.int .u64 t357]),(7,.pointer (some ⟨s_.1,0,none⟩)),(8,.pointer (some ⟨s_.2,0,none⟩))]) (fun s_ w' => (w'.cell? ⟨gb342,0,none⟩ = some (.int .u64 a0_0)∧w'.cell? ⟨gb342,1,none⟩ = some (.int .u64 a0_1))∧(w'.heap[gb342]? = some (.cells #[.int .u64 a0_0,.int .u64 a0_1] 24 (0,0)))∧(w'.heap[s_.1]? = some (.cells #[.int .u64 0,.int .u64 0] 24 (0,0)))∧(w'.heap[s_.2]? = some (.cells #[.int .u64 0,.int .u64 0] 24 (0,0)))∧(w.heap.size ≤ s_.1)∧(w.heap.size ≤ s_.1)∧(gb342 ≠ s_.1)∧(s_.1 ≠ gb342)∧(s_.2 ≠ s_.1)∧(s_.1 ≠ s_.2)∧(w.heap.size ≤ s_.2)∧(w.heap.size ≤ s_.2)∧(gb342 ≠ s_.2)∧(s_.2 ≠ gb342)∧(Below w.heap.size w w')) ?_ ?_
                rotate_left
                · intro hJ2_6_7
                  refine join_ (σ:=Unit) 4 #[Y,Y,Y,Y,Y,Y,Z,Z,Z,Z] (fun s_ => [(45,.agg #[.int .u64 t356,.int .u64 t357]),(48,.agg #[.int .u64 t358,.int .u64 t359])]) (fun s_ w' => (w'.cell? ⟨gb342,0,none⟩ = some (.int .u64 a0_0)∧w'.cell? ⟨gb342,1,none⟩ = some (.int .u64 a0_1))∧(w'.heap[gb342]? = some (.cells #[.int .u64 a0_0,.int .u64 a0_1] 24 (0,0)))∧(Below w.heap.size w w')) ?_ ?_
                  rotate_left
                  · intro hJ2_5
                    refine join_ (σ:=Nat) 4 #[Y,Y,Y,Y,Y,Z,Y,Z,Z,Z] (fun s_ => [(45,.agg #[.int .u64 t356,.int .u64 t357]),(7,.pointer (some ⟨s_,0,none⟩))]) (fun s_ w' => (w'.cell? ⟨gb342,0,none⟩ = some (.int .u64 a0_0)∧w'.cell? ⟨gb342,1,none⟩ = some (.int .u64 a0_1))∧(w'.heap[gb342]? = some (.cells #[.int .u64 a0_0,.int .u64 a0_1] 24 (0,0)))∧(w'.heap[s_]? = some (.cells #[.int .u64 0,.int .u64 0] 24 (0,0)))∧(w.heap.size ≤ s_)∧(w.heap.size ≤ s_)∧(gb342 ≠ s_)∧(s_ ≠ gb342)∧(Below w.heap.size w w')) ?_ ?_
                    rotate_left
                    · intro hJ2_6
                      refine join_ (σ:=Nat) 4 #[Y,Y,Y,Y,Y,Z,Z,Y,Z,Z] (fun s_ => [(45,.agg #[.int .u64 t356,.int .u64 t357]),(8,.pointer (some ⟨s_,0,none⟩))]) (fun s_ w' => (w'.cell? ⟨gb342,0,none⟩ = some (.int .u64 a0_0)∧w'.cell? ⟨gb342,1,none⟩ = some (.int .u64 a0_1))∧(w'.heap[gb342]? = some (.cells #[.int .u64 a0_0,.int .u64 a0_1] 24 (0,0)))∧(w'.heap[s_]? = some (.cells #[.int .u64 0,.int .u64 0] 24 (0,0)))∧(w.heap.size ≤ s_)∧(w.heap.size ≤ s_)∧(gb342 ≠ s_)∧(s_ ≠ gb342)∧(Below w.heap.size w w')) ?_ ?_
                      rotate_left
                      · intro hJ2_7
                        refine join_ (σ:=Nat × Nat) 4 #[Y,Y,Z,Y,Y,Z,Y,Y,Z,Z] (fun s_ => [(7,.pointer (some ⟨s_.1,0,none⟩)),(8,.pointer (some ⟨s_.2,0,none⟩))]) (fun s_ w' => (w'.cell? ⟨gb342,0,none⟩ = some (.int .u64 a0_0)∧w'.cell? ⟨gb342,1,none⟩ = some (.int .u64 a0_1))∧(w'.heap[gb342]? = some (.cells #[.int .u64 a0_0,.int .u64 a0_1] 24 (0,0)))∧(w'.heap[s_.1]? = some (.cells #[.int .u64 0,.int .u64 0] 24 (0,0)))∧(w'.heap[s_.2]? = some (.cells #[.int .u64 0,.int .u64 0] 24 (0,0)))∧(w.heap.size ≤ s_.1)∧(w.heap.size ≤ s_.1)∧(gb342 ≠ s_.1)∧(s_.1 ≠ gb342)∧(s_.2 ≠ s_.1)∧(s_.1 ≠ s_.2)∧(w.heap.size ≤ s_.2)∧(w.heap.size ≤ s_.2)∧(gb342 ≠ s_.2)∧(s_.2 ≠ gb342)∧(Below w.heap.size w w')) ?_ ?_
                        rotate_left
                        · intro hJ6_7
                          refine join_ (σ:=Unit) 5 #[Y,Y,Y,Y,Y,Z,Z,Z,Z,Z] (fun s_ => [(45,.agg #[.int .u64 t356,.int .u64 t357])]) (fun s_ w' => (w'.cell? ⟨gb342,0,none⟩ = some (.int .u64 a0_0)∧w'.cell? ⟨gb342,1,none⟩ = some (.int .u64 a0_1))∧(w'.heap[gb342]? = some (.cells #[.int .u64 a0_0,.int .u64 a0_1] 24 (0,0)))∧(Below w.heap.size w w')) ?_ ?_
                          rotate_left
                          · intro hJ2
                            refine join_ (σ:=Nat) 5 #[Y,Y,Z,Y,Y,Z,Y,Z,Z,Z] (fun s_ => [(7,.pointer (some ⟨s_,0,none⟩))]) (fun s_ w' => (w'.cell? ⟨gb342,0,none⟩ = some (.int .u64 a0_0)∧w'.cell? ⟨gb342,1,none⟩ = some (.int .u64 a0_1))∧(w'.heap[gb342]? = some (.cells #[.int .u64 a0_0,.int .u64 a0_1] 24 (0,0)))∧(w'.heap[s_]? = some (.cells #[.int .u64 0,.int .u64 0] 24 (0,0)))∧(w.heap.size ≤ s_)∧(w.heap.size ≤ s_)∧(gb342 ≠ s_)∧(s_ ≠ gb342)∧(Below w.heap.size w w')) ?_ ?_
                            rotate_left
                            · intro hJ6
                              refine join_ (σ:=Nat) 5 #[Y,Y,Z,Y,Y,Z,Z,Y,Z,Z] (fun s_ => [(8,.pointer (some ⟨s_,0,none⟩))]) (fun s_ w' => (w'.cell? ⟨gb342,0,none⟩ = some (.int .u64 a0_0)∧w'.cell? ⟨gb342,1,none⟩ = some (.int .u64 a0_1))∧(w'.heap[gb342]? = some (.cells #[.int .u64 a0_0,.int .u64 a0_1] 24 (0,0)))∧(w'.heap[s_]? = some (.cells #[.int .u64 0,.int .u64 0] 24 (0,0)))∧(w.heap.size ≤ s_)∧(w.heap.size ≤ s_)∧(gb342 ≠ s_)∧(s_ ≠ gb342)∧(Below w.heap.size w w')) ?_ ?_
                              rotate_left
                              · intro hJ7
                                refine three_ (i:=2) (j:=6) (k:=7) (Ni:=some 45) (Nj:=some 7) (Nk:=some 8) #[Y,Y,Y,Y,Y,Z,Z,Z,Z,Z] #[Y,Y,Z,Y,Y,Z,Y,Z,Z,Z] #[Y,Y,Z,Y,Y,Z,Z,Y,Z,Z] rfl rfl rfl rfl rfl rfl (three_of HT_.out (by kernel_rfl)) (by decide) (by decide) (by decide) (fun K hK => ?_) (fun K hK => ?_) (fun K hK => ?_)
                                · skip
                                  refine goes_ Try.func27 (by kernel_rfl) rfl #[.agg #[.int .u64 a0_0,.int .u64 a0_1],.int .i64 (Go.bits .and .i64 a2 255)] (by rfl) rfl rfl (by (try simp only [mT,mC,mN]);first|done|rfl|(simp only [lD,lK];rfl)) ?_
                                  with_reducible refine (wide_Shr.calls a0_0 a0_1 (Go.bits .and .i64 a2 255) t356 t357 _ A28.out).mono ?_
                                  rintro e w33 ⟨rfl,hb⟩;refine ⟨_,rfl,?_⟩;have n0_:=A0.mk (bB (g:=gb342) (o:=.cells #[.int .u64 a0_0,.int .u64 a0_1] 24 (0,0)) (by (with_reducible repeat (first|refine bN ?_ _|refine bD ?_|refine bA ?_ _));exact BK342.out) hb);have n1_:=A0.mk (wT (by repeat (first|(with_reducible first|exact HB.out|apply wA|apply wN|apply wD|refine wS ?_ GE342.out)|exact HB.out)) hb);clear BK342;clear HB;have BK342:=n0_;have HB:=n1_;clear n0_ n1_;(try clear hb);(try clear hb2);(try clear hk);(try clear hi)
                                  refine hK.out _ _ ⟨(bC BK342.out 0).trans rfl,(bC BK342.out 1).trans rfl⟩ (fun hHeld => ?_)
                                  clear hK K
                                  refine norm_ (a':=?_) ?_ ?_
                                  rotate_left;(show Act.put _ (some 45) _ = _;simp only [aP,lT,lZ,lS,i64_w,i32_w];rfl)
                                  exact norm_ (by first|(simp only [putAll,aP,lT,lZ,lS];done)|(simp only [putAll,aP,lT,lZ,lS];rfl)) (hJ2 () _ ⟨hHeld,(by (with_reducible repeat (first|refine bN ?_ _|refine bD ?_|refine bA ?_ _));exact BK342.out),(by repeat (first|(with_reducible first|exact HB.out|apply wA|apply wN|apply wD|refine wS ?_ GE342.out)|exact HB.out))⟩)
                                · skip
                                  refine box_step ?hg (N:=7) ?hd (cs:=#[.int .u64 0,.int .u64 0]) (t:=24) ?hr ?_;(case hd => rfl);(case hg => rfl);(case hr => first|(go_simp;done)|(go_simp;rfl))
                                  intro gb360 hg w33 hbox hb
                                  have n0_:=A0.mk (bB (g:=gb342) (o:=.cells #[.int .u64 a0_0,.int .u64 a0_1] 24 (0,0)) (by (with_reducible repeat (first|refine bN ?_ _|refine bD ?_|refine bA ?_ _));exact BK342.out) hb);have n1_:=A0.mk (wT (by repeat (first|(with_reducible first|exact HB.out|apply wA|apply wN|apply wD|refine wS ?_ GE342.out)|exact HB.out)) hb);have n2_:=A0.mk (hbox);have n3_:=A0.mk ((by rw [hg];exact (wZ (by repeat (first|(with_reducible first|exact HB.out|apply wA|apply wN|apply wD|refine wS ?_ GE342.out)|exact HB.out))) : w.heap.size ≤ gb360));have n4_:=A0.mk ((by rw [hg];exact (wZ (by repeat (first|(with_reducible first|exact HB.out|apply wA|apply wN|apply wD|refine wS ?_ GE342.out)|exact HB.out))) : w.heap.size ≤ gb360));have n5_:=A0.mk ((by rw [hg];exact Nat.ne_of_lt (blk_lt (g:=gb342) (o:=.cells #[.int .u64 a0_0,.int .u64 a0_1] 24 (0,0)) (by (with_reducible repeat (first|refine bN ?_ _|refine bD ?_|refine bA ?_ _));exact BK342.out)) : gb342 ≠ gb360));have n6_:=A0.mk ((by rw [hg];exact Nat.ne_of_gt (blk_lt (g:=gb342) (o:=.cells #[.int .u64 a0_0,.int .u64 a0_1] 24 (0,0)) (by (with_reducible repeat (first|refine bN ?_ _|refine bD ?_|refine bA ?_ _));exact BK342.out)) : gb360 ≠ gb342));clear BK342;clear HB;have BK342:=n0_;have HB:=n1_;have BK360:=n2_;have GW360:=n3_;have GE360:=n4_;have NB342_360:=n5_;have NB360_342:=n6_;clear n0_ n1_ n2_ n3_ n4_ n5_ n6_;clear hb hbox hg
                                  refine hK.out _ _ ⟨(bC BK342.out 0).trans rfl,(bC BK342.out 1).trans rfl⟩ (fun hHeld => ?_)
                                  clear hK K
                                  refine norm_ (a':=?_) ?_ ?_
                                  rotate_left;(show Act.put _ (some 7) _ = _;simp only [aP,lT,lZ,lS,i64_w,i32_w];rfl)
                                  exact norm_ (by first|(simp only [putAll,aP,lT,lZ,lS];done)|(simp only [putAll,aP,lT,lZ,lS];rfl)) (hJ6 (gb360) _ ⟨hHeld,(by (with_reducible repeat (first|refine bN ?_ _|refine bD ?_|refine bA ?_ _));exact BK342.out),(by (with_reducible repeat (first|refine bN ?_ _|refine bD ?_|refine bA ?_ _));exact BK360.out),GW360.out,GE360.out,NB342_360.out,NB360_342.out,(by repeat (first|(with_reducible first|exact HB.out|apply wA|apply wN|apply wD|refine wS ?_ GE342.out|refine wS ?_ GE360.out)|exact HB.out))⟩)
                                · skip
                                  refine box_step ?hg (N:=8) ?hd (cs:=#[.int .u64 0,.int .u64 0]) (t:=24) ?hr ?_;(case hd => rfl);(case hg => rfl);(case hr => first|(go_simp;done)|(go_simp;rfl))
                                  intro gb361 hg w33 hbox hb
                                  have n0_:=A0.mk (bB (g:=gb342) (o:=.cells #[.int .u64 a0_0,.int .u64 a0_1] 24 (0,0)) (by (with_reducible repeat (first|refine bN ?_ _|refine bD ?_|refine bA ?_ _));exact BK342.out) hb);have n1_:=A0.mk (wT (by repeat (first|(with_reducible first|exact HB.out|apply wA|apply wN|apply wD|refine wS ?_ GE342.out)|exact HB.out)) hb);have n2_:=A0.mk (hbox);have n3_:=A0.mk ((by rw [hg];exact (wZ (by repeat (first|(with_reducible first|exact HB.out|apply wA|apply wN|apply wD|refine wS ?_ GE342.out)|exact HB.out))) : w.heap.size ≤ gb361));have n4_:=A0.mk ((by rw [hg];exact (wZ (by repeat (first|(with_reducible first|exact HB.out|apply wA|apply wN|apply wD|refine wS ?_ GE342.out)|exact HB.out))) : w.heap.size ≤ gb361));have n5_:=A0.mk ((by rw [hg];exact Nat.ne_of_lt (blk_lt (g:=gb342) (o:=.cells #[.int .u64 a0_0,.int .u64 a0_1] 24 (0,0)) (by (with_reducible repeat (first|refine bN ?_ _|refine bD ?_|refine bA ?_ _));exact BK342.out)) : gb342 ≠ gb361));have n6_:=A0.mk ((by rw [hg];exact Nat.ne_of_gt (blk_lt (g:=gb342) (o:=.cells #[.int .u64 a0_0,.int .u64 a0_1] 24 (0,0)) (by (with_reducible repeat (first|refine bN ?_ _|refine bD ?_|refine bA ?_ _));exact BK342.out)) : gb361 ≠ gb342));clear BK342;clear HB;have BK342:=n0_;have HB:=n1_;have BK361:=n2_;have GW361:=n3_;have GE361:=n4_;have NB342_361:=n5_;have NB361_342:=n6_;clear n0_ n1_ n2_ n3_ n4_ n5_ n6_;clear hb hbox hg
                                  refine hK.out _ _ ⟨(bC BK342.out 0).trans rfl,(bC BK342.out 1).trans rfl⟩ (fun hHeld => ?_)
                                  clear hK K
                                  refine norm_ (a':=?_) ?_ ?_
                                  rotate_left;(show Act.put _ (some 8) _ = _;simp only [aP,lT,lZ,lS,i64_w,i32_w];rfl)
                                  exact norm_ (by first|(simp only [putAll,aP,lT,lZ,lS];done)|(simp only [putAll,aP,lT,lZ,lS];rfl)) (hJ7 (gb361) _ ⟨hHeld,(by (with_reducible repeat (first|refine bN ?_ _|refine bD ?_|refine bA ?_ _));exact BK342.out),(by (with_reducible repeat (first|refine bN ?_ _|refine bD ?_|refine bA ?_ _));exact BK361.out),GW361.out,GE361.out,NB342_361.out,NB361_342.out,(by repeat (first|(with_reducible first|exact HB.out|apply wA|apply wN|apply wD|refine wS ?_ GE342.out|refine wS ?_ GE361.out)|exact HB.out))⟩)
                              · skip
                                rintro gb361 w34 ⟨hS_,h0_,h1_,h2_,h3_,h4_,h5_,h6_⟩
                                have n0_ : A0 (w34.heap[gb342]? = some (.cells #[.int .u64 a0_0,.int .u64 a0_1] 24 (0,0))):=⟨h0_⟩
                                have n1_ : A0 (w34.heap[gb361]? = some (.cells #[.int .u64 0,.int .u64 0] 24 (0,0))):=⟨h1_⟩
                                have n2_ : A0 (w.heap.size ≤ gb361):=⟨h2_⟩
                                have n3_ : A0 (w.heap.size ≤ gb361):=⟨h3_⟩
                                have n4_ : A0 (gb342 ≠ gb361):=⟨h4_⟩
                                have n5_ : A0 (gb361 ≠ gb342):=⟨h5_⟩
                                have n6_ : A0 (Below w.heap.size w w34):=⟨h6_⟩
                                clear BK342;clear HB;clear h0_ h1_ h2_ h3_ h4_ h5_ h6_;have BK342:=n0_;have BK361:=n1_;have GW361:=n2_;have GE361:=n3_;have NB342_361:=n4_;have NB361_342:=n5_;have HB:=n6_;clear n0_ n1_ n2_ n3_ n4_ n5_ n6_
                                have hHeld : w34.cell? ⟨gb342,0,none⟩ = some (.int .u64 a0_0)∧w34.cell? ⟨gb342,1,none⟩ = some (.int .u64 a0_1):=hS_
                                refine norm_ (a':=?_) ?_ ?_
                                rotate_left
                                · simp only [putAll,aP,lT,lZ,lS]
                                  rfl
                                refine two_ (i:=2) (j:=6) (Ni:=some 45) (Nj:=some 7) #[Y,Y,Y,Y,Y,Z,Z,Y,Z,Z] #[Y,Y,Z,Y,Y,Z,Y,Y,Z,Z] rfl rfl rfl rfl (two_of HT_.out (by kernel_rfl)) (by decide) (by decide) (fun K hK => ?_) (fun K hK => ?_)
                                · skip
                                  refine goes_ Try.func27 (by kernel_rfl) rfl #[.agg #[.int .u64 a0_0,.int .u64 a0_1],.int .i64 (Go.bits .and .i64 a2 255)] (by rfl) rfl rfl (by (try simp only [mT,mC,mN]);first|done|rfl|(simp only [lD,lK];rfl)) ?_
                                  with_reducible refine (wide_Shr.calls a0_0 a0_1 (Go.bits .and .i64 a2 255) t356 t357 _ A28.out).mono ?_
                                  rintro e w35 ⟨rfl,hb⟩;refine ⟨_,rfl,?_⟩;have n0_:=A0.mk (bB (g:=gb342) (o:=.cells #[.int .u64 a0_0,.int .u64 a0_1] 24 (0,0)) (by (with_reducible repeat (first|refine bN ?_ _|refine bD ?_|refine bA ?_ _));exact BK342.out) hb);have n1_:=A0.mk (bB (g:=gb361) (o:=.cells #[.int .u64 0,.int .u64 0] 24 (0,0)) (by (with_reducible repeat (first|refine bN ?_ _|refine bD ?_|refine bA ?_ _));exact BK361.out) hb);have n2_:=A0.mk (wT (by repeat (first|(with_reducible first|exact HB.out|apply wA|apply wN|apply wD|refine wS ?_ GE342.out|refine wS ?_ GE361.out)|exact HB.out)) hb);clear BK342;clear BK361;clear HB;have BK342:=n0_;have BK361:=n1_;have HB:=n2_;clear n0_ n1_ n2_;(try clear hb);(try clear hb2);(try clear hk);(try clear hi)
                                  refine hK.out _ _ ⟨(bC BK342.out 0).trans rfl,(bC BK342.out 1).trans rfl⟩ (fun hHeld => ?_)
                                  clear hK K
                                  refine norm_ (a':=?_) ?_ ?_
                                  rotate_left;(show Act.put _ (some 45) _ = _;simp only [aP,lT,lZ,lS,i64_w,i32_w];rfl)
                                  exact norm_ (by first|(simp only [putAll,aP,lT,lZ,lS];done)|(simp only [putAll,aP,lT,lZ,lS];rfl)) (hJ2_7 (gb361) _ ⟨hHeld,(by (with_reducible repeat (first|refine bN ?_ _|refine bD ?_|refine bA ?_ _));exact BK342.out),(by (with_reducible repeat (first|refine bN ?_ _|refine bD ?_|refine bA ?_ _));exact BK361.out),GW361.out,GE361.out,NB342_361.out,NB361_342.out,(by repeat (first|(with_reducible first|exact HB.out|apply wA|apply wN|apply wD|refine wS ?_ GE342.out|refine wS ?_ GE361.out)|exact HB.out))⟩)
                                · skip
                                  refine box_step ?hg (N:=7) ?hd (cs:=#[.int .u64 0,.int .u64 0]) (t:=24) ?hr ?_;(case hd => rfl);(case hg => rfl);(case hr => first|(go_simp;done)|(go_simp;rfl))
                                  intro gb360 hg w35 hbox hb
                                  have n0_:=A0.mk (bB (g:=gb342) (o:=.cells #[.int .u64 a0_0,.int .u64 a0_1] 24 (0,0)) (by (with_reducible repeat (first|refine bN ?_ _|refine bD ?_|refine bA ?_ _));exact BK342.out) hb);have n1_:=A0.mk (bB (g:=gb361) (o:=.cells #[.int .u64 0,.int .u64 0] 24 (0,0)) (by (with_reducible repeat (first|refine bN ?_ _|refine bD ?_|refine bA ?_ _));exact BK361.out) hb);have n2_:=A0.mk (wT (by repeat (first|(with_reducible first|exact HB.out|apply wA|apply wN|apply wD|refine wS ?_ GE342.out|refine wS ?_ GE361.out)|exact HB.out)) hb);have n3_:=A0.mk (hbox);have n4_:=A0.mk ((by rw [hg];exact (wZ (by repeat (first|(with_reducible first|exact HB.out|apply wA|apply wN|apply wD|refine wS ?_ GE342.out|refine wS ?_ GE361.out)|exact HB.out))) : w.heap.size ≤ gb360));have n5_:=A0.mk ((by rw [hg];exact (wZ (by repeat (first|(with_reducible first|exact HB.out|apply wA|apply wN|apply wD|refine wS ?_ GE342.out|refine wS ?_ GE361.out)|exact HB.out))) : w.heap.size ≤ gb360));have n6_:=A0.mk ((by rw [hg];exact Nat.ne_of_lt (blk_lt (g:=gb342) (o:=.cells #[.int .u64 a0_0,.int .u64 a0_1] 24 (0,0)) (by (with_reducible repeat (first|refine bN ?_ _|refine bD ?_|refine bA ?_ _));exact BK342.out)) : gb342 ≠ gb360));have n7_:=A0.mk ((by rw [hg];exact Nat.ne_of_gt (blk_lt (g:=gb342) (o:=.cells #[.int .u64 a0_0,.int .u64 a0_1] 24 (0,0)) (by (with_reducible repeat (first|refine bN ?_ _|refine bD ?_|refine bA ?_ _));exact BK342.out)) : gb360 ≠ gb342));have n8_:=A0.mk ((by rw [hg];exact Nat.ne_of_lt (blk_lt (g:=gb361) (o:=.cells #[.int .u64 0,.int .u64 0] 24 (0,0)) (by (with_reducible repeat (first|refine bN ?_ _|refine bD ?_|refine bA ?_ _));exact BK361.out)) : gb361 ≠ gb360));have n9_:=A0.mk ((by rw [hg];exact Nat.ne_of_gt (blk_lt (g:=gb361) (o:=.cells #[.int .u64 0,.int .u64 0] 24 (0,0)) (by (with_reducible repeat (first|refine bN ?_ _|refine bD ?_|refine bA ?_ _));exact BK361.out)) : gb360 ≠ gb361));clear BK342;clear BK361;clear HB;have BK342:=n0_;have BK361:=n1_;have HB:=n2_;have BK360:=n3_;have GW360:=n4_;have GE360:=n5_;have NB342_360:=n6_;have NB360_342:=n7_;have NB361_360:=n8_;have NB360_361:=n9_;clear n0_ n1_ n2_ n3_ n4_ n5_ n6_ n7_ n8_ n9_;clear hb hbox hg
                                  refine hK.out _ _ ⟨(bC BK342.out 0).trans rfl,(bC BK342.out 1).trans rfl⟩ (fun hHeld => ?_)
                                  clear hK K
                                  refine norm_ (a':=?_) ?_ ?_
                                  rotate_left;(show Act.put _ (some 7) _ = _;simp only [aP,lT,lZ,lS,i64_w,i32_w];rfl)
                                  exact norm_ (by first|(simp only [putAll,aP,lT,lZ,lS];done)|(simp only [putAll,aP,lT,lZ,lS];rfl)) (hJ6_7 (gb360,gb361) _ ⟨hHeld,(by (with_reducible repeat (first|refine bN ?_ _|refine bD ?_|refine bA ?_ _));exact BK342.out),(by (with_reducible repeat (first|refine bN ?_ _|refine bD ?_|refine bA ?_ _));exact BK360.out),(by (with_reducible repeat (first|refine bN ?_ _|refine bD ?_|refine bA ?_ _));exact BK361.out),GW360.out,GE360.out,NB342_360.out,NB360_342.out,NB361_360.out,NB360_361.out,GW361.out,GE361.out,NB342_361.out,NB361_342.out,(by repeat (first|(with_reducible first|exact HB.out|apply wA|apply wN|apply wD|refine wS ?_ GE342.out|refine wS ?_ GE361.out|refine wS ?_ GE360.out)|exact HB.out))⟩)
                            · skip
                              rintro gb360 w34 ⟨hS_,h0_,h1_,h2_,h3_,h4_,h5_,h6_⟩
                              have n0_ : A0 (w34.heap[gb342]? = some (.cells #[.int .u64 a0_0,.int .u64 a0_1] 24 (0,0))):=⟨h0_⟩
                              have n1_ : A0 (w34.heap[gb360]? = some (.cells #[.int .u64 0,.int .u64 0] 24 (0,0))):=⟨h1_⟩
                              have n2_ : A0 (w.heap.size ≤ gb360):=⟨h2_⟩
                              have n3_ : A0 (w.heap.size ≤ gb360):=⟨h3_⟩
                              have n4_ : A0 (gb342 ≠ gb360):=⟨h4_⟩
                              have n5_ : A0 (gb360 ≠ gb342):=⟨h5_⟩
                              have n6_ : A0 (Below w.heap.size w w34):=⟨h6_⟩
                              clear BK342;clear HB;clear h0_ h1_ h2_ h3_ h4_ h5_ h6_;have BK342:=n0_;have BK360:=n1_;have GW360:=n2_;have GE360:=n3_;have NB342_360:=n4_;have NB360_342:=n5_;have HB:=n6_;clear n0_ n1_ n2_ n3_ n4_ n5_ n6_
                              have hHeld : w34.cell? ⟨gb342,0,none⟩ = some (.int .u64 a0_0)∧w34.cell? ⟨gb342,1,none⟩ = some (.int .u64 a0_1):=hS_
                              refine norm_ (a':=?_) ?_ ?_
                              rotate_left
                              · simp only [putAll,aP,lT,lZ,lS]
                                rfl
                              refine two_ (i:=2) (j:=7) (Ni:=some 45) (Nj:=some 8) #[Y,Y,Y,Y,Y,Z,Y,Z,Z,Z] #[Y,Y,Z,Y,Y,Z,Y,Y,Z,Z] rfl rfl rfl rfl (two_of HT_.out (by kernel_rfl)) (by decide) (by decide) (fun K hK => ?_) (fun K hK => ?_)
                              · skip
                                refine goes_ Try.func27 (by kernel_rfl) rfl #[.agg #[.int .u64 a0_0,.int .u64 a0_1],.int .i64 (Go.bits .and .i64 a2 255)] (by rfl) rfl rfl (by (try simp only [mT,mC,mN]);first|done|rfl|(simp only [lD,lK];rfl)) ?_
                                with_reducible refine (wide_Shr.calls a0_0 a0_1 (Go.bits .and .i64 a2 255) t356 t357 _ A28.out).mono ?_
                                rintro e w35 ⟨rfl,hb⟩;refine ⟨_,rfl,?_⟩;have n0_:=A0.mk (bB (g:=gb342) (o:=.cells #[.int .u64 a0_0,.int .u64 a0_1] 24 (0,0)) (by (with_reducible repeat (first|refine bN ?_ _|refine bD ?_|refine bA ?_ _));exact BK342.out) hb);have n1_:=A0.mk (bB (g:=gb360) (o:=.cells #[.int .u64 0,.int .u64 0] 24 (0,0)) (by (with_reducible repeat (first|refine bN ?_ _|refine bD ?_|refine bA ?_ _));exact BK360.out) hb);have n2_:=A0.mk (wT (by repeat (first|(with_reducible first|exact HB.out|apply wA|apply wN|apply wD|refine wS ?_ GE342.out|refine wS ?_ GE360.out)|exact HB.out)) hb);clear BK342;clear BK360;clear HB;have BK342:=n0_;have BK360:=n1_;have HB:=n2_;clear n0_ n1_ n2_;(try clear hb);(try clear hb2);(try clear hk);(try clear hi)
                                refine hK.out _ _ ⟨(bC BK342.out 0).trans rfl,(bC BK342.out 1).trans rfl⟩ (fun hHeld => ?_)
                                clear hK K
                                refine norm_ (a':=?_) ?_ ?_
                                rotate_left;(show Act.put _ (some 45) _ = _;simp only [aP,lT,lZ,lS,i64_w,i32_w];rfl)
                                exact norm_ (by first|(simp only [putAll,aP,lT,lZ,lS];done)|(simp only [putAll,aP,lT,lZ,lS];rfl)) (hJ2_6 (gb360) _ ⟨hHeld,(by (with_reducible repeat (first|refine bN ?_ _|refine bD ?_|refine bA ?_ _));exact BK342.out),(by (with_reducible repeat (first|refine bN ?_ _|refine bD ?_|refine bA ?_ _));exact BK360.out),GW360.out,GE360.out,NB342_360.out,NB360_342.out,(by repeat (first|(with_reducible first|exact HB.out|apply wA|apply wN|apply wD|refine wS ?_ GE342.out|refine wS ?_ GE360.out)|exact HB.out))⟩)
                              · skip
                                refine box_step ?hg (N:=8) ?hd (cs:=#[.int .u64 0,.int .u64 0]) (t:=24) ?hr ?_;(case hd => rfl);(case hg => rfl);(case hr => first|(go_simp;done)|(go_simp;rfl))
                                intro gb361 hg w35 hbox hb
                                have n0_:=A0.mk (bB (g:=gb342) (o:=.cells #[.int .u64 a0_0,.int .u64 a0_1] 24 (0,0)) (by (with_reducible repeat (first|refine bN ?_ _|refine bD ?_|refine bA ?_ _));exact BK342.out) hb);have n1_:=A0.mk (bB (g:=gb360) (o:=.cells #[.int .u64 0,.int .u64 0] 24 (0,0)) (by (with_reducible repeat (first|refine bN ?_ _|refine bD ?_|refine bA ?_ _));exact BK360.out) hb);have n2_:=A0.mk (wT (by repeat (first|(with_reducible first|exact HB.out|apply wA|apply wN|apply wD|refine wS ?_ GE342.out|refine wS ?_ GE360.out)|exact HB.out)) hb);have n3_:=A0.mk (hbox);have n4_:=A0.mk ((by rw [hg];exact (wZ (by repeat (first|(with_reducible first|exact HB.out|apply wA|apply wN|apply wD|refine wS ?_ GE342.out|refine wS ?_ GE360.out)|exact HB.out))) : w.heap.size ≤ gb361));have n5_:=A0.mk ((by rw [hg];exact (wZ (by repeat (first|(with_reducible first|exact HB.out|apply wA|apply wN|apply wD|refine wS ?_ GE342.out|refine wS ?_ GE360.out)|exact HB.out))) : w.heap.size ≤ gb361));have n6_:=A0.mk ((by rw [hg];exact Nat.ne_of_lt (blk_lt (g:=gb342) (o:=.cells #[.int .u64 a0_0,.int .u64 a0_1] 24 (0,0)) (by (with_reducible repeat (first|refine bN ?_ _|refine bD ?_|refine bA ?_ _));exact BK342.out)) : gb342 ≠ gb361));have n7_:=A0.mk ((by rw [hg];exact Nat.ne_of_gt (blk_lt (g:=gb342) (o:=.cells #[.int .u64 a0_0,.int .u64 a0_1] 24 (0,0)) (by (with_reducible repeat (first|refine bN ?_ _|refine bD ?_|refine bA ?_ _));exact BK342.out)) : gb361 ≠ gb342));have n8_:=A0.mk ((by rw [hg];exact Nat.ne_of_lt (blk_lt (g:=gb360) (o:=.cells #[.int .u64 0,.int .u64 0] 24 (0,0)) (by (with_reducible repeat (first|refine bN ?_ _|refine bD ?_|refine bA ?_ _));exact BK360.out)) : gb360 ≠ gb361));have n9_:=A0.mk ((by rw [hg];exact Nat.ne_of_gt (blk_lt (g:=gb360) (o:=.cells #[.int .u64 0,.int .u64 0] 24 (0,0)) (by (with_reducible repeat (first|refine bN ?_ _|refine bD ?_|refine bA ?_ _));exact BK360.out)) : gb361 ≠ gb360));clear BK342;clear BK360;clear HB;have BK342:=n0_;have BK360:=n1_;have HB:=n2_;have BK361:=n3_;have GW361:=n4_;have GE361:=n5_;have NB342_361:=n6_;have NB361_342:=n7_;have NB360_361:=n8_;have NB361_360:=n9_;clear n0_ n1_ n2_ n3_ n4_ n5_ n6_ n7_ n8_ n9_;clear hb hbox hg
                                refine hK.out _ _ ⟨(bC BK342.out 0).trans rfl,(bC BK342.out 1).trans rfl⟩ (fun hHeld => ?_)
                                clear hK K
                                refine norm_ (a':=?_) ?_ ?_
                                rotate_left;(show Act.put _ (some 8) _ = _;simp only [aP,lT,lZ,lS,i64_w,i32_w];rfl)
                                exact norm_ (by first|(simp only [putAll,aP,lT,lZ,lS];done)|(simp only [putAll,aP,lT,lZ,lS];rfl)) (hJ6_7 (gb360,gb361) _ ⟨hHeld,(by (with_reducible repeat (first|refine bN ?_ _|refine bD ?_|refine bA ?_ _));exact BK342.out),(by (with_reducible repeat (first|refine bN ?_ _|refine bD ?_|refine bA ?_ _));exact BK360.out),(by (with_reducible repeat (first|refine bN ?_ _|refine bD ?_|refine bA ?_ _));exact BK361.out),GW360.out,GE360.out,NB342_360.out,NB360_342.out,NB361_360.out,NB360_361.out,GW361.out,GE361.out,NB342_361.out,NB361_342.out,(by repeat (first|(with_reducible first|exact HB.out|apply wA|apply wN|apply wD|refine wS ?_ GE342.out|refine wS ?_ GE360.out|refine wS ?_ GE361.out)|exact HB.out))⟩)
                          · skip
                            rintro _ w34 ⟨hS_,h0_,h1_⟩
                            have n0_ : A0 (w34.heap[gb342]? = some (.cells #[.int .u64 a0_0,.int .u64 a0_1] 24 (0,0))):=⟨h0_⟩
                            have n1_ : A0 (Below w.heap.size w w34):=⟨h1_⟩
                            clear BK342;clear HB;clear h0_ h1_;have BK342:=n0_;have HB:=n1_;clear n0_ n1_
                            have hHeld : w34.cell? ⟨gb342,0,none⟩ = some (.int .u64 a0_0)∧w34.cell? ⟨gb342,1,none⟩ = some (.int .u64 a0_1):=hS_
                            refine norm_ (a':=?_) ?_ ?_
                            rotate_left
                            · simp only [putAll,aP,lT,lZ,lS]
                              rfl
                            refine three_ (i:=5) (j:=6) (k:=7) (Ni:=some 48) (Nj:=some 7) (Nk:=some 8) #[Y,Y,Y,Y,Y,Y,Z,Z,Z,Z] #[Y,Y,Y,Y,Y,Z,Y,Z,Z,Z] #[Y,Y,Y,Y,Y,Z,Z,Y,Z,Z] rfl rfl rfl rfl rfl rfl (three_of HT_.out (by kernel_rfl)) (by decide) (by decide) (by decide) (fun K hK => ?_) (fun K hK => ?_) (fun K hK => ?_)
                            · skip
                              refine goes_ Try.func29 (by kernel_rfl) rfl #[.agg #[.int .u64 a0_0,.int .u64 a0_1],.int .i64 (Go.bits .and .i64 a2 255)] (by rfl) rfl rfl (by (try simp only [mT,mC,mN]);first|done|rfl|(simp only [lD,lK];rfl)) ?_
                              with_reducible refine (wide_Jam.calls a0_0 a0_1 (Go.bits .and .i64 a2 255) t358 t359 _ A29.out).mono ?_
                              rintro e w35 ⟨rfl,hb⟩;refine ⟨_,rfl,?_⟩;have n0_:=A0.mk (bB (g:=gb342) (o:=.cells #[.int .u64 a0_0,.int .u64 a0_1] 24 (0,0)) (by (with_reducible repeat (first|refine bN ?_ _|refine bD ?_|refine bA ?_ _));exact BK342.out) hb);have n1_:=A0.mk (wT (by repeat (first|(with_reducible first|exact HB.out|apply wA|apply wN|apply wD|refine wS ?_ GE342.out)|exact HB.out)) hb);clear BK342;clear HB;have BK342:=n0_;have HB:=n1_;clear n0_ n1_;(try clear hb);(try clear hb2);(try clear hk);(try clear hi)
                              refine hK.out _ _ ⟨(bC BK342.out 0).trans rfl,(bC BK342.out 1).trans rfl⟩ (fun hHeld => ?_)
                              clear hK K
                              refine norm_ (a':=?_) ?_ ?_
                              rotate_left;(show Act.put _ (some 48) _ = _;simp only [aP,lT,lZ,lS,i64_w,i32_w];rfl)
                              exact norm_ (by first|(simp only [putAll,aP,lT,lZ,lS];done)|(simp only [putAll,aP,lT,lZ,lS];rfl)) (hJ2_5 () _ ⟨hHeld,(by (with_reducible repeat (first|refine bN ?_ _|refine bD ?_|refine bA ?_ _));exact BK342.out),(by repeat (first|(with_reducible first|exact HB.out|apply wA|apply wN|apply wD|refine wS ?_ GE342.out)|exact HB.out))⟩)
                            · skip
                              refine box_step ?hg (N:=7) ?hd (cs:=#[.int .u64 0,.int .u64 0]) (t:=24) ?hr ?_;(case hd => rfl);(case hg => rfl);(case hr => first|(go_simp;done)|(go_simp;rfl))
                              intro gb360 hg w35 hbox hb
                              have n0_:=A0.mk (bB (g:=gb342) (o:=.cells #[.int .u64 a0_0,.int .u64 a0_1] 24 (0,0)) (by (with_reducible repeat (first|refine bN ?_ _|refine bD ?_|refine bA ?_ _));exact BK342.out) hb);have n1_:=A0.mk (wT (by repeat (first|(with_reducible first|exact HB.out|apply wA|apply wN|apply wD|refine wS ?_ GE342.out)|exact HB.out)) hb);have n2_:=A0.mk (hbox);have n3_:=A0.mk ((by rw [hg];exact (wZ (by repeat (first|(with_reducible first|exact HB.out|apply wA|apply wN|apply wD|refine wS ?_ GE342.out)|exact HB.out))) : w.heap.size ≤ gb360));have n4_:=A0.mk ((by rw [hg];exact (wZ (by repeat (first|(with_reducible first|exact HB.out|apply wA|apply wN|apply wD|refine wS ?_ GE342.out)|exact HB.out))) : w.heap.size ≤ gb360));have n5_:=A0.mk ((by rw [hg];exact Nat.ne_of_lt (blk_lt (g:=gb342) (o:=.cells #[.int .u64 a0_0,.int .u64 a0_1] 24 (0,0)) (by (with_reducible repeat (first|refine bN ?_ _|refine bD ?_|refine bA ?_ _));exact BK342.out)) : gb342 ≠ gb360));have n6_:=A0.mk ((by rw [hg];exact Nat.ne_of_gt (blk_lt (g:=gb342) (o:=.cells #[.int .u64 a0_0,.int .u64 a0_1] 24 (0,0)) (by (with_reducible repeat (first|refine bN ?_ _|refine bD ?_|refine bA ?_ _));exact BK342.out)) : gb360 ≠ gb342));clear BK342;clear HB;have BK342:=n0_;have HB:=n1_;have BK360:=n2_;have GW360:=n3_;have GE360:=n4_;have NB342_360:=n5_;have NB360_342:=n6_;clear n0_ n1_ n2_ n3_ n4_ n5_ n6_;clear hb hbox hg
                              refine hK.out _ _ ⟨(bC BK342.out 0).trans rfl,(bC BK342.out 1).trans rfl⟩ (fun hHeld => ?_)
                              clear hK K
                              refine norm_ (a':=?_) ?_ ?_
                              rotate_left;(show Act.put _ (some 7) _ = _;simp only [aP,lT,lZ,lS,i64_w,i32_w];rfl)
                              exact norm_ (by first|(simp only [putAll,aP,lT,lZ,lS];done)|(simp only [putAll,aP,lT,lZ,lS];rfl)) (hJ2_6 (gb360) _ ⟨hHeld,(by (with_reducible repeat (first|refine bN ?_ _|refine bD ?_|refine bA ?_ _));exact BK342.out),(by (with_reducible repeat (first|refine bN ?_ _|refine bD ?_|refine bA ?_ _));exact BK360.out),GW360.out,GE360.out,NB342_360.out,NB360_342.out,(by repeat (first|(with_reducible first|exact HB.out|apply wA|apply wN|apply wD|refine wS ?_ GE342.out|refine wS ?_ GE360.out)|exact HB.out))⟩)
                            · skip
                              refine box_step ?hg (N:=8) ?hd (cs:=#[.int .u64 0,.int .u64 0]) (t:=24) ?hr ?_;(case hd => rfl);(case hg => rfl);(case hr => first|(go_simp;done)|(go_simp;rfl))
                              intro gb361 hg w35 hbox hb
                              have n0_:=A0.mk (bB (g:=gb342) (o:=.cells #[.int .u64 a0_0,.int .u64 a0_1] 24 (0,0)) (by (with_reducible repeat (first|refine bN ?_ _|refine bD ?_|refine bA ?_ _));exact BK342.out) hb);have n1_:=A0.mk (wT (by repeat (first|(with_reducible first|exact HB.out|apply wA|apply wN|apply wD|refine wS ?_ GE342.out)|exact HB.out)) hb);have n2_:=A0.mk (hbox);have n3_:=A0.mk ((by rw [hg];exact (wZ (by repeat (first|(with_reducible first|exact HB.out|apply wA|apply wN|apply wD|refine wS ?_ GE342.out)|exact HB.out))) : w.heap.size ≤ gb361));have n4_:=A0.mk ((by rw [hg];exact (wZ (by repeat (first|(with_reducible first|exact HB.out|apply wA|apply wN|apply wD|refine wS ?_ GE342.out)|exact HB.out))) : w.heap.size ≤ gb361));have n5_:=A0.mk ((by rw [hg];exact Nat.ne_of_lt (blk_lt (g:=gb342) (o:=.cells #[.int .u64 a0_0,.int .u64 a0_1] 24 (0,0)) (by (with_reducible repeat (first|refine bN ?_ _|refine bD ?_|refine bA ?_ _));exact BK342.out)) : gb342 ≠ gb361));have n6_:=A0.mk ((by rw [hg];exact Nat.ne_of_gt (blk_lt (g:=gb342) (o:=.cells #[.int .u64 a0_0,.int .u64 a0_1] 24 (0,0)) (by (with_reducible repeat (first|refine bN ?_ _|refine bD ?_|refine bA ?_ _));exact BK342.out)) : gb361 ≠ gb342));clear BK342;clear HB;have BK342:=n0_;have HB:=n1_;have BK361:=n2_;have GW361:=n3_;have GE361:=n4_;have NB342_361:=n5_;have NB361_342:=n6_;clear n0_ n1_ n2_ n3_ n4_ n5_ n6_;clear hb hbox hg
                              refine hK.out _ _ ⟨(bC BK342.out 0).trans rfl,(bC BK342.out 1).trans rfl⟩ (fun hHeld => ?_)
                              clear hK K
                              refine norm_ (a':=?_) ?_ ?_
                              rotate_left;(show Act.put _ (some 8) _ = _;simp only [aP,lT,lZ,lS,i64_w,i32_w];rfl)
                              exact norm_ (by first|(simp only [putAll,aP,lT,lZ,lS];done)|(simp only [putAll,aP,lT,lZ,lS];rfl)) (hJ2_7 (gb361) _ ⟨hHeld,(by (with_reducible repeat (first|refine bN ?_ _|refine bD ?_|refine bA ?_ _));exact BK342.out),(by (with_reducible repeat (first|refine bN ?_ _|refine bD ?_|refine bA ?_ _));exact BK361.out),GW361.out,GE361.out,NB342_361.out,NB361_342.out,(by repeat (first|(with_reducible first|exact HB.out|apply wA|apply wN|apply wD|refine wS ?_ GE342.out|refine wS ?_ GE361.out)|exact HB.out))⟩)
                        · skip
                          rintro ⟨gb360,gb361⟩ w35 ⟨hS_,h0_,h1_,h2_,h3_,h4_,h5_,h6_,h7_,h8_,h9_,h10_,h11_,h12_,h13_⟩
                          have n0_ : A0 (w35.heap[gb342]? = some (.cells #[.int .u64 a0_0,.int .u64 a0_1] 24 (0,0))):=⟨h0_⟩
                          have n1_ : A0 (w35.heap[gb360]? = some (.cells #[.int .u64 0,.int .u64 0] 24 (0,0))):=⟨h1_⟩
                          have n2_ : A0 (w35.heap[gb361]? = some (.cells #[.int .u64 0,.int .u64 0] 24 (0,0))):=⟨h2_⟩
                          have n3_ : A0 (w.heap.size ≤ gb360):=⟨h3_⟩
                          have n4_ : A0 (w.heap.size ≤ gb360):=⟨h4_⟩
                          have n5_ : A0 (gb342 ≠ gb360):=⟨h5_⟩
                          have n6_ : A0 (gb360 ≠ gb342):=⟨h6_⟩
                          have n7_ : A0 (gb361 ≠ gb360):=⟨h7_⟩
                          have n8_ : A0 (gb360 ≠ gb361):=⟨h8_⟩
                          have n9_ : A0 (w.heap.size ≤ gb361):=⟨h9_⟩
                          have n10_ : A0 (w.heap.size ≤ gb361):=⟨h10_⟩
                          have n11_ : A0 (gb342 ≠ gb361):=⟨h11_⟩
                          have n12_ : A0 (gb361 ≠ gb342):=⟨h12_⟩
                          have n13_ : A0 (Below w.heap.size w w35):=⟨h13_⟩
                          clear BK342;clear HB;clear h0_ h1_ h2_ h3_ h4_ h5_ h6_ h7_ h8_ h9_ h10_ h11_ h12_ h13_;have BK342:=n0_;have BK360:=n1_;have BK361:=n2_;have GW360:=n3_;have GE360:=n4_;have NB342_360:=n5_;have NB360_342:=n6_;have NB361_360:=n7_;have NB360_361:=n8_;have GW361:=n9_;have GE361:=n10_;have NB342_361:=n11_;have NB361_342:=n12_;have HB:=n13_;clear n0_ n1_ n2_ n3_ n4_ n5_ n6_ n7_ n8_ n9_ n10_ n11_ n12_ n13_
                          have hHeld : w35.cell? ⟨gb342,0,none⟩ = some (.int .u64 a0_0)∧w35.cell? ⟨gb342,1,none⟩ = some (.int .u64 a0_1):=hS_
                          refine norm_ (a':=?_) ?_ ?_
                          rotate_left
                          · simp only [putAll,aP,lT,lZ,lS]
                            rfl
                          refine one_ (i:=2) (N:=some 45) #[Y,Y,Y,Y,Y,Z,Y,Y,Z,Z] rfl rfl (one_of HT_.out (by kernel_rfl)) (by decide) (fun K hK => ?_)
                          refine goes_ Try.func27 (by kernel_rfl) rfl #[.agg #[.int .u64 a0_0,.int .u64 a0_1],.int .i64 (Go.bits .and .i64 a2 255)] (by rfl) rfl rfl (by (try simp only [mT,mC,mN]);first|done|rfl|(simp only [lD,lK];rfl)) ?_
                          with_reducible refine (wide_Shr.calls a0_0 a0_1 (Go.bits .and .i64 a2 255) t356 t357 _ A28.out).mono ?_
                          rintro e w36 ⟨rfl,hb⟩;refine ⟨_,rfl,?_⟩;have n0_:=A0.mk (bB (g:=gb342) (o:=.cells #[.int .u64 a0_0,.int .u64 a0_1] 24 (0,0)) (by (with_reducible repeat (first|refine bN ?_ _|refine bD ?_|refine bA ?_ _));exact BK342.out) hb);have n1_:=A0.mk (bB (g:=gb360) (o:=.cells #[.int .u64 0,.int .u64 0] 24 (0,0)) (by (with_reducible repeat (first|refine bN ?_ _|refine bD ?_|refine bA ?_ _));exact BK360.out) hb);have n2_:=A0.mk (bB (g:=gb361) (o:=.cells #[.int .u64 0,.int .u64 0] 24 (0,0)) (by (with_reducible repeat (first|refine bN ?_ _|refine bD ?_|refine bA ?_ _));exact BK361.out) hb);have n3_:=A0.mk (wT (by repeat (first|(with_reducible first|exact HB.out|apply wA|apply wN|apply wD|refine wS ?_ GE342.out|refine wS ?_ GE360.out|refine wS ?_ GE361.out)|exact HB.out)) hb);clear BK342;clear BK360;clear BK361;clear HB;have BK342:=n0_;have BK360:=n1_;have BK361:=n2_;have HB:=n3_;clear n0_ n1_ n2_ n3_;(try clear hb);(try clear hb2);(try clear hk);(try clear hi)
                          refine hK.out _ _ ⟨(bC BK342.out 0).trans rfl,(bC BK342.out 1).trans rfl⟩ (fun hHeld => ?_)
                          clear hK K
                          refine norm_ (a':=?_) ?_ ?_
                          rotate_left;(show Act.put _ (some 45) _ = _;simp only [aP,lT,lZ,lS,i64_w,i32_w];rfl)
                          exact norm_ (by first|(simp only [putAll,aP,lT,lZ,lS];done)|(simp only [putAll,aP,lT,lZ,lS];rfl)) (hJ2_6_7 (gb360,gb361) _ ⟨hHeld,(by (with_reducible repeat (first|refine bN ?_ _|refine bD ?_|refine bA ?_ _));exact BK342.out),(by (with_reducible repeat (first|refine bN ?_ _|refine bD ?_|refine bA ?_ _));exact BK360.out),(by (with_reducible repeat (first|refine bN ?_ _|refine bD ?_|refine bA ?_ _));exact BK361.out),GW360.out,GE360.out,NB342_360.out,NB360_342.out,NB361_360.out,NB360_361.out,GW361.out,GE361.out,NB342_361.out,NB361_342.out,(by repeat (first|(with_reducible first|exact HB.out|apply wA|apply wN|apply wD|refine wS ?_ GE342.out|refine wS ?_ GE360.out|refine wS ?_ GE361.out)|exact HB.out))⟩)
                      · skip
                        rintro gb361 w35 ⟨hS_,h0_,h1_,h2_,h3_,h4_,h5_,h6_⟩
                        have n0_ : A0 (w35.heap[gb342]? = some (.cells #[.int .u64 a0_0,.int .u64 a0_1] 24 (0,0))):=⟨h0_⟩
                        have n1_ : A0 (w35.heap[gb361]? = some (.cells #[.int .u64 0,.int .u64 0] 24 (0,0))):=⟨h1_⟩
                        have n2_ : A0 (w.heap.size ≤ gb361):=⟨h2_⟩
                        have n3_ : A0 (w.heap.size ≤ gb361):=⟨h3_⟩
                        have n4_ : A0 (gb342 ≠ gb361):=⟨h4_⟩
                        have n5_ : A0 (gb361 ≠ gb342):=⟨h5_⟩
                        have n6_ : A0 (Below w.heap.size w w35):=⟨h6_⟩
                        clear BK342;clear HB;clear h0_ h1_ h2_ h3_ h4_ h5_ h6_;have BK342:=n0_;have BK361:=n1_;have GW361:=n2_;have GE361:=n3_;have NB342_361:=n4_;have NB361_342:=n5_;have HB:=n6_;clear n0_ n1_ n2_ n3_ n4_ n5_ n6_
                        have hHeld : w35.cell? ⟨gb342,0,none⟩ = some (.int .u64 a0_0)∧w35.cell? ⟨gb342,1,none⟩ = some (.int .u64 a0_1):=hS_
                        refine norm_ (a':=?_) ?_ ?_
                        rotate_left
                        · simp only [putAll,aP,lT,lZ,lS]
                          rfl
                        refine two_ (i:=5) (j:=6) (Ni:=some 48) (Nj:=some 7) #[Y,Y,Y,Y,Y,Y,Z,Y,Z,Z] #[Y,Y,Y,Y,Y,Z,Y,Y,Z,Z] rfl rfl rfl rfl (two_of HT_.out (by kernel_rfl)) (by decide) (by decide) (fun K hK => ?_) (fun K hK => ?_)
                        · skip
                          refine goes_ Try.func29 (by kernel_rfl) rfl #[.agg #[.int .u64 a0_0,.int .u64 a0_1],.int .i64 (Go.bits .and .i64 a2 255)] (by rfl) rfl rfl (by (try simp only [mT,mC,mN]);first|done|rfl|(simp only [lD,lK];rfl)) ?_
                          with_reducible refine (wide_Jam.calls a0_0 a0_1 (Go.bits .and .i64 a2 255) t358 t359 _ A29.out).mono ?_
                          rintro e w36 ⟨rfl,hb⟩;refine ⟨_,rfl,?_⟩;have n0_:=A0.mk (bB (g:=gb342) (o:=.cells #[.int .u64 a0_0,.int .u64 a0_1] 24 (0,0)) (by (with_reducible repeat (first|refine bN ?_ _|refine bD ?_|refine bA ?_ _));exact BK342.out) hb);have n1_:=A0.mk (bB (g:=gb361) (o:=.cells #[.int .u64 0,.int .u64 0] 24 (0,0)) (by (with_reducible repeat (first|refine bN ?_ _|refine bD ?_|refine bA ?_ _));exact BK361.out) hb);have n2_:=A0.mk (wT (by repeat (first|(with_reducible first|exact HB.out|apply wA|apply wN|apply wD|refine wS ?_ GE342.out|refine wS ?_ GE361.out)|exact HB.out)) hb);clear BK342;clear BK361;clear HB;have BK342:=n0_;have BK361:=n1_;have HB:=n2_;clear n0_ n1_ n2_;(try clear hb);(try clear hb2);(try clear hk);(try clear hi)
                          refine hK.out _ _ ⟨(bC BK342.out 0).trans rfl,(bC BK342.out 1).trans rfl⟩ (fun hHeld => ?_)
                          clear hK K
                          refine norm_ (a':=?_) ?_ ?_
                          rotate_left;(show Act.put _ (some 48) _ = _;simp only [aP,lT,lZ,lS,i64_w,i32_w];rfl)
                          exact norm_ (by first|(simp only [putAll,aP,lT,lZ,lS];done)|(simp only [putAll,aP,lT,lZ,lS];rfl)) (hJ2_5_7 (gb361) _ ⟨hHeld,(by (with_reducible repeat (first|refine bN ?_ _|refine bD ?_|refine bA ?_ _));exact BK342.out),(by (with_reducible repeat (first|refine bN ?_ _|refine bD ?_|refine bA ?_ _));exact BK361.out),GW361.out,GE361.out,NB342_361.out,NB361_342.out,(by repeat (first|(with_reducible first|exact HB.out|apply wA|apply wN|apply wD|refine wS ?_ GE342.out|refine wS ?_ GE361.out)|exact HB.out))⟩)
                        · skip
                          refine box_step ?hg (N:=7) ?hd (cs:=#[.int .u64 0,.int .u64 0]) (t:=24) ?hr ?_;(case hd => rfl);(case hg => rfl);(case hr => first|(go_simp;done)|(go_simp;rfl))
                          intro gb360 hg w36 hbox hb
                          have n0_:=A0.mk (bB (g:=gb342) (o:=.cells #[.int .u64 a0_0,.int .u64 a0_1] 24 (0,0)) (by (with_reducible repeat (first|refine bN ?_ _|refine bD ?_|refine bA ?_ _));exact BK342.out) hb);have n1_:=A0.mk (bB (g:=gb361) (o:=.cells #[.int .u64 0,.int .u64 0] 24 (0,0)) (by (with_reducible repeat (first|refine bN ?_ _|refine bD ?_|refine bA ?_ _));exact BK361.out) hb);have n2_:=A0.mk (wT (by repeat (first|(with_reducible first|exact HB.out|apply wA|apply wN|apply wD|refine wS ?_ GE342.out|refine wS ?_ GE361.out)|exact HB.out)) hb);have n3_:=A0.mk (hbox);have n4_:=A0.mk ((by rw [hg];exact (wZ (by repeat (first|(with_reducible first|exact HB.out|apply wA|apply wN|apply wD|refine wS ?_ GE342.out|refine wS ?_ GE361.out)|exact HB.out))) : w.heap.size ≤ gb360));have n5_:=A0.mk ((by rw [hg];exact (wZ (by repeat (first|(with_reducible first|exact HB.out|apply wA|apply wN|apply wD|refine wS ?_ GE342.out|refine wS ?_ GE361.out)|exact HB.out))) : w.heap.size ≤ gb360));have n6_:=A0.mk ((by rw [hg];exact Nat.ne_of_lt (blk_lt (g:=gb342) (o:=.cells #[.int .u64 a0_0,.int .u64 a0_1] 24 (0,0)) (by (with_reducible repeat (first|refine bN ?_ _|refine bD ?_|refine bA ?_ _));exact BK342.out)) : gb342 ≠ gb360));have n7_:=A0.mk ((by rw [hg];exact Nat.ne_of_gt (blk_lt (g:=gb342) (o:=.cells #[.int .u64 a0_0,.int .u64 a0_1] 24 (0,0)) (by (with_reducible repeat (first|refine bN ?_ _|refine bD ?_|refine bA ?_ _));exact BK342.out)) : gb360 ≠ gb342));have n8_:=A0.mk ((by rw [hg];exact Nat.ne_of_lt (blk_lt (g:=gb361) (o:=.cells #[.int .u64 0,.int .u64 0] 24 (0,0)) (by (with_reducible repeat (first|refine bN ?_ _|refine bD ?_|refine bA ?_ _));exact BK361.out)) : gb361 ≠ gb360));have n9_:=A0.mk ((by rw [hg];exact Nat.ne_of_gt (blk_lt (g:=gb361) (o:=.cells #[.int .u64 0,.int .u64 0] 24 (0,0)) (by (with_reducible repeat (first|refine bN ?_ _|refine bD ?_|refine bA ?_ _));exact BK361.out)) : gb360 ≠ gb361));clear BK342;clear BK361;clear HB;have BK342:=n0_;have BK361:=n1_;have HB:=n2_;have BK360:=n3_;have GW360:=n4_;have GE360:=n5_;have NB342_360:=n6_;have NB360_342:=n7_;have NB361_360:=n8_;have NB360_361:=n9_;clear n0_ n1_ n2_ n3_ n4_ n5_ n6_ n7_ n8_ n9_;clear hb hbox hg
                          refine hK.out _ _ ⟨(bC BK342.out 0).trans rfl,(bC BK342.out 1).trans rfl⟩ (fun hHeld => ?_)
                          clear hK K
                          refine norm_ (a':=?_) ?_ ?_
                          rotate_left;(show Act.put _ (some 7) _ = _;simp only [aP,lT,lZ,lS,i64_w,i32_w];rfl)
                          exact norm_ (by first|(simp only [putAll,aP,lT,lZ,lS];done)|(simp only [putAll,aP,lT,lZ,lS];rfl)) (hJ2_6_7 (gb360,gb361) _ ⟨hHeld,(by (with_reducible repeat (first|refine bN ?_ _|refine bD ?_|refine bA ?_ _));exact BK342.out),(by (with_reducible repeat (first|refine bN ?_ _|refine bD ?_|refine bA ?_ _));exact BK360.out),(by (with_reducible repeat (first|refine bN ?_ _|refine bD ?_|refine bA ?_ _));exact BK361.out),GW360.out,GE360.out,NB342_360.out,NB360_342.out,NB361_360.out,NB360_361.out,GW361.out,GE361.out,NB342_361.out,NB361_342.out,(by repeat (first|(with_reducible first|exact HB.out|apply wA|apply wN|apply wD|refine wS ?_ GE342.out|refine wS ?_ GE361.out|refine wS ?_ GE360.out)|exact HB.out))⟩)
                    · skip
                      rintro gb360 w35 ⟨hS_,h0_,h1_,h2_,h3_,h4_,h5_,h6_⟩
                      have n0_ : A0 (w35.heap[gb342]? = some (.cells #[.int .u64 a0_0,.int .u64 a0_1] 24 (0,0))):=⟨h0_⟩
                      have n1_ : A0 (w35.heap[gb360]? = some (.cells #[.int .u64 0,.int .u64 0] 24 (0,0))):=⟨h1_⟩
                      have n2_ : A0 (w.heap.size ≤ gb360):=⟨h2_⟩
                      have n3_ : A0 (w.heap.size ≤ gb360):=⟨h3_⟩
                      have n4_ : A0 (gb342 ≠ gb360):=⟨h4_⟩
                      have n5_ : A0 (gb360 ≠ gb342):=⟨h5_⟩
                      have n6_ : A0 (Below w.heap.size w w35):=⟨h6_⟩
                      clear BK342;clear HB;clear h0_ h1_ h2_ h3_ h4_ h5_ h6_;have BK342:=n0_;have BK360:=n1_;have GW360:=n2_;have GE360:=n3_;have NB342_360:=n4_;have NB360_342:=n5_;have HB:=n6_;clear n0_ n1_ n2_ n3_ n4_ n5_ n6_
                      have hHeld : w35.cell? ⟨gb342,0,none⟩ = some (.int .u64 a0_0)∧w35.cell? ⟨gb342,1,none⟩ = some (.int .u64 a0_1):=hS_
                      refine norm_ (a':=?_) ?_ ?_
                      rotate_left
                      · simp only [putAll,aP,lT,lZ,lS]
                        rfl
                      refine two_ (i:=5) (j:=7) (Ni:=some 48) (Nj:=some 8) #[Y,Y,Y,Y,Y,Y,Y,Z,Z,Z] #[Y,Y,Y,Y,Y,Z,Y,Y,Z,Z] rfl rfl rfl rfl (two_of HT_.out (by kernel_rfl)) (by decide) (by decide) (fun K hK => ?_) (fun K hK => ?_)
                      · skip
                        refine goes_ Try.func29 (by kernel_rfl) rfl #[.agg #[.int .u64 a0_0,.int .u64 a0_1],.int .i64 (Go.bits .and .i64 a2 255)] (by rfl) rfl rfl (by (try simp only [mT,mC,mN]);first|done|rfl|(simp only [lD,lK];rfl)) ?_
                        with_reducible refine (wide_Jam.calls a0_0 a0_1 (Go.bits .and .i64 a2 255) t358 t359 _ A29.out).mono ?_
                        rintro e w36 ⟨rfl,hb⟩;refine ⟨_,rfl,?_⟩;have n0_:=A0.mk (bB (g:=gb342) (o:=.cells #[.int .u64 a0_0,.int .u64 a0_1] 24 (0,0)) (by (with_reducible repeat (first|refine bN ?_ _|refine bD ?_|refine bA ?_ _));exact BK342.out) hb);have n1_:=A0.mk (bB (g:=gb360) (o:=.cells #[.int .u64 0,.int .u64 0] 24 (0,0)) (by (with_reducible repeat (first|refine bN ?_ _|refine bD ?_|refine bA ?_ _));exact BK360.out) hb);have n2_:=A0.mk (wT (by repeat (first|(with_reducible first|exact HB.out|apply wA|apply wN|apply wD|refine wS ?_ GE342.out|refine wS ?_ GE360.out)|exact HB.out)) hb);clear BK342;clear BK360;clear HB;have BK342:=n0_;have BK360:=n1_;have HB:=n2_;clear n0_ n1_ n2_;(try clear hb);(try clear hb2);(try clear hk);(try clear hi)
                        refine hK.out _ _ ⟨(bC BK342.out 0).trans rfl,(bC BK342.out 1).trans rfl⟩ (fun hHeld => ?_)
                        clear hK K
                        refine norm_ (a':=?_) ?_ ?_
                        rotate_left;(show Act.put _ (some 48) _ = _;simp only [aP,lT,lZ,lS,i64_w,i32_w];rfl)
                        exact norm_ (by first|(simp only [putAll,aP,lT,lZ,lS];done)|(simp only [putAll,aP,lT,lZ,lS];rfl)) (hJ2_5_6 (gb360) _ ⟨hHeld,(by (with_reducible repeat (first|refine bN ?_ _|refine bD ?_|refine bA ?_ _));exact BK342.out),(by (with_reducible repeat (first|refine bN ?_ _|refine bD ?_|refine bA ?_ _));exact BK360.out),GW360.out,GE360.out,NB342_360.out,NB360_342.out,(by repeat (first|(with_reducible first|exact HB.out|apply wA|apply wN|apply wD|refine wS ?_ GE342.out|refine wS ?_ GE360.out)|exact HB.out))⟩)
                      · skip
                        refine box_step ?hg (N:=8) ?hd (cs:=#[.int .u64 0,.int .u64 0]) (t:=24) ?hr ?_;(case hd => rfl);(case hg => rfl);(case hr => first|(go_simp;done)|(go_simp;rfl))
                        intro gb361 hg w36 hbox hb
                        have n0_:=A0.mk (bB (g:=gb342) (o:=.cells #[.int .u64 a0_0,.int .u64 a0_1] 24 (0,0)) (by (with_reducible repeat (first|refine bN ?_ _|refine bD ?_|refine bA ?_ _));exact BK342.out) hb);have n1_:=A0.mk (bB (g:=gb360) (o:=.cells #[.int .u64 0,.int .u64 0] 24 (0,0)) (by (with_reducible repeat (first|refine bN ?_ _|refine bD ?_|refine bA ?_ _));exact BK360.out) hb);have n2_:=A0.mk (wT (by repeat (first|(with_reducible first|exact HB.out|apply wA|apply wN|apply wD|refine wS ?_ GE342.out|refine wS ?_ GE360.out)|exact HB.out)) hb);have n3_:=A0.mk (hbox);have n4_:=A0.mk ((by rw [hg];exact (wZ (by repeat (first|(with_reducible first|exact HB.out|apply wA|apply wN|apply wD|refine wS ?_ GE342.out|refine wS ?_ GE360.out)|exact HB.out))) : w.heap.size ≤ gb361));have n5_:=A0.mk ((by rw [hg];exact (wZ (by repeat (first|(with_reducible first|exact HB.out|apply wA|apply wN|apply wD|refine wS ?_ GE342.out|refine wS ?_ GE360.out)|exact HB.out))) : w.heap.size ≤ gb361));have n6_:=A0.mk ((by rw [hg];exact Nat.ne_of_lt (blk_lt (g:=gb342) (o:=.cells #[.int .u64 a0_0,.int .u64 a0_1] 24 (0,0)) (by (with_reducible repeat (first|refine bN ?_ _|refine bD ?_|refine bA ?_ _));exact BK342.out)) : gb342 ≠ gb361));have n7_:=A0.mk ((by rw [hg];exact Nat.ne_of_gt (blk_lt (g:=gb342) (o:=.cells #[.int .u64 a0_0,.int .u64 a0_1] 24 (0,0)) (by (with_reducible repeat (first|refine bN ?_ _|refine bD ?_|refine bA ?_ _));exact BK342.out)) : gb361 ≠ gb342));have n8_:=A0.mk ((by rw [hg];exact Nat.ne_of_lt (blk_lt (g:=gb360) (o:=.cells #[.int .u64 0,.int .u64 0] 24 (0,0)) (by (with_reducible repeat (first|refine bN ?_ _|refine bD ?_|refine bA ?_ _));exact BK360.out)) : gb360 ≠ gb361));have n9_:=A0.mk ((by rw [hg];exact Nat.ne_of_gt (blk_lt (g:=gb360) (o:=.cells #[.int .u64 0,.int .u64 0] 24 (0,0)) (by (with_reducible repeat (first|refine bN ?_ _|refine bD ?_|refine bA ?_ _));exact BK360.out)) : gb361 ≠ gb360));clear BK342;clear BK360;clear HB;have BK342:=n0_;have BK360:=n1_;have HB:=n2_;have BK361:=n3_;have GW361:=n4_;have GE361:=n5_;have NB342_361:=n6_;have NB361_342:=n7_;have NB360_361:=n8_;have NB361_360:=n9_;clear n0_ n1_ n2_ n3_ n4_ n5_ n6_ n7_ n8_ n9_;clear hb hbox hg
                        refine hK.out _ _ ⟨(bC BK342.out 0).trans rfl,(bC BK342.out 1).trans rfl⟩ (fun hHeld => ?_)
                        clear hK K
                        refine norm_ (a':=?_) ?_ ?_
                        rotate_left;(show Act.put _ (some 8) _ = _;simp only [aP,lT,lZ,lS,i64_w,i32_w];rfl)
                        exact norm_ (by first|(simp only [putAll,aP,lT,lZ,lS];done)|(simp only [putAll,aP,lT,lZ,lS];rfl)) (hJ2_6_7 (gb360,gb361) _ ⟨hHeld,(by (with_reducible repeat (first|refine bN ?_ _|refine bD ?_|refine bA ?_ _));exact BK342.out),(by (with_reducible repeat (first|refine bN ?_ _|refine bD ?_|refine bA ?_ _));exact BK360.out),(by (with_reducible repeat (first|refine bN ?_ _|refine bD ?_|refine bA ?_ _));exact BK361.out),GW360.out,GE360.out,NB342_360.out,NB360_342.out,NB361_360.out,NB360_361.out,GW361.out,GE361.out,NB342_361.out,NB361_342.out,(by repeat (first|(with_reducible first|exact HB.out|apply wA|apply wN|apply wD|refine wS ?_ GE342.out|refine wS ?_ GE360.out|refine wS ?_ GE361.out)|exact HB.out))⟩)
                  · skip
                    rintro _ w35 ⟨hS_,h0_,h1_⟩
                    have n0_ : A0 (w35.heap[gb342]? = some (.cells #[.int .u64 a0_0,.int .u64 a0_1] 24 (0,0))):=⟨h0_⟩
                    have n1_ : A0 (Below w.heap.size w w35):=⟨h1_⟩
                    clear BK342;clear HB;clear h0_ h1_;have BK342:=n0_;have HB:=n1_;clear n0_ n1_
                    have hHeld : w35.cell? ⟨gb342,0,none⟩ = some (.int .u64 a0_0)∧w35.cell? ⟨gb342,1,none⟩ = some (.int .u64 a0_1):=hS_
                    refine norm_ (a':=?_) ?_ ?_
                    rotate_left
                    · simp only [putAll,aP,lT,lZ,lS]
                      rfl
                    refine two_ (i:=6) (j:=7) (Ni:=some 7) (Nj:=some 8) #[Y,Y,Y,Y,Y,Y,Y,Z,Z,Z] #[Y,Y,Y,Y,Y,Y,Z,Y,Z,Z] rfl rfl rfl rfl (two_of HT_.out (by kernel_rfl)) (by decide) (by decide) (fun K hK => ?_) (fun K hK => ?_)
                    · skip
                      refine box_step ?hg (N:=7) ?hd (cs:=#[.int .u64 0,.int .u64 0]) (t:=24) ?hr ?_;(case hd => rfl);(case hg => rfl);(case hr => first|(go_simp;done)|(go_simp;rfl))
                      intro gb360 hg w36 hbox hb
                      have n0_:=A0.mk (bB (g:=gb342) (o:=.cells #[.int .u64 a0_0,.int .u64 a0_1] 24 (0,0)) (by (with_reducible repeat (first|refine bN ?_ _|refine bD ?_|refine bA ?_ _));exact BK342.out) hb);have n1_:=A0.mk (wT (by repeat (first|(with_reducible first|exact HB.out|apply wA|apply wN|apply wD|refine wS ?_ GE342.out)|exact HB.out)) hb);have n2_:=A0.mk (hbox);have n3_:=A0.mk ((by rw [hg];exact (wZ (by repeat (first|(with_reducible first|exact HB.out|apply wA|apply wN|apply wD|refine wS ?_ GE342.out)|exact HB.out))) : w.heap.size ≤ gb360));have n4_:=A0.mk ((by rw [hg];exact (wZ (by repeat (first|(with_reducible first|exact HB.out|apply wA|apply wN|apply wD|refine wS ?_ GE342.out)|exact HB.out))) : w.heap.size ≤ gb360));have n5_:=A0.mk ((by rw [hg];exact Nat.ne_of_lt (blk_lt (g:=gb342) (o:=.cells #[.int .u64 a0_0,.int .u64 a0_1] 24 (0,0)) (by (with_reducible repeat (first|refine bN ?_ _|refine bD ?_|refine bA ?_ _));exact BK342.out)) : gb342 ≠ gb360));have n6_:=A0.mk ((by rw [hg];exact Nat.ne_of_gt (blk_lt (g:=gb342) (o:=.cells #[.int .u64 a0_0,.int .u64 a0_1] 24 (0,0)) (by (with_reducible repeat (first|refine bN ?_ _|refine bD ?_|refine bA ?_ _));exact BK342.out)) : gb360 ≠ gb342));clear BK342;clear HB;have BK342:=n0_;have HB:=n1_;have BK360:=n2_;have GW360:=n3_;have GE360:=n4_;have NB342_360:=n5_;have NB360_342:=n6_;clear n0_ n1_ n2_ n3_ n4_ n5_ n6_;clear hb hbox hg
                      refine hK.out _ _ ⟨(bC BK342.out 0).trans rfl,(bC BK342.out 1).trans rfl⟩ (fun hHeld => ?_)
                      clear hK K
                      refine norm_ (a':=?_) ?_ ?_
                      rotate_left;(show Act.put _ (some 7) _ = _;simp only [aP,lT,lZ,lS,i64_w,i32_w];rfl)
                      exact norm_ (by first|(simp only [putAll,aP,lT,lZ,lS];done)|(simp only [putAll,aP,lT,lZ,lS];rfl)) (hJ2_5_6 (gb360) _ ⟨hHeld,(by (with_reducible repeat (first|refine bN ?_ _|refine bD ?_|refine bA ?_ _));exact BK342.out),(by (with_reducible repeat (first|refine bN ?_ _|refine bD ?_|refine bA ?_ _));exact BK360.out),GW360.out,GE360.out,NB342_360.out,NB360_342.out,(by repeat (first|(with_reducible first|exact HB.out|apply wA|apply wN|apply wD|refine wS ?_ GE342.out|refine wS ?_ GE360.out)|exact HB.out))⟩)
                    · skip
                      refine box_step ?hg (N:=8) ?hd (cs:=#[.int .u64 0,.int .u64 0]) (t:=24) ?hr ?_;(case hd => rfl);(case hg => rfl);(case hr => first|(go_simp;done)|(go_simp;rfl))
                      intro gb361 hg w36 hbox hb
                      have n0_:=A0.mk (bB (g:=gb342) (o:=.cells #[.int .u64 a0_0,.int .u64 a0_1] 24 (0,0)) (by (with_reducible repeat (first|refine bN ?_ _|refine bD ?_|refine bA ?_ _));exact BK342.out) hb);have n1_:=A0.mk (wT (by repeat (first|(with_reducible first|exact HB.out|apply wA|apply wN|apply wD|refine wS ?_ GE342.out)|exact HB.out)) hb);have n2_:=A0.mk (hbox);have n3_:=A0.mk ((by rw [hg];exact (wZ (by repeat (first|(with_reducible first|exact HB.out|apply wA|apply wN|apply wD|refine wS ?_ GE342.out)|exact HB.out))) : w.heap.size ≤ gb361));have n4_:=A0.mk ((by rw [hg];exact (wZ (by repeat (first|(with_reducible first|exact HB.out|apply wA|apply wN|apply wD|refine wS ?_ GE342.out)|exact HB.out))) : w.heap.size ≤ gb361));have n5_:=A0.mk ((by rw [hg];exact Nat.ne_of_lt (blk_lt (g:=gb342) (o:=.cells #[.int .u64 a0_0,.int .u64 a0_1] 24 (0,0)) (by (with_reducible repeat (first|refine bN ?_ _|refine bD ?_|refine bA ?_ _));exact BK342.out)) : gb342 ≠ gb361));have n6_:=A0.mk ((by rw [hg];exact Nat.ne_of_gt (blk_lt (g:=gb342) (o:=.cells #[.int .u64 a0_0,.int .u64 a0_1] 24 (0,0)) (by (with_reducible repeat (first|refine bN ?_ _|refine bD ?_|refine bA ?_ _));exact BK342.out)) : gb361 ≠ gb342));clear BK342;clear HB;have BK342:=n0_;have HB:=n1_;have BK361:=n2_;have GW361:=n3_;have GE361:=n4_;have NB342_361:=n5_;have NB361_342:=n6_;clear n0_ n1_ n2_ n3_ n4_ n5_ n6_;clear hb hbox hg
                      refine hK.out _ _ ⟨(bC BK342.out 0).trans rfl,(bC BK342.out 1).trans rfl⟩ (fun hHeld => ?_)
                      clear hK K
                      refine norm_ (a':=?_) ?_ ?_
                      rotate_left;(show Act.put _ (some 8) _ = _;simp only [aP,lT,lZ,lS,i64_w,i32_w];rfl)
                      exact norm_ (by first|(simp only [putAll,aP,lT,lZ,lS];done)|(simp only [putAll,aP,lT,lZ,lS];rfl)) (hJ2_5_7 (gb361) _ ⟨hHeld,(by (with_reducible repeat (first|refine bN ?_ _|refine bD ?_|refine bA ?_ _));exact BK342.out),(by (with_reducible repeat (first|refine bN ?_ _|refine bD ?_|refine bA ?_ _));exact BK361.out),GW361.out,GE361.out,NB342_361.out,NB361_342.out,(by repeat (first|(with_reducible first|exact HB.out|apply wA|apply wN|apply wD|refine wS ?_ GE342.out|refine wS ?_ GE361.out)|exact HB.out))⟩)
                · skip
                  rintro ⟨gb360,gb361⟩ w36 ⟨hS_,h0_,h1_,h2_,h3_,h4_,h5_,h6_,h7_,h8_,h9_,h10_,h11_,h12_,h13_⟩
                  have n0_ : A0 (w36.heap[gb342]? = some (.cells #[.int .u64 a0_0,.int .u64 a0_1] 24 (0,0))):=⟨h0_⟩
                  have n1_ : A0 (w36.heap[gb360]? = some (.cells #[.int .u64 0,.int .u64 0] 24 (0,0))):=⟨h1_⟩
                  have n2_ : A0 (w36.heap[gb361]? = some (.cells #[.int .u64 0,.int .u64 0] 24 (0,0))):=⟨h2_⟩
                  have n3_ : A0 (w.heap.size ≤ gb360):=⟨h3_⟩
                  have n4_ : A0 (w.heap.size ≤ gb360):=⟨h4_⟩
                  have n5_ : A0 (gb342 ≠ gb360):=⟨h5_⟩
                  have n6_ : A0 (gb360 ≠ gb342):=⟨h6_⟩
                  have n7_ : A0 (gb361 ≠ gb360):=⟨h7_⟩
                  have n8_ : A0 (gb360 ≠ gb361):=⟨h8_⟩
                  have n9_ : A0 (w.heap.size ≤ gb361):=⟨h9_⟩
                  have n10_ : A0 (w.heap.size ≤ gb361):=⟨h10_⟩
                  have n11_ : A0 (gb342 ≠ gb361):=⟨h11_⟩
                  have n12_ : A0 (gb361 ≠ gb342):=⟨h12_⟩
                  have n13_ : A0 (Below w.heap.size w w36):=⟨h13_⟩
                  clear BK342;clear HB;clear h0_ h1_ h2_ h3_ h4_ h5_ h6_ h7_ h8_ h9_ h10_ h11_ h12_ h13_;have BK342:=n0_;have BK360:=n1_;have BK361:=n2_;have GW360:=n3_;have GE360:=n4_;have NB342_360:=n5_;have NB360_342:=n6_;have NB361_360:=n7_;have NB360_361:=n8_;have GW361:=n9_;have GE361:=n10_;have NB342_361:=n11_;have NB361_342:=n12_;have HB:=n13_;clear n0_ n1_ n2_ n3_ n4_ n5_ n6_ n7_ n8_ n9_ n10_ n11_ n12_ n13_
                  have hHeld : w36.cell? ⟨gb342,0,none⟩ = some (.int .u64 a0_0)∧w36.cell? ⟨gb342,1,none⟩ = some (.int .u64 a0_1):=hS_
                  refine norm_ (a':=?_) ?_ ?_
                  rotate_left
                  · simp only [putAll,aP,lT,lZ,lS]
                    rfl
                  refine one_ (i:=5) (N:=some 48) #[Y,Y,Y,Y,Y,Y,Y,Y,Z,Z] rfl rfl (one_of HT_.out (by kernel_rfl)) (by decide) (fun K hK => ?_)
                  refine goes_ Try.func29 (by kernel_rfl) rfl #[.agg #[.int .u64 a0_0,.int .u64 a0_1],.int .i64 (Go.bits .and .i64 a2 255)] (by rfl) rfl rfl (by (try simp only [mT,mC,mN]);first|done|rfl|(simp only [lD,lK];rfl)) ?_
                  with_reducible refine (wide_Jam.calls a0_0 a0_1 (Go.bits .and .i64 a2 255) t358 t359 _ A29.out).mono ?_
                  rintro e w37 ⟨rfl,hb⟩;refine ⟨_,rfl,?_⟩;have n0_:=A0.mk (bB (g:=gb342) (o:=.cells #[.int .u64 a0_0,.int .u64 a0_1] 24 (0,0)) (by (with_reducible repeat (first|refine bN ?_ _|refine bD ?_|refine bA ?_ _));exact BK342.out) hb);have n1_:=A0.mk (bB (g:=gb360) (o:=.cells #[.int .u64 0,.int .u64 0] 24 (0,0)) (by (with_reducible repeat (first|refine bN ?_ _|refine bD ?_|refine bA ?_ _));exact BK360.out) hb);have n2_:=A0.mk (bB (g:=gb361) (o:=.cells #[.int .u64 0,.int .u64 0] 24 (0,0)) (by (with_reducible repeat (first|refine bN ?_ _|refine bD ?_|refine bA ?_ _));exact BK361.out) hb);have n3_:=A0.mk (wT (by repeat (first|(with_reducible first|exact HB.out|apply wA|apply wN|apply wD|refine wS ?_ GE342.out|refine wS ?_ GE360.out|refine wS ?_ GE361.out)|exact HB.out)) hb);clear BK342;clear BK360;clear BK361;clear HB;have BK342:=n0_;have BK360:=n1_;have BK361:=n2_;have HB:=n3_;clear n0_ n1_ n2_ n3_;(try clear hb);(try clear hb2);(try clear hk);(try clear hi)
                  refine hK.out _ _ ⟨(bC BK342.out 0).trans rfl,(bC BK342.out 1).trans rfl⟩ (fun hHeld => ?_)
                  clear hK K
                  refine norm_ (a':=?_) ?_ ?_
                  rotate_left;(show Act.put _ (some 48) _ = _;simp only [aP,lT,lZ,lS,i64_w,i32_w];rfl)
                  exact norm_ (by first|(simp only [putAll,aP,lT,lZ,lS];done)|(simp only [putAll,aP,lT,lZ,lS];rfl)) (hJ2_5_6_7 (gb360,gb361) _ ⟨hHeld,(by (with_reducible repeat (first|refine bN ?_ _|refine bD ?_|refine bA ?_ _));exact BK342.out),(by (with_reducible repeat (first|refine bN ?_ _|refine bD ?_|refine bA ?_ _));exact BK360.out),(by (with_reducible repeat (first|refine bN ?_ _|refine bD ?_|refine bA ?_ _));exact BK361.out),GW360.out,GE360.out,NB342_360.out,NB360_342.out,NB361_360.out,NB360_361.out,GW361.out,GE361.out,NB342_361.out,NB361_342.out,(by repeat (first|(with_reducible first|exact HB.out|apply wA|apply wN|apply wD|refine wS ?_ GE342.out|refine wS ?_ GE360.out|refine wS ?_ GE361.out)|exact HB.out))⟩)
              · skip
                rintro gb361 w36 ⟨hS_,h0_,h1_,h2_,h3_,h4_,h5_,h6_⟩
                have n0_ : A0 (w36.heap[gb342]? = some (.cells #[.int .u64 a0_0,.int .u64 a0_1] 24 (0,0))):=⟨h0_⟩
                have n1_ : A0 (w36.heap[gb361]? = some (.cells #[.int .u64 0,.int .u64 0] 24 (0,0))):=⟨h1_⟩
                have n2_ : A0 (w.heap.size ≤ gb361):=⟨h2_⟩
                have n3_ : A0 (w.heap.size ≤ gb361):=⟨h3_⟩
                have n4_ : A0 (gb342 ≠ gb361):=⟨h4_⟩
                have n5_ : A0 (gb361 ≠ gb342):=⟨h5_⟩
                have n6_ : A0 (Below w.heap.size w w36):=⟨h6_⟩
                clear BK342;clear HB;clear h0_ h1_ h2_ h3_ h4_ h5_ h6_;have BK342:=n0_;have BK361:=n1_;have GW361:=n2_;have GE361:=n3_;have NB342_361:=n4_;have NB361_342:=n5_;have HB:=n6_;clear n0_ n1_ n2_ n3_ n4_ n5_ n6_
                have hHeld : w36.cell? ⟨gb342,0,none⟩ = some (.int .u64 a0_0)∧w36.cell? ⟨gb342,1,none⟩ = some (.int .u64 a0_1):=hS_
                refine norm_ (a':=?_) ?_ ?_
                rotate_left
                · simp only [putAll,aP,lT,lZ,lS]
                  rfl
                refine one_ (i:=6) (N:=some 7) #[Y,Y,Y,Y,Y,Y,Y,Y,Z,Z] rfl rfl (one_of HT_.out (by kernel_rfl)) (by decide) (fun K hK => ?_)
                refine box_step ?hg (N:=7) ?hd (cs:=#[.int .u64 0,.int .u64 0]) (t:=24) ?hr ?_;(case hd => rfl);(case hg => rfl);(case hr => first|(go_simp;done)|(go_simp;rfl))
                intro gb360 hg w37 hbox hb
                have n0_:=A0.mk (bB (g:=gb342) (o:=.cells #[.int .u64 a0_0,.int .u64 a0_1] 24 (0,0)) (by (with_reducible repeat (first|refine bN ?_ _|refine bD ?_|refine bA ?_ _));exact BK342.out) hb);have n1_:=A0.mk (bB (g:=gb361) (o:=.cells #[.int .u64 0,.int .u64 0] 24 (0,0)) (by (with_reducible repeat (first|refine bN ?_ _|refine bD ?_|refine bA ?_ _));exact BK361.out) hb);have n2_:=A0.mk (wT (by repeat (first|(with_reducible first|exact HB.out|apply wA|apply wN|apply wD|refine wS ?_ GE342.out|refine wS ?_ GE361.out)|exact HB.out)) hb);have n3_:=A0.mk (hbox);have n4_:=A0.mk ((by rw [hg];exact (wZ (by repeat (first|(with_reducible first|exact HB.out|apply wA|apply wN|apply wD|refine wS ?_ GE342.out|refine wS ?_ GE361.out)|exact HB.out))) : w.heap.size ≤ gb360));have n5_:=A0.mk ((by rw [hg];exact (wZ (by repeat (first|(with_reducible first|exact HB.out|apply wA|apply wN|apply wD|refine wS ?_ GE342.out|refine wS ?_ GE361.out)|exact HB.out))) : w.heap.size ≤ gb360));have n6_:=A0.mk ((by rw [hg];exact Nat.ne_of_lt (blk_lt (g:=gb342) (o:=.cells #[.int .u64 a0_0,.int .u64 a0_1] 24 (0,0)) (by (with_reducible repeat (first|refine bN ?_ _|refine bD ?_|refine bA ?_ _));exact BK342.out)) : gb342 ≠ gb360));have n7_:=A0.mk ((by rw [hg];exact Nat.ne_of_gt (blk_lt (g:=gb342) (o:=.cells #[.int .u64 a0_0,.int .u64 a0_1] 24 (0,0)) (by (with_reducible repeat (first|refine bN ?_ _|refine bD ?_|refine bA ?_ _));exact BK342.out)) : gb360 ≠ gb342));have n8_:=A0.mk ((by rw [hg];exact Nat.ne_of_lt (blk_lt (g:=gb361) (o:=.cells #[.int .u64 0,.int .u64 0] 24 (0,0)) (by (with_reducible repeat (first|refine bN ?_ _|refine bD ?_|refine bA ?_ _));exact BK361.out)) : gb361 ≠ gb360));have n9_:=A0.mk ((by rw [hg];exact Nat.ne_of_gt (blk_lt (g:=gb361) (o:=.cells #[.int .u64 0,.int .u64 0] 24 (0,0)) (by (with_reducible repeat (first|refine bN ?_ _|refine bD ?_|refine bA ?_ _));exact BK361.out)) : gb360 ≠ gb361));clear BK342;clear BK361;clear HB;have BK342:=n0_;have BK361:=n1_;have HB:=n2_;have BK360:=n3_;have GW360:=n4_;have GE360:=n5_;have NB342_360:=n6_;have NB360_342:=n7_;have NB361_360:=n8_;have NB360_361:=n9_;clear n0_ n1_ n2_ n3_ n4_ n5_ n6_ n7_ n8_ n9_;clear hb hbox hg
                refine hK.out _ _ ⟨(bC BK342.out 0).trans rfl,(bC BK342.out 1).trans rfl⟩ (fun hHeld => ?_)
                clear hK K
                refine norm_ (a':=?_) ?_ ?_
                rotate_left;(show Act.put _ (some 7) _ = _;simp only [aP,lT,lZ,lS,i64_w,i32_w];rfl)
                exact norm_ (by first|(simp only [putAll,aP,lT,lZ,lS];done)|(simp only [putAll,aP,lT,lZ,lS];rfl)) (hJ2_5_6_7 (gb360,gb361) _ ⟨hHeld,(by (with_reducible repeat (first|refine bN ?_ _|refine bD ?_|refine bA ?_ _));exact BK342.out),(by (with_reducible repeat (first|refine bN ?_ _|refine bD ?_|refine bA ?_ _));exact BK360.out),(by (with_reducible repeat (first|refine bN ?_ _|refine bD ?_|refine bA ?_ _));exact BK361.out),GW360.out,GE360.out,NB342_360.out,NB360_342.out,NB361_360.out,NB360_361.out,GW361.out,GE361.out,NB342_361.out,NB361_342.out,(by repeat (first|(with_reducible first|exact HB.out|apply wA|apply wN|apply wD|refine wS ?_ GE342.out|refine wS ?_ GE361.out|refine wS ?_ GE360.out)|exact HB.out))⟩)
            · skip
              rintro gb360 w36 ⟨hS_,h0_,h1_,h2_,h3_,h4_,h5_,h6_⟩
              have n0_ : A0 (w36.heap[gb342]? = some (.cells #[.int .u64 a0_0,.int .u64 a0_1] 24 (0,0))):=⟨h0_⟩
              have n1_ : A0 (w36.heap[gb360]? = some (.cells #[.int .u64 0,.int .u64 0] 24 (0,0))):=⟨h1_⟩
              have n2_ : A0 (w.heap.size ≤ gb360):=⟨h2_⟩
              have n3_ : A0 (w.heap.size ≤ gb360):=⟨h3_⟩
              have n4_ : A0 (gb342 ≠ gb360):=⟨h4_⟩
              have n5_ : A0 (gb360 ≠ gb342):=⟨h5_⟩
              have n6_ : A0 (Below w.heap.size w w36):=⟨h6_⟩
              clear BK342;clear HB;clear h0_ h1_ h2_ h3_ h4_ h5_ h6_;have BK342:=n0_;have BK360:=n1_;have GW360:=n2_;have GE360:=n3_;have NB342_360:=n4_;have NB360_342:=n5_;have HB:=n6_;clear n0_ n1_ n2_ n3_ n4_ n5_ n6_
              have hHeld : w36.cell? ⟨gb342,0,none⟩ = some (.int .u64 a0_0)∧w36.cell? ⟨gb342,1,none⟩ = some (.int .u64 a0_1):=hS_
              refine norm_ (a':=?_) ?_ ?_
              rotate_left
              · simp only [putAll,aP,lT,lZ,lS]
                rfl
              refine one_ (i:=7) (N:=some 8) #[Y,Y,Y,Y,Y,Y,Y,Y,Z,Z] rfl rfl (one_of HT_.out (by kernel_rfl)) (by decide) (fun K hK => ?_)
              refine box_step ?hg (N:=8) ?hd (cs:=#[.int .u64 0,.int .u64 0]) (t:=24) ?hr ?_;(case hd => rfl);(case hg => rfl);(case hr => first|(go_simp;done)|(go_simp;rfl))
              intro gb361 hg w37 hbox hb
              have n0_:=A0.mk (bB (g:=gb342) (o:=.cells #[.int .u64 a0_0,.int .u64 a0_1] 24 (0,0)) (by (with_reducible repeat (first|refine bN ?_ _|refine bD ?_|refine bA ?_ _));exact BK342.out) hb);have n1_:=A0.mk (bB (g:=gb360) (o:=.cells #[.int .u64 0,.int .u64 0] 24 (0,0)) (by (with_reducible repeat (first|refine bN ?_ _|refine bD ?_|refine bA ?_ _));exact BK360.out) hb);have n2_:=A0.mk (wT (by repeat (first|(with_reducible first|exact HB.out|apply wA|apply wN|apply wD|refine wS ?_ GE342.out|refine wS ?_ GE360.out)|exact HB.out)) hb);have n3_:=A0.mk (hbox);have n4_:=A0.mk ((by rw [hg];exact (wZ (by repeat (first|(with_reducible first|exact HB.out|apply wA|apply wN|apply wD|refine wS ?_ GE342.out|refine wS ?_ GE360.out)|exact HB.out))) : w.heap.size ≤ gb361));have n5_:=A0.mk ((by rw [hg];exact (wZ (by repeat (first|(with_reducible first|exact HB.out|apply wA|apply wN|apply wD|refine wS ?_ GE342.out|refine wS ?_ GE360.out)|exact HB.out))) : w.heap.size ≤ gb361));have n6_:=A0.mk ((by rw [hg];exact Nat.ne_of_lt (blk_lt (g:=gb342) (o:=.cells #[.int .u64 a0_0,.int .u64 a0_1] 24 (0,0)) (by (with_reducible repeat (first|refine bN ?_ _|refine bD ?_|refine bA ?_ _));exact BK342.out)) : gb342 ≠ gb361));have n7_:=A0.mk ((by rw [hg];exact Nat.ne_of_gt (blk_lt (g:=gb342) (o:=.cells #[.int .u64 a0_0,.int .u64 a0_1] 24 (0,0)) (by (with_reducible repeat (first|refine bN ?_ _|refine bD ?_|refine bA ?_ _));exact BK342.out)) : gb361 ≠ gb342));have n8_:=A0.mk ((by rw [hg];exact Nat.ne_of_lt (blk_lt (g:=gb360) (o:=.cells #[.int .u64 0,.int .u64 0] 24 (0,0)) (by (with_reducible repeat (first|refine bN ?_ _|refine bD ?_|refine bA ?_ _));exact BK360.out)) : gb360 ≠ gb361));have n9_:=A0.mk ((by rw [hg];exact Nat.ne_of_gt (blk_lt (g:=gb360) (o:=.cells #[.int .u64 0,.int .u64 0] 24 (0,0)) (by (with_reducible repeat (first|refine bN ?_ _|refine bD ?_|refine bA ?_ _));exact BK360.out)) : gb361 ≠ gb360));clear BK342;clear BK360;clear HB;have BK342:=n0_;have BK360:=n1_;have HB:=n2_;have BK361:=n3_;have GW361:=n4_;have GE361:=n5_;have NB342_361:=n6_;have NB361_342:=n7_;have NB360_361:=n8_;have NB361_360:=n9_;clear n0_ n1_ n2_ n3_ n4_ n5_ n6_ n7_ n8_ n9_;clear hb hbox hg
              refine hK.out _ _ ⟨(bC BK342.out 0).trans rfl,(bC BK342.out 1).trans rfl⟩ (fun hHeld => ?_)
              clear hK K
              refine norm_ (a':=?_) ?_ ?_
              rotate_left;(show Act.put _ (some 8) _ = _;simp only [aP,lT,lZ,lS,i64_w,i32_w];rfl)
              exact norm_ (by first|(simp only [putAll,aP,lT,lZ,lS];done)|(simp only [putAll,aP,lT,lZ,lS];rfl)) (hJ2_5_6_7 (gb360,gb361) _ ⟨hHeld,(by (with_reducible repeat (first|refine bN ?_ _|refine bD ?_|refine bA ?_ _));exact BK342.out),(by (with_reducible repeat (first|refine bN ?_ _|refine bD ?_|refine bA ?_ _));exact BK360.out),(by (with_reducible repeat (first|refine bN ?_ _|refine bD ?_|refine bA ?_ _));exact BK361.out),GW360.out,GE360.out,NB342_360.out,NB360_342.out,NB361_360.out,NB360_361.out,GW361.out,GE361.out,NB342_361.out,NB361_342.out,(by repeat (first|(with_reducible first|exact HB.out|apply wA|apply wN|apply wD|refine wS ?_ GE342.out|refine wS ?_ GE360.out|refine wS ?_ GE361.out)|exact HB.out))⟩)
          rintro ⟨gb360,gb361⟩ w37 ⟨hS_,h0_,h1_,h2_,h3_,h4_,h5_,h6_,h7_,h8_,h9_,h10_,h11_,h12_,h13_⟩
          have n0_ : A0 (w37.heap[gb342]? = some (.cells #[.int .u64 a0_0,.int .u64 a0_1] 24 (0,0))):=⟨h0_⟩
          have n1_ : A0 (w37.heap[gb360]? = some (.cells #[.int .u64 0,.int .u64 0] 24 (0,0))):=⟨h1_⟩
          have n2_ : A0 (w37.heap[gb361]? = some (.cells #[.int .u64 0,.int .u64 0] 24 (0,0))):=⟨h2_⟩
          have n3_ : A0 (w.heap.size ≤ gb360):=⟨h3_⟩
          have n4_ : A0 (w.heap.size ≤ gb360):=⟨h4_⟩
          have n5_ : A0 (gb342 ≠ gb360):=⟨h5_⟩
          have n6_ : A0 (gb360 ≠ gb342):=⟨h6_⟩
          have n7_ : A0 (gb361 ≠ gb360):=⟨h7_⟩
          have n8_ : A0 (gb360 ≠ gb361):=⟨h8_⟩
          have n9_ : A0 (w.heap.size ≤ gb361):=⟨h9_⟩
          have n10_ : A0 (w.heap.size ≤ gb361):=⟨h10_⟩
          have n11_ : A0 (gb342 ≠ gb361):=⟨h11_⟩
          have n12_ : A0 (gb361 ≠ gb342):=⟨h12_⟩
          have n13_ : A0 (Below w.heap.size w w37):=⟨h13_⟩
          clear BK342;clear HB;clear h0_ h1_ h2_ h3_ h4_ h5_ h6_ h7_ h8_ h9_ h10_ h11_ h12_ h13_;have BK342:=n0_;have BK360:=n1_;have BK361:=n2_;have GW360:=n3_;have GE360:=n4_;have NB342_360:=n5_;have NB360_342:=n6_;have NB361_360:=n7_;have NB360_361:=n8_;have GW361:=n9_;have GE361:=n10_;have NB342_361:=n11_;have NB361_342:=n12_;have HB:=n13_;clear n0_ n1_ n2_ n3_ n4_ n5_ n6_ n7_ n8_ n9_ n10_ n11_ n12_ n13_
          have hHeld : w37.cell? ⟨gb342,0,none⟩ = some (.int .u64 a0_0)∧w37.cell? ⟨gb342,1,none⟩ = some (.int .u64 a0_1):=hS_
          refine norm_ (a':=?_) ?_ ?_
          rotate_left
          · simp only [putAll,aP,lT,lZ,lS]
            rfl
          refine one_ (i:=8) (N:=none) #[Y,Y,Y,Y,Y,Y,Y,Y,Y,Z] rfl rfl (one_of HT_.out (by kernel_rfl)) (by decide) (fun K hK => ?_)
          have hs38 : w37.cell? ⟨gb360,0,none⟩ = some (.int .u64 0):=(bC BK360.out 0).trans rfl
          have hfs38:=bF BK360.out 0
          have hns38_0:=NB342_360.out
          have hns38_2:=NB361_360.out
          have hms38_0:=NB360_342.out
          have hms38_2:=NB360_361.out
          have hs39 : w37.cell? ⟨gb360,1,none⟩ = some (.int .u64 0):=(bC BK360.out 1).trans rfl
          have hfs39:=bF BK360.out 1
          have hns39_0:=NB342_360.out
          have hns39_2:=NB361_360.out
          have hms39_0:=NB360_342.out
          have hms39_2:=NB360_361.out
          refine skip_ (w1:=?_) (by rfl) rfl ?_ ?_
          rotate_left
          · go_simp
            rfl
          refine hK.out _ _ ⟨((cell_far (p:=⟨gb360,_,none⟩) NB342_360.out _).trans (((cell_far (p:=⟨gb360,_,none⟩) NB342_360.out _).trans (hHeld.1)))),((cell_far (p:=⟨gb360,_,none⟩) NB342_360.out _).trans (((cell_far (p:=⟨gb360,_,none⟩) NB342_360.out _).trans (hHeld.2))))⟩ (fun hHeld => ?_)
          clear hK K
          refine one_ (i:=9) (N:=none) #[Y,Y,Y,Y,Y,Y,Y,Y,Y,Y] rfl rfl (one_of HT_.out (by kernel_rfl)) (by decide) (fun K hK => ?_)
          have hs40 : w37.cell? ⟨gb361,0,none⟩ = some (.int .u64 0):=(bC BK361.out 0).trans rfl
          have hfs40:=bF BK361.out 0
          have hns40_0:=NB342_361.out
          have hns40_1:=NB360_361.out
          have hms40_0:=NB361_342.out
          have hms40_1:=NB361_360.out
          have hs41 : w37.cell? ⟨gb361,1,none⟩ = some (.int .u64 0):=(bC BK361.out 1).trans rfl
          have hfs41:=bF BK361.out 1
          have hns41_0:=NB342_361.out
          have hns41_1:=NB360_361.out
          have hms41_0:=NB361_342.out
          have hms41_1:=NB361_360.out
          refine skip_ (w1:=?_) (by rfl) rfl ?_ ?_
          rotate_left
          · go_simp
            rfl
          refine hK.out _ _ ⟨((cell_far (p:=⟨gb361,_,none⟩) NB342_361.out _).trans (((cell_far (p:=⟨gb361,_,none⟩) NB342_361.out _).trans (hHeld.1)))),((cell_far (p:=⟨gb361,_,none⟩) NB342_361.out _).trans (((cell_far (p:=⟨gb361,_,none⟩) NB342_361.out _).trans (hHeld.2))))⟩ (fun hHeld => ?_)
          clear hK K
          refine done_ (done_of HT_.out (by kernel_rfl)) ?_
          try go_wp2
          have n0_ : A0 (((((w37.setCell ⟨gb360,0,none⟩ (.int .u64 t356)).setCell ⟨gb360,1,none⟩ (.int .u64 t357)).setCell ⟨gb361,0,none⟩ (.int .u64 t358)).setCell ⟨gb361,1,none⟩ (.int .u64 t359)).heap[gb342]? = some (.cells #[.int .u64 a0_0,.int .u64 a0_1] 24 (0,0))):=⟨by (with_reducible repeat (first|refine bN ?_ _|refine bD ?_|refine bA ?_ _));refine bR ?_ NB342_361.out _;(with_reducible repeat (first|refine bN ?_ _|refine bD ?_|refine bA ?_ _));refine bR ?_ NB342_361.out _;(with_reducible repeat (first|refine bN ?_ _|refine bD ?_|refine bA ?_ _));refine bR ?_ NB342_360.out _;(with_reducible repeat (first|refine bN ?_ _|refine bD ?_|refine bA ?_ _));refine bR ?_ NB342_360.out _;(with_reducible repeat (first|refine bN ?_ _|refine bD ?_|refine bA ?_ _));exact BK342.out⟩
          have n1_ : A0 (((((w37.setCell ⟨gb360,0,none⟩ (.int .u64 t356)).setCell ⟨gb360,1,none⟩ (.int .u64 t357)).setCell ⟨gb361,0,none⟩ (.int .u64 t358)).setCell ⟨gb361,1,none⟩ (.int .u64 t359)).heap[gb360]? = some (.cells #[.int .u64 t356,.int .u64 t357] 24 (0,0))):=⟨by (with_reducible repeat (first|refine bN ?_ _|refine bD ?_|refine bA ?_ _));refine bR ?_ NB360_361.out _;(with_reducible repeat (first|refine bN ?_ _|refine bD ?_|refine bA ?_ _));refine bR ?_ NB360_361.out _;(with_reducible repeat (first|refine bN ?_ _|refine bD ?_|refine bA ?_ _));refine bP (cs:=#[.int .u64 t356,.int .u64 0]) ?_ 1 _ rfl;(with_reducible repeat (first|refine bN ?_ _|refine bD ?_|refine bA ?_ _));refine bP (cs:=#[.int .u64 0,.int .u64 0]) ?_ 0 _ rfl;(with_reducible repeat (first|refine bN ?_ _|refine bD ?_|refine bA ?_ _));exact BK360.out⟩
          have n2_ : A0 (((((w37.setCell ⟨gb360,0,none⟩ (.int .u64 t356)).setCell ⟨gb360,1,none⟩ (.int .u64 t357)).setCell ⟨gb361,0,none⟩ (.int .u64 t358)).setCell ⟨gb361,1,none⟩ (.int .u64 t359)).heap[gb361]? = some (.cells #[.int .u64 t358,.int .u64 t359] 24 (0,0))):=⟨by (with_reducible repeat (first|refine bN ?_ _|refine bD ?_|refine bA ?_ _));refine bP (cs:=#[.int .u64 t358,.int .u64 0]) ?_ 1 _ rfl;(with_reducible repeat (first|refine bN ?_ _|refine bD ?_|refine bA ?_ _));refine bP (cs:=#[.int .u64 0,.int .u64 0]) ?_ 0 _ rfl;(with_reducible repeat (first|refine bN ?_ _|refine bD ?_|refine bA ?_ _));refine bR ?_ NB361_360.out _;(with_reducible repeat (first|refine bN ?_ _|refine bD ?_|refine bA ?_ _));refine bR ?_ NB361_360.out _;(with_reducible repeat (first|refine bN ?_ _|refine bD ?_|refine bA ?_ _));exact BK361.out⟩
          have n3_ : A0 (Below w.heap.size w ((((w37.setCell ⟨gb360,0,none⟩ (.int .u64 t356)).setCell ⟨gb360,1,none⟩ (.int .u64 t357)).setCell ⟨gb361,0,none⟩ (.int .u64 t358)).setCell ⟨gb361,1,none⟩ (.int .u64 t359))):=⟨by repeat (first|(with_reducible first|exact HB.out|apply wA|apply wN|apply wD|refine wS ?_ GE342.out|refine wS ?_ GE360.out|refine wS ?_ GE361.out)|exact HB.out)⟩
          (try clear BK342);(try clear BK360);(try clear BK361);(try clear HB)
          generalize ((((w37.setCell ⟨gb360,0,none⟩ (.int .u64 t356)).setCell ⟨gb360,1,none⟩ (.int .u64 t357)).setCell ⟨gb361,0,none⟩ (.int .u64 t358)).setCell ⟨gb361,1,none⟩ (.int .u64 t359)) = w42 at n0_ n1_ n2_ n3_ ⊢
          have BK342:=n0_;have BK360:=n1_;have BK361:=n2_;have HB:=n3_;clear n0_ n1_ n2_ n3_;have n0_:=A0.mk (bD BK342.out);have n1_:=A0.mk (bD BK360.out);have n2_:=A0.mk (bD BK361.out);have n3_:=A0.mk (wD HB.out);clear BK342;clear BK360;clear BK361;clear HB;have BK342:=n0_;have BK360:=n1_;have BK361:=n2_;have HB:=n3_;clear n0_ n1_ n2_ n3_
          refine start_ (n:=6) (S:=fun w' => w'.cell? ⟨gb360,0,none⟩ = some (.int .u64 t356)∧w'.cell? ⟨gb360,1,none⟩ = some (.int .u64 t357)∧w'.cell? ⟨gb342,0,none⟩ = some (.int .u64 a0_0)∧w'.cell? ⟨gb342,1,none⟩ = some (.int .u64 a0_1)) (ds:=[]) #[Z,Z,Z,Z,Z,Z] (by kernel_rfl) rfl rfl ⟨(bC BK360.out 0).trans rfl,(bC BK360.out 1).trans rfl,(bC BK342.out 0).trans rfl,(bC BK342.out 1).trans rfl⟩ (fun hHeld => ?_)
          generalize w42.drew = w43 at BK342 BK360 BK361 HB hHeld ⊢
          refine pure_ (i:=1) (N:=some 50) (v:=?_) (a':=?_) #[Z,Y,Z,Z,Z,Z] rfl rfl (by kernel_rfl) (fun _ _ _ h => h) (Or.inl ⟨by rfl,?_⟩) ?_ ?_
          rotate_left;(intro w';go_simp;with_reducible rfl);rotate_left;(simp only [aP,lT,lZ,lS,i64_w,i32_w];rfl)
          refine take_ (i:=0) (N:=some 49) (v:=?_) (a':=?_) #[Y,Y,Z,Z,Z,Z] rfl rfl (by kernel_rfl) (fun _ _ _ h => h) (Or.inl ⟨by rfl,?_⟩) hHeld ?_ ?_
          rotate_left;(rintro w' ⟨s0,s1,s2,s3⟩;go_simp;with_reducible rfl);rotate_left;(simp only [aP,lT,lZ,lS,i64_w,i32_w];rfl)
          refine take_ (i:=3) (N:=some 52) (v:=?_) (a':=?_) #[Y,Y,Z,Y,Z,Z] rfl rfl (by kernel_rfl) (fun _ _ _ h => h) (Or.inl ⟨by rfl,?_⟩) hHeld ?_ ?_
          rotate_left;(rintro w' ⟨s0,s1,s2,s3⟩;go_simp;with_reducible rfl);rotate_left;(simp only [aP,lT,lZ,lS,i64_w,i32_w];rfl)
          refine one_ (i:=2) (N:=some 51) #[Y,Y,Y,Y,Z,Z] rfl rfl (by kernel_rfl) (by decide) (fun K hK => ?_)
          refine goes_ Try.func25 (by kernel_rfl) rfl #[.agg #[.int .u64 t356,.int .u64 t357],.int .i64 (Go.bits .and .i64 a2 255)] (by rfl) rfl rfl (by (try simp only [mT,mC,mN]);first|done|rfl|(simp only [lD,lK];rfl)) ?_
          with_reducible refine (wide_Shl.calls t356 t357 (Go.bits .and .i64 a2 255) t362 t363 _ A30.out).mono ?_
          rintro e w44 ⟨rfl,hb⟩;refine ⟨_,rfl,?_⟩;have n0_:=A0.mk (bB (g:=gb342) (o:=.cells #[.int .u64 a0_0,.int .u64 a0_1] 24 (0,0)) (by (with_reducible repeat (first|refine bN ?_ _|refine bD ?_|refine bA ?_ _));exact BK342.out) hb);have n1_:=A0.mk (bB (g:=gb360) (o:=.cells #[.int .u64 t356,.int .u64 t357] 24 (0,0)) (by (with_reducible repeat (first|refine bN ?_ _|refine bD ?_|refine bA ?_ _));exact BK360.out) hb);have n2_:=A0.mk (bB (g:=gb361) (o:=.cells #[.int .u64 t358,.int .u64 t359] 24 (0,0)) (by (with_reducible repeat (first|refine bN ?_ _|refine bD ?_|refine bA ?_ _));exact BK361.out) hb);have n3_:=A0.mk (wT (by repeat (first|(with_reducible first|exact HB.out|apply wA|apply wN|apply wD|refine wS ?_ GE342.out|refine wS ?_ GE360.out|refine wS ?_ GE361.out)|exact HB.out)) hb);clear BK342;clear BK360;clear BK361;clear HB;have BK342:=n0_;have BK360:=n1_;have BK361:=n2_;have HB:=n3_;clear n0_ n1_ n2_ n3_;(try clear hb);(try clear hb2);(try clear hk);(try clear hi)
          refine hK.out _ _ ⟨(bC BK360.out 0).trans rfl,(bC BK360.out 1).trans rfl,(bC BK342.out 0).trans rfl,(bC BK342.out 1).trans rfl⟩ (fun hHeld => ?_)
          clear hK K
          refine norm_ (a':=?_) ?_ ?_
          rotate_left;(show Act.put _ (some 51) _ = _;simp only [aP,lT,lZ,lS,i64_w,i32_w];rfl)
          refine pure_ (i:=4) (N:=some 53) (v:=?_) (a':=?_) #[Y,Y,Y,Y,Y,Z] rfl rfl (by kernel_rfl) (fun _ _ _ h => h) (Or.inl ⟨by rfl,?_⟩) ?_ ?_
          rotate_left;(intro w';go_simp;with_reducible rfl);rotate_left;(simp only [aP,lT,lZ,lS,i64_w,i32_w];rfl)
          refine pure_ (i:=5) (N:=some 9) (v:=?_) (a':=?_) #[Y,Y,Y,Y,Y,Y] rfl rfl (by kernel_rfl) (fun _ _ _ h => h) (Or.inl ⟨by rfl,?_⟩) ?_ ?_
          rotate_left;(intro w';go_simp;with_reducible rfl);rotate_left;(simp only [aP,lT,lZ,lS,i64_w,i32_w];rfl)
          refine done_ (by kernel_rfl) ?_
          go_upto_if 55 with (fail)
          go_cut [9] (fun v9 wc => ∃ (kq : Nat) (x9_30 : Bool),v9 = .bool x9_30∧A0 (vernierlaw01_WideJams.j1 kq (Go.bits .and .i64 a2 255) x9_30 a0_0 a0_1 t356 t357 t358 t359 = some r)∧A0 (kq ≤ kj5)∧A0 (wc.heap[gb342]? = some (.cells #[.int .u64 a0_0,.int .u64 a0_1] 24 (0,0)))∧A0 (wc.heap[gb360]? = some (.cells #[.int .u64 t356,.int .u64 t357] 24 (0,0)))∧A0 (wc.heap[gb361]? = some (.cells #[.int .u64 t358,.int .u64 t359] 24 (0,0)))∧A0 (Below w.heap.size w wc))
          case first =>
            have H:=HC31.out
            clear HC31
            by_cases c45 : (Go.bits .and .i64 a2 255) ≥ 128
            · rw [if_pos c45] at H
              have c45b0 : decide (128 ≤ (Go.bits .and .i64 a2 255)) = true:=decide_eq_true c45
              clear c45
              (first|rw [c45b0]|(simp only [i64_w,i32_w];rw [c45b0])|skip)
              have H':=A0.mk H
              clear H
              have hnb46:=NB342_360.out
              have hnc46:=NB360_342.out
              have hnb47:=NB342_361.out
              have hnc47:=NB361_342.out
              have hcz48_0 : w44.cell? ⟨gb342,0,none⟩ = some (.int .u64 a0_0):=(bC BK342.out 0).trans rfl
              have hcz48_1 : w44.cell? ⟨gb342,1,none⟩ = some (.int .u64 a0_1):=(bC BK342.out 1).trans rfl
              have hfz48_0:=bF BK342.out 0
              have hfz48_1:=bF BK342.out 1
              go_wp2
              go_meet
              case rel => exact ⟨_,((!(a0_0 == 0) || (!(a0_1 == 0)))),(by first|rfl|(simp;done)|(simp [*];done)),H',⟨by have:=HJ5.out;first|omega|exact Nat.le_refl _⟩,⟨by (with_reducible repeat (first|refine bN ?_ _|refine bD ?_|refine bA ?_ _));exact BK342.out⟩,⟨by (with_reducible repeat (first|refine bN ?_ _|refine bD ?_|refine bA ?_ _));exact BK360.out⟩,⟨by (with_reducible repeat (first|refine bN ?_ _|refine bD ?_|refine bA ?_ _));exact BK361.out⟩,⟨by repeat (first|(with_reducible first|exact HB.out|apply wA|apply wN|apply wD|refine wS ?_ GE342.out|refine wS ?_ GE360.out|refine wS ?_ GE361.out)|exact HB.out)⟩⟩
            · rw [if_neg c45] at H
              have c45b0 : decide (128 ≤ (Go.bits .and .i64 a2 255)) = false:=decide_eq_false c45
              clear c45
              (first|rw [c45b0]|(simp only [i64_w,i32_w];rw [c45b0])|skip)
              have H':=A0.mk H
              clear H
              go_wp2
              go_meet
              case rel => exact ⟨_,((!(t362 == a0_0) || (!(t363 == a0_1)))),(by first|rfl|(simp;done)|(simp [*];done)),H',⟨by have:=HJ5.out;first|omega|exact Nat.le_refl _⟩,⟨by (with_reducible repeat (first|refine bN ?_ _|refine bD ?_|refine bA ?_ _));exact BK342.out⟩,⟨by (with_reducible repeat (first|refine bN ?_ _|refine bD ?_|refine bA ?_ _));exact BK360.out⟩,⟨by (with_reducible repeat (first|refine bN ?_ _|refine bD ?_|refine bA ?_ _));exact BK361.out⟩,⟨by repeat (first|(with_reducible first|exact HB.out|apply wA|apply wN|apply wD|refine wS ?_ GE342.out|refine wS ?_ GE360.out|refine wS ?_ GE361.out)|exact HB.out)⟩⟩
          case rest =>
            clear HC31
            try clear c2
            try clear p2
            try clear c4
            try clear c25
            try clear c29
            try clear c45
            try clear c45b0
            try clear c46
            try clear c47
            try clear hcz48_0
            try clear hcz48_1
            try clear hfz48_0
            try clear hfz48_1
            obtain ⟨kq,x9_30,rfl,HA,HJ30,BK342,BK360,BK361,HB⟩:=hcut
            cases kq with
            | zero => exact absurd HA.out (by simp [vernierlaw01_WideJams.j1])
            | succ kj30 =>
              have H:=HA.out
              clear HA
              simp only [vernierlaw01_WideJams.j1] at H
              have HC49:=A0.mk H;clear H
              have hnb50:=NB360_342.out
              have hnc50:=NB342_360.out
              have hnb51:=NB360_361.out
              have hnc51:=NB361_360.out
              have hcz52_0 : wc.cell? ⟨gb360,0,none⟩ = some (.int .u64 t356):=(bC BK360.out 0).trans rfl
              have hcz52_1 : wc.cell? ⟨gb360,1,none⟩ = some (.int .u64 t357):=(bC BK360.out 1).trans rfl
              have hfz52_0:=bF BK360.out 0
              have hfz52_1:=bF BK360.out 1
              go_upto_if 60 with (first|((with_reducible refine gD (N:=10) rfl ?_);refine bE ?hg (N:=10) ?hd (cs:=#[.int .u64 0,.int .u64 0]) (t:=24) ?hr ?_;(case hd => rfl);(case hg => rfl);(case hr => first|(go_simp;done)|(go_simp;rfl));intro gb364 hg w53 hbox hb;have n0_:=A0.mk (bB (g:=gb342) (o:=.cells #[.int .u64 a0_0,.int .u64 a0_1] 24 (0,0)) (by (with_reducible repeat (first|refine bN ?_ _|refine bD ?_|refine bA ?_ _));exact BK342.out) hb);have n1_:=A0.mk (bB (g:=gb360) (o:=.cells #[.int .u64 t356,.int .u64 t357] 24 (0,0)) (by (with_reducible repeat (first|refine bN ?_ _|refine bD ?_|refine bA ?_ _));exact BK360.out) hb);have n2_:=A0.mk (bB (g:=gb361) (o:=.cells #[.int .u64 t358,.int .u64 t359] 24 (0,0)) (by (with_reducible repeat (first|refine bN ?_ _|refine bD ?_|refine bA ?_ _));exact BK361.out) hb);have n3_:=A0.mk (wT (by repeat (first|(with_reducible first|exact HB.out|apply wA|apply wN|apply wD|refine wS ?_ GE342.out|refine wS ?_ GE360.out|refine wS ?_ GE361.out)|exact HB.out)) hb);have n4_:=A0.mk (hbox);have n5_:=A0.mk ((by rw [hg];exact (wZ (by repeat (first|(with_reducible first|exact HB.out|apply wA|apply wN|apply wD|refine wS ?_ GE342.out|refine wS ?_ GE360.out|refine wS ?_ GE361.out)|exact HB.out))) : w.heap.size ≤ gb364));have n6_:=A0.mk ((by rw [hg];exact (wZ (by repeat (first|(with_reducible first|exact HB.out|apply wA|apply wN|apply wD|refine wS ?_ GE342.out|refine wS ?_ GE360.out|refine wS ?_ GE361.out)|exact HB.out))) : w.heap.size ≤ gb364));have n7_:=A0.mk ((by rw [hg];exact Nat.ne_of_lt (blk_lt (g:=gb342) (o:=.cells #[.int .u64 a0_0,.int .u64 a0_1] 24 (0,0)) (by (with_reducible repeat (first|refine bN ?_ _|refine bD ?_|refine bA ?_ _));exact BK342.out)) : gb342 ≠ gb364));have n8_:=A0.mk ((by rw [hg];exact Nat.ne_of_gt (blk_lt (g:=gb342) (o:=.cells #[.int .u64 a0_0,.int .u64 a0_1] 24 (0,0)) (by (with_reducible repeat (first|refine bN ?_ _|refine bD ?_|refine bA ?_ _));exact BK342.out)) : gb364 ≠ gb342));have n9_:=A0.mk ((by rw [hg];exact Nat.ne_of_lt (blk_lt (g:=gb360) (o:=.cells #[.int .u64 t356,.int .u64 t357] 24 (0,0)) (by (with_reducible repeat (first|refine bN ?_ _|refine bD ?_|refine bA ?_ _));exact BK360.out)) : gb360 ≠ gb364));have n10_:=A0.mk ((by rw [hg];exact Nat.ne_of_gt (blk_lt (g:=gb360) (o:=.cells #[.int .u64 t356,.int .u64 t357] 24 (0,0)) (by (with_reducible repeat (first|refine bN ?_ _|refine bD ?_|refine bA ?_ _));exact BK360.out)) : gb364 ≠ gb360));have n11_:=A0.mk ((by rw [hg];exact Nat.ne_of_lt (blk_lt (g:=gb361) (o:=.cells #[.int .u64 t358,.int .u64 t359] 24 (0,0)) (by (with_reducible repeat (first|refine bN ?_ _|refine bD ?_|refine bA ?_ _));exact BK361.out)) : gb361 ≠ gb364));have n12_:=A0.mk ((by rw [hg];exact Nat.ne_of_gt (blk_lt (g:=gb361) (o:=.cells #[.int .u64 t358,.int .u64 t359] 24 (0,0)) (by (with_reducible repeat (first|refine bN ?_ _|refine bD ?_|refine bA ?_ _));exact BK361.out)) : gb364 ≠ gb361));clear BK342;clear BK360;clear BK361;clear HB;have BK342:=n0_;have BK360:=n1_;have BK361:=n2_;have HB:=n3_;have BK364:=n4_;have GW364:=n5_;have GE364:=n6_;have NB342_364:=n7_;have NB364_342:=n8_;have NB360_364:=n9_;have NB364_360:=n10_;have NB361_364:=n11_;have NB364_361:=n12_;clear n0_ n1_ n2_ n3_ n4_ n5_ n6_ n7_ n8_ n9_ n10_ n11_ n12_;clear hb hbox hg;have hnb54:=NB364_342.out;have hnc54:=NB342_364.out;have hnb55:=NB364_360.out;have hnc55:=NB360_364.out;have hnb56:=NB364_361.out;have hnc56:=NB361_364.out;have hcz57_0 : w53.cell? ⟨gb364,0,none⟩ = some (.int .u64 0):=(bC BK364.out 0).trans rfl;have hcz57_1 : w53.cell? ⟨gb364,1,none⟩ = some (.int .u64 0):=(bC BK364.out 1).trans rfl;have hfz57_0:=bF BK364.out 0;have hfz57_1:=bF BK364.out 1))
              (try simp only [aP,lT,lZ,lS])
              go_cut [] (fun wc => ∃ (kq : Nat) (x365001_48 : Int),A0 (vernierlaw01_WideJams.j2 kq (Go.bits .and .i64 a2 255) a0_0 a0_1 t358 t359 t356 x365001_48 = some r)∧A0 (kq ≤ kj30)∧A0 (wc.heap[gb342]? = some (.cells #[.int .u64 a0_0,.int .u64 a0_1] 24 (0,0)))∧A0 (wc.heap[gb360]? = some (.cells #[.int .u64 t356,.int .u64 t357] 24 (0,0)))∧A0 (wc.heap[gb361]? = some (.cells #[.int .u64 t358,.int .u64 t359] 24 (0,0)))∧A0 (wc.heap[gb364]? = some (.cells #[.int .u64 t356,.int .u64 x365001_48] 24 (0,0)))∧A0 (Below w.heap.size w wc))
              case first =>
                have H:=HC49.out
                clear HC49
                by_cases c58 : x9_30 = true
                · subst c58
                  have H1 : (vernierlaw01_WideJams.j2 kj30 (Go.bits .and .i64 a2 255) a0_0 a0_1 t358 t359 t356 (Go.bits .or .u64 t357 1)) = some r:=by rw [if_pos rfl] at H;exact H
                  clear H;have H:=H1;clear H1
                  have H':=A0.mk H
                  clear H
                  have hnb59:=NB364_342.out
                  have hnc59:=NB342_364.out
                  have hnb60:=NB364_360.out
                  have hnc60:=NB360_364.out
                  have hnb61:=NB364_361.out
                  have hnc61:=NB361_364.out
                  have hcz62_0 : w53.cell? ⟨gb364,0,none⟩ = some (.int .u64 0):=(bC BK364.out 0).trans rfl
                  have hcz62_1 : w53.cell? ⟨gb364,1,none⟩ = some (.int .u64 0):=(bC BK364.out 1).trans rfl
                  have hfz62_0:=bF BK364.out 0
                  have hfz62_1:=bF BK364.out 1
                  go_wp2
                  go_meet
                  case rel => exact ⟨_,(Go.bits .or .u64 t357 1),H',⟨by have:=HJ5.out;have:=HJ30.out;first|omega|exact Nat.le_refl _⟩,⟨by (with_reducible repeat (first|refine bN ?_ _|refine bD ?_|refine bA ?_ _));refine bR ?_ NB342_364.out _;(with_reducible repeat (first|refine bN ?_ _|refine bD ?_|refine bA ?_ _));refine bR ?_ NB342_364.out _;(with_reducible repeat (first|refine bN ?_ _|refine bD ?_|refine bA ?_ _));refine bR ?_ NB342_364.out _;(with_reducible repeat (first|refine bN ?_ _|refine bD ?_|refine bA ?_ _));exact BK342.out⟩,⟨by (with_reducible repeat (first|refine bN ?_ _|refine bD ?_|refine bA ?_ _));refine bR ?_ NB360_364.out _;(with_reducible repeat (first|refine bN ?_ _|refine bD ?_|refine bA ?_ _));refine bR ?_ NB360_364.out _;(with_reducible repeat (first|refine bN ?_ _|refine bD ?_|refine bA ?_ _));refine bR ?_ NB360_364.out _;(with_reducible repeat (first|refine bN ?_ _|refine bD ?_|refine bA ?_ _));exact BK360.out⟩,⟨by (with_reducible repeat (first|refine bN ?_ _|refine bD ?_|refine bA ?_ _));refine bR ?_ NB361_364.out _;(with_reducible repeat (first|refine bN ?_ _|refine bD ?_|refine bA ?_ _));refine bR ?_ NB361_364.out _;(with_reducible repeat (first|refine bN ?_ _|refine bD ?_|refine bA ?_ _));refine bR ?_ NB361_364.out _;(with_reducible repeat (first|refine bN ?_ _|refine bD ?_|refine bA ?_ _));exact BK361.out⟩,⟨by (with_reducible repeat (first|refine bN ?_ _|refine bD ?_|refine bA ?_ _));refine bP (cs:=#[.int .u64 t356,.int .u64 t357]) ?_ 1 _ rfl;(with_reducible repeat (first|refine bN ?_ _|refine bD ?_|refine bA ?_ _));refine bP (cs:=#[.int .u64 t356,.int .u64 0]) ?_ 1 _ rfl;(with_reducible repeat (first|refine bN ?_ _|refine bD ?_|refine bA ?_ _));refine bP (cs:=#[.int .u64 0,.int .u64 0]) ?_ 0 _ rfl;(with_reducible repeat (first|refine bN ?_ _|refine bD ?_|refine bA ?_ _));exact BK364.out⟩,⟨by repeat (first|(with_reducible first|exact HB.out|apply wA|apply wN|apply wD|refine wS ?_ GE342.out|refine wS ?_ GE360.out|refine wS ?_ GE361.out|refine wS ?_ GE364.out)|exact HB.out)⟩⟩
                · replace c58:=Bool.eq_false_iff.mpr c58
                  subst c58
                  have H1 : (vernierlaw01_WideJams.j2 kj30 (Go.bits .and .i64 a2 255) a0_0 a0_1 t358 t359 t356 t357) = some r:=by rw [if_neg (show ¬ (false = true) by decide)] at H;exact H
                  clear H;have H:=H1;clear H1
                  have H':=A0.mk H
                  clear H
                  go_wp2
                  go_meet
                  case rel => exact ⟨_,(t357),H',⟨by have:=HJ5.out;have:=HJ30.out;first|omega|exact Nat.le_refl _⟩,⟨by (with_reducible repeat (first|refine bN ?_ _|refine bD ?_|refine bA ?_ _));refine bR ?_ NB342_364.out _;(with_reducible repeat (first|refine bN ?_ _|refine bD ?_|refine bA ?_ _));refine bR ?_ NB342_364.out _;(with_reducible repeat (first|refine bN ?_ _|refine bD ?_|refine bA ?_ _));exact BK342.out⟩,⟨by (with_reducible repeat (first|refine bN ?_ _|refine bD ?_|refine bA ?_ _));refine bR ?_ NB360_364.out _;(with_reducible repeat (first|refine bN ?_ _|refine bD ?_|refine bA ?_ _));refine bR ?_ NB360_364.out _;(with_reducible repeat (first|refine bN ?_ _|refine bD ?_|refine bA ?_ _));exact BK360.out⟩,⟨by (with_reducible repeat (first|refine bN ?_ _|refine bD ?_|refine bA ?_ _));refine bR ?_ NB361_364.out _;(with_reducible repeat (first|refine bN ?_ _|refine bD ?_|refine bA ?_ _));refine bR ?_ NB361_364.out _;(with_reducible repeat (first|refine bN ?_ _|refine bD ?_|refine bA ?_ _));exact BK361.out⟩,⟨by (with_reducible repeat (first|refine bN ?_ _|refine bD ?_|refine bA ?_ _));refine bP (cs:=#[.int .u64 t356,.int .u64 0]) ?_ 1 _ rfl;(with_reducible repeat (first|refine bN ?_ _|refine bD ?_|refine bA ?_ _));refine bP (cs:=#[.int .u64 0,.int .u64 0]) ?_ 0 _ rfl;(with_reducible repeat (first|refine bN ?_ _|refine bD ?_|refine bA ?_ _));exact BK364.out⟩,⟨by repeat (first|(with_reducible first|exact HB.out|apply wA|apply wN|apply wD|refine wS ?_ GE342.out|refine wS ?_ GE360.out|refine wS ?_ GE361.out|refine wS ?_ GE364.out)|exact HB.out)⟩⟩
              case rest =>
                clear HC49
                try clear c2
                try clear p2
                try clear c4
                try clear c5
                try clear c6
                try clear c25
                try clear c29
                try clear c45
                try clear c45b0
                try clear c46
                try clear c47
                try clear c50
                try clear c51
                try clear c54
                try clear c55
                try clear c56
                try clear c58
                try clear c59
                try clear c60
                try clear c61
                try clear hcz48_0
                try clear hcz48_1
                try clear hcz52_0
                try clear hcz52_1
                try clear hcz57_0
                try clear hcz57_1
                try clear hcz62_0
                try clear hcz62_1
                try clear hfz48_0
                try clear hfz48_1
                try clear hfz52_0
                try clear hfz52_1
                try clear hfz57_0
                try clear hfz57_1
                try clear hfz62_0
                try clear hfz62_1
                try clear p2
                obtain ⟨kq,x365001_48,HA,HJ48,BK342,BK360,BK361,BK364,HB⟩:=hcut
                cases kq with
                | zero => exact absurd HA.out (by simp [vernierlaw01_WideJams.j2])
                | succ kj48 =>
                  have H:=HA.out
                  clear HA
                  simp only [vernierlaw01_WideJams.j2] at H
                  by_cases c63 : (!(t358 == t356) || (!(t359 == x365001_48))) = true
                  · rw [if_pos c63] at H
                    exact absurd H (by simp)
                  · rw [if_neg c63] at H
                    have c63b0 : (!(t358 == t356) || (!(t359 == x365001_48))) = false:=by simpa using c63
                    clear c63;replace H:=Option.bind_eq_some_iff.mp H;obtain ⟨⟨t365,t366⟩,A640,H⟩:=H
                    replace H : (if (a0_0 == 0 && (a0_1 == 0)) = true then ((wide_Shr.f t365 t366 (Go.bits .and .i64 a2 255)).bind fun bt368 => (if ((bt368.1 == a0_0 && (bt368.2 == a0_1)) == true) = true then (if (t365 == 0 && (t366 == 0)) = true then (some true) else ((wide_Len.f t365 t366).bind fun t370 => ((wide_Len.f a0_0 a0_1).bind fun t371 => (some (t370 == (wrap64 (t371 + (Go.bits .and .i64 a2 255)))))))) else (none))) else ((wide_Len.f a0_0 a0_1).bind fun t372 => ((wide_Shr.f t365 t366 (Go.bits .and .i64 a2 255)).bind fun bt373 => (if ((bt373.1 == a0_0 && (bt373.2 == a0_1)) == (decide ((wrap64 (t372 + (Go.bits .and .i64 a2 255))) ≤ 128))) = true then (if ((wrap64 (t372 + (Go.bits .and .i64 a2 255))) ≤ 128) then (if (t365 == 0 && (t366 == 0)) = true then (some true) else ((wide_Len.f t365 t366).bind fun t375 => ((wide_Len.f a0_0 a0_1).bind fun t376 => (some (t375 == (wrap64 (t376 + (Go.bits .and .i64 a2 255)))))))) else (some true)) else (none))))) = some r:=H
                    have A64:=A0.mk A640;clear A640
                    by_cases c65 : (a0_0 == 0 && (a0_1 == 0)) = true
                    · rw [if_pos c65] at H
                      have c65b0 : (a0_0 == 0 && (a0_1 == 0)) = true:=c65
                      (try (have c65b1 : decide (a0_0 = 0 && (a0_1 == 0)) = true:=by simpa using c65))
                      (try (have c65b2 : (a0_0 == 0 && (a0_1 == 0)) = true:=by simpa using c65))
                      clear c65;replace H:=Option.bind_eq_some_iff.mp H;obtain ⟨⟨t368,t369⟩,A660,H⟩:=H
                      replace H : (if ((t368 == a0_0 && (t369 == a0_1)) == true) = true then (if (t365 == 0 && (t366 == 0)) = true then (some true) else ((wide_Len.f t365 t366).bind fun t370 => ((wide_Len.f a0_0 a0_1).bind fun t371 => (some (t370 == (wrap64 (t371 + (Go.bits .and .i64 a2 255)))))))) else (none)) = some r:=H
                      have A66:=A0.mk A660;clear A660
                      by_cases c67 : ((t368 == a0_0 && (t369 == a0_1)) == true) = true
                      · rw [if_pos c67] at H
                        have c67b0 : ((t368 == a0_0 && (t369 == a0_1)) == true) = true:=c67
                        (try (have c67b1 : decide ((t368 == a0_0 && (t369 == a0_1)) = true) = true:=by simpa using c67))
                        (try (have c67b2 : ((t368 == a0_0 && (t369 == a0_1)) == true) = true:=by simpa using c67))
                        clear c67
                        by_cases c68 : (t365 == 0 && (t366 == 0)) = true
                        · rw [if_pos c68] at H
                          have c68b0 : (t365 == 0 && (t366 == 0)) = true:=c68
                          (try (have c68b1 : decide (t365 = 0 && (t366 == 0)) = true:=by simpa using c68))
                          (try (have c68b2 : (t365 == 0 && (t366 == 0)) = true:=by simpa using c68))
                          clear c68;obtain rfl:=Option.some.inj H
                          have hnb69:=NB361_342.out
                          have hnc69:=NB342_361.out
                          have hnb70:=NB361_360.out
                          have hnc70:=NB360_361.out
                          have hnb71:=NB361_364.out
                          have hnc71:=NB364_361.out
                          have hcz72_0 : wc.cell? ⟨gb361,0,none⟩ = some (.int .u64 t358):=(bC BK361.out 0).trans rfl
                          have hcz72_1 : wc.cell? ⟨gb361,1,none⟩ = some (.int .u64 t359):=(bC BK361.out 1).trans rfl
                          have hfz72_0:=bF BK361.out 0
                          have hfz72_1:=bF BK361.out 1
                          have hnb73:=NB364_342.out
                          have hnc73:=NB342_364.out
                          have hnb74:=NB364_360.out
                          have hnc74:=NB360_364.out
                          have hcz75_0 : wc.cell? ⟨gb364,0,none⟩ = some (.int .u64 t356):=(bC BK364.out 0).trans rfl
                          have hcz75_1 : wc.cell? ⟨gb364,1,none⟩ = some (.int .u64 x365001_48):=(bC BK364.out 1).trans rfl
                          have hfz75_0:=bF BK364.out 0
                          have hfz75_1:=bF BK364.out 1
                          have hnb76:=NB342_360.out
                          have hnc76:=NB360_342.out
                          have hcz77_0 : wc.cell? ⟨gb342,0,none⟩ = some (.int .u64 a0_0):=(bC BK342.out 0).trans rfl
                          have hcz77_1 : wc.cell? ⟨gb342,1,none⟩ = some (.int .u64 a0_1):=(bC BK342.out 1).trans rfl
                          have hfz77_0:=bF BK342.out 0
                          have hfz77_1:=bF BK342.out 1
                          try go_wp2_with (first|((with_reducible refine gC (f:=25) rfl ?_);refine goesL_ (some 70) rfl rfl Try.func25 (by kernel_rfl) rfl #[.agg #[.int .u64 a0_0,.int .u64 a0_1],.int .i64 (Go.bits .and .i64 a2 255)] rfl (by (try simp only [mT,mC,mN]);first|done|rfl|(simp only [lD,lK];rfl)) ?_;(with_reducible refine (wide_Shl.calls a0_0 a0_1 (Go.bits .and .i64 a2 255) t365 t366 _ A64.out).mono ?_);rintro e w78 ⟨rfl,hb⟩;refine ⟨_,rfl,?_⟩;have n0_:=A0.mk (bB (g:=gb342) (o:=.cells #[.int .u64 a0_0,.int .u64 a0_1] 24 (0,0)) (by (with_reducible repeat (first|refine bN ?_ _|refine bD ?_|refine bA ?_ _));exact BK342.out) hb);have n1_:=A0.mk (bB (g:=gb360) (o:=.cells #[.int .u64 t356,.int .u64 t357] 24 (0,0)) (by (with_reducible repeat (first|refine bN ?_ _|refine bD ?_|refine bA ?_ _));exact BK360.out) hb);have n2_:=A0.mk (bB (g:=gb361) (o:=.cells #[.int .u64 t358,.int .u64 t359] 24 (0,0)) (by (with_reducible repeat (first|refine bN ?_ _|refine bD ?_|refine bA ?_ _));exact BK361.out) hb);have n3_:=A0.mk (bB (g:=gb364) (o:=.cells #[.int .u64 t356,.int .u64 x365001_48] 24 (0,0)) (by (with_reducible repeat (first|refine bN ?_ _|refine bD ?_|refine bA ?_ _));exact BK364.out) hb);have n4_:=A0.mk (wT (by repeat (first|(with_reducible first|exact HB.out|apply wA|apply wN|apply wD|refine wS ?_ GE342.out|refine wS ?_ GE360.out|refine wS ?_ GE361.out|refine wS ?_ GE364.out)|exact HB.out)) hb);clear BK342;clear BK360;clear BK361;clear BK364;clear HB;have BK342:=n0_;have BK360:=n1_;have BK361:=n2_;have BK364:=n3_;have HB:=n4_;clear n0_ n1_ n2_ n3_ n4_;(try clear hb);(try clear hb2);(try clear hk);(try clear hi))|((with_reducible refine gD (N:=11) rfl ?_);refine bE ?hg (N:=11) ?hd (cs:=#[.int .u64 0,.int .u64 0]) (t:=24) ?hr ?_;(case hd => rfl);(case hg => rfl);(case hr => first|(go_simp;done)|(go_simp;rfl));intro gb367 hg w79 hbox hb;have n0_:=A0.mk (bB (g:=gb342) (o:=.cells #[.int .u64 a0_0,.int .u64 a0_1] 24 (0,0)) (by (with_reducible repeat (first|refine bN ?_ _|refine bD ?_|refine bA ?_ _));exact BK342.out) hb);have n1_:=A0.mk (bB (g:=gb360) (o:=.cells #[.int .u64 t356,.int .u64 t357] 24 (0,0)) (by (with_reducible repeat (first|refine bN ?_ _|refine bD ?_|refine bA ?_ _));exact BK360.out) hb);have n2_:=A0.mk (bB (g:=gb361) (o:=.cells #[.int .u64 t358,.int .u64 t359] 24 (0,0)) (by (with_reducible repeat (first|refine bN ?_ _|refine bD ?_|refine bA ?_ _));exact BK361.out) hb);have n3_:=A0.mk (bB (g:=gb364) (o:=.cells #[.int .u64 t356,.int .u64 x365001_48] 24 (0,0)) (by (with_reducible repeat (first|refine bN ?_ _|refine bD ?_|refine bA ?_ _));exact BK364.out) hb);have n4_:=A0.mk (wT (by repeat (first|(with_reducible first|exact HB.out|apply wA|apply wN|apply wD|refine wS ?_ GE342.out|refine wS ?_ GE360.out|refine wS ?_ GE361.out|refine wS ?_ GE364.out)|exact HB.out)) hb);have n5_:=A0.mk (hbox);have n6_:=A0.mk ((by rw [hg];exact (wZ (by repeat (first|(with_reducible first|exact HB.out|apply wA|apply wN|apply wD|refine wS ?_ GE342.out|refine wS ?_ GE360.out|refine wS ?_ GE361.out|refine wS ?_ GE364.out)|exact HB.out))) : w.heap.size ≤ gb367));have n7_:=A0.mk ((by rw [hg];exact (wZ (by repeat (first|(with_reducible first|exact HB.out|apply wA|apply wN|apply wD|refine wS ?_ GE342.out|refine wS ?_ GE360.out|refine wS ?_ GE361.out|refine wS ?_ GE364.out)|exact HB.out))) : w.heap.size ≤ gb367));have n8_:=A0.mk ((by rw [hg];exact Nat.ne_of_lt (blk_lt (g:=gb342) (o:=.cells #[.int .u64 a0_0,.int .u64 a0_1] 24 (0,0)) (by (with_reducible repeat (first|refine bN ?_ _|refine bD ?_|refine bA ?_ _));exact BK342.out)) : gb342 ≠ gb367));have n9_:=A0.mk ((by rw [hg];exact Nat.ne_of_gt (blk_lt (g:=gb342) (o:=.cells #[.int .u64 a0_0,.int .u64 a0_1] 24 (0,0)) (by (with_reducible repeat (first|refine bN ?_ _|refine bD ?_|refine bA ?_ _));exact BK342.out)) : gb367 ≠ gb342));have n10_:=A0.mk ((by rw [hg];exact Nat.ne_of_lt (blk_lt (g:=gb360) (o:=.cells #[.int .u64 t356,.int .u64 t357] 24 (0,0)) (by (with_reducible repeat (first|refine bN ?_ _|refine bD ?_|refine bA ?_ _));exact BK360.out)) : gb360 ≠ gb367));have n11_:=A0.mk ((by rw [hg];exact Nat.ne_of_gt (blk_lt (g:=gb360) (o:=.cells #[.int .u64 t356,.int .u64 t357] 24 (0,0)) (by (with_reducible repeat (first|refine bN ?_ _|refine bD ?_|refine bA ?_ _));exact BK360.out)) : gb367 ≠ gb360));have n12_:=A0.mk ((by rw [hg];exact Nat.ne_of_lt (blk_lt (g:=gb361) (o:=.cells #[.int .u64 t358,.int .u64 t359] 24 (0,0)) (by (with_reducible repeat (first|refine bN ?_ _|refine bD ?_|refine bA ?_ _));exact BK361.out)) : gb361 ≠ gb367));have n13_:=A0.mk ((by rw [hg];exact Nat.ne_of_gt (blk_lt (g:=gb361) (o:=.cells #[.int .u64 t358,.int .u64 t359] 24 (0,0)) (by (with_reducible repeat (first|refine bN ?_ _|refine bD ?_|refine bA ?_ _));exact BK361.out)) : gb367 ≠ gb361));have n14_:=A0.mk ((by rw [hg];exact Nat.ne_of_lt (blk_lt (g:=gb364) (o:=.cells #[.int .u64 t356,.int .u64 x365001_48] 24 (0,0)) (by (with_reducible repeat (first|refine bN ?_ _|refine bD ?_|refine bA ?_ _));exact BK364.out)) : gb364 ≠ gb367));have n15_:=A0.mk ((by rw [hg];exact Nat.ne_of_gt (blk_lt (g:=gb364) (o:=.cells #[.int .u64 t356,.int .u64 x365001_48] 24 (0,0)) (by (with_reducible repeat (first|refine bN ?_ _|refine bD ?_|refine bA ?_ _));exact BK364.out)) : gb367 ≠ gb364));clear BK342;clear BK360;clear BK361;clear BK364;clear HB;have BK342:=n0_;have BK360:=n1_;have BK361:=n2_;have BK364:=n3_;have HB:=n4_;have BK367:=n5_;have GW367:=n6_;have GE367:=n7_;have NB342_367:=n8_;have NB367_342:=n9_;have NB360_367:=n10_;have NB367_360:=n11_;have NB361_367:=n12_;have NB367_361:=n13_;have NB364_367:=n14_;have NB367_364:=n15_;clear n0_ n1_ n2_ n3_ n4_ n5_ n6_ n7_ n8_ n9_ n10_ n11_ n12_ n13_ n14_ n15_;clear hb hbox hg;have hnb80:=NB367_342.out;have hnc80:=NB342_367.out;have hnb81:=NB367_360.out;have hnc81:=NB360_367.out;have hnb82:=NB367_361.out;have hnc82:=NB361_367.out;have hnb83:=NB367_364.out;have hnc83:=NB364_367.out;have hcz84_0 : w79.cell? ⟨gb367,0,none⟩ = some (.int .u64 0):=(bC BK367.out 0).trans rfl;have hcz84_1 : w79.cell? ⟨gb367,1,none⟩ = some (.int .u64 0):=(bC BK367.out 1).trans rfl;have hfz84_0:=bF BK367.out 0;have hfz84_1:=bF BK367.out 1;have hcz85_0 : w79.cell? ⟨gb342,0,none⟩ = some (.int .u64 a0_0):=(bC BK342.out 0).trans rfl;have hcz85_1 : w79.cell? ⟨gb342,1,none⟩ = some (.int .u64 a0_1):=(bC BK342.out 1).trans rfl;have hfz85_0:=bF BK342.out 0;have hfz85_1:=bF BK342.out 1))
                          have n0_ : A0 (((w79.setCell ⟨gb367,0,none⟩ (.int .u64 t365)).setCell ⟨gb367,1,none⟩ (.int .u64 t366)).heap[gb342]? = some (.cells #[.int .u64 a0_0,.int .u64 a0_1] 24 (0,0))):=⟨by (with_reducible repeat (first|refine bN ?_ _|refine bD ?_|refine bA ?_ _));refine bR ?_ NB342_367.out _;(with_reducible repeat (first|refine bN ?_ _|refine bD ?_|refine bA ?_ _));refine bR ?_ NB342_367.out _;(with_reducible repeat (first|refine bN ?_ _|refine bD ?_|refine bA ?_ _));exact BK342.out⟩
                          have n1_ : A0 (((w79.setCell ⟨gb367,0,none⟩ (.int .u64 t365)).setCell ⟨gb367,1,none⟩ (.int .u64 t366)).heap[gb360]? = some (.cells #[.int .u64 t356,.int .u64 t357] 24 (0,0))):=⟨by (with_reducible repeat (first|refine bN ?_ _|refine bD ?_|refine bA ?_ _));refine bR ?_ NB360_367.out _;(with_reducible repeat (first|refine bN ?_ _|refine bD ?_|refine bA ?_ _));refine bR ?_ NB360_367.out _;(with_reducible repeat (first|refine bN ?_ _|refine bD ?_|refine bA ?_ _));exact BK360.out⟩
                          have n2_ : A0 (((w79.setCell ⟨gb367,0,none⟩ (.int .u64 t365)).setCell ⟨gb367,1,none⟩ (.int .u64 t366)).heap[gb361]? = some (.cells #[.int .u64 t358,.int .u64 t359] 24 (0,0))):=⟨by (with_reducible repeat (first|refine bN ?_ _|refine bD ?_|refine bA ?_ _));refine bR ?_ NB361_367.out _;(with_reducible repeat (first|refine bN ?_ _|refine bD ?_|refine bA ?_ _));refine bR ?_ NB361_367.out _;(with_reducible repeat (first|refine bN ?_ _|refine bD ?_|refine bA ?_ _));exact BK361.out⟩
                          have n3_ : A0 (((w79.setCell ⟨gb367,0,none⟩ (.int .u64 t365)).setCell ⟨gb367,1,none⟩ (.int .u64 t366)).heap[gb364]? = some (.cells #[.int .u64 t356,.int .u64 x365001_48] 24 (0,0))):=⟨by (with_reducible repeat (first|refine bN ?_ _|refine bD ?_|refine bA ?_ _));refine bR ?_ NB364_367.out _;(with_reducible repeat (first|refine bN ?_ _|refine bD ?_|refine bA ?_ _));refine bR ?_ NB364_367.out _;(with_reducible repeat (first|refine bN ?_ _|refine bD ?_|refine bA ?_ _));exact BK364.out⟩
                          have n4_ : A0 (((w79.setCell ⟨gb367,0,none⟩ (.int .u64 t365)).setCell ⟨gb367,1,none⟩ (.int .u64 t366)).heap[gb367]? = some (.cells #[.int .u64 t365,.int .u64 t366] 24 (0,0))):=⟨by (with_reducible repeat (first|refine bN ?_ _|refine bD ?_|refine bA ?_ _));refine bP (cs:=#[.int .u64 t365,.int .u64 0]) ?_ 1 _ rfl;(with_reducible repeat (first|refine bN ?_ _|refine bD ?_|refine bA ?_ _));refine bP (cs:=#[.int .u64 0,.int .u64 0]) ?_ 0 _ rfl;(with_reducible repeat (first|refine bN ?_ _|refine bD ?_|refine bA ?_ _));exact BK367.out⟩
                          have n5_ : A0 (Below w.heap.size w ((w79.setCell ⟨gb367,0,none⟩ (.int .u64 t365)).setCell ⟨gb367,1,none⟩ (.int .u64 t366))):=⟨by repeat (first|(with_reducible first|exact HB.out|apply wA|apply wN|apply wD|refine wS ?_ GE342.out|refine wS ?_ GE360.out|refine wS ?_ GE361.out|refine wS ?_ GE364.out|refine wS ?_ GE367.out)|exact HB.out)⟩
                          (try clear BK342);(try clear BK360);(try clear BK361);(try clear BK364);(try clear BK367);(try clear HB)
                          generalize ((w79.setCell ⟨gb367,0,none⟩ (.int .u64 t365)).setCell ⟨gb367,1,none⟩ (.int .u64 t366)) = w86 at n0_ n1_ n2_ n3_ n4_ n5_ ⊢
                          have BK342:=n0_;have BK360:=n1_;have BK361:=n2_;have BK364:=n3_;have BK367:=n4_;have HB:=n5_;clear n0_ n1_ n2_ n3_ n4_ n5_;have n0_:=A0.mk (bD BK342.out);have n1_:=A0.mk (bD BK360.out);have n2_:=A0.mk (bD BK361.out);have n3_:=A0.mk (bD BK364.out);have n4_:=A0.mk (bD BK367.out);have n5_:=A0.mk (wD HB.out);clear BK342;clear BK360;clear BK361;clear BK364;clear BK367;clear HB;have BK342:=n0_;have BK360:=n1_;have BK361:=n2_;have BK364:=n3_;have BK367:=n4_;have HB:=n5_;clear n0_ n1_ n2_ n3_ n4_ n5_
                          refine start_ (n:=26) (S:=fun w' => w'.cell? ⟨gb367,0,none⟩ = some (.int .u64 t365)∧w'.cell? ⟨gb367,1,none⟩ = some (.int .u64 t366)∧w'.cell? ⟨gb342,0,none⟩ = some (.int .u64 a0_0)∧w'.cell? ⟨gb342,1,none⟩ = some (.int .u64 a0_1)) (ds:=[]) #[Z,Z,Z,Z,Z,Z,Z,Z,Z,Z,Z,Z,Z,Z,Z,Z,Z,Z,Z,Z,Z,Z,Z,Z,Z,Z] (by kernel_rfl) rfl rfl ⟨(bC BK367.out 0).trans rfl,(bC BK367.out 1).trans rfl,(bC BK342.out 0).trans rfl,(bC BK342.out 1).trans rfl⟩ (fun hHeld => ?_);refine with_tabW vernierlaw01_WideJams.tab17 vernierlaw01_WideJams.bits17 (fun HT_ HW_ => ?_)
                          generalize w86.drew = w87 at BK342 BK360 BK361 BK364 BK367 HB hHeld ⊢
                          refine pure_ (i:=1) (N:=some 82) (v:=?_) (a':=?_) #[Z,Y,Z,Z,Z,Z,Z,Z,Z,Z,Z,Z,Z,Z,Z,Z,Z,Z,Z,Z,Z,Z,Z,Z,Z,Z] rfl rfl (any_of HT_.out (by kernel_rfl)) (fun _ _ _ h => h) (Or.inl ⟨by rfl,?_⟩) ?_ ?_
                          rotate_left;(intro w';go_simp;with_reducible rfl);rotate_left;(simp only [aP,lT,lZ,lS,i64_w,i32_w];rfl)
                          refine pure_ (i:=5) (N:=some 86) (v:=?_) (a':=?_) #[Z,Y,Z,Z,Z,Y,Z,Z,Z,Z,Z,Z,Z,Z,Z,Z,Z,Z,Z,Z,Z,Z,Z,Z,Z,Z] rfl rfl (any_of HT_.out (by kernel_rfl)) (fun _ _ _ h => h) (Or.inl ⟨by rfl,?_⟩) ?_ ?_
                          rotate_left;(intro w';go_simp;with_reducible rfl);rotate_left;(simp only [aP,lT,lZ,lS,i64_w,i32_w];rfl)
                          refine take_ (i:=0) (N:=some 81) (v:=?_) (a':=?_) #[Y,Y,Z,Z,Z,Y,Z,Z,Z,Z,Z,Z,Z,Z,Z,Z,Z,Z,Z,Z,Z,Z,Z,Z,Z,Z] rfl rfl (take_ofW HT_.out HW_.out (by kernel_rfl)) (fun _ _ _ h => h) (Or.inl ⟨by rfl,?_⟩) hHeld ?_ ?_
                          rotate_left;(rintro w' ⟨s0,s1,s2,s3⟩;go_simp;with_reducible rfl);rotate_left;(simp only [aP,lT,lZ,lS,i64_w,i32_w];rfl)
                          refine take_ (i:=3) (N:=some 84) (v:=?_) (a':=?_) #[Y,Y,Z,Y,Z,Y,Z,Z,Z,Z,Z,Z,Z,Z,Z,Z,Z,Z,Z,Z,Z,Z,Z,Z,Z,Z] rfl rfl (take_ofW HT_.out HW_.out (by kernel_rfl)) (fun _ _ _ h => h) (Or.inl ⟨by rfl,?_⟩) hHeld ?_ ?_
                          rotate_left;(rintro w' ⟨s0,s1,s2,s3⟩;go_simp;with_reducible rfl);rotate_left;(simp only [aP,lT,lZ,lS,i64_w,i32_w];rfl)
                          refine one_ (i:=2) (N:=some 83) #[Y,Y,Y,Y,Z,Y,Z,Z,Z,Z,Z,Z,Z,Z,Z,Z,Z,Z,Z,Z,Z,Z,Z,Z,Z,Z] rfl rfl (one_of HT_.out (by kernel_rfl)) (by decide) (fun K hK => ?_)
                          refine goes_ Try.func27 (by kernel_rfl) rfl #[.agg #[.int .u64 t365,.int .u64 t366],.int .i64 (Go.bits .and .i64 a2 255)] (by rfl) rfl rfl (by (try simp only [mT,mC,mN]);first|done|rfl|(simp only [lD,lK];rfl)) ?_
                          with_reducible refine (wide_Shr.calls t365 t366 (Go.bits .and .i64 a2 255) t368 t369 _ A66.out).mono ?_
                          rintro e w88 ⟨rfl,hb⟩;refine ⟨_,rfl,?_⟩;have n0_:=A0.mk (bB (g:=gb342) (o:=.cells #[.int .u64 a0_0,.int .u64 a0_1] 24 (0,0)) (by (with_reducible repeat (first|refine bN ?_ _|refine bD ?_|refine bA ?_ _));exact BK342.out) hb);have n1_:=A0.mk (bB (g:=gb360) (o:=.cells #[.int .u64 t356,.int .u64 t357] 24 (0,0)) (by (with_reducible repeat (first|refine bN ?_ _|refine bD ?_|refine bA ?_ _));exact BK360.out) hb);have n2_:=A0.mk (bB (g:=gb361) (o:=.cells #[.int .u64 t358,.int .u64 t359] 24 (0,0)) (by (with_reducible repeat (first|refine bN ?_ _|refine bD ?_|refine bA ?_ _));exact BK361.out) hb);have n3_:=A0.mk (bB (g:=gb364) (o:=.cells #[.int .u64 t356,.int .u64 x365001_48] 24 (0,0)) (by (with_reducible repeat (first|refine bN ?_ _|refine bD ?_|refine bA ?_ _));exact BK364.out) hb);have n4_:=A0.mk (bB (g:=gb367) (o:=.cells #[.int .u64 t365,.int .u64 t366] 24 (0,0)) (by (with_reducible repeat (first|refine bN ?_ _|refine bD ?_|refine bA ?_ _));exact BK367.out) hb);have n5_:=A0.mk (wT (by repeat (first|(with_reducible first|exact HB.out|apply wA|apply wN|apply wD|refine wS ?_ GE342.out|refine wS ?_ GE360.out|refine wS ?_ GE361.out|refine wS ?_ GE364.out|refine wS ?_ GE367.out)|exact HB.out)) hb);clear BK342;clear BK360;clear BK361;clear BK364;clear BK367;clear HB;have BK342:=n0_;have BK360:=n1_;have BK361:=n2_;have BK364:=n3_;have BK367:=n4_;have HB:=n5_;clear n0_ n1_ n2_ n3_ n4_ n5_;(try clear hb);(try clear hb2);(try clear hk);(try clear hi)
                          refine hK.out _ _ ⟨(bC BK367.out 0).trans rfl,(bC BK367.out 1).trans rfl,(bC BK342.out 0).trans rfl,(bC BK342.out 1).trans rfl⟩ (fun hHeld => ?_)
                          clear hK K
                          refine norm_ (a':=?_) ?_ ?_
                          rotate_left;(show Act.put _ (some 83) _ = _;simp only [aP,lT,lZ,lS,i64_w,i32_w];rfl)
                          refine pure_ (i:=4) (N:=some 85) (v:=?_) (a':=?_) #[Y,Y,Y,Y,Y,Y,Z,Z,Z,Z,Z,Z,Z,Z,Z,Z,Z,Z,Z,Z,Z,Z,Z,Z,Z,Z] rfl rfl (any_of HT_.out (by kernel_rfl)) (fun _ _ _ h => h) (Or.inl ⟨by rfl,?_⟩) ?_ ?_
                          rotate_left;(intro w';go_simp;with_reducible rfl);rotate_left;(simp only [aP,lT,lZ,lS,i64_w,i32_w];rfl)
                          refine pure_ (i:=6) (N:=some 87) (v:=?_) (a':=?_) #[Y,Y,Y,Y,Y,Y,Y,Z,Z,Z,Z,Z,Z,Z,Z,Z,Z,Z,Z,Z,Z,Z,Z,Z,Z,Z] rfl rfl (any_of HT_.out (by kernel_rfl)) (fun _ _ _ h => h) (Or.inl ⟨by rfl,?_⟩) ?_ ?_
                          rotate_left;(intro w';go_simp;with_reducible rfl);rotate_left;(simp only [aP,lT,lZ,lS,i64_w,i32_w];rfl)
                          refine pure_ (i:=7) (N:=some 88) (v:=?_) (a':=?_) #[Y,Y,Y,Y,Y,Y,Y,Y,Z,Z,Z,Z,Z,Z,Z,Z,Z,Z,Z,Z,Z,Z,Z,Z,Z,Z] rfl rfl (any_of HT_.out (by kernel_rfl)) (fun _ _ _ h => h) (Or.inl ⟨by rfl,?_⟩) ?_ ?_
                          rotate_left;(intro w';go_simp;with_reducible rfl);rotate_left;(simp only [aP,lT,lZ,lS,i64_w,i32_w];rfl)
                          refine pure_ (i:=8) (N:=some 89) (v:=?_) (a':=?_) #[Y,Y,Y,Y,Y,Y,Y,Y,Y,Z,Z,Z,Z,Z,Z,Z,Z,Z,Z,Z,Z,Z,Z,Z,Z,Z] rfl rfl (any_of HT_.out (by kernel_rfl)) (fun _ _ _ h => h) (Or.inl ⟨by rfl,?_⟩) ?_ ?_
                          rotate_left;(intro w';go_simp;with_reducible rfl);rotate_left;(simp only [aP,lT,lZ,lS,i64_w,i32_w];rfl)
                          refine pure_ (i:=9) (N:=some 90) (v:=?_) (a':=?_) #[Y,Y,Y,Y,Y,Y,Y,Y,Y,Y,Z,Z,Z,Z,Z,Z,Z,Z,Z,Z,Z,Z,Z,Z,Z,Z] rfl rfl (any_of HT_.out (by kernel_rfl)) (fun _ _ _ h => h) (Or.inl ⟨by rfl,?_⟩) ?_ ?_
                          rotate_left;(intro w';go_simp;with_reducible rfl);rotate_left;(simp only [aP,lT,lZ,lS,i64_w,i32_w];rfl)
                          refine pure_ (i:=10) (N:=some 91) (v:=?_) (a':=?_) #[Y,Y,Y,Y,Y,Y,Y,Y,Y,Y,Y,Z,Z,Z,Z,Z,Z,Z,Z,Z,Z,Z,Z,Z,Z,Z] rfl rfl (any_of HT_.out (by kernel_rfl)) (fun _ _ _ h => h) (Or.inl ⟨by rfl,?_⟩) ?_ ?_
                          rotate_left;(intro w';go_simp;with_reducible rfl);rotate_left;(simp only [aP,lT,lZ,lS,i64_w,i32_w];rfl)
                          refine pure_ (i:=12) (N:=some 93) (v:=?_) (a':=?_) #[Y,Y,Y,Y,Y,Y,Y,Y,Y,Y,Y,Z,Y,Z,Z,Z,Z,Z,Z,Z,Z,Z,Z,Z,Z,Z] rfl rfl (any_of HT_.out (by kernel_rfl)) (fun _ _ _ h => h) (Or.inl ⟨by rfl,?_⟩) ?_ ?_
                          rotate_left;(intro w';go_simp;with_reducible rfl);rotate_left;(simp only [aP,lT,lZ,lS,i64_w,i32_w];rfl)
                          refine take_ (i:=11) (N:=some 92) (v:=?_) (a':=?_) #[Y,Y,Y,Y,Y,Y,Y,Y,Y,Y,Y,Y,Y,Z,Z,Z,Z,Z,Z,Z,Z,Z,Z,Z,Z,Z] rfl rfl (take_ofW HT_.out HW_.out (by kernel_rfl)) (fun _ _ _ h => h) (Or.inl ⟨by rfl,?_⟩) hHeld ?_ ?_
                          rotate_left;(rintro w' ⟨s0,s1,s2,s3⟩;go_simp;with_reducible rfl);rotate_left;(simp only [aP,lT,lZ,lS,i64_w,i32_w];rfl)
                          refine pure_ (i:=13) (N:=some 94) (v:=?_) (a':=?_) #[Y,Y,Y,Y,Y,Y,Y,Y,Y,Y,Y,Y,Y,Y,Z,Z,Z,Z,Z,Z,Z,Z,Z,Z,Z,Z] rfl rfl (any_of HT_.out (by kernel_rfl)) (fun _ _ _ h => h) (Or.inl ⟨by rfl,?_⟩) ?_ ?_
                          rotate_left;(intro w';go_simp;with_reducible rfl);rotate_left;(simp only [aP,lT,lZ,lS,i64_w,i32_w];rfl)
                          refine pure_ (i:=14) (N:=some 95) (v:=?_) (a':=?_) #[Y,Y,Y,Y,Y,Y,Y,Y,Y,Y,Y,Y,Y,Y,Y,Z,Z,Z,Z,Z,Z,Z,Z,Z,Z,Z] rfl rfl (any_of HT_.out (by kernel_rfl)) (fun _ _ _ h => h) (Or.inl ⟨by rfl,?_⟩) ?_ ?_
                          rotate_left;(intro w';go_simp;with_reducible rfl);rotate_left;(simp only [aP,lT,lZ,lS,i64_w,i32_w];rfl)
                          refine pure_ (i:=15) (N:=some 96) (v:=?_) (a':=?_) #[Y,Y,Y,Y,Y,Y,Y,Y,Y,Y,Y,Y,Y,Y,Y,Y,Z,Z,Z,Z,Z,Z,Z,Z,Z,Z] rfl rfl (any_of HT_.out (by kernel_rfl)) (fun _ _ _ h => h) (Or.inl ⟨by rfl,?_⟩) ?_ ?_
                          rotate_left;(intro w';go_simp;with_reducible rfl);rotate_left;(simp only [aP,lT,lZ,lS,i64_w,i32_w];rfl)
                          refine pure_ (i:=16) (N:=some 97) (v:=undef) (a':=?_) #[Y,Y,Y,Y,Y,Y,Y,Y,Y,Y,Y,Y,Y,Y,Y,Y,Y,Z,Z,Z,Z,Z,Z,Z,Z,Z] rfl rfl (any_of HT_.out (by kernel_rfl)) (fun _ _ _ h => h) (Or.inr ⟨by rfl,rfl⟩) ?_ ?_
                          rotate_left
                          · simp only [aP,lT,lZ,lS,i64_w,i32_w]
                            rfl
                          refine pure_ (i:=17) (N:=some 98) (v:=undef) (a':=?_) #[Y,Y,Y,Y,Y,Y,Y,Y,Y,Y,Y,Y,Y,Y,Y,Y,Y,Y,Z,Z,Z,Z,Z,Z,Z,Z] rfl rfl (any_of HT_.out (by kernel_rfl)) (fun _ _ _ h => h) (Or.inr ⟨by rfl,rfl⟩) ?_ ?_
                          rotate_left
                          · simp only [aP,lT,lZ,lS,i64_w,i32_w]
                            rfl
                          refine pure_ (i:=18) (N:=some 99) (v:=undef) (a':=?_) #[Y,Y,Y,Y,Y,Y,Y,Y,Y,Y,Y,Y,Y,Y,Y,Y,Y,Y,Y,Z,Z,Z,Z,Z,Z,Z] rfl rfl (any_of HT_.out (by kernel_rfl)) (fun _ _ _ h => h) (Or.inr ⟨by rfl,rfl⟩) ?_ ?_
                          rotate_left
                          · simp only [aP,lT,lZ,lS,i64_w,i32_w]
                            rfl
                          refine pure_ (i:=19) (N:=some 100) (v:=undef) (a':=?_) #[Y,Y,Y,Y,Y,Y,Y,Y,Y,Y,Y,Y,Y,Y,Y,Y,Y,Y,Y,Y,Z,Z,Z,Z,Z,Z] rfl rfl (any_of HT_.out (by kernel_rfl)) (fun _ _ _ h => h) (Or.inr ⟨by rfl,rfl⟩) ?_ ?_
                          rotate_left
                          · simp only [aP,lT,lZ,lS,i64_w,i32_w]
                            rfl
                          refine pure_ (i:=20) (N:=some 101) (v:=undef) (a':=?_) #[Y,Y,Y,Y,Y,Y,Y,Y,Y,Y,Y,Y,Y,Y,Y,Y,Y,Y,Y,Y,Y,Z,Z,Z,Z,Z] rfl rfl (any_of HT_.out (by kernel_rfl)) (fun _ _ _ h => h) (Or.inr ⟨by rfl,rfl⟩) ?_ ?_
                          rotate_left
                          · simp only [aP,lT,lZ,lS,i64_w,i32_w]
                            rfl
                          refine pure_ (i:=21) (N:=some 102) (v:=undef) (a':=?_) #[Y,Y,Y,Y,Y,Y,Y,Y,Y,Y,Y,Y,Y,Y,Y,Y,Y,Y,Y,Y,Y,Y,Z,Z,Z,Z] rfl rfl (any_of HT_.out (by kernel_rfl)) (fun _ _ _ h => h) (Or.inr ⟨by rfl,rfl⟩) ?_ ?_
                          rotate_left
                          · simp only [aP,lT,lZ,lS,i64_w,i32_w]
                            rfl
                          refine pure_ (i:=22) (N:=some 103) (v:=undef) (a':=?_) #[Y,Y,Y,Y,Y,Y,Y,Y,Y,Y,Y,Y,Y,Y,Y,Y,Y,Y,Y,Y,Y,Y,Y,Z,Z,Z] rfl rfl (any_of HT_.out (by kernel_rfl)) (fun _ _ _ h => h) (Or.inr ⟨by rfl,rfl⟩) ?_ ?_
                          rotate_left
                          · simp only [aP,lT,lZ,lS,i64_w,i32_w]
                            rfl
                          refine pure_ (i:=23) (N:=some 104) (v:=?_) (a':=?_) #[Y,Y,Y,Y,Y,Y,Y,Y,Y,Y,Y,Y,Y,Y,Y,Y,Y,Y,Y,Y,Y,Y,Y,Y,Z,Z] rfl rfl (any_of HT_.out (by kernel_rfl)) (fun _ _ _ h => h) (Or.inl ⟨by rfl,?_⟩) ?_ ?_
                          rotate_left;(intro w';go_simp;with_reducible rfl);rotate_left;(simp only [aP,lT,lZ,lS,i64_w,i32_w];rfl)
                          refine pure_ (i:=24) (N:=some 105) (v:=?_) (a':=?_) #[Y,Y,Y,Y,Y,Y,Y,Y,Y,Y,Y,Y,Y,Y,Y,Y,Y,Y,Y,Y,Y,Y,Y,Y,Y,Z] rfl rfl (any_of HT_.out (by kernel_rfl)) (fun _ _ _ h => h) (Or.inl ⟨by rfl,?_⟩) ?_ ?_
                          rotate_left;(intro w';go_simp;with_reducible rfl);rotate_left;(simp only [aP,lT,lZ,lS,i64_w,i32_w];rfl)
                          refine pure_ (i:=25) (N:=some 6) (v:=?_) (a':=?_) #[Y,Y,Y,Y,Y,Y,Y,Y,Y,Y,Y,Y,Y,Y,Y,Y,Y,Y,Y,Y,Y,Y,Y,Y,Y,Y] rfl rfl (any_of HT_.out (by kernel_rfl)) (fun _ _ _ h => h) (Or.inl ⟨by rfl,?_⟩) ?_ ?_
                          rotate_left;(intro w';go_simp;with_reducible rfl);rotate_left;(simp only [aP,lT,lZ,lS,i64_w,i32_w];rfl)
                          refine done_ (done_of HT_.out (by kernel_rfl)) ?_
                          try go_wp2
                          go_ret
                          exact ⟨by first|rfl|(simp [errW_none,errW_some] <;> rfl)|(simp [*,errW_none,errW_some] <;> rfl),by repeat (first|(with_reducible first|exact HB.out|apply wA|apply wN|apply wD|refine wS ?_ GE342.out|refine wS ?_ GE360.out|refine wS ?_ GE361.out|refine wS ?_ GE364.out|refine wS ?_ GE367.out)|exact HB.out)⟩
                        · rw [if_neg c68] at H
                          have c68b0 : (t365 == 0 && (t366 == 0)) = false:=by simpa using c68
                          (try (have c68b1 : decide (t365 = 0 && (t366 == 0)) = false:=by simpa using c68))
                          (try (have c68b2 : (t365 == 0 && (t366 == 0)) = false:=by simpa using c68))
                          (try (have c68b3 : ¬ (t365 = 0 && (t366 == 0)):=by simpa using c68))
                          clear c68;replace H:=Option.bind_eq_some_iff.mp H;obtain ⟨t370,A890,H⟩:=H
                          replace H : ((wide_Len.f a0_0 a0_1).bind fun t371 => (some (t370 == (wrap64 (t371 + (Go.bits .and .i64 a2 255)))))) = some r:=H
                          have A89:=A0.mk A890;clear A890;replace H:=Option.bind_eq_some_iff.mp H;obtain ⟨t371,A900,H⟩:=H
                          replace H : (some (t370 == (wrap64 (t371 + (Go.bits .and .i64 a2 255))))) = some r:=H
                          have A90:=A0.mk A900;clear A900;obtain rfl:=Option.some.inj H
                          have hnb91:=NB361_342.out
                          have hnc91:=NB342_361.out
                          have hnb92:=NB361_360.out
                          have hnc92:=NB360_361.out
                          have hnb93:=NB361_364.out
                          have hnc93:=NB364_361.out
                          have hcz94_0 : wc.cell? ⟨gb361,0,none⟩ = some (.int .u64 t358):=(bC BK361.out 0).trans rfl
                          have hcz94_1 : wc.cell? ⟨gb361,1,none⟩ = some (.int .u64 t359):=(bC BK361.out 1).trans rfl
                          have hfz94_0:=bF BK361.out 0
                          have hfz94_1:=bF BK361.out 1
                          have hnb95:=NB364_342.out
                          have hnc95:=NB342_364.out
                          have hnb96:=NB364_360.out
                          have hnc96:=NB360_364.out
                          have hcz97_0 : wc.cell? ⟨gb364,0,none⟩ = some (.int .u64 t356):=(bC BK364.out 0).trans rfl
                          have hcz97_1 : wc.cell? ⟨gb364,1,none⟩ = some (.int .u64 x365001_48):=(bC BK364.out 1).trans rfl
                          have hfz97_0:=bF BK364.out 0
                          have hfz97_1:=bF BK364.out 1
                          have hnb98:=NB342_360.out
                          have hnc98:=NB360_342.out
                          have hcz99_0 : wc.cell? ⟨gb342,0,none⟩ = some (.int .u64 a0_0):=(bC BK342.out 0).trans rfl
                          have hcz99_1 : wc.cell? ⟨gb342,1,none⟩ = some (.int .u64 a0_1):=(bC BK342.out 1).trans rfl
                          have hfz99_0:=bF BK342.out 0
                          have hfz99_1:=bF BK342.out 1
                          try go_wp2_with (first|((with_reducible refine gC (f:=25) rfl ?_);refine goesL_ (some 70) rfl rfl Try.func25 (by kernel_rfl) rfl #[.agg #[.int .u64 a0_0,.int .u64 a0_1],.int .i64 (Go.bits .and .i64 a2 255)] rfl (by (try simp only [mT,mC,mN]);first|done|rfl|(simp only [lD,lK];rfl)) ?_;(with_reducible refine (wide_Shl.calls a0_0 a0_1 (Go.bits .and .i64 a2 255) t365 t366 _ A64.out).mono ?_);rintro e w100 ⟨rfl,hb⟩;refine ⟨_,rfl,?_⟩;have n0_:=A0.mk (bB (g:=gb342) (o:=.cells #[.int .u64 a0_0,.int .u64 a0_1] 24 (0,0)) (by (with_reducible repeat (first|refine bN ?_ _|refine bD ?_|refine bA ?_ _));exact BK342.out) hb);have n1_:=A0.mk (bB (g:=gb360) (o:=.cells #[.int .u64 t356,.int .u64 t357] 24 (0,0)) (by (with_reducible repeat (first|refine bN ?_ _|refine bD ?_|refine bA ?_ _));exact BK360.out) hb);have n2_:=A0.mk (bB (g:=gb361) (o:=.cells #[.int .u64 t358,.int .u64 t359] 24 (0,0)) (by (with_reducible repeat (first|refine bN ?_ _|refine bD ?_|refine bA ?_ _));exact BK361.out) hb);have n3_:=A0.mk (bB (g:=gb364) (o:=.cells #[.int .u64 t356,.int .u64 x365001_48] 24 (0,0)) (by (with_reducible repeat (first|refine bN ?_ _|refine bD ?_|refine bA ?_ _));exact BK364.out) hb);have n4_:=A0.mk (wT (by repeat (first|(with_reducible first|exact HB.out|apply wA|apply wN|apply wD|refine wS ?_ GE342.out|refine wS ?_ GE360.out|refine wS ?_ GE361.out|refine wS ?_ GE364.out)|exact HB.out)) hb);clear BK342;clear BK360;clear BK361;clear BK364;clear HB;have BK342:=n0_;have BK360:=n1_;have BK361:=n2_;have BK364:=n3_;have HB:=n4_;clear n0_ n1_ n2_ n3_ n4_;(try clear hb);(try clear hb2);(try clear hk);(try clear hi))|((with_reducible refine gD (N:=11) rfl ?_);refine bE ?hg (N:=11) ?hd (cs:=#[.int .u64 0,.int .u64 0]) (t:=24) ?hr ?_;(case hd => rfl);(case hg => rfl);(case hr => first|(go_simp;done)|(go_simp;rfl));intro gb367 hg w101 hbox hb;have n0_:=A0.mk (bB (g:=gb342) (o:=.cells #[.int .u64 a0_0,.int .u64 a0_1] 24 (0,0)) (by (with_reducible repeat (first|refine bN ?_ _|refine bD ?_|refine bA ?_ _));exact BK342.out) hb);have n1_:=A0.mk (bB (g:=gb360) (o:=.cells #[.int .u64 t356,.int .u64 t357] 24 (0,0)) (by (with_reducible repeat (first|refine bN ?_ _|refine bD ?_|refine bA ?_ _));exact BK360.out) hb);have n2_:=A0.mk (bB (g:=gb361) (o:=.cells #[.int .u64 t358,.int .u64 t359] 24 (0,0)) (by (with_reducible repeat (first|refine bN ?_ _|refine bD ?_|refine bA ?_ _));exact BK361.out) hb);have n3_:=A0.mk (bB (g:=gb364) (o:=.cells #[.int .u64 t356,.int .u64 x365001_48] 24 (0,0)) (by (with_reducible repeat (first|refine bN ?_ _|refine bD ?_|refine bA ?_ _));exact BK364.out) hb);have n4_:=A0.mk (wT (by repeat (first|(with_reducible first|exact HB.out|apply wA|apply wN|apply wD|refine wS ?_ GE342.out|refine wS ?_ GE360.out|refine wS ?_ GE361.out|refine wS ?_ GE364.out)|exact HB.out)) hb);have n5_:=A0.mk (hbox);have n6_:=A0.mk ((by rw [hg];exact (wZ (by repeat (first|(with_reducible first|exact HB.out|apply wA|apply wN|apply wD|refine wS ?_ GE342.out|refine wS ?_ GE360.out|refine wS ?_ GE361.out|refine wS ?_ GE364.out)|exact HB.out))) : w.heap.size ≤ gb367));have n7_:=A0.mk ((by rw [hg];exact (wZ (by repeat (first|(with_reducible first|exact HB.out|apply wA|apply wN|apply wD|refine wS ?_ GE342.out|refine wS ?_ GE360.out|refine wS ?_ GE361.out|refine wS ?_ GE364.out)|exact HB.out))) : w.heap.size ≤ gb367));have n8_:=A0.mk ((by rw [hg];exact Nat.ne_of_lt (blk_lt (g:=gb342) (o:=.cells #[.int .u64 a0_0,.int .u64 a0_1] 24 (0,0)) (by (with_reducible repeat (first|refine bN ?_ _|refine bD ?_|refine bA ?_ _));exact BK342.out)) : gb342 ≠ gb367));have n9_:=A0.mk ((by rw [hg];exact Nat.ne_of_gt (blk_lt (g:=gb342) (o:=.cells #[.int .u64 a0_0,.int .u64 a0_1] 24 (0,0)) (by (with_reducible repeat (first|refine bN ?_ _|refine bD ?_|refine bA ?_ _));exact BK342.out)) : gb367 ≠ gb342));have n10_:=A0.mk ((by rw [hg];exact Nat.ne_of_lt (blk_lt (g:=gb360) (o:=.cells #[.int .u64 t356,.int .u64 t357] 24 (0,0)) (by (with_reducible repeat (first|refine bN ?_ _|refine bD ?_|refine bA ?_ _));exact BK360.out)) : gb360 ≠ gb367));have n11_:=A0.mk ((by rw [hg];exact Nat.ne_of_gt (blk_lt (g:=gb360) (o:=.cells #[.int .u64 t356,.int .u64 t357] 24 (0,0)) (by (with_reducible repeat (first|refine bN ?_ _|refine bD ?_|refine bA ?_ _));exact BK360.out)) : gb367 ≠ gb360));have n12_:=A0.mk ((by rw [hg];exact Nat.ne_of_lt (blk_lt (g:=gb361) (o:=.cells #[.int .u64 t358,.int .u64 t359] 24 (0,0)) (by (with_reducible repeat (first|refine bN ?_ _|refine bD ?_|refine bA ?_ _));exact BK361.out)) : gb361 ≠ gb367));have n13_:=A0.mk ((by rw [hg];exact Nat.ne_of_gt (blk_lt (g:=gb361) (o:=.cells #[.int .u64 t358,.int .u64 t359] 24 (0,0)) (by (with_reducible repeat (first|refine bN ?_ _|refine bD ?_|refine bA ?_ _));exact BK361.out)) : gb367 ≠ gb361));have n14_:=A0.mk ((by rw [hg];exact Nat.ne_of_lt (blk_lt (g:=gb364) (o:=.cells #[.int .u64 t356,.int .u64 x365001_48] 24 (0,0)) (by (with_reducible repeat (first|refine bN ?_ _|refine bD ?_|refine bA ?_ _));exact BK364.out)) : gb364 ≠ gb367));have n15_:=A0.mk ((by rw [hg];exact Nat.ne_of_gt (blk_lt (g:=gb364) (o:=.cells #[.int .u64 t356,.int .u64 x365001_48] 24 (0,0)) (by (with_reducible repeat (first|refine bN ?_ _|refine bD ?_|refine bA ?_ _));exact BK364.out)) : gb367 ≠ gb364));clear BK342;clear BK360;clear BK361;clear BK364;clear HB;have BK342:=n0_;have BK360:=n1_;have BK361:=n2_;have BK364:=n3_;have HB:=n4_;have BK367:=n5_;have GW367:=n6_;have GE367:=n7_;have NB342_367:=n8_;have NB367_342:=n9_;have NB360_367:=n10_;have NB367_360:=n11_;have NB361_367:=n12_;have NB367_361:=n13_;have NB364_367:=n14_;have NB367_364:=n15_;clear n0_ n1_ n2_ n3_ n4_ n5_ n6_ n7_ n8_ n9_ n10_ n11_ n12_ n13_ n14_ n15_;clear hb hbox hg;have hnb102:=NB367_342.out;have hnc102:=NB342_367.out;have hnb103:=NB367_360.out;have hnc103:=NB360_367.out;have hnb104:=NB367_361.out;have hnc104:=NB361_367.out;have hnb105:=NB367_364.out;have hnc105:=NB364_367.out;have hcz106_0 : w101.cell? ⟨gb367,0,none⟩ = some (.int .u64 0):=(bC BK367.out 0).trans rfl;have hcz106_1 : w101.cell? ⟨gb367,1,none⟩ = some (.int .u64 0):=(bC BK367.out 1).trans rfl;have hfz106_0:=bF BK367.out 0;have hfz106_1:=bF BK367.out 1;have hcz107_0 : w101.cell? ⟨gb342,0,none⟩ = some (.int .u64 a0_0):=(bC BK342.out 0).trans rfl;have hcz107_1 : w101.cell? ⟨gb342,1,none⟩ = some (.int .u64 a0_1):=(bC BK342.out 1).trans rfl;have hfz107_0:=bF BK342.out 0;have hfz107_1:=bF BK342.out 1))
                          have n0_ : A0 (((w101.setCell ⟨gb367,0,none⟩ (.int .u64 t365)).setCell ⟨gb367,1,none⟩ (.int .u64 t366)).heap[gb342]? = some (.cells #[.int .u64 a0_0,.int .u64 a0_1] 24 (0,0))):=⟨by (with_reducible repeat (first|refine bN ?_ _|refine bD ?_|refine bA ?_ _));refine bR ?_ NB342_367.out _;(with_reducible repeat (first|refine bN ?_ _|refine bD ?_|refine bA ?_ _));refine bR ?_ NB342_367.out _;(with_reducible repeat (first|refine bN ?_ _|refine bD ?_|refine bA ?_ _));exact BK342.out⟩
                          have n1_ : A0 (((w101.setCell ⟨gb367,0,none⟩ (.int .u64 t365)).setCell ⟨gb367,1,none⟩ (.int .u64 t366)).heap[gb360]? = some (.cells #[.int .u64 t356,.int .u64 t357] 24 (0,0))):=⟨by (with_reducible repeat (first|refine bN ?_ _|refine bD ?_|refine bA ?_ _));refine bR ?_ NB360_367.out _;(with_reducible repeat (first|refine bN ?_ _|refine bD ?_|refine bA ?_ _));refine bR ?_ NB360_367.out _;(with_reducible repeat (first|refine bN ?_ _|refine bD ?_|refine bA ?_ _));exact BK360.out⟩
                          have n2_ : A0 (((w101.setCell ⟨gb367,0,none⟩ (.int .u64 t365)).setCell ⟨gb367,1,none⟩ (.int .u64 t366)).heap[gb361]? = some (.cells #[.int .u64 t358,.int .u64 t359] 24 (0,0))):=⟨by (with_reducible repeat (first|refine bN ?_ _|refine bD ?_|refine bA ?_ _));refine bR ?_ NB361_367.out _;(with_reducible repeat (first|refine bN ?_ _|refine bD ?_|refine bA ?_ _));refine bR ?_ NB361_367.out _;(with_reducible repeat (first|refine bN ?_ _|refine bD ?_|refine bA ?_ _));exact BK361.out⟩
                          have n3_ : A0 (((w101.setCell ⟨gb367,0,none⟩ (.int .u64 t365)).setCell ⟨gb367,1,none⟩ (.int .u64 t366)).heap[gb364]? = some (.cells #[.int .u64 t356,.int .u64 x365001_48] 24 (0,0))):=⟨by (with_reducible repeat (first|refine bN ?_ _|refine bD ?_|refine bA ?_ _));refine bR ?_ NB364_367.out _;(with_reducible repeat (first|refine bN ?_ _|refine bD ?_|refine bA ?_ _));refine bR ?_ NB364_367.out _;(with_reducible repeat (first|refine bN ?_ _|refine bD ?_|refine bA ?_ _));exact BK364.out⟩
                          have n4_ : A0 (((w101.setCell ⟨gb367,0,none⟩ (.int .u64 t365)).setCell ⟨gb367,1,none⟩ (.int .u64 t366)).heap[gb367]? = some (.cells #[.int .u64 t365,.int .u64 t366] 24 (0,0))):=⟨by (with_reducible repeat (first|refine bN ?_ _|refine bD ?_|refine bA ?_ _));refine bP (cs:=#[.int .u64 t365,.int .u64 0]) ?_ 1 _ rfl;(with_reducible repeat (first|refine bN ?_ _|refine bD ?_|refine bA ?_ _));refine bP (cs:=#[.int .u64 0,.int .u64 0]) ?_ 0 _ rfl;(with_reducible repeat (first|refine bN ?_ _|refine bD ?_|refine bA ?_ _));exact BK367.out⟩
                          have n5_ : A0 (Below w.heap.size w ((w101.setCell ⟨gb367,0,none⟩ (.int .u64 t365)).setCell ⟨gb367,1,none⟩ (.int .u64 t366))):=⟨by repeat (first|(with_reducible first|exact HB.out|apply wA|apply wN|apply wD|refine wS ?_ GE342.out|refine wS ?_ GE360.out|refine wS ?_ GE361.out|refine wS ?_ GE364.out|refine wS ?_ GE367.out)|exact HB.out)⟩
                          (try clear BK342);(try clear BK360);(try clear BK361);(try clear BK364);(try clear BK367);(try clear HB)
                          generalize ((w101.setCell ⟨gb367,0,none⟩ (.int .u64 t365)).setCell ⟨gb367,1,none⟩ (.int .u64 t366)) = w108 at n0_ n1_ n2_ n3_ n4_ n5_ ⊢
                          have BK342:=n0_;have BK360:=n1_;have BK361:=n2_;have BK364:=n3_;have BK367:=n4_;have HB:=n5_;clear n0_ n1_ n2_ n3_ n4_ n5_;have n0_:=A0.mk (bD BK342.out);have n1_:=A0.mk (bD BK360.out);have n2_:=A0.mk (bD BK361.out);have n3_:=A0.mk (bD BK364.out);have n4_:=A0.mk (bD BK367.out);have n5_:=A0.mk (wD HB.out);clear BK342;clear BK360;clear BK361;clear BK364;clear BK367;clear HB;have BK342:=n0_;have BK360:=n1_;have BK361:=n2_;have BK364:=n3_;have BK367:=n4_;have HB:=n5_;clear n0_ n1_ n2_ n3_ n4_ n5_
                          refine start_ (n:=26) (S:=fun w' => w'.cell? ⟨gb367,0,none⟩ = some (.int .u64 t365)∧w'.cell? ⟨gb367,1,none⟩ = some (.int .u64 t366)∧w'.cell? ⟨gb342,0,none⟩ = some (.int .u64 a0_0)∧w'.cell? ⟨gb342,1,none⟩ = some (.int .u64 a0_1)) (ds:=[]) #[Z,Z,Z,Z,Z,Z,Z,Z,Z,Z,Z,Z,Z,Z,Z,Z,Z,Z,Z,Z,Z,Z,Z,Z,Z,Z] (by kernel_rfl) rfl rfl ⟨(bC BK367.out 0).trans rfl,(bC BK367.out 1).trans rfl,(bC BK342.out 0).trans rfl,(bC BK342.out 1).trans rfl⟩ (fun hHeld => ?_);refine with_tabW vernierlaw01_WideJams.tab17 vernierlaw01_WideJams.bits17 (fun HT_ HW_ => ?_)
                          generalize w108.drew = w109 at BK342 BK360 BK361 BK364 BK367 HB hHeld ⊢
                          refine pure_ (i:=1) (N:=some 82) (v:=?_) (a':=?_) #[Z,Y,Z,Z,Z,Z,Z,Z,Z,Z,Z,Z,Z,Z,Z,Z,Z,Z,Z,Z,Z,Z,Z,Z,Z,Z] rfl rfl (any_of HT_.out (by kernel_rfl)) (fun _ _ _ h => h) (Or.inl ⟨by rfl,?_⟩) ?_ ?_
                          rotate_left;(intro w';go_simp;with_reducible rfl);rotate_left;(simp only [aP,lT,lZ,lS,i64_w,i32_w];rfl)
                          refine pure_ (i:=5) (N:=some 86) (v:=?_) (a':=?_) #[Z,Y,Z,Z,Z,Y,Z,Z,Z,Z,Z,Z,Z,Z,Z,Z,Z,Z,Z,Z,Z,Z,Z,Z,Z,Z] rfl rfl (any_of HT_.out (by kernel_rfl)) (fun _ _ _ h => h) (Or.inl ⟨by rfl,?_⟩) ?_ ?_
                          rotate_left;(intro w';go_simp;with_reducible rfl);rotate_left;(simp only [aP,lT,lZ,lS,i64_w,i32_w];rfl)
                          refine take_ (i:=0) (N:=some 81) (v:=?_) (a':=?_) #[Y,Y,Z,Z,Z,Y,Z,Z,Z,Z,Z,Z,Z,Z,Z,Z,Z,Z,Z,Z,Z,Z,Z,Z,Z,Z] rfl rfl (take_ofW HT_.out HW_.out (by kernel_rfl)) (fun _ _ _ h => h) (Or.inl ⟨by rfl,?_⟩) hHeld ?_ ?_
                          rotate_left;(rintro w' ⟨s0,s1,s2,s3⟩;go_simp;with_reducible rfl);rotate_left;(simp only [aP,lT,lZ,lS,i64_w,i32_w];rfl)
                          refine take_ (i:=3) (N:=some 84) (v:=?_) (a':=?_) #[Y,Y,Z,Y,Z,Y,Z,Z,Z,Z,Z,Z,Z,Z,Z,Z,Z,Z,Z,Z,Z,Z,Z,Z,Z,Z] rfl rfl (take_ofW HT_.out HW_.out (by kernel_rfl)) (fun _ _ _ h => h) (Or.inl ⟨by rfl,?_⟩) hHeld ?_ ?_
                          rotate_left;(rintro w' ⟨s0,s1,s2,s3⟩;go_simp;with_reducible rfl);rotate_left;(simp only [aP,lT,lZ,lS,i64_w,i32_w];rfl)
                          refine one_ (i:=2) (N:=some 83) #[Y,Y,Y,Y,Z,Y,Z,Z,Z,Z,Z,Z,Z,Z,Z,Z,Z,Z,Z,Z,Z,Z,Z,Z,Z,Z] rfl rfl (one_of HT_.out (by kernel_rfl)) (by decide) (fun K hK => ?_)
                          refine goes_ Try.func27 (by kernel_rfl) rfl #[.agg #[.int .u64 t365,.int .u64 t366],.int .i64 (Go.bits .and .i64 a2 255)] (by rfl) rfl rfl (by (try simp only [mT,mC,mN]);first|done|rfl|(simp only [lD,lK];rfl)) ?_
                          with_reducible refine (wide_Shr.calls t365 t366 (Go.bits .and .i64 a2 255) t368 t369 _ A66.out).mono ?_
                          rintro e w110 ⟨rfl,hb⟩;refine ⟨_,rfl,?_⟩;have n0_:=A0.mk (bB (g:=gb342) (o:=.cells #[.int .u64 a0_0,.int .u64 a0_1] 24 (0,0)) (by (with_reducible repeat (first|refine bN ?_ _|refine bD ?_|refine bA ?_ _));exact BK342.out) hb);have n1_:=A0.mk (bB (g:=gb360) (o:=.cells #[.int .u64 t356,.int .u64 t357] 24 (0,0)) (by (with_reducible repeat (first|refine bN ?_ _|refine bD ?_|refine bA ?_ _));exact BK360.out) hb);have n2_:=A0.mk (bB (g:=gb361) (o:=.cells #[.int .u64 t358,.int .u64 t359] 24 (0,0)) (by (with_reducible repeat (first|refine bN ?_ _|refine bD ?_|refine bA ?_ _));exact BK361.out) hb);have n3_:=A0.mk (bB (g:=gb364) (o:=.cells #[.int .u64 t356,.int .u64 x365001_48] 24 (0,0)) (by (with_reducible repeat (first|refine bN ?_ _|refine bD ?_|refine bA ?_ _));exact BK364.out) hb);have n4_:=A0.mk (bB (g:=gb367) (o:=.cells #[.int .u64 t365,.int .u64 t366] 24 (0,0)) (by (with_reducible repeat (first|refine bN ?_ _|refine bD ?_|refine bA ?_ _));exact BK367.out) hb);have n5_:=A0.mk (wT (by repeat (first|(with_reducible first|exact HB.out|apply wA|apply wN|apply wD|refine wS ?_ GE342.out|refine wS ?_ GE360.out|refine wS ?_ GE361.out|refine wS ?_ GE364.out|refine wS ?_ GE367.out)|exact HB.out)) hb);clear BK342;clear BK360;clear BK361;clear BK364;clear BK367;clear HB;have BK342:=n0_;have BK360:=n1_;have BK361:=n2_;have BK364:=n3_;have BK367:=n4_;have HB:=n5_;clear n0_ n1_ n2_ n3_ n4_ n5_;(try clear hb);(try clear hb2);(try clear hk);(try clear hi)
                          refine hK.out _ _ ⟨(bC BK367.out 0).trans rfl,(bC BK367.out 1).trans rfl,(bC BK342.out 0).trans rfl,(bC BK342.out 1).trans rfl⟩ (fun hHeld => ?_)
                          clear hK K
                          refine norm_ (a':=?_) ?_ ?_
                          rotate_left;(show Act.put _ (some 83) _ = _;simp only [aP,lT,lZ,lS,i64_w,i32_w];rfl)
                          refine pure_ (i:=4) (N:=some 85) (v:=?_) (a':=?_) #[Y,Y,Y,Y,Y,Y,Z,Z,Z,Z,Z,Z,Z,Z,Z,Z,Z,Z,Z,Z,Z,Z,Z,Z,Z,Z] rfl rfl (any_of HT_.out (by kernel_rfl)) (fun _ _ _ h => h) (Or.inl ⟨by rfl,?_⟩) ?_ ?_
                          rotate_left;(intro w';go_simp;with_reducible rfl);rotate_left;(simp only [aP,lT,lZ,lS,i64_w,i32_w];rfl)
                          refine pure_ (i:=6) (N:=some 87) (v:=?_) (a':=?_) #[Y,Y,Y,Y,Y,Y,Y,Z,Z,Z,Z,Z,Z,Z,Z,Z,Z,Z,Z,Z,Z,Z,Z,Z,Z,Z] rfl rfl (any_of HT_.out (by kernel_rfl)) (fun _ _ _ h => h) (Or.inl ⟨by rfl,?_⟩) ?_ ?_
                          rotate_left;(intro w';go_simp;with_reducible rfl);rotate_left;(simp only [aP,lT,lZ,lS,i64_w,i32_w];rfl)
                          refine pure_ (i:=7) (N:=some 88) (v:=?_) (a':=?_) #[Y,Y,Y,Y,Y,Y,Y,Y,Z,Z,Z,Z,Z,Z,Z,Z,Z,Z,Z,Z,Z,Z,Z,Z,Z,Z] rfl rfl (any_of HT_.out (by kernel_rfl)) (fun _ _ _ h => h) (Or.inl ⟨by rfl,?_⟩) ?_ ?_
                          rotate_left;(intro w';go_simp;with_reducible rfl);rotate_left;(simp only [aP,lT,lZ,lS,i64_w,i32_w];rfl)
                          refine pure_ (i:=8) (N:=some 89) (v:=?_) (a':=?_) #[Y,Y,Y,Y,Y,Y,Y,Y,Y,Z,Z,Z,Z,Z,Z,Z,Z,Z,Z,Z,Z,Z,Z,Z,Z,Z] rfl rfl (any_of HT_.out (by kernel_rfl)) (fun _ _ _ h => h) (Or.inl ⟨by rfl,?_⟩) ?_ ?_
                          rotate_left;(intro w';go_simp;with_reducible rfl);rotate_left;(simp only [aP,lT,lZ,lS,i64_w,i32_w];rfl)
                          refine pure_ (i:=9) (N:=some 90) (v:=?_) (a':=?_) #[Y,Y,Y,Y,Y,Y,Y,Y,Y,Y,Z,Z,Z,Z,Z,Z,Z,Z,Z,Z,Z,Z,Z,Z,Z,Z] rfl rfl (any_of HT_.out (by kernel_rfl)) (fun _ _ _ h => h) (Or.inl ⟨by rfl,?_⟩) ?_ ?_
                          rotate_left;(intro w';go_simp;with_reducible rfl);rotate_left;(simp only [aP,lT,lZ,lS,i64_w,i32_w];rfl)
                          refine pure_ (i:=10) (N:=some 91) (v:=?_) (a':=?_) #[Y,Y,Y,Y,Y,Y,Y,Y,Y,Y,Y,Z,Z,Z,Z,Z,Z,Z,Z,Z,Z,Z,Z,Z,Z,Z] rfl rfl (any_of HT_.out (by kernel_rfl)) (fun _ _ _ h => h) (Or.inl ⟨by rfl,?_⟩) ?_ ?_
                          rotate_left;(intro w';go_simp;with_reducible rfl);rotate_left;(simp only [aP,lT,lZ,lS,i64_w,i32_w];rfl)
                          refine pure_ (i:=12) (N:=some 93) (v:=?_) (a':=?_) #[Y,Y,Y,Y,Y,Y,Y,Y,Y,Y,Y,Z,Y,Z,Z,Z,Z,Z,Z,Z,Z,Z,Z,Z,Z,Z] rfl rfl (any_of HT_.out (by kernel_rfl)) (fun _ _ _ h => h) (Or.inl ⟨by rfl,?_⟩) ?_ ?_
                          rotate_left;(intro w';go_simp;with_reducible rfl);rotate_left;(simp only [aP,lT,lZ,lS,i64_w,i32_w];rfl)
                          refine take_ (i:=11) (N:=some 92) (v:=?_) (a':=?_) #[Y,Y,Y,Y,Y,Y,Y,Y,Y,Y,Y,Y,Y,Z,Z,Z,Z,Z,Z,Z,Z,Z,Z,Z,Z,Z] rfl rfl (take_ofW HT_.out HW_.out (by kernel_rfl)) (fun _ _ _ h => h) (Or.inl ⟨by rfl,?_⟩) hHeld ?_ ?_
                          rotate_left;(rintro w' ⟨s0,s1,s2,s3⟩;go_simp;with_reducible rfl);rotate_left;(simp only [aP,lT,lZ,lS,i64_w,i32_w];rfl)
                          refine pure_ (i:=13) (N:=some 94) (v:=?_) (a':=?_) #[Y,Y,Y,Y,Y,Y,Y,Y,Y,Y,Y,Y,Y,Y,Z,Z,Z,Z,Z,Z,Z,Z,Z,Z,Z,Z] rfl rfl (any_of HT_.out (by kernel_rfl)) (fun _ _ _ h => h) (Or.inl ⟨by rfl,?_⟩) ?_ ?_
                          rotate_left;(intro w';go_simp;with_reducible rfl);rotate_left;(simp only [aP,lT,lZ,lS,i64_w,i32_w];rfl)
                          refine pure_ (i:=14) (N:=some 95) (v:=?_) (a':=?_) #[Y,Y,Y,Y,Y,Y,Y,Y,Y,Y,Y,Y,Y,Y,Y,Z,Z,Z,Z,Z,Z,Z,Z,Z,Z,Z] rfl rfl (any_of HT_.out (by kernel_rfl)) (fun _ _ _ h => h) (Or.inl ⟨by rfl,?_⟩) ?_ ?_
                          rotate_left;(intro w';go_simp;with_reducible rfl);rotate_left;(simp only [aP,lT,lZ,lS,i64_w,i32_w];rfl)
                          refine pure_ (i:=15) (N:=some 96) (v:=?_) (a':=?_) #[Y,Y,Y,Y,Y,Y,Y,Y,Y,Y,Y,Y,Y,Y,Y,Y,Z,Z,Z,Z,Z,Z,Z,Z,Z,Z] rfl rfl (any_of HT_.out (by kernel_rfl)) (fun _ _ _ h => h) (Or.inl ⟨by rfl,?_⟩) ?_ ?_
                          rotate_left;(intro w';go_simp;with_reducible rfl);rotate_left;(simp only [aP,lT,lZ,lS,i64_w,i32_w];rfl)
                          refine pure_ (i:=20) (N:=some 101) (v:=?_) (a':=?_) #[Y,Y,Y,Y,Y,Y,Y,Y,Y,Y,Y,Y,Y,Y,Y,Y,Z,Z,Z,Z,Y,Z,Z,Z,Z,Z] rfl rfl (any_of HT_.out (by kernel_rfl)) (fun _ _ _ h => h) (Or.inl ⟨by rfl,?_⟩) ?_ ?_
                          rotate_left;(intro w';go_simp;with_reducible rfl);rotate_left;(simp only [aP,lT,lZ,lS,i64_w,i32_w];rfl)
                          refine take_ (i:=16) (N:=some 97) (v:=?_) (a':=?_) #[Y,Y,Y,Y,Y,Y,Y,Y,Y,Y,Y,Y,Y,Y,Y,Y,Y,Z,Z,Z,Y,Z,Z,Z,Z,Z] rfl rfl (take_ofW HT_.out HW_.out (by kernel_rfl)) (fun _ _ _ h => h) (Or.inl ⟨by rfl,?_⟩) hHeld ?_ ?_
                          rotate_left;(rintro w' ⟨s0,s1,s2,s3⟩;go_simp;with_reducible rfl);rotate_left;(simp only [aP,lT,lZ,lS,i64_w,i32_w];rfl)
                          refine take_ (i:=18) (N:=some 99) (v:=?_) (a':=?_) #[Y,Y,Y,Y,Y,Y,Y,Y,Y,Y,Y,Y,Y,Y,Y,Y,Y,Z,Y,Z,Y,Z,Z,Z,Z,Z] rfl rfl (take_ofW HT_.out HW_.out (by kernel_rfl)) (fun _ _ _ h => h) (Or.inl ⟨by rfl,?_⟩) hHeld ?_ ?_
                          rotate_left;(rintro w' ⟨s0,s1,s2,s3⟩;go_simp;with_reducible rfl);rotate_left;(simp only [aP,lT,lZ,lS,i64_w,i32_w];rfl)
                          refine one_ (i:=17) (N:=some 98) #[Y,Y,Y,Y,Y,Y,Y,Y,Y,Y,Y,Y,Y,Y,Y,Y,Y,Y,Y,Z,Y,Z,Z,Z,Z,Z] rfl rfl (one_of HT_.out (by kernel_rfl)) (by decide) (fun K hK => ?_)
                          refine goes_ Try.func23 (by kernel_rfl) rfl #[.agg #[.int .u64 t365,.int .u64 t366]] (by rfl) rfl rfl (by (try simp only [mT,mC,mN]);first|done|rfl|(simp only [lD,lK];rfl)) ?_
                          with_reducible refine (wide_Len.calls t365 t366 t370 _ A89.out).mono ?_
                          rintro e w111 ⟨rfl,hb⟩;refine ⟨_,rfl,?_⟩;have n0_:=A0.mk (bB (g:=gb342) (o:=.cells #[.int .u64 a0_0,.int .u64 a0_1] 24 (0,0)) (by (with_reducible repeat (first|refine bN ?_ _|refine bD ?_|refine bA ?_ _));exact BK342.out) hb);have n1_:=A0.mk (bB (g:=gb360) (o:=.cells #[.int .u64 t356,.int .u64 t357] 24 (0,0)) (by (with_reducible repeat (first|refine bN ?_ _|refine bD ?_|refine bA ?_ _));exact BK360.out) hb);have n2_:=A0.mk (bB (g:=gb361) (o:=.cells #[.int .u64 t358,.int .u64 t359] 24 (0,0)) (by (with_reducible repeat (first|refine bN ?_ _|refine bD ?_|refine bA ?_ _));exact BK361.out) hb);have n3_:=A0.mk (bB (g:=gb364) (o:=.cells #[.int .u64 t356,.int .u64 x365001_48] 24 (0,0)) (by (with_reducible repeat (first|refine bN ?_ _|refine bD ?_|refine bA ?_ _));exact BK364.out) hb);have n4_:=A0.mk (bB (g:=gb367) (o:=.cells #[.int .u64 t365,.int .u64 t366] 24 (0,0)) (by (with_reducible repeat (first|refine bN ?_ _|refine bD ?_|refine bA ?_ _));exact BK367.out) hb);have n5_:=A0.mk (wT (by repeat (first|(with_reducible first|exact HB.out|apply wA|apply wN|apply wD|refine wS ?_ GE342.out|refine wS ?_ GE360.out|refine wS ?_ GE361.out|refine wS ?_ GE364.out|refine wS ?_ GE367.out)|exact HB.out)) hb);clear BK342;clear BK360;clear BK361;clear BK364;clear BK367;clear HB;have BK342:=n0_;have BK360:=n1_;have BK361:=n2_;have BK364:=n3_;have BK367:=n4_;have HB:=n5_;clear n0_ n1_ n2_ n3_ n4_ n5_;(try clear hb);(try clear hb2);(try clear hk);(try clear hi)
                          refine hK.out _ _ ⟨(bC BK367.out 0).trans rfl,(bC BK367.out 1).trans rfl,(bC BK342.out 0).trans rfl,(bC BK342.out 1).trans rfl⟩ (fun hHeld => ?_)
                          clear hK K
                          refine norm_ (a':=?_) ?_ ?_
                          rotate_left;(show Act.put _ (some 98) _ = _;simp only [aP,lT,lZ,lS,i64_w,i32_w];rfl)
                          refine one_ (i:=19) (N:=some 100) #[Y,Y,Y,Y,Y,Y,Y,Y,Y,Y,Y,Y,Y,Y,Y,Y,Y,Y,Y,Y,Y,Z,Z,Z,Z,Z] rfl rfl (one_of HT_.out (by kernel_rfl)) (by decide) (fun K hK => ?_)
                          refine goes_ Try.func23 (by kernel_rfl) rfl #[.agg #[.int .u64 a0_0,.int .u64 a0_1]] (by rfl) rfl rfl (by (try simp only [mT,mC,mN]);first|done|rfl|(simp only [lD,lK];rfl)) ?_
                          with_reducible refine (wide_Len.calls a0_0 a0_1 t371 _ A90.out).mono ?_
                          rintro e w112 ⟨rfl,hb⟩;refine ⟨_,rfl,?_⟩;have n0_:=A0.mk (bB (g:=gb342) (o:=.cells #[.int .u64 a0_0,.int .u64 a0_1] 24 (0,0)) (by (with_reducible repeat (first|refine bN ?_ _|refine bD ?_|refine bA ?_ _));exact BK342.out) hb);have n1_:=A0.mk (bB (g:=gb360) (o:=.cells #[.int .u64 t356,.int .u64 t357] 24 (0,0)) (by (with_reducible repeat (first|refine bN ?_ _|refine bD ?_|refine bA ?_ _));exact BK360.out) hb);have n2_:=A0.mk (bB (g:=gb361) (o:=.cells #[.int .u64 t358,.int .u64 t359] 24 (0,0)) (by (with_reducible repeat (first|refine bN ?_ _|refine bD ?_|refine bA ?_ _));exact BK361.out) hb);have n3_:=A0.mk (bB (g:=gb364) (o:=.cells #[.int .u64 t356,.int .u64 x365001_48] 24 (0,0)) (by (with_reducible repeat (first|refine bN ?_ _|refine bD ?_|refine bA ?_ _));exact BK364.out) hb);have n4_:=A0.mk (bB (g:=gb367) (o:=.cells #[.int .u64 t365,.int .u64 t366] 24 (0,0)) (by (with_reducible repeat (first|refine bN ?_ _|refine bD ?_|refine bA ?_ _));exact BK367.out) hb);have n5_:=A0.mk (wT (by repeat (first|(with_reducible first|exact HB.out|apply wA|apply wN|apply wD|refine wS ?_ GE342.out|refine wS ?_ GE360.out|refine wS ?_ GE361.out|refine wS ?_ GE364.out|refine wS ?_ GE367.out)|exact HB.out)) hb);clear BK342;clear BK360;clear BK361;clear BK364;clear BK367;clear HB;have BK342:=n0_;have BK360:=n1_;have BK361:=n2_;have BK364:=n3_;have BK367:=n4_;have HB:=n5_;clear n0_ n1_ n2_ n3_ n4_ n5_;(try clear hb);(try clear hb2);(try clear hk);(try clear hi)
                          refine hK.out _ _ ⟨(bC BK367.out 0).trans rfl,(bC BK367.out 1).trans rfl,(bC BK342.out 0).trans rfl,(bC BK342.out 1).trans rfl⟩ (fun hHeld => ?_)
                          clear hK K
                          refine norm_ (a':=?_) ?_ ?_
                          rotate_left;(show Act.put _ (some 100) _ = _;simp only [aP,lT,lZ,lS,i64_w,i32_w];rfl)
                          refine pure_ (i:=21) (N:=some 102) (v:=?_) (a':=?_) #[Y,Y,Y,Y,Y,Y,Y,Y,Y,Y,Y,Y,Y,Y,Y,Y,Y,Y,Y,Y,Y,Y,Z,Z,Z,Z] rfl rfl (any_of HT_.out (by kernel_rfl)) (fun _ _ _ h => h) (Or.inl ⟨by rfl,?_⟩) ?_ ?_
                          rotate_left;(intro w';go_simp;with_reducible rfl);rotate_left;(simp only [aP,lT,lZ,lS,i64_w,i32_w];rfl)
                          refine pure_ (i:=22) (N:=some 103) (v:=?_) (a':=?_) #[Y,Y,Y,Y,Y,Y,Y,Y,Y,Y,Y,Y,Y,Y,Y,Y,Y,Y,Y,Y,Y,Y,Y,Z,Z,Z] rfl rfl (any_of HT_.out (by kernel_rfl)) (fun _ _ _ h => h) (Or.inl ⟨by rfl,?_⟩) ?_ ?_
                          rotate_left;(intro w';go_simp;with_reducible rfl);rotate_left;(simp only [aP,lT,lZ,lS,i64_w,i32_w];rfl)
                          refine pure_ (i:=23) (N:=some 104) (v:=?_) (a':=?_) #[Y,Y,Y,Y,Y,Y,Y,Y,Y,Y,Y,Y,Y,Y,Y,Y,Y,Y,Y,Y,Y,Y,Y,Y,Z,Z] rfl rfl (any_of HT_.out (by kernel_rfl)) (fun _ _ _ h => h) (Or.inl ⟨by rfl,?_⟩) ?_ ?_
                          rotate_left;(intro w';go_simp;with_reducible rfl);rotate_left;(simp only [aP,lT,lZ,lS,i64_w,i32_w];rfl)
                          refine pure_ (i:=24) (N:=some 105) (v:=?_) (a':=?_) #[Y,Y,Y,Y,Y,Y,Y,Y,Y,Y,Y,Y,Y,Y,Y,Y,Y,Y,Y,Y,Y,Y,Y,Y,Y,Z] rfl rfl (any_of HT_.out (by kernel_rfl)) (fun _ _ _ h => h) (Or.inl ⟨by rfl,?_⟩) ?_ ?_
                          rotate_left;(intro w';go_simp;with_reducible rfl);rotate_left;(simp only [aP,lT,lZ,lS,i64_w,i32_w];rfl)
                          refine pure_ (i:=25) (N:=some 6) (v:=?_) (a':=?_) #[Y,Y,Y,Y,Y,Y,Y,Y,Y,Y,Y,Y,Y,Y,Y,Y,Y,Y,Y,Y,Y,Y,Y,Y,Y,Y] rfl rfl (any_of HT_.out (by kernel_rfl)) (fun _ _ _ h => h) (Or.inl ⟨by rfl,?_⟩) ?_ ?_
                          rotate_left;(intro w';go_simp;with_reducible rfl);rotate_left;(simp only [aP,lT,lZ,lS,i64_w,i32_w];rfl)
                          refine done_ (done_of HT_.out (by kernel_rfl)) ?_
                          try go_wp2
                          go_ret
                          exact ⟨by first|rfl|(simp [errW_none,errW_some] <;> rfl)|(simp [*,errW_none,errW_some] <;> rfl),by repeat (first|(with_reducible first|exact HB.out|apply wA|apply wN|apply wD|refine wS ?_ GE342.out|refine wS ?_ GE360.out|refine wS ?_ GE361.out|refine wS ?_ GE364.out|refine wS ?_ GE367.out)|exact HB.out)⟩
                      · rw [if_neg c67] at H
                        have c67b0 : ((t368 == a0_0 && (t369 == a0_1)) == true) = false:=by simpa using c67
                        (try (have c67b1 : decide ((t368 == a0_0 && (t369 == a0_1)) = true) = false:=by simpa using c67))
                        (try (have c67b2 : ((t368 == a0_0 && (t369 == a0_1)) == true) = false:=by simpa using c67))
                        (try (have c67b3 : ¬ ((t368 == a0_0 && (t369 == a0_1)) = true):=by simpa using c67))
                        clear c67
                        exact absurd H (by simp)
                    · rw [if_neg c65] at H
                      have c65b0 : (a0_0 == 0 && (a0_1 == 0)) = false:=by simpa using c65
                      (try (have c65b1 : decide (a0_0 = 0 && (a0_1 == 0)) = false:=by simpa using c65))
                      (try (have c65b2 : (a0_0 == 0 && (a0_1 == 0)) = false:=by simpa using c65))
                      (try (have c65b3 : ¬ (a0_0 = 0 && (a0_1 == 0)):=by simpa using c65))
                      clear c65;replace H:=Option.bind_eq_some_iff.mp H;obtain ⟨t372,A1130,H⟩:=H
                      replace H : ((wide_Shr.f t365 t366 (Go.bits .and .i64 a2 255)).bind fun bt373 => (if ((bt373.1 == a0_0 && (bt373.2 == a0_1)) == (decide ((wrap64 (t372 + (Go.bits .and .i64 a2 255))) ≤ 128))) = true then (if ((wrap64 (t372 + (Go.bits .and .i64 a2 255))) ≤ 128) then (if (t365 == 0 && (t366 == 0)) = true then (some true) else ((wide_Len.f t365 t366).bind fun t375 => ((wide_Len.f a0_0 a0_1).bind fun t376 => (some (t375 == (wrap64 (t376 + (Go.bits .and .i64 a2 255)))))))) else (some true)) else (none))) = some r:=H
                      have A113:=A0.mk A1130;clear A1130;replace H:=Option.bind_eq_some_iff.mp H;obtain ⟨⟨t373,t374⟩,A1140,H⟩:=H
                      replace H : (if ((t373 == a0_0 && (t374 == a0_1)) == (decide ((wrap64 (t372 + (Go.bits .and .i64 a2 255))) ≤ 128))) = true then (if ((wrap64 (t372 + (Go.bits .and .i64 a2 255))) ≤ 128) then (if (t365 == 0 && (t366 == 0)) = true then (some true) else ((wide_Len.f t365 t366).bind fun t375 => ((wide_Len.f a0_0 a0_1).bind fun t376 => (some (t375 == (wrap64 (t376 + (Go.bits .and .i64 a2 255)))))))) else (some true)) else (none)) = some r:=H
                      have A114:=A0.mk A1140;clear A1140
                      by_cases c115 : ((t373 == a0_0 && (t374 == a0_1)) == (decide ((wrap64 (t372 + (Go.bits .and .i64 a2 255))) ≤ 128))) = true
                      · rw [if_pos c115] at H
                        have c115b0 : ((t373 == a0_0 && (t374 == a0_1)) == (decide ((wrap64 (t372 + (Go.bits .and .i64 a2 255))) ≤ 128))) = true:=c115
                        (try (have c115b1 : decide ((t373 == a0_0 && (t374 == a0_1)) = (decide ((wrap64 (t372 + (Go.bits .and .i64 a2 255))) ≤ 128))) = true:=by simpa using c115))
                        (try (have c115b2 : ((t373 == a0_0 && (t374 == a0_1)) == (decide ((wrap64 (t372 + (Go.bits .and .i64 a2 255))) ≤ 128))) = true:=by simpa using c115))
                        clear c115
                        by_cases c116 : ((wrap64 (t372 + (Go.bits .and .i64 a2 255))) ≤ 128)
                        · rw [if_pos c116] at H
                          have c116b0 : decide ((wrap64 (t372 + (Go.bits .and .i64 a2 255))) ≤ 128) = true:=decide_eq_true c116
                          have c116z0 : (t373 == a0_0 && (t374 == a0_1)) = true:=by have h_:=c115b0;rw [c116b0] at h_;revert h_;cases (t373 == a0_0 && (t374 == a0_1)) <;> decide
                          have c116z1 : (decide (t373 = a0_0) && t374 == a0_1) = true:=by simpa using c116z0
                          clear c116
                          by_cases c117 : (t365 == 0 && (t366 == 0)) = true
                          · rw [if_pos c117] at H
                            have c117b0 : (t365 == 0 && (t366 == 0)) = true:=c117
                            (try (have c117b1 : decide (t365 = 0 && (t366 == 0)) = true:=by simpa using c117))
                            (try (have c117b2 : (t365 == 0 && (t366 == 0)) = true:=by simpa using c117))
                            clear c117;obtain rfl:=Option.some.inj H
                            have hnb118:=NB361_342.out
                            have hnc118:=NB342_361.out
                            have hnb119:=NB361_360.out
                            have hnc119:=NB360_361.out
                            have hnb120:=NB361_364.out
                            have hnc120:=NB364_361.out
                            have hcz121_0 : wc.cell? ⟨gb361,0,none⟩ = some (.int .u64 t358):=(bC BK361.out 0).trans rfl
                            have hcz121_1 : wc.cell? ⟨gb361,1,none⟩ = some (.int .u64 t359):=(bC BK361.out 1).trans rfl
                            have hfz121_0:=bF BK361.out 0
                            have hfz121_1:=bF BK361.out 1
                            have hnb122:=NB364_342.out
                            have hnc122:=NB342_364.out
                            have hnb123:=NB364_360.out
                            have hnc123:=NB360_364.out
                            have hcz124_0 : wc.cell? ⟨gb364,0,none⟩ = some (.int .u64 t356):=(bC BK364.out 0).trans rfl
                            have hcz124_1 : wc.cell? ⟨gb364,1,none⟩ = some (.int .u64 x365001_48):=(bC BK364.out 1).trans rfl
                            have hfz124_0:=bF BK364.out 0
                            have hfz124_1:=bF BK364.out 1
                            have hnb125:=NB342_360.out
                            have hnc125:=NB360_342.out
                            have hcz126_0 : wc.cell? ⟨gb342,0,none⟩ = some (.int .u64 a0_0):=(bC BK342.out 0).trans rfl
                            have hcz126_1 : wc.cell? ⟨gb342,1,none⟩ = some (.int .u64 a0_1):=(bC BK342.out 1).trans rfl
                            have hfz126_0:=bF BK342.out 0
                            have hfz126_1:=bF BK342.out 1
                            try go_wp2_with (first|((with_reducible refine gC (f:=25) rfl ?_);refine goesL_ (some 70) rfl rfl Try.func25 (by kernel_rfl) rfl #[.agg #[.int .u64 a0_0,.int .u64 a0_1],.int .i64 (Go.bits .and .i64 a2 255)] rfl (by (try simp only [mT,mC,mN]);first|done|rfl|(simp only [lD,lK];rfl)) ?_;(with_reducible refine (wide_Shl.calls a0_0 a0_1 (Go.bits .and .i64 a2 255) t365 t366 _ A64.out).mono ?_);rintro e w127 ⟨rfl,hb⟩;refine ⟨_,rfl,?_⟩;have n0_:=A0.mk (bB (g:=gb342) (o:=.cells #[.int .u64 a0_0,.int .u64 a0_1] 24 (0,0)) (by (with_reducible repeat (first|refine bN ?_ _|refine bD ?_|refine bA ?_ _));exact BK342.out) hb);have n1_:=A0.mk (bB (g:=gb360) (o:=.cells #[.int .u64 t356,.int .u64 t357] 24 (0,0)) (by (with_reducible repeat (first|refine bN ?_ _|refine bD ?_|refine bA ?_ _));exact BK360.out) hb);have n2_:=A0.mk (bB (g:=gb361) (o:=.cells #[.int .u64 t358,.int .u64 t359] 24 (0,0)) (by (with_reducible repeat (first|refine bN ?_ _|refine bD ?_|refine bA ?_ _));exact BK361.out) hb);have n3_:=A0.mk (bB (g:=gb364) (o:=.cells #[.int .u64 t356,.int .u64 x365001_48] 24 (0,0)) (by (with_reducible repeat (first|refine bN ?_ _|refine bD ?_|refine bA ?_ _));exact BK364.out) hb);have n4_:=A0.mk (wT (by repeat (first|(with_reducible first|exact HB.out|apply wA|apply wN|apply wD|refine wS ?_ GE342.out|refine wS ?_ GE360.out|refine wS ?_ GE361.out|refine wS ?_ GE364.out)|exact HB.out)) hb);clear BK342;clear BK360;clear BK361;clear BK364;clear HB;have BK342:=n0_;have BK360:=n1_;have BK361:=n2_;have BK364:=n3_;have HB:=n4_;clear n0_ n1_ n2_ n3_ n4_;(try clear hb);(try clear hb2);(try clear hk);(try clear hi))|((with_reducible refine gD (N:=11) rfl ?_);refine bE ?hg (N:=11) ?hd (cs:=#[.int .u64 0,.int .u64 0]) (t:=24) ?hr ?_;(case hd => rfl);(case hg => rfl);(case hr => first|(go_simp;done)|(go_simp;rfl));intro gb367 hg w128 hbox hb;have n0_:=A0.mk (bB (g:=gb342) (o:=.cells #[.int .u64 a0_0,.int .u64 a0_1] 24 (0,0)) (by (with_reducible repeat (first|refine bN ?_ _|refine bD ?_|refine bA ?_ _));exact BK342.out) hb);have n1_:=A0.mk (bB (g:=gb360) (o:=.cells #[.int .u64 t356,.int .u64 t357] 24 (0,0)) (by (with_reducible repeat (first|refine bN ?_ _|refine bD ?_|refine bA ?_ _));exact BK360.out) hb);have n2_:=A0.mk (bB (g:=gb361) (o:=.cells #[.int .u64 t358,.int .u64 t359] 24 (0,0)) (by (with_reducible repeat (first|refine bN ?_ _|refine bD ?_|refine bA ?_ _));exact BK361.out) hb);have n3_:=A0.mk (bB (g:=gb364) (o:=.cells #[.int .u64 t356,.int .u64 x365001_48] 24 (0,0)) (by (with_reducible repeat (first|refine bN ?_ _|refine bD ?_|refine bA ?_ _));exact BK364.out) hb);have n4_:=A0.mk (wT (by repeat (first|(with_reducible first|exact HB.out|apply wA|apply wN|apply wD|refine wS ?_ GE342.out|refine wS ?_ GE360.out|refine wS ?_ GE361.out|refine wS ?_ GE364.out)|exact HB.out)) hb);have n5_:=A0.mk (hbox);have n6_:=A0.mk ((by rw [hg];exact (wZ (by repeat (first|(with_reducible first|exact HB.out|apply wA|apply wN|apply wD|refine wS ?_ GE342.out|refine wS ?_ GE360.out|refine wS ?_ GE361.out|refine wS ?_ GE364.out)|exact HB.out))) : w.heap.size ≤ gb367));have n7_:=A0.mk ((by rw [hg];exact (wZ (by repeat (first|(with_reducible first|exact HB.out|apply wA|apply wN|apply wD|refine wS ?_ GE342.out|refine wS ?_ GE360.out|refine wS ?_ GE361.out|refine wS ?_ GE364.out)|exact HB.out))) : w.heap.size ≤ gb367));have n8_:=A0.mk ((by rw [hg];exact Nat.ne_of_lt (blk_lt (g:=gb342) (o:=.cells #[.int .u64 a0_0,.int .u64 a0_1] 24 (0,0)) (by (with_reducible repeat (first|refine bN ?_ _|refine bD ?_|refine bA ?_ _));exact BK342.out)) : gb342 ≠ gb367));have n9_:=A0.mk ((by rw [hg];exact Nat.ne_of_gt (blk_lt (g:=gb342) (o:=.cells #[.int .u64 a0_0,.int .u64 a0_1] 24 (0,0)) (by (with_reducible repeat (first|refine bN ?_ _|refine bD ?_|refine bA ?_ _));exact BK342.out)) : gb367 ≠ gb342));have n10_:=A0.mk ((by rw [hg];exact Nat.ne_of_lt (blk_lt (g:=gb360) (o:=.cells #[.int .u64 t356,.int .u64 t357] 24 (0,0)) (by (with_reducible repeat (first|refine bN ?_ _|refine bD ?_|refine bA ?_ _));exact BK360.out)) : gb360 ≠ gb367));have n11_:=A0.mk ((by rw [hg];exact Nat.ne_of_gt (blk_lt (g:=gb360) (o:=.cells #[.int .u64 t356,.int .u64 t357] 24 (0,0)) (by (with_reducible repeat (first|refine bN ?_ _|refine bD ?_|refine bA ?_ _));exact BK360.out)) : gb367 ≠ gb360));have n12_:=A0.mk ((by rw [hg];exact Nat.ne_of_lt (blk_lt (g:=gb361) (o:=.cells #[.int .u64 t358,.int .u64 t359] 24 (0,0)) (by (with_reducible repeat (first|refine bN ?_ _|refine bD ?_|refine bA ?_ _));exact BK361.out)) : gb361 ≠ gb367));have n13_:=A0.mk ((by rw [hg];exact Nat.ne_of_gt (blk_lt (g:=gb361) (o:=.cells #[.int .u64 t358,.int .u64 t359] 24 (0,0)) (by (with_reducible repeat (first|refine bN ?_ _|refine bD ?_|refine bA ?_ _));exact BK361.out)) : gb367 ≠ gb361));have n14_:=A0.mk ((by rw [hg];exact Nat.ne_of_lt (blk_lt (g:=gb364) (o:=.cells #[.int .u64 t356,.int .u64 x365001_48] 24 (0,0)) (by (with_reducible repeat (first|refine bN ?_ _|refine bD ?_|refine bA ?_ _));exact BK364.out)) : gb364 ≠ gb367));have n15_:=A0.mk ((by rw [hg];exact Nat.ne_of_gt (blk_lt (g:=gb364) (o:=.cells #[.int .u64 t356,.int .u64 x365001_48] 24 (0,0)) (by (with_reducible repeat (first|refine bN ?_ _|refine bD ?_|refine bA ?_ _));exact BK364.out)) : gb367 ≠ gb364));clear BK342;clear BK360;clear BK361;clear BK364;clear HB;have BK342:=n0_;have BK360:=n1_;have BK361:=n2_;have BK364:=n3_;have HB:=n4_;have BK367:=n5_;have GW367:=n6_;have GE367:=n7_;have NB342_367:=n8_;have NB367_342:=n9_;have NB360_367:=n10_;have NB367_360:=n11_;have NB361_367:=n12_;have NB367_361:=n13_;have NB364_367:=n14_;have NB367_364:=n15_;clear n0_ n1_ n2_ n3_ n4_ n5_ n6_ n7_ n8_ n9_ n10_ n11_ n12_ n13_ n14_ n15_;clear hb hbox hg;have hnb129:=NB367_342.out;have hnc129:=NB342_367.out;have hnb130:=NB367_360.out;have hnc130:=NB360_367.out;have hnb131:=NB367_361.out;have hnc131:=NB361_367.out;have hnb132:=NB367_364.out;have hnc132:=NB364_367.out;have hcz133_0 : w128.cell? ⟨gb367,0,none⟩ = some (.int .u64 0):=(bC BK367.out 0).trans rfl;have hcz133_1 : w128.cell? ⟨gb367,1,none⟩ = some (.int .u64 0):=(bC BK367.out 1).trans rfl;have hfz133_0:=bF BK367.out 0;have hfz133_1:=bF BK367.out 1;have hcz134_0 : w128.cell? ⟨gb342,0,none⟩ = some (.int .u64 a0_0):=(bC BK342.out 0).trans rfl;have hcz134_1 : w128.cell? ⟨gb342,1,none⟩ = some (.int .u64 a0_1):=(bC BK342.out 1).trans rfl;have hfz134_0:=bF BK342.out 0;have hfz134_1:=bF BK342.out 1)|(go_at_call 23;(with_reducible refine (wide_Len.calls a0_0 a0_1 t372 _ A113.out).mono ?_);rintro e w135 ⟨rfl,hb⟩;have n0_:=A0.mk (bB (g:=gb342) (o:=.cells #[.int .u64 a0_0,.int .u64 a0_1] 24 (0,0)) (by (with_reducible repeat (first|refine bN ?_ _|refine bD ?_|refine bA ?_ _));refine bR ?_ NB342_367.out _;(with_reducible repeat (first|refine bN ?_ _|refine bD ?_|refine bA ?_ _));refine bR ?_ NB342_367.out _;(with_reducible repeat (first|refine bN ?_ _|refine bD ?_|refine bA ?_ _));exact BK342.out) hb);have n1_:=A0.mk (bB (g:=gb360) (o:=.cells #[.int .u64 t356,.int .u64 t357] 24 (0,0)) (by (with_reducible repeat (first|refine bN ?_ _|refine bD ?_|refine bA ?_ _));refine bR ?_ NB360_367.out _;(with_reducible repeat (first|refine bN ?_ _|refine bD ?_|refine bA ?_ _));refine bR ?_ NB360_367.out _;(with_reducible repeat (first|refine bN ?_ _|refine bD ?_|refine bA ?_ _));exact BK360.out) hb);have n2_:=A0.mk (bB (g:=gb361) (o:=.cells #[.int .u64 t358,.int .u64 t359] 24 (0,0)) (by (with_reducible repeat (first|refine bN ?_ _|refine bD ?_|refine bA ?_ _));refine bR ?_ NB361_367.out _;(with_reducible repeat (first|refine bN ?_ _|refine bD ?_|refine bA ?_ _));refine bR ?_ NB361_367.out _;(with_reducible repeat (first|refine bN ?_ _|refine bD ?_|refine bA ?_ _));exact BK361.out) hb);have n3_:=A0.mk (bB (g:=gb364) (o:=.cells #[.int .u64 t356,.int .u64 x365001_48] 24 (0,0)) (by (with_reducible repeat (first|refine bN ?_ _|refine bD ?_|refine bA ?_ _));refine bR ?_ NB364_367.out _;(with_reducible repeat (first|refine bN ?_ _|refine bD ?_|refine bA ?_ _));refine bR ?_ NB364_367.out _;(with_reducible repeat (first|refine bN ?_ _|refine bD ?_|refine bA ?_ _));exact BK364.out) hb);have n4_:=A0.mk (bB (g:=gb367) (o:=.cells #[.int .u64 t365,.int .u64 t366] 24 (0,0)) (by (with_reducible repeat (first|refine bN ?_ _|refine bD ?_|refine bA ?_ _));refine bP (cs:=#[.int .u64 t365,.int .u64 0]) ?_ 1 _ rfl;(with_reducible repeat (first|refine bN ?_ _|refine bD ?_|refine bA ?_ _));refine bP (cs:=#[.int .u64 0,.int .u64 0]) ?_ 0 _ rfl;(with_reducible repeat (first|refine bN ?_ _|refine bD ?_|refine bA ?_ _));exact BK367.out) hb);have n5_:=A0.mk (wT (by repeat (first|(with_reducible first|exact HB.out|apply wA|apply wN|apply wD|refine wS ?_ GE342.out|refine wS ?_ GE360.out|refine wS ?_ GE361.out|refine wS ?_ GE364.out|refine wS ?_ GE367.out)|exact HB.out)) hb);clear BK342;clear BK360;clear BK361;clear BK364;clear BK367;clear HB;have BK342:=n0_;have BK360:=n1_;have BK361:=n2_;have BK364:=n3_;have BK367:=n4_;have HB:=n5_;clear n0_ n1_ n2_ n3_ n4_ n5_;(try clear hb);(try clear hb2);(try clear hk);(try clear hi)))
                            have n0_:=A0.mk (bD BK342.out);have n1_:=A0.mk (bD BK360.out);have n2_:=A0.mk (bD BK361.out);have n3_:=A0.mk (bD BK364.out);have n4_:=A0.mk (bD BK367.out);have n5_:=A0.mk (wD HB.out);clear BK342;clear BK360;clear BK361;clear BK364;clear BK367;clear HB;have BK342:=n0_;have BK360:=n1_;have BK361:=n2_;have BK364:=n3_;have BK367:=n4_;have HB:=n5_;clear n0_ n1_ n2_ n3_ n4_ n5_
                            refine start_ (n:=26) (S:=fun w' => w'.cell? ⟨gb367,0,none⟩ = some (.int .u64 t365)∧w'.cell? ⟨gb367,1,none⟩ = some (.int .u64 t366)∧w'.cell? ⟨gb342,0,none⟩ = some (.int .u64 a0_0)∧w'.cell? ⟨gb342,1,none⟩ = some (.int .u64 a0_1)) (ds:=[]) #[Z,Z,Z,Z,Z,Z,Z,Z,Z,Z,Z,Z,Z,Z,Z,Z,Z,Z,Z,Z,Z,Z,Z,Z,Z,Z] (by kernel_rfl) rfl rfl ⟨(bC BK367.out 0).trans rfl,(bC BK367.out 1).trans rfl,(bC BK342.out 0).trans rfl,(bC BK342.out 1).trans rfl⟩ (fun hHeld => ?_);refine with_tabW vernierlaw01_WideJams.tab17 vernierlaw01_WideJams.bits17 (fun HT_ HW_ => ?_)
                            generalize w135.drew = w136 at BK342 BK360 BK361 BK364 BK367 HB hHeld ⊢
                            refine pure_ (i:=1) (N:=some 82) (v:=?_) (a':=?_) #[Z,Y,Z,Z,Z,Z,Z,Z,Z,Z,Z,Z,Z,Z,Z,Z,Z,Z,Z,Z,Z,Z,Z,Z,Z,Z] rfl rfl (any_of HT_.out (by kernel_rfl)) (fun _ _ _ h => h) (Or.inl ⟨by rfl,?_⟩) ?_ ?_
                            rotate_left;(intro w';go_simp;with_reducible rfl);rotate_left;(simp only [aP,lT,lZ,lS,i64_w,i32_w];rfl)
                            refine pure_ (i:=5) (N:=some 86) (v:=?_) (a':=?_) #[Z,Y,Z,Z,Z,Y,Z,Z,Z,Z,Z,Z,Z,Z,Z,Z,Z,Z,Z,Z,Z,Z,Z,Z,Z,Z] rfl rfl (any_of HT_.out (by kernel_rfl)) (fun _ _ _ h => h) (Or.inl ⟨by rfl,?_⟩) ?_ ?_
                            rotate_left;(intro w';go_simp;with_reducible rfl);rotate_left;(simp only [aP,lT,lZ,lS,i64_w,i32_w];rfl)
                            refine take_ (i:=0) (N:=some 81) (v:=?_) (a':=?_) #[Y,Y,Z,Z,Z,Y,Z,Z,Z,Z,Z,Z,Z,Z,Z,Z,Z,Z,Z,Z,Z,Z,Z,Z,Z,Z] rfl rfl (take_ofW HT_.out HW_.out (by kernel_rfl)) (fun _ _ _ h => h) (Or.inl ⟨by rfl,?_⟩) hHeld ?_ ?_
                            rotate_left;(rintro w' ⟨s0,s1,s2,s3⟩;go_simp;with_reducible rfl);rotate_left;(simp only [aP,lT,lZ,lS,i64_w,i32_w];rfl)
                            refine take_ (i:=3) (N:=some 84) (v:=?_) (a':=?_) #[Y,Y,Z,Y,Z,Y,Z,Z,Z,Z,Z,Z,Z,Z,Z,Z,Z,Z,Z,Z,Z,Z,Z,Z,Z,Z] rfl rfl (take_ofW HT_.out HW_.out (by kernel_rfl)) (fun _ _ _ h => h) (Or.inl ⟨by rfl,?_⟩) hHeld ?_ ?_
                            rotate_left;(rintro w' ⟨s0,s1,s2,s3⟩;go_simp;with_reducible rfl);rotate_left;(simp only [aP,lT,lZ,lS,i64_w,i32_w];rfl)
                            refine one_ (i:=2) (N:=some 83) #[Y,Y,Y,Y,Z,Y,Z,Z,Z,Z,Z,Z,Z,Z,Z,Z,Z,Z,Z,Z,Z,Z,Z,Z,Z,Z] rfl rfl (one_of HT_.out (by kernel_rfl)) (by decide) (fun K hK => ?_)
                            refine goes_ Try.func27 (by kernel_rfl) rfl #[.agg #[.int .u64 t365,.int .u64 t366],.int .i64 (Go.bits .and .i64 a2 255)] (by rfl) rfl rfl (by (try simp only [mT,mC,mN]);first|done|rfl|(simp only [lD,lK];rfl)) ?_
                            with_reducible refine (wide_Shr.calls t365 t366 (Go.bits .and .i64 a2 255) t373 t374 _ A114.out).mono ?_
                            rintro e w137 ⟨rfl,hb⟩;refine ⟨_,rfl,?_⟩;have n0_:=A0.mk (bB (g:=gb342) (o:=.cells #[.int .u64 a0_0,.int .u64 a0_1] 24 (0,0)) (by (with_reducible repeat (first|refine bN ?_ _|refine bD ?_|refine bA ?_ _));exact BK342.out) hb);have n1_:=A0.mk (bB (g:=gb360) (o:=.cells #[.int .u64 t356,.int .u64 t357] 24 (0,0)) (by (with_reducible repeat (first|refine bN ?_ _|refine bD ?_|refine bA ?_ _));exact BK360.out) hb);have n2_:=A0.mk (bB (g:=gb361) (o:=.cells #[.int .u64 t358,.int .u64 t359] 24 (0,0)) (by (with_reducible repeat (first|refine bN ?_ _|refine bD ?_|refine bA ?_ _));exact BK361.out) hb);have n3_:=A0.mk (bB (g:=gb364) (o:=.cells #[.int .u64 t356,.int .u64 x365001_48] 24 (0,0)) (by (with_reducible repeat (first|refine bN ?_ _|refine bD ?_|refine bA ?_ _));exact BK364.out) hb);have n4_:=A0.mk (bB (g:=gb367) (o:=.cells #[.int .u64 t365,.int .u64 t366] 24 (0,0)) (by (with_reducible repeat (first|refine bN ?_ _|refine bD ?_|refine bA ?_ _));exact BK367.out) hb);have n5_:=A0.mk (wT (by repeat (first|(with_reducible first|exact HB.out|apply wA|apply wN|apply wD|refine wS ?_ GE342.out|refine wS ?_ GE360.out|refine wS ?_ GE361.out|refine wS ?_ GE364.out|refine wS ?_ GE367.out)|exact HB.out)) hb);clear BK342;clear BK360;clear BK361;clear BK364;clear BK367;clear HB;have BK342:=n0_;have BK360:=n1_;have BK361:=n2_;have BK364:=n3_;have BK367:=n4_;have HB:=n5_;clear n0_ n1_ n2_ n3_ n4_ n5_;(try clear hb);(try clear hb2);(try clear hk);(try clear hi)
                            refine hK.out _ _ ⟨(bC BK367.out 0).trans rfl,(bC BK367.out 1).trans rfl,(bC BK342.out 0).trans rfl,(bC BK342.out 1).trans rfl⟩ (fun hHeld => ?_)
                            clear hK K
                            refine norm_ (a':=?_) ?_ ?_
                            rotate_left;(show Act.put _ (some 83) _ = _;simp only [aP,lT,lZ,lS,i64_w,i32_w];rfl)
                            refine pure_ (i:=4) (N:=some 85) (v:=?_) (a':=?_) #[Y,Y,Y,Y,Y,Y,Z,Z,Z,Z,Z,Z,Z,Z,Z,Z,Z,Z,Z,Z,Z,Z,Z,Z,Z,Z] rfl rfl (any_of HT_.out (by kernel_rfl)) (fun _ _ _ h => h) (Or.inl ⟨by rfl,?_⟩) ?_ ?_
                            rotate_left;(intro w';go_simp;with_reducible rfl);rotate_left;(simp only [aP,lT,lZ,lS,i64_w,i32_w];rfl)
                            refine pure_ (i:=6) (N:=some 87) (v:=?_) (a':=?_) #[Y,Y,Y,Y,Y,Y,Y,Z,Z,Z,Z,Z,Z,Z,Z,Z,Z,Z,Z,Z,Z,Z,Z,Z,Z,Z] rfl rfl (any_of HT_.out (by kernel_rfl)) (fun _ _ _ h => h) (Or.inl ⟨by rfl,?_⟩) ?_ ?_
                            rotate_left;(intro w';go_simp;with_reducible rfl);rotate_left;(simp only [aP,lT,lZ,lS,i64_w,i32_w];rfl)
                            refine pure_ (i:=7) (N:=some 88) (v:=?_) (a':=?_) #[Y,Y,Y,Y,Y,Y,Y,Y,Z,Z,Z,Z,Z,Z,Z,Z,Z,Z,Z,Z,Z,Z,Z,Z,Z,Z] rfl rfl (any_of HT_.out (by kernel_rfl)) (fun _ _ _ h => h) (Or.inl ⟨by rfl,?_⟩) ?_ ?_
                            rotate_left;(intro w';go_simp;with_reducible rfl);rotate_left;(simp only [aP,lT,lZ,lS,i64_w,i32_w];rfl)
                            refine pure_ (i:=8) (N:=some 89) (v:=?_) (a':=?_) #[Y,Y,Y,Y,Y,Y,Y,Y,Y,Z,Z,Z,Z,Z,Z,Z,Z,Z,Z,Z,Z,Z,Z,Z,Z,Z] rfl rfl (any_of HT_.out (by kernel_rfl)) (fun _ _ _ h => h) (Or.inl ⟨by rfl,?_⟩) ?_ ?_
                            rotate_left;(intro w';go_simp;with_reducible rfl);rotate_left;(simp only [aP,lT,lZ,lS,i64_w,i32_w];rfl)
                            refine pure_ (i:=9) (N:=some 90) (v:=?_) (a':=?_) #[Y,Y,Y,Y,Y,Y,Y,Y,Y,Y,Z,Z,Z,Z,Z,Z,Z,Z,Z,Z,Z,Z,Z,Z,Z,Z] rfl rfl (any_of HT_.out (by kernel_rfl)) (fun _ _ _ h => h) (Or.inl ⟨by rfl,?_⟩) ?_ ?_
                            rotate_left;(intro w';go_simp;with_reducible rfl);rotate_left;(simp only [aP,lT,lZ,lS,i64_w,i32_w];rfl)
                            refine pure_ (i:=10) (N:=some 91) (v:=?_) (a':=?_) #[Y,Y,Y,Y,Y,Y,Y,Y,Y,Y,Y,Z,Z,Z,Z,Z,Z,Z,Z,Z,Z,Z,Z,Z,Z,Z] rfl rfl (any_of HT_.out (by kernel_rfl)) (fun _ _ _ h => h) (Or.inl ⟨by rfl,?_⟩) ?_ ?_
                            rotate_left;(intro w';go_simp;with_reducible rfl);rotate_left;(simp only [aP,lT,lZ,lS,i64_w,i32_w];rfl)
                            refine pure_ (i:=12) (N:=some 93) (v:=?_) (a':=?_) #[Y,Y,Y,Y,Y,Y,Y,Y,Y,Y,Y,Z,Y,Z,Z,Z,Z,Z,Z,Z,Z,Z,Z,Z,Z,Z] rfl rfl (any_of HT_.out (by kernel_rfl)) (fun _ _ _ h => h) (Or.inl ⟨by rfl,?_⟩) ?_ ?_
                            rotate_left;(intro w';go_simp;with_reducible rfl);rotate_left;(simp only [aP,lT,lZ,lS,i64_w,i32_w];rfl)
                            refine take_ (i:=11) (N:=some 92) (v:=?_) (a':=?_) #[Y,Y,Y,Y,Y,Y,Y,Y,Y,Y,Y,Y,Y,Z,Z,Z,Z,Z,Z,Z,Z,Z,Z,Z,Z,Z] rfl rfl (take_ofW HT_.out HW_.out (by kernel_rfl)) (fun _ _ _ h => h) (Or.inl ⟨by rfl,?_⟩) hHeld ?_ ?_
                            rotate_left;(rintro w' ⟨s0,s1,s2,s3⟩;go_simp;with_reducible rfl);rotate_left;(simp only [aP,lT,lZ,lS,i64_w,i32_w];rfl)
                            refine pure_ (i:=13) (N:=some 94) (v:=?_) (a':=?_) #[Y,Y,Y,Y,Y,Y,Y,Y,Y,Y,Y,Y,Y,Y,Z,Z,Z,Z,Z,Z,Z,Z,Z,Z,Z,Z] rfl rfl (any_of HT_.out (by kernel_rfl)) (fun _ _ _ h => h) (Or.inl ⟨by rfl,?_⟩) ?_ ?_
                            rotate_left;(intro w';go_simp;with_reducible rfl);rotate_left;(simp only [aP,lT,lZ,lS,i64_w,i32_w];rfl)
                            refine pure_ (i:=14) (N:=some 95) (v:=?_) (a':=?_) #[Y,Y,Y,Y,Y,Y,Y,Y,Y,Y,Y,Y,Y,Y,Y,Z,Z,Z,Z,Z,Z,Z,Z,Z,Z,Z] rfl rfl (any_of HT_.out (by kernel_rfl)) (fun _ _ _ h => h) (Or.inl ⟨by rfl,?_⟩) ?_ ?_
                            rotate_left;(intro w';go_simp;with_reducible rfl);rotate_left;(simp only [aP,lT,lZ,lS,i64_w,i32_w];rfl)
                            refine pure_ (i:=15) (N:=some 96) (v:=?_) (a':=?_) #[Y,Y,Y,Y,Y,Y,Y,Y,Y,Y,Y,Y,Y,Y,Y,Y,Z,Z,Z,Z,Z,Z,Z,Z,Z,Z] rfl rfl (any_of HT_.out (by kernel_rfl)) (fun _ _ _ h => h) (Or.inl ⟨by rfl,?_⟩) ?_ ?_
                            rotate_left;(intro w';go_simp;with_reducible rfl);rotate_left;(simp only [aP,lT,lZ,lS,i64_w,i32_w];rfl)
                            refine pure_ (i:=16) (N:=some 97) (v:=undef) (a':=?_) #[Y,Y,Y,Y,Y,Y,Y,Y,Y,Y,Y,Y,Y,Y,Y,Y,Y,Z,Z,Z,Z,Z,Z,Z,Z,Z] rfl rfl (any_of HT_.out (by kernel_rfl)) (fun _ _ _ h => h) (Or.inr ⟨by rfl,rfl⟩) ?_ ?_
                            rotate_left
                            · simp only [aP,lT,lZ,lS,i64_w,i32_w]
                              rfl
                            refine pure_ (i:=17) (N:=some 98) (v:=undef) (a':=?_) #[Y,Y,Y,Y,Y,Y,Y,Y,Y,Y,Y,Y,Y,Y,Y,Y,Y,Y,Z,Z,Z,Z,Z,Z,Z,Z] rfl rfl (any_of HT_.out (by kernel_rfl)) (fun _ _ _ h => h) (Or.inr ⟨by rfl,rfl⟩) ?_ ?_
                            rotate_left
                            · simp only [aP,lT,lZ,lS,i64_w,i32_w]
                              rfl
                            refine pure_ (i:=18) (N:=some 99) (v:=undef) (a':=?_) #[Y,Y,Y,Y,Y,Y,Y,Y,Y,Y,Y,Y,Y,Y,Y,Y,Y,Y,Y,Z,Z,Z,Z,Z,Z,Z] rfl rfl (any_of HT_.out (by kernel_rfl)) (fun _ _ _ h => h) (Or.inr ⟨by rfl,rfl⟩) ?_ ?_
                            rotate_left
                            · simp only [aP,lT,lZ,lS,i64_w,i32_w]
                              rfl
                            refine pure_ (i:=19) (N:=some 100) (v:=undef) (a':=?_) #[Y,Y,Y,Y,Y,Y,Y,Y,Y,Y,Y,Y,Y,Y,Y,Y,Y,Y,Y,Y,Z,Z,Z,Z,Z,Z] rfl rfl (any_of HT_.out (by kernel_rfl)) (fun _ _ _ h => h) (Or.inr ⟨by rfl,rfl⟩) ?_ ?_
                            rotate_left
                            · simp only [aP,lT,lZ,lS,i64_w,i32_w]
                              rfl
                            refine pure_ (i:=20) (N:=some 101) (v:=undef) (a':=?_) #[Y,Y,Y,Y,Y,Y,Y,Y,Y,Y,Y,Y,Y,Y,Y,Y,Y,Y,Y,Y,Y,Z,Z,Z,Z,Z] rfl rfl (any_of HT_.out (by kernel_rfl)) (fun _ _ _ h => h) (Or.inr ⟨by rfl,rfl⟩) ?_ ?_
                            rotate_left
                            · simp only [aP,lT,lZ,lS,i64_w,i32_w]
                              rfl
                            refine pure_ (i:=21) (N:=some 102) (v:=undef) (a':=?_) #[Y,Y,Y,Y,Y,Y,Y,Y,Y,Y,Y,Y,Y,Y,Y,Y,Y,Y,Y,Y,Y,Y,Z,Z,Z,Z] rfl rfl (any_of HT_.out (by kernel_rfl)) (fun _ _ _ h => h) (Or.inr ⟨by rfl,rfl⟩) ?_ ?_
                            rotate_left
                            · simp only [aP,lT,lZ,lS,i64_w,i32_w]
                              rfl
                            refine pure_ (i:=22) (N:=some 103) (v:=undef) (a':=?_) #[Y,Y,Y,Y,Y,Y,Y,Y,Y,Y,Y,Y,Y,Y,Y,Y,Y,Y,Y,Y,Y,Y,Y,Z,Z,Z] rfl rfl (any_of HT_.out (by kernel_rfl)) (fun _ _ _ h => h) (Or.inr ⟨by rfl,rfl⟩) ?_ ?_
                            rotate_left
                            · simp only [aP,lT,lZ,lS,i64_w,i32_w]
                              rfl
                            refine pure_ (i:=23) (N:=some 104) (v:=?_) (a':=?_) #[Y,Y,Y,Y,Y,Y,Y,Y,Y,Y,Y,Y,Y,Y,Y,Y,Y,Y,Y,Y,Y,Y,Y,Y,Z,Z] rfl rfl (any_of HT_.out (by kernel_rfl)) (fun _ _ _ h => h) (Or.inl ⟨by rfl,?_⟩) ?_ ?_
                            rotate_left;(intro w';go_simp;with_reducible rfl);rotate_left;(simp only [aP,lT,lZ,lS,i64_w,i32_w];rfl)
                            refine pure_ (i:=24) (N:=some 105) (v:=?_) (a':=?_) #[Y,Y,Y,Y,Y,Y,Y,Y,Y,Y,Y,Y,Y,Y,Y,Y,Y,Y,Y,Y,Y,Y,Y,Y,Y,Z] rfl rfl (any_of HT_.out (by kernel_rfl)) (fun _ _ _ h => h) (Or.inl ⟨by rfl,?_⟩) ?_ ?_
                            rotate_left;(intro w';go_simp;with_reducible rfl);rotate_left;(simp only [aP,lT,lZ,lS,i64_w,i32_w];rfl)
                            refine pure_ (i:=25) (N:=some 6) (v:=?_) (a':=?_) #[Y,Y,Y,Y,Y,Y,Y,Y,Y,Y,Y,Y,Y,Y,Y,Y,Y,Y,Y,Y,Y,Y,Y,Y,Y,Y] rfl rfl (any_of HT_.out (by kernel_rfl)) (fun _ _ _ h => h) (Or.inl ⟨by rfl,?_⟩) ?_ ?_
                            rotate_left;(intro w';go_simp;with_reducible rfl);rotate_left;(simp only [aP,lT,lZ,lS,i64_w,i32_w];rfl)
                            refine done_ (done_of HT_.out (by kernel_rfl)) ?_
                            try go_wp2
                            go_ret
                            exact ⟨by first|rfl|(simp [errW_none,errW_some] <;> rfl)|(simp [*,errW_none,errW_some] <;> rfl),by repeat (first|(with_reducible first|exact HB.out|apply wA|apply wN|apply wD|refine wS ?_ GE342.out|refine wS ?_ GE360.out|refine wS ?_ GE361.out|refine wS ?_ GE364.out|refine wS ?_ GE367.out)|exact HB.out)⟩
                          · rw [if_neg c117] at H
                            have c117b0 : (t365 == 0 && (t366 == 0)) = false:=by simpa using c117
                            (try (have c117b1 : decide (t365 = 0 && (t366 == 0)) = false:=by simpa using c117))
                            (try (have c117b2 : (t365 == 0 && (t366 == 0)) = false:=by simpa using c117))
                            (try (have c117b3 : ¬ (t365 = 0 && (t366 == 0)):=by simpa using c117))
                            clear c117;replace H:=Option.bind_eq_some_iff.mp H;obtain ⟨t375,A1380,H⟩:=H
                            replace H : ((wide_Len.f a0_0 a0_1).bind fun t376 => (some (t375 == (wrap64 (t376 + (Go.bits .and .i64 a2 255)))))) = some r:=H
                            have A138:=A0.mk A1380;clear A1380;replace H:=Option.bind_eq_some_iff.mp H;obtain ⟨t376,A1390,H⟩:=H
                            replace H : (some (t375 == (wrap64 (t376 + (Go.bits .and .i64 a2 255))))) = some r:=H
                            have A139:=A0.mk A1390;clear A1390;obtain rfl:=Option.some.inj H
                            have hnb140:=NB361_342.out
                            have hnc140:=NB342_361.out
                            have hnb141:=NB361_360.out
                            have hnc141:=NB360_361.out
                            have hnb142:=NB361_364.out
                            have hnc142:=NB364_361.out
                            have hcz143_0 : wc.cell? ⟨gb361,0,none⟩ = some (.int .u64 t358):=(bC BK361.out 0).trans rfl
                            have hcz143_1 : wc.cell? ⟨gb361,1,none⟩ = some (.int .u64 t359):=(bC BK361.out 1).trans rfl
                            have hfz143_0:=bF BK361.out 0
                            have hfz143_1:=bF BK361.out 1
                            have hnb144:=NB364_342.out
                            have hnc144:=NB342_364.out
                            have hnb145:=NB364_360.out
                            have hnc145:=NB360_364.out
                            have hcz146_0 : wc.cell? ⟨gb364,0,none⟩ = some (.int .u64 t356):=(bC BK364.out 0).trans rfl
                            have hcz146_1 : wc.cell? ⟨gb364,1,none⟩ = some (.int .u64 x365001_48):=(bC BK364.out 1).trans rfl
                            have hfz146_0:=bF BK364.out 0
                            have hfz146_1:=bF BK364.out 1
                            have hnb147:=NB342_360.out
                            have hnc147:=NB360_342.out
                            have hcz148_0 : wc.cell? ⟨gb342,0,none⟩ = some (.int .u64 a0_0):=(bC BK342.out 0).trans rfl
                            have hcz148_1 : wc.cell? ⟨gb342,1,none⟩ = some (.int .u64 a0_1):=(bC BK342.out 1).trans rfl
                            have hfz148_0:=bF BK342.out 0
                            have hfz148_1:=bF BK342.out 1
                            try go_wp2_with (first|((with_reducible refine gC (f:=25) rfl ?_);refine goesL_ (some 70) rfl rfl Try.func25 (by kernel_rfl) rfl #[.agg #[.int .u64 a0_0,.int .u64 a0_1],.int .i64 (Go.bits .and .i64 a2 255)] rfl (by (try simp only [mT,mC,mN]);first|done|rfl|(simp only [lD,lK];rfl)) ?_;(with_reducible refine (wide_Shl.calls a0_0 a0_1 (Go.bits .and .i64 a2 255) t365 t366 _ A64.out).mono ?_);rintro e w149 ⟨rfl,hb⟩;refine ⟨_,rfl,?_⟩;have n0_:=A0.mk (bB (g:=gb342) (o:=.cells #[.int .u64 a0_0,.int .u64 a0_1] 24 (0,0)) (by (with_reducible repeat (first|refine bN ?_ _|refine bD ?_|refine bA ?_ _));exact BK342.out) hb);have n1_:=A0.mk (bB (g:=gb360) (o:=.cells #[.int .u64 t356,.int .u64 t357] 24 (0,0)) (by (with_reducible repeat (first|refine bN ?_ _|refine bD ?_|refine bA ?_ _));exact BK360.out) hb);have n2_:=A0.mk (bB (g:=gb361) (o:=.cells #[.int .u64 t358,.int .u64 t359] 24 (0,0)) (by (with_reducible repeat (first|refine bN ?_ _|refine bD ?_|refine bA ?_ _));exact BK361.out) hb);have n3_:=A0.mk (bB (g:=gb364) (o:=.cells #[.int .u64 t356,.int .u64 x365001_48] 24 (0,0)) (by (with_reducible repeat (first|refine bN ?_ _|refine bD ?_|refine bA ?_ _));exact BK364.out) hb);have n4_:=A0.mk (wT (by repeat (first|(with_reducible first|exact HB.out|apply wA|apply wN|apply wD|refine wS ?_ GE342.out|refine wS ?_ GE360.out|refine wS ?_ GE361.out|refine wS ?_ GE364.out)|exact HB.out)) hb);clear BK342;clear BK360;clear BK361;clear BK364;clear HB;have BK342:=n0_;have BK360:=n1_;have BK361:=n2_;have BK364:=n3_;have HB:=n4_;clear n0_ n1_ n2_ n3_ n4_;(try clear hb);(try clear hb2);(try clear hk);(try clear hi))|((with_reducible refine gD (N:=11) rfl ?_);refine bE ?hg (N:=11) ?hd (cs:=#[.int .u64 0,.int .u64 0]) (t:=24) ?hr ?_;(case hd => rfl);(case hg => rfl);(case hr => first|(go_simp;done)|(go_simp;rfl));intro gb367 hg w150 hbox hb;have n0_:=A0.mk (bB (g:=gb342) (o:=.cells #[.int .u64 a0_0,.int .u64 a0_1] 24 (0,0)) (by (with_reducible repeat (first|refine bN ?_ _|refine bD ?_|refine bA ?_ _));exact BK342.out) hb);have n1_:=A0.mk (bB (g:=gb360) (o:=.cells #[.int .u64 t356,.int .u64 t357] 24 (0,0)) (by (with_reducible repeat (first|refine bN ?_ _|refine bD ?_|refine bA ?_ _));exact BK360.out) hb);have n2_:=A0.mk (bB (g:=gb361) (o:=.cells #[.int .u64 t358,.int .u64 t359] 24 (0,0)) (by (with_reducible repeat (first|refine bN ?_ _|refine bD ?_|refine bA ?_ _));exact BK361.out) hb);have n3_:=A0.mk (bB (g:=gb364) (o:=.cells #[.int .u64 t356,.int .u64 x365001_48] 24 (0,0)) (by (with_reducible repeat (first|refine bN ?_ _|refine bD ?_|refine bA ?_ _));exact BK364.out) hb);have n4_:=A0.mk (wT (by repeat (first|(with_reducible first|exact HB.out|apply wA|apply wN|apply wD|refine wS ?_ GE342.out|refine wS ?_ GE360.out|refine wS ?_ GE361.out|refine wS ?_ GE364.out)|exact HB.out)) hb);have n5_:=A0.mk (hbox);have n6_:=A0.mk ((by rw [hg];exact (wZ (by repeat (first|(with_reducible first|exact HB.out|apply wA|apply wN|apply wD|refine wS ?_ GE342.out|refine wS ?_ GE360.out|refine wS ?_ GE361.out|refine wS ?_ GE364.out)|exact HB.out))) : w.heap.size ≤ gb367));have n7_:=A0.mk ((by rw [hg];exact (wZ (by repeat (first|(with_reducible first|exact HB.out|apply wA|apply wN|apply wD|refine wS ?_ GE342.out|refine wS ?_ GE360.out|refine wS ?_ GE361.out|refine wS ?_ GE364.out)|exact HB.out))) : w.heap.size ≤ gb367));have n8_:=A0.mk ((by rw [hg];exact Nat.ne_of_lt (blk_lt (g:=gb342) (o:=.cells #[.int .u64 a0_0,.int .u64 a0_1] 24 (0,0)) (by (with_reducible repeat (first|refine bN ?_ _|refine bD ?_|refine bA ?_ _));exact BK342.out)) : gb342 ≠ gb367));have n9_:=A0.mk ((by rw [hg];exact Nat.ne_of_gt (blk_lt (g:=gb342) (o:=.cells #[.int .u64 a0_0,.int .u64 a0_1] 24 (0,0)) (by (with_reducible repeat (first|refine bN ?_ _|refine bD ?_|refine bA ?_ _));exact BK342.out)) : gb367 ≠ gb342));have n10_:=A0.mk ((by rw [hg];exact Nat.ne_of_lt (blk_lt (g:=gb360) (o:=.cells #[.int .u64 t356,.int .u64 t357] 24 (0,0)) (by (with_reducible repeat (first|refine bN ?_ _|refine bD ?_|refine bA ?_ _));exact BK360.out)) : gb360 ≠ gb367));have n11_:=A0.mk ((by rw [hg];exact Nat.ne_of_gt (blk_lt (g:=gb360) (o:=.cells #[.int .u64 t356,.int .u64 t357] 24 (0,0)) (by (with_reducible repeat (first|refine bN ?_ _|refine bD ?_|refine bA ?_ _));exact BK360.out)) : gb367 ≠ gb360));have n12_:=A0.mk ((by rw [hg];exact Nat.ne_of_lt (blk_lt (g:=gb361) (o:=.cells #[.int .u64 t358,.int .u64 t359] 24 (0,0)) (by (with_reducible repeat (first|refine bN ?_ _|refine bD ?_|refine bA ?_ _));exact BK361.out)) : gb361 ≠ gb367));have n13_:=A0.mk ((by rw [hg];exact Nat.ne_of_gt (blk_lt (g:=gb361) (o:=.cells #[.int .u64 t358,.int .u64 t359] 24 (0,0)) (by (with_reducible repeat (first|refine bN ?_ _|refine bD ?_|refine bA ?_ _));exact BK361.out)) : gb367 ≠ gb361));have n14_:=A0.mk ((by rw [hg];exact Nat.ne_of_lt (blk_lt (g:=gb364) (o:=.cells #[.int .u64 t356,.int .u64 x365001_48] 24 (0,0)) (by (with_reducible repeat (first|refine bN ?_ _|refine bD ?_|refine bA ?_ _));exact BK364.out)) : gb364 ≠ gb367));have n15_:=A0.mk ((by rw [hg];exact Nat.ne_of_gt (blk_lt (g:=gb364) (o:=.cells #[.int .u64 t356,.int .u64 x365001_48] 24 (0,0)) (by (with_reducible repeat (first|refine bN ?_ _|refine bD ?_|refine bA ?_ _));exact BK364.out)) : gb367 ≠ gb364));clear BK342;clear BK360;clear BK361;clear BK364;clear HB;have BK342:=n0_;have BK360:=n1_;have BK361:=n2_;have BK364:=n3_;have HB:=n4_;have BK367:=n5_;have GW367:=n6_;have GE367:=n7_;have NB342_367:=n8_;have NB367_342:=n9_;have NB360_367:=n10_;have NB367_360:=n11_;have NB361_367:=n12_;have NB367_361:=n13_;have NB364_367:=n14_;have NB367_364:=n15_;clear n0_ n1_ n2_ n3_ n4_ n5_ n6_ n7_ n8_ n9_ n10_ n11_ n12_ n13_ n14_ n15_;clear hb hbox hg;have hnb151:=NB367_342.out;have hnc151:=NB342_367.out;have hnb152:=NB367_360.out;have hnc152:=NB360_367.out;have hnb153:=NB367_361.out;have hnc153:=NB361_367.out;have hnb154:=NB367_364.out;have hnc154:=NB364_367.out;have hcz155_0 : w150.cell? ⟨gb367,0,none⟩ = some (.int .u64 0):=(bC BK367.out 0).trans rfl;have hcz155_1 : w150.cell? ⟨gb367,1,none⟩ = some (.int .u64 0):=(bC BK367.out 1).trans rfl;have hfz155_0:=bF BK367.out 0;have hfz155_1:=bF BK367.out 1;have hcz156_0 : w150.cell? ⟨gb342,0,none⟩ = some (.int .u64 a0_0):=(bC BK342.out 0).trans rfl;have hcz156_1 : w150.cell? ⟨gb342,1,none⟩ = some (.int .u64 a0_1):=(bC BK342.out 1).trans rfl;have hfz156_0:=bF BK342.out 0;have hfz156_1:=bF BK342.out 1)|(go_at_call 23;(with_reducible refine (wide_Len.calls a0_0 a0_1 t372 _ A113.out).mono ?_);rintro e w157 ⟨rfl,hb⟩;have n0_:=A0.mk (bB (g:=gb342) (o:=.cells #[.int .u64 a0_0,.int .u64 a0_1] 24 (0,0)) (by (with_reducible repeat (first|refine bN ?_ _|refine bD ?_|refine bA ?_ _));refine bR ?_ NB342_367.out _;(with_reducible repeat (first|refine bN ?_ _|refine bD ?_|refine bA ?_ _));refine bR ?_ NB342_367.out _;(with_reducible repeat (first|refine bN ?_ _|refine bD ?_|refine bA ?_ _));exact BK342.out) hb);have n1_:=A0.mk (bB (g:=gb360) (o:=.cells #[.int .u64 t356,.int .u64 t357] 24 (0,0)) (by (with_reducible repeat (first|refine bN ?_ _|refine bD ?_|refine bA ?_ _));refine bR ?_ NB360_367.out _;(with_reducible repeat (first|refine bN ?_ _|refine bD ?_|refine bA ?_ _));refine bR ?_ NB360_367.out _;(with_reducible repeat (first|refine bN ?_ _|refine bD ?_|refine bA ?_ _));exact BK360.out) hb);have n2_:=A0.mk (bB (g:=gb361) (o:=.cells #[.int .u64 t358,.int .u64 t359] 24 (0,0)) (by (with_reducible repeat (first|refine bN ?_ _|refine bD ?_|refine bA ?_ _));refine bR ?_ NB361_367.out _;(with_reducible repeat (first|refine bN ?_ _|refine bD ?_|refine bA ?_ _));refine bR ?_ NB361_367.out _;(with_reducible repeat (first|refine bN ?_ _|refine bD ?_|refine bA ?_ _));exact BK361.out) hb);have n3_:=A0.mk (bB (g:=gb364) (o:=.cells #[.int .u64 t356,.int .u64 x365001_48] 24 (0,0)) (by (with_reducible repeat (first|refine bN ?_ _|refine bD ?_|refine bA ?_ _));refine bR ?_ NB364_367.out _;(with_reducible repeat (first|refine bN ?_ _|refine bD ?_|refine bA ?_ _));refine bR ?_ NB364_367.out _;(with_reducible repeat (first|refine bN ?_ _|refine bD ?_|refine bA ?_ _));exact BK364.out) hb);have n4_:=A0.mk (bB (g:=gb367) (o:=.cells #[.int .u64 t365,.int .u64 t366] 24 (0,0)) (by (with_reducible repeat (first|refine bN ?_ _|refine bD ?_|refine bA ?_ _));refine bP (cs:=#[.int .u64 t365,.int .u64 0]) ?_ 1 _ rfl;(with_reducible repeat (first|refine bN ?_ _|refine bD ?_|refine bA ?_ _));refine bP (cs:=#[.int .u64 0,.int .u64 0]) ?_ 0 _ rfl;(with_reducible repeat (first|refine bN ?_ _|refine bD ?_|refine bA ?_ _));exact BK367.out) hb);have n5_:=A0.mk (wT (by repeat (first|(with_reducible first|exact HB.out|apply wA|apply wN|apply wD|refine wS ?_ GE342.out|refine wS ?_ GE360.out|refine wS ?_ GE361.out|refine wS ?_ GE364.out|refine wS ?_ GE367.out)|exact HB.out)) hb);clear BK342;clear BK360;clear BK361;clear BK364;clear BK367;clear HB;have BK342:=n0_;have BK360:=n1_;have BK361:=n2_;have BK364:=n3_;have BK367:=n4_;have HB:=n5_;clear n0_ n1_ n2_ n3_ n4_ n5_;(try clear hb);(try clear hb2);(try clear hk);(try clear hi)))
                            have n0_:=A0.mk (bD BK342.out);have n1_:=A0.mk (bD BK360.out);have n2_:=A0.mk (bD BK361.out);have n3_:=A0.mk (bD BK364.out);have n4_:=A0.mk (bD BK367.out);have n5_:=A0.mk (wD HB.out);clear BK342;clear BK360;clear BK361;clear BK364;clear BK367;clear HB;have BK342:=n0_;have BK360:=n1_;have BK361:=n2_;have BK364:=n3_;have BK367:=n4_;have HB:=n5_;clear n0_ n1_ n2_ n3_ n4_ n5_
                            refine start_ (n:=26) (S:=fun w' => w'.cell? ⟨gb367,0,none⟩ = some (.int .u64 t365)∧w'.cell? ⟨gb367,1,none⟩ = some (.int .u64 t366)∧w'.cell? ⟨gb342,0,none⟩ = some (.int .u64 a0_0)∧w'.cell? ⟨gb342,1,none⟩ = some (.int .u64 a0_1)) (ds:=[]) #[Z,Z,Z,Z,Z,Z,Z,Z,Z,Z,Z,Z,Z,Z,Z,Z,Z,Z,Z,Z,Z,Z,Z,Z,Z,Z] (by kernel_rfl) rfl rfl ⟨(bC BK367.out 0).trans rfl,(bC BK367.out 1).trans rfl,(bC BK342.out 0).trans rfl,(bC BK342.out 1).trans rfl⟩ (fun hHeld => ?_);refine with_tabW vernierlaw01_WideJams.tab17 vernierlaw01_WideJams.bits17 (fun HT_ HW_ => ?_)
                            generalize w157.drew = w158 at BK342 BK360 BK361 BK364 BK367 HB hHeld ⊢
                            refine pure_ (i:=1) (N:=some 82) (v:=?_) (a':=?_) #[Z,Y,Z,Z,Z,Z,Z,Z,Z,Z,Z,Z,Z,Z,Z,Z,Z,Z,Z,Z,Z,Z,Z,Z,Z,Z] rfl rfl (any_of HT_.out (by kernel_rfl)) (fun _ _ _ h => h) (Or.inl ⟨by rfl,?_⟩) ?_ ?_
                            rotate_left;(intro w';go_simp;with_reducible rfl);rotate_left;(simp only [aP,lT,lZ,lS,i64_w,i32_w];rfl)
                            refine pure_ (i:=5) (N:=some 86) (v:=?_) (a':=?_) #[Z,Y,Z,Z,Z,Y,Z,Z,Z,Z,Z,Z,Z,Z,Z,Z,Z,Z,Z,Z,Z,Z,Z,Z,Z,Z] rfl rfl (any_of HT_.out (by kernel_rfl)) (fun _ _ _ h => h) (Or.inl ⟨by rfl,?_⟩) ?_ ?_
                            rotate_left;(intro w';go_simp;with_reducible rfl);rotate_left;(simp only [aP,lT,lZ,lS,i64_w,i32_w];rfl)
                            refine take_ (i:=0) (N:=some 81) (v:=?_) (a':=?_) #[Y,Y,Z,Z,Z,Y,Z,Z,Z,Z,Z,Z,Z,Z,Z,Z,Z,Z,Z,Z,Z,Z,Z,Z,Z,Z] rfl rfl (take_ofW HT_.out HW_.out (by kernel_rfl)) (fun _ _ _ h => h) (Or.inl ⟨by rfl,?_⟩) hHeld ?_ ?_
                            rotate_left;(rintro w' ⟨s0,s1,s2,s3⟩;go_simp;with_reducible rfl);rotate_left;(simp only [aP,lT,lZ,lS,i64_w,i32_w];rfl)
                            refine take_ (i:=3) (N:=some 84) (v:=?_) (a':=?_) #[Y,Y,Z,Y,Z,Y,Z,Z,Z,Z,Z,Z,Z,Z,Z,Z,Z,Z,Z,Z,Z,Z,Z,Z,Z,Z] rfl rfl (take_ofW HT_.out HW_.out (by kernel_rfl)) (fun _ _ _ h => h) (Or.inl ⟨by rfl,?_⟩) hHeld ?_ ?_
                            rotate_left;(rintro w' ⟨s0,s1,s2,s3⟩;go_simp;with_reducible rfl);rotate_left;(simp only [aP,lT,lZ,lS,i64_w,i32_w];rfl)
                            refine one_ (i:=2) (N:=some 83) #[Y,Y,Y,Y,Z,Y,Z,Z,Z,Z,Z,Z,Z,Z,Z,Z,Z,Z,Z,Z,Z,Z,Z,Z,Z,Z] rfl rfl (one_of HT_.out (by kernel_rfl)) (by decide) (fun K hK => ?_)
                            refine goes_ Try.func27 (by kernel_rfl) rfl #[.agg #[.int .u64 t365,.int .u64 t366],.int .i64 (Go.bits .and .i64 a2 255)] (by rfl) rfl rfl (by (try simp only [mT,mC,mN]);first|done|rfl|(simp only [lD,lK];rfl)) ?_
                            with_reducible refine (wide_Shr.calls t365 t366 (Go.bits .and .i64 a2 255) t373 t374 _ A114.out).mono ?_
                            rintro e w159 ⟨rfl,hb⟩;refine ⟨_,rfl,?_⟩;have n0_:=A0.mk (bB (g:=gb342) (o:=.cells #[.int .u64 a0_0,.int .u64 a0_1] 24 (0,0)) (by (with_reducible repeat (first|refine bN ?_ _|refine bD ?_|refine bA ?_ _));exact BK342.out) hb);have n1_:=A0.mk (bB (g:=gb360) (o:=.cells #[.int .u64 t356,.int .u64 t357] 24 (0,0)) (by (with_reducible repeat (first|refine bN ?_ _|refine bD ?_|refine bA ?_ _));exact BK360.out) hb);have n2_:=A0.mk (bB (g:=gb361) (o:=.cells #[.int .u64 t358,.int .u64 t359] 24 (0,0)) (by (with_reducible repeat (first|refine bN ?_ _|refine bD ?_|refine bA ?_ _));exact BK361.out) hb);have n3_:=A0.mk (bB (g:=gb364) (o:=.cells #[.int .u64 t356,.int .u64 x365001_48] 24 (0,0)) (by (with_reducible repeat (first|refine bN ?_ _|refine bD ?_|refine bA ?_ _));exact BK364.out) hb);have n4_:=A0.mk (bB (g:=gb367) (o:=.cells #[.int .u64 t365,.int .u64 t366] 24 (0,0)) (by (with_reducible repeat (first|refine bN ?_ _|refine bD ?_|refine bA ?_ _));exact BK367.out) hb);have n5_:=A0.mk (wT (by repeat (first|(with_reducible first|exact HB.out|apply wA|apply wN|apply wD|refine wS ?_ GE342.out|refine wS ?_ GE360.out|refine wS ?_ GE361.out|refine wS ?_ GE364.out|refine wS ?_ GE367.out)|exact HB.out)) hb);clear BK342;clear BK360;clear BK361;clear BK364;clear BK367;clear HB;have BK342:=n0_;have BK360:=n1_;have BK361:=n2_;have BK364:=n3_;have BK367:=n4_;have HB:=n5_;clear n0_ n1_ n2_ n3_ n4_ n5_;(try clear hb);(try clear hb2);(try clear hk);(try clear hi)
                            refine hK.out _ _ ⟨(bC BK367.out 0).trans rfl,(bC BK367.out 1).trans rfl,(bC BK342.out 0).trans rfl,(bC BK342.out 1).trans rfl⟩ (fun hHeld => ?_)
                            clear hK K
                            refine norm_ (a':=?_) ?_ ?_
                            rotate_left;(show Act.put _ (some 83) _ = _;simp only [aP,lT,lZ,lS,i64_w,i32_w];rfl)
                            refine pure_ (i:=4) (N:=some 85) (v:=?_) (a':=?_) #[Y,Y,Y,Y,Y,Y,Z,Z,Z,Z,Z,Z,Z,Z,Z,Z,Z,Z,Z,Z,Z,Z,Z,Z,Z,Z] rfl rfl (any_of HT_.out (by kernel_rfl)) (fun _ _ _ h => h) (Or.inl ⟨by rfl,?_⟩) ?_ ?_
                            rotate_left;(intro w';go_simp;with_reducible rfl);rotate_left;(simp only [aP,lT,lZ,lS,i64_w,i32_w];rfl)
                            refine pure_ (i:=6) (N:=some 87) (v:=?_) (a':=?_) #[Y,Y,Y,Y,Y,Y,Y,Z,Z,Z,Z,Z,Z,Z,Z,Z,Z,Z,Z,Z,Z,Z,Z,Z,Z,Z] rfl rfl (any_of HT_.out (by kernel_rfl)) (fun _ _ _ h => h) (Or.inl ⟨by rfl,?_⟩) ?_ ?_
                            rotate_left;(intro w';go_simp;with_reducible rfl);rotate_left;(simp only [aP,lT,lZ,lS,i64_w,i32_w];rfl)
                            refine pure_ (i:=7) (N:=some 88) (v:=?_) (a':=?_) #[Y,Y,Y,Y,Y,Y,Y,Y,Z,Z,Z,Z,Z,Z,Z,Z,Z,Z,Z,Z,Z,Z,Z,Z,Z,Z] rfl rfl (any_of HT_.out (by kernel_rfl)) (fun _ _ _ h => h) (Or.inl ⟨by rfl,?_⟩) ?_ ?_
                            rotate_left;(intro w';go_simp;with_reducible rfl);rotate_left;(simp only [aP,lT,lZ,lS,i64_w,i32_w];rfl)
                            refine pure_ (i:=8) (N:=some 89) (v:=?_) (a':=?_) #[Y,Y,Y,Y,Y,Y,Y,Y,Y,Z,Z,Z,Z,Z,Z,Z,Z,Z,Z,Z,Z,Z,Z,Z,Z,Z] rfl rfl (any_of HT_.out (by kernel_rfl)) (fun _ _ _ h => h) (Or.inl ⟨by rfl,?_⟩) ?_ ?_
                            rotate_left;(intro w';go_simp;with_reducible rfl);rotate_left;(simp only [aP,lT,lZ,lS,i64_w,i32_w];rfl)
                            refine pure_ (i:=9) (N:=some 90) (v:=?_) (a':=?_) #[Y,Y,Y,Y,Y,Y,Y,Y,Y,Y,Z,Z,Z,Z,Z,Z,Z,Z,Z,Z,Z,Z,Z,Z,Z,Z] rfl rfl (any_of HT_.out (by kernel_rfl)) (fun _ _ _ h => h) (Or.inl ⟨by rfl,?_⟩) ?_ ?_
                            rotate_left;(intro w';go_simp;with_reducible rfl);rotate_left;(simp only [aP,lT,lZ,lS,i64_w,i32_w];rfl)
                            refine pure_ (i:=10) (N:=some 91) (v:=?_) (a':=?_) #[Y,Y,Y,Y,Y,Y,Y,Y,Y,Y,Y,Z,Z,Z,Z,Z,Z,Z,Z,Z,Z,Z,Z,Z,Z,Z] rfl rfl (any_of HT_.out (by kernel_rfl)) (fun _ _ _ h => h) (Or.inl ⟨by rfl,?_⟩) ?_ ?_
                            rotate_left;(intro w';go_simp;with_reducible rfl);rotate_left;(simp only [aP,lT,lZ,lS,i64_w,i32_w];rfl)
                            refine pure_ (i:=12) (N:=some 93) (v:=?_) (a':=?_) #[Y,Y,Y,Y,Y,Y,Y,Y,Y,Y,Y,Z,Y,Z,Z,Z,Z,Z,Z,Z,Z,Z,Z,Z,Z,Z] rfl rfl (any_of HT_.out (by kernel_rfl)) (fun _ _ _ h => h) (Or.inl ⟨by rfl,?_⟩) ?_ ?_
                            rotate_left;(intro w';go_simp;with_reducible rfl);rotate_left;(simp only [aP,lT,lZ,lS,i64_w,i32_w];rfl)
                            refine take_ (i:=11) (N:=some 92) (v:=?_) (a':=?_) #[Y,Y,Y,Y,Y,Y,Y,Y,Y,Y,Y,Y,Y,Z,Z,Z,Z,Z,Z,Z,Z,Z,Z,Z,Z,Z] rfl rfl (take_ofW HT_.out HW_.out (by kernel_rfl)) (fun _ _ _ h => h) (Or.inl ⟨by rfl,?_⟩) hHeld ?_ ?_
                            rotate_left;(rintro w' ⟨s0,s1,s2,s3⟩;go_simp;with_reducible rfl);rotate_left;(simp only [aP,lT,lZ,lS,i64_w,i32_w];rfl)
                            refine pure_ (i:=13) (N:=some 94) (v:=?_) (a':=?_) #[Y,Y,Y,Y,Y,Y,Y,Y,Y,Y,Y,Y,Y,Y,Z,Z,Z,Z,Z,Z,Z,Z,Z,Z,Z,Z] rfl rfl (any_of HT_.out (by kernel_rfl)) (fun _ _ _ h => h) (Or.inl ⟨by rfl,?_⟩) ?_ ?_
                            rotate_left;(intro w';go_simp;with_reducible rfl);rotate_left;(simp only [aP,lT,lZ,lS,i64_w,i32_w];rfl)
                            refine pure_ (i:=14) (N:=some 95) (v:=?_) (a':=?_) #[Y,Y,Y,Y,Y,Y,Y,Y,Y,Y,Y,Y,Y,Y,Y,Z,Z,Z,Z,Z,Z,Z,Z,Z,Z,Z] rfl rfl (any_of HT_.out (by kernel_rfl)) (fun _ _ _ h => h) (Or.inl ⟨by rfl,?_⟩) ?_ ?_
                            rotate_left;(intro w';go_simp;with_reducible rfl);rotate_left;(simp only [aP,lT,lZ,lS,i64_w,i32_w];rfl)
                            refine pure_ (i:=15) (N:=some 96) (v:=?_) (a':=?_) #[Y,Y,Y,Y,Y,Y,Y,Y,Y,Y,Y,Y,Y,Y,Y,Y,Z,Z,Z,Z,Z,Z,Z,Z,Z,Z] rfl rfl (any_of HT_.out (by kernel_rfl)) (fun _ _ _ h => h) (Or.inl ⟨by rfl,?_⟩) ?_ ?_
                            rotate_left;(intro w';go_simp;with_reducible rfl);rotate_left;(simp only [aP,lT,lZ,lS,i64_w,i32_w];rfl)
                            refine pure_ (i:=20) (N:=some 101) (v:=?_) (a':=?_) #[Y,Y,Y,Y,Y,Y,Y,Y,Y,Y,Y,Y,Y,Y,Y,Y,Z,Z,Z,Z,Y,Z,Z,Z,Z,Z] rfl rfl (any_of HT_.out (by kernel_rfl)) (fun _ _ _ h => h) (Or.inl ⟨by rfl,?_⟩) ?_ ?_
                            rotate_left;(intro w';go_simp;with_reducible rfl);rotate_left;(simp only [aP,lT,lZ,lS,i64_w,i32_w];rfl)
                            refine take_ (i:=16) (N:=some 97) (v:=?_) (a':=?_) #[Y,Y,Y,Y,Y,Y,Y,Y,Y,Y,Y,Y,Y,Y,Y,Y,Y,Z,Z,Z,Y,Z,Z,Z,Z,Z] rfl rfl (take_ofW HT_.out HW_.out (by kernel_rfl)) (fun _ _ _ h => h) (Or.inl ⟨by rfl,?_⟩) hHeld ?_ ?_
                            rotate_left;(rintro w' ⟨s0,s1,s2,s3⟩;go_simp;with_reducible rfl);rotate_left;(simp only [aP,lT,lZ,lS,i64_w,i32_w];rfl)
                            refine take_ (i:=18) (N:=some 99) (v:=?_) (a':=?_) #[Y,Y,Y,Y,Y,Y,Y,Y,Y,Y,Y,Y,Y,Y,Y,Y,Y,Z,Y,Z,Y,Z,Z,Z,Z,Z] rfl rfl (take_ofW HT_.out HW_.out (by kernel_rfl)) (fun _ _ _ h => h) (Or.inl ⟨by rfl,?_⟩) hHeld ?_ ?_
                            rotate_left;(rintro w' ⟨s0,s1,s2,s3⟩;go_simp;with_reducible rfl);rotate_left;(simp only [aP,lT,lZ,lS,i64_w,i32_w];rfl)
                            refine one_ (i:=17) (N:=some 98) #[Y,Y,Y,Y,Y,Y,Y,Y,Y,Y,Y,Y,Y,Y,Y,Y,Y,Y,Y,Z,Y,Z,Z,Z,Z,Z] rfl rfl (one_of HT_.out (by kernel_rfl)) (by decide) (fun K hK => ?_)
                            refine goes_ Try.func23 (by kernel_rfl) rfl #[.agg #[.int .u64 t365,.int .u64 t366]] (by rfl) rfl rfl (by (try simp only [mT,mC,mN]);first|done|rfl|(simp only [lD,lK];rfl)) ?_
                            with_reducible refine (wide_Len.calls t365 t366 t375 _ A138.out).mono ?_
                            rintro e w160 ⟨rfl,hb⟩;refine ⟨_,rfl,?_⟩;have n0_:=A0.mk (bB (g:=gb342) (o:=.cells #[.int .u64 a0_0,.int .u64 a0_1] 24 (0,0)) (by (with_reducible repeat (first|refine bN ?_ _|refine bD ?_|refine bA ?_ _));exact BK342.out) hb);have n1_:=A0.mk (bB (g:=gb360) (o:=.cells #[.int .u64 t356,.int .u64 t357] 24 (0,0)) (by (with_reducible repeat (first|refine bN ?_ _|refine bD ?_|refine bA ?_ _));exact BK360.out) hb);have n2_:=A0.mk (bB (g:=gb361) (o:=.cells #[.int .u64 t358,.int .u64 t359] 24 (0,0)) (by (with_reducible repeat (first|refine bN ?_ _|refine bD ?_|refine bA ?_ _));exact BK361.out) hb);have n3_:=A0.mk (bB (g:=gb364) (o:=.cells #[.int .u64 t356,.int .u64 x365001_48] 24 (0,0)) (by (with_reducible repeat (first|refine bN ?_ _|refine bD ?_|refine bA ?_ _));exact BK364.out) hb);have n4_:=A0.mk (bB (g:=gb367) (o:=.cells #[.int .u64 t365,.int .u64 t366] 24 (0,0)) (by (with_reducible repeat (first|refine bN ?_ _|refine bD ?_|refine bA ?_ _));exact BK367.out) hb);have n5_:=A0.mk (wT (by repeat (first|(with_reducible first|exact HB.out|apply wA|apply wN|apply wD|refine wS ?_ GE342.out|refine wS ?_ GE360.out|refine wS ?_ GE361.out|refine wS ?_ GE364.out|refine wS ?_ GE367.out)|exact HB.out)) hb);clear BK342;clear BK360;clear BK361;clear BK364;clear BK367;clear HB;have BK342:=n0_;have BK360:=n1_;have BK361:=n2_;have BK364:=n3_;have BK367:=n4_;have HB:=n5_;clear n0_ n1_ n2_ n3_ n4_ n5_;(try clear hb);(try clear hb2);(try clear hk);(try clear hi)
                            refine hK.out _ _ ⟨(bC BK367.out 0).trans rfl,(bC BK367.out 1).trans rfl,(bC BK342.out 0).trans rfl,(bC BK342.out 1).trans rfl⟩ (fun hHeld => ?_)
                            clear hK K
                            refine norm_ (a':=?_) ?_ ?_
                            rotate_left;(show Act.put _ (some 98) _ = _;simp only [aP,lT,lZ,lS,i64_w,i32_w];rfl)
                            refine one_ (i:=19) (N:=some 100) #[Y,Y,Y,Y,Y,Y,Y,Y,Y,Y,Y,Y,Y,Y,Y,Y,Y,Y,Y,Y,Y,Z,Z,Z,Z,Z] rfl rfl (one_of HT_.out (by kernel_rfl)) (by decide) (fun K hK => ?_)
                            refine goes_ Try.func23 (by kernel_rfl) rfl #[.agg #[.int .u64 a0_0,.int .u64 a0_1]] (by rfl) rfl rfl (by (try simp only [mT,mC,mN]);first|done|rfl|(simp only [lD,lK];rfl)) ?_
                            with_reducible refine (wide_Len.calls a0_0 a0_1 t376 _ A139.out).mono ?_
                            rintro e w161 ⟨rfl,hb⟩;refine ⟨_,rfl,?_⟩;have n0_:=A0.mk (bB (g:=gb342) (o:=.cells #[.int .u64 a0_0,.int .u64 a0_1] 24 (0,0)) (by (with_reducible repeat (first|refine bN ?_ _|refine bD ?_|refine bA ?_ _));exact BK342.out) hb);have n1_:=A0.mk (bB (g:=gb360) (o:=.cells #[.int .u64 t356,.int .u64 t357] 24 (0,0)) (by (with_reducible repeat (first|refine bN ?_ _|refine bD ?_|refine bA ?_ _));exact BK360.out) hb);have n2_:=A0.mk (bB (g:=gb361) (o:=.cells #[.int .u64 t358,.int .u64 t359] 24 (0,0)) (by (with_reducible repeat (first|refine bN ?_ _|refine bD ?_|refine bA ?_ _));exact BK361.out) hb);have n3_:=A0.mk (bB (g:=gb364) (o:=.cells #[.int .u64 t356,.int .u64 x365001_48] 24 (0,0)) (by (with_reducible repeat (first|refine bN ?_ _|refine bD ?_|refine bA ?_ _));exact BK364.out) hb);have n4_:=A0.mk (bB (g:=gb367) (o:=.cells #[.int .u64 t365,.int .u64 t366] 24 (0,0)) (by (with_reducible repeat (first|refine bN ?_ _|refine bD ?_|refine bA ?_ _));exact BK367.out) hb);have n5_:=A0.mk (wT (by repeat (first|(with_reducible first|exact HB.out|apply wA|apply wN|apply wD|refine wS ?_ GE342.out|refine wS ?_ GE360.out|refine wS ?_ GE361.out|refine wS ?_ GE364.out|refine wS ?_ GE367.out)|exact HB.out)) hb);clear BK342;clear BK360;clear BK361;clear BK364;clear BK367;clear HB;have BK342:=n0_;have BK360:=n1_;have BK361:=n2_;have BK364:=n3_;have BK367:=n4_;have HB:=n5_;clear n0_ n1_ n2_ n3_ n4_ n5_;(try clear hb);(try clear hb2);(try clear hk);(try clear hi)
                            refine hK.out _ _ ⟨(bC BK367.out 0).trans rfl,(bC BK367.out 1).trans rfl,(bC BK342.out 0).trans rfl,(bC BK342.out 1).trans rfl⟩ (fun hHeld => ?_)
                            clear hK K
                            refine norm_ (a':=?_) ?_ ?_
                            rotate_left;(show Act.put _ (some 100) _ = _;simp only [aP,lT,lZ,lS,i64_w,i32_w];rfl)
                            refine pure_ (i:=21) (N:=some 102) (v:=?_) (a':=?_) #[Y,Y,Y,Y,Y,Y,Y,Y,Y,Y,Y,Y,Y,Y,Y,Y,Y,Y,Y,Y,Y,Y,Z,Z,Z,Z] rfl rfl (any_of HT_.out (by kernel_rfl)) (fun _ _ _ h => h) (Or.inl ⟨by rfl,?_⟩) ?_ ?_
                            rotate_left;(intro w';go_simp;with_reducible rfl);rotate_left;(simp only [aP,lT,lZ,lS,i64_w,i32_w];rfl)
                            refine pure_ (i:=22) (N:=some 103) (v:=?_) (a':=?_) #[Y,Y,Y,Y,Y,Y,Y,Y,Y,Y,Y,Y,Y,Y,Y,Y,Y,Y,Y,Y,Y,Y,Y,Z,Z,Z] rfl rfl (any_of HT_.out (by kernel_rfl)) (fun _ _ _ h => h) (Or.inl ⟨by rfl,?_⟩) ?_ ?_
                            rotate_left;(intro w';go_simp;with_reducible rfl);rotate_left;(simp only [aP,lT,lZ,lS,i64_w,i32_w];rfl)
                            refine pure_ (i:=23) (N:=some 104) (v:=?_) (a':=?_) #[Y,Y,Y,Y,Y,Y,Y,Y,Y,Y,Y,Y,Y,Y,Y,Y,Y,Y,Y,Y,Y,Y,Y,Y,Z,Z] rfl rfl (any_of HT_.out (by kernel_rfl)) (fun _ _ _ h => h) (Or.inl ⟨by rfl,?_⟩) ?_ ?_
                            rotate_left;(intro w';go_simp;with_reducible rfl);rotate_left;(simp only [aP,lT,lZ,lS,i64_w,i32_w];rfl)
                            refine pure_ (i:=24) (N:=some 105) (v:=?_) (a':=?_) #[Y,Y,Y,Y,Y,Y,Y,Y,Y,Y,Y,Y,Y,Y,Y,Y,Y,Y,Y,Y,Y,Y,Y,Y,Y,Z] rfl rfl (any_of HT_.out (by kernel_rfl)) (fun _ _ _ h => h) (Or.inl ⟨by rfl,?_⟩) ?_ ?_
                            rotate_left;(intro w';go_simp;with_reducible rfl);rotate_left;(simp only [aP,lT,lZ,lS,i64_w,i32_w];rfl)
                            refine pure_ (i:=25) (N:=some 6) (v:=?_) (a':=?_) #[Y,Y,Y,Y,Y,Y,Y,Y,Y,Y,Y,Y,Y,Y,Y,Y,Y,Y,Y,Y,Y,Y,Y,Y,Y,Y] rfl rfl (any_of HT_.out (by kernel_rfl)) (fun _ _ _ h => h) (Or.inl ⟨by rfl,?_⟩) ?_ ?_
                            rotate_left;(intro w';go_simp;with_reducible rfl);rotate_left;(simp only [aP,lT,lZ,lS,i64_w,i32_w];rfl)
                            refine done_ (done_of HT_.out (by kernel_rfl)) ?_
                            try go_wp2
                            go_ret
                            exact ⟨by first|rfl|(simp [errW_none,errW_some] <;> rfl)|(simp [*,errW_none,errW_some] <;> rfl),by repeat (first|(with_reducible first|exact HB.out|apply wA|apply wN|apply wD|refine wS ?_ GE342.out|refine wS ?_ GE360.out|refine wS ?_ GE361.out|refine wS ?_ GE364.out|refine wS ?_ GE367.out)|exact HB.out)⟩
                        · rw [if_neg c116] at H
                          have c116b0 : decide ((wrap64 (t372 + (Go.bits .and .i64 a2 255))) ≤ 128) = false:=decide_eq_false c116
                          have c116z0 : (t373 == a0_0 && (t374 == a0_1)) = false:=by have h_:=c115b0;rw [c116b0] at h_;revert h_;cases (t373 == a0_0 && (t374 == a0_1)) <;> decide
                          have c116z1 : (decide (t373 = a0_0) && t374 == a0_1) = false:=by simpa using c116z0
                          clear c116;obtain rfl:=Option.some.inj H
                          have hnb162:=NB361_342.out
                          have hnc162:=NB342_361.out
                          have hnb163:=NB361_360.out
                          have hnc163:=NB360_361.out
                          have hnb164:=NB361_364.out
                          have hnc164:=NB364_361.out
                          have hcz165_0 : wc.cell? ⟨gb361,0,none⟩ = some (.int .u64 t358):=(bC BK361.out 0).trans rfl
                          have hcz165_1 : wc.cell? ⟨gb361,1,none⟩ = some (.int .u64 t359):=(bC BK361.out 1).trans rfl
                          have hfz165_0:=bF BK361.out 0
                          have hfz165_1:=bF BK361.out 1
                          have hnb166:=NB364_342.out
                          have hnc166:=NB342_364.out
                          have hnb167:=NB364_360.out
                          have hnc167:=NB360_364.out
                          have hcz168_0 : wc.cell? ⟨gb364,0,none⟩ = some (.int .u64 t356):=(bC BK364.out 0).trans rfl
                          have hcz168_1 : wc.cell? ⟨gb364,1,none⟩ = some (.int .u64 x365001_48):=(bC BK364.out 1).trans rfl
                          have hfz168_0:=bF BK364.out 0
                          have hfz168_1:=bF BK364.out 1
                          have hnb169:=NB342_360.out
                          have hnc169:=NB360_342.out
                          have hcz170_0 : wc.cell? ⟨gb342,0,none⟩ = some (.int .u64 a0_0):=(bC BK342.out 0).trans rfl
                          have hcz170_1 : wc.cell? ⟨gb342,1,none⟩ = some (.int .u64 a0_1):=(bC BK342.out 1).trans rfl
                          have hfz170_0:=bF BK342.out 0
                          have hfz170_1:=bF BK342.out 1
                          try go_wp2_with (first|((with_reducible refine gC (f:=25) rfl ?_);refine goesL_ (some 70) rfl rfl Try.func25 (by kernel_rfl) rfl #[.agg #[.int .u64 a0_0,.int .u64 a0_1],.int .i64 (Go.bits .and .i64 a2 255)] rfl (by (try simp only [mT,mC,mN]);first|done|rfl|(simp only [lD,lK];rfl)) ?_;(with_reducible refine (wide_Shl.calls a0_0 a0_1 (Go.bits .and .i64 a2 255) t365 t366 _ A64.out).mono ?_);rintro e w171 ⟨rfl,hb⟩;refine ⟨_,rfl,?_⟩;have n0_:=A0.mk (bB (g:=gb342) (o:=.cells #[.int .u64 a0_0,.int .u64 a0_1] 24 (0,0)) (by (with_reducible repeat (first|refine bN ?_ _|refine bD ?_|refine bA ?_ _));exact BK342.out) hb);have n1_:=A0.mk (bB (g:=gb360) (o:=.cells #[.int .u64 t356,.int .u64 t357] 24 (0,0)) (by (with_reducible repeat (first|refine bN ?_ _|refine bD ?_|refine bA ?_ _));exact BK360.out) hb);have n2_:=A0.mk (bB (g:=gb361) (o:=.cells #[.int .u64 t358,.int .u64 t359] 24 (0,0)) (by (with_reducible repeat (first|refine bN ?_ _|refine bD ?_|refine bA ?_ _));exact BK361.out) hb);have n3_:=A0.mk (bB (g:=gb364) (o:=.cells #[.int .u64 t356,.int .u64 x365001_48] 24 (0,0)) (by (with_reducible repeat (first|refine bN ?_ _|refine bD ?_|refine bA ?_ _));exact BK364.out) hb);have n4_:=A0.mk (wT (by repeat (first|(with_reducible first|exact HB.out|apply wA|apply wN|apply wD|refine wS ?_ GE342.out|refine wS ?_ GE360.out|refine wS ?_ GE361.out|refine wS ?_ GE364.out)|exact HB.out)) hb);clear BK342;clear BK360;clear BK361;clear BK364;clear HB;have BK342:=n0_;have BK360:=n1_;have BK361:=n2_;have BK364:=n3_;have HB:=n4_;clear n0_ n1_ n2_ n3_ n4_;(try clear hb);(try clear hb2);(try clear hk);(try clear hi))|((with_reducible refine gD (N:=11) rfl ?_);refine bE ?hg (N:=11) ?hd (cs:=#[.int .u64 0,.int .u64 0]) (t:=24) ?hr ?_;(case hd => rfl);(case hg => rfl);(case hr => first|(go_simp;done)|(go_simp;rfl));intro gb367 hg w172 hbox hb;have n0_:=A0.mk (bB (g:=gb342) (o:=.cells #[.int .u64 a0_0,.int .u64 a0_1] 24 (0,0)) (by (with_reducible repeat (first|refine bN ?_ _|refine bD ?_|refine bA ?_ _));exact BK342.out) hb);have n1_:=A0.mk (bB (g:=gb360) (o:=.cells #[.int .u64 t356,.int .u64 t357] 24 (0,0)) (by (with_reducible repeat (first|refine bN ?_ _|refine bD ?_|refine bA ?_ _));exact BK360.out) hb);have n2_:=A0.mk (bB (g:=gb361) (o:=.cells #[.int .u64 t358,.int .u64 t359] 24 (0,0)) (by (with_reducible repeat (first|refine bN ?_ _|refine bD ?_|refine bA ?_ _));exact BK361.out) hb);have n3_:=A0.mk (bB (g:=gb364) (o:=.cells #[.int .u64 t356,.int .u64 x365001_48] 24 (0,0)) (by (with_reducible repeat (first|refine bN ?_ _|refine bD ?_|refine bA ?_ _));exact BK364.out) hb);have n4_:=A0.mk (wT (by repeat (first|(with_reducible first|exact HB.out|apply wA|apply wN|apply wD|refine wS ?_ GE342.out|refine wS ?_ GE360.out|refine wS ?_ GE361.out|refine wS ?_ GE364.out)|exact HB.out)) hb);have n5_:=A0.mk (hbox);have n6_:=A0.mk ((by rw [hg];exact (wZ (by repeat (first|(with_reducible first|exact HB.out|apply wA|apply wN|apply wD|refine wS ?_ GE342.out|refine wS ?_ GE360.out|refine wS ?_ GE361.out|refine wS ?_ GE364.out)|exact HB.out))) : w.heap.size ≤ gb367));have n7_:=A0.mk ((by rw [hg];exact (wZ (by repeat (first|(with_reducible first|exact HB.out|apply wA|apply wN|apply wD|refine wS ?_ GE342.out|refine wS ?_ GE360.out|refine wS ?_ GE361.out|refine wS ?_ GE364.out)|exact HB.out))) : w.heap.size ≤ gb367));have n8_:=A0.mk ((by rw [hg];exact Nat.ne_of_lt (blk_lt (g:=gb342) (o:=.cells #[.int .u64 a0_0,.int .u64 a0_1] 24 (0,0)) (by (with_reducible repeat (first|refine bN ?_ _|refine bD ?_|refine bA ?_ _));exact BK342.out)) : gb342 ≠ gb367));have n9_:=A0.mk ((by rw [hg];exact Nat.ne_of_gt (blk_lt (g:=gb342) (o:=.cells #[.int .u64 a0_0,.int .u64 a0_1] 24 (0,0)) (by (with_reducible repeat (first|refine bN ?_ _|refine bD ?_|refine bA ?_ _));exact BK342.out)) : gb367 ≠ gb342));have n10_:=A0.mk ((by rw [hg];exact Nat.ne_of_lt (blk_lt (g:=gb360) (o:=.cells #[.int .u64 t356,.int .u64 t357] 24 (0,0)) (by (with_reducible repeat (first|refine bN ?_ _|refine bD ?_|refine bA ?_ _));exact BK360.out)) : gb360 ≠ gb367));have n11_:=A0.mk ((by rw [hg];exact Nat.ne_of_gt (blk_lt (g:=gb360) (o:=.cells #[.int .u64 t356,.int .u64 t357] 24 (0,0)) (by (with_reducible repeat (first|refine bN ?_ _|refine bD ?_|refine bA ?_ _));exact BK360.out)) : gb367 ≠ gb360));have n12_:=A0.mk ((by rw [hg];exact Nat.ne_of_lt (blk_lt (g:=gb361) (o:=.cells #[.int .u64 t358,.int .u64 t359] 24 (0,0)) (by (with_reducible repeat (first|refine bN ?_ _|refine bD ?_|refine bA ?_ _));exact BK361.out)) : gb361 ≠ gb367));have n13_:=A0.mk ((by rw [hg];exact Nat.ne_of_gt (blk_lt (g:=gb361) (o:=.cells #[.int .u64 t358,.int .u64 t359] 24 (0,0)) (by (with_reducible repeat (first|refine bN ?_ _|refine bD ?_|refine bA ?_ _));exact BK361.out)) : gb367 ≠ gb361));have n14_:=A0.mk ((by rw [hg];exact Nat.ne_of_lt (blk_lt (g:=gb364) (o:=.cells #[.int .u64 t356,.int .u64 x365001_48] 24 (0,0)) (by (with_reducible repeat (first|refine bN ?_ _|refine bD ?_|refine bA ?_ _));exact BK364.out)) : gb364 ≠ gb367));have n15_:=A0.mk ((by rw [hg];exact Nat.ne_of_gt (blk_lt (g:=gb364) (o:=.cells #[.int .u64 t356,.int .u64 x365001_48] 24 (0,0)) (by (with_reducible repeat (first|refine bN ?_ _|refine bD ?_|refine bA ?_ _));exact BK364.out)) : gb367 ≠ gb364));clear BK342;clear BK360;clear BK361;clear BK364;clear HB;have BK342:=n0_;have BK360:=n1_;have BK361:=n2_;have BK364:=n3_;have HB:=n4_;have BK367:=n5_;have GW367:=n6_;have GE367:=n7_;have NB342_367:=n8_;have NB367_342:=n9_;have NB360_367:=n10_;have NB367_360:=n11_;have NB361_367:=n12_;have NB367_361:=n13_;have NB364_367:=n14_;have NB367_364:=n15_;clear n0_ n1_ n2_ n3_ n4_ n5_ n6_ n7_ n8_ n9_ n10_ n11_ n12_ n13_ n14_ n15_;clear hb hbox hg;have hnb173:=NB367_342.out;have hnc173:=NB342_367.out;have hnb174:=NB367_360.out;have hnc174:=NB360_367.out;have hnb175:=NB367_361.out;have hnc175:=NB361_367.out;have hnb176:=NB367_364.out;have hnc176:=NB364_367.out;have hcz177_0 : w172.cell? ⟨gb367,0,none⟩ = some (.int .u64 0):=(bC BK367.out 0).trans rfl;have hcz177_1 : w172.cell? ⟨gb367,1,none⟩ = some (.int .u64 0):=(bC BK367.out 1).trans rfl;have hfz177_0:=bF BK367.out 0;have hfz177_1:=bF BK367.out 1;have hcz178_0 : w172.cell? ⟨gb342,0,none⟩ = some (.int .u64 a0_0):=(bC BK342.out 0).trans rfl;have hcz178_1 : w172.cell? ⟨gb342,1,none⟩ = some (.int .u64 a0_1):=(bC BK342.out 1).trans rfl;have hfz178_0:=bF BK342.out 0;have hfz178_1:=bF BK342.out 1)|(go_at_call 23;(with_reducible refine (wide_Len.calls a0_0 a0_1 t372 _ A113.out).mono ?_);rintro e w179 ⟨rfl,hb⟩;have n0_:=A0.mk (bB (g:=gb342) (o:=.cells #[.int .u64 a0_0,.int .u64 a0_1] 24 (0,0)) (by (with_reducible repeat (first|refine bN ?_ _|refine bD ?_|refine bA ?_ _));refine bR ?_ NB342_367.out _;(with_reducible repeat (first|refine bN ?_ _|refine bD ?_|refine bA ?_ _));refine bR ?_ NB342_367.out _;(with_reducible repeat (first|refine bN ?_ _|refine bD ?_|refine bA ?_ _));exact BK342.out) hb);have n1_:=A0.mk (bB (g:=gb360) (o:=.cells #[.int .u64 t356,.int .u64 t357] 24 (0,0)) (by (with_reducible repeat (first|refine bN ?_ _|refine bD ?_|refine bA ?_ _));refine bR ?_ NB360_367.out _;(with_reducible repeat (first|refine bN ?_ _|refine bD ?_|refine bA ?_ _));refine bR ?_ NB360_367.out _;(with_reducible repeat (first|refine bN ?_ _|refine bD ?_|refine bA ?_ _));exact BK360.out) hb);have n2_:=A0.mk (bB (g:=gb361) (o:=.cells #[.int .u64 t358,.int .u64 t359] 24 (0,0)) (by (with_reducible repeat (first|refine bN ?_ _|refine bD ?_|refine bA ?_ _));refine bR ?_ NB361_367.out _;(with_reducible repeat (first|refine bN ?_ _|refine bD ?_|refine bA ?_ _));refine bR ?_ NB361_367.out _;(with_reducible repeat (first|refine bN ?_ _|refine bD ?_|refine bA ?_ _));exact BK361.out) hb);have n3_:=A0.mk (bB (g:=gb364) (o:=.cells #[.int .u64 t356,.int .u64 x365001_48] 24 (0,0)) (by (with_reducible repeat (first|refine bN ?_ _|refine bD ?_|refine bA ?_ _));refine bR ?_ NB364_367.out _;(with_reducible repeat (first|refine bN ?_ _|refine bD ?_|refine bA ?_ _));refine bR ?_ NB364_367.out _;(with_reducible repeat (first|refine bN ?_ _|refine bD ?_|refine bA ?_ _));exact BK364.out) hb);have n4_:=A0.mk (bB (g:=gb367) (o:=.cells #[.int .u64 t365,.int .u64 t366] 24 (0,0)) (by (with_reducible repeat (first|refine bN ?_ _|refine bD ?_|refine bA ?_ _));refine bP (cs:=#[.int .u64 t365,.int .u64 0]) ?_ 1 _ rfl;(with_reducible repeat (first|refine bN ?_ _|refine bD ?_|refine bA ?_ _));refine bP (cs:=#[.int .u64 0,.int .u64 0]) ?_ 0 _ rfl;(with_reducible repeat (first|refine bN ?_ _|refine bD ?_|refine bA ?_ _));exact BK367.out) hb);have n5_:=A0.mk (wT (by repeat (first|(with_reducible first|exact HB.out|apply wA|apply wN|apply wD|refine wS ?_ GE342.out|refine wS ?_ GE360.out|refine wS ?_ GE361.out|refine wS ?_ GE364.out|refine wS ?_ GE367.out)|exact HB.out)) hb);clear BK342;clear BK360;clear BK361;clear BK364;clear BK367;clear HB;have BK342:=n0_;have BK360:=n1_;have BK361:=n2_;have BK364:=n3_;have BK367:=n4_;have HB:=n5_;clear n0_ n1_ n2_ n3_ n4_ n5_;(try clear hb);(try clear hb2);(try clear hk);(try clear hi)))
                          have n0_:=A0.mk (bD BK342.out);have n1_:=A0.mk (bD BK360.out);have n2_:=A0.mk (bD BK361.out);have n3_:=A0.mk (bD BK364.out);have n4_:=A0.mk (bD BK367.out);have n5_:=A0.mk (wD HB.out);clear BK342;clear BK360;clear BK361;clear BK364;clear BK367;clear HB;have BK342:=n0_;have BK360:=n1_;have BK361:=n2_;have BK364:=n3_;have BK367:=n4_;have HB:=n5_;clear n0_ n1_ n2_ n3_ n4_ n5_
                          refine start_ (n:=26) (S:=fun w' => w'.cell? ⟨gb367,0,none⟩ = some (.int .u64 t365)∧w'.cell? ⟨gb367,1,none⟩ = some (.int .u64 t366)∧w'.cell? ⟨gb342,0,none⟩ = some (.int .u64 a0_0)∧w'.cell? ⟨gb342,1,none⟩ = some (.int .u64 a0_1)) (ds:=[]) #[Z,Z,Z,Z,Z,Z,Z,Z,Z,Z,Z,Z,Z,Z,Z,Z,Z,Z,Z,Z,Z,Z,Z,Z,Z,Z] (by kernel_rfl) rfl rfl ⟨(bC BK367.out 0).trans rfl,(bC BK367.out 1).trans rfl,(bC BK342.out 0).trans rfl,(bC BK342.out 1).trans rfl⟩ (fun hHeld => ?_);refine with_tabW vernierlaw01_WideJams.tab17 vernierlaw01_WideJams.bits17 (fun HT_ HW_ => ?_)
                          generalize w179.drew = w180 at BK342 BK360 BK361 BK364 BK367 HB hHeld ⊢
                          refine pure_ (i:=1) (N:=some 82) (v:=?_) (a':=?_) #[Z,Y,Z,Z,Z,Z,Z,Z,Z,Z,Z,Z,Z,Z,Z,Z,Z,Z,Z,Z,Z,Z,Z,Z,Z,Z] rfl rfl (any_of HT_.out (by kernel_rfl)) (fun _ _ _ h => h) (Or.inl ⟨by rfl,?_⟩) ?_ ?_
                          rotate_left;(intro w';go_simp;with_reducible rfl);rotate_left;(simp only [aP,lT,lZ,lS,i64_w,i32_w];rfl)
                          refine pure_ (i:=5) (N:=some 86) (v:=?_) (a':=?_) #[Z,Y,Z,Z,Z,Y,Z,Z,Z,Z,Z,Z,Z,Z,Z,Z,Z,Z,Z,Z,Z,Z,Z,Z,Z,Z] rfl rfl (any_of HT_.out (by kernel_rfl)) (fun _ _ _ h => h) (Or.inl ⟨by rfl,?_⟩) ?_ ?_
                          rotate_left;(intro w';go_simp;with_reducible rfl);rotate_left;(simp only [aP,lT,lZ,lS,i64_w,i32_w];rfl)
                          refine take_ (i:=0) (N:=some 81) (v:=?_) (a':=?_) #[Y,Y,Z,Z,Z,Y,Z,Z,Z,Z,Z,Z,Z,Z,Z,Z,Z,Z,Z,Z,Z,Z,Z,Z,Z,Z] rfl rfl (take_ofW HT_.out HW_.out (by kernel_rfl)) (fun _ _ _ h => h) (Or.inl ⟨by rfl,?_⟩) hHeld ?_ ?_
                          rotate_left;(rintro w' ⟨s0,s1,s2,s3⟩;go_simp;with_reducible rfl);rotate_left;(simp only [aP,lT,lZ,lS,i64_w,i32_w];rfl)
                          refine take_ (i:=3) (N:=some 84) (v:=?_) (a':=?_) #[Y,Y,Z,Y,Z,Y,Z,Z,Z,Z,Z,Z,Z,Z,Z,Z,Z,Z,Z,Z,Z,Z,Z,Z,Z,Z] rfl rfl (take_ofW HT_.out HW_.out (by kernel_rfl)) (fun _ _ _ h => h) (Or.inl ⟨by rfl,?_⟩) hHeld ?_ ?_
                          rotate_left;(rintro w' ⟨s0,s1,s2,s3⟩;go_simp;with_reducible rfl);rotate_left;(simp only [aP,lT,lZ,lS,i64_w,i32_w];rfl)
                          refine one_ (i:=2) (N:=some 83) #[Y,Y,Y,Y,Z,Y,Z,Z,Z,Z,Z,Z,Z,Z,Z,Z,Z,Z,Z,Z,Z,Z,Z,Z,Z,Z] rfl rfl (one_of HT_.out (by kernel_rfl)) (by decide) (fun K hK => ?_)
                          refine goes_ Try.func27 (by kernel_rfl) rfl #[.agg #[.int .u64 t365,.int .u64 t366],.int .i64 (Go.bits .and .i64 a2 255)] (by rfl) rfl rfl (by (try simp only [mT,mC,mN]);first|done|rfl|(simp only [lD,lK];rfl)) ?_
                          with_reducible refine (wide_Shr.calls t365 t366 (Go.bits .and .i64 a2 255) t373 t374 _ A114.out).mono ?_
                          rintro e w181 ⟨rfl,hb⟩;refine ⟨_,rfl,?_⟩;have n0_:=A0.mk (bB (g:=gb342) (o:=.cells #[.int .u64 a0_0,.int .u64 a0_1] 24 (0,0)) (by (with_reducible repeat (first|refine bN ?_ _|refine bD ?_|refine bA ?_ _));exact BK342.out) hb);have n1_:=A0.mk (bB (g:=gb360) (o:=.cells #[.int .u64 t356,.int .u64 t357] 24 (0,0)) (by (with_reducible repeat (first|refine bN ?_ _|refine bD ?_|refine bA ?_ _));exact BK360.out) hb);have n2_:=A0.mk (bB (g:=gb361) (o:=.cells #[.int .u64 t358,.int .u64 t359] 24 (0,0)) (by (with_reducible repeat (first|refine bN ?_ _|refine bD ?_|refine bA ?_ _));exact BK361.out) hb);have n3_:=A0.mk (bB (g:=gb364) (o:=.cells #[.int .u64 t356,.int .u64 x365001_48] 24 (0,0)) (by (with_reducible repeat (first|refine bN ?_ _|refine bD ?_|refine bA ?_ _));exact BK364.out) hb);have n4_:=A0.mk (bB (g:=gb367) (o:=.cells #[.int .u64 t365,.int .u64 t366] 24 (0,0)) (by (with_reducible repeat (first|refine bN ?_ _|refine bD ?_|refine bA ?_ _));exact BK367.out) hb);have n5_:=A0.mk (wT (by repeat (first|(with_reducible first|exact HB.out|apply wA|apply wN|apply wD|refine wS ?_ GE342.out|refine wS ?_ GE360.out|refine wS ?_ GE361.out|refine wS ?_ GE364.out|refine wS ?_ GE367.out)|exact HB.out)) hb);clear BK342;clear BK360;clear BK361;clear BK364;clear BK367;clear HB;have BK342:=n0_;have BK360:=n1_;have BK361:=n2_;have BK364:=n3_;have BK367:=n4_;have HB:=n5_;clear n0_ n1_ n2_ n3_ n4_ n5_;(try clear hb);(try clear hb2);(try clear hk);(try clear hi)
                          refine hK.out _ _ ⟨(bC BK367.out 0).trans rfl,(bC BK367.out 1).trans rfl,(bC BK342.out 0).trans rfl,(bC BK342.out 1).trans rfl⟩ (fun hHeld => ?_)
                          clear hK K
                          refine norm_ (a':=?_) ?_ ?_
                          rotate_left;(show Act.put _ (some 83) _ = _;simp only [aP,lT,lZ,lS,i64_w,i32_w];rfl)
                          refine pure_ (i:=4) (N:=some 85) (v:=?_) (a':=?_) #[Y,Y,Y,Y,Y,Y,Z,Z,Z,Z,Z,Z,Z,Z,Z,Z,Z,Z,Z,Z,Z,Z,Z,Z,Z,Z] rfl rfl (any_of HT_.out (by kernel_rfl)) (fun _ _ _ h => h) (Or.inl ⟨by rfl,?_⟩) ?_ ?_
                          rotate_left;(intro w';go_simp;with_reducible rfl);rotate_left;(simp only [aP,lT,lZ,lS,i64_w,i32_w];rfl)
                          refine pure_ (i:=6) (N:=some 87) (v:=?_) (a':=?_) #[Y,Y,Y,Y,Y,Y,Y,Z,Z,Z,Z,Z,Z,Z,Z,Z,Z,Z,Z,Z,Z,Z,Z,Z,Z,Z] rfl rfl (any_of HT_.out (by kernel_rfl)) (fun _ _ _ h => h) (Or.inl ⟨by rfl,?_⟩) ?_ ?_
                          rotate_left;(intro w';go_simp;with_reducible rfl);rotate_left;(simp only [aP,lT,lZ,lS,i64_w,i32_w];rfl)
                          refine pure_ (i:=7) (N:=some 88) (v:=?_) (a':=?_) #[Y,Y,Y,Y,Y,Y,Y,Y,Z,Z,Z,Z,Z,Z,Z,Z,Z,Z,Z,Z,Z,Z,Z,Z,Z,Z] rfl rfl (any_of HT_.out (by kernel_rfl)) (fun _ _ _ h => h) (Or.inl ⟨by rfl,?_⟩) ?_ ?_
                          rotate_left;(intro w';go_simp;with_reducible rfl);rotate_left;(simp only [aP,lT,lZ,lS,i64_w,i32_w];rfl)
                          refine pure_ (i:=8) (N:=some 89) (v:=?_) (a':=?_) #[Y,Y,Y,Y,Y,Y,Y,Y,Y,Z,Z,Z,Z,Z,Z,Z,Z,Z,Z,Z,Z,Z,Z,Z,Z,Z] rfl rfl (any_of HT_.out (by kernel_rfl)) (fun _ _ _ h => h) (Or.inl ⟨by rfl,?_⟩) ?_ ?_
                          rotate_left;(intro w';go_simp;with_reducible rfl);rotate_left;(simp only [aP,lT,lZ,lS,i64_w,i32_w];rfl)
                          refine pure_ (i:=9) (N:=some 90) (v:=?_) (a':=?_) #[Y,Y,Y,Y,Y,Y,Y,Y,Y,Y,Z,Z,Z,Z,Z,Z,Z,Z,Z,Z,Z,Z,Z,Z,Z,Z] rfl rfl (any_of HT_.out (by kernel_rfl)) (fun _ _ _ h => h) (Or.inl ⟨by rfl,?_⟩) ?_ ?_
                          rotate_left;(intro w';go_simp;with_reducible rfl);rotate_left;(simp only [aP,lT,lZ,lS,i64_w,i32_w];rfl)
                          refine pure_ (i:=10) (N:=some 91) (v:=?_) (a':=?_) #[Y,Y,Y,Y,Y,Y,Y,Y,Y,Y,Y,Z,Z,Z,Z,Z,Z,Z,Z,Z,Z,Z,Z,Z,Z,Z] rfl rfl (any_of HT_.out (by kernel_rfl)) (fun _ _ _ h => h) (Or.inl ⟨by rfl,?_⟩) ?_ ?_
                          rotate_left;(intro w';go_simp;with_reducible rfl);rotate_left;(simp only [aP,lT,lZ,lS,i64_w,i32_w];rfl)
                          refine pure_ (i:=11) (N:=some 92) (v:=undef) (a':=?_) #[Y,Y,Y,Y,Y,Y,Y,Y,Y,Y,Y,Y,Z,Z,Z,Z,Z,Z,Z,Z,Z,Z,Z,Z,Z,Z] rfl rfl (any_of HT_.out (by kernel_rfl)) (fun _ _ _ h => h) (Or.inr ⟨by rfl,rfl⟩) ?_ ?_
                          rotate_left
                          · simp only [aP,lT,lZ,lS,i64_w,i32_w]
                            rfl
                          refine pure_ (i:=12) (N:=some 93) (v:=undef) (a':=?_) #[Y,Y,Y,Y,Y,Y,Y,Y,Y,Y,Y,Y,Y,Z,Z,Z,Z,Z,Z,Z,Z,Z,Z,Z,Z,Z] rfl rfl (any_of HT_.out (by kernel_rfl)) (fun _ _ _ h => h) (Or.inr ⟨by rfl,rfl⟩) ?_ ?_
                          rotate_left
                          · simp only [aP,lT,lZ,lS,i64_w,i32_w]
                            rfl
                          refine pure_ (i:=13) (N:=some 94) (v:=undef) (a':=?_) #[Y,Y,Y,Y,Y,Y,Y,Y,Y,Y,Y,Y,Y,Y,Z,Z,Z,Z,Z,Z,Z,Z,Z,Z,Z,Z] rfl rfl (any_of HT_.out (by kernel_rfl)) (fun _ _ _ h => h) (Or.inr ⟨by rfl,rfl⟩) ?_ ?_
                          rotate_left
                          · simp only [aP,lT,lZ,lS,i64_w,i32_w]
                            rfl
                          refine pure_ (i:=14) (N:=some 95) (v:=?_) (a':=?_) #[Y,Y,Y,Y,Y,Y,Y,Y,Y,Y,Y,Y,Y,Y,Y,Z,Z,Z,Z,Z,Z,Z,Z,Z,Z,Z] rfl rfl (any_of HT_.out (by kernel_rfl)) (fun _ _ _ h => h) (Or.inl ⟨by rfl,?_⟩) ?_ ?_
                          rotate_left;(intro w';go_simp;with_reducible rfl);rotate_left;(simp only [aP,lT,lZ,lS,i64_w,i32_w];rfl)
                          refine pure_ (i:=15) (N:=some 96) (v:=?_) (a':=?_) #[Y,Y,Y,Y,Y,Y,Y,Y,Y,Y,Y,Y,Y,Y,Y,Y,Z,Z,Z,Z,Z,Z,Z,Z,Z,Z] rfl rfl (any_of HT_.out (by kernel_rfl)) (fun _ _ _ h => h) (Or.inl ⟨by rfl,?_⟩) ?_ ?_
                          rotate_left;(intro w';go_simp;with_reducible rfl);rotate_left;(simp only [aP,lT,lZ,lS,i64_w,i32_w];rfl)
                          refine pure_ (i:=16) (N:=some 97) (v:=undef) (a':=?_) #[Y,Y,Y,Y,Y,Y,Y,Y,Y,Y,Y,Y,Y,Y,Y,Y,Y,Z,Z,Z,Z,Z,Z,Z,Z,Z] rfl rfl (any_of HT_.out (by kernel_rfl)) (fun _ _ _ h => h) (Or.inr ⟨by rfl,rfl⟩) ?_ ?_
                          rotate_left
                          · simp only [aP,lT,lZ,lS,i64_w,i32_w]
                            rfl
                          refine pure_ (i:=17) (N:=some 98) (v:=undef) (a':=?_) #[Y,Y,Y,Y,Y,Y,Y,Y,Y,Y,Y,Y,Y,Y,Y,Y,Y,Y,Z,Z,Z,Z,Z,Z,Z,Z] rfl rfl (any_of HT_.out (by kernel_rfl)) (fun _ _ _ h => h) (Or.inr ⟨by rfl,rfl⟩) ?_ ?_
                          rotate_left
                          · simp only [aP,lT,lZ,lS,i64_w,i32_w]
                            rfl
                          refine pure_ (i:=18) (N:=some 99) (v:=undef) (a':=?_) #[Y,Y,Y,Y,Y,Y,Y,Y,Y,Y,Y,Y,Y,Y,Y,Y,Y,Y,Y,Z,Z,Z,Z,Z,Z,Z] rfl rfl (any_of HT_.out (by kernel_rfl)) (fun _ _ _ h => h) (Or.inr ⟨by rfl,rfl⟩) ?_ ?_
                          rotate_left
                          · simp only [aP,lT,lZ,lS,i64_w,i32_w]
                            rfl
                          refine pure_ (i:=19) (N:=some 100) (v:=undef) (a':=?_) #[Y,Y,Y,Y,Y,Y,Y,Y,Y,Y,Y,Y,Y,Y,Y,Y,Y,Y,Y,Y,Z,Z,Z,Z,Z,Z] rfl rfl (any_of HT_.out (by kernel_rfl)) (fun _ _ _ h => h) (Or.inr ⟨by rfl,rfl⟩) ?_ ?_
                          rotate_left
                          · simp only [aP,lT,lZ,lS,i64_w,i32_w]
                            rfl
                          refine pure_ (i:=20) (N:=some 101) (v:=undef) (a':=?_) #[Y,Y,Y,Y,Y,Y,Y,Y,Y,Y,Y,Y,Y,Y,Y,Y,Y,Y,Y,Y,Y,Z,Z,Z,Z,Z] rfl rfl (any_of HT_.out (by kernel_rfl)) (fun _ _ _ h => h) (Or.inr ⟨by rfl,rfl⟩) ?_ ?_
                          rotate_left
                          · simp only [aP,lT,lZ,lS,i64_w,i32_w]
                            rfl
                          refine pure_ (i:=21) (N:=some 102) (v:=undef) (a':=?_) #[Y,Y,Y,Y,Y,Y,Y,Y,Y,Y,Y,Y,Y,Y,Y,Y,Y,Y,Y,Y,Y,Y,Z,Z,Z,Z] rfl rfl (any_of HT_.out (by kernel_rfl)) (fun _ _ _ h => h) (Or.inr ⟨by rfl,rfl⟩) ?_ ?_
                          rotate_left
                          · simp only [aP,lT,lZ,lS,i64_w,i32_w]
                            rfl
                          refine pure_ (i:=22) (N:=some 103) (v:=undef) (a':=?_) #[Y,Y,Y,Y,Y,Y,Y,Y,Y,Y,Y,Y,Y,Y,Y,Y,Y,Y,Y,Y,Y,Y,Y,Z,Z,Z] rfl rfl (any_of HT_.out (by kernel_rfl)) (fun _ _ _ h => h) (Or.inr ⟨by rfl,rfl⟩) ?_ ?_
                          rotate_left
                          · simp only [aP,lT,lZ,lS,i64_w,i32_w]
                            rfl
                          refine pure_ (i:=23) (N:=some 104) (v:=?_) (a':=?_) #[Y,Y,Y,Y,Y,Y,Y,Y,Y,Y,Y,Y,Y,Y,Y,Y,Y,Y,Y,Y,Y,Y,Y,Y,Z,Z] rfl rfl (any_of HT_.out (by kernel_rfl)) (fun _ _ _ h => h) (Or.inl ⟨by rfl,?_⟩) ?_ ?_
                          rotate_left;(intro w';go_simp;with_reducible rfl);rotate_left;(simp only [aP,lT,lZ,lS,i64_w,i32_w];rfl)
                          refine pure_ (i:=24) (N:=some 105) (v:=?_) (a':=?_) #[Y,Y,Y,Y,Y,Y,Y,Y,Y,Y,Y,Y,Y,Y,Y,Y,Y,Y,Y,Y,Y,Y,Y,Y,Y,Z] rfl rfl (any_of HT_.out (by kernel_rfl)) (fun _ _ _ h => h) (Or.inl ⟨by rfl,?_⟩) ?_ ?_
                          rotate_left;(intro w';go_simp;with_reducible rfl);rotate_left;(simp only [aP,lT,lZ,lS,i64_w,i32_w];rfl)
                          refine pure_ (i:=25) (N:=some 6) (v:=?_) (a':=?_) #[Y,Y,Y,Y,Y,Y,Y,Y,Y,Y,Y,Y,Y,Y,Y,Y,Y,Y,Y,Y,Y,Y,Y,Y,Y,Y] rfl rfl (any_of HT_.out (by kernel_rfl)) (fun _ _ _ h => h) (Or.inl ⟨by rfl,?_⟩) ?_ ?_
                          rotate_left;(intro w';go_simp;with_reducible rfl);rotate_left;(simp only [aP,lT,lZ,lS,i64_w,i32_w];rfl)
                          refine done_ (done_of HT_.out (by kernel_rfl)) ?_
                          try go_wp2
                          go_ret
                          exact ⟨by first|rfl|(simp [errW_none,errW_some] <;> rfl)|(simp [*,errW_none,errW_some] <;> rfl),by repeat (first|(with_reducible first|exact HB.out|apply wA|apply wN|apply wD|refine wS ?_ GE342.out|refine wS ?_ GE360.out|refine wS ?_ GE361.out|refine wS ?_ GE364.out|refine wS ?_ GE367.out)|exact HB.out)⟩
                      · rw [if_neg c115] at H
                        have c115b0 : ((t373 == a0_0 && (t374 == a0_1)) == (decide ((wrap64 (t372 + (Go.bits .and .i64 a2 255))) ≤ 128))) = false:=by simpa using c115
                        (try (have c115b1 : decide ((t373 == a0_0 && (t374 == a0_1)) = (decide ((wrap64 (t372 + (Go.bits .and .i64 a2 255))) ≤ 128))) = false:=by simpa using c115))
                        (try (have c115b2 : ((t373 == a0_0 && (t374 == a0_1)) == (decide ((wrap64 (t372 + (Go.bits .and .i64 a2 255))) ≤ 128))) = false:=by simpa using c115))
                        (try (have c115b3 : ¬ ((t373 == a0_0 && (t374 == a0_1)) = (decide ((wrap64 (t372 + (Go.bits .and .i64 a2 255))) ≤ 128))):=by simpa using c115))
                        clear c115
                        exact absurd H (by simp)
  · replace c5:=Bool.eq_false_iff.mpr c5
    subst c5
    have H1 : (none) = some r:=by rw [if_neg (show ¬ (false = true) by decide)] at H;exact H
    clear H;have H:=H1;clear H1
    exact absurd H (by simp)

/-- THE ONE PURE STATEMENT of vernierlaw01_WideJams. -/
def vernierlaw01_WideJams.Pure : Prop:=∀ (a0_0 : Int) (a0_1 : Int) (a1 : Int) (a2 : Int),(Lit.int .u64 a0_0).wf = true→(Lit.int .u64 a0_1).wf = true→(Lit.int .i64 a1).wf = true→(Lit.int .i64 a2).wf = true→∃ k,vernierlaw01_WideJams.f k a0_0 a0_1 a1 a2 = some true
theorem vernierlaw01_WideJams.walk (P : vernierlaw01_WideJams.Pure) (a0_0 : Int) (a0_1 : Int) (a1 : Int) (a2 : Int) (wa0_0 : (Lit.int .u64 a0_0).wf = true) (wa0_1 : (Lit.int .u64 a0_1).wf = true) (wa1 : (Lit.int .i64 a1).wf = true) (wa2 : (Lit.int .i64 a2).wf = true) (w : World) :
    Calls Try.prog 8 #[.agg #[.int .u64 a0_0,.int .u64 a0_1],.int .i64 a1,.int .i64 a2] w fun e w' => e = .returned (.bool true)∧Below w.heap.size w w':=by
  obtain ⟨k,h⟩:=P a0_0 a0_1 a1 a2 wa0_0 wa0_1 wa1 wa2
  refine (vernierlaw01_WideJams.calls k a0_0 a0_1 a1 a2 true w h).mono ?_
  rintro e w' ⟨rfl,hd⟩
  exact ⟨rfl,hd⟩

end Go.Proofs.Ytidjigoghdghiaa.V
