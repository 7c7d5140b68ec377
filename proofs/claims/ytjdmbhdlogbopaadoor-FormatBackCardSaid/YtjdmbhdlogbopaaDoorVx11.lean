/- Contracts of the program's functions, each: where the printed function answers, the call answers the same. Written by vprint.py, this session's own program over the kit's print.py; Lean checks it. No conditions beyond those that each states. -/
import Derived.Test.YtjdmbhdlogbopaaDoorVx0
import Derived.Test.YtjdmbhdlogbopaaDoorVx1
import Derived.Test.YtjdmbhdlogbopaaDoorVx3
import Derived.Test.YtjdmbhdlogbopaaDoorVx7
import Derived.Test.YtjdmbhdlogbopaaDoorVx9
namespace Go.Proofs.YtjdmbhdlogbopaaDoor.V
open Go.RowKit Go.Proofs.YtjdmbhdlogbopaaDoorQ.PrintWords Go.Proofs.YtjdmbhdlogbopaaDoorQ.PrintLast Go.Proofs.YtjdmbhdlogbopaaDoorQ.PrintMore
open Bool renaming true → Y, false → Z
open List renaming setIfInBounds_toArray → lT, set_cons_zero → lZ, set_cons_succ → lS, map_toArray → mT, map_cons → mC, map_nil → mN, length_drop → lD, length_take → lK
open Act renaming put → aP
attribute [local go_sem] max2_int min2_int max_two min_two max_three min_three max_four min_four   -- for this text's walks alone
set_option linter.unusedVariables false
set_option linter.unusedSimpArgs false

/-! ### format_special_all_none: function 116 -/
noncomputable def format_special_all_none.f (a0 : Int) (a1 : Bool) : Option (Int × Int):=(format_Params.f a0).bind fun bt294 => (if bt294.2.2.2.2 = 0 then ((format_ones.f (wrap64 (bt294.1 - bt294.2.1))).bind fun t300 => ((format_all.f bt294.1 bt294.2.1 bt294.2.2.1 bt294.2.2.2.1).bind fun t301 => ((format_none.f bt294.1 bt294.2.1 bt294.2.2.1 bt294.2.2.2.1).bind fun t302 => ((format_join.f bt294.1 bt294.2.1 bt294.2.2.1 bt294.2.2.2.1 a1 (IntKind.u64.wrap (t300 - t301)) t302).bind fun t303 => (some (t303,0)))))) else (some (0,bt294.2.2.2.2)))
def format_special_all_none.T4 : Bool × List (List Nat × List Nat):=(true,[([],[]),([],[]),([],[]),([2],[2]),([],[]),([4],[4]),([3,5],[3,5]),([6],[6]),([],[]),([],[]),([8,9,7],[8,9]),([7,10],[7,10]),([],[]),([],[]),([12,13,10],[12,13]),([0,1,11,14,14],[0,1,11,14]),([15,15,0,1,2,3,4,5,6,7,8,9,10,11,12,13,14,15],[15]),([16,0,1,2,3,4,5,6,7,8,9,10,11,12,13,14,15,16],[])])
def format_special_all_none.B4 : List Nat:=[0,0,0,4,0,16,60,124,0,0,1020,2044,0,0,14332,32767,65535,131071]
theorem format_special_all_none.tab4 : rtab .any (opsOf Tryd.f55 4) = format_special_all_none.T4:=by kernel_rfl
theorem format_special_all_none.bits4 : waitsOk format_special_all_none.T4.2 format_special_all_none.B4 = true:=by kernel_rfl
set_option maxHeartbeats 8000000 in
set_option maxRecDepth 100000 in
theorem format_special_all_none.calls (a0 : Int) (a1 : Bool) (r1 : Int) (r2 : Int) (w : World) (hG : A0 (GlobR w)) (h : format_special_all_none.f a0 a1 = some (r1,r2)) :
    Calls Tryd.prog 55 #[.int .i64 a0,.bool a1,.func (.func 58) #[] #[],.func (.func 56) #[] #[]] w fun e w' => e = .returned (.tuple #[.int .u64 r1,.int .i64 r2])∧Below w.heap.size w w':=by
  have hu39:=Tryd.underlying39
  have HB:=A0.mk (Below.refl w.heap.size w)
  have H : ((format_Params.f a0).bind fun bt294 => (if bt294.2.2.2.2 = 0 then ((format_ones.f (wrap64 (bt294.1 - bt294.2.1))).bind fun t300 => ((format_all.f bt294.1 bt294.2.1 bt294.2.2.1 bt294.2.2.2.1).bind fun t301 => ((format_none.f bt294.1 bt294.2.1 bt294.2.2.1 bt294.2.2.2.1).bind fun t302 => ((format_join.f bt294.1 bt294.2.1 bt294.2.2.1 bt294.2.2.2.1 a1 (IntKind.u64.wrap (t300 - t301)) t302).bind fun t303 => (some (t303,0)))))) else (some (0,bt294.2.2.2.2)))) = some (r1,r2):=h
  clear h;replace H:=Option.bind_eq_some_iff.mp H;obtain ⟨⟨t294,t295,t296,t297,t298⟩,A30,H⟩:=H
  replace H : (if t298 = 0 then ((format_ones.f (wrap64 (t294 - t295))).bind fun t300 => ((format_all.f t294 t295 t296 t297).bind fun t301 => ((format_none.f t294 t295 t296 t297).bind fun t302 => ((format_join.f t294 t295 t296 t297 a1 (IntKind.u64.wrap (t300 - t301)) t302).bind fun t303 => (some (t303,0)))))) else (some (0,t298))) = some (r1,r2):=H
  have A3:=A0.mk A30;clear A30
  by_cases c4 : t298 = 0
  · rw [if_pos c4] at H
    have c4b0 : (t298 == 0) = true:=beq_iff_eq.mpr c4
    have c4b1 : (t298 != 0) = false:=bne_eq_false_iff_eq.mpr c4
    clear c4;replace H:=Option.bind_eq_some_iff.mp H;obtain ⟨t300,A50,H⟩:=H
    replace H : ((format_all.f t294 t295 t296 t297).bind fun t301 => ((format_none.f t294 t295 t296 t297).bind fun t302 => ((format_join.f t294 t295 t296 t297 a1 (IntKind.u64.wrap (t300 - t301)) t302).bind fun t303 => (some (t303,0))))) = some (r1,r2):=H
    have A5:=A0.mk A50;clear A50;replace H:=Option.bind_eq_some_iff.mp H;obtain ⟨t301,A60,H⟩:=H
    replace H : ((format_none.f t294 t295 t296 t297).bind fun t302 => ((format_join.f t294 t295 t296 t297 a1 (IntKind.u64.wrap (t300 - t301)) t302).bind fun t303 => (some (t303,0)))) = some (r1,r2):=H
    have A6:=A0.mk A60;clear A60;replace H:=Option.bind_eq_some_iff.mp H;obtain ⟨t302,A70,H⟩:=H
    replace H : ((format_join.f t294 t295 t296 t297 a1 (IntKind.u64.wrap (t300 - t301)) t302).bind fun t303 => (some (t303,0))) = some (r1,r2):=H
    have A7:=A0.mk A70;clear A70;replace H:=Option.bind_eq_some_iff.mp H;obtain ⟨t303,A80,H⟩:=H
    replace H : (some (t303,0)) = some (r1,r2):=H
    have A8:=A0.mk A80;clear A80
    simp only [Option.some.injEq,Prod.mk.injEq] at H
    obtain ⟨rfl,rfl⟩:=H
    go_enter Tryd.func55,Tryd.ntmps55
    try go_wp2_with (first|((with_reducible refine gC (f:=20) rfl ?_);refine goesL_ (some 14) rfl rfl Tryd.func20 (by kernel_rfl) rfl #[.int .i64 a0] rfl (by (try simp only [mT,mC,mN]);first|done|rfl|(simp only [lD,lK];rfl)) ?_;(with_reducible refine (format_Params.calls a0 t294 t295 t296 t297 t298 _ ?hG A3.out).mono ?_);(case hG => exact GlobR.below hG.out (by repeat (first|(with_reducible first|exact HB.out|apply wA|apply wN|apply wD|refine wS ?_ GE299.out)|exact HB.out)));rintro e w9 ⟨rfl,hb⟩;refine ⟨_,rfl,?_⟩;have n0_:=A0.mk (wT (by repeat (first|(with_reducible first|exact HB.out|apply wA|apply wN|apply wD)|exact HB.out)) hb);clear HB;have HB:=n0_;clear n0_;(try clear hb);(try clear hb2);(try clear hk);(try clear hi))|((with_reducible refine gD (N:=10) rfl ?_);refine bE ?hg (N:=10) ?hd (cs:=#[.int .i64 0,.int .i64 0,.int .i64 0,.int .i64 0]) (t:=39) ?hr ?_;(case hd => rfl);(case hg => rfl);(case hr => first|(go_simp;done)|(go_simp;rfl));intro gb299 hg w10 hbox hb;have n0_:=A0.mk (wT (by repeat (first|(with_reducible first|exact HB.out|apply wA|apply wN|apply wD)|exact HB.out)) hb);have n1_:=A0.mk (hbox);have n2_:=A0.mk ((by rw [hg];exact (wZ (by repeat (first|(with_reducible first|exact HB.out|apply wA|apply wN|apply wD)|exact HB.out))) : w.heap.size ≤ gb299));have n3_:=A0.mk ((by rw [hg];exact (wZ (by repeat (first|(with_reducible first|exact HB.out|apply wA|apply wN|apply wD)|exact HB.out))) : w.heap.size ≤ gb299));clear HB;have HB:=n0_;have BK299:=n1_;have GW299:=n2_;have GE299:=n3_;clear n0_ n1_ n2_ n3_;clear hb hbox hg;have hcz11_0 : w10.cell? ⟨gb299,0,none⟩ = some (.int .i64 0):=(bC BK299.out 0).trans rfl;have hcz11_1 : w10.cell? ⟨gb299,1,none⟩ = some (.int .i64 0):=(bC BK299.out 1).trans rfl;have hcz11_2 : w10.cell? ⟨gb299,2,none⟩ = some (.int .i64 0):=(bC BK299.out 2).trans rfl;have hcz11_3 : w10.cell? ⟨gb299,3,none⟩ = some (.int .i64 0):=(bC BK299.out 3).trans rfl;have hfz11_0:=bF BK299.out 0;have hfz11_1:=bF BK299.out 1;have hfz11_2:=bF BK299.out 2;have hfz11_3:=bF BK299.out 3))
    have n0_ : A0 (((((w10.setCell ⟨gb299,0,none⟩ (.int .i64 t294)).setCell ⟨gb299,1,none⟩ (.int .i64 t295)).setCell ⟨gb299,2,none⟩ (.int .i64 t296)).setCell ⟨gb299,3,none⟩ (.int .i64 t297)).heap[gb299]? = some (.cells #[.int .i64 t294,.int .i64 t295,.int .i64 t296,.int .i64 t297] 39 (0,0))):=⟨by (with_reducible repeat (first|refine bN ?_ _|refine bD ?_|refine bA ?_ _));refine bP (cs:=#[.int .i64 t294,.int .i64 t295,.int .i64 t296,.int .i64 0]) ?_ 3 _ rfl;(with_reducible repeat (first|refine bN ?_ _|refine bD ?_|refine bA ?_ _));refine bP (cs:=#[.int .i64 t294,.int .i64 t295,.int .i64 0,.int .i64 0]) ?_ 2 _ rfl;(with_reducible repeat (first|refine bN ?_ _|refine bD ?_|refine bA ?_ _));refine bP (cs:=#[.int .i64 t294,.int .i64 0,.int .i64 0,.int .i64 0]) ?_ 1 _ rfl;(with_reducible repeat (first|refine bN ?_ _|refine bD ?_|refine bA ?_ _));refine bP (cs:=#[.int .i64 0,.int .i64 0,.int .i64 0,.int .i64 0]) ?_ 0 _ rfl;(with_reducible repeat (first|refine bN ?_ _|refine bD ?_|refine bA ?_ _));exact BK299.out⟩
    have n1_ : A0 (Below w.heap.size w ((((w10.setCell ⟨gb299,0,none⟩ (.int .i64 t294)).setCell ⟨gb299,1,none⟩ (.int .i64 t295)).setCell ⟨gb299,2,none⟩ (.int .i64 t296)).setCell ⟨gb299,3,none⟩ (.int .i64 t297))):=⟨by repeat (first|(with_reducible first|exact HB.out|apply wA|apply wN|apply wD|refine wS ?_ GE299.out)|exact HB.out)⟩
    (try clear BK299);(try clear HB)
    generalize ((((w10.setCell ⟨gb299,0,none⟩ (.int .i64 t294)).setCell ⟨gb299,1,none⟩ (.int .i64 t295)).setCell ⟨gb299,2,none⟩ (.int .i64 t296)).setCell ⟨gb299,3,none⟩ (.int .i64 t297)) = w12 at n0_ n1_ ⊢
    have BK299:=n0_;have HB:=n1_;clear n0_ n1_;have n0_:=A0.mk (bD BK299.out);have n1_:=A0.mk (wD HB.out);clear BK299;clear HB;have BK299:=n0_;have HB:=n1_;clear n0_ n1_
    refine start_ (n:=18) (S:=fun w' => w'.cell? ⟨gb299,0,none⟩ = some (.int .i64 t294)∧w'.cell? ⟨gb299,1,none⟩ = some (.int .i64 t295)∧w'.cell? ⟨gb299,2,none⟩ = some (.int .i64 t296)∧w'.cell? ⟨gb299,3,none⟩ = some (.int .i64 t297)) (ds:=[]) #[Z,Z,Z,Z,Z,Z,Z,Z,Z,Z,Z,Z,Z,Z,Z,Z,Z,Z] (by kernel_rfl) rfl rfl ⟨(bC BK299.out 0).trans rfl,(bC BK299.out 1).trans rfl,(bC BK299.out 2).trans rfl,(bC BK299.out 3).trans rfl⟩ (fun hHeld => ?_);refine with_tabW format_special_all_none.tab4 format_special_all_none.bits4 (fun HT_ HW_ => ?_)
    generalize w12.drew = w13 at BK299 HB hHeld ⊢
    refine pure_ (i:=1) (N:=some 21) (v:=?_) (a':=?_) #[Z,Y,Z,Z,Z,Z,Z,Z,Z,Z,Z,Z,Z,Z,Z,Z,Z,Z] rfl rfl (any_of HT_.out (by kernel_rfl)) (fun _ _ _ h => h) (Or.inl ⟨by rfl,?_⟩) ?_ ?_
    rotate_left;(intro w';go_simp;with_reducible rfl);rotate_left;(simp only [aP,lT,lZ,lS,i64_w,i32_w];rfl)
    refine pure_ (i:=2) (N:=some 22) (v:=?_) (a':=?_) #[Z,Y,Y,Z,Z,Z,Z,Z,Z,Z,Z,Z,Z,Z,Z,Z,Z,Z] rfl rfl (any_of HT_.out (by kernel_rfl)) (fun _ _ _ h => h) (Or.inl ⟨by rfl,?_⟩) ?_ ?_
    rotate_left;(intro w';go_simp;with_reducible rfl);rotate_left;(simp only [aP,lT,lZ,lS,i64_w,i32_w];rfl)
    refine pure_ (i:=4) (N:=some 24) (v:=?_) (a':=?_) #[Z,Y,Y,Z,Y,Z,Z,Z,Z,Z,Z,Z,Z,Z,Z,Z,Z,Z] rfl rfl (any_of HT_.out (by kernel_rfl)) (fun _ _ _ h => h) (Or.inl ⟨by rfl,?_⟩) ?_ ?_
    rotate_left;(intro w';go_simp;with_reducible rfl);rotate_left;(simp only [aP,lT,lZ,lS,i64_w,i32_w];rfl)
    refine pure_ (i:=8) (N:=some 28) (v:=?_) (a':=?_) #[Z,Y,Y,Z,Y,Z,Z,Z,Y,Z,Z,Z,Z,Z,Z,Z,Z,Z] rfl rfl (any_of HT_.out (by kernel_rfl)) (fun _ _ _ h => h) (Or.inl ⟨by rfl,?_⟩) ?_ ?_
    rotate_left;(intro w';go_simp;with_reducible rfl);rotate_left;(simp only [aP,lT,lZ,lS,i64_w,i32_w];rfl)
    refine pure_ (i:=12) (N:=some 32) (v:=?_) (a':=?_) #[Z,Y,Y,Z,Y,Z,Z,Z,Y,Z,Z,Z,Y,Z,Z,Z,Z,Z] rfl rfl (any_of HT_.out (by kernel_rfl)) (fun _ _ _ h => h) (Or.inl ⟨by rfl,?_⟩) ?_ ?_
    rotate_left;(intro w';go_simp;with_reducible rfl);rotate_left;(simp only [aP,lT,lZ,lS,i64_w,i32_w];rfl)
    refine take_ (i:=0) (N:=some 20) (v:=?_) (a':=?_) #[Y,Y,Y,Z,Y,Z,Z,Z,Y,Z,Z,Z,Y,Z,Z,Z,Z,Z] rfl rfl (take_ofW HT_.out HW_.out (by kernel_rfl)) (fun _ _ _ h => h) (Or.inl ⟨by rfl,?_⟩) hHeld ?_ ?_
    rotate_left;(rintro w' ⟨s0,s1,s2,s3⟩;go_simp;with_reducible rfl);rotate_left;(simp only [aP,lT,lZ,lS,i64_w,i32_w];rfl)
    refine take_ (i:=3) (N:=some 23) (v:=?_) (a':=?_) #[Y,Y,Y,Y,Y,Z,Z,Z,Y,Z,Z,Z,Y,Z,Z,Z,Z,Z] rfl rfl (take_ofW HT_.out HW_.out (by kernel_rfl)) (fun _ _ _ h => h) (Or.inl ⟨by rfl,?_⟩) hHeld ?_ ?_
    rotate_left;(rintro w' ⟨s0,s1,s2,s3⟩;go_simp;with_reducible rfl);rotate_left;(simp only [aP,lT,lZ,lS,i64_w,i32_w];rfl)
    refine take_ (i:=5) (N:=some 25) (v:=?_) (a':=?_) #[Y,Y,Y,Y,Y,Y,Z,Z,Y,Z,Z,Z,Y,Z,Z,Z,Z,Z] rfl rfl (take_ofW HT_.out HW_.out (by kernel_rfl)) (fun _ _ _ h => h) (Or.inl ⟨by rfl,?_⟩) hHeld ?_ ?_
    rotate_left;(rintro w' ⟨s0,s1,s2,s3⟩;go_simp;with_reducible rfl);rotate_left;(simp only [aP,lT,lZ,lS,i64_w,i32_w];rfl)
    refine pure_ (i:=6) (N:=some 26) (v:=?_) (a':=?_) #[Y,Y,Y,Y,Y,Y,Y,Z,Y,Z,Z,Z,Y,Z,Z,Z,Z,Z] rfl rfl (any_of HT_.out (by kernel_rfl)) (fun _ _ _ h => h) (Or.inl ⟨by rfl,?_⟩) ?_ ?_
    rotate_left;(intro w';go_simp;with_reducible rfl);rotate_left;(simp only [aP,lT,lZ,lS,i64_w,i32_w];rfl)
    refine take_ (i:=9) (N:=some 29) (v:=?_) (a':=?_) #[Y,Y,Y,Y,Y,Y,Y,Z,Y,Y,Z,Z,Y,Z,Z,Z,Z,Z] rfl rfl (take_ofW HT_.out HW_.out (by kernel_rfl)) (fun _ _ _ h => h) (Or.inl ⟨by rfl,?_⟩) hHeld ?_ ?_
    rotate_left;(rintro w' ⟨s0,s1,s2,s3⟩;go_simp;with_reducible rfl);rotate_left;(simp only [aP,lT,lZ,lS,i64_w,i32_w];rfl)
    refine take_ (i:=13) (N:=some 33) (v:=?_) (a':=?_) #[Y,Y,Y,Y,Y,Y,Y,Z,Y,Y,Z,Z,Y,Y,Z,Z,Z,Z] rfl rfl (take_ofW HT_.out HW_.out (by kernel_rfl)) (fun _ _ _ h => h) (Or.inl ⟨by rfl,?_⟩) hHeld ?_ ?_
    rotate_left;(rintro w' ⟨s0,s1,s2,s3⟩;go_simp;with_reducible rfl);rotate_left;(simp only [aP,lT,lZ,lS,i64_w,i32_w];rfl)
    refine one_ (i:=7) (N:=some 27) #[Y,Y,Y,Y,Y,Y,Y,Y,Y,Y,Z,Z,Y,Y,Z,Z,Z,Z] rfl rfl (one_of HT_.out (by kernel_rfl)) (by decide) (fun K hK => ?_)
    refine goes_ Tryd.func47 (by kernel_rfl) rfl #[.int .i64 (wrap64 (t294 - t295))] (by rfl) rfl rfl (by (try simp only [mT,mC,mN]);first|done|rfl|(simp only [lD,lK];rfl)) ?_
    with_reducible refine (format_ones.calls (wrap64 (t294 - t295)) t300 _ A5.out).mono ?_
    rintro e w' ⟨rfl,⟨nd,rfl⟩⟩;refine ⟨_,rfl,?_⟩
    refine hK.out _ _ ⟨(bC BK299.out 0).trans rfl,(bC BK299.out 1).trans rfl,(bC BK299.out 2).trans rfl,(bC BK299.out 3).trans rfl⟩ (fun hHeld => ?_)
    clear hK K
    refine norm_ (a':=?_) ?_ ?_
    rotate_left;(show Act.put _ (some 27) _ = _;simp only [aP,lT,lZ,lS,i64_w,i32_w];rfl)
    refine one_ (i:=10) (N:=some 30) #[Y,Y,Y,Y,Y,Y,Y,Y,Y,Y,Y,Z,Y,Y,Z,Z,Z,Z] rfl rfl (one_of HT_.out (by kernel_rfl)) (by decide) (fun K hK => ?_)
    refine goesT_ (by rfl) Tryd.func58 (by kernel_rfl) rfl #[.agg #[.int .i64 t294,.int .i64 t295,.int .i64 t296,.int .i64 t297]] (by rfl) rfl rfl (by (try simp only [mT,mC,mN]);first|done|rfl|(simp only [lD,lK];rfl)) ?_
    with_reducible refine (format_all.calls t294 t295 t296 t297 t301 _ A6.out).mono ?_
    rintro e w14 ⟨rfl,hb⟩;refine ⟨_,rfl,?_⟩;have n0_:=A0.mk (bB (g:=gb299) (o:=.cells #[.int .i64 t294,.int .i64 t295,.int .i64 t296,.int .i64 t297] 39 (0,0)) (by (with_reducible repeat (first|refine bN ?_ _|refine bD ?_|refine bA ?_ _));exact BK299.out) hb);have n1_:=A0.mk (wT (by repeat (first|(with_reducible first|exact HB.out|apply wA|apply wN|apply wD|refine wS ?_ GE299.out)|exact HB.out)) hb);clear BK299;clear HB;have BK299:=n0_;have HB:=n1_;clear n0_ n1_;(try clear hb);(try clear hb2);(try clear hk);(try clear hi)
    refine hK.out _ _ ⟨(bC BK299.out 0).trans rfl,(bC BK299.out 1).trans rfl,(bC BK299.out 2).trans rfl,(bC BK299.out 3).trans rfl⟩ (fun hHeld => ?_)
    clear hK K
    refine norm_ (a':=?_) ?_ ?_
    rotate_left;(show Act.put _ (some 30) _ = _;simp only [aP,lT,lZ,lS,i64_w,i32_w];rfl)
    refine pure_ (i:=11) (N:=some 31) (v:=?_) (a':=?_) #[Y,Y,Y,Y,Y,Y,Y,Y,Y,Y,Y,Y,Y,Y,Z,Z,Z,Z] rfl rfl (any_of HT_.out (by kernel_rfl)) (fun _ _ _ h => h) (Or.inl ⟨by rfl,?_⟩) ?_ ?_
    rotate_left;(intro w';go_simp;with_reducible rfl);rotate_left;(simp only [aP,lT,lZ,lS,i64_w,i32_w];rfl)
    refine one_ (i:=14) (N:=some 34) #[Y,Y,Y,Y,Y,Y,Y,Y,Y,Y,Y,Y,Y,Y,Y,Z,Z,Z] rfl rfl (one_of HT_.out (by kernel_rfl)) (by decide) (fun K hK => ?_)
    refine goesT_ (by rfl) Tryd.func56 (by kernel_rfl) rfl #[.agg #[.int .i64 t294,.int .i64 t295,.int .i64 t296,.int .i64 t297]] (by rfl) rfl rfl (by (try simp only [mT,mC,mN]);first|done|rfl|(simp only [lD,lK];rfl)) ?_
    with_reducible refine (format_none.calls t294 t295 t296 t297 t302 _ A7.out).mono ?_
    rintro e w15 ⟨rfl,hb⟩;refine ⟨_,rfl,?_⟩;have n0_:=A0.mk (bB (g:=gb299) (o:=.cells #[.int .i64 t294,.int .i64 t295,.int .i64 t296,.int .i64 t297] 39 (0,0)) (by (with_reducible repeat (first|refine bN ?_ _|refine bD ?_|refine bA ?_ _));exact BK299.out) hb);have n1_:=A0.mk (wT (by repeat (first|(with_reducible first|exact HB.out|apply wA|apply wN|apply wD|refine wS ?_ GE299.out)|exact HB.out)) hb);clear BK299;clear HB;have BK299:=n0_;have HB:=n1_;clear n0_ n1_;(try clear hb);(try clear hb2);(try clear hk);(try clear hi)
    refine hK.out _ _ ⟨(bC BK299.out 0).trans rfl,(bC BK299.out 1).trans rfl,(bC BK299.out 2).trans rfl,(bC BK299.out 3).trans rfl⟩ (fun hHeld => ?_)
    clear hK K
    refine norm_ (a':=?_) ?_ ?_
    rotate_left;(show Act.put _ (some 34) _ = _;simp only [aP,lT,lZ,lS,i64_w,i32_w];rfl)
    refine one_ (i:=15) (N:=some 35) #[Y,Y,Y,Y,Y,Y,Y,Y,Y,Y,Y,Y,Y,Y,Y,Y,Z,Z] rfl rfl (one_of HT_.out (by kernel_rfl)) (by decide) (fun K hK => ?_)
    refine goes_ Tryd.func59 (by kernel_rfl) rfl #[.agg #[.int .i64 t294,.int .i64 t295,.int .i64 t296,.int .i64 t297],.bool a1,.int .u64 (IntKind.u64.wrap (t300 - t301)),.int .u64 t302] (by rfl) rfl rfl (by (try simp only [mT,mC,mN]);first|done|rfl|(simp only [lD,lK];rfl)) ?_
    with_reducible refine (format_join.calls t294 t295 t296 t297 a1 (IntKind.u64.wrap (t300 - t301)) t302 t303 _ A8.out).mono ?_
    rintro e w16 ⟨rfl,hb⟩;refine ⟨_,rfl,?_⟩;have n0_:=A0.mk (bB (g:=gb299) (o:=.cells #[.int .i64 t294,.int .i64 t295,.int .i64 t296,.int .i64 t297] 39 (0,0)) (by (with_reducible repeat (first|refine bN ?_ _|refine bD ?_|refine bA ?_ _));exact BK299.out) hb);have n1_:=A0.mk (wT (by repeat (first|(with_reducible first|exact HB.out|apply wA|apply wN|apply wD|refine wS ?_ GE299.out)|exact HB.out)) hb);clear BK299;clear HB;have BK299:=n0_;have HB:=n1_;clear n0_ n1_;(try clear hb);(try clear hb2);(try clear hk);(try clear hi)
    refine hK.out _ _ ⟨(bC BK299.out 0).trans rfl,(bC BK299.out 1).trans rfl,(bC BK299.out 2).trans rfl,(bC BK299.out 3).trans rfl⟩ (fun hHeld => ?_)
    clear hK K
    refine norm_ (a':=?_) ?_ ?_
    rotate_left;(show Act.put _ (some 35) _ = _;simp only [aP,lT,lZ,lS,i64_w,i32_w];rfl)
    refine pure_ (i:=16) (N:=some 8) (v:=?_) (a':=?_) #[Y,Y,Y,Y,Y,Y,Y,Y,Y,Y,Y,Y,Y,Y,Y,Y,Y,Z] rfl rfl (any_of HT_.out (by kernel_rfl)) (fun _ _ _ h => h) (Or.inl ⟨by rfl,?_⟩) ?_ ?_
    rotate_left;(intro w';go_simp;with_reducible rfl);rotate_left;(simp only [aP,lT,lZ,lS,i64_w,i32_w];rfl)
    refine pure_ (i:=17) (N:=some 9) (v:=?_) (a':=?_) #[Y,Y,Y,Y,Y,Y,Y,Y,Y,Y,Y,Y,Y,Y,Y,Y,Y,Y] rfl rfl (any_of HT_.out (by kernel_rfl)) (fun _ _ _ h => h) (Or.inl ⟨by rfl,?_⟩) ?_ ?_
    rotate_left;(intro w';go_simp;with_reducible rfl);rotate_left;(simp only [aP,lT,lZ,lS,i64_w,i32_w];rfl)
    refine done_ (done_of HT_.out (by kernel_rfl)) ?_
    try go_wp2
    go_ret2
    exact ⟨by first|rfl|(simp [errW_none,errW_some] <;> rfl)|(simp [*,errW_none,errW_some] <;> rfl)|(simp [wrap64];done),by repeat (first|(with_reducible first|exact HB.out|apply wA|apply wN|apply wD|refine wS ?_ GE299.out)|exact HB.out)⟩
  · rw [if_neg c4] at H
    have c4b0 : (t298 == 0) = false:=beq_eq_false_iff_ne.mpr c4
    have c4b1 : (t298 != 0) = true:=bne_iff_ne.mpr c4
    simp only [Option.some.injEq,Prod.mk.injEq] at H
    obtain ⟨rfl,rfl⟩:=H
    go_enter Tryd.func55,Tryd.ntmps55
    go_wp2_with (first|((with_reducible refine gC (f:=20) rfl ?_);refine goesL_ (some 14) rfl rfl Tryd.func20 (by kernel_rfl) rfl #[.int .i64 a0] rfl (by (try simp only [mT,mC,mN]);first|done|rfl|(simp only [lD,lK];rfl)) ?_;(with_reducible refine (format_Params.calls a0 t294 t295 t296 t297 t298 _ ?hG A3.out).mono ?_);(case hG => exact GlobR.below hG.out (by repeat (first|(with_reducible first|exact HB.out|apply wA|apply wN|apply wD|refine wS ?_ GE299.out)|exact HB.out)));rintro e w17 ⟨rfl,hb⟩;refine ⟨_,rfl,?_⟩;have n0_:=A0.mk (wT (by repeat (first|(with_reducible first|exact HB.out|apply wA|apply wN|apply wD)|exact HB.out)) hb);clear HB;have HB:=n0_;clear n0_;(try clear hb);(try clear hb2);(try clear hk);(try clear hi))|((with_reducible refine gD (N:=10) rfl ?_);refine bE ?hg (N:=10) ?hd (cs:=#[.int .i64 0,.int .i64 0,.int .i64 0,.int .i64 0]) (t:=39) ?hr ?_;(case hd => rfl);(case hg => rfl);(case hr => first|(go_simp;done)|(go_simp;rfl));intro gb299 hg w18 hbox hb;have n0_:=A0.mk (wT (by repeat (first|(with_reducible first|exact HB.out|apply wA|apply wN|apply wD)|exact HB.out)) hb);have n1_:=A0.mk (hbox);have n2_:=A0.mk ((by rw [hg];exact (wZ (by repeat (first|(with_reducible first|exact HB.out|apply wA|apply wN|apply wD)|exact HB.out))) : w.heap.size ≤ gb299));have n3_:=A0.mk ((by rw [hg];exact (wZ (by repeat (first|(with_reducible first|exact HB.out|apply wA|apply wN|apply wD)|exact HB.out))) : w.heap.size ≤ gb299));clear HB;have HB:=n0_;have BK299:=n1_;have GW299:=n2_;have GE299:=n3_;clear n0_ n1_ n2_ n3_;clear hb hbox hg;have hcz19_0 : w18.cell? ⟨gb299,0,none⟩ = some (.int .i64 0):=(bC BK299.out 0).trans rfl;have hcz19_1 : w18.cell? ⟨gb299,1,none⟩ = some (.int .i64 0):=(bC BK299.out 1).trans rfl;have hcz19_2 : w18.cell? ⟨gb299,2,none⟩ = some (.int .i64 0):=(bC BK299.out 2).trans rfl;have hcz19_3 : w18.cell? ⟨gb299,3,none⟩ = some (.int .i64 0):=(bC BK299.out 3).trans rfl;have hfz19_0:=bF BK299.out 0;have hfz19_1:=bF BK299.out 1;have hfz19_2:=bF BK299.out 2;have hfz19_3:=bF BK299.out 3))
    go_ret2
    exact ⟨by first|rfl|(simp [errW_none,errW_some] <;> rfl)|(simp [*,errW_none,errW_some] <;> rfl)|(simp [wrap64];done),by repeat (first|(with_reducible first|exact HB.out|apply wA|apply wN|apply wD|refine wS ?_ GE299.out)|exact HB.out)⟩

/-! ### format_Zero: function 24 -/
noncomputable def format_Zero.f (a0 : Int) (a1 : Bool) : Option (Int × Int):=(format_special_all_none.f a0 a1).bind fun bt304 => (some (bt304.1,bt304.2))
set_option maxHeartbeats 8000000 in
set_option maxRecDepth 100000 in
theorem format_Zero.calls (a0 : Int) (a1 : Bool) (r1 : Int) (r2 : Int) (w : World) (hG : A0 (GlobR w)) (h : format_Zero.f a0 a1 = some (r1,r2)) :
    Calls Tryd.prog 24 #[.int .i64 a0,.bool a1] w fun e w' => e = .returned (.tuple #[.int .u64 r1,.int .i64 r2])∧Below w.heap.size w w':=by
  have HB:=A0.mk (Below.refl w.heap.size w)
  have H : ((format_special_all_none.f a0 a1).bind fun bt304 => (some (bt304.1,bt304.2))) = some (r1,r2):=h
  clear h;replace H:=Option.bind_eq_some_iff.mp H;obtain ⟨⟨t304,t305⟩,A30,H⟩:=H
  replace H : (some (t304,t305)) = some (r1,r2):=H
  have A3:=A0.mk A30;clear A30
  simp only [Option.some.injEq,Prod.mk.injEq] at H
  obtain ⟨rfl,rfl⟩:=H
  go_enter Tryd.func24,Tryd.ntmps24
  go_wp2_with (first|((with_reducible refine gC (f:=55) rfl ?_);refine goesL_ (some 8) rfl rfl Tryd.func55 (by kernel_rfl) rfl #[.int .i64 a0,.bool a1,.func (.func 58) #[] #[],.func (.func 56) #[] #[]] rfl (by (try simp only [mT,mC,mN]);first|done|rfl|(simp only [lD,lK];rfl)) ?_;(with_reducible refine (format_special_all_none.calls a0 a1 t304 t305 _ ?hG A3.out).mono ?_);(case hG => exact GlobR.below hG.out (by repeat (first|(with_reducible first|exact HB.out|apply wA|apply wN|apply wD)|exact HB.out)));rintro e w4 ⟨rfl,hb⟩;refine ⟨_,rfl,?_⟩;have n0_:=A0.mk (wT (by repeat (first|(with_reducible first|exact HB.out|apply wA|apply wN|apply wD)|exact HB.out)) hb);clear HB;have HB:=n0_;clear n0_;(try clear hb);(try clear hb2);(try clear hk);(try clear hi)))
  go_ret2
  exact ⟨by first|rfl|(simp [errW_none,errW_some] <;> rfl)|(simp [*,errW_none,errW_some] <;> rfl)|(simp [wrap64];done),by repeat (first|(with_reducible first|exact HB.out|apply wA|apply wN|apply wD)|exact HB.out)⟩

/-! ### vernierref04_NaN: function 26 -/
def vernierref04_NaN.f (a0 : Int) : Option (Int):=(vernierref04_Row.f a0).bind fun bt306 => (if 0 ≤ (IntKind.u64.wrap (wrap64 (bt306.2.1 - 2))) then ((vernierref04_Make.f a0 0 (IntKind.u64.wrap (wrap64 ((wrap64 (2 * bt306.2.2.2.1)) + 1))) (shl .u64 1 (IntKind.u64.wrap (wrap64 (bt306.2.1 - 2))))).bind fun t312 => (some t312)) else (none))
set_option maxHeartbeats 8000000 in
set_option maxRecDepth 100000 in
theorem vernierref04_NaN.calls (a0 : Int) (r : Int) (w : World) (h : vernierref04_NaN.f a0 = some r) :
    Calls Tryd.prog 26 #[.int .i64 a0] w fun e w' => e = .returned (.int .u64 r)∧Below w.heap.size w w':=by
  have hu42:=Tryd.underlying42
  have HB:=A0.mk (Below.refl w.heap.size w)
  have H : ((vernierref04_Row.f a0).bind fun bt306 => (if 0 ≤ (IntKind.u64.wrap (wrap64 (bt306.2.1 - 2))) then ((vernierref04_Make.f a0 0 (IntKind.u64.wrap (wrap64 ((wrap64 (2 * bt306.2.2.2.1)) + 1))) (shl .u64 1 (IntKind.u64.wrap (wrap64 (bt306.2.1 - 2))))).bind fun t312 => (some t312)) else (none))) = some r:=h
  clear h;replace H:=Option.bind_eq_some_iff.mp H;obtain ⟨⟨t306,t307,t308,t309,t310⟩,A20,H⟩:=H
  replace H : (if 0 ≤ (IntKind.u64.wrap (wrap64 (t307 - 2))) then ((vernierref04_Make.f a0 0 (IntKind.u64.wrap (wrap64 ((wrap64 (2 * t309)) + 1))) (shl .u64 1 (IntKind.u64.wrap (wrap64 (t307 - 2))))).bind fun t312 => (some t312)) else (none)) = some r:=H
  have A2:=A0.mk A20;clear A20
  obtain ⟨ji3,hji3⟩ : ∃ j_ : Int,(IntKind.u64.wrap (wrap64 (t307 - 2))) = j_:=⟨_,rfl⟩
  replace H : (if 0 ≤ (ji3) then ((vernierref04_Make.f a0 0 (IntKind.u64.wrap (wrap64 ((wrap64 (2 * t309)) + 1))) (shl .u64 1 (ji3))).bind fun t312 => (some t312)) else (none)) = some r:=by first|(rw [hji3] at H;exact H)|(simp only [hji3] at H ⊢;exact H)
  (try rw [hji3] at A2)
  by_cases c4 : 0 ≤ (ji3)
  · rw [if_pos c4] at H
    have c4b0:=eq_true c4
    have c4b1 : decide (0 ≤ (ji3)) = true:=decide_eq_true c4
    clear c4
    obtain ⟨ji5,hji5⟩ : ∃ j_ : Int,(shl .u64 1 (ji3)) = j_:=⟨_,rfl⟩
    replace H : ((vernierref04_Make.f a0 0 (IntKind.u64.wrap (wrap64 ((wrap64 (2 * t309)) + 1))) (ji5)).bind fun t312 => (some t312)) = some r:=by first|(rw [hji5] at H;exact H)|(simp only [hji5] at H ⊢;exact H)
    (try rw [hji5] at A2)
    have hji5_ : (IntKind.u64.wrap (1 * 2 ^ min (ji3).toNat 64)) = ji5:=hji5
    have hji5z : (ji3) ≤ 64→(IntKind.u64.wrap (1 * 2 ^ (ji3).toNat)) = ji5:=shl_small hji5
    have hji5u : (IntKind.u64.wrap (2 ^ min (ji3).toNat 64)) = ji5:=by have h_:=hji5_;rw [Int.one_mul] at h_;exact h_
    have hji5v : (ji3) ≤ 64→(IntKind.u64.wrap (2 ^ (ji3).toNat)) = ji5:=fun hle_ => by have h_:=hji5z hle_;rw [Int.one_mul] at h_;exact h_
    replace H:=Option.bind_eq_some_iff.mp H;obtain ⟨t312,A60,H⟩:=H
    replace H : (some t312) = some r:=H
    have A6:=A0.mk A60;clear A60;obtain rfl:=Option.some.inj H
    go_enter Tryd.func26,Tryd.ntmps26
    go_wp2_with (first|((with_reducible refine gC (f:=21) rfl ?_);refine goesL_ (some 7) rfl rfl Tryd.func21 (by kernel_rfl) rfl #[.int .i64 a0] rfl (by (try simp only [mT,mC,mN]);first|done|rfl|(simp only [lD,lK];rfl)) ?_;(with_reducible refine (vernierref04_Row.calls a0 t306 t307 t308 t309 t310 _ A2.out).mono ?_);rintro e w7 ⟨rfl,hb⟩;refine ⟨_,rfl,?_⟩;have n0_:=A0.mk (wT (by repeat (first|(with_reducible first|exact HB.out|apply wA|apply wN|apply wD)|exact HB.out)) hb);clear HB;have HB:=n0_;clear n0_;(try clear hb);(try clear hb2);(try clear hk);(try clear hi))|((with_reducible refine gD (N:=3) rfl ?_);refine bE ?hg (N:=3) ?hd (cs:=#[.int .i64 0,.int .i64 0,.int .i64 0,.int .i64 0]) (t:=42) ?hr ?_;(case hd => rfl);(case hg => rfl);(case hr => first|(go_simp;done)|(go_simp;rfl));intro gb311 hg w8 hbox hb;have n0_:=A0.mk (wT (by repeat (first|(with_reducible first|exact HB.out|apply wA|apply wN|apply wD)|exact HB.out)) hb);have n1_:=A0.mk (hbox);have n2_:=A0.mk ((by rw [hg];exact (wZ (by repeat (first|(with_reducible first|exact HB.out|apply wA|apply wN|apply wD)|exact HB.out))) : w.heap.size ≤ gb311));have n3_:=A0.mk ((by rw [hg];exact (wZ (by repeat (first|(with_reducible first|exact HB.out|apply wA|apply wN|apply wD)|exact HB.out))) : w.heap.size ≤ gb311));clear HB;have HB:=n0_;have BK311:=n1_;have GW311:=n2_;have GE311:=n3_;clear n0_ n1_ n2_ n3_;clear hb hbox hg;have hcz9_0 : w8.cell? ⟨gb311,0,none⟩ = some (.int .i64 0):=(bC BK311.out 0).trans rfl;have hcz9_1 : w8.cell? ⟨gb311,1,none⟩ = some (.int .i64 0):=(bC BK311.out 1).trans rfl;have hcz9_2 : w8.cell? ⟨gb311,2,none⟩ = some (.int .i64 0):=(bC BK311.out 2).trans rfl;have hcz9_3 : w8.cell? ⟨gb311,3,none⟩ = some (.int .i64 0):=(bC BK311.out 3).trans rfl;have hfz9_0:=bF BK311.out 0;have hfz9_1:=bF BK311.out 1;have hfz9_2:=bF BK311.out 2;have hfz9_3:=bF BK311.out 3)|((with_reducible refine gC (f:=30) rfl ?_);refine goesL_ (some 21) rfl rfl Tryd.func30 (by kernel_rfl) rfl #[.int .i64 a0,.int .u64 0,.int .u64 (IntKind.u64.wrap (wrap64 ((wrap64 (2 * t309)) + 1))),.int .u64 ji5] rfl (by (try simp only [mT,mC,mN]);first|done|(simp only [hji5];rfl)|rfl|(simp only [lD,lK];rfl)) ?_;(with_reducible refine (vernierref04_Make.calls a0 0 (IntKind.u64.wrap (wrap64 ((wrap64 (2 * t309)) + 1))) ji5 t312 _ A6.out).mono ?_);rintro e w10 ⟨rfl,hb⟩;refine ⟨_,rfl,?_⟩;have n0_:=A0.mk (bB (g:=gb311) (o:=.cells #[.int .i64 t306,.int .i64 t307,.int .i64 t308,.int .i64 t309] 42 (0,0)) (by (with_reducible repeat (first|refine bN ?_ _|refine bD ?_|refine bA ?_ _));refine bP (cs:=#[.int .i64 t306,.int .i64 t307,.int .i64 t308,.int .i64 0]) ?_ 3 _ rfl;(with_reducible repeat (first|refine bN ?_ _|refine bD ?_|refine bA ?_ _));refine bP (cs:=#[.int .i64 t306,.int .i64 t307,.int .i64 0,.int .i64 0]) ?_ 2 _ rfl;(with_reducible repeat (first|refine bN ?_ _|refine bD ?_|refine bA ?_ _));refine bP (cs:=#[.int .i64 t306,.int .i64 0,.int .i64 0,.int .i64 0]) ?_ 1 _ rfl;(with_reducible repeat (first|refine bN ?_ _|refine bD ?_|refine bA ?_ _));refine bP (cs:=#[.int .i64 0,.int .i64 0,.int .i64 0,.int .i64 0]) ?_ 0 _ rfl;(with_reducible repeat (first|refine bN ?_ _|refine bD ?_|refine bA ?_ _));exact BK311.out) hb);have n1_:=A0.mk (wT (by repeat (first|(with_reducible first|exact HB.out|apply wA|apply wN|apply wD|refine wS ?_ GE311.out)|exact HB.out)) hb);clear BK311;clear HB;have BK311:=n0_;have HB:=n1_;clear n0_ n1_;(try clear hb);(try clear hb2);(try clear hk);(try clear hi)))
    go_ret
    exact ⟨by first|rfl|(simp [errW_none,errW_some] <;> rfl)|(simp only [← hji3,← hji5];first|rfl|(simp [errW_none,errW_some] <;> rfl))|(simp [*,errW_none,errW_some] <;> rfl),by repeat (first|(with_reducible first|exact HB.out|apply wA|apply wN|apply wD|refine wS ?_ GE311.out)|exact HB.out)⟩
  · rw [if_neg c4] at H
    exact absurd H (by simp)

/-! ### vernierref04_Inf: function 27 -/
def vernierref04_Inf.f (a0 : Int) (a1 : Int) : Option (Int):=(vernierref04_Row.f a0).bind fun bt313 => ((vernierref04_Make.f a0 a1 (IntKind.u64.wrap (wrap64 ((wrap64 (2 * bt313.2.2.2.1)) + 1))) 0).bind fun t319 => (some t319))
set_option maxHeartbeats 8000000 in
set_option maxRecDepth 100000 in
theorem vernierref04_Inf.calls (a0 : Int) (a1 : Int) (r : Int) (w : World) (h : vernierref04_Inf.f a0 a1 = some r) :
    Calls Tryd.prog 27 #[.int .i64 a0,.int .u64 a1] w fun e w' => e = .returned (.int .u64 r)∧Below w.heap.size w w':=by
  have hu42:=Tryd.underlying42
  have HB:=A0.mk (Below.refl w.heap.size w)
  have H : ((vernierref04_Row.f a0).bind fun bt313 => ((vernierref04_Make.f a0 a1 (IntKind.u64.wrap (wrap64 ((wrap64 (2 * bt313.2.2.2.1)) + 1))) 0).bind fun t319 => (some t319))) = some r:=h
  clear h;replace H:=Option.bind_eq_some_iff.mp H;obtain ⟨⟨t313,t314,t315,t316,t317⟩,A30,H⟩:=H
  replace H : ((vernierref04_Make.f a0 a1 (IntKind.u64.wrap (wrap64 ((wrap64 (2 * t316)) + 1))) 0).bind fun t319 => (some t319)) = some r:=H
  have A3:=A0.mk A30;clear A30;replace H:=Option.bind_eq_some_iff.mp H;obtain ⟨t319,A40,H⟩:=H
  replace H : (some t319) = some r:=H
  have A4:=A0.mk A40;clear A40;obtain rfl:=Option.some.inj H
  go_enter Tryd.func27,Tryd.ntmps27
  go_wp2_with (first|((with_reducible refine gC (f:=21) rfl ?_);refine goesL_ (some 9) rfl rfl Tryd.func21 (by kernel_rfl) rfl #[.int .i64 a0] rfl (by (try simp only [mT,mC,mN]);first|done|rfl|(simp only [lD,lK];rfl)) ?_;(with_reducible refine (vernierref04_Row.calls a0 t313 t314 t315 t316 t317 _ A3.out).mono ?_);rintro e w5 ⟨rfl,hb⟩;refine ⟨_,rfl,?_⟩;have n0_:=A0.mk (wT (by repeat (first|(with_reducible first|exact HB.out|apply wA|apply wN|apply wD)|exact HB.out)) hb);clear HB;have HB:=n0_;clear n0_;(try clear hb);(try clear hb2);(try clear hk);(try clear hi))|((with_reducible refine gD (N:=5) rfl ?_);refine bE ?hg (N:=5) ?hd (cs:=#[.int .i64 0,.int .i64 0,.int .i64 0,.int .i64 0]) (t:=42) ?hr ?_;(case hd => rfl);(case hg => rfl);(case hr => first|(go_simp;done)|(go_simp;rfl));intro gb318 hg w6 hbox hb;have n0_:=A0.mk (wT (by repeat (first|(with_reducible first|exact HB.out|apply wA|apply wN|apply wD)|exact HB.out)) hb);have n1_:=A0.mk (hbox);have n2_:=A0.mk ((by rw [hg];exact (wZ (by repeat (first|(with_reducible first|exact HB.out|apply wA|apply wN|apply wD)|exact HB.out))) : w.heap.size ≤ gb318));have n3_:=A0.mk ((by rw [hg];exact (wZ (by repeat (first|(with_reducible first|exact HB.out|apply wA|apply wN|apply wD)|exact HB.out))) : w.heap.size ≤ gb318));clear HB;have HB:=n0_;have BK318:=n1_;have GW318:=n2_;have GE318:=n3_;clear n0_ n1_ n2_ n3_;clear hb hbox hg;have hcz7_0 : w6.cell? ⟨gb318,0,none⟩ = some (.int .i64 0):=(bC BK318.out 0).trans rfl;have hcz7_1 : w6.cell? ⟨gb318,1,none⟩ = some (.int .i64 0):=(bC BK318.out 1).trans rfl;have hcz7_2 : w6.cell? ⟨gb318,2,none⟩ = some (.int .i64 0):=(bC BK318.out 2).trans rfl;have hcz7_3 : w6.cell? ⟨gb318,3,none⟩ = some (.int .i64 0):=(bC BK318.out 3).trans rfl;have hfz7_0:=bF BK318.out 0;have hfz7_1:=bF BK318.out 1;have hfz7_2:=bF BK318.out 2;have hfz7_3:=bF BK318.out 3)|((with_reducible refine gC (f:=30) rfl ?_);refine goesL_ (some 19) rfl rfl Tryd.func30 (by kernel_rfl) rfl #[.int .i64 a0,.int .u64 a1,.int .u64 (IntKind.u64.wrap (wrap64 ((wrap64 (2 * t316)) + 1))),.int .u64 0] rfl (by (try simp only [mT,mC,mN]);first|done|rfl|(simp only [lD,lK];rfl)) ?_;(with_reducible refine (vernierref04_Make.calls a0 a1 (IntKind.u64.wrap (wrap64 ((wrap64 (2 * t316)) + 1))) 0 t319 _ A4.out).mono ?_);rintro e w8 ⟨rfl,hb⟩;refine ⟨_,rfl,?_⟩;have n0_:=A0.mk (bB (g:=gb318) (o:=.cells #[.int .i64 t313,.int .i64 t314,.int .i64 t315,.int .i64 t316] 42 (0,0)) (by (with_reducible repeat (first|refine bN ?_ _|refine bD ?_|refine bA ?_ _));refine bP (cs:=#[.int .i64 t313,.int .i64 t314,.int .i64 t315,.int .i64 0]) ?_ 3 _ rfl;(with_reducible repeat (first|refine bN ?_ _|refine bD ?_|refine bA ?_ _));refine bP (cs:=#[.int .i64 t313,.int .i64 t314,.int .i64 0,.int .i64 0]) ?_ 2 _ rfl;(with_reducible repeat (first|refine bN ?_ _|refine bD ?_|refine bA ?_ _));refine bP (cs:=#[.int .i64 t313,.int .i64 0,.int .i64 0,.int .i64 0]) ?_ 1 _ rfl;(with_reducible repeat (first|refine bN ?_ _|refine bD ?_|refine bA ?_ _));refine bP (cs:=#[.int .i64 0,.int .i64 0,.int .i64 0,.int .i64 0]) ?_ 0 _ rfl;(with_reducible repeat (first|refine bN ?_ _|refine bD ?_|refine bA ?_ _));exact BK318.out) hb);have n1_:=A0.mk (wT (by repeat (first|(with_reducible first|exact HB.out|apply wA|apply wN|apply wD|refine wS ?_ GE318.out)|exact HB.out)) hb);clear BK318;clear HB;have BK318:=n0_;have HB:=n1_;clear n0_ n1_;(try clear hb);(try clear hb2);(try clear hk);(try clear hi)))
  go_ret
  exact ⟨by first|rfl|(simp [errW_none,errW_some] <;> rfl)|(simp [*,errW_none,errW_some] <;> rfl)|(simp [wrap64];done),by repeat (first|(with_reducible first|exact HB.out|apply wA|apply wN|apply wD|refine wS ?_ GE318.out)|exact HB.out)⟩

/-! ### vernierref04_Zero: function 28 -/
def vernierref04_Zero.f (a0 : Int) (a1 : Int) : Option (Int):=(vernierref04_Make.f a0 a1 0 0).bind fun t320 => (some t320)
set_option maxHeartbeats 8000000 in
set_option maxRecDepth 100000 in
theorem vernierref04_Zero.calls (a0 : Int) (a1 : Int) (r : Int) (w : World) (h : vernierref04_Zero.f a0 a1 = some r) :
    Calls Tryd.prog 28 #[.int .i64 a0,.int .u64 a1] w fun e w' => e = .returned (.int .u64 r)∧Below w.heap.size w w':=by
  have HB:=A0.mk (Below.refl w.heap.size w)
  have H : ((vernierref04_Make.f a0 a1 0 0).bind fun t320 => (some t320)) = some r:=h
  clear h;replace H:=Option.bind_eq_some_iff.mp H;obtain ⟨t320,A30,H⟩:=H
  replace H : (some t320) = some r:=H
  have A3:=A0.mk A30;clear A30;obtain rfl:=Option.some.inj H
  go_enter Tryd.func28,Tryd.ntmps28
  go_wp2_with (first|((with_reducible refine gC (f:=30) rfl ?_);refine goesL_ (some 7) rfl rfl Tryd.func30 (by kernel_rfl) rfl #[.int .i64 a0,.int .u64 a1,.int .u64 0,.int .u64 0] rfl (by (try simp only [mT,mC,mN]);first|done|rfl|(simp only [lD,lK];rfl)) ?_;(with_reducible refine (vernierref04_Make.calls a0 a1 0 0 t320 _ A3.out).mono ?_);rintro e w4 ⟨rfl,hb⟩;refine ⟨_,rfl,?_⟩;have n0_:=A0.mk (wT (by repeat (first|(with_reducible first|exact HB.out|apply wA|apply wN|apply wD)|exact HB.out)) hb);clear HB;have HB:=n0_;clear n0_;(try clear hb);(try clear hb2);(try clear hk);(try clear hi)))
  go_ret
  exact ⟨by first|rfl|(simp [errW_none,errW_some] <;> rfl)|(simp [*,errW_none,errW_some] <;> rfl)|(simp [wrap64];done),by repeat (first|(with_reducible first|exact HB.out|apply wA|apply wN|apply wD)|exact HB.out)⟩

end Go.Proofs.YtjdmbhdlogbopaaDoor.V
