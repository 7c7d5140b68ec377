/- Contracts of the program's functions, each: where the printed function answers, the call answers the same. Written by vprint.py, this session's own program over the kit's print.py; Lean checks it. No conditions beyond those that each states. -/
import Derived.Test.YtjdmbhdlogbopaaDoorVx0
import Derived.Test.YtjdmbhdlogbopaaDoorVx1
import Derived.Test.YtjdmbhdlogbopaaDoorVx3
import Derived.Test.YtjdmbhdlogbopaaDoorVx6
import Derived.Test.YtjdmbhdlogbopaaDoorVx7
namespace Go.Proofs.YtjdmbhdlogbopaaDoor.V
open Go.RowKit Go.Proofs.YtjdmbhdlogbopaaDoorQ.PrintWords Go.Proofs.YtjdmbhdlogbopaaDoorQ.PrintLast Go.Proofs.YtjdmbhdlogbopaaDoorQ.PrintMore
open Bool renaming true → Y, false → Z
open List renaming setIfInBounds_toArray → lT, set_cons_zero → lZ, set_cons_succ → lS, map_toArray → mT, map_cons → mC, map_nil → mN, length_drop → lD, length_take → lK
open Act renaming put → aP
attribute [local go_sem] max2_int min2_int max_two min_two max_three min_three max_four min_four   -- for this text's walks alone
set_option linter.unusedVariables false
set_option linter.unusedSimpArgs false

/-! ### format_special_all_one: function 119 -/
noncomputable def format_special_all_one.f (a0 : Int) (a1 : Bool) : Option (Int × Int):=(format_Params.f a0).bind fun bt233 => (if bt233.2.2.2.2 = 0 then ((format_ones.f (wrap64 (bt233.1 - bt233.2.1))).bind fun t239 => ((format_all.f bt233.1 bt233.2.1 bt233.2.2.1 bt233.2.2.2.1).bind fun t240 => ((format_one.f bt233.1 bt233.2.1 bt233.2.2.1 bt233.2.2.2.1).bind fun t241 => ((format_join.f bt233.1 bt233.2.1 bt233.2.2.1 bt233.2.2.2.1 a1 (IntKind.u64.wrap (t239 - t240)) t241).bind fun t242 => (some (t242,0)))))) else (some (0,bt233.2.2.2.2)))
def format_special_all_one.T4 : Bool × List (List Nat × List Nat):=(true,[([],[]),([],[]),([],[]),([2],[2]),([],[]),([4],[4]),([3,5],[3,5]),([6],[6]),([],[]),([],[]),([8,9,7],[8,9]),([7,10],[7,10]),([],[]),([],[]),([12,13,10],[12,13]),([0,1,11,14,14],[0,1,11,14]),([15,15,0,1,2,3,4,5,6,7,8,9,10,11,12,13,14,15],[15]),([16,0,1,2,3,4,5,6,7,8,9,10,11,12,13,14,15,16],[])])
def format_special_all_one.B4 : List Nat:=[0,0,0,4,0,16,60,124,0,0,1020,2044,0,0,14332,32767,65535,131071]
theorem format_special_all_one.tab4 : rtab .any (opsOf Tryd.f55 4) = format_special_all_one.T4:=by kernel_rfl
theorem format_special_all_one.bits4 : waitsOk format_special_all_one.T4.2 format_special_all_one.B4 = true:=by kernel_rfl
set_option maxHeartbeats 8000000 in
set_option maxRecDepth 100000 in
theorem format_special_all_one.calls (a0 : Int) (a1 : Bool) (r1 : Int) (r2 : Int) (w : World) (hG : A0 (GlobR w)) (h : format_special_all_one.f a0 a1 = some (r1,r2)) :
    Calls Tryd.prog 55 #[.int .i64 a0,.bool a1,.func (.func 58) #[] #[],.func (.func 74) #[] #[]] w fun e w' => e = .returned (.tuple #[.int .u64 r1,.int .i64 r2])∧Below w.heap.size w w':=by
  have hu39:=Tryd.underlying39
  have HB:=A0.mk (Below.refl w.heap.size w)
  have H : ((format_Params.f a0).bind fun bt233 => (if bt233.2.2.2.2 = 0 then ((format_ones.f (wrap64 (bt233.1 - bt233.2.1))).bind fun t239 => ((format_all.f bt233.1 bt233.2.1 bt233.2.2.1 bt233.2.2.2.1).bind fun t240 => ((format_one.f bt233.1 bt233.2.1 bt233.2.2.1 bt233.2.2.2.1).bind fun t241 => ((format_join.f bt233.1 bt233.2.1 bt233.2.2.1 bt233.2.2.2.1 a1 (IntKind.u64.wrap (t239 - t240)) t241).bind fun t242 => (some (t242,0)))))) else (some (0,bt233.2.2.2.2)))) = some (r1,r2):=h
  clear h;replace H:=Option.bind_eq_some_iff.mp H;obtain ⟨⟨t233,t234,t235,t236,t237⟩,A30,H⟩:=H
  replace H : (if t237 = 0 then ((format_ones.f (wrap64 (t233 - t234))).bind fun t239 => ((format_all.f t233 t234 t235 t236).bind fun t240 => ((format_one.f t233 t234 t235 t236).bind fun t241 => ((format_join.f t233 t234 t235 t236 a1 (IntKind.u64.wrap (t239 - t240)) t241).bind fun t242 => (some (t242,0)))))) else (some (0,t237))) = some (r1,r2):=H
  have A3:=A0.mk A30;clear A30
  by_cases c4 : t237 = 0
  · rw [if_pos c4] at H
    have c4b0 : (t237 == 0) = true:=beq_iff_eq.mpr c4
    have c4b1 : (t237 != 0) = false:=bne_eq_false_iff_eq.mpr c4
    clear c4;replace H:=Option.bind_eq_some_iff.mp H;obtain ⟨t239,A50,H⟩:=H
    replace H : ((format_all.f t233 t234 t235 t236).bind fun t240 => ((format_one.f t233 t234 t235 t236).bind fun t241 => ((format_join.f t233 t234 t235 t236 a1 (IntKind.u64.wrap (t239 - t240)) t241).bind fun t242 => (some (t242,0))))) = some (r1,r2):=H
    have A5:=A0.mk A50;clear A50;replace H:=Option.bind_eq_some_iff.mp H;obtain ⟨t240,A60,H⟩:=H
    replace H : ((format_one.f t233 t234 t235 t236).bind fun t241 => ((format_join.f t233 t234 t235 t236 a1 (IntKind.u64.wrap (t239 - t240)) t241).bind fun t242 => (some (t242,0)))) = some (r1,r2):=H
    have A6:=A0.mk A60;clear A60;replace H:=Option.bind_eq_some_iff.mp H;obtain ⟨t241,A70,H⟩:=H
    replace H : ((format_join.f t233 t234 t235 t236 a1 (IntKind.u64.wrap (t239 - t240)) t241).bind fun t242 => (some (t242,0))) = some (r1,r2):=H
    have A7:=A0.mk A70;clear A70;replace H:=Option.bind_eq_some_iff.mp H;obtain ⟨t242,A80,H⟩:=H
    replace H : (some (t242,0)) = some (r1,r2):=H
    have A8:=A0.mk A80;clear A80
    simp only [Option.some.injEq,Prod.mk.injEq] at H
    obtain ⟨rfl,rfl⟩:=H
    go_enter Tryd.func55,Tryd.ntmps55
    try go_wp2_with (first|((with_reducible refine gC (f:=20) rfl ?_);refine goesL_ (some 14) rfl rfl Tryd.func20 (by kernel_rfl) rfl #[.int .i64 a0] rfl (by (try simp only [mT,mC,mN]);first|done|rfl|(simp only [lD,lK];rfl)) ?_;(with_reducible refine (format_Params.calls a0 t233 t234 t235 t236 t237 _ ?hG A3.out).mono ?_);(case hG => exact GlobR.below hG.out (by repeat (first|(with_reducible first|exact HB.out|apply wA|apply wN|apply wD|refine wS ?_ GE238.out)|exact HB.out)));rintro e w9 ⟨rfl,hb⟩;refine ⟨_,rfl,?_⟩;have n0_:=A0.mk (wT (by repeat (first|(with_reducible first|exact HB.out|apply wA|apply wN|apply wD)|exact HB.out)) hb);clear HB;have HB:=n0_;clear n0_;(try clear hb);(try clear hb2);(try clear hk);(try clear hi))|((with_reducible refine gD (N:=10) rfl ?_);refine bE ?hg (N:=10) ?hd (cs:=#[.int .i64 0,.int .i64 0,.int .i64 0,.int .i64 0]) (t:=39) ?hr ?_;(case hd => rfl);(case hg => rfl);(case hr => first|(go_simp;done)|(go_simp;rfl));intro gb238 hg w10 hbox hb;have n0_:=A0.mk (wT (by repeat (first|(with_reducible first|exact HB.out|apply wA|apply wN|apply wD)|exact HB.out)) hb);have n1_:=A0.mk (hbox);have n2_:=A0.mk ((by rw [hg];exact (wZ (by repeat (first|(with_reducible first|exact HB.out|apply wA|apply wN|apply wD)|exact HB.out))) : w.heap.size ≤ gb238));have n3_:=A0.mk ((by rw [hg];exact (wZ (by repeat (first|(with_reducible first|exact HB.out|apply wA|apply wN|apply wD)|exact HB.out))) : w.heap.size ≤ gb238));clear HB;have HB:=n0_;have BK238:=n1_;have GW238:=n2_;have GE238:=n3_;clear n0_ n1_ n2_ n3_;clear hb hbox hg;have hcz11_0 : w10.cell? ⟨gb238,0,none⟩ = some (.int .i64 0):=(bC BK238.out 0).trans rfl;have hcz11_1 : w10.cell? ⟨gb238,1,none⟩ = some (.int .i64 0):=(bC BK238.out 1).trans rfl;have hcz11_2 : w10.cell? ⟨gb238,2,none⟩ = some (.int .i64 0):=(bC BK238.out 2).trans rfl;have hcz11_3 : w10.cell? ⟨gb238,3,none⟩ = some (.int .i64 0):=(bC BK238.out 3).trans rfl;have hfz11_0:=bF BK238.out 0;have hfz11_1:=bF BK238.out 1;have hfz11_2:=bF BK238.out 2;have hfz11_3:=bF BK238.out 3))
    have n0_ : A0 (((((w10.setCell ⟨gb238,0,none⟩ (.int .i64 t233)).setCell ⟨gb238,1,none⟩ (.int .i64 t234)).setCell ⟨gb238,2,none⟩ (.int .i64 t235)).setCell ⟨gb238,3,none⟩ (.int .i64 t236)).heap[gb238]? = some (.cells #[.int .i64 t233,.int .i64 t234,.int .i64 t235,.int .i64 t236] 39 (0,0))):=⟨by (with_reducible repeat (first|refine bN ?_ _|refine bD ?_|refine bA ?_ _));refine bP (cs:=#[.int .i64 t233,.int .i64 t234,.int .i64 t235,.int .i64 0]) ?_ 3 _ rfl;(with_reducible repeat (first|refine bN ?_ _|refine bD ?_|refine bA ?_ _));refine bP (cs:=#[.int .i64 t233,.int .i64 t234,.int .i64 0,.int .i64 0]) ?_ 2 _ rfl;(with_reducible repeat (first|refine bN ?_ _|refine bD ?_|refine bA ?_ _));refine bP (cs:=#[.int .i64 t233,.int .i64 0,.int .i64 0,.int .i64 0]) ?_ 1 _ rfl;(with_reducible repeat (first|refine bN ?_ _|refine bD ?_|refine bA ?_ _));refine bP (cs:=#[.int .i64 0,.int .i64 0,.int .i64 0,.int .i64 0]) ?_ 0 _ rfl;(with_reducible repeat (first|refine bN ?_ _|refine bD ?_|refine bA ?_ _));exact BK238.out⟩
    have n1_ : A0 (Below w.heap.size w ((((w10.setCell ⟨gb238,0,none⟩ (.int .i64 t233)).setCell ⟨gb238,1,none⟩ (.int .i64 t234)).setCell ⟨gb238,2,none⟩ (.int .i64 t235)).setCell ⟨gb238,3,none⟩ (.int .i64 t236))):=⟨by repeat (first|(with_reducible first|exact HB.out|apply wA|apply wN|apply wD|refine wS ?_ GE238.out)|exact HB.out)⟩
    (try clear BK238);(try clear HB)
    generalize ((((w10.setCell ⟨gb238,0,none⟩ (.int .i64 t233)).setCell ⟨gb238,1,none⟩ (.int .i64 t234)).setCell ⟨gb238,2,none⟩ (.int .i64 t235)).setCell ⟨gb238,3,none⟩ (.int .i64 t236)) = w12 at n0_ n1_ ⊢
    have BK238:=n0_;have HB:=n1_;clear n0_ n1_;have n0_:=A0.mk (bD BK238.out);have n1_:=A0.mk (wD HB.out);clear BK238;clear HB;have BK238:=n0_;have HB:=n1_;clear n0_ n1_
    refine start_ (n:=18) (S:=fun w' => w'.cell? ⟨gb238,0,none⟩ = some (.int .i64 t233)∧w'.cell? ⟨gb238,1,none⟩ = some (.int .i64 t234)∧w'.cell? ⟨gb238,2,none⟩ = some (.int .i64 t235)∧w'.cell? ⟨gb238,3,none⟩ = some (.int .i64 t236)) (ds:=[]) #[Z,Z,Z,Z,Z,Z,Z,Z,Z,Z,Z,Z,Z,Z,Z,Z,Z,Z] (by kernel_rfl) rfl rfl ⟨(bC BK238.out 0).trans rfl,(bC BK238.out 1).trans rfl,(bC BK238.out 2).trans rfl,(bC BK238.out 3).trans rfl⟩ (fun hHeld => ?_);refine with_tabW format_special_all_one.tab4 format_special_all_one.bits4 (fun HT_ HW_ => ?_)
    generalize w12.drew = w13 at BK238 HB hHeld ⊢
    refine pure_ (i:=1) (N:=some 21) (v:=?_) (a':=?_) #[Z,Y,Z,Z,Z,Z,Z,Z,Z,Z,Z,Z,Z,Z,Z,Z,Z,Z] rfl rfl (any_of HT_.out (by kernel_rfl)) (fun _ _ _ h => h) (Or.inl ⟨by rfl,?_⟩) ?_ ?_
    rotate_left;(intro w';go_simp;with_reducible rfl);rotate_left;(simp only [aP,lT,lZ,lS,i64_w,i32_w];rfl)
    refine pure_ (i:=2) (N:=some 22) (v:=?_) (a':=?_) #[Z,Y,Y,Z,Z,Z,Z,Z,Z,Z,Z,Z,Z,Z,Z,Z,Z,Z] rfl rfl (any_of HT_.out (by kernel_rfl)) (fun _ _ _ h => h) (Or.inl ⟨by rfl,?_⟩) ?_ ?_
    rotate_left;(intro w';go_simp;with_reducible rfl);rotate_left;(simp only [aP,lT,lZ,lS,i64_w,i32_w];rfl)
    refine pure_ (i:=4) (N:=some 24) (v:=?_) (a':=?_) #[Z,Y,Y,Z,Y,Z,Z,Z,Z,Z,Z,Z,Z,Z,Z,Z,Z,Z] rfl rfl (any_of HT_.out (by kernel_rfl)) (fun _ _ _ h => h) (Or.inl ⟨by rfl,?_⟩) ?_ ?_
    rotate_left;(intro w';go_simp;with_reducible rfl);rotate_left;(simp only [aP,lT,lZ,lS,i64_w,i32_w];rfl)
    refine pure_ (i:=8) (N:=some 28) (v:=?_) (a':=?_) #[Z,Y,Y,Z,Y,Z,Z,Z,Y,Z,Z,Z,Z,Z,Z,Z,Z,Z] rfl rfl (any_of HT_.out (by kernel_rfl)) (fun _ _ _ h => h) (Or.inl ⟨by rfl,?_⟩) ?_ ?_
    rotate_left;(intro w';go_simp;with_reducible rfl);rotate_left;(simp only [aP,lT,lZ,lS,i64_w,i32_w];rfl)
    refine pure_ (i:=12) (N:=some 32) (v:=?_) (a':=?_) #[Z,Y,Y,Z,Y,Z,Z,Z,Y,Z,Z,Z,Y,Z,Z,Z,Z,Z] rfl rfl (any_of HT_.out (by kernel_rfl)) (fun _ _ _ h => h) (Or.inl ⟨by rfl,?_⟩) ?_ ?_
    rotate_left;(intro w';go_simp;with_reducible rfl);rotate_left;(simp only [aP,lT,lZ,lS,i64_w,i32_w];rfl)
    refine take_ (i:=0) (N:=some 20) (v:=?_) (a':=?_) #[Y,Y,Y,Z,Y,Z,Z,Z,Y,Z,Z,Z,Y,Z,Z,Z,Z,Z] rfl rfl (take_ofW HT_.out HW_.out (by kernel_rfl)) (fun _ _ _ h => h) (Or.inl ⟨by rfl,?_⟩) hHeld ?_ ?_
    rotate_left;(rintro w' ⟨s0,s1,s2,s3⟩;go_simp;with_reducible rfl);rotate_left;(simp only [aP,lT,lZ,lS,i64_w,i32_w];rfl)
    refine take_ (i:=3) (N:=some 23) (v:=?_) (a':=?_) #[Y,Y,Y,Y,Y,Z,Z,Z,Y,Z,Z,Z,Y,Z,Z,Z,Z,Z] rfl rfl (take_ofW HT_.out HW_.out (by kernel_rfl)) (fun _ _ _ h => h) (Or.inl ⟨by rfl,?_⟩) hHeld ?_ ?_
    rotate_left;(rintro w' ⟨s0,s1,s2,s3⟩;go_simp;with_reducible rfl);rotate_left;(simp only [aP,lT,lZ,lS,i64_w,i32_w];rfl)
    refine take_ (i:=5) (N:=some 25) (v:=?_) (a':=?_) #[Y,Y,Y,Y,Y,Y,Z,Z,Y,Z,Z,Z,Y,Z,Z,Z,Z,Z] rfl rfl (take_ofW HT_.out HW_.out (by kernel_rfl)) (fun _ _ _ h => h) (Or.inl ⟨by rfl,?_⟩) hHeld ?_ ?_
    rotate_left;(rintro w' ⟨s0,s1,s2,s3⟩;go_simp;with_reducible rfl);rotate_left;(simp only [aP,lT,lZ,lS,i64_w,i32_w];rfl)
    refine pure_ (i:=6) (N:=some 26) (v:=?_) (a':=?_) #[Y,Y,Y,Y,Y,Y,Y,Z,Y,Z,Z,Z,Y,Z,Z,Z,Z,Z] rfl rfl (any_of HT_.out (by kernel_rfl)) (fun _ _ _ h => h) (Or.inl ⟨by rfl,?_⟩) ?_ ?_
    rotate_left;(intro w';go_simp;with_reducible rfl);rotate_left;(simp only [aP,lT,lZ,lS,i64_w,i32_w];rfl)
    refine take_ (i:=9) (N:=some 29) (v:=?_) (a':=?_) #[Y,Y,Y,Y,Y,Y,Y,Z,Y,Y,Z,Z,Y,Z,Z,Z,Z,Z] rfl rfl (take_ofW HT_.out HW_.out (by kernel_rfl)) (fun _ _ _ h => h) (Or.inl ⟨by rfl,?_⟩) hHeld ?_ ?_
    rotate_left;(rintro w' ⟨s0,s1,s2,s3⟩;go_simp;with_reducible rfl);rotate_left;(simp only [aP,lT,lZ,lS,i64_w,i32_w];rfl)
    refine take_ (i:=13) (N:=some 33) (v:=?_) (a':=?_) #[Y,Y,Y,Y,Y,Y,Y,Z,Y,Y,Z,Z,Y,Y,Z,Z,Z,Z] rfl rfl (take_ofW HT_.out HW_.out (by kernel_rfl)) (fun _ _ _ h => h) (Or.inl ⟨by rfl,?_⟩) hHeld ?_ ?_
    rotate_left;(rintro w' ⟨s0,s1,s2,s3⟩;go_simp;with_reducible rfl);rotate_left;(simp only [aP,lT,lZ,lS,i64_w,i32_w];rfl)
    refine one_ (i:=7) (N:=some 27) #[Y,Y,Y,Y,Y,Y,Y,Y,Y,Y,Z,Z,Y,Y,Z,Z,Z,Z] rfl rfl (one_of HT_.out (by kernel_rfl)) (by decide) (fun K hK => ?_)
    refine goes_ Tryd.func47 (by kernel_rfl) rfl #[.int .i64 (wrap64 (t233 - t234))] (by rfl) rfl rfl (by (try simp only [mT,mC,mN]);first|done|rfl|(simp only [lD,lK];rfl)) ?_
    with_reducible refine (format_ones.calls (wrap64 (t233 - t234)) t239 _ A5.out).mono ?_
    rintro e w' ⟨rfl,⟨nd,rfl⟩⟩;refine ⟨_,rfl,?_⟩
    refine hK.out _ _ ⟨(bC BK238.out 0).trans rfl,(bC BK238.out 1).trans rfl,(bC BK238.out 2).trans rfl,(bC BK238.out 3).trans rfl⟩ (fun hHeld => ?_)
    clear hK K
    refine norm_ (a':=?_) ?_ ?_
    rotate_left;(show Act.put _ (some 27) _ = _;simp only [aP,lT,lZ,lS,i64_w,i32_w];rfl)
    refine one_ (i:=10) (N:=some 30) #[Y,Y,Y,Y,Y,Y,Y,Y,Y,Y,Y,Z,Y,Y,Z,Z,Z,Z] rfl rfl (one_of HT_.out (by kernel_rfl)) (by decide) (fun K hK => ?_)
    refine goesT_ (by rfl) Tryd.func58 (by kernel_rfl) rfl #[.agg #[.int .i64 t233,.int .i64 t234,.int .i64 t235,.int .i64 t236]] (by rfl) rfl rfl (by (try simp only [mT,mC,mN]);first|done|rfl|(simp only [lD,lK];rfl)) ?_
    with_reducible refine (format_all.calls t233 t234 t235 t236 t240 _ A6.out).mono ?_
    rintro e w14 ⟨rfl,hb⟩;refine ⟨_,rfl,?_⟩;have n0_:=A0.mk (bB (g:=gb238) (o:=.cells #[.int .i64 t233,.int .i64 t234,.int .i64 t235,.int .i64 t236] 39 (0,0)) (by (with_reducible repeat (first|refine bN ?_ _|refine bD ?_|refine bA ?_ _));exact BK238.out) hb);have n1_:=A0.mk (wT (by repeat (first|(with_reducible first|exact HB.out|apply wA|apply wN|apply wD|refine wS ?_ GE238.out)|exact HB.out)) hb);clear BK238;clear HB;have BK238:=n0_;have HB:=n1_;clear n0_ n1_;(try clear hb);(try clear hb2);(try clear hk);(try clear hi)
    refine hK.out _ _ ⟨(bC BK238.out 0).trans rfl,(bC BK238.out 1).trans rfl,(bC BK238.out 2).trans rfl,(bC BK238.out 3).trans rfl⟩ (fun hHeld => ?_)
    clear hK K
    refine norm_ (a':=?_) ?_ ?_
    rotate_left;(show Act.put _ (some 30) _ = _;simp only [aP,lT,lZ,lS,i64_w,i32_w];rfl)
    refine pure_ (i:=11) (N:=some 31) (v:=?_) (a':=?_) #[Y,Y,Y,Y,Y,Y,Y,Y,Y,Y,Y,Y,Y,Y,Z,Z,Z,Z] rfl rfl (any_of HT_.out (by kernel_rfl)) (fun _ _ _ h => h) (Or.inl ⟨by rfl,?_⟩) ?_ ?_
    rotate_left;(intro w';go_simp;with_reducible rfl);rotate_left;(simp only [aP,lT,lZ,lS,i64_w,i32_w];rfl)
    refine one_ (i:=14) (N:=some 34) #[Y,Y,Y,Y,Y,Y,Y,Y,Y,Y,Y,Y,Y,Y,Y,Z,Z,Z] rfl rfl (one_of HT_.out (by kernel_rfl)) (by decide) (fun K hK => ?_)
    refine goesT_ (by rfl) Tryd.func74 (by kernel_rfl) rfl #[.agg #[.int .i64 t233,.int .i64 t234,.int .i64 t235,.int .i64 t236]] (by rfl) rfl rfl (by (try simp only [mT,mC,mN]);first|done|rfl|(simp only [lD,lK];rfl)) ?_
    with_reducible refine (format_one.calls t233 t234 t235 t236 t241 _ A7.out).mono ?_
    rintro e w15 ⟨rfl,hb⟩;refine ⟨_,rfl,?_⟩;have n0_:=A0.mk (bB (g:=gb238) (o:=.cells #[.int .i64 t233,.int .i64 t234,.int .i64 t235,.int .i64 t236] 39 (0,0)) (by (with_reducible repeat (first|refine bN ?_ _|refine bD ?_|refine bA ?_ _));exact BK238.out) hb);have n1_:=A0.mk (wT (by repeat (first|(with_reducible first|exact HB.out|apply wA|apply wN|apply wD|refine wS ?_ GE238.out)|exact HB.out)) hb);clear BK238;clear HB;have BK238:=n0_;have HB:=n1_;clear n0_ n1_;(try clear hb);(try clear hb2);(try clear hk);(try clear hi)
    refine hK.out _ _ ⟨(bC BK238.out 0).trans rfl,(bC BK238.out 1).trans rfl,(bC BK238.out 2).trans rfl,(bC BK238.out 3).trans rfl⟩ (fun hHeld => ?_)
    clear hK K
    refine norm_ (a':=?_) ?_ ?_
    rotate_left;(show Act.put _ (some 34) _ = _;simp only [aP,lT,lZ,lS,i64_w,i32_w];rfl)
    refine one_ (i:=15) (N:=some 35) #[Y,Y,Y,Y,Y,Y,Y,Y,Y,Y,Y,Y,Y,Y,Y,Y,Z,Z] rfl rfl (one_of HT_.out (by kernel_rfl)) (by decide) (fun K hK => ?_)
    refine goes_ Tryd.func59 (by kernel_rfl) rfl #[.agg #[.int .i64 t233,.int .i64 t234,.int .i64 t235,.int .i64 t236],.bool a1,.int .u64 (IntKind.u64.wrap (t239 - t240)),.int .u64 t241] (by rfl) rfl rfl (by (try simp only [mT,mC,mN]);first|done|rfl|(simp only [lD,lK];rfl)) ?_
    with_reducible refine (format_join.calls t233 t234 t235 t236 a1 (IntKind.u64.wrap (t239 - t240)) t241 t242 _ A8.out).mono ?_
    rintro e w16 ⟨rfl,hb⟩;refine ⟨_,rfl,?_⟩;have n0_:=A0.mk (bB (g:=gb238) (o:=.cells #[.int .i64 t233,.int .i64 t234,.int .i64 t235,.int .i64 t236] 39 (0,0)) (by (with_reducible repeat (first|refine bN ?_ _|refine bD ?_|refine bA ?_ _));exact BK238.out) hb);have n1_:=A0.mk (wT (by repeat (first|(with_reducible first|exact HB.out|apply wA|apply wN|apply wD|refine wS ?_ GE238.out)|exact HB.out)) hb);clear BK238;clear HB;have BK238:=n0_;have HB:=n1_;clear n0_ n1_;(try clear hb);(try clear hb2);(try clear hk);(try clear hi)
    refine hK.out _ _ ⟨(bC BK238.out 0).trans rfl,(bC BK238.out 1).trans rfl,(bC BK238.out 2).trans rfl,(bC BK238.out 3).trans rfl⟩ (fun hHeld => ?_)
    clear hK K
    refine norm_ (a':=?_) ?_ ?_
    rotate_left;(show Act.put _ (some 35) _ = _;simp only [aP,lT,lZ,lS,i64_w,i32_w];rfl)
    refine pure_ (i:=16) (N:=some 8) (v:=?_) (a':=?_) #[Y,Y,Y,Y,Y,Y,Y,Y,Y,Y,Y,Y,Y,Y,Y,Y,Y,Z] rfl rfl (any_of HT_.out (by kernel_rfl)) (fun _ _ _ h => h) (Or.inl ⟨by rfl,?_⟩) ?_ ?_
    rotate_left;(intro w';go_simp;with_reducible rfl);rotate_left;(simp only [aP,lT,lZ,lS,i64_w,i32_w];rfl)
    refine pure_ (i:=17) (N:=some 9) (v:=?_) (a':=?_) #[Y,Y,Y,Y,Y,Y,Y,Y,Y,Y,Y,Y,Y,Y,Y,Y,Y,Y] rfl rfl (any_of HT_.out (by kernel_rfl)) (fun _ _ _ h => h) (Or.inl ⟨by rfl,?_⟩) ?_ ?_
    rotate_left;(intro w';go_simp;with_reducible rfl);rotate_left;(simp only [aP,lT,lZ,lS,i64_w,i32_w];rfl)
    refine done_ (done_of HT_.out (by kernel_rfl)) ?_
    try go_wp2
    go_ret2
    exact ⟨by first|rfl|(simp [errW_none,errW_some] <;> rfl)|(simp [*,errW_none,errW_some] <;> rfl)|(simp [wrap64];done),by repeat (first|(with_reducible first|exact HB.out|apply wA|apply wN|apply wD|refine wS ?_ GE238.out)|exact HB.out)⟩
  · rw [if_neg c4] at H
    have c4b0 : (t237 == 0) = false:=beq_eq_false_iff_ne.mpr c4
    have c4b1 : (t237 != 0) = true:=bne_iff_ne.mpr c4
    simp only [Option.some.injEq,Prod.mk.injEq] at H
    obtain ⟨rfl,rfl⟩:=H
    go_enter Tryd.func55,Tryd.ntmps55
    go_wp2_with (first|((with_reducible refine gC (f:=20) rfl ?_);refine goesL_ (some 14) rfl rfl Tryd.func20 (by kernel_rfl) rfl #[.int .i64 a0] rfl (by (try simp only [mT,mC,mN]);first|done|rfl|(simp only [lD,lK];rfl)) ?_;(with_reducible refine (format_Params.calls a0 t233 t234 t235 t236 t237 _ ?hG A3.out).mono ?_);(case hG => exact GlobR.below hG.out (by repeat (first|(with_reducible first|exact HB.out|apply wA|apply wN|apply wD|refine wS ?_ GE238.out)|exact HB.out)));rintro e w17 ⟨rfl,hb⟩;refine ⟨_,rfl,?_⟩;have n0_:=A0.mk (wT (by repeat (first|(with_reducible first|exact HB.out|apply wA|apply wN|apply wD)|exact HB.out)) hb);clear HB;have HB:=n0_;clear n0_;(try clear hb);(try clear hb2);(try clear hk);(try clear hi))|((with_reducible refine gD (N:=10) rfl ?_);refine bE ?hg (N:=10) ?hd (cs:=#[.int .i64 0,.int .i64 0,.int .i64 0,.int .i64 0]) (t:=39) ?hr ?_;(case hd => rfl);(case hg => rfl);(case hr => first|(go_simp;done)|(go_simp;rfl));intro gb238 hg w18 hbox hb;have n0_:=A0.mk (wT (by repeat (first|(with_reducible first|exact HB.out|apply wA|apply wN|apply wD)|exact HB.out)) hb);have n1_:=A0.mk (hbox);have n2_:=A0.mk ((by rw [hg];exact (wZ (by repeat (first|(with_reducible first|exact HB.out|apply wA|apply wN|apply wD)|exact HB.out))) : w.heap.size ≤ gb238));have n3_:=A0.mk ((by rw [hg];exact (wZ (by repeat (first|(with_reducible first|exact HB.out|apply wA|apply wN|apply wD)|exact HB.out))) : w.heap.size ≤ gb238));clear HB;have HB:=n0_;have BK238:=n1_;have GW238:=n2_;have GE238:=n3_;clear n0_ n1_ n2_ n3_;clear hb hbox hg;have hcz19_0 : w18.cell? ⟨gb238,0,none⟩ = some (.int .i64 0):=(bC BK238.out 0).trans rfl;have hcz19_1 : w18.cell? ⟨gb238,1,none⟩ = some (.int .i64 0):=(bC BK238.out 1).trans rfl;have hcz19_2 : w18.cell? ⟨gb238,2,none⟩ = some (.int .i64 0):=(bC BK238.out 2).trans rfl;have hcz19_3 : w18.cell? ⟨gb238,3,none⟩ = some (.int .i64 0):=(bC BK238.out 3).trans rfl;have hfz19_0:=bF BK238.out 0;have hfz19_1:=bF BK238.out 1;have hfz19_2:=bF BK238.out 2;have hfz19_3:=bF BK238.out 3))
    go_ret2
    exact ⟨by first|rfl|(simp [errW_none,errW_some] <;> rfl)|(simp [*,errW_none,errW_some] <;> rfl)|(simp [wrap64];done),by repeat (first|(with_reducible first|exact HB.out|apply wA|apply wN|apply wD|refine wS ?_ GE238.out)|exact HB.out)⟩

/-! ### format_Least: function 51 -/
noncomputable def format_Least.f (a0 : Int) (a1 : Bool) : Option (Int × Int):=(format_special_all_one.f a0 a1).bind fun bt243 => (some (bt243.1,bt243.2))
set_option maxHeartbeats 8000000 in
set_option maxRecDepth 100000 in
theorem format_Least.calls (a0 : Int) (a1 : Bool) (r1 : Int) (r2 : Int) (w : World) (hG : A0 (GlobR w)) (h : format_Least.f a0 a1 = some (r1,r2)) :
    Calls Tryd.prog 51 #[.int .i64 a0,.bool a1] w fun e w' => e = .returned (.tuple #[.int .u64 r1,.int .i64 r2])∧Below w.heap.size w w':=by
  have HB:=A0.mk (Below.refl w.heap.size w)
  have H : ((format_special_all_one.f a0 a1).bind fun bt243 => (some (bt243.1,bt243.2))) = some (r1,r2):=h
  clear h;replace H:=Option.bind_eq_some_iff.mp H;obtain ⟨⟨t243,t244⟩,A30,H⟩:=H
  replace H : (some (t243,t244)) = some (r1,r2):=H
  have A3:=A0.mk A30;clear A30
  simp only [Option.some.injEq,Prod.mk.injEq] at H
  obtain ⟨rfl,rfl⟩:=H
  go_enter Tryd.func51,Tryd.ntmps51
  go_wp2_with (first|((with_reducible refine gC (f:=55) rfl ?_);refine goesL_ (some 8) rfl rfl Tryd.func55 (by kernel_rfl) rfl #[.int .i64 a0,.bool a1,.func (.func 58) #[] #[],.func (.func 74) #[] #[]] rfl (by (try simp only [mT,mC,mN]);first|done|rfl|(simp only [lD,lK];rfl)) ?_;(with_reducible refine (format_special_all_one.calls a0 a1 t243 t244 _ ?hG A3.out).mono ?_);(case hG => exact GlobR.below hG.out (by repeat (first|(with_reducible first|exact HB.out|apply wA|apply wN|apply wD)|exact HB.out)));rintro e w4 ⟨rfl,hb⟩;refine ⟨_,rfl,?_⟩;have n0_:=A0.mk (wT (by repeat (first|(with_reducible first|exact HB.out|apply wA|apply wN|apply wD)|exact HB.out)) hb);clear HB;have HB:=n0_;clear n0_;(try clear hb);(try clear hb2);(try clear hk);(try clear hi)))
  go_ret2
  exact ⟨by first|rfl|(simp [errW_none,errW_some] <;> rfl)|(simp [*,errW_none,errW_some] <;> rfl)|(simp [wrap64];done),by repeat (first|(with_reducible first|exact HB.out|apply wA|apply wN|apply wD)|exact HB.out)⟩

/-! ### vernierref04_Make: function 30 -/
def vernierref04_Make.f (a0 : Int) (a1 : Int) (a2 : Int) (a3 : Int) : Option (Int):=(vernierref04_Row.f a0).bind fun bt245 => (if 0 ≤ (IntKind.u64.wrap (wrap64 (bt245.1 - 1))) then (if 0 ≤ (IntKind.u64.wrap (wrap64 (bt245.2.1 - 1))) then (some (Go.bits .or .u64 (Go.bits .or .u64 (shl .u64 a1 (IntKind.u64.wrap (wrap64 (bt245.1 - 1)))) (shl .u64 a2 (IntKind.u64.wrap (wrap64 (bt245.2.1 - 1))))) a3)) else (none)) else (none))
set_option maxHeartbeats 8000000 in
set_option maxRecDepth 100000 in
theorem vernierref04_Make.calls (a0 : Int) (a1 : Int) (a2 : Int) (a3 : Int) (r : Int) (w : World) (h : vernierref04_Make.f a0 a1 a2 a3 = some r) :
    Calls Tryd.prog 30 #[.int .i64 a0,.int .u64 a1,.int .u64 a2,.int .u64 a3] w fun e w' => e = .returned (.int .u64 r)∧Below w.heap.size w w':=by
  have hu42:=Tryd.underlying42
  have HB:=A0.mk (Below.refl w.heap.size w)
  have H : ((vernierref04_Row.f a0).bind fun bt245 => (if 0 ≤ (IntKind.u64.wrap (wrap64 (bt245.1 - 1))) then (if 0 ≤ (IntKind.u64.wrap (wrap64 (bt245.2.1 - 1))) then (some (Go.bits .or .u64 (Go.bits .or .u64 (shl .u64 a1 (IntKind.u64.wrap (wrap64 (bt245.1 - 1)))) (shl .u64 a2 (IntKind.u64.wrap (wrap64 (bt245.2.1 - 1))))) a3)) else (none)) else (none))) = some r:=h
  clear h;replace H:=Option.bind_eq_some_iff.mp H;obtain ⟨⟨t245,t246,t247,t248,t249⟩,A50,H⟩:=H
  replace H : (if 0 ≤ (IntKind.u64.wrap (wrap64 (t245 - 1))) then (if 0 ≤ (IntKind.u64.wrap (wrap64 (t246 - 1))) then (some (Go.bits .or .u64 (Go.bits .or .u64 (shl .u64 a1 (IntKind.u64.wrap (wrap64 (t245 - 1)))) (shl .u64 a2 (IntKind.u64.wrap (wrap64 (t246 - 1))))) a3)) else (none)) else (none)) = some r:=H
  have A5:=A0.mk A50;clear A50
  obtain ⟨ji6,hji6⟩ : ∃ j_ : Int,(IntKind.u64.wrap (wrap64 (t245 - 1))) = j_:=⟨_,rfl⟩
  replace H : (if 0 ≤ (ji6) then (if 0 ≤ (IntKind.u64.wrap (wrap64 (t246 - 1))) then (some (Go.bits .or .u64 (Go.bits .or .u64 (shl .u64 a1 (ji6)) (shl .u64 a2 (IntKind.u64.wrap (wrap64 (t246 - 1))))) a3)) else (none)) else (none)) = some r:=by first|(rw [hji6] at H;exact H)|(simp only [hji6] at H ⊢;exact H)
  (try rw [hji6] at A5)
  by_cases c7 : 0 ≤ (ji6)
  · rw [if_pos c7] at H
    have c7b0:=eq_true c7
    have c7b1 : decide (0 ≤ (ji6)) = true:=decide_eq_true c7
    clear c7
    obtain ⟨ji8,hji8⟩ : ∃ j_ : Int,(shl .u64 a1 (ji6)) = j_:=⟨_,rfl⟩
    replace H : (if 0 ≤ (IntKind.u64.wrap (wrap64 (t246 - 1))) then (some (Go.bits .or .u64 (Go.bits .or .u64 (ji8) (shl .u64 a2 (IntKind.u64.wrap (wrap64 (t246 - 1))))) a3)) else (none)) = some r:=by first|(rw [hji8] at H;exact H)|(simp only [hji8] at H ⊢;exact H)
    (try rw [hji8] at A5)
    have hji8_ : (IntKind.u64.wrap (a1 * 2 ^ min (ji6).toNat 64)) = ji8:=hji8
    have hji8z : (ji6) ≤ 64→(IntKind.u64.wrap (a1 * 2 ^ (ji6).toNat)) = ji8:=shl_small hji8
    obtain ⟨ji9,hji9⟩ : ∃ j_ : Int,(IntKind.u64.wrap (wrap64 (t246 - 1))) = j_:=⟨_,rfl⟩
    replace H : (if 0 ≤ (ji9) then (some (Go.bits .or .u64 (Go.bits .or .u64 (ji8) (shl .u64 a2 (ji9))) a3)) else (none)) = some r:=by first|(rw [hji9] at H;exact H)|(simp only [hji9] at H ⊢;exact H)
    (try rw [hji9] at A5)
    by_cases c10 : 0 ≤ (ji9)
    · rw [if_pos c10] at H
      have c10b0:=eq_true c10
      have c10b1 : decide (0 ≤ (ji9)) = true:=decide_eq_true c10
      clear c10
      obtain ⟨ji11,hji11⟩ : ∃ j_ : Int,(shl .u64 a2 (ji9)) = j_:=⟨_,rfl⟩
      replace H : (some (Go.bits .or .u64 (Go.bits .or .u64 (ji8) (ji11)) a3)) = some r:=by first|(rw [hji11] at H;exact H)|(simp only [hji11] at H ⊢;exact H)
      (try rw [hji11] at A5)
      have hji11_ : (IntKind.u64.wrap (a2 * 2 ^ min (ji9).toNat 64)) = ji11:=hji11
      have hji11z : (ji9) ≤ 64→(IntKind.u64.wrap (a2 * 2 ^ (ji9).toNat)) = ji11:=shl_small hji11
      obtain rfl:=Option.some.inj H
      go_enter Tryd.func30,Tryd.ntmps30
      go_wp2_with (first|((with_reducible refine gC (f:=21) rfl ?_);refine goesL_ (some 13) rfl rfl Tryd.func21 (by kernel_rfl) rfl #[.int .i64 a0] rfl (by (try simp only [mT,mC,mN]);first|done|rfl|(simp only [lD,lK];rfl)) ?_;(with_reducible refine (vernierref04_Row.calls a0 t245 t246 t247 t248 t249 _ A5.out).mono ?_);rintro e w12 ⟨rfl,hb⟩;refine ⟨_,rfl,?_⟩;have n0_:=A0.mk (wT (by repeat (first|(with_reducible first|exact HB.out|apply wA|apply wN|apply wD)|exact HB.out)) hb);clear HB;have HB:=n0_;clear n0_;(try clear hb);(try clear hb2);(try clear hk);(try clear hi))|((with_reducible refine gD (N:=9) rfl ?_);refine bE ?hg (N:=9) ?hd (cs:=#[.int .i64 0,.int .i64 0,.int .i64 0,.int .i64 0]) (t:=42) ?hr ?_;(case hd => rfl);(case hg => rfl);(case hr => first|(go_simp;done)|(go_simp;rfl));intro gb250 hg w13 hbox hb;have n0_:=A0.mk (wT (by repeat (first|(with_reducible first|exact HB.out|apply wA|apply wN|apply wD)|exact HB.out)) hb);have n1_:=A0.mk (hbox);have n2_:=A0.mk ((by rw [hg];exact (wZ (by repeat (first|(with_reducible first|exact HB.out|apply wA|apply wN|apply wD)|exact HB.out))) : w.heap.size ≤ gb250));have n3_:=A0.mk ((by rw [hg];exact (wZ (by repeat (first|(with_reducible first|exact HB.out|apply wA|apply wN|apply wD)|exact HB.out))) : w.heap.size ≤ gb250));clear HB;have HB:=n0_;have BK250:=n1_;have GW250:=n2_;have GE250:=n3_;clear n0_ n1_ n2_ n3_;clear hb hbox hg;have hcz14_0 : w13.cell? ⟨gb250,0,none⟩ = some (.int .i64 0):=(bC BK250.out 0).trans rfl;have hcz14_1 : w13.cell? ⟨gb250,1,none⟩ = some (.int .i64 0):=(bC BK250.out 1).trans rfl;have hcz14_2 : w13.cell? ⟨gb250,2,none⟩ = some (.int .i64 0):=(bC BK250.out 2).trans rfl;have hcz14_3 : w13.cell? ⟨gb250,3,none⟩ = some (.int .i64 0):=(bC BK250.out 3).trans rfl;have hfz14_0:=bF BK250.out 0;have hfz14_1:=bF BK250.out 1;have hfz14_2:=bF BK250.out 2;have hfz14_3:=bF BK250.out 3))
      go_ret
      exact ⟨by first|rfl|(simp [errW_none,errW_some] <;> rfl)|(simp only [← hji6,← hji8,← hji9,← hji11];first|rfl|(simp [errW_none,errW_some] <;> rfl))|(simp [*,errW_none,errW_some] <;> rfl),by repeat (first|(with_reducible first|exact HB.out|apply wA|apply wN|apply wD|refine wS ?_ GE250.out)|exact HB.out)⟩
    · rw [if_neg c10] at H
      exact absurd H (by simp)
  · rw [if_neg c7] at H
    exact absurd H (by simp)

/-! ### vernierref04_Greatest: function 52 -/
def vernierref04_Greatest.f (a0 : Int) (a1 : Int) : Option (Int):=(vernierref04_Row.f a0).bind fun bt251 => (if 0 ≤ (IntKind.u64.wrap (wrap64 (bt251.2.1 - 1))) then ((vernierref04_Make.f a0 a1 (IntKind.u64.wrap (wrap64 (2 * bt251.2.2.2.1))) (IntKind.u64.wrap ((shl .u64 1 (IntKind.u64.wrap (wrap64 (bt251.2.1 - 1)))) - 1))).bind fun t257 => (some t257)) else (none))
set_option maxHeartbeats 8000000 in
set_option maxRecDepth 100000 in
theorem vernierref04_Greatest.calls (a0 : Int) (a1 : Int) (r : Int) (w : World) (h : vernierref04_Greatest.f a0 a1 = some r) :
    Calls Tryd.prog 52 #[.int .i64 a0,.int .u64 a1] w fun e w' => e = .returned (.int .u64 r)∧Below w.heap.size w w':=by
  have hu42:=Tryd.underlying42
  have HB:=A0.mk (Below.refl w.heap.size w)
  have H : ((vernierref04_Row.f a0).bind fun bt251 => (if 0 ≤ (IntKind.u64.wrap (wrap64 (bt251.2.1 - 1))) then ((vernierref04_Make.f a0 a1 (IntKind.u64.wrap (wrap64 (2 * bt251.2.2.2.1))) (IntKind.u64.wrap ((shl .u64 1 (IntKind.u64.wrap (wrap64 (bt251.2.1 - 1)))) - 1))).bind fun t257 => (some t257)) else (none))) = some r:=h
  clear h;replace H:=Option.bind_eq_some_iff.mp H;obtain ⟨⟨t251,t252,t253,t254,t255⟩,A30,H⟩:=H
  replace H : (if 0 ≤ (IntKind.u64.wrap (wrap64 (t252 - 1))) then ((vernierref04_Make.f a0 a1 (IntKind.u64.wrap (wrap64 (2 * t254))) (IntKind.u64.wrap ((shl .u64 1 (IntKind.u64.wrap (wrap64 (t252 - 1)))) - 1))).bind fun t257 => (some t257)) else (none)) = some r:=H
  have A3:=A0.mk A30;clear A30
  obtain ⟨ji4,hji4⟩ : ∃ j_ : Int,(IntKind.u64.wrap (wrap64 (t252 - 1))) = j_:=⟨_,rfl⟩
  replace H : (if 0 ≤ (ji4) then ((vernierref04_Make.f a0 a1 (IntKind.u64.wrap (wrap64 (2 * t254))) (IntKind.u64.wrap ((shl .u64 1 (ji4)) - 1))).bind fun t257 => (some t257)) else (none)) = some r:=by first|(rw [hji4] at H;exact H)|(simp only [hji4] at H ⊢;exact H)
  (try rw [hji4] at A3)
  by_cases c5 : 0 ≤ (ji4)
  · rw [if_pos c5] at H
    have c5b0:=eq_true c5
    have c5b1 : decide (0 ≤ (ji4)) = true:=decide_eq_true c5
    clear c5
    obtain ⟨ji6,hji6⟩ : ∃ j_ : Int,(shl .u64 1 (ji4)) = j_:=⟨_,rfl⟩
    replace H : ((vernierref04_Make.f a0 a1 (IntKind.u64.wrap (wrap64 (2 * t254))) (IntKind.u64.wrap ((ji6) - 1))).bind fun t257 => (some t257)) = some r:=by first|(rw [hji6] at H;exact H)|(simp only [hji6] at H ⊢;exact H)
    (try rw [hji6] at A3)
    have hji6_ : (IntKind.u64.wrap (1 * 2 ^ min (ji4).toNat 64)) = ji6:=hji6
    have hji6z : (ji4) ≤ 64→(IntKind.u64.wrap (1 * 2 ^ (ji4).toNat)) = ji6:=shl_small hji6
    have hji6u : (IntKind.u64.wrap (2 ^ min (ji4).toNat 64)) = ji6:=by have h_:=hji6_;rw [Int.one_mul] at h_;exact h_
    have hji6v : (ji4) ≤ 64→(IntKind.u64.wrap (2 ^ (ji4).toNat)) = ji6:=fun hle_ => by have h_:=hji6z hle_;rw [Int.one_mul] at h_;exact h_
    replace H:=Option.bind_eq_some_iff.mp H;obtain ⟨t257,A70,H⟩:=H
    replace H : (some t257) = some r:=H
    have A7:=A0.mk A70;clear A70;obtain rfl:=Option.some.inj H
    go_enter Tryd.func52,Tryd.ntmps52
    go_wp2_with (first|((with_reducible refine gC (f:=21) rfl ?_);refine goesL_ (some 9) rfl rfl Tryd.func21 (by kernel_rfl) rfl #[.int .i64 a0] rfl (by (try simp only [mT,mC,mN]);first|done|rfl|(simp only [lD,lK];rfl)) ?_;(with_reducible refine (vernierref04_Row.calls a0 t251 t252 t253 t254 t255 _ A3.out).mono ?_);rintro e w8 ⟨rfl,hb⟩;refine ⟨_,rfl,?_⟩;have n0_:=A0.mk (wT (by repeat (first|(with_reducible first|exact HB.out|apply wA|apply wN|apply wD)|exact HB.out)) hb);clear HB;have HB:=n0_;clear n0_;(try clear hb);(try clear hb2);(try clear hk);(try clear hi))|((with_reducible refine gD (N:=5) rfl ?_);refine bE ?hg (N:=5) ?hd (cs:=#[.int .i64 0,.int .i64 0,.int .i64 0,.int .i64 0]) (t:=42) ?hr ?_;(case hd => rfl);(case hg => rfl);(case hr => first|(go_simp;done)|(go_simp;rfl));intro gb256 hg w9 hbox hb;have n0_:=A0.mk (wT (by repeat (first|(with_reducible first|exact HB.out|apply wA|apply wN|apply wD)|exact HB.out)) hb);have n1_:=A0.mk (hbox);have n2_:=A0.mk ((by rw [hg];exact (wZ (by repeat (first|(with_reducible first|exact HB.out|apply wA|apply wN|apply wD)|exact HB.out))) : w.heap.size ≤ gb256));have n3_:=A0.mk ((by rw [hg];exact (wZ (by repeat (first|(with_reducible first|exact HB.out|apply wA|apply wN|apply wD)|exact HB.out))) : w.heap.size ≤ gb256));clear HB;have HB:=n0_;have BK256:=n1_;have GW256:=n2_;have GE256:=n3_;clear n0_ n1_ n2_ n3_;clear hb hbox hg;have hcz10_0 : w9.cell? ⟨gb256,0,none⟩ = some (.int .i64 0):=(bC BK256.out 0).trans rfl;have hcz10_1 : w9.cell? ⟨gb256,1,none⟩ = some (.int .i64 0):=(bC BK256.out 1).trans rfl;have hcz10_2 : w9.cell? ⟨gb256,2,none⟩ = some (.int .i64 0):=(bC BK256.out 2).trans rfl;have hcz10_3 : w9.cell? ⟨gb256,3,none⟩ = some (.int .i64 0):=(bC BK256.out 3).trans rfl;have hfz10_0:=bF BK256.out 0;have hfz10_1:=bF BK256.out 1;have hfz10_2:=bF BK256.out 2;have hfz10_3:=bF BK256.out 3)|((with_reducible refine gC (f:=30) rfl ?_);refine goesL_ (some 24) rfl rfl Tryd.func30 (by kernel_rfl) rfl #[.int .i64 a0,.int .u64 a1,.int .u64 (IntKind.u64.wrap (wrap64 (2 * t254))),.int .u64 (IntKind.u64.wrap ((ji6) - 1))] rfl (by (try simp only [mT,mC,mN]);first|done|(simp only [hji6];rfl)|rfl|(simp only [lD,lK];rfl)) ?_;(with_reducible refine (vernierref04_Make.calls a0 a1 (IntKind.u64.wrap (wrap64 (2 * t254))) (IntKind.u64.wrap ((ji6) - 1)) t257 _ A7.out).mono ?_);rintro e w11 ⟨rfl,hb⟩;refine ⟨_,rfl,?_⟩;have n0_:=A0.mk (bB (g:=gb256) (o:=.cells #[.int .i64 t251,.int .i64 t252,.int .i64 t253,.int .i64 t254] 42 (0,0)) (by (with_reducible repeat (first|refine bN ?_ _|refine bD ?_|refine bA ?_ _));refine bP (cs:=#[.int .i64 t251,.int .i64 t252,.int .i64 t253,.int .i64 0]) ?_ 3 _ rfl;(with_reducible repeat (first|refine bN ?_ _|refine bD ?_|refine bA ?_ _));refine bP (cs:=#[.int .i64 t251,.int .i64 t252,.int .i64 0,.int .i64 0]) ?_ 2 _ rfl;(with_reducible repeat (first|refine bN ?_ _|refine bD ?_|refine bA ?_ _));refine bP (cs:=#[.int .i64 t251,.int .i64 0,.int .i64 0,.int .i64 0]) ?_ 1 _ rfl;(with_reducible repeat (first|refine bN ?_ _|refine bD ?_|refine bA ?_ _));refine bP (cs:=#[.int .i64 0,.int .i64 0,.int .i64 0,.int .i64 0]) ?_ 0 _ rfl;(with_reducible repeat (first|refine bN ?_ _|refine bD ?_|refine bA ?_ _));exact BK256.out) hb);have n1_:=A0.mk (wT (by repeat (first|(with_reducible first|exact HB.out|apply wA|apply wN|apply wD|refine wS ?_ GE256.out)|exact HB.out)) hb);clear BK256;clear HB;have BK256:=n0_;have HB:=n1_;clear n0_ n1_;(try clear hb);(try clear hb2);(try clear hk);(try clear hi)))
    go_ret
    exact ⟨by first|rfl|(simp [errW_none,errW_some] <;> rfl)|(simp only [← hji4,← hji6];first|rfl|(simp [errW_none,errW_some] <;> rfl))|(simp [*,errW_none,errW_some] <;> rfl),by repeat (first|(with_reducible first|exact HB.out|apply wA|apply wN|apply wD|refine wS ?_ GE256.out)|exact HB.out)⟩
  · rw [if_neg c5] at H
    exact absurd H (by simp)

/-! ### vernierref04_LeastNormal: function 53 -/
def vernierref04_LeastNormal.f (a0 : Int) (a1 : Int) : Option (Int):=(vernierref04_Make.f a0 a1 1 0).bind fun t258 => (some t258)
set_option maxHeartbeats 8000000 in
set_option maxRecDepth 100000 in
theorem vernierref04_LeastNormal.calls (a0 : Int) (a1 : Int) (r : Int) (w : World) (h : vernierref04_LeastNormal.f a0 a1 = some r) :
    Calls Tryd.prog 53 #[.int .i64 a0,.int .u64 a1] w fun e w' => e = .returned (.int .u64 r)∧Below w.heap.size w w':=by
  have HB:=A0.mk (Below.refl w.heap.size w)
  have H : ((vernierref04_Make.f a0 a1 1 0).bind fun t258 => (some t258)) = some r:=h
  clear h;replace H:=Option.bind_eq_some_iff.mp H;obtain ⟨t258,A30,H⟩:=H
  replace H : (some t258) = some r:=H
  have A3:=A0.mk A30;clear A30;obtain rfl:=Option.some.inj H
  go_enter Tryd.func53,Tryd.ntmps53
  go_wp2_with (first|((with_reducible refine gC (f:=30) rfl ?_);refine goesL_ (some 7) rfl rfl Tryd.func30 (by kernel_rfl) rfl #[.int .i64 a0,.int .u64 a1,.int .u64 1,.int .u64 0] rfl (by (try simp only [mT,mC,mN]);first|done|rfl|(simp only [lD,lK];rfl)) ?_;(with_reducible refine (vernierref04_Make.calls a0 a1 1 0 t258 _ A3.out).mono ?_);rintro e w4 ⟨rfl,hb⟩;refine ⟨_,rfl,?_⟩;have n0_:=A0.mk (wT (by repeat (first|(with_reducible first|exact HB.out|apply wA|apply wN|apply wD)|exact HB.out)) hb);clear HB;have HB:=n0_;clear n0_;(try clear hb);(try clear hb2);(try clear hk);(try clear hi)))
  go_ret
  exact ⟨by first|rfl|(simp [errW_none,errW_some] <;> rfl)|(simp [*,errW_none,errW_some] <;> rfl)|(simp [wrap64];done),by repeat (first|(with_reducible first|exact HB.out|apply wA|apply wN|apply wD)|exact HB.out)⟩

/-! ### vernierref04_Least: function 54 -/
def vernierref04_Least.f (a0 : Int) (a1 : Int) : Option (Int):=(vernierref04_Make.f a0 a1 0 1).bind fun t259 => (some t259)
set_option maxHeartbeats 8000000 in
set_option maxRecDepth 100000 in
theorem vernierref04_Least.calls (a0 : Int) (a1 : Int) (r : Int) (w : World) (h : vernierref04_Least.f a0 a1 = some r) :
    Calls Tryd.prog 54 #[.int .i64 a0,.int .u64 a1] w fun e w' => e = .returned (.int .u64 r)∧Below w.heap.size w w':=by
  have HB:=A0.mk (Below.refl w.heap.size w)
  have H : ((vernierref04_Make.f a0 a1 0 1).bind fun t259 => (some t259)) = some r:=h
  clear h;replace H:=Option.bind_eq_some_iff.mp H;obtain ⟨t259,A30,H⟩:=H
  replace H : (some t259) = some r:=H
  have A3:=A0.mk A30;clear A30;obtain rfl:=Option.some.inj H
  go_enter Tryd.func54,Tryd.ntmps54
  go_wp2_with (first|((with_reducible refine gC (f:=30) rfl ?_);refine goesL_ (some 7) rfl rfl Tryd.func30 (by kernel_rfl) rfl #[.int .i64 a0,.int .u64 a1,.int .u64 0,.int .u64 1] rfl (by (try simp only [mT,mC,mN]);first|done|rfl|(simp only [lD,lK];rfl)) ?_;(with_reducible refine (vernierref04_Make.calls a0 a1 0 1 t259 _ A3.out).mono ?_);rintro e w4 ⟨rfl,hb⟩;refine ⟨_,rfl,?_⟩;have n0_:=A0.mk (wT (by repeat (first|(with_reducible first|exact HB.out|apply wA|apply wN|apply wD)|exact HB.out)) hb);clear HB;have HB:=n0_;clear n0_;(try clear hb);(try clear hb2);(try clear hk);(try clear hi)))
  go_ret
  exact ⟨by first|rfl|(simp [errW_none,errW_some] <;> rfl)|(simp [*,errW_none,errW_some] <;> rfl)|(simp [wrap64];done),by repeat (first|(with_reducible first|exact HB.out|apply wA|apply wN|apply wD)|exact HB.out)⟩

end Go.Proofs.YtjdmbhdlogbopaaDoor.V
