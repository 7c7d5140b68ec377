/- Contracts of the program's functions, each: where the printed function answers, the call answers the same. Written by vprint.py, this session's own program over the kit's print.py; Lean checks it. No conditions beyond those that each states. -/
import Derived.Test.YtjdmbhdlogbopaaDoorVx0
import Derived.Test.YtjdmbhdlogbopaaDoorVx1
import Derived.Test.YtjdmbhdlogbopaaDoorVx3
import Derived.Test.YtjdmbhdlogbopaaDoorVx7
namespace Go.Proofs.YtjdmbhdlogbopaaDoor.V
open Go.RowKit Go.Proofs.YtjdmbhdlogbopaaDoorQ.PrintWords Go.Proofs.YtjdmbhdlogbopaaDoorQ.PrintLast Go.Proofs.YtjdmbhdlogbopaaDoorQ.PrintMore
open Bool renaming true → Y, false → Z
open List renaming setIfInBounds_toArray → lT, set_cons_zero → lZ, set_cons_succ → lS, map_toArray → mT, map_cons → mC, map_nil → mN, length_drop → lD, length_take → lK
open Act renaming put → aP
attribute [local go_sem] max2_int min2_int max_two min_two max_three min_three max_four min_four   -- for this text's walks alone
set_option linter.unusedVariables false
set_option linter.unusedSimpArgs false

/-! ### format_special_LeastNormal_1_none: function 118 -/
noncomputable def format_special_LeastNormal_1_none.f (a0 : Int) (a1 : Bool) : Option (Int × Int):=(format_Params.f a0).bind fun bt221 => (if bt221.2.2.2.2 = 0 then ((format_ones.f (wrap64 (bt221.1 - bt221.2.1))).bind fun t227 => ((format_LeastNormal_1.f bt221.1 bt221.2.1 bt221.2.2.1 bt221.2.2.2.1).bind fun t228 => ((format_none.f bt221.1 bt221.2.1 bt221.2.2.1 bt221.2.2.2.1).bind fun t229 => ((format_join.f bt221.1 bt221.2.1 bt221.2.2.1 bt221.2.2.2.1 a1 (IntKind.u64.wrap (t227 - t228)) t229).bind fun t230 => (some (t230,0)))))) else (some (0,bt221.2.2.2.2)))
def format_special_LeastNormal_1_none.T4 : Bool × List (List Nat × List Nat):=(true,[([],[]),([],[]),([],[]),([2],[2]),([],[]),([4],[4]),([3,5],[3,5]),([6],[6]),([],[]),([],[]),([8,9,7],[8,9]),([7,10],[7,10]),([],[]),([],[]),([12,13,10],[12,13]),([0,1,11,14,14],[0,1,11,14]),([15,15,0,1,2,3,4,5,6,7,8,9,10,11,12,13,14,15],[15]),([16,0,1,2,3,4,5,6,7,8,9,10,11,12,13,14,15,16],[])])
def format_special_LeastNormal_1_none.B4 : List Nat:=[0,0,0,4,0,16,60,124,0,0,1020,2044,0,0,14332,32767,65535,131071]
theorem format_special_LeastNormal_1_none.tab4 : rtab .any (opsOf Tryd.f55 4) = format_special_LeastNormal_1_none.T4:=by kernel_rfl
theorem format_special_LeastNormal_1_none.bits4 : waitsOk format_special_LeastNormal_1_none.T4.2 format_special_LeastNormal_1_none.B4 = true:=by kernel_rfl
set_option maxHeartbeats 8000000 in
set_option maxRecDepth 100000 in
theorem format_special_LeastNormal_1_none.calls (a0 : Int) (a1 : Bool) (r1 : Int) (r2 : Int) (w : World) (hG : A0 (GlobR w)) (h : format_special_LeastNormal_1_none.f a0 a1 = some (r1,r2)) :
    Calls Tryd.prog 55 #[.int .i64 a0,.bool a1,.func (.func 76) #[] #[],.func (.func 56) #[] #[]] w fun e w' => e = .returned (.tuple #[.int .u64 r1,.int .i64 r2])∧Below w.heap.size w w':=by
  have hu39:=Tryd.underlying39
  have HB:=A0.mk (Below.refl w.heap.size w)
  have H : ((format_Params.f a0).bind fun bt221 => (if bt221.2.2.2.2 = 0 then ((format_ones.f (wrap64 (bt221.1 - bt221.2.1))).bind fun t227 => ((format_LeastNormal_1.f bt221.1 bt221.2.1 bt221.2.2.1 bt221.2.2.2.1).bind fun t228 => ((format_none.f bt221.1 bt221.2.1 bt221.2.2.1 bt221.2.2.2.1).bind fun t229 => ((format_join.f bt221.1 bt221.2.1 bt221.2.2.1 bt221.2.2.2.1 a1 (IntKind.u64.wrap (t227 - t228)) t229).bind fun t230 => (some (t230,0)))))) else (some (0,bt221.2.2.2.2)))) = some (r1,r2):=h
  clear h;replace H:=Option.bind_eq_some_iff.mp H;obtain ⟨⟨t221,t222,t223,t224,t225⟩,A30,H⟩:=H
  replace H : (if t225 = 0 then ((format_ones.f (wrap64 (t221 - t222))).bind fun t227 => ((format_LeastNormal_1.f t221 t222 t223 t224).bind fun t228 => ((format_none.f t221 t222 t223 t224).bind fun t229 => ((format_join.f t221 t222 t223 t224 a1 (IntKind.u64.wrap (t227 - t228)) t229).bind fun t230 => (some (t230,0)))))) else (some (0,t225))) = some (r1,r2):=H
  have A3:=A0.mk A30;clear A30
  by_cases c4 : t225 = 0
  · rw [if_pos c4] at H
    have c4b0 : (t225 == 0) = true:=beq_iff_eq.mpr c4
    have c4b1 : (t225 != 0) = false:=bne_eq_false_iff_eq.mpr c4
    clear c4;replace H:=Option.bind_eq_some_iff.mp H;obtain ⟨t227,A50,H⟩:=H
    replace H : ((format_LeastNormal_1.f t221 t222 t223 t224).bind fun t228 => ((format_none.f t221 t222 t223 t224).bind fun t229 => ((format_join.f t221 t222 t223 t224 a1 (IntKind.u64.wrap (t227 - t228)) t229).bind fun t230 => (some (t230,0))))) = some (r1,r2):=H
    have A5:=A0.mk A50;clear A50;replace H:=Option.bind_eq_some_iff.mp H;obtain ⟨t228,A60,H⟩:=H
    replace H : ((format_none.f t221 t222 t223 t224).bind fun t229 => ((format_join.f t221 t222 t223 t224 a1 (IntKind.u64.wrap (t227 - t228)) t229).bind fun t230 => (some (t230,0)))) = some (r1,r2):=H
    have A6:=A0.mk A60;clear A60;replace H:=Option.bind_eq_some_iff.mp H;obtain ⟨t229,A70,H⟩:=H
    replace H : ((format_join.f t221 t222 t223 t224 a1 (IntKind.u64.wrap (t227 - t228)) t229).bind fun t230 => (some (t230,0))) = some (r1,r2):=H
    have A7:=A0.mk A70;clear A70;replace H:=Option.bind_eq_some_iff.mp H;obtain ⟨t230,A80,H⟩:=H
    replace H : (some (t230,0)) = some (r1,r2):=H
    have A8:=A0.mk A80;clear A80
    simp only [Option.some.injEq,Prod.mk.injEq] at H
    obtain ⟨rfl,rfl⟩:=H
    go_enter Tryd.func55,Tryd.ntmps55
    try go_wp2_with (first|((with_reducible refine gC (f:=20) rfl ?_);refine goesL_ (some 14) rfl rfl Tryd.func20 (by kernel_rfl) rfl #[.int .i64 a0] rfl (by (try simp only [mT,mC,mN]);first|done|rfl|(simp only [lD,lK];rfl)) ?_;(with_reducible refine (format_Params.calls a0 t221 t222 t223 t224 t225 _ ?hG A3.out).mono ?_);(case hG => exact GlobR.below hG.out (by repeat (first|(with_reducible first|exact HB.out|apply wA|apply wN|apply wD|refine wS ?_ GE226.out)|exact HB.out)));rintro e w9 ⟨rfl,hb⟩;refine ⟨_,rfl,?_⟩;have n0_:=A0.mk (wT (by repeat (first|(with_reducible first|exact HB.out|apply wA|apply wN|apply wD)|exact HB.out)) hb);clear HB;have HB:=n0_;clear n0_;(try clear hb);(try clear hb2);(try clear hk);(try clear hi))|((with_reducible refine gD (N:=10) rfl ?_);refine bE ?hg (N:=10) ?hd (cs:=#[.int .i64 0,.int .i64 0,.int .i64 0,.int .i64 0]) (t:=39) ?hr ?_;(case hd => rfl);(case hg => rfl);(case hr => first|(go_simp;done)|(go_simp;rfl));intro gb226 hg w10 hbox hb;have n0_:=A0.mk (wT (by repeat (first|(with_reducible first|exact HB.out|apply wA|apply wN|apply wD)|exact HB.out)) hb);have n1_:=A0.mk (hbox);have n2_:=A0.mk ((by rw [hg];exact (wZ (by repeat (first|(with_reducible first|exact HB.out|apply wA|apply wN|apply wD)|exact HB.out))) : w.heap.size ≤ gb226));have n3_:=A0.mk ((by rw [hg];exact (wZ (by repeat (first|(with_reducible first|exact HB.out|apply wA|apply wN|apply wD)|exact HB.out))) : w.heap.size ≤ gb226));clear HB;have HB:=n0_;have BK226:=n1_;have GW226:=n2_;have GE226:=n3_;clear n0_ n1_ n2_ n3_;clear hb hbox hg;have hcz11_0 : w10.cell? ⟨gb226,0,none⟩ = some (.int .i64 0):=(bC BK226.out 0).trans rfl;have hcz11_1 : w10.cell? ⟨gb226,1,none⟩ = some (.int .i64 0):=(bC BK226.out 1).trans rfl;have hcz11_2 : w10.cell? ⟨gb226,2,none⟩ = some (.int .i64 0):=(bC BK226.out 2).trans rfl;have hcz11_3 : w10.cell? ⟨gb226,3,none⟩ = some (.int .i64 0):=(bC BK226.out 3).trans rfl;have hfz11_0:=bF BK226.out 0;have hfz11_1:=bF BK226.out 1;have hfz11_2:=bF BK226.out 2;have hfz11_3:=bF BK226.out 3))
    have n0_ : A0 (((((w10.setCell ⟨gb226,0,none⟩ (.int .i64 t221)).setCell ⟨gb226,1,none⟩ (.int .i64 t222)).setCell ⟨gb226,2,none⟩ (.int .i64 t223)).setCell ⟨gb226,3,none⟩ (.int .i64 t224)).heap[gb226]? = some (.cells #[.int .i64 t221,.int .i64 t222,.int .i64 t223,.int .i64 t224] 39 (0,0))):=⟨by (with_reducible repeat (first|refine bN ?_ _|refine bD ?_|refine bA ?_ _));refine bP (cs:=#[.int .i64 t221,.int .i64 t222,.int .i64 t223,.int .i64 0]) ?_ 3 _ rfl;(with_reducible repeat (first|refine bN ?_ _|refine bD ?_|refine bA ?_ _));refine bP (cs:=#[.int .i64 t221,.int .i64 t222,.int .i64 0,.int .i64 0]) ?_ 2 _ rfl;(with_reducible repeat (first|refine bN ?_ _|refine bD ?_|refine bA ?_ _));refine bP (cs:=#[.int .i64 t221,.int .i64 0,.int .i64 0,.int .i64 0]) ?_ 1 _ rfl;(with_reducible repeat (first|refine bN ?_ _|refine bD ?_|refine bA ?_ _));refine bP (cs:=#[.int .i64 0,.int .i64 0,.int .i64 0,.int .i64 0]) ?_ 0 _ rfl;(with_reducible repeat (first|refine bN ?_ _|refine bD ?_|refine bA ?_ _));exact BK226.out⟩
    have n1_ : A0 (Below w.heap.size w ((((w10.setCell ⟨gb226,0,none⟩ (.int .i64 t221)).setCell ⟨gb226,1,none⟩ (.int .i64 t222)).setCell ⟨gb226,2,none⟩ (.int .i64 t223)).setCell ⟨gb226,3,none⟩ (.int .i64 t224))):=⟨by repeat (first|(with_reducible first|exact HB.out|apply wA|apply wN|apply wD|refine wS ?_ GE226.out)|exact HB.out)⟩
    (try clear BK226);(try clear HB)
    generalize ((((w10.setCell ⟨gb226,0,none⟩ (.int .i64 t221)).setCell ⟨gb226,1,none⟩ (.int .i64 t222)).setCell ⟨gb226,2,none⟩ (.int .i64 t223)).setCell ⟨gb226,3,none⟩ (.int .i64 t224)) = w12 at n0_ n1_ ⊢
    have BK226:=n0_;have HB:=n1_;clear n0_ n1_;have n0_:=A0.mk (bD BK226.out);have n1_:=A0.mk (wD HB.out);clear BK226;clear HB;have BK226:=n0_;have HB:=n1_;clear n0_ n1_
    refine start_ (n:=18) (S:=fun w' => w'.cell? ⟨gb226,0,none⟩ = some (.int .i64 t221)∧w'.cell? ⟨gb226,1,none⟩ = some (.int .i64 t222)∧w'.cell? ⟨gb226,2,none⟩ = some (.int .i64 t223)∧w'.cell? ⟨gb226,3,none⟩ = some (.int .i64 t224)) (ds:=[]) #[Z,Z,Z,Z,Z,Z,Z,Z,Z,Z,Z,Z,Z,Z,Z,Z,Z,Z] (by kernel_rfl) rfl rfl ⟨(bC BK226.out 0).trans rfl,(bC BK226.out 1).trans rfl,(bC BK226.out 2).trans rfl,(bC BK226.out 3).trans rfl⟩ (fun hHeld => ?_);refine with_tabW format_special_LeastNormal_1_none.tab4 format_special_LeastNormal_1_none.bits4 (fun HT_ HW_ => ?_)
    generalize w12.drew = w13 at BK226 HB hHeld ⊢
    refine pure_ (i:=1) (N:=some 21) (v:=?_) (a':=?_) #[Z,Y,Z,Z,Z,Z,Z,Z,Z,Z,Z,Z,Z,Z,Z,Z,Z,Z] rfl rfl (any_of HT_.out (by kernel_rfl)) (fun _ _ _ h => h) (Or.inl ⟨by rfl,?_⟩) ?_ ?_
    rotate_left;(intro w';go_simp;with_reducible rfl);rotate_left;(simp only [aP,lT,lZ,lS,i64_w,i32_w];rfl)
    refine pure_ (i:=2) (N:=some 22) (v:=?_) (a':=?_) #[Z,Y,Y,Z,Z,Z,Z,Z,Z,Z,Z,Z,Z,Z,Z,Z,Z,Z] rfl rfl (any_of HT_.out (by kernel_rfl)) (fun _ _ _ h => h) (Or.inl ⟨by rfl,?_⟩) ?_ ?_
    rotate_left;(intro w';go_simp;with_reducible rfl);rotate_left;(simp only [aP,lT,lZ,lS,i64_w,i32_w];rfl)
    refine pure_ (i:=4) (N:=some 24) (v:=?_) (a':=?_) #[Z,Y,Y,Z,Y,Z,Z,Z,Z,Z,Z,Z,Z,Z,Z,Z,Z,Z] rfl rfl (any_of HT_.out (by kernel_rfl)) (fun _ _ _ h => h) (Or.inl ⟨by rfl,?_⟩) ?_ ?_
    rotate_left;(intro w';go_simp;with_reducible rfl);rotate_left;(simp only [aP,lT,lZ,lS,i64_w,i32_w];rfl)
    refine pure_ (i:=8) (N:=some 28) (v:=?_) (a':=?_) #[Z,Y,Y,Z,Y,Z,Z,Z,Y,Z,Z,Z,Z,Z,Z,Z,Z,Z] rfl rfl (any_of HT_.out (by kernel_rfl)) (fun _ _ _ h => h) (Or.inl ⟨by rfl,?_⟩) ?_ ?_
    rotate_left;(intro w';go_simp;with_reducible rfl);rotate_left;(simp only [aP,lT,lZ,lS,i64_w,i32_w];rfl)
    refine pure_ (i:=12) (N:=some 32) (v:=?_) (a':=?_) #[Z,Y,Y,Z,Y,Z,Z,Z,Y,Z,Z,Z,Y,Z,Z,Z,Z,Z] rfl rfl (any_of HT_.out (by kernel_rfl)) (fun _ _ _ h => h) (Or.inl ⟨by rfl,?_⟩) ?_ ?_
    rotate_left;(intro w';go_simp;with_reducible rfl);rotate_left;(simp only [aP,lT,lZ,lS,i64_w,i32_w];rfl)
    refine take_ (i:=0) (N:=some 20) (v:=?_) (a':=?_) #[Y,Y,Y,Z,Y,Z,Z,Z,Y,Z,Z,Z,Y,Z,Z,Z,Z,Z] rfl rfl (take_ofW HT_.out HW_.out (by kernel_rfl)) (fun _ _ _ h => h) (Or.inl ⟨by rfl,?_⟩) hHeld ?_ ?_
    rotate_left;(rintro w' ⟨s0,s1,s2,s3⟩;go_simp;with_reducible rfl);rotate_left;(simp only [aP,lT,lZ,lS,i64_w,i32_w];rfl)
    refine take_ (i:=3) (N:=some 23) (v:=?_) (a':=?_) #[Y,Y,Y,Y,Y,Z,Z,Z,Y,Z,Z,Z,Y,Z,Z,Z,Z,Z] rfl rfl (take_ofW HT_.out HW_.out (by kernel_rfl)) (fun _ _ _ h => h) (Or.inl ⟨by rfl,?_⟩) hHeld ?_ ?_
    rotate_left;(rintro w' ⟨s0,s1,s2,s3⟩;go_simp;with_reducible rfl);rotate_left;(simp only [aP,lT,lZ,lS,i64_w,i32_w];rfl)
    refine take_ (i:=5) (N:=some 25) (v:=?_) (a':=?_) #[Y,Y,Y,Y,Y,Y,Z,Z,Y,Z,Z,Z,Y,Z,Z,Z,Z,Z] rfl rfl (take_ofW HT_.out HW_.out (by kernel_rfl)) (fun _ _ _ h => h) (Or.inl ⟨by rfl,?_⟩) hHeld ?_ ?_
    rotate_left;(rintro w' ⟨s0,s1,s2,s3⟩;go_simp;with_reducible rfl);rotate_left;(simp only [aP,lT,lZ,lS,i64_w,i32_w];rfl)
    refine pure_ (i:=6) (N:=some 26) (v:=?_) (a':=?_) #[Y,Y,Y,Y,Y,Y,Y,Z,Y,Z,Z,Z,Y,Z,Z,Z,Z,Z] rfl rfl (any_of HT_.out (by kernel_rfl)) (fun _ _ _ h => h) (Or.inl ⟨by rfl,?_⟩) ?_ ?_
    rotate_left;(intro w';go_simp;with_reducible rfl);rotate_left;(simp only [aP,lT,lZ,lS,i64_w,i32_w];rfl)
    refine take_ (i:=9) (N:=some 29) (v:=?_) (a':=?_) #[Y,Y,Y,Y,Y,Y,Y,Z,Y,Y,Z,Z,Y,Z,Z,Z,Z,Z] rfl rfl (take_ofW HT_.out HW_.out (by kernel_rfl)) (fun _ _ _ h => h) (Or.inl ⟨by rfl,?_⟩) hHeld ?_ ?_
    rotate_left;(rintro w' ⟨s0,s1,s2,s3⟩;go_simp;with_reducible rfl);rotate_left;(simp only [aP,lT,lZ,lS,i64_w,i32_w];rfl)
    refine take_ (i:=13) (N:=some 33) (v:=?_) (a':=?_) #[Y,Y,Y,Y,Y,Y,Y,Z,Y,Y,Z,Z,Y,Y,Z,Z,Z,Z] rfl rfl (take_ofW HT_.out HW_.out (by kernel_rfl)) (fun _ _ _ h => h) (Or.inl ⟨by rfl,?_⟩) hHeld ?_ ?_
    rotate_left;(rintro w' ⟨s0,s1,s2,s3⟩;go_simp;with_reducible rfl);rotate_left;(simp only [aP,lT,lZ,lS,i64_w,i32_w];rfl)
    refine one_ (i:=7) (N:=some 27) #[Y,Y,Y,Y,Y,Y,Y,Y,Y,Y,Z,Z,Y,Y,Z,Z,Z,Z] rfl rfl (one_of HT_.out (by kernel_rfl)) (by decide) (fun K hK => ?_)
    refine goes_ Tryd.func47 (by kernel_rfl) rfl #[.int .i64 (wrap64 (t221 - t222))] (by rfl) rfl rfl (by (try simp only [mT,mC,mN]);first|done|rfl|(simp only [lD,lK];rfl)) ?_
    with_reducible refine (format_ones.calls (wrap64 (t221 - t222)) t227 _ A5.out).mono ?_
    rintro e w' ⟨rfl,⟨nd,rfl⟩⟩;refine ⟨_,rfl,?_⟩
    refine hK.out _ _ ⟨(bC BK226.out 0).trans rfl,(bC BK226.out 1).trans rfl,(bC BK226.out 2).trans rfl,(bC BK226.out 3).trans rfl⟩ (fun hHeld => ?_)
    clear hK K
    refine norm_ (a':=?_) ?_ ?_
    rotate_left;(show Act.put _ (some 27) _ = _;simp only [aP,lT,lZ,lS,i64_w,i32_w];rfl)
    refine one_ (i:=10) (N:=some 30) #[Y,Y,Y,Y,Y,Y,Y,Y,Y,Y,Y,Z,Y,Y,Z,Z,Z,Z] rfl rfl (one_of HT_.out (by kernel_rfl)) (by decide) (fun K hK => ?_)
    refine goesT_ (by rfl) Tryd.func76 (by kernel_rfl) rfl #[.agg #[.int .i64 t221,.int .i64 t222,.int .i64 t223,.int .i64 t224]] (by rfl) rfl rfl (by (try simp only [mT,mC,mN]);first|done|rfl|(simp only [lD,lK];rfl)) ?_
    with_reducible refine (format_LeastNormal_1.calls t221 t222 t223 t224 t228 _ A6.out).mono ?_
    rintro e w14 ⟨rfl,hb⟩;refine ⟨_,rfl,?_⟩;have n0_:=A0.mk (bB (g:=gb226) (o:=.cells #[.int .i64 t221,.int .i64 t222,.int .i64 t223,.int .i64 t224] 39 (0,0)) (by (with_reducible repeat (first|refine bN ?_ _|refine bD ?_|refine bA ?_ _));exact BK226.out) hb);have n1_:=A0.mk (wT (by repeat (first|(with_reducible first|exact HB.out|apply wA|apply wN|apply wD|refine wS ?_ GE226.out)|exact HB.out)) hb);clear BK226;clear HB;have BK226:=n0_;have HB:=n1_;clear n0_ n1_;(try clear hb);(try clear hb2);(try clear hk);(try clear hi)
    refine hK.out _ _ ⟨(bC BK226.out 0).trans rfl,(bC BK226.out 1).trans rfl,(bC BK226.out 2).trans rfl,(bC BK226.out 3).trans rfl⟩ (fun hHeld => ?_)
    clear hK K
    refine norm_ (a':=?_) ?_ ?_
    rotate_left;(show Act.put _ (some 30) _ = _;simp only [aP,lT,lZ,lS,i64_w,i32_w];rfl)
    refine pure_ (i:=11) (N:=some 31) (v:=?_) (a':=?_) #[Y,Y,Y,Y,Y,Y,Y,Y,Y,Y,Y,Y,Y,Y,Z,Z,Z,Z] rfl rfl (any_of HT_.out (by kernel_rfl)) (fun _ _ _ h => h) (Or.inl ⟨by rfl,?_⟩) ?_ ?_
    rotate_left;(intro w';go_simp;with_reducible rfl);rotate_left;(simp only [aP,lT,lZ,lS,i64_w,i32_w];rfl)
    refine one_ (i:=14) (N:=some 34) #[Y,Y,Y,Y,Y,Y,Y,Y,Y,Y,Y,Y,Y,Y,Y,Z,Z,Z] rfl rfl (one_of HT_.out (by kernel_rfl)) (by decide) (fun K hK => ?_)
    refine goesT_ (by rfl) Tryd.func56 (by kernel_rfl) rfl #[.agg #[.int .i64 t221,.int .i64 t222,.int .i64 t223,.int .i64 t224]] (by rfl) rfl rfl (by (try simp only [mT,mC,mN]);first|done|rfl|(simp only [lD,lK];rfl)) ?_
    with_reducible refine (format_none.calls t221 t222 t223 t224 t229 _ A7.out).mono ?_
    rintro e w15 ⟨rfl,hb⟩;refine ⟨_,rfl,?_⟩;have n0_:=A0.mk (bB (g:=gb226) (o:=.cells #[.int .i64 t221,.int .i64 t222,.int .i64 t223,.int .i64 t224] 39 (0,0)) (by (with_reducible repeat (first|refine bN ?_ _|refine bD ?_|refine bA ?_ _));exact BK226.out) hb);have n1_:=A0.mk (wT (by repeat (first|(with_reducible first|exact HB.out|apply wA|apply wN|apply wD|refine wS ?_ GE226.out)|exact HB.out)) hb);clear BK226;clear HB;have BK226:=n0_;have HB:=n1_;clear n0_ n1_;(try clear hb);(try clear hb2);(try clear hk);(try clear hi)
    refine hK.out _ _ ⟨(bC BK226.out 0).trans rfl,(bC BK226.out 1).trans rfl,(bC BK226.out 2).trans rfl,(bC BK226.out 3).trans rfl⟩ (fun hHeld => ?_)
    clear hK K
    refine norm_ (a':=?_) ?_ ?_
    rotate_left;(show Act.put _ (some 34) _ = _;simp only [aP,lT,lZ,lS,i64_w,i32_w];rfl)
    refine one_ (i:=15) (N:=some 35) #[Y,Y,Y,Y,Y,Y,Y,Y,Y,Y,Y,Y,Y,Y,Y,Y,Z,Z] rfl rfl (one_of HT_.out (by kernel_rfl)) (by decide) (fun K hK => ?_)
    refine goes_ Tryd.func59 (by kernel_rfl) rfl #[.agg #[.int .i64 t221,.int .i64 t222,.int .i64 t223,.int .i64 t224],.bool a1,.int .u64 (IntKind.u64.wrap (t227 - t228)),.int .u64 t229] (by rfl) rfl rfl (by (try simp only [mT,mC,mN]);first|done|rfl|(simp only [lD,lK];rfl)) ?_
    with_reducible refine (format_join.calls t221 t222 t223 t224 a1 (IntKind.u64.wrap (t227 - t228)) t229 t230 _ A8.out).mono ?_
    rintro e w16 ⟨rfl,hb⟩;refine ⟨_,rfl,?_⟩;have n0_:=A0.mk (bB (g:=gb226) (o:=.cells #[.int .i64 t221,.int .i64 t222,.int .i64 t223,.int .i64 t224] 39 (0,0)) (by (with_reducible repeat (first|refine bN ?_ _|refine bD ?_|refine bA ?_ _));exact BK226.out) hb);have n1_:=A0.mk (wT (by repeat (first|(with_reducible first|exact HB.out|apply wA|apply wN|apply wD|refine wS ?_ GE226.out)|exact HB.out)) hb);clear BK226;clear HB;have BK226:=n0_;have HB:=n1_;clear n0_ n1_;(try clear hb);(try clear hb2);(try clear hk);(try clear hi)
    refine hK.out _ _ ⟨(bC BK226.out 0).trans rfl,(bC BK226.out 1).trans rfl,(bC BK226.out 2).trans rfl,(bC BK226.out 3).trans rfl⟩ (fun hHeld => ?_)
    clear hK K
    refine norm_ (a':=?_) ?_ ?_
    rotate_left;(show Act.put _ (some 35) _ = _;simp only [aP,lT,lZ,lS,i64_w,i32_w];rfl)
    refine pure_ (i:=16) (N:=some 8) (v:=?_) (a':=?_) #[Y,Y,Y,Y,Y,Y,Y,Y,Y,Y,Y,Y,Y,Y,Y,Y,Y,Z] rfl rfl (any_of HT_.out (by kernel_rfl)) (fun _ _ _ h => h) (Or.inl ⟨by rfl,?_⟩) ?_ ?_
    rotate_left;(intro w';go_simp;with_reducible rfl);rotate_left;(simp only [aP,lT,lZ,lS,i64_w,i32_w];rfl)
    refine pure_ (i:=17) (N:=some 9) (v:=?_) (a':=?_) #[Y,Y,Y,Y,Y,Y,Y,Y,Y,Y,Y,Y,Y,Y,Y,Y,Y,Y] rfl rfl (any_of HT_.out (by kernel_rfl)) (fun _ _ _ h => h) (Or.inl ⟨by rfl,?_⟩) ?_ ?_
    rotate_left;(intro w';go_simp;with_reducible rfl);rotate_left;(simp only [aP,lT,lZ,lS,i64_w,i32_w];rfl)
    refine done_ (done_of HT_.out (by kernel_rfl)) ?_
    try go_wp2
    go_ret2
    exact ⟨by first|rfl|(simp [errW_none,errW_some] <;> rfl)|(simp [*,errW_none,errW_some] <;> rfl)|(simp [wrap64];done),by repeat (first|(with_reducible first|exact HB.out|apply wA|apply wN|apply wD|refine wS ?_ GE226.out)|exact HB.out)⟩
  · rw [if_neg c4] at H
    have c4b0 : (t225 == 0) = false:=beq_eq_false_iff_ne.mpr c4
    have c4b1 : (t225 != 0) = true:=bne_iff_ne.mpr c4
    simp only [Option.some.injEq,Prod.mk.injEq] at H
    obtain ⟨rfl,rfl⟩:=H
    go_enter Tryd.func55,Tryd.ntmps55
    go_wp2_with (first|((with_reducible refine gC (f:=20) rfl ?_);refine goesL_ (some 14) rfl rfl Tryd.func20 (by kernel_rfl) rfl #[.int .i64 a0] rfl (by (try simp only [mT,mC,mN]);first|done|rfl|(simp only [lD,lK];rfl)) ?_;(with_reducible refine (format_Params.calls a0 t221 t222 t223 t224 t225 _ ?hG A3.out).mono ?_);(case hG => exact GlobR.below hG.out (by repeat (first|(with_reducible first|exact HB.out|apply wA|apply wN|apply wD|refine wS ?_ GE226.out)|exact HB.out)));rintro e w17 ⟨rfl,hb⟩;refine ⟨_,rfl,?_⟩;have n0_:=A0.mk (wT (by repeat (first|(with_reducible first|exact HB.out|apply wA|apply wN|apply wD)|exact HB.out)) hb);clear HB;have HB:=n0_;clear n0_;(try clear hb);(try clear hb2);(try clear hk);(try clear hi))|((with_reducible refine gD (N:=10) rfl ?_);refine bE ?hg (N:=10) ?hd (cs:=#[.int .i64 0,.int .i64 0,.int .i64 0,.int .i64 0]) (t:=39) ?hr ?_;(case hd => rfl);(case hg => rfl);(case hr => first|(go_simp;done)|(go_simp;rfl));intro gb226 hg w18 hbox hb;have n0_:=A0.mk (wT (by repeat (first|(with_reducible first|exact HB.out|apply wA|apply wN|apply wD)|exact HB.out)) hb);have n1_:=A0.mk (hbox);have n2_:=A0.mk ((by rw [hg];exact (wZ (by repeat (first|(with_reducible first|exact HB.out|apply wA|apply wN|apply wD)|exact HB.out))) : w.heap.size ≤ gb226));have n3_:=A0.mk ((by rw [hg];exact (wZ (by repeat (first|(with_reducible first|exact HB.out|apply wA|apply wN|apply wD)|exact HB.out))) : w.heap.size ≤ gb226));clear HB;have HB:=n0_;have BK226:=n1_;have GW226:=n2_;have GE226:=n3_;clear n0_ n1_ n2_ n3_;clear hb hbox hg;have hcz19_0 : w18.cell? ⟨gb226,0,none⟩ = some (.int .i64 0):=(bC BK226.out 0).trans rfl;have hcz19_1 : w18.cell? ⟨gb226,1,none⟩ = some (.int .i64 0):=(bC BK226.out 1).trans rfl;have hcz19_2 : w18.cell? ⟨gb226,2,none⟩ = some (.int .i64 0):=(bC BK226.out 2).trans rfl;have hcz19_3 : w18.cell? ⟨gb226,3,none⟩ = some (.int .i64 0):=(bC BK226.out 3).trans rfl;have hfz19_0:=bF BK226.out 0;have hfz19_1:=bF BK226.out 1;have hfz19_2:=bF BK226.out 2;have hfz19_3:=bF BK226.out 3))
    go_ret2
    exact ⟨by first|rfl|(simp [errW_none,errW_some] <;> rfl)|(simp [*,errW_none,errW_some] <;> rfl)|(simp [wrap64];done),by repeat (first|(with_reducible first|exact HB.out|apply wA|apply wN|apply wD|refine wS ?_ GE226.out)|exact HB.out)⟩

/-! ### format_LeastNormal: function 50 -/
noncomputable def format_LeastNormal.f (a0 : Int) (a1 : Bool) : Option (Int × Int):=(format_special_LeastNormal_1_none.f a0 a1).bind fun bt231 => (some (bt231.1,bt231.2))
set_option maxHeartbeats 8000000 in
set_option maxRecDepth 100000 in
theorem format_LeastNormal.calls (a0 : Int) (a1 : Bool) (r1 : Int) (r2 : Int) (w : World) (hG : A0 (GlobR w)) (h : format_LeastNormal.f a0 a1 = some (r1,r2)) :
    Calls Tryd.prog 50 #[.int .i64 a0,.bool a1] w fun e w' => e = .returned (.tuple #[.int .u64 r1,.int .i64 r2])∧Below w.heap.size w w':=by
  have HB:=A0.mk (Below.refl w.heap.size w)
  have H : ((format_special_LeastNormal_1_none.f a0 a1).bind fun bt231 => (some (bt231.1,bt231.2))) = some (r1,r2):=h
  clear h;replace H:=Option.bind_eq_some_iff.mp H;obtain ⟨⟨t231,t232⟩,A30,H⟩:=H
  replace H : (some (t231,t232)) = some (r1,r2):=H
  have A3:=A0.mk A30;clear A30
  simp only [Option.some.injEq,Prod.mk.injEq] at H
  obtain ⟨rfl,rfl⟩:=H
  go_enter Tryd.func50,Tryd.ntmps50
  go_wp2_with (first|((with_reducible refine gC (f:=55) rfl ?_);refine goesL_ (some 8) rfl rfl Tryd.func55 (by kernel_rfl) rfl #[.int .i64 a0,.bool a1,.func (.func 76) #[] #[],.func (.func 56) #[] #[]] rfl (by (try simp only [mT,mC,mN]);first|done|rfl|(simp only [lD,lK];rfl)) ?_;(with_reducible refine (format_special_LeastNormal_1_none.calls a0 a1 t231 t232 _ ?hG A3.out).mono ?_);(case hG => exact GlobR.below hG.out (by repeat (first|(with_reducible first|exact HB.out|apply wA|apply wN|apply wD)|exact HB.out)));rintro e w4 ⟨rfl,hb⟩;refine ⟨_,rfl,?_⟩;have n0_:=A0.mk (wT (by repeat (first|(with_reducible first|exact HB.out|apply wA|apply wN|apply wD)|exact HB.out)) hb);clear HB;have HB:=n0_;clear n0_;(try clear hb);(try clear hb2);(try clear hk);(try clear hi)))
  go_ret2
  exact ⟨by first|rfl|(simp [errW_none,errW_some] <;> rfl)|(simp [*,errW_none,errW_some] <;> rfl)|(simp [wrap64];done),by repeat (first|(with_reducible first|exact HB.out|apply wA|apply wN|apply wD)|exact HB.out)⟩

end Go.Proofs.YtjdmbhdlogbopaaDoor.V
