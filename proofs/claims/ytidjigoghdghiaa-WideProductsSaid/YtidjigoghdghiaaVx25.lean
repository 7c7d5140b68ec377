/- Contracts of the program's functions, each: where the printed function answers, the call answers the same. Written by vprint.py, this session's own program over the kit's print.py; Lean checks it. No conditions beyond those that each states. -/
import Derived.Test.YtidjigoghdghiaaVx0
import Derived.Test.YtidjigoghdghiaaVx24
namespace Go.Proofs.Ytidjigoghdghiaa.V
open Go.RowKit Go.Proofs.YtidjigoghdghiaaQ.PrintWords Go.Proofs.YtidjigoghdghiaaQ.PrintLast Go.Proofs.YtidjigoghdghiaaQ.PrintMore
open Bool renaming true → Y, false → Z
open List renaming setIfInBounds_toArray → lT, set_cons_zero → lZ, set_cons_succ → lS, map_toArray → mT, map_cons → mC, map_nil → mN, length_drop → lD, length_take → lK
open Act renaming put → aP
attribute [local go_sem] max2_int min2_int max_two min_two max_three min_three max_four min_four   -- for this text's walks alone
set_option linter.unusedVariables false
set_option linter.unusedSimpArgs false

/-! ### wide_Div: function 31 -/
noncomputable def wide_Div.f (k : Nat) (a0_0 : Int) (a0_1 : Int) (a1 : Int) : Option (Int × Int × Int × Int):=if a1 = 0 then (some (0,0,0,10)) else ((bits_Div64.f k (Int.tmod a0_0 a1) a0_1 a1).bind fun bt381 => (some (IntKind.u64.wrap (Int.tdiv a0_0 a1),bt381.1,bt381.2,0)))
theorem wide_Div.mono : ∀ a0 a1 a2 k,LeO (wide_Div.f k a0 a1 a2) (wide_Div.f (k + 1) a0 a1 a2):=by
  intro a0 a1 a2 k
  unfold wide_Div.f
  repeat' first
      | (with_reducible exact bits_Div64.mono _ _ _ _)
      | (with_reducible exact LeO.refl _)
      | (with_reducible exact LeO.none _)
      | (with_reducible refine LeO.ite ?_ ?_)
      | (with_reducible refine LeO.bind ?_ (fun _ => ?_))
      | exact bits_Div64.mono _ _ _ _
      | exact LeO.none _
      | refine LeO.ite ?_ ?_
      | refine LeO.bind ?_ (fun _ => ?_)
def wide_Div.T3 : Bool × List (List Nat × List Nat):=(true,[([],[]),([0],[0]),([],[]),([1,2],[1,2]),([],[]),([4],[4]),([],[]),([5,6],[5,6]),([0,1,2,3],[]),([8,3,0,1,2,3],[3,8]),([7,9,0,1,2,3,4,5,6,7,8,9],[7])])
def wide_Div.B3 : List Nat:=[0,1,0,7,0,16,0,112,15,271,1023]
theorem wide_Div.tab3 : rtab .any (opsOf Try.f31 3) = wide_Div.T3:=by kernel_rfl
theorem wide_Div.bits3 : waitsOk wide_Div.T3.2 wide_Div.B3 = true:=by kernel_rfl
set_option maxHeartbeats 8000000 in
set_option maxRecDepth 100000 in
theorem wide_Div.calls (k : Nat) (a0_0 : Int) (a0_1 : Int) (a1 : Int) (r1 : Int) (r2 : Int) (r3 : Int) (r4 : Int) (w : World) (h : wide_Div.f k a0_0 a0_1 a1 = some (r1,r2,r3,r4)) :
    Calls Try.prog 31 #[.agg #[.int .u64 a0_0,.int .u64 a0_1],.int .u64 a1] w fun e w' => e = .returned (.tuple #[.agg #[.int .u64 r1,.int .u64 r2],.int .u64 r3,.int .i64 r4])∧Below w.heap.size w w':=by
  have hu24:=Try.underlying24
  have HB:=A0.mk (Below.refl w.heap.size w)
  have H : (if a1 = 0 then (some (0,0,0,10)) else ((bits_Div64.f k (Int.tmod a0_0 a1) a0_1 a1).bind fun bt381 => (some (IntKind.u64.wrap (Int.tdiv a0_0 a1),bt381.1,bt381.2,0)))) = some (r1,r2,r3,r4):=h
  clear h
  by_cases c3 : a1 = 0
  · rw [if_pos c3] at H
    have c3b0 : (a1 == 0) = true:=beq_iff_eq.mpr c3
    have c3b1 : (a1 != 0) = false:=bne_eq_false_iff_eq.mpr c3
    clear c3
    simp only [Option.some.injEq,Prod.mk.injEq] at H
    obtain ⟨rfl,rfl,rfl,rfl⟩:=H
    go_enter Try.func31,Try.ntmps31
    go_wp2_with (first|((with_reducible refine gD (N:=2) rfl ?_);refine bE ?hg (N:=2) ?hd (cs:=#[.int .u64 a0_0,.int .u64 a0_1]) (t:=24) ?hr ?_;(case hd => rfl);(case hg => rfl);(case hr => first|(go_simp;done)|(go_simp;rfl));intro gb379 hg w4 hbox hb;have n0_:=A0.mk (wT (by repeat (first|(with_reducible first|exact HB.out|apply wA|apply wN|apply wD)|exact HB.out)) hb);have n1_:=A0.mk (hbox);have n2_:=A0.mk ((by rw [hg];exact (wZ (by repeat (first|(with_reducible first|exact HB.out|apply wA|apply wN|apply wD)|exact HB.out))) : w.heap.size ≤ gb379));have n3_:=A0.mk ((by rw [hg];exact (wZ (by repeat (first|(with_reducible first|exact HB.out|apply wA|apply wN|apply wD)|exact HB.out))) : w.heap.size ≤ gb379));clear HB;have HB:=n0_;have BK379:=n1_;have GW379:=n2_;have GE379:=n3_;clear n0_ n1_ n2_ n3_;clear hb hbox hg)|((with_reducible refine gD (N:=4) rfl ?_);refine bE ?hg (N:=4) ?hd (cs:=#[.int .u64 0,.int .u64 0]) (t:=24) ?hr ?_;(case hd => rfl);(case hg => rfl);(case hr => first|(go_simp;done)|(go_simp;rfl));intro gb380 hg w5 hbox hb;have n0_:=A0.mk (bB (g:=gb379) (o:=.cells #[.int .u64 a0_0,.int .u64 a0_1] 24 (0,0)) (by (with_reducible repeat (first|refine bN ?_ _|refine bD ?_|refine bA ?_ _));exact BK379.out) hb);have n1_:=A0.mk (wT (by repeat (first|(with_reducible first|exact HB.out|apply wA|apply wN|apply wD|refine wS ?_ GE379.out)|exact HB.out)) hb);have n2_:=A0.mk (hbox);have n3_:=A0.mk ((by rw [hg];exact (wZ (by repeat (first|(with_reducible first|exact HB.out|apply wA|apply wN|apply wD|refine wS ?_ GE379.out)|exact HB.out))) : w.heap.size ≤ gb380));have n4_:=A0.mk ((by rw [hg];exact (wZ (by repeat (first|(with_reducible first|exact HB.out|apply wA|apply wN|apply wD|refine wS ?_ GE379.out)|exact HB.out))) : w.heap.size ≤ gb380));have n5_:=A0.mk ((by rw [hg];exact Nat.ne_of_lt (blk_lt (g:=gb379) (o:=.cells #[.int .u64 a0_0,.int .u64 a0_1] 24 (0,0)) (by (with_reducible repeat (first|refine bN ?_ _|refine bD ?_|refine bA ?_ _));exact BK379.out)) : gb379 ≠ gb380));have n6_:=A0.mk ((by rw [hg];exact Nat.ne_of_gt (blk_lt (g:=gb379) (o:=.cells #[.int .u64 a0_0,.int .u64 a0_1] 24 (0,0)) (by (with_reducible repeat (first|refine bN ?_ _|refine bD ?_|refine bA ?_ _));exact BK379.out)) : gb380 ≠ gb379));clear BK379;clear HB;have BK379:=n0_;have HB:=n1_;have BK380:=n2_;have GW380:=n3_;have GE380:=n4_;have NB379_380:=n5_;have NB380_379:=n6_;clear n0_ n1_ n2_ n3_ n4_ n5_ n6_;clear hb hbox hg;have hnb6:=NB380_379.out;have hnc6:=NB379_380.out;have hcz7_0 : w5.cell? ⟨gb380,0,none⟩ = some (.int .u64 0):=(bC BK380.out 0).trans rfl;have hcz7_1 : w5.cell? ⟨gb380,1,none⟩ = some (.int .u64 0):=(bC BK380.out 1).trans rfl;have hfz7_0:=bF BK380.out 0;have hfz7_1:=bF BK380.out 1))
    refine bodyPost_ret (results_ctt rfl _ _ gb380 24 #[.int .u64 0,.int .u64 0] (0,0) _ rfl (by (with_reducible repeat (first|refine bN ?_ _|refine bD ?_|refine bA ?_ _));refine bP (cs:=#[.int .u64 0,.int .u64 0]) ?_ 1 _ rfl;(with_reducible repeat (first|refine bN ?_ _|refine bD ?_|refine bA ?_ _));refine bP (cs:=#[.int .u64 0,.int .u64 0]) ?_ 0 _ rfl;(with_reducible repeat (first|refine bN ?_ _|refine bD ?_|refine bA ?_ _));exact BK380.out) Try.underlying24 rfl (by kernel_rfl)) rfl ?_
    exact ⟨by first|rfl|(simp [errW_none,errW_some] <;> rfl)|(simp [*,errW_none,errW_some] <;> rfl),by repeat (first|(with_reducible first|exact HB.out|apply wA|apply wN|apply wD|refine wS ?_ GE379.out|refine wS ?_ GE380.out)|exact HB.out)⟩
  · rw [if_neg c3] at H
    have c3b0 : (a1 == 0) = false:=beq_eq_false_iff_ne.mpr c3
    have c3b1 : (a1 != 0) = true:=bne_iff_ne.mpr c3
    replace H:=Option.bind_eq_some_iff.mp H;obtain ⟨⟨t381,t382⟩,A80,H⟩:=H
    replace H : (some (IntKind.u64.wrap (Int.tdiv a0_0 a1),t381,t382,0)) = some (r1,r2,r3,r4):=H
    have A8:=A0.mk A80;clear A80
    simp only [Option.some.injEq,Prod.mk.injEq] at H
    obtain ⟨rfl,rfl,rfl,rfl⟩:=H
    go_enter Try.func31,Try.ntmps31
    try go_wp2_with (first|((with_reducible refine gD (N:=2) rfl ?_);refine bE ?hg (N:=2) ?hd (cs:=#[.int .u64 a0_0,.int .u64 a0_1]) (t:=24) ?hr ?_;(case hd => rfl);(case hg => rfl);(case hr => first|(go_simp;done)|(go_simp;rfl));intro gb379 hg w9 hbox hb;have n0_:=A0.mk (wT (by repeat (first|(with_reducible first|exact HB.out|apply wA|apply wN|apply wD)|exact HB.out)) hb);have n1_:=A0.mk (hbox);have n2_:=A0.mk ((by rw [hg];exact (wZ (by repeat (first|(with_reducible first|exact HB.out|apply wA|apply wN|apply wD)|exact HB.out))) : w.heap.size ≤ gb379));have n3_:=A0.mk ((by rw [hg];exact (wZ (by repeat (first|(with_reducible first|exact HB.out|apply wA|apply wN|apply wD)|exact HB.out))) : w.heap.size ≤ gb379));clear HB;have HB:=n0_;have BK379:=n1_;have GW379:=n2_;have GE379:=n3_;clear n0_ n1_ n2_ n3_;clear hb hbox hg)|((with_reducible refine gD (N:=4) rfl ?_);refine bE ?hg (N:=4) ?hd (cs:=#[.int .u64 0,.int .u64 0]) (t:=24) ?hr ?_;(case hd => rfl);(case hg => rfl);(case hr => first|(go_simp;done)|(go_simp;rfl));intro gb380 hg w10 hbox hb;have n0_:=A0.mk (bB (g:=gb379) (o:=.cells #[.int .u64 a0_0,.int .u64 a0_1] 24 (0,0)) (by (with_reducible repeat (first|refine bN ?_ _|refine bD ?_|refine bA ?_ _));exact BK379.out) hb);have n1_:=A0.mk (wT (by repeat (first|(with_reducible first|exact HB.out|apply wA|apply wN|apply wD|refine wS ?_ GE379.out)|exact HB.out)) hb);have n2_:=A0.mk (hbox);have n3_:=A0.mk ((by rw [hg];exact (wZ (by repeat (first|(with_reducible first|exact HB.out|apply wA|apply wN|apply wD|refine wS ?_ GE379.out)|exact HB.out))) : w.heap.size ≤ gb380));have n4_:=A0.mk ((by rw [hg];exact (wZ (by repeat (first|(with_reducible first|exact HB.out|apply wA|apply wN|apply wD|refine wS ?_ GE379.out)|exact HB.out))) : w.heap.size ≤ gb380));have n5_:=A0.mk ((by rw [hg];exact Nat.ne_of_lt (blk_lt (g:=gb379) (o:=.cells #[.int .u64 a0_0,.int .u64 a0_1] 24 (0,0)) (by (with_reducible repeat (first|refine bN ?_ _|refine bD ?_|refine bA ?_ _));exact BK379.out)) : gb379 ≠ gb380));have n6_:=A0.mk ((by rw [hg];exact Nat.ne_of_gt (blk_lt (g:=gb379) (o:=.cells #[.int .u64 a0_0,.int .u64 a0_1] 24 (0,0)) (by (with_reducible repeat (first|refine bN ?_ _|refine bD ?_|refine bA ?_ _));exact BK379.out)) : gb380 ≠ gb379));clear BK379;clear HB;have BK379:=n0_;have HB:=n1_;have BK380:=n2_;have GW380:=n3_;have GE380:=n4_;have NB379_380:=n5_;have NB380_379:=n6_;clear n0_ n1_ n2_ n3_ n4_ n5_ n6_;clear hb hbox hg))
    have n0_:=A0.mk (bD BK379.out);have n1_:=A0.mk (bD BK380.out);have n2_:=A0.mk (wD HB.out);clear BK379;clear BK380;clear HB;have BK379:=n0_;have BK380:=n1_;have HB:=n2_;clear n0_ n1_ n2_
    refine start_ (n:=11) (S:=fun w' => w'.cell? ⟨gb379,0,none⟩ = some (.int .u64 a0_0)∧w'.cell? ⟨gb379,1,none⟩ = some (.int .u64 a0_1)) (ds:=[]) #[Z,Z,Z,Z,Z,Z,Z,Z,Z,Z,Z] (by kernel_rfl) rfl rfl ⟨(bC BK379.out 0).trans rfl,(bC BK379.out 1).trans rfl⟩ (fun hHeld => ?_);refine with_tabW wide_Div.tab3 wide_Div.bits3 (fun HT_ HW_ => ?_)
    generalize w10.drew = w11 at BK379 BK380 HB hHeld ⊢
    refine pure_ (i:=0) (N:=some 10) (v:=?_) (a':=?_) #[Y,Z,Z,Z,Z,Z,Z,Z,Z,Z,Z] rfl rfl (any_of HT_.out (by kernel_rfl)) (fun _ _ _ h => h) (Or.inl ⟨by rfl,?_⟩) ?_ ?_
    rotate_left;(intro w';go_simp;with_reducible rfl);rotate_left;(simp only [aP,lT,lZ,lS,i64_w,i32_w];rfl)
    refine pure_ (i:=2) (N:=some 12) (v:=?_) (a':=?_) #[Y,Z,Y,Z,Z,Z,Z,Z,Z,Z,Z] rfl rfl (any_of HT_.out (by kernel_rfl)) (fun _ _ _ h => h) (Or.inl ⟨by rfl,?_⟩) ?_ ?_
    rotate_left;(intro w';go_simp;with_reducible rfl);rotate_left;(simp only [aP,lT,lZ,lS,i64_w,i32_w];rfl)
    refine pure_ (i:=4) (N:=some 14) (v:=?_) (a':=?_) #[Y,Z,Y,Z,Y,Z,Z,Z,Z,Z,Z] rfl rfl (any_of HT_.out (by kernel_rfl)) (fun _ _ _ h => h) (Or.inl ⟨by rfl,?_⟩) ?_ ?_
    rotate_left;(intro w';go_simp;with_reducible rfl);rotate_left;(simp only [aP,lT,lZ,lS,i64_w,i32_w];rfl)
    refine pure_ (i:=6) (N:=some 16) (v:=?_) (a':=?_) #[Y,Z,Y,Z,Y,Z,Y,Z,Z,Z,Z] rfl rfl (any_of HT_.out (by kernel_rfl)) (fun _ _ _ h => h) (Or.inl ⟨by rfl,?_⟩) ?_ ?_
    rotate_left;(intro w';go_simp;with_reducible rfl);rotate_left;(simp only [aP,lT,lZ,lS,i64_w,i32_w];rfl)
    refine take_ (i:=1) (N:=some 11) (v:=?_) (a':=?_) #[Y,Y,Y,Z,Y,Z,Y,Z,Z,Z,Z] rfl rfl (take_ofW HT_.out HW_.out (by kernel_rfl)) (fun _ _ _ h => h) (Or.inl ⟨by rfl,?_⟩) hHeld ?_ ?_
    rotate_left;(rintro w' ⟨s0,s1⟩;go_simp;with_reducible rfl);rotate_left;(simp only [aP,lT,lZ,lS,i64_w,i32_w];rfl)
    refine pure_ (i:=3) (N:=some 13) (v:=?_) (a':=?_) #[Y,Y,Y,Y,Y,Z,Y,Z,Z,Z,Z] rfl rfl (any_of HT_.out (by kernel_rfl)) (fun _ _ _ h => h) (Or.inl ⟨by rfl,?_⟩) ?_ ?_
    rotate_left;(intro w';go_simp;with_reducible rfl);rotate_left;(simp only [aP,lT,lZ,lS,i64_w,i32_w];rfl)
    refine pure_ (i:=8) (N:=some 18) (v:=?_) (a':=?_) #[Y,Y,Y,Y,Y,Z,Y,Z,Y,Z,Z] rfl rfl (any_of HT_.out (by kernel_rfl)) (fun _ _ _ h => h) (Or.inl ⟨by rfl,?_⟩) ?_ ?_
    rotate_left;(intro w';go_simp;with_reducible rfl);rotate_left;(simp only [aP,lT,lZ,lS,i64_w,i32_w];rfl)
    refine take_ (i:=5) (N:=some 15) (v:=?_) (a':=?_) #[Y,Y,Y,Y,Y,Y,Y,Z,Y,Z,Z] rfl rfl (take_ofW HT_.out HW_.out (by kernel_rfl)) (fun _ _ _ h => h) (Or.inl ⟨by rfl,?_⟩) hHeld ?_ ?_
    rotate_left;(rintro w' ⟨s0,s1⟩;go_simp;with_reducible rfl);rotate_left;(simp only [aP,lT,lZ,lS,i64_w,i32_w];rfl)
    refine pure_ (i:=7) (N:=some 17) (v:=?_) (a':=?_) #[Y,Y,Y,Y,Y,Y,Y,Y,Y,Z,Z] rfl rfl (any_of HT_.out (by kernel_rfl)) (fun _ _ _ h => h) (Or.inl ⟨by rfl,?_⟩) ?_ ?_
    rotate_left;(intro w';go_simp;with_reducible rfl);rotate_left;(simp only [aP,lT,lZ,lS,i64_w,i32_w];rfl)
    refine one_ (i:=9) (N:=none) #[Y,Y,Y,Y,Y,Y,Y,Y,Y,Y,Z] rfl rfl (one_of HT_.out (by kernel_rfl)) (by decide) (fun K hK => ?_)
    have hs12 : w11.cell? ⟨gb380,0,none⟩ = some (.int .u64 0):=(bC BK380.out 0).trans rfl
    have hfs12:=bF BK380.out 0
    have hns12_0:=NB379_380.out
    have hms12_0:=NB380_379.out
    refine skip_ (w1:=?_) (by rfl) rfl ?_ ?_
    rotate_left
    · go_simp
      rfl
    refine hK.out _ _ ⟨((cell_far (p:=⟨gb380,_,none⟩) NB379_380.out _).trans (hHeld.1)),((cell_far (p:=⟨gb380,_,none⟩) NB379_380.out _).trans (hHeld.2))⟩ (fun hHeld => ?_)
    clear hK K
    refine pure_ (i:=10) (N:=some 5) (v:=?_) (a':=?_) #[Y,Y,Y,Y,Y,Y,Y,Y,Y,Y,Y] rfl rfl (any_of HT_.out (by kernel_rfl)) (fun _ _ _ h => h) (Or.inl ⟨by rfl,?_⟩) ?_ ?_
    rotate_left;(intro w';go_simp;with_reducible rfl);rotate_left;(simp only [aP,lT,lZ,lS,i64_w,i32_w];rfl)
    refine done_ (done_of HT_.out (by kernel_rfl)) ?_
    have hnb13:=NB379_380.out
    have hnc13:=NB380_379.out
    have hcz14_0 : w11.cell? ⟨gb379,0,none⟩ = some (.int .u64 a0_0):=(bC BK379.out 0).trans rfl
    have hcz14_1 : w11.cell? ⟨gb379,1,none⟩ = some (.int .u64 a0_1):=(bC BK379.out 1).trans rfl
    have hfz14_0:=bF BK379.out 0
    have hfz14_1:=bF BK379.out 1
    try go_wp2_with (first|((with_reducible refine gC (f:=41) rfl ?_);refine goesL_ (some 24) rfl rfl Try.func41 (by kernel_rfl) rfl #[.int .u64 (Int.tmod a0_0 a1),.int .u64 a0_1,.int .u64 a1] rfl (by (try simp only [mT,mC,mN]);first|done|rfl|(simp only [lD,lK];rfl)) ?_;(with_reducible refine (bits_Div64.calls k (Int.tmod a0_0 a1) a0_1 a1 t381 t382 _ A8.out).mono ?_);rintro e w' ⟨rfl,⟨nd,rfl⟩⟩;refine ⟨_,rfl,?_⟩;have hcz15_0 : w11.cell? ⟨gb380,0,none⟩ = some (.int .u64 0):=(bC BK380.out 0).trans rfl;have hcz15_1 : w11.cell? ⟨gb380,1,none⟩ = some (.int .u64 0):=(bC BK380.out 1).trans rfl;have hfz15_0:=bF BK380.out 0;have hfz15_1:=bF BK380.out 1))
    refine bodyPost_ret (results_ctt rfl _ _ gb380 24 #[.int .u64 (IntKind.u64.wrap (Int.tdiv a0_0 a1)),.int .u64 t381] (0,0) _ rfl (by (with_reducible repeat (first|refine bN ?_ _|refine bD ?_|refine bA ?_ _));refine bP (cs:=#[.int .u64 (IntKind.u64.wrap (Int.tdiv a0_0 a1)),.int .u64 t381]) ?_ 1 _ rfl;(with_reducible repeat (first|refine bN ?_ _|refine bD ?_|refine bA ?_ _));refine bP (cs:=#[.int .u64 (IntKind.u64.wrap (Int.tdiv a0_0 a1)),.int .u64 t381]) ?_ 0 _ rfl;(with_reducible repeat (first|refine bN ?_ _|refine bD ?_|refine bA ?_ _));refine bP (cs:=#[.int .u64 (IntKind.u64.wrap (Int.tdiv a0_0 a1)),.int .u64 0]) ?_ 1 _ rfl;(with_reducible repeat (first|refine bN ?_ _|refine bD ?_|refine bA ?_ _));refine bP (cs:=#[.int .u64 0,.int .u64 0]) ?_ 0 _ rfl;(with_reducible repeat (first|refine bN ?_ _|refine bD ?_|refine bA ?_ _));exact BK380.out) Try.underlying24 rfl (by kernel_rfl)) rfl ?_
    exact ⟨by first|rfl|(simp [errW_none,errW_some] <;> rfl)|(simp [*,errW_none,errW_some] <;> rfl),by repeat (first|(with_reducible first|exact HB.out|apply wA|apply wN|apply wD|refine wS ?_ GE379.out|refine wS ?_ GE380.out)|exact HB.out)⟩

end Go.Proofs.Ytidjigoghdghiaa.V
