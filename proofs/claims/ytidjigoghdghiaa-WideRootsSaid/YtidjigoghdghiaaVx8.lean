/- Contracts of the program's functions, each: where the printed function answers, the call answers the same. Written by vprint.py, this session's own program over the kit's print.py; Lean checks it. No conditions beyond those that each states. -/
import Derived.Test.YtidjigoghdghiaaVx0
import Derived.Test.YtidjigoghdghiaaVx6
import Derived.Test.YtidjigoghdghiaaVx7
namespace Go.Proofs.Ytidjigoghdghiaa.V
open Go.RowKit Go.Proofs.YtidjigoghdghiaaQ.PrintWords Go.Proofs.YtidjigoghdghiaaQ.PrintLast Go.Proofs.YtidjigoghdghiaaQ.PrintMore
open Bool renaming true → Y, false → Z
open List renaming setIfInBounds_toArray → lT, set_cons_zero → lZ, set_cons_succ → lS, map_toArray → mT, map_cons → mC, map_nil → mN, length_drop → lD, length_take → lK
open Act renaming put → aP
attribute [local go_sem] max2_int min2_int max_two min_two max_three min_three max_four min_four   -- for this text's walks alone
set_option linter.unusedVariables false
set_option linter.unusedSimpArgs false

/-! ### vernierref01_Mul: function 33 -/
def vernierref01_Mul.l0 : Nat→Int→Int→Int→Int→Int→Option (Int × Int)
  | 0,_,_,_,_,_ => none
  | k + 1,x0,x1,x6,x135000,x135001 => if x6 < 64 then (if 0 ≤ (IntKind.u64.wrap (x6)) then (if (Go.bits .and .u64 (shr .u64 x1 (IntKind.u64.wrap (x6))) 1) = 1 then ((vernierref01_Shl.f k 0 x0 x6).bind fun bt135 => ((vernierref01_Add.f k x135000 x135001 bt135.1 bt135.2).bind fun bt137 => (vernierref01_Mul.l0 k x0 x1 (wrap64 (x6 + 1)) bt137.1 bt137.2.1))) else (vernierref01_Mul.l0 k x0 x1 (wrap64 (x6 + 1)) x135000 x135001)) else (none)) else (some (x135000,x135001))
def vernierref01_Mul.f (k : Nat) (a0 : Int) (a1 : Int) : Option (Int × Int):=vernierref01_Mul.l0 k a0 a1 0 0 0
theorem vernierref01_Mul.mono_l : ∀ k,(∀ y0 y1 y2 y3 y4,LeO (vernierref01_Mul.l0 k y0 y1 y2 y3 y4) (vernierref01_Mul.l0 (k + 1) y0 y1 y2 y3 y4))
  | 0 => fun _ _ _ _ _ r h => by simp [vernierref01_Mul.l0] at h
  | k + 1 => by
    have ih0:=vernierref01_Mul.mono_l k
    · intro y0 y1 y2 y3 y4
      unfold vernierref01_Mul.l0
      repeat' first
      | (with_reducible exact ih0 _ _ _ _ _)
      | (with_reducible exact vernierref01_Add.mono _ _ _ _ _)
      | (with_reducible exact vernierref01_Shl.mono _ _ _ _)
      | (with_reducible exact LeO.refl _)
      | (with_reducible exact LeO.none _)
      | (with_reducible refine LeO.ite ?_ ?_)
      | (with_reducible refine LeO.bind ?_ (fun _ => ?_))
      | exact ih0 _ _ _ _ _
      | exact vernierref01_Add.mono _ _ _ _ _
      | exact vernierref01_Shl.mono _ _ _ _
      | exact LeO.none _
      | refine LeO.ite ?_ ?_
      | refine LeO.bind ?_ (fun _ => ?_)
theorem vernierref01_Mul.mono : ∀ a0 a1 k,LeO (vernierref01_Mul.f k a0 a1) (vernierref01_Mul.f (k + 1) a0 a1):=by
  intro a0 a1 k
  have ih0:=vernierref01_Mul.mono_l k
  unfold vernierref01_Mul.f
  repeat' first
      | (with_reducible exact ih0 _ _ _ _ _)
      | (with_reducible exact vernierref01_Add.mono _ _ _ _ _)
      | (with_reducible exact vernierref01_Shl.mono _ _ _ _)
      | (with_reducible exact LeO.refl _)
      | (with_reducible exact LeO.none _)
      | (with_reducible refine LeO.ite ?_ ?_)
      | (with_reducible refine LeO.bind ?_ (fun _ => ?_))
      | exact ih0 _ _ _ _ _
      | exact vernierref01_Add.mono _ _ _ _ _
      | exact vernierref01_Shl.mono _ _ _ _
      | exact LeO.none _
      | refine LeO.ite ?_ ?_
      | refine LeO.bind ?_ (fun _ => ?_)
def vernierref01_Mul.T6 : Bool × List (List Nat × List Nat):=(true,[([],[]),([],[]),([1],[1]),([],[]),([2,3],[2,3]),([0,4,4],[0,4]),([5],[5]),([6],[6]),([6],[6]),([7,5,0,1,2,3,4,5,6,7],[7])])
def vernierref01_Mul.B6 : List Nat:=[0,0,2,0,14,31,63,127,127,255]
theorem vernierref01_Mul.tab6 : rtab .any (opsOf Try.f33 6) = vernierref01_Mul.T6:=by kernel_rfl
theorem vernierref01_Mul.bits6 : waitsOk vernierref01_Mul.T6.2 vernierref01_Mul.B6 = true:=by kernel_rfl
set_option maxHeartbeats 8000000 in
set_option maxRecDepth 100000 in
theorem vernierref01_Mul.calls (k : Nat) (a0 : Int) (a1 : Int) (r1 : Int) (r2 : Int) (w : World) (h : vernierref01_Mul.f k a0 a1 = some (r1,r2)) :
    Calls Try.prog 33 #[.int .u64 a0,.int .u64 a1] w fun e w' => e = .returned (.agg #[.int .u64 r1,.int .u64 r2])∧Below w.heap.size w w':=by
  have hu28:=Try.underlying28
  have HB:=A0.mk (Below.refl w.heap.size w)
  have H : (vernierref01_Mul.l0 k a0 a1 0 0 0) = some (r1,r2):=h
  clear h
  have H':=A0.mk H
  clear H
  go_enter Try.func33,Try.ntmps33
  go_wp2_with (first|((with_reducible refine gD (N:=4) rfl ?_);refine bE ?hg (N:=4) ?hd (cs:=#[.int .u64 0,.int .u64 0]) (t:=28) ?hr ?_;(case hd => rfl);(case hg => rfl);(case hr => first|(go_simp;done)|(go_simp;rfl));intro gb133 hg w3 hbox hb;have n0_:=A0.mk (wT (by repeat (first|(with_reducible first|exact HB.out|apply wA|apply wN|apply wD)|exact HB.out)) hb);have n1_:=A0.mk (hbox);have n2_:=A0.mk ((by rw [hg];exact (wZ (by repeat (first|(with_reducible first|exact HB.out|apply wA|apply wN|apply wD)|exact HB.out))) : w.heap.size ≤ gb133));have n3_:=A0.mk ((by rw [hg];exact (wZ (by repeat (first|(with_reducible first|exact HB.out|apply wA|apply wN|apply wD)|exact HB.out))) : w.heap.size ≤ gb133));clear HB;have HB:=n0_;have BK133:=n1_;have GW133:=n2_;have GE133:=n3_;clear n0_ n1_ n2_ n3_;clear hb hbox hg)|((with_reducible refine gD (N:=5) rfl ?_);refine bE ?hg (N:=5) ?hd (cs:=#[.int .u64 0,.int .u64 0]) (t:=28) ?hr ?_;(case hd => rfl);(case hg => rfl);(case hr => first|(go_simp;done)|(go_simp;rfl));intro gb134 hg w4 hbox hb;have n0_:=A0.mk (bB (g:=gb133) (o:=.cells #[.int .u64 0,.int .u64 0] 28 (0,0)) (by (with_reducible repeat (first|refine bN ?_ _|refine bD ?_|refine bA ?_ _));exact BK133.out) hb);have n1_:=A0.mk (wT (by repeat (first|(with_reducible first|exact HB.out|apply wA|apply wN|apply wD|refine wS ?_ GE133.out)|exact HB.out)) hb);have n2_:=A0.mk (hbox);have n3_:=A0.mk ((by rw [hg];exact (wZ (by repeat (first|(with_reducible first|exact HB.out|apply wA|apply wN|apply wD|refine wS ?_ GE133.out)|exact HB.out))) : w.heap.size ≤ gb134));have n4_:=A0.mk ((by rw [hg];exact (wZ (by repeat (first|(with_reducible first|exact HB.out|apply wA|apply wN|apply wD|refine wS ?_ GE133.out)|exact HB.out))) : w.heap.size ≤ gb134));have n5_:=A0.mk ((by rw [hg];exact Nat.ne_of_lt (blk_lt (g:=gb133) (o:=.cells #[.int .u64 0,.int .u64 0] 28 (0,0)) (by (with_reducible repeat (first|refine bN ?_ _|refine bD ?_|refine bA ?_ _));exact BK133.out)) : gb133 ≠ gb134));have n6_:=A0.mk ((by rw [hg];exact Nat.ne_of_gt (blk_lt (g:=gb133) (o:=.cells #[.int .u64 0,.int .u64 0] 28 (0,0)) (by (with_reducible repeat (first|refine bN ?_ _|refine bD ?_|refine bA ?_ _));exact BK133.out)) : gb134 ≠ gb133));clear BK133;clear HB;have BK133:=n0_;have HB:=n1_;have BK134:=n2_;have GW134:=n3_;have GE134:=n4_;have NB133_134:=n5_;have NB134_133:=n6_;clear n0_ n1_ n2_ n3_ n4_ n5_ n6_;clear hb hbox hg;have hnb5:=NB134_133.out;have hnc5:=NB133_134.out;have hcz6_0 : w4.cell? ⟨gb134,0,none⟩ = some (.int .u64 0):=(bC BK134.out 0).trans rfl;have hcz6_1 : w4.cell? ⟨gb134,1,none⟩ = some (.int .u64 0):=(bC BK134.out 1).trans rfl;have hfz6_0:=bF BK134.out 0;have hfz6_1:=bF BK134.out 1))
  go_loopg [6] k (fun kq v6 w' => ∃ (x6_1 : Int) (x135000_1 : Int) (x135001_1 : Int),v6 = .int .i64 x6_1∧A0 (vernierref01_Mul.l0 kq a0 a1 x6_1 x135000_1 x135001_1 = some (r1,r2))∧A0 (kq ≤ k)∧A0 (w'.heap[gb133]? = some (.cells #[.int .u64 0,.int .u64 0] 28 (0,0)))∧A0 (w'.heap[gb134]? = some (.cells #[.int .u64 x135000_1,.int .u64 x135001_1] 28 (0,0)))∧A0 (Below w.heap.size w w'))
  case atStart => exact ⟨(0),(0),(0),(by first|rfl|(simp;done)|(simp [*];done)),H',⟨Nat.le_refl _⟩,⟨by (with_reducible repeat (first|refine bN ?_ _|refine bD ?_|refine bA ?_ _));refine bR ?_ NB133_134.out _;(with_reducible repeat (first|refine bN ?_ _|refine bD ?_|refine bA ?_ _));refine bR ?_ NB133_134.out _;(with_reducible repeat (first|refine bN ?_ _|refine bD ?_|refine bA ?_ _));exact BK133.out⟩,⟨by (with_reducible repeat (first|refine bN ?_ _|refine bD ?_|refine bA ?_ _));refine bP (cs:=#[.int .u64 0,.int .u64 0]) ?_ 1 _ rfl;(with_reducible repeat (first|refine bN ?_ _|refine bD ?_|refine bA ?_ _));refine bP (cs:=#[.int .u64 0,.int .u64 0]) ?_ 0 _ rfl;(with_reducible repeat (first|refine bN ?_ _|refine bD ?_|refine bA ?_ _));exact BK134.out⟩,⟨by repeat (first|(with_reducible first|exact HB.out|apply wA|apply wN|apply wD|refine wS ?_ GE133.out|refine wS ?_ GE134.out)|exact HB.out)⟩⟩
  case round =>
    clear H'
    try clear p2
    try clear c3
    try clear c5
    try clear hcz6_0
    try clear hcz6_1
    try clear hfz6_0
    try clear hfz6_1
    obtain ⟨x6_1,x135000_1,x135001_1,rfl,HA,HK1,BK133,BK134,HB⟩:=hrel
    cases gk with
    | zero => exact absurd HA.out (by simp [vernierref01_Mul.l0])
    | succ k1 =>
      have H:=HA.out
      clear HA
      simp only [vernierref01_Mul.l0] at H
      by_cases c7 : x6_1 < 64
      · rw [if_pos c7] at H
        have c7b0 : decide (x6_1 < 64) = true:=decide_eq_true c7
        clear c7
        obtain ⟨ji8,hji8⟩ : ∃ j_ : Int,(IntKind.u64.wrap (x6_1)) = j_:=⟨_,rfl⟩
        replace H : (if 0 ≤ (ji8) then (if (Go.bits .and .u64 (shr .u64 a1 (ji8)) 1) = 1 then ((vernierref01_Shl.f k1 0 a0 x6_1).bind fun bt135 => ((vernierref01_Add.f k1 x135000_1 x135001_1 bt135.1 bt135.2).bind fun bt137 => (vernierref01_Mul.l0 k1 a0 a1 (wrap64 (x6_1 + 1)) bt137.1 bt137.2.1))) else (vernierref01_Mul.l0 k1 a0 a1 (wrap64 (x6_1 + 1)) x135000_1 x135001_1)) else (none)) = some (r1,r2):=by first|(rw [hji8] at H;exact H)|(simp only [hji8] at H ⊢;exact H)
        by_cases c9 : 0 ≤ (ji8)
        · rw [if_pos c9] at H
          have c9b0:=eq_true c9
          have c9b1 : decide (0 ≤ (ji8)) = true:=decide_eq_true c9
          clear c9
          obtain ⟨ji10,hji10⟩ : ∃ j_ : Int,(shr .u64 a1 (ji8)) = j_:=⟨_,rfl⟩
          replace H : (if (Go.bits .and .u64 (ji10) 1) = 1 then ((vernierref01_Shl.f k1 0 a0 x6_1).bind fun bt135 => ((vernierref01_Add.f k1 x135000_1 x135001_1 bt135.1 bt135.2).bind fun bt137 => (vernierref01_Mul.l0 k1 a0 a1 (wrap64 (x6_1 + 1)) bt137.1 bt137.2.1))) else (vernierref01_Mul.l0 k1 a0 a1 (wrap64 (x6_1 + 1)) x135000_1 x135001_1)) = some (r1,r2):=by first|(rw [hji10] at H;exact H)|(simp only [hji10] at H ⊢;exact H)
          have hji10_ : (a1 / 2 ^ min (ji8).toNat 64) = ji10:=hji10
          have hji10z : (ji8) ≤ 64→(a1 / 2 ^ (ji8).toNat) = ji10:=shr_small hji10
          by_cases c11 : (Go.bits .and .u64 (ji10) 1) = 1
          · rw [if_pos c11] at H
            have c11b0 : ((Go.bits .and .u64 (ji10) 1) == 1) = true:=beq_iff_eq.mpr c11
            have c11b1 : ((Go.bits .and .u64 (ji10) 1) != 1) = false:=bne_eq_false_iff_eq.mpr c11
            clear c11;replace H:=Option.bind_eq_some_iff.mp H;obtain ⟨⟨t135,t136⟩,A120,H⟩:=H
            replace H : ((vernierref01_Add.f k1 x135000_1 x135001_1 t135 t136).bind fun bt137 => (vernierref01_Mul.l0 k1 a0 a1 (wrap64 (x6_1 + 1)) bt137.1 bt137.2.1)) = some (r1,r2):=H
            have A12:=A0.mk A120;clear A120;replace H:=Option.bind_eq_some_iff.mp H;obtain ⟨⟨t137,t138,t139⟩,A130,H⟩:=H
            replace H : (vernierref01_Mul.l0 k1 a0 a1 (wrap64 (x6_1 + 1)) t137 t138) = some (r1,r2):=H
            have A13:=A0.mk A130;clear A130
            have H':=A0.mk H
            clear H
            try go_wp2
            have n0_:=A0.mk (bD BK133.out);have n1_:=A0.mk (bD BK134.out);have n2_:=A0.mk (wD HB.out);clear BK133;clear BK134;clear HB;have BK133:=n0_;have BK134:=n1_;have HB:=n2_;clear n0_ n1_ n2_
            refine start_ (n:=10) (S:=fun w' => w'.cell? ⟨gb134,0,none⟩ = some (.int .u64 x135000_1)∧w'.cell? ⟨gb134,1,none⟩ = some (.int .u64 x135001_1)) (ds:=[9]) #[Z,Z,Z,Z,Z,Z,Z,Z,Z,Z] (by kernel_rfl) rfl rfl ⟨(bC BK134.out 0).trans rfl,(bC BK134.out 1).trans rfl⟩ (fun hHeld => ?_);refine with_tabW vernierref01_Mul.tab6 vernierref01_Mul.bits6 (fun HT_ HW_ => ?_)
            generalize wr.drew = w14 at BK133 BK134 HB hHeld ⊢
            refine pure_ (i:=1) (N:=some 20) (v:=?_) (a':=?_) #[Z,Y,Z,Z,Z,Z,Z,Z,Z,Z] rfl rfl (any_of HT_.out (by kernel_rfl)) (fun _ _ _ h => h) (Or.inl ⟨by rfl,?_⟩) ?_ ?_
            rotate_left;(intro w';go_simp;with_reducible rfl);rotate_left;(simp only [aP,lT,lZ,lS,i64_w,i32_w];rfl)
            refine pure_ (i:=2) (N:=some 21) (v:=?_) (a':=?_) #[Z,Y,Y,Z,Z,Z,Z,Z,Z,Z] rfl rfl (any_of HT_.out (by kernel_rfl)) (fun _ _ _ h => h) (Or.inl ⟨by rfl,?_⟩) ?_ ?_
            rotate_left;(intro w';go_simp;with_reducible rfl);rotate_left;(simp only [aP,lT,lZ,lS,i64_w,i32_w];rfl)
            refine pure_ (i:=3) (N:=some 22) (v:=?_) (a':=?_) #[Z,Y,Y,Y,Z,Z,Z,Z,Z,Z] rfl rfl (any_of HT_.out (by kernel_rfl)) (fun _ _ _ h => h) (Or.inl ⟨by rfl,?_⟩) ?_ ?_
            rotate_left;(intro w';go_simp;with_reducible rfl);rotate_left;(simp only [aP,lT,lZ,lS,i64_w,i32_w];rfl)
            refine take_ (i:=0) (N:=some 19) (v:=?_) (a':=?_) #[Y,Y,Y,Y,Z,Z,Z,Z,Z,Z] rfl rfl (take_ofW HT_.out HW_.out (by kernel_rfl)) (fun _ _ _ h => h) (Or.inl ⟨by rfl,?_⟩) hHeld ?_ ?_
            rotate_left;(rintro w' ⟨s0,s1⟩;go_simp;with_reducible rfl);rotate_left;(simp only [aP,lT,lZ,lS,i64_w,i32_w];rfl)
            refine one_ (i:=4) (N:=some 23) #[Y,Y,Y,Y,Y,Z,Z,Z,Z,Z] rfl rfl (one_of HT_.out (by kernel_rfl)) (by decide) (fun K hK => ?_)
            refine goes_ Try.func26 (by kernel_rfl) rfl #[.agg #[.int .u64 0,.int .u64 a0],.int .i64 x6_1] (by rfl) rfl rfl (by (try simp only [mT,mC,mN]);first|done|rfl|(simp only [lD,lK];rfl)) ?_
            with_reducible refine (vernierref01_Shl.calls k1 0 a0 x6_1 t135 t136 _ A12.out).mono ?_
            rintro e w15 ⟨rfl,hb⟩;refine ⟨_,rfl,?_⟩;have n0_:=A0.mk (bB (g:=gb133) (o:=.cells #[.int .u64 0,.int .u64 0] 28 (0,0)) (by (with_reducible repeat (first|refine bN ?_ _|refine bD ?_|refine bA ?_ _));exact BK133.out) hb);have n1_:=A0.mk (bB (g:=gb134) (o:=.cells #[.int .u64 x135000_1,.int .u64 x135001_1] 28 (0,0)) (by (with_reducible repeat (first|refine bN ?_ _|refine bD ?_|refine bA ?_ _));exact BK134.out) hb);have n2_:=A0.mk (wT (by repeat (first|(with_reducible first|exact HB.out|apply wA|apply wN|apply wD|refine wS ?_ GE133.out|refine wS ?_ GE134.out)|exact HB.out)) hb);clear BK133;clear BK134;clear HB;have BK133:=n0_;have BK134:=n1_;have HB:=n2_;clear n0_ n1_ n2_;(try clear hb);(try clear hb2);(try clear hk);(try clear hi)
            refine hK.out _ _ ⟨(bC BK134.out 0).trans rfl,(bC BK134.out 1).trans rfl⟩ (fun hHeld => ?_)
            clear hK K
            refine norm_ (a':=?_) ?_ ?_
            rotate_left;(show Act.put _ (some 23) _ = _;simp only [aP,lT,lZ,lS,i64_w,i32_w];rfl)
            refine one_ (i:=5) (N:=some 24) #[Y,Y,Y,Y,Y,Y,Z,Z,Z,Z] rfl rfl (one_of HT_.out (by kernel_rfl)) (by decide) (fun K hK => ?_)
            refine goes_ Try.func18 (by kernel_rfl) rfl #[.agg #[.int .u64 x135000_1,.int .u64 x135001_1],.agg #[.int .u64 t135,.int .u64 t136]] (by rfl) rfl rfl (by (try simp only [mT,mC,mN]);first|done|rfl|(simp only [lD,lK];rfl)) ?_
            with_reducible refine (vernierref01_Add.calls k1 x135000_1 x135001_1 t135 t136 t137 t138 t139 _ A13.out).mono ?_
            rintro e w16 ⟨rfl,hb⟩;refine ⟨_,rfl,?_⟩;have n0_:=A0.mk (bB (g:=gb133) (o:=.cells #[.int .u64 0,.int .u64 0] 28 (0,0)) (by (with_reducible repeat (first|refine bN ?_ _|refine bD ?_|refine bA ?_ _));exact BK133.out) hb);have n1_:=A0.mk (bB (g:=gb134) (o:=.cells #[.int .u64 x135000_1,.int .u64 x135001_1] 28 (0,0)) (by (with_reducible repeat (first|refine bN ?_ _|refine bD ?_|refine bA ?_ _));exact BK134.out) hb);have n2_:=A0.mk (wT (by repeat (first|(with_reducible first|exact HB.out|apply wA|apply wN|apply wD|refine wS ?_ GE133.out|refine wS ?_ GE134.out)|exact HB.out)) hb);clear BK133;clear BK134;clear HB;have BK133:=n0_;have BK134:=n1_;have HB:=n2_;clear n0_ n1_ n2_;(try clear hb);(try clear hb2);(try clear hk);(try clear hi)
            refine hK.out _ _ ⟨(bC BK134.out 0).trans rfl,(bC BK134.out 1).trans rfl⟩ (fun hHeld => ?_)
            clear hK K
            refine norm_ (a':=?_) ?_ ?_
            rotate_left;(show Act.put _ (some 24) _ = _;simp only [aP,lT,lZ,lS,i64_w,i32_w];rfl)
            refine pure_ (i:=6) (N:=some 18) (v:=?_) (a':=?_) #[Y,Y,Y,Y,Y,Y,Y,Z,Z,Z] rfl rfl (any_of HT_.out (by kernel_rfl)) (fun _ _ _ h => h) (Or.inl ⟨by rfl,?_⟩) ?_ ?_
            rotate_left;(intro w';go_simp;with_reducible rfl);rotate_left;(simp only [aP,lT,lZ,lS,i64_w,i32_w];rfl)
            refine pure_ (i:=7) (N:=some 25) (v:=?_) (a':=?_) #[Y,Y,Y,Y,Y,Y,Y,Y,Z,Z] rfl rfl (any_of HT_.out (by kernel_rfl)) (fun _ _ _ h => h) (Or.inl ⟨by rfl,?_⟩) ?_ ?_
            rotate_left;(intro w';go_simp;with_reducible rfl);rotate_left;(simp only [aP,lT,lZ,lS,i64_w,i32_w];rfl)
            refine pure_ (i:=8) (N:=some 26) (v:=?_) (a':=?_) #[Y,Y,Y,Y,Y,Y,Y,Y,Y,Z] rfl rfl (any_of HT_.out (by kernel_rfl)) (fun _ _ _ h => h) (Or.inl ⟨by rfl,?_⟩) ?_ ?_
            rotate_left;(intro w';go_simp;with_reducible rfl);rotate_left;(simp only [aP,lT,lZ,lS,i64_w,i32_w];rfl)
            refine last_ (i:=9) (N:=none) #[Y,Y,Y,Y,Y,Y,Y,Y,Y,Y] rfl rfl (one_of HT_.out (by kernel_rfl)) (by decide) (fun K hK => ?_)
            have hs17 : w16.cell? ⟨gb134,0,none⟩ = some (.int .u64 x135000_1):=(bC BK134.out 0).trans rfl
            have hfs17:=bF BK134.out 0
            have hns17_0:=NB133_134.out
            have hms17_0:=NB134_133.out
            have hs18 : w16.cell? ⟨gb134,1,none⟩ = some (.int .u64 x135001_1):=(bC BK134.out 1).trans rfl
            have hfs18:=bF BK134.out 1
            have hns18_0:=NB133_134.out
            have hms18_0:=NB134_133.out
            refine skip_ (w1:=?_) (by rfl) rfl ?_ ?_
            rotate_left
            · go_simp
              rfl
            refine hK.out _ _ ?_
            clear hK K
            refine done_ (done_of HT_.out (by kernel_rfl)) ?_
            try go_wp2
            go_roundg k1
            case measure => have:=HK1.out;omega
            case rel => exact ⟨(wrap64 (x6_1 + 1)),(t137),(t138),(by first|rfl|(simp;done)|(simp [*];done)),H',⟨by have:=HK1.out;omega⟩,⟨by (with_reducible repeat (first|refine bN ?_ _|refine bD ?_|refine bA ?_ _));refine bR ?_ NB133_134.out _;(with_reducible repeat (first|refine bN ?_ _|refine bD ?_|refine bA ?_ _));refine bR ?_ NB133_134.out _;(with_reducible repeat (first|refine bN ?_ _|refine bD ?_|refine bA ?_ _));exact BK133.out⟩,⟨by (with_reducible repeat (first|refine bN ?_ _|refine bD ?_|refine bA ?_ _));refine bP (cs:=#[.int .u64 t137,.int .u64 x135001_1]) ?_ 1 _ rfl;(with_reducible repeat (first|refine bN ?_ _|refine bD ?_|refine bA ?_ _));refine bP (cs:=#[.int .u64 x135000_1,.int .u64 x135001_1]) ?_ 0 _ rfl;(with_reducible repeat (first|refine bN ?_ _|refine bD ?_|refine bA ?_ _));exact BK134.out⟩,⟨by repeat (first|(with_reducible first|exact HB.out|apply wA|apply wN|apply wD|refine wS ?_ GE133.out|refine wS ?_ GE134.out)|exact HB.out)⟩⟩
          · rw [if_neg c11] at H
            have c11b0 : ((Go.bits .and .u64 (ji10) 1) == 1) = false:=beq_eq_false_iff_ne.mpr c11
            have c11b1 : ((Go.bits .and .u64 (ji10) 1) != 1) = true:=bne_iff_ne.mpr c11
            have H':=A0.mk H
            clear H
            go_wp2
            go_roundg k1
            case measure => have:=HK1.out;omega
            case rel => exact ⟨(wrap64 (x6_1 + 1)),(x135000_1),(x135001_1),(by first|rfl|(simp;done)|(simp [*];done)),H',⟨by have:=HK1.out;omega⟩,⟨by (with_reducible repeat (first|refine bN ?_ _|refine bD ?_|refine bA ?_ _));exact BK133.out⟩,⟨by (with_reducible repeat (first|refine bN ?_ _|refine bD ?_|refine bA ?_ _));exact BK134.out⟩,⟨by repeat (first|(with_reducible first|exact HB.out|apply wA|apply wN|apply wD|refine wS ?_ GE133.out|refine wS ?_ GE134.out)|exact HB.out)⟩⟩
        · rw [if_neg c9] at H
          exact absurd H (by simp)
      · rw [if_neg c7] at H
        have c7b0 : decide (x6_1 < 64) = false:=decide_eq_false c7
        clear c7
        simp only [Option.some.injEq,Prod.mk.injEq] at H
        obtain ⟨rfl,rfl⟩:=H
        have hnb19:=NB134_133.out
        have hnc19:=NB133_134.out
        have hcz20_0 : wr.cell? ⟨gb134,0,none⟩ = some (.int .u64 x135000_1):=(bC BK134.out 0).trans rfl
        have hcz20_1 : wr.cell? ⟨gb134,1,none⟩ = some (.int .u64 x135001_1):=(bC BK134.out 1).trans rfl
        have hfz20_0:=bF BK134.out 0
        have hfz20_1:=bF BK134.out 1
        have hcz21_0 : wr.cell? ⟨gb133,0,none⟩ = some (.int .u64 0):=(bC BK133.out 0).trans rfl
        have hcz21_1 : wr.cell? ⟨gb133,1,none⟩ = some (.int .u64 0):=(bC BK133.out 1).trans rfl
        have hfz21_0:=bF BK133.out 0
        have hfz21_1:=bF BK133.out 1
        go_wp2
        refine bodyPost_ret (results_cell_row rfl _ _ gb133 28 #[.int .u64 x135000_1,.int .u64 x135001_1] (0,0) _ rfl (by (with_reducible repeat (first|refine bN ?_ _|refine bD ?_|refine bA ?_ _));refine bP (cs:=#[.int .u64 x135000_1,.int .u64 0]) ?_ 1 _ rfl;(with_reducible repeat (first|refine bN ?_ _|refine bD ?_|refine bA ?_ _));refine bP (cs:=#[.int .u64 0,.int .u64 0]) ?_ 0 _ rfl;(with_reducible repeat (first|refine bN ?_ _|refine bD ?_|refine bA ?_ _));exact BK133.out) Try.underlying28 rfl (by kernel_rfl)) rfl ?_
        exact ⟨by first|rfl|(simp [errW_none,errW_some] <;> rfl)|(simp [*,errW_none,errW_some] <;> rfl),by repeat (first|(with_reducible first|exact HB.out|apply wA|apply wN|apply wD|refine wS ?_ GE133.out|refine wS ?_ GE134.out)|exact HB.out)⟩

end Go.Proofs.Ytidjigoghdghiaa.V
