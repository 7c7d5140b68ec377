/- Contracts of the program's functions, each: where the printed function answers, the call answers the same. Written by vprint.py, this session's own program over the kit's print.py; Lean checks it. No conditions beyond those that each states. -/
import Derived.Test.YtidjigoghdghiaaVx0
import Derived.Test.YtidjigoghdghiaaVx4
namespace Go.Proofs.Ytidjigoghdghiaa.V
open Go.RowKit Go.Proofs.YtidjigoghdghiaaQ.PrintWords Go.Proofs.YtidjigoghdghiaaQ.PrintLast Go.Proofs.YtidjigoghdghiaaQ.PrintMore
open Bool renaming true → Y, false → Z
open List renaming setIfInBounds_toArray → lT, set_cons_zero → lZ, set_cons_succ → lS, map_toArray → mT, map_cons → mC, map_nil → mN, length_drop → lD, length_take → lK
open Act renaming put → aP
attribute [local go_sem] max2_int min2_int max_two min_two max_three min_three max_four min_four   -- for this text's walks alone
set_option linter.unusedVariables false
set_option linter.unusedSimpArgs false

/-! ### vernierref01_Cmp: function 22 -/
def vernierref01_Cmp.l0 : Nat→Int→Int→Int→Int→Int→Option (Int)
  | 0,_,_,_,_,_ => none
  | k + 1,x5,x114000,x114001,x115000,x115001 => if x5 ≥ 0 then ((vernierref01_Bit.f k x114000 x114001 x5).bind fun t115 => ((vernierref01_Bit.f k x115000 x115001 x5).bind fun t116 => (if t115 < t116 then (some (-1)) else (if t115 > t116 then (some 1) else (vernierref01_Cmp.l0 k (wrap64 (x5 - 1)) x114000 x114001 x115000 x115001))))) else (some 0)
def vernierref01_Cmp.f (k : Nat) (a0_0 : Int) (a0_1 : Int) (a1_0 : Int) (a1_1 : Int) : Option (Int):=vernierref01_Cmp.l0 k 127 a0_0 a0_1 a1_0 a1_1
theorem vernierref01_Cmp.mono_l : ∀ k,(∀ y0 y1 y2 y3 y4,LeO (vernierref01_Cmp.l0 k y0 y1 y2 y3 y4) (vernierref01_Cmp.l0 (k + 1) y0 y1 y2 y3 y4))
  | 0 => fun _ _ _ _ _ r h => by simp [vernierref01_Cmp.l0] at h
  | k + 1 => by
    have ih0:=vernierref01_Cmp.mono_l k
    · intro y0 y1 y2 y3 y4
      unfold vernierref01_Cmp.l0
      repeat' first
      | (with_reducible exact ih0 _ _ _ _ _)
      | (with_reducible exact vernierref01_Bit.mono _ _ _ _)
      | (with_reducible exact LeO.refl _)
      | (with_reducible exact LeO.none _)
      | (with_reducible refine LeO.ite ?_ ?_)
      | (with_reducible refine LeO.bind ?_ (fun _ => ?_))
      | exact ih0 _ _ _ _ _
      | exact vernierref01_Bit.mono _ _ _ _
      | exact LeO.none _
      | refine LeO.ite ?_ ?_
      | refine LeO.bind ?_ (fun _ => ?_)
theorem vernierref01_Cmp.mono : ∀ a0 a1 a2 a3 k,LeO (vernierref01_Cmp.f k a0 a1 a2 a3) (vernierref01_Cmp.f (k + 1) a0 a1 a2 a3):=by
  intro a0 a1 a2 a3 k
  have ih0:=vernierref01_Cmp.mono_l k
  unfold vernierref01_Cmp.f
  repeat' first
      | (with_reducible exact ih0 _ _ _ _ _)
      | (with_reducible exact vernierref01_Bit.mono _ _ _ _)
      | (with_reducible exact LeO.refl _)
      | (with_reducible exact LeO.none _)
      | (with_reducible refine LeO.ite ?_ ?_)
      | (with_reducible refine LeO.bind ?_ (fun _ => ?_))
      | exact ih0 _ _ _ _ _
      | exact vernierref01_Bit.mono _ _ _ _
      | exact LeO.none _
      | refine LeO.ite ?_ ?_
      | refine LeO.bind ?_ (fun _ => ?_)
def vernierref01_Cmp.T4 : Bool × List (List Nat × List Nat):=(true,[([],[]),([],[]),([0,1],[0,1]),([],[]),([],[]),([3,4,2],[3,4]),([2,5,0,1,2],[2]),([5,6,0,1,2,3,4,5,6],[5])])
def vernierref01_Cmp.B4 : List Nat:=[0,0,3,0,0,31,63,127]
theorem vernierref01_Cmp.tab4 : rtab .any (opsOf Try.f22 4) = vernierref01_Cmp.T4:=by kernel_rfl
theorem vernierref01_Cmp.bits4 : waitsOk vernierref01_Cmp.T4.2 vernierref01_Cmp.B4 = true:=by kernel_rfl
set_option maxHeartbeats 8000000 in
set_option maxRecDepth 100000 in
theorem vernierref01_Cmp.calls (k : Nat) (a0_0 : Int) (a0_1 : Int) (a1_0 : Int) (a1_1 : Int) (r : Int) (w : World) (h : vernierref01_Cmp.f k a0_0 a0_1 a1_0 a1_1 = some r) :
    Calls Try.prog 22 #[.agg #[.int .u64 a0_0,.int .u64 a0_1],.agg #[.int .u64 a1_0,.int .u64 a1_1]] w fun e w' => e = .returned (.int .i64 r)∧Below w.heap.size w w':=by
  have hu28:=Try.underlying28
  have HB:=A0.mk (Below.refl w.heap.size w)
  have H : (vernierref01_Cmp.l0 k 127 a0_0 a0_1 a1_0 a1_1) = some r:=h
  clear h
  have H':=A0.mk H
  clear H
  go_enter Try.func22,Try.ntmps22
  go_wp2_with (first|((with_reducible refine gD (N:=2) rfl ?_);refine bE ?hg (N:=2) ?hd (cs:=#[.int .u64 a0_0,.int .u64 a0_1]) (t:=28) ?hr ?_;(case hd => rfl);(case hg => rfl);(case hr => first|(go_simp;done)|(go_simp;rfl));intro gb113 hg w3 hbox hb;have n0_:=A0.mk (wT (by repeat (first|(with_reducible first|exact HB.out|apply wA|apply wN|apply wD)|exact HB.out)) hb);have n1_:=A0.mk (hbox);have n2_:=A0.mk ((by rw [hg];exact (wZ (by repeat (first|(with_reducible first|exact HB.out|apply wA|apply wN|apply wD)|exact HB.out))) : w.heap.size ≤ gb113));have n3_:=A0.mk ((by rw [hg];exact (wZ (by repeat (first|(with_reducible first|exact HB.out|apply wA|apply wN|apply wD)|exact HB.out))) : w.heap.size ≤ gb113));clear HB;have HB:=n0_;have BK113:=n1_;have GW113:=n2_;have GE113:=n3_;clear n0_ n1_ n2_ n3_;clear hb hbox hg)|((with_reducible refine gD (N:=3) rfl ?_);refine bE ?hg (N:=3) ?hd (cs:=#[.int .u64 a1_0,.int .u64 a1_1]) (t:=28) ?hr ?_;(case hd => rfl);(case hg => rfl);(case hr => first|(go_simp;done)|(go_simp;rfl));intro gb114 hg w4 hbox hb;have n0_:=A0.mk (bB (g:=gb113) (o:=.cells #[.int .u64 a0_0,.int .u64 a0_1] 28 (0,0)) (by (with_reducible repeat (first|refine bN ?_ _|refine bD ?_|refine bA ?_ _));exact BK113.out) hb);have n1_:=A0.mk (wT (by repeat (first|(with_reducible first|exact HB.out|apply wA|apply wN|apply wD|refine wS ?_ GE113.out)|exact HB.out)) hb);have n2_:=A0.mk (hbox);have n3_:=A0.mk ((by rw [hg];exact (wZ (by repeat (first|(with_reducible first|exact HB.out|apply wA|apply wN|apply wD|refine wS ?_ GE113.out)|exact HB.out))) : w.heap.size ≤ gb114));have n4_:=A0.mk ((by rw [hg];exact (wZ (by repeat (first|(with_reducible first|exact HB.out|apply wA|apply wN|apply wD|refine wS ?_ GE113.out)|exact HB.out))) : w.heap.size ≤ gb114));have n5_:=A0.mk ((by rw [hg];exact Nat.ne_of_lt (blk_lt (g:=gb113) (o:=.cells #[.int .u64 a0_0,.int .u64 a0_1] 28 (0,0)) (by (with_reducible repeat (first|refine bN ?_ _|refine bD ?_|refine bA ?_ _));exact BK113.out)) : gb113 ≠ gb114));have n6_:=A0.mk ((by rw [hg];exact Nat.ne_of_gt (blk_lt (g:=gb113) (o:=.cells #[.int .u64 a0_0,.int .u64 a0_1] 28 (0,0)) (by (with_reducible repeat (first|refine bN ?_ _|refine bD ?_|refine bA ?_ _));exact BK113.out)) : gb114 ≠ gb113));clear BK113;clear HB;have BK113:=n0_;have HB:=n1_;have BK114:=n2_;have GW114:=n3_;have GE114:=n4_;have NB113_114:=n5_;have NB114_113:=n6_;clear n0_ n1_ n2_ n3_ n4_ n5_ n6_;clear hb hbox hg))
  go_loopg [5] k (fun kq v5 w' => ∃ (x5_1 : Int),v5 = .int .i64 x5_1∧A0 (vernierref01_Cmp.l0 kq x5_1 a0_0 a0_1 a1_0 a1_1 = some r)∧A0 (kq ≤ k)∧A0 (w'.heap[gb113]? = some (.cells #[.int .u64 a0_0,.int .u64 a0_1] 28 (0,0)))∧A0 (w'.heap[gb114]? = some (.cells #[.int .u64 a1_0,.int .u64 a1_1] 28 (0,0)))∧A0 (Below w.heap.size w w'))
  case atStart => exact ⟨(127),(by first|rfl|(simp;done)|(simp [*];done)),H',⟨Nat.le_refl _⟩,⟨by (with_reducible repeat (first|refine bN ?_ _|refine bD ?_|refine bA ?_ _));exact BK113.out⟩,⟨by (with_reducible repeat (first|refine bN ?_ _|refine bD ?_|refine bA ?_ _));exact BK114.out⟩,⟨by repeat (first|(with_reducible first|exact HB.out|apply wA|apply wN|apply wD|refine wS ?_ GE113.out|refine wS ?_ GE114.out)|exact HB.out)⟩⟩
  case round =>
    clear H'
    try clear c2
    try clear p2
    obtain ⟨x5_1,rfl,HA,HK1,BK113,BK114,HB⟩:=hrel
    cases gk with
    | zero => exact absurd HA.out (by simp [vernierref01_Cmp.l0])
    | succ k1 =>
      have H:=HA.out
      clear HA
      simp only [vernierref01_Cmp.l0] at H
      by_cases c5 : x5_1 ≥ 0
      · rw [if_pos c5] at H
        have c5b0 : decide (0 ≤ x5_1) = true:=decide_eq_true c5
        clear c5;replace H:=Option.bind_eq_some_iff.mp H;obtain ⟨t115,A60,H⟩:=H
        replace H : ((vernierref01_Bit.f k1 a1_0 a1_1 x5_1).bind fun t116 => (if t115 < t116 then (some (-1)) else (if t115 > t116 then (some 1) else (vernierref01_Cmp.l0 k1 (wrap64 (x5_1 - 1)) a0_0 a0_1 a1_0 a1_1)))) = some r:=H
        have A6:=A0.mk A60;clear A60;replace H:=Option.bind_eq_some_iff.mp H;obtain ⟨t116,A70,H⟩:=H
        replace H : (if t115 < t116 then (some (-1)) else (if t115 > t116 then (some 1) else (vernierref01_Cmp.l0 k1 (wrap64 (x5_1 - 1)) a0_0 a0_1 a1_0 a1_1))) = some r:=H
        have A7:=A0.mk A70;clear A70
        by_cases c8 : t115 < t116
        · rw [if_pos c8] at H
          have c8b0 : decide (t115 < t116) = true:=decide_eq_true c8
          clear c8;obtain rfl:=Option.some.inj H
          try go_wp2
          have n0_:=A0.mk (bD BK113.out);have n1_:=A0.mk (bD BK114.out);have n2_:=A0.mk (wD HB.out);clear BK113;clear BK114;clear HB;have BK113:=n0_;have BK114:=n1_;have HB:=n2_;clear n0_ n1_ n2_
          refine start_ (n:=8) (S:=fun w' => w'.cell? ⟨gb113,0,none⟩ = some (.int .u64 a0_0)∧w'.cell? ⟨gb113,1,none⟩ = some (.int .u64 a0_1)∧w'.cell? ⟨gb114,0,none⟩ = some (.int .u64 a1_0)∧w'.cell? ⟨gb114,1,none⟩ = some (.int .u64 a1_1)) (ds:=[]) #[Z,Z,Z,Z,Z,Z,Z,Z] (by kernel_rfl) rfl rfl ⟨(bC BK113.out 0).trans rfl,(bC BK113.out 1).trans rfl,(bC BK114.out 0).trans rfl,(bC BK114.out 1).trans rfl⟩ (fun hHeld => ?_);refine with_tabW vernierref01_Cmp.tab4 vernierref01_Cmp.bits4 (fun HT_ HW_ => ?_)
          generalize wr.drew = w9 at BK113 BK114 HB hHeld ⊢
          refine pure_ (i:=1) (N:=some 13) (v:=?_) (a':=?_) #[Z,Y,Z,Z,Z,Z,Z,Z] rfl rfl (any_of HT_.out (by kernel_rfl)) (fun _ _ _ h => h) (Or.inl ⟨by rfl,?_⟩) ?_ ?_
          rotate_left;(intro w';go_simp;with_reducible rfl);rotate_left;(simp only [aP,lT,lZ,lS,i64_w,i32_w];rfl)
          refine pure_ (i:=4) (N:=some 16) (v:=?_) (a':=?_) #[Z,Y,Z,Z,Y,Z,Z,Z] rfl rfl (any_of HT_.out (by kernel_rfl)) (fun _ _ _ h => h) (Or.inl ⟨by rfl,?_⟩) ?_ ?_
          rotate_left;(intro w';go_simp;with_reducible rfl);rotate_left;(simp only [aP,lT,lZ,lS,i64_w,i32_w];rfl)
          refine take_ (i:=0) (N:=some 12) (v:=?_) (a':=?_) #[Y,Y,Z,Z,Y,Z,Z,Z] rfl rfl (take_ofW HT_.out HW_.out (by kernel_rfl)) (fun _ _ _ h => h) (Or.inl ⟨by rfl,?_⟩) hHeld ?_ ?_
          rotate_left;(rintro w' ⟨s0,s1,s2,s3⟩;go_simp;with_reducible rfl);rotate_left;(simp only [aP,lT,lZ,lS,i64_w,i32_w];rfl)
          refine take_ (i:=3) (N:=some 15) (v:=?_) (a':=?_) #[Y,Y,Z,Y,Y,Z,Z,Z] rfl rfl (take_ofW HT_.out HW_.out (by kernel_rfl)) (fun _ _ _ h => h) (Or.inl ⟨by rfl,?_⟩) hHeld ?_ ?_
          rotate_left;(rintro w' ⟨s0,s1,s2,s3⟩;go_simp;with_reducible rfl);rotate_left;(simp only [aP,lT,lZ,lS,i64_w,i32_w];rfl)
          refine one_ (i:=2) (N:=some 14) #[Y,Y,Y,Y,Y,Z,Z,Z] rfl rfl (one_of HT_.out (by kernel_rfl)) (by decide) (fun K hK => ?_)
          refine goes_ Try.func37 (by kernel_rfl) rfl #[.agg #[.int .u64 a0_0,.int .u64 a0_1],.int .i64 x5_1] (by rfl) rfl rfl (by (try simp only [mT,mC,mN]);first|done|rfl|(simp only [lD,lK];rfl)) ?_
          with_reducible refine (vernierref01_Bit.calls k1 a0_0 a0_1 x5_1 t115 _ A6.out).mono ?_
          rintro e w10 ⟨rfl,hb⟩;refine ⟨_,rfl,?_⟩;have n0_:=A0.mk (bB (g:=gb113) (o:=.cells #[.int .u64 a0_0,.int .u64 a0_1] 28 (0,0)) (by (with_reducible repeat (first|refine bN ?_ _|refine bD ?_|refine bA ?_ _));exact BK113.out) hb);have n1_:=A0.mk (bB (g:=gb114) (o:=.cells #[.int .u64 a1_0,.int .u64 a1_1] 28 (0,0)) (by (with_reducible repeat (first|refine bN ?_ _|refine bD ?_|refine bA ?_ _));exact BK114.out) hb);have n2_:=A0.mk (wT (by repeat (first|(with_reducible first|exact HB.out|apply wA|apply wN|apply wD|refine wS ?_ GE113.out|refine wS ?_ GE114.out)|exact HB.out)) hb);clear BK113;clear BK114;clear HB;have BK113:=n0_;have BK114:=n1_;have HB:=n2_;clear n0_ n1_ n2_;(try clear hb);(try clear hb2);(try clear hk);(try clear hi)
          refine hK.out _ _ ⟨(bC BK113.out 0).trans rfl,(bC BK113.out 1).trans rfl,(bC BK114.out 0).trans rfl,(bC BK114.out 1).trans rfl⟩ (fun hHeld => ?_)
          clear hK K
          refine norm_ (a':=?_) ?_ ?_
          rotate_left;(show Act.put _ (some 14) _ = _;simp only [aP,lT,lZ,lS,i64_w,i32_w];rfl)
          refine one_ (i:=5) (N:=some 17) #[Y,Y,Y,Y,Y,Y,Z,Z] rfl rfl (one_of HT_.out (by kernel_rfl)) (by decide) (fun K hK => ?_)
          refine goes_ Try.func37 (by kernel_rfl) rfl #[.agg #[.int .u64 a1_0,.int .u64 a1_1],.int .i64 x5_1] (by rfl) rfl rfl (by (try simp only [mT,mC,mN]);first|done|rfl|(simp only [lD,lK];rfl)) ?_
          with_reducible refine (vernierref01_Bit.calls k1 a1_0 a1_1 x5_1 t116 _ A7.out).mono ?_
          rintro e w11 ⟨rfl,hb⟩;refine ⟨_,rfl,?_⟩;have n0_:=A0.mk (bB (g:=gb113) (o:=.cells #[.int .u64 a0_0,.int .u64 a0_1] 28 (0,0)) (by (with_reducible repeat (first|refine bN ?_ _|refine bD ?_|refine bA ?_ _));exact BK113.out) hb);have n1_:=A0.mk (bB (g:=gb114) (o:=.cells #[.int .u64 a1_0,.int .u64 a1_1] 28 (0,0)) (by (with_reducible repeat (first|refine bN ?_ _|refine bD ?_|refine bA ?_ _));exact BK114.out) hb);have n2_:=A0.mk (wT (by repeat (first|(with_reducible first|exact HB.out|apply wA|apply wN|apply wD|refine wS ?_ GE113.out|refine wS ?_ GE114.out)|exact HB.out)) hb);clear BK113;clear BK114;clear HB;have BK113:=n0_;have BK114:=n1_;have HB:=n2_;clear n0_ n1_ n2_;(try clear hb);(try clear hb2);(try clear hk);(try clear hi)
          refine hK.out _ _ ⟨(bC BK113.out 0).trans rfl,(bC BK113.out 1).trans rfl,(bC BK114.out 0).trans rfl,(bC BK114.out 1).trans rfl⟩ (fun hHeld => ?_)
          clear hK K
          refine norm_ (a':=?_) ?_ ?_
          rotate_left;(show Act.put _ (some 17) _ = _;simp only [aP,lT,lZ,lS,i64_w,i32_w];rfl)
          refine pure_ (i:=6) (N:=some 6) (v:=?_) (a':=?_) #[Y,Y,Y,Y,Y,Y,Y,Z] rfl rfl (any_of HT_.out (by kernel_rfl)) (fun _ _ _ h => h) (Or.inl ⟨by rfl,?_⟩) ?_ ?_
          rotate_left;(intro w';go_simp;with_reducible rfl);rotate_left;(simp only [aP,lT,lZ,lS,i64_w,i32_w];rfl)
          refine pure_ (i:=7) (N:=some 7) (v:=?_) (a':=?_) #[Y,Y,Y,Y,Y,Y,Y,Y] rfl rfl (any_of HT_.out (by kernel_rfl)) (fun _ _ _ h => h) (Or.inl ⟨by rfl,?_⟩) ?_ ?_
          rotate_left;(intro w';go_simp;with_reducible rfl);rotate_left;(simp only [aP,lT,lZ,lS,i64_w,i32_w];rfl)
          refine done_ (done_of HT_.out (by kernel_rfl)) ?_
          try go_wp2
          go_ret
          exact ⟨by first|rfl|(simp [errW_none,errW_some] <;> rfl)|(simp [*,errW_none,errW_some] <;> rfl),by repeat (first|(with_reducible first|exact HB.out|apply wA|apply wN|apply wD|refine wS ?_ GE113.out|refine wS ?_ GE114.out)|exact HB.out)⟩
        · rw [if_neg c8] at H
          have c8b0 : decide (t115 < t116) = false:=decide_eq_false c8
          clear c8
          by_cases c12 : t115 > t116
          · rw [if_pos c12] at H
            have c12b0 : decide (t116 < t115) = true:=decide_eq_true c12
            clear c12;obtain rfl:=Option.some.inj H
            try go_wp2
            have n0_:=A0.mk (bD BK113.out);have n1_:=A0.mk (bD BK114.out);have n2_:=A0.mk (wD HB.out);clear BK113;clear BK114;clear HB;have BK113:=n0_;have BK114:=n1_;have HB:=n2_;clear n0_ n1_ n2_
            refine start_ (n:=8) (S:=fun w' => w'.cell? ⟨gb113,0,none⟩ = some (.int .u64 a0_0)∧w'.cell? ⟨gb113,1,none⟩ = some (.int .u64 a0_1)∧w'.cell? ⟨gb114,0,none⟩ = some (.int .u64 a1_0)∧w'.cell? ⟨gb114,1,none⟩ = some (.int .u64 a1_1)) (ds:=[]) #[Z,Z,Z,Z,Z,Z,Z,Z] (by kernel_rfl) rfl rfl ⟨(bC BK113.out 0).trans rfl,(bC BK113.out 1).trans rfl,(bC BK114.out 0).trans rfl,(bC BK114.out 1).trans rfl⟩ (fun hHeld => ?_);refine with_tabW vernierref01_Cmp.tab4 vernierref01_Cmp.bits4 (fun HT_ HW_ => ?_)
            generalize wr.drew = w13 at BK113 BK114 HB hHeld ⊢
            refine pure_ (i:=1) (N:=some 13) (v:=?_) (a':=?_) #[Z,Y,Z,Z,Z,Z,Z,Z] rfl rfl (any_of HT_.out (by kernel_rfl)) (fun _ _ _ h => h) (Or.inl ⟨by rfl,?_⟩) ?_ ?_
            rotate_left;(intro w';go_simp;with_reducible rfl);rotate_left;(simp only [aP,lT,lZ,lS,i64_w,i32_w];rfl)
            refine pure_ (i:=4) (N:=some 16) (v:=?_) (a':=?_) #[Z,Y,Z,Z,Y,Z,Z,Z] rfl rfl (any_of HT_.out (by kernel_rfl)) (fun _ _ _ h => h) (Or.inl ⟨by rfl,?_⟩) ?_ ?_
            rotate_left;(intro w';go_simp;with_reducible rfl);rotate_left;(simp only [aP,lT,lZ,lS,i64_w,i32_w];rfl)
            refine take_ (i:=0) (N:=some 12) (v:=?_) (a':=?_) #[Y,Y,Z,Z,Y,Z,Z,Z] rfl rfl (take_ofW HT_.out HW_.out (by kernel_rfl)) (fun _ _ _ h => h) (Or.inl ⟨by rfl,?_⟩) hHeld ?_ ?_
            rotate_left;(rintro w' ⟨s0,s1,s2,s3⟩;go_simp;with_reducible rfl);rotate_left;(simp only [aP,lT,lZ,lS,i64_w,i32_w];rfl)
            refine take_ (i:=3) (N:=some 15) (v:=?_) (a':=?_) #[Y,Y,Z,Y,Y,Z,Z,Z] rfl rfl (take_ofW HT_.out HW_.out (by kernel_rfl)) (fun _ _ _ h => h) (Or.inl ⟨by rfl,?_⟩) hHeld ?_ ?_
            rotate_left;(rintro w' ⟨s0,s1,s2,s3⟩;go_simp;with_reducible rfl);rotate_left;(simp only [aP,lT,lZ,lS,i64_w,i32_w];rfl)
            refine one_ (i:=2) (N:=some 14) #[Y,Y,Y,Y,Y,Z,Z,Z] rfl rfl (one_of HT_.out (by kernel_rfl)) (by decide) (fun K hK => ?_)
            refine goes_ Try.func37 (by kernel_rfl) rfl #[.agg #[.int .u64 a0_0,.int .u64 a0_1],.int .i64 x5_1] (by rfl) rfl rfl (by (try simp only [mT,mC,mN]);first|done|rfl|(simp only [lD,lK];rfl)) ?_
            with_reducible refine (vernierref01_Bit.calls k1 a0_0 a0_1 x5_1 t115 _ A6.out).mono ?_
            rintro e w14 ⟨rfl,hb⟩;refine ⟨_,rfl,?_⟩;have n0_:=A0.mk (bB (g:=gb113) (o:=.cells #[.int .u64 a0_0,.int .u64 a0_1] 28 (0,0)) (by (with_reducible repeat (first|refine bN ?_ _|refine bD ?_|refine bA ?_ _));exact BK113.out) hb);have n1_:=A0.mk (bB (g:=gb114) (o:=.cells #[.int .u64 a1_0,.int .u64 a1_1] 28 (0,0)) (by (with_reducible repeat (first|refine bN ?_ _|refine bD ?_|refine bA ?_ _));exact BK114.out) hb);have n2_:=A0.mk (wT (by repeat (first|(with_reducible first|exact HB.out|apply wA|apply wN|apply wD|refine wS ?_ GE113.out|refine wS ?_ GE114.out)|exact HB.out)) hb);clear BK113;clear BK114;clear HB;have BK113:=n0_;have BK114:=n1_;have HB:=n2_;clear n0_ n1_ n2_;(try clear hb);(try clear hb2);(try clear hk);(try clear hi)
            refine hK.out _ _ ⟨(bC BK113.out 0).trans rfl,(bC BK113.out 1).trans rfl,(bC BK114.out 0).trans rfl,(bC BK114.out 1).trans rfl⟩ (fun hHeld => ?_)
            clear hK K
            refine norm_ (a':=?_) ?_ ?_
            rotate_left;(show Act.put _ (some 14) _ = _;simp only [aP,lT,lZ,lS,i64_w,i32_w];rfl)
            refine one_ (i:=5) (N:=some 17) #[Y,Y,Y,Y,Y,Y,Z,Z] rfl rfl (one_of HT_.out (by kernel_rfl)) (by decide) (fun K hK => ?_)
            refine goes_ Try.func37 (by kernel_rfl) rfl #[.agg #[.int .u64 a1_0,.int .u64 a1_1],.int .i64 x5_1] (by rfl) rfl rfl (by (try simp only [mT,mC,mN]);first|done|rfl|(simp only [lD,lK];rfl)) ?_
            with_reducible refine (vernierref01_Bit.calls k1 a1_0 a1_1 x5_1 t116 _ A7.out).mono ?_
            rintro e w15 ⟨rfl,hb⟩;refine ⟨_,rfl,?_⟩;have n0_:=A0.mk (bB (g:=gb113) (o:=.cells #[.int .u64 a0_0,.int .u64 a0_1] 28 (0,0)) (by (with_reducible repeat (first|refine bN ?_ _|refine bD ?_|refine bA ?_ _));exact BK113.out) hb);have n1_:=A0.mk (bB (g:=gb114) (o:=.cells #[.int .u64 a1_0,.int .u64 a1_1] 28 (0,0)) (by (with_reducible repeat (first|refine bN ?_ _|refine bD ?_|refine bA ?_ _));exact BK114.out) hb);have n2_:=A0.mk (wT (by repeat (first|(with_reducible first|exact HB.out|apply wA|apply wN|apply wD|refine wS ?_ GE113.out|refine wS ?_ GE114.out)|exact HB.out)) hb);clear BK113;clear BK114;clear HB;have BK113:=n0_;have BK114:=n1_;have HB:=n2_;clear n0_ n1_ n2_;(try clear hb);(try clear hb2);(try clear hk);(try clear hi)
            refine hK.out _ _ ⟨(bC BK113.out 0).trans rfl,(bC BK113.out 1).trans rfl,(bC BK114.out 0).trans rfl,(bC BK114.out 1).trans rfl⟩ (fun hHeld => ?_)
            clear hK K
            refine norm_ (a':=?_) ?_ ?_
            rotate_left;(show Act.put _ (some 17) _ = _;simp only [aP,lT,lZ,lS,i64_w,i32_w];rfl)
            refine pure_ (i:=6) (N:=some 6) (v:=?_) (a':=?_) #[Y,Y,Y,Y,Y,Y,Y,Z] rfl rfl (any_of HT_.out (by kernel_rfl)) (fun _ _ _ h => h) (Or.inl ⟨by rfl,?_⟩) ?_ ?_
            rotate_left;(intro w';go_simp;with_reducible rfl);rotate_left;(simp only [aP,lT,lZ,lS,i64_w,i32_w];rfl)
            refine pure_ (i:=7) (N:=some 7) (v:=?_) (a':=?_) #[Y,Y,Y,Y,Y,Y,Y,Y] rfl rfl (any_of HT_.out (by kernel_rfl)) (fun _ _ _ h => h) (Or.inl ⟨by rfl,?_⟩) ?_ ?_
            rotate_left;(intro w';go_simp;with_reducible rfl);rotate_left;(simp only [aP,lT,lZ,lS,i64_w,i32_w];rfl)
            refine done_ (done_of HT_.out (by kernel_rfl)) ?_
            try go_wp2
            go_ret
            exact ⟨by first|rfl|(simp [errW_none,errW_some] <;> rfl)|(simp [*,errW_none,errW_some] <;> rfl),by repeat (first|(with_reducible first|exact HB.out|apply wA|apply wN|apply wD|refine wS ?_ GE113.out|refine wS ?_ GE114.out)|exact HB.out)⟩
          · rw [if_neg c12] at H
            have c12b0 : decide (t116 < t115) = false:=decide_eq_false c12
            clear c12
            have H':=A0.mk H
            clear H
            try go_wp2
            have n0_:=A0.mk (bD BK113.out);have n1_:=A0.mk (bD BK114.out);have n2_:=A0.mk (wD HB.out);clear BK113;clear BK114;clear HB;have BK113:=n0_;have BK114:=n1_;have HB:=n2_;clear n0_ n1_ n2_
            refine start_ (n:=8) (S:=fun w' => w'.cell? ⟨gb113,0,none⟩ = some (.int .u64 a0_0)∧w'.cell? ⟨gb113,1,none⟩ = some (.int .u64 a0_1)∧w'.cell? ⟨gb114,0,none⟩ = some (.int .u64 a1_0)∧w'.cell? ⟨gb114,1,none⟩ = some (.int .u64 a1_1)) (ds:=[]) #[Z,Z,Z,Z,Z,Z,Z,Z] (by kernel_rfl) rfl rfl ⟨(bC BK113.out 0).trans rfl,(bC BK113.out 1).trans rfl,(bC BK114.out 0).trans rfl,(bC BK114.out 1).trans rfl⟩ (fun hHeld => ?_);refine with_tabW vernierref01_Cmp.tab4 vernierref01_Cmp.bits4 (fun HT_ HW_ => ?_)
            generalize wr.drew = w16 at BK113 BK114 HB hHeld ⊢
            refine pure_ (i:=1) (N:=some 13) (v:=?_) (a':=?_) #[Z,Y,Z,Z,Z,Z,Z,Z] rfl rfl (any_of HT_.out (by kernel_rfl)) (fun _ _ _ h => h) (Or.inl ⟨by rfl,?_⟩) ?_ ?_
            rotate_left;(intro w';go_simp;with_reducible rfl);rotate_left;(simp only [aP,lT,lZ,lS,i64_w,i32_w];rfl)
            refine pure_ (i:=4) (N:=some 16) (v:=?_) (a':=?_) #[Z,Y,Z,Z,Y,Z,Z,Z] rfl rfl (any_of HT_.out (by kernel_rfl)) (fun _ _ _ h => h) (Or.inl ⟨by rfl,?_⟩) ?_ ?_
            rotate_left;(intro w';go_simp;with_reducible rfl);rotate_left;(simp only [aP,lT,lZ,lS,i64_w,i32_w];rfl)
            refine take_ (i:=0) (N:=some 12) (v:=?_) (a':=?_) #[Y,Y,Z,Z,Y,Z,Z,Z] rfl rfl (take_ofW HT_.out HW_.out (by kernel_rfl)) (fun _ _ _ h => h) (Or.inl ⟨by rfl,?_⟩) hHeld ?_ ?_
            rotate_left;(rintro w' ⟨s0,s1,s2,s3⟩;go_simp;with_reducible rfl);rotate_left;(simp only [aP,lT,lZ,lS,i64_w,i32_w];rfl)
            refine take_ (i:=3) (N:=some 15) (v:=?_) (a':=?_) #[Y,Y,Z,Y,Y,Z,Z,Z] rfl rfl (take_ofW HT_.out HW_.out (by kernel_rfl)) (fun _ _ _ h => h) (Or.inl ⟨by rfl,?_⟩) hHeld ?_ ?_
            rotate_left;(rintro w' ⟨s0,s1,s2,s3⟩;go_simp;with_reducible rfl);rotate_left;(simp only [aP,lT,lZ,lS,i64_w,i32_w];rfl)
            refine one_ (i:=2) (N:=some 14) #[Y,Y,Y,Y,Y,Z,Z,Z] rfl rfl (one_of HT_.out (by kernel_rfl)) (by decide) (fun K hK => ?_)
            refine goes_ Try.func37 (by kernel_rfl) rfl #[.agg #[.int .u64 a0_0,.int .u64 a0_1],.int .i64 x5_1] (by rfl) rfl rfl (by (try simp only [mT,mC,mN]);first|done|rfl|(simp only [lD,lK];rfl)) ?_
            with_reducible refine (vernierref01_Bit.calls k1 a0_0 a0_1 x5_1 t115 _ A6.out).mono ?_
            rintro e w17 ⟨rfl,hb⟩;refine ⟨_,rfl,?_⟩;have n0_:=A0.mk (bB (g:=gb113) (o:=.cells #[.int .u64 a0_0,.int .u64 a0_1] 28 (0,0)) (by (with_reducible repeat (first|refine bN ?_ _|refine bD ?_|refine bA ?_ _));exact BK113.out) hb);have n1_:=A0.mk (bB (g:=gb114) (o:=.cells #[.int .u64 a1_0,.int .u64 a1_1] 28 (0,0)) (by (with_reducible repeat (first|refine bN ?_ _|refine bD ?_|refine bA ?_ _));exact BK114.out) hb);have n2_:=A0.mk (wT (by repeat (first|(with_reducible first|exact HB.out|apply wA|apply wN|apply wD|refine wS ?_ GE113.out|refine wS ?_ GE114.out)|exact HB.out)) hb);clear BK113;clear BK114;clear HB;have BK113:=n0_;have BK114:=n1_;have HB:=n2_;clear n0_ n1_ n2_;(try clear hb);(try clear hb2);(try clear hk);(try clear hi)
            refine hK.out _ _ ⟨(bC BK113.out 0).trans rfl,(bC BK113.out 1).trans rfl,(bC BK114.out 0).trans rfl,(bC BK114.out 1).trans rfl⟩ (fun hHeld => ?_)
            clear hK K
            refine norm_ (a':=?_) ?_ ?_
            rotate_left;(show Act.put _ (some 14) _ = _;simp only [aP,lT,lZ,lS,i64_w,i32_w];rfl)
            refine one_ (i:=5) (N:=some 17) #[Y,Y,Y,Y,Y,Y,Z,Z] rfl rfl (one_of HT_.out (by kernel_rfl)) (by decide) (fun K hK => ?_)
            refine goes_ Try.func37 (by kernel_rfl) rfl #[.agg #[.int .u64 a1_0,.int .u64 a1_1],.int .i64 x5_1] (by rfl) rfl rfl (by (try simp only [mT,mC,mN]);first|done|rfl|(simp only [lD,lK];rfl)) ?_
            with_reducible refine (vernierref01_Bit.calls k1 a1_0 a1_1 x5_1 t116 _ A7.out).mono ?_
            rintro e w18 ⟨rfl,hb⟩;refine ⟨_,rfl,?_⟩;have n0_:=A0.mk (bB (g:=gb113) (o:=.cells #[.int .u64 a0_0,.int .u64 a0_1] 28 (0,0)) (by (with_reducible repeat (first|refine bN ?_ _|refine bD ?_|refine bA ?_ _));exact BK113.out) hb);have n1_:=A0.mk (bB (g:=gb114) (o:=.cells #[.int .u64 a1_0,.int .u64 a1_1] 28 (0,0)) (by (with_reducible repeat (first|refine bN ?_ _|refine bD ?_|refine bA ?_ _));exact BK114.out) hb);have n2_:=A0.mk (wT (by repeat (first|(with_reducible first|exact HB.out|apply wA|apply wN|apply wD|refine wS ?_ GE113.out|refine wS ?_ GE114.out)|exact HB.out)) hb);clear BK113;clear BK114;clear HB;have BK113:=n0_;have BK114:=n1_;have HB:=n2_;clear n0_ n1_ n2_;(try clear hb);(try clear hb2);(try clear hk);(try clear hi)
            refine hK.out _ _ ⟨(bC BK113.out 0).trans rfl,(bC BK113.out 1).trans rfl,(bC BK114.out 0).trans rfl,(bC BK114.out 1).trans rfl⟩ (fun hHeld => ?_)
            clear hK K
            refine norm_ (a':=?_) ?_ ?_
            rotate_left;(show Act.put _ (some 17) _ = _;simp only [aP,lT,lZ,lS,i64_w,i32_w];rfl)
            refine pure_ (i:=6) (N:=some 6) (v:=?_) (a':=?_) #[Y,Y,Y,Y,Y,Y,Y,Z] rfl rfl (any_of HT_.out (by kernel_rfl)) (fun _ _ _ h => h) (Or.inl ⟨by rfl,?_⟩) ?_ ?_
            rotate_left;(intro w';go_simp;with_reducible rfl);rotate_left;(simp only [aP,lT,lZ,lS,i64_w,i32_w];rfl)
            refine pure_ (i:=7) (N:=some 7) (v:=?_) (a':=?_) #[Y,Y,Y,Y,Y,Y,Y,Y] rfl rfl (any_of HT_.out (by kernel_rfl)) (fun _ _ _ h => h) (Or.inl ⟨by rfl,?_⟩) ?_ ?_
            rotate_left;(intro w';go_simp;with_reducible rfl);rotate_left;(simp only [aP,lT,lZ,lS,i64_w,i32_w];rfl)
            refine done_ (done_of HT_.out (by kernel_rfl)) ?_
            try go_wp2
            go_roundg k1
            case measure => have:=HK1.out;omega
            case rel => exact ⟨(wrap64 (x5_1 - 1)),(by first|rfl|(simp;done)|(simp [*];done)),H',⟨by have:=HK1.out;omega⟩,⟨by (with_reducible repeat (first|refine bN ?_ _|refine bD ?_|refine bA ?_ _));exact BK113.out⟩,⟨by (with_reducible repeat (first|refine bN ?_ _|refine bD ?_|refine bA ?_ _));exact BK114.out⟩,⟨by repeat (first|(with_reducible first|exact HB.out|apply wA|apply wN|apply wD|refine wS ?_ GE113.out|refine wS ?_ GE114.out)|exact HB.out)⟩⟩
      · rw [if_neg c5] at H
        have c5b0 : decide (0 ≤ x5_1) = false:=decide_eq_false c5
        clear c5;obtain rfl:=Option.some.inj H
        go_wp2
        go_ret
        exact ⟨by first|rfl|(simp [errW_none,errW_some] <;> rfl)|(simp [*,errW_none,errW_some] <;> rfl),by repeat (first|(with_reducible first|exact HB.out|apply wA|apply wN|apply wD|refine wS ?_ GE113.out|refine wS ?_ GE114.out)|exact HB.out)⟩

end Go.Proofs.Ytidjigoghdghiaa.V
