/- Contracts of the program's functions, each: where the printed function answers, the call answers the same. Written by vprint.py, this session's own program over the kit's print.py; Lean checks it. No conditions beyond those that each states. -/
import Derived.Test.YtidjigoghdghiaaVx0
import Derived.Test.YtidjigoghdghiaaVx4
import Derived.Test.YtidjigoghdghiaaVx18
namespace Go.Proofs.Ytidjigoghdghiaa.V
open Go.RowKit Go.Proofs.YtidjigoghdghiaaQ.PrintWords Go.Proofs.YtidjigoghdghiaaQ.PrintLast Go.Proofs.YtidjigoghdghiaaQ.PrintMore
open Bool renaming true → Y, false → Z
open List renaming setIfInBounds_toArray → lT, set_cons_zero → lZ, set_cons_succ → lS, map_toArray → mT, map_cons → mC, map_nil → mN, length_drop → lD, length_take → lK
open Act renaming put → aP
attribute [local go_sem] max2_int min2_int max_two min_two max_three min_three max_four min_four   -- for this text's walks alone
set_option linter.unusedVariables false
set_option linter.unusedSimpArgs false

/-! ### vernierref01_Jam: function 30 -/
mutual
def vernierref01_Jam.l0 : Nat→Int→Int→Int→Int→Int→Int→Option (Int × Int)
  | 0,_,_,_,_,_,_ => none
  | k + 1,x1,x6,x314000,x314001,x318000,x318001 => if x6 < 128 then (vernierref01_Jam.j1 k x1 x6 (decide (x6 < x1)) x314000 x314001 x318000 x318001) else (vernierref01_Jam.j1 k x1 x6 false x314000 x314001 x318000 x318001)
def vernierref01_Jam.j1 : Nat→Int→Int→Bool→Int→Int→Int→Int→Option (Int × Int)
  | 0,_,_,_,_,_,_,_ => none
  | k + 1,x1,x6,x16,x314000,x314001,x318000,x318001 => if x16 = true then ((vernierref01_Bit.f k x314000 x314001 x6).bind fun t318 => (if t318 = 1 then (vernierref01_Jam.l0 k x1 (wrap64 (x6 + 1)) x314000 x314001 x318000 (Go.bits .or .u64 x318001 1)) else (vernierref01_Jam.l0 k x1 (wrap64 (x6 + 1)) x314000 x314001 x318000 x318001))) else (some (x318000,x318001))
end
def vernierref01_Jam.f (k : Nat) (a0_0 : Int) (a0_1 : Int) (a1 : Int) : Option (Int × Int):=(vernierref01_Shr.f k a0_0 a0_1 a1).bind fun bt315 => (vernierref01_Jam.l0 k a1 0 a0_0 a0_1 bt315.1 bt315.2)
theorem vernierref01_Jam.mono_l : ∀ k,(∀ y0 y1 y2 y3 y4 y5,LeO (vernierref01_Jam.l0 k y0 y1 y2 y3 y4 y5) (vernierref01_Jam.l0 (k + 1) y0 y1 y2 y3 y4 y5))∧(∀ y0 y1 y2 y3 y4 y5 y6,LeO (vernierref01_Jam.j1 k y0 y1 y2 y3 y4 y5 y6) (vernierref01_Jam.j1 (k + 1) y0 y1 y2 y3 y4 y5 y6))
  | 0 => ⟨fun _ _ _ _ _ _ r h => by simp [vernierref01_Jam.l0] at h,fun _ _ _ _ _ _ _ r h => by simp [vernierref01_Jam.j1] at h⟩
  | k + 1 => by
    obtain ⟨ih0,ih1⟩:=vernierref01_Jam.mono_l k
    refine ⟨?_,?_⟩
    · intro y0 y1 y2 y3 y4 y5
      unfold vernierref01_Jam.l0
      repeat' first
      | (with_reducible exact ih0 _ _ _ _ _ _)
      | (with_reducible exact ih1 _ _ _ _ _ _ _)
      | (with_reducible exact vernierref01_Bit.mono _ _ _ _)
      | (with_reducible exact vernierref01_Shr.mono _ _ _ _)
      | (with_reducible exact LeO.refl _)
      | (with_reducible exact LeO.none _)
      | (with_reducible refine LeO.ite ?_ ?_)
      | (with_reducible refine LeO.bind ?_ (fun _ => ?_))
      | exact ih0 _ _ _ _ _ _
      | exact ih1 _ _ _ _ _ _ _
      | exact vernierref01_Bit.mono _ _ _ _
      | exact vernierref01_Shr.mono _ _ _ _
      | exact LeO.none _
      | refine LeO.ite ?_ ?_
      | refine LeO.bind ?_ (fun _ => ?_)
    · intro y0 y1 y2 y3 y4 y5 y6
      unfold vernierref01_Jam.j1
      repeat' first
      | (with_reducible exact ih0 _ _ _ _ _ _)
      | (with_reducible exact ih1 _ _ _ _ _ _ _)
      | (with_reducible exact vernierref01_Bit.mono _ _ _ _)
      | (with_reducible exact vernierref01_Shr.mono _ _ _ _)
      | (with_reducible exact LeO.refl _)
      | (with_reducible exact LeO.none _)
      | (with_reducible refine LeO.ite ?_ ?_)
      | (with_reducible refine LeO.bind ?_ (fun _ => ?_))
      | exact ih0 _ _ _ _ _ _
      | exact ih1 _ _ _ _ _ _ _
      | exact vernierref01_Bit.mono _ _ _ _
      | exact vernierref01_Shr.mono _ _ _ _
      | exact LeO.none _
      | refine LeO.ite ?_ ?_
      | refine LeO.bind ?_ (fun _ => ?_)
theorem vernierref01_Jam.mono : ∀ a0 a1 a2 k,LeO (vernierref01_Jam.f k a0 a1 a2) (vernierref01_Jam.f (k + 1) a0 a1 a2):=by
  intro a0 a1 a2 k
  obtain ⟨ih0,ih1⟩:=vernierref01_Jam.mono_l k
  unfold vernierref01_Jam.f
  repeat' first
      | (with_reducible exact ih0 _ _ _ _ _ _)
      | (with_reducible exact ih1 _ _ _ _ _ _ _)
      | (with_reducible exact vernierref01_Bit.mono _ _ _ _)
      | (with_reducible exact vernierref01_Shr.mono _ _ _ _)
      | (with_reducible exact LeO.refl _)
      | (with_reducible exact LeO.none _)
      | (with_reducible refine LeO.ite ?_ ?_)
      | (with_reducible refine LeO.bind ?_ (fun _ => ?_))
      | exact ih0 _ _ _ _ _ _
      | exact ih1 _ _ _ _ _ _ _
      | exact vernierref01_Bit.mono _ _ _ _
      | exact vernierref01_Shr.mono _ _ _ _
      | exact LeO.none _
      | refine LeO.ite ?_ ?_
      | refine LeO.bind ?_ (fun _ => ?_)
set_option maxHeartbeats 8000000 in
set_option maxRecDepth 100000 in
theorem vernierref01_Jam.calls (k : Nat) (a0_0 : Int) (a0_1 : Int) (a1 : Int) (r1 : Int) (r2 : Int) (w : World) (h : vernierref01_Jam.f k a0_0 a0_1 a1 = some (r1,r2)) :
    Calls Try.prog 30 #[.agg #[.int .u64 a0_0,.int .u64 a0_1],.int .i64 a1] w fun e w' => e = .returned (.agg #[.int .u64 r1,.int .u64 r2])∧Below w.heap.size w w':=by
  have hu28:=Try.underlying28
  have HB:=A0.mk (Below.refl w.heap.size w)
  have H : ((vernierref01_Shr.f k a0_0 a0_1 a1).bind fun bt315 => (vernierref01_Jam.l0 k a1 0 a0_0 a0_1 bt315.1 bt315.2)) = some (r1,r2):=h
  clear h;replace H:=Option.bind_eq_some_iff.mp H;obtain ⟨⟨t315,t316⟩,A30,H⟩:=H
  replace H : (vernierref01_Jam.l0 k a1 0 a0_0 a0_1 t315 t316) = some (r1,r2):=H
  have A3:=A0.mk A30;clear A30
  have H':=A0.mk H
  clear H
  go_enter Try.func30,Try.ntmps30
  go_wp2_with (first|((with_reducible refine gD (N:=2) rfl ?_);refine bE ?hg (N:=2) ?hd (cs:=#[.int .u64 a0_0,.int .u64 a0_1]) (t:=28) ?hr ?_;(case hd => rfl);(case hg => rfl);(case hr => first|(go_simp;done)|(go_simp;rfl));intro gb313 hg w4 hbox hb;have n0_:=A0.mk (wT (by repeat (first|(with_reducible first|exact HB.out|apply wA|apply wN|apply wD)|exact HB.out)) hb);have n1_:=A0.mk (hbox);have n2_:=A0.mk ((by rw [hg];exact (wZ (by repeat (first|(with_reducible first|exact HB.out|apply wA|apply wN|apply wD)|exact HB.out))) : w.heap.size ≤ gb313));have n3_:=A0.mk ((by rw [hg];exact (wZ (by repeat (first|(with_reducible first|exact HB.out|apply wA|apply wN|apply wD)|exact HB.out))) : w.heap.size ≤ gb313));clear HB;have HB:=n0_;have BK313:=n1_;have GW313:=n2_;have GE313:=n3_;clear n0_ n1_ n2_ n3_;clear hb hbox hg)|((with_reducible refine gD (N:=4) rfl ?_);refine bE ?hg (N:=4) ?hd (cs:=#[.int .u64 0,.int .u64 0]) (t:=28) ?hr ?_;(case hd => rfl);(case hg => rfl);(case hr => first|(go_simp;done)|(go_simp;rfl));intro gb314 hg w5 hbox hb;have n0_:=A0.mk (bB (g:=gb313) (o:=.cells #[.int .u64 a0_0,.int .u64 a0_1] 28 (0,0)) (by (with_reducible repeat (first|refine bN ?_ _|refine bD ?_|refine bA ?_ _));exact BK313.out) hb);have n1_:=A0.mk (wT (by repeat (first|(with_reducible first|exact HB.out|apply wA|apply wN|apply wD|refine wS ?_ GE313.out)|exact HB.out)) hb);have n2_:=A0.mk (hbox);have n3_:=A0.mk ((by rw [hg];exact (wZ (by repeat (first|(with_reducible first|exact HB.out|apply wA|apply wN|apply wD|refine wS ?_ GE313.out)|exact HB.out))) : w.heap.size ≤ gb314));have n4_:=A0.mk ((by rw [hg];exact (wZ (by repeat (first|(with_reducible first|exact HB.out|apply wA|apply wN|apply wD|refine wS ?_ GE313.out)|exact HB.out))) : w.heap.size ≤ gb314));have n5_:=A0.mk ((by rw [hg];exact Nat.ne_of_lt (blk_lt (g:=gb313) (o:=.cells #[.int .u64 a0_0,.int .u64 a0_1] 28 (0,0)) (by (with_reducible repeat (first|refine bN ?_ _|refine bD ?_|refine bA ?_ _));exact BK313.out)) : gb313 ≠ gb314));have n6_:=A0.mk ((by rw [hg];exact Nat.ne_of_gt (blk_lt (g:=gb313) (o:=.cells #[.int .u64 a0_0,.int .u64 a0_1] 28 (0,0)) (by (with_reducible repeat (first|refine bN ?_ _|refine bD ?_|refine bA ?_ _));exact BK313.out)) : gb314 ≠ gb313));clear BK313;clear HB;have BK313:=n0_;have HB:=n1_;have BK314:=n2_;have GW314:=n3_;have GE314:=n4_;have NB313_314:=n5_;have NB314_313:=n6_;clear n0_ n1_ n2_ n3_ n4_ n5_ n6_;clear hb hbox hg;have hnb6:=NB313_314.out;have hnc6:=NB314_313.out;have hcz7_0 : w5.cell? ⟨gb313,0,none⟩ = some (.int .u64 a0_0):=(bC BK313.out 0).trans rfl;have hcz7_1 : w5.cell? ⟨gb313,1,none⟩ = some (.int .u64 a0_1):=(bC BK313.out 1).trans rfl;have hfz7_0:=bF BK313.out 0;have hfz7_1:=bF BK313.out 1)|((with_reducible refine gC (f:=28) rfl ?_);refine goesL_ (some 9) rfl rfl Try.func28 (by kernel_rfl) rfl #[.agg #[.int .u64 a0_0,.int .u64 a0_1],.int .i64 a1] rfl (by (try simp only [mT,mC,mN]);first|done|rfl|(simp only [lD,lK];rfl)) ?_;(with_reducible refine (vernierref01_Shr.calls k a0_0 a0_1 a1 t315 t316 _ A3.out).mono ?_);rintro e w8 ⟨rfl,hb⟩;refine ⟨_,rfl,?_⟩;have n0_:=A0.mk (bB (g:=gb313) (o:=.cells #[.int .u64 a0_0,.int .u64 a0_1] 28 (0,0)) (by (with_reducible repeat (first|refine bN ?_ _|refine bD ?_|refine bA ?_ _));exact BK313.out) hb);have n1_:=A0.mk (bB (g:=gb314) (o:=.cells #[.int .u64 0,.int .u64 0] 28 (0,0)) (by (with_reducible repeat (first|refine bN ?_ _|refine bD ?_|refine bA ?_ _));exact BK314.out) hb);have n2_:=A0.mk (wT (by repeat (first|(with_reducible first|exact HB.out|apply wA|apply wN|apply wD|refine wS ?_ GE313.out|refine wS ?_ GE314.out)|exact HB.out)) hb);clear BK313;clear BK314;clear HB;have BK313:=n0_;have BK314:=n1_;have HB:=n2_;clear n0_ n1_ n2_;(try clear hb);(try clear hb2);(try clear hk);(try clear hi))|((with_reducible refine gD (N:=5) rfl ?_);refine bE ?hg (N:=5) ?hd (cs:=#[.int .u64 0,.int .u64 0]) (t:=28) ?hr ?_;(case hd => rfl);(case hg => rfl);(case hr => first|(go_simp;done)|(go_simp;rfl));intro gb317 hg w9 hbox hb;have n0_:=A0.mk (bB (g:=gb313) (o:=.cells #[.int .u64 a0_0,.int .u64 a0_1] 28 (0,0)) (by (with_reducible repeat (first|refine bN ?_ _|refine bD ?_|refine bA ?_ _));exact BK313.out) hb);have n1_:=A0.mk (bB (g:=gb314) (o:=.cells #[.int .u64 0,.int .u64 0] 28 (0,0)) (by (with_reducible repeat (first|refine bN ?_ _|refine bD ?_|refine bA ?_ _));exact BK314.out) hb);have n2_:=A0.mk (wT (by repeat (first|(with_reducible first|exact HB.out|apply wA|apply wN|apply wD|refine wS ?_ GE313.out|refine wS ?_ GE314.out)|exact HB.out)) hb);have n3_:=A0.mk (hbox);have n4_:=A0.mk ((by rw [hg];exact (wZ (by repeat (first|(with_reducible first|exact HB.out|apply wA|apply wN|apply wD|refine wS ?_ GE313.out|refine wS ?_ GE314.out)|exact HB.out))) : w.heap.size ≤ gb317));have n5_:=A0.mk ((by rw [hg];exact (wZ (by repeat (first|(with_reducible first|exact HB.out|apply wA|apply wN|apply wD|refine wS ?_ GE313.out|refine wS ?_ GE314.out)|exact HB.out))) : w.heap.size ≤ gb317));have n6_:=A0.mk ((by rw [hg];exact Nat.ne_of_lt (blk_lt (g:=gb313) (o:=.cells #[.int .u64 a0_0,.int .u64 a0_1] 28 (0,0)) (by (with_reducible repeat (first|refine bN ?_ _|refine bD ?_|refine bA ?_ _));exact BK313.out)) : gb313 ≠ gb317));have n7_:=A0.mk ((by rw [hg];exact Nat.ne_of_gt (blk_lt (g:=gb313) (o:=.cells #[.int .u64 a0_0,.int .u64 a0_1] 28 (0,0)) (by (with_reducible repeat (first|refine bN ?_ _|refine bD ?_|refine bA ?_ _));exact BK313.out)) : gb317 ≠ gb313));have n8_:=A0.mk ((by rw [hg];exact Nat.ne_of_lt (blk_lt (g:=gb314) (o:=.cells #[.int .u64 0,.int .u64 0] 28 (0,0)) (by (with_reducible repeat (first|refine bN ?_ _|refine bD ?_|refine bA ?_ _));exact BK314.out)) : gb314 ≠ gb317));have n9_:=A0.mk ((by rw [hg];exact Nat.ne_of_gt (blk_lt (g:=gb314) (o:=.cells #[.int .u64 0,.int .u64 0] 28 (0,0)) (by (with_reducible repeat (first|refine bN ?_ _|refine bD ?_|refine bA ?_ _));exact BK314.out)) : gb317 ≠ gb314));clear BK313;clear BK314;clear HB;have BK313:=n0_;have BK314:=n1_;have HB:=n2_;have BK317:=n3_;have GW317:=n4_;have GE317:=n5_;have NB313_317:=n6_;have NB317_313:=n7_;have NB314_317:=n8_;have NB317_314:=n9_;clear n0_ n1_ n2_ n3_ n4_ n5_ n6_ n7_ n8_ n9_;clear hb hbox hg;have hnb10:=NB317_313.out;have hnc10:=NB313_317.out;have hnb11:=NB317_314.out;have hnc11:=NB314_317.out;have hcz12_0 : w9.cell? ⟨gb317,0,none⟩ = some (.int .u64 0):=(bC BK317.out 0).trans rfl;have hcz12_1 : w9.cell? ⟨gb317,1,none⟩ = some (.int .u64 0):=(bC BK317.out 1).trans rfl;have hfz12_0:=bF BK317.out 0;have hfz12_1:=bF BK317.out 1))
  go_loopg [6] k (fun kq v6 w' => ∃ (x6_1 : Int) (x318001_1 : Int),v6 = .int .i64 x6_1∧A0 (vernierref01_Jam.l0 kq a1 x6_1 a0_0 a0_1 t315 x318001_1 = some (r1,r2))∧A0 (kq ≤ k)∧A0 (w'.heap[gb313]? = some (.cells #[.int .u64 a0_0,.int .u64 a0_1] 28 (0,0)))∧A0 (w'.heap[gb314]? = some (.cells #[.int .u64 0,.int .u64 0] 28 (0,0)))∧A0 (w'.heap[gb317]? = some (.cells #[.int .u64 t315,.int .u64 x318001_1] 28 (0,0)))∧A0 (Below w.heap.size w w'))
  case atStart => exact ⟨(0),(t316),(by first|rfl|(simp;done)|(simp [*];done)),H',⟨Nat.le_refl _⟩,⟨by (with_reducible repeat (first|refine bN ?_ _|refine bD ?_|refine bA ?_ _));refine bR ?_ NB313_317.out _;(with_reducible repeat (first|refine bN ?_ _|refine bD ?_|refine bA ?_ _));refine bR ?_ NB313_317.out _;(with_reducible repeat (first|refine bN ?_ _|refine bD ?_|refine bA ?_ _));exact BK313.out⟩,⟨by (with_reducible repeat (first|refine bN ?_ _|refine bD ?_|refine bA ?_ _));refine bR ?_ NB314_317.out _;(with_reducible repeat (first|refine bN ?_ _|refine bD ?_|refine bA ?_ _));refine bR ?_ NB314_317.out _;(with_reducible repeat (first|refine bN ?_ _|refine bD ?_|refine bA ?_ _));exact BK314.out⟩,⟨by (with_reducible repeat (first|refine bN ?_ _|refine bD ?_|refine bA ?_ _));refine bP (cs:=#[.int .u64 t315,.int .u64 0]) ?_ 1 _ rfl;(with_reducible repeat (first|refine bN ?_ _|refine bD ?_|refine bA ?_ _));refine bP (cs:=#[.int .u64 0,.int .u64 0]) ?_ 0 _ rfl;(with_reducible repeat (first|refine bN ?_ _|refine bD ?_|refine bA ?_ _));exact BK317.out⟩,⟨by repeat (first|(with_reducible first|exact HB.out|apply wA|apply wN|apply wD|refine wS ?_ GE313.out|refine wS ?_ GE314.out|refine wS ?_ GE317.out)|exact HB.out)⟩⟩
  case round =>
    clear H'
    try clear c1
    try clear c2
    try clear p2
    try clear c3
    try clear c6
    try clear c10
    try clear c11
    try clear hcz12_0
    try clear hcz12_1
    try clear hcz7_0
    try clear hcz7_1
    try clear hfz12_0
    try clear hfz12_1
    try clear hfz7_0
    try clear hfz7_1
    obtain ⟨x6_1,x318001_1,rfl,HA,HK1,BK313,BK314,BK317,HB⟩:=hrel
    cases gk with
    | zero => exact absurd HA.out (by simp [vernierref01_Jam.l0])
    | succ k1 =>
      have H:=HA.out
      clear HA
      simp only [vernierref01_Jam.l0] at H
      have HC13:=A0.mk H;clear H
      go_upto_region 3 with (fail)
      go_cut [16] (fun v16 wc => ∃ (kq : Nat) (x16_12 : Bool),v16 = .bool x16_12∧A0 (vernierref01_Jam.j1 kq a1 x6_1 x16_12 a0_0 a0_1 t315 x318001_1 = some (r1,r2))∧A0 (kq ≤ k1)∧A0 (wc.heap[gb313]? = some (.cells #[.int .u64 a0_0,.int .u64 a0_1] 28 (0,0)))∧A0 (wc.heap[gb314]? = some (.cells #[.int .u64 0,.int .u64 0] 28 (0,0)))∧A0 (wc.heap[gb317]? = some (.cells #[.int .u64 t315,.int .u64 x318001_1] 28 (0,0)))∧A0 (Below w.heap.size w wc))
      case first =>
        have H:=HC13.out
        clear HC13
        by_cases c14 : x6_1 < 128
        · rw [if_pos c14] at H
          have c14b0 : decide (x6_1 < 128) = true:=decide_eq_true c14
          clear c14
          (first|rw [c14b0]|(simp only [i64_w,i32_w];rw [c14b0])|skip)
          have H':=A0.mk H
          clear H
          go_wp2
          go_meet
          case rel => exact ⟨_,(decide (x6_1 < a1)),(by first|rfl|(simp;done)|(simp [*];done)),H',⟨by have:=HK1.out;first|omega|exact Nat.le_refl _⟩,⟨by (with_reducible repeat (first|refine bN ?_ _|refine bD ?_|refine bA ?_ _));exact BK313.out⟩,⟨by (with_reducible repeat (first|refine bN ?_ _|refine bD ?_|refine bA ?_ _));exact BK314.out⟩,⟨by (with_reducible repeat (first|refine bN ?_ _|refine bD ?_|refine bA ?_ _));exact BK317.out⟩,⟨by repeat (first|(with_reducible first|exact HB.out|apply wA|apply wN|apply wD|refine wS ?_ GE313.out|refine wS ?_ GE314.out|refine wS ?_ GE317.out)|exact HB.out)⟩⟩
        · rw [if_neg c14] at H
          have c14b0 : decide (x6_1 < 128) = false:=decide_eq_false c14
          clear c14
          (first|rw [c14b0]|(simp only [i64_w,i32_w];rw [c14b0])|skip)
          have H':=A0.mk H
          clear H
          go_wp2
          go_meet
          case rel => exact ⟨_,(false),(by first|rfl|(simp;done)|(simp [*];done)),H',⟨by have:=HK1.out;first|omega|exact Nat.le_refl _⟩,⟨by (with_reducible repeat (first|refine bN ?_ _|refine bD ?_|refine bA ?_ _));exact BK313.out⟩,⟨by (with_reducible repeat (first|refine bN ?_ _|refine bD ?_|refine bA ?_ _));exact BK314.out⟩,⟨by (with_reducible repeat (first|refine bN ?_ _|refine bD ?_|refine bA ?_ _));exact BK317.out⟩,⟨by repeat (first|(with_reducible first|exact HB.out|apply wA|apply wN|apply wD|refine wS ?_ GE313.out|refine wS ?_ GE314.out|refine wS ?_ GE317.out)|exact HB.out)⟩⟩
      case rest =>
        clear HC13
        try clear c1
        try clear c2
        try clear p2
        try clear c3
        try clear c6
        try clear c10
        try clear c11
        try clear c14
        try clear c14b0
        try clear hcz12_0
        try clear hcz12_1
        try clear hcz7_0
        try clear hcz7_1
        try clear hfz12_0
        try clear hfz12_1
        try clear hfz7_0
        try clear hfz7_1
        try clear p2
        obtain ⟨kq,x16_12,rfl,HA,HJ12,BK313,BK314,BK317,HB⟩:=hcut
        cases kq with
        | zero => exact absurd HA.out (by simp [vernierref01_Jam.j1])
        | succ kj12 =>
          have H:=HA.out
          clear HA
          simp only [vernierref01_Jam.j1] at H
          by_cases c15 : x16_12 = true
          · subst c15
            have H1 : ((vernierref01_Bit.f kj12 a0_0 a0_1 x6_1).bind fun t318 => (if t318 = 1 then (vernierref01_Jam.l0 kj12 a1 (wrap64 (x6_1 + 1)) a0_0 a0_1 t315 (Go.bits .or .u64 x318001_1 1)) else (vernierref01_Jam.l0 kj12 a1 (wrap64 (x6_1 + 1)) a0_0 a0_1 t315 x318001_1))) = some (r1,r2):=by rw [if_pos rfl] at H;exact H
            clear H;have H:=H1;clear H1;replace H:=Option.bind_eq_some_iff.mp H;obtain ⟨t318,A160,H⟩:=H
            replace H : (if t318 = 1 then (vernierref01_Jam.l0 kj12 a1 (wrap64 (x6_1 + 1)) a0_0 a0_1 t315 (Go.bits .or .u64 x318001_1 1)) else (vernierref01_Jam.l0 kj12 a1 (wrap64 (x6_1 + 1)) a0_0 a0_1 t315 x318001_1)) = some (r1,r2):=H
            have A16:=A0.mk A160;clear A160
            by_cases c17 : t318 = 1
            · rw [if_pos c17] at H
              have c17b0 : (t318 == 1) = true:=beq_iff_eq.mpr c17
              have c17b1 : (t318 != 1) = false:=bne_eq_false_iff_eq.mpr c17
              clear c17
              have H':=A0.mk H
              clear H
              have hnb18:=NB313_314.out
              have hnc18:=NB314_313.out
              have hnb19:=NB313_317.out
              have hnc19:=NB317_313.out
              have hcz20_0 : wc.cell? ⟨gb313,0,none⟩ = some (.int .u64 a0_0):=(bC BK313.out 0).trans rfl
              have hcz20_1 : wc.cell? ⟨gb313,1,none⟩ = some (.int .u64 a0_1):=(bC BK313.out 1).trans rfl
              have hfz20_0:=bF BK313.out 0
              have hfz20_1:=bF BK313.out 1
              go_wp2_with (first|((with_reducible refine gC (f:=37) rfl ?_);refine goesL_ (some 21) rfl rfl Try.func37 (by kernel_rfl) rfl #[.agg #[.int .u64 a0_0,.int .u64 a0_1],.int .i64 x6_1] rfl (by (try simp only [mT,mC,mN]);first|done|rfl|(simp only [lD,lK];rfl)) ?_;(with_reducible refine (vernierref01_Bit.calls kj12 a0_0 a0_1 x6_1 t318 _ A16.out).mono ?_);rintro e w21 ⟨rfl,hb⟩;refine ⟨_,rfl,?_⟩;have n0_:=A0.mk (bB (g:=gb313) (o:=.cells #[.int .u64 a0_0,.int .u64 a0_1] 28 (0,0)) (by (with_reducible repeat (first|refine bN ?_ _|refine bD ?_|refine bA ?_ _));exact BK313.out) hb);have n1_:=A0.mk (bB (g:=gb314) (o:=.cells #[.int .u64 0,.int .u64 0] 28 (0,0)) (by (with_reducible repeat (first|refine bN ?_ _|refine bD ?_|refine bA ?_ _));exact BK314.out) hb);have n2_:=A0.mk (bB (g:=gb317) (o:=.cells #[.int .u64 t315,.int .u64 x318001_1] 28 (0,0)) (by (with_reducible repeat (first|refine bN ?_ _|refine bD ?_|refine bA ?_ _));exact BK317.out) hb);have n3_:=A0.mk (wT (by repeat (first|(with_reducible first|exact HB.out|apply wA|apply wN|apply wD|refine wS ?_ GE313.out|refine wS ?_ GE314.out|refine wS ?_ GE317.out)|exact HB.out)) hb);clear BK313;clear BK314;clear BK317;clear HB;have BK313:=n0_;have BK314:=n1_;have BK317:=n2_;have HB:=n3_;clear n0_ n1_ n2_ n3_;(try clear hb);(try clear hb2);(try clear hk);(try clear hi);have hnb22:=NB317_314.out;have hnc22:=NB314_317.out;have hcz23_0 : w21.cell? ⟨gb317,0,none⟩ = some (.int .u64 t315):=(bC BK317.out 0).trans rfl;have hcz23_1 : w21.cell? ⟨gb317,1,none⟩ = some (.int .u64 x318001_1):=(bC BK317.out 1).trans rfl;have hfz23_0:=bF BK317.out 0;have hfz23_1:=bF BK317.out 1))
              go_roundg kj12
              case measure => have:=HK1.out;have:=HJ12.out;omega
              case rel => exact ⟨(wrap64 (x6_1 + 1)),(Go.bits .or .u64 x318001_1 1),(by first|rfl|(simp;done)|(simp [*];done)),H',⟨by have:=HK1.out;have:=HJ12.out;omega⟩,⟨by (with_reducible repeat (first|refine bN ?_ _|refine bD ?_|refine bA ?_ _));refine bR ?_ NB313_317.out _;(with_reducible repeat (first|refine bN ?_ _|refine bD ?_|refine bA ?_ _));exact BK313.out⟩,⟨by (with_reducible repeat (first|refine bN ?_ _|refine bD ?_|refine bA ?_ _));refine bR ?_ NB314_317.out _;(with_reducible repeat (first|refine bN ?_ _|refine bD ?_|refine bA ?_ _));exact BK314.out⟩,⟨by (with_reducible repeat (first|refine bN ?_ _|refine bD ?_|refine bA ?_ _));refine bP (cs:=#[.int .u64 t315,.int .u64 x318001_1]) ?_ 1 _ rfl;(with_reducible repeat (first|refine bN ?_ _|refine bD ?_|refine bA ?_ _));exact BK317.out⟩,⟨by repeat (first|(with_reducible first|exact HB.out|apply wA|apply wN|apply wD|refine wS ?_ GE313.out|refine wS ?_ GE314.out|refine wS ?_ GE317.out)|exact HB.out)⟩⟩
            · rw [if_neg c17] at H
              have c17b0 : (t318 == 1) = false:=beq_eq_false_iff_ne.mpr c17
              have c17b1 : (t318 != 1) = true:=bne_iff_ne.mpr c17
              have H':=A0.mk H
              clear H
              have hnb24:=NB313_314.out
              have hnc24:=NB314_313.out
              have hnb25:=NB313_317.out
              have hnc25:=NB317_313.out
              have hcz26_0 : wc.cell? ⟨gb313,0,none⟩ = some (.int .u64 a0_0):=(bC BK313.out 0).trans rfl
              have hcz26_1 : wc.cell? ⟨gb313,1,none⟩ = some (.int .u64 a0_1):=(bC BK313.out 1).trans rfl
              have hfz26_0:=bF BK313.out 0
              have hfz26_1:=bF BK313.out 1
              go_wp2_with (first|((with_reducible refine gC (f:=37) rfl ?_);refine goesL_ (some 21) rfl rfl Try.func37 (by kernel_rfl) rfl #[.agg #[.int .u64 a0_0,.int .u64 a0_1],.int .i64 x6_1] rfl (by (try simp only [mT,mC,mN]);first|done|rfl|(simp only [lD,lK];rfl)) ?_;(with_reducible refine (vernierref01_Bit.calls kj12 a0_0 a0_1 x6_1 t318 _ A16.out).mono ?_);rintro e w27 ⟨rfl,hb⟩;refine ⟨_,rfl,?_⟩;have n0_:=A0.mk (bB (g:=gb313) (o:=.cells #[.int .u64 a0_0,.int .u64 a0_1] 28 (0,0)) (by (with_reducible repeat (first|refine bN ?_ _|refine bD ?_|refine bA ?_ _));exact BK313.out) hb);have n1_:=A0.mk (bB (g:=gb314) (o:=.cells #[.int .u64 0,.int .u64 0] 28 (0,0)) (by (with_reducible repeat (first|refine bN ?_ _|refine bD ?_|refine bA ?_ _));exact BK314.out) hb);have n2_:=A0.mk (bB (g:=gb317) (o:=.cells #[.int .u64 t315,.int .u64 x318001_1] 28 (0,0)) (by (with_reducible repeat (first|refine bN ?_ _|refine bD ?_|refine bA ?_ _));exact BK317.out) hb);have n3_:=A0.mk (wT (by repeat (first|(with_reducible first|exact HB.out|apply wA|apply wN|apply wD|refine wS ?_ GE313.out|refine wS ?_ GE314.out|refine wS ?_ GE317.out)|exact HB.out)) hb);clear BK313;clear BK314;clear BK317;clear HB;have BK313:=n0_;have BK314:=n1_;have BK317:=n2_;have HB:=n3_;clear n0_ n1_ n2_ n3_;(try clear hb);(try clear hb2);(try clear hk);(try clear hi)))
              go_roundg kj12
              case measure => have:=HK1.out;have:=HJ12.out;omega
              case rel => exact ⟨(wrap64 (x6_1 + 1)),(x318001_1),(by first|rfl|(simp;done)|(simp [*];done)),H',⟨by have:=HK1.out;have:=HJ12.out;omega⟩,⟨by (with_reducible repeat (first|refine bN ?_ _|refine bD ?_|refine bA ?_ _));exact BK313.out⟩,⟨by (with_reducible repeat (first|refine bN ?_ _|refine bD ?_|refine bA ?_ _));exact BK314.out⟩,⟨by (with_reducible repeat (first|refine bN ?_ _|refine bD ?_|refine bA ?_ _));exact BK317.out⟩,⟨by repeat (first|(with_reducible first|exact HB.out|apply wA|apply wN|apply wD|refine wS ?_ GE313.out|refine wS ?_ GE314.out|refine wS ?_ GE317.out)|exact HB.out)⟩⟩
          · replace c15:=Bool.eq_false_iff.mpr c15
            subst c15
            have H1 : (some (t315,x318001_1)) = some (r1,r2):=by rw [if_neg (show ¬ (false = true) by decide)] at H;exact H
            clear H;have H:=H1;clear H1
            simp only [Option.some.injEq,Prod.mk.injEq] at H
            obtain ⟨rfl,rfl⟩:=H
            have hnb28:=NB317_313.out
            have hnc28:=NB313_317.out
            have hnb29:=NB317_314.out
            have hnc29:=NB314_317.out
            have hcz30_0 : wc.cell? ⟨gb317,0,none⟩ = some (.int .u64 t315):=(bC BK317.out 0).trans rfl
            have hcz30_1 : wc.cell? ⟨gb317,1,none⟩ = some (.int .u64 x318001_1):=(bC BK317.out 1).trans rfl
            have hfz30_0:=bF BK317.out 0
            have hfz30_1:=bF BK317.out 1
            have hnb31:=NB314_313.out
            have hnc31:=NB313_314.out
            have hcz32_0 : wc.cell? ⟨gb314,0,none⟩ = some (.int .u64 0):=(bC BK314.out 0).trans rfl
            have hcz32_1 : wc.cell? ⟨gb314,1,none⟩ = some (.int .u64 0):=(bC BK314.out 1).trans rfl
            have hfz32_0:=bF BK314.out 0
            have hfz32_1:=bF BK314.out 1
            go_wp2
            refine bodyPost_ret (results_cell_row rfl _ _ gb314 28 #[.int .u64 t315,.int .u64 x318001_1] (0,0) _ rfl (by (with_reducible repeat (first|refine bN ?_ _|refine bD ?_|refine bA ?_ _));refine bP (cs:=#[.int .u64 t315,.int .u64 0]) ?_ 1 _ rfl;(with_reducible repeat (first|refine bN ?_ _|refine bD ?_|refine bA ?_ _));refine bP (cs:=#[.int .u64 0,.int .u64 0]) ?_ 0 _ rfl;(with_reducible repeat (first|refine bN ?_ _|refine bD ?_|refine bA ?_ _));exact BK314.out) Try.underlying28 rfl (by kernel_rfl)) rfl ?_
            exact ⟨by first|rfl|(simp [errW_none,errW_some] <;> rfl)|(simp [*,errW_none,errW_some] <;> rfl),by repeat (first|(with_reducible first|exact HB.out|apply wA|apply wN|apply wD|refine wS ?_ GE313.out|refine wS ?_ GE314.out|refine wS ?_ GE317.out)|exact HB.out)⟩

end Go.Proofs.Ytidjigoghdghiaa.V
