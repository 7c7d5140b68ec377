/- Contracts of the program's functions, each: where the printed function answers, the call answers the same. Written by vprint.py, this session's own program over the kit's print.py; Lean checks it. No conditions beyond those that each states. -/
import Derived.Test.YtjdmbhdlogbopaaDoorVx0
import Derived.Test.YtjdmbhdlogbopaaDoorVx1
namespace Go.Proofs.YtjdmbhdlogbopaaDoor.V
open Go.RowKit Go.Proofs.YtjdmbhdlogbopaaDoorQ.PrintWords Go.Proofs.YtjdmbhdlogbopaaDoorQ.PrintLast Go.Proofs.YtjdmbhdlogbopaaDoorQ.PrintMore
open Bool renaming true → Y, false → Z
open List renaming setIfInBounds_toArray → lT, set_cons_zero → lZ, set_cons_succ → lS, map_toArray → mT, map_cons → mC, map_nil → mN, length_drop → lD, length_take → lK
open Act renaming put → aP
attribute [local go_sem] max2_int min2_int max_two min_two max_three min_three max_four min_four   -- for this text's walks alone
set_option linter.unusedVariables false
set_option linter.unusedSimpArgs false

/-! ### format_Class: function 13 -/
mutual
noncomputable def format_Class.j0 : Nat→Bool→Int→Int→Int→Bool→Int→Int→Int→Int→Option (Int × Int)
  | 0,_,_,_,_,_,_,_,_,_ => none
  | k + 1,x8,x9,x10,x11,x28,x128000,x128001,x128002,x128003 => if x28 = true then (if x8 = true then (some (11 - 9,0)) else (some (9,0))) else ((format_ones.f (wrap64 (x128000 - x128001))).bind fun t132 => (if x9 = t132 then (if 0 ≤ (wrap64 (x128001 - 2)) then (format_Class.j1 k x8 x9 x10 x11 ((shr .u64 x10 (wrap64 (x128001 - 2))) != 0) x128000 x128001 x128002 x128003) else (none)) else (format_Class.j1 k x8 x9 x10 x11 false x128000 x128001 x128002 x128003)))
noncomputable def format_Class.j1 : Nat→Bool→Int→Int→Int→Bool→Int→Int→Int→Int→Option (Int × Int)
  | 0,_,_,_,_,_,_,_,_,_ => none
  | k + 1,x8,x9,x10,x11,x41,x128000,x128001,x128002,x128003 => if x41 = true then (some (1,0)) else ((format_ones.f (wrap64 (x128000 - x128001))).bind fun t133 => (if x9 = t133 then (some (0,0)) else (if x9 = 0 then (format_Class.j2 k x8 x9 x11 (x10 == 0)) else (format_Class.j2 k x8 x9 x11 false))))
noncomputable def format_Class.j2 : Nat→Bool→Int→Int→Bool→Option (Int × Int)
  | 0,_,_,_,_ => none
  | k + 1,x8,x9,x11,x67 => if x67 = true then (if x8 = true then (some (11 - 6,0)) else (some (6,0))) else (if x9 = 0 then (if x8 = true then (some (11 - 7,0)) else (some (7,0))) else (if x8 = true then (some (wrap64 (11 - x11),0)) else (some (x11,0))))
end
noncomputable def format_Class.f (k : Nat) (a0 : Int) (a1 : Int) : Option (Int × Int):=(format_Check.f a0 a1).bind fun t122 => (if t122 = 0 then ((format_rowAt.f a0).bind fun bt123 => ((format_split.f bt123.1 bt123.2.1 bt123.2.2.1 bt123.2.2.2 a1).bind fun bt128 => ((format_ones.f (wrap64 (bt123.1 - bt123.2.1))).bind fun t131 => (if bt128.2.1 = t131 then (format_Class.j0 k bt128.1 bt128.2.1 bt128.2.2 8 (bt128.2.2 == 0) bt123.1 bt123.2.1 bt123.2.2.1 bt123.2.2.2) else (format_Class.j0 k bt128.1 bt128.2.1 bt128.2.2 8 false bt123.1 bt123.2.1 bt123.2.2.1 bt123.2.2.2))))) else (some (0,t122)))
theorem format_Class.mono_l : ∀ k,(∀ y0 y1 y2 y3 y4 y5 y6 y7 y8,LeO (format_Class.j0 k y0 y1 y2 y3 y4 y5 y6 y7 y8) (format_Class.j0 (k + 1) y0 y1 y2 y3 y4 y5 y6 y7 y8))∧(∀ y0 y1 y2 y3 y4 y5 y6 y7 y8,LeO (format_Class.j1 k y0 y1 y2 y3 y4 y5 y6 y7 y8) (format_Class.j1 (k + 1) y0 y1 y2 y3 y4 y5 y6 y7 y8))∧(∀ y0 y1 y2 y3,LeO (format_Class.j2 k y0 y1 y2 y3) (format_Class.j2 (k + 1) y0 y1 y2 y3))
  | 0 => ⟨fun _ _ _ _ _ _ _ _ _ r h => by simp [format_Class.j0] at h,fun _ _ _ _ _ _ _ _ _ r h => by simp [format_Class.j1] at h,fun _ _ _ _ r h => by simp [format_Class.j2] at h⟩
  | k + 1 => by
    obtain ⟨ih0,ih1,ih2⟩:=format_Class.mono_l k
    refine ⟨?_,?_,?_⟩
    · intro y0 y1 y2 y3 y4 y5 y6 y7 y8
      unfold format_Class.j0
      repeat' first
      | (with_reducible exact ih0 _ _ _ _ _ _ _ _ _)
      | (with_reducible exact ih1 _ _ _ _ _ _ _ _ _)
      | (with_reducible exact ih2 _ _ _ _)
      | (with_reducible exact LeO.refl _)
      | (with_reducible exact LeO.none _)
      | (with_reducible refine LeO.ite ?_ ?_)
      | (with_reducible refine LeO.bind ?_ (fun _ => ?_))
      | exact ih0 _ _ _ _ _ _ _ _ _
      | exact ih1 _ _ _ _ _ _ _ _ _
      | exact ih2 _ _ _ _
      | exact LeO.none _
      | refine LeO.ite ?_ ?_
      | refine LeO.bind ?_ (fun _ => ?_)
    · intro y0 y1 y2 y3 y4 y5 y6 y7 y8
      unfold format_Class.j1
      repeat' first
      | (with_reducible exact ih0 _ _ _ _ _ _ _ _ _)
      | (with_reducible exact ih1 _ _ _ _ _ _ _ _ _)
      | (with_reducible exact ih2 _ _ _ _)
      | (with_reducible exact LeO.refl _)
      | (with_reducible exact LeO.none _)
      | (with_reducible refine LeO.ite ?_ ?_)
      | (with_reducible refine LeO.bind ?_ (fun _ => ?_))
      | exact ih0 _ _ _ _ _ _ _ _ _
      | exact ih1 _ _ _ _ _ _ _ _ _
      | exact ih2 _ _ _ _
      | exact LeO.none _
      | refine LeO.ite ?_ ?_
      | refine LeO.bind ?_ (fun _ => ?_)
    · intro y0 y1 y2 y3
      unfold format_Class.j2
      repeat' first
      | (with_reducible exact ih0 _ _ _ _ _ _ _ _ _)
      | (with_reducible exact ih1 _ _ _ _ _ _ _ _ _)
      | (with_reducible exact ih2 _ _ _ _)
      | (with_reducible exact LeO.refl _)
      | (with_reducible exact LeO.none _)
      | (with_reducible refine LeO.ite ?_ ?_)
      | (with_reducible refine LeO.bind ?_ (fun _ => ?_))
      | exact ih0 _ _ _ _ _ _ _ _ _
      | exact ih1 _ _ _ _ _ _ _ _ _
      | exact ih2 _ _ _ _
      | exact LeO.none _
      | refine LeO.ite ?_ ?_
      | refine LeO.bind ?_ (fun _ => ?_)
theorem format_Class.mono : ∀ a0 a1 k,LeO (format_Class.f k a0 a1) (format_Class.f (k + 1) a0 a1):=by
  intro a0 a1 k
  obtain ⟨ih0,ih1,ih2⟩:=format_Class.mono_l k
  unfold format_Class.f
  repeat' first
      | (with_reducible exact ih0 _ _ _ _ _ _ _ _ _)
      | (with_reducible exact ih1 _ _ _ _ _ _ _ _ _)
      | (with_reducible exact ih2 _ _ _ _)
      | (with_reducible exact LeO.refl _)
      | (with_reducible exact LeO.none _)
      | (with_reducible refine LeO.ite ?_ ?_)
      | (with_reducible refine LeO.bind ?_ (fun _ => ?_))
      | exact ih0 _ _ _ _ _ _ _ _ _
      | exact ih1 _ _ _ _ _ _ _ _ _
      | exact ih2 _ _ _ _
      | exact LeO.none _
      | refine LeO.ite ?_ ?_
      | refine LeO.bind ?_ (fun _ => ?_)
set_option maxHeartbeats 8000000 in
set_option maxRecDepth 100000 in
theorem format_Class.calls (k : Nat) (a0 : Int) (a1 : Int) (r1 : Int) (r2 : Int) (w : World) (hG : A0 (GlobR w)) (h : format_Class.f k a0 a1 = some (r1,r2)) :
    Calls Tryd.prog 13 #[.int .i64 a0,.int .u64 a1] w fun e w' => e = .returned (.tuple #[.int .i64 r1,.int .i64 r2])∧Below w.heap.size w w':=by
  have hu39:=Tryd.underlying39
  have HB:=A0.mk (Below.refl w.heap.size w)
  have H : ((format_Check.f a0 a1).bind fun t122 => (if t122 = 0 then ((format_rowAt.f a0).bind fun bt123 => ((format_split.f bt123.1 bt123.2.1 bt123.2.2.1 bt123.2.2.2 a1).bind fun bt128 => ((format_ones.f (wrap64 (bt123.1 - bt123.2.1))).bind fun t131 => (if bt128.2.1 = t131 then (format_Class.j0 k bt128.1 bt128.2.1 bt128.2.2 8 (bt128.2.2 == 0) bt123.1 bt123.2.1 bt123.2.2.1 bt123.2.2.2) else (format_Class.j0 k bt128.1 bt128.2.1 bt128.2.2 8 false bt123.1 bt123.2.1 bt123.2.2.1 bt123.2.2.2))))) else (some (0,t122)))) = some (r1,r2):=h
  clear h;replace H:=Option.bind_eq_some_iff.mp H;obtain ⟨t122,A30,H⟩:=H
  replace H : (if t122 = 0 then ((format_rowAt.f a0).bind fun bt123 => ((format_split.f bt123.1 bt123.2.1 bt123.2.2.1 bt123.2.2.2 a1).bind fun bt128 => ((format_ones.f (wrap64 (bt123.1 - bt123.2.1))).bind fun t131 => (if bt128.2.1 = t131 then (format_Class.j0 k bt128.1 bt128.2.1 bt128.2.2 8 (bt128.2.2 == 0) bt123.1 bt123.2.1 bt123.2.2.1 bt123.2.2.2) else (format_Class.j0 k bt128.1 bt128.2.1 bt128.2.2 8 false bt123.1 bt123.2.1 bt123.2.2.1 bt123.2.2.2))))) else (some (0,t122))) = some (r1,r2):=H
  have A3:=A0.mk A30;clear A30
  by_cases c4 : t122 = 0
  · rw [if_pos c4] at H
    have c4b0 : (t122 == 0) = true:=beq_iff_eq.mpr c4
    have c4b1 : (t122 != 0) = false:=bne_eq_false_iff_eq.mpr c4
    clear c4;replace H:=Option.bind_eq_some_iff.mp H;obtain ⟨⟨t123,t124,t125,t126⟩,A50,H⟩:=H
    replace H : ((format_split.f t123 t124 t125 t126 a1).bind fun bt128 => ((format_ones.f (wrap64 (t123 - t124))).bind fun t131 => (if bt128.2.1 = t131 then (format_Class.j0 k bt128.1 bt128.2.1 bt128.2.2 8 (bt128.2.2 == 0) t123 t124 t125 t126) else (format_Class.j0 k bt128.1 bt128.2.1 bt128.2.2 8 false t123 t124 t125 t126)))) = some (r1,r2):=H
    have A5:=A0.mk A50;clear A50;replace H:=Option.bind_eq_some_iff.mp H;obtain ⟨⟨t128,t129,t130⟩,A60,H⟩:=H
    replace H : ((format_ones.f (wrap64 (t123 - t124))).bind fun t131 => (if t129 = t131 then (format_Class.j0 k t128 t129 t130 8 (t130 == 0) t123 t124 t125 t126) else (format_Class.j0 k t128 t129 t130 8 false t123 t124 t125 t126))) = some (r1,r2):=H
    have A6:=A0.mk A60;clear A60;have HC7:=A0.mk H;clear H
    go_enter Tryd.func13,Tryd.ntmps13
    go_upto_region 7 with (first|((with_reducible refine gC (f:=11) rfl ?_);refine goesL_ (some 14) rfl rfl Tryd.func11 (by kernel_rfl) rfl #[.int .i64 a0,.int .u64 a1] rfl (by (try simp only [mT,mC,mN]);first|done|rfl|(simp only [lD,lK];rfl)) ?_;(with_reducible refine (format_Check.calls a0 a1 t122 _ ?hG A3.out).mono ?_);(case hG => exact GlobR.below hG.out (by repeat (first|(with_reducible first|exact HB.out|apply wA|apply wN|apply wD|refine wS ?_ GE127.out)|exact HB.out)));rintro e w8 ⟨rfl,hb⟩;refine ⟨_,rfl,?_⟩;have n0_:=A0.mk (wT (by repeat (first|(with_reducible first|exact HB.out|apply wA|apply wN|apply wD)|exact HB.out)) hb);clear HB;have HB:=n0_;clear n0_;(try clear hb);(try clear hb2);(try clear hk);(try clear hi))|((with_reducible refine gD (N:=19) rfl ?_);refine format_rowAt.step 19 20 a0 t123 t124 t125 t126 rfl rfl rfl rfl rfl rfl rfl rfl A5.out ?hG ?_;(case hG => exact (GlobR.below hG.out (by repeat (first|(with_reducible first|exact HB.out|apply wA|apply wN|apply wD|refine wS ?_ GE127.out)|exact HB.out))).out);intro w9 hb;have n0_:=A0.mk (wT (by repeat (first|(with_reducible first|exact HB.out|apply wA|apply wN|apply wD)|exact HB.out)) hb);clear HB;have HB:=n0_;clear n0_;(try clear hb);(try clear hb2);(try clear hk);(try clear hi))|((with_reducible refine gD (N:=7) rfl ?_);refine bE ?hg (N:=7) ?hd (cs:=#[.int .i64 0,.int .i64 0,.int .i64 0,.int .i64 0]) (t:=39) ?hr ?_;(case hd => rfl);(case hg => rfl);(case hr => first|(go_simp;done)|(go_simp;rfl));intro gb127 hg w10 hbox hb;have n0_:=A0.mk (wT (by repeat (first|(with_reducible first|exact HB.out|apply wA|apply wN|apply wD)|exact HB.out)) hb);have n1_:=A0.mk (hbox);have n2_:=A0.mk ((by rw [hg];exact (wZ (by repeat (first|(with_reducible first|exact HB.out|apply wA|apply wN|apply wD)|exact HB.out))) : w.heap.size ≤ gb127));have n3_:=A0.mk ((by rw [hg];exact (wZ (by repeat (first|(with_reducible first|exact HB.out|apply wA|apply wN|apply wD)|exact HB.out))) : w.heap.size ≤ gb127));clear HB;have HB:=n0_;have BK127:=n1_;have GW127:=n2_;have GE127:=n3_;clear n0_ n1_ n2_ n3_;clear hb hbox hg;have hcz11_0 : w10.cell? ⟨gb127,0,none⟩ = some (.int .i64 0):=(bC BK127.out 0).trans rfl;have hcz11_1 : w10.cell? ⟨gb127,1,none⟩ = some (.int .i64 0):=(bC BK127.out 1).trans rfl;have hcz11_2 : w10.cell? ⟨gb127,2,none⟩ = some (.int .i64 0):=(bC BK127.out 2).trans rfl;have hcz11_3 : w10.cell? ⟨gb127,3,none⟩ = some (.int .i64 0):=(bC BK127.out 3).trans rfl;have hfz11_0:=bF BK127.out 0;have hfz11_1:=bF BK127.out 1;have hfz11_2:=bF BK127.out 2;have hfz11_3:=bF BK127.out 3)|((with_reducible refine gC (f:=46) rfl ?_);refine goesL_ (some 24) rfl rfl Tryd.func46 (by kernel_rfl) rfl #[.agg #[.int .i64 t123,.int .i64 t124,.int .i64 t125,.int .i64 t126],.int .u64 a1] rfl (by (try simp only [mT,mC,mN]);first|done|rfl|(simp only [lD,lK];rfl)) ?_;(with_reducible refine (format_split.calls t123 t124 t125 t126 a1 t128 t129 t130 _ A6.out).mono ?_);rintro e w12 ⟨rfl,hb⟩;refine ⟨_,rfl,?_⟩;have n0_:=A0.mk (bB (g:=gb127) (o:=.cells #[.int .i64 t123,.int .i64 t124,.int .i64 t125,.int .i64 t126] 39 (0,0)) (by (with_reducible repeat (first|refine bN ?_ _|refine bD ?_|refine bA ?_ _));refine bP (cs:=#[.int .i64 t123,.int .i64 t124,.int .i64 t125,.int .i64 0]) ?_ 3 _ rfl;(with_reducible repeat (first|refine bN ?_ _|refine bD ?_|refine bA ?_ _));refine bP (cs:=#[.int .i64 t123,.int .i64 t124,.int .i64 0,.int .i64 0]) ?_ 2 _ rfl;(with_reducible repeat (first|refine bN ?_ _|refine bD ?_|refine bA ?_ _));refine bP (cs:=#[.int .i64 t123,.int .i64 0,.int .i64 0,.int .i64 0]) ?_ 1 _ rfl;(with_reducible repeat (first|refine bN ?_ _|refine bD ?_|refine bA ?_ _));refine bP (cs:=#[.int .i64 0,.int .i64 0,.int .i64 0,.int .i64 0]) ?_ 0 _ rfl;(with_reducible repeat (first|refine bN ?_ _|refine bD ?_|refine bA ?_ _));exact BK127.out) hb);have n1_:=A0.mk (wT (by repeat (first|(with_reducible first|exact HB.out|apply wA|apply wN|apply wD|refine wS ?_ GE127.out)|exact HB.out)) hb);clear BK127;clear HB;have BK127:=n0_;have HB:=n1_;clear n0_ n1_;(try clear hb);(try clear hb2);(try clear hk);(try clear hi)))
    (try simp only [aP,lT,lZ,lS])
    go_cut [28] (fun v28 wc => ∃ (kq : Nat) (x28_6 : Bool),v28 = .bool x28_6∧A0 (format_Class.j0 kq t128 t129 t130 8 x28_6 t123 t124 t125 t126 = some (r1,r2))∧A0 (kq ≤ k)∧A0 (wc.heap[gb127]? = some (.cells #[.int .i64 t123,.int .i64 t124,.int .i64 t125,.int .i64 t126] 39 (0,0)))∧A0 (Below w.heap.size w wc))
    case first =>
      have H:=HC7.out
      clear HC7;replace H:=Option.bind_eq_some_iff.mp H;obtain ⟨t131,A130,H⟩:=H
      replace H : (if t129 = t131 then (format_Class.j0 k t128 t129 t130 8 (t130 == 0) t123 t124 t125 t126) else (format_Class.j0 k t128 t129 t130 8 false t123 t124 t125 t126)) = some (r1,r2):=H
      have A13:=A0.mk A130;clear A130
      by_cases c14 : t129 = t131
      · rw [if_pos c14] at H
        have c14b0 : (t129 == t131) = true:=beq_iff_eq.mpr c14
        have c14b1 : (t129 != t131) = false:=bne_eq_false_iff_eq.mpr c14
        clear c14
        (first|rw [c14b0]|(simp only [i64_w,i32_w];rw [c14b0])|skip)
        have H':=A0.mk H
        clear H
        have hcz15_0 : w12.cell? ⟨gb127,0,none⟩ = some (.int .i64 t123):=(bC BK127.out 0).trans rfl
        have hcz15_1 : w12.cell? ⟨gb127,1,none⟩ = some (.int .i64 t124):=(bC BK127.out 1).trans rfl
        have hcz15_2 : w12.cell? ⟨gb127,2,none⟩ = some (.int .i64 t125):=(bC BK127.out 2).trans rfl
        have hcz15_3 : w12.cell? ⟨gb127,3,none⟩ = some (.int .i64 t126):=(bC BK127.out 3).trans rfl
        have hfz15_0:=bF BK127.out 0
        have hfz15_1:=bF BK127.out 1
        have hfz15_2:=bF BK127.out 2
        have hfz15_3:=bF BK127.out 3
        go_wp2_with (first|((with_reducible refine gC (f:=47) rfl ?_);refine goesL_ (some 35) rfl rfl Tryd.func47 (by kernel_rfl) rfl #[.int .i64 (wrap64 (t123 - t124))] rfl (by (try simp only [mT,mC,mN]);first|done|rfl|(simp only [lD,lK];rfl)) ?_;(with_reducible refine (format_ones.calls (wrap64 (t123 - t124)) t131 _ A13.out).mono ?_);rintro e w' ⟨rfl,⟨nd,rfl⟩⟩;refine ⟨_,rfl,?_⟩))
        go_meet
        case rel => exact ⟨_,((t130 == 0)),(by first|rfl|(simp;done)|(simp [*];done)|(simp [wrap64];done)),H',⟨by first|omega|exact Nat.le_refl _⟩,⟨by (with_reducible repeat (first|refine bN ?_ _|refine bD ?_|refine bA ?_ _));exact BK127.out⟩,⟨by repeat (first|(with_reducible first|exact HB.out|apply wA|apply wN|apply wD|refine wS ?_ GE127.out)|exact HB.out)⟩⟩
      · rw [if_neg c14] at H
        have c14b0 : (t129 == t131) = false:=beq_eq_false_iff_ne.mpr c14
        have c14b1 : (t129 != t131) = true:=bne_iff_ne.mpr c14
        (first|rw [c14b0]|(simp only [i64_w,i32_w];rw [c14b0])|skip)
        have H':=A0.mk H
        clear H
        have hcz16_0 : w12.cell? ⟨gb127,0,none⟩ = some (.int .i64 t123):=(bC BK127.out 0).trans rfl
        have hcz16_1 : w12.cell? ⟨gb127,1,none⟩ = some (.int .i64 t124):=(bC BK127.out 1).trans rfl
        have hcz16_2 : w12.cell? ⟨gb127,2,none⟩ = some (.int .i64 t125):=(bC BK127.out 2).trans rfl
        have hcz16_3 : w12.cell? ⟨gb127,3,none⟩ = some (.int .i64 t126):=(bC BK127.out 3).trans rfl
        have hfz16_0:=bF BK127.out 0
        have hfz16_1:=bF BK127.out 1
        have hfz16_2:=bF BK127.out 2
        have hfz16_3:=bF BK127.out 3
        go_wp2_with (first|((with_reducible refine gC (f:=47) rfl ?_);refine goesL_ (some 35) rfl rfl Tryd.func47 (by kernel_rfl) rfl #[.int .i64 (wrap64 (t123 - t124))] rfl (by (try simp only [mT,mC,mN]);first|done|rfl|(simp only [lD,lK];rfl)) ?_;(with_reducible refine (format_ones.calls (wrap64 (t123 - t124)) t131 _ A13.out).mono ?_);rintro e w' ⟨rfl,⟨nd,rfl⟩⟩;refine ⟨_,rfl,?_⟩))
        go_meet
        case rel => exact ⟨_,(false),(by first|rfl|(simp;done)|(simp [*];done)|(simp [wrap64];done)),H',⟨by first|omega|exact Nat.le_refl _⟩,⟨by (with_reducible repeat (first|refine bN ?_ _|refine bD ?_|refine bA ?_ _));exact BK127.out⟩,⟨by repeat (first|(with_reducible first|exact HB.out|apply wA|apply wN|apply wD|refine wS ?_ GE127.out)|exact HB.out)⟩⟩
    case rest =>
      clear HC7
      try clear c1
      try clear p2
      try clear c4
      try clear c4b0
      try clear c4b1
      try clear p6
      try clear c11
      try clear c13
      try clear c14
      try clear c14b0
      try clear c14b1
      try clear hcz11_0
      try clear hcz11_1
      try clear hcz11_2
      try clear hcz11_3
      try clear hcz15_0
      try clear hcz15_1
      try clear hcz15_2
      try clear hcz15_3
      try clear hcz16_0
      try clear hcz16_1
      try clear hcz16_2
      try clear hcz16_3
      try clear hfz11_0
      try clear hfz11_1
      try clear hfz11_2
      try clear hfz11_3
      try clear hfz15_0
      try clear hfz15_1
      try clear hfz15_2
      try clear hfz15_3
      try clear hfz16_0
      try clear hfz16_1
      try clear hfz16_2
      try clear hfz16_3
      obtain ⟨kq,x28_6,rfl,HA,HJ6,BK127,HB⟩:=hcut
      cases kq with
      | zero => exact absurd HA.out (by simp [format_Class.j0])
      | succ kj6 =>
        have H:=HA.out
        clear HA
        simp only [format_Class.j0] at H
        by_cases c17 : x28_6 = true
        · subst c17
          have H1 : (if t128 = true then (some (11 - 9,0)) else (some (9,0))) = some (r1,r2):=by rw [if_pos rfl] at H;exact H
          clear H;have H:=H1;clear H1
          by_cases c18 : t128 = true
          · subst c18
            have H1 : (some (11 - 9,0)) = some (r1,r2):=by rw [if_pos rfl] at H;exact H
            clear H;have H:=H1;clear H1
            simp only [Option.some.injEq,Prod.mk.injEq] at H
            obtain ⟨rfl,rfl⟩:=H
            go_wp2
            go_ret2
            exact ⟨by first|rfl|(simp [errW_none,errW_some] <;> rfl)|(simp [*,errW_none,errW_some] <;> rfl)|(simp [wrap64];done),by repeat (first|(with_reducible first|exact HB.out|apply wA|apply wN|apply wD|refine wS ?_ GE127.out)|exact HB.out)⟩
          · replace c18:=Bool.eq_false_iff.mpr c18
            subst c18
            have H1 : (some (9,0)) = some (r1,r2):=by rw [if_neg (show ¬ (false = true) by decide)] at H;exact H
            clear H;have H:=H1;clear H1
            simp only [Option.some.injEq,Prod.mk.injEq] at H
            obtain ⟨rfl,rfl⟩:=H
            go_wp2
            go_ret2
            exact ⟨by first|rfl|(simp [errW_none,errW_some] <;> rfl)|(simp [*,errW_none,errW_some] <;> rfl)|(simp [wrap64];done),by repeat (first|(with_reducible first|exact HB.out|apply wA|apply wN|apply wD|refine wS ?_ GE127.out)|exact HB.out)⟩
        · replace c17:=Bool.eq_false_iff.mpr c17
          subst c17
          have H1 : ((format_ones.f (wrap64 (t123 - t124))).bind fun t132 => (if t129 = t132 then (if 0 ≤ (wrap64 (t124 - 2)) then (format_Class.j1 kj6 t128 t129 t130 8 ((shr .u64 t130 (wrap64 (t124 - 2))) != 0) t123 t124 t125 t126) else (none)) else (format_Class.j1 kj6 t128 t129 t130 8 false t123 t124 t125 t126))) = some (r1,r2):=by rw [if_neg (show ¬ (false = true) by decide)] at H;exact H
          clear H;have H:=H1;clear H1;have HC19:=A0.mk H;clear H
          go_upto_region 9 with (fail)
          go_cut [41] (fun v41 wc => ∃ (kq : Nat) (x41_18 : Bool),v41 = .bool x41_18∧A0 (format_Class.j1 kq t128 t129 t130 8 x41_18 t123 t124 t125 t126 = some (r1,r2))∧A0 (kq ≤ kj6)∧A0 (wc.heap[gb127]? = some (.cells #[.int .i64 t123,.int .i64 t124,.int .i64 t125,.int .i64 t126] 39 (0,0)))∧A0 (Below w.heap.size w wc))
          case first =>
            have H:=HC19.out
            clear HC19;replace H:=Option.bind_eq_some_iff.mp H;obtain ⟨t132,A200,H⟩:=H
            replace H : (if t129 = t132 then (if 0 ≤ (wrap64 (t124 - 2)) then (format_Class.j1 kj6 t128 t129 t130 8 ((shr .u64 t130 (wrap64 (t124 - 2))) != 0) t123 t124 t125 t126) else (none)) else (format_Class.j1 kj6 t128 t129 t130 8 false t123 t124 t125 t126)) = some (r1,r2):=H
            have A20:=A0.mk A200;clear A200
            by_cases c21 : t129 = t132
            · rw [if_pos c21] at H
              have c21b0 : (t129 == t132) = true:=beq_iff_eq.mpr c21
              have c21b1 : (t129 != t132) = false:=bne_eq_false_iff_eq.mpr c21
              clear c21
              (first|rw [c21b0]|(simp only [i64_w,i32_w];rw [c21b0])|skip)
              obtain ⟨ji22,hji22⟩ : ∃ j_ : Int,(wrap64 (t124 - 2)) = j_:=⟨_,rfl⟩
              replace H : (if 0 ≤ (ji22) then (format_Class.j1 kj6 t128 t129 t130 8 ((shr .u64 t130 (ji22)) != 0) t123 t124 t125 t126) else (none)) = some (r1,r2):=by first|(rw [hji22] at H;exact H)|(simp only [hji22] at H ⊢;exact H)
              (try rw [hji22] at A20)
              have hji22w : (IntKind.i64.wrap (t124 - 2)) = ji22:=(i64_w _).trans hji22
              by_cases c23 : 0 ≤ (ji22)
              · rw [if_pos c23] at H
                have c23b0:=eq_true c23
                have c23b1 : decide (0 ≤ (ji22)) = true:=decide_eq_true c23
                clear c23
                obtain ⟨ji24,hji24⟩ : ∃ j_ : Int,(shr .u64 t130 (ji22)) = j_:=⟨_,rfl⟩
                replace H : (format_Class.j1 kj6 t128 t129 t130 8 ((ji24) != 0) t123 t124 t125 t126) = some (r1,r2):=by first|(rw [hji24] at H;exact H)|(simp only [hji24] at H ⊢;exact H)
                (try rw [hji24] at A20)
                have hji24_ : (t130 / 2 ^ min (ji22).toNat 64) = ji24:=hji24
                have hji24z : (ji22) ≤ 64→(t130 / 2 ^ (ji22).toNat) = ji24:=shr_small hji24
                have H':=A0.mk H
                clear H
                have hcz25_0 : wc.cell? ⟨gb127,0,none⟩ = some (.int .i64 t123):=(bC BK127.out 0).trans rfl
                have hcz25_1 : wc.cell? ⟨gb127,1,none⟩ = some (.int .i64 t124):=(bC BK127.out 1).trans rfl
                have hcz25_2 : wc.cell? ⟨gb127,2,none⟩ = some (.int .i64 t125):=(bC BK127.out 2).trans rfl
                have hcz25_3 : wc.cell? ⟨gb127,3,none⟩ = some (.int .i64 t126):=(bC BK127.out 3).trans rfl
                have hfz25_0:=bF BK127.out 0
                have hfz25_1:=bF BK127.out 1
                have hfz25_2:=bF BK127.out 2
                have hfz25_3:=bF BK127.out 3
                go_wp2_with (first|((with_reducible refine gC (f:=47) rfl ?_);refine goesL_ (some 48) rfl rfl Tryd.func47 (by kernel_rfl) rfl #[.int .i64 (wrap64 (t123 - t124))] rfl (by (try simp only [mT,mC,mN]);first|done|rfl|(simp only [lD,lK];rfl)) ?_;(with_reducible refine (format_ones.calls (wrap64 (t123 - t124)) t132 _ A20.out).mono ?_);rintro e w' ⟨rfl,⟨nd,rfl⟩⟩;refine ⟨_,rfl,?_⟩))
                go_meet
                case rel => exact ⟨_,(((ji24) != 0)),(by first|rfl|(simp;done)|(simp only [← hji24] <;> (first|rfl|simp))|(simp [*];done)),H',⟨by have:=HJ6.out;first|omega|exact Nat.le_refl _⟩,⟨by (with_reducible repeat (first|refine bN ?_ _|refine bD ?_|refine bA ?_ _));exact BK127.out⟩,⟨by repeat (first|(with_reducible first|exact HB.out|apply wA|apply wN|apply wD|refine wS ?_ GE127.out)|exact HB.out)⟩⟩
              · rw [if_neg c23] at H
                exact absurd H (by simp)
            · rw [if_neg c21] at H
              have c21b0 : (t129 == t132) = false:=beq_eq_false_iff_ne.mpr c21
              have c21b1 : (t129 != t132) = true:=bne_iff_ne.mpr c21
              (first|rw [c21b0]|(simp only [i64_w,i32_w];rw [c21b0])|skip)
              have H':=A0.mk H
              clear H
              have hcz26_0 : wc.cell? ⟨gb127,0,none⟩ = some (.int .i64 t123):=(bC BK127.out 0).trans rfl
              have hcz26_1 : wc.cell? ⟨gb127,1,none⟩ = some (.int .i64 t124):=(bC BK127.out 1).trans rfl
              have hcz26_2 : wc.cell? ⟨gb127,2,none⟩ = some (.int .i64 t125):=(bC BK127.out 2).trans rfl
              have hcz26_3 : wc.cell? ⟨gb127,3,none⟩ = some (.int .i64 t126):=(bC BK127.out 3).trans rfl
              have hfz26_0:=bF BK127.out 0
              have hfz26_1:=bF BK127.out 1
              have hfz26_2:=bF BK127.out 2
              have hfz26_3:=bF BK127.out 3
              go_wp2_with (first|((with_reducible refine gC (f:=47) rfl ?_);refine goesL_ (some 48) rfl rfl Tryd.func47 (by kernel_rfl) rfl #[.int .i64 (wrap64 (t123 - t124))] rfl (by (try simp only [mT,mC,mN]);first|done|rfl|(simp only [lD,lK];rfl)) ?_;(with_reducible refine (format_ones.calls (wrap64 (t123 - t124)) t132 _ A20.out).mono ?_);rintro e w' ⟨rfl,⟨nd,rfl⟩⟩;refine ⟨_,rfl,?_⟩))
              go_meet
              case rel => exact ⟨_,(false),(by first|rfl|(simp;done)|(simp [*];done)|(simp [wrap64];done)),H',⟨by have:=HJ6.out;first|omega|exact Nat.le_refl _⟩,⟨by (with_reducible repeat (first|refine bN ?_ _|refine bD ?_|refine bA ?_ _));exact BK127.out⟩,⟨by repeat (first|(with_reducible first|exact HB.out|apply wA|apply wN|apply wD|refine wS ?_ GE127.out)|exact HB.out)⟩⟩
          case rest =>
            clear HC19
            try clear c1
            try clear c2
            try clear p2
            try clear c4
            try clear c4b0
            try clear c4b1
            try clear p6
            try clear c11
            try clear c13
            try clear c14
            try clear c14b0
            try clear c14b1
            try clear c17
            try clear c18
            try clear c21
            try clear c21b0
            try clear c21b1
            try clear c23
            try clear c23b0
            try clear c23b1
            try clear hcz11_0
            try clear hcz11_1
            try clear hcz11_2
            try clear hcz11_3
            try clear hcz15_0
            try clear hcz15_1
            try clear hcz15_2
            try clear hcz15_3
            try clear hcz16_0
            try clear hcz16_1
            try clear hcz16_2
            try clear hcz16_3
            try clear hcz25_0
            try clear hcz25_1
            try clear hcz25_2
            try clear hcz25_3
            try clear hcz26_0
            try clear hcz26_1
            try clear hcz26_2
            try clear hcz26_3
            try clear hfz11_0
            try clear hfz11_1
            try clear hfz11_2
            try clear hfz11_3
            try clear hfz15_0
            try clear hfz15_1
            try clear hfz15_2
            try clear hfz15_3
            try clear hfz16_0
            try clear hfz16_1
            try clear hfz16_2
            try clear hfz16_3
            try clear hfz25_0
            try clear hfz25_1
            try clear hfz25_2
            try clear hfz25_3
            try clear hfz26_0
            try clear hfz26_1
            try clear hfz26_2
            try clear hfz26_3
            try clear p2
            try clear p6
            obtain ⟨kq,x41_18,rfl,HA,HJ18,BK127,HB⟩:=hcut
            cases kq with
            | zero => exact absurd HA.out (by simp [format_Class.j1])
            | succ kj18 =>
              have H:=HA.out
              clear HA
              simp only [format_Class.j1] at H
              by_cases c27 : x41_18 = true
              · subst c27
                have H1 : (some (1,0)) = some (r1,r2):=by rw [if_pos rfl] at H;exact H
                clear H;have H:=H1;clear H1
                simp only [Option.some.injEq,Prod.mk.injEq] at H
                obtain ⟨rfl,rfl⟩:=H
                go_wp2
                go_ret2
                exact ⟨by first|rfl|(simp [errW_none,errW_some] <;> rfl)|(simp [*,errW_none,errW_some] <;> rfl)|(simp [wrap64];done),by repeat (first|(with_reducible first|exact HB.out|apply wA|apply wN|apply wD|refine wS ?_ GE127.out)|exact HB.out)⟩
              · replace c27:=Bool.eq_false_iff.mpr c27
                subst c27
                have H1 : ((format_ones.f (wrap64 (t123 - t124))).bind fun t133 => (if t129 = t133 then (some (0,0)) else (if t129 = 0 then (format_Class.j2 kj18 t128 t129 8 (t130 == 0)) else (format_Class.j2 kj18 t128 t129 8 false)))) = some (r1,r2):=by rw [if_neg (show ¬ (false = true) by decide)] at H;exact H
                clear H;have H:=H1;clear H1;replace H:=Option.bind_eq_some_iff.mp H;obtain ⟨t133,A280,H⟩:=H
                replace H : (if t129 = t133 then (some (0,0)) else (if t129 = 0 then (format_Class.j2 kj18 t128 t129 8 (t130 == 0)) else (format_Class.j2 kj18 t128 t129 8 false))) = some (r1,r2):=H
                have A28:=A0.mk A280;clear A280
                by_cases c29 : t129 = t133
                · rw [if_pos c29] at H
                  have c29b0 : (t129 == t133) = true:=beq_iff_eq.mpr c29
                  have c29b1 : (t129 != t133) = false:=bne_eq_false_iff_eq.mpr c29
                  clear c29
                  simp only [Option.some.injEq,Prod.mk.injEq] at H
                  obtain ⟨rfl,rfl⟩:=H
                  have hcz30_0 : wc.cell? ⟨gb127,0,none⟩ = some (.int .i64 t123):=(bC BK127.out 0).trans rfl
                  have hcz30_1 : wc.cell? ⟨gb127,1,none⟩ = some (.int .i64 t124):=(bC BK127.out 1).trans rfl
                  have hcz30_2 : wc.cell? ⟨gb127,2,none⟩ = some (.int .i64 t125):=(bC BK127.out 2).trans rfl
                  have hcz30_3 : wc.cell? ⟨gb127,3,none⟩ = some (.int .i64 t126):=(bC BK127.out 3).trans rfl
                  have hfz30_0:=bF BK127.out 0
                  have hfz30_1:=bF BK127.out 1
                  have hfz30_2:=bF BK127.out 2
                  have hfz30_3:=bF BK127.out 3
                  go_wp2_with (first|((with_reducible refine gC (f:=47) rfl ?_);refine goesL_ (some 65) rfl rfl Tryd.func47 (by kernel_rfl) rfl #[.int .i64 (wrap64 (t123 - t124))] rfl (by (try simp only [mT,mC,mN]);first|done|rfl|(simp only [lD,lK];rfl)) ?_;(with_reducible refine (format_ones.calls (wrap64 (t123 - t124)) t133 _ A28.out).mono ?_);rintro e w' ⟨rfl,⟨nd,rfl⟩⟩;refine ⟨_,rfl,?_⟩))
                  go_ret2
                  exact ⟨by first|rfl|(simp [errW_none,errW_some] <;> rfl)|(simp [*,errW_none,errW_some] <;> rfl)|(simp [wrap64];done),by repeat (first|(with_reducible first|exact HB.out|apply wA|apply wN|apply wD|refine wS ?_ GE127.out)|exact HB.out)⟩
                · rw [if_neg c29] at H
                  have c29b0 : (t129 == t133) = false:=beq_eq_false_iff_ne.mpr c29
                  have c29b1 : (t129 != t133) = true:=bne_iff_ne.mpr c29
                  have HC31:=A0.mk H;clear H
                  have hcz32_0 : wc.cell? ⟨gb127,0,none⟩ = some (.int .i64 t123):=(bC BK127.out 0).trans rfl
                  have hcz32_1 : wc.cell? ⟨gb127,1,none⟩ = some (.int .i64 t124):=(bC BK127.out 1).trans rfl
                  have hcz32_2 : wc.cell? ⟨gb127,2,none⟩ = some (.int .i64 t125):=(bC BK127.out 2).trans rfl
                  have hcz32_3 : wc.cell? ⟨gb127,3,none⟩ = some (.int .i64 t126):=(bC BK127.out 3).trans rfl
                  have hfz32_0:=bF BK127.out 0
                  have hfz32_1:=bF BK127.out 1
                  have hfz32_2:=bF BK127.out 2
                  have hfz32_3:=bF BK127.out 3
                  go_upto_region 13 with (first|((with_reducible refine gC (f:=47) rfl ?_);refine goesL_ (some 65) rfl rfl Tryd.func47 (by kernel_rfl) rfl #[.int .i64 (wrap64 (t123 - t124))] rfl (by (try simp only [mT,mC,mN]);first|done|rfl|(simp only [lD,lK];rfl)) ?_;(with_reducible refine (format_ones.calls (wrap64 (t123 - t124)) t133 _ A28.out).mono ?_);rintro e w' ⟨rfl,⟨nd,rfl⟩⟩;refine ⟨_,rfl,?_⟩))
                  (try simp only [aP,lT,lZ,lS])
                  go_cut [67] (fun v67 wc => ∃ (kq : Nat) (x67_30 : Bool),v67 = .bool x67_30∧A0 (format_Class.j2 kq t128 t129 8 x67_30 = some (r1,r2))∧A0 (kq ≤ kj18)∧A0 (wc.heap[gb127]? = some (.cells #[.int .i64 t123,.int .i64 t124,.int .i64 t125,.int .i64 t126] 39 (0,0)))∧A0 (Below w.heap.size w wc))
                  case first =>
                    have H:=HC31.out
                    clear HC31
                    by_cases c33 : t129 = 0
                    · rw [if_pos c33] at H
                      have c33b0 : (t129 == 0) = true:=beq_iff_eq.mpr c33
                      have c33b1 : (t129 != 0) = false:=bne_eq_false_iff_eq.mpr c33
                      clear c33
                      (first|rw [c33b0]|(simp only [i64_w,i32_w];rw [c33b0])|skip)
                      have H':=A0.mk H
                      clear H
                      go_wp2
                      go_meet
                      case rel => exact ⟨_,((t130 == 0)),(by first|rfl|(simp;done)|(simp [*];done)|(simp [wrap64];done)),H',⟨by have:=HJ6.out;have:=HJ18.out;first|omega|exact Nat.le_refl _⟩,⟨by (with_reducible repeat (first|refine bN ?_ _|refine bD ?_|refine bA ?_ _));exact BK127.out⟩,⟨by repeat (first|(with_reducible first|exact HB.out|apply wA|apply wN|apply wD|refine wS ?_ GE127.out)|exact HB.out)⟩⟩
                    · rw [if_neg c33] at H
                      have c33b0 : (t129 == 0) = false:=beq_eq_false_iff_ne.mpr c33
                      have c33b1 : (t129 != 0) = true:=bne_iff_ne.mpr c33
                      (first|rw [c33b0]|(simp only [i64_w,i32_w];rw [c33b0])|skip)
                      have H':=A0.mk H
                      clear H
                      go_wp2
                      go_meet
                      case rel => exact ⟨_,(false),(by first|rfl|(simp;done)|(simp [*];done)|(simp [wrap64];done)),H',⟨by have:=HJ6.out;have:=HJ18.out;first|omega|exact Nat.le_refl _⟩,⟨by (with_reducible repeat (first|refine bN ?_ _|refine bD ?_|refine bA ?_ _));exact BK127.out⟩,⟨by repeat (first|(with_reducible first|exact HB.out|apply wA|apply wN|apply wD|refine wS ?_ GE127.out)|exact HB.out)⟩⟩
                  case rest =>
                    clear HC31
                    try clear c1
                    try clear c2
                    try clear p2
                    try clear c3
                    try clear c4
                    try clear c4b0
                    try clear c4b1
                    try clear p6
                    try clear c11
                    try clear c13
                    try clear c14
                    try clear c14b0
                    try clear c14b1
                    try clear c17
                    try clear c18
                    try clear c21
                    try clear c21b0
                    try clear c21b1
                    try clear c23
                    try clear c23b0
                    try clear c23b1
                    try clear c27
                    try clear c29
                    try clear c29b0
                    try clear c29b1
                    try clear c33
                    try clear c33b0
                    try clear c33b1
                    try clear hcz11_0
                    try clear hcz11_1
                    try clear hcz11_2
                    try clear hcz11_3
                    try clear hcz15_0
                    try clear hcz15_1
                    try clear hcz15_2
                    try clear hcz15_3
                    try clear hcz16_0
                    try clear hcz16_1
                    try clear hcz16_2
                    try clear hcz16_3
                    try clear hcz25_0
                    try clear hcz25_1
                    try clear hcz25_2
                    try clear hcz25_3
                    try clear hcz26_0
                    try clear hcz26_1
                    try clear hcz26_2
                    try clear hcz26_3
                    try clear hcz30_0
                    try clear hcz30_1
                    try clear hcz30_2
                    try clear hcz30_3
                    try clear hcz32_0
                    try clear hcz32_1
                    try clear hcz32_2
                    try clear hcz32_3
                    try clear hfz11_0
                    try clear hfz11_1
                    try clear hfz11_2
                    try clear hfz11_3
                    try clear hfz15_0
                    try clear hfz15_1
                    try clear hfz15_2
                    try clear hfz15_3
                    try clear hfz16_0
                    try clear hfz16_1
                    try clear hfz16_2
                    try clear hfz16_3
                    try clear hfz25_0
                    try clear hfz25_1
                    try clear hfz25_2
                    try clear hfz25_3
                    try clear hfz26_0
                    try clear hfz26_1
                    try clear hfz26_2
                    try clear hfz26_3
                    try clear hfz30_0
                    try clear hfz30_1
                    try clear hfz30_2
                    try clear hfz30_3
                    try clear hfz32_0
                    try clear hfz32_1
                    try clear hfz32_2
                    try clear hfz32_3
                    try clear p2
                    try clear p6
                    obtain ⟨kq,x67_30,rfl,HA,HJ30,BK127,HB⟩:=hcut
                    cases kq with
                    | zero => exact absurd HA.out (by simp [format_Class.j2])
                    | succ kj30 =>
                      have H:=HA.out
                      clear HA
                      simp only [format_Class.j2] at H
                      by_cases c34 : x67_30 = true
                      · subst c34
                        have H1 : (if t128 = true then (some (11 - 6,0)) else (some (6,0))) = some (r1,r2):=by rw [if_pos rfl] at H;exact H
                        clear H;have H:=H1;clear H1
                        by_cases c35 : t128 = true
                        · subst c35
                          have H1 : (some (11 - 6,0)) = some (r1,r2):=by rw [if_pos rfl] at H;exact H
                          clear H;have H:=H1;clear H1
                          simp only [Option.some.injEq,Prod.mk.injEq] at H
                          obtain ⟨rfl,rfl⟩:=H
                          go_wp2
                          go_ret2
                          exact ⟨by first|rfl|(simp [errW_none,errW_some] <;> rfl)|(simp [*,errW_none,errW_some] <;> rfl)|(simp [wrap64];done),by repeat (first|(with_reducible first|exact HB.out|apply wA|apply wN|apply wD|refine wS ?_ GE127.out)|exact HB.out)⟩
                        · replace c35:=Bool.eq_false_iff.mpr c35
                          subst c35
                          have H1 : (some (6,0)) = some (r1,r2):=by rw [if_neg (show ¬ (false = true) by decide)] at H;exact H
                          clear H;have H:=H1;clear H1
                          simp only [Option.some.injEq,Prod.mk.injEq] at H
                          obtain ⟨rfl,rfl⟩:=H
                          go_wp2
                          go_ret2
                          exact ⟨by first|rfl|(simp [errW_none,errW_some] <;> rfl)|(simp [*,errW_none,errW_some] <;> rfl)|(simp [wrap64];done),by repeat (first|(with_reducible first|exact HB.out|apply wA|apply wN|apply wD|refine wS ?_ GE127.out)|exact HB.out)⟩
                      · replace c34:=Bool.eq_false_iff.mpr c34
                        subst c34
                        have H1 : (if t129 = 0 then (if t128 = true then (some (11 - 7,0)) else (some (7,0))) else (if t128 = true then (some (wrap64 (11 - 8),0)) else (some (8,0)))) = some (r1,r2):=by rw [if_neg (show ¬ (false = true) by decide)] at H;exact H
                        clear H;have H:=H1;clear H1
                        by_cases c36 : t129 = 0
                        · rw [if_pos c36] at H
                          have c36b0 : (t129 == 0) = true:=beq_iff_eq.mpr c36
                          have c36b1 : (t129 != 0) = false:=bne_eq_false_iff_eq.mpr c36
                          clear c36
                          by_cases c37 : t128 = true
                          · subst c37
                            have H1 : (some (11 - 7,0)) = some (r1,r2):=by rw [if_pos rfl] at H;exact H
                            clear H;have H:=H1;clear H1
                            simp only [Option.some.injEq,Prod.mk.injEq] at H
                            obtain ⟨rfl,rfl⟩:=H
                            go_wp2
                            go_ret2
                            exact ⟨by first|rfl|(simp [errW_none,errW_some] <;> rfl)|(simp [*,errW_none,errW_some] <;> rfl)|(simp [wrap64];done),by repeat (first|(with_reducible first|exact HB.out|apply wA|apply wN|apply wD|refine wS ?_ GE127.out)|exact HB.out)⟩
                          · replace c37:=Bool.eq_false_iff.mpr c37
                            subst c37
                            have H1 : (some (7,0)) = some (r1,r2):=by rw [if_neg (show ¬ (false = true) by decide)] at H;exact H
                            clear H;have H:=H1;clear H1
                            simp only [Option.some.injEq,Prod.mk.injEq] at H
                            obtain ⟨rfl,rfl⟩:=H
                            go_wp2
                            go_ret2
                            exact ⟨by first|rfl|(simp [errW_none,errW_some] <;> rfl)|(simp [*,errW_none,errW_some] <;> rfl)|(simp [wrap64];done),by repeat (first|(with_reducible first|exact HB.out|apply wA|apply wN|apply wD|refine wS ?_ GE127.out)|exact HB.out)⟩
                        · rw [if_neg c36] at H
                          have c36b0 : (t129 == 0) = false:=beq_eq_false_iff_ne.mpr c36
                          have c36b1 : (t129 != 0) = true:=bne_iff_ne.mpr c36
                          by_cases c38 : t128 = true
                          · subst c38
                            have H1 : (some (wrap64 (11 - 8),0)) = some (r1,r2):=by rw [if_pos rfl] at H;exact H
                            clear H;have H:=H1;clear H1
                            simp only [Option.some.injEq,Prod.mk.injEq] at H
                            obtain ⟨rfl,rfl⟩:=H
                            go_wp2
                            go_ret2
                            exact ⟨by first|rfl|(simp [errW_none,errW_some] <;> rfl)|(simp [*,errW_none,errW_some] <;> rfl)|(simp [wrap64];done),by repeat (first|(with_reducible first|exact HB.out|apply wA|apply wN|apply wD|refine wS ?_ GE127.out)|exact HB.out)⟩
                          · replace c38:=Bool.eq_false_iff.mpr c38
                            subst c38
                            have H1 : (some (8,0)) = some (r1,r2):=by rw [if_neg (show ¬ (false = true) by decide)] at H;exact H
                            clear H;have H:=H1;clear H1
                            simp only [Option.some.injEq,Prod.mk.injEq] at H
                            obtain ⟨rfl,rfl⟩:=H
                            go_wp2
                            go_ret2
                            exact ⟨by first|rfl|(simp [errW_none,errW_some] <;> rfl)|(simp [*,errW_none,errW_some] <;> rfl)|(simp [wrap64];done),by repeat (first|(with_reducible first|exact HB.out|apply wA|apply wN|apply wD|refine wS ?_ GE127.out)|exact HB.out)⟩
  · rw [if_neg c4] at H
    have c4b0 : (t122 == 0) = false:=beq_eq_false_iff_ne.mpr c4
    have c4b1 : (t122 != 0) = true:=bne_iff_ne.mpr c4
    simp only [Option.some.injEq,Prod.mk.injEq] at H
    obtain ⟨rfl,rfl⟩:=H
    go_enter Tryd.func13,Tryd.ntmps13
    go_wp2_with (first|((with_reducible refine gC (f:=11) rfl ?_);refine goesL_ (some 14) rfl rfl Tryd.func11 (by kernel_rfl) rfl #[.int .i64 a0,.int .u64 a1] rfl (by (try simp only [mT,mC,mN]);first|done|rfl|(simp only [lD,lK];rfl)) ?_;(with_reducible refine (format_Check.calls a0 a1 t122 _ ?hG A3.out).mono ?_);(case hG => exact GlobR.below hG.out (by repeat (first|(with_reducible first|exact HB.out|apply wA|apply wN|apply wD|refine wS ?_ GE127.out)|exact HB.out)));rintro e w39 ⟨rfl,hb⟩;refine ⟨_,rfl,?_⟩;have n0_:=A0.mk (wT (by repeat (first|(with_reducible first|exact HB.out|apply wA|apply wN|apply wD)|exact HB.out)) hb);clear HB;have HB:=n0_;clear n0_;(try clear hb);(try clear hb2);(try clear hk);(try clear hi)))
    go_ret2
    exact ⟨by first|rfl|(simp [errW_none,errW_some] <;> rfl)|(simp [*,errW_none,errW_some] <;> rfl)|(simp [wrap64];done),by repeat (first|(with_reducible first|exact HB.out|apply wA|apply wN|apply wD)|exact HB.out)⟩

end Go.Proofs.YtjdmbhdlogbopaaDoor.V
