/- Contracts of the program's functions, each: where the printed function answers, the call answers the same. Written by vprint.py, this session's own program over the kit's print.py; Lean checks it. No conditions beyond those that each states. -/
import Derived.Test.YtidjigoghdghiaaVx0
import Derived.Test.YtidjigoghdghiaaVx1
import Derived.Test.YtidjigoghdghiaaVx2
import Derived.Test.YtidjigoghdghiaaVx3
import Derived.Test.YtidjigoghdghiaaVx9
namespace Go.Proofs.Ytidjigoghdghiaa.V
open Go.RowKit Go.Proofs.YtidjigoghdghiaaQ.PrintWords Go.Proofs.YtidjigoghdghiaaQ.PrintLast Go.Proofs.YtidjigoghdghiaaQ.PrintMore
open Bool renaming true → Y, false → Z
open List renaming setIfInBounds_toArray → lT, set_cons_zero → lZ, set_cons_succ → lS, map_toArray → mT, map_cons → mC, map_nil → mN, length_drop → lD, length_take → lK
open Act renaming put → aP
attribute [local go_sem] max2_int min2_int max_two min_two max_three min_three max_four min_four   -- for this text's walks alone
set_option linter.unusedVariables false
set_option linter.unusedSimpArgs false

attribute [local go_sem high] eqA24
/-! ### bits_Add64: function 36 -/
noncomputable def bits_Add64.f (a0 : Int) (a1 : Int) (a2 : Int) : Option (Int × Int):=if Told (0 ≤ a0∧0 ≤ a1∧0 ≤ a2∧a2 ≤ 1) then some ((a0 + a1 + a2) % 18446744073709551616,(a0 + a1 + a2) / 18446744073709551616) else none
theorem bits_Add64.calls (a0 : Int) (a1 : Int) (a2 : Int) (r1 : Int) (r2 : Int) (w : World) (h : bits_Add64.f a0 a1 a2 = some (r1,r2)) :
    CallsX Try.prog 36 #[.int .u64 a0,.int .u64 a1,.int .u64 a2] w fun e w' => e = .returned (.tuple #[.int .u64 r1,.int .u64 r2])∧Drawn0 w w':=by
  unfold bits_Add64.f at h
  split at h
  · rename_i hc0
    have hc:=hc0.out
    simp only [Option.some.injEq,Prod.mk.injEq] at h
    obtain ⟨rfl,rfl⟩:=h
    refine CallsX.of_run (w':=w) ?_ ⟨rfl,Drawn0.refl _⟩
    rw [run_callFunc_extern Try.func36 (by kernel_rfl) (by kernel_rfl) (by kernel_rfl) (e:=add64Entry) (by kernel_rfl),run_add64 a0 a1 a2 hc.1 hc.2.1 hc.2.2.1 hc.2.2.2]
    rfl
  · cases h

/-! ### wide_Add: function 17 -/
noncomputable def wide_Add.f (a0_0 : Int) (a0_1 : Int) (a1_0 : Int) (a1_1 : Int) : Option (Int × Int × Int):=(bits_Add64.f a0_1 a1_1 0).bind fun bt152 => ((bits_Add64.f a0_0 a1_0 bt152.2).bind fun bt154 => (some (bt154.1,bt152.1,bt154.2)))
set_option maxHeartbeats 8000000 in
set_option maxRecDepth 100000 in
theorem wide_Add.calls (a0_0 : Int) (a0_1 : Int) (a1_0 : Int) (a1_1 : Int) (r1 : Int) (r2 : Int) (r3 : Int) (w : World) (h : wide_Add.f a0_0 a0_1 a1_0 a1_1 = some (r1,r2,r3)) :
    Calls Try.prog 17 #[.agg #[.int .u64 a0_0,.int .u64 a0_1],.agg #[.int .u64 a1_0,.int .u64 a1_1]] w fun e w' => e = .returned (.tuple #[.agg #[.int .u64 r1,.int .u64 r2],.int .u64 r3])∧Below w.heap.size w w':=by
  have hu24:=Try.underlying24
  have HB:=A0.mk (Below.refl w.heap.size w)
  have H : ((bits_Add64.f a0_1 a1_1 0).bind fun bt152 => ((bits_Add64.f a0_0 a1_0 bt152.2).bind fun bt154 => (some (bt154.1,bt152.1,bt154.2)))) = some (r1,r2,r3):=h
  clear h;replace H:=Option.bind_eq_some_iff.mp H;obtain ⟨⟨t152,t153⟩,A30,H⟩:=H
  replace H : ((bits_Add64.f a0_0 a1_0 t153).bind fun bt154 => (some (bt154.1,t152,bt154.2))) = some (r1,r2,r3):=H
  have A3:=A0.mk A30;clear A30;replace H:=Option.bind_eq_some_iff.mp H;obtain ⟨⟨t154,t155⟩,A40,H⟩:=H
  replace H : (some (t154,t152,t155)) = some (r1,r2,r3):=H
  have A4:=A0.mk A40;clear A40
  simp only [Option.some.injEq,Prod.mk.injEq] at H
  obtain ⟨rfl,rfl,rfl⟩:=H
  go_enter Try.func17,Try.ntmps17
  go_wp2_with (first|((with_reducible refine gD (N:=2) rfl ?_);refine bE ?hg (N:=2) ?hd (cs:=#[.int .u64 a0_0,.int .u64 a0_1]) (t:=24) ?hr ?_;(case hd => rfl);(case hg => rfl);(case hr => first|(go_simp;done)|(go_simp;rfl));intro gb149 hg w5 hbox hb;have n0_:=A0.mk (wT (by repeat (first|(with_reducible first|exact HB.out|apply wA|apply wN|apply wD)|exact HB.out)) hb);have n1_:=A0.mk (hbox);have n2_:=A0.mk ((by rw [hg];exact (wZ (by repeat (first|(with_reducible first|exact HB.out|apply wA|apply wN|apply wD)|exact HB.out))) : w.heap.size ≤ gb149));have n3_:=A0.mk ((by rw [hg];exact (wZ (by repeat (first|(with_reducible first|exact HB.out|apply wA|apply wN|apply wD)|exact HB.out))) : w.heap.size ≤ gb149));clear HB;have HB:=n0_;have BK149:=n1_;have GW149:=n2_;have GE149:=n3_;clear n0_ n1_ n2_ n3_;clear hb hbox hg)|((with_reducible refine gD (N:=3) rfl ?_);refine bE ?hg (N:=3) ?hd (cs:=#[.int .u64 a1_0,.int .u64 a1_1]) (t:=24) ?hr ?_;(case hd => rfl);(case hg => rfl);(case hr => first|(go_simp;done)|(go_simp;rfl));intro gb150 hg w6 hbox hb;have n0_:=A0.mk (bB (g:=gb149) (o:=.cells #[.int .u64 a0_0,.int .u64 a0_1] 24 (0,0)) (by (with_reducible repeat (first|refine bN ?_ _|refine bD ?_|refine bA ?_ _));exact BK149.out) hb);have n1_:=A0.mk (wT (by repeat (first|(with_reducible first|exact HB.out|apply wA|apply wN|apply wD|refine wS ?_ GE149.out)|exact HB.out)) hb);have n2_:=A0.mk (hbox);have n3_:=A0.mk ((by rw [hg];exact (wZ (by repeat (first|(with_reducible first|exact HB.out|apply wA|apply wN|apply wD|refine wS ?_ GE149.out)|exact HB.out))) : w.heap.size ≤ gb150));have n4_:=A0.mk ((by rw [hg];exact (wZ (by repeat (first|(with_reducible first|exact HB.out|apply wA|apply wN|apply wD|refine wS ?_ GE149.out)|exact HB.out))) : w.heap.size ≤ gb150));have n5_:=A0.mk ((by rw [hg];exact Nat.ne_of_lt (blk_lt (g:=gb149) (o:=.cells #[.int .u64 a0_0,.int .u64 a0_1] 24 (0,0)) (by (with_reducible repeat (first|refine bN ?_ _|refine bD ?_|refine bA ?_ _));exact BK149.out)) : gb149 ≠ gb150));have n6_:=A0.mk ((by rw [hg];exact Nat.ne_of_gt (blk_lt (g:=gb149) (o:=.cells #[.int .u64 a0_0,.int .u64 a0_1] 24 (0,0)) (by (with_reducible repeat (first|refine bN ?_ _|refine bD ?_|refine bA ?_ _));exact BK149.out)) : gb150 ≠ gb149));clear BK149;clear HB;have BK149:=n0_;have HB:=n1_;have BK150:=n2_;have GW150:=n3_;have GE150:=n4_;have NB149_150:=n5_;have NB150_149:=n6_;clear n0_ n1_ n2_ n3_ n4_ n5_ n6_;clear hb hbox hg)|((with_reducible refine gD (N:=4) rfl ?_);refine bE ?hg (N:=4) ?hd (cs:=#[.int .u64 0,.int .u64 0]) (t:=24) ?hr ?_;(case hd => rfl);(case hg => rfl);(case hr => first|(go_simp;done)|(go_simp;rfl));intro gb151 hg w7 hbox hb;have n0_:=A0.mk (bB (g:=gb149) (o:=.cells #[.int .u64 a0_0,.int .u64 a0_1] 24 (0,0)) (by (with_reducible repeat (first|refine bN ?_ _|refine bD ?_|refine bA ?_ _));exact BK149.out) hb);have n1_:=A0.mk (bB (g:=gb150) (o:=.cells #[.int .u64 a1_0,.int .u64 a1_1] 24 (0,0)) (by (with_reducible repeat (first|refine bN ?_ _|refine bD ?_|refine bA ?_ _));exact BK150.out) hb);have n2_:=A0.mk (wT (by repeat (first|(with_reducible first|exact HB.out|apply wA|apply wN|apply wD|refine wS ?_ GE149.out|refine wS ?_ GE150.out)|exact HB.out)) hb);have n3_:=A0.mk (hbox);have n4_:=A0.mk ((by rw [hg];exact (wZ (by repeat (first|(with_reducible first|exact HB.out|apply wA|apply wN|apply wD|refine wS ?_ GE149.out|refine wS ?_ GE150.out)|exact HB.out))) : w.heap.size ≤ gb151));have n5_:=A0.mk ((by rw [hg];exact (wZ (by repeat (first|(with_reducible first|exact HB.out|apply wA|apply wN|apply wD|refine wS ?_ GE149.out|refine wS ?_ GE150.out)|exact HB.out))) : w.heap.size ≤ gb151));have n6_:=A0.mk ((by rw [hg];exact Nat.ne_of_lt (blk_lt (g:=gb149) (o:=.cells #[.int .u64 a0_0,.int .u64 a0_1] 24 (0,0)) (by (with_reducible repeat (first|refine bN ?_ _|refine bD ?_|refine bA ?_ _));exact BK149.out)) : gb149 ≠ gb151));have n7_:=A0.mk ((by rw [hg];exact Nat.ne_of_gt (blk_lt (g:=gb149) (o:=.cells #[.int .u64 a0_0,.int .u64 a0_1] 24 (0,0)) (by (with_reducible repeat (first|refine bN ?_ _|refine bD ?_|refine bA ?_ _));exact BK149.out)) : gb151 ≠ gb149));have n8_:=A0.mk ((by rw [hg];exact Nat.ne_of_lt (blk_lt (g:=gb150) (o:=.cells #[.int .u64 a1_0,.int .u64 a1_1] 24 (0,0)) (by (with_reducible repeat (first|refine bN ?_ _|refine bD ?_|refine bA ?_ _));exact BK150.out)) : gb150 ≠ gb151));have n9_:=A0.mk ((by rw [hg];exact Nat.ne_of_gt (blk_lt (g:=gb150) (o:=.cells #[.int .u64 a1_0,.int .u64 a1_1] 24 (0,0)) (by (with_reducible repeat (first|refine bN ?_ _|refine bD ?_|refine bA ?_ _));exact BK150.out)) : gb151 ≠ gb150));clear BK149;clear BK150;clear HB;have BK149:=n0_;have BK150:=n1_;have HB:=n2_;have BK151:=n3_;have GW151:=n4_;have GE151:=n5_;have NB149_151:=n6_;have NB151_149:=n7_;have NB150_151:=n8_;have NB151_150:=n9_;clear n0_ n1_ n2_ n3_ n4_ n5_ n6_ n7_ n8_ n9_;clear hb hbox hg;have hnb8:=NB149_150.out;have hnc8:=NB150_149.out;have hnb9:=NB149_151.out;have hnc9:=NB151_149.out;have hcz10_0 : w7.cell? ⟨gb149,0,none⟩ = some (.int .u64 a0_0):=(bC BK149.out 0).trans rfl;have hcz10_1 : w7.cell? ⟨gb149,1,none⟩ = some (.int .u64 a0_1):=(bC BK149.out 1).trans rfl;have hfz10_0:=bF BK149.out 0;have hfz10_1:=bF BK149.out 1;have hnb11:=NB150_151.out;have hnc11:=NB151_150.out;have hcz12_0 : w7.cell? ⟨gb150,0,none⟩ = some (.int .u64 a1_0):=(bC BK150.out 0).trans rfl;have hcz12_1 : w7.cell? ⟨gb150,1,none⟩ = some (.int .u64 a1_1):=(bC BK150.out 1).trans rfl;have hfz12_0:=bF BK150.out 0;have hfz12_1:=bF BK150.out 1)|((with_reducible refine gC (f:=36) rfl ?_);refine goesLX_ (some 14) rfl rfl Try.func36 (by kernel_rfl) rfl #[.int .u64 a0_1,.int .u64 a1_1,.int .u64 0] rfl (by (try simp only [mT,mC,mN]);first|done|rfl|(simp only [lD,lK];rfl)) ?_;(with_reducible refine (bits_Add64.calls a0_1 a1_1 0 t152 t153 _ A3.out).mono ?_);rintro e w' ⟨rfl,⟨nd,rfl⟩⟩;refine ⟨_,rfl,?_⟩;(try (rw [drewN_self w7];generalize hq_ : World.drewN w7 _ = w7;have n0_ : A0 (w7.heap[gb149]? = some (.cells #[.int .u64 a0_0,.int .u64 a0_1] 24 (0,0))):=⟨by rw [← hq_];exact (by (with_reducible repeat (first|refine bN ?_ _|refine bD ?_|refine bA ?_ _));exact BK149.out)⟩;have n1_ : A0 (w7.heap[gb150]? = some (.cells #[.int .u64 a1_0,.int .u64 a1_1] 24 (0,0))):=⟨by rw [← hq_];exact (by (with_reducible repeat (first|refine bN ?_ _|refine bD ?_|refine bA ?_ _));exact BK150.out)⟩;have n2_ : A0 (w7.heap[gb151]? = some (.cells #[.int .u64 0,.int .u64 0] 24 (0,0))):=⟨by rw [← hq_];exact (by (with_reducible repeat (first|refine bN ?_ _|refine bD ?_|refine bA ?_ _));exact BK151.out)⟩;have n3_ : A0 (Below w.heap.size w w7):=⟨by rw [← hq_];exact (by repeat (first|(with_reducible first|exact HB.out|apply wA|apply wN|apply wD|refine wS ?_ GE149.out|refine wS ?_ GE150.out|refine wS ?_ GE151.out)|exact HB.out))⟩;clear BK149 BK150 BK151 HB hq_;have BK149:=n0_;have BK150:=n1_;have BK151:=n2_;have HB:=n3_;have hcy149_0 : w7.cell? ⟨gb149,0,none⟩ = some (.int .u64 a0_0):=(bC BK149.out 0).trans rfl;have hfy149_0:=bF BK149.out 0;have hcy149_1 : w7.cell? ⟨gb149,1,none⟩ = some (.int .u64 a0_1):=(bC BK149.out 1).trans rfl;have hfy149_1:=bF BK149.out 1;have hcy150_0 : w7.cell? ⟨gb150,0,none⟩ = some (.int .u64 a1_0):=(bC BK150.out 0).trans rfl;have hfy150_0:=bF BK150.out 0;have hcy150_1 : w7.cell? ⟨gb150,1,none⟩ = some (.int .u64 a1_1):=(bC BK150.out 1).trans rfl;have hfy150_1:=bF BK150.out 1;have hcy151_0 : w7.cell? ⟨gb151,0,none⟩ = some (.int .u64 0):=(bC BK151.out 0).trans rfl;have hfy151_0:=bF BK151.out 0;have hcy151_1 : w7.cell? ⟨gb151,1,none⟩ = some (.int .u64 0):=(bC BK151.out 1).trans rfl;have hfy151_1:=bF BK151.out 1;clear n0_ n1_ n2_ n3_)))|((with_reducible refine gC (f:=36) rfl ?_);refine goesLX_ (some 23) rfl rfl Try.func36 (by kernel_rfl) rfl #[.int .u64 a0_0,.int .u64 a1_0,.int .u64 t153] rfl (by (try simp only [mT,mC,mN]);first|done|rfl|(simp only [lD,lK];rfl)) ?_;(with_reducible refine (bits_Add64.calls a0_0 a1_0 t153 t154 t155 _ A4.out).mono ?_);rintro e w' ⟨rfl,⟨nd,rfl⟩⟩;refine ⟨_,rfl,?_⟩;(try (rw [drewN_self w7];generalize hq_ : World.drewN w7 _ = w7;have n0_ : A0 (w7.heap[gb149]? = some (.cells #[.int .u64 a0_0,.int .u64 a0_1] 24 (0,0))):=⟨by rw [← hq_];exact (by (with_reducible repeat (first|refine bN ?_ _|refine bD ?_|refine bA ?_ _));exact BK149.out)⟩;have n1_ : A0 (w7.heap[gb150]? = some (.cells #[.int .u64 a1_0,.int .u64 a1_1] 24 (0,0))):=⟨by rw [← hq_];exact (by (with_reducible repeat (first|refine bN ?_ _|refine bD ?_|refine bA ?_ _));exact BK150.out)⟩;have n2_ : A0 (w7.heap[gb151]? = some (.cells #[.int .u64 0,.int .u64 0] 24 (0,0))):=⟨by rw [← hq_];exact (by (with_reducible repeat (first|refine bN ?_ _|refine bD ?_|refine bA ?_ _));exact BK151.out)⟩;have n3_ : A0 (Below w.heap.size w w7):=⟨by rw [← hq_];exact (by repeat (first|(with_reducible first|exact HB.out|apply wA|apply wN|apply wD|refine wS ?_ GE149.out|refine wS ?_ GE150.out|refine wS ?_ GE151.out)|exact HB.out))⟩;clear BK149 BK150 BK151 HB hq_;have BK149:=n0_;have BK150:=n1_;have BK151:=n2_;have HB:=n3_;have hcy149_0 : w7.cell? ⟨gb149,0,none⟩ = some (.int .u64 a0_0):=(bC BK149.out 0).trans rfl;have hfy149_0:=bF BK149.out 0;have hcy149_1 : w7.cell? ⟨gb149,1,none⟩ = some (.int .u64 a0_1):=(bC BK149.out 1).trans rfl;have hfy149_1:=bF BK149.out 1;have hcy150_0 : w7.cell? ⟨gb150,0,none⟩ = some (.int .u64 a1_0):=(bC BK150.out 0).trans rfl;have hfy150_0:=bF BK150.out 0;have hcy150_1 : w7.cell? ⟨gb150,1,none⟩ = some (.int .u64 a1_1):=(bC BK150.out 1).trans rfl;have hfy150_1:=bF BK150.out 1;have hcy151_0 : w7.cell? ⟨gb151,0,none⟩ = some (.int .u64 0):=(bC BK151.out 0).trans rfl;have hfy151_0:=bF BK151.out 0;have hcy151_1 : w7.cell? ⟨gb151,1,none⟩ = some (.int .u64 0):=(bC BK151.out 1).trans rfl;have hfy151_1:=bF BK151.out 1;clear n0_ n1_ n2_ n3_));have hcz13_0 : w7.cell? ⟨gb151,0,none⟩ = some (.int .u64 0):=(bC BK151.out 0).trans rfl;have hcz13_1 : w7.cell? ⟨gb151,1,none⟩ = some (.int .u64 0):=(bC BK151.out 1).trans rfl;have hfz13_0:=bF BK151.out 0;have hfz13_1:=bF BK151.out 1))
  refine bodyPost_ret (results_ct rfl _ _ gb151 24 #[.int .u64 t154,.int .u64 t152] (0,0) _ rfl (by (with_reducible repeat (first|refine bN ?_ _|refine bD ?_|refine bA ?_ _));refine bP (cs:=#[.int .u64 t154,.int .u64 0]) ?_ 1 _ rfl;(with_reducible repeat (first|refine bN ?_ _|refine bD ?_|refine bA ?_ _));refine bP (cs:=#[.int .u64 0,.int .u64 0]) ?_ 0 _ rfl;(with_reducible repeat (first|refine bN ?_ _|refine bD ?_|refine bA ?_ _));exact BK151.out) Try.underlying24 rfl (by kernel_rfl)) rfl ?_
  exact ⟨by first|rfl|(simp [errW_none,errW_some] <;> rfl)|(simp [*,errW_none,errW_some] <;> rfl),by repeat (first|(with_reducible first|exact HB.out|apply wA|apply wN|apply wD|refine wS ?_ GE149.out|refine wS ?_ GE150.out|refine wS ?_ GE151.out)|exact HB.out)⟩

/-! ### bits_Len64: function 40 -/
noncomputable def bits_Len64.f (a0 : Int) : Option (Int):=if Told (0 ≤ a0∧a0 < 18446744073709551616) then some (Lib.bitLen a0.toNat : Int) else none
set_option maxHeartbeats 8000000 in
set_option maxRecDepth 100000 in
theorem bits_Len64.calls (a0 : Int) (r : Int) (w : World) (h : bits_Len64.f a0 = some r) :
    Calls Try.prog 40 #[.int .u64 a0] w fun e w' => e = .returned (.int .i64 r)∧Drawn0 w w':=by
  unfold bits_Len64.f at h
  split at h
  · rename_i hc0
    have hc:=hc0.out
    simp only [Option.some.injEq] at h
    have H:=Lib.hid h
    clear h
    obtain ⟨h0,h1⟩:=hc
    have h2 : a0 ≤ 18446744073709551615:=by omega
    clear h1
    have hz : Lib.len8tab.size = 256:=by kernel_rfl
    go_enter Try.func40,Try.ntmps40
    go_wp2
    all_goals (go_ret;refine ⟨congrArg Ending.returned (congrArg (Value.int IntKind.i64) ?_),Drawn0.refl _⟩;rw [← H.out])
    all_goals first
      | exact len_leaf a0 (a0 / 4294967296 / 65536 / 256) 56 (by omega) (by omega) (by omega) (by have s_:=Lib.bitLen_shift56 a0.toNat (by omega) (by omega);rw [s_];congr 2;omega)
      | exact len_leaf a0 (a0 / 4294967296 / 65536) 48 (by omega) (by omega) (by omega) (by have s_:=Lib.bitLen_shift48 a0.toNat (by omega) (by omega);rw [s_];congr 2;omega)
      | exact len_leaf a0 (a0 / 4294967296 / 256) 40 (by omega) (by omega) (by omega) (by have s_:=Lib.bitLen_shift40 a0.toNat (by omega) (by omega);rw [s_];congr 2;omega)
      | exact len_leaf a0 (a0 / 4294967296) 32 (by omega) (by omega) (by omega) (by have s_:=Lib.bitLen_shift32 a0.toNat (by omega) (by omega);rw [s_];congr 2;omega)
      | exact len_leaf a0 (a0 / 65536 / 256) 24 (by omega) (by omega) (by omega) (by have s_:=Lib.bitLen_shift24 a0.toNat (by omega) (by omega);rw [s_];congr 2;omega)
      | exact len_leaf a0 (a0 / 65536) 16 (by omega) (by omega) (by omega) (by have s_:=Lib.bitLen_shift16 a0.toNat (by omega) (by omega);rw [s_];congr 2;omega)
      | exact len_leaf a0 (a0 / 256) 8 (by omega) (by omega) (by omega) (by have s_:=Lib.bitLen_shift8 a0.toNat (by omega) (by omega);rw [s_];congr 2;omega)
      | exact len_leaf0 a0 (by omega) (by omega)
  · cases h

/-! ### wide_Len: function 23 -/
noncomputable def wide_Len.f (a0_0 : Int) (a0_1 : Int) : Option (Int):=if a0_0 = 0 then ((bits_Len64.f a0_1).bind fun t157 => (some t157)) else ((bits_Len64.f a0_0).bind fun t158 => (some (wrap64 (64 + t158))))
set_option maxHeartbeats 8000000 in
set_option maxRecDepth 100000 in
theorem wide_Len.calls (a0_0 : Int) (a0_1 : Int) (r : Int) (w : World) (h : wide_Len.f a0_0 a0_1 = some r) :
    Calls Try.prog 23 #[.agg #[.int .u64 a0_0,.int .u64 a0_1]] w fun e w' => e = .returned (.int .i64 r)∧Below w.heap.size w w':=by
  have hu24:=Try.underlying24
  have HB:=A0.mk (Below.refl w.heap.size w)
  have H : (if a0_0 = 0 then ((bits_Len64.f a0_1).bind fun t157 => (some t157)) else ((bits_Len64.f a0_0).bind fun t158 => (some (wrap64 (64 + t158))))) = some r:=h
  clear h
  by_cases c2 : a0_0 = 0
  · rw [if_pos c2] at H
    have c2b0 : (a0_0 == 0) = true:=beq_iff_eq.mpr c2
    have c2b1 : (a0_0 != 0) = false:=bne_eq_false_iff_eq.mpr c2
    clear c2;replace H:=Option.bind_eq_some_iff.mp H;obtain ⟨t157,A30,H⟩:=H
    replace H : (some t157) = some r:=H
    have A3:=A0.mk A30;clear A30;obtain rfl:=Option.some.inj H
    go_enter Try.func23,Try.ntmps23
    go_wp2_with (first|((with_reducible refine gD (N:=1) rfl ?_);refine bE ?hg (N:=1) ?hd (cs:=#[.int .u64 a0_0,.int .u64 a0_1]) (t:=24) ?hr ?_;(case hd => rfl);(case hg => rfl);(case hr => first|(go_simp;done)|(go_simp;rfl));intro gb156 hg w4 hbox hb;have n0_:=A0.mk (wT (by repeat (first|(with_reducible first|exact HB.out|apply wA|apply wN|apply wD)|exact HB.out)) hb);have n1_:=A0.mk (hbox);have n2_:=A0.mk ((by rw [hg];exact (wZ (by repeat (first|(with_reducible first|exact HB.out|apply wA|apply wN|apply wD)|exact HB.out))) : w.heap.size ≤ gb156));have n3_:=A0.mk ((by rw [hg];exact (wZ (by repeat (first|(with_reducible first|exact HB.out|apply wA|apply wN|apply wD)|exact HB.out))) : w.heap.size ≤ gb156));clear HB;have HB:=n0_;have BK156:=n1_;have GW156:=n2_;have GE156:=n3_;clear n0_ n1_ n2_ n3_;clear hb hbox hg;have hcz5_0 : w4.cell? ⟨gb156,0,none⟩ = some (.int .u64 a0_0):=(bC BK156.out 0).trans rfl;have hcz5_1 : w4.cell? ⟨gb156,1,none⟩ = some (.int .u64 a0_1):=(bC BK156.out 1).trans rfl;have hfz5_0:=bF BK156.out 0;have hfz5_1:=bF BK156.out 1)|((with_reducible refine gC (f:=40) rfl ?_);refine goesL_ (some 12) rfl rfl Try.func40 (by kernel_rfl) rfl #[.int .u64 a0_1] rfl (by (try simp only [mT,mC,mN]);first|done|rfl|(simp only [lD,lK];rfl)) ?_;(with_reducible refine (bits_Len64.calls a0_1 t157 _ A3.out).mono ?_);rintro e w' ⟨rfl,⟨nd,rfl⟩⟩;refine ⟨_,rfl,?_⟩))
    go_ret
    exact ⟨by first|rfl|(simp [errW_none,errW_some] <;> rfl)|(simp [*,errW_none,errW_some] <;> rfl),by repeat (first|(with_reducible first|exact HB.out|apply wA|apply wN|apply wD|refine wS ?_ GE156.out)|exact HB.out)⟩
  · rw [if_neg c2] at H
    have c2b0 : (a0_0 == 0) = false:=beq_eq_false_iff_ne.mpr c2
    have c2b1 : (a0_0 != 0) = true:=bne_iff_ne.mpr c2
    replace H:=Option.bind_eq_some_iff.mp H;obtain ⟨t158,A60,H⟩:=H
    replace H : (some (wrap64 (64 + t158))) = some r:=H
    have A6:=A0.mk A60;clear A60;obtain rfl:=Option.some.inj H
    go_enter Try.func23,Try.ntmps23
    go_wp2_with (first|((with_reducible refine gD (N:=1) rfl ?_);refine bE ?hg (N:=1) ?hd (cs:=#[.int .u64 a0_0,.int .u64 a0_1]) (t:=24) ?hr ?_;(case hd => rfl);(case hg => rfl);(case hr => first|(go_simp;done)|(go_simp;rfl));intro gb156 hg w7 hbox hb;have n0_:=A0.mk (wT (by repeat (first|(with_reducible first|exact HB.out|apply wA|apply wN|apply wD)|exact HB.out)) hb);have n1_:=A0.mk (hbox);have n2_:=A0.mk ((by rw [hg];exact (wZ (by repeat (first|(with_reducible first|exact HB.out|apply wA|apply wN|apply wD)|exact HB.out))) : w.heap.size ≤ gb156));have n3_:=A0.mk ((by rw [hg];exact (wZ (by repeat (first|(with_reducible first|exact HB.out|apply wA|apply wN|apply wD)|exact HB.out))) : w.heap.size ≤ gb156));clear HB;have HB:=n0_;have BK156:=n1_;have GW156:=n2_;have GE156:=n3_;clear n0_ n1_ n2_ n3_;clear hb hbox hg;have hcz8_0 : w7.cell? ⟨gb156,0,none⟩ = some (.int .u64 a0_0):=(bC BK156.out 0).trans rfl;have hcz8_1 : w7.cell? ⟨gb156,1,none⟩ = some (.int .u64 a0_1):=(bC BK156.out 1).trans rfl;have hfz8_0:=bF BK156.out 0;have hfz8_1:=bF BK156.out 1)|((with_reducible refine gC (f:=40) rfl ?_);refine goesL_ (some 8) rfl rfl Try.func40 (by kernel_rfl) rfl #[.int .u64 a0_0] rfl (by (try simp only [mT,mC,mN]);first|done|rfl|(simp only [lD,lK];rfl)) ?_;(with_reducible refine (bits_Len64.calls a0_0 t158 _ A6.out).mono ?_);rintro e w' ⟨rfl,⟨nd,rfl⟩⟩;refine ⟨_,rfl,?_⟩))
    go_ret
    exact ⟨by first|rfl|(simp [errW_none,errW_some] <;> rfl)|(simp [*,errW_none,errW_some] <;> rfl),by repeat (first|(with_reducible first|exact HB.out|apply wA|apply wN|apply wD|refine wS ?_ GE156.out)|exact HB.out)⟩

/-! ### vernierlaw01_fixed: function 14 -/
noncomputable def vernierlaw01_fixed.f  : Option (Bool):=(wide_Add.f 0 18446744073709551615 0 1).bind fun bt159 => (if (bt159.1 == 1 && (bt159.2.1 == 0)) = true then (if bt159.2.2 = 0 then ((wide_Mul.f 9223372036854775808 2).bind fun bt163 => (if (bt163.1 == 1 && (bt163.2 == 0)) = true then ((wide_Len.f 1 0).bind fun t165 => (some (t165 == 65))) else (none))) else (none)) else (none))
set_option maxHeartbeats 8000000 in
set_option maxRecDepth 100000 in
theorem vernierlaw01_fixed.calls  (r : Bool) (w : World) (h : vernierlaw01_fixed.f  = some r) :
    Calls Try.prog 14 #[] w fun e w' => e = .returned (.bool r)∧Below w.heap.size w w':=by
  have hu24:=Try.underlying24
  have HB:=A0.mk (Below.refl w.heap.size w)
  have H : ((wide_Add.f 0 18446744073709551615 0 1).bind fun bt159 => (if (bt159.1 == 1 && (bt159.2.1 == 0)) = true then (if bt159.2.2 = 0 then ((wide_Mul.f 9223372036854775808 2).bind fun bt163 => (if (bt163.1 == 1 && (bt163.2 == 0)) = true then ((wide_Len.f 1 0).bind fun t165 => (some (t165 == 65))) else (none))) else (none)) else (none))) = some r:=h
  clear h;replace H:=Option.bind_eq_some_iff.mp H;obtain ⟨⟨t159,t160,t161⟩,A10,H⟩:=H
  replace H : (if (t159 == 1 && (t160 == 0)) = true then (if t161 = 0 then ((wide_Mul.f 9223372036854775808 2).bind fun bt163 => (if (bt163.1 == 1 && (bt163.2 == 0)) = true then ((wide_Len.f 1 0).bind fun t165 => (some (t165 == 65))) else (none))) else (none)) else (none)) = some r:=H
  have A1:=A0.mk A10;clear A10
  by_cases c2 : (t159 == 1 && (t160 == 0)) = true
  · rw [if_pos c2] at H
    have c2b0 : (t159 == 1 && (t160 == 0)) = true:=c2
    (try (have c2b1 : decide (t159 = 1 && (t160 == 0)) = true:=by simpa using c2))
    (try (have c2b2 : (t159 == 1 && (t160 == 0)) = true:=by simpa using c2))
    clear c2
    by_cases c3 : t161 = 0
    · rw [if_pos c3] at H
      have c3b0 : (t161 == 0) = true:=beq_iff_eq.mpr c3
      have c3b1 : (t161 != 0) = false:=bne_eq_false_iff_eq.mpr c3
      clear c3;replace H:=Option.bind_eq_some_iff.mp H;obtain ⟨⟨t163,t164⟩,A40,H⟩:=H
      replace H : (if (t163 == 1 && (t164 == 0)) = true then ((wide_Len.f 1 0).bind fun t165 => (some (t165 == 65))) else (none)) = some r:=H
      have A4:=A0.mk A40;clear A40
      by_cases c5 : (t163 == 1 && (t164 == 0)) = true
      · rw [if_pos c5] at H
        have c5b0 : (t163 == 1 && (t164 == 0)) = true:=c5
        (try (have c5b1 : decide (t163 = 1 && (t164 == 0)) = true:=by simpa using c5))
        (try (have c5b2 : (t163 == 1 && (t164 == 0)) = true:=by simpa using c5))
        clear c5;replace H:=Option.bind_eq_some_iff.mp H;obtain ⟨t165,A60,H⟩:=H
        replace H : (some (t165 == 65)) = some r:=H
        have A6:=A0.mk A60;clear A60;obtain rfl:=Option.some.inj H
        go_enter Try.func14,Try.ntmps14
        go_wp2_with (first|((with_reducible refine gC (f:=17) rfl ?_);refine goesL_ (some 6) rfl rfl Try.func17 (by kernel_rfl) rfl #[.agg #[.int .u64 0,.int .u64 18446744073709551615],.agg #[.int .u64 0,.int .u64 1]] rfl (by (try simp only [mT,mC,mN]);first|done|rfl|(simp only [lD,lK];rfl)) ?_;(with_reducible refine (wide_Add.calls 0 18446744073709551615 0 1 t159 t160 t161 _ A1.out).mono ?_);rintro e w7 ⟨rfl,hb⟩;refine ⟨_,rfl,?_⟩;have n0_:=A0.mk (wT (by repeat (first|(with_reducible first|exact HB.out|apply wA|apply wN|apply wD)|exact HB.out)) hb);clear HB;have HB:=n0_;clear n0_;(try clear hb);(try clear hb2);(try clear hk);(try clear hi))|((with_reducible refine gD (N:=1) rfl ?_);refine bE ?hg (N:=1) ?hd (cs:=#[.int .u64 0,.int .u64 0]) (t:=24) ?hr ?_;(case hd => rfl);(case hg => rfl);(case hr => first|(go_simp;done)|(go_simp;rfl));intro gb162 hg w8 hbox hb;have n0_:=A0.mk (wT (by repeat (first|(with_reducible first|exact HB.out|apply wA|apply wN|apply wD)|exact HB.out)) hb);have n1_:=A0.mk (hbox);have n2_:=A0.mk ((by rw [hg];exact (wZ (by repeat (first|(with_reducible first|exact HB.out|apply wA|apply wN|apply wD)|exact HB.out))) : w.heap.size ≤ gb162));have n3_:=A0.mk ((by rw [hg];exact (wZ (by repeat (first|(with_reducible first|exact HB.out|apply wA|apply wN|apply wD)|exact HB.out))) : w.heap.size ≤ gb162));clear HB;have HB:=n0_;have BK162:=n1_;have GW162:=n2_;have GE162:=n3_;clear n0_ n1_ n2_ n3_;clear hb hbox hg;have hcz9_0 : w8.cell? ⟨gb162,0,none⟩ = some (.int .u64 0):=(bC BK162.out 0).trans rfl;have hcz9_1 : w8.cell? ⟨gb162,1,none⟩ = some (.int .u64 0):=(bC BK162.out 1).trans rfl;have hfz9_0:=bF BK162.out 0;have hfz9_1:=bF BK162.out 1)|(go_at_call 15;(with_reducible refine (wide_Mul.calls 9223372036854775808 2 t163 t164 _ A4.out).mono ?_);rintro e w10 ⟨rfl,hb⟩;have n0_:=A0.mk (bB (g:=gb162) (o:=.cells #[.int .u64 t159,.int .u64 t160] 24 (0,0)) (by (with_reducible repeat (first|refine bN ?_ _|refine bD ?_|refine bA ?_ _));refine bP (cs:=#[.int .u64 t159,.int .u64 0]) ?_ 1 _ rfl;(with_reducible repeat (first|refine bN ?_ _|refine bD ?_|refine bA ?_ _));refine bP (cs:=#[.int .u64 0,.int .u64 0]) ?_ 0 _ rfl;(with_reducible repeat (first|refine bN ?_ _|refine bD ?_|refine bA ?_ _));exact BK162.out) hb);have n1_:=A0.mk (wT (by repeat (first|(with_reducible first|exact HB.out|apply wA|apply wN|apply wD|refine wS ?_ GE162.out)|exact HB.out)) hb);clear BK162;clear HB;have BK162:=n0_;have HB:=n1_;clear n0_ n1_;(try clear hb);(try clear hb2);(try clear hk);(try clear hi))|(go_at_call 23;(with_reducible refine (wide_Len.calls 1 0 t165 _ A6.out).mono ?_);rintro e w11 ⟨rfl,hb⟩;have n0_:=A0.mk (bB (g:=gb162) (o:=.cells #[.int .u64 t159,.int .u64 t160] 24 (0,0)) (by (with_reducible repeat (first|refine bN ?_ _|refine bD ?_|refine bA ?_ _));exact BK162.out) hb);have n1_:=A0.mk (wT (by repeat (first|(with_reducible first|exact HB.out|apply wA|apply wN|apply wD|refine wS ?_ GE162.out)|exact HB.out)) hb);clear BK162;clear HB;have BK162:=n0_;have HB:=n1_;clear n0_ n1_;(try clear hb);(try clear hb2);(try clear hk);(try clear hi)))
        go_ret
        exact ⟨by first|rfl|(simp [errW_none,errW_some] <;> rfl)|(simp [*,errW_none,errW_some] <;> rfl),by repeat (first|(with_reducible first|exact HB.out|apply wA|apply wN|apply wD|refine wS ?_ GE162.out)|exact HB.out)⟩
      · rw [if_neg c5] at H
        exact absurd H (by simp)
    · rw [if_neg c3] at H
      exact absurd H (by simp)
  · rw [if_neg c2] at H
    exact absurd H (by simp)

/-! ### vernierlaw01_WideRoots: function 3 -/
noncomputable def vernierlaw01_WideRoots.f (k : Nat) (a0_0 : Int) (a0_1 : Int) : Option (Bool):=(wide_Root.f k a0_0 a0_1).bind fun bt167 => ((vernierlaw01_w.f a0_0 a0_1).bind fun bt169 => ((vernierref01_Root.f k bt169.1 bt169.2).bind fun bt171 => ((vernierlaw01_fixed.f).bind fun t173 => (if t173 = true then (if bt167.1 = bt171.1 then (some (bt167.2 == bt171.2)) else (none)) else (none)))))
theorem vernierlaw01_WideRoots.mono : ∀ a0 a1 k,LeO (vernierlaw01_WideRoots.f k a0 a1) (vernierlaw01_WideRoots.f (k + 1) a0 a1):=by
  intro a0 a1 k
  unfold vernierlaw01_WideRoots.f
  repeat' first
      | (with_reducible exact vernierref01_Root.mono _ _ _)
      | (with_reducible exact wide_Root.mono _ _ _)
      | (with_reducible exact LeO.refl _)
      | (with_reducible exact LeO.none _)
      | (with_reducible refine LeO.ite ?_ ?_)
      | (with_reducible refine LeO.bind ?_ (fun _ => ?_))
      | exact vernierref01_Root.mono _ _ _
      | exact wide_Root.mono _ _ _
      | exact LeO.none _
      | refine LeO.ite ?_ ?_
      | refine LeO.bind ?_ (fun _ => ?_)
set_option maxHeartbeats 8000000 in
set_option maxRecDepth 100000 in
theorem vernierlaw01_WideRoots.calls (k : Nat) (a0_0 : Int) (a0_1 : Int) (r : Bool) (w : World) (h : vernierlaw01_WideRoots.f k a0_0 a0_1 = some r) :
    Calls Try.prog 3 #[.agg #[.int .u64 a0_0,.int .u64 a0_1]] w fun e w' => e = .returned (.bool r)∧Below w.heap.size w w':=by
  have hu24:=Try.underlying24
  have HB:=A0.mk (Below.refl w.heap.size w)
  have H : ((wide_Root.f k a0_0 a0_1).bind fun bt167 => ((vernierlaw01_w.f a0_0 a0_1).bind fun bt169 => ((vernierref01_Root.f k bt169.1 bt169.2).bind fun bt171 => ((vernierlaw01_fixed.f).bind fun t173 => (if t173 = true then (if bt167.1 = bt171.1 then (some (bt167.2 == bt171.2)) else (none)) else (none)))))) = some r:=h
  clear h;replace H:=Option.bind_eq_some_iff.mp H;obtain ⟨⟨t167,t168⟩,A20,H⟩:=H
  replace H : ((vernierlaw01_w.f a0_0 a0_1).bind fun bt169 => ((vernierref01_Root.f k bt169.1 bt169.2).bind fun bt171 => ((vernierlaw01_fixed.f).bind fun t173 => (if t173 = true then (if t167 = bt171.1 then (some (t168 == bt171.2)) else (none)) else (none))))) = some r:=H
  have A2:=A0.mk A20;clear A20;replace H:=Option.bind_eq_some_iff.mp H;obtain ⟨⟨t169,t170⟩,A30,H⟩:=H
  replace H : ((vernierref01_Root.f k t169 t170).bind fun bt171 => ((vernierlaw01_fixed.f).bind fun t173 => (if t173 = true then (if t167 = bt171.1 then (some (t168 == bt171.2)) else (none)) else (none)))) = some r:=H
  have A3:=A0.mk A30;clear A30;replace H:=Option.bind_eq_some_iff.mp H;obtain ⟨⟨t171,t172⟩,A40,H⟩:=H
  replace H : ((vernierlaw01_fixed.f).bind fun t173 => (if t173 = true then (if t167 = t171 then (some (t168 == t172)) else (none)) else (none))) = some r:=H
  have A4:=A0.mk A40;clear A40;replace H:=Option.bind_eq_some_iff.mp H;obtain ⟨t173,A50,H⟩:=H
  replace H : (if t173 = true then (if t167 = t171 then (some (t168 == t172)) else (none)) else (none)) = some r:=H
  have A5:=A0.mk A50;clear A50
  by_cases c6 : t173 = true
  · subst c6
    have H1 : (if t167 = t171 then (some (t168 == t172)) else (none)) = some r:=by rw [if_pos rfl] at H;exact H
    clear H;have H:=H1;clear H1
    by_cases c7 : t167 = t171
    · rw [if_pos c7] at H
      have c7b0 : (t167 == t171) = true:=beq_iff_eq.mpr c7
      have c7b1 : (t167 != t171) = false:=bne_eq_false_iff_eq.mpr c7
      clear c7;obtain rfl:=Option.some.inj H
      go_enter Try.func3,Try.ntmps3
      go_wp2_with (first|((with_reducible refine gD (N:=1) rfl ?_);refine bE ?hg (N:=1) ?hd (cs:=#[.int .u64 a0_0,.int .u64 a0_1]) (t:=24) ?hr ?_;(case hd => rfl);(case hg => rfl);(case hr => first|(go_simp;done)|(go_simp;rfl));intro gb166 hg w8 hbox hb;have n0_:=A0.mk (wT (by repeat (first|(with_reducible first|exact HB.out|apply wA|apply wN|apply wD)|exact HB.out)) hb);have n1_:=A0.mk (hbox);have n2_:=A0.mk ((by rw [hg];exact (wZ (by repeat (first|(with_reducible first|exact HB.out|apply wA|apply wN|apply wD)|exact HB.out))) : w.heap.size ≤ gb166));have n3_:=A0.mk ((by rw [hg];exact (wZ (by repeat (first|(with_reducible first|exact HB.out|apply wA|apply wN|apply wD)|exact HB.out))) : w.heap.size ≤ gb166));clear HB;have HB:=n0_;have BK166:=n1_;have GW166:=n2_;have GE166:=n3_;clear n0_ n1_ n2_ n3_;clear hb hbox hg;have hcz9_0 : w8.cell? ⟨gb166,0,none⟩ = some (.int .u64 a0_0):=(bC BK166.out 0).trans rfl;have hcz9_1 : w8.cell? ⟨gb166,1,none⟩ = some (.int .u64 a0_1):=(bC BK166.out 1).trans rfl;have hfz9_0:=bF BK166.out 0;have hfz9_1:=bF BK166.out 1)|((with_reducible refine gC (f:=11) rfl ?_);refine goesL_ (some 9) rfl rfl Try.func11 (by kernel_rfl) rfl #[.agg #[.int .u64 a0_0,.int .u64 a0_1]] rfl (by (try simp only [mT,mC,mN]);first|done|rfl|(simp only [lD,lK];rfl)) ?_;(with_reducible refine (wide_Root.calls k a0_0 a0_1 t167 t168 _ A2.out).mono ?_);rintro e w10 ⟨rfl,hb⟩;refine ⟨_,rfl,?_⟩;have n0_:=A0.mk (bB (g:=gb166) (o:=.cells #[.int .u64 a0_0,.int .u64 a0_1] 24 (0,0)) (by (with_reducible repeat (first|refine bN ?_ _|refine bD ?_|refine bA ?_ _));exact BK166.out) hb);have n1_:=A0.mk (wT (by repeat (first|(with_reducible first|exact HB.out|apply wA|apply wN|apply wD|refine wS ?_ GE166.out)|exact HB.out)) hb);clear BK166;clear HB;have BK166:=n0_;have HB:=n1_;clear n0_ n1_;(try clear hb);(try clear hb2);(try clear hk);(try clear hi);have hcz11_0 : w10.cell? ⟨gb166,0,none⟩ = some (.int .u64 a0_0):=(bC BK166.out 0).trans rfl;have hcz11_1 : w10.cell? ⟨gb166,1,none⟩ = some (.int .u64 a0_1):=(bC BK166.out 1).trans rfl;have hfz11_0:=bF BK166.out 0;have hfz11_1:=bF BK166.out 1)|((with_reducible refine gC (f:=13) rfl ?_);refine goesL_ (some 14) rfl rfl Try.func13 (by kernel_rfl) rfl #[.agg #[.int .u64 a0_0,.int .u64 a0_1]] rfl (by (try simp only [mT,mC,mN]);first|done|rfl|(simp only [lD,lK];rfl)) ?_;(with_reducible refine (vernierlaw01_w.calls a0_0 a0_1 t169 t170 _ A3.out).mono ?_);rintro e w12 ⟨rfl,hb⟩;refine ⟨_,rfl,?_⟩;have n0_:=A0.mk (bB (g:=gb166) (o:=.cells #[.int .u64 a0_0,.int .u64 a0_1] 24 (0,0)) (by (with_reducible repeat (first|refine bN ?_ _|refine bD ?_|refine bA ?_ _));exact BK166.out) hb);have n1_:=A0.mk (wT (by repeat (first|(with_reducible first|exact HB.out|apply wA|apply wN|apply wD|refine wS ?_ GE166.out)|exact HB.out)) hb);clear BK166;clear HB;have BK166:=n0_;have HB:=n1_;clear n0_ n1_;(try clear hb);(try clear hb2);(try clear hk);(try clear hi))|((with_reducible refine gC (f:=12) rfl ?_);refine goesL_ (some 15) rfl rfl Try.func12 (by kernel_rfl) rfl #[.agg #[.int .u64 t169,.int .u64 t170]] rfl (by (try simp only [mT,mC,mN]);first|done|rfl|(simp only [lD,lK];rfl)) ?_;(with_reducible refine (vernierref01_Root.calls k t169 t170 t171 t172 _ A4.out).mono ?_);rintro e w13 ⟨rfl,hb⟩;refine ⟨_,rfl,?_⟩;have n0_:=A0.mk (bB (g:=gb166) (o:=.cells #[.int .u64 a0_0,.int .u64 a0_1] 24 (0,0)) (by (with_reducible repeat (first|refine bN ?_ _|refine bD ?_|refine bA ?_ _));exact BK166.out) hb);have n1_:=A0.mk (wT (by repeat (first|(with_reducible first|exact HB.out|apply wA|apply wN|apply wD|refine wS ?_ GE166.out)|exact HB.out)) hb);clear BK166;clear HB;have BK166:=n0_;have HB:=n1_;clear n0_ n1_;(try clear hb);(try clear hb2);(try clear hk);(try clear hi))|((with_reducible refine gC (f:=14) rfl ?_);refine goesL_ (some 18) rfl rfl Try.func14 (by kernel_rfl) rfl #[] rfl (by (try simp only [mT,mC,mN]);first|done|rfl|(simp only [lD,lK];rfl)) ?_;(with_reducible refine (vernierlaw01_fixed.calls  true _ A5.out).mono ?_);rintro e w14 ⟨rfl,hb⟩;refine ⟨_,rfl,?_⟩;have n0_:=A0.mk (bB (g:=gb166) (o:=.cells #[.int .u64 a0_0,.int .u64 a0_1] 24 (0,0)) (by (with_reducible repeat (first|refine bN ?_ _|refine bD ?_|refine bA ?_ _));exact BK166.out) hb);have n1_:=A0.mk (wT (by repeat (first|(with_reducible first|exact HB.out|apply wA|apply wN|apply wD|refine wS ?_ GE166.out)|exact HB.out)) hb);clear BK166;clear HB;have BK166:=n0_;have HB:=n1_;clear n0_ n1_;(try clear hb);(try clear hb2);(try clear hk);(try clear hi)))
      go_ret
      exact ⟨by first|rfl|(simp [errW_none,errW_some] <;> rfl)|(simp [*,errW_none,errW_some] <;> rfl),by repeat (first|(with_reducible first|exact HB.out|apply wA|apply wN|apply wD|refine wS ?_ GE166.out)|exact HB.out)⟩
    · rw [if_neg c7] at H
      exact absurd H (by simp)
  · replace c6:=Bool.eq_false_iff.mpr c6
    subst c6
    have H1 : (none) = some r:=by rw [if_neg (show ¬ (false = true) by decide)] at H;exact H
    clear H;have H:=H1;clear H1
    exact absurd H (by simp)

/-- THE ONE PURE STATEMENT of vernierlaw01_WideRoots. -/
def vernierlaw01_WideRoots.Pure : Prop:=∀ (a0_0 : Int) (a0_1 : Int),(Lit.int .u64 a0_0).wf = true→(Lit.int .u64 a0_1).wf = true→∃ k,vernierlaw01_WideRoots.f k a0_0 a0_1 = some true
theorem vernierlaw01_WideRoots.walk (P : vernierlaw01_WideRoots.Pure) (a0_0 : Int) (a0_1 : Int) (wa0_0 : (Lit.int .u64 a0_0).wf = true) (wa0_1 : (Lit.int .u64 a0_1).wf = true) (w : World) :
    Calls Try.prog 3 #[.agg #[.int .u64 a0_0,.int .u64 a0_1]] w fun e w' => e = .returned (.bool true)∧Below w.heap.size w w':=by
  obtain ⟨k,h⟩:=P a0_0 a0_1 wa0_0 wa0_1
  refine (vernierlaw01_WideRoots.calls k a0_0 a0_1 true w h).mono ?_
  rintro e w' ⟨rfl,hd⟩
  exact ⟨rfl,hd⟩

end Go.Proofs.Ytidjigoghdghiaa.V
