/- Contracts of the program's functions, each: where the printed function answers, the call answers the same. Written by vprint.py, this session's own program over the kit's print.py; Lean checks it. No conditions beyond those that each states. -/
import Derived.Test.YtjdmbhdlogbopaaDoorVx0
import Derived.Test.YtjdmbhdlogbopaaDoorVx1
namespace Go.Proofs.YtjdmbhdlogbopaaDoor.V
open Go.RowKit Go.Proofs.YtjdmbhdlogbopaaDoorQ.PrintWords Go.Proofs.YtjdmbhdlogbopaaDoorQ.PrintLast Go.Proofs.YtjdmbhdlogbopaaDoorQ.PrintMore
open Bool renaming true → Y, false → Z
open List renaming setIfInBounds_toArray → lT, set_cons_zero → lZ, set_cons_succ → lS, map_toArray → mT, map_cons → mC, map_nil → mN, length_drop → lD, length_take → lK
open Act renaming put → aP
attribute [local go_sem] max2_int min2_int max_two min_two max_three min_three max_four min_four   -- for this text's walks alone
set_option linter.unusedVariables false
set_option linter.unusedSimpArgs false

/-! ### format_Fields: function 14 -/
noncomputable def format_Fields.f (a0 : Int) (a1 : Int) : Option (Bool × Int × Int × Int):=(format_Check.f a0 a1).bind fun t134 => (if t134 = 0 then ((format_rowAt.f a0).bind fun bt135 => ((format_split.f bt135.1 bt135.2.1 bt135.2.2.1 bt135.2.2.2 a1).bind fun bt139 => (some (bt139.1,bt139.2.1,bt139.2.2,0)))) else (some (false,0,0,t134)))
set_option maxHeartbeats 8000000 in
set_option maxRecDepth 100000 in
theorem format_Fields.calls (a0 : Int) (a1 : Int) (r1 : Bool) (r2 : Int) (r3 : Int) (r4 : Int) (w : World) (hG : A0 (GlobR w)) (h : format_Fields.f a0 a1 = some (r1,r2,r3,r4)) :
    Calls Tryd.prog 14 #[.int .i64 a0,.int .u64 a1] w fun e w' => e = .returned (.tuple #[.bool r1,.int .u64 r2,.int .u64 r3,.int .i64 r4])∧Below w.heap.size w w':=by
  have HB:=A0.mk (Below.refl w.heap.size w)
  have H : ((format_Check.f a0 a1).bind fun t134 => (if t134 = 0 then ((format_rowAt.f a0).bind fun bt135 => ((format_split.f bt135.1 bt135.2.1 bt135.2.2.1 bt135.2.2.2 a1).bind fun bt139 => (some (bt139.1,bt139.2.1,bt139.2.2,0)))) else (some (false,0,0,t134)))) = some (r1,r2,r3,r4):=h
  clear h;replace H:=Option.bind_eq_some_iff.mp H;obtain ⟨t134,A30,H⟩:=H
  replace H : (if t134 = 0 then ((format_rowAt.f a0).bind fun bt135 => ((format_split.f bt135.1 bt135.2.1 bt135.2.2.1 bt135.2.2.2 a1).bind fun bt139 => (some (bt139.1,bt139.2.1,bt139.2.2,0)))) else (some (false,0,0,t134))) = some (r1,r2,r3,r4):=H
  have A3:=A0.mk A30;clear A30
  by_cases c4 : t134 = 0
  · rw [if_pos c4] at H
    have c4b0 : (t134 == 0) = true:=beq_iff_eq.mpr c4
    have c4b1 : (t134 != 0) = false:=bne_eq_false_iff_eq.mpr c4
    clear c4;replace H:=Option.bind_eq_some_iff.mp H;obtain ⟨⟨t135,t136,t137,t138⟩,A50,H⟩:=H
    replace H : ((format_split.f t135 t136 t137 t138 a1).bind fun bt139 => (some (bt139.1,bt139.2.1,bt139.2.2,0))) = some (r1,r2,r3,r4):=H
    have A5:=A0.mk A50;clear A50;replace H:=Option.bind_eq_some_iff.mp H;obtain ⟨⟨t139,t140,t141⟩,A60,H⟩:=H
    replace H : (some (t139,t140,t141,0)) = some (r1,r2,r3,r4):=H
    have A6:=A0.mk A60;clear A60
    simp only [Option.some.injEq,Prod.mk.injEq] at H
    obtain ⟨rfl,rfl,rfl,rfl⟩:=H
    go_enter Tryd.func14,Tryd.ntmps14
    go_wp2_with (first|((with_reducible refine gC (f:=11) rfl ?_);refine goesL_ (some 11) rfl rfl Tryd.func11 (by kernel_rfl) rfl #[.int .i64 a0,.int .u64 a1] rfl (by (try simp only [mT,mC,mN]);first|done|rfl|(simp only [lD,lK];rfl)) ?_;(with_reducible refine (format_Check.calls a0 a1 t134 _ ?hG A3.out).mono ?_);(case hG => exact GlobR.below hG.out (by repeat (first|(with_reducible first|exact HB.out|apply wA|apply wN|apply wD)|exact HB.out)));rintro e w7 ⟨rfl,hb⟩;refine ⟨_,rfl,?_⟩;have n0_:=A0.mk (wT (by repeat (first|(with_reducible first|exact HB.out|apply wA|apply wN|apply wD)|exact HB.out)) hb);clear HB;have HB:=n0_;clear n0_;(try clear hb);(try clear hb2);(try clear hk);(try clear hi))|((with_reducible refine gD (N:=17) rfl ?_);refine format_rowAt.step 17 18 a0 t135 t136 t137 t138 rfl rfl rfl rfl rfl rfl rfl rfl A5.out ?hG ?_;(case hG => exact (GlobR.below hG.out (by repeat (first|(with_reducible first|exact HB.out|apply wA|apply wN|apply wD)|exact HB.out))).out);intro w8 hb;have n0_:=A0.mk (wT (by repeat (first|(with_reducible first|exact HB.out|apply wA|apply wN|apply wD)|exact HB.out)) hb);clear HB;have HB:=n0_;clear n0_;(try clear hb);(try clear hb2);(try clear hk);(try clear hi))|((with_reducible refine gC (f:=46) rfl ?_);refine goesL_ (some 20) rfl rfl Tryd.func46 (by kernel_rfl) rfl #[.agg #[.int .i64 t135,.int .i64 t136,.int .i64 t137,.int .i64 t138],.int .u64 a1] rfl (by (try simp only [mT,mC,mN]);first|done|rfl|(simp only [lD,lK];rfl)) ?_;(with_reducible refine (format_split.calls t135 t136 t137 t138 a1 t139 t140 t141 _ A6.out).mono ?_);rintro e w9 ⟨rfl,hb⟩;refine ⟨_,rfl,?_⟩;have n0_:=A0.mk (wT (by repeat (first|(with_reducible first|exact HB.out|apply wA|apply wN|apply wD)|exact HB.out)) hb);clear HB;have HB:=n0_;clear n0_;(try clear hb);(try clear hb2);(try clear hk);(try clear hi)))
    refine bodyPost_ret (results_list (rs:=[.tmp 4,.tmp 5,.tmp 6,.tmp 7]) rfl (by simp) (.tmp (.tmp (.tmp (.tmp .nil))))) rfl ?_
    exact ⟨by first|rfl|(simp [errW_none,errW_some] <;> rfl)|(simp [*,errW_none,errW_some] <;> rfl)|(simp [wrap64];done),by repeat (first|(with_reducible first|exact HB.out|apply wA|apply wN|apply wD)|exact HB.out)⟩
  · rw [if_neg c4] at H
    have c4b0 : (t134 == 0) = false:=beq_eq_false_iff_ne.mpr c4
    have c4b1 : (t134 != 0) = true:=bne_iff_ne.mpr c4
    simp only [Option.some.injEq,Prod.mk.injEq] at H
    obtain ⟨rfl,rfl,rfl,rfl⟩:=H
    go_enter Tryd.func14,Tryd.ntmps14
    go_wp2_with (first|((with_reducible refine gC (f:=11) rfl ?_);refine goesL_ (some 11) rfl rfl Tryd.func11 (by kernel_rfl) rfl #[.int .i64 a0,.int .u64 a1] rfl (by (try simp only [mT,mC,mN]);first|done|rfl|(simp only [lD,lK];rfl)) ?_;(with_reducible refine (format_Check.calls a0 a1 t134 _ ?hG A3.out).mono ?_);(case hG => exact GlobR.below hG.out (by repeat (first|(with_reducible first|exact HB.out|apply wA|apply wN|apply wD)|exact HB.out)));rintro e w10 ⟨rfl,hb⟩;refine ⟨_,rfl,?_⟩;have n0_:=A0.mk (wT (by repeat (first|(with_reducible first|exact HB.out|apply wA|apply wN|apply wD)|exact HB.out)) hb);clear HB;have HB:=n0_;clear n0_;(try clear hb);(try clear hb2);(try clear hk);(try clear hi)))
    refine bodyPost_ret (results_list (rs:=[.tmp 4,.tmp 5,.tmp 6,.tmp 7]) rfl (by simp) (.tmp (.tmp (.tmp (.tmp .nil))))) rfl ?_
    exact ⟨by first|rfl|(simp [errW_none,errW_some] <;> rfl)|(simp [*,errW_none,errW_some] <;> rfl)|(simp [wrap64];done),by repeat (first|(with_reducible first|exact HB.out|apply wA|apply wN|apply wD)|exact HB.out)⟩

/-! ### format_join: function 59 -/
def format_join.f (a0_0 : Int) (a0_1 : Int) (a0_2 : Int) (a0_3 : Int) (a1 : Bool) (a2 : Int) (a3 : Int) : Option (Int):=if 0 ≤ (wrap64 (a0_1 - 1)) then (if a1 = true then (if 0 ≤ (wrap64 (a0_0 - 1)) then (some (Go.bits .or .u64 (Go.bits .or .u64 (shl .u64 a2 (wrap64 (a0_1 - 1))) a3) (shl .u64 1 (wrap64 (a0_0 - 1))))) else (none)) else (some (Go.bits .or .u64 (shl .u64 a2 (wrap64 (a0_1 - 1))) a3))) else (none)
set_option maxHeartbeats 8000000 in
set_option maxRecDepth 100000 in
theorem format_join.calls (a0_0 : Int) (a0_1 : Int) (a0_2 : Int) (a0_3 : Int) (a1 : Bool) (a2 : Int) (a3 : Int) (r : Int) (w : World) (h : format_join.f a0_0 a0_1 a0_2 a0_3 a1 a2 a3 = some r) :
    Calls Tryd.prog 59 #[.agg #[.int .i64 a0_0,.int .i64 a0_1,.int .i64 a0_2,.int .i64 a0_3],.bool a1,.int .u64 a2,.int .u64 a3] w fun e w' => e = .returned (.int .u64 r)∧Below w.heap.size w w':=by
  have hu39:=Tryd.underlying39
  have HB:=A0.mk (Below.refl w.heap.size w)
  have H : (if 0 ≤ (wrap64 (a0_1 - 1)) then (if a1 = true then (if 0 ≤ (wrap64 (a0_0 - 1)) then (some (Go.bits .or .u64 (Go.bits .or .u64 (shl .u64 a2 (wrap64 (a0_1 - 1))) a3) (shl .u64 1 (wrap64 (a0_0 - 1))))) else (none)) else (some (Go.bits .or .u64 (shl .u64 a2 (wrap64 (a0_1 - 1))) a3))) else (none)) = some r:=h
  clear h
  obtain ⟨ji5,hji5⟩ : ∃ j_ : Int,(wrap64 (a0_1 - 1)) = j_:=⟨_,rfl⟩
  replace H : (if 0 ≤ (ji5) then (if a1 = true then (if 0 ≤ (wrap64 (a0_0 - 1)) then (some (Go.bits .or .u64 (Go.bits .or .u64 (shl .u64 a2 (ji5)) a3) (shl .u64 1 (wrap64 (a0_0 - 1))))) else (none)) else (some (Go.bits .or .u64 (shl .u64 a2 (ji5)) a3))) else (none)) = some r:=by first|(rw [hji5] at H;exact H)|(simp only [hji5] at H ⊢;exact H)
  have hji5w : (IntKind.i64.wrap (a0_1 - 1)) = ji5:=(i64_w _).trans hji5
  by_cases c6 : 0 ≤ (ji5)
  · rw [if_pos c6] at H
    have c6b0:=eq_true c6
    have c6b1 : decide (0 ≤ (ji5)) = true:=decide_eq_true c6
    clear c6
    obtain ⟨ji7,hji7⟩ : ∃ j_ : Int,(shl .u64 a2 (ji5)) = j_:=⟨_,rfl⟩
    replace H : (if a1 = true then (if 0 ≤ (wrap64 (a0_0 - 1)) then (some (Go.bits .or .u64 (Go.bits .or .u64 (ji7) a3) (shl .u64 1 (wrap64 (a0_0 - 1))))) else (none)) else (some (Go.bits .or .u64 (ji7) a3))) = some r:=by first|(rw [hji7] at H;exact H)|(simp only [hji7] at H ⊢;exact H)
    have hji7_ : (IntKind.u64.wrap (a2 * 2 ^ min (ji5).toNat 64)) = ji7:=hji7
    have hji7z : (ji5) ≤ 64→(IntKind.u64.wrap (a2 * 2 ^ (ji5).toNat)) = ji7:=shl_small hji7
    by_cases c8 : a1 = true
    · subst c8
      have H1 : (if 0 ≤ (wrap64 (a0_0 - 1)) then (some (Go.bits .or .u64 (Go.bits .or .u64 (ji7) a3) (shl .u64 1 (wrap64 (a0_0 - 1))))) else (none)) = some r:=by rw [if_pos rfl] at H;exact H
      clear H;have H:=H1;clear H1
      obtain ⟨ji9,hji9⟩ : ∃ j_ : Int,(wrap64 (a0_0 - 1)) = j_:=⟨_,rfl⟩
      replace H : (if 0 ≤ (ji9) then (some (Go.bits .or .u64 (Go.bits .or .u64 (ji7) a3) (shl .u64 1 (ji9)))) else (none)) = some r:=by first|(rw [hji9] at H;exact H)|(simp only [hji9] at H ⊢;exact H)
      have hji9w : (IntKind.i64.wrap (a0_0 - 1)) = ji9:=(i64_w _).trans hji9
      by_cases c10 : 0 ≤ (ji9)
      · rw [if_pos c10] at H
        have c10b0:=eq_true c10
        have c10b1 : decide (0 ≤ (ji9)) = true:=decide_eq_true c10
        clear c10
        obtain ⟨ji11,hji11⟩ : ∃ j_ : Int,(shl .u64 1 (ji9)) = j_:=⟨_,rfl⟩
        replace H : (some (Go.bits .or .u64 (Go.bits .or .u64 (ji7) a3) (ji11))) = some r:=by first|(rw [hji11] at H;exact H)|(simp only [hji11] at H ⊢;exact H)
        have hji11_ : (IntKind.u64.wrap (1 * 2 ^ min (ji9).toNat 64)) = ji11:=hji11
        have hji11z : (ji9) ≤ 64→(IntKind.u64.wrap (1 * 2 ^ (ji9).toNat)) = ji11:=shl_small hji11
        have hji11u : (IntKind.u64.wrap (2 ^ min (ji9).toNat 64)) = ji11:=by have h_:=hji11_;rw [Int.one_mul] at h_;exact h_
        have hji11v : (ji9) ≤ 64→(IntKind.u64.wrap (2 ^ (ji9).toNat)) = ji11:=fun hle_ => by have h_:=hji11z hle_;rw [Int.one_mul] at h_;exact h_
        obtain rfl:=Option.some.inj H
        go_enter Tryd.func59,Tryd.ntmps59
        go_wp2_with (first|((with_reducible refine gD (N:=4) rfl ?_);refine bE ?hg (N:=4) ?hd (cs:=#[.int .i64 a0_0,.int .i64 a0_1,.int .i64 a0_2,.int .i64 a0_3]) (t:=39) ?hr ?_;(case hd => rfl);(case hg => rfl);(case hr => first|(go_simp;done)|(go_simp;rfl));intro gb142 hg w12 hbox hb;have n0_:=A0.mk (wT (by repeat (first|(with_reducible first|exact HB.out|apply wA|apply wN|apply wD)|exact HB.out)) hb);have n1_:=A0.mk (hbox);have n2_:=A0.mk ((by rw [hg];exact (wZ (by repeat (first|(with_reducible first|exact HB.out|apply wA|apply wN|apply wD)|exact HB.out))) : w.heap.size ≤ gb142));have n3_:=A0.mk ((by rw [hg];exact (wZ (by repeat (first|(with_reducible first|exact HB.out|apply wA|apply wN|apply wD)|exact HB.out))) : w.heap.size ≤ gb142));clear HB;have HB:=n0_;have BK142:=n1_;have GW142:=n2_;have GE142:=n3_;clear n0_ n1_ n2_ n3_;clear hb hbox hg;have hcz13_0 : w12.cell? ⟨gb142,0,none⟩ = some (.int .i64 a0_0):=(bC BK142.out 0).trans rfl;have hcz13_1 : w12.cell? ⟨gb142,1,none⟩ = some (.int .i64 a0_1):=(bC BK142.out 1).trans rfl;have hcz13_2 : w12.cell? ⟨gb142,2,none⟩ = some (.int .i64 a0_2):=(bC BK142.out 2).trans rfl;have hcz13_3 : w12.cell? ⟨gb142,3,none⟩ = some (.int .i64 a0_3):=(bC BK142.out 3).trans rfl;have hfz13_0:=bF BK142.out 0;have hfz13_1:=bF BK142.out 1;have hfz13_2:=bF BK142.out 2;have hfz13_3:=bF BK142.out 3))
        go_ret
        exact ⟨by first|rfl|(simp [errW_none,errW_some] <;> rfl)|(simp only [← hji5,← hji7,← hji9,← hji11];first|rfl|(simp [errW_none,errW_some] <;> rfl))|(simp [*,errW_none,errW_some] <;> rfl),by repeat (first|(with_reducible first|exact HB.out|apply wA|apply wN|apply wD|refine wS ?_ GE142.out)|exact HB.out)⟩
      · rw [if_neg c10] at H
        exact absurd H (by simp)
    · replace c8:=Bool.eq_false_iff.mpr c8
      subst c8
      have H1 : (some (Go.bits .or .u64 (ji7) a3)) = some r:=by rw [if_neg (show ¬ (false = true) by decide)] at H;exact H
      clear H;have H:=H1;clear H1;obtain rfl:=Option.some.inj H
      go_enter Tryd.func59,Tryd.ntmps59
      go_wp2_with (first|((with_reducible refine gD (N:=4) rfl ?_);refine bE ?hg (N:=4) ?hd (cs:=#[.int .i64 a0_0,.int .i64 a0_1,.int .i64 a0_2,.int .i64 a0_3]) (t:=39) ?hr ?_;(case hd => rfl);(case hg => rfl);(case hr => first|(go_simp;done)|(go_simp;rfl));intro gb142 hg w14 hbox hb;have n0_:=A0.mk (wT (by repeat (first|(with_reducible first|exact HB.out|apply wA|apply wN|apply wD)|exact HB.out)) hb);have n1_:=A0.mk (hbox);have n2_:=A0.mk ((by rw [hg];exact (wZ (by repeat (first|(with_reducible first|exact HB.out|apply wA|apply wN|apply wD)|exact HB.out))) : w.heap.size ≤ gb142));have n3_:=A0.mk ((by rw [hg];exact (wZ (by repeat (first|(with_reducible first|exact HB.out|apply wA|apply wN|apply wD)|exact HB.out))) : w.heap.size ≤ gb142));clear HB;have HB:=n0_;have BK142:=n1_;have GW142:=n2_;have GE142:=n3_;clear n0_ n1_ n2_ n3_;clear hb hbox hg;have hcz15_0 : w14.cell? ⟨gb142,0,none⟩ = some (.int .i64 a0_0):=(bC BK142.out 0).trans rfl;have hcz15_1 : w14.cell? ⟨gb142,1,none⟩ = some (.int .i64 a0_1):=(bC BK142.out 1).trans rfl;have hcz15_2 : w14.cell? ⟨gb142,2,none⟩ = some (.int .i64 a0_2):=(bC BK142.out 2).trans rfl;have hcz15_3 : w14.cell? ⟨gb142,3,none⟩ = some (.int .i64 a0_3):=(bC BK142.out 3).trans rfl;have hfz15_0:=bF BK142.out 0;have hfz15_1:=bF BK142.out 1;have hfz15_2:=bF BK142.out 2;have hfz15_3:=bF BK142.out 3))
      go_ret
      exact ⟨by first|rfl|(simp [errW_none,errW_some] <;> rfl)|(simp only [← hji5,← hji7];first|rfl|(simp [errW_none,errW_some] <;> rfl))|(simp [*,errW_none,errW_some] <;> rfl),by repeat (first|(with_reducible first|exact HB.out|apply wA|apply wN|apply wD|refine wS ?_ GE142.out)|exact HB.out)⟩
  · rw [if_neg c6] at H
    exact absurd H (by simp)

/-! ### format_none: function 56 -/
def format_none.f (a0_0 : Int) (a0_1 : Int) (a0_2 : Int) (a0_3 : Int) : Option (Int):=some 0
set_option maxHeartbeats 8000000 in
set_option maxRecDepth 100000 in
theorem format_none.calls (a0_0 : Int) (a0_1 : Int) (a0_2 : Int) (a0_3 : Int) (r : Int) (w : World) (h : format_none.f a0_0 a0_1 a0_2 a0_3 = some r) :
    Calls Tryd.prog 56 #[.agg #[.int .i64 a0_0,.int .i64 a0_1,.int .i64 a0_2,.int .i64 a0_3]] w fun e w' => e = .returned (.int .u64 r)∧Below w.heap.size w w':=by
  have hu39:=Tryd.underlying39
  have HB:=A0.mk (Below.refl w.heap.size w)
  have H : (some 0) = some r:=h
  clear h;obtain rfl:=Option.some.inj H
  go_enter Tryd.func56,Tryd.ntmps56
  go_wp2_with (first|((with_reducible refine gD (N:=1) rfl ?_);refine bE ?hg (N:=1) ?hd (cs:=#[.int .i64 a0_0,.int .i64 a0_1,.int .i64 a0_2,.int .i64 a0_3]) (t:=39) ?hr ?_;(case hd => rfl);(case hg => rfl);(case hr => first|(go_simp;done)|(go_simp;rfl));intro gb143 hg w2 hbox hb;have n0_:=A0.mk (wT (by repeat (first|(with_reducible first|exact HB.out|apply wA|apply wN|apply wD)|exact HB.out)) hb);have n1_:=A0.mk (hbox);have n2_:=A0.mk ((by rw [hg];exact (wZ (by repeat (first|(with_reducible first|exact HB.out|apply wA|apply wN|apply wD)|exact HB.out))) : w.heap.size ≤ gb143));have n3_:=A0.mk ((by rw [hg];exact (wZ (by repeat (first|(with_reducible first|exact HB.out|apply wA|apply wN|apply wD)|exact HB.out))) : w.heap.size ≤ gb143));clear HB;have HB:=n0_;have BK143:=n1_;have GW143:=n2_;have GE143:=n3_;clear n0_ n1_ n2_ n3_;clear hb hbox hg))
  go_ret
  exact ⟨by first|rfl|(simp [errW_none,errW_some] <;> rfl)|(simp [*,errW_none,errW_some] <;> rfl)|(simp [wrap64];done),by repeat (first|(with_reducible first|exact HB.out|apply wA|apply wN|apply wD|refine wS ?_ GE143.out)|exact HB.out)⟩

/-! ### format_top: function 57 -/
def format_top.f (a0_0 : Int) (a0_1 : Int) (a0_2 : Int) (a0_3 : Int) : Option (Int):=if 0 ≤ (wrap64 (a0_1 - 2)) then (some (shl .u64 1 (wrap64 (a0_1 - 2)))) else (none)
set_option maxHeartbeats 8000000 in
set_option maxRecDepth 100000 in
theorem format_top.calls (a0_0 : Int) (a0_1 : Int) (a0_2 : Int) (a0_3 : Int) (r : Int) (w : World) (h : format_top.f a0_0 a0_1 a0_2 a0_3 = some r) :
    Calls Tryd.prog 57 #[.agg #[.int .i64 a0_0,.int .i64 a0_1,.int .i64 a0_2,.int .i64 a0_3]] w fun e w' => e = .returned (.int .u64 r)∧Below w.heap.size w w':=by
  have hu39:=Tryd.underlying39
  have HB:=A0.mk (Below.refl w.heap.size w)
  have H : (if 0 ≤ (wrap64 (a0_1 - 2)) then (some (shl .u64 1 (wrap64 (a0_1 - 2)))) else (none)) = some r:=h
  clear h
  obtain ⟨ji2,hji2⟩ : ∃ j_ : Int,(wrap64 (a0_1 - 2)) = j_:=⟨_,rfl⟩
  replace H : (if 0 ≤ (ji2) then (some (shl .u64 1 (ji2))) else (none)) = some r:=by first|(rw [hji2] at H;exact H)|(simp only [hji2] at H ⊢;exact H)
  have hji2w : (IntKind.i64.wrap (a0_1 - 2)) = ji2:=(i64_w _).trans hji2
  by_cases c3 : 0 ≤ (ji2)
  · rw [if_pos c3] at H
    have c3b0:=eq_true c3
    have c3b1 : decide (0 ≤ (ji2)) = true:=decide_eq_true c3
    clear c3
    obtain ⟨ji4,hji4⟩ : ∃ j_ : Int,(shl .u64 1 (ji2)) = j_:=⟨_,rfl⟩
    replace H : (some ji4) = some r:=by first|(rw [hji4] at H;exact H)|(simp only [hji4] at H ⊢;exact H)
    have hji4_ : (IntKind.u64.wrap (1 * 2 ^ min (ji2).toNat 64)) = ji4:=hji4
    have hji4z : (ji2) ≤ 64→(IntKind.u64.wrap (1 * 2 ^ (ji2).toNat)) = ji4:=shl_small hji4
    have hji4u : (IntKind.u64.wrap (2 ^ min (ji2).toNat 64)) = ji4:=by have h_:=hji4_;rw [Int.one_mul] at h_;exact h_
    have hji4v : (ji2) ≤ 64→(IntKind.u64.wrap (2 ^ (ji2).toNat)) = ji4:=fun hle_ => by have h_:=hji4z hle_;rw [Int.one_mul] at h_;exact h_
    obtain rfl:=Option.some.inj H
    go_enter Tryd.func57,Tryd.ntmps57
    go_wp2_with (first|((with_reducible refine gD (N:=1) rfl ?_);refine bE ?hg (N:=1) ?hd (cs:=#[.int .i64 a0_0,.int .i64 a0_1,.int .i64 a0_2,.int .i64 a0_3]) (t:=39) ?hr ?_;(case hd => rfl);(case hg => rfl);(case hr => first|(go_simp;done)|(go_simp;rfl));intro gb144 hg w5 hbox hb;have n0_:=A0.mk (wT (by repeat (first|(with_reducible first|exact HB.out|apply wA|apply wN|apply wD)|exact HB.out)) hb);have n1_:=A0.mk (hbox);have n2_:=A0.mk ((by rw [hg];exact (wZ (by repeat (first|(with_reducible first|exact HB.out|apply wA|apply wN|apply wD)|exact HB.out))) : w.heap.size ≤ gb144));have n3_:=A0.mk ((by rw [hg];exact (wZ (by repeat (first|(with_reducible first|exact HB.out|apply wA|apply wN|apply wD)|exact HB.out))) : w.heap.size ≤ gb144));clear HB;have HB:=n0_;have BK144:=n1_;have GW144:=n2_;have GE144:=n3_;clear n0_ n1_ n2_ n3_;clear hb hbox hg;have hcz6_0 : w5.cell? ⟨gb144,0,none⟩ = some (.int .i64 a0_0):=(bC BK144.out 0).trans rfl;have hcz6_1 : w5.cell? ⟨gb144,1,none⟩ = some (.int .i64 a0_1):=(bC BK144.out 1).trans rfl;have hcz6_2 : w5.cell? ⟨gb144,2,none⟩ = some (.int .i64 a0_2):=(bC BK144.out 2).trans rfl;have hcz6_3 : w5.cell? ⟨gb144,3,none⟩ = some (.int .i64 a0_3):=(bC BK144.out 3).trans rfl;have hfz6_0:=bF BK144.out 0;have hfz6_1:=bF BK144.out 1;have hfz6_2:=bF BK144.out 2;have hfz6_3:=bF BK144.out 3))
    go_ret
    exact ⟨by first|rfl|(simp [errW_none,errW_some] <;> rfl)|(simp only [← hji2,← hji4];first|rfl|(simp [errW_none,errW_some] <;> rfl))|(simp [*,errW_none,errW_some] <;> rfl),by repeat (first|(with_reducible first|exact HB.out|apply wA|apply wN|apply wD|refine wS ?_ GE144.out)|exact HB.out)⟩
  · rw [if_neg c3] at H
    exact absurd H (by simp)

/-! ### format_special_none_top: function 114 -/
noncomputable def format_special_none_top.f (a0 : Int) (a1 : Bool) : Option (Int × Int):=(format_Params.f a0).bind fun bt145 => (if bt145.2.2.2.2 = 0 then ((format_ones.f (wrap64 (bt145.1 - bt145.2.1))).bind fun t151 => ((format_none.f bt145.1 bt145.2.1 bt145.2.2.1 bt145.2.2.2.1).bind fun t152 => ((format_top.f bt145.1 bt145.2.1 bt145.2.2.1 bt145.2.2.2.1).bind fun t153 => ((format_join.f bt145.1 bt145.2.1 bt145.2.2.1 bt145.2.2.2.1 a1 (IntKind.u64.wrap (t151 - t152)) t153).bind fun t154 => (some (t154,0)))))) else (some (0,bt145.2.2.2.2)))
def format_special_none_top.T4 : Bool × List (List Nat × List Nat):=(true,[([],[]),([],[]),([],[]),([2],[2]),([],[]),([4],[4]),([3,5],[3,5]),([6],[6]),([],[]),([],[]),([8,9,7],[8,9]),([7,10],[7,10]),([],[]),([],[]),([12,13,10],[12,13]),([0,1,11,14,14],[0,1,11,14]),([15,15,0,1,2,3,4,5,6,7,8,9,10,11,12,13,14,15],[15]),([16,0,1,2,3,4,5,6,7,8,9,10,11,12,13,14,15,16],[])])
def format_special_none_top.B4 : List Nat:=[0,0,0,4,0,16,60,124,0,0,1020,2044,0,0,14332,32767,65535,131071]
theorem format_special_none_top.tab4 : rtab .any (opsOf Tryd.f55 4) = format_special_none_top.T4:=by kernel_rfl
theorem format_special_none_top.bits4 : waitsOk format_special_none_top.T4.2 format_special_none_top.B4 = true:=by kernel_rfl
set_option maxHeartbeats 8000000 in
set_option maxRecDepth 100000 in
theorem format_special_none_top.calls (a0 : Int) (a1 : Bool) (r1 : Int) (r2 : Int) (w : World) (hG : A0 (GlobR w)) (h : format_special_none_top.f a0 a1 = some (r1,r2)) :
    Calls Tryd.prog 55 #[.int .i64 a0,.bool a1,.func (.func 56) #[] #[],.func (.func 57) #[] #[]] w fun e w' => e = .returned (.tuple #[.int .u64 r1,.int .i64 r2])∧Below w.heap.size w w':=by
  have hu39:=Tryd.underlying39
  have HB:=A0.mk (Below.refl w.heap.size w)
  have H : ((format_Params.f a0).bind fun bt145 => (if bt145.2.2.2.2 = 0 then ((format_ones.f (wrap64 (bt145.1 - bt145.2.1))).bind fun t151 => ((format_none.f bt145.1 bt145.2.1 bt145.2.2.1 bt145.2.2.2.1).bind fun t152 => ((format_top.f bt145.1 bt145.2.1 bt145.2.2.1 bt145.2.2.2.1).bind fun t153 => ((format_join.f bt145.1 bt145.2.1 bt145.2.2.1 bt145.2.2.2.1 a1 (IntKind.u64.wrap (t151 - t152)) t153).bind fun t154 => (some (t154,0)))))) else (some (0,bt145.2.2.2.2)))) = some (r1,r2):=h
  clear h;replace H:=Option.bind_eq_some_iff.mp H;obtain ⟨⟨t145,t146,t147,t148,t149⟩,A30,H⟩:=H
  replace H : (if t149 = 0 then ((format_ones.f (wrap64 (t145 - t146))).bind fun t151 => ((format_none.f t145 t146 t147 t148).bind fun t152 => ((format_top.f t145 t146 t147 t148).bind fun t153 => ((format_join.f t145 t146 t147 t148 a1 (IntKind.u64.wrap (t151 - t152)) t153).bind fun t154 => (some (t154,0)))))) else (some (0,t149))) = some (r1,r2):=H
  have A3:=A0.mk A30;clear A30
  by_cases c4 : t149 = 0
  · rw [if_pos c4] at H
    have c4b0 : (t149 == 0) = true:=beq_iff_eq.mpr c4
    have c4b1 : (t149 != 0) = false:=bne_eq_false_iff_eq.mpr c4
    clear c4;replace H:=Option.bind_eq_some_iff.mp H;obtain ⟨t151,A50,H⟩:=H
    replace H : ((format_none.f t145 t146 t147 t148).bind fun t152 => ((format_top.f t145 t146 t147 t148).bind fun t153 => ((format_join.f t145 t146 t147 t148 a1 (IntKind.u64.wrap (t151 - t152)) t153).bind fun t154 => (some (t154,0))))) = some (r1,r2):=H
    have A5:=A0.mk A50;clear A50;replace H:=Option.bind_eq_some_iff.mp H;obtain ⟨t152,A60,H⟩:=H
    replace H : ((format_top.f t145 t146 t147 t148).bind fun t153 => ((format_join.f t145 t146 t147 t148 a1 (IntKind.u64.wrap (t151 - t152)) t153).bind fun t154 => (some (t154,0)))) = some (r1,r2):=H
    have A6:=A0.mk A60;clear A60;replace H:=Option.bind_eq_some_iff.mp H;obtain ⟨t153,A70,H⟩:=H
    replace H : ((format_join.f t145 t146 t147 t148 a1 (IntKind.u64.wrap (t151 - t152)) t153).bind fun t154 => (some (t154,0))) = some (r1,r2):=H
    have A7:=A0.mk A70;clear A70;replace H:=Option.bind_eq_some_iff.mp H;obtain ⟨t154,A80,H⟩:=H
    replace H : (some (t154,0)) = some (r1,r2):=H
    have A8:=A0.mk A80;clear A80
    simp only [Option.some.injEq,Prod.mk.injEq] at H
    obtain ⟨rfl,rfl⟩:=H
    go_enter Tryd.func55,Tryd.ntmps55
    try go_wp2_with (first|((with_reducible refine gC (f:=20) rfl ?_);refine goesL_ (some 14) rfl rfl Tryd.func20 (by kernel_rfl) rfl #[.int .i64 a0] rfl (by (try simp only [mT,mC,mN]);first|done|rfl|(simp only [lD,lK];rfl)) ?_;(with_reducible refine (format_Params.calls a0 t145 t146 t147 t148 t149 _ ?hG A3.out).mono ?_);(case hG => exact GlobR.below hG.out (by repeat (first|(with_reducible first|exact HB.out|apply wA|apply wN|apply wD|refine wS ?_ GE150.out)|exact HB.out)));rintro e w9 ⟨rfl,hb⟩;refine ⟨_,rfl,?_⟩;have n0_:=A0.mk (wT (by repeat (first|(with_reducible first|exact HB.out|apply wA|apply wN|apply wD)|exact HB.out)) hb);clear HB;have HB:=n0_;clear n0_;(try clear hb);(try clear hb2);(try clear hk);(try clear hi))|((with_reducible refine gD (N:=10) rfl ?_);refine bE ?hg (N:=10) ?hd (cs:=#[.int .i64 0,.int .i64 0,.int .i64 0,.int .i64 0]) (t:=39) ?hr ?_;(case hd => rfl);(case hg => rfl);(case hr => first|(go_simp;done)|(go_simp;rfl));intro gb150 hg w10 hbox hb;have n0_:=A0.mk (wT (by repeat (first|(with_reducible first|exact HB.out|apply wA|apply wN|apply wD)|exact HB.out)) hb);have n1_:=A0.mk (hbox);have n2_:=A0.mk ((by rw [hg];exact (wZ (by repeat (first|(with_reducible first|exact HB.out|apply wA|apply wN|apply wD)|exact HB.out))) : w.heap.size ≤ gb150));have n3_:=A0.mk ((by rw [hg];exact (wZ (by repeat (first|(with_reducible first|exact HB.out|apply wA|apply wN|apply wD)|exact HB.out))) : w.heap.size ≤ gb150));clear HB;have HB:=n0_;have BK150:=n1_;have GW150:=n2_;have GE150:=n3_;clear n0_ n1_ n2_ n3_;clear hb hbox hg;have hcz11_0 : w10.cell? ⟨gb150,0,none⟩ = some (.int .i64 0):=(bC BK150.out 0).trans rfl;have hcz11_1 : w10.cell? ⟨gb150,1,none⟩ = some (.int .i64 0):=(bC BK150.out 1).trans rfl;have hcz11_2 : w10.cell? ⟨gb150,2,none⟩ = some (.int .i64 0):=(bC BK150.out 2).trans rfl;have hcz11_3 : w10.cell? ⟨gb150,3,none⟩ = some (.int .i64 0):=(bC BK150.out 3).trans rfl;have hfz11_0:=bF BK150.out 0;have hfz11_1:=bF BK150.out 1;have hfz11_2:=bF BK150.out 2;have hfz11_3:=bF BK150.out 3))
    have n0_ : A0 (((((w10.setCell ⟨gb150,0,none⟩ (.int .i64 t145)).setCell ⟨gb150,1,none⟩ (.int .i64 t146)).setCell ⟨gb150,2,none⟩ (.int .i64 t147)).setCell ⟨gb150,3,none⟩ (.int .i64 t148)).heap[gb150]? = some (.cells #[.int .i64 t145,.int .i64 t146,.int .i64 t147,.int .i64 t148] 39 (0,0))):=⟨by (with_reducible repeat (first|refine bN ?_ _|refine bD ?_|refine bA ?_ _));refine bP (cs:=#[.int .i64 t145,.int .i64 t146,.int .i64 t147,.int .i64 0]) ?_ 3 _ rfl;(with_reducible repeat (first|refine bN ?_ _|refine bD ?_|refine bA ?_ _));refine bP (cs:=#[.int .i64 t145,.int .i64 t146,.int .i64 0,.int .i64 0]) ?_ 2 _ rfl;(with_reducible repeat (first|refine bN ?_ _|refine bD ?_|refine bA ?_ _));refine bP (cs:=#[.int .i64 t145,.int .i64 0,.int .i64 0,.int .i64 0]) ?_ 1 _ rfl;(with_reducible repeat (first|refine bN ?_ _|refine bD ?_|refine bA ?_ _));refine bP (cs:=#[.int .i64 0,.int .i64 0,.int .i64 0,.int .i64 0]) ?_ 0 _ rfl;(with_reducible repeat (first|refine bN ?_ _|refine bD ?_|refine bA ?_ _));exact BK150.out⟩
    have n1_ : A0 (Below w.heap.size w ((((w10.setCell ⟨gb150,0,none⟩ (.int .i64 t145)).setCell ⟨gb150,1,none⟩ (.int .i64 t146)).setCell ⟨gb150,2,none⟩ (.int .i64 t147)).setCell ⟨gb150,3,none⟩ (.int .i64 t148))):=⟨by repeat (first|(with_reducible first|exact HB.out|apply wA|apply wN|apply wD|refine wS ?_ GE150.out)|exact HB.out)⟩
    (try clear BK150);(try clear HB)
    generalize ((((w10.setCell ⟨gb150,0,none⟩ (.int .i64 t145)).setCell ⟨gb150,1,none⟩ (.int .i64 t146)).setCell ⟨gb150,2,none⟩ (.int .i64 t147)).setCell ⟨gb150,3,none⟩ (.int .i64 t148)) = w12 at n0_ n1_ ⊢
    have BK150:=n0_;have HB:=n1_;clear n0_ n1_;have n0_:=A0.mk (bD BK150.out);have n1_:=A0.mk (wD HB.out);clear BK150;clear HB;have BK150:=n0_;have HB:=n1_;clear n0_ n1_
    refine start_ (n:=18) (S:=fun w' => w'.cell? ⟨gb150,0,none⟩ = some (.int .i64 t145)∧w'.cell? ⟨gb150,1,none⟩ = some (.int .i64 t146)∧w'.cell? ⟨gb150,2,none⟩ = some (.int .i64 t147)∧w'.cell? ⟨gb150,3,none⟩ = some (.int .i64 t148)) (ds:=[]) #[Z,Z,Z,Z,Z,Z,Z,Z,Z,Z,Z,Z,Z,Z,Z,Z,Z,Z] (by kernel_rfl) rfl rfl ⟨(bC BK150.out 0).trans rfl,(bC BK150.out 1).trans rfl,(bC BK150.out 2).trans rfl,(bC BK150.out 3).trans rfl⟩ (fun hHeld => ?_);refine with_tabW format_special_none_top.tab4 format_special_none_top.bits4 (fun HT_ HW_ => ?_)
    generalize w12.drew = w13 at BK150 HB hHeld ⊢
    refine pure_ (i:=1) (N:=some 21) (v:=?_) (a':=?_) #[Z,Y,Z,Z,Z,Z,Z,Z,Z,Z,Z,Z,Z,Z,Z,Z,Z,Z] rfl rfl (any_of HT_.out (by kernel_rfl)) (fun _ _ _ h => h) (Or.inl ⟨by rfl,?_⟩) ?_ ?_
    rotate_left;(intro w';go_simp;with_reducible rfl);rotate_left;(simp only [aP,lT,lZ,lS,i64_w,i32_w];rfl)
    refine pure_ (i:=2) (N:=some 22) (v:=?_) (a':=?_) #[Z,Y,Y,Z,Z,Z,Z,Z,Z,Z,Z,Z,Z,Z,Z,Z,Z,Z] rfl rfl (any_of HT_.out (by kernel_rfl)) (fun _ _ _ h => h) (Or.inl ⟨by rfl,?_⟩) ?_ ?_
    rotate_left;(intro w';go_simp;with_reducible rfl);rotate_left;(simp only [aP,lT,lZ,lS,i64_w,i32_w];rfl)
    refine pure_ (i:=4) (N:=some 24) (v:=?_) (a':=?_) #[Z,Y,Y,Z,Y,Z,Z,Z,Z,Z,Z,Z,Z,Z,Z,Z,Z,Z] rfl rfl (any_of HT_.out (by kernel_rfl)) (fun _ _ _ h => h) (Or.inl ⟨by rfl,?_⟩) ?_ ?_
    rotate_left;(intro w';go_simp;with_reducible rfl);rotate_left;(simp only [aP,lT,lZ,lS,i64_w,i32_w];rfl)
    refine pure_ (i:=8) (N:=some 28) (v:=?_) (a':=?_) #[Z,Y,Y,Z,Y,Z,Z,Z,Y,Z,Z,Z,Z,Z,Z,Z,Z,Z] rfl rfl (any_of HT_.out (by kernel_rfl)) (fun _ _ _ h => h) (Or.inl ⟨by rfl,?_⟩) ?_ ?_
    rotate_left;(intro w';go_simp;with_reducible rfl);rotate_left;(simp only [aP,lT,lZ,lS,i64_w,i32_w];rfl)
    refine pure_ (i:=12) (N:=some 32) (v:=?_) (a':=?_) #[Z,Y,Y,Z,Y,Z,Z,Z,Y,Z,Z,Z,Y,Z,Z,Z,Z,Z] rfl rfl (any_of HT_.out (by kernel_rfl)) (fun _ _ _ h => h) (Or.inl ⟨by rfl,?_⟩) ?_ ?_
    rotate_left;(intro w';go_simp;with_reducible rfl);rotate_left;(simp only [aP,lT,lZ,lS,i64_w,i32_w];rfl)
    refine take_ (i:=0) (N:=some 20) (v:=?_) (a':=?_) #[Y,Y,Y,Z,Y,Z,Z,Z,Y,Z,Z,Z,Y,Z,Z,Z,Z,Z] rfl rfl (take_ofW HT_.out HW_.out (by kernel_rfl)) (fun _ _ _ h => h) (Or.inl ⟨by rfl,?_⟩) hHeld ?_ ?_
    rotate_left;(rintro w' ⟨s0,s1,s2,s3⟩;go_simp;with_reducible rfl);rotate_left;(simp only [aP,lT,lZ,lS,i64_w,i32_w];rfl)
    refine take_ (i:=3) (N:=some 23) (v:=?_) (a':=?_) #[Y,Y,Y,Y,Y,Z,Z,Z,Y,Z,Z,Z,Y,Z,Z,Z,Z,Z] rfl rfl (take_ofW HT_.out HW_.out (by kernel_rfl)) (fun _ _ _ h => h) (Or.inl ⟨by rfl,?_⟩) hHeld ?_ ?_
    rotate_left;(rintro w' ⟨s0,s1,s2,s3⟩;go_simp;with_reducible rfl);rotate_left;(simp only [aP,lT,lZ,lS,i64_w,i32_w];rfl)
    refine take_ (i:=5) (N:=some 25) (v:=?_) (a':=?_) #[Y,Y,Y,Y,Y,Y,Z,Z,Y,Z,Z,Z,Y,Z,Z,Z,Z,Z] rfl rfl (take_ofW HT_.out HW_.out (by kernel_rfl)) (fun _ _ _ h => h) (Or.inl ⟨by rfl,?_⟩) hHeld ?_ ?_
    rotate_left;(rintro w' ⟨s0,s1,s2,s3⟩;go_simp;with_reducible rfl);rotate_left;(simp only [aP,lT,lZ,lS,i64_w,i32_w];rfl)
    refine pure_ (i:=6) (N:=some 26) (v:=?_) (a':=?_) #[Y,Y,Y,Y,Y,Y,Y,Z,Y,Z,Z,Z,Y,Z,Z,Z,Z,Z] rfl rfl (any_of HT_.out (by kernel_rfl)) (fun _ _ _ h => h) (Or.inl ⟨by rfl,?_⟩) ?_ ?_
    rotate_left;(intro w';go_simp;with_reducible rfl);rotate_left;(simp only [aP,lT,lZ,lS,i64_w,i32_w];rfl)
    refine take_ (i:=9) (N:=some 29) (v:=?_) (a':=?_) #[Y,Y,Y,Y,Y,Y,Y,Z,Y,Y,Z,Z,Y,Z,Z,Z,Z,Z] rfl rfl (take_ofW HT_.out HW_.out (by kernel_rfl)) (fun _ _ _ h => h) (Or.inl ⟨by rfl,?_⟩) hHeld ?_ ?_
    rotate_left;(rintro w' ⟨s0,s1,s2,s3⟩;go_simp;with_reducible rfl);rotate_left;(simp only [aP,lT,lZ,lS,i64_w,i32_w];rfl)
    refine take_ (i:=13) (N:=some 33) (v:=?_) (a':=?_) #[Y,Y,Y,Y,Y,Y,Y,Z,Y,Y,Z,Z,Y,Y,Z,Z,Z,Z] rfl rfl (take_ofW HT_.out HW_.out (by kernel_rfl)) (fun _ _ _ h => h) (Or.inl ⟨by rfl,?_⟩) hHeld ?_ ?_
    rotate_left;(rintro w' ⟨s0,s1,s2,s3⟩;go_simp;with_reducible rfl);rotate_left;(simp only [aP,lT,lZ,lS,i64_w,i32_w];rfl)
    refine one_ (i:=7) (N:=some 27) #[Y,Y,Y,Y,Y,Y,Y,Y,Y,Y,Z,Z,Y,Y,Z,Z,Z,Z] rfl rfl (one_of HT_.out (by kernel_rfl)) (by decide) (fun K hK => ?_)
    refine goes_ Tryd.func47 (by kernel_rfl) rfl #[.int .i64 (wrap64 (t145 - t146))] (by rfl) rfl rfl (by (try simp only [mT,mC,mN]);first|done|rfl|(simp only [lD,lK];rfl)) ?_
    with_reducible refine (format_ones.calls (wrap64 (t145 - t146)) t151 _ A5.out).mono ?_
    rintro e w' ⟨rfl,⟨nd,rfl⟩⟩;refine ⟨_,rfl,?_⟩
    refine hK.out _ _ ⟨(bC BK150.out 0).trans rfl,(bC BK150.out 1).trans rfl,(bC BK150.out 2).trans rfl,(bC BK150.out 3).trans rfl⟩ (fun hHeld => ?_)
    clear hK K
    refine norm_ (a':=?_) ?_ ?_
    rotate_left;(show Act.put _ (some 27) _ = _;simp only [aP,lT,lZ,lS,i64_w,i32_w];rfl)
    refine one_ (i:=10) (N:=some 30) #[Y,Y,Y,Y,Y,Y,Y,Y,Y,Y,Y,Z,Y,Y,Z,Z,Z,Z] rfl rfl (one_of HT_.out (by kernel_rfl)) (by decide) (fun K hK => ?_)
    refine goesT_ (by rfl) Tryd.func56 (by kernel_rfl) rfl #[.agg #[.int .i64 t145,.int .i64 t146,.int .i64 t147,.int .i64 t148]] (by rfl) rfl rfl (by (try simp only [mT,mC,mN]);first|done|rfl|(simp only [lD,lK];rfl)) ?_
    with_reducible refine (format_none.calls t145 t146 t147 t148 t152 _ A6.out).mono ?_
    rintro e w14 ⟨rfl,hb⟩;refine ⟨_,rfl,?_⟩;have n0_:=A0.mk (bB (g:=gb150) (o:=.cells #[.int .i64 t145,.int .i64 t146,.int .i64 t147,.int .i64 t148] 39 (0,0)) (by (with_reducible repeat (first|refine bN ?_ _|refine bD ?_|refine bA ?_ _));exact BK150.out) hb);have n1_:=A0.mk (wT (by repeat (first|(with_reducible first|exact HB.out|apply wA|apply wN|apply wD|refine wS ?_ GE150.out)|exact HB.out)) hb);clear BK150;clear HB;have BK150:=n0_;have HB:=n1_;clear n0_ n1_;(try clear hb);(try clear hb2);(try clear hk);(try clear hi)
    refine hK.out _ _ ⟨(bC BK150.out 0).trans rfl,(bC BK150.out 1).trans rfl,(bC BK150.out 2).trans rfl,(bC BK150.out 3).trans rfl⟩ (fun hHeld => ?_)
    clear hK K
    refine norm_ (a':=?_) ?_ ?_
    rotate_left;(show Act.put _ (some 30) _ = _;simp only [aP,lT,lZ,lS,i64_w,i32_w];rfl)
    refine pure_ (i:=11) (N:=some 31) (v:=?_) (a':=?_) #[Y,Y,Y,Y,Y,Y,Y,Y,Y,Y,Y,Y,Y,Y,Z,Z,Z,Z] rfl rfl (any_of HT_.out (by kernel_rfl)) (fun _ _ _ h => h) (Or.inl ⟨by rfl,?_⟩) ?_ ?_
    rotate_left;(intro w';go_simp;with_reducible rfl);rotate_left;(simp only [aP,lT,lZ,lS,i64_w,i32_w];rfl)
    refine one_ (i:=14) (N:=some 34) #[Y,Y,Y,Y,Y,Y,Y,Y,Y,Y,Y,Y,Y,Y,Y,Z,Z,Z] rfl rfl (one_of HT_.out (by kernel_rfl)) (by decide) (fun K hK => ?_)
    refine goesT_ (by rfl) Tryd.func57 (by kernel_rfl) rfl #[.agg #[.int .i64 t145,.int .i64 t146,.int .i64 t147,.int .i64 t148]] (by rfl) rfl rfl (by (try simp only [mT,mC,mN]);first|done|rfl|(simp only [lD,lK];rfl)) ?_
    with_reducible refine (format_top.calls t145 t146 t147 t148 t153 _ A7.out).mono ?_
    rintro e w15 ⟨rfl,hb⟩;refine ⟨_,rfl,?_⟩;have n0_:=A0.mk (bB (g:=gb150) (o:=.cells #[.int .i64 t145,.int .i64 t146,.int .i64 t147,.int .i64 t148] 39 (0,0)) (by (with_reducible repeat (first|refine bN ?_ _|refine bD ?_|refine bA ?_ _));exact BK150.out) hb);have n1_:=A0.mk (wT (by repeat (first|(with_reducible first|exact HB.out|apply wA|apply wN|apply wD|refine wS ?_ GE150.out)|exact HB.out)) hb);clear BK150;clear HB;have BK150:=n0_;have HB:=n1_;clear n0_ n1_;(try clear hb);(try clear hb2);(try clear hk);(try clear hi)
    refine hK.out _ _ ⟨(bC BK150.out 0).trans rfl,(bC BK150.out 1).trans rfl,(bC BK150.out 2).trans rfl,(bC BK150.out 3).trans rfl⟩ (fun hHeld => ?_)
    clear hK K
    refine norm_ (a':=?_) ?_ ?_
    rotate_left;(show Act.put _ (some 34) _ = _;simp only [aP,lT,lZ,lS,i64_w,i32_w];rfl)
    refine one_ (i:=15) (N:=some 35) #[Y,Y,Y,Y,Y,Y,Y,Y,Y,Y,Y,Y,Y,Y,Y,Y,Z,Z] rfl rfl (one_of HT_.out (by kernel_rfl)) (by decide) (fun K hK => ?_)
    refine goes_ Tryd.func59 (by kernel_rfl) rfl #[.agg #[.int .i64 t145,.int .i64 t146,.int .i64 t147,.int .i64 t148],.bool a1,.int .u64 (IntKind.u64.wrap (t151 - t152)),.int .u64 t153] (by rfl) rfl rfl (by (try simp only [mT,mC,mN]);first|done|rfl|(simp only [lD,lK];rfl)) ?_
    with_reducible refine (format_join.calls t145 t146 t147 t148 a1 (IntKind.u64.wrap (t151 - t152)) t153 t154 _ A8.out).mono ?_
    rintro e w16 ⟨rfl,hb⟩;refine ⟨_,rfl,?_⟩;have n0_:=A0.mk (bB (g:=gb150) (o:=.cells #[.int .i64 t145,.int .i64 t146,.int .i64 t147,.int .i64 t148] 39 (0,0)) (by (with_reducible repeat (first|refine bN ?_ _|refine bD ?_|refine bA ?_ _));exact BK150.out) hb);have n1_:=A0.mk (wT (by repeat (first|(with_reducible first|exact HB.out|apply wA|apply wN|apply wD|refine wS ?_ GE150.out)|exact HB.out)) hb);clear BK150;clear HB;have BK150:=n0_;have HB:=n1_;clear n0_ n1_;(try clear hb);(try clear hb2);(try clear hk);(try clear hi)
    refine hK.out _ _ ⟨(bC BK150.out 0).trans rfl,(bC BK150.out 1).trans rfl,(bC BK150.out 2).trans rfl,(bC BK150.out 3).trans rfl⟩ (fun hHeld => ?_)
    clear hK K
    refine norm_ (a':=?_) ?_ ?_
    rotate_left;(show Act.put _ (some 35) _ = _;simp only [aP,lT,lZ,lS,i64_w,i32_w];rfl)
    refine pure_ (i:=16) (N:=some 8) (v:=?_) (a':=?_) #[Y,Y,Y,Y,Y,Y,Y,Y,Y,Y,Y,Y,Y,Y,Y,Y,Y,Z] rfl rfl (any_of HT_.out (by kernel_rfl)) (fun _ _ _ h => h) (Or.inl ⟨by rfl,?_⟩) ?_ ?_
    rotate_left;(intro w';go_simp;with_reducible rfl);rotate_left;(simp only [aP,lT,lZ,lS,i64_w,i32_w];rfl)
    refine pure_ (i:=17) (N:=some 9) (v:=?_) (a':=?_) #[Y,Y,Y,Y,Y,Y,Y,Y,Y,Y,Y,Y,Y,Y,Y,Y,Y,Y] rfl rfl (any_of HT_.out (by kernel_rfl)) (fun _ _ _ h => h) (Or.inl ⟨by rfl,?_⟩) ?_ ?_
    rotate_left;(intro w';go_simp;with_reducible rfl);rotate_left;(simp only [aP,lT,lZ,lS,i64_w,i32_w];rfl)
    refine done_ (done_of HT_.out (by kernel_rfl)) ?_
    try go_wp2
    go_ret2
    exact ⟨by first|rfl|(simp [errW_none,errW_some] <;> rfl)|(simp [*,errW_none,errW_some] <;> rfl)|(simp [wrap64];done),by repeat (first|(with_reducible first|exact HB.out|apply wA|apply wN|apply wD|refine wS ?_ GE150.out)|exact HB.out)⟩
  · rw [if_neg c4] at H
    have c4b0 : (t149 == 0) = false:=beq_eq_false_iff_ne.mpr c4
    have c4b1 : (t149 != 0) = true:=bne_iff_ne.mpr c4
    simp only [Option.some.injEq,Prod.mk.injEq] at H
    obtain ⟨rfl,rfl⟩:=H
    go_enter Tryd.func55,Tryd.ntmps55
    go_wp2_with (first|((with_reducible refine gC (f:=20) rfl ?_);refine goesL_ (some 14) rfl rfl Tryd.func20 (by kernel_rfl) rfl #[.int .i64 a0] rfl (by (try simp only [mT,mC,mN]);first|done|rfl|(simp only [lD,lK];rfl)) ?_;(with_reducible refine (format_Params.calls a0 t145 t146 t147 t148 t149 _ ?hG A3.out).mono ?_);(case hG => exact GlobR.below hG.out (by repeat (first|(with_reducible first|exact HB.out|apply wA|apply wN|apply wD|refine wS ?_ GE150.out)|exact HB.out)));rintro e w17 ⟨rfl,hb⟩;refine ⟨_,rfl,?_⟩;have n0_:=A0.mk (wT (by repeat (first|(with_reducible first|exact HB.out|apply wA|apply wN|apply wD)|exact HB.out)) hb);clear HB;have HB:=n0_;clear n0_;(try clear hb);(try clear hb2);(try clear hk);(try clear hi))|((with_reducible refine gD (N:=10) rfl ?_);refine bE ?hg (N:=10) ?hd (cs:=#[.int .i64 0,.int .i64 0,.int .i64 0,.int .i64 0]) (t:=39) ?hr ?_;(case hd => rfl);(case hg => rfl);(case hr => first|(go_simp;done)|(go_simp;rfl));intro gb150 hg w18 hbox hb;have n0_:=A0.mk (wT (by repeat (first|(with_reducible first|exact HB.out|apply wA|apply wN|apply wD)|exact HB.out)) hb);have n1_:=A0.mk (hbox);have n2_:=A0.mk ((by rw [hg];exact (wZ (by repeat (first|(with_reducible first|exact HB.out|apply wA|apply wN|apply wD)|exact HB.out))) : w.heap.size ≤ gb150));have n3_:=A0.mk ((by rw [hg];exact (wZ (by repeat (first|(with_reducible first|exact HB.out|apply wA|apply wN|apply wD)|exact HB.out))) : w.heap.size ≤ gb150));clear HB;have HB:=n0_;have BK150:=n1_;have GW150:=n2_;have GE150:=n3_;clear n0_ n1_ n2_ n3_;clear hb hbox hg;have hcz19_0 : w18.cell? ⟨gb150,0,none⟩ = some (.int .i64 0):=(bC BK150.out 0).trans rfl;have hcz19_1 : w18.cell? ⟨gb150,1,none⟩ = some (.int .i64 0):=(bC BK150.out 1).trans rfl;have hcz19_2 : w18.cell? ⟨gb150,2,none⟩ = some (.int .i64 0):=(bC BK150.out 2).trans rfl;have hcz19_3 : w18.cell? ⟨gb150,3,none⟩ = some (.int .i64 0):=(bC BK150.out 3).trans rfl;have hfz19_0:=bF BK150.out 0;have hfz19_1:=bF BK150.out 1;have hfz19_2:=bF BK150.out 2;have hfz19_3:=bF BK150.out 3))
    go_ret2
    exact ⟨by first|rfl|(simp [errW_none,errW_some] <;> rfl)|(simp [*,errW_none,errW_some] <;> rfl)|(simp [wrap64];done),by repeat (first|(with_reducible first|exact HB.out|apply wA|apply wN|apply wD|refine wS ?_ GE150.out)|exact HB.out)⟩

/-! ### format_NaN: function 22 -/
noncomputable def format_NaN.f (a0 : Int) : Option (Int × Int):=(format_special_none_top.f a0 false).bind fun bt155 => (some (bt155.1,bt155.2))
set_option maxHeartbeats 8000000 in
set_option maxRecDepth 100000 in
theorem format_NaN.calls (a0 : Int) (r1 : Int) (r2 : Int) (w : World) (hG : A0 (GlobR w)) (h : format_NaN.f a0 = some (r1,r2)) :
    Calls Tryd.prog 22 #[.int .i64 a0] w fun e w' => e = .returned (.tuple #[.int .u64 r1,.int .i64 r2])∧Below w.heap.size w w':=by
  have HB:=A0.mk (Below.refl w.heap.size w)
  have H : ((format_special_none_top.f a0 false).bind fun bt155 => (some (bt155.1,bt155.2))) = some (r1,r2):=h
  clear h;replace H:=Option.bind_eq_some_iff.mp H;obtain ⟨⟨t155,t156⟩,A20,H⟩:=H
  replace H : (some (t155,t156)) = some (r1,r2):=H
  have A2:=A0.mk A20;clear A20
  simp only [Option.some.injEq,Prod.mk.injEq] at H
  obtain ⟨rfl,rfl⟩:=H
  go_enter Tryd.func22,Tryd.ntmps22
  go_wp2_with (first|((with_reducible refine gC (f:=55) rfl ?_);refine goesL_ (some 5) rfl rfl Tryd.func55 (by kernel_rfl) rfl #[.int .i64 a0,.bool false,.func (.func 56) #[] #[],.func (.func 57) #[] #[]] rfl (by (try simp only [mT,mC,mN]);first|done|rfl|(simp only [lD,lK];rfl)) ?_;(with_reducible refine (format_special_none_top.calls a0 false t155 t156 _ ?hG A2.out).mono ?_);(case hG => exact GlobR.below hG.out (by repeat (first|(with_reducible first|exact HB.out|apply wA|apply wN|apply wD)|exact HB.out)));rintro e w3 ⟨rfl,hb⟩;refine ⟨_,rfl,?_⟩;have n0_:=A0.mk (wT (by repeat (first|(with_reducible first|exact HB.out|apply wA|apply wN|apply wD)|exact HB.out)) hb);clear HB;have HB:=n0_;clear n0_;(try clear hb);(try clear hb2);(try clear hk);(try clear hi)))
  go_ret2
  exact ⟨by first|rfl|(simp [errW_none,errW_some] <;> rfl)|(simp [*,errW_none,errW_some] <;> rfl)|(simp [wrap64];done),by repeat (first|(with_reducible first|exact HB.out|apply wA|apply wN|apply wD)|exact HB.out)⟩

end Go.Proofs.YtjdmbhdlogbopaaDoor.V
