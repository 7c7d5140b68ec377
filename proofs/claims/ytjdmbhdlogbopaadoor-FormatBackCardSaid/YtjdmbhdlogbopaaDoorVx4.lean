/- Contracts of the program's functions, each: where the printed function answers, the call answers the same. Written by vprint.py, this session's own program over the kit's print.py; Lean checks it. No conditions beyond those that each states. -/
import Derived.Test.YtjdmbhdlogbopaaDoorVx0
import Derived.Test.YtjdmbhdlogbopaaDoorVx1
import Derived.Test.YtjdmbhdlogbopaaDoorVx2
import Derived.Test.YtjdmbhdlogbopaaDoorVx3
namespace Go.Proofs.YtjdmbhdlogbopaaDoor.V
open Go.RowKit Go.Proofs.YtjdmbhdlogbopaaDoorQ.PrintWords Go.Proofs.YtjdmbhdlogbopaaDoorQ.PrintLast Go.Proofs.YtjdmbhdlogbopaaDoorQ.PrintMore
open Bool renaming true → Y, false → Z
open List renaming setIfInBounds_toArray → lT, set_cons_zero → lZ, set_cons_succ → lS, map_toArray → mT, map_cons → mC, map_nil → mN, length_drop → lD, length_take → lK
open Act renaming put → aP
attribute [local go_sem] max2_int min2_int max_two min_two max_three min_three max_four min_four   -- for this text's walks alone
set_option linter.unusedVariables false
set_option linter.unusedSimpArgs false

/-! ### vernierlaw04_fixed: function 15 -/
noncomputable def vernierlaw04_fixed.f (k : Nat)  : Option (Bool):=(format_Class.f k 0 64513).bind fun bt157 => ((format_NaN.f 1).bind fun bt159 => (if bt157.1 = 0 then (if bt157.2 = 0 then (if bt159.1 = 32704 then (some (bt159.2 == 0)) else (none)) else (none)) else (none)))
theorem vernierlaw04_fixed.mono : ∀ k,LeO (vernierlaw04_fixed.f k ) (vernierlaw04_fixed.f (k + 1) ):=by
  intro  k
  unfold vernierlaw04_fixed.f
  repeat' first
      | (with_reducible exact format_Class.mono _ _ _)
      | (with_reducible exact LeO.refl _)
      | (with_reducible exact LeO.none _)
      | (with_reducible refine LeO.ite ?_ ?_)
      | (with_reducible refine LeO.bind ?_ (fun _ => ?_))
      | exact format_Class.mono _ _ _
      | exact LeO.none _
      | refine LeO.ite ?_ ?_
      | refine LeO.bind ?_ (fun _ => ?_)
set_option maxHeartbeats 8000000 in
set_option maxRecDepth 100000 in
theorem vernierlaw04_fixed.calls (k : Nat)  (r : Bool) (w : World) (hG : A0 (GlobR w)) (h : vernierlaw04_fixed.f k  = some r) :
    Calls Tryd.prog 15 #[] w fun e w' => e = .returned (.bool r)∧Below w.heap.size w w':=by
  have HB:=A0.mk (Below.refl w.heap.size w)
  have H : ((format_Class.f k 0 64513).bind fun bt157 => ((format_NaN.f 1).bind fun bt159 => (if bt157.1 = 0 then (if bt157.2 = 0 then (if bt159.1 = 32704 then (some (bt159.2 == 0)) else (none)) else (none)) else (none)))) = some r:=h
  clear h;replace H:=Option.bind_eq_some_iff.mp H;obtain ⟨⟨t157,t158⟩,A10,H⟩:=H
  replace H : ((format_NaN.f 1).bind fun bt159 => (if t157 = 0 then (if t158 = 0 then (if bt159.1 = 32704 then (some (bt159.2 == 0)) else (none)) else (none)) else (none))) = some r:=H
  have A1:=A0.mk A10;clear A10;replace H:=Option.bind_eq_some_iff.mp H;obtain ⟨⟨t159,t160⟩,A20,H⟩:=H
  replace H : (if t157 = 0 then (if t158 = 0 then (if t159 = 32704 then (some (t160 == 0)) else (none)) else (none)) else (none)) = some r:=H
  have A2:=A0.mk A20;clear A20
  by_cases c3 : t157 = 0
  · rw [if_pos c3] at H
    have c3b0 : (t157 == 0) = true:=beq_iff_eq.mpr c3
    have c3b1 : (t157 != 0) = false:=bne_eq_false_iff_eq.mpr c3
    clear c3
    by_cases c4 : t158 = 0
    · rw [if_pos c4] at H
      have c4b0 : (t158 == 0) = true:=beq_iff_eq.mpr c4
      have c4b1 : (t158 != 0) = false:=bne_eq_false_iff_eq.mpr c4
      clear c4
      by_cases c5 : t159 = 32704
      · rw [if_pos c5] at H
        have c5b0 : (t159 == 32704) = true:=beq_iff_eq.mpr c5
        have c5b1 : (t159 != 32704) = false:=bne_eq_false_iff_eq.mpr c5
        clear c5;obtain rfl:=Option.some.inj H
        go_enter Tryd.func15,Tryd.ntmps15
        go_wp2_with (first|((with_reducible refine gC (f:=13) rfl ?_);refine goesL_ (some 6) rfl rfl Tryd.func13 (by kernel_rfl) rfl #[.int .i64 0,.int .u64 64513] rfl (by (try simp only [mT,mC,mN]);first|done|rfl|(simp only [lD,lK];rfl)) ?_;(with_reducible refine (format_Class.calls k 0 64513 t157 t158 _ ?hG A1.out).mono ?_);(case hG => exact GlobR.below hG.out (by repeat (first|(with_reducible first|exact HB.out|apply wA|apply wN|apply wD)|exact HB.out)));rintro e w6 ⟨rfl,hb⟩;refine ⟨_,rfl,?_⟩;have n0_:=A0.mk (wT (by repeat (first|(with_reducible first|exact HB.out|apply wA|apply wN|apply wD)|exact HB.out)) hb);clear HB;have HB:=n0_;clear n0_;(try clear hb);(try clear hb2);(try clear hk);(try clear hi))|((with_reducible refine gC (f:=22) rfl ?_);refine goesL_ (some 10) rfl rfl Tryd.func22 (by kernel_rfl) rfl #[.int .i64 1] rfl (by (try simp only [mT,mC,mN]);first|done|rfl|(simp only [lD,lK];rfl)) ?_;(with_reducible refine (format_NaN.calls 1 t159 t160 _ ?hG A2.out).mono ?_);(case hG => exact GlobR.below hG.out (by repeat (first|(with_reducible first|exact HB.out|apply wA|apply wN|apply wD)|exact HB.out)));rintro e w7 ⟨rfl,hb⟩;refine ⟨_,rfl,?_⟩;have n0_:=A0.mk (wT (by repeat (first|(with_reducible first|exact HB.out|apply wA|apply wN|apply wD)|exact HB.out)) hb);clear HB;have HB:=n0_;clear n0_;(try clear hb);(try clear hb2);(try clear hk);(try clear hi)))
        go_ret
        exact ⟨by first|rfl|(simp [errW_none,errW_some] <;> rfl)|(simp [*,errW_none,errW_some] <;> rfl)|(simp [wrap64];done),by repeat (first|(with_reducible first|exact HB.out|apply wA|apply wN|apply wD)|exact HB.out)⟩
      · rw [if_neg c5] at H
        exact absurd H (by simp)
    · rw [if_neg c4] at H
      exact absurd H (by simp)
  · rw [if_neg c3] at H
    exact absurd H (by simp)

/-! ### vernierref04_Parts: function 16 -/
def vernierref04_Parts.f (a0 : Int) (a1 : Int) : Option (Int × Int × Int × Int):=(vernierref04_Row.f a0).bind fun bt161 => (if 0 ≤ (IntKind.u64.wrap (wrap64 (bt161.1 - 1))) then (if 0 ≤ (IntKind.u64.wrap (wrap64 (bt161.2.1 - 1))) then (if (shl .u64 1 (IntKind.u64.wrap (wrap64 (bt161.2.1 - 1)))) = 0 then (none) else (some (Go.bits .and .u64 (shr .u64 a1 (IntKind.u64.wrap (wrap64 (bt161.1 - 1)))) 1,Go.bits .and .u64 (shr .u64 a1 (IntKind.u64.wrap (wrap64 (bt161.2.1 - 1)))) (IntKind.u64.wrap (wrap64 ((wrap64 (2 * bt161.2.2.2.1)) + 1))),Int.tmod a1 (shl .u64 1 (IntKind.u64.wrap (wrap64 (bt161.2.1 - 1)))),IntKind.u64.wrap (wrap64 ((wrap64 (2 * bt161.2.2.2.1)) + 1))))) else (none)) else (none))
set_option maxHeartbeats 8000000 in
set_option maxRecDepth 100000 in
theorem vernierref04_Parts.calls (a0 : Int) (a1 : Int) (r1 : Int) (r2 : Int) (r3 : Int) (r4 : Int) (w : World) (h : vernierref04_Parts.f a0 a1 = some (r1,r2,r3,r4)) :
    Calls Tryd.prog 16 #[.int .i64 a0,.int .u64 a1] w fun e w' => e = .returned (.tuple #[.int .u64 r1,.int .u64 r2,.int .u64 r3,.int .u64 r4])∧Below w.heap.size w w':=by
  have hu42:=Tryd.underlying42
  have HB:=A0.mk (Below.refl w.heap.size w)
  have H : ((vernierref04_Row.f a0).bind fun bt161 => (if 0 ≤ (IntKind.u64.wrap (wrap64 (bt161.1 - 1))) then (if 0 ≤ (IntKind.u64.wrap (wrap64 (bt161.2.1 - 1))) then (if (shl .u64 1 (IntKind.u64.wrap (wrap64 (bt161.2.1 - 1)))) = 0 then (none) else (some (Go.bits .and .u64 (shr .u64 a1 (IntKind.u64.wrap (wrap64 (bt161.1 - 1)))) 1,Go.bits .and .u64 (shr .u64 a1 (IntKind.u64.wrap (wrap64 (bt161.2.1 - 1)))) (IntKind.u64.wrap (wrap64 ((wrap64 (2 * bt161.2.2.2.1)) + 1))),Int.tmod a1 (shl .u64 1 (IntKind.u64.wrap (wrap64 (bt161.2.1 - 1)))),IntKind.u64.wrap (wrap64 ((wrap64 (2 * bt161.2.2.2.1)) + 1))))) else (none)) else (none))) = some (r1,r2,r3,r4):=h
  clear h;replace H:=Option.bind_eq_some_iff.mp H;obtain ⟨⟨t161,t162,t163,t164,t165⟩,A30,H⟩:=H
  replace H : (if 0 ≤ (IntKind.u64.wrap (wrap64 (t161 - 1))) then (if 0 ≤ (IntKind.u64.wrap (wrap64 (t162 - 1))) then (if (shl .u64 1 (IntKind.u64.wrap (wrap64 (t162 - 1)))) = 0 then (none) else (some (Go.bits .and .u64 (shr .u64 a1 (IntKind.u64.wrap (wrap64 (t161 - 1)))) 1,Go.bits .and .u64 (shr .u64 a1 (IntKind.u64.wrap (wrap64 (t162 - 1)))) (IntKind.u64.wrap (wrap64 ((wrap64 (2 * t164)) + 1))),Int.tmod a1 (shl .u64 1 (IntKind.u64.wrap (wrap64 (t162 - 1)))),IntKind.u64.wrap (wrap64 ((wrap64 (2 * t164)) + 1))))) else (none)) else (none)) = some (r1,r2,r3,r4):=H
  have A3:=A0.mk A30;clear A30
  obtain ⟨ji4,hji4⟩ : ∃ j_ : Int,(IntKind.u64.wrap (wrap64 (t161 - 1))) = j_:=⟨_,rfl⟩
  replace H : (if 0 ≤ (ji4) then (if 0 ≤ (IntKind.u64.wrap (wrap64 (t162 - 1))) then (if (shl .u64 1 (IntKind.u64.wrap (wrap64 (t162 - 1)))) = 0 then (none) else (some (Go.bits .and .u64 (shr .u64 a1 (ji4)) 1,Go.bits .and .u64 (shr .u64 a1 (IntKind.u64.wrap (wrap64 (t162 - 1)))) (IntKind.u64.wrap (wrap64 ((wrap64 (2 * t164)) + 1))),Int.tmod a1 (shl .u64 1 (IntKind.u64.wrap (wrap64 (t162 - 1)))),IntKind.u64.wrap (wrap64 ((wrap64 (2 * t164)) + 1))))) else (none)) else (none)) = some (r1,r2,r3,r4):=by first|(rw [hji4] at H;exact H)|(simp only [hji4] at H ⊢;exact H)
  (try rw [hji4] at A3)
  by_cases c5 : 0 ≤ (ji4)
  · rw [if_pos c5] at H
    have c5b0:=eq_true c5
    have c5b1 : decide (0 ≤ (ji4)) = true:=decide_eq_true c5
    clear c5
    obtain ⟨ji6,hji6⟩ : ∃ j_ : Int,(shr .u64 a1 (ji4)) = j_:=⟨_,rfl⟩
    replace H : (if 0 ≤ (IntKind.u64.wrap (wrap64 (t162 - 1))) then (if (shl .u64 1 (IntKind.u64.wrap (wrap64 (t162 - 1)))) = 0 then (none) else (some (Go.bits .and .u64 (ji6) 1,Go.bits .and .u64 (shr .u64 a1 (IntKind.u64.wrap (wrap64 (t162 - 1)))) (IntKind.u64.wrap (wrap64 ((wrap64 (2 * t164)) + 1))),Int.tmod a1 (shl .u64 1 (IntKind.u64.wrap (wrap64 (t162 - 1)))),IntKind.u64.wrap (wrap64 ((wrap64 (2 * t164)) + 1))))) else (none)) = some (r1,r2,r3,r4):=by first|(rw [hji6] at H;exact H)|(simp only [hji6] at H ⊢;exact H)
    (try rw [hji6] at A3)
    have hji6_ : (a1 / 2 ^ min (ji4).toNat 64) = ji6:=hji6
    have hji6z : (ji4) ≤ 64→(a1 / 2 ^ (ji4).toNat) = ji6:=shr_small hji6
    obtain ⟨ji7,hji7⟩ : ∃ j_ : Int,(IntKind.u64.wrap (wrap64 (t162 - 1))) = j_:=⟨_,rfl⟩
    replace H : (if 0 ≤ (ji7) then (if (shl .u64 1 (ji7)) = 0 then (none) else (some (Go.bits .and .u64 (ji6) 1,Go.bits .and .u64 (shr .u64 a1 (ji7)) (IntKind.u64.wrap (wrap64 ((wrap64 (2 * t164)) + 1))),Int.tmod a1 (shl .u64 1 (ji7)),IntKind.u64.wrap (wrap64 ((wrap64 (2 * t164)) + 1))))) else (none)) = some (r1,r2,r3,r4):=by first|(rw [hji7] at H;exact H)|(simp only [hji7] at H ⊢;exact H)
    (try rw [hji7] at A3)
    by_cases c8 : 0 ≤ (ji7)
    · rw [if_pos c8] at H
      have c8b0:=eq_true c8
      have c8b1 : decide (0 ≤ (ji7)) = true:=decide_eq_true c8
      clear c8
      obtain ⟨ji9,hji9⟩ : ∃ j_ : Int,(shr .u64 a1 (ji7)) = j_:=⟨_,rfl⟩
      replace H : (if (shl .u64 1 (ji7)) = 0 then (none) else (some (Go.bits .and .u64 (ji6) 1,Go.bits .and .u64 (ji9) (IntKind.u64.wrap (wrap64 ((wrap64 (2 * t164)) + 1))),Int.tmod a1 (shl .u64 1 (ji7)),IntKind.u64.wrap (wrap64 ((wrap64 (2 * t164)) + 1))))) = some (r1,r2,r3,r4):=by first|(rw [hji9] at H;exact H)|(simp only [hji9] at H ⊢;exact H)
      (try rw [hji9] at A3)
      have hji9_ : (a1 / 2 ^ min (ji7).toNat 64) = ji9:=hji9
      have hji9z : (ji7) ≤ 64→(a1 / 2 ^ (ji7).toNat) = ji9:=shr_small hji9
      have c10b0:=eq_true (of_decide_eq_true (by first|(with_reducible assumption)|assumption) : 0 ≤ (ji7))
      obtain ⟨ji11,hji11⟩ : ∃ j_ : Int,(shl .u64 1 (ji7)) = j_:=⟨_,rfl⟩
      replace H : (if (ji11) = 0 then (none) else (some (Go.bits .and .u64 (ji6) 1,Go.bits .and .u64 (ji9) (IntKind.u64.wrap (wrap64 ((wrap64 (2 * t164)) + 1))),Int.tmod a1 (ji11),IntKind.u64.wrap (wrap64 ((wrap64 (2 * t164)) + 1))))) = some (r1,r2,r3,r4):=by first|(rw [hji11] at H;exact H)|(simp only [hji11] at H ⊢;exact H)
      (try rw [hji11] at A3)
      have hji11_ : (IntKind.u64.wrap (1 * 2 ^ min (ji7).toNat 64)) = ji11:=hji11
      have hji11z : (ji7) ≤ 64→(IntKind.u64.wrap (1 * 2 ^ (ji7).toNat)) = ji11:=shl_small hji11
      have hji11u : (IntKind.u64.wrap (2 ^ min (ji7).toNat 64)) = ji11:=by have h_:=hji11_;rw [Int.one_mul] at h_;exact h_
      have hji11v : (ji7) ≤ 64→(IntKind.u64.wrap (2 ^ (ji7).toNat)) = ji11:=fun hle_ => by have h_:=hji11z hle_;rw [Int.one_mul] at h_;exact h_
      by_cases c12 : (ji11) = 0
      · rw [if_pos c12] at H
        exact absurd H (by simp)
      · rw [if_neg c12] at H
        have c12b0 : ((ji11) == 0) = false:=beq_eq_false_iff_ne.mpr c12
        have c12b1 : ((ji11) != 0) = true:=bne_iff_ne.mpr c12
        simp only [Option.some.injEq,Prod.mk.injEq] at H
        obtain ⟨rfl,rfl,rfl,rfl⟩:=H
        go_enter Tryd.func16,Tryd.ntmps16
        go_wp2_with (first|(go_at_call 21;(with_reducible refine (vernierref04_Row.calls a0 t161 t162 t163 t164 t165 _ A3.out).mono ?_);rintro e w13 ⟨rfl,hb⟩;have n0_:=A0.mk (wT (by repeat (first|(with_reducible first|exact HB.out|apply wA|apply wN|apply wD)|exact HB.out)) hb);clear HB;have HB:=n0_;clear n0_;(try clear hb);(try clear hb2);(try clear hk);(try clear hi))|((with_reducible refine gD (N:=8) rfl ?_);refine bE ?hg (N:=8) ?hd (cs:=#[.int .i64 0,.int .i64 0,.int .i64 0,.int .i64 0]) (t:=42) ?hr ?_;(case hd => rfl);(case hg => rfl);(case hr => first|(go_simp;done)|(go_simp;rfl));intro gb166 hg w14 hbox hb;have n0_:=A0.mk (wT (by repeat (first|(with_reducible first|exact HB.out|apply wA|apply wN|apply wD)|exact HB.out)) hb);have n1_:=A0.mk (hbox);have n2_:=A0.mk ((by rw [hg];exact (wZ (by repeat (first|(with_reducible first|exact HB.out|apply wA|apply wN|apply wD)|exact HB.out))) : w.heap.size ≤ gb166));have n3_:=A0.mk ((by rw [hg];exact (wZ (by repeat (first|(with_reducible first|exact HB.out|apply wA|apply wN|apply wD)|exact HB.out))) : w.heap.size ≤ gb166));clear HB;have HB:=n0_;have BK166:=n1_;have GW166:=n2_;have GE166:=n3_;clear n0_ n1_ n2_ n3_;clear hb hbox hg;have hcz15_0 : w14.cell? ⟨gb166,0,none⟩ = some (.int .i64 0):=(bC BK166.out 0).trans rfl;have hcz15_1 : w14.cell? ⟨gb166,1,none⟩ = some (.int .i64 0):=(bC BK166.out 1).trans rfl;have hcz15_2 : w14.cell? ⟨gb166,2,none⟩ = some (.int .i64 0):=(bC BK166.out 2).trans rfl;have hcz15_3 : w14.cell? ⟨gb166,3,none⟩ = some (.int .i64 0):=(bC BK166.out 3).trans rfl;have hfz15_0:=bF BK166.out 0;have hfz15_1:=bF BK166.out 1;have hfz15_2:=bF BK166.out 2;have hfz15_3:=bF BK166.out 3))
        repeat (go_quiet (first|(go_at_call 21;(with_reducible refine (vernierref04_Row.calls a0 t161 t162 t163 t164 t165 _ A3.out).mono ?_);rintro e w13 ⟨rfl,hb⟩;have n0_:=A0.mk (wT (by repeat (first|(with_reducible first|exact HB.out|apply wA|apply wN|apply wD)|exact HB.out)) hb);clear HB;have HB:=n0_;clear n0_;(try clear hb);(try clear hb2);(try clear hk);(try clear hi))|((with_reducible refine gD (N:=8) rfl ?_);refine bE ?hg (N:=8) ?hd (cs:=#[.int .i64 0,.int .i64 0,.int .i64 0,.int .i64 0]) (t:=42) ?hr ?_;(case hd => rfl);(case hg => rfl);(case hr => first|(go_simp;done)|(go_simp;rfl));intro gb166 hg w14 hbox hb;have n0_:=A0.mk (wT (by repeat (first|(with_reducible first|exact HB.out|apply wA|apply wN|apply wD)|exact HB.out)) hb);have n1_:=A0.mk (hbox);have n2_:=A0.mk ((by rw [hg];exact (wZ (by repeat (first|(with_reducible first|exact HB.out|apply wA|apply wN|apply wD)|exact HB.out))) : w.heap.size ≤ gb166));have n3_:=A0.mk ((by rw [hg];exact (wZ (by repeat (first|(with_reducible first|exact HB.out|apply wA|apply wN|apply wD)|exact HB.out))) : w.heap.size ≤ gb166));clear HB;have HB:=n0_;have BK166:=n1_;have GW166:=n2_;have GE166:=n3_;clear n0_ n1_ n2_ n3_;clear hb hbox hg;have hcz15_0 : w14.cell? ⟨gb166,0,none⟩ = some (.int .i64 0):=(bC BK166.out 0).trans rfl;have hcz15_1 : w14.cell? ⟨gb166,1,none⟩ = some (.int .i64 0):=(bC BK166.out 1).trans rfl;have hcz15_2 : w14.cell? ⟨gb166,2,none⟩ = some (.int .i64 0):=(bC BK166.out 2).trans rfl;have hcz15_3 : w14.cell? ⟨gb166,3,none⟩ = some (.int .i64 0):=(bC BK166.out 3).trans rfl;have hfz15_0:=bF BK166.out 0;have hfz15_1:=bF BK166.out 1;have hfz15_2:=bF BK166.out 2;have hfz15_3:=bF BK166.out 3));try go_wp2_with (first|(go_at_call 21;(with_reducible refine (vernierref04_Row.calls a0 t161 t162 t163 t164 t165 _ A3.out).mono ?_);rintro e w13 ⟨rfl,hb⟩;have n0_:=A0.mk (wT (by repeat (first|(with_reducible first|exact HB.out|apply wA|apply wN|apply wD)|exact HB.out)) hb);clear HB;have HB:=n0_;clear n0_;(try clear hb);(try clear hb2);(try clear hk);(try clear hi))|((with_reducible refine gD (N:=8) rfl ?_);refine bE ?hg (N:=8) ?hd (cs:=#[.int .i64 0,.int .i64 0,.int .i64 0,.int .i64 0]) (t:=42) ?hr ?_;(case hd => rfl);(case hg => rfl);(case hr => first|(go_simp;done)|(go_simp;rfl));intro gb166 hg w14 hbox hb;have n0_:=A0.mk (wT (by repeat (first|(with_reducible first|exact HB.out|apply wA|apply wN|apply wD)|exact HB.out)) hb);have n1_:=A0.mk (hbox);have n2_:=A0.mk ((by rw [hg];exact (wZ (by repeat (first|(with_reducible first|exact HB.out|apply wA|apply wN|apply wD)|exact HB.out))) : w.heap.size ≤ gb166));have n3_:=A0.mk ((by rw [hg];exact (wZ (by repeat (first|(with_reducible first|exact HB.out|apply wA|apply wN|apply wD)|exact HB.out))) : w.heap.size ≤ gb166));clear HB;have HB:=n0_;have BK166:=n1_;have GW166:=n2_;have GE166:=n3_;clear n0_ n1_ n2_ n3_;clear hb hbox hg;have hcz15_0 : w14.cell? ⟨gb166,0,none⟩ = some (.int .i64 0):=(bC BK166.out 0).trans rfl;have hcz15_1 : w14.cell? ⟨gb166,1,none⟩ = some (.int .i64 0):=(bC BK166.out 1).trans rfl;have hcz15_2 : w14.cell? ⟨gb166,2,none⟩ = some (.int .i64 0):=(bC BK166.out 2).trans rfl;have hcz15_3 : w14.cell? ⟨gb166,3,none⟩ = some (.int .i64 0):=(bC BK166.out 3).trans rfl;have hfz15_0:=bF BK166.out 0;have hfz15_1:=bF BK166.out 1;have hfz15_2:=bF BK166.out 2;have hfz15_3:=bF BK166.out 3)))
        refine bodyPost_ret (results_list (rs:=[.tmp 4,.tmp 5,.tmp 6,.tmp 7]) rfl (by simp) (.tmp (.tmp (.tmp (.tmp .nil))))) rfl ?_
        exact ⟨by first|rfl|(simp [errW_none,errW_some] <;> rfl)|(simp only [← hji4,← hji6,← hji7,← hji9,← hji11];first|rfl|(simp [errW_none,errW_some] <;> rfl))|(simp [*,errW_none,errW_some] <;> rfl),by repeat (first|(with_reducible first|exact HB.out|apply wA|apply wN|apply wD|refine wS ?_ GE166.out)|exact HB.out)⟩
    · rw [if_neg c8] at H
      exact absurd H (by simp)
  · rw [if_neg c5] at H
    exact absurd H (by simp)

/-! ### vernierref04_IsNaN: function 62 -/
def vernierref04_IsNaN.f (a0 : Int) (a1 : Int) : Option (Bool):=(vernierref04_Parts.f a0 a1).bind fun bt167 => (if bt167.2.1 = bt167.2.2.2 then (some (bt167.2.2.1 != 0)) else (some false))
set_option maxHeartbeats 8000000 in
set_option maxRecDepth 100000 in
theorem vernierref04_IsNaN.calls (a0 : Int) (a1 : Int) (r : Bool) (w : World) (h : vernierref04_IsNaN.f a0 a1 = some r) :
    Calls Tryd.prog 62 #[.int .i64 a0,.int .u64 a1] w fun e w' => e = .returned (.bool r)∧Below w.heap.size w w':=by
  have HB:=A0.mk (Below.refl w.heap.size w)
  have H : ((vernierref04_Parts.f a0 a1).bind fun bt167 => (if bt167.2.1 = bt167.2.2.2 then (some (bt167.2.2.1 != 0)) else (some false))) = some r:=h
  clear h;replace H:=Option.bind_eq_some_iff.mp H;obtain ⟨⟨t167,t168,t169,t170⟩,A30,H⟩:=H
  replace H : (if t168 = t170 then (some (t169 != 0)) else (some false)) = some r:=H
  have A3:=A0.mk A30;clear A30
  by_cases c4 : t168 = t170
  · rw [if_pos c4] at H
    have c4b0 : (t168 == t170) = true:=beq_iff_eq.mpr c4
    have c4b1 : (t168 != t170) = false:=bne_eq_false_iff_eq.mpr c4
    clear c4;obtain rfl:=Option.some.inj H
    go_enter Tryd.func62,Tryd.ntmps62
    go_wp2_with (first|((with_reducible refine gC (f:=16) rfl ?_);refine goesL_ (some 12) rfl rfl Tryd.func16 (by kernel_rfl) rfl #[.int .i64 a0,.int .u64 a1] rfl (by (try simp only [mT,mC,mN]);first|done|rfl|(simp only [lD,lK];rfl)) ?_;(with_reducible refine (vernierref04_Parts.calls a0 a1 t167 t168 t169 t170 _ A3.out).mono ?_);rintro e w5 ⟨rfl,hb⟩;refine ⟨_,rfl,?_⟩;have n0_:=A0.mk (wT (by repeat (first|(with_reducible first|exact HB.out|apply wA|apply wN|apply wD)|exact HB.out)) hb);clear HB;have HB:=n0_;clear n0_;(try clear hb);(try clear hb2);(try clear hk);(try clear hi)))
    go_ret
    exact ⟨by first|rfl|(simp [errW_none,errW_some] <;> rfl)|(simp [*,errW_none,errW_some] <;> rfl)|(simp [wrap64];done),by repeat (first|(with_reducible first|exact HB.out|apply wA|apply wN|apply wD)|exact HB.out)⟩
  · rw [if_neg c4] at H
    have c4b0 : (t168 == t170) = false:=beq_eq_false_iff_ne.mpr c4
    have c4b1 : (t168 != t170) = true:=bne_iff_ne.mpr c4
    obtain rfl:=Option.some.inj H
    go_enter Tryd.func62,Tryd.ntmps62
    go_wp2_with (first|((with_reducible refine gC (f:=16) rfl ?_);refine goesL_ (some 12) rfl rfl Tryd.func16 (by kernel_rfl) rfl #[.int .i64 a0,.int .u64 a1] rfl (by (try simp only [mT,mC,mN]);first|done|rfl|(simp only [lD,lK];rfl)) ?_;(with_reducible refine (vernierref04_Parts.calls a0 a1 t167 t168 t169 t170 _ A3.out).mono ?_);rintro e w6 ⟨rfl,hb⟩;refine ⟨_,rfl,?_⟩;have n0_:=A0.mk (wT (by repeat (first|(with_reducible first|exact HB.out|apply wA|apply wN|apply wD)|exact HB.out)) hb);clear HB;have HB:=n0_;clear n0_;(try clear hb);(try clear hb2);(try clear hk);(try clear hi)))
    go_ret
    exact ⟨by first|rfl|(simp [errW_none,errW_some] <;> rfl)|(simp [*,errW_none,errW_some] <;> rfl)|(simp [wrap64];done),by repeat (first|(with_reducible first|exact HB.out|apply wA|apply wN|apply wD)|exact HB.out)⟩

/-! ### vernierref04_Signals: function 48 -/
def vernierref04_Signals.f (a0 : Int) (a1 : Int) : Option (Bool):=(vernierref04_Row.f a0).bind fun bt171 => ((vernierref04_Parts.f a0 a1).bind fun bt177 => ((vernierref04_IsNaN.f a0 a1).bind fun t181 => (if t181 = true then (if 0 ≤ (IntKind.u64.wrap (wrap64 (bt171.2.1 - 2))) then (some ((shr .u64 bt177.2.2.1 (IntKind.u64.wrap (wrap64 (bt171.2.1 - 2)))) == 0)) else (none)) else (some false))))
set_option maxHeartbeats 8000000 in
set_option maxRecDepth 100000 in
theorem vernierref04_Signals.calls (a0 : Int) (a1 : Int) (r : Bool) (w : World) (h : vernierref04_Signals.f a0 a1 = some r) :
    Calls Tryd.prog 48 #[.int .i64 a0,.int .u64 a1] w fun e w' => e = .returned (.bool r)∧Below w.heap.size w w':=by
  have hu42:=Tryd.underlying42
  have HB:=A0.mk (Below.refl w.heap.size w)
  have H : ((vernierref04_Row.f a0).bind fun bt171 => ((vernierref04_Parts.f a0 a1).bind fun bt177 => ((vernierref04_IsNaN.f a0 a1).bind fun t181 => (if t181 = true then (if 0 ≤ (IntKind.u64.wrap (wrap64 (bt171.2.1 - 2))) then (some ((shr .u64 bt177.2.2.1 (IntKind.u64.wrap (wrap64 (bt171.2.1 - 2)))) == 0)) else (none)) else (some false))))) = some r:=h
  clear h;replace H:=Option.bind_eq_some_iff.mp H;obtain ⟨⟨t171,t172,t173,t174,t175⟩,A30,H⟩:=H
  replace H : ((vernierref04_Parts.f a0 a1).bind fun bt177 => ((vernierref04_IsNaN.f a0 a1).bind fun t181 => (if t181 = true then (if 0 ≤ (IntKind.u64.wrap (wrap64 (t172 - 2))) then (some ((shr .u64 bt177.2.2.1 (IntKind.u64.wrap (wrap64 (t172 - 2)))) == 0)) else (none)) else (some false)))) = some r:=H
  have A3:=A0.mk A30;clear A30;replace H:=Option.bind_eq_some_iff.mp H;obtain ⟨⟨t177,t178,t179,t180⟩,A40,H⟩:=H
  replace H : ((vernierref04_IsNaN.f a0 a1).bind fun t181 => (if t181 = true then (if 0 ≤ (IntKind.u64.wrap (wrap64 (t172 - 2))) then (some ((shr .u64 t179 (IntKind.u64.wrap (wrap64 (t172 - 2)))) == 0)) else (none)) else (some false))) = some r:=H
  have A4:=A0.mk A40;clear A40;replace H:=Option.bind_eq_some_iff.mp H;obtain ⟨t181,A50,H⟩:=H
  replace H : (if t181 = true then (if 0 ≤ (IntKind.u64.wrap (wrap64 (t172 - 2))) then (some ((shr .u64 t179 (IntKind.u64.wrap (wrap64 (t172 - 2)))) == 0)) else (none)) else (some false)) = some r:=H
  have A5:=A0.mk A50;clear A50
  by_cases c6 : t181 = true
  · subst c6
    have H1 : (if 0 ≤ (IntKind.u64.wrap (wrap64 (t172 - 2))) then (some ((shr .u64 t179 (IntKind.u64.wrap (wrap64 (t172 - 2)))) == 0)) else (none)) = some r:=by rw [if_pos rfl] at H;exact H
    clear H;have H:=H1;clear H1
    obtain ⟨ji7,hji7⟩ : ∃ j_ : Int,(IntKind.u64.wrap (wrap64 (t172 - 2))) = j_:=⟨_,rfl⟩
    replace H : (if 0 ≤ (ji7) then (some ((shr .u64 t179 (ji7)) == 0)) else (none)) = some r:=by first|(rw [hji7] at H;exact H)|(simp only [hji7] at H ⊢;exact H)
    (try rw [hji7] at A3)
    (try rw [hji7] at A4)
    (try rw [hji7] at A5)
    by_cases c8 : 0 ≤ (ji7)
    · rw [if_pos c8] at H
      have c8b0:=eq_true c8
      have c8b1 : decide (0 ≤ (ji7)) = true:=decide_eq_true c8
      clear c8
      obtain ⟨ji9,hji9⟩ : ∃ j_ : Int,(shr .u64 t179 (ji7)) = j_:=⟨_,rfl⟩
      replace H : (some ((ji9) == 0)) = some r:=by first|(rw [hji9] at H;exact H)|(simp only [hji9] at H ⊢;exact H)
      (try rw [hji9] at A3)
      (try rw [hji9] at A4)
      (try rw [hji9] at A5)
      have hji9_ : (t179 / 2 ^ min (ji7).toNat 64) = ji9:=hji9
      have hji9z : (ji7) ≤ 64→(t179 / 2 ^ (ji7).toNat) = ji9:=shr_small hji9
      obtain rfl:=Option.some.inj H
      go_enter Tryd.func48,Tryd.ntmps48
      go_wp2_with (first|((with_reducible refine gC (f:=21) rfl ?_);refine goesL_ (some 13) rfl rfl Tryd.func21 (by kernel_rfl) rfl #[.int .i64 a0] rfl (by (try simp only [mT,mC,mN]);first|done|rfl|(simp only [lD,lK];rfl)) ?_;(with_reducible refine (vernierref04_Row.calls a0 t171 t172 t173 t174 t175 _ A3.out).mono ?_);rintro e w10 ⟨rfl,hb⟩;refine ⟨_,rfl,?_⟩;have n0_:=A0.mk (wT (by repeat (first|(with_reducible first|exact HB.out|apply wA|apply wN|apply wD)|exact HB.out)) hb);clear HB;have HB:=n0_;clear n0_;(try clear hb);(try clear hb2);(try clear hk);(try clear hi))|((with_reducible refine gD (N:=5) rfl ?_);refine bE ?hg (N:=5) ?hd (cs:=#[.int .i64 0,.int .i64 0,.int .i64 0,.int .i64 0]) (t:=42) ?hr ?_;(case hd => rfl);(case hg => rfl);(case hr => first|(go_simp;done)|(go_simp;rfl));intro gb176 hg w11 hbox hb;have n0_:=A0.mk (wT (by repeat (first|(with_reducible first|exact HB.out|apply wA|apply wN|apply wD)|exact HB.out)) hb);have n1_:=A0.mk (hbox);have n2_:=A0.mk ((by rw [hg];exact (wZ (by repeat (first|(with_reducible first|exact HB.out|apply wA|apply wN|apply wD)|exact HB.out))) : w.heap.size ≤ gb176));have n3_:=A0.mk ((by rw [hg];exact (wZ (by repeat (first|(with_reducible first|exact HB.out|apply wA|apply wN|apply wD)|exact HB.out))) : w.heap.size ≤ gb176));clear HB;have HB:=n0_;have BK176:=n1_;have GW176:=n2_;have GE176:=n3_;clear n0_ n1_ n2_ n3_;clear hb hbox hg;have hcz12_0 : w11.cell? ⟨gb176,0,none⟩ = some (.int .i64 0):=(bC BK176.out 0).trans rfl;have hcz12_1 : w11.cell? ⟨gb176,1,none⟩ = some (.int .i64 0):=(bC BK176.out 1).trans rfl;have hcz12_2 : w11.cell? ⟨gb176,2,none⟩ = some (.int .i64 0):=(bC BK176.out 2).trans rfl;have hcz12_3 : w11.cell? ⟨gb176,3,none⟩ = some (.int .i64 0):=(bC BK176.out 3).trans rfl;have hfz12_0:=bF BK176.out 0;have hfz12_1:=bF BK176.out 1;have hfz12_2:=bF BK176.out 2;have hfz12_3:=bF BK176.out 3)|((with_reducible refine gC (f:=16) rfl ?_);refine goesL_ (some 19) rfl rfl Tryd.func16 (by kernel_rfl) rfl #[.int .i64 a0,.int .u64 a1] rfl (by (try simp only [mT,mC,mN]);first|done|rfl|(simp only [lD,lK];rfl)) ?_;(with_reducible refine (vernierref04_Parts.calls a0 a1 t177 t178 t179 t180 _ A4.out).mono ?_);rintro e w13 ⟨rfl,hb⟩;refine ⟨_,rfl,?_⟩;have n0_:=A0.mk (bB (g:=gb176) (o:=.cells #[.int .i64 t171,.int .i64 t172,.int .i64 t173,.int .i64 t174] 42 (0,0)) (by (with_reducible repeat (first|refine bN ?_ _|refine bD ?_|refine bA ?_ _));refine bP (cs:=#[.int .i64 t171,.int .i64 t172,.int .i64 t173,.int .i64 0]) ?_ 3 _ rfl;(with_reducible repeat (first|refine bN ?_ _|refine bD ?_|refine bA ?_ _));refine bP (cs:=#[.int .i64 t171,.int .i64 t172,.int .i64 0,.int .i64 0]) ?_ 2 _ rfl;(with_reducible repeat (first|refine bN ?_ _|refine bD ?_|refine bA ?_ _));refine bP (cs:=#[.int .i64 t171,.int .i64 0,.int .i64 0,.int .i64 0]) ?_ 1 _ rfl;(with_reducible repeat (first|refine bN ?_ _|refine bD ?_|refine bA ?_ _));refine bP (cs:=#[.int .i64 0,.int .i64 0,.int .i64 0,.int .i64 0]) ?_ 0 _ rfl;(with_reducible repeat (first|refine bN ?_ _|refine bD ?_|refine bA ?_ _));exact BK176.out) hb);have n1_:=A0.mk (wT (by repeat (first|(with_reducible first|exact HB.out|apply wA|apply wN|apply wD|refine wS ?_ GE176.out)|exact HB.out)) hb);clear BK176;clear HB;have BK176:=n0_;have HB:=n1_;clear n0_ n1_;(try clear hb);(try clear hb2);(try clear hk);(try clear hi))|((with_reducible refine gC (f:=62) rfl ?_);refine goesL_ (some 26) rfl rfl Tryd.func62 (by kernel_rfl) rfl #[.int .i64 a0,.int .u64 a1] rfl (by (try simp only [mT,mC,mN]);first|done|rfl|(simp only [lD,lK];rfl)) ?_;(with_reducible refine (vernierref04_IsNaN.calls a0 a1 true _ A5.out).mono ?_);rintro e w14 ⟨rfl,hb⟩;refine ⟨_,rfl,?_⟩;have n0_:=A0.mk (bB (g:=gb176) (o:=.cells #[.int .i64 t171,.int .i64 t172,.int .i64 t173,.int .i64 t174] 42 (0,0)) (by (with_reducible repeat (first|refine bN ?_ _|refine bD ?_|refine bA ?_ _));exact BK176.out) hb);have n1_:=A0.mk (wT (by repeat (first|(with_reducible first|exact HB.out|apply wA|apply wN|apply wD|refine wS ?_ GE176.out)|exact HB.out)) hb);clear BK176;clear HB;have BK176:=n0_;have HB:=n1_;clear n0_ n1_;(try clear hb);(try clear hb2);(try clear hk);(try clear hi);have hcz15_0 : w14.cell? ⟨gb176,0,none⟩ = some (.int .i64 t171):=(bC BK176.out 0).trans rfl;have hcz15_1 : w14.cell? ⟨gb176,1,none⟩ = some (.int .i64 t172):=(bC BK176.out 1).trans rfl;have hcz15_2 : w14.cell? ⟨gb176,2,none⟩ = some (.int .i64 t173):=(bC BK176.out 2).trans rfl;have hcz15_3 : w14.cell? ⟨gb176,3,none⟩ = some (.int .i64 t174):=(bC BK176.out 3).trans rfl;have hfz15_0:=bF BK176.out 0;have hfz15_1:=bF BK176.out 1;have hfz15_2:=bF BK176.out 2;have hfz15_3:=bF BK176.out 3))
      go_ret
      exact ⟨by first|rfl|(simp [errW_none,errW_some] <;> rfl)|(simp only [← hji7,← hji9];first|rfl|(simp [errW_none,errW_some] <;> rfl))|(simp [*,errW_none,errW_some] <;> rfl),by repeat (first|(with_reducible first|exact HB.out|apply wA|apply wN|apply wD|refine wS ?_ GE176.out)|exact HB.out)⟩
    · rw [if_neg c8] at H
      exact absurd H (by simp)
  · replace c6:=Bool.eq_false_iff.mpr c6
    subst c6
    have H1 : (some false) = some r:=by rw [if_neg (show ¬ (false = true) by decide)] at H;exact H
    clear H;have H:=H1;clear H1;obtain rfl:=Option.some.inj H
    go_enter Tryd.func48,Tryd.ntmps48
    go_wp2_with (first|((with_reducible refine gC (f:=21) rfl ?_);refine goesL_ (some 13) rfl rfl Tryd.func21 (by kernel_rfl) rfl #[.int .i64 a0] rfl (by (try simp only [mT,mC,mN]);first|done|rfl|(simp only [lD,lK];rfl)) ?_;(with_reducible refine (vernierref04_Row.calls a0 t171 t172 t173 t174 t175 _ A3.out).mono ?_);rintro e w16 ⟨rfl,hb⟩;refine ⟨_,rfl,?_⟩;have n0_:=A0.mk (wT (by repeat (first|(with_reducible first|exact HB.out|apply wA|apply wN|apply wD)|exact HB.out)) hb);clear HB;have HB:=n0_;clear n0_;(try clear hb);(try clear hb2);(try clear hk);(try clear hi))|((with_reducible refine gD (N:=5) rfl ?_);refine bE ?hg (N:=5) ?hd (cs:=#[.int .i64 0,.int .i64 0,.int .i64 0,.int .i64 0]) (t:=42) ?hr ?_;(case hd => rfl);(case hg => rfl);(case hr => first|(go_simp;done)|(go_simp;rfl));intro gb176 hg w17 hbox hb;have n0_:=A0.mk (wT (by repeat (first|(with_reducible first|exact HB.out|apply wA|apply wN|apply wD)|exact HB.out)) hb);have n1_:=A0.mk (hbox);have n2_:=A0.mk ((by rw [hg];exact (wZ (by repeat (first|(with_reducible first|exact HB.out|apply wA|apply wN|apply wD)|exact HB.out))) : w.heap.size ≤ gb176));have n3_:=A0.mk ((by rw [hg];exact (wZ (by repeat (first|(with_reducible first|exact HB.out|apply wA|apply wN|apply wD)|exact HB.out))) : w.heap.size ≤ gb176));clear HB;have HB:=n0_;have BK176:=n1_;have GW176:=n2_;have GE176:=n3_;clear n0_ n1_ n2_ n3_;clear hb hbox hg;have hcz18_0 : w17.cell? ⟨gb176,0,none⟩ = some (.int .i64 0):=(bC BK176.out 0).trans rfl;have hcz18_1 : w17.cell? ⟨gb176,1,none⟩ = some (.int .i64 0):=(bC BK176.out 1).trans rfl;have hcz18_2 : w17.cell? ⟨gb176,2,none⟩ = some (.int .i64 0):=(bC BK176.out 2).trans rfl;have hcz18_3 : w17.cell? ⟨gb176,3,none⟩ = some (.int .i64 0):=(bC BK176.out 3).trans rfl;have hfz18_0:=bF BK176.out 0;have hfz18_1:=bF BK176.out 1;have hfz18_2:=bF BK176.out 2;have hfz18_3:=bF BK176.out 3)|((with_reducible refine gC (f:=16) rfl ?_);refine goesL_ (some 19) rfl rfl Tryd.func16 (by kernel_rfl) rfl #[.int .i64 a0,.int .u64 a1] rfl (by (try simp only [mT,mC,mN]);first|done|rfl|(simp only [lD,lK];rfl)) ?_;(with_reducible refine (vernierref04_Parts.calls a0 a1 t177 t178 t179 t180 _ A4.out).mono ?_);rintro e w19 ⟨rfl,hb⟩;refine ⟨_,rfl,?_⟩;have n0_:=A0.mk (bB (g:=gb176) (o:=.cells #[.int .i64 t171,.int .i64 t172,.int .i64 t173,.int .i64 t174] 42 (0,0)) (by (with_reducible repeat (first|refine bN ?_ _|refine bD ?_|refine bA ?_ _));refine bP (cs:=#[.int .i64 t171,.int .i64 t172,.int .i64 t173,.int .i64 0]) ?_ 3 _ rfl;(with_reducible repeat (first|refine bN ?_ _|refine bD ?_|refine bA ?_ _));refine bP (cs:=#[.int .i64 t171,.int .i64 t172,.int .i64 0,.int .i64 0]) ?_ 2 _ rfl;(with_reducible repeat (first|refine bN ?_ _|refine bD ?_|refine bA ?_ _));refine bP (cs:=#[.int .i64 t171,.int .i64 0,.int .i64 0,.int .i64 0]) ?_ 1 _ rfl;(with_reducible repeat (first|refine bN ?_ _|refine bD ?_|refine bA ?_ _));refine bP (cs:=#[.int .i64 0,.int .i64 0,.int .i64 0,.int .i64 0]) ?_ 0 _ rfl;(with_reducible repeat (first|refine bN ?_ _|refine bD ?_|refine bA ?_ _));exact BK176.out) hb);have n1_:=A0.mk (wT (by repeat (first|(with_reducible first|exact HB.out|apply wA|apply wN|apply wD|refine wS ?_ GE176.out)|exact HB.out)) hb);clear BK176;clear HB;have BK176:=n0_;have HB:=n1_;clear n0_ n1_;(try clear hb);(try clear hb2);(try clear hk);(try clear hi))|((with_reducible refine gC (f:=62) rfl ?_);refine goesL_ (some 26) rfl rfl Tryd.func62 (by kernel_rfl) rfl #[.int .i64 a0,.int .u64 a1] rfl (by (try simp only [mT,mC,mN]);first|done|rfl|(simp only [lD,lK];rfl)) ?_;(with_reducible refine (vernierref04_IsNaN.calls a0 a1 false _ A5.out).mono ?_);rintro e w20 ⟨rfl,hb⟩;refine ⟨_,rfl,?_⟩;have n0_:=A0.mk (bB (g:=gb176) (o:=.cells #[.int .i64 t171,.int .i64 t172,.int .i64 t173,.int .i64 t174] 42 (0,0)) (by (with_reducible repeat (first|refine bN ?_ _|refine bD ?_|refine bA ?_ _));exact BK176.out) hb);have n1_:=A0.mk (wT (by repeat (first|(with_reducible first|exact HB.out|apply wA|apply wN|apply wD|refine wS ?_ GE176.out)|exact HB.out)) hb);clear BK176;clear HB;have BK176:=n0_;have HB:=n1_;clear n0_ n1_;(try clear hb);(try clear hb2);(try clear hk);(try clear hi)))
    go_ret
    exact ⟨by first|rfl|(simp [errW_none,errW_some] <;> rfl)|(simp [*,errW_none,errW_some] <;> rfl)|(simp [wrap64];done),by repeat (first|(with_reducible first|exact HB.out|apply wA|apply wN|apply wD|refine wS ?_ GE176.out)|exact HB.out)⟩

end Go.Proofs.YtjdmbhdlogbopaaDoor.V
