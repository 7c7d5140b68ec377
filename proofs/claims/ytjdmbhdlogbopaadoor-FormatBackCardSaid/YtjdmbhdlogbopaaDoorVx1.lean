/- Contracts of the program's functions, each: where the printed function answers, the call answers the same. Written by vprint.py, this session's own program over the kit's print.py; Lean checks it. No conditions beyond those that each states. -/
import Derived.Test.YtjdmbhdlogbopaaDoorVx0
namespace Go.Proofs.YtjdmbhdlogbopaaDoor.V
open Go.RowKit Go.Proofs.YtjdmbhdlogbopaaDoorQ.PrintWords Go.Proofs.YtjdmbhdlogbopaaDoorQ.PrintLast Go.Proofs.YtjdmbhdlogbopaaDoorQ.PrintMore
open Bool renaming true → Y, false → Z
open List renaming setIfInBounds_toArray → lT, set_cons_zero → lZ, set_cons_succ → lS, map_toArray → mT, map_cons → mC, map_nil → mN, length_drop → lD, length_take → lK
open Act renaming put → aP
attribute [local go_sem] max2_int min2_int max_two min_two max_three min_three max_four min_four   -- for this text's walks alone
set_option linter.unusedVariables false
set_option linter.unusedSimpArgs false

/-! ### format_rowAt: function 113 -/
noncomputable def format_rowAt.f (i : Int) : Option (Int × Int × Int × Int):=if Told (0 ≤ i∧i < 4) then some (rowsT.getD (i.toNat * 4) 0,rowsT.getD (i.toNat * 4 + 1) 0,rowsT.getD (i.toNat * 4 + 2) 0,rowsT.getD (i.toNat * 4 + 3) 0) else none
set_option maxRecDepth 100000 in
theorem format_rowAt.step {ops : Array Oper} {Q : Exit→Act→World→Prop} {rest : List Oper} {o1 o2 : Oper} {a : Act} {w : World} {x : Operand} (N1 N2 : Tmp) (i t1 t2 t3 t4 : Int)
    (hd1 : o1.dst = some N1) (hg1 : o1.guard = none) (ho1 : o1.op = .indexAddr 79 (.global 0) x) (hd2 : o2.dst = some N2) (hg2 : o2.guard = none) (ho2 : o2.op = .load 39 (.tmp N1)) (hx : a.eval x = .int .i64 i) (hs : decide (N1 < a.tmps.size) = true)
    (h : format_rowAt.f i = some (t1,t2,t3,t4)) (hG : GlobR w)
    (K0 : ∀ w',Below w.heap.size w w'→wpList Tryd.prog ops Q rest ((a.put (some N1) (.pointer (some ⟨0,i.toNat * 4,none⟩))).put (some N2) (.agg #[.int .i64 t1,.int .i64 t2,.int .i64 t3,.int .i64 t4])) w') : wpList Tryd.prog ops Q (o1 :: o2 :: rest) a w:=by
  have K:=K0 w (Below.refl _ _)
  clear K0
  have hu1:=Tryd.underlying79
  have hu2:=Tryd.underlying39
  have hs':=of_decide_eq_true hs
  unfold format_rowAt.f at h
  split at h
  · rename_i hc0
    have hc:=hc0.out
    simp only [Option.some.injEq,Prod.mk.injEq] at h
    obtain ⟨rfl,rfl,rfl,rfl⟩:=h
    obtain ⟨n,rfl⟩:=Int.eq_ofNat_of_zero_le hc.1
    have hn : n < 4:=by omega
    rw [Int.toNat_natCast] at K
    have c0:=hG.rows (n * 4) (by omega)
    have c1:=hG.rows (n * 4 + 1) (by omega)
    have c2:=hG.rows (n * 4 + 2) (by omega)
    have c3:=hG.rows (n * 4 + 3) (by omega)
    refine wpList_plain hg1 fun K1 hK1 => ?_
    have r1 : (execOp a.eval o1).run Tryd.prog w = .ok (.value (.pointer (some ⟨0,n * 4,none⟩))) w:=by
      unfold execOp
      have ev : a.eval (Operand.global 0) = .pointer (some ⟨0,0,none⟩):=rfl
      have sz : (sizeOf 39).run Tryd.prog w = .ok 4 w:=by kernel_rfl
      simp [ho1,hx,ev,run_indexAt_array w 79 ⟨0,0,none⟩ .i64 (n : Int) hu1,Program.arrayLen,Program.elem,hu1,sz,Addr.add,Result.andThen]
      rw [if_pos hc.2]
      by_cases h0 : n = 0
      · subst h0;rfl
      · simp [show ¬ n * 4 = 0 by omega]
    unfold Oper.wp
    rw [r1]
    show K1 (a.put o1.dst (.pointer (some ⟨0,n * 4,none⟩))) w
    rw [hd1]
    refine hK1 _ _ ?_
    refine wpList_plain hg2 fun K2 hK2 => ?_
    have r2 : (execOp (a.put (some N1) (.pointer (some ⟨0,n * 4,none⟩))).eval o2).run Tryd.prog w = .ok (.value (.agg #[.int .i64 (rowsT.getD (n * 4) 0),.int .i64 (rowsT.getD (n * 4 + 1) 0),.int .i64 (rowsT.getD (n * 4 + 2) 0),.int .i64 (rowsT.getD (n * 4 + 3) 0)])) w:=by
      unfold execOp
      have ev : (a.put (some N1) (.pointer (some ⟨0,n * 4,none⟩))).eval (Operand.tmp N1) = .pointer (some ⟨0,n * 4,none⟩):=by
        simp [aP,Act.eval,hs']
      have hr : w.rangeAt 0 (n * 4) [.int .i64 (rowsT.getD (n * 4) 0),.int .i64 (rowsT.getD (n * 4 + 1) 0),.int .i64 (rowsT.getD (n * 4 + 2) 0),.int .i64 (rowsT.getD (n * 4 + 3) 0)]:=by
        intro j v hv
        rcases j with _|_|_|_|j
        · simp at hv;subst hv;exact c0
        · simp at hv;subst hv;exact c1
        · simp at hv;subst hv;exact c2
        · simp at hv;subst hv;exact c3
        · simp at hv
      have hl:=run_loadAt_mid (P:=Tryd.prog) w 0 (n * 4) 39 _ _ hr hu2 rfl (by kernel_rfl)
      simp only [ho2,ev]
      simp [hl,-List.getD_eq_getElem?_getD]
    unfold Oper.wp
    rw [r2]
    show K2 (Act.put _ o2.dst _) w
    rw [hd2]
    exact hK2 _ _ K
  · cases h

/-! ### format_Params: function 20 -/
noncomputable def format_Params.f (a0 : Int) : Option (Int × Int × Int × Int × Int):=if a0 < 0 then (some (0,0,0,0,2)) else (if a0 ≥ 4 then (some (0,0,0,0,2)) else ((format_rowAt.f a0).bind fun bt102 => (some (bt102.1,bt102.2.1,bt102.2.2.1,bt102.2.2.2,0))))
set_option maxHeartbeats 8000000 in
set_option maxRecDepth 100000 in
theorem format_Params.calls (a0 : Int) (r1 : Int) (r2 : Int) (r3 : Int) (r4 : Int) (r5 : Int) (w : World) (hG : A0 (GlobR w)) (h : format_Params.f a0 = some (r1,r2,r3,r4,r5)) :
    Calls Tryd.prog 20 #[.int .i64 a0] w fun e w' => e = .returned (.tuple #[.agg #[.int .i64 r1,.int .i64 r2,.int .i64 r3,.int .i64 r4],.int .i64 r5])∧Below w.heap.size w w':=by
  have hu39:=Tryd.underlying39
  have HB:=A0.mk (Below.refl w.heap.size w)
  have H : (if a0 < 0 then (some (0,0,0,0,2)) else (if a0 ≥ 4 then (some (0,0,0,0,2)) else ((format_rowAt.f a0).bind fun bt102 => (some (bt102.1,bt102.2.1,bt102.2.2.1,bt102.2.2.2,0))))) = some (r1,r2,r3,r4,r5):=h
  clear h
  by_cases c2 : a0 < 0
  · rw [if_pos c2] at H
    have c2b0 : decide (a0 < 0) = true:=decide_eq_true c2
    clear c2
    simp only [Option.some.injEq,Prod.mk.injEq] at H
    obtain ⟨rfl,rfl,rfl,rfl,rfl⟩:=H
    go_enter Tryd.func20,Tryd.ntmps20
    go_wp2_with (first|((with_reducible refine gD (N:=2) rfl ?_);refine bE ?hg (N:=2) ?hd (cs:=#[.int .i64 0,.int .i64 0,.int .i64 0,.int .i64 0]) (t:=39) ?hr ?_;(case hd => rfl);(case hg => rfl);(case hr => first|(go_simp;done)|(go_simp;rfl));intro gb101 hg w3 hbox hb;have n0_:=A0.mk (wT (by repeat (first|(with_reducible first|exact HB.out|apply wA|apply wN|apply wD)|exact HB.out)) hb);have n1_:=A0.mk (hbox);have n2_:=A0.mk ((by rw [hg];exact (wZ (by repeat (first|(with_reducible first|exact HB.out|apply wA|apply wN|apply wD)|exact HB.out))) : w.heap.size ≤ gb101));have n3_:=A0.mk ((by rw [hg];exact (wZ (by repeat (first|(with_reducible first|exact HB.out|apply wA|apply wN|apply wD)|exact HB.out))) : w.heap.size ≤ gb101));clear HB;have HB:=n0_;have BK101:=n1_;have GW101:=n2_;have GE101:=n3_;clear n0_ n1_ n2_ n3_;clear hb hbox hg;have hcz4_0 : w3.cell? ⟨gb101,0,none⟩ = some (.int .i64 0):=(bC BK101.out 0).trans rfl;have hcz4_1 : w3.cell? ⟨gb101,1,none⟩ = some (.int .i64 0):=(bC BK101.out 1).trans rfl;have hcz4_2 : w3.cell? ⟨gb101,2,none⟩ = some (.int .i64 0):=(bC BK101.out 2).trans rfl;have hcz4_3 : w3.cell? ⟨gb101,3,none⟩ = some (.int .i64 0):=(bC BK101.out 3).trans rfl;have hfz4_0:=bF BK101.out 0;have hfz4_1:=bF BK101.out 1;have hfz4_2:=bF BK101.out 2;have hfz4_3:=bF BK101.out 3))
    refine bodyPost_ret (results_ct rfl _ _ gb101 39 #[.int .i64 0,.int .i64 0,.int .i64 0,.int .i64 0] (0,0) _ rfl (by (with_reducible repeat (first|refine bN ?_ _|refine bD ?_|refine bA ?_ _));refine bP (cs:=#[.int .i64 0,.int .i64 0,.int .i64 0,.int .i64 0]) ?_ 3 _ rfl;(with_reducible repeat (first|refine bN ?_ _|refine bD ?_|refine bA ?_ _));refine bP (cs:=#[.int .i64 0,.int .i64 0,.int .i64 0,.int .i64 0]) ?_ 2 _ rfl;(with_reducible repeat (first|refine bN ?_ _|refine bD ?_|refine bA ?_ _));refine bP (cs:=#[.int .i64 0,.int .i64 0,.int .i64 0,.int .i64 0]) ?_ 1 _ rfl;(with_reducible repeat (first|refine bN ?_ _|refine bD ?_|refine bA ?_ _));refine bP (cs:=#[.int .i64 0,.int .i64 0,.int .i64 0,.int .i64 0]) ?_ 0 _ rfl;(with_reducible repeat (first|refine bN ?_ _|refine bD ?_|refine bA ?_ _));exact BK101.out) Tryd.underlying39 rfl (by kernel_rfl)) rfl ?_
    exact ⟨by first|rfl|(simp [errW_none,errW_some] <;> rfl)|(simp [*,errW_none,errW_some] <;> rfl)|(simp [wrap64];done),by repeat (first|(with_reducible first|exact HB.out|apply wA|apply wN|apply wD|refine wS ?_ GE101.out)|exact HB.out)⟩
  · rw [if_neg c2] at H
    have c2b0 : decide (a0 < 0) = false:=decide_eq_false c2
    clear c2
    by_cases c5 : a0 ≥ 4
    · rw [if_pos c5] at H
      have c5b0 : decide (4 ≤ a0) = true:=decide_eq_true c5
      clear c5
      simp only [Option.some.injEq,Prod.mk.injEq] at H
      obtain ⟨rfl,rfl,rfl,rfl,rfl⟩:=H
      go_enter Tryd.func20,Tryd.ntmps20
      go_wp2_with (first|((with_reducible refine gD (N:=2) rfl ?_);refine bE ?hg (N:=2) ?hd (cs:=#[.int .i64 0,.int .i64 0,.int .i64 0,.int .i64 0]) (t:=39) ?hr ?_;(case hd => rfl);(case hg => rfl);(case hr => first|(go_simp;done)|(go_simp;rfl));intro gb101 hg w6 hbox hb;have n0_:=A0.mk (wT (by repeat (first|(with_reducible first|exact HB.out|apply wA|apply wN|apply wD)|exact HB.out)) hb);have n1_:=A0.mk (hbox);have n2_:=A0.mk ((by rw [hg];exact (wZ (by repeat (first|(with_reducible first|exact HB.out|apply wA|apply wN|apply wD)|exact HB.out))) : w.heap.size ≤ gb101));have n3_:=A0.mk ((by rw [hg];exact (wZ (by repeat (first|(with_reducible first|exact HB.out|apply wA|apply wN|apply wD)|exact HB.out))) : w.heap.size ≤ gb101));clear HB;have HB:=n0_;have BK101:=n1_;have GW101:=n2_;have GE101:=n3_;clear n0_ n1_ n2_ n3_;clear hb hbox hg;have hcz7_0 : w6.cell? ⟨gb101,0,none⟩ = some (.int .i64 0):=(bC BK101.out 0).trans rfl;have hcz7_1 : w6.cell? ⟨gb101,1,none⟩ = some (.int .i64 0):=(bC BK101.out 1).trans rfl;have hcz7_2 : w6.cell? ⟨gb101,2,none⟩ = some (.int .i64 0):=(bC BK101.out 2).trans rfl;have hcz7_3 : w6.cell? ⟨gb101,3,none⟩ = some (.int .i64 0):=(bC BK101.out 3).trans rfl;have hfz7_0:=bF BK101.out 0;have hfz7_1:=bF BK101.out 1;have hfz7_2:=bF BK101.out 2;have hfz7_3:=bF BK101.out 3))
      refine bodyPost_ret (results_ct rfl _ _ gb101 39 #[.int .i64 0,.int .i64 0,.int .i64 0,.int .i64 0] (0,0) _ rfl (by (with_reducible repeat (first|refine bN ?_ _|refine bD ?_|refine bA ?_ _));refine bP (cs:=#[.int .i64 0,.int .i64 0,.int .i64 0,.int .i64 0]) ?_ 3 _ rfl;(with_reducible repeat (first|refine bN ?_ _|refine bD ?_|refine bA ?_ _));refine bP (cs:=#[.int .i64 0,.int .i64 0,.int .i64 0,.int .i64 0]) ?_ 2 _ rfl;(with_reducible repeat (first|refine bN ?_ _|refine bD ?_|refine bA ?_ _));refine bP (cs:=#[.int .i64 0,.int .i64 0,.int .i64 0,.int .i64 0]) ?_ 1 _ rfl;(with_reducible repeat (first|refine bN ?_ _|refine bD ?_|refine bA ?_ _));refine bP (cs:=#[.int .i64 0,.int .i64 0,.int .i64 0,.int .i64 0]) ?_ 0 _ rfl;(with_reducible repeat (first|refine bN ?_ _|refine bD ?_|refine bA ?_ _));exact BK101.out) Tryd.underlying39 rfl (by kernel_rfl)) rfl ?_
      exact ⟨by first|rfl|(simp [errW_none,errW_some] <;> rfl)|(simp [*,errW_none,errW_some] <;> rfl)|(simp [wrap64];done),by repeat (first|(with_reducible first|exact HB.out|apply wA|apply wN|apply wD|refine wS ?_ GE101.out)|exact HB.out)⟩
    · rw [if_neg c5] at H
      have c5b0 : decide (4 ≤ a0) = false:=decide_eq_false c5
      clear c5;replace H:=Option.bind_eq_some_iff.mp H;obtain ⟨⟨t102,t103,t104,t105⟩,A80,H⟩:=H
      replace H : (some (t102,t103,t104,t105,0)) = some (r1,r2,r3,r4,r5):=H
      have A8:=A0.mk A80;clear A80
      simp only [Option.some.injEq,Prod.mk.injEq] at H
      obtain ⟨rfl,rfl,rfl,rfl,rfl⟩:=H
      go_enter Tryd.func20,Tryd.ntmps20
      go_wp2_with (first|((with_reducible refine gD (N:=2) rfl ?_);refine bE ?hg (N:=2) ?hd (cs:=#[.int .i64 0,.int .i64 0,.int .i64 0,.int .i64 0]) (t:=39) ?hr ?_;(case hd => rfl);(case hg => rfl);(case hr => first|(go_simp;done)|(go_simp;rfl));intro gb101 hg w9 hbox hb;have n0_:=A0.mk (wT (by repeat (first|(with_reducible first|exact HB.out|apply wA|apply wN|apply wD)|exact HB.out)) hb);have n1_:=A0.mk (hbox);have n2_:=A0.mk ((by rw [hg];exact (wZ (by repeat (first|(with_reducible first|exact HB.out|apply wA|apply wN|apply wD)|exact HB.out))) : w.heap.size ≤ gb101));have n3_:=A0.mk ((by rw [hg];exact (wZ (by repeat (first|(with_reducible first|exact HB.out|apply wA|apply wN|apply wD)|exact HB.out))) : w.heap.size ≤ gb101));clear HB;have HB:=n0_;have BK101:=n1_;have GW101:=n2_;have GE101:=n3_;clear n0_ n1_ n2_ n3_;clear hb hbox hg)|((with_reducible refine gD (N:=12) rfl ?_);refine format_rowAt.step 12 13 a0 t102 t103 t104 t105 rfl rfl rfl rfl rfl rfl rfl rfl A8.out ?hG ?_;(case hG => exact (GlobR.below hG.out (by repeat (first|(with_reducible first|exact HB.out|apply wA|apply wN|apply wD|refine wS ?_ GE101.out)|exact HB.out))).out);intro w10 hb;have n0_:=A0.mk (bB (g:=gb101) (o:=.cells #[.int .i64 0,.int .i64 0,.int .i64 0,.int .i64 0] 39 (0,0)) (by (with_reducible repeat (first|refine bN ?_ _|refine bD ?_|refine bA ?_ _));exact BK101.out) hb);have n1_:=A0.mk (wT (by repeat (first|(with_reducible first|exact HB.out|apply wA|apply wN|apply wD|refine wS ?_ GE101.out)|exact HB.out)) hb);clear BK101;clear HB;have BK101:=n0_;have HB:=n1_;clear n0_ n1_;(try clear hb);(try clear hb2);(try clear hk);(try clear hi);have hcz11_0 : w10.cell? ⟨gb101,0,none⟩ = some (.int .i64 0):=(bC BK101.out 0).trans rfl;have hcz11_1 : w10.cell? ⟨gb101,1,none⟩ = some (.int .i64 0):=(bC BK101.out 1).trans rfl;have hcz11_2 : w10.cell? ⟨gb101,2,none⟩ = some (.int .i64 0):=(bC BK101.out 2).trans rfl;have hcz11_3 : w10.cell? ⟨gb101,3,none⟩ = some (.int .i64 0):=(bC BK101.out 3).trans rfl;have hfz11_0:=bF BK101.out 0;have hfz11_1:=bF BK101.out 1;have hfz11_2:=bF BK101.out 2;have hfz11_3:=bF BK101.out 3))
      refine bodyPost_ret (results_ct rfl _ _ gb101 39 #[.int .i64 t102,.int .i64 t103,.int .i64 t104,.int .i64 t105] (0,0) _ rfl (by (with_reducible repeat (first|refine bN ?_ _|refine bD ?_|refine bA ?_ _));refine bP (cs:=#[.int .i64 t102,.int .i64 t103,.int .i64 t104,.int .i64 0]) ?_ 3 _ rfl;(with_reducible repeat (first|refine bN ?_ _|refine bD ?_|refine bA ?_ _));refine bP (cs:=#[.int .i64 t102,.int .i64 t103,.int .i64 0,.int .i64 0]) ?_ 2 _ rfl;(with_reducible repeat (first|refine bN ?_ _|refine bD ?_|refine bA ?_ _));refine bP (cs:=#[.int .i64 t102,.int .i64 0,.int .i64 0,.int .i64 0]) ?_ 1 _ rfl;(with_reducible repeat (first|refine bN ?_ _|refine bD ?_|refine bA ?_ _));refine bP (cs:=#[.int .i64 0,.int .i64 0,.int .i64 0,.int .i64 0]) ?_ 0 _ rfl;(with_reducible repeat (first|refine bN ?_ _|refine bD ?_|refine bA ?_ _));exact BK101.out) Tryd.underlying39 rfl (by kernel_rfl)) rfl ?_
      exact ⟨by first|rfl|(simp [errW_none,errW_some] <;> rfl)|(simp [*,errW_none,errW_some] <;> rfl)|(simp [wrap64];done),by repeat (first|(with_reducible first|exact HB.out|apply wA|apply wN|apply wD|refine wS ?_ GE101.out)|exact HB.out)⟩

/-! ### format_Check: function 11 -/
noncomputable def format_Check.f (a0 : Int) (a1 : Int) : Option (Int):=(format_Params.f a0).bind fun bt106 => (if bt106.2.2.2.2 = 0 then (if bt106.1 < 64 then (if 0 ≤ bt106.1 then (if (shr .u64 a1 bt106.1) = 0 then (some 0) else (some 4)) else (none)) else (some 0)) else (some bt106.2.2.2.2))
set_option maxHeartbeats 8000000 in
set_option maxRecDepth 100000 in
theorem format_Check.calls (a0 : Int) (a1 : Int) (r : Int) (w : World) (hG : A0 (GlobR w)) (h : format_Check.f a0 a1 = some r) :
    Calls Tryd.prog 11 #[.int .i64 a0,.int .u64 a1] w fun e w' => e = .returned (.int .i64 r)∧Below w.heap.size w w':=by
  have hu39:=Tryd.underlying39
  have HB:=A0.mk (Below.refl w.heap.size w)
  have H : ((format_Params.f a0).bind fun bt106 => (if bt106.2.2.2.2 = 0 then (if bt106.1 < 64 then (if 0 ≤ bt106.1 then (if (shr .u64 a1 bt106.1) = 0 then (some 0) else (some 4)) else (none)) else (some 0)) else (some bt106.2.2.2.2))) = some r:=h
  clear h;replace H:=Option.bind_eq_some_iff.mp H;obtain ⟨⟨t106,t107,t108,t109,t110⟩,A30,H⟩:=H
  replace H : (if t110 = 0 then (if t106 < 64 then (if 0 ≤ t106 then (if (shr .u64 a1 t106) = 0 then (some 0) else (some 4)) else (none)) else (some 0)) else (some t110)) = some r:=H
  have A3:=A0.mk A30;clear A30
  by_cases c4 : t110 = 0
  · rw [if_pos c4] at H
    have c4b0 : (t110 == 0) = true:=beq_iff_eq.mpr c4
    have c4b1 : (t110 != 0) = false:=bne_eq_false_iff_eq.mpr c4
    clear c4
    by_cases c5 : t106 < 64
    · rw [if_pos c5] at H
      have c5b0 : decide (t106 < 64) = true:=decide_eq_true c5
      clear c5
      by_cases c6 : 0 ≤ t106
      · rw [if_pos c6] at H
        have c6b0:=eq_true c6
        have c6b1 : decide (0 ≤ t106) = true:=decide_eq_true c6
        clear c6
        obtain ⟨ji7,hji7⟩ : ∃ j_ : Int,(shr .u64 a1 t106) = j_:=⟨_,rfl⟩
        replace H : (if (ji7) = 0 then (some 0) else (some 4)) = some r:=by first|(rw [hji7] at H;exact H)|(simp only [hji7] at H ⊢;exact H)
        (try rw [hji7] at A3)
        have hji7_ : (a1 / 2 ^ min t106.toNat 64) = ji7:=hji7
        have hji7z : t106 ≤ 64→(a1 / 2 ^ t106.toNat) = ji7:=shr_small hji7
        by_cases c8 : (ji7) = 0
        · rw [if_pos c8] at H
          have c8b0 : ((ji7) == 0) = true:=beq_iff_eq.mpr c8
          have c8b1 : ((ji7) != 0) = false:=bne_eq_false_iff_eq.mpr c8
          clear c8;obtain rfl:=Option.some.inj H
          go_enter Tryd.func11,Tryd.ntmps11
          go_wp2_with (first|((with_reducible refine gC (f:=20) rfl ?_);refine goesL_ (some 9) rfl rfl Tryd.func20 (by kernel_rfl) rfl #[.int .i64 a0] rfl (by (try simp only [mT,mC,mN]);first|done|rfl|(simp only [lD,lK];rfl)) ?_;(with_reducible refine (format_Params.calls a0 t106 t107 t108 t109 t110 _ ?hG A3.out).mono ?_);(case hG => exact GlobR.below hG.out (by repeat (first|(with_reducible first|exact HB.out|apply wA|apply wN|apply wD|refine wS ?_ GE111.out)|exact HB.out)));rintro e w9 ⟨rfl,hb⟩;refine ⟨_,rfl,?_⟩;have n0_:=A0.mk (wT (by repeat (first|(with_reducible first|exact HB.out|apply wA|apply wN|apply wD)|exact HB.out)) hb);clear HB;have HB:=n0_;clear n0_;(try clear hb);(try clear hb2);(try clear hk);(try clear hi))|((with_reducible refine gD (N:=5) rfl ?_);refine bE ?hg (N:=5) ?hd (cs:=#[.int .i64 0,.int .i64 0,.int .i64 0,.int .i64 0]) (t:=39) ?hr ?_;(case hd => rfl);(case hg => rfl);(case hr => first|(go_simp;done)|(go_simp;rfl));intro gb111 hg w10 hbox hb;have n0_:=A0.mk (wT (by repeat (first|(with_reducible first|exact HB.out|apply wA|apply wN|apply wD)|exact HB.out)) hb);have n1_:=A0.mk (hbox);have n2_:=A0.mk ((by rw [hg];exact (wZ (by repeat (first|(with_reducible first|exact HB.out|apply wA|apply wN|apply wD)|exact HB.out))) : w.heap.size ≤ gb111));have n3_:=A0.mk ((by rw [hg];exact (wZ (by repeat (first|(with_reducible first|exact HB.out|apply wA|apply wN|apply wD)|exact HB.out))) : w.heap.size ≤ gb111));clear HB;have HB:=n0_;have BK111:=n1_;have GW111:=n2_;have GE111:=n3_;clear n0_ n1_ n2_ n3_;clear hb hbox hg;have hcz11_0 : w10.cell? ⟨gb111,0,none⟩ = some (.int .i64 0):=(bC BK111.out 0).trans rfl;have hcz11_1 : w10.cell? ⟨gb111,1,none⟩ = some (.int .i64 0):=(bC BK111.out 1).trans rfl;have hcz11_2 : w10.cell? ⟨gb111,2,none⟩ = some (.int .i64 0):=(bC BK111.out 2).trans rfl;have hcz11_3 : w10.cell? ⟨gb111,3,none⟩ = some (.int .i64 0):=(bC BK111.out 3).trans rfl;have hfz11_0:=bF BK111.out 0;have hfz11_1:=bF BK111.out 1;have hfz11_2:=bF BK111.out 2;have hfz11_3:=bF BK111.out 3))
          go_ret
          exact ⟨by first|rfl|(simp [errW_none,errW_some] <;> rfl)|(simp only [← hji7];first|rfl|(simp [errW_none,errW_some] <;> rfl))|(simp [*,errW_none,errW_some] <;> rfl),by repeat (first|(with_reducible first|exact HB.out|apply wA|apply wN|apply wD|refine wS ?_ GE111.out)|exact HB.out)⟩
        · rw [if_neg c8] at H
          have c8b0 : ((ji7) == 0) = false:=beq_eq_false_iff_ne.mpr c8
          have c8b1 : ((ji7) != 0) = true:=bne_iff_ne.mpr c8
          obtain rfl:=Option.some.inj H
          go_enter Tryd.func11,Tryd.ntmps11
          go_wp2_with (first|((with_reducible refine gC (f:=20) rfl ?_);refine goesL_ (some 9) rfl rfl Tryd.func20 (by kernel_rfl) rfl #[.int .i64 a0] rfl (by (try simp only [mT,mC,mN]);first|done|rfl|(simp only [lD,lK];rfl)) ?_;(with_reducible refine (format_Params.calls a0 t106 t107 t108 t109 t110 _ ?hG A3.out).mono ?_);(case hG => exact GlobR.below hG.out (by repeat (first|(with_reducible first|exact HB.out|apply wA|apply wN|apply wD|refine wS ?_ GE111.out)|exact HB.out)));rintro e w12 ⟨rfl,hb⟩;refine ⟨_,rfl,?_⟩;have n0_:=A0.mk (wT (by repeat (first|(with_reducible first|exact HB.out|apply wA|apply wN|apply wD)|exact HB.out)) hb);clear HB;have HB:=n0_;clear n0_;(try clear hb);(try clear hb2);(try clear hk);(try clear hi))|((with_reducible refine gD (N:=5) rfl ?_);refine bE ?hg (N:=5) ?hd (cs:=#[.int .i64 0,.int .i64 0,.int .i64 0,.int .i64 0]) (t:=39) ?hr ?_;(case hd => rfl);(case hg => rfl);(case hr => first|(go_simp;done)|(go_simp;rfl));intro gb111 hg w13 hbox hb;have n0_:=A0.mk (wT (by repeat (first|(with_reducible first|exact HB.out|apply wA|apply wN|apply wD)|exact HB.out)) hb);have n1_:=A0.mk (hbox);have n2_:=A0.mk ((by rw [hg];exact (wZ (by repeat (first|(with_reducible first|exact HB.out|apply wA|apply wN|apply wD)|exact HB.out))) : w.heap.size ≤ gb111));have n3_:=A0.mk ((by rw [hg];exact (wZ (by repeat (first|(with_reducible first|exact HB.out|apply wA|apply wN|apply wD)|exact HB.out))) : w.heap.size ≤ gb111));clear HB;have HB:=n0_;have BK111:=n1_;have GW111:=n2_;have GE111:=n3_;clear n0_ n1_ n2_ n3_;clear hb hbox hg;have hcz14_0 : w13.cell? ⟨gb111,0,none⟩ = some (.int .i64 0):=(bC BK111.out 0).trans rfl;have hcz14_1 : w13.cell? ⟨gb111,1,none⟩ = some (.int .i64 0):=(bC BK111.out 1).trans rfl;have hcz14_2 : w13.cell? ⟨gb111,2,none⟩ = some (.int .i64 0):=(bC BK111.out 2).trans rfl;have hcz14_3 : w13.cell? ⟨gb111,3,none⟩ = some (.int .i64 0):=(bC BK111.out 3).trans rfl;have hfz14_0:=bF BK111.out 0;have hfz14_1:=bF BK111.out 1;have hfz14_2:=bF BK111.out 2;have hfz14_3:=bF BK111.out 3))
          go_ret
          exact ⟨by first|rfl|(simp [errW_none,errW_some] <;> rfl)|(simp only [← hji7];first|rfl|(simp [errW_none,errW_some] <;> rfl))|(simp [*,errW_none,errW_some] <;> rfl),by repeat (first|(with_reducible first|exact HB.out|apply wA|apply wN|apply wD|refine wS ?_ GE111.out)|exact HB.out)⟩
      · rw [if_neg c6] at H
        exact absurd H (by simp)
    · rw [if_neg c5] at H
      have c5b0 : decide (t106 < 64) = false:=decide_eq_false c5
      clear c5;obtain rfl:=Option.some.inj H
      go_enter Tryd.func11,Tryd.ntmps11
      go_wp2_with (first|((with_reducible refine gC (f:=20) rfl ?_);refine goesL_ (some 9) rfl rfl Tryd.func20 (by kernel_rfl) rfl #[.int .i64 a0] rfl (by (try simp only [mT,mC,mN]);first|done|rfl|(simp only [lD,lK];rfl)) ?_;(with_reducible refine (format_Params.calls a0 t106 t107 t108 t109 t110 _ ?hG A3.out).mono ?_);(case hG => exact GlobR.below hG.out (by repeat (first|(with_reducible first|exact HB.out|apply wA|apply wN|apply wD|refine wS ?_ GE111.out)|exact HB.out)));rintro e w15 ⟨rfl,hb⟩;refine ⟨_,rfl,?_⟩;have n0_:=A0.mk (wT (by repeat (first|(with_reducible first|exact HB.out|apply wA|apply wN|apply wD)|exact HB.out)) hb);clear HB;have HB:=n0_;clear n0_;(try clear hb);(try clear hb2);(try clear hk);(try clear hi))|((with_reducible refine gD (N:=5) rfl ?_);refine bE ?hg (N:=5) ?hd (cs:=#[.int .i64 0,.int .i64 0,.int .i64 0,.int .i64 0]) (t:=39) ?hr ?_;(case hd => rfl);(case hg => rfl);(case hr => first|(go_simp;done)|(go_simp;rfl));intro gb111 hg w16 hbox hb;have n0_:=A0.mk (wT (by repeat (first|(with_reducible first|exact HB.out|apply wA|apply wN|apply wD)|exact HB.out)) hb);have n1_:=A0.mk (hbox);have n2_:=A0.mk ((by rw [hg];exact (wZ (by repeat (first|(with_reducible first|exact HB.out|apply wA|apply wN|apply wD)|exact HB.out))) : w.heap.size ≤ gb111));have n3_:=A0.mk ((by rw [hg];exact (wZ (by repeat (first|(with_reducible first|exact HB.out|apply wA|apply wN|apply wD)|exact HB.out))) : w.heap.size ≤ gb111));clear HB;have HB:=n0_;have BK111:=n1_;have GW111:=n2_;have GE111:=n3_;clear n0_ n1_ n2_ n3_;clear hb hbox hg;have hcz17_0 : w16.cell? ⟨gb111,0,none⟩ = some (.int .i64 0):=(bC BK111.out 0).trans rfl;have hcz17_1 : w16.cell? ⟨gb111,1,none⟩ = some (.int .i64 0):=(bC BK111.out 1).trans rfl;have hcz17_2 : w16.cell? ⟨gb111,2,none⟩ = some (.int .i64 0):=(bC BK111.out 2).trans rfl;have hcz17_3 : w16.cell? ⟨gb111,3,none⟩ = some (.int .i64 0):=(bC BK111.out 3).trans rfl;have hfz17_0:=bF BK111.out 0;have hfz17_1:=bF BK111.out 1;have hfz17_2:=bF BK111.out 2;have hfz17_3:=bF BK111.out 3))
      go_ret
      exact ⟨by first|rfl|(simp [errW_none,errW_some] <;> rfl)|(simp [*,errW_none,errW_some] <;> rfl)|(simp [wrap64];done),by repeat (first|(with_reducible first|exact HB.out|apply wA|apply wN|apply wD|refine wS ?_ GE111.out)|exact HB.out)⟩
  · rw [if_neg c4] at H
    have c4b0 : (t110 == 0) = false:=beq_eq_false_iff_ne.mpr c4
    have c4b1 : (t110 != 0) = true:=bne_iff_ne.mpr c4
    obtain rfl:=Option.some.inj H
    go_enter Tryd.func11,Tryd.ntmps11
    go_wp2_with (first|((with_reducible refine gC (f:=20) rfl ?_);refine goesL_ (some 9) rfl rfl Tryd.func20 (by kernel_rfl) rfl #[.int .i64 a0] rfl (by (try simp only [mT,mC,mN]);first|done|rfl|(simp only [lD,lK];rfl)) ?_;(with_reducible refine (format_Params.calls a0 t106 t107 t108 t109 t110 _ ?hG A3.out).mono ?_);(case hG => exact GlobR.below hG.out (by repeat (first|(with_reducible first|exact HB.out|apply wA|apply wN|apply wD|refine wS ?_ GE111.out)|exact HB.out)));rintro e w18 ⟨rfl,hb⟩;refine ⟨_,rfl,?_⟩;have n0_:=A0.mk (wT (by repeat (first|(with_reducible first|exact HB.out|apply wA|apply wN|apply wD)|exact HB.out)) hb);clear HB;have HB:=n0_;clear n0_;(try clear hb);(try clear hb2);(try clear hk);(try clear hi))|((with_reducible refine gD (N:=5) rfl ?_);refine bE ?hg (N:=5) ?hd (cs:=#[.int .i64 0,.int .i64 0,.int .i64 0,.int .i64 0]) (t:=39) ?hr ?_;(case hd => rfl);(case hg => rfl);(case hr => first|(go_simp;done)|(go_simp;rfl));intro gb111 hg w19 hbox hb;have n0_:=A0.mk (wT (by repeat (first|(with_reducible first|exact HB.out|apply wA|apply wN|apply wD)|exact HB.out)) hb);have n1_:=A0.mk (hbox);have n2_:=A0.mk ((by rw [hg];exact (wZ (by repeat (first|(with_reducible first|exact HB.out|apply wA|apply wN|apply wD)|exact HB.out))) : w.heap.size ≤ gb111));have n3_:=A0.mk ((by rw [hg];exact (wZ (by repeat (first|(with_reducible first|exact HB.out|apply wA|apply wN|apply wD)|exact HB.out))) : w.heap.size ≤ gb111));clear HB;have HB:=n0_;have BK111:=n1_;have GW111:=n2_;have GE111:=n3_;clear n0_ n1_ n2_ n3_;clear hb hbox hg;have hcz20_0 : w19.cell? ⟨gb111,0,none⟩ = some (.int .i64 0):=(bC BK111.out 0).trans rfl;have hcz20_1 : w19.cell? ⟨gb111,1,none⟩ = some (.int .i64 0):=(bC BK111.out 1).trans rfl;have hcz20_2 : w19.cell? ⟨gb111,2,none⟩ = some (.int .i64 0):=(bC BK111.out 2).trans rfl;have hcz20_3 : w19.cell? ⟨gb111,3,none⟩ = some (.int .i64 0):=(bC BK111.out 3).trans rfl;have hfz20_0:=bF BK111.out 0;have hfz20_1:=bF BK111.out 1;have hfz20_2:=bF BK111.out 2;have hfz20_3:=bF BK111.out 3))
    go_ret
    exact ⟨by first|rfl|(simp [errW_none,errW_some] <;> rfl)|(simp [*,errW_none,errW_some] <;> rfl)|(simp [wrap64];done),by repeat (first|(with_reducible first|exact HB.out|apply wA|apply wN|apply wD|refine wS ?_ GE111.out)|exact HB.out)⟩

/-! ### vernierref04_Row: function 21 -/
def vernierref04_Row.f (a0 : Int) : Option (Int × Int × Int × Int × Bool):=if a0 = 0 then (some (16,11,(-14),15,true)) else (if a0 = 1 then (some (16,8,(-126),127,true)) else (if a0 = 2 then (some (32,24,(-126),127,true)) else (if a0 = 3 then (some (64,53,(-1022),1023,true)) else (some (0,0,0,0,false)))))
set_option maxHeartbeats 8000000 in
set_option maxRecDepth 100000 in
theorem vernierref04_Row.calls (a0 : Int) (r1 : Int) (r2 : Int) (r3 : Int) (r4 : Int) (r5 : Bool) (w : World) (h : vernierref04_Row.f a0 = some (r1,r2,r3,r4,r5)) :
    Calls Tryd.prog 21 #[.int .i64 a0] w fun e w' => e = .returned (.tuple #[.agg #[.int .i64 r1,.int .i64 r2,.int .i64 r3,.int .i64 r4],.bool r5])∧Below w.heap.size w w':=by
  have hu42:=Tryd.underlying42
  have HB:=A0.mk (Below.refl w.heap.size w)
  have H : (if a0 = 0 then (some (16,11,(-14),15,true)) else (if a0 = 1 then (some (16,8,(-126),127,true)) else (if a0 = 2 then (some (32,24,(-126),127,true)) else (if a0 = 3 then (some (64,53,(-1022),1023,true)) else (some (0,0,0,0,false)))))) = some (r1,r2,r3,r4,r5):=h
  clear h
  by_cases c2 : a0 = 0
  · rw [if_pos c2] at H
    have c2b0 : (a0 == 0) = true:=beq_iff_eq.mpr c2
    have c2b1 : (a0 != 0) = false:=bne_eq_false_iff_eq.mpr c2
    clear c2
    simp only [Option.some.injEq,Prod.mk.injEq] at H
    obtain ⟨rfl,rfl,rfl,rfl,rfl⟩:=H
    go_enter Tryd.func21,Tryd.ntmps21
    go_wp2_with (first|((with_reducible refine gD (N:=2) rfl ?_);refine bE ?hg (N:=2) ?hd (cs:=#[.int .i64 0,.int .i64 0,.int .i64 0,.int .i64 0]) (t:=42) ?hr ?_;(case hd => rfl);(case hg => rfl);(case hr => first|(go_simp;done)|(go_simp;rfl));intro gb112 hg w3 hbox hb;have n0_:=A0.mk (wT (by repeat (first|(with_reducible first|exact HB.out|apply wA|apply wN|apply wD)|exact HB.out)) hb);have n1_:=A0.mk (hbox);have n2_:=A0.mk ((by rw [hg];exact (wZ (by repeat (first|(with_reducible first|exact HB.out|apply wA|apply wN|apply wD)|exact HB.out))) : w.heap.size ≤ gb112));have n3_:=A0.mk ((by rw [hg];exact (wZ (by repeat (first|(with_reducible first|exact HB.out|apply wA|apply wN|apply wD)|exact HB.out))) : w.heap.size ≤ gb112));clear HB;have HB:=n0_;have BK112:=n1_;have GW112:=n2_;have GE112:=n3_;clear n0_ n1_ n2_ n3_;clear hb hbox hg;have hcz4_0 : w3.cell? ⟨gb112,0,none⟩ = some (.int .i64 0):=(bC BK112.out 0).trans rfl;have hcz4_1 : w3.cell? ⟨gb112,1,none⟩ = some (.int .i64 0):=(bC BK112.out 1).trans rfl;have hcz4_2 : w3.cell? ⟨gb112,2,none⟩ = some (.int .i64 0):=(bC BK112.out 2).trans rfl;have hcz4_3 : w3.cell? ⟨gb112,3,none⟩ = some (.int .i64 0):=(bC BK112.out 3).trans rfl;have hfz4_0:=bF BK112.out 0;have hfz4_1:=bF BK112.out 1;have hfz4_2:=bF BK112.out 2;have hfz4_3:=bF BK112.out 3))
    refine bodyPost_ret (results_ct rfl _ _ gb112 42 #[.int .i64 16,.int .i64 11,.int .i64 (-14),.int .i64 15] (0,0) _ rfl (by (with_reducible repeat (first|refine bN ?_ _|refine bD ?_|refine bA ?_ _));refine bP (cs:=#[.int .i64 16,.int .i64 11,.int .i64 (-14),.int .i64 0]) ?_ 3 _ rfl;(with_reducible repeat (first|refine bN ?_ _|refine bD ?_|refine bA ?_ _));refine bP (cs:=#[.int .i64 16,.int .i64 11,.int .i64 0,.int .i64 0]) ?_ 2 _ rfl;(with_reducible repeat (first|refine bN ?_ _|refine bD ?_|refine bA ?_ _));refine bP (cs:=#[.int .i64 16,.int .i64 0,.int .i64 0,.int .i64 0]) ?_ 1 _ rfl;(with_reducible repeat (first|refine bN ?_ _|refine bD ?_|refine bA ?_ _));refine bP (cs:=#[.int .i64 0,.int .i64 0,.int .i64 0,.int .i64 0]) ?_ 0 _ rfl;(with_reducible repeat (first|refine bN ?_ _|refine bD ?_|refine bA ?_ _));exact BK112.out) Tryd.underlying42 rfl (by kernel_rfl)) rfl ?_
    exact ⟨by first|rfl|(simp [errW_none,errW_some] <;> rfl)|(simp [*,errW_none,errW_some] <;> rfl)|(simp [wrap64];done),by repeat (first|(with_reducible first|exact HB.out|apply wA|apply wN|apply wD|refine wS ?_ GE112.out)|exact HB.out)⟩
  · rw [if_neg c2] at H
    have c2b0 : (a0 == 0) = false:=beq_eq_false_iff_ne.mpr c2
    have c2b1 : (a0 != 0) = true:=bne_iff_ne.mpr c2
    by_cases c5 : a0 = 1
    · rw [if_pos c5] at H
      have c5b0 : (a0 == 1) = true:=beq_iff_eq.mpr c5
      have c5b1 : (a0 != 1) = false:=bne_eq_false_iff_eq.mpr c5
      clear c5
      simp only [Option.some.injEq,Prod.mk.injEq] at H
      obtain ⟨rfl,rfl,rfl,rfl,rfl⟩:=H
      go_enter Tryd.func21,Tryd.ntmps21
      go_wp2_with (first|((with_reducible refine gD (N:=2) rfl ?_);refine bE ?hg (N:=2) ?hd (cs:=#[.int .i64 0,.int .i64 0,.int .i64 0,.int .i64 0]) (t:=42) ?hr ?_;(case hd => rfl);(case hg => rfl);(case hr => first|(go_simp;done)|(go_simp;rfl));intro gb112 hg w6 hbox hb;have n0_:=A0.mk (wT (by repeat (first|(with_reducible first|exact HB.out|apply wA|apply wN|apply wD)|exact HB.out)) hb);have n1_:=A0.mk (hbox);have n2_:=A0.mk ((by rw [hg];exact (wZ (by repeat (first|(with_reducible first|exact HB.out|apply wA|apply wN|apply wD)|exact HB.out))) : w.heap.size ≤ gb112));have n3_:=A0.mk ((by rw [hg];exact (wZ (by repeat (first|(with_reducible first|exact HB.out|apply wA|apply wN|apply wD)|exact HB.out))) : w.heap.size ≤ gb112));clear HB;have HB:=n0_;have BK112:=n1_;have GW112:=n2_;have GE112:=n3_;clear n0_ n1_ n2_ n3_;clear hb hbox hg;have hcz7_0 : w6.cell? ⟨gb112,0,none⟩ = some (.int .i64 0):=(bC BK112.out 0).trans rfl;have hcz7_1 : w6.cell? ⟨gb112,1,none⟩ = some (.int .i64 0):=(bC BK112.out 1).trans rfl;have hcz7_2 : w6.cell? ⟨gb112,2,none⟩ = some (.int .i64 0):=(bC BK112.out 2).trans rfl;have hcz7_3 : w6.cell? ⟨gb112,3,none⟩ = some (.int .i64 0):=(bC BK112.out 3).trans rfl;have hfz7_0:=bF BK112.out 0;have hfz7_1:=bF BK112.out 1;have hfz7_2:=bF BK112.out 2;have hfz7_3:=bF BK112.out 3))
      refine bodyPost_ret (results_ct rfl _ _ gb112 42 #[.int .i64 16,.int .i64 8,.int .i64 (-126),.int .i64 127] (0,0) _ rfl (by (with_reducible repeat (first|refine bN ?_ _|refine bD ?_|refine bA ?_ _));refine bP (cs:=#[.int .i64 16,.int .i64 8,.int .i64 (-126),.int .i64 0]) ?_ 3 _ rfl;(with_reducible repeat (first|refine bN ?_ _|refine bD ?_|refine bA ?_ _));refine bP (cs:=#[.int .i64 16,.int .i64 8,.int .i64 0,.int .i64 0]) ?_ 2 _ rfl;(with_reducible repeat (first|refine bN ?_ _|refine bD ?_|refine bA ?_ _));refine bP (cs:=#[.int .i64 16,.int .i64 0,.int .i64 0,.int .i64 0]) ?_ 1 _ rfl;(with_reducible repeat (first|refine bN ?_ _|refine bD ?_|refine bA ?_ _));refine bP (cs:=#[.int .i64 0,.int .i64 0,.int .i64 0,.int .i64 0]) ?_ 0 _ rfl;(with_reducible repeat (first|refine bN ?_ _|refine bD ?_|refine bA ?_ _));exact BK112.out) Tryd.underlying42 rfl (by kernel_rfl)) rfl ?_
      exact ⟨by first|rfl|(simp [errW_none,errW_some] <;> rfl)|(simp [*,errW_none,errW_some] <;> rfl)|(simp [wrap64];done),by repeat (first|(with_reducible first|exact HB.out|apply wA|apply wN|apply wD|refine wS ?_ GE112.out)|exact HB.out)⟩
    · rw [if_neg c5] at H
      have c5b0 : (a0 == 1) = false:=beq_eq_false_iff_ne.mpr c5
      have c5b1 : (a0 != 1) = true:=bne_iff_ne.mpr c5
      by_cases c8 : a0 = 2
      · rw [if_pos c8] at H
        have c8b0 : (a0 == 2) = true:=beq_iff_eq.mpr c8
        have c8b1 : (a0 != 2) = false:=bne_eq_false_iff_eq.mpr c8
        clear c8
        simp only [Option.some.injEq,Prod.mk.injEq] at H
        obtain ⟨rfl,rfl,rfl,rfl,rfl⟩:=H
        go_enter Tryd.func21,Tryd.ntmps21
        go_wp2_with (first|((with_reducible refine gD (N:=2) rfl ?_);refine bE ?hg (N:=2) ?hd (cs:=#[.int .i64 0,.int .i64 0,.int .i64 0,.int .i64 0]) (t:=42) ?hr ?_;(case hd => rfl);(case hg => rfl);(case hr => first|(go_simp;done)|(go_simp;rfl));intro gb112 hg w9 hbox hb;have n0_:=A0.mk (wT (by repeat (first|(with_reducible first|exact HB.out|apply wA|apply wN|apply wD)|exact HB.out)) hb);have n1_:=A0.mk (hbox);have n2_:=A0.mk ((by rw [hg];exact (wZ (by repeat (first|(with_reducible first|exact HB.out|apply wA|apply wN|apply wD)|exact HB.out))) : w.heap.size ≤ gb112));have n3_:=A0.mk ((by rw [hg];exact (wZ (by repeat (first|(with_reducible first|exact HB.out|apply wA|apply wN|apply wD)|exact HB.out))) : w.heap.size ≤ gb112));clear HB;have HB:=n0_;have BK112:=n1_;have GW112:=n2_;have GE112:=n3_;clear n0_ n1_ n2_ n3_;clear hb hbox hg;have hcz10_0 : w9.cell? ⟨gb112,0,none⟩ = some (.int .i64 0):=(bC BK112.out 0).trans rfl;have hcz10_1 : w9.cell? ⟨gb112,1,none⟩ = some (.int .i64 0):=(bC BK112.out 1).trans rfl;have hcz10_2 : w9.cell? ⟨gb112,2,none⟩ = some (.int .i64 0):=(bC BK112.out 2).trans rfl;have hcz10_3 : w9.cell? ⟨gb112,3,none⟩ = some (.int .i64 0):=(bC BK112.out 3).trans rfl;have hfz10_0:=bF BK112.out 0;have hfz10_1:=bF BK112.out 1;have hfz10_2:=bF BK112.out 2;have hfz10_3:=bF BK112.out 3))
        refine bodyPost_ret (results_ct rfl _ _ gb112 42 #[.int .i64 32,.int .i64 24,.int .i64 (-126),.int .i64 127] (0,0) _ rfl (by (with_reducible repeat (first|refine bN ?_ _|refine bD ?_|refine bA ?_ _));refine bP (cs:=#[.int .i64 32,.int .i64 24,.int .i64 (-126),.int .i64 0]) ?_ 3 _ rfl;(with_reducible repeat (first|refine bN ?_ _|refine bD ?_|refine bA ?_ _));refine bP (cs:=#[.int .i64 32,.int .i64 24,.int .i64 0,.int .i64 0]) ?_ 2 _ rfl;(with_reducible repeat (first|refine bN ?_ _|refine bD ?_|refine bA ?_ _));refine bP (cs:=#[.int .i64 32,.int .i64 0,.int .i64 0,.int .i64 0]) ?_ 1 _ rfl;(with_reducible repeat (first|refine bN ?_ _|refine bD ?_|refine bA ?_ _));refine bP (cs:=#[.int .i64 0,.int .i64 0,.int .i64 0,.int .i64 0]) ?_ 0 _ rfl;(with_reducible repeat (first|refine bN ?_ _|refine bD ?_|refine bA ?_ _));exact BK112.out) Tryd.underlying42 rfl (by kernel_rfl)) rfl ?_
        exact ⟨by first|rfl|(simp [errW_none,errW_some] <;> rfl)|(simp [*,errW_none,errW_some] <;> rfl)|(simp [wrap64];done),by repeat (first|(with_reducible first|exact HB.out|apply wA|apply wN|apply wD|refine wS ?_ GE112.out)|exact HB.out)⟩
      · rw [if_neg c8] at H
        have c8b0 : (a0 == 2) = false:=beq_eq_false_iff_ne.mpr c8
        have c8b1 : (a0 != 2) = true:=bne_iff_ne.mpr c8
        by_cases c11 : a0 = 3
        · rw [if_pos c11] at H
          have c11b0 : (a0 == 3) = true:=beq_iff_eq.mpr c11
          have c11b1 : (a0 != 3) = false:=bne_eq_false_iff_eq.mpr c11
          clear c11
          simp only [Option.some.injEq,Prod.mk.injEq] at H
          obtain ⟨rfl,rfl,rfl,rfl,rfl⟩:=H
          go_enter Tryd.func21,Tryd.ntmps21
          go_wp2_with (first|((with_reducible refine gD (N:=2) rfl ?_);refine bE ?hg (N:=2) ?hd (cs:=#[.int .i64 0,.int .i64 0,.int .i64 0,.int .i64 0]) (t:=42) ?hr ?_;(case hd => rfl);(case hg => rfl);(case hr => first|(go_simp;done)|(go_simp;rfl));intro gb112 hg w12 hbox hb;have n0_:=A0.mk (wT (by repeat (first|(with_reducible first|exact HB.out|apply wA|apply wN|apply wD)|exact HB.out)) hb);have n1_:=A0.mk (hbox);have n2_:=A0.mk ((by rw [hg];exact (wZ (by repeat (first|(with_reducible first|exact HB.out|apply wA|apply wN|apply wD)|exact HB.out))) : w.heap.size ≤ gb112));have n3_:=A0.mk ((by rw [hg];exact (wZ (by repeat (first|(with_reducible first|exact HB.out|apply wA|apply wN|apply wD)|exact HB.out))) : w.heap.size ≤ gb112));clear HB;have HB:=n0_;have BK112:=n1_;have GW112:=n2_;have GE112:=n3_;clear n0_ n1_ n2_ n3_;clear hb hbox hg;have hcz13_0 : w12.cell? ⟨gb112,0,none⟩ = some (.int .i64 0):=(bC BK112.out 0).trans rfl;have hcz13_1 : w12.cell? ⟨gb112,1,none⟩ = some (.int .i64 0):=(bC BK112.out 1).trans rfl;have hcz13_2 : w12.cell? ⟨gb112,2,none⟩ = some (.int .i64 0):=(bC BK112.out 2).trans rfl;have hcz13_3 : w12.cell? ⟨gb112,3,none⟩ = some (.int .i64 0):=(bC BK112.out 3).trans rfl;have hfz13_0:=bF BK112.out 0;have hfz13_1:=bF BK112.out 1;have hfz13_2:=bF BK112.out 2;have hfz13_3:=bF BK112.out 3))
          refine bodyPost_ret (results_ct rfl _ _ gb112 42 #[.int .i64 64,.int .i64 53,.int .i64 (-1022),.int .i64 1023] (0,0) _ rfl (by (with_reducible repeat (first|refine bN ?_ _|refine bD ?_|refine bA ?_ _));refine bP (cs:=#[.int .i64 64,.int .i64 53,.int .i64 (-1022),.int .i64 0]) ?_ 3 _ rfl;(with_reducible repeat (first|refine bN ?_ _|refine bD ?_|refine bA ?_ _));refine bP (cs:=#[.int .i64 64,.int .i64 53,.int .i64 0,.int .i64 0]) ?_ 2 _ rfl;(with_reducible repeat (first|refine bN ?_ _|refine bD ?_|refine bA ?_ _));refine bP (cs:=#[.int .i64 64,.int .i64 0,.int .i64 0,.int .i64 0]) ?_ 1 _ rfl;(with_reducible repeat (first|refine bN ?_ _|refine bD ?_|refine bA ?_ _));refine bP (cs:=#[.int .i64 0,.int .i64 0,.int .i64 0,.int .i64 0]) ?_ 0 _ rfl;(with_reducible repeat (first|refine bN ?_ _|refine bD ?_|refine bA ?_ _));exact BK112.out) Tryd.underlying42 rfl (by kernel_rfl)) rfl ?_
          exact ⟨by first|rfl|(simp [errW_none,errW_some] <;> rfl)|(simp [*,errW_none,errW_some] <;> rfl)|(simp [wrap64];done),by repeat (first|(with_reducible first|exact HB.out|apply wA|apply wN|apply wD|refine wS ?_ GE112.out)|exact HB.out)⟩
        · rw [if_neg c11] at H
          have c11b0 : (a0 == 3) = false:=beq_eq_false_iff_ne.mpr c11
          have c11b1 : (a0 != 3) = true:=bne_iff_ne.mpr c11
          simp only [Option.some.injEq,Prod.mk.injEq] at H
          obtain ⟨rfl,rfl,rfl,rfl,rfl⟩:=H
          go_enter Tryd.func21,Tryd.ntmps21
          go_wp2_with (first|((with_reducible refine gD (N:=2) rfl ?_);refine bE ?hg (N:=2) ?hd (cs:=#[.int .i64 0,.int .i64 0,.int .i64 0,.int .i64 0]) (t:=42) ?hr ?_;(case hd => rfl);(case hg => rfl);(case hr => first|(go_simp;done)|(go_simp;rfl));intro gb112 hg w14 hbox hb;have n0_:=A0.mk (wT (by repeat (first|(with_reducible first|exact HB.out|apply wA|apply wN|apply wD)|exact HB.out)) hb);have n1_:=A0.mk (hbox);have n2_:=A0.mk ((by rw [hg];exact (wZ (by repeat (first|(with_reducible first|exact HB.out|apply wA|apply wN|apply wD)|exact HB.out))) : w.heap.size ≤ gb112));have n3_:=A0.mk ((by rw [hg];exact (wZ (by repeat (first|(with_reducible first|exact HB.out|apply wA|apply wN|apply wD)|exact HB.out))) : w.heap.size ≤ gb112));clear HB;have HB:=n0_;have BK112:=n1_;have GW112:=n2_;have GE112:=n3_;clear n0_ n1_ n2_ n3_;clear hb hbox hg;have hcz15_0 : w14.cell? ⟨gb112,0,none⟩ = some (.int .i64 0):=(bC BK112.out 0).trans rfl;have hcz15_1 : w14.cell? ⟨gb112,1,none⟩ = some (.int .i64 0):=(bC BK112.out 1).trans rfl;have hcz15_2 : w14.cell? ⟨gb112,2,none⟩ = some (.int .i64 0):=(bC BK112.out 2).trans rfl;have hcz15_3 : w14.cell? ⟨gb112,3,none⟩ = some (.int .i64 0):=(bC BK112.out 3).trans rfl;have hfz15_0:=bF BK112.out 0;have hfz15_1:=bF BK112.out 1;have hfz15_2:=bF BK112.out 2;have hfz15_3:=bF BK112.out 3))
          refine bodyPost_ret (results_ct rfl _ _ gb112 42 #[.int .i64 0,.int .i64 0,.int .i64 0,.int .i64 0] (0,0) _ rfl (by (with_reducible repeat (first|refine bN ?_ _|refine bD ?_|refine bA ?_ _));refine bP (cs:=#[.int .i64 0,.int .i64 0,.int .i64 0,.int .i64 0]) ?_ 3 _ rfl;(with_reducible repeat (first|refine bN ?_ _|refine bD ?_|refine bA ?_ _));refine bP (cs:=#[.int .i64 0,.int .i64 0,.int .i64 0,.int .i64 0]) ?_ 2 _ rfl;(with_reducible repeat (first|refine bN ?_ _|refine bD ?_|refine bA ?_ _));refine bP (cs:=#[.int .i64 0,.int .i64 0,.int .i64 0,.int .i64 0]) ?_ 1 _ rfl;(with_reducible repeat (first|refine bN ?_ _|refine bD ?_|refine bA ?_ _));refine bP (cs:=#[.int .i64 0,.int .i64 0,.int .i64 0,.int .i64 0]) ?_ 0 _ rfl;(with_reducible repeat (first|refine bN ?_ _|refine bD ?_|refine bA ?_ _));exact BK112.out) Tryd.underlying42 rfl (by kernel_rfl)) rfl ?_
          exact ⟨by first|rfl|(simp [errW_none,errW_some] <;> rfl)|(simp [*,errW_none,errW_some] <;> rfl)|(simp [wrap64];done),by repeat (first|(with_reducible first|exact HB.out|apply wA|apply wN|apply wD|refine wS ?_ GE112.out)|exact HB.out)⟩

/-! ### vernierref04_Check: function 12 -/
def vernierref04_Check.f (a0 : Int) (a1 : Int) : Option (Int):=(vernierref04_Row.f a0).bind fun bt113 => (if bt113.2.2.2.2 = true then (if bt113.1 < 64 then (if 0 ≤ (IntKind.u64.wrap (bt113.1)) then (if (shr .u64 a1 (IntKind.u64.wrap (bt113.1))) = 0 then (some 0) else (some 4)) else (none)) else (some 0)) else (some 2))
set_option maxHeartbeats 8000000 in
set_option maxRecDepth 100000 in
theorem vernierref04_Check.calls (a0 : Int) (a1 : Int) (r : Int) (w : World) (h : vernierref04_Check.f a0 a1 = some r) :
    Calls Tryd.prog 12 #[.int .i64 a0,.int .u64 a1] w fun e w' => e = .returned (.int .i64 r)∧Below w.heap.size w w':=by
  have hu42:=Tryd.underlying42
  have HB:=A0.mk (Below.refl w.heap.size w)
  have H : ((vernierref04_Row.f a0).bind fun bt113 => (if bt113.2.2.2.2 = true then (if bt113.1 < 64 then (if 0 ≤ (IntKind.u64.wrap (bt113.1)) then (if (shr .u64 a1 (IntKind.u64.wrap (bt113.1))) = 0 then (some 0) else (some 4)) else (none)) else (some 0)) else (some 2))) = some r:=h
  clear h;replace H:=Option.bind_eq_some_iff.mp H;obtain ⟨⟨t113,t114,t115,t116,t117⟩,A30,H⟩:=H
  replace H : (if t117 = true then (if t113 < 64 then (if 0 ≤ (IntKind.u64.wrap (t113)) then (if (shr .u64 a1 (IntKind.u64.wrap (t113))) = 0 then (some 0) else (some 4)) else (none)) else (some 0)) else (some 2)) = some r:=H
  have A3:=A0.mk A30;clear A30
  by_cases c4 : t117 = true
  · subst c4
    have H1 : (if t113 < 64 then (if 0 ≤ (IntKind.u64.wrap (t113)) then (if (shr .u64 a1 (IntKind.u64.wrap (t113))) = 0 then (some 0) else (some 4)) else (none)) else (some 0)) = some r:=by rw [if_pos rfl] at H;exact H
    clear H;have H:=H1;clear H1
    by_cases c5 : t113 < 64
    · rw [if_pos c5] at H
      have c5b0 : decide (t113 < 64) = true:=decide_eq_true c5
      clear c5
      obtain ⟨ji6,hji6⟩ : ∃ j_ : Int,(IntKind.u64.wrap (t113)) = j_:=⟨_,rfl⟩
      replace H : (if 0 ≤ (ji6) then (if (shr .u64 a1 (ji6)) = 0 then (some 0) else (some 4)) else (none)) = some r:=by first|(rw [hji6] at H;exact H)|(simp only [hji6] at H ⊢;exact H)
      (try rw [hji6] at A3)
      by_cases c7 : 0 ≤ (ji6)
      · rw [if_pos c7] at H
        have c7b0:=eq_true c7
        have c7b1 : decide (0 ≤ (ji6)) = true:=decide_eq_true c7
        clear c7
        obtain ⟨ji8,hji8⟩ : ∃ j_ : Int,(shr .u64 a1 (ji6)) = j_:=⟨_,rfl⟩
        replace H : (if (ji8) = 0 then (some 0) else (some 4)) = some r:=by first|(rw [hji8] at H;exact H)|(simp only [hji8] at H ⊢;exact H)
        (try rw [hji8] at A3)
        have hji8_ : (a1 / 2 ^ min (ji6).toNat 64) = ji8:=hji8
        have hji8z : (ji6) ≤ 64→(a1 / 2 ^ (ji6).toNat) = ji8:=shr_small hji8
        by_cases c9 : (ji8) = 0
        · rw [if_pos c9] at H
          have c9b0 : ((ji8) == 0) = true:=beq_iff_eq.mpr c9
          have c9b1 : ((ji8) != 0) = false:=bne_eq_false_iff_eq.mpr c9
          clear c9;obtain rfl:=Option.some.inj H
          go_enter Tryd.func12,Tryd.ntmps12
          go_wp2_with (first|((with_reducible refine gC (f:=21) rfl ?_);refine goesL_ (some 9) rfl rfl Tryd.func21 (by kernel_rfl) rfl #[.int .i64 a0] rfl (by (try simp only [mT,mC,mN]);first|done|rfl|(simp only [lD,lK];rfl)) ?_;(with_reducible refine (vernierref04_Row.calls a0 t113 t114 t115 t116 true _ A3.out).mono ?_);rintro e w10 ⟨rfl,hb⟩;refine ⟨_,rfl,?_⟩;have n0_:=A0.mk (wT (by repeat (first|(with_reducible first|exact HB.out|apply wA|apply wN|apply wD)|exact HB.out)) hb);clear HB;have HB:=n0_;clear n0_;(try clear hb);(try clear hb2);(try clear hk);(try clear hi))|((with_reducible refine gD (N:=5) rfl ?_);refine bE ?hg (N:=5) ?hd (cs:=#[.int .i64 0,.int .i64 0,.int .i64 0,.int .i64 0]) (t:=42) ?hr ?_;(case hd => rfl);(case hg => rfl);(case hr => first|(go_simp;done)|(go_simp;rfl));intro gb118 hg w11 hbox hb;have n0_:=A0.mk (wT (by repeat (first|(with_reducible first|exact HB.out|apply wA|apply wN|apply wD)|exact HB.out)) hb);have n1_:=A0.mk (hbox);have n2_:=A0.mk ((by rw [hg];exact (wZ (by repeat (first|(with_reducible first|exact HB.out|apply wA|apply wN|apply wD)|exact HB.out))) : w.heap.size ≤ gb118));have n3_:=A0.mk ((by rw [hg];exact (wZ (by repeat (first|(with_reducible first|exact HB.out|apply wA|apply wN|apply wD)|exact HB.out))) : w.heap.size ≤ gb118));clear HB;have HB:=n0_;have BK118:=n1_;have GW118:=n2_;have GE118:=n3_;clear n0_ n1_ n2_ n3_;clear hb hbox hg;have hcz12_0 : w11.cell? ⟨gb118,0,none⟩ = some (.int .i64 0):=(bC BK118.out 0).trans rfl;have hcz12_1 : w11.cell? ⟨gb118,1,none⟩ = some (.int .i64 0):=(bC BK118.out 1).trans rfl;have hcz12_2 : w11.cell? ⟨gb118,2,none⟩ = some (.int .i64 0):=(bC BK118.out 2).trans rfl;have hcz12_3 : w11.cell? ⟨gb118,3,none⟩ = some (.int .i64 0):=(bC BK118.out 3).trans rfl;have hfz12_0:=bF BK118.out 0;have hfz12_1:=bF BK118.out 1;have hfz12_2:=bF BK118.out 2;have hfz12_3:=bF BK118.out 3))
          go_ret
          exact ⟨by first|rfl|(simp [errW_none,errW_some] <;> rfl)|(simp only [← hji6,← hji8];first|rfl|(simp [errW_none,errW_some] <;> rfl))|(simp [*,errW_none,errW_some] <;> rfl),by repeat (first|(with_reducible first|exact HB.out|apply wA|apply wN|apply wD|refine wS ?_ GE118.out)|exact HB.out)⟩
        · rw [if_neg c9] at H
          have c9b0 : ((ji8) == 0) = false:=beq_eq_false_iff_ne.mpr c9
          have c9b1 : ((ji8) != 0) = true:=bne_iff_ne.mpr c9
          obtain rfl:=Option.some.inj H
          go_enter Tryd.func12,Tryd.ntmps12
          go_wp2_with (first|((with_reducible refine gC (f:=21) rfl ?_);refine goesL_ (some 9) rfl rfl Tryd.func21 (by kernel_rfl) rfl #[.int .i64 a0] rfl (by (try simp only [mT,mC,mN]);first|done|rfl|(simp only [lD,lK];rfl)) ?_;(with_reducible refine (vernierref04_Row.calls a0 t113 t114 t115 t116 true _ A3.out).mono ?_);rintro e w13 ⟨rfl,hb⟩;refine ⟨_,rfl,?_⟩;have n0_:=A0.mk (wT (by repeat (first|(with_reducible first|exact HB.out|apply wA|apply wN|apply wD)|exact HB.out)) hb);clear HB;have HB:=n0_;clear n0_;(try clear hb);(try clear hb2);(try clear hk);(try clear hi))|((with_reducible refine gD (N:=5) rfl ?_);refine bE ?hg (N:=5) ?hd (cs:=#[.int .i64 0,.int .i64 0,.int .i64 0,.int .i64 0]) (t:=42) ?hr ?_;(case hd => rfl);(case hg => rfl);(case hr => first|(go_simp;done)|(go_simp;rfl));intro gb118 hg w14 hbox hb;have n0_:=A0.mk (wT (by repeat (first|(with_reducible first|exact HB.out|apply wA|apply wN|apply wD)|exact HB.out)) hb);have n1_:=A0.mk (hbox);have n2_:=A0.mk ((by rw [hg];exact (wZ (by repeat (first|(with_reducible first|exact HB.out|apply wA|apply wN|apply wD)|exact HB.out))) : w.heap.size ≤ gb118));have n3_:=A0.mk ((by rw [hg];exact (wZ (by repeat (first|(with_reducible first|exact HB.out|apply wA|apply wN|apply wD)|exact HB.out))) : w.heap.size ≤ gb118));clear HB;have HB:=n0_;have BK118:=n1_;have GW118:=n2_;have GE118:=n3_;clear n0_ n1_ n2_ n3_;clear hb hbox hg;have hcz15_0 : w14.cell? ⟨gb118,0,none⟩ = some (.int .i64 0):=(bC BK118.out 0).trans rfl;have hcz15_1 : w14.cell? ⟨gb118,1,none⟩ = some (.int .i64 0):=(bC BK118.out 1).trans rfl;have hcz15_2 : w14.cell? ⟨gb118,2,none⟩ = some (.int .i64 0):=(bC BK118.out 2).trans rfl;have hcz15_3 : w14.cell? ⟨gb118,3,none⟩ = some (.int .i64 0):=(bC BK118.out 3).trans rfl;have hfz15_0:=bF BK118.out 0;have hfz15_1:=bF BK118.out 1;have hfz15_2:=bF BK118.out 2;have hfz15_3:=bF BK118.out 3))
          go_ret
          exact ⟨by first|rfl|(simp [errW_none,errW_some] <;> rfl)|(simp only [← hji6,← hji8];first|rfl|(simp [errW_none,errW_some] <;> rfl))|(simp [*,errW_none,errW_some] <;> rfl),by repeat (first|(with_reducible first|exact HB.out|apply wA|apply wN|apply wD|refine wS ?_ GE118.out)|exact HB.out)⟩
      · rw [if_neg c7] at H
        exact absurd H (by simp)
    · rw [if_neg c5] at H
      have c5b0 : decide (t113 < 64) = false:=decide_eq_false c5
      clear c5;obtain rfl:=Option.some.inj H
      go_enter Tryd.func12,Tryd.ntmps12
      go_wp2_with (first|((with_reducible refine gC (f:=21) rfl ?_);refine goesL_ (some 9) rfl rfl Tryd.func21 (by kernel_rfl) rfl #[.int .i64 a0] rfl (by (try simp only [mT,mC,mN]);first|done|rfl|(simp only [lD,lK];rfl)) ?_;(with_reducible refine (vernierref04_Row.calls a0 t113 t114 t115 t116 true _ A3.out).mono ?_);rintro e w16 ⟨rfl,hb⟩;refine ⟨_,rfl,?_⟩;have n0_:=A0.mk (wT (by repeat (first|(with_reducible first|exact HB.out|apply wA|apply wN|apply wD)|exact HB.out)) hb);clear HB;have HB:=n0_;clear n0_;(try clear hb);(try clear hb2);(try clear hk);(try clear hi))|((with_reducible refine gD (N:=5) rfl ?_);refine bE ?hg (N:=5) ?hd (cs:=#[.int .i64 0,.int .i64 0,.int .i64 0,.int .i64 0]) (t:=42) ?hr ?_;(case hd => rfl);(case hg => rfl);(case hr => first|(go_simp;done)|(go_simp;rfl));intro gb118 hg w17 hbox hb;have n0_:=A0.mk (wT (by repeat (first|(with_reducible first|exact HB.out|apply wA|apply wN|apply wD)|exact HB.out)) hb);have n1_:=A0.mk (hbox);have n2_:=A0.mk ((by rw [hg];exact (wZ (by repeat (first|(with_reducible first|exact HB.out|apply wA|apply wN|apply wD)|exact HB.out))) : w.heap.size ≤ gb118));have n3_:=A0.mk ((by rw [hg];exact (wZ (by repeat (first|(with_reducible first|exact HB.out|apply wA|apply wN|apply wD)|exact HB.out))) : w.heap.size ≤ gb118));clear HB;have HB:=n0_;have BK118:=n1_;have GW118:=n2_;have GE118:=n3_;clear n0_ n1_ n2_ n3_;clear hb hbox hg;have hcz18_0 : w17.cell? ⟨gb118,0,none⟩ = some (.int .i64 0):=(bC BK118.out 0).trans rfl;have hcz18_1 : w17.cell? ⟨gb118,1,none⟩ = some (.int .i64 0):=(bC BK118.out 1).trans rfl;have hcz18_2 : w17.cell? ⟨gb118,2,none⟩ = some (.int .i64 0):=(bC BK118.out 2).trans rfl;have hcz18_3 : w17.cell? ⟨gb118,3,none⟩ = some (.int .i64 0):=(bC BK118.out 3).trans rfl;have hfz18_0:=bF BK118.out 0;have hfz18_1:=bF BK118.out 1;have hfz18_2:=bF BK118.out 2;have hfz18_3:=bF BK118.out 3))
      go_ret
      exact ⟨by first|rfl|(simp [errW_none,errW_some] <;> rfl)|(simp [*,errW_none,errW_some] <;> rfl)|(simp [wrap64];done),by repeat (first|(with_reducible first|exact HB.out|apply wA|apply wN|apply wD|refine wS ?_ GE118.out)|exact HB.out)⟩
  · replace c4:=Bool.eq_false_iff.mpr c4
    subst c4
    have H1 : (some 2) = some r:=by rw [if_neg (show ¬ (false = true) by decide)] at H;exact H
    clear H;have H:=H1;clear H1;obtain rfl:=Option.some.inj H
    go_enter Tryd.func12,Tryd.ntmps12
    go_wp2_with (first|((with_reducible refine gC (f:=21) rfl ?_);refine goesL_ (some 9) rfl rfl Tryd.func21 (by kernel_rfl) rfl #[.int .i64 a0] rfl (by (try simp only [mT,mC,mN]);first|done|rfl|(simp only [lD,lK];rfl)) ?_;(with_reducible refine (vernierref04_Row.calls a0 t113 t114 t115 t116 false _ A3.out).mono ?_);rintro e w19 ⟨rfl,hb⟩;refine ⟨_,rfl,?_⟩;have n0_:=A0.mk (wT (by repeat (first|(with_reducible first|exact HB.out|apply wA|apply wN|apply wD)|exact HB.out)) hb);clear HB;have HB:=n0_;clear n0_;(try clear hb);(try clear hb2);(try clear hk);(try clear hi))|((with_reducible refine gD (N:=5) rfl ?_);refine bE ?hg (N:=5) ?hd (cs:=#[.int .i64 0,.int .i64 0,.int .i64 0,.int .i64 0]) (t:=42) ?hr ?_;(case hd => rfl);(case hg => rfl);(case hr => first|(go_simp;done)|(go_simp;rfl));intro gb118 hg w20 hbox hb;have n0_:=A0.mk (wT (by repeat (first|(with_reducible first|exact HB.out|apply wA|apply wN|apply wD)|exact HB.out)) hb);have n1_:=A0.mk (hbox);have n2_:=A0.mk ((by rw [hg];exact (wZ (by repeat (first|(with_reducible first|exact HB.out|apply wA|apply wN|apply wD)|exact HB.out))) : w.heap.size ≤ gb118));have n3_:=A0.mk ((by rw [hg];exact (wZ (by repeat (first|(with_reducible first|exact HB.out|apply wA|apply wN|apply wD)|exact HB.out))) : w.heap.size ≤ gb118));clear HB;have HB:=n0_;have BK118:=n1_;have GW118:=n2_;have GE118:=n3_;clear n0_ n1_ n2_ n3_;clear hb hbox hg;have hcz21_0 : w20.cell? ⟨gb118,0,none⟩ = some (.int .i64 0):=(bC BK118.out 0).trans rfl;have hcz21_1 : w20.cell? ⟨gb118,1,none⟩ = some (.int .i64 0):=(bC BK118.out 1).trans rfl;have hcz21_2 : w20.cell? ⟨gb118,2,none⟩ = some (.int .i64 0):=(bC BK118.out 2).trans rfl;have hcz21_3 : w20.cell? ⟨gb118,3,none⟩ = some (.int .i64 0):=(bC BK118.out 3).trans rfl;have hfz21_0:=bF BK118.out 0;have hfz21_1:=bF BK118.out 1;have hfz21_2:=bF BK118.out 2;have hfz21_3:=bF BK118.out 3))
    go_ret
    exact ⟨by first|rfl|(simp [errW_none,errW_some] <;> rfl)|(simp [*,errW_none,errW_some] <;> rfl)|(simp [wrap64];done),by repeat (first|(with_reducible first|exact HB.out|apply wA|apply wN|apply wD|refine wS ?_ GE118.out)|exact HB.out)⟩

/-! ### format_ones: function 47 -/
def format_ones.f (a0 : Int) : Option (Int):=if 0 ≤ a0 then (some (IntKind.u64.wrap ((shl .u64 1 a0) - 1))) else (none)
set_option maxHeartbeats 8000000 in
set_option maxRecDepth 100000 in
theorem format_ones.calls (a0 : Int) (r : Int) (w : World) (h : format_ones.f a0 = some r) :
    Calls Tryd.prog 47 #[.int .i64 a0] w fun e w' => e = .returned (.int .u64 r)∧Drawn0 w w':=by
  have H : (if 0 ≤ a0 then (some (IntKind.u64.wrap ((shl .u64 1 a0) - 1))) else (none)) = some r:=h
  clear h
  by_cases c2 : 0 ≤ a0
  · rw [if_pos c2] at H
    have c2b0:=eq_true c2
    have c2b1 : decide (0 ≤ a0) = true:=decide_eq_true c2
    clear c2
    obtain ⟨ji3,hji3⟩ : ∃ j_ : Int,(shl .u64 1 a0) = j_:=⟨_,rfl⟩
    replace H : (some (IntKind.u64.wrap ((ji3) - 1))) = some r:=by first|(rw [hji3] at H;exact H)|(simp only [hji3] at H ⊢;exact H)
    have hji3_ : (IntKind.u64.wrap (1 * 2 ^ min a0.toNat 64)) = ji3:=hji3
    have hji3z : a0 ≤ 64→(IntKind.u64.wrap (1 * 2 ^ a0.toNat)) = ji3:=shl_small hji3
    have hji3u : (IntKind.u64.wrap (2 ^ min a0.toNat 64)) = ji3:=by have h_:=hji3_;rw [Int.one_mul] at h_;exact h_
    have hji3v : a0 ≤ 64→(IntKind.u64.wrap (2 ^ a0.toNat)) = ji3:=fun hle_ => by have h_:=hji3z hle_;rw [Int.one_mul] at h_;exact h_
    obtain rfl:=Option.some.inj H
    go_enter Tryd.func47,Tryd.ntmps47
    go_wp2
    go_ret
    exact ⟨by first|rfl|(simp;done)|(simp only [← hji3] <;> (first|rfl|simp))|(simp [*];done),by repeat (first|exact Drawn0.refl _|apply Drawn0.step)⟩
  · rw [if_neg c2] at H
    exact absurd H (by simp)

/-! ### format_split: function 46 -/
def format_split.f (a0_0 : Int) (a0_1 : Int) (a0_2 : Int) (a0_3 : Int) (a1 : Int) : Option (Bool × Int × Int):=if 0 ≤ (wrap64 (a0_0 - 1)) then (if 0 ≤ (wrap64 (a0_1 - 1)) then ((format_ones.f (wrap64 (a0_0 - a0_1))).bind fun t120 => ((format_ones.f (wrap64 (a0_1 - 1))).bind fun t121 => (some (((shr .u64 a1 (wrap64 (a0_0 - 1))) != 0),Go.bits .and .u64 (shr .u64 a1 (wrap64 (a0_1 - 1))) t120,Go.bits .and .u64 a1 t121)))) else (none)) else (none)
set_option maxHeartbeats 8000000 in
set_option maxRecDepth 100000 in
theorem format_split.calls (a0_0 : Int) (a0_1 : Int) (a0_2 : Int) (a0_3 : Int) (a1 : Int) (r1 : Bool) (r2 : Int) (r3 : Int) (w : World) (h : format_split.f a0_0 a0_1 a0_2 a0_3 a1 = some (r1,r2,r3)) :
    Calls Tryd.prog 46 #[.agg #[.int .i64 a0_0,.int .i64 a0_1,.int .i64 a0_2,.int .i64 a0_3],.int .u64 a1] w fun e w' => e = .returned (.tuple #[.bool r1,.int .u64 r2,.int .u64 r3])∧Below w.heap.size w w':=by
  have hu39:=Tryd.underlying39
  have HB:=A0.mk (Below.refl w.heap.size w)
  have H : (if 0 ≤ (wrap64 (a0_0 - 1)) then (if 0 ≤ (wrap64 (a0_1 - 1)) then ((format_ones.f (wrap64 (a0_0 - a0_1))).bind fun t120 => ((format_ones.f (wrap64 (a0_1 - 1))).bind fun t121 => (some (((shr .u64 a1 (wrap64 (a0_0 - 1))) != 0),Go.bits .and .u64 (shr .u64 a1 (wrap64 (a0_1 - 1))) t120,Go.bits .and .u64 a1 t121)))) else (none)) else (none)) = some (r1,r2,r3):=h
  clear h
  obtain ⟨ji3,hji3⟩ : ∃ j_ : Int,(wrap64 (a0_0 - 1)) = j_:=⟨_,rfl⟩
  replace H : (if 0 ≤ (ji3) then (if 0 ≤ (wrap64 (a0_1 - 1)) then ((format_ones.f (wrap64 (a0_0 - a0_1))).bind fun t120 => ((format_ones.f (wrap64 (a0_1 - 1))).bind fun t121 => (some (((shr .u64 a1 (ji3)) != 0),Go.bits .and .u64 (shr .u64 a1 (wrap64 (a0_1 - 1))) t120,Go.bits .and .u64 a1 t121)))) else (none)) else (none)) = some (r1,r2,r3):=by first|(rw [hji3] at H;exact H)|(simp only [hji3] at H ⊢;exact H)
  have hji3w : (IntKind.i64.wrap (a0_0 - 1)) = ji3:=(i64_w _).trans hji3
  by_cases c4 : 0 ≤ (ji3)
  · rw [if_pos c4] at H
    have c4b0:=eq_true c4
    have c4b1 : decide (0 ≤ (ji3)) = true:=decide_eq_true c4
    clear c4
    obtain ⟨ji5,hji5⟩ : ∃ j_ : Int,(shr .u64 a1 (ji3)) = j_:=⟨_,rfl⟩
    replace H : (if 0 ≤ (wrap64 (a0_1 - 1)) then ((format_ones.f (wrap64 (a0_0 - a0_1))).bind fun t120 => ((format_ones.f (wrap64 (a0_1 - 1))).bind fun t121 => (some (((ji5) != 0),Go.bits .and .u64 (shr .u64 a1 (wrap64 (a0_1 - 1))) t120,Go.bits .and .u64 a1 t121)))) else (none)) = some (r1,r2,r3):=by first|(rw [hji5] at H;exact H)|(simp only [hji5] at H ⊢;exact H)
    have hji5_ : (a1 / 2 ^ min (ji3).toNat 64) = ji5:=hji5
    have hji5z : (ji3) ≤ 64→(a1 / 2 ^ (ji3).toNat) = ji5:=shr_small hji5
    obtain ⟨ji6,hji6⟩ : ∃ j_ : Int,(wrap64 (a0_1 - 1)) = j_:=⟨_,rfl⟩
    replace H : (if 0 ≤ (ji6) then ((format_ones.f (wrap64 (a0_0 - a0_1))).bind fun t120 => ((format_ones.f (ji6)).bind fun t121 => (some (((ji5) != 0),Go.bits .and .u64 (shr .u64 a1 (ji6)) t120,Go.bits .and .u64 a1 t121)))) else (none)) = some (r1,r2,r3):=by first|(rw [hji6] at H;exact H)|(simp only [hji6] at H ⊢;exact H)
    have hji6w : (IntKind.i64.wrap (a0_1 - 1)) = ji6:=(i64_w _).trans hji6
    by_cases c7 : 0 ≤ (ji6)
    · rw [if_pos c7] at H
      have c7b0:=eq_true c7
      have c7b1 : decide (0 ≤ (ji6)) = true:=decide_eq_true c7
      clear c7
      obtain ⟨ji8,hji8⟩ : ∃ j_ : Int,(shr .u64 a1 (ji6)) = j_:=⟨_,rfl⟩
      replace H : ((format_ones.f (wrap64 (a0_0 - a0_1))).bind fun t120 => ((format_ones.f (ji6)).bind fun t121 => (some (((ji5) != 0),Go.bits .and .u64 (ji8) t120,Go.bits .and .u64 a1 t121)))) = some (r1,r2,r3):=by first|(rw [hji8] at H;exact H)|(simp only [hji8] at H ⊢;exact H)
      have hji8_ : (a1 / 2 ^ min (ji6).toNat 64) = ji8:=hji8
      have hji8z : (ji6) ≤ 64→(a1 / 2 ^ (ji6).toNat) = ji8:=shr_small hji8
      replace H:=Option.bind_eq_some_iff.mp H;obtain ⟨t120,A90,H⟩:=H
      replace H : ((format_ones.f (ji6)).bind fun t121 => (some (((ji5) != 0),Go.bits .and .u64 (ji8) t120,Go.bits .and .u64 a1 t121))) = some (r1,r2,r3):=H
      have A9:=A0.mk A90;clear A90;replace H:=Option.bind_eq_some_iff.mp H;obtain ⟨t121,A100,H⟩:=H
      replace H : (some (((ji5) != 0),Go.bits .and .u64 (ji8) t120,Go.bits .and .u64 a1 t121)) = some (r1,r2,r3):=H
      have A10:=A0.mk A100;clear A100
      simp only [Option.some.injEq,Prod.mk.injEq] at H
      obtain ⟨rfl,rfl,rfl⟩:=H
      go_enter Tryd.func46,Tryd.ntmps46
      go_wp2_with (first|((with_reducible refine gD (N:=2) rfl ?_);refine bE ?hg (N:=2) ?hd (cs:=#[.int .i64 a0_0,.int .i64 a0_1,.int .i64 a0_2,.int .i64 a0_3]) (t:=39) ?hr ?_;(case hd => rfl);(case hg => rfl);(case hr => first|(go_simp;done)|(go_simp;rfl));intro gb119 hg w11 hbox hb;have n0_:=A0.mk (wT (by repeat (first|(with_reducible first|exact HB.out|apply wA|apply wN|apply wD)|exact HB.out)) hb);have n1_:=A0.mk (hbox);have n2_:=A0.mk ((by rw [hg];exact (wZ (by repeat (first|(with_reducible first|exact HB.out|apply wA|apply wN|apply wD)|exact HB.out))) : w.heap.size ≤ gb119));have n3_:=A0.mk ((by rw [hg];exact (wZ (by repeat (first|(with_reducible first|exact HB.out|apply wA|apply wN|apply wD)|exact HB.out))) : w.heap.size ≤ gb119));clear HB;have HB:=n0_;have BK119:=n1_;have GW119:=n2_;have GE119:=n3_;clear n0_ n1_ n2_ n3_;clear hb hbox hg;have hcz12_0 : w11.cell? ⟨gb119,0,none⟩ = some (.int .i64 a0_0):=(bC BK119.out 0).trans rfl;have hcz12_1 : w11.cell? ⟨gb119,1,none⟩ = some (.int .i64 a0_1):=(bC BK119.out 1).trans rfl;have hcz12_2 : w11.cell? ⟨gb119,2,none⟩ = some (.int .i64 a0_2):=(bC BK119.out 2).trans rfl;have hcz12_3 : w11.cell? ⟨gb119,3,none⟩ = some (.int .i64 a0_3):=(bC BK119.out 3).trans rfl;have hfz12_0:=bF BK119.out 0;have hfz12_1:=bF BK119.out 1;have hfz12_2:=bF BK119.out 2;have hfz12_3:=bF BK119.out 3)|(go_at_call 47;(with_reducible refine (format_ones.calls (wrap64 (a0_0 - a0_1)) t120 _ A9.out).mono ?_);rintro e w' ⟨rfl,⟨nd,rfl⟩⟩;(try first|exact ⟨rfl,_,World.drewN_drewN _ _ _⟩|exact ⟨rfl,_,Eq.trans (World.drewN_drewN _ _ _) (congrArg (World.drewN _) (Nat.add_assoc _ _ _))⟩))|(go_at_call 47;(with_reducible refine (format_ones.calls ji6 t121 _ A10.out).mono ?_);rintro e w' ⟨rfl,⟨nd,rfl⟩⟩;(try first|exact ⟨rfl,_,World.drewN_drewN _ _ _⟩|exact ⟨rfl,_,Eq.trans (World.drewN_drewN _ _ _) (congrArg (World.drewN _) (Nat.add_assoc _ _ _))⟩)))
      repeat (go_quiet (first|((with_reducible refine gD (N:=2) rfl ?_);refine bE ?hg (N:=2) ?hd (cs:=#[.int .i64 a0_0,.int .i64 a0_1,.int .i64 a0_2,.int .i64 a0_3]) (t:=39) ?hr ?_;(case hd => rfl);(case hg => rfl);(case hr => first|(go_simp;done)|(go_simp;rfl));intro gb119 hg w11 hbox hb;have n0_:=A0.mk (wT (by repeat (first|(with_reducible first|exact HB.out|apply wA|apply wN|apply wD)|exact HB.out)) hb);have n1_:=A0.mk (hbox);have n2_:=A0.mk ((by rw [hg];exact (wZ (by repeat (first|(with_reducible first|exact HB.out|apply wA|apply wN|apply wD)|exact HB.out))) : w.heap.size ≤ gb119));have n3_:=A0.mk ((by rw [hg];exact (wZ (by repeat (first|(with_reducible first|exact HB.out|apply wA|apply wN|apply wD)|exact HB.out))) : w.heap.size ≤ gb119));clear HB;have HB:=n0_;have BK119:=n1_;have GW119:=n2_;have GE119:=n3_;clear n0_ n1_ n2_ n3_;clear hb hbox hg;have hcz12_0 : w11.cell? ⟨gb119,0,none⟩ = some (.int .i64 a0_0):=(bC BK119.out 0).trans rfl;have hcz12_1 : w11.cell? ⟨gb119,1,none⟩ = some (.int .i64 a0_1):=(bC BK119.out 1).trans rfl;have hcz12_2 : w11.cell? ⟨gb119,2,none⟩ = some (.int .i64 a0_2):=(bC BK119.out 2).trans rfl;have hcz12_3 : w11.cell? ⟨gb119,3,none⟩ = some (.int .i64 a0_3):=(bC BK119.out 3).trans rfl;have hfz12_0:=bF BK119.out 0;have hfz12_1:=bF BK119.out 1;have hfz12_2:=bF BK119.out 2;have hfz12_3:=bF BK119.out 3)|(go_at_call 47;(with_reducible refine (format_ones.calls (wrap64 (a0_0 - a0_1)) t120 _ A9.out).mono ?_);rintro e w' ⟨rfl,⟨nd,rfl⟩⟩;(try first|exact ⟨rfl,_,World.drewN_drewN _ _ _⟩|exact ⟨rfl,_,Eq.trans (World.drewN_drewN _ _ _) (congrArg (World.drewN _) (Nat.add_assoc _ _ _))⟩))|(go_at_call 47;(with_reducible refine (format_ones.calls ji6 t121 _ A10.out).mono ?_);rintro e w' ⟨rfl,⟨nd,rfl⟩⟩;(try first|exact ⟨rfl,_,World.drewN_drewN _ _ _⟩|exact ⟨rfl,_,Eq.trans (World.drewN_drewN _ _ _) (congrArg (World.drewN _) (Nat.add_assoc _ _ _))⟩)));try go_wp2_with (first|((with_reducible refine gD (N:=2) rfl ?_);refine bE ?hg (N:=2) ?hd (cs:=#[.int .i64 a0_0,.int .i64 a0_1,.int .i64 a0_2,.int .i64 a0_3]) (t:=39) ?hr ?_;(case hd => rfl);(case hg => rfl);(case hr => first|(go_simp;done)|(go_simp;rfl));intro gb119 hg w11 hbox hb;have n0_:=A0.mk (wT (by repeat (first|(with_reducible first|exact HB.out|apply wA|apply wN|apply wD)|exact HB.out)) hb);have n1_:=A0.mk (hbox);have n2_:=A0.mk ((by rw [hg];exact (wZ (by repeat (first|(with_reducible first|exact HB.out|apply wA|apply wN|apply wD)|exact HB.out))) : w.heap.size ≤ gb119));have n3_:=A0.mk ((by rw [hg];exact (wZ (by repeat (first|(with_reducible first|exact HB.out|apply wA|apply wN|apply wD)|exact HB.out))) : w.heap.size ≤ gb119));clear HB;have HB:=n0_;have BK119:=n1_;have GW119:=n2_;have GE119:=n3_;clear n0_ n1_ n2_ n3_;clear hb hbox hg;have hcz12_0 : w11.cell? ⟨gb119,0,none⟩ = some (.int .i64 a0_0):=(bC BK119.out 0).trans rfl;have hcz12_1 : w11.cell? ⟨gb119,1,none⟩ = some (.int .i64 a0_1):=(bC BK119.out 1).trans rfl;have hcz12_2 : w11.cell? ⟨gb119,2,none⟩ = some (.int .i64 a0_2):=(bC BK119.out 2).trans rfl;have hcz12_3 : w11.cell? ⟨gb119,3,none⟩ = some (.int .i64 a0_3):=(bC BK119.out 3).trans rfl;have hfz12_0:=bF BK119.out 0;have hfz12_1:=bF BK119.out 1;have hfz12_2:=bF BK119.out 2;have hfz12_3:=bF BK119.out 3)|(go_at_call 47;(with_reducible refine (format_ones.calls (wrap64 (a0_0 - a0_1)) t120 _ A9.out).mono ?_);rintro e w' ⟨rfl,⟨nd,rfl⟩⟩;(try first|exact ⟨rfl,_,World.drewN_drewN _ _ _⟩|exact ⟨rfl,_,Eq.trans (World.drewN_drewN _ _ _) (congrArg (World.drewN _) (Nat.add_assoc _ _ _))⟩))|(go_at_call 47;(with_reducible refine (format_ones.calls ji6 t121 _ A10.out).mono ?_);rintro e w' ⟨rfl,⟨nd,rfl⟩⟩;(try first|exact ⟨rfl,_,World.drewN_drewN _ _ _⟩|exact ⟨rfl,_,Eq.trans (World.drewN_drewN _ _ _) (congrArg (World.drewN _) (Nat.add_assoc _ _ _))⟩))))
      go_ret3
      exact ⟨by first|rfl|(simp [errW_none,errW_some] <;> rfl)|(simp only [← hji3,← hji5,← hji6,← hji8];first|rfl|(simp [errW_none,errW_some] <;> rfl))|(simp [*,errW_none,errW_some] <;> rfl),by repeat (first|(with_reducible first|exact HB.out|apply wA|apply wN|apply wD|refine wS ?_ GE119.out)|exact HB.out)⟩
    · rw [if_neg c7] at H
      exact absurd H (by simp)
  · rw [if_neg c4] at H
    exact absurd H (by simp)

end Go.Proofs.YtjdmbhdlogbopaaDoor.V
