/- Contracts of the program's functions, each: where the printed function answers, the call answers the same. Written by vprint.py, this session's own program over the kit's print.py; Lean checks it. No conditions beyond those that each states. -/
import Derived.Test.YtidjigoghdghiaaVx0
import Derived.Test.YtidjigoghdghiaaVx1
import Derived.Test.YtidjigoghdghiaaVx2
namespace Go.Proofs.Ytidjigoghdghiaa.V
open Go.RowKit Go.Proofs.YtidjigoghdghiaaQ.PrintWords Go.Proofs.YtidjigoghdghiaaQ.PrintLast Go.Proofs.YtidjigoghdghiaaQ.PrintMore
open Bool renaming true → Y, false → Z
open List renaming setIfInBounds_toArray → lT, set_cons_zero → lZ, set_cons_succ → lS, map_toArray → mT, map_cons → mC, map_nil → mN, length_drop → lD, length_take → lK
open Act renaming put → aP
attribute [local go_sem] max2_int min2_int max_two min_two max_three min_three max_four min_four   -- for this text's walks alone
set_option linter.unusedVariables false
set_option linter.unusedSimpArgs false

attribute [local go_sem high] eqA24
/-! ### wide_Root: function 11 -/
def wide_Root.l0 : Nat→Int→Int→Int→Int→Option (Int × Bool)
  | 0,_,_,_,_ => none
  | k + 1,x2,x6,x107000,x107001 => if x6 < 64 then (if 0 ≤ (wrap64 (63 - x6)) then ((wide_Mul.f (Go.bits .or .u64 x2 (shl .u64 1 (wrap64 (63 - x6)))) (Go.bits .or .u64 x2 (shl .u64 1 (wrap64 (63 - x6))))).bind fun bt109 => ((wide_Cmp.f bt109.1 bt109.2 x107000 x107001).bind fun t111 => (if t111 ≤ 0 then (wide_Root.l0 k (Go.bits .or .u64 x2 (shl .u64 1 (wrap64 (63 - x6)))) (wrap64 (x6 + 1)) x107000 x107001) else (wide_Root.l0 k x2 (wrap64 (x6 + 1)) x107000 x107001)))) else (none)) else ((wide_Mul.f x2 x2).bind fun bt107 => (some (x2,(bt107.1 == x107000 && (bt107.2 == x107001)))))
def wide_Root.f (k : Nat) (a0_0 : Int) (a0_1 : Int) : Option (Int × Bool):=wide_Root.l0 k 0 0 a0_0 a0_1
theorem wide_Root.mono_l : ∀ k,(∀ y0 y1 y2 y3,LeO (wide_Root.l0 k y0 y1 y2 y3) (wide_Root.l0 (k + 1) y0 y1 y2 y3))
  | 0 => fun _ _ _ _ r h => by simp [wide_Root.l0] at h
  | k + 1 => by
    have ih0:=wide_Root.mono_l k
    · intro y0 y1 y2 y3
      unfold wide_Root.l0
      repeat' first
      | (with_reducible exact ih0 _ _ _ _)
      | (with_reducible exact LeO.refl _)
      | (with_reducible exact LeO.none _)
      | (with_reducible refine LeO.ite ?_ ?_)
      | (with_reducible refine LeO.bind ?_ (fun _ => ?_))
      | exact ih0 _ _ _ _
      | exact LeO.none _
      | refine LeO.ite ?_ ?_
      | refine LeO.bind ?_ (fun _ => ?_)
theorem wide_Root.mono : ∀ a0 a1 k,LeO (wide_Root.f k a0 a1) (wide_Root.f (k + 1) a0 a1):=by
  intro a0 a1 k
  have ih0:=wide_Root.mono_l k
  unfold wide_Root.f
  repeat' first
      | (with_reducible exact ih0 _ _ _ _)
      | (with_reducible exact LeO.refl _)
      | (with_reducible exact LeO.none _)
      | (with_reducible refine LeO.ite ?_ ?_)
      | (with_reducible refine LeO.bind ?_ (fun _ => ?_))
      | exact ih0 _ _ _ _
      | exact LeO.none _
      | refine LeO.ite ?_ ?_
      | refine LeO.bind ?_ (fun _ => ?_)
def wide_Root.T8 : Bool × List (List Nat × List Nat):=(true,[([],[]),([],[]),([],[]),([1,2],[1,2]),([],[]),([3,4],[3,4]),([0,3,0,1,2],[0,1,2]),([5,6,0,1,2,3,4,5,6],[5])])
def wide_Root.B8 : List Nat:=[0,0,0,6,0,30,15,127]
theorem wide_Root.tab8 : rtab .any (opsOf Try.f11 8) = wide_Root.T8:=by kernel_rfl
theorem wide_Root.bits8 : waitsOk wide_Root.T8.2 wide_Root.B8 = true:=by kernel_rfl
set_option maxHeartbeats 8000000 in
set_option maxRecDepth 100000 in
theorem wide_Root.calls (k : Nat) (a0_0 : Int) (a0_1 : Int) (r1 : Int) (r2 : Bool) (w : World) (h : wide_Root.f k a0_0 a0_1 = some (r1,r2)) :
    Calls Try.prog 11 #[.agg #[.int .u64 a0_0,.int .u64 a0_1]] w fun e w' => e = .returned (.tuple #[.int .u64 r1,.bool r2])∧Below w.heap.size w w':=by
  have hu24:=Try.underlying24
  have HB:=A0.mk (Below.refl w.heap.size w)
  have H : (wide_Root.l0 k 0 0 a0_0 a0_1) = some (r1,r2):=h
  clear h
  have H':=A0.mk H
  clear H
  go_enter Try.func11,Try.ntmps11
  go_wp2_with (first|((with_reducible refine gD (N:=1) rfl ?_);refine bE ?hg (N:=1) ?hd (cs:=#[.int .u64 a0_0,.int .u64 a0_1]) (t:=24) ?hr ?_;(case hd => rfl);(case hg => rfl);(case hr => first|(go_simp;done)|(go_simp;rfl));intro gb106 hg w2 hbox hb;have n0_:=A0.mk (wT (by repeat (first|(with_reducible first|exact HB.out|apply wA|apply wN|apply wD)|exact HB.out)) hb);have n1_:=A0.mk (hbox);have n2_:=A0.mk ((by rw [hg];exact (wZ (by repeat (first|(with_reducible first|exact HB.out|apply wA|apply wN|apply wD)|exact HB.out))) : w.heap.size ≤ gb106));have n3_:=A0.mk ((by rw [hg];exact (wZ (by repeat (first|(with_reducible first|exact HB.out|apply wA|apply wN|apply wD)|exact HB.out))) : w.heap.size ≤ gb106));clear HB;have HB:=n0_;have BK106:=n1_;have GW106:=n2_;have GE106:=n3_;clear n0_ n1_ n2_ n3_;clear hb hbox hg))
  go_loopg [2,6] k (fun kq v2 v6 w' => ∃ (x2_1 : Int) (x6_1 : Int),v2 = .int .u64 x2_1∧v6 = .int .i64 x6_1∧A0 (wide_Root.l0 kq x2_1 x6_1 a0_0 a0_1 = some (r1,r2))∧A0 (kq ≤ k)∧A0 (w'.heap[gb106]? = some (.cells #[.int .u64 a0_0,.int .u64 a0_1] 24 (0,0)))∧A0 (Below w.heap.size w w'))
  case atStart => exact ⟨(0),(0),(by first|rfl|(simp;done)|(simp [*];done)),(by first|rfl|(simp;done)|(simp [*];done)),H',⟨Nat.le_refl _⟩,⟨by (with_reducible repeat (first|refine bN ?_ _|refine bD ?_|refine bA ?_ _));exact BK106.out⟩,⟨by repeat (first|(with_reducible first|exact HB.out|apply wA|apply wN|apply wD|refine wS ?_ GE106.out)|exact HB.out)⟩⟩
  case round =>
    clear H'
    try clear c1
    try clear p2
    obtain ⟨x2_1,x6_1,rfl,rfl,HA,HK1,BK106,HB⟩:=hrel
    cases gk with
    | zero => exact absurd HA.out (by simp [wide_Root.l0])
    | succ k1 =>
      have H:=HA.out
      clear HA
      simp only [wide_Root.l0] at H
      by_cases c3 : x6_1 < 64
      · rw [if_pos c3] at H
        have c3b0 : decide (x6_1 < 64) = true:=decide_eq_true c3
        clear c3
        obtain ⟨ji4,hji4⟩ : ∃ j_ : Int,(wrap64 (63 - x6_1)) = j_:=⟨_,rfl⟩
        replace H : (if 0 ≤ (ji4) then ((wide_Mul.f (Go.bits .or .u64 x2_1 (shl .u64 1 (ji4))) (Go.bits .or .u64 x2_1 (shl .u64 1 (ji4)))).bind fun bt109 => ((wide_Cmp.f bt109.1 bt109.2 a0_0 a0_1).bind fun t111 => (if t111 ≤ 0 then (wide_Root.l0 k1 (Go.bits .or .u64 x2_1 (shl .u64 1 (ji4))) (wrap64 (x6_1 + 1)) a0_0 a0_1) else (wide_Root.l0 k1 x2_1 (wrap64 (x6_1 + 1)) a0_0 a0_1)))) else (none)) = some (r1,r2):=by first|(rw [hji4] at H;exact H)|(simp only [hji4] at H ⊢;exact H)
        have hji4w : (IntKind.i64.wrap (63 - x6_1)) = ji4:=(i64_w _).trans hji4
        by_cases c5 : 0 ≤ (ji4)
        · rw [if_pos c5] at H
          have c5b0:=eq_true c5
          have c5b1 : decide (0 ≤ (ji4)) = true:=decide_eq_true c5
          clear c5
          obtain ⟨ji6,hji6⟩ : ∃ j_ : Int,(shl .u64 1 (ji4)) = j_:=⟨_,rfl⟩
          replace H : ((wide_Mul.f (Go.bits .or .u64 x2_1 (ji6)) (Go.bits .or .u64 x2_1 (ji6))).bind fun bt109 => ((wide_Cmp.f bt109.1 bt109.2 a0_0 a0_1).bind fun t111 => (if t111 ≤ 0 then (wide_Root.l0 k1 (Go.bits .or .u64 x2_1 (ji6)) (wrap64 (x6_1 + 1)) a0_0 a0_1) else (wide_Root.l0 k1 x2_1 (wrap64 (x6_1 + 1)) a0_0 a0_1)))) = some (r1,r2):=by first|(rw [hji6] at H;exact H)|(simp only [hji6] at H ⊢;exact H)
          have hji6_ : (IntKind.u64.wrap (1 * 2 ^ min (ji4).toNat 64)) = ji6:=hji6
          have hji6z : (ji4) ≤ 64→(IntKind.u64.wrap (1 * 2 ^ (ji4).toNat)) = ji6:=shl_small hji6
          have hji6u : (IntKind.u64.wrap (2 ^ min (ji4).toNat 64)) = ji6:=by have h_:=hji6_;rw [Int.one_mul] at h_;exact h_
          have hji6v : (ji4) ≤ 64→(IntKind.u64.wrap (2 ^ (ji4).toNat)) = ji6:=fun hle_ => by have h_:=hji6z hle_;rw [Int.one_mul] at h_;exact h_
          replace H:=Option.bind_eq_some_iff.mp H;obtain ⟨⟨t109,t110⟩,A70,H⟩:=H
          replace H : ((wide_Cmp.f t109 t110 a0_0 a0_1).bind fun t111 => (if t111 ≤ 0 then (wide_Root.l0 k1 (Go.bits .or .u64 x2_1 (ji6)) (wrap64 (x6_1 + 1)) a0_0 a0_1) else (wide_Root.l0 k1 x2_1 (wrap64 (x6_1 + 1)) a0_0 a0_1))) = some (r1,r2):=H
          have A7:=A0.mk A70;clear A70;replace H:=Option.bind_eq_some_iff.mp H;obtain ⟨t111,A80,H⟩:=H
          replace H : (if t111 ≤ 0 then (wide_Root.l0 k1 (Go.bits .or .u64 x2_1 (ji6)) (wrap64 (x6_1 + 1)) a0_0 a0_1) else (wide_Root.l0 k1 x2_1 (wrap64 (x6_1 + 1)) a0_0 a0_1)) = some (r1,r2):=H
          have A8:=A0.mk A80;clear A80
          by_cases c9 : t111 ≤ 0
          · rw [if_pos c9] at H
            have c9b0 : decide (t111 ≤ 0) = true:=decide_eq_true c9
            clear c9
            have H':=A0.mk H
            clear H
            try go_wp2
            have n0_:=A0.mk (bD BK106.out);have n1_:=A0.mk (wD HB.out);clear BK106;clear HB;have BK106:=n0_;have HB:=n1_;clear n0_ n1_
            refine start_ (n:=6) (S:=fun w' => w'.cell? ⟨gb106,0,none⟩ = some (.int .u64 a0_0)∧w'.cell? ⟨gb106,1,none⟩ = some (.int .u64 a0_1)) (ds:=[]) #[Z,Z,Z,Z,Z,Z] (by kernel_rfl) rfl rfl ⟨(bC BK106.out 0).trans rfl,(bC BK106.out 1).trans rfl⟩ (fun hHeld => ?_)
            generalize wr.drew = w10 at BK106 HB hHeld ⊢
            refine pure_ (i:=0) (N:=some 14) (v:=?_) (a':=?_) #[Y,Z,Z,Z,Z,Z] rfl rfl (by kernel_rfl) (fun _ _ _ h => h) (Or.inl ⟨by rfl,?_⟩) ?_ ?_
            rotate_left;(intro w';go_simp;with_reducible rfl);rotate_left;(simp only [aP,lT,lZ,lS,i64_w,i32_w];rfl)
            refine pure_ (i:=1) (N:=some 15) (v:=?_) (a':=?_) #[Y,Y,Z,Z,Z,Z] rfl rfl (by kernel_rfl) (fun _ _ _ h => h) (Or.inl ⟨by rfl,?_⟩) ?_ ?_
            rotate_left;(intro w';go_simp;with_reducible rfl);rotate_left;(simp only [aP,lT,lZ,lS,i64_w,i32_w];rfl)
            refine take_ (i:=3) (N:=some 17) (v:=?_) (a':=?_) #[Y,Y,Z,Y,Z,Z] rfl rfl (by kernel_rfl) (fun _ _ _ h => h) (Or.inl ⟨by rfl,?_⟩) hHeld ?_ ?_
            rotate_left;(rintro w' ⟨s0,s1⟩;go_simp;with_reducible rfl);rotate_left;(simp only [aP,lT,lZ,lS,i64_w,i32_w];rfl)
            refine one_ (i:=2) (N:=some 16) #[Y,Y,Y,Y,Z,Z] rfl rfl (by kernel_rfl) (by decide) (fun K hK => ?_)
            refine goes_ Try.func15 (by kernel_rfl) rfl #[.int .u64 (Go.bits .or .u64 x2_1 (ji6)),.int .u64 (Go.bits .or .u64 x2_1 (ji6))] (by rfl) rfl rfl (by (try simp only [mT,mC,mN]);first|done|(simp only [hji6];rfl)|rfl|(simp only [lD,lK];rfl)) ?_
            with_reducible refine (wide_Mul.calls (Go.bits .or .u64 x2_1 (ji6)) (Go.bits .or .u64 x2_1 (ji6)) t109 t110 _ A7.out).mono ?_
            rintro e w11 ⟨rfl,hb⟩;refine ⟨_,rfl,?_⟩;have n0_:=A0.mk (bB (g:=gb106) (o:=.cells #[.int .u64 a0_0,.int .u64 a0_1] 24 (0,0)) (by (with_reducible repeat (first|refine bN ?_ _|refine bD ?_|refine bA ?_ _));exact BK106.out) hb);have n1_:=A0.mk (wT (by repeat (first|(with_reducible first|exact HB.out|apply wA|apply wN|apply wD|refine wS ?_ GE106.out)|exact HB.out)) hb);clear BK106;clear HB;have BK106:=n0_;have HB:=n1_;clear n0_ n1_;(try clear hb);(try clear hb2);(try clear hk);(try clear hi)
            refine hK.out _ _ ⟨(bC BK106.out 0).trans rfl,(bC BK106.out 1).trans rfl⟩ (fun hHeld => ?_)
            clear hK K
            refine norm_ (a':=?_) ?_ ?_
            rotate_left;(show Act.put _ (some 16) _ = _;simp only [aP,lT,lZ,lS,i64_w,i32_w];rfl)
            refine one_ (i:=4) (N:=some 18) #[Y,Y,Y,Y,Y,Z] rfl rfl (by kernel_rfl) (by decide) (fun K hK => ?_)
            refine goes_ Try.func16 (by kernel_rfl) rfl #[.agg #[.int .u64 t109,.int .u64 t110],.agg #[.int .u64 a0_0,.int .u64 a0_1]] (by rfl) rfl rfl (by (try simp only [mT,mC,mN]);first|done|rfl|(simp only [lD,lK];rfl)) ?_
            with_reducible refine (wide_Cmp.calls t109 t110 a0_0 a0_1 t111 _ A8.out).mono ?_
            rintro e w12 ⟨rfl,hb⟩;refine ⟨_,rfl,?_⟩;have n0_:=A0.mk (bB (g:=gb106) (o:=.cells #[.int .u64 a0_0,.int .u64 a0_1] 24 (0,0)) (by (with_reducible repeat (first|refine bN ?_ _|refine bD ?_|refine bA ?_ _));exact BK106.out) hb);have n1_:=A0.mk (wT (by repeat (first|(with_reducible first|exact HB.out|apply wA|apply wN|apply wD|refine wS ?_ GE106.out)|exact HB.out)) hb);clear BK106;clear HB;have BK106:=n0_;have HB:=n1_;clear n0_ n1_;(try clear hb);(try clear hb2);(try clear hk);(try clear hi)
            refine hK.out _ _ ⟨(bC BK106.out 0).trans rfl,(bC BK106.out 1).trans rfl⟩ (fun hHeld => ?_)
            clear hK K
            refine norm_ (a':=?_) ?_ ?_
            rotate_left;(show Act.put _ (some 18) _ = _;simp only [aP,lT,lZ,lS,i64_w,i32_w];rfl)
            refine pure_ (i:=5) (N:=some 19) (v:=?_) (a':=?_) #[Y,Y,Y,Y,Y,Y] rfl rfl (by kernel_rfl) (fun _ _ _ h => h) (Or.inl ⟨by rfl,?_⟩) ?_ ?_
            rotate_left;(intro w';go_simp;with_reducible rfl);rotate_left;(simp only [aP,lT,lZ,lS,i64_w,i32_w];rfl)
            refine done_ (by kernel_rfl) ?_
            try go_wp2
            go_roundg k1
            case measure => have:=HK1.out;omega
            case rel => exact ⟨(Go.bits .or .u64 x2_1 (ji6)),(wrap64 (x6_1 + 1)),(by first|rfl|(simp;done)|(simp only [← hji6] <;> (first|rfl|simp))|(simp [*];done)),(by first|rfl|(simp;done)|(simp [*];done)),H',⟨by have:=HK1.out;omega⟩,⟨by (with_reducible repeat (first|refine bN ?_ _|refine bD ?_|refine bA ?_ _));exact BK106.out⟩,⟨by repeat (first|(with_reducible first|exact HB.out|apply wA|apply wN|apply wD|refine wS ?_ GE106.out)|exact HB.out)⟩⟩
          · rw [if_neg c9] at H
            have c9b0 : decide (t111 ≤ 0) = false:=decide_eq_false c9
            clear c9
            have H':=A0.mk H
            clear H
            try go_wp2
            have n0_:=A0.mk (bD BK106.out);have n1_:=A0.mk (wD HB.out);clear BK106;clear HB;have BK106:=n0_;have HB:=n1_;clear n0_ n1_
            refine start_ (n:=6) (S:=fun w' => w'.cell? ⟨gb106,0,none⟩ = some (.int .u64 a0_0)∧w'.cell? ⟨gb106,1,none⟩ = some (.int .u64 a0_1)) (ds:=[]) #[Z,Z,Z,Z,Z,Z] (by kernel_rfl) rfl rfl ⟨(bC BK106.out 0).trans rfl,(bC BK106.out 1).trans rfl⟩ (fun hHeld => ?_)
            generalize wr.drew = w13 at BK106 HB hHeld ⊢
            refine pure_ (i:=0) (N:=some 14) (v:=?_) (a':=?_) #[Y,Z,Z,Z,Z,Z] rfl rfl (by kernel_rfl) (fun _ _ _ h => h) (Or.inl ⟨by rfl,?_⟩) ?_ ?_
            rotate_left;(intro w';go_simp;with_reducible rfl);rotate_left;(simp only [aP,lT,lZ,lS,i64_w,i32_w];rfl)
            refine pure_ (i:=1) (N:=some 15) (v:=?_) (a':=?_) #[Y,Y,Z,Z,Z,Z] rfl rfl (by kernel_rfl) (fun _ _ _ h => h) (Or.inl ⟨by rfl,?_⟩) ?_ ?_
            rotate_left;(intro w';go_simp;with_reducible rfl);rotate_left;(simp only [aP,lT,lZ,lS,i64_w,i32_w];rfl)
            refine take_ (i:=3) (N:=some 17) (v:=?_) (a':=?_) #[Y,Y,Z,Y,Z,Z] rfl rfl (by kernel_rfl) (fun _ _ _ h => h) (Or.inl ⟨by rfl,?_⟩) hHeld ?_ ?_
            rotate_left;(rintro w' ⟨s0,s1⟩;go_simp;with_reducible rfl);rotate_left;(simp only [aP,lT,lZ,lS,i64_w,i32_w];rfl)
            refine one_ (i:=2) (N:=some 16) #[Y,Y,Y,Y,Z,Z] rfl rfl (by kernel_rfl) (by decide) (fun K hK => ?_)
            refine goes_ Try.func15 (by kernel_rfl) rfl #[.int .u64 (Go.bits .or .u64 x2_1 (ji6)),.int .u64 (Go.bits .or .u64 x2_1 (ji6))] (by rfl) rfl rfl (by (try simp only [mT,mC,mN]);first|done|(simp only [hji6];rfl)|rfl|(simp only [lD,lK];rfl)) ?_
            with_reducible refine (wide_Mul.calls (Go.bits .or .u64 x2_1 (ji6)) (Go.bits .or .u64 x2_1 (ji6)) t109 t110 _ A7.out).mono ?_
            rintro e w14 ⟨rfl,hb⟩;refine ⟨_,rfl,?_⟩;have n0_:=A0.mk (bB (g:=gb106) (o:=.cells #[.int .u64 a0_0,.int .u64 a0_1] 24 (0,0)) (by (with_reducible repeat (first|refine bN ?_ _|refine bD ?_|refine bA ?_ _));exact BK106.out) hb);have n1_:=A0.mk (wT (by repeat (first|(with_reducible first|exact HB.out|apply wA|apply wN|apply wD|refine wS ?_ GE106.out)|exact HB.out)) hb);clear BK106;clear HB;have BK106:=n0_;have HB:=n1_;clear n0_ n1_;(try clear hb);(try clear hb2);(try clear hk);(try clear hi)
            refine hK.out _ _ ⟨(bC BK106.out 0).trans rfl,(bC BK106.out 1).trans rfl⟩ (fun hHeld => ?_)
            clear hK K
            refine norm_ (a':=?_) ?_ ?_
            rotate_left;(show Act.put _ (some 16) _ = _;simp only [aP,lT,lZ,lS,i64_w,i32_w];rfl)
            refine one_ (i:=4) (N:=some 18) #[Y,Y,Y,Y,Y,Z] rfl rfl (by kernel_rfl) (by decide) (fun K hK => ?_)
            refine goes_ Try.func16 (by kernel_rfl) rfl #[.agg #[.int .u64 t109,.int .u64 t110],.agg #[.int .u64 a0_0,.int .u64 a0_1]] (by rfl) rfl rfl (by (try simp only [mT,mC,mN]);first|done|rfl|(simp only [lD,lK];rfl)) ?_
            with_reducible refine (wide_Cmp.calls t109 t110 a0_0 a0_1 t111 _ A8.out).mono ?_
            rintro e w15 ⟨rfl,hb⟩;refine ⟨_,rfl,?_⟩;have n0_:=A0.mk (bB (g:=gb106) (o:=.cells #[.int .u64 a0_0,.int .u64 a0_1] 24 (0,0)) (by (with_reducible repeat (first|refine bN ?_ _|refine bD ?_|refine bA ?_ _));exact BK106.out) hb);have n1_:=A0.mk (wT (by repeat (first|(with_reducible first|exact HB.out|apply wA|apply wN|apply wD|refine wS ?_ GE106.out)|exact HB.out)) hb);clear BK106;clear HB;have BK106:=n0_;have HB:=n1_;clear n0_ n1_;(try clear hb);(try clear hb2);(try clear hk);(try clear hi)
            refine hK.out _ _ ⟨(bC BK106.out 0).trans rfl,(bC BK106.out 1).trans rfl⟩ (fun hHeld => ?_)
            clear hK K
            refine norm_ (a':=?_) ?_ ?_
            rotate_left;(show Act.put _ (some 18) _ = _;simp only [aP,lT,lZ,lS,i64_w,i32_w];rfl)
            refine pure_ (i:=5) (N:=some 19) (v:=?_) (a':=?_) #[Y,Y,Y,Y,Y,Y] rfl rfl (by kernel_rfl) (fun _ _ _ h => h) (Or.inl ⟨by rfl,?_⟩) ?_ ?_
            rotate_left;(intro w';go_simp;with_reducible rfl);rotate_left;(simp only [aP,lT,lZ,lS,i64_w,i32_w];rfl)
            refine done_ (by kernel_rfl) ?_
            try go_wp2
            go_roundg k1
            case measure => have:=HK1.out;omega
            case rel => exact ⟨(x2_1),(wrap64 (x6_1 + 1)),(by first|rfl|(simp;done)|(simp [*];done)),(by first|rfl|(simp;done)|(simp [*];done)),H',⟨by have:=HK1.out;omega⟩,⟨by (with_reducible repeat (first|refine bN ?_ _|refine bD ?_|refine bA ?_ _));exact BK106.out⟩,⟨by repeat (first|(with_reducible first|exact HB.out|apply wA|apply wN|apply wD|refine wS ?_ GE106.out)|exact HB.out)⟩⟩
        · rw [if_neg c5] at H
          exact absurd H (by simp)
      · rw [if_neg c3] at H
        have c3b0 : decide (x6_1 < 64) = false:=decide_eq_false c3
        clear c3;replace H:=Option.bind_eq_some_iff.mp H;obtain ⟨⟨t107,t108⟩,A160,H⟩:=H
        replace H : (some (x2_1,(t107 == a0_0 && (t108 == a0_1)))) = some (r1,r2):=H
        have A16:=A0.mk A160;clear A160
        simp only [Option.some.injEq,Prod.mk.injEq] at H
        obtain ⟨rfl,rfl⟩:=H
        try go_wp2
        have n0_:=A0.mk (bD BK106.out);have n1_:=A0.mk (wD HB.out);clear BK106;clear HB;have BK106:=n0_;have HB:=n1_;clear n0_ n1_
        refine start_ (n:=8) (S:=fun w' => w'.cell? ⟨gb106,0,none⟩ = some (.int .u64 a0_0)∧w'.cell? ⟨gb106,1,none⟩ = some (.int .u64 a0_1)) (ds:=[]) #[Z,Z,Z,Z,Z,Z,Z,Z] (by kernel_rfl) rfl rfl ⟨(bC BK106.out 0).trans rfl,(bC BK106.out 1).trans rfl⟩ (fun hHeld => ?_);refine with_tabW wide_Root.tab8 wide_Root.bits8 (fun HT_ HW_ => ?_)
        generalize wr.drew = w17 at BK106 HB hHeld ⊢
        refine pure_ (i:=0) (N:=some 22) (v:=?_) (a':=?_) #[Y,Z,Z,Z,Z,Z,Z,Z] rfl rfl (any_of HT_.out (by kernel_rfl)) (fun _ _ _ h => h) (Or.inl ⟨by rfl,?_⟩) ?_ ?_
        rotate_left;(intro w';go_simp;with_reducible rfl);rotate_left;(simp only [aP,lT,lZ,lS,i64_w,i32_w];rfl)
        refine pure_ (i:=1) (N:=some 23) (v:=?_) (a':=?_) #[Y,Y,Z,Z,Z,Z,Z,Z] rfl rfl (any_of HT_.out (by kernel_rfl)) (fun _ _ _ h => h) (Or.inl ⟨by rfl,?_⟩) ?_ ?_
        rotate_left;(intro w';go_simp;with_reducible rfl);rotate_left;(simp only [aP,lT,lZ,lS,i64_w,i32_w];rfl)
        refine pure_ (i:=2) (N:=some 24) (v:=?_) (a':=?_) #[Y,Y,Y,Z,Z,Z,Z,Z] rfl rfl (any_of HT_.out (by kernel_rfl)) (fun _ _ _ h => h) (Or.inl ⟨by rfl,?_⟩) ?_ ?_
        rotate_left;(intro w';go_simp;with_reducible rfl);rotate_left;(simp only [aP,lT,lZ,lS,i64_w,i32_w];rfl)
        refine take_ (i:=4) (N:=some 26) (v:=?_) (a':=?_) #[Y,Y,Y,Z,Y,Z,Z,Z] rfl rfl (take_ofW HT_.out HW_.out (by kernel_rfl)) (fun _ _ _ h => h) (Or.inl ⟨by rfl,?_⟩) hHeld ?_ ?_
        rotate_left;(rintro w' ⟨s0,s1⟩;go_simp;with_reducible rfl);rotate_left;(simp only [aP,lT,lZ,lS,i64_w,i32_w];rfl)
        refine one_ (i:=3) (N:=some 25) #[Y,Y,Y,Y,Y,Z,Z,Z] rfl rfl (one_of HT_.out (by kernel_rfl)) (by decide) (fun K hK => ?_)
        refine goes_ Try.func15 (by kernel_rfl) rfl #[.int .u64 x2_1,.int .u64 x2_1] (by rfl) rfl rfl (by (try simp only [mT,mC,mN]);first|done|rfl|(simp only [lD,lK];rfl)) ?_
        with_reducible refine (wide_Mul.calls x2_1 x2_1 t107 t108 _ A16.out).mono ?_
        rintro e w18 ⟨rfl,hb⟩;refine ⟨_,rfl,?_⟩;have n0_:=A0.mk (bB (g:=gb106) (o:=.cells #[.int .u64 a0_0,.int .u64 a0_1] 24 (0,0)) (by (with_reducible repeat (first|refine bN ?_ _|refine bD ?_|refine bA ?_ _));exact BK106.out) hb);have n1_:=A0.mk (wT (by repeat (first|(with_reducible first|exact HB.out|apply wA|apply wN|apply wD|refine wS ?_ GE106.out)|exact HB.out)) hb);clear BK106;clear HB;have BK106:=n0_;have HB:=n1_;clear n0_ n1_;(try clear hb);(try clear hb2);(try clear hk);(try clear hi)
        refine hK.out _ _ ⟨(bC BK106.out 0).trans rfl,(bC BK106.out 1).trans rfl⟩ (fun hHeld => ?_)
        clear hK K
        refine norm_ (a':=?_) ?_ ?_
        rotate_left;(show Act.put _ (some 25) _ = _;simp only [aP,lT,lZ,lS,i64_w,i32_w];rfl)
        refine pure_ (i:=5) (N:=some 27) (v:=?_) (a':=?_) #[Y,Y,Y,Y,Y,Y,Z,Z] rfl rfl (any_of HT_.out (by kernel_rfl)) (fun _ _ _ h => h) (Or.inl ⟨by rfl,?_⟩) ?_ ?_
        rotate_left;(intro w';go_simp;with_reducible rfl);rotate_left;(simp only [aP,lT,lZ,lS,i64_w,i32_w];rfl)
        refine pure_ (i:=6) (N:=some 2) (v:=?_) (a':=?_) #[Y,Y,Y,Y,Y,Y,Y,Z] rfl rfl (any_of HT_.out (by kernel_rfl)) (fun _ _ _ h => h) (Or.inl ⟨by rfl,?_⟩) ?_ ?_
        rotate_left;(intro w';go_simp;with_reducible rfl);rotate_left;(simp only [aP,lT,lZ,lS,i64_w,i32_w];rfl)
        refine pure_ (i:=7) (N:=some 3) (v:=?_) (a':=?_) #[Y,Y,Y,Y,Y,Y,Y,Y] rfl rfl (any_of HT_.out (by kernel_rfl)) (fun _ _ _ h => h) (Or.inl ⟨by rfl,?_⟩) ?_ ?_
        rotate_left;(intro w';go_simp;with_reducible rfl);rotate_left;(simp only [aP,lT,lZ,lS,i64_w,i32_w];rfl)
        refine done_ (done_of HT_.out (by kernel_rfl)) ?_
        try go_wp2
        go_ret2
        exact ⟨by first|rfl|(simp [errW_none,errW_some] <;> rfl)|(simp [*,errW_none,errW_some] <;> rfl),by repeat (first|(with_reducible first|exact HB.out|apply wA|apply wN|apply wD|refine wS ?_ GE106.out)|exact HB.out)⟩

end Go.Proofs.Ytidjigoghdghiaa.V
