/- Contracts of the program's functions, each: where the printed function answers, the call answers the same. Written by vprint.py, this session's own program over the kit's print.py; Lean checks it. No conditions beyond those that each states. -/
import Derived.Test.YtidjigoghdghiaaVx0
import Derived.Test.YtidjigoghdghiaaVx5
import Derived.Test.YtidjigoghdghiaaVx8
namespace Go.Proofs.Ytidjigoghdghiaa.V
open Go.RowKit Go.Proofs.YtidjigoghdghiaaQ.PrintWords Go.Proofs.YtidjigoghdghiaaQ.PrintLast Go.Proofs.YtidjigoghdghiaaQ.PrintMore
open Bool renaming true → Y, false → Z
open List renaming setIfInBounds_toArray → lT, set_cons_zero → lZ, set_cons_succ → lS, map_toArray → mT, map_cons → mC, map_nil → mN, length_drop → lD, length_take → lK
open Act renaming put → aP
attribute [local go_sem] max2_int min2_int max_two min_two max_three min_three max_four min_four   -- for this text's walks alone
set_option linter.unusedVariables false
set_option linter.unusedSimpArgs false

/-! ### vernierref01_Root: function 12 -/
def vernierref01_Root.l0 : Nat→Int→Int→Int→Int→Option (Int × Bool)
  | 0,_,_,_,_ => none
  | k + 1,x4,x5,x141000,x141001 => if x5 ≥ 0 then (if 0 ≤ (IntKind.u64.wrap (x5)) then ((vernierref01_Mul.f k (Go.bits .or .u64 x4 (shl .u64 1 (IntKind.u64.wrap (x5)))) (Go.bits .or .u64 x4 (shl .u64 1 (IntKind.u64.wrap (x5))))).bind fun bt144 => ((vernierref01_Cmp.f k bt144.1 bt144.2 x141000 x141001).bind fun t146 => (if t146 ≤ 0 then (vernierref01_Root.l0 k (Go.bits .or .u64 x4 (shl .u64 1 (IntKind.u64.wrap (x5)))) (wrap64 (x5 - 1)) x141000 x141001) else (vernierref01_Root.l0 k x4 (wrap64 (x5 - 1)) x141000 x141001)))) else (none)) else ((vernierref01_Mul.f k x4 x4).bind fun bt141 => ((vernierref01_Cmp.f k bt141.1 bt141.2 x141000 x141001).bind fun t143 => (some (x4,(t143 == 0)))))
def vernierref01_Root.f (k : Nat) (a0_0 : Int) (a0_1 : Int) : Option (Int × Bool):=vernierref01_Root.l0 k 0 63 a0_0 a0_1
theorem vernierref01_Root.mono_l : ∀ k,(∀ y0 y1 y2 y3,LeO (vernierref01_Root.l0 k y0 y1 y2 y3) (vernierref01_Root.l0 (k + 1) y0 y1 y2 y3))
  | 0 => fun _ _ _ _ r h => by simp [vernierref01_Root.l0] at h
  | k + 1 => by
    have ih0:=vernierref01_Root.mono_l k
    · intro y0 y1 y2 y3
      unfold vernierref01_Root.l0
      repeat' first
      | (with_reducible exact ih0 _ _ _ _)
      | (with_reducible exact vernierref01_Cmp.mono _ _ _ _ _)
      | (with_reducible exact vernierref01_Mul.mono _ _ _)
      | (with_reducible exact LeO.refl _)
      | (with_reducible exact LeO.none _)
      | (with_reducible refine LeO.ite ?_ ?_)
      | (with_reducible refine LeO.bind ?_ (fun _ => ?_))
      | exact ih0 _ _ _ _
      | exact vernierref01_Cmp.mono _ _ _ _ _
      | exact vernierref01_Mul.mono _ _ _
      | exact LeO.none _
      | refine LeO.ite ?_ ?_
      | refine LeO.bind ?_ (fun _ => ?_)
theorem vernierref01_Root.mono : ∀ a0 a1 k,LeO (vernierref01_Root.f k a0 a1) (vernierref01_Root.f (k + 1) a0 a1):=by
  intro a0 a1 k
  have ih0:=vernierref01_Root.mono_l k
  unfold vernierref01_Root.f
  repeat' first
      | (with_reducible exact ih0 _ _ _ _)
      | (with_reducible exact vernierref01_Cmp.mono _ _ _ _ _)
      | (with_reducible exact vernierref01_Mul.mono _ _ _)
      | (with_reducible exact LeO.refl _)
      | (with_reducible exact LeO.none _)
      | (with_reducible refine LeO.ite ?_ ?_)
      | (with_reducible refine LeO.bind ?_ (fun _ => ?_))
      | exact ih0 _ _ _ _
      | exact vernierref01_Cmp.mono _ _ _ _ _
      | exact vernierref01_Mul.mono _ _ _
      | exact LeO.none _
      | refine LeO.ite ?_ ?_
      | refine LeO.bind ?_ (fun _ => ?_)
def vernierref01_Root.T8 : Bool × List (List Nat × List Nat):=(true,[([],[]),([],[]),([],[]),([1,2],[1,2]),([],[]),([3,4,3],[3,4]),([5],[5]),([0,5,0],[0]),([6,7,0,1,2,3,4,5,6,7],[6])])
def vernierref01_Root.B8 : List Nat:=[0,0,0,6,0,30,62,63,255]
theorem vernierref01_Root.tab8 : rtab .any (opsOf Try.f12 8) = vernierref01_Root.T8:=by kernel_rfl
theorem vernierref01_Root.bits8 : waitsOk vernierref01_Root.T8.2 vernierref01_Root.B8 = true:=by kernel_rfl
set_option maxHeartbeats 8000000 in
set_option maxRecDepth 100000 in
theorem vernierref01_Root.calls (k : Nat) (a0_0 : Int) (a0_1 : Int) (r1 : Int) (r2 : Bool) (w : World) (h : vernierref01_Root.f k a0_0 a0_1 = some (r1,r2)) :
    Calls Try.prog 12 #[.agg #[.int .u64 a0_0,.int .u64 a0_1]] w fun e w' => e = .returned (.tuple #[.int .u64 r1,.bool r2])∧Below w.heap.size w w':=by
  have hu28:=Try.underlying28
  have HB:=A0.mk (Below.refl w.heap.size w)
  have H : (vernierref01_Root.l0 k 0 63 a0_0 a0_1) = some (r1,r2):=h
  clear h
  have H':=A0.mk H
  clear H
  go_enter Try.func12,Try.ntmps12
  go_wp2_with (first|((with_reducible refine gD (N:=1) rfl ?_);refine bE ?hg (N:=1) ?hd (cs:=#[.int .u64 a0_0,.int .u64 a0_1]) (t:=28) ?hr ?_;(case hd => rfl);(case hg => rfl);(case hr => first|(go_simp;done)|(go_simp;rfl));intro gb140 hg w2 hbox hb;have n0_:=A0.mk (wT (by repeat (first|(with_reducible first|exact HB.out|apply wA|apply wN|apply wD)|exact HB.out)) hb);have n1_:=A0.mk (hbox);have n2_:=A0.mk ((by rw [hg];exact (wZ (by repeat (first|(with_reducible first|exact HB.out|apply wA|apply wN|apply wD)|exact HB.out))) : w.heap.size ≤ gb140));have n3_:=A0.mk ((by rw [hg];exact (wZ (by repeat (first|(with_reducible first|exact HB.out|apply wA|apply wN|apply wD)|exact HB.out))) : w.heap.size ≤ gb140));clear HB;have HB:=n0_;have BK140:=n1_;have GW140:=n2_;have GE140:=n3_;clear n0_ n1_ n2_ n3_;clear hb hbox hg))
  go_loopg [4,5] k (fun kq v4 v5 w' => ∃ (x4_1 : Int) (x5_1 : Int),v4 = .int .u64 x4_1∧v5 = .int .i64 x5_1∧A0 (vernierref01_Root.l0 kq x4_1 x5_1 a0_0 a0_1 = some (r1,r2))∧A0 (kq ≤ k)∧A0 (w'.heap[gb140]? = some (.cells #[.int .u64 a0_0,.int .u64 a0_1] 28 (0,0)))∧A0 (Below w.heap.size w w'))
  case atStart => exact ⟨(0),(63),(by first|rfl|(simp;done)|(simp [*];done)),(by first|rfl|(simp;done)|(simp [*];done)),H',⟨Nat.le_refl _⟩,⟨by (with_reducible repeat (first|refine bN ?_ _|refine bD ?_|refine bA ?_ _));exact BK140.out⟩,⟨by repeat (first|(with_reducible first|exact HB.out|apply wA|apply wN|apply wD|refine wS ?_ GE140.out)|exact HB.out)⟩⟩
  case round =>
    clear H'
    try clear c1
    try clear p2
    obtain ⟨x4_1,x5_1,rfl,rfl,HA,HK1,BK140,HB⟩:=hrel
    cases gk with
    | zero => exact absurd HA.out (by simp [vernierref01_Root.l0])
    | succ k1 =>
      have H:=HA.out
      clear HA
      simp only [vernierref01_Root.l0] at H
      by_cases c3 : x5_1 ≥ 0
      · rw [if_pos c3] at H
        have c3b0 : decide (0 ≤ x5_1) = true:=decide_eq_true c3
        clear c3
        obtain ⟨ji4,hji4⟩ : ∃ j_ : Int,(IntKind.u64.wrap (x5_1)) = j_:=⟨_,rfl⟩
        replace H : (if 0 ≤ (ji4) then ((vernierref01_Mul.f k1 (Go.bits .or .u64 x4_1 (shl .u64 1 (ji4))) (Go.bits .or .u64 x4_1 (shl .u64 1 (ji4)))).bind fun bt144 => ((vernierref01_Cmp.f k1 bt144.1 bt144.2 a0_0 a0_1).bind fun t146 => (if t146 ≤ 0 then (vernierref01_Root.l0 k1 (Go.bits .or .u64 x4_1 (shl .u64 1 (ji4))) (wrap64 (x5_1 - 1)) a0_0 a0_1) else (vernierref01_Root.l0 k1 x4_1 (wrap64 (x5_1 - 1)) a0_0 a0_1)))) else (none)) = some (r1,r2):=by first|(rw [hji4] at H;exact H)|(simp only [hji4] at H ⊢;exact H)
        by_cases c5 : 0 ≤ (ji4)
        · rw [if_pos c5] at H
          have c5b0:=eq_true c5
          have c5b1 : decide (0 ≤ (ji4)) = true:=decide_eq_true c5
          clear c5
          obtain ⟨ji6,hji6⟩ : ∃ j_ : Int,(shl .u64 1 (ji4)) = j_:=⟨_,rfl⟩
          replace H : ((vernierref01_Mul.f k1 (Go.bits .or .u64 x4_1 (ji6)) (Go.bits .or .u64 x4_1 (ji6))).bind fun bt144 => ((vernierref01_Cmp.f k1 bt144.1 bt144.2 a0_0 a0_1).bind fun t146 => (if t146 ≤ 0 then (vernierref01_Root.l0 k1 (Go.bits .or .u64 x4_1 (ji6)) (wrap64 (x5_1 - 1)) a0_0 a0_1) else (vernierref01_Root.l0 k1 x4_1 (wrap64 (x5_1 - 1)) a0_0 a0_1)))) = some (r1,r2):=by first|(rw [hji6] at H;exact H)|(simp only [hji6] at H ⊢;exact H)
          have hji6_ : (IntKind.u64.wrap (1 * 2 ^ min (ji4).toNat 64)) = ji6:=hji6
          have hji6z : (ji4) ≤ 64→(IntKind.u64.wrap (1 * 2 ^ (ji4).toNat)) = ji6:=shl_small hji6
          have hji6u : (IntKind.u64.wrap (2 ^ min (ji4).toNat 64)) = ji6:=by have h_:=hji6_;rw [Int.one_mul] at h_;exact h_
          have hji6v : (ji4) ≤ 64→(IntKind.u64.wrap (2 ^ (ji4).toNat)) = ji6:=fun hle_ => by have h_:=hji6z hle_;rw [Int.one_mul] at h_;exact h_
          replace H:=Option.bind_eq_some_iff.mp H;obtain ⟨⟨t144,t145⟩,A70,H⟩:=H
          replace H : ((vernierref01_Cmp.f k1 t144 t145 a0_0 a0_1).bind fun t146 => (if t146 ≤ 0 then (vernierref01_Root.l0 k1 (Go.bits .or .u64 x4_1 (ji6)) (wrap64 (x5_1 - 1)) a0_0 a0_1) else (vernierref01_Root.l0 k1 x4_1 (wrap64 (x5_1 - 1)) a0_0 a0_1))) = some (r1,r2):=H
          have A7:=A0.mk A70;clear A70;replace H:=Option.bind_eq_some_iff.mp H;obtain ⟨t146,A80,H⟩:=H
          replace H : (if t146 ≤ 0 then (vernierref01_Root.l0 k1 (Go.bits .or .u64 x4_1 (ji6)) (wrap64 (x5_1 - 1)) a0_0 a0_1) else (vernierref01_Root.l0 k1 x4_1 (wrap64 (x5_1 - 1)) a0_0 a0_1)) = some (r1,r2):=H
          have A8:=A0.mk A80;clear A80
          by_cases c9 : t146 ≤ 0
          · rw [if_pos c9] at H
            have c9b0 : decide (t146 ≤ 0) = true:=decide_eq_true c9
            clear c9
            have H':=A0.mk H
            clear H
            try go_wp2
            have n0_:=A0.mk (bD BK140.out);have n1_:=A0.mk (wD HB.out);clear BK140;clear HB;have BK140:=n0_;have HB:=n1_;clear n0_ n1_
            refine start_ (n:=6) (S:=fun w' => w'.cell? ⟨gb140,0,none⟩ = some (.int .u64 a0_0)∧w'.cell? ⟨gb140,1,none⟩ = some (.int .u64 a0_1)) (ds:=[]) #[Z,Z,Z,Z,Z,Z] (by kernel_rfl) rfl rfl ⟨(bC BK140.out 0).trans rfl,(bC BK140.out 1).trans rfl⟩ (fun hHeld => ?_)
            generalize wr.drew = w10 at BK140 HB hHeld ⊢
            refine pure_ (i:=0) (N:=some 16) (v:=?_) (a':=?_) #[Y,Z,Z,Z,Z,Z] rfl rfl (by kernel_rfl) (fun _ _ _ h => h) (Or.inl ⟨by rfl,?_⟩) ?_ ?_
            rotate_left;(intro w';go_simp;with_reducible rfl);rotate_left;(simp only [aP,lT,lZ,lS,i64_w,i32_w];rfl)
            refine pure_ (i:=1) (N:=some 17) (v:=?_) (a':=?_) #[Y,Y,Z,Z,Z,Z] rfl rfl (by kernel_rfl) (fun _ _ _ h => h) (Or.inl ⟨by rfl,?_⟩) ?_ ?_
            rotate_left;(intro w';go_simp;with_reducible rfl);rotate_left;(simp only [aP,lT,lZ,lS,i64_w,i32_w];rfl)
            refine take_ (i:=3) (N:=some 19) (v:=?_) (a':=?_) #[Y,Y,Z,Y,Z,Z] rfl rfl (by kernel_rfl) (fun _ _ _ h => h) (Or.inl ⟨by rfl,?_⟩) hHeld ?_ ?_
            rotate_left;(rintro w' ⟨s0,s1⟩;go_simp;with_reducible rfl);rotate_left;(simp only [aP,lT,lZ,lS,i64_w,i32_w];rfl)
            refine one_ (i:=2) (N:=some 18) #[Y,Y,Y,Y,Z,Z] rfl rfl (by kernel_rfl) (by decide) (fun K hK => ?_)
            refine goes_ Try.func33 (by kernel_rfl) rfl #[.int .u64 (Go.bits .or .u64 x4_1 (ji6)),.int .u64 (Go.bits .or .u64 x4_1 (ji6))] (by rfl) rfl rfl (by (try simp only [mT,mC,mN]);first|done|(simp only [hji6];rfl)|rfl|(simp only [lD,lK];rfl)) ?_
            with_reducible refine (vernierref01_Mul.calls k1 (Go.bits .or .u64 x4_1 (ji6)) (Go.bits .or .u64 x4_1 (ji6)) t144 t145 _ A7.out).mono ?_
            rintro e w11 ⟨rfl,hb⟩;refine ⟨_,rfl,?_⟩;have n0_:=A0.mk (bB (g:=gb140) (o:=.cells #[.int .u64 a0_0,.int .u64 a0_1] 28 (0,0)) (by (with_reducible repeat (first|refine bN ?_ _|refine bD ?_|refine bA ?_ _));exact BK140.out) hb);have n1_:=A0.mk (wT (by repeat (first|(with_reducible first|exact HB.out|apply wA|apply wN|apply wD|refine wS ?_ GE140.out)|exact HB.out)) hb);clear BK140;clear HB;have BK140:=n0_;have HB:=n1_;clear n0_ n1_;(try clear hb);(try clear hb2);(try clear hk);(try clear hi)
            refine hK.out _ _ ⟨(bC BK140.out 0).trans rfl,(bC BK140.out 1).trans rfl⟩ (fun hHeld => ?_)
            clear hK K
            refine norm_ (a':=?_) ?_ ?_
            rotate_left;(show Act.put _ (some 18) _ = _;simp only [aP,lT,lZ,lS,i64_w,i32_w];rfl)
            refine one_ (i:=4) (N:=some 20) #[Y,Y,Y,Y,Y,Z] rfl rfl (by kernel_rfl) (by decide) (fun K hK => ?_)
            refine goes_ Try.func22 (by kernel_rfl) rfl #[.agg #[.int .u64 t144,.int .u64 t145],.agg #[.int .u64 a0_0,.int .u64 a0_1]] (by rfl) rfl rfl (by (try simp only [mT,mC,mN]);first|done|rfl|(simp only [lD,lK];rfl)) ?_
            with_reducible refine (vernierref01_Cmp.calls k1 t144 t145 a0_0 a0_1 t146 _ A8.out).mono ?_
            rintro e w12 ⟨rfl,hb⟩;refine ⟨_,rfl,?_⟩;have n0_:=A0.mk (bB (g:=gb140) (o:=.cells #[.int .u64 a0_0,.int .u64 a0_1] 28 (0,0)) (by (with_reducible repeat (first|refine bN ?_ _|refine bD ?_|refine bA ?_ _));exact BK140.out) hb);have n1_:=A0.mk (wT (by repeat (first|(with_reducible first|exact HB.out|apply wA|apply wN|apply wD|refine wS ?_ GE140.out)|exact HB.out)) hb);clear BK140;clear HB;have BK140:=n0_;have HB:=n1_;clear n0_ n1_;(try clear hb);(try clear hb2);(try clear hk);(try clear hi)
            refine hK.out _ _ ⟨(bC BK140.out 0).trans rfl,(bC BK140.out 1).trans rfl⟩ (fun hHeld => ?_)
            clear hK K
            refine norm_ (a':=?_) ?_ ?_
            rotate_left;(show Act.put _ (some 20) _ = _;simp only [aP,lT,lZ,lS,i64_w,i32_w];rfl)
            refine pure_ (i:=5) (N:=some 21) (v:=?_) (a':=?_) #[Y,Y,Y,Y,Y,Y] rfl rfl (by kernel_rfl) (fun _ _ _ h => h) (Or.inl ⟨by rfl,?_⟩) ?_ ?_
            rotate_left;(intro w';go_simp;with_reducible rfl);rotate_left;(simp only [aP,lT,lZ,lS,i64_w,i32_w];rfl)
            refine done_ (by kernel_rfl) ?_
            try go_wp2
            go_roundg k1
            case measure => have:=HK1.out;omega
            case rel => exact ⟨(Go.bits .or .u64 x4_1 (ji6)),(wrap64 (x5_1 - 1)),(by first|rfl|(simp;done)|(simp only [← hji6] <;> (first|rfl|simp))|(simp [*];done)),(by first|rfl|(simp;done)|(simp [*];done)),H',⟨by have:=HK1.out;omega⟩,⟨by (with_reducible repeat (first|refine bN ?_ _|refine bD ?_|refine bA ?_ _));exact BK140.out⟩,⟨by repeat (first|(with_reducible first|exact HB.out|apply wA|apply wN|apply wD|refine wS ?_ GE140.out)|exact HB.out)⟩⟩
          · rw [if_neg c9] at H
            have c9b0 : decide (t146 ≤ 0) = false:=decide_eq_false c9
            clear c9
            have H':=A0.mk H
            clear H
            try go_wp2
            have n0_:=A0.mk (bD BK140.out);have n1_:=A0.mk (wD HB.out);clear BK140;clear HB;have BK140:=n0_;have HB:=n1_;clear n0_ n1_
            refine start_ (n:=6) (S:=fun w' => w'.cell? ⟨gb140,0,none⟩ = some (.int .u64 a0_0)∧w'.cell? ⟨gb140,1,none⟩ = some (.int .u64 a0_1)) (ds:=[]) #[Z,Z,Z,Z,Z,Z] (by kernel_rfl) rfl rfl ⟨(bC BK140.out 0).trans rfl,(bC BK140.out 1).trans rfl⟩ (fun hHeld => ?_)
            generalize wr.drew = w13 at BK140 HB hHeld ⊢
            refine pure_ (i:=0) (N:=some 16) (v:=?_) (a':=?_) #[Y,Z,Z,Z,Z,Z] rfl rfl (by kernel_rfl) (fun _ _ _ h => h) (Or.inl ⟨by rfl,?_⟩) ?_ ?_
            rotate_left;(intro w';go_simp;with_reducible rfl);rotate_left;(simp only [aP,lT,lZ,lS,i64_w,i32_w];rfl)
            refine pure_ (i:=1) (N:=some 17) (v:=?_) (a':=?_) #[Y,Y,Z,Z,Z,Z] rfl rfl (by kernel_rfl) (fun _ _ _ h => h) (Or.inl ⟨by rfl,?_⟩) ?_ ?_
            rotate_left;(intro w';go_simp;with_reducible rfl);rotate_left;(simp only [aP,lT,lZ,lS,i64_w,i32_w];rfl)
            refine take_ (i:=3) (N:=some 19) (v:=?_) (a':=?_) #[Y,Y,Z,Y,Z,Z] rfl rfl (by kernel_rfl) (fun _ _ _ h => h) (Or.inl ⟨by rfl,?_⟩) hHeld ?_ ?_
            rotate_left;(rintro w' ⟨s0,s1⟩;go_simp;with_reducible rfl);rotate_left;(simp only [aP,lT,lZ,lS,i64_w,i32_w];rfl)
            refine one_ (i:=2) (N:=some 18) #[Y,Y,Y,Y,Z,Z] rfl rfl (by kernel_rfl) (by decide) (fun K hK => ?_)
            refine goes_ Try.func33 (by kernel_rfl) rfl #[.int .u64 (Go.bits .or .u64 x4_1 (ji6)),.int .u64 (Go.bits .or .u64 x4_1 (ji6))] (by rfl) rfl rfl (by (try simp only [mT,mC,mN]);first|done|(simp only [hji6];rfl)|rfl|(simp only [lD,lK];rfl)) ?_
            with_reducible refine (vernierref01_Mul.calls k1 (Go.bits .or .u64 x4_1 (ji6)) (Go.bits .or .u64 x4_1 (ji6)) t144 t145 _ A7.out).mono ?_
            rintro e w14 ⟨rfl,hb⟩;refine ⟨_,rfl,?_⟩;have n0_:=A0.mk (bB (g:=gb140) (o:=.cells #[.int .u64 a0_0,.int .u64 a0_1] 28 (0,0)) (by (with_reducible repeat (first|refine bN ?_ _|refine bD ?_|refine bA ?_ _));exact BK140.out) hb);have n1_:=A0.mk (wT (by repeat (first|(with_reducible first|exact HB.out|apply wA|apply wN|apply wD|refine wS ?_ GE140.out)|exact HB.out)) hb);clear BK140;clear HB;have BK140:=n0_;have HB:=n1_;clear n0_ n1_;(try clear hb);(try clear hb2);(try clear hk);(try clear hi)
            refine hK.out _ _ ⟨(bC BK140.out 0).trans rfl,(bC BK140.out 1).trans rfl⟩ (fun hHeld => ?_)
            clear hK K
            refine norm_ (a':=?_) ?_ ?_
            rotate_left;(show Act.put _ (some 18) _ = _;simp only [aP,lT,lZ,lS,i64_w,i32_w];rfl)
            refine one_ (i:=4) (N:=some 20) #[Y,Y,Y,Y,Y,Z] rfl rfl (by kernel_rfl) (by decide) (fun K hK => ?_)
            refine goes_ Try.func22 (by kernel_rfl) rfl #[.agg #[.int .u64 t144,.int .u64 t145],.agg #[.int .u64 a0_0,.int .u64 a0_1]] (by rfl) rfl rfl (by (try simp only [mT,mC,mN]);first|done|rfl|(simp only [lD,lK];rfl)) ?_
            with_reducible refine (vernierref01_Cmp.calls k1 t144 t145 a0_0 a0_1 t146 _ A8.out).mono ?_
            rintro e w15 ⟨rfl,hb⟩;refine ⟨_,rfl,?_⟩;have n0_:=A0.mk (bB (g:=gb140) (o:=.cells #[.int .u64 a0_0,.int .u64 a0_1] 28 (0,0)) (by (with_reducible repeat (first|refine bN ?_ _|refine bD ?_|refine bA ?_ _));exact BK140.out) hb);have n1_:=A0.mk (wT (by repeat (first|(with_reducible first|exact HB.out|apply wA|apply wN|apply wD|refine wS ?_ GE140.out)|exact HB.out)) hb);clear BK140;clear HB;have BK140:=n0_;have HB:=n1_;clear n0_ n1_;(try clear hb);(try clear hb2);(try clear hk);(try clear hi)
            refine hK.out _ _ ⟨(bC BK140.out 0).trans rfl,(bC BK140.out 1).trans rfl⟩ (fun hHeld => ?_)
            clear hK K
            refine norm_ (a':=?_) ?_ ?_
            rotate_left;(show Act.put _ (some 20) _ = _;simp only [aP,lT,lZ,lS,i64_w,i32_w];rfl)
            refine pure_ (i:=5) (N:=some 21) (v:=?_) (a':=?_) #[Y,Y,Y,Y,Y,Y] rfl rfl (by kernel_rfl) (fun _ _ _ h => h) (Or.inl ⟨by rfl,?_⟩) ?_ ?_
            rotate_left;(intro w';go_simp;with_reducible rfl);rotate_left;(simp only [aP,lT,lZ,lS,i64_w,i32_w];rfl)
            refine done_ (by kernel_rfl) ?_
            try go_wp2
            go_roundg k1
            case measure => have:=HK1.out;omega
            case rel => exact ⟨(x4_1),(wrap64 (x5_1 - 1)),(by first|rfl|(simp;done)|(simp [*];done)),(by first|rfl|(simp;done)|(simp [*];done)),H',⟨by have:=HK1.out;omega⟩,⟨by (with_reducible repeat (first|refine bN ?_ _|refine bD ?_|refine bA ?_ _));exact BK140.out⟩,⟨by repeat (first|(with_reducible first|exact HB.out|apply wA|apply wN|apply wD|refine wS ?_ GE140.out)|exact HB.out)⟩⟩
        · rw [if_neg c5] at H
          exact absurd H (by simp)
      · rw [if_neg c3] at H
        have c3b0 : decide (0 ≤ x5_1) = false:=decide_eq_false c3
        clear c3;replace H:=Option.bind_eq_some_iff.mp H;obtain ⟨⟨t141,t142⟩,A160,H⟩:=H
        replace H : ((vernierref01_Cmp.f k1 t141 t142 a0_0 a0_1).bind fun t143 => (some (x4_1,(t143 == 0)))) = some (r1,r2):=H
        have A16:=A0.mk A160;clear A160;replace H:=Option.bind_eq_some_iff.mp H;obtain ⟨t143,A170,H⟩:=H
        replace H : (some (x4_1,(t143 == 0))) = some (r1,r2):=H
        have A17:=A0.mk A170;clear A170
        simp only [Option.some.injEq,Prod.mk.injEq] at H
        obtain ⟨rfl,rfl⟩:=H
        try go_wp2
        have n0_:=A0.mk (bD BK140.out);have n1_:=A0.mk (wD HB.out);clear BK140;clear HB;have BK140:=n0_;have HB:=n1_;clear n0_ n1_
        refine start_ (n:=9) (S:=fun w' => w'.cell? ⟨gb140,0,none⟩ = some (.int .u64 a0_0)∧w'.cell? ⟨gb140,1,none⟩ = some (.int .u64 a0_1)) (ds:=[]) #[Z,Z,Z,Z,Z,Z,Z,Z,Z] (by kernel_rfl) rfl rfl ⟨(bC BK140.out 0).trans rfl,(bC BK140.out 1).trans rfl⟩ (fun hHeld => ?_);refine with_tabW vernierref01_Root.tab8 vernierref01_Root.bits8 (fun HT_ HW_ => ?_)
        generalize wr.drew = w18 at BK140 HB hHeld ⊢
        refine pure_ (i:=0) (N:=some 23) (v:=?_) (a':=?_) #[Y,Z,Z,Z,Z,Z,Z,Z,Z] rfl rfl (any_of HT_.out (by kernel_rfl)) (fun _ _ _ h => h) (Or.inl ⟨by rfl,?_⟩) ?_ ?_
        rotate_left;(intro w';go_simp;with_reducible rfl);rotate_left;(simp only [aP,lT,lZ,lS,i64_w,i32_w];rfl)
        refine pure_ (i:=1) (N:=some 24) (v:=?_) (a':=?_) #[Y,Y,Z,Z,Z,Z,Z,Z,Z] rfl rfl (any_of HT_.out (by kernel_rfl)) (fun _ _ _ h => h) (Or.inl ⟨by rfl,?_⟩) ?_ ?_
        rotate_left;(intro w';go_simp;with_reducible rfl);rotate_left;(simp only [aP,lT,lZ,lS,i64_w,i32_w];rfl)
        refine pure_ (i:=2) (N:=some 25) (v:=?_) (a':=?_) #[Y,Y,Y,Z,Z,Z,Z,Z,Z] rfl rfl (any_of HT_.out (by kernel_rfl)) (fun _ _ _ h => h) (Or.inl ⟨by rfl,?_⟩) ?_ ?_
        rotate_left;(intro w';go_simp;with_reducible rfl);rotate_left;(simp only [aP,lT,lZ,lS,i64_w,i32_w];rfl)
        refine take_ (i:=4) (N:=some 27) (v:=?_) (a':=?_) #[Y,Y,Y,Z,Y,Z,Z,Z,Z] rfl rfl (take_ofW HT_.out HW_.out (by kernel_rfl)) (fun _ _ _ h => h) (Or.inl ⟨by rfl,?_⟩) hHeld ?_ ?_
        rotate_left;(rintro w' ⟨s0,s1⟩;go_simp;with_reducible rfl);rotate_left;(simp only [aP,lT,lZ,lS,i64_w,i32_w];rfl)
        refine one_ (i:=3) (N:=some 26) #[Y,Y,Y,Y,Y,Z,Z,Z,Z] rfl rfl (one_of HT_.out (by kernel_rfl)) (by decide) (fun K hK => ?_)
        refine goes_ Try.func33 (by kernel_rfl) rfl #[.int .u64 x4_1,.int .u64 x4_1] (by rfl) rfl rfl (by (try simp only [mT,mC,mN]);first|done|rfl|(simp only [lD,lK];rfl)) ?_
        with_reducible refine (vernierref01_Mul.calls k1 x4_1 x4_1 t141 t142 _ A16.out).mono ?_
        rintro e w19 ⟨rfl,hb⟩;refine ⟨_,rfl,?_⟩;have n0_:=A0.mk (bB (g:=gb140) (o:=.cells #[.int .u64 a0_0,.int .u64 a0_1] 28 (0,0)) (by (with_reducible repeat (first|refine bN ?_ _|refine bD ?_|refine bA ?_ _));exact BK140.out) hb);have n1_:=A0.mk (wT (by repeat (first|(with_reducible first|exact HB.out|apply wA|apply wN|apply wD|refine wS ?_ GE140.out)|exact HB.out)) hb);clear BK140;clear HB;have BK140:=n0_;have HB:=n1_;clear n0_ n1_;(try clear hb);(try clear hb2);(try clear hk);(try clear hi)
        refine hK.out _ _ ⟨(bC BK140.out 0).trans rfl,(bC BK140.out 1).trans rfl⟩ (fun hHeld => ?_)
        clear hK K
        refine norm_ (a':=?_) ?_ ?_
        rotate_left;(show Act.put _ (some 26) _ = _;simp only [aP,lT,lZ,lS,i64_w,i32_w];rfl)
        refine one_ (i:=5) (N:=some 28) #[Y,Y,Y,Y,Y,Y,Z,Z,Z] rfl rfl (one_of HT_.out (by kernel_rfl)) (by decide) (fun K hK => ?_)
        refine goes_ Try.func22 (by kernel_rfl) rfl #[.agg #[.int .u64 t141,.int .u64 t142],.agg #[.int .u64 a0_0,.int .u64 a0_1]] (by rfl) rfl rfl (by (try simp only [mT,mC,mN]);first|done|rfl|(simp only [lD,lK];rfl)) ?_
        with_reducible refine (vernierref01_Cmp.calls k1 t141 t142 a0_0 a0_1 t143 _ A17.out).mono ?_
        rintro e w20 ⟨rfl,hb⟩;refine ⟨_,rfl,?_⟩;have n0_:=A0.mk (bB (g:=gb140) (o:=.cells #[.int .u64 a0_0,.int .u64 a0_1] 28 (0,0)) (by (with_reducible repeat (first|refine bN ?_ _|refine bD ?_|refine bA ?_ _));exact BK140.out) hb);have n1_:=A0.mk (wT (by repeat (first|(with_reducible first|exact HB.out|apply wA|apply wN|apply wD|refine wS ?_ GE140.out)|exact HB.out)) hb);clear BK140;clear HB;have BK140:=n0_;have HB:=n1_;clear n0_ n1_;(try clear hb);(try clear hb2);(try clear hk);(try clear hi)
        refine hK.out _ _ ⟨(bC BK140.out 0).trans rfl,(bC BK140.out 1).trans rfl⟩ (fun hHeld => ?_)
        clear hK K
        refine norm_ (a':=?_) ?_ ?_
        rotate_left;(show Act.put _ (some 28) _ = _;simp only [aP,lT,lZ,lS,i64_w,i32_w];rfl)
        refine pure_ (i:=6) (N:=some 29) (v:=?_) (a':=?_) #[Y,Y,Y,Y,Y,Y,Y,Z,Z] rfl rfl (any_of HT_.out (by kernel_rfl)) (fun _ _ _ h => h) (Or.inl ⟨by rfl,?_⟩) ?_ ?_
        rotate_left;(intro w';go_simp;with_reducible rfl);rotate_left;(simp only [aP,lT,lZ,lS,i64_w,i32_w];rfl)
        refine pure_ (i:=7) (N:=some 2) (v:=?_) (a':=?_) #[Y,Y,Y,Y,Y,Y,Y,Y,Z] rfl rfl (any_of HT_.out (by kernel_rfl)) (fun _ _ _ h => h) (Or.inl ⟨by rfl,?_⟩) ?_ ?_
        rotate_left;(intro w';go_simp;with_reducible rfl);rotate_left;(simp only [aP,lT,lZ,lS,i64_w,i32_w];rfl)
        refine pure_ (i:=8) (N:=some 3) (v:=?_) (a':=?_) #[Y,Y,Y,Y,Y,Y,Y,Y,Y] rfl rfl (any_of HT_.out (by kernel_rfl)) (fun _ _ _ h => h) (Or.inl ⟨by rfl,?_⟩) ?_ ?_
        rotate_left;(intro w';go_simp;with_reducible rfl);rotate_left;(simp only [aP,lT,lZ,lS,i64_w,i32_w];rfl)
        refine done_ (done_of HT_.out (by kernel_rfl)) ?_
        try go_wp2
        go_ret2
        exact ⟨by first|rfl|(simp [errW_none,errW_some] <;> rfl)|(simp [*,errW_none,errW_some] <;> rfl),by repeat (first|(with_reducible first|exact HB.out|apply wA|apply wN|apply wD|refine wS ?_ GE140.out)|exact HB.out)⟩

/-! ### vernierlaw01_w: function 13 -/
def vernierlaw01_w.f (a0_0 : Int) (a0_1 : Int) : Option (Int × Int):=some (a0_0,a0_1)
set_option maxHeartbeats 8000000 in
set_option maxRecDepth 100000 in
theorem vernierlaw01_w.calls (a0_0 : Int) (a0_1 : Int) (r1 : Int) (r2 : Int) (w : World) (h : vernierlaw01_w.f a0_0 a0_1 = some (r1,r2)) :
    Calls Try.prog 13 #[.agg #[.int .u64 a0_0,.int .u64 a0_1]] w fun e w' => e = .returned (.agg #[.int .u64 r1,.int .u64 r2])∧Below w.heap.size w w':=by
  have hu24:=Try.underlying24
  have hu28:=Try.underlying28
  have HB:=A0.mk (Below.refl w.heap.size w)
  have H : (some (a0_0,a0_1)) = some (r1,r2):=h
  clear h
  simp only [Option.some.injEq,Prod.mk.injEq] at H
  obtain ⟨rfl,rfl⟩:=H
  go_enter Try.func13,Try.ntmps13
  go_wp2_with (first|((with_reducible refine gD (N:=1) rfl ?_);refine bE ?hg (N:=1) ?hd (cs:=#[.int .u64 a0_0,.int .u64 a0_1]) (t:=24) ?hr ?_;(case hd => rfl);(case hg => rfl);(case hr => first|(go_simp;done)|(go_simp;rfl));intro gb147 hg w2 hbox hb;have n0_:=A0.mk (wT (by repeat (first|(with_reducible first|exact HB.out|apply wA|apply wN|apply wD)|exact HB.out)) hb);have n1_:=A0.mk (hbox);have n2_:=A0.mk ((by rw [hg];exact (wZ (by repeat (first|(with_reducible first|exact HB.out|apply wA|apply wN|apply wD)|exact HB.out))) : w.heap.size ≤ gb147));have n3_:=A0.mk ((by rw [hg];exact (wZ (by repeat (first|(with_reducible first|exact HB.out|apply wA|apply wN|apply wD)|exact HB.out))) : w.heap.size ≤ gb147));clear HB;have HB:=n0_;have BK147:=n1_;have GW147:=n2_;have GE147:=n3_;clear n0_ n1_ n2_ n3_;clear hb hbox hg)|((with_reducible refine gD (N:=2) rfl ?_);refine bE ?hg (N:=2) ?hd (cs:=#[.int .u64 0,.int .u64 0]) (t:=28) ?hr ?_;(case hd => rfl);(case hg => rfl);(case hr => first|(go_simp;done)|(go_simp;rfl));intro gb148 hg w3 hbox hb;have n0_:=A0.mk (bB (g:=gb147) (o:=.cells #[.int .u64 a0_0,.int .u64 a0_1] 24 (0,0)) (by (with_reducible repeat (first|refine bN ?_ _|refine bD ?_|refine bA ?_ _));exact BK147.out) hb);have n1_:=A0.mk (wT (by repeat (first|(with_reducible first|exact HB.out|apply wA|apply wN|apply wD|refine wS ?_ GE147.out)|exact HB.out)) hb);have n2_:=A0.mk (hbox);have n3_:=A0.mk ((by rw [hg];exact (wZ (by repeat (first|(with_reducible first|exact HB.out|apply wA|apply wN|apply wD|refine wS ?_ GE147.out)|exact HB.out))) : w.heap.size ≤ gb148));have n4_:=A0.mk ((by rw [hg];exact (wZ (by repeat (first|(with_reducible first|exact HB.out|apply wA|apply wN|apply wD|refine wS ?_ GE147.out)|exact HB.out))) : w.heap.size ≤ gb148));have n5_:=A0.mk ((by rw [hg];exact Nat.ne_of_lt (blk_lt (g:=gb147) (o:=.cells #[.int .u64 a0_0,.int .u64 a0_1] 24 (0,0)) (by (with_reducible repeat (first|refine bN ?_ _|refine bD ?_|refine bA ?_ _));exact BK147.out)) : gb147 ≠ gb148));have n6_:=A0.mk ((by rw [hg];exact Nat.ne_of_gt (blk_lt (g:=gb147) (o:=.cells #[.int .u64 a0_0,.int .u64 a0_1] 24 (0,0)) (by (with_reducible repeat (first|refine bN ?_ _|refine bD ?_|refine bA ?_ _));exact BK147.out)) : gb148 ≠ gb147));clear BK147;clear HB;have BK147:=n0_;have HB:=n1_;have BK148:=n2_;have GW148:=n3_;have GE148:=n4_;have NB147_148:=n5_;have NB148_147:=n6_;clear n0_ n1_ n2_ n3_ n4_ n5_ n6_;clear hb hbox hg;have hnb4:=NB147_148.out;have hnc4:=NB148_147.out;have hcz5_0 : w3.cell? ⟨gb147,0,none⟩ = some (.int .u64 a0_0):=(bC BK147.out 0).trans rfl;have hcz5_1 : w3.cell? ⟨gb147,1,none⟩ = some (.int .u64 a0_1):=(bC BK147.out 1).trans rfl;have hfz5_0:=bF BK147.out 0;have hfz5_1:=bF BK147.out 1;have hcz6_0 : w3.cell? ⟨gb148,0,none⟩ = some (.int .u64 0):=(bC BK148.out 0).trans rfl;have hcz6_1 : w3.cell? ⟨gb148,1,none⟩ = some (.int .u64 0):=(bC BK148.out 1).trans rfl;have hfz6_0:=bF BK148.out 0;have hfz6_1:=bF BK148.out 1))
  refine bodyPost_ret (results_cell_row rfl _ _ gb148 28 #[.int .u64 a0_0,.int .u64 a0_1] (0,0) _ rfl (by (with_reducible repeat (first|refine bN ?_ _|refine bD ?_|refine bA ?_ _));refine bP (cs:=#[.int .u64 a0_0,.int .u64 0]) ?_ 1 _ rfl;(with_reducible repeat (first|refine bN ?_ _|refine bD ?_|refine bA ?_ _));refine bP (cs:=#[.int .u64 0,.int .u64 0]) ?_ 0 _ rfl;(with_reducible repeat (first|refine bN ?_ _|refine bD ?_|refine bA ?_ _));exact BK148.out) Try.underlying28 rfl (by kernel_rfl)) rfl ?_
  exact ⟨by first|rfl|(simp [errW_none,errW_some] <;> rfl)|(simp [*,errW_none,errW_some] <;> rfl),by repeat (first|(with_reducible first|exact HB.out|apply wA|apply wN|apply wD|refine wS ?_ GE147.out|refine wS ?_ GE148.out)|exact HB.out)⟩

end Go.Proofs.Ytidjigoghdghiaa.V
