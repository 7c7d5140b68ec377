/- Contracts of the program's functions, each: where the printed function answers, the call answers the same. Written by vprint.py, this session's own program over the kit's print.py; Lean checks it. No conditions beyond those that each states. -/
import Derived.Test.YtjdmbhdlogbopaaDoorVx0
import Derived.Test.YtjdmbhdlogbopaaDoorVx4
namespace Go.Proofs.YtjdmbhdlogbopaaDoor.V
open Go.RowKit Go.Proofs.YtjdmbhdlogbopaaDoorQ.PrintWords Go.Proofs.YtjdmbhdlogbopaaDoorQ.PrintLast Go.Proofs.YtjdmbhdlogbopaaDoorQ.PrintMore
open Bool renaming true → Y, false → Z
open List renaming setIfInBounds_toArray → lT, set_cons_zero → lZ, set_cons_succ → lS, map_toArray → mT, map_cons → mC, map_nil → mN, length_drop → lD, length_take → lK
open Act renaming put → aP
attribute [local go_sem] max2_int min2_int max_two min_two max_three min_three max_four min_four   -- for this text's walks alone
set_option linter.unusedVariables false
set_option linter.unusedSimpArgs false

/-! ### vernierref04_Class: function 17 -/
mutual
def vernierref04_Class.j0 : Nat→Int→Int→Int→Int→Int→Int→Int→Bool→Option (Int)
  | 0,_,_,_,_,_,_,_,_ => none
  | k + 1,x0,x1,x5,x6,x7,x8,x9,x18 => if x18 = true then ((vernierref04_Signals.f x0 x1).bind fun t186 => (if t186 = true then (some 0) else (some 1))) else (if x6 = x8 then (if x5 = 1 then (some 2) else (some (9 - (2 - 2)))) else (if x6 = 0 then (vernierref04_Class.j1 k x5 x6 x9 (x7 == 0)) else (vernierref04_Class.j1 k x5 x6 x9 false)))
def vernierref04_Class.j1 : Nat→Int→Int→Int→Bool→Option (Int)
  | 0,_,_,_,_ => none
  | k + 1,x5,x6,x9,x33 => if x33 = true then (if x5 = 1 then (some 5) else (some (9 - (5 - 2)))) else (if x6 = 0 then (if x5 = 1 then (some 4) else (some (9 - (4 - 2)))) else (if x5 = 1 then (some x9) else (some (wrap64 (9 - (wrap64 (x9 - 2)))))))
end
def vernierref04_Class.f (k : Nat) (a0 : Int) (a1 : Int) : Option (Int):=(vernierref04_Parts.f a0 a1).bind fun bt182 => (if bt182.2.1 = bt182.2.2.2 then (vernierref04_Class.j0 k a0 a1 bt182.1 bt182.2.1 bt182.2.2.1 bt182.2.2.2 3 (bt182.2.2.1 != 0)) else (vernierref04_Class.j0 k a0 a1 bt182.1 bt182.2.1 bt182.2.2.1 bt182.2.2.2 3 false))
theorem vernierref04_Class.mono_l : ∀ k,(∀ y0 y1 y2 y3 y4 y5 y6 y7,LeO (vernierref04_Class.j0 k y0 y1 y2 y3 y4 y5 y6 y7) (vernierref04_Class.j0 (k + 1) y0 y1 y2 y3 y4 y5 y6 y7))∧(∀ y0 y1 y2 y3,LeO (vernierref04_Class.j1 k y0 y1 y2 y3) (vernierref04_Class.j1 (k + 1) y0 y1 y2 y3))
  | 0 => ⟨fun _ _ _ _ _ _ _ _ r h => by simp [vernierref04_Class.j0] at h,fun _ _ _ _ r h => by simp [vernierref04_Class.j1] at h⟩
  | k + 1 => by
    obtain ⟨ih0,ih1⟩:=vernierref04_Class.mono_l k
    refine ⟨?_,?_⟩
    · intro y0 y1 y2 y3 y4 y5 y6 y7
      unfold vernierref04_Class.j0
      repeat' first
      | (with_reducible exact ih0 _ _ _ _ _ _ _ _)
      | (with_reducible exact ih1 _ _ _ _)
      | (with_reducible exact LeO.refl _)
      | (with_reducible exact LeO.none _)
      | (with_reducible refine LeO.ite ?_ ?_)
      | (with_reducible refine LeO.bind ?_ (fun _ => ?_))
      | exact ih0 _ _ _ _ _ _ _ _
      | exact ih1 _ _ _ _
      | exact LeO.none _
      | refine LeO.ite ?_ ?_
      | refine LeO.bind ?_ (fun _ => ?_)
    · intro y0 y1 y2 y3
      unfold vernierref04_Class.j1
      repeat' first
      | (with_reducible exact ih0 _ _ _ _ _ _ _ _)
      | (with_reducible exact ih1 _ _ _ _)
      | (with_reducible exact LeO.refl _)
      | (with_reducible exact LeO.none _)
      | (with_reducible refine LeO.ite ?_ ?_)
      | (with_reducible refine LeO.bind ?_ (fun _ => ?_))
      | exact ih0 _ _ _ _ _ _ _ _
      | exact ih1 _ _ _ _
      | exact LeO.none _
      | refine LeO.ite ?_ ?_
      | refine LeO.bind ?_ (fun _ => ?_)
theorem vernierref04_Class.mono : ∀ a0 a1 k,LeO (vernierref04_Class.f k a0 a1) (vernierref04_Class.f (k + 1) a0 a1):=by
  intro a0 a1 k
  obtain ⟨ih0,ih1⟩:=vernierref04_Class.mono_l k
  unfold vernierref04_Class.f
  repeat' first
      | (with_reducible exact ih0 _ _ _ _ _ _ _ _)
      | (with_reducible exact ih1 _ _ _ _)
      | (with_reducible exact LeO.refl _)
      | (with_reducible exact LeO.none _)
      | (with_reducible refine LeO.ite ?_ ?_)
      | (with_reducible refine LeO.bind ?_ (fun _ => ?_))
      | exact ih0 _ _ _ _ _ _ _ _
      | exact ih1 _ _ _ _
      | exact LeO.none _
      | refine LeO.ite ?_ ?_
      | refine LeO.bind ?_ (fun _ => ?_)
set_option maxHeartbeats 8000000 in
set_option maxRecDepth 100000 in
theorem vernierref04_Class.calls (k : Nat) (a0 : Int) (a1 : Int) (r : Int) (w : World) (h : vernierref04_Class.f k a0 a1 = some r) :
    Calls Tryd.prog 17 #[.int .i64 a0,.int .u64 a1] w fun e w' => e = .returned (.int .i64 r)∧Below w.heap.size w w':=by
  have HB:=A0.mk (Below.refl w.heap.size w)
  have H : ((vernierref04_Parts.f a0 a1).bind fun bt182 => (if bt182.2.1 = bt182.2.2.2 then (vernierref04_Class.j0 k a0 a1 bt182.1 bt182.2.1 bt182.2.2.1 bt182.2.2.2 3 (bt182.2.2.1 != 0)) else (vernierref04_Class.j0 k a0 a1 bt182.1 bt182.2.1 bt182.2.2.1 bt182.2.2.2 3 false))) = some r:=h
  clear h;replace H:=Option.bind_eq_some_iff.mp H;obtain ⟨⟨t182,t183,t184,t185⟩,A30,H⟩:=H
  replace H : (if t183 = t185 then (vernierref04_Class.j0 k a0 a1 t182 t183 t184 t185 3 (t184 != 0)) else (vernierref04_Class.j0 k a0 a1 t182 t183 t184 t185 3 false)) = some r:=H
  have A3:=A0.mk A30;clear A30;have HC4:=A0.mk H;clear H
  go_enter Tryd.func17,Tryd.ntmps17
  go_upto_region 3 with (first|((with_reducible refine gC (f:=16) rfl ?_);refine goesL_ (some 13) rfl rfl Tryd.func16 (by kernel_rfl) rfl #[.int .i64 a0,.int .u64 a1] rfl (by (try simp only [mT,mC,mN]);first|done|rfl|(simp only [lD,lK];rfl)) ?_;(with_reducible refine (vernierref04_Parts.calls a0 a1 t182 t183 t184 t185 _ A3.out).mono ?_);rintro e w5 ⟨rfl,hb⟩;refine ⟨_,rfl,?_⟩;have n0_:=A0.mk (wT (by repeat (first|(with_reducible first|exact HB.out|apply wA|apply wN|apply wD)|exact HB.out)) hb);clear HB;have HB:=n0_;clear n0_;(try clear hb);(try clear hb2);(try clear hk);(try clear hi)))
  (try simp only [aP,lT,lZ,lS])
  go_cut [18] (fun v18 wc => ∃ (kq : Nat) (x18_3 : Bool),v18 = .bool x18_3∧A0 (vernierref04_Class.j0 kq a0 a1 t182 t183 t184 t185 3 x18_3 = some r)∧A0 (kq ≤ k)∧A0 (Below w.heap.size w wc))
  case first =>
    have H:=HC4.out
    clear HC4
    by_cases c6 : t183 = t185
    · rw [if_pos c6] at H
      have c6b0 : (t183 == t185) = true:=beq_iff_eq.mpr c6
      have c6b1 : (t183 != t185) = false:=bne_eq_false_iff_eq.mpr c6
      clear c6
      (first|rw [c6b0]|(simp only [i64_w,i32_w];rw [c6b0])|skip)
      have H':=A0.mk H
      clear H
      go_wp2
      go_meet
      case rel => exact ⟨_,((t184 != 0)),(by first|rfl|(simp;done)|(simp [*];done)|(simp [wrap64];done)),H',⟨by first|omega|exact Nat.le_refl _⟩,⟨by repeat (first|(with_reducible first|exact HB.out|apply wA|apply wN|apply wD)|exact HB.out)⟩⟩
    · rw [if_neg c6] at H
      have c6b0 : (t183 == t185) = false:=beq_eq_false_iff_ne.mpr c6
      have c6b1 : (t183 != t185) = true:=bne_iff_ne.mpr c6
      (first|rw [c6b0]|(simp only [i64_w,i32_w];rw [c6b0])|skip)
      have H':=A0.mk H
      clear H
      go_wp2
      go_meet
      case rel => exact ⟨_,(false),(by first|rfl|(simp;done)|(simp [*];done)|(simp [wrap64];done)),H',⟨by first|omega|exact Nat.le_refl _⟩,⟨by repeat (first|(with_reducible first|exact HB.out|apply wA|apply wN|apply wD)|exact HB.out)⟩⟩
  case rest =>
    clear HC4
    try clear c1
    try clear p2
    try clear c6
    try clear c6b0
    try clear c6b1
    obtain ⟨kq,x18_3,rfl,HA,HJ3,HB⟩:=hcut
    cases kq with
    | zero => exact absurd HA.out (by simp [vernierref04_Class.j0])
    | succ kj3 =>
      have H:=HA.out
      clear HA
      simp only [vernierref04_Class.j0] at H
      by_cases c7 : x18_3 = true
      · subst c7
        have H1 : ((vernierref04_Signals.f a0 a1).bind fun t186 => (if t186 = true then (some 0) else (some 1))) = some r:=by rw [if_pos rfl] at H;exact H
        clear H;have H:=H1;clear H1;replace H:=Option.bind_eq_some_iff.mp H;obtain ⟨t186,A80,H⟩:=H
        replace H : (if t186 = true then (some 0) else (some 1)) = some r:=H
        have A8:=A0.mk A80;clear A80
        by_cases c9 : t186 = true
        · subst c9
          have H1 : (some 0) = some r:=by rw [if_pos rfl] at H;exact H
          clear H;have H:=H1;clear H1;obtain rfl:=Option.some.inj H
          go_wp2_with (first|((with_reducible refine gC (f:=48) rfl ?_);refine goesL_ (some 28) rfl rfl Tryd.func48 (by kernel_rfl) rfl #[.int .i64 a0,.int .u64 a1] rfl (by (try simp only [mT,mC,mN]);first|done|rfl|(simp only [lD,lK];rfl)) ?_;(with_reducible refine (vernierref04_Signals.calls a0 a1 true _ A8.out).mono ?_);rintro e w10 ⟨rfl,hb⟩;refine ⟨_,rfl,?_⟩;have n0_:=A0.mk (wT (by repeat (first|(with_reducible first|exact HB.out|apply wA|apply wN|apply wD)|exact HB.out)) hb);clear HB;have HB:=n0_;clear n0_;(try clear hb);(try clear hb2);(try clear hk);(try clear hi)))
          go_ret
          exact ⟨by first|rfl|(simp [errW_none,errW_some] <;> rfl)|(simp [*,errW_none,errW_some] <;> rfl)|(simp [wrap64];done),by repeat (first|(with_reducible first|exact HB.out|apply wA|apply wN|apply wD)|exact HB.out)⟩
        · replace c9:=Bool.eq_false_iff.mpr c9
          subst c9
          have H1 : (some 1) = some r:=by rw [if_neg (show ¬ (false = true) by decide)] at H;exact H
          clear H;have H:=H1;clear H1;obtain rfl:=Option.some.inj H
          go_wp2_with (first|((with_reducible refine gC (f:=48) rfl ?_);refine goesL_ (some 28) rfl rfl Tryd.func48 (by kernel_rfl) rfl #[.int .i64 a0,.int .u64 a1] rfl (by (try simp only [mT,mC,mN]);first|done|rfl|(simp only [lD,lK];rfl)) ?_;(with_reducible refine (vernierref04_Signals.calls a0 a1 false _ A8.out).mono ?_);rintro e w11 ⟨rfl,hb⟩;refine ⟨_,rfl,?_⟩;have n0_:=A0.mk (wT (by repeat (first|(with_reducible first|exact HB.out|apply wA|apply wN|apply wD)|exact HB.out)) hb);clear HB;have HB:=n0_;clear n0_;(try clear hb);(try clear hb2);(try clear hk);(try clear hi)))
          go_ret
          exact ⟨by first|rfl|(simp [errW_none,errW_some] <;> rfl)|(simp [*,errW_none,errW_some] <;> rfl)|(simp [wrap64];done),by repeat (first|(with_reducible first|exact HB.out|apply wA|apply wN|apply wD)|exact HB.out)⟩
      · replace c7:=Bool.eq_false_iff.mpr c7
        subst c7
        have H1 : (if t183 = t185 then (if t182 = 1 then (some 2) else (some (9 - (2 - 2)))) else (if t183 = 0 then (vernierref04_Class.j1 kj3 t182 t183 3 (t184 == 0)) else (vernierref04_Class.j1 kj3 t182 t183 3 false))) = some r:=by rw [if_neg (show ¬ (false = true) by decide)] at H;exact H
        clear H;have H:=H1;clear H1
        by_cases c12 : t183 = t185
        · rw [if_pos c12] at H
          have c12b0 : (t183 == t185) = true:=beq_iff_eq.mpr c12
          have c12b1 : (t183 != t185) = false:=bne_eq_false_iff_eq.mpr c12
          clear c12
          by_cases c13 : t182 = 1
          · rw [if_pos c13] at H
            have c13b0 : (t182 == 1) = true:=beq_iff_eq.mpr c13
            have c13b1 : (t182 != 1) = false:=bne_eq_false_iff_eq.mpr c13
            clear c13;obtain rfl:=Option.some.inj H
            go_wp2
            go_ret
            exact ⟨by first|rfl|(simp [errW_none,errW_some] <;> rfl)|(simp [*,errW_none,errW_some] <;> rfl)|(simp [wrap64];done),by repeat (first|(with_reducible first|exact HB.out|apply wA|apply wN|apply wD)|exact HB.out)⟩
          · rw [if_neg c13] at H
            have c13b0 : (t182 == 1) = false:=beq_eq_false_iff_ne.mpr c13
            have c13b1 : (t182 != 1) = true:=bne_iff_ne.mpr c13
            obtain rfl:=Option.some.inj H
            go_wp2
            go_ret
            exact ⟨by first|rfl|(simp [errW_none,errW_some] <;> rfl)|(simp [*,errW_none,errW_some] <;> rfl)|(simp [wrap64];done),by repeat (first|(with_reducible first|exact HB.out|apply wA|apply wN|apply wD)|exact HB.out)⟩
        · rw [if_neg c12] at H
          have c12b0 : (t183 == t185) = false:=beq_eq_false_iff_ne.mpr c12
          have c12b1 : (t183 != t185) = true:=bne_iff_ne.mpr c12
          have HC14:=A0.mk H;clear H
          go_upto_region 9 with (fail)
          go_cut [33] (fun v33 wc => ∃ (kq : Nat) (x33_13 : Bool),v33 = .bool x33_13∧A0 (vernierref04_Class.j1 kq t182 t183 3 x33_13 = some r)∧A0 (kq ≤ kj3)∧A0 (Below w.heap.size w wc))
          case first =>
            have H:=HC14.out
            clear HC14
            by_cases c15 : t183 = 0
            · rw [if_pos c15] at H
              have c15b0 : (t183 == 0) = true:=beq_iff_eq.mpr c15
              have c15b1 : (t183 != 0) = false:=bne_eq_false_iff_eq.mpr c15
              clear c15
              (first|rw [c15b0]|(simp only [i64_w,i32_w];rw [c15b0])|skip)
              have H':=A0.mk H
              clear H
              go_wp2
              go_meet
              case rel => exact ⟨_,((t184 == 0)),(by first|rfl|(simp;done)|(simp [*];done)|(simp [wrap64];done)),H',⟨by have:=HJ3.out;first|omega|exact Nat.le_refl _⟩,⟨by repeat (first|(with_reducible first|exact HB.out|apply wA|apply wN|apply wD)|exact HB.out)⟩⟩
            · rw [if_neg c15] at H
              have c15b0 : (t183 == 0) = false:=beq_eq_false_iff_ne.mpr c15
              have c15b1 : (t183 != 0) = true:=bne_iff_ne.mpr c15
              (first|rw [c15b0]|(simp only [i64_w,i32_w];rw [c15b0])|skip)
              have H':=A0.mk H
              clear H
              go_wp2
              go_meet
              case rel => exact ⟨_,(false),(by first|rfl|(simp;done)|(simp [*];done)|(simp [wrap64];done)),H',⟨by have:=HJ3.out;first|omega|exact Nat.le_refl _⟩,⟨by repeat (first|(with_reducible first|exact HB.out|apply wA|apply wN|apply wD)|exact HB.out)⟩⟩
          case rest =>
            clear HC14
            try clear c1
            try clear p2
            try clear c4
            try clear c6
            try clear c6b0
            try clear c6b1
            try clear c7
            try clear c9
            try clear c12
            try clear c12b0
            try clear c12b1
            try clear c13
            try clear c13b0
            try clear c13b1
            try clear c15
            try clear c15b0
            try clear c15b1
            try clear p2
            obtain ⟨kq,x33_13,rfl,HA,HJ13,HB⟩:=hcut
            cases kq with
            | zero => exact absurd HA.out (by simp [vernierref04_Class.j1])
            | succ kj13 =>
              have H:=HA.out
              clear HA
              simp only [vernierref04_Class.j1] at H
              by_cases c16 : x33_13 = true
              · subst c16
                have H1 : (if t182 = 1 then (some 5) else (some (9 - (5 - 2)))) = some r:=by rw [if_pos rfl] at H;exact H
                clear H;have H:=H1;clear H1
                by_cases c17 : t182 = 1
                · rw [if_pos c17] at H
                  have c17b0 : (t182 == 1) = true:=beq_iff_eq.mpr c17
                  have c17b1 : (t182 != 1) = false:=bne_eq_false_iff_eq.mpr c17
                  clear c17;obtain rfl:=Option.some.inj H
                  go_wp2
                  go_ret
                  exact ⟨by first|rfl|(simp [errW_none,errW_some] <;> rfl)|(simp [*,errW_none,errW_some] <;> rfl)|(simp [wrap64];done),by repeat (first|(with_reducible first|exact HB.out|apply wA|apply wN|apply wD)|exact HB.out)⟩
                · rw [if_neg c17] at H
                  have c17b0 : (t182 == 1) = false:=beq_eq_false_iff_ne.mpr c17
                  have c17b1 : (t182 != 1) = true:=bne_iff_ne.mpr c17
                  obtain rfl:=Option.some.inj H
                  go_wp2
                  go_ret
                  exact ⟨by first|rfl|(simp [errW_none,errW_some] <;> rfl)|(simp [*,errW_none,errW_some] <;> rfl)|(simp [wrap64];done),by repeat (first|(with_reducible first|exact HB.out|apply wA|apply wN|apply wD)|exact HB.out)⟩
              · replace c16:=Bool.eq_false_iff.mpr c16
                subst c16
                have H1 : (if t183 = 0 then (if t182 = 1 then (some 4) else (some (9 - (4 - 2)))) else (if t182 = 1 then (some 3) else (some (wrap64 (9 - (wrap64 (3 - 2))))))) = some r:=by rw [if_neg (show ¬ (false = true) by decide)] at H;exact H
                clear H;have H:=H1;clear H1
                by_cases c18 : t183 = 0
                · rw [if_pos c18] at H
                  have c18b0 : (t183 == 0) = true:=beq_iff_eq.mpr c18
                  have c18b1 : (t183 != 0) = false:=bne_eq_false_iff_eq.mpr c18
                  clear c18
                  by_cases c19 : t182 = 1
                  · rw [if_pos c19] at H
                    have c19b0 : (t182 == 1) = true:=beq_iff_eq.mpr c19
                    have c19b1 : (t182 != 1) = false:=bne_eq_false_iff_eq.mpr c19
                    clear c19;obtain rfl:=Option.some.inj H
                    go_wp2
                    go_ret
                    exact ⟨by first|rfl|(simp [errW_none,errW_some] <;> rfl)|(simp [*,errW_none,errW_some] <;> rfl)|(simp [wrap64];done),by repeat (first|(with_reducible first|exact HB.out|apply wA|apply wN|apply wD)|exact HB.out)⟩
                  · rw [if_neg c19] at H
                    have c19b0 : (t182 == 1) = false:=beq_eq_false_iff_ne.mpr c19
                    have c19b1 : (t182 != 1) = true:=bne_iff_ne.mpr c19
                    obtain rfl:=Option.some.inj H
                    go_wp2
                    go_ret
                    exact ⟨by first|rfl|(simp [errW_none,errW_some] <;> rfl)|(simp [*,errW_none,errW_some] <;> rfl)|(simp [wrap64];done),by repeat (first|(with_reducible first|exact HB.out|apply wA|apply wN|apply wD)|exact HB.out)⟩
                · rw [if_neg c18] at H
                  have c18b0 : (t183 == 0) = false:=beq_eq_false_iff_ne.mpr c18
                  have c18b1 : (t183 != 0) = true:=bne_iff_ne.mpr c18
                  by_cases c20 : t182 = 1
                  · rw [if_pos c20] at H
                    have c20b0 : (t182 == 1) = true:=beq_iff_eq.mpr c20
                    have c20b1 : (t182 != 1) = false:=bne_eq_false_iff_eq.mpr c20
                    clear c20;obtain rfl:=Option.some.inj H
                    go_wp2
                    go_ret
                    exact ⟨by first|rfl|(simp [errW_none,errW_some] <;> rfl)|(simp [*,errW_none,errW_some] <;> rfl)|(simp [wrap64];done),by repeat (first|(with_reducible first|exact HB.out|apply wA|apply wN|apply wD)|exact HB.out)⟩
                  · rw [if_neg c20] at H
                    have c20b0 : (t182 == 1) = false:=beq_eq_false_iff_ne.mpr c20
                    have c20b1 : (t182 != 1) = true:=bne_iff_ne.mpr c20
                    obtain rfl:=Option.some.inj H
                    go_wp2
                    go_ret
                    exact ⟨by first|rfl|(simp [errW_none,errW_some] <;> rfl)|(simp [*,errW_none,errW_some] <;> rfl)|(simp [wrap64];done),by repeat (first|(with_reducible first|exact HB.out|apply wA|apply wN|apply wD)|exact HB.out)⟩

/-! ### vernierlaw04_bit: function 18 -/
def vernierlaw04_bit.f (a0 : Bool) : Option (Int):=if a0 = true then (some 1) else (some 0)
set_option maxHeartbeats 8000000 in
set_option maxRecDepth 100000 in
theorem vernierlaw04_bit.calls (a0 : Bool) (r : Int) (w : World) (h : vernierlaw04_bit.f a0 = some r) :
    Calls Tryd.prog 18 #[.bool a0] w fun e w' => e = .returned (.int .u64 r)∧Drawn0 w w':=by
  have H : (if a0 = true then (some 1) else (some 0)) = some r:=h
  clear h
  by_cases c2 : a0 = true
  · subst c2
    have H1 : (some 1) = some r:=by rw [if_pos rfl] at H;exact H
    clear H;have H:=H1;clear H1;obtain rfl:=Option.some.inj H
    go_enter Tryd.func18,Tryd.ntmps18
    go_wp2
    go_ret
    exact ⟨by first|rfl|(simp;done)|(simp [*];done)|(simp [wrap64];done),by repeat (first|exact Drawn0.refl _|apply Drawn0.step)⟩
  · replace c2:=Bool.eq_false_iff.mpr c2
    subst c2
    have H1 : (some 0) = some r:=by rw [if_neg (show ¬ (false = true) by decide)] at H;exact H
    clear H;have H:=H1;clear H1;obtain rfl:=Option.some.inj H
    go_enter Tryd.func18,Tryd.ntmps18
    go_wp2
    go_ret
    exact ⟨by first|rfl|(simp;done)|(simp [*];done)|(simp [wrap64];done),by repeat (first|exact Drawn0.refl _|apply Drawn0.step)⟩

end Go.Proofs.YtjdmbhdlogbopaaDoor.V
