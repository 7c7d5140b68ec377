/- FormatSigns, the plain law: sign bits turned, taken away, copied. No conditions. -/
import Derived.Test.YtjdmbhdlogbopaaDoorFormatC
import Derived.Test.YtjdmbhdlogbopaaDoorVx13
import Derived.Test.YtjdmbhdlogbopaaDoorVx14
namespace Go.Proofs.YtjdmbhdlogbopaaDoor.Pure
open Go.RowKit Go.Proofs.YtjdmbhdlogbopaaDoor.V Go.Proofs.YtjdmbhdlogbopaaDoorQ.PrintWords Go.Proofs.YtjdmbhdlogbopaaDoor.L

theorem sign_eq {f : Int} {W P : Nat} {emin emax : Int} (h : IsFmt f W P emin emax) : format_sign.f f = some ((2 ^ (W - 1) : Nat) : Int) := by
  have hwp := h.wp; have hw := h.w64; have hp := h.p8
  have ha := h.at_
  unfold format_rowAt.f at ha
  unfold format_sign.f
  have hr : V.Told (0 ≤ f ∧ f < 4) := ⟨h.f0, h.f4⟩
  rw [if_pos hr] at ha ⊢
  have e : rowsT.getD (f.toNat * 4) 0 = (W : Int) := congrArg Prod.fst (Option.some.inj ha)
  rw [e, show (W : Int) - 1 = ((W - 1 : Nat) : Int) by omega, shl_one _ (by omega)]
theorem FormatSigns : vernierlaw04_FormatSigns.Pure := by
  intro f x y hf hx hy
  obtain ⟨a, rfl, ha⟩ := nat_of_wf hx
  obtain ⟨b, rfl, hb⟩ := nat_of_wf hy
  refine Ev.rounds (g := fun k => vernierlaw04_FormatSigns.f k f (a : Int) (b : Int)) ?_
  unfold vernierlaw04_FormatSigns.f
  by_cases hr : 0 ≤ f ∧ f < 4
  · obtain ⟨W, P, emin, emax, h⟩ := fmt_cases hr
    have hwp := h.wp; have hw6 := h.w64; have hp := h.p8
    have w1 : IntKind.u64.wrap (wrap64 ((W : Int) - 1)) = ((W - 1 : Nat) : Int) := by rw [subW1 h, wrapu_nat (by omega)]
    have sg := sign_eq h
    have s1 : shl .u64 1 ((W - 1 : Nat) : Int) = ((2 ^ (W - 1) : Nat) : Int) := shl_one (W - 1) (by omega)
    by_cases hw : a < 2 ^ W
    · have ck := check_eq h a ha
      rw [if_pos hw] at ck
      have rk := rcheck_eq h a ha
      rw [if_pos hw] at rk
      refine ev_now (a := (Go.bits .xor .u64 (a : Int) ((2 ^ (W - 1) : Nat) : Int), 0)) (by unfold format_Neg.f; rw [ck, sg]; rfl) ?_
      refine ev_now (a := (Go.bits .andNot .u64 (a : Int) ((2 ^ (W - 1) : Nat) : Int), 0)) (by unfold format_Abs.f; rw [ck, sg]; rfl) ?_
      have turn : vernierref04_Turn.f f (a : Int) = some (Go.bits .xor .u64 (a : Int) ((2 ^ (W - 1) : Nat) : Int)) := by
        unfold vernierref04_Turn.f
        rw [h.row]
        simp only [Option.bind_some]
        rw [w1, s1, if_pos (by omega)]
      have plain : vernierref04_Plain.f f (a : Int) = some (Go.bits .andNot .u64 (a : Int) ((2 ^ (W - 1) : Nat) : Int)) := by
        unfold vernierref04_Plain.f
        rw [h.row]
        simp only [Option.bind_some]
        rw [w1, s1, if_pos (by omega)]
      by_cases hwb : b < 2 ^ W
      · have ckb := check_eq h b hb
        rw [if_pos hwb] at ckb
        have rkb := rcheck_eq h b hb
        rw [if_pos hwb] at rkb
        have hl := low_lt h (fields_le W P a).1 (fields_le W P a).2
        have hsb := sign_le h b hwb
        have ht := pow_top h
        have hs2 : fS W b * 2 ^ (W - 1) ≤ 2 ^ (W - 1) := by
          have := Nat.mul_le_mul_right (2 ^ (W - 1)) hsb
          omega
        refine ev_now (a := (((pk W P (fS W b) (fE W P a) (fF P a) : Nat) : Int), 0)) ?_ ?_
        · unfold format_CopySign.f
          rw [ck, ckb, sg]
          simp only [Option.bind_some, if_true]
          rw [andNot_top h a hw, and_top h b hwb, or_add' _ _ (W - 1) hl (Nat.mul_mod_left _ _) (by omega)]
          unfold pk
          rw [Nat.add_comm]
        refine ev_now rk ?_
        refine Ev.bind fixed_ev ?_
        refine ev_pos rfl ?_
        refine ev_pos rfl ?_
        refine ev_pos rfl ?_
        refine ev_pos rfl ?_
        refine ev_now turn ?_
        refine ev_pos rfl ?_
        refine ev_now plain ?_
        refine ev_pos rfl ?_
        refine ev_now rkb ?_
        refine ev_pos rfl ?_
        refine ev_now (parts_eq h a ha) ?_
        refine ev_now (a := ((fS W b : Nat) : Int)) (by unfold vernierref04_Sign.f; rw [parts_eq h b hb, show fS W b % 2 = fS W b by omega]; rfl) ?_
        refine ev_pos rfl ?_
        refine ev_now (make_eq h hsb (fields_le W P a).1 (fields_le W P a).2) ?_
        exact ev_some fun k => by simp
      · have ckb := check_eq h b hb
        rw [if_neg hwb] at ckb
        have rkb := rcheck_eq h b hb
        rw [if_neg hwb] at rkb
        refine ev_now (a := (0, 4)) ?_ ?_
        · unfold format_CopySign.f
          rw [ck, ckb]
          rfl
        refine ev_now rk ?_
        refine Ev.bind fixed_ev ?_
        refine ev_pos rfl ?_
        refine ev_pos rfl ?_
        refine ev_pos rfl ?_
        refine ev_pos rfl ?_
        refine ev_now turn ?_
        refine ev_pos rfl ?_
        refine ev_now plain ?_
        refine ev_pos rfl ?_
        refine ev_now rkb ?_
        refine ev_neg (by decide) ?_
        refine ev_pos rfl ?_
        exact ev_some fun k => rfl
    · have ck := check_eq h a ha
      rw [if_neg hw] at ck
      have rk := rcheck_eq h a ha
      rw [if_neg hw] at rk
      refine ev_now (a := (0, 4)) (by unfold format_Neg.f; rw [ck]; rfl) ?_
      refine ev_now (a := (0, 4)) (by unfold format_Abs.f; rw [ck]; rfl) ?_
      refine ev_now (a := (0, 4)) (by unfold format_CopySign.f; rw [ck]; rfl) ?_
      refine ev_now rk ?_
      refine Ev.bind fixed_ev ?_
      refine ev_pos rfl ?_
      refine ev_pos rfl ?_
      refine ev_pos rfl ?_
      refine ev_neg (by decide) ?_
      refine ev_pos rfl ?_
      refine ev_pos rfl ?_
      refine ev_pos rfl ?_
      exact ev_some fun k => rfl
  · have ck := no_check hr (a : Int)
    refine ev_now (a := (0, 2)) (by unfold format_Neg.f; rw [ck]; rfl) ?_
    refine ev_now (a := (0, 2)) (by unfold format_Abs.f; rw [ck]; rfl) ?_
    refine ev_now (a := (0, 2)) (by unfold format_CopySign.f; rw [ck]; rfl) ?_
    refine ev_now (no_rcheck hr _) ?_
    refine Ev.bind fixed_ev ?_
    refine ev_pos rfl ?_
    refine ev_pos rfl ?_
    refine ev_pos rfl ?_
    refine ev_neg (by decide) ?_
    refine ev_pos rfl ?_
    refine ev_pos rfl ?_
    refine ev_pos rfl ?_
    exact ev_some fun k => rfl
end Go.Proofs.YtjdmbhdlogbopaaDoor.Pure
