/- WideDivides, the plain law: quotient times divisor and remainder; products spread over sums. No conditions. -/
import Derived.Test.YtidjigoghdghiaaWideD
import Derived.Test.YtidjigoghdghiaaVx28
import Derived.Test.YtidjigoghdghiaaVx29
namespace Go.Proofs.Ytidjigoghdghiaa.Pure
open Go.RowKit Go.Proofs.Ytidjigoghdghiaa.V Go.Proofs.YtidjigoghdghiaaQ.PrintWords Go.Proofs.Ytidjigoghdghiaa.L

theorem spread_one (a b c : Nat) (ha : a < 18446744073709551616) (hb : b < 18446744073709551616) (hc : b + c < 18446744073709551616) :
    ((wide_Mul.f a c).bind fun q => (wide_Add.f (hi (a * b)) (lo (a * b)) q.1 q.2).bind fun s => if s.2.2 = 0 then (wide_Mul.f a (IntKind.u64.wrap ((b : Int) + (c : Int)))).bind fun t => some (t.1 == s.1 && (t.2 == s.2.1)) else none) = some true := by
  have e : IntKind.u64.wrap ((b : Int) + (c : Int)) = ((b + c : Nat) : Int) := by rw [wrapu]; omega
  have hs : a * b + a * c = a * (b + c) := (Nat.mul_add a b c).symm
  have hl := mul_lt ha hc
  have s1 := add_eq (a * b) (a * c) (mul_lt ha hb) (mul_lt ha (by omega))
  rw [hs, Nat.mod_eq_of_lt hl, Nat.div_eq_of_lt hl] at s1
  rw [mul_eq a c ha (by omega)]
  simp only [Option.bind_some]
  rw [s1]
  simp only [Option.bind_some]
  rw [e, mul_eq a (b + c) ha hc, if_pos (show ((0 : Nat) : Int) = 0 from rfl)]
  simp only [Option.bind_some, pair_beq]
  simp
theorem spreads_true (a b c : Nat) (ha : a < 18446744073709551616) (hb : b < 18446744073709551616) (_hc : c < 18446744073709551616) : vernierlaw01_spreads.f a b c = some true := by
  unfold vernierlaw01_spreads.f
  have m1 : wide_Mul.f (a : Int) 1 = some (0, (a : Int)) := by
    have h := mul_eq a 1 ha (by decide)
    rw [Nat.mul_one, small_hi ha, small_lo ha] at h
    exact h
  have m0 : wide_Mul.f (a : Int) 0 = some (0, 0) := by
    have h := mul_eq a 0 ha (by decide)
    rw [Nat.mul_zero] at h
    exact h
  rw [mul_eq a b ha hb]
  simp only [Option.bind_some]
  rw [mul_eq b a hb ha]
  simp only [Option.bind_some, pair_bne, Nat.mul_comm b a]
  rw [if_neg (by simp), m1]
  simp only [Option.bind_some]
  rw [if_neg (by simp), m0]
  simp only [Option.bind_some]
  rw [if_neg (by simp)]
  have ew : IntKind.u64.wrap (18446744073709551615 - (b : Int)) = ((18446744073709551615 - b : Nat) : Int) := by rw [wrapu]; omega
  rw [ew]
  by_cases h : (c : Int) > ((18446744073709551615 - b : Nat) : Int)
  · rw [if_pos h]
    exact spread_one a b _ ha hb (by omega)
  · rw [if_neg h]
    exact spread_one a b _ ha hb (by omega)
theorem WideDivides : vernierlaw01_WideDivides.Pure := by
  intro a1 a0 y c ha1 ha0 hy hc
  obtain ⟨A, hA, rfl, rfl⟩ := words_of a1 a0 ha1 ha0
  obtain ⟨y, rfl, hy2⟩ := nat_of_wf hy
  obtain ⟨c, rfl, hc2⟩ := nat_of_wf hc
  refine Ev.rounds (g := fun k => vernierlaw01_WideDivides.f k (hi A) (lo A) (y : Int) (c : Int)) ?_
  unfold vernierlaw01_WideDivides.f
  refine ev_now fixed_true ?_
  refine ev_pos rfl ?_
  refine ev_now (spreads_true (A % 18446744073709551616) y c (by omega) hy2 hc2) ?_
  refine ev_pos rfl ?_
  by_cases h0 : y = 0
  · subst h0
    refine Ev.bind (a := (0, 0, 0, 10)) (ev_some fun k => by unfold wide_Div.f; rw [if_pos (show ((0 : Nat) : Int) = 0 from rfl)]) ?_
    refine ev_pos rfl ?_
    exact ev_some fun k => by simp
  · refine Ev.bind (wdiv_ev A y hA hy2 h0) ?_
    refine ev_neg (by omega) ?_
    have hyp : 0 < y := by omega
    have hm := Nat.div_add_mod A y
    have hr := Nat.mod_lt A hyp
    have hq : A / y ≤ A := Nat.div_le_self _ _
    obtain ⟨q, hqe⟩ : ∃ q, q = A / y := ⟨_, rfl⟩
    obtain ⟨r, hre⟩ : ∃ r, r = A % y := ⟨_, rfl⟩
    rw [← hqe] at hm hq ⊢
    rw [← hre] at hm hr ⊢
    clear hqe hre
    have hq1 : q / 18446744073709551616 < 18446744073709551616 := by omega
    have hq0 : q % 18446744073709551616 < 18446744073709551616 := by omega
    have eq : q = q / 18446744073709551616 * 18446744073709551616 + q % 18446744073709551616 := by omega
    have emul : y * q = q / 18446744073709551616 * y * 18446744073709551616 + q % 18446744073709551616 * y := by
      conv => lhs; rw [eq]
      grind
    have hh : q / 18446744073709551616 * y < 18446744073709551616 := by
      rcases Nat.lt_or_ge (q / 18446744073709551616 * y) 18446744073709551616 with h | h
      · exact h
      · omega
    refine ev_now (show wide_Mul.f (lo q) (y : Int) = _ from mul_eq _ y hq0 hy2) ?_
    refine ev_now (show wide_Mul.f (hi q) (y : Int) = _ from mul_eq _ y hq1 hy2) ?_
    have hhl := mul_lt hq1 hy2
    have hll := mul_lt hq0 hy2
    have s1 := shl_eq (q / 18446744073709551616 * y) 64 hhl (by decide)
    obtain ⟨H, hHe⟩ : ∃ H, H = q / 18446744073709551616 * y := ⟨_, rfl⟩
    obtain ⟨L, hLe⟩ : ∃ L, L = q % 18446744073709551616 * y := ⟨_, rfl⟩
    rw [← hHe] at emul hh hhl s1 ⊢
    rw [← hLe] at emul hll ⊢
    rw [show (2 : Nat) ^ 64 = 18446744073709551616 from rfl, Nat.mod_eq_of_lt (by omega)] at s1
    refine ev_now (show wide_Shl.f (hi H) (lo H) 64 = _ from s1) ?_
    have s2 := add_eq L (H * 18446744073709551616) (by omega) (by omega)
    rw [Nat.mod_eq_of_lt (by omega), Nat.div_eq_of_lt (by omega)] at s2
    refine ev_now s2 ?_
    have s3 := add_eq (L + H * 18446744073709551616) r (by omega) (by omega)
    rw [Nat.mod_eq_of_lt (by omega), Nat.div_eq_of_lt (by omega), small_hi (show r < 18446744073709551616 by omega), small_lo (show r < 18446744073709551616 by omega), show L + H * 18446744073709551616 + r = A by omega] at s3
    refine ev_now s3 ?_
    refine ev_pos rfl ?_
    refine ev_pos (by simp only []; omega) ?_
    refine ev_pos (small_hi hh) ?_
    refine ev_pos rfl ?_
    refine ev_pos rfl ?_
    exact ev_some fun k => by simp
end Go.Proofs.Ytidjigoghdghiaa.Pure
