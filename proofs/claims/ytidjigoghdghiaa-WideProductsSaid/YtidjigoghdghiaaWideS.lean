/- The references' difference and length. Conditions: numbers below 2^128. -/
import Derived.Test.YtidjigoghdghiaaWideR
import Derived.Test.YtidjigoghdghiaaVx12
import Derived.Test.YtidjigoghdghiaaVx13
namespace Go.Proofs.Ytidjigoghdghiaa.V
open Go.RowKit Go.Proofs.YtidjigoghdghiaaQ.PrintWords Go.Proofs.Ytidjigoghdghiaa.L
set_option linter.unusedVariables false

/-- The digits below place i of A less those of B: the borrow, and what is left. -/
def sb (A B i : Nat) : Nat := if A % 2 ^ i < B % 2 ^ i then 1 else 0
def sd (A B i : Nat) : Nat := A % 2 ^ i + sb A B i * 2 ^ i - B % 2 ^ i
theorem sd_eq (A B i : Nat) : sd A B i + B % 2 ^ i = A % 2 ^ i + sb A B i * 2 ^ i ∧ sd A B i < 2 ^ i := by
  have hp : 0 < 2 ^ i := Nat.two_pow_pos i
  have ha := Nat.mod_lt A hp
  have hb := Nat.mod_lt B hp
  unfold sd sb
  split <;> omega
theorem sb_le (A B i : Nat) : sb A B i ≤ 1 := by unfold sb; split <;> omega
theorem sub_uniq {p x y c d : Nat} (hx : x < p) (hy : y < p) (h : x + d * p = y + c * p) : x = y ∧ d = c := by
  have hp : 0 < p := by omega
  have h1 : (x + d * p) % p = (y + c * p) % p := by rw [h]
  rw [Nat.add_mul_mod_self_right, Nat.add_mul_mod_self_right, Nat.mod_eq_of_lt hx, Nat.mod_eq_of_lt hy] at h1
  refine ⟨h1, ?_⟩
  subst h1
  have : d * p = c * p := by omega
  exact Nat.eq_of_mul_eq_mul_right hp this
theorem sub_step (A B i : Nat) : sb A B (i + 1) = 1 - (2 + A / 2 ^ i % 2 - B / 2 ^ i % 2 - sb A B i) / 2 ∧ sd A B (i + 1) = sd A B i + (2 + A / 2 ^ i % 2 - B / 2 ^ i % 2 - sb A B i) % 2 * 2 ^ i := by
  obtain ⟨h1, h1'⟩ := sd_eq A B i
  obtain ⟨h2, h2'⟩ := sd_eq A B (i + 1)
  have hs := sb_le A B i
  have ha := bit_le A i
  have hb := bit_le B i
  rw [mod_succ A i, mod_succ B i] at h2
  have ht := two_mul_pow i
  generalize A / 2 ^ i % 2 = a at *
  generalize B / 2 ^ i % 2 = b at *
  generalize A % 2 ^ i = x at *
  generalize B % 2 ^ i = y at *
  generalize hn : 2 + a - b - sb A B i = n
  have hn4 : n ≤ 3 := by omega
  have key : sd A B i + n % 2 * 2 ^ i + (1 - n / 2) * 0 + (b * 2 ^ i + y) = x + a * 2 ^ i + (1 - n / 2) * 2 ^ (i + 1) := by
    have e : n = n / 2 * 2 + n % 2 := by omega
    have hq : n / 2 ≤ 1 := by omega
    have : n + b + sb A B i = 2 + a := by omega
    have m1 : (n + b + sb A B i) * 2 ^ i = (2 + a) * 2 ^ i := by rw [this]
    have m2 : n * 2 ^ i = n / 2 * 2 * 2 ^ i + n % 2 * 2 ^ i := by rw [← Nat.add_mul]; congr 1
    rw [Nat.add_mul, Nat.add_mul, Nat.add_mul] at m1
    have : n / 2 = 0 ∨ n / 2 = 1 := by omega
    rcases this with h0 | h0
    · rw [h0] at m2 ⊢
      omega
    · rw [h0] at m2 ⊢
      omega
  have hlt : sd A B i + n % 2 * 2 ^ i < 2 ^ (i + 1) := next_lt h1' (by omega)
  have := sub_uniq (c := 1 - n / 2) (d := sb A B (i + 1)) h2' hlt (p := 2 ^ (i + 1)) (x := sd A B (i + 1)) (y := sd A B i + n % 2 * 2 ^ i)
  clear this
  have hu : sd A B (i + 1) + (1 - n / 2) * 2 ^ (i + 1) = sd A B i + n % 2 * 2 ^ i + sb A B (i + 1) * 2 ^ (i + 1) := by omega
  obtain ⟨e1, e2⟩ := sub_uniq h2' hlt hu
  exact ⟨e2.symm, e1⟩
theorem sd_top (A B : Nat) (hA : A < 340282366920938463463374607431768211456) (hB : B < 340282366920938463463374607431768211456) : sd A B 128 = dif A B ∧ sb A B 128 = bor A B := by
  unfold sd sb dif bor
  rw [show (2 : Nat) ^ 128 = 340282366920938463463374607431768211456 from rfl, Nat.mod_eq_of_lt hA, Nat.mod_eq_of_lt hB]
  split <;> omega
theorem rsub_loop (A B : Nat) (hA : A < 340282366920938463463374607431768211456) (hB : B < 340282366920938463463374607431768211456) (d : Nat) : ∀ i : Nat, i + d = 128 →
    Ev (fun k => vernierref01_Sub.l0 k ((sb A B i : Nat) : Int) (i : Int) (hi A) (lo A) (hi B) (lo B) (hi (sd A B i)) (lo (sd A B i))) (hi (dif A B), lo (dif A B), ((bor A B : Nat) : Int)) := by
  induction d with
  | zero =>
    intro i h
    obtain rfl : i = 128 := by omega
    refine Ev.step (fun k => rfl) ?_
    refine ev_neg (by omega) (ev_some fun k => ?_)
    rw [(sd_top A B hA hB).1, (sd_top A B hA hB).2]
  | succ d ih =>
    intro i h
    refine Ev.step (fun k => rfl) ?_
    refine ev_pos (by omega) ?_
    refine Ev.bind (bit_ev A i hA (by omega)) ?_
    refine Ev.bind (bit_ev B i hB (by omega)) ?_
    obtain ⟨h1, h2⟩ := sub_step A B i
    have hc := sb_le A B i
    have hS := (sd_eq A B i).2
    have ha := bit_le A i
    have hb := bit_le B i
    have next := ih (i + 1) (by omega)
    rw [h1, h2] at next
    generalize sb A B i = c at *
    generalize sd A B i = S at *
    generalize A / 2 ^ i % 2 = a at *
    generalize B / 2 ^ i % 2 = b at *
    generalize hn : 2 + a - b - c = n at *
    rw [wrapu_id (x := 2 + (a : Int)) (by omega) (by omega), wrapu_id (x := 2 + (a : Int) - b) (by omega) (by omega), wrapu_id (x := 2 + (a : Int) - b - c) (by omega) (by omega)]
    have e0 : 2 + (a : Int) - b - c = (n : Int) := by omega
    have e1 : Int.tmod (n : Int) 2 = ((n % 2 : Nat) : Int) := by rw [Int.tmod_eq_emod_of_nonneg (by omega)]; omega
    have e2 : Int.tdiv (n : Int) 2 = ((n / 2 : Nat) : Int) := by rw [Int.tdiv_eq_ediv_of_nonneg (by omega)]; omega
    rw [e0, e1, e2, wrapu_nat (by omega), wrapu_id (x := 1 - ((n / 2 : Nat) : Int)) (by omega) (by omega)]
    refine ev_now (with_next S i (n % 2) hS (by omega) (by omega)) ?_
    rw [show wrap64 ((i : Int) + 1) = ((i + 1 : Nat) : Int) by rw [wrap64_id (by omega) (by omega)]; omega, show 1 - ((n / 2 : Nat) : Int) = ((1 - n / 2 : Nat) : Int) by omega]
    exact next
theorem rsub_ev (A B : Nat) (hA : A < 340282366920938463463374607431768211456) (hB : B < 340282366920938463463374607431768211456) :
    Ev (fun k => vernierref01_Sub.f k (hi A) (lo A) (hi B) (lo B)) (hi (dif A B), lo (dif A B), ((bor A B : Nat) : Int)) := by
  have := rsub_loop A B hA hB 128 0 rfl
  have e0 : sb A B 0 = 0 := by unfold sb; simp [Nat.mod_one]
  have e1 : sd A B 0 = 0 := by unfold sd; simp [Nat.mod_one, e0]
  rw [e0, e1] at this
  exact this

/-! ### Length -/
theorem len_spec (V : Nat) (h : V < 340282366920938463463374607431768211456) : V < 2 ^ len V ∧ (V ≠ 0 → 2 ^ (len V - 1) ≤ V ∧ 0 < len V) ∧ (V = 0 → len V = 0) ∧ len V ≤ 128 := by
  unfold len
  have pos : ∀ x, x < 18446744073709551616 → x ≠ 0 → 0 < Lib.bitLen x := fun x hx h0 => by
    rcases Nat.eq_zero_or_pos (Lib.bitLen x) with h' | h'
    · have := (bitLen_spec x hx).1; rw [h'] at this; omega
    · exact h'
  split
  · rename_i h0
    obtain ⟨h1, h2, h3⟩ := bitLen_spec V h0
    exact ⟨h1, fun hv => ⟨h2 hv, pos V h0 hv⟩, h3, by have := Lib.bitLen_le V 64 (by decide) h0; omega⟩
  · rename_i h0
    have hl : V / 18446744073709551616 < 18446744073709551616 := by omega
    obtain ⟨h1, h2, h3⟩ := bitLen_spec (V / 18446744073709551616) hl
    have hp := pos _ hl (by omega)
    refine ⟨?_, fun hv => ⟨?_, by omega⟩, fun h => by omega, by have := Lib.bitLen_le (V / 18446744073709551616) 64 (by decide) hl; omega⟩
    · rw [Nat.pow_add, Nat.mul_comm, ← Nat.div_lt_iff_lt_mul (Nat.two_pow_pos 64)]
      exact h1
    · rw [show 64 + Lib.bitLen (V / 18446744073709551616) - 1 = 64 + (Lib.bitLen (V / 18446744073709551616) - 1) by omega, Nat.pow_add, Nat.mul_comm, ← Nat.le_div_iff_mul_le (Nat.two_pow_pos 64)]
      exact h2 (by omega)
theorem rlen_loop (V : Nat) (hV : V < 340282366920938463463374607431768211456) (d : Nat) : ∀ n : Nat, n = len V + d → n ≤ 128 → Ev (fun k => vernierref01_Len.l0 k (n : Int) (hi V) (lo V)) ((len V : Nat) : Int) := by
  obtain ⟨h1, h2, h3, h4⟩ := len_spec V hV
  induction d with
  | zero =>
    intro n hn hl
    rw [Nat.add_zero] at hn
    subst hn
    refine Ev.step (fun k => rfl) ?_
    by_cases h0 : V = 0
    · refine ev_neg (by have := h3 h0; omega) (ev_some fun k => rfl)
    · obtain ⟨h5, h6⟩ := h2 h0
      refine ev_pos (by omega) ?_
      rw [show wrap64 (((len V : Nat) : Int) - 1) = ((len V - 1 : Nat) : Int) by rw [wrap64_id (by omega) (by omega)]; omega]
      refine Ev.bind (bit_ev V (len V - 1) hV (by omega)) ?_
      have hb : V / 2 ^ (len V - 1) = 1 := by
        have e := two_mul_pow (len V - 1)
        rw [show len V - 1 + 1 = len V by omega] at e
        have hp : 0 < 2 ^ (len V - 1) := Nat.two_pow_pos _
        have l1 : V / 2 ^ (len V - 1) < 2 := by rw [Nat.div_lt_iff_lt_mul hp]; omega
        have l2 : 1 ≤ V / 2 ^ (len V - 1) := by rw [Nat.le_div_iff_mul_le hp]; omega
        omega
      rw [hb]
      exact ev_neg (by decide) (ev_some fun k => rfl)
  | succ d ih =>
    intro n hn hl
    refine Ev.step (fun k => rfl) ?_
    refine ev_pos (by omega) ?_
    rw [show wrap64 ((n : Int) - 1) = ((n - 1 : Nat) : Int) by rw [wrap64_id (by omega) (by omega)]; omega]
    refine Ev.bind (bit_ev V (n - 1) hV (by omega)) ?_
    rw [bit_of_lt (Nat.lt_of_lt_of_le h1 (Nat.pow_le_pow_right (by decide) (by omega)))]
    refine ev_pos rfl ?_
    exact ih (n - 1) (by omega) (by omega)
theorem rlen_ev (V : Nat) (hV : V < 340282366920938463463374607431768211456) : Ev (fun k => vernierref01_Len.f k (hi V) (lo V)) ((len V : Nat) : Int) := by
  obtain ⟨h1, h2, h3, h4⟩ := len_spec V hV
  exact rlen_loop V hV (128 - len V) 128 (by omega) (Nat.le_refl _)
end Go.Proofs.Ytidjigoghdghiaa.V
