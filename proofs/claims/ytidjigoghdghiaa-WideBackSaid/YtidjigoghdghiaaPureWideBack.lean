/- WideBack, the plain law: sums and differences modulo 2^128. No conditions. -/
import Derived.Test.YtidjigoghdghiaaWideB
import Derived.Test.YtidjigoghdghiaaVx9
namespace Go.Proofs.Ytidjigoghdghiaa.Pure
open Go.RowKit Go.Proofs.Ytidjigoghdghiaa.V Go.Proofs.YtidjigoghdghiaaW.PrintWords Go.Proofs.Ytidjigoghdghiaa.L

theorem ord_swap (A B : Nat) : ord A B = wrap64 (-(ord B A)) := by
  unfold ord
  by_cases h : A = B
  · subst h; simp [wrap64]
  · have h' : ¬ B = A := fun e => h e.symm
    by_cases h2 : A < B
    · have h3 : ¬ B < A := by omega
      simp [h, h', h2, h3, wrap64]
    · have h3 : B < A := by omega
      simp [h, h', h2, h3, wrap64]

theorem WideBack : vernierlaw01_WideBack.Pure := by
  intro a1 a0 b1 b0 c1 c0 ha1 ha0 hb1 hb0 hc1 hc0
  obtain ⟨A, hA, rfl, rfl⟩ := words_of a1 a0 ha1 ha0
  obtain ⟨B, hB, rfl, rfl⟩ := words_of b1 b0 hb1 hb0
  obtain ⟨C, hC, rfl, rfl⟩ := words_of c1 c0 hc1 hc0
  have hT : 0 < 340282366920938463463374607431768211456 := by decide
  have m1 : (A + B) % 340282366920938463463374607431768211456 < 340282366920938463463374607431768211456 := Nat.mod_lt _ hT
  have s1 := add_eq A B hA hB
  have s2 := add_eq B A hB hA
  have s3 := sub_at ((A + B) % 340282366920938463463374607431768211456) B A ((A + B) / 340282366920938463463374607431768211456) m1 hB hA (by omega)
  obtain ⟨hd1, hd2⟩ := dif_spec A B hA hB
  have s4 := sub_eq A B hA hB
  have s5 := add_eq (dif A B) B hd1 hB
  have e5 : (dif A B + B) % 340282366920938463463374607431768211456 = A := by omega
  rw [e5] at s5
  have s6 := cmp_eq A B
  have s7 := cmp_eq B A
  have s8 := add_eq ((A + B) % 340282366920938463463374607431768211456) C m1 hC
  have s9 := add_eq B C hB hC
  have s10 := add_eq A ((B + C) % 340282366920938463463374607431768211456) hA (Nat.mod_lt _ hT)
  have e10 : ((A + B) % 340282366920938463463374607431768211456 + C) % 340282366920938463463374607431768211456 = (A + (B + C) % 340282366920938463463374607431768211456) % 340282366920938463463374607431768211456 := by omega
  have hcar : ((A + B) / 340282366920938463463374607431768211456 : Nat) ≤ 1 := by omega
  have hbor : bor A B ≤ 1 := by unfold bor; split <;> omega
  have hbo : (((bor A B : Nat) : Int) == 1) = decide (ord A B < 0) := by
    unfold bor ord
    by_cases h : A = B
    · subst h; simp
    · by_cases h2 : A < B
      · simp [h, h2]
      · simp [h, h2]
  have hz : (ord A B == 0) = decide (A = B) := by
    unfold ord
    by_cases h : A = B
    · simp [h]
    · by_cases h2 : A < B
      · simp [h, h2]
      · simp [h, h2]
  unfold vernierlaw01_WideBack.f
  simp only [fixed_true, Option.bind_some, if_true]
  rw [s1]
  simp only [Option.bind_some]
  rw [s2]
  simp only [Option.bind_some]
  rw [s3]
  simp only [Option.bind_some]
  rw [s4]
  simp only [Option.bind_some]
  rw [s5]
  simp only [Option.bind_some]
  simp only [Nat.add_comm B A, pair_bne]
  rw [if_neg (by simp), if_neg (by simp), if_neg (by simp), if_neg (by omega), if_neg (by omega), if_pos True.intro, s6]
  simp only [Option.bind_some]
  rw [hbo, if_neg (by simp)]
  simp only [hz, pair_beq]
  rw [if_neg (by simp), s7]
  simp only [Option.bind_some]
  rw [if_pos (ord_swap A B), s8]
  simp only [Option.bind_some]
  rw [s9]
  simp only [Option.bind_some]
  rw [s10]
  simp only [Option.bind_some, pair_beq, e10]
  simp
end Go.Proofs.Ytidjigoghdghiaa.Pure
