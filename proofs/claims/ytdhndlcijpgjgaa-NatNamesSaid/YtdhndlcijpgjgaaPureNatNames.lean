/- Plain law: NatNames answers true. No conditions. -/
import Derived.Test.YtdhndlcijpgjgaaNatLen
import Derived.Test.YtdhndlcijpgjgaaNatK
import Derived.Test.YtdhndlcijpgjgaaR2
namespace Go.Proofs.Ytdhndlcijpgjgaa.X
open Go Go.Rex
set_option linter.unusedVariables false

theorem len_pow (n : Nat) : (digs (2 ^ n)).length = n / 64 + 1 := by
  have h1 : (digs (2 ^ n)).length ≤ n / 64 + 1 := by
    rw [digs_length_lt, ← two_64]
    exact Nat.pow_lt_pow_right (by decide) (by omega)
  have h2 : ¬ ((digs (2 ^ n)).length ≤ n / 64) := by
    rw [digs_length_lt, ← two_64]
    have := Nat.pow_le_pow_right (n := 2) (by decide) (show 64 * (n / 64) ≤ n by omega)
    omega
  omega
theorem blen_pow (n : Nat) : blen (2 ^ n) = n + 1 := blen_eq (Nat.le_refl _) (Nat.pow_lt_pow_right (by decide) (by omega))
theorem DivMod_size {a : List Int} (ha : WF a) (la : Lb a) (ca : 1024 < (digs (val a)).length) : Ev (fun k => nat_DivMod k a []) (([] : List Int), (([] : List Int), (5 : Int))) := by
  refine Ev.congr (fun k => nat_DivMod_eq k a _) ?_
  rw [set2]
  exact Ev.bind (Ev.eq (great_ev (l := [a, []]) (fun x hx => by simp at hx; rcases hx with e | e <;> subst e; exact ⟨ha, la⟩; exact ⟨WF.nil, by unfold Lb; simp⟩) (by simp)) (r' := true) (by simp; left; omega)) (Ev.pos rfl (Ev.some _))
namespace Pure
theorem names_j0 {n : Nat} (hn : n = 65535) : Ev (fun k => vernierlaw02_NatNames.j0 k (digs (2 ^ n))) true := by
  have hl := len_pow n
  have hlen : (digs (2 ^ n)).length = 1024 := by omega
  have lb : Lb (digs (2 ^ n)) := by unfold Lb; omega
  have w1 : WF (digs (2 ^ n) ++ ((List.replicate 1 (0 : Int)).set 0 1)) := (WF.digs _).append (WF.cons (by decide) (by decide) WF.nil)
  have w2 : WF (digs (2 ^ n) ++ (((List.replicate 2 (0 : Int)).set 0 0).set 1 0)) := (WF.digs _).append (WF.cons (by decide) (by decide) (WF.cons (by decide) (by decide) WF.nil))
  have e2 : val (digs (2 ^ n) ++ (((List.replicate 2 (0 : Int)).set 0 0).set 1 0)) = 2 ^ n := by
    rw [val_append, val_digs, show val (((List.replicate 2 (0 : Int)).set 0 0).set 1 0) = 0 from rfl]; omega
  have n1 : Neat (digs (2 ^ n) ++ ((List.replicate 1 (0 : Int)).set 0 1)) := by
    intro _
    rw [List.length_append, hlen]
    show (digs (2 ^ n) ++ [1]).getD (1024 + 1 - 1) 0 ≠ 0
    rw [List.getD_eq_getElem?_getD, List.getElem?_append_right (by omega), hlen]
    decide
  have e1 : (digs (val (digs (2 ^ n) ++ ((List.replicate 1 (0 : Int)).set 0 1)))).length = 1025 := by
    rw [digs_val n1 w1, List.length_append, hlen]; rfl
  have l1 : Lb (digs (2 ^ n) ++ ((List.replicate 1 (0 : Int)).set 0 1)) := by unfold Lb; rw [List.length_append, hlen]; simp
  have l2 : Lb (digs (2 ^ n) ++ (((List.replicate 2 (0 : Int)).set 0 0).set 1 0)) := by unfold Lb; rw [List.length_append, hlen]; simp
  obtain ⟨s, hs⟩ := Text_size w1 l1 (by omega)
  refine Ev.congr (fun k => vernierlaw02_NatNames.j0_eq k _) (Ev.bind (twin_ev lb) (Ev.pos (capOk_of (by rw [hlen]; simp)) (Ev.bind (DivMod_size w1 l1 (by omega)) (Ev.bind (twin_ev lb) (Ev.pos (capOk_of (by rw [hlen]; simp)) (Ev.bind (Text_ev w2 l2 (by rw [e2]; omega)) (Ev.bind hs ?_)))))))
  exact Ev.pos (bT rfl) (Ev.pos (bT rfl) (Ev.pos (bT rfl) (Ev.bind awake_ev (Ev.some _))))
theorem NatNames : Ev (fun k => vernierlaw02_NatNames k) true := by
  obtain ⟨n, hn⟩ : ∃ n, n = 65535 := ⟨_, rfl⟩
  have e1 : val ((List.replicate 1 (0 : Int)).set 0 1) = 1 := rfl
  have w1 : WF ((List.replicate 1 (0 : Int)).set 0 1) := WF.cons (by decide) (by decide) WF.nil
  have l1 : Lb ((List.replicate 1 (0 : Int)).set 0 1) := by unfold Lb; simp
  have d1 : (digs 1).length ≤ 1 := digs_length_lt.2 (by decide)
  have hl := len_pow n
  have hl2 := len_pow (n + 1)
  have s1 := Shl_ev w1 l1 (n := n) (by omega) (by rw [e1]; omega) (by rw [e1, Nat.one_mul]; omega)
  have s2 := Shl_size w1 l1 (n := n + 1) (by omega) (.inr (by rw [e1, Nat.one_mul]; omega))
  rw [e1, Nat.one_mul] at s1
  have c1 : ((n : Nat) : Int) = 65535 := by omega
  have c2 : ((n + 1 : Nat) : Int) = 65536 := by omega
  rw [c1] at s1
  rw [c2] at s2
  have hln := Len_ev (a := digs (2 ^ n)) (WF.digs _) (by unfold Lb; omega)
  rw [val_digs, blen_pow, c2] at hln
  refine Ev.congr (fun k => vernierlaw02_NatNames_eq k) (Ev.bind s1 (Ev.bind s2 ?_))
  exact Ev.neg (nF rfl) (Ev.neg (nF rfl) (Ev.neg (nF (by show ((digs (2 ^ n)).length : Int) = 1024; omega)) (Ev.neg (nF rfl) (Ev.bind hln (Ev.neg (nF rfl) (names_j0 hn))))))
end Pure
end Go.Proofs.Ytdhndlcijpgjgaa.X
