/- Plain law: NatBack answers true. Conditions: what the reading says of the list, the byte and the number. -/
import Derived.Test.YtdhndlcijpgjgaaNatL
import Derived.Test.YtdhndlcijpgjgaaNatLen
import Derived.Test.YtdhndlcijpgjgaaR2
namespace Go.Proofs.Ytdhndlcijpgjgaa.X
open Go Go.Rex
set_option linter.unusedVariables false

theorem wf_wordsB {x : List Int} (w : WFt (.sl (.int .u64)) x) : WF x ∧ Lb x := by
  obtain ⟨h1, h2⟩ := w
  refine ⟨fun y hy => wf_u64 (h2 y hy), ?_⟩
  simp only [minB, IntKind.bits] at h1
  unfold Lb
  omega
theorem wf_u8 {x : Int} (h : (Lit.int .u8 x).wf = true) : 0 ≤ x ∧ x < 256 := by
  simp [Lit.wf, IntKind.min, IntKind.max, IntKind.signed, IntKind.bits] at h
  omega
theorem lb_ofB {n m : Nat} (h : (digs n).length ≤ m) (hm : m ≤ 17592186044416) : Lb (digs n) := Nat.le_trans h hm
theorem decs_top {n : Nat} (h : n ≠ 0) : (decs n).getD ((decs n).length - 1) 0 ≠ 48 := by
  induction n using Nat.strongRecOn with
  | _ n ih =>
    rw [decs_pos h]
    by_cases h2 : n / 10 = 0
    · rw [h2, decs_zero]
      simp; omega
    · have := ih _ (Nat.div_lt_self (by omega) (by decide)) h2
      have hp : (decs (n / 10)).length ≠ 0 := fun e => h2 (decs_nil.1 (List.length_eq_zero_iff.1 e))
      rw [List.length_cons, show (decs (n / 10)).length + 1 - 1 = ((decs (n / 10)).length - 1) + 1 by omega]
      simpa using this
theorem decs_ten (n : Nat) : decs (10 ^ n) = List.replicate n 48 ++ [49] := by
  induction n with
  | zero => rw [Nat.pow_zero, decs_pos (by decide)]; simp [decs_zero]
  | succ n ih =>
    have hp : 0 < 10 ^ n := Nat.pow_pos (by decide)
    rw [Nat.pow_succ, decs_pos (by omega), show 10 ^ n * 10 / 10 = 10 ^ n by omega, ih, show 10 ^ n * 10 % 10 = 0 by omega, List.replicate_succ]
    rfl
theorem bl_decT {n : Nat} (h : n ≠ 0) : bl (decT n) = (decs n).reverse := by
  unfold decT
  rw [if_neg h]
  exact bl_of fun x hx => Bytes.decs n x (List.mem_reverse.1 hx)
theorem bl_decT0 : bl (decT 0) = [48] := by
  unfold decT
  rw [if_pos rfl]
  exact bl_of fun x hx => by simp at hx; subst hx; decide
theorem decT_dig (n : Nat) : Dig (bl (decT n)) := by
  by_cases h : n = 0
  · subst h; rw [bl_decT0]; intro x hx; simp at hx; subst hx; decide
  · rw [bl_decT h]; exact fun x hx => decs_dig n x (List.mem_reverse.1 hx)
theorem decT_val (n : Nat) : dval (bl (decT n)) = n := by
  by_cases h : n = 0
  · subst h; rw [bl_decT0]; rfl
  · rw [bl_decT h, dval_decs]
theorem decT_size {n : Nat} : (decT n).size = if n = 0 then 1 else (decs n).length := by
  rw [← bl_length]
  by_cases h : n = 0
  · subst h; rw [bl_decT0]; rfl
  · rw [bl_decT h, if_neg h, List.length_reverse]
theorem decT_bounds {n k : Nat} (hk : 1 ≤ k) (h : (digs n).length ≤ k) : (decT n).size ≠ 0 ∧ (decT n).size ≤ 64 * k := by
  rw [decT_size]
  by_cases h0 : n = 0
  · rw [if_pos h0]; omega
  · rw [if_neg h0]
    have h1 := dec_len_ h
    have : (decs n).length ≠ 0 := fun e => h0 (decs_nil.1 (List.length_eq_zero_iff.1 e))
    omega

theorem ten_len (n : Nat) : (digs (10 ^ n)).length ≤ 4 * n / 64 + 1 := by
  rw [digs_length_lt, ← two_64]
  refine Nat.lt_of_le_of_lt (Nat.pow_le_pow_left (show 10 ≤ 2 ^ 4 by decide) n) ?_
  rw [← Nat.pow_mul]
  exact Nat.pow_lt_pow_right (by decide) (by omega)
namespace Pure
theorem back_l5 {n : Nat} (hn : n ≤ 5000) {s : ByteArray} (hs : bl s = 49 :: List.replicate n 48) (m : Nat) : ∀ i : Nat, i + m = n + 1 → 1 ≤ i → Ev2 (fun k l => vernierlaw02_NatBack.l5 k l s (i : Int)) true := by
  have hsz : s.size = n + 1 := by rw [← bl_length, hs]; simp
  induction m with
  | zero =>
    intro i hi h1
    exact Ev2.step (fun k l => vernierlaw02_NatBack.l5_eq k l _ _) (Ev2.neg (dF (by omega)) (Ev2.some _))
  | succ m ih =>
    intro i hi h1
    refine Ev2.step (fun k l => vernierlaw02_NatBack.l5_eq k l _ _) ?_
    rw [succ_i i (by omega)]
    refine Ev2.pos (dT (by omega)) (Ev2.pos ⟨by omega, by omega⟩ (Ev2.neg (nF ?_) (ih (i + 1) (by omega) (by omega))))
    rw [bt_bl, hs, Int.toNat_natCast]
    obtain ⟨j, rfl⟩ : ∃ j, i = j + 1 := ⟨i - 1, by omega⟩
    simp [List.getD_eq_getElem?_getD, show j < n by omega]
theorem back_j3 {n : Nat} (hn : n ≤ 5000) : Ev (fun k => vernierlaw02_NatBack.j3 k (n : Int)) true := by
  have hl : (digs (10 ^ n)).length ≤ 314 := Nat.le_trans (ten_len n) (by omega)
  have p := Power_ev (b := 10) (N := n) (by decide) (by omega)
  rw [if_pos (by omega)] at p
  have t := Text_ev (a := digs (10 ^ n)) (WF.digs _) (lb_ofB hl (by omega)) (by rw [val_digs]; omega)
  rw [val_digs] at t
  have h0 : 10 ^ n ≠ 0 := by have : 0 < 10 ^ n := Nat.pow_pos (by decide); omega
  have hb : bl (decT (10 ^ n)) = 49 :: List.replicate n 48 := by rw [bl_decT h0, decs_ten, List.reverse_append]; simp
  have hsz : (decT (10 ^ n)).size = n + 1 := by rw [← bl_length, hb]; simp
  refine Ev.congr (fun k => vernierlaw02_NatBack.j3_eq k _) (Ev.bind p (Ev.bind t (Ev.neg (nF rfl) (Ev.neg (nF rfl) (Ev.neg (nF ?_) (Ev.pos ⟨by omega, ?_⟩ (Ev.neg (nF ?_) ?_)))))))
  · rw [succ_i n (by omega)]; show ((decT (10 ^ n)).size : Int) = _; omega
  · show 0 < ((decT (10 ^ n)).size : Int); omega
  · show bt (decT (10 ^ n)) 0 = 49
    rw [bt_bl, hb]; rfl
  · exact Ev.congr (fun k => vernierlaw02_NatBack.j4_eq k _) (Ev2.ev (back_l5 hn hb n 1 (by omega) (by omega)))
theorem back_j2 (n : Int) : Ev (fun k => vernierlaw02_NatBack.j2 k n) true := by
  refine Ev.congr (fun k => vernierlaw02_NatBack.j2_eq k _) ?_
  by_cases h3 : n < 0
  · exact Ev.pos (dT h3) (Ev.some _)
  · refine Ev.neg (dF h3) ?_
    by_cases h4 : n > 5000
    · exact Ev.pos (dT h4) (Ev.some _)
    · obtain ⟨m, rfl⟩ := Int.eq_ofNat_of_zero_le (show 0 ≤ n by omega)
      exact Ev.neg (dF h4) (back_j3 (by omega))
theorem back_l1 {A : Nat} (hA : (digs A).length ≤ 300) (d : Nat) (n : Int) (hd : d < 256) (m : Nat) : ∀ i : Nat, i + m = (decT A).size → Ev2 (fun k l => vernierlaw02_NatBack.l1 k l (d : Int) n (decT A) (digs A) (i : Int)) true := by
  obtain ⟨b1, b2⟩ := decT_bounds (by decide) hA
  have hbl := bl_length (decT A)
  induction m with
  | zero =>
    intro i hi
    refine Ev2.step (fun k l => vernierlaw02_NatBack.l1_eq k l _ _ _ _ _) (Ev2.neg (dF (by omega)) ?_)
    have e1 : (IntKind.u8.wrap (48 + ((d : Int).tmod 10))) = ((48 + d % 10 : Nat) : Int) := by
      rw [show (10 : Int) = ((10 : Nat) : Int) from rfl, tmod_nat, wrap_u8]; omega
    have e2 : (IntKind.u64.wrap ((d : Int).tmod 10)) = ((d % 10 : Nat) : Int) := by
      rw [show (10 : Int) = ((10 : Nat) : Int) from rfl, tmod_nat, wrapUn (by omega)]
    have e3 : bytesOf ((List.replicate 1 (0 : Int)).set 0 ((48 + d % 10 : Nat) : Int)) = bytesOf [((48 + d % 10 : Nat) : Int)] := rfl
    have hbb : bl (bytesOf [((48 + d % 10 : Nat) : Int)]) = [((48 + d % 10 : Nat) : Int)] := bl_of fun x hx => by simp at hx; subst hx; omega
    have hbs : (bytesOf [((48 + d % 10 : Nat) : Int)]).size = 1 := by rw [← bl_length, hbb]; rfl
    rw [e1, e2, e3]
    have hba : bl (decT A ++ bytesOf [((48 + d % 10 : Nat) : Int)]) = bl (decT A) ++ [((48 + d % 10 : Nat) : Int)] := by rw [bl_append, hbb]
    have hsa : (decT A ++ bytesOf [((48 + d % 10 : Nat) : Int)]).size = (decT A).size + 1 := by rw [← bl_length, hba, List.length_append, hbl]; rfl
    have hdv : dval (bl (decT A ++ bytesOf [((48 + d % 10 : Nat) : Int)])) = A * 10 + d % 10 := by
      rw [hba, dval_append, decT_val]; simp [dval]; omega
    have hdg : Dig (bl (decT A ++ bytesOf [((48 + d % 10 : Nat) : Int)])) := by
      rw [hba]
      intro x hx
      rcases List.mem_append.1 hx with h | h
      · exact decT_dig A x h
      · simp at h; subst h; omega
    have l10 : (digs 10).length ≤ 1 := digs_length_lt.2 (by decide)
    have ld : (digs (d % 10)).length ≤ 1 := digs_length_lt.2 (by rw [Nat.pow_one]; omega)
    have hm := mul_len hA l10
    have hs : (digs (A * 10 + d % 10)).length ≤ 302 := small_len hm (by omega) (by omega)
    have p := Parse_ev (s := decT A ++ bytesOf [((48 + d % 10 : Nat) : Int)]) (by omega) (by omega) hdg
    rw [hdv, if_pos (by omega)] at p
    have mu := Mul_ev (a := digs A) (b := ((List.replicate 1 (0 : Int)).set 0 10)) (WF.digs _) (WF.cons (by decide) (by decide) WF.nil) (lb_ofB hA (by omega)) (by unfold Lb; simp) (by rw [val_digs]; omega) (by show (digs 10).length ≤ _; omega) (by rw [val_digs]; show (digs (A * 10)).length ≤ _; omega)
    rw [val_digs, show val ((List.replicate 1 (0 : Int)).set 0 10) = 10 from rfl] at mu
    have hvd : val ((List.replicate 1 (0 : Int)).set 0 ((d % 10 : Nat) : Int)) = d % 10 := by show ((d % 10 : Nat) : Int).toNat + 18446744073709551616 * val [] = _; rw [Int.toNat_natCast]; rfl
    have ad := Add_ev (a := digs (A * 10)) (b := ((List.replicate 1 (0 : Int)).set 0 ((d % 10 : Nat) : Int))) (WF.digs _) (WF.cons (by omega) (by omega) WF.nil) (lb_ofB hm (by omega)) (by unfold Lb; simp) (by rw [val_digs]; omega) (by rw [hvd]; omega)
    rw [val_digs, hvd] at ad
    refine Ev2.pos (by rw [hbs]; omega) (Ev2.call p (Ev2.call mu (Ev2.neg (nF rfl) (Ev2.neg (nF rfl) (Ev2.call ad (Ev2.call (same_refl (lb_ofB hs (by omega))) (Ev2.neg (notF rfl) ?_)))))))
    exact Ev2.call (f := fun _ _ x => some x) (back_j2 n) (Ev2.some _) |> Ev2.congr (fun k l => by cases vernierlaw02_NatBack.j2 k n <;> rfl)
  | succ m ih =>
    intro i hi
    refine Ev2.step (fun k l => vernierlaw02_NatBack.l1_eq k l _ _ _ _ _) ?_
    have hg := (decT_dig A).getD (i := i) (by omega)
    have e0 : bt (decT A) (i : Int) = (bl (decT A)).getD i 0 := by rw [bt_bl]; rfl
    rw [e0, succ_i i (by omega)]
    exact Ev2.pos (dT (by omega)) (Ev2.pos ⟨by omega, by omega⟩ (Ev2.neg (dF (by omega)) (Ev2.pos ⟨by omega, by omega⟩ (Ev2.neg (dF (by omega)) (ih (i + 1) (by omega))))))
/-- For all lists, bytes and numbers: true. -/
theorem NatBack (a : List Int) (d n : Int) (wa : WFt (.sl (.int .u64)) a) (wd : (Lit.int .u8 d).wf = true) (wn : (Lit.int .i64 n).wf = true) : Ev (fun k => vernierlaw02_NatBack k a d n) true := by
  obtain ⟨ha, la⟩ := wf_wordsB wa
  obtain ⟨d0, d1⟩ := wf_u8 wd
  obtain ⟨dd, rfl⟩ := Int.eq_ofNat_of_zero_le d0
  refine Ev.congr (fun k => vernierlaw02_NatBack_eq k a _ n) (Ev.bind awake_ev (Ev.neg (notF rfl) (Ev.bind (size_ev ha la) ?_)))
  by_cases ca : (digs (val a)).length ≤ 300
  · refine Ev.neg (dF (by omega)) (Ev.bind (twin_ev la) (Ev.bind (Text_ev ha la (by omega)) ?_))
    obtain ⟨b1, b2⟩ := decT_bounds (by decide) ca
    have p := Parse_ev (s := decT (val a)) b1 (by omega) (decT_dig _)
    rw [decT_val, if_pos (by omega)] at p
    have j0 : Ev (fun k => vernierlaw02_NatBack.j0 k (dd : Int) n (decT (val a)) (digs (val a))) true :=
      Ev.congr (fun k => vernierlaw02_NatBack.j0_eq k _ _ _ _) (Ev2.ev (back_l1 ca dd n (by omega) (decT (val a)).size 0 (by omega)))
    refine Ev.bind p (Ev.neg (nF rfl) (Ev.neg (nF rfl) (Ev.bind (twin_ev la) (Ev.bind (Trim_ev ha la) (Ev.bind (same_refl (lb_ofB ca (by omega))) (Ev.neg (notF rfl) (Ev.neg (bF ?_) (Ev.pos ⟨by omega, ?_⟩ ?_))))))))
    · show ((decT (val a)).size : Int) ≠ 0; omega
    · show 0 < ((decT (val a)).size : Int); omega
    · show Ev (fun k => if (bt (decT (val a)) 0 == 48) = true then (if decide (((decT (val a)).size : Int) > 1) = true then some false else vernierlaw02_NatBack.j0 k (dd : Int) n (decT (val a)) (digs (val a))) else vernierlaw02_NatBack.j0 k (dd : Int) n (decT (val a)) (digs (val a))) true
      by_cases h0 : val a = 0
      · rw [h0] at j0 ⊢
        refine Ev.pos ?_ (Ev.neg (dF ?_) j0)
        · rw [bt_bl, bl_decT0]; rfl
        · rw [decT_size, if_pos rfl]; decide
      · refine Ev.neg (bF ?_) j0
        rw [bt_bl, bl_decT h0]
        have hp : (decs (val a)).length ≠ 0 := fun e => h0 (decs_nil.1 (List.length_eq_zero_iff.1 e))
        have := decs_top h0
        rw [List.getD_eq_getElem?_getD] at this ⊢
        rw [show ((0 : Int).toNat) = 0 from rfl, List.getElem?_reverse (by omega)]
        exact this
  · exact Ev.pos (dT (by omega)) (Ev.some _)
end Pure
end Go.Proofs.Ytdhndlcijpgjgaa.X
