/- Plain law: the natural that hexadecimal digits say, by the program. Conditions: some two thousand digits at most. -/
import Derived.Test.YtmoeaeflljpboaaDoorHxB
namespace Go.Proofs.YtmoeaeflljpboaaDoor.X
open Go Go.Rex
set_option linter.unusedVariables false

/-- The natural that digits say, the highest first. -/
def hexN (ds : List Int) : Nat := ds.foldl (fun v d => 16 * v + d.toNat) 0
theorem hexN_snoc (ds : List Int) (d : Int) : hexN (ds ++ [d]) = 16 * hexN ds + d.toNat := by unfold hexN; rw [List.foldl_append]; rfl
theorem hexN_from (l : List Int) : ∀ v : Nat, l.foldl (fun v d => 16 * v + d.toNat) v = v * 16 ^ l.length + hexN l := by
  unfold hexN
  induction l with
  | nil => intro v; simp
  | cons c r ih =>
    intro v
    rw [List.foldl_cons, List.foldl_cons, ih, ih (16 * 0 + c.toNat), List.length_cons, Nat.pow_succ]
    grind
theorem hexN_append (a b : List Int) : hexN (a ++ b) = hexN a * 16 ^ b.length + hexN b := by
  have := hexN_from b (hexN a)
  unfold hexN at *
  rw [List.foldl_append]; exact this
theorem hexN_lt {ds : List Int} (h : HexL ds) : hexN ds < 16 ^ ds.length := by
  have key : ∀ n, ∀ l : List Int, l.length = n → HexL l → hexN l < 16 ^ n := by
    intro n
    induction n with
    | zero => intro l hl _; rw [List.length_eq_zero_iff.1 hl]; decide
    | succ n ih =>
      intro l hl h
      obtain ⟨a, x, rfl⟩ : ∃ a x, l = a ++ [x] := ⟨l.dropLast, l.getLast (by intro c; rw [c] at hl; cases hl), (List.dropLast_concat_getLast _).symm⟩
      have := ih a (by simpa using hl) (fun y hy => h y (List.mem_append_left _ hy))
      have hx := h x (by simp)
      rw [hexN_snoc, Nat.pow_succ]
      omega
  exact key _ _ rfl h
theorem hexN_take {ds : List Int} {i : Nat} (hi : i < ds.length) : hexN (ds.take (i + 1)) = 16 * hexN (ds.take i) + (ds.getD i 0).toNat := by
  rw [List.take_add_one, List.getElem?_eq_getElem hi, Option.toList_some, hexN_snoc, List.getD_eq_getElem?_getD, List.getElem?_eq_getElem hi, Option.getD_some]
theorem val_set_at : ∀ {p : List Int} {q : Nat} (h : q < p.length) (x : Int), val (p.set q x) + 18446744073709551616 ^ q * (p.getD q 0).toNat = val p + 18446744073709551616 ^ q * x.toNat
  | [], q, h, x => by simp at h
  | a :: r, 0, h, x => by
    rw [List.set_cons_zero, val_cons, val_cons, List.getD_cons_zero]; omega
  | a :: r, q + 1, h, x => by
    have := val_set_at (p := r) (q := q) (by simpa using h) x
    rw [List.set_cons_succ, val_cons, val_cons, List.getD_cons_succ, Nat.pow_succ]
    generalize 18446744073709551616 ^ q = Q at *
    generalize val (r.set q x) = A at *
    generalize val r = B at *
    generalize (r.getD q 0).toNat = g at *
    generalize x.toNat = y at *
    grind
/-- The lowest bits of a word of a number that ends in zeros. -/
theorem word_zeros {p : List Int} (hw : WF p) {q t : Nat} (hq : q < p.length) (ht : t ≤ 64) (h : 18446744073709551616 ^ q * 2 ^ t ∣ val p) : (p.getD q 0).toNat % 2 ^ t = 0 := by
  have hB := Nat.pow_pos (n := q) (show 0 < 18446744073709551616 by decide)
  have hp := Nat.two_pow_pos t
  have e1 := val_take_drop p q
  have lt := val_lt (hw.take q)
  rw [List.length_take, Nat.min_eq_left (by omega)] at lt
  have e2 : p.drop q = p.getD q 0 :: p.drop (q + 1) := drop_cons hq
  rw [e2, val_cons] at e1
  obtain ⟨c, hc⟩ := h
  have z : val (p.take q) = 0 := by
    have h1 : 18446744073709551616 ^ q ∣ val (p.take q) := by
      have h2 : 18446744073709551616 ^ q ∣ val p := ⟨2 ^ t * c, by rw [hc, Nat.mul_assoc]⟩
      rw [e1] at h2
      exact (Nat.dvd_add_left (Nat.dvd_mul_right _ _)).1 h2
    rcases Nat.eq_zero_or_pos (val (p.take q)) with g | g
    · exact g
    · have := Nat.le_of_dvd g h1; omega
  rw [z, Nat.zero_add, hc, Nat.mul_assoc] at e1
  have e3 := Nat.eq_of_mul_eq_mul_left hB e1
  have h64 : 2 ^ t ∣ 18446744073709551616 := by
    rw [show 18446744073709551616 = 2 ^ 64 by decide]; exact Nat.pow_dvd_pow 2 ht
  have h5 : 2 ^ t ∣ (p.getD q 0).toNat := by
    have h6 : 2 ^ t ∣ (p.getD q 0).toNat + 18446744073709551616 * val (p.drop (q + 1)) := ⟨c, e3.symm⟩
    exact (Nat.dvd_add_left (Nat.dvd_trans h64 (Nat.dvd_mul_right _ _))).1 h6
  exact Nat.mod_eq_zero_of_dvd h5
theorem hex_getD {ds : List Int} (h : HexL ds) {i : Nat} (hi : i < ds.length) : 0 ≤ ds.getD i 0 ∧ ds.getD i 0 < 16 := by
  rw [List.getD_eq_getElem?_getD, List.getElem?_eq_getElem hi]; exact h _ (List.getElem_mem hi)
theorem pow16 (pl : Nat) : (16 : Nat) ^ pl = 18446744073709551616 ^ (pl / 16) * 2 ^ (pl % 16 * 4) := by
  rw [show (18446744073709551616 : Nat) = 2 ^ 64 by decide, show (16 : Nat) = 2 ^ 4 by decide, ← Nat.pow_mul, ← Nat.pow_mul, ← Nat.pow_add]
  congr 1
  have : (2 : Nat) ^ 4 = 16 := by decide
  rw [this]
  omega
/-- One digit put into its place. -/
theorem place_digit {p : List Int} (hw : WF p) {pl d : Nat} (hd : d < 16) (hq : pl / 16 < p.length) (h : 16 ^ (pl + 1) ∣ val p) :
    ∃ x : Nat, orK IntKind.u64 (p.getD (pl / 16) 0) (shlK IntKind.u64 (d : Int) ((pl % 16 * 4 : Nat) : Int)) = (x : Int) ∧ x < 18446744073709551616 ∧ val (p.set (pl / 16) (x : Int)) = val p + d * 16 ^ pl := by
  have hm : pl % 16 < 16 := Nat.mod_lt _ (by decide)
  obtain ⟨t, ht⟩ : ∃ t, t = pl % 16 * 4 := ⟨_, rfl⟩
  have e16 := pow16 pl
  rw [← ht] at e16
  have hz := word_zeros hw (q := pl / 16) (t := t + 4) hq (by omega) (by
    rw [Nat.pow_succ, e16] at h
    rw [Nat.pow_add]
    have : 18446744073709551616 ^ (pl / 16) * (2 ^ t * 2 ^ 4) = 18446744073709551616 ^ (pl / 16) * 2 ^ t * 16 := by grind
    rw [this]; exact h)
  have hg := hw.getD (pl / 16)
  have vs := val_set_at hq (((p.getD (pl / 16) 0).toNat + d * 2 ^ t : Nat) : Int)
  obtain ⟨w, hwn⟩ := Int.eq_ofNat_of_zero_le hg.1
  rw [hwn] at hg hz vs ⊢
  rw [Int.toNat_natCast] at hz vs
  rw [Int.toNat_natCast] at vs
  have hp := Nat.two_pow_pos t
  have h4 : 2 ^ (t + 4) = 16 * 2 ^ t := by rw [Nat.pow_add, Nat.mul_comm]
  have hdt : d * 2 ^ t < 2 ^ (t + 4) := by rw [h4]; exact Nat.mul_lt_mul_of_pos_right hd hp
  have htop : 2 ^ (t + 4) * 2 ^ (60 - t) = 18446744073709551616 := by rw [← Nat.pow_add, show t + 4 + (60 - t) = 64 by omega]
  have hsum : w + d * 2 ^ t < 18446744073709551616 := by
    have h1 := Nat.div_add_mod w (2 ^ (t + 4))
    rw [hz, Nat.add_zero] at h1
    have h2 : w / 2 ^ (t + 4) < 2 ^ (60 - t) := by
      rw [Nat.div_lt_iff_lt_mul (Nat.two_pow_pos _), Nat.mul_comm, htop]; omega
    have h3 : 2 ^ (t + 4) * (w / 2 ^ (t + 4) + 1) ≤ 18446744073709551616 := by rw [← htop]; exact Nat.mul_le_mul_left _ h2
    rw [Nat.mul_add, h1, Nat.mul_one] at h3
    omega
  refine ⟨w + d * 2 ^ t, ?_, hsum, ?_⟩
  · rw [← ht, shlK_exact d t (by omega) (by omega), orK_add w (d * 2 ^ t) (t + 4) hdt hz hsum]
  · rw [e16]
    have : 18446744073709551616 ^ (pl / 16) * (w + d * 2 ^ t) = 18446744073709551616 ^ (pl / 16) * w + d * (18446744073709551616 ^ (pl / 16) * 2 ^ t) := by grind
    omega
theorem natural_l0 {ds : List Int} (h : HexL ds) (hl : ds.length ≤ 100000) (n : Nat) : ∀ (i : Nat) (p : List Int), i + n = ds.length → WF p → p.length = ds.length / 16 + 1 → val p = hexN (ds.take i) * 16 ^ (ds.length - i) →
    ∃ ws, Ev2 (fun k m => hexes_natural.l0 k m ds ds (ds.length : Int) (i : Int) p) ws ∧ WF ws ∧ val ws = hexN ds ∧ ws.length = ds.length / 16 + 1 := by
  induction n with
  | zero =>
    intro i p hi hw hp hv
    rw [List.take_of_length_le (by omega), show ds.length - i = 0 by omega, Nat.pow_zero, Nat.mul_one] at hv
    exact ⟨p, Ev2.step (fun k m => hexes_natural.l0_eq k m _ _ _ _ _) (Ev2.neg (dF (by omega)) (Ev2.some _)), hw, hv, hp⟩
  | succ n ih =>
    intro i p hi hw hp hv
    have hlt : i < ds.length := by omega
    obtain ⟨d0, d1⟩ := hex_getD h hlt
    obtain ⟨pl, hpl⟩ : ∃ pl, pl = ds.length - 1 - i := ⟨_, rfl⟩
    have hs : ds.length - i = pl + 1 := by omega
    have hq : pl / 16 < p.length := by rw [hp]; omega
    rw [hs] at hv
    obtain ⟨d, hd⟩ := Int.eq_ofNat_of_zero_le d0
    obtain ⟨x, ex, hx, vx⟩ := place_digit hw (d := d) (by omega) hq ⟨hexN (ds.take i), by rw [hv, Nat.mul_comm]⟩
    obtain ⟨ws, g1, g2⟩ := ih (i + 1) (p.set (pl / 16) (x : Int)) (by omega) (hw.set _ (by omega) (by omega)) (by rw [List.length_set]; exact hp) (by
      rw [vx, hv, hexN_take hlt, hd, Int.toNat_natCast, show ds.length - (i + 1) = pl by omega, Nat.pow_succ]; grind)
    refine ⟨ws, ?_, g2⟩
    have w1 : IntKind.i64.wrap ((IntKind.i64.wrap ((ds.length : Int) - 1)) - (i : Int)) = (pl : Int) := by rw [wrapI (x := (ds.length : Int) - 1) (by omega) (by omega), wrapI (by omega) (by omega)]; omega
    have w2 : (pl : Int).tdiv 16 = ((pl / 16 : Nat) : Int) := rfl
    have w3 : (pl : Int).tmod 16 = ((pl % 16 : Nat) : Int) := rfl
    have w4 : IntKind.i64.wrap ((pl / 16 : Nat) : Int) = ((pl / 16 : Nat) : Int) := wrapI (by omega) (by omega)
    have w5 : IntKind.i64.wrap (((pl % 16 : Nat) : Int) * 4) = ((pl % 16 * 4 : Nat) : Int) := by rw [wrapI (by omega) (by omega)]; omega
    have w6 : IntKind.u64.wrap (d : Int) = (d : Int) := wrapUn (by omega)
    have w7 : IntKind.i64.wrap ((i : Int) + 1) = ((i + 1 : Nat) : Int) := by rw [wrapI (by omega) (by omega)]; omega
    refine Ev2.step (fun k m => hexes_natural.l0_eq k m _ _ _ _ _) (Ev2.pos (dT (by omega)) (Ev2.pos ⟨by omega, by omega⟩ ?_))
    rw [w1, w2, w3, w4, w5, w7, Int.toNat_natCast, Int.toNat_natCast, hd, w6, ex]
    exact Ev2.pos ⟨by omega, by omega⟩ (Ev2.pos (by omega) (Ev2.pos ⟨by omega, by omega⟩ g1))
theorem natural_ev {ds : List Int} (h : HexL ds) (hl : ds.length ≤ 100000) : ∃ ws, Ev (fun k => hexes_natural k ds) ws ∧ WF ws ∧ val ws = hexN ds ∧ ws.length = ds.length / 16 + 1 := by
  obtain ⟨ws, g1, g2⟩ := natural_l0 h hl ds.length 0 (List.replicate (ds.length / 16 + 1) 0) (by omega) (WF.replicate _) (by simp) (by rw [val_replicate, List.take_zero]; simp [hexN])
  refine ⟨ws, Ev.congr (fun k => hexes_natural_eq k ds) ?_, g2⟩
  have w2 : ((ds.length : Nat) : Int).tdiv 16 = ((ds.length / 16 : Nat) : Int) := rfl
  rw [w2, wrapI (x := ((ds.length / 16 : Nat) : Int)) (by omega) (by omega), wrapI (by omega) (by omega), show (((ds.length / 16 : Nat) : Int) + 1).toNat = ds.length / 16 + 1 by omega]
  exact Ev.pos ⟨by omega, by omega⟩ g1.ev
end Go.Proofs.YtmoeaeflljpboaaDoor.X
