/- Rex, 2: the evaluator's soundness for codes and functions; contracts; from a row's reading to a run; words and digits. No conditions beyond those that each states. -/
import Derived.Test.YtmoeaeflljpboaaDoorR1
import Derived.Laws.Externs
import Derived.ChangeSlices
import GoSem.ClaimJoined
import Derived.OpenShut
import Derived.Laws.Sem
/- Rex, part V: copy. -/
namespace Go.Rex

theorem splice_length {α : Type} (xs : List α) (o : Nat) (q : Option Nat) (zs : List α) (ho : o ≤ xs.length) (hq : ∀ k, q = some k → o + k ≤ xs.length) (hz : zs.length = (window xs o q).length) : (splice xs o q zs).length = xs.length := by
  cases q with
  | none => simp only [splice, window, List.length_append, List.length_take, List.length_drop] at *; omega
  | some k => have := hq k rfl; simp only [splice, window, List.length_append, List.length_take, List.length_drop] at *; omega

theorem splice_in {α : Type} (xs : List α) (o : Nat) (q : Option Nat) (zs : List α) (ho : o ≤ xs.length) (i : Nat) (hi : i < zs.length) : (splice xs o q zs)[o + i]? = zs[i]? := by
  have h1 : (xs.take o).length = o := by rw [List.length_take]; omega
  cases q with
  | none => simp only [splice]; rw [List.getElem?_append_right (by omega), h1, show o + i - o = i by omega]
  | some k => simp only [splice]; rw [List.getElem?_append_right (by omega), h1, show o + i - o = i by omega, List.getElem?_append_left hi]

theorem splice_out {α : Type} (xs : List α) (o : Nat) (q : Option Nat) (zs : List α) (ho : o ≤ xs.length) (hq : ∀ k, q = some k → o + k ≤ xs.length) (hz : zs.length = (window xs o q).length) (i : Nat) (hi : i < o ∨ o + zs.length ≤ i) : (splice xs o q zs)[i]? = xs[i]? := by
  have h1 : (xs.take o).length = o := by rw [List.length_take]; omega
  rcases hi with hi | hi
  · cases q with
    | none => simp only [splice]; rw [List.getElem?_append_left (by omega), List.getElem?_take, if_pos hi]
    | some k => simp only [splice]; rw [List.getElem?_append_left (by omega), List.getElem?_take, if_pos hi]
  · cases q with
    | none =>
      have h2 : zs.length = xs.length - o := by rw [hz]; simp [window]
      simp only [splice]
      rw [List.getElem?_eq_none (by rw [List.length_append, h1]; omega), List.getElem?_eq_none (by omega)]
    | some k =>
      have h3 := hq k rfl
      have h2 : zs.length = k := by rw [hz]; simp only [window, List.length_take, List.length_drop]; omega
      simp only [splice]
      rw [List.getElem?_append_right (by omega), h1, List.getElem?_append_right (by omega), List.getElem?_drop]
      congr 1; omega

section
variable {P : Program} {C : Ctx} {look : Look} {evv : Operand → AV} {nb : Nat} {ρ : Type} {K : Eff → Option ρ} {r : ρ} {fuel : Nat}

theorem copy_sound {o : Oper} {c : Call} (hT : TabOk P C) (ho : o.op = .call c) (hc : c.callee = .builtin .copy) {b p : Nat} {q : Option Nat} {x : AV0} {t : TypeId} {ts : List TypeId} (ha : c.args.toList.map evv = [.v (false, [.sl b p q]), .v (false, [x])]) (ht : c.argTypes.toList = t :: ts)
    {u : Ty} {xs ys : List u.den} {md : Md} {us : List (Nat × Option Blk)} (hb : look b = some (.arr u xs md)) (hys : elems look u x = some (ys, us)) (hu1 : u.size = 1) (hmd : md ≠ .fz) (hs : elemSize C t = some 1) :
    Sound P C.gl look evv nb o ⟨.one (.int .i64 ((min ys.length (window xs p q).length : Nat) : Int)), [(b, some (.arr u (splice xs p q (ys.take (min ys.length (window xs p q).length) ++ (window xs p q).drop (min ys.length (window xs p q).length))) md))]⟩ := by
  intro m R w f hp hr
  rw [ho] at hr
  obtain ⟨hl, hg⟩ := args_of ha hr
  obtain ⟨sv, g1, g2⟩ := hg 0 _ rfl
  obtain ⟨xv, g3, g4⟩ := hg 1 _ rfl
  have hargs : c.args.map f = #[sv, xv] := by
    apply Array.ext_getElem?
    intro i
    have h0 : (c.args.map f).size = 2 := by simpa using hl
    match i with
    | 0 => simpa using g1
    | 1 => simpa using g3
    | i + 2 => rw [Array.getElem?_eq_none (by omega)]; simp
  have ht0 : c.argTypes[0]? = some t := by
    have : c.argTypes.toList[0]? = some t := by rw [ht]; rfl
    simpa using this
  obtain ⟨e, te, hu, hte, hok, hsz⟩ := elemSize_ok hT hs
  obtain ⟨consts, hrun⟩ := run_builtin (P := P) (f := f) (w := w) ho hc
  rw [hargs] at hrun
  obtain ⟨L, hL, a, ln, cp, rfl, s1, s2, s3, s4, s5, s6⟩ := g2
  obtain ⟨L', hL', hB⟩ := hp.blk _ _ hb
  rw [hL] at hL'; cases hL'
  obtain ⟨b1, b2, b3, b4⟩ := hB
  have hwl := window_length xs p q b1 s2 s3 s4
  obtain ⟨a2, c2, e2, hc2, hsh⟩ := elems_at hp.blk hys g4
  generalize hn : min ys.length (window xs p q).length = n
  have hn1 : n ≤ ys.length := by omega
  have hn2 : n ≤ ln := by omega
  have hta : SlAt R w u (ys.take n) (.slice a2 (ys.take n).length ys.length) := by
    refine ⟨a2, ys.length, rfl, by rw [List.length_take]; omega, fun hne => ?_⟩
    obtain ⟨ad, h1, h2, h3⟩ := hsh (by rintro rfl; simp at hne)
    refine ⟨ad, h1, h2, fun i y hy => h3 i y ?_⟩
    rw [List.getElem?_take] at hy
    split at hy
    · exact hy
    · cases hy
  obtain ⟨vs, v1, v2, v3, v4⟩ := slice_cells (P := P) hta
  have hlen : (ys.take n).length = n := by rw [List.length_take]; omega
  rw [hlen] at v1 v3
  have hfc : (Builtin.firstCells te.size n xv).run P w = .ok vs.toArray w := by
    rw [e2]
    rw [hsz, ← hu1]
    have := v3 w rfl
    cases a2 <;> exact this
  have hrun2 : ∀ w', ((match a with | some a => storeCells a vs.toArray.toList | none => pure () : Sem Unit).run P w) = .ok () w' → (execOp f o).run P w = .ok (.value (.int .i64 n)) w' := by
    intro w' hw
    rw [hrun]
    have hln : Nat.min ys.length ln = n := by rw [← hn, hwl]
    subst e2
    simp only [builtin, Builtin.copy_, ht0, List.getElem?_toArray, List.getElem?_cons_zero, List.getElem?_cons_succ, Sem.run_bind, run_underlying hu, Result.andThen_ok, Builtin.lenOf, Sem.run_pure, run_sizeOf hok, hln, hfc]
    cases a with
    | none => cases hw; rfl
    | some a =>
      simp only [Sem.run_bind]
      simp only at hw
      rw [hw]; rfl
  have hz : (ys.take n ++ (window xs p q).drop n).length = (window xs p q).length := by
    rw [List.length_append, hlen, List.length_drop]; omega
  have hpx : p ≤ xs.length := by omega
  have hqx : ∀ k, q = some k → p + k ≤ xs.length := fun k hk => by have := (s4 k hk).2; omega
  have hin : ∀ i y, (splice xs p q (ys.take n ++ (window xs p q).drop n))[i]? = some y → (∃ j, i = p + j ∧ j < n ∧ (ys.take n)[j]? = some y) ∨ ((i < p ∨ p + n ≤ i) ∧ xs[i]? = some y) := by
    intro i y hy
    by_cases h1 : i < p
    · rw [splice_out xs p q _ hpx hqx hz i (.inl h1)] at hy; exact .inr ⟨.inl h1, hy⟩
    · by_cases h2 : p + (window xs p q).length ≤ i
      · rw [splice_out xs p q _ hpx hqx hz i (.inr (by omega))] at hy; exact .inr ⟨.inr (by omega), hy⟩
      · have h3 := splice_in xs p q (ys.take n ++ (window xs p q).drop n) hpx (i - p) (by omega)
        rw [show p + (i - p) = i by omega] at h3
        rw [h3] at hy
        by_cases h4 : i - p < n
        · rw [List.getElem?_append_left (by omega)] at hy
          exact .inl ⟨i - p, by omega, h4, hy⟩
        · rw [List.getElem?_append_right (by omega), hlen, List.getElem?_drop, show n + (i - p - n) = i - p by omega] at hy
          have := window_get xs p q _ _ hy
          rw [show p + (i - p) = i by omega] at this
          exact .inr ⟨.inr (by omega), this⟩
  have hR0 : ∀ k, Dem m [] R k → R k := fun k hk => hk.elim id fun ⟨_, _, _, h, _⟩ => (by cases h)
  cases hLc : L.c with
  | none =>
    obtain ⟨rfl, rfl⟩ := s5 hLc
    have h0 : xs = [] := b3 hLc
    subst h0
    refine Outcome.value (hrun2 w rfl) ⟨m, Dem m [] R, Post.write (B0 := .arr u [] md) (dems := []) hp (fun _ h => by cases h) hb hL hmd rfl (fun _ h => by cases h) (Keeps.refl _ _) ?_ rfl⟩
    have he : splice ([] : List u.den) p q (ys.take n ++ (window [] p q).drop n) = [] := List.length_eq_zero_iff.1 (by rw [splice_length [] p q _ hpx hqx hz]; rfl)
    rw [he]
    exact ⟨b1, b2, fun _ => rfl, fun c' hc' => by rw [hLc] at hc'; cases hc'⟩
  | some cc =>
    obtain ⟨k1, ad, rfl, k2⟩ := s6 cc hLc
    obtain ⟨cs, ce, fr, c1, c2', c3, c4, c5⟩ := b4 cc hLc
    obtain rfl := c4 hmd
    have hw : ∃ w' cs', (storeCells ad vs.toArray.toList).run P w = .ok () w' ∧ Keeps (fun k j => L.c = some k ∧ Owns L md j) w w' ∧ w'.heap[cc]? = some (.cells cs' ce (0, 0)) ∧ cs'.size = cs.size ∧
        (∀ j, j < n → cs'[L.off + (p + j)]? = vs[j]?) ∧ (∀ j, (j < L.off + p ∨ L.off + p + n ≤ j) → cs'[j]? = cs[j]?) := by
      by_cases hn0 : n = 0
      · have : vs = [] := List.length_eq_zero_iff.1 (by rw [v1, hn0, Nat.zero_mul])
        subst this
        exact ⟨w, cs, rfl, Keeps.refl _ _, c1, rfl, fun j hj => by omega, fun _ _ => rfl⟩
      · obtain ⟨rfl, k3⟩ := k2 (by omega)
        have hvl : vs.length = n := by rw [v1, hu1, Nat.mul_one]
        have hpl : p + n ≤ L.len := by
          cases q with
          | none => have := s3 rfl; omega
          | some k => have := s4 k rfl; omega
        have hsz1 : L.sz = 1 := by rw [b2, hu1]
        obtain ⟨w', cs', d1, d2, d3, d4, d5, d6⟩ := run_storeCells (P := P) (c := cc) (o := L.off + p * L.sz) (e := ce) vs 0 w cs c1 (by rw [hvl, c2']; rw [hsz1] at c3 ⊢; omega) v2
        rw [hsz1] at d2 d5 d6
        refine ⟨w', cs', d1, d2.mono fun k _ j hx => ⟨by rw [hLc, hx.1], ?_⟩, d3, d4, fun j hj => ?_, fun j hj => d6 j (by omega)⟩
        · cases md with
          | fz => exact absurd rfl hmd
          | full => trivial
          | win => exact ⟨by omega, by rw [hsz1]; omega⟩
        · have := d5 j (by omega)
          rw [show L.off + (p + j) = L.off + p * 1 + 0 + j by omega]; exact this
    obtain ⟨w', cs', d1, d2, d3, d4, d5, d6⟩ := hw
    have hsame : Same R w w' := fun k hR => d2.same (hp.rsize k hR) fun _ h => hp.rw b _ L k hb hmd hL h.1 hR
    refine Outcome.value (hrun2 w' d1) ⟨m, Dem m [] R, Post.write (B0 := .arr u xs md) (dems := []) hp (fun _ h => by cases h) hb hL hmd rfl (fun _ h => by cases h) d2 ?_ rfl⟩
    refine ⟨by rw [splice_length xs p q _ hpx hqx hz, b1], b2, fun h => (by rw [hLc] at h; cases h), fun c' hc' => ?_⟩
    rw [hLc] at hc'; cases hc'
    refine ⟨cs', ce, (0, 0), d3, by rw [d4, c2'], c3, fun _ => rfl, fun i y hy => ?_⟩
    rcases hin i y hy with ⟨j, rfl, hj, hyj⟩ | ⟨ho', hyi⟩
    · obtain ⟨l, q1, q2⟩ := v4 j y hyj
      refine ⟨l, q1.mono (fun _ h => .inl h) hsame, fun k z hz' => ?_⟩
      have hk : k = 0 := by have := (List.getElem?_eq_some_iff.1 hz').1; rw [q1.length, hu1] at this; omega
      subst hk
      have := q2 0 z hz'
      rw [hu1] at this ⊢
      rw [Nat.mul_one, Nat.add_zero, d5 j hj]; simpa using this
    · obtain ⟨l, q1, q2⟩ := c5 i y hyi
      refine ⟨l, q1.mono (fun _ h => .inl h) hsame, fun k z hz' => ?_⟩
      have hk : k = 0 := by have := (List.getElem?_eq_some_iff.1 hz').1; rw [q1.length, hu1] at this; omega
      subst hk
      have := q2 0 z hz'
      rw [hu1] at this ⊢
      rw [d6 _ (by omega)]; exact this

end
end Go.Rex
/- Rex, part W: calls of functions that have a contract; a step of whatever kind. -/
namespace Go.Rex

def CallOut (P : Program) (g : Nat) (vs : Array Value) (w : World) (N : Value → World → Prop) : Prop :=
  match (callFunc g vs).run P w with
  | .ok (.value v) w' => N v w'
  | .ok .skip w' => N undef w'
  | .ok (.enter f args) w' => Calls P f args w' fun
    | .returned v, w'' => N v w''
    | _, _ => False
  | _ => False

/-- What a call does. -/
def Does (P : Program) (gl : List (Nat × AV0)) (look : Look) (nb g : Nat) (args : List AV) (e : Eff) : Prop :=
  ∀ (m : Map) (R : Nat → Prop) (w : World) (vs : Array Value), Pre gl look nb m R w → vs.size = args.length → (∀ (i : Nat) x, args[i]? = some x → ∃ v, vs[i]? = some v ∧ AVRel R m w x v) →
    CallOut P g vs w fun v w' => ∃ m' R', Post look nb m R w e m' R' w' v

/-- A contract that holds. -/
def SpecOk (P : Program) (gl : List (Nat × AV0)) (g : Nat) (s : Spec) : Prop :=
  ∀ (fuel : Nat) (look : Look) (nb : Nat) (args : List AV) (out : s.sig.Out) (a : Used) (us : List (Nat × Option Blk)) (o' : Outs ((flat s.sig.rs).map RK.den)),
    shapeOk s.sig.ps args = true → applyArgs look s.sig.ks (s.F fuel) (leaves args) ⟨[], [], []⟩ = some (some out, a) → usedOk a = true → putMuts look s.sig.ks (leaves args) ((flat s.sig.rs).map RK.den) out = some (us, o') →
    Does P gl look nb g args (callEff s.sig nb a us o')

structure CtxOk (P : Program) (C : Ctx) : Prop where
  mixed : P.follows .mixedOrders = true
  tab : TabOk P C
  gl : ∀ g x, get g C.gl = some x → ids0 x = []
  spec : ∀ g s, s ∈ gets g C.F → SpecOk P C.gl g s

section
variable {P : Program} {C : Ctx} {look : Look} {evv : Operand → AV} {nb : Nat} {ρ : Type} {K : Eff → Option ρ} {r : ρ} {fuel : Nat}

theorem callSpec_good {s : Spec} {args : List AV} {g : Nat} (hs : SpecOk P C.gl g s) (h : callSpec s fuel look nb args K = some r) : ∃ e, K e = some r ∧ Does P C.gl look nb g args e := by
  unfold callSpec at h
  try simp only [cif_eq] at h
  split at h
  · rename_i hsh
    split at h
    · rename_i out a hap
      split at h
      · rename_i hus
        obtain ⟨o, ho, h2⟩ := Option.bind_eq_some_iff.1 h
        subst ho
        split at h2
        · rename_i us o' hpm
          exact ⟨_, h2, hs fuel look nb args o a us o' hsh hap hus hpm⟩
        · cases h2
      · cases h
    · cases h
  · cases h

theorem callAny_some {args : List AV} : ∀ {l : List Spec}, callAny fuel look nb args K l = some r → ∃ s, s ∈ l ∧ callSpec s fuel look nb args K = some r
  | [], h => by simp [callAny] at h
  | [s], h => ⟨s, List.mem_singleton.2 rfl, h⟩
  | s :: t :: l, h => by
    simp only [callAny, cif_eq] at h
    split at h
    · exact ⟨s, List.mem_cons_self, h⟩
    · obtain ⟨u, hu, h2⟩ := callAny_some h
      exact ⟨u, List.mem_cons_of_mem _ hu, h2⟩

theorem step_callFn {o : Oper} {c : Call} {f : Operand} {g : Nat} {s : Spec} (hs : SpecOk P C.gl g s) (ho : o.op = .call c) (hc : c.callee = .value f) (hf : evv f = .v (false, [.fn g])) (h : callSpec s fuel look nb (c.args.toList.map evv) K = some r) : Good P C look evv nb o K r := by
  obtain ⟨e, h1, h2⟩ := callSpec_good hs h
  refine ⟨e, h1, fun m R w ρ hp hr => ?_⟩
  have hfv : ρ f = .func (.func g) #[] #[] := by
    have := hr f (by rw [ho]; simp [Op.operands, Call.operands, hc])
    rw [hf] at this; exact this
  rw [ho] at hr
  obtain ⟨a1, a2⟩ := args_of rfl hr
  have h3 := h2 m R w (c.args.map ρ) hp (by simp) a2
  unfold CallOut at h3
  unfold Outcome
  have hrun : (execOp ρ o).run P w = (callFunc g (c.args.map ρ)).run P w := by
    unfold execOp; rw [ho]
    simp [resolve, hc, hfv, Deferred.ofValue, invoke]
  rw [hrun]
  exact h3

theorem step_good {o : Oper} (hC : CtxOk P C) (hev : EvOk evv) (h : step C fuel look evv nb o.op K = some r) : Good P C look evv nb o K r := by
  have hT := hC.tab
  cases ho : o.op with
  | move x => rw [ho] at h; exact step_move (.inl ho) h
  | assign x => rw [ho] at h; exact step_move (.inr ho) h
  | pick c x y => rw [ho] at h; exact step_pick ho h
  | alloc t => rw [ho] at h; exact step_alloc hT ho h
  | box t x => rw [ho] at h; exact step_box ho h
  | build t ps => rw [ho] at h; exact step_build hT ho h
  | buildSlice t n ps => rw [ho] at h; exact step_buildSlice hT ho h
  | load t x => rw [ho] at h; exact step_load hT ho h
  | store t x y => rw [ho] at h; exact step_store hT ho h
  | nilCheck x => rw [ho] at h; exact step_nilCheck ho h
  | binOp op t x y u => rw [ho] at h; exact step_binOp hT hev ho h
  | unOp op t x => rw [ho] at h; exact step_unOp ho h
  | convert s t x => rw [ho] at h; exact step_convert hT ho h
  | makeSlice t x y => rw [ho] at h; exact step_makeSlice hT ho hev h
  | slice t x lo hi mx =>
    rw [ho] at h
    cases mx with
    | none => exact step_slice hT ho h
    | some _ => simp [step] at h
  | fieldAddr s x i => rw [ho] at h; exact step_fieldAddr hT ho h
  | field s x i => rw [ho] at h; exact step_field hT ho h
  | indexAddr t x i => rw [ho] at h; exact step_indexAddr hT ho h
  | index t x i => rw [ho] at h; exact step_index hT ho h
  | extract x i => rw [ho] at h; exact step_extract ho h
  | call c =>
    rw [ho] at h
    simp only [step] at h
    split at h
    · rename_i f hc
      split at h
      · rename_i g hf
        obtain ⟨s, hs, h2⟩ := callAny_some h
        exact step_callFn (hC.spec g s hs) ho hc hf h2
      · cases h
    · rename_i b hc
      unfold builtinOp at h
      try simp only [cif_eq] at h
      split at h
      · rename_i x ha
        split at h
        · rename_i t ts ht
          split at h
          · rename_i n hn
            split at h
            · rename_i hs
              exact ⟨_, h, len_sound hT ho hc ha ht hn hs⟩
            · cases h
          · cases h
        · cases h
      · rename_i s x ha
        split at h
        · rename_i t t2 ht
          split at h
          · rename_i e ag sz by' z0 ty htt
            split at h
            · rename_i te hte
              split at h
              · rename_i xs us ys vs hxs hys
                split at h
                · rename_i hcond
                  split at h
                  · rename_i hm
                    have hm := capOk_le hm
                    simp only [Bool.and_eq_true, decide_eq_true_eq, beq_iff_eq, Bool.or_eq_true] at hcond
                    obtain ⟨⟨⟨⟨_, hown⟩, hb⟩, hsz⟩, ht2⟩ := hcond
                    have hn2 : notInt P t2 := by
                      rcases ht2 with h2 | h2
                      · exact ⟨_, isStrT_ok hT h2, fun k e => by cases e⟩
                      · obtain ⟨n, hn⟩ := Option.isSome_iff_exists.1 h2
                        obtain ⟨e', _, hu, _⟩ := elemSize_ok hT hn
                        exact ⟨_, hu, fun k e => by cases e⟩
                    split at h
                    · exact ⟨_, h, append_sound hT ho hc ha ht htt hte hxs hys hown hb hsz hn2 (by omega)⟩
                    · rename_i htw
                      simp only [Bool.and_eq_true] at htw
                      exact ⟨_, h, append_keep hT ho hc ha ht htt hte hxs hys hown htw.2 hb hsz hn2 (by omega)⟩
                  · cases h
                · cases h
              · cases h
            · cases h
          · cases h
        · cases h
      · rename_i b p q x ha
        split at h
        · rename_i u xs md t ts hb ht
          split at h
          · rename_i ys us hys
            split at h
            · rename_i hcond
              simp only [Bool.and_eq_true, beq_iff_eq] at hcond
              obtain ⟨⟨⟨_, hu1⟩, hmd⟩, hs⟩ := hcond
              have hs' : elemSize C t = some 1 := by
                unfold isOne at hs
                split at hs
                · assumption
                · cases hs
              exact ⟨_, h, copy_sound hT ho hc ha ht hb hys hu1 (by rintro rfl; cases hmd) hs'⟩
            · cases h
          · cases h
        · cases h
      · rename_i k x l ha
        split at h
        · rename_i y hy
          exact ⟨_, h, maxmin_sound ho (.inl rfl) hc ha (by simpa using hy)⟩
        · cases h
      · rename_i k x l ha
        split at h
        · rename_i y hy
          exact ⟨_, h, maxmin_sound ho (.inr rfl) hc ha (by simpa using hy)⟩
        · cases h
      · cases h
    · cases h
  | range t x => rw [ho] at h; exact step_range hT ho h
  | next x b => rw [ho] at h; exact step_next ho h
  | _ => rw [ho] at h; simp [step] at h

end
end Go.Rex
/- Rex, part X: a step looks at no other blocks than those that its operands lead into. -/
namespace Go.Rex

section
variable {C : Ctx} {look look' : Look} {evv : Operand → AV} {nb : Nat} {ρ : Type} {K : Eff → Option ρ} {fuel : Nat}

def Agree (look look' : Look) (l : List Nat) : Prop := ∀ b ∈ l, look b = look' b

theorem Agree.left {l r : List Nat} (h : Agree look look' (l ++ r)) : Agree look look' l := fun b hb => h b (List.mem_append_left _ hb)
theorem Agree.right {l r : List Nat} (h : Agree look look' (l ++ r)) : Agree look look' r := fun b hb => h b (List.mem_append_right _ hb)

theorem elems_congr {t : Ty} {x : AV0} (h : Agree look look' (ids0 x)) : elems look t x = elems look' t x := by
  cases x <;> first | rfl | (rename_i b o n; simp only [elems]; rw [h b (by simp [ids0])])

theorem lenOf_congr {x : AV0} (h : Agree look look' (ids0 x)) : lenOf look x = lenOf look' x := by
  cases x <;> first | rfl | (rename_i b o n; simp only [lenOf]; rw [h b (by simp [ids0])])

theorem uncells_congr : ∀ {t : Ty} {l : List AV0}, Agree look look' (idsL l) → uncells look t l = uncells look' t l ∧ ∀ x r u, uncells look t l = some (x, r, u) → ∃ p, l = p ++ r
  | .int k, l, h => by
    refine ⟨rfl, fun x r u hh => ?_⟩
    unfold uncells at hh
    split at hh
    · split at hh
      · cases hh; exact ⟨[_], rfl⟩
      · cases hh
    · cases hh
  | .bool, l, h => by
    refine ⟨rfl, fun x r u hh => ?_⟩
    unfold uncells at hh
    split at hh
    · cases hh; exact ⟨[_], rfl⟩
    · cases hh
  | .str, l, h => by
    refine ⟨rfl, fun x r u hh => ?_⟩
    unfold uncells at hh
    split at hh
    · cases hh; exact ⟨[_], rfl⟩
    · cases hh
  | .unit, l, h => ⟨rfl, fun x r u hh => by unfold uncells at hh; cases hh; exact ⟨[], rfl⟩⟩
  | .flt k, l, h => by
    refine ⟨rfl, fun x r u hh => ?_⟩
    unfold uncells at hh
    split at hh
    · split at hh
      · cases hh; exact ⟨[_], rfl⟩
      · cases hh
    · cases hh
  | .pair a b, l, h => by
    obtain ⟨e1, e2⟩ := uncells_congr (t := a) h
    unfold uncells
    rw [← e1]
    cases h1 : uncells look a l with
    | none => exact ⟨rfl, fun _ _ _ hh => by cases hh⟩
    | some p =>
      obtain ⟨x, r, u⟩ := p
      obtain ⟨p, rfl⟩ := e2 x r u h1
      have h' : Agree look look' (idsL r) := by
        intro b hb
        refine h b ?_
        clear h e1 e2 h1
        induction p with
        | nil => exact hb
        | cons y p ih => exact List.mem_append_right _ ih
      obtain ⟨e3, e4⟩ := uncells_congr (t := b) h'
      simp only
      rw [← e3]
      cases h2 : uncells look b r with
      | none => exact ⟨rfl, fun _ _ _ hh => by cases hh⟩
      | some q =>
        obtain ⟨y, r', u'⟩ := q
        obtain ⟨q, rfl⟩ := e4 y r' u' h2
        exact ⟨rfl, fun _ _ _ hh => by cases hh; exact ⟨p ++ q, by simp⟩⟩
  | .sl t, l, h => by
    unfold uncells
    cases l with
    | nil => exact ⟨rfl, fun _ _ _ hh => by cases hh⟩
    | cons x r =>
      simp only
      rw [← elems_congr (t := t) (x := x) (fun b hb => h b (List.mem_append_left _ hb))]
      refine ⟨rfl, fun y r' u hh => ?_⟩
      split at hh
      · cases hh; exact ⟨[_], rfl⟩
      · cases hh

theorem uncells_congr' {t : Ty} {l : List AV0} (h : Agree look look' (idsL l)) : uncells look t l = uncells look' t l := (uncells_congr h).1

theorem loadAt_congr {t : TypeId} {a : AV0} (h : Agree look look' (ids0 a)) : loadAt C look t a = loadAt C look' t a := by
  unfold loadAt
  split
  · rfl
  · cases a <;> first | rfl | (rename_i b _; simp only []; rw [h b (by simp [ids0])]) | (rename_i b _ _; simp only []; rw [h b (by simp [ids0])])

theorem storeAt_congr {t : TypeId} {a : AV0} {v : AV} (h : Agree look look' (ids0 a)) (hv : Agree look look' (ids v)) : storeAt C look t a v = storeAt C look' t a v := by
  unfold storeAt
  split
  · rename_i ti g l _
    split
    · split
      · rename_i b o; rw [h b (by simp [ids0])]
      · rename_i b i f
        rw [h b (by simp [ids0])]
        split
        · rename_i u xs m _
          rw [uncells_congr' (t := u) (l := l) hv]
        · rfl
      · rfl
    · rfl
  · rfl

theorem sliceOp_congr {t : TypeId} {x : AV0} {lo hi : Option Int} {K : AV0 → Option ρ} (h : Agree look look' (ids0 x)) : sliceOp C look t x lo hi K = sliceOp C look' t x lo hi K := by
  cases x <;> first | rfl | (rename_i b _ _; simp only [sliceOp]; rw [h b (by simp [ids0])]) | (rename_i b _; simp only [sliceOp]; rw [h b (by simp [ids0])])

theorem indexAddr_congr {t : TypeId} {x : AV0} {i : Int} {K : AV0 → Option ρ} (h : Agree look look' (ids0 x)) : indexAddr C look t x i K = indexAddr C look' t x i K := by
  cases x <;> first | rfl | (rename_i b _ _; simp only [indexAddr]; rw [h b (by simp [ids0])]) | (rename_i b _; simp only [indexAddr]; rw [h b (by simp [ids0])])

theorem applyArgs_congr {O : Type} : ∀ (ks : List AK) (F : ArgsTo ks (Option O)) (l : List AV0) (a : Used), Agree look look' (idsL l) → applyArgs look ks F l a = applyArgs look' ks F l a
  | [], F, [], a, _ => rfl
  | [], F, _ :: _, a, _ => rfl
  | k :: ks, F, [], a, _ => by cases k <;> rfl
  | k :: ks, F, x :: l, a, h => by
    have h1 : Agree look look' (ids0 x) := fun b hb => h b (List.mem_append_left _ hb)
    have h2 : Agree look look' (idsL l) := fun b hb => h b (List.mem_append_right _ hb)
    cases k with
    | int k =>
      cases x <;> simp only [applyArgs]
      split
      · exact applyArgs_congr ks _ l a h2
      · rfl
    | bool => cases x <;> simp only [applyArgs]; exact applyArgs_congr ks _ l a h2
    | flt k =>
      cases x <;> simp only [applyArgs]
      split
      · exact applyArgs_congr ks _ l a h2
      · rfl
    | str => cases x <;> simp only [applyArgs]; exact applyArgs_congr ks _ l a h2
    | ro t =>
      simp only [applyArgs]
      rw [elems_congr h1]
      split
      · exact applyArgs_congr ks _ l _ h2
      · rfl
    | rm t =>
      cases x <;> simp only [applyArgs]
      rename_i b o n
      rw [h1 b (by simp [ids0])]
      split
      · split
        · exact applyArgs_congr ks _ l _ h2
        · rfl
      · rfl
    | mu t =>
      cases x <;> simp only [applyArgs]
      rename_i b o n
      rw [h1 b (by simp [ids0])]
      split
      · split
        · exact applyArgs_congr ks _ l _ h2
        · rfl
      · rfl
    | pt t =>
      cases x <;> first | rfl | skip
      rename_i b o n
      cases n <;> first | rfl | skip
      simp only [applyArgs]
      rw [h1 b (by simp [ids0])]
      split
      · split
        · exact applyArgs_congr ks _ l _ h2
        · rfl
      · rfl
    | own t =>
      cases x <;> simp only [applyArgs]
      · exact applyArgs_congr ks _ l _ h2
      · rename_i b o n
        rw [h1 b (by simp [ids0])]
        split
        · split
          · exact applyArgs_congr ks _ l _ h2
          · rfl
        · rfl
    | fn g =>
      cases x <;> simp only [applyArgs]
      split
      · exact applyArgs_congr ks _ l a h2
      · rfl

theorem putMuts_congr : ∀ (ks : List AK) (l : List AV0) (rest : List Type) (o : Outs (muts ks ++ rest)), Agree look look' (idsL l) → putMuts look ks l rest o = putMuts look' ks l rest o
  | [], _, _, _, _ => rfl
  | k :: ks, [], rest, o, _ => by cases k <;> rfl
  | k :: ks, x :: l, rest, o, h => by
    have h1 : Agree look look' (ids0 x) := fun b hb => h b (List.mem_append_left _ hb)
    have h2 : Agree look look' (idsL l) := fun b hb => h b (List.mem_append_right _ hb)
    cases k with
    | mu t =>
      cases x <;> simp only [putMuts]
      rename_i b o' n
      rw [h1 b (by simp [ids0])]
      split
      · split
        · rw [putMuts_congr ks l rest _ h2]
        · rfl
      · rfl
    | pt t =>
      cases x <;> first | rfl | skip
      rename_i b o' n
      cases n <;> first | rfl | skip
      simp only [putMuts]
      rw [h1 b (by simp [ids0])]
      split
      · split
        · rw [putMuts_congr ks l rest _ h2]
        · rfl
      · rfl
    | int k => simp only [putMuts]; exact putMuts_congr ks l rest o h2
    | bool => simp only [putMuts]; exact putMuts_congr ks l rest o h2
    | flt k => simp only [putMuts]; exact putMuts_congr ks l rest o h2
    | rm t => simp only [putMuts]; exact putMuts_congr ks l rest o h2
    | str => simp only [putMuts]; exact putMuts_congr ks l rest o h2
    | ro t => simp only [putMuts]; exact putMuts_congr ks l rest o h2
    | own t => simp only [putMuts]; exact putMuts_congr ks l rest o h2
    | fn g => simp only [putMuts]; exact putMuts_congr ks l rest o h2

def idsM (l : List AV) : List Nat := l.flatMap ids

theorem idsL_append (a b : List AV0) : idsL (a ++ b) = idsL a ++ idsL b := by
  induction a with
  | nil => rfl
  | cons x a ih => simp [idsL, ih]

theorem leaves_agree : ∀ {l : List AV}, Agree look look' (idsM l) → Agree look look' (idsL (leaves l))
  | [], _ => fun _ h => by cases h
  | .v (_, cs) :: r, h => by
    intro b hb
    simp only [leaves, idsL_append] at hb
    rcases List.mem_append.1 hb with hb | hb
    · exact h b (List.mem_append_left _ hb)
    · exact leaves_agree (l := r) (fun b hb => h b (List.mem_append_right _ hb)) b hb
  | .tup _ :: r, h => leaves_agree (l := r) fun b hb => h b (List.mem_append_right _ hb)

theorem callSpec_congr {s : Spec} {args : List AV} (h : Agree look look' (idsM args)) : callSpec s fuel look nb args K = callSpec s fuel look' nb args K := by
  have hl := leaves_agree h
  unfold callSpec
  simp only [cif_eq]
  rw [applyArgs_congr _ _ _ _ hl]
  have : ∀ o, putMuts look s.sig.ks (leaves args) ((flat s.sig.rs).map RK.den) o = putMuts look' s.sig.ks (leaves args) ((flat s.sig.rs).map RK.den) o := fun o => putMuts_congr _ _ _ _ hl
  split
  · split
    · split
      · refine congrArg (Option.bind _) (funext fun o => ?_)
        rw [show putMuts look s.sig.ks (leaves args) ((flat s.sig.rs).map RK.den) o = putMuts look' s.sig.ks (leaves args) ((flat s.sig.rs).map RK.den) o from this o]
      · rfl
    · rfl
  · rfl

theorem callAny_congr {args : List AV} (h : Agree look look' (idsM args)) : ∀ l : List Spec, callAny fuel look nb args K l = callAny fuel look' nb args K l
  | [] => rfl
  | [s] => callSpec_congr h
  | s :: t :: l => by
    have hf : fitsB s fuel look args = fitsB s fuel look' args := by
      unfold fitsB
      rw [applyArgs_congr _ _ _ _ (leaves_agree h)]
    simp only [callAny, hf, callSpec_congr h, callAny_congr h (t :: l)]

theorem builtinOp_congr {b : Builtin} {ts : List TypeId} {args : List AV} (h : Agree look look' (idsM args)) : builtinOp C look nb b ts args K = builtinOp C look' nb b ts args K := by
  have one : ∀ x r, args = .v (false, [x]) :: r → Agree look look' (ids0 x) := fun x r e b hb => h b (by subst e; simp [idsM, ids, idsL]; exact .inl hb)
  have two : ∀ x y r, args = .v (false, [x]) :: .v (false, [y]) :: r → Agree look look' (ids0 y) := fun x y r e b hb => h b (by subst e; simp [idsM, ids, idsL]; exact .inr (.inl hb))
  unfold builtinOp
  split
  · rename_i x
    rw [lenOf_congr (one x [] rfl)]
  · rename_i s x
    have hs := one s _ rfl
    have hx := two s x [] rfl
    have e1 : ∀ t, elems look t s = elems look' t s := fun t => elems_congr hs
    have e2 : ∀ t, elemsX look t x = elemsX look' t x := fun t => by
      unfold elemsX
      cases x <;> first | rfl | exact elems_congr hx
    have e3 : isOwn look s = isOwn look' s := by
      cases s <;> first | rfl | (rename_i b _ _; simp only [isOwn]; rw [hs b (by simp [ids0])])
    simp only [e1, e2, e3]
  · rename_i b o n x
    have hs := one (.sl b o n) _ rfl
    have hx := two (.sl b o n) x [] rfl
    rw [hs b (by simp [ids0])]
    have e1 : ∀ t, elems look t x = elems look' t x := fun t => elems_congr hx
    simp only [e1]
  · rfl
  · rfl
  · rfl

theorem fillS_congr {t : Ty} : ∀ (parts : List (Nat × Operand)) (xs : List t.den) (u : List (Nat × Option Blk)), (∀ p ∈ parts, Agree look look' (ids (evv p.2))) → fillS look evv t parts xs u = fillS look' evv t parts xs u
  | [], _, _, _ => rfl
  | (i, x) :: r, xs, u, h => by
    have h0 := h (i, x) List.mem_cons_self
    have ih := fun xs u => fillS_congr (t := t) r xs u fun p hp => h p (List.mem_cons_of_mem _ hp)
    simp only [fillS]
    cases hx : evv x with
    | tup _ => rfl
    | v a =>
      obtain ⟨g, l⟩ := a
      simp only [hx] at h0
      simp only
      rw [uncells_congr' (t := t) (l := l) h0]
      simp only [ih]

theorem one_agree {x : AV} {a : AV0} (h : one? x = some a) (hx : Agree look look' (ids x)) : Agree look look' (ids0 a) := by
  unfold one? at h
  split at h
  · cases h
    intro b hb
    exact hx b (by simp [ids, idsL, hb])
  · cases h

theorem step_congr {op : Op} (h : ∀ x ∈ op.operands, Agree look look' (ids (evv x))) : step C fuel look evv nb op K = step C fuel look' evv nb op K := by
  cases op with
  | load t a =>
    have ha := h a (by simp [Op.operands])
    simp only [step]
    split
    · rename_i x hx
      rw [loadAt_congr (one_agree hx ha)]
    · rfl
  | store t a x =>
    have ha := h a (by simp [Op.operands])
    have hv := h x (by simp [Op.operands])
    simp only [step]
    split
    · rename_i y hy
      rw [storeAt_congr (one_agree hy ha) hv]
    · rfl
  | slice t x lo hi mx =>
    have hx := h x (by simp [Op.operands])
    cases mx with
    | some _ => rfl
    | none =>
      simp only [step]
      split
      · rename_i y l h1 hy _ _
        rw [sliceOp_congr (one_agree hy hx)]
      · rfl
  | indexAddr t x i =>
    have hx := h x (by simp [Op.operands])
    simp only [step]
    split
    · rename_i y k n hy _
      rw [indexAddr_congr (one_agree hy hx)]
    · rfl
  | convert s t x =>
    have hx := h x (by simp [Op.operands])
    simp only [step]
    split
    · rfl
    · rfl
    · rfl
    · rfl
    · rfl
    · rename_i y _ _ _ hy
      split
      · rw [elems_congr (one_agree hy hx)]
      · rfl
    · rfl
  | next x b =>
    cases b with
    | false => rfl
    | true =>
      have hx := h x (by simp [Op.operands])
      simp only [step]
      split
      · rename_i b hb
        rw [one_agree hb hx b (by simp [ids0])]
      · rfl
  | buildSlice t n parts =>
    have hp : ∀ p ∈ parts.toList, Agree look look' (ids (evv p.2)) := fun p hp => h p.2 (by
      simp only [Op.operands]
      exact List.mem_toArray.2 (List.mem_map.2 ⟨p, hp, rfl⟩))
    simp only [step]
    have e : ∀ (te : TI), fillS look evv te.ty parts.toList (List.replicate n te.ty.zero) [] = fillS look' evv te.ty parts.toList (List.replicate n te.ty.zero) [] := fun te => fillS_congr _ _ _ hp
    simp only [e]
  | call c =>
    have ha : Agree look look' (idsM (c.args.toList.map evv)) := by
      intro b hb
      obtain ⟨x, hx, hb⟩ := List.mem_flatMap.1 hb
      obtain ⟨y, hy, rfl⟩ := List.mem_map.1 hx
      exact h y (by simp only [Op.operands, Call.operands]; exact Array.mem_append.2 (.inr (by simpa using hy))) b hb
    simp only [step]
    split
    · split
      · exact callAny_congr ha _
      · rfl
    · exact builtinOp_congr ha
    · rfl
  | _ => rfl

end
end Go.Rex
/- Rex, part Y: the state of a call as the evaluator tells it and as the model has it; what one operation does to it. -/
namespace Go.Rex

/-- What a call may write: cells; blocks of which it may write something; and what was only read at its beginning. -/
structure OwnS where
  cell : Nat → Nat → Prop
  blk : Nat → Prop
  base : Nat → Prop
  /-- where the blocks lie that were handed on -/
  args : Map

/-- The state in the midst of a call. -/
structure Rel (gl : List (Nat × AV0)) (n : Nat) (Own : OwnS) (w0 : World) (tm : Nat → AV) (look : Look) (m : Map) (R : Nat → Prop) (a : Act) (w : World) : Prop where
  size : a.tmps.size = n
  defers : a.defers = []
  tmps : ∀ t, AVRel R m w (tm t) (a.tmps.getD t undef)
  blk : ∀ b B, look b = some B → ∃ L, m b = some L ∧ BRel R m w L B
  inj : ∀ b b' B B' L L' c, look b = some B → look b' = some B' → b ≠ b' → m b = some L → m b' = some L' → L.c = some c → L'.c = some c → B.md = .fz ∧ B'.md = .fz
  rw : ∀ b B L c, look b = some B → B.md ≠ .fz → m b = some L → L.c = some c → ¬ R c
  fz : ∀ b B L c, look b = some B → B.md = .fz → m b = some L → L.c = some c → R c
  rsize : ∀ k, R k → k < w.heap.size
  gl : ∀ g x, get g gl = some x → VRel R m w x (.pointer (some ⟨g, 0, none⟩))
  own : ∀ b B L c, look b = some B → m b = some L → L.c = some c → ∀ j, Owns L B.md j → Own.cell c j ∨ w0.heap.size ≤ c
  keeps : Keeps Own.cell w0 w
  ownb : ∀ b B L c, look b = some B → B.md ≠ .fz → m b = some L → L.c = some c → Own.blk c ∨ w0.heap.size ≤ c
  base : ∀ k, R k → Own.base k ∨ w0.heap.size ≤ k ∨ Own.blk k
  args : ∀ i L, i < 1000 → Own.args i = some L → m i = some L
  up : ∀ k, Own.base k → R k

def updF : List (Nat × Option Blk) → Look → Look
  | [], look => look
  | (b, x) :: r, look => updF r fun i => if i = b then x else look i

theorem updF_get : ∀ {u : List (Nat × Option Blk)} {look : Look} {b : Nat} {B : Blk}, updF u look b = some B → (b, some B) ∈ u ∨ (look b = some B ∧ ∀ x, (b, x) ∉ u)
  | [], look, b, B, h => .inr ⟨h, fun x hx => by cases hx⟩
  | (c, x) :: u, look, b, B, h => by
    rcases updF_get (u := u) h with h1 | ⟨h1, h2⟩
    · exact .inl (List.mem_cons_of_mem _ h1)
    · by_cases e : b = c
      · subst e
        rw [if_pos rfl] at h1
        subst h1
        exact .inl List.mem_cons_self
      · rw [if_neg e] at h1
        refine .inr ⟨h1, fun y hy => ?_⟩
        rcases List.mem_cons.1 hy with hy | hy
        · cases hy; exact e rfl
        · exact h2 y hy

theorem get_del {α : Type} (b i : Nat) : ∀ l : List (Nat × α), get i (del b l) = if i = b then none else get i l
  | [] => by simp [get, del]
  | (c, x) :: l => by
    have ih := get_del b i l
    by_cases h1 : b = c
    · subst h1
      simp only [del, if_true, ih, get]
      by_cases h2 : i = b
      · simp [h2]
      · simp [h2]
    · simp only [del, if_neg h1, get, ih]
      by_cases h2 : i = c
      · subst h2; simp [Ne.symm h1]
      · simp [h2]

theorem get_upds : ∀ (u : List (Nat × Option Blk)) (l : List (Nat × Blk)) (b : Nat), get b (upds u l) = updF u (fun i => get i l) b
  | [], _, _ => rfl
  | (c, x) :: u, l, b => by
    simp only [upds, updF]
    rw [get_upds u]
    congr 1
    funext i
    cases x with
    | none => simp only [upd1, get_del]
    | some y => simp only [upd1, get, get_del]; split <;> simp [*]

def putF (n : Nat) (tm : Nat → AV) (d : Option Nat) (v : AV) : Nat → AV := fun s => if d = some s ∧ s < n then v else tm s

theorem nth_setNth : ∀ (l : List AV) (d s : Nat) (v : AV), nth (setNth l d v) s = if d = s ∧ s < l.length then v else nth l s
  | [], d, s, v => by simp [setNth, nth]
  | x :: l, 0, 0, v => by simp [setNth, nth]
  | x :: l, 0, s + 1, v => by simp [setNth, nth]
  | x :: l, d + 1, 0, v => by simp [setNth, nth]
  | x :: l, d + 1, s + 1, v => by simp [setNth, nth, nth_setNth l d s v]

theorem nth_put (l : List AV) (d : Option Nat) (s : Nat) (v : AV) : nth (put l d v) s = putF l.length (nth l) d v s := by
  cases d with
  | none => simp [put, putF]
  | some d => simp [put, putF, nth_setNth]

theorem setNth_length : ∀ (l : List AV) (d : Nat) (v : AV), (setNth l d v).length = l.length
  | [], _, _ => rfl
  | _ :: _, 0, _ => rfl
  | _ :: l, d + 1, v => by simp [setNth, setNth_length l d v]

theorem put_length (l : List AV) (d : Option Nat) (v : AV) : (put l d v).length = l.length := by
  cases d with
  | none => rfl
  | some d => exact setNth_length l d v

theorem nth_ge : ∀ (l : List AV) (s : Nat), l.length ≤ s → nth l s = .un
  | [], _, _ => rfl
  | _ :: l, s + 1, h => nth_ge l s (by simpa using h)
  | _ :: _, 0, h => by simp at h

section
variable {P : Program} {gl : List (Nat × AV0)} {n : Nat} {Own : OwnS} {w0 : World} {tm : Nat → AV} {look : Look} {m : Map} {R : Nat → Prop} {a : Act} {w : World}

theorem Rel.pre (h : Rel gl n Own w0 tm look m R a w) {nb : Nat} (hf : ∀ b, nb ≤ b → b < nb + 8 → m b = none) : Pre gl look nb m R w :=
  ⟨h.blk, hf, h.inj, h.rw, h.fz, h.rsize, h.gl⟩

theorem getD_put (a : Act) (d : Option Nat) (v : Value) (s : Nat) : (a.put d v).tmps.getD s undef = if d = some s ∧ s < a.tmps.size then v else a.tmps.getD s undef := by
  cases d with
  | none => simp [Act.put]
  | some d =>
    simp only [Act.put, Array.getD_eq_getD_getElem?, Option.some.injEq]
    by_cases h : d = s
    · subst h
      by_cases hs : d < a.tmps.size
      · simp [hs]
      · simp [hs]
    · rw [Array.getElem?_setIfInBounds_ne h, if_neg (fun e => h e.1)]

/-- What is left out yields nothing. -/
theorem Rel.put_un (h : Rel gl n Own w0 tm look m R a w) (d : Option Nat) : Rel gl n Own w0 (putF n tm d (.tup [])) look m R (a.put d undef) w := by
  refine { h with size := ?_, defers := ?_, tmps := fun t => ?_ }
  · cases d <;> simp [Act.put, h.size]
  · cases d <;> exact h.defers
  · rw [getD_put, h.size]
    unfold putF
    split
    · exact ⟨#[], rfl, trivial⟩
    · exact h.tmps t

theorem Rel.step (h : Rel gl n Own w0 tm look m R a w) {nb : Nat} (hf : ∀ b, nb ≤ b → b < nb + 8 → m b = none) {e : Eff} {m' : Map} {R' : Nat → Prop} {w' : World} {v : Value} (hp : Post look nb m R w e m' R' w' v) {d : Option Nat} {x : AV} (hx : AVRel R' m' w' e.v v → AVRel R' m' w' x v) :
    Rel gl n Own w0 (putF n tm d x) (updF e.u look) m' R' (a.put d v) w' := by
  have hpre := h.pre hf
  have hsame : Same R w w' := hpre.same hp.keeps
  have lt : ∀ {b B L c}, look b = some B → m b = some L → L.c = some c → c < w.heap.size := by
    intro b B L c h1 h2 h3
    obtain ⟨L', h4, h5⟩ := h.blk b B h1
    rw [h2] at h4; cases h4
    exact h5.lt h3
  have has : ∀ {b B}, look b = some B → ∃ L, m b = some L := fun h1 => (h.blk _ _ h1).imp fun _ h => h.1
  -- a block that is not touched
  have un : ∀ {b B L c}, look b = some B → (∀ x, (b, x) ∉ e.u) → m b = some L → L.c = some c → w'.heap[c]? = w.heap[c]? := by
    intro b B L c h1 h2 h3 h4
    refine hp.keeps.same (lt h1 h3 h4) fun j ht => ?_
    obtain ⟨b', B', L', t1, ⟨y, t2⟩, t3, t4, t5⟩ := ht
    by_cases hb : b = b'
    · subst hb; exact h2 y t2
    · have := (h.inj b b' B B' L L' c h1 t1 hb h3 t3 h4 t4).2
      rw [this] at t5; exact t5
  refine { size := ?_, defers := ?_, tmps := fun t => ?_, blk := fun b B hb => ?_, inj := fun b b' B B' L L' c hb hb' hne hm hm' hc hc' => ?_, rw := fun b B L c hb hmd hm hc hr => ?_, fz := fun b B L c hb hmd hm hc => ?_, rsize := fun k hk => ?_, gl := fun g y hy => (h.gl g y hy).mono hp.rmono hsame hp.ext, own := fun b B L c hb hm hc j hj => ?_, keeps := ?_, ownb := fun b B L c hb hmd hm hc => ?_, base := fun k hk => ?_, args := fun i L hi hL => hp.ext i L (h.args i L hi hL), up := fun k hk => hp.rmono k (h.up k hk) }
  · cases d <;> simp [Act.put, h.size]
  · cases d <;> exact h.defers
  · rw [getD_put, h.size]
    unfold putF
    split
    · exact hx hp.rel
    · exact (h.tmps t).mono hp.rmono hsame hp.ext
  · rcases updF_get hb with h1 | ⟨h1, h2⟩
    · exact hp.upd b B h1
    · obtain ⟨L, h3, h4⟩ := h.blk b B h1
      exact ⟨L, hp.ext b L h3, h4.mono hp.rmono hsame hp.ext fun c hc => un h1 h2 h3 hc⟩
  · -- what an elder block was
    have elder : ∀ {b B L}, updF e.u look b = some B → m b ≠ none → m' b = some L → ∃ B0, look b = some B0 ∧ m b = some L ∧ (B.md = B0.md ∨ B.md = .fz) := by
      intro b B L hb hmb hml
      obtain ⟨L0, hL0⟩ := Option.ne_none_iff_exists'.1 hmb
      have := hp.ext b L0 hL0
      rw [hml] at this; cases this
      rcases updF_get hb with h1 | ⟨h1, h2⟩
      · obtain ⟨B0, g1, g2⟩ := hp.old b B h1 hmb
        exact ⟨B0, g1, hL0, g2⟩
      · exact ⟨B, h1, hL0, .inl rfl⟩
    have young : ∀ {b B L c}, updF e.u look b = some B → m b = none → m' b = some L → L.c = some c → ∀ {b' B' L'}, updF e.u look b' = some B' → m b' ≠ none → m' b' = some L' → L'.c = some c → B.md = .fz ∧ B'.md = .fz := by
      intro b B L c hb hmb hml hlc b' B' L' hb' hmb' hml' hlc'
      have h1 : (b, some B) ∈ e.u := by
        rcases updF_get hb with h1 | ⟨h1, h2⟩
        · exact h1
        · obtain ⟨L0, g⟩ := has h1; rw [hmb] at g; cases g
      obtain ⟨B0', g1, g2, g3⟩ := elder hb' hmb' hml'
      rcases hp.fresh b B L c h1 hmb hml hlc with hge | ⟨b0, B0, L0, k1, k2, k3, k4, k5, k6⟩ | ⟨k0, b0, B0, L0, ⟨y, k1⟩, k2, k3, k4, k5, k6⟩
      · have := lt g1 g2 hlc'; omega
      · by_cases hbb : b' = b0
        · subst hbb
          rcases updF_get hb' with q1 | ⟨q1, q2⟩
          · exact (k2 _ q1).elim
          · exact (q2 _ k1).elim
        · have := (h.inj b' b0 B0' B0 L' L0 c g1 k3 hbb g2 k5 hlc' k6).2
          rw [k4] at this; cases this
      · by_cases hbb : b' = b0
        · subst hbb
          rcases updF_get hb' with q1 | ⟨q1, q2⟩
          · obtain ⟨X, e1, e2⟩ := k2 _ q1
            cases e1
            exact ⟨k0, e2⟩
          · exact (q2 _ k1).elim
        · have := (h.inj b' b0 B0' B0 L' L0 c g1 k3 hbb g2 k5 hlc' k6).2
          rw [k4] at this; cases this
    by_cases hmb : m b = none
    · by_cases hmb' : m b' = none
      · have f1 : (b, some B) ∈ e.u := by
          rcases updF_get hb with h1 | ⟨h1, h2⟩
          · exact h1
          · obtain ⟨L0, g⟩ := has h1; rw [hmb] at g; cases g
        have f2 : (b', some B') ∈ e.u := by
          rcases updF_get hb' with h1 | ⟨h1, h2⟩
          · exact h1
          · obtain ⟨L0, g⟩ := has h1; rw [hmb'] at g; cases g
        exact absurd (hp.dist b b' B B' L L' c f1 f2 hmb hmb' hm hm' hc hc') hne
      · exact young hb hmb hm hc hb' hmb' hm' hc'
    · by_cases hmb' : m b' = none
      · exact (young hb' hmb' hm' hc' hb hmb hm hc).symm
      · obtain ⟨B0, g1, g2, g3⟩ := elder hb hmb hm
        obtain ⟨B0', g1', g2', g3'⟩ := elder hb' hmb' hm'
        obtain ⟨q1, q2⟩ := h.inj b b' B0 B0' L L' c g1 g1' hne g2 g2' hc hc'
        exact ⟨g3.elim (fun e => e.trans q1) id, g3'.elim (fun e => e.trans q2) id⟩
  · rcases updF_get hb with h1 | ⟨h1, h2⟩
    · exact hp.nofz b B L c h1 hmd hm hc hr
    · obtain ⟨L0, h3⟩ := has h1
      have := hp.ext b L0 h3
      rw [hm] at this; cases this
      rcases hp.rnew c hr with hr | hr | ⟨b1, B1, B1', L1, k1, k2, k3, k4, k5⟩ | ⟨b1, B1, L1, k1, k2, k3, k6, k4, k5⟩
      · exact h.rw b B L c h1 hmd h3 hc hr
      · have := lt h1 h3 hc; omega
      · by_cases hbb : b = b1
        · subst hbb; exact h2 _ k1
        · exact hmd (h.inj b b1 B B1 L L1 c h1 k3 hbb h3 k4 hc k5).1
      · by_cases hbb : b = b1
        · subst hbb; exact h2 _ k1
        · exact hmd (h.inj b b1 B B1 L L1 c h1 k3 hbb h3 k4 hc k5).1
  · rcases updF_get hb with h1 | ⟨h1, h2⟩
    · exact hp.fz b B L c h1 hmd hm hc
    · obtain ⟨L0, h3⟩ := has h1
      have := hp.ext b L0 h3
      rw [hm] at this; cases this
      exact hp.rmono c (h.fz b B L c h1 hmd h3 hc)
  · rcases hp.rnew k hk with hr | hr | ⟨b1, B1, B1', L1, k1, k2, k3, k4, k5⟩ | ⟨b1, B1, L1, k1, k2, k3, k6, k4, k5⟩
    · exact Nat.lt_of_lt_of_le (h.rsize k hr) hp.keeps.size
    · exact hr.2
    · exact Nat.lt_of_lt_of_le (lt k3 k4 k5) hp.keeps.size
    · exact Nat.lt_of_lt_of_le (lt k3 k4 k5) hp.keeps.size
  · rcases updF_get hb with h1 | ⟨h1, h2⟩
    · by_cases hmb : m b = none
      · rcases hp.fresh b B L c h1 hmb hm hc with hge | ⟨b0, B0, L0, k1, k2, k3, k4, k5, k6⟩ | ⟨k0, _⟩
        · exact .inr (Nat.le_trans h.keeps.size hge)
        · exact h.own b0 B0 L0 c k3 k5 k6 j (by rw [k4]; trivial)
        · rw [k0] at hj; exact hj.elim
      · obtain ⟨L0, hL0⟩ := Option.ne_none_iff_exists'.1 hmb
        have := hp.ext b L0 hL0
        rw [hm] at this; cases this
        obtain ⟨B0, g1, g2⟩ := hp.old b B h1 hmb
        rcases g2 with g2 | g2
        · exact h.own b B0 L c g1 hL0 hc j (by rw [← g2]; exact hj)
        · rw [g2] at hj; exact hj.elim
    · obtain ⟨L0, h3⟩ := has h1
      have := hp.ext b L0 h3
      rw [hm] at this; cases this
      exact h.own b B L c h1 h3 hc j hj
  · refine (h.keeps.trans hp.keeps).mono fun k hk j hx => ?_
    rcases hx with hx | ⟨b, B, L, t1, _, t3, t4, t5⟩
    · exact hx
    · rcases h.own b B L k t1 t3 t4 j t5 with q | q
      · exact q
      · omega

  · rcases updF_get hb with h1 | ⟨h1, h2⟩
    · by_cases hmb : m b = none
      · rcases hp.fresh b B L c h1 hmb hm hc with hge | ⟨b0, B0, L0, k1, k2, k3, k4, k5, k6⟩ | ⟨k0, _⟩
        · exact .inr (Nat.le_trans h.keeps.size hge)
        · exact h.ownb b0 B0 L0 c k3 (by rw [k4]; exact fun h => by cases h) k5 k6
        · exact absurd k0 hmd
      · obtain ⟨L0, hL0⟩ := Option.ne_none_iff_exists'.1 hmb
        have := hp.ext b L0 hL0
        rw [hm] at this; cases this
        obtain ⟨B0, g1, g2⟩ := hp.old b B h1 hmb
        rcases g2 with g2 | g2
        · exact h.ownb b B0 L c g1 (by rw [← g2]; exact hmd) hL0 hc
        · exact absurd g2 hmd
    · obtain ⟨L0, h3⟩ := has h1
      have := hp.ext b L0 h3
      rw [hm] at this; cases this
      exact h.ownb b B L c h1 hmd h3 hc
  · have old : ∀ {b B L c}, look b = some B → m b = some L → L.c = some c → Own.base c ∨ w0.heap.size ≤ c ∨ Own.blk c := by
      intro b B L c h1 h2 h3
      by_cases hz : B.md = .fz
      · exact h.base c (h.fz b B L c h1 hz h2 h3)
      · exact (h.ownb b B L c h1 hz h2 h3).elim (fun h => .inr (.inr h)) fun h => .inr (.inl h)
    rcases hp.rnew k hk with hr | hr | ⟨b1, B1, B1', L1, k1, k2, k3, k4, k5⟩ | ⟨b1, B1, L1, k1, k2, k3, k6, k4, k5⟩
    · exact h.base k hr
    · exact .inr (.inl (Nat.le_trans h.keeps.size hr.1))
    · exact old k3 k4 k5
    · exact old k3 k4 k5

end
end Go.Rex
/- Rex, part R: regions whose operations come in the order of the text. -/
namespace Go.Rex

theorem const0_rel (R : Nat → Prop) (m : Map) (w : World) (v : Value) : VRel R m w (const0 v) v := by
  unfold const0
  split <;> first | exact ⟨_, rfl, FRel.bits _ _⟩ | rfl | trivial

theorem ofConst_rel (R : Nat → Prop) (m : Map) (w : World) (v : Value) : AVRel R m w (ofConst v) v := by
  unfold ofConst
  split
  · rename_i cs
    refine ⟨cs, rfl, CRel.mk (by simp) fun j x u hx hu => ?_⟩
    rw [List.getElem?_map, hu] at hx
    cases hx
    exact const0_rel R m w u
  · exact const0_rel R m w v

section
variable {P : Program} {C : Ctx} {n : Nat} {Own : OwnS} {w0 : World} {tm : Nat → AV} {look : Look} {m : Map} {R : Nat → Prop} {a : Act} {w : World} {ρ : Type} {res : ρ} {fuel : Nat}

theorem evOk (tml : List AV) : EvOk (ev C tml) := fun _ _ => rfl

theorem ev_rel {tml : List AV} (h : Rel C.gl n Own w0 (nth tml) look m R a w) (x : Operand) : AVRel R m w (ev C tml x) (a.eval x) := by
  cases x with
  | tmp t => exact h.tmps t
  | const v => exact ofConst_rel R m w v
  | global g =>
    simp only [ev]
    split
    · rename_i x hx; exact h.gl g x hx
    · exact AVRel.un _
  | func f => rfl

theorem dstOf_eq : ∀ (l : List Oper) (j : Nat), dstOf l j = (l[j]?).bind (·.dst)
  | [], _ => by simp [dstOf]
  | _ :: _, 0 => rfl
  | _ :: l, j + 1 => by simp [dstOf, dstOf_eq l j]

theorem wanted_rel {ops : Array Oper} {o : Oper} {b : Bool} {tml : List AV} (h : wantedA ops.toList tml o = some b) (ht : ∀ j want t, o.guard = some (j, want) → dstOf ops.toList j = some t → AVRel R m w (nth tml t) (a.tmps.getD t undef)) : Region.wanted o (yielded ops a.tmps) = b := by
  unfold wantedA at h
  unfold Region.wanted
  split at h
  · rename_i hg; cases h; rw [hg]
  · rename_i j want hg
    rw [hg]
    split at h
    · rename_i t hd
      split at h
      · rename_i c hc
        cases h
        have h1 := ht j want t hg hd
        rw [hc] at h1
        have h2 : a.tmps.getD t undef = .bool c := h1
        have h3 : a.tmps[t]? = some (.bool c) := by
          rw [Array.getD_eq_getD_getElem?] at h2
          cases hq : a.tmps[t]? with
          | none => rw [hq] at h2; cases h2
          | some v => rw [hq] at h2; simp at h2; rw [h2]
        rw [dstOf_eq] at hd
        have hd' : (ops[j]?).bind (·.dst) = some t := by simpa using hd
        simp only [yielded, hd', Option.bind_some, h3]
        cases c <;> cases want <;> rfl
      · rename_i hc
        cases h
        have h1 := ht j want t hg hd
        rw [hc] at h1
        obtain ⟨vs, h2, h3⟩ := h1
        rw [dstOf_eq] at hd
        have hd' : (ops[j]?).bind (·.dst) = some t := by simpa using hd
        simp only [yielded, hd', Option.bind_some]
        rw [Array.getD_eq_getD_getElem?] at h2
        cases hq : a.tmps[t]? with
        | none => rfl
        | some v => rw [hq] at h2; simp at h2; subst h2; rfl
      · cases h
    · cases h

/-- The value that is kept: where others hang on it, as a literal. -/
def Lit (g : Bool) (e : AV) (v : AV) : Prop := (g = false ∧ v = e) ∨ ∃ b, e = .v (false, [.bool b]) ∧ v = .v (false, [.bool b])

theorem Lit.rel {g : Bool} {e v : AV} (h : Lit g e v) {R : Nat → Prop} {m : Map} {w : World} {x : Value} (hx : AVRel R m w e x) : AVRel R m w v x := by
  rcases h with ⟨_, rfl⟩ | ⟨b, rfl, rfl⟩ <;> exact hx

theorem lit_cases {g : Bool} {e : AV} {go : AV → Option ρ} (h : withLit g e go = some res) : ∃ v, go v = some res ∧ Lit g e v := by
  unfold withLit at h
  split at h
  · rename_i b
    cases b with
    | true => exact ⟨_, h, .inr ⟨true, rfl, rfl⟩⟩
    | false => exact ⟨_, h, .inr ⟨false, rfl, rfl⟩⟩
  · cases h
  · exact ⟨_, h, .inl ⟨rfl, rfl⟩⟩

theorem vops_seq (hC : CtxOk P C) {ops : Array Oper} {bef : List Nat} {nx : Nat} {Q : Exit → Act → World → Prop} {K : St → Option ρ} :
    ∀ (l : List Oper) (i : Nat) (tml : List AV) (hp : List (Nat × Blk)) (m : Map) (R : Nat → Prop) (a : Act) (w : World), vops C fuel false ops.toList bef nx l i tml hp [] K = some res → (∀ j o, l[j]? = some o → ops[i + j]? = some o) →
      Rel C.gl n Own w0 (nth tml) (fun b => get b hp) m R a w → tml.length = n → (∀ b L, m b = some L → b < nx + 8 * i) →
      (∀ tml' hp' m' R' a' w', tml'.length = n → K ⟨tml', hp', nx + 8 * (i + l.length)⟩ = some res → Rel C.gl n Own w0 (nth tml') (fun b => get b hp') m' R' a' w' → (∀ b L, m' b = some L → b < nx + 8 * (i + l.length)) → Q .normal a' w') →
      wpOps P ops Q (List.range' i l.length) a w
  | [], i, tml, hp, m, R, a, w, h, _, hr, hl, hm, hQ => by
    simp only [vops] at h
    exact hQ tml hp m R a w hl h hr hm
  | o :: l, i, tml, hp, m, R, a, w, h, hops, hr, hl, hm, hQ => by
    have ho : ops[i]? = some o := by have := hops 0 o rfl; simpa using this
    have hops' : ∀ j o, l[j]? = some o → ops[i + 1 + j]? = some o := fun j o hj => by
      have := hops (j + 1) o (by simpa using hj)
      rwa [show i + 1 + j = i + (j + 1) by omega]
    have hQ' : ∀ tml' hp' m' R' a' w', tml'.length = n → K ⟨tml', hp', nx + 8 * (i + 1 + l.length)⟩ = some res → Rel C.gl n Own w0 (nth tml') (fun b => get b hp') m' R' a' w' → (∀ b L, m' b = some L → b < nx + 8 * (i + 1 + l.length)) → Q .normal a' w' := by
      intro tml' hp' m' R' a' w' h1 h2 h3 h4
      have e : i + 1 + l.length = i + (o :: l).length := by simp; omega
      rw [e] at h2 h4
      exact hQ tml' hp' m' R' a' w' h1 h2 h3 h4
    simp only [List.length_cons, List.range'_succ]
    rw [wpOps_cons]
    unfold wpOp
    simp only [ho]
    simp only [vops] at h
    split at h
    · rename_i hw
      rw [wanted_rel hw fun j want t _ _ => hr.tmps t]
      simp only [if_true]
      obtain ⟨e, h1, h2⟩ := step_good hC (evOk tml) h
      obtain ⟨v, h3, hlit⟩ := lit_cases h1
      have hfree : ∀ b, nx + 8 * i ≤ b → b < nx + 8 * i + 8 → m b = none := fun b hb _ => by
        cases hmb : m b with
        | none => rfl
        | some L => have := hm b L hmb; omega
      refine .inl (Outcome.wp (h2 m R w a.eval (hr.pre hfree) fun x _ => ev_rel hr x) fun x w' ⟨m', R', hp'⟩ => ?_)
      have hr' := hr.step hfree hp' (d := o.dst) (x := v) hlit.rel
      refine vops_seq hC l (i + 1) _ _ m' R' _ w' h3 hops' ?_ (by rw [put_length, hl]) (fun b L hb => ?_) hQ'
      · have e1 : nth (put tml o.dst v) = putF n (nth tml) o.dst v := by funext s; rw [nth_put, hl]
        have e2 : (fun b => get b (upds e.u hp)) = updF e.u (fun b => get b hp) := by funext b; rw [get_upds]
        rw [e1, e2]; exact hr'
      · cases hmb : m b with
        | none => have := hp'.dom b L hb hmb; omega
        | some L' => have := hm b L' hmb; omega
    · rename_i hw
      rw [wanted_rel hw fun j want t _ _ => hr.tmps t]
      simp only [Bool.false_eq_true, if_false]
      refine vops_seq hC l (i + 1) _ _ m R _ w h hops' ?_ (by rw [put_length, hl]) (fun b L hb => by have := hm b L hb; omega) hQ'
      have e1 : nth (put tml o.dst (.tup [])) = putF n (nth tml) o.dst (.tup []) := by funext s; rw [nth_put, hl]
      rw [e1]; exact hr.put_un o.dst
    · cases h

end
end Go.Rex
/- Rex, part S: regions whose operations come in any order: what is left does not hang on it. -/
namespace Go.Rex

structure Rec where
  dst : Option Nat
  v : AV
  u : List (Nat × Option Blk)
  rd : List Nat
  wr : List Nat

abbrev Sg := (Nat → AV) × Look

def applyR (n : Nat) (r : Rec) (s : Sg) : Sg := (putF n s.1 r.dst r.v, updF r.u s.2)

def foldD (n : Nat) (D : Nat → Bool) : List Rec → Nat → Sg → Sg
  | [], _, s => s
  | r :: rs, i, s => foldD n D rs (i + 1) (if D i then applyR n r s else s)

theorem updF_none : ∀ {u : List (Nat × Option Blk)} {look : Look} {b : Nat}, (∀ x, (b, x) ∉ u) → updF u look b = look b
  | [], _, _, _ => rfl
  | (c, y) :: u, look, b, h => by
    simp only [updF]
    rw [updF_none fun x hx => h x (List.mem_cons_of_mem _ hx)]
    rw [if_neg]
    rintro rfl
    exact h y List.mem_cons_self

theorem updF_some : ∀ {u : List (Nat × Option Blk)} {look look' : Look} {b : Nat} {x : Option Blk}, (b, x) ∈ u → updF u look b = updF u look' b
  | (c, y) :: u, look, look', b, x, h => by
    simp only [updF]
    by_cases hu : ∃ z, (b, z) ∈ u
    · obtain ⟨z, hz⟩ := hu
      exact updF_some hz
    · have hu' : ∀ z, (b, z) ∉ u := fun z hz => hu ⟨z, hz⟩
      rcases List.mem_cons.1 h with h | h
      · cases h
        rw [updF_none hu', updF_none hu']; simp
      · exact absurd h (hu' x)

theorem updF_congr {u : List (Nat × Option Blk)} {look look' : Look} {b : Nat} (h : look b = look' b) : updF u look b = updF u look' b := by
  by_cases hu : ∃ z, (b, z) ∈ u
  · obtain ⟨z, hz⟩ := hu; exact updF_some hz
  · rw [updF_none fun z hz => hu ⟨z, hz⟩, updF_none fun z hz => hu ⟨z, hz⟩]; exact h

/-- Two operations that write nothing in common. -/
def Apart (r r' : Rec) : Prop := (∀ t, r.dst = some t → r'.dst ≠ some t) ∧ ∀ b x y, (b, x) ∈ r.u → (b, y) ∉ r'.u

theorem applyR_comm {n : Nat} {r r' : Rec} (h : Apart r r') (s : Sg) : applyR n r' (applyR n r s) = applyR n r (applyR n r' s) := by
  unfold applyR
  refine Prod.ext (funext fun t => ?_) (funext fun b => ?_)
  · simp only [putF]
    by_cases h1 : r.dst = some t
    · have := h.1 t h1
      simp [h1, this]
    · simp [h1]
  · by_cases h1 : ∃ x, (b, x) ∈ r.u
    · obtain ⟨x, h1⟩ := h1
      have h2 : ∀ y, (b, y) ∉ r'.u := fun y => h.2 b x y h1
      show updF r'.u (updF r.u s.2) b = updF r.u (updF r'.u s.2) b
      rw [updF_none h2]
      exact updF_some h1
    · have h2 : ∀ x, (b, x) ∉ r.u := fun x hx => h1 ⟨x, hx⟩
      show updF r'.u (updF r.u s.2) b = updF r.u (updF r'.u s.2) b
      rw [updF_none (u := r.u) h2]
      exact updF_congr (updF_none h2)

theorem fold_comm {n : Nat} {D : Nat → Bool} {r : Rec} : ∀ (rs : List Rec) (i : Nat) (s : Sg), (∀ j r', rs[j]? = some r' → D (i + j) = true → Apart r r') → foldD n D rs i (applyR n r s) = applyR n r (foldD n D rs i s)
  | [], _, _, _ => rfl
  | r' :: rs, i, s, h => by
    have h' : ∀ j r'', rs[j]? = some r'' → D (i + 1 + j) = true → Apart r r'' := fun j r'' hj hd => h (j + 1) r'' (by simpa using hj) (by rwa [show i + (j + 1) = i + 1 + j by omega])
    simp only [foldD]
    by_cases hd : D i = true
    · rw [if_pos hd, if_pos hd, applyR_comm (h 0 r' rfl (by simpa using hd))]
      exact fold_comm rs (i + 1) _ h'
    · rw [if_neg hd, if_neg hd]
      exact fold_comm rs (i + 1) _ h'

theorem fold_same {n : Nat} {D D' : Nat → Bool} : ∀ (rs : List Rec) (i : Nat) (s : Sg), (∀ j, j < rs.length → D (i + j) = D' (i + j)) → foldD n D rs i s = foldD n D' rs i s
  | [], _, _, _ => rfl
  | r :: rs, i, s, h => by
    simp only [foldD]
    have h0 := h 0 (by simp)
    rw [Nat.add_zero] at h0
    rw [h0]
    exact fold_same rs (i + 1) _ fun j hj => by
      have := h (j + 1) (by simpa using hj)
      rwa [show i + 1 + j = i + (j + 1) by omega]

def addD (D : Nat → Bool) (i : Nat) : Nat → Bool := fun j => D j || j == i

theorem fold_add {n : Nat} {D : Nat → Bool} {r : Rec} {i : Nat} (hD : D i = false) : ∀ (rs : List Rec) (i0 k : Nat) (s : Sg), i = i0 + k → rs[k]? = some r → (∀ j r', rs[j]? = some r' → k < j → D (i0 + j) = true → Apart r r') →
    foldD n (addD D i) rs i0 s = applyR n r (foldD n D rs i0 s)
  | [], _, _, _, _, h, _ => by simp at h
  | r0 :: rs, i0, 0, s, hi, h, ha => by
    simp at h; subst h
    simp only [foldD]
    have e : i = i0 := by omega
    subst e
    rw [if_pos (by simp [addD]), if_neg (by simp [hD])]
    rw [← fold_comm rs (i + 1) s fun j r' hj hd => ha (j + 1) r' (by simpa using hj) (by omega) (by rwa [show i + (j + 1) = i + 1 + j by omega])]
    exact fold_same rs (i + 1) _ fun j _ => by
      simp only [addD]
      have : (i + 1 + j == i) = false := by simp; omega
      rw [this, Bool.or_false]
  | r0 :: rs, i0, k + 1, s, hi, h, ha => by
    simp only [foldD]
    have e : addD D i i0 = D i0 := by
      have : (i0 == i) = false := by simp; omega
      simp [addD, this]
    rw [e]
    exact fold_add hD rs (i0 + 1) k _ (by omega) (by simpa using h) fun j r' hj hlt hd => ha (j + 1) r' (by simpa using hj) (by omega) (by rwa [show i0 + (j + 1) = i0 + 1 + j by omega])

theorem fold_tm {n : Nat} {D D' : Nat → Bool} {t : Nat} : ∀ (rs : List Rec) (i : Nat) (s s' : Sg), (∀ j r, rs[j]? = some r → r.dst = some t → D (i + j) = D' (i + j)) → s.1 t = s'.1 t → (foldD n D rs i s).1 t = (foldD n D' rs i s').1 t
  | [], _, _, _, _, h => h
  | r :: rs, i, s, s', h, hs => by
    simp only [foldD]
    have step : ∀ (D : Nat → Bool) (s : Sg), r.dst ≠ some t → (if D i then applyR n r s else s).1 t = s.1 t := by
      intro D s hd
      split
      · simp [applyR, putF, hd]
      · rfl
    refine fold_tm rs (i + 1) _ _ (fun j r' hj hd => ?_) ?_
    · have := h (j + 1) r' (by simpa using hj) hd
      rwa [show i + 1 + j = i + (j + 1) by omega]
    · by_cases hd : r.dst = some t
      · have := h 0 r rfl hd
        rw [Nat.add_zero] at this
        rw [this]
        split
        · simp only [applyR, putF, hs]
        · exact hs
      · rw [step D s hd, step D' s' hd, hs]

theorem fold_lk {n : Nat} {D D' : Nat → Bool} {b : Nat} : ∀ (rs : List Rec) (i : Nat) (s s' : Sg), (∀ j r x, rs[j]? = some r → (b, x) ∈ r.u → D (i + j) = D' (i + j)) → s.2 b = s'.2 b → (foldD n D rs i s).2 b = (foldD n D' rs i s').2 b
  | [], _, _, _, _, h => h
  | r :: rs, i, s, s', h, hs => by
    simp only [foldD]
    refine fold_lk rs (i + 1) _ _ (fun j r' x hj hd => ?_) ?_
    · have := h (j + 1) r' x (by simpa using hj) hd
      rwa [show i + 1 + j = i + (j + 1) by omega]
    · by_cases hu : ∃ x, (b, x) ∈ r.u
      · obtain ⟨x, hx⟩ := hu
        have := h 0 r x rfl hx
        rw [Nat.add_zero] at this
        rw [this]
        split
        · exact updF_congr hs
        · exact hs
      · have hn : ∀ x, (b, x) ∉ r.u := fun x hx => hu ⟨x, hx⟩
        have e : ∀ (D : Nat → Bool) (s : Sg), (if D i then applyR n r s else s).2 b = s.2 b := by
          intro D s
          split
          · exact updF_none hn
          · rfl
        rw [e, e]; exact hs

/-! ### What comes first -/
theorem befores_spec : ∀ (l : List Oper) (acc : List Nat), ∃ tl, befores l acc = acc ++ tl ∧ tl.length = l.length
  | [], acc => ⟨[], by simp [befores], rfl⟩
  | o :: l, acc => by
    simp only [befores]
    obtain ⟨tl, h1, h2⟩ := befores_spec l (acc ++ [o.after.toList.foldl (fun s e => if Region.binds .any e then s ||| 2 ^ e.on ||| acc.getD e.on 0 else s) 0])
    exact ⟨_ :: tl, by rw [h1, List.append_assoc]; rfl, by simp [h2]⟩

theorem fold_bits (acc : List Nat) : ∀ (es : List Edge) (s k : Nat), (es.foldl (fun s e => if Region.binds .any e then s ||| 2 ^ e.on ||| acc.getD e.on 0 else s) s).testBit k = true →
    s.testBit k = true ∨ ∃ e ∈ es, Region.binds .any e = true ∧ (e.on = k ∨ (acc.getD e.on 0).testBit k = true)
  | [], s, k, h => .inl h
  | e :: es, s, k, h => by
    simp only [List.foldl_cons] at h
    rcases fold_bits acc es _ k h with h1 | ⟨e', h1, h2⟩
    · split at h1
      · rename_i hb
        rw [Nat.testBit_or, Nat.testBit_or, Bool.or_eq_true, Bool.or_eq_true] at h1
        rcases h1 with (h1 | h1) | h1
        · exact .inl h1
        · refine .inr ⟨e, List.mem_cons_self, hb, .inl ?_⟩
          rw [Nat.testBit_two_pow] at h1
          simpa using h1
        · exact .inr ⟨e, List.mem_cons_self, hb, .inr h1⟩
      · exact .inl h1
    · exact .inr ⟨e', List.mem_cons_of_mem _ h1, h2⟩

theorem befores_get : ∀ (l : List Oper) (acc : List Nat) (i : Nat) (o : Oper) (k : Nat), l[i]? = some o → ((befores l acc).getD (acc.length + i) 0).testBit k = true →
    ∃ e ∈ o.after.toList, Region.binds .any e = true ∧ (e.on = k ∨ (e.on < acc.length + i ∧ ((befores l acc).getD e.on 0).testBit k = true))
  | [], _, _, _, _, h, _ => by simp at h
  | o0 :: l, acc, 0, o, k, h, hb => by
    simp at h; subst h
    simp only [befores] at hb ⊢
    obtain ⟨tl, h1, h2⟩ := befores_spec l (acc ++ [o0.after.toList.foldl (fun s e => if Region.binds .any e then s ||| 2 ^ e.on ||| acc.getD e.on 0 else s) 0])
    rw [h1] at hb ⊢
    have e0 : ((acc ++ [o0.after.toList.foldl (fun s e => if Region.binds .any e then s ||| 2 ^ e.on ||| acc.getD e.on 0 else s) 0]) ++ tl).getD (acc.length + 0) 0 = o0.after.toList.foldl (fun s e => if Region.binds .any e then s ||| 2 ^ e.on ||| acc.getD e.on 0 else s) 0 := by
      simp [List.getD]
    rw [e0] at hb
    rcases fold_bits acc _ _ _ hb with h3 | ⟨e, h3, h4, h5⟩
    · simp at h3
    · refine ⟨e, h3, h4, h5.imp id fun h6 => ?_⟩
      have hlt : e.on < acc.length := by
        rcases Nat.lt_or_ge e.on acc.length with hl | hl
        · exact hl
        · simp [List.getD, List.getElem?_eq_none hl] at h6
      refine ⟨by omega, ?_⟩
      have : ((acc ++ [o0.after.toList.foldl (fun s e => if Region.binds .any e then s ||| 2 ^ e.on ||| acc.getD e.on 0 else s) 0]) ++ tl).getD e.on 0 = acc.getD e.on 0 := by
        simp [List.getD, List.getElem?_append_left hlt]
      rw [this]; exact h6
  | o0 :: l, acc, i + 1, o, k, h, hb => by
    simp only [befores] at hb ⊢
    have := befores_get l (acc ++ [o0.after.toList.foldl (fun s e => if Region.binds .any e then s ||| 2 ^ e.on ||| acc.getD e.on 0 else s) 0]) i o k (by simpa using h) (by simpa [Nat.add_assoc, Nat.add_comm 1 i] using hb)
    obtain ⟨e, h1, h2, h3⟩ := this
    exact ⟨e, h1, h2, h3.imp id fun ⟨a, b⟩ => ⟨by simp at a; omega, b⟩⟩

/-- Closed under what comes first. -/
def Closed (bef : List Nat) (D : Nat → Bool) : Prop := ∀ j, D j = true → ∀ k, (bef.getD j 0).testBit k = true → D k = true

theorem closed_add {ops : List Oper} {D : Nat → Bool} (hc : Closed (befores ops []) D) {i : Nat} {o : Oper} (ho : ops[i]? = some o) (hr : ∀ e ∈ o.after.toList, Region.binds .any e = true → D e.on = true) :
    (∀ k, ((befores ops []).getD i 0).testBit k = true → D k = true) ∧ Closed (befores ops []) (addD D i) := by
  have h1 : ∀ k, ((befores ops []).getD i 0).testBit k = true → D k = true := by
    intro k hk
    obtain ⟨e, h2, h3, h4⟩ := befores_get ops [] i o k ho (by simpa using hk)
    have h5 := hr e h2 h3
    rcases h4 with h4 | ⟨_, h4⟩
    · rw [← h4]; exact h5
    · exact hc e.on h5 k h4
  refine ⟨h1, fun j hj k hk => ?_⟩
  simp only [addD, Bool.or_eq_true, beq_iff_eq] at hj ⊢
  rcases hj with hj | rfl
  · exact .inl (hc j hj k hk)
  · exact .inl (h1 k hk)

section
variable {P : Program} {C : Ctx} {n : Nat} {Own : OwnS} {w0 : World} {m : Map} {R : Nat → Prop} {a : Act} {w : World} {ρ : Type} {res : ρ} {fuel : Nat}

theorem Post.wider {look look' : Look} {nb : Nat} {m m' : Map} {R R' : Nat → Prop} {w w' : World} {e : Eff} {v : Value} (h : Post look nb m R w e m' R' w' v) (hl : ∀ b B, look b = some B → look' b = some B) : Post look' nb m R w e m' R' w' v :=
  { h with
    keeps := h.keeps.mono fun _ _ _ ⟨b, B, L, h1, h2⟩ => ⟨b, B, L, hl b B h1, h2⟩
    rnew := fun k hk => (h.rnew k hk).imp id fun h => h.imp id fun h => h.imp (fun ⟨b, B, B', L, h1, h2, h3, h4⟩ => ⟨b, B, B', L, h1, h2, hl b B h3, h4⟩) fun ⟨b, B, L, h1, h2, h3, h4⟩ => ⟨b, B, L, h1, h2, hl b B h3, h4⟩
    old := fun b B h1 h2 => (h.old b B h1 h2).imp fun B0 ⟨h3, h4⟩ => ⟨hl b B0 h3, h4⟩
    fresh := fun b B L k h1 h2 h3 h4 => (h.fresh b B L k h1 h2 h3 h4).imp id fun h => h.imp (fun ⟨b0, B0, L0, g1, g2, g3, g4⟩ => ⟨b0, B0, L0, g1, g2, hl b0 B0 g3, g4⟩) fun ⟨g0, b0, B0, L0, g1, g2, g3, g4⟩ => ⟨g0, b0, B0, L0, g1, g2, hl b0 B0 g3, g4⟩ }

/-- A block, where it is one of these. -/
def only (look : Look) (l : List Nat) : Look := fun b => if b ∈ l then look b else none

theorem only_agree (look : Look) (l : List Nat) : Agree look (only look l) l := fun b hb => by simp [only, hb]

theorem Pre.only {gl : List (Nat × AV0)} {look look' : Look} {nb : Nat} (h : Pre gl look nb m R w) (hl : ∀ b B, look' b = some B → look b = some B) : Pre gl look' nb m R w :=
  ⟨fun b B hb => h.blk b B (hl b B hb), h.free, fun b b' B B' L L' c h1 h2 => h.inj b b' B B' L L' c (hl b B h1) (hl b' B' h2), fun b B L c h1 => h.rw b B L c (hl b B h1), fun b B L c h1 => h.fz b B L c (hl b B h1), h.rsize, h.gl⟩

theorem step_looked {look look' : Look} {evv : Operand → AV} {nb : Nat} {K : Eff → Option ρ} {o : Oper} (h : ∀ x ∈ looked o, Agree look look' (ids (evv x))) : step C fuel look evv nb o.op K = step C fuel look' evv nb o.op K := by
  unfold looked at h
  split at h
  · rename_i heq; rw [heq]; rfl
  · rename_i heq; rw [heq]; rfl
  · exact step_congr fun x hx => h x (by simpa using hx)

/-- What is known of one operation of the region, at its place in the text. -/
structure Fact (P : Program) (C : Ctx) (ops : Array Oper) (nx i : Nat) (o : Oper) (tm : List AV) (hp : List (Nat × Blk)) (r : Rec) : Prop where
  dst : r.dst = o.dst
  wr : r.wr = wrOf o r.u
  wanted : ∃ b, wantedA ops.toList tm o = some b ∧
    (b = false → r.v = .tup [] ∧ r.u = [] ∧ r.rd = tmpsOf ops.toList o) ∧
    (b = true → r.rd = rdOf C ops.toList tm o ∧ ∃ e, r.u = e.u ∧ (∀ {R : Nat → Prop} {m : Map} {w : World} {x : Value}, AVRel R m w e.v x → AVRel R m w r.v x) ∧
      Sound P C.gl (only (fun b => get b hp) ((looked o).flatMap fun x => ids (ev C tm x))) (ev C tm) (nx + 8 * i) o e)

/-- Two operations that don't go well together come in one order alone. -/
def Ord (bef : List Nat) (rs : List Rec) : Prop := ∀ i j ri rj, rs[i]? = some ri → rs[j]? = some rj → i < j → (meets ri.wr rj.rd || meets ri.wr rj.wr || meets ri.rd rj.wr) = true → (bef.getD j 0).testBit i = true

theorem ordered_spec {bef : Nat} {rd wr : List Nat} : ∀ {log : List Entry}, ordered bef rd wr log = true → ∀ e ∈ log, (meets e.wr rd || meets e.wr wr || meets e.rd wr) = true → bef.testBit e.i = true
  | [], _, e, he, _ => by cases he
  | x :: log, h, e, he, hm => by
    simp only [ordered, Bool.and_eq_true, Bool.or_eq_true, Bool.not_eq_true'] at h
    rcases List.mem_cons.1 he with rfl | he
    · rcases h.1 with h1 | h1
      · rw [h1] at hm; cases hm
      · exact h1
    · exact ordered_spec h.2 e he hm

theorem vops_trace (hC : CtxOk P C) {ops : Array Oper} {bef : List Nat} {nx : Nat} {K : St → Option ρ} :
    ∀ (l : List Oper) (i : Nat) (tm : List AV) (hp : List (Nat × Blk)) (log : List Entry) (done : List Rec), vops C fuel true ops.toList bef nx l i tm hp log K = some res → done.length = i → log = (done.zipIdx.map fun p => ⟨p.2, p.1.rd, p.1.wr⟩).reverse →
      ∃ (rs : List Rec) (tm' : List AV) (hp' : List (Nat × Blk)), rs.length = l.length ∧ K ⟨tm', hp', nx + 8 * (i + l.length)⟩ = some res ∧ tm'.length = tm.length ∧
        (nth tm' = (foldD tm.length (fun _ => true) rs i (nth tm, fun b => get b hp)).1 ∧ (fun b => get b hp') = (foldD tm.length (fun _ => true) rs i (nth tm, fun b => get b hp)).2) ∧
        (∀ j o r, l[j]? = some o → rs[j]? = some r → ∃ tmj hpj, Fact P C ops nx (i + j) o tmj hpj r ∧ tmj.length = tm.length ∧
          nth tmj = (foldD tm.length (fun k => decide (k < i + j)) rs i (nth tm, fun b => get b hp)).1 ∧ (fun b => get b hpj) = (foldD tm.length (fun k => decide (k < i + j)) rs i (nth tm, fun b => get b hp)).2) ∧
        (∀ j rj, rs[j]? = some rj → ∀ e ∈ log, (meets e.wr rj.rd || meets e.wr rj.wr || meets e.rd rj.wr) = true → (bef.getD (i + j) 0).testBit e.i = true) ∧
        (∀ j k rj rk, rs[j]? = some rj → rs[k]? = some rk → j < k → (meets rj.wr rk.rd || meets rj.wr rk.wr || meets rj.rd rk.wr) = true → (bef.getD (i + k) 0).testBit (i + j) = true)
  | [], i, tm, hp, log, done, h, _, _ => by
    simp only [vops] at h
    exact ⟨[], tm, hp, rfl, h, rfl, ⟨rfl, rfl⟩, fun j o r hj => by simp at hj, fun j rj hj => by simp at hj, fun j k rj rk hj => by simp at hj⟩
  | o :: l, i, tm, hp, log, done, h, hd, hlog => by
    simp only [vops, cif_eq] at h
    -- one operation r, then the rest
    have key : ∀ (r : Rec) (tm1 : List AV) (hp1 : List (Nat × Blk)), Fact P C ops nx i o tm hp r → tm1 = put tm o.dst r.v → hp1 = upds r.u hp → ordered (bef.getD i 0) r.rd r.wr log = true → vops C fuel true ops.toList bef nx l (i + 1) tm1 hp1 (⟨i, r.rd, r.wr⟩ :: log) K = some res →
        ∃ (rs : List Rec) (tm' : List AV) (hp' : List (Nat × Blk)), rs.length = (o :: l).length ∧ K ⟨tm', hp', nx + 8 * (i + (o :: l).length)⟩ = some res ∧ tm'.length = tm.length ∧
        (nth tm' = (foldD tm.length (fun _ => true) rs i (nth tm, fun b => get b hp)).1 ∧ (fun b => get b hp') = (foldD tm.length (fun _ => true) rs i (nth tm, fun b => get b hp)).2) ∧
        (∀ j o' r, (o :: l)[j]? = some o' → rs[j]? = some r → ∃ tmj hpj, Fact P C ops nx (i + j) o' tmj hpj r ∧ tmj.length = tm.length ∧
          nth tmj = (foldD tm.length (fun k => decide (k < i + j)) rs i (nth tm, fun b => get b hp)).1 ∧ (fun b => get b hpj) = (foldD tm.length (fun k => decide (k < i + j)) rs i (nth tm, fun b => get b hp)).2) ∧
        (∀ j rj, rs[j]? = some rj → ∀ e ∈ log, (meets e.wr rj.rd || meets e.wr rj.wr || meets e.rd rj.wr) = true → (bef.getD (i + j) 0).testBit e.i = true) ∧
        (∀ j k rj rk, rs[j]? = some rj → rs[k]? = some rk → j < k → (meets rj.wr rk.rd || meets rj.wr rk.wr || meets rj.rd rk.wr) = true → (bef.getD (i + k) 0).testBit (i + j) = true) := by
      intro r tm1 hp1 hf e1 e2 hord hv
      have hlog' : (⟨i, r.rd, r.wr⟩ :: log : List Entry) = ((done ++ [r]).zipIdx.map fun p => ⟨p.2, p.1.rd, p.1.wr⟩).reverse := by
        rw [List.zipIdx_append]
        simp [hlog, hd]
      obtain ⟨rs, tm', hp', g1, g2, g3, ⟨g4, g4'⟩, g5, g6, g7⟩ := vops_trace hC l (i + 1) tm1 hp1 _ (done ++ [r]) hv (by simp [hd]) hlog'
      have hlen : tm1.length = tm.length := by rw [e1, put_length]
      have hs : (nth tm1, fun b => get b hp1) = applyR tm.length r (nth tm, fun b => get b hp) := by
        rw [e1, e2]
        unfold applyR
        refine Prod.ext (funext fun s => ?_) (funext fun b => ?_)
        · show nth (put tm o.dst r.v) s = putF tm.length (nth tm) r.dst r.v s
          rw [nth_put, hf.dst]
        · exact get_upds _ _ _
      rw [hlen, hs] at g4 g4' g5
      refine ⟨r :: rs, tm', hp', by simp [g1], ?_, by rw [g3, hlen], ⟨by simpa [foldD] using g4, by simpa [foldD] using g4'⟩, fun j o' r' hj hr => ?_, fun j rj hj e he hm => ?_, fun j k rj rk hj hk hlt hm => ?_⟩
      · have : i + 1 + l.length = i + (o :: l).length := by simp; omega
        rw [← this]; exact g2
      · cases j with
        | zero =>
          simp at hj hr; subst hj; subst hr
          refine ⟨tm, hp, hf, rfl, ?_, ?_⟩
          · simp only [foldD]
            rw [if_neg (by simp)]
            have : ∀ rs' (k : Nat) (s : Sg), i < k → foldD tm.length (fun k => decide (k < i + 0)) rs' k s = s := by
              intro rs'
              induction rs' with
              | nil => intro k s _; rfl
              | cons x rs' ih => intro k s hk; simp only [foldD]; rw [if_neg (by simp; omega)]; exact ih (k + 1) s (by omega)
            rw [this _ _ _ (by omega)]
          · simp only [foldD]
            rw [if_neg (by simp)]
            have : ∀ rs' (k : Nat) (s : Sg), i < k → foldD tm.length (fun k => decide (k < i + 0)) rs' k s = s := by
              intro rs'
              induction rs' with
              | nil => intro k s _; rfl
              | cons x rs' ih => intro k s hk; simp only [foldD]; rw [if_neg (by simp; omega)]; exact ih (k + 1) s (by omega)
            rw [this _ _ _ (by omega)]
        | succ j =>
          obtain ⟨tmj, hpj, k1, k2, k3, k4⟩ := g5 j o' r' (by simpa using hj) (by simpa using hr)
          have e3 : i + 1 + j = i + (j + 1) := by omega
          rw [e3] at k1 k3 k4
          refine ⟨tmj, hpj, k1, k2, ?_, ?_⟩
          · simp only [foldD]; rw [if_pos (by simp <;> omega)]; exact k3
          · simp only [foldD]; rw [if_pos (by simp <;> omega)]; exact k4
      · cases j with
        | zero => simp at hj; subst hj; exact ordered_spec hord e he hm
        | succ j =>
          have := g6 j rj (by simpa using hj) e (List.mem_cons_of_mem _ he) hm
          rwa [show i + 1 + j = i + (j + 1) by omega] at this
      · cases k with
        | zero => omega
        | succ k =>
          cases j with
          | zero =>
            simp at hj; subst hj
            have := g6 k rk (by simpa using hk) ⟨i, r.rd, r.wr⟩ List.mem_cons_self hm
            rwa [show i + 1 + k = i + (k + 1) by omega] at this
          | succ j =>
            have := g7 j k rj rk (by simpa using hj) (by simpa using hk) (by omega) hm
            rwa [show i + 1 + k = i + (k + 1) by omega, show i + 1 + j = i + (j + 1) by omega] at this
    split at h
    · rename_i hw
      rw [step_looked (look' := only (fun b => get b hp) ((looked o).flatMap fun x => ids (ev C tm x))) (fun x hx b hb => only_agree _ _ b (List.mem_flatMap.2 ⟨x, hx, hb⟩))] at h
      obtain ⟨e, h1, h2⟩ := step_good hC (evOk tm) h
      obtain ⟨v, h3, hlit⟩ := lit_cases h1
      split at h3
      · rename_i hord
        exact key ⟨o.dst, v, e.u, rdOf C ops.toList tm o, wrOf o e.u⟩ _ _ ⟨rfl, rfl, true, hw, fun h => (by cases h), fun _ => ⟨rfl, e, rfl, hlit.rel, h2⟩⟩ rfl rfl hord h3
      · cases h3
    · rename_i hw
      split at h
      · rename_i hord
        exact key ⟨o.dst, .tup [], [], tmpsOf ops.toList o, wrOf o []⟩ _ _ ⟨rfl, rfl, false, hw, fun _ => ⟨rfl, rfl, rfl⟩, fun h => (by cases h)⟩ rfl rfl hord h
      · cases h
    · cases h

theorem meets_of {a b : List Nat} {x : Nat} (h1 : x ∈ a) (h2 : x ∈ b) : meets a b = true :=
  List.any_eq_true.2 ⟨x, h1, List.any_eq_true.2 ⟨x, h2, by simp⟩⟩

theorem Rel.drawn {gl : List (Nat × AV0)} {tm : Nat → AV} {look : Look} (h : Rel gl n Own w0 tm look m R a w) (d : Nat) : Rel gl n Own w0 tm look m R a { w with drawn := d } := by
  have hs : ∀ R : Nat → Prop, Same R w { w with drawn := d } := fun _ _ _ => rfl
  exact { h with
    tmps := fun t => (h.tmps t).mono (fun _ h => h) (hs R) fun _ _ h => h
    blk := fun b B hb => (h.blk b B hb).imp fun L ⟨h1, h2⟩ => ⟨h1, h2.mono (fun _ h => h) (hs R) (fun _ _ h => h) fun _ _ => rfl⟩
    rsize := h.rsize
    gl := fun g x hx => (h.gl g x hx).mono (fun _ h => h) (hs R) fun _ _ h => h
    keeps := (h.keeps.trans (Keeps.drew Own.cell w d)).mono fun _ _ _ hx => hx.elim id id }

theorem edgesOk_spec : ∀ {l : List Oper} {i : Nat}, edgesOk l i = true → ∀ j o, l[j]? = some o → ∀ e ∈ o.after.toList, Region.binds .any e = true → e.on < i + j
  | [], _, _, j, o, hj, _, _, _ => by simp at hj
  | x :: l, i, h, 0, o, hj, e, he, hb => by
    simp at hj; subst hj
    simp only [edgesOk, Bool.and_eq_true] at h
    have := List.all_eq_true.1 h.1 e he
    simpa [hb] using this
  | x :: l, i, h, j + 1, o, hj, e, he, hb => by
    simp only [edgesOk, Bool.and_eq_true] at h
    have := edgesOk_spec h.2 j o (by simpa using hj) e he hb
    omega

theorem region_draw (hC : CtxOk P C) {ops : Array Oper} {nx : Nat} {Q : Exit → Act → World → Prop} {K : St → Option ρ} {tm : List AV} {hp : List (Nat × Blk)} {id : Nat}
    (he : edgesOk ops.toList 0 = true) (h : vops C fuel true ops.toList (befores ops.toList []) nx ops.toList 0 tm hp [] K = some res) (hr : Rel C.gl n Own w0 (nth tm) (fun b => get b hp) m R a w) (hl : tm.length = n) (hm : ∀ b L, m b = some L → b < nx)
    (hQ : ∀ tm' hp' m' R' a' w', tm'.length = n → K ⟨tm', hp', nx + 8 * ops.toList.length⟩ = some res → Rel C.gl n Own w0 (nth tm') (fun b => get b hp') m' R' a' w' → (∀ b L, m' b = some L → b < nx + 8 * ops.toList.length) → Q .normal a' w') :
    (Code.region id ops true).wp P Q a w := by
  obtain ⟨rs, tmE, hpE, g1, g2, g3, ⟨g4, g4'⟩, g5, _, g7⟩ := vops_trace hC ops.toList 0 tm hp [] [] h rfl rfl
  rw [hl] at g4 g4' g5
  simp only [Nat.zero_add] at g2 g5 g7
  generalize hσ : ((nth tm, fun b => get b hp) : Sg) = σ at g4 g4' g5
  have hN : rs.length = ops.size := by simpa using g1
  refine wp_region_any hC.mixed ?_
  -- from whatever has come up
  have key : ∀ (fu : Nat) (listed : Array Bool) (m : Map) (R : Nat → Prop) (a : Act) (w : World), listed.size = ops.size → (List.range ops.size).countP (fun j => !listed.getD j false) ≤ fu → Closed (befores ops.toList []) (fun j => listed.getD j false) →
      Rel C.gl n Own w0 (foldD n (fun j => listed.getD j false) rs 0 σ).1 (foldD n (fun j => listed.getD j false) rs 0 σ).2 m R a w →
      (∀ b L, m b = some L → b < nx ∨ ∃ j, j < ops.size ∧ listed.getD j false = true ∧ nx + 8 * j ≤ b ∧ b < nx + 8 * j + 8) → wpAny P .any ops Q fu listed a w := by
    intro fu
    induction fu with
    | zero =>
      intro listed m R a w hsz hcnt hcl hrel hdom
      have hall : ∀ j, j < ops.size → listed.getD j false = true := by
        intro j hj
        have := List.countP_eq_zero.1 (Nat.le_zero.1 hcnt) j (List.mem_range.2 hj)
        simpa using this
      have hfin : Q .normal a w := by
        have e := fold_same (n := n) (D := fun j => listed.getD j false) (D' := fun _ => true) rs 0 σ (fun j hj => by rw [Nat.zero_add]; exact hall j (by omega))
        rw [e, ← g4, ← g4'] at hrel
        refine hQ tmE hpE m R a w (by rw [g3, hl]) g2 hrel fun b L hb => ?_
        rcases hdom b L hb with h1 | ⟨j, h1, _, h2, h3⟩
        · omega
        · have : ops.toList.length = ops.size := by simp
          omega
      refine ⟨?_, hfin⟩
      unfold Region.ready
      refine List.filter_eq_nil_iff.2 fun i hi => ?_
      have hi' := hall i (List.mem_range.1 hi)
      have : listed.getD i true = true := by
        have hlt : i < listed.size := by rw [hsz]; exact List.mem_range.1 hi
        rw [Array.getD_eq_getD_getElem?] at hi' ⊢
        simp [hlt] at hi' ⊢; exact hi'
      simp [this]
    | succ fu ih =>
      intro listed m R a w hsz hcnt hcl hrel hdom
      refine ⟨fun hnil => ?_, fun i hi => ?_⟩
      · have hall : ∀ j, j < ops.size → listed.getD j false = true := by
          intro j
          induction j using Nat.strongRecOn with
          | _ j ihj =>
            intro hj
            by_cases hd : listed.getD j false = true
            · exact hd
            · exfalso
              have hready : j ∈ Region.ready .any ops listed := by
                rw [mem_ready]
                refine ⟨?_, ops[j], Array.getElem?_eq_getElem hj, fun e hemem hb => ?_⟩
                · have hlt : j < listed.size := by omega
                  rw [Array.getD_eq_getD_getElem?] at hd ⊢
                  simp [hlt] at hd ⊢; exact hd
                · have := edgesOk_spec he j ops[j] (by simp [hj]) e (by simpa using hemem) hb
                  exact ihj e.on (by omega) (by omega)
              rw [hnil] at hready; cases hready
        have e := fold_same (n := n) (D := fun j => listed.getD j false) (D' := fun _ => true) rs 0 σ (fun j hj => by rw [Nat.zero_add]; exact hall j (by omega))
        rw [e, ← g4, ← g4'] at hrel
        refine hQ tmE hpE m R a w (by rw [g3, hl]) g2 hrel fun b L hb => ?_
        rcases hdom b L hb with h1 | ⟨j, h1, _, h2, h3⟩
        · omega
        · have : ops.toList.length = ops.size := by simp
          omega
      · obtain ⟨hun, o, ho, hdeps⟩ := mem_ready.1 hi
        have hilt : i < ops.size := (Array.getElem?_eq_some_iff.1 ho).1
        have hDi : listed.getD i false = false := by
          have hlt : i < listed.size := by omega
          rw [Array.getD_eq_getD_getElem?] at hun ⊢
          simp [hlt] at hun ⊢; exact hun
        have ho' : ops.toList[i]? = some o := by simpa using ho
        obtain ⟨hbits, hcl'⟩ := closed_add hcl ho' fun e hemem hb => hdeps e (by simpa using hemem) hb
        -- the record of operation i
        have hrec : ∃ r, rs[i]? = some r := ⟨rs[i], List.getElem?_eq_getElem (by omega)⟩
        obtain ⟨r, hri⟩ := hrec
        obtain ⟨tmi, hpi, hF, hli, htm, hlk⟩ := g5 i o r ho' hri
        -- the flags behind it
        have hflag : (fun j => (listed.setIfInBounds i true).getD j false) = addD (fun j => listed.getD j false) i := by
          funext j
          simp only [addD, Array.getD_eq_getD_getElem?]
          by_cases hij : i = j
          · subst hij
            simp [show i < listed.size by omega]
          · rw [Array.getElem?_setIfInBounds_ne hij]
            have : (j == i) = false := by simp; omega
            simp [this]
        have hflag' : ∀ j, (listed.setIfInBounds i true).getD j false = addD (fun j => listed.getD j false) i j := fun j => congrFun hflag j
        -- a writer of what i reads: it came first, or comes later
        have hwr : ∀ j rj x, rs[j]? = some rj → x ∈ rj.wr → x ∈ r.rd → decide (j < i) = listed.getD j false := by
          intro j rj x hj hx hxr
          rcases Nat.lt_trichotomy j i with hlt | rfl | hgt
          · have := g7 j i rj r hj hri hlt (by simp [meets_of hx hxr])
            rw [decide_eq_true hlt]
            exact (hbits j this).symm
          · rw [hDi]; simp
          · have := g7 i j r rj hri hj hgt (by simp [meets_of hxr hx])
            rw [decide_eq_false (by omega)]
            cases hdj : listed.getD j false with
            | false => rfl
            | true =>
              have := hcl j hdj i this
              simp only at this
              rw [hDi] at this; cases this
        have hrecwr : ∀ (j : Nat) (rj : Rec), rs[j]? = some rj → rj.wr = wrOf ⟨rj.dst, .move (.tmp 0), 0, "", #[], none⟩ rj.u := by
          intro j rj hj
          have hjl : j < ops.size := by have := (List.getElem?_eq_some_iff.1 hj).1; omega
          obtain ⟨_, _, hFj, _⟩ := g5 j ops[j] rj (by simp [hjl]) hj
          rw [hFj.wr]
          simp [wrOf, hFj.dst]
        have htmv : ∀ t, 2 * t ∈ r.rd → nth tmi t = (foldD n (fun j => listed.getD j false) rs 0 σ).1 t := by
          intro t ht
          rw [htm]
          refine fold_tm rs 0 σ σ (fun j rj hj hd => ?_) rfl
          rw [Nat.zero_add]
          exact hwr j rj (2 * t) hj (by rw [hrecwr j rj hj]; simp [wrOf, hd]) ht
        have hlkv : ∀ b, 2 * b + 1 ∈ r.rd → get b hpi = (foldD n (fun j => listed.getD j false) rs 0 σ).2 b := by
          intro b hb
          have : get b hpi = (fun b => get b hpi) b := rfl
          rw [this, hlk]
          refine fold_lk rs 0 σ σ (fun j rj x hj hx => ?_) rfl
          rw [Nat.zero_add]
          exact hwr j rj (2 * b + 1) hj (by rw [hrecwr j rj hj]; exact List.mem_append_right _ (List.mem_map.2 ⟨(b, x), hx, rfl⟩)) hb
        -- behind it
        have hfold : foldD n (addD (fun j => listed.getD j false) i) rs 0 σ = applyR n r (foldD n (fun j => listed.getD j false) rs 0 σ) := by
          refine fold_add hDi rs 0 i σ (by omega) hri fun j rj hj hlt hd => ?_
          rw [Nat.zero_add] at hd
          have hno : meets r.wr rj.wr = true → False := fun hmt => by
            have := g7 i j r rj hri hj hlt (by simp [hmt])
            have := hcl j hd i this
            simp only at this
            rw [hDi] at this; cases this
          rw [hrecwr i r hri, hrecwr j rj hj] at hno
          refine ⟨fun t h1 h2 => hno (meets_of (x := 2 * t) (by simp [wrOf, h1]) (by simp [wrOf, h2])), fun b x y h1 h2 => hno (meets_of (x := 2 * b + 1) (List.mem_append_right _ (List.mem_map.2 ⟨(b, x), h1, rfl⟩)) (List.mem_append_right _ (List.mem_map.2 ⟨(b, y), h2, rfl⟩)))⟩
        have hcnt' : (List.range ops.size).countP (fun j => !(listed.setIfInBounds i true).getD j false) ≤ fu := by
          have e1 : (List.range ops.size).countP (fun j => !(listed.setIfInBounds i true).getD j false) + 1 ≤ (List.range ops.size).countP (fun j => !listed.getD j false) := by
            have hmem : i ∈ List.range ops.size := List.mem_range.2 hilt
            have e2 : (fun j => !(listed.setIfInBounds i true).getD j false) = fun j => (!listed.getD j false) && !(j == i) := by
              funext j
              rw [hflag' j]; simp only [addD]
              cases listed.getD j false <;> cases (j == i) <;> rfl
            rw [e2]
            have : ∀ l : List Nat, i ∈ l → l.countP (fun j => (!listed.getD j false) && !(j == i)) + 1 ≤ l.countP (fun j => !listed.getD j false) := by
              intro l
              induction l with
              | nil => intro h; cases h
              | cons x l ihl =>
                intro hx
                simp only [List.countP_cons]
                have hle : l.countP (fun j => (!listed.getD j false) && !(j == i)) ≤ l.countP (fun j => !listed.getD j false) := List.countP_mono_left fun y _ hy => by
                  simp only [Bool.and_eq_true] at hy; exact hy.1
                by_cases hxi : x = i
                · subst hxi
                  have e3 : ((!listed.getD x false) && !(x == x)) = false := by simp
                  have e4 : (!listed.getD x false) = true := by rw [hDi]; rfl
                  rw [if_neg (by rw [e3]; simp), if_pos e4]; omega
                · have := ihl ((List.mem_cons.1 hx).resolve_left (Ne.symm hxi))
                  have hne : (x == i) = false := by simp [hxi]
                  simp only [hne, Bool.not_false, Bool.and_true]
                  omega
            exact this _ hmem
          omega
        unfold wpOp
        simp only [ho]
        obtain ⟨b, hw, hskip, hexec⟩ := hF.wanted
        have hwant : Region.wanted o (yielded ops a.tmps) = b := by
          refine wanted_rel (R := R) (m := m) (w := w) hw fun j want t hg hd => ?_
          have hmem : 2 * t ∈ r.rd := by
            have h1 : 2 * t ∈ tmpsOf ops.toList o := by
              unfold tmpsOf
              refine List.mem_append_right _ ?_
              simp [hg, hd]
            cases b with
            | false => rw [(hskip rfl).2.2]; exact h1
            | true => rw [(hexec rfl).1]; exact List.mem_append_left _ h1
          rw [htmv t hmem]
          exact hrel.tmps t
        rw [hwant]
        cases b with
        | false =>
          simp only [Bool.false_eq_true, if_false]
          obtain ⟨s1, s2, s3⟩ := hskip rfl
          refine ih _ m R _ w (by simp [hsz]) hcnt' (by rw [hflag]; exact hcl') ?_ fun b L hb => ?_
          · rw [hflag, hfold]
            have := hrel.put_un o.dst
            unfold applyR
            rw [s1, s2, hF.dst]
            exact this
          · refine (hdom b L hb).imp (fun h => h) fun ⟨j, h1, h2, h3⟩ => ⟨j, h1, ?_, h3⟩
            rw [hflag' j]; simp only [addD]; rw [h2]; rfl
        | true =>
          simp only [if_true]
          obtain ⟨s1, e, s2, s3, s4⟩ := hexec rfl
          have hfree : ∀ b, nx + 8 * i ≤ b → b < nx + 8 * i + 8 → m b = none := fun b hb1 hb2 => by
            cases hmb : m b with
            | none => rfl
            | some L =>
              rcases hdom b L hmb with h1 | ⟨j, _, h1, h2, h3⟩
              · omega
              · have : j = i := by omega
                subst this
                rw [hDi] at h1; cases h1
          have honly : ∀ b B, only (fun b => get b hpi) ((looked o).flatMap fun x => ids (ev C tmi x)) b = some B → (foldD n (fun j => listed.getD j false) rs 0 σ).2 b = some B := by
            intro b B hb
            unfold only at hb
            split at hb
            · rename_i hmem
              rw [← hlkv b ?_]; exact hb
              rw [s1]
              obtain ⟨x, hx, hbx⟩ := List.mem_flatMap.1 hmem
              exact List.mem_append_right _ (List.mem_flatMap.2 ⟨x, hx, List.mem_map.2 ⟨b, hbx, rfl⟩⟩)
            · cases hb
          have hops : ∀ x ∈ o.op.operands, AVRel R m w (ev C tmi x) (a.eval x) := by
            intro x hx
            cases x with
            | tmp t =>
              have hmem : 2 * t ∈ r.rd := by
                rw [s1]
                refine List.mem_append_left _ (List.mem_append_left _ (List.mem_filterMap.2 ⟨.tmp t, by simpa using hx, rfl⟩))
              show AVRel R m w (nth tmi t) _
              rw [htmv t hmem]
              exact hrel.tmps t
            | const v => exact ofConst_rel R m w v
            | global g =>
              simp only [ev]
              split
              · rename_i x hx; exact hrel.gl g x hx
              · exact AVRel.un _
            | func f => rfl
          refine .inl (Outcome.wp (s4 m R w a.eval ((hrel.pre hfree).only honly) hops) fun x w' ⟨m', R', hpost⟩ => ?_)
          have hpost' := hpost.wider honly
          have hrel' := hrel.step hfree hpost' (d := o.dst) (x := r.v) s3
          refine ih _ m' R' _ w' (by simp [hsz]) hcnt' (by rw [hflag]; exact hcl') ?_ fun b L hb => ?_
          · rw [hflag, hfold]
            unfold applyR
            rw [s2, hF.dst]
            exact hrel'
          · cases hmb : m b with
            | none =>
              obtain ⟨q1, q2⟩ := hpost.dom b L hb hmb
              refine .inr ⟨i, hilt, ?_, q1, q2⟩
              rw [hflag' i]; simp [addD]
            | some L' =>
              refine (hdom b L' hmb).imp (fun h => h) fun ⟨j, h1, h2, h3⟩ => ⟨j, h1, ?_, h3⟩
              rw [hflag' j]; simp only [addD]; rw [h2]; rfl
  have hnone : ∀ j, (Array.replicate ops.size false).getD j false = false := fun j => by
    simp [Array.getD_eq_getD_getElem?, Array.getElem?_replicate]
    split <;> rfl
  have hzero : ∀ (rs : List Rec) (i : Nat), foldD n (fun j => (Array.replicate ops.size false).getD j false) rs i σ = σ := by
    intro rs
    induction rs with
    | nil => intro i; rfl
    | cons x rs ihz => intro i; simp only [foldD]; rw [if_neg (by rw [hnone]; simp)]; exact ihz (i + 1)
  refine key ops.size _ m R a _ (by simp) (Nat.le_trans List.countP_le_length (by simp)) (fun j hj => by simp only at hj; rw [hnone] at hj; cases hj) ?_ fun b L hb => .inl (hm b L hb)
  rw [hzero, ← hσ]
  exact hr.drawn _

end
end Go.Rex
/- Rex, part Z: forgetting what is not wanted any more, and numbering what is left. -/
namespace Go.Rex

theorem get_append {α : Type} (b c : Nat) (x : α) : ∀ l : List (Nat × α), get b (l ++ [(c, x)]) = match get b l with
    | some y => some y
    | none => if b = c then some x else none
  | [] => rfl
  | (d, y) :: l => by
    simp only [List.cons_append, get]
    split
    · rfl
    · exact get_append b c x l

theorem get_wins : ∀ (hp : List (Nat × Blk)) (b : Nat) (B : Blk), get b (wins hp) = some B → b < 1000 ∧ get b hp = some B ∧ B.md = .win
  | [], b, B, h => by cases h
  | (c, .arr t xs .win) :: r, b, B, h => by
    simp only [wins] at h
    split at h
    · simp only [get] at h ⊢
      split at h
      · rename_i hc he; subst he; cases h; exact ⟨hc, by simp, rfl⟩
      · rename_i hne
        rw [get_del, if_neg hne] at h
        obtain ⟨h1, h2, h3⟩ := get_wins r b B h
        exact ⟨h1, by rw [if_neg hne]; exact h2, h3⟩
    · rw [get_del] at h
      split at h
      · cases h
      · rename_i hne
        obtain ⟨h1, h2, h3⟩ := get_wins r b B h
        exact ⟨h1, by simp only [get]; rw [if_neg hne]; exact h2, h3⟩
  | (c, .arr t xs .fz) :: r, b, B, h => by
    simp only [wins] at h
    rw [get_del] at h
    split at h
    · cases h
    · rename_i hne
      obtain ⟨h1, h2, h3⟩ := get_wins r b B h
      exact ⟨h1, by simp only [get]; rw [if_neg hne]; exact h2, h3⟩
  | (c, .arr t xs .full) :: r, b, B, h => by
    simp only [wins] at h
    rw [get_del] at h
    split at h
    · cases h
    · rename_i hne
      obtain ⟨h1, h2, h3⟩ := get_wins r b B h
      exact ⟨h1, by simp only [get]; rw [if_neg hne]; exact h2, h3⟩
  | (c, .loc cs) :: r, b, B, h => by
    simp only [wins] at h
    rw [get_del] at h
    split at h
    · cases h
    · rename_i hne
      obtain ⟨h1, h2, h3⟩ := get_wins r b B h
      exact ⟨h1, by simp only [get]; rw [if_neg hne]; exact h2, h3⟩
  | (c, .iter s p) :: r, b, B, h => by
    simp only [wins] at h
    rw [get_del] at h
    split at h
    · cases h
    · rename_i hne
      obtain ⟨h1, h2, h3⟩ := get_wins r b B h
      exact ⟨h1, by simp only [get]; rw [if_neg hne]; exact h2, h3⟩

/-- What is only read, behind a renaming. -/
def RR (look : Look) (mo : Map) (R : Nat → Prop) (r : Ren) (k : Nat) : Prop :=
  R k ∨ ∃ b B L, get b r.map = some 0 ∧ look b = some B ∧ mo b = some L ∧ L.c = some k

structure CI (look : Look) (mo : Map) (R : Nat → Prop) (w : World) (r : Ren) (mu : Map) : Prop where
  dom : ∀ b L, mu b = some L → b < 1000 ∨ (1000 ≤ b ∧ b < 1000 + r.n)
  low : ∀ b, b < 1000 → mu b = mo b
  hp : ∀ b B, get b r.hp = some B → ∃ L, mu b = some L ∧ BRel (RR look mo R r) mu w L B ∧ ((b < 1000 ∧ look b = some B ∧ B.md = .win) ∨
    (1000 ≤ b ∧ B.md = .full ∧ (L.c = none ∨ ∃ b0 B0 L0, get b0 r.map = some b ∧ look b0 = some B0 ∧ B0.md = .full ∧ mo b0 = some L0 ∧ L0.c = L.c)))
  map : ∀ b v, get b r.map = some v → (v = 0 ∨ (1000 ≤ v ∧ v < 1000 + r.n)) ∧ ∃ B0, look b = some B0 ∧ B0.md = .full

section
variable {look : Look} {mo : Map} {R : Nat → Prop} {w : World}

/-- One renaming says more than another. -/
def RLe (r r' : Ren) : Prop := ∀ b v, get b r.map = some v → get b r'.map = some v

theorem RLe.rr {r r' : Ren} (h : RLe r r') : ∀ k, RR look mo R r k → RR look mo R r' k :=
  fun _ hk => hk.imp id fun ⟨b, B, L, h1, h2⟩ => ⟨b, B, L, h b 0 h1, h2⟩

theorem RLe.refl (r : Ren) : RLe r r := fun _ _ h => h

/-- A new number. -/
theorem CI.fresh {r : Ren} {mu : Map} (h : CI look mo R w r mu) : mu (1000 + r.n) = none := by
  cases hm : mu (1000 + r.n) with
  | none => rfl
  | some L => have := h.dom _ L hm; omega

theorem CI.add {r : Ren} {mu : Map} (h : CI look mo R w r mu) {L : Loc} {B : Blk} {mp : List (Nat × Nat)} (hmp : ∀ b v, get b r.map = some v → get b mp = some v) (hmap : ∀ b v, get b mp = some v → (v = 0 ∨ (1000 ≤ v ∧ v < 1000 + (r.n + 1))) ∧ ∃ B0, look b = some B0 ∧ B0.md = .full)
    (hmd : B.md = .full) (hB : BRel (RR look mo R ⟨mp, r.hp ++ [(1000 + r.n, B)], r.n + 1⟩) (setM mu (1000 + r.n) L) w L B) (ho : L.c = none ∨ ∃ b0 B0 L0, get b0 mp = some (1000 + r.n) ∧ look b0 = some B0 ∧ B0.md = .full ∧ mo b0 = some L0 ∧ L0.c = L.c) :
    CI look mo R w ⟨mp, r.hp ++ [(1000 + r.n, B)], r.n + 1⟩ (setM mu (1000 + r.n) L) := by
  have hle : RLe r ⟨mp, r.hp ++ [(1000 + r.n, B)], r.n + 1⟩ := hmp
  refine ⟨fun b L' hb => ?_, fun b hb => ?_, fun b B' hb => ?_, hmap⟩
  · by_cases e : b = 1000 + r.n
    · subst e; exact .inr ⟨by omega, by simp⟩
    · rw [setM_ne e] at hb
      exact (h.dom b L' hb).imp id fun ⟨a, b⟩ => ⟨a, by simp only; omega⟩
  · rw [setM_ne (by omega)]; exact h.low b hb
  · rw [get_append] at hb
    cases hg : get b r.hp with
    | some y =>
      rw [hg] at hb; cases hb
      obtain ⟨L', h1, h2, h3⟩ := h.hp b B' hg
      refine ⟨L', setM_ext h.fresh _ _ h1, h2.mono hle.rr (Same.refl _ _) (setM_ext h.fresh) fun _ _ => rfl, h3.imp id fun ⟨g1, g2, g3⟩ => ⟨g1, g2, g3.imp id fun ⟨b0, B0, L0, k1, k2⟩ => ⟨b0, B0, L0, hmp _ _ k1, k2⟩⟩⟩
    | none =>
      rw [hg] at hb
      simp only at hb
      split at hb
      · rename_i e
        cases hb; subst e
        exact ⟨L, setM_same _ _ _, hB, .inr ⟨by omega, hmd, ho⟩⟩
      · cases hb

theorem CI.mark {r : Ren} {mu : Map} (h : CI look mo R w r mu) {mp : List (Nat × Nat)} (hmp : ∀ b v, get b r.map = some v → get b mp = some v) (hmap : ∀ b v, get b mp = some v → (v = 0 ∨ (1000 ≤ v ∧ v < 1000 + r.n)) ∧ ∃ B0, look b = some B0 ∧ B0.md = .full) :
    CI look mo R w ⟨mp, r.hp, r.n⟩ mu := by
  have hle : RLe r ⟨mp, r.hp, r.n⟩ := hmp
  exact ⟨h.dom, h.low, fun b B hb => by
    obtain ⟨L', h1, h2, h3⟩ := h.hp b B hb
    exact ⟨L', h1, h2.mono hle.rr (Same.refl _ _) (fun _ _ h => h) fun _ _ => rfl, h3.imp id fun ⟨g1, g2, g3⟩ => ⟨g1, g2, g3.imp id fun ⟨b0, B0, L0, k1, k2⟩ => ⟨b0, B0, L0, hmp _ _ k1, k2⟩⟩⟩, hmap⟩

theorem get_cons {α : Type} {b c : Nat} {x : α} {l : List (Nat × α)} : get b ((c, x) :: l) = if b = c then some x else get b l := rfl

/-- A value that stays as it is. -/
def CG (look : Look) (mo : Map) (R : Nat → Prop) (w : World) (r : Ren) (mu : Map) (p : AV0 × Ren) (v : Value) : Prop :=
  ∃ mu', CI look mo R w p.2 mu' ∧ Ext mu mu' ∧ RLe r p.2 ∧ VRel (RR look mo R p.2) mu' w p.1 v

theorem CG.keep {r : Ren} {mu : Map} (h : CI look mo R w r mu) {x : AV0} {v : Value} (hx : VRel (RR look mo R r) mu w x v) : CG look mo R w r mu (x, r) v :=
  ⟨mu, h, fun _ _ h => h, RLe.refl r, hx⟩

theorem canon0_sound (hb : Blks look R mo w) (hfz : ∀ b B L c, look b = some B → B.md = .fz → mo b = some L → L.c = some c → R c) {r : Ren} {mu : Map} (h : CI look mo R w r mu) {x : AV0} {c : Coe} {v : Value} (hx : VRel R mo w x v) : CG look mo R w r mu (canon0 look r x c) v := by
  have hun : CG look mo R w r mu (.un, r) v := CG.keep h trivial
  have hR : ∀ k, R k → RR look mo R r k := fun _ h => .inl h
  unfold canon0
  split
  · rename_i t
    cases hx
    exact CG.keep h ⟨none, 0, rfl, Nat.le_refl _, fun h => absurd rfl h⟩
  · rename_i t
    cases hx
    refine ⟨_, h.add (L := ⟨none, 0, 0, t.size, 0⟩) (fun _ _ h => h) (fun b v hv => ?_) rfl ⟨rfl, rfl, fun _ => rfl, fun c hc => (by cases hc)⟩ (.inl rfl), setM_ext h.fresh, fun _ _ h => h, _, setM_same _ _ _, none, 0, 0, rfl, Nat.le_refl _, Nat.le_refl _, fun _ => rfl, fun m hm => (by cases hm), fun _ => ⟨rfl, rfl⟩, fun c hc => (by cases hc)⟩
    obtain ⟨h1, h2⟩ := h.map b v hv
    exact ⟨h1.imp id fun ⟨a, b⟩ => ⟨a, by omega⟩, h2⟩
  · rename_i b o n t
    split
    · rename_i u xs hlb
      split
      · rename_i hs _ hg
        obtain ⟨hs⟩ := hs
        subst hs
        obtain ⟨L, hL, a, ln, cp, rfl, s1, s2, s3, s4, s5, s6⟩ := hx
        obtain ⟨L', hL', hB⟩ := hb b _ hlb
        rw [hL] at hL'; cases hL'
        obtain ⟨b1, b2, b3, b4⟩ := hB
        have hwl := window_length xs o n b1 s2 s3 s4
        have hol : o + ln ≤ L.len := by
          cases n with
          | none => have := s3 rfl; omega
          | some k => have := s4 k rfl; omega
        have hmp : ∀ c v, get c r.map = some v → get c ((b, 1000 + r.n) :: r.map) = some v := fun c v hc => by
          rw [get_cons, if_neg]
          · exact hc
          · rintro rfl; rw [hg] at hc; cases hc
        have hmap : ∀ c v, get c ((b, 1000 + r.n) :: r.map) = some v → (v = 0 ∨ (1000 ≤ v ∧ v < 1000 + (r.n + 1))) ∧ ∃ B0, look c = some B0 ∧ B0.md = .full := fun c v hc => by
          rw [get_cons] at hc
          split at hc
          · rename_i e; cases hc; subst e; exact ⟨.inr ⟨by omega, by omega⟩, _, hlb, rfl⟩
          · obtain ⟨h1, h2⟩ := h.map c v hc
            exact ⟨h1.imp id fun ⟨a, b⟩ => ⟨a, by omega⟩, h2⟩
        refine ⟨_, h.add (L := ⟨L.c, L.off + o * L.sz, ln, L.sz, L.ext⟩) hmp hmap rfl ?_ ?_, setM_ext h.fresh, hmp, _, setM_same _ _ _, a, ln, cp, rfl, s1, Nat.zero_le _, fun _ => rfl, fun m hm => (by cases hm), s5, fun c hc => ?_⟩
        · refine ⟨hwl, b2, fun hc => ?_, fun c hc => ?_⟩
          · have h0 := b3 hc
            show window xs o n = []
            rw [h0]; cases n <;> simp [window]
          · obtain ⟨cs, e, fr, c1, c2, c3, c4, c5⟩ := b4 c hc
            have := Nat.mul_le_mul_right L.sz hol
            rw [Nat.add_mul] at this
            refine ⟨cs, e, fr, c1, c2, by show L.off + o * L.sz + ln * L.sz ≤ L.ext; omega, c4, fun i y hy => ?_⟩
            obtain ⟨l, q1, q2⟩ := c5 (o + i) y (window_get xs o n i y hy)
            refine ⟨l, q1.mono (fun _ h => .inl h) (Same.refl _ _), fun j z hz => ?_⟩
            have := q2 j z hz
            show cs[L.off + o * L.sz + (i * u.size + j)]? = some z
            rw [b2, show L.off + o * u.size + (i * u.size + j) = L.off + ((o + i) * u.size + j) by rw [Nat.add_mul]; omega]; exact this
        · exact .inr ⟨b, _, L, by rw [get_cons, if_pos rfl], hlb, rfl, hL, rfl⟩
        · obtain ⟨k1, ad, k2, k3⟩ := s6 c hc
          refine ⟨by show ln ≤ 0 + cp; omega, ad, k2, fun hcz => ?_⟩
          obtain ⟨k4, k5⟩ := k3 hcz
          refine ⟨by rw [k4]; simp, ?_⟩
          show L.off + o * L.sz + (0 + cp) * L.sz ≤ L.ext
          rw [Nat.add_mul] at k5; rw [Nat.zero_add]; omega
      · exact hun
    · exact hun
  · rename_i b o n t
    split
    · rename_i u xs hlb
      split
      · rename_i hs _ hg
        obtain ⟨hs⟩ := hs
        subst hs
        obtain ⟨L, hL, hsl⟩ := hx
        obtain ⟨L', hL', hB⟩ := hb b _ hlb
        rw [hL] at hL'; cases hL'
        obtain ⟨b1, b2, b3, b4⟩ := hB
        have hmp : ∀ c v, get c r.map = some v → get c ((b, 1000 + r.n) :: r.map) = some v := fun c v hc => by
          rw [get_cons, if_neg]
          · exact hc
          · rintro rfl; rw [hg] at hc; cases hc
        have hmap : ∀ c v, get c ((b, 1000 + r.n) :: r.map) = some v → (v = 0 ∨ (1000 ≤ v ∧ v < 1000 + (r.n + 1))) ∧ ∃ B0, look c = some B0 ∧ B0.md = .full := fun c v hc => by
          rw [get_cons] at hc
          split at hc
          · rename_i e; cases hc; subst e; exact ⟨.inr ⟨by omega, by omega⟩, _, hlb, rfl⟩
          · obtain ⟨h1, h2⟩ := h.map c v hc
            exact ⟨h1.imp id fun ⟨a, b⟩ => ⟨a, by omega⟩, h2⟩
        refine ⟨_, h.add (L := L) hmp hmap rfl ⟨b1, b2, b3, fun c hc => ?_⟩ (.inr ⟨b, _, L, by rw [get_cons, if_pos rfl], hlb, rfl, hL, rfl⟩), setM_ext h.fresh, hmp, L, setM_same _ _ _, hsl⟩
        obtain ⟨cs, e, fr, c1, c2, c3, c4, c5⟩ := b4 c hc
        exact ⟨cs, e, fr, c1, c2, c3, c4, fun i y hy => (c5 i y hy).imp fun l ⟨q1, q2⟩ => ⟨q1.mono (fun _ h => .inl h) (Same.refl _ _), q2⟩⟩
      · exact hun
    · exact hun
  · rename_i b n t
    split
    · rename_i u xs hlb
      split
      · rename_i hs _ hg
        obtain ⟨hs⟩ := hs
        subst hs
        obtain ⟨L, cc, hL, hLc, hlen, hv⟩ := hx
        obtain ⟨L', hL', hB⟩ := hb b _ hlb
        rw [hL] at hL'; cases hL'
        obtain ⟨b1, b2, b3, b4⟩ := hB
        have hmp : ∀ c v, get c r.map = some v → get c ((b, 1000 + r.n) :: r.map) = some v := fun c v hc => by
          rw [get_cons, if_neg]
          · exact hc
          · rintro rfl; rw [hg] at hc; cases hc
        have hmap : ∀ c v, get c ((b, 1000 + r.n) :: r.map) = some v → (v = 0 ∨ (1000 ≤ v ∧ v < 1000 + (r.n + 1))) ∧ ∃ B0, look c = some B0 ∧ B0.md = .full := fun c v hc => by
          rw [get_cons] at hc
          split at hc
          · rename_i e; cases hc; subst e; exact ⟨.inr ⟨by omega, by omega⟩, _, hlb, rfl⟩
          · obtain ⟨h1, h2⟩ := h.map c v hc
            exact ⟨h1.imp id fun ⟨a, b⟩ => ⟨a, by omega⟩, h2⟩
        refine ⟨_, h.add (L := L) hmp hmap rfl ⟨b1, b2, b3, fun c hc => ?_⟩ (.inr ⟨b, _, L, by rw [get_cons, if_pos rfl], hlb, rfl, hL, rfl⟩), setM_ext h.fresh, hmp, L, cc, setM_same _ _ _, hLc, hlen, hv⟩
        obtain ⟨cs, e, fr, c1, c2, c3, c4, c5⟩ := b4 c hc
        exact ⟨cs, e, fr, c1, c2, c3, c4, fun i y hy => (c5 i y hy).imp fun l ⟨q1, q2⟩ => ⟨q1.mono (fun _ h => .inl h) (Same.refl _ _), q2⟩⟩
      · exact hun
    · exact hun
  · rename_i b o
    split
    · rename_i s p hlb
      split
      · rename_i hg
        obtain ⟨L, cc, hL, hLc, hv⟩ := hx
        obtain ⟨L', hL', hB⟩ := hb b _ hlb
        rw [hL] at hL'; cases hL'
        have hmp : ∀ c v, get c r.map = some v → get c ((b, 1000 + r.n) :: r.map) = some v := fun c v hc => by
          rw [get_cons, if_neg]
          · exact hc
          · rintro rfl; rw [hg] at hc; cases hc
        have hmap : ∀ c v, get c ((b, 1000 + r.n) :: r.map) = some v → (v = 0 ∨ (1000 ≤ v ∧ v < 1000 + (r.n + 1))) ∧ ∃ B0, look c = some B0 ∧ B0.md = .full := fun c v hc => by
          rw [get_cons] at hc
          split at hc
          · rename_i e; cases hc; subst e; exact ⟨.inr ⟨by omega, by omega⟩, _, hlb, rfl⟩
          · obtain ⟨h1, h2⟩ := h.map c v hc
            exact ⟨h1.imp id fun ⟨a, b⟩ => ⟨a, by omega⟩, h2⟩
        exact ⟨_, h.add (L := L) hmp hmap rfl hB (.inr ⟨b, _, L, by rw [get_cons, if_pos rfl], hlb, rfl, hL, rfl⟩), setM_ext h.fresh, hmp, L, cc, setM_same _ _ _, hLc, hv⟩
      · exact hun
    · exact hun
  · rename_i b o n t
    split
    · rename_i u xs hlb
      split
      · rename_i hs _
        obtain ⟨hs⟩ := hs
        subst hs
        obtain ⟨L, hL, hsl⟩ := hx
        obtain ⟨L', hL', hB⟩ := hb b _ hlb
        rw [hL] at hL'; cases hL'
        exact CG.keep h (arr_enc hB hsl (fun _ h => .inl h) fun c hc => .inl (hfz b _ L c hlb rfl hL hc))
      · exact hun
    · rename_i u xs hlb
      split
      · rename_i hs _ hg
        obtain ⟨hs⟩ := hs
        subst hs
        obtain ⟨L, hL, hsl⟩ := hx
        obtain ⟨L', hL', hB⟩ := hb b _ hlb
        rw [hL] at hL'; cases hL'
        have hmp : ∀ c v, get c r.map = some v → get c ((b, 0) :: r.map) = some v := fun c v hc => by
          rw [get_cons, if_neg]
          · exact hc
          · rintro rfl; rw [hg] at hc; cases hc
        have hmap : ∀ c v, get c ((b, 0) :: r.map) = some v → (v = 0 ∨ (1000 ≤ v ∧ v < 1000 + r.n)) ∧ ∃ B0, look c = some B0 ∧ B0.md = .full := fun c v hc => by
          rw [get_cons] at hc
          split at hc
          · rename_i e; cases hc; subst e; exact ⟨.inl rfl, _, hlb, rfl⟩
          · exact h.map c v hc
        refine ⟨mu, h.mark hmp hmap, fun _ _ h => h, hmp, ?_⟩
        exact arr_enc hB hsl (fun _ h => .inl h) fun c hc => .inr ⟨b, _, L, by rw [get_cons, if_pos rfl], hlb, hL, hc⟩
      · rename_i hs _ hg
        obtain ⟨hs⟩ := hs
        subst hs
        obtain ⟨L, hL, hsl⟩ := hx
        obtain ⟨L', hL', hB⟩ := hb b _ hlb
        rw [hL] at hL'; cases hL'
        exact CG.keep h (arr_enc hB hsl (fun _ h => .inl h) fun c hc => .inr ⟨b, _, L, hg, hlb, hL, hc⟩)
      · exact hun
    · exact hun
  · rename_i b o n
    split
    · split
      · rename_i hlb _ hb1
        obtain ⟨L, hL, hsl⟩ := hx
        exact CG.keep h ⟨L, by rw [h.low b hb1]; exact hL, hsl⟩
      · exact hun
    · exact hun
  · exact CG.keep h hx
  · exact CG.keep h hx
  · exact CG.keep h hx
  · exact CG.keep h hx
  · rename_i t xs u
    split
    · rename_i hs _
      obtain ⟨hs⟩ := hs
      subst hs
      exact CG.keep h (Enc.mono hR (Same.refl _ _) hx)
    · exact hun
  · exact CG.keep h (Enc.mono hR (Same.refl _ _) hx)
  · obtain ⟨ad, l, h1, h2, h3, h4, h5⟩ := hx
    exact CG.keep h ⟨ad, l, h1, h2, .inl h3, h4.mono hR (Same.refl _ _), h5⟩
  · obtain ⟨ad, h1, h2, h3, h4⟩ := hx
    exact CG.keep h ⟨ad, h1, h2, .inl h3, fun i y hy => (h4 i y hy).imp fun l ⟨a, b⟩ => ⟨a.mono hR (Same.refl _ _), b⟩⟩
  · exact CG.keep h hx
  · exact CG.keep h hx
  · exact hun

theorem CG.trans {r r1 : Ren} {mu mu1 : Map} (he : Ext mu mu1) (hl : RLe r r1) {p : AV0 × Ren} {v : Value} (h : CG look mo R w r1 mu1 p v) : CG look mo R w r mu p v := by
  obtain ⟨mu', h1, h2, h3, h4⟩ := h
  exact ⟨mu', h1, fun b L hb => h2 b L (he b L hb), fun b v hb => h3 b v (hl b v hb), h4⟩

theorem canonL_sound (hb : Blks look R mo w) (hfz : ∀ b B L c, look b = some B → B.md = .fz → mo b = some L → L.c = some c → R c) : ∀ (l : List AV0) (cs : List Coe) (r : Ren) (mu : Map) (vs : List Value), CI look mo R w r mu → CRel R mo w l vs →
    ∃ mu', CI look mo R w (canonL look r l cs).2 mu' ∧ Ext mu mu' ∧ RLe r (canonL look r l cs).2 ∧ CRel (RR look mo R (canonL look r l cs).2) mu' w (canonL look r l cs).1 vs
  | [], cs, r, mu, vs, h, hc => by
    cases vs with
    | cons _ _ => exact hc.elim
    | nil => cases cs <;> exact ⟨mu, h, fun _ _ h => h, RLe.refl r, trivial⟩
  | x :: l, cs, r, mu, [], h, hc => hc.elim
  | x :: l, cs, r, mu, v :: vs, h, hc => by
    have step : ∀ (c : Coe) (cs' : List Coe), canonL look r (x :: l) cs = ((canon0 look r x c).1 :: (canonL look (canon0 look r x c).2 l cs').1, (canonL look (canon0 look r x c).2 l cs').2) →
        ∃ mu', CI look mo R w (canonL look r (x :: l) cs).2 mu' ∧ Ext mu mu' ∧ RLe r (canonL look r (x :: l) cs).2 ∧ CRel (RR look mo R (canonL look r (x :: l) cs).2) mu' w (canonL look r (x :: l) cs).1 (v :: vs) := by
      intro c cs' he
      obtain ⟨mu1, h1, h2, h3, h4⟩ := canon0_sound hb hfz h (c := c) hc.1
      obtain ⟨mu2, g1, g2, g3, g4⟩ := canonL_sound hb hfz l cs' _ mu1 vs h1 hc.2
      rw [he]
      exact ⟨mu2, g1, fun b L hb => g2 b L (h2 b L hb), fun b v hb => g3 b v (h3 b v hb), h4.mono g3.rr (Same.refl _ _) g2, g4⟩
    cases cs with
    | nil => exact step .any [] rfl
    | cons c cs' => exact step c cs' rfl

def CGV (look : Look) (mo : Map) (R : Nat → Prop) (w : World) (r : Ren) (mu : Map) (p : AV × Ren) (v : Value) : Prop :=
  ∃ mu', CI look mo R w p.2 mu' ∧ Ext mu mu' ∧ RLe r p.2 ∧ AVRel (RR look mo R p.2) mu' w p.1 v

theorem canonV_sound (hb : Blks look R mo w) (hfz : ∀ b B L c, look b = some B → B.md = .fz → mo b = some L → L.c = some c → R c) {r : Ren} {mu : Map} (h : CI look mo R w r mu) {x : AV} {c : Coe} {v : Value} (hx : AVRel R mo w x v) : CGV look mo R w r mu (canonV look r x c) v := by
  have hun : CGV look mo R w r mu (.un, r) v := ⟨mu, h, fun _ _ h => h, RLe.refl r, AVRel.un v⟩
  unfold canonV
  split
  · rename_i b o l
    split
    · rename_i cs hlb hg
      obtain ⟨L, cc, hL, hLc, hu⟩ := hx
      obtain ⟨L', hL', hB⟩ := hb b _ hlb
      rw [hL] at hL'; cases hL'
      obtain ⟨cc', vs, e, b1, b2, b3, b4, b5⟩ := hB
      rw [hLc] at b1; cases b1
      simp only
      split
      · rename_i hn
        have hmp : ∀ c v, get c r.map = some v → get c ((b, 1000 + r.n) :: r.map) = some v := fun c v hc => by
          rw [get_cons, if_neg]
          · exact hc
          · rintro rfl; rw [hg] at hc; cases hc
        -- with the number given out, and nothing under it yet
        have h1 : CI look mo R w ⟨(b, 1000 + r.n) :: r.map, r.hp, r.n + 1⟩ (setM mu (1000 + r.n) L) := by
          have hle : RLe r ⟨(b, 1000 + r.n) :: r.map, r.hp, r.n + 1⟩ := hmp
          refine ⟨fun i L' hi => ?_, fun i hi => ?_, fun i B' hi => ?_, fun c v hc => ?_⟩
          · by_cases e : i = 1000 + r.n
            · subst e; exact .inr ⟨by omega, by simp⟩
            · rw [setM_ne e] at hi
              exact (h.dom i L' hi).imp id fun ⟨a, b⟩ => ⟨a, by simp only; omega⟩
          · rw [setM_ne (by omega)]; exact h.low i hi
          · obtain ⟨L', g1, g2, g3⟩ := h.hp i B' hi
            exact ⟨L', setM_ext h.fresh _ _ g1, g2.mono hle.rr (Same.refl _ _) (setM_ext h.fresh) fun _ _ => rfl, g3.imp id fun ⟨q1, q2, q3⟩ => ⟨q1, q2, q3.imp id fun ⟨b0, B0, L0, k1, k2⟩ => ⟨b0, B0, L0, hmp _ _ k1, k2⟩⟩⟩
          · rw [get_cons] at hc
            split at hc
            · rename_i e; cases hc; subst e; exact ⟨.inr ⟨by omega, by simp only; omega⟩, _, hlb, rfl⟩
            · obtain ⟨q1, q2⟩ := h.map c v hc
              exact ⟨q1.imp id fun ⟨a, b⟩ => ⟨a, by simp only; omega⟩, q2⟩
        obtain ⟨mu2, g1, g2, g3, g4⟩ := canonL_sound hb hfz cs l _ _ vs.toList h1 b5
        generalize hq : canonL look ⟨(b, 1000 + r.n) :: r.map, r.hp, r.n + 1⟩ cs l = q at hn g1 g3 g4
        have hN : mu2 (1000 + r.n) = some L := g2 _ _ (setM_same _ _ _)
        have hmapN : get b q.2.map = some (1000 + r.n) := g3 b _ (by rw [get_cons, if_pos rfl])
        refine ⟨mu2, ⟨g1.dom, g1.low, fun i B' hi => ?_, g1.map⟩, fun i L' hi => g2 _ _ (setM_ext h.fresh _ _ hi), fun c v hc => g3 c v (hmp c v hc), L, cc, hN, hLc, hu⟩
        simp only at hi
        rw [get_append] at hi
        cases hgi : get i q.2.hp with
        | some y =>
          rw [hgi] at hi; cases hi
          exact g1.hp i B' hgi
        | none =>
          rw [hgi] at hi
          simp only at hi
          split at hi
          · rename_i e1
            cases hi; subst e1
            exact ⟨L, hN, ⟨cc, vs, e, hLc, b2, hn, b4, g4⟩, .inr ⟨by omega, rfl, .inr ⟨b, _, L, hmapN, hlb, rfl, hL, rfl⟩⟩⟩
          · cases hi
      · exact hun
    · exact hun
  · rename_i cs l
    obtain ⟨vs, rfl, hvs⟩ := hx
    obtain ⟨mu2, g1, g2, g3, g4⟩ := canonL_sound hb hfz cs l _ _ vs.toList h hvs
    exact ⟨mu2, g1, g2, g3, vs, rfl, g4⟩
  · obtain ⟨mu2, g1, g2, g3, g4⟩ := canon0_sound hb hfz h hx
    exact ⟨mu2, g1, g2, g3, g4⟩
  · exact hun

theorem canonT_sound (hb : Blks look R mo w) (hfz : ∀ b B L c, look b = some B → B.md = .fz → mo b = some L → L.c = some c → R c) {old : List AV} {tmps : Nat → Value} (hold : ∀ t, AVRel R mo w (nth old t) (tmps t)) : ∀ (keep : List (Nat × Coe)) (r : Ren) (mu : Map) (tm : List AV), CI look mo R w r mu → (∀ t, AVRel (RR look mo R r) mu w (nth tm t) (tmps t)) →
    ∃ mu', CI look mo R w (canonT look old r keep tm).2 mu' ∧ RLe r (canonT look old r keep tm).2 ∧ (∀ t, AVRel (RR look mo R (canonT look old r keep tm).2) mu' w (nth (canonT look old r keep tm).1 t) (tmps t)) ∧ (canonT look old r keep tm).1.length = tm.length
  | [], r, mu, tm, h, ht => ⟨mu, h, RLe.refl r, ht, rfl⟩
  | (t, c) :: keep, r, mu, tm, h, ht => by
    simp only [canonT]
    obtain ⟨mu1, h1, h2, h3, h4⟩ := canonV_sound hb hfz h (c := c) (hold t)
    obtain ⟨mu2, g1, g2, g3, g4⟩ := canonT_sound hb hfz hold keep _ mu1 (setNth tm t (canonV look r (nth old t) c).1) h1 fun s => by
      rw [nth_setNth]
      split
      · rename_i e; rw [← e.1]; exact h4
      · exact (ht s).mono h3.rr (Same.refl _ _) h2
    exact ⟨mu2, g1, fun b v hb => g2 b v (h3 b v hb), g3, by rw [g4, setNth_length]⟩

end

/-- The state, as the evaluator tells it and as the model has it. -/
structure RelS (gl : List (Nat × AV0)) (n : Nat) (Own : OwnS) (w0 : World) (S : St) (m : Map) (R : Nat → Prop) (a : Act) (w : World) : Prop where
  rel : Rel gl n Own w0 (nth S.tm) (fun b => get b S.hp) m R a w
  len : S.tm.length = n
  dom : ∀ b L, m b = some L → b < S.nx

theorem nth_un (tm : List AV) (t : Nat) : nth (tm.map fun _ => .un) t = .un := by
  induction tm generalizing t with
  | nil => rfl
  | cons x l ih => cases t with
    | zero => rfl
    | succ t => exact ih t

theorem VRel.any_map {R : Nat → Prop} {m m' : Map} {w : World} {x : AV0} {v : Value} (hi : ids0 x = []) (h : VRel R m w x v) : VRel R m' w x v := by
  cases x <;> first | exact h | (simp [ids0] at hi)

theorem canon_sound {gl : List (Nat × AV0)} {n : Nat} {Own : OwnS} {w0 : World} {S : St} {m : Map} {R : Nat → Prop} {a : Act} {w : World} (hgl : ∀ g x, get g gl = some x → ids0 x = []) (h : RelS gl n Own w0 S m R a w) (keep : List (Nat × Coe)) :
    ∃ m' R', RelS gl n Own w0 (canon keep S) m' R' a w := by
  have hr := h.rel
  have h0 : CI (fun b => get b S.hp) m R w ⟨[], wins S.hp, 0⟩ (fun b => if b < 1000 then m b else none) := by
    refine ⟨fun b L hb => ?_, fun b hb => by simp [hb], fun b B hb => ?_, fun b v hb => by cases hb⟩
    · by_cases hlt : b < 1000
      · exact .inl hlt
      · rw [if_neg hlt] at hb; cases hb
    · obtain ⟨h1, h2, h3⟩ := get_wins S.hp b B hb
      obtain ⟨L, g1, g2⟩ := hr.blk b B h2
      refine ⟨L, by rw [if_pos h1]; exact g1, ?_, .inl ⟨h1, h2, h3⟩⟩
      cases B with
      | loc cs => cases h3
      | iter s p => cases h3
      | arr t xs md =>
        obtain ⟨q1, q2, q3, q4⟩ := g2
        exact ⟨q1, q2, q3, fun c hc => by
          obtain ⟨cs, e, fr, k1, k2, k3, k4, k5⟩ := q4 c hc
          exact ⟨cs, e, fr, k1, k2, k3, k4, fun i y hy => (k5 i y hy).imp fun l ⟨a, b⟩ => ⟨a.mono (fun _ h => .inl h) (Same.refl _ _), b⟩⟩⟩
  obtain ⟨mu, g1, g2, g3, g4⟩ := canonT_sound (tmps := fun t => a.tmps.getD t undef) hr.blk hr.fz hr.tmps keep _ _ (S.tm.map fun _ => .un) h0 fun t => by rw [nth_un]; exact AVRel.un _
  unfold canon
  simp only
  generalize canonT (fun b => get b S.hp) S.tm ⟨[], wins S.hp, 0⟩ keep (S.tm.map fun _ => .un) = p at g1 g2 g3 g4
  -- where a block of the new heap came from
  have from_ : ∀ b B L c, get b p.2.hp = some B → mu b = some L → L.c = some c → ∃ b0 B0 L0, get b0 S.hp = some B0 ∧ m b0 = some L0 ∧ L0.c = some c ∧ B0.md = B.md ∧ B.md ≠ .fz ∧ ((b < 1000 ∧ b0 = b ∧ L0 = L) ∨ (1000 ≤ b ∧ get b0 p.2.map = some b ∧ B0.md = .full)) := by
    intro b B L c hb hL hc
    obtain ⟨L', q1, q2, q3⟩ := g1.hp b B hb
    rw [hL] at q1; cases q1
    rcases q3 with ⟨k1, k2, k3⟩ | ⟨k1, k2, k3⟩
    · exact ⟨b, B, L, k2, by rw [← g1.low b k1]; exact hL, hc, rfl, (by rw [k3]; exact fun h => (by cases h)), .inl ⟨k1, rfl, rfl⟩⟩
    · rcases k3 with k3 | ⟨b0, B0, L0, k3, k4, k5, k6, k7⟩
      · rw [k3] at hc; cases hc
      · exact ⟨b0, B0, L0, k4, k6, by rw [k7]; exact hc, by rw [k5, k2], (by rw [k2]; exact fun h => (by cases h)), .inr ⟨k1, k3, k5⟩⟩
  have nofz : ∀ b B, get b p.2.hp = some B → B.md ≠ .fz := by
    intro b B hb
    obtain ⟨L', q1, q2, q3⟩ := g1.hp b B hb
    rcases q3 with ⟨k1, k2, k3⟩ | ⟨k1, k2, k3⟩
    · rw [k3]; exact fun h => by cases h
    · rw [k2]; exact fun h => by cases h
  have lt : ∀ {b B L c}, get b S.hp = some B → m b = some L → L.c = some c → c < w.heap.size := by
    intro b B L c h1 h2 h3
    obtain ⟨L', h4, h5⟩ := hr.blk b B h1
    rw [h2] at h4; cases h4
    exact h5.lt h3
  refine ⟨mu, RR (fun b => get b S.hp) m R p.2, ⟨⟨hr.size, hr.defers, g3, fun b B hb => (g1.hp b B hb).imp fun L ⟨q1, q2, _⟩ => ⟨q1, q2⟩, fun b b' B B' L L' c hb hb' hne hL hL' hc hc' => ?_, fun b B L c hb hmd hL hc hR => ?_, fun b B L c hb hmd _ _ => absurd hmd (nofz b B hb), fun k hk => ?_, fun g x hx => ?_, fun b B L c hb hL hc j hj => ?_, hr.keeps, fun b B L c hb hmd hL hc => ?_, fun k hk => ?_, fun i L hi hL => (by rw [g1.low i hi]; exact hr.args i L hi hL), fun k hk => .inl (hr.up k hk)⟩, by rw [g4]; simp [h.len], fun b L hb => ?_⟩⟩
  · exfalso
    obtain ⟨b0, B0, L0, k1, k2, k3, k4, k5, k6⟩ := from_ b B L c hb hL hc
    obtain ⟨b0', B0', L0', k1', k2', k3', k4', k5', k6'⟩ := from_ b' B' L' c hb' hL' hc'
    have hb0 : b0 ≠ b0' := by
      rintro rfl
      rcases k6 with ⟨q1, q2, _⟩ | ⟨q1, q2, q4⟩ <;> rcases k6' with ⟨q1', q2', _⟩ | ⟨q1', q2', q4'⟩
      · exact hne (q2.symm.trans q2')
      · rw [k1] at k1'; cases k1'
        obtain ⟨_, z1, z2, z3⟩ := g1.hp b B hb
        rcases z3 with ⟨_, _, z5⟩ | ⟨z4, _⟩
        · rw [← k4, q4'] at z5; cases z5
        · omega
      · rw [k1] at k1'; cases k1'
        obtain ⟨_, z1, z2, z3⟩ := g1.hp b' B' hb'
        rcases z3 with ⟨_, _, z5⟩ | ⟨z4, _⟩
        · rw [← k4', q4] at z5; cases z5
        · omega
      · rw [q2] at q2'; cases q2'; exact hne rfl
    have := (hr.inj b0 b0' B0 B0' L0 L0' c k1 k1' hb0 k2 k2' k3 k3').1
    exact k5 (k4.symm.trans this)
  · obtain ⟨b0, B0, L0, k1, k2, k3, k4, k5, k6⟩ := from_ b B L c hb hL hc
    rcases hR with hR | ⟨b1, B1, L1, q1, q2, q3, q4⟩
    · exact hr.rw b0 B0 L0 c k1 (by rw [k4]; exact k5) k2 k3 hR
    · have hb0 : b0 ≠ b1 := by
        rintro rfl
        rcases k6 with ⟨z1, z2, _⟩ | ⟨z1, z2, z3⟩
        · obtain ⟨_, B1', z3, z4⟩ := g1.map _ _ q1
          obtain ⟨_, y1, y2, y3⟩ := g1.hp b B hb
          rcases y3 with ⟨_, _, y5⟩ | ⟨y4, _⟩
          · rw [k1] at z3; cases z3; rw [← k4, z4] at y5; cases y5
          · omega
        · rw [q1] at z2; cases z2; omega
      have := (hr.inj b0 b1 B0 B1 L0 L1 c k1 q2 hb0 k2 q3 k3 q4).1
      exact k5 (k4.symm.trans this)
  · rcases hk with hk | ⟨b1, B1, L1, q1, q2, q3, q4⟩
    · exact hr.rsize k hk
    · exact lt q2 q3 q4
  · have hx' := hr.gl g x hx
    exact (VRel.any_map (hgl g x hx) hx').mono (fun _ h => .inl h) (Same.refl _ _) fun _ _ h => h
  · obtain ⟨b0, B0, L0, k1, k2, k3, k4, k5, k6⟩ := from_ b B L c hb hL hc
    refine hr.own b0 B0 L0 c k1 k2 k3 j ?_
    rcases k6 with ⟨z1, z2, z3⟩ | ⟨z1, z2, z3⟩
    · rw [k4, z3]; exact hj
    · rw [z3]; trivial
  · obtain ⟨b0, B0, L0, k1, k2, k3, k4, k5, k6⟩ := from_ b B L c hb hL hc
    exact hr.ownb b0 B0 L0 c k1 (by rw [k4]; exact k5) k2 k3
  · rcases hk with hk | ⟨b1, B1, L1, q1, q2, q3, q4⟩
    · exact hr.base k hk
    · obtain ⟨_, B1', z3, z4⟩ := g1.map _ _ q1
      simp only at q2
      rw [q2] at z3; cases z3
      exact (hr.ownb b1 B1 L1 k q2 (by rw [z4]; exact fun h => by cases h) q3 q4).elim (fun h => .inr (.inr h)) fun h => .inr (.inl h)
  · rcases g1.dom b L hb with h1 | ⟨_, h1⟩ <;> simp only <;> omega

end Go.Rex
/- Rex: codes: what the evaluator answers for a code, the model's run of it comes to. -/
namespace Go.Rex

def exitOf : EX → Exit
  | .normal => .normal
  | .exit id => .exit id
  | .ret => .ret

section
variable {P : Program} {C : Ctx} {n : Nat} {Own : OwnS} {w0 : World} {ρ : Type} {res : ρ} {fuel : Nat}

/-- Where a continuation answers, Q holds. -/
def KOk (C : Ctx) (n : Nat) (Own : OwnS) (w0 : World) (res : ρ) (K : EX → St → Option ρ) (Q : Exit → Act → World → Prop) : Prop :=
  ∀ e S m R a w, K e S = some res → RelS C.gl n Own w0 S m R a w → Q (exitOf e) a w

def YOk (C : Ctx) (n : Nat) (Own : OwnS) (w0 : World) (res : ρ) (y : St → Option ρ) (q : Act → World → Prop) : Prop :=
  ∀ S m R a w, y S = some res → RelS C.gl n Own w0 S m R a w → q a w

theorem kseq_ok {y : St → Option ρ} {K : EX → St → Option ρ} {q : Act → World → Prop} {Q : Exit → Act → World → Prop} (hy : YOk C n Own w0 res y q) (hK : KOk C n Own w0 res K Q) : KOk C n Own w0 res (kseq y K) (Exit.then q Q) := by
  intro e S m R a w h hr
  cases e with
  | normal => exact hy S m R a w h hr
  | exit id => exact hK (.exit id) S m R a w h hr
  | ret => exact hK .ret S m R a w h hr

theorem kblock_ok {id : Nat} {K : EX → St → Option ρ} {Q : Exit → Act → World → Prop} (hK : KOk C n Own w0 res K Q) : KOk C n Own w0 res (kblock id K) (Exit.inBlock id Q) := by
  intro e S m R a w h hr
  cases e with
  | normal => exact hK .normal S m R a w h hr
  | exit j =>
    simp only [kblock, cif_eq] at h
    simp only [exitOf, Exit.inBlock]
    by_cases hj : j = id
    · rw [if_pos hj] at h ⊢; exact hK .normal S m R a w h hr
    · rw [if_neg hj] at h ⊢; exact hK (.exit j) S m R a w h hr
  | ret => exact hK .ret S m R a w h hr

theorem least {p : Nat → Prop} (h : ∃ k, p k) : ∃ k, p k ∧ ∀ j, j < k → ¬ p j := by
  obtain ⟨k, hk⟩ := h
  induction k using Nat.strongRecOn with
  | _ k ih =>
    by_cases hj : ∃ j, j < k ∧ p j
    · obtain ⟨j, h1, h2⟩ := hj; exact ih j h1 h2
    · exact ⟨k, hk, fun j h1 h2 => hj ⟨j, h1, h2⟩⟩

theorem st_sound (hC : CtxOk P C) {S : St} {m : Map} {R : Nat → Prop} {a : Act} {w : World} (h : RelS C.gl n Own w0 S m R a w) (hh : H) : ∃ m' R', RelS C.gl n Own w0 (hh.st S) m' R' a w := by
  unfold H.st
  split
  · exact ⟨m, R, h⟩
  · exact canon_sound hC.gl h _

theorem loop_sound (hC : CtxOk P C) {c : Code} {body : St → (EX → St → Option ρ) → Option ρ} {hh : H} {K : EX → St → Option ρ} {Q : Exit → Act → World → Prop}
    (hb : ∀ (K : EX → St → Option ρ) (Q : Exit → Act → World → Prop) (S : St) (m : Map) (R : Nat → Prop) (a : Act) (w : World), body S K = some res → KOk C n Own w0 res K Q → RelS C.gl n Own w0 S m R a w → c.wp P Q a w)
    (hK : KOk C n Own w0 res K Q) {k : Nat} {S : St} {m : Map} {R : Nat → Prop} {a : Act} {w : World} (h : iter body hh.st K k S = some res) (hr : RelS C.gl n Own w0 S m R a w) : (Code.loop c).wp P Q a w := by
  -- the rounds that are left, at the least
  let p : Act → World → Nat → Prop := fun a w k => ∃ S m R, iter body hh.st K k S = some res ∧ RelS C.gl n Own w0 S m R a w
  let mu : Act → World → Nat := fun a w => by
    classical exact if h : ∃ k, p a w k then Classical.choose (least h) else 0
  have hmu : ∀ a w, (∃ k, p a w k) → p a w (mu a w) ∧ ∀ j, j < mu a w → ¬ p a w j := by
    intro a w h
    have : mu a w = Classical.choose (least h) := by simp only [mu]; rw [dif_pos h]
    rw [this]
    exact Classical.choose_spec (least h)
  refine wp_loop (I := fun a w => ∃ k, p a w k) (μ := mu) ⟨k, S, m, R, h, hr⟩ fun a w hI => ?_
  obtain ⟨⟨S, m, R, h1, h2⟩, hleast⟩ := hmu a w hI
  cases hk : mu a w with
  | zero => rw [hk] at h1; simp [iter] at h1
  | succ j =>
    rw [hk] at h1
    simp only [iter] at h1
    refine hb _ _ S m R a w h1 (kseq_ok (fun S' m' R' a' w' h3 h4 => ?_) hK) h2
    obtain ⟨m2, R2, h5⟩ := st_sound hC h4 hh
    have hp : p a' w' j := ⟨hh.st S', m2, R2, h3, h5⟩
    refine ⟨⟨j, hp⟩, ?_⟩
    rcases Nat.lt_or_ge j (mu a' w') with hlt | hge
    · exact absurd hp ((hmu a' w' ⟨j, hp⟩).2 j hlt)
    · omega

theorem vx_sound (hC : CtxOk P C) : ∀ (c : Code) (hh : H) (S : St) (K : EX → St → Option ρ) (Q : Exit → Act → World → Prop) (m : Map) (R : Nat → Prop) (a : Act) (w : World),
    vx C fuel c hh S K = some res → KOk C n Own w0 res K Q → RelS C.gl n Own w0 S m R a w → c.wp P Q a w
  | .skip, hh, S, K, Q, m, R, a, w, h, hK, hr => wp_skip (hK .normal S m R a w h hr)
  | .label _, hh, S, K, Q, m, R, a, w, h, hK, hr => wp_label (hK .normal S m R a w h hr)
  | .exit id, hh, S, K, Q, m, R, a, w, h, hK, hr => wp_exit (hK (.exit id) S m R a w h hr)
  | .ret, hh, S, K, Q, m, R, a, w, h, hK, hr => wp_ret (hK .ret S m R a w h hr)
  | .region id ops draw, hh, S, K, Q, m, R, a, w, h, hK, hr => by
    simp only [vx, cif_eq] at h
    split at h
    · refine wp_region ?_
      have := vops_seq (Q := Q) hC ops.toList 0 S.tm S.hp m R a w h (fun j o hj => by rw [Nat.zero_add]; simpa using hj) hr.rel hr.len (fun b L hb => by have := hr.dom b L hb; omega)
        fun tm' hp' m' R' a' w' h1 h2 h3 h4 => hK .normal _ m' R' a' w' h2 ⟨h3, h1, h4⟩
      rw [List.range_eq_range']
      simpa using this
    · split at h
      · rename_i he
        exact region_draw hC he h hr.rel hr.len (fun b L hb => hr.dom b L hb) fun tm' hp' m' R' a' w' h1 h2 h3 h4 => hK .normal _ m' R' a' w' h2 ⟨h3, h1, h4⟩
      · cases h
  | .seq x y, hh, S, K, Q, m, R, a, w, h, hK, hr => by
    simp only [vx] at h
    refine wp_seq (vx_sound hC x hh.l S _ _ m R a w h (kseq_ok (fun S' m' R' a' w' h1 h2 => ?_) hK) hr)
    obtain ⟨m2, R2, h3⟩ := st_sound hC h2 hh.r
    rw [jnH_eq] at h1
    exact vx_sound hC y hh.r _ K Q m2 R2 a' w' h1 hK h3
  | .cond c x y, hh, S, K, Q, m, R, a, w, h, hK, hr => by
    simp only [vx] at h
    split at h
    · rename_i b hc
      have hv : a.eval c = .bool b := by
        have := ev_rel hr.rel c
        rw [hc] at this; exact this
      cases b with
      | true => exact wp_cond_true hv (vx_sound hC x hh.l S K Q m R a w h hK hr)
      | false => exact wp_cond_false hv (vx_sound hC y hh.r S K Q m R a w h hK hr)
    · cases h
  | .block id c, hh, S, K, Q, m, R, a, w, h, hK, hr => by
    simp only [vx] at h
    exact wp_block (vx_sound hC c hh.l S _ _ m R a w h (kblock_ok hK) hr)
  | .loop c, hh, S, K, Q, m, R, a, w, h, hK, hr => by
    simp only [vx] at h
    obtain ⟨m2, R2, h3⟩ := st_sound hC hr hh
    exact loop_sound hC (fun K Q S m R a w h hK hr => vx_sound hC c hh.l S K Q m R a w h hK hr) hK h h3
  | .rangeFunc _ _ _ _, hh, S, K, Q, m, R, a, w, h, hK, hr => by simp [vx] at h
  | .scope _, hh, S, K, Q, m, R, a, w, h, hK, hr => by simp [vx] at h
  | .goto _, hh, S, K, Q, m, R, a, w, h, hK, hr => by simp [vx] at h
  | .refuse _, hh, S, K, Q, m, R, a, w, h, hK, hr => by simp [vx] at h

end
end Go.Rex
/- Rex: functions: how a call's arguments are taken over. -/
namespace Go.Rex

/-- A block that is handed on: its number in the call and with the caller, and what of it. -/
structure Link where
  i : Nat
  b : Nat
  t : Ty
  xs : List t.den
  md : Md
  o : Nat
  n : Option Nat
  own : Bool

def Link.blk (k : Link) : Blk := .arr k.t (window k.xs k.o k.n) (if k.own then .full else .win)

def Used.app (a b : Used) : Used := ⟨a.dem ++ b.dem, a.both ++ b.both, a.owns ++ b.owns⟩

theorem Used.app_assoc (a b c : Used) : (a.app b).app c = a.app (b.app c) := by simp [Used.app]

/-- One argument, as the caller tells it and as the call tells it. -/
def A1 (look : Look) (i : Nat) (x x' : AV0) (hd : List (Nat × Blk)) (d : Used) (lk : List Link) : AK → Prop
  | .int k => ∃ n, x = .int k n ∧ x' = .int k n ∧ hd = [] ∧ d = ⟨[], [], []⟩ ∧ lk = []
  | .bool => ∃ n, x = .bool n ∧ x' = .bool n ∧ hd = [] ∧ d = ⟨[], [], []⟩ ∧ lk = []
  | .str => ∃ n, x = .str n ∧ x' = .str n ∧ hd = [] ∧ d = ⟨[], [], []⟩ ∧ lk = []
  | .rm t => ∃ b n xs md, x = .sl b 0 n ∧ look b = some (.arr t xs md) ∧ x' = .sl i 0 (some (slLen n xs.length)) ∧ hd = [(i, .arr t xs .fz)] ∧ d = ⟨[(b, some (.arr t xs .fz))], [], []⟩ ∧ lk = []
  | .flt k => ∃ n, x = .flt k n ∧ x' = .flt k n ∧ hd = [] ∧ d = ⟨[], [], []⟩ ∧ lk = []
  | .fn g => x = .fn g ∧ x' = .fn g ∧ hd = [] ∧ d = ⟨[], [], []⟩ ∧ lk = []
  | .ro t => ∃ xs u, elems look t x = some (xs, u) ∧ x' = .ro t xs ∧ hd = [] ∧ d = ⟨u, [], []⟩ ∧ lk = []
  | .mu t => ∃ b o n xs md, x = .sl b o n ∧ look b = some (.arr t xs md) ∧ md ≠ .fz ∧ x' = .sl i 0 none ∧ hd = [(i, .arr t (window xs o n) .win)] ∧ d = ⟨[], [b], []⟩ ∧ lk = [⟨i, b, t, xs, md, o, n, false⟩]
  | .pt t => ∃ b o xs md, x = .rel b o 0 ∧ look b = some (.arr t xs md) ∧ md ≠ .fz ∧ x' = .rel i 0 0 ∧ hd = [(i, .arr t (window xs o (some 1)) .win)] ∧ d = ⟨[], [b], []⟩ ∧ lk = [⟨i, b, t, xs, md, o, some 1, false⟩]
  | .own t => (∃ b o n xs, x = .sl b o n ∧ look b = some (.arr t xs .full) ∧ x' = .sl i 0 none ∧ hd = [(i, .arr t (window xs o n) .full)] ∧ d = ⟨[], [b], [b]⟩ ∧ lk = [⟨i, b, t, xs, .full, o, n, true⟩]) ∨
      (x = .nils ∧ x' = .sl i 0 none ∧ hd = [(i, .arr t [] .full)] ∧ d = ⟨[], [], []⟩ ∧ lk = [])

def AR (look : Look) : List AK → Nat → List AV0 → List AV0 → List (Nat × Blk) → Used → List Link → Prop
  | [], _, l, l', hp, u, lk => l = [] ∧ l' = [] ∧ hp = [] ∧ u = ⟨[], [], []⟩ ∧ lk = []
  | k :: ks, i, l, l', hp, u, lk => ∃ x r x' r' hd hp2 d u2 lk1 lk2, l = x :: r ∧ l' = x' :: r' ∧ hp = hd ++ hp2 ∧ u = d.app u2 ∧ lk = lk1 ++ lk2 ∧ A1 look i x x' hd d lk1 k ∧ AR look ks (i + 1) r r' hp2 u2 lk2

theorem mkArgs_rel {look : Look} {O : Type} {out : O} {a : Used} : ∀ (ks : List AK) (i : Nat) (f : List AV0 → List (Nat × Blk) → Option O) (l : List AV0) (acc : Used), applyArgs look ks (mkArgs ks i f) l acc = some (some out, a) →
    ∃ l' hp u lk, f l' hp = some out ∧ a = acc.app u ∧ AR look ks i l l' hp u lk
  | [], i, f, l, acc, h => by
    cases l with
    | nil =>
      simp only [mkArgs, applyArgs, Option.some.injEq, Prod.mk.injEq] at h
      exact ⟨[], [], ⟨[], [], []⟩, [], h.1, by rw [← h.2]; simp [Used.app], rfl, rfl, rfl, rfl, rfl⟩
    | cons _ _ => simp [applyArgs] at h
  | k :: ks, i, f, l, acc, h => by
    -- one argument, then the rest
    have fin : ∀ {x x' : AV0} {r : List AV0} {hd : List (Nat × Blk)} {d : Used} {lk1 : List Link} {g : List AV0 → List (Nat × Blk) → Option O}, l = x :: r → A1 look i x x' hd d lk1 k → (∀ l' hp, g l' hp = f (x' :: l') (hd ++ hp)) → applyArgs look ks (mkArgs ks (i + 1) g) r (acc.app d) = some (some out, a) →
        ∃ l' hp u lk, f l' hp = some out ∧ a = acc.app u ∧ AR look (k :: ks) i l l' hp u lk := by
      intro x x' r hd d lk1 g hl h1 hg h2
      obtain ⟨l', hp, u, lk, g1, g2, g3⟩ := mkArgs_rel ks (i + 1) g r (acc.app d) h2
      rw [hg] at g1
      exact ⟨x' :: l', hd ++ hp, d.app u, lk1 ++ lk, g1, by rw [g2, Used.app_assoc], x, r, x', l', hd, hp, d, u, lk1, lk, hl, rfl, rfl, rfl, rfl, h1, g3⟩
    have nul : acc.app ⟨[], [], []⟩ = acc := by simp [Used.app]
    cases k with
    | int k =>
      cases l with
      | nil => simp [applyArgs] at h
      | cons x r =>
        cases x <;> simp only [applyArgs] at h <;> first | (cases h; done) | skip
        split at h
        · rename_i j n hj
          subst hj
          exact fin (hd := []) (d := ⟨[], [], []⟩) (lk1 := []) rfl ⟨n, rfl, rfl, rfl, rfl, rfl⟩ (fun _ _ => rfl) (by rw [nul]; exact h)
        · cases h
    | flt k =>
      cases l with
      | nil => simp [applyArgs] at h
      | cons x r =>
        cases x <;> simp only [applyArgs] at h <;> first | (cases h; done) | skip
        split at h
        · rename_i j n hj
          subst hj
          exact fin (hd := []) (d := ⟨[], [], []⟩) (lk1 := []) rfl ⟨n, rfl, rfl, rfl, rfl, rfl⟩ (fun _ _ => rfl) (by rw [nul]; exact h)
        · cases h
    | bool =>
      cases l with
      | nil => simp [applyArgs] at h
      | cons x r =>
        cases x <;> simp only [applyArgs] at h <;> first | (cases h; done) | skip
        exact fin (hd := []) (d := ⟨[], [], []⟩) (lk1 := []) rfl ⟨_, rfl, rfl, rfl, rfl, rfl⟩ (fun _ _ => rfl) (by rw [nul]; exact h)
    | str =>
      cases l with
      | nil => simp [applyArgs] at h
      | cons x r =>
        cases x <;> simp only [applyArgs] at h <;> first | (cases h; done) | skip
        exact fin (hd := []) (d := ⟨[], [], []⟩) (lk1 := []) rfl ⟨_, rfl, rfl, rfl, rfl, rfl⟩ (fun _ _ => rfl) (by rw [nul]; exact h)
    | fn g =>
      cases l with
      | nil => simp [applyArgs] at h
      | cons x r =>
        cases x <;> simp only [applyArgs] at h <;> first | (cases h; done) | skip
        split at h
        · rename_i hg
          subst hg
          exact fin (hd := []) (d := ⟨[], [], []⟩) (lk1 := []) rfl ⟨rfl, rfl, rfl, rfl, rfl⟩ (fun _ _ => rfl) (by rw [nul]; exact h)
        · cases h
    | ro t =>
      cases l with
      | nil => simp [applyArgs] at h
      | cons x r =>
        simp only [applyArgs] at h
        split at h
        · rename_i xs u he
          exact fin (hd := []) (d := ⟨u, [], []⟩) (lk1 := []) rfl ⟨xs, u, he, rfl, rfl, rfl, rfl⟩ (fun _ _ => rfl) (by rw [show acc.app ⟨u, [], []⟩ = ⟨acc.dem ++ u, acc.both, acc.owns⟩ by simp [Used.app]]; exact h)
        · cases h
    | rm t =>
      cases l with
      | nil => simp [applyArgs] at h
      | cons x r =>
        cases x <;> first | (cases h; done) | skip
        rename_i b o n
        simp only [applyArgs] at h
        split at h
        · rename_i u xs md hb
          split at h
          · rename_i hs _
            obtain ⟨hs⟩ := hs
            subst hs
            exact fin (hd := [(i, .arr u xs .fz)]) (d := ⟨[(b, some (.arr u xs .fz))], [], []⟩) (lk1 := []) rfl ⟨b, n, xs, md, rfl, hb, rfl, rfl, rfl, rfl⟩ (fun _ _ => rfl) (by rw [show acc.app ⟨[(b, some (.arr u xs .fz))], [], []⟩ = ⟨acc.dem ++ [(b, some (.arr u xs .fz))], acc.both, acc.owns⟩ by simp [Used.app]]; exact h)
          · cases h
        · cases h
    | mu t =>
      cases l with
      | nil => simp [applyArgs] at h
      | cons x r =>
        cases x <;> simp only [applyArgs] at h <;> first | (cases h; done) | skip
        rename_i b o n
        split at h
        · rename_i u xs md hb
          split at h
          · rename_i hs hmd _
            obtain ⟨hs⟩ := hs
            subst hs
            exact fin (hd := [(i, .arr u (window xs o n) .win)]) (d := ⟨[], [b], []⟩) rfl ⟨b, o, n, xs, md, rfl, hb, (by rintro rfl; cases hmd), rfl, rfl, rfl, rfl⟩ (fun _ _ => rfl) (by rw [show acc.app ⟨[], [b], []⟩ = ⟨acc.dem, acc.both ++ [b], acc.owns⟩ by simp [Used.app]]; exact h)
          · cases h
        · cases h
    | pt t =>
      cases l with
      | nil => simp [applyArgs] at h
      | cons x r =>
        cases x <;> first | (cases h; done) | skip
        rename_i b o n
        cases n <;> first | (cases h; done) | skip
        simp only [applyArgs] at h
        split at h
        · rename_i u xs md hb
          split at h
          · rename_i hs hmd _
            obtain ⟨hs⟩ := hs
            subst hs
            exact fin (hd := [(i, .arr u (window xs o (some 1)) .win)]) (d := ⟨[], [b], []⟩) rfl ⟨b, o, xs, md, rfl, hb, (by rintro rfl; cases hmd), rfl, rfl, rfl, rfl⟩ (fun _ _ => rfl) (by rw [show acc.app ⟨[], [b], []⟩ = ⟨acc.dem, acc.both ++ [b], acc.owns⟩ by simp [Used.app]]; exact h)
          · cases h
        · cases h
    | own t =>
      cases l with
      | nil => simp [applyArgs] at h
      | cons x r =>
        cases x <;> simp only [applyArgs] at h <;> first | (cases h; done) | skip
        · exact fin (hd := [(i, .arr t [] .full)]) (d := ⟨[], [], []⟩) (lk1 := []) rfl (.inr ⟨rfl, rfl, rfl, rfl, rfl⟩) (fun _ _ => rfl) (by rw [nul]; exact h)
        · rename_i b o n
          split at h
          · rename_i u xs hb
            split at h
            · rename_i hs _
              obtain ⟨hs⟩ := hs
              subst hs
              exact fin (hd := [(i, .arr u (window xs o n) .full)]) (d := ⟨[], [b], [b]⟩) rfl (.inl ⟨b, o, n, xs, rfl, hb, rfl, rfl, rfl, rfl⟩) (fun _ _ => rfl) (by rw [show acc.app ⟨[], [b], [b]⟩ = ⟨acc.dem, acc.both ++ [b], acc.owns ++ [b]⟩ by simp [Used.app]]; exact h)
            · cases h
          · cases h

end Go.Rex
/- Rex: functions: the state at a call's beginning. -/
namespace Go.Rex

def subL (L : Loc) (k : Link) : Loc := ⟨L.c, L.off + k.o * L.sz, (window k.xs k.o k.n).length, L.sz, L.ext⟩

/-- What is known of a block that is handed on. -/
structure LinkOk (look : Look) (m mc : Map) (hpl : List (Nat × Blk)) (u : Used) (k : Link) : Prop where
  loc : ∃ L0, m k.b = some L0 ∧ mc k.i = some (subL L0 k) ∧ k.o + (window k.xs k.o k.n).length ≤ L0.len ∧ k.o ≤ L0.len ∧ (∀ q, k.n = some q → k.o + q ≤ L0.len)
  blk : get k.i hpl = some k.blk
  both : k.b ∈ u.both
  look : look k.b = some (.arr k.t k.xs k.md)
  md : k.md ≠ .fz
  own : k.own = true → k.md = .full ∧ k.b ∈ u.owns

structure Entered (look : Look) (m : Map) (w : World) (Rc : Nat → Prop) (ks : List AK) (i : Nat) (l' : List AV0) (hpl : List (Nat × Blk)) (u : Used) (lk : List Link) (vl : List Value) (mc : Map) : Prop where
  dom : ∀ b L, mc b = some L → i ≤ b ∧ b < i + ks.length
  vals : CRel Rc mc w l' vl
  ids : ∀ b B, get b hpl = some B → i ≤ b ∧ b < i + ks.length
  blks : ∀ b B, get b hpl = some B → ∃ L, mc b = some L ∧ BRel Rc mc w L B ∧ ((∃ k ∈ lk, k.i = b ∧ B = k.blk ∧ ∃ L0, m k.b = some L0 ∧ L = subL L0 k) ∨ (L.c = none ∧ B.md = .full) ∨ (B.md = .fz ∧ ∀ c, L.c = some c → Rc c))
  links : ∀ k ∈ lk, LinkOk look m mc hpl u k
  uniq : ∀ k ∈ lk, ∀ k' ∈ lk, k.b = k'.b → k = k'

theorem distinct_cons {x : Nat} {l : List Nat} (h : distinct (x :: l) = true) : x ∉ l ∧ distinct l = true := by
  simp only [distinct, Bool.and_eq_true] at h
  exact ⟨fun hx => by have := List.all_eq_true.1 h.1 x hx; simp at this, h.2⟩

section
variable {gl : List (Nat × AV0)} {look : Look} {nb : Nat} {m : Map} {R : Nat → Prop} {w : World}

/-- A piece of a block, as a block. -/
theorem sub_ok {Rc : Nat → Prop} {mc : Map} {L : Loc} {v : Value} (k : Link) (hB : BRel R m w L (.arr k.t k.xs k.md)) (hs : slRel L k.o k.n v) (hR : ∀ k, R k → Rc k) (hmd : k.md ≠ .fz) (md' : Md) :
    BRel Rc mc w (subL L k) (.arr k.t (window k.xs k.o k.n) md') ∧ slRel (subL L k) 0 none v ∧ k.o + (window k.xs k.o k.n).length ≤ L.len ∧ k.o ≤ L.len ∧ (∀ q, k.n = some q → k.o + q ≤ L.len) := by
  obtain ⟨a, ln, cp, rfl, s1, s2, s3, s4, s5, s6⟩ := hs
  obtain ⟨b1, b2, b3, b4⟩ := hB
  have hwl := window_length k.xs k.o k.n b1 s2 s3 s4
  have hol : k.o + ln ≤ L.len := by
    cases hn : k.n with
    | none => have := s3 hn; omega
    | some q => have := s4 q hn; omega
  refine ⟨⟨rfl, b2, fun hc => ?_, fun c hc => ?_⟩, ⟨a, ln, cp, rfl, s1, Nat.zero_le _, fun _ => by simp [subL, hwl], fun m hm => (by cases hm), s5, fun c hc => ?_⟩, by rw [hwl]; exact hol, s2, fun q hq => (s4 q hq).2⟩
  · have h0 := b3 hc
    rw [h0]; cases k.n <;> simp [window]
  · obtain ⟨cs, e, fr, c1, c2, c3, c4, c5⟩ := b4 c hc
    have := Nat.mul_le_mul_right L.sz hol
    rw [Nat.add_mul] at this
    refine ⟨cs, e, fr, c1, c2, by show L.off + k.o * L.sz + (window k.xs k.o k.n).length * L.sz ≤ L.ext; rw [hwl]; omega, fun _ => c4 hmd, fun i y hy => ?_⟩
    obtain ⟨l, q1, q2⟩ := c5 (k.o + i) y (window_get k.xs k.o k.n i y hy)
    refine ⟨l, q1.mono hR (Same.refl _ _), fun j z hz => ?_⟩
    have := q2 j z hz
    show cs[L.off + k.o * L.sz + (i * k.t.size + j)]? = some z
    rw [b2, show L.off + k.o * k.t.size + (i * k.t.size + j) = L.off + ((k.o + i) * k.t.size + j) by rw [Nat.add_mul]; omega]; exact this
  · obtain ⟨k1, ad, k2, k3⟩ := s6 c hc
    refine ⟨by show (window k.xs k.o k.n).length ≤ 0 + cp; omega, ad, k2, fun hcz => ?_⟩
    obtain ⟨k4, k5⟩ := k3 hcz
    refine ⟨by rw [k4]; simp [subL], ?_⟩
    show L.off + k.o * L.sz + (0 + cp) * L.sz ≤ L.ext
    rw [Nat.add_mul] at k5; rw [Nat.zero_add]; omega

theorem enter (hp : Pre gl look nb m R w) {Rc : Nat → Prop} (hRc : ∀ k, R k → Rc k) : ∀ (ks : List AK) (i : Nat) (l l' : List AV0) (hpl : List (Nat × Blk)) (u : Used) (lk : List Link) (vl : List Value), AR look ks i l l' hpl u lk → CRel R m w l vl → (∀ k, Dem m u.dem R k → Rc k) → distinct u.both = true →
    ∃ mc, Entered look m w Rc ks i l' hpl u lk vl mc
  | [], i, l, l', hpl, u, lk, vl, h, hc, hd, hb => by
    obtain ⟨rfl, rfl, rfl, rfl, rfl⟩ := h
    cases vl with
    | cons _ _ => exact hc.elim
    | nil => exact ⟨fun _ => none, ⟨fun b L h => (by cases h), trivial, fun b B h => (by cases h), fun b B h => (by cases h), fun k h => (by cases h), fun k h => (by cases h)⟩⟩
  | k :: ks, i, l, l', hpl, u, lk, vl, h, hc, hd, hb => by
    obtain ⟨x, r, x', r', hd', hp2, d, u2, lk1, lk2, rfl, rfl, rfl, rfl, rfl, h1, h2⟩ := h
    cases vl with
    | nil => exact hc.elim
    | cons v vl =>
      have hd2 : ∀ k, Dem m u2.dem R k → Rc k := fun k hk => hd k (hk.imp id fun ⟨b, y, L, g1, g2⟩ => ⟨b, y, L, List.mem_append_right _ g1, g2⟩)
      -- an argument without a block
      have plain : hd' = [] → d.both = [] → lk1 = [] → (∀ mc, VRel Rc mc w x' v) → ∃ mc, Entered look m w Rc (k :: ks) i (x' :: r') (hd' ++ hp2) (d.app u2) (lk1 ++ lk2) (v :: vl) mc := by
        rintro rfl hd0 rfl hx
        obtain ⟨mc, hE⟩ := enter hp hRc ks (i + 1) r r' hp2 u2 lk2 vl h2 hc.2 hd2 (by simpa [Used.app, hd0] using hb)
        refine ⟨mc, ⟨fun b L hbL => ?_, ⟨hx mc, hE.vals⟩, fun b B hbB => ?_, hE.blks, fun k hk => ?_, hE.uniq⟩⟩
        · have := hE.dom b L hbL; simp; omega
        · have := hE.ids b B hbB; simp; omega
        · have := hE.links k hk
          exact ⟨this.loc, this.blk, by simp only [Used.app, hd0]; exact this.both, this.look, this.md, fun ho => ⟨(this.own ho).1, List.mem_append_right _ (this.own ho).2⟩⟩
      -- an argument that is a block
      have block : ∀ (k1 : Link) (v0 : Value), k1.i = i → hd' = [(i, k1.blk)] → d.both = [k1.b] → d.dem = [] → (k1.own = true → k1.md = .full ∧ k1.b ∈ d.owns) → lk1 = [k1] → look k1.b = some (.arr k1.t k1.xs k1.md) → k1.md ≠ .fz → (∃ L v', m k1.b = some L ∧ slRel L k1.o k1.n v' ∧ ∀ mc', mc' i = some (subL L k1) → slRel (subL L k1) 0 none v' → VRel Rc mc' w x' v) →
          ∃ mc, Entered look m w Rc (k :: ks) i (x' :: r') (hd' ++ hp2) (d.app u2) (lk1 ++ lk2) (v :: vl) mc := by
        rintro k1 v0 hki rfl hdb hdd hown rfl hlb hmd ⟨L, v', hL, hs, hvv⟩
        have hb' : distinct (k1.b :: u2.both) = true := by simpa [Used.app, hdb] using hb
        obtain ⟨hnot, hb2⟩ := distinct_cons hb'
        obtain ⟨mc, hE⟩ := enter hp hRc ks (i + 1) r r' hp2 u2 lk2 vl h2 hc.2 hd2 hb2
        obtain ⟨L', hL', hB⟩ := hp.blk _ _ hlb
        rw [hL] at hL'; cases hL'
        have hnone : mc i = none := by
          cases hm : mc i with
          | none => rfl
          | some L' => have := hE.dom i L' hm; omega
        have hext : Ext mc (setM mc i (subL L k1)) := setM_ext hnone
        obtain ⟨q1, q2, q3, q4, q5⟩ := sub_ok (mc := setM mc i (subL L k1)) k1 hB hs hRc hmd (if k1.own then .full else .win)
        have hget : ∀ b B, get b ([(i, k1.blk)] ++ hp2) = some B → (b = i ∧ B = k1.blk) ∨ (b ≠ i ∧ get b hp2 = some B) := by
          intro b B hbB
          simp only [List.cons_append, List.nil_append, get_cons] at hbB
          split at hbB
          · rename_i e; cases hbB; exact .inl ⟨e, rfl⟩
          · rename_i e; exact .inr ⟨e, hbB⟩
        have hget2 : ∀ b B, get b hp2 = some B → get b ([(i, k1.blk)] ++ hp2) = some B := by
          intro b B hbB
          simp only [List.cons_append, List.nil_append, get_cons]
          rw [if_neg]
          · exact hbB
          · rintro rfl; have := hE.ids _ B hbB; omega
        refine ⟨setM mc i (subL L k1), ⟨fun b L' hbL => ?_, ⟨hvv _ (setM_same _ _ _) q2, hE.vals.mono (fun _ h => h) (Same.refl _ _) hext⟩, fun b B hbB => ?_, fun b B hbB => ?_, fun k' hk => ?_, fun k' hk k'' hk' he => ?_⟩⟩
        · by_cases e : b = i
          · subst e; simp
          · rw [setM_ne e] at hbL
            have := hE.dom b L' hbL; simp; omega
        · rcases hget b B hbB with ⟨rfl, _⟩ | ⟨_, h⟩
          · simp
          · have := hE.ids b B h; simp; omega
        · rcases hget b B hbB with ⟨rfl, rfl⟩ | ⟨_, h⟩
          · exact ⟨_, setM_same _ _ _, q1, .inl ⟨k1, List.mem_cons_self, hki, rfl, L, hL, rfl⟩⟩
          · obtain ⟨L', g1, g2, g3⟩ := hE.blks b B h
            exact ⟨L', hext _ _ g1, g2.mono (fun _ h => h) (Same.refl _ _) hext fun _ _ => rfl, g3.imp (fun ⟨k, hk, r⟩ => ⟨k, List.mem_cons_of_mem _ hk, r⟩) id⟩
        · rcases List.mem_cons.1 hk with rfl | hk
          · exact ⟨⟨L, hL, by rw [hki]; exact setM_same _ _ _, q3, q4, q5⟩, by rw [hki]; simp [get_cons], by simp only [Used.app, hdb]; exact List.mem_cons_self, hlb, hmd, fun ho => ⟨(hown ho).1, List.mem_append_left _ (hown ho).2⟩⟩
          · have := hE.links k' hk
            obtain ⟨L0, g1, g2, g3⟩ := this.loc
            exact ⟨⟨L0, g1, hext _ _ g2, g3⟩, hget2 _ _ this.blk, by simp only [Used.app, hdb]; exact List.mem_cons_of_mem _ this.both, this.look, this.md, fun ho => ⟨(this.own ho).1, List.mem_append_right _ (this.own ho).2⟩⟩
        · rcases List.mem_cons.1 hk with h3 | h3 <;> rcases List.mem_cons.1 hk' with h4 | h4
          · rw [h3, h4]
          · rw [h3] at he; exact absurd (he ▸ (hE.links k'' h4).both) hnot
          · rw [h4] at he; exact absurd (he ▸ (hE.links k' h3).both) hnot
          · exact hE.uniq k' h3 k'' h4 he
      cases k with
      | int k =>
        obtain ⟨n, rfl, rfl, e1, rfl, e2⟩ := h1
        exact plain e1 rfl e2 fun mc => hc.1
      | bool =>
        obtain ⟨n, rfl, rfl, e1, rfl, e2⟩ := h1
        exact plain e1 rfl e2 fun mc => hc.1
      | flt k =>
        obtain ⟨n, rfl, rfl, e1, rfl, e2⟩ := h1
        exact plain e1 rfl e2 fun mc => hc.1
      | str =>
        obtain ⟨n, rfl, rfl, e1, rfl, e2⟩ := h1
        exact plain e1 rfl e2 fun mc => hc.1
      | fn g =>
        obtain ⟨rfl, rfl, e1, rfl, e2⟩ := h1
        exact plain e1 rfl e2 fun mc => hc.1
      | ro t =>
        obtain ⟨xs, us, he, rfl, e1, rfl, e2⟩ := h1
        refine plain e1 rfl e2 fun mc => (elems_rel hp.blk he hc.1).mono (fun k hk => hd k (hk.imp id fun ⟨b, y, L, g1, g2⟩ => ⟨b, y, L, List.mem_append_left _ g1, g2⟩)) (Same.refl _ _)
      | rm t =>
        obtain ⟨b, n, xs, md, rfl, hlb, rfl, e1, rfl, e2⟩ := h1
        subst e1; subst e2
        obtain ⟨L, hL, hs⟩ := hc.1
        obtain ⟨L', hL', hB⟩ := hp.blk _ _ hlb
        rw [hL] at hL'; cases hL'
        obtain ⟨mc, hE⟩ := enter hp hRc ks (i + 1) r r' hp2 u2 lk2 vl h2 hc.2 hd2 (by simpa [Used.app] using hb)
        have hin : ∀ c, L.c = some c → Rc c := fun c hLc => hd c (.inr ⟨b, _, L, List.mem_append_left _ (List.mem_singleton.2 rfl), hL, hLc⟩)
        have hnone : mc i = none := by
          cases hm : mc i with
          | none => rfl
          | some L' => have := hE.dom i L' hm; omega
        have hext : Ext mc (setM mc i L) := setM_ext hnone
        have hget : ∀ b' B, get b' ([(i, Blk.arr t xs .fz)] ++ hp2) = some B → (b' = i ∧ B = .arr t xs .fz) ∨ (b' ≠ i ∧ get b' hp2 = some B) := by
          intro b' B hbB
          simp only [List.cons_append, List.nil_append, get_cons] at hbB
          split at hbB
          · rename_i e; cases hbB; exact .inl ⟨e, rfl⟩
          · rename_i e; exact .inr ⟨e, hbB⟩
        have hget2 : ∀ b' B, get b' hp2 = some B → get b' ([(i, Blk.arr t xs .fz)] ++ hp2) = some B := by
          intro b' B hbB
          simp only [List.cons_append, List.nil_append, get_cons]
          rw [if_neg]
          · exact hbB
          · rintro rfl; have := hE.ids _ B hbB; omega
        have hlen : xs.length = L.len := hB.1
        have hBz : BRel Rc (setM mc i L) w L (.arr t xs .fz) := by
          obtain ⟨b1, b2, b3, b4⟩ := hB
          refine ⟨b1, b2, b3, fun c hLc => ?_⟩
          obtain ⟨cs, e, fr, c1, c2, c3, c4, c5⟩ := b4 c hLc
          exact ⟨cs, e, fr, c1, c2, c3, fun h => absurd rfl h, fun j y hy => (c5 j y hy).imp fun l ⟨q1, q2⟩ => ⟨q1.mono hRc (Same.refl _ _), q2⟩⟩
        have hsl : slRel L 0 (some (slLen n xs.length)) v := by
          obtain ⟨a, ln, cp, rfl, s1, s2, s3, s4, s5, s6⟩ := hs
          refine ⟨a, ln, cp, rfl, s1, s2, fun h => (by cases h), fun q hq => ?_, s5, s6⟩
          cases hq
          cases n with
          | none => have := s3 rfl; refine ⟨?_, ?_⟩ <;> show _ <;> simp only [slLen] <;> omega
          | some q => have := s4 q rfl; exact ⟨this.1, this.2⟩
        refine ⟨setM mc i L, ⟨fun b' L' hbL => ?_, ⟨⟨L, setM_same _ _ _, hsl⟩, hE.vals.mono (fun _ h => h) (Same.refl _ _) hext⟩, fun b' B hbB => ?_, fun b' B hbB => ?_, fun k' hk => ?_, hE.uniq⟩⟩
        · by_cases e : b' = i
          · subst e; simp
          · rw [setM_ne e] at hbL
            have := hE.dom b' L' hbL; simp; omega
        · rcases hget b' B hbB with ⟨rfl, _⟩ | ⟨_, h⟩
          · simp
          · have := hE.ids b' B h; simp; omega
        · rcases hget b' B hbB with ⟨rfl, rfl⟩ | ⟨_, h⟩
          · exact ⟨L, setM_same _ _ _, hBz, .inr (.inr ⟨rfl, hin⟩)⟩
          · obtain ⟨L', g1, g2, g3⟩ := hE.blks b' B h
            exact ⟨L', hext _ _ g1, g2.mono (fun _ h => h) (Same.refl _ _) hext fun _ _ => rfl, g3⟩
        · have := hE.links k' hk
          obtain ⟨L0, g1, g2, g3⟩ := this.loc
          exact ⟨⟨L0, g1, hext _ _ g2, g3⟩, hget2 _ _ this.blk, by simp only [Used.app]; exact this.both, this.look, this.md, fun ho => ⟨(this.own ho).1, by simp only [Used.app]; exact (this.own ho).2⟩⟩
      | mu t =>
        obtain ⟨b, o, n, xs, md, rfl, hlb, hmd, rfl, e1, rfl, e2⟩ := h1
        obtain ⟨L, hL, hs⟩ := hc.1
        exact block ⟨i, b, t, xs, md, o, n, false⟩ v rfl e1 rfl rfl (fun h => by cases h) e2 hlb hmd ⟨L, v, hL, hs, fun mc' h1 h2 => ⟨_, h1, h2⟩⟩
      | pt t =>
        obtain ⟨b, o, xs, md, rfl, hlb, hmd, rfl, e1, rfl, e2⟩ := h1
        obtain ⟨L, c, hL, hLc, ho, rfl⟩ := hc.1
        obtain ⟨L', hL', hB⟩ := hp.blk _ _ hlb
        rw [hL] at hL'; cases hL'
        obtain ⟨b1, b2, b3, b4⟩ := hB
        obtain ⟨cs, e, fr, c1, c2, c3, c4, c5⟩ := b4 c hLc
        refine block ⟨i, b, t, xs, md, o, some 1, false⟩ undef rfl e1 rfl rfl (fun h => by cases h) e2 hlb hmd ⟨L, .slice (some ⟨c, L.off + o * L.sz, none⟩) 1 (L.len - o), hL, ?_, fun mc' h1 h2 => ?_⟩
        · have ho' : o < L.len := ho
          show slRel L o (some 1) _
          refine ⟨_, 1, L.len - o, rfl, by omega, by omega, fun h => (by cases h), fun q hq => (by cases hq; exact ⟨rfl, by omega⟩), fun h => (by rw [hLc] at h; cases h), fun c' hc' => ?_⟩
          rw [hLc] at hc'; cases hc'
          refine ⟨by omega, _, rfl, fun _ => ⟨rfl, ?_⟩⟩
          rw [show o + (L.len - o) = L.len by omega]; exact c3
        · refine ⟨_, c, h1, hLc, ?_, ?_⟩
          · show 0 < (window xs o (some 1)).length
            have : o < xs.length := by omega
            simp only [window, List.length_take, List.length_drop]; omega
          · simp [subL]
      | own t =>
        rcases h1 with ⟨b, o, n, xs, rfl, hlb, rfl, e1, rfl, e2⟩ | ⟨rfl, rfl, e1, rfl, e2⟩
        · obtain ⟨L, hL, hs⟩ := hc.1
          exact block ⟨i, b, t, xs, .full, o, n, true⟩ v rfl e1 rfl rfl (fun _ => ⟨rfl, List.mem_singleton.2 rfl⟩) e2 hlb (fun h => by cases h) ⟨L, v, hL, hs, fun mc' h1 h2 => ⟨_, h1, h2⟩⟩
        · -- no block at all
          subst e1; subst e2
          obtain ⟨mc, hE⟩ := enter hp hRc ks (i + 1) r r' hp2 u2 lk2 vl h2 hc.2 hd2 (by simpa [Used.app] using hb)
          have hnone : mc i = none := by
            cases hm : mc i with
            | none => rfl
            | some L' => have := hE.dom i L' hm; omega
          have hv : v = .slice none 0 0 := hc.1
          have hext : Ext mc (setM mc i ⟨none, 0, 0, t.size, 0⟩) := setM_ext hnone
          refine ⟨setM mc i ⟨none, 0, 0, t.size, 0⟩, ⟨fun b L' hbL => ?_, ⟨⟨_, setM_same _ _ _, none, 0, 0, hv, Nat.le_refl _, Nat.le_refl _, fun _ => rfl, fun m hm => (by cases hm), fun _ => ⟨rfl, rfl⟩, fun c hc => (by cases hc)⟩, hE.vals.mono (fun _ h => h) (Same.refl _ _) hext⟩, fun b B hbB => ?_, fun b B hbB => ?_, fun k' hk => ?_, hE.uniq⟩⟩
          · by_cases e : b = i
            · subst e; simp
            · rw [setM_ne e] at hbL
              have := hE.dom b L' hbL; simp; omega
          · simp only [List.cons_append, List.nil_append, get_cons] at hbB
            split at hbB
            · rename_i e; subst e; simp
            · have := hE.ids b B hbB; simp; omega
          · simp only [List.cons_append, List.nil_append, get_cons] at hbB
            split at hbB
            · rename_i e; cases hbB; subst e
              exact ⟨_, setM_same _ _ _, ⟨rfl, rfl, fun _ => rfl, fun c hc => (by cases hc)⟩, .inr (.inl ⟨rfl, rfl⟩)⟩
            · obtain ⟨L', g1, g2, g3⟩ := hE.blks b B hbB
              exact ⟨L', hext _ _ g1, g2.mono (fun _ h => h) (Same.refl _ _) hext fun _ _ => rfl, g3⟩
          · have := hE.links k' hk
            obtain ⟨L0, g1, g2, g3⟩ := this.loc
            refine ⟨⟨L0, g1, hext _ _ g2, g3⟩, ?_, this.both, this.look, this.md, this.own⟩
            simp only [List.cons_append, List.nil_append, get_cons]
            rw [if_neg]
            · exact this.blk
            · intro e; have := hE.ids _ _ this.blk; omega

end
end Go.Rex
/- Rex: functions: what is answered, as the call tells it and as the caller does. -/
namespace Go.Rex

theorem headO_consO {t : Type} {r : List Type} (x : t) (o : Outs r) : headO (consO x o) = x := by cases r <;> rfl
theorem tailO_consO {t : Type} {r : List Type} (x : t) (o : Outs r) : tailO (consO x o) = o := by cases r <;> rfl

theorem Enc.flat {R R' : Nat → Prop} {w w' : World} : ∀ {t : Ty} {x : t.den} {l : List Value}, t.flat = true → Enc R w t x l → Enc R' w' t x l
  | .int _, _, _, _, h => h
  | .bool, _, _, _, h => h
  | .str, _, _, _, h => h
  | .unit, _, _, _, h => h
  | .pair a b, _, _, hf, ⟨l1, l2, e, h1, h2⟩ => by
    simp only [Ty.flat, Bool.and_eq_true] at hf
    exact ⟨l1, l2, e, h1.flat hf.1, h2.flat hf.2⟩
  | .flt _, _, _, _, h => h
  | .sl _, _, _, hf, _ => by cases hf

section
variable {P : Program} {C : Ctx} {n : Nat} {Own : OwnS} {w0 : World} {look : Look} {m : Map} {R : Nat → Prop} {a : Act} {w : World}

theorem results_run (hT : TabOk P C) {tm : List AV} (hr : Rel C.gl n Own w0 (nth tm) look m R a w) {nb : Nat} (hfree : ∀ b, nb ≤ b → b < nb + 8 → m b = none) : ∀ (rl : List ResultVar) (vs : List V1), resVals C look tm rl = some vs →
    ∃ us : List Value, ((rl.mapM fun
      | .tmp t => pure (a.tmps.getD t undef)
      | .cell a' t => do loadVar t (← asAddr (a.tmps.getD a' undef)) : Sem (List Value))).run P w = .ok us w ∧ V1sRel R m w vs us
  | [], vs, h => by cases h; exact ⟨[], rfl, trivial⟩
  | .tmp t :: rl, vs, h => by
    simp only [resVals] at h
    split at h
    · rename_i x hx
      cases hv : resVals C look tm rl with
      | none => rw [hv] at h; cases h
      | some vs' =>
        rw [hv] at h; cases h
        obtain ⟨us, h1, h2⟩ := results_run hT hr hfree rl vs' hv
        have h3 := hr.tmps t
        rw [hx] at h3
        refine ⟨a.tmps.getD t undef :: us, ?_, h3, h2⟩
        simp only [List.mapM_cons, Sem.run_bind, Sem.run_pure, Result.andThen_ok]
        rw [h1]; rfl
    · cases h
  | .cell a' t :: rl, vs, h => by
    simp only [resVals] at h
    split at h
    · rename_i x hx
      split at h
      · rename_i y hy
        cases hv : resVals C look tm rl with
        | none => rw [hv] at h; cases h
        | some vs' =>
          rw [hv] at h; cases h
          obtain ⟨us, h1, h2⟩ := results_run hT hr hfree rl vs' hv
          have h3 := one_rel hx (hr.tmps a')
          obtain ⟨u, h4, h5⟩ := load_sound hT (hr.pre hfree) hy h3
          have hp : ∃ ad, a.tmps.getD a' undef = .pointer (some ad) := by
            unfold loadAt at hy
            split at hy
            · cases hy
            · split at hy
              · obtain ⟨_, _, _, _, e⟩ := h3; exact ⟨_, e⟩
              · obtain ⟨_, _, _, _, _, e⟩ := h3; exact ⟨_, e⟩
              · obtain ⟨_, _, e, _⟩ := h3; exact ⟨_, e⟩
              · cases hy
          obtain ⟨ad, had⟩ := hp
          rw [had] at h4
          have h6 : (loadVar t ad).run P w = .ok u w := by simpa [Instr.loadAt, Instr.sureAddr] using h4
          refine ⟨u :: us, ?_, h5, h2⟩
          have e : (asAddr (a.tmps.getD a' undef)).run P w = .ok ad w := by rw [had]; rfl
          simp only [List.mapM_cons, Sem.run_bind, e, Result.andThen_ok, h6]
          rw [h1]; rfl
      · cases h
    · cases h

/-- The leaves of values, and values of new leaves. -/
theorem unflat : ∀ (rs : List (Bool × List RK)) (vs : List V1) (us : List Value), resShape rs vs = true → V1sRel R m w vs us →
    ∃ vl, CRel R m w (flat vs) vl ∧ ∀ (R' : Nat → Prop) (m' : Map) (w' : World) (ls : List AV0), CRel R' m' w' ls vl → V1sRel R' m' w' (group rs ls) us
  | [], [], us, _, h => by
    cases us with
    | cons _ _ => exact h.elim
    | nil => exact ⟨[], trivial, fun R' m' w' ls hl => trivial⟩
  | [], _ :: _, us, h, _ => by simp [resShape] at h
  | _ :: _, [], us, h, _ => by simp [resShape] at h
  | (g, l) :: rs, (g', cs) :: vs, us, h, hv => by
    cases us with
    | nil => exact hv.elim
    | cons u us =>
      simp only [resShape, Bool.and_eq_true, beq_iff_eq] at h
      obtain ⟨⟨rfl, hl⟩, h⟩ := h
      obtain ⟨vl, h1, h2⟩ := unflat rs vs us h hv.2
      have hu : ∃ ul, ul.length = cs.length ∧ CRel R m w cs ul ∧ ∀ (R' : Nat → Prop) (m' : Map) (w' : World) (ls : List AV0), CRel R' m' w' ls ul → V1Rel R' m' w' (g, ls) u := by
        cases g with
        | true =>
          obtain ⟨us', rfl, h3⟩ := hv.1
          exact ⟨us'.toList, h3.length.symm, h3, fun R' m' w' ls hls => ⟨us', rfl, hls⟩⟩
        | false =>
          match cs, hv.1 with
          | [x], h3 =>
            refine ⟨[u], rfl, ⟨h3, trivial⟩, fun R' m' w' ls hls => ?_⟩
            match ls, hls with
            | [y], hls => exact hls.1
      obtain ⟨ul, k1, k2, k3⟩ := hu
      refine ⟨ul ++ vl, ?_, fun R' m' w' ls hls => ?_⟩
      · simp only [Go.Rex.flat]; exact k2.append h1
      · simp only [group]
        have e : l.length = ul.length := by omega
        have h4 := hls.take ul.length
        have h5 := hls.drop ul.length
        rw [List.take_left] at h4
        rw [List.drop_left] at h5
        rw [e]
        exact ⟨k3 R' m' w' _ h4, h2 R' m' w' _ h5⟩

def frs : List RK → Nat
  | [] => 0
  | .fr _ :: r => frs r + 1
  | .fm _ :: r => frs r + 1
  | _ :: r => frs r

/-- What the answers are. -/
structure ResOk (look : Look) (m : Map) (R : Nat → Prop) (w : World) (no ros : List Nat) (rs : List RK) (vl : List Value) (nb : Nat) (m1 : Map) (p : List AV0 × List (Nat × Option Blk)) (m2 : Map) (U : List (Nat × Option Blk)) : Prop where
  ext : Ext m1 m2
  dom : ∀ b L, m2 b = some L → m1 b = none → nb ≤ b ∧ b < nb + frs rs
  dem : DemOk look U
  demno : ∀ q ∈ U, q.1 ∉ no
  vals : ∀ R2 : Nat → Prop, (rs.any RK.aliases = true → ∀ k, Dem m U R k → R2 k) → CRel R2 m2 w p.1 vl
  upd : ∀ b x, (b, x) ∈ p.2 → nb ≤ b ∧ b < nb + frs rs ∧ ∃ B L, x = some B ∧ m2 b = some L ∧ B.md = .full ∧ (∀ R2 : Nat → Prop, (rs.any RK.aliases = true → ∀ k, Dem m U R k → R2 k) → BRel R2 m2 w L B) ∧
    (L.c = none ∨ ∃ b0 B0 L0, look b0 = some B0 ∧ B0.md = .full ∧ m b0 = some L0 ∧ L0.c = L.c ∧ b0 ∉ no ∧ b0 ∉ ros ∧ ∀ q ∈ U, q.1 ≠ b0)
  dist : ∀ b b' x x' L L' c, (b, x) ∈ p.2 → (b', x') ∈ p.2 → m2 b = some L → m2 b' = some L' → L.c = some c → L'.c = some c → b = b'

theorem all_ne {l : List Nat} {b : Nat} (h : (l.all fun c => b != c) = true) : b ∉ l := fun hb => by
  have := List.all_eq_true.1 h b hb; simp at this

theorem getRes_rel (hr : Rel C.gl n Own w0 (fun _ => .un) look m R a w) : ∀ (rs : List RK) (no ros : List Nat) (ls : List AV0) (vl : List Value) (o : Outs (rs.map RK.den)) (nb : Nat) (m1 : Map), getRes look no ros rs ls = some o → CRel R m w ls vl → (∀ b, nb ≤ b → b < nb + frs rs → m1 b = none) →
    ∃ m2 U, ResOk look m R w no ros rs vl nb m1 (putRes rs o nb) m2 U
  | [], no, ros, ls, vl, o, nb, m1, h, hc, hf => by
    cases ls with
    | cons _ _ => simp [getRes] at h
    | nil =>
      cases vl with
      | cons _ _ => exact hc.elim
      | nil => exact ⟨m1, [], ⟨fun _ _ h => h, fun b L h g => (by rw [h] at g; cases g), fun p hp => (by cases hp), fun q hq => (by cases hq), fun _ _ => trivial, fun b x hx => (by cases hx), fun b b' x x' L L' c hx => (by cases hx)⟩⟩
  | k :: rs, no, ros, [], vl, o, nb, m1, h, hc, hf => by cases k <;> simp [getRes] at h
  | k :: rs, no, ros, x :: ls, [], o, nb, m1, h, hc, hf => hc.elim
  | k :: rs, no, ros, x :: ls, v :: vl, o, nb, m1, h, hc, hf => by
    have dmono : ∀ {U U' : List (Nat × Option Blk)} {R2 : Nat → Prop}, ((k :: rs).any RK.aliases = true → ∀ c, Dem m (U ++ U') R c → R2 c) → rs.any RK.aliases = true → ∀ c, Dem m U' R c → R2 c := by
      intro U U' R2 h1 h2 c hc
      refine h1 ?_ c (hc.imp id fun ⟨b, y, L, g1, g2⟩ => ⟨b, y, L, List.mem_append_right _ g1, g2⟩)
      simp only [List.any_cons, h2, Bool.or_true]
    -- a plain value
    have plain : ∀ (z : AV0) (d : k.den), frs (k :: rs) = frs rs → (∀ (o : Outs ((k :: rs).map RK.den)), headO o = d → putRes (k :: rs) o nb = (z :: (putRes rs (tailO o) nb).1, (putRes rs (tailO o) nb).2)) → (∀ R2 m2, VRel R2 m2 w z v) → (getRes look no ros rs ls).bind (fun o => some (consO d o)) = some o →
        ∃ m2 U, ResOk look m R w no ros (k :: rs) (v :: vl) nb m1 (putRes (k :: rs) o nb) m2 U := by
      intro z d hfr hput hz hget
      obtain ⟨o1, ho1, e⟩ := Option.bind_eq_some_iff.1 hget
      cases e
      obtain ⟨m2, U, hR⟩ := getRes_rel hr rs no ros ls vl o1 nb m1 ho1 hc.2 (by rw [← hfr]; exact hf)
      refine ⟨m2, U, ?_⟩
      rw [hput _ (headO_consO _ _), tailO_consO]
      have dm : ∀ {R2 : Nat → Prop}, ((k :: rs).any RK.aliases = true → ∀ c, Dem m U R c → R2 c) → rs.any RK.aliases = true → ∀ c, Dem m U R c → R2 c := fun h1 h2 => h1 (by simp only [List.any_cons, h2, Bool.or_true])
      exact ⟨hR.ext, fun b L h1 h2 => by rw [hfr]; exact hR.dom b L h1 h2, hR.dem, hR.demno, fun R2 h2 => ⟨hz R2 m2, hR.vals R2 (dm h2)⟩, fun b x hx => by
        obtain ⟨q1, q2, B, L, q3, q4, q5, q6, q7⟩ := hR.upd b x hx
        exact ⟨q1, by rw [hfr]; exact q2, B, L, q3, q4, q5, fun R2 h2 => q6 R2 (dm h2), q7⟩, hR.dist⟩
    -- a slice in new memory
    have fresh : ∀ (t : Ty) (xs : List t.den) (L : Loc) (src : Option Nat) (qn : Option Nat), (frs (k :: rs) = frs rs + 1 ∧ k.aliases = !t.flat) → HEq o o → (∃ no' : List Nat, (∀ b, b ∈ no → b ∈ no') ∧ (∀ b0, src = some b0 → b0 ∈ no') ∧ ∃ o1, getRes look no' ros rs ls = some o1 ∧ ∀ nb, putRes (k :: rs) o nb = (.sl nb 0 qn :: (putRes rs o1 (nb + 1)).1, (nb, some (.arr t xs .full)) :: (putRes rs o1 (nb + 1)).2)) →
        (∀ R2 m2, (t.flat = false → ∀ c, R c → R2 c) → BRel R2 m2 w L (.arr t xs .full)) → slRel L 0 qn v → ((src = none ∧ L.c = none) ∨ ∃ b0 B0 L0, src = some b0 ∧ look b0 = some B0 ∧ B0.md = .full ∧ m b0 = some L0 ∧ L0.c = L.c ∧ b0 ∉ no ∧ b0 ∉ ros) →
        ∃ m2 U, ResOk look m R w no ros (k :: rs) (v :: vl) nb m1 (putRes (k :: rs) o nb) m2 U := by
      rintro t xs L src qn ⟨hk, hka⟩ _ ⟨no', hno, hsrc, o1, ho1, hput⟩ hB hv hs
      have hm1 : m1 nb = none := hf nb (Nat.le_refl _) (by rw [hk]; omega)
      obtain ⟨m2, U, hR⟩ := getRes_rel hr rs no' ros ls vl o1 (nb + 1) (setM m1 nb L) ho1 hc.2 (fun b h1 h2 => by rw [setM_ne (by omega)]; exact hf b (by omega) (by rw [hk]; omega))
      refine ⟨m2, U, ?_⟩
      rw [hput]
      have dm : ∀ {R2 : Nat → Prop}, ((k :: rs).any RK.aliases = true → ∀ c, Dem m U R c → R2 c) → rs.any RK.aliases = true → ∀ c, Dem m U R c → R2 c := fun h1 h2 => h1 (by simp only [List.any_cons, h2, Bool.or_true])
      have hnb : m2 nb = some L := hR.ext _ _ (setM_same _ _ _)
      have hUno : ∀ b0, src = some b0 → ∀ q ∈ U, q.1 ≠ b0 := fun b0 hb q hq e => hR.demno q hq (e ▸ hsrc b0 hb)
      refine ⟨fun b L' h1 => hR.ext _ _ (setM_ext hm1 _ _ h1), fun b L' h1 h2 => ?_, hR.dem, fun q hq h => hR.demno q hq (hno _ h), fun R2 h2 => ⟨⟨L, hnb, hv⟩, hR.vals R2 (dm h2)⟩, fun b x hx => ?_, fun b b' x x' M M' c hx hx' hM hM' hMc hMc' => ?_⟩
      · by_cases e : b = nb
        · subst e; rw [hk]; omega
        · have := hR.dom b L' h1 (by rw [setM_ne e]; exact h2)
          rw [hk]; omega
      · rcases List.mem_cons.1 hx with hx | hx
        · cases hx
          refine ⟨Nat.le_refl _, by rw [hk]; omega, _, L, rfl, hnb, rfl, fun R2 h2 => hB R2 m2 fun hfl c hRc => h2 (by simp only [List.any_cons, hka, hfl]; rfl) c (.inl hRc), ?_⟩
          exact hs.imp (fun h => h.2) fun ⟨b0, B0, L0, h0, h1, h2, h3, h4, h5, h6⟩ => ⟨b0, B0, L0, h1, h2, h3, h4, h5, h6, hUno b0 h0⟩
        · obtain ⟨q1, q2, B, M, q3, q4, q5, q6, q7⟩ := hR.upd b x hx
          refine ⟨by omega, by rw [hk]; omega, B, M, q3, q4, q5, fun R2 h2 => q6 R2 (dm h2), q7.imp id fun ⟨b0, B0, L0, k1, k2, k3, k4, k5, k6⟩ => ⟨b0, B0, L0, k1, k2, k3, k4, fun h => k5 (hno _ h), k6⟩⟩
      · -- two with one block
        have tail : ∀ {b x M}, (b, x) ∈ (putRes rs o1 (nb + 1)).2 → m2 b = some M → M.c = some c → L.c = some c → False := by
          intro b x M hx hM hMc hLc
          obtain ⟨q1, q2, B, M0, q3, q4, q5, q6, q7⟩ := hR.upd b x hx
          rw [hM] at q4; cases q4
          rcases q7 with q7 | ⟨b0, B0, L0, k1, k2, k3, k4, k5, k6⟩
          · rw [q7] at hMc; cases hMc
          · rcases hs with ⟨_, hs⟩ | ⟨b1, B1, L1, h0, h1, h2, h3, h4, h5, h6⟩
            · rw [hs] at hLc; cases hLc
            · have hne : b0 ≠ b1 := fun e => k5 (e ▸ hsrc b1 h0)
              have := (hr.inj b0 b1 B0 B1 L0 L1 c k1 h1 hne k3 h3 (k4.trans hMc) (h4.trans hLc)).1
              rw [k2] at this; cases this
        rcases List.mem_cons.1 hx with h1 | h1 <;> rcases List.mem_cons.1 hx' with h2 | h2
        · cases h1; cases h2; rfl
        · cases h1
          rw [hnb] at hM; cases hM
          exact (tail h2 hM' hMc' hMc).elim
        · cases h2
          rw [hnb] at hM'; cases hM'
          exact (tail h1 hM hMc hMc').elim
        · exact hR.dist b b' x x' M M' c h1 h2 hM hM' hMc hMc'
    cases k with
    | int k =>
      cases x <;> simp only [getRes] at h <;> first | (cases h; done) | skip
      split at h
      · rename_i j y hj
        subst hj
        exact plain (.int j y) y rfl (fun o ho => by simp only [putRes]; rw [ho]) (fun R2 m2 => hc.1) h
      · cases h
    | flt k =>
      cases x <;> simp only [getRes] at h <;> first | (cases h; done) | skip
      split at h
      · rename_i j y hj
        subst hj
        exact plain (.flt j y) y rfl (fun o ho => by simp only [putRes]; rw [ho]) (fun R2 m2 => hc.1) h
      · cases h
    | bool =>
      cases x <;> simp only [getRes] at h <;> first | (cases h; done) | skip
      rename_i y
      exact plain (.bool y) y rfl (fun o ho => by simp only [putRes]; rw [ho]) (fun R2 m2 => hc.1) h
    | str =>
      cases x <;> simp only [getRes] at h <;> first | (cases h; done) | skip
      rename_i y
      exact plain (.str y) y rfl (fun o ho => by simp only [putRes]; rw [ho]) (fun R2 m2 => hc.1) h
    | ro t =>
      simp only [getRes] at h
      split at h
      · rename_i xs u he
        split at h
        · rename_i hno
          obtain ⟨o1, ho1, e⟩ := Option.bind_eq_some_iff.1 h
          cases e
          obtain ⟨m2, U, hR⟩ := getRes_rel hr rs no _ ls vl o1 nb m1 ho1 hc.2 hf
          refine ⟨m2, u ++ U, ?_⟩
          have hput : putRes (.ro t :: rs) (consO xs o1) nb = (.ro t xs :: (putRes rs o1 nb).1, (putRes rs o1 nb).2) := by
            simp only [putRes]; rw [headO_consO, tailO_consO]
          rw [hput]
          refine ⟨hR.ext, hR.dom, (elems_dem he).append hR.dem, fun q hq => ?_, fun R2 h2 => ⟨?_, hR.vals R2 (dmono h2)⟩, fun b y hy => ?_, hR.dist⟩
          · rcases List.mem_append.1 hq with hq | hq
            · have := List.all_eq_true.1 hno q hq
              exact all_ne this
            · exact hR.demno q hq
          · have h3 := elems_rel hr.blk he hc.1
            exact h3.mono (fun c hc' => h2 (by simp [RK.aliases]) c (hc'.imp id fun ⟨b, y, L, g1, g2⟩ => ⟨b, y, L, List.mem_append_left _ g1, g2⟩)) (Same.refl _ _)
          · obtain ⟨q1, q2, B, M, q3, q4, q5, q6, q7⟩ := hR.upd b y hy
            refine ⟨q1, q2, B, M, q3, q4, q5, fun R2 h2 => q6 R2 (dmono h2), q7.imp id fun ⟨b0, B0, L0, k1, k2, k3, k4, k5, k6, k7⟩ => ⟨b0, B0, L0, k1, k2, k3, k4, k5, fun h => k6 (List.mem_append_right _ h), fun q hq => ?_⟩⟩
            rcases List.mem_append.1 hq with hq | hq
            · intro e; exact k6 (List.mem_append_left _ (List.mem_map.2 ⟨q, hq, e⟩))
            · exact k7 q hq
        · cases h
      · cases h
    | fr t =>
      cases x with
      | nils =>
        simp only [getRes] at h
        obtain ⟨o1, ho1, e⟩ := Option.bind_eq_some_iff.1 h
        cases e
        have hv : v = .slice none 0 0 := hc.1
        refine fresh t [] ⟨none, 0, 0, t.size, 0⟩ none none ⟨rfl, rfl⟩ HEq.rfl ⟨no, fun _ h => h, fun b0 hb => (by cases hb), o1, ho1, fun nb => ?_⟩ (fun R2 m2 _ => ⟨rfl, rfl, fun _ => rfl, fun c hc => (by cases hc)⟩) ⟨none, 0, 0, hv, Nat.le_refl _, Nat.le_refl _, fun _ => rfl, fun m hm => (by cases hm), fun _ => ⟨rfl, rfl⟩, fun c hc => (by cases hc)⟩ (.inl ⟨rfl, rfl⟩)
        simp only [putRes]; rw [headO_consO, tailO_consO]
      | sl b o' q =>
        simp only [getRes] at h
        split at h
        · rename_i u xs hlb
          split at h
          · rename_i hs _
            obtain ⟨hs⟩ := hs
            subst hs
            split at h
            · rename_i hchk
              simp only [Bool.and_eq_true] at hchk
              obtain ⟨o1, ho1, e⟩ := Option.bind_eq_some_iff.1 h
              cases e
              obtain ⟨L, hL, hsl⟩ := hc.1
              obtain ⟨L', hL', hB⟩ := hr.blk b _ hlb
              rw [hL] at hL'; cases hL'
              have sub := fun (R2 : Nat → Prop) (m2 : Map) (hR : ∀ k, R k → R2 k) => sub_ok (Rc := R2) (mc := m2) ⟨0, b, u, xs, .full, o', q, true⟩ hB hsl hR (fun h => by cases h) .full
              refine fresh u (window xs o' q) (subL L ⟨0, b, u, xs, .full, o', q, true⟩) (some b) none ⟨rfl, rfl⟩ HEq.rfl ⟨b :: no, fun _ h => List.mem_cons_of_mem _ h, fun b0 hb => (by cases hb; exact List.mem_cons_self), o1, ho1, fun nb => ?_⟩ (fun R2 m2 hR => ?_) (sub R m fun _ h => h).2.1 (.inr ⟨b, _, L, rfl, hlb, rfl, hL, rfl, all_ne hchk.1, all_ne hchk.2⟩)
              · simp only [putRes]; rw [headO_consO, tailO_consO]
              · cases hfl : u.flat with
                | false => exact (sub R2 m2 (hR hfl)).1
                | true =>
                  obtain ⟨q1, q2, q3, q4⟩ := (sub R m2 fun _ h => h).1
                  exact ⟨q1, q2, q3, fun c hc => by
                    obtain ⟨cs, e, fr, c1, c2, c3, c4, c5⟩ := q4 c hc
                    exact ⟨cs, e, fr, c1, c2, c3, c4, fun i y hy => (c5 i y hy).imp fun l ⟨a, b⟩ => ⟨a.flat hfl, b⟩⟩⟩
            · cases h
          · cases h
        · cases h
      | _ => simp [getRes] at h
    | fm t =>
      cases x with
      | sl b o' q =>
        simp only [getRes] at h
        split at h
        · rename_i u xs hlb
          split at h
          · rename_i hs _
            obtain ⟨hs⟩ := hs
            subst hs
            split at h
            · rename_i hchk
              simp only [Bool.and_eq_true] at hchk
              obtain ⟨o1, ho1, e⟩ := Option.bind_eq_some_iff.1 h
              cases e
              obtain ⟨L, hL, hsl⟩ := hc.1
              obtain ⟨L', hL', hB⟩ := hr.blk b _ hlb
              rw [hL] at hL'; cases hL'
              have hlen : xs.length = L.len := hB.1
              have hsl' : slRel L 0 (some (slLen q xs.length)) v := by
                obtain ⟨a, ln, cp, rfl, s1, s2, s3, s4, s5, s6⟩ := hsl
                refine ⟨a, ln, cp, rfl, s1, s2, fun h => (by cases h), fun z hz => ?_, s5, s6⟩
                cases hz
                cases q with
                | none => have := s3 rfl; constructor <;> simp only [slLen] <;> omega
                | some q => have := s4 q rfl; exact ⟨this.1, this.2⟩
              refine fresh u xs L (some b) (some (slLen q xs.length)) ⟨rfl, rfl⟩ HEq.rfl ⟨b :: no, fun _ h => List.mem_cons_of_mem _ h, fun b0 hb => (by cases hb; exact List.mem_cons_self), o1, ho1, fun nb => ?_⟩ (fun R2 m2 hR => ?_) hsl' (.inr ⟨b, _, L, rfl, hlb, rfl, hL, rfl, all_ne hchk.1, all_ne hchk.2⟩)
              · simp only [putRes]; rw [headO_consO, tailO_consO]
              · obtain ⟨q1, q2, q3, q4⟩ := hB
                cases hfl : u.flat with
                | false => exact ⟨q1, q2, q3, fun c hc => by
                    obtain ⟨cs, e, fr, c1, c2, c3, c4, c5⟩ := q4 c hc
                    exact ⟨cs, e, fr, c1, c2, c3, c4, fun i y hy => (c5 i y hy).imp fun l ⟨a, b⟩ => ⟨a.mono (hR hfl) (Same.refl _ _), b⟩⟩⟩
                | true => exact ⟨q1, q2, q3, fun c hc => by
                    obtain ⟨cs, e, fr, c1, c2, c3, c4, c5⟩ := q4 c hc
                    exact ⟨cs, e, fr, c1, c2, c3, c4, fun i y hy => (c5 i y hy).imp fun l ⟨a, b⟩ => ⟨a.flat hfl, b⟩⟩⟩
            · cases h
          · cases h
        · cases h
      | _ => simp [getRes] at h

end
end Go.Rex
/- Rex: functions: what is written, as the call tells it and as the caller does. -/
namespace Go.Rex

section
variable {look lookC : Look}

theorem muts_rel : ∀ (ks : List AK) (i : Nat) (l l' : List AV0) (hpl : List (Nat × Blk)) (u : Used) (lk : List Link) (rest : List Type) (o' o'' : Outs rest) (out : Outs (muts ks ++ rest)) (us : List (Nat × Option Blk)),
    AR look ks i l l' hpl u lk → getMuts lookC ks i rest o' = some out → putMuts look ks l rest out = some (us, o'') →
    o'' = o' ∧ (∀ b x, (b, x) ∈ us → ∃ k ∈ lk, k.own = false ∧ k.b = b ∧ ∃ new, lookC k.i = some (.arr k.t new .win) ∧ x = some (.arr k.t (splice k.xs k.o k.n new) k.md) ∧ (ks.any AK.aliases = false → k.t.flat = true)) ∧
      (∀ k ∈ lk, k.own = false → (∃ x, (k.b, x) ∈ us) ∧ ∃ t new, lookC k.i = some (.arr t new .win))
  | [], i, l, l', hpl, u, lk, rest, o', o'', out, us, h, hg, hp => by
    obtain ⟨rfl, rfl, rfl, rfl, rfl⟩ := h
    cases hg
    cases hp
    exact ⟨rfl, fun b x h => (by cases h), fun k h => (by cases h)⟩
  | k :: ks, i, l, l', hpl, u, lk, rest, o', o'', out, us, h, hg, hp => by
    obtain ⟨x, r, x', r', hd, hp2, d, u2, lk1, lk2, rfl, rfl, rfl, rfl, rfl, h1, h2⟩ := h
    have plain : ∀ {out : Outs (muts ks ++ rest)}, lk1 = [] ∨ (∃ k1, lk1 = [k1] ∧ k1.own = true) → k.aliases = false → getMuts lookC ks (i + 1) rest o' = some out → putMuts look ks r rest out = some (us, o'') →
        o'' = o' ∧ (∀ b x, (b, x) ∈ us → ∃ k' ∈ lk1 ++ lk2, k'.own = false ∧ k'.b = b ∧ ∃ new, lookC k'.i = some (.arr k'.t new .win) ∧ x = some (.arr k'.t (splice k'.xs k'.o k'.n new) k'.md) ∧ ((k :: ks).any AK.aliases = false → k'.t.flat = true)) ∧
        (∀ k' ∈ lk1 ++ lk2, k'.own = false → (∃ x, (k'.b, x) ∈ us) ∧ ∃ t new, lookC k'.i = some (.arr t new .win)) := by
      intro out hlk hal hg hp
      obtain ⟨g1, g2, g3⟩ := muts_rel ks (i + 1) r r' hp2 u2 lk2 rest o' o'' out us h2 hg hp
      refine ⟨g1, fun b x hx => ?_, fun k' hk' ho => ?_⟩
      · obtain ⟨k', q1, q2, q3, new, q4, q5, q6⟩ := g2 b x hx
        exact ⟨k', List.mem_append_right _ q1, q2, q3, new, q4, q5, fun ha => q6 (by simp only [List.any_cons, hal, Bool.false_or] at ha; exact ha)⟩
      · rcases List.mem_append.1 hk' with hk' | hk'
        · rcases hlk with rfl | ⟨k1, rfl, hk1⟩
          · cases hk'
          · rw [List.mem_singleton.1 hk', hk1] at ho; cases ho
        · exact g3 k' hk' ho
    cases k with
    | int _ => obtain ⟨_, _, _, _, _, e⟩ := h1; exact plain (.inl e) rfl hg (by simpa [putMuts] using hp)
    | bool => obtain ⟨_, _, _, _, _, e⟩ := h1; exact plain (.inl e) rfl hg (by simpa [putMuts] using hp)
    | rm _ => obtain ⟨_, _, _, _, _, _, _, _, _, e⟩ := h1; exact plain (.inl e) rfl hg (by simpa [putMuts] using hp)
    | flt _ => obtain ⟨_, _, _, _, _, e⟩ := h1; exact plain (.inl e) rfl hg (by simpa [putMuts] using hp)
    | str => obtain ⟨_, _, _, _, _, e⟩ := h1; exact plain (.inl e) rfl hg (by simpa [putMuts] using hp)
    | fn _ => obtain ⟨_, _, _, _, e⟩ := h1; exact plain (.inl e) rfl hg (by simpa [putMuts] using hp)
    | ro _ => obtain ⟨_, _, _, _, _, _, e⟩ := h1; exact plain (.inl e) rfl hg (by simpa [putMuts] using hp)
    | own _ =>
      rcases h1 with ⟨_, _, _, _, _, _, _, _, _, e⟩ | ⟨_, _, _, _, e⟩
      · exact plain (.inr ⟨_, e, rfl⟩) rfl hg (by simpa [putMuts] using hp)
      · exact plain (.inl e) rfl hg (by simpa [putMuts] using hp)
    | mu t =>
      obtain ⟨b, o, n, xs, md, rfl, hlb, hmd, rfl, e1, rfl, rfl⟩ := h1
      simp only [getMuts] at hg
      split at hg
      · rename_i u' new hlc
        split at hg
        · rename_i hs _
          obtain ⟨hs⟩ := hs
          subst hs
          obtain ⟨o1, ho1, e⟩ := Option.bind_eq_some_iff.1 hg
          simp only [putMuts, hlb] at hp
          split at hp
          · rename_i hs2 _
            split at hp
            · rename_i us1 o2 hpm
              cases hp
              cases e
              rw [tailO_consO] at hpm
              obtain ⟨g1, g2, g3⟩ := muts_rel ks (i + 1) r r' hp2 u2 lk2 rest o' o'' o1 us1 h2 ho1 hpm
              refine ⟨g1, fun c y hy => ?_, fun k' hk' ho => ?_⟩
              · rcases List.mem_cons.1 hy with hy | hy
                · cases hy
                  refine ⟨⟨i, b, u', xs, md, o, n, false⟩, List.mem_cons_self, rfl, rfl, new, hlc, ?_, fun ha => ?_⟩
                  · rw [headO_consO]
                  · simp only [List.any_cons, Bool.or_eq_false_iff, AK.aliases] at ha
                    simpa using ha.1
                · obtain ⟨k', q1, q2, q3, new', q4, q5, q6⟩ := g2 c y hy
                  exact ⟨k', List.mem_cons_of_mem _ q1, q2, q3, new', q4, q5, fun ha => q6 (by simp only [List.any_cons, Bool.or_eq_false_iff] at ha; exact ha.2)⟩
              · rcases List.mem_cons.1 hk' with rfl | hk'
                · exact ⟨⟨_, List.mem_cons_self⟩, _, new, hlc⟩
                · obtain ⟨⟨y, hy⟩, q⟩ := g3 k' hk' ho
                  exact ⟨⟨y, List.mem_cons_of_mem _ hy⟩, q⟩
            · cases hp
          · cases hp
        · cases hg
      · cases hg
    | pt t =>
      obtain ⟨b, o, xs, md, rfl, hlb, hmd, rfl, e1, rfl, rfl⟩ := h1
      simp only [getMuts] at hg
      split at hg
      · rename_i u' new hlc
        split at hg
        · rename_i hs _
          obtain ⟨hs⟩ := hs
          subst hs
          obtain ⟨o1, ho1, e⟩ := Option.bind_eq_some_iff.1 hg
          simp only [putMuts, hlb] at hp
          split at hp
          · rename_i hs2 _
            split at hp
            · rename_i us1 o2 hpm
              cases hp
              cases e
              rw [tailO_consO] at hpm
              obtain ⟨g1, g2, g3⟩ := muts_rel ks (i + 1) r r' hp2 u2 lk2 rest o' o'' o1 us1 h2 ho1 hpm
              refine ⟨g1, fun c y hy => ?_, fun k' hk' ho => ?_⟩
              · rcases List.mem_cons.1 hy with hy | hy
                · cases hy
                  refine ⟨⟨i, b, u', xs, md, o, some 1, false⟩, List.mem_cons_self, rfl, rfl, new, hlc, ?_, fun ha => ?_⟩
                  · rw [headO_consO]
                  · simp only [List.any_cons, Bool.or_eq_false_iff, AK.aliases] at ha
                    simpa using ha.1
                · obtain ⟨k', q1, q2, q3, new', q4, q5, q6⟩ := g2 c y hy
                  exact ⟨k', List.mem_cons_of_mem _ q1, q2, q3, new', q4, q5, fun ha => q6 (by simp only [List.any_cons, Bool.or_eq_false_iff] at ha; exact ha.2)⟩
              · rcases List.mem_cons.1 hk' with rfl | hk'
                · exact ⟨⟨_, List.mem_cons_self⟩, _, new, hlc⟩
                · obtain ⟨⟨y, hy⟩, q⟩ := g3 k' hk' ho
                  exact ⟨⟨y, List.mem_cons_of_mem _ hy⟩, q⟩
            · cases hp
          · cases hp
        · cases hg
      · cases hg

theorem AR.facts : ∀ (ks : List AK) (i : Nat) (l l' : List AV0) (hpl : List (Nat × Blk)) (u : Used) (lk : List Link), AR look ks i l l' hpl u lk →
    DemOk look u.dem ∧ l'.length = ks.length ∧ (∀ b ∈ u.owns, ∃ k ∈ lk, k.own = true ∧ k.b = b) ∧ ∀ k ∈ lk, k.own = false → k.i ∈ mutIds ks i
  | [], i, l, l', hpl, u, lk, h => by
    obtain ⟨rfl, rfl, rfl, rfl, rfl⟩ := h
    exact ⟨fun p hp => (by cases hp), rfl, fun b hb => (by cases hb), fun k hk => (by cases hk)⟩
  | k :: ks, i, l, l', hpl, u, lk, h => by
    obtain ⟨x, r, x', r', hd, hp2, d, u2, lk1, lk2, rfl, rfl, rfl, rfl, rfl, h1, h2⟩ := h
    obtain ⟨g1, g2, g3, g4⟩ := AR.facts ks (i + 1) r r' hp2 u2 lk2 h2
    have plain : d.dem = [] → d.owns = [] → lk1 = [] → (∀ j, j ∈ mutIds ks (i + 1) → j ∈ mutIds (k :: ks) i) → DemOk look (d.app u2).dem ∧ (x' :: r').length = (k :: ks).length ∧ (∀ b ∈ (d.app u2).owns, ∃ k ∈ lk1 ++ lk2, k.own = true ∧ k.b = b) ∧ ∀ k' ∈ lk1 ++ lk2, k'.own = false → k'.i ∈ mutIds (k :: ks) i := by
      rintro hd ho rfl hm
      exact ⟨by simp only [Used.app, hd, List.nil_append]; exact g1, by simp [g2], by simp only [Used.app, ho, List.nil_append]; exact g3, fun k' hk' ho => hm _ (g4 k' hk' ho)⟩
    cases k with
    | int _ => obtain ⟨_, _, _, _, rfl, e⟩ := h1; exact plain rfl rfl e fun _ h => h
    | bool => obtain ⟨_, _, _, _, rfl, e⟩ := h1; exact plain rfl rfl e fun _ h => h
    | flt _ => obtain ⟨_, _, _, _, rfl, e⟩ := h1; exact plain rfl rfl e fun _ h => h
    | str => obtain ⟨_, _, _, _, rfl, e⟩ := h1; exact plain rfl rfl e fun _ h => h
    | fn _ => obtain ⟨_, _, _, rfl, e⟩ := h1; exact plain rfl rfl e fun _ h => h
    | ro t =>
      obtain ⟨xs, us, he, _, _, rfl, rfl⟩ := h1
      exact ⟨(elems_dem he).append g1, by simp [g2], g3, g4⟩
    | rm t =>
      obtain ⟨b, n, xs, md, _, hlb, _, _, rfl, rfl⟩ := h1
      refine ⟨DemOk.append (fun p hp => ?_) g1, by simp [g2], g3, g4⟩
      obtain rfl := List.mem_singleton.1 hp
      exact ⟨_, _, _, rfl, hlb⟩
    | mu t =>
      obtain ⟨b, o, n, xs, md, _, _, _, _, _, rfl, rfl⟩ := h1
      refine ⟨g1, by simp [g2], fun b hb => ?_, fun k' hk' ho => ?_⟩
      · obtain ⟨k', q1, q2⟩ := g3 b hb
        exact ⟨k', List.mem_cons_of_mem _ q1, q2⟩
      · rcases List.mem_cons.1 hk' with rfl | hk'
        · simp [mutIds]
        · simp only [mutIds]; exact List.mem_cons_of_mem _ (g4 k' hk' ho)
    | pt t =>
      obtain ⟨b, o, xs, md, _, _, _, _, _, rfl, rfl⟩ := h1
      refine ⟨g1, by simp [g2], fun b hb => ?_, fun k' hk' ho => ?_⟩
      · obtain ⟨k', q1, q2⟩ := g3 b hb
        exact ⟨k', List.mem_cons_of_mem _ q1, q2⟩
      · rcases List.mem_cons.1 hk' with rfl | hk'
        · simp [mutIds]
        · simp only [mutIds]; exact List.mem_cons_of_mem _ (g4 k' hk' ho)
    | own t =>
      rcases h1 with ⟨b, o, n, xs, _, _, _, _, rfl, rfl⟩ | ⟨_, _, _, rfl, e⟩
      · refine ⟨g1, by simp [g2], fun c hc => ?_, fun k' hk' ho => ?_⟩
        · rcases List.mem_cons.1 hc with rfl | hc
          · exact ⟨_, List.mem_cons_self, rfl, rfl⟩
          · obtain ⟨k', q1, q2⟩ := g3 c hc
            exact ⟨k', List.mem_cons_of_mem _ q1, q2⟩
        · rcases List.mem_cons.1 hk' with rfl | hk'
          · cases ho
          · exact g4 k' hk' ho
      · exact plain rfl rfl e fun _ h => h

/-- The leaves of arguments. -/
theorem args_leaves {R : Nat → Prop} {m : Map} {w : World} : ∀ (ps : List (Bool × List AK)) (args : List AV) (vs : List Value), shapeOk ps args = true → vs.length = args.length → (∀ (i : Nat) x, args[i]? = some x → ∃ v, vs[i]? = some v ∧ AVRel R m w x v) →
    ∃ vl, CRel R m w (leaves args) vl ∧ ∀ (R' : Nat → Prop) (m' : Map) (w' : World) (ls : List AV0), CRel R' m' w' ls vl → V1sRel R' m' w' (group ps ls) vs
  | [], [], vs, _, hl, _ => by
    obtain rfl := List.length_eq_zero_iff.1 hl
    exact ⟨[], trivial, fun R' m' w' ls _ => trivial⟩
  | [], _ :: _, vs, h, _, _ => by simp [shapeOk] at h
  | _ :: _, [], vs, h, _, _ => by simp [shapeOk] at h
  | (g, l) :: ps, .tup _ :: args, vs, h, _, _ => by simp [shapeOk] at h
  | (g, l) :: ps, .v (g', cs) :: args, vs, h, hl, hr => by
    cases vs with
    | nil => simp at hl
    | cons v vs =>
      simp only [shapeOk, Bool.and_eq_true, beq_iff_eq] at h
      obtain ⟨⟨rfl, hlen⟩, h⟩ := h
      obtain ⟨vl, h1, h2⟩ := args_leaves ps args vs h (by simpa using hl) fun i x hi => by simpa using hr (i + 1) x (by simpa using hi)
      obtain ⟨v', e, hv⟩ := hr 0 _ rfl
      cases e
      have hu : ∃ ul, ul.length = cs.length ∧ CRel R m w cs ul ∧ ∀ (R' : Nat → Prop) (m' : Map) (w' : World) (ls : List AV0), CRel R' m' w' ls ul → V1Rel R' m' w' (g, ls) v := by
        cases g with
        | true =>
          obtain ⟨us', rfl, h3⟩ := hv
          exact ⟨us'.toList, h3.length.symm, h3, fun R' m' w' ls hls => ⟨us', rfl, hls⟩⟩
        | false =>
          match cs, hv with
          | [x], h3 =>
            refine ⟨[v], rfl, ⟨h3, trivial⟩, fun R' m' w' ls hls => ?_⟩
            match ls, hls with
            | [y], hls => exact hls.1
      obtain ⟨ul, k1, k2, k3⟩ := hu
      refine ⟨ul ++ vl, k2.append h1, fun R' m' w' ls hls => ?_⟩
      simp only [group]
      have e : l.length = ul.length := by omega
      have h4 := hls.take ul.length
      have h5 := hls.drop ul.length
      rw [List.take_left] at h4
      rw [List.drop_left] at h5
      rw [e]
      exact ⟨k3 R' m' w' _ h4, h2 R' m' w' _ h5⟩

theorem group_length {α : Type} : ∀ (ps : List (Bool × List α)) (ls : List AV0), (group ps ls).length = ps.length
  | [], _ => rfl
  | _ :: ps, ls => by simp [group, group_length ps]

theorem V1sRel.length {R : Nat → Prop} {m : Map} {w : World} : ∀ {l : List V1} {s : List Value}, V1sRel R m w l s → l.length = s.length
  | [], [], _ => rfl
  | _ :: _, _ :: _, h => by simp [V1sRel.length h.2]
  | [], _ :: _, h => h.elim
  | _ :: _, [], h => h.elim

/-- The temporaries at the beginning. -/
theorem start_tmps {R : Nat → Prop} {m : Map} {w : World} : ∀ (l : List V1) (vs : List Value) (k j t : Nat), V1sRel R m w l vs → AVRel R m w (nth (l.map AV.v ++ List.replicate k .un) t) ((vs ++ List.replicate j undef).getD t undef)
  | [], [], k, j, t, _ => by
    have : ∀ k t, nth (List.replicate k AV.un) t = .un := by
      intro k
      induction k with
      | zero => intro t; rfl
      | succ k ih => intro t; cases t with
        | zero => rfl
        | succ t => exact ih t
    show AVRel R m w (nth (List.replicate k AV.un) t) _
    rw [this]; exact AVRel.un _
  | x :: l, v :: vs, k, j, 0, h => h.1
  | x :: l, v :: vs, k, j, t + 1, h => start_tmps l vs k j t h.2
  | [], _ :: _, _, _, _, h => h.elim
  | _ :: _, [], _, _, _, h => h.elim

theorem asRes_rel {R : Nat → Prop} {m : Map} {w : World} {l : List V1} {us : List Value} (h : V1sRel R m w l us) : AVRel R m w (asRes l) (if h : us.toArray.size = 1 then us.toArray[0] else .tuple us.toArray) := by
  unfold asRes
  split
  · rename_i x
    match us, h with
    | [u], h => exact h.1
  · rename_i hne
    have hl := h.length
    rw [dif_neg]
    · exact ⟨_, rfl, h⟩
    · intro he
      have : l.length = 1 := by simp at he; omega
      match l, this with
      | [x], _ => exact hne x rfl

end
end Go.Rex
/- Rex: functions: a function's contract from its body. -/
namespace Go.Rex

/-- What a call may write of what is handed on. -/
def ownOf (m mc : Map) (u : Used) (lk : List Link) (R : Nat → Prop) : OwnS where
  cell k j := ∃ l ∈ lk, ∃ L0, m l.b = some L0 ∧ L0.c = some k ∧ Owns (subL L0 l) l.blk.md j
  blk k := ∃ l ∈ lk, ∃ L0, m l.b = some L0 ∧ L0.c = some k
  base := Dem m u.dem R
  args := mc

theorem blk_md (l : Link) : l.blk.md = if l.own then .full else .win := rfl
theorem blk_nofz (l : Link) : l.blk.md ≠ .fz := by rw [blk_md]; cases l.own <;> (intro h; cases h)

section
variable {P : Program} {C : Ctx} {look : Look} {nb : Nat} {m mc : Map} {R : Nat → Prop} {w : World} {s : Sig} {l' : List AV0} {hpl : List (Nat × Blk)} {u : Used} {lk : List Link} {vl : List Value} {args : List AV0}

theorem used_ok (h : usedOk u = true) : distinct u.both = true ∧ ∀ p ∈ u.dem, ∀ b ∈ u.both, p.1 ≠ b := by
  simp only [usedOk, Bool.and_eq_true] at h
  refine ⟨h.1, fun p hp b hb e => ?_⟩
  have := List.all_eq_true.1 (List.all_eq_true.1 h.2 p hp) b hb
  simp [e] at this

/-- What is only read is not written. -/
theorem link_dem (hp : Pre C.gl look nb m R w) (hE : Entered look m w (Dem m u.dem R) s.ks 0 l' hpl u lk vl mc) (hd : DemOk look u.dem) (hu : usedOk u = true) {l : Link} (hl : l ∈ lk) {L0 : Loc} {c : Nat} (hL : m l.b = some L0) (hc : L0.c = some c) : ¬ Dem m u.dem R c := by
  have hlk := hE.links l hl
  rintro (h | ⟨b1, x, L1, h1, h2, h3⟩)
  · exact hp.rw l.b _ L0 c hlk.look hlk.md hL hc h
  · obtain ⟨t, xs, md, e, h4⟩ := hd _ h1
    have hne : b1 ≠ l.b := (used_ok hu).2 _ h1 _ hlk.both
    exact hlk.md (hp.inj b1 l.b _ _ L1 L0 c h4 hlk.look hne h2 hL h3 hc).2

theorem enter_rel (hgl : ∀ g x, get g C.gl = some x → ids0 x = []) (hp : Pre C.gl look nb m R w) (hE : Entered look m w (Dem m u.dem R) s.ks 0 l' hpl u lk vl mc) (hd : DemOk look u.dem) (hu : usedOk u = true) {fn : Func} {vs : Array Value} (hsz : vs.size = s.ps.length) (hle : s.ps.length ≤ fn.ntmps)
    (hv : V1sRel (Dem m u.dem R) mc w (group s.ps l') vs.toList) (hll : l'.length = s.ks.length) :
    RelS C.gl fn.ntmps (ownOf m mc u lk R) w (start fn s l' hpl) mc (Dem m u.dem R) { tmps := vs ++ Array.replicate (fn.ntmps - vs.size) undef, defers := [] } w := by
  -- what a block is
  have hb : ∀ {b B L c}, get b hpl = some B → mc b = some L → L.c = some c → B.md ≠ .fz → ∃ l ∈ lk, l.i = b ∧ B = l.blk ∧ ∃ L0, m l.b = some L0 ∧ L0.c = some c ∧ L = subL L0 l := by
    intro b B L c h1 h2 h3 hz
    obtain ⟨L', h4, _, h5⟩ := hE.blks b B h1
    rw [h2] at h4; cases h4
    rcases h5 with ⟨l, hl, e1, e2, L0, h6, h7⟩ | ⟨h5, _⟩ | ⟨h5, _⟩
    · refine ⟨l, hl, e1, e2, L0, h6, ?_, h7⟩
      rw [h7] at h3; exact h3
    · rw [h5] at h3; cases h3
    · exact absurd h5 hz
  -- what is only read
  have hz : ∀ {b B L c}, get b hpl = some B → mc b = some L → L.c = some c → B.md = .fz → Dem m u.dem R c := by
    intro b B L c h1 h2 h3 hz
    obtain ⟨L', h4, _, h5⟩ := hE.blks b B h1
    rw [h2] at h4; cases h4
    rcases h5 with ⟨l, hl, e1, e2, L0, h6, h7⟩ | ⟨_, h5⟩ | ⟨_, h5⟩
    · rw [e2] at hz; exact absurd hz (blk_nofz l)
    · rw [h5] at hz; cases hz
    · exact h5 c h3
  refine ⟨{ size := by simp; omega, defers := rfl, tmps := fun t => ?_, blk := fun b B h => ?_, inj := fun b b' B B' L L' c h1 h1' hne h2 h2' h3 h3' => ?_, rw := fun b B L c h1 hmd h2 h3 => ?_, fz := fun b B L c h1 hmd h2 h3 => ?_, rsize := fun k hk => ?_, gl := fun g x hx => ?_, own := fun b B L c h1 h2 h3 j hj => ?_, keeps := Keeps.refl _ _, ownb := fun b B L c h1 hmd h2 h3 => ?_, base := fun k hk => .inl hk, args := fun i L _ h => h, up := fun k hk => hk }, ?_, fun b L h => ?_⟩
  · have h1 := start_tmps (group s.ps l') vs.toList (fn.ntmps - s.ps.length) (fn.ntmps - vs.size) t hv
    have e : (vs ++ Array.replicate (fn.ntmps - vs.size) undef).getD t undef = (vs.toList ++ List.replicate (fn.ntmps - vs.size) undef).getD t undef := by
      simp only [Array.getD_eq_getD_getElem?, List.getD_eq_getElem?_getD, ← Array.getElem?_toList, Array.toList_append, Array.toList_replicate]
    show AVRel _ _ _ _ ((vs ++ Array.replicate (fn.ntmps - vs.size) undef).getD t undef)
    rw [e]; exact h1
  · obtain ⟨L, h1, h2, _⟩ := hE.blks b B h
    exact ⟨L, h1, h2⟩
  · by_cases z1 : B.md = .fz
    · by_cases z2 : B'.md = .fz
      · exact ⟨z1, z2⟩
      · obtain ⟨k, hk, rfl, rfl, M0, k1, k2, _⟩ := hb h1' h2' h3' z2
        exact absurd (hz h1 h2 h3 z1) (link_dem hp hE hd hu hk k1 k2)
    obtain ⟨l, hl, rfl, rfl, L0, g1, g2, _⟩ := hb h1 h2 h3 z1
    by_cases z2 : B'.md = .fz
    · exact absurd (hz h1' h2' h3' z2) (link_dem hp hE hd hu hl g1 g2)
    obtain ⟨k, hk, rfl, rfl, M0, k1, k2, _⟩ := hb h1' h2' h3' z2
    by_cases e : l.b = k.b
    · exact absurd (congrArg Link.i (hE.uniq l hl k hk e)) hne
    · exact absurd (hp.inj l.b k.b _ _ L0 M0 c (hE.links l hl).look (hE.links k hk).look e g1 k1 g2 k2).1 (hE.links l hl).md
  · obtain ⟨l, hl, rfl, rfl, L0, g1, g2, _⟩ := hb h1 h2 h3 hmd
    exact link_dem hp hE hd hu hl g1 g2
  · exact hz h1 h2 h3 hmd
  · rcases hk with hk | ⟨b, x, L, h1, h2, h3⟩
    · exact hp.rsize k hk
    · obtain ⟨t, xs, md, e, h4⟩ := hd _ h1
      obtain ⟨L', h5, h6⟩ := hp.blk _ _ h4
      rw [h2] at h5; cases h5
      exact h6.lt h3
  · exact ((hp.gl g x hx).mono (fun _ h => .inl h) (Same.refl _ _) (fun _ _ h => h)).any_map (hgl g x hx)
  · obtain ⟨l, hl, rfl, rfl, L0, g1, g2, rfl⟩ := hb h1 h2 h3 (fun e => by rw [e] at hj; exact hj)
    exact .inl ⟨l, hl, L0, g1, g2, hj⟩
  · obtain ⟨l, hl, rfl, rfl, L0, g1, g2, _⟩ := hb h1 h2 h3 hmd
    exact .inl ⟨l, hl, L0, g1, g2⟩
  · simp [start, group_length]; omega
  · have := hE.dom b L h
    show b < l'.length
    omega

end
end Go.Rex
/- Rex: functions: a function's contract from its body: what is so behind a call. -/
namespace Go.Rex

section
variable {P : Program} {C : Ctx} {look : Look} {nb : Nat} {m mc : Map} {R : Nat → Prop} {w : World} {s : Sig} {l' : List AV0} {hpl : List (Nat × Blk)} {u : Used} {lk : List Link} {vl : List Value}
  {n : Nat} {S : St} {mC : Map} {RC : Nat → Prop} {aC : Act} {wC : World}

theorem spliced_get {α : Type} (xs ys : List α) (o : Nat) (q : Option Nat) (hl : ys.length = (window xs o q).length) (ho : o ≤ xs.length) (hq : ∀ k, q = some k → o + k ≤ xs.length) (i : Nat) :
    (splice xs o q ys)[i]? = if i < o then xs[i]? else if i < o + ys.length then ys[i - o]? else xs[i]? := by
  cases q with
  | none =>
    simp only [window, List.length_drop] at hl
    simp only [splice, List.getElem?_append, List.length_take, Nat.min_eq_left ho, List.getElem?_take]
    split
    · rfl
    · split
      · rfl
      · rw [List.getElem?_eq_none (by omega), List.getElem?_eq_none (by omega)]
  | some k =>
    have := hq k rfl
    simp only [window, List.length_take, List.length_drop] at hl
    simp only [splice, List.getElem?_append, List.length_take, Nat.min_eq_left ho, List.getElem?_take, List.getElem?_drop]
    split
    · rfl
    · split
      · rw [if_pos (by omega)]
      · rw [if_neg (by omega)]
        congr 1; omega

theorem spliced_length {α : Type} (xs ys : List α) (o : Nat) (q : Option Nat) (hl : ys.length = (window xs o q).length) (ho : o ≤ xs.length) (hq : ∀ k, q = some k → o + k ≤ xs.length) : (splice xs o q ys).length = xs.length := by
  cases q with
  | none =>
    simp only [window, List.length_drop] at hl
    simp only [splice, List.length_append, List.length_take]; omega
  | some k =>
    have := hq k rfl
    simp only [window, List.length_take, List.length_drop] at hl
    simp only [splice, List.length_append, List.length_take, List.length_drop]; omega

/-- A window that was written. -/
theorem splice_rel {L0 : Loc} {k : Link} {new : List k.t.den} {R2 : Nat → Prop} {m2 : Map} (hB : BRel R m w L0 (.arr k.t k.xs k.md)) (h2 : k.o ≤ L0.len) (h3 : ∀ q, k.n = some q → k.o + q ≤ L0.len)
    (hN : BRel RC mC wC (subL L0 k) (.arr k.t new .win)) (hR : ∀ c, R c → R2 c) (hsame : Same R w wC) (hal : (∀ c, RC c → R2 c) ∨ k.t.flat = true)
    (hout : ∀ c cs e fr, L0.c = some c → w.heap[c]? = some (.cells cs e fr) → ∃ cs', wC.heap[c]? = some (.cells cs' e fr) ∧ cs'.size = cs.size ∧ ∀ j, (j < (subL L0 k).off ∨ (subL L0 k).off + (subL L0 k).len * (subL L0 k).sz ≤ j) → cs'[j]? = cs[j]?) :
    BRel R2 m2 wC L0 (.arr k.t (splice k.xs k.o k.n new) k.md) := by
  obtain ⟨b1, b2, b3, b4⟩ := hB
  obtain ⟨n1, n2, n3, n4⟩ := hN
  have hlen : new.length = (window k.xs k.o k.n).length := n1
  have ho : k.o ≤ k.xs.length := by omega
  have hq : ∀ q, k.n = some q → k.o + q ≤ k.xs.length := fun q hq => by have := h3 q hq; omega
  have hsl := spliced_length k.xs new k.o k.n hlen ho hq
  refine ⟨hsl.trans b1, b2, fun hc => ?_, fun c hc => ?_⟩
  · have h0 := b3 hc
    have h9 : k.xs.length = 0 := by rw [h0]; rfl
    exact List.length_eq_zero_iff.1 (hsl.trans h9)
  · obtain ⟨cs, e, fr, c1, c2, c3, c4, c5⟩ := b4 c hc
    obtain ⟨cs2, d1, d2, d3⟩ := hout c cs e fr hc c1
    obtain ⟨cs3, e3, fr3, f1, f2, f3, f4, f5⟩ := n4 c hc
    rw [d1] at f1; cases f1
    refine ⟨cs2, _, _, d1, d2.trans c2, c3, c4, fun i x hx => ?_⟩
    rw [spliced_get k.xs new k.o k.n hlen ho hq] at hx
    have outside : k.xs[i]? = some x → (i < k.o ∨ k.o + new.length ≤ i) → ∃ l, Enc R2 wC k.t x l ∧ ∀ (j : Nat) u, l[j]? = some u → cs2[L0.off + (i * k.t.size + j)]? = some u := by
      intro hx hi
      obtain ⟨l, q1, q2⟩ := c5 i x hx
      refine ⟨l, q1.mono hR hsame, fun j y hy => ?_⟩
      have hj : j < k.t.size := by
        have := (List.getElem?_eq_some_iff.1 hy).1
        rw [q1.length] at this; exact this
      rw [d3]
      · exact q2 j y hy
      · rcases hi with hi | hi
        · left
          show _ < L0.off + k.o * L0.sz
          rw [b2]
          have := Nat.mul_le_mul_right k.t.size (show i + 1 ≤ k.o from hi)
          rw [Nat.add_mul] at this; omega
        · right
          show L0.off + k.o * L0.sz + (window k.xs k.o k.n).length * L0.sz ≤ _
          rw [b2, ← hlen]
          have := Nat.mul_le_mul_right k.t.size hi
          rw [Nat.add_mul] at this; omega
    split at hx
    · rename_i hi
      exact outside hx (.inl hi)
    · split at hx
      · rename_i g1 g2
        obtain ⟨l, q1, q2⟩ := f5 (i - k.o) x hx
        refine ⟨l, ?_, fun j y hy => ?_⟩
        · rcases hal with hal | hal
          · exact q1.mono hal (Same.refl _ _)
          · exact q1.flat hal
        · have := q2 j y hy
          have e : (subL L0 k).off + ((i - k.o) * k.t.size + j) = L0.off + (i * k.t.size + j) := by
            show L0.off + k.o * L0.sz + _ = _
            rw [b2]
            have : i * k.t.size = k.o * k.t.size + (i - k.o) * k.t.size := by rw [← Nat.add_mul]; congr 1; omega
            omega
          rw [e] at this; exact this
      · rename_i g1 g2
        exact outside hx (.inr (by omega))

end
end Go.Rex
/- Rex: functions: a function's contract from its body: all of it. -/
namespace Go.Rex

section
variable {P : Program} {C : Ctx} {look lookC : Look} {nb : Nat} {m mc : Map} {R : Nat → Prop} {w : World} {s : Sig} {l l' : List AV0} {hpl : List (Nat × Blk)} {u : Used} {lk : List Link} {vl vl2 : List Value}
  {n : Nat} {mC m2 : Map} {RC : Nat → Prop} {aC : Act} {wC : World} {U us : List (Nat × Option Blk)} {o' : Outs ((flat s.rs).map RK.den)}

theorem leave_post (hp : Pre C.gl look nb m R w) (hE : Entered look m w (Dem m u.dem R) s.ks 0 l' hpl u lk vl mc) (hAR : AR look s.ks 0 l l' hpl u lk) (hu : usedOk u = true) (h8 : frs (flat s.rs) ≤ 8) (h1000 : s.ks.length ≤ 1000)
    (hr : Rel C.gl n (ownOf m mc u lk R) w (fun _ => .un) lookC mC RC aC wC)
    (hR : ResOk lookC mC RC wC (mutIds s.ks 0) [] (flat s.rs) vl2 nb m (putRes (flat s.rs) o' nb) m2 U)
    (hM1 : ∀ b x, (b, x) ∈ us → ∃ k ∈ lk, k.own = false ∧ k.b = b ∧ ∃ new, lookC k.i = some (.arr k.t new .win) ∧ x = some (.arr k.t (splice k.xs k.o k.n new) k.md) ∧ (s.ks.any AK.aliases = false → k.t.flat = true))
    (hM2 : ∀ k ∈ lk, k.own = false → (∃ x, (k.b, x) ∈ us) ∧ ∃ t new, lookC k.i = some (.arr t new .win))
    {v : Value} (hv : ∀ R2, CRel R2 m2 wC (putRes (flat s.rs) o' nb).1 vl2 → AVRel R2 m2 wC (callEff s nb u us o').v v) :
    ∃ m' R', Post look nb m R w (callEff s nb u us o') m' R' wC v := by
  obtain ⟨hd, _, howns, hmutid⟩ := hAR.facts
  obtain ⟨_, hdb⟩ := used_ok hu
  -- what is in the effect
  have mem : ∀ {b x}, (b, x) ∈ (callEff s nb u us o').u → (s.aliases = true ∧ (b, x) ∈ u.dem) ∨ (b, x) ∈ us ∨ (b ∈ u.owns ∧ x = none) ∨ (b, x) ∈ (putRes (flat s.rs) o' nb).2 := by
    intro b x h
    simp only [callEff, List.mem_append] at h
    rcases h with h | h | h | h
    · split at h
      · rename_i ha; exact .inl ⟨ha, h⟩
      · cases h
    · exact .inr (.inl h)
    · obtain ⟨c, h1, h2⟩ := List.mem_map.1 h
      cases h2; exact .inr (.inr (.inl ⟨h1, rfl⟩))
    · exact .inr (.inr (.inr h))
  have memD : ∀ {b x}, s.aliases = true → (b, x) ∈ u.dem → (b, x) ∈ (callEff s nb u us o').u := by
    intro b x h1 h2
    simp only [callEff, List.mem_append, h1, if_true]; exact .inl h2
  have memM : ∀ {b x}, (b, x) ∈ us → (b, x) ∈ (callEff s nb u us o').u := by
    intro b x h; simp only [callEff, List.mem_append]; exact .inr (.inl h)
  have memO : ∀ {b}, b ∈ u.owns → (b, none) ∈ (callEff s nb u us o').u := by
    intro b h; simp only [callEff, List.mem_append]; exact .inr (.inr (.inl (List.mem_map.2 ⟨b, h, rfl⟩)))
  -- a block that is written
  have mu : ∀ {k}, k ∈ lk → k.own = false → ∀ {L0 c}, m k.b = some L0 → L0.c = some c → ¬ Dem mC U RC c ∧ ∀ b0 B0 M0, b0 ∉ mutIds s.ks 0 → lookC b0 = some B0 → mC b0 = some M0 → M0.c = some c → B0.md = .fz := by
    intro k hk ho L0 c hL hc
    obtain ⟨L1, g1, g2, _⟩ := (hE.links k hk).loc
    rw [hL] at g1; cases g1
    obtain ⟨_, t, new, hwin⟩ := hM2 k hk ho
    have hi : k.i < 1000 := by have := hE.dom _ _ g2; omega
    have hmk : mC k.i = some (subL L0 k) := hr.args k.i _ hi g2
    refine ⟨?_, fun b0 B0 M0 h0 h1 h2 h3 => ?_⟩
    · rintro (h | ⟨b, x, L, h1, h2, h3⟩)
      · exact hr.rw k.i _ _ c hwin (fun h => by cases h) hmk hc h
      · obtain ⟨t', xs', md', e, h4⟩ := hR.dem _ h1
        have hne : b ≠ k.i := fun e => hR.demno _ h1 (by rw [e]; exact hmutid k hk ho)
        have := (hr.inj b k.i _ _ L _ c h4 hwin hne h2 hmk h3 hc).2
        cases this
    · have hne : b0 ≠ k.i := fun e => h0 (by rw [e]; exact hmutid k hk ho)
      exact (hr.inj b0 k.i _ _ M0 _ c h1 hwin hne h2 hmk h3 hc).1
  have free : ∀ {b x}, (b, x) ∈ (putRes (flat s.rs) o' nb).2 → nb ≤ b ∧ b < nb + 8 ∧ m b = none := by
    intro b x h
    obtain ⟨h1, h2, _⟩ := hR.upd b x h
    exact ⟨h1, by omega, hp.free b h1 (by omega)⟩
  -- a block that is given away
  have killed : ∀ {k}, k ∈ lk → k.own = true → (k.b, none) ∈ (callEff s nb u us o').u ∧ (∀ X, (k.b, some X) ∉ (callEff s nb u us o').u) ∧ look k.b = some (.arr k.t k.xs k.md) ∧ k.md = .full := by
    intro k hk ho
    have hlk := hE.links k hk
    obtain ⟨h1, h2⟩ := hlk.own ho
    refine ⟨memO h2, fun X hX => ?_, hlk.look, h1⟩
    rcases mem hX with ⟨_, h⟩ | h | ⟨_, h⟩ | h
    · exact hdb _ h _ hlk.both rfl
    · obtain ⟨k', g1, g2, g3, _⟩ := hM1 _ _ h
      have := hE.uniq k' g1 k hk g3
      subst this; rw [ho] at g2; cases g2
    · cases h
    · obtain ⟨L0, g1, _⟩ := hlk.loc
      rw [(free h).2.2] at g1; cases g1
  -- where something of the call lies that it may answer
  have back : ∀ {c}, (ownOf m mc u lk R).blk c → (∀ k ∈ lk, k.own = false → ∀ L0, m k.b = some L0 → L0.c = some c → False) → ∃ b B L, (b, none) ∈ (callEff s nb u us o').u ∧ (∀ X, (b, some X) ∉ (callEff s nb u us o').u) ∧ look b = some B ∧ B.md = .full ∧ m b = some L ∧ L.c = some c := by
    rintro c ⟨k, hk, L0, h1, h2⟩ hno
    cases ho : k.own with
    | false => exact (hno k hk ho L0 h1 h2).elim
    | true =>
      obtain ⟨g1, g2, g3, g4⟩ := killed hk ho
      exact ⟨k.b, _, L0, g1, g2, g3, g4, h1, h2⟩
  let R2 : Nat → Prop := fun k => (s.aliases = true ∧ Dem mC U RC k) ∨ (s.aliases = false ∧ R k)
  have hRR2 : ∀ k, R k → R2 k := by
    intro k hk
    cases ha : s.aliases with
    | true => exact .inl ⟨ha, .inl (hr.up k (.inl hk))⟩
    | false => exact .inr ⟨ha, hk⟩
  have hR2D : ∀ k, R2 k → Dem mC U RC k := by
    rintro k (⟨_, h⟩ | ⟨_, h⟩)
    · exact h
    · exact .inl (hr.up k (.inl h))
  have hres : (flat s.rs).any RK.aliases = true → ∀ k, Dem mC U RC k → R2 k := by
    intro h k hk
    exact .inl ⟨by simp only [Sig.aliases, h, Bool.true_or], hk⟩
  have hkeeps : Keeps (Touch look m (callEff s nb u us o').u) w wC := by
    refine hr.keeps.mono fun c hc j hx => ?_
    obtain ⟨k, hk, L0, h1, h2, h3⟩ := hx
    have hlk := hE.links k hk
    obtain ⟨L1, g1, g2, g3, g4, g5⟩ := hlk.loc
    rw [h1] at g1; cases g1
    refine ⟨k.b, _, L0, hlk.look, ?_, h1, h2, ?_⟩
    · cases ho : k.own with
      | false => obtain ⟨⟨x, h4⟩, _⟩ := hM2 k hk ho; exact ⟨x, memM h4⟩
      | true => exact ⟨none, (killed hk ho).1⟩
    · show Owns L0 k.md j
      cases ho : k.own with
      | true => rw [(hlk.own ho).1]; trivial
      | false =>
        rw [blk_md, ho] at h3
        have h3 : L0.off + k.o * L0.sz ≤ j ∧ j < L0.off + k.o * L0.sz + (window k.xs k.o k.n).length * L0.sz := h3
        have := Nat.mul_le_mul_right L0.sz g3
        rw [Nat.add_mul] at this
        cases hmd : k.md with
        | fz => exact absurd hmd hlk.md
        | full => trivial
        | win => exact ⟨by omega, by omega⟩
  have hsame : Same R w wC := hp.same hkeeps
  have demsame : ∀ c, Dem m u.dem R c → c < w.heap.size → wC.heap[c]? = w.heap[c]? := by
    intro c hc hlt
    refine hr.keeps.same hlt fun j hx => ?_
    obtain ⟨k, hk, L0, h1, h2, _⟩ := hx
    exact link_dem hp hE hd hu hk h1 h2 hc
  have hnewold : ∀ k, R2 k → R k ∨ (w.heap.size ≤ k ∧ k < wC.heap.size) ∨ (∃ b B B' L, (b, some B') ∈ (callEff s nb u us o').u ∧ B'.md = .fz ∧ look b = some B ∧ m b = some L ∧ L.c = some k) ∨
      ∃ b B L, (b, none) ∈ (callEff s nb u us o').u ∧ (∀ X, (b, some X) ∉ (callEff s nb u us o').u) ∧ look b = some B ∧ B.md = .full ∧ m b = some L ∧ L.c = some k := by
    rintro c (⟨ha, h⟩ | ⟨_, h⟩)
    · have hno : ∀ k ∈ lk, k.own = false → ∀ L0, m k.b = some L0 → L0.c = some c → False := fun k hk ho L0 h1 h2 => (mu hk ho h1 h2).1 h
      have hbase : RC c → R c ∨ (w.heap.size ≤ c ∧ c < wC.heap.size) ∨ (∃ b B B' L, (b, some B') ∈ (callEff s nb u us o').u ∧ B'.md = .fz ∧ look b = some B ∧ m b = some L ∧ L.c = some c) ∨
          ∃ b B L, (b, none) ∈ (callEff s nb u us o').u ∧ (∀ X, (b, some X) ∉ (callEff s nb u us o').u) ∧ look b = some B ∧ B.md = .full ∧ m b = some L ∧ L.c = some c := by
        intro hc
        rcases hr.base c hc with h | h | h
        · rcases h with h | ⟨b, x, L, h1, h2, h3⟩
          · exact .inl h
          · obtain ⟨t, xs, md, e, h4⟩ := hd _ h1
            have e : some x = some (Blk.arr t xs .fz) := e
            cases e
            exact .inr (.inr (.inl ⟨b, _, _, L, memD ha h1, rfl, h4, h2, h3⟩))
        · exact .inr (.inl ⟨h, hr.rsize c hc⟩)
        · exact .inr (.inr (.inr (back h hno)))
      rcases h with h | ⟨b, x, L, h1, h2, h3⟩
      · exact hbase h
      · obtain ⟨t, xs, md, e, h4⟩ := hR.dem _ h1
        by_cases hmd : md = .fz
        · subst hmd
          exact hbase (hr.fz b _ L c h4 rfl h2 h3)
        · rcases hr.ownb b _ L c h4 hmd h2 h3 with h | h
          · exact .inr (.inr (.inr (back h hno)))
          · obtain ⟨L', h5, h6⟩ := hr.blk b _ h4
            rw [h2] at h5; cases h5
            exact .inr (.inl ⟨h, h6.lt h3⟩)
    · exact .inl h
  refine ⟨m2, R2, ⟨hR.ext, fun b L h1 h2 => ?_, hkeeps, hRR2, hnewold, fun b B h => ?_, fun b B h hne => ?_, fun b B L c h h1 h2 h3 => ?_, fun b b' B B' L L' c h h' h1 h1' h2 h2' h3 h3' => ?_, fun b B L c h hmd h2 h3 => ?_, fun b B L c h hmd h2 h3 h4 => ?_, hv R2 (hR.vals R2 hres)⟩⟩
  · have := hR.dom b L h1 h2; omega
  · rcases mem h with ⟨ha, h⟩ | h | ⟨_, h⟩ | h
    · obtain ⟨t, xs, md, e, h4⟩ := hd _ h
      have e : some B = some (Blk.arr t xs .fz) := e
      cases e
      obtain ⟨L, h5, h6⟩ := hp.blk b _ h4
      refine ⟨L, hR.ext b L h5, h6.demote.mono hRR2 hsame hR.ext fun c hc => ?_⟩
      exact demsame c (.inr ⟨b, _, L, h, h5, hc⟩) (h6.lt hc)
    · obtain ⟨k, hk, ho, rfl, new, h4, h5, h6⟩ := hM1 b _ h
      cases h5
      have hlk := hE.links k hk
      obtain ⟨L0, g1, g2, g3, g4, g5⟩ := hlk.loc
      obtain ⟨L1, g6, g7⟩ := hp.blk _ _ hlk.look
      rw [g1] at g6; cases g6
      have hi : k.i < 1000 := by have := hE.dom _ _ g2; omega
      have hmk : mC k.i = some (subL L0 k) := hr.args k.i _ hi g2
      obtain ⟨L1, k1, k2⟩ := hr.blk _ _ h4
      rw [hmk] at k1; cases k1
      refine ⟨L0, hR.ext _ _ g1, splice_rel g7 g4 g5 k2 hRR2 hsame ?_ fun c cs e fr hc hcs => ?_⟩
      · cases ha : s.aliases with
        | true => exact .inl fun c hc => .inl ⟨ha, .inl hc⟩
        | false =>
          simp only [Sig.aliases, Bool.or_eq_false_iff] at ha
          exact .inr (h6 ha.2)
      · obtain ⟨cs', q1, q2, q3⟩ := hr.keeps.cells c cs e fr hcs
        refine ⟨cs', q1, q2, fun j hj => q3 j ?_⟩
        rintro ⟨k', hk', L0', p1, p2, p3⟩
        have : k' = k := by
          by_cases e : k'.b = k.b
          · exact hE.uniq k' hk' k hk e
          · exact absurd (hp.inj k'.b k.b _ _ L0' L0 c (hE.links k' hk').look hlk.look e p1 g1 p2 hc).1 (hE.links k' hk').md
        subst this
        rw [g1] at p1; cases p1
        rw [blk_md, ho] at p3
        have p3 : (subL L0 k').off ≤ j ∧ j < (subL L0 k').off + (subL L0 k').len * (subL L0 k').sz := p3
        omega
    · cases h
    · obtain ⟨_, _, B', L, h1, h2, h3, h4, _⟩ := hR.upd b _ h
      cases h1
      exact ⟨L, h2, h4 R2 hres⟩
  · rcases mem h with ⟨ha, h⟩ | h | ⟨_, h⟩ | h
    · obtain ⟨t, xs, md, e, h4⟩ := hd _ h
      have e : some B = some (Blk.arr t xs .fz) := e
      cases e
      exact ⟨_, h4, .inr rfl⟩
    · obtain ⟨k, hk, ho, rfl, new, h4, h5, h6⟩ := hM1 b _ h
      cases h5
      exact ⟨_, (hE.links k hk).look, .inl rfl⟩
    · cases h
    · exact absurd (free h).2.2 hne
  · rcases mem h with ⟨ha, h⟩ | h | ⟨_, h⟩ | h
    · obtain ⟨t, xs, md, e, h4⟩ := hd _ h
      obtain ⟨L', h5, h6⟩ := hp.blk b _ h4
      rw [h1] at h5; cases h5
    · obtain ⟨k, hk, ho, rfl, new, h4, h5, h6⟩ := hM1 b _ h
      obtain ⟨L0, g1, _⟩ := (hE.links k hk).loc
      rw [h1] at g1; cases g1
    · cases h
    · obtain ⟨_, _, B', L', q1, q2, q3, q4, q5⟩ := hR.upd b _ h
      rw [h2] at q2; cases q2
      rcases q5 with q5 | ⟨b0, B0, M0, k1, k2, k3, k4, k5, _⟩
      · rw [q5] at h3; cases h3
      · have hc0 : M0.c = some c := k4.trans h3
        rcases hr.ownb b0 B0 M0 c k1 (by rw [k2]; exact fun h => by cases h) k3 hc0 with h | h
        · refine .inr (.inl (back h fun k hk ho L0 g1 g2 => ?_))
          have := (mu hk ho g1 g2).2 b0 B0 M0 k5 k1 k3 hc0
          rw [k2] at this; cases this
        · exact .inl h
  · have put : ∀ {b B}, (b, some B) ∈ (callEff s nb u us o').u → m b = none → (b, some B) ∈ (putRes (flat s.rs) o' nb).2 := by
      intro b B h h1
      rcases mem h with ⟨ha, h⟩ | h | ⟨_, h⟩ | h
      · obtain ⟨t, xs, md, e, h4⟩ := hd _ h
        obtain ⟨L', h5, h6⟩ := hp.blk b _ h4
        rw [h1] at h5; cases h5
      · obtain ⟨k, hk, ho, rfl, new, h4, h5, h6⟩ := hM1 b _ h
        obtain ⟨L0, g1, _⟩ := (hE.links k hk).loc
        rw [h1] at g1; cases g1
      · cases h
      · exact h
    exact hR.dist b b' _ _ L L' c (put h h1) (put h' h1') h2 h2' h3 h3'
  · rcases mem h with ⟨ha, h⟩ | h | ⟨_, h⟩ | h
    · obtain ⟨t, xs, md, e, h4⟩ := hd _ h
      obtain ⟨L', h5, h6⟩ := hp.blk b _ h4
      have := hR.ext b L' h5
      rw [h2] at this; cases this
      exact .inl ⟨ha, .inl (hr.up c (.inr ⟨b, _, L, h, h5, h3⟩))⟩
    · obtain ⟨k, hk, ho, rfl, new, h4, h5, h6⟩ := hM1 b _ h
      cases h5
      exact absurd hmd (hE.links k hk).md
    · cases h
    · obtain ⟨_, _, B', L', q1, q2, q3, _⟩ := hR.upd b _ h
      cases q1
      rw [hmd] at q3; cases q3
  · rcases mem h with ⟨ha, h⟩ | h | ⟨_, h⟩ | h
    · obtain ⟨t, xs, md, e, _⟩ := hd _ h
      have e : some B = some (Blk.arr t xs .fz) := e
      cases e
      exact hmd rfl
    · obtain ⟨k, hk, ho, rfl, new, _⟩ := hM1 b _ h
      obtain ⟨L0, g1, _⟩ := (hE.links k hk).loc
      have := hR.ext _ L0 g1
      rw [h2] at this; cases this
      exact (mu hk ho g1 h3).1 (hR2D c h4)
    · cases h
    · obtain ⟨_, _, B', L', q1, q2, q3, q4, q5⟩ := hR.upd b _ h
      rw [h2] at q2; cases q2
      rcases q5 with q5 | ⟨b0, B0, M0, k1, k2, k3, k4, k5, k6, k7⟩
      · rw [q5] at h3; cases h3
      · have hc0 : M0.c = some c := k4.trans h3
        rcases hR2D c h4 with h | ⟨b1, x, L1, g1, g2, g3⟩
        · exact hr.rw b0 B0 M0 c k1 (by rw [k2]; exact fun h => by cases h) k3 hc0 h
        · obtain ⟨t, xs, md, e, g4⟩ := hR.dem _ g1
          have := (hr.inj b1 b0 _ B0 L1 M0 c g4 k1 (k7 _ g1) g2 k3 g3 hc0).2
          rw [k2] at this; cases this

end
end Go.Rex
/- Rex: functions: a function's contract from its body: joined. -/
namespace Go.Rex

section
variable {P : Program} {C : Ctx}

theorem shape_length : ∀ (ps : List (Bool × List AK)) (args : List AV), shapeOk ps args = true → args.length = ps.length
  | [], [], _ => rfl
  | [], _ :: _, h => by simp [shapeOk] at h
  | _ :: _, [], h => by simp [shapeOk] at h
  | _ :: _, .tup _ :: _, h => by simp [shapeOk] at h
  | _ :: ps, .v (_, _) :: args, h => by
    simp only [shapeOk, Bool.and_eq_true] at h
    simp [shape_length ps args h.2]

theorem callFunc_run {g : FuncId} {fn : Func} {c : Code} {vs : Array Value} {w : World} (hf : P.funcs[g]? = some fn) (hbody : fn.body = some c) (hn : fn.name ≠ "runtime.NumGoroutine") : (callFunc g vs).run P w = .ok (.enter g vs) w := by
  unfold callFunc
  have e : (program : Sem Program).run P w = .ok P w := rfl
  simp only [Sem.run_bind, e, Result.andThen_ok, hf, hbody, Option.isNone_some, Bool.false_eq_true, if_false]
  rw [if_neg (by simpa using hn)]
  rfl

theorem fn_ok {g : FuncId} {fn : Func} {c : Code} (hC : CtxOk P C) (hf : P.funcs[g]? = some fn) (hbody : fn.body = some c) (hn : fn.name ≠ "runtime.NumGoroutine") (hh : H) (s : Sig) (h8 : frs (flat s.rs) ≤ 8) (h1000 : s.ks.length ≤ 1000) (hsz : s.ps.length ≤ fn.ntmps) : SpecOk P C.gl g ⟨s, vxFun C fn hh s⟩ := by
  intro fuel look nb args out a us o' hsh hap hus hpm m R w vs hp hsize hargs
  obtain ⟨l', hpl, u, lk, hvx, ha, hAR⟩ := mkArgs_rel s.ks 0 _ (leaves args) _ hap
  have hau : a = u := by rw [ha]; simp [Used.app]
  subst hau
  obtain ⟨vl, hvl, hgrp⟩ := args_leaves s.ps args vs.toList hsh (by simpa using hsize) (fun i x hx => by simpa using hargs i x hx)
  obtain ⟨hd, hll, _, _⟩ := hAR.facts
  obtain ⟨mc, hE⟩ := enter hp (Rc := Dem m a.dem R) (fun k hk => .inl hk) s.ks 0 (leaves args) l' hpl a lk vl hAR hvl (fun _ h => h) (used_ok hus).1
  unfold CallOut
  rw [callFunc_run hf hbody hn]
  refine calls_of_wp hf hbody ?_
  have hvs : vs.size = s.ps.length := by rw [hsize, shape_length _ _ hsh]
  have hrel := enter_rel (fn := fn) (vs := vs) hC.gl hp hE hd hus hvs hsz (hgrp _ _ _ _ hE.vals) hll
  have hvx : vx C fuel c hh (start fn s l' hpl) (kret C fn s) = some out := by
    have e : bodyOf fn = c := by simp [bodyOf, hbody]
    rw [← e]; exact hvx
  refine vx_sound hC c hh _ (kret C fn s) _ mc (Dem m a.dem R) _ w hvx (fun e S mC RC aC wC hk hS => ?_) hrel
  have main : getOut C fn s S = some out → aC.defers = [] ∧ ∃ v, (results fn aC.tmps).run P wC = .ok v wC ∧ ∃ m' R', Post look nb m R w (callEff s nb a us o') m' R' wC v := by
    intro hk
    refine ⟨hS.rel.defers, ?_⟩
    unfold getOut at hk
    simp only [cif_eq] at hk
    split at hk
    · rename_i vsr hvsr
      split at hk
      · rename_i hshape
        obtain ⟨o1, ho1, ho2⟩ := Option.bind_eq_some_iff.1 hk
        have hfree : ∀ b, S.nx ≤ b → b < S.nx + 8 → mC b = none := fun b h1 _ => by
          cases hb : mC b with
          | none => rfl
          | some L => have := hS.dom b L hb; omega
        obtain ⟨us1, h1, h2⟩ := results_run hC.tab hS.rel hfree fn.results.toList vsr hvsr
        obtain ⟨vl2, h3, h4⟩ := unflat s.rs vsr us1 hshape h2
        have hr0 : Rel C.gl fn.ntmps (ownOf m mc a lk R) w (fun _ => .un) (fun b => get b S.hp) mC RC aC wC := { hS.rel with tmps := fun _ => AVRel.un _ }
        obtain ⟨m2, U, hR⟩ := getRes_rel hr0 (flat s.rs) (mutIds s.ks 0) [] (flat vsr) vl2 o1 nb m ho1 h3 (fun b h1 h2 => hp.free b h1 (by omega))
        obtain ⟨rfl, hM1, hM2⟩ := muts_rel s.ks 0 (leaves args) l' hpl a lk _ o1 o' out us hAR ho2 hpm
        refine ⟨_, ?_, leave_post hp hE hAR hus h8 h1000 hr0 hR hM1 hM2 (v := if h : us1.toArray.size = 1 then us1.toArray[0] else .tuple us1.toArray) fun R2 h5 => asRes_rel (h4 R2 m2 wC _ h5)⟩
        unfold results
        rw [Array.mapM_eq_mapM_toList]
        rw [← bind_pure_comp]
        simp only [Sem.run_bind]
        erw [h1]
        rfl
      · cases hk
    · cases hk
  cases e with
  | normal => exact main hk
  | ret => exact main hk
  | exit id => cases hk

end
end Go.Rex
/- Rex: the table of a program's types, checked. -/
namespace Go.Rex

def zv : AV0 → Value → Bool
  | .int k x, .int j y => decide (j = k) && decide (x = y)
  | .bool a, .bool b => a == b
  | .str s, .string u => s.data.isEmpty && u.data.isEmpty
  | .flt k x, .float j y => decide (j = k) && decide (x = (y : Int))
  | .nils, .slice none 0 0 => true
  | _, _ => false

def zvs : List AV0 → List Value → Bool
  | [], [] => true
  | x :: l, v :: s => zv x v && zvs l s
  | _, _ => false

def ze : (t : Ty) → List Value → Option (List Value)
  | .int k, l => match l with
    | .int j y :: r => if j = k ∧ y = 0 then some r else none
    | _ => none
  | .bool, l => match l with
    | .bool b :: r => if b = false then some r else none
    | _ => none
  | .str, l => match l with
    | .string u :: r => if u.data.isEmpty then some r else none
    | _ => none
  | .unit, l => some l
  | .flt k, l => match l with
    | .float j y :: r => if j = k ∧ y = 0 then some r else none
    | _ => none
  | .pair a b, l => match ze a l with
    | some r => ze b r
    | none => none
  | .sl _, l => match l with
    | .slice none 0 0 :: r => some r
    | _ => none

def tdB (P : Program) (t : TypeId) : TD → Bool
  | .int k => match P.underlying t with
    | some (.int j) => decide (j = k)
    | _ => false
  | .bool => match P.underlying t with
    | some .bool => true
    | _ => false
  | .str => match P.underlying t with
    | some .string => true
    | _ => false
  | .flt k => match P.underlying t with
    | some (.float j) => decide (j = k)
    | _ => false
  | .slice e => match P.underlying t with
    | some (.slice e') => decide (e' = e)
    | _ => false
  | .struct fs => match P.underlying t with
    | some (.struct fields) => decide (fields.toList.map (fun f => (f.offset, P.cellsOf f.type, aggOf P f.type)) = fs) && fields.toList.all fun f => (P.info? f.type).isSome && (P.underlying f.type).isSome
    | _ => false
  | .array n e => match P.underlying t with
    | some (.array n' e') => decide (n' = n) && decide (e' = e)
    | _ => false
  | .other => true

def tiB (P : Program) (t : TypeId) (ti : TI) : Bool :=
  match P.info? t with
  | some info => decide (info.size = ti.size) && decide (info.bytes = ti.bytes) && (P.underlying t).isSome && tdB P t ti.d && decide (aggOf P t = ti.agg) &&
    match info.zero with
    | some z => zvs ti.zero z.cells.toList && (match ze ti.ty z.cells.toList with
      | some [] => true
      | _ => false)
    | none => false
  | none => false

theorem bytes_eq {s u : ByteArray} (h : s.data.isEmpty = true) (h' : u.data.isEmpty = true) : s = u := by
  obtain ⟨a⟩ := s
  obtain ⟨b⟩ := u
  simp only [Array.isEmpty_iff] at h h'
  subst h; subst h'; rfl

theorem zv_ok {R : Nat → Prop} {m : Map} {w : World} {x : AV0} {v : Value} (h : zv x v = true) : VRel R m w x v := by
  unfold zv at h
  split at h
  · simp only [Bool.and_eq_true, decide_eq_true_eq] at h
    obtain ⟨rfl, rfl⟩ := h; rfl
  · simp only [beq_iff_eq] at h
    subst h; rfl
  · simp only [Bool.and_eq_true] at h
    rw [bytes_eq h.1 h.2]; rfl
  · simp only [Bool.and_eq_true, decide_eq_true_eq] at h
    obtain ⟨rfl, rfl⟩ := h; exact ⟨_, rfl, FRel.bits _ _⟩
  · rfl
  · cases h

theorem zvs_ok {R : Nat → Prop} {m : Map} {w : World} : ∀ {l : List AV0} {s : List Value}, zvs l s = true → CRel R m w l s
  | [], [], _ => trivial
  | x :: l, v :: s, h => by
    simp only [zvs, Bool.and_eq_true] at h
    exact ⟨zv_ok h.1, zvs_ok h.2⟩
  | [], _ :: _, h => by simp [zvs] at h
  | _ :: _, [], h => by simp [zvs] at h

theorem ze_ok {R : Nat → Prop} {w : World} : ∀ {t : Ty} {l r : List Value}, ze t l = some r → ∃ l1, l = l1 ++ r ∧ Enc R w t t.zero l1
  | .int k, l, r, h => by
    unfold ze at h
    split at h
    · split at h
      · rename_i hk
        cases h
        obtain ⟨rfl, rfl⟩ := hk
        exact ⟨[_], rfl, rfl⟩
      · cases h
    · cases h
  | .bool, l, r, h => by
    unfold ze at h
    split at h
    · split at h
      · rename_i hk
        cases h
        subst hk
        exact ⟨[_], rfl, rfl⟩
      · cases h
    · cases h
  | .str, l, r, h => by
    unfold ze at h
    split at h
    · split at h
      · rename_i hk
        cases h
        refine ⟨[_], rfl, ?_⟩
        show _ = [Value.string ByteArray.empty]
        rw [bytes_eq (u := ByteArray.empty) hk rfl]
      · cases h
    · cases h
  | .unit, l, r, h => by
    unfold ze at h
    cases h
    exact ⟨[], rfl, rfl⟩
  | .flt k, l, r, h => by
    unfold ze at h
    split at h
    · split at h
      · rename_i hk
        cases h
        obtain ⟨rfl, rfl⟩ := hk
        exact ⟨[_], rfl, _, rfl, FRel.bits _ _⟩
      · cases h
    · cases h
  | .pair a b, l, r, h => by
    unfold ze at h
    split at h
    · rename_i r1 h1
      obtain ⟨l1, rfl, e1⟩ := ze_ok (R := R) (w := w) h1
      obtain ⟨l2, rfl, e2⟩ := ze_ok (R := R) (w := w) h
      exact ⟨l1 ++ l2, by simp, l1, l2, rfl, e1, e2⟩
    · cases h
  | .sl t, l, r, h => by
    unfold ze at h
    split at h
    · cases h
      exact ⟨[_], rfl, none, 0, rfl, Nat.le_refl _, fun h => absurd rfl h⟩
    · cases h

theorem tdB_ok {P : Program} {t : TypeId} {d : TD} (h : tdB P t d = true) : tdOk P t d := by
  cases d with
  | int k =>
    simp only [tdB] at h
    split at h
    · rename_i hu
      rw [of_decide_eq_true h] at hu; exact hu
    · cases h
  | bool =>
    simp only [tdB] at h
    split at h
    · assumption
    · cases h
  | str =>
    simp only [tdB] at h
    split at h
    · assumption
    · cases h
  | flt k =>
    simp only [tdB] at h
    split at h
    · rename_i hu
      rw [of_decide_eq_true h] at hu; exact hu
    · cases h
  | slice e =>
    simp only [tdB] at h
    split at h
    · rename_i hu
      rw [of_decide_eq_true h] at hu; exact hu
    · cases h
  | struct fs =>
    simp only [tdB] at h
    split at h
    · rename_i fields hu
      simp only [Bool.and_eq_true, decide_eq_true_eq] at h
      refine ⟨fields, hu, h.1, fun i f hi => ?_⟩
      have := List.all_eq_true.1 h.2 f (by
        rw [← Array.getElem?_toList] at hi
        exact List.mem_of_getElem? hi)
      simpa using this
    · cases h
  | array n e =>
    simp only [tdB] at h
    split at h
    · rename_i hu
      simp only [Bool.and_eq_true, decide_eq_true_eq] at h
      rw [h.1, h.2] at hu; exact hu
    · cases h
  | other => trivial

theorem tiB_ok {P : Program} {t : TypeId} {ti : TI} (h : tiB P t ti = true) : TOk P t ti := by
  unfold tiB at h
  split at h
  · rename_i info hi
    simp only [Bool.and_eq_true, decide_eq_true_eq] at h
    obtain ⟨⟨⟨⟨⟨h1, h2⟩, h3⟩, h4⟩, h5⟩, h6⟩ := h
    split at h6
    · rename_i z hz
      simp only [Bool.and_eq_true] at h6
      refine ⟨info, hi, h1, h2, h3, tdB_ok h4, h5, z, hz, fun R m w => zvs_ok h6.1, fun R w _ => ?_⟩
      have h7 := h6.2
      split at h7
      · rename_i he
        obtain ⟨l1, e, h8⟩ := ze_ok (R := R) (w := w) he
        rw [e, List.append_nil]; exact h8
      · cases h7
    · cases h6
  · cases h

theorem tab_ok {P : Program} {C : Ctx} (h : (C.T.all fun p => tiB P p.1 p.2) = true) : TabOk P C := by
  intro t ti hg
  have key : ∀ l : List (Nat × TI), (l.all fun p => tiB P p.1 p.2) = true → get t l = some ti → TOk P t ti := by
    intro l
    induction l with
    | nil => intro _ h; cases h
    | cons p l ih =>
      obtain ⟨c, x⟩ := p
      intro h1 h2
      simp only [List.all_cons, Bool.and_eq_true] at h1
      simp only [get] at h2
      split at h2
      · rename_i e; subst e; cases h2; exact tiB_ok h1.1
      · exact ih h1.2 h2
  exact key _ h hg

end Go.Rex
/- Rex: functions without a body, of plain values alone: a contract from what the model's entry answers. -/
namespace Go.Rex

def scal : AK → Bool
  | .int _ | .bool | .str => true
  | _ => false

/-- A function's answer at the model's values. -/
def appS {O : Type} : (ks : List AK) → ArgsTo ks (Option O) → List Value → Option O
  | [], F, [] => F
  | .int k :: ks, F, .int j x :: r => if j = k then appS ks (F x) r else none
  | .bool :: ks, F, .bool b :: r => appS ks (F b) r
  | .str :: ks, F, .string s :: r => appS ks (F s) r
  | _, _, _ => none

section
variable {P : Program} {gl : List (Nat × AV0)} {look : Look} {R : Nat → Prop} {m : Map} {w : World}

theorem appS_ok {O : Type} : ∀ (ks : List AK) (F : ArgsTo ks (Option O)) (l : List AV0) (acc : Used) (out : O) (a : Used) (vl : List Value), ks.all scal = true → applyArgs look ks F l acc = some (some out, a) → CRel R m w l vl → a = acc ∧ appS ks F vl = some out
  | [], F, [], acc, out, a, [], _, h, _ => by
    simp only [applyArgs, Option.some.injEq, Prod.mk.injEq] at h
    exact ⟨h.2.symm, h.1⟩
  | [], F, [], acc, out, a, _ :: _, _, h, hc => hc.elim
  | [], F, _ :: _, acc, out, a, _, _, h, _ => by simp [applyArgs] at h
  | k :: ks, F, [], acc, out, a, _, _, h, _ => by cases k <;> simp [applyArgs] at h
  | k :: ks, F, x :: l, acc, out, a, [], _, h, hc => hc.elim
  | k :: ks, F, x :: l, acc, out, a, v :: vl, hs, h, hc => by
    simp only [List.all_cons, Bool.and_eq_true] at hs
    cases k with
    | int k =>
      cases x <;> simp only [applyArgs] at h <;> first | (cases h; done) | skip
      split at h
      · rename_i j n hj
        subst hj
        have hv : v = .int j n := hc.1
        subst hv
        obtain ⟨h1, h2⟩ := appS_ok ks (F n) l acc out a vl hs.2 h hc.2
        exact ⟨h1, by simp only [appS, if_true]; exact h2⟩
      · cases h
    | bool =>
      cases x <;> simp only [applyArgs] at h <;> first | (cases h; done) | skip
      rename_i b
      have hv : v = .bool b := hc.1
      subst hv
      obtain ⟨h1, h2⟩ := appS_ok ks (F b) l acc out a vl hs.2 h hc.2
      exact ⟨h1, by simp only [appS]; exact h2⟩
    | str =>
      cases x <;> simp only [applyArgs] at h <;> first | (cases h; done) | skip
      rename_i s
      have hv : v = .string s := hc.1
      subst hv
      obtain ⟨h1, h2⟩ := appS_ok ks (F s) l acc out a vl hs.2 h hc.2
      exact ⟨h1, by simp only [appS]; exact h2⟩
    | ro _ => simp [scal] at hs
    | mu _ => simp [scal] at hs
    | own _ => simp [scal] at hs
    | pt _ => simp [scal] at hs
    | fn _ => simp [scal] at hs
    | flt _ => simp [scal] at hs
    | rm _ => simp [scal] at hs

theorem singles_rel : ∀ (ps : List (Bool × List AK)) (args : List AV) (vs : List Value), shapeOk ps args = true → ps.all (fun p => !p.1) = true → vs.length = args.length → (∀ (i : Nat) x, args[i]? = some x → ∃ v, vs[i]? = some v ∧ AVRel R m w x v) → CRel R m w (leaves args) vs
  | [], [], vs, _, _, hl, _ => by
    obtain rfl := List.length_eq_zero_iff.1 hl
    trivial
  | [], _ :: _, vs, h, _, _, _ => by simp [shapeOk] at h
  | _ :: _, [], vs, h, _, _, _ => by simp [shapeOk] at h
  | _ :: _, .tup _ :: args, vs, h, _, _, _ => by simp [shapeOk] at h
  | (g, l) :: ps, .v (g', cs) :: args, vs, h, h1, hl, hr => by
    cases vs with
    | nil => simp at hl
    | cons v vs =>
      simp only [shapeOk, Bool.and_eq_true, beq_iff_eq] at h
      obtain ⟨⟨rfl, _⟩, h⟩ := h
      simp only [List.all_cons, Bool.and_eq_true, Bool.not_eq_true'] at h1
      obtain ⟨rfl, h1⟩ := h1
      have h2 := singles_rel ps args vs h h1 (by simpa using hl) fun i x hi => by simpa using hr (i + 1) x (by simpa using hi)
      obtain ⟨v', e, hv⟩ := hr 0 _ rfl
      cases e
      match cs, hv with
      | [x], h3 => exact ⟨h3, h2⟩

theorem prim_ok {g : FuncId} {s : Sig} {F : Nat → ArgsTo s.ks (Option s.Out)} (hs : s.ks.all scal = true) (h1 : s.ps.all (fun p => !p.1) = true) (hal : s.aliases = false)
    (h : ∀ fuel vs out, appS s.ks (F fuel) vs = some out → ∃ v, (∀ w, (callFunc g vs.toArray).run P w = .ok (.value v) w) ∧
      ∀ look l us o' nb, putMuts look s.ks l ((flat s.rs).map RK.den) out = some (us, o') → us = [] ∧ (putRes (flat s.rs) o' nb).2 = [] ∧ ∀ R m w, AVRel R m w (asRes (group s.rs (putRes (flat s.rs) o' nb).1)) v) : SpecOk P gl g ⟨s, F⟩ := by
  intro fuel look nb args out a us o' hsh hap hus hpm m R w vs hp hsize hargs
  have hc := singles_rel s.ps args vs.toList hsh h1 (by simpa using hsize) (fun i x hx => by simpa using hargs i x hx)
  obtain ⟨rfl, h2⟩ := appS_ok s.ks (F fuel) (leaves args) ⟨[], [], []⟩ out a vs.toList hs hap hc
  obtain ⟨v, hrun, hv⟩ := h fuel vs.toList out h2
  obtain ⟨rfl, h3, h4⟩ := hv look (leaves args) us o' nb hpm
  unfold CallOut
  have := hrun w
  rw [Array.toArray_toList] at this
  rw [this]
  refine ⟨m, R, ?_⟩
  have e : callEff s nb ⟨[], [], []⟩ [] o' = ⟨asRes (group s.rs (putRes (flat s.rs) o' nb).1), []⟩ := by
    unfold callEff
    rw [h3, hal]; rfl
  rw [e]
  exact Post.value (h4 R m w)

end
end Go.Rex
/- Rex: math/bits.Add64 and Sub64, which have no body: their contracts. -/
namespace Go.Rex

def sg332 : Sig := ⟨[(false, [.int .u64]), (false, [.int .u64]), (false, [.int .u64])], [(false, [.int .u64]), (false, [.int .u64])]⟩

def add64F (_ : Nat) (x y c : Int) : Option (Int × Int) :=
  if 0 ≤ x ∧ 0 ≤ y ∧ 0 ≤ c ∧ c ≤ 1 then some ((x + y + c) % 18446744073709551616, (x + y + c) / 18446744073709551616) else none
def sub64F (_ : Nat) (x y c : Int) : Option (Int × Int) :=
  if 0 ≤ x ∧ 0 ≤ y ∧ y < 18446744073709551616 ∧ 0 ≤ c ∧ c ≤ 1 then some ((x - y - c) % 18446744073709551616, if x < y + c then 1 else 0) else none

def sub64E : Array Value → Sem Value := fun args => do
  let (x, y, b) ← Extern.MathBitsCarry.three "Sub64" args
  pure (Extern.MathBitsCarry.pair ((x + Extern.MathBitsCarry.m64 - y - b) % Extern.MathBitsCarry.m64) (if x < y + b then 1 else 0))

section
variable {P : Program} {gl : List (Nat × AV0)} {g : FuncId} {fn : Func}

theorem run_sub64 (x y b : Int) (hx : 0 ≤ x) (hy0 : 0 ≤ y) (hy : y < 18446744073709551616) (hb0 : 0 ≤ b) (hb : b ≤ 1) (w : World) :
    (sub64E #[.int .u64 x, .int .u64 y, .int .u64 b]).run P w =
      .ok (.tuple #[.int .u64 ((x - y - b) % 18446744073709551616), .int .u64 (if x < y + b then 1 else 0)]) w := by
  obtain ⟨x, rfl⟩ := Int.eq_ofNat_of_zero_le hx
  obtain ⟨y, rfl⟩ := Int.eq_ofNat_of_zero_le hy0
  obtain ⟨b, rfl⟩ := Int.eq_ofNat_of_zero_le hb0
  have e1 : (((x + 18446744073709551616 - y - b) % 18446744073709551616 : Nat) : Int) = ((x : Int) - y - b) % 18446744073709551616 := by omega
  have e2 : ((if x < y + b then 1 else 0 : Nat) : Int) = if (x : Int) < y + b then 1 else 0 := by split <;> split <;> omega
  rw [← e1, ← e2]
  have : b = 0 ∨ b = 1 := by omega
  rcases this with rfl | rfl <;> rfl

theorem appS_int {O : Type} {k : IntKind} {ks : List AK} {F : ArgsTo (.int k :: ks) (Option O)} {vs : List Value} {out : O} (h : appS (.int k :: ks) F vs = some out) : ∃ x r, vs = .int k x :: r ∧ appS ks (F x) r = some out := by
  cases vs with
  | nil => simp [appS] at h
  | cons v r =>
    cases v <;> simp only [appS] at h <;> first | (cases h; done) | skip
    split at h
    · rename_i e; subst e; exact ⟨_, _, rfl, h⟩
    · cases h

theorem appS_nil {O : Type} {F : Option O} {vs : List Value} {out : O} (h : appS (O := O) [] F vs = some out) : vs = [] ∧ F = some out := by
  cases vs with
  | nil => exact ⟨rfl, h⟩
  | cons v r => simp [appS] at h

theorem puts_int {look : Look} {k : IntKind} {ks : List AK} {l : List AV0} {rest : List Type} {out : Outs (muts ks ++ rest)} {p : List (Nat × Option Blk) × Outs rest} (h : putMuts look (.int k :: ks) l rest out = some p) : ∃ x r, l = x :: r ∧ putMuts look ks r rest out = some p := by
  cases l with
  | nil => simp [putMuts] at h
  | cons x r => exact ⟨x, r, rfl, by simpa only [putMuts] using h⟩

/-- Three words to two. -/
theorem prim332 {F : Nat → Int → Int → Int → Option (Int × Int)} (h : ∀ k x y c a b, F k x y c = some (a, b) → ∀ w, (callFunc g #[.int .u64 x, .int .u64 y, .int .u64 c]).run P w = .ok (.value (.tuple #[.int .u64 a, .int .u64 b])) w) : SpecOk P gl g ⟨sg332, F⟩ := by
  refine prim_ok (s := sg332) rfl rfl rfl fun fuel vs out ho => ?_
  obtain ⟨x, r, rfl, h1⟩ := appS_int (k := .u64) (ks := [.int .u64, .int .u64]) ho
  obtain ⟨y, r, rfl, h2⟩ := appS_int (k := .u64) (ks := [.int .u64]) h1
  obtain ⟨c, r, rfl, h3⟩ := appS_int (k := .u64) (ks := []) h2
  obtain ⟨rfl, h4⟩ := appS_nil h3
  obtain ⟨a, b⟩ := out
  refine ⟨_, h fuel x y c a b h4, fun look l us o' nb hp => ?_⟩
  obtain ⟨_, l, rfl, hp⟩ := puts_int (k := .u64) (ks := [.int .u64, .int .u64]) hp
  obtain ⟨_, l, rfl, hp⟩ := puts_int (k := .u64) (ks := [.int .u64]) hp
  obtain ⟨_, l, rfl, hp⟩ := puts_int (k := .u64) (ks := []) hp
  cases hp
  exact ⟨rfl, rfl, fun R m w => ⟨_, rfl, rfl, rfl, trivial⟩⟩

theorem add64_ok (hf : P.funcs[g]? = some fn) (h1 : (fn.name == "runtime.NumGoroutine") = false) (h2 : fn.body.isNone = true) (h3 : Extern.findNext fn = none) (h4 : Extern.find fn = some add64Entry) : SpecOk P gl g ⟨sg332, add64F⟩ := by
  refine prim332 fun k x y c a b h w => ?_
  unfold add64F at h
  split at h
  · rename_i hc
    simp only [Option.some.injEq, Prod.mk.injEq] at h
    obtain ⟨rfl, rfl⟩ := h
    rw [run_callFunc_extern hf h1 h2 h3 h4, run_add64 x y c hc.1 hc.2.1 hc.2.2.1 hc.2.2.2]
    rfl
  · cases h

theorem sub64_ok (hf : P.funcs[g]? = some fn) (h1 : (fn.name == "runtime.NumGoroutine") = false) (h2 : fn.body.isNone = true) (h3 : Extern.findNext fn = none) (h4 : Extern.find fn = some sub64E) : SpecOk P gl g ⟨sg332, sub64F⟩ := by
  refine prim332 fun k x y c a b h w => ?_
  unfold sub64F at h
  split at h
  · rename_i hc
    simp only [Option.some.injEq, Prod.mk.injEq] at h
    obtain ⟨rfl, rfl⟩ := h
    rw [run_callFunc_extern hf h1 h2 h3 h4, run_sub64 x y c hc.1 hc.2.1 hc.2.2.1 hc.2.2.2.1 hc.2.2.2.2]
    rfl
  · cases h

end
end Go.Rex
/- Rex: math.Float64bits and its kin, which have no body: their contracts. -/
namespace Go.Rex

def sgFB (k : FloatKind) (u : IntKind) : Sig := ⟨[(false, [.flt k])], [(false, [.int u])]⟩
def sgBF (u : IntKind) (k : FloatKind) : Sig := ⟨[(false, [.int u])], [(false, [.flt k])]⟩
def fbitsF (_ : Nat) (x : Int) : Option Int := if 0 ≤ x then some x else none
def fofF (_ : Nat) (x : Int) : Option Int := some (fOf x)

section
variable {P : Program} {gl : List (Nat × AV0)} {g : FuncId} {fn : Func}

theorem primFB {k : FloatKind} {u : IntKind} (h : ∀ (b : Nat) w, (callFunc g #[.float k b]).run P w = .ok (.value (.int u (b : Int))) w) : SpecOk P gl g ⟨sgFB k u, fbitsF⟩ := by
  intro fuel look nb args out a us o' hsh hap hus hpm m R w vs hp hsize hargs
  have hc := singles_rel (sgFB k u).ps args vs.toList hsh rfl (by simpa using hsize) (fun i x hx => by simpa using hargs i x hx)
  generalize leaves args = l at *
  change applyArgs look [.flt k] (fbitsF fuel) l ⟨[], [], []⟩ = _ at hap
  change putMuts look [.flt k] l [Int] out = _ at hpm
  cases l with
  | nil => simp [applyArgs] at hap
  | cons x l =>
    cases x <;> simp only [applyArgs] at hap <;> first | (cases hap; done) | skip
    split at hap
    · rename_i j n hj
      subst hj
      cases l with
      | cons _ _ => simp [applyArgs] at hap
      | nil =>
        have e1 : some (fbitsF fuel n, (⟨[], [], []⟩ : Used)) = some (some out, a) := hap
        injection e1 with e1
        injection e1 with e2 e3
        subst e3
        have e4 : some (([] : List (Nat × Option Blk)), out) = some (us, o') := hpm
        cases e4
        cases hv : vs.toList with
        | nil => rw [hv] at hc; exact hc.elim
        | cons v r =>
          rw [hv] at hc
          cases r with
          | cons _ _ => exact hc.2.elim
          | nil =>
            obtain ⟨b, e, hb⟩ := hc.1
            subst e
            have hvs : vs = #[.float j b] := by rw [← Array.toArray_toList (xs := vs), hv]
            subst hvs
            unfold fbitsF at e2
            split at e2
            · rename_i h0
              cases e2
              unfold CallOut
              rw [h b w]
              have := hb.1 h0
              subst this
              exact ⟨m, R, Post.value (x := .v (false, [.int u (b : Int)])) rfl⟩
            · cases e2
    · cases hap

theorem primBF {k : FloatKind} {u : IntKind} (h : ∀ (x : Int) w, (callFunc g #[.int u x]).run P w = .ok (.value (.float k x.toNat)) w) : SpecOk P gl g ⟨sgBF u k, fofF⟩ := by
  intro fuel look nb args out a us o' hsh hap hus hpm m R w vs hp hsize hargs
  have hc := singles_rel (sgBF u k).ps args vs.toList hsh rfl (by simpa using hsize) (fun i x hx => by simpa using hargs i x hx)
  generalize leaves args = l at *
  change applyArgs look [.int u] (fofF fuel) l ⟨[], [], []⟩ = _ at hap
  change putMuts look [.int u] l [Int] out = _ at hpm
  cases l with
  | nil => simp [applyArgs] at hap
  | cons x l =>
    cases x <;> simp only [applyArgs] at hap <;> first | (cases hap; done) | skip
    split at hap
    · rename_i j n hj
      subst hj
      cases l with
      | cons _ _ => simp [applyArgs] at hap
      | nil =>
        have e1 : some (fofF fuel n, (⟨[], [], []⟩ : Used)) = some (some out, a) := hap
        injection e1 with e1
        injection e1 with e2 e3
        subst e3
        have e4 : some (([] : List (Nat × Option Blk)), out) = some (us, o') := hpm
        cases e4
        cases hv : vs.toList with
        | nil => rw [hv] at hc; exact hc.elim
        | cons v r =>
          rw [hv] at hc
          cases r with
          | cons _ _ => exact hc.2.elim
          | nil =>
            have e : v = .int j n := hc.1
            subst e
            have hvs : vs = #[.int j n] := by rw [← Array.toArray_toList (xs := vs), hv]
            subst hvs
            cases e2
            unfold CallOut
            rw [h n w]
            exact ⟨m, R, Post.value (x := .v (false, [.flt k (fOf n)])) ⟨n.toNat, rfl, FRel.bits k n.toNat⟩⟩
    · cases hap

theorem f64bits_ok (hf : P.funcs[g]? = some fn) (h1 : (fn.name == "runtime.NumGoroutine") = false) (h2 : fn.body.isNone = true) (h3 : Extern.findNext fn = none) (h4 : Extern.find fn = some Extern.MathFloatBits.float64bits) : SpecOk P gl g ⟨sgFB .f64 .u64, fbitsF⟩ :=
  primFB fun b w => by rw [run_callFunc_extern hf h1 h2 h3 h4]; rfl
theorem f32bits_ok (hf : P.funcs[g]? = some fn) (h1 : (fn.name == "runtime.NumGoroutine") = false) (h2 : fn.body.isNone = true) (h3 : Extern.findNext fn = none) (h4 : Extern.find fn = some Extern.MathFloatBits.float32bits) : SpecOk P gl g ⟨sgFB .f32 .u32, fbitsF⟩ :=
  primFB fun b w => by rw [run_callFunc_extern hf h1 h2 h3 h4]; rfl
theorem f64of_ok (hf : P.funcs[g]? = some fn) (h1 : (fn.name == "runtime.NumGoroutine") = false) (h2 : fn.body.isNone = true) (h3 : Extern.findNext fn = none) (h4 : Extern.find fn = some Extern.MathFloatBits.float64frombits) : SpecOk P gl g ⟨sgBF .u64 .f64, fofF⟩ :=
  primBF fun x w => by rw [run_callFunc_extern hf h1 h2 h3 h4]; rfl
theorem f32of_ok (hf : P.funcs[g]? = some fn) (h1 : (fn.name == "runtime.NumGoroutine") = false) (h2 : fn.body.isNone = true) (h3 : Extern.findNext fn = none) (h4 : Extern.find fn = some Extern.MathFloatBits.float32frombits) : SpecOk P gl g ⟨sgBF .u32 .f32, fofF⟩ :=
  primBF fun x w => by rw [run_callFunc_extern hf h1 h2 h3 h4]; rfl

end
end Go.Rex
/- Rex: what a seat's printed texts lean on. -/
namespace Go.Rex

/-- A state, told by what is in it. -/
def st0 (l : List (Nat × AV)) (hp : List (Nat × Blk)) (nx n : Nat) : St := ⟨l.foldl (fun tm p => setNth tm p.1 p.2) (List.replicate n .un), hp, nx⟩

def glB (gl : List (Nat × AV0)) : Bool := gl.all fun p => (ids0 p.2).isEmpty

section
variable {P : Program}

theorem gl_ok {gl : List (Nat × AV0)} (h : glB gl = true) : ∀ g x, get g gl = some x → ids0 x = [] := by
  intro g x
  unfold glB at h
  induction gl with
  | nil => intro h; cases h
  | cons p l ih =>
    obtain ⟨c, y⟩ := p
    simp only [List.all_cons, Bool.and_eq_true] at h
    intro h1
    simp only [get] at h1
    split at h1
    · cases h1; simpa using h.1
    · exact ih h.2 h1

abbrev SpecsOk (P : Program) (gl : List (Nat × AV0)) (F : List (Nat × Spec)) : Prop := ∀ g s, s ∈ gets g F → SpecOk P gl g s

theorem specs_nil {gl : List (Nat × AV0)} : SpecsOk P gl [] := fun _ _ h => by cases h

theorem specs_cons {gl : List (Nat × AV0)} {g : Nat} {s : Spec} {F : List (Nat × Spec)} (h : SpecOk P gl g s) (hr : SpecsOk P gl F) : SpecsOk P gl ((g, s) :: F) := by
  intro g' s' hg
  simp only [gets] at hg
  split at hg
  · rename_i e
    subst e
    cases hg with
    | head => exact h
    | tail _ hg => exact hr _ s' hg
  · exact hr g' s' hg

theorem ctx_ok {T : List (Nat × TI)} {F : List (Nat × Spec)} {gl : List (Nat × AV0)} (hm : P.follows .mixedOrders = true) (ht : (T.all fun p => tiB P p.1 p.2) = true) (hg : glB gl = true) (hF : SpecsOk P gl F) : CtxOk P ⟨T, F, gl⟩ :=
  ⟨hm, tab_ok (C := ⟨T, F, gl⟩) ht, gl_ok hg, hF⟩

theorem fn_ok' {C : Ctx} {g : FuncId} {fn : Func} {c : Code} {s : Sig} (hC : CtxOk P C) (hf : P.funcs[g]? = some fn) (hbody : fn.body = some c)
    (h : (!(fn.name == "runtime.NumGoroutine") && (Nat.ble (frs (flat s.rs)) 8 && (Nat.ble s.ks.length 1000 && Nat.ble s.ps.length fn.ntmps))) = true) (hh : H) : SpecOk P C.gl g ⟨s, vxFun C fn hh s⟩ := by
  simp only [Bool.and_eq_true, Bool.not_eq_true', beq_eq_false_iff_ne, Nat.ble_eq] at h
  exact fn_ok hC hf hbody h.1 hh s h.2.1 h.2.2.1 h.2.2.2

/-- All told: nothing is left for the elaborator to find. -/
theorem fn_ok2 (C : Ctx) (g : FuncId) (fn : Func) (s : Sig) (hh : H) (hC : CtxOk P C) (hf : P.funcs[g]? = some fn)
    (h : ((fn.body.isSome && !(fn.name == "runtime.NumGoroutine")) && (Nat.ble (frs (flat s.rs)) 8 && (Nat.ble s.ks.length 1000 && Nat.ble s.ps.length fn.ntmps))) = true) : SpecOk P C.gl g ⟨s, vxFun C fn hh s⟩ := by
  simp only [Bool.and_eq_true] at h
  obtain ⟨⟨h1, h2⟩, h3, h4, h5⟩ := h
  obtain ⟨c, hc⟩ := Option.isSome_iff_exists.1 h1
  exact fn_ok' hC hf hc (by simp only [Bool.and_eq_true]; exact ⟨h2, h3, h4, h5⟩) hh

end
end Go.Rex
/- Rex: what a row's reading tells of an argument: plain data of its kind, with the bounds that the reading has. -/
namespace Go.Rex

/-- Bytes of a value, at the least. -/
def minB : Ty → Nat
  | .int k => k.bits / 8
  | .bool => 1
  | .str => 16
  | .unit => 0
  | .pair a b => minB a + minB b
  | .sl _ => 24
  | .flt _ => 4

/-- What a reading says of a value. -/
def WFt : (t : Ty) → t.den → Prop
  | .int k, x => (Lit.int k x).wf = true
  | .bool, _ => True
  | .str, s => s.size ≤ 140737488351232
  | .unit, _ => True
  | .flt _, _ => False
  | .pair a b, x => WFt a x.1 ∧ WFt b x.2
  | .sl t, xs => xs.length * minB t ≤ 140737488351232 ∧ ∀ x ∈ xs, WFt t x

def fieldsB (P : Program) (f : Ty → TypeId → Bool) : List Field → Ty → Nat → Bool
  | [], .unit, _ => true
  | [g], ty, off => decide (g.offset = off) && decide (P.cellsOf g.type = ty.size) && f ty g.type
  | g :: h :: r, .pair a b, off => decide (g.offset = off) && decide (P.cellsOf g.type = a.size) && f a g.type && fieldsB P f (h :: r) b (off + a.size)
  | _, _, _ => false

/-- A type's values are of a kind. -/
def tyB (P : Program) : Nat → Ty → TypeId → Bool
  | 0, _, _ => false
  | n + 1, ty, t => match P.underlying t with
    | some (.int j) => match ty with
      | .int k => decide (j = k)
      | _ => false
    | some .bool => match ty with
      | .bool => true
      | _ => false
    | some .string => match ty with
      | .str => true
      | _ => false
    | some (.slice e) => match ty with
      | .sl u => decide (P.cellsOf e = u.size) && Nat.ble 1 u.size && Nat.ble (minB u) (P.bytesOf e) && tyB P n u e
      | _ => false
    | some (.struct fs) => fieldsB P (tyB P n) fs.toList ty 0 && decide (P.cellsOf t = ty.size)
    | _ => false

theorem choose_list {α : Type} {Q : Nat → α → Prop} : ∀ (n : Nat), (∀ i, i < n → ∃ d, Q i d) → ∃ ds : List α, ds.length = n ∧ ∀ (i : Nat) d, ds[i]? = some d → Q i d
  | 0, _ => ⟨[], rfl, fun i d h => by simp at h⟩
  | n + 1, h => by
    obtain ⟨ds, h1, h2⟩ := choose_list n fun i hi => h i (by omega)
    obtain ⟨d, hd⟩ := h n (by omega)
    refine ⟨ds ++ [d], by simp [h1], fun i x hx => ?_⟩
    rw [List.getElem?_append] at hx
    split at hx
    · exact h2 i x hx
    · rename_i hi
      rw [List.getElem?_singleton] at hx
      split at hx
      · cases hx
        have : i = n := by omega
        subst this; exact hd
      · cases hx

section
variable {H : Type} {enc : TypeId × Value → H} {P : Program} {w : World} {base : Nat} {sp : Nat → Bool} {held : Bool}

theorem fields_enc {R : Nat → Prop} {f : Ty → TypeId → Bool} {n : Nat} (hf : ∀ ty t cs x, f ty t = true → DataW.trod enc P w base sp held n t cs = some x → (∀ k ∈ DataW.weights P t x.1, k ≤ 140737488351232) → ∃ d : ty.den, Enc R w ty d cs ∧ WFt ty d) {cs : List Value} :
    ∀ (fs : List Field) (ty : Ty) (off : Nat) (xs : List (DataW H × List MemPlace)), fieldsB P f fs ty off = true → cs.length = off + ty.size → xs.length = fs.length →
      (∀ (i : Nat) (g : Field), fs[i]? = some g → DataW.trod enc P w base sp held n g.type ((cs.drop g.offset).take (P.cellsOf g.type)) = xs[i]?) →
      (∀ k ∈ DataW.weightsEach P (fs.map (·.type)) (xs.map (·.1)), k ≤ 140737488351232) → ∃ d : ty.den, Enc R w ty d (cs.drop off) ∧ WFt ty d := by
  intro fs
  induction fs with
  | nil =>
    intro ty off xs hb hl hx hg hw
    cases ty with
    | unit => exact ⟨(), by
        have : cs.drop off = [] := List.drop_eq_nil_of_le (by simp [Ty.size] at hl; omega)
        exact this, trivial⟩
    | _ => simp [fieldsB] at hb
  | cons g r ih =>
    intro ty off xs hb hl hx hg hw
    obtain ⟨x, xs', rfl⟩ : ∃ x xs', xs = x :: xs' := by
      cases xs with
      | nil => simp at hx
      | cons x xs' => exact ⟨x, xs', rfl⟩
    cases r with
    | nil =>
      have hb' : (decide (g.offset = off) && decide (P.cellsOf g.type = ty.size) && f ty g.type) = true := by
        cases ty <;> simpa [fieldsB] using hb
      simp only [Bool.and_eq_true, decide_eq_true_eq] at hb'
      obtain ⟨⟨h1, h2⟩, h3⟩ := hb'
      have h0 := hg 0 g rfl
      rw [h1, h2, List.take_of_length_le (by simp; omega)] at h0
      exact hf ty g.type _ x h3 (by simpa using h0) fun k hk => hw k (by simpa [DataW.weightsEach] using hk)
    | cons h r =>
      cases ty with
      | pair a b =>
        simp only [fieldsB, Bool.and_eq_true, decide_eq_true_eq] at hb
        obtain ⟨⟨⟨h1, h2⟩, h3⟩, h4⟩ := hb
        have h0 := hg 0 g rfl
        rw [h1, h2] at h0
        obtain ⟨d1, e1, w1⟩ := hf a g.type _ x h3 (by simpa using h0) fun k hk => hw k (by simp only [List.map_cons, DataW.weightsEach, List.mem_append]; exact .inl hk)
        obtain ⟨d2, e2, w2⟩ := ih b (off + a.size) xs' h4 (by simp [Ty.size] at hl; omega) (by simpa using hx) (fun i g' hi => by simpa using hg (i + 1) g' (by simpa using hi))
          fun k hk => hw k (by simp only [List.map_cons, DataW.weightsEach, List.mem_append]; exact .inr (by simpa using hk))
        refine ⟨(d1, d2), ⟨_, _, ?_, e1, e2⟩, w1, w2⟩
        rw [← List.drop_drop]; exact (List.take_append_drop _ _).symm
      | _ => simp [fieldsB] at hb

theorem weights_slice {e t : TypeId} {el re : List (DataW H)} (ht : P.underlying t = some (.slice e)) : DataW.weights P t (.slice el re) = (el.length + re.length) * P.bytesOf e :: (DataW.weightsAll P e el ++ DataW.weightsAll P e re) := by
  simp [DataW.weights, ht]

theorem weightsAll_mem {e : TypeId} {k : Nat} : ∀ {l : List (DataW H)} {d : DataW H}, d ∈ l → k ∈ DataW.weights P e d → k ∈ DataW.weightsAll P e l
  | [], _, h, _ => by cases h
  | x :: l, d, h, hk => by
    simp only [DataW.weightsAll, List.mem_append]
    cases h with
    | head => exact .inl hk
    | tail _ h => exact .inr (weightsAll_mem h hk)

theorem enc_of_trod : ∀ (n : Nat) (ty : Ty) (t : TypeId) (cs : List Value) (x : DataW H × List MemPlace) (fuel : Nat), tyB P n ty t = true → DataW.trod enc P w base sp held fuel t cs = some x →
    (∀ k ∈ DataW.weights P t x.1, k ≤ 140737488351232) → ∃ d : ty.den, Enc (fun k => k < w.heap.size) w ty d cs ∧ WFt ty d
  | 0, _, _, _, _, _, h, _, _ => by simp [tyB] at h
  | n + 1, ty, t, cs, x, fuel, hb, h, hw => by
    unfold tyB at hb
    split at hb
    · rename_i j ht
      split at hb
      · rename_i k
        simp only [decide_eq_true_eq] at hb
        subst hb
        obtain ⟨m, rfl, rfl, hm⟩ := DataW.trod_int ht h
        exact ⟨m, rfl, hm⟩
      · cases hb
    · rename_i ht
      split at hb
      · obtain ⟨b, rfl, rfl⟩ := DataW.trod_bool ht h
        exact ⟨b, rfl, trivial⟩
      · cases hb
    · rename_i ht
      split at hb
      · obtain ⟨s, rfl, rfl, hs⟩ := DataW.trod_string ht h
        exact ⟨s, rfl, by
          have := hw s.data.toList.length (by simp [DataW.weights])
          show s.size ≤ _
          simpa using this⟩
      · cases hb
    · rename_i e ht
      split at hb
      · rename_i u
        simp only [Bool.and_eq_true, decide_eq_true_eq, Nat.ble_eq] at hb
        obtain ⟨⟨⟨hsz, hpos⟩, hmin⟩, hu⟩ := hb
        rcases DataW.trod_slice ht h with ⟨rfl, rfl⟩ | ⟨a, len, cap, elems, rest, m, rfl, rfl, rfl, hbs, hl, hm, hlen, hel, _, _⟩
        · exact ⟨([] : List u.den), ⟨none, 0, rfl, Nat.le_refl _, fun h => absurd rfl h⟩, by simp, fun x hx => by cases hx⟩
        · rw [weights_slice ht] at hw
          obtain ⟨ds, h1, h2⟩ := choose_list (α := u.den) (Q := fun i d => WFt u d ∧ ∃ l, Enc (fun k => k < w.heap.size) w u d l ∧ w.cells? base (a.add (i * u.size)) u.size = some l) len fun i hi => by
            have hi' : i < elems.length := by omega
            have h3 := hel i hi
            rw [hsz, List.getElem?_eq_getElem hi', Option.bind_eq_some_iff] at h3
            obtain ⟨l, hl1, hl2⟩ := h3
            obtain ⟨d, hd1, hd2⟩ := enc_of_trod n u e l _ m hu hl2 fun k hk => hw k (by
              refine List.mem_cons_of_mem _ (List.mem_append_left _ (weightsAll_mem (d := elems[i].1) ?_ hk))
              exact List.mem_map.2 ⟨_, List.getElem_mem hi', rfl⟩)
            exact ⟨d, hd2, l, hd1, hl1⟩
          refine ⟨ds, ⟨some a, cap, by rw [h1], by omega, fun hne => ?_⟩, ?_, fun x hx => ?_⟩
          · obtain ⟨d0, r0, hd0⟩ : ∃ d r, ds = d :: r := by
              cases ds with
              | nil => exact absurd rfl hne
              | cons d r => exact ⟨d, r, rfl⟩
            obtain ⟨_, l0, _, hl0⟩ := h2 0 d0 (by rw [hd0]; rfl)
            have hs := (World.cells?_some hl0)
            have hc0 := hs.2.2 0 (by omega)
            have hc1 : w.cell? a = l0[0]? := by simpa [Addr.add] using hc0
            rw [List.getElem?_eq_getElem (by omega)] at hc1
            have hspot := World.cell?_spot hc1
            refine ⟨a, rfl, hspot, ?_, fun i x hi => ?_⟩
            · unfold World.cell? at hc1
              split at hc1
              · rename_i hh
                exact (Array.getElem?_eq_some_iff.1 hh).1
              · cases hc1
            · obtain ⟨_, l, hl1, hl2⟩ := h2 i x hi
              refine ⟨l, hl1, fun j v hv => ?_⟩
              have hs := World.cells?_some hl2
              have := hs.2.2 j (by rw [← hs.2.1]; exact (List.getElem?_eq_some_iff.1 hv).1)
              rw [hv, addr_add hspot, addr_add rfl] at this
              rw [← this, Nat.add_assoc]
          · have h3 := hw ((elems.length + rest.length) * P.bytesOf e) (by simp)
            rw [h1]
            refine Nat.le_trans ?_ h3
            rw [← hlen]
            exact Nat.mul_le_mul (by omega) hmin
          · obtain ⟨i, hi⟩ := List.getElem?_of_mem hx
            exact (h2 i x hi).1
      · cases hb
    · rename_i fs ht
      simp only [Bool.and_eq_true, decide_eq_true_eq] at hb
      obtain ⟨xs, m, rfl, rfl, hl, hxl, hf⟩ := DataW.trod_struct ht h
      have := fields_enc (n := m) (f := tyB P n) (fun ty t cs x h1 h2 h3 => enc_of_trod n ty t cs x m h1 h2 h3) (cs := cs) fs.toList ty 0 xs hb.1 (by omega) (by simpa using hxl) (fun i g hi => hf i g (by simpa using hi))
        (fun k hk => hw k (by simpa [DataW.weights, ht] using hk))
      simpa using this
    · cases hb
end
end Go.Rex
/- Rex: from a law's contract to the run that its row asks for. -/
namespace Go.Rex

section
variable {P : Program}

def ARs (R : Nat → Prop) (m : Map) (w : World) : List AV → List Value → Prop
  | [], [] => True
  | x :: l, v :: s => AVRel R m w x v ∧ ARs R m w l s
  | _, _ => False

theorem ARs.size {R : Nat → Prop} {m : Map} {w : World} : ∀ {l : List AV} {s : List Value}, ARs R m w l s → s.length = l.length
  | [], [], _ => rfl
  | _ :: _, _ :: _, h => by simp [h.2.size]
  | [], _ :: _, h => h.elim
  | _ :: _, [], h => h.elim
theorem ARs.get {R : Nat → Prop} {m : Map} {w : World} : ∀ {l : List AV} {s : List Value}, ARs R m w l s → ∀ (i : Nat) x, l[i]? = some x → ∃ v, s[i]? = some v ∧ AVRel R m w x v
  | [], [], _, _, _, h => by simp at h
  | _ :: _, v :: _, h, 0, _, hx => by simp at hx; subst hx; exact ⟨v, rfl, h.1⟩
  | _ :: _, _ :: _, h, i + 1, x, hx => by
    obtain ⟨u, hu, hv⟩ := h.2.get i x (by simpa using hx)
    exact ⟨u, by simpa using hu, hv⟩
  | [], _ :: _, h, _, _, _ => h.elim
  | _ :: _, [], h, _, _, _ => h.elim

def noLook : Look := fun _ => none
def noMap : Map := fun _ => none
def oldR (w : World) : Nat → Prop := fun k => k < w.heap.size

theorem arg_int {R : Nat → Prop} {m : Map} {w : World} (k : IntKind) (x : Int) : AVRel R m w (.one (.int k x)) (.int k x) := (rfl : Value.int k x = .int k x)
theorem arg_bool {R : Nat → Prop} {m : Map} {w : World} (x : Bool) : AVRel R m w (.one (.bool x)) (.bool x) := (rfl : Value.bool x = .bool x)
theorem arg_str {R : Nat → Prop} {m : Map} {w : World} (x : ByteArray) : AVRel R m w (.one (.str x)) (.string x) := (rfl : Value.string x = .string x)
theorem arg_ro {R : Nat → Prop} {m : Map} {w : World} {t : Ty} {xs : List t.den} {v : Value} (h : Enc R w (.sl t) xs [v]) : AVRel R m w (.one (.ro t xs)) v := h
theorem arg_agg {R : Nat → Prop} {m : Map} {w : World} {ty : Ty} {x : ty.den} {vs : Array Value} (h : Enc R w ty x vs.toList) : AVRel R m w (.v (true, cells ty x)) (.agg vs) := ⟨vs, rfl, cells_rel h⟩

theorem law_calls {gl : List (Nat × AV0)} {g : FuncId} {fn : Func} {c : Code} {s : Spec} (hs : SpecOk P gl g s) (hf : P.funcs[g]? = some fn) (hbody : fn.body = some c) (hn : fn.name ≠ "runtime.NumGoroutine")
    {args : List AV} {fuel : Nat} {out : s.sig.Out} {o' : Outs ((flat s.sig.rs).map RK.den)} {w : World} {vs : Array Value}
    (hsh : shapeOk s.sig.ps args = true) (hap : applyArgs noLook s.sig.ks (s.F fuel) (leaves args) ⟨[], [], []⟩ = some (some out, ⟨[], [], []⟩))
    (hpm : putMuts noLook s.sig.ks (leaves args) ((flat s.sig.rs).map RK.den) out = some ([], o')) (heff : callEff s.sig 0 ⟨[], [], []⟩ [] o' = ⟨.one (.bool true), []⟩)
    (hgl : ∀ g x, get g gl = some x → VRel (oldR w) noMap w x (.pointer (some ⟨g, 0, none⟩))) (hargs : ARs (oldR w) noMap w args vs.toList) :
    Calls P g vs w fun e w' => e = .returned (.bool true) ∧ RowKit.Below w.heap.size w w' := by
  have hpre : Pre gl noLook 0 noMap (oldR w) w :=
    ⟨fun _ _ h => (by cases h), fun _ _ _ => rfl, fun _ _ _ _ _ _ _ h => (by cases h), fun _ _ _ _ h => (by cases h), fun _ _ _ _ h => (by cases h), fun _ h => h, hgl⟩
  have h := hs fuel noLook 0 args out ⟨[], [], []⟩ [] o' hsh hap rfl hpm noMap (oldR w) w vs hpre (by simpa using hargs.size) fun i x hx => by simpa using hargs.get i x hx
  rw [heff] at h
  unfold CallOut at h
  rw [callFunc_run hf hbody hn] at h
  refine Calls.mono h fun e w' he => ?_
  cases e with
  | returned v =>
    obtain ⟨m', R', hp⟩ := he
    have hv : v = .bool true := hp.rel
    refine ⟨by rw [hv], (hp.keeps.mono fun k _ j ht => ?_).below⟩
    obtain ⟨b, B, L, h1, _⟩ := ht
    cases h1
  | _ => exact he.elim
theorem law_calls2 {gl : List (Nat × AV0)} {g : FuncId} {fn : Func} {c : Code} {sg : Sig} {F : Nat → ArgsTo sg.ks (Option sg.Out)} (hs : SpecOk P gl g ⟨sg, F⟩) (hf : P.funcs[g]? = some fn) (hbody : fn.body = some c) (hn : (fn.name == "runtime.NumGoroutine") = false)
    {args : List AV} {fuel : Nat} {out : sg.Out} {o' : Outs ((flat sg.rs).map RK.den)} {w : World} {vs : Array Value} {X : Option sg.Out}
    (hsh : shapeOk sg.ps args = true) (hap : applyArgs (O := sg.Out) noLook sg.ks (F fuel) (leaves args) ⟨[], [], []⟩ = some (X, ⟨[], [], []⟩)) (hX : X = some out)
    (hpm : putMuts noLook sg.ks (leaves args) ((flat sg.rs).map RK.den) out = some ([], o')) (heff : callEff sg 0 ⟨[], [], []⟩ [] o' = ⟨.one (.bool true), []⟩)
    (hgl : ∀ g x, get g gl = some x → VRel (oldR w) noMap w x (.pointer (some ⟨g, 0, none⟩))) (hargs : ARs (oldR w) noMap w args vs.toList) :
    Calls P g vs w fun e w' => e = .returned (.bool true) ∧ RowKit.Below w.heap.size w w' :=
  law_calls (s := ⟨sg, F⟩) hs hf hbody (by simpa using hn) hsh (by rw [hX] at hap; exact hap) hpm heff hgl hargs
end
end Go.Rex
/- Rex: package tables: what a row says that they hold, as plain lists. -/
namespace Go.Rex

def catL : List (Option (List Value)) → Option (List Value)
  | [] => some []
  | none :: _ => none
  | some l :: r => (catL r).map (l ++ ·)
/-- The cells that a datum without memory of its own stands for. -/
def litsOf {H : Type} : Nat → DataW H → Option (List Value)
  | 0, _ => none
  | _ + 1, .lit (.int k z) => some [.int k z]
  | _ + 1, .lit (.bool b) => some [.bool b]
  | n + 1, .agg ps => catL (ps.map (litsOf n))
  | _, _ => none
def contB (P : Program) (f : TypeId → Bool) : List Field → Nat → Nat → Bool
  | [], off, tot => off == tot
  | g :: r, off, tot => g.offset == off && f g.type && contB P f r (off + P.cellsOf g.type) tot
/-- A type of numbers alone. -/
def plainB (P : Program) : Nat → TypeId → Bool
  | 0, _ => false
  | n + 1, t => match P.underlying t with
    | some (.int _) => true
    | some .bool => true
    | some (.struct fs) => contB P (plainB P n) fs.toList 0 (P.cellsOf t)
    | some (.array m e) => plainB P n e && P.cellsOf t == m * P.cellsOf e
    | _ => false

section
variable {H : Type} {enc : TypeId × Value → H} {P : Program} {w : World} {base : Nat} {sp : Nat → Bool} {held : Bool}

theorem cont_lits {f : TypeId → Bool} {n m : Nat} (hf : ∀ t cs x, f t = true → DataW.trod enc P w base sp held m t cs = some x → litsOf n x.1 = some cs) {cs : List Value} : ∀ (fs : List Field) (off : Nat) (xs : List (DataW H × List MemPlace)),
    contB P f fs off cs.length = true → xs.length = fs.length → (∀ (i : Nat) (g : Field), fs[i]? = some g → DataW.trod enc P w base sp held m g.type ((cs.drop g.offset).take (P.cellsOf g.type)) = xs[i]?) → catL ((xs.map (·.1)).map (litsOf n)) = some (cs.drop off) := by
  intro fs
  induction fs with
  | nil =>
    intro off xs hb hx _
    simp only [contB, beq_iff_eq] at hb
    have : xs = [] := by simpa using hx
    subst this
    simp [catL, hb]
  | cons g r ih =>
    intro off xs hb hx hg
    simp only [contB, Bool.and_eq_true, beq_iff_eq] at hb
    obtain ⟨⟨h1, h2⟩, h3⟩ := hb
    obtain ⟨x, xs', rfl⟩ : ∃ x xs', xs = x :: xs' := by
      cases xs with
      | nil => simp at hx
      | cons x xs' => exact ⟨x, xs', rfl⟩
    have h0 := hf g.type _ x h2 (by simpa using hg 0 g rfl)
    have hr := ih (off + P.cellsOf g.type) xs' h3 (by simpa using hx) fun i g' hi => by simpa using hg (i + 1) g' (by simpa using hi)
    simp only [List.map_cons, h0, catL, hr, Option.map_some]
    rw [← List.drop_drop, h1, List.take_append_drop]

theorem arr_lits {e : TypeId} {n m sz k : Nat} (hf : ∀ cs x, DataW.trod enc P w base sp held m e cs = some x → litsOf n x.1 = some cs) {cs : List Value} {xs : List (DataW H × List MemPlace)} (hl : cs.length = k * sz) (hx : xs.length = k)
    (hg : ∀ i, i < k → DataW.trod enc P w base sp held m e ((cs.drop (i * sz)).take sz) = xs[i]?) : ∀ d j : Nat, j + d = k → catL (((xs.drop j).map (·.1)).map (litsOf n)) = some (cs.drop (j * sz)) := by
  intro d
  induction d with
  | zero =>
    intro j hj
    rw [List.drop_of_length_le (by omega), List.drop_of_length_le (by rw [hl, show j = k by omega]; exact Nat.le_refl _)]; rfl
  | succ d ih =>
    intro j hj
    rw [List.drop_eq_getElem_cons (show j < xs.length by omega)]
    have h0 := hf _ _ (by rw [hg j (by omega), List.getElem?_eq_getElem (show j < xs.length by omega)])
    have hr := ih (j + 1) (by omega)
    simp only [List.map_cons, h0, catL, hr, Option.map_some]
    rw [Nat.add_mul, Nat.one_mul, ← List.drop_drop, List.take_append_drop]

theorem trod_lits : ∀ (n : Nat) (t : TypeId) (cs : List Value) (x : DataW H × List MemPlace) (fuel : Nat), plainB P n t = true → DataW.trod enc P w base sp held fuel t cs = some x → litsOf n x.1 = some cs
  | 0, _, _, _, _, h, _ => by simp [plainB] at h
  | n + 1, t, cs, x, fuel, hb, h => by
    unfold plainB at hb
    split at hb
    · rename_i j ht
      obtain ⟨m, rfl, rfl, hm⟩ := DataW.trod_int ht h; rfl
    · rename_i ht
      obtain ⟨b, rfl, rfl⟩ := DataW.trod_bool ht h; rfl
    · rename_i fs ht
      obtain ⟨xs, m, rfl, rfl, hl, hxl, hf⟩ := DataW.trod_struct ht h
      have := cont_lits (n := n) (m := m) (f := plainB P n) (fun t cs x h1 h2 => trod_lits n t cs x m h1 h2) (cs := cs) fs.toList 0 xs (by rw [hl]; exact hb) (by simpa using hxl) (fun i g hi => hf i g (by simpa using hi))
      simpa [litsOf] using this
    · rename_i k e ht
      simp only [Bool.and_eq_true, beq_iff_eq] at hb
      obtain ⟨xs, m, rfl, rfl, hl, hxl, hel⟩ := DataW.trod_array ht h
      have := arr_lits (n := n) (m := m) (e := e) (fun cs x h2 => trod_lits n e cs x m hb.1 h2) (by rw [hl, hb.2]) hxl hel k 0 (by omega)
      simpa [litsOf] using this
    · cases hb
end

/-! ### As lists -/
def vals : (t : Ty) → t.den → List Value
  | .int k, x => [.int k x]
  | .bool, x => [.bool x]
  | .str, x => [.string x]
  | .unit, _ => []
  | .pair a b, x => vals a x.1 ++ vals b x.2
  | .sl _, _ => []
  | .flt _, _ => []
def plainT : Ty → Bool
  | .sl _ | .flt _ => false
  | .pair a b => plainT a && plainT b
  | _ => true
theorem vals_enc {R : Nat → Prop} {w : World} : ∀ {t : Ty} {x : t.den}, plainT t = true → Enc R w t x (vals t x)
  | .int _, _, _ => rfl
  | .bool, _, _ => rfl
  | .str, _, _ => rfl
  | .unit, _, _ => rfl
  | .pair a b, x, h => by
    simp only [plainT, Bool.and_eq_true] at h
    exact ⟨_, _, rfl, vals_enc h.1, vals_enc h.2⟩
  | .sl _, _, h => by simp [plainT] at h
  | .flt _, _, h => by simp [plainT] at h
theorem flat_get {t : Ty} (h : plainT t = true) (R : Nat → Prop) (w : World) : ∀ (xs : List t.den) (i j : Nat) (x : t.den) (u : Value), xs[i]? = some x → (vals t x)[j]? = some u → (xs.flatMap (vals t))[i * t.size + j]? = some u
  | [], _, _, _, _, hx, _ => by simp at hx
  | y :: xs, 0, j, x, u, hx, hu => by
    simp at hx; subst hx
    rw [List.flatMap_cons, Nat.zero_mul, Nat.zero_add, List.getElem?_append_left (List.getElem?_eq_some_iff.1 hu).1]; exact hu
  | y :: xs, i + 1, j, x, u, hx, hu => by
    have hl := (vals_enc (R := R) (w := w) (x := y) h).length
    rw [List.flatMap_cons, List.getElem?_append_right (by rw [hl, Nat.add_mul]; omega), hl, show (i + 1) * t.size + j - t.size = i * t.size + j by rw [Nat.add_mul]; omega]
    exact flat_get h R w xs i j x u (by simpa using hx) hu
theorem lt_of_cell {w : World} {a : Addr} {v : Value} (h : w.cell? a = some v) : a.block < w.heap.size := by
  unfold World.cell? at h
  split at h
  · rename_i hh
    exact (Array.getElem?_eq_some_iff.1 hh).1
  · cases h
theorem rarr_rel {t : Ty} (h : plainT t = true) {xs : List t.den} {w : World} {g : Nat} {cs : List Value} (hn : cs ≠ []) (hc : ∀ k, w.cell? ⟨g, k, none⟩ = cs[k]?) (e : cs = xs.flatMap (vals t)) : VRel (oldR w) noMap w (.rarr t xs) (.pointer (some ⟨g, 0, none⟩)) :=
  ⟨⟨g, 0, none⟩, rfl, rfl, (by
    cases cs with
    | nil => exact absurd rfl hn
    | cons v r => exact lt_of_cell (a := ⟨g, 0, none⟩) (v := v) (by rw [hc]; rfl)), fun i x hx => ⟨vals t x, vals_enc h, fun j u hu => by
    show w.cell? ⟨g, 0 + (i * t.size + j), none⟩ = some u
    rw [hc, Nat.zero_add, e]; exact flat_get h (oldR w) w xs i j x u hx hu⟩⟩
end Go.Rex
/- Plain lemmas: naturals as lists of words of 64 bits; from some number of rounds on. No conditions beyond those that each states. -/
namespace Go.Rex

/-! ### From some number of rounds on -/
def Ev {α : Type} (g : Nat → Option α) (r : α) : Prop := ∃ k0, ∀ k, k0 ≤ k → g k = some r
def Ev2 {α : Type} (g : Nat → Nat → Option α) (r : α) : Prop := ∃ k0, ∀ k, k0 ≤ k → ∀ n, k0 ≤ n → g k n = some r
def Ev3 {α : Type} (g : Nat → Nat → Nat → Option α) (r : α) : Prop := ∃ k0, ∀ k, k0 ≤ k → ∀ n, k0 ≤ n → ∀ m, k0 ≤ m → g k n m = some r
section
variable {α β : Type}
theorem Ev.some (x : α) : Ev (fun _ => Option.some x) x := ⟨0, fun _ _ => rfl⟩
theorem Ev.of {g : Nat → Option α} {r : α} (h : ∀ k, g k = Option.some r) : Ev g r := ⟨0, fun k _ => h k⟩
theorem Ev.bind {g : Nat → Option α} {f : Nat → α → Option β} {a : α} {r : β} (h : Ev g a) (k : Ev (fun n => f n a) r) : Ev (fun n => (g n).bind (f n)) r := by
  obtain ⟨k0, h0⟩ := h
  obtain ⟨k1, h1⟩ := k
  exact ⟨max k0 k1, fun k hk => by show (g k).bind (f k) = _; rw [h0 k (by omega)]; exact h1 k (by omega)⟩
theorem Ev.congr {f g : Nat → Option α} {r : α} (h : ∀ k, f k = g k) (hg : Ev g r) : Ev f r := by
  obtain ⟨k0, h0⟩ := hg
  exact ⟨k0, fun k hk => by rw [h]; exact h0 k hk⟩
theorem Ev.pos {c : Prop} [Decidable c] {g f : Nat → Option α} {r : α} (hc : c) (h : Ev g r) : Ev (fun k => if c then g k else f k) r := Ev.congr (fun _ => if_pos hc) h
theorem Ev.neg {c : Prop} [Decidable c] {g f : Nat → Option α} {r : α} (hc : ¬ c) (h : Ev f r) : Ev (fun k => if c then g k else f k) r := Ev.congr (fun _ => if_neg hc) h
theorem Ev.eq {g : Nat → Option α} {r r' : α} (h : Ev g r) (e : r = r') : Ev g r' := e ▸ h
theorem Ev2.some (x : α) : Ev2 (fun _ _ => Option.some x) x := ⟨0, fun _ _ _ _ => rfl⟩
theorem Ev2.of {g : Nat → Nat → Option α} {r : α} (h : ∀ k n, g k n = Option.some r) : Ev2 g r := ⟨0, fun k _ n _ => h k n⟩
/-- Another loop, from the start. -/
theorem Ev2.inner {g : Nat → Nat → Option α} {r : α} (h : Ev2 g r) : Ev2 (fun k _ => g k k) r := by
  obtain ⟨k0, h0⟩ := h
  exact ⟨k0, fun k hk n _ => h0 k hk k hk⟩
theorem Ev2.congr {f g : Nat → Nat → Option α} {r : α} (h : ∀ k n, f k n = g k n) (hg : Ev2 g r) : Ev2 f r := by
  obtain ⟨k0, h0⟩ := hg
  exact ⟨k0, fun k hk n hn => by rw [h]; exact h0 k hk n hn⟩
theorem Ev2.pos {c : Prop} [Decidable c] {g f : Nat → Nat → Option α} {r : α} (hc : c) (h : Ev2 g r) : Ev2 (fun k n => if c then g k n else f k n) r := Ev2.congr (fun _ _ => if_pos hc) h
theorem Ev2.neg {c : Prop} [Decidable c] {g f : Nat → Nat → Option α} {r : α} (hc : ¬ c) (h : Ev2 f r) : Ev2 (fun k n => if c then g k n else f k n) r := Ev2.congr (fun _ _ => if_neg hc) h
theorem Ev2.eq {g : Nat → Nat → Option α} {r r' : α} (h : Ev2 g r) (e : r = r') : Ev2 g r' := e ▸ h
theorem Ev2.bind {g : Nat → Nat → Option α} {f : Nat → Nat → α → Option β} {a : α} {r : β} (h : Ev2 g a) (k : Ev2 (fun n m => f n m a) r) : Ev2 (fun n m => (g n m).bind (f n m)) r := by
  obtain ⟨k0, h0⟩ := h
  obtain ⟨k1, h1⟩ := k
  exact ⟨max k0 k1, fun k hk n hn => by show (g k n).bind (f k n) = _; rw [h0 k (by omega) n (by omega)]; exact h1 k (by omega) n (by omega)⟩
/-- A call within a loop. -/
theorem Ev2.call {g : Nat → Option α} {f : Nat → Nat → α → Option β} {a : α} {r : β} (h : Ev g a) (k : Ev2 (fun n m => f n m a) r) : Ev2 (fun n m => (g n).bind (f n m)) r := by
  obtain ⟨k0, h0⟩ := h
  exact Ev2.bind (g := fun n _ => g n) ⟨k0, fun k hk _ _ => h0 k hk⟩ k
/-- A round of a loop. -/
theorem Ev2.step {f g : Nat → Nat → Option α} {r : α} (e : ∀ k n, f k (n + 1) = g k n) (h : Ev2 g r) : Ev2 f r := by
  obtain ⟨k0, h0⟩ := h
  refine ⟨k0 + 1, fun k hk n hn => ?_⟩
  obtain ⟨m, rfl⟩ : ∃ m, n = m + 1 := ⟨n - 1, by omega⟩
  rw [e]; exact h0 k (by omega) m (by omega)
/-- Into a loop. -/
theorem Ev2.ev {g : Nat → Nat → Option α} {r : α} (h : Ev2 g r) : Ev (fun k => g k k) r := by
  obtain ⟨k0, h0⟩ := h
  exact ⟨k0, fun k hk => h0 k hk k hk⟩
theorem Ev3.some (x : α) : Ev3 (fun _ _ _ => Option.some x) x := ⟨0, fun _ _ _ _ _ _ => rfl⟩
theorem Ev3.congr {f g : Nat → Nat → Nat → Option α} {r : α} (h : ∀ k n m, f k n m = g k n m) (hg : Ev3 g r) : Ev3 f r := by
  obtain ⟨k0, h0⟩ := hg
  exact ⟨k0, fun k hk n hn m hm => by rw [h]; exact h0 k hk n hn m hm⟩
theorem Ev3.pos {c : Prop} [Decidable c] {g f : Nat → Nat → Nat → Option α} {r : α} (hc : c) (h : Ev3 g r) : Ev3 (fun k n m => if c then g k n m else f k n m) r := Ev3.congr (fun _ _ _ => if_pos hc) h
theorem Ev3.neg {c : Prop} [Decidable c] {g f : Nat → Nat → Nat → Option α} {r : α} (hc : ¬ c) (h : Ev3 f r) : Ev3 (fun k n m => if c then g k n m else f k n m) r := Ev3.congr (fun _ _ _ => if_neg hc) h
theorem Ev3.call {g : Nat → Option α} {f : Nat → Nat → Nat → α → Option β} {a : α} {r : β} (h : Ev g a) (k : Ev3 (fun n m l => f n m l a) r) : Ev3 (fun n m l => (g n).bind (f n m l)) r := by
  obtain ⟨k0, h0⟩ := h
  obtain ⟨k1, h1⟩ := k
  exact ⟨max k0 k1, fun k hk n hn m hm => by show (g k).bind (f k n m) = _; rw [h0 k (by omega)]; exact h1 k (by omega) n (by omega) m (by omega)⟩
/-- A round of an inner loop: the inner rounds come last. -/
theorem Ev3.step {f g : Nat → Nat → Nat → Option α} {r : α} (e : ∀ k n m, f k n (m + 1) = g k n m) (h : Ev3 g r) : Ev3 f r := by
  obtain ⟨k0, h0⟩ := h
  refine ⟨k0 + 1, fun k hk n hn m hm => ?_⟩
  obtain ⟨l, rfl⟩ : ∃ l, m = l + 1 := ⟨m - 1, by omega⟩
  rw [e]; exact h0 k (by omega) n (by omega) l (by omega)
theorem Ev3.swap {f : Nat → Nat → Nat → Option α} {r : α} (h : Ev3 f r) : Ev3 (fun k n m => f k m n) r := by
  obtain ⟨k0, h0⟩ := h
  exact ⟨k0, fun k hk n hn m hm => h0 k hk m hm n hn⟩
theorem Ev3.ev2 {g : Nat → Nat → Nat → Option α} {r : α} (h : Ev3 g r) : Ev2 (fun k n => g k n k) r := by
  obtain ⟨k0, h0⟩ := h
  exact ⟨k0, fun k hk n hn => h0 k hk n hn k hk⟩
/-- Out of an inner loop. -/
theorem Ev2.ev3 {g : Nat → Nat → Option α} {r : α} (h : Ev2 g r) : Ev3 (fun k n _ => g k n) r := by
  obtain ⟨k0, h0⟩ := h
  exact ⟨k0, fun k hk n hn _ _ => h0 k hk n hn⟩
end

/-! ### Words -/
def val : List Int → Nat
  | [] => 0
  | x :: r => x.toNat + 18446744073709551616 * val r
def WF (a : List Int) : Prop := ∀ x ∈ a, 0 ≤ x ∧ x < 18446744073709551616
def digs (n : Nat) : List Int := if n = 0 then [] else ((n % 18446744073709551616 : Nat) : Int) :: digs (n / 18446744073709551616)
termination_by n
decreasing_by exact Nat.div_lt_self (by omega) (by decide)

theorem digs_zero : digs 0 = [] := by rw [digs]; rfl
theorem digs_pos {n : Nat} (h : n ≠ 0) : digs n = ((n % 18446744073709551616 : Nat) : Int) :: digs (n / 18446744073709551616) := by rw [digs, if_neg h]
theorem val_nil : val [] = 0 := rfl
theorem val_cons (x : Int) (r : List Int) : val (x :: r) = x.toNat + 18446744073709551616 * val r := rfl
theorem WF.nil : WF [] := fun _ h => by cases h
theorem WF.cons {x : Int} {r : List Int} (h0 : 0 ≤ x) (h1 : x < 18446744073709551616) (h : WF r) : WF (x :: r) := by
  intro y hy
  cases hy with
  | head => exact ⟨h0, h1⟩
  | tail _ hy => exact h y hy
theorem WF.tail {x : Int} {r : List Int} (h : WF (x :: r)) : WF r := fun y hy => h y (List.mem_cons_of_mem _ hy)
theorem WF.head {x : Int} {r : List Int} (h : WF (x :: r)) : 0 ≤ x ∧ x < 18446744073709551616 := h x List.mem_cons_self
theorem WF.append {a b : List Int} (ha : WF a) (hb : WF b) : WF (a ++ b) := by
  intro x hx
  rcases List.mem_append.1 hx with h | h
  · exact ha x h
  · exact hb x h
theorem WF.take {a : List Int} (h : WF a) (n : Nat) : WF (a.take n) := fun x hx => h x (List.mem_of_mem_take hx)
theorem WF.drop {a : List Int} (h : WF a) (n : Nat) : WF (a.drop n) := fun x hx => h x (List.mem_of_mem_drop hx)
theorem WF.set {a : List Int} (h : WF a) (i : Nat) {x : Int} (h0 : 0 ≤ x) (h1 : x < 18446744073709551616) : WF (a.set i x) := by
  intro y hy
  rcases List.mem_or_eq_of_mem_set hy with e | e
  · exact h y e
  · subst e; exact ⟨h0, h1⟩
theorem WF.getD {a : List Int} (h : WF a) (i : Nat) : 0 ≤ a.getD i 0 ∧ a.getD i 0 < 18446744073709551616 := by
  rw [List.getD_eq_getElem?_getD]
  cases hi : a[i]? with
  | none => simp
  | some x => exact h x (List.mem_of_getElem? hi)
theorem WF.replicate (n : Nat) : WF (List.replicate n 0) := by
  intro x hx
  rw [List.eq_of_mem_replicate hx]; decide
theorem val_replicate (n : Nat) : val (List.replicate n 0) = 0 := by
  induction n with
  | zero => rfl
  | succ n ih => rw [List.replicate_succ, val_cons, ih]; rfl
theorem val_append (a b : List Int) : val (a ++ b) = val a + 18446744073709551616 ^ a.length * val b := by
  induction a with
  | nil => simp [val]
  | cons x r ih =>
    rw [List.cons_append, val_cons, val_cons, ih, List.length_cons, Nat.pow_succ, Nat.mul_add, Nat.add_assoc]
    congr 2
    rw [← Nat.mul_assoc, Nat.mul_comm 18446744073709551616]
theorem W_pow_pos (n : Nat) : 0 < 18446744073709551616 ^ n := Nat.pow_pos (by decide)
theorem val_lt {a : List Int} (h : WF a) : val a < 18446744073709551616 ^ a.length := by
  induction a with
  | nil => simp [val]
  | cons x r ih =>
    have h1 := h.head
    have h2 := ih h.tail
    rw [val_cons, List.length_cons, Nat.pow_succ]
    have : 18446744073709551616 * (val r + 1) ≤ 18446744073709551616 * 18446744073709551616 ^ r.length := Nat.mul_le_mul_left _ h2
    rw [Nat.mul_comm (18446744073709551616 ^ r.length)]
    have : x.toNat < 18446744073709551616 := by omega
    rw [Nat.mul_add] at *
    omega
theorem val_digs (n : Nat) : val (digs n) = n := by
  induction n using Nat.strongRecOn with
  | _ n ih =>
    by_cases h : n = 0
    · subst h; rw [digs_zero]; rfl
    · rw [digs_pos h, val_cons, ih _ (Nat.div_lt_self (by omega) (by decide))]
      rw [Int.toNat_natCast]
      exact Nat.mod_add_div n 18446744073709551616
theorem WF.digs (n : Nat) : WF (digs n) := by
  induction n using Nat.strongRecOn with
  | _ n ih =>
    by_cases h : n = 0
    · subst h; rw [digs_zero]; exact WF.nil
    · rw [digs_pos h]
      have : n % 18446744073709551616 < 18446744073709551616 := Nat.mod_lt _ (by decide)
      exact WF.cons (by omega) (by omega) (ih _ (Nat.div_lt_self (by omega) (by decide)))
/-- No zero word at its end. -/
def Neat (a : List Int) : Prop := a ≠ [] → a.getD (a.length - 1) 0 ≠ 0
theorem Neat.tail {x : Int} {r : List Int} (h : Neat (x :: r)) : Neat r := by
  intro hn
  have := h (by simp)
  cases r with
  | nil => exact absurd rfl hn
  | cons y s => simpa using this
theorem Neat.pos {a : List Int} (h : Neat a) (hw : WF a) (hn : a ≠ []) : val a ≠ 0 := by
  induction a with
  | nil => exact absurd rfl hn
  | cons x r ih =>
    rw [val_cons]
    cases r with
    | nil =>
      have := h (by simp)
      have := hw.head
      simp at *
      omega
    | cons y s =>
      have := ih h.tail hw.tail (by simp)
      have : 0 < 18446744073709551616 * val (y :: s) := Nat.mul_pos (by decide) (by omega)
      omega
theorem digs_val {a : List Int} (h : Neat a) (hw : WF a) : digs (val a) = a := by
  induction a with
  | nil => exact digs_zero
  | cons x r ih =>
    rw [digs_pos (h.pos hw (by simp)), val_cons]
    have hx := hw.head
    have e1 : (x.toNat + 18446744073709551616 * val r) % 18446744073709551616 = x.toNat := by rw [Nat.add_mul_mod_self_left]; exact Nat.mod_eq_of_lt (by omega)
    have e2 : (x.toNat + 18446744073709551616 * val r) / 18446744073709551616 = val r := by rw [Nat.add_mul_div_left _ _ (by decide), Nat.div_eq_of_lt (by omega)]; omega
    rw [e1, e2, ih h.tail hw.tail]
    congr 1; omega
theorem Neat.digs (n : Nat) : Neat (digs n) := by
  induction n using Nat.strongRecOn with
  | _ n ih =>
    intro hn
    by_cases h : n = 0
    · subst h; exact absurd digs_zero hn
    · rw [digs_pos h]
      by_cases h2 : n / 18446744073709551616 = 0
      · rw [h2, digs_zero]
        have : n % 18446744073709551616 = n := by have := Nat.div_add_mod n 18446744073709551616; rw [h2] at this; omega
        simp [this]; omega
      · have := ih (n / 18446744073709551616) (Nat.div_lt_self (by omega) (by decide))
        rw [digs_pos h2] at this ⊢
        simpa [Neat] using this
theorem digs_inj {n m : Nat} (h : digs n = digs m) : n = m := by rw [← val_digs n, h, val_digs]
theorem digs_nil {n : Nat} : digs n = [] ↔ n = 0 := ⟨fun h => by rw [← val_digs n, h]; rfl, fun h => by rw [h, digs_zero]⟩
theorem digs_length_lt {n k : Nat} : (digs n).length ≤ k ↔ n < 18446744073709551616 ^ k := by
  induction n using Nat.strongRecOn generalizing k with
  | _ n ih =>
    by_cases h : n = 0
    · subst h; rw [digs_zero]; simp [W_pow_pos]
    · rw [digs_pos h]
      cases k with
      | zero => simp; omega
      | succ k =>
        rw [List.length_cons, Nat.add_le_add_iff_right, ih _ (Nat.div_lt_self (by omega) (by decide)), Nat.pow_succ]
        exact Nat.div_lt_iff_lt_mul (by decide)
theorem digs_len_mono {n m : Nat} (h : n ≤ m) : (digs n).length ≤ (digs m).length := digs_length_lt.2 (Nat.lt_of_le_of_lt h (digs_length_lt.1 (Nat.le_refl _)))
theorem digs_len_pos {n : Nat} : 0 < (digs n).length ↔ n ≠ 0 := by
  rw [← List.ne_nil_iff_length_pos, Ne, digs_nil]
theorem digs_top {n : Nat} (h : n ≠ 0) : 18446744073709551616 ^ ((digs n).length - 1) ≤ n := by
  have := digs_len_pos.2 h
  exact Nat.not_lt.1 fun hlt => by have := digs_length_lt.2 hlt; omega

/-! ### Words, one by one -/
theorem getD_toNat_lt {a : List Int} (h : WF a) (i : Nat) : (a.getD i 0).toNat < 18446744073709551616 := by have := h.getD i; omega
theorem take_succ_val (a : List Int) {i : Nat} (hi : i < a.length) : val (a.take (i + 1)) = val (a.take i) + 18446744073709551616 ^ i * (a.getD i 0).toNat := by
  rw [List.take_add_one, val_append]
  have e : a[i]?.toList = [a.getD i 0] := by simp [List.getD_eq_getElem?_getD, List.getElem?_eq_getElem hi]
  rw [e, val_cons, val_nil]
  simp [Nat.min_eq_left (Nat.le_of_lt hi)]
theorem val_take_drop (a : List Int) (i : Nat) : val a = val (a.take i) + 18446744073709551616 ^ i * val (a.drop i) := by
  rcases Nat.lt_or_ge i a.length with h | h
  · have := val_append (a.take i) (a.drop i)
    rw [List.take_append_drop] at this
    rw [this]; simp [Nat.min_eq_left (Nat.le_of_lt h)]
  · rw [List.take_of_length_le h, List.drop_of_length_le h]; simp [val]
theorem drop_val (a : List Int) {i : Nat} (hi : i < a.length) : val (a.drop i) = (a.getD i 0).toNat + 18446744073709551616 * val (a.drop (i + 1)) := by
  rw [List.drop_eq_getElem_cons hi, val_cons]
  simp [List.getD_eq_getElem?_getD, List.getElem?_eq_getElem hi]
theorem val_take_le (a : List Int) (i : Nat) : val (a.take i) ≤ val a := by rw [val_take_drop a i]; omega
theorem take_val_lt {a : List Int} (h : WF a) (i : Nat) : val (a.take i) < 18446744073709551616 ^ i := by
  have := val_lt (h.take i)
  exact Nat.lt_of_lt_of_le this (Nat.pow_le_pow_right (by decide) (by simp; omega))
/-- A word is written. -/
theorem set_val (a : List Int) {i : Nat} (hi : i < a.length) (x : Int) : val (a.set i x) + 18446744073709551616 ^ i * (a.getD i 0).toNat = val a + 18446744073709551616 ^ i * x.toNat := by
  rw [List.set_eq_take_append_cons_drop, if_pos hi, val_append, val_cons, val_take_drop a i, drop_val a hi]
  simp [Nat.min_eq_left (Nat.le_of_lt hi), Nat.mul_add]
  omega
theorem getD_set_self (a : List Int) {i : Nat} (hi : i < a.length) (x d : Int) : (a.set i x).getD i d = x := by simp [List.getD_eq_getElem?_getD, hi]
theorem getD_set_ne (a : List Int) {i j : Nat} (h : i ≠ j) (x d : Int) : (a.set i x).getD j d = a.getD j d := by simp [List.getD_eq_getElem?_getD, h]

/-- Words without the zeros at the end. -/
theorem neat_take {a : List Int} {n : Nat} (hn : n ≤ a.length) (h : n = 0 ∨ a.getD (n - 1) 0 ≠ 0) : Neat (a.take n) := by
  intro h0
  rcases h with h | h
  · subst h; simp at h0
  · have e : (a.take n).length = n := by simp; omega
    rw [e]
    cases n with
    | zero => simp at h0
    | succ n => simpa [List.getD_eq_getElem?_getD, List.getElem?_take] using h
end Go.Rex
/- Plain lemmas: words of 64 bits as whole numbers: wraps, shifts, masks. No conditions beyond those that each states. -/
namespace Go.Rex

theorem wrap_u64 (x : Int) : IntKind.u64.wrap x = x % 18446744073709551616 := by
  simp [IntKind.wrap, IntKind.signed, IntKind.bits]
theorem wrapU {x : Int} (h0 : 0 ≤ x) (h : x < 18446744073709551616) : IntKind.u64.wrap x = x := by rw [wrap_u64]; omega
theorem wrapUn {n : Nat} (h : n < 18446744073709551616) : IntKind.u64.wrap (n : Int) = (n : Int) := by rw [wrap_u64]; omega
theorem wrap_i64 (x : Int) : IntKind.i64.wrap x = (x + 9223372036854775808) % 18446744073709551616 - 9223372036854775808 := by
  simp [IntKind.wrap, IntKind.signed, IntKind.bits]
  split <;> omega
theorem wrapI {x : Int} (h0 : -9223372036854775808 ≤ x) (h : x < 9223372036854775808) : IntKind.i64.wrap x = x := by rw [wrap_i64]; omega
theorem wrap_u8 (x : Int) : IntKind.u8.wrap x = x % 256 := by
  simp [IntKind.wrap, IntKind.signed, IntKind.bits]

theorem shrK_nat (x n : Nat) (hn : n ≤ 64) : shrK .u64 (x : Int) (n : Int) = ((x / 2 ^ n : Nat) : Int) := by
  unfold shrK
  have e : min (n : Int).toNat IntKind.u64.bits = n := by simp [IntKind.bits]; omega
  rw [e, Int.fdiv_eq_ediv_of_nonneg _ (Int.le_of_lt (Int.pow_pos (by decide))), Int.natCast_ediv, Int.natCast_pow]
  rfl
theorem shrK_big (x : Nat) (n : Int) (hx : x < 18446744073709551616) (hn : 64 ≤ n) : shrK .u64 (x : Int) n = 0 := by
  unfold shrK
  have e : min n.toNat IntKind.u64.bits = 64 := by simp [IntKind.bits]; omega
  rw [e, Int.fdiv_eq_ediv_of_nonneg _ (by decide)]
  exact Int.ediv_eq_zero_of_lt (by omega) (by omega)
theorem shlK_nat (x n : Nat) (hn : n ≤ 64) : shlK .u64 (x : Int) (n : Int) = ((x * 2 ^ n % 18446744073709551616 : Nat) : Int) := by
  unfold shlK
  have e : min (n : Int).toNat IntKind.u64.bits = n := by simp [IntKind.bits]; omega
  rw [e, wrap_u64, Int.natCast_emod, Int.natCast_mul, Int.natCast_pow]
  rfl
theorem shlK_big (x : Nat) (n : Int) (hn : 64 ≤ n) : shlK .u64 (x : Int) n = 0 := by
  unfold shlK
  have e : min n.toNat IntKind.u64.bits = 64 := by simp [IntKind.bits]; omega
  rw [e, wrap_u64]
  omega
theorem shlK_exact (x n : Nat) (hn : n ≤ 64) (h : x * 2 ^ n < 18446744073709551616) : shlK .u64 (x : Int) (n : Int) = ((x * 2 ^ n : Nat) : Int) := by
  rw [shlK_nat x n hn, Nat.mod_eq_of_lt h]
theorem ofInt_nat (x : Nat) (h : x < 18446744073709551616) : (BitVec.ofInt 64 (x : Int)).toNat = x := by
  rw [BitVec.toNat_ofInt]; omega
theorem andK_nat (x y : Nat) (hx : x < 18446744073709551616) (hy : y < 18446744073709551616) : andK .u64 (x : Int) (y : Int) = ((x &&& y : Nat) : Int) := by
  unfold andK
  show IntKind.u64.wrap ((BitVec.ofInt 64 (x : Int) &&& BitVec.ofInt 64 (y : Int)).toNat : Int) = _
  rw [BitVec.toNat_and, ofInt_nat x hx, ofInt_nat y hy, wrapUn (Nat.lt_of_le_of_lt Nat.and_le_left hx)]
theorem or_lt64 {x y : Nat} (hx : x < 18446744073709551616) (hy : y < 18446744073709551616) : x ||| y < 18446744073709551616 := Nat.or_lt_two_pow (n := 64) hx hy
theorem orK_nat (x y : Nat) (hx : x < 18446744073709551616) (hy : y < 18446744073709551616) : orK .u64 (x : Int) (y : Int) = ((x ||| y : Nat) : Int) := by
  unfold orK
  show IntKind.u64.wrap ((BitVec.ofInt 64 (x : Int) ||| BitVec.ofInt 64 (y : Int)).toNat : Int) = _
  rw [BitVec.toNat_or, ofInt_nat x hx, ofInt_nat y hy, wrapUn (or_lt64 hx hy)]
theorem andK_mask (x n : Nat) (hn : n ≤ 64) (h : x < 18446744073709551616) : andK .u64 (x : Int) ((2 ^ n - 1 : Nat) : Int) = ((x % 2 ^ n : Nat) : Int) := by
  have hp : 2 ^ n ≤ 18446744073709551616 := Nat.pow_le_pow_right (by decide) hn
  have h0 : 0 < 2 ^ n := Nat.two_pow_pos n
  rw [andK_nat x (2 ^ n - 1) h (by omega), Nat.and_two_pow_sub_one_eq_mod]
theorem andK_one (x : Nat) (h : x < 18446744073709551616) : andK .u64 (x : Int) 1 = ((x % 2 : Nat) : Int) := andK_mask x 1 (by decide) h
theorem andK_32 (x : Nat) (h : x < 18446744073709551616) : andK .u64 (x : Int) 4294967295 = ((x % 4294967296 : Nat) : Int) := andK_mask x 32 (by decide) h
theorem or_disj (a b j : Nat) (hb : b < 2 ^ j) (ha : a % 2 ^ j = 0) : a ||| b = a + b := by
  have e : a = 2 ^ j * (a / 2 ^ j) := by have := Nat.div_add_mod a (2 ^ j); omega
  rw [e, Nat.two_pow_add_eq_or_of_lt hb]
theorem orK_add (a b j : Nat) (hb : b < 2 ^ j) (ha : a % 2 ^ j = 0) (hs : a + b < 18446744073709551616) : orK .u64 (a : Int) (b : Int) = ((a + b : Nat) : Int) := by
  rw [orK_nat a b (by omega) (by omega), or_disj a b j hb ha]
theorem orK_add' (a b j : Nat) (ha : a < 2 ^ j) (hb : b % 2 ^ j = 0) (hs : a + b < 18446744073709551616) : orK .u64 (a : Int) (b : Int) = ((a + b : Nat) : Int) := by
  rw [orK_nat a b (by omega) (by omega), Nat.or_comm, or_disj b a j ha hb, Nat.add_comm]
theorem tdiv_nat (a b : Nat) : (a : Int).tdiv (b : Int) = ((a / b : Nat) : Int) := by
  rw [Int.tdiv_eq_ediv_of_nonneg (by omega)]; rfl
theorem tmod_nat (a b : Nat) : (a : Int).tmod (b : Int) = ((a % b : Nat) : Int) := by
  rw [Int.tmod_eq_emod_of_nonneg (by omega)]; rfl
theorem wf_u64 {x : Int} (h : (Lit.int .u64 x).wf = true) : 0 ≤ x ∧ x < 18446744073709551616 := by
  simp [Lit.wf, IntKind.min, IntKind.max, IntKind.signed, IntKind.bits] at h
  omega
theorem wf_i64 {x : Int} (h : (Lit.int .i64 x).wf = true) : -9223372036854775808 ≤ x ∧ x ≤ 9223372036854775807 := by
  simp [Lit.wf, IntKind.min, IntKind.max, IntKind.signed, IntKind.bits] at h
  omega
end Go.Rex
