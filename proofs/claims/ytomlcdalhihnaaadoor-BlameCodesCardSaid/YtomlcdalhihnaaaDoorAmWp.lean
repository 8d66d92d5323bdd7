/- Rules for code over idealised states, seen from a function's entry: between pieces a state may be weakened; a loop by an invariant and a measure. Generic: over any program. -/
import Derived.Test.YtomlcdalhihnaaaDoorAmMono
namespace Go.Am
open Go.RowKit

/-- Where a run is entered. -/
structure Ent where
  lo : Nat
  c : Cx
  H : Heap

/-- The model's registers and world keep to this idealised state, reached from the entry. -/
def Keeps (S : AStat) (E : Ent) (ρ : List AVal) (H : Heap) (tmps : List Value) (w : World) : Prop :=
  ∃ c, c.w = w ∧ Rel c H ∧ GlobOk S c ∧ Tr E.c E.H c H ∧ Low E.lo E.c E.H c H ∧ Vs c ρ tmps

abbrev OutQ := AExit → List AVal → Heap → Prop

def outPost (S : AStat) (E : Ent) (Q : OutQ) (e : Exit) (a : Act) (w : World) : Prop :=
  a.defers = [] ∧ ∃ x ρ H, e = x.toExit ∧ Q x ρ H ∧ Keeps S E ρ H a.tmps.toList w

def Wp (S : AStat) (E : Ent) (c : Code) (ρ : List AVal) (H : Heap) (Q : OutQ) : Prop :=
  ∀ a w, Keeps S E ρ H a.tmps.toList w → a.defers = [] → c.wp S.P (outPost S E Q) a w

/-- One state says no more than another one. -/
def Weak (S : AStat) (E : Ent) (ρ : List AVal) (H : Heap) (ρ1 : List AVal) (H1 : Heap) : Prop :=
  ∀ tmps w, Keeps S E ρ H tmps w → Keeps S E ρ1 H1 tmps w

theorem Weak.refl {S : AStat} {E : Ent} {ρ : List AVal} {H : Heap} : Weak S E ρ H ρ H := fun _ _ h => h
theorem Weak.trans {S : AStat} {E : Ent} {ρ ρ1 ρ2 : List AVal} {H H1 H2 : Heap} (h : Weak S E ρ H ρ1 H1) (k : Weak S E ρ1 H1 ρ2 H2) : Weak S E ρ H ρ2 H2 := fun _ _ x => k _ _ (h _ _ x)

theorem Wp.weak {S : AStat} {E : Ent} {c : Code} {ρ ρ1 : List AVal} {H H1 : Heap} {Q : OutQ} (h : Weak S E ρ H ρ1 H1) (k : Wp S E c ρ1 H1 Q) : Wp S E c ρ H Q := fun a w x y => k a w (h _ _ x) y

theorem Wp.mono {S : AStat} {E : Ent} {c : Code} {ρ : List AVal} {H : Heap} {Q Q' : OutQ} (h : Wp S E c ρ H Q) (hq : ∀ x ρ' H', Q x ρ' H' → ∃ ρ1 H1, Weak S E ρ' H' ρ1 H1 ∧ Q' x ρ1 H1) : Wp S E c ρ H Q' := by
  intro a w hk hd
  refine wp_mono (h a w hk hd) ?_
  rintro e a' w' ⟨h1, x, ρ', H', h2, h3, h4⟩
  obtain ⟨ρ1, H1, h5, h6⟩ := hq x ρ' H' h3
  exact ⟨h1, x, ρ1, H1, h2, h6, h5 _ _ h4⟩

theorem Wp.run {S : AStat} (hS : StatOk S) {E : Ent} {c : Code} {ρ ρ' : List AVal} {H H' : Heap} {x : AExit} {Q : OutQ} (h : Runs S E.lo c ρ H (x, ρ', H')) (hq : Q x ρ' H') : Wp S E c ρ H Q := by
  obtain ⟨n, h⟩ := h
  rintro a w ⟨cx, rfl, hR, hG, hT, hL, hv⟩ hd
  refine wp_mono (execA_ok hS n _ _ _ _ _ _ _ h cx a hR hG hv hd).1 ?_
  rintro e a' w' ⟨he, hd', c', rfl, h1, h2, h3, h4⟩
  exact ⟨hd', x, ρ', H', he, hq, c', rfl, h1, hG.ext h2.ext, hT.trans h2, hL.trans hT.ext h3, h4⟩

theorem Wp.seq {S : AStat} {E : Ent} {p q : Code} {ρ : List AVal} {H : Heap} {Q : OutQ} (h : Wp S E p ρ H fun x ρ' H' => (x = .normal ∧ Wp S E q ρ' H' Q) ∨ (x ≠ .normal ∧ Q x ρ' H')) : Wp S E (.seq p q) ρ H Q := by
  intro a w hk hd
  refine wp_seq (wp_mono (h a w hk hd) ?_)
  rintro e a' w' ⟨h1, x, ρ', H', rfl, h3, h4⟩
  rcases h3 with ⟨rfl, h3⟩ | ⟨h2, h3⟩
  · exact h3 a' w' h4 h1
  · cases x with
    | normal => exact (h2 rfl).elim
    | exit i => exact ⟨h1, .exit i, ρ', H', rfl, h3, h4⟩
    | ret => exact ⟨h1, .ret, ρ', H', rfl, h3, h4⟩

theorem Wp.cond {S : AStat} {E : Ent} {x : Operand} {p q : Code} {ρ : List AVal} {H : Heap} {Q : OutQ} {t : Bool} (hx : evalA S ρ x = .bool t) (h : Wp S E (if t then p else q) ρ H Q) : Wp S E (.cond x p q) ρ H Q := by
  rintro a w hk hd
  obtain ⟨cx, rfl, hR, hG, hT, hL, hv⟩ := id hk
  have hc := evalA_V (a := a) hG hv x
  rw [hx] at hc
  simp only [V] at hc
  cases t with
  | true => exact wp_cond_true hc (h a _ hk hd)
  | false => exact wp_cond_false hc (h a _ hk hd)

theorem Wp.block {S : AStat} {E : Ent} {id : Nat} {p : Code} {ρ : List AVal} {H : Heap} {Q : OutQ} (h : Wp S E p ρ H fun x ρ' H' => Q (match x with | .exit i => if i = id then .normal else .exit i | x => x) ρ' H') : Wp S E (.block id p) ρ H Q := by
  intro a w hk hd
  refine wp_block (wp_mono (h a w hk hd) ?_)
  rintro e a' w' ⟨h1, x, ρ', H', rfl, h3, h4⟩
  cases x with
  | normal => exact ⟨h1, .normal, ρ', H', rfl, h3, h4⟩
  | ret => exact ⟨h1, .ret, ρ', H', rfl, h3, h4⟩
  | exit i =>
    simp only at h3
    by_cases hi : i = id
    · rw [if_pos hi] at h3
      simp only [AExit.toExit, Exit.inBlock]
      rw [if_pos hi]
      exact ⟨h1, .normal, ρ', H', rfl, h3, h4⟩
    · rw [if_neg hi] at h3
      simp only [AExit.toExit, Exit.inBlock]
      rw [if_neg hi]
      exact ⟨h1, .exit i, ρ', H', rfl, h3, h4⟩

/-- A loop: a family of states, of which each round leaves a later one, or the loop is left. -/
theorem Wp.loop {S : AStat} {E : Ent} {p : Code} {Q : OutQ} {σ : Type} (I : σ → Prop) (ρs : σ → List AVal) (Hs : σ → Heap) (m : σ → Nat)
    (h : ∀ s, I s → Wp S E p (ρs s) (Hs s) fun x ρ' H' => (x = .normal ∧ ∃ s', I s' ∧ m s' < m s ∧ Weak S E ρ' H' (ρs s') (Hs s')) ∨ (x ≠ .normal ∧ Q x ρ' H'))
    {s : σ} (hs : I s) : Wp S E (.loop p) (ρs s) (Hs s) Q := by
  intro a w hk hd
  have key : ∀ n s, I s → m s < n → ∀ a w, Keeps S E (ρs s) (Hs s) a.tmps.toList w → a.defers = [] → Code.rounds S.P p (outPost S E Q) n a w := by
    intro n
    induction n with
    | zero => intro s _ hm; omega
    | succ n ih =>
      intro s hs hm a w hk hd
      refine wp_mono (h s hs a w hk hd) ?_
      rintro e a' w' ⟨h1, x, ρ', H', rfl, h3, h4⟩
      rcases h3 with ⟨rfl, s', hs', hm', hw⟩ | ⟨h2, h3⟩
      · exact ih s' hs' (by omega) a' w' (hw _ _ h4) h1
      · cases x with
        | normal => exact (h2 rfl).elim
        | exit i => exact ⟨h1, .exit i, ρ', H', rfl, h3, h4⟩
        | ret => exact ⟨h1, .ret, ρ', H', rfl, h3, h4⟩
  exact wp_loop_rounds (m s + 1) (key _ s hs (by omega) a w hk hd)

/-- A row of pieces. -/
def WpL (S : AStat) (E : Ent) : List Code → List AVal → Heap → OutQ → Prop
  | [], ρ, H, Q => ∃ ρ1 H1, Weak S E ρ H ρ1 H1 ∧ Q .normal ρ1 H1
  | c :: l, ρ, H, Q => Wp S E c ρ H fun x ρ' H' => (x = .normal ∧ WpL S E l ρ' H' Q) ∨ (x ≠ .normal ∧ Q x ρ' H')

theorem WpL.flat {S : AStat} {E : Ent} : ∀ {c : Code} {k : List Code} {ρ : List AVal} {H : Heap} {Q : OutQ}, WpL S E (Am.flat c k) ρ H Q → WpL S E (c :: k) ρ H Q := by
  intro c
  induction c with
  | seq p q ihp ihq =>
    intro k ρ H Q h
    have h1 := ihp h
    refine Wp.seq (Wp.mono h1 ?_)
    rintro x ρ' H' (⟨rfl, h2⟩ | ⟨h2, h3⟩)
    · exact ⟨ρ', H', Weak.refl, .inl ⟨rfl, ihq h2⟩⟩
    · exact ⟨ρ', H', Weak.refl, .inr ⟨h2, .inr ⟨h2, h3⟩⟩⟩
  | _ => intro k ρ H Q h; exact h

theorem Wp.of_flat {S : AStat} {E : Ent} {c : Code} {ρ : List AVal} {H : Heap} {Q : OutQ} (h : WpL S E (Am.flat c []) ρ H Q) : Wp S E c ρ H Q := by
  refine Wp.mono (WpL.flat h) ?_
  rintro x ρ' H' (⟨rfl, ρ1, H1, h1, h2⟩ | ⟨_, h3⟩)
  · exact ⟨ρ1, H1, h1, h2⟩
  · exact ⟨ρ', H', Weak.refl, h3⟩

theorem WpL.weak {S : AStat} {E : Ent} {l : List Code} {ρ ρ1 : List AVal} {H H1 : Heap} {Q : OutQ} (h : Weak S E ρ H ρ1 H1) (k : WpL S E l ρ1 H1 Q) : WpL S E l ρ H Q := by
  cases l with
  | nil =>
    obtain ⟨ρ2, H2, h1, h2⟩ := k
    exact ⟨ρ2, H2, h.trans h1, h2⟩
  | cons c l => exact Wp.weak h k

/-- The first pieces are run. -/
theorem WpL.heads {S : AStat} (hS : StatOk S) {E : Ent} {N : Nat} : ∀ {k : Nat} {l : List Code} {ρ : List AVal} {H : Heap} {l' : List Code} {ρ' : List AVal} {H' : Heap} {Q : OutQ},
    headsA S E.lo N k l ρ H = some (l', ρ', H') → WpL S E l' ρ' H' Q → WpL S E l ρ H Q
  | 0, l, ρ, H, l', ρ', H', Q, h, k => by
    simp only [headsA, Option.some.injEq, Prod.mk.injEq] at h
    obtain ⟨rfl, rfl, rfl⟩ := h
    exact k
  | j + 1, [], ρ, H, l', ρ', H', Q, h, k => by cases h
  | j + 1, c :: l, ρ, H, l', ρ', H', Q, h, k => by
    simp only [headsA] at h
    split at h
    · rename_i h1
      exact Wp.run hS ⟨N, h1⟩ (.inl ⟨rfl, WpL.heads hS h k⟩)
    · cases h

/-- A function's contract, out of its body's rule. -/
theorem contract_of_wp {S : AStat} {f : FuncId} {fn : Func} {body : Code} (hf : S.P.funcs[f]? = some fn) (hb : fn.body = some body)
    {lo : Nat} {c : Cx} {H : Heap} (hR : Rel c H) (hG : GlobOk S c) {av : List AVal} {vs : List Value} (hv : Vs c av vs) {r : AVal} {H1 : Heap}
    (h : Wp S ⟨lo, c, H⟩ body (av ++ List.replicate (fn.ntmps - av.length) undefA) H fun x ρ H' => (∀ i, x ≠ .exit i) ∧ H' = H1 ∧ ∃ rs, resultsA S ρ H1 fn.results.toList = some rs ∧ tupled rs = r) :
    (∃ fn, S.P.funcs[f]? = some fn ∧ fn.body.isSome = true) ∧ Calls S.P f vs.toArray c.w (CallPost lo c H r H1) := by
  refine ⟨⟨fn, hf, by simp [hb]⟩, ?_⟩
  refine calls_of_wp hf hb ?_
  have hlen := Vs_length hv
  have hargs : Vs c (av ++ List.replicate (fn.ntmps - av.length) undefA) (vs.toArray ++ Array.replicate (fn.ntmps - vs.toArray.size) undef).toList := by
    have : (vs.toArray ++ Array.replicate (fn.ntmps - vs.toArray.size) undef).toList = vs ++ List.replicate (fn.ntmps - av.length) undef := by
      simp [hlen]
    rw [this]
    exact Vs_append hv (Vs_replicate (undef_V c) _)
  refine wp_mono (h { tmps := vs.toArray ++ Array.replicate (fn.ntmps - vs.toArray.size) undef, defers := [] } c.w ⟨c, rfl, hR, hG, Tr.refl _ _, Low.refl _ _ _, hargs⟩ rfl) ?_
  rintro e a' w' ⟨hd, x, ρ', H', rfl, ⟨hx, rfl, rs, hrs, rfl⟩, c', rfl, h1, _, h2, h3, h4⟩
  obtain ⟨u, h5, h6⟩ := results_sim h1 h4 fn hrs
  cases x with
  | exit i => exact (hx i rfl).elim
  | normal => exact ⟨hd, u, h5, u, c', rfl, rfl, h1, h2, h3, h6⟩
  | ret => exact ⟨hd, u, h5, u, c', rfl, rfl, h1, h2, h3, h6⟩

/-- At the top: a law that comes to true. -/
theorem law_of_wp {S : AStat} {f : FuncId} {fn : Func} {body : Code} (hf : S.P.funcs[f]? = some fn) (hb : fn.body = some body)
    {W : World} {θ : List (Nat × Nat)} (hG : GlobOk S (cx0 W θ)) {av : List AVal} {args : Array Value} (hv : Vs (cx0 W θ) av args.toList) {H1 : Heap}
    (h : Wp S ⟨0, cx0 W θ, []⟩ body (av ++ List.replicate (fn.ntmps - av.length) undefA) [] fun x ρ H' => (∀ i, x ≠ .exit i) ∧ H' = H1 ∧ ∃ rs, resultsA S ρ H1 fn.results.toList = some rs ∧ tupled rs = .bool true) :
    Calls S.P f args W fun e w' => e = .returned (.bool true) ∧ Go.RowKit.Below W.heap.size W w' := by
  have := (contract_of_wp hf hb (rel0 W θ) hG hv h).2
  rw [Array.toArray_toList] at this
  refine this.mono fun e w' hp => ?_
  obtain ⟨v, c', rfl, rfl, hR, hT, hL, hV⟩ := hp
  simp only [V] at hV
  subst hV
  exact ⟨rfl, tr0_below hT⟩

end Go.Am
