/- More fuel does not turn what the idealised run has come to; how runs are put together. Generic: over any program. -/
import Derived.Test.YtomlcdalhihnaaaDoorAmTop
namespace Go.Am

def CLe (a b : CallF) : Prop := ∀ lo f av H r, a lo f av H = some r → b lo f av H = some r
def ELe (a b : ExecF) : Prop := ∀ lo c ρ H r, a lo c ρ H = some r → b lo c ρ H = some r

theorem effA_mono {S : AStat} {a b : CallF} (h : CLe a b) {lo : Nat} {ρ : List AVal} {H : Heap} {o : Op} {r : AVal × Heap} (e : effA S a lo ρ H o = some r) : effA S b lo ρ H o = some r := by
  unfold effA at e ⊢
  split at e
  all_goals first
    | exact e
    | (split at e <;> first | exact h _ _ _ _ _ e | (split at e <;> first | exact h _ _ _ _ _ e | exact e | cases e) | cases e)
    | cases e

theorem opA_mono {S : AStat} {a b : CallF} (h : CLe a b) {lo : Nat} {ρ : List AVal} {H : Heap} {o : Oper} {r : AVal × Heap} (e : opA S a lo ρ H o = some r) : opA S b lo ρ H o = some r := by
  unfold opA at e ⊢
  split
  · simp_all
  · split
    · simp_all
    · simp_all
      exact effA_mono h e

theorem opsA_mono {S : AStat} {a b : CallF} (h : CLe a b) {lo : Nat} {ops : List Oper} : ∀ {os : List Oper} {ρ : List AVal} {H : Heap} {r : List AVal × Heap}, opsA S a lo ops os ρ H = some r → opsA S b lo ops os ρ H = some r
  | [], _, _, _, e => e
  | o :: os, ρ, H, r, e => by
    unfold opsA at e ⊢
    split
    · simp_all
    · simp_all
      exact opsA_mono h e
    · rename_i hg
      simp only [hg] at e
      cases ho : opA S a lo ρ H o with
      | none => simp [ho] at e
      | some v =>
        rw [opA_mono h ho]
        simp only [ho] at e
        exact opsA_mono h e

theorem drawGo_mono {S : AStat} {a b : CallF} (h : CLe a b) {lo n0 : Nat} {ops : Array Oper} {B : List Nat} : ∀ {os : List Oper} {k : Nat} {ρ : List AVal} {H : Heap} {r : DrawOut}, drawGo S a lo n0 ops B os k ρ H = some r → drawGo S b lo n0 ops B os k ρ H = some r
  | [], _, _, _, _, e => e
  | o :: os, k, ρ, H, r, e => by
    unfold drawGo at e ⊢
    split
    · simp_all
    · rename_i hg
      simp only [hg] at e
      exact drawGo_mono h e
    · rename_i hg
      simp only [hg] at e
      split
      · rename_i hn
        simp only [hn, if_true] at e
        split
        · simp_all
        · rename_i hq
          simp only [hq] at e
          split
          · rename_i hh
            simp only [hh] at e
            exact drawGo_mono h e
          · rename_i hh
            split at e
            · rename_i hh'
              exact (hh hh').elim
            · cases e
      · rename_i hn
        simp only [hn, if_false, Bool.false_eq_true] at e
        split
        · rename_i he
          simp only [he, if_true] at e
          cases ho : effA S a lo ρ (hide H (hidden ops B n0 k)) o.op with
          | none => simp [ho] at e
          | some v =>
            rw [effA_mono h ho]
            simp only [ho] at e ⊢
            split
            · rename_i hl
              simp only [hl, if_true] at e
              cases hd : drawGo S a lo n0 ops B os (k + 1) (putA ρ o.dst v.1) (unhide H v.2 (hidden ops B n0 k)) with
              | none => simp [hd] at e
              | some q =>
                rw [drawGo_mono h hd]
                simp only [hd] at e ⊢
                exact e
            · rename_i hl
              simp [hl] at e
        · rename_i he
          simp only [he, if_false, Bool.false_eq_true] at e
          split
          · simp_all
          · rename_i v hq
            simp only [hq] at e
            cases hd : drawGo S a lo n0 ops B os (k + 1) (putA ρ o.dst v) H with
            | none => simp [hd] at e
            | some q =>
              rw [drawGo_mono h hd]
              simp only [hd] at e ⊢
              exact e

theorem drawA_mono {S : AStat} {a b : CallF} (h : CLe a b) {lo : Nat} {ops : Array Oper} {ρ : List AVal} {H : Heap} {r : List AVal × Heap} (e : drawA S a lo ops ρ H = some r) : drawA S b lo ops ρ H = some r := by
  unfold drawA at e ⊢
  simp only at e ⊢
  split
  · rename_i hc
    simp only [hc, if_true] at e
    cases hd : drawGo S a lo H.length ops (befs ops.toList []) ops.toList 0 ρ (if ops.any (fun o => isNewB o.op) then H ++ List.replicate ops.size none else H) with
    | none => rw [hd] at e; cases e
    | some q =>
      rw [drawGo_mono h hd]
      rw [hd] at e
      exact e
  · rename_i hc
    rw [if_neg hc] at e
    cases e

theorem callA_mono {S : AStat} {a b : ExecF} (h : ELe a b) : CLe (callA S a) (callA S b) := by
  intro lo f av H r e
  unfold callA at e ⊢
  split
  · simp_all
  · rename_i hk
    simp only [hk] at e
    split
    · simp_all
    · rename_i fn hf
      simp only [hf] at e
      split
      · simp_all
      · rename_i body hb
        simp only [hb] at e
        split at e
        · cases e
        · cases e
        · rename_i x ρ H' hne hr
          rw [h _ _ _ _ _ hr]
          cases x with
          | exit i => exact (hne i rfl).elim
          | _ => exact e

theorem stepA_mono {S : AStat} {a b : ExecF} (h : ELe a b) : ELe (stepA S a) (stepA S b) := by
  intro lo c ρ H r e
  unfold stepA at e ⊢
  split
  · exact e
  · exact e
  · exact e
  · exact e
  · rename_i p q
    simp only at e
    split at e
    · rename_i ρ' H' h1
      rw [h _ _ _ _ _ h1]
      exact h _ _ _ _ _ e
    · rename_i hne
      rw [h _ _ _ _ _ e]
      split
      · rename_i h2
        simp only [Option.some.injEq] at h2
        subst h2
        exact (hne _ _ e).elim
      · rfl
  · rename_i x p q
    simp only at e
    cases hb : evalA S ρ x with
    | bool t => cases t <;> (simp only [hb] at e ⊢; exact h _ _ _ _ _ e)
    | _ => simp [hb] at e
  · rename_i id p
    simp only at e
    split at e
    · rename_i h1
      rw [h _ _ _ _ _ h1]
      exact e
    · rename_i hne
      rw [h _ _ _ _ _ e]
      split
      · rename_i h2
        simp only [Option.some.injEq] at h2
        subst h2
        exact (hne _ _ _ e).elim
      · rfl
  · rename_i p
    simp only at e
    split at e
    · rename_i ρ' H' h1
      rw [h _ _ _ _ _ h1]
      exact h _ _ _ _ _ e
    · rename_i hne
      rw [h _ _ _ _ _ e]
      split
      · rename_i h2
        simp only [Option.some.injEq] at h2
        subst h2
        exact (hne _ _ e).elim
      · rfl
  · rename_i id ops draw
    simp only at e
    split
    · rename_i hd
      simp only [hd, if_true] at e
      rw [Option.map_eq_some_iff] at e ⊢
      obtain ⟨q, h1, h2⟩ := e
      exact ⟨q, drawA_mono (callA_mono h) h1, h2⟩
    · rename_i hd
      simp only [hd, if_false, Bool.false_eq_true] at e
      rw [Option.map_eq_some_iff] at e ⊢
      obtain ⟨q, h1, h2⟩ := e
      exact ⟨q, opsA_mono (callA_mono h) h1, h2⟩
  · simp_all

theorem execA_succ {S : AStat} : ∀ n, ELe (execA S n) (execA S (n + 1))
  | 0 => fun _ _ _ _ _ e => by cases e
  | n + 1 => stepA_mono (execA_succ n)

theorem execA_mono {S : AStat} {n m : Nat} (h : n ≤ m) : ELe (execA S n) (execA S m) := by
  induction h with
  | refl => exact fun _ _ _ _ _ e => e
  | step _ ih => exact fun _ _ _ _ _ e => execA_succ _ _ _ _ _ _ (ih _ _ _ _ _ e)

theorem runA_mono {S : AStat} {n m : Nat} (h : n ≤ m) : CLe (runA S n) (runA S m) := callA_mono (execA_mono h)

/-- The run of a piece of code comes to this, with fuel enough. -/
def Runs (S : AStat) (lo : Nat) (c : Code) (ρ : List AVal) (H : Heap) (r : AExit × List AVal × Heap) : Prop := ∃ n, execA S n lo c ρ H = some r

def CallRuns (S : AStat) (lo : Nat) (f : FuncId) (av : List AVal) (H : Heap) (r : AVal × Heap) : Prop := ∃ n, runA S n lo f av H = some r

theorem Runs.seq {S : AStat} {lo : Nat} {a b : Code} {ρ ρ' : List AVal} {H H' : Heap} {r : AExit × List AVal × Heap} (h : Runs S lo a ρ H (.normal, ρ', H')) (k : Runs S lo b ρ' H' r) : Runs S lo (.seq a b) ρ H r := by
  obtain ⟨n, h⟩ := h
  obtain ⟨m, k⟩ := k
  refine ⟨max n m + 1, ?_⟩
  show stepA S (execA S (max n m)) lo (.seq a b) ρ H = some r
  simp only [stepA]
  rw [execA_mono (Nat.le_max_left n m) _ _ _ _ _ h]
  exact execA_mono (Nat.le_max_right n m) _ _ _ _ _ k

theorem Runs.seq_out {S : AStat} {lo : Nat} {a b : Code} {ρ ρ' : List AVal} {H H' : Heap} {x : AExit} (hx : x ≠ .normal) (h : Runs S lo a ρ H (x, ρ', H')) : Runs S lo (.seq a b) ρ H (x, ρ', H') := by
  obtain ⟨n, h⟩ := h
  refine ⟨n + 1, ?_⟩
  show stepA S (execA S n) lo (.seq a b) ρ H = some _
  simp only [stepA]
  rw [h]
  cases x with
  | normal => exact (hx rfl).elim
  | _ => rfl

theorem Runs.cond {S : AStat} {lo : Nat} {x : Operand} {a b : Code} {ρ : List AVal} {H : Heap} {r : AExit × List AVal × Heap} {t : Bool} (hx : evalA S ρ x = .bool t) (h : Runs S lo (if t then a else b) ρ H r) : Runs S lo (.cond x a b) ρ H r := by
  obtain ⟨n, h⟩ := h
  refine ⟨n + 1, ?_⟩
  show stepA S (execA S n) lo (.cond x a b) ρ H = some _
  simp only [stepA, hx]
  cases t <;> exact h

theorem Runs.block {S : AStat} {lo : Nat} {id : Nat} {b : Code} {ρ ρ' : List AVal} {H H' : Heap} {x : AExit} (h : Runs S lo b ρ H (x, ρ', H')) : Runs S lo (.block id b) ρ H ((match x with | .exit i => if i = id then .normal else .exit i | x => x), ρ', H') := by
  obtain ⟨n, h⟩ := h
  refine ⟨n + 1, ?_⟩
  show stepA S (execA S n) lo (.block id b) ρ H = some _
  simp only [stepA, h]
  cases x with
  | exit i =>
    simp only
    split <;> rfl
  | _ => rfl

theorem Runs.loop_next {S : AStat} {lo : Nat} {b : Code} {ρ ρ' : List AVal} {H H' : Heap} {r : AExit × List AVal × Heap} (h : Runs S lo b ρ H (.normal, ρ', H')) (k : Runs S lo (.loop b) ρ' H' r) : Runs S lo (.loop b) ρ H r := by
  obtain ⟨n, h⟩ := h
  obtain ⟨m, k⟩ := k
  refine ⟨max n m + 1, ?_⟩
  show stepA S (execA S (max n m)) lo (.loop b) ρ H = some r
  simp only [stepA]
  rw [execA_mono (Nat.le_max_left n m) _ _ _ _ _ h]
  exact execA_mono (Nat.le_max_right n m) _ _ _ _ _ k

theorem Runs.loop_out {S : AStat} {lo : Nat} {b : Code} {ρ ρ' : List AVal} {H H' : Heap} {x : AExit} (hx : x ≠ .normal) (h : Runs S lo b ρ H (x, ρ', H')) : Runs S lo (.loop b) ρ H (x, ρ', H') := by
  obtain ⟨n, h⟩ := h
  refine ⟨n + 1, ?_⟩
  show stepA S (execA S n) lo (.loop b) ρ H = some _
  simp only [stepA]
  rw [h]
  cases x with
  | normal => exact (hx rfl).elim
  | _ => rfl

/-- A function's call, out of its body's run. -/
theorem CallRuns.of_body {S : AStat} {lo : Nat} {f : FuncId} {fn : Func} {body : Code} (hf : S.P.funcs[f]? = some fn) (hb : fn.body = some body) (hk : S.hook f = none) {av : List AVal} {H : Heap} {x : AExit} {ρ : List AVal} {H' : Heap}
    (h : Runs S ((S.pol f).lo lo H) body (av ++ List.replicate (fn.ntmps - av.length) undefA) H (x, ρ, H')) (hx : ∀ i, x ≠ .exit i)
    {vs : List AVal} (hr : resultsA S ρ H' fn.results.toList = some vs) {r : AVal × Heap} (hfin : finish (S.pol f) H (tupled vs) H' = some r) : CallRuns S lo f av H r := by
  obtain ⟨n, h⟩ := h
  refine ⟨n, ?_⟩
  show callA S (execA S n) lo f av H = some r
  simp only [callA, hk, hf, hb]
  cases hp : S.pol f <;> simp only [hp] at h hfin ⊢ <;> rw [h] <;> cases x <;> first | exact (hx _ rfl).elim | simp only [hr, hfin]

/-- A piece of code, av a row of pieces. -/
def flat : Code → List Code → List Code
  | .seq a b, k => flat a (flat b k)
  | c, k => c :: k

def execL (S : AStat) (N lo : Nat) : List Code → List AVal → Heap → Option (AExit × List AVal × Heap)
  | [], ρ, H => some (.normal, ρ, H)
  | c :: l, ρ, H => match execA S N lo c ρ H with
    | some (.normal, ρ', H') => execL S N lo l ρ' H'
    | r => r

def RunsL (S : AStat) (lo : Nat) : List Code → List AVal → Heap → AExit × List AVal × Heap → Prop
  | [], ρ, H, r => r = (.normal, ρ, H)
  | c :: l, ρ, H, r => (∃ ρ' H', Runs S lo c ρ H (.normal, ρ', H') ∧ RunsL S lo l ρ' H' r) ∨ (r.1 ≠ .normal ∧ Runs S lo c ρ H r)

theorem RunsL.of_exec {S : AStat} {N lo : Nat} : ∀ {l : List Code} {ρ : List AVal} {H : Heap} {r : AExit × List AVal × Heap}, execL S N lo l ρ H = some r → RunsL S lo l ρ H r
  | [], _, _, _, h => by
    simp only [execL, Option.some.injEq] at h
    exact h.symm
  | c :: l, ρ, H, r, h => by
    simp only [execL] at h
    split at h
    · rename_i h1
      exact .inl ⟨_, _, ⟨N, h1⟩, RunsL.of_exec h⟩
    · rename_i hne
      refine .inr ⟨?_, ⟨N, h⟩⟩
      intro e
      obtain ⟨x, ρ', H'⟩ := r
      cases e
      exact hne _ _ h

/-- A row's run, and the row's code's. -/
theorem RunsL.flat {S : AStat} {lo : Nat} : ∀ {c : Code} {k : List Code} {ρ : List AVal} {H : Heap} {r : AExit × List AVal × Heap}, RunsL S lo (flat c k) ρ H r → RunsL S lo (c :: k) ρ H r := by
  intro c
  induction c with
  | seq a b iha ihb =>
    intro k ρ H r h
    have h := iha h
    rcases h with ⟨ρ1, H1, h1, h2⟩ | ⟨h1, h2⟩
    · rcases ihb h2 with ⟨ρ2, H2, h3, h4⟩ | ⟨h3, h4⟩
      · exact .inl ⟨ρ2, H2, h1.seq h3, h4⟩
      · exact .inr ⟨h3, h1.seq h4⟩
    · obtain ⟨x, ρ', H'⟩ := r
      exact .inr ⟨h1, Runs.seq_out h1 h2⟩
  | _ => intro k ρ H r h; exact h

theorem Runs.of_flat {S : AStat} {lo : Nat} {c : Code} {ρ : List AVal} {H : Heap} {r : AExit × List AVal × Heap} (h : RunsL S lo (Am.flat c []) ρ H r) : Runs S lo c ρ H r := by
  rcases RunsL.flat h with ⟨ρ', H', h1, h2⟩ | ⟨_, h2⟩
  · cases h2
    exact h1
  · exact h2

/-- The first k pieces of a row of code. -/
def headsA (S : AStat) (lo N : Nat) : Nat → List Code → List AVal → Heap → Option (List Code × List AVal × Heap)
  | 0, l, ρ, H => some (l, ρ, H)
  | k + 1, c :: l, ρ, H => match execA S N lo c ρ H with
    | some (.normal, ρ', H') => headsA S lo N k l ρ' H'
    | _ => none
  | _ + 1, [], _, _ => none

theorem RunsL.heads {S : AStat} {lo N : Nat} : ∀ {k : Nat} {l : List Code} {ρ : List AVal} {H : Heap} {l' : List Code} {ρ' : List AVal} {H' : Heap} {r : AExit × List AVal × Heap},
    headsA S lo N k l ρ H = some (l', ρ', H') → RunsL S lo l' ρ' H' r → RunsL S lo l ρ H r
  | 0, l, ρ, H, l', ρ', H', r, h, k => by
    simp only [headsA, Option.some.injEq, Prod.mk.injEq] at h
    obtain ⟨rfl, rfl, rfl⟩ := h
    exact k
  | j + 1, [], ρ, H, l', ρ', H', r, h, k => by cases h
  | j + 1, c :: l, ρ, H, l', ρ', H', r, h, k => by
    simp only [headsA] at h
    split at h
    · rename_i h1
      exact .inl ⟨_, _, ⟨N, h1⟩, RunsL.heads h k⟩
    · cases h

/-- The end of a function, from the middle of its body on. -/
def tailA (S : AStat) (N : Nat) (f : FuncId) (fn : Func) (lo : Nat) (H0 : Heap) (l : List Code) (ρ : List AVal) (H : Heap) : Option (AVal × Heap) :=
  match execL S N ((S.pol f).lo lo H0) l ρ H with
  | none => none
  | some (.exit _, _, _) => none
  | some (_, ρ', H') =>
    match resultsA S ρ' H' fn.results.toList with
    | none => none
    | some vs => finish (S.pol f) H0 (tupled vs) H'

/-- The beginning of a function's run: its first k pieces. -/
def headA (S : AStat) (N k : Nat) (f : FuncId) (fn : Func) (body : Code) (lo : Nat) (av : List AVal) (H : Heap) : Option (List Code × List AVal × Heap) :=
  headsA S ((S.pol f).lo lo H) N k (flat body []) (av ++ List.replicate (fn.ntmps - av.length) undefA) H

theorem CallRuns.of_tail {S : AStat} {lo : Nat} {f : FuncId} {fn : Func} {body : Code} (hf : S.P.funcs[f]? = some fn) (hb : fn.body = some body) (hk : S.hook f = none) {av : List AVal} {H : Heap} {N k M : Nat}
    {l' : List Code} {ρ' : List AVal} {H' : Heap} (h : headA S N k f fn body lo av H = some (l', ρ', H')) {r : AVal × Heap} (ht : tailA S M f fn lo H l' ρ' H' = some r) : CallRuns S lo f av H r := by
  unfold tailA at ht
  split at ht
  · cases ht
  · cases ht
  · rename_i x ρ1 H1 hne h1
    split at ht
    · cases ht
    · rename_i vs hvs
      exact CallRuns.of_body hf hb hk (Runs.of_flat (RunsL.heads h (RunsL.of_exec h1))) (fun i e => hne i e) hvs ht

/-- Where the middle of a run bears a number in one cell: it may be given another name. -/
theorem set_self {ρ : List AVal} {i : Nat} {v : AVal} (h : ρ[i]? = some v) : ρ.set i v = ρ := by
  apply List.ext_getElem?
  intro j
  rw [List.getElem?_set]
  split
  · rename_i hij
    subst hij
    rw [h]
    split
    · rfl
    · rename_i hl
      rw [List.getElem?_eq_none (by omega)] at h
      cases h
  · rfl

/-- A run, cut where one cell holds 'v'; behind the cut 'v' goes by the name 'w'. -/
theorem CallRuns.cut {S : AStat} {lo : Nat} {f : FuncId} {fn : Func} {body : Code} (hf : S.P.funcs[f]? = some fn) (hb : fn.body = some body) (hk : S.hook f = none) {av : List AVal} {H : Heap} (N k M i : Nat) {v w : AVal}
    (hi : ((headA S N k f fn body lo av H).bind fun s => s.2.1[i]?) = some v) (hvw : v = w) {a : AVal}
    (ht : ((headA S N k f fn body lo av H).bind fun s => (tailA S M f fn lo H s.1 (s.2.1.set i w) s.2.2).map (·.1)) = some a) : ∃ H', CallRuns S lo f av H (a, H') := by
  subst hvw
  cases hh : headA S N k f fn body lo av H with
  | none => simp [hh] at hi
  | some s =>
    obtain ⟨l', ρ', H'⟩ := s
    simp only [hh, Option.bind_some] at hi ht
    rw [set_self hi, Option.map_eq_some_iff] at ht
    obtain ⟨⟨a', H1⟩, h1, h2⟩ := ht
    cases h2
    exact ⟨H1, CallRuns.of_tail hf hb hk hh h1⟩

end Go.Am
