/- Library, part 5: SyTop, SySeal. General texts of the author of this claim: an idealised machine and a symbolic one, both proved sound over the model. -/
import Derived.Test.YtbbbpnaghipfmaaGreatDoorLib3
import Derived.Test.YtbbbpnaghipfmaaGreatDoorLib4
set_option linter.unusedVariables false
set_option linter.unusedSimpArgs false
/- At the top: a law's run by its cuts; a law's arguments as typed rows. Generic: over any program. -/
namespace Go.Sy
open Go.Am
set_option linter.unusedVariables false
set_option linter.unusedSimpArgs false
variable {C : Codec}

theorem law_runs {F : Cf C} (hC : CodecOk C) (hX : ExtNo F.S F.noExt) (hL : HookLow F.S) {ctr : FuncId → Option (Ctr C)} (hctr : CtrOk F.S ctr) {f : FuncId} {fn : Func} {body : Code} (hf : F.S.P.funcs[f]? = some fn) (hb : fn.body = some body) (hk : F.S.hook f = none) (hp : F.S.pol f = .keep)
    (N : Nat) {args : List (SV C.T)} (cuts : List (Nat × CutD C)) (hn : args.length ≤ fn.ntmps) (hs : fn.ntmps ≤ 512) (hnd : nodupB ((allK body []).map (·.1)) = true)
    (hentry : (entryX F ctr N fn body ⟨cuts, .b true, []⟩ args).holds) (hcuts : ∀ p, p ∈ cuts → ∀ s, p.2.I s → (cutVC F ctr N fn body ⟨cuts, .b true, []⟩ p.1 p.2 s).holds)
    {av : List AVal} (hA : Ers (away []) args av) : ∃ n H', runA F.S n 0 f av [] = some (.bool true, H') := by
  obtain ⟨n, v, H', E', h1, h2, h4⟩ := fn_runs hC hX hL hctr hf hb hk (by rw [hp]; simp) ⟨cuts, .b true, []⟩ N hn hs hnd hentry hcuts (lo := 0) (H := []) (av := av) (E := away []) (by rw [hp]; exact away_sim (Nat.zero_le _)) hA
  cases h4
  exact ⟨n, H', h1⟩

/-- A contract that a hook pays: a function without parameters. -/
noncomputable def toldCtr (v : AVal) : Ctr C := fun _ args h K => match args with
  | [] => K (.a v) h
  | _ => .stuck "told"
theorem toldCtr_ok {S : AStat} {f : FuncId} {v : AVal} (hk : S.hook f = some fun _ args H => match args with | [] => some (v, H) | _ => none) : CtrOk1 S f (toldCtr (C := C) v) := by
  intro E lo wlo args h H K av hh hS hA
  unfold toldCtr at hh
  split at hh
  · rw [hA.inv_nil]
    exact ⟨v, H, _, _, E, ⟨0, by simp only [callA, hk]⟩, LeN.refl _ _, Nat.le_refl _, hS, Nat.le_refl _, .a v, hh⟩
  · exact (stuck_no hh).elim

/-- What a tree owes is paid: as a proposition that nothing unfolds. -/
structure Paid (t : Tree) : Prop where
  out : t.holds

theorem mkCtr_paid {F : Cf C} (hC : CodecOk C) (hX : ExtNo F.S F.noExt) (hL : HookLow F.S) {ctr : FuncId → Option (Ctr C)} (hctr : CtrOk F.S ctr) {f : FuncId} {fn : Func} {body : Code} (hf : F.S.P.funcs[f]? = some fn) (hb : fn.body = some body) (hk : F.S.hook f = none) (hp : F.S.pol f = .fresh)
    (D : CtrD C) (N : Nat) (cuts : tys D.pats → List (Nat × CutD C)) (hn : D.pats.length ≤ fn.ntmps) (hs : fn.ntmps ≤ 512) (hnd : nodupB ((allK body []).map (·.1)) = true)
    (hpure : ∀ x, D.pre x → pureS (D.res x) = true ∧ (D.objs x).all pureO = true)
    (hentry : ∀ x, D.pre x → Paid (entryX F ctr N fn body ⟨cuts x, D.res x, D.objs x⟩ (argsS D.pats x)))
    (hcuts : ∀ x, D.pre x → ∀ p, p ∈ cuts x → ∀ s, p.2.I s → Paid (cutVC F ctr N fn body ⟨cuts x, D.res x, D.objs x⟩ p.1 p.2 s)) : CtrOk1 F.S f (mkCtr D) :=
  mkCtr_ok hC hX hL hctr hf hb hk hp D N cuts hn hs hnd hpure (fun x h => (hentry x h).out) (fun x h p hm s hI => (hcuts x h p hm s hI).out)

theorem law_paid {F : Cf C} (hC : CodecOk C) (hX : ExtNo F.S F.noExt) (hL : HookLow F.S) {ctr : FuncId → Option (Ctr C)} (hctr : CtrOk F.S ctr) {f : FuncId} {fn : Func} {body : Code} (hf : F.S.P.funcs[f]? = some fn) (hb : fn.body = some body) (hk : F.S.hook f = none) (hp : F.S.pol f = .keep)
    (N : Nat) {args : List (SV C.T)} (cuts : List (Nat × CutD C)) (hn : args.length ≤ fn.ntmps) (hs : fn.ntmps ≤ 512) (hnd : nodupB ((allK body []).map (·.1)) = true)
    (hentry : Paid (entryX F ctr N fn body ⟨cuts, .b true, []⟩ args)) (hcuts : ∀ p, p ∈ cuts → ∀ s, p.2.I s → Paid (cutVC F ctr N fn body ⟨cuts, .b true, []⟩ p.1 p.2 s))
    {av : List AVal} (hA : Ers (away []) args av) : ∃ n H', runA F.S n 0 f av [] = some (.bool true, H') :=
  law_runs hC hX hL hctr hf hb hk hp N cuts hn hs hnd hentry.out (fun p hm s hI => (hcuts p hm s hI).out) hA

/-- Contracts, by name. -/
def lookC : List (FuncId × Ctr C) → FuncId → Option (Ctr C)
  | [], _ => none
  | p :: l, f => bif Nat.beq p.1 f then some p.2 else lookC l f
theorem lookC_ok {S : AStat} : ∀ {l : List (FuncId × Ctr C)}, (∀ p, p ∈ l → CtrOk1 S p.1 p.2) → CtrOk S (lookC l)
  | [], _, f, c, h => by cases h
  | p :: l, hl, f, c, h => by
    simp only [lookC] at h
    cases hb : Nat.beq p.1 f with
    | true =>
      rw [hb] at h
      simp only [cond_true, Option.some.injEq] at h
      rw [Nat.beq_eq] at hb
      subst hb h
      exact hl p (by simp)
    | false =>
      rw [hb] at h
      exact lookC_ok (fun q hq => hl q (List.mem_cons_of_mem _ hq)) f c h

/-- What such cells are as a row. -/
def TyRow (C : Codec) (n : Nat) (ty : Ty) (R : C.T n → Prop) : Prop := ∀ cs, ty.Is cs → ∃ x, Ers (away []) (C.enc n x) cs ∧ R x

theorem slice_arg (hC : CodecOk C) {n : Nat} {e : Ty} {R : C.T n → Prop} (hr : TyRow C n e R) (hz : C.sz n = e.size) {a : AVal} (h : (Ty.slice e).Is [a]) : ∃ l : List (C.T n), Er (away []) (.tl n l) a ∧ l.length ≤ maxLen ∧ ∀ x, x ∈ l → R x := by
  simp only [Ty.Is, List.cons.injEq, and_true] at h
  rcases h with rfl | ⟨rows, ex, rfl, hl, hrows⟩
  · exact ⟨[], .tlN, Nat.zero_le _, fun x h => by simp at h⟩
  · have : ∃ l : List (C.T n), RowsEr (away []) (C.sz n) (l.map (C.enc n)) rows ∧ ∀ x, x ∈ l → R x := by
      clear hl
      induction rows with
      | nil => exact ⟨[], ⟨rfl, fun i r ra h => by simp at h⟩, fun x h => by simp at h⟩
      | cons r rows ih =>
        obtain ⟨l, h1, h2⟩ := ih fun r hr => hrows r (List.mem_cons_of_mem _ hr)
        obtain ⟨x, h3, h4⟩ := hr r (hrows r (by simp))
        refine ⟨x :: l, ⟨by simp [h1.1], fun i p ra g1 g2 => ?_⟩, fun y hy => ?_⟩
        · cases i with
          | zero =>
            simp only [List.map_cons, List.getElem?_cons_zero, Option.some.injEq] at g1 g2
            subst g1 g2
            exact ⟨h3, by rw [← h3.1, hC.len]⟩
          | succ i =>
            simp only [List.map_cons, List.getElem?_cons_succ] at g1 g2
            exact h1.2 i p ra g1 g2
        · rcases List.mem_cons.1 hy with rfl | hy
          · exact h4
          · exact h2 y hy
    obtain ⟨l, h1, h2⟩ := this
    have hll : rows.length = l.length := by rw [← h1.1]; simp
    refine ⟨l, .tlL hz.symm hll (fun i r hi => h1.lens i r hi) ?_, by omega, h2⟩
    intro i y r j x a q1 q2 q3 q4
    exact (h1.2 i (C.enc n y) r (by simp [q1]) q2).1.2 j x a q3 q4

theorem er_a {E : Env} {v a : AVal} (h : Er (C := C) E (.a v) a) : a = v := by cases h; rfl

theorem at_nat {n : Nat} {l : List (C.T n)} (i : Nat) : C.at n l (i : Int) = l.getD i (C.dflt n) := rfl
theorem at_get {n : Nat} {l : List (C.T n)} {i : Nat} (h : i < l.length) : C.at n l (i : Int) = l[i] := by
  rw [at_nat, List.getD_eq_getElem?_getD, List.getElem?_eq_getElem h]
  rfl
theorem succ64 {i : Nat} (h : i < 1000000000) : IntKind.wrap .i64 ((i : Int) + 1) = ((i + 1 : Nat) : Int) := by
  simp only [IntKind.wrap, IntKind.signed, IntKind.bits]
  simp
  omega
theorem all_take {α : Type} {l : List α} {i : Nat} {p : α → Prop} (h : ∀ x ∈ l.take i, p x) (hi : i < l.length) (hx : p l[i]) : ∀ x ∈ l.take (i + 1), p x := by
  intro x hm
  rw [List.take_succ_eq_append_getElem hi, List.mem_append] at hm
  rcases hm with hm | hm
  · exact h x hm
  · rw [List.mem_singleton] at hm
    rw [hm]
    exact hx
theorem wrap64 {n : Int} (h0 : -9223372036854775808 ≤ n) (h1 : n ≤ 9223372036854775807) : IntKind.wrap .i64 n = n := by
  simp only [IntKind.wrap, IntKind.signed, IntKind.bits]
  simp
  omega

end Go.Sy

/- Contracts of functions whose result, a list of plain rows, is sealed when they end. Generic: over any program. -/
namespace Go.Sy
open Go.Am
set_option linter.unusedVariables false
variable {C : Codec} {E : Env}

def plainS {T : Nat → Type} : SV T → Bool
  | .i _ _ => true
  | .b _ => true
  | .s _ => true
  | _ => false

theorem frz_plain {x : SV C.T} {a : AVal} {n0 : Nat} {H : Heap} {k : Nat} (hx : Er E x a) (hp : plainS x = true) : frz n0 H false (k + 1) a = some a := by
  cases hx <;> first | (unfold frz; rfl) | simp [plainS] at hp
theorem frzs_id {f : AVal → Option AVal} : ∀ {as : List AVal}, (∀ a, a ∈ as → f a = some a) → frzs f as = some as
  | [], _ => rfl
  | a :: as, h => by
    simp only [frzs, h a List.mem_cons_self, frzs_id (as := as) fun b hb => h b (List.mem_cons_of_mem _ hb)]
theorem frzss_id {f : AVal → Option AVal} : ∀ {rs : List (List AVal)}, (∀ r, r ∈ rs → ∀ a, a ∈ r → f a = some a) → frzss f rs = some rs
  | [], _ => rfl
  | r :: rs, h => by
    simp only [frzss, frzs_id (h r List.mem_cons_self), frzss_id (rs := rs) fun b hb => h b (List.mem_cons_of_mem _ hb)]

theorem frz_rowsN (m : Nat) (hC : CodecOk C) {E' : Env} {n0 : Nat} {H' : Heap} {n root : Nat} {full : Bool} {l : List (C.T n)} {v : AVal} (hpl : ∀ y : C.T n, (C.enc n y).all plainS = true) (hS : SimH E' n0 0 [some (.rows n l full root)] H') (h : Er (C := C) E' (.R 0) v) :
    ∃ a, frz n0 H' true (m + 2) v = some a ∧ ∀ E'' : Env, Er (C := C) E'' (.tl n l) a := by
  cases h with
  | R hg hs =>
    rcases hS.obj 0 _ rfl with ⟨rfl, _, a', g1, g2⟩ | ⟨b, off, cap, ex, as, g1, g2, gw, g3, g4, g5, g6, g7, g8⟩
    · rw [hg] at g1
      simp only [Option.some.injEq] at g1
      subst g1
      rcases g2 with rfl | rfl
      · exact ⟨.nils, by unfold frz; rfl, fun _ => .tlN⟩
      · exact ⟨.list _ [] true, by unfold frz; rfl, fun _ => .tlL rfl rfl (fun i r h => by simp at h) (fun i y r j x a h => by simp at h)⟩
    · rw [hg] at g1
      simp only [Option.some.injEq] at g1
      subst g1
      have hlo := hS.low 0 b (Nat.zero_le _) g2
      have hm := Nat.mul_le_mul_right (C.sz n) g4
      have cell : ∀ (i : Nat) (y : C.T n) (j : Nat) (a : AVal), l[i]? = some y → j < C.sz n → as[off + i * C.sz n + j]? = some a → ∃ x, (C.enc n y)[j]? = some x ∧ Er E' x a ∧ plainS x = true := by
        intro i y j a h1 h2 h3
        have hj : j < (C.enc n y).length := by rw [hC.len]; exact h2
        exact ⟨_, List.getElem?_eq_getElem hj, g8 i y j _ a h1 (List.getElem?_eq_getElem hj) h3, List.all_eq_true.1 (hpl y) _ (List.getElem_mem hj)⟩
      have inRow : ∀ (i : Nat) (r : List AVal), (chunk (C.sz n) l.length (as.drop off))[i]? = some r → i < l.length ∧ r.length = C.sz n ∧ ∀ j, j < C.sz n → r[j]? = as[off + i * C.sz n + j]? := by
        intro i r hr
        have hi : i < l.length := by
          have := lt_of_some hr
          rwa [chunk_len] at this
        rw [chunk_get hi] at hr
        simp only [Option.some.injEq] at hr
        subst hr
        have hi2 := Nat.mul_le_mul_right (C.sz n) (show i + 1 ≤ l.length from hi)
        rw [Nat.add_mul, Nat.one_mul] at hi2
        refine ⟨hi, by simp; omega, fun j hj => ?_⟩
        rw [List.getElem?_take, if_pos hj, List.getElem?_drop, List.getElem?_drop, ← Nat.add_assoc]
      refine ⟨.list (C.sz n) (chunk (C.sz n) l.length (as.drop off)) (ex && cap == l.length), ?_, fun E'' => ?_⟩
      · have e : frzss (frz n0 H' false (m + 1)) (chunk (C.sz n) l.length (as.drop off)) = some (chunk (C.sz n) l.length (as.drop off)) := by
          refine frzss_id fun r hr a ha => ?_
          obtain ⟨i, hi, hri⟩ := List.mem_iff_getElem.1 hr
          obtain ⟨h1, h2, h3⟩ := inRow i r (by rw [← hri]; exact List.getElem?_eq_getElem hi)
          obtain ⟨j, hj, haj⟩ := List.mem_iff_getElem.1 ha
          have h4 := h3 j (by omega)
          rw [List.getElem?_eq_getElem hj, haj] at h4
          obtain ⟨x, k1, k2, k3⟩ := cell i l[i] j a (List.getElem?_eq_getElem h1) (by omega) h4.symm
          exact frz_plain k2 k3
        unfold frz
        simp only
        rw [if_neg (by omega), g3]
        simp only
        rw [if_pos (by omega), e]
        rfl
      · refine .tlL rfl (by rw [chunk_len]) (fun i r hr => (inRow i r hr).2.1) ?_
        intro i y r j x a q1 q2 q3 q4
        obtain ⟨h1, h2, h3⟩ := inRow i r q2
        have hj : j < C.sz n := by have := lt_of_some q3; rwa [hC.len] at this
        rw [h3 j hj] at q4
        obtain ⟨x', k1, k2, k3⟩ := cell i y j a q1 hj q4
        rw [q3] at k1
        simp only [Option.some.injEq] at k1
        subst k1
        cases k2 <;> first | exact .i _ _ | exact .b _ | exact .s _ | simp [plainS] at k3

theorem frz_rows (hC : CodecOk C) {E' : Env} {n0 : Nat} {H' : Heap} {n root : Nat} {full : Bool} {l : List (C.T n)} {v : AVal} (hpl : ∀ y : C.T n, (C.enc n y).all plainS = true) (hS : SimH E' n0 0 [some (.rows n l full root)] H') (h : Er (C := C) E' (.R 0) v) :
    ∃ a, frz n0 H' true 64 v = some a ∧ ∀ E'' : Env, Er (C := C) E'' (.tl n l) a := frz_rowsN 62 hC hpl hS h

/-- A list of plain rows, sealed. -/
def mkCtrL (ps : List (Pat C)) (pre : tys ps → Prop) (n : Nat) (l : tys ps → List (C.T n)) : Ctr C := fun wlo args h K => takeAll h ps args fun x => .need (pre x) (K (.tl n (l x)) h)

theorem mkCtrL_paid {F : Cf C} (hC : CodecOk C) (hX : ExtNo F.S F.noExt) (hL : HookLow F.S) {ctr : FuncId → Option (Ctr C)} (hctr : CtrOk F.S ctr) {f : FuncId} {fn : Func} {body : Code} (hf : F.S.P.funcs[f]? = some fn) (hb : fn.body = some body) (hk : F.S.hook f = none) (hp : F.S.pol f = .pure)
    (ps : List (Pat C)) (pre : tys ps → Prop) (n : Nat) (l : tys ps → List (C.T n)) (full : Bool) (root : Nat) (hpl : ∀ y : C.T n, (C.enc n y).all plainS = true) (N : Nat) (cuts : tys ps → List (Nat × CutD C)) (hn : ps.length ≤ fn.ntmps) (hs : fn.ntmps ≤ 512) (hnd : nodupB ((allK body []).map (·.1)) = true)
    (hentry : ∀ x, pre x → Paid (entryX F ctr N fn body ⟨cuts x, .R 0, [.rows n (l x) full root]⟩ (argsS ps x)))
    (hcuts : ∀ x, pre x → ∀ p, p ∈ cuts x → ∀ s, p.2.I s → Paid (cutVC F ctr N fn body ⟨cuts x, .R 0, [.rows n (l x) full root]⟩ p.1 p.2 s)) : CtrOk1 F.S f (mkCtrL ps pre n l) := by
  intro E lo wlo args h H K av hh hS hA
  obtain ⟨x, ⟨hpre, hK⟩, hAx⟩ := takeAll_ok hC hS hA hh
  have hal : ∀ (ps : List (Pat C)) (y : tys ps), (argsS ps y).length = ps.length := by
    intro ps
    induction ps with
    | nil => intro y; rfl
    | cons p ps ih => intro y; simp only [argsS, List.length_cons, ih]
  have hS0 : SimH (away H) ((F.S.pol f).lo lo H) 0 ([] : SH C) H := away_sim (by rw [hp]; simp only [Pol.lo]; exact Nat.le_refl _)
  obtain ⟨m, v, H', E', h1, h2, h4⟩ := fn_runsP hC hX hL hctr hf hb hk ⟨cuts x, .R 0, [.rows n (l x) full root]⟩ N (by rw [hal]; exact hn) hs hnd (hentry x hpre).out (fun p hm s hI => (hcuts x hpre p hm s hI).out) hS0 hAx
  rw [hp] at h1 h2
  obtain ⟨a, k1, k2⟩ := frz_rows hC hpl h2 h4
  have k1 : frz H.length H' true 64 v = some a := k1
  exact ⟨a, H, _, _, E, ⟨m, by rw [h1]; simp only [finish, k1, Option.map_some]⟩, LeN.refl _ _, Nat.le_refl _, hS, Nat.le_refl _, k2 E, hK⟩

/-! ### A weaker contract -/
/-- The same beside what is known. -/
def mkCtrT (ps : List (Pat C)) (pre : tys ps → Prop) (n : Nat) (l : tys ps → List (C.T n)) (w : AVal) : Ctr C := fun wlo args h K => takeAll h ps args fun x => .need (pre x) (K (.tup [.tl n (l x), .a w]) h)

theorem mkCtrT_paid {F : Cf C} (hC : CodecOk C) (hX : ExtNo F.S F.noExt) (hL : HookLow F.S) {ctr : FuncId → Option (Ctr C)} (hctr : CtrOk F.S ctr) {f : FuncId} {fn : Func} {body : Code} (hf : F.S.P.funcs[f]? = some fn) (hb : fn.body = some body) (hk : F.S.hook f = none) (hp : F.S.pol f = .pure)
    (ps : List (Pat C)) (pre : tys ps → Prop) (n : Nat) (l : tys ps → List (C.T n)) (w : AVal) (hw : ∀ n0 H, frz n0 H true 63 w = some w) (full : Bool) (root : Nat) (hpl : ∀ y : C.T n, (C.enc n y).all plainS = true) (N : Nat) (cuts : tys ps → List (Nat × CutD C)) (hn : ps.length ≤ fn.ntmps) (hs : fn.ntmps ≤ 512) (hnd : nodupB ((allK body []).map (·.1)) = true)
    (hentry : ∀ x, pre x → Paid (entryX F ctr N fn body ⟨cuts x, .tup [.R 0, .a w], [.rows n (l x) full root]⟩ (argsS ps x)))
    (hcuts : ∀ x, pre x → ∀ p, p ∈ cuts x → ∀ s, p.2.I s → Paid (cutVC F ctr N fn body ⟨cuts x, .tup [.R 0, .a w], [.rows n (l x) full root]⟩ p.1 p.2 s)) : CtrOk1 F.S f (mkCtrT ps pre n l w) := by
  intro E lo wlo args h H K av hh hS hA
  obtain ⟨x, ⟨hpre, hK⟩, hAx⟩ := takeAll_ok hC hS hA hh
  have hal : ∀ (ps : List (Pat C)) (y : tys ps), (argsS ps y).length = ps.length := by
    intro ps
    induction ps with
    | nil => intro y; rfl
    | cons p ps ih => intro y; simp only [argsS, List.length_cons, ih]
  have hS0 : SimH (away H) ((F.S.pol f).lo lo H) 0 ([] : SH C) H := away_sim (by rw [hp]; simp only [Pol.lo]; exact Nat.le_refl _)
  obtain ⟨m, v, H', E', h1, h2, h4⟩ := fn_runsP hC hX hL hctr hf hb hk ⟨cuts x, .tup [.R 0, .a w], [.rows n (l x) full root]⟩ N (by rw [hal]; exact hn) hs hnd (hentry x hpre).out (fun p hm s hI => (hcuts x hpre p hm s hI).out) hS0 hAx
  rw [hp] at h1 h2
  cases h4 with
  | tup hl he =>
    rename_i ls
    obtain ⟨a0, l1, rfl⟩ : ∃ a l1, ls = a :: l1 := by cases ls with | nil => cases hl | cons a l1 => exact ⟨_, _, rfl⟩
    obtain ⟨a1, l2, rfl⟩ : ∃ a l2, l1 = a :: l2 := by cases l1 with | nil => cases hl | cons a l2 => exact ⟨_, _, rfl⟩
    obtain rfl : l2 = [] := by cases l2 with | nil => rfl | cons => cases hl
    have e0 := he 0 _ _ rfl rfl
    have e1 := he 1 _ _ rfl rfl
    obtain rfl : a1 = w := by cases e1; rfl
    obtain ⟨a, k1, k2⟩ := frz_rowsN 61 hC hpl h2 e0
    have k1 : frz H.length H' true 63 a0 = some a := k1
    have k3 : frz H.length H' true 64 (.tup [a0, a1]) = some (.tup [a, a1]) := by
      unfold frz
      simp only [frzs, k1, hw, Option.map_some]
    refine ⟨.tup [a, a1], H, _, _, E, ⟨m, by rw [h1]; simp only [finish, k3, Option.map_some]⟩, LeN.refl _ _, Nat.le_refl _, hS, Nat.le_refl _, ?_, hK⟩
    refine .tup rfl ?_
    intro i u b hi hj
    rcases i with _ | _ | i
    · cases hi; cases hj; exact k2 E
    · cases hi; cases hj; exact .a _
    · simp at hi

theorem Pat.take_mono {h : SH C} {p : Pat C} {x : SV C.T} {K1 K2 : p.ty → Tree} (hk : ∀ y, (K1 y).holds → (K2 y).holds) (hh : (p.take h x K1).holds) : (p.take h x K2).holds := by
  have row : ∀ (n : Nat) (cs : List (SV C.T)) (K1 K2 : C.T n → Tree), (∀ y, (K1 y).holds → (K2 y).holds) → (takeRow h n cs K1).holds → (takeRow h n cs K2).holds := by
    intro n cs K1 K2 hk hh
    unfold takeRow at hh ⊢
    split at hh
    · obtain ⟨v, h1, h2⟩ := opt_some hh
      simp only [h1]
      exact hk v h2
    · exact (stuck_no hh).elim
  cases p with
  | int k =>
    simp only [Pat.take] at hh ⊢
    split at hh
    · split at hh
      · rename_i hkk
        rw [if_pos hkk]
        exact hk _ hh
      · exact (stuck_no hh).elim
    · exact (stuck_no hh).elim
  | bool =>
    simp only [Pat.take] at hh ⊢
    split at hh
    · exact hk _ hh
    · exact (stuck_no hh).elim
  | str =>
    simp only [Pat.take] at hh ⊢
    split at hh
    · exact hk _ hh
    · exact (stuck_no hh).elim
  | tl n =>
    simp only [Pat.take, takeTl] at hh ⊢
    split at hh
    · split at hh
      · rename_i e
        rw [dif_pos e]
        exact hk _ hh
      · exact (stuck_no hh).elim
    · exact (stuck_no hh).elim
  | row n =>
    simp only [Pat.take] at hh ⊢
    split at hh
    · exact row _ _ _ _ hk hh
    · exact row _ _ _ _ hk hh
    · exact (stuck_no hh).elim
  | frow n =>
    simp only [Pat.take, takeFrow] at hh ⊢
    split at hh
    · split at hh
      · rename_i e
        rw [if_pos e]
        exact row _ _ _ _ hk hh
      · exact (stuck_no hh).elim
    · split at hh
      · rename_i e
        rw [if_pos e]
        exact row _ _ _ _ hk hh
      · exact (stuck_no hh).elim
    · split at hh
      · split at hh
        · rename_i e
          rw [if_pos e]
          exact row _ _ _ _ hk hh
        · exact (stuck_no hh).elim
      · exact (stuck_no hh).elim
    · exact (stuck_no hh).elim
  | exact =>
    simp only [Pat.take] at hh ⊢
    split at hh
    · exact hk _ hh
    · exact (stuck_no hh).elim
  | lit X f =>
    simp only [Pat.take] at hh ⊢
    split at hh
    · obtain ⟨y, e, h1⟩ := hh
      exact ⟨y, e, hk _ h1⟩
    · exact (stuck_no hh).elim
theorem takeAll_mono {h : SH C} : ∀ {ps : List (Pat C)} {xs : List (SV C.T)} {K1 K2 : tys ps → Tree}, (∀ y, (K1 y).holds → (K2 y).holds) → (takeAll h ps xs K1).holds → (takeAll h ps xs K2).holds
  | [], [], K1, K2, hk, hh => hk _ hh
  | [], _ :: _, K1, K2, hk, hh => (stuck_no hh).elim
  | _ :: _, [], K1, K2, hk, hh => (stuck_no hh).elim
  | p :: ps, x :: xs, K1, K2, hk, hh => Pat.take_mono (fun y h1 => takeAll_mono (fun ys h2 => hk _ h2) h1) hh
theorem mkCtr_weak {S : AStat} {f : FuncId} {ps : List (Pat C)} {pre1 pre2 : tys ps → Prop} {res1 res2 : tys ps → SV C.T} {objs1 objs2 : tys ps → List (Obj C.T)} (h : ∀ x, pre1 x → pre2 x ∧ res1 x = res2 x ∧ objs1 x = objs2 x)
    (hc : CtrOk1 S f (mkCtr ⟨ps, pre2, res2, objs2⟩)) : CtrOk1 S f (mkCtr ⟨ps, pre1, res1, objs1⟩) := by
  intro E lo wlo args h0 H K av hh hS hA
  refine hc E lo wlo args h0 H K av ?_ hS hA
  refine takeAll_mono (fun y hy => ?_) hh
  obtain ⟨h1, h2⟩ := hy
  obtain ⟨k1, k2, k3⟩ := h y h1
  refine ⟨k1, ?_⟩
  show (K (shiftS h0.length (res2 y)) (h0 ++ (objs2 y).map fun o => some (shiftO h0.length o))).holds
  rw [← k2, ← k3]
  exact h2

end Go.Sy
