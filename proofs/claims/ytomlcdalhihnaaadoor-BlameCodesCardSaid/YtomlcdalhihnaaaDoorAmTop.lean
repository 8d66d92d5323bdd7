/- The idealised run at the top of a claim: what it computes the model's call answers, and of what was there nothing turns. Generic: over any program. -/
import Derived.Test.YtomlcdalhihnaaaDoorAmRun
import Derived.ProofKit
import Derived.OpenShut
namespace Go.Am
open Go.RowKit Go.ChangeShapes Go.WideShapes Go.ChangeAt

/-- Nothing is the run's own yet; all that stands is sealed; θ: places that are known to be so many. -/
def cx0 (W : World) (θ : List (Nat × Nat) := []) : Cx := { ι := fun _ => none, θ := θ, I := fun B => B < W.heap.size, w := W }

theorem rel0 (W : World) (θ : List (Nat × Nat) := []) : Rel (cx0 W θ) [] where
  blk := fun b blk h => by simp at h
  inj := fun b b' blk blk' B base base' h => by simp at h
  fresh := fun _ _ => rfl
  lt := fun _ h => h

theorem tr0_below {W : World} {θ : List (Nat × Nat)} {c' : Cx} {H' : Heap} (h : Tr (cx0 W θ) [] c' H') : Go.RowKit.Below W.heap.size W c'.w where
  os := h.os
  tape := h.tape
  output := h.output
  size := h.size
  block := fun k hk => h.frame k hk (fun ⟨b, blk, base, hb, _⟩ => by simp at hb)

/-- A law's run that comes to 'true'. -/
theorem law_calls {S : AStat} (hS : StatOk S) {W : World} {θ : List (Nat × Nat)} (hG : GlobOk S (cx0 W θ)) {n : Nat} {f : FuncId} {av : List AVal} {args : Array Value} (hv : Vs (cx0 W θ) av args.toList)
    {H' : Heap} (h : runA S n 0 f av [] = some (.bool true, H')) :
    Calls S.P f args W fun e w' => e = .returned (.bool true) ∧ Go.RowKit.Below W.heap.size W w' := by
  have := (runA_ok hS n 0 f av [] _ _ h (cx0 W θ) args.toList (rel0 W θ) hG hv).2
  rw [Array.toArray_toList] at this
  refine this.mono fun e w' hp => ?_
  obtain ⟨v, c', rfl, rfl, hR, hT, hL, hV⟩ := hp
  simp only [V] at hV
  subst hV
  exact ⟨rfl, tr0_below hT⟩

section
variable {H : Type} {enc : TypeId × Value → H} {P : Program}

/-- Arguments read as they did. -/
theorem trodAll_below (hl : laidOutB P = true) {W W' : World} (hb : Go.RowKit.Below W.heap.size W W') :
    ∀ {ts : List TypeId} {vs : List Value} {ds : List (DataW H)} {ps : List MemPlace}, (ts.all fun t => P.readableRec t && decide (t < P.types.size)) = true →
    DataW.TrodAll enc P W 0 (fun _ => true) true ts vs ds ps → (∀ x ∈ ps, x.block < W.heap.size) → ∀ sp : Nat → Bool, (∀ x ∈ ps, sp x.block = true) → DataW.TrodAll enc P W' 0 sp true ts vs ds ps
  | [], _, _, _, _, h, _, _, _ => by
    obtain ⟨rfl, rfl, rfl⟩ := trodAll_nil h
    exact trodAll_mk0
  | t :: ts, _, _, _, hr, h, hlt, sp, hsp => by
    obtain ⟨v, vs1, d, ds1, a, b, rfl, rfl, rfl, h1, h2⟩ := trodAll_cons h
    simp only [List.all_cons, Bool.and_eq_true, decide_eq_true_eq] at hr
    obtain ⟨⟨hr1, hr2⟩, hr3⟩ := hr
    refine ⟨a, b, ?_, trodAll_below hl hb hr3 h2 (fun x hx => hlt x (List.mem_append.2 (.inr hx))) sp (fun x hx => hsp x (List.mem_append.2 (.inr hx))), rfl⟩
    exact WideElems.Trod_stays hl hr1 hr2 h1 (fun x hx => hb.same (hlt x (List.mem_append.2 (.inl hx)))) (fun x hx => hsp x (List.mem_append.2 (.inl hx)))

/-- The law's 'post', where it returns true, has written nothing that was there, and takes no package variable. -/
theorem post_of_below (hl : laidOutB P = true) {f : Func} {s : ChangeSpec} {apart fresh handsOn again : Bool} {W W' : World} {args : Array Value} {ds gs : List (DataW H)} {before : List MemPlace}
    (hW : DataW.Whole enc P f.params.toList s.vars apart W args.toList ds gs before) (hb : Go.RowKit.Below W.heap.size W W')
    (hps : (f.params.toList.all fun t => P.readableRec t && decide (t < P.types.size)) = true) (hvs : s.vars = [])
    {tb : TypeId} (hrt : f.resultTypes = #[tb]) (htb : P.underlying tb = some .bool)
    (hs : s.fn H (ds ++ gs) = { results := [.lit (.bool true)], args := ds }) :
    s.post enc P f apart fresh handsOn again W args (.bool true) W' := by
  have hres : ∀ (b : Nat) (sp : Nat → Bool) (hd : Bool), DataW.TrodAll enc P W' b sp hd f.resultTypes.toList ((Value.bool true).resultList f.resultTypes.size) (s.fn H (ds ++ gs)).results [] := by
    intro b sp hd
    rw [hs, hrt]
    exact trodAll_cons_mk (shut_bool htb _) trodAll_mk0
  have hlt := hW.lt
  obtain ⟨p, q, hA, hV, hpq, hz, hn⟩ := id hW
  rw [hvs] at hV
  obtain ⟨rfl, rfl⟩ := trodVars_none hV
  simp only [List.append_nil] at hpq
  subst hpq
  have hargs : ∀ sp : Nat → Bool, (∀ x ∈ before, sp x.block = true) → DataW.TrodAll enc P W' 0 sp true f.params.toList args.toList (s.fn H (ds ++ [])).args before := by
    intro sp hsp
    rw [hs]
    exact trodAll_below hl hb hps hA hlt sp hsp
  have hvars : ∀ sp : Nat → Bool, DataW.TrodVars enc P W' sp s.vars (s.fn H (ds ++ [])).vars [] := by
    intro sp
    rw [hs, hvs]
    rfl
  have hold : ∀ x ∈ before, (fun b => decide (b < W.heap.size)) x.block = true := fun x hx => by simpa using hlt x hx
  refine ⟨ds, [], before, [], before, [], hW, hres _ _ _, hargs _ hold, hvars _, World.keptBut_mono (fun p hp => ⟨hp, Or.inr (by simpa using hp)⟩) (hb.frame (· ∈ before)), fun _ => ?_⟩
  refine ⟨ok_one hrt rfl (okWide_bool_mk htb _), _, _, ([] ++ before) ++ [], ⟨[] ++ before, [], trodAll_append (hargs _ (fun _ _ => rfl)) (hres _ _ _), hvars _, rfl, ?_, ?_⟩, ?_⟩
  · intro b off hp
    have hp' : MemPlace.cell b off ∈ before := by simpa using hp
    rw [hb.frozen (hlt _ hp')]
    exact hz b off hp'
  · intro ha
    simpa using hn ha
  · intro x hx _
    simpa using hx

/-- A law's contract, out of a run of the idealised machine at what its arguments read av. -/
theorem law_contract {S : AStat} (hS : StatOk S) (hP : S.P = P) (hl : laidOutB P = true) {fid : FuncId} {f : Func} {s : ChangeSpec} {apart fresh handsOn again : Bool} {W : World} {args : Array Value} {ds gs : List (DataW H)} {before : List MemPlace}
    (hW : DataW.Whole enc P f.params.toList s.vars apart W args.toList ds gs before)
    (hps : (f.params.toList.all fun t => P.readableRec t && decide (t < P.types.size)) = true) (hvs : s.vars = [])
    {tb : TypeId} (hrt : f.resultTypes = #[tb]) (htb : P.underlying tb = some .bool)
    (hs : s.fn H (ds ++ gs) = { results := [.lit (.bool true)], args := ds })
    {θ : List (Nat × Nat)} (hG : GlobOk S (cx0 W θ)) {av : List AVal} (hv : Vs (cx0 W θ) av args.toList) {n : Nat} {H' : Heap} (h : runA S n 0 fid av [] = some (.bool true, H')) :
    Calls P fid args W fun e W' => ∃ v, e = .returned v ∧ s.post enc P f apart fresh handsOn again W args v W' := by
  subst hP
  refine (law_calls hS hG hv h).mono fun e W' ⟨he, hb⟩ => ?_
  subst he
  exact ⟨_, rfl, post_of_below hl hW hb hps hvs hrt htb hs⟩
end
end Go.Am
